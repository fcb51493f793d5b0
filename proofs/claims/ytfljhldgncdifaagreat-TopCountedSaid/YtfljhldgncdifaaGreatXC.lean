/- For TopCounted, part 3. -/
import Derived.Test.YtfljhldgncdifaaGreatXB
import Derived.Test.YtfljhldgncdifaaGreatProg
import Derived.KernelRfl
set_option linter.defProp false
set_option linter.unusedVariables false
set_option linter.unusedSimpArgs false
set_option maxHeartbeats 0
set_option maxRecDepth 100000
open Go.IntKind renaming wrap → c3, i64 → c4, u64 → dv, u8 → ej
open Decidable renaming decide → c5
open Option renaming some → c6, none → e0
open Sum renaming inr → c7, inl → dd, elim → dt
open List renaming map → dk, eq_nil_of_length_eq_zero → e4, mem_singleton → e5, mem_cons → e6, all_cons → ec, getElem?_nil → ee, all_eq_true → ef, map_cons → ei
open Nat renaming beq → dT
open Bool renaming and_eq_true → ea
namespace Go.X.T
open Go Go.Aml Go.Bml Go.X
variable (L:Lp)
abbrev yc:Type:=List Int
def wi{b:Type}(c:List b)(p:b->Option Bool)(a:Int):Option (Int⊕(Int⊕Unit)):=bif c5 (a<(c.length:Int)) then(aj c a).bind λd=>(p d).bind λe=>bif e then c6 (c7 (dd a)) else c6 (dd (c3 c4 (a+1))) else c6 (c7 (c7 ()))
structure bP where
 eU:Int
 wj:Bool
 deriving DecidableEq,Inhabited
def bP.enc(x:bP):PV:=.agg [.int .i64 x.eU,.bool x.wj]
structure bI where
 eF:Int
 fk:Int
 deriving DecidableEq,Inhabited
def bI.enc(x:bI):PV:=.agg [.int .i64 x.eF,.int .i64 x.fk]
structure aZ where
 an:Int
 To:Int
 aj3:Int
 bT:Int
 jy:Bool
 eN:Bool
 anC:bI
 eI:bI
 deriving DecidableEq,Inhabited
def aZ.enc(x:aZ):PV:=.agg [.int .i64 x.an,.int .i64 x.To,.int .i64 x.aj3,.int .i64 x.bT,.bool x.jy,.bool x.eN,.int .i64 x.anC.eF,.int .i64 x.anC.fk,.int .i64 x.eI.eF,.int .i64 x.eI.fk]
structure aS where
 ai:yc
 dX:Int
 dY:Int
 cR:Int
 deriving DecidableEq,Inhabited
def aS.enc(x:aS):PV:=.agg [.vs 1 (dk (PV.int .i64) x.ai),.int .i64 x.dX,.int .i64 x.dY,.int .i64 x.cR]
structure ak where
 ai:List bP
 af:List aZ
 deriving DecidableEq,Inhabited
def ak.enc(x:ak):PV:=.agg [.vs 2 (dk bP.enc x.ai),.vs 10 (dk aZ.enc x.af)]
structure bE where
 akL:yc
 dg:yc
 dG:yc
 er:Int
 deriving DecidableEq,Inhabited
def bE.enc(x:bE):PV:=.agg [.vs 1 (dk (PV.int .i64) x.akL),.vs 1 (dk (PV.int .i64) x.dg),.vs 1 (dk (PV.int .i64) x.dG),.int .i64 x.er]
structure cd where
 bT:yc
 dZ:Int
 ed:Int
 deriving DecidableEq,Inhabited
def cd.enc(x:cd):PV:=.agg [.vs 1 (dk (PV.int .i64) x.bT),.int .i64 x.dZ,.int .i64 x.ed]
structure bC where
 abG:Int
 akw:Int
 ami:Int
 deriving DecidableEq,Inhabited
def bC.enc(x:bC):PV:=.agg [.int .i64 x.abG,.int .i64 x.akw,.int .i64 x.ami]
structure aB where
 ao:ak
 aa0:Int
 aN:List bC
 aw:yc
 aQ:List aS
 cn:yc
 cf:yc
 bp:List (yc)
 deriving DecidableEq,Inhabited
def aB.enc(x:aB):PV:=.agg [.vs 2 (dk bP.enc x.ao.ai),.vs 10 (dk aZ.enc x.ao.af),.int .i64 x.aa0,.vs 3 (dk bC.enc x.aN),.vs 1 (dk (PV.int .i64) x.aw),.vs 4 (dk aS.enc x.aQ),.vs 1 (dk (PV.int .i64) x.cn),.vs 1 (dk (PV.int .i64) x.cf),.vs 1 (dk (λa=>PV.vs 1 (dk (PV.int .i64) a)) x.bp)]
structure pL where
 m:ak
 KE:List bI
 from_:yc
 deriving DecidableEq,Inhabited
def pL.enc(x:pL):PV:=.agg [.vs 2 (dk bP.enc x.m.ai),.vs 10 (dk aZ.enc x.m.af),.vs 2 (dk bI.enc x.KE),.vs 1 (dk (PV.int .i64) x.from_)]
structure bQ where
 aa0:Int
 an:yc
 deriving DecidableEq,Inhabited
def bQ.enc(x:bQ):PV:=.agg [.int .i64 x.aa0,.vs 1 (dk (PV.int .i64) x.an)]
structure b7 where
 State:Int
 dD:Int
 akU:Int
 aa0:Int
 deriving DecidableEq,Inhabited
def b7.enc(x:b7):PV:=.agg [.int .i64 x.State,.int .i64 x.dD,.int .i64 x.akU,.int .i64 x.aa0]
structure bA where
 af:yc
 aa2:yc
 Out:Bool
 deriving DecidableEq,Inhabited
def bA.enc(x:bA):PV:=.agg [.vs 1 (dk (PV.int .i64) x.af),.vs 1 (dk (PV.int .i64) x.aa2),.bool x.Out]
structure kD where
 up:Int
 down:Int
 level:Int
 deriving DecidableEq,Inhabited
def kD.enc(x:kD):PV:=.agg [.int .i64 x.up,.int .i64 x.down,.int .i64 x.level]
structure aM where
 aa0:Int
 an:yc
 deriving DecidableEq,Inhabited
def aM.enc(x:aM):PV:=.agg [.int .i64 x.aa0,.vs 1 (dk (PV.int .i64) x.an)]
structure ay where
 aw:yc
 aH:List aM
 deriving DecidableEq,Inhabited
def ay.enc(x:ay):PV:=.agg [.vs 1 (dk (PV.int .i64) x.aw),.vs 2 (dk aM.enc x.aH)]
structure aL where
 aA:List ay
 deriving DecidableEq,Inhabited
def aL.enc(x:aL):PV:=.agg [.vs 2 (dk ay.enc x.aA)]
structure aT where
 agX:Int
 aj6:Int
 aa0:Int
 aw:yc
 deriving DecidableEq,Inhabited
def aT.enc(x:aT):PV:=.agg [.int .i64 x.agX,.int .i64 x.aj6,.int .i64 x.aa0,.vs 1 (dk (PV.int .i64) x.aw)]
structure cZ where
 dl:yc
 dr:yc
 deriving DecidableEq,Inhabited
def cZ.enc(x:cZ):PV:=.agg [.vs 1 (dk (PV.int .i64) x.dl),.vs 1 (dk (PV.int .i64) x.dr)]
structure cy where
 abv:Int
 eB:Int
 anS:Int
 ku:Int
 l9:Int
 sd:Bool
 uV:Bool
 mZ:Int
 pB:Int
 deriving DecidableEq,Inhabited
def cy.enc(x:cy):PV:=.agg [.int .i64 x.abv,.int .i64 x.eB,.int .i64 x.anS,.int .i64 x.ku,.int .i64 x.l9,.bool x.sd,.bool x.uV,.int .i64 x.mZ,.int .i64 x.pB]
structure bH where
 abv:Int
 A:Int
 B:Int
 C:Int
 deriving DecidableEq,Inhabited
def bH.enc(x:bH):PV:=.agg [.int .i64 x.abv,.int .i64 x.A,.int .i64 x.B,.int .i64 x.C]
structure dK where
 Event:bH
 aa0:Int
 Code:Int
 ll:yc
 deriving DecidableEq,Inhabited
def dK.enc(x:dK):PV:=.agg [.int .i64 x.Event.abv,.int .i64 x.Event.A,.int .i64 x.Event.B,.int .i64 x.Event.C,.int .i64 x.aa0,.int .i64 x.Code,.vs 1 (dk (PV.int .i64) x.ll)]
structure aE where
 au:aB
 ao:ak
 cI:List bI
 bR:bE
 bM:cd
 cq:List aT
 bZ:List aT
 cW:cZ
 bw:aL
 bz:bQ
 aa2:bA
 cL:b7
 bq:aL
 bS:List cy
 bB:List dK
 deriving DecidableEq,Inhabited
def aE.enc(x:aE):PV:=.agg [.vs 2 (dk bP.enc x.au.ao.ai),.vs 10 (dk aZ.enc x.au.ao.af),.int .i64 x.au.aa0,.vs 3 (dk bC.enc x.au.aN),.vs 1 (dk (PV.int .i64) x.au.aw),.vs 4 (dk aS.enc x.au.aQ),.vs 1 (dk (PV.int .i64) x.au.cn),.vs 1 (dk (PV.int .i64) x.au.cf),.vs 1 (dk (λa=>PV.vs 1 (dk (PV.int .i64) a)) x.au.bp),.vs 2 (dk bP.enc x.ao.ai),.vs 10 (dk aZ.enc x.ao.af),.vs 2 (dk bI.enc x.cI),.vs 1 (dk (PV.int .i64) x.bR.akL),.vs 1 (dk (PV.int .i64) x.bR.dg),.vs 1 (dk (PV.int .i64) x.bR.dG),.int .i64 x.bR.er,.vs 1 (dk (PV.int .i64) x.bM.bT),.int .i64 x.bM.dZ,.int .i64 x.bM.ed,.vs 4 (dk aT.enc x.cq),.vs 4 (dk aT.enc x.bZ),.vs 1 (dk (PV.int .i64) x.cW.dl),.vs 1 (dk (PV.int .i64) x.cW.dr),.vs 2 (dk ay.enc x.bw.aA),.int .i64 x.bz.aa0,.vs 1 (dk (PV.int .i64) x.bz.an),.vs 1 (dk (PV.int .i64) x.aa2.af),.vs 1 (dk (PV.int .i64) x.aa2.aa2),.bool x.aa2.Out,.int .i64 x.cL.State,.int .i64 x.cL.dD,.int .i64 x.cL.akU,.int .i64 x.cL.aa0,.vs 2 (dk ay.enc x.bq.aA),.vs 9 (dk cy.enc x.bS),.vs 7 (dk dK.enc x.bB)]
structure aR where
 aI:aE
 named:yc
 deriving DecidableEq,Inhabited
structure fa where
 kO:Int
 abv:Int
 Data:yc
 deriving DecidableEq,Inhabited
def fa.enc(x:fa):PV:=.agg [.int .i64 x.kO,.int .i64 x.abv,.vs 1 (dk (PV.int .u8) x.Data)]
structure dS where
 agX:Int
 Tag:Int
 an:Int
 To:Int
 deriving DecidableEq,Inhabited
def dS.enc(x:dS):PV:=.agg [.int .i64 x.agX,.int .i64 x.Tag,.int .i64 x.an,.int .i64 x.To]
structure dC where
 agX:Int
 Tag:Int
 an:Int
 To:Int
 deriving DecidableEq,Inhabited
def dC.enc(x:dC):PV:=.agg [.int .i64 x.agX,.int .i64 x.Tag,.int .i64 x.an,.int .i64 x.To]
structure kC where
 kind:Int
 Dn:Int
 deriving DecidableEq,Inhabited
def kC.enc(x:kC):PV:=.agg [.int .i64 x.kind,.int .i64 x.Dn]
structure jf where
 x:cd
 s:b7
 k:bA
 b:aL
 t:Int
 from_:Int
 deriving DecidableEq,Inhabited
def jf.enc(x:jf):PV:=.agg [.vs 1 (dk (PV.int .i64) x.x.bT),.int .i64 x.x.dZ,.int .i64 x.x.ed,.int .i64 x.s.State,.int .i64 x.s.dD,.int .i64 x.s.akU,.int .i64 x.s.aa0,.vs 1 (dk (PV.int .i64) x.k.af),.vs 1 (dk (PV.int .i64) x.k.aa2),.bool x.k.Out,.vs 2 (dk ay.enc x.b.aA),.int .i64 x.t,.int .i64 x.from_]
structure cS where
 gX:Int
 from_:Int
 b9:Int
 time:Int
 deriving DecidableEq,Inhabited
def cS.enc(x:cS):PV:=.agg [.int .i64 x.gX,.int .i64 x.from_,.int .i64 x.b9,.int .i64 x.time]
structure cm where
 n:Int
 steps:List cS
 safe:List Bool
 bad:List Bool
 deriving DecidableEq,Inhabited
def cm.enc(x:cm):PV:=.agg [.int .i64 x.n,.vs 4 (dk cS.enc x.steps),.vs 1 (dk PV.bool x.safe),.vs 1 (dk PV.bool x.bad)]
structure da where
 time:Int
 roads:Int
 deriving DecidableEq,Inhabited
def da.enc(x:da):PV:=.agg [.int .i64 x.time,.int .i64 x.roads]
structure ju where
 a0:Int
 a1:Int
 deriving DecidableEq,Inhabited
def ju.enc(x:ju):PV:=.agg [.int .i64 x.a0,.int .i64 x.a1]
structure bD where
 L:yc
 At:Int
 deriving DecidableEq,Inhabited
structure gM where
 ao:ak
 aQ:List aS
 ai:yc
 aw:yc
 cI:List bI
 bR:bE
 bM:cd
 gZ:yc
 deriving DecidableEq,Inhabited
def gM.enc(x:gM):PV:=.agg [.vs 2 (dk bP.enc x.ao.ai),.vs 10 (dk aZ.enc x.ao.af),.vs 4 (dk aS.enc x.aQ),.vs 1 (dk (PV.int .i64) x.ai),.vs 1 (dk (PV.int .i64) x.aw),.vs 2 (dk bI.enc x.cI),.vs 1 (dk (PV.int .i64) x.bR.akL),.vs 1 (dk (PV.int .i64) x.bR.dg),.vs 1 (dk (PV.int .i64) x.bR.dG),.int .i64 x.bR.er,.vs 1 (dk (PV.int .i64) x.bM.bT),.int .i64 x.bM.dZ,.int .i64 x.bM.ed,.vs 1 (dk (PV.int .i64) x.gZ)]
structure qe where
 Ho:yc
 Hp:Int
 deriving DecidableEq,Inhabited
def qe.enc(x:qe):PV:=.agg [.vs 1 (dk (PV.int .u8) x.Ho),.int .i64 x.Hp]
abbrev bU:Type:=List bP
abbrev bW:Type:=List aZ
abbrev dh:Type:=List bC
abbrev ah:Type:=yc
abbrev dq:Type:=List aS
abbrev du:Type:=List (yc)
abbrev Y1:Type:=bU×bW×Int×dh×ah×dq×ah×ah×du×Int
def u1(a:aB)(b:Int):Y1:=(a.ao.ai,a.ao.af,a.aa0,a.aN,a.aw,a.aQ,a.cn,a.cf,a.bp,b)
def CU(i:Y1):aB:=let (z0,c,e,g,a,d,h,f,b,_):=i;(aB.mk (ak.mk z0 c) e g a d h f b)
def Eg(a:Y1):Int:=a.2.2.2.2.2.2.2.2.2
abbrev Y2:Type:=bU×bW×Int×ah×dq×ah×ah×du×dh×Int
def u2(a:aB)(b:Int):Y2:=(a.ao.ai,a.ao.af,a.aa0,a.aw,a.aQ,a.cn,a.cf,a.bp,a.aN,b)
abbrev Y3:Type:=bU×bW×Int×dh×ah×dq×ah×ah×du
def u3(a:aB):Y3:=(a.ao.ai,a.ao.af,a.aa0,a.aN,a.aw,a.aQ,a.cn,a.cf,a.bp)
def wZ(i:Y3):aB:=let (z0,c,e,g,a,d,h,f,b):=i;(aB.mk (ak.mk z0 c) e g a d h f b)
abbrev Y4:Type:=bU×bW×Int×ah×dq×ah×du×dh×ah×Int
def u4(a:aB)(b:Int):Y4:=(a.ao.ai,a.ao.af,a.aa0,a.aw,a.aQ,a.cf,a.bp,a.aN,a.cn,b)
abbrev Y8:Type:=bU×bW×Int×ah×dq×dh×ah×ah×du×Int
def u8(a:aB)(b:Int):Y8:=(a.ao.ai,a.ao.af,a.aa0,a.aw,a.aQ,a.aN,a.cn,a.cf,a.bp,b)
def L6(i:Y8):aB:=let (z0,c,e,g,a,d,h,f,b,_):=i;(aB.mk (ak.mk z0 c) e d g a h f b)
def T0(a:Y8):Int:=a.2.2.2.2.2.2.2.2.2
abbrev Y9:Type:=bU×bW×Int×dh×ah×ah×ah×du×dq×Int
def u9(a:aB)(b:Int):Y9:=(a.ao.ai,a.ao.af,a.aa0,a.aN,a.aw,a.cn,a.cf,a.bp,a.aQ,b)
def Oe(i:Y9):aB:=let (z0,c,e,g,a,d,h,f,b,_):=i;(aB.mk (ak.mk z0 c) e g a b d h f)
def Nk(a:Y9):Int:=a.2.2.2.2.2.2.2.2.2
abbrev Bf:Type:=bU×bW×Int×ah×ah×ah×du×dq×Int
def Ga(a:aB)(b:Int):Bf:=(a.ao.ai,a.ao.af,a.aa0,a.aw,a.cn,a.cf,a.bp,a.aQ,b)
def Pa(g:dh)(i:Bf):aB:=let (z0,b,d,f,a,c,h,e,_):=i;(aB.mk (ak.mk z0 b) d g f e a c h)
def Oj(a:Bf):Int:=a.2.2.2.2.2.2.2.2
abbrev CN:Type:=bU×bW×Int×ah×dq×ah×ah×du
def DY(a:aB):CN:=(a.ao.ai,a.ao.af,a.aa0,a.aw,a.aQ,a.cn,a.cf,a.bp)
def Rg(g:dh)(i:CN):aB:=let (z0,b,d,f,a,c,h,e):=i;(aB.mk (ak.mk z0 b) d g f a c h e)
abbrev EM:Type:=bU×bW×Int×ah×dq×ah×ah×du×Int
def J4(a:aB)(b:Int):EM:=(a.ao.ai,a.ao.af,a.aa0,a.aw,a.aQ,a.cn,a.cf,a.bp,b)
def LU(g:dh)(i:EM):aB:=let (z0,b,d,f,a,c,h,e,_):=i;(aB.mk (ak.mk z0 b) d g f a c h e)
def Tv(a:EM):Int:=a.2.2.2.2.2.2.2.2
abbrev F4:Type:=dh×bU×bW×Int×ah×dq×ah×ah×du
def B7(a:aB):F4:=(a.aN,a.ao.ai,a.ao.af,a.aa0,a.aw,a.aQ,a.cn,a.cf,a.bp)
def Bi(i:F4):aB:=let (z0,c,e,g,a,d,h,f,b):=i;(aB.mk (ak.mk c e) g z0 a d h f b)
abbrev eD:Type:=List bI
abbrev ck:Type:=List aT
abbrev cG:Type:=List ay
abbrev eP:Type:=List cy
abbrev eK:Type:=List dK
abbrev pJ:Type:=bU×bW×Int×dh×ah×dq×ah×ah×du×bU×bW×eD×ah×ah×ah×Int×ah×Int×Int×ck×ck×ah×ah×cG×Int×ah×ah×ah×Bool×Int×Int×Int×Int×cG×eP×eK×Int
def u16(a:aE)(e:Int):pJ:=let b:=a.au;let c:=a.bR;let d:=a.cL;(b.ao.ai,b.ao.af,b.aa0,b.aN,b.aw,b.aQ,b.cn,b.cf,b.bp,a.ao.ai,a.ao.af,a.cI,c.akL,c.dg,c.dG,c.er,a.bM.bT,a.bM.dZ,a.bM.ed,a.cq,a.bZ,a.cW.dl,a.cW.dr,a.bw.aA,a.bz.aa0,a.bz.an,a.aa2.af,a.aa2.aa2,a.aa2.Out,d.State,d.dD,d.akU,d.aa0,a.bq.aA,a.bS,a.bB,e)
def sN(E:pJ):aE:=let (z0,s,G,e,h,t,g,d,r,m,D,b,x,o,u,C,q,v,A,z,p,H,f,B,c,J,w,y,F,I,l,j,n,k,a,i,_):=E;(aE.mk (aB.mk (ak.mk z0 s) G e h t g d r) (ak.mk m D) b (bE.mk x o u C) (cd.mk q v A) z p (cZ.mk H f) (aL.mk B) (bQ.mk c J) (bA.mk w y F) (b7.mk I l j n) (aL.mk k) a i)
def sE(a:pJ):Int:=a.2.2.2.2.2.2.2.2.2.2.2.2.2.2.2.2.2.2.2.2.2.2.2.2.2.2.2.2.2.2.2.2.2.2.2.2
abbrev qc:Type:=bU×bW×Int×dh×ah×dq×ah×ah×du×bU×bW×eD×ah×ah×ah×Int×ah×Int×Int×ck×ck×ah×ah×cG×Int×ah×ah×ah×Bool×Int×Int×Int×Int×cG×eP×eK
def lR(a:aE):qc:=let b:=a.au;let c:=a.bR;let d:=a.cL;(b.ao.ai,b.ao.af,b.aa0,b.aN,b.aw,b.aQ,b.cn,b.cf,b.bp,a.ao.ai,a.ao.af,a.cI,c.akL,c.dg,c.dG,c.er,a.bM.bT,a.bM.dZ,a.bM.ed,a.cq,a.bZ,a.cW.dl,a.cW.dr,a.bw.aA,a.bz.aa0,a.bz.an,a.aa2.af,a.aa2.aa2,a.aa2.Out,d.State,d.dD,d.akU,d.aa0,a.bq.aA,a.bS,a.bB)
def tT(E:qc):aE:=let (z0,s,G,e,h,t,g,d,r,m,D,b,x,o,u,C,q,v,A,z,p,H,f,B,c,J,w,y,F,I,l,j,n,k,a,i):=E;(aE.mk (aB.mk (ak.mk z0 s) G e h t g d r) (ak.mk m D) b (bE.mk x o u C) (cd.mk q v A) z p (cZ.mk H f) (aL.mk B) (bQ.mk c J) (bA.mk w y F) (b7.mk I l j n) (aL.mk k) a i)
abbrev Y26:Type:=bU×bW×Int×dh×ah×dq×ah×ah×du×bU×bW×eD×ah×ah×ah×Int×ah×Int×Int×ck×ck×ah×ah×cG×Int×ah×ah×ah×Bool×Int×Int×Int×Int×cG×eP×eK×ah
def I0(E:Y26):aR:=let (z0,s,G,e,h,t,g,d,r,m,D,b,x,o,u,C,q,v,A,z,p,H,f,B,c,K,w,y,F,J,l,j,n,k,a,i,I):=E;(aR.mk (aE.mk (aB.mk (ak.mk z0 s) G e h t g d r) (ak.mk m D) b (bE.mk x o u C) (cd.mk q v A) z p (cZ.mk H f) (aL.mk B) (bQ.mk c K) (bA.mk w y F) (b7.mk J l j n) (aL.mk k) a i) I)
abbrev Hx:Type:=Int×Int×Int×Int
def u31(a:dS):Hx:=(a.agX,a.Tag,a.an,a.To)
def anK(a:Hx):dS:=(dS.mk a.1 a.2.1 a.2.2.1 a.2.2.2)
abbrev uI:Type:=List dC
abbrev sw:Type:=ck×ah×Int×Int×Int×uI×Int×Int
def u32(e:List aT)(a:aS)(c:List dC)(d:Int)(b:Int):sw:=(e,a.ai,a.dX,a.dY,a.cR,c,d,b)
def Xb(a:sw):List aT:=a.1
def acU(a:sw):aS:=(aS.mk a.2.1 a.2.2.1 a.2.2.2.1 a.2.2.2.2.1)
def aaB(a:sw):List dC:=a.2.2.2.2.2.1
def afG(a:sw):Int:=a.2.2.2.2.2.2.1
def adt(a:sw):Int:=a.2.2.2.2.2.2.2
abbrev pg:Type:=Int×Int×ah×Int×Int×Int×uI×ck
def ql(e:Int)(b:Int)(a:aS)(d:List dC)(c:List aT):pg:=(e,b,a.ai,a.dX,a.dY,a.cR,d,c)
def Jw(a:pg):Int:=a.1
def KY(a:pg):Int:=a.2.1
def Kd(a:pg):aS:=(aS.mk a.2.2.1 a.2.2.2.1 a.2.2.2.2.1 a.2.2.2.2.2.1)
def FE(a:pg):List dC:=a.2.2.2.2.2.2.1
def vh(a:pg):List aT:=a.2.2.2.2.2.2.2
abbrev oI:Type:=Int×Int×ah×Int×Int×Int×uI×ck×Int
def vI(f:Int)(b:Int)(a:aS)(e:List dC)(d:List aT)(c:Int):oI:=(f,b,a.ai,a.dX,a.dY,a.cR,e,d,c)
def ac8(a:oI):Int:=a.1
def ah4(a:oI):Int:=a.2.1
def afQ(a:oI):aS:=(aS.mk a.2.2.1 a.2.2.2.1 a.2.2.2.2.1 a.2.2.2.2.2.1)
def akR(a:oI):List dC:=a.2.2.2.2.2.2.1
def aiI(a:oI):List aT:=a.2.2.2.2.2.2.2.1
def anA(a:oI):Int:=a.2.2.2.2.2.2.2.2
abbrev qt:Type:=Int×Int×ah×Int×Int×Int×ck×uI
def qA(e:Int)(b:Int)(a:aS)(d:List aT)(c:List dC):qt:=(e,b,a.ai,a.dX,a.dY,a.cR,d,c)
def LJ(a:qt):Int:=a.1
def Tn(a:qt):Int:=a.2.1
def MT(a:qt):aS:=(aS.mk a.2.2.1 a.2.2.2.1 a.2.2.2.2.1 a.2.2.2.2.2.1)
def Mb(a:qt):List aT:=a.2.2.2.2.2.2.1
def N2(a:qt):List dC:=a.2.2.2.2.2.2.2
abbrev vW:Type:=ck×ah×Int×Int×Int×Int×Int×uI
def Q0(a:vW):List aT:=a.1
def Qc(a:vW):aS:=(aS.mk a.2.1 a.2.2.1 a.2.2.2.1 a.2.2.2.2.1)
def R8(a:vW):Int:=a.2.2.2.2.2.1
def Rc(a:vW):Int:=a.2.2.2.2.2.2.1
def Tj(a:vW):List dC:=a.2.2.2.2.2.2.2
abbrev qv:Type:=ck×ah×Int×Int×Int×Int×Int×ck×uI
def pC(f:List aT)(a:aS)(d:Int)(e:Int)(c:List aT)(b:List dC):qv:=(f,a.ai,a.dX,a.dY,a.cR,d,e,c,b)
def Se(a:qv):List aT:=a.1
def Fp(a:qv):aS:=(aS.mk a.2.1 a.2.2.1 a.2.2.2.1 a.2.2.2.2.1)
def KG(a:qv):Int:=a.2.2.2.2.2.1
def FU(a:qv):Int:=a.2.2.2.2.2.2.1
def Hz(a:qv):List aT:=a.2.2.2.2.2.2.2.1
def GM(a:qv):List dC:=a.2.2.2.2.2.2.2.2
abbrev pT:Type:=Int×ah×Int×Int×Int×Int×Int×Int×Int×Int×aL×Int
def Ft(f:Int)(a:aS)(b:dC)(e:Int)(d:aL)(c:Int):pT:=(f,a.ai,a.dX,a.dY,a.cR,b.agX,b.Tag,b.an,b.To,e,d,c)
def Gy(a:pT):Int:=a.1
def Ib(a:pT):aS:=(aS.mk a.2.1 a.2.2.1 a.2.2.2.1 a.2.2.2.2.1)
def HF(e:pT):dC:=let (_,_,_,_,_,b,d,c,a,_,_,_):=e;(dC.mk b d c a)
def I2(a:pT):Int:=a.2.2.2.2.2.2.2.2.2.1
def Ir(a:pT):aL:=a.2.2.2.2.2.2.2.2.2.2.1
def JK(a:pT):Int:=a.2.2.2.2.2.2.2.2.2.2.2
abbrev CQ:Type:=bU×bW×Int×dh×ah×dq×ah×ah×du×bU×bW×eD×ah×ah×ah×Int×ah×Int×Int×ah×ah×cG×Int×ah×ah×ah×Bool×Int×Int×Int×Int×cG×eP×eK×Int
def J3(a:aE)(e:Int):CQ:=let b:=a.au;let c:=a.bR;let d:=a.cL;(b.ao.ai,b.ao.af,b.aa0,b.aN,b.aw,b.aQ,b.cn,b.cf,b.bp,a.ao.ai,a.ao.af,a.cI,c.akL,c.dg,c.dG,c.er,a.bM.bT,a.bM.dZ,a.bM.ed,a.cW.dl,a.cW.dr,a.bw.aA,a.bz.aa0,a.bz.an,a.aa2.af,a.aa2.aa2,a.aa2.Out,d.State,d.dD,d.akU,d.aa0,a.bq.aA,a.bS,a.bB,e)
def Rx(n:ck)(v:ck)(E:CQ):aE:=let (z0,r,G,d,g,s,f,c,q,k,D,a,x,m,t,C,p,u,A,z,o,H,e,B,b,J,w,y,F,I,j,h,l,i,_):=E;(aE.mk (aB.mk (ak.mk z0 r) G d g s f c q) (ak.mk k D) a (bE.mk x m t C) (cd.mk p u A) n v (cZ.mk z o) (aL.mk H) (bQ.mk e B) (bA.mk b J w) (b7.mk y F I j) (aL.mk h) l i)
def Tu(a:CQ):Int:=a.2.2.2.2.2.2.2.2.2.2.2.2.2.2.2.2.2.2.2.2.2.2.2.2.2.2.2.2.2.2.2.2.2.2
abbrev J9:Type:=bU×bW×Int×dh×ah×dq×ah×ah×du×bU×bW×eD×ah×ah×ah×Int×ah×Int×Int×ah×ah×cG×Int×ah×ah×ah×Bool×Int×Int×Int×Int×cG×eP×eK
def Mj(a:aE):J9:=let b:=a.au;let c:=a.bR;let d:=a.cL;(b.ao.ai,b.ao.af,b.aa0,b.aN,b.aw,b.aQ,b.cn,b.cf,b.bp,a.ao.ai,a.ao.af,a.cI,c.akL,c.dg,c.dG,c.er,a.bM.bT,a.bM.dZ,a.bM.ed,a.cW.dl,a.cW.dr,a.bw.aA,a.bz.aa0,a.bz.an,a.aa2.af,a.aa2.aa2,a.aa2.Out,d.State,d.dD,d.akU,d.aa0,a.bq.aA,a.bS,a.bB)
def Uh(n:ck)(v:ck)(E:J9):aE:=let (z0,r,G,d,g,s,f,c,q,k,D,a,x,m,t,C,p,u,A,z,o,H,e,B,b,J,w,y,F,I,j,h,l,i):=E;(aE.mk (aB.mk (ak.mk z0 r) G d g s f c q) (ak.mk k D) a (bE.mk x m t C) (cd.mk p u A) n v (cZ.mk z o) (aL.mk H) (bQ.mk e B) (bA.mk b J w) (b7.mk y F I j) (aL.mk h) l i)
abbrev ZU:Type:=bU×Int×dh×ah×dq×ah×ah×du
def u64(a:aB):ZU:=(a.ao.ai,a.aa0,a.aN,a.aw,a.aQ,a.cn,a.cf,a.bp)
abbrev zu:Type:=bU×Int×ah×ah×ah×du×dq×Int
def KL(a:aB)(b:Int):zu:=(a.ao.ai,a.aa0,a.aw,a.cn,a.cf,a.bp,a.aQ,b)
def MR(g:bW)(e:dh)(i:zu):aB:=let (z0,b,d,f,a,c,h,_):=i;(aB.mk (ak.mk z0 g) b e d h f a c)
def L9(a:zu):Int:=a.2.2.2.2.2.2.2
abbrev Ba:Type:=bU×Int×ah×dq×ah×ah×du
def CD(a:aB):Ba:=(a.ao.ai,a.aa0,a.aw,a.aQ,a.cn,a.cf,a.bp)
def O3(g:bW)(e:dh)(i:Ba):aB:=let (z0,b,d,f,a,c,h):=i;(aB.mk (ak.mk z0 g) b e d f a c h)
abbrev Df:Type:=bU×Int×ah×dq×ah×ah×du×Int
def IC(a:aB)(b:Int):Df:=(a.ao.ai,a.aa0,a.aw,a.aQ,a.cn,a.cf,a.bp,b)
def R4(g:bW)(e:dh)(i:Df):aB:=let (z0,b,d,f,a,c,h,_):=i;(aB.mk (ak.mk z0 g) b e d f a c h)
def Lw(a:Df):Int:=a.2.2.2.2.2.2.2
abbrev KA:Type:=bW×dh×bU×Int×ah×dq×ah×ah×du
def MF(a:aB):KA:=(a.ao.af,a.aN,a.ao.ai,a.aa0,a.aw,a.aQ,a.cn,a.cf,a.bp)
def VD(i:KA):aB:=let (z0,c,e,g,a,d,h,f,b):=i;(aB.mk (ak.mk e z0) g c a d h f b)
abbrev uH:Type:=List cS
abbrev lU:Type:=Int×uH
def iC(a:cm):lU:=(a.n,a.steps)
abbrev n9:Type:=List Bool
def ox(c:n9)(b:n9)(a:lU):cm:=(cm.mk a.1 a.2 c b)
abbrev pE:Type:=Int×uH×Int
def nC(a:cm)(b:Int):pE:=(a.n,a.steps,b)
def wK(c:n9)(b:n9)(a:pE):cm:=(cm.mk a.1 a.2.1 c b)
def wo(a:pE):Int:=a.2.2
abbrev Il:Type:=uH×n9×Int×n9
def JJ(a:cm):Il:=(a.steps,a.bad,a.n,a.safe)
def Lk(a:Il):cm:=(cm.mk a.2.2.1 a.1 a.2.2.2 a.2.1)
abbrev FP:Type:=eK×bU×bW×Int×dh×ah×dq×ah×ah×du×bU×bW×eD×ah×ah×ah×Int×ah×Int×Int×ck×ck×ah×ah×cG×Int×ah×ah×ah×Bool×Int×Int×Int×Int×cG×eP
def OE(a:aE):FP:=let b:=a.au;let c:=a.bR;let d:=a.cL;(a.bB,b.ao.ai,b.ao.af,b.aa0,b.aN,b.aw,b.aQ,b.cn,b.cf,b.bp,a.ao.ai,a.ao.af,a.cI,c.akL,c.dg,c.dG,c.er,a.bM.bT,a.bM.dZ,a.bM.ed,a.cq,a.bZ,a.cW.dl,a.cW.dr,a.bw.aA,a.bz.aa0,a.bz.an,a.aa2.af,a.aa2.aa2,a.aa2.Out,d.State,d.dD,d.akU,d.aa0,a.bq.aA,a.bS)
def aiF(E:FP):aE:=let (z0,s,G,e,h,t,g,d,r,m,D,b,x,o,u,C,q,v,A,z,p,H,f,B,c,J,w,y,F,I,l,j,n,k,a,i):=E;(aE.mk (aB.mk (ak.mk s G) e h t g d r m) (ak.mk D b) x (bE.mk o u C q) (cd.mk v A z) p H (cZ.mk f B) (aL.mk c) (bQ.mk J w) (bA.mk y F I) (b7.mk l j n k) (aL.mk a) i z0)
abbrev Ic:Type:=bU×bW×Int×dh×ah×dq×ah×ah×du×bU×bW×eD×ah×ah×ah×Int×ah×Int×Int×ck×ck×ah×ah×cG×Int×ah×ah×ah×Bool×Int×Int×Int×Int×cG×eP
def RG(a:aE):Ic:=let b:=a.au;let c:=a.bR;let d:=a.cL;(b.ao.ai,b.ao.af,b.aa0,b.aN,b.aw,b.aQ,b.cn,b.cf,b.bp,a.ao.ai,a.ao.af,a.cI,c.akL,c.dg,c.dG,c.er,a.bM.bT,a.bM.dZ,a.bM.ed,a.cq,a.bZ,a.cW.dl,a.cW.dr,a.bw.aA,a.bz.aa0,a.bz.an,a.aa2.af,a.aa2.aa2,a.aa2.Out,d.State,d.dD,d.akU,d.aa0,a.bq.aA,a.bS)
def ajj(o:eK)(E:Ic):aE:=let (z0,s,G,e,h,t,g,d,r,l,D,b,x,n,u,C,q,v,A,z,p,H,f,B,c,J,w,y,F,I,k,i,m,j,a):=E;(aE.mk (aB.mk (ak.mk z0 s) G e h t g d r) (ak.mk l D) b (bE.mk x n u C) (cd.mk q v A) z p (cZ.mk H f) (aL.mk B) (bQ.mk c J) (bA.mk w y F) (b7.mk I k i m) (aL.mk j) a o)
abbrev jt:Type:=ck×ck×eK×bU×bW×Int×dh×ah×dq×ah×ah×du×bU×bW×eD×ah×ah×ah×Int×ah×Int×Int×ah×ah×cG×Int×ah×ah×ah×Bool×Int×Int×Int×Int×cG×eP×ah×Int
def cT(h:aR)(i:Int):jt:=let a:=h.aI;let b:=a.au;let d:=a.bR;let e:=a.bM;let f:=a.aa2;let c:=a.cL;let g:=b.ao;(a.cq,a.bZ,a.bB,g.ai,g.af,b.aa0,b.aN,b.aw,b.aQ,b.cn,b.cf,b.bp,a.ao.ai,a.ao.af,a.cI,d.akL,d.dg,d.dG,d.er,e.bT,e.dZ,e.ed,a.cW.dl,a.cW.dr,a.bw.aA,a.bz.aa0,a.bz.an,f.af,f.aa2,f.Out,c.State,c.dD,c.akU,c.aa0,a.bq.aA,a.bS,h.named,i)
def fR(E:jt):aR:=let (z0,s,G,e,h,t,g,d,r,m,D,b,x,o,u,C,q,v,A,z,p,H,f,B,c,K,w,y,F,J,l,j,n,k,a,i,I,_):=E;(aR.mk (aE.mk (aB.mk (ak.mk e h) t g d r m D b) (ak.mk x o) u (bE.mk C q v A) (cd.mk z p H) z0 s (cZ.mk f B) (aL.mk c) (bQ.mk K w) (bA.mk y F J) (b7.mk l j n k) (aL.mk a) i G) I)
def fT(a:jt):Int:=a.2.2.2.2.2.2.2.2.2.2.2.2.2.2.2.2.2.2.2.2.2.2.2.2.2.2.2.2.2.2.2.2.2.2.2.2.2
abbrev Jr:Type:=ck×ck×eK×bU×bW×Int×dh×ah×dq×ah×ah×du×bU×bW×eD×ah×ah×ah×Int×ah×Int×Int×ah×ah×cG×Int×ah×ah×ah×Bool×Int×Int×Int×Int×cG×eP
def IW(a:aE):Jr:=let b:=a.au;let c:=a.bR;let d:=a.cL;(a.cq,a.bZ,a.bB,b.ao.ai,b.ao.af,b.aa0,b.aN,b.aw,b.aQ,b.cn,b.cf,b.bp,a.ao.ai,a.ao.af,a.cI,c.akL,c.dg,c.dG,c.er,a.bM.bT,a.bM.dZ,a.bM.ed,a.cW.dl,a.cW.dr,a.bw.aA,a.bz.aa0,a.bz.an,a.aa2.af,a.aa2.aa2,a.aa2.Out,d.State,d.dD,d.akU,d.aa0,a.bq.aA,a.bS)
def SD(E:Jr):aE:=let (z0,s,G,e,h,t,g,d,r,m,D,b,x,o,u,C,q,v,A,z,p,H,f,B,c,J,w,y,F,I,l,j,n,k,a,i):=E;(aE.mk (aB.mk (ak.mk e h) t g d r m D b) (ak.mk x o) u (bE.mk C q v A) (cd.mk z p H) z0 s (cZ.mk f B) (aL.mk c) (bQ.mk J w) (bA.mk y F I) (b7.mk l j n k) (aL.mk a) i G)
abbrev qz:Type:=ck×eK×bU×bW×Int×dh×ah×dq×ah×ah×du×bU×bW×eD×ah×ah×ah×Int×ah×Int×Int×ck×ah×ah×cG×Int×ah×ah×ah×Bool×Int×Int×Int×Int×cG×eP×ah×Int
def dp(h:aR)(i:Int):qz:=let a:=h.aI;let b:=a.au;let d:=a.bR;let e:=a.bM;let f:=a.aa2;let c:=a.cL;let g:=b.ao;(a.cq,a.bB,g.ai,g.af,b.aa0,b.aN,b.aw,b.aQ,b.cn,b.cf,b.bp,a.ao.ai,a.ao.af,a.cI,d.akL,d.dg,d.dG,d.er,e.bT,e.dZ,e.ed,a.bZ,a.cW.dl,a.cW.dr,a.bw.aA,a.bz.aa0,a.bz.an,f.af,f.aa2,f.Out,c.State,c.dD,c.akU,c.aa0,a.bq.aA,a.bS,h.named,i)
def iS(E:qz):aR:=let (z0,s,G,e,h,t,g,d,r,m,D,b,x,o,u,C,q,v,A,z,p,H,f,B,c,K,w,y,F,J,l,j,n,k,a,i,I,_):=E;(aR.mk (aE.mk (aB.mk (ak.mk G e) h t g d r m D) (ak.mk b x) o (bE.mk u C q v) (cd.mk A z p) z0 H (cZ.mk f B) (aL.mk c) (bQ.mk K w) (bA.mk y F J) (b7.mk l j n k) (aL.mk a) i s) I)
def iJ(a:qz):Int:=a.2.2.2.2.2.2.2.2.2.2.2.2.2.2.2.2.2.2.2.2.2.2.2.2.2.2.2.2.2.2.2.2.2.2.2.2.2
abbrev qW:Type:=Int×Int×Int×Int×ah×Int×Int×Int×ck×eK×bU×bW×Int×dh×ah×dq×ah×ah×du×bU×bW×eD×ah×ah×ah×Int×ah×Int×Int×ck×ah×ah×cG×Int×ah×ah×ah×Bool×Int×Int×Int×Int×cG×eP×ah×aL×Int
def La(f:dS)(c:aS)(j:aR)(l:aL)(k:Int):qW:=let a:=j.aI;let b:=a.au;let e:=a.bR;let g:=a.bM;let h:=a.aa2;let d:=a.cL;let i:=b.ao;(f.agX,f.Tag,f.an,f.To,c.ai,c.dX,c.dY,c.cR,a.cq,a.bB,i.ai,i.af,b.aa0,b.aN,b.aw,b.aQ,b.cn,b.cf,b.bp,a.ao.ai,a.ao.af,a.cI,e.akL,e.dg,e.dG,e.er,g.bT,g.dZ,g.ed,a.bZ,a.cW.dl,a.cW.dr,a.bw.aA,a.bz.aa0,a.bz.an,h.af,h.aa2,h.Out,d.State,d.dD,d.akU,d.aa0,a.bq.aA,a.bS,j.named,l,k)
def F7(a:qW):dS:=(dS.mk a.1 a.2.1 a.2.2.1 a.2.2.2.1)
def HJ(a:qW):aS:=(aS.mk a.2.2.2.2.1 a.2.2.2.2.2.1 a.2.2.2.2.2.2.1 a.2.2.2.2.2.2.2.1)
def G2(F:qW):aR:=let (_,_,_,_,_,_,_,_,q,j,E,b,w,l,r,D,p,t,B,z,o,H,d,C,c,M,v,x,G,K,i,g,k,h,a,f,J,u,m,y,e,n,s,I,A,_,_):=F;(aR.mk (aE.mk (aB.mk (ak.mk E b) w l r D p t B) (ak.mk z o) H (bE.mk d C c M) (cd.mk v x G) q K (cZ.mk i g) (aL.mk k) (bQ.mk h a) (bA.mk f J u) (b7.mk m y e n) (aL.mk s) I j) A)
def IB(a:qW):aL:=a.2.2.2.2.2.2.2.2.2.2.2.2.2.2.2.2.2.2.2.2.2.2.2.2.2.2.2.2.2.2.2.2.2.2.2.2.2.2.2.2.2.2.2.2.2.1
def HV(a:qW):Int:=a.2.2.2.2.2.2.2.2.2.2.2.2.2.2.2.2.2.2.2.2.2.2.2.2.2.2.2.2.2.2.2.2.2.2.2.2.2.2.2.2.2.2.2.2.2.2
abbrev Dk:Type:=bU×bW×Int×dh×ah×dq×ah×ah×du×bU×bW×eD×ah×ah×ah×Int×ah×Int×Int×ck×ah×ah×cG×Int×ah×ah×ah×Bool×Int×Int×Int×Int×cG×eP×ah
def qI(h:aR):Dk:=let a:=h.aI;let b:=a.au;let d:=a.bR;let e:=a.bM;let f:=a.aa2;let c:=a.cL;let g:=b.ao;(g.ai,g.af,b.aa0,b.aN,b.aw,b.aQ,b.cn,b.cf,b.bp,a.ao.ai,a.ao.af,a.cI,d.akL,d.dg,d.dG,d.er,e.bT,e.dZ,e.ed,a.bZ,a.cW.dl,a.cW.dr,a.bw.aA,a.bz.aa0,a.bz.an,f.af,f.aa2,f.Out,c.State,c.dD,c.akU,c.aa0,a.bq.aA,a.bS,h.named)
def Sl(o:ck)(w:eK)(F:Dk):aR:=let (z0,s,H,e,h,t,g,d,r,l,E,b,y,n,u,D,q,v,B,A,p,I,f,C,c,K,x,z,G,J,k,i,m,j,a):=F;(aR.mk (aE.mk (aB.mk (ak.mk z0 s) H e h t g d r) (ak.mk l E) b (bE.mk y n u D) (cd.mk q v B) o A (cZ.mk p I) (aL.mk f) (bQ.mk C c) (bA.mk K x z) (b7.mk G J k i) (aL.mk m) j w) a)
abbrev vq:Type:=ck×eK×bU×bW×Int×dh×ah×dq×ah×ah×du×bU×bW×eD×ah×ah×ah×Int×ah×Int×Int×ck×ah×ah×cG×Int×ah×ah×ah×Bool×Int×Int×Int×Int×cG×eP×ah×Int×Int×Int×Int×ah×Int×Int×Int
def ol(j:aR)(c:dS)(f:aS):vq:=let a:=j.aI;let b:=a.au;let e:=a.bR;let g:=a.bM;let h:=a.aa2;let d:=a.cL;let i:=b.ao;(a.cq,a.bB,i.ai,i.af,b.aa0,b.aN,b.aw,b.aQ,b.cn,b.cf,b.bp,a.ao.ai,a.ao.af,a.cI,e.akL,e.dg,e.dG,e.er,g.bT,g.dZ,g.ed,a.bZ,a.cW.dl,a.cW.dr,a.bw.aA,a.bz.aa0,a.bz.an,h.af,h.aa2,h.Out,d.State,d.dD,d.akU,d.aa0,a.bq.aA,a.bS,j.named,c.agX,c.Tag,c.an,c.To,f.ai,f.dX,f.dY,f.cR)
def MU(E:vq):aR:=let (z0,s,G,e,h,t,g,d,r,m,D,b,x,o,u,C,q,v,A,z,p,H,f,B,c,K,w,y,F,J,l,j,n,k,a,i,I,_,_,_,_,_,_,_,_):=E;(aR.mk (aE.mk (aB.mk (ak.mk G e) h t g d r m D) (ak.mk b x) o (bE.mk u C q v) (cd.mk A z p) z0 H (cZ.mk f B) (aL.mk c) (bQ.mk K w) (bA.mk y F J) (b7.mk l j n k) (aL.mk a) i s) I)
def Me(e:vq):dS:=let (_,_,_,_,_,_,_,_,_,_,_,_,_,_,_,_,_,_,_,_,_,_,_,_,_,_,_,_,_,_,_,_,_,_,_,_,_,a,b,c,d,_,_,_,_):=e;(dS.mk a b c d)
def N4(e:vq):aS:=let (_,_,_,_,_,_,_,_,_,_,_,_,_,_,_,_,_,_,_,_,_,_,_,_,_,_,_,_,_,_,_,_,_,_,_,_,_,_,_,_,_,c,a,b,d):=e;(aS.mk c a b d)
abbrev ug:Type:=ck×eK×bU×bW×Int×dh×ah×dq×ah×ah×du×bU×bW×eD×ah×ah×ah×Int×ah×Int×Int×ck×ah×ah×cG×Int×ah×ah×ah×Bool×Int×Int×Int×Int×cG×eP×ah×ah×Int×Int×Int×Int
def Cb(i:aR)(c:aS)(j:Int):ug:=let a:=i.aI;let b:=a.au;let e:=a.bR;let f:=a.bM;let g:=a.aa2;let d:=a.cL;let h:=b.ao;(a.cq,a.bB,h.ai,h.af,b.aa0,b.aN,b.aw,b.aQ,b.cn,b.cf,b.bp,a.ao.ai,a.ao.af,a.cI,e.akL,e.dg,e.dG,e.er,f.bT,f.dZ,f.ed,a.bZ,a.cW.dl,a.cW.dr,a.bw.aA,a.bz.aa0,a.bz.an,g.af,g.aa2,g.Out,d.State,d.dD,d.akU,d.aa0,a.bq.aA,a.bS,i.named,c.ai,c.dX,c.dY,c.cR,j)
def Q2(E:ug):aR:=let (z0,s,G,e,h,t,g,d,r,m,D,b,x,o,u,C,q,v,A,z,p,H,f,B,c,K,w,y,F,J,l,j,n,k,a,i,I,_,_,_,_,_):=E;(aR.mk (aE.mk (aB.mk (ak.mk G e) h t g d r m D) (ak.mk b x) o (bE.mk u C q v) (cd.mk A z p) z0 H (cZ.mk f B) (aL.mk c) (bQ.mk K w) (bA.mk y F J) (b7.mk l j n k) (aL.mk a) i s) I)
def Qd(e:ug):aS:=let (_,_,_,_,_,_,_,_,_,_,_,_,_,_,_,_,_,_,_,_,_,_,_,_,_,_,_,_,_,_,_,_,_,_,_,_,_,a,b,c,d,_):=e;(aS.mk a b c d)
def R9(a:ug):Int:=a.2.2.2.2.2.2.2.2.2.2.2.2.2.2.2.2.2.2.2.2.2.2.2.2.2.2.2.2.2.2.2.2.2.2.2.2.2.2.2.2.2
abbrev rY:Type:=ck×eK×bU×bW×Int×dh×ah×dq×ah×ah×du×bU×bW×eD×ah×ah×ah×Int×ah×Int×Int×ck×ah×ah×cG×Int×ah×ah×ah×Bool×Int×Int×Int×Int×cG×eP×ah
def mf(h:aR):rY:=let a:=h.aI;let b:=a.au;let d:=a.bR;let e:=a.bM;let f:=a.aa2;let c:=a.cL;let g:=b.ao;(a.cq,a.bB,g.ai,g.af,b.aa0,b.aN,b.aw,b.aQ,b.cn,b.cf,b.bp,a.ao.ai,a.ao.af,a.cI,d.akL,d.dg,d.dG,d.er,e.bT,e.dZ,e.ed,a.bZ,a.cW.dl,a.cW.dr,a.bw.aA,a.bz.aa0,a.bz.an,f.af,f.aa2,f.Out,c.State,c.dD,c.akU,c.aa0,a.bq.aA,a.bS,h.named)
def Al(E:rY):aR:=let (z0,s,G,e,h,t,g,d,r,m,D,b,x,o,u,C,q,v,A,z,p,H,f,B,c,K,w,y,F,J,l,j,n,k,a,i,I):=E;(aR.mk (aE.mk (aB.mk (ak.mk G e) h t g d r m D) (ak.mk b x) o (bE.mk u C q v) (cd.mk A z p) z0 H (cZ.mk f B) (aL.mk c) (bQ.mk K w) (bA.mk y F J) (b7.mk l j n k) (aL.mk a) i s) I)
abbrev qU:Type:=ck×eK×bU×bW×Int×dh×ah×dq×ah×ah×du×bU×bW×eD×ah×ah×ah×Int×ah×Int×Int×ck×ah×ah×cG×Int×ah×ah×ah×Bool×Int×Int×Int×Int×cG×eP×ah×Int×ah×Int×Int×Int×Int×Int×Int×Int×Int
def nJ(j:aR)(k:Int)(e:aS)(f:dC)(l:Int):qU:=let a:=j.aI;let b:=a.au;let d:=a.bR;let g:=a.bM;let h:=a.aa2;let c:=a.cL;let i:=b.ao;(a.cq,a.bB,i.ai,i.af,b.aa0,b.aN,b.aw,b.aQ,b.cn,b.cf,b.bp,a.ao.ai,a.ao.af,a.cI,d.akL,d.dg,d.dG,d.er,g.bT,g.dZ,g.ed,a.bZ,a.cW.dl,a.cW.dr,a.bw.aA,a.bz.aa0,a.bz.an,h.af,h.aa2,h.Out,c.State,c.dD,c.akU,c.aa0,a.bq.aA,a.bS,j.named,k,e.ai,e.dX,e.dY,e.cR,f.agX,f.Tag,f.an,f.To,l)
def M2(E:qU):aR:=let (z0,s,G,e,h,t,g,d,r,m,D,b,x,o,u,C,q,v,A,z,p,H,f,B,c,K,w,y,F,J,l,j,n,k,a,i,I,_,_,_,_,_,_,_,_,_,_):=E;(aR.mk (aE.mk (aB.mk (ak.mk G e) h t g d r m D) (ak.mk b x) o (bE.mk u C q v) (cd.mk A z p) z0 H (cZ.mk f B) (aL.mk c) (bQ.mk K w) (bA.mk y F J) (b7.mk l j n k) (aL.mk a) i s) I)
def OW(a:qU):Int:=a.2.2.2.2.2.2.2.2.2.2.2.2.2.2.2.2.2.2.2.2.2.2.2.2.2.2.2.2.2.2.2.2.2.2.2.2.2.1
def N9(e:qU):aS:=let (_,_,_,_,_,_,_,_,_,_,_,_,_,_,_,_,_,_,_,_,_,_,_,_,_,_,_,_,_,_,_,_,_,_,_,_,_,_,a,c,d,b,_,_,_,_,_):=e;(aS.mk a c d b)
def P1(e:qU):dC:=let (_,_,_,_,_,_,_,_,_,_,_,_,_,_,_,_,_,_,_,_,_,_,_,_,_,_,_,_,_,_,_,_,_,_,_,_,_,_,_,_,_,_,a,c,d,b,_):=e;(dC.mk a c d b)
def RU(a:qU):Int:=a.2.2.2.2.2.2.2.2.2.2.2.2.2.2.2.2.2.2.2.2.2.2.2.2.2.2.2.2.2.2.2.2.2.2.2.2.2.2.2.2.2.2.2.2.2.2
abbrev uy:Type:=ck×eK×bU×bW×Int×dh×ah×dq×ah×ah×du×bU×bW×eD×ah×ah×ah×Int×ah×Int×Int×ck×ah×ah×cG×Int×ah×ah×ah×Bool×Int×Int×Int×Int×cG×eP×ah×Int
def uZ(h:aR)(i:Int):uy:=let a:=h.aI;let b:=a.au;let d:=a.bR;let e:=a.bM;let f:=a.aa2;let c:=a.cL;let g:=b.ao;(a.cq,a.bB,g.ai,g.af,b.aa0,b.aN,b.aw,b.aQ,b.cn,b.cf,b.bp,a.ao.ai,a.ao.af,a.cI,d.akL,d.dg,d.dG,d.er,e.bT,e.dZ,e.ed,a.bZ,a.cW.dl,a.cW.dr,a.bw.aA,a.bz.aa0,a.bz.an,f.af,f.aa2,f.Out,c.State,c.dD,c.akU,c.aa0,a.bq.aA,a.bS,h.named,i)
def Si(E:uy):aR:=let (z0,s,G,e,h,t,g,d,r,m,D,b,x,o,u,C,q,v,A,z,p,H,f,B,c,K,w,y,F,J,l,j,n,k,a,i,I,_):=E;(aR.mk (aE.mk (aB.mk (ak.mk G e) h t g d r m D) (ak.mk b x) o (bE.mk u C q v) (cd.mk A z p) z0 H (cZ.mk f B) (aL.mk c) (bQ.mk K w) (bA.mk y F J) (b7.mk l j n k) (aL.mk a) i s) I)
def LF(a:uy):Int:=a.2.2.2.2.2.2.2.2.2.2.2.2.2.2.2.2.2.2.2.2.2.2.2.2.2.2.2.2.2.2.2.2.2.2.2.2.2
abbrev DU:Type:=bU×bW×Int×dh×ah×dq×ah×ah×du×bU×bW×eD×ah×ah×ah×Int×ah×Int×Int×ah×ah×cG×Int×ah×ah×ah×Bool×Int×Int×Int×Int×cG×eP×ah×eD
def UN(h:aR)(i:List bI):DU:=let a:=h.aI;let b:=a.au;let d:=a.bR;let e:=a.bM;let f:=a.aa2;let c:=a.cL;let g:=b.ao;(g.ai,g.af,b.aa0,b.aN,b.aw,b.aQ,b.cn,b.cf,b.bp,a.ao.ai,a.ao.af,a.cI,d.akL,d.dg,d.dG,d.er,e.bT,e.dZ,e.ed,a.cW.dl,a.cW.dr,a.bw.aA,a.bz.aa0,a.bz.an,f.af,f.aa2,f.Out,c.State,c.dD,c.akU,c.aa0,a.bq.aA,a.bS,h.named,i)
def ao9(n:ck)(w:ck)(o:eK)(F:DU):aR:=let (z0,s,H,d,g,t,f,c,r,k,E,a,y,m,u,D,q,v,B,A,p,I,e,C,b,K,x,z,G,J,j,h,l,i,_):=F;(aR.mk (aE.mk (aB.mk (ak.mk z0 s) H d g t f c r) (ak.mk k E) a (bE.mk y m u D) (cd.mk q v B) n w (cZ.mk A p) (aL.mk I) (bQ.mk e C) (bA.mk b K x) (b7.mk z G J j) (aL.mk h) l o) i)
def Yk(a:DU):List bI:=a.2.2.2.2.2.2.2.2.2.2.2.2.2.2.2.2.2.2.2.2.2.2.2.2.2.2.2.2.2.2.2.2.2.2
abbrev jU:Type:=bU×bW×Int×dh×ah×dq×ah×ah×du×bU×bW×eD×ah×ah×ah×Int×ah×Int×Int×ah×ah×cG×Int×ah×ah×ah×Bool×Int×Int×Int×Int×cG×eP×ah×Int
def iv(h:aR)(i:Int):jU:=let a:=h.aI;let b:=a.au;let d:=a.bR;let e:=a.bM;let f:=a.aa2;let c:=a.cL;let g:=b.ao;(g.ai,g.af,b.aa0,b.aN,b.aw,b.aQ,b.cn,b.cf,b.bp,a.ao.ai,a.ao.af,a.cI,d.akL,d.dg,d.dG,d.er,e.bT,e.dZ,e.ed,a.cW.dl,a.cW.dr,a.bw.aA,a.bz.aa0,a.bz.an,f.af,f.aa2,f.Out,c.State,c.dD,c.akU,c.aa0,a.bq.aA,a.bS,h.named,i)
def nT(n:ck)(w:ck)(o:eK)(F:jU):aR:=let (z0,s,H,d,g,t,f,c,r,k,E,a,y,m,u,D,q,v,B,A,p,I,e,C,b,K,x,z,G,J,j,h,l,i,_):=F;(aR.mk (aE.mk (aB.mk (ak.mk z0 s) H d g t f c r) (ak.mk k E) a (bE.mk y m u D) (cd.mk q v B) n w (cZ.mk A p) (aL.mk I) (bQ.mk e C) (bA.mk b K x) (b7.mk z G J j) (aL.mk h) l o) i)
def nO(a:jU):Int:=a.2.2.2.2.2.2.2.2.2.2.2.2.2.2.2.2.2.2.2.2.2.2.2.2.2.2.2.2.2.2.2.2.2.2
abbrev jk:Type:=bU×bW×Int×dh×ah×dq×ah×ah×du×bU×bW×eD×ah×ah×ah×Int×ah×Int×Int×ah×ah×cG×Int×ah×ah×ah×Bool×Int×Int×Int×Int×cG×eP×ah
def fj(h:aR):jk:=let a:=h.aI;let b:=a.au;let d:=a.bR;let e:=a.bM;let f:=a.aa2;let c:=a.cL;let g:=b.ao;(g.ai,g.af,b.aa0,b.aN,b.aw,b.aQ,b.cn,b.cf,b.bp,a.ao.ai,a.ao.af,a.cI,d.akL,d.dg,d.dG,d.er,e.bT,e.dZ,e.ed,a.cW.dl,a.cW.dr,a.bw.aA,a.bz.aa0,a.bz.an,f.af,f.aa2,f.Out,c.State,c.dD,c.akU,c.aa0,a.bq.aA,a.bS,h.named)
def lu(n:ck)(w:ck)(o:eK)(F:jk):aR:=let (z0,s,H,d,g,t,f,c,r,k,E,a,y,m,u,D,q,v,B,A,p,I,e,C,b,K,x,z,G,J,j,h,l,i):=F;(aR.mk (aE.mk (aB.mk (ak.mk z0 s) H d g t f c r) (ak.mk k E) a (bE.mk y m u D) (cd.mk q v B) n w (cZ.mk A p) (aL.mk I) (bQ.mk e C) (bA.mk b K x) (b7.mk z G J j) (aL.mk h) l o) i)
abbrev nH:Type:=bU×bW×Int×dh×ah×dq×ah×ah×du×bU×bW×eD×ah×ah×ah×Int×ah×Int×Int×ah×ah×cG×Int×ah×ah×ah×Bool×Int×Int×Int×Int×cG×eP×ah×Int
def jw(h:aR)(i:Int):nH:=let a:=h.aI;let b:=a.au;let d:=a.bR;let e:=a.bM;let f:=a.aa2;let c:=a.cL;let g:=b.ao;(g.ai,g.af,b.aa0,b.aN,b.aw,b.aQ,b.cn,b.cf,b.bp,a.ao.ai,a.ao.af,a.cI,d.akL,d.dg,d.dG,d.er,e.bT,e.dZ,e.ed,a.cW.dl,a.cW.dr,a.bw.aA,a.bz.aa0,a.bz.an,f.af,f.aa2,f.Out,c.State,c.dD,c.akU,c.aa0,a.bq.aA,a.bS,h.named,i)
def tP(n:ck)(w:ck)(o:eK)(F:nH):aR:=let (z0,s,H,d,g,t,f,c,r,k,E,a,y,m,u,D,q,v,B,A,p,I,e,C,b,K,x,z,G,J,j,h,l,i,_):=F;(aR.mk (aE.mk (aB.mk (ak.mk z0 s) H d g t f c r) (ak.mk k E) a (bE.mk y m u D) (cd.mk q v B) n w (cZ.mk A p) (aL.mk I) (bQ.mk e C) (bA.mk b K x) (b7.mk z G J j) (aL.mk h) l o) i)
def um(a:nH):Int:=a.2.2.2.2.2.2.2.2.2.2.2.2.2.2.2.2.2.2.2.2.2.2.2.2.2.2.2.2.2.2.2.2.2.2
abbrev xe:Type:=ah×Int×ah×Int×Int×Int
def JB(b:bD)(a:aS):xe:=(b.L,b.At,a.ai,a.dX,a.dY,a.cR)
def ajn(a:xe):bD:=(bD.mk a.1 a.2.1)
def aom(a:xe):aS:=(aS.mk a.2.2.1 a.2.2.2.1 a.2.2.2.2.1 a.2.2.2.2.2)
abbrev DN:Type:=bU×bW×dq×ah×ah×eD×ah×ah×ah×Int×ah×Int×Int×ah
def zl(a:gM):DN:=let b:=a.bR;(a.ao.ai,a.ao.af,a.aQ,a.ai,a.aw,a.cI,b.akL,b.dg,b.dG,b.er,a.bM.bT,a.bM.dZ,a.bM.ed,a.gZ)
def Nr(n:DN):gM:=let (z0,c,e,h,a,d,l,g,b,i,m,f,j,k):=n;(gM.mk (ak.mk z0 c) e h a d (bE.mk l g b i) (cd.mk m f j) k)
abbrev vL:Type:=ah×Int×Int×Int×Int×Int
def rB(b:bD)(a:bH):vL:=(b.L,b.At,a.abv,a.A,a.B,a.C)
def aba(a:vL):bD:=(bD.mk a.1 a.2.1)
def age(a:vL):bH:=(bH.mk a.2.2.1 a.2.2.2.1 a.2.2.2.2.1 a.2.2.2.2.2)
abbrev Hr:Type:=Int×bU×bW×Int×dh×ah×dq×ah×ah×du×Int
def agv(a:Hr):Int:=a.1
def alg(j:Hr):aB:=let (_,c,e,g,a,d,i,f,b,h,_):=j;(aB.mk (ak.mk c e) g a d i f b h)
def aqn(a:Hr):Int:=a.2.2.2.2.2.2.2.2.2.2
abbrev Kh:Type:=ah×bU×bW×Int×dh×ah×dq×ah×ah×du×Int
def Lm(a:Kh):yc:=a.1
def Nn(j:Kh):aB:=let (_,c,e,g,a,d,i,f,b,h,_):=j;(aB.mk (ak.mk c e) g a d i f b h)
def Mw(a:Kh):Int:=a.2.2.2.2.2.2.2.2.2.2
abbrev Ov:Type:=bC×bU×bW×Int×dh×ah×dq×ah×ah×du
def af1(a:Ov):bC:=a.1
def ak0(j:Ov):aB:=let (_,c,e,g,a,d,i,f,b,h):=j;(aB.mk (ak.mk c e) g a d i f b h)
abbrev QE:Type:=dh×bU×bW×Int×dh×ah×dq×ah×ah×du
def Mf(a:QE):List bC:=a.1
def T7(j:QE):aB:=let (_,c,e,g,a,d,i,f,b,h):=j;(aB.mk (ak.mk c e) g a d i f b h)
abbrev sY:Type:=Int×ah×Int×Int×Int×Int×Int×Int×Int×Int×ak×aL
def acS(a:sY):Int:=a.1
def aay(a:sY):aS:=(aS.mk a.2.1 a.2.2.1 a.2.2.2.1 a.2.2.2.2.1)
def afC(e:sY):dC:=let (_,_,_,_,_,b,d,c,a,_,_,_):=e;(dC.mk b d c a)
def akx(a:sY):Int:=a.2.2.2.2.2.2.2.2.2.1
def aim(a:sY):ak:=a.2.2.2.2.2.2.2.2.2.2.1
def ank(a:sY):aL:=a.2.2.2.2.2.2.2.2.2.2.2
abbrev Ju:Type:=bC×bU×bW×Int×dh×ah×dq×ah×ah×du×bU×bW×eD×ah×ah×ah×Int×ah×Int×Int×ck×ck×ah×ah×cG×Int×ah×ah×ah×Bool×Int×Int×Int×Int×cG×eP×eK×ah×Int×Int×Int×Int
def anW(a:Ju):bC:=a.1
def WC(F:Ju):aR:=let (_,s,H,e,h,t,g,d,r,m,E,b,y,o,u,D,q,v,B,A,p,I,f,C,c,M,x,z,G,K,l,j,n,k,a,i,J,w,_,_,_,_):=F;(aR.mk (aE.mk (aB.mk (ak.mk s H) e h t g d r m) (ak.mk E b) y (bE.mk o u D q) (cd.mk v B A) p I (cZ.mk f C) (aL.mk c) (bQ.mk M x) (bA.mk z G K) (b7.mk l j n k) (aL.mk a) i J) w)
def acs(e:Ju):bH:=let (_,_,_,_,_,_,_,_,_,_,_,_,_,_,_,_,_,_,_,_,_,_,_,_,_,_,_,_,_,_,_,_,_,_,_,_,_,_,a,c,d,b):=e;(bH.mk a c d b)
abbrev Gf:Type:=dh×bU×bW×Int×dh×ah×dq×ah×ah×du×bU×bW×eD×ah×ah×ah×Int×ah×Int×Int×ck×ck×ah×ah×cG×Int×ah×ah×ah×Bool×Int×Int×Int×Int×cG×eP×eK×ah×Int×Int×Int×Int
def On(a:Gf):List bC:=a.1
def Qm(F:Gf):aR:=let (_,s,H,e,h,t,g,d,r,m,E,b,y,o,u,D,q,v,B,A,p,I,f,C,c,M,x,z,G,K,l,j,n,k,a,i,J,w,_,_,_,_):=F;(aR.mk (aE.mk (aB.mk (ak.mk s H) e h t g d r m) (ak.mk E b) y (bE.mk o u D q) (cd.mk v B A) p I (cZ.mk f C) (aL.mk c) (bQ.mk M x) (bA.mk z G K) (b7.mk l j n k) (aL.mk a) i J) w)
def Px(e:Gf):bH:=let (_,_,_,_,_,_,_,_,_,_,_,_,_,_,_,_,_,_,_,_,_,_,_,_,_,_,_,_,_,_,_,_,_,_,_,_,_,_,a,c,d,b):=e;(bH.mk a c d b)
abbrev Rm:Type:=List da
abbrev EQ:Type:=cS×Int×Int×uH×n9×n9×Rm
def Wh(a:EQ):cS:=a.1
def aqq(a:EQ):Int:=a.2.1
def ZI(a:EQ):cm:=(cm.mk a.2.2.1 a.2.2.2.1 a.2.2.2.2.1 a.2.2.2.2.2.1)
def aeS(a:EQ):List da:=a.2.2.2.2.2.2
abbrev Bn:Type:=uH×Int×Int×uH×n9×n9×Rm
def afq(a:Bn):List cS:=a.1
def akl(a:Bn):Int:=a.2.1
def aic(a:Bn):cm:=(cm.mk a.2.2.1 a.2.2.2.1 a.2.2.2.2.1 a.2.2.2.2.2.1)
def am5(a:Bn):List da:=a.2.2.2.2.2.2
abbrev Fv:Type:=Int×bU×bW×ah×ah×ah×Int
def Zl(a:Fv):Int:=a.1
def Wt(a:Fv):ak:=(ak.mk a.2.1 a.2.2.1)
def ace(e:Fv):bE:=let (_,_,_,c,a,b,d):=e;(bE.mk c a b d)
abbrev Gc:Type:=ah×bU×bW×ah×ah×ah×Int
def Q5(a:Gc):yc:=a.1
def Qh(a:Gc):ak:=(ak.mk a.2.1 a.2.2.1)
def Sc(e:Gc):bE:=let (_,_,_,c,a,b,d):=e;(bE.mk c a b d)
abbrev Rj:Type:=ck×ck×eK×bU×bW×Int×dh×ah×dq×ah×ah×du×bU×bW×eD×ah×ah×ah×Int×ah×Int×Int×ah×ah×cG×Int×ah×ah×ah×Bool×Int×Int×Int×Int×cG×eP×ah×bH
def kU(E:Rj):aR:=let (z0,s,G,e,h,t,g,d,r,m,D,b,x,o,u,C,q,v,A,z,p,H,f,B,c,K,w,y,F,J,l,j,n,k,a,i,I,_):=E;(aR.mk (aE.mk (aB.mk (ak.mk e h) t g d r m D b) (ak.mk x o) u (bE.mk C q v A) (cd.mk z p H) z0 s (cZ.mk f B) (aL.mk c) (bQ.mk K w) (bA.mk y F J) (b7.mk l j n k) (aL.mk a) i G) I)
def kT(a:Rj):bH:=a.2.2.2.2.2.2.2.2.2.2.2.2.2.2.2.2.2.2.2.2.2.2.2.2.2.2.2.2.2.2.2.2.2.2.2.2.2
abbrev wz:Type:=Int×Int×Int×Int×ah×Int×Int×Int×ck×eK×bU×bW×Int×dh×ah×dq×ah×ah×du×bU×bW×eD×ah×ah×ah×Int×ah×Int×Int×ck×ah×ah×cG×Int×ah×ah×ah×Bool×Int×Int×Int×Int×cG×eP×ah×ak×aL
def aeD(a:wz):dS:=(dS.mk a.1 a.2.1 a.2.2.1 a.2.2.2.1)
def acw(a:wz):aS:=(aS.mk a.2.2.2.2.1 a.2.2.2.2.2.1 a.2.2.2.2.2.2.1 a.2.2.2.2.2.2.2.1)
def ahv(F:wz):aR:=let (_,_,_,_,_,_,_,_,q,j,E,b,w,l,r,D,p,t,B,z,o,H,d,C,c,M,v,x,G,K,i,g,k,h,a,f,J,u,m,y,e,n,s,I,A,_,_):=F;(aR.mk (aE.mk (aB.mk (ak.mk E b) w l r D p t B) (ak.mk z o) H (bE.mk d C c M) (cd.mk v x G) q K (cZ.mk i g) (aL.mk k) (bQ.mk h a) (bA.mk f J u) (b7.mk m y e n) (aL.mk s) I j) A)
def amb(a:wz):ak:=a.2.2.2.2.2.2.2.2.2.2.2.2.2.2.2.2.2.2.2.2.2.2.2.2.2.2.2.2.2.2.2.2.2.2.2.2.2.2.2.2.2.2.2.2.2.1
def aj7(a:wz):aL:=a.2.2.2.2.2.2.2.2.2.2.2.2.2.2.2.2.2.2.2.2.2.2.2.2.2.2.2.2.2.2.2.2.2.2.2.2.2.2.2.2.2.2.2.2.2.2
abbrev Kv:Type:=ck×eK×bU×bW×Int×dh×ah×dq×ah×ah×du×bU×bW×eD×ah×ah×ah×Int×ah×Int×Int×ck×ah×ah×cG×Int×ah×ah×ah×Bool×Int×Int×Int×Int×cG×eP×ah×Int×Int
def Vp(E:Kv):aR:=let (z0,s,G,e,h,t,g,d,r,m,D,b,x,o,u,C,q,v,A,z,p,H,f,B,c,K,w,y,F,J,l,j,n,k,a,i,I,_,_):=E;(aR.mk (aE.mk (aB.mk (ak.mk G e) h t g d r m D) (ak.mk b x) o (bE.mk u C q v) (cd.mk A z p) z0 H (cZ.mk f B) (aL.mk c) (bQ.mk K w) (bA.mk y F J) (b7.mk l j n k) (aL.mk a) i s) I)
def apR(a:Kv):Int:=a.2.2.2.2.2.2.2.2.2.2.2.2.2.2.2.2.2.2.2.2.2.2.2.2.2.2.2.2.2.2.2.2.2.2.2.2.2.1
def Y6(a:Kv):Int:=a.2.2.2.2.2.2.2.2.2.2.2.2.2.2.2.2.2.2.2.2.2.2.2.2.2.2.2.2.2.2.2.2.2.2.2.2.2.2
abbrev OO:Type:=ck×eK×bU×bW×Int×dh×ah×dq×ah×ah×du×bU×bW×eD×ah×ah×ah×Int×ah×Int×Int×ah×ah×cG×Int×ah×ah×ah×Bool×Int×Int×Int×Int×cG×eP×ah×ck×bH
def agZ(E:OO):aR:=let (z0,s,G,e,h,t,g,d,r,m,D,b,x,o,u,C,q,v,A,z,p,H,f,B,c,K,w,y,F,J,l,j,n,k,a,i,I,_):=E;(aR.mk (aE.mk (aB.mk (ak.mk G e) h t g d r m D) (ak.mk b x) o (bE.mk u C q v) (cd.mk A z p) z0 I (cZ.mk H f) (aL.mk B) (bQ.mk c K) (bA.mk w y F) (b7.mk J l j n) (aL.mk k) a s) i)
def aeX(a:OO):bH:=a.2.2.2.2.2.2.2.2.2.2.2.2.2.2.2.2.2.2.2.2.2.2.2.2.2.2.2.2.2.2.2.2.2.2.2.2.2
abbrev QZ:Type:=ck×ck×eK×bU×bW×Int×dh×ah×dq×ah×ah×du×bU×bW×eD×ah×ah×ah×Int×ah×Int×Int×ah×ah×cG×Int×ah×ah×ah×Bool×Int×Int×Int×Int×cG×eP×ah×Int
def ams(E:QZ):aR:=let (z0,s,G,e,h,t,g,d,r,m,D,b,x,o,u,C,q,v,A,z,p,H,f,B,c,K,w,y,F,J,l,j,n,k,a,i,I,_):=E;(aR.mk (aE.mk (aB.mk (ak.mk e h) t g d r m D b) (ak.mk x o) u (bE.mk C q v A) (cd.mk z p H) z0 s (cZ.mk f B) (aL.mk c) (bQ.mk K w) (bA.mk y F J) (b7.mk l j n k) (aL.mk a) i G) I)
def UW(a:QZ):Int:=a.2.2.2.2.2.2.2.2.2.2.2.2.2.2.2.2.2.2.2.2.2.2.2.2.2.2.2.2.2.2.2.2.2.2.2.2.2
abbrev Ti:Type:=ay×bU×bW×Int×dh×ah×dq×ah×ah×du×bU×bW×eD×ah×ah×ah×Int×ah×Int×Int×ck×ck×ah×ah×cG×Int×ah×ah×ah×Bool×Int×Int×Int×Int×cG×eP×eK
def VG(a:Ti):ay:=a.1
def abC(E:Ti):aE:=let (_,s,G,e,h,t,g,d,r,m,D,b,x,o,u,C,q,v,A,z,p,H,f,B,c,K,w,y,F,J,l,j,n,k,a,i,I):=E;(aE.mk (aB.mk (ak.mk s G) e h t g d r m) (ak.mk D b) x (bE.mk o u C q) (cd.mk v A z) p H (cZ.mk f B) (aL.mk c) (bQ.mk K w) (bA.mk y F J) (b7.mk l j n k) (aL.mk a) i I)
abbrev PN:Type:=cG×bU×bW×Int×dh×ah×dq×ah×ah×du×bU×bW×eD×ah×ah×ah×Int×ah×Int×Int×ck×ck×ah×ah×cG×Int×ah×ah×ah×Bool×Int×Int×Int×Int×cG×eP×eK
def QN(a:PN):List ay:=a.1
def P0(E:PN):aE:=let (_,s,G,e,h,t,g,d,r,m,D,b,x,o,u,C,q,v,A,z,p,H,f,B,c,K,w,y,F,J,l,j,n,k,a,i,I):=E;(aE.mk (aB.mk (ak.mk s G) e h t g d r m) (ak.mk D b) x (bE.mk o u C q) (cd.mk v A z) p H (cZ.mk f B) (aL.mk c) (bQ.mk K w) (bA.mk y F J) (b7.mk l j n k) (aL.mk a) i I)
abbrev RT:Type:=Int×bU×bW×Int×dh×ah×dq×ah×ah×du×bU×bW×eD×ah×ah×ah×Int×ah×Int×Int×ck×ck×ah×ah×cG×Int×ah×ah×ah×Bool×Int×Int×Int×Int×cG×eP×eK
def SY(a:RT):Int:=a.1
def Mx(E:RT):aE:=let (_,s,G,e,h,t,g,d,r,m,D,b,x,o,u,C,q,v,A,z,p,H,f,B,c,K,w,y,F,J,l,j,n,k,a,i,I):=E;(aE.mk (aB.mk (ak.mk s G) e h t g d r m) (ak.mk D b) x (bE.mk o u C q) (cd.mk v A z) p H (cZ.mk f B) (aL.mk c) (bQ.mk K w) (bA.mk y F J) (b7.mk l j n k) (aL.mk a) i I)
abbrev Lz:Type:=bC×bU×bW×Int×dh×ah×dq×ah×ah×du×bU×bW×eD×ah×ah×ah×Int×ah×Int×Int×ck×ck×ah×ah×cG×Int×ah×ah×ah×Bool×Int×Int×Int×Int×cG×eP×eK
def YR(a:Lz):bC:=a.1
def ad4(E:Lz):aE:=let (_,s,G,e,h,t,g,d,r,m,D,b,x,o,u,C,q,v,A,z,p,H,f,B,c,K,w,y,F,J,l,j,n,k,a,i,I):=E;(aE.mk (aB.mk (ak.mk s G) e h t g d r m) (ak.mk D b) x (bE.mk o u C q) (cd.mk v A z) p H (cZ.mk f B) (aL.mk c) (bQ.mk K w) (bA.mk y F J) (b7.mk l j n k) (aL.mk a) i I)
abbrev NY:Type:=dh×bU×bW×Int×dh×ah×dq×ah×ah×du×bU×bW×eD×ah×ah×ah×Int×ah×Int×Int×ck×ck×ah×ah×cG×Int×ah×ah×ah×Bool×Int×Int×Int×Int×cG×eP×eK
def RK(a:NY):List bC:=a.1
def QT(E:NY):aE:=let (_,s,G,e,h,t,g,d,r,m,D,b,x,o,u,C,q,v,A,z,p,H,f,B,c,K,w,y,F,J,l,j,n,k,a,i,I):=E;(aE.mk (aB.mk (ak.mk s G) e h t g d r m) (ak.mk D b) x (bE.mk o u C q) (cd.mk v A z) p H (cZ.mk f B) (aL.mk c) (bQ.mk K w) (bA.mk y F J) (b7.mk l j n k) (aL.mk a) i I)
abbrev SO:Type:=dK×bU×bW×Int×dh×ah×dq×ah×ah×du×bU×bW×eD×ah×ah×ah×Int×ah×Int×Int×ck×ck×ah×ah×cG×Int×ah×ah×ah×Bool×Int×Int×Int×Int×cG×eP×eK
def UL(a:SO):dK:=a.1
def aaD(E:SO):aE:=let (_,s,G,e,h,t,g,d,r,m,D,b,x,o,u,C,q,v,A,z,p,H,f,B,c,K,w,y,F,J,l,j,n,k,a,i,I):=E;(aE.mk (aB.mk (ak.mk s G) e h t g d r m) (ak.mk D b) x (bE.mk o u C q) (cd.mk v A z) p H (cZ.mk f B) (aL.mk c) (bQ.mk K w) (bA.mk y F J) (b7.mk l j n k) (aL.mk a) i I)
abbrev MC:Type:=eK×bU×bW×Int×dh×ah×dq×ah×ah×du×bU×bW×eD×ah×ah×ah×Int×ah×Int×Int×ck×ck×ah×ah×cG×Int×ah×ah×ah×Bool×Int×Int×Int×Int×cG×eP×eK
def NM(a:MC):List dK:=a.1
def PH(E:MC):aE:=let (_,s,G,e,h,t,g,d,r,m,D,b,x,o,u,C,q,v,A,z,p,H,f,B,c,K,w,y,F,J,l,j,n,k,a,i,I):=E;(aE.mk (aB.mk (ak.mk s G) e h t g d r m) (ak.mk D b) x (bE.mk o u C q) (cd.mk v A z) p H (cZ.mk f B) (aL.mk c) (bQ.mk K w) (bA.mk y F J) (b7.mk l j n k) (aL.mk a) i I)
def I1(L:Lp)(a:yc):Option Bool:=c6 (c5 ((a.length:Int)<=400))
def yQ(L:Lp)(a:bI)(b:Int)(c:Int):Option Bool:=bif c5 (b<=a.eF) then bif c5 (a.eF<=a.fk) then c6 (c5 (a.fk<=c)) else c6 false else c6 false
def yL(L:Lp)(b:ak)(a:Int):Option (Int⊕(Unit⊕Unit)):=bif c5 (a<(b.ai.length:Int)) then(aj b.ai a).bind λc=>(bif c5 (c.eU<(-10000)) then c6 true else c6 (c5 (10000<c.eU))).bind λd=>bif d then c6 (c7 (dd ())) else c6 (dd (c3 c4 (a+1))) else c6 (c7 (c7 ()))
def vX(b:ak)(c:Int):Option (Int⊕(Int⊕Unit)):=bif c5 (c<(b.af.length:Int)) then(aj b.af c).bind λa=>(bif c5 (a.an<0) then c6 true else bif c5 ((b.ai.length:Int)<=a.an) then c6 true else bif c5 (a.To<0) then c6 true else bif c5 ((b.ai.length:Int)<=a.To) then c6 true else c6 (c5 (a.an=a.To))).bind λh=>bif h then c6 (c7 (dd 4)) else(bif c5 (a.aj3<1) then c6 true else bif c5 (100000<a.aj3) then c6 true else bif c5 (a.bT<1) then c6 true else c6 (c5 (1000<a.bT))).bind λd=>bif d then c6 (c7 (dd 1)) else((yQ L a.anC 1 262144).bind λe=>bif (!e) then c6 true else(yQ L a.eI (-2199023255552) 2199023255552).bind λg=>c6 (!g):Option Bool).bind λf=>bif f then c6 (c7 (dd 1)) else c6 (dd (c3 c4 (c+1))) else c6 (c7 (c7 ()))
def zG(a:ak):Option Int:=(bif c5 (64<(a.ai.length:Int)) then c6 true else c6 (c5 (128<(a.af.length:Int)))).bind λf=>bif f then c6 2 else(L.loop (λb=>yL L a b) 0).bind λc=>dt (λh=>c6 1) (λg=>(L.loop (λb=>vX L a b) 0).bind λe=>dt (λd=>c6 d) (λi=>c6 0) e) c
def ij(a:ak):Option Bool:=(zG L a).bind λb=>c6 (c5 (b=0))
def wx(L:Lp)(c:yc)(f:Int)(e:Int)(a:Int):Option (Int⊕(Unit⊕Unit)):=bif c5 (a<(c.length:Int)) then(aj c a).bind λb=>(bif c5 (b<f) then c6 true else bif c5 (e<b) then c6 true else bif c5 (0<a) then(aj c (c3 c4 (a -1))).bind λd=>c6 (c5 (b<=d)) else c6 false).bind λg=>bif g then c6 (c7 (dd ())) else c6 (dd (c3 c4 (a+1))) else c6 (c7 (c7 ()))
def iU(c:yc)(e:Int)(a:Int):Option Bool:=(L.loop (λd=>wx L c e a d) 0).bind λb=>dt (λg=>c6 false) (λf=>c6 true) b
def cp(L:Lp)(a:Int)(b:Int)(c:Int):Option Bool:=bif c5 (b<=a) then c6 (c5 (a<=c)) else c6 false
def wN(a:aS)(e:ak):Option Bool:=bif c5 ((a.ai.length:Int)=0) then c6 true else(iU L a.ai 0 (c3 c4 ((e.ai.length:Int) -1))).bind λc=>bif (!c) then c6 true else(cp L a.dX 1 600).bind λb=>bif (!b) then c6 true else(cp L a.dY 0 10).bind λd=>bif (!d) then c6 true else(cp L a.cR 0 60).bind λf=>c6 (!f)
def Ha(a:List aS)(b:ak)(c:Int):Option (Int⊕(Int⊕Unit)):=wi a (λd=>wN L d b) c
def Fh(b:List aS)(a:ak):Option Int:=(L.loop (λd=>Ha L b a d) 0).bind λe=>dt (λc=>c6 c) (λf=>c6 (-1)) e
def El(a:List aS)(c:ak):Option Bool:=(Fh L a c).bind λb=>c6 (c5 (0<=b))
def wI(a:ak)(b:List aS):Option Bool:=(ij L a).bind λc=>bif c then bif c5 ((b.length:Int)<=32) then(El L b a).bind λd=>c6 (!d) else c6 false else c6 false
def Ci(a:Int)(c:ak):Option Bool:=(cp L a 0 (c3 c4 ((c.ai.length:Int) -1))).bind λb=>c6 (!b)
def KM(a:yc)(b:ak)(c:Int):Option (Int⊕(Int⊕Unit)):=wi a (λd=>Ci L d b) c
def KC(b:yc)(a:ak):Option Int:=(L.loop (λd=>KM L b a d) 0).bind λe=>dt (λc=>c6 c) (λf=>c6 (-1)) e
def Cg(a:yc)(c:ak):Option Bool:=(KC L a c).bind λb=>c6 (c5 (0<=b))
def qK(L:Lp)(a:yc):Option yc:=c6 a
def rl(L:Lp)(a:yc):Option yc:=rC a
def IA(L:Lp)(a:yc):Option yc:=bj 8 [] a
def Kx(a:yc):Option yc:=(IA L a).bind λb=>c6 b
def rG(b:yc):Option yc:=(Kx L b).bind λa=>(rl L a).bind λc=>c6 c
def ym(b:yc):Option Bool:=(qK L b).bind λa=>(rG L a).bind λd=>(iU L d 1 65535).bind λc=>c6 c
def kF(L:Lp)(a:List bP):Option (List bP):=bj 16 [] a
def kQ(L:Lp)(a:List aZ):Option (List aZ):=bj 72 [] a
def rf(L:Lp)(a:List bC):Option (List bC):=bj 24 [] a
def cc(L:Lp)(a:yc):Option yc:=bj 8 [] a
def ue(d:aB)(a:aB)(b:Int):Option (Y9⊕Y3):=bif c5 (b<(d.aQ.length:Int)) then(aj d.aQ b).bind λc=>(cc L c.ai).bind λe=>(bj 48 a.aQ ([({c with ai:=e}:aS)]:List aS)).bind λf=>c6 (dd (u9 ({a with aQ:=f}:aB) (c3 c4 (b+1)))) else c6 (c7 (u3 a))
def tG(c:aB)(b:aB)(a:Int):Option (Y1⊕Y3):=bif c5 (a<(c.bp.length:Int)) then(aj c.bp a).bind λf=>(cc L f).bind λd=>(bj 24 b.bp ([d]:List (yc))).bind λe=>c6 (dd (u1 ({b with bp:=e}:aB) (c3 c4 (a+1)))) else c6 (c7 (u3 b))
def yS(a:aB):Option aB:=(kF L a.ao.ai).bind λc=>(kQ L a.ao.af).bind λl=>(rf L a.aN).bind λj=>(cc L a.aw).bind λd=>(L.loop (λb=>ue L a (Oe b) (Nk b)) (u9 ({a with ao:=(ak.mk c l),aN:=j,aw:=d,aQ:=([]:List aS)}:aB) 0)).bind λg=>let h:=wZ g;(cc L a.cn).bind λf=>(cc L a.cf).bind λi=>(L.loop (λb=>tG L a (CU b) (Eg b)) (u1 ({h with cn:=f,cf:=i,bp:=([]:List (yc))}:aB) 0)).bind λk=>let e:=wZ k;c6 e
def tX(L:Lp)(c:yc)(a:aB)(b:Int):Option (Y8⊕Y3):=bif c5 (b<(c.length:Int)) then(aj c b).bind λd=>(bj 24 a.aN ([(bC.mk d (-1) 0)]:List bC)).bind λe=>c6 (dd (u8 ({a with aN:=e}:aB) (c3 c4 (b+1)))) else c6 (c7 (u3 a))
def sH(L:Lp)(h:List aS)(d:yc)(a:aB)(b:Int):Option (Y1⊕Y3):=bif c5 (b<(h.length:Int)) then(bj 8 a.cn ([(-1)]:yc)).bind λe=>(bj 8 a.cf ([(-1)]:yc)).bind λg=>(gP 8 0 (d.length:Int)).bind λc=>(bj 24 a.bp ([c]:List (yc))).bind λf=>c6 (dd (u1 ({a with cn:=e,cf:=g,bp:=f}:aB) (c3 c4 (b+1)))) else c6 (c7 (u3 a))
def Ef(d:ak)(c:List aS)(b:yc)(e:yc)(f:Int):Option (aB×Int):=((wI L d c).bind λq=>bif (!q) then c6 true else bif c5 ((e.length:Int)≠(b.length:Int)) then c6 true else(cp L (b.length:Int) 1 12).bind λn=>c6 (!n):Option Bool).bind λr=>bif r then c6 ((aB.mk (ak.mk ([]:List bP) ([]:List aZ)) 0 ([]:List bC) ([]:yc) ([]:List aS) ([]:yc) ([]:yc) ([]:List (yc))),6) else(Cg L b d).bind λs=>bif s then c6 ((aB.mk (ak.mk ([]:List bP) ([]:List aZ)) 0 ([]:List bC) ([]:yc) ([]:List aS) ([]:yc) ([]:yc) ([]:List (yc))),3) else(ym L e).bind λl=>bif (!l) then c6 ((aB.mk (ak.mk ([]:List bP) ([]:List aZ)) 0 ([]:List bC) ([]:yc) ([]:List aS) ([]:yc) ([]:yc) ([]:List (yc))),41) else(cp L f 0 2147483648).bind λo=>bif (!o) then c6 ((aB.mk (ak.mk ([]:List bP) ([]:List aZ)) 0 ([]:List bC) ([]:yc) ([]:List aS) ([]:yc) ([]:yc) ([]:List (yc))),8) else(L.loop (λa=>tX L b (L6 a) (T0 a)) (u8 (aB.mk d f ([]:List bC) e c ([]:yc) ([]:yc) ([]:List (yc))) 0)).bind λh=>let j:=wZ h;((L.loop (λa=>sH L c b (CU a) (Eg a)) (u1 j 0)).bind λi=>let p:=wZ i;c6 (u3 p):Option Y3).bind λk=>let m:=wZ k;(yS L m).bind λg=>c6 (g,0)
def EP(L:Lp)(a:bI):Option Bool:=bif c5 (a.eF<(-1125899906842624)) then c6 true else bif c5 (1125899906842624<a.fk) then c6 true else c6 (c5 (a.fk<a.eF))
def Kz(a:List bI)(b:Int):Option (Int⊕(Int⊕Unit)):=wi a (λc=>EP L c) b
def Kq(a:List bI):Option Int:=(L.loop (λc=>Kz L a c) 0).bind λd=>dt (λb=>c6 b) (λe=>c6 (-1)) d
def B8(a:List bI):Option Bool:=(Kq L a).bind λb=>c6 (c5 (0<=b))
def pD(a:ak)(b:List bI):Option Bool:=(ij L a).bind λc=>bif c then bif c5 ((b.length:Int)=(a.af.length:Int)) then(B8 L b).bind λd=>c6 (!d) else c6 false else c6 false
def vk(L:Lp)(b:Int)(a:Int):Option (Int×Int):=(iN .u64 b 32).bind λc=>(iN .u64 a 32).bind λd=>(iN .u64 (dv.wrap ((bits .and .u64 b 4294967295)*(bits .and .u64 a 4294967295))) 32).bind λe=>(iN .u64 (dv.wrap ((dv.wrap (c*(bits .and .u64 a 4294967295)))+e)) 32).bind λg=>(iN .u64 (dv.wrap ((bits .and .u64 (dv.wrap ((dv.wrap (c*(bits .and .u64 a 4294967295)))+e)) 4294967295)+(dv.wrap ((bits .and .u64 b 4294967295)*d)))) 32).bind λf=>c6 (dv.wrap ((dv.wrap ((dv.wrap (c*d))+g))+f),dv.wrap (b*a))
def DJ(b:Int)(c:Int):Option (Int×Int):=(vk L b c).bind λa=>c6 (a.1,a.2)
def pZ(L:Lp)(a:yc)(b:Int):Option (((yc)×Int)⊕(yc)):=bif c5 (b<(a.length:Int)) then(eG a b (a.length:Int)).bind λ_=>(eG a 0 b).bind λ_=>c6 (dd (mg ((a.drop ((0:Int).toNat)).take (b.toNat - (0:Int).toNat)) (b.toNat) (((a.length:Int)).toNat -b.toNat) a,c3 c4 (b+((min (((a.length:Int)).toNat -b.toNat) ((a.drop ((0:Int).toNat)).take (b.toNat - (0:Int).toNat)).length:Nat):Int)))) else c6 (c7 a)
def EC(b:yc)(e:Int):Option yc:=bif c5 (e<0) then e0 else(DJ L (dv.wrap (b.length:Int)) (dv.wrap e)).bind λc=>(bif c5 (0<c.1) then c6 true else c6 (c5 (9223372036854775807<c.2))).bind λg=>bif g then e0 else(gP 8 0 (c3 c4 c.2)).bind λa=>(L.loop (λd=>pZ L d.1 d.2) (mg b 0 (a.length) a,((min (a.length) b.length:Nat):Int))).bind λf=>c6 f
def afR(L:Lp)(a:yc)(b:Int):Option (((yc)×Int)⊕(yc)):=bif c5 (b<(a.length:Int)) then(eG a b (a.length:Int)).bind λ_=>(eG a 0 b).bind λ_=>c6 (dd (mg ((a.drop ((0:Int).toNat)).take (b.toNat - (0:Int).toNat)) (b.toNat) (((a.length:Int)).toNat -b.toNat) a,c3 c4 (b+((min (((a.length:Int)).toNat -b.toNat) ((a.drop ((0:Int).toNat)).take (b.toNat - (0:Int).toNat)).length:Nat):Int)))) else c6 (c7 a)
def sJ(b:yc)(e:Int):Option yc:=bif c5 (e<0) then e0 else(DJ L (dv.wrap (b.length:Int)) (dv.wrap e)).bind λc=>(bif c5 (0<c.1) then c6 true else c6 (c5 (9223372036854775807<c.2))).bind λg=>bif g then e0 else(gP 8 0 (c3 c4 c.2)).bind λa=>(L.loop (λd=>afR L d.1 d.2) (mg b 0 (a.length) a,((min (a.length) b.length:Nat):Int))).bind λf=>c6 f
def n6(L:Lp)(e:ak)(d:Int)(a:bI)(k:Bool):Option Int:=(bif c5 (d<0) then c6 true else bif c5 ((e.af.length:Int)<=d) then c6 true else(aj e.af d).bind λj=>c6 j.eN).bind λi=>bif i then c6 (-1) else(aj e.af d).bind λb=>(bif k then c6 (c3 c4 (0 -a.fk),c3 c4 (0 -a.eF)) else c6 (a.eF,a.fk)).bind λf=>(bif c5 ((c3 c4 ((-500)*b.bT))<f.2) then c6 b.aj3 else c6 (-1)).bind λc=>bif c5 (0<f.2) then(ph .i64 (c3 c4 ((c3 c4 (b.aj3*b.bT))*1000)) f.2).bind λg=>(bif c5 (c<0) then c6 true else c6 (c5 (g<c))).bind λh=>bif h then c6 g else c6 c else c6 c
def yr(a:yc)(g:List bP)(f:List aZ)(p:List bI)(e:Int)(b:Int)(c:Int)(o:Bool):Option ((yc)×Bool):=(aj p e).bind λj=>(n6 L (ak.mk g f) e j o).bind λd=>(bif c5 (d<0) then c6 true else(aj a b).bind λ_=>(a[b.toNat]?).bind λi=>bif c5 (2147483648<i) then c6 true else(aj a b).bind λ_=>(a[b.toNat]?).bind λm=>bif c5 (2147483648<(c3 c4 (m+d))) then c6 true else(aj a b).bind λ_=>(a[b.toNat]?).bind λn=>(aj a c).bind λ_=>(a[c.toNat]?).bind λh=>c6 (c5 (h<=(c3 c4 (n+d))))).bind λk=>bif k then c6 (a,false) else(aj a b).bind λ_=>(a[b.toNat]?).bind λl=>(aj a c).bind λ_=>(a[c.toNat]?).bind λ_=>c6 (a.set (c.toNat) (c3 c4 (l+d)),true)
def I6(b:List aZ)(e:List bP)(i:List bI)(d:yc)(f:Bool)(a:Int):Option (((yc)×Bool×Int)⊕((yc)×Bool)):=bif c5 (a<(b.length:Int)) then(aj b a).bind λc=>(yr L d e b i a c.an c.To false).bind λg=>(yr L g.1 e b i a c.To c.an true).bind λh=>(bif f then c6 true else bif g.2 then c6 true else c6 h.2).bind λj=>c6 (dd (h.1,j,c3 c4 (a+1))) else c6 (c7 (d,f))
def Ms(d:List aZ)(f:List bP)(g:List bI)(c:yc)(e:Bool):Option (((yc)×Bool)⊕(yc)):=bif e then(L.loop (λa=>I6 L d f g a.1 a.2.1 a.2.2) (c,false,0)).bind λb=>c6 (dd (b.1,b.2)) else c6 (c7 c)
def rM(c:yc)(e:List bP)(b:List aZ)(f:List bI):Option yc:=(L.loop (λa=>Ms L b e f a.1 a.2) (c,true)).bind λd=>c6 d
def Fg(L:Lp)(d:yc)(e:Int)(a:yc)(b:Int):Option (((yc)×Int)⊕(yc)):=bif c5 (b<(d.length:Int)) then(aj d b).bind λc=>(aj a c).bind λ_=>(a[c.toNat]?).bind λ_=>c6 (dd (a.set (c.toNat) e,c3 c4 (b+1))) else c6 (c7 a)
def Eh(a:ak)(e:List bI)(c:yc)(b:Int):Option (bQ×Int):=(pD L a e).bind λf=>bif (!f) then c6 ((bQ.mk 0 ([]:yc)),6) else(iU L c 0 (c3 c4 ((a.ai.length:Int) -1))).bind λg=>bif (!g) then c6 ((bQ.mk 0 ([]:yc)),3) else(cp L b 0 2147483648).bind λj=>bif (!j) then c6 ((bQ.mk 0 ([]:yc)),8) else(sJ L ([1099511627776]:yc) (a.ai.length:Int)).bind λh=>(L.loop (λd=>Fg L c b d.1 d.2) (h,0)).bind λi=>(rM L i a.ai a.af e).bind λk=>c6 ((bQ.mk b k),0)
def rP(a:ak)(b:bE):Option Bool:=(ij L a).bind λf=>bif f then(iU L b.akL 0 (c3 c4 ((a.ai.length:Int) -1))).bind λg=>bif g then(iU L b.dg 0 (c3 c4 ((a.ai.length:Int) -1))).bind λc=>bif c then(iU L b.dG 0 (c3 c4 ((a.af.length:Int) -1))).bind λe=>bif e then(cp L b.er 0 2147483648).bind λd=>c6 d else c6 false else c6 false else c6 false else c6 false
def oT(b:cd)(a:b7):Option Bool:=(bif c5 ((b.bT.length:Int)=0) then c6 true else(iU L b.bT 0 63).bind λc=>bif (!c) then c6 true else(cp L b.dZ 1 100000).bind λi=>bif (!i) then c6 true else(cp L b.ed 1 100000).bind λd=>bif (!d) then c6 true else(cp L a.aa0 0 2147483648).bind λe=>c6 (!e)).bind λf=>bif f then c6 false else bif c5 (a.State=0) then c6 ((a.State==0)&&((a.dD==0)&&((a.akU==0)&&((a.aa0==0)&&true)))) else bif c5 (a.State=1) then bif c5 (0<a.dD) then c6 (c5 (a.akU=0)) else c6 false else(bif c5 (a.State=2) then c6 (c5 (a.State=2)) else(bif c5 (a.State=3) then c6 (c5 (a.State=3)) else c6 (c5 (a.State=4))).bind λg=>c6 g).bind λh=>bif h then bif c5 (0<a.dD) then bif c5 (0<a.akU) then c6 (c5 (a.dD≠a.akU)) else c6 false else c6 false else c6 false
def zm(a:Int)(c:ak):Option Bool:=(cp L a 0 (c3 c4 ((c.af.length:Int) -1))).bind λb=>c6 (!b)
def Za(a:yc)(b:ak)(c:Int):Option (Int⊕(Int⊕Unit)):=wi a (λd=>zm L d b) c
def Ak(b:yc)(a:ak):Option Int:=(L.loop (λd=>Za L b a d) 0).bind λe=>dt (λc=>c6 c) (λf=>c6 (-1)) e
def zi(a:yc)(c:ak):Option Bool:=(Ak L a c).bind λb=>c6 (c5 (0<=b))
def xa(a:yc):Option Bool:=(cp L (a.length:Int) 1 12).bind λb=>bif b then(iU L a 0 127).bind λc=>c6 c else c6 false
def AQ(a:yc):Option (bA×Int):=(xa L a).bind λb=>bif (!b) then c6 ((bA.mk ([]:yc) ([]:yc) false),6) else(cc L a).bind λd=>(gP 8 0 (a.length:Int)).bind λc=>c6 ((bA.mk d c false),0)
def AI(b:yc):Option Bool:=(qK L b).bind λa=>(rG L a).bind λd=>(iU L d 1 65535).bind λc=>c6 c
def yF(a:ak):Option yc:=(sJ L ([1099511627776]:yc) (a.ai.length:Int)).bind λb=>c6 b
def G5(L:Lp):Option kD:=c6 (kD.mk 6 9 12)
def xu(L:Lp)(b:ak)(l:Int)(i:Bool)(c:kD):Option Int:=(aj b.af l).bind λa=>(bif a.eN then c6 true else c6 (!a.jy)).bind λk=>bif k then c6 (-1) else(aj b.ai a.To).bind λe=>(aj b.ai a.an).bind λg=>(bif i then c6 (c3 c4 (0 - (c3 c4 (e.eU -g.eU)))) else c6 (c3 c4 (e.eU -g.eU))).bind λf=>(bif c5 (a.aj3<(c3 c4 (10*f))) then c6 c.up else(bif c5 (a.aj3<(c3 c4 ((-10)*f))) then c6 c.down else c6 c.level).bind λh=>c6 h).bind λd=>(ph .i64 (c3 c4 ((c3 c4 ((c3 c4 (10*a.aj3))+d)) -1)) d).bind λj=>c6 j
def FX(b:ak)(e:Int)(a:Bool):Option Int:=(G5 L).bind λc=>(xu L b e a c).bind λd=>c6 d
def rO(a:ak)(b:Int)(c:Bool):Option Int:=((ij L a).bind λe=>bif (!e) then c6 true else bif c5 (b<0) then c6 true else c6 (c5 ((a.af.length:Int)<=b)):Option Bool).bind λd=>bif d then c6 (-1) else(FX L a b c).bind λf=>c6 f
def KJ(L:Lp)(a:Int):Option Unit:=c6 ()
def CB(a:yc)(f:Bool)(g:Int)(b:Int)(d:Int)(c:Int):Option ((yc)×Bool):=(bif c5 ((max d c)<=2147483648) then(aj a b).bind λ_=>(a[b.toNat]?).bind λe=>bif c5 ((max d c)<e) then(KJ L b).bind λh=>c6 true else c6 false else c6 false).bind λjA=>bif jA then(aj a b).bind λ_=>(a[b.toNat]?).bind λ_=>c6 (a.set (b.toNat) (max d c),true) else c6 (a,f)
def th(c:aZ)(j:ak)(l:Int)(n:Int)(a:yc)(d:Bool)(e:Int):Option (((yc)×Bool×Int)⊕((yc)×Bool)):=bif c5 (e<2) then(aj [false,true] e).bind λi=>(bif i then c6 (c.To,c.an) else c6 (c.an,c.To)).bind λb=>(rO L j l i).bind λg=>(bif c5 (0<=g) then(aj a b.1).bind λ_=>(a[b.1.toNat]?).bind λo=>c6 (c5 (o<1099511627776)) else c6 false).bind λm=>(bif m then(aj a b.1).bind λ_=>(a[b.1.toNat]?).bind λk=>(CB L a d b.1 b.2 (c3 c4 (k+g)) n).bind λh=>c6 (h.1,h.2) else c6 (a,d)).bind λf=>c6 (dd (f.1,f.2,c3 c4 (e+1))) else c6 (c7 (a,d))
def vN(b:ak)(h:Int)(e:yc)(f:Bool)(a:Int):Option (((yc)×Bool×Int)⊕((yc)×Bool)):=bif c5 (a<(b.af.length:Int)) then(aj b.af a).bind λg=>(L.loop (λc=>th L g b a h c.1 c.2.1 c.2.2) (e,f,0)).bind λd=>c6 (dd (d.1,d.2,c3 c4 (a+1))) else c6 (c7 (e,f))
def yf(d:yc)(e:Bool)(c:ak)(f:Int):Option ((yc)×Bool):=(L.loop (λa=>vN L c f a.1 a.2.1 a.2.2) (d,e,0)).bind λb=>c6 (b.1,b.2)
def Gt(e:ak)(c:Int)(a:yc)(d:Bool):Option (((yc)×Bool)⊕(yc)):=bif d then(yf L a false e c).bind λb=>c6 (dd (b.1,b.2)) else c6 (c7 a)
def ze(d:ak)(f:yc)(c:Int):Option yc:=(cc L f).bind λb=>(L.loop (λa=>Gt L d c a.1 a.2) (b,true)).bind λe=>c6 e
def adr(e:ak)(c:Int)(a:yc)(d:Bool):Option (((yc)×Bool)⊕(yc)):=bif d then(yf L a false e c).bind λb=>c6 (dd (b.1,b.2)) else c6 (c7 a)
def sI(d:ak)(f:yc)(c:Int):Option yc:=(cc L f).bind λb=>(L.loop (λa=>adr L d c a.1 a.2) (b,true)).bind λe=>c6 e
def Cr(b:ak)(c:Int)(a:Int):Option (aM×Int):=(ij L b).bind λe=>bif (!e) then c6 ((aM.mk 0 ([]:yc)),6) else(cp L c 0 (c3 c4 ((b.ai.length:Int) -1))).bind λh=>bif (!h) then c6 ((aM.mk 0 ([]:yc)),3) else(cp L a 0 2147483648).bind λg=>bif (!g) then c6 ((aM.mk 0 ([]:yc)),8) else(yF L b).bind λd=>(aj d c).bind λ_=>(d[c.toNat]?).bind λ_=>(sI L b (d.set (c.toNat) a) a).bind λf=>c6 ((aM.mk a f),0)
def HP(d:yc)(g:ak)(h:Int)(a:ay)(b:Int):Option (((yc)×(List aM)×Int)⊕(((List ay)×Int)⊕((yc)×(List aM)))):=bif c5 (b<(d.length:Int)) then(aj d b).bind λe=>(Cr L g e h).bind λc=>bif c5 (c.2≠0) then c6 (c7 (dd (([]:List ay),c.2))) else(bj 32 a.aH ([c.1]:List aM)).bind λf=>c6 (dd (a.aw,f,c3 c4 (b+1))) else c6 (c7 (c7 (a.aw,a.aH)))
def Bk(f:ak)(a:yc)(d:yc)(l:Int):Option (aL×Int):=((ij L f).bind λg=>bif (!g) then c6 true else bif c5 ((a.length:Int)≠(d.length:Int)) then c6 true else(cp L (a.length:Int) 1 12).bind λj=>c6 (!j):Option Bool).bind λi=>bif i then c6 ((aL.mk ([]:List ay)),6) else(AI L a).bind λm=>bif (!m) then c6 ((aL.mk ([]:List ay)),41) else(cc L a).bind λh=>(L.loop (λb=>HP L d f l (ay.mk b.1 b.2.1) b.2.2) (h,([]:List aM),0)).bind λk=>dt (λe=>c6 ((aL.mk e.1),e.2)) (λc=>c6 ((aL.mk ([(ay.mk c.1 c.2)]:List ay)),0)) k
def DL:Option cZ:=(EC L ([(-1)]:yc) 32).bind λa=>(gP 8 0 32).bind λb=>c6 (cZ.mk a b)
def Ao(b:Int)(e:aB)(a:Int):Option Bool:=(aj e.aQ a).bind λc=>(cp L b 0 c.dY).bind λd=>c6 (!d)
def Kl(c:yc)(e:aB)(a:Int)(d:Int):Option (Int⊕(Int⊕Unit)):=wi c (λb=>Ao L b e a) d
def Iq(b:yc)(f:aB)(a:Int):Option Int:=(L.loop (λd=>Kl L b f a d) 0).bind λe=>dt (λc=>c6 c) (λg=>c6 (-1)) e
def BW(a:yc)(c:aB)(d:Int):Option Bool:=(Iq L a c d).bind λb=>c6 (c5 (0<=b))
def yM(a:ak)(b:Int)(c:Int):Option Int:=(cp L b 0 (c3 c4 ((a.af.length:Int) -1))).bind λd=>bif (!d) then c6 (-1) else(aj a.af b).bind λg=>bif c5 (c=g.an) then(rO L a b false).bind λf=>c6 f else(aj a.af b).bind λh=>bif c5 (c=h.To) then(rO L a b true).bind λe=>c6 e else c6 (-1)
def BS(b:ak)(a:bC):Option Bool:=(cp L a.abG 0 (c3 c4 ((b.ai.length:Int) -1))).bind λe=>bif (!e) then c6 false else bif c5 (a.akw=(-1)) then c6 (c5 (a.ami=0)) else(yM L b a.akw a.abG).bind λd=>bif c5 (0<=d) then(cp L a.ami 1 2147483648).bind λc=>c6 c else c6 false
def DB(a:bC)(c:aB):Option Bool:=(BS L c.ao a).bind λb=>c6 (!b)
def Gl(a:List bC)(b:aB)(c:Int):Option (Int⊕(Int⊕Unit)):=wi a (λd=>DB L d b) c
def Gd(b:List bC)(a:aB):Option Int:=(L.loop (λd=>Gl L b a d) 0).bind λe=>dt (λc=>c6 c) (λf=>c6 (-1)) e
def zH(a:List bC)(c:aB):Option Bool:=(Gd L a c).bind λb=>c6 (c5 (0<=b))
def xm(a:aB)(b:Int):Option (Int⊕(Unit⊕Unit)):=bif c5 (b<(a.aQ.length:Int)) then((aj a.cn b).bind λh=>(cp L h (-1) 65535).bind λi=>bif (!i) then c6 true else(aj a.cf b).bind λe=>(cp L e (-1) a.aa0).bind λl=>bif (!l) then c6 true else(aj a.cn b).bind λf=>(aj a.cf b).bind λj=>bif ((c5 (f=(-1))) != (c5 (j=(-1)))) then c6 true else(aj a.bp b).bind λg=>c6 (c5 ((g.length:Int)≠(a.aN.length:Int))):Option Bool).bind λd=>bif d then c6 (c7 (dd ())) else(aj a.bp b).bind λc=>(BW L c a b).bind λk=>bif k then c6 (c7 (dd ())) else c6 (dd (c3 c4 (b+1))) else c6 (c7 (c7 ()))
def pV(a:aB):Option Bool:=((wI L a.ao a.aQ).bind λg=>bif (!g) then c6 true else(cp L (a.aN.length:Int) 1 12).bind λf=>bif (!f) then c6 true else bif c5 ((a.aw.length:Int)≠(a.aN.length:Int)) then c6 true else(ym L a.aw).bind λi=>bif (!i) then c6 true else(cp L a.aa0 0 2147483648).bind λh=>bif (!h) then c6 true else bif c5 ((a.cn.length:Int)≠(a.aQ.length:Int)) then c6 true else bif c5 ((a.cf.length:Int)≠(a.aQ.length:Int)) then c6 true else c6 (c5 ((a.bp.length:Int)≠(a.aQ.length:Int))):Option Bool).bind λd=>bif d then c6 false else(L.loop (λe=>xm L a e) 0).bind λc=>dt (λj=>c6 false) (λk=>(zH L a.aN a).bind λb=>c6 (!b)) c
def CX(L:Lp)(d:ak)(b:Int)(c:Int):Option Int:=(bif c5 (b<0) then c6 true else c6 (c5 ((d.af.length:Int)<=b))).bind λe=>bif e then c6 (-1) else(aj d.af b).bind λa=>bif c5 (c=a.an) then c6 a.To else bif c5 (c=a.To) then c6 a.an else c6 (-1)
def sK(d:aB)(a:aB)(b:Int):Option (Bf⊕CN):=bif c5 (b<(d.aQ.length:Int)) then(aj d.aQ b).bind λc=>(cc L c.ai).bind λe=>(bj 48 a.aQ ([({c with ai:=e}:aS)]:List aS)).bind λf=>c6 (dd (Ga ({a with aQ:=f}:aB) (c3 c4 (b+1)))) else c6 (c7 (DY a))
def vc(c:aB)(b:aB)(a:Int):Option (EM⊕CN):=bif c5 (a<(c.bp.length:Int)) then(aj c.bp a).bind λf=>(cc L f).bind λd=>(bj 24 b.bp ([d]:List (yc))).bind λe=>c6 (dd (J4 ({b with bp:=e}:aB) (c3 c4 (a+1)))) else c6 (c7 (DY b))
def yC(a:aB):Option F4:=(kF L a.ao.ai).bind λd=>(kQ L a.ao.af).bind λl=>(rf L a.aN).bind λc=>(cc L a.aw).bind λe=>(L.loop (λb=>sK L a (Pa c b) (Oj b)) (Ga ({a with ao:=(ak.mk d l),aN:=c,aw:=e,aQ:=([]:List aS)}:aB) 0)).bind λh=>let i:=Rg c h;(cc L a.cn).bind λg=>(cc L a.cf).bind λj=>(L.loop (λb=>vc L a (LU c b) (Tv b)) (J4 ({i with cn:=g,cf:=j,bp:=([]:List (yc))}:aB) 0)).bind λk=>let f:=Rg c k;c6 (B7 f)
def vz(f:aB)(e:Int)(h:aB)(a:List bC)(c:Int):Option (((List bC)×Int)⊕(List bC)):=bif c5 (c<(f.aN.length:Int)) then((aj a c).bind λ_=>(a[c.toNat]?).bind λb=>bif c5 (b.akw<0) then c6 a else(bif c5 ((c3 c4 (b.ami -e))<=0) then(CX L h.ao b.akw b.abG).bind λg=>c6 (g,(-1),0) else c6 (b.abG,b.akw,c3 c4 (b.ami -e))).bind λd=>(aj a c).bind λ_=>(a[c.toNat]?).bind λ_=>c6 (a.set (c.toNat) (bC.mk d.1 d.2.1 d.2.2)):Option (List bC)).bind λi=>c6 (dd (i,c3 c4 (c+1))) else c6 (c7 a)
def qp(a:aB)(c:Int):Option (aB×Int):=(pV L a).bind λe=>bif (!e) then c6 (a,6) else(cp L c 0 3600).bind λh=>bif (!h) then c6 (a,1) else bif c5 (2147483648<(c3 c4 (a.aa0+c))) then c6 (a,8) else(yC L a).bind λf=>let b:=Bi f;(L.loop (λd=>vz L b c a d.1 d.2) (b.aN,0)).bind λg=>c6 (({b with aa0:=c3 c4 (b.aa0+c),aN:=g}:aB),0)
def q9(L:Lp)(a:List bI):Option (List bI):=bj 16 [] a
def tV(b:List aT)(c:List aT)(a:Int):Option (((List aT)×Int)⊕(List aT)):=bif c5 (a<(b.length:Int)) then(aj b a).bind λd=>(cc L d.aw).bind λf=>(bj 48 c ([({d with aw:=f}:aT)]:List aT)).bind λe=>c6 (dd (e,c3 c4 (a+1))) else c6 (c7 c)
def ry(c:List aT):Option (List aT):=(L.loop (λa=>tV L c a.1 a.2) (([]:List aT),0)).bind λb=>c6 b
def r9(d:ay)(a:ay)(b:Int):Option (((yc)×(List aM)×Int)⊕((yc)×(List aM))):=bif c5 (b<(d.aH.length:Int)) then(aj d.aH b).bind λc=>(cc L c.an).bind λe=>(bj 32 a.aH ([(aM.mk c.aa0 e)]:List aM)).bind λf=>c6 (dd (a.aw,f,c3 c4 (b+1))) else c6 (c7 (a.aw,a.aH))
def oM(b:ay):Option ay:=(cc L b.aw).bind λd=>(L.loop (λa=>r9 L b (ay.mk a.1 a.2.1) a.2.2) (d,([]:List aM),0)).bind λc=>c6 (ay.mk c.1 c.2)
def sB(b:aL)(c:List ay)(a:Int):Option (((List ay)×Int)⊕(List ay)):=bif c5 (a<(b.aA.length:Int)) then(aj b.aA a).bind λf=>(oM L f).bind λe=>(bj 48 c ([e]:List ay)).bind λd=>c6 (dd (d,c3 c4 (a+1))) else c6 (c7 c)
def pf(c:aL):Option aL:=(L.loop (λa=>sB L c a.1 a.2) (([]:List ay),0)).bind λb=>c6 (aL.mk b)
def pI(L:Lp)(a:List cy):Option (List cy):=bj 64 [] a
def tO(c:aE)(a:aE)(b:Int):Option (pJ⊕qc):=bif c5 (b<(c.bB.length:Int)) then(aj c.bB b).bind λd=>(cc L d.ll).bind λf=>(bj 72 a.bB ([({d with ll:=f}:dK)]:List dK)).bind λe=>c6 (dd (u16 ({a with bB:=e}:aE) (c3 c4 (b+1)))) else c6 (c7 (lR a))
def wc(a:aE):Option aE:=(qp L a.au 0).bind λm=>(kF L a.ao.ai).bind λc=>(kQ L a.ao.af).bind λp=>(q9 L a.cI).bind λs=>(cc L a.bR.akL).bind λq=>(cc L a.bR.dg).bind λi=>(cc L a.bR.dG).bind λf=>(cc L a.bM.bT).bind λk=>(ry L a.cq).bind λr=>(ry L a.bZ).bind λj=>(cc L a.cW.dl).bind λd=>(cc L a.cW.dr).bind λg=>(pf L a.bw).bind λu=>(pf L a.bq).bind λl=>(cc L a.bz.an).bind λo=>(cc L a.aa2.af).bind λv=>(cc L a.aa2.aa2).bind λt=>(pI L a.bS).bind λn=>(L.loop (λb=>tO L a (sN b) (sE b)) (u16 (aE.mk m.1 (ak.mk c p) s (bE.mk q i f a.bR.er) (cd.mk k a.bM.dZ a.bM.ed) r j (cZ.mk d g) u (bQ.mk a.bz.aa0 o) (bA.mk v t a.aa2.Out) a.cL l n ([]:List dK)) 0)).bind λh=>let e:=tT h;c6 e
def wX(a:ak)(f:List aS)(j:yc)(i:yc)(k:List bI)(g:bE)(b:cd)(h:yc):Option (aE×Int):=(Ef L a f j i 0).bind λd=>bif c5 (d.2≠0) then c6 ((aE.mk (aB.mk (ak.mk ([]:List bP) ([]:List aZ)) 0 ([]:List bC) ([]:yc) ([]:List aS) ([]:yc) ([]:yc) ([]:List (yc))) (ak.mk ([]:List bP) ([]:List aZ)) ([]:List bI) (bE.mk ([]:yc) ([]:yc) ([]:yc) 0) (cd.mk ([]:yc) 0 0) ([]:List aT) ([]:List aT) (cZ.mk ([]:yc) ([]:yc)) (aL.mk ([]:List ay)) (bQ.mk 0 ([]:yc)) (bA.mk ([]:yc) ([]:yc) false) (b7.mk 0 0 0 0) (aL.mk ([]:List ay)) ([]:List cy) ([]:List dK)),d.2) else(Eh L a k ([]:yc) 0).bind λq=>(bif c5 (q.2≠0) then c6 true else(rP L a g).bind λl=>bif (!l) then c6 true else(oT L b (b7.mk 0 0 0 0)).bind λt=>bif (!t) then c6 true else(aj b.bT (c3 c4 ((b.bT.length:Int) -1))).bind λs=>c6 (c5 ((a.ai.length:Int)<=s))).bind λr=>bif r then c6 ((aE.mk (aB.mk (ak.mk ([]:List bP) ([]:List aZ)) 0 ([]:List bC) ([]:yc) ([]:List aS) ([]:yc) ([]:yc) ([]:List (yc))) (ak.mk ([]:List bP) ([]:List aZ)) ([]:List bI) (bE.mk ([]:yc) ([]:yc) ([]:yc) 0) (cd.mk ([]:yc) 0 0) ([]:List aT) ([]:List aT) (cZ.mk ([]:yc) ([]:yc)) (aL.mk ([]:List ay)) (bQ.mk 0 ([]:yc)) (bA.mk ([]:yc) ([]:yc) false) (b7.mk 0 0 0 0) (aL.mk ([]:List ay)) ([]:List cy) ([]:List dK)),6) else(zi L h a).bind λp=>bif p then c6 ((aE.mk (aB.mk (ak.mk ([]:List bP) ([]:List aZ)) 0 ([]:List bC) ([]:yc) ([]:List aS) ([]:yc) ([]:yc) ([]:List (yc))) (ak.mk ([]:List bP) ([]:List aZ)) ([]:List bI) (bE.mk ([]:yc) ([]:yc) ([]:yc) 0) (cd.mk ([]:yc) 0 0) ([]:List aT) ([]:List aT) (cZ.mk ([]:yc) ([]:yc)) (aL.mk ([]:List ay)) (bQ.mk 0 ([]:yc)) (bA.mk ([]:yc) ([]:yc) false) (b7.mk 0 0 0 0) (aL.mk ([]:List ay)) ([]:List cy) ([]:List dK)),4) else(AQ L h).bind λe=>bif c5 (e.2≠0) then c6 ((aE.mk (aB.mk (ak.mk ([]:List bP) ([]:List aZ)) 0 ([]:List bC) ([]:yc) ([]:List aS) ([]:yc) ([]:yc) ([]:List (yc))) (ak.mk ([]:List bP) ([]:List aZ)) ([]:List bI) (bE.mk ([]:yc) ([]:yc) ([]:yc) 0) (cd.mk ([]:yc) 0 0) ([]:List aT) ([]:List aT) (cZ.mk ([]:yc) ([]:yc)) (aL.mk ([]:List ay)) (bQ.mk 0 ([]:yc)) (bA.mk ([]:yc) ([]:yc) false) (b7.mk 0 0 0 0) (aL.mk ([]:List ay)) ([]:List cy) ([]:List dK)),e.2) else(Bk L a i j 0).bind λc=>bif c5 (c.2≠0) then c6 ((aE.mk (aB.mk (ak.mk ([]:List bP) ([]:List aZ)) 0 ([]:List bC) ([]:yc) ([]:List aS) ([]:yc) ([]:yc) ([]:List (yc))) (ak.mk ([]:List bP) ([]:List aZ)) ([]:List bI) (bE.mk ([]:yc) ([]:yc) ([]:yc) 0) (cd.mk ([]:yc) 0 0) ([]:List aT) ([]:List aT) (cZ.mk ([]:yc) ([]:yc)) (aL.mk ([]:List ay)) (bQ.mk 0 ([]:yc)) (bA.mk ([]:yc) ([]:yc) false) (b7.mk 0 0 0 0) (aL.mk ([]:List ay)) ([]:List cy) ([]:List dK)),c.2) else(gP 48 (aT.mk 0 0 0 ([]:yc)) (f.length:Int)).bind λm=>(DL L).bind λo=>(wc L (aE.mk d.1 a k g b m ([]:List aT) o c.1 (bQ.mk 0 ([]:yc)) e.1 (b7.mk 0 0 0 0) (aL.mk ([]:List ay)) ([]:List cy) ([]:List dK))).bind λn=>c6 (n,0)
def zz(a:Int):Option Bool:=(cp L a 0 2).bind λb=>c6 (!b)
def It(a:yc)(b:Int):Option (Int⊕(Int⊕Unit)):=wi a (λc=>zz L c) b
def F6(a:yc):Option Int:=(L.loop (λc=>It L a c) 0).bind λd=>dt (λb=>c6 b) (λe=>c6 (-1)) d
def zw(a:yc):Option Bool:=(F6 L a).bind λb=>c6 (c5 (0<=b))
def CE(L:Lp)(a:Int):Option Bool:=c6 (c5 (a≠2))
def JW(a:yc)(b:Int):Option (Int⊕(Int⊕Unit)):=wi a (λc=>CE L c) b
def JN(a:yc):Option Int:=(L.loop (λc=>JW L a c) 0).bind λd=>dt (λb=>c6 b) (λe=>c6 (-1)) d
def IU(a:yc):Option Bool:=(JN L a).bind λb=>c6 (c5 (0<=b))
def yh(a:bA):Option Bool:=(IU L a.aa2).bind λb=>c6 (!b)
def oL(a:bA):Option Bool:=(xa L a.af).bind λb=>bif b then bif c5 ((a.aa2.length:Int)=(a.af.length:Int)) then(zw L a.aa2).bind λd=>bif (!d) then bif (!a.Out) then c6 true else(yh L a).bind λc=>c6 c else c6 false else c6 false else c6 false
def zj(a:aE):Option Bool:=(pV L a.au).bind λb=>bif b then(ij L a.ao).bind λd=>bif d then bif c5 ((a.cq.length:Int)=(a.au.aQ.length:Int)) then bif c5 ((a.cI.length:Int)=(a.ao.af.length:Int)) then bif c5 (0<(a.bw.aA.length:Int)) then(oL L a.aa2).bind λc=>c6 c else c6 false else c6 false else c6 false else c6 false else c6 false
def Ml(L:Lp)(a:Int):Option (Option Nat):=c6 (lK a)
def HU(L:Lp)(b:bA)(c:yc)(a:Int):Option (((yc)×Int)⊕(yc)):=bif c5 (a<(b.af.length:Int)) then(aj b.af a).bind λe=>(bif c5 (a<(b.aa2.length:Int)) then(aj b.aa2 a).bind λh=>c6 (c5 (h≠0)) else c6 false).bind λg=>(bif g then(bj 8 c ([e]:yc)).bind λf=>c6 f else c6 c).bind λd=>c6 (dd (d,c3 c4 (a+1))) else c6 (c7 c)
def yA(b:bA):Option yc:=(L.loop (λa=>HU L b a.1 a.2) (([]:yc),0)).bind λd=>(rl L d).bind λc=>c6 c
def Nf(L:Lp)(b:yc)(d:Int)(a:Int):Option (Int⊕(Int⊕Unit)):=bif c5 (a<(b.length:Int)) then(aj b a).bind λc=>bif c5 (d=c) then c6 (c7 (dd a)) else c6 (dd (c3 c4 (a+1))) else c6 (c7 (c7 ()))
def to(b:yc)(e:Int):Option Int:=(L.loop (λd=>Nf L b e d) 0).bind λc=>dt (λa=>c6 a) (λf=>c6 (-1)) c
def im(a:yc)(c:Int):Option Bool:=(to L a c).bind λb=>c6 (c5 (0<=b))
def wC(b:yc)(d:aB)(a:Int):Option (Int⊕(Unit⊕Unit)):=bif c5 (a<(b.length:Int)) then(aj b a).bind λc=>(cp L c 0 (c3 c4 ((d.aN.length:Int) -1))).bind λe=>bif (!e) then c6 (c7 (dd ())) else c6 (dd (c3 c4 (a+1))) else c6 (c7 (c7 ()))
def wv(a:aB)(e:yc):Option Int:=(pV L a).bind λd=>bif (!d) then c6 6 else(L.loop (λc=>wC L e a c) 0).bind λb=>dt (λg=>c6 19) (λf=>c6 0) b
def B1(b:aB)(a:Int)(e:Int)(j:Int):Option (aB×Int):=(wv L b ([a]:yc)).bind λi=>bif c5 (i≠0) then c6 (b,i) else(aj b.aN a).bind λh=>(yM L b.ao e h.abG).bind λg=>bif c5 (0<=h.akw) then c6 (b,10) else bif c5 (g<0) then c6 (b,4) else(cp L j 0 3600).bind λk=>bif (!k) then c6 (b,1) else(yC L b).bind λl=>let d:=Bi l;(aj d.aN a).bind λ_=>(d.aN[a.toNat]?).bind λc=>(aj (d.aN.set (a.toNat) (bC.mk c.abG e c.ami)) a).bind λ_=>((d.aN.set (a.toNat) (bC.mk c.abG e c.ami))[a.toNat]?).bind λf=>c6 (({d with aN:=(d.aN.set (a.toNat) (bC.mk c.abG e c.ami)).set (a.toNat) (bC.mk f.abG f.akw (c3 c4 (g+j)))}:aB),0)
def DC(h:aB)(f:List bP)(j:List aZ)(b:Int)(d:List bC)(c k:yc)(e:List (yc))(a:List aS)(i:Int):Option ((List bP×List aZ×Int×List bC×yc×yc×List (yc)×List aS×Int)⊕(List bP×List aZ×Int×List bC×List aS×yc×yc×List (yc))):=bif c5 (i<(h.aQ.length:Int)) then(aj h.aQ i).bind λg=>(cc L g.ai).bind λl=>(bj 48 a ([({g with ai:=l}:aS)]:List aS)).bind λz=>c6 (dd (f,j,b,d,c,k,e,z,c3 c4 (i+1))) else c6 (c7 (f,j,b,d,a,c,k,e))
def FD{d:Type}(a:aB)(j:List bP->List aZ->Int->List bC->yc->List aS->yc->yc->Option d):Option d:=(kF L a.ao.ai).bind λf=>(kQ L a.ao.af).bind λh=>(rf L a.aN).bind λe=>(cc L a.aw).bind λg=>(L.loop (λb=>DC L a b.1 b.2.1 b.2.2.1 b.2.2.2.1 b.2.2.2.2.1 b.2.2.2.2.2.1 b.2.2.2.2.2.2.1 b.2.2.2.2.2.2.2.1 b.2.2.2.2.2.2.2.2) (f,h,a.aa0,e,a.cn,a.cf,a.bp,([]:List aS),0)).bind λc=>(cc L a.cn).bind λi=>(cc L a.cf).bind λk=>j c.1 c.2.1 c.2.2.1 c.2.2.2.1 g c.2.2.2.2.1 i k
abbrev TD(a:Type):Type:=yc×yc×yc×a
abbrev TE:Type:=List bP×List aZ×Int×List bC×List aS
def we(a:aB):Option (TD TE):=match a.bp with |[]=>FD L a λe b c d g f i h=>c6 (g,i,h,e,b,c,d,f) |_=>e0
def uR(c:aB):Option (TD (yc×TE)):=match c.bp with |[a]=>FD L c λf b d e h g j i=>(cc L a).bind λa=>c6 (h,j,i,a,f,b,d,e,g) |_=>e0
def pO(d:aB):Option (TD (yc×yc×TE)):=match d.bp with |[c,a]=>FD L d λg b e f i h k j=>(cc L c).bind λc=>(cc L a).bind λa=>c6 (i,k,j,c,a,g,b,e,f,h) |_=>e0
def nM(e:aB):Option (TD (yc×yc×yc×TE)):=match e.bp with |[c,a,d]=>FD L e λh b f g j i l k=>(cc L c).bind λc=>(cc L a).bind λa=>(cc L d).bind λd=>c6 (j,l,k,c,a,d,h,b,f,g,i) |_=>e0
def EV(a:aB)(f:Int)(r:aS)(row:yc)(e b d:Int)(c:yc)(i:Int):Option ((yc×Int×Int×Int×yc×Int)⊕((List bP×List aZ×Int×List bC×yc×List aS×yc×yc×List (yc)×Int×Int×Int×yc×Int)⊕(yc×Int×Int×Int×yc))):=bif c5 (i<(a.aN.length:Int)) then(aj a.aN i).bind λk=>(im L r.ai k.abG).bind λhere=>(iN .i64 f i).bind λl=>(aj row i).bind λ_=>(bif here then c6 (c5 (bits .and .i64 l 1=1)) else c6 false).bind λh=>bif h then(row[i.toNat]?).bind λv=>(row[i.toNat]?).bind λ_=>((row.set i.toNat (c3 c4 (v+1)))[i.toNat]?).bind λg=>bif c5 (r.dY<g) then c6 (c7 (dd (a.ao.ai,a.ao.af,a.aa0,a.aN,a.aw,a.aQ,a.cn,a.cf,a.bp,0,0,0,([]:yc),43))) else c6 (dd (row.set i.toNat (c3 c4 (v+1)),e,b,d,c,c3 c4 (i+1))) else(row[i.toNat]?).bind λ_=>bif here then(aj a.aw i).bind λj=>(bj 8 c ([j]:yc)).bind λc=>c6 (dd (row.set i.toNat 0,e,b,d,c,c3 c4 (i+1))) else c6 (dd (row.set i.toNat 0,e,b,d,c,c3 c4 (i+1))) else c6 (c7 (c7 (row,e,b,d,c)))
def qw(c:aB)(b i q:Int)(r:aS)(p f g row:yc)(o:yc->List (yc))(e:TE):Option (aB×aT×Int):=((aj c.cf b).bind λm=>bif c5 (0<=m) then(aj c.cf b).bind λk=>c6 (c5 (r.dX<c3 c4 (c.aa0 -k))) else c6 false).bind λj=>(bif j then c6 2 else c6 1).bind λh=>(aj c.cn b).bind λl=>(nG (c3 c4 (l+h)) 65536).bind λnumber=>(aj f b).bind λ_=>(f[b.toNat]?).bind λ_=>(aj g b).bind λ_=>(g[b.toNat]?).bind λ_=>(L.loop (λd=>EV L c i r d.1 d.2.1 d.2.2.1 d.2.2.2.1 d.2.2.2.2.1 d.2.2.2.2.2) (row,b,number,c3 c4 (c.aa0+q),([]:yc),0)).bind λa=>dt (λa=>c6 (aB.mk (ak.mk a.1 a.2.1) a.2.2.1 a.2.2.2.1 a.2.2.2.2.1 a.2.2.2.2.2.1 a.2.2.2.2.2.2.1 a.2.2.2.2.2.2.2.1 a.2.2.2.2.2.2.2.2.1,aT.mk a.2.2.2.2.2.2.2.2.2.1 a.2.2.2.2.2.2.2.2.2.2.1 a.2.2.2.2.2.2.2.2.2.2.2.1 a.2.2.2.2.2.2.2.2.2.2.2.2.1,a.2.2.2.2.2.2.2.2.2.2.2.2.2)) (λa=>(rC a.2.2.2.2).bind λn=>c6 (aB.mk (ak.mk e.1 e.2.1) e.2.2.1 e.2.2.2.1 p e.2.2.2.2 (f.set b.toNat number) (g.set b.toNat c.aa0) (o a.1),aT.mk a.2.1 a.2.2.1 a.2.2.2.1 n,0)) a
def acN(a:aB)(c:Int)(r:aS)(e b d:Int)(g:yc)(i:Int):Option ((Int×Int×Int×yc×Int)⊕(Int×Int×Int×yc)):=bif c5 (i<(a.aN.length:Int)) then(aj a.aN i).bind λf=>(im L r.ai f.abG).bind λ_=>(iN .i64 c i).bind λ_=>e0 else c6 (c7 (e,b,d,g))
def aph(b:aB)(a i p:Int)(r:aS)(o g f:yc)(d:TE):Option (aB×aT×Int):=((aj b.cf a).bind λm=>bif c5 (0<=m) then(aj b.cf a).bind λk=>c6 (c5 (r.dX<c3 c4 (b.aa0 -k))) else c6 false).bind λj=>(bif j then c6 2 else c6 1).bind λh=>(aj b.cn a).bind λl=>(nG (c3 c4 (l+h)) 65536).bind λnumber=>(aj g a).bind λ_=>(g[a.toNat]?).bind λ_=>(aj f a).bind λ_=>(f[a.toNat]?).bind λ_=>(L.loop (λc=>acN L b i r c.1 c.2.1 c.2.2.1 c.2.2.2.1 c.2.2.2.2) (a,number,c3 c4 (b.aa0+p),([]:yc),0)).bind λe=>(rC e.2.2.2).bind λn=>c6 (aB.mk (ak.mk d.1 d.2.1) d.2.2.1 d.2.2.2.1 o d.2.2.2.2 (g.set a.toNat number) (f.set a.toNat b.aa0) [],aT.mk e.1 e.2.1 e.2.2.1 n,0)
def po(a:aB)(c g d:Int)(f:aS->Option (aB×aT×Int)):Option (aB×aT×Int):=(pV L a).bind λv=>bif (!v) then c6 (a,aT.mk 0 0 0 [],6) else(cp L c 0 (c3 c4 ((a.aQ.length:Int) -1))).bind λi=>bif (!i) then c6 (a,aT.mk 0 0 0 [],40) else(aj a.aQ c).bind λr=>((cp L d (c3 c4 (0 -r.cR)) r.cR).bind λe=>bif (!e) then c6 true else(cp L (c3 c4 (a.aa0+d)) 0 2147483648).bind λb=>c6 (!b)).bind λbad=>bif bad then c6 (a,aT.mk 0 0 0 [],1) else f r
def jO(b:aB)(c d e:Int):Option (aB×aT×Int):=match b.bp with |[]=>bif c5 (c=0) then po L b c d e λr=>(we L b).bind λa=>aph L b c d e r a.1 a.2.1 a.2.2.1 a.2.2.2 else e0 |[_]=>bif c5 (c=0) then po L b c d e λr=>(uR L b).bind λa=>qw L b c d e r a.1 a.2.1 a.2.2.1 a.2.2.2.1 (λr=>[r]) a.2.2.2.2 else e0 |[_,_]=>bif c5 (c=0) then po L b c d e λr=>(pO L b).bind λa=>qw L b c d e r a.1 a.2.1 a.2.2.1 a.2.2.2.1 (λr=>[r,a.2.2.2.2.1]) a.2.2.2.2.2 else bif c5 (c=1) then po L b c d e λr=>(pO L b).bind λa=>qw L b c d e r a.1 a.2.1 a.2.2.1 a.2.2.2.2.1 (λr=>[a.2.2.2.1,r]) a.2.2.2.2.2 else e0 |[_,_,_]=>bif c5 (c=0) then po L b c d e λr=>(nM L b).bind λa=>qw L b c d e r a.1 a.2.1 a.2.2.1 a.2.2.2.1 (λr=>[r,a.2.2.2.2.1,a.2.2.2.2.2.1]) a.2.2.2.2.2.2 else bif c5 (c=1) then po L b c d e λr=>(nM L b).bind λa=>qw L b c d e r a.1 a.2.1 a.2.2.1 a.2.2.2.2.1 (λr=>[a.2.2.2.1,r,a.2.2.2.2.2.1]) a.2.2.2.2.2.2 else bif c5 (c=2) then po L b c d e λr=>(nM L b).bind λa=>qw L b c d e r a.1 a.2.1 a.2.2.1 a.2.2.2.2.2.1 (λr=>[a.2.2.2.1,a.2.2.2.2.1,r]) a.2.2.2.2.2.2 else e0 |_=>e0
def Zb(b:List aT)(c:List aT)(a:Int):Option (((List aT)×Int)⊕(List aT)):=bif c5 (a<(b.length:Int)) then(aj b a).bind λd=>(cc L d.aw).bind λf=>(bj 48 c ([({d with aw:=f}:aT)]:List aT)).bind λe=>c6 (dd (e,c3 c4 (a+1))) else c6 (c7 c)
def zp(c:List aT):Option (List aT):=(L.loop (λa=>Zb L c a.1 a.2) (([]:List aT),0)).bind λb=>c6 b
def lQ(a:aT):Option Bool:=(cp L a.agX 0 31).bind λc=>bif c then(cp L a.aj6 0 65535).bind λb=>bif b then(cp L a.aa0 0 2147483648).bind λd=>bif d then bif c5 ((a.aw.length:Int)<=20) then(iU L a.aw 1 65535).bind λe=>c6 e else c6 false else c6 false else c6 false else c6 false
def vM(L:Lp)(e:Int)(b:yc)(a:Int):Option (((yc)×Int)⊕(yc)):=bif c5 (0<=a) then(iN .u64 e (dv.wrap (c3 c4 (8*a)))).bind λc=>(bj 1 b ([ej.wrap c]:yc)).bind λd=>c6 (dd (d,c3 c4 (a -1))) else c6 (c7 b)
def py(c:yc)(e:Int)(b:Int):Option yc:=(L.loop (λa=>vM L e a.1 a.2) (c,c3 c4 (b -1))).bind λd=>c6 d
def wg(c:aT)(b:yc)(a:Int):Option (((yc)×Int)⊕(yc)):=bif c5 (a<(c.aw.length:Int)) then(aj c.aw a).bind λe=>(py L b (dv.wrap e) 2).bind λd=>c6 (dd (d,c3 c4 (a+1))) else c6 (c7 b)
def Ex(a:aT):Option (fa×Int):=(lQ L a).bind λd=>bif (!d) then c6 ((fa.mk 0 0 ([]:yc)),6) else(py L ([]:yc) (dv.wrap a.aj6) 2).bind λg=>(py L g (dv.wrap a.aa0) 6).bind λf=>(bj 1 f ([ej.wrap (a.aw.length:Int)]:yc)).bind λe=>(L.loop (λb=>wg L a b.1 b.2) (e,0)).bind λc=>c6 ((fa.mk a.agX 9 c),0)
def zf(L:Lp)(b:yc)(c:Int)(a:Int):Option ((Int×Int)⊕Int):=bif c5 (a<(b.length:Int)) then(aj b a).bind λd=>(uU .u64 c 8).bind λe=>c6 (dd (bits .or .u64 e (dv.wrap d),c3 c4 (a+1))) else c6 (c7 c)
def jQ(b:yc):Option Int:=(L.loop (λa=>zf L b a.1 a.2) (0,0)).bind λc=>c6 c
def vE(L:Lp)(b:yc)(a:Int):Option ((yc)×Int):=bif c5 (a<1) then e0 else c6 (b,a)
def lj:yc->List (yc) |[]=>[] |[a]=>[[a]] |a::b::c=>[a,b]::lj c
def gW(L:Lp):List (yc)->yc->Option yc |[],a=>c6 a |c::b,a=>(jQ L c).bind λd=>(bj 8 a ([c3 c4 d]:yc)).bind λa=>gW L b a
def rA(c a e:Int)(b:yc)(f:Int):Option (aT×Int):=bif c5 (f=2) then bif c5 (b.length%2=0) then(gW L (lj b) []).bind λd=>(lQ L (aT.mk c a e d)).bind λv=>bif (!v) then c6 (aT.mk 0 0 0 [],6) else c6 (aT.mk c a e d,0) else e0 else e0
def zD(a:fa):Option (aT×Int):=bif c5 (a.abv≠9) then c6 (aT.mk 0 0 0 [],5) else(cp L a.kO 0 31).bind λf=>bif (!f) then c6 (aT.mk 0 0 0 [],40) else(bif c5 ((a.Data.length:Int)<9) then c6 true else(aj a.Data 8).bind λb=>c6 (c5 ((a.Data.length:Int)≠c3 c4 (9+c3 c4 (2*c3 c4 b))))).bind λbad=>bif bad then c6 (aT.mk 0 0 0 [],6) else(eG a.Data 0 2).bind λh=>(jQ L h).bind λe=>(eG a.Data 2 8).bind λd=>(jQ L d).bind λi=>(eG a.Data 9 (a.Data.length:Int)).bind λg=>(vE L g 2).bind λc=>rA L a.kO (c3 c4 e) (c3 c4 i) c.1 c.2
def Ap(a:Int):Option Bool:=(cp L a (-1) 65535).bind λb=>c6 (!b)
def I8(a:yc)(b:Int):Option (Int⊕(Int⊕Unit)):=wi a (λc=>Ap L c) b
def GR(a:yc):Option Int:=(L.loop (λc=>I8 L a c) 0).bind λd=>dt (λb=>c6 b) (λe=>c6 (-1)) d
def Am(a:yc):Option Bool:=(GR L a).bind λb=>c6 (c5 (0<=b))
def Dd(a:Int):Option Bool:=(cp L a 0 2147483648).bind λb=>c6 (!b)
def FL(a:yc)(b:Int):Option (Int⊕(Int⊕Unit)):=wi a (λc=>Dd L c) b
def JV(a:yc):Option Int:=(L.loop (λc=>FL L a c) 0).bind λd=>dt (λb=>c6 b) (λe=>c6 (-1)) d
def CZ(a:yc):Option Bool:=(JV L a).bind λb=>c6 (c5 (0<=b))
def zY(a:cZ):Option Bool:=bif c5 ((a.dl.length:Int)=32) then bif c5 ((a.dr.length:Int)=32) then(Am L a.dl).bind λb=>bif (!b) then(CZ L a.dr).bind λc=>c6 (!c) else c6 false else c6 false else c6 false
def CT(b:cZ)(a:aT):Option (cZ×Int):=(zY L b).bind λi=>bif (!i) then c6 (b,10) else(lQ L a).bind λg=>bif (!g) then c6 (b,6) else(aj b.dl a.agX).bind λe=>(nG (c3 c4 ((c3 c4 (a.aj6 -e))+65536)) 65536).bind λf=>(bif c5 (0<=e) then bif c5 (f=0) then c6 true else c6 (c5 (32768<=f)) else c6 false).bind λj=>bif j then c6 (b,42) else(cc L b.dl).bind λd=>(cc L b.dr).bind λc=>(aj d a.agX).bind λ_=>(d[a.agX.toNat]?).bind λ_=>bif c5 (0<=e) then(aj c a.agX).bind λ_=>(c[a.agX.toNat]?).bind λh=>(aj c a.agX).bind λ_=>(c[a.agX.toNat]?).bind λ_=>c6 ((cZ.mk (d.set (a.agX.toNat) a.aj6) (c.set (a.agX.toNat) (min (c3 c4 ((c3 c4 (h+f)) -1)) 2147483648))),0) else c6 ((cZ.mk (d.set (a.agX.toNat) a.aj6) c),0)
def Dq(L:Lp)(a:aT)(d:aS)(c:List dS)(b:Int):Option (((List dS)×Int)⊕(List dS)):=bif c5 (b<(a.aw.length:Int)) then(aj a.aw b).bind λf=>(bj 32 c ([(dS.mk a.agX f (max 0 (c3 c4 (a.aa0 -d.cR))) (c3 c4 (a.aa0+d.cR)))]:List dS)).bind λe=>c6 (dd (e,c3 c4 (b+1))) else c6 (c7 c)
def Bl(b:List aS)(a:aT):Option ((List dS)×Int):=(lQ L a).bind λe=>bif (!e) then c6 (([]:List dS),6) else bif c5 ((b.length:Int)<=a.agX) then c6 (([]:List dS),40) else(aj b a.agX).bind λf=>(L.loop (λc=>Dq L a f c.1 c.2) (([]:List dS),0)).bind λd=>c6 (d,0)
def fP(L:Lp)(a:aR):Option Int:=c6 a.aI.au.aa0
def yU(L:Lp)(b:yc)(e:yc)(a:Int):Option (Int⊕(Unit⊕Unit)):=bif c5 (a<(b.length:Int)) then(aj b a).bind λc=>(aj e a).bind λd=>bif c5 (c≠d) then c6 (c7 (dd ())) else c6 (dd (c3 c4 (a+1))) else c6 (c7 (c7 ()))
def qG(b:yc)(a:yc):Option Bool:=bif c5 ((b.length:Int)≠(a.length:Int)) then c6 false else(L.loop (λc=>yU L b a c) 0).bind λd=>dt (λe=>c6 false) (λf=>c6 true) d
def DR(a:Int):Option Bool:=bif c5 (a≠1099511627776) then(cp L a 0 2147483648).bind λb=>c6 (!b) else c6 false
def GO(a:yc)(b:Int):Option (Int⊕(Int⊕Unit)):=wi a (λc=>DR L c) b
def GG(a:yc):Option Int:=(L.loop (λc=>GO L a c) 0).bind λd=>dt (λb=>c6 b) (λe=>c6 (-1)) d
def zZ(a:yc):Option Bool:=(GG L a).bind λb=>c6 (c5 (0<=b))
def ur(c:ak)(a:aM):Option Bool:=bif c5 ((a.an.length:Int)=(c.ai.length:Int)) then(cp L a.aa0 0 2147483648).bind λb=>bif b then(zZ L a.an).bind λd=>c6 (!d) else c6 false else c6 false
def n7(b:ak)(a:aM):Option Bool:=(ij L b).bind λd=>bif d then(ur L b a).bind λc=>bif c then(ze L b a.an a.aa0).bind λe=>(qG L e a.an).bind λf=>c6 f else c6 false else c6 false
def Ld(a:aM)(c:ak):Option Bool:=(n7 L c a).bind λb=>c6 (!b)
def HW(a:List aM)(b:ak)(c:Int):Option (Int⊕(Int⊕Unit)):=wi a (λd=>Ld L d b) c
def FJ(b:List aM)(a:ak):Option Int:=(L.loop (λd=>HW L b a d) 0).bind λe=>dt (λc=>c6 c) (λf=>c6 (-1)) e
def E5(a:List aM)(c:ak):Option Bool:=(FJ L a c).bind λb=>c6 (c5 (0<=b))
def Cl(L:Lp)(a:Int):Option Bool:=c6 (c5 (a≠a))
def uE(a:Int)(b:Int):Option Int:=(Cl L a).bind λd=>(Cl L b).bind λc=>bif d then bif c then c6 0 else c6 (-1) else bif c then c6 1 else bif c5 (a<b) then c6 (-1) else bif c5 (b<a) then c6 1 else c6 0
def ui(b:yc)(d:yc)(a:Int):Option (Int⊕(Int⊕Unit)):=bif c5 (a<(b.length:Int)) then(aj b a).bind λf=>bif c5 ((d.length:Int)<=a) then c6 (c7 (dd 1)) else(aj d a).bind λe=>(uE L f e).bind λc=>bif c5 (c≠0) then c6 (c7 (dd c)) else c6 (dd (c3 c4 (a+1))) else c6 (c7 (c7 ()))
def sL(a:yc)(b:yc):Option Int:=(L.loop (λd=>ui L a b d) 0).bind λc=>dt (λe=>c6 e) (λf=>bif c5 ((a.length:Int)<(b.length:Int)) then c6 (-1) else c6 0) c
def Fm(c:aL)(e:yc)(f:ak)(b:Int):Option (Int⊕(Unit⊕Unit)):=bif c5 (b<(c.aA.length:Int)) then(aj c.aA b).bind λa=>((cp L (a.aw.length:Int) 1 12).bind λl=>bif (!l) then c6 true else bif c5 ((a.aH.length:Int)≠(a.aw.length:Int)) then c6 true else(AI L a.aw).bind λg=>c6 (!g):Option Bool).bind λi=>bif i then c6 (c7 (dd ())) else(qK L a.aw).bind λh=>(rG L h).bind λj=>(qG L j e).bind λo=>bif (!o) then c6 (c7 (dd ())) else(bif c5 (0<b) then(aj c.aA (c3 c4 (b -1))).bind λn=>(sL L n.aw a.aw).bind λk=>c6 (c5 (0<=k)) else c6 false).bind λm=>bif m then c6 (c7 (dd ())) else(E5 L a.aH f).bind λd=>bif d then c6 (c7 (dd ())) else c6 (dd (c3 c4 (b+1))) else c6 (c7 (c7 ()))
def p8(b:ak)(a:aL):Option Bool:=((ij L b).bind λg=>bif (!g) then c6 true else(cp L (a.aA.length:Int) 1 24).bind λh=>c6 (!h):Option Bool).bind λf=>bif f then c6 false else(aj a.aA 0).bind λc=>(qK L c.aw).bind λd=>(rG L d).bind λe=>(L.loop (λi=>Fm L a e b i) 0).bind λj=>dt (λl=>c6 false) (λk=>c6 true) j
def vY(b:ak)(k:aM)(a:yc)(d:Int)(c:Int):Option Int:=((n7 L b k).bind λj=>bif (!j) then c6 true else bif c5 ((a.length:Int)=0) then c6 true else(iU L a 0 (c3 c4 ((b.ai.length:Int) -1))).bind λg=>c6 (!g):Option Bool).bind λh=>bif h then c6 6 else((cp L d 0 2147483648).bind λe=>bif (!e) then c6 true else(cp L c 0 2147483648).bind λf=>bif (!f) then c6 true else c6 (c5 (c<d)):Option Bool).bind λi=>bif i then c6 8 else c6 0
def Ds(L:Lp)(e:yc)(f:aM)(h:Int)(a:yc)(g:Bool)(c:Int):Option (((yc)×Bool×Int)⊕((yc)×Bool)):=bif c5 (c<(e.length:Int)) then(aj e c).bind λb=>(aj f.an b).bind λi=>(bif c5 (i<=h) then(aj f.an b).bind λj=>(aj a b).bind λ_=>(a[b.toNat]?).bind λ_=>c6 (a.set (b.toNat) j,true) else c6 (a,g)).bind λd=>c6 (dd (d.1,d.2,c3 c4 (c+1))) else c6 (c7 (a,g))
def yX(b:ak)(a:aM)(g:yc)(e:Int)(d:Int):Option (aM×Int):=(vY L b a g e d).bind λh=>bif c5 (h≠0) then c6 (a,h) else bif c5 (e<a.aa0) then c6 (a,42) else(yF L b).bind λi=>(L.loop (λc=>Ds L g a d c.1 c.2.1 c.2.2) (i,false,0)).bind λf=>bif (!f.2) then c6 (a,43) else(sI L b f.1 e).bind λj=>c6 ((aM.mk d j),0)
def CH(d:ay)(a:ay)(b:Int):Option (((yc)×(List aM)×Int)⊕((yc)×(List aM))):=bif c5 (b<(d.aH.length:Int)) then(aj d.aH b).bind λc=>(cc L c.an).bind λe=>(bj 32 a.aH ([(aM.mk c.aa0 e)]:List aM)).bind λf=>c6 (dd (a.aw,f,c3 c4 (b+1))) else c6 (c7 (a.aw,a.aH))
def mH(b:ay):Option ((List aM)×(yc)):=(cc L b.aw).bind λd=>(L.loop (λa=>CH L b (ay.mk a.1 a.2.1) a.2.2) (d,([]:List aM),0)).bind λc=>c6 (c.2,c.1)
def JT(a:ak)(d:yc)(b:Int)(e:Int)(f:aM):Option ((List bP)×(List aZ)×(yc)×Int×Int×aM×Int):=(yX L a f d b e).bind λc=>c6 (a.ai,a.af,d,b,e,c.1,c.2)
def Gz(f:aL)(p:Int)(h:ak)(j:yc)(l:Int)(k:Int)(g:List ay)(i:Int):Option (((List bP)×(List aZ)×(yc)×Int×Int×(List ay)×Int)⊕(((List bP)×(List aZ)×(yc)×Int×Int×(List ay)×Int)⊕((List bP)×(List aZ)×(yc)×Int×Int×(List ay)))):=bif c5 (i<(f.aA.length:Int)) then((aj f.aA i).bind λo=>(to L o.aw p).bind λe=>(mH L o).bind λb=>(aj b.1 e).bind λ_=>(b.1[e.toNat]?).bind λr=>(JT L h j l k r).bind λa=>((bif c5 (a.2.2.2.2.2.2=6) then c6 (c5 (a.2.2.2.2.2.2=6)) else c6 (c5 (a.2.2.2.2.2.2=8))).bind λv=>bif v then c6 (c7 (dd (f.aA,a.2.2.2.2.2.2))) else bif c5 (a.2.2.2.2.2.2=43) then c6 (c7 (c7 ())) else(bif c5 (a.2.2.2.2.2.2=0) then(aj b.1 e).bind λ_=>(b.1[e.toNat]?).bind λ_=>c6 (b.1.set (e.toNat) a.2.2.2.2.2.1) else c6 b.1).bind λw=>c6 (dd (b.2,w)):Option (((yc)×(List aM))⊕(((List ay)×Int)⊕Unit))).bind λs=>dt (λm=>(bj 48 g ([(ay.mk m.1 m.2)]:List ay)).bind λt=>c6 (dd (a.1,a.2.1,a.2.2.1,a.2.2.2.1,a.2.2.2.2.1,t))) (λq=>dt (λn=>c6 (c7 (a.1,a.2.1,a.2.2.1,a.2.2.2.1,a.2.2.2.2.1,n.1,n.2))) (λx=>c6 (dd (a.1,a.2.1,a.2.2.1,a.2.2.2.1,a.2.2.2.2.1,g))) q) s:Option (((List bP)×(List aZ)×(yc)×Int×Int×(List ay))⊕((List bP)×(List aZ)×(yc)×Int×Int×(List ay)×Int))).bind λu=>dt (λd=>c6 (dd (d.1,d.2.1,d.2.2.1,d.2.2.2.1,d.2.2.2.2.1,d.2.2.2.2.2,c3 c4 (i+1)))) (λc=>c6 (c7 (dd (c.1,c.2.1,c.2.2.1,c.2.2.2.1,c.2.2.2.2.1,c.2.2.2.2.2.1,c.2.2.2.2.2.2)))) u else c6 (c7 (c7 (h.ai,h.af,j,l,k,g)))
def I3(e:ak)(g:yc)(f:Int)(h:Int)(l:ak)(d:aL)(i:Int):Option ((List bP)×(List aZ)×(yc)×Int×Int×aL×Int):=(p8 L l d).bind λm=>bif (!m) then c6 (e.ai,e.af,g,f,h,d,6) else(aj d.aA 0).bind λj=>(im L j.aw i).bind λn=>bif (!n) then c6 (e.ai,e.af,g,f,h,d,41) else(L.loop (λb=>Gz L d i (ak.mk b.1 b.2.1) b.2.2.1 b.2.2.2.1 b.2.2.2.2.1 b.2.2.2.2.2.1 b.2.2.2.2.2.2) (e.ai,e.af,g,f,h,([]:List ay),0)).bind λk=>dt (λc=>c6 (c.1,c.2.1,c.2.2.1,c.2.2.2.1,c.2.2.2.2.1,(aL.mk c.2.2.2.2.2.1),c.2.2.2.2.2.2)) (λa=>bif c5 ((a.2.2.2.2.2.length:Int)=0) then c6 (a.1,a.2.1,a.2.2.1,a.2.2.2.1,a.2.2.2.2.1,d,43) else c6 (a.1,a.2.1,a.2.2.1,a.2.2.2.1,a.2.2.2.2.1,(aL.mk a.2.2.2.2.2),0)) k
def CS(b:ak)(f:aL)(c:Int)(g:yc)(e:Int)(d:Int):Option (aL×Int):=(I3 L b g e d b f c).bind λa=>c6 (a.2.2.2.2.2.1,a.2.2.2.2.2.2)
def ra(L:Lp)(a:aR):Option Bool:=c6 (c5 (0<(a.aI.bq.aA.length:Int)))
def Hb(L:Lp)(d:yc)(a:List aZ)(b:Int):Option (((List aZ)×Int)⊕(List aZ)):=bif c5 (b<(d.length:Int)) then(aj d b).bind λc=>(aj a c).bind λ_=>(a[c.toNat]?).bind λe=>c6 (dd (a.set (c.toNat) ({e with jy:=false}:aZ),c3 c4 (b+1))) else c6 (c7 a)
def sW(a:ak)(c:yc):Option (ak×Int):=(ij L a).bind λh=>bif (!h) then c6 ((ak.mk ([]:List bP) ([]:List aZ)),6) else(iU L c 0 (c3 c4 ((a.af.length:Int) -1))).bind λf=>bif (!f) then c6 ((ak.mk ([]:List bP) ([]:List aZ)),4) else(kF L a.ai).bind λe=>(kQ L a.af).bind λd=>(L.loop (λb=>Hb L c b.1 b.2) (d,0)).bind λg=>c6 ((ak.mk e g),0)
def Bp(L:Lp)(d:yc)(a:List aZ)(b:Int):Option (((List aZ)×Int)⊕(List aZ)):=bif c5 (b<(d.length:Int)) then(aj d b).bind λc=>(aj a c).bind λ_=>(a[c.toNat]?).bind λe=>c6 (dd (a.set (c.toNat) ({e with jy:=false}:aZ),c3 c4 (b+1))) else c6 (c7 a)
def vU(a:ak)(c:yc):Option ((List bP)×(List aZ)×Int):=(ij L a).bind λh=>bif (!h) then c6 (([]:List bP),([]:List aZ),6) else(iU L c 0 (c3 c4 ((a.af.length:Int) -1))).bind λf=>bif (!f) then c6 (([]:List bP),([]:List aZ),4) else(kF L a.ai).bind λe=>(kQ L a.af).bind λd=>(L.loop (λb=>Bp L c b.1 b.2) (d,0)).bind λg=>c6 (e,g,0)
def mT(a:aR):Option ((List bP)×(List aZ)):=(vU L a.aI.ao a.aI.aa2.af).bind λb=>c6 (b.1,b.2.1)
def Ai(a:aT):Option Bool:=(lQ L a).bind λb=>c6 (!b)
def I4(a:List aT)(b:Int):Option (Int⊕(Int⊕Unit)):=wi a (λc=>Ai L c) b
def GJ(a:List aT):Option Int:=(L.loop (λc=>I4 L a c) 0).bind λd=>dt (λb=>c6 b) (λe=>c6 (-1)) d
def Ad(a:List aT):Option Bool:=(GJ L a).bind λb=>c6 (c5 (0<=b))
def xD(L:Lp)(c:List aT)(a:aS)(b:Int)(d:Int)(e:List dC):Option sw:=bif c5 (1<(c.length:Int)) then(aj c 0).bind λg=>(aj c (c3 c4 ((c.length:Int) -1))).bind λf=>bif c5 ((c3 c4 (g.aa0+a.cR))<(c3 c4 (f.aa0 -a.cR))) then(bj 32 e ([(dC.mk b d (c3 c4 (g.aa0+a.cR)) (c3 c4 (f.aa0 -a.cR)))]:List dC)).bind λh=>c6 (u32 ([]:List aT) a h b d) else c6 (u32 ([]:List aT) a e b d) else c6 (u32 ([]:List aT) a e b d)
def xH(L:Lp)(c:aS)(b:aT)(a:aT):Option Bool:=(nG (c3 c4 (b.aj6+1)) 65536).bind λd=>bif c5 (a.aj6=d) then bif c5 (b.aa0<=a.aa0) then c6 (c5 ((c3 c4 (a.aa0 -b.aa0))<=(c3 c4 (c.dX+(c3 c4 (2*c.cR)))))) else c6 false else c6 false
def yG(L:Lp)(a:List aT)(b:aS)(c:Int)(d:Int)(e:List dC):Option qv:=bif c5 (1<(a.length:Int)) then(aj a 0).bind λ_=>(a[(0:Int).toNat]?).bind λg=>(aj a (c3 c4 ((a.length:Int) -1))).bind λ_=>(a[(c3 c4 ((a.length:Int) -1)).toNat]?).bind λf=>bif c5 ((c3 c4 (g.aa0+b.cR))<(c3 c4 (f.aa0 -b.cR))) then(bj 32 e ([(dC.mk c d (c3 c4 (g.aa0+b.cR)) (c3 c4 (f.aa0 -b.cR)))]:List dC)).bind λh=>c6 (pC a b c d ([]:List aT) h) else c6 (pC a b c d ([]:List aT) e) else c6 (pC a b c d ([]:List aT) e)
def vj(l:List aT)(c:Int)(e:Int)(f:aS)(h:List dC)(a:List aT)(k:Int):Option (oI⊕qt):=bif c5 (k<(l.length:Int)) then((aj l k).bind λj=>bif c5 (j.agX≠c) then c6 (ql c e f h a) else(im L j.aw e).bind λv=>bif v then(yG L a f c e h).bind λb=>let N:=Se b;let m:=Fp b;let C:=KG b;let H:=FU b;let x:=Hz b;let q:=GM b;c6 (ql C H m q x) else(bif c5 (0<(a.length:Int)) then(aj a (c3 c4 ((a.length:Int) -1))).bind λ_=>(a[(c3 c4 ((a.length:Int) -1)).toNat]?).bind λr=>(xH L f r j).bind λI=>c6 (!I) else c6 false).bind λB=>(bif B then(yG L a f c e h).bind λd=>let M:=Se d;let G:=Fp d;let D:=KG d;let z:=FU d;let y:=Hz d;let F:=GM d;c6 (ql D z G F y) else c6 (ql c e f h a)).bind λg=>let t:=Jw g;let n:=KY g;let J:=Kd g;let o:=FE g;let K:=vh g;(bj 48 K ([j]:List aT)).bind λu=>c6 (ql t n J o u):Option pg).bind λi=>let A:=Jw i;let s:=KY i;let E:=Kd i;let w:=FE i;let p:=vh i;c6 (dd (vI A s E w p (c3 c4 (k+1)))) else c6 (c7 (qA c e f a h))
def xp(f:List aS)(d:Int)(g:Int)(e:List aT):Option ((List dC)×Int):=bif c5 (400<(e.length:Int)) then c6 (([]:List dC),2) else(Ad L e).bind λn=>bif n then c6 (([]:List dC),6) else(bif c5 (d<0) then c6 true else c6 (c5 ((f.length:Int)<=d))).bind λk=>bif k then c6 (([]:List dC),40) else(cp L g 1 65535).bind λp=>bif (!p) then c6 (([]:List dC),41) else(aj f d).bind λj=>(L.loop (λa=>vj L e (ac8 a) (ah4 a) (afQ a) (akR a) (aiI a) (anA a)) (vI d g j ([]:List dC) ([]:List aT) 0)).bind λb=>let o:=LJ b;let l:=Tn b;let h:=MT b;let i:=Mb b;let q:=N2 b;(xD L i h o l q).bind λc=>let s:=Xb c;let u:=acU c;let m:=aaB c;let t:=afG c;let r:=adt c;c6 (m,0)
def Dh(L:Lp)(a:aS):Option Int:=c6 (c3 c4 ((c3 c4 (a.dY+1))*a.dX))
def Gs(a:Int)(c:yc):Option Bool:=(im L c a).bind λb=>c6 b
def DD(a:yc)(h:Bool)(i:Int)(b:Int)(d:Int)(c:Int)(e:yc):Option ((yc)×Bool):=(bif c5 ((max d c)<=2147483648) then(aj a b).bind λ_=>(a[b.toNat]?).bind λf=>bif c5 ((max d c)<f) then(Gs L b e).bind λg=>c6 g else c6 false else c6 false).bind λjA=>bif jA then(aj a b).bind λ_=>(a[b.toNat]?).bind λ_=>c6 (a.set (b.toNat) (max d c),true) else c6 (a,h)
def tY(c:aZ)(j:ak)(m:Int)(o:Int)(k:yc)(a:yc)(d:Bool)(e:Int):Option (((yc)×Bool×Int)⊕((yc)×Bool)):=bif c5 (e<2) then(aj [false,true] e).bind λi=>(bif i then c6 (c.To,c.an) else c6 (c.an,c.To)).bind λb=>(rO L j m i).bind λg=>(bif c5 (0<=g) then(aj a b.1).bind λ_=>(a[b.1.toNat]?).bind λp=>c6 (c5 (p<1099511627776)) else c6 false).bind λn=>(bif n then(aj a b.1).bind λ_=>(a[b.1.toNat]?).bind λl=>(DD L a d b.1 b.2 (c3 c4 (l+g)) o k).bind λh=>c6 (h.1,h.2) else c6 (a,d)).bind λf=>c6 (dd (f.1,f.2,c3 c4 (e+1))) else c6 (c7 (a,d))
def xS(b:ak)(i:Int)(g:yc)(e:yc)(f:Bool)(a:Int):Option (((yc)×Bool×Int)⊕((yc)×Bool)):=bif c5 (a<(b.af.length:Int)) then(aj b.af a).bind λh=>(L.loop (λc=>tY L h b a i g c.1 c.2.1 c.2.2) (e,f,0)).bind λd=>c6 (dd (d.1,d.2,c3 c4 (a+1))) else c6 (c7 (e,f))
def Bj(e:yc)(d:Bool)(c:ak)(g:Int)(f:yc):Option ((yc)×Bool):=(L.loop (λa=>xS L c g f a.1 a.2.1 a.2.2) (e,d,0)).bind λb=>c6 (b.1,b.2)
def HZ(e:ak)(c:Int)(f:yc)(a:yc)(d:Bool):Option (((yc)×Bool)⊕(yc)):=bif d then(Bj L a false e c f).bind λb=>c6 (dd (b.1,b.2)) else c6 (c7 a)
def Ay(d:ak)(f:yc)(c:Int)(g:yc):Option yc:=(cc L f).bind λb=>(L.loop (λa=>HZ L d c g a.1 a.2) (b,true)).bind λe=>c6 e
def CO(L:Lp)(d:yc)(a:yc)(c:Int):Option (((yc)×Int)⊕(yc)):=bif c5 (c<(d.length:Int)) then(aj d c).bind λb=>(aj a b).bind λ_=>(a[b.toNat]?).bind λ_=>c6 (dd (a.set (b.toNat) 1099511627776,c3 c4 (c+1))) else c6 (c7 a)
def wV(e:ak)(a:aM)(c:yc)(h:Int)(b:Int)(d:Int):Option (aM×Int):=(vY L e a c h b).bind λg=>bif c5 (g≠0) then c6 (a,g) else(cp L d 0 2147483648).bind λl=>bif (!l) then c6 (a,8) else bif c5 (b<a.aa0) then c6 (a,42) else bif c5 ((c3 c4 (b - (max h a.aa0)))<=d) then c6 (a,0) else(cc L a.an).bind λj=>(L.loop (λf=>CO L c f.1 f.2) (j,0)).bind λm=>(Ay L e m (c3 c4 (b -d)) c).bind λi=>(sI L e i b).bind λk=>c6 ((aM.mk b k),0)
def Io(a:ak)(e:yc)(b:Int)(f:Int)(d:Int)(g:aM):Option ((List bP)×(List aZ)×(yc)×Int×Int×Int×aM×Int):=(wV L a g e b f d).bind λc=>c6 (a.ai,a.af,e,b,f,d,c.1,c.2)
def Fl(f:aL)(s:Int)(i:ak)(j:yc)(l:Int)(m:Int)(p:Int)(h:List ay)(g:Int):Option (((List bP)×(List aZ)×(yc)×Int×Int×Int×(List ay)×Int)⊕(((List bP)×(List aZ)×(yc)×Int×Int×Int×(List ay)×Int)⊕((List bP)×(List aZ)×(yc)×Int×Int×Int×(List ay)))):=bif c5 (g<(f.aA.length:Int)) then((aj f.aA g).bind λk=>(to L k.aw s).bind λe=>(mH L k).bind λd=>(aj d.1 e).bind λ_=>(d.1[e.toNat]?).bind λv=>(Io L i j l m p v).bind λa=>((bif c5 (a.2.2.2.2.2.2.2=6) then c6 (c5 (a.2.2.2.2.2.2.2=6)) else c6 (c5 (a.2.2.2.2.2.2.2=8))).bind λt=>bif t then c6 (c7 (dd (f.aA,a.2.2.2.2.2.2.2))) else bif c5 (a.2.2.2.2.2.2.2=43) then c6 (c7 (c7 ())) else(bif c5 (a.2.2.2.2.2.2.2=0) then(aj d.1 e).bind λ_=>(d.1[e.toNat]?).bind λ_=>c6 (d.1.set (e.toNat) a.2.2.2.2.2.2.1) else c6 d.1).bind λw=>c6 (dd (d.2,w)):Option (((yc)×(List aM))⊕(((List ay)×Int)⊕Unit))).bind λu=>dt (λn=>(bj 48 h ([(ay.mk n.1 n.2)]:List ay)).bind λq=>c6 (dd (a.1,a.2.1,a.2.2.1,a.2.2.2.1,a.2.2.2.2.1,a.2.2.2.2.2.1,q))) (λx=>dt (λo=>c6 (c7 (a.1,a.2.1,a.2.2.1,a.2.2.2.1,a.2.2.2.2.1,a.2.2.2.2.2.1,o.1,o.2))) (λy=>c6 (dd (a.1,a.2.1,a.2.2.1,a.2.2.2.1,a.2.2.2.2.1,a.2.2.2.2.2.1,h))) x) u:Option (((List bP)×(List aZ)×(yc)×Int×Int×Int×(List ay))⊕((List bP)×(List aZ)×(yc)×Int×Int×Int×(List ay)×Int))).bind λr=>dt (λc=>c6 (dd (c.1,c.2.1,c.2.2.1,c.2.2.2.1,c.2.2.2.2.1,c.2.2.2.2.2.1,c.2.2.2.2.2.2,c3 c4 (g+1)))) (λb=>c6 (c7 (dd (b.1,b.2.1,b.2.2.1,b.2.2.2.1,b.2.2.2.2.1,b.2.2.2.2.2.1,b.2.2.2.2.2.2.1,b.2.2.2.2.2.2.2)))) r else c6 (c7 (c7 (i.ai,i.af,j,l,m,p,h)))
def Hu(e:ak)(g:yc)(f:Int)(i:Int)(h:Int)(l:ak)(d:aL)(j:Int):Option ((List bP)×(List aZ)×(yc)×Int×Int×Int×aL×Int):=(p8 L l d).bind λo=>bif (!o) then c6 (e.ai,e.af,g,f,i,h,d,6) else(aj d.aA 0).bind λm=>(im L m.aw j).bind λn=>bif (!n) then c6 (e.ai,e.af,g,f,i,h,d,41) else(L.loop (λc=>Fl L d j (ak.mk c.1 c.2.1) c.2.2.1 c.2.2.2.1 c.2.2.2.2.1 c.2.2.2.2.2.1 c.2.2.2.2.2.2.1 c.2.2.2.2.2.2.2) (e.ai,e.af,g,f,i,h,([]:List ay),0)).bind λk=>dt (λb=>c6 (b.1,b.2.1,b.2.2.1,b.2.2.2.1,b.2.2.2.2.1,b.2.2.2.2.2.1,(aL.mk b.2.2.2.2.2.2.1),b.2.2.2.2.2.2.2)) (λa=>bif c5 ((a.2.2.2.2.2.2.length:Int)=0) then c6 (a.1,a.2.1,a.2.2.1,a.2.2.2.1,a.2.2.2.2.1,a.2.2.2.2.2.1,d,43) else c6 (a.1,a.2.1,a.2.2.1,a.2.2.2.1,a.2.2.2.2.1,a.2.2.2.2.2.1,(aL.mk a.2.2.2.2.2.2),0)) k
def Bq(b:ak)(g:aL)(d:Int)(h:yc)(f:Int)(e:Int)(c:Int):Option (aL×Int):=(Hu L b h f e c b g d).bind λa=>c6 (a.2.2.2.2.2.2.1,a.2.2.2.2.2.2.2)
def uQ(c:Int)(a:aS)(b:dC)(e:Int)(g:ak)(f:aL):Option pT:=(Dh L a).bind λh=>(Bq L g f c a.ai b.an e h).bind λd=>c6 (Ft c a b e d.1 d.2)
def swp(c b:Int){e:Type}(a:yc)(f:yc->Option e):Option e:=(aj a b).bind λ_=>(a[b.toNat]?).bind λd=>(aj a c).bind λ_=>(a[c.toNat]?).bind λv=>(aj a c).bind λ_=>(a[c.toNat]?).bind λ_=>(aj (a.set c.toNat d) b).bind λ_=>((a.set c.toNat d)[b.toNat]?).bind λ_=>f ((a.set c.toNat d).set b.toNat v)
def oX(e:aB)(d c:Int):Option (aB×Int):=(wv L e [d,c]).bind λi=>bif c5 (i≠0) then c6 (e,i) else bif c5 (d=c) then c6 (e,19) else(aj e.aN d).bind λj=>(aj e.aN c).bind λb=>bif c5 (j.abG≠b.abG) then c6 (e,3) else match e.bp with |[]=>(we L e).bind λa=>swp d c a.1 λf=>c6 (aB.mk (ak.mk a.2.2.2.1 a.2.2.2.2.1) a.2.2.2.2.2.1 a.2.2.2.2.2.2.1 f a.2.2.2.2.2.2.2 a.2.1 a.2.2.1 [],0) |[_]=>(uR L e).bind λa=>swp d c a.1 λf=>swp d c a.2.2.2.1 λg=>c6 (aB.mk (ak.mk a.2.2.2.2.1 a.2.2.2.2.2.1) a.2.2.2.2.2.2.1 a.2.2.2.2.2.2.2.1 f a.2.2.2.2.2.2.2.2 a.2.1 a.2.2.1 [g],0) |[_,_]=>(pO L e).bind λa=>swp d c a.1 λf=>swp d c a.2.2.2.1 λg=>swp d c a.2.2.2.2.1 λh=>c6 (aB.mk (ak.mk a.2.2.2.2.2.1 a.2.2.2.2.2.2.1) a.2.2.2.2.2.2.2.1 a.2.2.2.2.2.2.2.2.1 f a.2.2.2.2.2.2.2.2.2 a.2.1 a.2.2.1 [g,h],0) |[_,_,_]=>(nM L e).bind λa=>swp d c a.1 λf=>swp d c a.2.2.2.1 λg=>swp d c a.2.2.2.2.1 λh=>swp d c a.2.2.2.2.2.1 λk=>c6 (aB.mk (ak.mk a.2.2.2.2.2.2.1 a.2.2.2.2.2.2.2.1) a.2.2.2.2.2.2.2.2.1 a.2.2.2.2.2.2.2.2.2.1 f a.2.2.2.2.2.2.2.2.2.2 a.2.1 a.2.2.1 [g,h,k],0) |_=>e0
def Dw(L:Lp)(a:Int)(c:aM)(b:Int):Option Bool:=(aj c.an a).bind λd=>c6 (c5 (d<=b))
def Ge(d:Int)(h:aM)(c:Int)(b:yc)(a:Int):Option (((yc)×Int)⊕(yc)):=bif c5 (a<d) then(Dw L a h c).bind λf=>(bif f then(bj 8 b ([a]:yc)).bind λe=>c6 e else c6 b).bind λg=>c6 (dd (g,c3 c4 (a+1))) else c6 (c7 b)
def HL(c:Int)(e:aM)(b:Int):Option yc:=(L.loop (λa=>Ge L c e b a.1 a.2) (([]:yc),0)).bind λd=>c6 d
def su(a:aM)(c:Int):Option yc:=(HL L (a.an.length:Int) a c).bind λb=>c6 b
def zO(a:Int)(c:yc):Option Bool:=(im L c a).bind λb=>c6 b
def IF(a:yc)(b:yc)(c:Int):Option (Int⊕(Int⊕Unit)):=wi a (λd=>zO L d b) c
def Iw(b:yc)(a:yc):Option Int:=(L.loop (λd=>IF L b a d) 0).bind λe=>dt (λc=>c6 c) (λf=>c6 (-1)) e
def B3(a:yc)(c:yc):Option Bool:=(Iw L a c).bind λb=>c6 (c5 (0<=b))
def EE(b:aM)(f:aM)(a:Int):Option Bool:=(su L f a).bind λd=>(su L b a).bind λe=>(B3 L e d).bind λc=>c6 c
def xc(a:aM)(b:Int):Option (aM×Int):=(bif c5 (b<a.aa0) then c6 true else c6 (c5 (2147483648<b))).bind λd=>bif d then c6 (a,8) else(cc L a.an).bind λc=>c6 ((aM.mk b c),0)
def CV(c:ay)(d:ay)(a:Int):Option (((List aM)×Int)⊕(List aM)):=bif c5 (a<(c.aH.length:Int)) then(aj c.aH a).bind λb=>(cc L b.an).bind λe=>(bj 32 d.aH ([(aM.mk b.aa0 e)]:List aM)).bind λf=>c6 (dd (f,c3 c4 (a+1))) else c6 (c7 d.aH)
def Ac(b:ay):Option ((yc)×(List aM)):=(cc L b.aw).bind λa=>(L.loop (λc=>CV L b (ay.mk a c.1) c.2) (([]:List aM),0)).bind λd=>c6 (a,d)
def Ke(L:Lp)(a:List ay):Option (List ay):=bj 48 [] a
def EG(L:Lp)(c:aM)(f:aM)(b:aM)(a:Int):Option ((Int×(yc)×Int)⊕(Int×(yc))):=bif c5 (a<(c.an.length:Int)) then(aj c.an a).bind λg=>(aj f.an a).bind λe=>(bj 8 b.an ([min g e]:yc)).bind λd=>c6 (dd (b.aa0,d,c3 c4 (a+1))) else c6 (c7 (b.aa0,b.an))
def xW(a:aM)(b:aM):Option (aM×Int):=bif c5 ((a.an.length:Int)≠(b.an.length:Int)) then c6 ((aM.mk 0 ([]:yc)),6) else(L.loop (λc=>EG L a b (aM.mk c.1 c.2.1) c.2.2) (max a.aa0 b.aa0,([]:yc),0)).bind λd=>c6 ((aM.mk d.1 d.2),0)
def IK(a:ay)(c:ay):Option Int:=(sL L a.aw c.aw).bind λb=>c6 b
def Mg(i:Int)(b:List ay)(a:Int):Option (((List ay)×Int)⊕(List ay)):=(bif c5 (i<a) then(aj b a).bind λ_=>(b[a.toNat]?).bind λh=>(aj b (c3 c4 (a -1))).bind λ_=>(b[(c3 c4 (a -1)).toNat]?).bind λg=>(IK L h g).bind λf=>c6 (c5 (f<0)) else c6 false).bind λd=>bif d then(aj b (c3 c4 (a -1))).bind λ_=>(b[(c3 c4 (a -1)).toNat]?).bind λc=>(aj b a).bind λ_=>(b[a.toNat]?).bind λe=>(aj b a).bind λ_=>(b[a.toNat]?).bind λ_=>(aj (b.set (a.toNat) c) (c3 c4 (a -1))).bind λ_=>((b.set (a.toNat) c)[(c3 c4 (a -1)).toNat]?).bind λ_=>c6 (dd ((b.set (a.toNat) c).set ((c3 c4 (a -1)).toNat) e,c3 c4 (a -1))) else c6 (c7 b)
def Sx(d:Int)(e:Int)(b:List ay)(a:Int):Option (((List ay)×Int)⊕(List ay)):=bif c5 (a<d) then(L.loop (λc=>Mg L e c.1 c.2) (b,a)).bind λf=>c6 (dd (f,c3 c4 (a+1))) else c6 (c7 b)
def xn(d:List ay)(b:Int)(c:Int):Option (List ay):=(L.loop (λa=>Sx L c b a.1 a.2) (d,c3 c4 (b+1))).bind λe=>c6 e
def zB(e:Int)(c:List ay)(b:Int)(a:Int):Option (((List ay)×Int×Int)⊕((List ay)×Int)):=bif c5 (a<=e) then(xn L c b a).bind λd=>c6 (dd (d,a,c3 c4 (a+20))) else c6 (c7 (c,b))
def afc(L:Lp)(a:Int)(b:Int):Option (Int⊕Unit):=bif c5 (b<=a) then e0 else c6 (c7 ())
def KH(b:Int)(a:Int):Option (Int⊕Unit):=bif c5 (a<b) then(L.loop (λc=>afc L b c) (c3 c4 (2*a))).bind λd=>bif c5 ((c3 c4 (0+a))<b) then e0 else c6 (dd (c3 c4 (a*2))) else c6 (c7 ())
def Je(d:List ay)(b:Int):Option (List ay):=(L.loop (λa=>zB L b a.1 a.2.1 a.2.2) (d,0,20)).bind λc=>(xn L c.1 c.2 b).bind λe=>(L.loop (λa=>KH L b a) 20).bind λf=>c6 e
def GP(a:List ay):Option (List ay):=(Je L a (a.length:Int)).bind λb=>c6 b
def JY(L:Lp)(a:List ay):Option (List ay):=bj 48 [] a
def FQ(a:List ay):Option (List ay):=(JY L a).bind λb=>c6 b
def uv(b:List ay):Option (List ay):=(FQ L b).bind λa=>(GP L a).bind λc=>c6 c
def qR(b:List aM)(a:List aM)(i:Int):Option ((List aM×Int)⊕List aM):=bif c5 (i<(b.length:Int)) then(aj a i).bind λc=>(aj b i).bind λe=>(xW L c e).bind λd=>c6 (dd (a.set i.toNat d.1,c3 c4 (i+1))) else c6 (c7 a)
def lZ(c out:List ay)(i:Int):Option ((List ay×Int)⊕List ay):=bif c5 (i<(c.length:Int)) then(aj c i).bind λb=>(bif c5 (0<(out.length:Int)) then(aj out (c3 c4 ((out.length:Int) -1))).bind λa=>qG L a.aw b.aw else c6 false).bind λg=>bif g then(aj out (c3 c4 ((out.length:Int) -1))).bind λa=>(L.loop (λd=>qR L b.aH d.1 d.2) (a.aH,0)).bind λf=>c6 (dd (out.set (c3 c4 ((out.length:Int) -1)).toNat {a with aH:=f},c3 c4 (i+1))) else(oM L b).bind λe=>(bj 48 out [e]).bind λout=>c6 (dd (out,c3 c4 (i+1))) else c6 (c7 out)
def yK(c:List ay):Option (List ay):=(uv L c).bind λb=>L.loop (λa=>lZ L b a.1 a.2) (([]:List ay),0)
def tC(f:Int)(i:Int)(g:Int)(a:List aM)(c:Int):Option (((List aM)×Int)⊕(List aM)):=bif c5 (c<2) then(aj ([f,i]:yc) c).bind λb=>(aj a b).bind λ_=>(a[b.toNat]?).bind λe=>(xc L e g).bind λd=>(bif c5 (d.2=0) then(aj a b).bind λ_=>(a[b.toNat]?).bind λ_=>c6 (a.set (b.toNat) d.1) else c6 a).bind λh=>c6 (dd (h,c3 c4 (c+1))) else c6 (c7 a)
def H9(k:aL)(b:Int)(c:Int)(j:Int)(g:List ay)(e:Int):Option (((List ay)×Int)⊕(List ay)):=bif c5 (e<(k.aA.length:Int)) then((aj k.aA e).bind λd=>(aj d.aH b).bind λp=>(aj d.aH c).bind λq=>(EE L p q j).bind λo=>bif (!o) then c6 g else(Ac L d).bind λa=>(aj a.1 c).bind λ_=>(a.1[c.toNat]?).bind λf=>(aj a.1 b).bind λ_=>(a.1[b.toNat]?).bind λm=>(aj a.1 b).bind λ_=>(a.1[b.toNat]?).bind λ_=>(aj (a.1.set (b.toNat) f) c).bind λ_=>((a.1.set (b.toNat) f)[c.toNat]?).bind λ_=>((L.loop (λi=>tC L b c j i.1 i.2) (a.2,0)).bind λn=>c6 ((a.1.set (b.toNat) f).set (c.toNat) m,n):Option ((yc)×(List aM))).bind λh=>(bj 48 g ([(ay.mk h.1 h.2)]:List ay)).bind λl=>c6 l:Option (List ay)).bind λr=>c6 (dd (r,c3 c4 (e+1))) else c6 (c7 g)
def yY(m:ak)(a:aL)(b:Int)(c:Int)(f:Int):Option (aL×Int):=(p8 L m a).bind λi=>bif (!i) then c6 (a,6) else(aj a.aA 0).bind λg=>((cp L b 0 (c3 c4 ((g.aw.length:Int) -1))).bind λl=>bif (!l) then c6 true else(cp L c 0 (c3 c4 ((g.aw.length:Int) -1))).bind λk=>bif (!k) then c6 true else c6 (c5 (b=c)):Option Bool).bind λj=>bif j then c6 (a,19) else(cp L f 0 2147483648).bind λo=>bif (!o) then c6 (a,8) else(Ke L a.aA).bind λn=>(L.loop (λe=>H9 L a b c f e.1 e.2) (n,0)).bind λh=>(yK L h).bind λd=>bif c5 (24<(d.length:Int)) then c6 (a,44) else c6 ((aL.mk d),0)
def DV(a:Int)(c:bQ):Option Bool:=bif c5 (a≠1099511627776) then(cp L a c.aa0 2147483648).bind λb=>c6 (!b) else c6 false
def GU(a:yc)(b:bQ)(c:Int):Option (Int⊕(Int⊕Unit)):=wi a (λd=>DV L d b) c
def GH(b:yc)(a:bQ):Option Int:=(L.loop (λd=>GU L b a d) 0).bind λe=>dt (λc=>c6 c) (λf=>c6 (-1)) e
def Ab(a:yc)(c:bQ):Option Bool:=(GH L a c).bind λb=>c6 (c5 (0<=b))
def wB(b:ak)(a:bQ):Option Bool:=(ij L b).bind λd=>bif d then bif c5 ((a.an.length:Int)=(b.ai.length:Int)) then(cp L a.aa0 0 2147483648).bind λe=>bif e then(Ab L a.an a).bind λc=>c6 (!c) else c6 false else c6 false else c6 false
def Fi(L:Lp)(c:bQ)(d:Int)(b:yc)(a:Int):Option (((yc)×Int)⊕(yc)):=bif c5 (a<(c.an.length:Int)) then(aj c.an a).bind λe=>(aj b a).bind λ_=>(b[a.toNat]?).bind λ_=>c6 (dd (b.set (a.toNat) (max e d),c3 c4 (a+1))) else c6 (c7 b)
def Ii(e:ak)(g:bQ)(d:Int)(h:List bI)(c:yc)(b:Int):Option (((yc)×Int)⊕(yc)):=bif c5 (b<(e.af.length:Int)) then(aj e.af b).bind λa=>((aj g.an a.an).bind λk=>bif c5 (k<=d) then(aj h b).bind λm=>(n6 L e b m false).bind λl=>c6 (c5 (0<=l)) else c6 false:Option Bool).bind λq=>(bif q then(aj c a.To).bind λ_=>(c[a.To.toNat]?).bind λ_=>c6 (c.set (a.To.toNat) d) else c6 c).bind λf=>((aj g.an a.To).bind λo=>bif c5 (o<=d) then(aj h b).bind λj=>(n6 L e b j true).bind λi=>c6 (c5 (0<=i)) else c6 false:Option Bool).bind λn=>(bif n then(aj f a.an).bind λ_=>(f[a.an.toNat]?).bind λ_=>c6 (f.set (a.an.toNat) d) else c6 f).bind λp=>c6 (dd (p,c3 c4 (b+1))) else c6 (c7 c)
def uk(e:ak)(f:List bI)(d:ak)(g:List bI)(a:bQ)(b:Int):Option (bQ×Int):=((pD L e f).bind λl=>bif (!l) then c6 true else(wB L e a).bind λp=>bif (!p) then c6 true else(pD L d g).bind λm=>bif (!m) then c6 true else c6 (c5 ((d.ai.length:Int)≠(e.ai.length:Int))):Option Bool).bind λk=>bif k then c6 (a,6) else(bif c5 (b<a.aa0) then c6 true else c6 (c5 (2147483648<b))).bind λn=>bif n then c6 (a,8) else(gP 8 0 (a.an.length:Int)).bind λi=>(L.loop (λc=>Fi L a b c.1 c.2) (i,0)).bind λj=>(L.loop (λc=>Ii L e a b f c.1 c.2) (j,0)).bind λo=>(rM L o d.ai d.af g).bind λh=>c6 ((bQ.mk b h),0)
def HM(L:Lp)(d:yc)(e:Int)(a:yc)(b:Int):Option (((yc)×Int)⊕(yc)):=bif c5 (b<(d.length:Int)) then(aj d b).bind λc=>(aj a c).bind λ_=>(a[c.toNat]?).bind λ_=>c6 (dd (a.set (c.toNat) e,c3 c4 (b+1))) else c6 (c7 a)
def EX(a:ak)(e:List bI)(c:yc)(b:Int):Option ((yc)×Int×Int):=(pD L a e).bind λf=>bif (!f) then c6 (([]:yc),0,6) else(iU L c 0 (c3 c4 ((a.ai.length:Int) -1))).bind λg=>bif (!g) then c6 (([]:yc),0,3) else(cp L b 0 2147483648).bind λj=>bif (!j) then c6 (([]:yc),0,8) else(sJ L ([1099511627776]:yc) (a.ai.length:Int)).bind λh=>(L.loop (λd=>HM L c b d.1 d.2) (h,0)).bind λi=>(rM L i a.ai a.af e).bind λk=>c6 (k,b,0)
def xP(a:cy)(b:Int):Option (Int⊕(Unit⊕Unit)):=bif c5 (b<4) then(aj ([a.abv,a.eB,a.ku,a.mZ]:yc) b).bind λd=>(cp L d 0 2147483648).bind λc=>bif (!c) then c6 (c7 (dd ())) else c6 (dd (c3 c4 (b+1))) else c6 (c7 (c7 ()))
def Dg(a:cy):Option Bool:=(L.loop (λe=>xP L a e) 0).bind λf=>dt (λh=>c6 false) (λi=>((cp L a.anS 1 4).bind λb=>bif (!b) then c6 true else(cp L a.pB 1 2147483648).bind λd=>c6 (!d):Option Bool).bind λc=>bif c then c6 false else bif a.sd then c6 (c5 (a.l9=0)) else(cp L a.l9 a.ku 2147483648).bind λg=>bif g then c6 (!a.uV) else c6 false) f
def qF(L:Lp)(b:yc)(a:Int):Option (Int⊕(Int⊕Unit)):=bif c5 (a<(b.length:Int)) then(aj b a).bind λc=>bif c5 (c≠0) then c6 (c7 (dd c)) else c6 (dd (c3 c4 (a+1))) else c6 (c7 (c7 ()))
def CY(b:yc):Option Int:=(L.loop (λd=>qF L b d) 0).bind λc=>dt (λa=>c6 a) (λe=>c6 0) c
def rK(a:cy)(b:kC):Option Int:=(uE L a.abv b.kind).bind λd=>(uE L a.eB b.Dn).bind λe=>(CY L ([d,e]:yc)).bind λc=>c6 c
def vH(b:List cy)(a:Int):Option (Int⊕(Unit⊕Unit)):=bif c5 (a<(b.length:Int)) then(aj b a).bind λc=>((Dg L c).bind λg=>bif (!g) then c6 true else bif c5 (0<a) then(aj b (c3 c4 (a -1))).bind λe=>(rK L e (kC.mk c.abv c.eB)).bind λf=>c6 (c5 (0<=f)) else c6 false:Option Bool).bind λd=>bif d then c6 (c7 (dd ())) else c6 (dd (c3 c4 (a+1))) else c6 (c7 (c7 ()))
def yE(a:List cy):Option Bool:=bif c5 (64<(a.length:Int)) then c6 false else(L.loop (λc=>vH L a c) 0).bind λb=>dt (λe=>c6 false) (λd=>c6 true) b
def Rt(f:List cy)(h:kC)(a:Int)(c:Int):Option ((Int×Int)⊕Int):=bif c5 (a<c) then(iN .u64 (dv.wrap (c3 c4 (a+c))) 1).bind λb=>(aj f (c3 c4 b)).bind λe=>(rK L e h).bind λg=>(bif c5 (g<0) then c6 (c3 c4 ((c3 c4 b)+1),c) else c6 (a,c3 c4 b)).bind λd=>c6 (dd (d.1,d.2)) else c6 (c7 a)
def Ec(a:List cy)(d:kC):Option (Int×Bool):=(L.loop (λc=>Rt L a d c.1 c.2) (0,(a.length:Int))).bind λb=>bif c5 (b<(a.length:Int)) then(aj a b).bind λf=>(rK L f d).bind λe=>c6 (b,c5 (e=0)) else c6 (b,false)
def D3(L:Lp)(a:List cy)(c:List cy)(b:Int):Option (List cy):=B2 64 a b c
def rk(b:List cy)(f:Int)(g:Int)(d:Int)(e:Int):Option ((List cy)×Int):=(yE L b).bind λq=>bif (!q) then c6 (b,6) else((cp L f 0 2147483648).bind λr=>bif (!r) then c6 true else(cp L g 0 2147483648).bind λt=>bif (!t) then c6 true else(cp L d 1 4).bind λk=>c6 (!k):Option Bool).bind λv=>bif v then c6 (b,1) else(Ec L b (kC.mk f g)).bind λa=>((cp L e 0 2147483648).bind λn=>bif (!n) then c6 true else bif a.2 then(aj b a.1).bind λp=>bif c5 (e<p.ku) then c6 true else(aj b a.1).bind λo=>c6 (c5 (e<o.l9)) else c6 false:Option Bool).bind λs=>bif s then c6 (b,8) else bif (!a.2) then bif c5 ((b.length:Int)=64) then c6 (b,2) else(pI L b).bind λu=>(D3 L u ([(cy.mk f g d e 0 true false 0 1)]:List cy) a.1).bind λi=>c6 (i,0) else(pI L b).bind λc=>(aj c a.1).bind λ_=>(c[a.1.toNat]?).bind λw=>bif (!w.sd) then(c[a.1.toNat]?).bind λm=>(c[a.1.toNat]?).bind λ_=>c6 (c.set (a.1.toNat) (cy.mk f g d e 0 true false 0 (min (c3 c4 (m.pB+1)) 2147483648)),0) else(c[a.1.toNat]?).bind λl=>bif c5 (d<l.anS) then(c[a.1.toNat]?).bind λh=>((c.set (a.1.toNat) ({h with anS:=d}:cy))[a.1.toNat]?).bind λj=>c6 ((c.set (a.1.toNat) ({h with anS:=d}:cy)).set (a.1.toNat) ({j with mZ:=0}:cy),0) else c6 (c,0)
def B0(L:Lp)(a:bC)(c:aR)(b:bH):Option Bool:=(aj c.aI.aa2.af b.A).bind λd=>c6 (c5 (a.akw=d))
def aou(c:List bC)(e:aR)(a:bH)(d:Int):Option (Int⊕(Int⊕Unit)):=wi c (λb=>B0 L b e a) d
def Er(b:List bC)(f:aR)(a:bH):Option Int:=(L.loop (λd=>aou L b f a d) 0).bind λe=>dt (λc=>c6 c) (λg=>c6 (-1)) e
def Dv(a:List bC)(c:aR)(d:bH):Option Bool:=(Er L a c d).bind λb=>c6 (c5 (0<=b))
def EA(a:bA):Option bA:=(cc L a.af).bind λb=>(cc L a.aa2).bind λc=>c6 (bA.mk b c a.Out)
def IL(a:bA):Option ((yc)×(yc)×Bool):=(cc L a.af).bind λb=>(cc L a.aa2).bind λc=>c6 (c,b,a.Out)
def qO(a:bA)(c:Int)(d:Int)(i:Int):Option (bA×Int):=(oL L a).bind λe=>bif (!e) then c6 (a,6) else(cp L c 0 (c3 c4 ((a.aa2.length:Int) -1))).bind λg=>bif (!g) then c6 (a,47) else((aj a.aa2 c).bind λf=>bif c5 (f≠d) then c6 true else c6 a.Out:Option Bool).bind λh=>bif h then c6 (a,48) else(IL L a).bind λb=>(aj b.1 c).bind λ_=>(b.1[c.toNat]?).bind λ_=>c6 ((bA.mk b.2.1 (b.1.set (c.toNat) i) b.2.2),0)
def GQ(b:bA)(c:Int):Option (bA×Int):=(qO L b c 0 1).bind λa=>c6 (a.1,a.2)
def J0(b:bA)(c:Int):Option (bA×Int):=(qO L b c 1 2).bind λa=>c6 (a.1,a.2)
def KV(L:Lp)(a:Int):Option Bool:=c6 (c5 (a≠2))
def ahp(a:yc)(b:Int):Option (Int⊕(Int⊕Unit)):=wi a (λc=>KV L c) b
def CC(a:yc):Option Int:=(L.loop (λc=>ahp L a c) 0).bind λd=>dt (λb=>c6 b) (λe=>c6 (-1)) d
def zA(a:yc):Option Bool:=(CC L a).bind λb=>c6 (c5 (0<=b))
def xi(a:bA)(b:Bool):Option (bA×Int):=(oL L a).bind λd=>bif (!d) then c6 (a,6) else(bif (a.Out==b) then c6 true else bif b then(yh L a).bind λe=>c6 (!e) else c6 false).bind λf=>bif f then c6 (a,48) else(EA L a).bind λc=>c6 ((bA.mk c.af c.aa2 b),0)
def Cu(b:bA):Option (bA×Int):=(xi L b true).bind λa=>c6 (a.1,a.2)
def Jb(L:Lp)(a:aM)(b:Int):Option Bool:=c6 (c5 (b<a.aa0))
def Gr(a:List aM)(b:Int)(c:Int):Option (Int⊕(Int⊕Unit)):=wi a (λd=>Jb L d b) c
def Gk(b:List aM)(a:Int):Option Int:=(L.loop (λd=>Gr L b a d) 0).bind λe=>dt (λc=>c6 c) (λf=>c6 (-1)) e
def JC(a:List aM)(c:Int):Option Bool:=(Gk L a c).bind λb=>c6 (c5 (0<=b))
def AP(a:ay)(c:Int):Option Bool:=(JC L a.aH c).bind λb=>c6 b
def Jx(a:List ay)(b:Int)(c:Int):Option (Int⊕(Int⊕Unit)):=wi a (λd=>AP L d b) c
def Jm(b:List ay)(a:Int):Option Int:=(L.loop (λd=>Jx L b a d) 0).bind λe=>dt (λc=>c6 c) (λf=>c6 (-1)) e
def AL(a:List ay)(c:Int):Option Bool:=(Jm L a c).bind λb=>c6 (c5 (0<=b))
def xT(c:ak)(a:aM)(b:Int):Option (aM×Int):=((ij L c).bind λf=>bif (!f) then c6 true else(ur L c a).bind λe=>c6 (!e):Option Bool).bind λjA=>bif jA then c6 (a,6) else(bif c5 (b<a.aa0) then c6 true else c6 (c5 (2147483648<b))).bind λkE=>bif kE then c6 (a,8) else(ze L c a.an b).bind λd=>c6 ((aM.mk b d),0)
def IJ(b:yc)(d:ak)(a:Int)(c:Int):Option (aM×Int):=((ij L d).bind λg=>bif (!g) then c6 true else(ur L d (aM.mk a b)).bind λf=>c6 (!f):Option Bool).bind λjA=>bif jA then c6 ((aM.mk a b),6) else(bif c5 (c<a) then c6 true else c6 (c5 (2147483648<c))).bind λkE=>bif kE then c6 ((aM.mk a b),8) else(sI L d b c).bind λe=>c6 ((aM.mk c e),0)
def JO(L:Lp)(d:yc)(e:aM)(a:yc)(c:Int):Option (((yc)×Int)⊕(yc)):=bif c5 (c<(d.length:Int)) then(aj d c).bind λb=>(aj e.an b).bind λf=>(aj a b).bind λ_=>(a[b.toNat]?).bind λ_=>c6 (dd (a.set (b.toNat) f,c3 c4 (c+1))) else c6 (c7 a)
def CA(g:ak)(a:aM)(b:Int):Option (aM×Int):=(sJ L ([1099511627776]:yc) (a.an.length:Int)).bind λe=>(su L a b).bind λf=>(L.loop (λc=>JO L f a c.1 c.2) (e,0)).bind λh=>(IJ L h g a.aa0 b).bind λd=>c6 (d.1,d.2)
def zx(d:ay)(e:ak×Int)(h:Int)(g:aL)(b:List aM)(a:Int):Option (((List aM)×Int)⊕(((List ay)×Int)⊕(List aM))):=bif c5 (a<(d.aH.length:Int)) then(aj d.aH a).bind λf=>(CA L e.1 f h).bind λc=>bif c5 (c.2≠0) then c6 (c7 (dd (g.aA,c.2))) else(aj b a).bind λ_=>(b[a.toNat]?).bind λ_=>c6 (dd (b.set (a.toNat) c.1,c3 c4 (a+1))) else c6 (c7 (c7 b))
def FR(b:aL)(j:ak×Int)(o:Int)(i:List ay)(a:Int):Option (((List ay)×Int)⊕(((List ay)×Int)⊕(List ay))):=bif c5 (a<(b.aA.length:Int)) then(aj b.aA a).bind λg=>(mH L g).bind λe=>((L.loop (λf=>zx L g j o b f.1 f.2) (e.1,0)).bind λk=>dt (λc=>c6 (c7 (c.1,c.2))) (λn=>c6 (dd (e.2,n))) k:Option (((yc)×(List aM))⊕((List ay)×Int))).bind λl=>dt (λh=>(bj 48 i ([(ay.mk h.1 h.2)]:List ay)).bind λm=>c6 (dd (m,c3 c4 (a+1)))) (λd=>c6 (c7 (dd (d.1,d.2)))) l else c6 (c7 (c7 i))
def Em(d:ak)(a:aL)(h:yc)(c:Int):Option (aL×Int):=(p8 L d a).bind λj=>bif (!j) then c6 (a,6) else(sW L d h).bind λb=>bif c5 (b.2≠0) then c6 (a,b.2) else(bif c5 (2147483648<c) then c6 true else(AL L a.aA c).bind λi=>c6 i).bind λm=>bif m then c6 (a,8) else(L.loop (λe=>FR L a b c e.1 e.2) (([]:List ay),0)).bind λk=>dt (λf=>c6 ((aL.mk f.1),f.2)) (λg=>(yK L g).bind λl=>c6 ((aL.mk l),0)) k
def zd(L:Lp)(b:b7)(a:Int):Option Bool:=bif c5 (b.aa0<=a) then c6 (c5 (a<=2147483648)) else c6 false
def CR(a:Int)(b:aM):Option Bool:=(cp L a 0 (c3 c4 ((b.an.length:Int) -1))).bind λc=>bif c then(aj b.an a).bind λd=>c6 (c5 (d≠1099511627776)) else c6 false
def G9(a:yc)(b:aM)(c:Int):Option (Int⊕(Int⊕Unit)):=wi a (λd=>CR L d b) c
def G4(b:yc)(a:aM):Option Int:=(L.loop (λd=>G9 L b a d) 0).bind λe=>dt (λc=>c6 c) (λf=>c6 (-1)) e
def As(a:yc)(c:aM):Option Bool:=(G4 L a c).bind λb=>c6 (c5 (0<=b))
def xK(b:ay)(e:yc)(a:Int):Option (Int⊕(Unit⊕Unit)):=bif c5 (a<(b.aH.length:Int)) then(aj b.aH a).bind λd=>(As L e d).bind λc=>bif c then c6 (c7 (dd ())) else c6 (dd (c3 c4 (a+1))) else c6 (c7 (c7 ()))
def wF(b:aL)(f:yc)(a:Int):Option (Int⊕(Unit⊕Unit)):=bif c5 (a<(b.aA.length:Int)) then(aj b.aA a).bind λc=>(L.loop (λd=>xK L c f d) 0).bind λe=>dt (λh=>c6 (c7 (dd ()))) (λg=>c6 (dd (c3 c4 (a+1)))) e else c6 (c7 (c7 ()))
def wA(b:aL)(a:yc):Option Bool:=(L.loop (λd=>wF L b a d) 0).bind λc=>dt (λf=>c6 false) (λe=>c6 true) c
def Ah(b:cd)(c:bA)(a:aL):Option Bool:=(oT L b (b7.mk 0 0 0 0)).bind λe=>bif e then(oL L c).bind λf=>bif f then bif c.Out then bif c5 (0<(a.aA.length:Int)) then(wA L a b.bT).bind λd=>c6 d else c6 false else c6 false else c6 false else c6 false
def si(a:jf)(i:Bool):Option Int:=(oT L a.x a.s).bind λg=>bif (!g) then c6 6 else bif c5 (a.s.State≠a.from_) then c6 10 else(bif c5 (a.t<0) then c6 true else(zd L a.s a.t).bind λf=>c6 (!f)).bind λd=>bif d then c6 8 else bif i then c6 19 else(bif c5 (a.from_≠0) then c6 (c5 (a.x.dZ<(c3 c4 (a.t -a.s.aa0)))) else c6 false).bind λh=>bif h then c6 10 else((oL L a.k).bind λe=>bif (!e) then c6 true else c6 (!a.k.Out):Option Bool).bind λb=>bif b then c6 48 else(Ah L a.x a.k a.b).bind λc=>bif (!c) then c6 49 else c6 0
def BR(f:cd)(d:b7)(e:bA)(g:aL)(c:Int)(a:Int):Option (b7×Int):=(si L (jf.mk f d e g a 0) (c5 (c<=0))).bind λb=>bif c5 (b≠0) then c6 (d,b) else c6 ((b7.mk 1 c 0 a),0)
def AJ(f:cd)(a:b7)(d:bA)(e:aL)(c:Int)(b:Int):Option (b7×Int):=(bif c5 (c<=0) then(si L (jf.mk f a d e b 1) true).bind λi=>c6 i else(si L (jf.mk f a d e b 1) (c5 (c=a.dD))).bind λh=>c6 h).bind λg=>bif c5 (g≠0) then c6 (a,g) else c6 ((b7.mk 2 a.dD c b),0)
def CM(f:cd)(a:b7)(d:bA)(g:aL)(b:Int)(e:Bool):Option (b7×Int):=(si L (jf.mk f a d g b 2) false).bind λc=>bif c5 (c≠0) then c6 (a,c) else bif e then c6 (({a with State:=4,aa0:=b}:b7),0) else c6 (({a with State:=3,aa0:=b}:b7),0)
def tW(d:aB)(a:aB)(b:Int):Option (zu⊕Ba):=bif c5 (b<(d.aQ.length:Int)) then(aj d.aQ b).bind λc=>(cc L c.ai).bind λe=>(bj 48 a.aQ ([({c with ai:=e}:aS)]:List aS)).bind λf=>c6 (dd (KL ({a with aQ:=f}:aB) (c3 c4 (b+1)))) else c6 (c7 (CD a))
def va(c:aB)(b:aB)(a:Int):Option (Df⊕Ba):=bif c5 (a<(c.bp.length:Int)) then(aj c.bp a).bind λf=>(cc L f).bind λd=>(bj 24 b.bp ([d]:List (yc))).bind λe=>c6 (dd (IC ({b with bp:=e}:aB) (c3 c4 (a+1)))) else c6 (c7 (CD b))
def D6(a:aB):Option KA:=(kF L a.ao.ai).bind λe=>(kQ L a.ao.af).bind λd=>(rf L a.aN).bind λc=>(cc L a.aw).bind λf=>(L.loop (λb=>tW L a (MR d c b) (L9 b)) (KL ({a with ao:=(ak.mk e d),aN:=c,aw:=f,aQ:=([]:List aS)}:aB) 0)).bind λi=>let j:=O3 d c i;(cc L a.cn).bind λh=>(cc L a.cf).bind λk=>(L.loop (λb=>va L a (R4 d c b) (Lw b)) (IC ({j with cn:=h,cf:=k,bp:=([]:List (yc))}:aB) 0)).bind λl=>let g:=O3 d c l;c6 (MF g)
def vt(L:Lp)(f:aB)(d:Int)(a:List bC)(b:Int):Option (((List bC)×Int)⊕(List bC)):=bif c5 (b<(f.aN.length:Int)) then(aj a b).bind λ_=>(a[b.toNat]?).bind λc=>(bif c5 (c.akw=d) then(aj a b).bind λ_=>(a[b.toNat]?).bind λ_=>c6 (a.set (b.toNat) (bC.mk c.abG (-1) 0)) else c6 a).bind λe=>c6 (dd (e,c3 c4 (b+1))) else c6 (c7 a)
def wO(b:aB)(c:Int):Option (aB×Int):=(pV L b).bind λj=>bif (!j) then c6 (b,6) else((cp L c 0 (c3 c4 ((b.ao.af.length:Int) -1))).bind λk=>bif (!k) then c6 true else(aj b.ao.af c).bind λi=>c6 i.eN:Option Bool).bind λh=>bif h then c6 (b,4) else(D6 L b).bind λe=>let a:=VD e;(aj a.ao.af c).bind λ_=>(a.ao.af[c.toNat]?).bind λg=>(L.loop (λd=>vt L a c d.1 d.2) (a.aN,0)).bind λf=>c6 (({a with ao:=(ak.mk a.ao.ai (a.ao.af.set (c.toNat) ({g with eN:=true}:aZ))),aN:=f}:aB),0)
def An(e:ay)(h:ak)(f:Int)(j:aL)(c:List aM)(d:Int)(a:Int):Option (((List aM)×Int×Int)⊕(((List ay)×Int)⊕((List aM)×Int))):=bif c5 (a<(e.aH.length:Int)) then(aj e.aH a).bind λg=>(xT L h g f).bind λb=>bif c5 (b.2=6) then c6 (c7 (dd (j.aA,b.2))) else(bif c5 (d=0) then c6 b.2 else c6 d).bind λi=>(aj c a).bind λ_=>(c[a.toNat]?).bind λ_=>c6 (dd (c.set (a.toNat) b.1,i,c3 c4 (a+1))) else c6 (c7 (c7 (c,d)))
def Ka(d:aL)(n:ak)(m:Int)(i:List ay)(j:Int)(c:Int):Option (((List ay)×Int×Int)⊕(((List ay)×Int)⊕((List ay)×Int))):=bif c5 (c<(d.aA.length:Int)) then(aj d.aA c).bind λk=>(mH L k).bind λf=>((L.loop (λb=>An L k n m d b.1 b.2.1 b.2.2) (f.1,j,0)).bind λl=>dt (λh=>c6 (c7 (h.1,h.2))) (λe=>c6 (dd (f.2,e.1,e.2))) l:Option (((yc)×(List aM)×Int)⊕((List ay)×Int))).bind λo=>dt (λa=>(bj 48 i ([(ay.mk a.1 a.2.1)]:List ay)).bind λp=>c6 (dd (p,a.2.2,c3 c4 (c+1)))) (λg=>c6 (c7 (dd (g.1,g.2)))) o else c6 (c7 (c7 (i,j)))
def kW(e:ak)(a:aL)(f:Int):Option (aL×Int):=((ij L e).bind λj=>bif (!j) then c6 true else(cp L (a.aA.length:Int) 1 24).bind λh=>c6 (!h):Option Bool).bind λg=>bif g then c6 (a,6) else(L.loop (λc=>Ka L a e f c.1 c.2.1 c.2.2) (([]:List ay),0,0)).bind λi=>dt (λd=>c6 ((aL.mk d.1),d.2)) (λb=>bif c5 (b.2≠0) then c6 (a,b.2) else c6 ((aL.mk b.1),0)) i
def Kc(L:Lp)(c:bQ)(d:Int)(b:yc)(a:Int):Option (((yc)×Int)⊕(yc)):=bif c5 (a<(c.an.length:Int)) then(aj c.an a).bind λe=>(aj b a).bind λ_=>(b[a.toNat]?).bind λ_=>c6 (dd (b.set (a.toNat) (max e d),c3 c4 (a+1))) else c6 (c7 b)
def Jl(f:ak)(h:bQ)(d:Int)(g:List bI)(c:yc)(b:Int):Option (((yc)×Int)⊕(yc)):=bif c5 (b<(f.af.length:Int)) then(aj f.af b).bind λa=>((aj h.an a.an).bind λk=>bif c5 (k<=d) then(aj g b).bind λm=>(n6 L f b m false).bind λl=>c6 (c5 (0<=l)) else c6 false:Option Bool).bind λq=>(bif q then(aj c a.To).bind λ_=>(c[a.To.toNat]?).bind λ_=>c6 (c.set (a.To.toNat) d) else c6 c).bind λe=>((aj h.an a.To).bind λo=>bif c5 (o<=d) then(aj g b).bind λj=>(n6 L f b j true).bind λi=>c6 (c5 (0<=i)) else c6 false:Option Bool).bind λn=>(bif n then(aj e a.an).bind λ_=>(e[a.an.toNat]?).bind λ_=>c6 (e.set (a.an.toNat) d) else c6 e).bind λp=>c6 (dd (p,c3 c4 (b+1))) else c6 (c7 c)
def yg(c:List bI)(e:ak)(g:List bI)(f:ak)(a:bQ)(b:Int):Option ((List bI)×bQ×Int):=((pD L e g).bind λl=>bif (!l) then c6 true else(wB L e a).bind λp=>bif (!p) then c6 true else(pD L f c).bind λm=>bif (!m) then c6 true else c6 (c5 ((f.ai.length:Int)≠(e.ai.length:Int))):Option Bool).bind λk=>bif k then c6 (c,a,6) else(bif c5 (b<a.aa0) then c6 true else c6 (c5 (2147483648<b))).bind λn=>bif n then c6 (c,a,8) else(gP 8 0 (a.an.length:Int)).bind λi=>(L.loop (λd=>Kc L a b d.1 d.2) (i,0)).bind λj=>(L.loop (λd=>Jl L e a b g d.1 d.2) (j,0)).bind λo=>(rM L o f.ai f.af c).bind λh=>c6 (c,(bQ.mk b h),0)
def A8(L:Lp)(a:Int)(c:bQ)(b:Int):Option Bool:=(aj c.an a).bind λd=>c6 (c5 (d<=b))
def JS(d:Int)(h:bQ)(c:Int)(b:yc)(a:Int):Option (((yc)×Int)⊕(yc)):=bif c5 (a<d) then(A8 L a h c).bind λf=>(bif f then(bj 8 b ([a]:yc)).bind λe=>c6 e else c6 b).bind λg=>c6 (dd (g,c3 c4 (a+1))) else c6 (c7 b)
def Fc(c:Int)(e:bQ)(b:Int):Option yc:=(L.loop (λa=>JS L c e b a.1 a.2) (([]:yc),0)).bind λd=>c6 d
def w6(a:bQ)(c:Int):Option yc:=(Fc L (a.an.length:Int) a c).bind λb=>c6 b
def E7(a:Int)(c:yc):Option Bool:=(im L c a).bind λb=>c6 b
def X8(a:yc)(b:yc)(c:Int):Option (Int⊕(Int⊕Unit)):=wi a (λd=>E7 L d b) c
def zW(b:yc)(a:yc):Option Int:=(L.loop (λd=>X8 L b a d) 0).bind λe=>dt (λc=>c6 c) (λf=>c6 (-1)) e
def EZ(a:yc)(c:yc):Option Bool:=(zW L a c).bind λb=>c6 (c5 (0<=b))
def Cj(L:Lp)(d:yc)(a:List aZ)(c:Int):Option (((List aZ)×Int)⊕(List aZ)):=bif c5 (c<(d.length:Int)) then(aj d c).bind λb=>(aj a b).bind λ_=>(a[b.toNat]?).bind λe=>c6 (dd (a.set (b.toNat) ({e with eN:=true}:aZ),c3 c4 (c+1))) else c6 (c7 a)
def T4(L:Lp)(d:yc)(a:List aZ)(c:Int):Option (((List aZ)×Int)⊕(List aZ)):=bif c5 (c<(d.length:Int)) then(aj d c).bind λb=>(aj a b).bind λ_=>(a[b.toNat]?).bind λe=>c6 (dd (a.set (b.toNat) ({e with eN:=false}:aZ),c3 c4 (c+1))) else c6 (c7 a)
def yB(a:ak)(d:yc)(c:yc):Option (ak×Int):=(ij L a).bind λl=>bif (!l) then c6 ((ak.mk ([]:List bP) ([]:List aZ)),6) else((iU L d 0 (c3 c4 ((a.af.length:Int) -1))).bind λj=>bif (!j) then c6 true else(iU L c 0 (c3 c4 ((a.af.length:Int) -1))).bind λe=>bif (!e) then c6 true else(EZ L d c).bind λf=>c6 f:Option Bool).bind λm=>bif m then c6 ((ak.mk ([]:List bP) ([]:List aZ)),4) else(kF L a.ai).bind λk=>(kQ L a.af).bind λh=>(L.loop (λb=>Cj L d b.1 b.2) (h,0)).bind λi=>(L.loop (λb=>T4 L c b.1 b.2) (i,0)).bind λg=>c6 ((ak.mk k g),0)
def EU(a:ak)(j:bE)(c:aL)(k:Int)(f:Int):Option Int:=((rP L a j).bind λi=>bif (!i) then c6 true else(p8 L a c).bind λe=>c6 (!e):Option Bool).bind λg=>bif g then c6 6 else((cp L k 0 2147483648).bind λb=>bif (!b) then c6 true else(cp L f 0 2147483648).bind λd=>c6 (!d):Option Bool).bind λh=>bif h then c6 8 else c6 0
def zt(a:ay)(b:Int)(c:Int)(h:Int):Option Bool:=(cp L b 0 (c3 c4 ((a.aH.length:Int) -1))).bind λf=>bif f then(aj a.aH b).bind λg=>bif c5 (c<(g.an.length:Int)) then(aj a.aH b).bind λe=>(aj e.an c).bind λd=>c6 (c5 (d<=h)) else c6 false else c6 false
def GA(c:List ay)(e:Int)(a:Int)(f:Int)(d:Int):Option (Int⊕(Int⊕Unit)):=wi c (λb=>zt L b e a f) d
def Gu(b:List ay)(f:Int)(a:Int)(g:Int):Option Int:=(L.loop (λd=>GA L b f a g d) 0).bind λe=>dt (λc=>c6 c) (λh=>c6 (-1)) e
def FH(c:List ay)(d:Int)(a:Int)(e:Int):Option Bool:=(Gu L c d a e).bind λb=>c6 (c5 (0<=b))
def AZ(c:Int)(d:List ay)(a:Int)(e:Int):Option Bool:=(FH L d a c e).bind λb=>c6 b
def JI(d:Int)(h:List ay)(c:Int)(i:Int)(b:yc)(a:Int):Option (((yc)×Int)⊕(yc)):=bif c5 (a<d) then(AZ L a h c i).bind λf=>(bif f then(bj 8 b ([a]:yc)).bind λe=>c6 e else c6 b).bind λg=>c6 (dd (g,c3 c4 (a+1))) else c6 (c7 b)
def Lb(c:Int)(e:List ay)(b:Int)(f:Int):Option yc:=(L.loop (λa=>JI L c e b f a.1 a.2) (([]:yc),0)).bind λd=>c6 d
def rJ(a:aL)(c:Int)(d:Int):Option yc:=(Lb L 64 a.aA c d).bind λb=>c6 b
def CW(L:Lp)(a:Int):Option yc:=Ct 8 a
def ve(L:Lp)(c:List (yc))(a:Int)(b:Int):Option ((Int×Int)⊕Int):=bif c5 (b<(c.length:Int)) then(aj c b).bind λd=>bif c5 ((c3 c4 (a+(d.length:Int)))<0) then e0 else c6 (dd (c3 c4 (a+(d.length:Int)),c3 c4 (b+1))) else c6 (c7 a)
def xV(L:Lp)(c:List (yc))(b:yc)(a:Int):Option (((yc)×Int)⊕(yc)):=bif c5 (a<(c.length:Int)) then(aj c a).bind λd=>(bj 8 b d).bind λe=>c6 (dd (e,c3 c4 (a+1))) else c6 (c7 b)
def He(b:List (yc)):Option yc:=(L.loop (λa=>ve L b a.1 a.2) (0,0)).bind λd=>(CW L d).bind λc=>(L.loop (λa=>xV L b a.1 a.2) (c,0)).bind λe=>c6 e
def Bc(a:ak)(e:bE)(b:Int):Option Bool:=(rP L a e).bind λc=>bif c then(cp L b 0 (c3 c4 ((a.ai.length:Int) -1))).bind λd=>c6 d else c6 false
def Fx(L:Lp):Option kD:=c6 (kD.mk 2 3 4)
def nK(a:ak)(b:Int)(c:Bool):Option Int:=((ij L a).bind λg=>bif (!g) then c6 true else bif c5 (b<0) then c6 true else c6 (c5 ((a.af.length:Int)<=b)):Option Bool).bind λd=>bif d then c6 (-1) else(Fx L).bind λe=>(xu L a b c e).bind λf=>c6 f
def u5(L:Lp)(c:ak)(b:List Bool)(a:Int):Option (((List Bool)×Int)⊕(List Bool)):=bif c5 (a<(c.ai.length:Int)) then(aj c.ai a).bind λd=>(aj b a).bind λ_=>(b[a.toNat]?).bind λ_=>c6 (dd (b.set (a.toNat) d.wj,c3 c4 (a+1))) else c6 (c7 b)
def wU(L:Lp)(d:bE)(a:List Bool)(b:Int):Option (((List Bool)×Int)⊕(List Bool)):=bif c5 (b<(d.akL.length:Int)) then(aj d.akL b).bind λc=>(aj a c).bind λ_=>(a[c.toNat]?).bind λ_=>c6 (dd (a.set (c.toNat) true,c3 c4 (b+1))) else c6 (c7 a)
def wu(L:Lp)(d:bE)(a:List Bool)(c:Int):Option (((List Bool)×Int)⊕(List Bool)):=bif c5 (c<(d.dg.length:Int)) then(aj d.dg c).bind λb=>(aj a b).bind λ_=>(a[b.toNat]?).bind λ_=>c6 (dd (a.set (b.toNat) true,c3 c4 (c+1))) else c6 (c7 a)
def pS(e:ak)(k:bE)(b:List Bool)(d:List Bool)(c:cm)(a:Int):Option (pE⊕lU):=bif c5 (a<(e.af.length:Int)) then((aj e.af a).bind λf=>(im L k.dG a).bind λl=>bif l then c6 (iC c) else(nK L e a false).bind λh=>(bif c5 (0<=h) then(bj 32 c.steps ([(cS.mk a f.an f.To h)]:List cS)).bind λo=>c6 (iC (cm.mk c.n o b d)) else c6 (iC c)).bind λj=>let g:=ox b d j;(nK L e a true).bind λi=>(bif c5 (0<=i) then(bj 32 g.steps ([(cS.mk a f.To f.an i)]:List cS)).bind λr=>c6 (iC (cm.mk g.n r b d)) else c6 (iC g)).bind λq=>let p:=ox b d q;c6 (iC p):Option lU).bind λm=>let n:=ox b d m;c6 (dd (nC n (c3 c4 (a+1)))) else c6 (c7 (iC c))
def w9(b:ak)(e:bE):Option cm:=(gP 1 false (b.ai.length:Int)).bind λf=>(gP 1 false (b.ai.length:Int)).bind λh=>(L.loop (λa=>u5 L b a.1 a.2) (f,0)).bind λg=>(L.loop (λa=>wU L e a.1 a.2) (g,0)).bind λc=>(L.loop (λa=>wu L e a.1 a.2) (h,0)).bind λd=>(L.loop (λa=>pS L b e c d (wK c d a) (wo a)) (nC (cm.mk (b.ai.length:Int) ([]:List cS) c d) 0)).bind λi=>let j:=ox c d i;c6 j
def wJ(L:Lp)(a:cm)(b:cS):Option Bool:=(aj a.safe b.from_).bind λd=>bif (!d) then(aj a.bad b.b9).bind λc=>c6 (!c) else c6 false
def zX(L:Lp)(a:da)(b:da):Option Bool:=bif c5 (a.time<b.time) then c6 true else bif c5 (a.time=b.time) then c6 (c5 (a.roads<b.roads)) else c6 false
def zV(L:Lp)(g:List da)(d:cm)(b:List da)(a:Int):Option (((List da)×Int)⊕(List da)):=bif c5 (a<(g.length:Int)) then(aj d.safe a).bind λc=>(bif (!c) then(aj b a).bind λ_=>(b[a.toNat]?).bind λf=>c6 (b.set (a.toNat) (da.mk 1152921504606846976 f.roads)) else c6 b).bind λe=>c6 (dd (e,c3 c4 (a+1))) else c6 (c7 b)
def AB(d:cm)(b:List da)(h:Bool)(c:Int):Option (((List da)×Bool×Int)⊕((List da)×Bool)):=bif c5 (c<(d.steps.length:Int)) then(aj d.steps c).bind λa=>(aj b a.b9).bind λ_=>(b[a.b9.toNat]?).bind λf=>(aj b a.b9).bind λ_=>(b[a.b9.toNat]?).bind λg=>((wJ L d a).bind λi=>bif i then(aj b a.b9).bind λ_=>(b[a.b9.toNat]?).bind λk=>bif c5 (k.time<1152921504606846976) then(aj b a.from_).bind λ_=>(b[a.from_.toNat]?).bind λl=>(zX L (da.mk (c3 c4 (f.time+a.time)) (c3 c4 (g.roads+1))) l).bind λm=>c6 m else c6 false else c6 false:Option Bool).bind λj=>(bif j then(aj b a.from_).bind λ_=>(b[a.from_.toNat]?).bind λ_=>c6 (b.set (a.from_.toNat) (da.mk (c3 c4 (f.time+a.time)) (c3 c4 (g.roads+1))),true) else c6 (b,h)).bind λe=>c6 (dd (e.1,e.2,c3 c4 (c+1))) else c6 (c7 (b,h))
def Tg(e:cm)(b:List da)(d:Bool):Option (((List da)×Bool)⊕(List da)):=bif d then(L.loop (λa=>AB L e a.1 a.2.1 a.2.2) (b,false,0)).bind λc=>c6 (dd (c.1,c.2)) else c6 (c7 b)
def Bg(b:cm):Option (List da):=(gP 16 (da.mk 0 0) b.n).bind λc=>(L.loop (λa=>zV L c b a.1 a.2) (c,0)).bind λd=>(L.loop (λa=>Tg L b a.1 a.2) (d,true)).bind λe=>c6 e
def EN(a:cS)(b:Int)(e:cm)(c:List da):Option Bool:=bif c5 (a.from_=b) then(wJ L e a).bind λh=>bif h then(aj c a.b9).bind λd=>(aj c b).bind λg=>(aj c b).bind λf=>c6 ((d.time==(c3 c4 (g.time -a.time)))&&((d.roads==(c3 c4 (f.roads -1)))&&true)) else c6 false else c6 false
def Y0(c:List cS)(e:Int)(a:cm)(f:List da)(d:Int):Option (Int⊕(Int⊕Unit)):=wi c (λb=>EN L b e a f) d
def Aj(b:List cS)(f:Int)(a:cm)(g:List da):Option Int:=(L.loop (λd=>Y0 L b f a g d) 0).bind λe=>dt (λc=>c6 c) (λh=>c6 (-1)) e
def Lo(a:cm)(g:List da)(e:yc)(f:yc)(b:Int):Option (((yc)×(yc)×Int)⊕((yc)×(yc))):=(aj a.safe b).bind λj=>bif (!j) then(Aj L a.steps b a g).bind λd=>(aj a.steps d).bind λc=>(aj a.steps d).bind λi=>(bj 8 f ([i.gX]:yc)).bind λk=>(bj 8 e ([c.b9]:yc)).bind λh=>c6 (dd (h,k,c.b9)) else c6 (c7 (e,f))
def yN(d:cm)(a:Int):Option ((yc)×(yc)×Int×Bool):=(Bg L d).bind λb=>(aj b a).bind λg=>bif c5 (1152921504606846976<=g.time) then c6 (([]:yc),([]:yc),0,false) else(L.loop (λc=>Lo L d b c.1 c.2.1 c.2.2) (([a]:yc),([]:yc),a)).bind λe=>(aj b a).bind λf=>c6 (e.2,e.1,f.time,true)
def ye(a:cS)(c:yc):Option Bool:=(im L c a.gX).bind λb=>c6 b
def aaQ(a:List cS)(b:yc)(c:Int):Option (Int⊕(Int⊕Unit)):=wi a (λd=>ye L d b) c
def AM(b:List cS)(a:yc):Option Int:=(L.loop (λd=>aaQ L b a d) 0).bind λe=>dt (λc=>c6 c) (λf=>c6 (-1)) e
def Ww(g:yc)(a:List cS)(b:Int)(c:Int):Option (((List cS)×Int×Int)⊕((List cS)×Int)):=bif c5 (c<(a.length:Int)) then(aj a c).bind λ_=>(a[c.toNat]?).bind λe=>(ye L e g).bind λf=>(bif (!f) then(aj a b).bind λ_=>(a[b.toNat]?).bind λ_=>c6 (a.set (b.toNat) e,c3 c4 (b+1)) else c6 (a,b)).bind λd=>c6 (dd (d.1,d.2,c3 c4 (c+1))) else c6 (c7 (a,b))
def Bm(b:List cS)(e:yc):Option (List cS):=(AM L b e).bind λd=>bif c5 (d=(-1)) then c6 b else(L.loop (λc=>Ww L e c.1 c.2.1 c.2.2) (b,d,c3 c4 (d+1))).bind λa=>(eG a.1 a.2 (a.1.length:Int)).bind λ_=>(eG (iG (cS.mk 0 0 0 0) (a.2.toNat) (((a.1.length:Int)).toNat -a.2.toNat) a.1) 0 a.2).bind λf=>c6 f
def ZO(L:Lp)(c:ak)(b:List Bool)(a:Int):Option (((List Bool)×Int)⊕(List Bool)):=bif c5 (a<(c.ai.length:Int)) then(aj c.ai a).bind λd=>(aj b a).bind λ_=>(b[a.toNat]?).bind λ_=>c6 (dd (b.set (a.toNat) d.wj,c3 c4 (a+1))) else c6 (c7 b)
def VO(L:Lp)(d:bE)(a:List Bool)(b:Int):Option (((List Bool)×Int)⊕(List Bool)):=bif c5 (b<(d.akL.length:Int)) then(aj d.akL b).bind λc=>(aj a c).bind λ_=>(a[c.toNat]?).bind λ_=>c6 (dd (a.set (c.toNat) true,c3 c4 (b+1))) else c6 (c7 a)
def ahZ(L:Lp)(d:bE)(a:List Bool)(c:Int):Option (((List Bool)×Int)⊕(List Bool)):=bif c5 (c<(d.dg.length:Int)) then(aj d.dg c).bind λb=>(aj a b).bind λ_=>(a[b.toNat]?).bind λ_=>c6 (dd (a.set (b.toNat) true,c3 c4 (c+1))) else c6 (c7 a)
def aeO(e:ak)(k:bE)(b:List Bool)(d:List Bool)(c:cm)(a:Int):Option (pE⊕lU):=bif c5 (a<(e.af.length:Int)) then((aj e.af a).bind λf=>(im L k.dG a).bind λl=>bif l then c6 (iC c) else(nK L e a false).bind λh=>(bif c5 (0<=h) then(bj 32 c.steps ([(cS.mk a f.an f.To h)]:List cS)).bind λo=>c6 (iC (cm.mk c.n o b d)) else c6 (iC c)).bind λj=>let g:=ox b d j;(nK L e a true).bind λi=>(bif c5 (0<=i) then(bj 32 g.steps ([(cS.mk a f.To f.an i)]:List cS)).bind λr=>c6 (iC (cm.mk g.n r b d)) else c6 (iC g)).bind λq=>let p:=ox b d q;c6 (iC p):Option lU).bind λm=>let n:=ox b d m;c6 (dd (nC n (c3 c4 (a+1)))) else c6 (c7 (iC c))
def DM(b:ak)(e:bE):Option Il:=(gP 1 false (b.ai.length:Int)).bind λf=>(gP 1 false (b.ai.length:Int)).bind λh=>(L.loop (λa=>ZO L b a.1 a.2) (f,0)).bind λg=>(L.loop (λa=>VO L e a.1 a.2) (g,0)).bind λc=>(L.loop (λa=>ahZ L e a.1 a.2) (h,0)).bind λd=>(L.loop (λa=>aeO L b e c d (wK c d a) (wo a)) (nC (cm.mk (b.ai.length:Int) ([]:List cS) c d) 0)).bind λi=>let j:=ox c d i;c6 (JJ j)
def I9(L:Lp)(a:(yc)×(yc)×Int×Bool)(c:List Bool)(b:Int):Option (((List Bool)×Int)⊕(List Bool)):=bif c5 (b<(((a.2.1.drop ((1:Int).toNat)).take (((a.2.1.length:Int)).toNat - (1:Int).toNat)).length:Int)) then(aj ((a.2.1.drop ((1:Int).toNat)).take (((a.2.1.length:Int)).toNat - (1:Int).toNat)) b).bind λ_=>(a.2.1[((1:Int).toNat+b.toNat)]?).bind λd=>(aj c d).bind λ_=>(c[d.toNat]?).bind λ_=>c6 (dd (c.set (d.toNat) true,c3 c4 (b+1))) else c6 (c7 c)
def r7(e:ak)(g:bE)(c:Int):Option ((yc)×(yc)×ju×Bool):=(Bc L e g c).bind λj=>bif (!j) then c6 (([]:yc),([]:yc),(ju.mk 0 0),false) else(DM L e g).bind λk=>let b:=Lk k;(aj b.safe c).bind λl=>bif l then c6 (([]:yc),([]:yc),(ju.mk 0 0),true) else(yN L b c).bind λa=>bif (!a.2.2.2) then c6 (([]:yc),([]:yc),(ju.mk 0 0),false) else(eG a.2.1 1 (a.2.1.length:Int)).bind λ_=>(L.loop (λf=>I9 L a f.1 f.2) (b.bad,0)).bind λh=>(Bm L b.steps a.1).bind λi=>(yN L ({b with steps:=i,bad:=h}:cm) c).bind λd=>bif (!d.2.2.2) then c6 (([]:yc),([]:yc),(ju.mk a.2.2.1 d.2.2.1),false) else c6 (a.1,d.1,(ju.mk a.2.2.1 d.2.2.1),true)
def Kb(b:ak)(f:Int)(c:Int)(a:Int):Option ((Int×Int)⊕Int):=bif c5 (a<(b.af.length:Int)) then(aj b.af a).bind λd=>(bif c5 (d.To=f) then(nK L b a false).bind λh=>c6 (max c h) else c6 c).bind λe=>(bif c5 (d.an=f) then(nK L b a true).bind λi=>c6 (max e i) else c6 e).bind λg=>c6 (dd (g,c3 c4 (a+1))) else c6 (c7 c)
def v7(b:ak)(c:Int):Option Int:=(L.loop (λa=>Kb L b c a.1 a.2) (0,0)).bind λd=>c6 d
def r6(c:ak)(d:bE)(b:Int):Option Bool:=(r7 L c d b).bind λa=>bif a.2.2.2 then(v7 L c b).bind λe=>c6 (c5 ((c3 c4 (e+(max a.2.2.1.a0 a.2.2.1.a1)))<=d.er)) else c6 false
def w5(a:Int)(c:ak)(d:bE):Option Bool:=(r6 L c d a).bind λb=>c6 b
def aqe(c:yc)(e:ak)(a:bE)(d:Int):Option (Int⊕(Int⊕Unit)):=wi c (λb=>w5 L b e a) d
def ER(b:yc)(f:ak)(a:bE):Option Int:=(L.loop (λd=>aqe L b f a d) 0).bind λe=>dt (λc=>c6 c) (λg=>c6 (-1)) e
def amq(h:ak)(f:bE)(a:yc)(b:Int)(c:Int):Option (((yc)×Int×Int)⊕((yc)×Int)):=bif c5 (c<(a.length:Int)) then(aj a c).bind λ_=>(a[c.toNat]?).bind λe=>(w5 L e h f).bind λg=>(bif (!g) then(aj a b).bind λ_=>(a[b.toNat]?).bind λ_=>c6 (a.set (b.toNat) e,c3 c4 (b+1)) else c6 (a,b)).bind λd=>c6 (dd (d.1,d.2,c3 c4 (c+1))) else c6 (c7 (a,b))
def zr(b:yc)(f:ak)(e:bE):Option yc:=(ER L b f e).bind λd=>bif c5 (d=(-1)) then c6 b else(L.loop (λc=>amq L f e c.1 c.2.1 c.2.2) (b,d,c3 c4 (d+1))).bind λa=>(eG a.1 a.2 (a.1.length:Int)).bind λ_=>(eG (iG 0 (a.2.toNat) (((a.1.length:Int)).toNat -a.2.toNat) a.1) 0 a.2).bind λg=>c6 g
def Kw(L:Lp)(b:Int)(e:yc)(a:yc)(d:Int)(c:Int):Option (((yc)×Int×Int)⊕((yc)×Int)):=bif c5 (c<(((a.drop (b.toNat)).take (((e.length:Int)).toNat -b.toNat)).length:Int)) then(aj ((a.drop (b.toNat)).take (((e.length:Int)).toNat -b.toNat)) c).bind λ_=>(a[(b.toNat+c.toNat)]?).bind λi=>(aj ((a.drop (b.toNat)).take (((e.length:Int)).toNat -b.toNat)) (c3 c4 (c -1))).bind λ_=>(a[(b.toNat+(c3 c4 (c -1)).toNat)]?).bind λg=>(bif c5 (i≠g) then(aj ((a.drop (b.toNat)).take (((e.length:Int)).toNat -b.toNat)) c).bind λ_=>(a[(b.toNat+c.toNat)]?).bind λh=>(aj a d).bind λ_=>(a[d.toNat]?).bind λ_=>c6 (a.set (d.toNat) h,c3 c4 (d+1)) else c6 (a,d)).bind λf=>c6 (dd (f.1,f.2,c3 c4 (c+1))) else c6 (c7 (a,d))
def If(a:yc)(b:Int):Option (Int⊕((yc)⊕Unit)):=bif c5 (b<(a.length:Int)) then(aj a b).bind λ_=>(a[b.toNat]?).bind λf=>(aj a (c3 c4 (b -1))).bind λ_=>(a[(c3 c4 (b -1)).toNat]?).bind λe=>bif c5 (f=e) then(eG a b (a.length:Int)).bind λ_=>(L.loop (λd=>Kw L b a d.1 d.2.1 d.2.2) (a,b,1)).bind λc=>(eG c.1 c.2 (c.1.length:Int)).bind λ_=>(eG (iG 0 (c.2.toNat) (((c.1.length:Int)).toNat -c.2.toNat) c.1) 0 c.2).bind λg=>c6 (c7 (dd g)) else c6 (dd (c3 c4 (b+1))) else c6 (c7 (c7 ()))
def ED(a:yc):Option yc:=bif c5 ((a.length:Int)<2) then c6 a else(L.loop (λc=>If L a c) 1).bind λb=>dt (λd=>c6 d) (λe=>c6 a) b
def zT(a:yc)(e:yc):Option yc:=(He L ([a,e]:List (yc))).bind λc=>(rl L c).bind λd=>(ED L d).bind λb=>c6 b
def Jp(f:ay)(c:aL)(g:Int)(b:yc)(a:Int):Option (((yc)×Int)⊕(yc)):=bif c5 (a<(f.aH.length:Int)) then(rJ L c a g).bind λd=>(zT L b d).bind λe=>c6 (dd (e,c3 c4 (a+1))) else c6 (c7 b)
def Bo(c:ak)(g:bE)(a:aL)(h:Int):Option yc:=(aj a.aA 0).bind λe=>(L.loop (λb=>Jp L e a h b.1 b.2) (([]:yc),0)).bind λf=>(zr L f c g).bind λd=>c6 d
def za(a:Int)(c:yc):Option Bool:=(im L c a).bind λb=>c6 b
def afe(a:yc)(b:yc)(c:Int):Option (Int⊕(Int⊕Unit)):=wi a (λd=>za L d b) c
def zU(b:yc)(a:yc):Option Int:=(L.loop (λd=>afe L b a d) 0).bind λe=>dt (λc=>c6 c) (λf=>c6 (-1)) e
def apZ(g:yc)(a:yc)(b:Int)(c:Int):Option (((yc)×Int×Int)⊕((yc)×Int)):=bif c5 (c<(a.length:Int)) then(aj a c).bind λ_=>(a[c.toNat]?).bind λe=>(za L e g).bind λf=>(bif (!f) then(aj a b).bind λ_=>(a[b.toNat]?).bind λ_=>c6 (a.set (b.toNat) e,c3 c4 (b+1)) else c6 (a,b)).bind λd=>c6 (dd (d.1,d.2,c3 c4 (c+1))) else c6 (c7 (a,b))
def Av(b:yc)(e:yc):Option yc:=(zU L b e).bind λd=>bif c5 (d=(-1)) then c6 b else(L.loop (λc=>apZ L e c.1 c.2.1 c.2.2) (b,d,c3 c4 (d+1))).bind λa=>(eG a.1 a.2 (a.1.length:Int)).bind λ_=>(eG (iG 0 (a.2.toNat) (((a.1.length:Int)).toNat -a.2.toNat) a.1) 0 a.2).bind λf=>c6 f
def zJ(c:ak)(g:bE)(f:aL)(o:yc)(m:yc)(k:yc)(b:Int)(j:Int):Option (ak×(yc)×Int):=(yB L c o m).bind λa=>bif c5 (a.2≠0) then c6 ((ak.mk ([]:List bP) ([]:List aZ)),([]:yc),a.2) else(EU L c g f b j).bind λi=>bif c5 (i≠0) then c6 ((ak.mk ([]:List bP) ([]:List aZ)),([]:yc),i) else(kW L a.1 f b).bind λd=>bif c5 (d.2≠0) then c6 ((ak.mk ([]:List bP) ([]:List aZ)),([]:yc),d.2) else(Bo L a.1 g d.1 (c3 c4 (b+j))).bind λe=>(cc L e).bind λn=>(Av L n k).bind λh=>bif c5 (0<(h.length:Int)) then(yB L c ([]:yc) ([]:yc)).bind λl=>c6 (l.1,h,46) else c6 (a.1,e,0)
def BY(c:cd)(a:b7)(b:Int):Option (b7×Int):=(oT L c a).bind λf=>bif (!f) then c6 (a,6) else bif c5 (a.State=0) then c6 (a,10) else(zd L a b).bind λd=>bif (!d) then c6 (a,8) else(bif c5 (a.State=4) then c6 (c5 ((c3 c4 (b -a.aa0))<c.ed)) else c6 false).bind λe=>bif e then c6 (a,10) else c6 ((b7.mk 0 0 0 0),0)
def vQ(b:bA):Option (bA×Int):=(xi L b false).bind λa=>c6 (a.1,a.2)
def qu(b:bA)(c:Int):Option (bA×Int):=(qO L b c 2 1).bind λa=>c6 (a.1,a.2)
def vJ(b:bA)(c:Int):Option (bA×Int):=(qO L b c 1 0).bind λa=>c6 (a.1,a.2)
def uo(c:aE)(a:aE)(b:Int):Option (pJ⊕qc):=bif c5 (b<(c.bB.length:Int)) then(aj c.bB b).bind λd=>(cc L d.ll).bind λf=>(bj 72 a.bB ([({d with ll:=f}:dK)]:List dK)).bind λe=>c6 (dd (u16 ({a with bB:=e}:aE) (c3 c4 (b+1)))) else c6 (c7 (lR a))
def Cp(a:aE):Option FP:=(qp L a.au 0).bind λm=>(kF L a.ao.ai).bind λc=>(kQ L a.ao.af).bind λp=>(q9 L a.cI).bind λs=>(cc L a.bR.akL).bind λq=>(cc L a.bR.dg).bind λi=>(cc L a.bR.dG).bind λf=>(cc L a.bM.bT).bind λk=>(ry L a.cq).bind λr=>(ry L a.bZ).bind λj=>(cc L a.cW.dl).bind λd=>(cc L a.cW.dr).bind λg=>(pf L a.bw).bind λu=>(pf L a.bq).bind λl=>(cc L a.bz.an).bind λo=>(cc L a.aa2.af).bind λv=>(cc L a.aa2.aa2).bind λt=>(pI L a.bS).bind λn=>(L.loop (λb=>uo L a (sN b) (sE b)) (u16 (aE.mk m.1 (ak.mk c p) s (bE.mk q i f a.bR.er) (cd.mk k a.bM.dZ a.bM.ed) r j (cZ.mk d g) u (bQ.mk a.bz.aa0 o) (bA.mk v t a.aa2.Out) a.cL l n ([]:List dK)) 0)).bind λh=>let e:=tT h;c6 (OE e)
def xR(a:aR)(c:bH):Option jt:=(qp L a.aI.au c.A).bind λb=>c6 (cT (aR.mk ({a.aI with au:=b.1}:aE) a.named) b.2)
def uS(c:aE)(a:aE)(b:Int):Option (CQ⊕J9):=bif c5 (b<(c.bB.length:Int)) then(aj c.bB b).bind λd=>(cc L d.ll).bind λf=>(bj 72 a.bB ([({d with ll:=f}:dK)]:List dK)).bind λe=>c6 (dd (J3 ({a with bB:=e}:aE) (c3 c4 (b+1)))) else c6 (c7 (Mj a))
def Dr(a:aE):Option Jr:=(qp L a.au 0).bind λn=>(kF L a.ao.ai).bind λe=>(kQ L a.ao.af).bind λq=>(q9 L a.cI).bind λs=>(cc L a.bR.akL).bind λr=>(cc L a.bR.dg).bind λk=>(cc L a.bR.dG).bind λh=>(cc L a.bM.bT).bind λl=>(zp L a.cq).bind λc=>(zp L a.bZ).bind λb=>(cc L a.cW.dl).bind λf=>(cc L a.cW.dr).bind λi=>(pf L a.bw).bind λu=>(pf L a.bq).bind λm=>(cc L a.bz.an).bind λp=>(cc L a.aa2.af).bind λv=>(cc L a.aa2.aa2).bind λt=>(pI L a.bS).bind λo=>(L.loop (λd=>uS L a (Rx c b d) (Tu d)) (J3 (aE.mk n.1 (ak.mk e q) s (bE.mk r k h a.bR.er) (cd.mk l a.bM.dZ a.bM.ed) c b (cZ.mk f i) u (bQ.mk a.bz.aa0 p) (bA.mk v t a.aa2.Out) a.cL m o ([]:List dK)) 0)).bind λj=>let g:=Uh c b j;c6 (IW g)
def yV(a:aR)(b:bH):Option jt:=(yA L a.aI.aa2).bind λd=>(im L d b.B).bind λe=>bif e then c6 (cT a 47) else(B1 L a.aI.au b.A b.B b.C).bind λc=>c6 (cT (aR.mk ({a.aI with au:=c.1}:aE) a.named) c.2)
def yT(a:aR)(b:bH):Option jt:=(jO L a.aI.au b.A b.B b.C).bind λc=>bif c5 (c.2.2=0) then(aj a.aI.cq b.A).bind λ_=>(a.aI.cq[b.A.toNat]?).bind λ_=>c6 (cT (aR.mk ({a.aI with au:=c.1,cq:=a.aI.cq.set (b.A.toNat) c.2.1}:aE) a.named) c.2.2) else c6 (cT a c.2.2)
def uX(a:dS)(d:aS)(b:aR)(g:ak)(e:aL):Option qW:=(fP L b).bind λf=>(CS L g e a.Tag d.ai a.an (min a.To f)).bind λc=>c6 (La a d b c.1 c.2)
def A5(e:aR)(m:dS)(q:aS):Option vq:=(uX L m q e e.aI.ao e.aI.bw).bind λd=>let g:=F7 d;let k:=HJ d;let a:=G2 d;let n:=IB d;let s:=HV d;(bif c5 (s=0) then c6 (qI (aR.mk ({a.aI with bw:=n}:aE) a.named)) else c6 (qI a)).bind λl=>let c:=Sl a.aI.cq a.aI.bB l;(ra L c).bind λp=>bif (!p) then c6 (ol c g k) else(mT L c).bind λj=>(uX L g k c (ak.mk j.1 j.2) c.aI.bq).bind λb=>let i:=F7 b;let h:=HJ b;let f:=G2 b;let r:=IB b;let o:=HV b;bif c5 (o=0) then c6 (ol (aR.mk ({f.aI with bq:=r}:aE) f.named) i h) else c6 (ol f i h)
def zg(a:aR)(q:Int)(v:aS)(u:dC)(w:Int):Option qU:=(uQ L q v u w a.aI.ao a.aI.bw).bind λc=>let l:=Gy c;let m:=Ib c;let j:=HF c;let h:=I2 c;let p:=Ir c;let s:=JK c;(bif c5 (s=0) then c6 (qI (aR.mk ({a.aI with bw:=p}:aE) a.named)) else c6 (qI a)).bind λn=>let b:=Sl a.aI.cq a.aI.bB n;(ra L b).bind λo=>bif (!o) then c6 (nJ b l m j h) else(mT L b).bind λi=>(uQ L l m j h (ak.mk i.1 i.2) b.aI.bq).bind λd=>let g:=Gy d;let e:=Ib d;let f:=HF d;let k:=I2 d;let r:=Ir d;let t:=JK d;bif c5 (t=0) then c6 (nJ (aR.mk ({b.aI with bq:=r}:aE) b.named) g e f k) else c6 (nJ b g e f k)
def Eb(a:aR)(g:Int)(f:Int):Option rY:=(aj a.aI.au.aQ g).bind λj=>(xp L a.aI.au.aQ g f a.aI.bZ).bind λc=>(bif c5 (c.2≠0) then c6 true else c6 (c5 ((c.1.length:Int)=0))).bind λh=>bif h then c6 (mf a) else(aj c.1 (c3 c4 ((c.1.length:Int) -1))).bind λd=>(fP L a).bind λe=>bif c5 ((min d.To e)<=d.an) then c6 (mf a) else(zg L a f j d (min d.To e)).bind λb=>let i:=M2 b;let m:=OW b;let n:=N9 b;let k:=P1 b;let l:=RU b;c6 (mf i)
def sC(c:(List dS)×Int)(d:aR)(j:aS)(b:Int):Option (ug⊕rY):=bif c5 (b<(c.1.length:Int)) then((aj c.1 b).bind λi=>c6 (u31 i):Option Hx).bind λg=>let f:=anK g;(A5 L d f j).bind λa=>let h:=MU a;let k:=Me a;let e:=N4 a;c6 (dd (Cb h e (c3 c4 (b+1)))) else c6 (c7 (mf d))
def uN(d:yc)(j:aT×Int)(k:bH)(a:aR)(b:Int):Option (uy⊕rY):=bif c5 (b<(d.length:Int)) then(aj d b).bind λc=>(im L j.1.aw c).bind λg=>(bif (!g) then(Eb L a k.A c).bind λe=>let i:=Al e;c6 (mf i) else c6 (mf a)).bind λf=>let h:=Al f;c6 (dd (uZ h (c3 c4 (b+1)))) else c6 (c7 (mf a))
def wP(a:aR)(e:bH):Option qz:=(cp L e.A 0 (c3 c4 ((a.aI.cq.length:Int) -1))).bind λp=>bif (!p) then c6 (dp a 40) else(aj a.aI.au.cn e.A).bind λm=>bif c5 (m<0) then c6 (dp a 13) else(aj a.aI.cq e.A).bind λ_=>(a.aI.cq[e.A.toNat]?).bind λl=>(Ex L l).bind λh=>bif c5 (h.2≠0) then c6 (dp a h.2) else(zD L h.1).bind λd=>bif c5 (d.2≠0) then c6 (dp a d.2) else(CT L a.aI.cW d.1).bind λf=>bif c5 (f.2≠0) then c6 (dp (aR.mk ({a.aI with cW:=f.1}:aE) a.named) f.2) else(bj 48 a.aI.bZ ([d.1]:List aT)).bind λb=>(eG b (max 0 (c3 c4 ((b.length:Int) -60))) (b.length:Int)).bind λ_=>(Bl L a.aI.au.aQ d.1).bind λg=>bif c5 (g.2≠0) then c6 (dp (aR.mk ({a.aI with bZ:=(b.drop ((max 0 (c3 c4 ((b.length:Int) -60))).toNat)).take (((b.length:Int)).toNat - (max 0 (c3 c4 ((b.length:Int) -60))).toNat),cW:=f.1}:aE) a.named) g.2) else(aj a.aI.au.aQ e.A).bind λo=>(L.loop (λc=>sC L g (Q2 c) (Qd c) (R9 c)) (Cb (aR.mk ({a.aI with bZ:=(b.drop ((max 0 (c3 c4 ((b.length:Int) -60))).toNat)).take (((b.length:Int)).toNat - (max 0 (c3 c4 ((b.length:Int) -60))).toNat),cW:=f.1}:aE) a.named) o 0)).bind λn=>let i:=Al n;(aj i.aI.bw.aA 0).bind λr=>(cc L r.aw).bind λj=>(L.loop (λc=>uN L j d e (Si c) (LF c)) (uZ i 0)).bind λk=>let q:=Al k;c6 (dp q 0)
def yb(a:aR)(d:bH):Option jt:=(oX L a.aI.au d.A d.B).bind λb=>bif c5 (b.2≠0) then c6 (cT (aR.mk ({a.aI with au:=b.1}:aE) a.named) b.2) else(fP L (aR.mk ({a.aI with au:=b.1}:aE) a.named)).bind λh=>(yY L a.aI.ao a.aI.bw d.A d.B h).bind λc=>(bif c5 (c.2≠0) then c6 true else(ra L (aR.mk ({a.aI with au:=b.1,bw:=c.1}:aE) a.named)).bind λg=>c6 (!g)).bind λj=>bif j then c6 (cT (aR.mk ({a.aI with au:=b.1,bw:=c.1}:aE) a.named) c.2) else(mT L (aR.mk ({a.aI with au:=b.1,bw:=c.1}:aE) a.named)).bind λf=>(fP L (aR.mk ({a.aI with au:=b.1,bw:=c.1}:aE) a.named)).bind λi=>(yY L (ak.mk f.1 f.2) a.aI.bq d.A d.B i).bind λe=>c6 (cT (aR.mk ({a.aI with au:=b.1,bw:=c.1,bq:=e.1}:aE) a.named) e.2)
def uq(L:Lp)(c:bQ×Int)(b:yc)(a:Int):Option (((yc)×Int)⊕(yc)):=bif c5 (a<(c.1.an.length:Int)) then(aj c.1.an a).bind λd=>(aj b a).bind λ_=>(b[a.toNat]?).bind λe=>(aj b a).bind λ_=>(b[a.toNat]?).bind λ_=>c6 (dd (b.set (a.toNat) (min e d),c3 c4 (a+1))) else c6 (c7 b)
def xy(a:aR)(d:bH):Option jt:=(cp L d.A 0 (c3 c4 ((a.aI.ao.ai.length:Int) -1))).bind λi=>bif (!i) then c6 (cT a 3) else(fP L a).bind λm=>(EX L a.aI.ao a.aI.cI ([d.A]:yc) m).bind λb=>bif c5 (b.2.2≠0) then c6 (cT a b.2.2) else(bif c5 (0<(a.aI.bz.an.length:Int)) then(fP L a).bind λn=>(uk L a.aI.ao a.aI.cI a.aI.ao a.aI.cI a.aI.bz n).bind λc=>bif c5 (c.2≠0) then c6 (c7 c.2) else(L.loop (λf=>uq L c f.1 f.2) (b.1,0)).bind λh=>c6 (dd h) else c6 (dd b.1)).bind λl=>dt (λe=>(fP L (aR.mk ({a.aI with bz:=(bQ.mk b.2.1 e)}:aE) a.named)).bind λk=>(rk L a.aI.bS 1 d.A 1 k).bind λg=>c6 (cT (aR.mk ({a.aI with bz:=(bQ.mk b.2.1 e),bS:=g.1}:aE) a.named) g.2)) (λj=>c6 (cT a j)) l
def vA(a:aR)(e:bH):Option jt:=(cp L e.A 0 (c3 c4 ((a.aI.aa2.af.length:Int) -1))).bind λi=>bif (!i) then c6 (cT a 47) else(Dv L a.aI.au.aN a e).bind λj=>bif j then c6 (cT a 49) else(GQ L a.aI.aa2 e.A).bind λd=>bif c5 (d.2≠0) then c6 (cT (aR.mk ({a.aI with aa2:=d.1}:aE) a.named) d.2) else(J0 L d.1 e.A).bind λc=>bif c5 (c.2≠0) then c6 (cT (aR.mk ({a.aI with aa2:=c.1}:aE) a.named) c.2) else(zA L c.1.aa2).bind λh=>bif h then c6 (cT (aR.mk ({a.aI with aa2:=c.1}:aE) a.named) 0) else(Cu L c.1).bind λb=>bif c5 (b.2≠0) then c6 (cT (aR.mk ({a.aI with aa2:=b.1}:aE) a.named) b.2) else(fP L (aR.mk ({a.aI with aa2:=b.1}:aE) a.named)).bind λg=>(Em L a.aI.ao a.aI.bw b.1.af g).bind λf=>c6 (cT (aR.mk ({a.aI with aa2:=b.1,bq:=f.1}:aE) a.named) f.2)
def vm(a:aR)(d:bH):Option jt:=(fP L a).bind λc=>(BR L a.aI.bM a.aI.cL a.aI.aa2 a.aI.bq d.A c).bind λb=>c6 (cT (aR.mk ({a.aI with cL:=b.1}:aE) a.named) b.2)
def wR(a:aR)(d:bH):Option jt:=(fP L a).bind λc=>(AJ L a.aI.bM a.aI.cL a.aI.aa2 a.aI.bq d.A c).bind λb=>c6 (cT (aR.mk ({a.aI with cL:=b.1}:aE) a.named) b.2)
def yu(a:aR)(d:bH):Option jt:=(fP L a).bind λc=>(CM L a.aI.bM a.aI.cL a.aI.aa2 a.aI.bq c (c5 (d.B≠0))).bind λb=>c6 (cT (aR.mk ({a.aI with cL:=b.1}:aE) a.named) b.2)
def xg(b:aR)(e:Int):Option jt:=(q9 L b.aI.cI).bind λi=>(kF L b.aI.ao.ai).bind λw=>(kQ L b.aI.ao.af).bind λh=>(aj h e).bind λ_=>(h[e.toNat]?).bind λs=>((aj i e).bind λ_=>(i[e.toNat]?).bind λ_=>c6 (UN (aR.mk ({b.aI with ao:=(ak.mk w (h.set (e.toNat) ({s with eN:=true}:aZ)))}:aE) b.named) (i.set (e.toNat) (bI.mk 0 0))):Option DU).bind λj=>let a:=ao9 b.aI.cq b.aI.bZ b.aI.bB j;let m:=Yk j;(fP L a).bind λn=>(kW L a.aI.ao a.aI.bw n).bind λd=>bif c5 (d.2≠0) then c6 (cT (aR.mk ({a.aI with bw:=d.1}:aE) a.named) d.2) else(ra L (aR.mk ({a.aI with bw:=d.1}:aE) a.named)).bind λv=>(bif v then(mT L (aR.mk ({a.aI with bw:=d.1}:aE) a.named)).bind λl=>(fP L (aR.mk ({a.aI with bw:=d.1}:aE) a.named)).bind λu=>(kW L (ak.mk l.1 l.2) a.aI.bq u).bind λg=>bif c5 (g.2≠0) then c6 (c7 (iv (aR.mk ({a.aI with bw:=d.1,bq:=g.1}:aE) a.named) g.2)) else c6 (dd (fj (aR.mk ({a.aI with bw:=d.1,bq:=g.1}:aE) a.named))) else c6 (dd (fj (aR.mk ({a.aI with bw:=d.1}:aE) a.named)))).bind λq=>dt (λr=>let c:=lu b.aI.cq b.aI.bZ b.aI.bB r;bif c5 (0<(c.aI.bz.an.length:Int)) then(fP L c).bind λp=>(yg L m b.aI.ao c.aI.cI c.aI.ao c.aI.bz p).bind λf=>bif c5 (f.2.2≠0) then c6 (cT (aR.mk ({c.aI with bz:=f.2.1}:aE) c.named) f.2.2) else c6 (cT (aR.mk ({c.aI with cI:=f.1,bz:=f.2.1}:aE) c.named) 0) else c6 (cT (aR.mk ({c.aI with cI:=m}:aE) c.named) 0)) (λk=>let t:=nT b.aI.cq b.aI.bZ b.aI.bB k;let o:=nO k;c6 (cT t o)) q
def tM(a:aR)(d:bH):Option jt:=(wO L a.aI.au d.A).bind λb=>bif c5 (b.2≠0) then c6 (cT (aR.mk ({a.aI with au:=b.1}:aE) a.named) b.2) else(xg L (aR.mk ({a.aI with au:=b.1}:aE) a.named) d.A).bind λc=>let e:=fR c;let f:=fT c;c6 (cT e f)
def Qt(a:aR)(d:bH):Option jt:=(wO L a.aI.au d.A).bind λb=>bif c5 (b.2≠0) then c6 (cT (aR.mk ({a.aI with au:=b.1}:aE) a.named) b.2) else(xg L (aR.mk ({a.aI with au:=b.1}:aE) a.named) d.A).bind λc=>let e:=fR c;let f:=fT c;c6 (cT e f)
def Co(L:Lp)(c:aR)(a:yc)(b:Int):Option (((yc)×Int)⊕(yc)):=bif c5 (b<(c.aI.bS.length:Int)) then(aj c.aI.bS b).bind λd=>(bif c5 (d.abv=2) then(bj 8 a ([d.eB]:yc)).bind λf=>c6 f else c6 a).bind λe=>c6 (dd (e,c3 c4 (b+1))) else c6 (c7 a)
def tB(e:ak×(yc)×Int)(b:aR)(a:aR)(c:Int):Option (nH⊕jk):=bif c5 (c<(e.2.1.length:Int)) then(aj e.2.1 c).bind λg=>(fP L a).bind λi=>(rk L a.aI.bS 2 g 2 i).bind λd=>(bif c5 (d.2=0) then c6 (fj (aR.mk ({a.aI with bS:=d.1}:aE) a.named)) else c6 (fj a)).bind λf=>let h:=lu b.aI.cq b.aI.bZ b.aI.bB f;c6 (dd (jw h (c3 c4 (c+1)))) else c6 (c7 (fj a))
def xQ(a:aR)(d:bH):Option jt:=((cp L d.A 0 (c3 c4 ((a.aI.ao.af.length:Int) -1))).bind λr=>bif (!r) then c6 true else(aj a.aI.ao.af d.A).bind λn=>c6 n.eN:Option Bool).bind λm=>bif m then c6 (cT a 4) else(fP L a).bind λl=>(w6 L a.aI.bz (c3 c4 (l+600))).bind λq=>(L.loop (λc=>Co L a c.1 c.2) (([]:yc),0)).bind λj=>(fP L a).bind λi=>(zJ L a.aI.ao ({a.aI.bR with dg:=q}:bE) a.aI.bw ([d.A]:yc) ([]:yc) j i 600).bind λb=>(bif c5 (b.2.2=46) then(L.loop (λc=>tB L b a (tP a.aI.cq a.aI.bZ a.aI.bB c) (um c)) (jw (aR.mk a.aI b.2.1) 0)).bind λp=>let g:=lu a.aI.cq a.aI.bZ a.aI.bB p;c6 (fj g) else c6 (fj (aR.mk a.aI b.2.1))).bind λh=>let f:=lu a.aI.cq a.aI.bZ a.aI.bB h;bif c5 (b.2.2≠0) then c6 (cT f b.2.2) else(Qt L f d).bind λe=>let o:=fR e;let k:=fT e;c6 (cT o k)
def qm(s:aR)(a:aR)(b:aR)(d:Int):Option (nH⊕(jU⊕jk)):=bif c5 (d<(s.aI.aa2.aa2.length:Int)) then(aj b.aI.aa2.aa2 d).bind λr=>(bif c5 (r=2) then(qu L b.aI.aa2 d).bind λe=>bif c5 (e.2≠0) then c6 (c7 (iv (aR.mk ({b.aI with aa2:=e.1}:aE) b.named) e.2)) else c6 (dd (fj (aR.mk ({b.aI with aa2:=e.1}:aE) b.named))) else c6 (dd (fj b))).bind λt=>dt (λn=>let c:=lu a.aI.cq a.aI.bZ a.aI.bB n;(aj c.aI.aa2.aa2 d).bind λm=>(bif c5 (m=1) then(vJ L c.aI.aa2 d).bind λf=>bif c5 (f.2≠0) then c6 (c7 (iv (aR.mk ({c.aI with aa2:=f.1}:aE) c.named) f.2)) else c6 (dd (fj (aR.mk ({c.aI with aa2:=f.1}:aE) c.named))) else c6 (dd (fj c))).bind λl=>dt (λi=>let o:=lu a.aI.cq a.aI.bZ a.aI.bB i;c6 (dd (jw o (c3 c4 (d+1))))) (λh=>let p:=nT a.aI.cq a.aI.bZ a.aI.bB h;let j:=nO h;c6 (c7 (dd (iv p j)))) l) (λg=>let k:=nT a.aI.cq a.aI.bZ a.aI.bB g;let q:=nO g;c6 (c7 (dd (iv k q)))) t else c6 (c7 (c7 (fj b)))
def xE(a:aR)(y:bH):Option jt:=(yA L a.aI.aa2).bind λw=>bif c5 ((w.length:Int)=0) then c6 (cT a 10) else(bif c5 (a.aI.cL.State≠0) then(fP L a).bind λx=>(BY L a.aI.bM a.aI.cL x).bind λd=>bif c5 (d.2≠0) then c6 (c7 (iv (aR.mk ({a.aI with cL:=d.1}:aE) a.named) d.2)) else c6 (dd (fj (aR.mk ({a.aI with cL:=d.1}:aE) a.named))) else c6 (dd (fj a))).bind λm=>dt (λn=>let b:=lu a.aI.cq a.aI.bZ a.aI.bB n;(bif b.aI.aa2.Out then(vQ L b.aI.aa2).bind λc=>bif c5 (c.2≠0) then c6 (c7 (iv (aR.mk ({b.aI with aa2:=c.1}:aE) b.named) c.2)) else c6 (dd (fj (aR.mk ({b.aI with aa2:=c.1}:aE) b.named))) else c6 (dd (fj b))).bind λr=>dt (λs=>let i:=lu a.aI.cq a.aI.bZ a.aI.bB s;(L.loop (λf=>qm L i a (tP a.aI.cq a.aI.bZ a.aI.bB f) (um f)) (jw i 0)).bind λv=>dt (λg=>let o:=nT a.aI.cq a.aI.bZ a.aI.bB g;let k:=nO g;c6 (cT o k)) (λl=>let j:=lu a.aI.cq a.aI.bZ a.aI.bB l;c6 (cT (aR.mk ({j.aI with bq:=(aL.mk ([]:List ay))}:aE) j.named) 0)) v) (λe=>let p:=nT a.aI.cq a.aI.bZ a.aI.bB e;let u:=nO e;c6 (cT p u)) r) (λh=>let t:=nT a.aI.cq a.aI.bZ a.aI.bB h;let q:=nO h;c6 (cT t q)) m
def w7(d:aE)(a:bH):Option (aE×Int):=bif c5 (200<=(d.bB.length:Int)) then c6 (d,2) else(zj L d).bind λab=>bif (!ab) then c6 (d,6) else(Dr L d).bind λac=>let b:=SD ac;(Ml L a.abv).bind λw=>(bif (!w.isNone) then(w.bind λc=>bif dT c 103 then(xR L (aR.mk b ([]:yc)) a).bind λo=>let N:=fR o;let J:=fT o;c6 (dp N J) else bif dT c 104 then(yV L (aR.mk b ([]:yc)) a).bind λp=>let O:=fR p;let V:=fT p;c6 (dp O V) else bif dT c 105 then(yT L (aR.mk b ([]:yc)) a).bind λj=>let ah:=fR j;let ae:=fT j;c6 (dp ah ae) else bif dT c 106 then(wP L (aR.mk b ([]:yc)) a).bind λi=>let R:=iS i;let Y:=iJ i;c6 (dp R Y) else bif dT c 107 then(yb L (aR.mk b ([]:yc)) a).bind λv=>let T:=fR v;let A:=fT v;c6 (dp T A) else bif dT c 108 then(xy L (aR.mk b ([]:yc)) a).bind λq=>let C:=fR q;let y:=fT q;c6 (dp C y) else bif dT c 109 then(vA L (aR.mk b ([]:yc)) a).bind λs=>let U:=fR s;let E:=fT s;c6 (dp U E) else bif dT c 110 then(vm L (aR.mk b ([]:yc)) a).bind λl=>let P:=fR l;let B:=fT l;c6 (dp P B) else bif dT c 111 then(wR L (aR.mk b ([]:yc)) a).bind λh=>let af:=fR h;let D:=fT h;c6 (dp af D) else bif dT c 112 then(yu L (aR.mk b ([]:yc)) a).bind λn=>let S:=fR n;let Z:=fT n;c6 (dp S Z) else bif dT c 113 then(tM L (aR.mk b ([]:yc)) a).bind λm=>let W:=fR m;let ag:=fT m;c6 (dp W ag) else bif dT c 114 then(xQ L (aR.mk b ([]:yc)) a).bind λk=>let ad:=fR k;let I:=fT k;c6 (dp ad I) else bif dT c 115 then(xE L (aR.mk b ([]:yc)) a).bind λt=>let aa:=fR t;let M:=fT t;c6 (dp aa M) else e0:Option qz).bind λr=>let F:=iS r;let z:=iJ r;c6 (dp F z) else c6 (dp (aR.mk b ([]:yc)) 55)).bind λu=>let f:=iS u;let e:=iJ u;(bif c5 (e≠0) then(Cp L d).bind λK=>let g:=aiF K;(bif c5 (e=46) then c6 (RG ({g with bS:=f.aI.bS}:aE)) else c6 (RG g)).bind λQ=>let H:=ajj g.bB Q;c6 (lR H) else c6 (lR f.aI)).bind λG=>let x:=tT G;(bj 72 x.bB ([(dK.mk a d.au.aa0 e f.named)]:List dK)).bind λX=>c6 (({x with bB:=X}:aE),e)
def WT(c:List bH)(b:aE)(a:Int):Option (pJ⊕qc):=bif c5 (a<(c.length:Int)) then(aj c a).bind λd=>(w7 L b d).bind λe=>c6 (dd (u16 e.1 (c3 c4 (a+1)))) else c6 (c7 (lR b))
def Rs(c:aE)(e:List bH):Option aE:=(L.loop (λa=>WT L e (sN a) (sE a)) (u16 c 0)).bind λb=>let f:=tT b;(wc L f).bind λd=>c6 d
def Ol(L:Lp):Option (List (Option Nat)):=c6 ([(c6 121:Option Nat),(c6 123:Option Nat),(c6 124:Option Nat),(c6 125:Option Nat),(c6 127:Option Nat),(c6 128:Option Nat),(c6 129:Option Nat),(c6 130:Option Nat)]:List (Option Nat))
def Qz(a:ay)(c:aE):Option Bool:=(qG L a.aw c.au.aw).bind λb=>c6 b
def asI(a:List ay)(b:aE)(c:Int):Option (Int⊕(Int⊕Unit)):=wi a (λd=>Qz L d b) c
def Ma(b:List ay)(a:aE):Option Int:=(L.loop (λd=>asI L b a d) 0).bind λe=>dt (λc=>c6 c) (λf=>c6 (-1)) e
def Th(a:List ay)(c:aE):Option Bool:=(Ma L a c).bind λb=>c6 (c5 (0<=b))
def aes(b:aE)(f:aL)(a:Int):Option (Int⊕(Unit⊕Unit)):=bif c5 (a<(b.au.aN.length:Int)) then(aj b.au.aN a).bind λc=>(rJ L f a b.au.aa0).bind λd=>(im L d c.abG).bind λe=>bif (!e) then c6 (c7 (dd ())) else c6 (dd (c3 c4 (a+1))) else c6 (c7 (c7 ()))
def GK(a:aE)(b:aL):Option Bool:=(L.loop (λc=>aes L a b c) 0).bind λd=>dt (λg=>c6 false) (λf=>(Th L b.aA a).bind λe=>c6 e) d
def LL(a:aE):Option Bool:=(GK L a a.bw).bind λb=>c6 b
def PU(a:aE):Option Bool:=bif c5 ((a.bq.aA.length:Int)=0) then c6 true else(GK L a a.bq).bind λb=>c6 b
def OJ(b:Int)(a:aE):Option Bool:=(aj a.au.aN b).bind λc=>(im L a.bM.bT c.abG).bind λd=>c6 d
def al1(c:Int)(g:aE)(b:yc)(a:Int):Option (((yc)×Int)⊕(yc)):=bif c5 (a<c) then(OJ L a g).bind λe=>(bif e then(bj 8 b ([a]:yc)).bind λd=>c6 d else c6 b).bind λf=>c6 (dd (f,c3 c4 (a+1))) else c6 (c7 b)
def QU(c:Int)(d:aE):Option yc:=(L.loop (λa=>al1 L c d a.1 a.2) (([]:yc),0)).bind λb=>c6 b
def FN(a:aE):Option yc:=(QU L (a.au.aN.length:Int) a).bind λb=>c6 b
def QK(a:aE):Option Bool:=(bif c5 (a.cL.State≠3) then bif c5 (a.cL.State≠4) then c6 true else c6 (c5 (a.cL.aa0≠a.au.aa0)) else c6 (c5 (a.cL.aa0≠a.au.aa0))).bind λc=>bif c then c6 true else(FN L a).bind λb=>bif c5 ((b.length:Int)=0) then(wA L a.bq a.bM.bT).bind λd=>c6 d else c6 false
def Oy(a:bC)(c:aE):Option Bool:=bif c5 (0<=a.akw) then(im L c.aa2.af a.akw).bind λb=>c6 b else c6 false
def Z1(a:List bC)(b:aE)(c:Int):Option (Int⊕(Int⊕Unit)):=wi a (λd=>Oy L d b) c
def Na(b:List bC)(a:aE):Option Int:=(L.loop (λd=>Z1 L b a d) 0).bind λe=>dt (λc=>c6 c) (λf=>c6 (-1)) e
def Rp(a:List bC)(c:aE):Option Bool:=(Na L a c).bind λb=>c6 (c5 (0<=b))
def Nd(a:aE):Option Bool:=(Rp L a.au.aN a).bind λb=>c6 b
def Rh(a:aE):Option Bool:=bif (!a.aa2.Out) then c6 true else(Nd L a).bind λb=>c6 (!b)
def uh(a:Int)(c:yc):Option Bool:=(im L c a).bind λb=>c6 b
def Jj(a:yc)(b:yc)(c:Int):Option (Int⊕(Int⊕Unit)):=wi a (λd=>uh L d b) c
def Jg(b:yc)(a:yc):Option Int:=(L.loop (λd=>Jj L b a d) 0).bind λe=>dt (λc=>c6 c) (λf=>c6 (-1)) e
def CG(a:yc)(c:yc):Option Bool:=(Jg L a c).bind λb=>c6 (c5 (0<=b))
def zq(a:Int)(c:yc):Option Bool:=(uh L a c).bind λb=>c6 (!b)
def Ih(a:yc)(b:yc)(c:Int):Option (Int⊕(Int⊕Unit)):=wi a (λd=>zq L d b) c
def FW(b:yc)(a:yc):Option Int:=(L.loop (λd=>Ih L b a d) 0).bind λe=>dt (λc=>c6 c) (λf=>c6 (-1)) e
def zo(a:yc)(c:yc):Option Bool:=(FW L a c).bind λb=>c6 (c5 (0<=b))
def Cx(c:ay)(e:Int)(b:yc)(h:Int):Option (Bool×Bool):=bif c5 ((c.aH.length:Int)<=e) then c6 (false,false) else(aj c.aH e).bind λf=>(su L f h).bind λd=>(CG L d b).bind λa=>bif a then(zo L d b).bind λg=>c6 ((!g),a) else c6 (false,a)
def DF(d:ay)(h:yc)(g:Int)(b:Int)(a:Int)(c:Int):Option ((Int×Int×Int)⊕(Int×Int)):=bif c5 (c<(d.aH.length:Int)) then(Cx L d c h g).bind λe=>(bif e.1 then c6 (c3 c4 (b+1)) else c6 b).bind λf=>(bif e.2 then c6 (c3 c4 (a+1)) else c6 a).bind λi=>c6 (dd (f,i,c3 c4 (c+1))) else c6 (c7 (b,a))
def Fa(f:aL)(h:yc)(g:Int)(c:bI)(b:Int):Option ((Int×Int×Int)⊕(Int×Int)):=bif c5 (b<(f.aA.length:Int)) then(aj f.aA b).bind λi=>(L.loop (λd=>DF L i h g d.1 d.2.1 d.2.2) (0,0,0)).bind λa=>(bif c5 (b=0) then c6 (a.1,a.2) else c6 (c.eF,c.fk)).bind λe=>c6 (dd (min e.1 a.1,max e.2 a.2,c3 c4 (b+1))) else c6 (c7 (c.eF,c.fk))
def Ew(d:aL)(e:yc)(c:Int):Option bI:=(L.loop (λa=>Fa L d e c (bI.mk a.1 a.2.1) a.2.2) (0,0,0)).bind λb=>c6 (bI.mk b.1 b.2)
def Ow(a:aE):Option Bool:=(Ew L a.bw a.bM.bT a.au.aa0).bind λb=>(FN L a).bind λd=>(cp L (d.length:Int) b.eF b.fk).bind λc=>c6 c
def Lf(L:Lp)(a:cy)(b:Int)(c:Int):Option Bool:=bif c5 (a.abv=b) then c6 (c5 (a.eB=c)) else c6 false
def ais(c:List cy)(e:Int)(a:Int)(d:Int):Option (Int⊕(Int⊕Unit)):=wi c (λb=>Lf L b e a) d
def Qo(b:List cy)(f:Int)(a:Int):Option Int:=(L.loop (λd=>ais L b f a d) 0).bind λe=>dt (λc=>c6 c) (λg=>c6 (-1)) e
def O7(a:List cy)(c:Int)(d:Int):Option Bool:=(Qo L a c d).bind λb=>c6 (c5 (0<=b))
def KD(a:aE)(c:Int)(d:Int):Option Bool:=(O7 L a.bS c d).bind λb=>c6 b
def OU(a:dK)(c:aE):Option Bool:=bif c5 (a.Event.abv=6) then bif c5 (a.Code=0) then(KD L c 1 a.Event.A).bind λb=>c6 (!b) else c6 false else c6 false
def abX(a:List dK)(b:aE)(c:Int):Option (Int⊕(Int⊕Unit)):=wi a (λd=>OU L d b) c
def NP(b:List dK)(a:aE):Option Int:=(L.loop (λd=>abX L b a d) 0).bind λe=>dt (λc=>c6 c) (λf=>c6 (-1)) e
def Sa(a:List dK)(c:aE):Option Bool:=(NP L a c).bind λb=>c6 (c5 (0<=b))
def NV(a:aE):Option Bool:=(Sa L a.bB a).bind λb=>c6 (!b)
def al5(d:yc)(a:aE)(b:Int):Option (Int⊕(Unit⊕Unit)):=bif c5 (b<(d.length:Int)) then(aj d b).bind λc=>((r6 L a.ao ({a.bR with dg:=([]:yc)}:bE) c).bind λe=>bif (!e) then(KD L a 2 c).bind λf=>c6 (!f) else c6 false:Option Bool).bind λg=>bif g then c6 (c7 (dd ())) else c6 (dd (c3 c4 (b+1))) else c6 (c7 (c7 ()))
def aaL(a:aE)(b:Int):Option (Int⊕(Unit⊕Unit)):=bif c5 (b<(a.au.aN.length:Int)) then(rJ L a.bw b a.au.aa0).bind λe=>(L.loop (λd=>al5 L e a d) 0).bind λc=>dt (λf=>c6 (c7 (dd ()))) (λg=>c6 (dd (c3 c4 (b+1)))) c else c6 (c7 (c7 ()))
def Nl(a:aE):Option Bool:=(bif c5 ((a.bB.length:Int)=0) then c6 true else(aj a.bB (c3 c4 ((a.bB.length:Int) -1))).bind λb=>bif c5 (b.Event.abv≠12) then c6 true else(aj a.bB (c3 c4 ((a.bB.length:Int) -1))).bind λc=>bif c5 (c.Code≠0) then c6 true else c6 (c5 (0<(a.bz.an.length:Int)))).bind λe=>bif e then c6 true else(L.loop (λd=>aaL L a d) 0).bind λf=>dt (λh=>c6 false) (λg=>c6 true) f
def Ng(a:aE):Option Bool:=(yE L a.bS).bind λb=>bif b then(oL L a.aa2).bind λd=>bif d then(oT L a.bM a.cL).bind λc=>c6 c else c6 false else c6 false
def aak(e:List (Option Nat))(a:aE)(d:yc)(c:Int):Option (((yc)×Int)⊕(yc)):=bif c5 (c<(e.length:Int)) then(aj e c).bind λo=>(o.bind λb=>bif dT b 121 then(LL L a).bind λi=>c6 (!i) else bif dT b 123 then(PU L a).bind λm=>c6 (!m) else bif dT b 124 then(QK L a).bind λj=>c6 (!j) else bif dT b 125 then(Rh L a).bind λg=>c6 (!g) else bif dT b 127 then(Ow L a).bind λk=>c6 (!k) else bif dT b 128 then(NV L a).bind λq=>c6 (!q) else bif dT b 129 then(Nl L a).bind λl=>c6 (!l) else bif dT b 130 then(Ng L a).bind λf=>c6 (!f) else e0:Option Bool).bind λn=>(bif n then(bj 8 d ([c3 c4 (c+1)]:yc)).bind λp=>c6 p else c6 d).bind λh=>c6 (dd (h,c3 c4 (c+1))) else c6 (c7 d)
def N8(c:aE):Option yc:=(Ol L).bind λb=>(L.loop (λa=>aak L b c a.1 a.2) (([]:yc),0)).bind λd=>c6 d
def vn:Option Bool:=(gP 16 (bI.mk 0 0) 2).bind λd=>(wX L (ak.mk ([(bP.mk 0 true),(bP.mk 0 false),(bP.mk 0 false)]:List bP) ([(aZ.mk 0 1 12 1 true false (bI.mk 1 1) (bI.mk 0 0)),(aZ.mk 1 2 12 1 true false (bI.mk 1 1) (bI.mk 0 0))]:List aZ)) ([(aS.mk ([0]:yc) 10 0 0)]:List aS) ([0]:yc) ([9]:yc) d (bE.mk ([]:yc) ([]:yc) ([]:yc) 900) (cd.mk ([2]:yc) 9 9) ([1]:yc)).bind λb=>(Rs L b.1 ([(bH.mk 7 0 0 0),(bH.mk 8 1 0 0),(bH.mk 9 2 0 0),(bH.mk 2 0 1 0),(bH.mk 10 0 0 0)]:List bH)).bind λa=>bif c5 (b.2=0) then bif c5 ((a.bB.length:Int)=5) then bif c5 (a.cL.State=3) then(aj a.bB 3).bind λe=>bif c5 (e.Code=47) then bif a.aa2.Out then(N8 L a).bind λc=>c6 (c5 ((c.length:Int)=0)) else c6 false else c6 false else c6 false else c6 false else c6 false
def NC(L:Lp)(a:yc):Option yc:=c6 a
def Ie(L:Lp)(c:Int)(a:Int):Option Int:=bif c5 (a<1) then c6 0 else(nG c a).bind λb=>bif c5 (b<0) then c6 (c3 c4 (b+a)) else c6 b
def eO(a:bD)(c:Int):Option ((yc)×Int×Int):=bif c5 ((a.L.length:Int)<=a.At) then c6 (a.L,a.At,0) else(aj a.L (c3 c4 ((c3 c4 (a.At+1)) -1))).bind λb=>(Ie L b c).bind λd=>c6 (a.L,c3 c4 (a.At+1),d)
def mK(c:bD)(b:Int):Option ((yc)×Int×Bool):=(eO L c b).bind λa=>c6 (a.1,a.2.1,c5 (a.2.2=(c3 c4 (b -1))))
def gQ(c:bD)(b:yc):Option ((yc)×Int×Int):=(eO L c (b.length:Int)).bind λa=>(aj b a.2.2).bind λd=>c6 (a.1,a.2.1,d)
def Bt(g:Int)(c:bD)(b:ak)(d:Int):Option (((yc)×Int×(List bP)×(List aZ)×Int)⊕((yc)×Int×(List bP)×(List aZ))):=bif c5 (d<g) then((eO L c 4).bind λa=>bif c5 (d=0) then(bj 16 b.ai ([(bP.mk (c3 c4 ((-10)*a.2.2)) true)]:List bP)).bind λh=>c6 (a.1,a.2.1,h) else(mK L (bD.mk a.1 a.2.1) 6).bind λe=>(bj 16 b.ai ([(bP.mk (c3 c4 ((-10)*a.2.2)) e.2.2)]:List bP)).bind λi=>c6 (e.1,e.2.1,i):Option ((yc)×Int×(List bP))).bind λf=>c6 (dd (f.1,f.2.1,f.2.2,b.af,c3 c4 (d+1))) else c6 (c7 (c.L,c.At,b.ai,b.af))
def By(g:Int)(f:bD)(b:ak)(a:Int):Option (((yc)×Int×(List bP)×(List aZ)×Int)⊕((yc)×Int×(List bP)×(List aZ))):=bif c5 (a<g) then(eO L f (min a 2)).bind λe=>(gQ L (bD.mk e.1 e.2.1) ([11,59,119,4]:yc)).bind λd=>(gQ L (bD.mk d.1 d.2.1) ([9,3,19]:yc)).bind λc=>(bj 72 b.af ([(aZ.mk (c3 c4 ((c3 c4 (a -1)) -e.2.2)) a (c3 c4 (1+d.2.2)) (c3 c4 (1+c.2.2)) true false (bI.mk 1 1) (bI.mk 0 0))]:List aZ)).bind λh=>c6 (dd (c.1,c.2.1,b.ai,h,c3 c4 (a+1))) else c6 (c7 (f.L,f.At,b.ai,b.af))
def HR(i:Int)(g:bD)(a:ak)(k:Int):Option (((yc)×Int×(List bP)×(List aZ)×Int)⊕((yc)×Int×(List bP)×(List aZ))):=(bif c5 (0<k) then c6 (c5 ((a.af.length:Int)<10)) else c6 false).bind λm=>bif m then(eO L g i).bind λb=>(eO L (bD.mk b.1 b.2.1) i).bind λc=>(gQ L (bD.mk c.1 c.2.1) ([11,59,199]:yc)).bind λf=>(gQ L (bD.mk f.1 f.2.1) ([9,3]:yc)).bind λd=>(eO L (bD.mk d.1 d.2.1) 5).bind λe=>(mK L (bD.mk e.1 e.2.1) 6).bind λh=>(bif c5 (b.2.2≠c.2.2) then(bj 72 a.af ([(aZ.mk b.2.2 c.2.2 (c3 c4 (1+f.2.2)) (c3 c4 (1+d.2.2)) (c5 (0<e.2.2)) h.2.2 (bI.mk 1 1) (bI.mk 0 0))]:List aZ)).bind λl=>c6 (a.ai,l) else c6 (a.ai,a.af)).bind λj=>c6 (dd (h.1,h.2.1,j.1,j.2,c3 c4 (k -1))) else c6 (c7 (g.L,g.At,a.ai,a.af))
def zN(h:bD):Option ((yc)×Int×ak):=(eO L h 6).bind λd=>(bif c5 ((d.1.length:Int)=0) then c6 4 else c6 (c3 c4 (2+d.2.2))).bind λf=>(L.loop (λa=>Bt L f (bD.mk a.1 a.2.1) (ak.mk a.2.2.1 a.2.2.2.1) a.2.2.2.2) (d.1,d.2.1,([]:List bP),([]:List aZ),0)).bind λc=>(L.loop (λa=>By L f (bD.mk a.1 a.2.1) (ak.mk a.2.2.1 a.2.2.2.1) a.2.2.2.2) (c.1,c.2.1,c.2.2.1,c.2.2.2,1)).bind λb=>(eO L (bD.mk b.1 b.2.1) 4).bind λg=>(L.loop (λa=>HR L f (bD.mk a.1 a.2.1) (ak.mk a.2.2.1 a.2.2.2.1) a.2.2.2.2) (g.1,g.2.1,b.2.2.1,b.2.2.2,g.2.2)).bind λe=>c6 (e.1,e.2.1,(ak.mk e.2.2.1 e.2.2.2))
def HH(e:Int)(c:bD)(d:yc)(a:Int):Option (((yc)×Int×(yc)×Int)⊕((yc)×Int×(yc))):=bif c5 (a<e) then(eO L c 3).bind λb=>(bif c5 (b.2.2=0) then(bj 8 d ([a]:yc)).bind λf=>c6 f else c6 d).bind λg=>c6 (dd (b.1,b.2.1,g,c3 c4 (a+1))) else c6 (c7 (c.L,c.At,d))
def A9(c:bD)(d:Int):Option ((yc)×Int×(yc)):=(L.loop (λa=>HH L d (bD.mk a.1 a.2.1) a.2.2.1 a.2.2.2) (c.L,c.At,([]:yc),0)).bind λb=>c6 (b.1,b.2.1,b.2.2)
def R2(k:ak)(e:bD)(i:List aS)(h:Int):Option (((yc)×Int×(List aS)×Int)⊕((yc)×Int×(List aS))):=bif c5 (0<h) then(A9 L e (k.ai.length:Int)).bind λb=>(gQ L (bD.mk b.1 b.2.1) ([9,29,4]:yc)).bind λd=>(eO L (bD.mk d.1 d.2.1) 3).bind λc=>(gQ L (bD.mk c.1 c.2.1) ([0,1,5]:yc)).bind λa=>(bif c5 ((b.2.2.length:Int)=0) then(eO L (bD.mk a.1 a.2.1) (k.ai.length:Int)).bind λf=>c6 (JB (bD.mk f.1 f.2.1) (aS.mk ([f.2.2]:yc) (c3 c4 (1+d.2.2)) c.2.2 a.2.2)) else c6 (JB (bD.mk a.1 a.2.1) (aS.mk b.2.2 (c3 c4 (1+d.2.2)) c.2.2 a.2.2))).bind λj=>let g:=ajn j;let l:=aom j;(bj 48 i ([l]:List aS)).bind λm=>c6 (dd (g.L,g.At,m,c3 c4 (h -1))) else c6 (c7 (e.L,e.At,i))
def BX(d:bD)(e:ak):Option ((yc)×Int×(List aS)):=(eO L d 4).bind λb=>(L.loop (λa=>R2 L e (bD.mk a.1 a.2.1) a.2.2.1 a.2.2.2) (b.1,b.2.1,([]:List aS),b.2.2)).bind λc=>c6 (c.1,c.2.1,c.2.2)
def JQ(j:ak)(f:bD)(h:List bI)(a:Int):Option (((yc)×Int×(List bI)×Int)⊕((yc)×Int×(List bI))):=bif c5 (a<(j.af.length:Int)) then(gQ L f ([0,1000,5000,20000,(-5000),(-20000),4999,100]:yc)).bind λc=>(gQ L (bD.mk c.1 c.2.1) ([0,1,1000,6000]:yc)).bind λg=>(gQ L (bD.mk g.1 g.2.1) ([0,1,500]:yc)).bind λe=>(bj 16 h ([(bI.mk (c3 c4 (c.2.2 -g.2.2)) (c3 c4 (c.2.2+e.2.2)))]:List bI)).bind λb=>(mK L (bD.mk e.1 e.2.1) 9).bind λd=>(bif d.2.2 then(aj b a).bind λ_=>(b[a.toNat]?).bind λ_=>c6 (b.set (a.toNat) (bI.mk (-1125899906842624) 1125899906842624)) else c6 b).bind λi=>c6 (dd (d.1,d.2.1,i,c3 c4 (a+1))) else c6 (c7 (f.L,f.At,h))
def Cq(c:bD)(d:ak):Option ((yc)×Int×(List bI)):=(L.loop (λa=>JQ L d (bD.mk a.1 a.2.1) a.2.2.1 a.2.2.2) (c.L,c.At,([]:List bI),0)).bind λb=>c6 (b.1,b.2.1,b.2.2)
def xG(L:Lp)(a:bI)(b:Int)(c:Int):Option Bool:=bif c5 (b<=a.eF) then bif c5 (a.eF<=a.fk) then c6 (c5 (a.fk<=c)) else c6 false else c6 false
def IS(L:Lp)(b:ak)(a:Int):Option (Int⊕(Unit⊕Unit)):=bif c5 (a<(b.ai.length:Int)) then(aj b.ai a).bind λc=>(bif c5 (c.eU<(-10000)) then c6 true else c6 (c5 (10000<c.eU))).bind λd=>bif d then c6 (c7 (dd ())) else c6 (dd (c3 c4 (a+1))) else c6 (c7 (c7 ()))
def KX(b:ak)(c:Int):Option (Int⊕(Int⊕Unit)):=bif c5 (c<(b.af.length:Int)) then(aj b.af c).bind λa=>(bif c5 (a.an<0) then c6 true else bif c5 ((b.ai.length:Int)<=a.an) then c6 true else bif c5 (a.To<0) then c6 true else bif c5 ((b.ai.length:Int)<=a.To) then c6 true else c6 (c5 (a.an=a.To))).bind λf=>bif f then c6 (c7 (dd 4)) else(bif c5 (a.aj3<1) then c6 true else bif c5 (100000<a.aj3) then c6 true else bif c5 (a.bT<1) then c6 true else bif c5 (1000<a.bT) then c6 true else(xG L a.anC 1 262144).bind λe=>bif (!e) then c6 true else(xG L a.eI (-2199023255552) 2199023255552).bind λg=>c6 (!g)).bind λd=>bif d then c6 (c7 (dd 1)) else c6 (dd (c3 c4 (c+1))) else c6 (c7 (c7 ()))
def EI(a:ak):Option Int:=(bif c5 (64<(a.ai.length:Int)) then c6 true else c6 (c5 (128<(a.af.length:Int)))).bind λd=>bif d then c6 2 else(L.loop (λb=>IS L a b) 0).bind λc=>dt (λi=>c6 1) (λh=>(L.loop (λb=>KX L a b) 0).bind λf=>dt (λe=>c6 e) (λg=>c6 0) f) c
def Da(L:Lp)(a:aZ)(b:Bool):Option (Int×Int):=bif b then c6 (a.To,a.an) else c6 (a.an,a.To)
def Gv(a:ak)(b:Int)(i:Bool)(p:Int)(k:Int)(h:Int):Option Int:=((EI L a).bind λn=>bif c5 (n≠0) then c6 true else bif c5 (b<0) then c6 true else bif c5 ((a.af.length:Int)<=b) then c6 true else(aj a.af b).bind λm=>bif m.eN then c6 true else(aj a.af b).bind λq=>c6 (!q.jy):Option Bool).bind λj=>bif j then c6 (-1) else(aj a.af b).bind λc=>(Da L c i).bind λe=>(aj a.ai e.2).bind λf=>(aj a.ai e.1).bind λd=>(bif c5 (c.aj3<(c3 c4 (10*(c3 c4 (f.eU -d.eU))))) then c6 p else c6 h).bind λl=>(bif c5 (c.aj3<(c3 c4 ((-10)*(c3 c4 (f.eU -d.eU))))) then c6 k else c6 l).bind λg=>(ph .i64 (c3 c4 ((c3 c4 ((c3 c4 (10*c.aj3))+g)) -1)) g).bind λo=>c6 o
def wm(a:ak)(c:Int)(d:Bool):Option Int:=(Gv L a c d 6 9 12).bind λb=>c6 b
def DG(L:Lp)(b:yc)(d:Int)(a:Int):Option (Int⊕(Unit⊕Unit)):=bif c5 (a<(b.length:Int)) then(aj b a).bind λc=>bif c5 (c=d) then c6 (c7 (dd ())) else c6 (dd (c3 c4 (a+1))) else c6 (c7 (c7 ()))
def xb(a:yc)(d:Int):Option Bool:=(L.loop (λc=>DG L a d c) 0).bind λb=>dt (λe=>c6 true) (λf=>c6 false) b
def Hh(b:ak)(e:yc)(c:yc)(a:Int):Option (((yc)×Int)⊕(yc)):=bif c5 (a<(b.af.length:Int)) then(aj b.af a).bind λd=>((wm L b a false).bind λm=>bif c5 (0<=m) then c6 true else(wm L b a true).bind λg=>c6 (c5 (0<=g)):Option Bool).bind λj=>(bif (!d.eN) then bif j then(xb L e d.an).bind λi=>(xb L e d.To).bind λl=>c6 (i != l) else c6 false else c6 false).bind λh=>(bif h then(bj 8 c ([a]:yc)).bind λk=>c6 k else c6 c).bind λf=>c6 (dd (f,c3 c4 (a+1))) else c6 (c7 c)
def Dt(c:ak)(d:yc):Option yc:=(L.loop (λa=>Hh L c d a.1 a.2) (([]:yc),0)).bind λb=>c6 b
def F8(o:(yc)×Int×ak)(a:bD)(h:List bP)(n:List aZ)(e:List aS)(j:List bI)(g:yc)(i:yc)(m:yc)(d:yc)(k:yc)(l:yc)(f:yc)(c:Int):Option (((yc)×Int×(List bP)×(List aZ)×(List aS)×(List bI)×(yc)×(yc)×(yc)×(yc)×(yc)×(yc)×(yc)×Int)⊕((yc)×Int×(List bP)×(List aZ)×(List aS)×(yc)×(yc)×(List bI)×(yc)×(yc)×(yc)×(yc)×(yc))):=bif c5 (0<c) then(eO L a (o.2.2.ai.length:Int)).bind λb=>(bj 8 l ([b.2.2]:yc)).bind λp=>(bj 8 f ([c3 c4 (30 - (c3 c4 (7*c)))]:yc)).bind λq=>c6 (dd (b.1,b.2.1,h,n,e,j,g,i,m,d,k,p,q,c3 c4 (c -1))) else c6 (c7 (a.L,a.At,h,n,e,l,f,j,g,i,m,d,k))
def zy(u:bD):Option ((yc)×Int×gM):=(zN L u).bind λd=>(BX L (bD.mk d.1 d.2.1) d.2.2).bind λo=>(eO L (bD.mk o.1 o.2.1) 3).bind λn=>(L.loop (λc=>F8 L d (bD.mk c.1 c.2.1) c.2.2.1 c.2.2.2.1 c.2.2.2.2.1 c.2.2.2.2.2.1 c.2.2.2.2.2.2.1 c.2.2.2.2.2.2.2.1 c.2.2.2.2.2.2.2.2.1 c.2.2.2.2.2.2.2.2.2.1 c.2.2.2.2.2.2.2.2.2.2.1 c.2.2.2.2.2.2.2.2.2.2.2.1 c.2.2.2.2.2.2.2.2.2.2.2.2.1 c.2.2.2.2.2.2.2.2.2.2.2.2.2) (n.1,n.2.1,d.2.2.ai,d.2.2.af,o.2.2,([]:List bI),([]:yc),([]:yc),([]:yc),([]:yc),([]:yc),([]:yc),([]:yc),c3 c4 (1+n.2.2))).bind λb=>(Cq L (bD.mk b.1 b.2.1) (ak.mk b.2.2.1 b.2.2.2.1)).bind λl=>(gQ L (bD.mk l.1 l.2.1) ([600,100,2000]:yc)).bind λj=>(mK L (bD.mk j.1 j.2.1) 3).bind λi=>(bif i.2.2 then(eO L (bD.mk i.1 i.2.1) (d.2.2.ai.length:Int)).bind λr=>c6 (r.1,r.2.1,b.2.2.1,b.2.2.2.1,b.2.2.2.2.1,b.2.2.2.2.2.1,b.2.2.2.2.2.2.1,l.2.2,([r.2.2]:yc),([]:yc),([]:yc),j.2.2,b.2.2.2.2.2.2.2.2.2.2.2.1,b.2.2.2.2.2.2.2.2.2.2.2.2) else c6 (i.1,i.2.1,b.2.2.1,b.2.2.2.1,b.2.2.2.2.1,b.2.2.2.2.2.1,b.2.2.2.2.2.2.1,l.2.2,([]:yc),([]:yc),([]:yc),j.2.2,b.2.2.2.2.2.2.2.2.2.2.2.1,b.2.2.2.2.2.2.2.2.2.2.2.2)).bind λa=>(gQ L (bD.mk a.1 a.2.1) ([299,4]:yc)).bind λk=>(gQ L (bD.mk k.1 k.2.1) ([99,1799]:yc)).bind λe=>(bif c5 (2<(d.2.2.ai.length:Int)) then(mK L (bD.mk e.1 e.2.1) 3).bind λm=>c6 (m.1,m.2.1,m.2.2) else c6 (e.1,e.2.1,false)).bind λf=>(bif f.2.2 then c6 (zl (gM.mk (ak.mk a.2.2.1 a.2.2.2.1) a.2.2.2.2.1 a.2.2.2.2.2.1 a.2.2.2.2.2.2.1 a.2.2.2.2.2.2.2.1 (bE.mk a.2.2.2.2.2.2.2.2.1 a.2.2.2.2.2.2.2.2.2.1 a.2.2.2.2.2.2.2.2.2.2.1 a.2.2.2.2.2.2.2.2.2.2.2.1) (cd.mk ([c3 c4 ((d.2.2.ai.length:Int) -2),c3 c4 ((d.2.2.ai.length:Int) -1)]:yc) (c3 c4 (1+k.2.2)) (c3 c4 (1+e.2.2))) a.2.2.2.2.2.2.2.2.2.2.2.2.2)) else c6 (zl (gM.mk (ak.mk a.2.2.1 a.2.2.2.1) a.2.2.2.2.1 a.2.2.2.2.2.1 a.2.2.2.2.2.2.1 a.2.2.2.2.2.2.2.1 (bE.mk a.2.2.2.2.2.2.2.2.1 a.2.2.2.2.2.2.2.2.2.1 a.2.2.2.2.2.2.2.2.2.2.1 a.2.2.2.2.2.2.2.2.2.2.2.1) (cd.mk ([c3 c4 ((d.2.2.ai.length:Int) -1)]:yc) (c3 c4 (1+k.2.2)) (c3 c4 (1+e.2.2))) a.2.2.2.2.2.2.2.2.2.2.2.2.2))).bind λt=>let g:=Nr t;(Dt L g.ao g.bM.bT).bind λs=>(bif c5 ((s.length:Int)=0) then c6 (f.1,f.2.1,true) else(mK L (bD.mk f.1 f.2.1) 8).bind λq=>c6 (q.1,q.2.1,q.2.2)).bind λh=>bif h.2.2 then(eO L (bD.mk h.1 h.2.1) (g.ao.af.length:Int)).bind λp=>c6 (p.1,p.2.1,({g with gZ:=([p.2.2]:yc)}:gM)) else c6 (h.1,h.2.1,({g with gZ:=s}:gM))
def Cw(a:gM):Option (aE×Bool):=(wX L a.ao a.aQ a.ai a.aw a.cI a.bR a.bM a.gZ).bind λb=>c6 (b.1,c5 (b.2=0))
def Di(z:bD)(f:Int)(t:Int)(A:Int)(v:Int)(x:Int):Option ((yc)×Int×bH):=(gQ L z ([1,1,2,2,3,4,3,4,5,6,7,8,9,10,11,12,13,7]:yc)).bind λa=>(bif c5 (a.2.2=1) then(gQ L (bD.mk a.1 a.2.1) ([1,5,10,30,100,0,300]:yc)).bind λn=>c6 (rB (bD.mk n.1 n.2.1) (bH.mk a.2.2 n.2.2 0 0)) else bif c5 (a.2.2=2) then(eO L (bD.mk a.1 a.2.1) f).bind λj=>(eO L (bD.mk j.1 j.2.1) t).bind λd=>(gQ L (bD.mk d.1 d.2.1) ([0,0,5,60]:yc)).bind λp=>c6 (rB (bD.mk p.1 p.2.1) (bH.mk a.2.2 j.2.2 d.2.2 p.2.2)) else bif c5 (a.2.2=3) then(eO L (bD.mk a.1 a.2.1) v).bind λh=>(gQ L (bD.mk h.1 h.2.1) ([0,0,1,2,3]:yc)).bind λr=>(gQ L (bD.mk r.1 r.2.1) ([0,0,1,(-1),3]:yc)).bind λo=>c6 (rB (bD.mk o.1 o.2.1) (bH.mk a.2.2 h.2.2 r.2.2 o.2.2)) else bif c5 (a.2.2=4) then(eO L (bD.mk a.1 a.2.1) v).bind λi=>c6 (rB (bD.mk i.1 i.2.1) (bH.mk a.2.2 i.2.2 0 0)) else bif c5 (a.2.2=5) then(eO L (bD.mk a.1 a.2.1) f).bind λk=>(eO L (bD.mk k.1 k.2.1) f).bind λe=>c6 (rB (bD.mk e.1 e.2.1) (bH.mk a.2.2 k.2.2 e.2.2 0)) else(bif c5 (a.2.2=6) then(eO L (bD.mk a.1 a.2.1) A).bind λl=>c6 (l.1,l.2.1,a.2.2,l.2.2,0) else bif c5 (a.2.2=7) then(eO L (bD.mk a.1 a.2.1) x).bind λm=>c6 (m.1,m.2.1,a.2.2,m.2.2,0) else(bif c5 (a.2.2=8) then c6 (c5 (a.2.2=8)) else c6 (c5 (a.2.2=9))).bind λB=>bif B then(eO L (bD.mk a.1 a.2.1) 2).bind λq=>c6 (q.1,q.2.1,a.2.2,c3 c4 (1+q.2.2),0) else bif c5 (a.2.2=10) then(eO L (bD.mk a.1 a.2.1) 4).bind λg=>(ph .i64 g.2.2 3).bind λy=>c6 (g.1,g.2.1,a.2.2,0,y) else(bif c5 (a.2.2=11) then c6 (c5 (a.2.2=11)) else c6 (c5 (a.2.2=12))).bind λw=>bif w then(eO L (bD.mk a.1 a.2.1) t).bind λc=>c6 (c.1,c.2.1,a.2.2,c.2.2,0) else c6 (a.1,a.2.1,a.2.2,0,0)).bind λb=>c6 (rB (bD.mk b.1 b.2.1) (bH.mk b.2.2.1 b.2.2.2.1 b.2.2.2.2 0))).bind λu=>let s:=aba u;let C:=age u;c6 (s.L,s.At,C)
def II(L:Lp)(c:aE)(b:List bH)(a:Int):Option (((List bH)×Int)⊕(List bH)):=bif c5 (a<(c.aa2.af.length:Int)) then(bj 32 b ([(bH.mk 7 a 0 0)]:List bH)).bind λd=>c6 (dd (d,c3 c4 (a+1))) else c6 (c7 b)
def T2(a:aE)(h:bD)(e:List bH)(l:Int):Option (((yc)×Int×(List bH)×Int)⊕((yc)×Int×(List bH))):=(bif c5 (0<l) then c6 (c5 ((e.length:Int)<60)) else c6 false).bind λn=>bif n then((mK L h 12).bind λc=>bif c.2.2 then(L.loop (λm=>II L a m.1 m.2) (e,0)).bind λp=>(bj 32 p ([(bH.mk 8 1 0 0),(bH.mk 1 3 0 0),(bH.mk 9 2 0 0),(bH.mk 10 0 0 0)]:List bH)).bind λq=>c6 (c.1,c.2.1,q) else((mK L (bD.mk c.1 c.2.1) 3).bind λb=>bif b.2.2 then c6 (b.1,b.2.1,c5 (0<(a.au.aQ.length:Int))) else c6 (b.1,b.2.1,false):Option ((yc)×Int×Bool)).bind λd=>bif d.2.2 then(eO L (bD.mk d.1 d.2.1) (a.au.aQ.length:Int)).bind λf=>(gQ L (bD.mk f.1 f.2.1) ([0,0,1]:yc)).bind λk=>(gQ L (bD.mk k.1 k.2.1) ([1,5,10,20]:yc)).bind λj=>(bj 32 e ([(bH.mk 3 f.2.2 k.2.2 0),(bH.mk 4 f.2.2 0 0),(bH.mk 1 j.2.2 0 0)]:List bH)).bind λr=>c6 (j.1,j.2.1,r) else(Di L (bD.mk d.1 d.2.1) (a.au.aN.length:Int) (a.ao.af.length:Int) (a.ao.ai.length:Int) (max 1 (a.au.aQ.length:Int)) (max 1 (a.aa2.af.length:Int))).bind λg=>(bj 32 e ([g.2.2]:List bH)).bind λo=>c6 (g.1,g.2.1,o):Option ((yc)×Int×(List bH))).bind λi=>c6 (dd (i.1,i.2.1,i.2.2,c3 c4 (l -1))) else c6 (c7 (h.L,h.At,e))
def EJ(e:bD)(f:aE)(d:Int):Option ((yc)×Int×(List bH)):=(eO L e d).bind λc=>(L.loop (λa=>T2 L f (bD.mk a.1 a.2.1) a.2.2.1 a.2.2.2) (c.1,c.2.1,([]:List bH),c3 c4 (5+c.2.2))).bind λb=>c6 (b.1,b.2.1,b.2.2)
def asb(L:Lp)(a:aL):Option Int:=bif c5 ((a.aA.length:Int)=0) then c6 0 else(aj a.aA 0).bind λb=>c6 (b.aH.length:Int)
def ar0(c:ay)(d:Int)(a:yc)(e:Int):Option Bool:=(Cx L c d a e).bind λb=>c6 (!b.1)
def asi(c:List ay)(e:Int)(a:yc)(f:Int)(d:Int):Option (Int⊕(Int⊕Unit)):=wi c (λb=>ar0 L b e a f) d
def asa(b:List ay)(f:Int)(a:yc)(g:Int):Option Int:=(L.loop (λd=>asi L b f a g d) 0).bind λe=>dt (λc=>c6 c) (λh=>c6 (-1)) e
def ar8(c:List ay)(d:Int)(a:yc)(e:Int):Option Bool:=(asa L c d a e).bind λb=>c6 (c5 (0<=b))
def ar6(c:Int)(d:List ay)(a:yc)(e:Int):Option Bool:=(ar8 L d c a e).bind λb=>c6 (!b)
def anX(d:Int)(h:List ay)(c:yc)(i:Int)(b:yc)(a:Int):Option (((yc)×Int)⊕(yc)):=bif c5 (a<d) then(ar6 L a h c i).bind λf=>(bif f then(bj 8 b ([a]:yc)).bind λe=>c6 e else c6 b).bind λg=>c6 (dd (g,c3 c4 (a+1))) else c6 (c7 b)
def arY(c:Int)(e:List ay)(b:yc)(f:Int):Option yc:=(L.loop (λa=>anX L c e b f a.1 a.2) (([]:yc),0)).bind λd=>c6 d
def ar4(a:aL)(e:yc)(b:Int):Option yc:=(asb L a).bind λc=>(arY L c a.aA e b).bind λd=>c6 d
def ar9(L:Lp)(d:aE)(b:List (yc))(a:Int):Option (((List (yc))×Int)⊕(List (yc))):=bif c5 (a<(d.ao.ai.length:Int)) then(bj 24 b ([([a]:yc)]:List (yc))).bind λc=>c6 (dd (c,c3 c4 (a+1))) else c6 (c7 b)
def ar5(d:aE)(f:List (yc))(c:Int)(g:yc)(b:Int)(a:Int):Option ((Int×Int)⊕(Unit⊕Int)):=bif c5 (a<(d.au.aN.length:Int)) then(aj f c).bind λ_=>(f[c.toNat]?).bind λk=>(aj d.au.aN a).bind λh=>(xb L k h.abG).bind λe=>(bif e then c6 (c3 c4 (b+1)) else c6 b).bind λj=>((xb L g a).bind λi=>bif i then c6 (!e) else c6 false:Option Bool).bind λl=>bif l then c6 (c7 (dd ())) else c6 (dd (j,c3 c4 (a+1))) else c6 (c7 (c7 b))
def arf(b:List (yc))(c:aE)(a:Int):Option (Int⊕(Unit⊕Unit)):=bif c5 (a<(b.length:Int)) then(aj b a).bind λ_=>(b[a.toNat]?).bind λj=>(ar4 L c.bw j c.au.aa0).bind λi=>(L.loop (λf=>ar5 L c b a i f.1 f.2) (0,0)).bind λk=>dt (λl=>c6 (c7 (dd ()))) (λd=>(aj b a).bind λ_=>(b[a.toNat]?).bind λg=>(Ew L c.bw g c.au.aa0).bind λe=>(bif c5 (d<e.eF) then c6 true else c6 (c5 (e.fk<d))).bind λh=>bif h then c6 (c7 (dd ())) else c6 (dd (c3 c4 (a+1)))) k else c6 (c7 (c7 ()))
def asg(f:yc):Option Bool:=(I1 L f).bind λg=>bif (!g) then(vn L).bind λk=>c6 k else(NC L f).bind λl=>(zy L (bD.mk l 0)).bind λe=>(Cw L e.2.2).bind λc=>bif (!c.2) then c6 false else(EJ L (bD.mk e.1 e.2.1) c.1 30).bind λd=>(Rs L c.1 d.2.2).bind λb=>(A9 L (bD.mk d.1 d.2.1) (b.ao.ai.length:Int)).bind λh=>(L.loop (λa=>ar9 L b a.1 a.2) (([h.2.2]:List (yc)),0)).bind λi=>(L.loop (λa=>arf L i b a) 0).bind λm=>dt (λo=>c6 false) (λn=>(vn L).bind λj=>c6 j) m
end Go.X.T
namespace Go.X.T
open Go Go.Aml Go.Bml Go.X Go.Proofs
def IQ:List (List (Nat×Ty)):=[
 [(3,⟨Int,(PV.int .i64)⟩),(4,⟨Bool,PV.bool⟩),(5,⟨Int,(PV.int .u8)⟩)],
 [(22,⟨List Int,(λa=>PV.vs 1 (dk (PV.int .i64) a))⟩),(27,⟨List bP,(λa=>PV.vs 2 (dk bP.enc a))⟩),(28,⟨List aZ,(λa=>PV.vs 10 (dk aZ.enc a))⟩),(30,⟨ak,ak.enc⟩),(31,⟨List bC,(λa=>PV.vs 3 (dk bC.enc a))⟩)],
 [(32,⟨List aS,(λa=>PV.vs 4 (dk aS.enc a))⟩),(33,⟨List (List Int),(λa=>PV.vs 1 (dk (λa=>PV.vs 1 (dk (PV.int .i64) a)) a))⟩),(35,⟨aB,aB.enc⟩),(36,⟨List bI,(λa=>PV.vs 2 (dk bI.enc a))⟩),(38,⟨bE,bE.enc⟩),(40,⟨cd,cd.enc⟩),(41,⟨List aT,(λa=>PV.vs 4 (dk aT.enc a))⟩),(43,⟨cZ,cZ.enc⟩),(44,⟨List ay,(λa=>PV.vs 2 (dk ay.enc a))⟩),(46,⟨aL,aL.enc⟩)],
 [(48,⟨bQ,bQ.enc⟩),(50,⟨bA,bA.enc⟩),(52,⟨b7,b7.enc⟩),(53,⟨List cy,(λa=>PV.vs 9 (dk cy.enc a))⟩),(54,⟨List dK,(λa=>PV.vs 7 (dk dK.enc a))⟩),(56,⟨aE,aE.enc⟩),(60,⟨gM,gM.enc⟩),(62,⟨List bH,(λa=>PV.vs 4 (dk bH.enc a))⟩)],
 [(65,⟨bH,bH.enc⟩),(67,⟨Int,(PV.int .i64)⟩),(75,⟨cy,cy.enc⟩)],
 [(83,⟨dK,dK.enc⟩),(88,⟨bC,bC.enc⟩),(90,⟨bI,bI.enc⟩),(95,⟨List Int,(λa=>PV.vs 1 (dk (PV.int .u8) a))⟩)],
 [(97,⟨fa,fa.enc⟩),(101,⟨aT,aT.enc⟩),(106,⟨qe,qe.enc⟩),(107,⟨List fa,(λa=>PV.vs 3 (dk fa.enc a))⟩)],
 [(115,⟨aZ,aZ.enc⟩),(117,⟨bP,bP.enc⟩),(120,⟨aS,aS.enc⟩)],
 [(134,⟨Option Nat,aob⟩),(138,⟨List aM,(λa=>PV.vs 2 (dk aM.enc a))⟩),(140,⟨ay,ay.enc⟩),(142,⟨aM,aM.enc⟩)],
 [(144,⟨ju,ju.enc⟩),(159,⟨List (Option Nat),(λa=>PV.vs 1 (dk aob a))⟩)],
 [(161,⟨Option Nat,aob⟩),(167,⟨List cS,(λa=>PV.vs 4 (dk cS.enc a))⟩),(168,⟨List Bool,(λa=>PV.vs 1 (dk PV.bool a))⟩),(170,⟨cm,cm.enc⟩),(174,⟨cS,cS.enc⟩)],
 [(179,⟨Int,(PV.int .u64)⟩),(181,⟨Int,(PV.int .u64)⟩)],
 [],
 [(222,⟨kD,kD.enc⟩)],
 [(230,⟨pL,pL.enc⟩)],
 [(247,⟨List dS,(λa=>PV.vs 4 (dk dS.enc a))⟩),(251,⟨dS,dS.enc⟩)],
 [],
 [(272,⟨List da,(λa=>PV.vs 2 (dk da.enc a))⟩),(275,⟨da,da.enc⟩),(283,⟨kC,kC.enc⟩)],
 [],
 [(309,⟨List dC,(λa=>PV.vs 4 (dk dC.enc a))⟩),(312,⟨dC,dC.enc⟩)],
 [(333,⟨jf,jf.enc⟩)]]
def Du(a:Nat):Ty:=Br (px IQ (a/16)) a
@[reducible] def DT (a:Nat):Type:=(Du a).T
def anu:List (List (Nat×xz)):=[
 [(3,⟨1,true,0⟩),(4,⟨1,true,0⟩),(5,⟨1,true,0⟩)],
 [(22,⟨1,false,3⟩),(27,⟨1,false,117⟩),(28,⟨1,false,115⟩),(30,⟨2,false,0⟩),(31,⟨1,false,88⟩)],
 [(32,⟨1,false,120⟩),(33,⟨1,false,22⟩),(35,⟨9,false,0⟩),(36,⟨1,false,90⟩),(38,⟨4,false,0⟩),(40,⟨3,false,0⟩),(41,⟨1,false,101⟩),(43,⟨2,false,0⟩),(44,⟨1,false,140⟩),(46,⟨1,false,0⟩)],
 [(48,⟨2,false,0⟩),(50,⟨3,false,0⟩),(52,⟨4,true,0⟩),(53,⟨1,false,75⟩),(54,⟨1,false,83⟩),(56,⟨36,false,0⟩),(60,⟨14,false,0⟩),(62,⟨1,false,65⟩)],
 [(65,⟨4,true,0⟩),(67,⟨1,true,0⟩),(75,⟨9,true,0⟩)],
 [(83,⟨7,false,0⟩),(88,⟨3,true,0⟩),(90,⟨2,true,0⟩),(95,⟨1,false,5⟩)],
 [(97,⟨3,false,0⟩),(101,⟨4,false,0⟩),(106,⟨2,false,0⟩),(107,⟨1,false,97⟩)],
 [(115,⟨10,true,0⟩),(117,⟨2,true,0⟩),(120,⟨4,false,0⟩)],
 [(134,⟨1,false,0⟩),(138,⟨1,false,142⟩),(140,⟨2,false,0⟩),(142,⟨2,false,0⟩)],
 [(144,⟨2,true,0⟩),(159,⟨1,false,161⟩)],
 [(161,⟨1,false,0⟩),(167,⟨1,false,174⟩),(168,⟨1,false,4⟩),(170,⟨4,false,0⟩),(174,⟨4,true,0⟩)],
 [(179,⟨1,true,0⟩),(181,⟨1,true,0⟩)],
 [],
 [(222,⟨3,true,0⟩)],
 [(230,⟨4,false,0⟩)],
 [(247,⟨1,false,251⟩),(251,⟨4,true,0⟩)],
 [],
 [(272,⟨1,false,275⟩),(275,⟨2,true,0⟩),(283,⟨2,true,0⟩)],
 [],
 [(309,⟨1,false,312⟩),(312,⟨4,true,0⟩)],
 [(333,⟨13,false,0⟩)]]
def KF(a:Nat):xz:=Eu (px anu (a/16)) a
def YH:List (List (Σ a,Ev DT a)):=[
 [⟨3,fA DT .i64 rfl⟩,⟨4,nE DT rfl⟩,⟨5,fA DT .u8 rfl⟩],
 [⟨22,bJ DT 3 rfl⟩,⟨27,bJ DT 117 rfl⟩,⟨28,bJ DT 115 rfl⟩,⟨31,bJ DT 88 rfl⟩],
 [⟨32,bJ DT 120 rfl⟩,⟨33,lx DT 22 3 rfl rfl⟩,⟨36,bJ DT 90 rfl⟩,⟨41,bJ DT 101 rfl⟩,⟨44,bJ DT 140 rfl⟩],
 [⟨53,bJ DT 75 rfl⟩,⟨54,bJ DT 83 rfl⟩,⟨62,bJ DT 65 rfl⟩],
 [⟨67,fA DT .i64 rfl⟩],
 [⟨95,bJ DT 5 rfl⟩],
 [⟨107,bJ DT 97 rfl⟩],
 [],
 [⟨134,iR DT rfl⟩,⟨138,bJ DT 142 rfl⟩],
 [⟨159,bJ DT 161 rfl⟩],
 [⟨161,iR DT rfl⟩,⟨167,bJ DT 174 rfl⟩,⟨168,bJ DT 4 rfl⟩],
 [⟨179,fA DT .u64 rfl⟩,⟨181,fA DT .u64 rfl⟩],
 [],
 [],
 [],
 [⟨247,bJ DT 251 rfl⟩],
 [],
 [⟨272,bJ DT 275 rfl⟩],
 [],
 [⟨309,bJ DT 312 rfl⟩],
 []]
def bh(a:Nat):Ev DT a:=Jq DT (px YH (a/16)) a
def aof:bi DT [27,28]->ak:=λ(a,b)=>(ak.mk a b)
def aop:ak->bi DT [27,28]:=λa=>(a.ai,a.af)
def aow:bi DT [27,28,3,31,22,32,22,22,33]->aB:=λ(e,b,a,d,h,f,g,c,i)=>(aB.mk (ak.mk e b) a d h f g c i)
def aoG:aB->bi DT [27,28,3,31,22,32,22,22,33]:=λa=>(a.ao.ai,a.ao.af,a.aa0,a.aN,a.aw,a.aQ,a.cn,a.cf,a.bp)
def aoM:bi DT [22,22,22,3]->bE:=λ(d,b,c,a)=>(bE.mk d b c a)
def ao3:bE->bi DT [22,22,22,3]:=λa=>(a.akL,a.dg,a.dG,a.er)
def apd:bi DT [22,3,3]->cd:=λ(c,b,a)=>(cd.mk c b a)
def ape:cd->bi DT [22,3,3]:=λa=>(a.bT,a.dZ,a.ed)
def apx:bi DT [22,22]->cZ:=λ(a,b)=>(cZ.mk a b)
def apI:cZ->bi DT [22,22]:=λa=>(a.dl,a.dr)
def apL:bi DT [44]->aL:=λa=>(aL.mk a)
def apQ:aL->bi DT [44]:=λa=>a.aA
def aqd:bi DT [3,22]->bQ:=λ(a,b)=>(bQ.mk a b)
def aqm:bQ->bi DT [3,22]:=λa=>(a.aa0,a.an)
def aqs:bi DT [22,22,4]->bA:=λ(c,b,a)=>(bA.mk c b a)
def aqz:bA->bi DT [22,22,4]:=λa=>(a.af,a.aa2,a.Out)
def aqB:bi DT [3,3,3,3]->b7:=λ(d,b,c,a)=>(b7.mk d b c a)
def aqN:b7->bi DT [3,3,3,3]:=λa=>(a.State,a.dD,a.akU,a.aa0)
def aqO:bi DT [27,28,3,31,22,32,22,22,33,27,28,36,22,22,22,3,22,3,3,41,41,22,22,44,3,22,22,22,4,3,3,3,3,44,53,54]->aE:=λ(A,b,F,o,B,f,g,y,i,d,t,k,H,u,I,p,q,r,h,D,n,v,j,s,E,z,a,x,w,G,C,c,l,e,m,J)=>(aE.mk (aB.mk (ak.mk A b) F o B f g y i) (ak.mk d t) k (bE.mk H u I p) (cd.mk q r h) D n (cZ.mk v j) (aL.mk s) (bQ.mk E z) (bA.mk a x w) (b7.mk G C c l) (aL.mk e) m J)
def aqP:aE->bi DT [27,28,3,31,22,32,22,22,33,27,28,36,22,22,22,3,22,3,3,41,41,22,22,44,3,22,22,22,4,3,3,3,3,44,53,54]:=λa=>(a.au.ao.ai,a.au.ao.af,a.au.aa0,a.au.aN,a.au.aw,a.au.aQ,a.au.cn,a.au.cf,a.au.bp,a.ao.ai,a.ao.af,a.cI,a.bR.akL,a.bR.dg,a.bR.dG,a.bR.er,a.bM.bT,a.bM.dZ,a.bM.ed,a.cq,a.bZ,a.cW.dl,a.cW.dr,a.bw.aA,a.bz.aa0,a.bz.an,a.aa2.af,a.aa2.aa2,a.aa2.Out,a.cL.State,a.cL.dD,a.cL.akU,a.cL.aa0,a.bq.aA,a.bS,a.bB)
def aqR:bi DT [27,28,32,22,22,36,22,22,22,3,22,3,3,22]->gM:=λ(e,b,a,d,j,f,g,c,i,h,k,m,l,n)=>(gM.mk (ak.mk e b) a d j f (bE.mk g c i h) (cd.mk k m l) n)
def aqS:gM->bi DT [27,28,32,22,22,36,22,22,22,3,22,3,3,22]:=λa=>(a.ao.ai,a.ao.af,a.aQ,a.ai,a.aw,a.cI,a.bR.akL,a.bR.dg,a.bR.dG,a.bR.er,a.bM.bT,a.bM.dZ,a.bM.ed,a.gZ)
def aqU:bi DT [3,3,3,3]->bH:=λ(d,b,c,a)=>(bH.mk d b c a)
def aqV:bH->bi DT [3,3,3,3]:=λa=>(a.abv,a.A,a.B,a.C)
def aqW:bi DT [3,3,3,3,3,4,4,3,3]->cy:=λ(e,b,a,d,h,f,g,c,i)=>(cy.mk e b a d h f g c i)
def aqX:cy->bi DT [3,3,3,3,3,4,4,3,3]:=λa=>(a.abv,a.eB,a.anS,a.ku,a.l9,a.sd,a.uV,a.mZ,a.pB)
def aqY:bi DT [3,3,3,3,3,67,22]->dK:=λ(d,b,c,a,e,f,g)=>(dK.mk (bH.mk d b c a) e f g)
def aq0:dK->bi DT [3,3,3,3,3,67,22]:=λa=>(a.Event.abv,a.Event.A,a.Event.B,a.Event.C,a.aa0,a.Code,a.ll)
def aq1:bi DT [3,3,3]->bC:=λ(c,b,a)=>(bC.mk c b a)
def aq2:bC->bi DT [3,3,3]:=λa=>(a.abG,a.akw,a.ami)
def aq3:bi DT [3,3]->bI:=λ(a,b)=>(bI.mk a b)
def aq7:bI->bi DT [3,3]:=λa=>(a.eF,a.fk)
def aq8:bi DT [3,3,95]->fa:=λ(c,b,a)=>(fa.mk c b a)
def aq9:fa->bi DT [3,3,95]:=λa=>(a.kO,a.abv,a.Data)
def arb:bi DT [3,3,3,22]->aT:=λ(d,b,c,a)=>(aT.mk d b c a)
def ard:aT->bi DT [3,3,3,22]:=λa=>(a.agX,a.aj6,a.aa0,a.aw)
def are:bi DT [95,3]->qe:=λ(a,b)=>(qe.mk a b)
def arh:qe->bi DT [95,3]:=λa=>(a.Ho,a.Hp)
def ari:bi DT [3,3,3,3,4,4,3,3,3,3]->aZ:=λ(e,b,a,d,j,f,g,c,i,h)=>(aZ.mk e b a d j f (bI.mk g c) (bI.mk i h))
def arj:aZ->bi DT [3,3,3,3,4,4,3,3,3,3]:=λa=>(a.an,a.To,a.aj3,a.bT,a.jy,a.eN,a.anC.eF,a.anC.fk,a.eI.eF,a.eI.fk)
def ark:bi DT [3,4]->bP:=λ(a,b)=>(bP.mk a b)
def arl:bP->bi DT [3,4]:=λa=>(a.eU,a.wj)
def arn:bi DT [22,3,3,3]->aS:=λ(d,b,c,a)=>(aS.mk d b c a)
def aro:aS->bi DT [22,3,3,3]:=λa=>(a.ai,a.dX,a.dY,a.cR)
def arq:bi DT [22,138]->ay:=λ(a,b)=>(ay.mk a b)
def art:ay->bi DT [22,138]:=λa=>(a.aw,a.aH)
def aru:bi DT [3,22]->aM:=λ(a,b)=>(aM.mk a b)
def arv:aM->bi DT [3,22]:=λa=>(a.aa0,a.an)
def arw:bi DT [3,3]->ju:=λ(a,b)=>(ju.mk a b)
def arx:ju->bi DT [3,3]:=λa=>(a.a0,a.a1)
def ary:bi DT [3,167,168,168]->cm:=λ(d,b,c,a)=>(cm.mk d b c a)
def arA:cm->bi DT [3,167,168,168]:=λa=>(a.n,a.steps,a.safe,a.bad)
def arD:bi DT [3,3,3,3]->cS:=λ(d,b,c,a)=>(cS.mk d b c a)
def arF:cS->bi DT [3,3,3,3]:=λa=>(a.gX,a.from_,a.b9,a.time)
def arG:bi DT [3,3,3]->kD:=λ(c,b,a)=>(kD.mk c b a)
def arH:kD->bi DT [3,3,3]:=λa=>(a.up,a.down,a.level)
def arI:bi DT [27,28,36,22]->pL:=λ(d,b,c,a)=>(pL.mk (ak.mk d b) c a)
def arL:pL->bi DT [27,28,36,22]:=λa=>(a.m.ai,a.m.af,a.KE,a.from_)
def arN:bi DT [3,3,3,3]->dS:=λ(d,b,c,a)=>(dS.mk d b c a)
def arO:dS->bi DT [3,3,3,3]:=λa=>(a.agX,a.Tag,a.an,a.To)
def arP:bi DT [3,3]->da:=λ(a,b)=>(da.mk a b)
def arQ:da->bi DT [3,3]:=λa=>(a.time,a.roads)
def arR:bi DT [3,3]->kC:=λ(a,b)=>(kC.mk a b)
def arS:kC->bi DT [3,3]:=λa=>(a.kind,a.Dn)
def arT:bi DT [3,3,3,3]->dC:=λ(d,b,c,a)=>(dC.mk d b c a)
def arV:dC->bi DT [3,3,3,3]:=λa=>(a.agX,a.Tag,a.an,a.To)
def arW:bi DT [22,3,3,3,3,3,3,22,22,4,44,3,3]->jf:=λ(e,b,a,d,j,f,g,c,i,h,k,m,l)=>(jf.mk (cd.mk e b a) (b7.mk d j f g) (bA.mk c i h) (aL.mk k) m l)
def arX:jf->bi DT [22,3,3,3,3,3,3,22,22,4,44,3,3]:=λa=>(a.x.bT,a.x.dZ,a.x.ed,a.s.State,a.s.dD,a.s.akU,a.s.aa0,a.k.af,a.k.aa2,a.k.Out,a.b.aA,a.t,a.from_)
def Yv:List (List (Σ a,Ev DT a)):=[
 [⟨3,fA DT .i64 rfl⟩,
  ⟨4,nE DT rfl⟩,
  ⟨5,fA DT .u8 rfl⟩],
 [⟨22,bJ DT 3 rfl⟩,
  ⟨27,bJ DT 117 rfl⟩,
  ⟨28,bJ DT 115 rfl⟩,
  ⟨30,cw DT bh [27,28] aof aop rfl⟩,
  ⟨31,bJ DT 88 rfl⟩],
 [⟨32,bJ DT 120 rfl⟩,
  ⟨33,lx DT 22 3 rfl rfl⟩,
  ⟨35,cw DT bh [27,28,3,31,22,32,22,22,33] aow aoG rfl⟩,
  ⟨36,bJ DT 90 rfl⟩,
  ⟨38,cw DT bh [22,22,22,3] aoM ao3 rfl⟩,
  ⟨40,cw DT bh [22,3,3] apd ape rfl⟩,
  ⟨41,bJ DT 101 rfl⟩,
  ⟨43,cw DT bh [22,22] apx apI rfl⟩,
  ⟨44,bJ DT 140 rfl⟩,
  ⟨46,cw DT bh [44] apL apQ rfl⟩],
 [⟨48,cw DT bh [3,22] aqd aqm rfl⟩,
  ⟨50,cw DT bh [22,22,4] aqs aqz rfl⟩,
  ⟨52,cw DT bh [3,3,3,3] aqB aqN rfl⟩,
  ⟨53,bJ DT 75 rfl⟩,
  ⟨54,bJ DT 83 rfl⟩,
  ⟨56,cw DT bh [27,28,3,31,22,32,22,22,33,27,28,36,22,22,22,3,22,3,3,41,41,22,22,44,3,22,22,22,4,3,3,3,3,44,53,54] aqO aqP rfl⟩,
  ⟨60,cw DT bh [27,28,32,22,22,36,22,22,22,3,22,3,3,22] aqR aqS rfl⟩,
  ⟨62,bJ DT 65 rfl⟩],
 [⟨65,cw DT bh [3,3,3,3] aqU aqV rfl⟩,
  ⟨67,fA DT .i64 rfl⟩,
  ⟨75,cw DT bh [3,3,3,3,3,4,4,3,3] aqW aqX rfl⟩],
 [⟨83,cw DT bh [3,3,3,3,3,67,22] aqY aq0 rfl⟩,
  ⟨88,cw DT bh [3,3,3] aq1 aq2 rfl⟩,
  ⟨90,cw DT bh [3,3] aq3 aq7 rfl⟩,
  ⟨95,bJ DT 5 rfl⟩],
 [⟨97,cw DT bh [3,3,95] aq8 aq9 rfl⟩,
  ⟨101,cw DT bh [3,3,3,22] arb ard rfl⟩,
  ⟨106,cw DT bh [95,3] are arh rfl⟩,
  ⟨107,bJ DT 97 rfl⟩],
 [⟨115,cw DT bh [3,3,3,3,4,4,3,3,3,3] ari arj rfl⟩,
  ⟨117,cw DT bh [3,4] ark arl rfl⟩,
  ⟨120,cw DT bh [22,3,3,3] arn aro rfl⟩],
 [⟨134,iR DT rfl⟩,
  ⟨138,bJ DT 142 rfl⟩,
  ⟨140,cw DT bh [22,138] arq art rfl⟩,
  ⟨142,cw DT bh [3,22] aru arv rfl⟩],
 [⟨144,cw DT bh [3,3] arw arx rfl⟩,
  ⟨159,bJ DT 161 rfl⟩],
 [⟨161,iR DT rfl⟩,
  ⟨167,bJ DT 174 rfl⟩,
  ⟨168,bJ DT 4 rfl⟩,
  ⟨170,cw DT bh [3,167,168,168] ary arA rfl⟩,
  ⟨174,cw DT bh [3,3,3,3] arD arF rfl⟩],
 [⟨179,fA DT .u64 rfl⟩,
  ⟨181,fA DT .u64 rfl⟩],
 [],
 [⟨222,cw DT bh [3,3,3] arG arH rfl⟩],
 [⟨230,cw DT bh [27,28,36,22] arI arL rfl⟩],
 [⟨247,bJ DT 251 rfl⟩,
  ⟨251,cw DT bh [3,3,3,3] arN arO rfl⟩],
 [],
 [⟨272,bJ DT 275 rfl⟩,
  ⟨275,cw DT bh [3,3] arP arQ rfl⟩,
  ⟨283,cw DT bh [3,3] arR arS rfl⟩],
 [],
 [⟨309,bJ DT 312 rfl⟩,
  ⟨312,cw DT bh [3,3,3,3] arT arV rfl⟩],
 [⟨333,cw DT bh [22,3,3,3,3,3,3,22,22,4,44,3,3] arW arX rfl⟩]]
def bf(a:Nat):Ev DT a:=Jq DT (px Yv (a/16)) a
def BT:Tb:=⟨Du,λa=>(bf a).tv,λa=>(bf a).up,λa=>(KF a).sz,λa=>(KF a).fl,λa=>(KF a).el⟩
def eX:Nat->List Nat->List (Nat×CP)
 |_,[]=>[]
 |i,b::a=>(i,.v b)::eX (i+1) a
def cV(f:Nat)(a b:List Nat)(c:bi BT.D (bY.bX ⟨[],eX 0 a⟩)->Option (bi BT.D (bY.bX ⟨[],eX 0 b⟩))):aq BT:=⟨f,len a,0,⟨[],eX 0 a⟩,⟨[],eX 0 b⟩,c⟩
def alh:List Nat->List CP
 |[]=>[]
 |b::a=>.v b::alh a
def abx:List CP->List (Nat×CP)->List CP
 |a,[]=>a
 |a,(i,c)::b=>abx (me a i c) b
def adU:List CP:=alh [27,28,3,31,22,32,22,22,33,27,28,36,22,22,22,3,22,3,3,41,41,22,22,44,3,22,22,22,4,3,3,3,3,44,53,54,22]
def amj:List CP:=alh [27,28,3,31,22,32,22,22,33]
def amv:List CP:=alh [27,28,3,31,22,32,22,22,33,27,28,36,22,22,22,3,22,3,3,41,41,22,22,44,3,22,22,22,4,3,3,3,3,44,53,54]
end Go.X.T
namespace Go.X.T
open Go Go.Aml Go.Bml Go.X Go.Proofs
variable (L:Lp)
def C0:aq BT:=cV 8 [22] [4] λa=>I1 L a
def C1:aq BT:=cV 223 [90,3,3] [4] λa=>yQ L a.1 a.2.1 a.2.2
def C2:aq BT:=cV 156 [30] [67] λa=>zG L a
def C3:aq BT:=cV 93 [30] [4] λa=>ij L a
def C4:aq BT:=cV 135 [22,3,3] [4] λa=>iU L a.1 a.2.1 a.2.2
def C5:aq BT:=cV 51 [3,3,3] [4] λa=>cp L a.1 a.2.1 a.2.2
def C6:aq BT:=⟨207,2,0,⟨[],[(0,.v 120),(1,.q [.v 27,.v 28])]⟩,⟨[],[(0,.v 4)]⟩,λa=>wN L a.1 (ak.mk a.2.1 a.2.2)⟩
def C7:aq BT:=⟨267,2,0,⟨[],[(0,.v 32),(1,.f 207 [] [.q [.v 27,.v 28]])]⟩,⟨[],[(0,.v 3)]⟩,λa=>Fh L a.1 (ak.mk a.2.1 a.2.2)⟩
def C8:aq BT:=⟨208,2,0,⟨[],[(0,.v 32),(1,.f 207 [] [.q [.v 27,.v 28]])]⟩,⟨[],[(0,.v 4)]⟩,λa=>El L a.1 (ak.mk a.2.1 a.2.2)⟩
def C9:aq BT:=cV 140 [30,32] [4] λa=>wI L a.1 a.2
def C10:aq BT:=⟨141,2,0,⟨[],[(0,.v 3),(1,.q [.v 27,.v 28])]⟩,⟨[],[(0,.v 4)]⟩,λa=>Ci L a.1 (ak.mk a.2.1 a.2.2)⟩
def Ye:aq BT:=⟨147,2,0,⟨[],[(0,.v 22),(1,.f 141 [] [.q [.v 27,.v 28]])]⟩,⟨[],[(0,.v 3)]⟩,λa=>KC L a.1 (ak.mk a.2.1 a.2.2)⟩
def C12:aq BT:=⟨86,2,0,⟨[],[(0,.v 22),(1,.f 141 [] [.q [.v 27,.v 28]])]⟩,⟨[],[(0,.v 4)]⟩,λa=>Cg L a.1 (ak.mk a.2.1 a.2.2)⟩
def C13:aq BT:=⟨210,1,0,⟨[],[(0,.v 22)]⟩,⟨[(0,[0],.box 22 [.v 22])],[(0,.f 269 [] [.p 0])]⟩,λa=>qK L a⟩
def AW:aq BT:=⟨225,1,1,⟨[(0,[],.aap 3 22)],[(0,.r 0)]⟩,⟨[(100000,[],.aap 3 22)],[]⟩,λa=>rl L a⟩
def C15:aq BT:=⟨308,2,0,⟨[],[(0,.ns),(1,.f 269 [] [.q [.v 22]])]⟩,⟨[(0,[],.aap 3 22)],[(0,.r 0)]⟩,λa=>IA L a⟩
def C16:aq BT:=⟨268,1,0,⟨[],[(0,.f 269 [] [.q [.v 22]])]⟩,⟨[(0,[],.aap 3 22)],[(0,.r 0)]⟩,λa=>Kx L a⟩
def C17:aq BT:=⟨209,1,0,⟨[],[(0,.f 269 [] [.q [.v 22]])]⟩,⟨[(0,[],.aap 3 22)],[(0,.r 0)]⟩,λa=>rG L a⟩
def C18:aq BT:=cV 142 [22] [4] λa=>ym L a
def RL:aq BT:=cV 96 [27] [27] λa=>kF L a
def Mq:aq BT:=cV 97 [28] [28] λa=>kQ L a
def Pv:aq BT:=cV 211 [31] [31] λa=>rf L a
def PI:aq BT:=cV 99 [22] [22] λa=>cc L a
def C23:aq BT:=cV 143 [35] [35] λa=>yS L a
def Xu:aq BT:=cV 83 [30,32,22,22,3] [35,67] λa=>Ef L a.1 a.2.1 a.2.2.1 a.2.2.2.1 a.2.2.2.2
def C25:aq BT:=cV 213 [90] [4] λa=>EP L a
def C26:aq BT:=⟨270,2,0,⟨[],[(0,.v 36),(1,.f 213 [] [])]⟩,⟨[],[(0,.v 3)]⟩,λa=>Kq L a⟩
def C27:aq BT:=⟨212,2,0,⟨[],[(0,.v 36),(1,.f 213 [] [])]⟩,⟨[],[(0,.v 4)]⟩,λa=>B8 L a⟩
def C28:aq BT:=cV 144 [30,36] [4] λa=>pD L a.1 a.2
def Wx:aq BT:=cV 272 [179,179] [179,179] λa=>vk L a.1 a.2
def C30:aq BT:=cV 214 [181,181] [181,181] λa=>DJ L a.1 a.2
def C31:aq BT:=cV 145 [22,3] [22] λa=>EC L a.1 a.2
def ZB:aq BT:=⟨145,2,0,⟨[],[(0,.v 22),(1,.v 3)]⟩,⟨[(0,[],.aap 3 22)],[(0,.r 0)]⟩,λa=>sJ L a.1 a.2⟩
def C33:aq BT:=cV 242 [30,3,90,4] [3] λa=>n6 L a.1 a.2.1 a.2.2.1 a.2.2.2
def C34:aq BT:=⟨215,5,1,⟨[(0,[3],.aap 3 22)],[(0,.g [.v 27,.v 28,.v 36,.r 0]),(1,.v 3),(2,.v 3),(3,.v 3),(4,.v 4)]⟩,⟨[(100000,[],.aap 3 22)],[(0,.v 4)]⟩,λa=>yr L a.1 a.2.1 a.2.2.1 a.2.2.2.1 a.2.2.2.2.1 a.2.2.2.2.2.1 a.2.2.2.2.2.2.1 a.2.2.2.2.2.2.2⟩
def C35:aq BT:=⟨146,1,1,⟨[(0,[3],.aap 3 22)],[(0,.g [.v 27,.v 28,.v 36,.r 0])]⟩,⟨[(100000,[],.aap 3 22)],[]⟩,λa=>rM L a.1 a.2.1 a.2.2.1 a.2.2.2⟩
def C36:aq BT:=cV 84 [30,36,22,3] [48,67] λa=>Eh L a.1 a.2.1 a.2.2.1 a.2.2.2
def C37:aq BT:=cV 70 [30,38] [4] λa=>rP L a.1 a.2
def C38:aq BT:=cV 85 [40,52] [4] λa=>oT L a.1 a.2
def C39:aq BT:=⟨87,2,0,⟨[],[(0,.v 3),(1,.q [.v 27,.v 28])]⟩,⟨[],[(0,.v 4)]⟩,λa=>zm L a.1 (ak.mk a.2.1 a.2.2)⟩
def C40:aq BT:=⟨147,2,0,⟨[],[(0,.v 22),(1,.f 87 [] [.q [.v 27,.v 28]])]⟩,⟨[],[(0,.v 3)]⟩,λa=>Ak L a.1 (ak.mk a.2.1 a.2.2)⟩
def C41:aq BT:=⟨86,2,0,⟨[],[(0,.v 22),(1,.f 87 [] [.q [.v 27,.v 28]])]⟩,⟨[],[(0,.v 4)]⟩,λa=>zi L a.1 (ak.mk a.2.1 a.2.2)⟩
def C42:aq BT:=cV 148 [22] [4] λa=>xa L a
def Vx:aq BT:=cV 88 [22] [50,67] λa=>AQ L a
def C44:aq BT:=cV 149 [22] [4] λa=>AI L a
def C45:aq BT:=⟨216,1,0,⟨[],[(0,.v 30)]⟩,⟨[(0,[],.aap 3 22)],[(0,.r 0)]⟩,λa=>yF L a⟩
def YG:aq BT:=cV 330 [] [222] λa=>G5 L
def C47:aq BT:=cV 137 [30,3,4,222] [3] λa=>xu L a.1 a.2.1 a.2.2.1 a.2.2.2
def Ux:aq BT:=cV 309 [30,3,4] [3] λa=>FX L a.1 a.2.1 a.2.2
def C49:aq BT:=cV 276 [30,3,4] [3] λa=>rO L a.1 a.2.1 a.2.2
def C50:aq BT:=⟨218,1,0,⟨[],[(0,.v 3)]⟩,⟨[],[(0,.b true)]⟩,λa=>KJ L a⟩
def Xk:aq BT:=⟨274,7,3,⟨[(4,[0],.aap 3 22),(4,[],.box 22 [.r 0]),(6,[],.box 4 [.v 4])],[(0,.v 3),(1,.v 3),(2,.v 3),(3,.q [.v 3]),(4,.p 1),(5,.q [.f 218 [] []]),(6,.p 2)]⟩,⟨[(100000,[],.aap 3 22),(100001,[],.box 22 [.r 0]),(100002,[],.box 4 [.v 4])],[]⟩,λa=>CB L a.1 a.2.1 a.2.2.1 a.2.2.2.1 a.2.2.2.2.1 a.2.2.2.2.2⟩
def OB:aq BT:=⟨99,1,0,⟨[],[(0,.v 22)]⟩,⟨[(0,[],.aap 3 22)],[(0,.r 0)]⟩,λa=>cc L a⟩
def C53:aq BT:=⟨273,3,3,⟨[(2,[1,0],.aap 3 22),(2,[1],.box 22 [.r 0]),(2,[3],.box 4 [.v 4])],[(0,.v 30),(1,.r 0),(2,.f 274 [] [.q [.v 3],.p 1,.q [.f 218 [] []],.p 2])]⟩,⟨[(100000,[],.aap 3 22),(100001,[],.box 22 [.r 0]),(100002,[],.box 4 [.v 4])],[]⟩,λa=>yf L a.1 a.2.1 a.2.2.1 a.2.2.2⟩
def Up:aq BT:=⟨217,4,0,⟨[],[(0,.v 30),(1,.v 22),(2,.v 3),(3,.f 218 [] [])]⟩,⟨[],[(0,.v 22)]⟩,λa=>ze L a.1 a.2.1 a.2.2⟩
def C55:aq BT:=⟨217,4,0,⟨[],[(0,.v 30),(1,.v 22),(2,.v 3),(3,.f 218 [] [])]⟩,⟨[(0,[],.aap 3 22)],[(0,.r 0)]⟩,λa=>sI L a.1 a.2.1 a.2.2⟩
def C56:aq BT:=cV 150 [30,3,3] [142,67] λa=>Cr L a.1 a.2.1 a.2.2
def C57:aq BT:=cV 89 [30,22,22,3] [46,67] λa=>Bk L a.1 a.2.1 a.2.2.1 a.2.2.2
def C58:aq BT:=cV 90 [] [43] λa=>DL L
def P59:bY:=⟨[],[(0,.v 3),(1,.q amj),(2,.q [.v 3])]⟩
def C59:aq BT:=⟨152,3,0,P59,⟨[],[(0,.v 4)]⟩,λa=>Ao L (agv a) (alg a) (aqn a)⟩
end Go.X.T
namespace Go.X.T
open Go Go.Aml Go.Bml Go.X Go.Proofs
variable (L:Lp)
def P60:bY:=⟨[],[(0,.v 22),(1,.f 152 [] [.q amj,.q [.v 3]])]⟩
def C60:aq BT:=⟨147,2,0,P60,⟨[],[(0,.v 3)]⟩,λa=>Iq L (Lm a) (Nn a) (Mw a)⟩
def VP:bY:=⟨[],[(0,.v 22),(1,.f 152 [] [.q amj,.q [.v 3]])]⟩
def C61:aq BT:=⟨86,2,0,VP,⟨[],[(0,.v 4)]⟩,λa=>BW L (Lm a) (Nn a) (Mw a)⟩
def C62:aq BT:=cV 222 [30,3,3] [3] λa=>yM L a.1 a.2.1 a.2.2
def X9:aq BT:=cV 155 [30,88] [4] λa=>BS L a.1 a.2
def P64:bY:=⟨[],[(0,.v 88),(1,.q amj)]⟩
def C64:aq BT:=⟨154,2,0,P64,⟨[],[(0,.v 4)]⟩,λa=>DB L (af1 a) (ak0 a)⟩
def P65:bY:=⟨[],[(0,.v 31),(1,.f 154 [] [.q amj])]⟩
def C65:aq BT:=⟨221,2,0,P65,⟨[],[(0,.v 3)]⟩,λa=>Gd L (Mf a) (T7 a)⟩
def P66:bY:=⟨[],[(0,.v 31),(1,.f 154 [] [.q amj])]⟩
def C66:aq BT:=⟨153,2,0,P66,⟨[],[(0,.v 4)]⟩,λa=>zH L (Mf a) (T7 a)⟩
def Kf:aq BT:=cV 92 [35] [4] λa=>pV L a
def Xw:aq BT:=cV 159 [30,3,3] [3] λa=>CX L a.1 a.2.1 a.2.2
def C69:aq BT:=⟨211,1,0,⟨[],[(0,.v 31)]⟩,⟨[(0,[],.aap 88 31)],[(0,.r 0)]⟩,λa=>rf L a⟩
def Q70:bY:=⟨[(0,[3],.aap 88 31)],[(0,.g (abx amj [(3,.r 0)]))]⟩
def C70:aq BT:=⟨143,1,0,⟨[],[(0,.v 35)]⟩,Q70,λa=>yC L a⟩
def C71:aq BT:=cV 95 [35,3] [35,67] λa=>qp L a.1 a.2
def C72:aq BT:=cV 98 [36] [36] λa=>q9 L a
def C73:aq BT:=cV 100 [41] [41] λa=>ry L a
def Xj:aq BT:=cV 160 [140] [140] λa=>oM L a
def C75:aq BT:=cV 101 [46] [46] λa=>pf L a
def C76:aq BT:=cV 102 [53] [53] λa=>pI L a
def C77:aq BT:=cV 44 [56] [56] λa=>wc L a
def C78:aq BT:=cV 36 [30,32,22,22,36,38,40,22] [56,67] λa=>wX L a.1 a.2.1 a.2.2.1 a.2.2.2.1 a.2.2.2.2.1 a.2.2.2.2.2.1 a.2.2.2.2.2.2.1 a.2.2.2.2.2.2.2
def C79:aq BT:=cV 157 [3] [4] λa=>zz L a
def C80:aq BT:=⟨147,2,0,⟨[],[(0,.v 22),(1,.f 157 [] [])]⟩,⟨[],[(0,.v 3)]⟩,λa=>F6 L a⟩
def C81:aq BT:=⟨86,2,0,⟨[],[(0,.v 22),(1,.f 157 [] [])]⟩,⟨[],[(0,.v 4)]⟩,λa=>zw L a⟩
def C82:aq BT:=cV 224 [3] [4] λa=>CE L a
def Z5:aq BT:=⟨147,2,0,⟨[],[(0,.v 22),(1,.f 224 [] [])]⟩,⟨[],[(0,.v 3)]⟩,λa=>JN L a⟩
def C84:aq BT:=⟨86,2,0,⟨[],[(0,.v 22),(1,.f 224 [] [])]⟩,⟨[],[(0,.v 4)]⟩,λa=>IU L a⟩
def Wg:aq BT:=cV 158 [50] [4] λa=>yh L a
def C86:aq BT:=cV 94 [50] [4] λa=>oL L a
def C87:aq BT:=cV 43 [56] [4] λa=>zj L a
def FZ:aq BT:=cV 45 [3] [134] λa=>Ml L a
def C89:aq BT:=cV 161 [50] [22] λa=>yA L a
def C90:aq BT:=cV 136 [22,3] [3] λa=>to L a.1 a.2
def Fz:aq BT:=cV 76 [22,3] [4] λa=>im L a.1 a.2
def lT:aq BT:=cV 226 [35,22] [67] λa=>wv L a.1 a.2
def C93:aq BT:=cV 162 [35,3,3,3] [35,67] λa=>B1 L a.1 a.2.1 a.2.2.1 a.2.2.2
def nD:aq BT:=cV 163 [35,3,3,3] [35,101,67] λa=>jO L a.1 a.2.1 a.2.2.1 a.2.2.2
def C95:aq BT:=⟨100,1,0,⟨[],[(0,.v 41)]⟩,⟨[(0,[],.aap 101 41)],[(0,.r 0)]⟩,λa=>zp L a⟩
def JX:aq BT:=cV 78 [101] [4] λa=>lQ L a
def C97:aq BT:=⟨79,3,0,⟨[(0,[],.aap 5 95)],[(0,.r 0),(1,.v 179),(2,.v 3)]⟩,⟨[(0,[],.aap 5 95)],[(0,.r 0)]⟩,λa=>py L a.1 a.2.1 a.2.2⟩
def C98:aq BT:=cV 30 [101] [97,67] λa=>Ex L a
def Ks:aq BT:=cV 81 [95] [179] λa=>jQ L a
def H7:aq BT:=⟨82,2,0,⟨[],[(0,.v 95),(1,.v 3)]⟩,⟨[(0,[0],.box 95 [.v 95]),(0,[1],.box 3 [.v 3])],[(0,.f 139 [] [.p 0,.p 1])]⟩,λa=>vE L a.1 a.2⟩
def kq:aq BT:=cV 34 [97] [101,67] λa=>zD L a
def Xc:aq BT:=cV 279 [3] [4] λa=>Ap L a
def adu:aq BT:=⟨147,2,0,⟨[],[(0,.v 22),(1,.f 279 [] [])]⟩,⟨[],[(0,.v 3)]⟩,λa=>GR L a⟩
def ai3:aq BT:=⟨86,2,0,⟨[],[(0,.v 22),(1,.f 279 [] [])]⟩,⟨[],[(0,.v 4)]⟩,λa=>Am L a⟩
def Z9:aq BT:=cV 280 [3] [4] λa=>Dd L a
def afS:aq BT:=⟨147,2,0,⟨[],[(0,.v 22),(1,.f 280 [] [])]⟩,⟨[],[(0,.v 3)]⟩,λa=>JV L a⟩
def aln:aq BT:=⟨86,2,0,⟨[],[(0,.v 22),(1,.f 280 [] [])]⟩,⟨[],[(0,.v 4)]⟩,λa=>CZ L a⟩
def Uu:aq BT:=cV 227 [43] [4] λa=>zY L a
def aif:aq BT:=cV 164 [43,101] [43,67] λa=>CT L a.1 a.2
def anP:aq BT:=cV 165 [32,101] [247,67] λa=>Bl L a.1 a.2
def Xe:bY:=⟨[],[(0,.q adU)]⟩
def acZ:aq BT:=⟨169,1,0,Xe,⟨[],[(0,.v 3)]⟩,λa=>fP L (I0 a)⟩
def IP:aq BT:=cV 196 [22,22] [4] λa=>qG L a.1 a.2
def ZA:aq BT:=cV 336 [3] [4] λa=>DR L a
def afj:aq BT:=⟨147,2,0,⟨[],[(0,.v 22),(1,.f 336 [] [])]⟩,⟨[],[(0,.v 3)]⟩,λa=>GG L a⟩
def akW:aq BT:=⟨86,2,0,⟨[],[(0,.v 22),(1,.f 336 [] [])]⟩,⟨[],[(0,.v 4)]⟩,λa=>zZ L a⟩
def ab7:aq BT:=cV 323 [30,142] [4] λa=>ur L a.1 a.2
def ahK:aq BT:=cV 290 [30,142] [4] λa=>n7 L a.1 a.2
def ane:aq BT:=⟨289,2,0,⟨[],[(0,.v 142),(1,.q [.v 27,.v 28])]⟩,⟨[],[(0,.v 4)]⟩,λa=>Ld L a.1 (ak.mk a.2.1 a.2.2)⟩
def WA:aq BT:=⟨300,2,0,⟨[],[(0,.v 138),(1,.f 289 [] [.q [.v 27,.v 28]])]⟩,⟨[],[(0,.v 3)]⟩,λa=>FJ L a.1 (ak.mk a.2.1 a.2.2)⟩
end Go.X.T
namespace Go.X.T
open Go Go.Aml Go.Bml Go.X Go.Proofs
variable (L:Lp)
def aiv:aq BT:=⟨248,2,0,⟨[],[(0,.v 138),(1,.f 289 [] [.q [.v 27,.v 28]])]⟩,⟨[],[(0,.v 4)]⟩,λa=>E5 L a.1 (ak.mk a.2.1 a.2.2)⟩
def ZD:aq BT:=cV 307 [3] [4] λa=>Cl L a
def afm:aq BT:=cV 266 [3,3] [3] λa=>uE L a.1 a.2
def akZ:aq BT:=cV 288 [22,22] [3] λa=>sL L a.1 a.2
def aca:aq BT:=cV 235 [30,46] [4] λa=>p8 L a.1 a.2
def ahM:aq BT:=cV 281 [30,142,22,3,3] [67] λa=>vY L a.1 a.2.1 a.2.2.1 a.2.2.2.1 a.2.2.2.2
def ani:aq BT:=cV 230 [30,142,22,3,3] [142,67] λa=>yX L a.1 a.2.1 a.2.2.1 a.2.2.2.1 a.2.2.2.2
def HG:aq BT:=⟨160,1,0,⟨[],[(0,.v 140)]⟩,⟨[(0,[1],.aap 142 138)],[(0,.g [.v 22,.r 0])]⟩,λa=>mH L a⟩
def aj2:aq BT:=⟨229,5,4,⟨[(1,[],.box 30 [.v 27,.v 28]),(2,[],.box 22 [.v 22]),(3,[],.box 3 [.v 3]),(4,[],.box 3 [.v 3])],[(0,.v 142),(1,.p 0),(2,.p 1),(3,.p 2),(4,.p 3)]⟩,⟨[(100000,[],.box 30 [.v 27,.v 28]),(100001,[],.box 22 [.v 22]),(100002,[],.box 3 [.v 3]),(100003,[],.box 3 [.v 3])],[(0,.v 142),(1,.v 67)]⟩,λa=>JT L (ak.mk a.1 a.2.1) a.2.2.1 a.2.2.2.1 a.2.2.2.2.1 a.2.2.2.2.2⟩
def apN:aq BT:=⟨228,4,4,⟨[(3,[0],.box 30 [.v 27,.v 28]),(3,[1],.box 22 [.v 22]),(3,[2],.box 3 [.v 3]),(3,[3],.box 3 [.v 3])],[(0,.v 30),(1,.v 46),(2,.v 3),(3,.f 229 [] [.p 0,.p 1,.p 2,.p 3])]⟩,⟨[(100000,[],.box 30 [.v 27,.v 28]),(100001,[],.box 22 [.v 22]),(100002,[],.box 3 [.v 3]),(100003,[],.box 3 [.v 3])],[(0,.v 46),(1,.v 67)]⟩,λa=>I3 L (ak.mk a.1 a.2.1) a.2.2.1 a.2.2.2.1 a.2.2.2.2.1 a.2.2.2.2.2.1 a.2.2.2.2.2.2.1 a.2.2.2.2.2.2.2⟩
def ZF:aq BT:=cV 168 [30,46,3,22,3,3] [46,67] λa=>CS L a.1 a.2.1 a.2.2.1 a.2.2.2.1 a.2.2.2.2.1 a.2.2.2.2.2
def aml:bY:=⟨[],[(0,.q adU)]⟩
def aki:aq BT:=⟨173,1,0,aml,⟨[],[(0,.v 4)]⟩,λa=>ra L (I0 a)⟩
def abt:aq BT:=⟨97,1,0,⟨[],[(0,.v 28)]⟩,⟨[(0,[],.aap 115 28)],[(0,.r 0)]⟩,λa=>kQ L a⟩
def acb:aq BT:=cV 240 [30,22] [30,67] λa=>sW L a.1 a.2
def aoO:aq BT:=⟨96,1,0,⟨[],[(0,.v 27)]⟩,⟨[(0,[],.aap 117 27)],[(0,.r 0)]⟩,λa=>kF L a⟩
def apu:aq BT:=⟨240,2,0,⟨[],[(0,.v 30),(1,.v 22)]⟩,⟨[(0,[0],.aap 117 27),(0,[1],.aap 115 28)],[(0,.g [.r 0,.r 1]),(1,.v 67)]⟩,λa=>vU L a.1 a.2⟩
def agE:bY:=⟨[],[(0,.q adU)]⟩
def aez:aq BT:=⟨174,1,0,agE,⟨[(0,[0],.aap 117 27),(0,[1],.aap 115 28)],[(0,.g [.r 0,.r 1])]⟩,λa=>mT L (I0 a)⟩
def Uz:aq BT:=cV 283 [101] [4] λa=>Ai L a
def abd:aq BT:=⟨321,2,0,⟨[],[(0,.v 41),(1,.f 283 [] [])]⟩,⟨[],[(0,.v 3)]⟩,λa=>GJ L a⟩
def agV:aq BT:=⟨282,2,0,⟨[],[(0,.v 41),(1,.f 283 [] [])]⟩,⟨[],[(0,.v 4)]⟩,λa=>Ad L a⟩
def Xm:aq BT:=⟨284,5,5,⟨[(0,[],.box 41 [.v 41]),(1,[],.box 120 (alh [22,3,3,3])),(2,[],.box 309 [.r 5]),(3,[],.box 3 [.v 3]),(4,[],.box 3 [.v 3]),(2,[0],.aap 312 309)],[(0,.p 0),(1,.p 1),(2,.p 2),(3,.p 3),(4,.p 4)]⟩,⟨[(100000,[],.box 41 [.v 41]),(100001,[],.box 120 (alh [22,3,3,3])),(100002,[],.box 309 [.v 309]),(100003,[],.box 3 [.v 3]),(100004,[],.box 3 [.v 3])],[]⟩,λa=>xD L (Q0 a) (Qc a) (R8 a) (Rc a) (Tj a)⟩
def adF:aq BT:=cV 285 [120,101,101] [4] λa=>xH L a.1 a.2.1 a.2.2
def ajb:bY:=⟨[(100000,[],.aap 101 41),(100001,[],.box 41 [.r 6]),(100002,[],.box 120 (alh [22,3,3,3])),(100003,[],.box 309 [.r 7]),(100004,[],.box 3 [.v 3]),(100005,[],.box 3 [.v 3]),(100001,[0],.aap 101 41),(100003,[0],.aap 312 309)],[]⟩
def an9:aq BT:=⟨284,5,6,⟨[(0,[0],.aap 101 41),(0,[],.box 41 [.r 0]),(1,[],.box 120 (alh [22,3,3,3])),(2,[],.box 309 [.r 6]),(3,[],.box 3 [.v 3]),(4,[],.box 3 [.v 3]),(2,[0],.aap 312 309)],[(0,.p 1),(1,.p 2),(2,.p 3),(3,.p 4),(4,.p 5)]⟩,ajb,λa=>yG L (Q0 a) (Qc a) (R8 a) (Rc a) (Tj a)⟩
def X2:aq BT:=cV 231 [32,3,3,41] [309,67] λa=>xp L a.1 a.2.1 a.2.2.1 a.2.2.2
def ad1:aq BT:=cV 234 [120] [3] λa=>Dh L a
def aqG:aq BT:=⟨322,2,0,⟨[],[(0,.v 3),(1,.q [.v 22])]⟩,⟨[],[(0,.v 4)]⟩,λa=>Gs L a.1 a.2⟩
def aaz:aq BT:=⟨274,7,3,⟨[(4,[0],.aap 3 22),(4,[],.box 22 [.r 0]),(6,[],.box 4 [.v 4])],[(0,.v 3),(1,.v 3),(2,.v 3),(3,.q [.v 3]),(4,.p 1),(5,.q [.f 322 [] [.q [.v 22]]]),(6,.p 2)]⟩,⟨[(100000,[],.aap 3 22),(100001,[],.box 22 [.r 0]),(100002,[],.box 4 [.v 4])],[]⟩,λa=>DD L a.1 a.2.1 a.2.2.1 a.2.2.2.1 a.2.2.2.2.1 a.2.2.2.2.2.1 a.2.2.2.2.2.2⟩
def agm:aq BT:=⟨273,3,3,⟨[(2,[1,0],.aap 3 22),(2,[1],.box 22 [.r 0]),(2,[3],.box 4 [.v 4])],[(0,.v 30),(1,.r 0),(2,.f 274 [] [.q [.v 3],.p 1,.q [.f 322 [] [.q [.v 22]]],.p 2])]⟩,⟨[(100000,[],.aap 3 22),(100001,[],.box 22 [.r 0]),(100002,[],.box 4 [.v 4])],[]⟩,λa=>Bj L a.1 a.2.1 a.2.2.1 a.2.2.2.1 a.2.2.2.2⟩
def WE:aq BT:=⟨217,4,0,⟨[],[(0,.v 30),(1,.v 22),(2,.v 3),(3,.f 322 [] [.q [.v 22]])]⟩,⟨[(0,[],.aap 3 22)],[(0,.r 0)]⟩,λa=>Ay L a.1 a.2.1 a.2.2.1 a.2.2.2⟩
def ac6:aq BT:=cV 287 [30,142,22,3,3,3] [142,67] λa=>wV L a.1 a.2.1 a.2.2.1 a.2.2.2.1 a.2.2.2.2.1 a.2.2.2.2.2
def aiE:aq BT:=⟨286,6,5,⟨[(1,[],.box 30 [.v 27,.v 28]),(2,[],.box 22 [.v 22]),(3,[],.box 3 [.v 3]),(4,[],.box 3 [.v 3]),(5,[],.box 3 [.v 3])],[(0,.v 142),(1,.p 0),(2,.p 1),(3,.p 2),(4,.p 3),(5,.p 4)]⟩,⟨[(100000,[],.box 30 [.v 27,.v 28]),(100001,[],.box 22 [.v 22]),(100002,[],.box 3 [.v 3]),(100003,[],.box 3 [.v 3]),(100004,[],.box 3 [.v 3])],[(0,.v 142),(1,.v 67)]⟩,λa=>Io L (ak.mk a.1 a.2.1) a.2.2.1 a.2.2.2.1 a.2.2.2.2.1 a.2.2.2.2.2.1 a.2.2.2.2.2.2⟩
def ZK:bY:=⟨[(3,[0],.box 30 [.v 27,.v 28]),(3,[1],.box 22 [.v 22]),(3,[2],.box 3 [.v 3]),(3,[3],.box 3 [.v 3]),(3,[4],.box 3 [.v 3])],[(0,.v 30),(1,.v 46),(2,.v 3),(3,.f 286 [] [.p 0,.p 1,.p 2,.p 3,.p 4])]⟩
def WU:aq BT:=⟨228,4,5,ZK,⟨[(100000,[],.box 30 [.v 27,.v 28]),(100001,[],.box 22 [.v 22]),(100002,[],.box 3 [.v 3]),(100003,[],.box 3 [.v 3]),(100004,[],.box 3 [.v 3])],[(0,.v 46),(1,.v 67)]⟩,λa=>Hu L (ak.mk a.1 a.2.1) a.2.2.1 a.2.2.2.1 a.2.2.2.2.1 a.2.2.2.2.2.1 a.2.2.2.2.2.2.1 a.2.2.2.2.2.2.2.1 a.2.2.2.2.2.2.2.2⟩
def adl:aq BT:=cV 233 [30,46,3,22,3,3,3] [46,67] λa=>Bq L a.1 a.2.1 a.2.2.1 a.2.2.2.1 a.2.2.2.2.1 a.2.2.2.2.2.1 a.2.2.2.2.2.2
def ap4:bY:=⟨[(2,[],.box 3 [.v 3]),(3,[],.box 120 (alh [22,3,3,3])),(4,[],.box 312 (alh [3,3,3,3])),(5,[],.box 3 [.v 3])],[(0,.v 30),(1,.v 46),(2,.p 0),(3,.p 1),(4,.p 2),(5,.p 3)]⟩
def anL:bY:=⟨[(100000,[],.box 3 [.v 3]),(100001,[],.box 120 (alh [22,3,3,3])),(100002,[],.box 312 (alh [3,3,3,3])),(100003,[],.box 3 [.v 3])],[(0,.v 46),(1,.v 67)]⟩
def Wu:aq BT:=⟨232,6,4,ap4,anL,λa=>uQ L (acS a) (aay a) (afC a) (akx a) (aim a) (ank a)⟩
def mG:aq BT:=cV 171 [35,3,3] [35,67] λa=>oX L a.1 a.2.1 a.2.2
def akC:aq BT:=⟨206,3,0,⟨[],[(0,.v 3),(1,.q [.v 3,.v 22]),(2,.q [.v 3])]⟩,⟨[],[(0,.v 4)]⟩,λa=>Dw L a.1 (aM.mk a.2.1 a.2.2.1) a.2.2.2⟩
def aqf:aq BT:=⟨46,2,0,⟨[],[(0,.v 3),(1,.f 206 [] [.q [.v 3,.v 22],.q [.v 3]])]⟩,⟨[(0,[],.aap 3 22)],[(0,.r 0)]⟩,λa=>HL L a.1 (aM.mk a.2.1 a.2.2.1) a.2.2.2⟩
def ahy:aq BT:=cV 132 [142,3] [22] λa=>su L a.1 a.2
def amV:aq BT:=⟨291,2,0,⟨[],[(0,.v 3),(1,.q [.v 22])]⟩,⟨[],[(0,.v 4)]⟩,λa=>zO L a.1 a.2⟩
def Wj:aq BT:=⟨147,2,0,⟨[],[(0,.v 22),(1,.f 291 [] [.q [.v 22]])]⟩,⟨[],[(0,.v 3)]⟩,λa=>Iw L a.1 a.2⟩
def ajO:aq BT:=⟨86,2,0,⟨[],[(0,.v 22),(1,.f 291 [] [.q [.v 22]])]⟩,⟨[],[(0,.v 4)]⟩,λa=>B3 L a.1 a.2⟩
def apj:aq BT:=cV 237 [142,142,3] [4] λa=>EE L a.1 a.2.1 a.2.2
def Zp:aq BT:=cV 238 [142,3] [142,67] λa=>xc L a.1 a.2
def ae9:aq BT:=⟨160,1,0,⟨[],[(0,.v 140)]⟩,⟨[(0,[0],.aap 3 22),(0,[1],.aap 142 138)],[(0,.g [.r 0,.r 1])]⟩,λa=>Ac L a⟩
def Vb:aq BT:=⟨236,1,0,⟨[],[(0,.v 44)]⟩,⟨[(0,[],.aap 140 44)],[(0,.r 0)]⟩,λa=>Ke L a⟩
def Hy:aq BT:=cV 295 [142,142] [142,67] λa=>xW L a.1 a.2
def ajx:aq BT:=cV 294 [140,140] [3] λa=>IK L a.1 a.2
def ao7:aq BT:=⟨342,4,1,⟨[(0,[],.aap 140 44)],[(0,.r 0),(1,.v 3),(2,.v 3),(3,.f 294 [] [])]⟩,⟨[(100000,[],.aap 140 44)],[]⟩,λa=>xn L a.1 a.2.1 a.2.2⟩
def Zd:aq BT:=⟨338,3,1,⟨[(0,[],.aap 140 44)],[(0,.r 0),(1,.v 3),(2,.f 294 [] [])]⟩,⟨[(100000,[],.aap 140 44)],[]⟩,λa=>Je L a.1 a.2⟩
def alM:aq BT:=⟨325,2,1,⟨[(0,[],.aap 140 44)],[(0,.r 0),(1,.f 294 [] [])]⟩,⟨[(100000,[],.aap 140 44)],[]⟩,λa=>GP L a⟩
def U0:aq BT:=⟨337,2,0,⟨[],[(0,.ns),(1,.f 326 [] [.q [.v 44]])]⟩,⟨[(0,[],.aap 140 44)],[(0,.r 0)]⟩,λa=>JY L a⟩
def adP:aq BT:=⟨324,1,0,⟨[],[(0,.f 326 [] [.q [.v 44]])]⟩,⟨[(0,[],.aap 140 44)],[(0,.r 0)]⟩,λa=>FQ L a⟩
def xI:aq BT:=⟨292,2,0,⟨[],[(0,.f 326 [] [.q [.v 44]]),(1,.f 294 [] [])]⟩,⟨[],[(0,.v 44)]⟩,λa=>uv L a⟩
def uY:aq BT:=cV 239 [44] [44] λa=>yK L a
def aa5:aq BT:=cV 172 [30,46,3,3,3] [46,67] λa=>yY L a.1 a.2.1 a.2.2.1 a.2.2.2.1 a.2.2.2.2
def agN:aq BT:=⟨296,2,0,⟨[],[(0,.v 3),(1,.q [.v 3,.v 22])]⟩,⟨[],[(0,.v 4)]⟩,λa=>DV L a.1 (bQ.mk a.2.1 a.2.2)⟩
def Xf:aq BT:=⟨147,2,0,⟨[],[(0,.v 22),(1,.f 296 [] [.q [.v 3,.v 22]])]⟩,⟨[],[(0,.v 3)]⟩,λa=>GH L a.1 (bQ.mk a.2.1 a.2.2)⟩
def ady:aq BT:=⟨86,2,0,⟨[],[(0,.v 22),(1,.f 296 [] [.q [.v 3,.v 22]])]⟩,⟨[],[(0,.v 4)]⟩,λa=>Ab L a.1 (bQ.mk a.2.1 a.2.2)⟩
def ai6:aq BT:=cV 241 [30,48] [4] λa=>wB L a.1 a.2
def aag:aq BT:=cV 175 [30,36,30,36,48,3] [48,67] λa=>uk L a.1 a.2.1 a.2.2.1 a.2.2.2.1 a.2.2.2.2.1 a.2.2.2.2.2
end Go.X.T
namespace Go.X.T
open Go Go.Aml Go.Bml Go.X Go.Proofs
variable (L:Lp)
def aao:aq BT:=⟨84,4,0,⟨[],[(0,.v 30),(1,.v 36),(2,.v 22),(3,.v 3)]⟩,⟨[(0,[1],.aap 3 22)],[(0,.g [.v 3,.r 0]),(1,.v 67)]⟩,λa=>EX L a.1 a.2.1 a.2.2.1 a.2.2.2⟩
def agb:aq BT:=cV 204 [75] [4] λa=>Dg L a
def alz:aq BT:=cV 265 [22] [3] λa=>CY L a
def acX:aq BT:=cV 205 [75,283] [3] λa=>rK L a.1 a.2
def air:aq BT:=cV 131 [53] [4] λa=>yE L a
def an4:aq BT:=⟨243,3,0,⟨[],[(0,.v 53),(1,.v 283),(2,.f 205 [] [])]⟩,⟨[],[(0,.v 3),(1,.v 4)]⟩,λa=>Ec L a.1 a.2⟩
def wW:aq BT:=⟨244,3,0,⟨[(0,[],.aap 75 53),(2,[],.aap 75 53)],[(0,.r 0),(1,.v 3),(2,.r 1)]⟩,⟨[],[(0,.v 53)]⟩,λa=>D3 L a.1 a.2.1 a.2.2⟩
def afV:aq BT:=⟨102,1,0,⟨[],[(0,.v 53)]⟩,⟨[(0,[],.aap 75 53)],[(0,.r 0)]⟩,λa=>pI L a⟩
def anE:aq BT:=cV 176 [53,3,3,3,3] [53,67] λa=>rk L a.1 a.2.1 a.2.2.1 a.2.2.2.1 a.2.2.2.2
def WY:bY:=⟨[],[(0,.v 88),(1,.q [.q adU]),(2,.q (alh [3,3,3,3]))]⟩
def acP:aq BT:=⟨177,3,0,WY,⟨[],[(0,.v 4)]⟩,λa=>B0 L (anW a) (WC a) (acs a)⟩
def aij:bY:=⟨[],[(0,.v 31),(1,.f 177 [] [.q [.q adU],.q (alh [3,3,3,3])])]⟩
def ana:aq BT:=⟨221,2,0,aij,⟨[],[(0,.v 3)]⟩,λa=>Er L (On a) (Qm a) (Px a)⟩
def Wz:bY:=⟨[],[(0,.v 31),(1,.f 177 [] [.q [.q adU],.q (alh [3,3,3,3])])]⟩
def acj:aq BT:=⟨153,2,0,Wz,⟨[],[(0,.v 4)]⟩,λa=>Dv L (On a) (Qm a) (Px a)⟩
def ahX:aq BT:=cV 299 [50] [50] λa=>EA L a
def anr:aq BT:=⟨299,1,0,⟨[],[(0,.v 50)]⟩,⟨[(0,[1],.aap 3 22)],[(0,.g [.v 22,.r 0,.v 4])]⟩,λa=>IL L a⟩
def aeI:aq BT:=cV 245 [50,3,3,3] [50,67] λa=>qO L a.1 a.2.1 a.2.2.1 a.2.2.2
def akc:aq BT:=cV 178 [50,3] [50,67] λa=>GQ L a.1 a.2
def apX:aq BT:=cV 179 [50,3] [50,67] λa=>J0 L a.1 a.2
def ag5:aq BT:=cV 180 [3] [4] λa=>KV L a
def amy:aq BT:=⟨147,2,0,⟨[],[(0,.v 22),(1,.f 180 [] [])]⟩,⟨[],[(0,.v 3)]⟩,λa=>CC L a⟩
def VU:aq BT:=⟨86,2,0,⟨[],[(0,.v 22),(1,.f 180 [] [])]⟩,⟨[],[(0,.v 4)]⟩,λa=>zA L a⟩
def acp:aq BT:=cV 246 [50,4] [50,67] λa=>xi L a.1 a.2
def aoY:aq BT:=cV 181 [50] [50,67] λa=>Cu L a
def YW:aq BT:=⟨249,2,0,⟨[],[(0,.v 142),(1,.q [.v 3])]⟩,⟨[],[(0,.v 4)]⟩,λa=>Jb L a.1 a.2⟩
def aeR:aq BT:=⟨300,2,0,⟨[],[(0,.v 138),(1,.f 249 [] [.q [.v 3]])]⟩,⟨[],[(0,.v 3)]⟩,λa=>Gk L a.1 a.2⟩
def UQ:aq BT:=⟨248,2,0,⟨[],[(0,.v 138),(1,.f 249 [] [.q [.v 3]])]⟩,⟨[],[(0,.v 4)]⟩,λa=>JC L a.1 a.2⟩
def abu:aq BT:=⟨247,2,0,⟨[],[(0,.v 140),(1,.q [.v 3])]⟩,⟨[],[(0,.v 4)]⟩,λa=>AP L a.1 a.2⟩
def ag9:aq BT:=⟨116,2,0,⟨[],[(0,.v 44),(1,.f 247 [] [.q [.v 3]])]⟩,⟨[],[(0,.v 3)]⟩,λa=>Jm L a.1 a.2⟩
def Xy:aq BT:=⟨49,2,0,⟨[],[(0,.v 44),(1,.f 247 [] [.q [.v 3]])]⟩,⟨[],[(0,.v 4)]⟩,λa=>AL L a.1 a.2⟩
def adY:aq BT:=cV 301 [30,142,3] [142,67] λa=>xT L a.1 a.2.1 a.2.2
def ajq:aq BT:=⟨301,3,0,⟨[(1,[1],.aap 3 22)],[(0,.v 30),(1,.g [.v 3,.r 0]),(2,.v 3)]⟩,⟨[],[(0,.v 142),(1,.v 67)]⟩,λa=>IJ L a.1 a.2.1 a.2.2.1 a.2.2.2⟩
def aaw:aq BT:=cV 250 [30,142,3] [142,67] λa=>CA L a.1 a.2.1 a.2.2
def agj:aq BT:=cV 182 [30,46,22,3] [46,67] λa=>Em L a.1 a.2.1 a.2.2.1 a.2.2.2
def alE:aq BT:=cV 258 [52,3] [4] λa=>zd L a.1 a.2
def ac3:aq BT:=⟨261,2,0,⟨[],[(0,.v 3),(1,.q [.v 3,.v 22])]⟩,⟨[],[(0,.v 4)]⟩,λa=>CR L a.1 (aM.mk a.2.1 a.2.2)⟩
def aiB:aq BT:=⟨147,2,0,⟨[],[(0,.v 22),(1,.f 261 [] [.q [.v 3,.v 22]])]⟩,⟨[],[(0,.v 3)]⟩,λa=>G4 L a.1 (aM.mk a.2.1 a.2.2)⟩
def aoa:aq BT:=⟨86,2,0,⟨[],[(0,.v 22),(1,.f 261 [] [.q [.v 3,.v 22]])]⟩,⟨[],[(0,.v 4)]⟩,λa=>As L a.1 (aM.mk a.2.1 a.2.2)⟩
def X4:aq BT:=cV 198 [46,22] [4] λa=>wA L a.1 a.2
def ak1:aq BT:=cV 302 [40,50,46] [4] λa=>Ah L a.1 a.2.1 a.2.2
def aqH:aq BT:=cV 251 [333,4] [67] λa=>si L a.1 a.2
def aaC:aq BT:=cV 183 [40,52,50,46,3,3] [52,67] λa=>BR L a.1 a.2.1 a.2.2.1 a.2.2.2.1 a.2.2.2.2.1 a.2.2.2.2.2
def anl:aq BT:=cV 184 [40,52,50,46,3,3] [52,67] λa=>AJ L a.1 a.2.1 a.2.2.1 a.2.2.2.1 a.2.2.2.2.1 a.2.2.2.2.2
def WH:aq BT:=cV 185 [40,52,50,46,3,4] [52,67] λa=>CM L a.1 a.2.1 a.2.2.1 a.2.2.2.1 a.2.2.2.2.1 a.2.2.2.2.2
def ac7:bY:=⟨[(0,[1],.aap 115 28),(0,[3],.aap 88 31)],[(0,.g (abx amj [(1,.r 0),(3,.r 1)]))]⟩
def ah3:aq BT:=⟨143,1,0,⟨[],[(0,.v 35)]⟩,ac7,λa=>D6 L a⟩
def anx:aq BT:=cV 186 [35,3] [35,67] λa=>wO L a.1 a.2
def aeW:aq BT:=⟨98,1,0,⟨[],[(0,.v 36)]⟩,⟨[(0,[],.aap 90 36)],[(0,.r 0)]⟩,λa=>q9 L a⟩
def afu:aq BT:=cV 252 [30,46,3] [46,67] λa=>kW L a.1 a.2.1 a.2.2
def VF:aq BT:=⟨175,6,1,⟨[(3,[],.aap 90 36)],[(0,.v 30),(1,.v 36),(2,.v 30),(3,.r 0),(4,.v 48),(5,.v 3)]⟩,⟨[(100000,[],.aap 90 36)],[(0,.v 48),(1,.v 67)]⟩,λa=>yg L a.1 a.2.1 a.2.2.1 a.2.2.2.1 a.2.2.2.2.1 a.2.2.2.2.2⟩
def ach:aq BT:=⟨47,3,0,⟨[],[(0,.v 3),(1,.q [.v 3,.v 22]),(2,.q [.v 3])]⟩,⟨[],[(0,.v 4)]⟩,λa=>A8 L a.1 (bQ.mk a.2.1 a.2.2.1) a.2.2.2⟩
def ahS:aq BT:=⟨46,2,0,⟨[],[(0,.v 3),(1,.f 47 [] [.q [.v 3,.v 22],.q [.v 3]])]⟩,⟨[(0,[],.aap 3 22)],[(0,.r 0)]⟩,λa=>Fc L a.1 (bQ.mk a.2.1 a.2.2.1) a.2.2.2⟩
def YP:aq BT:=cV 16 [48,3] [22] λa=>w6 L a.1 a.2
def aeF:aq BT:=⟨303,2,0,⟨[],[(0,.v 3),(1,.q [.v 22])]⟩,⟨[],[(0,.v 4)]⟩,λa=>E7 L a.1 a.2⟩
def aj8:aq BT:=⟨147,2,0,⟨[],[(0,.v 22),(1,.f 303 [] [.q [.v 22]])]⟩,⟨[],[(0,.v 3)]⟩,λa=>zW L a.1 a.2⟩
def apU:aq BT:=⟨86,2,0,⟨[],[(0,.v 22),(1,.f 303 [] [.q [.v 22]])]⟩,⟨[],[(0,.v 4)]⟩,λa=>EZ L a.1 a.2⟩
def ag1:aq BT:=cV 253 [30,22,22] [30,67] λa=>yB L a.1 a.2.1 a.2.2
def amt:aq BT:=cV 254 [30,38,46,3,3] [67] λa=>EU L a.1 a.2.1 a.2.2.1 a.2.2.2.1 a.2.2.2.2
def VL:aq BT:=⟨50,4,0,⟨[],[(0,.v 140),(1,.q [.v 3]),(2,.q [.v 3]),(3,.q [.v 3])]⟩,⟨[],[(0,.v 4)]⟩,λa=>zt L a.1 a.2.1 a.2.2.1 a.2.2.2⟩
def ajl:aq BT:=⟨116,2,0,⟨[],[(0,.v 44),(1,.f 50 [] [.q [.v 3],.q [.v 3],.q [.v 3]])]⟩,⟨[],[(0,.v 3)]⟩,λa=>Gu L a.1 a.2.1 a.2.2.1 a.2.2.2⟩
def aoT:aq BT:=⟨49,2,0,⟨[],[(0,.v 44),(1,.f 50 [] [.q [.v 3],.q [.v 3],.q [.v 3]])]⟩,⟨[],[(0,.v 4)]⟩,λa=>FH L a.1 a.2.1 a.2.2.1 a.2.2.2⟩
def YS:aq BT:=⟨48,4,0,⟨[],[(0,.v 3),(1,.q [.v 44]),(2,.q [.v 3]),(3,.q [.v 3])]⟩,⟨[],[(0,.v 4)]⟩,λa=>AZ L a.1 a.2.1 a.2.2.1 a.2.2.2⟩
def aly:aq BT:=⟨46,2,0,⟨[],[(0,.v 3),(1,.f 48 [] [.q [.v 44],.q [.v 3],.q [.v 3]])]⟩,⟨[(0,[],.aap 3 22)],[(0,.r 0)]⟩,λa=>Lb L a.1 a.2.1 a.2.2.1 a.2.2.2⟩
end Go.X.T
namespace Go.X.T
open Go Go.Aml Go.Bml Go.X Go.Proofs
variable (L:Lp)
def aib:aq BT:=cV 17 [46,3,3] [22] λa=>rJ L a.1 a.2.1 a.2.2
def J7:aq BT:=⟨340,2,0,⟨[],[(0,.ns),(1,.v 3)]⟩,⟨[(0,[],.aap 3 22)],[(0,.r 0)]⟩,λa=>CW L a⟩
def ZV:aq BT:=⟨328,1,0,⟨[],[(0,.v 33)]⟩,⟨[(0,[],.aap 3 22)],[(0,.r 0)]⟩,λa=>He L a⟩
def afF:aq BT:=cV 71 [30,38,3] [4] λa=>Bc L a.1 a.2.1 a.2.2
def VX:aq BT:=cV 138 [] [222] λa=>Fx L
def acv:aq BT:=cV 77 [30,3,4] [3] λa=>nK L a.1 a.2.1 a.2.2
def YY:aq BT:=cV 75 [170,174] [4] λa=>wJ L a.1 a.2
def aeU:aq BT:=cV 259 [275,275] [4] λa=>zX L a.1 a.2
def akn:aq BT:=cV 193 [170] [272] λa=>Bg L a
def ap5:aq BT:=⟨194,4,0,⟨[],[(0,.v 174),(1,.q [.v 3]),(2,.q (alh [3,167,168,168])),(3,.q [.v 272])]⟩,⟨[],[(0,.v 4)]⟩,λa=>EN L (Wh a) (aqq a) (ZI a) (aeS a)⟩
def ahe:aq BT:=⟨73,2,0,⟨[],[(0,.v 167),(1,.f 194 [] [.q [.v 3],.q (alh [3,167,168,168]),.q [.v 272]])]⟩,⟨[],[(0,.v 3)]⟩,λa=>Aj L (afq a) (akl a) (aic a) (am5 a)⟩
def amH:aq BT:=⟨117,2,0,⟨[],[(0,.v 170),(1,.v 3)]⟩,⟨[(0,[],.aap 3 22),(2,[],.aap 3 22)],[(0,.r 0),(1,.v 3),(2,.r 1),(3,.v 4)]⟩,λa=>yN L a.1 a.2⟩
def V6:aq BT:=⟨119,2,0,⟨[],[(0,.v 174),(1,.q [.v 22])]⟩,⟨[],[(0,.v 4)]⟩,λa=>ye L a.1 a.2⟩
def aju:aq BT:=⟨73,2,0,⟨[],[(0,.v 167),(1,.f 119 [] [.q [.v 22]])]⟩,⟨[],[(0,.v 3)]⟩,λa=>AM L a.1 a.2⟩
def ao5:aq BT:=⟨118,2,0,⟨[(0,[],.aap 174 167)],[(0,.r 0),(1,.f 119 [] [.q [.v 22]])]⟩,⟨[(0,[],.aap 174 167)],[(0,.r 0)]⟩,λa=>Bm L a.1 a.2⟩
def Y7:aq BT:=⟨72,2,0,⟨[],[(0,.v 30),(1,.v 38)]⟩,⟨[(0,[1],.aap 174 167),(0,[3],.aap 4 168)],[(0,.g [.v 3,.r 0,.v 168,.r 1])]⟩,λa=>DM L a.1 a.2⟩
def alI:aq BT:=cV 52 [30,38,3] [22,22,144,4] λa=>r7 L a.1 a.2.1 a.2.2
def UY:aq BT:=cV 29 [30,3] [3] λa=>v7 L a.1 a.2
def abF:aq BT:=cV 203 [30,38,3] [4] λa=>r6 L a.1 a.2.1 a.2.2
def aod:aq BT:=⟨305,3,0,⟨[],[(0,.v 3),(1,.q [.v 27,.v 28]),(2,.q (alh [22,22,22,3]))]⟩,⟨[],[(0,.v 4)]⟩,λa=>w5 L (Zl a) (Wt a) (ace a)⟩
def X6:aq BT:=⟨147,2,0,⟨[],[(0,.v 22),(1,.f 305 [] [.q [.v 27,.v 28],.q (alh [22,22,22,3])])]⟩,⟨[],[(0,.v 3)]⟩,λa=>ER L (Q5 a) (Qh a) (Sc a)⟩
def ad6:aq BT:=⟨256,2,0,⟨[(0,[],.aap 3 22)],[(0,.r 0),(1,.f 305 [] [.q [.v 27,.v 28],.q (alh [22,22,22,3])])]⟩,⟨[(0,[],.aap 3 22)],[(0,.r 0)]⟩,λa=>zr L (Q5 a) (Qh a) (Sc a)⟩
def T9:aq BT:=⟨329,1,0,⟨[(0,[],.aap 3 22)],[(0,.r 0)]⟩,⟨[(0,[],.aap 3 22)],[(0,.r 0)]⟩,λa=>ED L a⟩
def aaG:aq BT:=⟨304,2,0,⟨[],[(0,.v 22),(1,.v 22)]⟩,⟨[(0,[],.aap 3 22)],[(0,.r 0)]⟩,λa=>zT L a.1 a.2⟩
def agr:aq BT:=cV 255 [30,38,46,3] [22] λa=>Bo L a.1 a.2.1 a.2.2.1 a.2.2.2
def alL:aq BT:=⟨257,2,0,⟨[],[(0,.v 3),(1,.q [.v 22])]⟩,⟨[],[(0,.v 4)]⟩,λa=>za L a.1 a.2⟩
def ade:aq BT:=⟨147,2,0,⟨[],[(0,.v 22),(1,.f 257 [] [.q [.v 22]])]⟩,⟨[],[(0,.v 3)]⟩,λa=>zU L a.1 a.2⟩
def aiM:aq BT:=⟨256,2,0,⟨[(0,[],.aap 3 22)],[(0,.r 0),(1,.f 257 [] [.q [.v 22]])]⟩,⟨[(0,[],.aap 3 22)],[(0,.r 0)]⟩,λa=>Av L a.1 a.2⟩
def aoh:aq BT:=cV 188 [30,38,46,22,22,22,3,3] [30,22,67] λa=>zJ L a.1 a.2.1 a.2.2.1 a.2.2.2.1 a.2.2.2.2.1 a.2.2.2.2.2.1 a.2.2.2.2.2.2.1 a.2.2.2.2.2.2.2
def afy:aq BT:=cV 189 [40,52,3] [52,67] λa=>BY L a.1 a.2.1 a.2.2
def ak5:aq BT:=cV 190 [50] [50,67] λa=>vQ L a
def Ud:aq BT:=cV 191 [50,3] [50,67] λa=>qu L a.1 a.2
def ahV:aq BT:=cV 192 [50,3] [50,67] λa=>vJ L a.1 a.2
def anq:bY:=⟨[(0,[35],.aap 83 54)],[(0,.g (abx amv [(35,.r 0)]))]⟩
def V8:aq BT:=⟨44,1,0,⟨[],[(0,.v 56)]⟩,anq,λa=>Cp L a⟩
def acD:bY:=⟨[(0,[19],.aap 101 41),(0,[20],.aap 101 41),(0,[35],.aap 83 54),(0,[],.box 133 (abx adU [(19,.r 0),(20,.r 1),(35,.r 2)]))],[(0,.p 3),(1,.v 65)]⟩
def aaf:bY:=⟨[(100000,[],.aap 101 41),(100001,[],.aap 101 41),(100002,[],.aap 83 54),(100003,[],.box 133 (abx adU [(19,.r 0),(20,.r 1),(35,.r 2)]))],[(0,.v 67)]⟩
def afk:aq BT:=⟨103,2,4,acD,aaf,λa=>xR L (kU a) (kT a)⟩
def akX:bY:=⟨[(0,[19],.aap 101 41),(0,[20],.aap 101 41),(0,[35],.aap 83 54)],[(0,.g (abx amv [(19,.r 0),(20,.r 1),(35,.r 2)]))]⟩
def apV:aq BT:=⟨44,1,0,⟨[],[(0,.v 56)]⟩,akX,λa=>Dr L a⟩
def ZR:bY:=⟨[(0,[19],.aap 101 41),(0,[20],.aap 101 41),(0,[35],.aap 83 54),(0,[],.box 133 (abx adU [(19,.r 0),(20,.r 1),(35,.r 2)]))],[(0,.p 3),(1,.v 65)]⟩
def ae0:bY:=⟨[(100000,[],.aap 101 41),(100001,[],.aap 101 41),(100002,[],.aap 83 54),(100003,[],.box 133 (abx adU [(19,.r 0),(20,.r 1),(35,.r 2)]))],[(0,.v 67)]⟩
def acQ:aq BT:=⟨104,2,4,ZR,ae0,λa=>yV L (kU a) (kT a)⟩
def apo:bY:=⟨[(0,[19],.aap 101 41),(0,[20],.aap 101 41),(0,[35],.aap 83 54),(0,[],.box 133 (abx adU [(19,.r 0),(20,.r 1),(35,.r 2)]))],[(0,.p 3),(1,.v 65)]⟩
def ang:bY:=⟨[(100000,[],.aap 101 41),(100001,[],.aap 101 41),(100002,[],.aap 83 54),(100003,[],.box 133 (abx adU [(19,.r 0),(20,.r 1),(35,.r 2)]))],[(0,.v 67)]⟩
def VQ:aq BT:=⟨105,2,4,apo,ang,λa=>yT L (kU a) (kT a)⟩
def acn:bY:=⟨[(2,[],.box 251 (alh [3,3,3,3])),(3,[],.box 120 (alh [22,3,3,3])),(4,[0,19],.aap 101 41),(4,[0,35],.aap 83 54),(4,[0],.box 133 (abx adU [(19,.r 2),(35,.r 3)])),(4,[],.box 130 [.p 4])],[(0,.v 30),(1,.v 46),(2,.p 0),(3,.p 1),(4,.p 5)]⟩
def ahm:bY:=⟨[(100000,[],.box 251 (alh [3,3,3,3])),(100001,[],.box 120 (alh [22,3,3,3])),(100002,[],.aap 101 41),(100003,[],.aap 83 54),(100004,[],.box 133 (abx adU [(19,.r 2),(35,.r 3)])),(100005,[],.box 130 [.p 4])],[(0,.v 46),(1,.v 67)]⟩
def aff:aq BT:=⟨167,5,6,acn,ahm,λa=>uX L (aeD a) (acw a) (ahv a) (amb a) (aj7 a)⟩
def Vf:bY:=⟨[(0,[19],.aap 101 41),(0,[35],.aap 83 54),(0,[],.box 133 (abx adU [(19,.r 0),(35,.r 1)])),(1,[0],.box 251 (alh [3,3,3,3])),(1,[1],.box 120 (alh [22,3,3,3])),(1,[2],.box 130 [.p 2])],[(0,.p 2),(1,.f 167 [] [.p 3,.p 4,.p 5])]⟩
def apK:bY:=⟨[(100000,[],.aap 101 41),(100001,[],.aap 83 54),(100002,[],.box 133 (abx adU [(19,.r 0),(35,.r 1)])),(100003,[],.box 251 (alh [3,3,3,3])),(100004,[],.box 120 (alh [22,3,3,3])),(100005,[],.box 130 [.p 2])],[]⟩
def YU:aq BT:=⟨166,2,6,Vf,apK,λa=>A5 L (MU a) (Me a) (N4 a)⟩
def aeP:bY:=⟨[(0,[19],.aap 101 41),(0,[35],.aap 83 54),(0,[],.box 133 (abx adU [(19,.r 0),(35,.r 1)])),(1,[0],.box 3 [.v 3]),(1,[1],.box 120 (alh [22,3,3,3])),(1,[2],.box 312 (alh [3,3,3,3])),(1,[3],.box 3 [.v 3])],[(0,.p 2),(1,.f 232 [] [.p 3,.p 4,.p 5,.p 6])]⟩
def ajB:bY:=⟨[(100000,[],.aap 101 41),(100001,[],.aap 83 54),(100002,[],.box 133 (abx adU [(19,.r 0),(35,.r 1)])),(100003,[],.box 3 [.v 3]),(100004,[],.box 120 (alh [22,3,3,3])),(100005,[],.box 312 (alh [3,3,3,3])),(100006,[],.box 3 [.v 3])],[]⟩
def ahD:aq BT:=⟨166,2,7,aeP,ajB,λa=>zg L (M2 a) (OW a) (N9 a) (P1 a) (RU a)⟩
def Yl:bY:=⟨[(0,[19],.aap 101 41),(0,[35],.aap 83 54),(0,[],.box 133 (abx adU [(19,.r 0),(35,.r 1)]))],[(0,.p 2),(1,.v 3),(2,.v 3)]⟩
def Vv:bY:=⟨[(100000,[],.aap 101 41),(100001,[],.aap 83 54),(100002,[],.box 133 (abx adU [(19,.r 0),(35,.r 1)]))],[]⟩
def abq:aq BT:=⟨170,3,3,Yl,Vv,λa=>Eb L (Vp a) (apR a) (Y6 a)⟩
def ag8:bY:=⟨[(0,[19],.aap 101 41),(0,[35],.aap 83 54),(0,[],.box 133 (abx adU [(19,.r 0),(20,.r 3),(35,.r 1)])),(0,[20],.aap 101 41)],[(0,.p 2),(1,.v 65)]⟩
def alR:bY:=⟨[(100000,[],.aap 101 41),(100001,[],.aap 83 54),(100002,[],.box 133 (abx adU [(19,.r 0),(35,.r 1)]))],[(0,.v 67)]⟩
def ajT:aq BT:=⟨106,2,3,ag8,alR,λa=>wP L (agZ a) (aeX a)⟩
def aps:bY:=⟨[(0,[19],.aap 101 41),(0,[20],.aap 101 41),(0,[35],.aap 83 54),(0,[],.box 133 (abx adU [(19,.r 0),(20,.r 1),(35,.r 2)]))],[(0,.p 3),(1,.v 65)]⟩
def YF:bY:=⟨[(100000,[],.aap 101 41),(100001,[],.aap 101 41),(100002,[],.aap 83 54),(100003,[],.box 133 (abx adU [(19,.r 0),(20,.r 1),(35,.r 2)]))],[(0,.v 67)]⟩
def adV:aq BT:=⟨107,2,4,aps,YF,λa=>yb L (kU a) (kT a)⟩
def ajo:bY:=⟨[(0,[19],.aap 101 41),(0,[20],.aap 101 41),(0,[35],.aap 83 54),(0,[],.box 133 (abx adU [(19,.r 0),(20,.r 1),(35,.r 2)]))],[(0,.p 3),(1,.v 65)]⟩
def aon:bY:=⟨[(100000,[],.aap 101 41),(100001,[],.aap 101 41),(100002,[],.aap 83 54),(100003,[],.box 133 (abx adU [(19,.r 0),(20,.r 1),(35,.r 2)]))],[(0,.v 67)]⟩
def al7:aq BT:=⟨108,2,4,ajo,aon,λa=>xy L (kU a) (kT a)⟩
def Vj:bY:=⟨[(0,[19],.aap 101 41),(0,[20],.aap 101 41),(0,[35],.aap 83 54),(0,[],.box 133 (abx adU [(19,.r 0),(20,.r 1),(35,.r 2)]))],[(0,.p 3),(1,.v 65)]⟩
def abb:bY:=⟨[(100000,[],.aap 101 41),(100001,[],.aap 101 41),(100002,[],.aap 83 54),(100003,[],.box 133 (abx adU [(19,.r 0),(20,.r 1),(35,.r 2)]))],[(0,.v 67)]⟩
def agf:aq BT:=⟨109,2,4,Vj,abb,λa=>vA L (kU a) (kT a)⟩
def alD:bY:=⟨[(0,[19],.aap 101 41),(0,[20],.aap 101 41),(0,[35],.aap 83 54),(0,[],.box 133 (abx adU [(19,.r 0),(20,.r 1),(35,.r 2)]))],[(0,.p 3),(1,.v 65)]⟩
def ajG:bY:=⟨[(100000,[],.aap 101 41),(100001,[],.aap 101 41),(100002,[],.aap 83 54),(100003,[],.box 133 (abx adU [(19,.r 0),(20,.r 1),(35,.r 2)]))],[(0,.v 67)]⟩
def aoB:aq BT:=⟨110,2,4,alD,ajG,λa=>vm L (kU a) (kT a)⟩
def Yu:bY:=⟨[(0,[19],.aap 101 41),(0,[20],.aap 101 41),(0,[35],.aap 83 54),(0,[],.box 133 (abx adU [(19,.r 0),(20,.r 1),(35,.r 2)]))],[(0,.p 3),(1,.v 65)]⟩
def adD:bY:=⟨[(100000,[],.aap 101 41),(100001,[],.aap 101 41),(100002,[],.aap 83 54),(100003,[],.box 133 (abx adU [(19,.r 0),(20,.r 1),(35,.r 2)]))],[(0,.v 67)]⟩
def aby:aq BT:=⟨111,2,4,Yu,adD,λa=>wR L (kU a) (kT a)⟩
def an7:bY:=⟨[(0,[19],.aap 101 41),(0,[20],.aap 101 41),(0,[35],.aap 83 54),(0,[],.box 133 (abx adU [(19,.r 0),(20,.r 1),(35,.r 2)]))],[(0,.p 3),(1,.v 65)]⟩
def alX:bY:=⟨[(100000,[],.aap 101 41),(100001,[],.aap 101 41),(100002,[],.aap 83 54),(100003,[],.box 133 (abx adU [(19,.r 0),(20,.r 1),(35,.r 2)]))],[(0,.v 67)]⟩
def Uo:aq BT:=⟨112,2,4,an7,alX,λa=>yu L (kU a) (kT a)⟩
def aaZ:bY:=⟨[(0,[19],.aap 101 41),(0,[20],.aap 101 41),(0,[35],.aap 83 54),(0,[],.box 133 (abx adU [(19,.r 0),(20,.r 1),(35,.r 2)]))],[(0,.p 3),(1,.v 3)]⟩
def af2:bY:=⟨[(100000,[],.aap 101 41),(100001,[],.aap 101 41),(100002,[],.aap 83 54),(100003,[],.box 133 (abx adU [(19,.r 0),(20,.r 1),(35,.r 2)]))],[(0,.v 67)]⟩
def adZ:aq BT:=⟨187,2,4,aaZ,af2,λa=>xg L (ams a) (UW a)⟩
def aqF:bY:=⟨[(0,[19],.aap 101 41),(0,[20],.aap 101 41),(0,[35],.aap 83 54),(0,[],.box 133 (abx adU [(19,.r 0),(20,.r 1),(35,.r 2)]))],[(0,.p 3),(1,.v 65)]⟩
def aoo:bY:=⟨[(100000,[],.aap 101 41),(100001,[],.aap 101 41),(100002,[],.aap 83 54),(100003,[],.box 133 (abx adU [(19,.r 0),(20,.r 1),(35,.r 2)]))],[(0,.v 67)]⟩
def W7:aq BT:=⟨113,2,4,aqF,aoo,λa=>tM L (kU a) (kT a)⟩
def adp:bY:=⟨[(0,[19],.aap 101 41),(0,[20],.aap 101 41),(0,[35],.aap 83 54),(0,[],.box 133 (abx adU [(19,.r 0),(20,.r 1),(35,.r 2)]))],[(0,.p 3),(1,.v 65)]⟩
def ain:bY:=⟨[(100000,[],.aap 101 41),(100001,[],.aap 101 41),(100002,[],.aap 83 54),(100003,[],.box 133 (abx adU [(19,.r 0),(20,.r 1),(35,.r 2)]))],[(0,.v 67)]⟩
def agl:aq BT:=⟨113,2,4,adp,ain,λa=>Qt L (kU a) (kT a)⟩
def WG:bY:=⟨[(0,[19],.aap 101 41),(0,[20],.aap 101 41),(0,[35],.aap 83 54),(0,[],.box 133 (abx adU [(19,.r 0),(20,.r 1),(35,.r 2)]))],[(0,.p 3),(1,.v 65)]⟩
def Ui:bY:=⟨[(100000,[],.aap 101 41),(100001,[],.aap 101 41),(100002,[],.aap 83 54),(100003,[],.box 133 (abx adU [(19,.r 0),(20,.r 1),(35,.r 2)]))],[(0,.v 67)]⟩
def Z7:aq BT:=⟨114,2,4,WG,Ui,λa=>xQ L (kU a) (kT a)⟩
def afP:bY:=⟨[(0,[19],.aap 101 41),(0,[20],.aap 101 41),(0,[35],.aap 83 54),(0,[],.box 133 (abx adU [(19,.r 0),(20,.r 1),(35,.r 2)]))],[(0,.p 3),(1,.v 65)]⟩
def akP:bY:=⟨[(100000,[],.aap 101 41),(100001,[],.aap 101 41),(100002,[],.aap 83 54),(100003,[],.box 133 (abx adU [(19,.r 0),(20,.r 1),(35,.r 2)]))],[(0,.v 67)]⟩
def aiD:aq BT:=⟨115,2,4,afP,akP,λa=>xE L (kU a) (kT a)⟩
def ZG:aq BT:=cV 15 [56,65] [56,67] λa=>w7 L a.1 a.2
def afr:aq BT:=cV 20 [56,62] [56] λa=>Rs L a.1 a.2
def ak3:aq BT:=cV 65 [] [159] λa=>Ol L
def acg:bY:=⟨[],[(0,.v 140),(1,.q amv)]⟩
def ZY:aq BT:=⟨195,2,0,acg,⟨[],[(0,.v 4)]⟩,λa=>Qz L (VG a) (abC a)⟩
def afJ:bY:=⟨[],[(0,.v 44),(1,.f 195 [] [.q amv])]⟩
def akB:aq BT:=⟨116,2,0,afJ,⟨[],[(0,.v 3)]⟩,λa=>Ma L (QN a) (P0 a)⟩
end Go.X.T
namespace Go.X.T
open Go Go.Aml Go.Bml Go.X Go.Proofs
variable (L:Lp)
def aqa:bY:=⟨[],[(0,.v 44),(1,.f 195 [] [.q amv])]⟩
def anU:aq BT:=⟨49,2,0,aqa,⟨[],[(0,.v 4)]⟩,λa=>Th L (QN a) (P0 a)⟩
def afg:aq BT:=cV 122 [56,46] [4] λa=>GK L a.1 a.2
def akN:aq BT:=cV 121 [56] [4] λa=>LL L a
def aqp:aq BT:=cV 123 [56] [4] λa=>PU L a
def ahE:bY:=⟨[],[(0,.v 3),(1,.q amv)]⟩
def afp:aq BT:=⟨260,2,0,ahE,⟨[],[(0,.v 4)]⟩,λa=>OJ L (SY a) (Mx a)⟩
def Vy:bY:=⟨[],[(0,.v 3),(1,.f 260 [] [.q amv])]⟩
def ap0:aq BT:=⟨46,2,0,Vy,⟨[(0,[],.aap 3 22)],[(0,.r 0)]⟩,λa=>QU L (SY a) (Mx a)⟩
def aha:aq BT:=cV 197 [56] [22] λa=>FN L a
def amC:aq BT:=cV 124 [56] [4] λa=>QK L a
def VZ:bY:=⟨[],[(0,.v 88),(1,.q amv)]⟩
def abQ:aq BT:=⟨199,2,0,VZ,⟨[],[(0,.v 4)]⟩,λa=>Oy L (YR a) (ad4 a)⟩
def ahr:bY:=⟨[],[(0,.v 31),(1,.f 199 [] [.q amv])]⟩
def ama:aq BT:=⟨221,2,0,ahr,⟨[],[(0,.v 3)]⟩,λa=>Na L (RK a) (QT a)⟩
def Vk:bY:=⟨[],[(0,.v 31),(1,.f 199 [] [.q amv])]⟩
def apP:aq BT:=⟨153,2,0,Vk,⟨[],[(0,.v 4)]⟩,λa=>Rp L (RK a) (QT a)⟩
def agW:aq BT:=cV 126 [56] [4] λa=>Nd L a
def amn:aq BT:=cV 125 [56] [4] λa=>Rh L a
def VE:aq BT:=⟨133,2,0,⟨[],[(0,.v 3),(1,.q [.v 22])]⟩,⟨[],[(0,.v 4)]⟩,λa=>uh L a.1 a.2⟩
def aje:aq BT:=⟨147,2,0,⟨[],[(0,.v 22),(1,.f 133 [] [.q [.v 22]])]⟩,⟨[],[(0,.v 3)]⟩,λa=>Jg L a.1 a.2⟩
def aoP:aq BT:=⟨86,2,0,⟨[],[(0,.v 22),(1,.f 133 [] [.q [.v 22]])]⟩,⟨[],[(0,.v 4)]⟩,λa=>CG L a.1 a.2⟩
def YN:aq BT:=⟨134,2,0,⟨[],[(0,.v 3),(1,.q [.f 133 [] [.q [.v 22]]])]⟩,⟨[],[(0,.v 4)]⟩,λa=>zq L a.1 a.2⟩
def alu:aq BT:=⟨147,2,0,⟨[],[(0,.v 22),(1,.f 134 [] [.q [.f 133 [] [.q [.v 22]]]])]⟩,⟨[],[(0,.v 3)]⟩,λa=>FW L a.1 a.2⟩
def UH:aq BT:=⟨86,2,0,⟨[],[(0,.v 22),(1,.f 134 [] [.q [.f 133 [] [.q [.v 22]]]])]⟩,⟨[],[(0,.v 4)]⟩,λa=>zo L a.1 a.2⟩
def abm:aq BT:=cV 69 [140,3,22,3] [4,4] λa=>Cx L a.1 a.2.1 a.2.2.1 a.2.2.2
def anY:aq BT:=cV 27 [46,22,3] [90] λa=>Ew L a.1 a.2.1 a.2.2
def Xq:aq BT:=cV 127 [56] [4] λa=>Ow L a
def adL:aq BT:=⟨264,3,0,⟨[],[(0,.v 75),(1,.q [.v 3]),(2,.q [.v 3])]⟩,⟨[],[(0,.v 4)]⟩,λa=>Lf L a.1 a.2.1 a.2.2⟩
def aqr:aq BT:=⟨306,2,0,⟨[],[(0,.v 53),(1,.f 264 [] [.q [.v 3],.q [.v 3]])]⟩,⟨[],[(0,.v 3)]⟩,λa=>Qo L a.1 a.2.1 a.2.2⟩
def aal:aq BT:=⟨263,2,0,⟨[],[(0,.v 53),(1,.f 264 [] [.q [.v 3],.q [.v 3]])]⟩,⟨[],[(0,.v 4)]⟩,λa=>O7 L a.1 a.2.1 a.2.2⟩
def aga:aq BT:=cV 202 [56,3,3] [4] λa=>KD L a.1 a.2.1 a.2.2
def alx:bY:=⟨[],[(0,.v 83),(1,.q amv)]⟩
def Ua:aq BT:=⟨201,2,0,alx,⟨[],[(0,.v 4)]⟩,λa=>OU L (UL a) (aaD a)⟩
def aaF:bY:=⟨[],[(0,.v 54),(1,.f 201 [] [.q amv])]⟩
def afK:aq BT:=⟨262,2,0,aaF,⟨[],[(0,.v 3)]⟩,λa=>NP L (NM a) (PH a)⟩
def ale:bY:=⟨[],[(0,.v 54),(1,.f 201 [] [.q amv])]⟩
def aqg:aq BT:=⟨200,2,0,ale,⟨[],[(0,.v 4)]⟩,λa=>Sa L (NM a) (PH a)⟩
def aab:aq BT:=cV 128 [56] [4] λa=>NV L a
def afU:aq BT:=cV 129 [56] [4] λa=>Nl L a
def Wk:aq BT:=cV 130 [56] [4] λa=>Ng L a
def acO:aq BT:=cV 23 [56] [22] λa=>N8 L a
def aih:aq BT:=cV 9 [] [4] λa=>vn L
def Zq:aq BT:=⟨10,1,0,⟨[],[(0,.v 22)]⟩,⟨[(0,[],.box 122 [.v 22,.i .i64 0])],[(0,.p 0)]⟩,λa=>NC L a⟩
def afa:aq BT:=cV 19 [3,3] [3] λa=>Ie L a.1 a.2
def akI:aq BT:=⟨13,2,1,⟨[(0,[],.box 122 [.v 22,.v 3])],[(0,.p 0),(1,.v 3)]⟩,⟨[(100000,[],.box 122 [.v 22,.v 3])],[(0,.v 3)]⟩,λa=>eO L (bD.mk a.1 a.2.1) a.2.2⟩
def abV:aq BT:=⟨32,2,1,⟨[(0,[],.box 122 [.v 22,.v 3])],[(0,.p 0),(1,.v 3)]⟩,⟨[(100000,[],.box 122 [.v 22,.v 3])],[(0,.v 4)]⟩,λa=>mK L (bD.mk a.1 a.2.1) a.2.2⟩
def ahA:aq BT:=⟨40,2,1,⟨[(0,[],.box 122 [.v 22,.v 3])],[(0,.p 0),(1,.v 22)]⟩,⟨[(100000,[],.box 122 [.v 22,.v 3])],[(0,.v 3)]⟩,λa=>gQ L (bD.mk a.1 a.2.1) a.2.2⟩
def am1:aq BT:=⟨37,1,1,⟨[(0,[],.box 122 [.v 22,.v 3])],[(0,.p 0)]⟩,⟨[(100000,[],.box 122 [.v 22,.v 3])],[(0,.v 30)]⟩,λa=>zN L (bD.mk a.1 a.2)⟩
def aeh:aq BT:=⟨24,2,1,⟨[(0,[],.box 122 [.v 22,.v 3])],[(0,.p 0),(1,.v 3)]⟩,⟨[(100000,[],.box 122 [.v 22,.v 3])],[(0,.v 22)]⟩,λa=>A9 L (bD.mk a.1 a.2.1) a.2.2⟩
def ajQ:aq BT:=⟨38,2,1,⟨[(0,[],.box 122 [.v 22,.v 3])],[(0,.p 0),(1,.v 30)]⟩,⟨[(100000,[],.box 122 [.v 22,.v 3])],[(0,.v 32)]⟩,λa=>BX L (bD.mk a.1 a.2.1) a.2.2⟩
def apq:aq BT:=⟨39,2,1,⟨[(0,[],.box 122 [.v 22,.v 3])],[(0,.p 0),(1,.v 30)]⟩,⟨[(100000,[],.box 122 [.v 22,.v 3])],[(0,.v 36)]⟩,λa=>Cq L (bD.mk a.1 a.2.1) a.2.2⟩
def Zt:aq BT:=cV 275 [90,3,3] [4] λa=>xG L a.1 a.2.1 a.2.2
def al3:aq BT:=cV 219 [30] [67] λa=>EI L a
def Vh:aq BT:=cV 220 [115,4] [3,3] λa=>Da L a.1 a.2
def abZ:aq BT:=cV 151 [30,3,4,3,3,3] [3] λa=>Gv L a.1 a.2.1 a.2.2.1 a.2.2.2.1 a.2.2.2.2.1 a.2.2.2.2.2
def aox:aq BT:=cV 91 [30,3,4] [3] λa=>wm L a.1 a.2.1 a.2.2
def Yn:aq BT:=cV 26 [22,3] [4] λa=>xb L a.1 a.2
def ael:aq BT:=cV 41 [30,22] [22] λa=>Dt L a.1 a.2
def Ul:aq BT:=⟨12,1,1,⟨[(0,[],.box 122 [.v 22,.v 3])],[(0,.p 0)]⟩,⟨[(100000,[],.box 122 [.v 22,.v 3])],[(0,.v 60)]⟩,λa=>zy L (bD.mk a.1 a.2)⟩
def aaU:aq BT:=cV 11 [60] [56,4] λa=>Cw L a
def agD:aq BT:=⟨42,6,1,⟨[(0,[],.box 122 [.v 22,.v 3])],[(0,.p 0),(1,.v 3),(2,.v 3),(3,.v 3),(4,.v 3),(5,.v 3)]⟩,⟨[(100000,[],.box 122 [.v 22,.v 3])],[(0,.v 65)]⟩,λa=>Di L (bD.mk a.1 a.2.1) a.2.2.1 a.2.2.2.1 a.2.2.2.2.1 a.2.2.2.2.2.1 a.2.2.2.2.2.2⟩
def WZ:aq BT:=⟨14,3,1,⟨[(0,[],.box 122 [.v 22,.v 3])],[(0,.p 0),(1,.v 56),(2,.v 3)]⟩,⟨[(100000,[],.box 122 [.v 22,.v 3])],[(0,.v 62)]⟩,λa=>EJ L (bD.mk a.1 a.2.1) a.2.2.1 a.2.2.2⟩
end Go.X.T
namespace Go.X.T
open Go Go.Aml Go.Bml Go.X Go.Proofs
variable (L:Lp)
def att:aq BT:=cV 66 [46] [3] λa=>asb L a
def auj:aq BT:=⟨68,4,0,⟨[],[(0,.v 140),(1,.q [.v 3]),(2,.q [.v 22]),(3,.q [.v 3])]⟩,⟨[],[(0,.v 4)]⟩,λa=>ar0 L a.1 a.2.1 a.2.2.1 a.2.2.2⟩
def as1:aq BT:=⟨116,2,0,⟨[],[(0,.v 44),(1,.f 68 [] [.q [.v 3],.q [.v 22],.q [.v 3]])]⟩,⟨[],[(0,.v 3)]⟩,λa=>asa L a.1 a.2.1 a.2.2.1 a.2.2.2⟩
def atL:aq BT:=⟨49,2,0,⟨[],[(0,.v 44),(1,.f 68 [] [.q [.v 3],.q [.v 22],.q [.v 3]])]⟩,⟨[],[(0,.v 4)]⟩,λa=>ar8 L a.1 a.2.1 a.2.2.1 a.2.2.2⟩
def auw:aq BT:=⟨67,4,0,⟨[],[(0,.v 3),(1,.q [.v 44]),(2,.q [.v 22]),(3,.q [.v 3])]⟩,⟨[],[(0,.v 4)]⟩,λa=>ar6 L a.1 a.2.1 a.2.2.1 a.2.2.2⟩
def atk:aq BT:=⟨46,2,0,⟨[],[(0,.v 3),(1,.f 67 [] [.q [.v 44],.q [.v 22],.q [.v 3]])]⟩,⟨[(0,[],.aap 3 22)],[(0,.r 0)]⟩,λa=>arY L a.1 a.2.1 a.2.2.1 a.2.2.2⟩
def auc:aq BT:=cV 25 [46,22,3] [22] λa=>ar4 L a.1 a.2.1 a.2.2
def asf:aq BT:=cV 5 [22] [4] λa=>asg L a
end Go.X.T
namespace Go.X
open Go Go.Aml Go.Bml
structure cN (P:Program) (B:Tb) (n:Nat) (e:Ev B.D n):Prop where
 row:∀(m:Nat) (xs:List (B.D m)) (x:B.D n),e.up (.row m xs)=c6 x->e.tv x= .row m xs
 el:∀(x:B.D n) (m:Nat) (xs:List (B.D m)),e.tv x= .row m xs->m=B.el n
 tv:∀(x:B.D n),pv B (e.tv x)=(B.ty n).enc x
 lt:∀(x:B.D n),cE 0 ((B.ty n).enc x)
 up:∀(t:TV B.D) (x:B.D n),e.up t=c6 x->cE 0 (pv B t)/\Cc (pv B t) ((B.ty n).enc x)
 wid:∀(x:B.D n),((B.ty n).enc x).cells.length=B.sz n
 one:∀(x:B.D n),((B.ty n).enc x).cells.all PV.one=true
 pos:0<B.sz n
 xw:∀(x:B.D n) (vs:List PV),(B.ty n).enc x≠ .bu vs
 ic:B.D n->cH P n=c6 (B.sz n)
 flat:∀(x:B.D n),B.flat n=true->∀(j:Nat) (c:PV),((B.ty n).enc x).cells[j]?=c6 c->∀(F F':Nat->Prop) (w w':World) (v:Value),VI F w c v->VI F' w' c v
structure cK (P:Program) (B:Tb) (n:Nat) (e:Ev B.D n):Prop where
 ok:cN P B n e
 leaf:∀x:B.D n,((B.ty n).enc x).cells=[(B.ty n).enc x]
section
variable {P:Program}{B:Tb}
def afw(c:(n:Nat)->Ev B.D n)(b:∀n,B.tv n=(c n).tv)(d:∀n,B.up n=(c n).up)(a:∀n,cN P B n (c n)):cU P B where
 row n m xs x hx:=by rw[b];rw[d] at hx;exact(a n).row m xs x hx
 el n x m xs hx:=by rw[b] at hx;exact(a n).el x m xs hx
 tv n x:=by rw[b];exact(a n).tv x
 lt n x:=(a n).lt x
 up n t x hx:=by rw[d] at hx;exact(a n).up t x hx
 wid n x:=(a n).wid x
 one n x:=(a n).one x
 pos n:=(a n).pos
 xw n x vs:=(a n).xw x vs
 ic n x:=(a n).ic x
 flat n x:=(a n).flat x
def amI{n:Nat}{d:Ev B.D n}(b:B.D n->False)(c:0<B.sz n):cN P B n d:=
 ⟨λ_ _ a _=>(b a).elim,λa=>(b a).elim,λa=>(b a).elim,λa=>(b a).elim,λ_ a _=>(b a).elim,λa=>(b a).elim,λa=>(b a).elim,c,λa=>(b a).elim,λa=>(b a).elim,λa=>(b a).elim⟩
variable {n:Nat}
def vv{c:Ev B.D n}(row:∀(b:Nat) (f:List (B.D b)) (a:B.D n),c.up (.row b f)=c6 a->c.tv a= .row b f)
 (x:∀(a:B.D n) (b:Nat) (f:List (B.D b)),c.tv a= .row b f->b=B.el n)
 (w:∀(a:B.D n),pv B (c.tv a)=(B.ty n).enc a)
 (lt:∀(a:B.D n),cE 0 ((B.ty n).enc a))
 (t:∀(h:TV B.D) (a:B.D n),c.up h=c6 a->cE 0 (pv B h)/\Cc (pv B h) ((B.ty n).enc a))
 (g:∀a:B.D n,((B.ty n).enc a).one=true) (i:B.sz n=1) (r:cH P n=c6 1)
 (o:∀(a:B.D n),B.flat n=true->∀(k q:Nat->Prop) (p s:World) (v:Value),VI k p ((B.ty n).enc a) v->VI q s ((B.ty n).enc a) v):cK P B n c:=by
 have e:∀a:B.D n,((B.ty n).enc a).cells=[(B.ty n).enc a]:=λa=>by
  have:=g a;generalize (B.ty n).enc a=j at this⊢;cases j <;> first |rfl |(simp[PV.one] at this;done)
 refine⟨⟨row,x,w,lt,t,λa=>by rw[e,i];rfl,λa=>by rw[e];simp[g a],by omega,λa vs u=>?_,λ_=>by rw[r,i],λa l m j d=>?_⟩,e⟩
 .have:=g a;rw[u] at this;simp[PV.one] at this
 .rw[e] at d
  match m,d with
  |0,d=>
   simp at d;subst d;exact o a l
def vR{g:IntKind}{d:B.D n=Int}(c:∀a,(B.ty n).enc a= .int g (dA d a))(k:B.sz n=1)(j:cH P n=c6 1):cK P B n (fA B.D g d):=by
 refine vv (λe l a b=>by simp[fA] at b) (λa e l b=>by simp[fA] at b) (λa=>by rw[c];rfl) (λa=>by rw[c];exact .int _ _) (λm a b=>?_) (λa=>by rw[c];rfl) k j (λa _ o p r q v h=>by rw[c] at h⊢;cases h;exact .int _ _)
 rw[c];cases m with
 |int s e=>
  simp only[fA] at b;obtain⟨i,f⟩:=a8 b;injection f with f
  subst f;rw[qh i];simp only[pv];refine⟨.int _ _,?_⟩
  have:dA d (dA d.symm e)=e:=by simp[dA]
  rw[this];exact .refl _
 |_=>simp[fA] at b
def agM{d:B.D n=Bool}(c:∀a,(B.ty n).enc a= .bool (dA d a))(h:B.sz n=1)(g:cH P n=c6 1):cK P B n (nE B.D d):=by
 refine vv (λe i a b=>by simp[nE] at b) (λa e i b=>by simp[nE] at b) (λa=>by rw[c];rfl) (λa=>by rw[c];exact .bool _) (λj a b=>?_) (λa=>by rw[c];rfl) h g (λa _ k l m o v f=>by rw[c] at f⊢;cases f;exact .bool _)
 rw[c];cases j with
 |bool e=>
  simp only[nE] at b;injection b with h2
  subst h2;simp only[pv];refine⟨.bool _,?_⟩
  have:dA d (dA d.symm e)=e:=by simp[dA]
  rw[this];exact .refl _
 |_=>simp[nE] at b
def Lq{d:B.D n=Option Nat}(g:∀b,(B.ty n).enc b=aob (dA d b))(r:B.sz n=1)(p:cH P n=c6 1):cK P B n (iR B.D d):=by
 have j:∀c,dA d (dA d.symm c)=c:=λc=>by simp[dA]
 have h:∀c,cE 0 (aob c):=λc=>by
  cases c with
  |none=>exact .dB
  |some f=>exact .fn _ _ _ (by simp) (by simp)
 refine vv (λu i b a=>by simp[iR] at a) (λb u i a=>by simp[iR] at a) (λb=>?_) (λb=>by rw[g];exact h _) (λt b a=>?_) (λb=>?_) r p (λb _ w z x A v e=>?_)
 .rw[g];show pv B (.jC (dA d b))=_
  cases dA d b <;> rfl
 .rw[g];cases t with
  |jC c=>
   simp only[iR] at a;injection a with h2
   subst h2;rw[j];cases c with
   |none=>exact⟨.dB,.refl _⟩
   |some f=>exact⟨h (c6 f),.refl _⟩
  |dB=>
   simp only[iR] at a;injection a with h2
   subst h2;rw[j];exact⟨.dB,.refl _⟩
  |fn f q l=>
   match q,l,a with
   |[],[],a=>
    simp only[iR] at a;injection a with h2
    subst h2;rw[j];exact⟨h (c6 f),.refl _⟩
   |[],_::_,a=>simp[iR] at a
   |_::_,_,a=>simp[iR] at a
  |_=>simp[iR] at a
 .rw[g];cases dA d b <;> rfl
 .rw[g] at e⊢;cases k:dA d b with
  |none=>
   rw[k] at e;cases e
   exact .dB
  |some f=>
   rw[k] at e;cases e with
   |fn _ _ _ i s m e o y=>
    have:i=[]:=e4 (by simpa using m.symm);subst this;have:s=[]:=e4 (by simpa using o.symm);subst this;exact .fn f [] [] [] [] rfl (by simp) rfl (by simp)
def iA{c:Nat}{f:B.D n=List (B.D c)}(d:∀b,(B.ty n).enc b= .vs (B.sz c) ((dA f b).map (B.ty c).enc))(m:B.sz n=1)(l:cH P n=c6 1)(q:B.el n=c)(p:B.flat n=false):cK P B n (bJ B.D c f):=by
 have e:∀h,dA f (dA f.symm h)=h:=λh=>by simp[dA]
 refine vv (λk j b a=>?_) (λb k j a=>?_) (λb=>by rw[d];rfl) (λb=>by rw[d];exact .vs _ _) (λo b a=>?_) (λb=>by rw[d];rfl) m l (λb i=>by rw[p] at i;cases i)
 .simp only[bJ] at a⊢
  split at a
  .rename_i g;subst g;injection a with a
   subst a;rw[e]
  .cases a
 .simp only[bJ] at a;injection a with h1 h2
  exact h1.symm.trans q.symm
 .rw[d];cases o with
  |row k j=>
   simp only[bJ] at a
   split at a
   .rename_i g;subst g;injection a with a
    subst a;rw[e];exact⟨.vs _ _,.refl _⟩
   .cases a
  |bg=>
   simp only[bJ] at a;injection a with a
   subst a;rw[e];exact⟨.bg,.nil _⟩
  |z0=>
   simp only[bJ] at a;injection a with a
   subst a;rw[e];exact⟨.z0,.z0 _⟩
  |_=>simp[bJ] at a
def alG{f d:Nat}{b:B.D n=List (B.D f)}{l:B.D f=List (B.D d)}(u:∀s,(B.ty f).enc s= .vs (B.sz d) ((dA l s).map (B.ty d).enc))(k:∀c,(B.ty n).enc c= .vs (B.sz f) ((dA b c).map (B.ty f).enc))(A:B.sz n=1)(z:cH P n=c6 1)(x:B.el n=f)(F:B.flat n=false):cK P B n (lx B.D f d b l):=by
 have j:∀p,dA b (dA b.symm p)=p:=λp=>by simp[dA]
 refine vv (λd o c a=>?_) (λc d o a=>?_) (λc=>by rw[k];rfl) (λc=>by rw[k];exact .vs _ _) (λD c a=>?_) (λc=>by rw[k];rfl) A z (λc q=>by rw[F] at q;cases q)
 .simp only[lx,pM] at a⊢
  split at a
  .rename_i h;subst h;injection a with a
   subst a;rw[j]
  .cases a
 .simp only[lx,pM] at a;injection a with h1 l
  exact h1.symm.trans x.symm
 .rw[k];cases D with
  |row d o=>
   simp only[lx,pM] at a
   split at a
   .rename_i h;subst h;injection a with a
    subst a;rw[j];exact⟨.vs _ _,.refl _⟩
   .cases a
  |bg=>
   simp only[lx,pM] at a;injection a with a
   subst a;rw[j];exact⟨.bg,.nil _⟩
  |z0=>
   simp only[lx,pM] at a;injection a with a
   subst a;rw[j];exact⟨.z0,.z0 _⟩
  |rv m e=>
   simp only[lx,pM] at a;obtain⟨G,a⟩:=a8 a;obtain rfl:=beq_eq G
   split at a
   .rename_i g v;injection a with a
    subst a;rw[j];have y:∀(e:List (TV B.D)) (g:List (List (B.D d))),uO B.D d e=c6 g->aP B e=(g.map (dA l.symm)).map (B.ty m).enc:=λe=>by
     induction e with
     |nil=>intro g b;simp only[uO] at b;injection b with b;subst b;rfl
     |cons C e E=>
      intro g b;cases C with
      |row i o=>
       simp only[uO] at b
       split at b
       .rename_i h;subst h
        split at b
        .rename_i r w;injection b with b
         subst b;simp only[aP,ei,E r w]
         congr 1
         rw[u];simp[dA,pv]
        .cases b
       .cases b
      |_=>simp[uO] at b
    have t:pv B (.rv m e)= .vs (B.sz m) (aP B e):=rfl;rw[t,y e g v];exact⟨.vs _ _,.refl _⟩
   .cases a
  |_=>simp[lx,pM] at a
def mJ(B:Tb):(ns:List Nat)->bi B.D ns->List PV
 |[],_=>[]
 |[n],a=>[(B.ty n).enc a]
 |n::b::ns,a=>(B.ty n).enc a.1::mJ B (b::ns) a.2
def Jo:∀(ns:List Nat) (a:bi B.D ns),(mJ B ns a).length=ns.length
 |[],_=>rfl
 |[_],_=>rfl
 |n::b::ns,a=>by simp only[mJ,List.length_cons,Jo (b::ns) a.2]
def N3{c:(n:Nat)->Ev B.D n}:∀(ns:List Nat) (a:bi B.D ns),(∀b,b∈ns->cK P B b (c b))->aP B (E6 B.D c ns a)=mJ B ns a
 |[],_,_=>rfl
 |[n],a,d=>by
  exact congrArg (λz=>[z]) ((d n (by simp)).ok.tv a)
 |n::b::ns,a,d=>by
  have g:=(d n (by simp)).ok.tv a.1;have f:=N3 (b::ns) a.2 λh e=>d h (by simp at e⊢;exact .inr e)
  show pv B ((c n).tv a.1)::aP B (E6 B.D c (b::ns) a.2)=(B.ty n).enc a.1::mJ B (b::ns) a.2
  rw[g,f]
def zC{i:(n:Nat)->Ev B.D n}:∀(ns:List Nat) (d:bi B.D ns),(∀b,b∈ns->cK P B b (i b))->∀c,c∈mJ B ns d->∃b,b∈ns/\∃g:B.D b,c=(B.ty b).enc g
 |[],_,_,c,a=>by simp[mJ] at a
 |[n],d,h,c,a=>by
  simp only[mJ,e5] at a;exact⟨n,by simp,d,a⟩
 |n::b::ns,d,h,c,a=>by
  simp only[mJ,e6] at a;rcases a with a |a
  .exact⟨n,by simp,d.1,a⟩
  .obtain⟨f,e,g,j⟩:=zC (b::ns) d.2 (λf e=>h f (by simp at e⊢;exact .inr e)) c a;exact⟨f,by simp at e⊢;exact .inr e,g,j⟩
def Tm{l:(n:Nat)->Ev B.D n}:∀(ns:List Nat) (k:List (TV B.D)) (c:bi B.D ns),(∀h,h∈ns->cK P B h (l h))->Au B.D l ns k=c6 c->
 k.length=ns.length/\(∀e,e∈k->cE 0 (pv B e))/\∀(i:Nat) (f g:PV),(aP B k)[i]?=c6 f->(mJ B ns c)[i]?=c6 g->Cc f g
 |[],[],c,_,_=>⟨rfl,λe j=>(List.not_mem_nil j).elim,λi f g a _=>by
  have a:(([]:List PV)[i]?)=c6 f:=a;rw[ee] at a;cases a⟩
 |[n],[e],c,m,d=>by
  obtain⟨p,o⟩:=(m n (e5.2 rfl)).ok.up e c d;refine⟨rfl,λq j=>by rw[e5.1 j];exact p,λi f g a b=>?_⟩
  match i,a,b with
  |0,a,b=>
   have a:c6 (pv B e)=c6 f:=a;have b:c6 ((B.ty n).enc c)=c6 g:=b;injection a with a
   injection b with b
   subst a;subst b;exact o
  |i+1,a,_=>
   have a:(([]:List PV)[i]?)=c6 f:=a;rw[ee] at a;cases a
 |n::h::ns,e::k,c,m,d=>by
  obtain⟨x,r⟩:=aid (show CL ((l n).up e) (Au B.D l (h::ns) k)=c6 c from d);obtain⟨p,o⟩:=(m n List.mem_cons_self).ok.up e c.1 x;obtain⟨u,s,v⟩:=Tm (h::ns) k c.2 (λt w=>m t (List.mem_cons_of_mem _ w)) r;refine⟨congrArg Nat.succ u,λq j=>?_,λi f g a b=>?_⟩
  .rcases e6.1 j with rfl |j
   .exact p
   .exact s q j
  .match i,a,b with
   |0,a,b=>
    have a:c6 (pv B e)=c6 f:=a;have b:c6 ((B.ty n).enc c.1)=c6 g:=b;injection a with a
    injection b with b
    subst a;subst b;exact o
   |i+1,a,b=>exact v i f g a b
 |[],_::_,_,_,d=>by cases (show(e0:Option (bi B.D []))=c6 _ from d)
 |[n],[],_,_,d=>by cases (show(e0:Option (bi B.D [n]))=c6 _ from d)
 |[n],_::_::_,_,_,d=>by cases (show(e0:Option (bi B.D [n]))=c6 _ from d)
 |n::h::ns,[],_,_,d=>by cases (show(e0:Option (bi B.D (n::h::ns)))=c6 _ from d)
def eS{p:(n:Nat)->Ev B.D n}{l:Type}{ns:List Nat}{mk:bi B.D ns->l}{k:l->bi B.D ns}{j:B.D n=l}(e:∀a,a∈ns->cK P B a (p a))(w:∀c,k (mk c)=c)
 (h:∀d,(B.ty n).enc d= .agg (mJ B ns (k (dA j d)))) (r:B.sz n=ns.length) (N:0<ns.length) (q:cH P n=c6 ns.length) (K:B.flat n=true->∀a,a∈ns->B.flat a=true):cN P B n (cw B.D p ns mk k j):=by
 have J:∀o,dA j (dA j.symm o)=o:=λo=>by simp[dA]
 constructor
 case row=>intro D C d b;simp[cw] at b
 case el=>intro d D C b;simp[cw] at b
 case tv=>
  intro d;rw[h];simp only[cw,pv];rw[N3 ns _ e]
 case lt=>
  intro d;rw[h];refine .agg _ λi f=>?_
  obtain⟨a,g,c,rfl⟩:=zC ns _ e i f;exact(e a g).ok.lt c
 case up=>
  intro m d b;rw[h];cases m with
  |agg A=>
   simp only[cw] at b
   split at b
   .rename_i c L;injection b with b
    subst b;obtain⟨G,E,I⟩:=Tm ns A c e L;rw[J,w];simp only[pv];refine⟨.agg _ λi f=>?_,.agg _ _ ?_ I⟩
    .rw[db] at f;obtain⟨m,z,rfl⟩:=List.mem_map.1 f;exact E m z
    .rw[db,List.length_map,Jo,G]
   .cases b
  |_=>simp[cw] at b
 case wid=>
  intro d;rw[h,r];exact Jo _ _
 case one=>
  intro d;rw[h];refine ef.2 λi f=>?_
  obtain⟨a,g,c,rfl⟩:=zC ns _ e i f;have s:=(e a g).ok.one c;rw[(e a g).leaf c] at s;simpa using s
 case pos=>omega
 case xw=>intro d vs b;rw[h] at b;cases b
 case ic=>intro _;rw[q,r]
 case flat=>
  intro d t M i f u y x F v H;rw[h] at f;obtain⟨a,g,c,rfl⟩:=zC ns _ e i (List.mem_of_getElem? f);exact(e a g).ok.flat c (K t a g) 0 _ (by rw[(e a g).leaf c];rfl) u y x F v H
end
def ahP(b:List (Nat×Ty))(n:Nat):(n∈b.map (·.1))\/Br b n=⟨Empty,λ_=>.any⟩:=by
 induction b with
 |nil=>exact .inr rfl
 |cons p b a=>
  simp only[Br,ei,e6];cases c:dT p.1 n with
  |true=>exact .inl (.inl (beq_eq c).symm)
  |false=>rcases a with a |a
          .exact .inl (.inr a)
          .exact .inr a
def P5{e:Type _}:∀(d:List (List e)) (q:Nat) (a:e),a∈px d q->∃c,c∈d/\a∈c
 |[],_,a,b=>by simp[px] at b
 |c::d,0,a,b=>⟨c,by simp,b⟩
 |c::d,q+1,a,b=>let ⟨g,f,h⟩:=P5 d q a b;⟨g,by simp[f],h⟩
def amT(a:List (Nat×xz))(n:Nat)(b:(a.all λp=>Nat.blt 0 p.2.sz)=true):0<(Eu a n).sz:=by
 induction a with
 |nil=>exact Nat.one_pos
 |cons p a c=>
  simp only[ec,ea] at b;simp only[Eu];cases dT p.1 n with
  |true=>exact Nat.le_of_ble_eq_true b.1
  |false=>exact c b.2
def Qa{d:Type _}{f:d->Bool}:∀(b:List (List d)) (q:Nat),(b.all λc=>c.all f)=true->(px b q).all f=true
 |[],_,_=>rfl
 |c::b,0,a=>by simp only[ec,ea] at a;exact a.1
 |c::b,q+1,a=>by simp only[ec,ea] at a;exact Qa b q a.2
def Sp(p:Nat->Prop):List Nat->Prop
 |[]=>True
 |b::a=>p b/\Sp p a
def F2{p:Nat->Prop}:∀(c:List Nat),Sp p c->∀a,a∈c->p a
 |[],_,a,b=>by simp at b
 |e::c,b,a,d=>by
  rcases e6.1 d with rfl |d
  .exact b.1
  .exact F2 c b.2 a d
def e8{c b:List Nat}(d:(c.all λa=>b.contains a)=true):∀a,a∈c->a∈b:=λa e=>by
 have:=ef.1 d a e;simpa using this
end Go.X
