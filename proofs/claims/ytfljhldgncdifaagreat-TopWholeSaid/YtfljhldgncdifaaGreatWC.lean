/- For TopWhole, part 3. -/
import Derived.Test.YtfljhldgncdifaaGreatWB
import Derived.Test.YtfljhldgncdifaaGreatProg
import Derived.KernelRfl
set_option linter.defProp false
set_option linter.unusedVariables false
set_option linter.unusedSimpArgs false
set_option maxHeartbeats 0
set_option maxRecDepth 100000
open Go.IntKind renaming wrap → c3, i64 → c4, u64 → dv, u8 → e4
open Decidable renaming decide → c5
open Option renaming some → c6, none → e0
open Sum renaming inr → c7, inl → dd, elim → dt
open List renaming map → dk
open Nat renaming beq → dT
namespace Go.X.T
open Go Go.Aml Go.Bml Go.X
variable (L:Lp)
abbrev yc:Type:=List Int
def ixL{b:Type}(c:List b)(p:b->Option Bool)(a:Int):Option (Int⊕(Int⊕Unit)):=bif c5 (a<(c.length:Int)) then(aj c a).bind λe=>(p e).bind λd=>bif d then c6 (c7 (dd a)) else c6 (dd (c3 c4 (a+1))) else c6 (c7 (c7 ()))
structure bP where
 eU:Int
 wj:Bool
 deriving DecidableEq,Inhabited
def bP.enc(x:bP):PV:=.agg [.int .i64 x.eU,.bool x.wj]
structure bI where
 eF:Int
 fk:Int
 deriving DecidableEq,Inhabited
def bI.enc(x:bI):PV:=.agg [.int .i64 x.eF,.int .i64 x.fk]
structure aZ where
 an:Int
 To:Int
 aj3:Int
 bT:Int
 jy:Bool
 eN:Bool
 anC:bI
 eI:bI
 deriving DecidableEq,Inhabited
def aZ.enc(x:aZ):PV:=.agg [.int .i64 x.an,.int .i64 x.To,.int .i64 x.aj3,.int .i64 x.bT,.bool x.jy,.bool x.eN,.int .i64 x.anC.eF,.int .i64 x.anC.fk,.int .i64 x.eI.eF,.int .i64 x.eI.fk]
structure aS where
 ai:yc
 dX:Int
 dY:Int
 cR:Int
 deriving DecidableEq,Inhabited
def aS.enc(x:aS):PV:=.agg [.vs 1 (dk (PV.int .i64) x.ai),.int .i64 x.dX,.int .i64 x.dY,.int .i64 x.cR]
structure ak where
 ai:List bP
 af:List aZ
 deriving DecidableEq,Inhabited
def ak.enc(x:ak):PV:=.agg [.vs 2 (dk bP.enc x.ai),.vs 10 (dk aZ.enc x.af)]
structure bE where
 akL:yc
 dg:yc
 dG:yc
 er:Int
 deriving DecidableEq,Inhabited
def bE.enc(x:bE):PV:=.agg [.vs 1 (dk (PV.int .i64) x.akL),.vs 1 (dk (PV.int .i64) x.dg),.vs 1 (dk (PV.int .i64) x.dG),.int .i64 x.er]
structure cd where
 bT:yc
 dZ:Int
 ed:Int
 deriving DecidableEq,Inhabited
def cd.enc(x:cd):PV:=.agg [.vs 1 (dk (PV.int .i64) x.bT),.int .i64 x.dZ,.int .i64 x.ed]
structure bC where
 abG:Int
 akw:Int
 ami:Int
 deriving DecidableEq,Inhabited
def bC.enc(x:bC):PV:=.agg [.int .i64 x.abG,.int .i64 x.akw,.int .i64 x.ami]
structure aB where
 ao:ak
 aa0:Int
 aN:List bC
 aw:yc
 aQ:List aS
 cn:yc
 cf:yc
 bp:List (yc)
 deriving DecidableEq,Inhabited
def aB.enc(x:aB):PV:=.agg [.vs 2 (dk bP.enc x.ao.ai),.vs 10 (dk aZ.enc x.ao.af),.int .i64 x.aa0,.vs 3 (dk bC.enc x.aN),.vs 1 (dk (PV.int .i64) x.aw),.vs 4 (dk aS.enc x.aQ),.vs 1 (dk (PV.int .i64) x.cn),.vs 1 (dk (PV.int .i64) x.cf),.vs 1 (dk (λa=>PV.vs 1 (dk (PV.int .i64) a)) x.bp)]
structure pL where
 m:ak
 KE:List bI
 from_:yc
 deriving DecidableEq,Inhabited
def pL.enc(x:pL):PV:=.agg [.vs 2 (dk bP.enc x.m.ai),.vs 10 (dk aZ.enc x.m.af),.vs 2 (dk bI.enc x.KE),.vs 1 (dk (PV.int .i64) x.from_)]
structure bQ where
 aa0:Int
 an:yc
 deriving DecidableEq,Inhabited
def bQ.enc(x:bQ):PV:=.agg [.int .i64 x.aa0,.vs 1 (dk (PV.int .i64) x.an)]
structure b7 where
 State:Int
 dD:Int
 akU:Int
 aa0:Int
 deriving DecidableEq,Inhabited
def b7.enc(x:b7):PV:=.agg [.int .i64 x.State,.int .i64 x.dD,.int .i64 x.akU,.int .i64 x.aa0]
structure bA where
 af:yc
 aa2:yc
 Out:Bool
 deriving DecidableEq,Inhabited
def bA.enc(x:bA):PV:=.agg [.vs 1 (dk (PV.int .i64) x.af),.vs 1 (dk (PV.int .i64) x.aa2),.bool x.Out]
structure kD where
 up:Int
 down:Int
 level:Int
 deriving DecidableEq,Inhabited
def kD.enc(x:kD):PV:=.agg [.int .i64 x.up,.int .i64 x.down,.int .i64 x.level]
structure aM where
 aa0:Int
 an:yc
 deriving DecidableEq,Inhabited
def aM.enc(x:aM):PV:=.agg [.int .i64 x.aa0,.vs 1 (dk (PV.int .i64) x.an)]
structure ay where
 aw:yc
 aH:List aM
 deriving DecidableEq,Inhabited
def ay.enc(x:ay):PV:=.agg [.vs 1 (dk (PV.int .i64) x.aw),.vs 2 (dk aM.enc x.aH)]
structure aL where
 aA:List ay
 deriving DecidableEq,Inhabited
def aL.enc(x:aL):PV:=.agg [.vs 2 (dk ay.enc x.aA)]
structure aT where
 agX:Int
 aj6:Int
 aa0:Int
 aw:yc
 deriving DecidableEq,Inhabited
def aT.enc(x:aT):PV:=.agg [.int .i64 x.agX,.int .i64 x.aj6,.int .i64 x.aa0,.vs 1 (dk (PV.int .i64) x.aw)]
structure cZ where
 dl:yc
 dr:yc
 deriving DecidableEq,Inhabited
def cZ.enc(x:cZ):PV:=.agg [.vs 1 (dk (PV.int .i64) x.dl),.vs 1 (dk (PV.int .i64) x.dr)]
structure cy where
 abv:Int
 eB:Int
 anS:Int
 ku:Int
 l9:Int
 sd:Bool
 uV:Bool
 mZ:Int
 pB:Int
 deriving DecidableEq,Inhabited
def cy.enc(x:cy):PV:=.agg [.int .i64 x.abv,.int .i64 x.eB,.int .i64 x.anS,.int .i64 x.ku,.int .i64 x.l9,.bool x.sd,.bool x.uV,.int .i64 x.mZ,.int .i64 x.pB]
structure bH where
 abv:Int
 A:Int
 B:Int
 C:Int
 deriving DecidableEq,Inhabited
def bH.enc(x:bH):PV:=.agg [.int .i64 x.abv,.int .i64 x.A,.int .i64 x.B,.int .i64 x.C]
structure dK where
 Event:bH
 aa0:Int
 Code:Int
 ll:yc
 deriving DecidableEq,Inhabited
def dK.enc(x:dK):PV:=.agg [.int .i64 x.Event.abv,.int .i64 x.Event.A,.int .i64 x.Event.B,.int .i64 x.Event.C,.int .i64 x.aa0,.int .i64 x.Code,.vs 1 (dk (PV.int .i64) x.ll)]
structure aE where
 au:aB
 ao:ak
 cI:List bI
 bR:bE
 bM:cd
 cq:List aT
 bZ:List aT
 cW:cZ
 bw:aL
 bz:bQ
 aa2:bA
 cL:b7
 bq:aL
 bS:List cy
 bB:List dK
 deriving DecidableEq,Inhabited
def aE.enc(x:aE):PV:=.agg [.vs 2 (dk bP.enc x.au.ao.ai),.vs 10 (dk aZ.enc x.au.ao.af),.int .i64 x.au.aa0,.vs 3 (dk bC.enc x.au.aN),.vs 1 (dk (PV.int .i64) x.au.aw),.vs 4 (dk aS.enc x.au.aQ),.vs 1 (dk (PV.int .i64) x.au.cn),.vs 1 (dk (PV.int .i64) x.au.cf),.vs 1 (dk (λa=>PV.vs 1 (dk (PV.int .i64) a)) x.au.bp),.vs 2 (dk bP.enc x.ao.ai),.vs 10 (dk aZ.enc x.ao.af),.vs 2 (dk bI.enc x.cI),.vs 1 (dk (PV.int .i64) x.bR.akL),.vs 1 (dk (PV.int .i64) x.bR.dg),.vs 1 (dk (PV.int .i64) x.bR.dG),.int .i64 x.bR.er,.vs 1 (dk (PV.int .i64) x.bM.bT),.int .i64 x.bM.dZ,.int .i64 x.bM.ed,.vs 4 (dk aT.enc x.cq),.vs 4 (dk aT.enc x.bZ),.vs 1 (dk (PV.int .i64) x.cW.dl),.vs 1 (dk (PV.int .i64) x.cW.dr),.vs 2 (dk ay.enc x.bw.aA),.int .i64 x.bz.aa0,.vs 1 (dk (PV.int .i64) x.bz.an),.vs 1 (dk (PV.int .i64) x.aa2.af),.vs 1 (dk (PV.int .i64) x.aa2.aa2),.bool x.aa2.Out,.int .i64 x.cL.State,.int .i64 x.cL.dD,.int .i64 x.cL.akU,.int .i64 x.cL.aa0,.vs 2 (dk ay.enc x.bq.aA),.vs 9 (dk cy.enc x.bS),.vs 7 (dk dK.enc x.bB)]
structure aR where
 aI:aE
 named:yc
 deriving DecidableEq,Inhabited
structure fa where
 kO:Int
 abv:Int
 Data:yc
 deriving DecidableEq,Inhabited
def fa.enc(x:fa):PV:=.agg [.int .i64 x.kO,.int .i64 x.abv,.vs 1 (dk (PV.int .u8) x.Data)]
structure dS where
 agX:Int
 Tag:Int
 an:Int
 To:Int
 deriving DecidableEq,Inhabited
def dS.enc(x:dS):PV:=.agg [.int .i64 x.agX,.int .i64 x.Tag,.int .i64 x.an,.int .i64 x.To]
structure dC where
 agX:Int
 Tag:Int
 an:Int
 To:Int
 deriving DecidableEq,Inhabited
def dC.enc(x:dC):PV:=.agg [.int .i64 x.agX,.int .i64 x.Tag,.int .i64 x.an,.int .i64 x.To]
structure kC where
 kind:Int
 Dn:Int
 deriving DecidableEq,Inhabited
def kC.enc(x:kC):PV:=.agg [.int .i64 x.kind,.int .i64 x.Dn]
structure jf where
 x:cd
 s:b7
 k:bA
 b:aL
 t:Int
 from_:Int
 deriving DecidableEq,Inhabited
def jf.enc(x:jf):PV:=.agg [.vs 1 (dk (PV.int .i64) x.x.bT),.int .i64 x.x.dZ,.int .i64 x.x.ed,.int .i64 x.s.State,.int .i64 x.s.dD,.int .i64 x.s.akU,.int .i64 x.s.aa0,.vs 1 (dk (PV.int .i64) x.k.af),.vs 1 (dk (PV.int .i64) x.k.aa2),.bool x.k.Out,.vs 2 (dk ay.enc x.b.aA),.int .i64 x.t,.int .i64 x.from_]
structure cS where
 gX:Int
 from_:Int
 b9:Int
 time:Int
 deriving DecidableEq,Inhabited
def cS.enc(x:cS):PV:=.agg [.int .i64 x.gX,.int .i64 x.from_,.int .i64 x.b9,.int .i64 x.time]
structure cm where
 n:Int
 steps:List cS
 safe:List Bool
 bad:List Bool
 deriving DecidableEq,Inhabited
def cm.enc(x:cm):PV:=.agg [.int .i64 x.n,.vs 4 (dk cS.enc x.steps),.vs 1 (dk PV.bool x.safe),.vs 1 (dk PV.bool x.bad)]
structure da where
 time:Int
 roads:Int
 deriving DecidableEq,Inhabited
def da.enc(x:da):PV:=.agg [.int .i64 x.time,.int .i64 x.roads]
structure ju where
 a0:Int
 a1:Int
 deriving DecidableEq,Inhabited
def ju.enc(x:ju):PV:=.agg [.int .i64 x.a0,.int .i64 x.a1]
structure bD where
 L:yc
 At:Int
 deriving DecidableEq,Inhabited
structure gM where
 ao:ak
 aQ:List aS
 ai:yc
 aw:yc
 cI:List bI
 bR:bE
 bM:cd
 gZ:yc
 deriving DecidableEq,Inhabited
def gM.enc(x:gM):PV:=.agg [.vs 2 (dk bP.enc x.ao.ai),.vs 10 (dk aZ.enc x.ao.af),.vs 4 (dk aS.enc x.aQ),.vs 1 (dk (PV.int .i64) x.ai),.vs 1 (dk (PV.int .i64) x.aw),.vs 2 (dk bI.enc x.cI),.vs 1 (dk (PV.int .i64) x.bR.akL),.vs 1 (dk (PV.int .i64) x.bR.dg),.vs 1 (dk (PV.int .i64) x.bR.dG),.int .i64 x.bR.er,.vs 1 (dk (PV.int .i64) x.bM.bT),.int .i64 x.bM.dZ,.int .i64 x.bM.ed,.vs 1 (dk (PV.int .i64) x.gZ)]
structure qe where
 Ho:yc
 Hp:Int
 deriving DecidableEq,Inhabited
def qe.enc(x:qe):PV:=.agg [.vs 1 (dk (PV.int .u8) x.Ho),.int .i64 x.Hp]
abbrev bU:Type:=List bP
abbrev bW:Type:=List aZ
abbrev dh:Type:=List bC
abbrev ah:Type:=yc
abbrev dq:Type:=List aS
abbrev du:Type:=List (yc)
abbrev Y1:Type:=bU×bW×Int×dh×ah×dq×ah×ah×du×Int
def u1(a:aB)(b:Int):Y1:=(a.ao.ai,a.ao.af,a.aa0,a.aN,a.aw,a.aQ,a.cn,a.cf,a.bp,b)
def CU(a:Y1):aB:=let (z0,f,c,i,d,h,e,g,b,_):=a;(aB.mk (ak.mk z0 f) c i d h e g b)
def Eg(a:Y1):Int:=a.2.2.2.2.2.2.2.2.2
abbrev Y2:Type:=bU×bW×Int×ah×dq×ah×ah×du×dh×Int
def u2(a:aB)(b:Int):Y2:=(a.ao.ai,a.ao.af,a.aa0,a.aw,a.aQ,a.cn,a.cf,a.bp,a.aN,b)
abbrev Y3:Type:=bU×bW×Int×dh×ah×dq×ah×ah×du
def u3(a:aB):Y3:=(a.ao.ai,a.ao.af,a.aa0,a.aN,a.aw,a.aQ,a.cn,a.cf,a.bp)
def wZ(a:Y3):aB:=let (z0,f,c,i,d,h,e,g,b):=a;(aB.mk (ak.mk z0 f) c i d h e g b)
abbrev Y4:Type:=bU×bW×Int×ah×dq×ah×du×dh×ah×Int
def u4(a:aB)(b:Int):Y4:=(a.ao.ai,a.ao.af,a.aa0,a.aw,a.aQ,a.cf,a.bp,a.aN,a.cn,b)
abbrev Y8:Type:=bU×bW×Int×ah×dq×dh×ah×ah×du×Int
def u8(a:aB)(b:Int):Y8:=(a.ao.ai,a.ao.af,a.aa0,a.aw,a.aQ,a.aN,a.cn,a.cf,a.bp,b)
def L6(a:Y8):aB:=let (z0,f,c,i,d,h,e,g,b,_):=a;(aB.mk (ak.mk z0 f) c h i d e g b)
def T0(a:Y8):Int:=a.2.2.2.2.2.2.2.2.2
abbrev Y9:Type:=bU×bW×Int×dh×ah×ah×ah×du×dq×Int
def u9(a:aB)(b:Int):Y9:=(a.ao.ai,a.ao.af,a.aa0,a.aN,a.aw,a.cn,a.cf,a.bp,a.aQ,b)
def Oe(a:Y9):aB:=let (z0,f,c,i,d,h,e,g,b,_):=a;(aB.mk (ak.mk z0 f) c i d b h e g)
def Nk(a:Y9):Int:=a.2.2.2.2.2.2.2.2.2
abbrev Bf:Type:=bU×bW×Int×ah×ah×ah×du×dq×Int
def Ga(a:aB)(b:Int):Bf:=(a.ao.ai,a.ao.af,a.aa0,a.aw,a.cn,a.cf,a.bp,a.aQ,b)
def Pa(g:dh)(a:Bf):aB:=let (z0,f,b,i,c,h,d,e,_):=a;(aB.mk (ak.mk z0 f) b g i e c h d)
def Oj(a:Bf):Int:=a.2.2.2.2.2.2.2.2
abbrev CN:Type:=bU×bW×Int×ah×dq×ah×ah×du
def DY(a:aB):CN:=(a.ao.ai,a.ao.af,a.aa0,a.aw,a.aQ,a.cn,a.cf,a.bp)
def Rg(g:dh)(a:CN):aB:=let (z0,f,b,i,c,h,d,e):=a;(aB.mk (ak.mk z0 f) b g i c h d e)
abbrev EM:Type:=bU×bW×Int×ah×dq×ah×ah×du×Int
def J4(a:aB)(b:Int):EM:=(a.ao.ai,a.ao.af,a.aa0,a.aw,a.aQ,a.cn,a.cf,a.bp,b)
def LU(g:dh)(a:EM):aB:=let (z0,f,b,i,c,h,d,e,_):=a;(aB.mk (ak.mk z0 f) b g i c h d e)
def Tv(a:EM):Int:=a.2.2.2.2.2.2.2.2
abbrev F4:Type:=dh×bU×bW×Int×ah×dq×ah×ah×du
def B7(a:aB):F4:=(a.aN,a.ao.ai,a.ao.af,a.aa0,a.aw,a.aQ,a.cn,a.cf,a.bp)
def Bi(a:F4):aB:=let (z0,f,c,i,d,h,e,g,b):=a;(aB.mk (ak.mk f c) i z0 d h e g b)
abbrev eD:Type:=List bI
abbrev ck:Type:=List aT
abbrev cG:Type:=List ay
abbrev eP:Type:=List cy
abbrev eK:Type:=List dK
abbrev pJ:Type:=bU×bW×Int×dh×ah×dq×ah×ah×du×bU×bW×eD×ah×ah×ah×Int×ah×Int×Int×ck×ck×ah×ah×cG×Int×ah×ah×ah×Bool×Int×Int×Int×Int×cG×eP×eK×Int
def u16(a:aE)(e:Int):pJ:=let b:=a.au;let c:=a.bR;let d:=a.cL;(b.ao.ai,b.ao.af,b.aa0,b.aN,b.aw,b.aQ,b.cn,b.cf,b.bp,a.ao.ai,a.ao.af,a.cI,c.akL,c.dg,c.dG,c.er,a.bM.bT,a.bM.dZ,a.bM.ed,a.cq,a.bZ,a.cW.dl,a.cW.dr,a.bw.aA,a.bz.aa0,a.bz.an,a.aa2.af,a.aa2.aa2,a.aa2.Out,d.State,d.dD,d.akU,d.aa0,a.bq.aA,a.bS,a.bB,e)
def sN(r:pJ):aE:=let (z0,o,m,A,n,g,w,d,C,t,b,F,x,i,y,l,D,c,e,v,z,u,a,p,J,E,G,f,B,j,k,I,H,q,h,s,_):=r;(aE.mk (aB.mk (ak.mk z0 o) m A n g w d C) (ak.mk t b) F (bE.mk x i y l) (cd.mk D c e) v z (cZ.mk u a) (aL.mk p) (bQ.mk J E) (bA.mk G f B) (b7.mk j k I H) (aL.mk q) h s)
def sE(a:pJ):Int:=a.2.2.2.2.2.2.2.2.2.2.2.2.2.2.2.2.2.2.2.2.2.2.2.2.2.2.2.2.2.2.2.2.2.2.2.2
abbrev qc:Type:=bU×bW×Int×dh×ah×dq×ah×ah×du×bU×bW×eD×ah×ah×ah×Int×ah×Int×Int×ck×ck×ah×ah×cG×Int×ah×ah×ah×Bool×Int×Int×Int×Int×cG×eP×eK
def lR(a:aE):qc:=let b:=a.au;let d:=a.bR;let c:=a.cL;(b.ao.ai,b.ao.af,b.aa0,b.aN,b.aw,b.aQ,b.cn,b.cf,b.bp,a.ao.ai,a.ao.af,a.cI,d.akL,d.dg,d.dG,d.er,a.bM.bT,a.bM.dZ,a.bM.ed,a.cq,a.bZ,a.cW.dl,a.cW.dr,a.bw.aA,a.bz.aa0,a.bz.an,a.aa2.af,a.aa2.aa2,a.aa2.Out,c.State,c.dD,c.akU,c.aa0,a.bq.aA,a.bS,a.bB)
def tT(r:qc):aE:=let (z0,o,m,A,n,g,w,d,C,t,b,F,x,i,y,l,D,c,e,v,z,u,a,p,J,E,G,f,B,j,k,I,H,q,h,s):=r;(aE.mk (aB.mk (ak.mk z0 o) m A n g w d C) (ak.mk t b) F (bE.mk x i y l) (cd.mk D c e) v z (cZ.mk u a) (aL.mk p) (bQ.mk J E) (bA.mk G f B) (b7.mk j k I H) (aL.mk q) h s)
abbrev Y26:Type:=bU×bW×Int×dh×ah×dq×ah×ah×du×bU×bW×eD×ah×ah×ah×Int×ah×Int×Int×ck×ck×ah×ah×cG×Int×ah×ah×ah×Bool×Int×Int×Int×Int×cG×eP×eK×ah
def I0(s:Y26):aR:=let (z0,p,n,B,o,h,x,d,D,u,b,G,y,j,z,m,E,c,e,w,A,v,a,q,K,F,H,g,C,k,l,J,I,r,i,t,f):=s;(aR.mk (aE.mk (aB.mk (ak.mk z0 p) n B o h x d D) (ak.mk u b) G (bE.mk y j z m) (cd.mk E c e) w A (cZ.mk v a) (aL.mk q) (bQ.mk K F) (bA.mk H g C) (b7.mk k l J I) (aL.mk r) i t) f)
abbrev Hx:Type:=Int×Int×Int×Int
def u31(a:dS):Hx:=(a.agX,a.Tag,a.an,a.To)
def anK(a:Hx):dS:=(dS.mk a.1 a.2.1 a.2.2.1 a.2.2.2)
abbrev uI:Type:=List dC
abbrev sw:Type:=ck×ah×Int×Int×Int×uI×Int×Int
def u32(c:List aT)(a:aS)(d:List dC)(e:Int)(b:Int):sw:=(c,a.ai,a.dX,a.dY,a.cR,d,e,b)
def Xb(a:sw):List aT:=a.1
def acU(a:sw):aS:=(aS.mk a.2.1 a.2.2.1 a.2.2.2.1 a.2.2.2.2.1)
def aaB(a:sw):List dC:=a.2.2.2.2.2.1
def afG(a:sw):Int:=a.2.2.2.2.2.2.1
def adt(a:sw):Int:=a.2.2.2.2.2.2.2
abbrev pg:Type:=Int×Int×ah×Int×Int×Int×uI×ck
def ql(c:Int)(d:Int)(a:aS)(e:List dC)(b:List aT):pg:=(c,d,a.ai,a.dX,a.dY,a.cR,e,b)
def Jw(a:pg):Int:=a.1
def KY(a:pg):Int:=a.2.1
def Kd(a:pg):aS:=(aS.mk a.2.2.1 a.2.2.2.1 a.2.2.2.2.1 a.2.2.2.2.2.1)
def FE(a:pg):List dC:=a.2.2.2.2.2.2.1
def vh(a:pg):List aT:=a.2.2.2.2.2.2.2
abbrev oI:Type:=Int×Int×ah×Int×Int×Int×uI×ck×Int
def vI(c:Int)(d:Int)(a:aS)(e:List dC)(b:List aT)(f:Int):oI:=(c,d,a.ai,a.dX,a.dY,a.cR,e,b,f)
def ac8(a:oI):Int:=a.1
def ah4(a:oI):Int:=a.2.1
def afQ(a:oI):aS:=(aS.mk a.2.2.1 a.2.2.2.1 a.2.2.2.2.1 a.2.2.2.2.2.1)
def akR(a:oI):List dC:=a.2.2.2.2.2.2.1
def aiI(a:oI):List aT:=a.2.2.2.2.2.2.2.1
def anA(a:oI):Int:=a.2.2.2.2.2.2.2.2
abbrev qt:Type:=Int×Int×ah×Int×Int×Int×ck×uI
def qA(c:Int)(d:Int)(a:aS)(e:List aT)(b:List dC):qt:=(c,d,a.ai,a.dX,a.dY,a.cR,e,b)
def LJ(a:qt):Int:=a.1
def Tn(a:qt):Int:=a.2.1
def MT(a:qt):aS:=(aS.mk a.2.2.1 a.2.2.2.1 a.2.2.2.2.1 a.2.2.2.2.2.1)
def Mb(a:qt):List aT:=a.2.2.2.2.2.2.1
def N2(a:qt):List dC:=a.2.2.2.2.2.2.2
abbrev vW:Type:=ck×ah×Int×Int×Int×Int×Int×uI
def Q0(a:vW):List aT:=a.1
def Qc(a:vW):aS:=(aS.mk a.2.1 a.2.2.1 a.2.2.2.1 a.2.2.2.2.1)
def R8(a:vW):Int:=a.2.2.2.2.2.1
def Rc(a:vW):Int:=a.2.2.2.2.2.2.1
def Tj(a:vW):List dC:=a.2.2.2.2.2.2.2
abbrev qv:Type:=ck×ah×Int×Int×Int×Int×Int×ck×uI
def pC(c:List aT)(a:aS)(d:Int)(e:Int)(b:List aT)(f:List dC):qv:=(c,a.ai,a.dX,a.dY,a.cR,d,e,b,f)
def Se(a:qv):List aT:=a.1
def Fp(a:qv):aS:=(aS.mk a.2.1 a.2.2.1 a.2.2.2.1 a.2.2.2.2.1)
def KG(a:qv):Int:=a.2.2.2.2.2.1
def FU(a:qv):Int:=a.2.2.2.2.2.2.1
def Hz(a:qv):List aT:=a.2.2.2.2.2.2.2.1
def GM(a:qv):List dC:=a.2.2.2.2.2.2.2.2
abbrev pT:Type:=Int×ah×Int×Int×Int×Int×Int×Int×Int×Int×aL×Int
def Ft(d:Int)(a:aS)(b:dC)(e:Int)(c:aL)(f:Int):pT:=(d,a.ai,a.dX,a.dY,a.cR,b.agX,b.Tag,b.an,b.To,e,c,f)
def Gy(a:pT):Int:=a.1
def Ib(a:pT):aS:=(aS.mk a.2.1 a.2.2.1 a.2.2.2.1 a.2.2.2.2.1)
def HF(a:pT):dC:=let (_,_,_,_,_,e,c,d,b,_,_,_):=a;(dC.mk e c d b)
def I2(a:pT):Int:=a.2.2.2.2.2.2.2.2.2.1
def Ir(a:pT):aL:=a.2.2.2.2.2.2.2.2.2.2.1
def JK(a:pT):Int:=a.2.2.2.2.2.2.2.2.2.2.2
abbrev CQ:Type:=bU×bW×Int×dh×ah×dq×ah×ah×du×bU×bW×eD×ah×ah×ah×Int×ah×Int×Int×ah×ah×cG×Int×ah×ah×ah×Bool×Int×Int×Int×Int×cG×eP×eK×Int
def J3(a:aE)(e:Int):CQ:=let b:=a.au;let c:=a.bR;let d:=a.cL;(b.ao.ai,b.ao.af,b.aa0,b.aN,b.aw,b.aQ,b.cn,b.cf,b.bp,a.ao.ai,a.ao.af,a.cI,c.akL,c.dg,c.dG,c.er,a.bM.bT,a.bM.dZ,a.bM.ed,a.cW.dl,a.cW.dr,a.bw.aA,a.bz.aa0,a.bz.an,a.aa2.af,a.aa2.aa2,a.aa2.Out,d.State,d.dD,d.akU,d.aa0,a.bq.aA,a.bS,a.bB,e)
def Rx(q:ck)(a:ck)(s:CQ):aE:=let (z0,o,m,A,n,h,w,e,C,t,c,F,x,i,y,l,D,d,f,v,z,u,b,p,J,E,G,g,B,j,k,I,H,r,_):=s;(aE.mk (aB.mk (ak.mk z0 o) m A n h w e C) (ak.mk t c) F (bE.mk x i y l) (cd.mk D d f) q a (cZ.mk v z) (aL.mk u) (bQ.mk b p) (bA.mk J E G) (b7.mk g B j k) (aL.mk I) H r)
def Tu(a:CQ):Int:=a.2.2.2.2.2.2.2.2.2.2.2.2.2.2.2.2.2.2.2.2.2.2.2.2.2.2.2.2.2.2.2.2.2.2
abbrev J9:Type:=bU×bW×Int×dh×ah×dq×ah×ah×du×bU×bW×eD×ah×ah×ah×Int×ah×Int×Int×ah×ah×cG×Int×ah×ah×ah×Bool×Int×Int×Int×Int×cG×eP×eK
def Mj(a:aE):J9:=let b:=a.au;let d:=a.bR;let c:=a.cL;(b.ao.ai,b.ao.af,b.aa0,b.aN,b.aw,b.aQ,b.cn,b.cf,b.bp,a.ao.ai,a.ao.af,a.cI,d.akL,d.dg,d.dG,d.er,a.bM.bT,a.bM.dZ,a.bM.ed,a.cW.dl,a.cW.dr,a.bw.aA,a.bz.aa0,a.bz.an,a.aa2.af,a.aa2.aa2,a.aa2.Out,c.State,c.dD,c.akU,c.aa0,a.bq.aA,a.bS,a.bB)
def Uh(q:ck)(a:ck)(s:J9):aE:=let (z0,o,m,A,n,h,w,e,C,t,c,F,x,i,y,l,D,d,f,v,z,u,b,p,J,E,G,g,B,j,k,I,H,r):=s;(aE.mk (aB.mk (ak.mk z0 o) m A n h w e C) (ak.mk t c) F (bE.mk x i y l) (cd.mk D d f) q a (cZ.mk v z) (aL.mk u) (bQ.mk b p) (bA.mk J E G) (b7.mk g B j k) (aL.mk I) H r)
abbrev ZU:Type:=bU×Int×dh×ah×dq×ah×ah×du
def u64(a:aB):ZU:=(a.ao.ai,a.aa0,a.aN,a.aw,a.aQ,a.cn,a.cf,a.bp)
abbrev zu:Type:=bU×Int×ah×ah×ah×du×dq×Int
def KL(a:aB)(b:Int):zu:=(a.ao.ai,a.aa0,a.aw,a.cn,a.cf,a.bp,a.aQ,b)
def MR(g:bW)(a:dh)(b:zu):aB:=let (z0,f,c,i,d,h,e,_):=b;(aB.mk (ak.mk z0 g) f a c e i d h)
def L9(a:zu):Int:=a.2.2.2.2.2.2.2
abbrev Ba:Type:=bU×Int×ah×dq×ah×ah×du
def CD(a:aB):Ba:=(a.ao.ai,a.aa0,a.aw,a.aQ,a.cn,a.cf,a.bp)
def O3(g:bW)(a:dh)(b:Ba):aB:=let (z0,f,c,i,d,h,e):=b;(aB.mk (ak.mk z0 g) f a c i d h e)
abbrev Df:Type:=bU×Int×ah×dq×ah×ah×du×Int
def IC(a:aB)(b:Int):Df:=(a.ao.ai,a.aa0,a.aw,a.aQ,a.cn,a.cf,a.bp,b)
def R4(g:bW)(a:dh)(b:Df):aB:=let (z0,f,c,i,d,h,e,_):=b;(aB.mk (ak.mk z0 g) f a c i d h e)
def Lw(a:Df):Int:=a.2.2.2.2.2.2.2
abbrev KA:Type:=bW×dh×bU×Int×ah×dq×ah×ah×du
def MF(a:aB):KA:=(a.ao.af,a.aN,a.ao.ai,a.aa0,a.aw,a.aQ,a.cn,a.cf,a.bp)
def VD(a:KA):aB:=let (z0,f,c,i,d,h,e,g,b):=a;(aB.mk (ak.mk c z0) i f d h e g b)
abbrev uH:Type:=List cS
abbrev lU:Type:=Int×uH
def iC(a:cm):lU:=(a.n,a.steps)
abbrev n9:Type:=List Bool
def ox(c:n9)(b:n9)(a:lU):cm:=(cm.mk a.1 a.2 c b)
abbrev pE:Type:=Int×uH×Int
def nC(a:cm)(b:Int):pE:=(a.n,a.steps,b)
def wK(c:n9)(b:n9)(a:pE):cm:=(cm.mk a.1 a.2.1 c b)
def wo(a:pE):Int:=a.2.2
abbrev Il:Type:=uH×n9×Int×n9
def JJ(a:cm):Il:=(a.steps,a.bad,a.n,a.safe)
def Lk(a:Il):cm:=(cm.mk a.2.2.1 a.1 a.2.2.2 a.2.1)
abbrev FP:Type:=eK×bU×bW×Int×dh×ah×dq×ah×ah×du×bU×bW×eD×ah×ah×ah×Int×ah×Int×Int×ck×ck×ah×ah×cG×Int×ah×ah×ah×Bool×Int×Int×Int×Int×cG×eP
def OE(a:aE):FP:=let b:=a.au;let d:=a.bR;let c:=a.cL;(a.bB,b.ao.ai,b.ao.af,b.aa0,b.aN,b.aw,b.aQ,b.cn,b.cf,b.bp,a.ao.ai,a.ao.af,a.cI,d.akL,d.dg,d.dG,d.er,a.bM.bT,a.bM.dZ,a.bM.ed,a.cq,a.bZ,a.cW.dl,a.cW.dr,a.bw.aA,a.bz.aa0,a.bz.an,a.aa2.af,a.aa2.aa2,a.aa2.Out,c.State,c.dD,c.akU,c.aa0,a.bq.aA,a.bS)
def aiF(r:FP):aE:=let (z0,o,m,A,n,g,w,d,C,t,b,F,x,i,y,l,D,c,e,v,z,u,a,p,J,E,G,f,B,j,k,I,H,q,h,s):=r;(aE.mk (aB.mk (ak.mk o m) A n g w d C t) (ak.mk b F) x (bE.mk i y l D) (cd.mk c e v) z u (cZ.mk a p) (aL.mk J) (bQ.mk E G) (bA.mk f B j) (b7.mk k I H q) (aL.mk h) s z0)
abbrev Ic:Type:=bU×bW×Int×dh×ah×dq×ah×ah×du×bU×bW×eD×ah×ah×ah×Int×ah×Int×Int×ck×ck×ah×ah×cG×Int×ah×ah×ah×Bool×Int×Int×Int×Int×cG×eP
def RG(a:aE):Ic:=let b:=a.au;let d:=a.bR;let c:=a.cL;(b.ao.ai,b.ao.af,b.aa0,b.aN,b.aw,b.aQ,b.cn,b.cf,b.bp,a.ao.ai,a.ao.af,a.cI,d.akL,d.dg,d.dG,d.er,a.bM.bT,a.bM.dZ,a.bM.ed,a.cq,a.bZ,a.cW.dl,a.cW.dr,a.bw.aA,a.bz.aa0,a.bz.an,a.aa2.af,a.aa2.aa2,a.aa2.Out,c.State,c.dD,c.akU,c.aa0,a.bq.aA,a.bS)
def ajj(q:eK)(s:Ic):aE:=let (z0,o,m,A,n,g,w,d,C,t,b,F,x,i,y,l,D,c,e,v,z,u,a,p,J,E,G,f,B,j,k,I,H,r,h):=s;(aE.mk (aB.mk (ak.mk z0 o) m A n g w d C) (ak.mk t b) F (bE.mk x i y l) (cd.mk D c e) v z (cZ.mk u a) (aL.mk p) (bQ.mk J E) (bA.mk G f B) (b7.mk j k I H) (aL.mk r) h q)
abbrev jt:Type:=ck×ck×eK×bU×bW×Int×dh×ah×dq×ah×ah×du×bU×bW×eD×ah×ah×ah×Int×ah×Int×Int×ah×ah×cG×Int×ah×ah×ah×Bool×Int×Int×Int×Int×cG×eP×ah×Int
def cT(g:aR)(i:Int):jt:=let a:=g.aI;let b:=a.au;let d:=a.bR;let f:=a.bM;let e:=a.aa2;let c:=a.cL;let h:=b.ao;(a.cq,a.bZ,a.bB,h.ai,h.af,b.aa0,b.aN,b.aw,b.aQ,b.cn,b.cf,b.bp,a.ao.ai,a.ao.af,a.cI,d.akL,d.dg,d.dG,d.er,f.bT,f.dZ,f.ed,a.cW.dl,a.cW.dr,a.bw.aA,a.bz.aa0,a.bz.an,e.af,e.aa2,e.Out,c.State,c.dD,c.akU,c.aa0,a.bq.aA,a.bS,g.named,i)
def fR(s:jt):aR:=let (z0,p,n,B,o,h,x,d,D,u,b,G,y,j,z,m,E,c,e,w,A,v,a,q,K,F,H,g,C,k,l,J,I,r,i,t,f,_):=s;(aR.mk (aE.mk (aB.mk (ak.mk B o) h x d D u b G) (ak.mk y j) z (bE.mk m E c e) (cd.mk w A v) z0 p (cZ.mk a q) (aL.mk K) (bQ.mk F H) (bA.mk g C k) (b7.mk l J I r) (aL.mk i) t n) f)
def fT(a:jt):Int:=a.2.2.2.2.2.2.2.2.2.2.2.2.2.2.2.2.2.2.2.2.2.2.2.2.2.2.2.2.2.2.2.2.2.2.2.2.2
abbrev Jr:Type:=ck×ck×eK×bU×bW×Int×dh×ah×dq×ah×ah×du×bU×bW×eD×ah×ah×ah×Int×ah×Int×Int×ah×ah×cG×Int×ah×ah×ah×Bool×Int×Int×Int×Int×cG×eP
def IW(a:aE):Jr:=let b:=a.au;let d:=a.bR;let c:=a.cL;(a.cq,a.bZ,a.bB,b.ao.ai,b.ao.af,b.aa0,b.aN,b.aw,b.aQ,b.cn,b.cf,b.bp,a.ao.ai,a.ao.af,a.cI,d.akL,d.dg,d.dG,d.er,a.bM.bT,a.bM.dZ,a.bM.ed,a.cW.dl,a.cW.dr,a.bw.aA,a.bz.aa0,a.bz.an,a.aa2.af,a.aa2.aa2,a.aa2.Out,c.State,c.dD,c.akU,c.aa0,a.bq.aA,a.bS)
def SD(r:Jr):aE:=let (z0,o,m,A,n,g,w,d,C,t,b,F,x,i,y,l,D,c,e,v,z,u,a,p,J,E,G,f,B,j,k,I,H,q,h,s):=r;(aE.mk (aB.mk (ak.mk A n) g w d C t b F) (ak.mk x i) y (bE.mk l D c e) (cd.mk v z u) z0 o (cZ.mk a p) (aL.mk J) (bQ.mk E G) (bA.mk f B j) (b7.mk k I H q) (aL.mk h) s m)
abbrev qz:Type:=ck×eK×bU×bW×Int×dh×ah×dq×ah×ah×du×bU×bW×eD×ah×ah×ah×Int×ah×Int×Int×ck×ah×ah×cG×Int×ah×ah×ah×Bool×Int×Int×Int×Int×cG×eP×ah×Int
def dp(g:aR)(i:Int):qz:=let a:=g.aI;let b:=a.au;let d:=a.bR;let f:=a.bM;let e:=a.aa2;let c:=a.cL;let h:=b.ao;(a.cq,a.bB,h.ai,h.af,b.aa0,b.aN,b.aw,b.aQ,b.cn,b.cf,b.bp,a.ao.ai,a.ao.af,a.cI,d.akL,d.dg,d.dG,d.er,f.bT,f.dZ,f.ed,a.bZ,a.cW.dl,a.cW.dr,a.bw.aA,a.bz.aa0,a.bz.an,e.af,e.aa2,e.Out,c.State,c.dD,c.akU,c.aa0,a.bq.aA,a.bS,g.named,i)
def iS(s:qz):aR:=let (z0,p,n,B,o,h,x,d,D,u,b,G,y,j,z,m,E,c,e,w,A,v,a,q,K,F,H,g,C,k,l,J,I,r,i,t,f,_):=s;(aR.mk (aE.mk (aB.mk (ak.mk n B) o h x d D u b) (ak.mk G y) j (bE.mk z m E c) (cd.mk e w A) z0 v (cZ.mk a q) (aL.mk K) (bQ.mk F H) (bA.mk g C k) (b7.mk l J I r) (aL.mk i) t p) f)
def iJ(a:qz):Int:=a.2.2.2.2.2.2.2.2.2.2.2.2.2.2.2.2.2.2.2.2.2.2.2.2.2.2.2.2.2.2.2.2.2.2.2.2.2
abbrev qW:Type:=Int×Int×Int×Int×ah×Int×Int×Int×ck×eK×bU×bW×Int×dh×ah×dq×ah×ah×du×bU×bW×eD×ah×ah×ah×Int×ah×Int×Int×ck×ah×ah×cG×Int×ah×ah×ah×Bool×Int×Int×Int×Int×cG×eP×ah×aL×Int
def La(c:dS)(e:aS)(i:aR)(l:aL)(k:Int):qW:=let a:=i.aI;let b:=a.au;let f:=a.bR;let h:=a.bM;let g:=a.aa2;let d:=a.cL;let j:=b.ao;(c.agX,c.Tag,c.an,c.To,e.ai,e.dX,e.dY,e.cR,a.cq,a.bB,j.ai,j.af,b.aa0,b.aN,b.aw,b.aQ,b.cn,b.cf,b.bp,a.ao.ai,a.ao.af,a.cI,f.akL,f.dg,f.dG,f.er,h.bT,h.dZ,h.ed,a.bZ,a.cW.dl,a.cW.dr,a.bw.aA,a.bz.aa0,a.bz.an,g.af,g.aa2,g.Out,d.State,d.dD,d.akU,d.aa0,a.bq.aA,a.bS,i.named,l,k)
def F7(a:qW):dS:=(dS.mk a.1 a.2.1 a.2.2.1 a.2.2.2.1)
def HJ(a:qW):aS:=(aS.mk a.2.2.2.2.1 a.2.2.2.2.2.1 a.2.2.2.2.2.2.1 a.2.2.2.2.2.2.2.1)
def G2(q:qW):aR:=let (_,_,_,_,_,_,_,_,B,t,c,F,w,i,x,l,C,d,e,v,z,u,b,m,M,E,I,g,A,j,k,K,J,n,h,s,f,D,o,r,G,a,y,p,H,_,_):=q;(aR.mk (aE.mk (aB.mk (ak.mk c F) w i x l C d e) (ak.mk v z) u (bE.mk b m M E) (cd.mk I g A) B j (cZ.mk k K) (aL.mk J) (bQ.mk n h) (bA.mk s f D) (b7.mk o r G a) (aL.mk y) p t) H)
def IB(a:qW):aL:=a.2.2.2.2.2.2.2.2.2.2.2.2.2.2.2.2.2.2.2.2.2.2.2.2.2.2.2.2.2.2.2.2.2.2.2.2.2.2.2.2.2.2.2.2.2.1
def HV(a:qW):Int:=a.2.2.2.2.2.2.2.2.2.2.2.2.2.2.2.2.2.2.2.2.2.2.2.2.2.2.2.2.2.2.2.2.2.2.2.2.2.2.2.2.2.2.2.2.2.2
abbrev Dk:Type:=bU×bW×Int×dh×ah×dq×ah×ah×du×bU×bW×eD×ah×ah×ah×Int×ah×Int×Int×ck×ah×ah×cG×Int×ah×ah×ah×Bool×Int×Int×Int×Int×cG×eP×ah
def qI(g:aR):Dk:=let a:=g.aI;let b:=a.au;let d:=a.bR;let f:=a.bM;let e:=a.aa2;let c:=a.cL;let h:=b.ao;(h.ai,h.af,b.aa0,b.aN,b.aw,b.aQ,b.cn,b.cf,b.bp,a.ao.ai,a.ao.af,a.cI,d.akL,d.dg,d.dG,d.er,f.bT,f.dZ,f.ed,a.bZ,a.cW.dl,a.cW.dr,a.bw.aA,a.bz.aa0,a.bz.an,e.af,e.aa2,e.Out,c.State,c.dD,c.akU,c.aa0,a.bq.aA,a.bS,g.named)
def Sl(r:ck)(a:eK)(t:Dk):aR:=let (z0,p,n,B,o,h,x,e,D,u,c,G,y,j,z,m,E,d,f,w,A,v,b,q,K,F,H,g,C,k,l,J,I,s,i):=t;(aR.mk (aE.mk (aB.mk (ak.mk z0 p) n B o h x e D) (ak.mk u c) G (bE.mk y j z m) (cd.mk E d f) r w (cZ.mk A v) (aL.mk b) (bQ.mk q K) (bA.mk F H g) (b7.mk C k l J) (aL.mk I) s a) i)
abbrev vq:Type:=ck×eK×bU×bW×Int×dh×ah×dq×ah×ah×du×bU×bW×eD×ah×ah×ah×Int×ah×Int×Int×ck×ah×ah×cG×Int×ah×ah×ah×Bool×Int×Int×Int×Int×cG×eP×ah×Int×Int×Int×Int×ah×Int×Int×Int
def ol(i:aR)(d:dS)(e:aS):vq:=let a:=i.aI;let b:=a.au;let f:=a.bR;let h:=a.bM;let g:=a.aa2;let c:=a.cL;let j:=b.ao;(a.cq,a.bB,j.ai,j.af,b.aa0,b.aN,b.aw,b.aQ,b.cn,b.cf,b.bp,a.ao.ai,a.ao.af,a.cI,f.akL,f.dg,f.dG,f.er,h.bT,h.dZ,h.ed,a.bZ,a.cW.dl,a.cW.dr,a.bw.aA,a.bz.aa0,a.bz.an,g.af,g.aa2,g.Out,c.State,c.dD,c.akU,c.aa0,a.bq.aA,a.bS,i.named,d.agX,d.Tag,d.an,d.To,e.ai,e.dX,e.dY,e.cR)
def MU(s:vq):aR:=let (z0,p,n,B,o,h,x,d,D,u,b,G,y,j,z,m,E,c,e,w,A,v,a,q,K,F,H,g,C,k,l,J,I,r,i,t,f,_,_,_,_,_,_,_,_):=s;(aR.mk (aE.mk (aB.mk (ak.mk n B) o h x d D u b) (ak.mk G y) j (bE.mk z m E c) (cd.mk e w A) z0 v (cZ.mk a q) (aL.mk K) (bQ.mk F H) (bA.mk g C k) (b7.mk l J I r) (aL.mk i) t p) f)
def Me(a:vq):dS:=let (_,_,_,_,_,_,_,_,_,_,_,_,_,_,_,_,_,_,_,_,_,_,_,_,_,_,_,_,_,_,_,_,_,_,_,_,_,c,e,b,d,_,_,_,_):=a;(dS.mk c e b d)
def N4(b:vq):aS:=let (_,_,_,_,_,_,_,_,_,_,_,_,_,_,_,_,_,_,_,_,_,_,_,_,_,_,_,_,_,_,_,_,_,_,_,_,_,_,_,_,_,c,d,a,e):=b;(aS.mk c d a e)
abbrev ug:Type:=ck×eK×bU×bW×Int×dh×ah×dq×ah×ah×du×bU×bW×eD×ah×ah×ah×Int×ah×Int×Int×ck×ah×ah×cG×Int×ah×ah×ah×Bool×Int×Int×Int×Int×cG×eP×ah×ah×Int×Int×Int×Int
def Cb(h:aR)(d:aS)(j:Int):ug:=let a:=h.aI;let b:=a.au;let e:=a.bR;let g:=a.bM;let f:=a.aa2;let c:=a.cL;let i:=b.ao;(a.cq,a.bB,i.ai,i.af,b.aa0,b.aN,b.aw,b.aQ,b.cn,b.cf,b.bp,a.ao.ai,a.ao.af,a.cI,e.akL,e.dg,e.dG,e.er,g.bT,g.dZ,g.ed,a.bZ,a.cW.dl,a.cW.dr,a.bw.aA,a.bz.aa0,a.bz.an,f.af,f.aa2,f.Out,c.State,c.dD,c.akU,c.aa0,a.bq.aA,a.bS,h.named,d.ai,d.dX,d.dY,d.cR,j)
def Q2(s:ug):aR:=let (z0,p,n,B,o,h,x,d,D,u,b,G,y,j,z,m,E,c,e,w,A,v,a,q,K,F,H,g,C,k,l,J,I,r,i,t,f,_,_,_,_,_):=s;(aR.mk (aE.mk (aB.mk (ak.mk n B) o h x d D u b) (ak.mk G y) j (bE.mk z m E c) (cd.mk e w A) z0 v (cZ.mk a q) (aL.mk K) (bQ.mk F H) (bA.mk g C k) (b7.mk l J I r) (aL.mk i) t p) f)
def Qd(a:ug):aS:=let (_,_,_,_,_,_,_,_,_,_,_,_,_,_,_,_,_,_,_,_,_,_,_,_,_,_,_,_,_,_,_,_,_,_,_,_,_,c,e,b,d,_):=a;(aS.mk c e b d)
def R9(a:ug):Int:=a.2.2.2.2.2.2.2.2.2.2.2.2.2.2.2.2.2.2.2.2.2.2.2.2.2.2.2.2.2.2.2.2.2.2.2.2.2.2.2.2.2
abbrev rY:Type:=ck×eK×bU×bW×Int×dh×ah×dq×ah×ah×du×bU×bW×eD×ah×ah×ah×Int×ah×Int×Int×ck×ah×ah×cG×Int×ah×ah×ah×Bool×Int×Int×Int×Int×cG×eP×ah
def mf(g:aR):rY:=let a:=g.aI;let b:=a.au;let d:=a.bR;let f:=a.bM;let e:=a.aa2;let c:=a.cL;let h:=b.ao;(a.cq,a.bB,h.ai,h.af,b.aa0,b.aN,b.aw,b.aQ,b.cn,b.cf,b.bp,a.ao.ai,a.ao.af,a.cI,d.akL,d.dg,d.dG,d.er,f.bT,f.dZ,f.ed,a.bZ,a.cW.dl,a.cW.dr,a.bw.aA,a.bz.aa0,a.bz.an,e.af,e.aa2,e.Out,c.State,c.dD,c.akU,c.aa0,a.bq.aA,a.bS,g.named)
def Al(s:rY):aR:=let (z0,p,n,B,o,h,x,d,D,u,b,G,y,j,z,m,E,c,e,w,A,v,a,q,K,F,H,g,C,k,l,J,I,r,i,t,f):=s;(aR.mk (aE.mk (aB.mk (ak.mk n B) o h x d D u b) (ak.mk G y) j (bE.mk z m E c) (cd.mk e w A) z0 v (cZ.mk a q) (aL.mk K) (bQ.mk F H) (bA.mk g C k) (b7.mk l J I r) (aL.mk i) t p) f)
abbrev qU:Type:=ck×eK×bU×bW×Int×dh×ah×dq×ah×ah×du×bU×bW×eD×ah×ah×ah×Int×ah×Int×Int×ck×ah×ah×cG×Int×ah×ah×ah×Bool×Int×Int×Int×Int×cG×eP×ah×Int×ah×Int×Int×Int×Int×Int×Int×Int×Int
def nJ(i:aR)(l:Int)(d:aS)(f:dC)(k:Int):qU:=let a:=i.aI;let b:=a.au;let e:=a.bR;let h:=a.bM;let g:=a.aa2;let c:=a.cL;let j:=b.ao;(a.cq,a.bB,j.ai,j.af,b.aa0,b.aN,b.aw,b.aQ,b.cn,b.cf,b.bp,a.ao.ai,a.ao.af,a.cI,e.akL,e.dg,e.dG,e.er,h.bT,h.dZ,h.ed,a.bZ,a.cW.dl,a.cW.dr,a.bw.aA,a.bz.aa0,a.bz.an,g.af,g.aa2,g.Out,c.State,c.dD,c.akU,c.aa0,a.bq.aA,a.bS,i.named,l,d.ai,d.dX,d.dY,d.cR,f.agX,f.Tag,f.an,f.To,k)
def M2(s:qU):aR:=let (z0,p,n,B,o,h,x,d,D,u,b,G,y,j,z,m,E,c,e,w,A,v,a,q,K,F,H,g,C,k,l,J,I,r,i,t,f,_,_,_,_,_,_,_,_,_,_):=s;(aR.mk (aE.mk (aB.mk (ak.mk n B) o h x d D u b) (ak.mk G y) j (bE.mk z m E c) (cd.mk e w A) z0 v (cZ.mk a q) (aL.mk K) (bQ.mk F H) (bA.mk g C k) (b7.mk l J I r) (aL.mk i) t p) f)
def OW(a:qU):Int:=a.2.2.2.2.2.2.2.2.2.2.2.2.2.2.2.2.2.2.2.2.2.2.2.2.2.2.2.2.2.2.2.2.2.2.2.2.2.1
def N9(a:qU):aS:=let (_,_,_,_,_,_,_,_,_,_,_,_,_,_,_,_,_,_,_,_,_,_,_,_,_,_,_,_,_,_,_,_,_,_,_,_,_,_,e,c,d,b,_,_,_,_,_):=a;(aS.mk e c d b)
def P1(b:qU):dC:=let (_,_,_,_,_,_,_,_,_,_,_,_,_,_,_,_,_,_,_,_,_,_,_,_,_,_,_,_,_,_,_,_,_,_,_,_,_,_,_,_,_,_,d,a,e,c,_):=b;(dC.mk d a e c)
def RU(a:qU):Int:=a.2.2.2.2.2.2.2.2.2.2.2.2.2.2.2.2.2.2.2.2.2.2.2.2.2.2.2.2.2.2.2.2.2.2.2.2.2.2.2.2.2.2.2.2.2.2
abbrev uy:Type:=ck×eK×bU×bW×Int×dh×ah×dq×ah×ah×du×bU×bW×eD×ah×ah×ah×Int×ah×Int×Int×ck×ah×ah×cG×Int×ah×ah×ah×Bool×Int×Int×Int×Int×cG×eP×ah×Int
def uZ(g:aR)(i:Int):uy:=let a:=g.aI;let b:=a.au;let d:=a.bR;let f:=a.bM;let e:=a.aa2;let c:=a.cL;let h:=b.ao;(a.cq,a.bB,h.ai,h.af,b.aa0,b.aN,b.aw,b.aQ,b.cn,b.cf,b.bp,a.ao.ai,a.ao.af,a.cI,d.akL,d.dg,d.dG,d.er,f.bT,f.dZ,f.ed,a.bZ,a.cW.dl,a.cW.dr,a.bw.aA,a.bz.aa0,a.bz.an,e.af,e.aa2,e.Out,c.State,c.dD,c.akU,c.aa0,a.bq.aA,a.bS,g.named,i)
def Si(s:uy):aR:=let (z0,p,n,B,o,h,x,d,D,u,b,G,y,j,z,m,E,c,e,w,A,v,a,q,K,F,H,g,C,k,l,J,I,r,i,t,f,_):=s;(aR.mk (aE.mk (aB.mk (ak.mk n B) o h x d D u b) (ak.mk G y) j (bE.mk z m E c) (cd.mk e w A) z0 v (cZ.mk a q) (aL.mk K) (bQ.mk F H) (bA.mk g C k) (b7.mk l J I r) (aL.mk i) t p) f)
def LF(a:uy):Int:=a.2.2.2.2.2.2.2.2.2.2.2.2.2.2.2.2.2.2.2.2.2.2.2.2.2.2.2.2.2.2.2.2.2.2.2.2.2
abbrev DU:Type:=bU×bW×Int×dh×ah×dq×ah×ah×du×bU×bW×eD×ah×ah×ah×Int×ah×Int×Int×ah×ah×cG×Int×ah×ah×ah×Bool×Int×Int×Int×Int×cG×eP×ah×eD
def UN(g:aR)(i:List bI):DU:=let a:=g.aI;let b:=a.au;let d:=a.bR;let f:=a.bM;let e:=a.aa2;let c:=a.cL;let h:=b.ao;(h.ai,h.af,b.aa0,b.aN,b.aw,b.aQ,b.cn,b.cf,b.bp,a.ao.ai,a.ao.af,a.cI,d.akL,d.dg,d.dG,d.er,f.bT,f.dZ,f.ed,a.cW.dl,a.cW.dr,a.bw.aA,a.bz.aa0,a.bz.an,e.af,e.aa2,e.Out,c.State,c.dD,c.akU,c.aa0,a.bq.aA,a.bS,g.named,i)
def ao9(q:ck)(a:ck)(D:eK)(s:DU):aR:=let (z0,o,m,A,n,h,w,e,C,t,c,G,x,i,y,l,E,d,f,v,z,u,b,p,K,F,H,g,B,j,k,J,I,r,_):=s;(aR.mk (aE.mk (aB.mk (ak.mk z0 o) m A n h w e C) (ak.mk t c) G (bE.mk x i y l) (cd.mk E d f) q a (cZ.mk v z) (aL.mk u) (bQ.mk b p) (bA.mk K F H) (b7.mk g B j k) (aL.mk J) I D) r)
def Yk(a:DU):List bI:=a.2.2.2.2.2.2.2.2.2.2.2.2.2.2.2.2.2.2.2.2.2.2.2.2.2.2.2.2.2.2.2.2.2.2
abbrev jU:Type:=bU×bW×Int×dh×ah×dq×ah×ah×du×bU×bW×eD×ah×ah×ah×Int×ah×Int×Int×ah×ah×cG×Int×ah×ah×ah×Bool×Int×Int×Int×Int×cG×eP×ah×Int
def iv(g:aR)(i:Int):jU:=let a:=g.aI;let b:=a.au;let d:=a.bR;let f:=a.bM;let e:=a.aa2;let c:=a.cL;let h:=b.ao;(h.ai,h.af,b.aa0,b.aN,b.aw,b.aQ,b.cn,b.cf,b.bp,a.ao.ai,a.ao.af,a.cI,d.akL,d.dg,d.dG,d.er,f.bT,f.dZ,f.ed,a.cW.dl,a.cW.dr,a.bw.aA,a.bz.aa0,a.bz.an,e.af,e.aa2,e.Out,c.State,c.dD,c.akU,c.aa0,a.bq.aA,a.bS,g.named,i)
def nT(q:ck)(a:ck)(D:eK)(s:jU):aR:=let (z0,o,m,A,n,h,w,e,C,t,c,G,x,i,y,l,E,d,f,v,z,u,b,p,K,F,H,g,B,j,k,J,I,r,_):=s;(aR.mk (aE.mk (aB.mk (ak.mk z0 o) m A n h w e C) (ak.mk t c) G (bE.mk x i y l) (cd.mk E d f) q a (cZ.mk v z) (aL.mk u) (bQ.mk b p) (bA.mk K F H) (b7.mk g B j k) (aL.mk J) I D) r)
def nO(a:jU):Int:=a.2.2.2.2.2.2.2.2.2.2.2.2.2.2.2.2.2.2.2.2.2.2.2.2.2.2.2.2.2.2.2.2.2.2
abbrev jk:Type:=bU×bW×Int×dh×ah×dq×ah×ah×du×bU×bW×eD×ah×ah×ah×Int×ah×Int×Int×ah×ah×cG×Int×ah×ah×ah×Bool×Int×Int×Int×Int×cG×eP×ah
def fj(g:aR):jk:=let a:=g.aI;let b:=a.au;let d:=a.bR;let f:=a.bM;let e:=a.aa2;let c:=a.cL;let h:=b.ao;(h.ai,h.af,b.aa0,b.aN,b.aw,b.aQ,b.cn,b.cf,b.bp,a.ao.ai,a.ao.af,a.cI,d.akL,d.dg,d.dG,d.er,f.bT,f.dZ,f.ed,a.cW.dl,a.cW.dr,a.bw.aA,a.bz.aa0,a.bz.an,e.af,e.aa2,e.Out,c.State,c.dD,c.akU,c.aa0,a.bq.aA,a.bS,g.named)
def lu(q:ck)(a:ck)(D:eK)(s:jk):aR:=let (z0,o,m,A,n,h,w,e,C,t,c,G,x,i,y,l,E,d,f,v,z,u,b,p,K,F,H,g,B,j,k,J,I,r):=s;(aR.mk (aE.mk (aB.mk (ak.mk z0 o) m A n h w e C) (ak.mk t c) G (bE.mk x i y l) (cd.mk E d f) q a (cZ.mk v z) (aL.mk u) (bQ.mk b p) (bA.mk K F H) (b7.mk g B j k) (aL.mk J) I D) r)
abbrev nH:Type:=bU×bW×Int×dh×ah×dq×ah×ah×du×bU×bW×eD×ah×ah×ah×Int×ah×Int×Int×ah×ah×cG×Int×ah×ah×ah×Bool×Int×Int×Int×Int×cG×eP×ah×Int
def jw(g:aR)(i:Int):nH:=let a:=g.aI;let b:=a.au;let d:=a.bR;let f:=a.bM;let e:=a.aa2;let c:=a.cL;let h:=b.ao;(h.ai,h.af,b.aa0,b.aN,b.aw,b.aQ,b.cn,b.cf,b.bp,a.ao.ai,a.ao.af,a.cI,d.akL,d.dg,d.dG,d.er,f.bT,f.dZ,f.ed,a.cW.dl,a.cW.dr,a.bw.aA,a.bz.aa0,a.bz.an,e.af,e.aa2,e.Out,c.State,c.dD,c.akU,c.aa0,a.bq.aA,a.bS,g.named,i)
def tP(q:ck)(a:ck)(D:eK)(s:nH):aR:=let (z0,o,m,A,n,h,w,e,C,t,c,G,x,i,y,l,E,d,f,v,z,u,b,p,K,F,H,g,B,j,k,J,I,r,_):=s;(aR.mk (aE.mk (aB.mk (ak.mk z0 o) m A n h w e C) (ak.mk t c) G (bE.mk x i y l) (cd.mk E d f) q a (cZ.mk v z) (aL.mk u) (bQ.mk b p) (bA.mk K F H) (b7.mk g B j k) (aL.mk J) I D) r)
def um(a:nH):Int:=a.2.2.2.2.2.2.2.2.2.2.2.2.2.2.2.2.2.2.2.2.2.2.2.2.2.2.2.2.2.2.2.2.2.2
abbrev xe:Type:=ah×Int×ah×Int×Int×Int
def JB(b:bD)(a:aS):xe:=(b.L,b.At,a.ai,a.dX,a.dY,a.cR)
def ajn(a:xe):bD:=(bD.mk a.1 a.2.1)
def aom(a:xe):aS:=(aS.mk a.2.2.1 a.2.2.2.1 a.2.2.2.2.1 a.2.2.2.2.2)
abbrev DN:Type:=bU×bW×dq×ah×ah×eD×ah×ah×ah×Int×ah×Int×Int×ah
def zl(a:gM):DN:=let b:=a.bR;(a.ao.ai,a.ao.af,a.aQ,a.ai,a.aw,a.cI,b.akL,b.dg,b.dG,b.er,a.bM.bT,a.bM.dZ,a.bM.ed,a.gZ)
def Nr(b:DN):gM:=let (z0,h,d,n,e,m,i,j,c,f,g,k,l,a):=b;(gM.mk (ak.mk z0 h) d n e m (bE.mk i j c f) (cd.mk g k l) a)
abbrev vL:Type:=ah×Int×Int×Int×Int×Int
def rB(b:bD)(a:bH):vL:=(b.L,b.At,a.abv,a.A,a.B,a.C)
def aba(a:vL):bD:=(bD.mk a.1 a.2.1)
def age(a:vL):bH:=(bH.mk a.2.2.1 a.2.2.2.1 a.2.2.2.2.1 a.2.2.2.2.2)
abbrev Hr:Type:=Int×bU×bW×Int×dh×ah×dq×ah×ah×du×Int
def agv(a:Hr):Int:=a.1
def alg(a:Hr):aB:=let (_,f,c,j,d,i,g,h,b,e,_):=a;(aB.mk (ak.mk f c) j d i g h b e)
def aqn(a:Hr):Int:=a.2.2.2.2.2.2.2.2.2.2
abbrev Kh:Type:=ah×bU×bW×Int×dh×ah×dq×ah×ah×du×Int
def Lm(a:Kh):yc:=a.1
def Nn(a:Kh):aB:=let (_,f,c,j,d,i,g,h,b,e,_):=a;(aB.mk (ak.mk f c) j d i g h b e)
def Mw(a:Kh):Int:=a.2.2.2.2.2.2.2.2.2.2
abbrev Ov:Type:=bC×bU×bW×Int×dh×ah×dq×ah×ah×du
def af1(a:Ov):bC:=a.1
def ak0(a:Ov):aB:=let (_,f,c,j,d,i,g,h,b,e):=a;(aB.mk (ak.mk f c) j d i g h b e)
abbrev QE:Type:=dh×bU×bW×Int×dh×ah×dq×ah×ah×du
def Mf(a:QE):List bC:=a.1
def T7(a:QE):aB:=let (_,f,c,j,d,i,g,h,b,e):=a;(aB.mk (ak.mk f c) j d i g h b e)
abbrev sY:Type:=Int×ah×Int×Int×Int×Int×Int×Int×Int×Int×ak×aL
def acS(a:sY):Int:=a.1
def aay(a:sY):aS:=(aS.mk a.2.1 a.2.2.1 a.2.2.2.1 a.2.2.2.2.1)
def afC(a:sY):dC:=let (_,_,_,_,_,e,c,d,b,_,_,_):=a;(dC.mk e c d b)
def akx(a:sY):Int:=a.2.2.2.2.2.2.2.2.2.1
def aim(a:sY):ak:=a.2.2.2.2.2.2.2.2.2.2.1
def ank(a:sY):aL:=a.2.2.2.2.2.2.2.2.2.2.2
abbrev Ju:Type:=bC×bU×bW×Int×dh×ah×dq×ah×ah×du×bU×bW×eD×ah×ah×ah×Int×ah×Int×Int×ck×ck×ah×ah×cG×Int×ah×ah×ah×Bool×Int×Int×Int×Int×cG×eP×eK×ah×Int×Int×Int×Int
def anW(a:Ju):bC:=a.1
def WC(s:Ju):aR:=let (_,p,n,B,o,h,x,d,D,u,b,H,y,j,z,m,E,c,e,w,A,v,a,q,M,G,I,g,C,k,l,K,J,r,i,t,f,F,_,_,_,_):=s;(aR.mk (aE.mk (aB.mk (ak.mk p n) B o h x d D u) (ak.mk b H) y (bE.mk j z m E) (cd.mk c e w) A v (cZ.mk a q) (aL.mk M) (bQ.mk G I) (bA.mk g C k) (b7.mk l K J r) (aL.mk i) t f) F)
def acs(a:Ju):bH:=let (_,_,_,_,_,_,_,_,_,_,_,_,_,_,_,_,_,_,_,_,_,_,_,_,_,_,_,_,_,_,_,_,_,_,_,_,_,_,e,c,d,b):=a;(bH.mk e c d b)
abbrev Gf:Type:=dh×bU×bW×Int×dh×ah×dq×ah×ah×du×bU×bW×eD×ah×ah×ah×Int×ah×Int×Int×ck×ck×ah×ah×cG×Int×ah×ah×ah×Bool×Int×Int×Int×Int×cG×eP×eK×ah×Int×Int×Int×Int
def On(a:Gf):List bC:=a.1
def Qm(s:Gf):aR:=let (_,p,n,B,o,h,x,d,D,u,b,H,y,j,z,m,E,c,e,w,A,v,a,q,M,G,I,g,C,k,l,K,J,r,i,t,f,F,_,_,_,_):=s;(aR.mk (aE.mk (aB.mk (ak.mk p n) B o h x d D u) (ak.mk b H) y (bE.mk j z m E) (cd.mk c e w) A v (cZ.mk a q) (aL.mk M) (bQ.mk G I) (bA.mk g C k) (b7.mk l K J r) (aL.mk i) t f) F)
def Px(a:Gf):bH:=let (_,_,_,_,_,_,_,_,_,_,_,_,_,_,_,_,_,_,_,_,_,_,_,_,_,_,_,_,_,_,_,_,_,_,_,_,_,_,e,c,d,b):=a;(bH.mk e c d b)
abbrev Rm:Type:=List da
abbrev EQ:Type:=cS×Int×Int×uH×n9×n9×Rm
def Wh(a:EQ):cS:=a.1
def aqq(a:EQ):Int:=a.2.1
def ZI(a:EQ):cm:=(cm.mk a.2.2.1 a.2.2.2.1 a.2.2.2.2.1 a.2.2.2.2.2.1)
def aeS(a:EQ):List da:=a.2.2.2.2.2.2
abbrev Bn:Type:=uH×Int×Int×uH×n9×n9×Rm
def afq(a:Bn):List cS:=a.1
def akl(a:Bn):Int:=a.2.1
def aic(a:Bn):cm:=(cm.mk a.2.2.1 a.2.2.2.1 a.2.2.2.2.1 a.2.2.2.2.2.1)
def am5(a:Bn):List da:=a.2.2.2.2.2.2
abbrev Fv:Type:=Int×bU×bW×ah×ah×ah×Int
def Zl(a:Fv):Int:=a.1
def Wt(a:Fv):ak:=(ak.mk a.2.1 a.2.2.1)
def ace(a:Fv):bE:=let (_,_,_,e,b,d,c):=a;(bE.mk e b d c)
abbrev Gc:Type:=ah×bU×bW×ah×ah×ah×Int
def Q5(a:Gc):yc:=a.1
def Qh(a:Gc):ak:=(ak.mk a.2.1 a.2.2.1)
def Sc(a:Gc):bE:=let (_,_,_,e,b,d,c):=a;(bE.mk e b d c)
abbrev Rj:Type:=ck×ck×eK×bU×bW×Int×dh×ah×dq×ah×ah×du×bU×bW×eD×ah×ah×ah×Int×ah×Int×Int×ah×ah×cG×Int×ah×ah×ah×Bool×Int×Int×Int×Int×cG×eP×ah×bH
def kU(s:Rj):aR:=let (z0,p,n,B,o,h,x,d,D,u,b,G,y,j,z,m,E,c,e,w,A,v,a,q,K,F,H,g,C,k,l,J,I,r,i,t,f,_):=s;(aR.mk (aE.mk (aB.mk (ak.mk B o) h x d D u b G) (ak.mk y j) z (bE.mk m E c e) (cd.mk w A v) z0 p (cZ.mk a q) (aL.mk K) (bQ.mk F H) (bA.mk g C k) (b7.mk l J I r) (aL.mk i) t n) f)
def kT(a:Rj):bH:=a.2.2.2.2.2.2.2.2.2.2.2.2.2.2.2.2.2.2.2.2.2.2.2.2.2.2.2.2.2.2.2.2.2.2.2.2.2
abbrev wz:Type:=Int×Int×Int×Int×ah×Int×Int×Int×ck×eK×bU×bW×Int×dh×ah×dq×ah×ah×du×bU×bW×eD×ah×ah×ah×Int×ah×Int×Int×ck×ah×ah×cG×Int×ah×ah×ah×Bool×Int×Int×Int×Int×cG×eP×ah×ak×aL
def aeD(a:wz):dS:=(dS.mk a.1 a.2.1 a.2.2.1 a.2.2.2.1)
def acw(a:wz):aS:=(aS.mk a.2.2.2.2.1 a.2.2.2.2.2.1 a.2.2.2.2.2.2.1 a.2.2.2.2.2.2.2.1)
def ahv(q:wz):aR:=let (_,_,_,_,_,_,_,_,B,t,c,F,w,i,x,l,C,d,e,v,z,u,b,m,M,E,I,g,A,j,k,K,J,n,h,s,f,D,o,r,G,a,y,p,H,_,_):=q;(aR.mk (aE.mk (aB.mk (ak.mk c F) w i x l C d e) (ak.mk v z) u (bE.mk b m M E) (cd.mk I g A) B j (cZ.mk k K) (aL.mk J) (bQ.mk n h) (bA.mk s f D) (b7.mk o r G a) (aL.mk y) p t) H)
def amb(a:wz):ak:=a.2.2.2.2.2.2.2.2.2.2.2.2.2.2.2.2.2.2.2.2.2.2.2.2.2.2.2.2.2.2.2.2.2.2.2.2.2.2.2.2.2.2.2.2.2.1
def aj7(a:wz):aL:=a.2.2.2.2.2.2.2.2.2.2.2.2.2.2.2.2.2.2.2.2.2.2.2.2.2.2.2.2.2.2.2.2.2.2.2.2.2.2.2.2.2.2.2.2.2.2
abbrev Kv:Type:=ck×eK×bU×bW×Int×dh×ah×dq×ah×ah×du×bU×bW×eD×ah×ah×ah×Int×ah×Int×Int×ck×ah×ah×cG×Int×ah×ah×ah×Bool×Int×Int×Int×Int×cG×eP×ah×Int×Int
def Vp(s:Kv):aR:=let (z0,p,n,B,o,h,x,d,D,u,b,G,y,j,z,m,E,c,e,w,A,v,a,q,K,F,H,g,C,k,l,J,I,r,i,t,f,_,_):=s;(aR.mk (aE.mk (aB.mk (ak.mk n B) o h x d D u b) (ak.mk G y) j (bE.mk z m E c) (cd.mk e w A) z0 v (cZ.mk a q) (aL.mk K) (bQ.mk F H) (bA.mk g C k) (b7.mk l J I r) (aL.mk i) t p) f)
def apR(a:Kv):Int:=a.2.2.2.2.2.2.2.2.2.2.2.2.2.2.2.2.2.2.2.2.2.2.2.2.2.2.2.2.2.2.2.2.2.2.2.2.2.1
def Y6(a:Kv):Int:=a.2.2.2.2.2.2.2.2.2.2.2.2.2.2.2.2.2.2.2.2.2.2.2.2.2.2.2.2.2.2.2.2.2.2.2.2.2.2
abbrev OO:Type:=ck×eK×bU×bW×Int×dh×ah×dq×ah×ah×du×bU×bW×eD×ah×ah×ah×Int×ah×Int×Int×ah×ah×cG×Int×ah×ah×ah×Bool×Int×Int×Int×Int×cG×eP×ah×ck×bH
def agZ(s:OO):aR:=let (z0,p,n,B,o,h,x,d,D,u,b,G,y,j,z,m,E,c,e,w,A,v,a,q,K,F,H,g,C,k,l,J,I,r,i,t,f,_):=s;(aR.mk (aE.mk (aB.mk (ak.mk n B) o h x d D u b) (ak.mk G y) j (bE.mk z m E c) (cd.mk e w A) z0 f (cZ.mk v a) (aL.mk q) (bQ.mk K F) (bA.mk H g C) (b7.mk k l J I) (aL.mk r) i p) t)
def aeX(a:OO):bH:=a.2.2.2.2.2.2.2.2.2.2.2.2.2.2.2.2.2.2.2.2.2.2.2.2.2.2.2.2.2.2.2.2.2.2.2.2.2
abbrev QZ:Type:=ck×ck×eK×bU×bW×Int×dh×ah×dq×ah×ah×du×bU×bW×eD×ah×ah×ah×Int×ah×Int×Int×ah×ah×cG×Int×ah×ah×ah×Bool×Int×Int×Int×Int×cG×eP×ah×Int
def ams(s:QZ):aR:=let (z0,p,n,B,o,h,x,d,D,u,b,G,y,j,z,m,E,c,e,w,A,v,a,q,K,F,H,g,C,k,l,J,I,r,i,t,f,_):=s;(aR.mk (aE.mk (aB.mk (ak.mk B o) h x d D u b G) (ak.mk y j) z (bE.mk m E c e) (cd.mk w A v) z0 p (cZ.mk a q) (aL.mk K) (bQ.mk F H) (bA.mk g C k) (b7.mk l J I r) (aL.mk i) t n) f)
def UW(a:QZ):Int:=a.2.2.2.2.2.2.2.2.2.2.2.2.2.2.2.2.2.2.2.2.2.2.2.2.2.2.2.2.2.2.2.2.2.2.2.2.2
abbrev Ti:Type:=ay×bU×bW×Int×dh×ah×dq×ah×ah×du×bU×bW×eD×ah×ah×ah×Int×ah×Int×Int×ck×ck×ah×ah×cG×Int×ah×ah×ah×Bool×Int×Int×Int×Int×cG×eP×eK
def VG(a:Ti):ay:=a.1
def abC(s:Ti):aE:=let (_,p,n,B,o,h,x,d,D,u,b,G,y,j,z,m,E,c,e,w,A,v,a,q,K,F,H,g,C,k,l,J,I,r,i,t,f):=s;(aE.mk (aB.mk (ak.mk p n) B o h x d D u) (ak.mk b G) y (bE.mk j z m E) (cd.mk c e w) A v (cZ.mk a q) (aL.mk K) (bQ.mk F H) (bA.mk g C k) (b7.mk l J I r) (aL.mk i) t f)
abbrev PN:Type:=cG×bU×bW×Int×dh×ah×dq×ah×ah×du×bU×bW×eD×ah×ah×ah×Int×ah×Int×Int×ck×ck×ah×ah×cG×Int×ah×ah×ah×Bool×Int×Int×Int×Int×cG×eP×eK
def QN(a:PN):List ay:=a.1
def P0(s:PN):aE:=let (_,p,n,B,o,h,x,d,D,u,b,G,y,j,z,m,E,c,e,w,A,v,a,q,K,F,H,g,C,k,l,J,I,r,i,t,f):=s;(aE.mk (aB.mk (ak.mk p n) B o h x d D u) (ak.mk b G) y (bE.mk j z m E) (cd.mk c e w) A v (cZ.mk a q) (aL.mk K) (bQ.mk F H) (bA.mk g C k) (b7.mk l J I r) (aL.mk i) t f)
abbrev RT:Type:=Int×bU×bW×Int×dh×ah×dq×ah×ah×du×bU×bW×eD×ah×ah×ah×Int×ah×Int×Int×ck×ck×ah×ah×cG×Int×ah×ah×ah×Bool×Int×Int×Int×Int×cG×eP×eK
def SY(a:RT):Int:=a.1
def Mx(s:RT):aE:=let (_,p,n,B,o,h,x,d,D,u,b,G,y,j,z,m,E,c,e,w,A,v,a,q,K,F,H,g,C,k,l,J,I,r,i,t,f):=s;(aE.mk (aB.mk (ak.mk p n) B o h x d D u) (ak.mk b G) y (bE.mk j z m E) (cd.mk c e w) A v (cZ.mk a q) (aL.mk K) (bQ.mk F H) (bA.mk g C k) (b7.mk l J I r) (aL.mk i) t f)
abbrev Lz:Type:=bC×bU×bW×Int×dh×ah×dq×ah×ah×du×bU×bW×eD×ah×ah×ah×Int×ah×Int×Int×ck×ck×ah×ah×cG×Int×ah×ah×ah×Bool×Int×Int×Int×Int×cG×eP×eK
def YR(a:Lz):bC:=a.1
def ad4(s:Lz):aE:=let (_,p,n,B,o,h,x,d,D,u,b,G,y,j,z,m,E,c,e,w,A,v,a,q,K,F,H,g,C,k,l,J,I,r,i,t,f):=s;(aE.mk (aB.mk (ak.mk p n) B o h x d D u) (ak.mk b G) y (bE.mk j z m E) (cd.mk c e w) A v (cZ.mk a q) (aL.mk K) (bQ.mk F H) (bA.mk g C k) (b7.mk l J I r) (aL.mk i) t f)
abbrev NY:Type:=dh×bU×bW×Int×dh×ah×dq×ah×ah×du×bU×bW×eD×ah×ah×ah×Int×ah×Int×Int×ck×ck×ah×ah×cG×Int×ah×ah×ah×Bool×Int×Int×Int×Int×cG×eP×eK
def RK(a:NY):List bC:=a.1
def QT(s:NY):aE:=let (_,p,n,B,o,h,x,d,D,u,b,G,y,j,z,m,E,c,e,w,A,v,a,q,K,F,H,g,C,k,l,J,I,r,i,t,f):=s;(aE.mk (aB.mk (ak.mk p n) B o h x d D u) (ak.mk b G) y (bE.mk j z m E) (cd.mk c e w) A v (cZ.mk a q) (aL.mk K) (bQ.mk F H) (bA.mk g C k) (b7.mk l J I r) (aL.mk i) t f)
abbrev SO:Type:=dK×bU×bW×Int×dh×ah×dq×ah×ah×du×bU×bW×eD×ah×ah×ah×Int×ah×Int×Int×ck×ck×ah×ah×cG×Int×ah×ah×ah×Bool×Int×Int×Int×Int×cG×eP×eK
def UL(a:SO):dK:=a.1
def aaD(s:SO):aE:=let (_,p,n,B,o,h,x,d,D,u,b,G,y,j,z,m,E,c,e,w,A,v,a,q,K,F,H,g,C,k,l,J,I,r,i,t,f):=s;(aE.mk (aB.mk (ak.mk p n) B o h x d D u) (ak.mk b G) y (bE.mk j z m E) (cd.mk c e w) A v (cZ.mk a q) (aL.mk K) (bQ.mk F H) (bA.mk g C k) (b7.mk l J I r) (aL.mk i) t f)
abbrev MC:Type:=eK×bU×bW×Int×dh×ah×dq×ah×ah×du×bU×bW×eD×ah×ah×ah×Int×ah×Int×Int×ck×ck×ah×ah×cG×Int×ah×ah×ah×Bool×Int×Int×Int×Int×cG×eP×eK
def NM(a:MC):List dK:=a.1
def PH(s:MC):aE:=let (_,p,n,B,o,h,x,d,D,u,b,G,y,j,z,m,E,c,e,w,A,v,a,q,K,F,H,g,C,k,l,J,I,r,i,t,f):=s;(aE.mk (aB.mk (ak.mk p n) B o h x d D u) (ak.mk b G) y (bE.mk j z m E) (cd.mk c e w) A v (cZ.mk a q) (aL.mk K) (bQ.mk F H) (bA.mk g C k) (b7.mk l J I r) (aL.mk i) t f)
def I1(L:Lp)(a:yc):Option Bool:=c6 (c5 ((a.length:Int)<=400))
def yQ(L:Lp)(a:bI)(b:Int)(c:Int):Option Bool:=bif c5 (b<=a.eF) then bif c5 (a.eF<=a.fk) then c6 (c5 (a.fk<=c)) else c6 false else c6 false
def yL(L:Lp)(c:ak)(a:Int):Option (Int⊕(Unit⊕Unit)):=bif c5 (a<(c.ai.length:Int)) then(aj c.ai a).bind λb=>(bif c5 (b.eU<(-10000)) then c6 true else c6 (c5 (10000<b.eU))).bind λd=>bif d then c6 (c7 (dd ())) else c6 (dd (c3 c4 (a+1))) else c6 (c7 (c7 ()))
def vX(b:ak)(c:Int):Option (Int⊕(Int⊕Unit)):=bif c5 (c<(b.af.length:Int)) then(aj b.af c).bind λa=>(bif c5 (a.an<0) then c6 true else bif c5 ((b.ai.length:Int)<=a.an) then c6 true else bif c5 (a.To<0) then c6 true else bif c5 ((b.ai.length:Int)<=a.To) then c6 true else c6 (c5 (a.an=a.To))).bind λe=>bif e then c6 (c7 (dd 4)) else(bif c5 (a.aj3<1) then c6 true else bif c5 (100000<a.aj3) then c6 true else bif c5 (a.bT<1) then c6 true else c6 (c5 (1000<a.bT))).bind λg=>bif g then c6 (c7 (dd 1)) else((yQ L a.anC 1 262144).bind λh=>bif (!h) then c6 true else(yQ L a.eI (-2199023255552) 2199023255552).bind λf=>c6 (!f):Option Bool).bind λd=>bif d then c6 (c7 (dd 1)) else c6 (dd (c3 c4 (c+1))) else c6 (c7 (c7 ()))
def zG(a:ak):Option Int:=(bif c5 (64<(a.ai.length:Int)) then c6 true else c6 (c5 (128<(a.af.length:Int)))).bind λe=>bif e then c6 2 else(L.loop (λb=>yL L a b) 0).bind λc=>dt (λh=>c6 1) (λi=>(L.loop (λb=>vX L a b) 0).bind λf=>dt (λd=>c6 d) (λg=>c6 0) f) c
def ij(b:ak):Option Bool:=(zG L b).bind λa=>c6 (c5 (a=0))
def wx(L:Lp)(b:yc)(d:Int)(f:Int)(a:Int):Option (Int⊕(Unit⊕Unit)):=bif c5 (a<(b.length:Int)) then(aj b a).bind λc=>(bif c5 (c<d) then c6 true else bif c5 (f<c) then c6 true else bif c5 (0<a) then(aj b (c3 c4 (a -1))).bind λe=>c6 (c5 (c<=e)) else c6 false).bind λg=>bif g then c6 (c7 (dd ())) else c6 (dd (c3 c4 (a+1))) else c6 (c7 (c7 ()))
def iU(d:yc)(b:Int)(e:Int):Option Bool:=(L.loop (λc=>wx L d b e c) 0).bind λa=>dt (λf=>c6 false) (λg=>c6 true) a
def cp(L:Lp)(a:Int)(b:Int)(c:Int):Option Bool:=bif c5 (b<=a) then c6 (c5 (a<=c)) else c6 false
def wN(a:aS)(b:ak):Option Bool:=bif c5 ((a.ai.length:Int)=0) then c6 true else(iU L a.ai 0 (c3 c4 ((b.ai.length:Int) -1))).bind λc=>bif (!c) then c6 true else(cp L a.dX 1 600).bind λd=>bif (!d) then c6 true else(cp L a.dY 0 10).bind λf=>bif (!f) then c6 true else(cp L a.cR 0 60).bind λe=>c6 (!e)
def Ha(d:List aS)(b:ak)(a:Int):Option (Int⊕(Int⊕Unit)):=ixL d (λc=>wN L c b) a
def Fh(c:List aS)(a:ak):Option Int:=(L.loop (λb=>Ha L c a b) 0).bind λd=>dt (λe=>c6 e) (λf=>c6 (-1)) d
def El(c:List aS)(b:ak):Option Bool:=(Fh L c b).bind λa=>c6 (c5 (0<=a))
def wI(b:ak)(a:List aS):Option Bool:=(ij L b).bind λd=>bif d then bif c5 ((a.length:Int)<=32) then(El L a b).bind λc=>c6 (!c) else c6 false else c6 false
def Ci(c:Int)(b:ak):Option Bool:=(cp L c 0 (c3 c4 ((b.ai.length:Int) -1))).bind λa=>c6 (!a)
def KM(d:yc)(b:ak)(a:Int):Option (Int⊕(Int⊕Unit)):=ixL d (λc=>Ci L c b) a
def KC(c:yc)(a:ak):Option Int:=(L.loop (λb=>KM L c a b) 0).bind λd=>dt (λe=>c6 e) (λf=>c6 (-1)) d
def Cg(c:yc)(b:ak):Option Bool:=(KC L c b).bind λa=>c6 (c5 (0<=a))
def qK(L:Lp)(a:yc):Option yc:=c6 a
def rl(L:Lp)(a:yc):Option yc:=rC a
def IA(L:Lp)(a:yc):Option yc:=bj 8 [] a
def Kx(b:yc):Option yc:=(IA L b).bind λa=>c6 a
def rG(c:yc):Option yc:=(Kx L c).bind λb=>(rl L b).bind λa=>c6 a
def ym(d:yc):Option Bool:=(qK L d).bind λb=>(rG L b).bind λa=>(iU L a 1 65535).bind λc=>c6 c
def kF(L:Lp)(a:List bP):Option (List bP):=bj 16 [] a
def kQ(L:Lp)(a:List aZ):Option (List aZ):=bj 72 [] a
def rf(L:Lp)(a:List bC):Option (List bC):=bj 24 [] a
def cc(L:Lp)(a:yc):Option yc:=bj 8 [] a
def ue(c:aB)(a:aB)(b:Int):Option (Y9⊕Y3):=bif c5 (b<(c.aQ.length:Int)) then(aj c.aQ b).bind λd=>(cc L d.ai).bind λf=>(bj 48 a.aQ ([({d with ai:=f}:aS)]:List aS)).bind λe=>c6 (dd (u9 ({a with aQ:=e}:aB) (c3 c4 (b+1)))) else c6 (c7 (u3 a))
def tG(c:aB)(b:aB)(a:Int):Option (Y1⊕Y3):=bif c5 (a<(c.bp.length:Int)) then(aj c.bp a).bind λf=>(cc L f).bind λd=>(bj 24 b.bp ([d]:List (yc))).bind λe=>c6 (dd (u1 ({b with bp:=e}:aB) (c3 c4 (a+1)))) else c6 (c7 (u3 b))
def yS(a:aB):Option aB:=(kF L a.ao.ai).bind λd=>(kQ L a.ao.af).bind λe=>(rf L a.aN).bind λl=>(cc L a.aw).bind λk=>(L.loop (λb=>ue L a (Oe b) (Nk b)) (u9 ({a with ao:=(ak.mk d e),aN:=l,aw:=k,aQ:=([]:List aS)}:aB) 0)).bind λc=>let i:=wZ c;(cc L a.cn).bind λg=>(cc L a.cf).bind λj=>(L.loop (λb=>tG L a (CU b) (Eg b)) (u1 ({i with cn:=g,cf:=j,bp:=([]:List (yc))}:aB) 0)).bind λh=>let f:=wZ h;c6 f
def tX(L:Lp)(c:yc)(a:aB)(b:Int):Option (Y8⊕Y3):=bif c5 (b<(c.length:Int)) then(aj c b).bind λd=>(bj 24 a.aN ([(bC.mk d (-1) 0)]:List bC)).bind λe=>c6 (dd (u8 ({a with aN:=e}:aB) (c3 c4 (b+1)))) else c6 (c7 (u3 a))
def sH(L:Lp)(d:List aS)(e:yc)(a:aB)(b:Int):Option (Y1⊕Y3):=bif c5 (b<(d.length:Int)) then(bj 8 a.cn ([(-1)]:yc)).bind λc=>(bj 8 a.cf ([(-1)]:yc)).bind λf=>(gP 8 0 (e.length:Int)).bind λh=>(bj 24 a.bp ([h]:List (yc))).bind λg=>c6 (dd (u1 ({a with cn:=c,cf:=f,bp:=g}:aB) (c3 c4 (b+1)))) else c6 (c7 (u3 a))
def Ef(e:ak)(d:List aS)(a:yc)(c:yc)(f:Int):Option (aB×Int):=((wI L e d).bind λr=>bif (!r) then c6 true else bif c5 ((c.length:Int)≠(a.length:Int)) then c6 true else(cp L (a.length:Int) 1 12).bind λn=>c6 (!n):Option Bool).bind λk=>bif k then c6 ((aB.mk (ak.mk ([]:List bP) ([]:List aZ)) 0 ([]:List bC) ([]:yc) ([]:List aS) ([]:yc) ([]:yc) ([]:List (yc))),6) else(Cg L a e).bind λl=>bif l then c6 ((aB.mk (ak.mk ([]:List bP) ([]:List aZ)) 0 ([]:List bC) ([]:yc) ([]:List aS) ([]:yc) ([]:yc) ([]:List (yc))),3) else(ym L c).bind λm=>bif (!m) then c6 ((aB.mk (ak.mk ([]:List bP) ([]:List aZ)) 0 ([]:List bC) ([]:yc) ([]:List aS) ([]:yc) ([]:yc) ([]:List (yc))),41) else(cp L f 0 2147483648).bind λp=>bif (!p) then c6 ((aB.mk (ak.mk ([]:List bP) ([]:List aZ)) 0 ([]:List bC) ([]:yc) ([]:List aS) ([]:yc) ([]:yc) ([]:List (yc))),8) else(L.loop (λb=>tX L a (L6 b) (T0 b)) (u8 (aB.mk e f ([]:List bC) c d ([]:yc) ([]:yc) ([]:List (yc))) 0)).bind λg=>let s:=wZ g;((L.loop (λb=>sH L d a (CU b) (Eg b)) (u1 s 0)).bind λi=>let j:=wZ i;c6 (u3 j):Option Y3).bind λq=>let h:=wZ q;(yS L h).bind λo=>c6 (o,0)
def EP(L:Lp)(a:bI):Option Bool:=bif c5 (a.eF<(-1125899906842624)) then c6 true else bif c5 (1125899906842624<a.fk) then c6 true else c6 (c5 (a.fk<a.eF))
def Kz(c:List bI)(a:Int):Option (Int⊕(Int⊕Unit)):=ixL c (λb=>EP L b) a
def Kq(b:List bI):Option Int:=(L.loop (λa=>Kz L b a) 0).bind λc=>dt (λd=>c6 d) (λe=>c6 (-1)) c
def B8(b:List bI):Option Bool:=(Kq L b).bind λa=>c6 (c5 (0<=a))
def pD(b:ak)(a:List bI):Option Bool:=(ij L b).bind λd=>bif d then bif c5 ((a.length:Int)=(b.af.length:Int)) then(B8 L a).bind λc=>c6 (!c) else c6 false else c6 false
def vk(L:Lp)(b:Int)(a:Int):Option (Int×Int):=(iN .u64 b 32).bind λc=>(iN .u64 a 32).bind λd=>(iN .u64 (dv.wrap ((bits .and .u64 b 4294967295)*(bits .and .u64 a 4294967295))) 32).bind λe=>(iN .u64 (dv.wrap ((dv.wrap (c*(bits .and .u64 a 4294967295)))+e)) 32).bind λf=>(iN .u64 (dv.wrap ((bits .and .u64 (dv.wrap ((dv.wrap (c*(bits .and .u64 a 4294967295)))+e)) 4294967295)+(dv.wrap ((bits .and .u64 b 4294967295)*d)))) 32).bind λg=>c6 (dv.wrap ((dv.wrap ((dv.wrap (c*d))+f))+g),dv.wrap (b*a))
def DJ(c:Int)(b:Int):Option (Int×Int):=(vk L c b).bind λa=>c6 (a.1,a.2)
def pZ(L:Lp)(a:yc)(b:Int):Option (((yc)×Int)⊕(yc)):=bif c5 (b<(a.length:Int)) then(eG a b (a.length:Int)).bind λ_=>(eG a 0 b).bind λ_=>c6 (dd (mg ((a.drop ((0:Int).toNat)).take (b.toNat - (0:Int).toNat)) (b.toNat) (((a.length:Int)).toNat -b.toNat) a,c3 c4 (b+((min (((a.length:Int)).toNat -b.toNat) ((a.drop ((0:Int).toNat)).take (b.toNat - (0:Int).toNat)).length:Nat):Int)))) else c6 (c7 a)
def EC(a:yc)(d:Int):Option yc:=bif c5 (d<0) then e0 else(DJ L (dv.wrap (a.length:Int)) (dv.wrap d)).bind λc=>(bif c5 (0<c.1) then c6 true else c6 (c5 (9223372036854775807<c.2))).bind λf=>bif f then e0 else(gP 8 0 (c3 c4 c.2)).bind λb=>(L.loop (λe=>pZ L e.1 e.2) (mg a 0 (b.length) b,((min (b.length) a.length:Nat):Int))).bind λg=>c6 g
def afR(L:Lp)(a:yc)(b:Int):Option (((yc)×Int)⊕(yc)):=bif c5 (b<(a.length:Int)) then(eG a b (a.length:Int)).bind λ_=>(eG a 0 b).bind λ_=>c6 (dd (mg ((a.drop ((0:Int).toNat)).take (b.toNat - (0:Int).toNat)) (b.toNat) (((a.length:Int)).toNat -b.toNat) a,c3 c4 (b+((min (((a.length:Int)).toNat -b.toNat) ((a.drop ((0:Int).toNat)).take (b.toNat - (0:Int).toNat)).length:Nat):Int)))) else c6 (c7 a)
def sJ(a:yc)(d:Int):Option yc:=bif c5 (d<0) then e0 else(DJ L (dv.wrap (a.length:Int)) (dv.wrap d)).bind λc=>(bif c5 (0<c.1) then c6 true else c6 (c5 (9223372036854775807<c.2))).bind λf=>bif f then e0 else(gP 8 0 (c3 c4 c.2)).bind λb=>(L.loop (λe=>afR L e.1 e.2) (mg a 0 (b.length) b,((min (b.length) a.length:Nat):Int))).bind λg=>c6 g
def n6(L:Lp)(e:ak)(a:Int)(d:bI)(h:Bool):Option Int:=(bif c5 (a<0) then c6 true else bif c5 ((e.af.length:Int)<=a) then c6 true else(aj e.af a).bind λj=>c6 j.eN).bind λk=>bif k then c6 (-1) else(aj e.af a).bind λb=>(bif h then c6 (c3 c4 (0 -d.fk),c3 c4 (0 -d.eF)) else c6 (d.eF,d.fk)).bind λf=>(bif c5 ((c3 c4 ((-500)*b.bT))<f.2) then c6 b.aj3 else c6 (-1)).bind λc=>bif c5 (0<f.2) then(ph .i64 (c3 c4 ((c3 c4 (b.aj3*b.bT))*1000)) f.2).bind λg=>(bif c5 (c<0) then c6 true else c6 (c5 (g<c))).bind λi=>bif i then c6 g else c6 c else c6 c
def yr(a:yc)(j:List bP)(n:List aZ)(g:List bI)(e:Int)(b:Int)(c:Int)(p:Bool):Option ((yc)×Bool):=(aj g e).bind λo=>(n6 L (ak.mk j n) e o p).bind λd=>(bif c5 (d<0) then c6 true else(aj a b).bind λ_=>(a[b.toNat]?).bind λh=>bif c5 (2147483648<h) then c6 true else(aj a b).bind λ_=>(a[b.toNat]?).bind λm=>bif c5 (2147483648<(c3 c4 (m+d))) then c6 true else(aj a b).bind λ_=>(a[b.toNat]?).bind λl=>(aj a c).bind λ_=>(a[c.toNat]?).bind λi=>c6 (c5 (i<=(c3 c4 (l+d))))).bind λf=>bif f then c6 (a,false) else(aj a b).bind λ_=>(a[b.toNat]?).bind λk=>(aj a c).bind λ_=>(a[c.toNat]?).bind λ_=>c6 (a.set (c.toNat) (c3 c4 (k+d)),true)
def I6(c:List aZ)(f:List bP)(d:List bI)(g:yc)(i:Bool)(a:Int):Option (((yc)×Bool×Int)⊕((yc)×Bool)):=bif c5 (a<(c.length:Int)) then(aj c a).bind λb=>(yr L g f c d a b.an b.To false).bind λh=>(yr L h.1 f c d a b.To b.an true).bind λe=>(bif i then c6 true else bif h.2 then c6 true else c6 e.2).bind λj=>c6 (dd (e.1,j,c3 c4 (a+1))) else c6 (c7 (g,i))
def Ms(g:List aZ)(e:List bP)(d:List bI)(c:yc)(f:Bool):Option (((yc)×Bool)⊕(yc)):=bif f then(L.loop (λa=>I6 L g e d a.1 a.2.1 a.2.2) (c,false,0)).bind λb=>c6 (dd (b.1,b.2)) else c6 (c7 c)
def rM(e:yc)(d:List bP)(f:List aZ)(b:List bI):Option yc:=(L.loop (λa=>Ms L f d b a.1 a.2) (e,true)).bind λc=>c6 c
def Fg(L:Lp)(d:yc)(e:Int)(a:yc)(b:Int):Option (((yc)×Int)⊕(yc)):=bif c5 (b<(d.length:Int)) then(aj d b).bind λc=>(aj a c).bind λ_=>(a[c.toNat]?).bind λ_=>c6 (dd (a.set (c.toNat) e,c3 c4 (b+1))) else c6 (c7 a)
def Eh(a:ak)(c:List bI)(e:yc)(b:Int):Option (bQ×Int):=(pD L a c).bind λh=>bif (!h) then c6 ((bQ.mk 0 ([]:yc)),6) else(iU L e 0 (c3 c4 ((a.ai.length:Int) -1))).bind λj=>bif (!j) then c6 ((bQ.mk 0 ([]:yc)),3) else(cp L b 0 2147483648).bind λk=>bif (!k) then c6 ((bQ.mk 0 ([]:yc)),8) else(sJ L ([1099511627776]:yc) (a.ai.length:Int)).bind λi=>(L.loop (λd=>Fg L e b d.1 d.2) (i,0)).bind λg=>(rM L g a.ai a.af c).bind λf=>c6 ((bQ.mk b f),0)
def rP(b:ak)(a:bE):Option Bool:=(ij L b).bind λf=>bif f then(iU L a.akL 0 (c3 c4 ((b.ai.length:Int) -1))).bind λe=>bif e then(iU L a.dg 0 (c3 c4 ((b.ai.length:Int) -1))).bind λg=>bif g then(iU L a.dG 0 (c3 c4 ((b.af.length:Int) -1))).bind λd=>bif d then(cp L a.er 0 2147483648).bind λc=>c6 c else c6 false else c6 false else c6 false else c6 false
def oT(b:cd)(a:b7):Option Bool:=(bif c5 ((b.bT.length:Int)=0) then c6 true else(iU L b.bT 0 63).bind λe=>bif (!e) then c6 true else(cp L b.dZ 1 100000).bind λh=>bif (!h) then c6 true else(cp L b.ed 1 100000).bind λd=>bif (!d) then c6 true else(cp L a.aa0 0 2147483648).bind λg=>c6 (!g)).bind λi=>bif i then c6 false else bif c5 (a.State=0) then c6 ((a.State==0)&&((a.dD==0)&&((a.akU==0)&&((a.aa0==0)&&true)))) else bif c5 (a.State=1) then bif c5 (0<a.dD) then c6 (c5 (a.akU=0)) else c6 false else(bif c5 (a.State=2) then c6 (c5 (a.State=2)) else(bif c5 (a.State=3) then c6 (c5 (a.State=3)) else c6 (c5 (a.State=4))).bind λc=>c6 c).bind λf=>bif f then bif c5 (0<a.dD) then bif c5 (0<a.akU) then c6 (c5 (a.dD≠a.akU)) else c6 false else c6 false else c6 false
def zm(c:Int)(b:ak):Option Bool:=(cp L c 0 (c3 c4 ((b.af.length:Int) -1))).bind λa=>c6 (!a)
def Za(d:yc)(b:ak)(a:Int):Option (Int⊕(Int⊕Unit)):=ixL d (λc=>zm L c b) a
def Ak(c:yc)(a:ak):Option Int:=(L.loop (λb=>Za L c a b) 0).bind λd=>dt (λe=>c6 e) (λf=>c6 (-1)) d
def zi(c:yc)(b:ak):Option Bool:=(Ak L c b).bind λa=>c6 (c5 (0<=a))
def xa(a:yc):Option Bool:=(cp L (a.length:Int) 1 12).bind λc=>bif c then(iU L a 0 127).bind λb=>c6 b else c6 false
def AQ(a:yc):Option (bA×Int):=(xa L a).bind λc=>bif (!c) then c6 ((bA.mk ([]:yc) ([]:yc) false),6) else(cc L a).bind λd=>(gP 8 0 (a.length:Int)).bind λb=>c6 ((bA.mk d b false),0)
def AI(d:yc):Option Bool:=(qK L d).bind λb=>(rG L b).bind λa=>(iU L a 1 65535).bind λc=>c6 c
def yF(b:ak):Option yc:=(sJ L ([1099511627776]:yc) (b.ai.length:Int)).bind λa=>c6 a
def G5(L:Lp):Option kD:=c6 (kD.mk 6 9 12)
def xu(L:Lp)(c:ak)(i:Int)(k:Bool)(b:kD):Option Int:=(aj c.af i).bind λa=>(bif a.eN then c6 true else c6 (!a.jy)).bind λj=>bif j then c6 (-1) else(aj c.ai a.To).bind λg=>(aj c.ai a.an).bind λf=>(bif k then c6 (c3 c4 (0 - (c3 c4 (g.eU -f.eU)))) else c6 (c3 c4 (g.eU -f.eU))).bind λe=>(bif c5 (a.aj3<(c3 c4 (10*e))) then c6 b.up else(bif c5 (a.aj3<(c3 c4 ((-10)*e))) then c6 b.down else c6 b.level).bind λl=>c6 l).bind λd=>(ph .i64 (c3 c4 ((c3 c4 ((c3 c4 (10*a.aj3))+d)) -1)) d).bind λh=>c6 h
def FX(c:ak)(b:Int)(d:Bool):Option Int:=(G5 L).bind λe=>(xu L c b d e).bind λa=>c6 a
def rO(b:ak)(a:Int)(d:Bool):Option Int:=((ij L b).bind λc=>bif (!c) then c6 true else bif c5 (a<0) then c6 true else c6 (c5 ((b.af.length:Int)<=a)):Option Bool).bind λe=>bif e then c6 (-1) else(FX L b a d).bind λf=>c6 f
def KJ(L:Lp)(a:Int):Option Unit:=c6 ()
def CB(b:yc)(e:Bool)(g:Int)(a:Int)(d:Int)(c:Int):Option ((yc)×Bool):=(bif c5 ((max d c)<=2147483648) then(aj b a).bind λ_=>(b[a.toNat]?).bind λf=>bif c5 ((max d c)<f) then(KJ L a).bind λh=>c6 true else c6 false else c6 false).bind λjA=>bif jA then(aj b a).bind λ_=>(b[a.toNat]?).bind λ_=>c6 (b.set (a.toNat) (max d c),true) else c6 (b,e)
def th(c:aZ)(n:ak)(l:Int)(k:Int)(a:yc)(d:Bool)(e:Int):Option (((yc)×Bool×Int)⊕((yc)×Bool)):=bif c5 (e<2) then(aj [false,true] e).bind λi=>(bif i then c6 (c.To,c.an) else c6 (c.an,c.To)).bind λb=>(rO L n l i).bind λf=>(bif c5 (0<=f) then(aj a b.1).bind λ_=>(a[b.1.toNat]?).bind λj=>c6 (c5 (j<1099511627776)) else c6 false).bind λm=>(bif m then(aj a b.1).bind λ_=>(a[b.1.toNat]?).bind λo=>(CB L a d b.1 b.2 (c3 c4 (o+f)) k).bind λg=>c6 (g.1,g.2) else c6 (a,d)).bind λh=>c6 (dd (h.1,h.2,c3 c4 (e+1))) else c6 (c7 (a,d))
def vN(c:ak)(h:Int)(e:yc)(f:Bool)(a:Int):Option (((yc)×Bool×Int)⊕((yc)×Bool)):=bif c5 (a<(c.af.length:Int)) then(aj c.af a).bind λg=>(L.loop (λb=>th L g c a h b.1 b.2.1 b.2.2) (e,f,0)).bind λd=>c6 (dd (d.1,d.2,c3 c4 (a+1))) else c6 (c7 (e,f))
def yf(e:yc)(d:Bool)(f:ak)(c:Int):Option ((yc)×Bool):=(L.loop (λa=>vN L f c a.1 a.2.1 a.2.2) (e,d,0)).bind λb=>c6 (b.1,b.2)
def Gt(d:ak)(e:Int)(b:yc)(c:Bool):Option (((yc)×Bool)⊕(yc)):=bif c then(yf L b false d e).bind λa=>c6 (dd (a.1,a.2)) else c6 (c7 b)
def ze(c:ak)(b:yc)(e:Int):Option yc:=(cc L b).bind λd=>(L.loop (λa=>Gt L c e a.1 a.2) (d,true)).bind λf=>c6 f
def adr(d:ak)(e:Int)(b:yc)(c:Bool):Option (((yc)×Bool)⊕(yc)):=bif c then(yf L b false d e).bind λa=>c6 (dd (a.1,a.2)) else c6 (c7 b)
def sI(c:ak)(b:yc)(e:Int):Option yc:=(cc L b).bind λd=>(L.loop (λa=>adr L c e a.1 a.2) (d,true)).bind λf=>c6 f
def Cr(b:ak)(a:Int)(c:Int):Option (aM×Int):=(ij L b).bind λg=>bif (!g) then c6 ((aM.mk 0 ([]:yc)),6) else(cp L a 0 (c3 c4 ((b.ai.length:Int) -1))).bind λh=>bif (!h) then c6 ((aM.mk 0 ([]:yc)),3) else(cp L c 0 2147483648).bind λe=>bif (!e) then c6 ((aM.mk 0 ([]:yc)),8) else(yF L b).bind λd=>(aj d a).bind λ_=>(d[a.toNat]?).bind λ_=>(sI L b (d.set (a.toNat) c) c).bind λf=>c6 ((aM.mk c f),0)
def HP(d:yc)(g:ak)(f:Int)(a:ay)(c:Int):Option (((yc)×(List aM)×Int)⊕(((List ay)×Int)⊕((yc)×(List aM)))):=bif c5 (c<(d.length:Int)) then(aj d c).bind λe=>(Cr L g e f).bind λb=>bif c5 (b.2≠0) then c6 (c7 (dd (([]:List ay),b.2))) else(bj 32 a.aH ([b.1]:List aM)).bind λh=>c6 (dd (a.aw,h,c3 c4 (c+1))) else c6 (c7 (c7 (a.aw,a.aH)))
def Bk(c:ak)(a:yc)(e:yc)(h:Int):Option (aL×Int):=((ij L c).bind λg=>bif (!g) then c6 true else bif c5 ((a.length:Int)≠(e.length:Int)) then c6 true else(cp L (a.length:Int) 1 12).bind λj=>c6 (!j):Option Bool).bind λk=>bif k then c6 ((aL.mk ([]:List ay)),6) else(AI L a).bind λm=>bif (!m) then c6 ((aL.mk ([]:List ay)),41) else(cc L a).bind λl=>(L.loop (λb=>HP L e c h (ay.mk b.1 b.2.1) b.2.2) (l,([]:List aM),0)).bind λi=>dt (λd=>c6 ((aL.mk d.1),d.2)) (λf=>c6 ((aL.mk ([(ay.mk f.1 f.2)]:List ay)),0)) i
def DL:Option cZ:=(EC L ([(-1)]:yc) 32).bind λb=>(gP 8 0 32).bind λa=>c6 (cZ.mk b a)
def Ao(c:Int)(b:aB)(d:Int):Option Bool:=(aj b.aQ d).bind λe=>(cp L c 0 e.dY).bind λa=>c6 (!a)
def Kl(b:yc)(a:aB)(c:Int)(d:Int):Option (Int⊕(Int⊕Unit)):=ixL b (λe=>Ao L e a c) d
def Iq(c:yc)(a:aB)(d:Int):Option Int:=(L.loop (λb=>Kl L c a d b) 0).bind λe=>dt (λf=>c6 f) (λg=>c6 (-1)) e
def BW(d:yc)(b:aB)(c:Int):Option Bool:=(Iq L d b c).bind λa=>c6 (c5 (0<=a))
def yM(b:ak)(a:Int)(c:Int):Option Int:=(cp L a 0 (c3 c4 ((b.af.length:Int) -1))).bind λg=>bif (!g) then c6 (-1) else(aj b.af a).bind λd=>bif c5 (c=d.an) then(rO L b a false).bind λe=>c6 e else(aj b.af a).bind λf=>bif c5 (c=f.To) then(rO L b a true).bind λh=>c6 h else c6 (-1)
def BS(b:ak)(a:bC):Option Bool:=(cp L a.abG 0 (c3 c4 ((b.ai.length:Int) -1))).bind λe=>bif (!e) then c6 false else bif c5 (a.akw=(-1)) then c6 (c5 (a.ami=0)) else(yM L b a.akw a.abG).bind λd=>bif c5 (0<=d) then(cp L a.ami 1 2147483648).bind λc=>c6 c else c6 false
def DB(c:bC)(b:aB):Option Bool:=(BS L b.ao c).bind λa=>c6 (!a)
def Gl(d:List bC)(b:aB)(a:Int):Option (Int⊕(Int⊕Unit)):=ixL d (λc=>DB L c b) a
def Gd(c:List bC)(a:aB):Option Int:=(L.loop (λb=>Gl L c a b) 0).bind λd=>dt (λe=>c6 e) (λf=>c6 (-1)) d
def zH(c:List bC)(b:aB):Option Bool:=(Gd L c b).bind λa=>c6 (c5 (0<=a))
def xm(a:aB)(b:Int):Option (Int⊕(Unit⊕Unit)):=bif c5 (b<(a.aQ.length:Int)) then((aj a.cn b).bind λc=>(cp L c (-1) 65535).bind λf=>bif (!f) then c6 true else(aj a.cf b).bind λl=>(cp L l (-1) a.aa0).bind λi=>bif (!i) then c6 true else(aj a.cn b).bind λj=>(aj a.cf b).bind λe=>bif ((c5 (j=(-1))) != (c5 (e=(-1)))) then c6 true else(aj a.bp b).bind λk=>c6 (c5 ((k.length:Int)≠(a.aN.length:Int))):Option Bool).bind λh=>bif h then c6 (c7 (dd ())) else(aj a.bp b).bind λd=>(BW L d a b).bind λg=>bif g then c6 (c7 (dd ())) else c6 (dd (c3 c4 (b+1))) else c6 (c7 (c7 ()))
def pV(a:aB):Option Bool:=((wI L a.ao a.aQ).bind λd=>bif (!d) then c6 true else(cp L (a.aN.length:Int) 1 12).bind λg=>bif (!g) then c6 true else bif c5 ((a.aw.length:Int)≠(a.aN.length:Int)) then c6 true else(ym L a.aw).bind λi=>bif (!i) then c6 true else(cp L a.aa0 0 2147483648).bind λc=>bif (!c) then c6 true else bif c5 ((a.cn.length:Int)≠(a.aQ.length:Int)) then c6 true else bif c5 ((a.cf.length:Int)≠(a.aQ.length:Int)) then c6 true else c6 (c5 ((a.bp.length:Int)≠(a.aQ.length:Int))):Option Bool).bind λf=>bif f then c6 false else(L.loop (λe=>xm L a e) 0).bind λh=>dt (λj=>c6 false) (λk=>(zH L a.aN a).bind λb=>c6 (!b)) h
def CX(L:Lp)(c:ak)(b:Int)(d:Int):Option Int:=(bif c5 (b<0) then c6 true else c6 (c5 ((c.af.length:Int)<=b))).bind λe=>bif e then c6 (-1) else(aj c.af b).bind λa=>bif c5 (d=a.an) then c6 a.To else bif c5 (d=a.To) then c6 a.an else c6 (-1)
def sK(c:aB)(a:aB)(b:Int):Option (Bf⊕CN):=bif c5 (b<(c.aQ.length:Int)) then(aj c.aQ b).bind λd=>(cc L d.ai).bind λf=>(bj 48 a.aQ ([({d with ai:=f}:aS)]:List aS)).bind λe=>c6 (dd (Ga ({a with aQ:=e}:aB) (c3 c4 (b+1)))) else c6 (c7 (DY a))
def vc(c:aB)(b:aB)(a:Int):Option (EM⊕CN):=bif c5 (a<(c.bp.length:Int)) then(aj c.bp a).bind λf=>(cc L f).bind λd=>(bj 24 b.bp ([d]:List (yc))).bind λe=>c6 (dd (J4 ({b with bp:=e}:aB) (c3 c4 (a+1)))) else c6 (c7 (DY b))
def yC(a:aB):Option F4:=(kF L a.ao.ai).bind λe=>(kQ L a.ao.af).bind λf=>(rf L a.aN).bind λc=>(cc L a.aw).bind λl=>(L.loop (λb=>sK L a (Pa c b) (Oj b)) (Ga ({a with ao:=(ak.mk e f),aN:=c,aw:=l,aQ:=([]:List aS)}:aB) 0)).bind λd=>let j:=Rg c d;(cc L a.cn).bind λh=>(cc L a.cf).bind λk=>(L.loop (λb=>vc L a (LU c b) (Tv b)) (J4 ({j with cn:=h,cf:=k,bp:=([]:List (yc))}:aB) 0)).bind λi=>let g:=Rg c i;c6 (B7 g)
def vz(h:aB)(e:Int)(f:aB)(b:List bC)(c:Int):Option (((List bC)×Int)⊕(List bC)):=bif c5 (c<(h.aN.length:Int)) then((aj b c).bind λ_=>(b[c.toNat]?).bind λa=>bif c5 (a.akw<0) then c6 b else(bif c5 ((c3 c4 (a.ami -e))<=0) then(CX L f.ao a.akw a.abG).bind λg=>c6 (g,(-1),0) else c6 (a.abG,a.akw,c3 c4 (a.ami -e))).bind λd=>(aj b c).bind λ_=>(b[c.toNat]?).bind λ_=>c6 (b.set (c.toNat) (bC.mk d.1 d.2.1 d.2.2)):Option (List bC)).bind λi=>c6 (dd (i,c3 c4 (c+1))) else c6 (c7 b)
def qp(a:aB)(b:Int):Option (aB×Int):=(pV L a).bind λh=>bif (!h) then c6 (a,6) else(cp L b 0 3600).bind λe=>bif (!e) then c6 (a,1) else bif c5 (2147483648<(c3 c4 (a.aa0+b))) then c6 (a,8) else(yC L a).bind λg=>let c:=Bi g;(L.loop (λd=>vz L c b a d.1 d.2) (c.aN,0)).bind λf=>c6 (({c with aa0:=c3 c4 (c.aa0+b),aN:=f}:aB),0)
def q9(L:Lp)(a:List bI):Option (List bI):=bj 16 [] a
def tV(c:List aT)(b:List aT)(a:Int):Option (((List aT)×Int)⊕(List aT)):=bif c5 (a<(c.length:Int)) then(aj c a).bind λd=>(cc L d.aw).bind λe=>(bj 48 b ([({d with aw:=e}:aT)]:List aT)).bind λf=>c6 (dd (f,c3 c4 (a+1))) else c6 (c7 b)
def ry(c:List aT):Option (List aT):=(L.loop (λa=>tV L c a.1 a.2) (([]:List aT),0)).bind λb=>c6 b
def r9(c:ay)(a:ay)(b:Int):Option (((yc)×(List aM)×Int)⊕((yc)×(List aM))):=bif c5 (b<(c.aH.length:Int)) then(aj c.aH b).bind λd=>(cc L d.an).bind λe=>(bj 32 a.aH ([(aM.mk d.aa0 e)]:List aM)).bind λf=>c6 (dd (a.aw,f,c3 c4 (b+1))) else c6 (c7 (a.aw,a.aH))
def oM(c:ay):Option ay:=(cc L c.aw).bind λd=>(L.loop (λa=>r9 L c (ay.mk a.1 a.2.1) a.2.2) (d,([]:List aM),0)).bind λb=>c6 (ay.mk b.1 b.2)
def sB(c:aL)(b:List ay)(a:Int):Option (((List ay)×Int)⊕(List ay)):=bif c5 (a<(c.aA.length:Int)) then(aj c.aA a).bind λf=>(oM L f).bind λd=>(bj 48 b ([d]:List ay)).bind λe=>c6 (dd (e,c3 c4 (a+1))) else c6 (c7 b)
def pf(c:aL):Option aL:=(L.loop (λa=>sB L c a.1 a.2) (([]:List ay),0)).bind λb=>c6 (aL.mk b)
def pI(L:Lp)(a:List cy):Option (List cy):=bj 64 [] a
def tO(d:aE)(b:aE)(a:Int):Option (pJ⊕qc):=bif c5 (a<(d.bB.length:Int)) then(aj d.bB a).bind λc=>(cc L c.ll).bind λf=>(bj 72 b.bB ([({c with ll:=f}:dK)]:List dK)).bind λe=>c6 (dd (u16 ({b with bB:=e}:aE) (c3 c4 (a+1)))) else c6 (c7 (lR b))
def wc(a:aE):Option aE:=(qp L a.au 0).bind λg=>(kF L a.ao.ai).bind λd=>(kQ L a.ao.af).bind λi=>(q9 L a.cI).bind λu=>(cc L a.bR.akL).bind λn=>(cc L a.bR.dg).bind λj=>(cc L a.bR.dG).bind λo=>(cc L a.bM.bT).bind λq=>(ry L a.cq).bind λk=>(ry L a.bZ).bind λf=>(cc L a.cW.dl).bind λs=>(cc L a.cW.dr).bind λe=>(pf L a.bw).bind λc=>(pf L a.bq).bind λm=>(cc L a.bz.an).bind λr=>(cc L a.aa2.af).bind λl=>(cc L a.aa2.aa2).bind λp=>(pI L a.bS).bind λv=>(L.loop (λb=>tO L a (sN b) (sE b)) (u16 (aE.mk g.1 (ak.mk d i) u (bE.mk n j o a.bR.er) (cd.mk q a.bM.dZ a.bM.ed) k f (cZ.mk s e) c (bQ.mk a.bz.aa0 r) (bA.mk l p a.aa2.Out) a.cL m v ([]:List dK)) 0)).bind λh=>let t:=tT h;c6 t
def wX(a:ak)(k:List aS)(i:yc)(h:yc)(g:List bI)(f:bE)(b:cd)(j:yc):Option (aE×Int):=(Ef L a k i h 0).bind λe=>bif c5 (e.2≠0) then c6 ((aE.mk (aB.mk (ak.mk ([]:List bP) ([]:List aZ)) 0 ([]:List bC) ([]:yc) ([]:List aS) ([]:yc) ([]:yc) ([]:List (yc))) (ak.mk ([]:List bP) ([]:List aZ)) ([]:List bI) (bE.mk ([]:yc) ([]:yc) ([]:yc) 0) (cd.mk ([]:yc) 0 0) ([]:List aT) ([]:List aT) (cZ.mk ([]:yc) ([]:yc)) (aL.mk ([]:List ay)) (bQ.mk 0 ([]:yc)) (bA.mk ([]:yc) ([]:yc) false) (b7.mk 0 0 0 0) (aL.mk ([]:List ay)) ([]:List cy) ([]:List dK)),e.2) else(Eh L a g ([]:yc) 0).bind λm=>(bif c5 (m.2≠0) then c6 true else(rP L a f).bind λn=>bif (!n) then c6 true else(oT L b (b7.mk 0 0 0 0)).bind λs=>bif (!s) then c6 true else(aj b.bT (c3 c4 ((b.bT.length:Int) -1))).bind λo=>c6 (c5 ((a.ai.length:Int)<=o))).bind λq=>bif q then c6 ((aE.mk (aB.mk (ak.mk ([]:List bP) ([]:List aZ)) 0 ([]:List bC) ([]:yc) ([]:List aS) ([]:yc) ([]:yc) ([]:List (yc))) (ak.mk ([]:List bP) ([]:List aZ)) ([]:List bI) (bE.mk ([]:yc) ([]:yc) ([]:yc) 0) (cd.mk ([]:yc) 0 0) ([]:List aT) ([]:List aT) (cZ.mk ([]:yc) ([]:yc)) (aL.mk ([]:List ay)) (bQ.mk 0 ([]:yc)) (bA.mk ([]:yc) ([]:yc) false) (b7.mk 0 0 0 0) (aL.mk ([]:List ay)) ([]:List cy) ([]:List dK)),6) else(zi L j a).bind λr=>bif r then c6 ((aE.mk (aB.mk (ak.mk ([]:List bP) ([]:List aZ)) 0 ([]:List bC) ([]:yc) ([]:List aS) ([]:yc) ([]:yc) ([]:List (yc))) (ak.mk ([]:List bP) ([]:List aZ)) ([]:List bI) (bE.mk ([]:yc) ([]:yc) ([]:yc) 0) (cd.mk ([]:yc) 0 0) ([]:List aT) ([]:List aT) (cZ.mk ([]:yc) ([]:yc)) (aL.mk ([]:List ay)) (bQ.mk 0 ([]:yc)) (bA.mk ([]:yc) ([]:yc) false) (b7.mk 0 0 0 0) (aL.mk ([]:List ay)) ([]:List cy) ([]:List dK)),4) else(AQ L j).bind λc=>bif c5 (c.2≠0) then c6 ((aE.mk (aB.mk (ak.mk ([]:List bP) ([]:List aZ)) 0 ([]:List bC) ([]:yc) ([]:List aS) ([]:yc) ([]:yc) ([]:List (yc))) (ak.mk ([]:List bP) ([]:List aZ)) ([]:List bI) (bE.mk ([]:yc) ([]:yc) ([]:yc) 0) (cd.mk ([]:yc) 0 0) ([]:List aT) ([]:List aT) (cZ.mk ([]:yc) ([]:yc)) (aL.mk ([]:List ay)) (bQ.mk 0 ([]:yc)) (bA.mk ([]:yc) ([]:yc) false) (b7.mk 0 0 0 0) (aL.mk ([]:List ay)) ([]:List cy) ([]:List dK)),c.2) else(Bk L a h i 0).bind λd=>bif c5 (d.2≠0) then c6 ((aE.mk (aB.mk (ak.mk ([]:List bP) ([]:List aZ)) 0 ([]:List bC) ([]:yc) ([]:List aS) ([]:yc) ([]:yc) ([]:List (yc))) (ak.mk ([]:List bP) ([]:List aZ)) ([]:List bI) (bE.mk ([]:yc) ([]:yc) ([]:yc) 0) (cd.mk ([]:yc) 0 0) ([]:List aT) ([]:List aT) (cZ.mk ([]:yc) ([]:yc)) (aL.mk ([]:List ay)) (bQ.mk 0 ([]:yc)) (bA.mk ([]:yc) ([]:yc) false) (b7.mk 0 0 0 0) (aL.mk ([]:List ay)) ([]:List cy) ([]:List dK)),d.2) else(gP 48 (aT.mk 0 0 0 ([]:yc)) (k.length:Int)).bind λp=>(DL L).bind λt=>(wc L (aE.mk e.1 a g f b p ([]:List aT) t d.1 (bQ.mk 0 ([]:yc)) c.1 (b7.mk 0 0 0 0) (aL.mk ([]:List ay)) ([]:List cy) ([]:List dK))).bind λl=>c6 (l,0)
def zz(b:Int):Option Bool:=(cp L b 0 2).bind λa=>c6 (!a)
def It(c:yc)(a:Int):Option (Int⊕(Int⊕Unit)):=ixL c (λb=>zz L b) a
def F6(b:yc):Option Int:=(L.loop (λa=>It L b a) 0).bind λc=>dt (λd=>c6 d) (λe=>c6 (-1)) c
def zw(b:yc):Option Bool:=(F6 L b).bind λa=>c6 (c5 (0<=a))
def CE(L:Lp)(a:Int):Option Bool:=c6 (c5 (a≠2))
def JW(c:yc)(a:Int):Option (Int⊕(Int⊕Unit)):=ixL c (λb=>CE L b) a
def JN(b:yc):Option Int:=(L.loop (λa=>JW L b a) 0).bind λc=>dt (λd=>c6 d) (λe=>c6 (-1)) c
def IU(b:yc):Option Bool:=(JN L b).bind λa=>c6 (c5 (0<=a))
def yh(b:bA):Option Bool:=(IU L b.aa2).bind λa=>c6 (!a)
def oL(a:bA):Option Bool:=(xa L a.af).bind λc=>bif c then bif c5 ((a.aa2.length:Int)=(a.af.length:Int)) then(zw L a.aa2).bind λb=>bif (!b) then bif (!a.Out) then c6 true else(yh L a).bind λd=>c6 d else c6 false else c6 false else c6 false
def zj(a:aE):Option Bool:=(pV L a.au).bind λc=>bif c then(ij L a.ao).bind λb=>bif b then bif c5 ((a.cq.length:Int)=(a.au.aQ.length:Int)) then bif c5 ((a.cI.length:Int)=(a.ao.af.length:Int)) then bif c5 (0<(a.bw.aA.length:Int)) then(oL L a.aa2).bind λd=>c6 d else c6 false else c6 false else c6 false else c6 false else c6 false
def Ml(L:Lp)(a:Int):Option (Option Nat):=c6 (lK a)
def HU(L:Lp)(b:bA)(c:yc)(a:Int):Option (((yc)×Int)⊕(yc)):=bif c5 (a<(b.af.length:Int)) then(aj b.af a).bind λg=>(bif c5 (a<(b.aa2.length:Int)) then(aj b.aa2 a).bind λd=>c6 (c5 (d≠0)) else c6 false).bind λh=>(bif h then(bj 8 c ([g]:yc)).bind λe=>c6 e else c6 c).bind λf=>c6 (dd (f,c3 c4 (a+1))) else c6 (c7 c)
def yA(d:bA):Option yc:=(L.loop (λa=>HU L d a.1 a.2) (([]:yc),0)).bind λc=>(rl L c).bind λb=>c6 b
def Nf(L:Lp)(b:yc)(d:Int)(a:Int):Option (Int⊕(Int⊕Unit)):=bif c5 (a<(b.length:Int)) then(aj b a).bind λc=>bif c5 (d=c) then c6 (c7 (dd a)) else c6 (dd (c3 c4 (a+1))) else c6 (c7 (c7 ()))
def to(c:yc)(a:Int):Option Int:=(L.loop (λb=>Nf L c a b) 0).bind λe=>dt (λd=>c6 d) (λf=>c6 (-1)) e
def im(c:yc)(b:Int):Option Bool:=(to L c b).bind λa=>c6 (c5 (0<=a))
def wC(b:yc)(c:aB)(a:Int):Option (Int⊕(Unit⊕Unit)):=bif c5 (a<(b.length:Int)) then(aj b a).bind λd=>(cp L d 0 (c3 c4 ((c.aN.length:Int) -1))).bind λe=>bif (!e) then c6 (c7 (dd ())) else c6 (dd (c3 c4 (a+1))) else c6 (c7 (c7 ()))
def wv(a:aB)(b:yc):Option Int:=(pV L a).bind λe=>bif (!e) then c6 6 else(L.loop (λc=>wC L b a c) 0).bind λd=>dt (λg=>c6 19) (λf=>c6 0) d
def B1(b:aB)(a:Int)(e:Int)(f:Int):Option (aB×Int):=(wv L b ([a]:yc)).bind λj=>bif c5 (j≠0) then c6 (b,j) else(aj b.aN a).bind λg=>(yM L b.ao e g.abG).bind λh=>bif c5 (0<=g.akw) then c6 (b,10) else bif c5 (h<0) then c6 (b,4) else(cp L f 0 3600).bind λl=>bif (!l) then c6 (b,1) else(yC L b).bind λk=>let d:=Bi k;(aj d.aN a).bind λ_=>(d.aN[a.toNat]?).bind λc=>(aj (d.aN.set (a.toNat) (bC.mk c.abG e c.ami)) a).bind λ_=>((d.aN.set (a.toNat) (bC.mk c.abG e c.ami))[a.toNat]?).bind λi=>c6 (({d with aN:=(d.aN.set (a.toNat) (bC.mk c.abG e c.ami)).set (a.toNat) (bC.mk i.abG i.akw (c3 c4 (h+f)))}:aB),0)
def DC(a:aB)(h:List bP)(f:List aZ)(d:Int)(e:List bC)(k b:yc)(c:List (yc))(g:List aS)(i:Int):Option ((List bP×List aZ×Int×List bC×yc×yc×List (yc)×List aS×Int)⊕(List bP×List aZ×Int×List bC×List aS×yc×yc×List (yc))):=bif c5 (i<(a.aQ.length:Int)) then(aj a.aQ i).bind λj=>(cc L j.ai).bind λl=>(bj 48 g ([({j with ai:=l}:aS)]:List aS)).bind λz=>c6 (dd (h,f,d,e,k,b,c,z,c3 c4 (i+1))) else c6 (c7 (h,f,d,e,g,k,b,c))
def FD{d:Type}(a:aB)(h:List bP->List aZ->Int->List bC->yc->List aS->yc->yc->Option d):Option d:=(kF L a.ao.ai).bind λi=>(kQ L a.ao.af).bind λj=>(rf L a.aN).bind λg=>(cc L a.aw).bind λf=>(L.loop (λb=>DC L a b.1 b.2.1 b.2.2.1 b.2.2.2.1 b.2.2.2.2.1 b.2.2.2.2.2.1 b.2.2.2.2.2.2.1 b.2.2.2.2.2.2.2.1 b.2.2.2.2.2.2.2.2) (i,j,a.aa0,g,a.cn,a.cf,a.bp,([]:List aS),0)).bind λc=>(cc L a.cn).bind λk=>(cc L a.cf).bind λe=>h c.1 c.2.1 c.2.2.1 c.2.2.2.1 f c.2.2.2.2.1 k e
abbrev TD(a:Type):Type:=yc×yc×yc×a
abbrev TE:Type:=List bP×List aZ×Int×List bC×List aS
def we(a:aB):Option (TD TE):=match a.bp with |[]=>FD L a λg b f c e h d i=>c6 (e,d,i,g,b,f,c,h) |_=>e0
def uR(c:aB):Option (TD (yc×TE)):=match c.bp with |[a]=>FD L c λh b g d f i e j=>(cc L a).bind λa=>c6 (f,e,j,a,h,b,g,d,i) |_=>e0
def pO(d:aB):Option (TD (yc×yc×TE)):=match d.bp with |[a,c]=>FD L d λi b h e g j f k=>(cc L a).bind λa=>(cc L c).bind λc=>c6 (g,f,k,a,c,i,b,h,e,j) |_=>e0
def nM(e:aB):Option (TD (yc×yc×yc×TE)):=match e.bp with |[c,d,a]=>FD L e λj b i f h k g l=>(cc L c).bind λc=>(cc L d).bind λd=>(cc L a).bind λa=>c6 (h,g,l,c,d,a,j,b,i,f,k) |_=>e0
def EV(a:aB)(j:Int)(r:aS)(row:yc)(e b d:Int)(c:yc)(i:Int):Option ((yc×Int×Int×Int×yc×Int)⊕((List bP×List aZ×Int×List bC×yc×List aS×yc×yc×List (yc)×Int×Int×Int×yc×Int)⊕(yc×Int×Int×Int×yc))):=bif c5 (i<(a.aN.length:Int)) then(aj a.aN i).bind λl=>(im L r.ai l.abG).bind λhere=>(iN .i64 j i).bind λk=>(aj row i).bind λ_=>(bif here then c6 (c5 (bits .and .i64 k 1=1)) else c6 false).bind λg=>bif g then(row[i.toNat]?).bind λv=>(row[i.toNat]?).bind λ_=>((row.set i.toNat (c3 c4 (v+1)))[i.toNat]?).bind λf=>bif c5 (r.dY<f) then c6 (c7 (dd (a.ao.ai,a.ao.af,a.aa0,a.aN,a.aw,a.aQ,a.cn,a.cf,a.bp,0,0,0,([]:yc),43))) else c6 (dd (row.set i.toNat (c3 c4 (v+1)),e,b,d,c,c3 c4 (i+1))) else(row[i.toNat]?).bind λ_=>bif here then(aj a.aw i).bind λh=>(bj 8 c ([h]:yc)).bind λc=>c6 (dd (row.set i.toNat 0,e,b,d,c,c3 c4 (i+1))) else c6 (dd (row.set i.toNat 0,e,b,d,c,c3 c4 (i+1))) else c6 (c7 (c7 (row,e,b,d,c)))
def qw(c:aB)(b l h:Int)(r:aS)(n f g row:yc)(o:yc->List (yc))(e:TE):Option (aB×aT×Int):=((aj c.cf b).bind λk=>bif c5 (0<=k) then(aj c.cf b).bind λm=>c6 (c5 (r.dX<c3 c4 (c.aa0 -m))) else c6 false).bind λj=>(bif j then c6 2 else c6 1).bind λq=>(aj c.cn b).bind λp=>(nG (c3 c4 (p+q)) 65536).bind λnumber=>(aj f b).bind λ_=>(f[b.toNat]?).bind λ_=>(aj g b).bind λ_=>(g[b.toNat]?).bind λ_=>(L.loop (λd=>EV L c l r d.1 d.2.1 d.2.2.1 d.2.2.2.1 d.2.2.2.2.1 d.2.2.2.2.2) (row,b,number,c3 c4 (c.aa0+h),([]:yc),0)).bind λa=>dt (λa=>c6 (aB.mk (ak.mk a.1 a.2.1) a.2.2.1 a.2.2.2.1 a.2.2.2.2.1 a.2.2.2.2.2.1 a.2.2.2.2.2.2.1 a.2.2.2.2.2.2.2.1 a.2.2.2.2.2.2.2.2.1,aT.mk a.2.2.2.2.2.2.2.2.2.1 a.2.2.2.2.2.2.2.2.2.2.1 a.2.2.2.2.2.2.2.2.2.2.2.1 a.2.2.2.2.2.2.2.2.2.2.2.2.1,a.2.2.2.2.2.2.2.2.2.2.2.2.2)) (λa=>(rC a.2.2.2.2).bind λi=>c6 (aB.mk (ak.mk e.1 e.2.1) e.2.2.1 e.2.2.2.1 n e.2.2.2.2 (f.set b.toNat number) (g.set b.toNat c.aa0) (o a.1),aT.mk a.2.1 a.2.2.1 a.2.2.2.1 i,0)) a
def acN(a:aB)(c:Int)(r:aS)(e b d:Int)(g:yc)(i:Int):Option ((Int×Int×Int×yc×Int)⊕(Int×Int×Int×yc)):=bif c5 (i<(a.aN.length:Int)) then(aj a.aN i).bind λf=>(im L r.ai f.abG).bind λ_=>(iN .i64 c i).bind λ_=>e0 else c6 (c7 (e,b,d,g))
def aph(b:aB)(a m h:Int)(r:aS)(n f g:yc)(c:TE):Option (aB×aT×Int):=((aj b.cf a).bind λj=>bif c5 (0<=j) then(aj b.cf a).bind λk=>c6 (c5 (r.dX<c3 c4 (b.aa0 -k))) else c6 false).bind λl=>(bif l then c6 2 else c6 1).bind λp=>(aj b.cn a).bind λo=>(nG (c3 c4 (o+p)) 65536).bind λnumber=>(aj f a).bind λ_=>(f[a.toNat]?).bind λ_=>(aj g a).bind λ_=>(g[a.toNat]?).bind λ_=>(L.loop (λd=>acN L b m r d.1 d.2.1 d.2.2.1 d.2.2.2.1 d.2.2.2.2) (a,number,c3 c4 (b.aa0+h),([]:yc),0)).bind λe=>(rC e.2.2.2).bind λi=>c6 (aB.mk (ak.mk c.1 c.2.1) c.2.2.1 c.2.2.2.1 n c.2.2.2.2 (f.set a.toNat number) (g.set a.toNat b.aa0) [],aT.mk e.1 e.2.1 e.2.2.1 i,0)
def po(a:aB)(d g c:Int)(e:aS->Option (aB×aT×Int)):Option (aB×aT×Int):=(pV L a).bind λv=>bif (!v) then c6 (a,aT.mk 0 0 0 [],6) else(cp L d 0 (c3 c4 ((a.aQ.length:Int) -1))).bind λi=>bif (!i) then c6 (a,aT.mk 0 0 0 [],40) else(aj a.aQ d).bind λr=>((cp L c (c3 c4 (0 -r.cR)) r.cR).bind λf=>bif (!f) then c6 true else(cp L (c3 c4 (a.aa0+c)) 0 2147483648).bind λb=>c6 (!b)).bind λbad=>bif bad then c6 (a,aT.mk 0 0 0 [],1) else e r
def jO(b:aB)(c e d:Int):Option (aB×aT×Int):=match b.bp with |[]=>bif c5 (c=0) then po L b c e d λr=>(we L b).bind λa=>aph L b c e d r a.1 a.2.1 a.2.2.1 a.2.2.2 else e0 |[_]=>bif c5 (c=0) then po L b c e d λr=>(uR L b).bind λa=>qw L b c e d r a.1 a.2.1 a.2.2.1 a.2.2.2.1 (λr=>[r]) a.2.2.2.2 else e0 |[_,_]=>bif c5 (c=0) then po L b c e d λr=>(pO L b).bind λa=>qw L b c e d r a.1 a.2.1 a.2.2.1 a.2.2.2.1 (λr=>[r,a.2.2.2.2.1]) a.2.2.2.2.2 else bif c5 (c=1) then po L b c e d λr=>(pO L b).bind λa=>qw L b c e d r a.1 a.2.1 a.2.2.1 a.2.2.2.2.1 (λr=>[a.2.2.2.1,r]) a.2.2.2.2.2 else e0 |[_,_,_]=>bif c5 (c=0) then po L b c e d λr=>(nM L b).bind λa=>qw L b c e d r a.1 a.2.1 a.2.2.1 a.2.2.2.1 (λr=>[r,a.2.2.2.2.1,a.2.2.2.2.2.1]) a.2.2.2.2.2.2 else bif c5 (c=1) then po L b c e d λr=>(nM L b).bind λa=>qw L b c e d r a.1 a.2.1 a.2.2.1 a.2.2.2.2.1 (λr=>[a.2.2.2.1,r,a.2.2.2.2.2.1]) a.2.2.2.2.2.2 else bif c5 (c=2) then po L b c e d λr=>(nM L b).bind λa=>qw L b c e d r a.1 a.2.1 a.2.2.1 a.2.2.2.2.2.1 (λr=>[a.2.2.2.1,a.2.2.2.2.1,r]) a.2.2.2.2.2.2 else e0 |_=>e0
def Zb(c:List aT)(b:List aT)(a:Int):Option (((List aT)×Int)⊕(List aT)):=bif c5 (a<(c.length:Int)) then(aj c a).bind λd=>(cc L d.aw).bind λe=>(bj 48 b ([({d with aw:=e}:aT)]:List aT)).bind λf=>c6 (dd (f,c3 c4 (a+1))) else c6 (c7 b)
def zp(c:List aT):Option (List aT):=(L.loop (λa=>Zb L c a.1 a.2) (([]:List aT),0)).bind λb=>c6 b
def lQ(a:aT):Option Bool:=(cp L a.agX 0 31).bind λe=>bif e then(cp L a.aj6 0 65535).bind λc=>bif c then(cp L a.aa0 0 2147483648).bind λb=>bif b then bif c5 ((a.aw.length:Int)<=20) then(iU L a.aw 1 65535).bind λd=>c6 d else c6 false else c6 false else c6 false else c6 false
def vM(L:Lp)(c:Int)(b:yc)(a:Int):Option (((yc)×Int)⊕(yc)):=bif c5 (0<=a) then(iN .u64 c (dv.wrap (c3 c4 (8*a)))).bind λd=>(bj 1 b ([e4.wrap d]:yc)).bind λe=>c6 (dd (e,c3 c4 (a -1))) else c6 (c7 b)
def py(c:yc)(b:Int)(d:Int):Option yc:=(L.loop (λa=>vM L b a.1 a.2) (c,c3 c4 (d -1))).bind λe=>c6 e
def wg(b:aT)(c:yc)(a:Int):Option (((yc)×Int)⊕(yc)):=bif c5 (a<(b.aw.length:Int)) then(aj b.aw a).bind λd=>(py L c (dv.wrap d) 2).bind λe=>c6 (dd (e,c3 c4 (a+1))) else c6 (c7 c)
def Ex(a:aT):Option (fa×Int):=(lQ L a).bind λf=>bif (!f) then c6 ((fa.mk 0 0 ([]:yc)),6) else(py L ([]:yc) (dv.wrap a.aj6) 2).bind λg=>(py L g (dv.wrap a.aa0) 6).bind λc=>(bj 1 c ([e4.wrap (a.aw.length:Int)]:yc)).bind λd=>(L.loop (λb=>wg L a b.1 b.2) (d,0)).bind λe=>c6 ((fa.mk a.agX 9 e),0)
def zf(L:Lp)(b:yc)(c:Int)(a:Int):Option ((Int×Int)⊕Int):=bif c5 (a<(b.length:Int)) then(aj b a).bind λd=>(uU .u64 c 8).bind λe=>c6 (dd (bits .or .u64 e (dv.wrap d),c3 c4 (a+1))) else c6 (c7 c)
def jQ(c:yc):Option Int:=(L.loop (λa=>zf L c a.1 a.2) (0,0)).bind λb=>c6 b
def vE(L:Lp)(b:yc)(a:Int):Option ((yc)×Int):=bif c5 (a<1) then e0 else c6 (b,a)
def lj:yc->List (yc) |[]=>[] |[a]=>[[a]] |a::b::c=>[a,b]::lj c
def gW(L:Lp):List (yc)->yc->Option yc |[],a=>c6 a |b::d,a=>(jQ L b).bind λc=>(bj 8 a ([c3 c4 c]:yc)).bind λa=>gW L d a
def rA(c d b:Int)(a:yc)(f:Int):Option (aT×Int):=bif c5 (f=2) then bif c5 (a.length%2=0) then(gW L (lj a) []).bind λe=>(lQ L (aT.mk c d b e)).bind λv=>bif (!v) then c6 (aT.mk 0 0 0 [],6) else c6 (aT.mk c d b e,0) else e0 else e0
def zD(a:fa):Option (aT×Int):=bif c5 (a.abv≠9) then c6 (aT.mk 0 0 0 [],5) else(cp L a.kO 0 31).bind λh=>bif (!h) then c6 (aT.mk 0 0 0 [],40) else(bif c5 ((a.Data.length:Int)<9) then c6 true else(aj a.Data 8).bind λb=>c6 (c5 ((a.Data.length:Int)≠c3 c4 (9+c3 c4 (2*c3 c4 b))))).bind λbad=>bif bad then c6 (aT.mk 0 0 0 [],6) else(eG a.Data 0 2).bind λd=>(jQ L d).bind λi=>(eG a.Data 2 8).bind λg=>(jQ L g).bind λf=>(eG a.Data 9 (a.Data.length:Int)).bind λe=>(vE L e 2).bind λc=>rA L a.kO (c3 c4 i) (c3 c4 f) c.1 c.2
def Ap(b:Int):Option Bool:=(cp L b (-1) 65535).bind λa=>c6 (!a)
def I8(c:yc)(a:Int):Option (Int⊕(Int⊕Unit)):=ixL c (λb=>Ap L b) a
def GR(b:yc):Option Int:=(L.loop (λa=>I8 L b a) 0).bind λc=>dt (λd=>c6 d) (λe=>c6 (-1)) c
def Am(b:yc):Option Bool:=(GR L b).bind λa=>c6 (c5 (0<=a))
def Dd(b:Int):Option Bool:=(cp L b 0 2147483648).bind λa=>c6 (!a)
def FL(c:yc)(a:Int):Option (Int⊕(Int⊕Unit)):=ixL c (λb=>Dd L b) a
def JV(b:yc):Option Int:=(L.loop (λa=>FL L b a) 0).bind λc=>dt (λd=>c6 d) (λe=>c6 (-1)) c
def CZ(b:yc):Option Bool:=(JV L b).bind λa=>c6 (c5 (0<=a))
def zY(a:cZ):Option Bool:=bif c5 ((a.dl.length:Int)=32) then bif c5 ((a.dr.length:Int)=32) then(Am L a.dl).bind λc=>bif (!c) then(CZ L a.dr).bind λb=>c6 (!b) else c6 false else c6 false else c6 false
def CT(b:cZ)(a:aT):Option (cZ×Int):=(zY L b).bind λg=>bif (!g) then c6 (b,10) else(lQ L a).bind λh=>bif (!h) then c6 (b,6) else(aj b.dl a.agX).bind λe=>(nG (c3 c4 ((c3 c4 (a.aj6 -e))+65536)) 65536).bind λf=>(bif c5 (0<=e) then bif c5 (f=0) then c6 true else c6 (c5 (32768<=f)) else c6 false).bind λi=>bif i then c6 (b,42) else(cc L b.dl).bind λd=>(cc L b.dr).bind λc=>(aj d a.agX).bind λ_=>(d[a.agX.toNat]?).bind λ_=>bif c5 (0<=e) then(aj c a.agX).bind λ_=>(c[a.agX.toNat]?).bind λj=>(aj c a.agX).bind λ_=>(c[a.agX.toNat]?).bind λ_=>c6 ((cZ.mk (d.set (a.agX.toNat) a.aj6) (c.set (a.agX.toNat) (min (c3 c4 ((c3 c4 (j+f)) -1)) 2147483648))),0) else c6 ((cZ.mk (d.set (a.agX.toNat) a.aj6) c),0)
def Dq(L:Lp)(a:aT)(d:aS)(c:List dS)(b:Int):Option (((List dS)×Int)⊕(List dS)):=bif c5 (b<(a.aw.length:Int)) then(aj a.aw b).bind λf=>(bj 32 c ([(dS.mk a.agX f (max 0 (c3 c4 (a.aa0 -d.cR))) (c3 c4 (a.aa0+d.cR)))]:List dS)).bind λe=>c6 (dd (e,c3 c4 (b+1))) else c6 (c7 c)
def Bl(c:List aS)(a:aT):Option ((List dS)×Int):=(lQ L a).bind λf=>bif (!f) then c6 (([]:List dS),6) else bif c5 ((c.length:Int)<=a.agX) then c6 (([]:List dS),40) else(aj c a.agX).bind λe=>(L.loop (λb=>Dq L a e b.1 b.2) (([]:List dS),0)).bind λd=>c6 (d,0)
def fP(L:Lp)(a:aR):Option Int:=c6 a.aI.au.aa0
def yU(L:Lp)(b:yc)(c:yc)(a:Int):Option (Int⊕(Unit⊕Unit)):=bif c5 (a<(b.length:Int)) then(aj b a).bind λe=>(aj c a).bind λd=>bif c5 (e≠d) then c6 (c7 (dd ())) else c6 (dd (c3 c4 (a+1))) else c6 (c7 (c7 ()))
def qG(b:yc)(a:yc):Option Bool:=bif c5 ((b.length:Int)≠(a.length:Int)) then c6 false else(L.loop (λc=>yU L b a c) 0).bind λd=>dt (λf=>c6 false) (λe=>c6 true) d
def DR(a:Int):Option Bool:=bif c5 (a≠1099511627776) then(cp L a 0 2147483648).bind λb=>c6 (!b) else c6 false
def GO(c:yc)(a:Int):Option (Int⊕(Int⊕Unit)):=ixL c (λb=>DR L b) a
def GG(b:yc):Option Int:=(L.loop (λa=>GO L b a) 0).bind λc=>dt (λd=>c6 d) (λe=>c6 (-1)) c
def zZ(b:yc):Option Bool:=(GG L b).bind λa=>c6 (c5 (0<=a))
def ur(d:ak)(a:aM):Option Bool:=bif c5 ((a.an.length:Int)=(d.ai.length:Int)) then(cp L a.aa0 0 2147483648).bind λc=>bif c then(zZ L a.an).bind λb=>c6 (!b) else c6 false else c6 false
def n7(b:ak)(a:aM):Option Bool:=(ij L b).bind λc=>bif c then(ur L b a).bind λd=>bif d then(ze L b a.an a.aa0).bind λf=>(qG L f a.an).bind λe=>c6 e else c6 false else c6 false
def Ld(c:aM)(b:ak):Option Bool:=(n7 L b c).bind λa=>c6 (!a)
def HW(d:List aM)(b:ak)(a:Int):Option (Int⊕(Int⊕Unit)):=ixL d (λc=>Ld L c b) a
def FJ(c:List aM)(a:ak):Option Int:=(L.loop (λb=>HW L c a b) 0).bind λd=>dt (λe=>c6 e) (λf=>c6 (-1)) d
def E5(c:List aM)(b:ak):Option Bool:=(FJ L c b).bind λa=>c6 (c5 (0<=a))
def Cl(L:Lp)(a:Int):Option Bool:=c6 (c5 (a≠a))
def uE(b:Int)(a:Int):Option Int:=(Cl L b).bind λd=>(Cl L a).bind λc=>bif d then bif c then c6 0 else c6 (-1) else bif c then c6 1 else bif c5 (b<a) then c6 (-1) else bif c5 (a<b) then c6 1 else c6 0
def ui(d:yc)(c:yc)(a:Int):Option (Int⊕(Int⊕Unit)):=bif c5 (a<(d.length:Int)) then(aj d a).bind λe=>bif c5 ((c.length:Int)<=a) then c6 (c7 (dd 1)) else(aj c a).bind λf=>(uE L e f).bind λb=>bif c5 (b≠0) then c6 (c7 (dd b)) else c6 (dd (c3 c4 (a+1))) else c6 (c7 (c7 ()))
def sL(b:yc)(a:yc):Option Int:=(L.loop (λd=>ui L b a d) 0).bind λc=>dt (λe=>c6 e) (λf=>bif c5 ((b.length:Int)<(a.length:Int)) then c6 (-1) else c6 0) c
def Fm(c:aL)(k:yc)(h:ak)(b:Int):Option (Int⊕(Unit⊕Unit)):=bif c5 (b<(c.aA.length:Int)) then(aj c.aA b).bind λa=>((cp L (a.aw.length:Int) 1 12).bind λd=>bif (!d) then c6 true else bif c5 ((a.aH.length:Int)≠(a.aw.length:Int)) then c6 true else(AI L a.aw).bind λe=>c6 (!e):Option Bool).bind λi=>bif i then c6 (c7 (dd ())) else(qK L a.aw).bind λl=>(rG L l).bind λf=>(qG L f k).bind λm=>bif (!m) then c6 (c7 (dd ())) else(bif c5 (0<b) then(aj c.aA (c3 c4 (b -1))).bind λn=>(sL L n.aw a.aw).bind λo=>c6 (c5 (0<=o)) else c6 false).bind λg=>bif g then c6 (c7 (dd ())) else(E5 L a.aH h).bind λj=>bif j then c6 (c7 (dd ())) else c6 (dd (c3 c4 (b+1))) else c6 (c7 (c7 ()))
def p8(b:ak)(a:aL):Option Bool:=((ij L b).bind λf=>bif (!f) then c6 true else(cp L (a.aA.length:Int) 1 24).bind λh=>c6 (!h):Option Bool).bind λd=>bif d then c6 false else(aj a.aA 0).bind λe=>(qK L e.aw).bind λi=>(rG L i).bind λg=>(L.loop (λc=>Fm L a g b c) 0).bind λj=>dt (λl=>c6 false) (λk=>c6 true) j
def vY(c:ak)(f:aM)(d:yc)(a:Int)(b:Int):Option Int:=((n7 L c f).bind λk=>bif (!k) then c6 true else bif c5 ((d.length:Int)=0) then c6 true else(iU L d 0 (c3 c4 ((c.ai.length:Int) -1))).bind λg=>c6 (!g):Option Bool).bind λe=>bif e then c6 6 else((cp L a 0 2147483648).bind λj=>bif (!j) then c6 true else(cp L b 0 2147483648).bind λh=>bif (!h) then c6 true else c6 (c5 (b<a)):Option Bool).bind λi=>bif i then c6 8 else c6 0
def Ds(L:Lp)(f:yc)(d:aM)(i:Int)(b:yc)(g:Bool)(c:Int):Option (((yc)×Bool×Int)⊕((yc)×Bool)):=bif c5 (c<(f.length:Int)) then(aj f c).bind λa=>(aj d.an a).bind λh=>(bif c5 (h<=i) then(aj d.an a).bind λj=>(aj b a).bind λ_=>(b[a.toNat]?).bind λ_=>c6 (b.set (a.toNat) j,true) else c6 (b,g)).bind λe=>c6 (dd (e.1,e.2,c3 c4 (c+1))) else c6 (c7 (b,g))
def yX(e:ak)(a:aM)(h:yc)(b:Int)(c:Int):Option (aM×Int):=(vY L e a h b c).bind λf=>bif c5 (f≠0) then c6 (a,f) else bif c5 (b<a.aa0) then c6 (a,42) else(yF L e).bind λj=>(L.loop (λd=>Ds L h a c d.1 d.2.1 d.2.2) (j,false,0)).bind λg=>bif (!g.2) then c6 (a,43) else(sI L e g.1 b).bind λi=>c6 ((aM.mk c i),0)
def CH(c:ay)(a:ay)(b:Int):Option (((yc)×(List aM)×Int)⊕((yc)×(List aM))):=bif c5 (b<(c.aH.length:Int)) then(aj c.aH b).bind λd=>(cc L d.an).bind λe=>(bj 32 a.aH ([(aM.mk d.aa0 e)]:List aM)).bind λf=>c6 (dd (a.aw,f,c3 c4 (b+1))) else c6 (c7 (a.aw,a.aH))
def mH(c:ay):Option ((List aM)×(yc)):=(cc L c.aw).bind λd=>(L.loop (λa=>CH L c (ay.mk a.1 a.2.1) a.2.2) (d,([]:List aM),0)).bind λb=>c6 (b.2,b.1)
def JT(a:ak)(c:yc)(e:Int)(b:Int)(f:aM):Option ((List bP)×(List aZ)×(yc)×Int×Int×aM×Int):=(yX L a f c e b).bind λd=>c6 (a.ai,a.af,c,e,b,d.1,d.2)
def Gz(f:aL)(p:Int)(h:ak)(o:yc)(j:Int)(m:Int)(i:List ay)(g:Int):Option (((List bP)×(List aZ)×(yc)×Int×Int×(List ay)×Int)⊕(((List bP)×(List aZ)×(yc)×Int×Int×(List ay)×Int)⊕((List bP)×(List aZ)×(yc)×Int×Int×(List ay)))):=bif c5 (g<(f.aA.length:Int)) then((aj f.aA g).bind λk=>(to L k.aw p).bind λe=>(mH L k).bind λb=>(aj b.1 e).bind λ_=>(b.1[e.toNat]?).bind λv=>(JT L h o j m v).bind λa=>((bif c5 (a.2.2.2.2.2.2=6) then c6 (c5 (a.2.2.2.2.2.2=6)) else c6 (c5 (a.2.2.2.2.2.2=8))).bind λq=>bif q then c6 (c7 (dd (f.aA,a.2.2.2.2.2.2))) else bif c5 (a.2.2.2.2.2.2=43) then c6 (c7 (c7 ())) else(bif c5 (a.2.2.2.2.2.2=0) then(aj b.1 e).bind λ_=>(b.1[e.toNat]?).bind λ_=>c6 (b.1.set (e.toNat) a.2.2.2.2.2.1) else c6 b.1).bind λw=>c6 (dd (b.2,w)):Option (((yc)×(List aM))⊕(((List ay)×Int)⊕Unit))).bind λu=>dt (λl=>(bj 48 i ([(ay.mk l.1 l.2)]:List ay)).bind λs=>c6 (dd (a.1,a.2.1,a.2.2.1,a.2.2.2.1,a.2.2.2.2.1,s))) (λr=>dt (λn=>c6 (c7 (a.1,a.2.1,a.2.2.1,a.2.2.2.1,a.2.2.2.2.1,n.1,n.2))) (λx=>c6 (dd (a.1,a.2.1,a.2.2.1,a.2.2.2.1,a.2.2.2.2.1,i))) r) u:Option (((List bP)×(List aZ)×(yc)×Int×Int×(List ay))⊕((List bP)×(List aZ)×(yc)×Int×Int×(List ay)×Int))).bind λt=>dt (λd=>c6 (dd (d.1,d.2.1,d.2.2.1,d.2.2.2.1,d.2.2.2.2.1,d.2.2.2.2.2,c3 c4 (g+1)))) (λc=>c6 (c7 (dd (c.1,c.2.1,c.2.2.1,c.2.2.2.1,c.2.2.2.2.1,c.2.2.2.2.2.1,c.2.2.2.2.2.2)))) t else c6 (c7 (c7 (h.ai,h.af,o,j,m,i)))
def I3(e:ak)(g:yc)(h:Int)(f:Int)(j:ak)(d:aL)(i:Int):Option ((List bP)×(List aZ)×(yc)×Int×Int×aL×Int):=(p8 L j d).bind λm=>bif (!m) then c6 (e.ai,e.af,g,h,f,d,6) else(aj d.aA 0).bind λl=>(im L l.aw i).bind λk=>bif (!k) then c6 (e.ai,e.af,g,h,f,d,41) else(L.loop (λb=>Gz L d i (ak.mk b.1 b.2.1) b.2.2.1 b.2.2.2.1 b.2.2.2.2.1 b.2.2.2.2.2.1 b.2.2.2.2.2.2) (e.ai,e.af,g,h,f,([]:List ay),0)).bind λn=>dt (λc=>c6 (c.1,c.2.1,c.2.2.1,c.2.2.2.1,c.2.2.2.2.1,(aL.mk c.2.2.2.2.2.1),c.2.2.2.2.2.2)) (λa=>bif c5 ((a.2.2.2.2.2.length:Int)=0) then c6 (a.1,a.2.1,a.2.2.1,a.2.2.2.1,a.2.2.2.2.1,d,43) else c6 (a.1,a.2.1,a.2.2.1,a.2.2.2.1,a.2.2.2.2.1,(aL.mk a.2.2.2.2.2),0)) n
def CS(a:ak)(f:aL)(g:Int)(c:yc)(e:Int)(d:Int):Option (aL×Int):=(I3 L a c e d a f g).bind λb=>c6 (b.2.2.2.2.2.1,b.2.2.2.2.2.2)
def ra(L:Lp)(a:aR):Option Bool:=c6 (c5 (0<(a.aI.bq.aA.length:Int)))
def Hb(L:Lp)(d:yc)(a:List aZ)(c:Int):Option (((List aZ)×Int)⊕(List aZ)):=bif c5 (c<(d.length:Int)) then(aj d c).bind λb=>(aj a b).bind λ_=>(a[b.toNat]?).bind λe=>c6 (dd (a.set (b.toNat) ({e with jy:=false}:aZ),c3 c4 (c+1))) else c6 (c7 a)
def sW(a:ak)(b:yc):Option (ak×Int):=(ij L a).bind λe=>bif (!e) then c6 ((ak.mk ([]:List bP) ([]:List aZ)),6) else(iU L b 0 (c3 c4 ((a.af.length:Int) -1))).bind λg=>bif (!g) then c6 ((ak.mk ([]:List bP) ([]:List aZ)),4) else(kF L a.ai).bind λd=>(kQ L a.af).bind λf=>(L.loop (λc=>Hb L b c.1 c.2) (f,0)).bind λh=>c6 ((ak.mk d h),0)
def Bp(L:Lp)(d:yc)(a:List aZ)(c:Int):Option (((List aZ)×Int)⊕(List aZ)):=bif c5 (c<(d.length:Int)) then(aj d c).bind λb=>(aj a b).bind λ_=>(a[b.toNat]?).bind λe=>c6 (dd (a.set (b.toNat) ({e with jy:=false}:aZ),c3 c4 (c+1))) else c6 (c7 a)
def vU(a:ak)(b:yc):Option ((List bP)×(List aZ)×Int):=(ij L a).bind λe=>bif (!e) then c6 (([]:List bP),([]:List aZ),6) else(iU L b 0 (c3 c4 ((a.af.length:Int) -1))).bind λg=>bif (!g) then c6 (([]:List bP),([]:List aZ),4) else(kF L a.ai).bind λd=>(kQ L a.af).bind λf=>(L.loop (λc=>Bp L b c.1 c.2) (f,0)).bind λh=>c6 (d,h,0)
def mT(b:aR):Option ((List bP)×(List aZ)):=(vU L b.aI.ao b.aI.aa2.af).bind λa=>c6 (a.1,a.2.1)
def Ai(b:aT):Option Bool:=(lQ L b).bind λa=>c6 (!a)
def I4(c:List aT)(a:Int):Option (Int⊕(Int⊕Unit)):=ixL c (λb=>Ai L b) a
def GJ(b:List aT):Option Int:=(L.loop (λa=>I4 L b a) 0).bind λc=>dt (λd=>c6 d) (λe=>c6 (-1)) c
def Ad(b:List aT):Option Bool:=(GJ L b).bind λa=>c6 (c5 (0<=a))
def xD(L:Lp)(c:List aT)(a:aS)(d:Int)(b:Int)(e:List dC):Option sw:=bif c5 (1<(c.length:Int)) then(aj c 0).bind λg=>(aj c (c3 c4 ((c.length:Int) -1))).bind λf=>bif c5 ((c3 c4 (g.aa0+a.cR))<(c3 c4 (f.aa0 -a.cR))) then(bj 32 e ([(dC.mk d b (c3 c4 (g.aa0+a.cR)) (c3 c4 (f.aa0 -a.cR)))]:List dC)).bind λh=>c6 (u32 ([]:List aT) a h d b) else c6 (u32 ([]:List aT) a e d b) else c6 (u32 ([]:List aT) a e d b)
def xH(L:Lp)(c:aS)(a:aT)(b:aT):Option Bool:=(nG (c3 c4 (a.aj6+1)) 65536).bind λd=>bif c5 (b.aj6=d) then bif c5 (a.aa0<=b.aa0) then c6 (c5 ((c3 c4 (b.aa0 -a.aa0))<=(c3 c4 (c.dX+(c3 c4 (2*c.cR)))))) else c6 false else c6 false
def yG(L:Lp)(a:List aT)(b:aS)(d:Int)(c:Int)(e:List dC):Option qv:=bif c5 (1<(a.length:Int)) then(aj a 0).bind λ_=>(a[(0:Int).toNat]?).bind λg=>(aj a (c3 c4 ((a.length:Int) -1))).bind λ_=>(a[(c3 c4 ((a.length:Int) -1)).toNat]?).bind λf=>bif c5 ((c3 c4 (g.aa0+b.cR))<(c3 c4 (f.aa0 -b.cR))) then(bj 32 e ([(dC.mk d c (c3 c4 (g.aa0+b.cR)) (c3 c4 (f.aa0 -b.cR)))]:List dC)).bind λh=>c6 (pC a b d c ([]:List aT) h) else c6 (pC a b d c ([]:List aT) e) else c6 (pC a b d c ([]:List aT) e)
def vj(l:List aT)(c:Int)(d:Int)(f:aS)(i:List dC)(a:List aT)(k:Int):Option (oI⊕qt):=bif c5 (k<(l.length:Int)) then((aj l k).bind λj=>bif c5 (j.agX≠c) then c6 (ql c d f i a) else(im L j.aw d).bind λp=>bif p then(yG L a f c d i).bind λe=>let N:=Se e;let u:=Fp e;let v:=KG e;let x:=FU e;let o:=Hz e;let m:=GM e;c6 (ql v x u m o) else(bif c5 (0<(a.length:Int)) then(aj a (c3 c4 ((a.length:Int) -1))).bind λ_=>(a[(c3 c4 ((a.length:Int) -1)).toNat]?).bind λq=>(xH L f q j).bind λs=>c6 (!s) else c6 false).bind λy=>(bif y then(yG L a f c d i).bind λb=>let M:=Se b;let I:=Fp b;let H:=KG b;let D:=FU b;let G:=Hz b;let E:=GM b;c6 (ql H D I E G) else c6 (ql c d f i a)).bind λg=>let K:=Jw g;let z:=KY g;let B:=Kd g;let J:=FE g;let C:=vh g;(bj 48 C ([j]:List aT)).bind λA=>c6 (ql K z B J A):Option pg).bind λh=>let r:=Jw h;let F:=KY h;let n:=Kd h;let t:=FE h;let w:=vh h;c6 (dd (vI r F n t w (c3 c4 (k+1)))) else c6 (c7 (qA c d f a i))
def xp(g:List aS)(d:Int)(f:Int)(e:List aT):Option ((List dC)×Int):=bif c5 (400<(e.length:Int)) then c6 (([]:List dC),2) else(Ad L e).bind λm=>bif m then c6 (([]:List dC),6) else(bif c5 (d<0) then c6 true else c6 (c5 ((g.length:Int)<=d))).bind λj=>bif j then c6 (([]:List dC),40) else(cp L f 1 65535).bind λp=>bif (!p) then c6 (([]:List dC),41) else(aj g d).bind λh=>(L.loop (λa=>vj L e (ac8 a) (ah4 a) (afQ a) (akR a) (aiI a) (anA a)) (vI d f h ([]:List dC) ([]:List aT) 0)).bind λb=>let k:=LJ b;let i:=Tn b;let n:=MT b;let l:=Mb b;let o:=N2 b;(xD L l n k i o).bind λc=>let t:=Xb c;let r:=acU c;let q:=aaB c;let u:=afG c;let s:=adt c;c6 (q,0)
def Dh(L:Lp)(a:aS):Option Int:=c6 (c3 c4 ((c3 c4 (a.dY+1))*a.dX))
def Gs(c:Int)(b:yc):Option Bool:=(im L b c).bind λa=>c6 a
def DD(b:yc)(e:Bool)(i:Int)(a:Int)(d:Int)(c:Int)(g:yc):Option ((yc)×Bool):=(bif c5 ((max d c)<=2147483648) then(aj b a).bind λ_=>(b[a.toNat]?).bind λh=>bif c5 ((max d c)<h) then(Gs L a g).bind λf=>c6 f else c6 false else c6 false).bind λjA=>bif jA then(aj b a).bind λ_=>(b[a.toNat]?).bind λ_=>c6 (b.set (a.toNat) (max d c),true) else c6 (b,e)
def tY(c:aZ)(o:ak)(l:Int)(k:Int)(n:yc)(a:yc)(d:Bool)(e:Int):Option (((yc)×Bool×Int)⊕((yc)×Bool)):=bif c5 (e<2) then(aj [false,true] e).bind λi=>(bif i then c6 (c.To,c.an) else c6 (c.an,c.To)).bind λb=>(rO L o l i).bind λf=>(bif c5 (0<=f) then(aj a b.1).bind λ_=>(a[b.1.toNat]?).bind λj=>c6 (c5 (j<1099511627776)) else c6 false).bind λm=>(bif m then(aj a b.1).bind λ_=>(a[b.1.toNat]?).bind λp=>(DD L a d b.1 b.2 (c3 c4 (p+f)) k n).bind λg=>c6 (g.1,g.2) else c6 (a,d)).bind λh=>c6 (dd (h.1,h.2,c3 c4 (e+1))) else c6 (c7 (a,d))
def xS(c:ak)(h:Int)(i:yc)(e:yc)(f:Bool)(a:Int):Option (((yc)×Bool×Int)⊕((yc)×Bool)):=bif c5 (a<(c.af.length:Int)) then(aj c.af a).bind λg=>(L.loop (λb=>tY L g c a h i b.1 b.2.1 b.2.2) (e,f,0)).bind λd=>c6 (dd (d.1,d.2,c3 c4 (a+1))) else c6 (c7 (e,f))
def Bj(f:yc)(e:Bool)(g:ak)(c:Int)(d:yc):Option ((yc)×Bool):=(L.loop (λa=>xS L g c d a.1 a.2.1 a.2.2) (f,e,0)).bind λb=>c6 (b.1,b.2)
def HZ(e:ak)(f:Int)(c:yc)(b:yc)(d:Bool):Option (((yc)×Bool)⊕(yc)):=bif d then(Bj L b false e f c).bind λa=>c6 (dd (a.1,a.2)) else c6 (c7 b)
def Ay(d:ak)(c:yc)(f:Int)(b:yc):Option yc:=(cc L c).bind λe=>(L.loop (λa=>HZ L d f b a.1 a.2) (e,true)).bind λg=>c6 g
def CO(L:Lp)(d:yc)(a:yc)(c:Int):Option (((yc)×Int)⊕(yc)):=bif c5 (c<(d.length:Int)) then(aj d c).bind λb=>(aj a b).bind λ_=>(a[b.toNat]?).bind λ_=>c6 (dd (a.set (b.toNat) 1099511627776,c3 c4 (c+1))) else c6 (c7 a)
def wV(d:ak)(a:aM)(e:yc)(f:Int)(b:Int)(c:Int):Option (aM×Int):=(vY L d a e f b).bind λh=>bif c5 (h≠0) then c6 (a,h) else(cp L c 0 2147483648).bind λi=>bif (!i) then c6 (a,8) else bif c5 (b<a.aa0) then c6 (a,42) else bif c5 ((c3 c4 (b - (max f a.aa0)))<=c) then c6 (a,0) else(cc L a.an).bind λk=>(L.loop (λg=>CO L e g.1 g.2) (k,0)).bind λl=>(Ay L d l (c3 c4 (b -c)) e).bind λm=>(sI L d m b).bind λj=>c6 ((aM.mk b j),0)
def Io(a:ak)(d:yc)(f:Int)(b:Int)(c:Int)(g:aM):Option ((List bP)×(List aZ)×(yc)×Int×Int×Int×aM×Int):=(wV L a g d f b c).bind λe=>c6 (a.ai,a.af,d,f,b,c,e.1,e.2)
def Fl(g:aL)(q:Int)(f:ak)(n:yc)(p:Int)(k:Int)(j:Int)(h:List ay)(i:Int):Option (((List bP)×(List aZ)×(yc)×Int×Int×Int×(List ay)×Int)⊕(((List bP)×(List aZ)×(yc)×Int×Int×Int×(List ay)×Int)⊕((List bP)×(List aZ)×(yc)×Int×Int×Int×(List ay)))):=bif c5 (i<(g.aA.length:Int)) then((aj g.aA i).bind λo=>(to L o.aw q).bind λe=>(mH L o).bind λd=>(aj d.1 e).bind λ_=>(d.1[e.toNat]?).bind λu=>(Io L f n p k j u).bind λa=>((bif c5 (a.2.2.2.2.2.2.2=6) then c6 (c5 (a.2.2.2.2.2.2.2=6)) else c6 (c5 (a.2.2.2.2.2.2.2=8))).bind λt=>bif t then c6 (c7 (dd (g.aA,a.2.2.2.2.2.2.2))) else bif c5 (a.2.2.2.2.2.2.2=43) then c6 (c7 (c7 ())) else(bif c5 (a.2.2.2.2.2.2.2=0) then(aj d.1 e).bind λ_=>(d.1[e.toNat]?).bind λ_=>c6 (d.1.set (e.toNat) a.2.2.2.2.2.2.1) else c6 d.1).bind λw=>c6 (dd (d.2,w)):Option (((yc)×(List aM))⊕(((List ay)×Int)⊕Unit))).bind λs=>dt (λl=>(bj 48 h ([(ay.mk l.1 l.2)]:List ay)).bind λx=>c6 (dd (a.1,a.2.1,a.2.2.1,a.2.2.2.1,a.2.2.2.2.1,a.2.2.2.2.2.1,x))) (λv=>dt (λm=>c6 (c7 (a.1,a.2.1,a.2.2.1,a.2.2.2.1,a.2.2.2.2.1,a.2.2.2.2.2.1,m.1,m.2))) (λy=>c6 (dd (a.1,a.2.1,a.2.2.1,a.2.2.2.1,a.2.2.2.2.1,a.2.2.2.2.2.1,h))) v) s:Option (((List bP)×(List aZ)×(yc)×Int×Int×Int×(List ay))⊕((List bP)×(List aZ)×(yc)×Int×Int×Int×(List ay)×Int))).bind λr=>dt (λc=>c6 (dd (c.1,c.2.1,c.2.2.1,c.2.2.2.1,c.2.2.2.2.1,c.2.2.2.2.2.1,c.2.2.2.2.2.2,c3 c4 (i+1)))) (λb=>c6 (c7 (dd (b.1,b.2.1,b.2.2.1,b.2.2.2.1,b.2.2.2.2.1,b.2.2.2.2.2.1,b.2.2.2.2.2.2.1,b.2.2.2.2.2.2.2)))) r else c6 (c7 (c7 (f.ai,f.af,n,p,k,j,h)))
def Hu(d:ak)(h:yc)(i:Int)(f:Int)(g:Int)(k:ak)(e:aL)(j:Int):Option ((List bP)×(List aZ)×(yc)×Int×Int×Int×aL×Int):=(p8 L k e).bind λm=>bif (!m) then c6 (d.ai,d.af,h,i,f,g,e,6) else(aj e.aA 0).bind λo=>(im L o.aw j).bind λn=>bif (!n) then c6 (d.ai,d.af,h,i,f,g,e,41) else(L.loop (λb=>Fl L e j (ak.mk b.1 b.2.1) b.2.2.1 b.2.2.2.1 b.2.2.2.2.1 b.2.2.2.2.2.1 b.2.2.2.2.2.2.1 b.2.2.2.2.2.2.2) (d.ai,d.af,h,i,f,g,([]:List ay),0)).bind λl=>dt (λc=>c6 (c.1,c.2.1,c.2.2.1,c.2.2.2.1,c.2.2.2.2.1,c.2.2.2.2.2.1,(aL.mk c.2.2.2.2.2.2.1),c.2.2.2.2.2.2.2)) (λa=>bif c5 ((a.2.2.2.2.2.2.length:Int)=0) then c6 (a.1,a.2.1,a.2.2.1,a.2.2.2.1,a.2.2.2.2.1,a.2.2.2.2.2.1,e,43) else c6 (a.1,a.2.1,a.2.2.1,a.2.2.2.1,a.2.2.2.2.1,a.2.2.2.2.2.1,(aL.mk a.2.2.2.2.2.2),0)) l
def Bq(a:ak)(f:aL)(g:Int)(c:yc)(e:Int)(d:Int)(h:Int):Option (aL×Int):=(Hu L a c e d h a f g).bind λb=>c6 (b.2.2.2.2.2.2.1,b.2.2.2.2.2.2.2)
def uQ(d:Int)(a:aS)(e:dC)(b:Int)(g:ak)(f:aL):Option pT:=(Dh L a).bind λh=>(Bq L g f d a.ai e.an b h).bind λc=>c6 (Ft d a e b c.1 c.2)
def swp(c b:Int){e:Type}(a:yc)(f:yc->Option e):Option e:=(aj a b).bind λ_=>(a[b.toNat]?).bind λd=>(aj a c).bind λ_=>(a[c.toNat]?).bind λv=>(aj a c).bind λ_=>(a[c.toNat]?).bind λ_=>(aj (a.set c.toNat d) b).bind λ_=>((a.set c.toNat d)[b.toNat]?).bind λ_=>f ((a.set c.toNat d).set b.toNat v)
def oX(e:aB)(c d:Int):Option (aB×Int):=(wv L e [c,d]).bind λi=>bif c5 (i≠0) then c6 (e,i) else bif c5 (c=d) then c6 (e,19) else(aj e.aN c).bind λk=>(aj e.aN d).bind λb=>bif c5 (k.abG≠b.abG) then c6 (e,3) else match e.bp with |[]=>(we L e).bind λa=>swp c d a.1 λf=>c6 (aB.mk (ak.mk a.2.2.2.1 a.2.2.2.2.1) a.2.2.2.2.2.1 a.2.2.2.2.2.2.1 f a.2.2.2.2.2.2.2 a.2.1 a.2.2.1 [],0) |[_]=>(uR L e).bind λa=>swp c d a.1 λf=>swp c d a.2.2.2.1 λg=>c6 (aB.mk (ak.mk a.2.2.2.2.1 a.2.2.2.2.2.1) a.2.2.2.2.2.2.1 a.2.2.2.2.2.2.2.1 f a.2.2.2.2.2.2.2.2 a.2.1 a.2.2.1 [g],0) |[_,_]=>(pO L e).bind λa=>swp c d a.1 λf=>swp c d a.2.2.2.1 λg=>swp c d a.2.2.2.2.1 λh=>c6 (aB.mk (ak.mk a.2.2.2.2.2.1 a.2.2.2.2.2.2.1) a.2.2.2.2.2.2.2.1 a.2.2.2.2.2.2.2.2.1 f a.2.2.2.2.2.2.2.2.2 a.2.1 a.2.2.1 [g,h],0) |[_,_,_]=>(nM L e).bind λa=>swp c d a.1 λf=>swp c d a.2.2.2.1 λg=>swp c d a.2.2.2.2.1 λh=>swp c d a.2.2.2.2.2.1 λj=>c6 (aB.mk (ak.mk a.2.2.2.2.2.2.1 a.2.2.2.2.2.2.2.1) a.2.2.2.2.2.2.2.2.1 a.2.2.2.2.2.2.2.2.2.1 f a.2.2.2.2.2.2.2.2.2.2 a.2.1 a.2.2.1 [g,h,j],0) |_=>e0
def Dw(L:Lp)(d:Int)(a:aM)(b:Int):Option Bool:=(aj a.an d).bind λc=>c6 (c5 (c<=b))
def Ge(f:Int)(e:aM)(g:Int)(b:yc)(a:Int):Option (((yc)×Int)⊕(yc)):=bif c5 (a<f) then(Dw L a e g).bind λc=>(bif c then(bj 8 b ([a]:yc)).bind λd=>c6 d else c6 b).bind λh=>c6 (dd (h,c3 c4 (a+1))) else c6 (c7 b)
def HL(c:Int)(b:aM)(d:Int):Option yc:=(L.loop (λa=>Ge L c b d a.1 a.2) (([]:yc),0)).bind λe=>c6 e
def su(a:aM)(c:Int):Option yc:=(HL L (a.an.length:Int) a c).bind λb=>c6 b
def zO(c:Int)(b:yc):Option Bool:=(im L b c).bind λa=>c6 a
def IF(d:yc)(b:yc)(a:Int):Option (Int⊕(Int⊕Unit)):=ixL d (λc=>zO L c b) a
def Iw(c:yc)(a:yc):Option Int:=(L.loop (λb=>IF L c a b) 0).bind λd=>dt (λe=>c6 e) (λf=>c6 (-1)) d
def B3(c:yc)(b:yc):Option Bool:=(Iw L c b).bind λa=>c6 (c5 (0<=a))
def EE(d:aM)(c:aM)(a:Int):Option Bool:=(su L c a).bind λb=>(su L d a).bind λf=>(B3 L f b).bind λe=>c6 e
def xc(b:aM)(a:Int):Option (aM×Int):=(bif c5 (a<b.aa0) then c6 true else c6 (c5 (2147483648<a))).bind λc=>bif c then c6 (b,8) else(cc L b.an).bind λd=>c6 ((aM.mk a d),0)
def CV(c:ay)(b:ay)(a:Int):Option (((List aM)×Int)⊕(List aM)):=bif c5 (a<(c.aH.length:Int)) then(aj c.aH a).bind λd=>(cc L d.an).bind λe=>(bj 32 b.aH ([(aM.mk d.aa0 e)]:List aM)).bind λf=>c6 (dd (f,c3 c4 (a+1))) else c6 (c7 b.aH)
def Ac(c:ay):Option ((yc)×(List aM)):=(cc L c.aw).bind λa=>(L.loop (λb=>CV L c (ay.mk a b.1) b.2) (([]:List aM),0)).bind λd=>c6 (a,d)
def Ke(L:Lp)(a:List ay):Option (List ay):=bj 48 [] a
def EG(L:Lp)(c:aM)(e:aM)(a:aM)(b:Int):Option ((Int×(yc)×Int)⊕(Int×(yc))):=bif c5 (b<(c.an.length:Int)) then(aj c.an b).bind λg=>(aj e.an b).bind λd=>(bj 8 a.an ([min g d]:yc)).bind λf=>c6 (dd (a.aa0,f,c3 c4 (b+1))) else c6 (c7 (a.aa0,a.an))
def xW(c:aM)(a:aM):Option (aM×Int):=bif c5 ((c.an.length:Int)≠(a.an.length:Int)) then c6 ((aM.mk 0 ([]:yc)),6) else(L.loop (λb=>EG L c a (aM.mk b.1 b.2.1) b.2.2) (max c.aa0 a.aa0,([]:yc),0)).bind λd=>c6 ((aM.mk d.1 d.2),0)
def IK(c:ay)(b:ay):Option Int:=(sL L c.aw b.aw).bind λa=>c6 a
def Mg(e:Int)(b:List ay)(a:Int):Option (((List ay)×Int)⊕(List ay)):=(bif c5 (e<a) then(aj b a).bind λ_=>(b[a.toNat]?).bind λd=>(aj b (c3 c4 (a -1))).bind λ_=>(b[(c3 c4 (a -1)).toNat]?).bind λh=>(IK L d h).bind λf=>c6 (c5 (f<0)) else c6 false).bind λg=>bif g then(aj b (c3 c4 (a -1))).bind λ_=>(b[(c3 c4 (a -1)).toNat]?).bind λc=>(aj b a).bind λ_=>(b[a.toNat]?).bind λi=>(aj b a).bind λ_=>(b[a.toNat]?).bind λ_=>(aj (b.set (a.toNat) c) (c3 c4 (a -1))).bind λ_=>((b.set (a.toNat) c)[(c3 c4 (a -1)).toNat]?).bind λ_=>c6 (dd ((b.set (a.toNat) c).set ((c3 c4 (a -1)).toNat) i,c3 c4 (a -1))) else c6 (c7 b)
def Sx(f:Int)(d:Int)(c:List ay)(a:Int):Option (((List ay)×Int)⊕(List ay)):=bif c5 (a<f) then(L.loop (λb=>Mg L d b.1 b.2) (c,a)).bind λe=>c6 (dd (e,c3 c4 (a+1))) else c6 (c7 c)
def xn(c:List ay)(a:Int)(d:Int):Option (List ay):=(L.loop (λb=>Sx L d a b.1 b.2) (c,c3 c4 (a+1))).bind λe=>c6 e
def zB(d:Int)(b:List ay)(c:Int)(a:Int):Option (((List ay)×Int×Int)⊕((List ay)×Int)):=bif c5 (a<=d) then(xn L b c a).bind λe=>c6 (dd (e,a,c3 c4 (a+20))) else c6 (c7 (b,c))
def afc(L:Lp)(b:Int)(a:Int):Option (Int⊕Unit):=bif c5 (a<=b) then e0 else c6 (c7 ())
def KH(b:Int)(a:Int):Option (Int⊕Unit):=bif c5 (a<b) then(L.loop (λc=>afc L b c) (c3 c4 (2*a))).bind λd=>bif c5 ((c3 c4 (0+a))<b) then e0 else c6 (dd (c3 c4 (a*2))) else c6 (c7 ())
def Je(e:List ay)(b:Int):Option (List ay):=(L.loop (λa=>zB L b a.1 a.2.1 a.2.2) (e,0,20)).bind λc=>(xn L c.1 c.2 b).bind λd=>(L.loop (λa=>KH L b a) 20).bind λf=>c6 d
def GP(a:List ay):Option (List ay):=(Je L a (a.length:Int)).bind λb=>c6 b
def JY(L:Lp)(a:List ay):Option (List ay):=bj 48 [] a
def FQ(b:List ay):Option (List ay):=(JY L b).bind λa=>c6 a
def uv(c:List ay):Option (List ay):=(FQ L c).bind λb=>(GP L b).bind λa=>c6 a
def qR(b:List aM)(a:List aM)(i:Int):Option ((List aM×Int)⊕List aM):=bif c5 (i<(b.length:Int)) then(aj a i).bind λd=>(aj b i).bind λc=>(xW L d c).bind λe=>c6 (dd (a.set i.toNat e.1,c3 c4 (i+1))) else c6 (c7 a)
def lZ(d out:List ay)(i:Int):Option ((List ay×Int)⊕List ay):=bif c5 (i<(d.length:Int)) then(aj d i).bind λb=>(bif c5 (0<(out.length:Int)) then(aj out (c3 c4 ((out.length:Int) -1))).bind λa=>qG L a.aw b.aw else c6 false).bind λg=>bif g then(aj out (c3 c4 ((out.length:Int) -1))).bind λa=>(L.loop (λc=>qR L b.aH c.1 c.2) (a.aH,0)).bind λe=>c6 (dd (out.set (c3 c4 ((out.length:Int) -1)).toNat {a with aH:=e},c3 c4 (i+1))) else(oM L b).bind λf=>(bj 48 out [f]).bind λout=>c6 (dd (out,c3 c4 (i+1))) else c6 (c7 out)
def yK(c:List ay):Option (List ay):=(uv L c).bind λb=>L.loop (λa=>lZ L b a.1 a.2) (([]:List ay),0)
def tC(g:Int)(e:Int)(f:Int)(a:List aM)(c:Int):Option (((List aM)×Int)⊕(List aM)):=bif c5 (c<2) then(aj ([g,e]:yc) c).bind λb=>(aj a b).bind λ_=>(a[b.toNat]?).bind λi=>(xc L i f).bind λd=>(bif c5 (d.2=0) then(aj a b).bind λ_=>(a[b.toNat]?).bind λ_=>c6 (a.set (b.toNat) d.1) else c6 a).bind λh=>c6 (dd (h,c3 c4 (c+1))) else c6 (c7 a)
def H9(j:aL)(b:Int)(c:Int)(i:Int)(g:List ay)(e:Int):Option (((List ay)×Int)⊕(List ay)):=bif c5 (e<(j.aA.length:Int)) then((aj j.aA e).bind λf=>(aj f.aH b).bind λo=>(aj f.aH c).bind λm=>(EE L o m i).bind λq=>bif (!q) then c6 g else(Ac L f).bind λa=>(aj a.1 c).bind λ_=>(a.1[c.toNat]?).bind λd=>(aj a.1 b).bind λ_=>(a.1[b.toNat]?).bind λp=>(aj a.1 b).bind λ_=>(a.1[b.toNat]?).bind λ_=>(aj (a.1.set (b.toNat) d) c).bind λ_=>((a.1.set (b.toNat) d)[c.toNat]?).bind λ_=>((L.loop (λk=>tC L b c i k.1 k.2) (a.2,0)).bind λn=>c6 ((a.1.set (b.toNat) d).set (c.toNat) p,n):Option ((yc)×(List aM))).bind λh=>(bj 48 g ([(ay.mk h.1 h.2)]:List ay)).bind λl=>c6 l:Option (List ay)).bind λr=>c6 (dd (r,c3 c4 (e+1))) else c6 (c7 g)
def yY(m:ak)(a:aL)(c:Int)(b:Int)(f:Int):Option (aL×Int):=(p8 L m a).bind λl=>bif (!l) then c6 (a,6) else(aj a.aA 0).bind λg=>((cp L c 0 (c3 c4 ((g.aw.length:Int) -1))).bind λn=>bif (!n) then c6 true else(cp L b 0 (c3 c4 ((g.aw.length:Int) -1))).bind λk=>bif (!k) then c6 true else c6 (c5 (c=b)):Option Bool).bind λi=>bif i then c6 (a,19) else(cp L f 0 2147483648).bind λo=>bif (!o) then c6 (a,8) else(Ke L a.aA).bind λj=>(L.loop (λe=>H9 L a c b f e.1 e.2) (j,0)).bind λh=>(yK L h).bind λd=>bif c5 (24<(d.length:Int)) then c6 (a,44) else c6 ((aL.mk d),0)
def DV(a:Int)(c:bQ):Option Bool:=bif c5 (a≠1099511627776) then(cp L a c.aa0 2147483648).bind λb=>c6 (!b) else c6 false
def GU(d:yc)(b:bQ)(a:Int):Option (Int⊕(Int⊕Unit)):=ixL d (λc=>DV L c b) a
def GH(c:yc)(a:bQ):Option Int:=(L.loop (λb=>GU L c a b) 0).bind λd=>dt (λe=>c6 e) (λf=>c6 (-1)) d
def Ab(c:yc)(b:bQ):Option Bool:=(GH L c b).bind λa=>c6 (c5 (0<=a))
def wB(b:ak)(a:bQ):Option Bool:=(ij L b).bind λc=>bif c then bif c5 ((a.an.length:Int)=(b.ai.length:Int)) then(cp L a.aa0 0 2147483648).bind λe=>bif e then(Ab L a.an a).bind λd=>c6 (!d) else c6 false else c6 false else c6 false
def Fi(L:Lp)(c:bQ)(d:Int)(b:yc)(a:Int):Option (((yc)×Int)⊕(yc)):=bif c5 (a<(c.an.length:Int)) then(aj c.an a).bind λe=>(aj b a).bind λ_=>(b[a.toNat]?).bind λ_=>c6 (dd (b.set (a.toNat) (max e d),c3 c4 (a+1))) else c6 (c7 b)
def Ii(f:ak)(g:bQ)(d:Int)(h:List bI)(c:yc)(b:Int):Option (((yc)×Int)⊕(yc)):=bif c5 (b<(f.af.length:Int)) then(aj f.af b).bind λa=>((aj g.an a.an).bind λq=>bif c5 (q<=d) then(aj h b).bind λm=>(n6 L f b m false).bind λp=>c6 (c5 (0<=p)) else c6 false:Option Bool).bind λl=>(bif l then(aj c a.To).bind λ_=>(c[a.To.toNat]?).bind λ_=>c6 (c.set (a.To.toNat) d) else c6 c).bind λe=>((aj g.an a.To).bind λi=>bif c5 (i<=d) then(aj h b).bind λo=>(n6 L f b o true).bind λk=>c6 (c5 (0<=k)) else c6 false:Option Bool).bind λj=>(bif j then(aj e a.an).bind λ_=>(e[a.an.toNat]?).bind λ_=>c6 (e.set (a.an.toNat) d) else c6 e).bind λn=>c6 (dd (n,c3 c4 (b+1))) else c6 (c7 c)
def uk(d:ak)(g:List bI)(e:ak)(f:List bI)(a:bQ)(c:Int):Option (bQ×Int):=((pD L d g).bind λk=>bif (!k) then c6 true else(wB L d a).bind λm=>bif (!m) then c6 true else(pD L e f).bind λn=>bif (!n) then c6 true else c6 (c5 ((e.ai.length:Int)≠(d.ai.length:Int))):Option Bool).bind λh=>bif h then c6 (a,6) else(bif c5 (c<a.aa0) then c6 true else c6 (c5 (2147483648<c))).bind λi=>bif i then c6 (a,8) else(gP 8 0 (a.an.length:Int)).bind λp=>(L.loop (λb=>Fi L a c b.1 b.2) (p,0)).bind λl=>(L.loop (λb=>Ii L d a c g b.1 b.2) (l,0)).bind λo=>(rM L o e.ai e.af f).bind λj=>c6 ((bQ.mk c j),0)
def HM(L:Lp)(d:yc)(e:Int)(a:yc)(b:Int):Option (((yc)×Int)⊕(yc)):=bif c5 (b<(d.length:Int)) then(aj d b).bind λc=>(aj a c).bind λ_=>(a[c.toNat]?).bind λ_=>c6 (dd (a.set (c.toNat) e,c3 c4 (b+1))) else c6 (c7 a)
def EX(a:ak)(c:List bI)(e:yc)(b:Int):Option ((yc)×Int×Int):=(pD L a c).bind λh=>bif (!h) then c6 (([]:yc),0,6) else(iU L e 0 (c3 c4 ((a.ai.length:Int) -1))).bind λj=>bif (!j) then c6 (([]:yc),0,3) else(cp L b 0 2147483648).bind λk=>bif (!k) then c6 (([]:yc),0,8) else(sJ L ([1099511627776]:yc) (a.ai.length:Int)).bind λi=>(L.loop (λd=>HM L e b d.1 d.2) (i,0)).bind λg=>(rM L g a.ai a.af c).bind λf=>c6 (f,b,0)
def xP(a:cy)(b:Int):Option (Int⊕(Unit⊕Unit)):=bif c5 (b<4) then(aj ([a.abv,a.eB,a.ku,a.mZ]:yc) b).bind λd=>(cp L d 0 2147483648).bind λc=>bif (!c) then c6 (c7 (dd ())) else c6 (dd (c3 c4 (b+1))) else c6 (c7 (c7 ()))
def Dg(a:cy):Option Bool:=(L.loop (λb=>xP L a b) 0).bind λd=>dt (λi=>c6 false) (λh=>((cp L a.anS 1 4).bind λe=>bif (!e) then c6 true else(cp L a.pB 1 2147483648).bind λg=>c6 (!g):Option Bool).bind λc=>bif c then c6 false else bif a.sd then c6 (c5 (a.l9=0)) else(cp L a.l9 a.ku 2147483648).bind λf=>bif f then c6 (!a.uV) else c6 false) d
def qF(L:Lp)(c:yc)(a:Int):Option (Int⊕(Int⊕Unit)):=bif c5 (a<(c.length:Int)) then(aj c a).bind λb=>bif c5 (b≠0) then c6 (c7 (dd b)) else c6 (dd (c3 c4 (a+1))) else c6 (c7 (c7 ()))
def CY(b:yc):Option Int:=(L.loop (λa=>qF L b a) 0).bind λd=>dt (λc=>c6 c) (λe=>c6 0) d
def rK(b:cy)(a:kC):Option Int:=(uE L b.abv a.kind).bind λc=>(uE L b.eB a.Dn).bind λe=>(CY L ([c,e]:yc)).bind λd=>c6 d
def vH(b:List cy)(a:Int):Option (Int⊕(Unit⊕Unit)):=bif c5 (a<(b.length:Int)) then(aj b a).bind λc=>((Dg L c).bind λg=>bif (!g) then c6 true else bif c5 (0<a) then(aj b (c3 c4 (a -1))).bind λe=>(rK L e (kC.mk c.abv c.eB)).bind λd=>c6 (c5 (0<=d)) else c6 false:Option Bool).bind λf=>bif f then c6 (c7 (dd ())) else c6 (dd (c3 c4 (a+1))) else c6 (c7 (c7 ()))
def yE(a:List cy):Option Bool:=bif c5 (64<(a.length:Int)) then c6 false else(L.loop (λc=>vH L a c) 0).bind λb=>dt (λd=>c6 false) (λe=>c6 true) b
def Rt(f:List cy)(e:kC)(a:Int)(c:Int):Option ((Int×Int)⊕Int):=bif c5 (a<c) then(iN .u64 (dv.wrap (c3 c4 (a+c))) 1).bind λb=>(aj f (c3 c4 b)).bind λh=>(rK L h e).bind λg=>(bif c5 (g<0) then c6 (c3 c4 ((c3 c4 b)+1),c) else c6 (a,c3 c4 b)).bind λd=>c6 (dd (d.1,d.2)) else c6 (c7 a)
def Ec(b:List cy)(c:kC):Option (Int×Bool):=(L.loop (λd=>Rt L b c d.1 d.2) (0,(b.length:Int))).bind λa=>bif c5 (a<(b.length:Int)) then(aj b a).bind λf=>(rK L f c).bind λe=>c6 (a,c5 (e=0)) else c6 (a,false)
def D3(L:Lp)(c:List cy)(b:List cy)(a:Int):Option (List cy):=B2 64 c a b
def rk(b:List cy)(g:Int)(f:Int)(d:Int)(e:Int):Option ((List cy)×Int):=(yE L b).bind λv=>bif (!v) then c6 (b,6) else((cp L g 0 2147483648).bind λn=>bif (!n) then c6 true else(cp L f 0 2147483648).bind λw=>bif (!w) then c6 true else(cp L d 1 4).bind λu=>c6 (!u):Option Bool).bind λk=>bif k then c6 (b,1) else(Ec L b (kC.mk g f)).bind λa=>((cp L e 0 2147483648).bind λq=>bif (!q) then c6 true else bif a.2 then(aj b a.1).bind λj=>bif c5 (e<j.ku) then c6 true else(aj b a.1).bind λt=>c6 (c5 (e<t.l9)) else c6 false:Option Bool).bind λo=>bif o then c6 (b,8) else bif (!a.2) then bif c5 ((b.length:Int)=64) then c6 (b,2) else(pI L b).bind λl=>(D3 L l ([(cy.mk g f d e 0 true false 0 1)]:List cy) a.1).bind λi=>c6 (i,0) else(pI L b).bind λc=>(aj c a.1).bind λ_=>(c[a.1.toNat]?).bind λr=>bif (!r.sd) then(c[a.1.toNat]?).bind λp=>(c[a.1.toNat]?).bind λ_=>c6 (c.set (a.1.toNat) (cy.mk g f d e 0 true false 0 (min (c3 c4 (p.pB+1)) 2147483648)),0) else(c[a.1.toNat]?).bind λs=>bif c5 (d<s.anS) then(c[a.1.toNat]?).bind λh=>((c.set (a.1.toNat) ({h with anS:=d}:cy))[a.1.toNat]?).bind λm=>c6 ((c.set (a.1.toNat) ({h with anS:=d}:cy)).set (a.1.toNat) ({m with mZ:=0}:cy),0) else c6 (c,0)
def B0(L:Lp)(d:bC)(a:aR)(b:bH):Option Bool:=(aj a.aI.aa2.af b.A).bind λc=>c6 (c5 (d.akw=c))
def aou(b:List bC)(a:aR)(c:bH)(d:Int):Option (Int⊕(Int⊕Unit)):=ixL b (λe=>B0 L e a c) d
def Er(c:List bC)(a:aR)(d:bH):Option Int:=(L.loop (λb=>aou L c a d b) 0).bind λe=>dt (λf=>c6 f) (λg=>c6 (-1)) e
def Dv(d:List bC)(b:aR)(c:bH):Option Bool:=(Er L d b c).bind λa=>c6 (c5 (0<=a))
def EA(a:bA):Option bA:=(cc L a.af).bind λc=>(cc L a.aa2).bind λb=>c6 (bA.mk c b a.Out)
def IL(a:bA):Option ((yc)×(yc)×Bool):=(cc L a.af).bind λc=>(cc L a.aa2).bind λb=>c6 (b,c,a.Out)
def qO(a:bA)(b:Int)(h:Int)(e:Int):Option (bA×Int):=(oL L a).bind λg=>bif (!g) then c6 (a,6) else(cp L b 0 (c3 c4 ((a.aa2.length:Int) -1))).bind λi=>bif (!i) then c6 (a,47) else((aj a.aa2 b).bind λf=>bif c5 (f≠h) then c6 true else c6 a.Out:Option Bool).bind λd=>bif d then c6 (a,48) else(IL L a).bind λc=>(aj c.1 b).bind λ_=>(c.1[b.toNat]?).bind λ_=>c6 ((bA.mk c.2.1 (c.1.set (b.toNat) e) c.2.2),0)
def GQ(c:bA)(b:Int):Option (bA×Int):=(qO L c b 0 1).bind λa=>c6 (a.1,a.2)
def J0(c:bA)(b:Int):Option (bA×Int):=(qO L c b 1 2).bind λa=>c6 (a.1,a.2)
def KV(L:Lp)(a:Int):Option Bool:=c6 (c5 (a≠2))
def ahp(c:yc)(a:Int):Option (Int⊕(Int⊕Unit)):=ixL c (λb=>KV L b) a
def CC(b:yc):Option Int:=(L.loop (λa=>ahp L b a) 0).bind λc=>dt (λd=>c6 d) (λe=>c6 (-1)) c
def zA(b:yc):Option Bool:=(CC L b).bind λa=>c6 (c5 (0<=a))
def xi(a:bA)(b:Bool):Option (bA×Int):=(oL L a).bind λf=>bif (!f) then c6 (a,6) else(bif (a.Out==b) then c6 true else bif b then(yh L a).bind λe=>c6 (!e) else c6 false).bind λd=>bif d then c6 (a,48) else(EA L a).bind λc=>c6 ((bA.mk c.af c.aa2 b),0)
def Cu(b:bA):Option (bA×Int):=(xi L b true).bind λa=>c6 (a.1,a.2)
def Jb(L:Lp)(b:aM)(a:Int):Option Bool:=c6 (c5 (a<b.aa0))
def Gr(d:List aM)(b:Int)(a:Int):Option (Int⊕(Int⊕Unit)):=ixL d (λc=>Jb L c b) a
def Gk(c:List aM)(a:Int):Option Int:=(L.loop (λb=>Gr L c a b) 0).bind λd=>dt (λe=>c6 e) (λf=>c6 (-1)) d
def JC(c:List aM)(b:Int):Option Bool:=(Gk L c b).bind λa=>c6 (c5 (0<=a))
def AP(c:ay)(b:Int):Option Bool:=(JC L c.aH b).bind λa=>c6 a
def Jx(d:List ay)(b:Int)(a:Int):Option (Int⊕(Int⊕Unit)):=ixL d (λc=>AP L c b) a
def Jm(c:List ay)(a:Int):Option Int:=(L.loop (λb=>Jx L c a b) 0).bind λd=>dt (λe=>c6 e) (λf=>c6 (-1)) d
def AL(c:List ay)(b:Int):Option Bool:=(Jm L c b).bind λa=>c6 (c5 (0<=a))
def xT(c:ak)(a:aM)(b:Int):Option (aM×Int):=((ij L c).bind λe=>bif (!e) then c6 true else(ur L c a).bind λd=>c6 (!d):Option Bool).bind λjA=>bif jA then c6 (a,6) else(bif c5 (b<a.aa0) then c6 true else c6 (c5 (2147483648<b))).bind λkE=>bif kE then c6 (a,8) else(ze L c a.an b).bind λf=>c6 ((aM.mk b f),0)
def IJ(b:yc)(d:ak)(c:Int)(a:Int):Option (aM×Int):=((ij L d).bind λf=>bif (!f) then c6 true else(ur L d (aM.mk c b)).bind λe=>c6 (!e):Option Bool).bind λjA=>bif jA then c6 ((aM.mk c b),6) else(bif c5 (a<c) then c6 true else c6 (c5 (2147483648<a))).bind λkE=>bif kE then c6 ((aM.mk c b),8) else(sI L d b a).bind λg=>c6 ((aM.mk a g),0)
def JO(L:Lp)(d:yc)(e:aM)(b:yc)(c:Int):Option (((yc)×Int)⊕(yc)):=bif c5 (c<(d.length:Int)) then(aj d c).bind λa=>(aj e.an a).bind λf=>(aj b a).bind λ_=>(b[a.toNat]?).bind λ_=>c6 (dd (b.set (a.toNat) f,c3 c4 (c+1))) else c6 (c7 b)
def CA(e:ak)(a:aM)(d:Int):Option (aM×Int):=(sJ L ([1099511627776]:yc) (a.an.length:Int)).bind λf=>(su L a d).bind λh=>(L.loop (λb=>JO L h a b.1 b.2) (f,0)).bind λg=>(IJ L g e a.aa0 d).bind λc=>c6 (c.1,c.2)
def zx(d:ay)(h:ak×Int)(e:Int)(f:aL)(b:List aM)(a:Int):Option (((List aM)×Int)⊕(((List ay)×Int)⊕(List aM))):=bif c5 (a<(d.aH.length:Int)) then(aj d.aH a).bind λg=>(CA L h.1 g e).bind λc=>bif c5 (c.2≠0) then c6 (c7 (dd (f.aA,c.2))) else(aj b a).bind λ_=>(b[a.toNat]?).bind λ_=>c6 (dd (b.set (a.toNat) c.1,c3 c4 (a+1))) else c6 (c7 (c7 b))
def FR(a:aL)(n:ak×Int)(j:Int)(c:List ay)(b:Int):Option (((List ay)×Int)⊕(((List ay)×Int)⊕(List ay))):=bif c5 (b<(a.aA.length:Int)) then(aj a.aA b).bind λf=>(mH L f).bind λh=>((L.loop (λd=>zx L f n j a d.1 d.2) (h.1,0)).bind λo=>dt (λe=>c6 (c7 (e.1,e.2))) (λk=>c6 (dd (h.2,k))) o:Option (((yc)×(List aM))⊕((List ay)×Int))).bind λl=>dt (λg=>(bj 48 c ([(ay.mk g.1 g.2)]:List ay)).bind λm=>c6 (dd (m,c3 c4 (b+1)))) (λi=>c6 (c7 (dd (i.1,i.2)))) l else c6 (c7 (c7 c))
def Em(e:ak)(a:aL)(l:yc)(b:Int):Option (aL×Int):=(p8 L e a).bind λi=>bif (!i) then c6 (a,6) else(sW L e l).bind λc=>bif c5 (c.2≠0) then c6 (a,c.2) else(bif c5 (2147483648<b) then c6 true else(AL L a.aA b).bind λh=>c6 h).bind λm=>bif m then c6 (a,8) else(L.loop (λd=>FR L a c b d.1 d.2) (([]:List ay),0)).bind λk=>dt (λf=>c6 ((aL.mk f.1),f.2)) (λj=>(yK L j).bind λg=>c6 ((aL.mk g),0)) k
def zd(L:Lp)(b:b7)(a:Int):Option Bool:=bif c5 (b.aa0<=a) then c6 (c5 (a<=2147483648)) else c6 false
def CR(b:Int)(a:aM):Option Bool:=(cp L b 0 (c3 c4 ((a.an.length:Int) -1))).bind λd=>bif d then(aj a.an b).bind λc=>c6 (c5 (c≠1099511627776)) else c6 false
def G9(d:yc)(b:aM)(a:Int):Option (Int⊕(Int⊕Unit)):=ixL d (λc=>CR L c b) a
def G4(c:yc)(a:aM):Option Int:=(L.loop (λb=>G9 L c a b) 0).bind λd=>dt (λe=>c6 e) (λf=>c6 (-1)) d
def As(c:yc)(b:aM):Option Bool:=(G4 L c b).bind λa=>c6 (c5 (0<=a))
def xK(b:ay)(c:yc)(a:Int):Option (Int⊕(Unit⊕Unit)):=bif c5 (a<(b.aH.length:Int)) then(aj b.aH a).bind λd=>(As L c d).bind λe=>bif e then c6 (c7 (dd ())) else c6 (dd (c3 c4 (a+1))) else c6 (c7 (c7 ()))
def wF(b:aL)(c:yc)(a:Int):Option (Int⊕(Unit⊕Unit)):=bif c5 (a<(b.aA.length:Int)) then(aj b.aA a).bind λe=>(L.loop (λd=>xK L e c d) 0).bind λf=>dt (λg=>c6 (c7 (dd ()))) (λh=>c6 (dd (c3 c4 (a+1)))) f else c6 (c7 (c7 ()))
def wA(d:aL)(a:yc):Option Bool:=(L.loop (λb=>wF L d a b) 0).bind λc=>dt (λf=>c6 false) (λe=>c6 true) c
def Ah(b:cd)(a:bA)(c:aL):Option Bool:=(oT L b (b7.mk 0 0 0 0)).bind λd=>bif d then(oL L a).bind λf=>bif f then bif a.Out then bif c5 (0<(c.aA.length:Int)) then(wA L c b.bT).bind λe=>c6 e else c6 false else c6 false else c6 false else c6 false
def si(a:jf)(b:Bool):Option Int:=(oT L a.x a.s).bind λi=>bif (!i) then c6 6 else bif c5 (a.s.State≠a.from_) then c6 10 else(bif c5 (a.t<0) then c6 true else(zd L a.s a.t).bind λc=>c6 (!c)).bind λf=>bif f then c6 8 else bif b then c6 19 else(bif c5 (a.from_≠0) then c6 (c5 (a.x.dZ<(c3 c4 (a.t -a.s.aa0)))) else c6 false).bind λe=>bif e then c6 10 else((oL L a.k).bind λd=>bif (!d) then c6 true else c6 (!a.k.Out):Option Bool).bind λg=>bif g then c6 48 else(Ah L a.x a.k a.b).bind λh=>bif (!h) then c6 49 else c6 0
def BR(f:cd)(c:b7)(g:bA)(e:aL)(b:Int)(a:Int):Option (b7×Int):=(si L (jf.mk f c g e a 0) (c5 (b<=0))).bind λd=>bif c5 (d≠0) then c6 (c,d) else c6 ((b7.mk 1 b 0 a),0)
def AJ(f:cd)(a:b7)(g:bA)(e:aL)(c:Int)(b:Int):Option (b7×Int):=(bif c5 (c<=0) then(si L (jf.mk f a g e b 1) true).bind λh=>c6 h else(si L (jf.mk f a g e b 1) (c5 (c=a.dD))).bind λi=>c6 i).bind λd=>bif c5 (d≠0) then c6 (a,d) else c6 ((b7.mk 2 a.dD c b),0)
def CM(f:cd)(a:b7)(g:bA)(d:aL)(b:Int)(e:Bool):Option (b7×Int):=(si L (jf.mk f a g d b 2) false).bind λc=>bif c5 (c≠0) then c6 (a,c) else bif e then c6 (({a with State:=4,aa0:=b}:b7),0) else c6 (({a with State:=3,aa0:=b}:b7),0)
def tW(c:aB)(a:aB)(b:Int):Option (zu⊕Ba):=bif c5 (b<(c.aQ.length:Int)) then(aj c.aQ b).bind λd=>(cc L d.ai).bind λf=>(bj 48 a.aQ ([({d with ai:=f}:aS)]:List aS)).bind λe=>c6 (dd (KL ({a with aQ:=e}:aB) (c3 c4 (b+1)))) else c6 (c7 (CD a))
def va(c:aB)(b:aB)(a:Int):Option (Df⊕Ba):=bif c5 (a<(c.bp.length:Int)) then(aj c.bp a).bind λf=>(cc L f).bind λd=>(bj 24 b.bp ([d]:List (yc))).bind λe=>c6 (dd (IC ({b with bp:=e}:aB) (c3 c4 (a+1)))) else c6 (c7 (CD b))
def D6(a:aB):Option KA:=(kF L a.ao.ai).bind λf=>(kQ L a.ao.af).bind λb=>(rf L a.aN).bind λd=>(cc L a.aw).bind λl=>(L.loop (λc=>tW L a (MR b d c) (L9 c)) (KL ({a with ao:=(ak.mk f b),aN:=d,aw:=l,aQ:=([]:List aS)}:aB) 0)).bind λe=>let j:=O3 b d e;(cc L a.cn).bind λh=>(cc L a.cf).bind λk=>(L.loop (λc=>va L a (R4 b d c) (Lw c)) (IC ({j with cn:=h,cf:=k,bp:=([]:List (yc))}:aB) 0)).bind λi=>let g:=O3 b d i;c6 (MF g)
def vt(L:Lp)(f:aB)(d:Int)(a:List bC)(b:Int):Option (((List bC)×Int)⊕(List bC)):=bif c5 (b<(f.aN.length:Int)) then(aj a b).bind λ_=>(a[b.toNat]?).bind λc=>(bif c5 (c.akw=d) then(aj a b).bind λ_=>(a[b.toNat]?).bind λ_=>c6 (a.set (b.toNat) (bC.mk c.abG (-1) 0)) else c6 a).bind λe=>c6 (dd (e,c3 c4 (b+1))) else c6 (c7 a)
def wO(c:aB)(b:Int):Option (aB×Int):=(pV L c).bind λf=>bif (!f) then c6 (c,6) else((cp L b 0 (c3 c4 ((c.ao.af.length:Int) -1))).bind λj=>bif (!j) then c6 true else(aj c.ao.af b).bind λk=>c6 k.eN:Option Bool).bind λi=>bif i then c6 (c,4) else(D6 L c).bind λe=>let a:=VD e;(aj a.ao.af b).bind λ_=>(a.ao.af[b.toNat]?).bind λh=>(L.loop (λd=>vt L a b d.1 d.2) (a.aN,0)).bind λg=>c6 (({a with ao:=(ak.mk a.ao.ai (a.ao.af.set (b.toNat) ({h with eN:=true}:aZ))),aN:=g}:aB),0)
def An(e:ay)(g:ak)(i:Int)(f:aL)(c:List aM)(d:Int)(a:Int):Option (((List aM)×Int×Int)⊕(((List ay)×Int)⊕((List aM)×Int))):=bif c5 (a<(e.aH.length:Int)) then(aj e.aH a).bind λh=>(xT L g h i).bind λb=>bif c5 (b.2=6) then c6 (c7 (dd (f.aA,b.2))) else(bif c5 (d=0) then c6 b.2 else c6 d).bind λj=>(aj c a).bind λ_=>(c[a.toNat]?).bind λ_=>c6 (dd (c.set (a.toNat) b.1,j,c3 c4 (a+1))) else c6 (c7 (c7 (c,d)))
def Ka(a:aL)(n:ak)(o:Int)(g:List ay)(h:Int)(d:Int):Option (((List ay)×Int×Int)⊕(((List ay)×Int)⊕((List ay)×Int))):=bif c5 (d<(a.aA.length:Int)) then(aj a.aA d).bind λe=>(mH L e).bind λk=>((L.loop (λb=>An L e n o a b.1 b.2.1 b.2.2) (k.1,h,0)).bind λp=>dt (λj=>c6 (c7 (j.1,j.2))) (λf=>c6 (dd (k.2,f.1,f.2))) p:Option (((yc)×(List aM)×Int)⊕((List ay)×Int))).bind λm=>dt (λc=>(bj 48 g ([(ay.mk c.1 c.2.1)]:List ay)).bind λl=>c6 (dd (l,c.2.2,c3 c4 (d+1)))) (λi=>c6 (c7 (dd (i.1,i.2)))) m else c6 (c7 (c7 (g,h)))
def kW(d:ak)(a:aL)(i:Int):Option (aL×Int):=((ij L d).bind λh=>bif (!h) then c6 true else(cp L (a.aA.length:Int) 1 24).bind λf=>c6 (!f):Option Bool).bind λg=>bif g then c6 (a,6) else(L.loop (λb=>Ka L a d i b.1 b.2.1 b.2.2) (([]:List ay),0,0)).bind λj=>dt (λe=>c6 ((aL.mk e.1),e.2)) (λc=>bif c5 (c.2≠0) then c6 (a,c.2) else c6 ((aL.mk c.1),0)) j
def Kc(L:Lp)(c:bQ)(d:Int)(b:yc)(a:Int):Option (((yc)×Int)⊕(yc)):=bif c5 (a<(c.an.length:Int)) then(aj c.an a).bind λe=>(aj b a).bind λ_=>(b[a.toNat]?).bind λ_=>c6 (dd (b.set (a.toNat) (max e d),c3 c4 (a+1))) else c6 (c7 b)
def Jl(f:ak)(g:bQ)(d:Int)(h:List bI)(c:yc)(b:Int):Option (((yc)×Int)⊕(yc)):=bif c5 (b<(f.af.length:Int)) then(aj f.af b).bind λa=>((aj g.an a.an).bind λq=>bif c5 (q<=d) then(aj h b).bind λm=>(n6 L f b m false).bind λp=>c6 (c5 (0<=p)) else c6 false:Option Bool).bind λl=>(bif l then(aj c a.To).bind λ_=>(c[a.To.toNat]?).bind λ_=>c6 (c.set (a.To.toNat) d) else c6 c).bind λe=>((aj g.an a.To).bind λi=>bif c5 (i<=d) then(aj h b).bind λo=>(n6 L f b o true).bind λk=>c6 (c5 (0<=k)) else c6 false:Option Bool).bind λj=>(bif j then(aj e a.an).bind λ_=>(e[a.an.toNat]?).bind λ_=>c6 (e.set (a.an.toNat) d) else c6 e).bind λn=>c6 (dd (n,c3 c4 (b+1))) else c6 (c7 c)
def yg(c:List bI)(f:ak)(g:List bI)(e:ak)(a:bQ)(d:Int):Option ((List bI)×bQ×Int):=((pD L f g).bind λk=>bif (!k) then c6 true else(wB L f a).bind λm=>bif (!m) then c6 true else(pD L e c).bind λn=>bif (!n) then c6 true else c6 (c5 ((e.ai.length:Int)≠(f.ai.length:Int))):Option Bool).bind λh=>bif h then c6 (c,a,6) else(bif c5 (d<a.aa0) then c6 true else c6 (c5 (2147483648<d))).bind λi=>bif i then c6 (c,a,8) else(gP 8 0 (a.an.length:Int)).bind λp=>(L.loop (λb=>Kc L a d b.1 b.2) (p,0)).bind λl=>(L.loop (λb=>Jl L f a d g b.1 b.2) (l,0)).bind λo=>(rM L o e.ai e.af c).bind λj=>c6 (c,(bQ.mk d j),0)
def A8(L:Lp)(d:Int)(a:bQ)(b:Int):Option Bool:=(aj a.an d).bind λc=>c6 (c5 (c<=b))
def JS(f:Int)(e:bQ)(g:Int)(b:yc)(a:Int):Option (((yc)×Int)⊕(yc)):=bif c5 (a<f) then(A8 L a e g).bind λc=>(bif c then(bj 8 b ([a]:yc)).bind λd=>c6 d else c6 b).bind λh=>c6 (dd (h,c3 c4 (a+1))) else c6 (c7 b)
def Fc(c:Int)(b:bQ)(d:Int):Option yc:=(L.loop (λa=>JS L c b d a.1 a.2) (([]:yc),0)).bind λe=>c6 e
def w6(a:bQ)(c:Int):Option yc:=(Fc L (a.an.length:Int) a c).bind λb=>c6 b
def E7(c:Int)(b:yc):Option Bool:=(im L b c).bind λa=>c6 a
def X8(d:yc)(b:yc)(a:Int):Option (Int⊕(Int⊕Unit)):=ixL d (λc=>E7 L c b) a
def zW(c:yc)(a:yc):Option Int:=(L.loop (λb=>X8 L c a b) 0).bind λd=>dt (λe=>c6 e) (λf=>c6 (-1)) d
def EZ(c:yc)(b:yc):Option Bool:=(zW L c b).bind λa=>c6 (c5 (0<=a))
def Cj(L:Lp)(d:yc)(a:List aZ)(c:Int):Option (((List aZ)×Int)⊕(List aZ)):=bif c5 (c<(d.length:Int)) then(aj d c).bind λb=>(aj a b).bind λ_=>(a[b.toNat]?).bind λe=>c6 (dd (a.set (b.toNat) ({e with eN:=true}:aZ),c3 c4 (c+1))) else c6 (c7 a)
def T4(L:Lp)(d:yc)(a:List aZ)(c:Int):Option (((List aZ)×Int)⊕(List aZ)):=bif c5 (c<(d.length:Int)) then(aj d c).bind λb=>(aj a b).bind λ_=>(a[b.toNat]?).bind λe=>c6 (dd (a.set (b.toNat) ({e with eN:=false}:aZ),c3 c4 (c+1))) else c6 (c7 a)
def yB(b:ak)(c:yc)(d:yc):Option (ak×Int):=(ij L b).bind λm=>bif (!m) then c6 ((ak.mk ([]:List bP) ([]:List aZ)),6) else((iU L c 0 (c3 c4 ((b.af.length:Int) -1))).bind λi=>bif (!i) then c6 true else(iU L d 0 (c3 c4 ((b.af.length:Int) -1))).bind λl=>bif (!l) then c6 true else(EZ L c d).bind λh=>c6 h:Option Bool).bind λf=>bif f then c6 ((ak.mk ([]:List bP) ([]:List aZ)),4) else(kF L b.ai).bind λj=>(kQ L b.af).bind λg=>(L.loop (λa=>Cj L c a.1 a.2) (g,0)).bind λe=>(L.loop (λa=>T4 L d a.1 a.2) (e,0)).bind λk=>c6 ((ak.mk j k),0)
def EU(a:ak)(e:bE)(h:aL)(c:Int)(d:Int):Option Int:=((rP L a e).bind λk=>bif (!k) then c6 true else(p8 L a h).bind λf=>c6 (!f):Option Bool).bind λb=>bif b then c6 6 else((cp L c 0 2147483648).bind λj=>bif (!j) then c6 true else(cp L d 0 2147483648).bind λg=>c6 (!g):Option Bool).bind λi=>bif i then c6 8 else c6 0
def zt(b:ay)(a:Int)(c:Int)(e:Int):Option Bool:=(cp L a 0 (c3 c4 ((b.aH.length:Int) -1))).bind λh=>bif h then(aj b.aH a).bind λd=>bif c5 (c<(d.an.length:Int)) then(aj b.aH a).bind λg=>(aj g.an c).bind λf=>c6 (c5 (f<=e)) else c6 false else c6 false
def GA(c:List ay)(b:Int)(d:Int)(a:Int)(e:Int):Option (Int⊕(Int⊕Unit)):=ixL c (λf=>zt L f b d a) e
def Gu(d:List ay)(b:Int)(e:Int)(a:Int):Option Int:=(L.loop (λc=>GA L d b e a c) 0).bind λf=>dt (λg=>c6 g) (λh=>c6 (-1)) f
def FH(c:List ay)(b:Int)(e:Int)(a:Int):Option Bool:=(Gu L c b e a).bind λd=>c6 (c5 (0<=d))
def AZ(c:Int)(b:List ay)(e:Int)(a:Int):Option Bool:=(FH L b e c a).bind λd=>c6 d
def JI(g:Int)(f:List ay)(h:Int)(e:Int)(b:yc)(a:Int):Option (((yc)×Int)⊕(yc)):=bif c5 (a<g) then(AZ L a f h e).bind λc=>(bif c then(bj 8 b ([a]:yc)).bind λd=>c6 d else c6 b).bind λi=>c6 (dd (i,c3 c4 (a+1))) else c6 (c7 b)
def Lb(d:Int)(c:List ay)(e:Int)(b:Int):Option yc:=(L.loop (λa=>JI L d c e b a.1 a.2) (([]:yc),0)).bind λf=>c6 f
def rJ(d:aL)(b:Int)(c:Int):Option yc:=(Lb L 64 d.aA b c).bind λa=>c6 a
def CW(L:Lp)(a:Int):Option yc:=Ct 8 a
def ve(L:Lp)(d:List (yc))(a:Int)(b:Int):Option ((Int×Int)⊕Int):=bif c5 (b<(d.length:Int)) then(aj d b).bind λc=>bif c5 ((c3 c4 (a+(c.length:Int)))<0) then e0 else c6 (dd (c3 c4 (a+(c.length:Int)),c3 c4 (b+1))) else c6 (c7 a)
def xV(L:Lp)(b:List (yc))(c:yc)(a:Int):Option (((yc)×Int)⊕(yc)):=bif c5 (a<(b.length:Int)) then(aj b a).bind λe=>(bj 8 c e).bind λd=>c6 (dd (d,c3 c4 (a+1))) else c6 (c7 c)
def He(b:List (yc)):Option yc:=(L.loop (λa=>ve L b a.1 a.2) (0,0)).bind λd=>(CW L d).bind λc=>(L.loop (λa=>xV L b a.1 a.2) (c,0)).bind λe=>c6 e
def Bc(a:ak)(c:bE)(d:Int):Option Bool:=(rP L a c).bind λe=>bif e then(cp L d 0 (c3 c4 ((a.ai.length:Int) -1))).bind λb=>c6 b else c6 false
def Fx(L:Lp):Option kD:=c6 (kD.mk 2 3 4)
def nK(b:ak)(a:Int)(c:Bool):Option Int:=((ij L b).bind λf=>bif (!f) then c6 true else bif c5 (a<0) then c6 true else c6 (c5 ((b.af.length:Int)<=a)):Option Bool).bind λg=>bif g then c6 (-1) else(Fx L).bind λd=>(xu L b a c d).bind λe=>c6 e
def u5(L:Lp)(c:ak)(b:List Bool)(a:Int):Option (((List Bool)×Int)⊕(List Bool)):=bif c5 (a<(c.ai.length:Int)) then(aj c.ai a).bind λd=>(aj b a).bind λ_=>(b[a.toNat]?).bind λ_=>c6 (dd (b.set (a.toNat) d.wj,c3 c4 (a+1))) else c6 (c7 b)
def wU(L:Lp)(d:bE)(a:List Bool)(c:Int):Option (((List Bool)×Int)⊕(List Bool)):=bif c5 (c<(d.akL.length:Int)) then(aj d.akL c).bind λb=>(aj a b).bind λ_=>(a[b.toNat]?).bind λ_=>c6 (dd (a.set (b.toNat) true,c3 c4 (c+1))) else c6 (c7 a)
def wu(L:Lp)(d:bE)(a:List Bool)(b:Int):Option (((List Bool)×Int)⊕(List Bool)):=bif c5 (b<(d.dg.length:Int)) then(aj d.dg b).bind λc=>(aj a c).bind λ_=>(a[c.toNat]?).bind λ_=>c6 (dd (a.set (c.toNat) true,c3 c4 (b+1))) else c6 (c7 a)
def pS(e:ak)(j:bE)(c:List Bool)(b:List Bool)(d:cm)(a:Int):Option (pE⊕lU):=bif c5 (a<(e.af.length:Int)) then((aj e.af a).bind λf=>(im L j.dG a).bind λl=>bif l then c6 (iC d) else(nK L e a false).bind λh=>(bif c5 (0<=h) then(bj 32 d.steps ([(cS.mk a f.an f.To h)]:List cS)).bind λn=>c6 (iC (cm.mk d.n n c b)) else c6 (iC d)).bind λr=>let g:=ox c b r;(nK L e a true).bind λi=>(bif c5 (0<=i) then(bj 32 g.steps ([(cS.mk a f.To f.an i)]:List cS)).bind λm=>c6 (iC (cm.mk g.n m c b)) else c6 (iC g)).bind λo=>let k:=ox c b o;c6 (iC k):Option lU).bind λp=>let q:=ox c b p;c6 (dd (nC q (c3 c4 (a+1)))) else c6 (c7 (iC d))
def w9(b:ak)(e:bE):Option cm:=(gP 1 false (b.ai.length:Int)).bind λj=>(gP 1 false (b.ai.length:Int)).bind λi=>(L.loop (λa=>u5 L b a.1 a.2) (j,0)).bind λf=>(L.loop (λa=>wU L e a.1 a.2) (f,0)).bind λd=>(L.loop (λa=>wu L e a.1 a.2) (i,0)).bind λc=>(L.loop (λa=>pS L b e d c (wK d c a) (wo a)) (nC (cm.mk (b.ai.length:Int) ([]:List cS) d c) 0)).bind λg=>let h:=ox d c g;c6 h
def wJ(L:Lp)(b:cm)(a:cS):Option Bool:=(aj b.safe a.from_).bind λc=>bif (!c) then(aj b.bad a.b9).bind λd=>c6 (!d) else c6 false
def zX(L:Lp)(b:da)(a:da):Option Bool:=bif c5 (b.time<a.time) then c6 true else bif c5 (b.time=a.time) then c6 (c5 (b.roads<a.roads)) else c6 false
def zV(L:Lp)(d:List da)(e:cm)(b:List da)(a:Int):Option (((List da)×Int)⊕(List da)):=bif c5 (a<(d.length:Int)) then(aj e.safe a).bind λf=>(bif (!f) then(aj b a).bind λ_=>(b[a.toNat]?).bind λc=>c6 (b.set (a.toNat) (da.mk 1152921504606846976 c.roads)) else c6 b).bind λg=>c6 (dd (g,c3 c4 (a+1))) else c6 (c7 b)
def AB(c:cm)(b:List da)(f:Bool)(d:Int):Option (((List da)×Bool×Int)⊕((List da)×Bool)):=bif c5 (d<(c.steps.length:Int)) then(aj c.steps d).bind λa=>(aj b a.b9).bind λ_=>(b[a.b9.toNat]?).bind λe=>(aj b a.b9).bind λ_=>(b[a.b9.toNat]?).bind λg=>((wJ L c a).bind λj=>bif j then(aj b a.b9).bind λ_=>(b[a.b9.toNat]?).bind λl=>bif c5 (l.time<1152921504606846976) then(aj b a.from_).bind λ_=>(b[a.from_.toNat]?).bind λk=>(zX L (da.mk (c3 c4 (e.time+a.time)) (c3 c4 (g.roads+1))) k).bind λi=>c6 i else c6 false else c6 false:Option Bool).bind λm=>(bif m then(aj b a.from_).bind λ_=>(b[a.from_.toNat]?).bind λ_=>c6 (b.set (a.from_.toNat) (da.mk (c3 c4 (e.time+a.time)) (c3 c4 (g.roads+1))),true) else c6 (b,f)).bind λh=>c6 (dd (h.1,h.2,c3 c4 (d+1))) else c6 (c7 (b,f))
def Tg(e:cm)(c:List da)(d:Bool):Option (((List da)×Bool)⊕(List da)):=bif d then(L.loop (λa=>AB L e a.1 a.2.1 a.2.2) (c,false,0)).bind λb=>c6 (dd (b.1,b.2)) else c6 (c7 c)
def Bg(b:cm):Option (List da):=(gP 16 (da.mk 0 0) b.n).bind λc=>(L.loop (λa=>zV L c b a.1 a.2) (c,0)).bind λd=>(L.loop (λa=>Tg L b a.1 a.2) (d,true)).bind λe=>c6 e
def EN(a:cS)(c:Int)(g:cm)(b:List da):Option Bool:=bif c5 (a.from_=c) then(wJ L g a).bind λh=>bif h then(aj b a.b9).bind λd=>(aj b c).bind λf=>(aj b c).bind λe=>c6 ((d.time==(c3 c4 (f.time -a.time)))&&((d.roads==(c3 c4 (e.roads -1)))&&true)) else c6 false else c6 false
def Y0(c:List cS)(b:Int)(d:cm)(a:List da)(e:Int):Option (Int⊕(Int⊕Unit)):=ixL c (λf=>EN L f b d a) e
def Aj(d:List cS)(b:Int)(e:cm)(a:List da):Option Int:=(L.loop (λc=>Y0 L d b e a c) 0).bind λf=>dt (λg=>c6 g) (λh=>c6 (-1)) f
def Lo(a:cm)(h:List da)(d:yc)(e:yc)(b:Int):Option (((yc)×(yc)×Int)⊕((yc)×(yc))):=(aj a.safe b).bind λg=>bif (!g) then(Aj L a.steps b a h).bind λc=>(aj a.steps c).bind λf=>(aj a.steps c).bind λk=>(bj 8 e ([k.gX]:yc)).bind λi=>(bj 8 d ([f.b9]:yc)).bind λj=>c6 (dd (j,i,f.b9)) else c6 (c7 (d,e))
def yN(d:cm)(a:Int):Option ((yc)×(yc)×Int×Bool):=(Bg L d).bind λc=>(aj c a).bind λf=>bif c5 (1152921504606846976<=f.time) then c6 (([]:yc),([]:yc),0,false) else(L.loop (λb=>Lo L d c b.1 b.2.1 b.2.2) (([a]:yc),([]:yc),a)).bind λe=>(aj c a).bind λg=>c6 (e.2,e.1,g.time,true)
def ye(c:cS)(b:yc):Option Bool:=(im L b c.gX).bind λa=>c6 a
def aaQ(d:List cS)(b:yc)(a:Int):Option (Int⊕(Int⊕Unit)):=ixL d (λc=>ye L c b) a
def AM(c:List cS)(a:yc):Option Int:=(L.loop (λb=>aaQ L c a b) 0).bind λd=>dt (λe=>c6 e) (λf=>c6 (-1)) d
def Ww(f:yc)(a:List cS)(b:Int)(c:Int):Option (((List cS)×Int×Int)⊕((List cS)×Int)):=bif c5 (c<(a.length:Int)) then(aj a c).bind λ_=>(a[c.toNat]?).bind λd=>(ye L d f).bind λg=>(bif (!g) then(aj a b).bind λ_=>(a[b.toNat]?).bind λ_=>c6 (a.set (b.toNat) d,c3 c4 (b+1)) else c6 (a,b)).bind λe=>c6 (dd (e.1,e.2,c3 c4 (c+1))) else c6 (c7 (a,b))
def Bm(c:List cS)(e:yc):Option (List cS):=(AM L c e).bind λd=>bif c5 (d=(-1)) then c6 c else(L.loop (λb=>Ww L e b.1 b.2.1 b.2.2) (c,d,c3 c4 (d+1))).bind λa=>(eG a.1 a.2 (a.1.length:Int)).bind λ_=>(eG (iG (cS.mk 0 0 0 0) (a.2.toNat) (((a.1.length:Int)).toNat -a.2.toNat) a.1) 0 a.2).bind λf=>c6 f
def ZO(L:Lp)(c:ak)(b:List Bool)(a:Int):Option (((List Bool)×Int)⊕(List Bool)):=bif c5 (a<(c.ai.length:Int)) then(aj c.ai a).bind λd=>(aj b a).bind λ_=>(b[a.toNat]?).bind λ_=>c6 (dd (b.set (a.toNat) d.wj,c3 c4 (a+1))) else c6 (c7 b)
def VO(L:Lp)(d:bE)(a:List Bool)(c:Int):Option (((List Bool)×Int)⊕(List Bool)):=bif c5 (c<(d.akL.length:Int)) then(aj d.akL c).bind λb=>(aj a b).bind λ_=>(a[b.toNat]?).bind λ_=>c6 (dd (a.set (b.toNat) true,c3 c4 (c+1))) else c6 (c7 a)
def ahZ(L:Lp)(d:bE)(a:List Bool)(b:Int):Option (((List Bool)×Int)⊕(List Bool)):=bif c5 (b<(d.dg.length:Int)) then(aj d.dg b).bind λc=>(aj a c).bind λ_=>(a[c.toNat]?).bind λ_=>c6 (dd (a.set (c.toNat) true,c3 c4 (b+1))) else c6 (c7 a)
def aeO(e:ak)(j:bE)(c:List Bool)(b:List Bool)(d:cm)(a:Int):Option (pE⊕lU):=bif c5 (a<(e.af.length:Int)) then((aj e.af a).bind λf=>(im L j.dG a).bind λl=>bif l then c6 (iC d) else(nK L e a false).bind λh=>(bif c5 (0<=h) then(bj 32 d.steps ([(cS.mk a f.an f.To h)]:List cS)).bind λn=>c6 (iC (cm.mk d.n n c b)) else c6 (iC d)).bind λr=>let g:=ox c b r;(nK L e a true).bind λi=>(bif c5 (0<=i) then(bj 32 g.steps ([(cS.mk a f.To f.an i)]:List cS)).bind λm=>c6 (iC (cm.mk g.n m c b)) else c6 (iC g)).bind λo=>let k:=ox c b o;c6 (iC k):Option lU).bind λp=>let q:=ox c b p;c6 (dd (nC q (c3 c4 (a+1)))) else c6 (c7 (iC d))
def DM(b:ak)(e:bE):Option Il:=(gP 1 false (b.ai.length:Int)).bind λj=>(gP 1 false (b.ai.length:Int)).bind λi=>(L.loop (λa=>ZO L b a.1 a.2) (j,0)).bind λf=>(L.loop (λa=>VO L e a.1 a.2) (f,0)).bind λd=>(L.loop (λa=>ahZ L e a.1 a.2) (i,0)).bind λc=>(L.loop (λa=>aeO L b e d c (wK d c a) (wo a)) (nC (cm.mk (b.ai.length:Int) ([]:List cS) d c) 0)).bind λg=>let h:=ox d c g;c6 (JJ h)
def I9(L:Lp)(a:(yc)×(yc)×Int×Bool)(c:List Bool)(b:Int):Option (((List Bool)×Int)⊕(List Bool)):=bif c5 (b<(((a.2.1.drop ((1:Int).toNat)).take (((a.2.1.length:Int)).toNat - (1:Int).toNat)).length:Int)) then(aj ((a.2.1.drop ((1:Int).toNat)).take (((a.2.1.length:Int)).toNat - (1:Int).toNat)) b).bind λ_=>(a.2.1[((1:Int).toNat+b.toNat)]?).bind λd=>(aj c d).bind λ_=>(c[d.toNat]?).bind λ_=>c6 (dd (c.set (d.toNat) true,c3 c4 (b+1))) else c6 (c7 c)
def r7(g:ak)(e:bE)(d:Int):Option ((yc)×(yc)×ju×Bool):=(Bc L g e d).bind λi=>bif (!i) then c6 (([]:yc),([]:yc),(ju.mk 0 0),false) else(DM L g e).bind λl=>let b:=Lk l;(aj b.safe d).bind λh=>bif h then c6 (([]:yc),([]:yc),(ju.mk 0 0),true) else(yN L b d).bind λa=>bif (!a.2.2.2) then c6 (([]:yc),([]:yc),(ju.mk 0 0),false) else(eG a.2.1 1 (a.2.1.length:Int)).bind λ_=>(L.loop (λf=>I9 L a f.1 f.2) (b.bad,0)).bind λj=>(Bm L b.steps a.1).bind λk=>(yN L ({b with steps:=k,bad:=j}:cm) d).bind λc=>bif (!c.2.2.2) then c6 (([]:yc),([]:yc),(ju.mk a.2.2.1 c.2.2.1),false) else c6 (a.1,c.1,(ju.mk a.2.2.1 c.2.2.1),true)
def Kb(b:ak)(d:Int)(c:Int)(a:Int):Option ((Int×Int)⊕Int):=bif c5 (a<(b.af.length:Int)) then(aj b.af a).bind λe=>(bif c5 (e.To=d) then(nK L b a false).bind λh=>c6 (max c h) else c6 c).bind λf=>(bif c5 (e.an=d) then(nK L b a true).bind λi=>c6 (max f i) else c6 f).bind λg=>c6 (dd (g,c3 c4 (a+1))) else c6 (c7 c)
def v7(d:ak)(b:Int):Option Int:=(L.loop (λa=>Kb L d b a.1 a.2) (0,0)).bind λc=>c6 c
def r6(c:ak)(b:bE)(d:Int):Option Bool:=(r7 L c b d).bind λa=>bif a.2.2.2 then(v7 L c d).bind λe=>c6 (c5 ((c3 c4 (e+(max a.2.2.1.a0 a.2.2.1.a1)))<=b.er)) else c6 false
def w5(d:Int)(b:ak)(c:bE):Option Bool:=(r6 L b c d).bind λa=>c6 a
def aqe(b:yc)(a:ak)(c:bE)(d:Int):Option (Int⊕(Int⊕Unit)):=ixL b (λe=>w5 L e a c) d
def ER(c:yc)(a:ak)(d:bE):Option Int:=(L.loop (λb=>aqe L c a d b) 0).bind λe=>dt (λf=>c6 f) (λg=>c6 (-1)) e
def amq(f:ak)(g:bE)(a:yc)(b:Int)(c:Int):Option (((yc)×Int×Int)⊕((yc)×Int)):=bif c5 (c<(a.length:Int)) then(aj a c).bind λ_=>(a[c.toNat]?).bind λd=>(w5 L d f g).bind λh=>(bif (!h) then(aj a b).bind λ_=>(a[b.toNat]?).bind λ_=>c6 (a.set (b.toNat) d,c3 c4 (b+1)) else c6 (a,b)).bind λe=>c6 (dd (e.1,e.2,c3 c4 (c+1))) else c6 (c7 (a,b))
def zr(c:yc)(e:ak)(f:bE):Option yc:=(ER L c e f).bind λd=>bif c5 (d=(-1)) then c6 c else(L.loop (λb=>amq L e f b.1 b.2.1 b.2.2) (c,d,c3 c4 (d+1))).bind λa=>(eG a.1 a.2 (a.1.length:Int)).bind λ_=>(eG (iG 0 (a.2.toNat) (((a.1.length:Int)).toNat -a.2.toNat) a.1) 0 a.2).bind λg=>c6 g
def Kw(L:Lp)(b:Int)(e:yc)(a:yc)(d:Int)(c:Int):Option (((yc)×Int×Int)⊕((yc)×Int)):=bif c5 (c<(((a.drop (b.toNat)).take (((e.length:Int)).toNat -b.toNat)).length:Int)) then(aj ((a.drop (b.toNat)).take (((e.length:Int)).toNat -b.toNat)) c).bind λ_=>(a[(b.toNat+c.toNat)]?).bind λi=>(aj ((a.drop (b.toNat)).take (((e.length:Int)).toNat -b.toNat)) (c3 c4 (c -1))).bind λ_=>(a[(b.toNat+(c3 c4 (c -1)).toNat)]?).bind λg=>(bif c5 (i≠g) then(aj ((a.drop (b.toNat)).take (((e.length:Int)).toNat -b.toNat)) c).bind λ_=>(a[(b.toNat+c.toNat)]?).bind λh=>(aj a d).bind λ_=>(a[d.toNat]?).bind λ_=>c6 (a.set (d.toNat) h,c3 c4 (d+1)) else c6 (a,d)).bind λf=>c6 (dd (f.1,f.2,c3 c4 (c+1))) else c6 (c7 (a,d))
def If(a:yc)(b:Int):Option (Int⊕((yc)⊕Unit)):=bif c5 (b<(a.length:Int)) then(aj a b).bind λ_=>(a[b.toNat]?).bind λf=>(aj a (c3 c4 (b -1))).bind λ_=>(a[(c3 c4 (b -1)).toNat]?).bind λe=>bif c5 (f=e) then(eG a b (a.length:Int)).bind λ_=>(L.loop (λd=>Kw L b a d.1 d.2.1 d.2.2) (a,b,1)).bind λc=>(eG c.1 c.2 (c.1.length:Int)).bind λ_=>(eG (iG 0 (c.2.toNat) (((c.1.length:Int)).toNat -c.2.toNat) c.1) 0 c.2).bind λg=>c6 (c7 (dd g)) else c6 (dd (c3 c4 (b+1))) else c6 (c7 (c7 ()))
def ED(a:yc):Option yc:=bif c5 ((a.length:Int)<2) then c6 a else(L.loop (λb=>If L a b) 1).bind λc=>dt (λd=>c6 d) (λe=>c6 a) c
def zT(c:yc)(b:yc):Option yc:=(He L ([c,b]:List (yc))).bind λa=>(rl L a).bind λe=>(ED L e).bind λd=>c6 d
def Jp(f:ay)(d:aL)(c:Int)(b:yc)(a:Int):Option (((yc)×Int)⊕(yc)):=bif c5 (a<(f.aH.length:Int)) then(rJ L d a c).bind λg=>(zT L b g).bind λe=>c6 (dd (e,c3 c4 (a+1))) else c6 (c7 b)
def Bo(f:ak)(e:bE)(b:aL)(d:Int):Option yc:=(aj b.aA 0).bind λh=>(L.loop (λa=>Jp L h b d a.1 a.2) (([]:yc),0)).bind λg=>(zr L g f e).bind λc=>c6 c
def za(c:Int)(b:yc):Option Bool:=(im L b c).bind λa=>c6 a
def afe(d:yc)(b:yc)(a:Int):Option (Int⊕(Int⊕Unit)):=ixL d (λc=>za L c b) a
def zU(c:yc)(a:yc):Option Int:=(L.loop (λb=>afe L c a b) 0).bind λd=>dt (λe=>c6 e) (λf=>c6 (-1)) d
def apZ(f:yc)(a:yc)(b:Int)(c:Int):Option (((yc)×Int×Int)⊕((yc)×Int)):=bif c5 (c<(a.length:Int)) then(aj a c).bind λ_=>(a[c.toNat]?).bind λd=>(za L d f).bind λg=>(bif (!g) then(aj a b).bind λ_=>(a[b.toNat]?).bind λ_=>c6 (a.set (b.toNat) d,c3 c4 (b+1)) else c6 (a,b)).bind λe=>c6 (dd (e.1,e.2,c3 c4 (c+1))) else c6 (c7 (a,b))
def Av(c:yc)(e:yc):Option yc:=(zU L c e).bind λd=>bif c5 (d=(-1)) then c6 c else(L.loop (λb=>apZ L e b.1 b.2.1 b.2.2) (c,d,c3 c4 (d+1))).bind λa=>(eG a.1 a.2 (a.1.length:Int)).bind λ_=>(eG (iG 0 (a.2.toNat) (((a.1.length:Int)).toNat -a.2.toNat) a.1) 0 a.2).bind λf=>c6 f
def zJ(b:ak)(e:bE)(h:aL)(k:yc)(m:yc)(l:yc)(c:Int)(j:Int):Option (ak×(yc)×Int):=(yB L b k m).bind λa=>bif c5 (a.2≠0) then c6 ((ak.mk ([]:List bP) ([]:List aZ)),([]:yc),a.2) else(EU L b e h c j).bind λi=>bif c5 (i≠0) then c6 ((ak.mk ([]:List bP) ([]:List aZ)),([]:yc),i) else(kW L a.1 h c).bind λd=>bif c5 (d.2≠0) then c6 ((ak.mk ([]:List bP) ([]:List aZ)),([]:yc),d.2) else(Bo L a.1 e d.1 (c3 c4 (c+j))).bind λg=>(cc L g).bind λo=>(Av L o l).bind λf=>bif c5 (0<(f.length:Int)) then(yB L b ([]:yc) ([]:yc)).bind λn=>c6 (n.1,f,46) else c6 (a.1,g,0)
def BY(b:cd)(a:b7)(c:Int):Option (b7×Int):=(oT L b a).bind λe=>bif (!e) then c6 (a,6) else bif c5 (a.State=0) then c6 (a,10) else(zd L a c).bind λd=>bif (!d) then c6 (a,8) else(bif c5 (a.State=4) then c6 (c5 ((c3 c4 (c -a.aa0))<b.ed)) else c6 false).bind λf=>bif f then c6 (a,10) else c6 ((b7.mk 0 0 0 0),0)
def vQ(b:bA):Option (bA×Int):=(xi L b false).bind λa=>c6 (a.1,a.2)
def qu(c:bA)(b:Int):Option (bA×Int):=(qO L c b 2 1).bind λa=>c6 (a.1,a.2)
def vJ(c:bA)(b:Int):Option (bA×Int):=(qO L c b 1 0).bind λa=>c6 (a.1,a.2)
def uo(d:aE)(b:aE)(a:Int):Option (pJ⊕qc):=bif c5 (a<(d.bB.length:Int)) then(aj d.bB a).bind λc=>(cc L c.ll).bind λf=>(bj 72 b.bB ([({c with ll:=f}:dK)]:List dK)).bind λe=>c6 (dd (u16 ({b with bB:=e}:aE) (c3 c4 (a+1)))) else c6 (c7 (lR b))
def Cp(a:aE):Option FP:=(qp L a.au 0).bind λg=>(kF L a.ao.ai).bind λd=>(kQ L a.ao.af).bind λi=>(q9 L a.cI).bind λu=>(cc L a.bR.akL).bind λn=>(cc L a.bR.dg).bind λj=>(cc L a.bR.dG).bind λo=>(cc L a.bM.bT).bind λq=>(ry L a.cq).bind λk=>(ry L a.bZ).bind λf=>(cc L a.cW.dl).bind λs=>(cc L a.cW.dr).bind λe=>(pf L a.bw).bind λc=>(pf L a.bq).bind λm=>(cc L a.bz.an).bind λr=>(cc L a.aa2.af).bind λl=>(cc L a.aa2.aa2).bind λp=>(pI L a.bS).bind λv=>(L.loop (λb=>uo L a (sN b) (sE b)) (u16 (aE.mk g.1 (ak.mk d i) u (bE.mk n j o a.bR.er) (cd.mk q a.bM.dZ a.bM.ed) k f (cZ.mk s e) c (bQ.mk a.bz.aa0 r) (bA.mk l p a.aa2.Out) a.cL m v ([]:List dK)) 0)).bind λh=>let t:=tT h;c6 (OE t)
def xR(a:aR)(c:bH):Option jt:=(qp L a.aI.au c.A).bind λb=>c6 (cT (aR.mk ({a.aI with au:=b.1}:aE) a.named) b.2)
def uS(d:aE)(b:aE)(a:Int):Option (CQ⊕J9):=bif c5 (a<(d.bB.length:Int)) then(aj d.bB a).bind λc=>(cc L c.ll).bind λf=>(bj 72 b.bB ([({c with ll:=f}:dK)]:List dK)).bind λe=>c6 (dd (J3 ({b with bB:=e}:aE) (c3 c4 (a+1)))) else c6 (c7 (Mj b))
def Dr(a:aE):Option Jr:=(qp L a.au 0).bind λh=>(kF L a.ao.ai).bind λf=>(kQ L a.ao.af).bind λj=>(q9 L a.cI).bind λu=>(cc L a.bR.akL).bind λn=>(cc L a.bR.dg).bind λk=>(cc L a.bR.dG).bind λo=>(cc L a.bM.bT).bind λq=>(zp L a.cq).bind λc=>(zp L a.bZ).bind λb=>(cc L a.cW.dl).bind λs=>(cc L a.cW.dr).bind λg=>(pf L a.bw).bind λe=>(pf L a.bq).bind λm=>(cc L a.bz.an).bind λr=>(cc L a.aa2.af).bind λl=>(cc L a.aa2.aa2).bind λp=>(pI L a.bS).bind λv=>(L.loop (λd=>uS L a (Rx c b d) (Tu d)) (J3 (aE.mk h.1 (ak.mk f j) u (bE.mk n k o a.bR.er) (cd.mk q a.bM.dZ a.bM.ed) c b (cZ.mk s g) e (bQ.mk a.bz.aa0 r) (bA.mk l p a.aa2.Out) a.cL m v ([]:List dK)) 0)).bind λi=>let t:=Uh c b i;c6 (IW t)
def yV(a:aR)(b:bH):Option jt:=(yA L a.aI.aa2).bind λd=>(im L d b.B).bind λe=>bif e then c6 (cT a 47) else(B1 L a.aI.au b.A b.B b.C).bind λc=>c6 (cT (aR.mk ({a.aI with au:=c.1}:aE) a.named) c.2)
def yT(a:aR)(b:bH):Option jt:=(jO L a.aI.au b.A b.B b.C).bind λc=>bif c5 (c.2.2=0) then(aj a.aI.cq b.A).bind λ_=>(a.aI.cq[b.A.toNat]?).bind λ_=>c6 (cT (aR.mk ({a.aI with au:=c.1,cq:=a.aI.cq.set (b.A.toNat) c.2.1}:aE) a.named) c.2.2) else c6 (cT a c.2.2)
def uX(a:dS)(c:aS)(d:aR)(e:ak)(f:aL):Option qW:=(fP L d).bind λg=>(CS L e f a.Tag c.ai a.an (min a.To g)).bind λb=>c6 (La a c d b.1 b.2)
def A5(f:aR)(o:dS)(l:aS):Option vq:=(uX L o l f f.aI.ao f.aI.bw).bind λa=>let k:=F7 a;let g:=HJ a;let b:=G2 a;let q:=IB a;let m:=HV a;(bif c5 (m=0) then c6 (qI (aR.mk ({b.aI with bw:=q}:aE) b.named)) else c6 (qI b)).bind λs=>let d:=Sl b.aI.cq b.aI.bB s;(ra L d).bind λr=>bif (!r) then c6 (ol d k g) else(mT L d).bind λj=>(uX L k g d (ak.mk j.1 j.2) d.aI.bq).bind λc=>let i:=F7 c;let h:=HJ c;let e:=G2 c;let p:=IB c;let n:=HV c;bif c5 (n=0) then c6 (ol (aR.mk ({e.aI with bq:=p}:aE) e.named) i h) else c6 (ol e i h)
def zg(b:aR)(t:Int)(q:aS)(o:dC)(p:Int):Option qU:=(uQ L t q o p b.aI.ao b.aI.bw).bind λc=>let e:=Gy c;let l:=Ib c;let j:=HF c;let h:=I2 c;let w:=Ir c;let n:=JK c;(bif c5 (n=0) then c6 (qI (aR.mk ({b.aI with bw:=w}:aE) b.named)) else c6 (qI b)).bind λv=>let a:=Sl b.aI.cq b.aI.bB v;(ra L a).bind λr=>bif (!r) then c6 (nJ a e l j h) else(mT L a).bind λm=>(uQ L e l j h (ak.mk m.1 m.2) a.aI.bq).bind λd=>let k:=Gy d;let f:=Ib d;let g:=HF d;let i:=I2 d;let u:=Ir d;let s:=JK d;bif c5 (s=0) then c6 (nJ (aR.mk ({a.aI with bq:=u}:aE) a.named) k f g i) else c6 (nJ a k f g i)
def Eb(a:aR)(e:Int)(f:Int):Option rY:=(aj a.aI.au.aQ e).bind λi=>(xp L a.aI.au.aQ e f a.aI.bZ).bind λd=>(bif c5 (d.2≠0) then c6 true else c6 (c5 ((d.1.length:Int)=0))).bind λh=>bif h then c6 (mf a) else(aj d.1 (c3 c4 ((d.1.length:Int) -1))).bind λc=>(fP L a).bind λg=>bif c5 ((min c.To g)<=c.an) then c6 (mf a) else(zg L a f i c (min c.To g)).bind λb=>let j:=M2 b;let k:=OW b;let l:=N9 b;let m:=P1 b;let n:=RU b;c6 (mf j)
def sC(c:(List dS)×Int)(d:aR)(j:aS)(a:Int):Option (ug⊕rY):=bif c5 (a<(c.1.length:Int)) then((aj c.1 a).bind λi=>c6 (u31 i):Option Hx).bind λe=>let g:=anK e;(A5 L d g j).bind λb=>let h:=MU b;let k:=Me b;let f:=N4 b;c6 (dd (Cb h f (c3 c4 (a+1)))) else c6 (c7 (mf d))
def uN(c:yc)(k:aT×Int)(f:bH)(b:aR)(a:Int):Option (uy⊕rY):=bif c5 (a<(c.length:Int)) then(aj c a).bind λd=>(im L k.1.aw d).bind λe=>(bif (!e) then(Eb L b f.A d).bind λj=>let g:=Al j;c6 (mf g) else c6 (mf b)).bind λh=>let i:=Al h;c6 (dd (uZ i (c3 c4 (a+1)))) else c6 (c7 (mf b))
def wP(a:aR)(c:bH):Option qz:=(cp L c.A 0 (c3 c4 ((a.aI.cq.length:Int) -1))).bind λp=>bif (!p) then c6 (dp a 40) else(aj a.aI.au.cn c.A).bind λo=>bif c5 (o<0) then c6 (dp a 13) else(aj a.aI.cq c.A).bind λ_=>(a.aI.cq[c.A.toNat]?).bind λj=>(Ex L j).bind λh=>bif c5 (h.2≠0) then c6 (dp a h.2) else(zD L h.1).bind λe=>bif c5 (e.2≠0) then c6 (dp a e.2) else(CT L a.aI.cW e.1).bind λf=>bif c5 (f.2≠0) then c6 (dp (aR.mk ({a.aI with cW:=f.1}:aE) a.named) f.2) else(bj 48 a.aI.bZ ([e.1]:List aT)).bind λb=>(eG b (max 0 (c3 c4 ((b.length:Int) -60))) (b.length:Int)).bind λ_=>(Bl L a.aI.au.aQ e.1).bind λg=>bif c5 (g.2≠0) then c6 (dp (aR.mk ({a.aI with bZ:=(b.drop ((max 0 (c3 c4 ((b.length:Int) -60))).toNat)).take (((b.length:Int)).toNat - (max 0 (c3 c4 ((b.length:Int) -60))).toNat),cW:=f.1}:aE) a.named) g.2) else(aj a.aI.au.aQ c.A).bind λl=>(L.loop (λd=>sC L g (Q2 d) (Qd d) (R9 d)) (Cb (aR.mk ({a.aI with bZ:=(b.drop ((max 0 (c3 c4 ((b.length:Int) -60))).toNat)).take (((b.length:Int)).toNat - (max 0 (c3 c4 ((b.length:Int) -60))).toNat),cW:=f.1}:aE) a.named) l 0)).bind λk=>let i:=Al k;(aj i.aI.bw.aA 0).bind λm=>(cc L m.aw).bind λr=>(L.loop (λd=>uN L r e c (Si d) (LF d)) (uZ i 0)).bind λn=>let q:=Al n;c6 (dp q 0)
def yb(a:aR)(d:bH):Option jt:=(oX L a.aI.au d.A d.B).bind λb=>bif c5 (b.2≠0) then c6 (cT (aR.mk ({a.aI with au:=b.1}:aE) a.named) b.2) else(fP L (aR.mk ({a.aI with au:=b.1}:aE) a.named)).bind λi=>(yY L a.aI.ao a.aI.bw d.A d.B i).bind λc=>(bif c5 (c.2≠0) then c6 true else(ra L (aR.mk ({a.aI with au:=b.1,bw:=c.1}:aE) a.named)).bind λh=>c6 (!h)).bind λg=>bif g then c6 (cT (aR.mk ({a.aI with au:=b.1,bw:=c.1}:aE) a.named) c.2) else(mT L (aR.mk ({a.aI with au:=b.1,bw:=c.1}:aE) a.named)).bind λe=>(fP L (aR.mk ({a.aI with au:=b.1,bw:=c.1}:aE) a.named)).bind λj=>(yY L (ak.mk e.1 e.2) a.aI.bq d.A d.B j).bind λf=>c6 (cT (aR.mk ({a.aI with au:=b.1,bw:=c.1,bq:=f.1}:aE) a.named) f.2)
def uq(L:Lp)(c:bQ×Int)(b:yc)(a:Int):Option (((yc)×Int)⊕(yc)):=bif c5 (a<(c.1.an.length:Int)) then(aj c.1.an a).bind λd=>(aj b a).bind λ_=>(b[a.toNat]?).bind λe=>(aj b a).bind λ_=>(b[a.toNat]?).bind λ_=>c6 (dd (b.set (a.toNat) (min e d),c3 c4 (a+1))) else c6 (c7 b)
def xy(a:aR)(c:bH):Option jt:=(cp L c.A 0 (c3 c4 ((a.aI.ao.ai.length:Int) -1))).bind λm=>bif (!m) then c6 (cT a 3) else(fP L a).bind λh=>(EX L a.aI.ao a.aI.cI ([c.A]:yc) h).bind λb=>bif c5 (b.2.2≠0) then c6 (cT a b.2.2) else(bif c5 (0<(a.aI.bz.an.length:Int)) then(fP L a).bind λi=>(uk L a.aI.ao a.aI.cI a.aI.ao a.aI.cI a.aI.bz i).bind λd=>bif c5 (d.2≠0) then c6 (c7 d.2) else(L.loop (λe=>uq L d e.1 e.2) (b.1,0)).bind λk=>c6 (dd k) else c6 (dd b.1)).bind λn=>dt (λf=>(fP L (aR.mk ({a.aI with bz:=(bQ.mk b.2.1 f)}:aE) a.named)).bind λl=>(rk L a.aI.bS 1 c.A 1 l).bind λg=>c6 (cT (aR.mk ({a.aI with bz:=(bQ.mk b.2.1 f),bS:=g.1}:aE) a.named) g.2)) (λj=>c6 (cT a j)) n
def vA(a:aR)(d:bH):Option jt:=(cp L d.A 0 (c3 c4 ((a.aI.aa2.af.length:Int) -1))).bind λi=>bif (!i) then c6 (cT a 47) else(Dv L a.aI.au.aN a d).bind λj=>bif j then c6 (cT a 49) else(GQ L a.aI.aa2 d.A).bind λe=>bif c5 (e.2≠0) then c6 (cT (aR.mk ({a.aI with aa2:=e.1}:aE) a.named) e.2) else(J0 L e.1 d.A).bind λc=>bif c5 (c.2≠0) then c6 (cT (aR.mk ({a.aI with aa2:=c.1}:aE) a.named) c.2) else(zA L c.1.aa2).bind λg=>bif g then c6 (cT (aR.mk ({a.aI with aa2:=c.1}:aE) a.named) 0) else(Cu L c.1).bind λb=>bif c5 (b.2≠0) then c6 (cT (aR.mk ({a.aI with aa2:=b.1}:aE) a.named) b.2) else(fP L (aR.mk ({a.aI with aa2:=b.1}:aE) a.named)).bind λh=>(Em L a.aI.ao a.aI.bw b.1.af h).bind λf=>c6 (cT (aR.mk ({a.aI with aa2:=b.1,bq:=f.1}:aE) a.named) f.2)
def vm(a:aR)(c:bH):Option jt:=(fP L a).bind λd=>(BR L a.aI.bM a.aI.cL a.aI.aa2 a.aI.bq c.A d).bind λb=>c6 (cT (aR.mk ({a.aI with cL:=b.1}:aE) a.named) b.2)
def wR(a:aR)(c:bH):Option jt:=(fP L a).bind λd=>(AJ L a.aI.bM a.aI.cL a.aI.aa2 a.aI.bq c.A d).bind λb=>c6 (cT (aR.mk ({a.aI with cL:=b.1}:aE) a.named) b.2)
def yu(a:aR)(c:bH):Option jt:=(fP L a).bind λd=>(CM L a.aI.bM a.aI.cL a.aI.aa2 a.aI.bq d (c5 (c.B≠0))).bind λb=>c6 (cT (aR.mk ({a.aI with cL:=b.1}:aE) a.named) b.2)
def xg(b:aR)(e:Int):Option jt:=(q9 L b.aI.cI).bind λi=>(kF L b.aI.ao.ai).bind λp=>(kQ L b.aI.ao.af).bind λh=>(aj h e).bind λ_=>(h[e.toNat]?).bind λv=>((aj i e).bind λ_=>(i[e.toNat]?).bind λ_=>c6 (UN (aR.mk ({b.aI with ao:=(ak.mk p (h.set (e.toNat) ({v with eN:=true}:aZ)))}:aE) b.named) (i.set (e.toNat) (bI.mk 0 0))):Option DU).bind λj=>let a:=ao9 b.aI.cq b.aI.bZ b.aI.bB j;let l:=Yk j;(fP L a).bind λt=>(kW L a.aI.ao a.aI.bw t).bind λd=>bif c5 (d.2≠0) then c6 (cT (aR.mk ({a.aI with bw:=d.1}:aE) a.named) d.2) else(ra L (aR.mk ({a.aI with bw:=d.1}:aE) a.named)).bind λs=>(bif s then(mT L (aR.mk ({a.aI with bw:=d.1}:aE) a.named)).bind λk=>(fP L (aR.mk ({a.aI with bw:=d.1}:aE) a.named)).bind λo=>(kW L (ak.mk k.1 k.2) a.aI.bq o).bind λg=>bif c5 (g.2≠0) then c6 (c7 (iv (aR.mk ({a.aI with bw:=d.1,bq:=g.1}:aE) a.named) g.2)) else c6 (dd (fj (aR.mk ({a.aI with bw:=d.1,bq:=g.1}:aE) a.named))) else c6 (dd (fj (aR.mk ({a.aI with bw:=d.1}:aE) a.named)))).bind λr=>dt (λn=>let c:=lu b.aI.cq b.aI.bZ b.aI.bB n;bif c5 (0<(c.aI.bz.an.length:Int)) then(fP L c).bind λu=>(yg L l b.aI.ao c.aI.cI c.aI.ao c.aI.bz u).bind λf=>bif c5 (f.2.2≠0) then c6 (cT (aR.mk ({c.aI with bz:=f.2.1}:aE) c.named) f.2.2) else c6 (cT (aR.mk ({c.aI with cI:=f.1,bz:=f.2.1}:aE) c.named) 0) else c6 (cT (aR.mk ({c.aI with cI:=l}:aE) c.named) 0)) (λm=>let w:=nT b.aI.cq b.aI.bZ b.aI.bB m;let q:=nO m;c6 (cT w q)) r
def tM(a:aR)(c:bH):Option jt:=(wO L a.aI.au c.A).bind λb=>bif c5 (b.2≠0) then c6 (cT (aR.mk ({a.aI with au:=b.1}:aE) a.named) b.2) else(xg L (aR.mk ({a.aI with au:=b.1}:aE) a.named) c.A).bind λd=>let e:=fR d;let f:=fT d;c6 (cT e f)
def Qt(a:aR)(c:bH):Option jt:=(wO L a.aI.au c.A).bind λb=>bif c5 (b.2≠0) then c6 (cT (aR.mk ({a.aI with au:=b.1}:aE) a.named) b.2) else(xg L (aR.mk ({a.aI with au:=b.1}:aE) a.named) c.A).bind λd=>let e:=fR d;let f:=fT d;c6 (cT e f)
def Co(L:Lp)(c:aR)(b:yc)(a:Int):Option (((yc)×Int)⊕(yc)):=bif c5 (a<(c.aI.bS.length:Int)) then(aj c.aI.bS a).bind λd=>(bif c5 (d.abv=2) then(bj 8 b ([d.eB]:yc)).bind λf=>c6 f else c6 b).bind λe=>c6 (dd (e,c3 c4 (a+1))) else c6 (c7 b)
def tB(e:ak×(yc)×Int)(c:aR)(a:aR)(b:Int):Option (nH⊕jk):=bif c5 (b<(e.2.1.length:Int)) then(aj e.2.1 b).bind λf=>(fP L a).bind λi=>(rk L a.aI.bS 2 f 2 i).bind λd=>(bif c5 (d.2=0) then c6 (fj (aR.mk ({a.aI with bS:=d.1}:aE) a.named)) else c6 (fj a)).bind λh=>let g:=lu c.aI.cq c.aI.bZ c.aI.bB h;c6 (dd (jw g (c3 c4 (b+1)))) else c6 (c7 (fj a))
def xQ(a:aR)(d:bH):Option jt:=((cp L d.A 0 (c3 c4 ((a.aI.ao.af.length:Int) -1))).bind λh=>bif (!h) then c6 true else(aj a.aI.ao.af d.A).bind λo=>c6 o.eN:Option Bool).bind λj=>bif j then c6 (cT a 4) else(fP L a).bind λr=>(w6 L a.aI.bz (c3 c4 (r+600))).bind λi=>(L.loop (λc=>Co L a c.1 c.2) (([]:yc),0)).bind λl=>(fP L a).bind λm=>(zJ L a.aI.ao ({a.aI.bR with dg:=i}:bE) a.aI.bw ([d.A]:yc) ([]:yc) l m 600).bind λb=>(bif c5 (b.2.2=46) then(L.loop (λc=>tB L b a (tP a.aI.cq a.aI.bZ a.aI.bB c) (um c)) (jw (aR.mk a.aI b.2.1) 0)).bind λg=>let n:=lu a.aI.cq a.aI.bZ a.aI.bB g;c6 (fj n) else c6 (fj (aR.mk a.aI b.2.1))).bind λq=>let e:=lu a.aI.cq a.aI.bZ a.aI.bB q;bif c5 (b.2.2≠0) then c6 (cT e b.2.2) else(Qt L e d).bind λf=>let k:=fR f;let p:=fT f;c6 (cT k p)
def qm(t:aR)(a:aR)(b:aR)(d:Int):Option (nH⊕(jU⊕jk)):=bif c5 (d<(t.aI.aa2.aa2.length:Int)) then(aj b.aI.aa2.aa2 d).bind λq=>(bif c5 (q=2) then(qu L b.aI.aa2 d).bind λf=>bif c5 (f.2≠0) then c6 (c7 (iv (aR.mk ({b.aI with aa2:=f.1}:aE) b.named) f.2)) else c6 (dd (fj (aR.mk ({b.aI with aa2:=f.1}:aE) b.named))) else c6 (dd (fj b))).bind λr=>dt (λm=>let c:=lu a.aI.cq a.aI.bZ a.aI.bB m;(aj c.aI.aa2.aa2 d).bind λl=>(bif c5 (l=1) then(vJ L c.aI.aa2 d).bind λe=>bif c5 (e.2≠0) then c6 (c7 (iv (aR.mk ({c.aI with aa2:=e.1}:aE) c.named) e.2)) else c6 (dd (fj (aR.mk ({c.aI with aa2:=e.1}:aE) c.named))) else c6 (dd (fj c))).bind λn=>dt (λi=>let k:=lu a.aI.cq a.aI.bZ a.aI.bB i;c6 (dd (jw k (c3 c4 (d+1))))) (λg=>let p:=nT a.aI.cq a.aI.bZ a.aI.bB g;let s:=nO g;c6 (c7 (dd (iv p s)))) n) (λh=>let j:=nT a.aI.cq a.aI.bZ a.aI.bB h;let o:=nO h;c6 (c7 (dd (iv j o)))) r else c6 (c7 (c7 (fj b)))
def xE(a:aR)(y:bH):Option jt:=(yA L a.aI.aa2).bind λs=>bif c5 ((s.length:Int)=0) then c6 (cT a 10) else(bif c5 (a.aI.cL.State≠0) then(fP L a).bind λk=>(BY L a.aI.bM a.aI.cL k).bind λd=>bif c5 (d.2≠0) then c6 (c7 (iv (aR.mk ({a.aI with cL:=d.1}:aE) a.named) d.2)) else c6 (dd (fj (aR.mk ({a.aI with cL:=d.1}:aE) a.named))) else c6 (dd (fj a))).bind λx=>dt (λn=>let b:=lu a.aI.cq a.aI.bZ a.aI.bB n;(bif b.aI.aa2.Out then(vQ L b.aI.aa2).bind λc=>bif c5 (c.2≠0) then c6 (c7 (iv (aR.mk ({b.aI with aa2:=c.1}:aE) b.named) c.2)) else c6 (dd (fj (aR.mk ({b.aI with aa2:=c.1}:aE) b.named))) else c6 (dd (fj b))).bind λv=>dt (λm=>let h:=lu a.aI.cq a.aI.bZ a.aI.bB m;(L.loop (λg=>qm L h a (tP a.aI.cq a.aI.bZ a.aI.bB g) (um g)) (jw h 0)).bind λu=>dt (λi=>let o:=nT a.aI.cq a.aI.bZ a.aI.bB i;let t:=nO i;c6 (cT o t)) (λr=>let j:=lu a.aI.cq a.aI.bZ a.aI.bB r;c6 (cT (aR.mk ({j.aI with bq:=(aL.mk ([]:List ay))}:aE) j.named) 0)) u) (λe=>let l:=nT a.aI.cq a.aI.bZ a.aI.bB e;let w:=nO e;c6 (cT l w)) v) (λf=>let q:=nT a.aI.cq a.aI.bZ a.aI.bB f;let p:=nO f;c6 (cT q p)) x
def w7(d:aE)(a:bH):Option (aE×Int):=bif c5 (200<=(d.bB.length:Int)) then c6 (d,2) else(zj L d).bind λP=>bif (!P) then c6 (d,6) else(Dr L d).bind λy=>let b:=SD y;(Ml L a.abv).bind λv=>(bif (!v.isNone) then(v.bind λc=>bif dT c 103 then(xR L (aR.mk b ([]:yc)) a).bind λp=>let O:=fR p;let H:=fT p;c6 (dp O H) else bif dT c 104 then(yV L (aR.mk b ([]:yc)) a).bind λk=>let Y:=fR k;let ad:=fT k;c6 (dp Y ad) else bif dT c 105 then(yT L (aR.mk b ([]:yc)) a).bind λq=>let K:=fR q;let B:=fT q;c6 (dp K B) else bif dT c 106 then(wP L (aR.mk b ([]:yc)) a).bind λo=>let W:=iS o;let Q:=iJ o;c6 (dp W Q) else bif dT c 107 then(yb L (aR.mk b ([]:yc)) a).bind λw=>let X:=fR w;let E:=fT w;c6 (dp X E) else bif dT c 108 then(xy L (aR.mk b ([]:yc)) a).bind λi=>let af:=fR i;let z:=fT i;c6 (dp af z) else bif dT c 109 then(vA L (aR.mk b ([]:yc)) a).bind λh=>let S:=fR h;let Z:=fT h;c6 (dp S Z) else bif dT c 110 then(vm L (aR.mk b ([]:yc)) a).bind λu=>let I:=fR u;let R:=fT u;c6 (dp I R) else bif dT c 111 then(wR L (aR.mk b ([]:yc)) a).bind λj=>let ah:=fR j;let F:=fT j;c6 (dp ah F) else bif dT c 112 then(yu L (aR.mk b ([]:yc)) a).bind λt=>let A:=fR t;let aa:=fT t;c6 (dp A aa) else bif dT c 113 then(tM L (aR.mk b ([]:yc)) a).bind λm=>let T:=fR m;let ag:=fT m;c6 (dp T ag) else bif dT c 114 then(xQ L (aR.mk b ([]:yc)) a).bind λr=>let V:=fR r;let C:=fT r;c6 (dp V C) else bif dT c 115 then(xE L (aR.mk b ([]:yc)) a).bind λs=>let D:=fR s;let ab:=fT s;c6 (dp D ab) else e0:Option qz).bind λx=>let ae:=iS x;let G:=iJ x;c6 (dp ae G) else c6 (dp (aR.mk b ([]:yc)) 55)).bind λn=>let f:=iS n;let e:=iJ n;(bif c5 (e≠0) then(Cp L d).bind λac=>let g:=aiF ac;(bif c5 (e=46) then c6 (RG ({g with bS:=f.aI.bS}:aE)) else c6 (RG g)).bind λJ=>let M:=ajj g.bB J;c6 (lR M) else c6 (lR f.aI)).bind λN=>let l:=tT N;(bj 72 l.bB ([(dK.mk a d.au.aa0 e f.named)]:List dK)).bind λU=>c6 (({l with bB:=U}:aE),e)
def WT(b:List bH)(c:aE)(a:Int):Option (pJ⊕qc):=bif c5 (a<(b.length:Int)) then(aj b a).bind λe=>(w7 L c e).bind λd=>c6 (dd (u16 d.1 (c3 c4 (a+1)))) else c6 (c7 (lR c))
def Rs(d:aE)(c:List bH):Option aE:=(L.loop (λa=>WT L c (sN a) (sE a)) (u16 d 0)).bind λe=>let b:=tT e;(wc L b).bind λf=>c6 f
def Ol(L:Lp):Option (List (Option Nat)):=c6 ([(c6 121:Option Nat),(c6 123:Option Nat),(c6 124:Option Nat),(c6 125:Option Nat),(c6 127:Option Nat),(c6 128:Option Nat),(c6 129:Option Nat),(c6 130:Option Nat)]:List (Option Nat))
def Qz(c:ay)(b:aE):Option Bool:=(qG L c.aw b.au.aw).bind λa=>c6 a
def ato(d:List ay)(b:aE)(a:Int):Option (Int⊕(Int⊕Unit)):=ixL d (λc=>Qz L c b) a
def Ma(c:List ay)(a:aE):Option Int:=(L.loop (λb=>ato L c a b) 0).bind λd=>dt (λe=>c6 e) (λf=>c6 (-1)) d
def Th(c:List ay)(b:aE):Option Bool:=(Ma L c b).bind λa=>c6 (c5 (0<=a))
def aes(b:aE)(c:aL)(a:Int):Option (Int⊕(Unit⊕Unit)):=bif c5 (a<(b.au.aN.length:Int)) then(aj b.au.aN a).bind λe=>(rJ L c a b.au.aa0).bind λd=>(im L d e.abG).bind λf=>bif (!f) then c6 (c7 (dd ())) else c6 (dd (c3 c4 (a+1))) else c6 (c7 (c7 ()))
def GK(b:aE)(a:aL):Option Bool:=(L.loop (λc=>aes L b a c) 0).bind λd=>dt (λf=>c6 false) (λg=>(Th L a.aA b).bind λe=>c6 e) d
def LL(a:aE):Option Bool:=(GK L a a.bw).bind λb=>c6 b
def PU(a:aE):Option Bool:=bif c5 ((a.bq.aA.length:Int)=0) then c6 true else(GK L a a.bq).bind λb=>c6 b
def OJ(d:Int)(a:aE):Option Bool:=(aj a.au.aN d).bind λb=>(im L a.bM.bT b.abG).bind λc=>c6 c
def al1(f:Int)(e:aE)(b:yc)(a:Int):Option (((yc)×Int)⊕(yc)):=bif c5 (a<f) then(OJ L a e).bind λc=>(bif c then(bj 8 b ([a]:yc)).bind λd=>c6 d else c6 b).bind λg=>c6 (dd (g,c3 c4 (a+1))) else c6 (c7 b)
def QU(d:Int)(c:aE):Option yc:=(L.loop (λa=>al1 L d c a.1 a.2) (([]:yc),0)).bind λb=>c6 b
def FN(a:aE):Option yc:=(QU L (a.au.aN.length:Int) a).bind λb=>c6 b
def QK(a:aE):Option Bool:=(bif c5 (a.cL.State≠3) then bif c5 (a.cL.State≠4) then c6 true else c6 (c5 (a.cL.aa0≠a.au.aa0)) else c6 (c5 (a.cL.aa0≠a.au.aa0))).bind λd=>bif d then c6 true else(FN L a).bind λc=>bif c5 ((c.length:Int)=0) then(wA L a.bq a.bM.bT).bind λb=>c6 b else c6 false
def Oy(a:bC)(c:aE):Option Bool:=bif c5 (0<=a.akw) then(im L c.aa2.af a.akw).bind λb=>c6 b else c6 false
def Z1(d:List bC)(b:aE)(a:Int):Option (Int⊕(Int⊕Unit)):=ixL d (λc=>Oy L c b) a
def Na(c:List bC)(a:aE):Option Int:=(L.loop (λb=>Z1 L c a b) 0).bind λd=>dt (λe=>c6 e) (λf=>c6 (-1)) d
def Rp(c:List bC)(b:aE):Option Bool:=(Na L c b).bind λa=>c6 (c5 (0<=a))
def Nd(a:aE):Option Bool:=(Rp L a.au.aN a).bind λb=>c6 b
def Rh(a:aE):Option Bool:=bif (!a.aa2.Out) then c6 true else(Nd L a).bind λb=>c6 (!b)
def uh(c:Int)(b:yc):Option Bool:=(im L b c).bind λa=>c6 a
def Jj(d:yc)(b:yc)(a:Int):Option (Int⊕(Int⊕Unit)):=ixL d (λc=>uh L c b) a
def Jg(c:yc)(a:yc):Option Int:=(L.loop (λb=>Jj L c a b) 0).bind λd=>dt (λe=>c6 e) (λf=>c6 (-1)) d
def CG(c:yc)(b:yc):Option Bool:=(Jg L c b).bind λa=>c6 (c5 (0<=a))
def zq(c:Int)(b:yc):Option Bool:=(uh L c b).bind λa=>c6 (!a)
def Ih(d:yc)(b:yc)(a:Int):Option (Int⊕(Int⊕Unit)):=ixL d (λc=>zq L c b) a
def FW(c:yc)(a:yc):Option Int:=(L.loop (λb=>Ih L c a b) 0).bind λd=>dt (λe=>c6 e) (λf=>c6 (-1)) d
def zo(c:yc)(b:yc):Option Bool:=(FW L c b).bind λa=>c6 (c5 (0<=a))
def Cx(c:ay)(b:Int)(d:yc)(f:Int):Option (Bool×Bool):=bif c5 ((c.aH.length:Int)<=b) then c6 (false,false) else(aj c.aH b).bind λh=>(su L h f).bind λe=>(CG L e d).bind λa=>bif a then(zo L e d).bind λg=>c6 ((!g),a) else c6 (false,a)
def DF(d:ay)(f:yc)(h:Int)(b:Int)(c:Int)(a:Int):Option ((Int×Int×Int)⊕(Int×Int)):=bif c5 (a<(d.aH.length:Int)) then(Cx L d a f h).bind λe=>(bif e.1 then c6 (c3 c4 (b+1)) else c6 b).bind λg=>(bif e.2 then c6 (c3 c4 (c+1)) else c6 c).bind λi=>c6 (dd (g,i,c3 c4 (a+1))) else c6 (c7 (b,c))
def Fa(e:aL)(g:yc)(i:Int)(c:bI)(a:Int):Option ((Int×Int×Int)⊕(Int×Int)):=bif c5 (a<(e.aA.length:Int)) then(aj e.aA a).bind λh=>(L.loop (λd=>DF L h g i d.1 d.2.1 d.2.2) (0,0,0)).bind λb=>(bif c5 (a=0) then c6 (b.1,b.2) else c6 (c.eF,c.fk)).bind λf=>c6 (dd (min f.1 b.1,max f.2 b.2,c3 c4 (a+1))) else c6 (c7 (c.eF,c.fk))
def Ew(d:aL)(c:yc)(e:Int):Option bI:=(L.loop (λa=>Fa L d c e (bI.mk a.1 a.2.1) a.2.2) (0,0,0)).bind λb=>c6 (bI.mk b.1 b.2)
def Ow(a:aE):Option Bool:=(Ew L a.bw a.bM.bT a.au.aa0).bind λb=>(FN L a).bind λc=>(cp L (c.length:Int) b.eF b.fk).bind λd=>c6 d
def Lf(L:Lp)(a:cy)(b:Int)(c:Int):Option Bool:=bif c5 (a.abv=b) then c6 (c5 (a.eB=c)) else c6 false
def ais(b:List cy)(a:Int)(c:Int)(d:Int):Option (Int⊕(Int⊕Unit)):=ixL b (λe=>Lf L e a c) d
def Qo(c:List cy)(a:Int)(d:Int):Option Int:=(L.loop (λb=>ais L c a d b) 0).bind λe=>dt (λf=>c6 f) (λg=>c6 (-1)) e
def O7(d:List cy)(b:Int)(c:Int):Option Bool:=(Qo L d b c).bind λa=>c6 (c5 (0<=a))
def KD(d:aE)(b:Int)(c:Int):Option Bool:=(O7 L d.bS b c).bind λa=>c6 a
def OU(a:dK)(c:aE):Option Bool:=bif c5 (a.Event.abv=6) then bif c5 (a.Code=0) then(KD L c 1 a.Event.A).bind λb=>c6 (!b) else c6 false else c6 false
def abX(d:List dK)(b:aE)(a:Int):Option (Int⊕(Int⊕Unit)):=ixL d (λc=>OU L c b) a
def NP(c:List dK)(a:aE):Option Int:=(L.loop (λb=>abX L c a b) 0).bind λd=>dt (λe=>c6 e) (λf=>c6 (-1)) d
def Sa(c:List dK)(b:aE):Option Bool:=(NP L c b).bind λa=>c6 (c5 (0<=a))
def NV(a:aE):Option Bool:=(Sa L a.bB a).bind λb=>c6 (!b)
def al5(d:yc)(a:aE)(b:Int):Option (Int⊕(Unit⊕Unit)):=bif c5 (b<(d.length:Int)) then(aj d b).bind λc=>((r6 L a.ao ({a.bR with dg:=([]:yc)}:bE) c).bind λg=>bif (!g) then(KD L a 2 c).bind λf=>c6 (!f) else c6 false:Option Bool).bind λe=>bif e then c6 (c7 (dd ())) else c6 (dd (c3 c4 (b+1))) else c6 (c7 (c7 ()))
def aaL(a:aE)(b:Int):Option (Int⊕(Unit⊕Unit)):=bif c5 (b<(a.au.aN.length:Int)) then(rJ L a.bw b a.au.aa0).bind λe=>(L.loop (λd=>al5 L e a d) 0).bind λc=>dt (λf=>c6 (c7 (dd ()))) (λg=>c6 (dd (c3 c4 (b+1)))) c else c6 (c7 (c7 ()))
def Nl(a:aE):Option Bool:=(bif c5 ((a.bB.length:Int)=0) then c6 true else(aj a.bB (c3 c4 ((a.bB.length:Int) -1))).bind λe=>bif c5 (e.Event.abv≠12) then c6 true else(aj a.bB (c3 c4 ((a.bB.length:Int) -1))).bind λc=>bif c5 (c.Code≠0) then c6 true else c6 (c5 (0<(a.bz.an.length:Int)))).bind λb=>bif b then c6 true else(L.loop (λd=>aaL L a d) 0).bind λf=>dt (λh=>c6 false) (λg=>c6 true) f
def Ng(a:aE):Option Bool:=(yE L a.bS).bind λc=>bif c then(oL L a.aa2).bind λb=>bif b then(oT L a.bM a.cL).bind λd=>c6 d else c6 false else c6 false
def aak(e:List (Option Nat))(b:aE)(d:yc)(c:Int):Option (((yc)×Int)⊕(yc)):=bif c5 (c<(e.length:Int)) then(aj e c).bind λh=>(h.bind λa=>bif dT a 121 then(LL L b).bind λf=>c6 (!f) else bif dT a 123 then(PU L b).bind λg=>c6 (!g) else bif dT a 124 then(QK L b).bind λn=>c6 (!n) else bif dT a 125 then(Rh L b).bind λq=>c6 (!q) else bif dT a 127 then(Ow L b).bind λo=>c6 (!o) else bif dT a 128 then(NV L b).bind λi=>c6 (!i) else bif dT a 129 then(Nl L b).bind λj=>c6 (!j) else bif dT a 130 then(Ng L b).bind λk=>c6 (!k) else e0:Option Bool).bind λp=>(bif p then(bj 8 d ([c3 c4 (c+1)]:yc)).bind λl=>c6 l else c6 d).bind λm=>c6 (dd (m,c3 c4 (c+1))) else c6 (c7 d)
def N8(d:aE):Option yc:=(Ol L).bind λc=>(L.loop (λa=>aak L c d a.1 a.2) (([]:yc),0)).bind λb=>c6 b
def vn:Option Bool:=(gP 16 (bI.mk 0 0) 2).bind λc=>(wX L (ak.mk ([(bP.mk 0 true),(bP.mk 0 false),(bP.mk 0 false)]:List bP) ([(aZ.mk 0 1 12 1 true false (bI.mk 1 1) (bI.mk 0 0)),(aZ.mk 1 2 12 1 true false (bI.mk 1 1) (bI.mk 0 0))]:List aZ)) ([(aS.mk ([0]:yc) 10 0 0)]:List aS) ([0]:yc) ([9]:yc) c (bE.mk ([]:yc) ([]:yc) ([]:yc) 900) (cd.mk ([2]:yc) 9 9) ([1]:yc)).bind λb=>(Rs L b.1 ([(bH.mk 7 0 0 0),(bH.mk 8 1 0 0),(bH.mk 9 2 0 0),(bH.mk 2 0 1 0),(bH.mk 10 0 0 0)]:List bH)).bind λa=>bif c5 (b.2=0) then bif c5 ((a.bB.length:Int)=5) then bif c5 (a.cL.State=3) then(aj a.bB 3).bind λd=>bif c5 (d.Code=47) then bif a.aa2.Out then(N8 L a).bind λe=>c6 (c5 ((e.length:Int)=0)) else c6 false else c6 false else c6 false else c6 false else c6 false
def NC(L:Lp)(a:yc):Option yc:=c6 a
def Ie(L:Lp)(c:Int)(a:Int):Option Int:=bif c5 (a<1) then c6 0 else(nG c a).bind λb=>bif c5 (b<0) then c6 (c3 c4 (b+a)) else c6 b
def eO(a:bD)(d:Int):Option ((yc)×Int×Int):=bif c5 ((a.L.length:Int)<=a.At) then c6 (a.L,a.At,0) else(aj a.L (c3 c4 ((c3 c4 (a.At+1)) -1))).bind λb=>(Ie L b d).bind λc=>c6 (a.L,c3 c4 (a.At+1),c)
def mK(c:bD)(b:Int):Option ((yc)×Int×Bool):=(eO L c b).bind λa=>c6 (a.1,a.2.1,c5 (a.2.2=(c3 c4 (b -1))))
def gQ(d:bD)(b:yc):Option ((yc)×Int×Int):=(eO L d (b.length:Int)).bind λa=>(aj b a.2.2).bind λc=>c6 (a.1,a.2.1,c)
def Bt(i:Int)(f:bD)(b:ak)(e:Int):Option (((yc)×Int×(List bP)×(List aZ)×Int)⊕((yc)×Int×(List bP)×(List aZ))):=bif c5 (e<i) then((eO L f 4).bind λa=>bif c5 (e=0) then(bj 16 b.ai ([(bP.mk (c3 c4 ((-10)*a.2.2)) true)]:List bP)).bind λg=>c6 (a.1,a.2.1,g) else(mK L (bD.mk a.1 a.2.1) 6).bind λc=>(bj 16 b.ai ([(bP.mk (c3 c4 ((-10)*a.2.2)) c.2.2)]:List bP)).bind λh=>c6 (c.1,c.2.1,h):Option ((yc)×Int×(List bP))).bind λd=>c6 (dd (d.1,d.2.1,d.2.2,b.af,c3 c4 (e+1))) else c6 (c7 (f.L,f.At,b.ai,b.af))
def By(h:Int)(c:bD)(b:ak)(a:Int):Option (((yc)×Int×(List bP)×(List aZ)×Int)⊕((yc)×Int×(List bP)×(List aZ))):=bif c5 (a<h) then(eO L c (min a 2)).bind λe=>(gQ L (bD.mk e.1 e.2.1) ([11,59,119,4]:yc)).bind λd=>(gQ L (bD.mk d.1 d.2.1) ([9,3,19]:yc)).bind λf=>(bj 72 b.af ([(aZ.mk (c3 c4 ((c3 c4 (a -1)) -e.2.2)) a (c3 c4 (1+d.2.2)) (c3 c4 (1+f.2.2)) true false (bI.mk 1 1) (bI.mk 0 0))]:List aZ)).bind λg=>c6 (dd (f.1,f.2.1,b.ai,g,c3 c4 (a+1))) else c6 (c7 (c.L,c.At,b.ai,b.af))
def HR(k:Int)(d:bD)(a:ak)(i:Int):Option (((yc)×Int×(List bP)×(List aZ)×Int)⊕((yc)×Int×(List bP)×(List aZ))):=(bif c5 (0<i) then c6 (c5 ((a.af.length:Int)<10)) else c6 false).bind λl=>bif l then(eO L d k).bind λb=>(eO L (bD.mk b.1 b.2.1) k).bind λc=>(gQ L (bD.mk c.1 c.2.1) ([11,59,199]:yc)).bind λh=>(gQ L (bD.mk h.1 h.2.1) ([9,3]:yc)).bind λf=>(eO L (bD.mk f.1 f.2.1) 5).bind λe=>(mK L (bD.mk e.1 e.2.1) 6).bind λg=>(bif c5 (b.2.2≠c.2.2) then(bj 72 a.af ([(aZ.mk b.2.2 c.2.2 (c3 c4 (1+h.2.2)) (c3 c4 (1+f.2.2)) (c5 (0<e.2.2)) g.2.2 (bI.mk 1 1) (bI.mk 0 0))]:List aZ)).bind λm=>c6 (a.ai,m) else c6 (a.ai,a.af)).bind λj=>c6 (dd (g.1,g.2.1,j.1,j.2,c3 c4 (i -1))) else c6 (c7 (d.L,d.At,a.ai,a.af))
def zN(h:bD):Option ((yc)×Int×ak):=(eO L h 6).bind λc=>(bif c5 ((c.1.length:Int)=0) then c6 4 else c6 (c3 c4 (2+c.2.2))).bind λg=>(L.loop (λa=>Bt L g (bD.mk a.1 a.2.1) (ak.mk a.2.2.1 a.2.2.2.1) a.2.2.2.2) (c.1,c.2.1,([]:List bP),([]:List aZ),0)).bind λe=>(L.loop (λa=>By L g (bD.mk a.1 a.2.1) (ak.mk a.2.2.1 a.2.2.2.1) a.2.2.2.2) (e.1,e.2.1,e.2.2.1,e.2.2.2,1)).bind λd=>(eO L (bD.mk d.1 d.2.1) 4).bind λf=>(L.loop (λa=>HR L g (bD.mk a.1 a.2.1) (ak.mk a.2.2.1 a.2.2.2.1) a.2.2.2.2) (f.1,f.2.1,d.2.2.1,d.2.2.2,f.2.2)).bind λb=>c6 (b.1,b.2.1,(ak.mk b.2.2.1 b.2.2.2))
def HH(f:Int)(d:bD)(b:yc)(c:Int):Option (((yc)×Int×(yc)×Int)⊕((yc)×Int×(yc))):=bif c5 (c<f) then(eO L d 3).bind λa=>(bif c5 (a.2.2=0) then(bj 8 b ([c]:yc)).bind λe=>c6 e else c6 b).bind λg=>c6 (dd (a.1,a.2.1,g,c3 c4 (c+1))) else c6 (c7 (d.L,d.At,b))
def A9(c:bD)(d:Int):Option ((yc)×Int×(yc)):=(L.loop (λa=>HH L d (bD.mk a.1 a.2.1) a.2.2.1 a.2.2.2) (c.L,c.At,([]:yc),0)).bind λb=>c6 (b.1,b.2.1,b.2.2)
def R2(h:ak)(e:bD)(i:List aS)(k:Int):Option (((yc)×Int×(List aS)×Int)⊕((yc)×Int×(List aS))):=bif c5 (0<k) then(A9 L e (h.ai.length:Int)).bind λb=>(gQ L (bD.mk b.1 b.2.1) ([9,29,4]:yc)).bind λc=>(eO L (bD.mk c.1 c.2.1) 3).bind λd=>(gQ L (bD.mk d.1 d.2.1) ([0,1,5]:yc)).bind λa=>(bif c5 ((b.2.2.length:Int)=0) then(eO L (bD.mk a.1 a.2.1) (h.ai.length:Int)).bind λf=>c6 (JB (bD.mk f.1 f.2.1) (aS.mk ([f.2.2]:yc) (c3 c4 (1+c.2.2)) d.2.2 a.2.2)) else c6 (JB (bD.mk a.1 a.2.1) (aS.mk b.2.2 (c3 c4 (1+c.2.2)) d.2.2 a.2.2))).bind λj=>let g:=ajn j;let m:=aom j;(bj 48 i ([m]:List aS)).bind λl=>c6 (dd (g.L,g.At,l,c3 c4 (k -1))) else c6 (c7 (e.L,e.At,i))
def BX(e:bD)(d:ak):Option ((yc)×Int×(List aS)):=(eO L e 4).bind λc=>(L.loop (λa=>R2 L d (bD.mk a.1 a.2.1) a.2.2.1 a.2.2.2) (c.1,c.2.1,([]:List aS),c.2.2)).bind λb=>c6 (b.1,b.2.1,b.2.2)
def JQ(i:ak)(f:bD)(h:List bI)(a:Int):Option (((yc)×Int×(List bI)×Int)⊕((yc)×Int×(List bI))):=bif c5 (a<(i.af.length:Int)) then(gQ L f ([0,1000,5000,20000,(-5000),(-20000),4999,100]:yc)).bind λb=>(gQ L (bD.mk b.1 b.2.1) ([0,1,1000,6000]:yc)).bind λg=>(gQ L (bD.mk g.1 g.2.1) ([0,1,500]:yc)).bind λe=>(bj 16 h ([(bI.mk (c3 c4 (b.2.2 -g.2.2)) (c3 c4 (b.2.2+e.2.2)))]:List bI)).bind λc=>(mK L (bD.mk e.1 e.2.1) 9).bind λd=>(bif d.2.2 then(aj c a).bind λ_=>(c[a.toNat]?).bind λ_=>c6 (c.set (a.toNat) (bI.mk (-1125899906842624) 1125899906842624)) else c6 c).bind λj=>c6 (dd (d.1,d.2.1,j,c3 c4 (a+1))) else c6 (c7 (f.L,f.At,h))
def Cq(c:bD)(d:ak):Option ((yc)×Int×(List bI)):=(L.loop (λa=>JQ L d (bD.mk a.1 a.2.1) a.2.2.1 a.2.2.2) (c.L,c.At,([]:List bI),0)).bind λb=>c6 (b.1,b.2.1,b.2.2)
def xG(L:Lp)(a:bI)(b:Int)(c:Int):Option Bool:=bif c5 (b<=a.eF) then bif c5 (a.eF<=a.fk) then c6 (c5 (a.fk<=c)) else c6 false else c6 false
def IS(L:Lp)(c:ak)(a:Int):Option (Int⊕(Unit⊕Unit)):=bif c5 (a<(c.ai.length:Int)) then(aj c.ai a).bind λb=>(bif c5 (b.eU<(-10000)) then c6 true else c6 (c5 (10000<b.eU))).bind λd=>bif d then c6 (c7 (dd ())) else c6 (dd (c3 c4 (a+1))) else c6 (c7 (c7 ()))
def KX(b:ak)(c:Int):Option (Int⊕(Int⊕Unit)):=bif c5 (c<(b.af.length:Int)) then(aj b.af c).bind λa=>(bif c5 (a.an<0) then c6 true else bif c5 ((b.ai.length:Int)<=a.an) then c6 true else bif c5 (a.To<0) then c6 true else bif c5 ((b.ai.length:Int)<=a.To) then c6 true else c6 (c5 (a.an=a.To))).bind λf=>bif f then c6 (c7 (dd 4)) else(bif c5 (a.aj3<1) then c6 true else bif c5 (100000<a.aj3) then c6 true else bif c5 (a.bT<1) then c6 true else bif c5 (1000<a.bT) then c6 true else(xG L a.anC 1 262144).bind λe=>bif (!e) then c6 true else(xG L a.eI (-2199023255552) 2199023255552).bind λg=>c6 (!g)).bind λd=>bif d then c6 (c7 (dd 1)) else c6 (dd (c3 c4 (c+1))) else c6 (c7 (c7 ()))
def EI(a:ak):Option Int:=(bif c5 (64<(a.ai.length:Int)) then c6 true else c6 (c5 (128<(a.af.length:Int)))).bind λc=>bif c then c6 2 else(L.loop (λb=>IS L a b) 0).bind λf=>dt (λi=>c6 1) (λh=>(L.loop (λb=>KX L a b) 0).bind λe=>dt (λd=>c6 d) (λg=>c6 0) e) f
def Da(L:Lp)(a:aZ)(b:Bool):Option (Int×Int):=bif b then c6 (a.To,a.an) else c6 (a.an,a.To)
def Gv(a:ak)(b:Int)(m:Bool)(h:Int)(j:Int)(i:Int):Option Int:=((EI L a).bind λp=>bif c5 (p≠0) then c6 true else bif c5 (b<0) then c6 true else bif c5 ((a.af.length:Int)<=b) then c6 true else(aj a.af b).bind λl=>bif l.eN then c6 true else(aj a.af b).bind λk=>c6 (!k.jy):Option Bool).bind λq=>bif q then c6 (-1) else(aj a.af b).bind λc=>(Da L c m).bind λe=>(aj a.ai e.2).bind λd=>(aj a.ai e.1).bind λf=>(bif c5 (c.aj3<(c3 c4 (10*(c3 c4 (d.eU -f.eU))))) then c6 h else c6 i).bind λn=>(bif c5 (c.aj3<(c3 c4 ((-10)*(c3 c4 (d.eU -f.eU))))) then c6 j else c6 n).bind λg=>(ph .i64 (c3 c4 ((c3 c4 ((c3 c4 (10*c.aj3))+g)) -1)) g).bind λo=>c6 o
def wm(d:ak)(b:Int)(c:Bool):Option Int:=(Gv L d b c 6 9 12).bind λa=>c6 a
def DG(L:Lp)(b:yc)(d:Int)(a:Int):Option (Int⊕(Unit⊕Unit)):=bif c5 (a<(b.length:Int)) then(aj b a).bind λc=>bif c5 (c=d) then c6 (c7 (dd ())) else c6 (dd (c3 c4 (a+1))) else c6 (c7 (c7 ()))
def xb(c:yc)(a:Int):Option Bool:=(L.loop (λb=>DG L c a b) 0).bind λd=>dt (λf=>c6 true) (λe=>c6 false) d
def Hh(b:ak)(e:yc)(c:yc)(a:Int):Option (((yc)×Int)⊕(yc)):=bif c5 (a<(b.af.length:Int)) then(aj b.af a).bind λd=>((wm L b a false).bind λk=>bif c5 (0<=k) then c6 true else(wm L b a true).bind λi=>c6 (c5 (0<=i)):Option Bool).bind λf=>(bif (!d.eN) then bif f then(xb L e d.an).bind λg=>(xb L e d.To).bind λj=>c6 (g != j) else c6 false else c6 false).bind λh=>(bif h then(bj 8 c ([a]:yc)).bind λm=>c6 m else c6 c).bind λl=>c6 (dd (l,c3 c4 (a+1))) else c6 (c7 c)
def Dt(d:ak)(c:yc):Option yc:=(L.loop (λa=>Hh L d c a.1 a.2) (([]:yc),0)).bind λb=>c6 b
def F8(q:(yc)×Int×ak)(b:bD)(f:List bP)(k:List aZ)(n:List aS)(d:List bI)(e:yc)(g:yc)(j:yc)(l:yc)(h:yc)(i:yc)(m:yc)(c:Int):Option (((yc)×Int×(List bP)×(List aZ)×(List aS)×(List bI)×(yc)×(yc)×(yc)×(yc)×(yc)×(yc)×(yc)×Int)⊕((yc)×Int×(List bP)×(List aZ)×(List aS)×(yc)×(yc)×(List bI)×(yc)×(yc)×(yc)×(yc)×(yc))):=bif c5 (0<c) then(eO L b (q.2.2.ai.length:Int)).bind λa=>(bj 8 i ([a.2.2]:yc)).bind λp=>(bj 8 m ([c3 c4 (30 - (c3 c4 (7*c)))]:yc)).bind λo=>c6 (dd (a.1,a.2.1,f,k,n,d,e,g,j,l,h,p,o,c3 c4 (c -1))) else c6 (c7 (b.L,b.At,f,k,n,i,m,d,e,g,j,l,h))
def zy(u:bD):Option ((yc)×Int×gM):=(zN L u).bind λd=>(BX L (bD.mk d.1 d.2.1) d.2.2).bind λo=>(eO L (bD.mk o.1 o.2.1) 3).bind λr=>(L.loop (λc=>F8 L d (bD.mk c.1 c.2.1) c.2.2.1 c.2.2.2.1 c.2.2.2.2.1 c.2.2.2.2.2.1 c.2.2.2.2.2.2.1 c.2.2.2.2.2.2.2.1 c.2.2.2.2.2.2.2.2.1 c.2.2.2.2.2.2.2.2.2.1 c.2.2.2.2.2.2.2.2.2.2.1 c.2.2.2.2.2.2.2.2.2.2.2.1 c.2.2.2.2.2.2.2.2.2.2.2.2.1 c.2.2.2.2.2.2.2.2.2.2.2.2.2) (r.1,r.2.1,d.2.2.ai,d.2.2.af,o.2.2,([]:List bI),([]:yc),([]:yc),([]:yc),([]:yc),([]:yc),([]:yc),([]:yc),c3 c4 (1+r.2.2))).bind λb=>(Cq L (bD.mk b.1 b.2.1) (ak.mk b.2.2.1 b.2.2.2.1)).bind λl=>(gQ L (bD.mk l.1 l.2.1) ([600,100,2000]:yc)).bind λj=>(mK L (bD.mk j.1 j.2.1) 3).bind λg=>(bif g.2.2 then(eO L (bD.mk g.1 g.2.1) (d.2.2.ai.length:Int)).bind λm=>c6 (m.1,m.2.1,b.2.2.1,b.2.2.2.1,b.2.2.2.2.1,b.2.2.2.2.2.1,b.2.2.2.2.2.2.1,l.2.2,([m.2.2]:yc),([]:yc),([]:yc),j.2.2,b.2.2.2.2.2.2.2.2.2.2.2.1,b.2.2.2.2.2.2.2.2.2.2.2.2) else c6 (g.1,g.2.1,b.2.2.1,b.2.2.2.1,b.2.2.2.2.1,b.2.2.2.2.2.1,b.2.2.2.2.2.2.1,l.2.2,([]:yc),([]:yc),([]:yc),j.2.2,b.2.2.2.2.2.2.2.2.2.2.2.1,b.2.2.2.2.2.2.2.2.2.2.2.2)).bind λa=>(gQ L (bD.mk a.1 a.2.1) ([299,4]:yc)).bind λk=>(gQ L (bD.mk k.1 k.2.1) ([99,1799]:yc)).bind λe=>(bif c5 (2<(d.2.2.ai.length:Int)) then(mK L (bD.mk e.1 e.2.1) 3).bind λp=>c6 (p.1,p.2.1,p.2.2) else c6 (e.1,e.2.1,false)).bind λh=>(bif h.2.2 then c6 (zl (gM.mk (ak.mk a.2.2.1 a.2.2.2.1) a.2.2.2.2.1 a.2.2.2.2.2.1 a.2.2.2.2.2.2.1 a.2.2.2.2.2.2.2.1 (bE.mk a.2.2.2.2.2.2.2.2.1 a.2.2.2.2.2.2.2.2.2.1 a.2.2.2.2.2.2.2.2.2.2.1 a.2.2.2.2.2.2.2.2.2.2.2.1) (cd.mk ([c3 c4 ((d.2.2.ai.length:Int) -2),c3 c4 ((d.2.2.ai.length:Int) -1)]:yc) (c3 c4 (1+k.2.2)) (c3 c4 (1+e.2.2))) a.2.2.2.2.2.2.2.2.2.2.2.2.2)) else c6 (zl (gM.mk (ak.mk a.2.2.1 a.2.2.2.1) a.2.2.2.2.1 a.2.2.2.2.2.1 a.2.2.2.2.2.2.1 a.2.2.2.2.2.2.2.1 (bE.mk a.2.2.2.2.2.2.2.2.1 a.2.2.2.2.2.2.2.2.2.1 a.2.2.2.2.2.2.2.2.2.2.1 a.2.2.2.2.2.2.2.2.2.2.2.1) (cd.mk ([c3 c4 ((d.2.2.ai.length:Int) -1)]:yc) (c3 c4 (1+k.2.2)) (c3 c4 (1+e.2.2))) a.2.2.2.2.2.2.2.2.2.2.2.2.2))).bind λt=>let f:=Nr t;(Dt L f.ao f.bM.bT).bind λs=>(bif c5 ((s.length:Int)=0) then c6 (h.1,h.2.1,true) else(mK L (bD.mk h.1 h.2.1) 8).bind λq=>c6 (q.1,q.2.1,q.2.2)).bind λi=>bif i.2.2 then(eO L (bD.mk i.1 i.2.1) (f.ao.af.length:Int)).bind λn=>c6 (n.1,n.2.1,({f with gZ:=([n.2.2]:yc)}:gM)) else c6 (i.1,i.2.1,({f with gZ:=s}:gM))
def Cw(a:gM):Option (aE×Bool):=(wX L a.ao a.aQ a.ai a.aw a.cI a.bR a.bM a.gZ).bind λb=>c6 (b.1,c5 (b.2=0))
def Di(C:bD)(p:Int)(t:Int)(w:Int)(s:Int)(x:Int):Option ((yc)×Int×bH):=(gQ L C ([1,1,2,2,3,4,3,4,5,6,7,8,9,10,11,12,13,7]:yc)).bind λa=>(bif c5 (a.2.2=1) then(gQ L (bD.mk a.1 a.2.1) ([1,5,10,30,100,0,300]:yc)).bind λf=>c6 (rB (bD.mk f.1 f.2.1) (bH.mk a.2.2 f.2.2 0 0)) else bif c5 (a.2.2=2) then(eO L (bD.mk a.1 a.2.1) p).bind λn=>(eO L (bD.mk n.1 n.2.1) t).bind λk=>(gQ L (bD.mk k.1 k.2.1) ([0,0,5,60]:yc)).bind λl=>c6 (rB (bD.mk l.1 l.2.1) (bH.mk a.2.2 n.2.2 k.2.2 l.2.2)) else bif c5 (a.2.2=3) then(eO L (bD.mk a.1 a.2.1) s).bind λh=>(gQ L (bD.mk h.1 h.2.1) ([0,0,1,2,3]:yc)).bind λr=>(gQ L (bD.mk r.1 r.2.1) ([0,0,1,(-1),3]:yc)).bind λi=>c6 (rB (bD.mk i.1 i.2.1) (bH.mk a.2.2 h.2.2 r.2.2 i.2.2)) else bif c5 (a.2.2=4) then(eO L (bD.mk a.1 a.2.1) s).bind λg=>c6 (rB (bD.mk g.1 g.2.1) (bH.mk a.2.2 g.2.2 0 0)) else bif c5 (a.2.2=5) then(eO L (bD.mk a.1 a.2.1) p).bind λe=>(eO L (bD.mk e.1 e.2.1) p).bind λj=>c6 (rB (bD.mk j.1 j.2.1) (bH.mk a.2.2 e.2.2 j.2.2 0)) else(bif c5 (a.2.2=6) then(eO L (bD.mk a.1 a.2.1) w).bind λm=>c6 (m.1,m.2.1,a.2.2,m.2.2,0) else bif c5 (a.2.2=7) then(eO L (bD.mk a.1 a.2.1) x).bind λc=>c6 (c.1,c.2.1,a.2.2,c.2.2,0) else(bif c5 (a.2.2=8) then c6 (c5 (a.2.2=8)) else c6 (c5 (a.2.2=9))).bind λB=>bif B then(eO L (bD.mk a.1 a.2.1) 2).bind λo=>c6 (o.1,o.2.1,a.2.2,c3 c4 (1+o.2.2),0) else bif c5 (a.2.2=10) then(eO L (bD.mk a.1 a.2.1) 4).bind λq=>(ph .i64 q.2.2 3).bind λz=>c6 (q.1,q.2.1,a.2.2,0,z) else(bif c5 (a.2.2=11) then c6 (c5 (a.2.2=11)) else c6 (c5 (a.2.2=12))).bind λA=>bif A then(eO L (bD.mk a.1 a.2.1) t).bind λd=>c6 (d.1,d.2.1,a.2.2,d.2.2,0) else c6 (a.1,a.2.1,a.2.2,0,0)).bind λb=>c6 (rB (bD.mk b.1 b.2.1) (bH.mk b.2.2.1 b.2.2.2.1 b.2.2.2.2 0))).bind λv=>let u:=aba v;let y:=age v;c6 (u.L,u.At,y)
def II(L:Lp)(c:aE)(b:List bH)(a:Int):Option (((List bH)×Int)⊕(List bH)):=bif c5 (a<(c.aa2.af.length:Int)) then(bj 32 b ([(bH.mk 7 a 0 0)]:List bH)).bind λd=>c6 (dd (d,c3 c4 (a+1))) else c6 (c7 b)
def T2(a:aE)(i:bD)(e:List bH)(m:Int):Option (((yc)×Int×(List bH)×Int)⊕((yc)×Int×(List bH))):=(bif c5 (0<m) then c6 (c5 ((e.length:Int)<60)) else c6 false).bind λr=>bif r then((mK L i 12).bind λb=>bif b.2.2 then(L.loop (λl=>II L a l.1 l.2) (e,0)).bind λo=>(bj 32 o ([(bH.mk 8 1 0 0),(bH.mk 1 3 0 0),(bH.mk 9 2 0 0),(bH.mk 10 0 0 0)]:List bH)).bind λp=>c6 (b.1,b.2.1,p) else((mK L (bD.mk b.1 b.2.1) 3).bind λd=>bif d.2.2 then c6 (d.1,d.2.1,c5 (0<(a.au.aQ.length:Int))) else c6 (d.1,d.2.1,false):Option ((yc)×Int×Bool)).bind λc=>bif c.2.2 then(eO L (bD.mk c.1 c.2.1) (a.au.aQ.length:Int)).bind λf=>(gQ L (bD.mk f.1 f.2.1) ([0,0,1]:yc)).bind λk=>(gQ L (bD.mk k.1 k.2.1) ([1,5,10,20]:yc)).bind λg=>(bj 32 e ([(bH.mk 3 f.2.2 k.2.2 0),(bH.mk 4 f.2.2 0 0),(bH.mk 1 g.2.2 0 0)]:List bH)).bind λn=>c6 (g.1,g.2.1,n) else(Di L (bD.mk c.1 c.2.1) (a.au.aN.length:Int) (a.ao.af.length:Int) (a.ao.ai.length:Int) (max 1 (a.au.aQ.length:Int)) (max 1 (a.aa2.af.length:Int))).bind λj=>(bj 32 e ([j.2.2]:List bH)).bind λq=>c6 (j.1,j.2.1,q):Option ((yc)×Int×(List bH))).bind λh=>c6 (dd (h.1,h.2.1,h.2.2,c3 c4 (m -1))) else c6 (c7 (i.L,i.At,e))
def EJ(e:bD)(d:aE)(f:Int):Option ((yc)×Int×(List bH)):=(eO L e f).bind λc=>(L.loop (λa=>T2 L d (bD.mk a.1 a.2.1) a.2.2.1 a.2.2.2) (c.1,c.2.1,([]:List bH),c3 c4 (5+c.2.2))).bind λb=>c6 (b.1,b.2.1,b.2.2)
def ar6(b:List bH)(e:aE)(a:Int):Option (pJ⊕((Int×(yc))⊕Unit)):=bif c5 (a<(b.length:Int)) then(aj b a).bind λf=>(w7 L e f).bind λc=>(N8 L c.1).bind λd=>bif c5 (0<(d.length:Int)) then c6 (c7 (dd (a,d))) else c6 (dd (u16 c.1 (c3 c4 (a+1)))) else c6 (c7 (c7 ()))
def asm(d:aE)(a:List bH):Option (Int×(yc)):=(L.loop (λb=>ar6 L a (sN b) (sE b)) (u16 d 0)).bind λe=>dt (λc=>c6 (c.1,c.2)) (λf=>c6 ((a.length:Int),([]:yc))) e
def asM(L:Lp)(c:ak)(e:ak)(a:Int):Option (Int⊕(Unit⊕Unit)):=bif c5 (a<(c.ai.length:Int)) then(aj c.ai a).bind λd=>(aj e.ai a).bind λb=>bif (!((d.eU==b.eU)&&((d.wj==b.wj)&&true))) then c6 (c7 (dd ())) else c6 (dd (c3 c4 (a+1))) else c6 (c7 (c7 ()))
def asL(L:Lp)(d:ak)(e:ak)(c:Int):Option (Int⊕(Unit⊕Unit)):=bif c5 (c<(d.af.length:Int)) then(aj d.af c).bind λb=>(aj e.af c).bind λa=>bif (!((b.an==a.an)&&((b.To==a.To)&&((b.aj3==a.aj3)&&((b.bT==a.bT)&&((b.jy==a.jy)&&((b.eN==a.eN)&&(((b.anC.eF==a.anC.eF)&&((b.anC.fk==a.anC.fk)&&true))&&(((b.eI.eF==a.eI.eF)&&((b.eI.fk==a.eI.fk)&&true))&&true))))))))) then c6 (c7 (dd ())) else c6 (dd (c3 c4 (c+1))) else c6 (c7 (c7 ()))
def ar8(b:ak)(a:ak):Option Bool:=(bif c5 ((b.ai.length:Int)≠(a.ai.length:Int)) then c6 true else c6 (c5 ((b.af.length:Int)≠(a.af.length:Int)))).bind λe=>bif e then c6 false else(L.loop (λc=>asM L b a c) 0).bind λf=>dt (λg=>c6 false) (λj=>(L.loop (λc=>asL L b a c) 0).bind λd=>dt (λi=>c6 false) (λh=>c6 true) d) f
def afN(L:Lp)(b:yc)(c:yc)(a:Int):Option (Int⊕(Unit⊕Unit)):=bif c5 (a<(b.length:Int)) then(aj b a).bind λe=>(aj c a).bind λd=>bif c5 (e≠d) then c6 (c7 (dd ())) else c6 (dd (c3 c4 (a+1))) else c6 (c7 (c7 ()))
def afx(b:yc)(a:yc):Option Bool:=bif c5 ((b.length:Int)≠(a.length:Int)) then c6 false else(L.loop (λc=>afN L b a c) 0).bind λd=>dt (λf=>c6 false) (λe=>c6 true) d
def as5(L:Lp)(d:aB)(e:aB)(a:Int):Option (Int⊕(Unit⊕Unit)):=bif c5 (a<(d.aN.length:Int)) then(aj d.aN a).bind λb=>(aj e.aN a).bind λc=>bif (!((b.abG==c.abG)&&((b.akw==c.akw)&&((b.ami==c.ami)&&true)))) then c6 (c7 (dd ())) else c6 (dd (c3 c4 (a+1))) else c6 (c7 (c7 ()))
def as4(d:aB)(e:aB)(c:Int):Option (Int⊕(Unit⊕Unit)):=bif c5 (c<(d.aQ.length:Int)) then(aj d.aQ c).bind λb=>(aj e.aQ c).bind λa=>((afx L b.ai a.ai).bind λf=>bif (!f) then c6 true else bif c5 (b.dX≠a.dX) then c6 true else bif c5 (b.dY≠a.dY) then c6 true else c6 (c5 (b.cR≠a.cR)):Option Bool).bind λg=>bif g then c6 (c7 (dd ())) else c6 (dd (c3 c4 (c+1))) else c6 (c7 (c7 ()))
def asZ(b:aB)(c:aB)(a:Int):Option (Int⊕(Unit⊕Unit)):=bif c5 (a<(b.bp.length:Int)) then(aj b.bp a).bind λd=>(aj c.bp a).bind λf=>(afx L d f).bind λe=>bif (!e) then c6 (c7 (dd ())) else c6 (dd (c3 c4 (a+1))) else c6 (c7 (c7 ()))
def asj(b:aB)(a:aB):Option Bool:=((ar8 L b.ao a.ao).bind λf=>bif (!f) then c6 true else bif c5 (b.aa0≠a.aa0) then c6 true else bif c5 ((b.aN.length:Int)≠(a.aN.length:Int)) then c6 true else(afx L b.aw a.aw).bind λe=>bif (!e) then c6 true else(afx L b.cn a.cn).bind λg=>bif (!g) then c6 true else(afx L b.cf a.cf).bind λk=>bif (!k) then c6 true else bif c5 ((b.aQ.length:Int)≠(a.aQ.length:Int)) then c6 true else c6 (c5 ((b.bp.length:Int)≠(a.bp.length:Int))):Option Bool).bind λj=>bif j then c6 false else(L.loop (λc=>as5 L b a c) 0).bind λh=>dt (λn=>c6 false) (λp=>(L.loop (λc=>as4 L b a c) 0).bind λi=>dt (λl=>c6 false) (λq=>(L.loop (λc=>asZ L b a c) 0).bind λd=>dt (λm=>c6 false) (λo=>c6 true) d) i) h
def asC(L:Lp)(b:List bI)(e:List bI)(a:Int):Option (Int⊕(Unit⊕Unit)):=bif c5 (a<(b.length:Int)) then(aj b a).bind λd=>(aj e a).bind λc=>bif (!((d.eF==c.eF)&&((d.fk==c.fk)&&true))) then c6 (c7 (dd ())) else c6 (dd (c3 c4 (a+1))) else c6 (c7 (c7 ()))
def asy(b:List bI)(a:List bI):Option Bool:=bif c5 ((b.length:Int)≠(a.length:Int)) then c6 false else(L.loop (λc=>asC L b a c) 0).bind λd=>dt (λf=>c6 false) (λe=>c6 true) d
def asu(b:bE)(a:bE):Option Bool:=(afx L b.akL a.akL).bind λc=>bif c then(afx L b.dg a.dg).bind λe=>bif e then(afx L b.dG a.dG).bind λd=>bif d then c6 (c5 (b.er=a.er)) else c6 false else c6 false else c6 false
def af8(b:aT)(a:aT):Option Bool:=bif c5 (b.agX=a.agX) then bif c5 (b.aj6=a.aj6) then bif c5 (b.aa0=a.aa0) then(afx L b.aw a.aw).bind λc=>c6 c else c6 false else c6 false else c6 false
def asW(b:List aT)(e:List aT)(a:Int):Option (Int⊕(Unit⊕Unit)):=bif c5 (a<(b.length:Int)) then(aj b a).bind λd=>(aj e a).bind λf=>(af8 L d f).bind λc=>bif (!c) then c6 (c7 (dd ())) else c6 (dd (c3 c4 (a+1))) else c6 (c7 (c7 ()))
def ar9(b:List aT)(a:List aT):Option Bool:=bif c5 ((b.length:Int)≠(a.length:Int)) then c6 false else(L.loop (λd=>asW L b a d) 0).bind λc=>dt (λf=>c6 false) (λe=>c6 true) c
def asn(b:cZ)(a:cZ):Option Bool:=(afx L b.dl a.dl).bind λd=>bif d then(afx L b.dr a.dr).bind λc=>c6 c else c6 false
def asq(b:aM)(a:aM):Option Bool:=bif c5 (b.aa0=a.aa0) then(afx L b.an a.an).bind λc=>c6 c else c6 false
def as2(b:ay)(e:ay)(a:Int):Option (Int⊕(Unit⊕Unit)):=bif c5 (a<(b.aH.length:Int)) then(aj b.aH a).bind λd=>(aj e.aH a).bind λf=>(asq L d f).bind λc=>bif (!c) then c6 (c7 (dd ())) else c6 (dd (c3 c4 (a+1))) else c6 (c7 (c7 ()))
def as7(d:aL)(f:aL)(a:Int):Option (Int⊕(Unit⊕Unit)):=bif c5 (a<(d.aA.length:Int)) then(aj d.aA a).bind λb=>(aj f.aA a).bind λc=>((afx L b.aw c.aw).bind λi=>bif (!i) then c6 true else c6 (c5 ((b.aH.length:Int)≠(c.aH.length:Int))):Option Bool).bind λh=>bif h then c6 (c7 (dd ())) else(L.loop (λg=>as2 L b c g) 0).bind λe=>dt (λj=>c6 (c7 (dd ()))) (λk=>c6 (dd (c3 c4 (a+1)))) e else c6 (c7 (c7 ()))
def asb(b:aL)(a:aL):Option Bool:=bif c5 ((b.aA.length:Int)≠(a.aA.length:Int)) then c6 false else(L.loop (λc=>as7 L b a c) 0).bind λd=>dt (λe=>c6 false) (λf=>c6 true) d
def asB(b:bQ)(a:bQ):Option Bool:=bif c5 (b.aa0=a.aa0) then(afx L b.an a.an).bind λc=>c6 c else c6 false
def ast(b:bA)(a:bA):Option Bool:=(afx L b.af a.af).bind λd=>bif d then(afx L b.aa2 a.aa2).bind λc=>bif c then c6 (b.Out==a.Out) else c6 false else c6 false
def asw(L:Lp)(d:List cy)(e:List cy)(c:Int):Option (Int⊕(Unit⊕Unit)):=bif c5 (c<(d.length:Int)) then(aj d c).bind λb=>(aj e c).bind λa=>bif (!((b.abv==a.abv)&&((b.eB==a.eB)&&((b.anS==a.anS)&&((b.ku==a.ku)&&((b.l9==a.l9)&&((b.sd==a.sd)&&((b.uV==a.uV)&&((b.mZ==a.mZ)&&((b.pB==a.pB)&&true)))))))))) then c6 (c7 (dd ())) else c6 (dd (c3 c4 (c+1))) else c6 (c7 (c7 ()))
def aso(b:List cy)(a:List cy):Option Bool:=bif c5 ((b.length:Int)≠(a.length:Int)) then c6 false else(L.loop (λc=>asw L b a c) 0).bind λd=>dt (λf=>c6 false) (λe=>c6 true) d
def asi(b:List dK)(c:List dK)(a:Int):Option (Int⊕(Unit⊕Unit)):=bif c5 (a<(b.length:Int)) then((aj b a).bind λe=>(aj c a).bind λd=>bif (!((e.Event.abv==d.Event.abv)&&((e.Event.A==d.Event.A)&&((e.Event.B==d.Event.B)&&((e.Event.C==d.Event.C)&&true))))) then c6 true else(aj b a).bind λi=>(aj c a).bind λf=>bif c5 (i.aa0≠f.aa0) then c6 true else(aj b a).bind λk=>(aj c a).bind λj=>bif c5 (k.Code≠j.Code) then c6 true else(aj b a).bind λh=>(aj c a).bind λl=>(afx L h.ll l.ll).bind λg=>c6 (!g):Option Bool).bind λm=>bif m then c6 (c7 (dd ())) else c6 (dd (c3 c4 (a+1))) else c6 (c7 (c7 ()))
def asl(b:List dK)(a:List dK):Option Bool:=bif c5 ((b.length:Int)≠(a.length:Int)) then c6 false else(L.loop (λc=>asi L b a c) 0).bind λd=>dt (λe=>c6 false) (λf=>c6 true) d
def asf(b:aE)(a:aE):Option Bool:=(asj L b.au a.au).bind λo=>bif o then(ar8 L b.ao a.ao).bind λc=>bif c then(asy L b.cI a.cI).bind λk=>bif k then(asu L b.bR a.bR).bind λm=>bif m then(afx L b.bM.bT a.bM.bT).bind λj=>bif j then bif c5 (b.bM.dZ=a.bM.dZ) then bif c5 (b.bM.ed=a.bM.ed) then(ar9 L b.cq a.cq).bind λp=>bif p then(ar9 L b.bZ a.bZ).bind λd=>bif d then(asn L b.cW a.cW).bind λg=>bif g then(asb L b.bw a.bw).bind λl=>bif l then(asb L b.bq a.bq).bind λe=>bif e then(asB L b.bz a.bz).bind λh=>bif h then(ast L b.aa2 a.aa2).bind λn=>bif n then bif ((b.cL.State==a.cL.State)&&((b.cL.dD==a.cL.dD)&&((b.cL.akU==a.cL.akU)&&((b.cL.aa0==a.cL.aa0)&&true)))) then(aso L b.bS a.bS).bind λf=>bif f then(asl L b.bB a.bB).bind λi=>c6 i else c6 false else c6 false else c6 false else c6 false else c6 false else c6 false else c6 false else c6 false else c6 false else c6 false else c6 false else c6 false else c6 false else c6 false else c6 false else c6 false
def ar5(L:Lp)(b:aE)(c:List bH)(a:Int):Option (((List bH)×Int)⊕(List bH)):=bif c5 (a<(b.bB.length:Int)) then(aj b.bB a).bind λe=>(bj 32 c ([e.Event]:List bH)).bind λd=>c6 (dd (d,c3 c4 (a+1))) else c6 (c7 c)
def asr(i:yc)(r:Int):Option Bool:=(I1 L i).bind λy=>bif (!y) then(vn L).bind λw=>c6 w else(NC L i).bind λk=>(zy L (bD.mk k 0)).bind λd=>(Cw L d.2.2).bind λb=>(Cw L d.2.2).bind λf=>(bif (!b.2) then c6 true else c6 (!f.2)).bind λm=>bif m then c6 false else(EJ L (bD.mk d.1 d.2.1) b.1 30).bind λa=>(Ie L r (c3 c4 ((a.2.2.length:Int)+1))).bind λe=>(Rs L b.1 a.2.2).bind λc=>(eG a.2.2 0 e).bind λs=>(Rs L f.1 s).bind λt=>(eG a.2.2 e (a.2.2.length:Int)).bind λp=>(Rs L t p).bind λu=>(asm L b.1 a.2.2).bind λg=>((asf L c u).bind λo=>bif (!o) then c6 true else bif c5 (g.1≠(a.2.2.length:Int)) then c6 true else bif c5 ((g.2.length:Int)≠0) then c6 true else(N8 L c).bind λl=>c6 (c5 ((l.length:Int)≠0)):Option Bool).bind λj=>bif j then c6 false else(L.loop (λh=>ar5 L c h.1 h.2) (([]:List bH),0)).bind λn=>(vn L).bind λv=>bif v then(Rs L b.1 n).bind λx=>(asf L x c).bind λq=>c6 q else c6 false
end Go.X.T
namespace Go.X.T
open Go Go.Aml Go.Bml Go.X Go.Proofs
def IQ:List (List (Nat×Ty)):=[
 [(3,⟨Int,(PV.int .i64)⟩),(4,⟨Bool,PV.bool⟩),(5,⟨Int,(PV.int .u8)⟩)],
 [(22,⟨List Int,(λa=>PV.vs 1 (dk (PV.int .i64) a))⟩),(27,⟨List bP,(λa=>PV.vs 2 (dk bP.enc a))⟩),(28,⟨List aZ,(λa=>PV.vs 10 (dk aZ.enc a))⟩),(30,⟨ak,ak.enc⟩),(31,⟨List bC,(λa=>PV.vs 3 (dk bC.enc a))⟩)],
 [(32,⟨List aS,(λa=>PV.vs 4 (dk aS.enc a))⟩),(33,⟨List (List Int),(λa=>PV.vs 1 (dk (λa=>PV.vs 1 (dk (PV.int .i64) a)) a))⟩),(35,⟨aB,aB.enc⟩),(36,⟨List bI,(λa=>PV.vs 2 (dk bI.enc a))⟩),(38,⟨bE,bE.enc⟩),(40,⟨cd,cd.enc⟩),(41,⟨List aT,(λa=>PV.vs 4 (dk aT.enc a))⟩),(43,⟨cZ,cZ.enc⟩),(44,⟨List ay,(λa=>PV.vs 2 (dk ay.enc a))⟩),(46,⟨aL,aL.enc⟩)],
 [(48,⟨bQ,bQ.enc⟩),(50,⟨bA,bA.enc⟩),(52,⟨b7,b7.enc⟩),(53,⟨List cy,(λa=>PV.vs 9 (dk cy.enc a))⟩),(54,⟨List dK,(λa=>PV.vs 7 (dk dK.enc a))⟩),(56,⟨aE,aE.enc⟩),(60,⟨gM,gM.enc⟩),(62,⟨List bH,(λa=>PV.vs 4 (dk bH.enc a))⟩)],
 [(65,⟨bH,bH.enc⟩),(67,⟨Int,(PV.int .i64)⟩),(75,⟨cy,cy.enc⟩)],
 [(83,⟨dK,dK.enc⟩),(88,⟨bC,bC.enc⟩),(90,⟨bI,bI.enc⟩),(95,⟨List Int,(λa=>PV.vs 1 (dk (PV.int .u8) a))⟩)],
 [(97,⟨fa,fa.enc⟩),(101,⟨aT,aT.enc⟩),(106,⟨qe,qe.enc⟩),(107,⟨List fa,(λa=>PV.vs 3 (dk fa.enc a))⟩)],
 [(115,⟨aZ,aZ.enc⟩),(117,⟨bP,bP.enc⟩),(120,⟨aS,aS.enc⟩)],
 [(134,⟨Option Nat,asg⟩),(138,⟨List aM,(λa=>PV.vs 2 (dk aM.enc a))⟩),(140,⟨ay,ay.enc⟩),(142,⟨aM,aM.enc⟩)],
 [(144,⟨ju,ju.enc⟩),(159,⟨List (Option Nat),(λa=>PV.vs 1 (dk asg a))⟩)],
 [(161,⟨Option Nat,asg⟩),(167,⟨List cS,(λa=>PV.vs 4 (dk cS.enc a))⟩),(168,⟨List Bool,(λa=>PV.vs 1 (dk PV.bool a))⟩),(170,⟨cm,cm.enc⟩),(174,⟨cS,cS.enc⟩)],
 [(179,⟨Int,(PV.int .u64)⟩),(181,⟨Int,(PV.int .u64)⟩)],
 [],
 [(222,⟨kD,kD.enc⟩)],
 [(230,⟨pL,pL.enc⟩)],
 [(247,⟨List dS,(λa=>PV.vs 4 (dk dS.enc a))⟩),(251,⟨dS,dS.enc⟩)],
 [],
 [(272,⟨List da,(λa=>PV.vs 2 (dk da.enc a))⟩),(275,⟨da,da.enc⟩),(283,⟨kC,kC.enc⟩)],
 [],
 [(309,⟨List dC,(λa=>PV.vs 4 (dk dC.enc a))⟩),(312,⟨dC,dC.enc⟩)],
 [(333,⟨jf,jf.enc⟩)]]
def Du(a:Nat):Ty:=Br (px IQ (a/16)) a
@[reducible] def DT (a:Nat):Type:=(Du a).T
def anu:List (List (Nat×xz)):=[
 [(3,⟨1,true,0⟩),(4,⟨1,true,0⟩),(5,⟨1,true,0⟩)],
 [(22,⟨1,false,3⟩),(27,⟨1,false,117⟩),(28,⟨1,false,115⟩),(30,⟨2,false,0⟩),(31,⟨1,false,88⟩)],
 [(32,⟨1,false,120⟩),(33,⟨1,false,22⟩),(35,⟨9,false,0⟩),(36,⟨1,false,90⟩),(38,⟨4,false,0⟩),(40,⟨3,false,0⟩),(41,⟨1,false,101⟩),(43,⟨2,false,0⟩),(44,⟨1,false,140⟩),(46,⟨1,false,0⟩)],
 [(48,⟨2,false,0⟩),(50,⟨3,false,0⟩),(52,⟨4,true,0⟩),(53,⟨1,false,75⟩),(54,⟨1,false,83⟩),(56,⟨36,false,0⟩),(60,⟨14,false,0⟩),(62,⟨1,false,65⟩)],
 [(65,⟨4,true,0⟩),(67,⟨1,true,0⟩),(75,⟨9,true,0⟩)],
 [(83,⟨7,false,0⟩),(88,⟨3,true,0⟩),(90,⟨2,true,0⟩),(95,⟨1,false,5⟩)],
 [(97,⟨3,false,0⟩),(101,⟨4,false,0⟩),(106,⟨2,false,0⟩),(107,⟨1,false,97⟩)],
 [(115,⟨10,true,0⟩),(117,⟨2,true,0⟩),(120,⟨4,false,0⟩)],
 [(134,⟨1,false,0⟩),(138,⟨1,false,142⟩),(140,⟨2,false,0⟩),(142,⟨2,false,0⟩)],
 [(144,⟨2,true,0⟩),(159,⟨1,false,161⟩)],
 [(161,⟨1,false,0⟩),(167,⟨1,false,174⟩),(168,⟨1,false,4⟩),(170,⟨4,false,0⟩),(174,⟨4,true,0⟩)],
 [(179,⟨1,true,0⟩),(181,⟨1,true,0⟩)],
 [],
 [(222,⟨3,true,0⟩)],
 [(230,⟨4,false,0⟩)],
 [(247,⟨1,false,251⟩),(251,⟨4,true,0⟩)],
 [],
 [(272,⟨1,false,275⟩),(275,⟨2,true,0⟩),(283,⟨2,true,0⟩)],
 [],
 [(309,⟨1,false,312⟩),(312,⟨4,true,0⟩)],
 [(333,⟨13,false,0⟩)]]
def KF(a:Nat):xz:=Eu (px anu (a/16)) a
def YH:List (List (Σ a,Ev DT a)):=[
 [⟨3,fA DT .i64 rfl⟩,⟨4,nE DT rfl⟩,⟨5,fA DT .u8 rfl⟩],
 [⟨22,bJ DT 3 rfl⟩,⟨27,bJ DT 117 rfl⟩,⟨28,bJ DT 115 rfl⟩,⟨31,bJ DT 88 rfl⟩],
 [⟨32,bJ DT 120 rfl⟩,⟨33,lx DT 22 3 rfl rfl⟩,⟨36,bJ DT 90 rfl⟩,⟨41,bJ DT 101 rfl⟩,⟨44,bJ DT 140 rfl⟩],
 [⟨53,bJ DT 75 rfl⟩,⟨54,bJ DT 83 rfl⟩,⟨62,bJ DT 65 rfl⟩],
 [⟨67,fA DT .i64 rfl⟩],
 [⟨95,bJ DT 5 rfl⟩],
 [⟨107,bJ DT 97 rfl⟩],
 [],
 [⟨134,iR DT rfl⟩,⟨138,bJ DT 142 rfl⟩],
 [⟨159,bJ DT 161 rfl⟩],
 [⟨161,iR DT rfl⟩,⟨167,bJ DT 174 rfl⟩,⟨168,bJ DT 4 rfl⟩],
 [⟨179,fA DT .u64 rfl⟩,⟨181,fA DT .u64 rfl⟩],
 [],
 [],
 [],
 [⟨247,bJ DT 251 rfl⟩],
 [],
 [⟨272,bJ DT 275 rfl⟩],
 [],
 [⟨309,bJ DT 312 rfl⟩],
 []]
def bh(a:Nat):Ev DT a:=Jq DT (px YH (a/16)) a
def aof:bi DT [27,28]->ak:=λ(a,b)=>(ak.mk a b)
def aop:ak->bi DT [27,28]:=λa=>(a.ai,a.af)
def aow:bi DT [27,28,3,31,22,32,22,22,33]->aB:=λ(e,b,d,a,h,f,g,c,i)=>(aB.mk (ak.mk e b) d a h f g c i)
def aoG:aB->bi DT [27,28,3,31,22,32,22,22,33]:=λa=>(a.ao.ai,a.ao.af,a.aa0,a.aN,a.aw,a.aQ,a.cn,a.cf,a.bp)
def aoM:bi DT [22,22,22,3]->bE:=λ(d,b,c,a)=>(bE.mk d b c a)
def ao3:bE->bi DT [22,22,22,3]:=λa=>(a.akL,a.dg,a.dG,a.er)
def apd:bi DT [22,3,3]->cd:=λ(c,b,a)=>(cd.mk c b a)
def ape:cd->bi DT [22,3,3]:=λa=>(a.bT,a.dZ,a.ed)
def apx:bi DT [22,22]->cZ:=λ(a,b)=>(cZ.mk a b)
def apI:cZ->bi DT [22,22]:=λa=>(a.dl,a.dr)
def apL:bi DT [44]->aL:=λa=>(aL.mk a)
def apQ:aL->bi DT [44]:=λa=>a.aA
def aqd:bi DT [3,22]->bQ:=λ(a,b)=>(bQ.mk a b)
def aqm:bQ->bi DT [3,22]:=λa=>(a.aa0,a.an)
def aqs:bi DT [22,22,4]->bA:=λ(c,b,a)=>(bA.mk c b a)
def aqz:bA->bi DT [22,22,4]:=λa=>(a.af,a.aa2,a.Out)
def aqB:bi DT [3,3,3,3]->b7:=λ(d,b,c,a)=>(b7.mk d b c a)
def aqN:b7->bi DT [3,3,3,3]:=λa=>(a.State,a.dD,a.akU,a.aa0)
def aqO:bi DT [27,28,3,31,22,32,22,22,33,27,28,36,22,22,22,3,22,3,3,41,41,22,22,44,3,22,22,22,4,3,3,3,3,44,53,54]->aE:=λ(d,b,G,o,H,f,g,E,i,h,m,J,A,u,e,p,q,r,D,F,C,v,I,k,s,z,a,c,j,n,w,y,l,x,B,t)=>(aE.mk (aB.mk (ak.mk d b) G o H f g E i) (ak.mk h m) J (bE.mk A u e p) (cd.mk q r D) F C (cZ.mk v I) (aL.mk k) (bQ.mk s z) (bA.mk a c j) (b7.mk n w y l) (aL.mk x) B t)
def aqP:aE->bi DT [27,28,3,31,22,32,22,22,33,27,28,36,22,22,22,3,22,3,3,41,41,22,22,44,3,22,22,22,4,3,3,3,3,44,53,54]:=λa=>(a.au.ao.ai,a.au.ao.af,a.au.aa0,a.au.aN,a.au.aw,a.au.aQ,a.au.cn,a.au.cf,a.au.bp,a.ao.ai,a.ao.af,a.cI,a.bR.akL,a.bR.dg,a.bR.dG,a.bR.er,a.bM.bT,a.bM.dZ,a.bM.ed,a.cq,a.bZ,a.cW.dl,a.cW.dr,a.bw.aA,a.bz.aa0,a.bz.an,a.aa2.af,a.aa2.aa2,a.aa2.Out,a.cL.State,a.cL.dD,a.cL.akU,a.cL.aa0,a.bq.aA,a.bS,a.bB)
def aqR:bi DT [27,28,32,22,22,36,22,22,22,3,22,3,3,22]->gM:=λ(j,b,h,a,m,f,g,d,i,l,e,n,k,c)=>(gM.mk (ak.mk j b) h a m f (bE.mk g d i l) (cd.mk e n k) c)
def aqS:gM->bi DT [27,28,32,22,22,36,22,22,22,3,22,3,3,22]:=λa=>(a.ao.ai,a.ao.af,a.aQ,a.ai,a.aw,a.cI,a.bR.akL,a.bR.dg,a.bR.dG,a.bR.er,a.bM.bT,a.bM.dZ,a.bM.ed,a.gZ)
def aqU:bi DT [3,3,3,3]->bH:=λ(d,b,c,a)=>(bH.mk d b c a)
def aqV:bH->bi DT [3,3,3,3]:=λa=>(a.abv,a.A,a.B,a.C)
def aqW:bi DT [3,3,3,3,3,4,4,3,3]->cy:=λ(e,b,d,a,h,f,g,c,i)=>(cy.mk e b d a h f g c i)
def aqX:cy->bi DT [3,3,3,3,3,4,4,3,3]:=λa=>(a.abv,a.eB,a.anS,a.ku,a.l9,a.sd,a.uV,a.mZ,a.pB)
def aqY:bi DT [3,3,3,3,3,67,22]->dK:=λ(e,b,d,a,c,f,g)=>(dK.mk (bH.mk e b d a) c f g)
def aq0:dK->bi DT [3,3,3,3,3,67,22]:=λa=>(a.Event.abv,a.Event.A,a.Event.B,a.Event.C,a.aa0,a.Code,a.ll)
def aq1:bi DT [3,3,3]->bC:=λ(c,b,a)=>(bC.mk c b a)
def aq2:bC->bi DT [3,3,3]:=λa=>(a.abG,a.akw,a.ami)
def aq3:bi DT [3,3]->bI:=λ(a,b)=>(bI.mk a b)
def aq7:bI->bi DT [3,3]:=λa=>(a.eF,a.fk)
def aq8:bi DT [3,3,95]->fa:=λ(c,b,a)=>(fa.mk c b a)
def aq9:fa->bi DT [3,3,95]:=λa=>(a.kO,a.abv,a.Data)
def arb:bi DT [3,3,3,22]->aT:=λ(d,b,c,a)=>(aT.mk d b c a)
def ard:aT->bi DT [3,3,3,22]:=λa=>(a.agX,a.aj6,a.aa0,a.aw)
def are:bi DT [95,3]->qe:=λ(a,b)=>(qe.mk a b)
def arh:qe->bi DT [95,3]:=λa=>(a.Ho,a.Hp)
def ari:bi DT [3,3,3,3,4,4,3,3,3,3]->aZ:=λ(e,b,d,a,j,f,g,c,i,h)=>(aZ.mk e b d a j f (bI.mk g c) (bI.mk i h))
def arj:aZ->bi DT [3,3,3,3,4,4,3,3,3,3]:=λa=>(a.an,a.To,a.aj3,a.bT,a.jy,a.eN,a.anC.eF,a.anC.fk,a.eI.eF,a.eI.fk)
def ark:bi DT [3,4]->bP:=λ(a,b)=>(bP.mk a b)
def arl:bP->bi DT [3,4]:=λa=>(a.eU,a.wj)
def arn:bi DT [22,3,3,3]->aS:=λ(d,b,c,a)=>(aS.mk d b c a)
def aro:aS->bi DT [22,3,3,3]:=λa=>(a.ai,a.dX,a.dY,a.cR)
def arq:bi DT [22,138]->ay:=λ(a,b)=>(ay.mk a b)
def art:ay->bi DT [22,138]:=λa=>(a.aw,a.aH)
def aru:bi DT [3,22]->aM:=λ(a,b)=>(aM.mk a b)
def arv:aM->bi DT [3,22]:=λa=>(a.aa0,a.an)
def arw:bi DT [3,3]->ju:=λ(a,b)=>(ju.mk a b)
def arx:ju->bi DT [3,3]:=λa=>(a.a0,a.a1)
def ary:bi DT [3,167,168,168]->cm:=λ(d,b,c,a)=>(cm.mk d b c a)
def arA:cm->bi DT [3,167,168,168]:=λa=>(a.n,a.steps,a.safe,a.bad)
def arD:bi DT [3,3,3,3]->cS:=λ(d,b,c,a)=>(cS.mk d b c a)
def arF:cS->bi DT [3,3,3,3]:=λa=>(a.gX,a.from_,a.b9,a.time)
def arG:bi DT [3,3,3]->kD:=λ(c,b,a)=>(kD.mk c b a)
def arH:kD->bi DT [3,3,3]:=λa=>(a.up,a.down,a.level)
def arI:bi DT [27,28,36,22]->pL:=λ(d,b,c,a)=>(pL.mk (ak.mk d b) c a)
def arL:pL->bi DT [27,28,36,22]:=λa=>(a.m.ai,a.m.af,a.KE,a.from_)
def arN:bi DT [3,3,3,3]->dS:=λ(d,b,c,a)=>(dS.mk d b c a)
def arO:dS->bi DT [3,3,3,3]:=λa=>(a.agX,a.Tag,a.an,a.To)
def arP:bi DT [3,3]->da:=λ(a,b)=>(da.mk a b)
def arQ:da->bi DT [3,3]:=λa=>(a.time,a.roads)
def arR:bi DT [3,3]->kC:=λ(a,b)=>(kC.mk a b)
def arS:kC->bi DT [3,3]:=λa=>(a.kind,a.Dn)
def arT:bi DT [3,3,3,3]->dC:=λ(d,b,c,a)=>(dC.mk d b c a)
def arV:dC->bi DT [3,3,3,3]:=λa=>(a.agX,a.Tag,a.an,a.To)
def arW:bi DT [22,3,3,3,3,3,3,22,22,4,44,3,3]->jf:=λ(h,b,e,a,l,f,g,c,i,k,d,m,j)=>(jf.mk (cd.mk h b e) (b7.mk a l f g) (bA.mk c i k) (aL.mk d) m j)
def arX:jf->bi DT [22,3,3,3,3,3,3,22,22,4,44,3,3]:=λa=>(a.x.bT,a.x.dZ,a.x.ed,a.s.State,a.s.dD,a.s.akU,a.s.aa0,a.k.af,a.k.aa2,a.k.Out,a.b.aA,a.t,a.from_)
def Yv:List (List (Σ a,Ev DT a)):=[
 [⟨3,fA DT .i64 rfl⟩,
  ⟨4,nE DT rfl⟩,
  ⟨5,fA DT .u8 rfl⟩],
 [⟨22,bJ DT 3 rfl⟩,
  ⟨27,bJ DT 117 rfl⟩,
  ⟨28,bJ DT 115 rfl⟩,
  ⟨30,cw DT bh [27,28] aof aop rfl⟩,
  ⟨31,bJ DT 88 rfl⟩],
 [⟨32,bJ DT 120 rfl⟩,
  ⟨33,lx DT 22 3 rfl rfl⟩,
  ⟨35,cw DT bh [27,28,3,31,22,32,22,22,33] aow aoG rfl⟩,
  ⟨36,bJ DT 90 rfl⟩,
  ⟨38,cw DT bh [22,22,22,3] aoM ao3 rfl⟩,
  ⟨40,cw DT bh [22,3,3] apd ape rfl⟩,
  ⟨41,bJ DT 101 rfl⟩,
  ⟨43,cw DT bh [22,22] apx apI rfl⟩,
  ⟨44,bJ DT 140 rfl⟩,
  ⟨46,cw DT bh [44] apL apQ rfl⟩],
 [⟨48,cw DT bh [3,22] aqd aqm rfl⟩,
  ⟨50,cw DT bh [22,22,4] aqs aqz rfl⟩,
  ⟨52,cw DT bh [3,3,3,3] aqB aqN rfl⟩,
  ⟨53,bJ DT 75 rfl⟩,
  ⟨54,bJ DT 83 rfl⟩,
  ⟨56,cw DT bh [27,28,3,31,22,32,22,22,33,27,28,36,22,22,22,3,22,3,3,41,41,22,22,44,3,22,22,22,4,3,3,3,3,44,53,54] aqO aqP rfl⟩,
  ⟨60,cw DT bh [27,28,32,22,22,36,22,22,22,3,22,3,3,22] aqR aqS rfl⟩,
  ⟨62,bJ DT 65 rfl⟩],
 [⟨65,cw DT bh [3,3,3,3] aqU aqV rfl⟩,
  ⟨67,fA DT .i64 rfl⟩,
  ⟨75,cw DT bh [3,3,3,3,3,4,4,3,3] aqW aqX rfl⟩],
 [⟨83,cw DT bh [3,3,3,3,3,67,22] aqY aq0 rfl⟩,
  ⟨88,cw DT bh [3,3,3] aq1 aq2 rfl⟩,
  ⟨90,cw DT bh [3,3] aq3 aq7 rfl⟩,
  ⟨95,bJ DT 5 rfl⟩],
 [⟨97,cw DT bh [3,3,95] aq8 aq9 rfl⟩,
  ⟨101,cw DT bh [3,3,3,22] arb ard rfl⟩,
  ⟨106,cw DT bh [95,3] are arh rfl⟩,
  ⟨107,bJ DT 97 rfl⟩],
 [⟨115,cw DT bh [3,3,3,3,4,4,3,3,3,3] ari arj rfl⟩,
  ⟨117,cw DT bh [3,4] ark arl rfl⟩,
  ⟨120,cw DT bh [22,3,3,3] arn aro rfl⟩],
 [⟨134,iR DT rfl⟩,
  ⟨138,bJ DT 142 rfl⟩,
  ⟨140,cw DT bh [22,138] arq art rfl⟩,
  ⟨142,cw DT bh [3,22] aru arv rfl⟩],
 [⟨144,cw DT bh [3,3] arw arx rfl⟩,
  ⟨159,bJ DT 161 rfl⟩],
 [⟨161,iR DT rfl⟩,
  ⟨167,bJ DT 174 rfl⟩,
  ⟨168,bJ DT 4 rfl⟩,
  ⟨170,cw DT bh [3,167,168,168] ary arA rfl⟩,
  ⟨174,cw DT bh [3,3,3,3] arD arF rfl⟩],
 [⟨179,fA DT .u64 rfl⟩,
  ⟨181,fA DT .u64 rfl⟩],
 [],
 [⟨222,cw DT bh [3,3,3] arG arH rfl⟩],
 [⟨230,cw DT bh [27,28,36,22] arI arL rfl⟩],
 [⟨247,bJ DT 251 rfl⟩,
  ⟨251,cw DT bh [3,3,3,3] arN arO rfl⟩],
 [],
 [⟨272,bJ DT 275 rfl⟩,
  ⟨275,cw DT bh [3,3] arP arQ rfl⟩,
  ⟨283,cw DT bh [3,3] arR arS rfl⟩],
 [],
 [⟨309,bJ DT 312 rfl⟩,
  ⟨312,cw DT bh [3,3,3,3] arT arV rfl⟩],
 [⟨333,cw DT bh [22,3,3,3,3,3,3,22,22,4,44,3,3] arW arX rfl⟩]]
def bf(a:Nat):Ev DT a:=Jq DT (px Yv (a/16)) a
def BT:Tb:=⟨Du,λa=>(bf a).tv,λa=>(bf a).up,λa=>(KF a).sz,λa=>(KF a).fl,λa=>(KF a).el⟩
def eX:Nat->List Nat->List (Nat×CP)
 |_,[]=>[]
 |i,b::a=>(i,.v b)::eX (i+1) a
def cV(f:Nat)(a b:List Nat)(c:bi BT.D (bY.bX ⟨[],eX 0 a⟩)->Option (bi BT.D (bY.bX ⟨[],eX 0 b⟩))):aq BT:=⟨f,len a,0,⟨[],eX 0 a⟩,⟨[],eX 0 b⟩,c⟩
def alh:List Nat->List CP
 |[]=>[]
 |b::a=>.v b::alh a
def abx:List CP->List (Nat×CP)->List CP
 |a,[]=>a
 |a,(i,b)::c=>abx (me a i b) c
def adU:List CP:=alh [27,28,3,31,22,32,22,22,33,27,28,36,22,22,22,3,22,3,3,41,41,22,22,44,3,22,22,22,4,3,3,3,3,44,53,54,22]
def amj:List CP:=alh [27,28,3,31,22,32,22,22,33]
def amv:List CP:=alh [27,28,3,31,22,32,22,22,33,27,28,36,22,22,22,3,22,3,3,41,41,22,22,44,3,22,22,22,4,3,3,3,3,44,53,54]
end Go.X.T
namespace Go.X.T
open Go Go.Aml Go.Bml Go.X Go.Proofs
variable (L:Lp)
def C0:aq BT:=cV 8 [22] [4] λa=>I1 L a
def C1:aq BT:=cV 223 [90,3,3] [4] λa=>yQ L a.1 a.2.1 a.2.2
def C2:aq BT:=cV 156 [30] [67] λa=>zG L a
def C3:aq BT:=cV 93 [30] [4] λa=>ij L a
def C4:aq BT:=cV 135 [22,3,3] [4] λa=>iU L a.1 a.2.1 a.2.2
def C5:aq BT:=cV 51 [3,3,3] [4] λa=>cp L a.1 a.2.1 a.2.2
def C6:aq BT:=⟨207,2,0,⟨[],[(0,.v 120),(1,.q [.v 27,.v 28])]⟩,⟨[],[(0,.v 4)]⟩,λa=>wN L a.1 (ak.mk a.2.1 a.2.2)⟩
def C7:aq BT:=⟨267,2,0,⟨[],[(0,.v 32),(1,.f 207 [] [.q [.v 27,.v 28]])]⟩,⟨[],[(0,.v 3)]⟩,λa=>Fh L a.1 (ak.mk a.2.1 a.2.2)⟩
def C8:aq BT:=⟨208,2,0,⟨[],[(0,.v 32),(1,.f 207 [] [.q [.v 27,.v 28]])]⟩,⟨[],[(0,.v 4)]⟩,λa=>El L a.1 (ak.mk a.2.1 a.2.2)⟩
def C9:aq BT:=cV 140 [30,32] [4] λa=>wI L a.1 a.2
def C10:aq BT:=⟨141,2,0,⟨[],[(0,.v 3),(1,.q [.v 27,.v 28])]⟩,⟨[],[(0,.v 4)]⟩,λa=>Ci L a.1 (ak.mk a.2.1 a.2.2)⟩
def Ye:aq BT:=⟨147,2,0,⟨[],[(0,.v 22),(1,.f 141 [] [.q [.v 27,.v 28]])]⟩,⟨[],[(0,.v 3)]⟩,λa=>KC L a.1 (ak.mk a.2.1 a.2.2)⟩
def C12:aq BT:=⟨86,2,0,⟨[],[(0,.v 22),(1,.f 141 [] [.q [.v 27,.v 28]])]⟩,⟨[],[(0,.v 4)]⟩,λa=>Cg L a.1 (ak.mk a.2.1 a.2.2)⟩
def C13:aq BT:=⟨210,1,0,⟨[],[(0,.v 22)]⟩,⟨[(0,[0],.box 22 [.v 22])],[(0,.f 269 [] [.p 0])]⟩,λa=>qK L a⟩
def AW:aq BT:=⟨225,1,1,⟨[(0,[],.aap 3 22)],[(0,.r 0)]⟩,⟨[(100000,[],.aap 3 22)],[]⟩,λa=>rl L a⟩
def C15:aq BT:=⟨308,2,0,⟨[],[(0,.ns),(1,.f 269 [] [.q [.v 22]])]⟩,⟨[(0,[],.aap 3 22)],[(0,.r 0)]⟩,λa=>IA L a⟩
def C16:aq BT:=⟨268,1,0,⟨[],[(0,.f 269 [] [.q [.v 22]])]⟩,⟨[(0,[],.aap 3 22)],[(0,.r 0)]⟩,λa=>Kx L a⟩
def C17:aq BT:=⟨209,1,0,⟨[],[(0,.f 269 [] [.q [.v 22]])]⟩,⟨[(0,[],.aap 3 22)],[(0,.r 0)]⟩,λa=>rG L a⟩
def C18:aq BT:=cV 142 [22] [4] λa=>ym L a
def RL:aq BT:=cV 96 [27] [27] λa=>kF L a
def Mq:aq BT:=cV 97 [28] [28] λa=>kQ L a
def Pv:aq BT:=cV 211 [31] [31] λa=>rf L a
def PI:aq BT:=cV 99 [22] [22] λa=>cc L a
def C23:aq BT:=cV 143 [35] [35] λa=>yS L a
def Xu:aq BT:=cV 83 [30,32,22,22,3] [35,67] λa=>Ef L a.1 a.2.1 a.2.2.1 a.2.2.2.1 a.2.2.2.2
def C25:aq BT:=cV 213 [90] [4] λa=>EP L a
def C26:aq BT:=⟨270,2,0,⟨[],[(0,.v 36),(1,.f 213 [] [])]⟩,⟨[],[(0,.v 3)]⟩,λa=>Kq L a⟩
def C27:aq BT:=⟨212,2,0,⟨[],[(0,.v 36),(1,.f 213 [] [])]⟩,⟨[],[(0,.v 4)]⟩,λa=>B8 L a⟩
def C28:aq BT:=cV 144 [30,36] [4] λa=>pD L a.1 a.2
def Wx:aq BT:=cV 272 [179,179] [179,179] λa=>vk L a.1 a.2
def C30:aq BT:=cV 214 [181,181] [181,181] λa=>DJ L a.1 a.2
def C31:aq BT:=cV 145 [22,3] [22] λa=>EC L a.1 a.2
def ZB:aq BT:=⟨145,2,0,⟨[],[(0,.v 22),(1,.v 3)]⟩,⟨[(0,[],.aap 3 22)],[(0,.r 0)]⟩,λa=>sJ L a.1 a.2⟩
def C33:aq BT:=cV 242 [30,3,90,4] [3] λa=>n6 L a.1 a.2.1 a.2.2.1 a.2.2.2
def C34:aq BT:=⟨215,5,1,⟨[(0,[3],.aap 3 22)],[(0,.g [.v 27,.v 28,.v 36,.r 0]),(1,.v 3),(2,.v 3),(3,.v 3),(4,.v 4)]⟩,⟨[(100000,[],.aap 3 22)],[(0,.v 4)]⟩,λa=>yr L a.1 a.2.1 a.2.2.1 a.2.2.2.1 a.2.2.2.2.1 a.2.2.2.2.2.1 a.2.2.2.2.2.2.1 a.2.2.2.2.2.2.2⟩
def C35:aq BT:=⟨146,1,1,⟨[(0,[3],.aap 3 22)],[(0,.g [.v 27,.v 28,.v 36,.r 0])]⟩,⟨[(100000,[],.aap 3 22)],[]⟩,λa=>rM L a.1 a.2.1 a.2.2.1 a.2.2.2⟩
def C36:aq BT:=cV 84 [30,36,22,3] [48,67] λa=>Eh L a.1 a.2.1 a.2.2.1 a.2.2.2
def C37:aq BT:=cV 70 [30,38] [4] λa=>rP L a.1 a.2
def C38:aq BT:=cV 85 [40,52] [4] λa=>oT L a.1 a.2
def C39:aq BT:=⟨87,2,0,⟨[],[(0,.v 3),(1,.q [.v 27,.v 28])]⟩,⟨[],[(0,.v 4)]⟩,λa=>zm L a.1 (ak.mk a.2.1 a.2.2)⟩
def C40:aq BT:=⟨147,2,0,⟨[],[(0,.v 22),(1,.f 87 [] [.q [.v 27,.v 28]])]⟩,⟨[],[(0,.v 3)]⟩,λa=>Ak L a.1 (ak.mk a.2.1 a.2.2)⟩
def C41:aq BT:=⟨86,2,0,⟨[],[(0,.v 22),(1,.f 87 [] [.q [.v 27,.v 28]])]⟩,⟨[],[(0,.v 4)]⟩,λa=>zi L a.1 (ak.mk a.2.1 a.2.2)⟩
def C42:aq BT:=cV 148 [22] [4] λa=>xa L a
def Vx:aq BT:=cV 88 [22] [50,67] λa=>AQ L a
def C44:aq BT:=cV 149 [22] [4] λa=>AI L a
def C45:aq BT:=⟨216,1,0,⟨[],[(0,.v 30)]⟩,⟨[(0,[],.aap 3 22)],[(0,.r 0)]⟩,λa=>yF L a⟩
def YG:aq BT:=cV 330 [] [222] λa=>G5 L
def C47:aq BT:=cV 137 [30,3,4,222] [3] λa=>xu L a.1 a.2.1 a.2.2.1 a.2.2.2
def Ux:aq BT:=cV 309 [30,3,4] [3] λa=>FX L a.1 a.2.1 a.2.2
def C49:aq BT:=cV 276 [30,3,4] [3] λa=>rO L a.1 a.2.1 a.2.2
def C50:aq BT:=⟨218,1,0,⟨[],[(0,.v 3)]⟩,⟨[],[(0,.b true)]⟩,λa=>KJ L a⟩
def Xk:aq BT:=⟨274,7,3,⟨[(4,[0],.aap 3 22),(4,[],.box 22 [.r 0]),(6,[],.box 4 [.v 4])],[(0,.v 3),(1,.v 3),(2,.v 3),(3,.q [.v 3]),(4,.p 1),(5,.q [.f 218 [] []]),(6,.p 2)]⟩,⟨[(100000,[],.aap 3 22),(100001,[],.box 22 [.r 0]),(100002,[],.box 4 [.v 4])],[]⟩,λa=>CB L a.1 a.2.1 a.2.2.1 a.2.2.2.1 a.2.2.2.2.1 a.2.2.2.2.2⟩
def OB:aq BT:=⟨99,1,0,⟨[],[(0,.v 22)]⟩,⟨[(0,[],.aap 3 22)],[(0,.r 0)]⟩,λa=>cc L a⟩
def C53:aq BT:=⟨273,3,3,⟨[(2,[1,0],.aap 3 22),(2,[1],.box 22 [.r 0]),(2,[3],.box 4 [.v 4])],[(0,.v 30),(1,.r 0),(2,.f 274 [] [.q [.v 3],.p 1,.q [.f 218 [] []],.p 2])]⟩,⟨[(100000,[],.aap 3 22),(100001,[],.box 22 [.r 0]),(100002,[],.box 4 [.v 4])],[]⟩,λa=>yf L a.1 a.2.1 a.2.2.1 a.2.2.2⟩
def Up:aq BT:=⟨217,4,0,⟨[],[(0,.v 30),(1,.v 22),(2,.v 3),(3,.f 218 [] [])]⟩,⟨[],[(0,.v 22)]⟩,λa=>ze L a.1 a.2.1 a.2.2⟩
def C55:aq BT:=⟨217,4,0,⟨[],[(0,.v 30),(1,.v 22),(2,.v 3),(3,.f 218 [] [])]⟩,⟨[(0,[],.aap 3 22)],[(0,.r 0)]⟩,λa=>sI L a.1 a.2.1 a.2.2⟩
def C56:aq BT:=cV 150 [30,3,3] [142,67] λa=>Cr L a.1 a.2.1 a.2.2
def C57:aq BT:=cV 89 [30,22,22,3] [46,67] λa=>Bk L a.1 a.2.1 a.2.2.1 a.2.2.2
def C58:aq BT:=cV 90 [] [43] λa=>DL L
def P59:bY:=⟨[],[(0,.v 3),(1,.q amj),(2,.q [.v 3])]⟩
def C59:aq BT:=⟨152,3,0,P59,⟨[],[(0,.v 4)]⟩,λa=>Ao L (agv a) (alg a) (aqn a)⟩
end Go.X.T
namespace Go.X.T
open Go Go.Aml Go.Bml Go.X Go.Proofs
variable (L:Lp)
def P60:bY:=⟨[],[(0,.v 22),(1,.f 152 [] [.q amj,.q [.v 3]])]⟩
def C60:aq BT:=⟨147,2,0,P60,⟨[],[(0,.v 3)]⟩,λa=>Iq L (Lm a) (Nn a) (Mw a)⟩
def VP:bY:=⟨[],[(0,.v 22),(1,.f 152 [] [.q amj,.q [.v 3]])]⟩
def C61:aq BT:=⟨86,2,0,VP,⟨[],[(0,.v 4)]⟩,λa=>BW L (Lm a) (Nn a) (Mw a)⟩
def C62:aq BT:=cV 222 [30,3,3] [3] λa=>yM L a.1 a.2.1 a.2.2
def X9:aq BT:=cV 155 [30,88] [4] λa=>BS L a.1 a.2
def P64:bY:=⟨[],[(0,.v 88),(1,.q amj)]⟩
def C64:aq BT:=⟨154,2,0,P64,⟨[],[(0,.v 4)]⟩,λa=>DB L (af1 a) (ak0 a)⟩
def P65:bY:=⟨[],[(0,.v 31),(1,.f 154 [] [.q amj])]⟩
def C65:aq BT:=⟨221,2,0,P65,⟨[],[(0,.v 3)]⟩,λa=>Gd L (Mf a) (T7 a)⟩
def P66:bY:=⟨[],[(0,.v 31),(1,.f 154 [] [.q amj])]⟩
def C66:aq BT:=⟨153,2,0,P66,⟨[],[(0,.v 4)]⟩,λa=>zH L (Mf a) (T7 a)⟩
def Kf:aq BT:=cV 92 [35] [4] λa=>pV L a
def Xw:aq BT:=cV 159 [30,3,3] [3] λa=>CX L a.1 a.2.1 a.2.2
def C69:aq BT:=⟨211,1,0,⟨[],[(0,.v 31)]⟩,⟨[(0,[],.aap 88 31)],[(0,.r 0)]⟩,λa=>rf L a⟩
def Q70:bY:=⟨[(0,[3],.aap 88 31)],[(0,.g (abx amj [(3,.r 0)]))]⟩
def C70:aq BT:=⟨143,1,0,⟨[],[(0,.v 35)]⟩,Q70,λa=>yC L a⟩
def C71:aq BT:=cV 95 [35,3] [35,67] λa=>qp L a.1 a.2
def C72:aq BT:=cV 98 [36] [36] λa=>q9 L a
def C73:aq BT:=cV 100 [41] [41] λa=>ry L a
def Xj:aq BT:=cV 160 [140] [140] λa=>oM L a
def C75:aq BT:=cV 101 [46] [46] λa=>pf L a
def C76:aq BT:=cV 102 [53] [53] λa=>pI L a
def C77:aq BT:=cV 44 [56] [56] λa=>wc L a
def C78:aq BT:=cV 36 [30,32,22,22,36,38,40,22] [56,67] λa=>wX L a.1 a.2.1 a.2.2.1 a.2.2.2.1 a.2.2.2.2.1 a.2.2.2.2.2.1 a.2.2.2.2.2.2.1 a.2.2.2.2.2.2.2
def C79:aq BT:=cV 157 [3] [4] λa=>zz L a
def C80:aq BT:=⟨147,2,0,⟨[],[(0,.v 22),(1,.f 157 [] [])]⟩,⟨[],[(0,.v 3)]⟩,λa=>F6 L a⟩
def C81:aq BT:=⟨86,2,0,⟨[],[(0,.v 22),(1,.f 157 [] [])]⟩,⟨[],[(0,.v 4)]⟩,λa=>zw L a⟩
def C82:aq BT:=cV 224 [3] [4] λa=>CE L a
def Z5:aq BT:=⟨147,2,0,⟨[],[(0,.v 22),(1,.f 224 [] [])]⟩,⟨[],[(0,.v 3)]⟩,λa=>JN L a⟩
def C84:aq BT:=⟨86,2,0,⟨[],[(0,.v 22),(1,.f 224 [] [])]⟩,⟨[],[(0,.v 4)]⟩,λa=>IU L a⟩
def Wg:aq BT:=cV 158 [50] [4] λa=>yh L a
def C86:aq BT:=cV 94 [50] [4] λa=>oL L a
def C87:aq BT:=cV 43 [56] [4] λa=>zj L a
def FZ:aq BT:=cV 45 [3] [134] λa=>Ml L a
def C89:aq BT:=cV 161 [50] [22] λa=>yA L a
def C90:aq BT:=cV 136 [22,3] [3] λa=>to L a.1 a.2
def Fz:aq BT:=cV 76 [22,3] [4] λa=>im L a.1 a.2
def lT:aq BT:=cV 226 [35,22] [67] λa=>wv L a.1 a.2
def C93:aq BT:=cV 162 [35,3,3,3] [35,67] λa=>B1 L a.1 a.2.1 a.2.2.1 a.2.2.2
def nD:aq BT:=cV 163 [35,3,3,3] [35,101,67] λa=>jO L a.1 a.2.1 a.2.2.1 a.2.2.2
def C95:aq BT:=⟨100,1,0,⟨[],[(0,.v 41)]⟩,⟨[(0,[],.aap 101 41)],[(0,.r 0)]⟩,λa=>zp L a⟩
def JX:aq BT:=cV 78 [101] [4] λa=>lQ L a
def C97:aq BT:=⟨79,3,0,⟨[(0,[],.aap 5 95)],[(0,.r 0),(1,.v 179),(2,.v 3)]⟩,⟨[(0,[],.aap 5 95)],[(0,.r 0)]⟩,λa=>py L a.1 a.2.1 a.2.2⟩
def C98:aq BT:=cV 30 [101] [97,67] λa=>Ex L a
def Ks:aq BT:=cV 81 [95] [179] λa=>jQ L a
def H7:aq BT:=⟨82,2,0,⟨[],[(0,.v 95),(1,.v 3)]⟩,⟨[(0,[0],.box 95 [.v 95]),(0,[1],.box 3 [.v 3])],[(0,.f 139 [] [.p 0,.p 1])]⟩,λa=>vE L a.1 a.2⟩
def kq:aq BT:=cV 34 [97] [101,67] λa=>zD L a
def Xc:aq BT:=cV 279 [3] [4] λa=>Ap L a
def adu:aq BT:=⟨147,2,0,⟨[],[(0,.v 22),(1,.f 279 [] [])]⟩,⟨[],[(0,.v 3)]⟩,λa=>GR L a⟩
def ai3:aq BT:=⟨86,2,0,⟨[],[(0,.v 22),(1,.f 279 [] [])]⟩,⟨[],[(0,.v 4)]⟩,λa=>Am L a⟩
def Z9:aq BT:=cV 280 [3] [4] λa=>Dd L a
def afS:aq BT:=⟨147,2,0,⟨[],[(0,.v 22),(1,.f 280 [] [])]⟩,⟨[],[(0,.v 3)]⟩,λa=>JV L a⟩
def aln:aq BT:=⟨86,2,0,⟨[],[(0,.v 22),(1,.f 280 [] [])]⟩,⟨[],[(0,.v 4)]⟩,λa=>CZ L a⟩
def Uu:aq BT:=cV 227 [43] [4] λa=>zY L a
def aif:aq BT:=cV 164 [43,101] [43,67] λa=>CT L a.1 a.2
def anP:aq BT:=cV 165 [32,101] [247,67] λa=>Bl L a.1 a.2
def Xe:bY:=⟨[],[(0,.q adU)]⟩
def acZ:aq BT:=⟨169,1,0,Xe,⟨[],[(0,.v 3)]⟩,λa=>fP L (I0 a)⟩
def IP:aq BT:=cV 196 [22,22] [4] λa=>qG L a.1 a.2
def ZA:aq BT:=cV 336 [3] [4] λa=>DR L a
def afj:aq BT:=⟨147,2,0,⟨[],[(0,.v 22),(1,.f 336 [] [])]⟩,⟨[],[(0,.v 3)]⟩,λa=>GG L a⟩
def akW:aq BT:=⟨86,2,0,⟨[],[(0,.v 22),(1,.f 336 [] [])]⟩,⟨[],[(0,.v 4)]⟩,λa=>zZ L a⟩
def ab7:aq BT:=cV 323 [30,142] [4] λa=>ur L a.1 a.2
def ahK:aq BT:=cV 290 [30,142] [4] λa=>n7 L a.1 a.2
def ane:aq BT:=⟨289,2,0,⟨[],[(0,.v 142),(1,.q [.v 27,.v 28])]⟩,⟨[],[(0,.v 4)]⟩,λa=>Ld L a.1 (ak.mk a.2.1 a.2.2)⟩
def WA:aq BT:=⟨300,2,0,⟨[],[(0,.v 138),(1,.f 289 [] [.q [.v 27,.v 28]])]⟩,⟨[],[(0,.v 3)]⟩,λa=>FJ L a.1 (ak.mk a.2.1 a.2.2)⟩
end Go.X.T
namespace Go.X.T
open Go Go.Aml Go.Bml Go.X Go.Proofs
variable (L:Lp)
def aiv:aq BT:=⟨248,2,0,⟨[],[(0,.v 138),(1,.f 289 [] [.q [.v 27,.v 28]])]⟩,⟨[],[(0,.v 4)]⟩,λa=>E5 L a.1 (ak.mk a.2.1 a.2.2)⟩
def ZD:aq BT:=cV 307 [3] [4] λa=>Cl L a
def afm:aq BT:=cV 266 [3,3] [3] λa=>uE L a.1 a.2
def akZ:aq BT:=cV 288 [22,22] [3] λa=>sL L a.1 a.2
def aca:aq BT:=cV 235 [30,46] [4] λa=>p8 L a.1 a.2
def ahM:aq BT:=cV 281 [30,142,22,3,3] [67] λa=>vY L a.1 a.2.1 a.2.2.1 a.2.2.2.1 a.2.2.2.2
def ani:aq BT:=cV 230 [30,142,22,3,3] [142,67] λa=>yX L a.1 a.2.1 a.2.2.1 a.2.2.2.1 a.2.2.2.2
def HG:aq BT:=⟨160,1,0,⟨[],[(0,.v 140)]⟩,⟨[(0,[1],.aap 142 138)],[(0,.g [.v 22,.r 0])]⟩,λa=>mH L a⟩
def aj2:aq BT:=⟨229,5,4,⟨[(1,[],.box 30 [.v 27,.v 28]),(2,[],.box 22 [.v 22]),(3,[],.box 3 [.v 3]),(4,[],.box 3 [.v 3])],[(0,.v 142),(1,.p 0),(2,.p 1),(3,.p 2),(4,.p 3)]⟩,⟨[(100000,[],.box 30 [.v 27,.v 28]),(100001,[],.box 22 [.v 22]),(100002,[],.box 3 [.v 3]),(100003,[],.box 3 [.v 3])],[(0,.v 142),(1,.v 67)]⟩,λa=>JT L (ak.mk a.1 a.2.1) a.2.2.1 a.2.2.2.1 a.2.2.2.2.1 a.2.2.2.2.2⟩
def apN:aq BT:=⟨228,4,4,⟨[(3,[0],.box 30 [.v 27,.v 28]),(3,[1],.box 22 [.v 22]),(3,[2],.box 3 [.v 3]),(3,[3],.box 3 [.v 3])],[(0,.v 30),(1,.v 46),(2,.v 3),(3,.f 229 [] [.p 0,.p 1,.p 2,.p 3])]⟩,⟨[(100000,[],.box 30 [.v 27,.v 28]),(100001,[],.box 22 [.v 22]),(100002,[],.box 3 [.v 3]),(100003,[],.box 3 [.v 3])],[(0,.v 46),(1,.v 67)]⟩,λa=>I3 L (ak.mk a.1 a.2.1) a.2.2.1 a.2.2.2.1 a.2.2.2.2.1 a.2.2.2.2.2.1 a.2.2.2.2.2.2.1 a.2.2.2.2.2.2.2⟩
def ZF:aq BT:=cV 168 [30,46,3,22,3,3] [46,67] λa=>CS L a.1 a.2.1 a.2.2.1 a.2.2.2.1 a.2.2.2.2.1 a.2.2.2.2.2
def aml:bY:=⟨[],[(0,.q adU)]⟩
def aki:aq BT:=⟨173,1,0,aml,⟨[],[(0,.v 4)]⟩,λa=>ra L (I0 a)⟩
def abt:aq BT:=⟨97,1,0,⟨[],[(0,.v 28)]⟩,⟨[(0,[],.aap 115 28)],[(0,.r 0)]⟩,λa=>kQ L a⟩
def acb:aq BT:=cV 240 [30,22] [30,67] λa=>sW L a.1 a.2
def aoO:aq BT:=⟨96,1,0,⟨[],[(0,.v 27)]⟩,⟨[(0,[],.aap 117 27)],[(0,.r 0)]⟩,λa=>kF L a⟩
def apu:aq BT:=⟨240,2,0,⟨[],[(0,.v 30),(1,.v 22)]⟩,⟨[(0,[0],.aap 117 27),(0,[1],.aap 115 28)],[(0,.g [.r 0,.r 1]),(1,.v 67)]⟩,λa=>vU L a.1 a.2⟩
def agE:bY:=⟨[],[(0,.q adU)]⟩
def aez:aq BT:=⟨174,1,0,agE,⟨[(0,[0],.aap 117 27),(0,[1],.aap 115 28)],[(0,.g [.r 0,.r 1])]⟩,λa=>mT L (I0 a)⟩
def Uz:aq BT:=cV 283 [101] [4] λa=>Ai L a
def abd:aq BT:=⟨321,2,0,⟨[],[(0,.v 41),(1,.f 283 [] [])]⟩,⟨[],[(0,.v 3)]⟩,λa=>GJ L a⟩
def agV:aq BT:=⟨282,2,0,⟨[],[(0,.v 41),(1,.f 283 [] [])]⟩,⟨[],[(0,.v 4)]⟩,λa=>Ad L a⟩
def Xm:aq BT:=⟨284,5,5,⟨[(0,[],.box 41 [.v 41]),(1,[],.box 120 (alh [22,3,3,3])),(2,[],.box 309 [.r 5]),(3,[],.box 3 [.v 3]),(4,[],.box 3 [.v 3]),(2,[0],.aap 312 309)],[(0,.p 0),(1,.p 1),(2,.p 2),(3,.p 3),(4,.p 4)]⟩,⟨[(100000,[],.box 41 [.v 41]),(100001,[],.box 120 (alh [22,3,3,3])),(100002,[],.box 309 [.v 309]),(100003,[],.box 3 [.v 3]),(100004,[],.box 3 [.v 3])],[]⟩,λa=>xD L (Q0 a) (Qc a) (R8 a) (Rc a) (Tj a)⟩
def adF:aq BT:=cV 285 [120,101,101] [4] λa=>xH L a.1 a.2.1 a.2.2
def ajb:bY:=⟨[(100000,[],.aap 101 41),(100001,[],.box 41 [.r 6]),(100002,[],.box 120 (alh [22,3,3,3])),(100003,[],.box 309 [.r 7]),(100004,[],.box 3 [.v 3]),(100005,[],.box 3 [.v 3]),(100001,[0],.aap 101 41),(100003,[0],.aap 312 309)],[]⟩
def an9:aq BT:=⟨284,5,6,⟨[(0,[0],.aap 101 41),(0,[],.box 41 [.r 0]),(1,[],.box 120 (alh [22,3,3,3])),(2,[],.box 309 [.r 6]),(3,[],.box 3 [.v 3]),(4,[],.box 3 [.v 3]),(2,[0],.aap 312 309)],[(0,.p 1),(1,.p 2),(2,.p 3),(3,.p 4),(4,.p 5)]⟩,ajb,λa=>yG L (Q0 a) (Qc a) (R8 a) (Rc a) (Tj a)⟩
def X2:aq BT:=cV 231 [32,3,3,41] [309,67] λa=>xp L a.1 a.2.1 a.2.2.1 a.2.2.2
def ad1:aq BT:=cV 234 [120] [3] λa=>Dh L a
def aqG:aq BT:=⟨322,2,0,⟨[],[(0,.v 3),(1,.q [.v 22])]⟩,⟨[],[(0,.v 4)]⟩,λa=>Gs L a.1 a.2⟩
def aaz:aq BT:=⟨274,7,3,⟨[(4,[0],.aap 3 22),(4,[],.box 22 [.r 0]),(6,[],.box 4 [.v 4])],[(0,.v 3),(1,.v 3),(2,.v 3),(3,.q [.v 3]),(4,.p 1),(5,.q [.f 322 [] [.q [.v 22]]]),(6,.p 2)]⟩,⟨[(100000,[],.aap 3 22),(100001,[],.box 22 [.r 0]),(100002,[],.box 4 [.v 4])],[]⟩,λa=>DD L a.1 a.2.1 a.2.2.1 a.2.2.2.1 a.2.2.2.2.1 a.2.2.2.2.2.1 a.2.2.2.2.2.2⟩
def agm:aq BT:=⟨273,3,3,⟨[(2,[1,0],.aap 3 22),(2,[1],.box 22 [.r 0]),(2,[3],.box 4 [.v 4])],[(0,.v 30),(1,.r 0),(2,.f 274 [] [.q [.v 3],.p 1,.q [.f 322 [] [.q [.v 22]]],.p 2])]⟩,⟨[(100000,[],.aap 3 22),(100001,[],.box 22 [.r 0]),(100002,[],.box 4 [.v 4])],[]⟩,λa=>Bj L a.1 a.2.1 a.2.2.1 a.2.2.2.1 a.2.2.2.2⟩
def WE:aq BT:=⟨217,4,0,⟨[],[(0,.v 30),(1,.v 22),(2,.v 3),(3,.f 322 [] [.q [.v 22]])]⟩,⟨[(0,[],.aap 3 22)],[(0,.r 0)]⟩,λa=>Ay L a.1 a.2.1 a.2.2.1 a.2.2.2⟩
def ac6:aq BT:=cV 287 [30,142,22,3,3,3] [142,67] λa=>wV L a.1 a.2.1 a.2.2.1 a.2.2.2.1 a.2.2.2.2.1 a.2.2.2.2.2
def aiE:aq BT:=⟨286,6,5,⟨[(1,[],.box 30 [.v 27,.v 28]),(2,[],.box 22 [.v 22]),(3,[],.box 3 [.v 3]),(4,[],.box 3 [.v 3]),(5,[],.box 3 [.v 3])],[(0,.v 142),(1,.p 0),(2,.p 1),(3,.p 2),(4,.p 3),(5,.p 4)]⟩,⟨[(100000,[],.box 30 [.v 27,.v 28]),(100001,[],.box 22 [.v 22]),(100002,[],.box 3 [.v 3]),(100003,[],.box 3 [.v 3]),(100004,[],.box 3 [.v 3])],[(0,.v 142),(1,.v 67)]⟩,λa=>Io L (ak.mk a.1 a.2.1) a.2.2.1 a.2.2.2.1 a.2.2.2.2.1 a.2.2.2.2.2.1 a.2.2.2.2.2.2⟩
def ZK:bY:=⟨[(3,[0],.box 30 [.v 27,.v 28]),(3,[1],.box 22 [.v 22]),(3,[2],.box 3 [.v 3]),(3,[3],.box 3 [.v 3]),(3,[4],.box 3 [.v 3])],[(0,.v 30),(1,.v 46),(2,.v 3),(3,.f 286 [] [.p 0,.p 1,.p 2,.p 3,.p 4])]⟩
def WU:aq BT:=⟨228,4,5,ZK,⟨[(100000,[],.box 30 [.v 27,.v 28]),(100001,[],.box 22 [.v 22]),(100002,[],.box 3 [.v 3]),(100003,[],.box 3 [.v 3]),(100004,[],.box 3 [.v 3])],[(0,.v 46),(1,.v 67)]⟩,λa=>Hu L (ak.mk a.1 a.2.1) a.2.2.1 a.2.2.2.1 a.2.2.2.2.1 a.2.2.2.2.2.1 a.2.2.2.2.2.2.1 a.2.2.2.2.2.2.2.1 a.2.2.2.2.2.2.2.2⟩
def adl:aq BT:=cV 233 [30,46,3,22,3,3,3] [46,67] λa=>Bq L a.1 a.2.1 a.2.2.1 a.2.2.2.1 a.2.2.2.2.1 a.2.2.2.2.2.1 a.2.2.2.2.2.2
def ap4:bY:=⟨[(2,[],.box 3 [.v 3]),(3,[],.box 120 (alh [22,3,3,3])),(4,[],.box 312 (alh [3,3,3,3])),(5,[],.box 3 [.v 3])],[(0,.v 30),(1,.v 46),(2,.p 0),(3,.p 1),(4,.p 2),(5,.p 3)]⟩
def anL:bY:=⟨[(100000,[],.box 3 [.v 3]),(100001,[],.box 120 (alh [22,3,3,3])),(100002,[],.box 312 (alh [3,3,3,3])),(100003,[],.box 3 [.v 3])],[(0,.v 46),(1,.v 67)]⟩
def Wu:aq BT:=⟨232,6,4,ap4,anL,λa=>uQ L (acS a) (aay a) (afC a) (akx a) (aim a) (ank a)⟩
def mG:aq BT:=cV 171 [35,3,3] [35,67] λa=>oX L a.1 a.2.1 a.2.2
def akC:aq BT:=⟨206,3,0,⟨[],[(0,.v 3),(1,.q [.v 3,.v 22]),(2,.q [.v 3])]⟩,⟨[],[(0,.v 4)]⟩,λa=>Dw L a.1 (aM.mk a.2.1 a.2.2.1) a.2.2.2⟩
def aqf:aq BT:=⟨46,2,0,⟨[],[(0,.v 3),(1,.f 206 [] [.q [.v 3,.v 22],.q [.v 3]])]⟩,⟨[(0,[],.aap 3 22)],[(0,.r 0)]⟩,λa=>HL L a.1 (aM.mk a.2.1 a.2.2.1) a.2.2.2⟩
def ahy:aq BT:=cV 132 [142,3] [22] λa=>su L a.1 a.2
def amV:aq BT:=⟨291,2,0,⟨[],[(0,.v 3),(1,.q [.v 22])]⟩,⟨[],[(0,.v 4)]⟩,λa=>zO L a.1 a.2⟩
def Wj:aq BT:=⟨147,2,0,⟨[],[(0,.v 22),(1,.f 291 [] [.q [.v 22]])]⟩,⟨[],[(0,.v 3)]⟩,λa=>Iw L a.1 a.2⟩
def ajO:aq BT:=⟨86,2,0,⟨[],[(0,.v 22),(1,.f 291 [] [.q [.v 22]])]⟩,⟨[],[(0,.v 4)]⟩,λa=>B3 L a.1 a.2⟩
def apj:aq BT:=cV 237 [142,142,3] [4] λa=>EE L a.1 a.2.1 a.2.2
def Zp:aq BT:=cV 238 [142,3] [142,67] λa=>xc L a.1 a.2
def ae9:aq BT:=⟨160,1,0,⟨[],[(0,.v 140)]⟩,⟨[(0,[0],.aap 3 22),(0,[1],.aap 142 138)],[(0,.g [.r 0,.r 1])]⟩,λa=>Ac L a⟩
def Vb:aq BT:=⟨236,1,0,⟨[],[(0,.v 44)]⟩,⟨[(0,[],.aap 140 44)],[(0,.r 0)]⟩,λa=>Ke L a⟩
def Hy:aq BT:=cV 295 [142,142] [142,67] λa=>xW L a.1 a.2
def ajx:aq BT:=cV 294 [140,140] [3] λa=>IK L a.1 a.2
def ao7:aq BT:=⟨342,4,1,⟨[(0,[],.aap 140 44)],[(0,.r 0),(1,.v 3),(2,.v 3),(3,.f 294 [] [])]⟩,⟨[(100000,[],.aap 140 44)],[]⟩,λa=>xn L a.1 a.2.1 a.2.2⟩
def Zd:aq BT:=⟨338,3,1,⟨[(0,[],.aap 140 44)],[(0,.r 0),(1,.v 3),(2,.f 294 [] [])]⟩,⟨[(100000,[],.aap 140 44)],[]⟩,λa=>Je L a.1 a.2⟩
def alM:aq BT:=⟨325,2,1,⟨[(0,[],.aap 140 44)],[(0,.r 0),(1,.f 294 [] [])]⟩,⟨[(100000,[],.aap 140 44)],[]⟩,λa=>GP L a⟩
def U0:aq BT:=⟨337,2,0,⟨[],[(0,.ns),(1,.f 326 [] [.q [.v 44]])]⟩,⟨[(0,[],.aap 140 44)],[(0,.r 0)]⟩,λa=>JY L a⟩
def adP:aq BT:=⟨324,1,0,⟨[],[(0,.f 326 [] [.q [.v 44]])]⟩,⟨[(0,[],.aap 140 44)],[(0,.r 0)]⟩,λa=>FQ L a⟩
def xI:aq BT:=⟨292,2,0,⟨[],[(0,.f 326 [] [.q [.v 44]]),(1,.f 294 [] [])]⟩,⟨[],[(0,.v 44)]⟩,λa=>uv L a⟩
def uY:aq BT:=cV 239 [44] [44] λa=>yK L a
def aa5:aq BT:=cV 172 [30,46,3,3,3] [46,67] λa=>yY L a.1 a.2.1 a.2.2.1 a.2.2.2.1 a.2.2.2.2
def agN:aq BT:=⟨296,2,0,⟨[],[(0,.v 3),(1,.q [.v 3,.v 22])]⟩,⟨[],[(0,.v 4)]⟩,λa=>DV L a.1 (bQ.mk a.2.1 a.2.2)⟩
def Xf:aq BT:=⟨147,2,0,⟨[],[(0,.v 22),(1,.f 296 [] [.q [.v 3,.v 22]])]⟩,⟨[],[(0,.v 3)]⟩,λa=>GH L a.1 (bQ.mk a.2.1 a.2.2)⟩
def ady:aq BT:=⟨86,2,0,⟨[],[(0,.v 22),(1,.f 296 [] [.q [.v 3,.v 22]])]⟩,⟨[],[(0,.v 4)]⟩,λa=>Ab L a.1 (bQ.mk a.2.1 a.2.2)⟩
def ai6:aq BT:=cV 241 [30,48] [4] λa=>wB L a.1 a.2
def aag:aq BT:=cV 175 [30,36,30,36,48,3] [48,67] λa=>uk L a.1 a.2.1 a.2.2.1 a.2.2.2.1 a.2.2.2.2.1 a.2.2.2.2.2
end Go.X.T
namespace Go.X.T
open Go Go.Aml Go.Bml Go.X Go.Proofs
variable (L:Lp)
def aao:aq BT:=⟨84,4,0,⟨[],[(0,.v 30),(1,.v 36),(2,.v 22),(3,.v 3)]⟩,⟨[(0,[1],.aap 3 22)],[(0,.g [.v 3,.r 0]),(1,.v 67)]⟩,λa=>EX L a.1 a.2.1 a.2.2.1 a.2.2.2⟩
def agb:aq BT:=cV 204 [75] [4] λa=>Dg L a
def alz:aq BT:=cV 265 [22] [3] λa=>CY L a
def acX:aq BT:=cV 205 [75,283] [3] λa=>rK L a.1 a.2
def air:aq BT:=cV 131 [53] [4] λa=>yE L a
def an4:aq BT:=⟨243,3,0,⟨[],[(0,.v 53),(1,.v 283),(2,.f 205 [] [])]⟩,⟨[],[(0,.v 3),(1,.v 4)]⟩,λa=>Ec L a.1 a.2⟩
def wW:aq BT:=⟨244,3,0,⟨[(0,[],.aap 75 53),(2,[],.aap 75 53)],[(0,.r 0),(1,.v 3),(2,.r 1)]⟩,⟨[],[(0,.v 53)]⟩,λa=>D3 L a.1 a.2.1 a.2.2⟩
def afV:aq BT:=⟨102,1,0,⟨[],[(0,.v 53)]⟩,⟨[(0,[],.aap 75 53)],[(0,.r 0)]⟩,λa=>pI L a⟩
def anE:aq BT:=cV 176 [53,3,3,3,3] [53,67] λa=>rk L a.1 a.2.1 a.2.2.1 a.2.2.2.1 a.2.2.2.2
def WY:bY:=⟨[],[(0,.v 88),(1,.q [.q adU]),(2,.q (alh [3,3,3,3]))]⟩
def acP:aq BT:=⟨177,3,0,WY,⟨[],[(0,.v 4)]⟩,λa=>B0 L (anW a) (WC a) (acs a)⟩
def aij:bY:=⟨[],[(0,.v 31),(1,.f 177 [] [.q [.q adU],.q (alh [3,3,3,3])])]⟩
def ana:aq BT:=⟨221,2,0,aij,⟨[],[(0,.v 3)]⟩,λa=>Er L (On a) (Qm a) (Px a)⟩
def Wz:bY:=⟨[],[(0,.v 31),(1,.f 177 [] [.q [.q adU],.q (alh [3,3,3,3])])]⟩
def acj:aq BT:=⟨153,2,0,Wz,⟨[],[(0,.v 4)]⟩,λa=>Dv L (On a) (Qm a) (Px a)⟩
def ahX:aq BT:=cV 299 [50] [50] λa=>EA L a
def anr:aq BT:=⟨299,1,0,⟨[],[(0,.v 50)]⟩,⟨[(0,[1],.aap 3 22)],[(0,.g [.v 22,.r 0,.v 4])]⟩,λa=>IL L a⟩
def aeI:aq BT:=cV 245 [50,3,3,3] [50,67] λa=>qO L a.1 a.2.1 a.2.2.1 a.2.2.2
def akc:aq BT:=cV 178 [50,3] [50,67] λa=>GQ L a.1 a.2
def apX:aq BT:=cV 179 [50,3] [50,67] λa=>J0 L a.1 a.2
def ag5:aq BT:=cV 180 [3] [4] λa=>KV L a
def amy:aq BT:=⟨147,2,0,⟨[],[(0,.v 22),(1,.f 180 [] [])]⟩,⟨[],[(0,.v 3)]⟩,λa=>CC L a⟩
def VU:aq BT:=⟨86,2,0,⟨[],[(0,.v 22),(1,.f 180 [] [])]⟩,⟨[],[(0,.v 4)]⟩,λa=>zA L a⟩
def acp:aq BT:=cV 246 [50,4] [50,67] λa=>xi L a.1 a.2
def aoY:aq BT:=cV 181 [50] [50,67] λa=>Cu L a
def YW:aq BT:=⟨249,2,0,⟨[],[(0,.v 142),(1,.q [.v 3])]⟩,⟨[],[(0,.v 4)]⟩,λa=>Jb L a.1 a.2⟩
def aeR:aq BT:=⟨300,2,0,⟨[],[(0,.v 138),(1,.f 249 [] [.q [.v 3]])]⟩,⟨[],[(0,.v 3)]⟩,λa=>Gk L a.1 a.2⟩
def UQ:aq BT:=⟨248,2,0,⟨[],[(0,.v 138),(1,.f 249 [] [.q [.v 3]])]⟩,⟨[],[(0,.v 4)]⟩,λa=>JC L a.1 a.2⟩
def abu:aq BT:=⟨247,2,0,⟨[],[(0,.v 140),(1,.q [.v 3])]⟩,⟨[],[(0,.v 4)]⟩,λa=>AP L a.1 a.2⟩
def ag9:aq BT:=⟨116,2,0,⟨[],[(0,.v 44),(1,.f 247 [] [.q [.v 3]])]⟩,⟨[],[(0,.v 3)]⟩,λa=>Jm L a.1 a.2⟩
def Xy:aq BT:=⟨49,2,0,⟨[],[(0,.v 44),(1,.f 247 [] [.q [.v 3]])]⟩,⟨[],[(0,.v 4)]⟩,λa=>AL L a.1 a.2⟩
def adY:aq BT:=cV 301 [30,142,3] [142,67] λa=>xT L a.1 a.2.1 a.2.2
def ajq:aq BT:=⟨301,3,0,⟨[(1,[1],.aap 3 22)],[(0,.v 30),(1,.g [.v 3,.r 0]),(2,.v 3)]⟩,⟨[],[(0,.v 142),(1,.v 67)]⟩,λa=>IJ L a.1 a.2.1 a.2.2.1 a.2.2.2⟩
def aaw:aq BT:=cV 250 [30,142,3] [142,67] λa=>CA L a.1 a.2.1 a.2.2
def agj:aq BT:=cV 182 [30,46,22,3] [46,67] λa=>Em L a.1 a.2.1 a.2.2.1 a.2.2.2
def alE:aq BT:=cV 258 [52,3] [4] λa=>zd L a.1 a.2
def ac3:aq BT:=⟨261,2,0,⟨[],[(0,.v 3),(1,.q [.v 3,.v 22])]⟩,⟨[],[(0,.v 4)]⟩,λa=>CR L a.1 (aM.mk a.2.1 a.2.2)⟩
def aiB:aq BT:=⟨147,2,0,⟨[],[(0,.v 22),(1,.f 261 [] [.q [.v 3,.v 22]])]⟩,⟨[],[(0,.v 3)]⟩,λa=>G4 L a.1 (aM.mk a.2.1 a.2.2)⟩
def aoa:aq BT:=⟨86,2,0,⟨[],[(0,.v 22),(1,.f 261 [] [.q [.v 3,.v 22]])]⟩,⟨[],[(0,.v 4)]⟩,λa=>As L a.1 (aM.mk a.2.1 a.2.2)⟩
def X4:aq BT:=cV 198 [46,22] [4] λa=>wA L a.1 a.2
def ak1:aq BT:=cV 302 [40,50,46] [4] λa=>Ah L a.1 a.2.1 a.2.2
def aqH:aq BT:=cV 251 [333,4] [67] λa=>si L a.1 a.2
def aaC:aq BT:=cV 183 [40,52,50,46,3,3] [52,67] λa=>BR L a.1 a.2.1 a.2.2.1 a.2.2.2.1 a.2.2.2.2.1 a.2.2.2.2.2
def anl:aq BT:=cV 184 [40,52,50,46,3,3] [52,67] λa=>AJ L a.1 a.2.1 a.2.2.1 a.2.2.2.1 a.2.2.2.2.1 a.2.2.2.2.2
def WH:aq BT:=cV 185 [40,52,50,46,3,4] [52,67] λa=>CM L a.1 a.2.1 a.2.2.1 a.2.2.2.1 a.2.2.2.2.1 a.2.2.2.2.2
def ac7:bY:=⟨[(0,[1],.aap 115 28),(0,[3],.aap 88 31)],[(0,.g (abx amj [(1,.r 0),(3,.r 1)]))]⟩
def ah3:aq BT:=⟨143,1,0,⟨[],[(0,.v 35)]⟩,ac7,λa=>D6 L a⟩
def anx:aq BT:=cV 186 [35,3] [35,67] λa=>wO L a.1 a.2
def aeW:aq BT:=⟨98,1,0,⟨[],[(0,.v 36)]⟩,⟨[(0,[],.aap 90 36)],[(0,.r 0)]⟩,λa=>q9 L a⟩
def afu:aq BT:=cV 252 [30,46,3] [46,67] λa=>kW L a.1 a.2.1 a.2.2
def VF:aq BT:=⟨175,6,1,⟨[(3,[],.aap 90 36)],[(0,.v 30),(1,.v 36),(2,.v 30),(3,.r 0),(4,.v 48),(5,.v 3)]⟩,⟨[(100000,[],.aap 90 36)],[(0,.v 48),(1,.v 67)]⟩,λa=>yg L a.1 a.2.1 a.2.2.1 a.2.2.2.1 a.2.2.2.2.1 a.2.2.2.2.2⟩
def ach:aq BT:=⟨47,3,0,⟨[],[(0,.v 3),(1,.q [.v 3,.v 22]),(2,.q [.v 3])]⟩,⟨[],[(0,.v 4)]⟩,λa=>A8 L a.1 (bQ.mk a.2.1 a.2.2.1) a.2.2.2⟩
def ahS:aq BT:=⟨46,2,0,⟨[],[(0,.v 3),(1,.f 47 [] [.q [.v 3,.v 22],.q [.v 3]])]⟩,⟨[(0,[],.aap 3 22)],[(0,.r 0)]⟩,λa=>Fc L a.1 (bQ.mk a.2.1 a.2.2.1) a.2.2.2⟩
def YP:aq BT:=cV 16 [48,3] [22] λa=>w6 L a.1 a.2
def aeF:aq BT:=⟨303,2,0,⟨[],[(0,.v 3),(1,.q [.v 22])]⟩,⟨[],[(0,.v 4)]⟩,λa=>E7 L a.1 a.2⟩
def aj8:aq BT:=⟨147,2,0,⟨[],[(0,.v 22),(1,.f 303 [] [.q [.v 22]])]⟩,⟨[],[(0,.v 3)]⟩,λa=>zW L a.1 a.2⟩
def apU:aq BT:=⟨86,2,0,⟨[],[(0,.v 22),(1,.f 303 [] [.q [.v 22]])]⟩,⟨[],[(0,.v 4)]⟩,λa=>EZ L a.1 a.2⟩
def ag1:aq BT:=cV 253 [30,22,22] [30,67] λa=>yB L a.1 a.2.1 a.2.2
def amt:aq BT:=cV 254 [30,38,46,3,3] [67] λa=>EU L a.1 a.2.1 a.2.2.1 a.2.2.2.1 a.2.2.2.2
def VL:aq BT:=⟨50,4,0,⟨[],[(0,.v 140),(1,.q [.v 3]),(2,.q [.v 3]),(3,.q [.v 3])]⟩,⟨[],[(0,.v 4)]⟩,λa=>zt L a.1 a.2.1 a.2.2.1 a.2.2.2⟩
def ajl:aq BT:=⟨116,2,0,⟨[],[(0,.v 44),(1,.f 50 [] [.q [.v 3],.q [.v 3],.q [.v 3]])]⟩,⟨[],[(0,.v 3)]⟩,λa=>Gu L a.1 a.2.1 a.2.2.1 a.2.2.2⟩
def aoT:aq BT:=⟨49,2,0,⟨[],[(0,.v 44),(1,.f 50 [] [.q [.v 3],.q [.v 3],.q [.v 3]])]⟩,⟨[],[(0,.v 4)]⟩,λa=>FH L a.1 a.2.1 a.2.2.1 a.2.2.2⟩
def YS:aq BT:=⟨48,4,0,⟨[],[(0,.v 3),(1,.q [.v 44]),(2,.q [.v 3]),(3,.q [.v 3])]⟩,⟨[],[(0,.v 4)]⟩,λa=>AZ L a.1 a.2.1 a.2.2.1 a.2.2.2⟩
def aly:aq BT:=⟨46,2,0,⟨[],[(0,.v 3),(1,.f 48 [] [.q [.v 44],.q [.v 3],.q [.v 3]])]⟩,⟨[(0,[],.aap 3 22)],[(0,.r 0)]⟩,λa=>Lb L a.1 a.2.1 a.2.2.1 a.2.2.2⟩
end Go.X.T
namespace Go.X.T
open Go Go.Aml Go.Bml Go.X Go.Proofs
variable (L:Lp)
def aib:aq BT:=cV 17 [46,3,3] [22] λa=>rJ L a.1 a.2.1 a.2.2
def J7:aq BT:=⟨340,2,0,⟨[],[(0,.ns),(1,.v 3)]⟩,⟨[(0,[],.aap 3 22)],[(0,.r 0)]⟩,λa=>CW L a⟩
def ZV:aq BT:=⟨328,1,0,⟨[],[(0,.v 33)]⟩,⟨[(0,[],.aap 3 22)],[(0,.r 0)]⟩,λa=>He L a⟩
def afF:aq BT:=cV 71 [30,38,3] [4] λa=>Bc L a.1 a.2.1 a.2.2
def VX:aq BT:=cV 138 [] [222] λa=>Fx L
def acv:aq BT:=cV 77 [30,3,4] [3] λa=>nK L a.1 a.2.1 a.2.2
def YY:aq BT:=cV 75 [170,174] [4] λa=>wJ L a.1 a.2
def aeU:aq BT:=cV 259 [275,275] [4] λa=>zX L a.1 a.2
def akn:aq BT:=cV 193 [170] [272] λa=>Bg L a
def ap5:aq BT:=⟨194,4,0,⟨[],[(0,.v 174),(1,.q [.v 3]),(2,.q (alh [3,167,168,168])),(3,.q [.v 272])]⟩,⟨[],[(0,.v 4)]⟩,λa=>EN L (Wh a) (aqq a) (ZI a) (aeS a)⟩
def ahe:aq BT:=⟨73,2,0,⟨[],[(0,.v 167),(1,.f 194 [] [.q [.v 3],.q (alh [3,167,168,168]),.q [.v 272]])]⟩,⟨[],[(0,.v 3)]⟩,λa=>Aj L (afq a) (akl a) (aic a) (am5 a)⟩
def amH:aq BT:=⟨117,2,0,⟨[],[(0,.v 170),(1,.v 3)]⟩,⟨[(0,[],.aap 3 22),(2,[],.aap 3 22)],[(0,.r 0),(1,.v 3),(2,.r 1),(3,.v 4)]⟩,λa=>yN L a.1 a.2⟩
def V6:aq BT:=⟨119,2,0,⟨[],[(0,.v 174),(1,.q [.v 22])]⟩,⟨[],[(0,.v 4)]⟩,λa=>ye L a.1 a.2⟩
def aju:aq BT:=⟨73,2,0,⟨[],[(0,.v 167),(1,.f 119 [] [.q [.v 22]])]⟩,⟨[],[(0,.v 3)]⟩,λa=>AM L a.1 a.2⟩
def ao5:aq BT:=⟨118,2,0,⟨[(0,[],.aap 174 167)],[(0,.r 0),(1,.f 119 [] [.q [.v 22]])]⟩,⟨[(0,[],.aap 174 167)],[(0,.r 0)]⟩,λa=>Bm L a.1 a.2⟩
def Y7:aq BT:=⟨72,2,0,⟨[],[(0,.v 30),(1,.v 38)]⟩,⟨[(0,[1],.aap 174 167),(0,[3],.aap 4 168)],[(0,.g [.v 3,.r 0,.v 168,.r 1])]⟩,λa=>DM L a.1 a.2⟩
def alI:aq BT:=cV 52 [30,38,3] [22,22,144,4] λa=>r7 L a.1 a.2.1 a.2.2
def UY:aq BT:=cV 29 [30,3] [3] λa=>v7 L a.1 a.2
def abF:aq BT:=cV 203 [30,38,3] [4] λa=>r6 L a.1 a.2.1 a.2.2
def aod:aq BT:=⟨305,3,0,⟨[],[(0,.v 3),(1,.q [.v 27,.v 28]),(2,.q (alh [22,22,22,3]))]⟩,⟨[],[(0,.v 4)]⟩,λa=>w5 L (Zl a) (Wt a) (ace a)⟩
def X6:aq BT:=⟨147,2,0,⟨[],[(0,.v 22),(1,.f 305 [] [.q [.v 27,.v 28],.q (alh [22,22,22,3])])]⟩,⟨[],[(0,.v 3)]⟩,λa=>ER L (Q5 a) (Qh a) (Sc a)⟩
def ad6:aq BT:=⟨256,2,0,⟨[(0,[],.aap 3 22)],[(0,.r 0),(1,.f 305 [] [.q [.v 27,.v 28],.q (alh [22,22,22,3])])]⟩,⟨[(0,[],.aap 3 22)],[(0,.r 0)]⟩,λa=>zr L (Q5 a) (Qh a) (Sc a)⟩
def T9:aq BT:=⟨329,1,0,⟨[(0,[],.aap 3 22)],[(0,.r 0)]⟩,⟨[(0,[],.aap 3 22)],[(0,.r 0)]⟩,λa=>ED L a⟩
def aaG:aq BT:=⟨304,2,0,⟨[],[(0,.v 22),(1,.v 22)]⟩,⟨[(0,[],.aap 3 22)],[(0,.r 0)]⟩,λa=>zT L a.1 a.2⟩
def agr:aq BT:=cV 255 [30,38,46,3] [22] λa=>Bo L a.1 a.2.1 a.2.2.1 a.2.2.2
def alL:aq BT:=⟨257,2,0,⟨[],[(0,.v 3),(1,.q [.v 22])]⟩,⟨[],[(0,.v 4)]⟩,λa=>za L a.1 a.2⟩
def ade:aq BT:=⟨147,2,0,⟨[],[(0,.v 22),(1,.f 257 [] [.q [.v 22]])]⟩,⟨[],[(0,.v 3)]⟩,λa=>zU L a.1 a.2⟩
def aiM:aq BT:=⟨256,2,0,⟨[(0,[],.aap 3 22)],[(0,.r 0),(1,.f 257 [] [.q [.v 22]])]⟩,⟨[(0,[],.aap 3 22)],[(0,.r 0)]⟩,λa=>Av L a.1 a.2⟩
def aoh:aq BT:=cV 188 [30,38,46,22,22,22,3,3] [30,22,67] λa=>zJ L a.1 a.2.1 a.2.2.1 a.2.2.2.1 a.2.2.2.2.1 a.2.2.2.2.2.1 a.2.2.2.2.2.2.1 a.2.2.2.2.2.2.2
def afy:aq BT:=cV 189 [40,52,3] [52,67] λa=>BY L a.1 a.2.1 a.2.2
def ak5:aq BT:=cV 190 [50] [50,67] λa=>vQ L a
def Ud:aq BT:=cV 191 [50,3] [50,67] λa=>qu L a.1 a.2
def ahV:aq BT:=cV 192 [50,3] [50,67] λa=>vJ L a.1 a.2
def anq:bY:=⟨[(0,[35],.aap 83 54)],[(0,.g (abx amv [(35,.r 0)]))]⟩
def V8:aq BT:=⟨44,1,0,⟨[],[(0,.v 56)]⟩,anq,λa=>Cp L a⟩
def acD:bY:=⟨[(0,[19],.aap 101 41),(0,[20],.aap 101 41),(0,[35],.aap 83 54),(0,[],.box 133 (abx adU [(19,.r 0),(20,.r 1),(35,.r 2)]))],[(0,.p 3),(1,.v 65)]⟩
def aaf:bY:=⟨[(100000,[],.aap 101 41),(100001,[],.aap 101 41),(100002,[],.aap 83 54),(100003,[],.box 133 (abx adU [(19,.r 0),(20,.r 1),(35,.r 2)]))],[(0,.v 67)]⟩
def afk:aq BT:=⟨103,2,4,acD,aaf,λa=>xR L (kU a) (kT a)⟩
def akX:bY:=⟨[(0,[19],.aap 101 41),(0,[20],.aap 101 41),(0,[35],.aap 83 54)],[(0,.g (abx amv [(19,.r 0),(20,.r 1),(35,.r 2)]))]⟩
def apV:aq BT:=⟨44,1,0,⟨[],[(0,.v 56)]⟩,akX,λa=>Dr L a⟩
def ZR:bY:=⟨[(0,[19],.aap 101 41),(0,[20],.aap 101 41),(0,[35],.aap 83 54),(0,[],.box 133 (abx adU [(19,.r 0),(20,.r 1),(35,.r 2)]))],[(0,.p 3),(1,.v 65)]⟩
def ae0:bY:=⟨[(100000,[],.aap 101 41),(100001,[],.aap 101 41),(100002,[],.aap 83 54),(100003,[],.box 133 (abx adU [(19,.r 0),(20,.r 1),(35,.r 2)]))],[(0,.v 67)]⟩
def acQ:aq BT:=⟨104,2,4,ZR,ae0,λa=>yV L (kU a) (kT a)⟩
def apo:bY:=⟨[(0,[19],.aap 101 41),(0,[20],.aap 101 41),(0,[35],.aap 83 54),(0,[],.box 133 (abx adU [(19,.r 0),(20,.r 1),(35,.r 2)]))],[(0,.p 3),(1,.v 65)]⟩
def ang:bY:=⟨[(100000,[],.aap 101 41),(100001,[],.aap 101 41),(100002,[],.aap 83 54),(100003,[],.box 133 (abx adU [(19,.r 0),(20,.r 1),(35,.r 2)]))],[(0,.v 67)]⟩
def VQ:aq BT:=⟨105,2,4,apo,ang,λa=>yT L (kU a) (kT a)⟩
def acn:bY:=⟨[(2,[],.box 251 (alh [3,3,3,3])),(3,[],.box 120 (alh [22,3,3,3])),(4,[0,19],.aap 101 41),(4,[0,35],.aap 83 54),(4,[0],.box 133 (abx adU [(19,.r 2),(35,.r 3)])),(4,[],.box 130 [.p 4])],[(0,.v 30),(1,.v 46),(2,.p 0),(3,.p 1),(4,.p 5)]⟩
def ahm:bY:=⟨[(100000,[],.box 251 (alh [3,3,3,3])),(100001,[],.box 120 (alh [22,3,3,3])),(100002,[],.aap 101 41),(100003,[],.aap 83 54),(100004,[],.box 133 (abx adU [(19,.r 2),(35,.r 3)])),(100005,[],.box 130 [.p 4])],[(0,.v 46),(1,.v 67)]⟩
def aff:aq BT:=⟨167,5,6,acn,ahm,λa=>uX L (aeD a) (acw a) (ahv a) (amb a) (aj7 a)⟩
def Vf:bY:=⟨[(0,[19],.aap 101 41),(0,[35],.aap 83 54),(0,[],.box 133 (abx adU [(19,.r 0),(35,.r 1)])),(1,[0],.box 251 (alh [3,3,3,3])),(1,[1],.box 120 (alh [22,3,3,3])),(1,[2],.box 130 [.p 2])],[(0,.p 2),(1,.f 167 [] [.p 3,.p 4,.p 5])]⟩
def apK:bY:=⟨[(100000,[],.aap 101 41),(100001,[],.aap 83 54),(100002,[],.box 133 (abx adU [(19,.r 0),(35,.r 1)])),(100003,[],.box 251 (alh [3,3,3,3])),(100004,[],.box 120 (alh [22,3,3,3])),(100005,[],.box 130 [.p 2])],[]⟩
def YU:aq BT:=⟨166,2,6,Vf,apK,λa=>A5 L (MU a) (Me a) (N4 a)⟩
def aeP:bY:=⟨[(0,[19],.aap 101 41),(0,[35],.aap 83 54),(0,[],.box 133 (abx adU [(19,.r 0),(35,.r 1)])),(1,[0],.box 3 [.v 3]),(1,[1],.box 120 (alh [22,3,3,3])),(1,[2],.box 312 (alh [3,3,3,3])),(1,[3],.box 3 [.v 3])],[(0,.p 2),(1,.f 232 [] [.p 3,.p 4,.p 5,.p 6])]⟩
def ajB:bY:=⟨[(100000,[],.aap 101 41),(100001,[],.aap 83 54),(100002,[],.box 133 (abx adU [(19,.r 0),(35,.r 1)])),(100003,[],.box 3 [.v 3]),(100004,[],.box 120 (alh [22,3,3,3])),(100005,[],.box 312 (alh [3,3,3,3])),(100006,[],.box 3 [.v 3])],[]⟩
def ahD:aq BT:=⟨166,2,7,aeP,ajB,λa=>zg L (M2 a) (OW a) (N9 a) (P1 a) (RU a)⟩
def Yl:bY:=⟨[(0,[19],.aap 101 41),(0,[35],.aap 83 54),(0,[],.box 133 (abx adU [(19,.r 0),(35,.r 1)]))],[(0,.p 2),(1,.v 3),(2,.v 3)]⟩
def Vv:bY:=⟨[(100000,[],.aap 101 41),(100001,[],.aap 83 54),(100002,[],.box 133 (abx adU [(19,.r 0),(35,.r 1)]))],[]⟩
def abq:aq BT:=⟨170,3,3,Yl,Vv,λa=>Eb L (Vp a) (apR a) (Y6 a)⟩
def ag8:bY:=⟨[(0,[19],.aap 101 41),(0,[35],.aap 83 54),(0,[],.box 133 (abx adU [(19,.r 0),(20,.r 3),(35,.r 1)])),(0,[20],.aap 101 41)],[(0,.p 2),(1,.v 65)]⟩
def alR:bY:=⟨[(100000,[],.aap 101 41),(100001,[],.aap 83 54),(100002,[],.box 133 (abx adU [(19,.r 0),(35,.r 1)]))],[(0,.v 67)]⟩
def ajT:aq BT:=⟨106,2,3,ag8,alR,λa=>wP L (agZ a) (aeX a)⟩
def aps:bY:=⟨[(0,[19],.aap 101 41),(0,[20],.aap 101 41),(0,[35],.aap 83 54),(0,[],.box 133 (abx adU [(19,.r 0),(20,.r 1),(35,.r 2)]))],[(0,.p 3),(1,.v 65)]⟩
def YF:bY:=⟨[(100000,[],.aap 101 41),(100001,[],.aap 101 41),(100002,[],.aap 83 54),(100003,[],.box 133 (abx adU [(19,.r 0),(20,.r 1),(35,.r 2)]))],[(0,.v 67)]⟩
def adV:aq BT:=⟨107,2,4,aps,YF,λa=>yb L (kU a) (kT a)⟩
def ajo:bY:=⟨[(0,[19],.aap 101 41),(0,[20],.aap 101 41),(0,[35],.aap 83 54),(0,[],.box 133 (abx adU [(19,.r 0),(20,.r 1),(35,.r 2)]))],[(0,.p 3),(1,.v 65)]⟩
def aon:bY:=⟨[(100000,[],.aap 101 41),(100001,[],.aap 101 41),(100002,[],.aap 83 54),(100003,[],.box 133 (abx adU [(19,.r 0),(20,.r 1),(35,.r 2)]))],[(0,.v 67)]⟩
def al7:aq BT:=⟨108,2,4,ajo,aon,λa=>xy L (kU a) (kT a)⟩
def Vj:bY:=⟨[(0,[19],.aap 101 41),(0,[20],.aap 101 41),(0,[35],.aap 83 54),(0,[],.box 133 (abx adU [(19,.r 0),(20,.r 1),(35,.r 2)]))],[(0,.p 3),(1,.v 65)]⟩
def abb:bY:=⟨[(100000,[],.aap 101 41),(100001,[],.aap 101 41),(100002,[],.aap 83 54),(100003,[],.box 133 (abx adU [(19,.r 0),(20,.r 1),(35,.r 2)]))],[(0,.v 67)]⟩
def agf:aq BT:=⟨109,2,4,Vj,abb,λa=>vA L (kU a) (kT a)⟩
def alD:bY:=⟨[(0,[19],.aap 101 41),(0,[20],.aap 101 41),(0,[35],.aap 83 54),(0,[],.box 133 (abx adU [(19,.r 0),(20,.r 1),(35,.r 2)]))],[(0,.p 3),(1,.v 65)]⟩
def ajG:bY:=⟨[(100000,[],.aap 101 41),(100001,[],.aap 101 41),(100002,[],.aap 83 54),(100003,[],.box 133 (abx adU [(19,.r 0),(20,.r 1),(35,.r 2)]))],[(0,.v 67)]⟩
def aoB:aq BT:=⟨110,2,4,alD,ajG,λa=>vm L (kU a) (kT a)⟩
def Yu:bY:=⟨[(0,[19],.aap 101 41),(0,[20],.aap 101 41),(0,[35],.aap 83 54),(0,[],.box 133 (abx adU [(19,.r 0),(20,.r 1),(35,.r 2)]))],[(0,.p 3),(1,.v 65)]⟩
def adD:bY:=⟨[(100000,[],.aap 101 41),(100001,[],.aap 101 41),(100002,[],.aap 83 54),(100003,[],.box 133 (abx adU [(19,.r 0),(20,.r 1),(35,.r 2)]))],[(0,.v 67)]⟩
def aby:aq BT:=⟨111,2,4,Yu,adD,λa=>wR L (kU a) (kT a)⟩
def an7:bY:=⟨[(0,[19],.aap 101 41),(0,[20],.aap 101 41),(0,[35],.aap 83 54),(0,[],.box 133 (abx adU [(19,.r 0),(20,.r 1),(35,.r 2)]))],[(0,.p 3),(1,.v 65)]⟩
def alX:bY:=⟨[(100000,[],.aap 101 41),(100001,[],.aap 101 41),(100002,[],.aap 83 54),(100003,[],.box 133 (abx adU [(19,.r 0),(20,.r 1),(35,.r 2)]))],[(0,.v 67)]⟩
def Uo:aq BT:=⟨112,2,4,an7,alX,λa=>yu L (kU a) (kT a)⟩
def aaZ:bY:=⟨[(0,[19],.aap 101 41),(0,[20],.aap 101 41),(0,[35],.aap 83 54),(0,[],.box 133 (abx adU [(19,.r 0),(20,.r 1),(35,.r 2)]))],[(0,.p 3),(1,.v 3)]⟩
def af2:bY:=⟨[(100000,[],.aap 101 41),(100001,[],.aap 101 41),(100002,[],.aap 83 54),(100003,[],.box 133 (abx adU [(19,.r 0),(20,.r 1),(35,.r 2)]))],[(0,.v 67)]⟩
def adZ:aq BT:=⟨187,2,4,aaZ,af2,λa=>xg L (ams a) (UW a)⟩
def aqF:bY:=⟨[(0,[19],.aap 101 41),(0,[20],.aap 101 41),(0,[35],.aap 83 54),(0,[],.box 133 (abx adU [(19,.r 0),(20,.r 1),(35,.r 2)]))],[(0,.p 3),(1,.v 65)]⟩
def aoo:bY:=⟨[(100000,[],.aap 101 41),(100001,[],.aap 101 41),(100002,[],.aap 83 54),(100003,[],.box 133 (abx adU [(19,.r 0),(20,.r 1),(35,.r 2)]))],[(0,.v 67)]⟩
def W7:aq BT:=⟨113,2,4,aqF,aoo,λa=>tM L (kU a) (kT a)⟩
def adp:bY:=⟨[(0,[19],.aap 101 41),(0,[20],.aap 101 41),(0,[35],.aap 83 54),(0,[],.box 133 (abx adU [(19,.r 0),(20,.r 1),(35,.r 2)]))],[(0,.p 3),(1,.v 65)]⟩
def ain:bY:=⟨[(100000,[],.aap 101 41),(100001,[],.aap 101 41),(100002,[],.aap 83 54),(100003,[],.box 133 (abx adU [(19,.r 0),(20,.r 1),(35,.r 2)]))],[(0,.v 67)]⟩
def agl:aq BT:=⟨113,2,4,adp,ain,λa=>Qt L (kU a) (kT a)⟩
def WG:bY:=⟨[(0,[19],.aap 101 41),(0,[20],.aap 101 41),(0,[35],.aap 83 54),(0,[],.box 133 (abx adU [(19,.r 0),(20,.r 1),(35,.r 2)]))],[(0,.p 3),(1,.v 65)]⟩
def Ui:bY:=⟨[(100000,[],.aap 101 41),(100001,[],.aap 101 41),(100002,[],.aap 83 54),(100003,[],.box 133 (abx adU [(19,.r 0),(20,.r 1),(35,.r 2)]))],[(0,.v 67)]⟩
def Z7:aq BT:=⟨114,2,4,WG,Ui,λa=>xQ L (kU a) (kT a)⟩
def afP:bY:=⟨[(0,[19],.aap 101 41),(0,[20],.aap 101 41),(0,[35],.aap 83 54),(0,[],.box 133 (abx adU [(19,.r 0),(20,.r 1),(35,.r 2)]))],[(0,.p 3),(1,.v 65)]⟩
def akP:bY:=⟨[(100000,[],.aap 101 41),(100001,[],.aap 101 41),(100002,[],.aap 83 54),(100003,[],.box 133 (abx adU [(19,.r 0),(20,.r 1),(35,.r 2)]))],[(0,.v 67)]⟩
def aiD:aq BT:=⟨115,2,4,afP,akP,λa=>xE L (kU a) (kT a)⟩
def ZG:aq BT:=cV 15 [56,65] [56,67] λa=>w7 L a.1 a.2
def afr:aq BT:=cV 20 [56,62] [56] λa=>Rs L a.1 a.2
def ak3:aq BT:=cV 65 [] [159] λa=>Ol L
def acg:bY:=⟨[],[(0,.v 140),(1,.q amv)]⟩
def ZY:aq BT:=⟨195,2,0,acg,⟨[],[(0,.v 4)]⟩,λa=>Qz L (VG a) (abC a)⟩
def afJ:bY:=⟨[],[(0,.v 44),(1,.f 195 [] [.q amv])]⟩
def akB:aq BT:=⟨116,2,0,afJ,⟨[],[(0,.v 3)]⟩,λa=>Ma L (QN a) (P0 a)⟩
end Go.X.T
namespace Go.X.T
open Go Go.Aml Go.Bml Go.X Go.Proofs
variable (L:Lp)
def aqa:bY:=⟨[],[(0,.v 44),(1,.f 195 [] [.q amv])]⟩
def anU:aq BT:=⟨49,2,0,aqa,⟨[],[(0,.v 4)]⟩,λa=>Th L (QN a) (P0 a)⟩
def afg:aq BT:=cV 122 [56,46] [4] λa=>GK L a.1 a.2
def akN:aq BT:=cV 121 [56] [4] λa=>LL L a
def aqp:aq BT:=cV 123 [56] [4] λa=>PU L a
def ahE:bY:=⟨[],[(0,.v 3),(1,.q amv)]⟩
def afp:aq BT:=⟨260,2,0,ahE,⟨[],[(0,.v 4)]⟩,λa=>OJ L (SY a) (Mx a)⟩
def Vy:bY:=⟨[],[(0,.v 3),(1,.f 260 [] [.q amv])]⟩
def ap0:aq BT:=⟨46,2,0,Vy,⟨[(0,[],.aap 3 22)],[(0,.r 0)]⟩,λa=>QU L (SY a) (Mx a)⟩
def aha:aq BT:=cV 197 [56] [22] λa=>FN L a
def amC:aq BT:=cV 124 [56] [4] λa=>QK L a
def VZ:bY:=⟨[],[(0,.v 88),(1,.q amv)]⟩
def abQ:aq BT:=⟨199,2,0,VZ,⟨[],[(0,.v 4)]⟩,λa=>Oy L (YR a) (ad4 a)⟩
def ahr:bY:=⟨[],[(0,.v 31),(1,.f 199 [] [.q amv])]⟩
def ama:aq BT:=⟨221,2,0,ahr,⟨[],[(0,.v 3)]⟩,λa=>Na L (RK a) (QT a)⟩
def Vk:bY:=⟨[],[(0,.v 31),(1,.f 199 [] [.q amv])]⟩
def apP:aq BT:=⟨153,2,0,Vk,⟨[],[(0,.v 4)]⟩,λa=>Rp L (RK a) (QT a)⟩
def agW:aq BT:=cV 126 [56] [4] λa=>Nd L a
def amn:aq BT:=cV 125 [56] [4] λa=>Rh L a
def VE:aq BT:=⟨133,2,0,⟨[],[(0,.v 3),(1,.q [.v 22])]⟩,⟨[],[(0,.v 4)]⟩,λa=>uh L a.1 a.2⟩
def aje:aq BT:=⟨147,2,0,⟨[],[(0,.v 22),(1,.f 133 [] [.q [.v 22]])]⟩,⟨[],[(0,.v 3)]⟩,λa=>Jg L a.1 a.2⟩
def aoP:aq BT:=⟨86,2,0,⟨[],[(0,.v 22),(1,.f 133 [] [.q [.v 22]])]⟩,⟨[],[(0,.v 4)]⟩,λa=>CG L a.1 a.2⟩
def YN:aq BT:=⟨134,2,0,⟨[],[(0,.v 3),(1,.q [.f 133 [] [.q [.v 22]]])]⟩,⟨[],[(0,.v 4)]⟩,λa=>zq L a.1 a.2⟩
def alu:aq BT:=⟨147,2,0,⟨[],[(0,.v 22),(1,.f 134 [] [.q [.f 133 [] [.q [.v 22]]]])]⟩,⟨[],[(0,.v 3)]⟩,λa=>FW L a.1 a.2⟩
def UH:aq BT:=⟨86,2,0,⟨[],[(0,.v 22),(1,.f 134 [] [.q [.f 133 [] [.q [.v 22]]]])]⟩,⟨[],[(0,.v 4)]⟩,λa=>zo L a.1 a.2⟩
def abm:aq BT:=cV 69 [140,3,22,3] [4,4] λa=>Cx L a.1 a.2.1 a.2.2.1 a.2.2.2
def anY:aq BT:=cV 27 [46,22,3] [90] λa=>Ew L a.1 a.2.1 a.2.2
def Xq:aq BT:=cV 127 [56] [4] λa=>Ow L a
def adL:aq BT:=⟨264,3,0,⟨[],[(0,.v 75),(1,.q [.v 3]),(2,.q [.v 3])]⟩,⟨[],[(0,.v 4)]⟩,λa=>Lf L a.1 a.2.1 a.2.2⟩
def aqr:aq BT:=⟨306,2,0,⟨[],[(0,.v 53),(1,.f 264 [] [.q [.v 3],.q [.v 3]])]⟩,⟨[],[(0,.v 3)]⟩,λa=>Qo L a.1 a.2.1 a.2.2⟩
def aal:aq BT:=⟨263,2,0,⟨[],[(0,.v 53),(1,.f 264 [] [.q [.v 3],.q [.v 3]])]⟩,⟨[],[(0,.v 4)]⟩,λa=>O7 L a.1 a.2.1 a.2.2⟩
def aga:aq BT:=cV 202 [56,3,3] [4] λa=>KD L a.1 a.2.1 a.2.2
def alx:bY:=⟨[],[(0,.v 83),(1,.q amv)]⟩
def Ua:aq BT:=⟨201,2,0,alx,⟨[],[(0,.v 4)]⟩,λa=>OU L (UL a) (aaD a)⟩
def aaF:bY:=⟨[],[(0,.v 54),(1,.f 201 [] [.q amv])]⟩
def afK:aq BT:=⟨262,2,0,aaF,⟨[],[(0,.v 3)]⟩,λa=>NP L (NM a) (PH a)⟩
def ale:bY:=⟨[],[(0,.v 54),(1,.f 201 [] [.q amv])]⟩
def aqg:aq BT:=⟨200,2,0,ale,⟨[],[(0,.v 4)]⟩,λa=>Sa L (NM a) (PH a)⟩
def aab:aq BT:=cV 128 [56] [4] λa=>NV L a
def afU:aq BT:=cV 129 [56] [4] λa=>Nl L a
def Wk:aq BT:=cV 130 [56] [4] λa=>Ng L a
def acO:aq BT:=cV 23 [56] [22] λa=>N8 L a
def aih:aq BT:=cV 9 [] [4] λa=>vn L
def Zq:aq BT:=⟨10,1,0,⟨[],[(0,.v 22)]⟩,⟨[(0,[],.box 122 [.v 22,.i .i64 0])],[(0,.p 0)]⟩,λa=>NC L a⟩
def afa:aq BT:=cV 19 [3,3] [3] λa=>Ie L a.1 a.2
def akI:aq BT:=⟨13,2,1,⟨[(0,[],.box 122 [.v 22,.v 3])],[(0,.p 0),(1,.v 3)]⟩,⟨[(100000,[],.box 122 [.v 22,.v 3])],[(0,.v 3)]⟩,λa=>eO L (bD.mk a.1 a.2.1) a.2.2⟩
def abV:aq BT:=⟨32,2,1,⟨[(0,[],.box 122 [.v 22,.v 3])],[(0,.p 0),(1,.v 3)]⟩,⟨[(100000,[],.box 122 [.v 22,.v 3])],[(0,.v 4)]⟩,λa=>mK L (bD.mk a.1 a.2.1) a.2.2⟩
def ahA:aq BT:=⟨40,2,1,⟨[(0,[],.box 122 [.v 22,.v 3])],[(0,.p 0),(1,.v 22)]⟩,⟨[(100000,[],.box 122 [.v 22,.v 3])],[(0,.v 3)]⟩,λa=>gQ L (bD.mk a.1 a.2.1) a.2.2⟩
def am1:aq BT:=⟨37,1,1,⟨[(0,[],.box 122 [.v 22,.v 3])],[(0,.p 0)]⟩,⟨[(100000,[],.box 122 [.v 22,.v 3])],[(0,.v 30)]⟩,λa=>zN L (bD.mk a.1 a.2)⟩
def aeh:aq BT:=⟨24,2,1,⟨[(0,[],.box 122 [.v 22,.v 3])],[(0,.p 0),(1,.v 3)]⟩,⟨[(100000,[],.box 122 [.v 22,.v 3])],[(0,.v 22)]⟩,λa=>A9 L (bD.mk a.1 a.2.1) a.2.2⟩
def ajQ:aq BT:=⟨38,2,1,⟨[(0,[],.box 122 [.v 22,.v 3])],[(0,.p 0),(1,.v 30)]⟩,⟨[(100000,[],.box 122 [.v 22,.v 3])],[(0,.v 32)]⟩,λa=>BX L (bD.mk a.1 a.2.1) a.2.2⟩
def apq:aq BT:=⟨39,2,1,⟨[(0,[],.box 122 [.v 22,.v 3])],[(0,.p 0),(1,.v 30)]⟩,⟨[(100000,[],.box 122 [.v 22,.v 3])],[(0,.v 36)]⟩,λa=>Cq L (bD.mk a.1 a.2.1) a.2.2⟩
def Zt:aq BT:=cV 275 [90,3,3] [4] λa=>xG L a.1 a.2.1 a.2.2
def al3:aq BT:=cV 219 [30] [67] λa=>EI L a
def Vh:aq BT:=cV 220 [115,4] [3,3] λa=>Da L a.1 a.2
def abZ:aq BT:=cV 151 [30,3,4,3,3,3] [3] λa=>Gv L a.1 a.2.1 a.2.2.1 a.2.2.2.1 a.2.2.2.2.1 a.2.2.2.2.2
def aox:aq BT:=cV 91 [30,3,4] [3] λa=>wm L a.1 a.2.1 a.2.2
def Yn:aq BT:=cV 26 [22,3] [4] λa=>xb L a.1 a.2
def ael:aq BT:=cV 41 [30,22] [22] λa=>Dt L a.1 a.2
def Ul:aq BT:=⟨12,1,1,⟨[(0,[],.box 122 [.v 22,.v 3])],[(0,.p 0)]⟩,⟨[(100000,[],.box 122 [.v 22,.v 3])],[(0,.v 60)]⟩,λa=>zy L (bD.mk a.1 a.2)⟩
def aaU:aq BT:=cV 11 [60] [56,4] λa=>Cw L a
def agD:aq BT:=⟨42,6,1,⟨[(0,[],.box 122 [.v 22,.v 3])],[(0,.p 0),(1,.v 3),(2,.v 3),(3,.v 3),(4,.v 3),(5,.v 3)]⟩,⟨[(100000,[],.box 122 [.v 22,.v 3])],[(0,.v 65)]⟩,λa=>Di L (bD.mk a.1 a.2.1) a.2.2.1 a.2.2.2.1 a.2.2.2.2.1 a.2.2.2.2.2.1 a.2.2.2.2.2.2⟩
def WZ:aq BT:=⟨14,3,1,⟨[(0,[],.box 122 [.v 22,.v 3])],[(0,.p 0),(1,.v 56),(2,.v 3)]⟩,⟨[(100000,[],.box 122 [.v 22,.v 3])],[(0,.v 62)]⟩,λa=>EJ L (bD.mk a.1 a.2.1) a.2.2.1 a.2.2.2⟩
def avQ:aq BT:=cV 21 [56,62] [3,22] λa=>asm L a.1 a.2
def atC:aq BT:=cV 54 [30,30] [4] λa=>ar8 L a.1 a.2
def arE:aq BT:=cV 57 [22,22] [4] λa=>afx L a.1 a.2
def avh:aq BT:=cV 53 [35,35] [4] λa=>asj L a.1 a.2
end Go.X.T
namespace Go.X.T
open Go Go.Aml Go.Bml Go.X Go.Proofs
variable (L:Lp)
def avs:aq BT:=cV 55 [36,36] [4] λa=>asy L a.1 a.2
def av4:aq BT:=cV 56 [38,38] [4] λa=>asu L a.1 a.2
def arZ:aq BT:=cV 35 [101,101] [4] λa=>af8 L a.1 a.2
def avF:aq BT:=cV 58 [41,41] [4] λa=>ar9 L a.1 a.2
def atl:aq BT:=cV 59 [43,43] [4] λa=>asn L a.1 a.2
def auj:aq BT:=cV 120 [142,142] [4] λa=>asq L a.1 a.2
def avV:aq BT:=cV 60 [46,46] [4] λa=>asb L a.1 a.2
def atM:aq BT:=cV 61 [48,48] [4] λa=>asB L a.1 a.2
def auK:aq BT:=cV 62 [50,50] [4] λa=>ast L a.1 a.2
def atb:aq BT:=cV 63 [53,53] [4] λa=>aso L a.1 a.2
def at9:aq BT:=cV 64 [54,54] [4] λa=>asl L a.1 a.2
def auZ:aq BT:=cV 22 [56,56] [4] λa=>asf L a.1 a.2
def asp:aq BT:=cV 4 [22,3] [4] λa=>asr L a.1 a.2
end Go.X.T
