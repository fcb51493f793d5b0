/- For TopSmokeWays, part 3. -/
import Derived.Test.YtfljhldgncdifaaGreatZB
import Derived.Test.YtfljhldgncdifaaGreatProg
import Derived.KernelRfl
set_option linter.unusedVariables false
set_option linter.unusedSimpArgs false
set_option maxHeartbeats 0
set_option maxRecDepth 100000
open Go.IntKind renaming wrap → c3, i64 → c4, u64 → d3
open Decidable renaming decide → c5
open Option renaming some → c6, none → d5
open Sum renaming inr → c7, inl → d0, elim → d2
open List renaming map → d1
open Nat renaming beq → d4
namespace Go.X.T
open Go Go.Aml Go.Bml Go.X
structure bP where
 eU:Int
 wj:Bool
 deriving DecidableEq,Inhabited
def bP.enc(x:bP):PV:=.agg [.int .i64 x.eU,.bool x.wj]
structure bI where
 eF:Int
 fk:Int
 deriving DecidableEq,Inhabited
def bI.enc(x:bI):PV:=.agg [.int .i64 x.eF,.int .i64 x.fk]
structure aZ where
 an:Int
 To:Int
 Length:Int
 bT:Int
 jy:Bool
 eN:Bool
 Rest:bI
 eI:bI
 deriving DecidableEq,Inhabited
def aZ.enc(x:aZ):PV:=.agg [.int .i64 x.an,.int .i64 x.To,.int .i64 x.Length,.int .i64 x.bT,.bool x.jy,.bool x.eN,.int .i64 x.Rest.eF,.int .i64 x.Rest.fk,.int .i64 x.eI.eF,.int .i64 x.eI.fk]
structure aS where
 ai:List Int
 dX:Int
 dY:Int
 cR:Int
 deriving DecidableEq,Inhabited
def aS.enc(x:aS):PV:=.agg [.vs 1 (d1 (PV.int .i64) x.ai),.int .i64 x.dX,.int .i64 x.dY,.int .i64 x.cR]
structure ak where
 ai:List bP
 af:List aZ
 deriving DecidableEq,Inhabited
def ak.enc(x:ak):PV:=.agg [.vs 2 (d1 bP.enc x.ai),.vs 10 (d1 aZ.enc x.af)]
structure bE where
 Safe:List Int
 dg:List Int
 dG:List Int
 er:Int
 deriving DecidableEq,Inhabited
def bE.enc(x:bE):PV:=.agg [.vs 1 (d1 (PV.int .i64) x.Safe),.vs 1 (d1 (PV.int .i64) x.dg),.vs 1 (d1 (PV.int .i64) x.dG),.int .i64 x.er]
structure cd where
 bT:List Int
 dZ:Int
 ed:Int
 deriving DecidableEq,Inhabited
def cd.enc(x:cd):PV:=.agg [.vs 1 (d1 (PV.int .i64) x.bT),.int .i64 x.dZ,.int .i64 x.ed]
structure bC where
 Place:Int
 Road:Int
 Left:Int
 deriving DecidableEq,Inhabited
def bC.enc(x:bC):PV:=.agg [.int .i64 x.Place,.int .i64 x.Road,.int .i64 x.Left]
structure aB where
 ao:ak
 Time:Int
 aN:List bC
 aw:List Int
 aQ:List aS
 cn:List Int
 cf:List Int
 bp:List (List Int)
 deriving DecidableEq,Inhabited
def aB.enc(x:aB):PV:=.agg [.vs 2 (d1 bP.enc x.ao.ai),.vs 10 (d1 aZ.enc x.ao.af),.int .i64 x.Time,.vs 3 (d1 bC.enc x.aN),.vs 1 (d1 (PV.int .i64) x.aw),.vs 4 (d1 aS.enc x.aQ),.vs 1 (d1 (PV.int .i64) x.cn),.vs 1 (d1 (PV.int .i64) x.cf),.vs 1 (d1 (λa=>PV.vs 1 (d1 (PV.int .i64) a)) x.bp)]
structure pL where
 m:ak
 KE:List bI
 from_:List Int
 deriving DecidableEq,Inhabited
def pL.enc(x:pL):PV:=.agg [.vs 2 (d1 bP.enc x.m.ai),.vs 10 (d1 aZ.enc x.m.af),.vs 2 (d1 bI.enc x.KE),.vs 1 (d1 (PV.int .i64) x.from_)]
structure bQ where
 Time:Int
 an:List Int
 deriving DecidableEq,Inhabited
def bQ.enc(x:bQ):PV:=.agg [.int .i64 x.Time,.vs 1 (d1 (PV.int .i64) x.an)]
structure b7 where
 State:Int
 dD:Int
 Second:Int
 Time:Int
 deriving DecidableEq,Inhabited
def b7.enc(x:b7):PV:=.agg [.int .i64 x.State,.int .i64 x.dD,.int .i64 x.Second,.int .i64 x.Time]
structure bA where
 af:List Int
 Keys:List Int
 Out:Bool
 deriving DecidableEq,Inhabited
def bA.enc(x:bA):PV:=.agg [.vs 1 (d1 (PV.int .i64) x.af),.vs 1 (d1 (PV.int .i64) x.Keys),.bool x.Out]
structure kD where
 up:Int
 down:Int
 level:Int
 deriving DecidableEq,Inhabited
def kD.enc(x:kD):PV:=.agg [.int .i64 x.up,.int .i64 x.down,.int .i64 x.level]
structure aM where
 Time:Int
 an:List Int
 deriving DecidableEq,Inhabited
def aM.enc(x:aM):PV:=.agg [.int .i64 x.Time,.vs 1 (d1 (PV.int .i64) x.an)]
structure ay where
 aw:List Int
 aH:List aM
 deriving DecidableEq,Inhabited
def ay.enc(x:ay):PV:=.agg [.vs 1 (d1 (PV.int .i64) x.aw),.vs 2 (d1 aM.enc x.aH)]
structure aL where
 aA:List ay
 deriving DecidableEq,Inhabited
def aL.enc(x:aL):PV:=.agg [.vs 2 (d1 ay.enc x.aA)]
structure aT where
 Reader:Int
 Number:Int
 Time:Int
 aw:List Int
 deriving DecidableEq,Inhabited
def aT.enc(x:aT):PV:=.agg [.int .i64 x.Reader,.int .i64 x.Number,.int .i64 x.Time,.vs 1 (d1 (PV.int .i64) x.aw)]
structure cZ where
 dl:List Int
 dr:List Int
 deriving DecidableEq,Inhabited
def cZ.enc(x:cZ):PV:=.agg [.vs 1 (d1 (PV.int .i64) x.dl),.vs 1 (d1 (PV.int .i64) x.dr)]
structure cy where
 Kind:Int
 eB:Int
 Priority:Int
 ku:Int
 l9:Int
 sd:Bool
 uV:Bool
 mZ:Int
 pB:Int
 deriving DecidableEq,Inhabited
def cy.enc(x:cy):PV:=.agg [.int .i64 x.Kind,.int .i64 x.eB,.int .i64 x.Priority,.int .i64 x.ku,.int .i64 x.l9,.bool x.sd,.bool x.uV,.int .i64 x.mZ,.int .i64 x.pB]
structure bH where
 Kind:Int
 A:Int
 B:Int
 C:Int
 deriving DecidableEq,Inhabited
def bH.enc(x:bH):PV:=.agg [.int .i64 x.Kind,.int .i64 x.A,.int .i64 x.B,.int .i64 x.C]
structure dK where
 Event:bH
 Time:Int
 Code:Int
 ll:List Int
 deriving DecidableEq,Inhabited
def dK.enc(x:dK):PV:=.agg [.int .i64 x.Event.Kind,.int .i64 x.Event.A,.int .i64 x.Event.B,.int .i64 x.Event.C,.int .i64 x.Time,.int .i64 x.Code,.vs 1 (d1 (PV.int .i64) x.ll)]
structure aE where
 au:aB
 ao:ak
 cI:List bI
 bR:bE
 bM:cd
 cq:List aT
 bZ:List aT
 cW:cZ
 bw:aL
 bz:bQ
 Keys:bA
 cL:b7
 bq:aL
 bS:List cy
 bB:List dK
 deriving DecidableEq,Inhabited
def aE.enc(x:aE):PV:=.agg [.vs 2 (d1 bP.enc x.au.ao.ai),.vs 10 (d1 aZ.enc x.au.ao.af),.int .i64 x.au.Time,.vs 3 (d1 bC.enc x.au.aN),.vs 1 (d1 (PV.int .i64) x.au.aw),.vs 4 (d1 aS.enc x.au.aQ),.vs 1 (d1 (PV.int .i64) x.au.cn),.vs 1 (d1 (PV.int .i64) x.au.cf),.vs 1 (d1 (λa=>PV.vs 1 (d1 (PV.int .i64) a)) x.au.bp),.vs 2 (d1 bP.enc x.ao.ai),.vs 10 (d1 aZ.enc x.ao.af),.vs 2 (d1 bI.enc x.cI),.vs 1 (d1 (PV.int .i64) x.bR.Safe),.vs 1 (d1 (PV.int .i64) x.bR.dg),.vs 1 (d1 (PV.int .i64) x.bR.dG),.int .i64 x.bR.er,.vs 1 (d1 (PV.int .i64) x.bM.bT),.int .i64 x.bM.dZ,.int .i64 x.bM.ed,.vs 4 (d1 aT.enc x.cq),.vs 4 (d1 aT.enc x.bZ),.vs 1 (d1 (PV.int .i64) x.cW.dl),.vs 1 (d1 (PV.int .i64) x.cW.dr),.vs 2 (d1 ay.enc x.bw.aA),.int .i64 x.bz.Time,.vs 1 (d1 (PV.int .i64) x.bz.an),.vs 1 (d1 (PV.int .i64) x.Keys.af),.vs 1 (d1 (PV.int .i64) x.Keys.Keys),.bool x.Keys.Out,.int .i64 x.cL.State,.int .i64 x.cL.dD,.int .i64 x.cL.Second,.int .i64 x.cL.Time,.vs 2 (d1 ay.enc x.bq.aA),.vs 9 (d1 cy.enc x.bS),.vs 7 (d1 dK.enc x.bB)]
structure aR where
 aI:aE
 named:List Int
 deriving DecidableEq,Inhabited
structure fa where
 kO:Int
 Kind:Int
 Data:List Int
 deriving DecidableEq,Inhabited
def fa.enc(x:fa):PV:=.agg [.int .i64 x.kO,.int .i64 x.Kind,.vs 1 (d1 (PV.int .u8) x.Data)]
structure dS where
 Reader:Int
 Tag:Int
 an:Int
 To:Int
 deriving DecidableEq,Inhabited
def dS.enc(x:dS):PV:=.agg [.int .i64 x.Reader,.int .i64 x.Tag,.int .i64 x.an,.int .i64 x.To]
structure dC where
 Reader:Int
 Tag:Int
 an:Int
 To:Int
 deriving DecidableEq,Inhabited
def dC.enc(x:dC):PV:=.agg [.int .i64 x.Reader,.int .i64 x.Tag,.int .i64 x.an,.int .i64 x.To]
structure kC where
 kind:Int
 Dn:Int
 deriving DecidableEq,Inhabited
def kC.enc(x:kC):PV:=.agg [.int .i64 x.kind,.int .i64 x.Dn]
structure jf where
 x:cd
 s:b7
 k:bA
 b:aL
 t:Int
 from_:Int
 deriving DecidableEq,Inhabited
def jf.enc(x:jf):PV:=.agg [.vs 1 (d1 (PV.int .i64) x.x.bT),.int .i64 x.x.dZ,.int .i64 x.x.ed,.int .i64 x.s.State,.int .i64 x.s.dD,.int .i64 x.s.Second,.int .i64 x.s.Time,.vs 1 (d1 (PV.int .i64) x.k.af),.vs 1 (d1 (PV.int .i64) x.k.Keys),.bool x.k.Out,.vs 2 (d1 ay.enc x.b.aA),.int .i64 x.t,.int .i64 x.from_]
structure cS where
 gX:Int
 from_:Int
 b9:Int
 time:Int
 deriving DecidableEq,Inhabited
def cS.enc(x:cS):PV:=.agg [.int .i64 x.gX,.int .i64 x.from_,.int .i64 x.b9,.int .i64 x.time]
structure cm where
 n:Int
 steps:List cS
 safe:List Bool
 bad:List Bool
 deriving DecidableEq,Inhabited
def cm.enc(x:cm):PV:=.agg [.int .i64 x.n,.vs 4 (d1 cS.enc x.steps),.vs 1 (d1 PV.bool x.safe),.vs 1 (d1 PV.bool x.bad)]
structure da where
 time:Int
 roads:Int
 deriving DecidableEq,Inhabited
def da.enc(x:da):PV:=.agg [.int .i64 x.time,.int .i64 x.roads]
structure ju where
 a0:Int
 a1:Int
 deriving DecidableEq,Inhabited
def ju.enc(x:ju):PV:=.agg [.int .i64 x.a0,.int .i64 x.a1]
structure bD where
 L:List Int
 At:Int
 deriving DecidableEq,Inhabited
structure gM where
 ao:ak
 aQ:List aS
 ai:List Int
 aw:List Int
 cI:List bI
 bR:bE
 bM:cd
 gZ:List Int
 deriving DecidableEq,Inhabited
def gM.enc(x:gM):PV:=.agg [.vs 2 (d1 bP.enc x.ao.ai),.vs 10 (d1 aZ.enc x.ao.af),.vs 4 (d1 aS.enc x.aQ),.vs 1 (d1 (PV.int .i64) x.ai),.vs 1 (d1 (PV.int .i64) x.aw),.vs 2 (d1 bI.enc x.cI),.vs 1 (d1 (PV.int .i64) x.bR.Safe),.vs 1 (d1 (PV.int .i64) x.bR.dg),.vs 1 (d1 (PV.int .i64) x.bR.dG),.int .i64 x.bR.er,.vs 1 (d1 (PV.int .i64) x.bM.bT),.int .i64 x.bM.dZ,.int .i64 x.bM.ed,.vs 1 (d1 (PV.int .i64) x.gZ)]
structure qe where
 Ho:List Int
 Hp:Int
 deriving DecidableEq,Inhabited
def qe.enc(x:qe):PV:=.agg [.vs 1 (d1 (PV.int .u8) x.Ho),.int .i64 x.Hp]
abbrev bU:Type:=List bP
abbrev bW:Type:=List aZ
abbrev dh:Type:=List bC
abbrev ah:Type:=List Int
abbrev dq:Type:=List aS
abbrev du:Type:=List (List Int)
abbrev Y1:Type:=bU×bW×Int×dh×ah×dq×ah×ah×du×Int
def u1(a:aB)(b:Int):Y1:=(a.ao.ai,a.ao.af,a.Time,a.aN,a.aw,a.aQ,a.cn,a.cf,a.bp,b)
def CU(f:Y1):aB:=let (z0,g,h,d,i,c,b,a,e,_):=f;(aB.mk (ak.mk z0 g) h d i c b a e)
def Eg(a:Y1):Int:=a.2.2.2.2.2.2.2.2.2
abbrev Y2:Type:=bU×bW×Int×ah×dq×ah×ah×du×dh×Int
def u2(a:aB)(b:Int):Y2:=(a.ao.ai,a.ao.af,a.Time,a.aw,a.aQ,a.cn,a.cf,a.bp,a.aN,b)
abbrev Y3:Type:=bU×bW×Int×dh×ah×dq×ah×ah×du
def u3(a:aB):Y3:=(a.ao.ai,a.ao.af,a.Time,a.aN,a.aw,a.aQ,a.cn,a.cf,a.bp)
def wZ(f:Y3):aB:=let (z0,g,h,d,i,c,b,a,e):=f;(aB.mk (ak.mk z0 g) h d i c b a e)
abbrev Y4:Type:=bU×bW×Int×ah×dq×ah×du×dh×ah×Int
def u4(a:aB)(b:Int):Y4:=(a.ao.ai,a.ao.af,a.Time,a.aw,a.aQ,a.cf,a.bp,a.aN,a.cn,b)
abbrev Y8:Type:=bU×bW×Int×ah×dq×dh×ah×ah×du×Int
def u8(a:aB)(b:Int):Y8:=(a.ao.ai,a.ao.af,a.Time,a.aw,a.aQ,a.aN,a.cn,a.cf,a.bp,b)
def L6(f:Y8):aB:=let (z0,g,h,d,i,c,b,a,e,_):=f;(aB.mk (ak.mk z0 g) h c d i b a e)
def T0(a:Y8):Int:=a.2.2.2.2.2.2.2.2.2
abbrev Y9:Type:=bU×bW×Int×dh×ah×ah×ah×du×dq×Int
def u9(a:aB)(b:Int):Y9:=(a.ao.ai,a.ao.af,a.Time,a.aN,a.aw,a.cn,a.cf,a.bp,a.aQ,b)
def Oe(f:Y9):aB:=let (z0,g,h,d,i,c,b,a,e,_):=f;(aB.mk (ak.mk z0 g) h d i e c b a)
def Nk(a:Y9):Int:=a.2.2.2.2.2.2.2.2.2
abbrev Bf:Type:=bU×bW×Int×ah×ah×ah×du×dq×Int
def Ga(a:aB)(b:Int):Bf:=(a.ao.ai,a.ao.af,a.Time,a.aw,a.cn,a.cf,a.bp,a.aQ,b)
def Pa(a:dh)(f:Bf):aB:=let (z0,g,h,e,i,d,c,b,_):=f;(aB.mk (ak.mk z0 g) h a e b i d c)
def Oj(a:Bf):Int:=a.2.2.2.2.2.2.2.2
abbrev CN:Type:=bU×bW×Int×ah×dq×ah×ah×du
def DY(a:aB):CN:=(a.ao.ai,a.ao.af,a.Time,a.aw,a.aQ,a.cn,a.cf,a.bp)
def Rg(a:dh)(f:CN):aB:=let (z0,g,h,e,i,d,c,b):=f;(aB.mk (ak.mk z0 g) h a e i d c b)
abbrev EM:Type:=bU×bW×Int×ah×dq×ah×ah×du×Int
def J4(a:aB)(b:Int):EM:=(a.ao.ai,a.ao.af,a.Time,a.aw,a.aQ,a.cn,a.cf,a.bp,b)
def LU(a:dh)(f:EM):aB:=let (z0,g,h,e,i,d,c,b,_):=f;(aB.mk (ak.mk z0 g) h a e i d c b)
def Tv(a:EM):Int:=a.2.2.2.2.2.2.2.2
abbrev F4:Type:=dh×bU×bW×Int×ah×dq×ah×ah×du
def B7(a:aB):F4:=(a.aN,a.ao.ai,a.ao.af,a.Time,a.aw,a.aQ,a.cn,a.cf,a.bp)
def Bi(f:F4):aB:=let (z0,g,h,d,i,c,b,a,e):=f;(aB.mk (ak.mk g h) d z0 i c b a e)
abbrev eD:Type:=List bI
abbrev ck:Type:=List aT
abbrev cG:Type:=List ay
abbrev eP:Type:=List cy
abbrev eK:Type:=List dK
abbrev pJ:Type:=bU×bW×Int×dh×ah×dq×ah×ah×du×bU×bW×eD×ah×ah×ah×Int×ah×Int×Int×ck×ck×ah×ah×cG×Int×ah×ah×ah×Bool×Int×Int×Int×Int×cG×eP×eK×Int
def u16(a:aE)(e:Int):pJ:=let b:=a.au;let d:=a.bR;let c:=a.cL;(b.ao.ai,b.ao.af,b.Time,b.aN,b.aw,b.aQ,b.cn,b.cf,b.bp,a.ao.ai,a.ao.af,a.cI,d.Safe,d.dg,d.dG,d.er,a.bM.bT,a.bM.dZ,a.bM.ed,a.cq,a.bZ,a.cW.dl,a.cW.dr,a.bw.aA,a.bz.Time,a.bz.an,a.Keys.af,a.Keys.Keys,a.Keys.Out,c.State,c.dD,c.Second,c.Time,a.bq.aA,a.bS,a.bB,e)
def sN(d:pJ):aE:=let (z0,f,g,A,D,n,i,a,J,F,k,j,E,y,l,z,c,s,B,o,h,p,t,x,u,r,C,e,I,G,m,v,b,w,H,q,_):=d;(aE.mk (aB.mk (ak.mk z0 f) g A D n i a J) (ak.mk F k) j (bE.mk E y l z) (cd.mk c s B) o h (cZ.mk p t) (aL.mk x) (bQ.mk u r) (bA.mk C e I) (b7.mk G m v b) (aL.mk w) H q)
def sE(a:pJ):Int:=a.2.2.2.2.2.2.2.2.2.2.2.2.2.2.2.2.2.2.2.2.2.2.2.2.2.2.2.2.2.2.2.2.2.2.2.2
abbrev qc:Type:=bU×bW×Int×dh×ah×dq×ah×ah×du×bU×bW×eD×ah×ah×ah×Int×ah×Int×Int×ck×ck×ah×ah×cG×Int×ah×ah×ah×Bool×Int×Int×Int×Int×cG×eP×eK
def lR(a:aE):qc:=let b:=a.au;let c:=a.bR;let d:=a.cL;(b.ao.ai,b.ao.af,b.Time,b.aN,b.aw,b.aQ,b.cn,b.cf,b.bp,a.ao.ai,a.ao.af,a.cI,c.Safe,c.dg,c.dG,c.er,a.bM.bT,a.bM.dZ,a.bM.ed,a.cq,a.bZ,a.cW.dl,a.cW.dr,a.bw.aA,a.bz.Time,a.bz.an,a.Keys.af,a.Keys.Keys,a.Keys.Out,d.State,d.dD,d.Second,d.Time,a.bq.aA,a.bS,a.bB)
def tT(d:qc):aE:=let (z0,f,g,A,D,n,i,a,J,F,k,j,E,y,l,z,c,s,B,o,h,p,t,x,u,r,C,e,I,G,m,v,b,w,H,q):=d;(aE.mk (aB.mk (ak.mk z0 f) g A D n i a J) (ak.mk F k) j (bE.mk E y l z) (cd.mk c s B) o h (cZ.mk p t) (aL.mk x) (bQ.mk u r) (bA.mk C e I) (b7.mk G m v b) (aL.mk w) H q)
abbrev Y26:Type:=bU×bW×Int×dh×ah×dq×ah×ah×du×bU×bW×eD×ah×ah×ah×Int×ah×Int×Int×ck×ck×ah×ah×cG×Int×ah×ah×ah×Bool×Int×Int×Int×Int×cG×eP×eK×ah
def I0(d:Y26):aR:=let (z0,f,g,B,E,o,j,a,K,G,l,k,F,z,m,A,c,t,C,p,i,q,u,y,v,s,D,e,J,H,n,w,b,x,I,r,h):=d;(aR.mk (aE.mk (aB.mk (ak.mk z0 f) g B E o j a K) (ak.mk G l) k (bE.mk F z m A) (cd.mk c t C) p i (cZ.mk q u) (aL.mk y) (bQ.mk v s) (bA.mk D e J) (b7.mk H n w b) (aL.mk x) I r) h)
abbrev Hx:Type:=Int×Int×Int×Int
def u31(a:dS):Hx:=(a.Reader,a.Tag,a.an,a.To)
def anK(a:Hx):dS:=(dS.mk a.1 a.2.1 a.2.2.1 a.2.2.2)
abbrev uI:Type:=List dC
abbrev sw:Type:=ck×ah×Int×Int×Int×uI×Int×Int
def u32(c:List aT)(a:aS)(b:List dC)(d:Int)(e:Int):sw:=(c,a.ai,a.dX,a.dY,a.cR,b,d,e)
def Xb(a:sw):List aT:=a.1
def acU(a:sw):aS:=(aS.mk a.2.1 a.2.2.1 a.2.2.2.1 a.2.2.2.2.1)
def aaB(a:sw):List dC:=a.2.2.2.2.2.1
def afG(a:sw):Int:=a.2.2.2.2.2.2.1
def adt(a:sw):Int:=a.2.2.2.2.2.2.2
abbrev pg:Type:=Int×Int×ah×Int×Int×Int×uI×ck
def ql(b:Int)(c:Int)(a:aS)(d:List dC)(e:List aT):pg:=(b,c,a.ai,a.dX,a.dY,a.cR,d,e)
def Jw(a:pg):Int:=a.1
def KY(a:pg):Int:=a.2.1
def Kd(a:pg):aS:=(aS.mk a.2.2.1 a.2.2.2.1 a.2.2.2.2.1 a.2.2.2.2.2.1)
def FE(a:pg):List dC:=a.2.2.2.2.2.2.1
def vh(a:pg):List aT:=a.2.2.2.2.2.2.2
abbrev oI:Type:=Int×Int×ah×Int×Int×Int×uI×ck×Int
def vI(c:Int)(d:Int)(a:aS)(e:List dC)(f:List aT)(b:Int):oI:=(c,d,a.ai,a.dX,a.dY,a.cR,e,f,b)
def ac8(a:oI):Int:=a.1
def ah4(a:oI):Int:=a.2.1
def afQ(a:oI):aS:=(aS.mk a.2.2.1 a.2.2.2.1 a.2.2.2.2.1 a.2.2.2.2.2.1)
def akR(a:oI):List dC:=a.2.2.2.2.2.2.1
def aiI(a:oI):List aT:=a.2.2.2.2.2.2.2.1
def anA(a:oI):Int:=a.2.2.2.2.2.2.2.2
abbrev qt:Type:=Int×Int×ah×Int×Int×Int×ck×uI
def qA(b:Int)(c:Int)(a:aS)(d:List aT)(e:List dC):qt:=(b,c,a.ai,a.dX,a.dY,a.cR,d,e)
def LJ(a:qt):Int:=a.1
def Tn(a:qt):Int:=a.2.1
def MT(a:qt):aS:=(aS.mk a.2.2.1 a.2.2.2.1 a.2.2.2.2.1 a.2.2.2.2.2.1)
def Mb(a:qt):List aT:=a.2.2.2.2.2.2.1
def N2(a:qt):List dC:=a.2.2.2.2.2.2.2
abbrev vW:Type:=ck×ah×Int×Int×Int×Int×Int×uI
def Q0(a:vW):List aT:=a.1
def Qc(a:vW):aS:=(aS.mk a.2.1 a.2.2.1 a.2.2.2.1 a.2.2.2.2.1)
def R8(a:vW):Int:=a.2.2.2.2.2.1
def Rc(a:vW):Int:=a.2.2.2.2.2.2.1
def Tj(a:vW):List dC:=a.2.2.2.2.2.2.2
abbrev qv:Type:=ck×ah×Int×Int×Int×Int×Int×ck×uI
def pC(d:List aT)(a:aS)(b:Int)(e:Int)(f:List aT)(c:List dC):qv:=(d,a.ai,a.dX,a.dY,a.cR,b,e,f,c)
def Se(a:qv):List aT:=a.1
def Fp(a:qv):aS:=(aS.mk a.2.1 a.2.2.1 a.2.2.2.1 a.2.2.2.2.1)
def KG(a:qv):Int:=a.2.2.2.2.2.1
def FU(a:qv):Int:=a.2.2.2.2.2.2.1
def Hz(a:qv):List aT:=a.2.2.2.2.2.2.2.1
def GM(a:qv):List dC:=a.2.2.2.2.2.2.2.2
abbrev pT:Type:=Int×ah×Int×Int×Int×Int×Int×Int×Int×Int×aL×Int
def Ft(d:Int)(b:aS)(a:dC)(e:Int)(f:aL)(c:Int):pT:=(d,b.ai,b.dX,b.dY,b.cR,a.Reader,a.Tag,a.an,a.To,e,f,c)
def Gy(a:pT):Int:=a.1
def Ib(a:pT):aS:=(aS.mk a.2.1 a.2.2.1 a.2.2.2.1 a.2.2.2.2.1)
def HF(d:pT):dC:=let (_,_,_,_,_,c,b,a,e,_,_,_):=d;(dC.mk c b a e)
def I2(a:pT):Int:=a.2.2.2.2.2.2.2.2.2.1
def Ir(a:pT):aL:=a.2.2.2.2.2.2.2.2.2.2.1
def JK(a:pT):Int:=a.2.2.2.2.2.2.2.2.2.2.2
abbrev CQ:Type:=bU×bW×Int×dh×ah×dq×ah×ah×du×bU×bW×eD×ah×ah×ah×Int×ah×Int×Int×ah×ah×cG×Int×ah×ah×ah×Bool×Int×Int×Int×Int×cG×eP×eK×Int
def J3(a:aE)(e:Int):CQ:=let b:=a.au;let d:=a.bR;let c:=a.cL;(b.ao.ai,b.ao.af,b.Time,b.aN,b.aw,b.aQ,b.cn,b.cf,b.bp,a.ao.ai,a.ao.af,a.cI,d.Safe,d.dg,d.dG,d.er,a.bM.bT,a.bM.dZ,a.bM.ed,a.cW.dl,a.cW.dr,a.bw.aA,a.bz.Time,a.bz.an,a.Keys.af,a.Keys.Keys,a.Keys.Out,c.State,c.dD,c.Second,c.Time,a.bq.aA,a.bS,a.bB,e)
def Rx(u:ck)(a:ck)(e:CQ):aE:=let (z0,h,f,B,E,o,j,b,J,G,l,k,F,z,m,A,d,t,C,p,i,q,s,y,v,r,D,g,I,H,n,w,c,x,_):=e;(aE.mk (aB.mk (ak.mk z0 h) f B E o j b J) (ak.mk G l) k (bE.mk F z m A) (cd.mk d t C) u a (cZ.mk p i) (aL.mk q) (bQ.mk s y) (bA.mk v r D) (b7.mk g I H n) (aL.mk w) c x)
def Tu(a:CQ):Int:=a.2.2.2.2.2.2.2.2.2.2.2.2.2.2.2.2.2.2.2.2.2.2.2.2.2.2.2.2.2.2.2.2.2.2
abbrev J9:Type:=bU×bW×Int×dh×ah×dq×ah×ah×du×bU×bW×eD×ah×ah×ah×Int×ah×Int×Int×ah×ah×cG×Int×ah×ah×ah×Bool×Int×Int×Int×Int×cG×eP×eK
def Mj(a:aE):J9:=let b:=a.au;let c:=a.bR;let d:=a.cL;(b.ao.ai,b.ao.af,b.Time,b.aN,b.aw,b.aQ,b.cn,b.cf,b.bp,a.ao.ai,a.ao.af,a.cI,c.Safe,c.dg,c.dG,c.er,a.bM.bT,a.bM.dZ,a.bM.ed,a.cW.dl,a.cW.dr,a.bw.aA,a.bz.Time,a.bz.an,a.Keys.af,a.Keys.Keys,a.Keys.Out,d.State,d.dD,d.Second,d.Time,a.bq.aA,a.bS,a.bB)
def Uh(u:ck)(a:ck)(e:J9):aE:=let (z0,h,f,B,E,o,j,b,J,G,l,k,F,z,m,A,d,t,C,p,i,q,s,y,v,r,D,g,I,H,n,w,c,x):=e;(aE.mk (aB.mk (ak.mk z0 h) f B E o j b J) (ak.mk G l) k (bE.mk F z m A) (cd.mk d t C) u a (cZ.mk p i) (aL.mk q) (bQ.mk s y) (bA.mk v r D) (b7.mk g I H n) (aL.mk w) c x)
abbrev ZU:Type:=bU×Int×dh×ah×dq×ah×ah×du
def u64(a:aB):ZU:=(a.ao.ai,a.Time,a.aN,a.aw,a.aQ,a.cn,a.cf,a.bp)
abbrev zu:Type:=bU×Int×ah×ah×ah×du×dq×Int
def KL(a:aB)(b:Int):zu:=(a.ao.ai,a.Time,a.aw,a.cn,a.cf,a.bp,a.aQ,b)
def MR(a:bW)(b:dh)(f:zu):aB:=let (z0,g,h,e,i,d,c,_):=f;(aB.mk (ak.mk z0 a) g b h c e i d)
def L9(a:zu):Int:=a.2.2.2.2.2.2.2
abbrev Ba:Type:=bU×Int×ah×dq×ah×ah×du
def CD(a:aB):Ba:=(a.ao.ai,a.Time,a.aw,a.aQ,a.cn,a.cf,a.bp)
def O3(a:bW)(b:dh)(f:Ba):aB:=let (z0,g,h,e,i,d,c):=f;(aB.mk (ak.mk z0 a) g b h e i d c)
abbrev Df:Type:=bU×Int×ah×dq×ah×ah×du×Int
def IC(a:aB)(b:Int):Df:=(a.ao.ai,a.Time,a.aw,a.aQ,a.cn,a.cf,a.bp,b)
def R4(a:bW)(b:dh)(f:Df):aB:=let (z0,g,h,e,i,d,c,_):=f;(aB.mk (ak.mk z0 a) g b h e i d c)
def Lw(a:Df):Int:=a.2.2.2.2.2.2.2
abbrev KA:Type:=bW×dh×bU×Int×ah×dq×ah×ah×du
def MF(a:aB):KA:=(a.ao.af,a.aN,a.ao.ai,a.Time,a.aw,a.aQ,a.cn,a.cf,a.bp)
def VD(f:KA):aB:=let (z0,g,h,d,i,c,b,a,e):=f;(aB.mk (ak.mk h z0) d g i c b a e)
abbrev uH:Type:=List cS
abbrev lU:Type:=Int×uH
def iC(a:cm):lU:=(a.n,a.steps)
abbrev n9:Type:=List Bool
def ox(b:n9)(c:n9)(a:lU):cm:=(cm.mk a.1 a.2 b c)
abbrev pE:Type:=Int×uH×Int
def nC(a:cm)(b:Int):pE:=(a.n,a.steps,b)
def wK(b:n9)(c:n9)(a:pE):cm:=(cm.mk a.1 a.2.1 b c)
def wo(a:pE):Int:=a.2.2
abbrev Il:Type:=uH×n9×Int×n9
def JJ(a:cm):Il:=(a.steps,a.bad,a.n,a.safe)
def Lk(a:Il):cm:=(cm.mk a.2.2.1 a.1 a.2.2.2 a.2.1)
abbrev FP:Type:=eK×bU×bW×Int×dh×ah×dq×ah×ah×du×bU×bW×eD×ah×ah×ah×Int×ah×Int×Int×ck×ck×ah×ah×cG×Int×ah×ah×ah×Bool×Int×Int×Int×Int×cG×eP
def OE(a:aE):FP:=let b:=a.au;let c:=a.bR;let d:=a.cL;(a.bB,b.ao.ai,b.ao.af,b.Time,b.aN,b.aw,b.aQ,b.cn,b.cf,b.bp,a.ao.ai,a.ao.af,a.cI,c.Safe,c.dg,c.dG,c.er,a.bM.bT,a.bM.dZ,a.bM.ed,a.cq,a.bZ,a.cW.dl,a.cW.dr,a.bw.aA,a.bz.Time,a.bz.an,a.Keys.af,a.Keys.Keys,a.Keys.Out,d.State,d.dD,d.Second,d.Time,a.bq.aA,a.bS)
def aiF(d:FP):aE:=let (z0,f,g,A,D,n,i,a,J,F,k,j,E,y,l,z,c,s,B,o,h,p,t,x,u,r,C,e,I,G,m,v,b,w,H,q):=d;(aE.mk (aB.mk (ak.mk f g) A D n i a J F) (ak.mk k j) E (bE.mk y l z c) (cd.mk s B o) h p (cZ.mk t x) (aL.mk u) (bQ.mk r C) (bA.mk e I G) (b7.mk m v b w) (aL.mk H) q z0)
abbrev Ic:Type:=bU×bW×Int×dh×ah×dq×ah×ah×du×bU×bW×eD×ah×ah×ah×Int×ah×Int×Int×ck×ck×ah×ah×cG×Int×ah×ah×ah×Bool×Int×Int×Int×Int×cG×eP
def RG(a:aE):Ic:=let b:=a.au;let c:=a.bR;let d:=a.cL;(b.ao.ai,b.ao.af,b.Time,b.aN,b.aw,b.aQ,b.cn,b.cf,b.bp,a.ao.ai,a.ao.af,a.cI,c.Safe,c.dg,c.dG,c.er,a.bM.bT,a.bM.dZ,a.bM.ed,a.cq,a.bZ,a.cW.dl,a.cW.dr,a.bw.aA,a.bz.Time,a.bz.an,a.Keys.af,a.Keys.Keys,a.Keys.Out,d.State,d.dD,d.Second,d.Time,a.bq.aA,a.bS)
def ajj(t:eK)(d:Ic):aE:=let (z0,g,e,A,D,n,i,a,J,F,k,j,E,y,l,z,c,s,B,o,h,p,r,x,u,q,C,f,I,G,m,v,b,w,H):=d;(aE.mk (aB.mk (ak.mk z0 g) e A D n i a J) (ak.mk F k) j (bE.mk E y l z) (cd.mk c s B) o h (cZ.mk p r) (aL.mk x) (bQ.mk u q) (bA.mk C f I) (b7.mk G m v b) (aL.mk w) H t)
abbrev jt:Type:=ck×ck×eK×bU×bW×Int×dh×ah×dq×ah×ah×du×bU×bW×eD×ah×ah×ah×Int×ah×Int×Int×ah×ah×cG×Int×ah×ah×ah×Bool×Int×Int×Int×Int×cG×eP×ah×Int
def cT(h:aR)(i:Int):jt:=let a:=h.aI;let b:=a.au;let c:=a.bR;let f:=a.bM;let e:=a.Keys;let d:=a.cL;let g:=b.ao;(a.cq,a.bZ,a.bB,g.ai,g.af,b.Time,b.aN,b.aw,b.aQ,b.cn,b.cf,b.bp,a.ao.ai,a.ao.af,a.cI,c.Safe,c.dg,c.dG,c.er,f.bT,f.dZ,f.ed,a.cW.dl,a.cW.dr,a.bw.aA,a.bz.Time,a.bz.an,e.af,e.Keys,e.Out,d.State,d.dD,d.Second,d.Time,a.bq.aA,a.bS,h.named,i)
def fR(d:jt):aR:=let (z0,f,g,B,E,o,j,a,K,G,l,k,F,z,m,A,c,t,C,p,i,q,u,y,v,s,D,e,J,H,n,w,b,x,I,r,h,_):=d;(aR.mk (aE.mk (aB.mk (ak.mk B E) o j a K G l k) (ak.mk F z) m (bE.mk A c t C) (cd.mk p i q) z0 f (cZ.mk u y) (aL.mk v) (bQ.mk s D) (bA.mk e J H) (b7.mk n w b x) (aL.mk I) r g) h)
def fT(a:jt):Int:=a.2.2.2.2.2.2.2.2.2.2.2.2.2.2.2.2.2.2.2.2.2.2.2.2.2.2.2.2.2.2.2.2.2.2.2.2.2
abbrev Jr:Type:=ck×ck×eK×bU×bW×Int×dh×ah×dq×ah×ah×du×bU×bW×eD×ah×ah×ah×Int×ah×Int×Int×ah×ah×cG×Int×ah×ah×ah×Bool×Int×Int×Int×Int×cG×eP
def IW(a:aE):Jr:=let b:=a.au;let c:=a.bR;let d:=a.cL;(a.cq,a.bZ,a.bB,b.ao.ai,b.ao.af,b.Time,b.aN,b.aw,b.aQ,b.cn,b.cf,b.bp,a.ao.ai,a.ao.af,a.cI,c.Safe,c.dg,c.dG,c.er,a.bM.bT,a.bM.dZ,a.bM.ed,a.cW.dl,a.cW.dr,a.bw.aA,a.bz.Time,a.bz.an,a.Keys.af,a.Keys.Keys,a.Keys.Out,d.State,d.dD,d.Second,d.Time,a.bq.aA,a.bS)
def SD(d:Jr):aE:=let (z0,f,g,A,D,n,i,a,J,F,k,j,E,y,l,z,c,s,B,o,h,p,t,x,u,r,C,e,I,G,m,v,b,w,H,q):=d;(aE.mk (aB.mk (ak.mk A D) n i a J F k j) (ak.mk E y) l (bE.mk z c s B) (cd.mk o h p) z0 f (cZ.mk t x) (aL.mk u) (bQ.mk r C) (bA.mk e I G) (b7.mk m v b w) (aL.mk H) q g)
abbrev qz:Type:=ck×eK×bU×bW×Int×dh×ah×dq×ah×ah×du×bU×bW×eD×ah×ah×ah×Int×ah×Int×Int×ck×ah×ah×cG×Int×ah×ah×ah×Bool×Int×Int×Int×Int×cG×eP×ah×Int
def dp(h:aR)(i:Int):qz:=let a:=h.aI;let b:=a.au;let c:=a.bR;let f:=a.bM;let e:=a.Keys;let d:=a.cL;let g:=b.ao;(a.cq,a.bB,g.ai,g.af,b.Time,b.aN,b.aw,b.aQ,b.cn,b.cf,b.bp,a.ao.ai,a.ao.af,a.cI,c.Safe,c.dg,c.dG,c.er,f.bT,f.dZ,f.ed,a.bZ,a.cW.dl,a.cW.dr,a.bw.aA,a.bz.Time,a.bz.an,e.af,e.Keys,e.Out,d.State,d.dD,d.Second,d.Time,a.bq.aA,a.bS,h.named,i)
def iS(d:qz):aR:=let (z0,f,g,B,E,o,j,a,K,G,l,k,F,z,m,A,c,t,C,p,i,q,u,y,v,s,D,e,J,H,n,w,b,x,I,r,h,_):=d;(aR.mk (aE.mk (aB.mk (ak.mk g B) E o j a K G l) (ak.mk k F) z (bE.mk m A c t) (cd.mk C p i) z0 q (cZ.mk u y) (aL.mk v) (bQ.mk s D) (bA.mk e J H) (b7.mk n w b x) (aL.mk I) r f) h)
def iJ(a:qz):Int:=a.2.2.2.2.2.2.2.2.2.2.2.2.2.2.2.2.2.2.2.2.2.2.2.2.2.2.2.2.2.2.2.2.2.2.2.2.2
abbrev qW:Type:=Int×Int×Int×Int×ah×Int×Int×Int×ck×eK×bU×bW×Int×dh×ah×dq×ah×ah×du×bU×bW×eD×ah×ah×ah×Int×ah×Int×Int×ck×ah×ah×cG×Int×ah×ah×ah×Bool×Int×Int×Int×Int×cG×eP×ah×aL×Int
def La(d:dS)(e:aS)(j:aR)(k:aL)(l:Int):qW:=let a:=j.aI;let b:=a.au;let c:=a.bR;let h:=a.bM;let g:=a.Keys;let f:=a.cL;let i:=b.ao;(d.Reader,d.Tag,d.an,d.To,e.ai,e.dX,e.dY,e.cR,a.cq,a.bB,i.ai,i.af,b.Time,b.aN,b.aw,b.aQ,b.cn,b.cf,b.bp,a.ao.ai,a.ao.af,a.cI,c.Safe,c.dg,c.dG,c.er,h.bT,h.dZ,h.ed,a.bZ,a.cW.dl,a.cW.dr,a.bw.aA,a.bz.Time,a.bz.an,g.af,g.Keys,g.Out,f.State,f.dD,f.Second,f.Time,a.bq.aA,a.bS,j.named,k,l)
def F7(a:qW):dS:=(dS.mk a.1 a.2.1 a.2.2.1 a.2.2.2.1)
def HJ(a:qW):aS:=(aS.mk a.2.2.2.2.1 a.2.2.2.2.2.1 a.2.2.2.2.2.2.1 a.2.2.2.2.2.2.2.1)
def G2(d:qW):aR:=let (_,_,_,_,_,_,_,_,K,E,j,i,C,x,k,y,c,s,A,m,h,n,r,w,t,q,B,e,J,F,l,u,a,v,I,o,f,p,L,H,z,D,b,g,G,_,_):=d;(aR.mk (aE.mk (aB.mk (ak.mk j i) C x k y c s A) (ak.mk m h) n (bE.mk r w t q) (cd.mk B e J) K F (cZ.mk l u) (aL.mk a) (bQ.mk v I) (bA.mk o f p) (b7.mk L H z D) (aL.mk b) g E) G)
def IB(a:qW):aL:=a.2.2.2.2.2.2.2.2.2.2.2.2.2.2.2.2.2.2.2.2.2.2.2.2.2.2.2.2.2.2.2.2.2.2.2.2.2.2.2.2.2.2.2.2.2.1
def HV(a:qW):Int:=a.2.2.2.2.2.2.2.2.2.2.2.2.2.2.2.2.2.2.2.2.2.2.2.2.2.2.2.2.2.2.2.2.2.2.2.2.2.2.2.2.2.2.2.2.2.2
abbrev Dk:Type:=bU×bW×Int×dh×ah×dq×ah×ah×du×bU×bW×eD×ah×ah×ah×Int×ah×Int×Int×ck×ah×ah×cG×Int×ah×ah×ah×Bool×Int×Int×Int×Int×cG×eP×ah
def qI(h:aR):Dk:=let a:=h.aI;let b:=a.au;let c:=a.bR;let f:=a.bM;let e:=a.Keys;let d:=a.cL;let g:=b.ao;(g.ai,g.af,b.Time,b.aN,b.aw,b.aQ,b.cn,b.cf,b.bp,a.ao.ai,a.ao.af,a.cI,c.Safe,c.dg,c.dG,c.er,f.bT,f.dZ,f.ed,a.bZ,a.cW.dl,a.cW.dr,a.bw.aA,a.bz.Time,a.bz.an,e.af,e.Keys,e.Out,d.State,d.dD,d.Second,d.Time,a.bq.aA,a.bS,h.named)
def Sl(u:ck)(a:eK)(e:Dk):aR:=let (z0,h,f,B,E,o,j,b,K,G,l,k,F,z,m,A,d,t,C,p,i,q,s,y,v,r,D,g,J,H,n,w,c,x,I):=e;(aR.mk (aE.mk (aB.mk (ak.mk z0 h) f B E o j b K) (ak.mk G l) k (bE.mk F z m A) (cd.mk d t C) u p (cZ.mk i q) (aL.mk s) (bQ.mk y v) (bA.mk r D g) (b7.mk J H n w) (aL.mk c) x a) I)
abbrev vq:Type:=ck×eK×bU×bW×Int×dh×ah×dq×ah×ah×du×bU×bW×eD×ah×ah×ah×Int×ah×Int×Int×ck×ah×ah×cG×Int×ah×ah×ah×Bool×Int×Int×Int×Int×cG×eP×ah×Int×Int×Int×Int×ah×Int×Int×Int
def ol(j:aR)(e:dS)(d:aS):vq:=let a:=j.aI;let b:=a.au;let c:=a.bR;let h:=a.bM;let g:=a.Keys;let f:=a.cL;let i:=b.ao;(a.cq,a.bB,i.ai,i.af,b.Time,b.aN,b.aw,b.aQ,b.cn,b.cf,b.bp,a.ao.ai,a.ao.af,a.cI,c.Safe,c.dg,c.dG,c.er,h.bT,h.dZ,h.ed,a.bZ,a.cW.dl,a.cW.dr,a.bw.aA,a.bz.Time,a.bz.an,g.af,g.Keys,g.Out,f.State,f.dD,f.Second,f.Time,a.bq.aA,a.bS,j.named,e.Reader,e.Tag,e.an,e.To,d.ai,d.dX,d.dY,d.cR)
def MU(d:vq):aR:=let (z0,f,g,B,E,o,j,a,K,G,l,k,F,z,m,A,c,t,C,p,i,q,u,y,v,s,D,e,J,H,n,w,b,x,I,r,h,_,_,_,_,_,_,_,_):=d;(aR.mk (aE.mk (aB.mk (ak.mk g B) E o j a K G l) (ak.mk k F) z (bE.mk m A c t) (cd.mk C p i) z0 q (cZ.mk u y) (aL.mk v) (bQ.mk s D) (bA.mk e J H) (b7.mk n w b x) (aL.mk I) r f) h)
def Me(d:vq):dS:=let (_,_,_,_,_,_,_,_,_,_,_,_,_,_,_,_,_,_,_,_,_,_,_,_,_,_,_,_,_,_,_,_,_,_,_,_,_,b,e,a,c,_,_,_,_):=d;(dS.mk b e a c)
def N4(e:vq):aS:=let (_,_,_,_,_,_,_,_,_,_,_,_,_,_,_,_,_,_,_,_,_,_,_,_,_,_,_,_,_,_,_,_,_,_,_,_,_,_,_,_,_,b,c,a,d):=e;(aS.mk b c a d)
abbrev ug:Type:=ck×eK×bU×bW×Int×dh×ah×dq×ah×ah×du×bU×bW×eD×ah×ah×ah×Int×ah×Int×Int×ck×ah×ah×cG×Int×ah×ah×ah×Bool×Int×Int×Int×Int×cG×eP×ah×ah×Int×Int×Int×Int
def Cb(i:aR)(d:aS)(j:Int):ug:=let a:=i.aI;let b:=a.au;let c:=a.bR;let g:=a.bM;let f:=a.Keys;let e:=a.cL;let h:=b.ao;(a.cq,a.bB,h.ai,h.af,b.Time,b.aN,b.aw,b.aQ,b.cn,b.cf,b.bp,a.ao.ai,a.ao.af,a.cI,c.Safe,c.dg,c.dG,c.er,g.bT,g.dZ,g.ed,a.bZ,a.cW.dl,a.cW.dr,a.bw.aA,a.bz.Time,a.bz.an,f.af,f.Keys,f.Out,e.State,e.dD,e.Second,e.Time,a.bq.aA,a.bS,i.named,d.ai,d.dX,d.dY,d.cR,j)
def Q2(d:ug):aR:=let (z0,f,g,B,E,o,j,a,K,G,l,k,F,z,m,A,c,t,C,p,i,q,u,y,v,s,D,e,J,H,n,w,b,x,I,r,h,_,_,_,_,_):=d;(aR.mk (aE.mk (aB.mk (ak.mk g B) E o j a K G l) (ak.mk k F) z (bE.mk m A c t) (cd.mk C p i) z0 q (cZ.mk u y) (aL.mk v) (bQ.mk s D) (bA.mk e J H) (b7.mk n w b x) (aL.mk I) r f) h)
def Qd(d:ug):aS:=let (_,_,_,_,_,_,_,_,_,_,_,_,_,_,_,_,_,_,_,_,_,_,_,_,_,_,_,_,_,_,_,_,_,_,_,_,_,b,e,a,c,_):=d;(aS.mk b e a c)
def R9(a:ug):Int:=a.2.2.2.2.2.2.2.2.2.2.2.2.2.2.2.2.2.2.2.2.2.2.2.2.2.2.2.2.2.2.2.2.2.2.2.2.2.2.2.2.2
abbrev rY:Type:=ck×eK×bU×bW×Int×dh×ah×dq×ah×ah×du×bU×bW×eD×ah×ah×ah×Int×ah×Int×Int×ck×ah×ah×cG×Int×ah×ah×ah×Bool×Int×Int×Int×Int×cG×eP×ah
def mf(h:aR):rY:=let a:=h.aI;let b:=a.au;let c:=a.bR;let f:=a.bM;let e:=a.Keys;let d:=a.cL;let g:=b.ao;(a.cq,a.bB,g.ai,g.af,b.Time,b.aN,b.aw,b.aQ,b.cn,b.cf,b.bp,a.ao.ai,a.ao.af,a.cI,c.Safe,c.dg,c.dG,c.er,f.bT,f.dZ,f.ed,a.bZ,a.cW.dl,a.cW.dr,a.bw.aA,a.bz.Time,a.bz.an,e.af,e.Keys,e.Out,d.State,d.dD,d.Second,d.Time,a.bq.aA,a.bS,h.named)
def Al(d:rY):aR:=let (z0,f,g,B,E,o,j,a,K,G,l,k,F,z,m,A,c,t,C,p,i,q,u,y,v,s,D,e,J,H,n,w,b,x,I,r,h):=d;(aR.mk (aE.mk (aB.mk (ak.mk g B) E o j a K G l) (ak.mk k F) z (bE.mk m A c t) (cd.mk C p i) z0 q (cZ.mk u y) (aL.mk v) (bQ.mk s D) (bA.mk e J H) (b7.mk n w b x) (aL.mk I) r f) h)
abbrev qU:Type:=ck×eK×bU×bW×Int×dh×ah×dq×ah×ah×du×bU×bW×eD×ah×ah×ah×Int×ah×Int×Int×ck×ah×ah×cG×Int×ah×ah×ah×Bool×Int×Int×Int×Int×cG×eP×ah×Int×ah×Int×Int×Int×Int×Int×Int×Int×Int
def nJ(j:aR)(k:Int)(d:aS)(e:dC)(l:Int):qU:=let a:=j.aI;let b:=a.au;let c:=a.bR;let h:=a.bM;let g:=a.Keys;let f:=a.cL;let i:=b.ao;(a.cq,a.bB,i.ai,i.af,b.Time,b.aN,b.aw,b.aQ,b.cn,b.cf,b.bp,a.ao.ai,a.ao.af,a.cI,c.Safe,c.dg,c.dG,c.er,h.bT,h.dZ,h.ed,a.bZ,a.cW.dl,a.cW.dr,a.bw.aA,a.bz.Time,a.bz.an,g.af,g.Keys,g.Out,f.State,f.dD,f.Second,f.Time,a.bq.aA,a.bS,j.named,k,d.ai,d.dX,d.dY,d.cR,e.Reader,e.Tag,e.an,e.To,l)
def M2(d:qU):aR:=let (z0,f,g,B,E,o,j,a,K,G,l,k,F,z,m,A,c,t,C,p,i,q,u,y,v,s,D,e,J,H,n,w,b,x,I,r,h,_,_,_,_,_,_,_,_,_,_):=d;(aR.mk (aE.mk (aB.mk (ak.mk g B) E o j a K G l) (ak.mk k F) z (bE.mk m A c t) (cd.mk C p i) z0 q (cZ.mk u y) (aL.mk v) (bQ.mk s D) (bA.mk e J H) (b7.mk n w b x) (aL.mk I) r f) h)
def OW(a:qU):Int:=a.2.2.2.2.2.2.2.2.2.2.2.2.2.2.2.2.2.2.2.2.2.2.2.2.2.2.2.2.2.2.2.2.2.2.2.2.2.1
def N9(d:qU):aS:=let (_,_,_,_,_,_,_,_,_,_,_,_,_,_,_,_,_,_,_,_,_,_,_,_,_,_,_,_,_,_,_,_,_,_,_,_,_,_,e,b,c,a,_,_,_,_,_):=d;(aS.mk e b c a)
def P1(d:qU):dC:=let (_,_,_,_,_,_,_,_,_,_,_,_,_,_,_,_,_,_,_,_,_,_,_,_,_,_,_,_,_,_,_,_,_,_,_,_,_,_,_,_,_,_,b,a,c,e,_):=d;(dC.mk b a c e)
def RU(a:qU):Int:=a.2.2.2.2.2.2.2.2.2.2.2.2.2.2.2.2.2.2.2.2.2.2.2.2.2.2.2.2.2.2.2.2.2.2.2.2.2.2.2.2.2.2.2.2.2.2
abbrev uy:Type:=ck×eK×bU×bW×Int×dh×ah×dq×ah×ah×du×bU×bW×eD×ah×ah×ah×Int×ah×Int×Int×ck×ah×ah×cG×Int×ah×ah×ah×Bool×Int×Int×Int×Int×cG×eP×ah×Int
def uZ(h:aR)(i:Int):uy:=let a:=h.aI;let b:=a.au;let c:=a.bR;let f:=a.bM;let e:=a.Keys;let d:=a.cL;let g:=b.ao;(a.cq,a.bB,g.ai,g.af,b.Time,b.aN,b.aw,b.aQ,b.cn,b.cf,b.bp,a.ao.ai,a.ao.af,a.cI,c.Safe,c.dg,c.dG,c.er,f.bT,f.dZ,f.ed,a.bZ,a.cW.dl,a.cW.dr,a.bw.aA,a.bz.Time,a.bz.an,e.af,e.Keys,e.Out,d.State,d.dD,d.Second,d.Time,a.bq.aA,a.bS,h.named,i)
def Si(d:uy):aR:=let (z0,f,g,B,E,o,j,a,K,G,l,k,F,z,m,A,c,t,C,p,i,q,u,y,v,s,D,e,J,H,n,w,b,x,I,r,h,_):=d;(aR.mk (aE.mk (aB.mk (ak.mk g B) E o j a K G l) (ak.mk k F) z (bE.mk m A c t) (cd.mk C p i) z0 q (cZ.mk u y) (aL.mk v) (bQ.mk s D) (bA.mk e J H) (b7.mk n w b x) (aL.mk I) r f) h)
def LF(a:uy):Int:=a.2.2.2.2.2.2.2.2.2.2.2.2.2.2.2.2.2.2.2.2.2.2.2.2.2.2.2.2.2.2.2.2.2.2.2.2.2
abbrev DU:Type:=bU×bW×Int×dh×ah×dq×ah×ah×du×bU×bW×eD×ah×ah×ah×Int×ah×Int×Int×ah×ah×cG×Int×ah×ah×ah×Bool×Int×Int×Int×Int×cG×eP×ah×eD
def UN(h:aR)(i:List bI):DU:=let a:=h.aI;let b:=a.au;let c:=a.bR;let f:=a.bM;let e:=a.Keys;let d:=a.cL;let g:=b.ao;(g.ai,g.af,b.Time,b.aN,b.aw,b.aQ,b.cn,b.cf,b.bp,a.ao.ai,a.ao.af,a.cI,c.Safe,c.dg,c.dG,c.er,f.bT,f.dZ,f.ed,a.cW.dl,a.cW.dr,a.bw.aA,a.bz.Time,a.bz.an,e.af,e.Keys,e.Out,d.State,d.dD,d.Second,d.Time,a.bq.aA,a.bS,h.named,i)
def ao9(v:ck)(a:ck)(i:eK)(e:DU):aR:=let (z0,g,h,C,F,p,k,b,K,H,m,l,G,A,n,B,d,u,D,q,j,r,t,z,w,s,E,f,J,I,o,x,c,y,_):=e;(aR.mk (aE.mk (aB.mk (ak.mk z0 g) h C F p k b K) (ak.mk H m) l (bE.mk G A n B) (cd.mk d u D) v a (cZ.mk q j) (aL.mk r) (bQ.mk t z) (bA.mk w s E) (b7.mk f J I o) (aL.mk x) c i) y)
def Yk(a:DU):List bI:=a.2.2.2.2.2.2.2.2.2.2.2.2.2.2.2.2.2.2.2.2.2.2.2.2.2.2.2.2.2.2.2.2.2.2
abbrev jU:Type:=bU×bW×Int×dh×ah×dq×ah×ah×du×bU×bW×eD×ah×ah×ah×Int×ah×Int×Int×ah×ah×cG×Int×ah×ah×ah×Bool×Int×Int×Int×Int×cG×eP×ah×Int
def iv(h:aR)(i:Int):jU:=let a:=h.aI;let b:=a.au;let c:=a.bR;let f:=a.bM;let e:=a.Keys;let d:=a.cL;let g:=b.ao;(g.ai,g.af,b.Time,b.aN,b.aw,b.aQ,b.cn,b.cf,b.bp,a.ao.ai,a.ao.af,a.cI,c.Safe,c.dg,c.dG,c.er,f.bT,f.dZ,f.ed,a.cW.dl,a.cW.dr,a.bw.aA,a.bz.Time,a.bz.an,e.af,e.Keys,e.Out,d.State,d.dD,d.Second,d.Time,a.bq.aA,a.bS,h.named,i)
def nT(v:ck)(a:ck)(i:eK)(e:jU):aR:=let (z0,g,h,C,F,p,k,b,K,H,m,l,G,A,n,B,d,u,D,q,j,r,t,z,w,s,E,f,J,I,o,x,c,y,_):=e;(aR.mk (aE.mk (aB.mk (ak.mk z0 g) h C F p k b K) (ak.mk H m) l (bE.mk G A n B) (cd.mk d u D) v a (cZ.mk q j) (aL.mk r) (bQ.mk t z) (bA.mk w s E) (b7.mk f J I o) (aL.mk x) c i) y)
def nO(a:jU):Int:=a.2.2.2.2.2.2.2.2.2.2.2.2.2.2.2.2.2.2.2.2.2.2.2.2.2.2.2.2.2.2.2.2.2.2
abbrev jk:Type:=bU×bW×Int×dh×ah×dq×ah×ah×du×bU×bW×eD×ah×ah×ah×Int×ah×Int×Int×ah×ah×cG×Int×ah×ah×ah×Bool×Int×Int×Int×Int×cG×eP×ah
def fj(h:aR):jk:=let a:=h.aI;let b:=a.au;let c:=a.bR;let f:=a.bM;let e:=a.Keys;let d:=a.cL;let g:=b.ao;(g.ai,g.af,b.Time,b.aN,b.aw,b.aQ,b.cn,b.cf,b.bp,a.ao.ai,a.ao.af,a.cI,c.Safe,c.dg,c.dG,c.er,f.bT,f.dZ,f.ed,a.cW.dl,a.cW.dr,a.bw.aA,a.bz.Time,a.bz.an,e.af,e.Keys,e.Out,d.State,d.dD,d.Second,d.Time,a.bq.aA,a.bS,h.named)
def lu(v:ck)(a:ck)(i:eK)(e:jk):aR:=let (z0,g,h,C,F,p,k,b,K,H,m,l,G,A,n,B,d,u,D,q,j,r,t,z,w,s,E,f,J,I,o,x,c,y):=e;(aR.mk (aE.mk (aB.mk (ak.mk z0 g) h C F p k b K) (ak.mk H m) l (bE.mk G A n B) (cd.mk d u D) v a (cZ.mk q j) (aL.mk r) (bQ.mk t z) (bA.mk w s E) (b7.mk f J I o) (aL.mk x) c i) y)
abbrev nH:Type:=bU×bW×Int×dh×ah×dq×ah×ah×du×bU×bW×eD×ah×ah×ah×Int×ah×Int×Int×ah×ah×cG×Int×ah×ah×ah×Bool×Int×Int×Int×Int×cG×eP×ah×Int
def jw(h:aR)(i:Int):nH:=let a:=h.aI;let b:=a.au;let c:=a.bR;let f:=a.bM;let e:=a.Keys;let d:=a.cL;let g:=b.ao;(g.ai,g.af,b.Time,b.aN,b.aw,b.aQ,b.cn,b.cf,b.bp,a.ao.ai,a.ao.af,a.cI,c.Safe,c.dg,c.dG,c.er,f.bT,f.dZ,f.ed,a.cW.dl,a.cW.dr,a.bw.aA,a.bz.Time,a.bz.an,e.af,e.Keys,e.Out,d.State,d.dD,d.Second,d.Time,a.bq.aA,a.bS,h.named,i)
def tP(v:ck)(a:ck)(i:eK)(e:nH):aR:=let (z0,g,h,C,F,p,k,b,K,H,m,l,G,A,n,B,d,u,D,q,j,r,t,z,w,s,E,f,J,I,o,x,c,y,_):=e;(aR.mk (aE.mk (aB.mk (ak.mk z0 g) h C F p k b K) (ak.mk H m) l (bE.mk G A n B) (cd.mk d u D) v a (cZ.mk q j) (aL.mk r) (bQ.mk t z) (bA.mk w s E) (b7.mk f J I o) (aL.mk x) c i) y)
def um(a:nH):Int:=a.2.2.2.2.2.2.2.2.2.2.2.2.2.2.2.2.2.2.2.2.2.2.2.2.2.2.2.2.2.2.2.2.2.2
abbrev xe:Type:=ah×Int×ah×Int×Int×Int
def JB(b:bD)(a:aS):xe:=(b.L,b.At,a.ai,a.dX,a.dY,a.cR)
def ajn(a:xe):bD:=(bD.mk a.1 a.2.1)
def aom(a:xe):aS:=(aS.mk a.2.2.1 a.2.2.2.1 a.2.2.2.2.1 a.2.2.2.2.2)
abbrev DN:Type:=bU×bW×dq×ah×ah×eD×ah×ah×ah×Int×ah×Int×Int×ah
def zl(a:gM):DN:=let b:=a.bR;(a.ao.ai,a.ao.af,a.aQ,a.ai,a.aw,a.cI,b.Safe,b.dg,b.dG,b.er,a.bM.bT,a.bM.dZ,a.bM.ed,a.gZ)
def Nr(j:DN):gM:=let (z0,k,l,h,m,g,d,a,i,b,e,c,n,f):=j;(gM.mk (ak.mk z0 k) l h m g (bE.mk d a i b) (cd.mk e c n) f)
abbrev vL:Type:=ah×Int×Int×Int×Int×Int
def rB(b:bD)(a:bH):vL:=(b.L,b.At,a.Kind,a.A,a.B,a.C)
def aba(a:vL):bD:=(bD.mk a.1 a.2.1)
def age(a:vL):bH:=(bH.mk a.2.2.1 a.2.2.2.1 a.2.2.2.2.1 a.2.2.2.2.2)
abbrev Hr:Type:=Int×bU×bW×Int×dh×ah×dq×ah×ah×du×Int
def agv(a:Hr):Int:=a.1
def alg(g:Hr):aB:=let (_,h,i,e,j,d,c,a,f,b,_):=g;(aB.mk (ak.mk h i) e j d c a f b)
def aqn(a:Hr):Int:=a.2.2.2.2.2.2.2.2.2.2
abbrev Kh:Type:=ah×bU×bW×Int×dh×ah×dq×ah×ah×du×Int
def Lm(a:Kh):List Int:=a.1
def Nn(g:Kh):aB:=let (_,h,i,e,j,d,c,a,f,b,_):=g;(aB.mk (ak.mk h i) e j d c a f b)
def Mw(a:Kh):Int:=a.2.2.2.2.2.2.2.2.2.2
abbrev Ov:Type:=bC×bU×bW×Int×dh×ah×dq×ah×ah×du
def af1(a:Ov):bC:=a.1
def ak0(g:Ov):aB:=let (_,h,i,e,j,d,c,a,f,b):=g;(aB.mk (ak.mk h i) e j d c a f b)
abbrev QE:Type:=dh×bU×bW×Int×dh×ah×dq×ah×ah×du
def Mf(a:QE):List bC:=a.1
def T7(g:QE):aB:=let (_,h,i,e,j,d,c,a,f,b):=g;(aB.mk (ak.mk h i) e j d c a f b)
abbrev sY:Type:=Int×ah×Int×Int×Int×Int×Int×Int×Int×Int×ak×aL
def acS(a:sY):Int:=a.1
def aay(a:sY):aS:=(aS.mk a.2.1 a.2.2.1 a.2.2.2.1 a.2.2.2.2.1)
def afC(d:sY):dC:=let (_,_,_,_,_,c,b,a,e,_,_,_):=d;(dC.mk c b a e)
def akx(a:sY):Int:=a.2.2.2.2.2.2.2.2.2.1
def aim(a:sY):ak:=a.2.2.2.2.2.2.2.2.2.2.1
def ank(a:sY):aL:=a.2.2.2.2.2.2.2.2.2.2.2
abbrev Ju:Type:=bC×bU×bW×Int×dh×ah×dq×ah×ah×du×bU×bW×eD×ah×ah×ah×Int×ah×Int×Int×ck×ck×ah×ah×cG×Int×ah×ah×ah×Bool×Int×Int×Int×Int×cG×eP×eK×ah×Int×Int×Int×Int
def anW(a:Ju):bC:=a.1
def WC(d:Ju):aR:=let (_,f,g,C,F,o,j,a,L,H,l,k,G,A,m,B,c,u,D,p,i,q,v,z,w,t,E,e,K,I,n,x,b,y,J,r,h,s,_,_,_,_):=d;(aR.mk (aE.mk (aB.mk (ak.mk f g) C F o j a L H) (ak.mk l k) G (bE.mk A m B c) (cd.mk u D p) i q (cZ.mk v z) (aL.mk w) (bQ.mk t E) (bA.mk e K I) (b7.mk n x b y) (aL.mk J) r h) s)
def acs(d:Ju):bH:=let (_,_,_,_,_,_,_,_,_,_,_,_,_,_,_,_,_,_,_,_,_,_,_,_,_,_,_,_,_,_,_,_,_,_,_,_,_,_,e,b,c,a):=d;(bH.mk e b c a)
abbrev Gf:Type:=dh×bU×bW×Int×dh×ah×dq×ah×ah×du×bU×bW×eD×ah×ah×ah×Int×ah×Int×Int×ck×ck×ah×ah×cG×Int×ah×ah×ah×Bool×Int×Int×Int×Int×cG×eP×eK×ah×Int×Int×Int×Int
def On(a:Gf):List bC:=a.1
def Qm(d:Gf):aR:=let (_,f,g,C,F,o,j,a,L,H,l,k,G,A,m,B,c,u,D,p,i,q,v,z,w,t,E,e,K,I,n,x,b,y,J,r,h,s,_,_,_,_):=d;(aR.mk (aE.mk (aB.mk (ak.mk f g) C F o j a L H) (ak.mk l k) G (bE.mk A m B c) (cd.mk u D p) i q (cZ.mk v z) (aL.mk w) (bQ.mk t E) (bA.mk e K I) (b7.mk n x b y) (aL.mk J) r h) s)
def Px(d:Gf):bH:=let (_,_,_,_,_,_,_,_,_,_,_,_,_,_,_,_,_,_,_,_,_,_,_,_,_,_,_,_,_,_,_,_,_,_,_,_,_,_,e,b,c,a):=d;(bH.mk e b c a)
abbrev Rm:Type:=List da
abbrev EQ:Type:=cS×Int×Int×uH×n9×n9×Rm
def Wh(a:EQ):cS:=a.1
def aqq(a:EQ):Int:=a.2.1
def ZI(a:EQ):cm:=(cm.mk a.2.2.1 a.2.2.2.1 a.2.2.2.2.1 a.2.2.2.2.2.1)
def aeS(a:EQ):List da:=a.2.2.2.2.2.2
abbrev Bn:Type:=uH×Int×Int×uH×n9×n9×Rm
def afq(a:Bn):List cS:=a.1
def akl(a:Bn):Int:=a.2.1
def aic(a:Bn):cm:=(cm.mk a.2.2.1 a.2.2.2.1 a.2.2.2.2.1 a.2.2.2.2.2.1)
def am5(a:Bn):List da:=a.2.2.2.2.2.2
abbrev Fv:Type:=Int×bU×bW×ah×ah×ah×Int
def Zl(a:Fv):Int:=a.1
def Wt(a:Fv):ak:=(ak.mk a.2.1 a.2.2.1)
def ace(d:Fv):bE:=let (_,_,_,c,e,b,a):=d;(bE.mk c e b a)
abbrev Gc:Type:=ah×bU×bW×ah×ah×ah×Int
def Q5(a:Gc):List Int:=a.1
def Qh(a:Gc):ak:=(ak.mk a.2.1 a.2.2.1)
def Sc(d:Gc):bE:=let (_,_,_,c,e,b,a):=d;(bE.mk c e b a)
abbrev Rj:Type:=ck×ck×eK×bU×bW×Int×dh×ah×dq×ah×ah×du×bU×bW×eD×ah×ah×ah×Int×ah×Int×Int×ah×ah×cG×Int×ah×ah×ah×Bool×Int×Int×Int×Int×cG×eP×ah×bH
def kU(d:Rj):aR:=let (z0,f,g,B,E,o,j,a,K,G,l,k,F,z,m,A,c,t,C,p,i,q,u,y,v,s,D,e,J,H,n,w,b,x,I,r,h,_):=d;(aR.mk (aE.mk (aB.mk (ak.mk B E) o j a K G l k) (ak.mk F z) m (bE.mk A c t C) (cd.mk p i q) z0 f (cZ.mk u y) (aL.mk v) (bQ.mk s D) (bA.mk e J H) (b7.mk n w b x) (aL.mk I) r g) h)
def kT(a:Rj):bH:=a.2.2.2.2.2.2.2.2.2.2.2.2.2.2.2.2.2.2.2.2.2.2.2.2.2.2.2.2.2.2.2.2.2.2.2.2.2
abbrev wz:Type:=Int×Int×Int×Int×ah×Int×Int×Int×ck×eK×bU×bW×Int×dh×ah×dq×ah×ah×du×bU×bW×eD×ah×ah×ah×Int×ah×Int×Int×ck×ah×ah×cG×Int×ah×ah×ah×Bool×Int×Int×Int×Int×cG×eP×ah×ak×aL
def aeD(a:wz):dS:=(dS.mk a.1 a.2.1 a.2.2.1 a.2.2.2.1)
def acw(a:wz):aS:=(aS.mk a.2.2.2.2.1 a.2.2.2.2.2.1 a.2.2.2.2.2.2.1 a.2.2.2.2.2.2.2.1)
def ahv(d:wz):aR:=let (_,_,_,_,_,_,_,_,K,E,j,i,C,x,k,y,c,s,A,m,h,n,r,w,t,q,B,e,J,F,l,u,a,v,I,o,f,p,L,H,z,D,b,g,G,_,_):=d;(aR.mk (aE.mk (aB.mk (ak.mk j i) C x k y c s A) (ak.mk m h) n (bE.mk r w t q) (cd.mk B e J) K F (cZ.mk l u) (aL.mk a) (bQ.mk v I) (bA.mk o f p) (b7.mk L H z D) (aL.mk b) g E) G)
def amb(a:wz):ak:=a.2.2.2.2.2.2.2.2.2.2.2.2.2.2.2.2.2.2.2.2.2.2.2.2.2.2.2.2.2.2.2.2.2.2.2.2.2.2.2.2.2.2.2.2.2.1
def aj7(a:wz):aL:=a.2.2.2.2.2.2.2.2.2.2.2.2.2.2.2.2.2.2.2.2.2.2.2.2.2.2.2.2.2.2.2.2.2.2.2.2.2.2.2.2.2.2.2.2.2.2
abbrev Kv:Type:=ck×eK×bU×bW×Int×dh×ah×dq×ah×ah×du×bU×bW×eD×ah×ah×ah×Int×ah×Int×Int×ck×ah×ah×cG×Int×ah×ah×ah×Bool×Int×Int×Int×Int×cG×eP×ah×Int×Int
def Vp(d:Kv):aR:=let (z0,f,g,B,E,o,j,a,K,G,l,k,F,z,m,A,c,t,C,p,i,q,u,y,v,s,D,e,J,H,n,w,b,x,I,r,h,_,_):=d;(aR.mk (aE.mk (aB.mk (ak.mk g B) E o j a K G l) (ak.mk k F) z (bE.mk m A c t) (cd.mk C p i) z0 q (cZ.mk u y) (aL.mk v) (bQ.mk s D) (bA.mk e J H) (b7.mk n w b x) (aL.mk I) r f) h)
def apR(a:Kv):Int:=a.2.2.2.2.2.2.2.2.2.2.2.2.2.2.2.2.2.2.2.2.2.2.2.2.2.2.2.2.2.2.2.2.2.2.2.2.2.1
def Y6(a:Kv):Int:=a.2.2.2.2.2.2.2.2.2.2.2.2.2.2.2.2.2.2.2.2.2.2.2.2.2.2.2.2.2.2.2.2.2.2.2.2.2.2
abbrev OO:Type:=ck×eK×bU×bW×Int×dh×ah×dq×ah×ah×du×bU×bW×eD×ah×ah×ah×Int×ah×Int×Int×ah×ah×cG×Int×ah×ah×ah×Bool×Int×Int×Int×Int×cG×eP×ah×ck×bH
def agZ(d:OO):aR:=let (z0,f,g,B,E,o,j,a,K,G,l,k,F,z,m,A,c,t,C,p,i,q,u,y,v,s,D,e,J,H,n,w,b,x,I,r,h,_):=d;(aR.mk (aE.mk (aB.mk (ak.mk g B) E o j a K G l) (ak.mk k F) z (bE.mk m A c t) (cd.mk C p i) z0 h (cZ.mk q u) (aL.mk y) (bQ.mk v s) (bA.mk D e J) (b7.mk H n w b) (aL.mk x) I f) r)
def aeX(a:OO):bH:=a.2.2.2.2.2.2.2.2.2.2.2.2.2.2.2.2.2.2.2.2.2.2.2.2.2.2.2.2.2.2.2.2.2.2.2.2.2
abbrev QZ:Type:=ck×ck×eK×bU×bW×Int×dh×ah×dq×ah×ah×du×bU×bW×eD×ah×ah×ah×Int×ah×Int×Int×ah×ah×cG×Int×ah×ah×ah×Bool×Int×Int×Int×Int×cG×eP×ah×Int
def ams(d:QZ):aR:=let (z0,f,g,B,E,o,j,a,K,G,l,k,F,z,m,A,c,t,C,p,i,q,u,y,v,s,D,e,J,H,n,w,b,x,I,r,h,_):=d;(aR.mk (aE.mk (aB.mk (ak.mk B E) o j a K G l k) (ak.mk F z) m (bE.mk A c t C) (cd.mk p i q) z0 f (cZ.mk u y) (aL.mk v) (bQ.mk s D) (bA.mk e J H) (b7.mk n w b x) (aL.mk I) r g) h)
def UW(a:QZ):Int:=a.2.2.2.2.2.2.2.2.2.2.2.2.2.2.2.2.2.2.2.2.2.2.2.2.2.2.2.2.2.2.2.2.2.2.2.2.2
abbrev Ti:Type:=ay×bU×bW×Int×dh×ah×dq×ah×ah×du×bU×bW×eD×ah×ah×ah×Int×ah×Int×Int×ck×ck×ah×ah×cG×Int×ah×ah×ah×Bool×Int×Int×Int×Int×cG×eP×eK
def VG(a:Ti):ay:=a.1
def abC(d:Ti):aE:=let (_,f,g,B,E,o,j,a,K,G,l,k,F,z,m,A,c,t,C,p,i,q,u,y,v,s,D,e,J,H,n,w,b,x,I,r,h):=d;(aE.mk (aB.mk (ak.mk f g) B E o j a K G) (ak.mk l k) F (bE.mk z m A c) (cd.mk t C p) i q (cZ.mk u y) (aL.mk v) (bQ.mk s D) (bA.mk e J H) (b7.mk n w b x) (aL.mk I) r h)
abbrev PN:Type:=cG×bU×bW×Int×dh×ah×dq×ah×ah×du×bU×bW×eD×ah×ah×ah×Int×ah×Int×Int×ck×ck×ah×ah×cG×Int×ah×ah×ah×Bool×Int×Int×Int×Int×cG×eP×eK
def QN(a:PN):List ay:=a.1
def P0(d:PN):aE:=let (_,f,g,B,E,o,j,a,K,G,l,k,F,z,m,A,c,t,C,p,i,q,u,y,v,s,D,e,J,H,n,w,b,x,I,r,h):=d;(aE.mk (aB.mk (ak.mk f g) B E o j a K G) (ak.mk l k) F (bE.mk z m A c) (cd.mk t C p) i q (cZ.mk u y) (aL.mk v) (bQ.mk s D) (bA.mk e J H) (b7.mk n w b x) (aL.mk I) r h)
abbrev RT:Type:=Int×bU×bW×Int×dh×ah×dq×ah×ah×du×bU×bW×eD×ah×ah×ah×Int×ah×Int×Int×ck×ck×ah×ah×cG×Int×ah×ah×ah×Bool×Int×Int×Int×Int×cG×eP×eK
def SY(a:RT):Int:=a.1
def Mx(d:RT):aE:=let (_,f,g,B,E,o,j,a,K,G,l,k,F,z,m,A,c,t,C,p,i,q,u,y,v,s,D,e,J,H,n,w,b,x,I,r,h):=d;(aE.mk (aB.mk (ak.mk f g) B E o j a K G) (ak.mk l k) F (bE.mk z m A c) (cd.mk t C p) i q (cZ.mk u y) (aL.mk v) (bQ.mk s D) (bA.mk e J H) (b7.mk n w b x) (aL.mk I) r h)
abbrev Lz:Type:=bC×bU×bW×Int×dh×ah×dq×ah×ah×du×bU×bW×eD×ah×ah×ah×Int×ah×Int×Int×ck×ck×ah×ah×cG×Int×ah×ah×ah×Bool×Int×Int×Int×Int×cG×eP×eK
def YR(a:Lz):bC:=a.1
def ad4(d:Lz):aE:=let (_,f,g,B,E,o,j,a,K,G,l,k,F,z,m,A,c,t,C,p,i,q,u,y,v,s,D,e,J,H,n,w,b,x,I,r,h):=d;(aE.mk (aB.mk (ak.mk f g) B E o j a K G) (ak.mk l k) F (bE.mk z m A c) (cd.mk t C p) i q (cZ.mk u y) (aL.mk v) (bQ.mk s D) (bA.mk e J H) (b7.mk n w b x) (aL.mk I) r h)
abbrev NY:Type:=dh×bU×bW×Int×dh×ah×dq×ah×ah×du×bU×bW×eD×ah×ah×ah×Int×ah×Int×Int×ck×ck×ah×ah×cG×Int×ah×ah×ah×Bool×Int×Int×Int×Int×cG×eP×eK
def RK(a:NY):List bC:=a.1
def QT(d:NY):aE:=let (_,f,g,B,E,o,j,a,K,G,l,k,F,z,m,A,c,t,C,p,i,q,u,y,v,s,D,e,J,H,n,w,b,x,I,r,h):=d;(aE.mk (aB.mk (ak.mk f g) B E o j a K G) (ak.mk l k) F (bE.mk z m A c) (cd.mk t C p) i q (cZ.mk u y) (aL.mk v) (bQ.mk s D) (bA.mk e J H) (b7.mk n w b x) (aL.mk I) r h)
abbrev SO:Type:=dK×bU×bW×Int×dh×ah×dq×ah×ah×du×bU×bW×eD×ah×ah×ah×Int×ah×Int×Int×ck×ck×ah×ah×cG×Int×ah×ah×ah×Bool×Int×Int×Int×Int×cG×eP×eK
def UL(a:SO):dK:=a.1
def aaD(d:SO):aE:=let (_,f,g,B,E,o,j,a,K,G,l,k,F,z,m,A,c,t,C,p,i,q,u,y,v,s,D,e,J,H,n,w,b,x,I,r,h):=d;(aE.mk (aB.mk (ak.mk f g) B E o j a K G) (ak.mk l k) F (bE.mk z m A c) (cd.mk t C p) i q (cZ.mk u y) (aL.mk v) (bQ.mk s D) (bA.mk e J H) (b7.mk n w b x) (aL.mk I) r h)
abbrev MC:Type:=eK×bU×bW×Int×dh×ah×dq×ah×ah×du×bU×bW×eD×ah×ah×ah×Int×ah×Int×Int×ck×ck×ah×ah×cG×Int×ah×ah×ah×Bool×Int×Int×Int×Int×cG×eP×eK
def NM(a:MC):List dK:=a.1
def PH(d:MC):aE:=let (_,f,g,B,E,o,j,a,K,G,l,k,F,z,m,A,c,t,C,p,i,q,u,y,v,s,D,e,J,H,n,w,b,x,I,r,h):=d;(aE.mk (aB.mk (ak.mk f g) B E o j a K G) (ak.mk l k) F (bE.mk z m A c) (cd.mk t C p) i q (cZ.mk u y) (aL.mk v) (bQ.mk s D) (bA.mk e J H) (b7.mk n w b x) (aL.mk I) r h)
def I1(b:Lp)(a:List Int):Option Bool:=c6 (c5 ((a.length:Int)<=400))
def yQ(d:Lp)(a:bI)(b:Int)(c:Int):Option Bool:=bif c5 (b<=a.eF) then bif c5 (a.eF<=a.fk) then c6 (c5 (a.fk<=c)) else c6 false else c6 false
def yL(e:Lp)(b:ak)(a:Int):Option (Int⊕(Unit⊕Unit)):=bif c5 (a<(b.ai.length:Int)) then(aj b.ai a).bind λc=>(bif c5 (c.eU<(-10000)) then c6 true else c6 (c5 (10000<c.eU))).bind λd=>bif d then c6 (c7 (d0 ())) else c6 (d0 (c3 c4 (a+1))) else c6 (c7 (c7 ()))
def vX(d:Lp)(b:ak)(c:Int):Option (Int⊕(Int⊕Unit)):=bif c5 (c<(b.af.length:Int)) then(aj b.af c).bind λa=>(bif c5 (a.an<0) then c6 true else bif c5 ((b.ai.length:Int)<=a.an) then c6 true else bif c5 (a.To<0) then c6 true else bif c5 ((b.ai.length:Int)<=a.To) then c6 true else c6 (c5 (a.an=a.To))).bind λh=>bif h then c6 (c7 (d0 4)) else(bif c5 (a.Length<1) then c6 true else bif c5 (100000<a.Length) then c6 true else bif c5 (a.bT<1) then c6 true else c6 (c5 (1000<a.bT))).bind λg=>bif g then c6 (c7 (d0 1)) else((yQ d a.Rest 1 262144).bind λi=>bif (!i) then c6 true else(yQ d a.eI (-2199023255552) 2199023255552).bind λf=>c6 (!f):Option Bool).bind λe=>bif e then c6 (c7 (d0 1)) else c6 (d0 (c3 c4 (c+1))) else c6 (c7 (c7 ()))
def zG(b:Lp)(a:ak):Option Int:=(bif c5 (64<(a.ai.length:Int)) then c6 true else c6 (c5 (128<(a.af.length:Int)))).bind λg=>bif g then c6 2 else(b.loop (λc=>yL b a c) 0).bind λd=>d2 (λi=>c6 1) (λh=>(b.loop (λc=>vX b a c) 0).bind λe=>d2 (λf=>c6 f) (λj=>c6 0) e) d
def ij(b:Lp)(a:ak):Option Bool:=(zG b a).bind λc=>c6 (c5 (c=0))
def wx(h:Lp)(b:List Int)(f:Int)(d:Int)(a:Int):Option (Int⊕(Unit⊕Unit)):=bif c5 (a<(b.length:Int)) then(aj b a).bind λc=>(bif c5 (c<f) then c6 true else bif c5 (d<c) then c6 true else bif c5 (0<a) then(aj b (c3 c4 (a -1))).bind λg=>c6 (c5 (c<=g)) else c6 false).bind λe=>bif e then c6 (c7 (d0 ())) else c6 (d0 (c3 c4 (a+1))) else c6 (c7 (c7 ()))
def iU(a:Lp)(b:List Int)(f:Int)(d:Int):Option Bool:=(a.loop (λe=>wx a b f d e) 0).bind λc=>d2 (λh=>c6 false) (λg=>c6 true) c
def cp(d:Lp)(a:Int)(b:Int)(c:Int):Option Bool:=bif c5 (b<=a) then c6 (c5 (a<=c)) else c6 false
def wN(b:Lp)(a:aS)(f:ak):Option Bool:=bif c5 ((a.ai.length:Int)=0) then c6 true else(iU b a.ai 0 (c3 c4 ((f.ai.length:Int) -1))).bind λe=>bif (!e) then c6 true else(cp b a.dX 1 600).bind λd=>bif (!d) then c6 true else(cp b a.dY 0 10).bind λg=>bif (!g) then c6 true else(cp b a.cR 0 60).bind λc=>c6 (!c)
def Ha(e:Lp)(b:List aS)(d:ak)(a:Int):Option (Int⊕(Int⊕Unit)):=bif c5 (a<(b.length:Int)) then(aj b a).bind λc=>(wN e c d).bind λf=>bif f then c6 (c7 (d0 a)) else c6 (d0 (c3 c4 (a+1))) else c6 (c7 (c7 ()))
def Fh(a:Lp)(c:List aS)(e:ak):Option Int:=(a.loop (λd=>Ha a c e d) 0).bind λb=>d2 (λf=>c6 f) (λg=>c6 (-1)) b
def El(c:Lp)(a:List aS)(b:ak):Option Bool:=(Fh c a b).bind λd=>c6 (c5 (0<=d))
def wI(c:Lp)(a:ak)(b:List aS):Option Bool:=(ij c a).bind λe=>bif e then bif c5 ((b.length:Int)<=32) then(El c b a).bind λd=>c6 (!d) else c6 false else c6 false
def Ci(c:Lp)(a:Int)(b:ak):Option Bool:=(cp c a 0 (c3 c4 ((b.ai.length:Int) -1))).bind λd=>c6 (!d)
def KM(e:Lp)(b:List Int)(d:ak)(a:Int):Option (Int⊕(Int⊕Unit)):=bif c5 (a<(b.length:Int)) then(aj b a).bind λc=>(Ci e c d).bind λf=>bif f then c6 (c7 (d0 a)) else c6 (d0 (c3 c4 (a+1))) else c6 (c7 (c7 ()))
def KC(a:Lp)(c:List Int)(e:ak):Option Int:=(a.loop (λd=>KM a c e d) 0).bind λb=>d2 (λf=>c6 f) (λg=>c6 (-1)) b
def Cg(c:Lp)(a:List Int)(b:ak):Option Bool:=(KC c a b).bind λd=>c6 (c5 (0<=d))
def qK(b:Lp)(a:List Int):Option (List Int):=c6 a
def rl(b:Lp)(a:List Int):Option (List Int):=rC a
def IA(b:Lp)(a:List Int):Option (List Int):=bj 8 [] a
def Kx(b:Lp)(a:List Int):Option (List Int):=(IA b a).bind λc=>c6 c
def rG(a:Lp)(b:List Int):Option (List Int):=(Kx a b).bind λc=>(rl a c).bind λd=>c6 d
def ym(a:Lp)(c:List Int):Option Bool:=(qK a c).bind λb=>(rG a b).bind λd=>(iU a d 1 65535).bind λe=>c6 e
def kF(b:Lp)(a:List bP):Option (List bP):=bj 16 [] a
def kQ(b:Lp)(a:List aZ):Option (List aZ):=bj 72 [] a
def rf(b:Lp)(a:List bC):Option (List bC):=bj 24 [] a
def cc(b:Lp)(a:List Int):Option (List Int):=bj 8 [] a
def ue(g:Lp)(c:aB)(b:aB)(a:Int):Option (Y9⊕Y3):=bif c5 (a<(c.aQ.length:Int)) then(aj c.aQ a).bind λd=>(cc g d.ai).bind λf=>(bj 48 b.aQ ([({d with ai:=f}:aS)]:List aS)).bind λe=>c6 (d0 (u9 ({b with aQ:=e}:aB) (c3 c4 (a+1)))) else c6 (c7 (u3 b))
def tG(g:Lp)(c:aB)(b:aB)(a:Int):Option (Y1⊕Y3):=bif c5 (a<(c.bp.length:Int)) then(aj c.bp a).bind λf=>(cc g f).bind λe=>(bj 24 b.bp ([e]:List (List Int))).bind λd=>c6 (d0 (u1 ({b with bp:=d}:aB) (c3 c4 (a+1)))) else c6 (c7 (u3 b))
def yS(a:Lp)(b:aB):Option aB:=(kF a b.ao.ai).bind λd=>(kQ a b.ao.af).bind λg=>(rf a b.aN).bind λm=>(cc a b.aw).bind λl=>(a.loop (λc=>ue a b (Oe c) (Nk c)) (u9 ({b with ao:=(ak.mk d g),aN:=m,aw:=l,aQ:=([]:List aS)}:aB) 0)).bind λh=>let i:=wZ h;(cc a b.cn).bind λj=>(cc a b.cf).bind λe=>(a.loop (λc=>tG a b (CU c) (Eg c)) (u1 ({i with cn:=j,cf:=e,bp:=([]:List (List Int))}:aB) 0)).bind λf=>let k:=wZ f;c6 k
def tX(f:Lp)(c:List Int)(a:aB)(b:Int):Option (Y8⊕Y3):=bif c5 (b<(c.length:Int)) then(aj c b).bind λe=>(bj 24 a.aN ([(bC.mk e (-1) 0)]:List bC)).bind λd=>c6 (d0 (u8 ({a with aN:=d}:aB) (c3 c4 (b+1)))) else c6 (c7 (u3 a))
def sH(i:Lp)(g:List aS)(e:List Int)(a:aB)(b:Int):Option (Y1⊕Y3):=bif c5 (b<(g.length:Int)) then(bj 8 a.cn ([(-1)]:List Int)).bind λc=>(bj 8 a.cf ([(-1)]:List Int)).bind λf=>(gP 8 0 (e.length:Int)).bind λd=>(bj 24 a.bp ([d]:List (List Int))).bind λh=>c6 (d0 (u1 ({a with cn:=c,cf:=f,bp:=h}:aB) (c3 c4 (b+1)))) else c6 (c7 (u3 a))
def Ef(a:Lp)(e:ak)(d:List aS)(c:List Int)(f:List Int)(g:Int):Option (aB×Int):=((wI a e d).bind λi=>bif (!i) then c6 true else bif c5 ((f.length:Int)≠(c.length:Int)) then c6 true else(cp a (c.length:Int) 1 12).bind λl=>c6 (!l):Option Bool).bind λm=>bif m then c6 ((aB.mk (ak.mk ([]:List bP) ([]:List aZ)) 0 ([]:List bC) ([]:List Int) ([]:List aS) ([]:List Int) ([]:List Int) ([]:List (List Int))),6) else(Cg a c e).bind λo=>bif o then c6 ((aB.mk (ak.mk ([]:List bP) ([]:List aZ)) 0 ([]:List bC) ([]:List Int) ([]:List aS) ([]:List Int) ([]:List Int) ([]:List (List Int))),3) else(ym a f).bind λn=>bif (!n) then c6 ((aB.mk (ak.mk ([]:List bP) ([]:List aZ)) 0 ([]:List bC) ([]:List Int) ([]:List aS) ([]:List Int) ([]:List Int) ([]:List (List Int))),41) else(cp a g 0 2147483648).bind λh=>bif (!h) then c6 ((aB.mk (ak.mk ([]:List bP) ([]:List aZ)) 0 ([]:List bC) ([]:List Int) ([]:List aS) ([]:List Int) ([]:List Int) ([]:List (List Int))),8) else(a.loop (λb=>tX a c (L6 b) (T0 b)) (u8 (aB.mk e g ([]:List bC) f d ([]:List Int) ([]:List Int) ([]:List (List Int))) 0)).bind λk=>let q:=wZ k;((a.loop (λb=>sH a d c (CU b) (Eg b)) (u1 q 0)).bind λt=>let p:=wZ t;c6 (u3 p):Option Y3).bind λr=>let s:=wZ r;(yS a s).bind λj=>c6 (j,0)
def EP(b:Lp)(a:bI):Option Bool:=bif c5 (a.eF<(-1125899906842624)) then c6 true else bif c5 (1125899906842624<a.fk) then c6 true else c6 (c5 (a.fk<a.eF))
def Kz(d:Lp)(b:List bI)(a:Int):Option (Int⊕(Int⊕Unit)):=bif c5 (a<(b.length:Int)) then(aj b a).bind λc=>(EP d c).bind λe=>bif e then c6 (c7 (d0 a)) else c6 (d0 (c3 c4 (a+1))) else c6 (c7 (c7 ()))
def Kq(a:Lp)(c:List bI):Option Int:=(a.loop (λd=>Kz a c d) 0).bind λb=>d2 (λe=>c6 e) (λf=>c6 (-1)) b
def B8(b:Lp)(a:List bI):Option Bool:=(Kq b a).bind λc=>c6 (c5 (0<=c))
def pD(c:Lp)(a:ak)(b:List bI):Option Bool:=(ij c a).bind λe=>bif e then bif c5 ((b.length:Int)=(a.af.length:Int)) then(B8 c b).bind λd=>c6 (!d) else c6 false else c6 false
def vk(h:Lp)(b:Int)(a:Int):Option (Int×Int):=(iN .u64 b 32).bind λc=>(iN .u64 a 32).bind λe=>(iN .u64 (d3.wrap ((bits .and .u64 b 4294967295)*(bits .and .u64 a 4294967295))) 32).bind λd=>(iN .u64 (d3.wrap ((d3.wrap (c*(bits .and .u64 a 4294967295)))+d)) 32).bind λf=>(iN .u64 (d3.wrap ((bits .and .u64 (d3.wrap ((d3.wrap (c*(bits .and .u64 a 4294967295)))+d)) 4294967295)+(d3.wrap ((bits .and .u64 b 4294967295)*e)))) 32).bind λg=>c6 (d3.wrap ((d3.wrap ((d3.wrap (c*e))+f))+g),d3.wrap (b*a))
def DJ(d:Lp)(b:Int)(c:Int):Option (Int×Int):=(vk d b c).bind λa=>c6 (a.1,a.2)
def pZ(c:Lp)(a:List Int)(b:Int):Option (((List Int)×Int)⊕(List Int)):=bif c5 (b<(a.length:Int)) then(eG a b (a.length:Int)).bind λ_=>(eG a 0 b).bind λ_=>c6 (d0 (mg ((a.drop ((0:Int).toNat)).take (b.toNat - (0:Int).toNat)) (b.toNat) (((a.length:Int)).toNat -b.toNat) a,c3 c4 (b+((min (((a.length:Int)).toNat -b.toNat) ((a.drop ((0:Int).toNat)).take (b.toNat - (0:Int).toNat)).length:Nat):Int)))) else c6 (c7 a)
def EC(c:Lp)(b:List Int)(f:Int):Option (List Int):=bif c5 (f<0) then d5 else(DJ c (d3.wrap (b.length:Int)) (d3.wrap f)).bind λd=>(bif c5 (0<d.1) then c6 true else c6 (c5 (9223372036854775807<d.2))).bind λg=>bif g then d5 else(gP 8 0 (c3 c4 d.2)).bind λa=>(c.loop (λe=>pZ c e.1 e.2) (mg b 0 (a.length) a,((min (a.length) b.length:Nat):Int))).bind λh=>c6 h
def afR(c:Lp)(a:List Int)(b:Int):Option (((List Int)×Int)⊕(List Int)):=bif c5 (b<(a.length:Int)) then(eG a b (a.length:Int)).bind λ_=>(eG a 0 b).bind λ_=>c6 (d0 (mg ((a.drop ((0:Int).toNat)).take (b.toNat - (0:Int).toNat)) (b.toNat) (((a.length:Int)).toNat -b.toNat) a,c3 c4 (b+((min (((a.length:Int)).toNat -b.toNat) ((a.drop ((0:Int).toNat)).take (b.toNat - (0:Int).toNat)).length:Nat):Int)))) else c6 (c7 a)
def sJ(c:Lp)(b:List Int)(f:Int):Option (List Int):=bif c5 (f<0) then d5 else(DJ c (d3.wrap (b.length:Int)) (d3.wrap f)).bind λd=>(bif c5 (0<d.1) then c6 true else c6 (c5 (9223372036854775807<d.2))).bind λg=>bif g then d5 else(gP 8 0 (c3 c4 d.2)).bind λa=>(c.loop (λe=>afR c e.1 e.2) (mg b 0 (a.length) a,((min (a.length) b.length:Nat):Int))).bind λh=>c6 h
def n6(l:Lp)(f:ak)(c:Int)(b:bI)(k:Bool):Option Int:=(bif c5 (c<0) then c6 true else bif c5 ((f.af.length:Int)<=c) then c6 true else(aj f.af c).bind λi=>c6 i.eN).bind λh=>bif h then c6 (-1) else(aj f.af c).bind λa=>(bif k then c6 (c3 c4 (0 -b.fk),c3 c4 (0 -b.eF)) else c6 (b.eF,b.fk)).bind λe=>(bif c5 ((c3 c4 ((-500)*a.bT))<e.2) then c6 a.Length else c6 (-1)).bind λd=>bif c5 (0<e.2) then(ph .i64 (c3 c4 ((c3 c4 (a.Length*a.bT))*1000)) e.2).bind λg=>(bif c5 (d<0) then c6 true else c6 (c5 (g<d))).bind λj=>bif j then c6 g else c6 d else c6 d
def yr(p:Lp)(a:List Int)(o:List bP)(j:List aZ)(q:List bI)(e:Int)(b:Int)(c:Int)(f:Bool):Option ((List Int)×Bool):=(aj q e).bind λh=>(n6 p (ak.mk o j) e h f).bind λd=>(bif c5 (d<0) then c6 true else(aj a b).bind λ_=>(a[b.toNat]?).bind λl=>bif c5 (2147483648<l) then c6 true else(aj a b).bind λ_=>(a[b.toNat]?).bind λm=>bif c5 (2147483648<(c3 c4 (m+d))) then c6 true else(aj a b).bind λ_=>(a[b.toNat]?).bind λk=>(aj a c).bind λ_=>(a[c.toNat]?).bind λg=>c6 (c5 (g<=(c3 c4 (k+d))))).bind λn=>bif n then c6 (a,false) else(aj a b).bind λ_=>(a[b.toNat]?).bind λi=>(aj a c).bind λ_=>(a[c.toNat]?).bind λ_=>c6 (a.set (c.toNat) (c3 c4 (i+d)),true)
def I6(i:Lp)(c:List aZ)(e:List bP)(g:List bI)(j:List Int)(h:Bool)(a:Int):Option (((List Int)×Bool×Int)⊕((List Int)×Bool)):=bif c5 (a<(c.length:Int)) then(aj c a).bind λb=>(yr i j e c g a b.an b.To false).bind λf=>(yr i f.1 e c g a b.To b.an true).bind λd=>(bif h then c6 true else bif f.2 then c6 true else c6 d.2).bind λk=>c6 (d0 (d.1,k,c3 c4 (a+1))) else c6 (c7 (j,h))
def Ms(c:Lp)(f:List aZ)(g:List bP)(h:List bI)(b:List Int)(e:Bool):Option (((List Int)×Bool)⊕(List Int)):=bif e then(c.loop (λa=>I6 c f g h a.1 a.2.1 a.2.2) (b,false,0)).bind λd=>c6 (d0 (d.1,d.2)) else c6 (c7 b)
def rM(b:Lp)(d:List Int)(f:List bP)(e:List aZ)(g:List bI):Option (List Int):=(b.loop (λa=>Ms b e f g a.1 a.2) (d,true)).bind λc=>c6 c
def Fg(f:Lp)(d:List Int)(e:Int)(a:List Int)(c:Int):Option (((List Int)×Int)⊕(List Int)):=bif c5 (c<(d.length:Int)) then(aj d c).bind λb=>(aj a b).bind λ_=>(a[b.toNat]?).bind λ_=>c6 (d0 (a.set (b.toNat) e,c3 c4 (c+1))) else c6 (c7 a)
def Eh(a:Lp)(b:ak)(f:List bI)(d:List Int)(c:Int):Option (bQ×Int):=(pD a b f).bind λg=>bif (!g) then c6 ((bQ.mk 0 ([]:List Int)),6) else(iU a d 0 (c3 c4 ((b.ai.length:Int) -1))).bind λh=>bif (!h) then c6 ((bQ.mk 0 ([]:List Int)),3) else(cp a c 0 2147483648).bind λk=>bif (!k) then c6 ((bQ.mk 0 ([]:List Int)),8) else(sJ a ([1099511627776]:List Int) (b.ai.length:Int)).bind λl=>(a.loop (λe=>Fg a d c e.1 e.2) (l,0)).bind λj=>(rM a j b.ai b.af f).bind λi=>c6 ((bQ.mk c i),0)
def rP(a:Lp)(b:ak)(c:bE):Option Bool:=(ij a b).bind λf=>bif f then(iU a c.Safe 0 (c3 c4 ((b.ai.length:Int) -1))).bind λe=>bif e then(iU a c.dg 0 (c3 c4 ((b.ai.length:Int) -1))).bind λg=>bif g then(iU a c.dG 0 (c3 c4 ((b.af.length:Int) -1))).bind λh=>bif h then(cp a c.er 0 2147483648).bind λd=>c6 d else c6 false else c6 false else c6 false else c6 false
def oT(c:Lp)(b:cd)(a:b7):Option Bool:=(bif c5 ((b.bT.length:Int)=0) then c6 true else(iU c b.bT 0 63).bind λi=>bif (!i) then c6 true else(cp c b.dZ 1 100000).bind λj=>bif (!j) then c6 true else(cp c b.ed 1 100000).bind λd=>bif (!d) then c6 true else(cp c a.Time 0 2147483648).bind λg=>c6 (!g)).bind λf=>bif f then c6 false else bif c5 (a.State=0) then c6 ((a.State==0)&&((a.dD==0)&&((a.Second==0)&&((a.Time==0)&&true)))) else bif c5 (a.State=1) then bif c5 (0<a.dD) then c6 (c5 (a.Second=0)) else c6 false else(bif c5 (a.State=2) then c6 (c5 (a.State=2)) else(bif c5 (a.State=3) then c6 (c5 (a.State=3)) else c6 (c5 (a.State=4))).bind λh=>c6 h).bind λe=>bif e then bif c5 (0<a.dD) then bif c5 (0<a.Second) then c6 (c5 (a.dD≠a.Second)) else c6 false else c6 false else c6 false
def zm(c:Lp)(a:Int)(b:ak):Option Bool:=(cp c a 0 (c3 c4 ((b.af.length:Int) -1))).bind λd=>c6 (!d)
def Za(e:Lp)(b:List Int)(d:ak)(a:Int):Option (Int⊕(Int⊕Unit)):=bif c5 (a<(b.length:Int)) then(aj b a).bind λc=>(zm e c d).bind λf=>bif f then c6 (c7 (d0 a)) else c6 (d0 (c3 c4 (a+1))) else c6 (c7 (c7 ()))
def Ak(a:Lp)(c:List Int)(e:ak):Option Int:=(a.loop (λd=>Za a c e d) 0).bind λb=>d2 (λf=>c6 f) (λg=>c6 (-1)) b
def zi(c:Lp)(a:List Int)(b:ak):Option Bool:=(Ak c a b).bind λd=>c6 (c5 (0<=d))
def xa(b:Lp)(a:List Int):Option Bool:=(cp b (a.length:Int) 1 12).bind λc=>bif c then(iU b a 0 127).bind λd=>c6 d else c6 false
def AQ(b:Lp)(a:List Int):Option (bA×Int):=(xa b a).bind λc=>bif (!c) then c6 ((bA.mk ([]:List Int) ([]:List Int) false),6) else(cc b a).bind λe=>(gP 8 0 (a.length:Int)).bind λd=>c6 ((bA.mk e d false),0)
def AI(a:Lp)(c:List Int):Option Bool:=(qK a c).bind λb=>(rG a b).bind λd=>(iU a d 1 65535).bind λe=>c6 e
def yF(b:Lp)(a:ak):Option (List Int):=(sJ b ([1099511627776]:List Int) (a.ai.length:Int)).bind λc=>c6 c
def G5(a:Lp):Option kD:=c6 (kD.mk 6 9 12)
def xu(m:Lp)(b:ak)(k:Int)(j:Bool)(c:kD):Option Int:=(aj b.af k).bind λa=>(bif a.eN then c6 true else c6 (!a.jy)).bind λl=>bif l then c6 (-1) else(aj b.ai a.To).bind λd=>(aj b.ai a.an).bind λe=>(bif j then c6 (c3 c4 (0 - (c3 c4 (d.eU -e.eU)))) else c6 (c3 c4 (d.eU -e.eU))).bind λf=>(bif c5 (a.Length<(c3 c4 (10*f))) then c6 c.up else(bif c5 (a.Length<(c3 c4 ((-10)*f))) then c6 c.down else c6 c.level).bind λh=>c6 h).bind λg=>(ph .i64 (c3 c4 ((c3 c4 ((c3 c4 (10*a.Length))+g)) -1)) g).bind λi=>c6 i
def FX(a:Lp)(c:ak)(f:Int)(d:Bool):Option Int:=(G5 a).bind λe=>(xu a c f d e).bind λb=>c6 b
def rO(c:Lp)(a:ak)(b:Int)(f:Bool):Option Int:=((ij c a).bind λd=>bif (!d) then c6 true else bif c5 (b<0) then c6 true else c6 (c5 ((a.af.length:Int)<=b)):Option Bool).bind λe=>bif e then c6 (-1) else(FX c a b f).bind λg=>c6 g
def KJ(b:Lp)(a:Int):Option Unit:=c6 ()
def CB(g:Lp)(a:List Int)(f:Bool)(h:Int)(b:Int)(d:Int)(c:Int):Option ((List Int)×Bool):=(bif c5 ((max d c)<=2147483648) then(aj a b).bind λ_=>(a[b.toNat]?).bind λe=>bif c5 ((max d c)<e) then(KJ g b).bind λi=>c6 true else c6 false else c6 false).bind λjA=>bif jA then(aj a b).bind λ_=>(a[b.toNat]?).bind λ_=>c6 (a.set (b.toNat) (max d c),true) else c6 (a,f)
def th(j:Lp)(c:aZ)(m:ak)(n:Int)(p:Int)(a:List Int)(e:Bool)(d:Int):Option (((List Int)×Bool×Int)⊕((List Int)×Bool)):=bif c5 (d<2) then(aj [false,true] d).bind λf=>(bif f then c6 (c.To,c.an) else c6 (c.an,c.To)).bind λb=>(rO j m n f).bind λg=>(bif c5 (0<=g) then(aj a b.1).bind λ_=>(a[b.1.toNat]?).bind λo=>c6 (c5 (o<1099511627776)) else c6 false).bind λl=>(bif l then(aj a b.1).bind λ_=>(a[b.1.toNat]?).bind λk=>(CB j a e b.1 b.2 (c3 c4 (k+g)) p).bind λi=>c6 (i.1,i.2) else c6 (a,e)).bind λh=>c6 (d0 (h.1,h.2,c3 c4 (d+1))) else c6 (c7 (a,e))
def vN(g:Lp)(b:ak)(i:Int)(e:List Int)(f:Bool)(a:Int):Option (((List Int)×Bool×Int)⊕((List Int)×Bool)):=bif c5 (a<(b.af.length:Int)) then(aj b.af a).bind λh=>(g.loop (λc=>th g h b a i c.1 c.2.1 c.2.2) (e,f,0)).bind λd=>c6 (d0 (d.1,d.2,c3 c4 (a+1))) else c6 (c7 (e,f))
def yf(b:Lp)(d:List Int)(f:Bool)(e:ak)(g:Int):Option ((List Int)×Bool):=(b.loop (λa=>vN b e g a.1 a.2.1 a.2.2) (d,f,0)).bind λc=>c6 (c.1,c.2)
def Gt(e:Lp)(c:ak)(d:Int)(a:List Int)(f:Bool):Option (((List Int)×Bool)⊕(List Int)):=bif f then(yf e a false c d).bind λb=>c6 (d0 (b.1,b.2)) else c6 (c7 a)
def ze(a:Lp)(c:ak)(g:List Int)(e:Int):Option (List Int):=(cc a g).bind λf=>(a.loop (λb=>Gt a c e b.1 b.2) (f,true)).bind λd=>c6 d
def adr(e:Lp)(c:ak)(d:Int)(a:List Int)(f:Bool):Option (((List Int)×Bool)⊕(List Int)):=bif f then(yf e a false c d).bind λb=>c6 (d0 (b.1,b.2)) else c6 (c7 a)
def sI(a:Lp)(c:ak)(g:List Int)(e:Int):Option (List Int):=(cc a g).bind λf=>(a.loop (λb=>adr a c e b.1 b.2) (f,true)).bind λd=>c6 d
def Cr(a:Lp)(b:ak)(d:Int)(c:Int):Option (aM×Int):=(ij a b).bind λh=>bif (!h) then c6 ((aM.mk 0 ([]:List Int)),6) else(cp a d 0 (c3 c4 ((b.ai.length:Int) -1))).bind λi=>bif (!i) then c6 ((aM.mk 0 ([]:List Int)),3) else(cp a c 0 2147483648).bind λf=>bif (!f) then c6 ((aM.mk 0 ([]:List Int)),8) else(yF a b).bind λe=>(aj e d).bind λ_=>(e[d.toNat]?).bind λ_=>(sI a b (e.set (d.toNat) c) c).bind λg=>c6 ((aM.mk c g),0)
def HP(h:Lp)(d:List Int)(f:ak)(i:Int)(a:ay)(b:Int):Option (((List Int)×(List aM)×Int)⊕(((List ay)×Int)⊕((List Int)×(List aM)))):=bif c5 (b<(d.length:Int)) then(aj d b).bind λe=>(Cr h f e i).bind λc=>bif c5 (c.2≠0) then c6 (c7 (d0 (([]:List ay),c.2))) else(bj 32 a.aH ([c.1]:List aM)).bind λg=>c6 (d0 (a.aw,g,c3 c4 (b+1))) else c6 (c7 (c7 (a.aw,a.aH)))
def Bk(a:Lp)(d:ak)(b:List Int)(e:List Int)(n:Int):Option (aL×Int):=((ij a d).bind λi=>bif (!i) then c6 true else bif c5 ((b.length:Int)≠(e.length:Int)) then c6 true else(cp a (b.length:Int) 1 12).bind λk=>c6 (!k):Option Bool).bind λh=>bif h then c6 ((aL.mk ([]:List ay)),6) else(AI a b).bind λl=>bif (!l) then c6 ((aL.mk ([]:List ay)),41) else(cc a b).bind λj=>(a.loop (λc=>HP a e d n (ay.mk c.1 c.2.1) c.2.2) (j,([]:List aM),0)).bind λm=>d2 (λg=>c6 ((aL.mk g.1),g.2)) (λf=>c6 ((aL.mk ([(ay.mk f.1 f.2)]:List ay)),0)) m
def DL(a:Lp):Option cZ:=(EC a ([(-1)]:List Int) 32).bind λb=>(gP 8 0 32).bind λc=>c6 (cZ.mk b c)
def Ao(f:Lp)(b:Int)(e:aB)(d:Int):Option Bool:=(aj e.aQ d).bind λc=>(cp f b 0 c.dY).bind λa=>c6 (!a)
def Kl(f:Lp)(b:List Int)(e:aB)(c:Int)(a:Int):Option (Int⊕(Int⊕Unit)):=bif c5 (a<(b.length:Int)) then(aj b a).bind λd=>(Ao f d e c).bind λg=>bif g then c6 (c7 (d0 a)) else c6 (d0 (c3 c4 (a+1))) else c6 (c7 (c7 ()))
def Iq(a:Lp)(c:List Int)(f:aB)(d:Int):Option Int:=(a.loop (λe=>Kl a c f d e) 0).bind λb=>d2 (λg=>c6 g) (λh=>c6 (-1)) b
def BW(e:Lp)(a:List Int)(d:aB)(c:Int):Option Bool:=(Iq e a d c).bind λb=>c6 (c5 (0<=b))
def yM(c:Lp)(a:ak)(b:Int)(d:Int):Option Int:=(cp c b 0 (c3 c4 ((a.af.length:Int) -1))).bind λh=>bif (!h) then c6 (-1) else(aj a.af b).bind λg=>bif c5 (d=g.an) then(rO c a b false).bind λe=>c6 e else(aj a.af b).bind λf=>bif c5 (d=f.To) then(rO c a b true).bind λi=>c6 i else c6 (-1)
def BS(b:Lp)(c:ak)(a:bC):Option Bool:=(cp b a.Place 0 (c3 c4 ((c.ai.length:Int) -1))).bind λe=>bif (!e) then c6 false else bif c5 (a.Road=(-1)) then c6 (c5 (a.Left=0)) else(yM b c a.Road a.Place).bind λf=>bif c5 (0<=f) then(cp b a.Left 1 2147483648).bind λd=>c6 d else c6 false
def DB(c:Lp)(a:bC)(b:aB):Option Bool:=(BS c b.ao a).bind λd=>c6 (!d)
def Gl(e:Lp)(b:List bC)(d:aB)(a:Int):Option (Int⊕(Int⊕Unit)):=bif c5 (a<(b.length:Int)) then(aj b a).bind λc=>(DB e c d).bind λf=>bif f then c6 (c7 (d0 a)) else c6 (d0 (c3 c4 (a+1))) else c6 (c7 (c7 ()))
def Gd(a:Lp)(c:List bC)(e:aB):Option Int:=(a.loop (λd=>Gl a c e d) 0).bind λb=>d2 (λf=>c6 f) (λg=>c6 (-1)) b
def zH(c:Lp)(a:List bC)(b:aB):Option Bool:=(Gd c a b).bind λd=>c6 (c5 (0<=d))
def xm(c:Lp)(a:aB)(b:Int):Option (Int⊕(Unit⊕Unit)):=bif c5 (b<(a.aQ.length:Int)) then((aj a.cn b).bind λg=>(cp c g (-1) 65535).bind λd=>bif (!d) then c6 true else(aj a.cf b).bind λm=>(cp c m (-1) a.Time).bind λh=>bif (!h) then c6 true else(aj a.cn b).bind λj=>(aj a.cf b).bind λl=>bif ((c5 (j=(-1))) != (c5 (l=(-1)))) then c6 true else(aj a.bp b).bind λe=>c6 (c5 ((e.length:Int)≠(a.aN.length:Int))):Option Bool).bind λi=>bif i then c6 (c7 (d0 ())) else(aj a.bp b).bind λk=>(BW c k a b).bind λf=>bif f then c6 (c7 (d0 ())) else c6 (d0 (c3 c4 (b+1))) else c6 (c7 (c7 ()))
def pV(b:Lp)(a:aB):Option Bool:=((wI b a.ao a.aQ).bind λi=>bif (!i) then c6 true else(cp b (a.aN.length:Int) 1 12).bind λf=>bif (!f) then c6 true else bif c5 ((a.aw.length:Int)≠(a.aN.length:Int)) then c6 true else(ym b a.aw).bind λc=>bif (!c) then c6 true else(cp b a.Time 0 2147483648).bind λe=>bif (!e) then c6 true else bif c5 ((a.cn.length:Int)≠(a.aQ.length:Int)) then c6 true else bif c5 ((a.cf.length:Int)≠(a.aQ.length:Int)) then c6 true else c6 (c5 ((a.bp.length:Int)≠(a.aQ.length:Int))):Option Bool).bind λg=>bif g then c6 false else(b.loop (λh=>xm b a h) 0).bind λj=>d2 (λl=>c6 false) (λk=>(zH b a.aN a).bind λd=>c6 (!d)) j
def CX(f:Lp)(c:ak)(b:Int)(d:Int):Option Int:=(bif c5 (b<0) then c6 true else c6 (c5 ((c.af.length:Int)<=b))).bind λe=>bif e then c6 (-1) else(aj c.af b).bind λa=>bif c5 (d=a.an) then c6 a.To else bif c5 (d=a.To) then c6 a.an else c6 (-1)
def sK(g:Lp)(c:aB)(b:aB)(a:Int):Option (Bf⊕CN):=bif c5 (a<(c.aQ.length:Int)) then(aj c.aQ a).bind λd=>(cc g d.ai).bind λf=>(bj 48 b.aQ ([({d with ai:=f}:aS)]:List aS)).bind λe=>c6 (d0 (Ga ({b with aQ:=e}:aB) (c3 c4 (a+1)))) else c6 (c7 (DY b))
def vc(g:Lp)(c:aB)(b:aB)(a:Int):Option (EM⊕CN):=bif c5 (a<(c.bp.length:Int)) then(aj c.bp a).bind λf=>(cc g f).bind λe=>(bj 24 b.bp ([e]:List (List Int))).bind λd=>c6 (d0 (J4 ({b with bp:=d}:aB) (c3 c4 (a+1)))) else c6 (c7 (DY b))
def yC(a:Lp)(b:aB):Option F4:=(kF a b.ao.ai).bind λe=>(kQ a b.ao.af).bind λh=>(rf a b.aN).bind λd=>(cc a b.aw).bind λm=>(a.loop (λc=>sK a b (Pa d c) (Oj c)) (Ga ({b with ao:=(ak.mk e h),aN:=d,aw:=m,aQ:=([]:List aS)}:aB) 0)).bind λi=>let j:=Rg d i;(cc a b.cn).bind λk=>(cc a b.cf).bind λf=>(a.loop (λc=>vc a b (LU d c) (Tv c)) (J4 ({j with cn:=k,cf:=f,bp:=([]:List (List Int))}:aB) 0)).bind λg=>let l:=Rg d g;c6 (B7 l)
def vz(j:Lp)(f:aB)(e:Int)(g:aB)(c:List bC)(b:Int):Option (((List bC)×Int)⊕(List bC)):=bif c5 (b<(f.aN.length:Int)) then((aj c b).bind λ_=>(c[b.toNat]?).bind λa=>bif c5 (a.Road<0) then c6 c else(bif c5 ((c3 c4 (a.Left -e))<=0) then(CX j g.ao a.Road a.Place).bind λi=>c6 (i,(-1),0) else c6 (a.Place,a.Road,c3 c4 (a.Left -e))).bind λd=>(aj c b).bind λ_=>(c[b.toNat]?).bind λ_=>c6 (c.set (b.toNat) (bC.mk d.1 d.2.1 d.2.2)):Option (List bC)).bind λh=>c6 (d0 (h,c3 c4 (b+1))) else c6 (c7 c)
def qp(b:Lp)(a:aB)(d:Int):Option (aB×Int):=(pV b a).bind λh=>bif (!h) then c6 (a,6) else(cp b d 0 3600).bind λf=>bif (!f) then c6 (a,1) else bif c5 (2147483648<(c3 c4 (a.Time+d))) then c6 (a,8) else(yC b a).bind λg=>let c:=Bi g;(b.loop (λe=>vz b c d a e.1 e.2) (c.aN,0)).bind λi=>c6 (({c with Time:=c3 c4 (c.Time+d),aN:=i}:aB),0)
def q9(b:Lp)(a:List bI):Option (List bI):=bj 16 [] a
def tV(e:Lp)(b:List aT)(d:List aT)(a:Int):Option (((List aT)×Int)⊕(List aT)):=bif c5 (a<(b.length:Int)) then(aj b a).bind λc=>(cc e c.aw).bind λf=>(bj 48 d ([({c with aw:=f}:aT)]:List aT)).bind λg=>c6 (d0 (g,c3 c4 (a+1))) else c6 (c7 d)
def ry(a:Lp)(d:List aT):Option (List aT):=(a.loop (λb=>tV a d b.1 b.2) (([]:List aT),0)).bind λc=>c6 c
def r9(g:Lp)(c:ay)(a:ay)(b:Int):Option (((List Int)×(List aM)×Int)⊕((List Int)×(List aM))):=bif c5 (b<(c.aH.length:Int)) then(aj c.aH b).bind λd=>(cc g d.an).bind λf=>(bj 32 a.aH ([(aM.mk d.Time f)]:List aM)).bind λe=>c6 (d0 (a.aw,e,c3 c4 (b+1))) else c6 (c7 (a.aw,a.aH))
def oM(b:Lp)(c:ay):Option ay:=(cc b c.aw).bind λe=>(b.loop (λa=>r9 b c (ay.mk a.1 a.2.1) a.2.2) (e,([]:List aM),0)).bind λd=>c6 (ay.mk d.1 d.2)
def sB(e:Lp)(b:aL)(c:List ay)(a:Int):Option (((List ay)×Int)⊕(List ay)):=bif c5 (a<(b.aA.length:Int)) then(aj b.aA a).bind λd=>(oM e d).bind λf=>(bj 48 c ([f]:List ay)).bind λg=>c6 (d0 (g,c3 c4 (a+1))) else c6 (c7 c)
def pf(a:Lp)(d:aL):Option aL:=(a.loop (λb=>sB a d b.1 b.2) (([]:List ay),0)).bind λc=>c6 (aL.mk c)
def pI(b:Lp)(a:List cy):Option (List cy):=bj 64 [] a
def tO(f:Lp)(d:aE)(a:aE)(b:Int):Option (pJ⊕qc):=bif c5 (b<(d.bB.length:Int)) then(aj d.bB b).bind λc=>(cc f c.ll).bind λg=>(bj 72 a.bB ([({c with ll:=g}:dK)]:List dK)).bind λe=>c6 (d0 (u16 ({a with bB:=e}:aE) (c3 c4 (b+1)))) else c6 (c7 (lR a))
def wc(b:Lp)(a:aE):Option aE:=(qp b a.au 0).bind λm=>(kF b a.ao.ai).bind λo=>(kQ b a.ao.af).bind λv=>(q9 b a.cI).bind λp=>(cc b a.bR.Safe).bind λr=>(cc b a.bR.dg).bind λw=>(cc b a.bR.dG).bind λg=>(cc b a.bM.bT).bind λj=>(ry b a.cq).bind λf=>(ry b a.bZ).bind λl=>(cc b a.cW.dl).bind λs=>(cc b a.cW.dr).bind λd=>(pf b a.bw).bind λu=>(pf b a.bq).bind λk=>(cc b a.bz.an).bind λt=>(cc b a.Keys.af).bind λn=>(cc b a.Keys.Keys).bind λq=>(pI b a.bS).bind λe=>(b.loop (λc=>tO b a (sN c) (sE c)) (u16 (aE.mk m.1 (ak.mk o v) p (bE.mk r w g a.bR.er) (cd.mk j a.bM.dZ a.bM.ed) f l (cZ.mk s d) u (bQ.mk a.bz.Time t) (bA.mk n q a.Keys.Out) a.cL k e ([]:List dK)) 0)).bind λi=>let h:=tT i;c6 h
def wX(a:Lp)(b:ak)(j:List aS)(k:List Int)(l:List Int)(h:List bI)(g:bE)(c:cd)(i:List Int):Option (aE×Int):=(Ef a b j k l 0).bind λd=>bif c5 (d.2≠0) then c6 ((aE.mk (aB.mk (ak.mk ([]:List bP) ([]:List aZ)) 0 ([]:List bC) ([]:List Int) ([]:List aS) ([]:List Int) ([]:List Int) ([]:List (List Int))) (ak.mk ([]:List bP) ([]:List aZ)) ([]:List bI) (bE.mk ([]:List Int) ([]:List Int) ([]:List Int) 0) (cd.mk ([]:List Int) 0 0) ([]:List aT) ([]:List aT) (cZ.mk ([]:List Int) ([]:List Int)) (aL.mk ([]:List ay)) (bQ.mk 0 ([]:List Int)) (bA.mk ([]:List Int) ([]:List Int) false) (b7.mk 0 0 0 0) (aL.mk ([]:List ay)) ([]:List cy) ([]:List dK)),d.2) else(Eh a b h ([]:List Int) 0).bind λm=>(bif c5 (m.2≠0) then c6 true else(rP a b g).bind λo=>bif (!o) then c6 true else(oT a c (b7.mk 0 0 0 0)).bind λq=>bif (!q) then c6 true else(aj c.bT (c3 c4 ((c.bT.length:Int) -1))).bind λp=>c6 (c5 ((b.ai.length:Int)<=p))).bind λn=>bif n then c6 ((aE.mk (aB.mk (ak.mk ([]:List bP) ([]:List aZ)) 0 ([]:List bC) ([]:List Int) ([]:List aS) ([]:List Int) ([]:List Int) ([]:List (List Int))) (ak.mk ([]:List bP) ([]:List aZ)) ([]:List bI) (bE.mk ([]:List Int) ([]:List Int) ([]:List Int) 0) (cd.mk ([]:List Int) 0 0) ([]:List aT) ([]:List aT) (cZ.mk ([]:List Int) ([]:List Int)) (aL.mk ([]:List ay)) (bQ.mk 0 ([]:List Int)) (bA.mk ([]:List Int) ([]:List Int) false) (b7.mk 0 0 0 0) (aL.mk ([]:List ay)) ([]:List cy) ([]:List dK)),6) else(zi a i b).bind λr=>bif r then c6 ((aE.mk (aB.mk (ak.mk ([]:List bP) ([]:List aZ)) 0 ([]:List bC) ([]:List Int) ([]:List aS) ([]:List Int) ([]:List Int) ([]:List (List Int))) (ak.mk ([]:List bP) ([]:List aZ)) ([]:List bI) (bE.mk ([]:List Int) ([]:List Int) ([]:List Int) 0) (cd.mk ([]:List Int) 0 0) ([]:List aT) ([]:List aT) (cZ.mk ([]:List Int) ([]:List Int)) (aL.mk ([]:List ay)) (bQ.mk 0 ([]:List Int)) (bA.mk ([]:List Int) ([]:List Int) false) (b7.mk 0 0 0 0) (aL.mk ([]:List ay)) ([]:List cy) ([]:List dK)),4) else(AQ a i).bind λe=>bif c5 (e.2≠0) then c6 ((aE.mk (aB.mk (ak.mk ([]:List bP) ([]:List aZ)) 0 ([]:List bC) ([]:List Int) ([]:List aS) ([]:List Int) ([]:List Int) ([]:List (List Int))) (ak.mk ([]:List bP) ([]:List aZ)) ([]:List bI) (bE.mk ([]:List Int) ([]:List Int) ([]:List Int) 0) (cd.mk ([]:List Int) 0 0) ([]:List aT) ([]:List aT) (cZ.mk ([]:List Int) ([]:List Int)) (aL.mk ([]:List ay)) (bQ.mk 0 ([]:List Int)) (bA.mk ([]:List Int) ([]:List Int) false) (b7.mk 0 0 0 0) (aL.mk ([]:List ay)) ([]:List cy) ([]:List dK)),e.2) else(Bk a b l k 0).bind λf=>bif c5 (f.2≠0) then c6 ((aE.mk (aB.mk (ak.mk ([]:List bP) ([]:List aZ)) 0 ([]:List bC) ([]:List Int) ([]:List aS) ([]:List Int) ([]:List Int) ([]:List (List Int))) (ak.mk ([]:List bP) ([]:List aZ)) ([]:List bI) (bE.mk ([]:List Int) ([]:List Int) ([]:List Int) 0) (cd.mk ([]:List Int) 0 0) ([]:List aT) ([]:List aT) (cZ.mk ([]:List Int) ([]:List Int)) (aL.mk ([]:List ay)) (bQ.mk 0 ([]:List Int)) (bA.mk ([]:List Int) ([]:List Int) false) (b7.mk 0 0 0 0) (aL.mk ([]:List ay)) ([]:List cy) ([]:List dK)),f.2) else(gP 48 (aT.mk 0 0 0 ([]:List Int)) (j.length:Int)).bind λt=>(DL a).bind λs=>(wc a (aE.mk d.1 b h g c t ([]:List aT) s f.1 (bQ.mk 0 ([]:List Int)) e.1 (b7.mk 0 0 0 0) (aL.mk ([]:List ay)) ([]:List cy) ([]:List dK))).bind λu=>c6 (u,0)
def zz(b:Lp)(a:Int):Option Bool:=(cp b a 0 2).bind λc=>c6 (!c)
def It(d:Lp)(b:List Int)(a:Int):Option (Int⊕(Int⊕Unit)):=bif c5 (a<(b.length:Int)) then(aj b a).bind λc=>(zz d c).bind λe=>bif e then c6 (c7 (d0 a)) else c6 (d0 (c3 c4 (a+1))) else c6 (c7 (c7 ()))
def F6(a:Lp)(c:List Int):Option Int:=(a.loop (λd=>It a c d) 0).bind λb=>d2 (λe=>c6 e) (λf=>c6 (-1)) b
def zw(b:Lp)(a:List Int):Option Bool:=(F6 b a).bind λc=>c6 (c5 (0<=c))
def CE(b:Lp)(a:Int):Option Bool:=c6 (c5 (a≠2))
def JW(d:Lp)(b:List Int)(a:Int):Option (Int⊕(Int⊕Unit)):=bif c5 (a<(b.length:Int)) then(aj b a).bind λc=>(CE d c).bind λe=>bif e then c6 (c7 (d0 a)) else c6 (d0 (c3 c4 (a+1))) else c6 (c7 (c7 ()))
def JN(a:Lp)(c:List Int):Option Int:=(a.loop (λd=>JW a c d) 0).bind λb=>d2 (λe=>c6 e) (λf=>c6 (-1)) b
def IU(b:Lp)(a:List Int):Option Bool:=(JN b a).bind λc=>c6 (c5 (0<=c))
def yh(b:Lp)(a:bA):Option Bool:=(IU b a.Keys).bind λc=>c6 (!c)
def oL(b:Lp)(a:bA):Option Bool:=(xa b a.af).bind λc=>bif c then bif c5 ((a.Keys.length:Int)=(a.af.length:Int)) then(zw b a.Keys).bind λd=>bif (!d) then bif (!a.Out) then c6 true else(yh b a).bind λe=>c6 e else c6 false else c6 false else c6 false
def zj(b:Lp)(a:aE):Option Bool:=(pV b a.au).bind λc=>bif c then(ij b a.ao).bind λd=>bif d then bif c5 ((a.cq.length:Int)=(a.au.aQ.length:Int)) then bif c5 ((a.cI.length:Int)=(a.ao.af.length:Int)) then bif c5 (0<(a.bw.aA.length:Int)) then(oL b a.Keys).bind λe=>c6 e else c6 false else c6 false else c6 false else c6 false else c6 false
def Ml(b:Lp)(a:Int):Option (Option Nat):=c6 (lK a)
def HU(i:Lp)(b:bA)(c:List Int)(a:Int):Option (((List Int)×Int)⊕(List Int)):=bif c5 (a<(b.af.length:Int)) then(aj b.af a).bind λe=>(bif c5 (a<(b.Keys.length:Int)) then(aj b.Keys a).bind λh=>c6 (c5 (h≠0)) else c6 false).bind λd=>(bif d then(bj 8 c ([e]:List Int)).bind λf=>c6 f else c6 c).bind λg=>c6 (d0 (g,c3 c4 (a+1))) else c6 (c7 c)
def yA(a:Lp)(d:bA):Option (List Int):=(a.loop (λb=>HU a d b.1 b.2) (([]:List Int),0)).bind λe=>(rl a e).bind λc=>c6 c
def Nf(e:Lp)(b:List Int)(d:Int)(a:Int):Option (Int⊕(Int⊕Unit)):=bif c5 (a<(b.length:Int)) then(aj b a).bind λc=>bif c5 (d=c) then c6 (c7 (d0 a)) else c6 (d0 (c3 c4 (a+1))) else c6 (c7 (c7 ()))
def to(a:Lp)(c:List Int)(f:Int):Option Int:=(a.loop (λe=>Nf a c f e) 0).bind λd=>d2 (λb=>c6 b) (λg=>c6 (-1)) d
def im(c:Lp)(a:List Int)(b:Int):Option Bool:=(to c a b).bind λd=>c6 (c5 (0<=d))
def wC(f:Lp)(b:List Int)(c:aB)(a:Int):Option (Int⊕(Unit⊕Unit)):=bif c5 (a<(b.length:Int)) then(aj b a).bind λe=>(cp f e 0 (c3 c4 ((c.aN.length:Int) -1))).bind λd=>bif (!d) then c6 (c7 (d0 ())) else c6 (d0 (c3 c4 (a+1))) else c6 (c7 (c7 ()))
def wv(a:Lp)(b:aB)(e:List Int):Option Int:=(pV a b).bind λf=>bif (!f) then c6 6 else(a.loop (λd=>wC a e b d) 0).bind λc=>d2 (λh=>c6 19) (λg=>c6 0) c
def B1(f:Lp)(b:aB)(a:Int)(e:Int)(k:Int):Option (aB×Int):=(wv f b ([a]:List Int)).bind λj=>bif c5 (j≠0) then c6 (b,j) else(aj b.aN a).bind λi=>(yM f b.ao e i.Place).bind λh=>bif c5 (0<=i.Road) then c6 (b,10) else bif c5 (h<0) then c6 (b,4) else(cp f k 0 3600).bind λm=>bif (!m) then c6 (b,1) else(yC f b).bind λl=>let c:=Bi l;(aj c.aN a).bind λ_=>(c.aN[a.toNat]?).bind λd=>(aj (c.aN.set (a.toNat) (bC.mk d.Place e d.Left)) a).bind λ_=>((c.aN.set (a.toNat) (bC.mk d.Place e d.Left))[a.toNat]?).bind λg=>c6 (({c with aN:=(c.aN.set (a.toNat) (bC.mk d.Place e d.Left)).set (a.toNat) (bC.mk g.Place g.Road (c3 c4 (h+k)))}:aB),0)
def DC(m:Lp)(k:aB)(a:List bP)(b:List aZ)(e:Int)(g:List bC)(f h:List Int)(j:List (List Int))(d:List aS)(i:Int):Option ((List bP×List aZ×Int×List bC×List Int×List Int×List (List Int)×List aS×Int)⊕(List bP×List aZ×Int×List bC×List aS×List Int×List Int×List (List Int))):=bif c5 (i<(k.aQ.length:Int)) then(aj k.aQ i).bind λc=>(cc m c.ai).bind λl=>(bj 48 d ([({c with ai:=l}:aS)]:List aS)).bind λz=>c6 (d0 (a,b,e,g,f,h,j,z,c3 c4 (i+1))) else c6 (c7 (a,b,e,g,d,f,h,j))
def FD(c:Lp){e:Type}(a:aB)(l:List bP->List aZ->Int->List bC->List Int->List aS->List Int->List Int->Option e):Option e:=(kF c a.ao.ai).bind λj=>(kQ c a.ao.af).bind λf=>(rf c a.aN).bind λi=>(cc c a.aw).bind λh=>(c.loop (λb=>DC c a b.1 b.2.1 b.2.2.1 b.2.2.2.1 b.2.2.2.2.1 b.2.2.2.2.2.1 b.2.2.2.2.2.2.1 b.2.2.2.2.2.2.2.1 b.2.2.2.2.2.2.2.2) (j,f,a.Time,i,a.cn,a.cf,a.bp,([]:List aS),0)).bind λd=>(cc c a.cn).bind λk=>(cc c a.cf).bind λg=>l d.1 d.2.1 d.2.2.1 d.2.2.2.1 h d.2.2.2.2.1 k g
abbrev TD(a:Type):Type:=List Int×List Int×List Int×a
abbrev TE:Type:=List bP×List aZ×Int×List bC×List aS
def we(i:Lp)(a:aB):Option (TD TE):=match a.bp with |[]=>FD i a λd b e j g c h f=>c6 (g,h,f,d,b,e,j,c) |_=>d5
def uR(c:Lp)(d:aB):Option (TD (List Int×TE)):=match d.bp with |[a]=>FD c d λf b g k i e j h=>(cc c a).bind λa=>c6 (i,j,h,a,f,b,g,k,e) |_=>d5
def pO(d:Lp)(e:aB):Option (TD (List Int×List Int×TE)):=match e.bp with |[a,c]=>FD d e λg b h l j f k i=>(cc d a).bind λa=>(cc d c).bind λc=>c6 (j,k,i,a,c,g,b,h,l,f) |_=>d5
def nM(a:Lp)(f:aB):Option (TD (List Int×List Int×List Int×TE)):=match f.bp with |[c,d,e]=>FD a f λh b i m k g l j=>(cc a c).bind λc=>(cc a d).bind λd=>(cc a e).bind λe=>c6 (k,l,j,c,d,e,h,b,i,m,g) |_=>d5
def EV(m:Lp)(a:aB)(h:Int)(r:aS)(row:List Int)(d b e:Int)(c:List Int)(i:Int):Option ((List Int×Int×Int×Int×List Int×Int)⊕((List bP×List aZ×Int×List bC×List Int×List aS×List Int×List Int×List (List Int)×Int×Int×Int×List Int×Int)⊕(List Int×Int×Int×Int×List Int))):=bif c5 (i<(a.aN.length:Int)) then(aj a.aN i).bind λg=>(im m r.ai g.Place).bind λhere=>(iN .i64 h i).bind λf=>(aj row i).bind λ_=>(bif here then c6 (c5 (bits .and .i64 f 1=1)) else c6 false).bind λk=>bif k then(row[i.toNat]?).bind λv=>(row[i.toNat]?).bind λ_=>((row.set i.toNat (c3 c4 (v+1)))[i.toNat]?).bind λj=>bif c5 (r.dY<j) then c6 (c7 (d0 (a.ao.ai,a.ao.af,a.Time,a.aN,a.aw,a.aQ,a.cn,a.cf,a.bp,0,0,0,([]:List Int),43))) else c6 (d0 (row.set i.toNat (c3 c4 (v+1)),d,b,e,c,c3 c4 (i+1))) else(row[i.toNat]?).bind λ_=>bif here then(aj a.aw i).bind λl=>(bj 8 c ([l]:List Int)).bind λc=>c6 (d0 (row.set i.toNat 0,d,b,e,c,c3 c4 (i+1))) else c6 (d0 (row.set i.toNat 0,d,b,e,c,c3 c4 (i+1))) else c6 (c7 (c7 (row,d,b,e,c)))
def qw(h:Lp)(c:aB)(b o m:Int)(r:aS)(p g f row:List Int)(s:List Int->List (List Int))(e:TE):Option (aB×aT×Int):=((aj c.cf b).bind λl=>bif c5 (0<=l) then(aj c.cf b).bind λq=>c6 (c5 (r.dX<c3 c4 (c.Time -q))) else c6 false).bind λj=>(bif j then c6 2 else c6 1).bind λk=>(aj c.cn b).bind λi=>(nG (c3 c4 (i+k)) 65536).bind λnumber=>(aj g b).bind λ_=>(g[b.toNat]?).bind λ_=>(aj f b).bind λ_=>(f[b.toNat]?).bind λ_=>(h.loop (λd=>EV h c o r d.1 d.2.1 d.2.2.1 d.2.2.2.1 d.2.2.2.2.1 d.2.2.2.2.2) (row,b,number,c3 c4 (c.Time+m),([]:List Int),0)).bind λa=>d2 (λa=>c6 (aB.mk (ak.mk a.1 a.2.1) a.2.2.1 a.2.2.2.1 a.2.2.2.2.1 a.2.2.2.2.2.1 a.2.2.2.2.2.2.1 a.2.2.2.2.2.2.2.1 a.2.2.2.2.2.2.2.2.1,aT.mk a.2.2.2.2.2.2.2.2.2.1 a.2.2.2.2.2.2.2.2.2.2.1 a.2.2.2.2.2.2.2.2.2.2.2.1 a.2.2.2.2.2.2.2.2.2.2.2.2.1,a.2.2.2.2.2.2.2.2.2.2.2.2.2)) (λa=>(rC a.2.2.2.2).bind λn=>c6 (aB.mk (ak.mk e.1 e.2.1) e.2.2.1 e.2.2.2.1 p e.2.2.2.2 (g.set b.toNat number) (f.set b.toNat c.Time) (s a.1),aT.mk a.2.1 a.2.2.1 a.2.2.2.1 n,0)) a
def acN(g:Lp)(a:aB)(d:Int)(r:aS)(e b f:Int)(h:List Int)(i:Int):Option ((Int×Int×Int×List Int×Int)⊕(Int×Int×Int×List Int)):=bif c5 (i<(a.aN.length:Int)) then(aj a.aN i).bind λc=>(im g r.ai c.Place).bind λ_=>(iN .i64 d i).bind λ_=>d5 else c6 (c7 (e,b,f,h))
def aph(h:Lp)(b:aB)(a m q:Int)(r:aS)(o g f:List Int)(c:TE):Option (aB×aT×Int):=((aj b.cf a).bind λp=>bif c5 (0<=p) then(aj b.cf a).bind λn=>c6 (c5 (r.dX<c3 c4 (b.Time -n))) else c6 false).bind λj=>(bif j then c6 2 else c6 1).bind λk=>(aj b.cn a).bind λi=>(nG (c3 c4 (i+k)) 65536).bind λnumber=>(aj g a).bind λ_=>(g[a.toNat]?).bind λ_=>(aj f a).bind λ_=>(f[a.toNat]?).bind λ_=>(h.loop (λd=>acN h b m r d.1 d.2.1 d.2.2.1 d.2.2.2.1 d.2.2.2.2) (a,number,c3 c4 (b.Time+q),([]:List Int),0)).bind λe=>(rC e.2.2.2).bind λl=>c6 (aB.mk (ak.mk c.1 c.2.1) c.2.2.1 c.2.2.2.1 o c.2.2.2.2 (g.set a.toNat number) (f.set a.toNat b.Time) [],aT.mk e.1 e.2.1 e.2.2.1 l,0)
def po(c:Lp)(a:aB)(e h d:Int)(g:aS->Option (aB×aT×Int)):Option (aB×aT×Int):=(pV c a).bind λv=>bif (!v) then c6 (a,aT.mk 0 0 0 [],6) else(cp c e 0 (c3 c4 ((a.aQ.length:Int) -1))).bind λi=>bif (!i) then c6 (a,aT.mk 0 0 0 [],40) else(aj a.aQ e).bind λr=>((cp c d (c3 c4 (0 -r.cR)) r.cR).bind λf=>bif (!f) then c6 true else(cp c (c3 c4 (a.Time+d)) 0 2147483648).bind λb=>c6 (!b)).bind λbad=>bif bad then c6 (a,aT.mk 0 0 0 [],1) else g r
def jO(d:Lp)(b:aB)(c e f:Int):Option (aB×aT×Int):=match b.bp with |[]=>bif c5 (c=0) then po d b c e f λr=>(we d b).bind λa=>aph d b c e f r a.1 a.2.1 a.2.2.1 a.2.2.2 else d5 |[_]=>bif c5 (c=0) then po d b c e f λr=>(uR d b).bind λa=>qw d b c e f r a.1 a.2.1 a.2.2.1 a.2.2.2.1 (λr=>[r]) a.2.2.2.2 else d5 |[_,_]=>bif c5 (c=0) then po d b c e f λr=>(pO d b).bind λa=>qw d b c e f r a.1 a.2.1 a.2.2.1 a.2.2.2.1 (λr=>[r,a.2.2.2.2.1]) a.2.2.2.2.2 else bif c5 (c=1) then po d b c e f λr=>(pO d b).bind λa=>qw d b c e f r a.1 a.2.1 a.2.2.1 a.2.2.2.2.1 (λr=>[a.2.2.2.1,r]) a.2.2.2.2.2 else d5 |[_,_,_]=>bif c5 (c=0) then po d b c e f λr=>(nM d b).bind λa=>qw d b c e f r a.1 a.2.1 a.2.2.1 a.2.2.2.1 (λr=>[r,a.2.2.2.2.1,a.2.2.2.2.2.1]) a.2.2.2.2.2.2 else bif c5 (c=1) then po d b c e f λr=>(nM d b).bind λa=>qw d b c e f r a.1 a.2.1 a.2.2.1 a.2.2.2.2.1 (λr=>[a.2.2.2.1,r,a.2.2.2.2.2.1]) a.2.2.2.2.2.2 else bif c5 (c=2) then po d b c e f λr=>(nM d b).bind λa=>qw d b c e f r a.1 a.2.1 a.2.2.1 a.2.2.2.2.2.1 (λr=>[a.2.2.2.1,a.2.2.2.2.1,r]) a.2.2.2.2.2.2 else d5 |_=>d5
def Zb(e:Lp)(b:List aT)(d:List aT)(a:Int):Option (((List aT)×Int)⊕(List aT)):=bif c5 (a<(b.length:Int)) then(aj b a).bind λc=>(cc e c.aw).bind λf=>(bj 48 d ([({c with aw:=f}:aT)]:List aT)).bind λg=>c6 (d0 (g,c3 c4 (a+1))) else c6 (c7 d)
def zp(a:Lp)(d:List aT):Option (List aT):=(a.loop (λb=>Zb a d b.1 b.2) (([]:List aT),0)).bind λc=>c6 c
def lQ(b:Lp)(a:aT):Option Bool:=(cp b a.Reader 0 31).bind λe=>bif e then(cp b a.Number 0 65535).bind λd=>bif d then(cp b a.Time 0 2147483648).bind λf=>bif f then bif c5 ((a.aw.length:Int)<=20) then(iU b a.aw 1 65535).bind λc=>c6 c else c6 false else c6 false else c6 false else c6 false
def vM(f:Lp)(e:Int)(b:List Int)(a:Int):Option (((List Int)×Int)⊕(List Int)):=bif c5 (0<=a) then(iN .u64 e (d3.wrap (c3 c4 (8*a)))).bind λc=>(bj 1 b ([IntKind.u8.wrap c]:List Int)).bind λd=>c6 (d0 (d,c3 c4 (a -1))) else c6 (c7 b)
def py(b:Lp)(c:List Int)(f:Int)(e:Int):Option (List Int):=(b.loop (λa=>vM b f a.1 a.2) (c,c3 c4 (e -1))).bind λd=>c6 d
def wg(f:Lp)(c:aT)(b:List Int)(a:Int):Option (((List Int)×Int)⊕(List Int)):=bif c5 (a<(c.aw.length:Int)) then(aj c.aw a).bind λe=>(py f b (d3.wrap e) 2).bind λd=>c6 (d0 (d,c3 c4 (a+1))) else c6 (c7 b)
def Ex(b:Lp)(a:aT):Option (fa×Int):=(lQ b a).bind λd=>bif (!d) then c6 ((fa.mk 0 0 ([]:List Int)),6) else(py b ([]:List Int) (d3.wrap a.Number) 2).bind λh=>(py b h (d3.wrap a.Time) 6).bind λg=>(bj 1 g ([IntKind.u8.wrap (a.aw.length:Int)]:List Int)).bind λf=>(b.loop (λc=>wg b a c.1 c.2) (f,0)).bind λe=>c6 ((fa.mk a.Reader 9 e),0)
def zf(f:Lp)(b:List Int)(c:Int)(a:Int):Option ((Int×Int)⊕Int):=bif c5 (a<(b.length:Int)) then(aj b a).bind λd=>(uU .u64 c 8).bind λe=>c6 (d0 (bits .or .u64 e (d3.wrap d),c3 c4 (a+1))) else c6 (c7 c)
def jQ(a:Lp)(c:List Int):Option Int:=(a.loop (λb=>zf a c b.1 b.2) (0,0)).bind λd=>c6 d
def vE(c:Lp)(b:List Int)(a:Int):Option ((List Int)×Int):=bif c5 (a<1) then d5 else c6 (b,a)
def lj:List Int->List (List Int) |[]=>[] |[a]=>[[a]] |a::b::c=>[a,b]::lj c
def gW(b:Lp):List (List Int)->List Int->Option (List Int) |[],a=>c6 a |c::e,a=>(jQ b c).bind λd=>(bj 8 a ([c3 c4 d]:List Int)).bind λa=>gW b e a
def rA(d:Lp)(b a f:Int)(e:List Int)(g:Int):Option (aT×Int):=bif c5 (g=2) then bif c5 (e.length%2=0) then(gW d (lj e) []).bind λc=>(lQ d (aT.mk b a f c)).bind λv=>bif (!v) then c6 (aT.mk 0 0 0 [],6) else c6 (aT.mk b a f c,0) else d5 else d5
def zD(c:Lp)(a:fa):Option (aT×Int):=bif c5 (a.Kind≠9) then c6 (aT.mk 0 0 0 [],5) else(cp c a.kO 0 31).bind λh=>bif (!h) then c6 (aT.mk 0 0 0 [],40) else(bif c5 ((a.Data.length:Int)<9) then c6 true else(aj a.Data 8).bind λb=>c6 (c5 ((a.Data.length:Int)≠c3 c4 (9+c3 c4 (2*c3 c4 b))))).bind λbad=>bif bad then c6 (aT.mk 0 0 0 [],6) else(eG a.Data 0 2).bind λg=>(jQ c g).bind λf=>(eG a.Data 2 8).bind λe=>(jQ c e).bind λj=>(eG a.Data 9 (a.Data.length:Int)).bind λi=>(vE c i 2).bind λd=>rA c a.kO (c3 c4 f) (c3 c4 j) d.1 d.2
def Ap(b:Lp)(a:Int):Option Bool:=(cp b a (-1) 65535).bind λc=>c6 (!c)
def I8(d:Lp)(b:List Int)(a:Int):Option (Int⊕(Int⊕Unit)):=bif c5 (a<(b.length:Int)) then(aj b a).bind λc=>(Ap d c).bind λe=>bif e then c6 (c7 (d0 a)) else c6 (d0 (c3 c4 (a+1))) else c6 (c7 (c7 ()))
def GR(a:Lp)(c:List Int):Option Int:=(a.loop (λd=>I8 a c d) 0).bind λb=>d2 (λe=>c6 e) (λf=>c6 (-1)) b
def Am(b:Lp)(a:List Int):Option Bool:=(GR b a).bind λc=>c6 (c5 (0<=c))
def Dd(b:Lp)(a:Int):Option Bool:=(cp b a 0 2147483648).bind λc=>c6 (!c)
def FL(d:Lp)(b:List Int)(a:Int):Option (Int⊕(Int⊕Unit)):=bif c5 (a<(b.length:Int)) then(aj b a).bind λc=>(Dd d c).bind λe=>bif e then c6 (c7 (d0 a)) else c6 (d0 (c3 c4 (a+1))) else c6 (c7 (c7 ()))
def JV(a:Lp)(c:List Int):Option Int:=(a.loop (λd=>FL a c d) 0).bind λb=>d2 (λe=>c6 e) (λf=>c6 (-1)) b
def CZ(b:Lp)(a:List Int):Option Bool:=(JV b a).bind λc=>c6 (c5 (0<=c))
def zY(b:Lp)(a:cZ):Option Bool:=bif c5 ((a.dl.length:Int)=32) then bif c5 ((a.dr.length:Int)=32) then(Am b a.dl).bind λc=>bif (!c) then(CZ b a.dr).bind λd=>c6 (!d) else c6 false else c6 false else c6 false
def CT(e:Lp)(b:cZ)(a:aT):Option (cZ×Int):=(zY e b).bind λk=>bif (!k) then c6 (b,10) else(lQ e a).bind λi=>bif (!i) then c6 (b,6) else(aj b.dl a.Reader).bind λf=>(nG (c3 c4 ((c3 c4 (a.Number -f))+65536)) 65536).bind λg=>(bif c5 (0<=f) then bif c5 (g=0) then c6 true else c6 (c5 (32768<=g)) else c6 false).bind λj=>bif j then c6 (b,42) else(cc e b.dl).bind λd=>(cc e b.dr).bind λc=>(aj d a.Reader).bind λ_=>(d[a.Reader.toNat]?).bind λ_=>bif c5 (0<=f) then(aj c a.Reader).bind λ_=>(c[a.Reader.toNat]?).bind λh=>(aj c a.Reader).bind λ_=>(c[a.Reader.toNat]?).bind λ_=>c6 ((cZ.mk (d.set (a.Reader.toNat) a.Number) (c.set (a.Reader.toNat) (min (c3 c4 ((c3 c4 (h+g)) -1)) 2147483648))),0) else c6 ((cZ.mk (d.set (a.Reader.toNat) a.Number) c),0)
def Dq(g:Lp)(a:aT)(c:aS)(d:List dS)(b:Int):Option (((List dS)×Int)⊕(List dS)):=bif c5 (b<(a.aw.length:Int)) then(aj a.aw b).bind λe=>(bj 32 d ([(dS.mk a.Reader e (max 0 (c3 c4 (a.Time -c.cR))) (c3 c4 (a.Time+c.cR)))]:List dS)).bind λf=>c6 (d0 (f,c3 c4 (b+1))) else c6 (c7 d)
def Bl(b:Lp)(c:List aS)(a:aT):Option ((List dS)×Int):=(lQ b a).bind λg=>bif (!g) then c6 (([]:List dS),6) else bif c5 ((c.length:Int)<=a.Reader) then c6 (([]:List dS),40) else(aj c a.Reader).bind λf=>(b.loop (λd=>Dq b a f d.1 d.2) (([]:List dS),0)).bind λe=>c6 (e,0)
def fP(b:Lp)(a:aR):Option Int:=c6 a.aI.au.Time
def yU(f:Lp)(b:List Int)(e:List Int)(a:Int):Option (Int⊕(Unit⊕Unit)):=bif c5 (a<(b.length:Int)) then(aj b a).bind λd=>(aj e a).bind λc=>bif c5 (d≠c) then c6 (c7 (d0 ())) else c6 (d0 (c3 c4 (a+1))) else c6 (c7 (c7 ()))
def qG(c:Lp)(a:List Int)(b:List Int):Option Bool:=bif c5 ((a.length:Int)≠(b.length:Int)) then c6 false else(c.loop (λe=>yU c a b e) 0).bind λd=>d2 (λf=>c6 false) (λg=>c6 true) d
def DR(b:Lp)(a:Int):Option Bool:=bif c5 (a≠1099511627776) then(cp b a 0 2147483648).bind λc=>c6 (!c) else c6 false
def GO(d:Lp)(b:List Int)(a:Int):Option (Int⊕(Int⊕Unit)):=bif c5 (a<(b.length:Int)) then(aj b a).bind λc=>(DR d c).bind λe=>bif e then c6 (c7 (d0 a)) else c6 (d0 (c3 c4 (a+1))) else c6 (c7 (c7 ()))
def GG(a:Lp)(c:List Int):Option Int:=(a.loop (λd=>GO a c d) 0).bind λb=>d2 (λe=>c6 e) (λf=>c6 (-1)) b
def zZ(b:Lp)(a:List Int):Option Bool:=(GG b a).bind λc=>c6 (c5 (0<=c))
def ur(b:Lp)(d:ak)(a:aM):Option Bool:=bif c5 ((a.an.length:Int)=(d.ai.length:Int)) then(cp b a.Time 0 2147483648).bind λe=>bif e then(zZ b a.an).bind λc=>c6 (!c) else c6 false else c6 false
def n7(b:Lp)(c:ak)(a:aM):Option Bool:=(ij b c).bind λf=>bif f then(ur b c a).bind λe=>bif e then(ze b c a.an a.Time).bind λg=>(qG b g a.an).bind λd=>c6 d else c6 false else c6 false
def Ld(c:Lp)(a:aM)(b:ak):Option Bool:=(n7 c b a).bind λd=>c6 (!d)
def HW(e:Lp)(b:List aM)(d:ak)(a:Int):Option (Int⊕(Int⊕Unit)):=bif c5 (a<(b.length:Int)) then(aj b a).bind λc=>(Ld e c d).bind λf=>bif f then c6 (c7 (d0 a)) else c6 (d0 (c3 c4 (a+1))) else c6 (c7 (c7 ()))
def FJ(a:Lp)(c:List aM)(e:ak):Option Int:=(a.loop (λd=>HW a c e d) 0).bind λb=>d2 (λf=>c6 f) (λg=>c6 (-1)) b
def E5(c:Lp)(a:List aM)(b:ak):Option Bool:=(FJ c a b).bind λd=>c6 (c5 (0<=d))
def Cl(b:Lp)(a:Int):Option Bool:=c6 (c5 (a≠a))
def uE(d:Lp)(a:Int)(b:Int):Option Int:=(Cl d a).bind λe=>(Cl d b).bind λc=>bif e then bif c then c6 0 else c6 (-1) else bif c then c6 1 else bif c5 (a<b) then c6 (-1) else bif c5 (b<a) then c6 1 else c6 0
def ui(f:Lp)(c:List Int)(d:List Int)(a:Int):Option (Int⊕(Int⊕Unit)):=bif c5 (a<(c.length:Int)) then(aj c a).bind λe=>bif c5 ((d.length:Int)<=a) then c6 (c7 (d0 1)) else(aj d a).bind λg=>(uE f e g).bind λb=>bif c5 (b≠0) then c6 (c7 (d0 b)) else c6 (d0 (c3 c4 (a+1))) else c6 (c7 (c7 ()))
def sL(c:Lp)(a:List Int)(b:List Int):Option Int:=(c.loop (λf=>ui c a b f) 0).bind λe=>d2 (λd=>c6 d) (λg=>bif c5 ((a.length:Int)<(b.length:Int)) then c6 (-1) else c6 0) e
def Fm(b:Lp)(d:aL)(n:List Int)(g:ak)(c:Int):Option (Int⊕(Unit⊕Unit)):=bif c5 (c<(d.aA.length:Int)) then(aj d.aA c).bind λa=>((cp b (a.aw.length:Int) 1 12).bind λe=>bif (!e) then c6 true else bif c5 ((a.aH.length:Int)≠(a.aw.length:Int)) then c6 true else(AI b a.aw).bind λj=>c6 (!j):Option Bool).bind λk=>bif k then c6 (c7 (d0 ())) else(qK b a.aw).bind λm=>(rG b m).bind λf=>(qG b f n).bind λl=>bif (!l) then c6 (c7 (d0 ())) else(bif c5 (0<c) then(aj d.aA (c3 c4 (c -1))).bind λi=>(sL b i.aw a.aw).bind λp=>c6 (c5 (0<=p)) else c6 false).bind λh=>bif h then c6 (c7 (d0 ())) else(E5 b a.aH g).bind λo=>bif o then c6 (c7 (d0 ())) else c6 (d0 (c3 c4 (c+1))) else c6 (c7 (c7 ()))
def p8(a:Lp)(c:ak)(b:aL):Option Bool:=((ij a c).bind λd=>bif (!d) then c6 true else(cp a (b.aA.length:Int) 1 24).bind λh=>c6 (!h):Option Bool).bind λi=>bif i then c6 false else(aj b.aA 0).bind λg=>(qK a g.aw).bind λe=>(rG a e).bind λj=>(a.loop (λk=>Fm a b j c k) 0).bind λf=>d2 (λl=>c6 false) (λm=>c6 true) f
def vY(a:Lp)(c:ak)(j:aM)(d:List Int)(e:Int)(b:Int):Option Int:=((n7 a c j).bind λk=>bif (!k) then c6 true else bif c5 ((d.length:Int)=0) then c6 true else(iU a d 0 (c3 c4 ((c.ai.length:Int) -1))).bind λf=>c6 (!f):Option Bool).bind λi=>bif i then c6 6 else((cp a e 0 2147483648).bind λl=>bif (!l) then c6 true else(cp a b 0 2147483648).bind λh=>bif (!h) then c6 true else c6 (c5 (b<e)):Option Bool).bind λg=>bif g then c6 8 else c6 0
def Ds(k:Lp)(d:List Int)(g:aM)(h:Int)(a:List Int)(f:Bool)(c:Int):Option (((List Int)×Bool×Int)⊕((List Int)×Bool)):=bif c5 (c<(d.length:Int)) then(aj d c).bind λb=>(aj g.an b).bind λi=>(bif c5 (i<=h) then(aj g.an b).bind λj=>(aj a b).bind λ_=>(a[b.toNat]?).bind λ_=>c6 (a.set (b.toNat) j,true) else c6 (a,f)).bind λe=>c6 (d0 (e.1,e.2,c3 c4 (c+1))) else c6 (c7 (a,f))
def yX(b:Lp)(d:ak)(a:aM)(g:List Int)(f:Int)(c:Int):Option (aM×Int):=(vY b d a g f c).bind λi=>bif c5 (i≠0) then c6 (a,i) else bif c5 (f<a.Time) then c6 (a,42) else(yF b d).bind λk=>(b.loop (λe=>Ds b g a c e.1 e.2.1 e.2.2) (k,false,0)).bind λh=>bif (!h.2) then c6 (a,43) else(sI b d h.1 f).bind λj=>c6 ((aM.mk c j),0)
def CH(g:Lp)(c:ay)(a:ay)(b:Int):Option (((List Int)×(List aM)×Int)⊕((List Int)×(List aM))):=bif c5 (b<(c.aH.length:Int)) then(aj c.aH b).bind λd=>(cc g d.an).bind λf=>(bj 32 a.aH ([(aM.mk d.Time f)]:List aM)).bind λe=>c6 (d0 (a.aw,e,c3 c4 (b+1))) else c6 (c7 (a.aw,a.aH))
def mH(b:Lp)(c:ay):Option ((List aM)×(List Int)):=(cc b c.aw).bind λe=>(b.loop (λa=>CH b c (ay.mk a.1 a.2.1) a.2.2) (e,([]:List aM),0)).bind λd=>c6 (d.2,d.1)
def JT(g:Lp)(a:ak)(d:List Int)(c:Int)(e:Int)(f:aM):Option ((List bP)×(List aZ)×(List Int)×Int×Int×aM×Int):=(yX g a f d c e).bind λb=>c6 (a.ai,a.af,d,c,e,b.1,b.2)
def Gz(j:Lp)(f:aL)(x:Int)(g:ak)(k:List Int)(l:Int)(n:Int)(h:List ay)(i:Int):Option (((List bP)×(List aZ)×(List Int)×Int×Int×(List ay)×Int)⊕(((List bP)×(List aZ)×(List Int)×Int×Int×(List ay)×Int)⊕((List bP)×(List aZ)×(List Int)×Int×Int×(List ay)))):=bif c5 (i<(f.aA.length:Int)) then((aj f.aA i).bind λo=>(to j o.aw x).bind λe=>(mH j o).bind λc=>(aj c.1 e).bind λ_=>(c.1[e.toNat]?).bind λq=>(JT j g k l n q).bind λa=>((bif c5 (a.2.2.2.2.2.2=6) then c6 (c5 (a.2.2.2.2.2.2=6)) else c6 (c5 (a.2.2.2.2.2.2=8))).bind λw=>bif w then c6 (c7 (d0 (f.aA,a.2.2.2.2.2.2))) else bif c5 (a.2.2.2.2.2.2=43) then c6 (c7 (c7 ())) else(bif c5 (a.2.2.2.2.2.2=0) then(aj c.1 e).bind λ_=>(c.1[e.toNat]?).bind λ_=>c6 (c.1.set (e.toNat) a.2.2.2.2.2.1) else c6 c.1).bind λs=>c6 (d0 (c.2,s)):Option (((List Int)×(List aM))⊕(((List ay)×Int)⊕Unit))).bind λu=>d2 (λm=>(bj 48 h ([(ay.mk m.1 m.2)]:List ay)).bind λt=>c6 (d0 (a.1,a.2.1,a.2.2.1,a.2.2.2.1,a.2.2.2.2.1,t))) (λr=>d2 (λp=>c6 (c7 (a.1,a.2.1,a.2.2.1,a.2.2.2.1,a.2.2.2.2.1,p.1,p.2))) (λy=>c6 (d0 (a.1,a.2.1,a.2.2.1,a.2.2.2.1,a.2.2.2.2.1,h))) r) u:Option (((List bP)×(List aZ)×(List Int)×Int×Int×(List ay))⊕((List bP)×(List aZ)×(List Int)×Int×Int×(List ay)×Int))).bind λv=>d2 (λd=>c6 (d0 (d.1,d.2.1,d.2.2.1,d.2.2.2.1,d.2.2.2.2.1,d.2.2.2.2.2,c3 c4 (i+1)))) (λb=>c6 (c7 (d0 (b.1,b.2.1,b.2.2.1,b.2.2.2.1,b.2.2.2.2.1,b.2.2.2.2.2.1,b.2.2.2.2.2.2)))) v else c6 (c7 (c7 (g.ai,g.af,k,l,n,h)))
def I3(f:Lp)(e:ak)(h:List Int)(g:Int)(i:Int)(l:ak)(d:aL)(j:Int):Option ((List bP)×(List aZ)×(List Int)×Int×Int×aL×Int):=(p8 f l d).bind λm=>bif (!m) then c6 (e.ai,e.af,h,g,i,d,6) else(aj d.aA 0).bind λk=>(im f k.aw j).bind λn=>bif (!n) then c6 (e.ai,e.af,h,g,i,d,41) else(f.loop (λc=>Gz f d j (ak.mk c.1 c.2.1) c.2.2.1 c.2.2.2.1 c.2.2.2.2.1 c.2.2.2.2.2.1 c.2.2.2.2.2.2) (e.ai,e.af,h,g,i,([]:List ay),0)).bind λo=>d2 (λb=>c6 (b.1,b.2.1,b.2.2.1,b.2.2.2.1,b.2.2.2.2.1,(aL.mk b.2.2.2.2.2.1),b.2.2.2.2.2.2)) (λa=>bif c5 ((a.2.2.2.2.2.length:Int)=0) then c6 (a.1,a.2.1,a.2.2.1,a.2.2.2.1,a.2.2.2.2.1,d,43) else c6 (a.1,a.2.1,a.2.2.1,a.2.2.2.1,a.2.2.2.2.1,(aL.mk a.2.2.2.2.2),0)) o
def CS(g:Lp)(a:ak)(f:aL)(e:Int)(h:List Int)(d:Int)(c:Int):Option (aL×Int):=(I3 g a h d c a f e).bind λb=>c6 (b.2.2.2.2.2.1,b.2.2.2.2.2.2)
def ra(b:Lp)(a:aR):Option Bool:=c6 (c5 (0<(a.aI.bq.aA.length:Int)))
def Hb(f:Lp)(d:List Int)(a:List aZ)(b:Int):Option (((List aZ)×Int)⊕(List aZ)):=bif c5 (b<(d.length:Int)) then(aj d b).bind λc=>(aj a c).bind λ_=>(a[c.toNat]?).bind λe=>c6 (d0 (a.set (c.toNat) ({e with jy:=false}:aZ),c3 c4 (b+1))) else c6 (c7 a)
def sW(a:Lp)(b:ak)(d:List Int):Option (ak×Int):=(ij a b).bind λh=>bif (!h) then c6 ((ak.mk ([]:List bP) ([]:List aZ)),6) else(iU a d 0 (c3 c4 ((b.af.length:Int) -1))).bind λi=>bif (!i) then c6 ((ak.mk ([]:List bP) ([]:List aZ)),4) else(kF a b.ai).bind λf=>(kQ a b.af).bind λg=>(a.loop (λc=>Hb a d c.1 c.2) (g,0)).bind λe=>c6 ((ak.mk f e),0)
def Bp(f:Lp)(d:List Int)(a:List aZ)(b:Int):Option (((List aZ)×Int)⊕(List aZ)):=bif c5 (b<(d.length:Int)) then(aj d b).bind λc=>(aj a c).bind λ_=>(a[c.toNat]?).bind λe=>c6 (d0 (a.set (c.toNat) ({e with jy:=false}:aZ),c3 c4 (b+1))) else c6 (c7 a)
def vU(a:Lp)(b:ak)(d:List Int):Option ((List bP)×(List aZ)×Int):=(ij a b).bind λh=>bif (!h) then c6 (([]:List bP),([]:List aZ),6) else(iU a d 0 (c3 c4 ((b.af.length:Int) -1))).bind λi=>bif (!i) then c6 (([]:List bP),([]:List aZ),4) else(kF a b.ai).bind λf=>(kQ a b.af).bind λg=>(a.loop (λc=>Bp a d c.1 c.2) (g,0)).bind λe=>c6 (f,e,0)
def mT(c:Lp)(a:aR):Option ((List bP)×(List aZ)):=(vU c a.aI.ao a.aI.Keys.af).bind λb=>c6 (b.1,b.2.1)
def Ai(b:Lp)(a:aT):Option Bool:=(lQ b a).bind λc=>c6 (!c)
def I4(d:Lp)(b:List aT)(a:Int):Option (Int⊕(Int⊕Unit)):=bif c5 (a<(b.length:Int)) then(aj b a).bind λc=>(Ai d c).bind λe=>bif e then c6 (c7 (d0 a)) else c6 (d0 (c3 c4 (a+1))) else c6 (c7 (c7 ()))
def GJ(a:Lp)(c:List aT):Option Int:=(a.loop (λd=>I4 a c d) 0).bind λb=>d2 (λe=>c6 e) (λf=>c6 (-1)) b
def Ad(b:Lp)(a:List aT):Option Bool:=(GJ b a).bind λc=>c6 (c5 (0<=c))
def xD(i:Lp)(b:List aT)(a:aS)(c:Int)(d:Int)(e:List dC):Option sw:=bif c5 (1<(b.length:Int)) then(aj b 0).bind λf=>(aj b (c3 c4 ((b.length:Int) -1))).bind λg=>bif c5 ((c3 c4 (f.Time+a.cR))<(c3 c4 (g.Time -a.cR))) then(bj 32 e ([(dC.mk c d (c3 c4 (f.Time+a.cR)) (c3 c4 (g.Time -a.cR)))]:List dC)).bind λh=>c6 (u32 ([]:List aT) a h c d) else c6 (u32 ([]:List aT) a e c d) else c6 (u32 ([]:List aT) a e c d)
def xH(e:Lp)(c:aS)(b:aT)(a:aT):Option Bool:=(nG (c3 c4 (b.Number+1)) 65536).bind λd=>bif c5 (a.Number=d) then bif c5 (b.Time<=a.Time) then c6 (c5 ((c3 c4 (a.Time -b.Time))<=(c3 c4 (c.dX+(c3 c4 (2*c.cR)))))) else c6 false else c6 false
def yG(i:Lp)(a:List aT)(b:aS)(c:Int)(d:Int)(e:List dC):Option qv:=bif c5 (1<(a.length:Int)) then(aj a 0).bind λ_=>(a[(0:Int).toNat]?).bind λf=>(aj a (c3 c4 ((a.length:Int) -1))).bind λ_=>(a[(c3 c4 ((a.length:Int) -1)).toNat]?).bind λg=>bif c5 ((c3 c4 (f.Time+b.cR))<(c3 c4 (g.Time -b.cR))) then(bj 32 e ([(dC.mk c d (c3 c4 (f.Time+b.cR)) (c3 c4 (g.Time -b.cR)))]:List dC)).bind λh=>c6 (pC a b c d ([]:List aT) h) else c6 (pC a b c d ([]:List aT) e) else c6 (pC a b c d ([]:List aT) e)
def vj(k:Lp)(m:List aT)(f:Int)(e:Int)(c:aS)(g:List dC)(a:List aT)(l:Int):Option (oI⊕qt):=bif c5 (l<(m.length:Int)) then((aj m l).bind λj=>bif c5 (j.Reader≠f) then c6 (ql f e c g a) else(im k j.aw e).bind λA=>bif A then(yG k a c f e g).bind λb=>let M:=Se b;let J:=Fp b;let r:=KG b;let C:=FU b;let E:=Hz b;let B:=GM b;c6 (ql r C J B E) else(bif c5 (0<(a.length:Int)) then(aj a (c3 c4 ((a.length:Int) -1))).bind λ_=>(a[(c3 c4 ((a.length:Int) -1)).toNat]?).bind λK=>(xH k c K j).bind λn=>c6 (!n) else c6 false).bind λw=>(bif w then(yG k a c f e g).bind λd=>let N:=Se d;let I:=Fp d;let L:=KG d;let x:=FU d;let H:=Hz d;let p:=GM d;c6 (ql L x I p H) else c6 (ql f e c g a)).bind λh=>let o:=Jw h;let u:=KY h;let y:=Kd h;let F:=FE h;let q:=vh h;(bj 48 q ([j]:List aT)).bind λs=>c6 (ql o u y F s):Option pg).bind λi=>let D:=Jw i;let G:=KY i;let t:=Kd i;let v:=FE i;let z:=vh i;c6 (d0 (vI D G t v z (c3 c4 (l+1)))) else c6 (c7 (qA f e c a g))
def xp(d:Lp)(g:List aS)(e:Int)(h:Int)(f:List aT):Option ((List dC)×Int):=bif c5 (400<(f.length:Int)) then c6 (([]:List dC),2) else(Ad d f).bind λi=>bif i then c6 (([]:List dC),6) else(bif c5 (e<0) then c6 true else c6 (c5 ((g.length:Int)<=e))).bind λo=>bif o then c6 (([]:List dC),40) else(cp d h 1 65535).bind λn=>bif (!n) then c6 (([]:List dC),41) else(aj g e).bind λj=>(d.loop (λa=>vj d f (ac8 a) (ah4 a) (afQ a) (akR a) (aiI a) (anA a)) (vI e h j ([]:List dC) ([]:List aT) 0)).bind λb=>let q:=LJ b;let m:=Tn b;let l:=MT b;let r:=Mb b;let p:=N2 b;(xD d r l q m p).bind λc=>let u:=Xb c;let s:=acU c;let k:=aaB c;let v:=afG c;let t:=adt c;c6 (k,0)
def Dh(b:Lp)(a:aS):Option Int:=c6 (c3 c4 ((c3 c4 (a.dY+1))*a.dX))
def Gs(c:Lp)(a:Int)(b:List Int):Option Bool:=(im c b a).bind λd=>c6 d
def DD(h:Lp)(a:List Int)(g:Bool)(j:Int)(b:Int)(d:Int)(c:Int)(i:List Int):Option ((List Int)×Bool):=(bif c5 ((max d c)<=2147483648) then(aj a b).bind λ_=>(a[b.toNat]?).bind λe=>bif c5 ((max d c)<e) then(Gs h b i).bind λf=>c6 f else c6 false else c6 false).bind λjA=>bif jA then(aj a b).bind λ_=>(a[b.toNat]?).bind λ_=>c6 (a.set (b.toNat) (max d c),true) else c6 (a,g)
def tY(j:Lp)(c:aZ)(n:ak)(o:Int)(q:Int)(k:List Int)(a:List Int)(e:Bool)(d:Int):Option (((List Int)×Bool×Int)⊕((List Int)×Bool)):=bif c5 (d<2) then(aj [false,true] d).bind λf=>(bif f then c6 (c.To,c.an) else c6 (c.an,c.To)).bind λb=>(rO j n o f).bind λg=>(bif c5 (0<=g) then(aj a b.1).bind λ_=>(a[b.1.toNat]?).bind λp=>c6 (c5 (p<1099511627776)) else c6 false).bind λm=>(bif m then(aj a b.1).bind λ_=>(a[b.1.toNat]?).bind λl=>(DD j a e b.1 b.2 (c3 c4 (l+g)) q k).bind λi=>c6 (i.1,i.2) else c6 (a,e)).bind λh=>c6 (d0 (h.1,h.2,c3 c4 (d+1))) else c6 (c7 (a,e))
def xS(g:Lp)(b:ak)(j:Int)(h:List Int)(e:List Int)(f:Bool)(a:Int):Option (((List Int)×Bool×Int)⊕((List Int)×Bool)):=bif c5 (a<(b.af.length:Int)) then(aj b.af a).bind λi=>(g.loop (λc=>tY g i b a j h c.1 c.2.1 c.2.2) (e,f,0)).bind λd=>c6 (d0 (d.1,d.2,c3 c4 (a+1))) else c6 (c7 (e,f))
def Bj(b:Lp)(e:List Int)(g:Bool)(f:ak)(h:Int)(d:List Int):Option ((List Int)×Bool):=(b.loop (λa=>xS b f h d a.1 a.2.1 a.2.2) (e,g,0)).bind λc=>c6 (c.1,c.2)
def HZ(e:Lp)(c:ak)(d:Int)(f:List Int)(a:List Int)(g:Bool):Option (((List Int)×Bool)⊕(List Int)):=bif g then(Bj e a false c d f).bind λb=>c6 (d0 (b.1,b.2)) else c6 (c7 a)
def Ay(a:Lp)(c:ak)(g:List Int)(e:Int)(h:List Int):Option (List Int):=(cc a g).bind λf=>(a.loop (λb=>HZ a c e h b.1 b.2) (f,true)).bind λd=>c6 d
def CO(e:Lp)(d:List Int)(a:List Int)(b:Int):Option (((List Int)×Int)⊕(List Int)):=bif c5 (b<(d.length:Int)) then(aj d b).bind λc=>(aj a c).bind λ_=>(a[c.toNat]?).bind λ_=>c6 (d0 (a.set (c.toNat) 1099511627776,c3 c4 (b+1))) else c6 (c7 a)
def wV(b:Lp)(e:ak)(a:aM)(f:List Int)(i:Int)(c:Int)(d:Int):Option (aM×Int):=(vY b e a f i c).bind λh=>bif c5 (h≠0) then c6 (a,h) else(cp b d 0 2147483648).bind λk=>bif (!k) then c6 (a,8) else bif c5 (c<a.Time) then c6 (a,42) else bif c5 ((c3 c4 (c - (max i a.Time)))<=d) then c6 (a,0) else(cc b a.an).bind λm=>(b.loop (λg=>CO b f g.1 g.2) (m,0)).bind λj=>(Ay b e j (c3 c4 (c -d)) f).bind λl=>(sI b e l c).bind λn=>c6 ((aM.mk c n),0)
def Io(h:Lp)(a:ak)(e:List Int)(d:Int)(f:Int)(b:Int)(g:aM):Option ((List bP)×(List aZ)×(List Int)×Int×Int×Int×aM×Int):=(wV h a g e d f b).bind λc=>c6 (a.ai,a.af,e,d,f,b,c.1,c.2)
def Fl(i:Lp)(j:aL)(r:Int)(f:ak)(p:List Int)(n:Int)(o:Int)(q:Int)(g:List ay)(h:Int):Option (((List bP)×(List aZ)×(List Int)×Int×Int×Int×(List ay)×Int)⊕(((List bP)×(List aZ)×(List Int)×Int×Int×Int×(List ay)×Int)⊕((List bP)×(List aZ)×(List Int)×Int×Int×Int×(List ay)))):=bif c5 (h<(j.aA.length:Int)) then((aj j.aA h).bind λk=>(to i k.aw r).bind λe=>(mH i k).bind λd=>(aj d.1 e).bind λ_=>(d.1[e.toNat]?).bind λw=>(Io i f p n o q w).bind λa=>((bif c5 (a.2.2.2.2.2.2.2=6) then c6 (c5 (a.2.2.2.2.2.2.2=6)) else c6 (c5 (a.2.2.2.2.2.2.2=8))).bind λu=>bif u then c6 (c7 (d0 (j.aA,a.2.2.2.2.2.2.2))) else bif c5 (a.2.2.2.2.2.2.2=43) then c6 (c7 (c7 ())) else(bif c5 (a.2.2.2.2.2.2.2=0) then(aj d.1 e).bind λ_=>(d.1[e.toNat]?).bind λ_=>c6 (d.1.set (e.toNat) a.2.2.2.2.2.2.1) else c6 d.1).bind λx=>c6 (d0 (d.2,x)):Option (((List Int)×(List aM))⊕(((List ay)×Int)⊕Unit))).bind λy=>d2 (λm=>(bj 48 g ([(ay.mk m.1 m.2)]:List ay)).bind λv=>c6 (d0 (a.1,a.2.1,a.2.2.1,a.2.2.2.1,a.2.2.2.2.1,a.2.2.2.2.2.1,v))) (λt=>d2 (λl=>c6 (c7 (a.1,a.2.1,a.2.2.1,a.2.2.2.1,a.2.2.2.2.1,a.2.2.2.2.2.1,l.1,l.2))) (λz=>c6 (d0 (a.1,a.2.1,a.2.2.1,a.2.2.2.1,a.2.2.2.2.1,a.2.2.2.2.2.1,g))) t) y:Option (((List bP)×(List aZ)×(List Int)×Int×Int×Int×(List ay))⊕((List bP)×(List aZ)×(List Int)×Int×Int×Int×(List ay)×Int))).bind λs=>d2 (λc=>c6 (d0 (c.1,c.2.1,c.2.2.1,c.2.2.2.1,c.2.2.2.2.1,c.2.2.2.2.2.1,c.2.2.2.2.2.2,c3 c4 (h+1)))) (λb=>c6 (c7 (d0 (b.1,b.2.1,b.2.2.1,b.2.2.2.1,b.2.2.2.2.1,b.2.2.2.2.2.1,b.2.2.2.2.2.2.1,b.2.2.2.2.2.2.2)))) s else c6 (c7 (c7 (f.ai,f.af,p,n,o,q,g)))
def Hu(f:Lp)(d:ak)(i:List Int)(h:Int)(j:Int)(g:Int)(m:ak)(e:aL)(k:Int):Option ((List bP)×(List aZ)×(List Int)×Int×Int×Int×aL×Int):=(p8 f m e).bind λn=>bif (!n) then c6 (d.ai,d.af,i,h,j,g,e,6) else(aj e.aA 0).bind λo=>(im f o.aw k).bind λp=>bif (!p) then c6 (d.ai,d.af,i,h,j,g,e,41) else(f.loop (λb=>Fl f e k (ak.mk b.1 b.2.1) b.2.2.1 b.2.2.2.1 b.2.2.2.2.1 b.2.2.2.2.2.1 b.2.2.2.2.2.2.1 b.2.2.2.2.2.2.2) (d.ai,d.af,i,h,j,g,([]:List ay),0)).bind λl=>d2 (λc=>c6 (c.1,c.2.1,c.2.2.1,c.2.2.2.1,c.2.2.2.2.1,c.2.2.2.2.2.1,(aL.mk c.2.2.2.2.2.2.1),c.2.2.2.2.2.2.2)) (λa=>bif c5 ((a.2.2.2.2.2.2.length:Int)=0) then c6 (a.1,a.2.1,a.2.2.1,a.2.2.2.1,a.2.2.2.2.1,a.2.2.2.2.2.1,e,43) else c6 (a.1,a.2.1,a.2.2.1,a.2.2.2.1,a.2.2.2.2.1,a.2.2.2.2.2.1,(aL.mk a.2.2.2.2.2.2),0)) l
def Bq(g:Lp)(a:ak)(f:aL)(e:Int)(i:List Int)(d:Int)(c:Int)(h:Int):Option (aL×Int):=(Hu g a i d c h a f e).bind λb=>c6 (b.2.2.2.2.2.2.1,b.2.2.2.2.2.2.2)
def uQ(e:Lp)(c:Int)(a:aS)(d:dC)(f:Int)(h:ak)(g:aL):Option pT:=(Dh e a).bind λi=>(Bq e h g c a.ai d.an f i).bind λb=>c6 (Ft c a d f b.1 b.2)
def swp(c b:Int){e:Type}(a:List Int)(f:List Int->Option e):Option e:=(aj a b).bind λ_=>(a[b.toNat]?).bind λd=>(aj a c).bind λ_=>(a[c.toNat]?).bind λv=>(aj a c).bind λ_=>(a[c.toNat]?).bind λ_=>(aj (a.set c.toNat d) b).bind λ_=>((a.set c.toNat d)[b.toNat]?).bind λ_=>f ((a.set c.toNat d).set b.toNat v)
def oX(h:Lp)(e:aB)(d c:Int):Option (aB×Int):=(wv h e [d,c]).bind λj=>bif c5 (j≠0) then c6 (e,j) else bif c5 (d=c) then c6 (e,19) else(aj e.aN d).bind λl=>(aj e.aN c).bind λb=>bif c5 (l.Place≠b.Place) then c6 (e,3) else match e.bp with |[]=>(we h e).bind λa=>swp d c a.1 λf=>c6 (aB.mk (ak.mk a.2.2.2.1 a.2.2.2.2.1) a.2.2.2.2.2.1 a.2.2.2.2.2.2.1 f a.2.2.2.2.2.2.2 a.2.1 a.2.2.1 [],0) |[_]=>(uR h e).bind λa=>swp d c a.1 λf=>swp d c a.2.2.2.1 λg=>c6 (aB.mk (ak.mk a.2.2.2.2.1 a.2.2.2.2.2.1) a.2.2.2.2.2.2.1 a.2.2.2.2.2.2.2.1 f a.2.2.2.2.2.2.2.2 a.2.1 a.2.2.1 [g],0) |[_,_]=>(pO h e).bind λa=>swp d c a.1 λf=>swp d c a.2.2.2.1 λg=>swp d c a.2.2.2.2.1 λi=>c6 (aB.mk (ak.mk a.2.2.2.2.2.1 a.2.2.2.2.2.2.1) a.2.2.2.2.2.2.2.1 a.2.2.2.2.2.2.2.2.1 f a.2.2.2.2.2.2.2.2.2 a.2.1 a.2.2.1 [g,i],0) |[_,_,_]=>(nM h e).bind λa=>swp d c a.1 λf=>swp d c a.2.2.2.1 λg=>swp d c a.2.2.2.2.1 λi=>swp d c a.2.2.2.2.2.1 λk=>c6 (aB.mk (ak.mk a.2.2.2.2.2.2.1 a.2.2.2.2.2.2.2.1) a.2.2.2.2.2.2.2.2.1 a.2.2.2.2.2.2.2.2.2.1 f a.2.2.2.2.2.2.2.2.2.2 a.2.1 a.2.2.1 [g,i,k],0) |_=>d5
def Dw(e:Lp)(a:Int)(c:aM)(b:Int):Option Bool:=(aj c.an a).bind λd=>c6 (c5 (d<=b))
def Ge(i:Lp)(c:Int)(h:aM)(e:Int)(b:List Int)(a:Int):Option (((List Int)×Int)⊕(List Int)):=bif c5 (a<c) then(Dw i a h e).bind λg=>(bif g then(bj 8 b ([a]:List Int)).bind λf=>c6 f else c6 b).bind λd=>c6 (d0 (d,c3 c4 (a+1))) else c6 (c7 b)
def HL(b:Lp)(c:Int)(f:aM)(d:Int):Option (List Int):=(b.loop (λa=>Ge b c f d a.1 a.2) (([]:List Int),0)).bind λe=>c6 e
def su(c:Lp)(a:aM)(b:Int):Option (List Int):=(HL c (a.an.length:Int) a b).bind λd=>c6 d
def zO(c:Lp)(a:Int)(b:List Int):Option Bool:=(im c b a).bind λd=>c6 d
def IF(e:Lp)(b:List Int)(d:List Int)(a:Int):Option (Int⊕(Int⊕Unit)):=bif c5 (a<(b.length:Int)) then(aj b a).bind λc=>(zO e c d).bind λf=>bif f then c6 (c7 (d0 a)) else c6 (d0 (c3 c4 (a+1))) else c6 (c7 (c7 ()))
def Iw(a:Lp)(c:List Int)(e:List Int):Option Int:=(a.loop (λd=>IF a c e d) 0).bind λb=>d2 (λf=>c6 f) (λg=>c6 (-1)) b
def B3(c:Lp)(a:List Int)(b:List Int):Option Bool:=(Iw c a b).bind λd=>c6 (c5 (0<=d))
def EE(a:Lp)(d:aM)(g:aM)(b:Int):Option Bool:=(su a g b).bind λc=>(su a d b).bind λe=>(B3 a e c).bind λf=>c6 f
def xc(e:Lp)(a:aM)(b:Int):Option (aM×Int):=(bif c5 (b<a.Time) then c6 true else c6 (c5 (2147483648<b))).bind λc=>bif c then c6 (a,8) else(cc e a.an).bind λd=>c6 ((aM.mk b d),0)
def CV(g:Lp)(c:ay)(b:ay)(a:Int):Option (((List aM)×Int)⊕(List aM)):=bif c5 (a<(c.aH.length:Int)) then(aj c.aH a).bind λd=>(cc g d.an).bind λf=>(bj 32 b.aH ([(aM.mk d.Time f)]:List aM)).bind λe=>c6 (d0 (e,c3 c4 (a+1))) else c6 (c7 b.aH)
def Ac(a:Lp)(b:ay):Option ((List Int)×(List aM)):=(cc a b.aw).bind λc=>(a.loop (λd=>CV a b (ay.mk c d.1) d.2) (([]:List aM),0)).bind λe=>c6 (c,e)
def Ke(b:Lp)(a:List ay):Option (List ay):=bj 48 [] a
def EG(h:Lp)(c:aM)(f:aM)(b:aM)(a:Int):Option ((Int×(List Int)×Int)⊕(Int×(List Int))):=bif c5 (a<(c.an.length:Int)) then(aj c.an a).bind λd=>(aj f.an a).bind λe=>(bj 8 b.an ([min d e]:List Int)).bind λg=>c6 (d0 (b.Time,g,c3 c4 (a+1))) else c6 (c7 (b.Time,b.an))
def xW(e:Lp)(a:aM)(c:aM):Option (aM×Int):=bif c5 ((a.an.length:Int)≠(c.an.length:Int)) then c6 ((aM.mk 0 ([]:List Int)),6) else(e.loop (λb=>EG e a c (aM.mk b.1 b.2.1) b.2.2) (max a.Time c.Time,([]:List Int),0)).bind λd=>c6 ((aM.mk d.1 d.2),0)
def IK(c:Lp)(a:ay)(b:ay):Option Int:=(sL c a.aw b.aw).bind λd=>c6 d
def Mg(h:Lp)(g:Int)(b:List ay)(a:Int):Option (((List ay)×Int)⊕(List ay)):=(bif c5 (g<a) then(aj b a).bind λ_=>(b[a.toNat]?).bind λd=>(aj b (c3 c4 (a -1))).bind λ_=>(b[(c3 c4 (a -1)).toNat]?).bind λf=>(IK h d f).bind λe=>c6 (c5 (e<0)) else c6 false).bind λi=>bif i then(aj b (c3 c4 (a -1))).bind λ_=>(b[(c3 c4 (a -1)).toNat]?).bind λc=>(aj b a).bind λ_=>(b[a.toNat]?).bind λj=>(aj b a).bind λ_=>(b[a.toNat]?).bind λ_=>(aj (b.set (a.toNat) c) (c3 c4 (a -1))).bind λ_=>((b.set (a.toNat) c)[(c3 c4 (a -1)).toNat]?).bind λ_=>c6 (d0 ((b.set (a.toNat) c).set ((c3 c4 (a -1)).toNat) j,c3 c4 (a -1))) else c6 (c7 b)
def Sx(d:Lp)(f:Int)(g:Int)(b:List ay)(a:Int):Option (((List ay)×Int)⊕(List ay)):=bif c5 (a<f) then(d.loop (λc=>Mg d g c.1 c.2) (b,a)).bind λe=>c6 (d0 (e,c3 c4 (a+1))) else c6 (c7 b)
def xn(c:Lp)(d:List ay)(b:Int)(f:Int):Option (List ay):=(c.loop (λa=>Sx c f b a.1 a.2) (d,c3 c4 (b+1))).bind λe=>c6 e
def zB(f:Lp)(e:Int)(b:List ay)(c:Int)(a:Int):Option (((List ay)×Int×Int)⊕((List ay)×Int)):=bif c5 (a<=e) then(xn f b c a).bind λd=>c6 (d0 (d,a,c3 c4 (a+20))) else c6 (c7 (b,c))
def afc(c:Lp)(a:Int)(b:Int):Option (Int⊕Unit):=bif c5 (b<=a) then d5 else c6 (c7 ())
def KH(c:Lp)(b:Int)(a:Int):Option (Int⊕Unit):=bif c5 (a<b) then(c.loop (λd=>afc c b d) (c3 c4 (2*a))).bind λe=>bif c5 ((c3 c4 (0+a))<b) then d5 else c6 (d0 (c3 c4 (a*2))) else c6 (c7 ())
def Je(b:Lp)(e:List ay)(c:Int):Option (List ay):=(b.loop (λa=>zB b c a.1 a.2.1 a.2.2) (e,0,20)).bind λd=>(xn b d.1 d.2 c).bind λf=>(b.loop (λa=>KH b c a) 20).bind λg=>c6 f
def GP(b:Lp)(a:List ay):Option (List ay):=(Je b a (a.length:Int)).bind λc=>c6 c
def JY(b:Lp)(a:List ay):Option (List ay):=bj 48 [] a
def FQ(b:Lp)(a:List ay):Option (List ay):=(JY b a).bind λc=>c6 c
def uv(a:Lp)(b:List ay):Option (List ay):=(FQ a b).bind λc=>(GP a c).bind λd=>c6 d
def qR(e:Lp)(b:List aM)(a:List aM)(i:Int):Option ((List aM×Int)⊕List aM):=bif c5 (i<(b.length:Int)) then(aj a i).bind λf=>(aj b i).bind λd=>(xW e f d).bind λc=>c6 (d0 (a.set i.toNat c.1,c3 c4 (i+1))) else c6 (c7 a)
def lZ(b:Lp)(d out:List ay)(i:Int):Option ((List ay×Int)⊕List ay):=bif c5 (i<(d.length:Int)) then(aj d i).bind λc=>(bif c5 (0<(out.length:Int)) then(aj out (c3 c4 ((out.length:Int) -1))).bind λa=>qG b a.aw c.aw else c6 false).bind λf=>bif f then(aj out (c3 c4 ((out.length:Int) -1))).bind λa=>(b.loop (λe=>qR b c.aH e.1 e.2) (a.aH,0)).bind λg=>c6 (d0 (out.set (c3 c4 ((out.length:Int) -1)).toNat {a with aH:=g},c3 c4 (i+1))) else(oM b c).bind λh=>(bj 48 out [h]).bind λout=>c6 (d0 (out,c3 c4 (i+1))) else c6 (c7 out)
def yK(a:Lp)(c:List ay):Option (List ay):=(uv a c).bind λd=>a.loop (λb=>lZ a d b.1 b.2) (([]:List ay),0)
def tC(h:Lp)(f:Int)(j:Int)(e:Int)(a:List aM)(c:Int):Option (((List aM)×Int)⊕(List aM)):=bif c5 (c<2) then(aj ([f,j]:List Int) c).bind λb=>(aj a b).bind λ_=>(a[b.toNat]?).bind λg=>(xc h g e).bind λd=>(bif c5 (d.2=0) then(aj a b).bind λ_=>(a[b.toNat]?).bind λ_=>c6 (a.set (b.toNat) d.1) else c6 a).bind λi=>c6 (d0 (i,c3 c4 (c+1))) else c6 (c7 a)
def H9(d:Lp)(l:aL)(b:Int)(c:Int)(i:Int)(e:List ay)(h:Int):Option (((List ay)×Int)⊕(List ay)):=bif c5 (h<(l.aA.length:Int)) then((aj l.aA h).bind λf=>(aj f.aH b).bind λs=>(aj f.aH c).bind λq=>(EE d s q i).bind λm=>bif (!m) then c6 e else(Ac d f).bind λa=>(aj a.1 c).bind λ_=>(a.1[c.toNat]?).bind λg=>(aj a.1 b).bind λ_=>(a.1[b.toNat]?).bind λo=>(aj a.1 b).bind λ_=>(a.1[b.toNat]?).bind λ_=>(aj (a.1.set (b.toNat) g) c).bind λ_=>((a.1.set (b.toNat) g)[c.toNat]?).bind λ_=>((d.loop (λk=>tC d b c i k.1 k.2) (a.2,0)).bind λn=>c6 ((a.1.set (b.toNat) g).set (c.toNat) o,n):Option ((List Int)×(List aM))).bind λj=>(bj 48 e ([(ay.mk j.1 j.2)]:List ay)).bind λp=>c6 p:Option (List ay)).bind λr=>c6 (d0 (r,c3 c4 (h+1))) else c6 (c7 e)
def yY(b:Lp)(l:ak)(a:aL)(c:Int)(d:Int)(f:Int):Option (aL×Int):=(p8 b l a).bind λj=>bif (!j) then c6 (a,6) else(aj a.aA 0).bind λg=>((cp b c 0 (c3 c4 ((g.aw.length:Int) -1))).bind λo=>bif (!o) then c6 true else(cp b d 0 (c3 c4 ((g.aw.length:Int) -1))).bind λm=>bif (!m) then c6 true else c6 (c5 (c=d)):Option Bool).bind λp=>bif p then c6 (a,19) else(cp b f 0 2147483648).bind λk=>bif (!k) then c6 (a,8) else(Ke b a.aA).bind λn=>(b.loop (λh=>H9 b a c d f h.1 h.2) (n,0)).bind λi=>(yK b i).bind λe=>bif c5 (24<(e.length:Int)) then c6 (a,44) else c6 ((aL.mk e),0)
def DV(c:Lp)(a:Int)(b:bQ):Option Bool:=bif c5 (a≠1099511627776) then(cp c a b.Time 2147483648).bind λd=>c6 (!d) else c6 false
def GU(e:Lp)(b:List Int)(d:bQ)(a:Int):Option (Int⊕(Int⊕Unit)):=bif c5 (a<(b.length:Int)) then(aj b a).bind λc=>(DV e c d).bind λf=>bif f then c6 (c7 (d0 a)) else c6 (d0 (c3 c4 (a+1))) else c6 (c7 (c7 ()))
def GH(a:Lp)(c:List Int)(e:bQ):Option Int:=(a.loop (λd=>GU a c e d) 0).bind λb=>d2 (λf=>c6 f) (λg=>c6 (-1)) b
def Ab(c:Lp)(a:List Int)(b:bQ):Option Bool:=(GH c a b).bind λd=>c6 (c5 (0<=d))
def wB(b:Lp)(c:ak)(a:bQ):Option Bool:=(ij b c).bind λd=>bif d then bif c5 ((a.an.length:Int)=(c.ai.length:Int)) then(cp b a.Time 0 2147483648).bind λe=>bif e then(Ab b a.an a).bind λf=>c6 (!f) else c6 false else c6 false else c6 false
def Fi(f:Lp)(c:bQ)(d:Int)(b:List Int)(a:Int):Option (((List Int)×Int)⊕(List Int)):=bif c5 (a<(c.an.length:Int)) then(aj c.an a).bind λe=>(aj b a).bind λ_=>(b[a.toNat]?).bind λ_=>c6 (d0 (b.set (a.toNat) (max e d),c3 c4 (a+1))) else c6 (c7 b)
def Ii(i:Lp)(e:ak)(g:bQ)(d:Int)(h:List bI)(c:List Int)(b:Int):Option (((List Int)×Int)⊕(List Int)):=bif c5 (b<(e.af.length:Int)) then(aj e.af b).bind λa=>((aj g.an a.an).bind λo=>bif c5 (o<=d) then(aj h b).bind λl=>(n6 i e b l false).bind λj=>c6 (c5 (0<=j)) else c6 false:Option Bool).bind λp=>(bif p then(aj c a.To).bind λ_=>(c[a.To.toNat]?).bind λ_=>c6 (c.set (a.To.toNat) d) else c6 c).bind λf=>((aj g.an a.To).bind λr=>bif c5 (r<=d) then(aj h b).bind λn=>(n6 i e b n true).bind λk=>c6 (c5 (0<=k)) else c6 false:Option Bool).bind λm=>(bif m then(aj f a.an).bind λ_=>(f[a.an.toNat]?).bind λ_=>c6 (f.set (a.an.toNat) d) else c6 f).bind λq=>c6 (d0 (q,c3 c4 (b+1))) else c6 (c7 c)
def uk(a:Lp)(e:ak)(g:List bI)(f:ak)(h:List bI)(b:bQ)(c:Int):Option (bQ×Int):=((pD a e g).bind λj=>bif (!j) then c6 true else(wB a e b).bind λo=>bif (!o) then c6 true else(pD a f h).bind λi=>bif (!i) then c6 true else c6 (c5 ((f.ai.length:Int)≠(e.ai.length:Int))):Option Bool).bind λp=>bif p then c6 (b,6) else(bif c5 (c<b.Time) then c6 true else c6 (c5 (2147483648<c))).bind λl=>bif l then c6 (b,8) else(gP 8 0 (b.an.length:Int)).bind λk=>(a.loop (λd=>Fi a b c d.1 d.2) (k,0)).bind λq=>(a.loop (λd=>Ii a e b c g d.1 d.2) (q,0)).bind λm=>(rM a m f.ai f.af h).bind λn=>c6 ((bQ.mk c n),0)
def HM(f:Lp)(d:List Int)(e:Int)(a:List Int)(c:Int):Option (((List Int)×Int)⊕(List Int)):=bif c5 (c<(d.length:Int)) then(aj d c).bind λb=>(aj a b).bind λ_=>(a[b.toNat]?).bind λ_=>c6 (d0 (a.set (b.toNat) e,c3 c4 (c+1))) else c6 (c7 a)
def EX(a:Lp)(b:ak)(f:List bI)(d:List Int)(c:Int):Option ((List Int)×Int×Int):=(pD a b f).bind λg=>bif (!g) then c6 (([]:List Int),0,6) else(iU a d 0 (c3 c4 ((b.ai.length:Int) -1))).bind λh=>bif (!h) then c6 (([]:List Int),0,3) else(cp a c 0 2147483648).bind λk=>bif (!k) then c6 (([]:List Int),0,8) else(sJ a ([1099511627776]:List Int) (b.ai.length:Int)).bind λl=>(a.loop (λe=>HM a d c e.1 e.2) (l,0)).bind λj=>(rM a j b.ai b.af f).bind λi=>c6 (i,c,0)
def xP(d:Lp)(a:cy)(b:Int):Option (Int⊕(Unit⊕Unit)):=bif c5 (b<4) then(aj ([a.Kind,a.eB,a.ku,a.mZ]:List Int) b).bind λc=>(cp d c 0 2147483648).bind λe=>bif (!e) then c6 (c7 (d0 ())) else c6 (d0 (c3 c4 (b+1))) else c6 (c7 (c7 ()))
def Dg(b:Lp)(a:cy):Option Bool:=(b.loop (λg=>xP b a g) 0).bind λh=>d2 (λi=>c6 false) (λj=>((cp b a.Priority 1 4).bind λf=>bif (!f) then c6 true else(cp b a.pB 1 2147483648).bind λc=>c6 (!c):Option Bool).bind λe=>bif e then c6 false else bif a.sd then c6 (c5 (a.l9=0)) else(cp b a.l9 a.ku 2147483648).bind λd=>bif d then c6 (!a.uV) else c6 false) h
def qF(d:Lp)(b:List Int)(a:Int):Option (Int⊕(Int⊕Unit)):=bif c5 (a<(b.length:Int)) then(aj b a).bind λc=>bif c5 (c≠0) then c6 (c7 (d0 c)) else c6 (d0 (c3 c4 (a+1))) else c6 (c7 (c7 ()))
def CY(a:Lp)(c:List Int):Option Int:=(a.loop (λe=>qF a c e) 0).bind λd=>d2 (λb=>c6 b) (λf=>c6 0) d
def rK(a:Lp)(b:cy)(c:kC):Option Int:=(uE a b.Kind c.kind).bind λd=>(uE a b.eB c.Dn).bind λe=>(CY a ([d,e]:List Int)).bind λf=>c6 f
def vH(d:Lp)(b:List cy)(a:Int):Option (Int⊕(Unit⊕Unit)):=bif c5 (a<(b.length:Int)) then(aj b a).bind λc=>((Dg d c).bind λg=>bif (!g) then c6 true else bif c5 (0<a) then(aj b (c3 c4 (a -1))).bind λe=>(rK d e (kC.mk c.Kind c.eB)).bind λf=>c6 (c5 (0<=f)) else c6 false:Option Bool).bind λh=>bif h then c6 (c7 (d0 ())) else c6 (d0 (c3 c4 (a+1))) else c6 (c7 (c7 ()))
def yE(b:Lp)(a:List cy):Option Bool:=bif c5 (64<(a.length:Int)) then c6 false else(b.loop (λc=>vH b a c) 0).bind λd=>d2 (λe=>c6 false) (λf=>c6 true) d
def Rt(i:Lp)(g:List cy)(h:kC)(a:Int)(c:Int):Option ((Int×Int)⊕Int):=bif c5 (a<c) then(iN .u64 (d3.wrap (c3 c4 (a+c))) 1).bind λb=>(aj g (c3 c4 b)).bind λe=>(rK i e h).bind λf=>(bif c5 (f<0) then c6 (c3 c4 ((c3 c4 b)+1),c) else c6 (a,c3 c4 b)).bind λd=>c6 (d0 (d.1,d.2)) else c6 (c7 a)
def Ec(c:Lp)(a:List cy)(e:kC):Option (Int×Bool):=(c.loop (λd=>Rt c a e d.1 d.2) (0,(a.length:Int))).bind λb=>bif c5 (b<(a.length:Int)) then(aj a b).bind λg=>(rK c g e).bind λf=>c6 (b,c5 (f=0)) else c6 (b,false)
def D3(d:Lp)(a:List cy)(c:List cy)(b:Int):Option (List cy):=B2 64 a b c
def rk(d:Lp)(b:List cy)(g:Int)(h:Int)(e:Int)(f:Int):Option ((List cy)×Int):=(yE d b).bind λt=>bif (!t) then c6 (b,6) else((cp d g 0 2147483648).bind λu=>bif (!u) then c6 true else(cp d h 0 2147483648).bind λq=>bif (!q) then c6 true else(cp d e 1 4).bind λm=>c6 (!m):Option Bool).bind λl=>bif l then c6 (b,1) else(Ec d b (kC.mk g h)).bind λa=>((cp d f 0 2147483648).bind λr=>bif (!r) then c6 true else bif a.2 then(aj b a.1).bind λp=>bif c5 (f<p.ku) then c6 true else(aj b a.1).bind λs=>c6 (c5 (f<s.l9)) else c6 false:Option Bool).bind λo=>bif o then c6 (b,8) else bif (!a.2) then bif c5 ((b.length:Int)=64) then c6 (b,2) else(pI d b).bind λj=>(D3 d j ([(cy.mk g h e f 0 true false 0 1)]:List cy) a.1).bind λn=>c6 (n,0) else(pI d b).bind λc=>(aj c a.1).bind λ_=>(c[a.1.toNat]?).bind λw=>bif (!w.sd) then(c[a.1.toNat]?).bind λx=>(c[a.1.toNat]?).bind λ_=>c6 (c.set (a.1.toNat) (cy.mk g h e f 0 true false 0 (min (c3 c4 (x.pB+1)) 2147483648)),0) else(c[a.1.toNat]?).bind λv=>bif c5 (e<v.Priority) then(c[a.1.toNat]?).bind λi=>((c.set (a.1.toNat) ({i with Priority:=e}:cy))[a.1.toNat]?).bind λk=>c6 ((c.set (a.1.toNat) ({i with Priority:=e}:cy)).set (a.1.toNat) ({k with mZ:=0}:cy),0) else c6 (c,0)
def B0(e:Lp)(a:bC)(c:aR)(b:bH):Option Bool:=(aj c.aI.Keys.af b.A).bind λd=>c6 (c5 (a.Road=d))
def aou(f:Lp)(b:List bC)(e:aR)(c:bH)(a:Int):Option (Int⊕(Int⊕Unit)):=bif c5 (a<(b.length:Int)) then(aj b a).bind λd=>(B0 f d e c).bind λg=>bif g then c6 (c7 (d0 a)) else c6 (d0 (c3 c4 (a+1))) else c6 (c7 (c7 ()))
def Er(a:Lp)(c:List bC)(f:aR)(d:bH):Option Int:=(a.loop (λe=>aou a c f d e) 0).bind λb=>d2 (λg=>c6 g) (λh=>c6 (-1)) b
def Dv(e:Lp)(a:List bC)(d:aR)(c:bH):Option Bool:=(Er e a d c).bind λb=>c6 (c5 (0<=b))
def EA(b:Lp)(a:bA):Option bA:=(cc b a.af).bind λc=>(cc b a.Keys).bind λd=>c6 (bA.mk c d a.Out)
def IL(b:Lp)(a:bA):Option ((List Int)×(List Int)×Bool):=(cc b a.af).bind λc=>(cc b a.Keys).bind λd=>c6 (d,c,a.Out)
def qO(d:Lp)(a:bA)(c:Int)(g:Int)(j:Int):Option (bA×Int):=(oL d a).bind λe=>bif (!e) then c6 (a,6) else(cp d c 0 (c3 c4 ((a.Keys.length:Int) -1))).bind λh=>bif (!h) then c6 (a,47) else((aj a.Keys c).bind λf=>bif c5 (f≠g) then c6 true else c6 a.Out:Option Bool).bind λi=>bif i then c6 (a,48) else(IL d a).bind λb=>(aj b.1 c).bind λ_=>(b.1[c.toNat]?).bind λ_=>c6 ((bA.mk b.2.1 (b.1.set (c.toNat) j) b.2.2),0)
def GQ(d:Lp)(b:bA)(c:Int):Option (bA×Int):=(qO d b c 0 1).bind λa=>c6 (a.1,a.2)
def J0(d:Lp)(b:bA)(c:Int):Option (bA×Int):=(qO d b c 1 2).bind λa=>c6 (a.1,a.2)
def KV(b:Lp)(a:Int):Option Bool:=c6 (c5 (a≠2))
def ahp(d:Lp)(b:List Int)(a:Int):Option (Int⊕(Int⊕Unit)):=bif c5 (a<(b.length:Int)) then(aj b a).bind λc=>(KV d c).bind λe=>bif e then c6 (c7 (d0 a)) else c6 (d0 (c3 c4 (a+1))) else c6 (c7 (c7 ()))
def CC(a:Lp)(c:List Int):Option Int:=(a.loop (λd=>ahp a c d) 0).bind λb=>d2 (λe=>c6 e) (λf=>c6 (-1)) b
def zA(b:Lp)(a:List Int):Option Bool:=(CC b a).bind λc=>c6 (c5 (0<=c))
def xi(c:Lp)(a:bA)(b:Bool):Option (bA×Int):=(oL c a).bind λf=>bif (!f) then c6 (a,6) else(bif (a.Out==b) then c6 true else bif b then(yh c a).bind λg=>c6 (!g) else c6 false).bind λe=>bif e then c6 (a,48) else(EA c a).bind λd=>c6 ((bA.mk d.af d.Keys b),0)
def Cu(c:Lp)(b:bA):Option (bA×Int):=(xi c b true).bind λa=>c6 (a.1,a.2)
def Jb(c:Lp)(a:aM)(b:Int):Option Bool:=c6 (c5 (b<a.Time))
def Gr(e:Lp)(b:List aM)(d:Int)(a:Int):Option (Int⊕(Int⊕Unit)):=bif c5 (a<(b.length:Int)) then(aj b a).bind λc=>(Jb e c d).bind λf=>bif f then c6 (c7 (d0 a)) else c6 (d0 (c3 c4 (a+1))) else c6 (c7 (c7 ()))
def Gk(a:Lp)(c:List aM)(e:Int):Option Int:=(a.loop (λd=>Gr a c e d) 0).bind λb=>d2 (λf=>c6 f) (λg=>c6 (-1)) b
def JC(c:Lp)(a:List aM)(b:Int):Option Bool:=(Gk c a b).bind λd=>c6 (c5 (0<=d))
def AP(c:Lp)(a:ay)(b:Int):Option Bool:=(JC c a.aH b).bind λd=>c6 d
def Jx(e:Lp)(b:List ay)(d:Int)(a:Int):Option (Int⊕(Int⊕Unit)):=bif c5 (a<(b.length:Int)) then(aj b a).bind λc=>(AP e c d).bind λf=>bif f then c6 (c7 (d0 a)) else c6 (d0 (c3 c4 (a+1))) else c6 (c7 (c7 ()))
def Jm(a:Lp)(c:List ay)(e:Int):Option Int:=(a.loop (λd=>Jx a c e d) 0).bind λb=>d2 (λf=>c6 f) (λg=>c6 (-1)) b
def AL(c:Lp)(a:List ay)(b:Int):Option Bool:=(Jm c a b).bind λd=>c6 (c5 (0<=d))
def xT(d:Lp)(c:ak)(a:aM)(b:Int):Option (aM×Int):=((ij d c).bind λg=>bif (!g) then c6 true else(ur d c a).bind λe=>c6 (!e):Option Bool).bind λjA=>bif jA then c6 (a,6) else(bif c5 (b<a.Time) then c6 true else c6 (c5 (2147483648<b))).bind λkE=>bif kE then c6 (a,8) else(ze d c a.an b).bind λf=>c6 ((aM.mk b f),0)
def IJ(e:Lp)(a:List Int)(d:ak)(b:Int)(c:Int):Option (aM×Int):=((ij e d).bind λh=>bif (!h) then c6 true else(ur e d (aM.mk b a)).bind λf=>c6 (!f):Option Bool).bind λjA=>bif jA then c6 ((aM.mk b a),6) else(bif c5 (c<b) then c6 true else c6 (c5 (2147483648<c))).bind λkE=>bif kE then c6 ((aM.mk b a),8) else(sI e d a c).bind λg=>c6 ((aM.mk c g),0)
def JO(g:Lp)(d:List Int)(f:aM)(b:List Int)(c:Int):Option (((List Int)×Int)⊕(List Int)):=bif c5 (c<(d.length:Int)) then(aj d c).bind λa=>(aj f.an a).bind λe=>(aj b a).bind λ_=>(b[a.toNat]?).bind λ_=>c6 (d0 (b.set (a.toNat) e,c3 c4 (c+1))) else c6 (c7 b)
def CA(a:Lp)(g:ak)(b:aM)(d:Int):Option (aM×Int):=(sJ a ([1099511627776]:List Int) (b.an.length:Int)).bind λi=>(su a b d).bind λh=>(a.loop (λe=>JO a h b e.1 e.2) (i,0)).bind λf=>(IJ a f g b.Time d).bind λc=>c6 (c.1,c.2)
def zx(h:Lp)(d:ay)(f:ak×Int)(i:Int)(g:aL)(b:List aM)(a:Int):Option (((List aM)×Int)⊕(((List ay)×Int)⊕(List aM))):=bif c5 (a<(d.aH.length:Int)) then(aj d.aH a).bind λe=>(CA h f.1 e i).bind λc=>bif c5 (c.2≠0) then c6 (c7 (d0 (g.aA,c.2))) else(aj b a).bind λ_=>(b[a.toNat]?).bind λ_=>c6 (d0 (b.set (a.toNat) c.1,c3 c4 (a+1))) else c6 (c7 (c7 b))
def FR(c:Lp)(b:aL)(l:ak×Int)(k:Int)(d:List ay)(a:Int):Option (((List ay)×Int)⊕(((List ay)×Int)⊕(List ay))):=bif c5 (a<(b.aA.length:Int)) then(aj b.aA a).bind λj=>(mH c j).bind λi=>((c.loop (λh=>zx c j l k b h.1 h.2) (i.1,0)).bind λo=>d2 (λe=>c6 (c7 (e.1,e.2))) (λn=>c6 (d0 (i.2,n))) o:Option (((List Int)×(List aM))⊕((List ay)×Int))).bind λm=>d2 (λg=>(bj 48 d ([(ay.mk g.1 g.2)]:List ay)).bind λp=>c6 (d0 (p,c3 c4 (a+1)))) (λf=>c6 (c7 (d0 (f.1,f.2)))) m else c6 (c7 (c7 d))
def Em(b:Lp)(f:ak)(a:aL)(l:List Int)(d:Int):Option (aL×Int):=(p8 b f a).bind λk=>bif (!k) then c6 (a,6) else(sW b f l).bind λc=>bif c5 (c.2≠0) then c6 (a,c.2) else(bif c5 (2147483648<d) then c6 true else(AL b a.aA d).bind λm=>c6 m).bind λj=>bif j then c6 (a,8) else(b.loop (λg=>FR b a c d g.1 g.2) (([]:List ay),0)).bind λi=>d2 (λe=>c6 ((aL.mk e.1),e.2)) (λn=>(yK b n).bind λh=>c6 ((aL.mk h),0)) i
def zd(c:Lp)(b:b7)(a:Int):Option Bool:=bif c5 (b.Time<=a) then c6 (c5 (a<=2147483648)) else c6 false
def CR(e:Lp)(a:Int)(b:aM):Option Bool:=(cp e a 0 (c3 c4 ((b.an.length:Int) -1))).bind λc=>bif c then(aj b.an a).bind λd=>c6 (c5 (d≠1099511627776)) else c6 false
def G9(e:Lp)(b:List Int)(d:aM)(a:Int):Option (Int⊕(Int⊕Unit)):=bif c5 (a<(b.length:Int)) then(aj b a).bind λc=>(CR e c d).bind λf=>bif f then c6 (c7 (d0 a)) else c6 (d0 (c3 c4 (a+1))) else c6 (c7 (c7 ()))
def G4(a:Lp)(c:List Int)(e:aM):Option Int:=(a.loop (λd=>G9 a c e d) 0).bind λb=>d2 (λf=>c6 f) (λg=>c6 (-1)) b
def As(c:Lp)(a:List Int)(b:aM):Option Bool:=(G4 c a b).bind λd=>c6 (c5 (0<=d))
def xK(f:Lp)(b:ay)(e:List Int)(a:Int):Option (Int⊕(Unit⊕Unit)):=bif c5 (a<(b.aH.length:Int)) then(aj b.aH a).bind λd=>(As f e d).bind λc=>bif c then c6 (c7 (d0 ())) else c6 (d0 (c3 c4 (a+1))) else c6 (c7 (c7 ()))
def wF(c:Lp)(b:aL)(g:List Int)(a:Int):Option (Int⊕(Unit⊕Unit)):=bif c5 (a<(b.aA.length:Int)) then(aj b.aA a).bind λf=>(c.loop (λe=>xK c f g e) 0).bind λd=>d2 (λi=>c6 (c7 (d0 ()))) (λh=>c6 (d0 (c3 c4 (a+1)))) d else c6 (c7 (c7 ()))
def wA(a:Lp)(b:aL)(e:List Int):Option Bool:=(a.loop (λd=>wF a b e d) 0).bind λc=>d2 (λf=>c6 false) (λg=>c6 true) c
def Ah(a:Lp)(b:cd)(d:bA)(c:aL):Option Bool:=(oT a b (b7.mk 0 0 0 0)).bind λe=>bif e then(oL a d).bind λf=>bif f then bif d.Out then bif c5 (0<(c.aA.length:Int)) then(wA a c b.bT).bind λg=>c6 g else c6 false else c6 false else c6 false else c6 false
def si(b:Lp)(a:jf)(h:Bool):Option Int:=(oT b a.x a.s).bind λg=>bif (!g) then c6 6 else bif c5 (a.s.State≠a.from_) then c6 10 else(bif c5 (a.t<0) then c6 true else(zd b a.s a.t).bind λi=>c6 (!i)).bind λc=>bif c then c6 8 else bif h then c6 19 else(bif c5 (a.from_≠0) then c6 (c5 (a.x.dZ<(c3 c4 (a.t -a.s.Time)))) else c6 false).bind λd=>bif d then c6 10 else((oL b a.k).bind λe=>bif (!e) then c6 true else c6 (!a.k.Out):Option Bool).bind λf=>bif f then c6 48 else(Ah b a.x a.k a.b).bind λj=>bif (!j) then c6 49 else c6 0
def BR(g:Lp)(e:cd)(d:b7)(f:bA)(h:aL)(b:Int)(a:Int):Option (b7×Int):=(si g (jf.mk e d f h a 0) (c5 (b<=0))).bind λc=>bif c5 (c≠0) then c6 (d,c) else c6 ((b7.mk 1 b 0 a),0)
def AJ(g:Lp)(e:cd)(a:b7)(f:bA)(h:aL)(c:Int)(b:Int):Option (b7×Int):=(bif c5 (c<=0) then(si g (jf.mk e a f h b 1) true).bind λj=>c6 j else(si g (jf.mk e a f h b 1) (c5 (c=a.dD))).bind λi=>c6 i).bind λd=>bif c5 (d≠0) then c6 (a,d) else c6 ((b7.mk 2 a.dD c b),0)
def CM(g:Lp)(e:cd)(a:b7)(f:bA)(h:aL)(b:Int)(d:Bool):Option (b7×Int):=(si g (jf.mk e a f h b 2) false).bind λc=>bif c5 (c≠0) then c6 (a,c) else bif d then c6 (({a with State:=4,Time:=b}:b7),0) else c6 (({a with State:=3,Time:=b}:b7),0)
def tW(g:Lp)(c:aB)(b:aB)(a:Int):Option (zu⊕Ba):=bif c5 (a<(c.aQ.length:Int)) then(aj c.aQ a).bind λd=>(cc g d.ai).bind λf=>(bj 48 b.aQ ([({d with ai:=f}:aS)]:List aS)).bind λe=>c6 (d0 (KL ({b with aQ:=e}:aB) (c3 c4 (a+1)))) else c6 (c7 (CD b))
def va(g:Lp)(c:aB)(b:aB)(a:Int):Option (Df⊕Ba):=bif c5 (a<(c.bp.length:Int)) then(aj c.bp a).bind λf=>(cc g f).bind λe=>(bj 24 b.bp ([e]:List (List Int))).bind λd=>c6 (d0 (IC ({b with bp:=d}:aB) (c3 c4 (a+1)))) else c6 (c7 (CD b))
def D6(a:Lp)(b:aB):Option KA:=(kF a b.ao.ai).bind λf=>(kQ a b.ao.af).bind λc=>(rf a b.aN).bind λe=>(cc a b.aw).bind λm=>(a.loop (λd=>tW a b (MR c e d) (L9 d)) (KL ({b with ao:=(ak.mk f c),aN:=e,aw:=m,aQ:=([]:List aS)}:aB) 0)).bind λi=>let j:=O3 c e i;(cc a b.cn).bind λk=>(cc a b.cf).bind λg=>(a.loop (λd=>va a b (R4 c e d) (Lw d)) (IC ({j with cn:=k,cf:=g,bp:=([]:List (List Int))}:aB) 0)).bind λh=>let l:=O3 c e h;c6 (MF l)
def vt(g:Lp)(d:aB)(f:Int)(b:List bC)(a:Int):Option (((List bC)×Int)⊕(List bC)):=bif c5 (a<(d.aN.length:Int)) then(aj b a).bind λ_=>(b[a.toNat]?).bind λc=>(bif c5 (c.Road=f) then(aj b a).bind λ_=>(b[a.toNat]?).bind λ_=>c6 (b.set (a.toNat) (bC.mk c.Place (-1) 0)) else c6 b).bind λe=>c6 (d0 (e,c3 c4 (a+1))) else c6 (c7 b)
def wO(d:Lp)(b:aB)(c:Int):Option (aB×Int):=(pV d b).bind λh=>bif (!h) then c6 (b,6) else((cp d c 0 (c3 c4 ((b.ao.af.length:Int) -1))).bind λg=>bif (!g) then c6 true else(aj b.ao.af c).bind λi=>c6 i.eN:Option Bool).bind λl=>bif l then c6 (b,4) else(D6 d b).bind λf=>let a:=VD f;(aj a.ao.af c).bind λ_=>(a.ao.af[c.toNat]?).bind λk=>(d.loop (λe=>vt d a c e.1 e.2) (a.aN,0)).bind λj=>c6 (({a with ao:=(ak.mk a.ao.ai (a.ao.af.set (c.toNat) ({k with eN:=true}:aZ))),aN:=j}:aB),0)
def An(k:Lp)(e:ay)(g:ak)(h:Int)(j:aL)(b:List aM)(d:Int)(a:Int):Option (((List aM)×Int×Int)⊕(((List ay)×Int)⊕((List aM)×Int))):=bif c5 (a<(e.aH.length:Int)) then(aj e.aH a).bind λf=>(xT k g f h).bind λc=>bif c5 (c.2=6) then c6 (c7 (d0 (j.aA,c.2))) else(bif c5 (d=0) then c6 c.2 else c6 d).bind λi=>(aj b a).bind λ_=>(b[a.toNat]?).bind λ_=>c6 (d0 (b.set (a.toNat) c.1,i,c3 c4 (a+1))) else c6 (c7 (c7 (b,d)))
def Ka(e:Lp)(d:aL)(n:ak)(o:Int)(i:List ay)(j:Int)(b:Int):Option (((List ay)×Int×Int)⊕(((List ay)×Int)⊕((List ay)×Int))):=bif c5 (b<(d.aA.length:Int)) then(aj d.aA b).bind λg=>(mH e g).bind λk=>((e.loop (λc=>An e g n o d c.1 c.2.1 c.2.2) (k.1,j,0)).bind λp=>d2 (λl=>c6 (c7 (l.1,l.2))) (λh=>c6 (d0 (k.2,h.1,h.2))) p:Option (((List Int)×(List aM)×Int)⊕((List ay)×Int))).bind λq=>d2 (λa=>(bj 48 i ([(ay.mk a.1 a.2.1)]:List ay)).bind λm=>c6 (d0 (m,a.2.2,c3 c4 (b+1)))) (λf=>c6 (c7 (d0 (f.1,f.2)))) q else c6 (c7 (c7 (i,j)))
def kW(b:Lp)(e:ak)(a:aL)(k:Int):Option (aL×Int):=((ij b e).bind λg=>bif (!g) then c6 true else(cp b (a.aA.length:Int) 1 24).bind λi=>c6 (!i):Option Bool).bind λh=>bif h then c6 (a,6) else(b.loop (λc=>Ka b a e k c.1 c.2.1 c.2.2) (([]:List ay),0,0)).bind λj=>d2 (λf=>c6 ((aL.mk f.1),f.2)) (λd=>bif c5 (d.2≠0) then c6 (a,d.2) else c6 ((aL.mk d.1),0)) j
def Kc(f:Lp)(c:bQ)(d:Int)(b:List Int)(a:Int):Option (((List Int)×Int)⊕(List Int)):=bif c5 (a<(c.an.length:Int)) then(aj c.an a).bind λe=>(aj b a).bind λ_=>(b[a.toNat]?).bind λ_=>c6 (d0 (b.set (a.toNat) (max e d),c3 c4 (a+1))) else c6 (c7 b)
def Jl(i:Lp)(f:ak)(g:bQ)(d:Int)(h:List bI)(c:List Int)(b:Int):Option (((List Int)×Int)⊕(List Int)):=bif c5 (b<(f.af.length:Int)) then(aj f.af b).bind λa=>((aj g.an a.an).bind λo=>bif c5 (o<=d) then(aj h b).bind λl=>(n6 i f b l false).bind λj=>c6 (c5 (0<=j)) else c6 false:Option Bool).bind λp=>(bif p then(aj c a.To).bind λ_=>(c[a.To.toNat]?).bind λ_=>c6 (c.set (a.To.toNat) d) else c6 c).bind λe=>((aj g.an a.To).bind λr=>bif c5 (r<=d) then(aj h b).bind λn=>(n6 i f b n true).bind λk=>c6 (c5 (0<=k)) else c6 false:Option Bool).bind λm=>(bif m then(aj e a.an).bind λ_=>(e[a.an.toNat]?).bind λ_=>c6 (e.set (a.an.toNat) d) else c6 e).bind λq=>c6 (d0 (q,c3 c4 (b+1))) else c6 (c7 c)
def yg(a:Lp)(d:List bI)(f:ak)(h:List bI)(g:ak)(b:bQ)(c:Int):Option ((List bI)×bQ×Int):=((pD a f h).bind λj=>bif (!j) then c6 true else(wB a f b).bind λo=>bif (!o) then c6 true else(pD a g d).bind λi=>bif (!i) then c6 true else c6 (c5 ((g.ai.length:Int)≠(f.ai.length:Int))):Option Bool).bind λp=>bif p then c6 (d,b,6) else(bif c5 (c<b.Time) then c6 true else c6 (c5 (2147483648<c))).bind λl=>bif l then c6 (d,b,8) else(gP 8 0 (b.an.length:Int)).bind λk=>(a.loop (λe=>Kc a b c e.1 e.2) (k,0)).bind λq=>(a.loop (λe=>Jl a f b c h e.1 e.2) (q,0)).bind λm=>(rM a m g.ai g.af d).bind λn=>c6 (d,(bQ.mk c n),0)
def A8(e:Lp)(a:Int)(c:bQ)(b:Int):Option Bool:=(aj c.an a).bind λd=>c6 (c5 (d<=b))
def JS(i:Lp)(c:Int)(h:bQ)(e:Int)(b:List Int)(a:Int):Option (((List Int)×Int)⊕(List Int)):=bif c5 (a<c) then(A8 i a h e).bind λg=>(bif g then(bj 8 b ([a]:List Int)).bind λf=>c6 f else c6 b).bind λd=>c6 (d0 (d,c3 c4 (a+1))) else c6 (c7 b)
def Fc(b:Lp)(c:Int)(f:bQ)(d:Int):Option (List Int):=(b.loop (λa=>JS b c f d a.1 a.2) (([]:List Int),0)).bind λe=>c6 e
def w6(c:Lp)(a:bQ)(b:Int):Option (List Int):=(Fc c (a.an.length:Int) a b).bind λd=>c6 d
def E7(c:Lp)(a:Int)(b:List Int):Option Bool:=(im c b a).bind λd=>c6 d
def X8(e:Lp)(b:List Int)(d:List Int)(a:Int):Option (Int⊕(Int⊕Unit)):=bif c5 (a<(b.length:Int)) then(aj b a).bind λc=>(E7 e c d).bind λf=>bif f then c6 (c7 (d0 a)) else c6 (d0 (c3 c4 (a+1))) else c6 (c7 (c7 ()))
def zW(a:Lp)(c:List Int)(e:List Int):Option Int:=(a.loop (λd=>X8 a c e d) 0).bind λb=>d2 (λf=>c6 f) (λg=>c6 (-1)) b
def EZ(c:Lp)(a:List Int)(b:List Int):Option Bool:=(zW c a b).bind λd=>c6 (c5 (0<=d))
def Cj(f:Lp)(d:List Int)(a:List aZ)(b:Int):Option (((List aZ)×Int)⊕(List aZ)):=bif c5 (b<(d.length:Int)) then(aj d b).bind λc=>(aj a c).bind λ_=>(a[c.toNat]?).bind λe=>c6 (d0 (a.set (c.toNat) ({e with eN:=true}:aZ),c3 c4 (b+1))) else c6 (c7 a)
def T4(f:Lp)(d:List Int)(a:List aZ)(b:Int):Option (((List aZ)×Int)⊕(List aZ)):=bif c5 (b<(d.length:Int)) then(aj d b).bind λc=>(aj a c).bind λ_=>(a[c.toNat]?).bind λe=>c6 (d0 (a.set (c.toNat) ({e with eN:=false}:aZ),c3 c4 (b+1))) else c6 (c7 a)
def yB(a:Lp)(b:ak)(e:List Int)(d:List Int):Option (ak×Int):=(ij a b).bind λl=>bif (!l) then c6 ((ak.mk ([]:List bP) ([]:List aZ)),6) else((iU a e 0 (c3 c4 ((b.af.length:Int) -1))).bind λn=>bif (!n) then c6 true else(iU a d 0 (c3 c4 ((b.af.length:Int) -1))).bind λm=>bif (!m) then c6 true else(EZ a e d).bind λf=>c6 f:Option Bool).bind λg=>bif g then c6 ((ak.mk ([]:List bP) ([]:List aZ)),4) else(kF a b.ai).bind λh=>(kQ a b.af).bind λj=>(a.loop (λc=>Cj a e c.1 c.2) (j,0)).bind λi=>(a.loop (λc=>T4 a d c.1 c.2) (i,0)).bind λk=>c6 ((ak.mk h k),0)
def EU(a:Lp)(b:ak)(i:bE)(h:aL)(k:Int)(d:Int):Option Int:=((rP a b i).bind λj=>bif (!j) then c6 true else(p8 a b h).bind λc=>c6 (!c):Option Bool).bind λg=>bif g then c6 6 else((cp a k 0 2147483648).bind λl=>bif (!l) then c6 true else(cp a d 0 2147483648).bind λf=>c6 (!f):Option Bool).bind λe=>bif e then c6 8 else c6 0
def zt(h:Lp)(a:ay)(b:Int)(c:Int)(i:Int):Option Bool:=(cp h b 0 (c3 c4 ((a.aH.length:Int) -1))).bind λf=>bif f then(aj a.aH b).bind λg=>bif c5 (c<(g.an.length:Int)) then(aj a.aH b).bind λd=>(aj d.an c).bind λe=>c6 (c5 (e<=i)) else c6 false else c6 false
def GA(g:Lp)(b:List ay)(f:Int)(d:Int)(h:Int)(a:Int):Option (Int⊕(Int⊕Unit)):=bif c5 (a<(b.length:Int)) then(aj b a).bind λe=>(zt g e f d h).bind λc=>bif c then c6 (c7 (d0 a)) else c6 (d0 (c3 c4 (a+1))) else c6 (c7 (c7 ()))
def Gu(a:Lp)(c:List ay)(f:Int)(d:Int)(h:Int):Option Int:=(a.loop (λe=>GA a c f d h e) 0).bind λb=>d2 (λg=>c6 g) (λi=>c6 (-1)) b
def FH(e:Lp)(a:List ay)(d:Int)(c:Int)(f:Int):Option Bool:=(Gu e a d c f).bind λb=>c6 (c5 (0<=b))
def AZ(e:Lp)(a:Int)(d:List ay)(c:Int)(f:Int):Option Bool:=(FH e d c a f).bind λb=>c6 b
def JI(i:Lp)(c:Int)(h:List ay)(e:Int)(j:Int)(b:List Int)(a:Int):Option (((List Int)×Int)⊕(List Int)):=bif c5 (a<c) then(AZ i a h e j).bind λg=>(bif g then(bj 8 b ([a]:List Int)).bind λf=>c6 f else c6 b).bind λd=>c6 (d0 (d,c3 c4 (a+1))) else c6 (c7 b)
def Lb(b:Lp)(c:Int)(f:List ay)(d:Int)(g:Int):Option (List Int):=(b.loop (λa=>JI b c f d g a.1 a.2) (([]:List Int),0)).bind λe=>c6 e
def rJ(e:Lp)(a:aL)(d:Int)(c:Int):Option (List Int):=(Lb e 64 a.aA d c).bind λb=>c6 b
def CW(b:Lp)(a:Int):Option (List Int):=Ct 8 a
def ve(e:Lp)(d:List (List Int))(a:Int)(b:Int):Option ((Int×Int)⊕Int):=bif c5 (b<(d.length:Int)) then(aj d b).bind λc=>bif c5 ((c3 c4 (a+(c.length:Int)))<0) then d5 else c6 (d0 (c3 c4 (a+(c.length:Int)),c3 c4 (b+1))) else c6 (c7 a)
def xV(f:Lp)(c:List (List Int))(b:List Int)(a:Int):Option (((List Int)×Int)⊕(List Int)):=bif c5 (a<(c.length:Int)) then(aj c a).bind λe=>(bj 8 b e).bind λd=>c6 (d0 (d,c3 c4 (a+1))) else c6 (c7 b)
def He(b:Lp)(c:List (List Int)):Option (List Int):=(b.loop (λa=>ve b c a.1 a.2) (0,0)).bind λf=>(CW b f).bind λd=>(b.loop (λa=>xV b c a.1 a.2) (d,0)).bind λe=>c6 e
def Bc(b:Lp)(a:ak)(f:bE)(d:Int):Option Bool:=(rP b a f).bind λe=>bif e then(cp b d 0 (c3 c4 ((a.ai.length:Int) -1))).bind λc=>c6 c else c6 false
def Fx(a:Lp):Option kD:=c6 (kD.mk 2 3 4)
def nK(c:Lp)(a:ak)(b:Int)(e:Bool):Option Int:=((ij c a).bind λg=>bif (!g) then c6 true else bif c5 (b<0) then c6 true else c6 (c5 ((a.af.length:Int)<=b)):Option Bool).bind λd=>bif d then c6 (-1) else(Fx c).bind λf=>(xu c a b e f).bind λh=>c6 h
def u5(e:Lp)(c:ak)(b:List Bool)(a:Int):Option (((List Bool)×Int)⊕(List Bool)):=bif c5 (a<(c.ai.length:Int)) then(aj c.ai a).bind λd=>(aj b a).bind λ_=>(b[a.toNat]?).bind λ_=>c6 (d0 (b.set (a.toNat) d.wj,c3 c4 (a+1))) else c6 (c7 b)
def wU(e:Lp)(d:bE)(a:List Bool)(b:Int):Option (((List Bool)×Int)⊕(List Bool)):=bif c5 (b<(d.Safe.length:Int)) then(aj d.Safe b).bind λc=>(aj a c).bind λ_=>(a[c.toNat]?).bind λ_=>c6 (d0 (a.set (c.toNat) true,c3 c4 (b+1))) else c6 (c7 a)
def wu(e:Lp)(d:bE)(a:List Bool)(b:Int):Option (((List Bool)×Int)⊕(List Bool)):=bif c5 (b<(d.dg.length:Int)) then(aj d.dg b).bind λc=>(aj a c).bind λ_=>(a[c.toNat]?).bind λ_=>c6 (d0 (a.set (c.toNat) true,c3 c4 (b+1))) else c6 (c7 a)
def pS(h:Lp)(e:ak)(r:bE)(d:List Bool)(b:List Bool)(c:cm)(a:Int):Option (pE⊕lU):=bif c5 (a<(e.af.length:Int)) then((aj e.af a).bind λf=>(im h r.dG a).bind λq=>bif q then c6 (iC c) else(nK h e a false).bind λj=>(bif c5 (0<=j) then(bj 32 c.steps ([(cS.mk a f.an f.To j)]:List cS)).bind λp=>c6 (iC (cm.mk c.n p d b)) else c6 (iC c)).bind λl=>let g:=ox d b l;(nK h e a true).bind λi=>(bif c5 (0<=i) then(bj 32 g.steps ([(cS.mk a f.To f.an i)]:List cS)).bind λk=>c6 (iC (cm.mk g.n k d b)) else c6 (iC g)).bind λo=>let s:=ox d b o;c6 (iC s):Option lU).bind λn=>let m:=ox d b n;c6 (d0 (nC m (c3 c4 (a+1)))) else c6 (c7 (iC c))
def w9(b:Lp)(c:ak)(f:bE):Option cm:=(gP 1 false (c.ai.length:Int)).bind λj=>(gP 1 false (c.ai.length:Int)).bind λi=>(b.loop (λa=>u5 b c a.1 a.2) (j,0)).bind λh=>(b.loop (λa=>wU b f a.1 a.2) (h,0)).bind λe=>(b.loop (λa=>wu b f a.1 a.2) (i,0)).bind λd=>(b.loop (λa=>pS b c f e d (wK e d a) (wo a)) (nC (cm.mk (c.ai.length:Int) ([]:List cS) e d) 0)).bind λg=>let k:=ox e d g;c6 k
def wJ(e:Lp)(a:cm)(b:cS):Option Bool:=(aj a.safe b.from_).bind λc=>bif (!c) then(aj a.bad b.b9).bind λd=>c6 (!d) else c6 false
def zX(c:Lp)(a:da)(b:da):Option Bool:=bif c5 (a.time<b.time) then c6 true else bif c5 (a.time=b.time) then c6 (c5 (a.roads<b.roads)) else c6 false
def zV(h:Lp)(g:List da)(e:cm)(b:List da)(a:Int):Option (((List da)×Int)⊕(List da)):=bif c5 (a<(g.length:Int)) then(aj e.safe a).bind λd=>(bif (!d) then(aj b a).bind λ_=>(b[a.toNat]?).bind λf=>c6 (b.set (a.toNat) (da.mk 1152921504606846976 f.roads)) else c6 b).bind λc=>c6 (d0 (c,c3 c4 (a+1))) else c6 (c7 b)
def AB(h:Lp)(c:cm)(b:List da)(i:Bool)(d:Int):Option (((List da)×Bool×Int)⊕((List da)×Bool)):=bif c5 (d<(c.steps.length:Int)) then(aj c.steps d).bind λa=>(aj b a.b9).bind λ_=>(b[a.b9.toNat]?).bind λe=>(aj b a.b9).bind λ_=>(b[a.b9.toNat]?).bind λf=>((wJ h c a).bind λm=>bif m then(aj b a.b9).bind λ_=>(b[a.b9.toNat]?).bind λj=>bif c5 (j.time<1152921504606846976) then(aj b a.from_).bind λ_=>(b[a.from_.toNat]?).bind λl=>(zX h (da.mk (c3 c4 (e.time+a.time)) (c3 c4 (f.roads+1))) l).bind λk=>c6 k else c6 false else c6 false:Option Bool).bind λn=>(bif n then(aj b a.from_).bind λ_=>(b[a.from_.toNat]?).bind λ_=>c6 (b.set (a.from_.toNat) (da.mk (c3 c4 (e.time+a.time)) (c3 c4 (f.roads+1))),true) else c6 (b,i)).bind λg=>c6 (d0 (g.1,g.2,c3 c4 (d+1))) else c6 (c7 (b,i))
def Tg(d:Lp)(e:cm)(b:List da)(f:Bool):Option (((List da)×Bool)⊕(List da)):=bif f then(d.loop (λa=>AB d e a.1 a.2.1 a.2.2) (b,false,0)).bind λc=>c6 (d0 (c.1,c.2)) else c6 (c7 b)
def Bg(b:Lp)(c:cm):Option (List da):=(gP 16 (da.mk 0 0) c.n).bind λd=>(b.loop (λa=>zV b d c a.1 a.2) (d,0)).bind λf=>(b.loop (λa=>Tg b c a.1 a.2) (f,true)).bind λe=>c6 e
def EN(i:Lp)(a:cS)(b:Int)(g:cm)(c:List da):Option Bool:=bif c5 (a.from_=b) then(wJ i g a).bind λh=>bif h then(aj c a.b9).bind λd=>(aj c b).bind λe=>(aj c b).bind λf=>c6 ((d.time==(c3 c4 (e.time -a.time)))&&((d.roads==(c3 c4 (f.roads -1)))&&true)) else c6 false else c6 false
def Y0(g:Lp)(b:List cS)(f:Int)(d:cm)(h:List da)(a:Int):Option (Int⊕(Int⊕Unit)):=bif c5 (a<(b.length:Int)) then(aj b a).bind λe=>(EN g e f d h).bind λc=>bif c then c6 (c7 (d0 a)) else c6 (d0 (c3 c4 (a+1))) else c6 (c7 (c7 ()))
def Aj(a:Lp)(c:List cS)(f:Int)(d:cm)(h:List da):Option Int:=(a.loop (λe=>Y0 a c f d h e) 0).bind λb=>d2 (λg=>c6 g) (λi=>c6 (-1)) b
def Lo(k:Lp)(a:cm)(j:List da)(b:List Int)(c:List Int)(f:Int):Option (((List Int)×(List Int)×Int)⊕((List Int)×(List Int))):=(aj a.safe f).bind λh=>bif (!h) then(Aj k a.steps f a j).bind λd=>(aj a.steps d).bind λe=>(aj a.steps d).bind λi=>(bj 8 c ([i.gX]:List Int)).bind λg=>(bj 8 b ([e.b9]:List Int)).bind λl=>c6 (d0 (l,g,e.b9)) else c6 (c7 (b,c))
def yN(d:Lp)(e:cm)(a:Int):Option ((List Int)×(List Int)×Int×Bool):=(Bg d e).bind λb=>(aj b a).bind λh=>bif c5 (1152921504606846976<=h.time) then c6 (([]:List Int),([]:List Int),0,false) else(d.loop (λc=>Lo d e b c.1 c.2.1 c.2.2) (([a]:List Int),([]:List Int),a)).bind λf=>(aj b a).bind λg=>c6 (f.2,f.1,g.time,true)
def ye(c:Lp)(a:cS)(b:List Int):Option Bool:=(im c b a.gX).bind λd=>c6 d
def aaQ(e:Lp)(b:List cS)(d:List Int)(a:Int):Option (Int⊕(Int⊕Unit)):=bif c5 (a<(b.length:Int)) then(aj b a).bind λc=>(ye e c d).bind λf=>bif f then c6 (c7 (d0 a)) else c6 (d0 (c3 c4 (a+1))) else c6 (c7 (c7 ()))
def AM(a:Lp)(c:List cS)(e:List Int):Option Int:=(a.loop (λd=>aaQ a c e d) 0).bind λb=>d2 (λf=>c6 f) (λg=>c6 (-1)) b
def Ww(h:Lp)(g:List Int)(a:List cS)(b:Int)(c:Int):Option (((List cS)×Int×Int)⊕((List cS)×Int)):=bif c5 (c<(a.length:Int)) then(aj a c).bind λ_=>(a[c.toNat]?).bind λe=>(ye h e g).bind λf=>(bif (!f) then(aj a b).bind λ_=>(a[b.toNat]?).bind λ_=>c6 (a.set (b.toNat) e,c3 c4 (b+1)) else c6 (a,b)).bind λd=>c6 (d0 (d.1,d.2,c3 c4 (c+1))) else c6 (c7 (a,b))
def Bm(e:Lp)(c:List cS)(f:List Int):Option (List cS):=(AM e c f).bind λb=>bif c5 (b=(-1)) then c6 c else(e.loop (λd=>Ww e f d.1 d.2.1 d.2.2) (c,b,c3 c4 (b+1))).bind λa=>(eG a.1 a.2 (a.1.length:Int)).bind λ_=>(eG (iG (cS.mk 0 0 0 0) (a.2.toNat) (((a.1.length:Int)).toNat -a.2.toNat) a.1) 0 a.2).bind λg=>c6 g
def ZO(e:Lp)(c:ak)(b:List Bool)(a:Int):Option (((List Bool)×Int)⊕(List Bool)):=bif c5 (a<(c.ai.length:Int)) then(aj c.ai a).bind λd=>(aj b a).bind λ_=>(b[a.toNat]?).bind λ_=>c6 (d0 (b.set (a.toNat) d.wj,c3 c4 (a+1))) else c6 (c7 b)
def VO(e:Lp)(d:bE)(a:List Bool)(b:Int):Option (((List Bool)×Int)⊕(List Bool)):=bif c5 (b<(d.Safe.length:Int)) then(aj d.Safe b).bind λc=>(aj a c).bind λ_=>(a[c.toNat]?).bind λ_=>c6 (d0 (a.set (c.toNat) true,c3 c4 (b+1))) else c6 (c7 a)
def ahZ(e:Lp)(d:bE)(a:List Bool)(b:Int):Option (((List Bool)×Int)⊕(List Bool)):=bif c5 (b<(d.dg.length:Int)) then(aj d.dg b).bind λc=>(aj a c).bind λ_=>(a[c.toNat]?).bind λ_=>c6 (d0 (a.set (c.toNat) true,c3 c4 (b+1))) else c6 (c7 a)
def aeO(h:Lp)(e:ak)(r:bE)(d:List Bool)(b:List Bool)(c:cm)(a:Int):Option (pE⊕lU):=bif c5 (a<(e.af.length:Int)) then((aj e.af a).bind λf=>(im h r.dG a).bind λq=>bif q then c6 (iC c) else(nK h e a false).bind λj=>(bif c5 (0<=j) then(bj 32 c.steps ([(cS.mk a f.an f.To j)]:List cS)).bind λp=>c6 (iC (cm.mk c.n p d b)) else c6 (iC c)).bind λl=>let g:=ox d b l;(nK h e a true).bind λi=>(bif c5 (0<=i) then(bj 32 g.steps ([(cS.mk a f.To f.an i)]:List cS)).bind λk=>c6 (iC (cm.mk g.n k d b)) else c6 (iC g)).bind λo=>let s:=ox d b o;c6 (iC s):Option lU).bind λn=>let m:=ox d b n;c6 (d0 (nC m (c3 c4 (a+1)))) else c6 (c7 (iC c))
def DM(b:Lp)(c:ak)(f:bE):Option Il:=(gP 1 false (c.ai.length:Int)).bind λj=>(gP 1 false (c.ai.length:Int)).bind λi=>(b.loop (λa=>ZO b c a.1 a.2) (j,0)).bind λh=>(b.loop (λa=>VO b f a.1 a.2) (h,0)).bind λe=>(b.loop (λa=>ahZ b f a.1 a.2) (i,0)).bind λd=>(b.loop (λa=>aeO b c f e d (wK e d a) (wo a)) (nC (cm.mk (c.ai.length:Int) ([]:List cS) e d) 0)).bind λg=>let k:=ox e d g;c6 (JJ k)
def I9(e:Lp)(a:(List Int)×(List Int)×Int×Bool)(c:List Bool)(b:Int):Option (((List Bool)×Int)⊕(List Bool)):=bif c5 (b<(((a.2.1.drop ((1:Int).toNat)).take (((a.2.1.length:Int)).toNat - (1:Int).toNat)).length:Int)) then(aj ((a.2.1.drop ((1:Int).toNat)).take (((a.2.1.length:Int)).toNat - (1:Int).toNat)) b).bind λ_=>(a.2.1[((1:Int).toNat+b.toNat)]?).bind λd=>(aj c d).bind λ_=>(c[d.toNat]?).bind λ_=>c6 (d0 (c.set (d.toNat) true,c3 c4 (b+1))) else c6 (c7 c)
def r7(b:Lp)(f:ak)(h:bE)(d:Int):Option ((List Int)×(List Int)×ju×Bool):=(Bc b f h d).bind λj=>bif (!j) then c6 (([]:List Int),([]:List Int),(ju.mk 0 0),false) else(DM b f h).bind λi=>let c:=Lk i;(aj c.safe d).bind λm=>bif m then c6 (([]:List Int),([]:List Int),(ju.mk 0 0),true) else(yN b c d).bind λa=>bif (!a.2.2.2) then c6 (([]:List Int),([]:List Int),(ju.mk 0 0),false) else(eG a.2.1 1 (a.2.1.length:Int)).bind λ_=>(b.loop (λg=>I9 b a g.1 g.2) (c.bad,0)).bind λk=>(Bm b c.steps a.1).bind λl=>(yN b ({c with steps:=l,bad:=k}:cm) d).bind λe=>bif (!e.2.2.2) then c6 (([]:List Int),([]:List Int),(ju.mk a.2.2.1 e.2.2.1),false) else c6 (a.1,e.1,(ju.mk a.2.2.1 e.2.2.1),true)
def Kb(g:Lp)(b:ak)(f:Int)(c:Int)(a:Int):Option ((Int×Int)⊕Int):=bif c5 (a<(b.af.length:Int)) then(aj b.af a).bind λe=>(bif c5 (e.To=f) then(nK g b a false).bind λh=>c6 (max c h) else c6 c).bind λd=>(bif c5 (e.an=f) then(nK g b a true).bind λi=>c6 (max d i) else c6 d).bind λj=>c6 (d0 (j,c3 c4 (a+1))) else c6 (c7 c)
def v7(b:Lp)(c:ak)(d:Int):Option Int:=(b.loop (λa=>Kb b c d a.1 a.2) (0,0)).bind λe=>c6 e
def r6(e:Lp)(b:ak)(d:bE)(c:Int):Option Bool:=(r7 e b d c).bind λa=>bif a.2.2.2 then(v7 e b c).bind λf=>c6 (c5 ((c3 c4 (f+(max a.2.2.1.a0 a.2.2.1.a1)))<=d.er)) else c6 false
def w5(e:Lp)(a:Int)(d:ak)(c:bE):Option Bool:=(r6 e d c a).bind λb=>c6 b
def aqe(f:Lp)(b:List Int)(e:ak)(c:bE)(a:Int):Option (Int⊕(Int⊕Unit)):=bif c5 (a<(b.length:Int)) then(aj b a).bind λd=>(w5 f d e c).bind λg=>bif g then c6 (c7 (d0 a)) else c6 (d0 (c3 c4 (a+1))) else c6 (c7 (c7 ()))
def ER(a:Lp)(c:List Int)(f:ak)(d:bE):Option Int:=(a.loop (λe=>aqe a c f d e) 0).bind λb=>d2 (λg=>c6 g) (λh=>c6 (-1)) b
def amq(i:Lp)(h:ak)(g:bE)(a:List Int)(b:Int)(c:Int):Option (((List Int)×Int×Int)⊕((List Int)×Int)):=bif c5 (c<(a.length:Int)) then(aj a c).bind λ_=>(a[c.toNat]?).bind λe=>(w5 i e h g).bind λf=>(bif (!f) then(aj a b).bind λ_=>(a[b.toNat]?).bind λ_=>c6 (a.set (b.toNat) e,c3 c4 (b+1)) else c6 (a,b)).bind λd=>c6 (d0 (d.1,d.2,c3 c4 (c+1))) else c6 (c7 (a,b))
def zr(e:Lp)(c:List Int)(g:ak)(f:bE):Option (List Int):=(ER e c g f).bind λb=>bif c5 (b=(-1)) then c6 c else(e.loop (λd=>amq e g f d.1 d.2.1 d.2.2) (c,b,c3 c4 (b+1))).bind λa=>(eG a.1 a.2 (a.1.length:Int)).bind λ_=>(eG (iG 0 (a.2.toNat) (((a.1.length:Int)).toNat -a.2.toNat) a.1) 0 a.2).bind λh=>c6 h
def Kw(j:Lp)(b:Int)(e:List Int)(a:List Int)(d:Int)(c:Int):Option (((List Int)×Int×Int)⊕((List Int)×Int)):=bif c5 (c<(((a.drop (b.toNat)).take (((e.length:Int)).toNat -b.toNat)).length:Int)) then(aj ((a.drop (b.toNat)).take (((e.length:Int)).toNat -b.toNat)) c).bind λ_=>(a[(b.toNat+c.toNat)]?).bind λg=>(aj ((a.drop (b.toNat)).take (((e.length:Int)).toNat -b.toNat)) (c3 c4 (c -1))).bind λ_=>(a[(b.toNat+(c3 c4 (c -1)).toNat)]?).bind λi=>(bif c5 (g≠i) then(aj ((a.drop (b.toNat)).take (((e.length:Int)).toNat -b.toNat)) c).bind λ_=>(a[(b.toNat+c.toNat)]?).bind λh=>(aj a d).bind λ_=>(a[d.toNat]?).bind λ_=>c6 (a.set (d.toNat) h,c3 c4 (d+1)) else c6 (a,d)).bind λf=>c6 (d0 (f.1,f.2,c3 c4 (c+1))) else c6 (c7 (a,d))
def If(e:Lp)(b:List Int)(a:Int):Option (Int⊕((List Int)⊕Unit)):=bif c5 (a<(b.length:Int)) then(aj b a).bind λ_=>(b[a.toNat]?).bind λg=>(aj b (c3 c4 (a -1))).bind λ_=>(b[(c3 c4 (a -1)).toNat]?).bind λf=>bif c5 (g=f) then(eG b a (b.length:Int)).bind λ_=>(e.loop (λd=>Kw e a b d.1 d.2.1 d.2.2) (b,a,1)).bind λc=>(eG c.1 c.2 (c.1.length:Int)).bind λ_=>(eG (iG 0 (c.2.toNat) (((c.1.length:Int)).toNat -c.2.toNat) c.1) 0 c.2).bind λh=>c6 (c7 (d0 h)) else c6 (d0 (c3 c4 (a+1))) else c6 (c7 (c7 ()))
def ED(b:Lp)(a:List Int):Option (List Int):=bif c5 ((a.length:Int)<2) then c6 a else(b.loop (λe=>If b a e) 1).bind λc=>d2 (λd=>c6 d) (λf=>c6 a) c
def zT(a:Lp)(c:List Int)(f:List Int):Option (List Int):=(He a ([c,f]:List (List Int))).bind λb=>(rl a b).bind λd=>(ED a d).bind λe=>c6 e
def Jp(b:Lp)(g:ay)(e:aL)(h:Int)(c:List Int)(a:Int):Option (((List Int)×Int)⊕(List Int)):=bif c5 (a<(g.aH.length:Int)) then(rJ b e a h).bind λf=>(zT b c f).bind λd=>c6 (d0 (d,c3 c4 (a+1))) else c6 (c7 c)
def Bo(a:Lp)(d:ak)(h:bE)(b:aL)(i:Int):Option (List Int):=(aj b.aA 0).bind λf=>(a.loop (λc=>Jp a f b i c.1 c.2) (([]:List Int),0)).bind λe=>(zr a e d h).bind λg=>c6 g
def za(c:Lp)(a:Int)(b:List Int):Option Bool:=(im c b a).bind λd=>c6 d
def afe(e:Lp)(b:List Int)(d:List Int)(a:Int):Option (Int⊕(Int⊕Unit)):=bif c5 (a<(b.length:Int)) then(aj b a).bind λc=>(za e c d).bind λf=>bif f then c6 (c7 (d0 a)) else c6 (d0 (c3 c4 (a+1))) else c6 (c7 (c7 ()))
def zU(a:Lp)(c:List Int)(e:List Int):Option Int:=(a.loop (λd=>afe a c e d) 0).bind λb=>d2 (λf=>c6 f) (λg=>c6 (-1)) b
def apZ(h:Lp)(g:List Int)(a:List Int)(b:Int)(c:Int):Option (((List Int)×Int×Int)⊕((List Int)×Int)):=bif c5 (c<(a.length:Int)) then(aj a c).bind λ_=>(a[c.toNat]?).bind λe=>(za h e g).bind λf=>(bif (!f) then(aj a b).bind λ_=>(a[b.toNat]?).bind λ_=>c6 (a.set (b.toNat) e,c3 c4 (b+1)) else c6 (a,b)).bind λd=>c6 (d0 (d.1,d.2,c3 c4 (c+1))) else c6 (c7 (a,b))
def Av(e:Lp)(c:List Int)(f:List Int):Option (List Int):=(zU e c f).bind λb=>bif c5 (b=(-1)) then c6 c else(e.loop (λd=>apZ e f d.1 d.2.1 d.2.2) (c,b,c3 c4 (b+1))).bind λa=>(eG a.1 a.2 (a.1.length:Int)).bind λ_=>(eG (iG 0 (a.2.toNat) (((a.1.length:Int)).toNat -a.2.toNat) a.1) 0 a.2).bind λg=>c6 g
def zJ(a:Lp)(c:ak)(k:bE)(i:aL)(p:List Int)(m:List Int)(l:List Int)(e:Int)(f:Int):Option (ak×(List Int)×Int):=(yB a c p m).bind λb=>bif c5 (b.2≠0) then c6 ((ak.mk ([]:List bP) ([]:List aZ)),([]:List Int),b.2) else(EU a c k i e f).bind λh=>bif c5 (h≠0) then c6 ((ak.mk ([]:List bP) ([]:List aZ)),([]:List Int),h) else(kW a b.1 i e).bind λd=>bif c5 (d.2≠0) then c6 ((ak.mk ([]:List bP) ([]:List aZ)),([]:List Int),d.2) else(Bo a b.1 k d.1 (c3 c4 (e+f))).bind λj=>(cc a j).bind λo=>(Av a o l).bind λg=>bif c5 (0<(g.length:Int)) then(yB a c ([]:List Int) ([]:List Int)).bind λn=>c6 (n.1,g,46) else c6 (b.1,j,0)
def BY(d:Lp)(b:cd)(a:b7)(c:Int):Option (b7×Int):=(oT d b a).bind λg=>bif (!g) then c6 (a,6) else bif c5 (a.State=0) then c6 (a,10) else(zd d a c).bind λf=>bif (!f) then c6 (a,8) else(bif c5 (a.State=4) then c6 (c5 ((c3 c4 (c -a.Time))<b.ed)) else c6 false).bind λe=>bif e then c6 (a,10) else c6 ((b7.mk 0 0 0 0),0)
def vQ(c:Lp)(b:bA):Option (bA×Int):=(xi c b false).bind λa=>c6 (a.1,a.2)
def qu(d:Lp)(b:bA)(c:Int):Option (bA×Int):=(qO d b c 2 1).bind λa=>c6 (a.1,a.2)
def vJ(d:Lp)(b:bA)(c:Int):Option (bA×Int):=(qO d b c 1 0).bind λa=>c6 (a.1,a.2)
def uo(f:Lp)(d:aE)(a:aE)(b:Int):Option (pJ⊕qc):=bif c5 (b<(d.bB.length:Int)) then(aj d.bB b).bind λc=>(cc f c.ll).bind λg=>(bj 72 a.bB ([({c with ll:=g}:dK)]:List dK)).bind λe=>c6 (d0 (u16 ({a with bB:=e}:aE) (c3 c4 (b+1)))) else c6 (c7 (lR a))
def Cp(b:Lp)(a:aE):Option FP:=(qp b a.au 0).bind λm=>(kF b a.ao.ai).bind λo=>(kQ b a.ao.af).bind λv=>(q9 b a.cI).bind λp=>(cc b a.bR.Safe).bind λr=>(cc b a.bR.dg).bind λw=>(cc b a.bR.dG).bind λg=>(cc b a.bM.bT).bind λj=>(ry b a.cq).bind λf=>(ry b a.bZ).bind λl=>(cc b a.cW.dl).bind λs=>(cc b a.cW.dr).bind λd=>(pf b a.bw).bind λu=>(pf b a.bq).bind λk=>(cc b a.bz.an).bind λt=>(cc b a.Keys.af).bind λn=>(cc b a.Keys.Keys).bind λq=>(pI b a.bS).bind λe=>(b.loop (λc=>uo b a (sN c) (sE c)) (u16 (aE.mk m.1 (ak.mk o v) p (bE.mk r w g a.bR.er) (cd.mk j a.bM.dZ a.bM.ed) f l (cZ.mk s d) u (bQ.mk a.bz.Time t) (bA.mk n q a.Keys.Out) a.cL k e ([]:List dK)) 0)).bind λi=>let h:=tT i;c6 (OE h)
def xR(d:Lp)(a:aR)(c:bH):Option jt:=(qp d a.aI.au c.A).bind λb=>c6 (cT (aR.mk ({a.aI with au:=b.1}:aE) a.named) b.2)
def uS(f:Lp)(d:aE)(a:aE)(b:Int):Option (CQ⊕J9):=bif c5 (b<(d.bB.length:Int)) then(aj d.bB b).bind λc=>(cc f c.ll).bind λg=>(bj 72 a.bB ([({c with ll:=g}:dK)]:List dK)).bind λe=>c6 (d0 (J3 ({a with bB:=e}:aE) (c3 c4 (b+1)))) else c6 (c7 (Mj a))
def Dr(b:Lp)(a:aE):Option Jr:=(qp b a.au 0).bind λm=>(kF b a.ao.ai).bind λo=>(kQ b a.ao.af).bind λv=>(q9 b a.cI).bind λp=>(cc b a.bR.Safe).bind λr=>(cc b a.bR.dg).bind λw=>(cc b a.bR.dG).bind λh=>(cc b a.bM.bT).bind λk=>(zp b a.cq).bind λc=>(zp b a.bZ).bind λd=>(cc b a.cW.dl).bind λs=>(cc b a.cW.dr).bind λf=>(pf b a.bw).bind λu=>(pf b a.bq).bind λl=>(cc b a.bz.an).bind λt=>(cc b a.Keys.af).bind λn=>(cc b a.Keys.Keys).bind λq=>(pI b a.bS).bind λg=>(b.loop (λe=>uS b a (Rx c d e) (Tu e)) (J3 (aE.mk m.1 (ak.mk o v) p (bE.mk r w h a.bR.er) (cd.mk k a.bM.dZ a.bM.ed) c d (cZ.mk s f) u (bQ.mk a.bz.Time t) (bA.mk n q a.Keys.Out) a.cL l g ([]:List dK)) 0)).bind λj=>let i:=Uh c d j;c6 (IW i)
def yV(c:Lp)(a:aR)(b:bH):Option jt:=(yA c a.aI.Keys).bind λe=>(im c e b.B).bind λf=>bif f then c6 (cT a 47) else(B1 c a.aI.au b.A b.B b.C).bind λd=>c6 (cT (aR.mk ({a.aI with au:=d.1}:aE) a.named) d.2)
def yT(d:Lp)(a:aR)(b:bH):Option jt:=(jO d a.aI.au b.A b.B b.C).bind λc=>bif c5 (c.2.2=0) then(aj a.aI.cq b.A).bind λ_=>(a.aI.cq[b.A.toNat]?).bind λ_=>c6 (cT (aR.mk ({a.aI with au:=c.1,cq:=a.aI.cq.set (b.A.toNat) c.2.1}:aE) a.named) c.2.2) else c6 (cT a c.2.2)
def uX(e:Lp)(a:dS)(d:aS)(c:aR)(h:ak)(f:aL):Option qW:=(fP e c).bind λg=>(CS e h f a.Tag d.ai a.an (min a.To g)).bind λb=>c6 (La a d c b.1 b.2)
def A5(e:Lp)(g:aR)(q:dS)(s:aS):Option vq:=(uX e q s g g.aI.ao g.aI.bw).bind λd=>let i:=F7 d;let j:=HJ d;let c:=G2 d;let o:=IB d;let n:=HV d;(bif c5 (n=0) then c6 (qI (aR.mk ({c.aI with bw:=o}:aE) c.named)) else c6 (qI c)).bind λm=>let b:=Sl c.aI.cq c.aI.bB m;(ra e b).bind λr=>bif (!r) then c6 (ol b i j) else(mT e b).bind λh=>(uX e i j b (ak.mk h.1 h.2) b.aI.bq).bind λa=>let k:=F7 a;let l:=HJ a;let f:=G2 a;let t:=IB a;let p:=HV a;bif c5 (p=0) then c6 (ol (aR.mk ({f.aI with bq:=t}:aE) f.named) k l) else c6 (ol f k l)
def zg(e:Lp)(a:aR)(t:Int)(w:aS)(x:dC)(o:Int):Option qU:=(uQ e t w x o a.aI.ao a.aI.bw).bind λd=>let g:=Gy d;let i:=Ib d;let f:=HF d;let l:=I2 d;let s:=Ir d;let u:=JK d;(bif c5 (u=0) then c6 (qI (aR.mk ({a.aI with bw:=s}:aE) a.named)) else c6 (qI a)).bind λv=>let b:=Sl a.aI.cq a.aI.bB v;(ra e b).bind λq=>bif (!q) then c6 (nJ b g i f l) else(mT e b).bind λh=>(uQ e g i f l (ak.mk h.1 h.2) b.aI.bq).bind λc=>let m:=Gy c;let j:=Ib c;let n:=HF c;let k:=I2 c;let r:=Ir c;let p:=JK c;bif c5 (p=0) then c6 (nJ (aR.mk ({b.aI with bq:=r}:aE) b.named) m j n k) else c6 (nJ b m j n k)
def Eb(e:Lp)(a:aR)(h:Int)(g:Int):Option rY:=(aj a.aI.au.aQ h).bind λi=>(xp e a.aI.au.aQ h g a.aI.bZ).bind λd=>(bif c5 (d.2≠0) then c6 true else c6 (c5 ((d.1.length:Int)=0))).bind λj=>bif j then c6 (mf a) else(aj d.1 (c3 c4 ((d.1.length:Int) -1))).bind λc=>(fP e a).bind λf=>bif c5 ((min c.To f)<=c.an) then c6 (mf a) else(zg e a g i c (min c.To f)).bind λb=>let k:=M2 b;let m:=OW b;let n:=N9 b;let o:=P1 b;let l:=RU b;c6 (mf k)
def sC(j:Lp)(d:(List dS)×Int)(c:aR)(e:aS)(a:Int):Option (ug⊕rY):=bif c5 (a<(d.1.length:Int)) then((aj d.1 a).bind λi=>c6 (u31 i):Option Hx).bind λf=>let k:=anK f;(A5 j c k e).bind λb=>let h:=MU b;let l:=Me b;let g:=N4 b;c6 (d0 (Cb h g (c3 c4 (a+1)))) else c6 (c7 (mf c))
def uN(d:Lp)(e:List Int)(j:aT×Int)(i:bH)(b:aR)(a:Int):Option (uy⊕rY):=bif c5 (a<(e.length:Int)) then(aj e a).bind λc=>(im d j.1.aw c).bind λl=>(bif (!l) then(Eb d b i.A c).bind λf=>let g:=Al f;c6 (mf g) else c6 (mf b)).bind λk=>let h:=Al k;c6 (d0 (uZ h (c3 c4 (a+1)))) else c6 (c7 (mf b))
def wP(c:Lp)(a:aR)(f:bH):Option qz:=(cp c f.A 0 (c3 c4 ((a.aI.cq.length:Int) -1))).bind λn=>bif (!n) then c6 (dp a 40) else(aj a.aI.au.cn f.A).bind λm=>bif c5 (m<0) then c6 (dp a 13) else(aj a.aI.cq f.A).bind λ_=>(a.aI.cq[f.A.toNat]?).bind λo=>(Ex c o).bind λh=>bif c5 (h.2≠0) then c6 (dp a h.2) else(zD c h.1).bind λd=>bif c5 (d.2≠0) then c6 (dp a d.2) else(CT c a.aI.cW d.1).bind λg=>bif c5 (g.2≠0) then c6 (dp (aR.mk ({a.aI with cW:=g.1}:aE) a.named) g.2) else(bj 48 a.aI.bZ ([d.1]:List aT)).bind λb=>(eG b (max 0 (c3 c4 ((b.length:Int) -60))) (b.length:Int)).bind λ_=>(Bl c a.aI.au.aQ d.1).bind λi=>bif c5 (i.2≠0) then c6 (dp (aR.mk ({a.aI with bZ:=(b.drop ((max 0 (c3 c4 ((b.length:Int) -60))).toNat)).take (((b.length:Int)).toNat - (max 0 (c3 c4 ((b.length:Int) -60))).toNat),cW:=g.1}:aE) a.named) i.2) else(aj a.aI.au.aQ f.A).bind λs=>(c.loop (λe=>sC c i (Q2 e) (Qd e) (R9 e)) (Cb (aR.mk ({a.aI with bZ:=(b.drop ((max 0 (c3 c4 ((b.length:Int) -60))).toNat)).take (((b.length:Int)).toNat - (max 0 (c3 c4 ((b.length:Int) -60))).toNat),cW:=g.1}:aE) a.named) s 0)).bind λr=>let j:=Al r;(aj j.aI.bw.aA 0).bind λq=>(cc c q.aw).bind λl=>(c.loop (λe=>uN c l d f (Si e) (LF e)) (uZ j 0)).bind λp=>let k:=Al p;c6 (dp k 0)
def yb(c:Lp)(a:aR)(e:bH):Option jt:=(oX c a.aI.au e.A e.B).bind λb=>bif c5 (b.2≠0) then c6 (cT (aR.mk ({a.aI with au:=b.1}:aE) a.named) b.2) else(fP c (aR.mk ({a.aI with au:=b.1}:aE) a.named)).bind λh=>(yY c a.aI.ao a.aI.bw e.A e.B h).bind λd=>(bif c5 (d.2≠0) then c6 true else(ra c (aR.mk ({a.aI with au:=b.1,bw:=d.1}:aE) a.named)).bind λk=>c6 (!k)).bind λi=>bif i then c6 (cT (aR.mk ({a.aI with au:=b.1,bw:=d.1}:aE) a.named) d.2) else(mT c (aR.mk ({a.aI with au:=b.1,bw:=d.1}:aE) a.named)).bind λf=>(fP c (aR.mk ({a.aI with au:=b.1,bw:=d.1}:aE) a.named)).bind λj=>(yY c (ak.mk f.1 f.2) a.aI.bq e.A e.B j).bind λg=>c6 (cT (aR.mk ({a.aI with au:=b.1,bw:=d.1,bq:=g.1}:aE) a.named) g.2)
def uq(f:Lp)(c:bQ×Int)(b:List Int)(a:Int):Option (((List Int)×Int)⊕(List Int)):=bif c5 (a<(c.1.an.length:Int)) then(aj c.1.an a).bind λe=>(aj b a).bind λ_=>(b[a.toNat]?).bind λd=>(aj b a).bind λ_=>(b[a.toNat]?).bind λ_=>c6 (d0 (b.set (a.toNat) (min d e),c3 c4 (a+1))) else c6 (c7 b)
def xy(b:Lp)(a:aR)(e:bH):Option jt:=(cp b e.A 0 (c3 c4 ((a.aI.ao.ai.length:Int) -1))).bind λi=>bif (!i) then c6 (cT a 3) else(fP b a).bind λl=>(EX b a.aI.ao a.aI.cI ([e.A]:List Int) l).bind λc=>bif c5 (c.2.2≠0) then c6 (cT a c.2.2) else(bif c5 (0<(a.aI.bz.an.length:Int)) then(fP b a).bind λn=>(uk b a.aI.ao a.aI.cI a.aI.ao a.aI.cI a.aI.bz n).bind λd=>bif c5 (d.2≠0) then c6 (c7 d.2) else(b.loop (λg=>uq b d g.1 g.2) (c.1,0)).bind λj=>c6 (d0 j) else c6 (d0 c.1)).bind λk=>d2 (λf=>(fP b (aR.mk ({a.aI with bz:=(bQ.mk c.2.1 f)}:aE) a.named)).bind λo=>(rk b a.aI.bS 1 e.A 1 o).bind λh=>c6 (cT (aR.mk ({a.aI with bz:=(bQ.mk c.2.1 f),bS:=h.1}:aE) a.named) h.2)) (λm=>c6 (cT a m)) k
def vA(b:Lp)(a:aR)(f:bH):Option jt:=(cp b f.A 0 (c3 c4 ((a.aI.Keys.af.length:Int) -1))).bind λi=>bif (!i) then c6 (cT a 47) else(Dv b a.aI.au.aN a f).bind λj=>bif j then c6 (cT a 49) else(GQ b a.aI.Keys f.A).bind λe=>bif c5 (e.2≠0) then c6 (cT (aR.mk ({a.aI with Keys:=e.1}:aE) a.named) e.2) else(J0 b e.1 f.A).bind λd=>bif c5 (d.2≠0) then c6 (cT (aR.mk ({a.aI with Keys:=d.1}:aE) a.named) d.2) else(zA b d.1.Keys).bind λh=>bif h then c6 (cT (aR.mk ({a.aI with Keys:=d.1}:aE) a.named) 0) else(Cu b d.1).bind λc=>bif c5 (c.2≠0) then c6 (cT (aR.mk ({a.aI with Keys:=c.1}:aE) a.named) c.2) else(fP b (aR.mk ({a.aI with Keys:=c.1}:aE) a.named)).bind λk=>(Em b a.aI.ao a.aI.bw c.1.af k).bind λg=>c6 (cT (aR.mk ({a.aI with Keys:=c.1,bq:=g.1}:aE) a.named) g.2)
def vm(c:Lp)(a:aR)(e:bH):Option jt:=(fP c a).bind λd=>(BR c a.aI.bM a.aI.cL a.aI.Keys a.aI.bq e.A d).bind λb=>c6 (cT (aR.mk ({a.aI with cL:=b.1}:aE) a.named) b.2)
def wR(c:Lp)(a:aR)(e:bH):Option jt:=(fP c a).bind λd=>(AJ c a.aI.bM a.aI.cL a.aI.Keys a.aI.bq e.A d).bind λb=>c6 (cT (aR.mk ({a.aI with cL:=b.1}:aE) a.named) b.2)
def yu(c:Lp)(a:aR)(e:bH):Option jt:=(fP c a).bind λd=>(CM c a.aI.bM a.aI.cL a.aI.Keys a.aI.bq d (c5 (e.B≠0))).bind λb=>c6 (cT (aR.mk ({a.aI with cL:=b.1}:aE) a.named) b.2)
def xg(d:Lp)(b:aR)(f:Int):Option jt:=(q9 d b.aI.cI).bind λi=>(kF d b.aI.ao.ai).bind λs=>(kQ d b.aI.ao.af).bind λj=>(aj j f).bind λ_=>(j[f.toNat]?).bind λt=>((aj i f).bind λ_=>(i[f.toNat]?).bind λ_=>c6 (UN (aR.mk ({b.aI with ao:=(ak.mk s (j.set (f.toNat) ({t with eN:=true}:aZ)))}:aE) b.named) (i.set (f.toNat) (bI.mk 0 0))):Option DU).bind λn=>let a:=ao9 b.aI.cq b.aI.bZ b.aI.bB n;let l:=Yk n;(fP d a).bind λu=>(kW d a.aI.ao a.aI.bw u).bind λe=>bif c5 (e.2≠0) then c6 (cT (aR.mk ({a.aI with bw:=e.1}:aE) a.named) e.2) else(ra d (aR.mk ({a.aI with bw:=e.1}:aE) a.named)).bind λr=>(bif r then(mT d (aR.mk ({a.aI with bw:=e.1}:aE) a.named)).bind λm=>(fP d (aR.mk ({a.aI with bw:=e.1}:aE) a.named)).bind λw=>(kW d (ak.mk m.1 m.2) a.aI.bq w).bind λh=>bif c5 (h.2≠0) then c6 (c7 (iv (aR.mk ({a.aI with bw:=e.1,bq:=h.1}:aE) a.named) h.2)) else c6 (d0 (fj (aR.mk ({a.aI with bw:=e.1,bq:=h.1}:aE) a.named))) else c6 (d0 (fj (aR.mk ({a.aI with bw:=e.1}:aE) a.named)))).bind λp=>d2 (λq=>let c:=lu b.aI.cq b.aI.bZ b.aI.bB q;bif c5 (0<(c.aI.bz.an.length:Int)) then(fP d c).bind λv=>(yg d l b.aI.ao c.aI.cI c.aI.ao c.aI.bz v).bind λg=>bif c5 (g.2.2≠0) then c6 (cT (aR.mk ({c.aI with bz:=g.2.1}:aE) c.named) g.2.2) else c6 (cT (aR.mk ({c.aI with cI:=g.1,bz:=g.2.1}:aE) c.named) 0) else c6 (cT (aR.mk ({c.aI with cI:=l}:aE) c.named) 0)) (λk=>let o:=nT b.aI.cq b.aI.bZ b.aI.bB k;let x:=nO k;c6 (cT o x)) p
def tM(e:Lp)(a:aR)(d:bH):Option jt:=(wO e a.aI.au d.A).bind λb=>bif c5 (b.2≠0) then c6 (cT (aR.mk ({a.aI with au:=b.1}:aE) a.named) b.2) else(xg e (aR.mk ({a.aI with au:=b.1}:aE) a.named) d.A).bind λc=>let f:=fR c;let g:=fT c;c6 (cT f g)
def Qt(e:Lp)(a:aR)(d:bH):Option jt:=(wO e a.aI.au d.A).bind λb=>bif c5 (b.2≠0) then c6 (cT (aR.mk ({a.aI with au:=b.1}:aE) a.named) b.2) else(xg e (aR.mk ({a.aI with au:=b.1}:aE) a.named) d.A).bind λc=>let f:=fR c;let g:=fT c;c6 (cT f g)
def Co(g:Lp)(c:aR)(a:List Int)(b:Int):Option (((List Int)×Int)⊕(List Int)):=bif c5 (b<(c.aI.bS.length:Int)) then(aj c.aI.bS b).bind λd=>(bif c5 (d.Kind=2) then(bj 8 a ([d.eB]:List Int)).bind λf=>c6 f else c6 a).bind λe=>c6 (d0 (e,c3 c4 (b+1))) else c6 (c7 a)
def tB(f:Lp)(e:ak×(List Int)×Int)(c:aR)(a:aR)(b:Int):Option (nH⊕jk):=bif c5 (b<(e.2.1.length:Int)) then(aj e.2.1 b).bind λg=>(fP f a).bind λi=>(rk f a.aI.bS 2 g 2 i).bind λd=>(bif c5 (d.2=0) then c6 (fj (aR.mk ({a.aI with bS:=d.1}:aE) a.named)) else c6 (fj a)).bind λj=>let h:=lu c.aI.cq c.aI.bZ c.aI.bB j;c6 (d0 (jw h (c3 c4 (b+1)))) else c6 (c7 (fj a))
def xQ(b:Lp)(a:aR)(e:bH):Option jt:=((cp b e.A 0 (c3 c4 ((a.aI.ao.af.length:Int) -1))).bind λo=>bif (!o) then c6 true else(aj a.aI.ao.af e.A).bind λn=>c6 n.eN:Option Bool).bind λr=>bif r then c6 (cT a 4) else(fP b a).bind λj=>(w6 b a.aI.bz (c3 c4 (j+600))).bind λq=>(b.loop (λd=>Co b a d.1 d.2) (([]:List Int),0)).bind λk=>(fP b a).bind λp=>(zJ b a.aI.ao ({a.aI.bR with dg:=q}:bE) a.aI.bw ([e.A]:List Int) ([]:List Int) k p 600).bind λc=>(bif c5 (c.2.2=46) then(b.loop (λd=>tB b c a (tP a.aI.cq a.aI.bZ a.aI.bB d) (um d)) (jw (aR.mk a.aI c.2.1) 0)).bind λh=>let l:=lu a.aI.cq a.aI.bZ a.aI.bB h;c6 (fj l) else c6 (fj (aR.mk a.aI c.2.1))).bind λs=>let f:=lu a.aI.cq a.aI.bZ a.aI.bB s;bif c5 (c.2.2≠0) then c6 (cT f c.2.2) else(Qt b f e).bind λg=>let m:=fR g;let i:=fT g;c6 (cT m i)
def qm(i:Lp)(u:aR)(a:aR)(b:aR)(d:Int):Option (nH⊕(jU⊕jk)):=bif c5 (d<(u.aI.Keys.Keys.length:Int)) then(aj b.aI.Keys.Keys d).bind λk=>(bif c5 (k=2) then(qu i b.aI.Keys d).bind λe=>bif c5 (e.2≠0) then c6 (c7 (iv (aR.mk ({b.aI with Keys:=e.1}:aE) b.named) e.2)) else c6 (d0 (fj (aR.mk ({b.aI with Keys:=e.1}:aE) b.named))) else c6 (d0 (fj b))).bind λj=>d2 (λr=>let c:=lu a.aI.cq a.aI.bZ a.aI.bB r;(aj c.aI.Keys.Keys d).bind λt=>(bif c5 (t=1) then(vJ i c.aI.Keys d).bind λf=>bif c5 (f.2≠0) then c6 (c7 (iv (aR.mk ({c.aI with Keys:=f.1}:aE) c.named) f.2)) else c6 (d0 (fj (aR.mk ({c.aI with Keys:=f.1}:aE) c.named))) else c6 (d0 (fj c))).bind λs=>d2 (λq=>let l:=lu a.aI.cq a.aI.bZ a.aI.bB q;c6 (d0 (jw l (c3 c4 (d+1))))) (λg=>let m:=nT a.aI.cq a.aI.bZ a.aI.bB g;let o:=nO g;c6 (c7 (d0 (iv m o)))) s) (λh=>let p:=nT a.aI.cq a.aI.bZ a.aI.bB h;let n:=nO h;c6 (c7 (d0 (iv p n)))) j else c6 (c7 (c7 (fj b)))
def xE(c:Lp)(a:aR)(z:bH):Option jt:=(yA c a.aI.Keys).bind λn=>bif c5 ((n.length:Int)=0) then c6 (cT a 10) else(bif c5 (a.aI.cL.State≠0) then(fP c a).bind λr=>(BY c a.aI.bM a.aI.cL r).bind λe=>bif c5 (e.2≠0) then c6 (c7 (iv (aR.mk ({a.aI with cL:=e.1}:aE) a.named) e.2)) else c6 (d0 (fj (aR.mk ({a.aI with cL:=e.1}:aE) a.named))) else c6 (d0 (fj a))).bind λu=>d2 (λt=>let b:=lu a.aI.cq a.aI.bZ a.aI.bB t;(bif b.aI.Keys.Out then(vQ c b.aI.Keys).bind λd=>bif c5 (d.2≠0) then c6 (c7 (iv (aR.mk ({b.aI with Keys:=d.1}:aE) b.named) d.2)) else c6 (d0 (fj (aR.mk ({b.aI with Keys:=d.1}:aE) b.named))) else c6 (d0 (fj b))).bind λq=>d2 (λo=>let j:=lu a.aI.cq a.aI.bZ a.aI.bB o;(c.loop (λh=>qm c j a (tP a.aI.cq a.aI.bZ a.aI.bB h) (um h)) (jw j 0)).bind λs=>d2 (λg=>let v:=nT a.aI.cq a.aI.bZ a.aI.bB g;let p:=nO g;c6 (cT v p)) (λl=>let i:=lu a.aI.cq a.aI.bZ a.aI.bB l;c6 (cT (aR.mk ({i.aI with bq:=(aL.mk ([]:List ay))}:aE) i.named) 0)) s) (λk=>let x:=nT a.aI.cq a.aI.bZ a.aI.bB k;let m:=nO k;c6 (cT x m)) q) (λf=>let w:=nT a.aI.cq a.aI.bZ a.aI.bB f;let y:=nO f;c6 (cT w y)) u
def w7(a:Lp)(e:aE)(b:bH):Option (aE×Int):=bif c5 (200<=(e.bB.length:Int)) then c6 (e,2) else(zj a e).bind λK=>bif (!K) then c6 (e,6) else(Dr a e).bind λY=>let c:=SD Y;(Ml a b.Kind).bind λv=>(bif (!v.isNone) then(v.bind λd=>bif d4 d 103 then(xR a (aR.mk c ([]:List Int)) b).bind λo=>let z:=fR o;let J:=fT o;c6 (dp z J) else bif d4 d 104 then(yV a (aR.mk c ([]:List Int)) b).bind λy=>let O:=fR y;let M:=fT y;c6 (dp O M) else bif d4 d 105 then(yT a (aR.mk c ([]:List Int)) b).bind λx=>let ab:=fR x;let T:=fT x;c6 (dp ab T) else bif d4 d 106 then(wP a (aR.mk c ([]:List Int)) b).bind λw=>let ad:=iS w;let G:=iJ w;c6 (dp ad G) else bif d4 d 107 then(yb a (aR.mk c ([]:List Int)) b).bind λq=>let E:=fR q;let U:=fT q;c6 (dp E U) else bif d4 d 108 then(xy a (aR.mk c ([]:List Int)) b).bind λj=>let X:=fR j;let I:=fT j;c6 (dp X I) else bif d4 d 109 then(vA a (aR.mk c ([]:List Int)) b).bind λm=>let R:=fR m;let N:=fT m;c6 (dp R N) else bif d4 d 110 then(vm a (aR.mk c ([]:List Int)) b).bind λs=>let ac:=fR s;let V:=fT s;c6 (dp ac V) else bif d4 d 111 then(wR a (aR.mk c ([]:List Int)) b).bind λp=>let P:=fR p;let Z:=fT p;c6 (dp P Z) else bif d4 d 112 then(yu a (aR.mk c ([]:List Int)) b).bind λi=>let ae:=fR i;let C:=fT i;c6 (dp ae C) else bif d4 d 113 then(tM a (aR.mk c ([]:List Int)) b).bind λt=>let Q:=fR t;let H:=fT t;c6 (dp Q H) else bif d4 d 114 then(xQ a (aR.mk c ([]:List Int)) b).bind λn=>let af:=fR n;let B:=fT n;c6 (dp af B) else bif d4 d 115 then(xE a (aR.mk c ([]:List Int)) b).bind λr=>let A:=fR r;let ag:=fT r;c6 (dp A ag) else d5:Option qz).bind λk=>let L:=iS k;let aa:=iJ k;c6 (dp L aa) else c6 (dp (aR.mk c ([]:List Int)) 55)).bind λu=>let h:=iS u;let f:=iJ u;(bif c5 (f≠0) then(Cp a e).bind λD=>let g:=aiF D;(bif c5 (f=46) then c6 (RG ({g with bS:=h.aI.bS}:aE)) else c6 (RG g)).bind λW=>let S:=ajj g.bB W;c6 (lR S) else c6 (lR h.aI)).bind λF=>let l:=tT F;(bj 72 l.bB ([(dK.mk b e.au.Time f h.named)]:List dK)).bind λah=>c6 (({l with bB:=ah}:aE),f)
def WT(f:Lp)(c:List bH)(b:aE)(a:Int):Option (pJ⊕qc):=bif c5 (a<(c.length:Int)) then(aj c a).bind λd=>(w7 f b d).bind λe=>c6 (d0 (u16 e.1 (c3 c4 (a+1)))) else c6 (c7 (lR b))
def Rs(a:Lp)(e:aE)(f:List bH):Option aE:=(a.loop (λb=>WT a f (sN b) (sE b)) (u16 e 0)).bind λd=>let c:=tT d;(wc a c).bind λg=>c6 g
def Ol(a:Lp):Option (List (Option Nat)):=c6 ([(c6 121:Option Nat),(c6 123:Option Nat),(c6 124:Option Nat),(c6 125:Option Nat),(c6 127:Option Nat),(c6 128:Option Nat),(c6 129:Option Nat),(c6 130:Option Nat)]:List (Option Nat))
def Qz(c:Lp)(a:ay)(b:aE):Option Bool:=(qG c a.aw b.au.aw).bind λd=>c6 d
def WI(e:Lp)(b:List ay)(d:aE)(a:Int):Option (Int⊕(Int⊕Unit)):=bif c5 (a<(b.length:Int)) then(aj b a).bind λc=>(Qz e c d).bind λf=>bif f then c6 (c7 (d0 a)) else c6 (d0 (c3 c4 (a+1))) else c6 (c7 (c7 ()))
def Ma(a:Lp)(c:List ay)(e:aE):Option Int:=(a.loop (λd=>WI a c e d) 0).bind λb=>d2 (λf=>c6 f) (λg=>c6 (-1)) b
def Th(c:Lp)(a:List ay)(b:aE):Option Bool:=(Ma c a b).bind λd=>c6 (c5 (0<=d))
def aes(c:Lp)(b:aE)(g:aL)(a:Int):Option (Int⊕(Unit⊕Unit)):=bif c5 (a<(b.au.aN.length:Int)) then(aj b.au.aN a).bind λf=>(rJ c g a b.au.Time).bind λe=>(im c e f.Place).bind λd=>bif (!d) then c6 (c7 (d0 ())) else c6 (d0 (c3 c4 (a+1))) else c6 (c7 (c7 ()))
def GK(a:Lp)(b:aE)(c:aL):Option Bool:=(a.loop (λe=>aes a b c e) 0).bind λd=>d2 (λh=>c6 false) (λg=>(Th a c.aA b).bind λf=>c6 f) d
def LL(b:Lp)(a:aE):Option Bool:=(GK b a a.bw).bind λc=>c6 c
def PU(b:Lp)(a:aE):Option Bool:=bif c5 ((a.bq.aA.length:Int)=0) then c6 true else(GK b a a.bq).bind λc=>c6 c
def OJ(e:Lp)(c:Int)(a:aE):Option Bool:=(aj a.au.aN c).bind λd=>(im e a.bM.bT d.Place).bind λb=>c6 b
def al1(h:Lp)(c:Int)(g:aE)(b:List Int)(a:Int):Option (((List Int)×Int)⊕(List Int)):=bif c5 (a<c) then(OJ h a g).bind λf=>(bif f then(bj 8 b ([a]:List Int)).bind λe=>c6 e else c6 b).bind λd=>c6 (d0 (d,c3 c4 (a+1))) else c6 (c7 b)
def QU(b:Lp)(c:Int)(e:aE):Option (List Int):=(b.loop (λa=>al1 b c e a.1 a.2) (([]:List Int),0)).bind λd=>c6 d
def FN(b:Lp)(a:aE):Option (List Int):=(QU b (a.au.aN.length:Int) a).bind λc=>c6 c
def QK(b:Lp)(a:aE):Option Bool:=(bif c5 (a.cL.State≠3) then bif c5 (a.cL.State≠4) then c6 true else c6 (c5 (a.cL.Time≠a.au.Time)) else c6 (c5 (a.cL.Time≠a.au.Time))).bind λe=>bif e then c6 true else(FN b a).bind λc=>bif c5 ((c.length:Int)=0) then(wA b a.bq a.bM.bT).bind λd=>c6 d else c6 false
def Oy(c:Lp)(a:bC)(b:aE):Option Bool:=bif c5 (0<=a.Road) then(im c b.Keys.af a.Road).bind λd=>c6 d else c6 false
def Z1(e:Lp)(b:List bC)(d:aE)(a:Int):Option (Int⊕(Int⊕Unit)):=bif c5 (a<(b.length:Int)) then(aj b a).bind λc=>(Oy e c d).bind λf=>bif f then c6 (c7 (d0 a)) else c6 (d0 (c3 c4 (a+1))) else c6 (c7 (c7 ()))
def Na(a:Lp)(c:List bC)(e:aE):Option Int:=(a.loop (λd=>Z1 a c e d) 0).bind λb=>d2 (λf=>c6 f) (λg=>c6 (-1)) b
def Rp(c:Lp)(a:List bC)(b:aE):Option Bool:=(Na c a b).bind λd=>c6 (c5 (0<=d))
def Nd(b:Lp)(a:aE):Option Bool:=(Rp b a.au.aN a).bind λc=>c6 c
def Rh(b:Lp)(a:aE):Option Bool:=bif (!a.Keys.Out) then c6 true else(Nd b a).bind λc=>c6 (!c)
def uh(c:Lp)(a:Int)(b:List Int):Option Bool:=(im c b a).bind λd=>c6 d
def Jj(e:Lp)(b:List Int)(d:List Int)(a:Int):Option (Int⊕(Int⊕Unit)):=bif c5 (a<(b.length:Int)) then(aj b a).bind λc=>(uh e c d).bind λf=>bif f then c6 (c7 (d0 a)) else c6 (d0 (c3 c4 (a+1))) else c6 (c7 (c7 ()))
def Jg(a:Lp)(c:List Int)(e:List Int):Option Int:=(a.loop (λd=>Jj a c e d) 0).bind λb=>d2 (λf=>c6 f) (λg=>c6 (-1)) b
def CG(c:Lp)(a:List Int)(b:List Int):Option Bool:=(Jg c a b).bind λd=>c6 (c5 (0<=d))
def zq(c:Lp)(a:Int)(b:List Int):Option Bool:=(uh c a b).bind λd=>c6 (!d)
def Ih(e:Lp)(b:List Int)(d:List Int)(a:Int):Option (Int⊕(Int⊕Unit)):=bif c5 (a<(b.length:Int)) then(aj b a).bind λc=>(zq e c d).bind λf=>bif f then c6 (c7 (d0 a)) else c6 (d0 (c3 c4 (a+1))) else c6 (c7 (c7 ()))
def FW(a:Lp)(c:List Int)(e:List Int):Option Int:=(a.loop (λd=>Ih a c e d) 0).bind λb=>d2 (λf=>c6 f) (λg=>c6 (-1)) b
def zo(c:Lp)(a:List Int)(b:List Int):Option Bool:=(FW c a b).bind λd=>c6 (c5 (0<=d))
def Cx(b:Lp)(c:ay)(f:Int)(d:List Int)(i:Int):Option (Bool×Bool):=bif c5 ((c.aH.length:Int)<=f) then c6 (false,false) else(aj c.aH f).bind λg=>(su b g i).bind λe=>(CG b e d).bind λa=>bif a then(zo b e d).bind λh=>c6 ((!h),a) else c6 (false,a)
def DF(i:Lp)(e:ay)(h:List Int)(g:Int)(a:Int)(c:Int)(b:Int):Option ((Int×Int×Int)⊕(Int×Int)):=bif c5 (b<(e.aH.length:Int)) then(Cx i e b h g).bind λd=>(bif d.1 then c6 (c3 c4 (a+1)) else c6 a).bind λj=>(bif d.2 then c6 (c3 c4 (c+1)) else c6 c).bind λf=>c6 (d0 (j,f,c3 c4 (b+1))) else c6 (c7 (a,c))
def Fa(g:Lp)(e:aL)(i:List Int)(h:Int)(b:bI)(c:Int):Option ((Int×Int×Int)⊕(Int×Int)):=bif c5 (c<(e.aA.length:Int)) then(aj e.aA c).bind λj=>(g.loop (λd=>DF g j i h d.1 d.2.1 d.2.2) (0,0,0)).bind λa=>(bif c5 (c=0) then c6 (a.1,a.2) else c6 (b.eF,b.fk)).bind λf=>c6 (d0 (min f.1 a.1,max f.2 a.2,c3 c4 (c+1))) else c6 (c7 (b.eF,b.fk))
def Ew(c:Lp)(d:aL)(f:List Int)(e:Int):Option bI:=(c.loop (λa=>Fa c d f e (bI.mk a.1 a.2.1) a.2.2) (0,0,0)).bind λb=>c6 (bI.mk b.1 b.2)
def Ow(b:Lp)(a:aE):Option Bool:=(Ew b a.bw a.bM.bT a.au.Time).bind λc=>(FN b a).bind λd=>(cp b (d.length:Int) c.eF c.fk).bind λe=>c6 e
def Lf(d:Lp)(a:cy)(b:Int)(c:Int):Option Bool:=bif c5 (a.Kind=b) then c6 (c5 (a.eB=c)) else c6 false
def ais(f:Lp)(b:List cy)(e:Int)(c:Int)(a:Int):Option (Int⊕(Int⊕Unit)):=bif c5 (a<(b.length:Int)) then(aj b a).bind λd=>(Lf f d e c).bind λg=>bif g then c6 (c7 (d0 a)) else c6 (d0 (c3 c4 (a+1))) else c6 (c7 (c7 ()))
def Qo(a:Lp)(c:List cy)(f:Int)(d:Int):Option Int:=(a.loop (λe=>ais a c f d e) 0).bind λb=>d2 (λg=>c6 g) (λh=>c6 (-1)) b
def O7(e:Lp)(a:List cy)(d:Int)(c:Int):Option Bool:=(Qo e a d c).bind λb=>c6 (c5 (0<=b))
def KD(e:Lp)(a:aE)(d:Int)(c:Int):Option Bool:=(O7 e a.bS d c).bind λb=>c6 b
def OU(c:Lp)(a:dK)(b:aE):Option Bool:=bif c5 (a.Event.Kind=6) then bif c5 (a.Code=0) then(KD c b 1 a.Event.A).bind λd=>c6 (!d) else c6 false else c6 false
def abX(e:Lp)(b:List dK)(d:aE)(a:Int):Option (Int⊕(Int⊕Unit)):=bif c5 (a<(b.length:Int)) then(aj b a).bind λc=>(OU e c d).bind λf=>bif f then c6 (c7 (d0 a)) else c6 (d0 (c3 c4 (a+1))) else c6 (c7 (c7 ()))
def NP(a:Lp)(c:List dK)(e:aE):Option Int:=(a.loop (λd=>abX a c e d) 0).bind λb=>d2 (λf=>c6 f) (λg=>c6 (-1)) b
def Sa(c:Lp)(a:List dK)(b:aE):Option Bool:=(NP c a b).bind λd=>c6 (c5 (0<=d))
def NV(b:Lp)(a:aE):Option Bool:=(Sa b a.bB a).bind λc=>c6 (!c)
def al5(d:Lp)(c:List Int)(a:aE)(b:Int):Option (Int⊕(Unit⊕Unit)):=bif c5 (b<(c.length:Int)) then(aj c b).bind λe=>((r6 d a.ao ({a.bR with dg:=([]:List Int)}:bE) e).bind λf=>bif (!f) then(KD d a 2 e).bind λg=>c6 (!g) else c6 false:Option Bool).bind λh=>bif h then c6 (c7 (d0 ())) else c6 (d0 (c3 c4 (b+1))) else c6 (c7 (c7 ()))
def aaL(c:Lp)(a:aE)(b:Int):Option (Int⊕(Unit⊕Unit)):=bif c5 (b<(a.au.aN.length:Int)) then(rJ c a.bw b a.au.Time).bind λe=>(c.loop (λf=>al5 c e a f) 0).bind λd=>d2 (λh=>c6 (c7 (d0 ()))) (λg=>c6 (d0 (c3 c4 (b+1)))) d else c6 (c7 (c7 ()))
def Nl(b:Lp)(a:aE):Option Bool:=(bif c5 ((a.bB.length:Int)=0) then c6 true else(aj a.bB (c3 c4 ((a.bB.length:Int) -1))).bind λd=>bif c5 (d.Event.Kind≠12) then c6 true else(aj a.bB (c3 c4 ((a.bB.length:Int) -1))).bind λc=>bif c5 (c.Code≠0) then c6 true else c6 (c5 (0<(a.bz.an.length:Int)))).bind λf=>bif f then c6 true else(b.loop (λg=>aaL b a g) 0).bind λe=>d2 (λh=>c6 false) (λi=>c6 true) e
def Ng(b:Lp)(a:aE):Option Bool:=(yE b a.bS).bind λc=>bif c then(oL b a.Keys).bind λd=>bif d then(oT b a.bM a.cL).bind λe=>c6 e else c6 false else c6 false
def aak(c:Lp)(f:List (Option Nat))(a:aE)(e:List Int)(d:Int):Option (((List Int)×Int)⊕(List Int)):=bif c5 (d<(f.length:Int)) then(aj f d).bind λj=>(j.bind λb=>bif d4 b 121 then(LL c a).bind λg=>c6 (!g) else bif d4 b 123 then(PU c a).bind λm=>c6 (!m) else bif d4 b 124 then(QK c a).bind λp=>c6 (!p) else bif d4 b 125 then(Rh c a).bind λh=>c6 (!h) else bif d4 b 127 then(Ow c a).bind λr=>c6 (!r) else bif d4 b 128 then(NV c a).bind λk=>c6 (!k) else bif d4 b 129 then(Nl c a).bind λq=>c6 (!q) else bif d4 b 130 then(Ng c a).bind λn=>c6 (!n) else d5:Option Bool).bind λl=>(bif l then(bj 8 e ([c3 c4 (d+1)]:List Int)).bind λo=>c6 o else c6 e).bind λi=>c6 (d0 (i,c3 c4 (d+1))) else c6 (c7 e)
def N8(a:Lp)(c:aE):Option (List Int):=(Ol a).bind λd=>(a.loop (λb=>aak a d c b.1 b.2) (([]:List Int),0)).bind λe=>c6 e
def vn(b:Lp):Option Bool:=(gP 16 (bI.mk 0 0) 2).bind λe=>(wX b (ak.mk ([(bP.mk 0 true),(bP.mk 0 false),(bP.mk 0 false)]:List bP) ([(aZ.mk 0 1 12 1 true false (bI.mk 1 1) (bI.mk 0 0)),(aZ.mk 1 2 12 1 true false (bI.mk 1 1) (bI.mk 0 0))]:List aZ)) ([(aS.mk ([0]:List Int) 10 0 0)]:List aS) ([0]:List Int) ([9]:List Int) e (bE.mk ([]:List Int) ([]:List Int) ([]:List Int) 900) (cd.mk ([2]:List Int) 9 9) ([1]:List Int)).bind λc=>(Rs b c.1 ([(bH.mk 7 0 0 0),(bH.mk 8 1 0 0),(bH.mk 9 2 0 0),(bH.mk 2 0 1 0),(bH.mk 10 0 0 0)]:List bH)).bind λa=>bif c5 (c.2=0) then bif c5 ((a.bB.length:Int)=5) then bif c5 (a.cL.State=3) then(aj a.bB 3).bind λd=>bif c5 (d.Code=47) then bif a.Keys.Out then(N8 b a).bind λf=>c6 (c5 ((f.length:Int)=0)) else c6 false else c6 false else c6 false else c6 false else c6 false
def NC(b:Lp)(a:List Int):Option (List Int):=c6 a
def Ie(d:Lp)(c:Int)(a:Int):Option Int:=bif c5 (a<1) then c6 0 else(nG c a).bind λb=>bif c5 (b<0) then c6 (c3 c4 (b+a)) else c6 b
def eO(e:Lp)(a:bD)(d:Int):Option ((List Int)×Int×Int):=bif c5 ((a.L.length:Int)<=a.At) then c6 (a.L,a.At,0) else(aj a.L (c3 c4 ((c3 c4 (a.At+1)) -1))).bind λc=>(Ie e c d).bind λb=>c6 (a.L,c3 c4 (a.At+1),b)
def mK(d:Lp)(c:bD)(b:Int):Option ((List Int)×Int×Bool):=(eO d c b).bind λa=>c6 (a.1,a.2.1,c5 (a.2.2=(c3 c4 (b -1))))
def gQ(e:Lp)(c:bD)(b:List Int):Option ((List Int)×Int×Int):=(eO e c (b.length:Int)).bind λa=>(aj b a.2.2).bind λd=>c6 (a.1,a.2.1,d)
def Bt(g:Lp)(h:Int)(d:bD)(b:ak)(f:Int):Option (((List Int)×Int×(List bP)×(List aZ)×Int)⊕((List Int)×Int×(List bP)×(List aZ))):=bif c5 (f<h) then((eO g d 4).bind λa=>bif c5 (f=0) then(bj 16 b.ai ([(bP.mk (c3 c4 ((-10)*a.2.2)) true)]:List bP)).bind λi=>c6 (a.1,a.2.1,i) else(mK g (bD.mk a.1 a.2.1) 6).bind λe=>(bj 16 b.ai ([(bP.mk (c3 c4 ((-10)*a.2.2)) e.2.2)]:List bP)).bind λj=>c6 (e.1,e.2.1,j):Option ((List Int)×Int×(List bP))).bind λc=>c6 (d0 (c.1,c.2.1,c.2.2,b.af,c3 c4 (f+1))) else c6 (c7 (d.L,d.At,b.ai,b.af))
def By(f:Lp)(h:Int)(e:bD)(b:ak)(a:Int):Option (((List Int)×Int×(List bP)×(List aZ)×Int)⊕((List Int)×Int×(List bP)×(List aZ))):=bif c5 (a<h) then(eO f e (min a 2)).bind λc=>(gQ f (bD.mk c.1 c.2.1) ([11,59,119,4]:List Int)).bind λg=>(gQ f (bD.mk g.1 g.2.1) ([9,3,19]:List Int)).bind λd=>(bj 72 b.af ([(aZ.mk (c3 c4 ((c3 c4 (a -1)) -c.2.2)) a (c3 c4 (1+g.2.2)) (c3 c4 (1+d.2.2)) true false (bI.mk 1 1) (bI.mk 0 0))]:List aZ)).bind λi=>c6 (d0 (d.1,d.2.1,b.ai,i,c3 c4 (a+1))) else c6 (c7 (e.L,e.At,b.ai,b.af))
def HR(b:Lp)(j:Int)(g:bD)(a:ak)(k:Int):Option (((List Int)×Int×(List bP)×(List aZ)×Int)⊕((List Int)×Int×(List bP)×(List aZ))):=(bif c5 (0<k) then c6 (c5 ((a.af.length:Int)<10)) else c6 false).bind λn=>bif n then(eO b g j).bind λc=>(eO b (bD.mk c.1 c.2.1) j).bind λd=>(gQ b (bD.mk d.1 d.2.1) ([11,59,199]:List Int)).bind λh=>(gQ b (bD.mk h.1 h.2.1) ([9,3]:List Int)).bind λf=>(eO b (bD.mk f.1 f.2.1) 5).bind λe=>(mK b (bD.mk e.1 e.2.1) 6).bind λi=>(bif c5 (c.2.2≠d.2.2) then(bj 72 a.af ([(aZ.mk c.2.2 d.2.2 (c3 c4 (1+h.2.2)) (c3 c4 (1+f.2.2)) (c5 (0<e.2.2)) i.2.2 (bI.mk 1 1) (bI.mk 0 0))]:List aZ)).bind λm=>c6 (a.ai,m) else c6 (a.ai,a.af)).bind λl=>c6 (d0 (i.1,i.2.1,l.1,l.2,c3 c4 (k -1))) else c6 (c7 (g.L,g.At,a.ai,a.af))
def zN(b:Lp)(i:bD):Option ((List Int)×Int×ak):=(eO b i 6).bind λf=>(bif c5 ((f.1.length:Int)=0) then c6 4 else c6 (c3 c4 (2+f.2.2))).bind λg=>(b.loop (λa=>Bt b g (bD.mk a.1 a.2.1) (ak.mk a.2.2.1 a.2.2.2.1) a.2.2.2.2) (f.1,f.2.1,([]:List bP),([]:List aZ),0)).bind λc=>(b.loop (λa=>By b g (bD.mk a.1 a.2.1) (ak.mk a.2.2.1 a.2.2.2.1) a.2.2.2.2) (c.1,c.2.1,c.2.2.1,c.2.2.2,1)).bind λd=>(eO b (bD.mk d.1 d.2.1) 4).bind λh=>(b.loop (λa=>HR b g (bD.mk a.1 a.2.1) (ak.mk a.2.2.1 a.2.2.2.1) a.2.2.2.2) (h.1,h.2.1,d.2.2.1,d.2.2.2,h.2.2)).bind λe=>c6 (e.1,e.2.1,(ak.mk e.2.2.1 e.2.2.2))
def HH(g:Lp)(f:Int)(d:bD)(b:List Int)(a:Int):Option (((List Int)×Int×(List Int)×Int)⊕((List Int)×Int×(List Int))):=bif c5 (a<f) then(eO g d 3).bind λc=>(bif c5 (c.2.2=0) then(bj 8 b ([a]:List Int)).bind λe=>c6 e else c6 b).bind λh=>c6 (d0 (c.1,c.2.1,h,c3 c4 (a+1))) else c6 (c7 (d.L,d.At,b))
def A9(d:Lp)(c:bD)(e:Int):Option ((List Int)×Int×(List Int)):=(d.loop (λa=>HH d e (bD.mk a.1 a.2.1) a.2.2.1 a.2.2.2) (c.L,c.At,([]:List Int),0)).bind λb=>c6 (b.1,b.2.1,b.2.2)
def R2(b:Lp)(l:ak)(f:bD)(i:List aS)(k:Int):Option (((List Int)×Int×(List aS)×Int)⊕((List Int)×Int×(List aS))):=bif c5 (0<k) then(A9 b f (l.ai.length:Int)).bind λc=>(gQ b (bD.mk c.1 c.2.1) ([9,29,4]:List Int)).bind λd=>(eO b (bD.mk d.1 d.2.1) 3).bind λe=>(gQ b (bD.mk e.1 e.2.1) ([0,1,5]:List Int)).bind λa=>(bif c5 ((c.2.2.length:Int)=0) then(eO b (bD.mk a.1 a.2.1) (l.ai.length:Int)).bind λg=>c6 (JB (bD.mk g.1 g.2.1) (aS.mk ([g.2.2]:List Int) (c3 c4 (1+d.2.2)) e.2.2 a.2.2)) else c6 (JB (bD.mk a.1 a.2.1) (aS.mk c.2.2 (c3 c4 (1+d.2.2)) e.2.2 a.2.2))).bind λj=>let h:=ajn j;let n:=aom j;(bj 48 i ([n]:List aS)).bind λm=>c6 (d0 (h.L,h.At,m,c3 c4 (k -1))) else c6 (c7 (f.L,f.At,i))
def BX(d:Lp)(e:bD)(f:ak):Option ((List Int)×Int×(List aS)):=(eO d e 4).bind λb=>(d.loop (λa=>R2 d f (bD.mk a.1 a.2.1) a.2.2.1 a.2.2.2) (b.1,b.2.1,([]:List aS),b.2.2)).bind λc=>c6 (c.1,c.2.1,c.2.2)
def JQ(c:Lp)(j:ak)(g:bD)(i:List bI)(a:Int):Option (((List Int)×Int×(List bI)×Int)⊕((List Int)×Int×(List bI))):=bif c5 (a<(j.af.length:Int)) then(gQ c g ([0,1000,5000,20000,(-5000),(-20000),4999,100]:List Int)).bind λd=>(gQ c (bD.mk d.1 d.2.1) ([0,1,1000,6000]:List Int)).bind λf=>(gQ c (bD.mk f.1 f.2.1) ([0,1,500]:List Int)).bind λh=>(bj 16 i ([(bI.mk (c3 c4 (d.2.2 -f.2.2)) (c3 c4 (d.2.2+h.2.2)))]:List bI)).bind λb=>(mK c (bD.mk h.1 h.2.1) 9).bind λe=>(bif e.2.2 then(aj b a).bind λ_=>(b[a.toNat]?).bind λ_=>c6 (b.set (a.toNat) (bI.mk (-1125899906842624) 1125899906842624)) else c6 b).bind λk=>c6 (d0 (e.1,e.2.1,k,c3 c4 (a+1))) else c6 (c7 (g.L,g.At,i))
def Cq(d:Lp)(c:bD)(e:ak):Option ((List Int)×Int×(List bI)):=(d.loop (λa=>JQ d e (bD.mk a.1 a.2.1) a.2.2.1 a.2.2.2) (c.L,c.At,([]:List bI),0)).bind λb=>c6 (b.1,b.2.1,b.2.2)
def xG(d:Lp)(a:bI)(b:Int)(c:Int):Option Bool:=bif c5 (b<=a.eF) then bif c5 (a.eF<=a.fk) then c6 (c5 (a.fk<=c)) else c6 false else c6 false
def IS(e:Lp)(b:ak)(a:Int):Option (Int⊕(Unit⊕Unit)):=bif c5 (a<(b.ai.length:Int)) then(aj b.ai a).bind λc=>(bif c5 (c.eU<(-10000)) then c6 true else c6 (c5 (10000<c.eU))).bind λd=>bif d then c6 (c7 (d0 ())) else c6 (d0 (c3 c4 (a+1))) else c6 (c7 (c7 ()))
def KX(d:Lp)(b:ak)(c:Int):Option (Int⊕(Int⊕Unit)):=bif c5 (c<(b.af.length:Int)) then(aj b.af c).bind λa=>(bif c5 (a.an<0) then c6 true else bif c5 ((b.ai.length:Int)<=a.an) then c6 true else bif c5 (a.To<0) then c6 true else bif c5 ((b.ai.length:Int)<=a.To) then c6 true else c6 (c5 (a.an=a.To))).bind λe=>bif e then c6 (c7 (d0 4)) else(bif c5 (a.Length<1) then c6 true else bif c5 (100000<a.Length) then c6 true else bif c5 (a.bT<1) then c6 true else bif c5 (1000<a.bT) then c6 true else(xG d a.Rest 1 262144).bind λg=>bif (!g) then c6 true else(xG d a.eI (-2199023255552) 2199023255552).bind λh=>c6 (!h)).bind λf=>bif f then c6 (c7 (d0 1)) else c6 (d0 (c3 c4 (c+1))) else c6 (c7 (c7 ()))
def EI(b:Lp)(a:ak):Option Int:=(bif c5 (64<(a.ai.length:Int)) then c6 true else c6 (c5 (128<(a.af.length:Int)))).bind λf=>bif f then c6 2 else(b.loop (λc=>IS b a c) 0).bind λe=>d2 (λh=>c6 1) (λj=>(b.loop (λc=>KX b a c) 0).bind λg=>d2 (λd=>c6 d) (λi=>c6 0) g) e
def Da(c:Lp)(a:aZ)(b:Bool):Option (Int×Int):=bif b then c6 (a.To,a.an) else c6 (a.an,a.To)
def Gv(g:Lp)(a:ak)(b:Int)(m:Bool)(r:Int)(j:Int)(i:Int):Option Int:=((EI g a).bind λq=>bif c5 (q≠0) then c6 true else bif c5 (b<0) then c6 true else bif c5 ((a.af.length:Int)<=b) then c6 true else(aj a.af b).bind λo=>bif o.eN then c6 true else(aj a.af b).bind λn=>c6 (!n.jy):Option Bool).bind λk=>bif k then c6 (-1) else(aj a.af b).bind λc=>(Da g c m).bind λf=>(aj a.ai f.2).bind λh=>(aj a.ai f.1).bind λd=>(bif c5 (c.Length<(c3 c4 (10*(c3 c4 (h.eU -d.eU))))) then c6 r else c6 i).bind λp=>(bif c5 (c.Length<(c3 c4 ((-10)*(c3 c4 (h.eU -d.eU))))) then c6 j else c6 p).bind λe=>(ph .i64 (c3 c4 ((c3 c4 ((c3 c4 (10*c.Length))+e)) -1)) e).bind λl=>c6 l
def wm(e:Lp)(a:ak)(d:Int)(c:Bool):Option Int:=(Gv e a d c 6 9 12).bind λb=>c6 b
def DG(e:Lp)(b:List Int)(d:Int)(a:Int):Option (Int⊕(Unit⊕Unit)):=bif c5 (a<(b.length:Int)) then(aj b a).bind λc=>bif c5 (c=d) then c6 (c7 (d0 ())) else c6 (d0 (c3 c4 (a+1))) else c6 (c7 (c7 ()))
def xb(a:Lp)(b:List Int)(e:Int):Option Bool:=(a.loop (λd=>DG a b e d) 0).bind λc=>d2 (λf=>c6 true) (λg=>c6 false) c
def Hh(c:Lp)(b:ak)(f:List Int)(d:List Int)(a:Int):Option (((List Int)×Int)⊕(List Int)):=bif c5 (a<(b.af.length:Int)) then(aj b.af a).bind λe=>((wm c b a false).bind λg=>bif c5 (0<=g) then c6 true else(wm c b a true).bind λj=>c6 (c5 (0<=j)):Option Bool).bind λh=>(bif (!e.eN) then bif h then(xb c f e.an).bind λn=>(xb c f e.To).bind λi=>c6 (n != i) else c6 false else c6 false).bind λm=>(bif m then(bj 8 d ([a]:List Int)).bind λk=>c6 k else c6 d).bind λl=>c6 (d0 (l,c3 c4 (a+1))) else c6 (c7 d)
def Dt(b:Lp)(d:ak)(e:List Int):Option (List Int):=(b.loop (λa=>Hh b d e a.1 a.2) (([]:List Int),0)).bind λc=>c6 c
def F8(p:Lp)(q:(List Int)×Int×ak)(a:bD)(f:List bP)(e:List aZ)(j:List aS)(g:List bI)(h:List Int)(k:List Int)(n:List Int)(d:List Int)(l:List Int)(i:List Int)(m:List Int)(b:Int):Option (((List Int)×Int×(List bP)×(List aZ)×(List aS)×(List bI)×(List Int)×(List Int)×(List Int)×(List Int)×(List Int)×(List Int)×(List Int)×Int)⊕((List Int)×Int×(List bP)×(List aZ)×(List aS)×(List Int)×(List Int)×(List bI)×(List Int)×(List Int)×(List Int)×(List Int)×(List Int))):=bif c5 (0<b) then(eO p a (q.2.2.ai.length:Int)).bind λc=>(bj 8 i ([c.2.2]:List Int)).bind λr=>(bj 8 m ([c3 c4 (30 - (c3 c4 (7*b)))]:List Int)).bind λo=>c6 (d0 (c.1,c.2.1,f,e,j,g,h,k,n,d,l,r,o,c3 c4 (b -1))) else c6 (c7 (a.L,a.At,f,e,j,i,m,g,h,k,n,d,l))
def zy(c:Lp)(v:bD):Option ((List Int)×Int×gM):=(zN c v).bind λe=>(BX c (bD.mk e.1 e.2.1) e.2.2).bind λq=>(eO c (bD.mk q.1 q.2.1) 3).bind λn=>(c.loop (λd=>F8 c e (bD.mk d.1 d.2.1) d.2.2.1 d.2.2.2.1 d.2.2.2.2.1 d.2.2.2.2.2.1 d.2.2.2.2.2.2.1 d.2.2.2.2.2.2.2.1 d.2.2.2.2.2.2.2.2.1 d.2.2.2.2.2.2.2.2.2.1 d.2.2.2.2.2.2.2.2.2.2.1 d.2.2.2.2.2.2.2.2.2.2.2.1 d.2.2.2.2.2.2.2.2.2.2.2.2.1 d.2.2.2.2.2.2.2.2.2.2.2.2.2) (n.1,n.2.1,e.2.2.ai,e.2.2.af,q.2.2,([]:List bI),([]:List Int),([]:List Int),([]:List Int),([]:List Int),([]:List Int),([]:List Int),([]:List Int),c3 c4 (1+n.2.2))).bind λb=>(Cq c (bD.mk b.1 b.2.1) (ak.mk b.2.2.1 b.2.2.2.1)).bind λl=>(gQ c (bD.mk l.1 l.2.1) ([600,100,2000]:List Int)).bind λm=>(mK c (bD.mk m.1 m.2.1) 3).bind λj=>(bif j.2.2 then(eO c (bD.mk j.1 j.2.1) (e.2.2.ai.length:Int)).bind λp=>c6 (p.1,p.2.1,b.2.2.1,b.2.2.2.1,b.2.2.2.2.1,b.2.2.2.2.2.1,b.2.2.2.2.2.2.1,l.2.2,([p.2.2]:List Int),([]:List Int),([]:List Int),m.2.2,b.2.2.2.2.2.2.2.2.2.2.2.1,b.2.2.2.2.2.2.2.2.2.2.2.2) else c6 (j.1,j.2.1,b.2.2.1,b.2.2.2.1,b.2.2.2.2.1,b.2.2.2.2.2.1,b.2.2.2.2.2.2.1,l.2.2,([]:List Int),([]:List Int),([]:List Int),m.2.2,b.2.2.2.2.2.2.2.2.2.2.2.1,b.2.2.2.2.2.2.2.2.2.2.2.2)).bind λa=>(gQ c (bD.mk a.1 a.2.1) ([299,4]:List Int)).bind λk=>(gQ c (bD.mk k.1 k.2.1) ([99,1799]:List Int)).bind λf=>(bif c5 (2<(e.2.2.ai.length:Int)) then(mK c (bD.mk f.1 f.2.1) 3).bind λs=>c6 (s.1,s.2.1,s.2.2) else c6 (f.1,f.2.1,false)).bind λi=>(bif i.2.2 then c6 (zl (gM.mk (ak.mk a.2.2.1 a.2.2.2.1) a.2.2.2.2.1 a.2.2.2.2.2.1 a.2.2.2.2.2.2.1 a.2.2.2.2.2.2.2.1 (bE.mk a.2.2.2.2.2.2.2.2.1 a.2.2.2.2.2.2.2.2.2.1 a.2.2.2.2.2.2.2.2.2.2.1 a.2.2.2.2.2.2.2.2.2.2.2.1) (cd.mk ([c3 c4 ((e.2.2.ai.length:Int) -2),c3 c4 ((e.2.2.ai.length:Int) -1)]:List Int) (c3 c4 (1+k.2.2)) (c3 c4 (1+f.2.2))) a.2.2.2.2.2.2.2.2.2.2.2.2.2)) else c6 (zl (gM.mk (ak.mk a.2.2.1 a.2.2.2.1) a.2.2.2.2.1 a.2.2.2.2.2.1 a.2.2.2.2.2.2.1 a.2.2.2.2.2.2.2.1 (bE.mk a.2.2.2.2.2.2.2.2.1 a.2.2.2.2.2.2.2.2.2.1 a.2.2.2.2.2.2.2.2.2.2.1 a.2.2.2.2.2.2.2.2.2.2.2.1) (cd.mk ([c3 c4 ((e.2.2.ai.length:Int) -1)]:List Int) (c3 c4 (1+k.2.2)) (c3 c4 (1+f.2.2))) a.2.2.2.2.2.2.2.2.2.2.2.2.2))).bind λu=>let g:=Nr u;(Dt c g.ao g.bM.bT).bind λt=>(bif c5 ((t.length:Int)=0) then c6 (i.1,i.2.1,true) else(mK c (bD.mk i.1 i.2.1) 8).bind λo=>c6 (o.1,o.2.1,o.2.2)).bind λh=>bif h.2.2 then(eO c (bD.mk h.1 h.2.1) (g.ao.af.length:Int)).bind λr=>c6 (r.1,r.2.1,({g with gZ:=([r.2.2]:List Int)}:gM)) else c6 (h.1,h.2.1,({g with gZ:=t}:gM))
def Cw(c:Lp)(a:gM):Option (aE×Bool):=(wX c a.ao a.aQ a.ai a.aw a.cI a.bR a.bM a.gZ).bind λb=>c6 (b.1,c5 (b.2=0))
def Di(b:Lp)(A:bD)(p:Int)(w:Int)(D:Int)(t:Int)(x:Int):Option ((List Int)×Int×bH):=(gQ b A ([1,1,2,2,3,4,3,4,5,6,7,8,9,10,11,12,13,7]:List Int)).bind λa=>(bif c5 (a.2.2=1) then(gQ b (bD.mk a.1 a.2.1) ([1,5,10,30,100,0,300]:List Int)).bind λf=>c6 (rB (bD.mk f.1 f.2.1) (bH.mk a.2.2 f.2.2 0 0)) else bif c5 (a.2.2=2) then(eO b (bD.mk a.1 a.2.1) p).bind λm=>(eO b (bD.mk m.1 m.2.1) w).bind λq=>(gQ b (bD.mk q.1 q.2.1) ([0,0,5,60]:List Int)).bind λr=>c6 (rB (bD.mk r.1 r.2.1) (bH.mk a.2.2 m.2.2 q.2.2 r.2.2)) else bif c5 (a.2.2=3) then(eO b (bD.mk a.1 a.2.1) t).bind λj=>(gQ b (bD.mk j.1 j.2.1) ([0,0,1,2,3]:List Int)).bind λn=>(gQ b (bD.mk n.1 n.2.1) ([0,0,1,(-1),3]:List Int)).bind λg=>c6 (rB (bD.mk g.1 g.2.1) (bH.mk a.2.2 j.2.2 n.2.2 g.2.2)) else bif c5 (a.2.2=4) then(eO b (bD.mk a.1 a.2.1) t).bind λk=>c6 (rB (bD.mk k.1 k.2.1) (bH.mk a.2.2 k.2.2 0 0)) else bif c5 (a.2.2=5) then(eO b (bD.mk a.1 a.2.1) p).bind λe=>(eO b (bD.mk e.1 e.2.1) p).bind λs=>c6 (rB (bD.mk s.1 s.2.1) (bH.mk a.2.2 e.2.2 s.2.2 0)) else(bif c5 (a.2.2=6) then(eO b (bD.mk a.1 a.2.1) D).bind λd=>c6 (d.1,d.2.1,a.2.2,d.2.2,0) else bif c5 (a.2.2=7) then(eO b (bD.mk a.1 a.2.1) x).bind λi=>c6 (i.1,i.2.1,a.2.2,i.2.2,0) else(bif c5 (a.2.2=8) then c6 (c5 (a.2.2=8)) else c6 (c5 (a.2.2=9))).bind λC=>bif C then(eO b (bD.mk a.1 a.2.1) 2).bind λh=>c6 (h.1,h.2.1,a.2.2,c3 c4 (1+h.2.2),0) else bif c5 (a.2.2=10) then(eO b (bD.mk a.1 a.2.1) 4).bind λo=>(ph .i64 o.2.2 3).bind λy=>c6 (o.1,o.2.1,a.2.2,0,y) else(bif c5 (a.2.2=11) then c6 (c5 (a.2.2=11)) else c6 (c5 (a.2.2=12))).bind λz=>bif z then(eO b (bD.mk a.1 a.2.1) w).bind λl=>c6 (l.1,l.2.1,a.2.2,l.2.2,0) else c6 (a.1,a.2.1,a.2.2,0,0)).bind λc=>c6 (rB (bD.mk c.1 c.2.1) (bH.mk c.2.2.1 c.2.2.2.1 c.2.2.2.2 0))).bind λv=>let u:=aba v;let B:=age v;c6 (u.L,u.At,B)
def II(e:Lp)(d:aE)(b:List bH)(a:Int):Option (((List bH)×Int)⊕(List bH)):=bif c5 (a<(d.Keys.af.length:Int)) then(bj 32 b ([(bH.mk 7 a 0 0)]:List bH)).bind λc=>c6 (d0 (c,c3 c4 (a+1))) else c6 (c7 b)
def T2(b:Lp)(a:aE)(j:bD)(e:List bH)(m:Int):Option (((List Int)×Int×(List bH)×Int)⊕((List Int)×Int×(List bH))):=(bif c5 (0<m) then c6 (c5 ((e.length:Int)<60)) else c6 false).bind λs=>bif s then((mK b j 12).bind λc=>bif c.2.2 then(b.loop (λn=>II b a n.1 n.2) (e,0)).bind λr=>(bj 32 r ([(bH.mk 8 1 0 0),(bH.mk 1 3 0 0),(bH.mk 9 2 0 0),(bH.mk 10 0 0 0)]:List bH)).bind λq=>c6 (c.1,c.2.1,q) else((mK b (bD.mk c.1 c.2.1) 3).bind λf=>bif f.2.2 then c6 (f.1,f.2.1,c5 (0<(a.au.aQ.length:Int))) else c6 (f.1,f.2.1,false):Option ((List Int)×Int×Bool)).bind λd=>bif d.2.2 then(eO b (bD.mk d.1 d.2.1) (a.au.aQ.length:Int)).bind λg=>(gQ b (bD.mk g.1 g.2.1) ([0,0,1]:List Int)).bind λi=>(gQ b (bD.mk i.1 i.2.1) ([1,5,10,20]:List Int)).bind λh=>(bj 32 e ([(bH.mk 3 g.2.2 i.2.2 0),(bH.mk 4 g.2.2 0 0),(bH.mk 1 h.2.2 0 0)]:List bH)).bind λo=>c6 (h.1,h.2.1,o) else(Di b (bD.mk d.1 d.2.1) (a.au.aN.length:Int) (a.ao.af.length:Int) (a.ao.ai.length:Int) (max 1 (a.au.aQ.length:Int)) (max 1 (a.Keys.af.length:Int))).bind λk=>(bj 32 e ([k.2.2]:List bH)).bind λp=>c6 (k.1,k.2.1,p):Option ((List Int)×Int×(List bH))).bind λl=>c6 (d0 (l.1,l.2.1,l.2.2,c3 c4 (m -1))) else c6 (c7 (j.L,j.At,e))
def EJ(d:Lp)(e:bD)(g:aE)(f:Int):Option ((List Int)×Int×(List bH)):=(eO d e f).bind λb=>(d.loop (λa=>T2 d g (bD.mk a.1 a.2.1) a.2.2.1 a.2.2.2) (b.1,b.2.1,([]:List bH),c3 c4 (5+b.2.2))).bind λc=>c6 (c.1,c.2.1,c.2.2)
def Be(e:Lp)(b:ak)(d:bE)(c:Int):Option ((List Int)×(List Int)×Bool):=(r7 e b d c).bind λa=>c6 (a.1,a.2.1,a.2.2.2)
def DX(j:Lp)(b:aE×Int)(d:List Int)(i:Int)(c:Bool)(a:Int):Option ((Bool×Int)⊕Bool):=bif c5 (a<(b.1.bS.length:Int)) then(bif c then c6 true else(aj b.1.bS a).bind λf=>bif c5 (f.Kind=2) then(aj b.1.bS a).bind λe=>(aj d i).bind λh=>c6 (c5 (e.eB=h)) else c6 false).bind λg=>c6 (d0 (g,c3 c4 (a+1))) else c6 (c7 c)
def AX(d:Lp)(c:List Int)(e:aE×Int)(n:List Int)(b:Int):Option (Int⊕(Unit⊕Unit)):=bif c5 (b<(c.length:Int)) then(aj c b).bind λg=>(Be d e.1.ao ({e.1.bR with dg:=n}:bE) g).bind λa=>(d.loop (λf=>DX d e c b f.1 f.2) (false,0)).bind λm=>(bif (!a.2.2) then bif (!m) then c6 true else bif a.2.2 then bif c5 (0<(a.1.length:Int)) then bif c5 (0<(a.2.1.length:Int)) then(aj a.1 0).bind λi=>(aj a.2.1 0).bind λj=>c6 (c5 (i=j)) else c6 false else c6 false else c6 false else bif a.2.2 then bif c5 (0<(a.1.length:Int)) then bif c5 (0<(a.2.1.length:Int)) then(aj a.1 0).bind λk=>(aj a.2.1 0).bind λh=>c6 (c5 (k=h)) else c6 false else c6 false else c6 false).bind λl=>bif l then c6 (c7 (d0 ())) else c6 (d0 (c3 c4 (b+1))) else c6 (c7 (c7 ()))
def Eo(c:Lp)(a:aE×Int)(g:List Int)(b:Int):Option (Int⊕(Unit⊕Unit)):=bif c5 (b<(a.1.au.aN.length:Int)) then(rJ c a.1.bw b a.1.au.Time).bind λd=>(c.loop (λf=>AX c d a g f) 0).bind λe=>d2 (λh=>c6 (c7 (d0 ()))) (λi=>c6 (d0 (c3 c4 (b+1)))) e else c6 (c7 (c7 ()))
def yD(c:Lp)(b:List bH)(d:aE)(a:Int):Option (pJ⊕(Unit⊕Unit)):=bif c5 (a<(b.length:Int)) then((aj b a).bind λ_=>(b[a.toNat]?).bind λm=>(w7 c d m).bind λe=>((aj b a).bind λ_=>(b[a.toNat]?).bind λl=>bif c5 (l.Kind≠12) then c6 true else bif c5 (e.2≠0) then c6 true else c6 (c5 ((d.bz.an.length:Int)=0)):Option Bool).bind λi=>bif i then c6 (d0 (lR e.1)) else(w6 c d.bz (c3 c4 (d.au.Time+600))).bind λn=>(c.loop (λk=>Eo c e n k) 0).bind λg=>d2 (λp=>c6 (c7 ())) (λo=>c6 (d0 (lR e.1))) g:Option (qc⊕Unit)).bind λj=>d2 (λh=>let f:=tT h;c6 (d0 (u16 f (c3 c4 (a+1))))) (λq=>c6 (c7 (d0 ()))) j else c6 (c7 (c7 ()))
def HT(a:Lp)(e:List Int):Option Bool:=(I1 a e).bind λm=>bif (!m) then(vn a).bind λi=>c6 i else(NC a e).bind λh=>(zy a (bD.mk h 0)).bind λc=>(Cw a c.2.2).bind λb=>bif (!b.2) then c6 false else(eO a (bD.mk c.1 c.2.1) (b.1.ao.ai.length:Int)).bind λd=>(EJ a (bD.mk d.1 d.2.1) b.1 25).bind λg=>(bj 32 ([(bH.mk 6 d.2.2 0 0)]:List bH) g.2.2).bind λk=>(a.loop (λf=>yD a k (sN f) (sE f)) (u16 b.1 0)).bind λj=>d2 (λo=>c6 false) (λn=>(vn a).bind λl=>c6 l) j
end Go.X.T
namespace Go.X.T
open Go Go.Aml Go.Bml Go.X Go.Proofs
def IQ:List (List (Nat×Ty)):=[
 [(3,⟨Int,(PV.int .i64)⟩),(4,⟨Bool,PV.bool⟩),(5,⟨Int,(PV.int .u8)⟩)],
 [(22,⟨List Int,(λa=>PV.vs 1 (d1 (PV.int .i64) a))⟩),(27,⟨List bP,(λa=>PV.vs 2 (d1 bP.enc a))⟩),(28,⟨List aZ,(λa=>PV.vs 10 (d1 aZ.enc a))⟩),(30,⟨ak,ak.enc⟩),(31,⟨List bC,(λa=>PV.vs 3 (d1 bC.enc a))⟩)],
 [(32,⟨List aS,(λa=>PV.vs 4 (d1 aS.enc a))⟩),(33,⟨List (List Int),(λa=>PV.vs 1 (d1 (λa=>PV.vs 1 (d1 (PV.int .i64) a)) a))⟩),(35,⟨aB,aB.enc⟩),(36,⟨List bI,(λa=>PV.vs 2 (d1 bI.enc a))⟩),(38,⟨bE,bE.enc⟩),(40,⟨cd,cd.enc⟩),(41,⟨List aT,(λa=>PV.vs 4 (d1 aT.enc a))⟩),(43,⟨cZ,cZ.enc⟩),(44,⟨List ay,(λa=>PV.vs 2 (d1 ay.enc a))⟩),(46,⟨aL,aL.enc⟩)],
 [(48,⟨bQ,bQ.enc⟩),(50,⟨bA,bA.enc⟩),(52,⟨b7,b7.enc⟩),(53,⟨List cy,(λa=>PV.vs 9 (d1 cy.enc a))⟩),(54,⟨List dK,(λa=>PV.vs 7 (d1 dK.enc a))⟩),(56,⟨aE,aE.enc⟩),(60,⟨gM,gM.enc⟩),(62,⟨List bH,(λa=>PV.vs 4 (d1 bH.enc a))⟩)],
 [(65,⟨bH,bH.enc⟩),(67,⟨Int,(PV.int .i64)⟩),(75,⟨cy,cy.enc⟩)],
 [(83,⟨dK,dK.enc⟩),(88,⟨bC,bC.enc⟩),(90,⟨bI,bI.enc⟩),(95,⟨List Int,(λa=>PV.vs 1 (d1 (PV.int .u8) a))⟩)],
 [(97,⟨fa,fa.enc⟩),(101,⟨aT,aT.enc⟩),(106,⟨qe,qe.enc⟩),(107,⟨List fa,(λa=>PV.vs 3 (d1 fa.enc a))⟩)],
 [(115,⟨aZ,aZ.enc⟩),(117,⟨bP,bP.enc⟩),(120,⟨aS,aS.enc⟩)],
 [(134,⟨Option Nat,wi⟩),(138,⟨List aM,(λa=>PV.vs 2 (d1 aM.enc a))⟩),(140,⟨ay,ay.enc⟩),(142,⟨aM,aM.enc⟩)],
 [(144,⟨ju,ju.enc⟩),(159,⟨List (Option Nat),(λa=>PV.vs 1 (d1 wi a))⟩)],
 [(161,⟨Option Nat,wi⟩),(167,⟨List cS,(λa=>PV.vs 4 (d1 cS.enc a))⟩),(168,⟨List Bool,(λa=>PV.vs 1 (d1 PV.bool a))⟩),(170,⟨cm,cm.enc⟩),(174,⟨cS,cS.enc⟩)],
 [(179,⟨Int,(PV.int .u64)⟩),(181,⟨Int,(PV.int .u64)⟩)],
 [],
 [(222,⟨kD,kD.enc⟩)],
 [(230,⟨pL,pL.enc⟩)],
 [(247,⟨List dS,(λa=>PV.vs 4 (d1 dS.enc a))⟩),(251,⟨dS,dS.enc⟩)],
 [],
 [(272,⟨List da,(λa=>PV.vs 2 (d1 da.enc a))⟩),(275,⟨da,da.enc⟩),(283,⟨kC,kC.enc⟩)],
 [],
 [(309,⟨List dC,(λa=>PV.vs 4 (d1 dC.enc a))⟩),(312,⟨dC,dC.enc⟩)],
 [(333,⟨jf,jf.enc⟩)]]
def Du(a:Nat):Ty:=Br (px IQ (a/16)) a
@[reducible] def DT(a:Nat):Type:=(Du a).T
def anu:List (List (Nat×xz)):=[
 [(3,⟨1,true,0⟩),(4,⟨1,true,0⟩),(5,⟨1,true,0⟩)],
 [(22,⟨1,false,3⟩),(27,⟨1,false,117⟩),(28,⟨1,false,115⟩),(30,⟨2,false,0⟩),(31,⟨1,false,88⟩)],
 [(32,⟨1,false,120⟩),(33,⟨1,false,22⟩),(35,⟨9,false,0⟩),(36,⟨1,false,90⟩),(38,⟨4,false,0⟩),(40,⟨3,false,0⟩),(41,⟨1,false,101⟩),(43,⟨2,false,0⟩),(44,⟨1,false,140⟩),(46,⟨1,false,0⟩)],
 [(48,⟨2,false,0⟩),(50,⟨3,false,0⟩),(52,⟨4,true,0⟩),(53,⟨1,false,75⟩),(54,⟨1,false,83⟩),(56,⟨36,false,0⟩),(60,⟨14,false,0⟩),(62,⟨1,false,65⟩)],
 [(65,⟨4,true,0⟩),(67,⟨1,true,0⟩),(75,⟨9,true,0⟩)],
 [(83,⟨7,false,0⟩),(88,⟨3,true,0⟩),(90,⟨2,true,0⟩),(95,⟨1,false,5⟩)],
 [(97,⟨3,false,0⟩),(101,⟨4,false,0⟩),(106,⟨2,false,0⟩),(107,⟨1,false,97⟩)],
 [(115,⟨10,true,0⟩),(117,⟨2,true,0⟩),(120,⟨4,false,0⟩)],
 [(134,⟨1,false,0⟩),(138,⟨1,false,142⟩),(140,⟨2,false,0⟩),(142,⟨2,false,0⟩)],
 [(144,⟨2,true,0⟩),(159,⟨1,false,161⟩)],
 [(161,⟨1,false,0⟩),(167,⟨1,false,174⟩),(168,⟨1,false,4⟩),(170,⟨4,false,0⟩),(174,⟨4,true,0⟩)],
 [(179,⟨1,true,0⟩),(181,⟨1,true,0⟩)],
 [],
 [(222,⟨3,true,0⟩)],
 [(230,⟨4,false,0⟩)],
 [(247,⟨1,false,251⟩),(251,⟨4,true,0⟩)],
 [],
 [(272,⟨1,false,275⟩),(275,⟨2,true,0⟩),(283,⟨2,true,0⟩)],
 [],
 [(309,⟨1,false,312⟩),(312,⟨4,true,0⟩)],
 [(333,⟨13,false,0⟩)]]
def KF(a:Nat):xz:=Eu (px anu (a/16)) a
def YH:List (List (Σ a,Ev DT a)):=[
 [⟨3,fA DT .i64 rfl⟩,⟨4,nE DT rfl⟩,⟨5,fA DT .u8 rfl⟩],
 [⟨22,bJ DT 3 rfl⟩,⟨27,bJ DT 117 rfl⟩,⟨28,bJ DT 115 rfl⟩,⟨31,bJ DT 88 rfl⟩],
 [⟨32,bJ DT 120 rfl⟩,⟨33,lx DT 22 3 rfl rfl⟩,⟨36,bJ DT 90 rfl⟩,⟨41,bJ DT 101 rfl⟩,⟨44,bJ DT 140 rfl⟩],
 [⟨53,bJ DT 75 rfl⟩,⟨54,bJ DT 83 rfl⟩,⟨62,bJ DT 65 rfl⟩],
 [⟨67,fA DT .i64 rfl⟩],
 [⟨95,bJ DT 5 rfl⟩],
 [⟨107,bJ DT 97 rfl⟩],
 [],
 [⟨134,iR DT rfl⟩,⟨138,bJ DT 142 rfl⟩],
 [⟨159,bJ DT 161 rfl⟩],
 [⟨161,iR DT rfl⟩,⟨167,bJ DT 174 rfl⟩,⟨168,bJ DT 4 rfl⟩],
 [⟨179,fA DT .u64 rfl⟩,⟨181,fA DT .u64 rfl⟩],
 [],
 [],
 [],
 [⟨247,bJ DT 251 rfl⟩],
 [],
 [⟨272,bJ DT 275 rfl⟩],
 [],
 [⟨309,bJ DT 312 rfl⟩],
 []]
def bh(a:Nat):Ev DT a:=Jq DT (px YH (a/16)) a
def Yv:List (List (Σ c,Ev DT c)):=[
 [⟨3,fA DT .i64 rfl⟩,
  ⟨4,nE DT rfl⟩,
  ⟨5,fA DT .u8 rfl⟩],
 [⟨22,bJ DT 3 rfl⟩,
  ⟨27,bJ DT 117 rfl⟩,
  ⟨28,bJ DT 115 rfl⟩,
  ⟨30,cw DT bh [27,28] (λa=>(ak.mk a.1 a.2):bi DT [27,28]->ak) (λb=>(b.ai,b.af)) rfl⟩,
  ⟨31,bJ DT 88 rfl⟩],
 [⟨32,bJ DT 120 rfl⟩,
  ⟨33,lx DT 22 3 rfl rfl⟩,
  ⟨35,cw DT bh [27,28,3,31,22,32,22,22,33] (λa=>(aB.mk (ak.mk a.1 a.2.1) a.2.2.1 a.2.2.2.1 a.2.2.2.2.1 a.2.2.2.2.2.1 a.2.2.2.2.2.2.1 a.2.2.2.2.2.2.2.1 a.2.2.2.2.2.2.2.2):bi DT [27,28,3,31,22,32,22,22,33]->aB) (λb=>(b.ao.ai,b.ao.af,b.Time,b.aN,b.aw,b.aQ,b.cn,b.cf,b.bp)) rfl⟩,
  ⟨36,bJ DT 90 rfl⟩,
  ⟨38,cw DT bh [22,22,22,3] (λa=>(bE.mk a.1 a.2.1 a.2.2.1 a.2.2.2):bi DT [22,22,22,3]->bE) (λb=>(b.Safe,b.dg,b.dG,b.er)) rfl⟩,
  ⟨40,cw DT bh [22,3,3] (λa=>(cd.mk a.1 a.2.1 a.2.2):bi DT [22,3,3]->cd) (λb=>(b.bT,b.dZ,b.ed)) rfl⟩,
  ⟨41,bJ DT 101 rfl⟩,
  ⟨43,cw DT bh [22,22] (λa=>(cZ.mk a.1 a.2):bi DT [22,22]->cZ) (λb=>(b.dl,b.dr)) rfl⟩,
  ⟨44,bJ DT 140 rfl⟩,
  ⟨46,cw DT bh [44] (λa=>(aL.mk a):bi DT [44]->aL) (λb=>b.aA) rfl⟩],
 [⟨48,cw DT bh [3,22] (λa=>(bQ.mk a.1 a.2):bi DT [3,22]->bQ) (λb=>(b.Time,b.an)) rfl⟩,
  ⟨50,cw DT bh [22,22,4] (λa=>(bA.mk a.1 a.2.1 a.2.2):bi DT [22,22,4]->bA) (λb=>(b.af,b.Keys,b.Out)) rfl⟩,
  ⟨52,cw DT bh [3,3,3,3] (λa=>(b7.mk a.1 a.2.1 a.2.2.1 a.2.2.2):bi DT [3,3,3,3]->b7) (λb=>(b.State,b.dD,b.Second,b.Time)) rfl⟩,
  ⟨53,bJ DT 75 rfl⟩,
  ⟨54,bJ DT 83 rfl⟩,
  ⟨56,cw DT bh [27,28,3,31,22,32,22,22,33,27,28,36,22,22,22,3,22,3,3,41,41,22,22,44,3,22,22,22,4,3,3,3,3,44,53,54] (λa=>(aE.mk (aB.mk (ak.mk a.1 a.2.1) a.2.2.1 a.2.2.2.1 a.2.2.2.2.1 a.2.2.2.2.2.1 a.2.2.2.2.2.2.1 a.2.2.2.2.2.2.2.1 a.2.2.2.2.2.2.2.2.1) (ak.mk a.2.2.2.2.2.2.2.2.2.1 a.2.2.2.2.2.2.2.2.2.2.1) a.2.2.2.2.2.2.2.2.2.2.2.1 (bE.mk a.2.2.2.2.2.2.2.2.2.2.2.2.1 a.2.2.2.2.2.2.2.2.2.2.2.2.2.1 a.2.2.2.2.2.2.2.2.2.2.2.2.2.2.1 a.2.2.2.2.2.2.2.2.2.2.2.2.2.2.2.1) (cd.mk a.2.2.2.2.2.2.2.2.2.2.2.2.2.2.2.2.1 a.2.2.2.2.2.2.2.2.2.2.2.2.2.2.2.2.2.1 a.2.2.2.2.2.2.2.2.2.2.2.2.2.2.2.2.2.2.1) a.2.2.2.2.2.2.2.2.2.2.2.2.2.2.2.2.2.2.2.1 a.2.2.2.2.2.2.2.2.2.2.2.2.2.2.2.2.2.2.2.2.1 (cZ.mk a.2.2.2.2.2.2.2.2.2.2.2.2.2.2.2.2.2.2.2.2.2.1 a.2.2.2.2.2.2.2.2.2.2.2.2.2.2.2.2.2.2.2.2.2.2.1) (aL.mk a.2.2.2.2.2.2.2.2.2.2.2.2.2.2.2.2.2.2.2.2.2.2.2.1) (bQ.mk a.2.2.2.2.2.2.2.2.2.2.2.2.2.2.2.2.2.2.2.2.2.2.2.2.1 a.2.2.2.2.2.2.2.2.2.2.2.2.2.2.2.2.2.2.2.2.2.2.2.2.2.1) (bA.mk a.2.2.2.2.2.2.2.2.2.2.2.2.2.2.2.2.2.2.2.2.2.2.2.2.2.2.1 a.2.2.2.2.2.2.2.2.2.2.2.2.2.2.2.2.2.2.2.2.2.2.2.2.2.2.2.1 a.2.2.2.2.2.2.2.2.2.2.2.2.2.2.2.2.2.2.2.2.2.2.2.2.2.2.2.2.1) (b7.mk a.2.2.2.2.2.2.2.2.2.2.2.2.2.2.2.2.2.2.2.2.2.2.2.2.2.2.2.2.2.1 a.2.2.2.2.2.2.2.2.2.2.2.2.2.2.2.2.2.2.2.2.2.2.2.2.2.2.2.2.2.2.1 a.2.2.2.2.2.2.2.2.2.2.2.2.2.2.2.2.2.2.2.2.2.2.2.2.2.2.2.2.2.2.2.1 a.2.2.2.2.2.2.2.2.2.2.2.2.2.2.2.2.2.2.2.2.2.2.2.2.2.2.2.2.2.2.2.2.1) (aL.mk a.2.2.2.2.2.2.2.2.2.2.2.2.2.2.2.2.2.2.2.2.2.2.2.2.2.2.2.2.2.2.2.2.2.1) a.2.2.2.2.2.2.2.2.2.2.2.2.2.2.2.2.2.2.2.2.2.2.2.2.2.2.2.2.2.2.2.2.2.2.1 a.2.2.2.2.2.2.2.2.2.2.2.2.2.2.2.2.2.2.2.2.2.2.2.2.2.2.2.2.2.2.2.2.2.2.2):bi DT [27,28,3,31,22,32,22,22,33,27,28,36,22,22,22,3,22,3,3,41,41,22,22,44,3,22,22,22,4,3,3,3,3,44,53,54]->aE) (λb=>(b.au.ao.ai,b.au.ao.af,b.au.Time,b.au.aN,b.au.aw,b.au.aQ,b.au.cn,b.au.cf,b.au.bp,b.ao.ai,b.ao.af,b.cI,b.bR.Safe,b.bR.dg,b.bR.dG,b.bR.er,b.bM.bT,b.bM.dZ,b.bM.ed,b.cq,b.bZ,b.cW.dl,b.cW.dr,b.bw.aA,b.bz.Time,b.bz.an,b.Keys.af,b.Keys.Keys,b.Keys.Out,b.cL.State,b.cL.dD,b.cL.Second,b.cL.Time,b.bq.aA,b.bS,b.bB)) rfl⟩,
  ⟨60,cw DT bh [27,28,32,22,22,36,22,22,22,3,22,3,3,22] (λa=>(gM.mk (ak.mk a.1 a.2.1) a.2.2.1 a.2.2.2.1 a.2.2.2.2.1 a.2.2.2.2.2.1 (bE.mk a.2.2.2.2.2.2.1 a.2.2.2.2.2.2.2.1 a.2.2.2.2.2.2.2.2.1 a.2.2.2.2.2.2.2.2.2.1) (cd.mk a.2.2.2.2.2.2.2.2.2.2.1 a.2.2.2.2.2.2.2.2.2.2.2.1 a.2.2.2.2.2.2.2.2.2.2.2.2.1) a.2.2.2.2.2.2.2.2.2.2.2.2.2):bi DT [27,28,32,22,22,36,22,22,22,3,22,3,3,22]->gM) (λb=>(b.ao.ai,b.ao.af,b.aQ,b.ai,b.aw,b.cI,b.bR.Safe,b.bR.dg,b.bR.dG,b.bR.er,b.bM.bT,b.bM.dZ,b.bM.ed,b.gZ)) rfl⟩,
  ⟨62,bJ DT 65 rfl⟩],
 [⟨65,cw DT bh [3,3,3,3] (λa=>(bH.mk a.1 a.2.1 a.2.2.1 a.2.2.2):bi DT [3,3,3,3]->bH) (λb=>(b.Kind,b.A,b.B,b.C)) rfl⟩,
  ⟨67,fA DT .i64 rfl⟩,
  ⟨75,cw DT bh [3,3,3,3,3,4,4,3,3] (λa=>(cy.mk a.1 a.2.1 a.2.2.1 a.2.2.2.1 a.2.2.2.2.1 a.2.2.2.2.2.1 a.2.2.2.2.2.2.1 a.2.2.2.2.2.2.2.1 a.2.2.2.2.2.2.2.2):bi DT [3,3,3,3,3,4,4,3,3]->cy) (λb=>(b.Kind,b.eB,b.Priority,b.ku,b.l9,b.sd,b.uV,b.mZ,b.pB)) rfl⟩],
 [⟨83,cw DT bh [3,3,3,3,3,67,22] (λa=>(dK.mk (bH.mk a.1 a.2.1 a.2.2.1 a.2.2.2.1) a.2.2.2.2.1 a.2.2.2.2.2.1 a.2.2.2.2.2.2):bi DT [3,3,3,3,3,67,22]->dK) (λb=>(b.Event.Kind,b.Event.A,b.Event.B,b.Event.C,b.Time,b.Code,b.ll)) rfl⟩,
  ⟨88,cw DT bh [3,3,3] (λa=>(bC.mk a.1 a.2.1 a.2.2):bi DT [3,3,3]->bC) (λb=>(b.Place,b.Road,b.Left)) rfl⟩,
  ⟨90,cw DT bh [3,3] (λa=>(bI.mk a.1 a.2):bi DT [3,3]->bI) (λb=>(b.eF,b.fk)) rfl⟩,
  ⟨95,bJ DT 5 rfl⟩],
 [⟨97,cw DT bh [3,3,95] (λa=>(fa.mk a.1 a.2.1 a.2.2):bi DT [3,3,95]->fa) (λb=>(b.kO,b.Kind,b.Data)) rfl⟩,
  ⟨101,cw DT bh [3,3,3,22] (λa=>(aT.mk a.1 a.2.1 a.2.2.1 a.2.2.2):bi DT [3,3,3,22]->aT) (λb=>(b.Reader,b.Number,b.Time,b.aw)) rfl⟩,
  ⟨106,cw DT bh [95,3] (λa=>(qe.mk a.1 a.2):bi DT [95,3]->qe) (λb=>(b.Ho,b.Hp)) rfl⟩,
  ⟨107,bJ DT 97 rfl⟩],
 [⟨115,cw DT bh [3,3,3,3,4,4,3,3,3,3] (λa=>(aZ.mk a.1 a.2.1 a.2.2.1 a.2.2.2.1 a.2.2.2.2.1 a.2.2.2.2.2.1 (bI.mk a.2.2.2.2.2.2.1 a.2.2.2.2.2.2.2.1) (bI.mk a.2.2.2.2.2.2.2.2.1 a.2.2.2.2.2.2.2.2.2)):bi DT [3,3,3,3,4,4,3,3,3,3]->aZ) (λb=>(b.an,b.To,b.Length,b.bT,b.jy,b.eN,b.Rest.eF,b.Rest.fk,b.eI.eF,b.eI.fk)) rfl⟩,
  ⟨117,cw DT bh [3,4] (λa=>(bP.mk a.1 a.2):bi DT [3,4]->bP) (λb=>(b.eU,b.wj)) rfl⟩,
  ⟨120,cw DT bh [22,3,3,3] (λa=>(aS.mk a.1 a.2.1 a.2.2.1 a.2.2.2):bi DT [22,3,3,3]->aS) (λb=>(b.ai,b.dX,b.dY,b.cR)) rfl⟩],
 [⟨134,iR DT rfl⟩,
  ⟨138,bJ DT 142 rfl⟩,
  ⟨140,cw DT bh [22,138] (λa=>(ay.mk a.1 a.2):bi DT [22,138]->ay) (λb=>(b.aw,b.aH)) rfl⟩,
  ⟨142,cw DT bh [3,22] (λa=>(aM.mk a.1 a.2):bi DT [3,22]->aM) (λb=>(b.Time,b.an)) rfl⟩],
 [⟨144,cw DT bh [3,3] (λa=>(ju.mk a.1 a.2):bi DT [3,3]->ju) (λb=>(b.a0,b.a1)) rfl⟩,
  ⟨159,bJ DT 161 rfl⟩],
 [⟨161,iR DT rfl⟩,
  ⟨167,bJ DT 174 rfl⟩,
  ⟨168,bJ DT 4 rfl⟩,
  ⟨170,cw DT bh [3,167,168,168] (λa=>(cm.mk a.1 a.2.1 a.2.2.1 a.2.2.2):bi DT [3,167,168,168]->cm) (λb=>(b.n,b.steps,b.safe,b.bad)) rfl⟩,
  ⟨174,cw DT bh [3,3,3,3] (λa=>(cS.mk a.1 a.2.1 a.2.2.1 a.2.2.2):bi DT [3,3,3,3]->cS) (λb=>(b.gX,b.from_,b.b9,b.time)) rfl⟩],
 [⟨179,fA DT .u64 rfl⟩,
  ⟨181,fA DT .u64 rfl⟩],
 [],
 [⟨222,cw DT bh [3,3,3] (λa=>(kD.mk a.1 a.2.1 a.2.2):bi DT [3,3,3]->kD) (λb=>(b.up,b.down,b.level)) rfl⟩],
 [⟨230,cw DT bh [27,28,36,22] (λa=>(pL.mk (ak.mk a.1 a.2.1) a.2.2.1 a.2.2.2):bi DT [27,28,36,22]->pL) (λb=>(b.m.ai,b.m.af,b.KE,b.from_)) rfl⟩],
 [⟨247,bJ DT 251 rfl⟩,
  ⟨251,cw DT bh [3,3,3,3] (λa=>(dS.mk a.1 a.2.1 a.2.2.1 a.2.2.2):bi DT [3,3,3,3]->dS) (λb=>(b.Reader,b.Tag,b.an,b.To)) rfl⟩],
 [],
 [⟨272,bJ DT 275 rfl⟩,
  ⟨275,cw DT bh [3,3] (λa=>(da.mk a.1 a.2):bi DT [3,3]->da) (λb=>(b.time,b.roads)) rfl⟩,
  ⟨283,cw DT bh [3,3] (λa=>(kC.mk a.1 a.2):bi DT [3,3]->kC) (λb=>(b.kind,b.Dn)) rfl⟩],
 [],
 [⟨309,bJ DT 312 rfl⟩,
  ⟨312,cw DT bh [3,3,3,3] (λa=>(dC.mk a.1 a.2.1 a.2.2.1 a.2.2.2):bi DT [3,3,3,3]->dC) (λb=>(b.Reader,b.Tag,b.an,b.To)) rfl⟩],
 [⟨333,cw DT bh [22,3,3,3,3,3,3,22,22,4,44,3,3] (λa=>(jf.mk (cd.mk a.1 a.2.1 a.2.2.1) (b7.mk a.2.2.2.1 a.2.2.2.2.1 a.2.2.2.2.2.1 a.2.2.2.2.2.2.1) (bA.mk a.2.2.2.2.2.2.2.1 a.2.2.2.2.2.2.2.2.1 a.2.2.2.2.2.2.2.2.2.1) (aL.mk a.2.2.2.2.2.2.2.2.2.2.1) a.2.2.2.2.2.2.2.2.2.2.2.1 a.2.2.2.2.2.2.2.2.2.2.2.2):bi DT [22,3,3,3,3,3,3,22,22,4,44,3,3]->jf) (λb=>(b.x.bT,b.x.dZ,b.x.ed,b.s.State,b.s.dD,b.s.Second,b.s.Time,b.k.af,b.k.Keys,b.k.Out,b.b.aA,b.t,b.from_)) rfl⟩]]
def bf(a:Nat):Ev DT a:=Jq DT (px Yv (a/16)) a
def BT:Tb:=⟨Du,λa=>(bf a).tv,λa=>(bf a).up,λa=>(KF a).sz,λa=>(KF a).fl,λa=>(KF a).el⟩
def eX:Nat->List Nat->List (Nat×CP)
 |_,[]=>[]
 |i,a::b=>(i,.v a)::eX (i+1) b
def cV(f:Nat)(a b:List Nat)(c:bi BT.D (bY.bX ⟨[],eX 0 a⟩)->Option (bi BT.D (bY.bX ⟨[],eX 0 b⟩))):aq BT:=⟨f,len a,0,⟨[],eX 0 a⟩,⟨[],eX 0 b⟩,c⟩
def C0(a:Lp):aq BT:=cV 8 [22] [4] λb=>I1 a b
def C1(b:Lp):aq BT:=cV 223 [90,3,3] [4] λa=>yQ b a.1 a.2.1 a.2.2
def C2(a:Lp):aq BT:=cV 156 [30] [67] λb=>zG a b
def C3(a:Lp):aq BT:=cV 93 [30] [4] λb=>ij a b
def C4(b:Lp):aq BT:=cV 135 [22,3,3] [4] λa=>iU b a.1 a.2.1 a.2.2
def C5(b:Lp):aq BT:=cV 51 [3,3,3] [4] λa=>cp b a.1 a.2.1 a.2.2
def C6(b:Lp):aq BT:=⟨207,2,0,⟨[],[(0,.v 120),(1,.q [.v 27,.v 28])]⟩,⟨[],[(0,.v 4)]⟩,λa=>wN b a.1 (ak.mk a.2.1 a.2.2)⟩
def C7(b:Lp):aq BT:=⟨267,2,0,⟨[],[(0,.v 32),(1,.f 207 [] [.q [.v 27,.v 28]])]⟩,⟨[],[(0,.v 3)]⟩,λa=>Fh b a.1 (ak.mk a.2.1 a.2.2)⟩
def C8(b:Lp):aq BT:=⟨208,2,0,⟨[],[(0,.v 32),(1,.f 207 [] [.q [.v 27,.v 28]])]⟩,⟨[],[(0,.v 4)]⟩,λa=>El b a.1 (ak.mk a.2.1 a.2.2)⟩
def C9(b:Lp):aq BT:=cV 140 [30,32] [4] λa=>wI b a.1 a.2
def C10(b:Lp):aq BT:=⟨141,2,0,⟨[],[(0,.v 3),(1,.q [.v 27,.v 28])]⟩,⟨[],[(0,.v 4)]⟩,λa=>Ci b a.1 (ak.mk a.2.1 a.2.2)⟩
def Ye(b:Lp):aq BT:=⟨147,2,0,⟨[],[(0,.v 22),(1,.f 141 [] [.q [.v 27,.v 28]])]⟩,⟨[],[(0,.v 3)]⟩,λa=>KC b a.1 (ak.mk a.2.1 a.2.2)⟩
def C12(b:Lp):aq BT:=⟨86,2,0,⟨[],[(0,.v 22),(1,.f 141 [] [.q [.v 27,.v 28]])]⟩,⟨[],[(0,.v 4)]⟩,λa=>Cg b a.1 (ak.mk a.2.1 a.2.2)⟩
def C13(a:Lp):aq BT:=⟨210,1,0,⟨[],[(0,.v 22)]⟩,⟨[(0,[0],.box 22 [.v 22])],[(0,.f 269 [] [.p 0])]⟩,λb=>qK a b⟩
def AW(a:Lp):aq BT:=⟨225,1,1,⟨[(0,[],.rows 3 22)],[(0,.r 0)]⟩,⟨[(100000,[],.rows 3 22)],[]⟩,λb=>rl a b⟩
def C15(a:Lp):aq BT:=⟨308,2,0,⟨[],[(0,.ns),(1,.f 269 [] [.q [.v 22]])]⟩,⟨[(0,[],.rows 3 22)],[(0,.r 0)]⟩,λb=>IA a b⟩
def C16(a:Lp):aq BT:=⟨268,1,0,⟨[],[(0,.f 269 [] [.q [.v 22]])]⟩,⟨[(0,[],.rows 3 22)],[(0,.r 0)]⟩,λb=>Kx a b⟩
def C17(a:Lp):aq BT:=⟨209,1,0,⟨[],[(0,.f 269 [] [.q [.v 22]])]⟩,⟨[(0,[],.rows 3 22)],[(0,.r 0)]⟩,λb=>rG a b⟩
def C18(a:Lp):aq BT:=cV 142 [22] [4] λb=>ym a b
def RL(a:Lp):aq BT:=cV 96 [27] [27] λb=>kF a b
def Mq(a:Lp):aq BT:=cV 97 [28] [28] λb=>kQ a b
def Pv(a:Lp):aq BT:=cV 211 [31] [31] λb=>rf a b
def PI(a:Lp):aq BT:=cV 99 [22] [22] λb=>cc a b
def C23(a:Lp):aq BT:=cV 143 [35] [35] λb=>yS a b
def Xu(b:Lp):aq BT:=cV 83 [30,32,22,22,3] [35,67] λa=>Ef b a.1 a.2.1 a.2.2.1 a.2.2.2.1 a.2.2.2.2
def C25(a:Lp):aq BT:=cV 213 [90] [4] λb=>EP a b
def C26(a:Lp):aq BT:=⟨270,2,0,⟨[],[(0,.v 36),(1,.f 213 [] [])]⟩,⟨[],[(0,.v 3)]⟩,λb=>Kq a b⟩
def C27(a:Lp):aq BT:=⟨212,2,0,⟨[],[(0,.v 36),(1,.f 213 [] [])]⟩,⟨[],[(0,.v 4)]⟩,λb=>B8 a b⟩
def C28(b:Lp):aq BT:=cV 144 [30,36] [4] λa=>pD b a.1 a.2
def Wx(b:Lp):aq BT:=cV 272 [179,179] [179,179] λa=>vk b a.1 a.2
def C30(b:Lp):aq BT:=cV 214 [181,181] [181,181] λa=>DJ b a.1 a.2
def C31(b:Lp):aq BT:=cV 145 [22,3] [22] λa=>EC b a.1 a.2
def ZB(b:Lp):aq BT:=⟨145,2,0,⟨[],[(0,.v 22),(1,.v 3)]⟩,⟨[(0,[],.rows 3 22)],[(0,.r 0)]⟩,λa=>sJ b a.1 a.2⟩
def C33(b:Lp):aq BT:=cV 242 [30,3,90,4] [3] λa=>n6 b a.1 a.2.1 a.2.2.1 a.2.2.2
def C34(b:Lp):aq BT:=⟨215,5,1,⟨[(0,[3],.rows 3 22)],[(0,.g [.v 27,.v 28,.v 36,.r 0]),(1,.v 3),(2,.v 3),(3,.v 3),(4,.v 4)]⟩,⟨[(100000,[],.rows 3 22)],[(0,.v 4)]⟩,λa=>yr b a.1 a.2.1 a.2.2.1 a.2.2.2.1 a.2.2.2.2.1 a.2.2.2.2.2.1 a.2.2.2.2.2.2.1 a.2.2.2.2.2.2.2⟩
def C35(b:Lp):aq BT:=⟨146,1,1,⟨[(0,[3],.rows 3 22)],[(0,.g [.v 27,.v 28,.v 36,.r 0])]⟩,⟨[(100000,[],.rows 3 22)],[]⟩,λa=>rM b a.1 a.2.1 a.2.2.1 a.2.2.2⟩
def C36(b:Lp):aq BT:=cV 84 [30,36,22,3] [48,67] λa=>Eh b a.1 a.2.1 a.2.2.1 a.2.2.2
def C37(b:Lp):aq BT:=cV 70 [30,38] [4] λa=>rP b a.1 a.2
def C38(b:Lp):aq BT:=cV 85 [40,52] [4] λa=>oT b a.1 a.2
def C39(b:Lp):aq BT:=⟨87,2,0,⟨[],[(0,.v 3),(1,.q [.v 27,.v 28])]⟩,⟨[],[(0,.v 4)]⟩,λa=>zm b a.1 (ak.mk a.2.1 a.2.2)⟩
def C40(b:Lp):aq BT:=⟨147,2,0,⟨[],[(0,.v 22),(1,.f 87 [] [.q [.v 27,.v 28]])]⟩,⟨[],[(0,.v 3)]⟩,λa=>Ak b a.1 (ak.mk a.2.1 a.2.2)⟩
def C41(b:Lp):aq BT:=⟨86,2,0,⟨[],[(0,.v 22),(1,.f 87 [] [.q [.v 27,.v 28]])]⟩,⟨[],[(0,.v 4)]⟩,λa=>zi b a.1 (ak.mk a.2.1 a.2.2)⟩
def C42(a:Lp):aq BT:=cV 148 [22] [4] λb=>xa a b
def Vx(a:Lp):aq BT:=cV 88 [22] [50,67] λb=>AQ a b
def C44(a:Lp):aq BT:=cV 149 [22] [4] λb=>AI a b
def C45(a:Lp):aq BT:=⟨216,1,0,⟨[],[(0,.v 30)]⟩,⟨[(0,[],.rows 3 22)],[(0,.r 0)]⟩,λb=>yF a b⟩
def YG(a:Lp):aq BT:=cV 330 [] [222] λb=>G5 a
def C47(b:Lp):aq BT:=cV 137 [30,3,4,222] [3] λa=>xu b a.1 a.2.1 a.2.2.1 a.2.2.2
def Ux(b:Lp):aq BT:=cV 309 [30,3,4] [3] λa=>FX b a.1 a.2.1 a.2.2
def C49(b:Lp):aq BT:=cV 276 [30,3,4] [3] λa=>rO b a.1 a.2.1 a.2.2
def C50(a:Lp):aq BT:=⟨218,1,0,⟨[],[(0,.v 3)]⟩,⟨[],[(0,.b true)]⟩,λb=>KJ a b⟩
def Xk(b:Lp):aq BT:=⟨274,7,3,⟨[(4,[0],.rows 3 22),(4,[],.box 22 [.r 0]),(6,[],.box 4 [.v 4])],[(0,.v 3),(1,.v 3),(2,.v 3),(3,.q [.v 3]),(4,.p 1),(5,.q [.f 218 [] []]),(6,.p 2)]⟩,⟨[(100000,[],.rows 3 22),(100001,[],.box 22 [.r 0]),(100002,[],.box 4 [.v 4])],[]⟩,λa=>CB b a.1 a.2.1 a.2.2.1 a.2.2.2.1 a.2.2.2.2.1 a.2.2.2.2.2⟩
def OB(a:Lp):aq BT:=⟨99,1,0,⟨[],[(0,.v 22)]⟩,⟨[(0,[],.rows 3 22)],[(0,.r 0)]⟩,λb=>cc a b⟩
def C53(b:Lp):aq BT:=⟨273,3,3,⟨[(2,[1,0],.rows 3 22),(2,[1],.box 22 [.r 0]),(2,[3],.box 4 [.v 4])],[(0,.v 30),(1,.r 0),(2,.f 274 [] [.q [.v 3],.p 1,.q [.f 218 [] []],.p 2])]⟩,⟨[(100000,[],.rows 3 22),(100001,[],.box 22 [.r 0]),(100002,[],.box 4 [.v 4])],[]⟩,λa=>yf b a.1 a.2.1 a.2.2.1 a.2.2.2⟩
def Up(b:Lp):aq BT:=⟨217,4,0,⟨[],[(0,.v 30),(1,.v 22),(2,.v 3),(3,.f 218 [] [])]⟩,⟨[],[(0,.v 22)]⟩,λa=>ze b a.1 a.2.1 a.2.2⟩
def C55(b:Lp):aq BT:=⟨217,4,0,⟨[],[(0,.v 30),(1,.v 22),(2,.v 3),(3,.f 218 [] [])]⟩,⟨[(0,[],.rows 3 22)],[(0,.r 0)]⟩,λa=>sI b a.1 a.2.1 a.2.2⟩
def C56(b:Lp):aq BT:=cV 150 [30,3,3] [142,67] λa=>Cr b a.1 a.2.1 a.2.2
def C57(b:Lp):aq BT:=cV 89 [30,22,22,3] [46,67] λa=>Bk b a.1 a.2.1 a.2.2.1 a.2.2.2
def C58(a:Lp):aq BT:=cV 90 [] [43] λb=>DL a
def P59:bY:=⟨[],[(0,.v 3),(1,.q [.v 27,.v 28,.v 3,.v 31,.v 22,.v 32,.v 22,.v 22,.v 33]),(2,.q [.v 3])]⟩
def C59(b:Lp):aq BT:=⟨152,3,0,P59,⟨[],[(0,.v 4)]⟩,λa=>Ao b (agv a) (alg a) (aqn a)⟩
def P60:bY:=⟨[],[(0,.v 22),(1,.f 152 [] [.q [.v 27,.v 28,.v 3,.v 31,.v 22,.v 32,.v 22,.v 22,.v 33],.q [.v 3]])]⟩
def C60(b:Lp):aq BT:=⟨147,2,0,P60,⟨[],[(0,.v 3)]⟩,λa=>Iq b (Lm a) (Nn a) (Mw a)⟩
def VP:bY:=⟨[],[(0,.v 22),(1,.f 152 [] [.q [.v 27,.v 28,.v 3,.v 31,.v 22,.v 32,.v 22,.v 22,.v 33],.q [.v 3]])]⟩
def C61(b:Lp):aq BT:=⟨86,2,0,VP,⟨[],[(0,.v 4)]⟩,λa=>BW b (Lm a) (Nn a) (Mw a)⟩
def C62(b:Lp):aq BT:=cV 222 [30,3,3] [3] λa=>yM b a.1 a.2.1 a.2.2
def X9(b:Lp):aq BT:=cV 155 [30,88] [4] λa=>BS b a.1 a.2
def P64:bY:=⟨[],[(0,.v 88),(1,.q [.v 27,.v 28,.v 3,.v 31,.v 22,.v 32,.v 22,.v 22,.v 33])]⟩
def C64(b:Lp):aq BT:=⟨154,2,0,P64,⟨[],[(0,.v 4)]⟩,λa=>DB b (af1 a) (ak0 a)⟩
def P65:bY:=⟨[],[(0,.v 31),(1,.f 154 [] [.q [.v 27,.v 28,.v 3,.v 31,.v 22,.v 32,.v 22,.v 22,.v 33]])]⟩
def C65(b:Lp):aq BT:=⟨221,2,0,P65,⟨[],[(0,.v 3)]⟩,λa=>Gd b (Mf a) (T7 a)⟩
def P66:bY:=⟨[],[(0,.v 31),(1,.f 154 [] [.q [.v 27,.v 28,.v 3,.v 31,.v 22,.v 32,.v 22,.v 22,.v 33]])]⟩
def C66(b:Lp):aq BT:=⟨153,2,0,P66,⟨[],[(0,.v 4)]⟩,λa=>zH b (Mf a) (T7 a)⟩
def Kf(a:Lp):aq BT:=cV 92 [35] [4] λb=>pV a b
def Xw(b:Lp):aq BT:=cV 159 [30,3,3] [3] λa=>CX b a.1 a.2.1 a.2.2
def C69(a:Lp):aq BT:=⟨211,1,0,⟨[],[(0,.v 31)]⟩,⟨[(0,[],.rows 88 31)],[(0,.r 0)]⟩,λb=>rf a b⟩
def Q70:bY:=⟨[(0,[3],.rows 88 31)],[(0,.g [.v 27,.v 28,.v 3,.r 0,.v 22,.v 32,.v 22,.v 22,.v 33])]⟩
def C70(a:Lp):aq BT:=⟨143,1,0,⟨[],[(0,.v 35)]⟩,Q70,λb=>yC a b⟩
def C71(b:Lp):aq BT:=cV 95 [35,3] [35,67] λa=>qp b a.1 a.2
def C72(a:Lp):aq BT:=cV 98 [36] [36] λb=>q9 a b
def C73(a:Lp):aq BT:=cV 100 [41] [41] λb=>ry a b
def Xj(a:Lp):aq BT:=cV 160 [140] [140] λb=>oM a b
def C75(a:Lp):aq BT:=cV 101 [46] [46] λb=>pf a b
def C76(a:Lp):aq BT:=cV 102 [53] [53] λb=>pI a b
def C77(a:Lp):aq BT:=cV 44 [56] [56] λb=>wc a b
def C78(b:Lp):aq BT:=cV 36 [30,32,22,22,36,38,40,22] [56,67] λa=>wX b a.1 a.2.1 a.2.2.1 a.2.2.2.1 a.2.2.2.2.1 a.2.2.2.2.2.1 a.2.2.2.2.2.2.1 a.2.2.2.2.2.2.2
def C79(a:Lp):aq BT:=cV 157 [3] [4] λb=>zz a b
def C80(a:Lp):aq BT:=⟨147,2,0,⟨[],[(0,.v 22),(1,.f 157 [] [])]⟩,⟨[],[(0,.v 3)]⟩,λb=>F6 a b⟩
def C81(a:Lp):aq BT:=⟨86,2,0,⟨[],[(0,.v 22),(1,.f 157 [] [])]⟩,⟨[],[(0,.v 4)]⟩,λb=>zw a b⟩
def C82(a:Lp):aq BT:=cV 224 [3] [4] λb=>CE a b
def Z5(a:Lp):aq BT:=⟨147,2,0,⟨[],[(0,.v 22),(1,.f 224 [] [])]⟩,⟨[],[(0,.v 3)]⟩,λb=>JN a b⟩
def C84(a:Lp):aq BT:=⟨86,2,0,⟨[],[(0,.v 22),(1,.f 224 [] [])]⟩,⟨[],[(0,.v 4)]⟩,λb=>IU a b⟩
def Wg(a:Lp):aq BT:=cV 158 [50] [4] λb=>yh a b
def C86(a:Lp):aq BT:=cV 94 [50] [4] λb=>oL a b
def C87(a:Lp):aq BT:=cV 43 [56] [4] λb=>zj a b
def FZ(a:Lp):aq BT:=cV 45 [3] [134] λb=>Ml a b
def C89(a:Lp):aq BT:=cV 161 [50] [22] λb=>yA a b
def C90(b:Lp):aq BT:=cV 136 [22,3] [3] λa=>to b a.1 a.2
def Fz(b:Lp):aq BT:=cV 76 [22,3] [4] λa=>im b a.1 a.2
def lT(b:Lp):aq BT:=cV 226 [35,22] [67] λa=>wv b a.1 a.2
def C93(b:Lp):aq BT:=cV 162 [35,3,3,3] [35,67] λa=>B1 b a.1 a.2.1 a.2.2.1 a.2.2.2
def nD(b:Lp):aq BT:=cV 163 [35,3,3,3] [35,101,67] λa=>jO b a.1 a.2.1 a.2.2.1 a.2.2.2
def C95(a:Lp):aq BT:=⟨100,1,0,⟨[],[(0,.v 41)]⟩,⟨[(0,[],.rows 101 41)],[(0,.r 0)]⟩,λb=>zp a b⟩
def JX(a:Lp):aq BT:=cV 78 [101] [4] λb=>lQ a b
def C97(b:Lp):aq BT:=⟨79,3,0,⟨[(0,[],.rows 5 95)],[(0,.r 0),(1,.v 179),(2,.v 3)]⟩,⟨[(0,[],.rows 5 95)],[(0,.r 0)]⟩,λa=>py b a.1 a.2.1 a.2.2⟩
def C98(a:Lp):aq BT:=cV 30 [101] [97,67] λb=>Ex a b
def Ks(a:Lp):aq BT:=cV 81 [95] [179] λb=>jQ a b
def H7(b:Lp):aq BT:=⟨82,2,0,⟨[],[(0,.v 95),(1,.v 3)]⟩,⟨[(0,[0],.box 95 [.v 95]),(0,[1],.box 3 [.v 3])],[(0,.f 139 [] [.p 0,.p 1])]⟩,λa=>vE b a.1 a.2⟩
def kq(a:Lp):aq BT:=cV 34 [97] [101,67] λb=>zD a b
def Xc(a:Lp):aq BT:=cV 279 [3] [4] λb=>Ap a b
def adu(a:Lp):aq BT:=⟨147,2,0,⟨[],[(0,.v 22),(1,.f 279 [] [])]⟩,⟨[],[(0,.v 3)]⟩,λb=>GR a b⟩
def ai3(a:Lp):aq BT:=⟨86,2,0,⟨[],[(0,.v 22),(1,.f 279 [] [])]⟩,⟨[],[(0,.v 4)]⟩,λb=>Am a b⟩
def Z9(a:Lp):aq BT:=cV 280 [3] [4] λb=>Dd a b
def afS(a:Lp):aq BT:=⟨147,2,0,⟨[],[(0,.v 22),(1,.f 280 [] [])]⟩,⟨[],[(0,.v 3)]⟩,λb=>JV a b⟩
def aln(a:Lp):aq BT:=⟨86,2,0,⟨[],[(0,.v 22),(1,.f 280 [] [])]⟩,⟨[],[(0,.v 4)]⟩,λb=>CZ a b⟩
def Uu(a:Lp):aq BT:=cV 227 [43] [4] λb=>zY a b
def aif(b:Lp):aq BT:=cV 164 [43,101] [43,67] λa=>CT b a.1 a.2
def anP(b:Lp):aq BT:=cV 165 [32,101] [247,67] λa=>Bl b a.1 a.2
def Xe:bY:=⟨[],[(0,.q [.v 27,.v 28,.v 3,.v 31,.v 22,.v 32,.v 22,.v 22,.v 33,.v 27,.v 28,.v 36,.v 22,.v 22,.v 22,.v 3,.v 22,.v 3,.v 3,.v 41,.v 41,.v 22,.v 22,.v 44,.v 3,.v 22,.v 22,.v 22,.v 4,.v 3,.v 3,.v 3,.v 3,.v 44,.v 53,.v 54,.v 22])]⟩
def acZ(a:Lp):aq BT:=⟨169,1,0,Xe,⟨[],[(0,.v 3)]⟩,λb=>fP a (I0 b)⟩
def IP(b:Lp):aq BT:=cV 196 [22,22] [4] λa=>qG b a.1 a.2
def ZA(a:Lp):aq BT:=cV 336 [3] [4] λb=>DR a b
def afj(a:Lp):aq BT:=⟨147,2,0,⟨[],[(0,.v 22),(1,.f 336 [] [])]⟩,⟨[],[(0,.v 3)]⟩,λb=>GG a b⟩
def akW(a:Lp):aq BT:=⟨86,2,0,⟨[],[(0,.v 22),(1,.f 336 [] [])]⟩,⟨[],[(0,.v 4)]⟩,λb=>zZ a b⟩
def ab7(b:Lp):aq BT:=cV 323 [30,142] [4] λa=>ur b a.1 a.2
def ahK(b:Lp):aq BT:=cV 290 [30,142] [4] λa=>n7 b a.1 a.2
def ane(b:Lp):aq BT:=⟨289,2,0,⟨[],[(0,.v 142),(1,.q [.v 27,.v 28])]⟩,⟨[],[(0,.v 4)]⟩,λa=>Ld b a.1 (ak.mk a.2.1 a.2.2)⟩
def WA(b:Lp):aq BT:=⟨300,2,0,⟨[],[(0,.v 138),(1,.f 289 [] [.q [.v 27,.v 28]])]⟩,⟨[],[(0,.v 3)]⟩,λa=>FJ b a.1 (ak.mk a.2.1 a.2.2)⟩
def aiv(b:Lp):aq BT:=⟨248,2,0,⟨[],[(0,.v 138),(1,.f 289 [] [.q [.v 27,.v 28]])]⟩,⟨[],[(0,.v 4)]⟩,λa=>E5 b a.1 (ak.mk a.2.1 a.2.2)⟩
def ZD(a:Lp):aq BT:=cV 307 [3] [4] λb=>Cl a b
def afm(b:Lp):aq BT:=cV 266 [3,3] [3] λa=>uE b a.1 a.2
def akZ(b:Lp):aq BT:=cV 288 [22,22] [3] λa=>sL b a.1 a.2
def aca(b:Lp):aq BT:=cV 235 [30,46] [4] λa=>p8 b a.1 a.2
def ahM(b:Lp):aq BT:=cV 281 [30,142,22,3,3] [67] λa=>vY b a.1 a.2.1 a.2.2.1 a.2.2.2.1 a.2.2.2.2
def ani(b:Lp):aq BT:=cV 230 [30,142,22,3,3] [142,67] λa=>yX b a.1 a.2.1 a.2.2.1 a.2.2.2.1 a.2.2.2.2
def HG(a:Lp):aq BT:=⟨160,1,0,⟨[],[(0,.v 140)]⟩,⟨[(0,[1],.rows 142 138)],[(0,.g [.v 22,.r 0])]⟩,λb=>mH a b⟩
def aj2(b:Lp):aq BT:=⟨229,5,4,⟨[(1,[],.box 30 [.v 27,.v 28]),(2,[],.box 22 [.v 22]),(3,[],.box 3 [.v 3]),(4,[],.box 3 [.v 3])],[(0,.v 142),(1,.p 0),(2,.p 1),(3,.p 2),(4,.p 3)]⟩,⟨[(100000,[],.box 30 [.v 27,.v 28]),(100001,[],.box 22 [.v 22]),(100002,[],.box 3 [.v 3]),(100003,[],.box 3 [.v 3])],[(0,.v 142),(1,.v 67)]⟩,λa=>JT b (ak.mk a.1 a.2.1) a.2.2.1 a.2.2.2.1 a.2.2.2.2.1 a.2.2.2.2.2⟩
def apN(b:Lp):aq BT:=⟨228,4,4,⟨[(3,[0],.box 30 [.v 27,.v 28]),(3,[1],.box 22 [.v 22]),(3,[2],.box 3 [.v 3]),(3,[3],.box 3 [.v 3])],[(0,.v 30),(1,.v 46),(2,.v 3),(3,.f 229 [] [.p 0,.p 1,.p 2,.p 3])]⟩,⟨[(100000,[],.box 30 [.v 27,.v 28]),(100001,[],.box 22 [.v 22]),(100002,[],.box 3 [.v 3]),(100003,[],.box 3 [.v 3])],[(0,.v 46),(1,.v 67)]⟩,λa=>I3 b (ak.mk a.1 a.2.1) a.2.2.1 a.2.2.2.1 a.2.2.2.2.1 a.2.2.2.2.2.1 a.2.2.2.2.2.2.1 a.2.2.2.2.2.2.2⟩
def ZF(b:Lp):aq BT:=cV 168 [30,46,3,22,3,3] [46,67] λa=>CS b a.1 a.2.1 a.2.2.1 a.2.2.2.1 a.2.2.2.2.1 a.2.2.2.2.2
def aml:bY:=⟨[],[(0,.q [.v 27,.v 28,.v 3,.v 31,.v 22,.v 32,.v 22,.v 22,.v 33,.v 27,.v 28,.v 36,.v 22,.v 22,.v 22,.v 3,.v 22,.v 3,.v 3,.v 41,.v 41,.v 22,.v 22,.v 44,.v 3,.v 22,.v 22,.v 22,.v 4,.v 3,.v 3,.v 3,.v 3,.v 44,.v 53,.v 54,.v 22])]⟩
def aki(a:Lp):aq BT:=⟨173,1,0,aml,⟨[],[(0,.v 4)]⟩,λb=>ra a (I0 b)⟩
def abt(a:Lp):aq BT:=⟨97,1,0,⟨[],[(0,.v 28)]⟩,⟨[(0,[],.rows 115 28)],[(0,.r 0)]⟩,λb=>kQ a b⟩
def acb(b:Lp):aq BT:=cV 240 [30,22] [30,67] λa=>sW b a.1 a.2
def aoO(a:Lp):aq BT:=⟨96,1,0,⟨[],[(0,.v 27)]⟩,⟨[(0,[],.rows 117 27)],[(0,.r 0)]⟩,λb=>kF a b⟩
def apu(b:Lp):aq BT:=⟨240,2,0,⟨[],[(0,.v 30),(1,.v 22)]⟩,⟨[(0,[0],.rows 117 27),(0,[1],.rows 115 28)],[(0,.g [.r 0,.r 1]),(1,.v 67)]⟩,λa=>vU b a.1 a.2⟩
def agE:bY:=⟨[],[(0,.q [.v 27,.v 28,.v 3,.v 31,.v 22,.v 32,.v 22,.v 22,.v 33,.v 27,.v 28,.v 36,.v 22,.v 22,.v 22,.v 3,.v 22,.v 3,.v 3,.v 41,.v 41,.v 22,.v 22,.v 44,.v 3,.v 22,.v 22,.v 22,.v 4,.v 3,.v 3,.v 3,.v 3,.v 44,.v 53,.v 54,.v 22])]⟩
def aez(a:Lp):aq BT:=⟨174,1,0,agE,⟨[(0,[0],.rows 117 27),(0,[1],.rows 115 28)],[(0,.g [.r 0,.r 1])]⟩,λb=>mT a (I0 b)⟩
def Uz(a:Lp):aq BT:=cV 283 [101] [4] λb=>Ai a b
def abd(a:Lp):aq BT:=⟨321,2,0,⟨[],[(0,.v 41),(1,.f 283 [] [])]⟩,⟨[],[(0,.v 3)]⟩,λb=>GJ a b⟩
def agV(a:Lp):aq BT:=⟨282,2,0,⟨[],[(0,.v 41),(1,.f 283 [] [])]⟩,⟨[],[(0,.v 4)]⟩,λb=>Ad a b⟩
def Xm(b:Lp):aq BT:=⟨284,5,5,⟨[(0,[],.box 41 [.v 41]),(1,[],.box 120 [.v 22,.v 3,.v 3,.v 3]),(2,[],.box 309 [.r 5]),(3,[],.box 3 [.v 3]),(4,[],.box 3 [.v 3]),(2,[0],.rows 312 309)],[(0,.p 0),(1,.p 1),(2,.p 2),(3,.p 3),(4,.p 4)]⟩,⟨[(100000,[],.box 41 [.v 41]),(100001,[],.box 120 [.v 22,.v 3,.v 3,.v 3]),(100002,[],.box 309 [.v 309]),(100003,[],.box 3 [.v 3]),(100004,[],.box 3 [.v 3])],[]⟩,λa=>xD b (Q0 a) (Qc a) (R8 a) (Rc a) (Tj a)⟩
def adF(b:Lp):aq BT:=cV 285 [120,101,101] [4] λa=>xH b a.1 a.2.1 a.2.2
def ajb:bY:=⟨[(100000,[],.rows 101 41),(100001,[],.box 41 [.r 6]),(100002,[],.box 120 [.v 22,.v 3,.v 3,.v 3]),(100003,[],.box 309 [.r 7]),(100004,[],.box 3 [.v 3]),(100005,[],.box 3 [.v 3]),(100001,[0],.rows 101 41),(100003,[0],.rows 312 309)],[]⟩
def an9(b:Lp):aq BT:=⟨284,5,6,⟨[(0,[0],.rows 101 41),(0,[],.box 41 [.r 0]),(1,[],.box 120 [.v 22,.v 3,.v 3,.v 3]),(2,[],.box 309 [.r 6]),(3,[],.box 3 [.v 3]),(4,[],.box 3 [.v 3]),(2,[0],.rows 312 309)],[(0,.p 1),(1,.p 2),(2,.p 3),(3,.p 4),(4,.p 5)]⟩,ajb,λa=>yG b (Q0 a) (Qc a) (R8 a) (Rc a) (Tj a)⟩
def X2(b:Lp):aq BT:=cV 231 [32,3,3,41] [309,67] λa=>xp b a.1 a.2.1 a.2.2.1 a.2.2.2
def ad1(a:Lp):aq BT:=cV 234 [120] [3] λb=>Dh a b
def aqG(b:Lp):aq BT:=⟨322,2,0,⟨[],[(0,.v 3),(1,.q [.v 22])]⟩,⟨[],[(0,.v 4)]⟩,λa=>Gs b a.1 a.2⟩
def aaz(b:Lp):aq BT:=⟨274,7,3,⟨[(4,[0],.rows 3 22),(4,[],.box 22 [.r 0]),(6,[],.box 4 [.v 4])],[(0,.v 3),(1,.v 3),(2,.v 3),(3,.q [.v 3]),(4,.p 1),(5,.q [.f 322 [] [.q [.v 22]]]),(6,.p 2)]⟩,⟨[(100000,[],.rows 3 22),(100001,[],.box 22 [.r 0]),(100002,[],.box 4 [.v 4])],[]⟩,λa=>DD b a.1 a.2.1 a.2.2.1 a.2.2.2.1 a.2.2.2.2.1 a.2.2.2.2.2.1 a.2.2.2.2.2.2⟩
def agm(b:Lp):aq BT:=⟨273,3,3,⟨[(2,[1,0],.rows 3 22),(2,[1],.box 22 [.r 0]),(2,[3],.box 4 [.v 4])],[(0,.v 30),(1,.r 0),(2,.f 274 [] [.q [.v 3],.p 1,.q [.f 322 [] [.q [.v 22]]],.p 2])]⟩,⟨[(100000,[],.rows 3 22),(100001,[],.box 22 [.r 0]),(100002,[],.box 4 [.v 4])],[]⟩,λa=>Bj b a.1 a.2.1 a.2.2.1 a.2.2.2.1 a.2.2.2.2⟩
def WE(b:Lp):aq BT:=⟨217,4,0,⟨[],[(0,.v 30),(1,.v 22),(2,.v 3),(3,.f 322 [] [.q [.v 22]])]⟩,⟨[(0,[],.rows 3 22)],[(0,.r 0)]⟩,λa=>Ay b a.1 a.2.1 a.2.2.1 a.2.2.2⟩
def ac6(b:Lp):aq BT:=cV 287 [30,142,22,3,3,3] [142,67] λa=>wV b a.1 a.2.1 a.2.2.1 a.2.2.2.1 a.2.2.2.2.1 a.2.2.2.2.2
def aiE(b:Lp):aq BT:=⟨286,6,5,⟨[(1,[],.box 30 [.v 27,.v 28]),(2,[],.box 22 [.v 22]),(3,[],.box 3 [.v 3]),(4,[],.box 3 [.v 3]),(5,[],.box 3 [.v 3])],[(0,.v 142),(1,.p 0),(2,.p 1),(3,.p 2),(4,.p 3),(5,.p 4)]⟩,⟨[(100000,[],.box 30 [.v 27,.v 28]),(100001,[],.box 22 [.v 22]),(100002,[],.box 3 [.v 3]),(100003,[],.box 3 [.v 3]),(100004,[],.box 3 [.v 3])],[(0,.v 142),(1,.v 67)]⟩,λa=>Io b (ak.mk a.1 a.2.1) a.2.2.1 a.2.2.2.1 a.2.2.2.2.1 a.2.2.2.2.2.1 a.2.2.2.2.2.2⟩
def ZK:bY:=⟨[(3,[0],.box 30 [.v 27,.v 28]),(3,[1],.box 22 [.v 22]),(3,[2],.box 3 [.v 3]),(3,[3],.box 3 [.v 3]),(3,[4],.box 3 [.v 3])],[(0,.v 30),(1,.v 46),(2,.v 3),(3,.f 286 [] [.p 0,.p 1,.p 2,.p 3,.p 4])]⟩
def WU(b:Lp):aq BT:=⟨228,4,5,ZK,⟨[(100000,[],.box 30 [.v 27,.v 28]),(100001,[],.box 22 [.v 22]),(100002,[],.box 3 [.v 3]),(100003,[],.box 3 [.v 3]),(100004,[],.box 3 [.v 3])],[(0,.v 46),(1,.v 67)]⟩,λa=>Hu b (ak.mk a.1 a.2.1) a.2.2.1 a.2.2.2.1 a.2.2.2.2.1 a.2.2.2.2.2.1 a.2.2.2.2.2.2.1 a.2.2.2.2.2.2.2.1 a.2.2.2.2.2.2.2.2⟩
def adl(b:Lp):aq BT:=cV 233 [30,46,3,22,3,3,3] [46,67] λa=>Bq b a.1 a.2.1 a.2.2.1 a.2.2.2.1 a.2.2.2.2.1 a.2.2.2.2.2.1 a.2.2.2.2.2.2
def ap4:bY:=⟨[(2,[],.box 3 [.v 3]),(3,[],.box 120 [.v 22,.v 3,.v 3,.v 3]),(4,[],.box 312 [.v 3,.v 3,.v 3,.v 3]),(5,[],.box 3 [.v 3])],[(0,.v 30),(1,.v 46),(2,.p 0),(3,.p 1),(4,.p 2),(5,.p 3)]⟩
def anL:bY:=⟨[(100000,[],.box 3 [.v 3]),(100001,[],.box 120 [.v 22,.v 3,.v 3,.v 3]),(100002,[],.box 312 [.v 3,.v 3,.v 3,.v 3]),(100003,[],.box 3 [.v 3])],[(0,.v 46),(1,.v 67)]⟩
def Wu(b:Lp):aq BT:=⟨232,6,4,ap4,anL,λa=>uQ b (acS a) (aay a) (afC a) (akx a) (aim a) (ank a)⟩
def mG(b:Lp):aq BT:=cV 171 [35,3,3] [35,67] λa=>oX b a.1 a.2.1 a.2.2
def akC(b:Lp):aq BT:=⟨206,3,0,⟨[],[(0,.v 3),(1,.q [.v 3,.v 22]),(2,.q [.v 3])]⟩,⟨[],[(0,.v 4)]⟩,λa=>Dw b a.1 (aM.mk a.2.1 a.2.2.1) a.2.2.2⟩
def aqf(b:Lp):aq BT:=⟨46,2,0,⟨[],[(0,.v 3),(1,.f 206 [] [.q [.v 3,.v 22],.q [.v 3]])]⟩,⟨[(0,[],.rows 3 22)],[(0,.r 0)]⟩,λa=>HL b a.1 (aM.mk a.2.1 a.2.2.1) a.2.2.2⟩
def ahy(b:Lp):aq BT:=cV 132 [142,3] [22] λa=>su b a.1 a.2
def amV(b:Lp):aq BT:=⟨291,2,0,⟨[],[(0,.v 3),(1,.q [.v 22])]⟩,⟨[],[(0,.v 4)]⟩,λa=>zO b a.1 a.2⟩
def Wj(b:Lp):aq BT:=⟨147,2,0,⟨[],[(0,.v 22),(1,.f 291 [] [.q [.v 22]])]⟩,⟨[],[(0,.v 3)]⟩,λa=>Iw b a.1 a.2⟩
def ajO(b:Lp):aq BT:=⟨86,2,0,⟨[],[(0,.v 22),(1,.f 291 [] [.q [.v 22]])]⟩,⟨[],[(0,.v 4)]⟩,λa=>B3 b a.1 a.2⟩
def apj(b:Lp):aq BT:=cV 237 [142,142,3] [4] λa=>EE b a.1 a.2.1 a.2.2
def Zp(b:Lp):aq BT:=cV 238 [142,3] [142,67] λa=>xc b a.1 a.2
def ae9(a:Lp):aq BT:=⟨160,1,0,⟨[],[(0,.v 140)]⟩,⟨[(0,[0],.rows 3 22),(0,[1],.rows 142 138)],[(0,.g [.r 0,.r 1])]⟩,λb=>Ac a b⟩
def Vb(a:Lp):aq BT:=⟨236,1,0,⟨[],[(0,.v 44)]⟩,⟨[(0,[],.rows 140 44)],[(0,.r 0)]⟩,λb=>Ke a b⟩
def Hy(b:Lp):aq BT:=cV 295 [142,142] [142,67] λa=>xW b a.1 a.2
def ajx(b:Lp):aq BT:=cV 294 [140,140] [3] λa=>IK b a.1 a.2
def ao7(b:Lp):aq BT:=⟨342,4,1,⟨[(0,[],.rows 140 44)],[(0,.r 0),(1,.v 3),(2,.v 3),(3,.f 294 [] [])]⟩,⟨[(100000,[],.rows 140 44)],[]⟩,λa=>xn b a.1 a.2.1 a.2.2⟩
def Zd(b:Lp):aq BT:=⟨338,3,1,⟨[(0,[],.rows 140 44)],[(0,.r 0),(1,.v 3),(2,.f 294 [] [])]⟩,⟨[(100000,[],.rows 140 44)],[]⟩,λa=>Je b a.1 a.2⟩
def alM(a:Lp):aq BT:=⟨325,2,1,⟨[(0,[],.rows 140 44)],[(0,.r 0),(1,.f 294 [] [])]⟩,⟨[(100000,[],.rows 140 44)],[]⟩,λb=>GP a b⟩
def U0(a:Lp):aq BT:=⟨337,2,0,⟨[],[(0,.ns),(1,.f 326 [] [.q [.v 44]])]⟩,⟨[(0,[],.rows 140 44)],[(0,.r 0)]⟩,λb=>JY a b⟩
def adP(a:Lp):aq BT:=⟨324,1,0,⟨[],[(0,.f 326 [] [.q [.v 44]])]⟩,⟨[(0,[],.rows 140 44)],[(0,.r 0)]⟩,λb=>FQ a b⟩
def xI(a:Lp):aq BT:=⟨292,2,0,⟨[],[(0,.f 326 [] [.q [.v 44]]),(1,.f 294 [] [])]⟩,⟨[],[(0,.v 44)]⟩,λb=>uv a b⟩
def uY(a:Lp):aq BT:=cV 239 [44] [44] λb=>yK a b
def aa5(b:Lp):aq BT:=cV 172 [30,46,3,3,3] [46,67] λa=>yY b a.1 a.2.1 a.2.2.1 a.2.2.2.1 a.2.2.2.2
def agN(b:Lp):aq BT:=⟨296,2,0,⟨[],[(0,.v 3),(1,.q [.v 3,.v 22])]⟩,⟨[],[(0,.v 4)]⟩,λa=>DV b a.1 (bQ.mk a.2.1 a.2.2)⟩
def Xf(b:Lp):aq BT:=⟨147,2,0,⟨[],[(0,.v 22),(1,.f 296 [] [.q [.v 3,.v 22]])]⟩,⟨[],[(0,.v 3)]⟩,λa=>GH b a.1 (bQ.mk a.2.1 a.2.2)⟩
def ady(b:Lp):aq BT:=⟨86,2,0,⟨[],[(0,.v 22),(1,.f 296 [] [.q [.v 3,.v 22]])]⟩,⟨[],[(0,.v 4)]⟩,λa=>Ab b a.1 (bQ.mk a.2.1 a.2.2)⟩
def ai6(b:Lp):aq BT:=cV 241 [30,48] [4] λa=>wB b a.1 a.2
def aag(b:Lp):aq BT:=cV 175 [30,36,30,36,48,3] [48,67] λa=>uk b a.1 a.2.1 a.2.2.1 a.2.2.2.1 a.2.2.2.2.1 a.2.2.2.2.2
def aao(b:Lp):aq BT:=⟨84,4,0,⟨[],[(0,.v 30),(1,.v 36),(2,.v 22),(3,.v 3)]⟩,⟨[(0,[1],.rows 3 22)],[(0,.g [.v 3,.r 0]),(1,.v 67)]⟩,λa=>EX b a.1 a.2.1 a.2.2.1 a.2.2.2⟩
def agb(a:Lp):aq BT:=cV 204 [75] [4] λb=>Dg a b
def alz(a:Lp):aq BT:=cV 265 [22] [3] λb=>CY a b
def acX(b:Lp):aq BT:=cV 205 [75,283] [3] λa=>rK b a.1 a.2
def air(a:Lp):aq BT:=cV 131 [53] [4] λb=>yE a b
def an4(b:Lp):aq BT:=⟨243,3,0,⟨[],[(0,.v 53),(1,.v 283),(2,.f 205 [] [])]⟩,⟨[],[(0,.v 3),(1,.v 4)]⟩,λa=>Ec b a.1 a.2⟩
def wW(b:Lp):aq BT:=⟨244,3,0,⟨[(0,[],.rows 75 53),(2,[],.rows 75 53)],[(0,.r 0),(1,.v 3),(2,.r 1)]⟩,⟨[],[(0,.v 53)]⟩,λa=>D3 b a.1 a.2.1 a.2.2⟩
def afV(a:Lp):aq BT:=⟨102,1,0,⟨[],[(0,.v 53)]⟩,⟨[(0,[],.rows 75 53)],[(0,.r 0)]⟩,λb=>pI a b⟩
def anE(b:Lp):aq BT:=cV 176 [53,3,3,3,3] [53,67] λa=>rk b a.1 a.2.1 a.2.2.1 a.2.2.2.1 a.2.2.2.2
def WY:bY:=⟨[],[(0,.v 88),(1,.q [.q [.v 27,.v 28,.v 3,.v 31,.v 22,.v 32,.v 22,.v 22,.v 33,.v 27,.v 28,.v 36,.v 22,.v 22,.v 22,.v 3,.v 22,.v 3,.v 3,.v 41,.v 41,.v 22,.v 22,.v 44,.v 3,.v 22,.v 22,.v 22,.v 4,.v 3,.v 3,.v 3,.v 3,.v 44,.v 53,.v 54,.v 22]]),(2,.q [.v 3,.v 3,.v 3,.v 3])]⟩
def acP(b:Lp):aq BT:=⟨177,3,0,WY,⟨[],[(0,.v 4)]⟩,λa=>B0 b (anW a) (WC a) (acs a)⟩
def aij:bY:=⟨[],[(0,.v 31),(1,.f 177 [] [.q [.q [.v 27,.v 28,.v 3,.v 31,.v 22,.v 32,.v 22,.v 22,.v 33,.v 27,.v 28,.v 36,.v 22,.v 22,.v 22,.v 3,.v 22,.v 3,.v 3,.v 41,.v 41,.v 22,.v 22,.v 44,.v 3,.v 22,.v 22,.v 22,.v 4,.v 3,.v 3,.v 3,.v 3,.v 44,.v 53,.v 54,.v 22]],.q [.v 3,.v 3,.v 3,.v 3]])]⟩
def ana(b:Lp):aq BT:=⟨221,2,0,aij,⟨[],[(0,.v 3)]⟩,λa=>Er b (On a) (Qm a) (Px a)⟩
def Wz:bY:=⟨[],[(0,.v 31),(1,.f 177 [] [.q [.q [.v 27,.v 28,.v 3,.v 31,.v 22,.v 32,.v 22,.v 22,.v 33,.v 27,.v 28,.v 36,.v 22,.v 22,.v 22,.v 3,.v 22,.v 3,.v 3,.v 41,.v 41,.v 22,.v 22,.v 44,.v 3,.v 22,.v 22,.v 22,.v 4,.v 3,.v 3,.v 3,.v 3,.v 44,.v 53,.v 54,.v 22]],.q [.v 3,.v 3,.v 3,.v 3]])]⟩
def acj(b:Lp):aq BT:=⟨153,2,0,Wz,⟨[],[(0,.v 4)]⟩,λa=>Dv b (On a) (Qm a) (Px a)⟩
def ahX(a:Lp):aq BT:=cV 299 [50] [50] λb=>EA a b
def anr(a:Lp):aq BT:=⟨299,1,0,⟨[],[(0,.v 50)]⟩,⟨[(0,[1],.rows 3 22)],[(0,.g [.v 22,.r 0,.v 4])]⟩,λb=>IL a b⟩
def aeI(b:Lp):aq BT:=cV 245 [50,3,3,3] [50,67] λa=>qO b a.1 a.2.1 a.2.2.1 a.2.2.2
def akc(b:Lp):aq BT:=cV 178 [50,3] [50,67] λa=>GQ b a.1 a.2
def apX(b:Lp):aq BT:=cV 179 [50,3] [50,67] λa=>J0 b a.1 a.2
def ag5(a:Lp):aq BT:=cV 180 [3] [4] λb=>KV a b
def amy(a:Lp):aq BT:=⟨147,2,0,⟨[],[(0,.v 22),(1,.f 180 [] [])]⟩,⟨[],[(0,.v 3)]⟩,λb=>CC a b⟩
def VU(a:Lp):aq BT:=⟨86,2,0,⟨[],[(0,.v 22),(1,.f 180 [] [])]⟩,⟨[],[(0,.v 4)]⟩,λb=>zA a b⟩
def acp(b:Lp):aq BT:=cV 246 [50,4] [50,67] λa=>xi b a.1 a.2
def aoY(a:Lp):aq BT:=cV 181 [50] [50,67] λb=>Cu a b
def YW(b:Lp):aq BT:=⟨249,2,0,⟨[],[(0,.v 142),(1,.q [.v 3])]⟩,⟨[],[(0,.v 4)]⟩,λa=>Jb b a.1 a.2⟩
def aeR(b:Lp):aq BT:=⟨300,2,0,⟨[],[(0,.v 138),(1,.f 249 [] [.q [.v 3]])]⟩,⟨[],[(0,.v 3)]⟩,λa=>Gk b a.1 a.2⟩
def UQ(b:Lp):aq BT:=⟨248,2,0,⟨[],[(0,.v 138),(1,.f 249 [] [.q [.v 3]])]⟩,⟨[],[(0,.v 4)]⟩,λa=>JC b a.1 a.2⟩
def abu(b:Lp):aq BT:=⟨247,2,0,⟨[],[(0,.v 140),(1,.q [.v 3])]⟩,⟨[],[(0,.v 4)]⟩,λa=>AP b a.1 a.2⟩
def ag9(b:Lp):aq BT:=⟨116,2,0,⟨[],[(0,.v 44),(1,.f 247 [] [.q [.v 3]])]⟩,⟨[],[(0,.v 3)]⟩,λa=>Jm b a.1 a.2⟩
def Xy(b:Lp):aq BT:=⟨49,2,0,⟨[],[(0,.v 44),(1,.f 247 [] [.q [.v 3]])]⟩,⟨[],[(0,.v 4)]⟩,λa=>AL b a.1 a.2⟩
def adY(b:Lp):aq BT:=cV 301 [30,142,3] [142,67] λa=>xT b a.1 a.2.1 a.2.2
def ajq(b:Lp):aq BT:=⟨301,3,0,⟨[(1,[1],.rows 3 22)],[(0,.v 30),(1,.g [.v 3,.r 0]),(2,.v 3)]⟩,⟨[],[(0,.v 142),(1,.v 67)]⟩,λa=>IJ b a.1 a.2.1 a.2.2.1 a.2.2.2⟩
def aaw(b:Lp):aq BT:=cV 250 [30,142,3] [142,67] λa=>CA b a.1 a.2.1 a.2.2
def agj(b:Lp):aq BT:=cV 182 [30,46,22,3] [46,67] λa=>Em b a.1 a.2.1 a.2.2.1 a.2.2.2
def alE(b:Lp):aq BT:=cV 258 [52,3] [4] λa=>zd b a.1 a.2
def ac3(b:Lp):aq BT:=⟨261,2,0,⟨[],[(0,.v 3),(1,.q [.v 3,.v 22])]⟩,⟨[],[(0,.v 4)]⟩,λa=>CR b a.1 (aM.mk a.2.1 a.2.2)⟩
def aiB(b:Lp):aq BT:=⟨147,2,0,⟨[],[(0,.v 22),(1,.f 261 [] [.q [.v 3,.v 22]])]⟩,⟨[],[(0,.v 3)]⟩,λa=>G4 b a.1 (aM.mk a.2.1 a.2.2)⟩
def aoa(b:Lp):aq BT:=⟨86,2,0,⟨[],[(0,.v 22),(1,.f 261 [] [.q [.v 3,.v 22]])]⟩,⟨[],[(0,.v 4)]⟩,λa=>As b a.1 (aM.mk a.2.1 a.2.2)⟩
def X4(b:Lp):aq BT:=cV 198 [46,22] [4] λa=>wA b a.1 a.2
def ak1(b:Lp):aq BT:=cV 302 [40,50,46] [4] λa=>Ah b a.1 a.2.1 a.2.2
def aqH(b:Lp):aq BT:=cV 251 [333,4] [67] λa=>si b a.1 a.2
def aaC(b:Lp):aq BT:=cV 183 [40,52,50,46,3,3] [52,67] λa=>BR b a.1 a.2.1 a.2.2.1 a.2.2.2.1 a.2.2.2.2.1 a.2.2.2.2.2
def anl(b:Lp):aq BT:=cV 184 [40,52,50,46,3,3] [52,67] λa=>AJ b a.1 a.2.1 a.2.2.1 a.2.2.2.1 a.2.2.2.2.1 a.2.2.2.2.2
def WH(b:Lp):aq BT:=cV 185 [40,52,50,46,3,4] [52,67] λa=>CM b a.1 a.2.1 a.2.2.1 a.2.2.2.1 a.2.2.2.2.1 a.2.2.2.2.2
def ac7:bY:=⟨[(0,[1],.rows 115 28),(0,[3],.rows 88 31)],[(0,.g [.v 27,.r 0,.v 3,.r 1,.v 22,.v 32,.v 22,.v 22,.v 33])]⟩
def ah3(a:Lp):aq BT:=⟨143,1,0,⟨[],[(0,.v 35)]⟩,ac7,λb=>D6 a b⟩
def anx(b:Lp):aq BT:=cV 186 [35,3] [35,67] λa=>wO b a.1 a.2
def aeW(a:Lp):aq BT:=⟨98,1,0,⟨[],[(0,.v 36)]⟩,⟨[(0,[],.rows 90 36)],[(0,.r 0)]⟩,λb=>q9 a b⟩
def afu(b:Lp):aq BT:=cV 252 [30,46,3] [46,67] λa=>kW b a.1 a.2.1 a.2.2
def VF(b:Lp):aq BT:=⟨175,6,1,⟨[(3,[],.rows 90 36)],[(0,.v 30),(1,.v 36),(2,.v 30),(3,.r 0),(4,.v 48),(5,.v 3)]⟩,⟨[(100000,[],.rows 90 36)],[(0,.v 48),(1,.v 67)]⟩,λa=>yg b a.1 a.2.1 a.2.2.1 a.2.2.2.1 a.2.2.2.2.1 a.2.2.2.2.2⟩
def ach(b:Lp):aq BT:=⟨47,3,0,⟨[],[(0,.v 3),(1,.q [.v 3,.v 22]),(2,.q [.v 3])]⟩,⟨[],[(0,.v 4)]⟩,λa=>A8 b a.1 (bQ.mk a.2.1 a.2.2.1) a.2.2.2⟩
def ahS(b:Lp):aq BT:=⟨46,2,0,⟨[],[(0,.v 3),(1,.f 47 [] [.q [.v 3,.v 22],.q [.v 3]])]⟩,⟨[(0,[],.rows 3 22)],[(0,.r 0)]⟩,λa=>Fc b a.1 (bQ.mk a.2.1 a.2.2.1) a.2.2.2⟩
def YP(b:Lp):aq BT:=cV 16 [48,3] [22] λa=>w6 b a.1 a.2
def aeF(b:Lp):aq BT:=⟨303,2,0,⟨[],[(0,.v 3),(1,.q [.v 22])]⟩,⟨[],[(0,.v 4)]⟩,λa=>E7 b a.1 a.2⟩
def aj8(b:Lp):aq BT:=⟨147,2,0,⟨[],[(0,.v 22),(1,.f 303 [] [.q [.v 22]])]⟩,⟨[],[(0,.v 3)]⟩,λa=>zW b a.1 a.2⟩
def apU(b:Lp):aq BT:=⟨86,2,0,⟨[],[(0,.v 22),(1,.f 303 [] [.q [.v 22]])]⟩,⟨[],[(0,.v 4)]⟩,λa=>EZ b a.1 a.2⟩
def ag1(b:Lp):aq BT:=cV 253 [30,22,22] [30,67] λa=>yB b a.1 a.2.1 a.2.2
def amt(b:Lp):aq BT:=cV 254 [30,38,46,3,3] [67] λa=>EU b a.1 a.2.1 a.2.2.1 a.2.2.2.1 a.2.2.2.2
def VL(b:Lp):aq BT:=⟨50,4,0,⟨[],[(0,.v 140),(1,.q [.v 3]),(2,.q [.v 3]),(3,.q [.v 3])]⟩,⟨[],[(0,.v 4)]⟩,λa=>zt b a.1 a.2.1 a.2.2.1 a.2.2.2⟩
def ajl(b:Lp):aq BT:=⟨116,2,0,⟨[],[(0,.v 44),(1,.f 50 [] [.q [.v 3],.q [.v 3],.q [.v 3]])]⟩,⟨[],[(0,.v 3)]⟩,λa=>Gu b a.1 a.2.1 a.2.2.1 a.2.2.2⟩
def aoT(b:Lp):aq BT:=⟨49,2,0,⟨[],[(0,.v 44),(1,.f 50 [] [.q [.v 3],.q [.v 3],.q [.v 3]])]⟩,⟨[],[(0,.v 4)]⟩,λa=>FH b a.1 a.2.1 a.2.2.1 a.2.2.2⟩
def YS(b:Lp):aq BT:=⟨48,4,0,⟨[],[(0,.v 3),(1,.q [.v 44]),(2,.q [.v 3]),(3,.q [.v 3])]⟩,⟨[],[(0,.v 4)]⟩,λa=>AZ b a.1 a.2.1 a.2.2.1 a.2.2.2⟩
def aly(b:Lp):aq BT:=⟨46,2,0,⟨[],[(0,.v 3),(1,.f 48 [] [.q [.v 44],.q [.v 3],.q [.v 3]])]⟩,⟨[(0,[],.rows 3 22)],[(0,.r 0)]⟩,λa=>Lb b a.1 a.2.1 a.2.2.1 a.2.2.2⟩
end Go.X.T
