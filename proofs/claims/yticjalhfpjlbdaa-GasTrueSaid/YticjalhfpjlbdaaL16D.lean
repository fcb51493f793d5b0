/- Printed by wip/lift/lift.py: the functions of the program, as partial functions of plain data. -/
import Derived.Test.YticjalhfpjlbdaaAmlZ
namespace Go.L
open Go Go.Aml

structure Taa where
 Low:Int
 High:Int
 deriving DecidableEq
def Taa.enc (x:Taa):PV:=.agg [.int .i64 x.Low,.int .i64 x.High]
abbrev yB (x:Taa):List PV:=[.int .i64 x.Low,.int .i64 x.High]
abbrev yC (x:Taa) (v:Nat):AObj:=⟨57,2,[.agg (yB x)],v⟩
theorem Taa.enc_lt (x:Taa):LtN 0 x.enc:=Gq ⟨.int _ _,.int _ _,trivial⟩

structure Tac where
 Height:Int
 Surface:Bool
 deriving DecidableEq
def Tac.enc (x:Tac):PV:=.agg [.int .i64 x.Height,.bool x.Surface]
abbrev yD (x:Tac):List PV:=[.int .i64 x.Height,.bool x.Surface]
theorem Tac.enc_lt (x:Tac):LtN 0 x.enc:=Gq ⟨.int _ _,.bool _,trivial⟩

structure Tae where
 From:Int
 To:Int
 Length:Int
 Area:Int
 Walk:Bool
 Closed:Bool
 Rest:Taa
 Lift:Taa
 deriving DecidableEq
def Tae.enc (x:Tae):PV:=.agg [.int .i64 x.From,.int .i64 x.To,.int .i64 x.Length,.int .i64 x.Area,.bool x.Walk,.bool x.Closed,.int .i64 x.Rest.Low,.int .i64 x.Rest.High,.int .i64 x.Lift.Low,.int .i64 x.Lift.High]
abbrev zA (x:Tae):List PV:=[.int .i64 x.From,.int .i64 x.To,.int .i64 x.Length,.int .i64 x.Area,.bool x.Walk,.bool x.Closed,.int .i64 x.Rest.Low,.int .i64 x.Rest.High,.int .i64 x.Lift.Low,.int .i64 x.Lift.High]
abbrev zB (x:Tae) (v:Nat):AObj:=⟨75,10,[.agg (zA x)],v⟩
theorem Tae.enc_lt (x:Tae):LtN 0 x.enc:=Gq ⟨.int _ _,.int _ _,.int _ _,.int _ _,.bool _,.bool _,.int _ _,.int _ _,.int _ _,.int _ _,trivial⟩

structure Tah where
 Places:List Tac
 Roads:List Tae
 deriving DecidableEq
def Tah.enc (x:Tah):PV:=.agg [.vs 2 (List.map Tac.enc x.Places),.vs 10 (List.map Tae.enc x.Roads)]
abbrev zS (x:Tah):List PV:=[.vs 2 (List.map Tac.enc x.Places),.vs 10 (List.map Tae.enc x.Roads)]
abbrev zT (x:Tah) (v:Nat):AObj:=⟨31,2,[.agg (zS x)],v⟩
theorem Tah.enc_lt (x:Tah):LtN 0 x.enc:=Gq ⟨.vs _ _,.vs _ _,trivial⟩

structure Tal where
 Road:Int
 Inflow:Taa
 deriving DecidableEq
def Tal.enc (x:Tal):PV:=.agg [.int .i64 x.Road,.int .i64 x.Inflow.Low,.int .i64 x.Inflow.High]
abbrev zU (x:Tal):List PV:=[.int .i64 x.Road,.int .i64 x.Inflow.Low,.int .i64 x.Inflow.High]
theorem Tal.enc_lt (x:Tal):LtN 0 x.enc:=Gq ⟨.int _ _,.int _ _,.int _ _,trivial⟩

structure Tad where
 road:Int
 from_:Int
 to_:Int
 deriving DecidableEq
def Tad.enc (x:Tad):PV:=.agg [.int .i64 x.road,.int .i64 x.from_,.int .i64 x.to_]
abbrev zV (x:Tad):List PV:=[.int .i64 x.road,.int .i64 x.from_,.int .i64 x.to_]
abbrev zW (x:Tad) (v:Nat):AObj:=⟨132,3,[.agg (zV x)],v⟩
theorem Tad.enc_lt (x:Tad):LtN 0 x.enc:=Gq ⟨.int _ _,.int _ _,.int _ _,trivial⟩

structure A2_Int where
 a0:Int
 a1:Int
 deriving DecidableEq
def A2_Int.enc (x:A2_Int):PV:=.agg [.int .i64 x.a0,.int .i64 x.a1]
theorem A2_Int.enc_lt (x:A2_Int):LtN 0 x.enc:=Gq ⟨.int _ _,.int _ _,trivial⟩

structure Tap where
 Address:Int
 Kind:Int
 Target:Int
 Offset:Int
 Scale:Int
 Error:Int
 Drift:Int
 Life:Int
 deriving DecidableEq
def Tap.enc (x:Tap):PV:=.agg [.int .i64 x.Address,.int .i64 x.Kind,.int .i64 x.Target,.int .i64 x.Offset,.int .i64 x.Scale,.int .i64 x.Error,.int .i64 x.Drift,.int .i64 x.Life]
abbrev zC (x:Tap):List PV:=[.int .i64 x.Address,.int .i64 x.Kind,.int .i64 x.Target,.int .i64 x.Offset,.int .i64 x.Scale,.int .i64 x.Error,.int .i64 x.Drift,.int .i64 x.Life]
abbrev zD (x:Tap) (v:Nat):AObj:=⟨83,8,[.agg (zC x)],v⟩
theorem Tap.enc_lt (x:Tap):LtN 0 x.enc:=Gq ⟨.int _ _,.int _ _,.int _ _,.int _ _,.int _ _,.int _ _,.int _ _,.int _ _,trivial⟩

structure Tao where
 Sensor:Int
 Time:Int
 Span:Taa
 deriving DecidableEq
def Tao.enc (x:Tao):PV:=.agg [.int .i64 x.Sensor,.int .i64 x.Time,.int .i64 x.Span.Low,.int .i64 x.Span.High]
abbrev zI (x:Tao):List PV:=[.int .i64 x.Sensor,.int .i64 x.Time,.int .i64 x.Span.Low,.int .i64 x.Span.High]
abbrev zJ (x:Tao) (v:Nat):AObj:=⟨86,4,[.agg (zI x)],v⟩
theorem Tao.enc_lt (x:Tao):LtN 0 x.enc:=Gq ⟨.int _ _,.int _ _,.int _ _,.int _ _,trivial⟩

structure Tab where
 l:List Int
 at_:Int
 deriving DecidableEq
def Tab.enc (x:Tab):PV:=.agg [.vs 1 (List.map (PV.int .u8) x.l),.int .i64 x.at_]
abbrev zX (x:Tab):List PV:=[.vs 1 (List.map (PV.int .u8) x.l),.int .i64 x.at_]
abbrev zY (x:Tab) (v:Nat):AObj:=⟨89,2,[.agg (zX x)],v⟩
theorem Tab.enc_lt (x:Tab):LtN 0 x.enc:=Gq ⟨.vs _ _,.int _ _,trivial⟩

structure Tam where
 Flow:Int
 Pressure:Int
 deriving DecidableEq
def Tam.enc (x:Tam):PV:=.agg [.int .i64 x.Flow,.int .i64 x.Pressure]
abbrev zZ (x:Tam):List PV:=[.int .i64 x.Flow,.int .i64 x.Pressure]
abbrev yA (x:Tam) (v:Nat):AObj:=⟨149,2,[.agg (zZ x)],v⟩
theorem Tam.enc_lt (x:Tam):LtN 0 x.enc:=Gq ⟨.int _ _,.int _ _,trivial⟩

structure Tai where
 Road:Int
 Other:Int
 Rests:List Int
 deriving DecidableEq
def Tai.enc (x:Tai):PV:=.agg [.int .i64 x.Road,.int .i64 x.Other,.vs 1 (List.map (PV.int .i64) x.Rests)]
abbrev zM (x:Tai):List PV:=[.int .i64 x.Road,.int .i64 x.Other,.vs 1 (List.map (PV.int .i64) x.Rests)]
abbrev zN (x:Tai) (v:Nat):AObj:=⟨123,3,[.agg (zM x)],v⟩
theorem Tai.enc_lt (x:Tai):LtN 0 x.enc:=Gq ⟨.int _ _,.int _ _,.vs _ _,trivial⟩

structure Tak where
 Road:Int
 Back:Bool
 Auxiliary:Bool
 Curve:List Tam
 deriving DecidableEq
def Tak.enc (x:Tak):PV:=.agg [.int .i64 x.Road,.bool x.Back,.bool x.Auxiliary,.vs 2 (List.map Tam.enc x.Curve)]
abbrev zG (x:Tak):List PV:=[.int .i64 x.Road,.bool x.Back,.bool x.Auxiliary,.vs 2 (List.map Tam.enc x.Curve)]
abbrev zH (x:Tak) (v:Nat):AObj:=⟨121,4,[.agg (zG x)],v⟩
theorem Tak.enc_lt (x:Tak):LtN 0 x.enc:=Gq ⟨.int _ _,.bool _,.bool _,.vs _ _,trivial⟩

structure Taj where
 Mine:Tah
 Fans:List Tak
 Doors:List Tai
 deriving DecidableEq
def Taj.enc (x:Taj):PV:=.agg [.vs 2 (List.map Tac.enc x.Mine.Places),.vs 10 (List.map Tae.enc x.Mine.Roads),.vs 4 (List.map Tak.enc x.Fans),.vs 3 (List.map Tai.enc x.Doors)]
abbrev zE (x:Taj):List PV:=[.vs 2 (List.map Tac.enc x.Mine.Places),.vs 10 (List.map Tae.enc x.Mine.Roads),.vs 4 (List.map Tak.enc x.Fans),.vs 3 (List.map Tai.enc x.Doors)]
abbrev zF (x:Taj) (v:Nat):AObj:=⟨35,4,[.agg (zE x)],v⟩
theorem Taj.enc_lt (x:Taj):LtN 0 x.enc:=Gq ⟨.vs _ _,.vs _ _,.vs _ _,.vs _ _,trivial⟩

structure Taf where
 Fans:List Int
 Doors:List Int
 deriving DecidableEq
def Taf.enc (x:Taf):PV:=.agg [.vs 1 (List.map (PV.int .i64) x.Fans),.vs 1 (List.map (PV.int .i64) x.Doors)]
abbrev zO (x:Taf):List PV:=[.vs 1 (List.map (PV.int .i64) x.Fans),.vs 1 (List.map (PV.int .i64) x.Doors)]
abbrev zP (x:Taf) (v:Nat):AObj:=⟨38,2,[.agg (zO x)],v⟩
theorem Taf.enc_lt (x:Taf):LtN 0 x.enc:=Gq ⟨.vs _ _,.vs _ _,trivial⟩

structure Tan where
 Pressures:List Int
 Flows:List Int
 deriving DecidableEq
def Tan.enc (x:Tan):PV:=.agg [.vs 1 (List.map (PV.int .i64) x.Pressures),.vs 1 (List.map (PV.int .i64) x.Flows)]
abbrev zK (x:Tan):List PV:=[.vs 1 (List.map (PV.int .i64) x.Pressures),.vs 1 (List.map (PV.int .i64) x.Flows)]
abbrev zL (x:Tan) (v:Nat):AObj:=⟨40,2,[.agg (zK x)],v⟩
theorem Tan.enc_lt (x:Tan):LtN 0 x.enc:=Gq ⟨.vs _ _,.vs _ _,trivial⟩

structure Taq where
 Low:List Int
 High:List Int
 deriving DecidableEq
def Taq.enc (x:Taq):PV:=.agg [.vs 1 (List.map (PV.int .i64) x.Low),.vs 1 (List.map (PV.int .i64) x.High)]
abbrev zQ (x:Taq):List PV:=[.vs 1 (List.map (PV.int .i64) x.Low),.vs 1 (List.map (PV.int .i64) x.High)]
abbrev zR (x:Taq) (v:Nat):AObj:=⟨112,2,[.agg (zQ x)],v⟩
theorem Taq.enc_lt (x:Taq):LtN 0 x.enc:=Gq ⟨.vs _ _,.vs _ _,trivial⟩

structure Tag where
 gas:Int
 air:Int
 deriving DecidableEq
def Tag.enc (x:Tag):PV:=.agg [.int .i64 x.gas,.int .i64 x.air]
abbrev yE (x:Tag):List PV:=[.int .i64 x.gas,.int .i64 x.air]
abbrev yF (x:Tag) (v:Nat):AObj:=⟨71,2,[.agg (yE x)],v⟩
theorem Tag.enc_lt (x:Tag):LtN 0 x.enc:=Gq ⟨.int _ _,.int _ _,trivial⟩

def Taa.Wf (x:Taa):Prop:=(In .i64) x.Low∧(In .i64) x.High∧True
def Tac.Wf (x:Tac):Prop:=(In .i64) x.Height∧(fun _=>True) x.Surface∧True
def Tae.Wf (x:Tae):Prop:=(In .i64) x.From∧(In .i64) x.To∧(In .i64) x.Length∧(In .i64) x.Area∧(fun _=>True) x.Walk∧(fun _=>True) x.Closed∧Taa.Wf x.Rest∧Taa.Wf x.Lift∧True
def Tah.Wf (x:Tah):Prop:=(InL Tac.Wf) x.Places∧(InL Tae.Wf) x.Roads∧True
def Tal.Wf (x:Tal):Prop:=(In .i64) x.Road∧Taa.Wf x.Inflow∧True
def Tad.Wf (x:Tad):Prop:=(In .i64) x.road∧(In .i64) x.from_∧(In .i64) x.to_∧True
def A2_Int.Wf (x:A2_Int):Prop:=(In .i64) x.a0∧(In .i64) x.a1∧True
def Tap.Wf (x:Tap):Prop:=(In .i64) x.Address∧(In .i64) x.Kind∧(In .i64) x.Target∧(In .i64) x.Offset∧(In .i64) x.Scale∧(In .i64) x.Error∧(In .i64) x.Drift∧(In .i64) x.Life∧True
def Tao.Wf (x:Tao):Prop:=(In .i64) x.Sensor∧(In .i64) x.Time∧Taa.Wf x.Span∧True
def Tab.Wf (x:Tab):Prop:=(InL (In .u8)) x.l∧(In .i64) x.at_∧True
def Tam.Wf (x:Tam):Prop:=(In .i64) x.Flow∧(In .i64) x.Pressure∧True
def Tai.Wf (x:Tai):Prop:=(In .i64) x.Road∧(In .i64) x.Other∧(InL (In .i64)) x.Rests∧True
def Tak.Wf (x:Tak):Prop:=(In .i64) x.Road∧(fun _=>True) x.Back∧(fun _=>True) x.Auxiliary∧(InL Tam.Wf) x.Curve∧True
def Taj.Wf (x:Taj):Prop:=Tah.Wf x.Mine∧(InL Tak.Wf) x.Fans∧(InL Tai.Wf) x.Doors∧True
def Taf.Wf (x:Taf):Prop:=(InL (In .i64)) x.Fans∧(InL (In .i64)) x.Doors∧True
def Tan.Wf (x:Tan):Prop:=(InL (In .i64)) x.Pressures∧(InL (In .i64)) x.Flows∧True
def Taq.Wf (x:Taq):Prop:=(InL (In .i64)) x.Low∧(InL (In .i64)) x.High∧True
def Tag.Wf (x:Tag):Prop:=(In .i64) x.gas∧(In .i64) x.air∧True

noncomputable def Fd6 (p0:Taa) (p1:Int) (p2:Int):Option (Bool) :=
 bif (decide (p1≤p0.Low)) then
 bif (decide (p0.Low≤p0.High)) then
 some (decide (p0.High≤p2))
 else
 some false
 else
 some false

noncomputable def Fca (p0:Tah) (s4:Int):Option (Int⊕(Unit⊕Unit)) :=
 bif (decide (s4<((p0.Places).length:Int))) then
 (Kl p0.Places s4).bind fun x9 =>
 (bif (decide (x9.Height<(-10000))) then
 some true
 else
 some (decide (10000<x9.Height))).bind fun o11 =>
 bif o11 then
 some (Sum.inr (Sum.inl ()))
 else
 some (Sum.inl (IntKind.i64.wrap (s4+1)))
 else
 some (Sum.inr (Sum.inr ()))

noncomputable def Fcb (p0:Tah) (s14:Int):Option (Int⊕(Int⊕Unit)) :=
 bif (decide (s14<((p0.Roads).length:Int))) then
 (Kl p0.Roads s14).bind fun x19 =>
 (bif (decide (x19.From<0)) then
 some true
 else
 bif (decide (((p0.Places).length:Int)≤x19.From)) then
 some true
 else
 bif (decide (x19.To<0)) then
 some true
 else
 bif (decide (((p0.Places).length:Int)≤x19.To)) then
 some true
 else
 some (decide (x19.From=x19.To))).bind fun o21 =>
 bif o21 then
 some (Sum.inr (Sum.inl 4))
 else
 (bif (decide (x19.Length<1)) then
 some true
 else
 bif (decide (100000<x19.Length)) then
 some true
 else
 bif (decide (x19.Area<1)) then
 some true
 else
 some (decide (1000<x19.Area))).bind fun o27 =>
 bif o27 then
 some (Sum.inr (Sum.inl 1))
 else
 ((Fd6 x19.Rest 1 262144).bind fun x33 =>
 bif (!x33) then
 some true
 else
 (Fd6 x19.Lift (-2199023255552) 2199023255552).bind fun x36 =>
 some (!x36)).bind fun o32 =>
 bif o32 then
 some (Sum.inr (Sum.inl 1))
 else
 some (Sum.inl (IntKind.i64.wrap (s14+1)))
 else
 some (Sum.inr (Sum.inr ()))

noncomputable def Fdf (p0:Tah):Option (Int) :=
 (bif (decide (64<((p0.Places).length:Int))) then
 some true
 else
 some (decide (128<((p0.Roads).length:Int)))).bind fun o1 =>
 bif o1 then
 some 2
 else
 (Sb (Fca p0) 0).bind fun o5 =>
 Sum.elim (fun j6 =>
 some 1)
 (fun j7 =>
 (Sb (Fcb p0) 0).bind fun o15 =>
 Sum.elim (fun j16 =>
 some j16)
 (fun j17 =>
 some 0) o15) o5

noncomputable def Fck (p0:Tah) (p1:List Tal) (s5:Int):Option (Int⊕(Int⊕Unit)) :=
 bif (decide (s5<((p1).length:Int))) then
 (Kl p1 s5).bind fun x10 =>
 (bif (decide (x10.Road<0)) then
 some true
 else
 some (decide (((p0.Roads).length:Int)≤x10.Road))).bind fun o12 =>
 bif o12 then
 some (Sum.inr (Sum.inl 4))
 else
 (bif (decide (x10.Inflow.Low<0)) then
 some true
 else
 bif (decide (x10.Inflow.High<x10.Inflow.Low)) then
 some true
 else
 some (decide (1099511627776<x10.Inflow.High))).bind fun o15 =>
 bif o15 then
 some (Sum.inr (Sum.inl 1))
 else
 some (Sum.inl (IntKind.i64.wrap (s5+1)))
 else
 some (Sum.inr (Sum.inr ()))

noncomputable def Fes (p0:Tah) (p1:List Tal):Option (Int) :=
 (Fdf p0).bind fun x1 =>
 bif (decide (x1≠0)) then
 some x1
 else
 bif (decide (32<((p1).length:Int))) then
 some 2
 else
 (Sb (Fck p0 p1) 0).bind fun o6 =>
 Sum.elim (fun j7 =>
 some j7)
 (fun j8 =>
 some 0) o6

noncomputable def Fe6 (p0:Tah):Option (Bool) :=
 (Fdf p0).bind fun x1 =>
 some (decide (x1=0))

noncomputable def Fas (p0:Tah) (p1:List Taa) (s6:Int×List Tad):Option ((Int×List Tad)⊕(List Tad)) :=
 bif (decide (s6.1<((p0.Roads).length:Int))) then
 ((Kl p0.Roads s6.1).bind fun x10 =>
 bif x10.Closed then
 some s6.2
 else
 (Kl p1 s6.1).bind fun x13 =>
 (bif (decide (0<x13.High)) then
 (Zn 24 s6.2 [(Tad.mk s6.1 x10.From x10.To)]).bind fun x17 =>
 some x17
 else
 some s6.2).bind fun o15 =>
 (Kl p1 s6.1).bind fun x19 =>
 bif (decide (x19.Low<0)) then
 (Zn 24 o15 [(Tad.mk s6.1 x10.To x10.From)]).bind fun x22 =>
 some x22
 else
 some o15).bind fun o9 =>
 some (Sum.inl ((IntKind.i64.wrap (s6.1+1)),o9))
 else
 some (Sum.inr s6.2)

noncomputable def Fa9 (p0:Tah) (p1:List Taa):Option (List Tad×Bool) :=
 ((Fe6 p0).bind fun x2 =>
 bif (!x2) then
 some true
 else
 some (decide (((p1).length:Int)≠((p0.Roads).length:Int)))).bind fun o1 =>
 bif o1 then
 some (([]:List Tad),false)
 else
 (Sb (Fas p0 p1) (0,([]:List Tad))).bind fun o7 =>
 some (o7,true)

noncomputable def Fak (x1:List Tad×Bool) (s3:Int×List A2_Int):Option ((Int×List A2_Int)⊕(List A2_Int)) :=
 bif (decide (s3.1<((x1.1).length:Int))) then
 (Kl x1.1 s3.1).bind fun x6 =>
 (Zn 16 s3.2 [(A2_Int.mk x6.from_ x6.to_)]).bind fun x8 =>
 some (Sum.inl ((IntKind.i64.wrap (s3.1+1)),x8))
 else
 some (Sum.inr s3.2)

noncomputable def Fb4 (p0:Tah) (p1:List Taa):Option (List A2_Int) :=
 (Fa9 p0 p1).bind fun x1 =>
 (Sb (Fak x1) (0,([]:List A2_Int))).bind fun o4 =>
 some o4

noncomputable def Fam (p0:Tah) (p1:List Tad) (p3:Int) (s6:Bool×Int×List Bool):Option ((Bool×Int×List Bool)⊕(Bool×List Bool)) :=
 bif (decide (s6.2.1<((p1).length:Int))) then
 ((Kl p1 s6.2.1).bind fun x10 =>
 (bif (decide (x10.road≠p3)) then
 (Kl s6.2.2 x10.from_).bind fun x14 =>
 bif x14 then
 (Kl s6.2.2 x10.to_).bind fun x17 =>
 bif (!x17) then
 (Kl p0.Places x10.to_).bind fun x20 =>
 some (!x20.Surface)
 else
 some false
 else
 some false
 else
 some false).bind fun o12 =>
 bif o12 then
 (Kl s6.2.2 x10.to_).bind fun x23 =>
 some (true,(s6.2.2.set ((x10.to_).toNat) true))
 else
 some (s6.1,s6.2.2)).bind fun o9 =>
 some (Sum.inl (o9.1,(IntKind.i64.wrap (s6.2.1+1)),o9.2))
 else
 some (Sum.inr (s6.1,s6.2.2))

noncomputable def Faw (p0:Tah) (p1:List Tad) (p3:Int) (s3:Bool×List Bool):Option ((Bool×List Bool)⊕(List Bool)) :=
 bif s3.1 then
 (Sb (Fam p0 p1 p3) (false,0,s3.2)).bind fun o7 =>
 some (Sum.inl (o7.1,o7.2))
 else
 some (Sum.inr s3.2)

noncomputable def Fao (p0:Tah) (p1:List Tad) (p2:List Bool) (p3:Int):Option (List Bool) :=
 (Zn 1 ([]:List Bool) p2).bind fun x1 =>
 (Sb (Faw p0 p1 p3) (true,x1)).bind fun o4 =>
 some o4

noncomputable def Fal (p0:Tah) (p1:List Tad) (s1:Int×List Tad):Option ((Int×List Tad)⊕(List Tad)) :=
 bif (decide (s1.1<((p1).length:Int))) then
 ((Kl p1 s1.1).bind fun x5 =>
 ((Kl p0.Places x5.from_).bind fun x8 =>
 bif x8.Surface then
 some true
 else
 (Kl p0.Places x5.to_).bind fun x11 =>
 some x11.Surface).bind fun o7 =>
 bif o7 then
 some s1.2
 else
 (Gce 1 false ((p0.Places).length:Int)).bind fun x14 =>
 (Kl x14 x5.to_).bind fun x16 =>
 (Fao p0 p1 (x14.set ((x5.to_).toNat) true) x5.road).bind fun x18 =>
 (Kl x18 x5.from_).bind fun x20 =>
 bif x20 then
 (Zn 24 s1.2 [x5]).bind fun x23 =>
 some x23
 else
 some s1.2).bind fun o4 =>
 some (Sum.inl ((IntKind.i64.wrap (s1.1+1)),o4))
 else
 some (Sum.inr s1.2)

noncomputable def Fba (p0:Tah) (p1:List Tad):Option (List Tad) :=
 (Sb (Fal p0 p1) (0,([]:List Tad))).bind fun o2 =>
 some o2

noncomputable def Fap (x6:List Tad) (s8:Int×List Bool):Option ((Int×List Bool)⊕(List Bool)) :=
 bif (decide (s8.1<((x6).length:Int))) then
 (Kl x6 s8.1).bind fun x11 =>
 (Kl s8.2 x11.from_).bind fun x13 =>
 (Kl (s8.2.set ((x11.from_).toNat) true) x11.to_).bind fun x15 =>
 some (Sum.inl ((IntKind.i64.wrap (s8.1+1)),((s8.2.set ((x11.from_).toNat) true).set ((x11.to_).toNat) true)))
 else
 some (Sum.inr s8.2)

noncomputable def Fai (x17:List Bool) (s19:Int×List Int):Option ((Int×List Int)⊕(List Int)) :=
 bif (decide (s19.1<((x17).length:Int))) then
 ((Kl x17 s19.1).bind fun x23 =>
 bif x23 then
 (Zn 8 s19.2 [s19.1]).bind fun x26 =>
 some x26
 else
 some s19.2).bind fun o22 =>
 some (Sum.inl ((IntKind.i64.wrap (s19.1+1)),o22))
 else
 some (Sum.inr s19.2)

noncomputable def Fbm (p0:Tah) (p1:List Taa):Option (List Int) :=
 (Fa9 p0 p1).bind fun x1 =>
 bif (!x1.2) then
 some ([]:List Int)
 else
 (Gce 1 false ((p0.Places).length:Int)).bind fun x4 =>
 (Fba p0 x1.1).bind fun x6 =>
 (Sb (Fap x6) (0,x4)).bind fun o9 =>
 (Fao p0 x1.1 o9 (-1)).bind fun x17 =>
 (Sb (Fai x17) (0,([]:List Int))).bind fun o20 =>
 some o20

noncomputable def Fbn (p0:Taa):Option (Int) :=
 bif (decide (p0.High<p0.Low)) then
 some 0
 else
 bif (decide (0<p0.Low)) then
 some 1
 else
 bif (decide (p0.High<0)) then
 some (-1)
 else
 some 0

noncomputable def Faq (p0:Taa) (p1:Int):Option (Int) :=
 (Fbn p0).bind fun x1 =>
 (bif (decide (x1=1)) then
 some (Sum.inl p0.Low)
 else
 bif (decide (x1=(-1))) then
 some (Sum.inl (max (IntKind.i64.wrap (0-p0.High)) 1))
 else
 bif (decide (0<p1)) then
 some (Sum.inr 1000000)
 else
 some (Sum.inr 0)).bind fun o3 =>
 Sum.elim (fun j4 =>
 (Gno .i64 p1 j4).bind fun x9 =>
 (Gi4 p1 j4).bind fun x11 =>
 some (min (IntKind.i64.wrap (x9+(min x11 1))) 1000000))
 (fun j5 =>
 some j5) o3

noncomputable def Fce (p2:List Tal) (s7:Int×List Int):Option ((Int×List Int)⊕(List Int)) :=
 bif (decide (s7.1<((p2).length:Int))) then
 (Kl p2 s7.1).bind fun x10 =>
 (Kl s7.2 x10.Road).bind fun x12 =>
 (Kl s7.2 x10.Road).bind fun x14 =>
 some (Sum.inl ((IntKind.i64.wrap (s7.1+1)),(s7.2.set ((x10.Road).toNat) (IntKind.i64.wrap (x12+x10.Inflow.High)))))
 else
 some (Sum.inr s7.2)

noncomputable def Fdz (x22:List A2_Int) (s24:Int×List Bool):Option ((Int×List Bool)⊕(List Bool)) :=
 bif (decide (s24.1<((x22).length:Int))) then
 (Kl x22 s24.1).bind fun x27 =>
 (Kl s24.2 x27.a1).bind fun x29 =>
 some (Sum.inl ((IntKind.i64.wrap (s24.1+1)),(s24.2.set ((x27.a1).toNat) true)))
 else
 some (Sum.inr s24.2)

noncomputable def Fd0 (p0:Tah) (o25:List Bool) (s31:Int×List Int):Option ((Int×List Int)⊕(List Int)) :=
 bif (decide (s31.1<((p0.Places).length:Int))) then
 ((Kl p0.Places s31.1).bind fun x35 =>
 (bif (!x35.Surface) then
 (Kl o25 s31.1).bind fun x39 =>
 some (!x39)
 else
 some false).bind fun o37 =>
 bif o37 then
 (Kl s31.2 s31.1).bind fun x42 =>
 some (s31.2.set ((s31.1).toNat) 1000000)
 else
 some s31.2).bind fun o34 =>
 some (Sum.inl ((IntKind.i64.wrap (s31.1+1)),o34))
 else
 some (Sum.inr s31.2)

noncomputable def Fd1 (p0:Tah) (x44:List Int) (s46:Int×List Int):Option ((Int×List Int)⊕(List Int)) :=
 bif (decide (s46.1<((x44).length:Int))) then
 ((Kl x44 s46.1).bind fun x50 =>
 (Kl p0.Places x50).bind fun x52 =>
 bif (!x52.Surface) then
 (Kl s46.2 x50).bind fun x55 =>
 some (s46.2.set ((x50).toNat) 1000000)
 else
 some s46.2).bind fun o49 =>
 some (Sum.inl ((IntKind.i64.wrap (s46.1+1)),o49))
 else
 some (Sum.inr s46.2)

noncomputable def Fd3 (p0:Tah) (p1:List Taa) (o8:List Int) (s60:Int×Bool×List Int×List Int):Option ((Int×Bool×List Int×List Int)⊕(Bool×List Int×List Int)) :=
 bif (decide (s60.1<((p0.Roads).length:Int))) then
 ((Kl p0.Roads s60.1).bind fun x64 =>
 (bif (!x64.Closed) then
 (Kl p1 s60.1).bind fun x68 =>
 (Kl p1 s60.1).bind fun x70 =>
 some ((decide (0<x68.High)),(decide (x70.Low<0)))
 else
 some (false,false)).bind fun o66 =>
 ((bif (!o66.1) then
 some (!o66.2)
 else
 some false).bind fun o73 =>
 bif o73 then
 some 1000000
 else
 (bif o66.1 then
 (Kl s60.2.2.1 x64.From).bind fun x78 =>
 some x78
 else
 some 0).bind fun o76 =>
 (bif o66.2 then
 (Kl s60.2.2.1 x64.To).bind fun x82 =>
 some (max o76 x82)
 else
 some o76).bind fun o80 =>
 (Kl p1 s60.1).bind fun x84 =>
 (Kl o8 s60.1).bind fun x86 =>
 (Faq x84 x86).bind fun x88 =>
 some (min (IntKind.i64.wrap (o80+x88)) 1000000)).bind fun o72 =>
 (Kl s60.2.2.2 s60.1).bind fun x90 =>
 (bif (decide (x90<o72)) then
 (Kl s60.2.2.2 s60.1).bind fun x94 =>
 some (true,(s60.2.2.2.set ((s60.1).toNat) o72))
 else
 some (s60.2.1,s60.2.2.2)).bind fun o92 =>
 (bif o66.1 then
 (Kl p0.Places x64.To).bind fun x98 =>
 bif (!x98.Surface) then
 (Kl s60.2.2.1 x64.To).bind fun x101 =>
 some (decide (x101<o72))
 else
 some false
 else
 some false).bind fun o96 =>
 (bif o96 then
 (Kl s60.2.2.1 x64.To).bind fun x105 =>
 some (true,(s60.2.2.1.set ((x64.To).toNat) o72))
 else
 some (o92.1,s60.2.2.1)).bind fun o103 =>
 (bif o66.2 then
 (Kl p0.Places x64.From).bind fun x109 =>
 bif (!x109.Surface) then
 (Kl o103.2 x64.From).bind fun x112 =>
 some (decide (x112<o72))
 else
 some false
 else
 some false).bind fun o107 =>
 bif o107 then
 (Kl o103.2 x64.From).bind fun x115 =>
 some (true,(o103.2.set ((x64.From).toNat) o72),o92.2)
 else
 some (o103.1,o103.2,o92.2)).bind fun o63 =>
 some (Sum.inl ((IntKind.i64.wrap (s60.1+1)),o63.1,o63.2.1,o63.2.2))
 else
 some (Sum.inr (s60.2.1,s60.2.2.1,s60.2.2.2))

noncomputable def Fd2 (p0:Tah) (p1:List Taa) (o8:List Int) (s57:Bool×List Int×List Int):Option ((Bool×List Int×List Int)⊕(List Int×List Int)) :=
 bif s57.1 then
 (Sb (Fd3 p0 p1 o8) (0,false,s57.2.1,s57.2.2)).bind fun o61 =>
 some (Sum.inl (o61.1,o61.2.1,o61.2.2))
 else
 some (Sum.inr (s57.2.1,s57.2.2))

noncomputable def Fc4 (p0:Tah) (p1:List Taa) (p2:List Tal):Option (List Int×List Int×Int) :=
 (Fes p0 p2).bind fun x1 =>
 bif (decide (x1≠0)) then
 some (([]:List Int),([]:List Int),x1)
 else
 bif (decide (((p1).length:Int)≠((p0.Roads).length:Int))) then
 some (([]:List Int),([]:List Int),11)
 else
 (Gce 8 0 ((p0.Roads).length:Int)).bind fun x5 =>
 (Sb (Fce p2) (0,x5)).bind fun o8 =>
 (Gce 8 0 ((p0.Places).length:Int)).bind fun x16 =>
 (Gce 8 0 ((p0.Roads).length:Int)).bind fun x18 =>
 (Gce 1 false ((p0.Places).length:Int)).bind fun x20 =>
 (Fb4 p0 p1).bind fun x22 =>
 (Sb (Fdz x22) (0,x20)).bind fun o25 =>
 (Sb (Fd0 p0 o25) (0,x16)).bind fun o32 =>
 (Fbm p0 p1).bind fun x44 =>
 (Sb (Fd1 p0 x44) (0,o32)).bind fun o47 =>
 (Sb (Fd2 p0 p1 o8) (true,o47,x18)).bind fun o58 =>
 some (o58.1,o58.2,0)

noncomputable def Fbz  : Option (Taa) :=
 some (Taa.mk (-1125899906842624) 1125899906842624)

noncomputable def Fe7 (p0:Int) (p1:Int) (p2:List Int) (s1:Int):Option (Int⊕(Unit⊕Unit)) :=
 bif (decide (s1<((p2).length:Int))) then
 (Kl p2 s1).bind fun x6 =>
 (bif (decide (x6<p0)) then
 some true
 else
 some (decide (p1<x6))).bind fun o8 =>
 bif o8 then
 some (Sum.inr (Sum.inl ()))
 else
 some (Sum.inl (IntKind.i64.wrap (s1+1)))
 else
 some (Sum.inr (Sum.inr ()))

noncomputable def Fag (p0:Int) (p1:Int) (p2:List Int):Option (Bool) :=
 (Sb (Fe7 p0 p1 p2) 0).bind fun o2 =>
 Sum.elim (fun j3 =>
 some false)
 (fun j4 =>
 some true) o2

noncomputable def Fdd (p0:Tap):Option (Int) :=
 (Fag 1 6 [p0.Kind]).bind fun x1 =>
 bif (!x1) then
 some 5
 else
 ((Fag 0 255 [p0.Address]).bind fun x5 =>
 bif (!x5) then
 some true
 else
 bif (decide (p0.Target<0)) then
 some true
 else
 (Fag (-1000000) 1000000 [p0.Offset,p0.Scale]).bind fun x9 =>
 some (!x9)).bind fun o4 =>
 bif o4 then
 some 1
 else
 ((Fag 0 1000000 [p0.Error,p0.Drift]).bind fun x13 =>
 bif (!x13) then
 some true
 else
 (Fag 1 1000000 [p0.Life]).bind fun x16 =>
 some (!x16)).bind fun o12 =>
 bif o12 then
 some 1
 else
 some 0

noncomputable def Fen (p0:Int):Option (Bool) :=
 bif (decide (p0=4)) then
 some true
 else
 bif (decide (p0=5)) then
 some true
 else
 some (decide (p0=6))

noncomputable def Feq (p0:Tap) (p1:Tao) (p2:Int):Option (Taa) :=
 (Fbz).bind fun x1 =>
 ((Fdd p0).bind fun x4 =>
 bif (decide (x4≠0)) then
 some true
 else
 bif (decide (p1.Sensor<0)) then
 some true
 else
 bif ((p1.Span.Low == x1.Low)&&((p1.Span.High == x1.High)&&true)) then
 some true
 else
 bif (decide (p2<p1.Time)) then
 some true
 else
 some (decide (p0.Life<(IntKind.i64.wrap (p2-p1.Time))))).bind fun o3 =>
 bif o3 then
 some x1
 else
 (Fen p0.Kind).bind fun x11 =>
 bif x11 then
 some p1.Span
 else
 (bif (decide (p0.Kind=1)) then
 some true
 else
 some (decide (p0.Kind=2))).bind fun o14 =>
 (bif o14 then
 some (Taa.mk (max (IntKind.i64.wrap (p1.Span.Low-(IntKind.i64.wrap (Int.tdiv (IntKind.i64.wrap ((IntKind.i64.wrap (p0.Drift*(IntKind.i64.wrap (p2-p1.Time))))+999)) 1000)))) 0) (max (IntKind.i64.wrap (p1.Span.High+(IntKind.i64.wrap (Int.tdiv (IntKind.i64.wrap ((IntKind.i64.wrap (p0.Drift*(IntKind.i64.wrap (p2-p1.Time))))+999)) 1000)))) 0))
 else
 some (Taa.mk (IntKind.i64.wrap (p1.Span.Low-(IntKind.i64.wrap (Int.tdiv (IntKind.i64.wrap ((IntKind.i64.wrap (p0.Drift*(IntKind.i64.wrap (p2-p1.Time))))+999)) 1000)))) (IntKind.i64.wrap (p1.Span.High+(IntKind.i64.wrap (Int.tdiv (IntKind.i64.wrap ((IntKind.i64.wrap (p0.Drift*(IntKind.i64.wrap (p2-p1.Time))))+999)) 1000)))))).bind fun o16 =>
 some o16

noncomputable def Fey (p0:List Taa) (s6:Int×Taa):Option ((Int×Taa)⊕Taa) :=
 bif (decide (s6.1<((p0).length:Int))) then
 (Kl p0 s6.1).bind fun x9 =>
 some (Sum.inl ((IntKind.i64.wrap (s6.1+1)),(Taa.mk (max s6.2.Low x9.Low) (min s6.2.High x9.High))))
 else
 some (Sum.inr s6.2)

noncomputable def Fd4 (p0:List Taa):Option (Taa×Bool) :=
 bif (decide (((p0).length:Int)=0)) then
 (Fbz).bind fun x2 =>
 some (x2,true)
 else
 (Kl p0 0).bind fun x4 =>
 (Sb (Fey p0) (0,x4)).bind fun o7 =>
 bif (decide (o7.High<o7.Low)) then
 (Fbz).bind fun x12 =>
 some (x12,false)
 else
 some (o7,true)

noncomputable def Faj (p1:Taa) (p2:Int) (p3:List Tap) (p4:List Tao) (p5:Int) (s7:Int×List Taa×List Bool×List Bool):Option ((Int×List Taa×List Bool×List Bool)⊕(List Taa×List Bool)) :=
 bif (decide (s7.1<((p4).length:Int))) then
 ((Kl p4 s7.1).bind fun x11 =>
 (bif (decide (x11.Sensor<0)) then
 some true
 else
 some (decide (((p3).length:Int)≤x11.Sensor))).bind fun o13 =>
 bif o13 then
 some (s7.2.1,s7.2.2.1,s7.2.2.2)
 else
 (Kl p3 x11.Sensor).bind fun x16 =>
 (bif (decide (x16.Kind≠p2)) then
 some true
 else
 bif (decide (x16.Target<0)) then
 some true
 else
 bif (decide (((s7.2.1).length:Int)≤x16.Target)) then
 some true
 else
 (Kl s7.2.2.1 x16.Target).bind fun x22 =>
 some x22).bind fun o18 =>
 bif o18 then
 some (s7.2.1,s7.2.2.1,s7.2.2.2)
 else
 (Kl s7.2.1 x16.Target).bind fun x25 =>
 (Feq x16 x11 p5).bind fun x27 =>
 (Fd4 [x25,x27]).bind fun x29 =>
 (bif (!x29.2) then
 (Kl s7.2.2.1 x16.Target).bind fun x33 =>
 (Kl s7.2.2.2 x11.Sensor).bind fun x35 =>
 some ((s7.2.2.1.set ((x16.Target).toNat) true),(s7.2.2.2.set ((x11.Sensor).toNat) true),p1)
 else
 some (s7.2.2.1,s7.2.2.2,x29.1)).bind fun o31 =>
 (Kl s7.2.1 x16.Target).bind fun x37 =>
 some ((s7.2.1.set ((x16.Target).toNat) o31.2.2),o31.1,o31.2.1)).bind fun o10 =>
 some (Sum.inl ((IntKind.i64.wrap (s7.1+1)),o10.1,o10.2.1,o10.2.2))
 else
 some (Sum.inr (s7.2.1,s7.2.2.2))

noncomputable def Fd8 (o8:List Taa×List Bool) (s39:List Bool×Int×List Int):Option ((List Bool×Int×List Int)⊕(List Int)) :=
 bif (decide (s39.2.1<((o8.2).length:Int))) then
 ((Kl s39.1 s39.2.1).bind fun x43 =>
 bif x43 then
 (Zn 8 s39.2.2 [s39.2.1]).bind fun x46 =>
 some x46
 else
 some s39.2.2).bind fun o42 =>
 some (Sum.inl (s39.1,(IntKind.i64.wrap (s39.2.1+1)),o42))
 else
 some (Sum.inr s39.2.2)

noncomputable def Fdp (p0:List Taa) (p1:Taa) (p2:Int) (p3:List Tap) (p4:List Tao) (p5:Int):Option (List Taa×List Int) :=
 (Zn 16 ([]:List Taa) p0).bind fun x1 =>
 (Gce 1 false ((x1).length:Int)).bind fun x3 =>
 (Gce 1 false ((p3).length:Int)).bind fun x5 =>
 (Sb (Faj p1 p2 p3 p4 p5) (0,x1,x3,x5)).bind fun o8 =>
 (Sb (Fd8 o8) (o8.2,0,([]:List Int))).bind fun o40 =>
 some (o8.1,o40)

noncomputable def Fe8 (p0:List Int) (s3:Int×List Taa):Option ((Int×List Taa)⊕(List Taa)) :=
 bif (decide (s3.1<((p0).length:Int))) then
 (Kl p0 s3.1).bind fun x6 =>
 (Kl s3.2 s3.1).bind fun x8 =>
 some (Sum.inl ((IntKind.i64.wrap (s3.1+1)),(s3.2.set ((s3.1).toNat) (Taa.mk x8.Low x6))))
 else
 some (Sum.inr s3.2)

noncomputable def Fer (p0:List Int) (p1:List Tap) (p2:List Tao) (p3:Int):Option (List Taa×List Int) :=
 (Gce 16 (Taa.mk 0 0) ((p0).length:Int)).bind fun x1 =>
 (Sb (Fe8 p0) (0,x1)).bind fun o4 =>
 (Fdp o4 (Taa.mk 0 1000000) 1 p1 p2 p3).bind fun x10 =>
 some (x10.1,x10.2)

noncomputable def Fc5 (p0:List Int) (p1:List Int) (s2:Int):Option (Int⊕(Unit⊕Unit)) :=
 bif (decide (s2<((p0).length:Int))) then
 (Kl p0 s2).bind fun x7 =>
 (Kl p1 s2).bind fun x9 =>
 bif (decide (x7≠x9)) then
 some (Sum.inr (Sum.inl ()))
 else
 some (Sum.inl (IntKind.i64.wrap (s2+1)))
 else
 some (Sum.inr (Sum.inr ()))

noncomputable def Fde (p0:List Int) (p1:List Int):Option (Bool) :=
 bif (decide (((p0).length:Int)≠((p1).length:Int))) then
 some false
 else
 (Sb (Fc5 p0 p1) 0).bind fun o3 =>
 Sum.elim (fun j4 =>
 some false)
 (fun j5 =>
 some true) o3

noncomputable def Fco (p0:List Taa) (p1:List Taa) (s2:Int):Option (Int⊕(Unit⊕Unit)) :=
 bif (decide (s2<((p0).length:Int))) then
 (Kl p0 s2).bind fun x7 =>
 (Kl p1 s2).bind fun x9 =>
 bif (!((x7.Low == x9.Low)&&((x7.High == x9.High)&&true))) then
 some (Sum.inr (Sum.inl ()))
 else
 some (Sum.inl (IntKind.i64.wrap (s2+1)))
 else
 some (Sum.inr (Sum.inr ()))

noncomputable def Fd5 (p0:List Taa) (p1:List Taa):Option (Bool) :=
 bif (decide (((p0).length:Int)≠((p1).length:Int))) then
 some false
 else
 (Sb (Fco p0 p1) 0).bind fun o3 =>
 Sum.elim (fun j4 =>
 some false)
 (fun j5 =>
 some true) o3

noncomputable def Fcr  : Option (Bool) :=
 (Fc4 (Tah.mk [(Tac.mk 0 true),(Tac.mk 0 false)] [(Tae.mk 0 1 1 1 false false (Taa.mk 1 1) (Taa.mk 0 0))]) [(Taa.mk 200 220)] [(Tal.mk 0 (Taa.mk 0 1001000))]).bind fun x1 =>
 (Fer [50] [(Tap.mk 0 1 0 0 0 0 0 9)] [(Tao.mk 0 0 (Taa.mk 20 90))] 0).bind fun x3 =>
 bif (decide (x1.2.2=0)) then
 (Fde x1.1 [0,5005]).bind fun x6 =>
 bif x6 then
 (Fde x1.2.1 [5005]).bind fun x9 =>
 bif x9 then
 (Fd5 x3.1 [(Taa.mk 20 50)]).bind fun x12 =>
 bif x12 then
 some (decide (((x3.2).length:Int)=0))
 else
 some false
 else
 some false
 else
 some false
 else
 some false

noncomputable def Fe5 (p0:List Int):Option (Tab) :=
 (Glf p0 0 (min ((p0).length:Int) 300)).bind fun x1 =>
 some (Tab.mk x1 0)

noncomputable def Fab (p0:Tab) (p1:Int):Option (Tab×Int) :=
 (bif (decide (p1<1)) then
 some true
 else
 some (decide (((p0.l).length:Int)≤p0.at_))).bind fun o1 =>
 bif o1 then
 some (p0,0)
 else
 (Kl p0.l (IntKind.i64.wrap ((IntKind.i64.wrap (p0.at_+1))-1))).bind fun x4 =>
 (bif (decide (256<p1)) then
 some (decide ((IntKind.i64.wrap (p0.at_+1))<((p0.l).length:Int)))
 else
 some false).bind fun o6 =>
 (bif o6 then
 (Kl p0.l (IntKind.i64.wrap (p0.at_+1))).bind fun x10 =>
 some ((IntKind.i64.wrap ((IntKind.i64.wrap ((IntKind.i64.wrap x4)*256))+(IntKind.i64.wrap x10))),(IntKind.i64.wrap ((IntKind.i64.wrap (p0.at_+1))+1)))
 else
 some ((IntKind.i64.wrap x4),(IntKind.i64.wrap (p0.at_+1)))).bind fun o8 =>
 (Gi4 o8.1 p1).bind fun x12 =>
 some ((Tab.mk p0.l o8.2),x12)

noncomputable def Faf (p0:Tab) (p1:Int):Option (Tab×Bool) :=
 (Fab p0 p1).bind fun x1 =>
 some (x1.1,(decide (x1.2=(IntKind.i64.wrap (p1-1)))))

noncomputable def Fac (p0:Tab) (p1:Int) (p2:Int):Option (Tab×Int) :=
 (Fab p0 (IntKind.i64.wrap ((IntKind.i64.wrap (p2-p1))+1))).bind fun x1 =>
 some (x1.1,(IntKind.i64.wrap (p1+x1.2)))

noncomputable def Fax (p0:Tab) (p1:Int) (p2:Int):Option (Tab×Tae) :=
 (Fac p0 1 400).bind fun x1 =>
 (Fac x1.1 4 30).bind fun x3 =>
 (Fab x3.1 4).bind fun x5 =>
 (Fac x5.1 1 20).bind fun x7 =>
 (Fab x7.1 3).bind fun x9 =>
 (Fac x9.1 (-300) 300).bind fun x11 =>
 (Fab x11.1 20).bind fun x13 =>
 some (x13.1,(Tae.mk p1 p2 x1.2 x3.2 (decide (0<x5.2)) false (Taa.mk x7.2 (IntKind.i64.wrap (x7.2+x9.2))) (Taa.mk x11.2 (IntKind.i64.wrap (x11.2+x13.2)))))

noncomputable def Fb9  (s7:Int×List Tam×Tab):Option ((Int×List Tam×Tab)⊕(List Tam×Tab)) :=
 bif (decide (0<s7.1)) then
 (Kl s7.2.1 (IntKind.i64.wrap (((s7.2.1).length:Int)-1))).bind fun x10 =>
 (Fac s7.2.2 1 40).bind fun x12 =>
 (Fab x12.1 900).bind fun x14 =>
 (Zn 16 s7.2.1 [(Tam.mk (IntKind.i64.wrap (x10.Flow+x12.2)) (max 0 (IntKind.i64.wrap (x10.Pressure-x14.2))))]).bind fun x16 =>
 some (Sum.inl ((IntKind.i64.wrap (s7.1-1)),x16,x14.1))
 else
 some (Sum.inr (s7.2.1,s7.2.2))

noncomputable def Fa7 (p0:Tab):Option (Tab×List Tam) :=
 (Fac p0 (-20) 10).bind fun x1 =>
 (Fac x1.1 500 3000).bind fun x3 =>
 (Fab x3.1 4).bind fun x5 =>
 (Sb Fb9 (x5.2,[(Tam.mk x1.2 x3.2)],x5.1)).bind fun o8 =>
 some (o8.2,o8.1)

noncomputable def Fcj  (s5:Int×List Int×Tab):Option ((Int×List Int×Tab)⊕(List Int×Tab)) :=
 bif (decide (0<s5.1)) then
 (Kl s5.2.1 (IntKind.i64.wrap (((s5.2.1).length:Int)-1))).bind fun x8 =>
 (Fac s5.2.2 1 60).bind fun x10 =>
 (Zn 8 s5.2.1 [(max 0 (IntKind.i64.wrap (x8-x10.2)))]).bind fun x12 =>
 some (Sum.inl ((IntKind.i64.wrap (s5.1-1)),x12,x10.1))
 else
 some (Sum.inr (s5.2.1,s5.2.2))

noncomputable def Fbh (p0:Tab) (p1:Int):Option (Tab×Tai) :=
 (Fac p0 200 900).bind fun x1 =>
 (Fac x1.1 1 3).bind fun x3 =>
 (Sb Fcj (x3.2,[x1.2],x3.1)).bind fun o6 =>
 some (o6.2,(Tai.mk p1 (-1) o6.1))

noncomputable def Fau (p1:Taj) (s4:Int×List Int×Tab×List Tak):Option ((Int×List Int×Tab×List Tak)⊕(List Int×Tab×List Tak)) :=
 (bif (decide (0<s4.1)) then
 some (decide (0<((p1.Mine.Roads).length:Int)))
 else
 some false).bind fun o6 =>
 bif o6 then
 (Fab s4.2.2.1 ((p1.Mine.Roads).length:Int)).bind fun x9 =>
 (Faf x9.1 3).bind fun x11 =>
 (Faf x11.1 3).bind fun x13 =>
 (Fa7 x13.1).bind fun x15 =>
 (Zn 40 s4.2.2.2 [(Tak.mk x9.2 x11.2 x13.2 x15.2)]).bind fun x17 =>
 (Fab x15.1 3).bind fun x19 =>
 (Zn 8 s4.2.1 [x19.2]).bind fun x21 =>
 some (Sum.inl ((IntKind.i64.wrap (s4.1-1)),x21,x19.1,x17))
 else
 some (Sum.inr (s4.2.1,s4.2.2.1,s4.2.2.2))

noncomputable def Fav (p1:Taj) (s26:Int×Taf×Tab×List Tai):Option ((Int×Taf×Tab×List Tai)⊕(Taf×Tab×List Tai)) :=
 (bif (decide (0<s26.1)) then
 some ((decide (0<((p1.Mine.Roads).length:Int))),s26.2.1)
 else
 some (false,s26.2.1)).bind fun o28 =>
 bif o28.1 then
 (Fab s26.2.2.1 ((p1.Mine.Roads).length:Int)).bind fun x31 =>
 (Fbh x31.1 x31.2).bind fun x33 =>
 (Zn 40 s26.2.2.2 [x33.2]).bind fun x35 =>
 (Fab x33.1 ((x33.2.Rests).length:Int)).bind fun x37 =>
 (Zn 8 o28.2.Doors [x37.2]).bind fun x39 =>
 some (Sum.inl ((IntKind.i64.wrap (s26.1-1)),(Taf.mk o28.2.Fans x39),x37.1,x35))
 else
 some (Sum.inr (o28.2,s26.2.2.1,s26.2.2.2))

noncomputable def Fae (p0:Tab) (p1:Taj):Option (Tab×Taj×Taf) :=
 (Fab p0 3).bind fun x2 =>
 (Sb (Fau p1) (x2.2,[],x2.1,p1.Fans)).bind fun o5 =>
 (Fab o5.2.1 3).bind fun x24 =>
 (Sb (Fav p1) (x24.2,(Taf.mk o5.1 ([]:List Int)),x24.1,p1.Doors)).bind fun o27 =>
 some (o27.2.1,(Taj.mk p1.Mine o5.2.2 o27.2.2),o27.1)

noncomputable def Fef (p0:Tai) (s14:Int×Taa):Option ((Int×Taa)⊕Taa) :=
 bif (decide (s14.1<((p0.Rests).length:Int))) then
 (Kl p0.Rests s14.1).bind fun x17 =>
 (Kl p0.Rests s14.1).bind fun x19 =>
 some (Sum.inl ((IntKind.i64.wrap (s14.1+1)),(Taa.mk (min s14.2.Low x17) (max s14.2.High x19))))
 else
 some (Sum.inr s14.2)

noncomputable def Fb3 (p0:Tai) (p1:Int):Option (Taa) :=
 (bif (decide (((p0.Rests).length:Int)=0)) then
 some true
 else
 bif (decide (p1<(-1))) then
 some true
 else
 some (decide (((p0.Rests).length:Int)≤p1))).bind fun o1 =>
 bif o1 then
 some (Taa.mk 0 0)
 else
 bif (decide (0≤p1)) then
 (Kl p0.Rests p1).bind fun x6 =>
 (Kl p0.Rests p1).bind fun x8 =>
 some (Taa.mk x6 x8)
 else
 (Kl p0.Rests 0).bind fun x10 =>
 (Kl p0.Rests 0).bind fun x12 =>
 (Sb (Fef p0) (0,(Taa.mk x10 x12))).bind fun o15 =>
 some o15

noncomputable def Fcs (p0:Int) (p1:Int):Option (Int) :=
 (Gno .i64 p0 p1).bind fun x1 =>
 (Gi4 p0 p1).bind fun x3 =>
 (bif (decide (x3<0)) then
 some (IntKind.i64.wrap (x1-1))
 else
 some x1).bind fun o5 =>
 some o5

noncomputable def Fel (p0:Int) (p1:Int):Option (Int) :=
 (Fcs (IntKind.i64.wrap (0-p0)) p1).bind fun x1 =>
 some (IntKind.i64.wrap (0-x1))

noncomputable def Fdo (p0:Tak) (p1:Int) (s15:Int):Option (Int⊕Int) :=
 (Kl p0.Curve (IntKind.i64.wrap (s15+1))).bind fun x17 =>
 bif (decide (x17.Flow≤p1)) then
 some (Sum.inl (IntKind.i64.wrap (s15+1)))
 else
 some (Sum.inr s15)

noncomputable def Fct (p0:Tak) (p1:Int):Option (Taa) :=
 (Kl p0.Curve 0).bind fun x1 =>
 bif (decide (p1≤x1.Flow)) then
 (Kl p0.Curve 0).bind fun x4 =>
 (Kl p0.Curve 0).bind fun x6 =>
 some (Taa.mk x4.Pressure x6.Pressure)
 else
 (Kl p0.Curve (IntKind.i64.wrap (((p0.Curve).length:Int)-1))).bind fun x8 =>
 bif (decide (x8.Flow≤p1)) then
 (Kl p0.Curve (IntKind.i64.wrap (((p0.Curve).length:Int)-1))).bind fun x11 =>
 (Kl p0.Curve (IntKind.i64.wrap (((p0.Curve).length:Int)-1))).bind fun x13 =>
 some (Taa.mk x11.Pressure x13.Pressure)
 else
 (Sb (Fdo p0 p1) 0).bind fun o16 =>
 (Kl p0.Curve o16).bind fun x20 =>
 (Kl p0.Curve (IntKind.i64.wrap (o16+1))).bind fun x22 =>
 (Fcs (IntKind.i64.wrap ((IntKind.i64.wrap (x22.Pressure-x20.Pressure))*(IntKind.i64.wrap (p1-x20.Flow)))) (IntKind.i64.wrap (x22.Flow-x20.Flow))).bind fun x24 =>
 (Fel (IntKind.i64.wrap ((IntKind.i64.wrap (x22.Pressure-x20.Pressure))*(IntKind.i64.wrap (p1-x20.Flow)))) (IntKind.i64.wrap (x22.Flow-x20.Flow))).bind fun x26 =>
 some (Taa.mk (IntKind.i64.wrap (x20.Pressure+x24)) (IntKind.i64.wrap (x20.Pressure+x26)))

noncomputable def Fbi (p0:Tak) (p1:Bool) (p2:Int):Option (Taa) :=
 bif p1 then
 (Fct p0 (IntKind.i64.wrap (0-p2))).bind fun x2 =>
 some (Taa.mk (IntKind.i64.wrap (0-x2.High)) (IntKind.i64.wrap (0-x2.Low)))
 else
 (Fct p0 p2).bind fun x4 =>
 some x4

noncomputable def Fcu (p0:Tak) (p1:Int) (p2:Int):Option (Taa) :=
 bif (decide (p1=0)) then
 some (Taa.mk 0 0)
 else
 bif (decide (p1=1)) then
 (Fbi p0 p0.Back p2).bind fun x3 =>
 some x3
 else
 bif (decide (p1=2)) then
 (Fbi p0 (!p0.Back) p2).bind fun x6 =>
 some x6
 else
 (Fbi p0 false p2).bind fun x8 =>
 (Fbi p0 true p2).bind fun x10 =>
 some (Taa.mk (min (min x8.Low x10.Low) 0) (max (max x8.High x10.High) 0))

noncomputable def Fbk (p1:Taj) (p2:Taf) (s4:Int×Tab×List Tae) (s13:Int×Int):Option ((Int×Int)⊕Int) :=
 bif (decide (s13.2<((p1.Doors).length:Int))) then
 ((Kl p1.Doors s13.2).bind fun x17 =>
 bif (decide (x17.Road=s4.1)) then
 (Kl p1.Doors s13.2).bind fun x20 =>
 (Kl p2.Doors s13.2).bind fun x22 =>
 (Fb3 x20 x22).bind fun x24 =>
 some (IntKind.i64.wrap (s13.1+x24.Low))
 else
 some s13.1).bind fun o16 =>
 some (Sum.inl (o16,(IntKind.i64.wrap (s13.2+1))))
 else
 some (Sum.inr s13.1)

noncomputable def Fbl (p1:Taj) (p2:Taf) (s4:Int×Tab×List Tae) (x9:Int) (s32:Int×Int):Option ((Int×Int)⊕Int) :=
 bif (decide (s32.2<((p1.Fans).length:Int))) then
 ((Kl p1.Fans s32.2).bind fun x36 =>
 bif (decide (x36.Road=s4.1)) then
 (Kl p1.Fans s32.2).bind fun x39 =>
 (Kl p2.Fans s32.2).bind fun x41 =>
 (Fcu x39 x41 x9).bind fun x43 =>
 some (IntKind.i64.wrap (s32.1-x43.Low))
 else
 some s32.1).bind fun o35 =>
 some (Sum.inl (o35,(IntKind.i64.wrap (s32.2+1))))
 else
 some (Sum.inr s32.1)

noncomputable def Fbj (p1:Taj) (p2:Taf) (p3:Tan) (s4:Int×Tab×List Tae):Option ((Int×Tab×List Tae)⊕(Tab×List Tae)) :=
 bif (decide (s4.1<((s4.2.2).length:Int))) then
 (Kl s4.2.2 s4.1).bind fun x7 =>
 (Kl p3.Flows s4.1).bind fun x9 =>
 (Fab s4.2.1 (IntKind.i64.wrap ((IntKind.i64.wrap (x7.Rest.High-x7.Rest.Low))+1))).bind fun x11 =>
 (Sb (Fbk p1 p2 s4) ((IntKind.i64.wrap (x7.Rest.Low+x11.2)),0)).bind fun o14 =>
 ((s4.2.2)[(s4.1).toNat]?).bind fun x26 =>
 (Kl p3.Pressures x26.From).bind fun x28 =>
 (Kl p3.Pressures x26.To).bind fun x30 =>
 (Sb (Fbl p1 p2 s4 x9) ((IntKind.i64.wrap ((IntKind.i64.wrap ((IntKind.i64.wrap (o14*(max x9 (IntKind.i64.wrap (0-x9)))))*x9))-(IntKind.i64.wrap (x28-x30)))),0)).bind fun o33 =>
 (Fab x11.1 30).bind fun x45 =>
 (Fab x45.1 30).bind fun x47 =>
 ((s4.2.2)[(s4.1).toNat]?).bind fun x49 =>
 some (Sum.inl ((IntKind.i64.wrap (s4.1+1)),x47.1,(s4.2.2.set ((s4.1).toNat) (Tae.mk x49.From x49.To x49.Length x49.Area x49.Walk x49.Closed x49.Rest (Taa.mk (IntKind.i64.wrap (o33-x45.2)) (IntKind.i64.wrap (o33+x47.2)))))))
 else
 some (Sum.inr (s4.2.1,s4.2.2))

noncomputable def Fan (p0:Tab) (p1:Taj) (p2:Taf) (p3:Tan):Option (Tab×Taj) :=
 (Sb (Fbj p1 p2 p3) (0,p0,p1.Mine.Roads)).bind fun o5 =>
 some (o5.1,(Taj.mk (Tah.mk p1.Mine.Places o5.2) p1.Fans p1.Doors))

noncomputable def Fb0 (p2:Taf) (s1:Int×List Int×Tab):Option ((Int×List Int×Tab)⊕(List Int×Tab)) :=
 bif (decide (s1.1<((p2.Fans).length:Int))) then
 (Kl p2.Fans s1.1).bind fun x4 =>
 (Faf s1.2.2 5).bind fun x6 =>
 (bif x6.2 then
 some (-1)
 else
 some x4).bind fun o8 =>
 (Zn 8 s1.2.1 [o8]).bind fun x10 =>
 some (Sum.inl ((IntKind.i64.wrap (s1.1+1)),x10,x6.1))
 else
 some (Sum.inr (s1.2.1,s1.2.2))

noncomputable def Fb1 (p2:Taf) (s12:Int×Taf×Tab):Option ((Int×Taf×Tab)⊕(Taf×Tab)) :=
 bif (decide (s12.1<((p2.Doors).length:Int))) then
 (Kl p2.Doors s12.1).bind fun x15 =>
 (Faf s12.2.2 5).bind fun x17 =>
 (bif x17.2 then
 some ((-1),s12.2.1)
 else
 some (x15,s12.2.1)).bind fun o19 =>
 (Zn 8 o19.2.Doors [o19.1]).bind fun x21 =>
 some (Sum.inl ((IntKind.i64.wrap (s12.1+1)),(Taf.mk o19.2.Fans x21),x17.1))
 else
 some (Sum.inr (s12.2.1,s12.2.2))

noncomputable def Fa0 (p0:Tab) (p1:Taj) (p2:Taf):Option (Tab×Taf) :=
 (Sb (Fb0 p2) (0,[],p0)).bind fun o2 =>
 (Sb (Fb1 p2) (0,(Taf.mk o2.1 ([]:List Int)),o2.2)).bind fun o13 =>
 some (o13.2,o13.1)

noncomputable def Fch  (s9:Int×List Tac×Tab):Option ((Int×List Tac×Tab)⊕(List Tac×Tab)) :=
 bif (decide (0<s9.1)) then
 (Fab s9.2.2 100).bind fun x12 =>
 (Zn 16 s9.2.1 [(Tac.mk (IntKind.i64.wrap (0-x12.2)) false)]).bind fun x14 =>
 some (Sum.inl ((IntKind.i64.wrap (s9.1-1)),x14,x12.1))
 else
 some (Sum.inr (s9.2.1,s9.2.2))

noncomputable def Fci (o10:List Tac×Tab) (s18:Int×List Int×Tab):Option ((Int×List Int×Tab)⊕(List Int×Tab)) :=
 bif (decide (s18.1<((o10.1).length:Int))) then
 (Fac s18.2.2 (-4000) 4000).bind fun x21 =>
 (Kl s18.2.1 s18.1).bind fun x23 =>
 some (Sum.inl ((IntKind.i64.wrap (s18.1+1)),(s18.2.1.set ((s18.1).toNat) x21.2),x21.1))
 else
 some (Sum.inr (s18.2.1,s18.2.2))

noncomputable def Fbc (o10:List Tac×Tab) (s31:Int×List Int×Taj×Tan×Tab):Option ((Int×List Int×Taj×Tan×Tab)⊕(List Int×Taj×Tan×Tab)) :=
 bif (decide (0<s31.1)) then
 (Fab s31.2.2.2.2 ((o10.1).length:Int)).bind fun x34 =>
 (Fab x34.1 (IntKind.i64.wrap (((o10.1).length:Int)-1))).bind fun x36 =>
 (Gi4 (IntKind.i64.wrap ((IntKind.i64.wrap (x34.2+1))+x36.2)) ((o10.1).length:Int)).bind fun x38 =>
 (Fax x36.1 x34.2 x38).bind fun x40 =>
 (Faf x40.1 7).bind fun x42 =>
 (Fac x42.1 (-60) 60).bind fun x44 =>
 (bif x42.2 then
 some (0,(Taj.mk s31.2.2.1.Mine ([]:List Tak) ([]:List Tai)),s31.2.2.2.1)
 else
 some (x44.2,(Taj.mk s31.2.2.1.Mine ([]:List Tak) ([]:List Tai)),s31.2.2.2.1)).bind fun o46 =>
 (Zn 72 o46.2.1.Mine.Roads [(Tae.mk x40.2.From x40.2.To x40.2.Length x40.2.Area x40.2.Walk x42.2 x40.2.Rest x40.2.Lift)]).bind fun x48 =>
 (Zn 8 o46.2.2.Flows [o46.1]).bind fun x50 =>
 (Kl s31.2.1 x40.2.From).bind fun x52 =>
 (Kl s31.2.1 x40.2.From).bind fun x54 =>
 (Kl (s31.2.1.set ((x40.2.From).toNat) (IntKind.i64.wrap (x52+o46.1))) x40.2.To).bind fun x56 =>
 (Kl (s31.2.1.set ((x40.2.From).toNat) (IntKind.i64.wrap (x52+o46.1))) x40.2.To).bind fun x58 =>
 some (Sum.inl ((IntKind.i64.wrap (s31.1-1)),((s31.2.1.set ((x40.2.From).toNat) (IntKind.i64.wrap (x52+o46.1))).set ((x40.2.To).toNat) (IntKind.i64.wrap (x56-o46.1))),(Taj.mk (Tah.mk o46.2.1.Mine.Places x48) ([]:List Tak) ([]:List Tai)),(Tan.mk o46.2.2.Pressures x50),x44.1))
 else
 some (Sum.inr (s31.2.1,(Taj.mk s31.2.2.1.Mine ([]:List Tak) ([]:List Tai)),s31.2.2.2.1,s31.2.2.2.2))

noncomputable def Fbd (o3:List Tac) (o10:List Tac×Tab) (o27:List Int×Taj×Tan×Tab) (s60:Int×Taj×Tan×Tab):Option ((Int×Taj×Tan×Tab)⊕(Taj×Tan×Tab)) :=
 bif (decide (s60.1<((o10.1).length:Int))) then
 (Fab s60.2.2.2 ((o3).length:Int)).bind fun x63 =>
 (Fax x63.1 s60.1 x63.2).bind fun x65 =>
 (Kl o27.1 s60.1).bind fun x67 =>
 (Faf x65.1 2).bind fun x69 =>
 (bif x69.2 then
 some ((IntKind.i64.wrap (0-(IntKind.i64.wrap (0-x67)))),(Tae.mk x65.2.To x65.2.From x65.2.Length x65.2.Area x65.2.Walk x65.2.Closed x65.2.Rest x65.2.Lift),(Taj.mk s60.2.1.Mine ([]:List Tak) ([]:List Tai)),s60.2.2.1)
 else
 some ((IntKind.i64.wrap (0-x67)),x65.2,(Taj.mk s60.2.1.Mine ([]:List Tak) ([]:List Tai)),s60.2.2.1)).bind fun o71 =>
 (Zn 72 o71.2.2.1.Mine.Roads [o71.2.1]).bind fun x73 =>
 (Zn 8 o71.2.2.2.Flows [o71.1]).bind fun x75 =>
 some (Sum.inl ((IntKind.i64.wrap (s60.1+1)),(Taj.mk (Tah.mk o71.2.2.1.Mine.Places x73) ([]:List Tak) ([]:List Tai)),(Tan.mk o71.2.2.2.Pressures x75),x69.1))
 else
 some (Sum.inr ((Taj.mk s60.2.1.Mine ([]:List Tak) ([]:List Tai)),s60.2.2.1,s60.2.2.2))

noncomputable def Fbg (p0:Tab):Option (Tab×Taj×Taf×Tan) :=
 (Faf p0 3).bind fun x1 =>
 (bif x1.2 then
 (Zn 16 [(Tac.mk 0 true)] [(Tac.mk 10 true)]).bind fun x5 =>
 some x5
 else
 some [(Tac.mk 0 true)]).bind fun o3 =>
 (Fab x1.1 5).bind fun x7 =>
 (Sb Fch (x7.2,o3,x7.1)).bind fun o10 =>
 (Gce 8 0 ((o10.1).length:Int)).bind fun x16 =>
 (Sb (Fci o10) (((o3).length:Int),x16,o10.2)).bind fun o19 =>
 (Gce 8 0 ((o10.1).length:Int)).bind fun x25 =>
 (bif (decide (1<((o10.1).length:Int))) then
 (Fab o19.2 6).bind fun x29 =>
 (Sb (Fbc o10) (x29.2,x25,(Taj.mk (Tah.mk o10.1 ([]:List Tae)) ([]:List Tak) ([]:List Tai)),(Tan.mk o19.1 ([]:List Int)),x29.1)).bind fun o32 =>
 some (o32.1,(Taj.mk o32.2.1.Mine ([]:List Tak) ([]:List Tai)),o32.2.2.1,o32.2.2.2)
 else
 some (x25,(Taj.mk (Tah.mk o10.1 ([]:List Tae)) ([]:List Tak) ([]:List Tai)),(Tan.mk o19.1 ([]:List Int)),o19.2)).bind fun o27 =>
 (Sb (Fbd o3 o10 o27) (((o3).length:Int),(Taj.mk o27.2.1.Mine ([]:List Tak) ([]:List Tai)),o27.2.2.1,o27.2.2.2)).bind fun o61 =>
 (Fae o61.2.2 (Taj.mk o61.1.Mine ([]:List Tak) ([]:List Tai))).bind fun x77 =>
 (Fan x77.1 x77.2.1 x77.2.2 o61.2.1).bind fun x79 =>
 (Fa0 x79.1 x79.2 x77.2.2).bind fun x81 =>
 some (x81.1,x79.2,x81.2,o61.2.1)

noncomputable def Fdc (p0:Taa) (p1:Int) (p2:Int):Option (Bool) :=
 bif (decide (p1≤p0.Low)) then
 bif (decide (p0.Low≤p0.High)) then
 some (decide (p0.High≤p2))
 else
 some false
 else
 some false

noncomputable def Fbr (p0:Tah) (s4:Int):Option (Int⊕(Unit⊕Unit)) :=
 bif (decide (s4<((p0.Places).length:Int))) then
 (Kl p0.Places s4).bind fun x9 =>
 (bif (decide (x9.Height<(-10000))) then
 some true
 else
 some (decide (10000<x9.Height))).bind fun o11 =>
 bif o11 then
 some (Sum.inr (Sum.inl ()))
 else
 some (Sum.inl (IntKind.i64.wrap (s4+1)))
 else
 some (Sum.inr (Sum.inr ()))

noncomputable def Fbs (p0:Tah) (s14:Int):Option (Int⊕(Int⊕Unit)) :=
 bif (decide (s14<((p0.Roads).length:Int))) then
 (Kl p0.Roads s14).bind fun x19 =>
 (bif (decide (x19.From<0)) then
 some true
 else
 bif (decide (((p0.Places).length:Int)≤x19.From)) then
 some true
 else
 bif (decide (x19.To<0)) then
 some true
 else
 bif (decide (((p0.Places).length:Int)≤x19.To)) then
 some true
 else
 some (decide (x19.From=x19.To))).bind fun o21 =>
 bif o21 then
 some (Sum.inr (Sum.inl 4))
 else
 (bif (decide (x19.Length<1)) then
 some true
 else
 bif (decide (100000<x19.Length)) then
 some true
 else
 bif (decide (x19.Area<1)) then
 some true
 else
 bif (decide (1000<x19.Area)) then
 some true
 else
 (Fdc x19.Rest 1 262144).bind fun x32 =>
 bif (!x32) then
 some true
 else
 (Fdc x19.Lift (-2199023255552) 2199023255552).bind fun x35 =>
 some (!x35)).bind fun o27 =>
 bif o27 then
 some (Sum.inr (Sum.inl 1))
 else
 some (Sum.inl (IntKind.i64.wrap (s14+1)))
 else
 some (Sum.inr (Sum.inr ()))

noncomputable def Fcq (p0:Tah):Option (Int) :=
 (bif (decide (64<((p0.Places).length:Int))) then
 some true
 else
 some (decide (128<((p0.Roads).length:Int)))).bind fun o1 =>
 bif o1 then
 some 2
 else
 (Sb (Fbr p0) 0).bind fun o5 =>
 Sum.elim (fun j6 =>
 some 1)
 (fun j7 =>
 (Sb (Fbs p0) 0).bind fun o15 =>
 Sum.elim (fun j16 =>
 some j16)
 (fun j17 =>
 some 0) o15) o5

noncomputable def Fdq (p0:Tah) (p1:List Tal) (s5:Int):Option (Int⊕(Int⊕Unit)) :=
 bif (decide (s5<((p1).length:Int))) then
 ((Kl p1 s5).bind fun x11 =>
 bif (decide (x11.Road<0)) then
 some true
 else
 (Kl p1 s5).bind fun x14 =>
 some (decide (((p0.Roads).length:Int)≤x14.Road))).bind fun o10 =>
 bif o10 then
 some (Sum.inr (Sum.inl 4))
 else
 (Kl p1 s5).bind fun x17 =>
 (Fdc x17.Inflow 0 1099511627776).bind fun x19 =>
 bif (!x19) then
 some (Sum.inr (Sum.inl 1))
 else
 some (Sum.inl (IntKind.i64.wrap (s5+1)))
 else
 some (Sum.inr (Sum.inr ()))

noncomputable def Ff6 (p0:Tah) (p1:List Tal):Option (Int) :=
 (Fcq p0).bind fun x1 =>
 bif (decide (x1≠0)) then
 some x1
 else
 bif (decide (32<((p1).length:Int))) then
 some 2
 else
 (Sb (Fdq p0 p1) 0).bind fun o6 =>
 Sum.elim (fun j7 =>
 some j7)
 (fun j8 =>
 some 0) o6

noncomputable def Ffa (p0:Taa):Option (Int) :=
 bif (decide (p0.High<p0.Low)) then
 some 0
 else
 bif (decide (0<p0.Low)) then
 some 1
 else
 bif (decide (p0.High<0)) then
 some (-1)
 else
 some 0

noncomputable def Fdr (p2:List Tal) (s9:Int×List Int×List Int×List Bool) (s13:Int×Int):Option ((Int×Int)⊕Int) :=
 bif (decide (s13.2<((p2).length:Int))) then
 ((Kl p2 s13.2).bind fun x17 =>
 bif (decide (x17.Road=s9.1)) then
 (Kl p2 s13.2).bind fun x20 =>
 some (IntKind.i64.wrap (s13.1+x20.Inflow.High))
 else
 some s13.1).bind fun o16 =>
 some (Sum.inl (o16,(IntKind.i64.wrap (s13.2+1))))
 else
 some (Sum.inr s13.1)

noncomputable def Fcm (p0:Tak) (s5:Int):Option (Int⊕(Int⊕Unit)) :=
 bif (decide (s5<((p0.Curve).length:Int))) then
 (Kl p0.Curve s5).bind fun x10 =>
 (bif (decide (x10.Flow<(-1048576))) then
 some true
 else
 bif (decide (1048576<x10.Flow)) then
 some true
 else
 bif (decide (x10.Pressure<0)) then
 some true
 else
 some (decide (2199023255552<x10.Pressure))).bind fun o12 =>
 bif o12 then
 some (Sum.inr (Sum.inl 1))
 else
 (bif (decide (0<s5)) then
 (Kl p0.Curve (IntKind.i64.wrap (s5-1))).bind fun x19 =>
 bif (decide (x10.Flow≤x19.Flow)) then
 some true
 else
 (Kl p0.Curve (IntKind.i64.wrap (s5-1))).bind fun x22 =>
 some (decide (x22.Pressure<x10.Pressure))
 else
 some false).bind fun o17 =>
 bif o17 then
 some (Sum.inr (Sum.inl 14))
 else
 some (Sum.inl (IntKind.i64.wrap (s5+1)))
 else
 some (Sum.inr (Sum.inr ()))

noncomputable def Fdx (p0:Tak):Option (Int) :=
 bif (decide (p0.Road<0)) then
 some 4
 else
 (bif (decide (((p0.Curve).length:Int)<1)) then
 some true
 else
 some (decide (8<((p0.Curve).length:Int)))).bind fun o2 =>
 bif o2 then
 some 2
 else
 (Sb (Fcm p0) 0).bind fun o6 =>
 Sum.elim (fun j7 =>
 some j7)
 (fun j8 =>
 some 0) o6

noncomputable def Fbt (x7:Tai) (s13:Int):Option (Int⊕(Unit⊕Unit)) :=
 bif (decide (s13<((x7.Rests).length:Int))) then
 ((Kl x7.Rests s13).bind fun x19 =>
 bif (decide (x19<0)) then
 some true
 else
 (Kl x7.Rests s13).bind fun x22 =>
 some (decide (262144<x22))).bind fun o18 =>
 bif o18 then
 some (Sum.inr (Sum.inl ()))
 else
 some (Sum.inl (IntKind.i64.wrap (s13+1)))
 else
 some (Sum.inr (Sum.inr ()))

noncomputable def Fbu (x7:Tai) (s25:Int):Option (Int⊕(Unit⊕Unit)) :=
 bif (decide (s25<((x7.Rests).length:Int))) then
 (Kl x7.Rests s25).bind fun x30 =>
 (Kl x7.Rests (IntKind.i64.wrap (s25-1))).bind fun x32 =>
 bif (decide (x32≤x30)) then
 some (Sum.inr (Sum.inl ()))
 else
 some (Sum.inl (IntKind.i64.wrap (s25+1)))
 else
 some (Sum.inr (Sum.inr ()))

noncomputable def Fcn (p0:List Tai) (s2:Int):Option (Int⊕(Int⊕Unit)) :=
 bif (decide (s2<((p0).length:Int))) then
 (Kl p0 s2).bind fun x7 =>
 bif (decide (x7.Road<0)) then
 some (Sum.inr (Sum.inl 4))
 else
 (bif (decide (((x7.Rests).length:Int)<2)) then
 some true
 else
 some (decide (6<((x7.Rests).length:Int)))).bind fun o10 =>
 bif o10 then
 some (Sum.inr (Sum.inl 2))
 else
 (Sb (Fbt x7) 0).bind fun o14 =>
 Sum.elim (fun j15 =>
 some (Sum.inr (Sum.inl 1)))
 (fun j16 =>
 (Sb (Fbu x7) 1).bind fun o26 =>
 Sum.elim (fun j27 =>
 some (Sum.inr (Sum.inl 15)))
 (fun j28 =>
 (bif (decide (x7.Other≠(-1))) then
 bif (decide (x7.Other<0)) then
 some true
 else
 bif (decide (((p0).length:Int)≤x7.Other)) then
 some true
 else
 bif (decide (x7.Other=s2)) then
 some true
 else
 (Kl p0 x7.Other).bind fun x40 =>
 some (decide (x40.Other≠s2))
 else
 some false).bind fun o35 =>
 bif o35 then
 some (Sum.inr (Sum.inl 15))
 else
 some (Sum.inl (IntKind.i64.wrap (s2+1)))) o26) o14
 else
 some (Sum.inr (Sum.inr ()))

noncomputable def Fdy (p0:List Tai):Option (Int) :=
 bif (decide (16<((p0).length:Int))) then
 some 2
 else
 (Sb (Fcn p0) 0).bind fun o3 =>
 Sum.elim (fun j4 =>
 some j4)
 (fun j5 =>
 some 0) o3

noncomputable def Fbv (p0:Taj) (s5:Int):Option (Int⊕(Int⊕Unit)) :=
 bif (decide (s5<((p0.Fans).length:Int))) then
 (Kl p0.Fans s5).bind fun x10 =>
 (Fdx x10).bind fun x12 =>
 bif (decide (x12≠0)) then
 some (Sum.inr (Sum.inl x12))
 else
 (Kl p0.Fans s5).bind fun x15 =>
 bif (decide (((p0.Mine.Roads).length:Int)≤x15.Road)) then
 some (Sum.inr (Sum.inl 4))
 else
 some (Sum.inl (IntKind.i64.wrap (s5+1)))
 else
 some (Sum.inr (Sum.inr ()))

noncomputable def Fbw (p0:Taj) (s21:Int):Option (Int⊕(Unit⊕Unit)) :=
 bif (decide (s21<((p0.Doors).length:Int))) then
 (Kl p0.Doors s21).bind fun x26 =>
 bif (decide (((p0.Mine.Roads).length:Int)≤x26.Road)) then
 some (Sum.inr (Sum.inl ()))
 else
 some (Sum.inl (IntKind.i64.wrap (s21+1)))
 else
 some (Sum.inr (Sum.inr ()))

noncomputable def Fa1 (p0:Taj):Option (Int) :=
 (Fcq p0.Mine).bind fun x1 =>
 bif (decide (x1≠0)) then
 some x1
 else
 bif (decide (8<((p0.Fans).length:Int))) then
 some 2
 else
 (Sb (Fbv p0) 0).bind fun o6 =>
 Sum.elim (fun j7 =>
 some j7)
 (fun j8 =>
 (Fdy p0.Doors).bind fun x18 =>
 bif (decide (x18≠0)) then
 some x18
 else
 (Sb (Fbw p0) 0).bind fun o22 =>
 Sum.elim (fun j23 =>
 some 4)
 (fun j24 =>
 some 0) o22) o6

noncomputable def Fbx (p1:Taf) (s7:Int):Option (Int⊕(Unit⊕Unit)) :=
 bif (decide (s7<((p1.Fans).length:Int))) then
 ((Kl p1.Fans s7).bind fun x13 =>
 bif (decide (x13<(-1))) then
 some true
 else
 (Kl p1.Fans s7).bind fun x16 =>
 some (decide (2<x16))).bind fun o12 =>
 bif o12 then
 some (Sum.inr (Sum.inl ()))
 else
 some (Sum.inl (IntKind.i64.wrap (s7+1)))
 else
 some (Sum.inr (Sum.inr ()))

noncomputable def Fby (p0:Taj) (p1:Taf) (s19:Int):Option (Int⊕(Unit⊕Unit)) :=
 bif (decide (s19<((p1.Doors).length:Int))) then
 ((Kl p1.Doors s19).bind fun x25 =>
 bif (decide (x25<(-1))) then
 some true
 else
 (Kl p1.Doors s19).bind fun x28 =>
 (Kl p0.Doors s19).bind fun x30 =>
 some (decide (((x30.Rests).length:Int)≤x28))).bind fun o24 =>
 bif o24 then
 some (Sum.inr (Sum.inl ()))
 else
 some (Sum.inl (IntKind.i64.wrap (s19+1)))
 else
 some (Sum.inr (Sum.inr ()))

noncomputable def Fa2 (p0:Taj) (p1:Taf):Option (Bool) :=
 ((Fa1 p0).bind fun x2 =>
 bif (decide (x2≠0)) then
 some true
 else
 bif (decide (((p1.Fans).length:Int)≠((p0.Fans).length:Int))) then
 some true
 else
 some (decide (((p1.Doors).length:Int)≠((p0.Doors).length:Int)))).bind fun o1 =>
 bif o1 then
 some false
 else
 (Sb (Fbx p1) 0).bind fun o8 =>
 Sum.elim (fun j9 =>
 some false)
 (fun j10 =>
 (Sb (Fby p0 p1) 0).bind fun o20 =>
 Sum.elim (fun j21 =>
 some false)
 (fun j22 =>
 some true) o20) o8

noncomputable def Fej (p0:Taj) (p1:Taf) (p2:Int):Option (Bool) :=
 (Fa2 p0 p1).bind fun x1 =>
 bif x1 then
 bif (decide (0≤p2)) then
 bif (decide (p2<((p0.Mine.Roads).length:Int))) then
 (Kl p0.Mine.Roads p2).bind fun x6 =>
 some (!x6.Closed)
 else
 some false
 else
 some false
 else
 some false

noncomputable def Fdk (p0:Taj) (p1:Taf) (p2:Int) (s3:Int×Taa):Option ((Int×Taa)⊕Taa) :=
 bif (decide (s3.1<((p0.Doors).length:Int))) then
 ((Kl p0.Doors s3.1).bind fun x7 =>
 bif (decide (x7.Road=p2)) then
 (Kl p0.Doors s3.1).bind fun x10 =>
 (Kl p1.Doors s3.1).bind fun x12 =>
 (Fb3 x10 x12).bind fun x14 =>
 some (Taa.mk (IntKind.i64.wrap (s3.2.Low+x14.Low)) (IntKind.i64.wrap (s3.2.High+x14.High)))
 else
 some s3.2).bind fun o6 =>
 some (Sum.inl ((IntKind.i64.wrap (s3.1+1)),o6))
 else
 some (Sum.inr s3.2)

noncomputable def Fdl (p0:Taj) (p1:Taf) (p2:Int) (p3:Int) (s18:Int×Taa):Option ((Int×Taa)⊕Taa) :=
 bif (decide (s18.1<((p0.Fans).length:Int))) then
 ((Kl p0.Fans s18.1).bind fun x22 =>
 bif (decide (x22.Road=p2)) then
 (Kl p0.Fans s18.1).bind fun x25 =>
 (Kl p1.Fans s18.1).bind fun x27 =>
 (Fcu x25 x27 p3).bind fun x29 =>
 some (Taa.mk (IntKind.i64.wrap (s18.2.Low-x29.High)) (IntKind.i64.wrap (s18.2.High-x29.Low)))
 else
 some s18.2).bind fun o21 =>
 some (Sum.inl ((IntKind.i64.wrap (s18.1+1)),o21))
 else
 some (Sum.inr s18.2)

noncomputable def Fcd (p0:Taj) (p1:Taf) (p2:Int) (p3:Int):Option (Taa) :=
 (Kl p0.Mine.Roads p2).bind fun x1 =>
 (Sb (Fdk p0 p1 p2) (0,x1.Rest)).bind fun o4 =>
 (bif (decide (p3<0)) then
 some (Taa.mk (IntKind.i64.wrap (0-(IntKind.i64.wrap ((IntKind.i64.wrap (o4.High*p3))*p3)))) (IntKind.i64.wrap (0-(IntKind.i64.wrap ((IntKind.i64.wrap (o4.Low*p3))*p3)))))
 else
 some (Taa.mk (IntKind.i64.wrap ((IntKind.i64.wrap (o4.Low*p3))*p3)) (IntKind.i64.wrap ((IntKind.i64.wrap (o4.High*p3))*p3)))).bind fun o16 =>
 (Sb (Fdl p0 p1 p2 p3) (0,(Taa.mk (IntKind.i64.wrap (o16.Low-x1.Lift.High)) (IntKind.i64.wrap (o16.High-x1.Lift.Low))))).bind fun o19 =>
 some o19

noncomputable def Fek (p0:Taj) (p1:Taf) (p2:Int) (p3:Int):Option (Taa) :=
 ((Fej p0 p1 p2).bind fun x2 =>
 bif (!x2) then
 some true
 else
 bif (decide (p3<(-1048577))) then
 some true
 else
 some (decide (1048577<p3))).bind fun o1 =>
 bif o1 then
 some (Taa.mk 0 0)
 else
 (Fcd p0 p1 p2 p3).bind fun x7 =>
 some x7

noncomputable def Fb6 (p2:Tan) (s10:Int):Option (Int⊕(Unit⊕Unit)) :=
 bif (decide (s10<((p2.Pressures).length:Int))) then
 ((Kl p2.Pressures s10).bind fun x16 =>
 bif (decide (x16<(-70368744177664))) then
 some true
 else
 (Kl p2.Pressures s10).bind fun x19 =>
 some (decide (70368744177664<x19))).bind fun o15 =>
 bif o15 then
 some (Sum.inr (Sum.inl ()))
 else
 some (Sum.inl (IntKind.i64.wrap (s10+1)))
 else
 some (Sum.inr (Sum.inr ()))

noncomputable def Fb7 (p2:Tan) (s22:Int):Option (Int⊕(Unit⊕Unit)) :=
 bif (decide (s22<((p2.Flows).length:Int))) then
 ((Kl p2.Flows s22).bind fun x28 =>
 bif (decide (x28<(-1048576))) then
 some true
 else
 (Kl p2.Flows s22).bind fun x31 =>
 some (decide (1048576<x31))).bind fun o27 =>
 bif o27 then
 some (Sum.inr (Sum.inl ()))
 else
 some (Sum.inl (IntKind.i64.wrap (s22+1)))
 else
 some (Sum.inr (Sum.inr ()))

noncomputable def Fea (p0:Taj) (p1:Taf) (p2:Tan) (s36:Int×List Int):Option ((Int×List Int)⊕(Unit⊕(List Int))) :=
 bif (decide (s36.1<((p2.Flows).length:Int))) then
 (Kl p0.Mine.Roads s36.1).bind fun x41 =>
 (bif x41.Closed then
 (Kl p2.Flows s36.1).bind fun x45 =>
 some (decide (x45≠0))
 else
 some false).bind fun o43 =>
 bif o43 then
 some (Sum.inr (Sum.inl ()))
 else
 (Kl p2.Pressures x41.From).bind fun x48 =>
 (Kl p2.Pressures x41.To).bind fun x50 =>
 (Kl p2.Flows s36.1).bind fun x52 =>
 (Fek p0 p1 s36.1 x52).bind fun x54 =>
 (bif (!x41.Closed) then
 bif (decide ((IntKind.i64.wrap (x48-x50))<x54.Low)) then
 some true
 else
 some (decide (x54.High<(IntKind.i64.wrap (x48-x50))))
 else
 some false).bind fun o56 =>
 bif o56 then
 some (Sum.inr (Sum.inl ()))
 else
 (Kl s36.2 x41.From).bind fun x60 =>
 (Kl p2.Flows s36.1).bind fun x62 =>
 (Kl s36.2 x41.From).bind fun x64 =>
 (Kl (s36.2.set ((x41.From).toNat) (IntKind.i64.wrap (x60+x62))) x41.To).bind fun x66 =>
 (Kl p2.Flows s36.1).bind fun x68 =>
 (Kl (s36.2.set ((x41.From).toNat) (IntKind.i64.wrap (x60+x62))) x41.To).bind fun x70 =>
 some (Sum.inl ((IntKind.i64.wrap (s36.1+1)),((s36.2.set ((x41.From).toNat) (IntKind.i64.wrap (x60+x62))).set ((x41.To).toNat) (IntKind.i64.wrap (x66-x68)))))
 else
 some (Sum.inr (Sum.inr s36.2))

noncomputable def Fb8 (p0:Taj) (p2:Tan) (j39:List Int) (s72:Int):Option (Int⊕(Unit⊕Unit)) :=
 bif (decide (s72<((j39).length:Int))) then
 ((Kl p0.Mine.Places s72).bind fun x78 =>
 bif x78.Surface then
 (Kl p2.Pressures s72).bind fun x81 =>
 bif (decide (x81≠0)) then
 some true
 else
 (Kl p0.Mine.Places s72).bind fun x84 =>
 bif (!x84.Surface) then
 (Kl j39 s72).bind fun x87 =>
 some (decide (x87≠0))
 else
 some false
 else
 (Kl p0.Mine.Places s72).bind fun x89 =>
 bif (!x89.Surface) then
 (Kl j39 s72).bind fun x92 =>
 some (decide (x92≠0))
 else
 some false).bind fun o77 =>
 bif o77 then
 some (Sum.inr (Sum.inl ()))
 else
 some (Sum.inl (IntKind.i64.wrap (s72+1)))
 else
 some (Sum.inr (Sum.inr ()))

noncomputable def Fei (p0:Taj) (p1:Taf) (p2:Tan):Option (Int) :=
 (Fa1 p0).bind fun x1 =>
 bif (decide (x1≠0)) then
 some x1
 else
 (Fa2 p0 p1).bind fun x4 =>
 bif (!x4) then
 some 21
 else
 (bif (decide (((p2.Pressures).length:Int)≠((p0.Mine.Places).length:Int))) then
 some true
 else
 some (decide (((p2.Flows).length:Int)≠((p0.Mine.Roads).length:Int)))).bind fun o7 =>
 bif o7 then
 some 11
 else
 (Sb (Fb6 p2) 0).bind fun o11 =>
 Sum.elim (fun j12 =>
 some 1)
 (fun j13 =>
 (Sb (Fb7 p2) 0).bind fun o23 =>
 Sum.elim (fun j24 =>
 some 1)
 (fun j25 =>
 (Gce 8 0 ((p2.Pressures).length:Int)).bind fun x34 =>
 (Sb (Fea p0 p1 p2) (0,x34)).bind fun o37 =>
 Sum.elim (fun j38 =>
 some 10)
 (fun j39 =>
 (Sb (Fb8 p0 p2 j39) 0).bind fun o73 =>
 Sum.elim (fun j74 =>
 some 10)
 (fun j75 =>
 some 0) o73) o37) o23) o11

noncomputable def Fbf (p0:List Int) (s1:Int):Option (Int⊕(Unit⊕Unit)) :=
 bif (decide (s1<((p0).length:Int))) then
 ((Kl p0 s1).bind fun x7 =>
 bif (decide (x7<(-70368744177664))) then
 some true
 else
 (Kl p0 s1).bind fun x10 =>
 some (decide (70368744177664<x10))).bind fun o6 =>
 bif o6 then
 some (Sum.inr (Sum.inl ()))
 else
 some (Sum.inl (IntKind.i64.wrap (s1+1)))
 else
 some (Sum.inr (Sum.inr ()))

noncomputable def Fbp (p0:List Int):Option (Bool) :=
 (Sb (Fbf p0) 0).bind fun o2 =>
 Sum.elim (fun j3 =>
 some false)
 (fun j4 =>
 some true) o2

noncomputable def Fc1 (p0:Tah) (s6:Bool×Int×List Bool):Option ((Bool×Int×List Bool)⊕(Bool×List Bool)) :=
 bif (decide (s6.2.1<((p0.Roads).length:Int))) then
 ((Kl p0.Roads s6.2.1).bind fun x10 =>
 (bif (!x10.Closed) then
 (Kl s6.2.2 x10.From).bind fun x14 =>
 (Kl s6.2.2 x10.To).bind fun x16 =>
 some (x14 != x16)
 else
 some false).bind fun o12 =>
 bif o12 then
 (Kl s6.2.2 x10.From).bind fun x19 =>
 (Kl (s6.2.2.set ((x10.From).toNat) true) x10.To).bind fun x21 =>
 some (true,((s6.2.2.set ((x10.From).toNat) true).set ((x10.To).toNat) true))
 else
 some (s6.1,s6.2.2)).bind fun o9 =>
 some (Sum.inl (o9.1,(IntKind.i64.wrap (s6.2.1+1)),o9.2))
 else
 some (Sum.inr (s6.1,s6.2.2))

noncomputable def Feb (p0:Tah) (s3:Bool×List Bool):Option ((Bool×List Bool)⊕(List Bool)) :=
 bif s3.1 then
 (Sb (Fc1 p0) (false,0,s3.2)).bind fun o7 =>
 some (Sum.inl (o7.1,o7.2))
 else
 some (Sum.inr s3.2)

noncomputable def Fe1 (p0:Tah) (p1:List Bool):Option (List Bool) :=
 (Zn 1 ([]:List Bool) p1).bind fun x1 =>
 (Sb (Feb p0) (true,x1)).bind fun o4 =>
 some o4

noncomputable def Fec (p0:Tah) (s3:Int×List Bool):Option ((Int×List Bool)⊕(List Bool)) :=
 bif (decide (s3.1<((p0.Places).length:Int))) then
 (Kl p0.Places s3.1).bind fun x6 =>
 (Kl s3.2 s3.1).bind fun x8 =>
 some (Sum.inl ((IntKind.i64.wrap (s3.1+1)),(s3.2.set ((s3.1).toNat) x6.Surface)))
 else
 some (Sum.inr s3.2)

noncomputable def Fda (p0:Tah):Option (List Bool) :=
 (Gce 1 false ((p0.Places).length:Int)).bind fun x1 =>
 (Sb (Fec p0) (0,x1)).bind fun o4 =>
 (Fe1 p0 o4).bind fun x10 =>
 some x10

noncomputable def Fdi (p0:Tah) (s3:Int×List Bool):Option ((Int×List Bool)⊕(List Bool)) :=
 bif (decide (s3.1<((s3.2).length:Int))) then
 ((Kl s3.2 s3.1).bind fun x7 =>
 bif (!x7) then
 (Kl s3.2 s3.1).bind fun x10 =>
 some (s3.2.set ((s3.1).toNat) true)
 else
 (Kl p0.Places s3.1).bind fun x12 =>
 (Kl s3.2 s3.1).bind fun x14 =>
 some (s3.2.set ((s3.1).toNat) x12.Surface)).bind fun o6 =>
 some (Sum.inl ((IntKind.i64.wrap (s3.1+1)),o6))
 else
 some (Sum.inr s3.2)

noncomputable def Fcc (p0:Tah):Option (List Bool) :=
 (Fda p0).bind fun x1 =>
 (Sb (Fdi p0) (0,x1)).bind fun o4 =>
 some o4

noncomputable def Fbq (p2:List Int) (x11:List Bool) (s13:Int):Option (Int⊕(Unit⊕Unit)) :=
 bif (decide (s13<((p2).length:Int))) then
 ((Kl x11 s13).bind fun x19 =>
 bif x19 then
 (Kl p2 s13).bind fun x22 =>
 some (decide (x22≠0))
 else
 some false).bind fun o18 =>
 bif o18 then
 some (Sum.inr (Sum.inl ()))
 else
 some (Sum.inl (IntKind.i64.wrap (s13+1)))
 else
 some (Sum.inr (Sum.inr ()))

noncomputable def Fdw (p0:Taj) (p1:Taf) (p2:List Int):Option (Int) :=
 (Fa1 p0).bind fun x1 =>
 bif (decide (x1≠0)) then
 some x1
 else
 (Fa2 p0 p1).bind fun x4 =>
 bif (!x4) then
 some 21
 else
 bif (decide (((p2).length:Int)≠((p0.Mine.Places).length:Int))) then
 some 11
 else
 (Fbp p2).bind fun x8 =>
 bif (!x8) then
 some 1
 else
 (Fcc p0.Mine).bind fun x11 =>
 (Sb (Fbq p2 x11) 0).bind fun o14 =>
 Sum.elim (fun j15 =>
 some 12)
 (fun j16 =>
 some 0) o14

noncomputable def Fc7 (p0:Taj) (p1:Taf) (p2:Int) (p3:Int) (s1:Int×Int):Option ((Int×Int)⊕Int) :=
 bif (decide (s1.2<s1.1)) then
 (Fcd p0 p1 p2 (IntKind.i64.wrap (s1.2+(IntKind.i64.wrap (Int.tdiv (IntKind.i64.wrap ((IntKind.i64.wrap (s1.1-s1.2))+1)) 2))))).bind fun x4 =>
 bif (decide (x4.High≤p3)) then
 some (Sum.inl (s1.1,(IntKind.i64.wrap (s1.2+(IntKind.i64.wrap (Int.tdiv (IntKind.i64.wrap ((IntKind.i64.wrap (s1.1-s1.2))+1)) 2))))))
 else
 some (Sum.inl ((IntKind.i64.wrap ((IntKind.i64.wrap (s1.2+(IntKind.i64.wrap (Int.tdiv (IntKind.i64.wrap ((IntKind.i64.wrap (s1.1-s1.2))+1)) 2))))-1)),s1.2))
 else
 some (Sum.inr s1.2)

noncomputable def Fa5 (p0:Taj) (p1:Taf) (p2:Int) (p3:Int):Option (Int) :=
 (Sb (Fc7 p0 p1 p2 p3) (1048576,(-1048577))).bind fun o2 =>
 some o2

noncomputable def Fc2 (p0:Taj) (p1:Taf) (p2:Int) (p3:Int) (s1:Int×Int):Option ((Int×Int)⊕Int) :=
 bif (decide (s1.2<s1.1)) then
 (Fcd p0 p1 p2 (IntKind.i64.wrap (s1.2+(IntKind.i64.wrap (Int.tdiv (IntKind.i64.wrap (s1.1-s1.2)) 2))))).bind fun x4 =>
 bif (decide (p3≤x4.Low)) then
 some (Sum.inl ((IntKind.i64.wrap (s1.2+(IntKind.i64.wrap (Int.tdiv (IntKind.i64.wrap (s1.1-s1.2)) 2)))),s1.2))
 else
 some (Sum.inl (s1.1,(IntKind.i64.wrap ((IntKind.i64.wrap (s1.2+(IntKind.i64.wrap (Int.tdiv (IntKind.i64.wrap (s1.1-s1.2)) 2))))+1))))
 else
 some (Sum.inr s1.2)

noncomputable def Fay (p0:Taj) (p1:Taf) (p2:Int) (p3:Int):Option (Int) :=
 (Sb (Fc2 p0 p1 p2 p3) (1048577,(-1048576))).bind fun o2 =>
 some o2

noncomputable def Fc8 (p0:Taj) (p1:Taf) (p2:List Int) (p3:Int) (s1:Int×Int):Option ((Int×Int)⊕Int) :=
 bif (decide (s1.1<((p0.Mine.Roads).length:Int))) then
 ((Kl p0.Mine.Roads s1.1).bind fun x5 =>
 bif x5.Closed then
 some s1.2
 else
 (bif (decide (x5.From=p3)) then
 (Kl p2 x5.From).bind fun x10 =>
 (Kl p2 x5.To).bind fun x12 =>
 (Fa5 p0 p1 s1.1 (IntKind.i64.wrap (x10-x12))).bind fun x14 =>
 some (IntKind.i64.wrap (s1.2+x14))
 else
 some s1.2).bind fun o8 =>
 bif (decide (x5.To=p3)) then
 (Kl p2 x5.From).bind fun x17 =>
 (Kl p2 x5.To).bind fun x19 =>
 (Fay p0 p1 s1.1 (IntKind.i64.wrap (x17-x19))).bind fun x21 =>
 some (IntKind.i64.wrap (o8-x21))
 else
 some o8).bind fun o4 =>
 some (Sum.inl ((IntKind.i64.wrap (s1.1+1)),o4))
 else
 some (Sum.inr s1.2)

noncomputable def Fa6 (p0:Taj) (p1:Taf) (p2:List Int) (p3:Int):Option (Int) :=
 (Sb (Fc8 p0 p1 p2 p3) (0,0)).bind fun o2 =>
 some o2

noncomputable def Fet (p0:Taj) (p1:Taf) (p3:Int) (s10:Int×Int×List Int):Option ((Int×Int×List Int)⊕(Unit⊕(Int×List Int))) :=
 (Kl s10.2.2 p3).bind fun x14 =>
 (Fa6 p0 p1 (s10.2.2.set ((p3).toNat) (min (IntKind.i64.wrap (s10.1+s10.2.1)) 70368744177664)) p3).bind fun x16 =>
 bif (decide (0≤x16)) then
 some (Sum.inr (Sum.inr (s10.1,(s10.2.2.set ((p3).toNat) (min (IntKind.i64.wrap (s10.1+s10.2.1)) 70368744177664)))))
 else
 (Kl (s10.2.2.set ((p3).toNat) (min (IntKind.i64.wrap (s10.1+s10.2.1)) 70368744177664)) p3).bind fun x19 =>
 bif (decide (x19=70368744177664)) then
 some (Sum.inr (Sum.inl ()))
 else
 (Kl (s10.2.2.set ((p3).toNat) (min (IntKind.i64.wrap (s10.1+s10.2.1)) 70368744177664)) p3).bind fun x22 =>
 some (Sum.inl (x22,(IntKind.i64.wrap (s10.2.1*2)),(s10.2.2.set ((p3).toNat) (min (IntKind.i64.wrap (s10.1+s10.2.1)) 70368744177664))))

noncomputable def Feu (p0:Taj) (p1:Taf) (p3:Int) (s26:Int×Int×List Int):Option ((Int×Int×List Int)⊕Int) :=
 bif (decide ((IntKind.i64.wrap (s26.1+1))<s26.2.1)) then
 (Kl s26.2.2 p3).bind fun x29 =>
 (Fa6 p0 p1 (s26.2.2.set ((p3).toNat) (IntKind.i64.wrap (s26.1+(IntKind.i64.wrap (Int.tdiv (IntKind.i64.wrap (s26.2.1-s26.1)) 2))))) p3).bind fun x31 =>
 bif (decide (0≤x31)) then
 (Kl (s26.2.2.set ((p3).toNat) (IntKind.i64.wrap (s26.1+(IntKind.i64.wrap (Int.tdiv (IntKind.i64.wrap (s26.2.1-s26.1)) 2))))) p3).bind fun x34 =>
 some (Sum.inl (s26.1,x34,(s26.2.2.set ((p3).toNat) (IntKind.i64.wrap (s26.1+(IntKind.i64.wrap (Int.tdiv (IntKind.i64.wrap (s26.2.1-s26.1)) 2)))))))
 else
 (Kl (s26.2.2.set ((p3).toNat) (IntKind.i64.wrap (s26.1+(IntKind.i64.wrap (Int.tdiv (IntKind.i64.wrap (s26.2.1-s26.1)) 2))))) p3).bind fun x36 =>
 some (Sum.inl (x36,s26.2.1,(s26.2.2.set ((p3).toNat) (IntKind.i64.wrap (s26.1+(IntKind.i64.wrap (Int.tdiv (IntKind.i64.wrap (s26.2.1-s26.1)) 2)))))))
 else
 some (Sum.inr s26.2.1)

noncomputable def Fem (p0:Taj) (p1:Taf) (p2:List Int) (p3:Int):Option (Int×Bool) :=
 (Zn 8 ([]:List Int) p2).bind fun x1 =>
 (Fa6 p0 p1 x1 p3).bind fun x3 =>
 bif (decide (0≤x3)) then
 (Kl x1 p3).bind fun x6 =>
 some (x6,true)
 else
 (Kl x1 p3).bind fun x8 =>
 (Sb (Fet p0 p1 p3) (x8,1,x1)).bind fun o11 =>
 Sum.elim (fun j12 =>
 some (0,false))
 (fun j13 =>
 (Kl j13.2 p3).bind fun x24 =>
 (Sb (Feu p0 p1 p3) (j13.1,x24,j13.2)).bind fun o27 =>
 some (o27,true)) o11

noncomputable def Fc3 (p0:Taj) (p1:Taf) (p2:List Int) (p3:Int) (s1:Int×Int):Option ((Int×Int)⊕Int) :=
 bif (decide (s1.1<((p0.Mine.Roads).length:Int))) then
 ((Kl p0.Mine.Roads s1.1).bind fun x5 =>
 bif x5.Closed then
 some s1.2
 else
 (bif (decide (x5.From=p3)) then
 (Kl p2 x5.From).bind fun x10 =>
 (Kl p2 x5.To).bind fun x12 =>
 (Fay p0 p1 s1.1 (IntKind.i64.wrap (x10-x12))).bind fun x14 =>
 some (IntKind.i64.wrap (s1.2+x14))
 else
 some s1.2).bind fun o8 =>
 bif (decide (x5.To=p3)) then
 (Kl p2 x5.From).bind fun x17 =>
 (Kl p2 x5.To).bind fun x19 =>
 (Fa5 p0 p1 s1.1 (IntKind.i64.wrap (x17-x19))).bind fun x21 =>
 some (IntKind.i64.wrap (o8-x21))
 else
 some o8).bind fun o4 =>
 some (Sum.inl ((IntKind.i64.wrap (s1.1+1)),o4))
 else
 some (Sum.inr s1.2)

noncomputable def Faz (p0:Taj) (p1:Taf) (p2:List Int) (p3:Int):Option (Int) :=
 (Sb (Fc3 p0 p1 p2 p3) (0,0)).bind fun o2 =>
 some o2

noncomputable def Fed (p0:Taj) (p1:Taf) (p3:Int) (s10:Int×Int×List Int):Option ((Int×Int×List Int)⊕(Unit⊕(Int×List Int))) :=
 (Kl s10.2.2 p3).bind fun x14 =>
 (Faz p0 p1 (s10.2.2.set ((p3).toNat) (max (IntKind.i64.wrap (s10.1-s10.2.1)) (-70368744177664))) p3).bind fun x16 =>
 bif (decide (x16≤0)) then
 some (Sum.inr (Sum.inr (s10.1,(s10.2.2.set ((p3).toNat) (max (IntKind.i64.wrap (s10.1-s10.2.1)) (-70368744177664))))))
 else
 (Kl (s10.2.2.set ((p3).toNat) (max (IntKind.i64.wrap (s10.1-s10.2.1)) (-70368744177664))) p3).bind fun x19 =>
 bif (decide (x19=(-70368744177664))) then
 some (Sum.inr (Sum.inl ()))
 else
 (Kl (s10.2.2.set ((p3).toNat) (max (IntKind.i64.wrap (s10.1-s10.2.1)) (-70368744177664))) p3).bind fun x22 =>
 some (Sum.inl (x22,(IntKind.i64.wrap (s10.2.1*2)),(s10.2.2.set ((p3).toNat) (max (IntKind.i64.wrap (s10.1-s10.2.1)) (-70368744177664)))))

noncomputable def Fee (p0:Taj) (p1:Taf) (p3:Int) (s26:Int×Int×List Int):Option ((Int×Int×List Int)⊕Int) :=
 bif (decide ((IntKind.i64.wrap (s26.2.1+1))<s26.1)) then
 (Kl s26.2.2 p3).bind fun x29 =>
 (Faz p0 p1 (s26.2.2.set ((p3).toNat) (IntKind.i64.wrap (s26.2.1+(IntKind.i64.wrap (Int.tdiv (IntKind.i64.wrap (s26.1-s26.2.1)) 2))))) p3).bind fun x31 =>
 bif (decide (x31≤0)) then
 (Kl (s26.2.2.set ((p3).toNat) (IntKind.i64.wrap (s26.2.1+(IntKind.i64.wrap (Int.tdiv (IntKind.i64.wrap (s26.1-s26.2.1)) 2))))) p3).bind fun x34 =>
 some (Sum.inl (s26.1,x34,(s26.2.2.set ((p3).toNat) (IntKind.i64.wrap (s26.2.1+(IntKind.i64.wrap (Int.tdiv (IntKind.i64.wrap (s26.1-s26.2.1)) 2)))))))
 else
 (Kl (s26.2.2.set ((p3).toNat) (IntKind.i64.wrap (s26.2.1+(IntKind.i64.wrap (Int.tdiv (IntKind.i64.wrap (s26.1-s26.2.1)) 2))))) p3).bind fun x36 =>
 some (Sum.inl (x36,s26.2.1,(s26.2.2.set ((p3).toNat) (IntKind.i64.wrap (s26.2.1+(IntKind.i64.wrap (Int.tdiv (IntKind.i64.wrap (s26.1-s26.2.1)) 2)))))))
 else
 some (Sum.inr s26.2.1)

noncomputable def Fdb (p0:Taj) (p1:Taf) (p2:List Int) (p3:Int):Option (Int×Bool) :=
 (Zn 8 ([]:List Int) p2).bind fun x1 =>
 (Faz p0 p1 x1 p3).bind fun x3 =>
 bif (decide (x3≤0)) then
 (Kl x1 p3).bind fun x6 =>
 some (x6,true)
 else
 (Kl x1 p3).bind fun x8 =>
 (Sb (Fed p0 p1 p3) (x8,1,x1)).bind fun o11 =>
 Sum.elim (fun j12 =>
 some (0,false))
 (fun j13 =>
 (Kl j13.2 p3).bind fun x24 =>
 (Sb (Fee p0 p1 p3) (j13.1,x24,j13.2)).bind fun o27 =>
 some (o27,true)) o11

noncomputable def Fcl (p0:Taj) (p1:Taf) (p3:Bool) (x6:List Bool) (s13:Bool×Int×List Int):Option ((Bool×Int×List Int)⊕(Unit⊕(Bool×List Int))) :=
 bif (decide (s13.2.1<((s13.2.2).length:Int))) then
 ((Kl x6 s13.2.1).bind fun x21 =>
 bif x21 then
 some (Sum.inr (s13.1,s13.2.2))
 else
 (bif p3 then
 (Fem p0 p1 s13.2.2 s13.2.1).bind fun x26 =>
 some (x26.1,x26.2)
 else
 (Fdb p0 p1 s13.2.2 s13.2.1).bind fun x28 =>
 some (x28.1,x28.2)).bind fun o24 =>
 bif (!o24.2) then
 some (Sum.inl ())
 else
 (bif s13.1 then
 some true
 else
 (Kl s13.2.2 s13.2.1).bind fun x33 =>
 some (decide (o24.1≠x33))).bind fun o31 =>
 (Kl s13.2.2 s13.2.1).bind fun x35 =>
 some (Sum.inr (o31,(s13.2.2.set ((s13.2.1).toNat) o24.1)))).bind fun o18 =>
 Sum.elim (fun j19 =>
 some (Sum.inr (Sum.inl ())))
 (fun j20 =>
 some (Sum.inl (j20.1,(IntKind.i64.wrap (s13.2.1+1)),j20.2))) o18
 else
 some (Sum.inr (Sum.inr (s13.1,s13.2.2)))

noncomputable def Fdj (p0:Taj) (p1:Taf) (p3:Bool) (x6:List Bool) (s8:Int×List Int):Option ((Int×List Int)⊕((Int×List Int)⊕Unit)) :=
 bif (decide (s8.1<200)) then
 (Sb (Fcl p0 p1 p3 x6) (false,0,s8.2)).bind fun o14 =>
 Sum.elim (fun j15 =>
 some (Sum.inr (Sum.inl (2,([]:List Int)))))
 (fun j16 =>
 bif (!j16.1) then
 some (Sum.inr (Sum.inl (0,j16.2)))
 else
 some (Sum.inl ((IntKind.i64.wrap (s8.1+1)),j16.2))) o14
 else
 some (Sum.inr (Sum.inr ()))

noncomputable def Fcp (p0:Taj) (p1:Taf) (p2:List Int) (p3:Bool):Option (List Int×Int) :=
 (Fdw p0 p1 p2).bind fun x1 =>
 bif (decide (x1≠0)) then
 some (([]:List Int),x1)
 else
 (Zn 8 ([]:List Int) p2).bind fun x4 =>
 (Fcc p0.Mine).bind fun x6 =>
 (Sb (Fdj p0 p1 p3 x6) (0,x4)).bind fun o9 =>
 Sum.elim (fun j10 =>
 some (j10.2,j10.1))
 (fun j11 =>
 some (([]:List Int),2)) o9

noncomputable def Fc9 (p0:Taj) (p1:Taf) (p2:List Int):Option (List Int×Int) :=
 (Fcp p0 p1 p2 false).bind fun x1 =>
 some (x1.1,x1.2)

noncomputable def Feg (p0:Taj) (p1:Taf) (p2:List Int):Option (List Int×Int) :=
 (Fcp p0 p1 p2 true).bind fun x1 =>
 some (x1.1,x1.2)

noncomputable def Fds (p0:Taj) (p1:Taf):Option (Taq×Int) :=
 (Gce 8 0 ((p0.Mine.Places).length:Int)).bind fun x1 =>
 (Fc9 p0 p1 x1).bind fun x3 =>
 bif (decide (x3.2≠0)) then
 some ((Taq.mk ([]:List Int) ([]:List Int)),x3.2)
 else
 (Feg p0 p1 x3.1).bind fun x6 =>
 bif (decide (x6.2≠0)) then
 some ((Taq.mk ([]:List Int) ([]:List Int)),x6.2)
 else
 (Fc9 p0 p1 x6.1).bind fun x9 =>
 bif (decide (x9.2≠0)) then
 some ((Taq.mk ([]:List Int) ([]:List Int)),x9.2)
 else
 some ((Taq.mk x9.1 x6.1),0)

noncomputable def Fbo (p0:Taj) (p1:Taf) (p2:Taq) (x17:List Bool) (s19:Int):Option (Int⊕(Unit⊕Unit)) :=
 bif (decide (s19<((p0.Mine.Places).length:Int))) then
 ((Kl x17 s19).bind fun x27 =>
 bif x27 then
 ((Kl p2.Low s19).bind fun x31 =>
 bif (decide (x31≠0)) then
 some true
 else
 (Kl p2.High s19).bind fun x34 =>
 some (decide (x34≠0))).bind fun o30 =>
 bif o30 then
 some (Sum.inl ())
 else
 some (Sum.inr ())
 else
 ((Fa6 p0 p1 p2.High s19).bind fun x38 =>
 bif (decide (x38<0)) then
 some true
 else
 (Faz p0 p1 p2.Low s19).bind fun x41 =>
 some (decide (0<x41))).bind fun o37 =>
 bif o37 then
 some (Sum.inl ())
 else
 some (Sum.inr ())).bind fun o24 =>
 Sum.elim (fun j25 =>
 some (Sum.inr (Sum.inl ())))
 (fun j26 =>
 some (Sum.inl (IntKind.i64.wrap (s19+1)))) o24
 else
 some (Sum.inr (Sum.inr ()))

noncomputable def Fdt (p0:Taj) (p1:Taf) (p2:Taq):Option (Int) :=
 (Fa1 p0).bind fun x1 =>
 bif (decide (x1≠0)) then
 some x1
 else
 (Fa2 p0 p1).bind fun x4 =>
 bif (!x4) then
 some 21
 else
 (bif (decide (((p2.Low).length:Int)≠((p0.Mine.Places).length:Int))) then
 some true
 else
 some (decide (((p2.High).length:Int)≠((p0.Mine.Places).length:Int)))).bind fun o7 =>
 bif o7 then
 some 11
 else
 ((Fbp p2.Low).bind fun x11 =>
 bif (!x11) then
 some true
 else
 (Fbp p2.High).bind fun x14 =>
 some (!x14)).bind fun o10 =>
 bif o10 then
 some 1
 else
 (Fcc p0.Mine).bind fun x17 =>
 (Sb (Fbo p0 p1 p2 x17) 0).bind fun o20 =>
 Sum.elim (fun j21 =>
 some 12)
 (fun j22 =>
 some 0) o20

noncomputable def Fb5  : Option (Taa) :=
 some (Taa.mk (-1125899906842624) 1125899906842624)

noncomputable def Fdg (p0:Taj) (p1:Taf) (p2:Taq) (s6:List Bool×Int×List Taa):Option ((List Bool×Int×List Taa)⊕(List Taa)) :=
 bif (decide (s6.2.1<((p0.Mine.Roads).length:Int))) then
 (Kl p0.Mine.Roads s6.2.1).bind fun x9 =>
 (bif (!x9.Closed) then
 (Fb5).bind fun x13 =>
 (Kl s6.1 x9.From).bind fun x15 =>
 bif x15 then
 (Kl p2.Low x9.From).bind fun x18 =>
 (Kl p2.High x9.To).bind fun x20 =>
 (Fa5 p0 p1 s6.2.1 (IntKind.i64.wrap (x18-x20))).bind fun x22 =>
 (Kl p2.High x9.From).bind fun x24 =>
 (Kl p2.Low x9.To).bind fun x26 =>
 (Fay p0 p1 s6.2.1 (IntKind.i64.wrap (x24-x26))).bind fun x28 =>
 some (Taa.mk x22 x28)
 else
 some x13
 else
 some (Taa.mk 0 0)).bind fun o11 =>
 (Zn 16 s6.2.2 [o11]).bind fun x30 =>
 some (Sum.inl (s6.1,(IntKind.i64.wrap (s6.2.1+1)),x30))
 else
 some (Sum.inr s6.2.2)

noncomputable def Fdu (p0:Taj) (p1:Taf) (p2:Taq):Option (List Taa) :=
 (Fdt p0 p1 p2).bind fun x1 =>
 bif (decide (x1≠0)) then
 some ([]:List Taa)
 else
 (Fda p0.Mine).bind fun x4 =>
 (Sb (Fdg p0 p1 p2) (x4,0,([]:List Taa))).bind fun o7 =>
 some o7

noncomputable def Fc0 (p0:Taj) (s12:Int×List Taa):Option ((Int×List Taa)⊕(List Taa)) :=
 bif (decide (s12.1<((p0.Mine.Roads).length:Int))) then
 (Kl p0.Mine.Roads s12.1).bind fun x15 =>
 (bif (!x15.Closed) then
 (Fb5).bind fun x19 =>
 some x19
 else
 some (Taa.mk 0 0)).bind fun o17 =>
 (Zn 16 s12.2 [o17]).bind fun x21 =>
 some (Sum.inl ((IntKind.i64.wrap (s12.1+1)),x21))
 else
 some (Sum.inr s12.2)

noncomputable def Fcz (p0:Taj) (p1:Taf):Option (List Taa×Int) :=
 (Fa1 p0).bind fun x1 =>
 bif (decide (x1≠0)) then
 some (([]:List Taa),x1)
 else
 (Fa2 p0 p1).bind fun x4 =>
 bif (!x4) then
 some (([]:List Taa),21)
 else
 (Fds p0 p1).bind fun x7 =>
 bif (decide (x7.2=0)) then
 (Fdu p0 p1 x7.1).bind fun x10 =>
 some (x10,0)
 else
 (Sb (Fc0 p0) (0,([]:List Taa))).bind fun o13 =>
 some (o13,0)

noncomputable def Fdh (p0:Tah) (p1:List Int) (p2:List Int) (p3:List Bool) (p4:List Tag) (p5:Int) (s1:Int×Int×Tag):Option ((Int×Int×Tag)⊕(Unit⊕(Int×Tag))) :=
 bif (decide (s1.2.1<((p0.Roads).length:Int))) then
 ((Kl p0.Roads s1.2.1).bind fun x9 =>
 (Kl p1 s1.2.1).bind fun x11 =>
 (bif (decide (x11<0)) then
 some ((IntKind.i64.wrap (0-x11)),x9.To,x9.From)
 else
 some (x11,x9.From,x9.To)).bind fun o13 =>
 (bif (decide (o13.1=0)) then
 some true
 else
 some (decide (o13.2.2≠p5))).bind fun o15 =>
 bif o15 then
 some (Sum.inr (s1.1,s1.2.2))
 else
 ((Kl p3 o13.2.1).bind fun x19 =>
 bif (!x19) then
 some true
 else
 (Kl p4 o13.2.1).bind fun x22 =>
 some (decide (1048576<x22.air))).bind fun o18 =>
 bif o18 then
 some (Sum.inl ())
 else
 (Kl p4 o13.2.1).bind fun x25 =>
 (Kl p2 s1.2.1).bind fun x27 =>
 (bif (decide (1048576<(IntKind.i64.wrap (s1.2.2.air*x25.air)))) then
 some true
 else
 some (decide (1099511627776<(IntKind.i64.wrap ((IntKind.i64.wrap (s1.2.2.gas*x25.air))+(IntKind.i64.wrap ((IntKind.i64.wrap ((IntKind.i64.wrap (o13.1*x25.gas))+(IntKind.i64.wrap (x27*x25.air))))*s1.2.2.air))))))).bind fun o29 =>
 bif o29 then
 some (Sum.inl ())
 else
 some (Sum.inr ((IntKind.i64.wrap (s1.1+o13.1)),(Tag.mk (IntKind.i64.wrap ((IntKind.i64.wrap (s1.2.2.gas*x25.air))+(IntKind.i64.wrap ((IntKind.i64.wrap ((IntKind.i64.wrap (o13.1*x25.gas))+(IntKind.i64.wrap (x27*x25.air))))*s1.2.2.air)))) (IntKind.i64.wrap (s1.2.2.air*x25.air)))))).bind fun o6 =>
 Sum.elim (fun j7 =>
 some (Sum.inr (Sum.inl ())))
 (fun j8 =>
 some (Sum.inl (j8.1,(IntKind.i64.wrap (s1.2.1+1)),j8.2))) o6
 else
 some (Sum.inr (Sum.inr (s1.1,s1.2.2)))

noncomputable def Fdv (p0:Tah) (p1:List Int) (p2:List Int) (p3:List Bool) (p4:List Tag) (p5:Int):Option (Tag×Bool) :=
 (Sb (Fdh p0 p1 p2 p3 p4 p5) (0,0,(Tag.mk 0 1))).bind fun o2 =>
 Sum.elim (fun j3 =>
 some ((Tag.mk 0 0),false))
 (fun j4 =>
 bif (decide (j4.1=0)) then
 some ((Tag.mk 0 0),false)
 else
 some ((Tag.mk j4.2.gas (IntKind.i64.wrap (j4.2.air*j4.1))),true)) o2

noncomputable def Fcv (x3:Tab×Taj×Taf×Tan) (s15:Int×List Int×List Tal×Tab):Option ((Int×List Int×List Tal×Tab)⊕(List Int×List Tal)) :=
 (bif (decide (0<s15.1)) then
 some (decide (0<((x3.2.1.Mine.Roads).length:Int)))
 else
 some false).bind fun o17 =>
 bif o17 then
 (Fab s15.2.2.2 ((x3.2.1.Mine.Roads).length:Int)).bind fun x20 =>
 (Fab x20.1 900).bind fun x22 =>
 (Fab x22.1 50).bind fun x24 =>
 (Kl s15.2.1 x20.2).bind fun x26 =>
 (Fab x24.1 (IntKind.i64.wrap ((IntKind.i64.wrap ((IntKind.i64.wrap (x22.2+x24.2))-x22.2))+1))).bind fun x28 =>
 (Kl s15.2.1 x20.2).bind fun x30 =>
 (Zn 24 s15.2.2.1 [(Tal.mk x20.2 (Taa.mk x22.2 (IntKind.i64.wrap (x22.2+x24.2))))]).bind fun x32 =>
 some (Sum.inl ((IntKind.i64.wrap (s15.1-1)),(s15.2.1.set ((x20.2).toNat) (IntKind.i64.wrap (x26+(IntKind.i64.wrap (x22.2+x28.2))))),x32,x28.1))
 else
 some (Sum.inr (s15.2.1,s15.2.2.1))

noncomputable def Fcw (x3:Tab×Taj×Taf×Tan) (x40:List Bool) (s44:Int×List Bool×List Tag):Option ((Int×List Bool×List Tag)⊕(List Bool×List Tag)) :=
 bif (decide (s44.1<((x40).length:Int))) then
 (Kl x3.2.1.Mine.Places s44.1).bind fun x47 =>
 (Kl s44.2.1 s44.1).bind fun x49 =>
 (Kl s44.2.2 s44.1).bind fun x51 =>
 some (Sum.inl ((IntKind.i64.wrap (s44.1+1)),(s44.2.1.set ((s44.1).toNat) x47.Surface),(s44.2.2.set ((s44.1).toNat) (Tag.mk x51.gas 1))))
 else
 some (Sum.inr (s44.2.1,s44.2.2))

noncomputable def Fb2 (x3:Tab×Taj×Taf×Tan) (o16:List Int×List Tal) (o36:Bool×List Int×List Int) (s58:Int×List Bool×List Tag):Option ((Int×List Bool×List Tag)⊕(Unit⊕(List Bool×List Tag))) :=
 bif (decide (s58.1<((x3.2.1.Mine.Places).length:Int))) then
 ((Fdv x3.2.1.Mine x3.2.2.2.Flows o16.1 s58.2.1 s58.2.2 s58.1).bind fun x66 =>
 ((Kl s58.2.1 s58.1).bind fun x69 =>
 bif x69 then
 some true
 else
 some (!x66.2)).bind fun o68 =>
 bif o68 then
 some (Sum.inr (s58.2.1,s58.2.2))
 else
 (Kl s58.2.1 s58.1).bind fun x73 =>
 (Kl s58.2.2 s58.1).bind fun x75 =>
 ((Kl o36.2.1 s58.1).bind fun x78 =>
 bif (decide ((IntKind.i64.wrap (x78*x66.1.air))<x66.1.gas)) then
 (Kl o36.2.1 s58.1).bind fun x81 =>
 some (decide (x81<1000000))
 else
 some false).bind fun o77 =>
 bif o77 then
 some (Sum.inl ())
 else
 some (Sum.inr ((s58.2.1.set ((s58.1).toNat) true),(s58.2.2.set ((s58.1).toNat) x66.1)))).bind fun o63 =>
 Sum.elim (fun j64 =>
 some (Sum.inr (Sum.inl ())))
 (fun j65 =>
 some (Sum.inl ((IntKind.i64.wrap (s58.1+1)),j65.1,j65.2))) o63
 else
 some (Sum.inr (Sum.inr (s58.2.1,s58.2.2)))

noncomputable def Fcx (x3:Tab×Taj×Taf×Tan) (o16:List Int×List Tal) (o36:Bool×List Int×List Int) (s53:Int×List Bool×List Tag):Option ((Int×List Bool×List Tag)⊕(Unit⊕(List Bool×List Tag))) :=
 bif (decide (s53.1<((x3.2.1.Mine.Places).length:Int))) then
 (Sb (Fb2 x3 o16 o36) (0,s53.2.1,s53.2.2)).bind fun o59 =>
 Sum.elim (fun j60 =>
 some (Sum.inr (Sum.inl ())))
 (fun j61 =>
 some (Sum.inl ((IntKind.i64.wrap (s53.1+1)),j61.1,j61.2))) o59
 else
 some (Sum.inr (Sum.inr (s53.2.1,s53.2.2)))

noncomputable def Fa4 (x3:Tab×Taj×Taf×Tan) (o16:List Int×List Tal) (o36:Bool×List Int×List Int) (j56:List Bool×List Tag) (s84:Int):Option (Int⊕(Unit⊕Unit)) :=
 bif (decide (s84<((x3.2.1.Mine.Roads).length:Int))) then
 ((Kl x3.2.1.Mine.Roads s84).bind fun x92 =>
 (Kl x3.2.2.2.Flows s84).bind fun x94 =>
 (bif (decide (x94<0)) then
 some ((IntKind.i64.wrap (0-x94)),x92.To)
 else
 some (x94,x92.From)).bind fun o96 =>
 (bif (decide (o96.1=0)) then
 some true
 else
 (Kl j56.1 o96.2).bind fun x100 =>
 bif (!x100) then
 some true
 else
 (Kl j56.2 o96.2).bind fun x103 =>
 some (decide (1099511627776<x103.air))).bind fun o98 =>
 bif o98 then
 some (Sum.inr ())
 else
 (Kl j56.2 o96.2).bind fun x106 =>
 ((Kl o16.1 s84).bind fun x109 =>
 (Kl o36.2.2 s84).bind fun x111 =>
 bif (decide ((IntKind.i64.wrap ((IntKind.i64.wrap (x111*x106.air))*o96.1))<(IntKind.i64.wrap ((IntKind.i64.wrap (x106.gas*o96.1))+(IntKind.i64.wrap (x109*x106.air)))))) then
 (Kl o36.2.2 s84).bind fun x114 =>
 bif (decide (x114<1000000)) then
 some (decide (x106.air<1073741824))
 else
 some false
 else
 some false).bind fun o108 =>
 bif o108 then
 some (Sum.inl ())
 else
 some (Sum.inr ())).bind fun o89 =>
 Sum.elim (fun j90 =>
 some (Sum.inr (Sum.inl ())))
 (fun j91 =>
 some (Sum.inl (IntKind.i64.wrap (s84+1)))) o89
 else
 some (Sum.inr (Sum.inr ()))

noncomputable def Fd9 (p0:List Int):Option (Bool) :=
 (Fe5 p0).bind fun x1 =>
 (Fbg x1).bind fun x3 =>
 (Fei x3.2.1 x3.2.2.1 x3.2.2.2).bind fun x5 =>
 bif (decide (x5≠0)) then
 some false
 else
 (Fcz x3.2.1 x3.2.2.1).bind fun x8 =>
 bif (decide (x8.2≠0)) then
 some false
 else
 (Gce 8 0 ((x3.2.1.Mine.Roads).length:Int)).bind fun x11 =>
 (Fab x3.1 4).bind fun x13 =>
 (Sb (Fcv x3) (x13.2,x11,([]:List Tal),x13.1)).bind fun o16 =>
 (Fc4 x3.2.1.Mine x8.1 o16.2).bind fun x34 =>
 (bif (decide (x34.2.2≠0)) then
 some (true,x34.1,x34.2.1)
 else
 bif (decide (((x34.1).length:Int)≠((x3.2.1.Mine.Places).length:Int))) then
 some (true,x34.1,x34.2.1)
 else
 some ((decide (((x34.2.1).length:Int)≠((x3.2.1.Mine.Roads).length:Int))),x34.1,x34.2.1)).bind fun o36 =>
 bif o36.1 then
 some false
 else
 (Gce 1 false ((x3.2.1.Mine.Places).length:Int)).bind fun x40 =>
 (Gce 16 (Tag.mk 0 0) ((x3.2.1.Mine.Places).length:Int)).bind fun x42 =>
 (Sb (Fcw x3 x40) (0,x40,x42)).bind fun o45 =>
 (Sb (Fcx x3 o16 o36) (0,o45.1,o45.2)).bind fun o54 =>
 Sum.elim (fun j55 =>
 some false)
 (fun j56 =>
 (Sb (Fa4 x3 o16 o36 j56) 0).bind fun o85 =>
 Sum.elim (fun j86 =>
 some false)
 (fun j87 =>
 (Fcr).bind fun x118 =>
 some x118) o85) o54

theorem R {α : Sort _} {a : α} : a = a := rfl
theorem Q : True := trivial
abbrev I (x : Int) : PV := .int .i64 x
abbrev A (x : List PV) : PV := .agg x
abbrev H (x : Int) : Int := IntKind.i64.wrap x
end Go.L
