/- Printed by wip/lift/lift.py: the functions of the program, as partial functions of plain data. -/
import Derived.Test.YticjalhfpjlbdaaAmlZ
namespace Go.L
open Go Go.Aml

structure T_Span where
 Low : Int
 High : Int
 deriving DecidableEq
def T_Span.enc (x : T_Span) : PV := .agg [.int .i64 x.Low, .int .i64 x.High]
abbrev zN (x : T_Span) : List PV := [.int .i64 x.Low, .int .i64 x.High]
abbrev zO (x : T_Span) (v : Nat) : AObj := ⟨57, 2, [.agg (zN x)], v⟩
theorem T_Span.enc_lt (x : T_Span) : LtN 0 x.enc := lt_agg ⟨.int _ _, .int _ _, trivial⟩

structure T_Place where
 Height : Int
 Surface : Bool
 deriving DecidableEq
def T_Place.enc (x : T_Place) : PV := .agg [.int .i64 x.Height, .bool x.Surface]
abbrev zP (x : T_Place) : List PV := [.int .i64 x.Height, .bool x.Surface]
theorem T_Place.enc_lt (x : T_Place) : LtN 0 x.enc := lt_agg ⟨.int _ _, .bool _, trivial⟩

structure T_Road where
 From : Int
 To : Int
 Length : Int
 Area : Int
 Walk : Bool
 Closed : Bool
 Rest : T_Span
 Lift : T_Span
 deriving DecidableEq
def T_Road.enc (x : T_Road) : PV := .agg [.int .i64 x.From, .int .i64 x.To, .int .i64 x.Length, .int .i64 x.Area, .bool x.Walk, .bool x.Closed, .int .i64 x.Rest.Low, .int .i64 x.Rest.High, .int .i64 x.Lift.Low, .int .i64 x.Lift.High]
abbrev zA (x : T_Road) : List PV := [.int .i64 x.From, .int .i64 x.To, .int .i64 x.Length, .int .i64 x.Area, .bool x.Walk, .bool x.Closed, .int .i64 x.Rest.Low, .int .i64 x.Rest.High, .int .i64 x.Lift.Low, .int .i64 x.Lift.High]
abbrev zB (x : T_Road) (v : Nat) : AObj := ⟨75, 10, [.agg (zA x)], v⟩
theorem T_Road.enc_lt (x : T_Road) : LtN 0 x.enc := lt_agg ⟨.int _ _, .int _ _, .int _ _, .int _ _, .bool _, .bool _, .int _ _, .int _ _, .int _ _, .int _ _, trivial⟩

structure T_Mine where
 Places : List T_Place
 Roads : List T_Road
 deriving DecidableEq
def T_Mine.enc (x : T_Mine) : PV := .agg [.vs 2 (List.map T_Place.enc x.Places), .vs 10 (List.map T_Road.enc x.Roads)]
abbrev zG (x : T_Mine) : List PV := [.vs 2 (List.map T_Place.enc x.Places), .vs 10 (List.map T_Road.enc x.Roads)]
abbrev zH (x : T_Mine) (v : Nat) : AObj := ⟨31, 2, [.agg (zG x)], v⟩
theorem T_Mine.enc_lt (x : T_Mine) : LtN 0 x.enc := lt_agg ⟨.vs _ _, .vs _ _, trivial⟩

structure T_Source where
 Road : Int
 Inflow : T_Span
 deriving DecidableEq
def T_Source.enc (x : T_Source) : PV := .agg [.int .i64 x.Road, .int .i64 x.Inflow.Low, .int .i64 x.Inflow.High]
abbrev zI (x : T_Source) : List PV := [.int .i64 x.Road, .int .i64 x.Inflow.Low, .int .i64 x.Inflow.High]
theorem T_Source.enc_lt (x : T_Source) : LtN 0 x.enc := lt_agg ⟨.int _ _, .int _ _, .int _ _, trivial⟩

structure T_recirculate_arc where
 road : Int
 from_ : Int
 to_ : Int
 deriving DecidableEq
def T_recirculate_arc.enc (x : T_recirculate_arc) : PV := .agg [.int .i64 x.road, .int .i64 x.from_, .int .i64 x.to_]
abbrev zJ (x : T_recirculate_arc) : List PV := [.int .i64 x.road, .int .i64 x.from_, .int .i64 x.to_]
abbrev zK (x : T_recirculate_arc) (v : Nat) : AObj := ⟨132, 3, [.agg (zJ x)], v⟩
theorem T_recirculate_arc.enc_lt (x : T_recirculate_arc) : LtN 0 x.enc := lt_agg ⟨.int _ _, .int _ _, .int _ _, trivial⟩

structure A2_Int where
 a0 : Int
 a1 : Int
 deriving DecidableEq
def A2_Int.enc (x : A2_Int) : PV := .agg [.int .i64 x.a0, .int .i64 x.a1]
theorem A2_Int.enc_lt (x : A2_Int) : LtN 0 x.enc := lt_agg ⟨.int _ _, .int _ _, trivial⟩

structure T_Sensor where
 Address : Int
 Kind : Int
 Target : Int
 Offset : Int
 Scale : Int
 Error : Int
 Drift : Int
 Life : Int
 deriving DecidableEq
def T_Sensor.enc (x : T_Sensor) : PV := .agg [.int .i64 x.Address, .int .i64 x.Kind, .int .i64 x.Target, .int .i64 x.Offset, .int .i64 x.Scale, .int .i64 x.Error, .int .i64 x.Drift, .int .i64 x.Life]
abbrev zC (x : T_Sensor) : List PV := [.int .i64 x.Address, .int .i64 x.Kind, .int .i64 x.Target, .int .i64 x.Offset, .int .i64 x.Scale, .int .i64 x.Error, .int .i64 x.Drift, .int .i64 x.Life]
abbrev zD (x : T_Sensor) (v : Nat) : AObj := ⟨83, 8, [.agg (zC x)], v⟩
theorem T_Sensor.enc_lt (x : T_Sensor) : LtN 0 x.enc := lt_agg ⟨.int _ _, .int _ _, .int _ _, .int _ _, .int _ _, .int _ _, .int _ _, .int _ _, trivial⟩

structure T_Measure where
 Sensor : Int
 Time : Int
 Span : T_Span
 deriving DecidableEq
def T_Measure.enc (x : T_Measure) : PV := .agg [.int .i64 x.Sensor, .int .i64 x.Time, .int .i64 x.Span.Low, .int .i64 x.Span.High]
abbrev zE (x : T_Measure) : List PV := [.int .i64 x.Sensor, .int .i64 x.Time, .int .i64 x.Span.Low, .int .i64 x.Span.High]
abbrev zF (x : T_Measure) (v : Nat) : AObj := ⟨86, 4, [.agg (zE x)], v⟩
theorem T_Measure.enc_lt (x : T_Measure) : LtN 0 x.enc := lt_agg ⟨.int _ _, .int _ _, .int _ _, .int _ _, trivial⟩

structure T_draw_Codes where
 l : List Int
 at_ : Int
 deriving DecidableEq
def T_draw_Codes.enc (x : T_draw_Codes) : PV := .agg [.vs 1 (List.map (PV.int .u8) x.l), .int .i64 x.at_]
abbrev zL (x : T_draw_Codes) : List PV := [.vs 1 (List.map (PV.int .u8) x.l), .int .i64 x.at_]
abbrev zM (x : T_draw_Codes) (v : Nat) : AObj := ⟨89, 2, [.agg (zL x)], v⟩
theorem T_draw_Codes.enc_lt (x : T_draw_Codes) : LtN 0 x.enc := lt_agg ⟨.vs _ _, .int _ _, trivial⟩

structure T_Point where
 Flow : Int
 Pressure : Int
 deriving DecidableEq
def T_Point.enc (x : T_Point) : PV := .agg [.int .i64 x.Flow, .int .i64 x.Pressure]
theorem T_Point.enc_lt (x : T_Point) : LtN 0 x.enc := lt_agg ⟨.int _ _, .int _ _, trivial⟩

structure T_Door where
 Road : Int
 Other : Int
 Rests : List Int
 deriving DecidableEq
def T_Door.enc (x : T_Door) : PV := .agg [.int .i64 x.Road, .int .i64 x.Other, .vs 1 (List.map (PV.int .i64) x.Rests)]
theorem T_Door.enc_lt (x : T_Door) : LtN 0 x.enc := lt_agg ⟨.int _ _, .int _ _, .vs _ _, trivial⟩

structure T_Fan where
 Road : Int
 Back : Bool
 Auxiliary : Bool
 Curve : List T_Point
 deriving DecidableEq
def T_Fan.enc (x : T_Fan) : PV := .agg [.int .i64 x.Road, .bool x.Back, .bool x.Auxiliary, .vs 2 (List.map T_Point.enc x.Curve)]
theorem T_Fan.enc_lt (x : T_Fan) : LtN 0 x.enc := lt_agg ⟨.int _ _, .bool _, .bool _, .vs _ _, trivial⟩

structure T_Air where
 Mine : T_Mine
 Fans : List T_Fan
 Doors : List T_Door
 deriving DecidableEq
def T_Air.enc (x : T_Air) : PV := .agg [.vs 2 (List.map T_Place.enc x.Mine.Places), .vs 10 (List.map T_Road.enc x.Mine.Roads), .vs 4 (List.map T_Fan.enc x.Fans), .vs 3 (List.map T_Door.enc x.Doors)]
theorem T_Air.enc_lt (x : T_Air) : LtN 0 x.enc := lt_agg ⟨.vs _ _, .vs _ _, .vs _ _, .vs _ _, trivial⟩

structure T_Setting where
 Fans : List Int
 Doors : List Int
 deriving DecidableEq
def T_Setting.enc (x : T_Setting) : PV := .agg [.vs 1 (List.map (PV.int .i64) x.Fans), .vs 1 (List.map (PV.int .i64) x.Doors)]
theorem T_Setting.enc_lt (x : T_Setting) : LtN 0 x.enc := lt_agg ⟨.vs _ _, .vs _ _, trivial⟩

structure T_State where
 Pressures : List Int
 Flows : List Int
 deriving DecidableEq
def T_State.enc (x : T_State) : PV := .agg [.vs 1 (List.map (PV.int .i64) x.Pressures), .vs 1 (List.map (PV.int .i64) x.Flows)]
theorem T_State.enc_lt (x : T_State) : LtN 0 x.enc := lt_agg ⟨.vs _ _, .vs _ _, trivial⟩

structure T_Bounds where
 Low : List Int
 High : List Int
 deriving DecidableEq
def T_Bounds.enc (x : T_Bounds) : PV := .agg [.vs 1 (List.map (PV.int .i64) x.Low), .vs 1 (List.map (PV.int .i64) x.High)]
theorem T_Bounds.enc_lt (x : T_Bounds) : LtN 0 x.enc := lt_agg ⟨.vs _ _, .vs _ _, trivial⟩

structure T_law16_share where
 gas : Int
 air : Int
 deriving DecidableEq
def T_law16_share.enc (x : T_law16_share) : PV := .agg [.int .i64 x.gas, .int .i64 x.air]
theorem T_law16_share.enc_lt (x : T_law16_share) : LtN 0 x.enc := lt_agg ⟨.int _ _, .int _ _, trivial⟩

def T_Span.Wf (x : T_Span) : Prop := (In .i64) x.Low ∧ (In .i64) x.High ∧ True
def T_Place.Wf (x : T_Place) : Prop := (In .i64) x.Height ∧ (fun _ => True) x.Surface ∧ True
def T_Road.Wf (x : T_Road) : Prop := (In .i64) x.From ∧ (In .i64) x.To ∧ (In .i64) x.Length ∧ (In .i64) x.Area ∧ (fun _ => True) x.Walk ∧ (fun _ => True) x.Closed ∧ T_Span.Wf x.Rest ∧ T_Span.Wf x.Lift ∧ True
def T_Mine.Wf (x : T_Mine) : Prop := (InL T_Place.Wf) x.Places ∧ (InL T_Road.Wf) x.Roads ∧ True
def T_Source.Wf (x : T_Source) : Prop := (In .i64) x.Road ∧ T_Span.Wf x.Inflow ∧ True
def T_recirculate_arc.Wf (x : T_recirculate_arc) : Prop := (In .i64) x.road ∧ (In .i64) x.from_ ∧ (In .i64) x.to_ ∧ True
def A2_Int.Wf (x : A2_Int) : Prop := (In .i64) x.a0 ∧ (In .i64) x.a1 ∧ True
def T_Sensor.Wf (x : T_Sensor) : Prop := (In .i64) x.Address ∧ (In .i64) x.Kind ∧ (In .i64) x.Target ∧ (In .i64) x.Offset ∧ (In .i64) x.Scale ∧ (In .i64) x.Error ∧ (In .i64) x.Drift ∧ (In .i64) x.Life ∧ True
def T_Measure.Wf (x : T_Measure) : Prop := (In .i64) x.Sensor ∧ (In .i64) x.Time ∧ T_Span.Wf x.Span ∧ True
def T_draw_Codes.Wf (x : T_draw_Codes) : Prop := (InL (In .u8)) x.l ∧ (In .i64) x.at_ ∧ True
def T_Point.Wf (x : T_Point) : Prop := (In .i64) x.Flow ∧ (In .i64) x.Pressure ∧ True
def T_Door.Wf (x : T_Door) : Prop := (In .i64) x.Road ∧ (In .i64) x.Other ∧ (InL (In .i64)) x.Rests ∧ True
def T_Fan.Wf (x : T_Fan) : Prop := (In .i64) x.Road ∧ (fun _ => True) x.Back ∧ (fun _ => True) x.Auxiliary ∧ (InL T_Point.Wf) x.Curve ∧ True
def T_Air.Wf (x : T_Air) : Prop := T_Mine.Wf x.Mine ∧ (InL T_Fan.Wf) x.Fans ∧ (InL T_Door.Wf) x.Doors ∧ True
def T_Setting.Wf (x : T_Setting) : Prop := (InL (In .i64)) x.Fans ∧ (InL (In .i64)) x.Doors ∧ True
def T_State.Wf (x : T_State) : Prop := (InL (In .i64)) x.Pressures ∧ (InL (In .i64)) x.Flows ∧ True
def T_Bounds.Wf (x : T_Bounds) : Prop := (InL (In .i64)) x.Low ∧ (InL (In .i64)) x.High ∧ True
def T_law16_share.Wf (x : T_law16_share) : Prop := (In .i64) x.gas ∧ (In .i64) x.air ∧ True

noncomputable def F_plan_spanIn (p0 : T_Span) (p1 : Int) (p2 : Int) : Option (Bool) :=
 bif (decide (p1 ≤ p0.Low)) then
 bif (decide (p0.Low ≤ p0.High)) then
 some (decide (p0.High ≤ p2))
 else
 some false
 else
 some false

noncomputable def F_plan_Check_L1 (p0 : T_Mine) (s4 : Int) : Option (Int ⊕ (Unit ⊕ Unit)) :=
 bif (decide (s4 < ((p0.Places).length : Int))) then
 (getI p0.Places s4).bind fun x9 =>
 (bif (decide (x9.Height < (-10000))) then
 some true
 else
 some (decide (10000 < x9.Height))).bind fun o11 =>
 bif o11 then
 some (Sum.inr (Sum.inl ()))
 else
 some (Sum.inl (IntKind.i64.wrap (s4 + 1)))
 else
 some (Sum.inr (Sum.inr ()))

noncomputable def F_plan_Check_L2 (p0 : T_Mine) (s14 : Int) : Option (Int ⊕ (Int ⊕ Unit)) :=
 bif (decide (s14 < ((p0.Roads).length : Int))) then
 (getI p0.Roads s14).bind fun x19 =>
 (bif (decide (x19.From < 0)) then
 some true
 else
 bif (decide (((p0.Places).length : Int) ≤ x19.From)) then
 some true
 else
 bif (decide (x19.To < 0)) then
 some true
 else
 bif (decide (((p0.Places).length : Int) ≤ x19.To)) then
 some true
 else
 some (decide (x19.From = x19.To))).bind fun o21 =>
 bif o21 then
 some (Sum.inr (Sum.inl 4))
 else
 (bif (decide (x19.Length < 1)) then
 some true
 else
 bif (decide (100000 < x19.Length)) then
 some true
 else
 bif (decide (x19.Area < 1)) then
 some true
 else
 some (decide (1000 < x19.Area))).bind fun o27 =>
 bif o27 then
 some (Sum.inr (Sum.inl 1))
 else
 ((F_plan_spanIn x19.Rest 1 262144).bind fun x33 =>
 bif (!x33) then
 some true
 else
 (F_plan_spanIn x19.Lift (-2199023255552) 2199023255552).bind fun x36 =>
 some (!x36)).bind fun o32 =>
 bif o32 then
 some (Sum.inr (Sum.inl 1))
 else
 some (Sum.inl (IntKind.i64.wrap (s14 + 1)))
 else
 some (Sum.inr (Sum.inr ()))

noncomputable def F_plan_Check (p0 : T_Mine) : Option (Int) :=
 (bif (decide (64 < ((p0.Places).length : Int))) then
 some true
 else
 some (decide (128 < ((p0.Roads).length : Int)))).bind fun o1 =>
 bif o1 then
 some 2
 else
 (loopC (F_plan_Check_L1 p0) 0).bind fun o5 =>
 Sum.elim (fun j6 =>
 some 1)
 (fun j7 =>
 (loopC (F_plan_Check_L2 p0) 0).bind fun o15 =>
 Sum.elim (fun j16 =>
 some j16)
 (fun j17 =>
 some 0) o15) o5

noncomputable def F_gas_Check_L1 (p0 : T_Mine) (p1 : List T_Source) (s5 : Int) : Option (Int ⊕ (Int ⊕ Unit)) :=
 bif (decide (s5 < ((p1).length : Int))) then
 (getI p1 s5).bind fun x10 =>
 (bif (decide (x10.Road < 0)) then
 some true
 else
 some (decide (((p0.Roads).length : Int) ≤ x10.Road))).bind fun o12 =>
 bif o12 then
 some (Sum.inr (Sum.inl 4))
 else
 (bif (decide (x10.Inflow.Low < 0)) then
 some true
 else
 bif (decide (x10.Inflow.High < x10.Inflow.Low)) then
 some true
 else
 some (decide (1099511627776 < x10.Inflow.High))).bind fun o15 =>
 bif o15 then
 some (Sum.inr (Sum.inl 1))
 else
 some (Sum.inl (IntKind.i64.wrap (s5 + 1)))
 else
 some (Sum.inr (Sum.inr ()))

noncomputable def F_gas_Check (p0 : T_Mine) (p1 : List T_Source) : Option (Int) :=
 (F_plan_Check p0).bind fun x1 =>
 bif (decide (x1 ≠ 0)) then
 some x1
 else
 bif (decide (32 < ((p1).length : Int))) then
 some 2
 else
 (loopC (F_gas_Check_L1 p0 p1) 0).bind fun o6 =>
 Sum.elim (fun j7 =>
 some j7)
 (fun j8 =>
 some 0) o6

noncomputable def F_plan_Valid (p0 : T_Mine) : Option (Bool) :=
 (F_plan_Check p0).bind fun x1 =>
 some (decide (x1 = 0))

noncomputable def F_recirculate_arcs_L1 (p0 : T_Mine) (p1 : List T_Span) (s6 : Int × List T_recirculate_arc) : Option ((Int × List T_recirculate_arc) ⊕ (List T_recirculate_arc)) :=
 bif (decide (s6.1 < ((p0.Roads).length : Int))) then
 ((getI p0.Roads s6.1).bind fun x10 =>
 bif x10.Closed then
 some s6.2
 else
 (getI p1 s6.1).bind fun x13 =>
 (bif (decide (0 < x13.High)) then
 (appI 24 s6.2 [(T_recirculate_arc.mk s6.1 x10.From x10.To)]).bind fun x17 =>
 some x17
 else
 some s6.2).bind fun o15 =>
 (getI p1 s6.1).bind fun x19 =>
 bif (decide (x19.Low < 0)) then
 (appI 24 o15 [(T_recirculate_arc.mk s6.1 x10.To x10.From)]).bind fun x22 =>
 some x22
 else
 some o15).bind fun o9 =>
 some (Sum.inl ((IntKind.i64.wrap (s6.1 + 1)), o9))
 else
 some (Sum.inr s6.2)

noncomputable def F_recirculate_arcs (p0 : T_Mine) (p1 : List T_Span) : Option (List T_recirculate_arc × Bool) :=
 ((F_plan_Valid p0).bind fun x2 =>
 bif (!x2) then
 some true
 else
 some (decide (((p1).length : Int) ≠ ((p0.Roads).length : Int)))).bind fun o1 =>
 bif o1 then
 some (([] : List T_recirculate_arc), false)
 else
 (loopC (F_recirculate_arcs_L1 p0 p1) (0, ([] : List T_recirculate_arc))).bind fun o7 =>
 some (o7, true)

noncomputable def F_recirculate_Ways_L1 (x1 : List T_recirculate_arc × Bool) (s3 : Int × List A2_Int) : Option ((Int × List A2_Int) ⊕ (List A2_Int)) :=
 bif (decide (s3.1 < ((x1.1).length : Int))) then
 (getI x1.1 s3.1).bind fun x6 =>
 (appI 16 s3.2 [(A2_Int.mk x6.from_ x6.to_)]).bind fun x8 =>
 some (Sum.inl ((IntKind.i64.wrap (s3.1 + 1)), x8))
 else
 some (Sum.inr s3.2)

noncomputable def F_recirculate_Ways (p0 : T_Mine) (p1 : List T_Span) : Option (List A2_Int) :=
 (F_recirculate_arcs p0 p1).bind fun x1 =>
 (loopC (F_recirculate_Ways_L1 x1) (0, ([] : List A2_Int))).bind fun o4 =>
 some o4

noncomputable def F_recirculate_spread_L2 (p0 : T_Mine) (p1 : List T_recirculate_arc) (p3 : Int) (s6 : Bool × Int × List Bool) : Option ((Bool × Int × List Bool) ⊕ (Bool × List Bool)) :=
 bif (decide (s6.2.1 < ((p1).length : Int))) then
 ((getI p1 s6.2.1).bind fun x10 =>
 (bif (decide (x10.road ≠ p3)) then
 (getI s6.2.2 x10.from_).bind fun x14 =>
 bif x14 then
 (getI s6.2.2 x10.to_).bind fun x17 =>
 bif (!x17) then
 (getI p0.Places x10.to_).bind fun x20 =>
 some (!x20.Surface)
 else
 some false
 else
 some false
 else
 some false).bind fun o12 =>
 bif o12 then
 (getI s6.2.2 x10.to_).bind fun x23 =>
 some (true, (s6.2.2.set ((x10.to_).toNat) true))
 else
 some (s6.1, s6.2.2)).bind fun o9 =>
 some (Sum.inl (o9.1, (IntKind.i64.wrap (s6.2.1 + 1)), o9.2))
 else
 some (Sum.inr (s6.1, s6.2.2))

noncomputable def F_recirculate_spread_L1 (p0 : T_Mine) (p1 : List T_recirculate_arc) (p3 : Int) (s3 : Bool × List Bool) : Option ((Bool × List Bool) ⊕ (List Bool)) :=
 bif s3.1 then
 (loopC (F_recirculate_spread_L2 p0 p1 p3) (false, 0, s3.2)).bind fun o7 =>
 some (Sum.inl (o7.1, o7.2))
 else
 some (Sum.inr s3.2)

noncomputable def F_recirculate_spread (p0 : T_Mine) (p1 : List T_recirculate_arc) (p2 : List Bool) (p3 : Int) : Option (List Bool) :=
 (appI 1 ([] : List Bool) p2).bind fun x1 =>
 (loopC (F_recirculate_spread_L1 p0 p1 p3) (true, x1)).bind fun o4 =>
 some o4

noncomputable def F_recirculate_circles_L1 (p0 : T_Mine) (p1 : List T_recirculate_arc) (s1 : Int × List T_recirculate_arc) : Option ((Int × List T_recirculate_arc) ⊕ (List T_recirculate_arc)) :=
 bif (decide (s1.1 < ((p1).length : Int))) then
 ((getI p1 s1.1).bind fun x5 =>
 ((getI p0.Places x5.from_).bind fun x8 =>
 bif x8.Surface then
 some true
 else
 (getI p0.Places x5.to_).bind fun x11 =>
 some x11.Surface).bind fun o7 =>
 bif o7 then
 some s1.2
 else
 (makI 1 false ((p0.Places).length : Int)).bind fun x14 =>
 (getI x14 x5.to_).bind fun x16 =>
 (F_recirculate_spread p0 p1 (x14.set ((x5.to_).toNat) true) x5.road).bind fun x18 =>
 (getI x18 x5.from_).bind fun x20 =>
 bif x20 then
 (appI 24 s1.2 [x5]).bind fun x23 =>
 some x23
 else
 some s1.2).bind fun o4 =>
 some (Sum.inl ((IntKind.i64.wrap (s1.1 + 1)), o4))
 else
 some (Sum.inr s1.2)

noncomputable def F_recirculate_circles (p0 : T_Mine) (p1 : List T_recirculate_arc) : Option (List T_recirculate_arc) :=
 (loopC (F_recirculate_circles_L1 p0 p1) (0, ([] : List T_recirculate_arc))).bind fun o2 =>
 some o2

noncomputable def F_recirculate_Mixed_L1 (x6 : List T_recirculate_arc) (s8 : Int × List Bool) : Option ((Int × List Bool) ⊕ (List Bool)) :=
 bif (decide (s8.1 < ((x6).length : Int))) then
 (getI x6 s8.1).bind fun x11 =>
 (getI s8.2 x11.from_).bind fun x13 =>
 (getI (s8.2.set ((x11.from_).toNat) true) x11.to_).bind fun x15 =>
 some (Sum.inl ((IntKind.i64.wrap (s8.1 + 1)), ((s8.2.set ((x11.from_).toNat) true).set ((x11.to_).toNat) true)))
 else
 some (Sum.inr s8.2)

noncomputable def F_recirculate_Mixed_L2 (x17 : List Bool) (s19 : Int × List Int) : Option ((Int × List Int) ⊕ (List Int)) :=
 bif (decide (s19.1 < ((x17).length : Int))) then
 ((getI x17 s19.1).bind fun x23 =>
 bif x23 then
 (appI 8 s19.2 [s19.1]).bind fun x26 =>
 some x26
 else
 some s19.2).bind fun o22 =>
 some (Sum.inl ((IntKind.i64.wrap (s19.1 + 1)), o22))
 else
 some (Sum.inr s19.2)

noncomputable def F_recirculate_Mixed (p0 : T_Mine) (p1 : List T_Span) : Option (List Int) :=
 (F_recirculate_arcs p0 p1).bind fun x1 =>
 bif (!x1.2) then
 some ([] : List Int)
 else
 (makI 1 false ((p0.Places).length : Int)).bind fun x4 =>
 (F_recirculate_circles p0 x1.1).bind fun x6 =>
 (loopC (F_recirculate_Mixed_L1 x6) (0, x4)).bind fun o9 =>
 (F_recirculate_spread p0 x1.1 o9 (-1)).bind fun x17 =>
 (loopC (F_recirculate_Mixed_L2 x17) (0, ([] : List Int))).bind fun o20 =>
 some o20

noncomputable def F_airflow_Direction (p0 : T_Span) : Option (Int) :=
 bif (decide (p0.High < p0.Low)) then
 some 0
 else
 bif (decide (0 < p0.Low)) then
 some 1
 else
 bif (decide (p0.High < 0)) then
 some (-1)
 else
 some 0

noncomputable def F_gas_added (p0 : T_Span) (p1 : Int) : Option (Int) :=
 (F_airflow_Direction p0).bind fun x1 =>
 (bif (decide (x1 = 1)) then
 some (Sum.inl p0.Low)
 else
 bif (decide (x1 = (-1))) then
 some (Sum.inl (max (IntKind.i64.wrap (0 - p0.High)) 1))
 else
 bif (decide (0 < p1)) then
 some (Sum.inr 1000000)
 else
 some (Sum.inr 0)).bind fun o3 =>
 Sum.elim (fun j4 =>
 (quoI .i64 p1 j4).bind fun x9 =>
 (remI p1 j4).bind fun x11 =>
 some (min (IntKind.i64.wrap (x9 + (min x11 1))) 1000000))
 (fun j5 =>
 some j5) o3

noncomputable def F_gas_Most_L1 (p2 : List T_Source) (s7 : Int × List Int) : Option ((Int × List Int) ⊕ (List Int)) :=
 bif (decide (s7.1 < ((p2).length : Int))) then
 (getI p2 s7.1).bind fun x10 =>
 (getI s7.2 x10.Road).bind fun x12 =>
 (getI s7.2 x10.Road).bind fun x14 =>
 some (Sum.inl ((IntKind.i64.wrap (s7.1 + 1)), (s7.2.set ((x10.Road).toNat) (IntKind.i64.wrap (x12 + x10.Inflow.High)))))
 else
 some (Sum.inr s7.2)

noncomputable def F_gas_Most_L2 (x22 : List A2_Int) (s24 : Int × List Bool) : Option ((Int × List Bool) ⊕ (List Bool)) :=
 bif (decide (s24.1 < ((x22).length : Int))) then
 (getI x22 s24.1).bind fun x27 =>
 (getI s24.2 x27.a1).bind fun x29 =>
 some (Sum.inl ((IntKind.i64.wrap (s24.1 + 1)), (s24.2.set ((x27.a1).toNat) true)))
 else
 some (Sum.inr s24.2)

noncomputable def F_gas_Most_L3 (p0 : T_Mine) (o25 : List Bool) (s31 : Int × List Int) : Option ((Int × List Int) ⊕ (List Int)) :=
 bif (decide (s31.1 < ((p0.Places).length : Int))) then
 ((getI p0.Places s31.1).bind fun x35 =>
 (bif (!x35.Surface) then
 (getI o25 s31.1).bind fun x39 =>
 some (!x39)
 else
 some false).bind fun o37 =>
 bif o37 then
 (getI s31.2 s31.1).bind fun x42 =>
 some (s31.2.set ((s31.1).toNat) 1000000)
 else
 some s31.2).bind fun o34 =>
 some (Sum.inl ((IntKind.i64.wrap (s31.1 + 1)), o34))
 else
 some (Sum.inr s31.2)

noncomputable def F_gas_Most_L4 (p0 : T_Mine) (x44 : List Int) (s46 : Int × List Int) : Option ((Int × List Int) ⊕ (List Int)) :=
 bif (decide (s46.1 < ((x44).length : Int))) then
 ((getI x44 s46.1).bind fun x50 =>
 (getI p0.Places x50).bind fun x52 =>
 bif (!x52.Surface) then
 (getI s46.2 x50).bind fun x55 =>
 some (s46.2.set ((x50).toNat) 1000000)
 else
 some s46.2).bind fun o49 =>
 some (Sum.inl ((IntKind.i64.wrap (s46.1 + 1)), o49))
 else
 some (Sum.inr s46.2)

noncomputable def F_gas_Most_L6 (p0 : T_Mine) (p1 : List T_Span) (o8 : List Int) (s60 : Int × Bool × List Int × List Int) : Option ((Int × Bool × List Int × List Int) ⊕ (Bool × List Int × List Int)) :=
 bif (decide (s60.1 < ((p0.Roads).length : Int))) then
 ((getI p0.Roads s60.1).bind fun x64 =>
 (bif (!x64.Closed) then
 (getI p1 s60.1).bind fun x68 =>
 (getI p1 s60.1).bind fun x70 =>
 some ((decide (0 < x68.High)), (decide (x70.Low < 0)))
 else
 some (false, false)).bind fun o66 =>
 ((bif (!o66.1) then
 some (!o66.2)
 else
 some false).bind fun o73 =>
 bif o73 then
 some 1000000
 else
 (bif o66.1 then
 (getI s60.2.2.1 x64.From).bind fun x78 =>
 some x78
 else
 some 0).bind fun o76 =>
 (bif o66.2 then
 (getI s60.2.2.1 x64.To).bind fun x82 =>
 some (max o76 x82)
 else
 some o76).bind fun o80 =>
 (getI p1 s60.1).bind fun x84 =>
 (getI o8 s60.1).bind fun x86 =>
 (F_gas_added x84 x86).bind fun x88 =>
 some (min (IntKind.i64.wrap (o80 + x88)) 1000000)).bind fun o72 =>
 (getI s60.2.2.2 s60.1).bind fun x90 =>
 (bif (decide (x90 < o72)) then
 (getI s60.2.2.2 s60.1).bind fun x94 =>
 some (true, (s60.2.2.2.set ((s60.1).toNat) o72))
 else
 some (s60.2.1, s60.2.2.2)).bind fun o92 =>
 (bif o66.1 then
 (getI p0.Places x64.To).bind fun x98 =>
 bif (!x98.Surface) then
 (getI s60.2.2.1 x64.To).bind fun x101 =>
 some (decide (x101 < o72))
 else
 some false
 else
 some false).bind fun o96 =>
 (bif o96 then
 (getI s60.2.2.1 x64.To).bind fun x105 =>
 some (true, (s60.2.2.1.set ((x64.To).toNat) o72))
 else
 some (o92.1, s60.2.2.1)).bind fun o103 =>
 (bif o66.2 then
 (getI p0.Places x64.From).bind fun x109 =>
 bif (!x109.Surface) then
 (getI o103.2 x64.From).bind fun x112 =>
 some (decide (x112 < o72))
 else
 some false
 else
 some false).bind fun o107 =>
 bif o107 then
 (getI o103.2 x64.From).bind fun x115 =>
 some (true, (o103.2.set ((x64.From).toNat) o72), o92.2)
 else
 some (o103.1, o103.2, o92.2)).bind fun o63 =>
 some (Sum.inl ((IntKind.i64.wrap (s60.1 + 1)), o63.1, o63.2.1, o63.2.2))
 else
 some (Sum.inr (s60.2.1, s60.2.2.1, s60.2.2.2))

noncomputable def F_gas_Most_L5 (p0 : T_Mine) (p1 : List T_Span) (o8 : List Int) (s57 : Bool × List Int × List Int) : Option ((Bool × List Int × List Int) ⊕ (List Int × List Int)) :=
 bif s57.1 then
 (loopC (F_gas_Most_L6 p0 p1 o8) (0, false, s57.2.1, s57.2.2)).bind fun o61 =>
 some (Sum.inl (o61.1, o61.2.1, o61.2.2))
 else
 some (Sum.inr (s57.2.1, s57.2.2))

noncomputable def F_gas_Most (p0 : T_Mine) (p1 : List T_Span) (p2 : List T_Source) : Option (List Int × List Int × Int) :=
 (F_gas_Check p0 p2).bind fun x1 =>
 bif (decide (x1 ≠ 0)) then
 some (([] : List Int), ([] : List Int), x1)
 else
 bif (decide (((p1).length : Int) ≠ ((p0.Roads).length : Int))) then
 some (([] : List Int), ([] : List Int), 11)
 else
 (makI 8 0 ((p0.Roads).length : Int)).bind fun x5 =>
 (loopC (F_gas_Most_L1 p2) (0, x5)).bind fun o8 =>
 (makI 8 0 ((p0.Places).length : Int)).bind fun x16 =>
 (makI 8 0 ((p0.Roads).length : Int)).bind fun x18 =>
 (makI 1 false ((p0.Places).length : Int)).bind fun x20 =>
 (F_recirculate_Ways p0 p1).bind fun x22 =>
 (loopC (F_gas_Most_L2 x22) (0, x20)).bind fun o25 =>
 (loopC (F_gas_Most_L3 p0 o25) (0, x16)).bind fun o32 =>
 (F_recirculate_Mixed p0 p1).bind fun x44 =>
 (loopC (F_gas_Most_L4 p0 x44) (0, o32)).bind fun o47 =>
 (loopC (F_gas_Most_L5 p0 p1 o8) (true, o47, x18)).bind fun o58 =>
 some (o58.1, o58.2, 0)

noncomputable def F_sensor_Nothing  : Option (T_Span) :=
 some (T_Span.mk (-1125899906842624) 1125899906842624)

noncomputable def F_sensor_in_L1 (p0 : Int) (p1 : Int) (p2 : List Int) (s1 : Int) : Option (Int ⊕ (Unit ⊕ Unit)) :=
 bif (decide (s1 < ((p2).length : Int))) then
 (getI p2 s1).bind fun x6 =>
 (bif (decide (x6 < p0)) then
 some true
 else
 some (decide (p1 < x6))).bind fun o8 =>
 bif o8 then
 some (Sum.inr (Sum.inl ()))
 else
 some (Sum.inl (IntKind.i64.wrap (s1 + 1)))
 else
 some (Sum.inr (Sum.inr ()))

noncomputable def F_sensor_in (p0 : Int) (p1 : Int) (p2 : List Int) : Option (Bool) :=
 (loopC (F_sensor_in_L1 p0 p1 p2) 0).bind fun o2 =>
 Sum.elim (fun j3 =>
 some false)
 (fun j4 =>
 some true) o2

noncomputable def F_sensor_Check (p0 : T_Sensor) : Option (Int) :=
 (F_sensor_in 1 6 [p0.Kind]).bind fun x1 =>
 bif (!x1) then
 some 5
 else
 ((F_sensor_in 0 255 [p0.Address]).bind fun x5 =>
 bif (!x5) then
 some true
 else
 bif (decide (p0.Target < 0)) then
 some true
 else
 (F_sensor_in (-1000000) 1000000 [p0.Offset, p0.Scale]).bind fun x9 =>
 some (!x9)).bind fun o4 =>
 bif o4 then
 some 1
 else
 ((F_sensor_in 0 1000000 [p0.Error, p0.Drift]).bind fun x13 =>
 bif (!x13) then
 some true
 else
 (F_sensor_in 1 1000000 [p0.Life]).bind fun x16 =>
 some (!x16)).bind fun o12 =>
 bif o12 then
 some 1
 else
 some 0

noncomputable def F_window_plain (p0 : Int) : Option (Bool) :=
 bif (decide (p0 = 4)) then
 some true
 else
 bif (decide (p0 = 5)) then
 some true
 else
 some (decide (p0 = 6))

noncomputable def F_window_At (p0 : T_Sensor) (p1 : T_Measure) (p2 : Int) : Option (T_Span) :=
 (F_sensor_Nothing).bind fun x1 =>
 ((F_sensor_Check p0).bind fun x4 =>
 bif (decide (x4 ≠ 0)) then
 some true
 else
 bif (decide (p1.Sensor < 0)) then
 some true
 else
 bif ((p1.Span.Low == x1.Low) && ((p1.Span.High == x1.High) && true)) then
 some true
 else
 bif (decide (p2 < p1.Time)) then
 some true
 else
 some (decide (p0.Life < (IntKind.i64.wrap (p2 - p1.Time))))).bind fun o3 =>
 bif o3 then
 some x1
 else
 (F_window_plain p0.Kind).bind fun x11 =>
 bif x11 then
 some p1.Span
 else
 (bif (decide (p0.Kind = 1)) then
 some true
 else
 some (decide (p0.Kind = 2))).bind fun o14 =>
 (bif o14 then
 some (T_Span.mk (max (IntKind.i64.wrap (p1.Span.Low - (IntKind.i64.wrap (Int.tdiv (IntKind.i64.wrap ((IntKind.i64.wrap (p0.Drift * (IntKind.i64.wrap (p2 - p1.Time)))) + 999)) 1000)))) 0) (max (IntKind.i64.wrap (p1.Span.High + (IntKind.i64.wrap (Int.tdiv (IntKind.i64.wrap ((IntKind.i64.wrap (p0.Drift * (IntKind.i64.wrap (p2 - p1.Time)))) + 999)) 1000)))) 0))
 else
 some (T_Span.mk (IntKind.i64.wrap (p1.Span.Low - (IntKind.i64.wrap (Int.tdiv (IntKind.i64.wrap ((IntKind.i64.wrap (p0.Drift * (IntKind.i64.wrap (p2 - p1.Time)))) + 999)) 1000)))) (IntKind.i64.wrap (p1.Span.High + (IntKind.i64.wrap (Int.tdiv (IntKind.i64.wrap ((IntKind.i64.wrap (p0.Drift * (IntKind.i64.wrap (p2 - p1.Time)))) + 999)) 1000)))))).bind fun o16 =>
 some o16

noncomputable def F_window_Meet_L1 (p0 : List T_Span) (s6 : Int × T_Span) : Option ((Int × T_Span) ⊕ T_Span) :=
 bif (decide (s6.1 < ((p0).length : Int))) then
 (getI p0 s6.1).bind fun x9 =>
 some (Sum.inl ((IntKind.i64.wrap (s6.1 + 1)), (T_Span.mk (max s6.2.Low x9.Low) (min s6.2.High x9.High))))
 else
 some (Sum.inr s6.2)

noncomputable def F_window_Meet (p0 : List T_Span) : Option (T_Span × Bool) :=
 bif (decide (((p0).length : Int) = 0)) then
 (F_sensor_Nothing).bind fun x2 =>
 some (x2, true)
 else
 (getI p0 0).bind fun x4 =>
 (loopC (F_window_Meet_L1 p0) (0, x4)).bind fun o7 =>
 bif (decide (o7.High < o7.Low)) then
 (F_sensor_Nothing).bind fun x12 =>
 some (x12, false)
 else
 some (o7, true)

noncomputable def F_airflow_Narrow_L1 (p1 : T_Span) (p2 : Int) (p3 : List T_Sensor) (p4 : List T_Measure) (p5 : Int) (s7 : Int × List T_Span × List Bool × List Bool) : Option ((Int × List T_Span × List Bool × List Bool) ⊕ (List T_Span × List Bool)) :=
 bif (decide (s7.1 < ((p4).length : Int))) then
 ((getI p4 s7.1).bind fun x11 =>
 (bif (decide (x11.Sensor < 0)) then
 some true
 else
 some (decide (((p3).length : Int) ≤ x11.Sensor))).bind fun o13 =>
 bif o13 then
 some (s7.2.1, s7.2.2.1, s7.2.2.2)
 else
 (getI p3 x11.Sensor).bind fun x16 =>
 (bif (decide (x16.Kind ≠ p2)) then
 some true
 else
 bif (decide (x16.Target < 0)) then
 some true
 else
 bif (decide (((s7.2.1).length : Int) ≤ x16.Target)) then
 some true
 else
 (getI s7.2.2.1 x16.Target).bind fun x22 =>
 some x22).bind fun o18 =>
 bif o18 then
 some (s7.2.1, s7.2.2.1, s7.2.2.2)
 else
 (getI s7.2.1 x16.Target).bind fun x25 =>
 (F_window_At x16 x11 p5).bind fun x27 =>
 (F_window_Meet [x25, x27]).bind fun x29 =>
 (bif (!x29.2) then
 (getI s7.2.2.1 x16.Target).bind fun x33 =>
 (getI s7.2.2.2 x11.Sensor).bind fun x35 =>
 some ((s7.2.2.1.set ((x16.Target).toNat) true), (s7.2.2.2.set ((x11.Sensor).toNat) true), p1)
 else
 some (s7.2.2.1, s7.2.2.2, x29.1)).bind fun o31 =>
 (getI s7.2.1 x16.Target).bind fun x37 =>
 some ((s7.2.1.set ((x16.Target).toNat) o31.2.2), o31.1, o31.2.1)).bind fun o10 =>
 some (Sum.inl ((IntKind.i64.wrap (s7.1 + 1)), o10.1, o10.2.1, o10.2.2))
 else
 some (Sum.inr (s7.2.1, s7.2.2.2))

noncomputable def F_airflow_Narrow_L2 (o8 : List T_Span × List Bool) (s39 : List Bool × Int × List Int) : Option ((List Bool × Int × List Int) ⊕ (List Int)) :=
 bif (decide (s39.2.1 < ((o8.2).length : Int))) then
 ((getI s39.1 s39.2.1).bind fun x43 =>
 bif x43 then
 (appI 8 s39.2.2 [s39.2.1]).bind fun x46 =>
 some x46
 else
 some s39.2.2).bind fun o42 =>
 some (Sum.inl (s39.1, (IntKind.i64.wrap (s39.2.1 + 1)), o42))
 else
 some (Sum.inr s39.2.2)

noncomputable def F_airflow_Narrow (p0 : List T_Span) (p1 : T_Span) (p2 : Int) (p3 : List T_Sensor) (p4 : List T_Measure) (p5 : Int) : Option (List T_Span × List Int) :=
 (appI 16 ([] : List T_Span) p0).bind fun x1 =>
 (makI 1 false ((x1).length : Int)).bind fun x3 =>
 (makI 1 false ((p3).length : Int)).bind fun x5 =>
 (loopC (F_airflow_Narrow_L1 p1 p2 p3 p4 p5) (0, x1, x3, x5)).bind fun o8 =>
 (loopC (F_airflow_Narrow_L2 o8) (o8.2, 0, ([] : List Int))).bind fun o40 =>
 some (o8.1, o40)

noncomputable def F_gas_Known_L1 (p0 : List Int) (s3 : Int × List T_Span) : Option ((Int × List T_Span) ⊕ (List T_Span)) :=
 bif (decide (s3.1 < ((p0).length : Int))) then
 (getI p0 s3.1).bind fun x6 =>
 (getI s3.2 s3.1).bind fun x8 =>
 some (Sum.inl ((IntKind.i64.wrap (s3.1 + 1)), (s3.2.set ((s3.1).toNat) (T_Span.mk x8.Low x6))))
 else
 some (Sum.inr s3.2)

noncomputable def F_gas_Known (p0 : List Int) (p1 : List T_Sensor) (p2 : List T_Measure) (p3 : Int) : Option (List T_Span × List Int) :=
 (makI 16 (T_Span.mk 0 0) ((p0).length : Int)).bind fun x1 =>
 (loopC (F_gas_Known_L1 p0) (0, x1)).bind fun o4 =>
 (F_airflow_Narrow o4 (T_Span.mk 0 1000000) 1 p1 p2 p3).bind fun x10 =>
 some (x10.1, x10.2)

noncomputable def F_ref01_Ints_L1 (p0 : List Int) (p1 : List Int) (s2 : Int) : Option (Int ⊕ (Unit ⊕ Unit)) :=
 bif (decide (s2 < ((p0).length : Int))) then
 (getI p0 s2).bind fun x7 =>
 (getI p1 s2).bind fun x9 =>
 bif (decide (x7 ≠ x9)) then
 some (Sum.inr (Sum.inl ()))
 else
 some (Sum.inl (IntKind.i64.wrap (s2 + 1)))
 else
 some (Sum.inr (Sum.inr ()))

noncomputable def F_ref01_Ints (p0 : List Int) (p1 : List Int) : Option (Bool) :=
 bif (decide (((p0).length : Int) ≠ ((p1).length : Int))) then
 some false
 else
 (loopC (F_ref01_Ints_L1 p0 p1) 0).bind fun o3 =>
 Sum.elim (fun j4 =>
 some false)
 (fun j5 =>
 some true) o3

noncomputable def F_ref01_Spans_L1 (p0 : List T_Span) (p1 : List T_Span) (s2 : Int) : Option (Int ⊕ (Unit ⊕ Unit)) :=
 bif (decide (s2 < ((p0).length : Int))) then
 (getI p0 s2).bind fun x7 =>
 (getI p1 s2).bind fun x9 =>
 bif (!((x7.Low == x9.Low) && ((x7.High == x9.High) && true))) then
 some (Sum.inr (Sum.inl ()))
 else
 some (Sum.inl (IntKind.i64.wrap (s2 + 1)))
 else
 some (Sum.inr (Sum.inr ()))

noncomputable def F_ref01_Spans (p0 : List T_Span) (p1 : List T_Span) : Option (Bool) :=
 bif (decide (((p0).length : Int) ≠ ((p1).length : Int))) then
 some false
 else
 (loopC (F_ref01_Spans_L1 p0 p1) 0).bind fun o3 =>
 Sum.elim (fun j4 =>
 some false)
 (fun j5 =>
 some true) o3

noncomputable def F_law16_awake  : Option (Bool) :=
 (F_gas_Most (T_Mine.mk [(T_Place.mk 0 true), (T_Place.mk 0 false)] [(T_Road.mk 0 1 1 1 false false (T_Span.mk 1 1) (T_Span.mk 0 0))]) [(T_Span.mk 200 220)] [(T_Source.mk 0 (T_Span.mk 0 1001000))]).bind fun x1 =>
 (F_gas_Known [50] [(T_Sensor.mk 0 1 0 0 0 0 0 9)] [(T_Measure.mk 0 0 (T_Span.mk 20 90))] 0).bind fun x3 =>
 bif (decide (x1.2.2 = 0)) then
 (F_ref01_Ints x1.1 [0, 5005]).bind fun x6 =>
 bif x6 then
 (F_ref01_Ints x1.2.1 [5005]).bind fun x9 =>
 bif x9 then
 (F_ref01_Spans x3.1 [(T_Span.mk 20 50)]).bind fun x12 =>
 bif x12 then
 some (decide (((x3.2).length : Int) = 0))
 else
 some false
 else
 some false
 else
 some false
 else
 some false

noncomputable def F_draw_New (p0 : List Int) : Option (T_draw_Codes) :=
 (sliI p0 0 (min ((p0).length : Int) 300)).bind fun x1 =>
 some (T_draw_Codes.mk x1 0)

noncomputable def F_draw_Codes_Next (p0 : T_draw_Codes) (p1 : Int) : Option (T_draw_Codes × Int) :=
 (bif (decide (p1 < 1)) then
 some true
 else
 some (decide (((p0.l).length : Int) ≤ p0.at_))).bind fun o1 =>
 bif o1 then
 some (p0, 0)
 else
 (getI p0.l (IntKind.i64.wrap ((IntKind.i64.wrap (p0.at_ + 1)) - 1))).bind fun x4 =>
 (bif (decide (256 < p1)) then
 some (decide ((IntKind.i64.wrap (p0.at_ + 1)) < ((p0.l).length : Int)))
 else
 some false).bind fun o6 =>
 (bif o6 then
 (getI p0.l (IntKind.i64.wrap (p0.at_ + 1))).bind fun x10 =>
 some ((IntKind.i64.wrap ((IntKind.i64.wrap ((IntKind.i64.wrap x4) * 256)) + (IntKind.i64.wrap x10))), (IntKind.i64.wrap ((IntKind.i64.wrap (p0.at_ + 1)) + 1)))
 else
 some ((IntKind.i64.wrap x4), (IntKind.i64.wrap (p0.at_ + 1)))).bind fun o8 =>
 (remI o8.1 p1).bind fun x12 =>
 some ((T_draw_Codes.mk p0.l o8.2), x12)

noncomputable def F_draw_Codes_One (p0 : T_draw_Codes) (p1 : Int) : Option (T_draw_Codes × Bool) :=
 (F_draw_Codes_Next p0 p1).bind fun x1 =>
 some (x1.1, (decide (x1.2 = (IntKind.i64.wrap (p1 - 1)))))

noncomputable def F_draw_Codes_Range (p0 : T_draw_Codes) (p1 : Int) (p2 : Int) : Option (T_draw_Codes × Int) :=
 (F_draw_Codes_Next p0 (IntKind.i64.wrap ((IntKind.i64.wrap (p2 - p1)) + 1))).bind fun x1 =>
 some (x1.1, (IntKind.i64.wrap (p1 + x1.2)))

noncomputable def F_draw_Codes_Road (p0 : T_draw_Codes) (p1 : Int) (p2 : Int) : Option (T_draw_Codes × T_Road) :=
 (F_draw_Codes_Range p0 1 400).bind fun x1 =>
 (F_draw_Codes_Range x1.1 4 30).bind fun x3 =>
 (F_draw_Codes_Next x3.1 4).bind fun x5 =>
 (F_draw_Codes_Range x5.1 1 20).bind fun x7 =>
 (F_draw_Codes_Next x7.1 3).bind fun x9 =>
 (F_draw_Codes_Range x9.1 (-300) 300).bind fun x11 =>
 (F_draw_Codes_Next x11.1 20).bind fun x13 =>
 some (x13.1, (T_Road.mk p1 p2 x1.2 x3.2 (decide (0 < x5.2)) false (T_Span.mk x7.2 (IntKind.i64.wrap (x7.2 + x9.2))) (T_Span.mk x11.2 (IntKind.i64.wrap (x11.2 + x13.2)))))

noncomputable def F_ref05_Floor (p0 : Int) (p1 : Int) : Option (Int) :=
 (quoI .i64 p0 p1).bind fun x1 =>
 (remI p0 p1).bind fun x3 =>
 (bif (decide (x3 < 0)) then
 some (IntKind.i64.wrap (x1 - 1))
 else
 some x1).bind fun o5 =>
 some o5

noncomputable def F_ref05_Ceil (p0 : Int) (p1 : Int) : Option (Int) :=
 (F_ref05_Floor (IntKind.i64.wrap (0 - p0)) p1).bind fun x1 =>
 some (IntKind.i64.wrap (0 - x1))

noncomputable def F_law16_sources_L1 (p1 : Int) (s3 : Int × List T_Source × T_draw_Codes) : Option ((Int × List T_Source × T_draw_Codes) ⊕ (List T_Source × T_draw_Codes)) :=
 bif (decide (0 < s3.1)) then
 (F_draw_Codes_Next s3.2.2 (IntKind.i64.wrap (p1 + 1))).bind fun x6 =>
 (F_draw_Codes_Next x6.1 4000).bind fun x8 =>
 (F_draw_Codes_Next x8.1 300).bind fun x10 =>
 (F_draw_Codes_One x10.1 12).bind fun x12 =>
 (bif x12.2 then
 some (IntKind.i64.wrap ((IntKind.i64.wrap (x8.2 + x10.2)) + 1))
 else
 some x8.2).bind fun o14 =>
 (appI 24 s3.2.1 [(T_Source.mk x6.2 (T_Span.mk o14 (IntKind.i64.wrap (x8.2 + x10.2))))]).bind fun x16 =>
 some (Sum.inl ((IntKind.i64.wrap (s3.1 - 1)), x16, x12.1))
 else
 some (Sum.inr (s3.2.1, s3.2.2))

noncomputable def F_law16_sources (p0 : T_draw_Codes) (p1 : Int) : Option (T_draw_Codes × List T_Source) :=
 (F_draw_Codes_Next p0 4).bind fun x1 =>
 (loopC (F_law16_sources_L1 p1) (x1.2, ([] : List T_Source), x1.1)).bind fun o4 =>
 some (o4.2, o4.1)

noncomputable def F_ref01_Span (p0 : T_Span) (p1 : Int) (p2 : Int) : Option (Bool) :=
 bif (decide (p1 ≤ p0.Low)) then
 bif (decide (p0.Low ≤ p0.High)) then
 some (decide (p0.High ≤ p2))
 else
 some false
 else
 some false

noncomputable def F_ref01_Check_L1 (p0 : T_Mine) (s4 : Int) : Option (Int ⊕ (Unit ⊕ Unit)) :=
 bif (decide (s4 < ((p0.Places).length : Int))) then
 (getI p0.Places s4).bind fun x9 =>
 (bif (decide (x9.Height < (-10000))) then
 some true
 else
 some (decide (10000 < x9.Height))).bind fun o11 =>
 bif o11 then
 some (Sum.inr (Sum.inl ()))
 else
 some (Sum.inl (IntKind.i64.wrap (s4 + 1)))
 else
 some (Sum.inr (Sum.inr ()))

noncomputable def F_ref01_Check_L2 (p0 : T_Mine) (s14 : Int) : Option (Int ⊕ (Int ⊕ Unit)) :=
 bif (decide (s14 < ((p0.Roads).length : Int))) then
 (getI p0.Roads s14).bind fun x19 =>
 (bif (decide (x19.From < 0)) then
 some true
 else
 bif (decide (((p0.Places).length : Int) ≤ x19.From)) then
 some true
 else
 bif (decide (x19.To < 0)) then
 some true
 else
 bif (decide (((p0.Places).length : Int) ≤ x19.To)) then
 some true
 else
 some (decide (x19.From = x19.To))).bind fun o21 =>
 bif o21 then
 some (Sum.inr (Sum.inl 4))
 else
 (bif (decide (x19.Length < 1)) then
 some true
 else
 bif (decide (100000 < x19.Length)) then
 some true
 else
 bif (decide (x19.Area < 1)) then
 some true
 else
 bif (decide (1000 < x19.Area)) then
 some true
 else
 (F_ref01_Span x19.Rest 1 262144).bind fun x32 =>
 bif (!x32) then
 some true
 else
 (F_ref01_Span x19.Lift (-2199023255552) 2199023255552).bind fun x35 =>
 some (!x35)).bind fun o27 =>
 bif o27 then
 some (Sum.inr (Sum.inl 1))
 else
 some (Sum.inl (IntKind.i64.wrap (s14 + 1)))
 else
 some (Sum.inr (Sum.inr ()))

noncomputable def F_ref01_Check (p0 : T_Mine) : Option (Int) :=
 (bif (decide (64 < ((p0.Places).length : Int))) then
 some true
 else
 some (decide (128 < ((p0.Roads).length : Int)))).bind fun o1 =>
 bif o1 then
 some 2
 else
 (loopC (F_ref01_Check_L1 p0) 0).bind fun o5 =>
 Sum.elim (fun j6 =>
 some 1)
 (fun j7 =>
 (loopC (F_ref01_Check_L2 p0) 0).bind fun o15 =>
 Sum.elim (fun j16 =>
 some j16)
 (fun j17 =>
 some 0) o15) o5

noncomputable def F_ref16_Check_L1 (p0 : T_Mine) (p1 : List T_Source) (s5 : Int) : Option (Int ⊕ (Int ⊕ Unit)) :=
 bif (decide (s5 < ((p1).length : Int))) then
 ((getI p1 s5).bind fun x11 =>
 bif (decide (x11.Road < 0)) then
 some true
 else
 (getI p1 s5).bind fun x14 =>
 some (decide (((p0.Roads).length : Int) ≤ x14.Road))).bind fun o10 =>
 bif o10 then
 some (Sum.inr (Sum.inl 4))
 else
 (getI p1 s5).bind fun x17 =>
 (F_ref01_Span x17.Inflow 0 1099511627776).bind fun x19 =>
 bif (!x19) then
 some (Sum.inr (Sum.inl 1))
 else
 some (Sum.inl (IntKind.i64.wrap (s5 + 1)))
 else
 some (Sum.inr (Sum.inr ()))

noncomputable def F_ref16_Check (p0 : T_Mine) (p1 : List T_Source) : Option (Int) :=
 (F_ref01_Check p0).bind fun x1 =>
 bif (decide (x1 ≠ 0)) then
 some x1
 else
 bif (decide (32 < ((p1).length : Int))) then
 some 2
 else
 (loopC (F_ref16_Check_L1 p0 p1) 0).bind fun o6 =>
 Sum.elim (fun j7 =>
 some j7)
 (fun j8 =>
 some 0) o6

noncomputable def F_ref13_Direction (p0 : T_Span) : Option (Int) :=
 bif (decide (p0.High < p0.Low)) then
 some 0
 else
 bif (decide (0 < p0.Low)) then
 some 1
 else
 bif (decide (p0.High < 0)) then
 some (-1)
 else
 some 0

noncomputable def F_ref16_added (p0 : T_Span) (p1 : Int) : Option (Int) :=
 bif (decide (p1 = 0)) then
 some 0
 else
 (F_ref13_Direction p0).bind fun x2 =>
 bif (decide (x2 = 1)) then
 (F_ref05_Ceil p1 p0.Low).bind fun x5 =>
 some (min 1000000 x5)
 else
 bif (decide (x2 = (-1))) then
 (F_ref05_Ceil p1 (IntKind.i64.wrap (0 - p0.High))).bind fun x8 =>
 some (min 1000000 x8)
 else
 some 1000000

noncomputable def F_ref14_Can (p0 : T_Mine) (p1 : List T_Span) (p2 : Int) (p3 : Bool) : Option (Bool) :=
 (getI p0.Roads p2).bind fun x1 =>
 bif x1.Closed then
 some false
 else
 bif p3 then
 (getI p1 p2).bind fun x5 =>
 some (decide (x5.Low < 0))
 else
 (getI p1 p2).bind fun x7 =>
 some (decide (0 < x7.High))

noncomputable def F_ref14_Ends (p0 : T_Mine) (p1 : Int) (p2 : Bool) : Option (Int × Int) :=
 bif p2 then
 (getI p0.Roads p1).bind fun x2 =>
 (getI p0.Roads p1).bind fun x4 =>
 some (x2.To, x4.From)
 else
 (getI p0.Roads p1).bind fun x6 =>
 (getI p0.Roads p1).bind fun x8 =>
 some (x6.From, x8.To)

noncomputable def F_ref14_right (p0 : T_Mine) (p1 : List T_Span) : Option (Bool) :=
 (F_ref01_Check p0).bind fun x1 =>
 bif (decide (x1 = 0)) then
 some (decide (((p1).length : Int) = ((p0.Roads).length : Int)))
 else
 some false

noncomputable def F_ref14_reach_L3 (p0 : T_Mine) (p1 : List T_Span) (p3 : Int) (s6 : Bool × Int × List Bool) (s9 : Bool × Int × List Bool) : Option ((Bool × Int × List Bool) ⊕ (Bool × List Bool)) :=
 bif (decide (s9.2.1 < 2)) then
 ((F_ref14_Ends p0 s6.2.1 (decide (s9.2.1 = 1))).bind fun x13 =>
 (bif (decide (s6.2.1 ≠ p3)) then
 (F_ref14_Can p0 p1 s6.2.1 (decide (s9.2.1 = 1))).bind fun x17 =>
 bif x17 then
 (getI s9.2.2 x13.1).bind fun x20 =>
 bif x20 then
 (getI s9.2.2 x13.2).bind fun x23 =>
 bif (!x23) then
 (getI p0.Places x13.1).bind fun x26 =>
 bif (!x26.Surface) then
 (getI p0.Places x13.2).bind fun x29 =>
 some (!x29.Surface)
 else
 some false
 else
 some false
 else
 some false
 else
 some false
 else
 some false).bind fun o15 =>
 bif o15 then
 (getI s9.2.2 x13.2).bind fun x32 =>
 some (true, (s9.2.2.set ((x13.2).toNat) true))
 else
 some (s9.1, s9.2.2)).bind fun o12 =>
 some (Sum.inl (o12.1, (IntKind.i64.wrap (s9.2.1 + 1)), o12.2))
 else
 some (Sum.inr (s9.1, s9.2.2))

noncomputable def F_ref14_reach_L2 (p0 : T_Mine) (p1 : List T_Span) (p3 : Int) (s6 : Bool × Int × List Bool) : Option ((Bool × Int × List Bool) ⊕ (Bool × List Bool)) :=
 bif (decide (s6.2.1 < ((p0.Roads).length : Int))) then
 (loopC (F_ref14_reach_L3 p0 p1 p3 s6) (s6.1, 0, s6.2.2)).bind fun o10 =>
 some (Sum.inl (o10.1, (IntKind.i64.wrap (s6.2.1 + 1)), o10.2))
 else
 some (Sum.inr (s6.1, s6.2.2))

noncomputable def F_ref14_reach_L1 (p0 : T_Mine) (p1 : List T_Span) (p3 : Int) (s3 : Bool × List Bool) : Option ((Bool × List Bool) ⊕ (List Bool)) :=
 bif s3.1 then
 (loopC (F_ref14_reach_L2 p0 p1 p3) (false, 0, s3.2)).bind fun o7 =>
 some (Sum.inl (o7.1, o7.2))
 else
 some (Sum.inr s3.2)

noncomputable def F_ref14_reach (p0 : T_Mine) (p1 : List T_Span) (p2 : List Bool) (p3 : Int) : Option (List Bool) :=
 (appI 1 ([] : List Bool) p2).bind fun x1 =>
 (loopC (F_ref14_reach_L1 p0 p1 p3) (true, x1)).bind fun o4 =>
 some o4

noncomputable def F_ref14_Circles_L2 (p0 : T_Mine) (p1 : List T_Span) (s4 : Int × List Int) (s8 : Bool × Int) : Option ((Bool × Int) ⊕ Bool) :=
 bif (decide (s8.2 < 2)) then
 ((F_ref14_Ends p0 s4.1 (decide (s8.2 = 1))).bind fun x12 =>
 ((F_ref14_Can p0 p1 s4.1 (decide (s8.2 = 1))).bind fun x15 =>
 bif (!x15) then
 some true
 else
 (getI p0.Places x12.1).bind fun x18 =>
 bif x18.Surface then
 some true
 else
 (getI p0.Places x12.2).bind fun x21 =>
 some x21.Surface).bind fun o14 =>
 bif o14 then
 some s8.1
 else
 (makI 1 false ((p0.Places).length : Int)).bind fun x24 =>
 (getI x24 x12.2).bind fun x26 =>
 bif s8.1 then
 some true
 else
 (F_ref14_reach p0 p1 (x24.set ((x12.2).toNat) true) s4.1).bind fun x29 =>
 (getI x29 x12.1).bind fun x31 =>
 some x31).bind fun o11 =>
 some (Sum.inl (o11, (IntKind.i64.wrap (s8.2 + 1))))
 else
 some (Sum.inr s8.1)

noncomputable def F_ref14_Circles_L1 (p0 : T_Mine) (p1 : List T_Span) (s4 : Int × List Int) : Option ((Int × List Int) ⊕ (List Int)) :=
 bif (decide (s4.1 < ((p0.Roads).length : Int))) then
 ((loopC (F_ref14_Circles_L2 p0 p1 s4) (false, 0)).bind fun o9 =>
 bif o9 then
 (appI 8 s4.2 [s4.1]).bind fun x34 =>
 some x34
 else
 some s4.2).bind fun o7 =>
 some (Sum.inl ((IntKind.i64.wrap (s4.1 + 1)), o7))
 else
 some (Sum.inr s4.2)

noncomputable def F_ref14_Circles (p0 : T_Mine) (p1 : List T_Span) : Option (List Int) :=
 (F_ref14_right p0 p1).bind fun x1 =>
 bif (!x1) then
 some ([] : List Int)
 else
 (loopC (F_ref14_Circles_L1 p0 p1) (0, ([] : List Int))).bind fun o5 =>
 some o5

noncomputable def F_ref14_Mixed_L1 (p0 : T_Mine) (x1 : List Int) (s5 : Int × List Bool) : Option ((Int × List Bool) ⊕ (List Bool)) :=
 bif (decide (s5.1 < ((x1).length : Int))) then
 (getI x1 s5.1).bind fun x8 =>
 (getI p0.Roads x8).bind fun x10 =>
 (getI x1 s5.1).bind fun x12 =>
 (getI p0.Roads x12).bind fun x14 =>
 (getI s5.2 x10.From).bind fun x16 =>
 (getI (s5.2.set ((x10.From).toNat) true) x14.To).bind fun x18 =>
 some (Sum.inl ((IntKind.i64.wrap (s5.1 + 1)), ((s5.2.set ((x10.From).toNat) true).set ((x14.To).toNat) true)))
 else
 some (Sum.inr s5.2)

noncomputable def F_ref14_Mixed_L2 (o20 : List Bool) (s24 : Int × List Int) : Option ((Int × List Int) ⊕ (List Int)) :=
 bif (decide (s24.1 < ((o20).length : Int))) then
 ((getI o20 s24.1).bind fun x28 =>
 bif x28 then
 (appI 8 s24.2 [s24.1]).bind fun x31 =>
 some x31
 else
 some s24.2).bind fun o27 =>
 some (Sum.inl ((IntKind.i64.wrap (s24.1 + 1)), o27))
 else
 some (Sum.inr s24.2)

noncomputable def F_ref14_Mixed (p0 : T_Mine) (p1 : List T_Span) : Option (List Int) :=
 (F_ref14_Circles p0 p1).bind fun x1 =>
 (makI 1 false ((p0.Places).length : Int)).bind fun x3 =>
 (loopC (F_ref14_Mixed_L1 p0 x1) (0, x3)).bind fun o6 =>
 (bif (decide (0 < ((x1).length : Int))) then
 (F_ref14_reach p0 p1 o6 (-1)).bind fun x22 =>
 some x22
 else
 some o6).bind fun o20 =>
 (loopC (F_ref14_Mixed_L2 o20) (0, ([] : List Int))).bind fun o25 =>
 some o25

noncomputable def F_ref01_Has_L1 (p0 : List Int) (p1 : Int) (s1 : Int) : Option (Int ⊕ (Unit ⊕ Unit)) :=
 bif (decide (s1 < ((p0).length : Int))) then
 (getI p0 s1).bind fun x6 =>
 bif (decide (x6 = p1)) then
 some (Sum.inr (Sum.inl ()))
 else
 some (Sum.inl (IntKind.i64.wrap (s1 + 1)))
 else
 some (Sum.inr (Sum.inr ()))

noncomputable def F_ref01_Has (p0 : List Int) (p1 : Int) : Option (Bool) :=
 (loopC (F_ref01_Has_L1 p0 p1) 0).bind fun o2 =>
 Sum.elim (fun j3 =>
 some true)
 (fun j4 =>
 some false) o2

noncomputable def F_ref16_begin_L2 (p2 : List T_Source) (s9 : Int × List Int × List Int × List Bool) (s13 : Int × Int) : Option ((Int × Int) ⊕ Int) :=
 bif (decide (s13.2 < ((p2).length : Int))) then
 ((getI p2 s13.2).bind fun x17 =>
 bif (decide (x17.Road = s9.1)) then
 (getI p2 s13.2).bind fun x20 =>
 some (IntKind.i64.wrap (s13.1 + x20.Inflow.High))
 else
 some s13.1).bind fun o16 =>
 some (Sum.inl (o16, (IntKind.i64.wrap (s13.2 + 1))))
 else
 some (Sum.inr s13.1)

noncomputable def F_ref16_begin_L3 (p0 : T_Mine) (p1 : List T_Span) (s9 : Int × List Int × List Int × List Bool) (s28 : Bool × Int × List Bool) : Option ((Bool × Int × List Bool) ⊕ (Bool × List Bool)) :=
 bif (decide (s28.2.1 < 2)) then
 ((F_ref14_Can p0 p1 s9.1 (decide (s28.2.1 = 1))).bind fun x32 =>
 bif x32 then
 (F_ref14_Ends p0 s9.1 (decide (s28.2.1 = 1))).bind fun x35 =>
 (getI s28.2.2 x35.2).bind fun x37 =>
 some (false, (s28.2.2.set ((x35.2).toNat) true))
 else
 some (s28.1, s28.2.2)).bind fun o31 =>
 some (Sum.inl (o31.1, (IntKind.i64.wrap (s28.2.1 + 1)), o31.2))
 else
 some (Sum.inr (s28.1, s28.2.2))

noncomputable def F_ref16_begin_L1 (p0 : T_Mine) (p1 : List T_Span) (p2 : List T_Source) (s9 : Int × List Int × List Int × List Bool) : Option ((Int × List Int × List Int × List Bool) ⊕ (List Int × List Int × List Bool)) :=
 bif (decide (s9.1 < ((s9.2.1).length : Int))) then
 ((loopC (F_ref16_begin_L2 p2 s9) (0, 0)).bind fun o14 =>
 (getI p1 s9.1).bind fun x22 =>
 (F_ref16_added x22 o14).bind fun x24 =>
 (getI s9.2.2.1 s9.1).bind fun x26 =>
 (loopC (F_ref16_begin_L3 p0 p1 s9) (true, 0, s9.2.2.2)).bind fun o29 =>
 bif o29.1 then
 (getI s9.2.1 s9.1).bind fun x40 =>
 some ((s9.2.1.set ((s9.1).toNat) 1000000), (s9.2.2.1.set ((s9.1).toNat) x24), o29.2)
 else
 some (s9.2.1, (s9.2.2.1.set ((s9.1).toNat) x24), o29.2)).bind fun o12 =>
 some (Sum.inl ((IntKind.i64.wrap (s9.1 + 1)), o12.1, o12.2.1, o12.2.2))
 else
 some (Sum.inr (s9.2.1, s9.2.2.1, s9.2.2.2))

noncomputable def F_ref16_begin_L4 (p0 : T_Mine) (o10 : List Int × List Int × List Bool) (x42 : List Int) (s44 : Int × List Int) : Option ((Int × List Int) ⊕ (List Int)) :=
 bif (decide (s44.1 < ((s44.2).length : Int))) then
 (((getI p0.Places s44.1).bind fun x49 =>
 bif (!x49.Surface) then
 (getI o10.2.2 s44.1).bind fun x52 =>
 bif (!x52) then
 some true
 else
 (F_ref01_Has x42 s44.1).bind fun x55 =>
 some x55
 else
 some false).bind fun o48 =>
 bif o48 then
 (getI s44.2 s44.1).bind fun x58 =>
 some (s44.2.set ((s44.1).toNat) 1000000)
 else
 some s44.2).bind fun o47 =>
 some (Sum.inl ((IntKind.i64.wrap (s44.1 + 1)), o47))
 else
 some (Sum.inr s44.2)

noncomputable def F_ref16_begin (p0 : T_Mine) (p1 : List T_Span) (p2 : List T_Source) : Option (List Int × List Int × List Int) :=
 (makI 8 0 ((p0.Places).length : Int)).bind fun x1 =>
 (makI 8 0 ((p0.Roads).length : Int)).bind fun x3 =>
 (makI 8 0 ((p0.Roads).length : Int)).bind fun x5 =>
 (makI 1 false ((x1).length : Int)).bind fun x7 =>
 (loopC (F_ref16_begin_L1 p0 p1 p2) (0, x3, x5, x7)).bind fun o10 =>
 (F_ref14_Mixed p0 p1).bind fun x42 =>
 (loopC (F_ref16_begin_L4 p0 o10 x42) (0, x1)).bind fun o45 =>
 some (o45, o10.1, o10.2.1)

noncomputable def F_ref16_Most_L3 (p0 : T_Mine) (p1 : List T_Span) (x5 : List Int × List Int × List Int) (s10 : Bool × Int × List Int × List Int) (s13 : Bool × Int × List Int × List Int) : Option ((Bool × Int × List Int × List Int) ⊕ (Bool × List Int × List Int)) :=
 bif (decide (s13.2.1 < 2)) then
 ((F_ref14_Can p0 p1 s10.2.1 (decide (s13.2.1 = 1))).bind fun x17 =>
 bif (!x17) then
 some (s13.1, s13.2.2.1, s13.2.2.2)
 else
 (F_ref14_Ends p0 s10.2.1 (decide (s13.2.1 = 1))).bind fun x20 =>
 (getI s13.2.2.1 x20.1).bind fun x22 =>
 (getI x5.2.2 s10.2.1).bind fun x24 =>
 (getI s13.2.2.2 s10.2.1).bind fun x26 =>
 (bif (decide (x26 < (min 1000000 (IntKind.i64.wrap (x22 + x24))))) then
 (getI s13.2.2.2 s10.2.1).bind fun x30 =>
 some (true, (s13.2.2.2.set ((s10.2.1).toNat) (min 1000000 (IntKind.i64.wrap (x22 + x24)))))
 else
 some (s13.1, s13.2.2.2)).bind fun o28 =>
 ((getI p0.Places x20.2).bind fun x33 =>
 bif (!x33.Surface) then
 (getI o28.2 s10.2.1).bind fun x36 =>
 (getI s13.2.2.1 x20.2).bind fun x38 =>
 some (decide (x38 < x36))
 else
 some false).bind fun o32 =>
 bif o32 then
 (getI o28.2 s10.2.1).bind fun x41 =>
 (getI s13.2.2.1 x20.2).bind fun x43 =>
 some (true, (s13.2.2.1.set ((x20.2).toNat) x41), o28.2)
 else
 some (o28.1, s13.2.2.1, o28.2)).bind fun o16 =>
 some (Sum.inl (o16.1, (IntKind.i64.wrap (s13.2.1 + 1)), o16.2.1, o16.2.2))
 else
 some (Sum.inr (s13.1, s13.2.2.1, s13.2.2.2))

noncomputable def F_ref16_Most_L2 (p0 : T_Mine) (p1 : List T_Span) (x5 : List Int × List Int × List Int) (s10 : Bool × Int × List Int × List Int) : Option ((Bool × Int × List Int × List Int) ⊕ (Bool × List Int × List Int)) :=
 bif (decide (s10.2.1 < ((s10.2.2.2).length : Int))) then
 (loopC (F_ref16_Most_L3 p0 p1 x5 s10) (s10.1, 0, s10.2.2.1, s10.2.2.2)).bind fun o14 =>
 some (Sum.inl (o14.1, (IntKind.i64.wrap (s10.2.1 + 1)), o14.2.1, o14.2.2))
 else
 some (Sum.inr (s10.1, s10.2.2.1, s10.2.2.2))

noncomputable def F_ref16_Most_L1 (p0 : T_Mine) (p1 : List T_Span) (x5 : List Int × List Int × List Int) (s7 : Bool × List Int × List Int) : Option ((Bool × List Int × List Int) ⊕ (List Int × List Int)) :=
 bif s7.1 then
 (loopC (F_ref16_Most_L2 p0 p1 x5) (false, 0, s7.2.1, s7.2.2)).bind fun o11 =>
 some (Sum.inl (o11.1, o11.2.1, o11.2.2))
 else
 some (Sum.inr (s7.2.1, s7.2.2))

noncomputable def F_ref16_Most (p0 : T_Mine) (p1 : List T_Span) (p2 : List T_Source) : Option (List Int × List Int × Int) :=
 (F_ref16_Check p0 p2).bind fun x1 =>
 bif (decide (x1 ≠ 0)) then
 some (([] : List Int), ([] : List Int), x1)
 else
 bif (decide (((p1).length : Int) ≠ ((p0.Roads).length : Int))) then
 some (([] : List Int), ([] : List Int), 11)
 else
 (F_ref16_begin p0 p1 p2).bind fun x5 =>
 (loopC (F_ref16_Most_L1 p0 p1 x5) (true, x5.1, x5.2.1)).bind fun o8 =>
 some (o8.1, o8.2, 0)

noncomputable def F_draw_Codes_Mine_L1  (s3 : Int × List T_Place × T_draw_Codes) : Option ((Int × List T_Place × T_draw_Codes) ⊕ (List T_Place × T_draw_Codes)) :=
 bif (decide (0 < s3.1)) then
 (F_draw_Codes_Range s3.2.2 (-60) 60).bind fun x6 =>
 (F_draw_Codes_One x6.1 5).bind fun x8 =>
 (appI 16 s3.2.1 [(T_Place.mk x6.2 x8.2)]).bind fun x10 =>
 some (Sum.inl ((IntKind.i64.wrap (s3.1 - 1)), x10, x8.1))
 else
 some (Sum.inr (s3.2.1, s3.2.2))

noncomputable def F_draw_Codes_Mine_L2 (o4 : List T_Place × T_draw_Codes) (s14 : Int × T_Mine × T_draw_Codes) : Option ((Int × T_Mine × T_draw_Codes) ⊕ (T_Mine × T_draw_Codes)) :=
 bif (decide (0 < s14.1)) then
 (F_draw_Codes_Next s14.2.2 ((o4.1).length : Int)).bind fun x17 =>
 (F_draw_Codes_Next x17.1 (IntKind.i64.wrap (((o4.1).length : Int) - 1))).bind fun x19 =>
 (remI (IntKind.i64.wrap ((IntKind.i64.wrap (x17.2 + 1)) + x19.2)) ((o4.1).length : Int)).bind fun x21 =>
 (F_draw_Codes_Road x19.1 x17.2 x21).bind fun x23 =>
 (F_draw_Codes_One x23.1 6).bind fun x25 =>
 (appI 72 s14.2.1.Roads [(T_Road.mk x23.2.From x23.2.To x23.2.Length x23.2.Area x23.2.Walk x25.2 x23.2.Rest x23.2.Lift)]).bind fun x27 =>
 some (Sum.inl ((IntKind.i64.wrap (s14.1 - 1)), (T_Mine.mk s14.2.1.Places x27), x25.1))
 else
 some (Sum.inr (s14.2.1, s14.2.2))

noncomputable def F_draw_Codes_Mine (p0 : T_draw_Codes) : Option (T_draw_Codes × T_Mine) :=
 (F_draw_Codes_Next p0 6).bind fun x1 =>
 (loopC F_draw_Codes_Mine_L1 ((IntKind.i64.wrap (1 + x1.2)), [(T_Place.mk 0 true)], x1.1)).bind fun o4 =>
 (F_draw_Codes_Next o4.2 9).bind fun x12 =>
 (loopC (F_draw_Codes_Mine_L2 o4) (x12.2, (T_Mine.mk o4.1 ([] : List T_Road)), x12.1)).bind fun o15 =>
 some (o15.2, o15.1)

noncomputable def F_law16_GasAnyMine_L1 (p1 : Int) (x3 : T_draw_Codes × T_Mine) (s5 : Int × T_draw_Codes × T_Mine × List T_Span) : Option ((Int × T_draw_Codes × T_Mine × List T_Span) ⊕ (T_draw_Codes × T_Mine × List T_Span)) :=
 bif (decide (s5.1 < ((x3.2.Roads).length : Int))) then
 (F_draw_Codes_Range s5.2.1 (-9) 9).bind fun x8 =>
 (F_draw_Codes_Next x8.1 6).bind fun x10 =>
 (shrI .u8 p1 (IntKind.u64.wrap (Int.tmod s5.1 8))).bind fun x12 =>
 (bif (decide ((bits .and .u8 x12 1) = 1)) then
 some (T_Span.mk (-1125899906842624) 1125899906842624)
 else
 some (T_Span.mk x8.2 (IntKind.i64.wrap (x8.2 + x10.2)))).bind fun o14 =>
 (appI 16 s5.2.2.2 [o14]).bind fun x16 =>
 some (Sum.inl ((IntKind.i64.wrap (s5.1 + 1)), x10.1, s5.2.2.1, x16))
 else
 some (Sum.inr (s5.2.1, s5.2.2.1, s5.2.2.2))

noncomputable def F_law16_GasAnyMine (p0 : List Int) (p1 : Int) : Option (Bool) :=
 (F_draw_New p0).bind fun x1 =>
 (F_draw_Codes_Mine x1).bind fun x3 =>
 (loopC (F_law16_GasAnyMine_L1 p1 x3) (0, x3.1, x3.2, ([] : List T_Span))).bind fun o6 =>
 (F_law16_sources o6.1 ((o6.2.1.Roads).length : Int)).bind fun x18 =>
 (F_gas_Most o6.2.1 o6.2.2 x18.2).bind fun x20 =>
 (F_ref16_Most o6.2.1 o6.2.2 x18.2).bind fun x22 =>
 bif (decide (x20.2.2 = x22.2.2)) then
 (F_ref01_Ints x20.1 x22.1).bind fun x25 =>
 bif x25 then
 (F_ref01_Ints x20.2.1 x22.2.1).bind fun x28 =>
 bif x28 then
 (F_law16_awake).bind fun x31 =>
 some x31
 else
 some false
 else
 some false
 else
 some false

end Go.L
