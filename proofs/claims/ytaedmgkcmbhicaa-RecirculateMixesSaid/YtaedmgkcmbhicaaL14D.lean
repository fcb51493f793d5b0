/- Printed by wip/lift/lift.py: the functions of the program, as partial functions of plain data. -/
import Derived.Test.YtaedmgkcmbhicaaAmlZ
namespace Go.L
open Go Go.Aml

structure T_draw_Codes where
 l : List Int
 at_ : Int
 deriving DecidableEq
def T_draw_Codes.enc (x : T_draw_Codes) : PV := .agg [.vs 1 (List.map (PV.int .u8) x.l), .int .i64 x.at_]
abbrev zQ (x : T_draw_Codes) : List PV := [.vs 1 (List.map (PV.int .u8) x.l), .int .i64 x.at_]
abbrev zR (x : T_draw_Codes) (v : Nat) : AObj := ⟨88, 2, [.agg (zQ x)], v⟩
theorem T_draw_Codes.enc_lt (x : T_draw_Codes) : LtN 0 x.enc := lt_agg ⟨.vs _ _, .int _ _, trivial⟩

structure T_Span where
 Low : Int
 High : Int
 deriving DecidableEq
def T_Span.enc (x : T_Span) : PV := .agg [.int .i64 x.Low, .int .i64 x.High]
abbrev zU (x : T_Span) : List PV := [.int .i64 x.Low, .int .i64 x.High]
abbrev zV (x : T_Span) (v : Nat) : AObj := ⟨44, 2, [.agg (zU x)], v⟩
theorem T_Span.enc_lt (x : T_Span) : LtN 0 x.enc := lt_agg ⟨.int _ _, .int _ _, trivial⟩

structure T_Road where
 From : Int
 To : Int
 Length : Int
 Area : Int
 Walk : Bool
 Closed : Bool
 Rest : T_Span
 Lift : T_Span
 deriving DecidableEq
def T_Road.enc (x : T_Road) : PV := .agg [.int .i64 x.From, .int .i64 x.To, .int .i64 x.Length, .int .i64 x.Area, .bool x.Walk, .bool x.Closed, .int .i64 x.Rest.Low, .int .i64 x.Rest.High, .int .i64 x.Lift.Low, .int .i64 x.Lift.High]
abbrev zA (x : T_Road) : List PV := [.int .i64 x.From, .int .i64 x.To, .int .i64 x.Length, .int .i64 x.Area, .bool x.Walk, .bool x.Closed, .int .i64 x.Rest.Low, .int .i64 x.Rest.High, .int .i64 x.Lift.Low, .int .i64 x.Lift.High]
abbrev zB (x : T_Road) (v : Nat) : AObj := ⟨46, 10, [.agg (zA x)], v⟩
theorem T_Road.enc_lt (x : T_Road) : LtN 0 x.enc := lt_agg ⟨.int _ _, .int _ _, .int _ _, .int _ _, .bool _, .bool _, .int _ _, .int _ _, .int _ _, .int _ _, trivial⟩

structure T_Point where
 Flow : Int
 Pressure : Int
 deriving DecidableEq
def T_Point.enc (x : T_Point) : PV := .agg [.int .i64 x.Flow, .int .i64 x.Pressure]
abbrev zS (x : T_Point) : List PV := [.int .i64 x.Flow, .int .i64 x.Pressure]
abbrev zT (x : T_Point) (v : Nat) : AObj := ⟨106, 2, [.agg (zS x)], v⟩
theorem T_Point.enc_lt (x : T_Point) : LtN 0 x.enc := lt_agg ⟨.int _ _, .int _ _, trivial⟩

structure T_Door where
 Road : Int
 Other : Int
 Rests : List Int
 deriving DecidableEq
def T_Door.enc (x : T_Door) : PV := .agg [.int .i64 x.Road, .int .i64 x.Other, .vs 1 (List.map (PV.int .i64) x.Rests)]
abbrev zI (x : T_Door) : List PV := [.int .i64 x.Road, .int .i64 x.Other, .vs 1 (List.map (PV.int .i64) x.Rests)]
abbrev zJ (x : T_Door) (v : Nat) : AObj := ⟨99, 3, [.agg (zI x)], v⟩
theorem T_Door.enc_lt (x : T_Door) : LtN 0 x.enc := lt_agg ⟨.int _ _, .int _ _, .vs _ _, trivial⟩

structure T_Place where
 Height : Int
 Surface : Bool
 deriving DecidableEq
def T_Place.enc (x : T_Place) : PV := .agg [.int .i64 x.Height, .bool x.Surface]
abbrev zW (x : T_Place) : List PV := [.int .i64 x.Height, .bool x.Surface]
theorem T_Place.enc_lt (x : T_Place) : LtN 0 x.enc := lt_agg ⟨.int _ _, .bool _, trivial⟩

structure T_Mine where
 Places : List T_Place
 Roads : List T_Road
 deriving DecidableEq
def T_Mine.enc (x : T_Mine) : PV := .agg [.vs 2 (List.map T_Place.enc x.Places), .vs 10 (List.map T_Road.enc x.Roads)]
abbrev zM (x : T_Mine) : List PV := [.vs 2 (List.map T_Place.enc x.Places), .vs 10 (List.map T_Road.enc x.Roads)]
abbrev zN (x : T_Mine) (v : Nat) : AObj := ⟨27, 2, [.agg (zM x)], v⟩
theorem T_Mine.enc_lt (x : T_Mine) : LtN 0 x.enc := lt_agg ⟨.vs _ _, .vs _ _, trivial⟩

structure T_Fan where
 Road : Int
 Back : Bool
 Auxiliary : Bool
 Curve : List T_Point
 deriving DecidableEq
def T_Fan.enc (x : T_Fan) : PV := .agg [.int .i64 x.Road, .bool x.Back, .bool x.Auxiliary, .vs 2 (List.map T_Point.enc x.Curve)]
abbrev zE (x : T_Fan) : List PV := [.int .i64 x.Road, .bool x.Back, .bool x.Auxiliary, .vs 2 (List.map T_Point.enc x.Curve)]
abbrev zF (x : T_Fan) (v : Nat) : AObj := ⟨72, 4, [.agg (zE x)], v⟩
theorem T_Fan.enc_lt (x : T_Fan) : LtN 0 x.enc := lt_agg ⟨.int _ _, .bool _, .bool _, .vs _ _, trivial⟩

structure T_Air where
 Mine : T_Mine
 Fans : List T_Fan
 Doors : List T_Door
 deriving DecidableEq
def T_Air.enc (x : T_Air) : PV := .agg [.vs 2 (List.map T_Place.enc x.Mine.Places), .vs 10 (List.map T_Road.enc x.Mine.Roads), .vs 4 (List.map T_Fan.enc x.Fans), .vs 3 (List.map T_Door.enc x.Doors)]
abbrev zC (x : T_Air) : List PV := [.vs 2 (List.map T_Place.enc x.Mine.Places), .vs 10 (List.map T_Road.enc x.Mine.Roads), .vs 4 (List.map T_Fan.enc x.Fans), .vs 3 (List.map T_Door.enc x.Doors)]
abbrev zD (x : T_Air) (v : Nat) : AObj := ⟨31, 4, [.agg (zC x)], v⟩
theorem T_Air.enc_lt (x : T_Air) : LtN 0 x.enc := lt_agg ⟨.vs _ _, .vs _ _, .vs _ _, .vs _ _, trivial⟩

structure T_Setting where
 Fans : List Int
 Doors : List Int
 deriving DecidableEq
def T_Setting.enc (x : T_Setting) : PV := .agg [.vs 1 (List.map (PV.int .i64) x.Fans), .vs 1 (List.map (PV.int .i64) x.Doors)]
abbrev zK (x : T_Setting) : List PV := [.vs 1 (List.map (PV.int .i64) x.Fans), .vs 1 (List.map (PV.int .i64) x.Doors)]
abbrev zL (x : T_Setting) (v : Nat) : AObj := ⟨62, 2, [.agg (zK x)], v⟩
theorem T_Setting.enc_lt (x : T_Setting) : LtN 0 x.enc := lt_agg ⟨.vs _ _, .vs _ _, trivial⟩

structure T_State where
 Pressures : List Int
 Flows : List Int
 deriving DecidableEq
def T_State.enc (x : T_State) : PV := .agg [.vs 1 (List.map (PV.int .i64) x.Pressures), .vs 1 (List.map (PV.int .i64) x.Flows)]
abbrev zG (x : T_State) : List PV := [.vs 1 (List.map (PV.int .i64) x.Pressures), .vs 1 (List.map (PV.int .i64) x.Flows)]
abbrev zH (x : T_State) (v : Nat) : AObj := ⟨64, 2, [.agg (zG x)], v⟩
theorem T_State.enc_lt (x : T_State) : LtN 0 x.enc := lt_agg ⟨.vs _ _, .vs _ _, trivial⟩

structure T_recirculate_arc where
 road : Int
 from_ : Int
 to_ : Int
 deriving DecidableEq
def T_recirculate_arc.enc (x : T_recirculate_arc) : PV := .agg [.int .i64 x.road, .int .i64 x.from_, .int .i64 x.to_]
abbrev zO (x : T_recirculate_arc) : List PV := [.int .i64 x.road, .int .i64 x.from_, .int .i64 x.to_]
abbrev zP (x : T_recirculate_arc) (v : Nat) : AObj := ⟨78, 3, [.agg (zO x)], v⟩
theorem T_recirculate_arc.enc_lt (x : T_recirculate_arc) : LtN 0 x.enc := lt_agg ⟨.int _ _, .int _ _, .int _ _, trivial⟩

structure A2_Int where
 a0 : Int
 a1 : Int
 deriving DecidableEq
def A2_Int.enc (x : A2_Int) : PV := .agg [.int .i64 x.a0, .int .i64 x.a1]
theorem A2_Int.enc_lt (x : A2_Int) : LtN 0 x.enc := lt_agg ⟨.int _ _, .int _ _, trivial⟩

def T_draw_Codes.Wf (x : T_draw_Codes) : Prop := (InL (In .u8)) x.l ∧ (In .i64) x.at_ ∧ True
def T_Span.Wf (x : T_Span) : Prop := (In .i64) x.Low ∧ (In .i64) x.High ∧ True
def T_Road.Wf (x : T_Road) : Prop := (In .i64) x.From ∧ (In .i64) x.To ∧ (In .i64) x.Length ∧ (In .i64) x.Area ∧ (fun _ => True) x.Walk ∧ (fun _ => True) x.Closed ∧ T_Span.Wf x.Rest ∧ T_Span.Wf x.Lift ∧ True
def T_Point.Wf (x : T_Point) : Prop := (In .i64) x.Flow ∧ (In .i64) x.Pressure ∧ True
def T_Door.Wf (x : T_Door) : Prop := (In .i64) x.Road ∧ (In .i64) x.Other ∧ (InL (In .i64)) x.Rests ∧ True
def T_Place.Wf (x : T_Place) : Prop := (In .i64) x.Height ∧ (fun _ => True) x.Surface ∧ True
def T_Mine.Wf (x : T_Mine) : Prop := (InL T_Place.Wf) x.Places ∧ (InL T_Road.Wf) x.Roads ∧ True
def T_Fan.Wf (x : T_Fan) : Prop := (In .i64) x.Road ∧ (fun _ => True) x.Back ∧ (fun _ => True) x.Auxiliary ∧ (InL T_Point.Wf) x.Curve ∧ True
def T_Air.Wf (x : T_Air) : Prop := T_Mine.Wf x.Mine ∧ (InL T_Fan.Wf) x.Fans ∧ (InL T_Door.Wf) x.Doors ∧ True
def T_Setting.Wf (x : T_Setting) : Prop := (InL (In .i64)) x.Fans ∧ (InL (In .i64)) x.Doors ∧ True
def T_State.Wf (x : T_State) : Prop := (InL (In .i64)) x.Pressures ∧ (InL (In .i64)) x.Flows ∧ True
def T_recirculate_arc.Wf (x : T_recirculate_arc) : Prop := (In .i64) x.road ∧ (In .i64) x.from_ ∧ (In .i64) x.to_ ∧ True
def A2_Int.Wf (x : A2_Int) : Prop := (In .i64) x.a0 ∧ (In .i64) x.a1 ∧ True

noncomputable def F_draw_New (p0 : List Int) : Option (T_draw_Codes) :=
 (sliI p0 0 (min ((p0).length : Int) 300)).bind fun x1 =>
 some (T_draw_Codes.mk x1 0)

noncomputable def F_draw_Codes_Next (p0 : T_draw_Codes) (p1 : Int) : Option (T_draw_Codes × Int) :=
 (bif (decide (p1 < 1)) then
 some true
 else
 some (decide (((p0.l).length : Int) ≤ p0.at_))).bind fun o1 =>
 bif o1 then
 some (p0, 0)
 else
 (getI p0.l (IntKind.i64.wrap ((IntKind.i64.wrap (p0.at_ + 1)) - 1))).bind fun x4 =>
 (bif (decide (256 < p1)) then
 some (decide ((IntKind.i64.wrap (p0.at_ + 1)) < ((p0.l).length : Int)))
 else
 some false).bind fun o6 =>
 (bif o6 then
 (getI p0.l (IntKind.i64.wrap (p0.at_ + 1))).bind fun x10 =>
 some ((IntKind.i64.wrap ((IntKind.i64.wrap ((IntKind.i64.wrap x4) * 256)) + (IntKind.i64.wrap x10))), (IntKind.i64.wrap ((IntKind.i64.wrap (p0.at_ + 1)) + 1)))
 else
 some ((IntKind.i64.wrap x4), (IntKind.i64.wrap (p0.at_ + 1)))).bind fun o8 =>
 (remI o8.1 p1).bind fun x12 =>
 some ((T_draw_Codes.mk p0.l o8.2), x12)

noncomputable def F_draw_Codes_One (p0 : T_draw_Codes) (p1 : Int) : Option (T_draw_Codes × Bool) :=
 (F_draw_Codes_Next p0 p1).bind fun x1 =>
 some (x1.1, (decide (x1.2 = (IntKind.i64.wrap (p1 - 1)))))

noncomputable def F_draw_Codes_Range (p0 : T_draw_Codes) (p1 : Int) (p2 : Int) : Option (T_draw_Codes × Int) :=
 (F_draw_Codes_Next p0 (IntKind.i64.wrap ((IntKind.i64.wrap (p2 - p1)) + 1))).bind fun x1 =>
 some (x1.1, (IntKind.i64.wrap (p1 + x1.2)))

noncomputable def F_draw_Codes_Road (p0 : T_draw_Codes) (p1 : Int) (p2 : Int) : Option (T_draw_Codes × T_Road) :=
 (F_draw_Codes_Range p0 1 400).bind fun x1 =>
 (F_draw_Codes_Range x1.1 4 30).bind fun x3 =>
 (F_draw_Codes_Next x3.1 4).bind fun x5 =>
 (F_draw_Codes_Range x5.1 1 20).bind fun x7 =>
 (F_draw_Codes_Next x7.1 3).bind fun x9 =>
 (F_draw_Codes_Range x9.1 (-300) 300).bind fun x11 =>
 (F_draw_Codes_Next x11.1 20).bind fun x13 =>
 some (x13.1, (T_Road.mk p1 p2 x1.2 x3.2 (decide (0 < x5.2)) false (T_Span.mk x7.2 (IntKind.i64.wrap (x7.2 + x9.2))) (T_Span.mk x11.2 (IntKind.i64.wrap (x11.2 + x13.2)))))

noncomputable def F_draw_Codes_Curve_L1  (s7 : Int × List T_Point × T_draw_Codes) : Option ((Int × List T_Point × T_draw_Codes) ⊕ (List T_Point × T_draw_Codes)) :=
 bif (decide (0 < s7.1)) then
 (getI s7.2.1 (IntKind.i64.wrap (((s7.2.1).length : Int) - 1))).bind fun x10 =>
 (F_draw_Codes_Range s7.2.2 1 40).bind fun x12 =>
 (F_draw_Codes_Next x12.1 900).bind fun x14 =>
 (appI 16 s7.2.1 [(T_Point.mk (IntKind.i64.wrap (x10.Flow + x12.2)) (max 0 (IntKind.i64.wrap (x10.Pressure - x14.2))))]).bind fun x16 =>
 some (Sum.inl ((IntKind.i64.wrap (s7.1 - 1)), x16, x14.1))
 else
 some (Sum.inr (s7.2.1, s7.2.2))

noncomputable def F_draw_Codes_Curve (p0 : T_draw_Codes) : Option (T_draw_Codes × List T_Point) :=
 (F_draw_Codes_Range p0 (-20) 10).bind fun x1 =>
 (F_draw_Codes_Range x1.1 500 3000).bind fun x3 =>
 (F_draw_Codes_Next x3.1 4).bind fun x5 =>
 (loopC F_draw_Codes_Curve_L1 (x5.2, [(T_Point.mk x1.2 x3.2)], x5.1)).bind fun o8 =>
 some (o8.2, o8.1)

noncomputable def F_draw_Codes_Door_L1  (s5 : Int × List Int × T_draw_Codes) : Option ((Int × List Int × T_draw_Codes) ⊕ (List Int × T_draw_Codes)) :=
 bif (decide (0 < s5.1)) then
 (getI s5.2.1 (IntKind.i64.wrap (((s5.2.1).length : Int) - 1))).bind fun x8 =>
 (F_draw_Codes_Range s5.2.2 1 60).bind fun x10 =>
 (appI 8 s5.2.1 [(max 0 (IntKind.i64.wrap (x8 - x10.2)))]).bind fun x12 =>
 some (Sum.inl ((IntKind.i64.wrap (s5.1 - 1)), x12, x10.1))
 else
 some (Sum.inr (s5.2.1, s5.2.2))

noncomputable def F_draw_Codes_Door (p0 : T_draw_Codes) (p1 : Int) : Option (T_draw_Codes × T_Door) :=
 (F_draw_Codes_Range p0 200 900).bind fun x1 =>
 (F_draw_Codes_Range x1.1 1 3).bind fun x3 =>
 (loopC F_draw_Codes_Door_L1 (x3.2, [x1.2], x3.1)).bind fun o6 =>
 some (o6.2, (T_Door.mk p1 (-1) o6.1))

noncomputable def F_draw_Codes_equipped_L1 (p1 : T_Air) (s4 : Int × List Int × T_draw_Codes × List T_Fan) : Option ((Int × List Int × T_draw_Codes × List T_Fan) ⊕ (List Int × T_draw_Codes × List T_Fan)) :=
 (bif (decide (0 < s4.1)) then
 some (decide (0 < ((p1.Mine.Roads).length : Int)))
 else
 some false).bind fun o6 =>
 bif o6 then
 (F_draw_Codes_Next s4.2.2.1 ((p1.Mine.Roads).length : Int)).bind fun x9 =>
 (F_draw_Codes_One x9.1 3).bind fun x11 =>
 (F_draw_Codes_One x11.1 3).bind fun x13 =>
 (F_draw_Codes_Curve x13.1).bind fun x15 =>
 (appI 40 s4.2.2.2 [(T_Fan.mk x9.2 x11.2 x13.2 x15.2)]).bind fun x17 =>
 (F_draw_Codes_Next x15.1 3).bind fun x19 =>
 (appI 8 s4.2.1 [x19.2]).bind fun x21 =>
 some (Sum.inl ((IntKind.i64.wrap (s4.1 - 1)), x21, x19.1, x17))
 else
 some (Sum.inr (s4.2.1, s4.2.2.1, s4.2.2.2))

noncomputable def F_draw_Codes_equipped_L2 (p1 : T_Air) (s26 : Int × T_Setting × T_draw_Codes × List T_Door) : Option ((Int × T_Setting × T_draw_Codes × List T_Door) ⊕ (T_Setting × T_draw_Codes × List T_Door)) :=
 (bif (decide (0 < s26.1)) then
 some ((decide (0 < ((p1.Mine.Roads).length : Int))), s26.2.1)
 else
 some (false, s26.2.1)).bind fun o28 =>
 bif o28.1 then
 (F_draw_Codes_Next s26.2.2.1 ((p1.Mine.Roads).length : Int)).bind fun x31 =>
 (F_draw_Codes_Door x31.1 x31.2).bind fun x33 =>
 (appI 40 s26.2.2.2 [x33.2]).bind fun x35 =>
 (F_draw_Codes_Next x33.1 ((x33.2.Rests).length : Int)).bind fun x37 =>
 (appI 8 o28.2.Doors [x37.2]).bind fun x39 =>
 some (Sum.inl ((IntKind.i64.wrap (s26.1 - 1)), (T_Setting.mk o28.2.Fans x39), x37.1, x35))
 else
 some (Sum.inr (o28.2, s26.2.2.1, s26.2.2.2))

noncomputable def F_draw_Codes_equipped (p0 : T_draw_Codes) (p1 : T_Air) : Option (T_draw_Codes × T_Air × T_Setting) :=
 (F_draw_Codes_Next p0 3).bind fun x2 =>
 (loopC (F_draw_Codes_equipped_L1 p1) (x2.2, [], x2.1, p1.Fans)).bind fun o5 =>
 (F_draw_Codes_Next o5.2.1 3).bind fun x24 =>
 (loopC (F_draw_Codes_equipped_L2 p1) (x24.2, (T_Setting.mk o5.1 ([] : List Int)), x24.1, p1.Doors)).bind fun o27 =>
 some (o27.2.1, (T_Air.mk p1.Mine o5.2.2 o27.2.2), o27.1)

noncomputable def F_ref08_Rest_L1 (p0 : T_Door) (s14 : Int × T_Span) : Option ((Int × T_Span) ⊕ T_Span) :=
 bif (decide (s14.1 < ((p0.Rests).length : Int))) then
 (getI p0.Rests s14.1).bind fun x17 =>
 (getI p0.Rests s14.1).bind fun x19 =>
 some (Sum.inl ((IntKind.i64.wrap (s14.1 + 1)), (T_Span.mk (min s14.2.Low x17) (max s14.2.High x19))))
 else
 some (Sum.inr s14.2)

noncomputable def F_ref08_Rest (p0 : T_Door) (p1 : Int) : Option (T_Span) :=
 (bif (decide (((p0.Rests).length : Int) = 0)) then
 some true
 else
 bif (decide (p1 < (-1))) then
 some true
 else
 some (decide (((p0.Rests).length : Int) ≤ p1))).bind fun o1 =>
 bif o1 then
 some (T_Span.mk 0 0)
 else
 bif (decide (0 ≤ p1)) then
 (getI p0.Rests p1).bind fun x6 =>
 (getI p0.Rests p1).bind fun x8 =>
 some (T_Span.mk x6 x8)
 else
 (getI p0.Rests 0).bind fun x10 =>
 (getI p0.Rests 0).bind fun x12 =>
 (loopC (F_ref08_Rest_L1 p0) (0, (T_Span.mk x10 x12))).bind fun o15 =>
 some o15

noncomputable def F_ref05_Floor (p0 : Int) (p1 : Int) : Option (Int) :=
 (quoI .i64 p0 p1).bind fun x1 =>
 (remI p0 p1).bind fun x3 =>
 (bif (decide (x3 < 0)) then
 some (IntKind.i64.wrap (x1 - 1))
 else
 some x1).bind fun o5 =>
 some o5

noncomputable def F_ref05_Ceil (p0 : Int) (p1 : Int) : Option (Int) :=
 (F_ref05_Floor (IntKind.i64.wrap (0 - p0)) p1).bind fun x1 =>
 some (IntKind.i64.wrap (0 - x1))

noncomputable def F_ref07_Inner_L1 (p0 : T_Fan) (p1 : Int) (s15 : Int) : Option (Int ⊕ Int) :=
 (getI p0.Curve (IntKind.i64.wrap (s15 + 1))).bind fun x17 =>
 bif (decide (x17.Flow ≤ p1)) then
 some (Sum.inl (IntKind.i64.wrap (s15 + 1)))
 else
 some (Sum.inr s15)

noncomputable def F_ref07_Inner (p0 : T_Fan) (p1 : Int) : Option (T_Span) :=
 (getI p0.Curve 0).bind fun x1 =>
 bif (decide (p1 ≤ x1.Flow)) then
 (getI p0.Curve 0).bind fun x4 =>
 (getI p0.Curve 0).bind fun x6 =>
 some (T_Span.mk x4.Pressure x6.Pressure)
 else
 (getI p0.Curve (IntKind.i64.wrap (((p0.Curve).length : Int) - 1))).bind fun x8 =>
 bif (decide (x8.Flow ≤ p1)) then
 (getI p0.Curve (IntKind.i64.wrap (((p0.Curve).length : Int) - 1))).bind fun x11 =>
 (getI p0.Curve (IntKind.i64.wrap (((p0.Curve).length : Int) - 1))).bind fun x13 =>
 some (T_Span.mk x11.Pressure x13.Pressure)
 else
 (loopC (F_ref07_Inner_L1 p0 p1) 0).bind fun o16 =>
 (getI p0.Curve o16).bind fun x20 =>
 (getI p0.Curve (IntKind.i64.wrap (o16 + 1))).bind fun x22 =>
 (F_ref05_Floor (IntKind.i64.wrap ((IntKind.i64.wrap (x22.Pressure - x20.Pressure)) * (IntKind.i64.wrap (p1 - x20.Flow)))) (IntKind.i64.wrap (x22.Flow - x20.Flow))).bind fun x24 =>
 (F_ref05_Ceil (IntKind.i64.wrap ((IntKind.i64.wrap (x22.Pressure - x20.Pressure)) * (IntKind.i64.wrap (p1 - x20.Flow)))) (IntKind.i64.wrap (x22.Flow - x20.Flow))).bind fun x26 =>
 some (T_Span.mk (IntKind.i64.wrap (x20.Pressure + x24)) (IntKind.i64.wrap (x20.Pressure + x26)))

noncomputable def F_ref07_Along (p0 : T_Fan) (p1 : Bool) (p2 : Int) : Option (T_Span) :=
 bif p1 then
 (F_ref07_Inner p0 (IntKind.i64.wrap (0 - p2))).bind fun x2 =>
 some (T_Span.mk (IntKind.i64.wrap (0 - x2.High)) (IntKind.i64.wrap (0 - x2.Low)))
 else
 (F_ref07_Inner p0 p2).bind fun x4 =>
 some x4

noncomputable def F_ref07_State (p0 : T_Fan) (p1 : Int) (p2 : Int) : Option (T_Span) :=
 bif (decide (p1 = 0)) then
 some (T_Span.mk 0 0)
 else
 bif (decide (p1 = 1)) then
 (F_ref07_Along p0 p0.Back p2).bind fun x3 =>
 some x3
 else
 bif (decide (p1 = 2)) then
 (F_ref07_Along p0 (!p0.Back) p2).bind fun x6 =>
 some x6
 else
 (F_ref07_Along p0 false p2).bind fun x8 =>
 (F_ref07_Along p0 true p2).bind fun x10 =>
 some (T_Span.mk (min (min x8.Low x10.Low) 0) (max (max x8.High x10.High) 0))

noncomputable def F_draw_Codes_fit_L2 (p1 : T_Air) (p2 : T_Setting) (s4 : Int × T_draw_Codes × List T_Road) (s13 : Int × Int) : Option ((Int × Int) ⊕ Int) :=
 bif (decide (s13.2 < ((p1.Doors).length : Int))) then
 ((getI p1.Doors s13.2).bind fun x17 =>
 bif (decide (x17.Road = s4.1)) then
 (getI p1.Doors s13.2).bind fun x20 =>
 (getI p2.Doors s13.2).bind fun x22 =>
 (F_ref08_Rest x20 x22).bind fun x24 =>
 some (IntKind.i64.wrap (s13.1 + x24.Low))
 else
 some s13.1).bind fun o16 =>
 some (Sum.inl (o16, (IntKind.i64.wrap (s13.2 + 1))))
 else
 some (Sum.inr s13.1)

noncomputable def F_draw_Codes_fit_L3 (p1 : T_Air) (p2 : T_Setting) (s4 : Int × T_draw_Codes × List T_Road) (x9 : Int) (s32 : Int × Int) : Option ((Int × Int) ⊕ Int) :=
 bif (decide (s32.2 < ((p1.Fans).length : Int))) then
 ((getI p1.Fans s32.2).bind fun x36 =>
 bif (decide (x36.Road = s4.1)) then
 (getI p1.Fans s32.2).bind fun x39 =>
 (getI p2.Fans s32.2).bind fun x41 =>
 (F_ref07_State x39 x41 x9).bind fun x43 =>
 some (IntKind.i64.wrap (s32.1 - x43.Low))
 else
 some s32.1).bind fun o35 =>
 some (Sum.inl (o35, (IntKind.i64.wrap (s32.2 + 1))))
 else
 some (Sum.inr s32.1)

noncomputable def F_draw_Codes_fit_L1 (p1 : T_Air) (p2 : T_Setting) (p3 : T_State) (s4 : Int × T_draw_Codes × List T_Road) : Option ((Int × T_draw_Codes × List T_Road) ⊕ (T_draw_Codes × List T_Road)) :=
 bif (decide (s4.1 < ((s4.2.2).length : Int))) then
 (getI s4.2.2 s4.1).bind fun x7 =>
 (getI p3.Flows s4.1).bind fun x9 =>
 (F_draw_Codes_Next s4.2.1 (IntKind.i64.wrap ((IntKind.i64.wrap (x7.Rest.High - x7.Rest.Low)) + 1))).bind fun x11 =>
 (loopC (F_draw_Codes_fit_L2 p1 p2 s4) ((IntKind.i64.wrap (x7.Rest.Low + x11.2)), 0)).bind fun o14 =>
 ((s4.2.2)[(s4.1).toNat]?).bind fun x26 =>
 (getI p3.Pressures x26.From).bind fun x28 =>
 (getI p3.Pressures x26.To).bind fun x30 =>
 (loopC (F_draw_Codes_fit_L3 p1 p2 s4 x9) ((IntKind.i64.wrap ((IntKind.i64.wrap ((IntKind.i64.wrap (o14 * (max x9 (IntKind.i64.wrap (0 - x9))))) * x9)) - (IntKind.i64.wrap (x28 - x30)))), 0)).bind fun o33 =>
 (F_draw_Codes_Next x11.1 30).bind fun x45 =>
 (F_draw_Codes_Next x45.1 30).bind fun x47 =>
 ((s4.2.2)[(s4.1).toNat]?).bind fun x49 =>
 some (Sum.inl ((IntKind.i64.wrap (s4.1 + 1)), x47.1, (s4.2.2.set ((s4.1).toNat) (T_Road.mk x49.From x49.To x49.Length x49.Area x49.Walk x49.Closed x49.Rest (T_Span.mk (IntKind.i64.wrap (o33 - x45.2)) (IntKind.i64.wrap (o33 + x47.2)))))))
 else
 some (Sum.inr (s4.2.1, s4.2.2))

noncomputable def F_draw_Codes_fit (p0 : T_draw_Codes) (p1 : T_Air) (p2 : T_Setting) (p3 : T_State) : Option (T_draw_Codes × T_Air) :=
 (loopC (F_draw_Codes_fit_L1 p1 p2 p3) (0, p0, p1.Mine.Roads)).bind fun o5 =>
 some (o5.1, (T_Air.mk (T_Mine.mk p1.Mine.Places o5.2) p1.Fans p1.Doors))

noncomputable def F_draw_Codes_doubts_L1 (p2 : T_Setting) (s1 : Int × List Int × T_draw_Codes) : Option ((Int × List Int × T_draw_Codes) ⊕ (List Int × T_draw_Codes)) :=
 bif (decide (s1.1 < ((p2.Fans).length : Int))) then
 (getI p2.Fans s1.1).bind fun x4 =>
 (F_draw_Codes_One s1.2.2 5).bind fun x6 =>
 (bif x6.2 then
 some (-1)
 else
 some x4).bind fun o8 =>
 (appI 8 s1.2.1 [o8]).bind fun x10 =>
 some (Sum.inl ((IntKind.i64.wrap (s1.1 + 1)), x10, x6.1))
 else
 some (Sum.inr (s1.2.1, s1.2.2))

noncomputable def F_draw_Codes_doubts_L2 (p2 : T_Setting) (s12 : Int × T_Setting × T_draw_Codes) : Option ((Int × T_Setting × T_draw_Codes) ⊕ (T_Setting × T_draw_Codes)) :=
 bif (decide (s12.1 < ((p2.Doors).length : Int))) then
 (getI p2.Doors s12.1).bind fun x15 =>
 (F_draw_Codes_One s12.2.2 5).bind fun x17 =>
 (bif x17.2 then
 some ((-1), s12.2.1)
 else
 some (x15, s12.2.1)).bind fun o19 =>
 (appI 8 o19.2.Doors [o19.1]).bind fun x21 =>
 some (Sum.inl ((IntKind.i64.wrap (s12.1 + 1)), (T_Setting.mk o19.2.Fans x21), x17.1))
 else
 some (Sum.inr (s12.2.1, s12.2.2))

noncomputable def F_draw_Codes_doubts (p0 : T_draw_Codes) (p1 : T_Air) (p2 : T_Setting) : Option (T_draw_Codes × T_Setting) :=
 (loopC (F_draw_Codes_doubts_L1 p2) (0, [], p0)).bind fun o2 =>
 (loopC (F_draw_Codes_doubts_L2 p2) (0, (T_Setting.mk o2.1 ([] : List Int)), o2.2)).bind fun o13 =>
 some (o13.2, o13.1)

noncomputable def F_draw_Codes_Made_L1  (s9 : Int × List T_Place × T_draw_Codes) : Option ((Int × List T_Place × T_draw_Codes) ⊕ (List T_Place × T_draw_Codes)) :=
 bif (decide (0 < s9.1)) then
 (F_draw_Codes_Next s9.2.2 100).bind fun x12 =>
 (appI 16 s9.2.1 [(T_Place.mk (IntKind.i64.wrap (0 - x12.2)) false)]).bind fun x14 =>
 some (Sum.inl ((IntKind.i64.wrap (s9.1 - 1)), x14, x12.1))
 else
 some (Sum.inr (s9.2.1, s9.2.2))

noncomputable def F_draw_Codes_Made_L2 (o10 : List T_Place × T_draw_Codes) (s18 : Int × List Int × T_draw_Codes) : Option ((Int × List Int × T_draw_Codes) ⊕ (List Int × T_draw_Codes)) :=
 bif (decide (s18.1 < ((o10.1).length : Int))) then
 (F_draw_Codes_Range s18.2.2 (-4000) 4000).bind fun x21 =>
 (getI s18.2.1 s18.1).bind fun x23 =>
 some (Sum.inl ((IntKind.i64.wrap (s18.1 + 1)), (s18.2.1.set ((s18.1).toNat) x21.2), x21.1))
 else
 some (Sum.inr (s18.2.1, s18.2.2))

noncomputable def F_draw_Codes_Made_L3 (o10 : List T_Place × T_draw_Codes) (s31 : Int × List Int × T_Air × T_State × T_draw_Codes) : Option ((Int × List Int × T_Air × T_State × T_draw_Codes) ⊕ (List Int × T_Air × T_State × T_draw_Codes)) :=
 bif (decide (0 < s31.1)) then
 (F_draw_Codes_Next s31.2.2.2.2 ((o10.1).length : Int)).bind fun x34 =>
 (F_draw_Codes_Next x34.1 (IntKind.i64.wrap (((o10.1).length : Int) - 1))).bind fun x36 =>
 (remI (IntKind.i64.wrap ((IntKind.i64.wrap (x34.2 + 1)) + x36.2)) ((o10.1).length : Int)).bind fun x38 =>
 (F_draw_Codes_Road x36.1 x34.2 x38).bind fun x40 =>
 (F_draw_Codes_One x40.1 7).bind fun x42 =>
 (F_draw_Codes_Range x42.1 (-60) 60).bind fun x44 =>
 (bif x42.2 then
 some (0, (T_Air.mk s31.2.2.1.Mine ([] : List T_Fan) ([] : List T_Door)), s31.2.2.2.1)
 else
 some (x44.2, (T_Air.mk s31.2.2.1.Mine ([] : List T_Fan) ([] : List T_Door)), s31.2.2.2.1)).bind fun o46 =>
 (appI 72 o46.2.1.Mine.Roads [(T_Road.mk x40.2.From x40.2.To x40.2.Length x40.2.Area x40.2.Walk x42.2 x40.2.Rest x40.2.Lift)]).bind fun x48 =>
 (appI 8 o46.2.2.Flows [o46.1]).bind fun x50 =>
 (getI s31.2.1 x40.2.From).bind fun x52 =>
 (getI s31.2.1 x40.2.From).bind fun x54 =>
 (getI (s31.2.1.set ((x40.2.From).toNat) (IntKind.i64.wrap (x52 + o46.1))) x40.2.To).bind fun x56 =>
 (getI (s31.2.1.set ((x40.2.From).toNat) (IntKind.i64.wrap (x52 + o46.1))) x40.2.To).bind fun x58 =>
 some (Sum.inl ((IntKind.i64.wrap (s31.1 - 1)), ((s31.2.1.set ((x40.2.From).toNat) (IntKind.i64.wrap (x52 + o46.1))).set ((x40.2.To).toNat) (IntKind.i64.wrap (x56 - o46.1))), (T_Air.mk (T_Mine.mk o46.2.1.Mine.Places x48) ([] : List T_Fan) ([] : List T_Door)), (T_State.mk o46.2.2.Pressures x50), x44.1))
 else
 some (Sum.inr (s31.2.1, (T_Air.mk s31.2.2.1.Mine ([] : List T_Fan) ([] : List T_Door)), s31.2.2.2.1, s31.2.2.2.2))

noncomputable def F_draw_Codes_Made_L4 (o3 : List T_Place) (o10 : List T_Place × T_draw_Codes) (o27 : List Int × T_Air × T_State × T_draw_Codes) (s60 : Int × T_Air × T_State × T_draw_Codes) : Option ((Int × T_Air × T_State × T_draw_Codes) ⊕ (T_Air × T_State × T_draw_Codes)) :=
 bif (decide (s60.1 < ((o10.1).length : Int))) then
 (F_draw_Codes_Next s60.2.2.2 ((o3).length : Int)).bind fun x63 =>
 (F_draw_Codes_Road x63.1 s60.1 x63.2).bind fun x65 =>
 (getI o27.1 s60.1).bind fun x67 =>
 (F_draw_Codes_One x65.1 2).bind fun x69 =>
 (bif x69.2 then
 some ((IntKind.i64.wrap (0 - (IntKind.i64.wrap (0 - x67)))), (T_Road.mk x65.2.To x65.2.From x65.2.Length x65.2.Area x65.2.Walk x65.2.Closed x65.2.Rest x65.2.Lift), (T_Air.mk s60.2.1.Mine ([] : List T_Fan) ([] : List T_Door)), s60.2.2.1)
 else
 some ((IntKind.i64.wrap (0 - x67)), x65.2, (T_Air.mk s60.2.1.Mine ([] : List T_Fan) ([] : List T_Door)), s60.2.2.1)).bind fun o71 =>
 (appI 72 o71.2.2.1.Mine.Roads [o71.2.1]).bind fun x73 =>
 (appI 8 o71.2.2.2.Flows [o71.1]).bind fun x75 =>
 some (Sum.inl ((IntKind.i64.wrap (s60.1 + 1)), (T_Air.mk (T_Mine.mk o71.2.2.1.Mine.Places x73) ([] : List T_Fan) ([] : List T_Door)), (T_State.mk o71.2.2.2.Pressures x75), x69.1))
 else
 some (Sum.inr ((T_Air.mk s60.2.1.Mine ([] : List T_Fan) ([] : List T_Door)), s60.2.2.1, s60.2.2.2))

noncomputable def F_draw_Codes_Made (p0 : T_draw_Codes) : Option (T_draw_Codes × T_Air × T_Setting × T_State) :=
 (F_draw_Codes_One p0 3).bind fun x1 =>
 (bif x1.2 then
 (appI 16 [(T_Place.mk 0 true)] [(T_Place.mk 10 true)]).bind fun x5 =>
 some x5
 else
 some [(T_Place.mk 0 true)]).bind fun o3 =>
 (F_draw_Codes_Next x1.1 5).bind fun x7 =>
 (loopC F_draw_Codes_Made_L1 (x7.2, o3, x7.1)).bind fun o10 =>
 (makI 8 0 ((o10.1).length : Int)).bind fun x16 =>
 (loopC (F_draw_Codes_Made_L2 o10) (((o3).length : Int), x16, o10.2)).bind fun o19 =>
 (makI 8 0 ((o10.1).length : Int)).bind fun x25 =>
 (bif (decide (1 < ((o10.1).length : Int))) then
 (F_draw_Codes_Next o19.2 6).bind fun x29 =>
 (loopC (F_draw_Codes_Made_L3 o10) (x29.2, x25, (T_Air.mk (T_Mine.mk o10.1 ([] : List T_Road)) ([] : List T_Fan) ([] : List T_Door)), (T_State.mk o19.1 ([] : List Int)), x29.1)).bind fun o32 =>
 some (o32.1, (T_Air.mk o32.2.1.Mine ([] : List T_Fan) ([] : List T_Door)), o32.2.2.1, o32.2.2.2)
 else
 some (x25, (T_Air.mk (T_Mine.mk o10.1 ([] : List T_Road)) ([] : List T_Fan) ([] : List T_Door)), (T_State.mk o19.1 ([] : List Int)), o19.2)).bind fun o27 =>
 (loopC (F_draw_Codes_Made_L4 o3 o10 o27) (((o3).length : Int), (T_Air.mk o27.2.1.Mine ([] : List T_Fan) ([] : List T_Door)), o27.2.2.1, o27.2.2.2)).bind fun o61 =>
 (F_draw_Codes_equipped o61.2.2 (T_Air.mk o61.1.Mine ([] : List T_Fan) ([] : List T_Door))).bind fun x77 =>
 (F_draw_Codes_fit x77.1 x77.2.1 x77.2.2 o61.2.1).bind fun x79 =>
 (F_draw_Codes_doubts x79.1 x79.2 x77.2.2).bind fun x81 =>
 some (x81.1, x79.2, x81.2, o61.2.1)

noncomputable def F_draw_Codes_Mine_L1  (s3 : Int × List T_Place × T_draw_Codes) : Option ((Int × List T_Place × T_draw_Codes) ⊕ (List T_Place × T_draw_Codes)) :=
 bif (decide (0 < s3.1)) then
 (F_draw_Codes_Range s3.2.2 (-60) 60).bind fun x6 =>
 (F_draw_Codes_One x6.1 5).bind fun x8 =>
 (appI 16 s3.2.1 [(T_Place.mk x6.2 x8.2)]).bind fun x10 =>
 some (Sum.inl ((IntKind.i64.wrap (s3.1 - 1)), x10, x8.1))
 else
 some (Sum.inr (s3.2.1, s3.2.2))

noncomputable def F_draw_Codes_Mine_L2 (o4 : List T_Place × T_draw_Codes) (s14 : Int × T_Mine × T_draw_Codes) : Option ((Int × T_Mine × T_draw_Codes) ⊕ (T_Mine × T_draw_Codes)) :=
 bif (decide (0 < s14.1)) then
 (F_draw_Codes_Next s14.2.2 ((o4.1).length : Int)).bind fun x17 =>
 (F_draw_Codes_Next x17.1 (IntKind.i64.wrap (((o4.1).length : Int) - 1))).bind fun x19 =>
 (remI (IntKind.i64.wrap ((IntKind.i64.wrap (x17.2 + 1)) + x19.2)) ((o4.1).length : Int)).bind fun x21 =>
 (F_draw_Codes_Road x19.1 x17.2 x21).bind fun x23 =>
 (F_draw_Codes_One x23.1 6).bind fun x25 =>
 (appI 72 s14.2.1.Roads [(T_Road.mk x23.2.From x23.2.To x23.2.Length x23.2.Area x23.2.Walk x25.2 x23.2.Rest x23.2.Lift)]).bind fun x27 =>
 some (Sum.inl ((IntKind.i64.wrap (s14.1 - 1)), (T_Mine.mk s14.2.1.Places x27), x25.1))
 else
 some (Sum.inr (s14.2.1, s14.2.2))

noncomputable def F_draw_Codes_Mine (p0 : T_draw_Codes) : Option (T_draw_Codes × T_Mine) :=
 (F_draw_Codes_Next p0 6).bind fun x1 =>
 (loopC F_draw_Codes_Mine_L1 ((IntKind.i64.wrap (1 + x1.2)), [(T_Place.mk 0 true)], x1.1)).bind fun o4 =>
 (F_draw_Codes_Next o4.2 9).bind fun x12 =>
 (loopC (F_draw_Codes_Mine_L2 o4) (x12.2, (T_Mine.mk o4.1 ([] : List T_Road)), x12.1)).bind fun o15 =>
 some (o15.2, o15.1)

noncomputable def F_draw_Codes_Spans_L1 (p1 : List Int) (s1 : Int × List T_Span × T_draw_Codes) : Option ((Int × List T_Span × T_draw_Codes) ⊕ (List T_Span × T_draw_Codes)) :=
 bif (decide (s1.1 < ((p1).length : Int))) then
 (getI p1 s1.1).bind fun x4 =>
 (F_draw_Codes_Next s1.2.2 12).bind fun x6 =>
 (getI p1 s1.1).bind fun x8 =>
 (F_draw_Codes_Next x6.1 12).bind fun x10 =>
 (appI 16 s1.2.1 [(T_Span.mk (IntKind.i64.wrap (x4 - x6.2)) (IntKind.i64.wrap (x8 + x10.2)))]).bind fun x12 =>
 some (Sum.inl ((IntKind.i64.wrap (s1.1 + 1)), x12, x10.1))
 else
 some (Sum.inr (s1.2.1, s1.2.2))

noncomputable def F_draw_Codes_Spans (p0 : T_draw_Codes) (p1 : List Int) : Option (T_draw_Codes × List T_Span) :=
 (loopC (F_draw_Codes_Spans_L1 p1) (0, ([] : List T_Span), p0)).bind fun o2 =>
 some (o2.2, o2.1)

noncomputable def F_law14_air_L1 (x9 : T_draw_Codes × T_Mine) (s15 : Int × T_draw_Codes × T_Air × List Int) : Option ((Int × T_draw_Codes × T_Air × List Int) ⊕ (T_draw_Codes × T_Air × List Int)) :=
 bif (decide (s15.1 < ((x9.2.Roads).length : Int))) then
 (F_draw_Codes_Range s15.2.1 (-9) 9).bind fun x18 =>
 (appI 8 s15.2.2.2 [x18.2]).bind fun x20 =>
 some (Sum.inl ((IntKind.i64.wrap (s15.1 + 1)), x18.1, s15.2.2.1, x20))
 else
 some (Sum.inr (s15.2.1, s15.2.2.1, s15.2.2.2))

noncomputable def F_law14_air (p0 : List Int) : Option (T_Air × List T_Span × List Int) :=
 (F_draw_New p0).bind fun x1 =>
 (F_draw_Codes_Made x1).bind fun x3 =>
 (F_draw_Codes_One x3.1 2).bind fun x5 =>
 (bif x5.2 then
 (F_draw_Codes_Mine x5.1).bind fun x9 =>
 (F_draw_Codes_Next x9.1 3).bind fun x11 =>
 (F_draw_Codes_Next x11.1 3).bind fun x13 =>
 (loopC (F_law14_air_L1 x9) (0, x13.1, (T_Air.mk x9.2 [(T_Fan.mk x11.2 false true ([] : List T_Point)), (T_Fan.mk x13.2 false false ([] : List T_Point))] ([] : List T_Door)), [])).bind fun o16 =>
 some (o16.1, o16.2.1, o16.2.2)
 else
 some (x5.1, x3.2.1, x3.2.2.2.Flows)).bind fun o7 =>
 (F_draw_Codes_Spans o7.1 o7.2.2).bind fun x22 =>
 some (o7.2.1, x22.2, o7.2.2)

noncomputable def F_plan_spanIn (p0 : T_Span) (p1 : Int) (p2 : Int) : Option (Bool) :=
 bif (decide (p1 ≤ p0.Low)) then
 bif (decide (p0.Low ≤ p0.High)) then
 some (decide (p0.High ≤ p2))
 else
 some false
 else
 some false

noncomputable def F_plan_Check_L1 (p0 : T_Mine) (s4 : Int) : Option (Int ⊕ (Unit ⊕ Unit)) :=
 bif (decide (s4 < ((p0.Places).length : Int))) then
 (getI p0.Places s4).bind fun x9 =>
 (bif (decide (x9.Height < (-10000))) then
 some true
 else
 some (decide (10000 < x9.Height))).bind fun o11 =>
 bif o11 then
 some (Sum.inr (Sum.inl ()))
 else
 some (Sum.inl (IntKind.i64.wrap (s4 + 1)))
 else
 some (Sum.inr (Sum.inr ()))

noncomputable def F_plan_Check_L2 (p0 : T_Mine) (s14 : Int) : Option (Int ⊕ (Int ⊕ Unit)) :=
 bif (decide (s14 < ((p0.Roads).length : Int))) then
 (getI p0.Roads s14).bind fun x19 =>
 (bif (decide (x19.From < 0)) then
 some true
 else
 bif (decide (((p0.Places).length : Int) ≤ x19.From)) then
 some true
 else
 bif (decide (x19.To < 0)) then
 some true
 else
 bif (decide (((p0.Places).length : Int) ≤ x19.To)) then
 some true
 else
 some (decide (x19.From = x19.To))).bind fun o21 =>
 bif o21 then
 some (Sum.inr (Sum.inl 4))
 else
 (bif (decide (x19.Length < 1)) then
 some true
 else
 bif (decide (100000 < x19.Length)) then
 some true
 else
 bif (decide (x19.Area < 1)) then
 some true
 else
 some (decide (1000 < x19.Area))).bind fun o27 =>
 bif o27 then
 some (Sum.inr (Sum.inl 1))
 else
 ((F_plan_spanIn x19.Rest 1 262144).bind fun x33 =>
 bif (!x33) then
 some true
 else
 (F_plan_spanIn x19.Lift (-2199023255552) 2199023255552).bind fun x36 =>
 some (!x36)).bind fun o32 =>
 bif o32 then
 some (Sum.inr (Sum.inl 1))
 else
 some (Sum.inl (IntKind.i64.wrap (s14 + 1)))
 else
 some (Sum.inr (Sum.inr ()))

noncomputable def F_plan_Check (p0 : T_Mine) : Option (Int) :=
 (bif (decide (64 < ((p0.Places).length : Int))) then
 some true
 else
 some (decide (128 < ((p0.Roads).length : Int)))).bind fun o1 =>
 bif o1 then
 some 2
 else
 (loopC (F_plan_Check_L1 p0) 0).bind fun o5 =>
 Sum.elim (fun j6 =>
 some 1)
 (fun j7 =>
 (loopC (F_plan_Check_L2 p0) 0).bind fun o15 =>
 Sum.elim (fun j16 =>
 some j16)
 (fun j17 =>
 some 0) o15) o5

noncomputable def F_plan_Valid (p0 : T_Mine) : Option (Bool) :=
 (F_plan_Check p0).bind fun x1 =>
 some (decide (x1 = 0))

noncomputable def F_recirculate_arcs_L1 (p0 : T_Mine) (p1 : List T_Span) (s6 : Int × List T_recirculate_arc) : Option ((Int × List T_recirculate_arc) ⊕ (List T_recirculate_arc)) :=
 bif (decide (s6.1 < ((p0.Roads).length : Int))) then
 ((getI p0.Roads s6.1).bind fun x10 =>
 bif x10.Closed then
 some s6.2
 else
 (getI p1 s6.1).bind fun x13 =>
 (bif (decide (0 < x13.High)) then
 (appI 24 s6.2 [(T_recirculate_arc.mk s6.1 x10.From x10.To)]).bind fun x17 =>
 some x17
 else
 some s6.2).bind fun o15 =>
 (getI p1 s6.1).bind fun x19 =>
 bif (decide (x19.Low < 0)) then
 (appI 24 o15 [(T_recirculate_arc.mk s6.1 x10.To x10.From)]).bind fun x22 =>
 some x22
 else
 some o15).bind fun o9 =>
 some (Sum.inl ((IntKind.i64.wrap (s6.1 + 1)), o9))
 else
 some (Sum.inr s6.2)

noncomputable def F_recirculate_arcs (p0 : T_Mine) (p1 : List T_Span) : Option (List T_recirculate_arc × Bool) :=
 ((F_plan_Valid p0).bind fun x2 =>
 bif (!x2) then
 some true
 else
 some (decide (((p1).length : Int) ≠ ((p0.Roads).length : Int)))).bind fun o1 =>
 bif o1 then
 some (([] : List T_recirculate_arc), false)
 else
 (loopC (F_recirculate_arcs_L1 p0 p1) (0, ([] : List T_recirculate_arc))).bind fun o7 =>
 some (o7, true)

noncomputable def F_recirculate_Ways_L1 (x1 : List T_recirculate_arc × Bool) (s3 : Int × List A2_Int) : Option ((Int × List A2_Int) ⊕ (List A2_Int)) :=
 bif (decide (s3.1 < ((x1.1).length : Int))) then
 (getI x1.1 s3.1).bind fun x6 =>
 (appI 16 s3.2 [(A2_Int.mk x6.from_ x6.to_)]).bind fun x8 =>
 some (Sum.inl ((IntKind.i64.wrap (s3.1 + 1)), x8))
 else
 some (Sum.inr s3.2)

noncomputable def F_recirculate_Ways (p0 : T_Mine) (p1 : List T_Span) : Option (List A2_Int) :=
 (F_recirculate_arcs p0 p1).bind fun x1 =>
 (loopC (F_recirculate_Ways_L1 x1) (0, ([] : List A2_Int))).bind fun o4 =>
 some o4

noncomputable def F_ref01_Span (p0 : T_Span) (p1 : Int) (p2 : Int) : Option (Bool) :=
 bif (decide (p1 ≤ p0.Low)) then
 bif (decide (p0.Low ≤ p0.High)) then
 some (decide (p0.High ≤ p2))
 else
 some false
 else
 some false

noncomputable def F_ref01_Check_L1 (p0 : T_Mine) (s4 : Int) : Option (Int ⊕ (Unit ⊕ Unit)) :=
 bif (decide (s4 < ((p0.Places).length : Int))) then
 (getI p0.Places s4).bind fun x9 =>
 (bif (decide (x9.Height < (-10000))) then
 some true
 else
 some (decide (10000 < x9.Height))).bind fun o11 =>
 bif o11 then
 some (Sum.inr (Sum.inl ()))
 else
 some (Sum.inl (IntKind.i64.wrap (s4 + 1)))
 else
 some (Sum.inr (Sum.inr ()))

noncomputable def F_ref01_Check_L2 (p0 : T_Mine) (s14 : Int) : Option (Int ⊕ (Int ⊕ Unit)) :=
 bif (decide (s14 < ((p0.Roads).length : Int))) then
 (getI p0.Roads s14).bind fun x19 =>
 (bif (decide (x19.From < 0)) then
 some true
 else
 bif (decide (((p0.Places).length : Int) ≤ x19.From)) then
 some true
 else
 bif (decide (x19.To < 0)) then
 some true
 else
 bif (decide (((p0.Places).length : Int) ≤ x19.To)) then
 some true
 else
 some (decide (x19.From = x19.To))).bind fun o21 =>
 bif o21 then
 some (Sum.inr (Sum.inl 4))
 else
 (bif (decide (x19.Length < 1)) then
 some true
 else
 bif (decide (100000 < x19.Length)) then
 some true
 else
 bif (decide (x19.Area < 1)) then
 some true
 else
 bif (decide (1000 < x19.Area)) then
 some true
 else
 (F_ref01_Span x19.Rest 1 262144).bind fun x32 =>
 bif (!x32) then
 some true
 else
 (F_ref01_Span x19.Lift (-2199023255552) 2199023255552).bind fun x35 =>
 some (!x35)).bind fun o27 =>
 bif o27 then
 some (Sum.inr (Sum.inl 1))
 else
 some (Sum.inl (IntKind.i64.wrap (s14 + 1)))
 else
 some (Sum.inr (Sum.inr ()))

noncomputable def F_ref01_Check (p0 : T_Mine) : Option (Int) :=
 (bif (decide (64 < ((p0.Places).length : Int))) then
 some true
 else
 some (decide (128 < ((p0.Roads).length : Int)))).bind fun o1 =>
 bif o1 then
 some 2
 else
 (loopC (F_ref01_Check_L1 p0) 0).bind fun o5 =>
 Sum.elim (fun j6 =>
 some 1)
 (fun j7 =>
 (loopC (F_ref01_Check_L2 p0) 0).bind fun o15 =>
 Sum.elim (fun j16 =>
 some j16)
 (fun j17 =>
 some 0) o15) o5

noncomputable def F_ref14_right (p0 : T_Mine) (p1 : List T_Span) : Option (Bool) :=
 (F_ref01_Check p0).bind fun x1 =>
 bif (decide (x1 = 0)) then
 some (decide (((p1).length : Int) = ((p0.Roads).length : Int)))
 else
 some false

noncomputable def F_ref14_Can (p0 : T_Mine) (p1 : List T_Span) (p2 : Int) (p3 : Bool) : Option (Bool) :=
 (getI p0.Roads p2).bind fun x1 =>
 bif x1.Closed then
 some false
 else
 bif p3 then
 (getI p1 p2).bind fun x5 =>
 some (decide (x5.Low < 0))
 else
 (getI p1 p2).bind fun x7 =>
 some (decide (0 < x7.High))

noncomputable def F_ref14_Ends (p0 : T_Mine) (p1 : Int) (p2 : Bool) : Option (Int × Int) :=
 bif p2 then
 (getI p0.Roads p1).bind fun x2 =>
 (getI p0.Roads p1).bind fun x4 =>
 some (x2.To, x4.From)
 else
 (getI p0.Roads p1).bind fun x6 =>
 (getI p0.Roads p1).bind fun x8 =>
 some (x6.From, x8.To)

noncomputable def F_recirculate_spread_L2 (p0 : T_Mine) (p1 : List T_recirculate_arc) (p3 : Int) (s6 : Bool × Int × List Bool) : Option ((Bool × Int × List Bool) ⊕ (Bool × List Bool)) :=
 bif (decide (s6.2.1 < ((p1).length : Int))) then
 ((getI p1 s6.2.1).bind fun x10 =>
 (bif (decide (x10.road ≠ p3)) then
 (getI s6.2.2 x10.from_).bind fun x14 =>
 bif x14 then
 (getI s6.2.2 x10.to_).bind fun x17 =>
 bif (!x17) then
 (getI p0.Places x10.to_).bind fun x20 =>
 some (!x20.Surface)
 else
 some false
 else
 some false
 else
 some false).bind fun o12 =>
 bif o12 then
 (getI s6.2.2 x10.to_).bind fun x23 =>
 some (true, (s6.2.2.set ((x10.to_).toNat) true))
 else
 some (s6.1, s6.2.2)).bind fun o9 =>
 some (Sum.inl (o9.1, (IntKind.i64.wrap (s6.2.1 + 1)), o9.2))
 else
 some (Sum.inr (s6.1, s6.2.2))

noncomputable def F_recirculate_spread_L1 (p0 : T_Mine) (p1 : List T_recirculate_arc) (p3 : Int) (s3 : Bool × List Bool) : Option ((Bool × List Bool) ⊕ (List Bool)) :=
 bif s3.1 then
 (loopC (F_recirculate_spread_L2 p0 p1 p3) (false, 0, s3.2)).bind fun o7 =>
 some (Sum.inl (o7.1, o7.2))
 else
 some (Sum.inr s3.2)

noncomputable def F_recirculate_spread (p0 : T_Mine) (p1 : List T_recirculate_arc) (p2 : List Bool) (p3 : Int) : Option (List Bool) :=
 (appI 1 ([] : List Bool) p2).bind fun x1 =>
 (loopC (F_recirculate_spread_L1 p0 p1 p3) (true, x1)).bind fun o4 =>
 some o4

noncomputable def F_recirculate_circles_L1 (p0 : T_Mine) (p1 : List T_recirculate_arc) (s1 : Int × List T_recirculate_arc) : Option ((Int × List T_recirculate_arc) ⊕ (List T_recirculate_arc)) :=
 bif (decide (s1.1 < ((p1).length : Int))) then
 ((getI p1 s1.1).bind fun x5 =>
 ((getI p0.Places x5.from_).bind fun x8 =>
 bif x8.Surface then
 some true
 else
 (getI p0.Places x5.to_).bind fun x11 =>
 some x11.Surface).bind fun o7 =>
 bif o7 then
 some s1.2
 else
 (makI 1 false ((p0.Places).length : Int)).bind fun x14 =>
 (getI x14 x5.to_).bind fun x16 =>
 (F_recirculate_spread p0 p1 (x14.set ((x5.to_).toNat) true) x5.road).bind fun x18 =>
 (getI x18 x5.from_).bind fun x20 =>
 bif x20 then
 (appI 24 s1.2 [x5]).bind fun x23 =>
 some x23
 else
 some s1.2).bind fun o4 =>
 some (Sum.inl ((IntKind.i64.wrap (s1.1 + 1)), o4))
 else
 some (Sum.inr s1.2)

noncomputable def F_recirculate_circles (p0 : T_Mine) (p1 : List T_recirculate_arc) : Option (List T_recirculate_arc) :=
 (loopC (F_recirculate_circles_L1 p0 p1) (0, ([] : List T_recirculate_arc))).bind fun o2 =>
 some o2

noncomputable def F_recirculate_Circles_L1 (x3 : List T_recirculate_arc) (s5 : Int × List Int) : Option ((Int × List Int) ⊕ (List Int)) :=
 bif (decide (s5.1 < ((x3).length : Int))) then
 ((getI x3 s5.1).bind fun x9 =>
 (bif (decide (((s5.2).length : Int) = 0)) then
 some true
 else
 (getI s5.2 (IntKind.i64.wrap (((s5.2).length : Int) - 1))).bind fun x13 =>
 some (decide (x13 ≠ x9.road))).bind fun o11 =>
 bif o11 then
 (appI 8 s5.2 [x9.road]).bind fun x16 =>
 some x16
 else
 some s5.2).bind fun o8 =>
 some (Sum.inl ((IntKind.i64.wrap (s5.1 + 1)), o8))
 else
 some (Sum.inr s5.2)

noncomputable def F_recirculate_Circles (p0 : T_Mine) (p1 : List T_Span) : Option (List Int) :=
 (F_recirculate_arcs p0 p1).bind fun x1 =>
 (F_recirculate_circles p0 x1.1).bind fun x3 =>
 (loopC (F_recirculate_Circles_L1 x3) (0, ([] : List Int))).bind fun o6 =>
 some o6

noncomputable def F_ref14_reach_L3 (p0 : T_Mine) (p1 : List T_Span) (p3 : Int) (s6 : Bool × Int × List Bool) (s9 : Bool × Int × List Bool) : Option ((Bool × Int × List Bool) ⊕ (Bool × List Bool)) :=
 bif (decide (s9.2.1 < 2)) then
 ((F_ref14_Ends p0 s6.2.1 (decide (s9.2.1 = 1))).bind fun x13 =>
 (bif (decide (s6.2.1 ≠ p3)) then
 (F_ref14_Can p0 p1 s6.2.1 (decide (s9.2.1 = 1))).bind fun x17 =>
 bif x17 then
 (getI s9.2.2 x13.1).bind fun x20 =>
 bif x20 then
 (getI s9.2.2 x13.2).bind fun x23 =>
 bif (!x23) then
 (getI p0.Places x13.1).bind fun x26 =>
 bif (!x26.Surface) then
 (getI p0.Places x13.2).bind fun x29 =>
 some (!x29.Surface)
 else
 some false
 else
 some false
 else
 some false
 else
 some false
 else
 some false).bind fun o15 =>
 bif o15 then
 (getI s9.2.2 x13.2).bind fun x32 =>
 some (true, (s9.2.2.set ((x13.2).toNat) true))
 else
 some (s9.1, s9.2.2)).bind fun o12 =>
 some (Sum.inl (o12.1, (IntKind.i64.wrap (s9.2.1 + 1)), o12.2))
 else
 some (Sum.inr (s9.1, s9.2.2))

noncomputable def F_ref14_reach_L2 (p0 : T_Mine) (p1 : List T_Span) (p3 : Int) (s6 : Bool × Int × List Bool) : Option ((Bool × Int × List Bool) ⊕ (Bool × List Bool)) :=
 bif (decide (s6.2.1 < ((p0.Roads).length : Int))) then
 (loopC (F_ref14_reach_L3 p0 p1 p3 s6) (s6.1, 0, s6.2.2)).bind fun o10 =>
 some (Sum.inl (o10.1, (IntKind.i64.wrap (s6.2.1 + 1)), o10.2))
 else
 some (Sum.inr (s6.1, s6.2.2))

noncomputable def F_ref14_reach_L1 (p0 : T_Mine) (p1 : List T_Span) (p3 : Int) (s3 : Bool × List Bool) : Option ((Bool × List Bool) ⊕ (List Bool)) :=
 bif s3.1 then
 (loopC (F_ref14_reach_L2 p0 p1 p3) (false, 0, s3.2)).bind fun o7 =>
 some (Sum.inl (o7.1, o7.2))
 else
 some (Sum.inr s3.2)

noncomputable def F_ref14_reach (p0 : T_Mine) (p1 : List T_Span) (p2 : List Bool) (p3 : Int) : Option (List Bool) :=
 (appI 1 ([] : List Bool) p2).bind fun x1 =>
 (loopC (F_ref14_reach_L1 p0 p1 p3) (true, x1)).bind fun o4 =>
 some o4

noncomputable def F_ref14_Circles_L2 (p0 : T_Mine) (p1 : List T_Span) (s4 : Int × List Int) (s8 : Bool × Int) : Option ((Bool × Int) ⊕ Bool) :=
 bif (decide (s8.2 < 2)) then
 ((F_ref14_Ends p0 s4.1 (decide (s8.2 = 1))).bind fun x12 =>
 ((F_ref14_Can p0 p1 s4.1 (decide (s8.2 = 1))).bind fun x15 =>
 bif (!x15) then
 some true
 else
 (getI p0.Places x12.1).bind fun x18 =>
 bif x18.Surface then
 some true
 else
 (getI p0.Places x12.2).bind fun x21 =>
 some x21.Surface).bind fun o14 =>
 bif o14 then
 some s8.1
 else
 (makI 1 false ((p0.Places).length : Int)).bind fun x24 =>
 (getI x24 x12.2).bind fun x26 =>
 bif s8.1 then
 some true
 else
 (F_ref14_reach p0 p1 (x24.set ((x12.2).toNat) true) s4.1).bind fun x29 =>
 (getI x29 x12.1).bind fun x31 =>
 some x31).bind fun o11 =>
 some (Sum.inl (o11, (IntKind.i64.wrap (s8.2 + 1))))
 else
 some (Sum.inr s8.1)

noncomputable def F_ref14_Circles_L1 (p0 : T_Mine) (p1 : List T_Span) (s4 : Int × List Int) : Option ((Int × List Int) ⊕ (List Int)) :=
 bif (decide (s4.1 < ((p0.Roads).length : Int))) then
 ((loopC (F_ref14_Circles_L2 p0 p1 s4) (false, 0)).bind fun o9 =>
 bif o9 then
 (appI 8 s4.2 [s4.1]).bind fun x34 =>
 some x34
 else
 some s4.2).bind fun o7 =>
 some (Sum.inl ((IntKind.i64.wrap (s4.1 + 1)), o7))
 else
 some (Sum.inr s4.2)

noncomputable def F_ref14_Circles (p0 : T_Mine) (p1 : List T_Span) : Option (List Int) :=
 (F_ref14_right p0 p1).bind fun x1 =>
 bif (!x1) then
 some ([] : List Int)
 else
 (loopC (F_ref14_Circles_L1 p0 p1) (0, ([] : List Int))).bind fun o5 =>
 some o5

noncomputable def F_ref01_Ints_L1 (p0 : List Int) (p1 : List Int) (s2 : Int) : Option (Int ⊕ (Unit ⊕ Unit)) :=
 bif (decide (s2 < ((p0).length : Int))) then
 (getI p0 s2).bind fun x7 =>
 (getI p1 s2).bind fun x9 =>
 bif (decide (x7 ≠ x9)) then
 some (Sum.inr (Sum.inl ()))
 else
 some (Sum.inl (IntKind.i64.wrap (s2 + 1)))
 else
 some (Sum.inr (Sum.inr ()))

noncomputable def F_ref01_Ints (p0 : List Int) (p1 : List Int) : Option (Bool) :=
 bif (decide (((p0).length : Int) ≠ ((p1).length : Int))) then
 some false
 else
 (loopC (F_ref01_Ints_L1 p0 p1) 0).bind fun o3 =>
 Sum.elim (fun j4 =>
 some false)
 (fun j5 =>
 some true) o3

noncomputable def F_recirculate_Mixed_L1 (x6 : List T_recirculate_arc) (s8 : Int × List Bool) : Option ((Int × List Bool) ⊕ (List Bool)) :=
 bif (decide (s8.1 < ((x6).length : Int))) then
 (getI x6 s8.1).bind fun x11 =>
 (getI s8.2 x11.from_).bind fun x13 =>
 (getI (s8.2.set ((x11.from_).toNat) true) x11.to_).bind fun x15 =>
 some (Sum.inl ((IntKind.i64.wrap (s8.1 + 1)), ((s8.2.set ((x11.from_).toNat) true).set ((x11.to_).toNat) true)))
 else
 some (Sum.inr s8.2)

noncomputable def F_recirculate_Mixed_L2 (x17 : List Bool) (s19 : Int × List Int) : Option ((Int × List Int) ⊕ (List Int)) :=
 bif (decide (s19.1 < ((x17).length : Int))) then
 ((getI x17 s19.1).bind fun x23 =>
 bif x23 then
 (appI 8 s19.2 [s19.1]).bind fun x26 =>
 some x26
 else
 some s19.2).bind fun o22 =>
 some (Sum.inl ((IntKind.i64.wrap (s19.1 + 1)), o22))
 else
 some (Sum.inr s19.2)

noncomputable def F_recirculate_Mixed (p0 : T_Mine) (p1 : List T_Span) : Option (List Int) :=
 (F_recirculate_arcs p0 p1).bind fun x1 =>
 bif (!x1.2) then
 some ([] : List Int)
 else
 (makI 1 false ((p0.Places).length : Int)).bind fun x4 =>
 (F_recirculate_circles p0 x1.1).bind fun x6 =>
 (loopC (F_recirculate_Mixed_L1 x6) (0, x4)).bind fun o9 =>
 (F_recirculate_spread p0 x1.1 o9 (-1)).bind fun x17 =>
 (loopC (F_recirculate_Mixed_L2 x17) (0, ([] : List Int))).bind fun o20 =>
 some o20

noncomputable def F_law14_awake  : Option (Bool) :=
 (F_recirculate_Ways (T_Mine.mk [(T_Place.mk 0 false), (T_Place.mk 0 false)] [(T_Road.mk 0 1 1 1 false false (T_Span.mk 1 1) (T_Span.mk 0 0)), (T_Road.mk 0 1 1 1 false false (T_Span.mk 1 1) (T_Span.mk 0 0))]) [(T_Span.mk 1 5), (T_Span.mk (-5) (-1))]).bind fun x1 =>
 bif (decide (((x1).length : Int) = 2)) then
 (getI x1 1).bind fun x4 =>
 bif ((x4.a0 == 1) && ((x4.a1 == 0) && true)) then
 (F_recirculate_Circles (T_Mine.mk [(T_Place.mk 0 false), (T_Place.mk 0 false)] [(T_Road.mk 0 1 1 1 false false (T_Span.mk 1 1) (T_Span.mk 0 0)), (T_Road.mk 0 1 1 1 false false (T_Span.mk 1 1) (T_Span.mk 0 0))]) [(T_Span.mk 1 5), (T_Span.mk (-5) (-1))]).bind fun x7 =>
 (F_ref01_Ints x7 [0, 1]).bind fun x9 =>
 bif x9 then
 (F_recirculate_Circles (T_Mine.mk [(T_Place.mk 0 false), (T_Place.mk 0 false)] [(T_Road.mk 0 1 1 1 false false (T_Span.mk 1 1) (T_Span.mk 0 0)), (T_Road.mk 0 1 1 1 false false (T_Span.mk 1 1) (T_Span.mk 0 0))]) [(T_Span.mk (-1) 5), (T_Span.mk 1 5)]).bind fun x12 =>
 bif (decide (((x12).length : Int) = 2)) then
 (F_recirculate_Circles (T_Mine.mk [(T_Place.mk 0 false), (T_Place.mk 0 false)] [(T_Road.mk 0 1 1 1 false false (T_Span.mk 1 1) (T_Span.mk 0 0)), (T_Road.mk 0 1 1 1 false false (T_Span.mk 1 1) (T_Span.mk 0 0))]) [(T_Span.mk 1 5), (T_Span.mk 1 5)]).bind fun x15 =>
 bif (decide (((x15).length : Int) = 0)) then
 (F_recirculate_Mixed (T_Mine.mk [(T_Place.mk 0 false), (T_Place.mk 0 false)] [(T_Road.mk 0 1 1 1 false false (T_Span.mk 1 1) (T_Span.mk 0 0)), (T_Road.mk 0 1 1 1 false false (T_Span.mk 1 1) (T_Span.mk 0 0))]) [(T_Span.mk 1 5), (T_Span.mk (-5) (-1))]).bind fun x18 =>
 (F_ref01_Ints x18 [0, 1]).bind fun x20 =>
 some x20
 else
 some false
 else
 some false
 else
 some false
 else
 some false
 else
 some false

noncomputable def F_ref01_Has_L1 (p0 : List Int) (p1 : Int) (s1 : Int) : Option (Int ⊕ (Unit ⊕ Unit)) :=
 bif (decide (s1 < ((p0).length : Int))) then
 (getI p0 s1).bind fun x6 =>
 bif (decide (x6 = p1)) then
 some (Sum.inr (Sum.inl ()))
 else
 some (Sum.inl (IntKind.i64.wrap (s1 + 1)))
 else
 some (Sum.inr (Sum.inr ()))

noncomputable def F_ref01_Has (p0 : List Int) (p1 : Int) : Option (Bool) :=
 (loopC (F_ref01_Has_L1 p0 p1) 0).bind fun o2 =>
 Sum.elim (fun j3 =>
 some true)
 (fun j4 =>
 some false) o2

noncomputable def F_ref14_Mixed_L1 (p0 : T_Mine) (x1 : List Int) (s5 : Int × List Bool) : Option ((Int × List Bool) ⊕ (List Bool)) :=
 bif (decide (s5.1 < ((x1).length : Int))) then
 (getI x1 s5.1).bind fun x8 =>
 (getI p0.Roads x8).bind fun x10 =>
 (getI x1 s5.1).bind fun x12 =>
 (getI p0.Roads x12).bind fun x14 =>
 (getI s5.2 x10.From).bind fun x16 =>
 (getI (s5.2.set ((x10.From).toNat) true) x14.To).bind fun x18 =>
 some (Sum.inl ((IntKind.i64.wrap (s5.1 + 1)), ((s5.2.set ((x10.From).toNat) true).set ((x14.To).toNat) true)))
 else
 some (Sum.inr s5.2)

noncomputable def F_ref14_Mixed_L2 (o20 : List Bool) (s24 : Int × List Int) : Option ((Int × List Int) ⊕ (List Int)) :=
 bif (decide (s24.1 < ((o20).length : Int))) then
 ((getI o20 s24.1).bind fun x28 =>
 bif x28 then
 (appI 8 s24.2 [s24.1]).bind fun x31 =>
 some x31
 else
 some s24.2).bind fun o27 =>
 some (Sum.inl ((IntKind.i64.wrap (s24.1 + 1)), o27))
 else
 some (Sum.inr s24.2)

noncomputable def F_ref14_Mixed (p0 : T_Mine) (p1 : List T_Span) : Option (List Int) :=
 (F_ref14_Circles p0 p1).bind fun x1 =>
 (makI 1 false ((p0.Places).length : Int)).bind fun x3 =>
 (loopC (F_ref14_Mixed_L1 p0 x1) (0, x3)).bind fun o6 =>
 (bif (decide (0 < ((x1).length : Int))) then
 (F_ref14_reach p0 p1 o6 (-1)).bind fun x22 =>
 some x22
 else
 some o6).bind fun o20 =>
 (loopC (F_ref14_Mixed_L2 o20) (0, ([] : List Int))).bind fun o25 =>
 some o25

noncomputable def F_recirculate_Through_L1 (cs : List Int) (l : List T_Fan) : Nat → List Int
 | 0 => []
 | k + 1 => if ((l[k]?).map (·.Auxiliary)).getD false = true ∧ ((l[k]?).map (·.Road)).getD 0 ∈ cs then F_recirculate_Through_L1 cs l k ++ [(k : Int)] else F_recirculate_Through_L1 cs l k

noncomputable def F_recirculate_Through (p0 : T_Air) (p1 : List T_Span) : Option (List Int) :=
 (F_recirculate_Circles p0.Mine p1).bind fun x1 =>
 bif (x1.all (fun c => decide (-9223372036854775808 ≤ c ∧ c ≤ 9223372036854775807)) && (p0.Fans.all (fun f => decide (-9223372036854775808 ≤ f.Road ∧ f.Road ≤ 9223372036854775807)) && (decide (x1.length ≤ 1000000) && decide (p0.Fans.length ≤ 1000000)))) then
 some (F_recirculate_Through_L1 x1 p0.Fans p0.Fans.length)
 else
 none

noncomputable def F_ref14_Through_L1 (p0 : T_Air) (x1 : List Int) (s3 : Int × List Int) : Option ((Int × List Int) ⊕ (List Int)) :=
 bif (decide (s3.1 < ((p0.Fans).length : Int))) then
 (((getI p0.Fans s3.1).bind fun x8 =>
 bif x8.Auxiliary then
 (getI p0.Fans s3.1).bind fun x11 =>
 (F_ref01_Has x1 x11.Road).bind fun x13 =>
 some x13
 else
 some false).bind fun o7 =>
 bif o7 then
 (appI 8 s3.2 [s3.1]).bind fun x16 =>
 some x16
 else
 some s3.2).bind fun o6 =>
 some (Sum.inl ((IntKind.i64.wrap (s3.1 + 1)), o6))
 else
 some (Sum.inr s3.2)

noncomputable def F_ref14_Through (p0 : T_Air) (p1 : List T_Span) : Option (List Int) :=
 (F_ref14_Circles p0.Mine p1).bind fun x1 =>
 (loopC (F_ref14_Through_L1 p0 x1) (0, ([] : List Int))).bind fun o4 =>
 some o4

noncomputable def F_law14_RecirculateMixes_L1 (p1 : List T_Span) (x1 : T_Air × List T_Span × List Int) (o5 : T_Mine) (s7 : Int) : Option (Int ⊕ (Unit ⊕ Unit)) :=
 bif (decide (s7 < (([x1.2.1, p1]).length : Int))) then
 (getI [x1.2.1, p1] s7).bind fun x12 =>
 ((F_recirculate_Mixed x1.1.Mine x12).bind fun x15 =>
 (F_ref14_Mixed x1.1.Mine x12).bind fun x17 =>
 (F_ref01_Ints x15 x17).bind fun x19 =>
 bif (!x19) then
 some true
 else
 (F_recirculate_Through x1.1 x12).bind fun x22 =>
 (F_ref14_Through x1.1 x12).bind fun x24 =>
 (F_ref01_Ints x22 x24).bind fun x26 =>
 bif (!x26) then
 some true
 else
 (F_recirculate_Mixed o5 x12).bind fun x29 =>
 (F_ref14_Mixed o5 x12).bind fun x31 =>
 (F_ref01_Ints x29 x31).bind fun x33 =>
 some (!x33)).bind fun o14 =>
 bif o14 then
 some (Sum.inr (Sum.inl ()))
 else
 some (Sum.inl (IntKind.i64.wrap (s7 + 1)))
 else
 some (Sum.inr (Sum.inr ()))

noncomputable def F_law14_RecirculateMixes (p0 : List Int) (p1 : List T_Span) (p2 : T_Mine) : Option (Bool) :=
 (F_law14_air p0).bind fun x1 =>
 (bif (decide (12 < ((p2.Places).length : Int))) then
 some true
 else
 some (decide (12 < ((p2.Roads).length : Int)))).bind fun o3 =>
 (bif o3 then
 some (T_Mine.mk ([] : List T_Place) ([] : List T_Road))
 else
 some p2).bind fun o5 =>
 (loopC (F_law14_RecirculateMixes_L1 p1 x1 o5) 0).bind fun o8 =>
 Sum.elim (fun j9 =>
 some false)
 (fun j10 =>
 (F_law14_awake).bind fun x36 =>
 some x36) o8

end Go.L
