/- Printed by wip/lift/lift.py: the functions of the program, as partial functions of plain data. -/
import Derived.Test.YtecbhhmfeldepaaAmlZ
namespace Go.L
open Go Go.Aml

structure T_draw_Codes where
 l : List Int
 at_ : Int
 deriving DecidableEq
def T_draw_Codes.enc (x : T_draw_Codes) : PV := .agg [.vs 1 (List.map (PV.int .u8) x.l), .int .i64 x.at_]
abbrev zD (x : T_draw_Codes) : List PV := [.vs 1 (List.map (PV.int .u8) x.l), .int .i64 x.at_]
abbrev zE (x : T_draw_Codes) (v : Nat) : AObj := ⟨61, 2, [.agg (zD x)], v⟩
theorem T_draw_Codes.enc_lt (x : T_draw_Codes) : LtN 0 x.enc := lt_agg ⟨.vs _ _, .int _ _, trivial⟩

structure T_Switch where
 Above : Int
 Since : Int
 Shown : Int
 Closed : Bool
 Late : Bool
 deriving DecidableEq
def T_Switch.enc (x : T_Switch) : PV := .agg [.int .i64 x.Above, .int .i64 x.Since, .int .i64 x.Shown, .bool x.Closed, .bool x.Late]
abbrev zC (x : T_Switch) : List PV := [.int .i64 x.Above, .int .i64 x.Since, .int .i64 x.Shown, .bool x.Closed, .bool x.Late]
theorem T_Switch.enc_lt (x : T_Switch) : LtN 0 x.enc := lt_agg ⟨.int _ _, .int _ _, .int _ _, .bool _, .bool _, trivial⟩

structure T_Feeder where
 Switches : List T_Switch
 Zones : List Int
 Reply : Int
 deriving DecidableEq
def T_Feeder.enc (x : T_Feeder) : PV := .agg [.vs 5 (List.map T_Switch.enc x.Switches), .vs 1 (List.map (PV.int .i64) x.Zones), .int .i64 x.Reply]
abbrev zA (x : T_Feeder) : List PV := [.vs 5 (List.map T_Switch.enc x.Switches), .vs 1 (List.map (PV.int .i64) x.Zones), .int .i64 x.Reply]
abbrev zB (x : T_Feeder) (v : Nat) : AObj := ⟨28, 3, [.agg (zA x)], v⟩
theorem T_Feeder.enc_lt (x : T_Feeder) : LtN 0 x.enc := lt_agg ⟨.vs _ _, .vs _ _, .int _ _, trivial⟩

structure A2_Int where
 a0 : Int
 a1 : Int
 deriving DecidableEq
def A2_Int.enc (x : A2_Int) : PV := .agg [.int .i64 x.a0, .int .i64 x.a1]
theorem A2_Int.enc_lt (x : A2_Int) : LtN 0 x.enc := lt_agg ⟨.int _ _, .int _ _, trivial⟩

structure T_law18_act where
 kind : Int
 n : Int
 wait : Int
 deriving DecidableEq
def T_law18_act.enc (x : T_law18_act) : PV := .agg [.int .i64 x.kind, .int .i64 x.n, .int .i64 x.wait]
theorem T_law18_act.enc_lt (x : T_law18_act) : LtN 0 x.enc := lt_agg ⟨.int _ _, .int _ _, .int _ _, trivial⟩

def T_draw_Codes.Wf (x : T_draw_Codes) : Prop := (InL (In .u8)) x.l ∧ (In .i64) x.at_ ∧ True
def T_Switch.Wf (x : T_Switch) : Prop := (In .i64) x.Above ∧ (In .i64) x.Since ∧ (In .i64) x.Shown ∧ (fun _ => True) x.Closed ∧ (fun _ => True) x.Late ∧ True
def T_Feeder.Wf (x : T_Feeder) : Prop := (InL T_Switch.Wf) x.Switches ∧ (InL (In .i64)) x.Zones ∧ (In .i64) x.Reply ∧ True
def A2_Int.Wf (x : A2_Int) : Prop := (In .i64) x.a0 ∧ (In .i64) x.a1 ∧ True
def T_law18_act.Wf (x : T_law18_act) : Prop := (In .i64) x.kind ∧ (In .i64) x.n ∧ (In .i64) x.wait ∧ True

noncomputable def F_draw_New (p0 : List Int) : Option (T_draw_Codes) :=
 (sliI p0 0 (min ((p0).length : Int) 300)).bind fun x1 =>
 some (T_draw_Codes.mk x1 0)

noncomputable def F_draw_Codes_Next (p0 : T_draw_Codes) (p1 : Int) : Option (T_draw_Codes × Int) :=
 (bif (decide (p1 < 1)) then
 some true
 else
 some (decide (((p0.l).length : Int) ≤ p0.at_))).bind fun o1 =>
 bif o1 then
 some (p0, 0)
 else
 (getI p0.l (IntKind.i64.wrap ((IntKind.i64.wrap (p0.at_ + 1)) - 1))).bind fun x4 =>
 (bif (decide (256 < p1)) then
 some (decide ((IntKind.i64.wrap (p0.at_ + 1)) < ((p0.l).length : Int)))
 else
 some false).bind fun o6 =>
 (bif o6 then
 (getI p0.l (IntKind.i64.wrap (p0.at_ + 1))).bind fun x10 =>
 some ((IntKind.i64.wrap ((IntKind.i64.wrap ((IntKind.i64.wrap x4) * 256)) + (IntKind.i64.wrap x10))), (IntKind.i64.wrap ((IntKind.i64.wrap (p0.at_ + 1)) + 1)))
 else
 some ((IntKind.i64.wrap x4), (IntKind.i64.wrap (p0.at_ + 1)))).bind fun o8 =>
 (remI o8.1 p1).bind fun x12 =>
 some ((T_draw_Codes.mk p0.l o8.2), x12)

noncomputable def F_draw_Codes_Range (p0 : T_draw_Codes) (p1 : Int) (p2 : Int) : Option (T_draw_Codes × Int) :=
 (F_draw_Codes_Next p0 (IntKind.i64.wrap ((IntKind.i64.wrap (p2 - p1)) + 1))).bind fun x1 =>
 some (x1.1, (IntKind.i64.wrap (p1 + x1.2)))

noncomputable def F_draw_Codes_One (p0 : T_draw_Codes) (p1 : Int) : Option (T_draw_Codes × Bool) :=
 (F_draw_Codes_Next p0 p1).bind fun x1 =>
 some (x1.1, (decide (x1.2 = (IntKind.i64.wrap (p1 - 1)))))

noncomputable def F_draw_Codes_Truth (p0 : T_draw_Codes) : Option (T_draw_Codes × Int) :=
 (F_draw_Codes_Next p0 3).bind fun x1 =>
 some (x1.1, (IntKind.i64.wrap (x1.2 - 1)))

noncomputable def F_draw_Codes_Feeder_L1 (p1 : Int) (x3 : T_draw_Codes × Int) (s5 : Int × List T_Switch × T_draw_Codes) : Option ((Int × List T_Switch × T_draw_Codes) ⊕ (List T_Switch × T_draw_Codes)) :=
 bif (decide (s5.1 < (max (IntKind.i64.wrap (p1 + x3.2)) 1))) then
 (F_draw_Codes_Next s5.2.2 (IntKind.i64.wrap (s5.1 + 1))).bind fun x8 =>
 (F_draw_Codes_One x8.1 2).bind fun x10 =>
 (F_draw_Codes_Truth x10.1).bind fun x12 =>
 (appI 32 s5.2.1 [(T_Switch.mk (IntKind.i64.wrap (x8.2 - 1)) 0 x12.2 x10.2 false)]).bind fun x14 =>
 some (Sum.inl ((IntKind.i64.wrap (s5.1 + 1)), x14, x12.1))
 else
 some (Sum.inr (s5.2.1, s5.2.2))

noncomputable def F_draw_Codes_Feeder_L3 (s18 : Int × T_Feeder × List Bool × T_draw_Codes) (s23 : Int × T_Feeder) : Option ((Int × T_Feeder) ⊕ (Int × T_Feeder)) :=
 (getI s18.2.2.1 s23.1).bind fun x25 =>
 bif x25 then
 (remI (IntKind.i64.wrap (s23.1 + 1)) ((s18.2.2.1).length : Int)).bind fun x28 =>
 some (Sum.inl (x28, s23.2))
 else
 some (Sum.inr (s23.1, s23.2))

noncomputable def F_draw_Codes_Feeder_L2 (p1 : Int) (s18 : Int × T_Feeder × List Bool × T_draw_Codes) : Option ((Int × T_Feeder × List Bool × T_draw_Codes) ⊕ (T_Feeder × T_draw_Codes)) :=
 bif (decide (s18.1 < p1)) then
 (F_draw_Codes_Next s18.2.2.2 ((s18.2.1.Switches).length : Int)).bind fun x21 =>
 (loopC (F_draw_Codes_Feeder_L3 s18) (x21.2, s18.2.1)).bind fun o24 =>
 (getI s18.2.2.1 o24.1).bind fun x30 =>
 (appI 8 o24.2.Zones [o24.1]).bind fun x32 =>
 some (Sum.inl ((IntKind.i64.wrap (s18.1 + 1)), (T_Feeder.mk o24.2.Switches x32 o24.2.Reply), (s18.2.2.1.set ((o24.1).toNat) true), x21.1))
 else
 some (Sum.inr (s18.2.1, s18.2.2.2))

noncomputable def F_draw_Codes_Feeder (p0 : T_draw_Codes) (p1 : Int) : Option (T_draw_Codes × T_Feeder) :=
 (F_draw_Codes_Range p0 1 9).bind fun x1 =>
 (F_draw_Codes_Next x1.1 3).bind fun x3 =>
 (loopC (F_draw_Codes_Feeder_L1 p1 x3) (0, [], x3.1)).bind fun o6 =>
 (makI 1 false ((o6.1).length : Int)).bind fun x16 =>
 (loopC (F_draw_Codes_Feeder_L2 p1) (0, (T_Feeder.mk o6.1 ([] : List Int) x1.2), x16, o6.2)).bind fun o19 =>
 some (o19.2, o19.1)

noncomputable def F_draw_Mod (p0 : Int) (p1 : Int) : Option (Int) :=
 bif (decide (p1 < 1)) then
 some 0
 else
 (remI p0 p1).bind fun x2 =>
 (bif (decide (x2 < 0)) then
 some (IntKind.i64.wrap (x2 + p1))
 else
 some x2).bind fun o4 =>
 some o4

noncomputable def F_feeder_Check_L1 (p0 : T_Feeder) (s4 : Int) : Option (Int ⊕ (Int ⊕ Unit)) :=
 bif (decide (s4 < ((p0.Switches).length : Int))) then
 (getI p0.Switches s4).bind fun x9 =>
 (bif (decide (x9.Above < (-1))) then
 some true
 else
 some (decide (s4 ≤ x9.Above))).bind fun o11 =>
 bif o11 then
 some (Sum.inr (Sum.inl 16))
 else
 (bif (decide (x9.Since < 0)) then
 some true
 else
 some (decide (2147483648 < x9.Since))).bind fun o14 =>
 bif o14 then
 some (Sum.inr (Sum.inl 8))
 else
 (bif (decide (x9.Shown < (-1))) then
 some true
 else
 bif (decide (1 < x9.Shown)) then
 some true
 else
 bif x9.Late then
 bif x9.Closed then
 some true
 else
 some (decide (x9.Shown = (-1)))
 else
 some false).bind fun o17 =>
 bif o17 then
 some (Sum.inr (Sum.inl 10))
 else
 some (Sum.inl (IntKind.i64.wrap (s4 + 1)))
 else
 some (Sum.inr (Sum.inr ()))

noncomputable def F_feeder_Check_L2 (p0 : T_Feeder) (s25 : Int × List Bool) : Option ((Int × List Bool) ⊕ (Int ⊕ Unit)) :=
 bif (decide (s25.1 < ((p0.Zones).length : Int))) then
 (getI p0.Zones s25.1).bind fun x30 =>
 (bif (decide (x30 < 0)) then
 some true
 else
 some (decide (((p0.Switches).length : Int) ≤ x30))).bind fun o32 =>
 bif o32 then
 some (Sum.inr (Sum.inl 16))
 else
 (getI s25.2 x30).bind fun x35 =>
 bif x35 then
 some (Sum.inr (Sum.inl 17))
 else
 (getI s25.2 x30).bind fun x38 =>
 some (Sum.inl ((IntKind.i64.wrap (s25.1 + 1)), (s25.2.set ((x30).toNat) true)))
 else
 some (Sum.inr (Sum.inr ()))

noncomputable def F_feeder_Check (p0 : T_Feeder) : Option (Int) :=
 (bif (decide (32 < ((p0.Switches).length : Int))) then
 some true
 else
 some (decide (16 < ((p0.Zones).length : Int)))).bind fun o1 =>
 bif o1 then
 some 2
 else
 (loopC (F_feeder_Check_L1 p0) 0).bind fun o5 =>
 Sum.elim (fun j6 =>
 some j6)
 (fun j7 =>
 (makI 1 false ((p0.Switches).length : Int)).bind fun x23 =>
 (loopC (F_feeder_Check_L2 p0) (0, x23)).bind fun o26 =>
 Sum.elim (fun j27 =>
 some j27)
 (fun j28 =>
 (bif (decide (p0.Reply < 1)) then
 some true
 else
 some (decide (100000 < p0.Reply))).bind fun o40 =>
 bif o40 then
 some 1
 else
 some 0) o26) o5

noncomputable def F_feeder_timely_L1 (p0 : T_Feeder) (p1 : Int) (s4 : Int) : Option (Int ⊕ (Unit ⊕ Unit)) :=
 bif (decide (s4 < ((p0.Switches).length : Int))) then
 (getI p0.Switches s4).bind fun x9 =>
 bif (decide (p1 < x9.Since)) then
 some (Sum.inr (Sum.inl ()))
 else
 some (Sum.inl (IntKind.i64.wrap (s4 + 1)))
 else
 some (Sum.inr (Sum.inr ()))

noncomputable def F_feeder_timely (p0 : T_Feeder) (p1 : Int) : Option (Bool) :=
 (bif (decide (p1 < 0)) then
 some true
 else
 some (decide (2147483648 < p1))).bind fun o1 =>
 bif o1 then
 some false
 else
 (loopC (F_feeder_timely_L1 p0 p1) 0).bind fun o5 =>
 Sum.elim (fun j6 =>
 some false)
 (fun j7 =>
 some true) o5

noncomputable def F_feeder_can (p0 : T_Feeder) (p1 : Int) (p2 : Int) : Option (Int) :=
 (F_feeder_Check p0).bind fun x1 =>
 bif (decide (x1 ≠ 0)) then
 some x1
 else
 (bif (decide (p1 < 0)) then
 some true
 else
 some (decide (((p0.Switches).length : Int) ≤ p1))).bind fun o4 =>
 bif o4 then
 some 16
 else
 (F_feeder_timely p0 p2).bind fun x7 =>
 bif (!x7) then
 some 8
 else
 some 0

noncomputable def F_feeder_clone (p0 : T_Feeder) : Option (T_Feeder) :=
 (appI 32 ([] : List T_Switch) p0.Switches).bind fun x1 =>
 (appI 8 ([] : List Int) p0.Zones).bind fun x3 =>
 some (T_Feeder.mk x1 x3 p0.Reply)

noncomputable def F_feeder_open (p0 : T_Feeder) (p1 : Int) (p2 : Int) : Option (List T_Switch × Bool) :=
 (getI p0.Switches p1).bind fun x2 =>
 bif (!x2.Closed) then
 some (p0.Switches, false)
 else
 some (((((p0.Switches.set ((p1).toNat) (T_Switch.mk x2.Above x2.Since x2.Shown false x2.Late)).set ((p1).toNat) (T_Switch.mk x2.Above p2 x2.Shown false x2.Late)).set ((p1).toNat) (T_Switch.mk x2.Above p2 0 false x2.Late)).set ((p1).toNat) (T_Switch.mk x2.Above p2 0 false false)), true)

noncomputable def F_feeder_Open (p0 : T_Feeder) (p1 : Int) (p2 : Int) : Option (T_Feeder × Int) :=
 (F_feeder_can p0 p1 p2).bind fun x1 =>
 bif (decide (x1 ≠ 0)) then
 some ((T_Feeder.mk ([] : List T_Switch) ([] : List Int) 0), x1)
 else
 (F_feeder_clone p0).bind fun x4 =>
 (F_feeder_open x4 p1 p2).bind fun x6 =>
 some ((T_Feeder.mk x6.1 x4.Zones x4.Reply), 0)

noncomputable def F_feeder_waits (p0 : T_Switch) : Option (Bool) :=
 bif (!p0.Closed) then
 bif (decide (p0.Shown ≠ (-1))) then
 some (!p0.Late)
 else
 some false
 else
 some false

noncomputable def F_feeder_Tick_L1 (p0 : T_Feeder) (p1 : Int) (x7 : T_Feeder) (s9 : Int × List Int × List Int × List T_Switch) : Option ((Int × List Int × List Int × List T_Switch) ⊕ (List Int × List Int × List T_Switch)) :=
 bif (decide (0 ≤ s9.1)) then
 ((getI s9.2.2.2 s9.1).bind fun x13 =>
 ((F_feeder_waits x13).bind fun x16 =>
 bif (!x16) then
 some true
 else
 some (decide ((IntKind.i64.wrap (p1 - x13.Since)) < p0.Reply))).bind fun o15 =>
 bif o15 then
 some (s9.2.1, s9.2.2.1, s9.2.2.2)
 else
 ((s9.2.2.2)[(s9.1).toNat]?).bind fun x20 =>
 (appI 8 s9.2.1 [s9.1]).bind fun x22 =>
 (bif (decide (0 ≤ x20.Above)) then
 (F_feeder_open (T_Feeder.mk (s9.2.2.2.set ((s9.1).toNat) (T_Switch.mk x20.Above x20.Since x20.Shown x20.Closed true)) x7.Zones x7.Reply) x20.Above p1).bind fun x26 =>
 some (x26.2, x26.1)
 else
 some (false, (s9.2.2.2.set ((s9.1).toNat) (T_Switch.mk x20.Above x20.Since x20.Shown x20.Closed true)))).bind fun o24 =>
 bif o24.1 then
 ((o24.2)[(s9.1).toNat]?).bind fun x29 =>
 (appI 8 s9.2.2.1 [x29.Above]).bind fun x31 =>
 some (x22, x31, o24.2)
 else
 some (x22, s9.2.2.1, o24.2)).bind fun o12 =>
 some (Sum.inl ((IntKind.i64.wrap (s9.1 - 1)), o12.1, o12.2.1, o12.2.2))
 else
 some (Sum.inr (s9.2.1, s9.2.2.1, s9.2.2.2))

noncomputable def F_feeder_Tick (p0 : T_Feeder) (p1 : Int) : Option (T_Feeder × List Int × List Int × Int) :=
 (F_feeder_Check p0).bind fun x1 =>
 bif (decide (x1 ≠ 0)) then
 some ((T_Feeder.mk ([] : List T_Switch) ([] : List Int) 0), ([] : List Int), ([] : List Int), x1)
 else
 (F_feeder_timely p0 p1).bind fun x4 =>
 bif (!x4) then
 some ((T_Feeder.mk ([] : List T_Switch) ([] : List Int) 0), ([] : List Int), ([] : List Int), 8)
 else
 (F_feeder_clone p0).bind fun x7 =>
 (loopC (F_feeder_Tick_L1 p0 p1 x7) ((IntKind.i64.wrap (((x7.Switches).length : Int) - 1)), ([] : List Int), ([] : List Int), x7.Switches)).bind fun o10 =>
 some ((T_Feeder.mk o10.2.2 x7.Zones x7.Reply), o10.1, o10.2.1, 0)

noncomputable def F_feeder_Live_L1 (p0 : T_Feeder) (s1 : Int × Int) : Option ((Int × Int) ⊕ Int) :=
 bif (decide (0 ≤ s1.1)) then
 (getI p0.Switches s1.1).bind fun x2 =>
 bif (decide (x2.Above < s1.1)) then
 some (Sum.inl (x2.Above, if x2.Shown < s1.2 then x2.Shown else s1.2))
 else
 none
 else
 some (Sum.inr s1.2)

noncomputable def F_feeder_Live (p0 : T_Feeder) (p1 : Int) : Option (Int) :=
 (F_feeder_Check p0).bind fun x1 =>
 bif (decide (x1 ≠ 0)) then
 some 0
 else
 bif (decide (p1 < 0)) then
 some 0
 else
 bif (decide ((p0.Zones.length : Int) ≤ p1)) then
 some 0
 else
 (getI p0.Zones p1).bind fun x2 =>
 bif (decide (0 ≤ x2)) then
 loopC (F_feeder_Live_L1 p0) (x2, 1)
 else
 none

noncomputable def F_feeder_Due_L1 (p0 : T_Feeder) (s4 : Int × Int) : Option ((Int × Int) ⊕ Int) :=
 bif (decide (s4.1 < ((p0.Switches).length : Int))) then
 ((getI p0.Switches s4.1).bind fun x8 =>
 (F_feeder_waits x8).bind fun x10 =>
 bif x10 then
 some (min s4.2 (IntKind.i64.wrap (x8.Since + p0.Reply)))
 else
 some s4.2).bind fun o7 =>
 some (Sum.inl ((IntKind.i64.wrap (s4.1 + 1)), o7))
 else
 some (Sum.inr s4.2)

noncomputable def F_feeder_Due (p0 : T_Feeder) : Option (Int) :=
 (F_feeder_Check p0).bind fun x1 =>
 bif (decide (x1 ≠ 0)) then
 some 0
 else
 (loopC (F_feeder_Due_L1 p0) (0, 1099511627776)).bind fun o5 =>
 some o5

noncomputable def F_ref01_Ints_L1 (p0 : List Int) (p1 : List Int) (s2 : Int) : Option (Int ⊕ (Unit ⊕ Unit)) :=
 bif (decide (s2 < ((p0).length : Int))) then
 (getI p0 s2).bind fun x7 =>
 (getI p1 s2).bind fun x9 =>
 bif (decide (x7 ≠ x9)) then
 some (Sum.inr (Sum.inl ()))
 else
 some (Sum.inl (IntKind.i64.wrap (s2 + 1)))
 else
 some (Sum.inr (Sum.inr ()))

noncomputable def F_ref01_Ints (p0 : List Int) (p1 : List Int) : Option (Bool) :=
 bif (decide (((p0).length : Int) ≠ ((p1).length : Int))) then
 some false
 else
 (loopC (F_ref01_Ints_L1 p0 p1) 0).bind fun o3 =>
 Sum.elim (fun j4 =>
 some false)
 (fun j5 =>
 some true) o3

noncomputable def F_law18_awake  : Option (Bool) :=
 (F_feeder_Open (T_Feeder.mk [(T_Switch.mk (-1) 0 1 true false), (T_Switch.mk 0 0 1 true false)] [1] 5) 1 10).bind fun x1 =>
 (F_feeder_Tick x1.1 15).bind fun x3 =>
 (F_feeder_Check (T_Feeder.mk [(T_Switch.mk (-1) 0 1 true false), (T_Switch.mk 0 0 1 true false)] [1] 5)).bind fun x5 =>
 bif (decide (x5 = 0)) then
 (F_feeder_Live (T_Feeder.mk [(T_Switch.mk (-1) 0 1 true false), (T_Switch.mk 0 0 1 true false)] [1] 5) 0).bind fun x8 =>
 bif (decide (x8 = 1)) then
 bif (decide (x1.2 = 0)) then
 (F_feeder_Live x1.1 0).bind fun x12 =>
 bif (decide (x12 = 0)) then
 (F_feeder_Due x1.1).bind fun x15 =>
 bif (decide (x15 = 15)) then
 bif (decide (x3.2.2.2 = 0)) then
 (F_ref01_Ints x3.2.1 [1]).bind fun x19 =>
 bif x19 then
 (F_ref01_Ints x3.2.2.1 [0]).bind fun x22 =>
 bif x22 then
 bif (decide (((x3.1.Switches).length : Int) = 2)) then
 (getI x3.1.Switches 0).bind fun x26 =>
 some (!x26.Closed)
 else
 some false
 else
 some false
 else
 some false
 else
 some false
 else
 some false
 else
 some false
 else
 some false
 else
 some false
 else
 some false

noncomputable def F_feeder_Path_L1 (p0 : T_Feeder) (s1 : Int × List Int) : Option ((Int × List Int) ⊕ List Int) :=
 bif (decide (0 ≤ s1.1)) then
 (getI p0.Switches s1.1).bind fun x2 =>
 bif (decide (x2.Above < s1.1)) then
 some (Sum.inl (x2.Above, s1.2 ++ [s1.1]))
 else
 none
 else
 some (Sum.inr s1.2)

noncomputable def F_feeder_Path (p0 : T_Feeder) (p1 : Int) : Option (List Int) :=
 (F_feeder_Check p0).bind fun x1 =>
 bif (decide (x1 ≠ 0)) then
 some []
 else
 bif (decide (p1 < 0)) then
 some []
 else
 bif (decide ((p0.Switches.length : Int) ≤ p1)) then
 some []
 else
 bif (decide (1000000 < (p0.Switches.length : Int))) then
 none
 else
 loopC (F_feeder_Path_L1 p0) (p1, [])

noncomputable def F_feeder_Failed_L1 (p0 : T_Feeder) (s4 : Int × List Int) : Option ((Int × List Int) ⊕ (List Int)) :=
 bif (decide (s4.1 < ((p0.Switches).length : Int))) then
 ((getI p0.Switches s4.1).bind fun x8 =>
 (bif (decide (x8.Above < 0)) then
 some x8.Late
 else
 some false).bind fun o10 =>
 bif o10 then
 (appI 8 s4.2 [s4.1]).bind fun x13 =>
 some x13
 else
 some s4.2).bind fun o7 =>
 some (Sum.inl ((IntKind.i64.wrap (s4.1 + 1)), o7))
 else
 some (Sum.inr s4.2)

noncomputable def F_feeder_Failed (p0 : T_Feeder) : Option (List Int) :=
 (F_feeder_Check p0).bind fun x1 =>
 bif (decide (x1 ≠ 0)) then
 some ([] : List Int)
 else
 (loopC (F_feeder_Failed_L1 p0) (0, ([] : List Int))).bind fun o5 =>
 some o5

noncomputable def F_law18_FeederChain_L1 (x5 : T_draw_Codes × T_Feeder) (s7 : Int × T_Feeder) : Option ((Int × T_Feeder) ⊕ T_Feeder) :=
 bif (decide (s7.1 < ((x5.2.Switches).length : Int))) then
 (getI s7.2.Switches s7.1).bind fun x10 =>
 (getI (s7.2.Switches.set ((s7.1).toNat) (T_Switch.mk x10.Above x10.Since x10.Shown true x10.Late)) s7.1).bind fun x12 =>
 some (Sum.inl ((IntKind.i64.wrap (s7.1 + 1)), (T_Feeder.mk ((s7.2.Switches.set ((s7.1).toNat) (T_Switch.mk x10.Above x10.Since x10.Shown true x10.Late)).set ((s7.1).toNat) (T_Switch.mk x12.Above x12.Since 1 x12.Closed x12.Late)) s7.2.Zones s7.2.Reply)))
 else
 some (Sum.inr s7.2)

noncomputable def F_law18_FeederChain_L2 (o8 : T_Feeder) (x18 : List Int) (s27 : Int × T_Feeder) : Option ((Int × T_Feeder) ⊕ (Unit ⊕ T_Feeder)) :=
 bif (decide (s27.1 ≤ ((x18).length : Int))) then
 (F_feeder_Due s27.2).bind fun x32 =>
 bif (decide (x32 ≠ (IntKind.i64.wrap (s27.1 * o8.Reply)))) then
 some (Sum.inr (Sum.inl ()))
 else
 (F_feeder_Tick s27.2 (IntKind.i64.wrap (s27.1 * o8.Reply))).bind fun x35 =>
 (bif (decide (x35.2.2.2 ≠ 0)) then
 some true
 else
 (sliI x18 (IntKind.i64.wrap (s27.1 - 1)) s27.1).bind fun x39 =>
 (F_ref01_Ints x35.2.1 x39).bind fun x41 =>
 bif (!x41) then
 some true
 else
 bif (decide (s27.1 < ((x18).length : Int))) then
 (sliI x18 s27.1 (IntKind.i64.wrap (s27.1 + 1))).bind fun x45 =>
 (F_ref01_Ints x35.2.2.1 x45).bind fun x47 =>
 bif (!x47) then
 some true
 else
 bif (decide (s27.1 = ((x18).length : Int))) then
 some (decide (0 < ((x35.2.2.1).length : Int)))
 else
 some false
 else
 bif (decide (s27.1 = ((x18).length : Int))) then
 some (decide (0 < ((x35.2.2.1).length : Int)))
 else
 some false).bind fun o37 =>
 bif o37 then
 some (Sum.inr (Sum.inl ()))
 else
 some (Sum.inl ((IntKind.i64.wrap (s27.1 + 1)), x35.1))
 else
 some (Sum.inr (Sum.inr s27.2))

noncomputable def F_law18_FeederChain (p0 : List Int) (p1 : Int) : Option (Bool) :=
 (F_draw_New p0).bind fun x1 =>
 (F_draw_Codes_Next x1 3).bind fun x3 =>
 (F_draw_Codes_Feeder x3.1 (IntKind.i64.wrap (1 + x3.2))).bind fun x5 =>
 (loopC (F_law18_FeederChain_L1 x5) (0, x5.2)).bind fun o8 =>
 (F_draw_Mod p1 ((o8.Zones).length : Int)).bind fun x14 =>
 (getI o8.Zones x14).bind fun x16 =>
 (F_feeder_Path o8 x16).bind fun x18 =>
 (getI o8.Zones x14).bind fun x20 =>
 (F_feeder_Open o8 x20 0).bind fun x22 =>
 (bif (decide (x22.2 ≠ 0)) then
 some true
 else
 some (decide (((x18).length : Int) = 0))).bind fun o24 =>
 bif o24 then
 some false
 else
 (loopC (F_law18_FeederChain_L2 o8 x18) (1, x22.1)).bind fun o28 =>
 Sum.elim (fun j29 =>
 some false)
 (fun j30 =>
 (F_feeder_Due j30).bind fun x53 =>
 bif (decide (x53 = 1099511627776)) then
 (F_feeder_Failed j30).bind fun x56 =>
 (sliI x18 (IntKind.i64.wrap (((x18).length : Int) - 1)) ((x18).length)).bind fun x58 =>
 (F_ref01_Ints x56 x58).bind fun x60 =>
 bif x60 then
 (F_feeder_Live j30 x14).bind fun x63 =>
 bif (decide (x63 = 0)) then
 (F_law18_awake).bind fun x66 =>
 some x66
 else
 some false
 else
 some false
 else
 some false) o28

end Go.L
