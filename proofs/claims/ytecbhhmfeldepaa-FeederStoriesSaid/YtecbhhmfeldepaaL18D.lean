/- Printed by wip/lift/lift.py: the functions of the program, as partial functions of plain data. -/
import Derived.Test.YtecbhhmfeldepaaAmlZ
namespace Go.L
open Go Go.Aml

structure T_draw_Codes where
 l : List Int
 at_ : Int
 deriving DecidableEq
def T_draw_Codes.enc (x : T_draw_Codes) : PV := .agg [.vs 1 (List.map (PV.int .u8) x.l), .int .i64 x.at_]
abbrev zF (x : T_draw_Codes) : List PV := [.vs 1 (List.map (PV.int .u8) x.l), .int .i64 x.at_]
abbrev zG (x : T_draw_Codes) (v : Nat) : AObj := ⟨61, 2, [.agg (zF x)], v⟩
theorem T_draw_Codes.enc_lt (x : T_draw_Codes) : LtN 0 x.enc := lt_agg ⟨.vs _ _, .int _ _, trivial⟩

structure T_Switch where
 Above : Int
 Since : Int
 Shown : Int
 Closed : Bool
 Late : Bool
 deriving DecidableEq
def T_Switch.enc (x : T_Switch) : PV := .agg [.int .i64 x.Above, .int .i64 x.Since, .int .i64 x.Shown, .bool x.Closed, .bool x.Late]
abbrev zC (x : T_Switch) : List PV := [.int .i64 x.Above, .int .i64 x.Since, .int .i64 x.Shown, .bool x.Closed, .bool x.Late]
theorem T_Switch.enc_lt (x : T_Switch) : LtN 0 x.enc := lt_agg ⟨.int _ _, .int _ _, .int _ _, .bool _, .bool _, trivial⟩

structure T_Feeder where
 Switches : List T_Switch
 Zones : List Int
 Reply : Int
 deriving DecidableEq
def T_Feeder.enc (x : T_Feeder) : PV := .agg [.vs 5 (List.map T_Switch.enc x.Switches), .vs 1 (List.map (PV.int .i64) x.Zones), .int .i64 x.Reply]
abbrev zA (x : T_Feeder) : List PV := [.vs 5 (List.map T_Switch.enc x.Switches), .vs 1 (List.map (PV.int .i64) x.Zones), .int .i64 x.Reply]
abbrev zB (x : T_Feeder) (v : Nat) : AObj := ⟨28, 3, [.agg (zA x)], v⟩
theorem T_Feeder.enc_lt (x : T_Feeder) : LtN 0 x.enc := lt_agg ⟨.vs _ _, .vs _ _, .int _ _, trivial⟩

structure A2_Int where
 a0 : Int
 a1 : Int
 deriving DecidableEq
def A2_Int.enc (x : A2_Int) : PV := .agg [.int .i64 x.a0, .int .i64 x.a1]
theorem A2_Int.enc_lt (x : A2_Int) : LtN 0 x.enc := lt_agg ⟨.int _ _, .int _ _, trivial⟩

structure T_law18_act where
 kind : Int
 n : Int
 wait : Int
 deriving DecidableEq
def T_law18_act.enc (x : T_law18_act) : PV := .agg [.int .i64 x.kind, .int .i64 x.n, .int .i64 x.wait]
abbrev zD (x : T_law18_act) : List PV := [.int .i64 x.kind, .int .i64 x.n, .int .i64 x.wait]
abbrev zE (x : T_law18_act) (v : Nat) : AObj := ⟨57, 3, [.agg (zD x)], v⟩
theorem T_law18_act.enc_lt (x : T_law18_act) : LtN 0 x.enc := lt_agg ⟨.int _ _, .int _ _, .int _ _, trivial⟩

def T_draw_Codes.Wf (x : T_draw_Codes) : Prop := (InL (In .u8)) x.l ∧ (In .i64) x.at_ ∧ True
def T_Switch.Wf (x : T_Switch) : Prop := (In .i64) x.Above ∧ (In .i64) x.Since ∧ (In .i64) x.Shown ∧ (fun _ => True) x.Closed ∧ (fun _ => True) x.Late ∧ True
def T_Feeder.Wf (x : T_Feeder) : Prop := (InL T_Switch.Wf) x.Switches ∧ (InL (In .i64)) x.Zones ∧ (In .i64) x.Reply ∧ True
def A2_Int.Wf (x : A2_Int) : Prop := (In .i64) x.a0 ∧ (In .i64) x.a1 ∧ True
def T_law18_act.Wf (x : T_law18_act) : Prop := (In .i64) x.kind ∧ (In .i64) x.n ∧ (In .i64) x.wait ∧ True

noncomputable def F_draw_New (p0 : List Int) : Option (T_draw_Codes) :=
 (sliI p0 0 (min ((p0).length : Int) 300)).bind fun x1 =>
 some (T_draw_Codes.mk x1 0)

noncomputable def F_draw_Codes_Next (p0 : T_draw_Codes) (p1 : Int) : Option (T_draw_Codes × Int) :=
 (bif (decide (p1 < 1)) then
 some true
 else
 some (decide (((p0.l).length : Int) ≤ p0.at_))).bind fun o1 =>
 bif o1 then
 some (p0, 0)
 else
 (getI p0.l (IntKind.i64.wrap ((IntKind.i64.wrap (p0.at_ + 1)) - 1))).bind fun x4 =>
 (bif (decide (256 < p1)) then
 some (decide ((IntKind.i64.wrap (p0.at_ + 1)) < ((p0.l).length : Int)))
 else
 some false).bind fun o6 =>
 (bif o6 then
 (getI p0.l (IntKind.i64.wrap (p0.at_ + 1))).bind fun x10 =>
 some ((IntKind.i64.wrap ((IntKind.i64.wrap ((IntKind.i64.wrap x4) * 256)) + (IntKind.i64.wrap x10))), (IntKind.i64.wrap ((IntKind.i64.wrap (p0.at_ + 1)) + 1)))
 else
 some ((IntKind.i64.wrap x4), (IntKind.i64.wrap (p0.at_ + 1)))).bind fun o8 =>
 (remI o8.1 p1).bind fun x12 =>
 some ((T_draw_Codes.mk p0.l o8.2), x12)

noncomputable def F_draw_Codes_Range (p0 : T_draw_Codes) (p1 : Int) (p2 : Int) : Option (T_draw_Codes × Int) :=
 (F_draw_Codes_Next p0 (IntKind.i64.wrap ((IntKind.i64.wrap (p2 - p1)) + 1))).bind fun x1 =>
 some (x1.1, (IntKind.i64.wrap (p1 + x1.2)))

noncomputable def F_draw_Codes_One (p0 : T_draw_Codes) (p1 : Int) : Option (T_draw_Codes × Bool) :=
 (F_draw_Codes_Next p0 p1).bind fun x1 =>
 some (x1.1, (decide (x1.2 = (IntKind.i64.wrap (p1 - 1)))))

noncomputable def F_draw_Codes_Truth (p0 : T_draw_Codes) : Option (T_draw_Codes × Int) :=
 (F_draw_Codes_Next p0 3).bind fun x1 =>
 some (x1.1, (IntKind.i64.wrap (x1.2 - 1)))

noncomputable def F_draw_Codes_Feeder_L1 (p1 : Int) (x3 : T_draw_Codes × Int) (s5 : Int × List T_Switch × T_draw_Codes) : Option ((Int × List T_Switch × T_draw_Codes) ⊕ (List T_Switch × T_draw_Codes)) :=
 bif (decide (s5.1 < (max (IntKind.i64.wrap (p1 + x3.2)) 1))) then
 (F_draw_Codes_Next s5.2.2 (IntKind.i64.wrap (s5.1 + 1))).bind fun x8 =>
 (F_draw_Codes_One x8.1 2).bind fun x10 =>
 (F_draw_Codes_Truth x10.1).bind fun x12 =>
 (appI 32 s5.2.1 [(T_Switch.mk (IntKind.i64.wrap (x8.2 - 1)) 0 x12.2 x10.2 false)]).bind fun x14 =>
 some (Sum.inl ((IntKind.i64.wrap (s5.1 + 1)), x14, x12.1))
 else
 some (Sum.inr (s5.2.1, s5.2.2))

noncomputable def F_draw_Codes_Feeder_L3 (s18 : Int × T_Feeder × List Bool × T_draw_Codes) (s23 : Int × T_Feeder) : Option ((Int × T_Feeder) ⊕ (Int × T_Feeder)) :=
 (getI s18.2.2.1 s23.1).bind fun x25 =>
 bif x25 then
 (remI (IntKind.i64.wrap (s23.1 + 1)) ((s18.2.2.1).length : Int)).bind fun x28 =>
 some (Sum.inl (x28, s23.2))
 else
 some (Sum.inr (s23.1, s23.2))

noncomputable def F_draw_Codes_Feeder_L2 (p1 : Int) (s18 : Int × T_Feeder × List Bool × T_draw_Codes) : Option ((Int × T_Feeder × List Bool × T_draw_Codes) ⊕ (T_Feeder × T_draw_Codes)) :=
 bif (decide (s18.1 < p1)) then
 (F_draw_Codes_Next s18.2.2.2 ((s18.2.1.Switches).length : Int)).bind fun x21 =>
 (loopC (F_draw_Codes_Feeder_L3 s18) (x21.2, s18.2.1)).bind fun o24 =>
 (getI s18.2.2.1 o24.1).bind fun x30 =>
 (appI 8 o24.2.Zones [o24.1]).bind fun x32 =>
 some (Sum.inl ((IntKind.i64.wrap (s18.1 + 1)), (T_Feeder.mk o24.2.Switches x32 o24.2.Reply), (s18.2.2.1.set ((o24.1).toNat) true), x21.1))
 else
 some (Sum.inr (s18.2.1, s18.2.2.2))

noncomputable def F_draw_Codes_Feeder (p0 : T_draw_Codes) (p1 : Int) : Option (T_draw_Codes × T_Feeder) :=
 (F_draw_Codes_Range p0 1 9).bind fun x1 =>
 (F_draw_Codes_Next x1.1 3).bind fun x3 =>
 (loopC (F_draw_Codes_Feeder_L1 p1 x3) (0, [], x3.1)).bind fun o6 =>
 (makI 1 false ((o6.1).length : Int)).bind fun x16 =>
 (loopC (F_draw_Codes_Feeder_L2 p1) (0, (T_Feeder.mk o6.1 ([] : List Int) x1.2), x16, o6.2)).bind fun o19 =>
 some (o19.2, o19.1)

noncomputable def F_feeder_Check_L1 (p0 : T_Feeder) (s4 : Int) : Option (Int ⊕ (Int ⊕ Unit)) :=
 bif (decide (s4 < ((p0.Switches).length : Int))) then
 (getI p0.Switches s4).bind fun x9 =>
 (bif (decide (x9.Above < (-1))) then
 some true
 else
 some (decide (s4 ≤ x9.Above))).bind fun o11 =>
 bif o11 then
 some (Sum.inr (Sum.inl 16))
 else
 (bif (decide (x9.Since < 0)) then
 some true
 else
 some (decide (2147483648 < x9.Since))).bind fun o14 =>
 bif o14 then
 some (Sum.inr (Sum.inl 8))
 else
 (bif (decide (x9.Shown < (-1))) then
 some true
 else
 bif (decide (1 < x9.Shown)) then
 some true
 else
 bif x9.Late then
 bif x9.Closed then
 some true
 else
 some (decide (x9.Shown = (-1)))
 else
 some false).bind fun o17 =>
 bif o17 then
 some (Sum.inr (Sum.inl 10))
 else
 some (Sum.inl (IntKind.i64.wrap (s4 + 1)))
 else
 some (Sum.inr (Sum.inr ()))

noncomputable def F_feeder_Check_L2 (p0 : T_Feeder) (s25 : Int × List Bool) : Option ((Int × List Bool) ⊕ (Int ⊕ Unit)) :=
 bif (decide (s25.1 < ((p0.Zones).length : Int))) then
 (getI p0.Zones s25.1).bind fun x30 =>
 (bif (decide (x30 < 0)) then
 some true
 else
 some (decide (((p0.Switches).length : Int) ≤ x30))).bind fun o32 =>
 bif o32 then
 some (Sum.inr (Sum.inl 16))
 else
 (getI s25.2 x30).bind fun x35 =>
 bif x35 then
 some (Sum.inr (Sum.inl 17))
 else
 (getI s25.2 x30).bind fun x38 =>
 some (Sum.inl ((IntKind.i64.wrap (s25.1 + 1)), (s25.2.set ((x30).toNat) true)))
 else
 some (Sum.inr (Sum.inr ()))

noncomputable def F_feeder_Check (p0 : T_Feeder) : Option (Int) :=
 (bif (decide (32 < ((p0.Switches).length : Int))) then
 some true
 else
 some (decide (16 < ((p0.Zones).length : Int)))).bind fun o1 =>
 bif o1 then
 some 2
 else
 (loopC (F_feeder_Check_L1 p0) 0).bind fun o5 =>
 Sum.elim (fun j6 =>
 some j6)
 (fun j7 =>
 (makI 1 false ((p0.Switches).length : Int)).bind fun x23 =>
 (loopC (F_feeder_Check_L2 p0) (0, x23)).bind fun o26 =>
 Sum.elim (fun j27 =>
 some j27)
 (fun j28 =>
 (bif (decide (p0.Reply < 1)) then
 some true
 else
 some (decide (100000 < p0.Reply))).bind fun o40 =>
 bif o40 then
 some 1
 else
 some 0) o26) o5

noncomputable def F_feeder_timely_L1 (p0 : T_Feeder) (p1 : Int) (s4 : Int) : Option (Int ⊕ (Unit ⊕ Unit)) :=
 bif (decide (s4 < ((p0.Switches).length : Int))) then
 (getI p0.Switches s4).bind fun x9 =>
 bif (decide (p1 < x9.Since)) then
 some (Sum.inr (Sum.inl ()))
 else
 some (Sum.inl (IntKind.i64.wrap (s4 + 1)))
 else
 some (Sum.inr (Sum.inr ()))

noncomputable def F_feeder_timely (p0 : T_Feeder) (p1 : Int) : Option (Bool) :=
 (bif (decide (p1 < 0)) then
 some true
 else
 some (decide (2147483648 < p1))).bind fun o1 =>
 bif o1 then
 some false
 else
 (loopC (F_feeder_timely_L1 p0 p1) 0).bind fun o5 =>
 Sum.elim (fun j6 =>
 some false)
 (fun j7 =>
 some true) o5

noncomputable def F_feeder_can (p0 : T_Feeder) (p1 : Int) (p2 : Int) : Option (Int) :=
 (F_feeder_Check p0).bind fun x1 =>
 bif (decide (x1 ≠ 0)) then
 some x1
 else
 (bif (decide (p1 < 0)) then
 some true
 else
 some (decide (((p0.Switches).length : Int) ≤ p1))).bind fun o4 =>
 bif o4 then
 some 16
 else
 (F_feeder_timely p0 p2).bind fun x7 =>
 bif (!x7) then
 some 8
 else
 some 0

noncomputable def F_feeder_clone (p0 : T_Feeder) : Option (T_Feeder) :=
 (appI 32 ([] : List T_Switch) p0.Switches).bind fun x1 =>
 (appI 8 ([] : List Int) p0.Zones).bind fun x3 =>
 some (T_Feeder.mk x1 x3 p0.Reply)

noncomputable def F_feeder_Close (p0 : T_Feeder) (p1 : Int) (p2 : Int) : Option (T_Feeder × Int) :=
 (F_feeder_can p0 p1 p2).bind fun x1 =>
 bif (decide (x1 ≠ 0)) then
 some ((T_Feeder.mk ([] : List T_Switch) ([] : List Int) 0), x1)
 else
 (getI p0.Switches p1).bind fun x4 =>
 (bif (decide (x4.Shown ≠ (-1))) then
 some true
 else
 bif (decide (0 ≤ x4.Above)) then
 (getI p0.Switches x4.Above).bind fun x9 =>
 some (decide (x9.Shown ≠ 1))
 else
 some false).bind fun o6 =>
 bif o6 then
 some ((T_Feeder.mk ([] : List T_Switch) ([] : List Int) 0), 10)
 else
 (F_feeder_clone p0).bind fun x12 =>
 (getI x12.Switches p1).bind fun x14 =>
 some ((T_Feeder.mk (x12.Switches.set ((p1).toNat) (T_Switch.mk x4.Above p2 0 true false)) x12.Zones x12.Reply), 0)

noncomputable def F_feeder_open (p0 : T_Feeder) (p1 : Int) (p2 : Int) : Option (List T_Switch × Bool) :=
 (getI p0.Switches p1).bind fun x2 =>
 bif (!x2.Closed) then
 some (p0.Switches, false)
 else
 some (((((p0.Switches.set ((p1).toNat) (T_Switch.mk x2.Above x2.Since x2.Shown false x2.Late)).set ((p1).toNat) (T_Switch.mk x2.Above p2 x2.Shown false x2.Late)).set ((p1).toNat) (T_Switch.mk x2.Above p2 0 false x2.Late)).set ((p1).toNat) (T_Switch.mk x2.Above p2 0 false false)), true)

noncomputable def F_feeder_Open (p0 : T_Feeder) (p1 : Int) (p2 : Int) : Option (T_Feeder × Int) :=
 (F_feeder_can p0 p1 p2).bind fun x1 =>
 bif (decide (x1 ≠ 0)) then
 some ((T_Feeder.mk ([] : List T_Switch) ([] : List Int) 0), x1)
 else
 (F_feeder_clone p0).bind fun x4 =>
 (F_feeder_open x4 p1 p2).bind fun x6 =>
 some ((T_Feeder.mk x6.1 x4.Zones x4.Reply), 0)

noncomputable def F_feeder_waits (p0 : T_Switch) : Option (Bool) :=
 bif (!p0.Closed) then
 bif (decide (p0.Shown ≠ (-1))) then
 some (!p0.Late)
 else
 some false
 else
 some false

noncomputable def F_feeder_Tick_L1 (p0 : T_Feeder) (p1 : Int) (x7 : T_Feeder) (s9 : Int × List Int × List Int × List T_Switch) : Option ((Int × List Int × List Int × List T_Switch) ⊕ (List Int × List Int × List T_Switch)) :=
 bif (decide (0 ≤ s9.1)) then
 ((getI s9.2.2.2 s9.1).bind fun x13 =>
 ((F_feeder_waits x13).bind fun x16 =>
 bif (!x16) then
 some true
 else
 some (decide ((IntKind.i64.wrap (p1 - x13.Since)) < p0.Reply))).bind fun o15 =>
 bif o15 then
 some (s9.2.1, s9.2.2.1, s9.2.2.2)
 else
 ((s9.2.2.2)[(s9.1).toNat]?).bind fun x20 =>
 (appI 8 s9.2.1 [s9.1]).bind fun x22 =>
 (bif (decide (0 ≤ x20.Above)) then
 (F_feeder_open (T_Feeder.mk (s9.2.2.2.set ((s9.1).toNat) (T_Switch.mk x20.Above x20.Since x20.Shown x20.Closed true)) x7.Zones x7.Reply) x20.Above p1).bind fun x26 =>
 some (x26.2, x26.1)
 else
 some (false, (s9.2.2.2.set ((s9.1).toNat) (T_Switch.mk x20.Above x20.Since x20.Shown x20.Closed true)))).bind fun o24 =>
 bif o24.1 then
 ((o24.2)[(s9.1).toNat]?).bind fun x29 =>
 (appI 8 s9.2.2.1 [x29.Above]).bind fun x31 =>
 some (x22, x31, o24.2)
 else
 some (x22, s9.2.2.1, o24.2)).bind fun o12 =>
 some (Sum.inl ((IntKind.i64.wrap (s9.1 - 1)), o12.1, o12.2.1, o12.2.2))
 else
 some (Sum.inr (s9.2.1, s9.2.2.1, s9.2.2.2))

noncomputable def F_feeder_Tick (p0 : T_Feeder) (p1 : Int) : Option (T_Feeder × List Int × List Int × Int) :=
 (F_feeder_Check p0).bind fun x1 =>
 bif (decide (x1 ≠ 0)) then
 some ((T_Feeder.mk ([] : List T_Switch) ([] : List Int) 0), ([] : List Int), ([] : List Int), x1)
 else
 (F_feeder_timely p0 p1).bind fun x4 =>
 bif (!x4) then
 some ((T_Feeder.mk ([] : List T_Switch) ([] : List Int) 0), ([] : List Int), ([] : List Int), 8)
 else
 (F_feeder_clone p0).bind fun x7 =>
 (loopC (F_feeder_Tick_L1 p0 p1 x7) ((IntKind.i64.wrap (((x7.Switches).length : Int) - 1)), ([] : List Int), ([] : List Int), x7.Switches)).bind fun o10 =>
 some ((T_Feeder.mk o10.2.2 x7.Zones x7.Reply), o10.1, o10.2.1, 0)

noncomputable def F_feeder_Live_L1 (p0 : T_Feeder) (s1 : Int × Int) : Option ((Int × Int) ⊕ Int) :=
 bif (decide (0 ≤ s1.1)) then
 (getI p0.Switches s1.1).bind fun x2 =>
 bif (decide (x2.Above < s1.1)) then
 some (Sum.inl (x2.Above, if x2.Shown < s1.2 then x2.Shown else s1.2))
 else
 none
 else
 some (Sum.inr s1.2)

noncomputable def F_feeder_Live (p0 : T_Feeder) (p1 : Int) : Option (Int) :=
 (F_feeder_Check p0).bind fun x1 =>
 bif (decide (x1 ≠ 0)) then
 some 0
 else
 bif (decide (p1 < 0)) then
 some 0
 else
 bif (decide ((p0.Zones.length : Int) ≤ p1)) then
 some 0
 else
 (getI p0.Zones p1).bind fun x2 =>
 bif (decide (0 ≤ x2)) then
 loopC (F_feeder_Live_L1 p0) (x2, 1)
 else
 none

noncomputable def F_feeder_Due_L1 (p0 : T_Feeder) (s4 : Int × Int) : Option ((Int × Int) ⊕ Int) :=
 bif (decide (s4.1 < ((p0.Switches).length : Int))) then
 ((getI p0.Switches s4.1).bind fun x8 =>
 (F_feeder_waits x8).bind fun x10 =>
 bif x10 then
 some (min s4.2 (IntKind.i64.wrap (x8.Since + p0.Reply)))
 else
 some s4.2).bind fun o7 =>
 some (Sum.inl ((IntKind.i64.wrap (s4.1 + 1)), o7))
 else
 some (Sum.inr s4.2)

noncomputable def F_feeder_Due (p0 : T_Feeder) : Option (Int) :=
 (F_feeder_Check p0).bind fun x1 =>
 bif (decide (x1 ≠ 0)) then
 some 0
 else
 (loopC (F_feeder_Due_L1 p0) (0, 1099511627776)).bind fun o5 =>
 some o5

noncomputable def F_ref01_Ints_L1 (p0 : List Int) (p1 : List Int) (s2 : Int) : Option (Int ⊕ (Unit ⊕ Unit)) :=
 bif (decide (s2 < ((p0).length : Int))) then
 (getI p0 s2).bind fun x7 =>
 (getI p1 s2).bind fun x9 =>
 bif (decide (x7 ≠ x9)) then
 some (Sum.inr (Sum.inl ()))
 else
 some (Sum.inl (IntKind.i64.wrap (s2 + 1)))
 else
 some (Sum.inr (Sum.inr ()))

noncomputable def F_ref01_Ints (p0 : List Int) (p1 : List Int) : Option (Bool) :=
 bif (decide (((p0).length : Int) ≠ ((p1).length : Int))) then
 some false
 else
 (loopC (F_ref01_Ints_L1 p0 p1) 0).bind fun o3 =>
 Sum.elim (fun j4 =>
 some false)
 (fun j5 =>
 some true) o3

noncomputable def F_law18_awake  : Option (Bool) :=
 (F_feeder_Open (T_Feeder.mk [(T_Switch.mk (-1) 0 1 true false), (T_Switch.mk 0 0 1 true false)] [1] 5) 1 10).bind fun x1 =>
 (F_feeder_Tick x1.1 15).bind fun x3 =>
 (F_feeder_Check (T_Feeder.mk [(T_Switch.mk (-1) 0 1 true false), (T_Switch.mk 0 0 1 true false)] [1] 5)).bind fun x5 =>
 bif (decide (x5 = 0)) then
 (F_feeder_Live (T_Feeder.mk [(T_Switch.mk (-1) 0 1 true false), (T_Switch.mk 0 0 1 true false)] [1] 5) 0).bind fun x8 =>
 bif (decide (x8 = 1)) then
 bif (decide (x1.2 = 0)) then
 (F_feeder_Live x1.1 0).bind fun x12 =>
 bif (decide (x12 = 0)) then
 (F_feeder_Due x1.1).bind fun x15 =>
 bif (decide (x15 = 15)) then
 bif (decide (x3.2.2.2 = 0)) then
 (F_ref01_Ints x3.2.1 [1]).bind fun x19 =>
 bif x19 then
 (F_ref01_Ints x3.2.2.1 [0]).bind fun x22 =>
 bif x22 then
 bif (decide (((x3.1.Switches).length : Int) = 2)) then
 (getI x3.1.Switches 0).bind fun x26 =>
 some (!x26.Closed)
 else
 some false
 else
 some false
 else
 some false
 else
 some false
 else
 some false
 else
 some false
 else
 some false
 else
 some false
 else
 some false

noncomputable def F_feeder_Answer (p0 : T_Feeder) (p1 : Int) (p2 : Int) : Option (T_Feeder × Int) :=
 (F_feeder_Check p0).bind fun x1 =>
 bif (decide (x1 ≠ 0)) then
 some ((T_Feeder.mk ([] : List T_Switch) ([] : List Int) 0), x1)
 else
 (bif (decide (p1 < 0)) then
 some true
 else
 some (decide (((p0.Switches).length : Int) ≤ p1))).bind fun o4 =>
 bif o4 then
 some ((T_Feeder.mk ([] : List T_Switch) ([] : List Int) 0), 16)
 else
 (bif (decide (p2 ≠ 1)) then
 some (decide (p2 ≠ (-1)))
 else
 some false).bind fun o7 =>
 bif o7 then
 some ((T_Feeder.mk ([] : List T_Switch) ([] : List Int) 0), 10)
 else
 (F_feeder_clone p0).bind fun x10 =>
 (getI x10.Switches p1).bind fun x12 =>
 ((getI (x10.Switches.set ((p1).toNat) (T_Switch.mk x12.Above x12.Since p2 x12.Closed x12.Late)) p1).bind fun x15 =>
 bif x15.Late then
 (getI (x10.Switches.set ((p1).toNat) (T_Switch.mk x12.Above x12.Since p2 x12.Closed x12.Late)) p1).bind fun x18 =>
 some ((x10.Switches.set ((p1).toNat) (T_Switch.mk x12.Above x12.Since p2 x12.Closed x12.Late)).set ((p1).toNat) (T_Switch.mk x18.Above x18.Since x18.Shown x18.Closed (decide (p2 ≠ (-1)))))
 else
 (getI (x10.Switches.set ((p1).toNat) (T_Switch.mk x12.Above x12.Since p2 x12.Closed x12.Late)) p1).bind fun x20 =>
 some ((x10.Switches.set ((p1).toNat) (T_Switch.mk x12.Above x12.Since p2 x12.Closed x12.Late)).set ((p1).toNat) (T_Switch.mk x20.Above x20.Since x20.Shown x20.Closed false))).bind fun o14 =>
 some ((T_Feeder.mk o14 x10.Zones x10.Reply), 0)

noncomputable def F_ref18_Same_L1 (p0 : T_Feeder) (p1 : T_Feeder) (s5 : Int) : Option (Int ⊕ (Unit ⊕ Unit)) :=
 bif (decide (s5 < ((p0.Switches).length : Int))) then
 (getI p0.Switches s5).bind fun x10 =>
 (getI p1.Switches s5).bind fun x12 =>
 bif (!((x10.Above == x12.Above) && ((x10.Since == x12.Since) && ((x10.Shown == x12.Shown) && ((x10.Closed == x12.Closed) && ((x10.Late == x12.Late) && true)))))) then
 some (Sum.inr (Sum.inl ()))
 else
 some (Sum.inl (IntKind.i64.wrap (s5 + 1)))
 else
 some (Sum.inr (Sum.inr ()))

noncomputable def F_ref18_Same_L2 (p0 : T_Feeder) (p1 : T_Feeder) (s15 : Int) : Option (Int ⊕ (Unit ⊕ Unit)) :=
 bif (decide (s15 < ((p0.Zones).length : Int))) then
 (getI p0.Zones s15).bind fun x20 =>
 (getI p1.Zones s15).bind fun x22 =>
 bif (decide (x20 ≠ x22)) then
 some (Sum.inr (Sum.inl ()))
 else
 some (Sum.inl (IntKind.i64.wrap (s15 + 1)))
 else
 some (Sum.inr (Sum.inr ()))

noncomputable def F_ref18_Same (p0 : T_Feeder) (p1 : T_Feeder) : Option (Bool) :=
 (bif (decide (p0.Reply ≠ p1.Reply)) then
 some true
 else
 bif (decide (((p0.Switches).length : Int) ≠ ((p1.Switches).length : Int))) then
 some true
 else
 some (decide (((p0.Zones).length : Int) ≠ ((p1.Zones).length : Int)))).bind fun o1 =>
 bif o1 then
 some false
 else
 (loopC (F_ref18_Same_L1 p0 p1) 0).bind fun o6 =>
 Sum.elim (fun j7 =>
 some false)
 (fun j8 =>
 (loopC (F_ref18_Same_L2 p0 p1) 0).bind fun o16 =>
 Sum.elim (fun j17 =>
 some false)
 (fun j18 =>
 some true) o16) o6

noncomputable def F_feeder_Path_L1 (p0 : T_Feeder) (s1 : Int × List Int) : Option ((Int × List Int) ⊕ List Int) :=
 bif (decide (0 ≤ s1.1)) then
 (getI p0.Switches s1.1).bind fun x2 =>
 bif (decide (x2.Above < s1.1)) then
 some (Sum.inl (x2.Above, s1.2 ++ [s1.1]))
 else
 none
 else
 some (Sum.inr s1.2)

noncomputable def F_feeder_Path (p0 : T_Feeder) (p1 : Int) : Option (List Int) :=
 (F_feeder_Check p0).bind fun x1 =>
 bif (decide (x1 ≠ 0)) then
 some []
 else
 bif (decide (p1 < 0)) then
 some []
 else
 bif (decide ((p0.Switches.length : Int) ≤ p1)) then
 some []
 else
 bif (decide (1000000 < (p0.Switches.length : Int))) then
 none
 else
 loopC (F_feeder_Path_L1 p0) (p1, [])

noncomputable def F_law18_acts_L1  (s3 : Int × List T_law18_act × T_draw_Codes) : Option ((Int × List T_law18_act × T_draw_Codes) ⊕ (List T_law18_act × T_draw_Codes)) :=
 bif (decide (0 < s3.1)) then
 (F_draw_Codes_Next s3.2.2 6).bind fun x6 =>
 (F_draw_Codes_Next x6.1 6).bind fun x8 =>
 (F_draw_Codes_Next x8.1 4).bind fun x10 =>
 (appI 24 s3.2.1 [(T_law18_act.mk x6.2 x8.2 x10.2)]).bind fun x12 =>
 some (Sum.inl ((IntKind.i64.wrap (s3.1 - 1)), x12, x10.1))
 else
 some (Sum.inr (s3.2.1, s3.2.2))

noncomputable def F_law18_acts (p0 : T_draw_Codes) : Option (T_draw_Codes × List T_law18_act) :=
 (F_draw_Codes_Next p0 20).bind fun x1 =>
 (loopC F_law18_acts_L1 (x1.2, ([] : List T_law18_act), x1.1)).bind fun o4 =>
 some (o4.2, o4.1)

noncomputable def F_law18_done (p0 : T_Feeder) (p1 : T_law18_act) (p2 : Int) : Option (T_Feeder × Int) :=
 (bif (decide (p1.kind = 0)) then
 some (decide (p1.kind = 0))
 else
 some (decide (p1.kind = 1))).bind fun o1 =>
 bif o1 then
 (F_feeder_Open p0 p1.n p2).bind fun x4 =>
 some (x4.1, x4.2)
 else
 bif (decide (p1.kind = 2)) then
 (F_feeder_Close p0 p1.n p2).bind fun x7 =>
 some (x7.1, x7.2)
 else
 bif (decide (p1.kind = 3)) then
 (F_feeder_Answer p0 p1.n (-1)).bind fun x10 =>
 some (x10.1, x10.2)
 else
 bif (decide (p1.kind = 4)) then
 (F_feeder_Answer p0 p1.n 1).bind fun x13 =>
 some (x13.1, x13.2)
 else
 (F_feeder_Tick p0 p2).bind fun x15 =>
 some (x15.1, x15.2.2.2)

noncomputable def F_law18_FeederStories_L3 (o18 : T_Feeder) (x53 : List Int) (s55 : Int × Bool × Bool) : Option ((Int × Bool × Bool) ⊕ (Bool × Bool)) :=
 bif (decide (s55.1 < ((x53).length : Int))) then
 ((getI x53 s55.1).bind fun x59 =>
 (bif s55.2.1 then
 some true
 else
 (getI o18.Switches x59).bind fun x63 =>
 some (decide (x63.Shown = (-1)))).bind fun o61 =>
 bif s55.2.2 then
 (getI o18.Switches x59).bind fun x66 =>
 some (o61, (decide (x66.Shown = 1)))
 else
 some (o61, false)).bind fun o58 =>
 some (Sum.inl ((IntKind.i64.wrap (s55.1 + 1)), o58.1, o58.2))
 else
 some (Sum.inr (s55.2.1, s55.2.2))

noncomputable def F_law18_FeederStories_L2 (o18 : T_Feeder) (s46 : Int) : Option (Int ⊕ (Unit ⊕ Unit)) :=
 bif (decide (s46 < ((o18.Zones).length : Int))) then
 (getI o18.Zones s46).bind fun x51 =>
 (F_feeder_Path o18 x51).bind fun x53 =>
 (loopC (F_law18_FeederStories_L3 o18 x53) (0, false, true)).bind fun o56 =>
 (F_feeder_Live o18 s46).bind fun x68 =>
 (bif ((decide (x68 = (-1))) != o56.1) then
 some true
 else
 some ((decide (x68 = 1)) != o56.2)).bind fun o70 =>
 bif o70 then
 some (Sum.inr (Sum.inl ()))
 else
 some (Sum.inl (IntKind.i64.wrap (s46 + 1)))
 else
 some (Sum.inr (Sum.inr ()))

noncomputable def F_law18_FeederStories_L1 (x7 : T_draw_Codes × List T_law18_act) (s9 : Int × Int × T_Feeder) : Option ((Int × Int × T_Feeder) ⊕ (Unit ⊕ Unit)) :=
 bif (decide (s9.1 < ((x7.2).length : Int))) then
 (getI x7.2 s9.1).bind fun x14 =>
 (F_law18_done s9.2.2 x14 (IntKind.i64.wrap (s9.2.1 + x14.wait))).bind fun x16 =>
 (bif (decide (x16.2 = 0)) then
 some x16.1
 else
 some s9.2.2).bind fun o18 =>
 (F_feeder_Check o18).bind fun x20 =>
 bif (decide (x20 ≠ 0)) then
 some (Sum.inr (Sum.inl ()))
 else
 (F_feeder_Due o18).bind fun x23 =>
 (bif (decide (x23 < 1099511627776)) then
 (bif (decide (x23 < (IntKind.i64.wrap (s9.2.1 + x14.wait)))) then
 some (IntKind.i64.wrap (s9.2.1 + x14.wait))
 else
 some x23).bind fun o29 =>
 (F_feeder_Tick o18 o29).bind fun x31 =>
 (bif (decide (x31.2.2.2 ≠ 0)) then
 some true
 else
 (F_ref18_Same x31.1 o18).bind fun x35 =>
 some x35).bind fun o33 =>
 bif o33 then
 some (Sum.inl ())
 else
 bif (decide ((IntKind.i64.wrap (s9.2.1 + x14.wait)) < x23)) then
 (F_feeder_Tick o18 (IntKind.i64.wrap (x23 - 1))).bind fun x39 =>
 (bif (decide (x39.2.2.2 ≠ 0)) then
 some true
 else
 (F_ref18_Same x39.1 o18).bind fun x43 =>
 some (!x43)).bind fun o41 =>
 bif o41 then
 some (Sum.inl ())
 else
 some (Sum.inr ())
 else
 some (Sum.inr ())
 else
 some (Sum.inr ())).bind fun o25 =>
 Sum.elim (fun j26 =>
 some (Sum.inr (Sum.inl ())))
 (fun j27 =>
 (loopC (F_law18_FeederStories_L2 o18) 0).bind fun o47 =>
 Sum.elim (fun j48 =>
 some (Sum.inr (Sum.inl ())))
 (fun j49 =>
 some (Sum.inl ((IntKind.i64.wrap (s9.1 + 1)), (IntKind.i64.wrap (s9.2.1 + x14.wait)), o18))) o47) o25
 else
 some (Sum.inr (Sum.inr ()))

noncomputable def F_law18_FeederStories (p0 : List Int) : Option (Bool) :=
 (F_draw_New p0).bind fun x1 =>
 (F_draw_Codes_Next x1 4).bind fun x3 =>
 (F_draw_Codes_Feeder x3.1 x3.2).bind fun x5 =>
 (F_law18_acts x5.1).bind fun x7 =>
 (loopC (F_law18_FeederStories_L1 x7) (0, 0, x5.2)).bind fun o10 =>
 Sum.elim (fun j11 =>
 some false)
 (fun j12 =>
 (F_law18_awake).bind fun x73 =>
 some x73) o10

end Go.L
