/- Printed by wip/lift/lift.py: the functions of the program, as partial functions of plain data. -/
import Derived.Test.YtnhdamflfebofaaAmlZ
namespace Go.L
open Go Go.Aml

structure T_Alarm where
 Kind : Int
 Subject : Int
 Priority : Int
 Raised : Int
 Ended : Int
 Active : Bool
 Acked : Bool
 Hidden : Int
 Count : Int
 deriving DecidableEq
def T_Alarm.enc (x : T_Alarm) : PV := .agg [.int .i64 x.Kind, .int .i64 x.Subject, .int .i64 x.Priority, .int .i64 x.Raised, .int .i64 x.Ended, .bool x.Active, .bool x.Acked, .int .i64 x.Hidden, .int .i64 x.Count]
abbrev zA (x : T_Alarm) : List PV := [.int .i64 x.Kind, .int .i64 x.Subject, .int .i64 x.Priority, .int .i64 x.Raised, .int .i64 x.Ended, .bool x.Active, .bool x.Acked, .int .i64 x.Hidden, .int .i64 x.Count]
abbrev zB (x : T_Alarm) (v : Nat) : AObj := ⟨32, 9, [.agg (zA x)], v⟩
theorem T_Alarm.enc_lt (x : T_Alarm) : LtN 0 x.enc := lt_agg ⟨.int _ _, .int _ _, .int _ _, .int _ _, .int _ _, .bool _, .bool _, .int _ _, .int _ _, trivial⟩

structure T_alarms_name where
 kind : Int
 subject : Int
 deriving DecidableEq
def T_alarms_name.enc (x : T_alarms_name) : PV := .agg [.int .i64 x.kind, .int .i64 x.subject]
abbrev zE (x : T_alarms_name) : List PV := [.int .i64 x.kind, .int .i64 x.subject]
theorem T_alarms_name.enc_lt (x : T_alarms_name) : LtN 0 x.enc := lt_agg ⟨.int _ _, .int _ _, trivial⟩

structure T_made_Dice where
 L : List Int
 At : Int
 deriving DecidableEq
def T_made_Dice.enc (x : T_made_Dice) : PV := .agg [.vs 1 (List.map (PV.int .i64) x.L), .int .i64 x.At]
abbrev zC (x : T_made_Dice) : List PV := [.vs 1 (List.map (PV.int .i64) x.L), .int .i64 x.At]
abbrev zD (x : T_made_Dice) (v : Nat) : AObj := ⟨51, 2, [.agg (zC x)], v⟩
theorem T_made_Dice.enc_lt (x : T_made_Dice) : LtN 0 x.enc := lt_agg ⟨.vs _ _, .int _ _, trivial⟩

structure A3_Int where
 a0 : Int
 a1 : Int
 a2 : Int
 deriving DecidableEq
def A3_Int.enc (x : A3_Int) : PV := .agg [.int .i64 x.a0, .int .i64 x.a1, .int .i64 x.a2]
theorem A3_Int.enc_lt (x : A3_Int) : LtN 0 x.enc := lt_agg ⟨.int _ _, .int _ _, .int _ _, trivial⟩

structure A4_Int where
 a0 : Int
 a1 : Int
 a2 : Int
 a3 : Int
 deriving DecidableEq
def A4_Int.enc (x : A4_Int) : PV := .agg [.int .i64 x.a0, .int .i64 x.a1, .int .i64 x.a2, .int .i64 x.a3]
theorem A4_Int.enc_lt (x : A4_Int) : LtN 0 x.enc := lt_agg ⟨.int _ _, .int _ _, .int _ _, .int _ _, trivial⟩

def T_Alarm.Wf (x : T_Alarm) : Prop := (In .i64) x.Kind ∧ (In .i64) x.Subject ∧ (In .i64) x.Priority ∧ (In .i64) x.Raised ∧ (In .i64) x.Ended ∧ (fun _ => True) x.Active ∧ (fun _ => True) x.Acked ∧ (In .i64) x.Hidden ∧ (In .i64) x.Count ∧ True
def T_alarms_name.Wf (x : T_alarms_name) : Prop := (In .i64) x.kind ∧ (In .i64) x.subject ∧ True
def T_made_Dice.Wf (x : T_made_Dice) : Prop := (InL (In .i64)) x.L ∧ (In .i64) x.At ∧ True
def A3_Int.Wf (x : A3_Int) : Prop := (In .i64) x.a0 ∧ (In .i64) x.a1 ∧ (In .i64) x.a2 ∧ True
def A4_Int.Wf (x : A4_Int) : Prop := (In .i64) x.a0 ∧ (In .i64) x.a1 ∧ (In .i64) x.a2 ∧ (In .i64) x.a3 ∧ True

noncomputable def F_made_Light (p0 : List Int) : Option (Bool) :=
 some (decide (((p0).length : Int) ≤ 400))

noncomputable def F_lists_In (p0 : Int) (p1 : Int) (p2 : Int) : Option (Bool) :=
 bif (decide (p1 ≤ p0)) then
 some (decide (p0 ≤ p2))
 else
 some false

noncomputable def F_alarms_right_L1 (p0 : T_Alarm) (s1 : Int) : Option (Int ⊕ (Unit ⊕ Unit)) :=
 bif (decide (s1 < 4)) then
 (getI [p0.Kind, p0.Subject, p0.Raised, p0.Hidden] s1).bind fun x6 =>
 (F_lists_In x6 0 2147483648).bind fun x8 =>
 bif (!x8) then
 some (Sum.inr (Sum.inl ()))
 else
 some (Sum.inl (IntKind.i64.wrap (s1 + 1)))
 else
 some (Sum.inr (Sum.inr ()))

noncomputable def F_alarms_right (p0 : T_Alarm) : Option (Bool) :=
 (loopC (F_alarms_right_L1 p0) 0).bind fun o2 =>
 Sum.elim (fun j3 =>
 some false)
 (fun j4 =>
 ((F_lists_In p0.Priority 1 4).bind fun x12 =>
 bif (!x12) then
 some true
 else
 (F_lists_In p0.Count 1 2147483648).bind fun x15 =>
 some (!x15)).bind fun o11 =>
 bif o11 then
 some false
 else
 bif p0.Active then
 some (decide (p0.Ended = 0))
 else
 (F_lists_In p0.Ended p0.Raised 2147483648).bind fun x19 =>
 bif x19 then
 some (!p0.Acked)
 else
 some false) o2

noncomputable def F_cmp_isNaN_int_ (p0 : Int) : Option (Bool) :=
 some (decide (p0 ≠ p0))

noncomputable def F_cmp_Compare_int_ (p0 : Int) (p1 : Int) : Option (Int) :=
 (F_cmp_isNaN_int_ p0).bind fun x1 =>
 (F_cmp_isNaN_int_ p1).bind fun x3 =>
 bif x1 then
 bif x3 then
 some 0
 else
 some (-1)
 else
 bif x3 then
 some 1
 else
 bif (decide (p0 < p1)) then
 some (-1)
 else
 bif (decide (p1 < p0)) then
 some 1
 else
 some 0

noncomputable def F_cmp_Or_int__L1 (p0 : List Int) (s1 : Int) : Option (Int ⊕ (Int ⊕ Unit)) :=
 bif (decide (s1 < ((p0).length : Int))) then
 (getI p0 s1).bind fun x6 =>
 bif (decide (x6 ≠ 0)) then
 some (Sum.inr (Sum.inl x6))
 else
 some (Sum.inl (IntKind.i64.wrap (s1 + 1)))
 else
 some (Sum.inr (Sum.inr ()))

noncomputable def F_cmp_Or_int_ (p0 : List Int) : Option (Int) :=
 (loopC (F_cmp_Or_int__L1 p0) 0).bind fun o2 =>
 Sum.elim (fun j3 =>
 some j3)
 (fun j4 =>
 some 0) o2

noncomputable def F_alarms_compare (p0 : T_Alarm) (p1 : T_alarms_name) : Option (Int) :=
 (F_cmp_Compare_int_ p0.Kind p1.kind).bind fun x1 =>
 (F_cmp_Compare_int_ p0.Subject p1.subject).bind fun x3 =>
 (F_cmp_Or_int_ [x1, x3]).bind fun x5 =>
 some x5

noncomputable def F_alarms_Valid_L1 (p0 : List T_Alarm) (s2 : Int) : Option (Int ⊕ (Unit ⊕ Unit)) :=
 bif (decide (s2 < ((p0).length : Int))) then
 (getI p0 s2).bind fun x7 =>
 ((F_alarms_right x7).bind fun x10 =>
 bif (!x10) then
 some true
 else
 bif (decide (0 < s2)) then
 (getI p0 (IntKind.i64.wrap (s2 - 1))).bind fun x14 =>
 (F_alarms_compare x14 (T_alarms_name.mk x7.Kind x7.Subject)).bind fun x16 =>
 some (decide (0 ≤ x16))
 else
 some false).bind fun o9 =>
 bif o9 then
 some (Sum.inr (Sum.inl ()))
 else
 some (Sum.inl (IntKind.i64.wrap (s2 + 1)))
 else
 some (Sum.inr (Sum.inr ()))

noncomputable def F_alarms_Valid (p0 : List T_Alarm) : Option (Bool) :=
 bif (decide (64 < ((p0).length : Int))) then
 some false
 else
 (loopC (F_alarms_Valid_L1 p0) 0).bind fun o3 =>
 Sum.elim (fun j4 =>
 some false)
 (fun j5 =>
 some true) o3

noncomputable def F_slices_Clone___api_Alarm_api_Alarm_ (p0 : List T_Alarm) : Option (List T_Alarm) :=
 (appI 64 ([] : List T_Alarm) p0).bind fun x3 =>
 some x3

noncomputable def F_slices_Reverse___api_Alarm_api_Alarm__L1  (s2 : Int × Int × List T_Alarm) : Option ((Int × Int × List T_Alarm) ⊕ (List T_Alarm)) :=
 bif (decide (s2.1 < s2.2.1)) then
 (getI s2.2.2 s2.2.1).bind fun x5 =>
 (getI s2.2.2 s2.1).bind fun x7 =>
 (getI s2.2.2 s2.1).bind fun x9 =>
 (getI (s2.2.2.set ((s2.1).toNat) x5) s2.2.1).bind fun x11 =>
 some (Sum.inl ((IntKind.i64.wrap (s2.1 + 1)), (IntKind.i64.wrap (s2.2.1 - 1)), ((s2.2.2.set ((s2.1).toNat) x5).set ((s2.2.1).toNat) x7)))
 else
 some (Sum.inr s2.2.2)

noncomputable def F_slices_Reverse___api_Alarm_api_Alarm_ (p0 : List T_Alarm) : Option (List T_Alarm) :=
 (loopC F_slices_Reverse___api_Alarm_api_Alarm__L1 (0, (IntKind.i64.wrap (((p0).length : Int) - 1)), p0)).bind fun o3 =>
 some o3

noncomputable def F_slices_Insert___api_Alarm_api_Alarm_E (p0 : List T_Alarm) (p1 : Int) (p2 : List T_Alarm) : Option (List T_Alarm × List T_Alarm) :=
 (sliI p0 p1 ((p0).length : Int)).bind fun x2 =>
 bif (decide (((p2).length : Int) = 0)) then
 some (p0, p2)
 else
 bif (decide (p1 = ((p0).length : Int))) then
 (appI 64 p0 p2).bind fun x6 =>
 some (x6, p2)
 else
 none

noncomputable def F_slices_Insert___api_Alarm_api_Alarm_ (p0 : List T_Alarm) (p1 : Int) (p2 : List T_Alarm) : Option (List T_Alarm) :=
 bif decide (0 ≤ p1 ∧ p1 ≤ (p0.length : Int) ∧ p2.length = 1 ∧ (p0.length + 1) * 64 ≤ 140737488355328 ∧ (p0.length + 1) * 9 ≤ 140737488355328) then
 some (p0.take p1.toNat ++ p2 ++ p0.drop p1.toNat)
 else
 none

noncomputable def F_slices_BinarySearchFunc___api_Alarm_api_Alarm_alarms_name___alarms_compare_L1 (p0 : List T_Alarm) (p1 : T_alarms_name) (s1 : Int × Int) : Option ((Int × Int) ⊕ Int) :=
 bif (decide (s1.2 < s1.1)) then
 (getI p0 (IntKind.i64.wrap ((IntKind.u64.wrap (IntKind.i64.wrap (s1.2 + s1.1))) / 2))).bind fun x4 =>
 (F_alarms_compare x4 p1).bind fun x6 =>
 bif (decide (x6 < 0)) then
 some (Sum.inl (s1.1, (IntKind.i64.wrap ((IntKind.i64.wrap ((IntKind.u64.wrap (IntKind.i64.wrap (s1.2 + s1.1))) / 2)) + 1))))
 else
 some (Sum.inl ((IntKind.i64.wrap ((IntKind.u64.wrap (IntKind.i64.wrap (s1.2 + s1.1))) / 2)), s1.2))
 else
 some (Sum.inr s1.2)

noncomputable def F_slices_BinarySearchFunc___api_Alarm_api_Alarm_alarms_name___alarms_compare (p0 : List T_Alarm) (p1 : T_alarms_name) : Option (Int × Bool) :=
 (loopC (F_slices_BinarySearchFunc___api_Alarm_api_Alarm_alarms_name___alarms_compare_L1 p0 p1) (((p0).length : Int), 0)).bind fun o2 =>
 bif (decide (o2 < ((p0).length : Int))) then
 (getI p0 o2).bind fun x10 =>
 (F_alarms_compare x10 p1).bind fun x12 =>
 some (o2, (decide (x12 = 0)))
 else
 some (o2, false)

noncomputable def F_alarms_Raise (p0 : List T_Alarm) (p1 : Int) (p2 : Int) (p3 : Int) (p4 : Int) : Option (List T_Alarm × Int) :=
 (F_alarms_Valid p0).bind fun x1 =>
 bif (!x1) then
 some (p0, 6)
 else
 ((F_lists_In p1 0 2147483648).bind fun x5 =>
 bif (!x5) then
 some true
 else
 (F_lists_In p2 0 2147483648).bind fun x8 =>
 bif (!x8) then
 some true
 else
 (F_lists_In p3 1 4).bind fun x11 =>
 some (!x11)).bind fun o4 =>
 bif o4 then
 some (p0, 1)
 else
 (F_slices_BinarySearchFunc___api_Alarm_api_Alarm_alarms_name___alarms_compare p0 (T_alarms_name.mk p1 p2)).bind fun x14 =>
 ((F_lists_In p4 0 2147483648).bind fun x17 =>
 bif (!x17) then
 some true
 else
 bif x14.2 then
 (getI p0 x14.1).bind fun x21 =>
 bif (decide (p4 < x21.Raised)) then
 some true
 else
 (getI p0 x14.1).bind fun x24 =>
 some (decide (p4 < x24.Ended))
 else
 some false).bind fun o16 =>
 bif o16 then
 some (p0, 8)
 else
 bif (!x14.2) then
 bif (decide (((p0).length : Int) = 64)) then
 some (p0, 2)
 else
 (F_slices_Clone___api_Alarm_api_Alarm_ p0).bind fun x29 =>
 (F_slices_Insert___api_Alarm_api_Alarm_ x29 x14.1 [(T_Alarm.mk p1 p2 p3 p4 0 true false 0 1)]).bind fun x31 =>
 some (x31, 0)
 else
 (F_slices_Clone___api_Alarm_api_Alarm_ p0).bind fun x33 =>
 (getI x33 x14.1).bind fun x35 =>
 (bif (!x35.Active) then
 some (x33.set ((x14.1).toNat) (T_Alarm.mk p1 p2 p3 p4 0 true false 0 (min (IntKind.i64.wrap (x35.Count + 1)) 2147483648)))
 else
 bif (decide (p3 < x35.Priority)) then
 some ((x33.set ((x14.1).toNat) (T_Alarm.mk x35.Kind x35.Subject p3 x35.Raised x35.Ended x35.Active x35.Acked x35.Hidden x35.Count)).set ((x14.1).toNat) (T_Alarm.mk x35.Kind x35.Subject p3 x35.Raised x35.Ended x35.Active x35.Acked 0 x35.Count))
 else
 some x33).bind fun o37 =>
 some (o37, 0)

noncomputable def F_alarms_find (p0 : List T_Alarm) (p1 : Int) (p2 : Int) : Option (Int × Int) :=
 (F_alarms_Valid p0).bind fun x1 =>
 bif (!x1) then
 some (0, 6)
 else
 (F_slices_BinarySearchFunc___api_Alarm_api_Alarm_alarms_name___alarms_compare p0 (T_alarms_name.mk p1 p2)).bind fun x4 =>
 bif (!x4.2) then
 some (0, 53)
 else
 some (x4.1, 0)

noncomputable def F_slices_Delete___api_Alarm_api_Alarm_ (p0 : List T_Alarm) (p1 : Int) (p2 : Int) : Option (List T_Alarm) :=
 bif decide (0 ≤ p1 ∧ p1 < (p0.length : Int) ∧ p2 = p1 + 1) then
 some (p0.take p1.toNat ++ p0.drop (p1.toNat + 1))
 else
 none

noncomputable def F_alarms_put (p0 : List T_Alarm) (p1 : Int) (p2 : T_Alarm) : Option (List T_Alarm) :=
 (F_slices_Clone___api_Alarm_api_Alarm_ p0).bind fun x1 =>
 (bif (!p2.Active) then
 some p2.Acked
 else
 some false).bind fun o3 =>
 bif o3 then
 (F_slices_Delete___api_Alarm_api_Alarm_ x1 p1 (IntKind.i64.wrap (p1 + 1))).bind fun x6 =>
 some x6
 else
 (getI x1 p1).bind fun x8 =>
 some (x1.set ((p1).toNat) p2)

noncomputable def F_alarms_End (p0 : List T_Alarm) (p1 : Int) (p2 : Int) (p3 : Int) : Option (List T_Alarm × Int) :=
 (F_alarms_find p0 p1 p2).bind fun x1 =>
 bif (decide (x1.2 ≠ 0)) then
 some (p0, x1.2)
 else
 (getI p0 x1.1).bind fun x4 =>
 bif (!x4.Active) then
 some (p0, 10)
 else
 (F_lists_In p3 x4.Raised 2147483648).bind fun x7 =>
 bif (!x7) then
 some (p0, 8)
 else
 (F_alarms_put p0 x1.1 (T_Alarm.mk x4.Kind x4.Subject x4.Priority x4.Raised p3 false x4.Acked x4.Hidden x4.Count)).bind fun x10 =>
 some (x10, 0)

noncomputable def F_alarms_Acknowledge (p0 : List T_Alarm) (p1 : Int) (p2 : Int) : Option (List T_Alarm × Int) :=
 (F_alarms_find p0 p1 p2).bind fun x1 =>
 bif (decide (x1.2 ≠ 0)) then
 some (p0, x1.2)
 else
 (getI p0 x1.1).bind fun x4 =>
 bif x4.Acked then
 some (p0, 10)
 else
 (F_alarms_put p0 x1.1 (T_Alarm.mk x4.Kind x4.Subject x4.Priority x4.Raised x4.Ended x4.Active true x4.Hidden x4.Count)).bind fun x7 =>
 some (x7, 0)

noncomputable def F_alarms_Shown_1 (p0 : T_Alarm) : Option (Int) :=
 bif p0.Acked then
 some 1
 else
 some 0

noncomputable def F_alarms_Shown_2 (p0 : T_Alarm) (p1 : T_Alarm) : Option (Int) :=
 (F_cmp_Compare_int_ p0.Priority p1.Priority).bind fun x1 =>
 (F_alarms_Shown_1 p0).bind fun x3 =>
 (F_alarms_Shown_1 p1).bind fun x5 =>
 (F_cmp_Compare_int_ x3 x5).bind fun x7 =>
 (F_cmp_Compare_int_ p1.Raised p0.Raised).bind fun x9 =>
 (F_cmp_Or_int_ [x1, x7, x9]).bind fun x11 =>
 some x11

noncomputable def F_slices_insertionSortCmpFunc_api_Alarm___alarms_Shown_2_L2 (p1 : Int) (s5 : Int × List T_Alarm) : Option ((Int × List T_Alarm) ⊕ (List T_Alarm)) :=
 (bif (decide (p1 < s5.1)) then
 (getI s5.2 s5.1).bind fun x9 =>
 (getI s5.2 (IntKind.i64.wrap (s5.1 - 1))).bind fun x11 =>
 (F_alarms_Shown_2 x9 x11).bind fun x13 =>
 some (decide (x13 < 0))
 else
 some false).bind fun o7 =>
 bif o7 then
 (getI s5.2 (IntKind.i64.wrap (s5.1 - 1))).bind fun x16 =>
 (getI s5.2 s5.1).bind fun x18 =>
 (getI s5.2 s5.1).bind fun x20 =>
 (getI (s5.2.set ((s5.1).toNat) x16) (IntKind.i64.wrap (s5.1 - 1))).bind fun x22 =>
 some (Sum.inl ((IntKind.i64.wrap (s5.1 - 1)), ((s5.2.set ((s5.1).toNat) x16).set (((IntKind.i64.wrap (s5.1 - 1))).toNat) x18)))
 else
 some (Sum.inr s5.2)

noncomputable def F_slices_insertionSortCmpFunc_api_Alarm___alarms_Shown_2_L1 (p1 : Int) (p2 : Int) (s2 : Int × List T_Alarm) : Option ((Int × List T_Alarm) ⊕ (List T_Alarm)) :=
 bif (decide (s2.1 < p2)) then
 (loopC (F_slices_insertionSortCmpFunc_api_Alarm___alarms_Shown_2_L2 p1) (s2.1, s2.2)).bind fun o6 =>
 some (Sum.inl ((IntKind.i64.wrap (s2.1 + 1)), o6))
 else
 some (Sum.inr s2.2)

noncomputable def F_slices_insertionSortCmpFunc_api_Alarm___alarms_Shown_2 (p0 : List T_Alarm) (p1 : Int) (p2 : Int) : Option (List T_Alarm) :=
 (loopC (F_slices_insertionSortCmpFunc_api_Alarm___alarms_Shown_2_L1 p1 p2) ((IntKind.i64.wrap (p1 + 1)), p0)).bind fun o3 =>
 some o3

noncomputable def F_slices_stableCmpFunc_api_Alarm___alarms_Shown_2_L1 (p1 : Int) (s2 : Int × Int × List T_Alarm) : Option ((Int × Int × List T_Alarm) ⊕ (Int × List T_Alarm)) :=
 bif (decide (s2.2.1 ≤ p1)) then
 (F_slices_insertionSortCmpFunc_api_Alarm___alarms_Shown_2 s2.2.2 s2.1 s2.2.1).bind fun x5 =>
 some (Sum.inl (s2.2.1, (IntKind.i64.wrap (s2.2.1 + 20)), x5))
 else
 some (Sum.inr (s2.1, s2.2.2))

noncomputable def F_slices_stableCmpFunc_api_Alarm___alarms_Shown_2_L3 (p1 : Int) (s10 : Int) (s13 : Unit) : Option (Unit ⊕ Unit) :=
 bif (decide ((IntKind.i64.wrap (2 * s10)) ≤ p1)) then
 none
 else
 some (Sum.inr ())

noncomputable def F_slices_stableCmpFunc_api_Alarm___alarms_Shown_2_L2 (p1 : Int) (s10 : Int) : Option (Int ⊕ Unit) :=
 bif (decide (s10 < p1)) then
 (loopC (F_slices_stableCmpFunc_api_Alarm___alarms_Shown_2_L3 p1 s10) ()).bind fun o14 =>
 bif (decide ((IntKind.i64.wrap (0 + s10)) < p1)) then
 none
 else
 some (Sum.inl (IntKind.i64.wrap (s10 * 2)))
 else
 some (Sum.inr ())

noncomputable def F_slices_stableCmpFunc_api_Alarm___alarms_Shown_2 (p0 : List T_Alarm) (p1 : Int) : Option (List T_Alarm) :=
 (loopC (F_slices_stableCmpFunc_api_Alarm___alarms_Shown_2_L1 p1) (0, 20, p0)).bind fun o3 =>
 (F_slices_insertionSortCmpFunc_api_Alarm___alarms_Shown_2 o3.2 o3.1 p1).bind fun x8 =>
 (loopC (F_slices_stableCmpFunc_api_Alarm___alarms_Shown_2_L2 p1) 20).bind fun o11 =>
 some x8

noncomputable def F_slices_SortStableFunc___api_Alarm_api_Alarm___alarms_Shown_2 (p0 : List T_Alarm) : Option (List T_Alarm) :=
 (F_slices_stableCmpFunc_api_Alarm___alarms_Shown_2 p0 ((p0).length : Int)).bind fun x2 =>
 some x2

noncomputable def F_alarms_Shown_L1 (p0 : List T_Alarm) (p1 : Int) (s1 : Int × List T_Alarm) : Option ((Int × List T_Alarm) ⊕ (List T_Alarm)) :=
 bif (decide (s1.1 < ((p0).length : Int))) then
 ((getI p0 s1.1).bind fun x5 =>
 bif (decide (x5.Hidden ≤ p1)) then
 (appI 64 s1.2 [x5]).bind fun x8 =>
 some x8
 else
 some s1.2).bind fun o4 =>
 some (Sum.inl ((IntKind.i64.wrap (s1.1 + 1)), o4))
 else
 some (Sum.inr s1.2)

noncomputable def F_alarms_Shown (p0 : List T_Alarm) (p1 : Int) : Option (List T_Alarm) :=
 (loopC (F_alarms_Shown_L1 p0 p1) (0, ([] : List T_Alarm))).bind fun o2 =>
 (F_slices_SortStableFunc___api_Alarm_api_Alarm___alarms_Shown_2 o2).bind fun x10 =>
 some x10

noncomputable def F_law41_awake  : Option (Bool) :=
 (F_alarms_Raise ([] : List T_Alarm) 2 7 3 10).bind fun x1 =>
 (F_alarms_End x1.1 2 7 20).bind fun x3 =>
 (F_alarms_Acknowledge x3.1 2 7).bind fun x5 =>
 (F_alarms_Acknowledge x1.1 2 7).bind fun x7 =>
 (F_alarms_End x7.1 2 7 20).bind fun x9 =>
 bif (decide (x1.2 = 0)) then
 bif (decide (x3.2 = 0)) then
 bif (decide (x5.2 = 0)) then
 bif (decide (x7.2 = 0)) then
 bif (decide (x9.2 = 0)) then
 bif (decide (((x1.1).length : Int) = 1)) then
 bif (decide (((x3.1).length : Int) = 1)) then
 bif (decide (((x5.1).length : Int) = 0)) then
 bif (decide (((x7.1).length : Int) = 1)) then
 bif (decide (((x9.1).length : Int) = 0)) then
 (F_alarms_Shown x1.1 10).bind fun x21 =>
 some (decide (((x21).length : Int) = 1))
 else
 some false
 else
 some false
 else
 some false
 else
 some false
 else
 some false
 else
 some false
 else
 some false
 else
 some false
 else
 some false
 else
 some false

noncomputable def F_made_Roll (p0 : List Int) : Option (T_made_Dice) :=
 some (T_made_Dice.mk p0 0)

noncomputable def F_made_Mod (p0 : Int) (p1 : Int) : Option (Int) :=
 bif (decide (p1 < 1)) then
 some 0
 else
 (remI p0 p1).bind fun x2 =>
 (bif (decide (x2 < 0)) then
 some (IntKind.i64.wrap (x2 + p1))
 else
 some x2).bind fun o4 =>
 some o4

noncomputable def F_made_Dice_Next (p0 : T_made_Dice) (p1 : Int) : Option (T_made_Dice × Int) :=
 bif (decide (((p0.L).length : Int) ≤ p0.At)) then
 some (p0, 0)
 else
 (getI p0.L (IntKind.i64.wrap ((IntKind.i64.wrap (p0.At + 1)) - 1))).bind fun x2 =>
 (F_made_Mod x2 p1).bind fun x4 =>
 some ((T_made_Dice.mk p0.L (IntKind.i64.wrap (p0.At + 1))), x4)

noncomputable def F_alarms_Hide (p0 : List T_Alarm) (p1 : Int) (p2 : Int) (p3 : Int) : Option (List T_Alarm × Int) :=
 (F_alarms_find p0 p1 p2).bind fun x1 =>
 bif (decide (x1.2 ≠ 0)) then
 some (p0, x1.2)
 else
 (getI p0 x1.1).bind fun x4 =>
 (F_lists_In p3 0 2147483648).bind fun x6 =>
 bif (!x6) then
 some (p0, 8)
 else
 bif (decide (x4.Priority = 1)) then
 some (p0, 10)
 else
 (F_alarms_put p0 x1.1 (T_Alarm.mk x4.Kind x4.Subject x4.Priority x4.Raised x4.Ended x4.Active x4.Acked p3 x4.Count)).bind fun x10 =>
 some (x10, 0)

noncomputable def F_made_Dice_One (p0 : T_made_Dice) (p1 : Int) : Option (T_made_Dice × Bool) :=
 (F_made_Dice_Next p0 p1).bind fun x1 =>
 some (x1.1, (decide (x1.2 = (IntKind.i64.wrap (p1 - 1)))))

noncomputable def F_law41_AlarmsStay_L2 (o23 : List T_Alarm × Bool × Bool × Bool × T_made_Dice) (o53 : Bool × Bool) (s55 : Bool × Int) : Option ((Bool × Int) ⊕ (Unit ⊕ Bool)) :=
 bif (decide (s55.2 < ((o23.1).length : Int))) then
 (((getI o23.1 s55.2).bind fun x64 =>
 bif (decide (x64.Kind = 1)) then
 (getI o23.1 s55.2).bind fun x67 =>
 some (decide (x67.Subject = 5))
 else
 some false).bind fun o63 =>
 bif o63 then
 ((getI o23.1 s55.2).bind fun x71 =>
 bif (x71.Active != o23.2.2.1) then
 some true
 else
 (getI o23.1 s55.2).bind fun x74 =>
 some (x74.Acked != o53.2)).bind fun o70 =>
 bif o70 then
 some (Sum.inl ())
 else
 some (Sum.inr true)
 else
 some (Sum.inr s55.1)).bind fun o60 =>
 Sum.elim (fun j61 =>
 some (Sum.inr (Sum.inl ())))
 (fun j62 =>
 some (Sum.inl (j62, (IntKind.i64.wrap (s55.2 + 1))))) o60
 else
 some (Sum.inr (Sum.inr s55.1))

noncomputable def F_law41_AlarmsStay_L1  (s10 : List T_Alarm × Int × Bool × Bool × Bool × Int × T_made_Dice) : Option ((List T_Alarm × Int × Bool × Bool × Bool × Int × T_made_Dice) ⊕ (Unit ⊕ Unit)) :=
 bif (decide (0 < s10.2.2.2.2.2.1)) then
 (F_made_Dice_Next s10.2.2.2.2.2.2 20).bind fun x15 =>
 (F_made_Dice_One x15.1 3).bind fun x17 =>
 (bif x17.2 then
 some 6
 else
 some 5).bind fun o19 =>
 (F_made_Dice_Next x17.1 4).bind fun x21 =>
 (bif (decide (x21.2 = 0)) then
 (F_made_Dice_Next x21.1 4).bind fun x25 =>
 (F_alarms_Raise s10.1 1 o19 (IntKind.i64.wrap (1 + x25.2)) (IntKind.i64.wrap (s10.2.1 + x15.2))).bind fun x27 =>
 (bif (decide (x27.2 = 0)) then
 some (!x17.2)
 else
 some false).bind fun o29 =>
 bif o29 then
 (bif s10.2.2.2.2.1 then
 some s10.2.2.2.1
 else
 some false).bind fun o32 =>
 some (x27.1, true, true, o32, x25.1)
 else
 some (x27.1, s10.2.2.1, s10.2.2.2.1, s10.2.2.2.2.1, x25.1)
 else
 bif (decide (x21.2 = 1)) then
 (F_alarms_End s10.1 1 o19 (IntKind.i64.wrap (s10.2.1 + x15.2))).bind fun x35 =>
 (bif (decide (x35.2 = 0)) then
 some (!x17.2)
 else
 some false).bind fun o37 =>
 bif o37 then
 some (x35.1, s10.2.2.1, false, s10.2.2.2.2.1, x21.1)
 else
 some (x35.1, s10.2.2.1, s10.2.2.2.1, s10.2.2.2.2.1, x21.1)
 else
 bif (decide (x21.2 = 2)) then
 (F_alarms_Acknowledge s10.1 1 o19).bind fun x41 =>
 (bif (decide (x41.2 = 0)) then
 some (!x17.2)
 else
 some false).bind fun o43 =>
 bif o43 then
 some (x41.1, s10.2.2.1, s10.2.2.2.1, true, x21.1)
 else
 some (x41.1, s10.2.2.1, s10.2.2.2.1, s10.2.2.2.2.1, x21.1)
 else
 (F_made_Dice_Next x21.1 50).bind fun x46 =>
 (F_alarms_Hide s10.1 1 o19 (IntKind.i64.wrap ((IntKind.i64.wrap (s10.2.1 + x15.2)) + x46.2))).bind fun x48 =>
 some (x48.1, s10.2.2.1, s10.2.2.2.1, s10.2.2.2.2.1, x46.1)).bind fun o23 =>
 (bif o23.2.1 then
 bif (!o23.2.2.1) then
 some o23.2.2.2.1
 else
 some false
 else
 some false).bind fun o50 =>
 (bif o50 then
 some (false, false)
 else
 some (o23.2.1, o23.2.2.2.1)).bind fun o53 =>
 (loopC (F_law41_AlarmsStay_L2 o23 o53) (false, 0)).bind fun o56 =>
 Sum.elim (fun j57 =>
 some (Sum.inr (Sum.inl ())))
 (fun j58 =>
 (bif (j58 != o53.1) then
 some true
 else
 (F_alarms_Valid o23.1).bind fun x79 =>
 some (!x79)).bind fun o77 =>
 bif o77 then
 some (Sum.inr (Sum.inl ()))
 else
 some (Sum.inl (o23.1, (IntKind.i64.wrap (s10.2.1 + x15.2)), o53.1, o23.2.2.1, o53.2, (IntKind.i64.wrap (s10.2.2.2.2.2.1 - 1)), o23.2.2.2.2))) o56
 else
 some (Sum.inr (Sum.inr ()))

noncomputable def F_law41_AlarmsStay (p0 : List Int) : Option (Bool) :=
 (F_made_Light p0).bind fun x1 =>
 bif (!x1) then
 (F_law41_awake).bind fun x4 =>
 some x4
 else
 (F_made_Roll p0).bind fun x6 =>
 (F_made_Dice_Next x6 40).bind fun x8 =>
 (loopC F_law41_AlarmsStay_L1 (([] : List T_Alarm), 0, false, false, false, x8.2, x8.1)).bind fun o11 =>
 Sum.elim (fun j12 =>
 some false)
 (fun j13 =>
 (F_law41_awake).bind fun x82 =>
 some x82) o11

end Go.L
