/- Printed by wip/lift/lift.py: the functions of the program, as partial functions of plain data. -/
import Derived.Test.YtnjkcobofoiogaaAmlZ
namespace Go.L
open Go Go.Aml

structure T_Record where
 Kind : Int
 Subject : Int
 Value : Int
 Time : Int
 deriving DecidableEq
def T_Record.enc (x : T_Record) : PV := .agg [.int .i64 x.Kind, .int .i64 x.Subject, .int .i64 x.Value, .int .i64 x.Time]
abbrev zC (x : T_Record) : List PV := [.int .i64 x.Kind, .int .i64 x.Subject, .int .i64 x.Value, .int .i64 x.Time]
abbrev zD (x : T_Record) (v : Nat) : AObj := ⟨32, 4, [.agg (zC x)], v⟩
theorem T_Record.enc_lt (x : T_Record) : LtN 0 x.enc := lt_agg ⟨.int _ _, .int _ _, .int _ _, .int _ _, trivial⟩

structure T_Disk where
 Safe : List Int
 Loose : List Int
 deriving DecidableEq
def T_Disk.enc (x : T_Disk) : PV := .agg [.vs 1 (List.map (PV.int .u8) x.Safe), .vs 1 (List.map (PV.int .u8) x.Loose)]
abbrev zE (x : T_Disk) : List PV := [.vs 1 (List.map (PV.int .u8) x.Safe), .vs 1 (List.map (PV.int .u8) x.Loose)]
abbrev zF (x : T_Disk) (v : Nat) : AObj := ⟨49, 2, [.agg (zE x)], v⟩
theorem T_Disk.enc_lt (x : T_Disk) : LtN 0 x.enc := lt_agg ⟨.vs _ _, .vs _ _, trivial⟩

structure A2_Int where
 a0 : Int
 a1 : Int
 deriving DecidableEq
def A2_Int.enc (x : A2_Int) : PV := .agg [.int .i64 x.a0, .int .i64 x.a1]
theorem A2_Int.enc_lt (x : A2_Int) : LtN 0 x.enc := lt_agg ⟨.int _ _, .int _ _, trivial⟩

structure T_Facts where
 Cut : List Int
 Shot : Int
 Alarms : List A2_Int
 deriving DecidableEq
def T_Facts.enc (x : T_Facts) : PV := .agg [.vs 1 (List.map (PV.int .i64) x.Cut), .int .i64 x.Shot, .vs 2 (List.map A2_Int.enc x.Alarms)]
abbrev zA (x : T_Facts) : List PV := [.vs 1 (List.map (PV.int .i64) x.Cut), .int .i64 x.Shot, .vs 2 (List.map A2_Int.enc x.Alarms)]
abbrev zB (x : T_Facts) (v : Nat) : AObj := ⟨35, 3, [.agg (zA x)], v⟩
theorem T_Facts.enc_lt (x : T_Facts) : LtN 0 x.enc := lt_agg ⟨.vs _ _, .int _ _, .vs _ _, trivial⟩

structure T_made_Dice where
 L : List Int
 At : Int
 deriving DecidableEq
def T_made_Dice.enc (x : T_made_Dice) : PV := .agg [.vs 1 (List.map (PV.int .i64) x.L), .int .i64 x.At]
abbrev zG (x : T_made_Dice) : List PV := [.vs 1 (List.map (PV.int .i64) x.L), .int .i64 x.At]
abbrev zH (x : T_made_Dice) (v : Nat) : AObj := ⟨65, 2, [.agg (zG x)], v⟩
theorem T_made_Dice.enc_lt (x : T_made_Dice) : LtN 0 x.enc := lt_agg ⟨.vs _ _, .int _ _, trivial⟩

structure A4_Bool where
 a0 : Bool
 a1 : Bool
 a2 : Bool
 a3 : Bool
 deriving DecidableEq
def A4_Bool.enc (x : A4_Bool) : PV := .agg [.bool x.a0, .bool x.a1, .bool x.a2, .bool x.a3]
theorem A4_Bool.enc_lt (x : A4_Bool) : LtN 0 x.enc := lt_agg ⟨.bool _, .bool _, .bool _, .bool _, trivial⟩

structure A4_A4_Bool where
 a0 : A4_Bool
 a1 : A4_Bool
 a2 : A4_Bool
 a3 : A4_Bool
 deriving DecidableEq
def A4_A4_Bool.enc (x : A4_A4_Bool) : PV := .agg [.bool x.a0.a0, .bool x.a0.a1, .bool x.a0.a2, .bool x.a0.a3, .bool x.a1.a0, .bool x.a1.a1, .bool x.a1.a2, .bool x.a1.a3, .bool x.a2.a0, .bool x.a2.a1, .bool x.a2.a2, .bool x.a2.a3, .bool x.a3.a0, .bool x.a3.a1, .bool x.a3.a2, .bool x.a3.a3]
theorem A4_A4_Bool.enc_lt (x : A4_A4_Bool) : LtN 0 x.enc := lt_agg ⟨.bool _, .bool _, .bool _, .bool _, .bool _, .bool _, .bool _, .bool _, .bool _, .bool _, .bool _, .bool _, .bool _, .bool _, .bool _, .bool _, trivial⟩

def T_Record.Wf (x : T_Record) : Prop := (In .i64) x.Kind ∧ (In .i64) x.Subject ∧ (In .i64) x.Value ∧ (In .i64) x.Time ∧ True
def T_Disk.Wf (x : T_Disk) : Prop := (InL (In .u8)) x.Safe ∧ (InL (In .u8)) x.Loose ∧ True
def A2_Int.Wf (x : A2_Int) : Prop := (In .i64) x.a0 ∧ (In .i64) x.a1 ∧ True
def T_Facts.Wf (x : T_Facts) : Prop := (InL (In .i64)) x.Cut ∧ (In .i64) x.Shot ∧ (InL A2_Int.Wf) x.Alarms ∧ True
def T_made_Dice.Wf (x : T_made_Dice) : Prop := (InL (In .i64)) x.L ∧ (In .i64) x.At ∧ True
def A4_Bool.Wf (x : A4_Bool) : Prop := (fun _ => True) x.a0 ∧ (fun _ => True) x.a1 ∧ (fun _ => True) x.a2 ∧ (fun _ => True) x.a3 ∧ True
def A4_A4_Bool.Wf (x : A4_A4_Bool) : Prop := A4_Bool.Wf x.a0 ∧ A4_Bool.Wf x.a1 ∧ A4_Bool.Wf x.a2 ∧ A4_Bool.Wf x.a3 ∧ True

noncomputable def F_made_Light (p0 : List Int) : Option (Bool) :=
 some (decide (((p0).length : Int) ≤ 400))

noncomputable def F_lists_In (p0 : Int) (p1 : Int) (p2 : Int) : Option (Bool) :=
 bif (decide (p1 ≤ p0)) then
 some (decide (p0 ≤ p2))
 else
 some false

noncomputable def F_controlroom_Valid (p0 : T_Record) : Option (Bool) :=
 (bif (decide (p0.Kind = 3)) then
 some 4
 else
 some 2147483648).bind fun o1 =>
 (F_lists_In p0.Kind 1 5).bind fun x3 =>
 bif x3 then
 (F_lists_In p0.Subject 0 2147483648).bind fun x6 =>
 bif x6 then
 (F_lists_In p0.Value 0 o1).bind fun x9 =>
 bif x9 then
 (F_lists_In p0.Time 0 2147483648).bind fun x12 =>
 some x12
 else
 some false
 else
 some false
 else
 some false

noncomputable def F_lists_Put_L1 (p1 : Int) (s1 : Int × List Int) : Option ((Int × List Int) ⊕ (List Int)) :=
 bif (decide (0 ≤ s1.1)) then
 (shrI .u64 p1 (IntKind.u64.wrap (IntKind.i64.wrap (8 * s1.1)))).bind fun x4 =>
 (appI 1 s1.2 [(IntKind.u8.wrap x4)]).bind fun x6 =>
 some (Sum.inl ((IntKind.i64.wrap (s1.1 - 1)), x6))
 else
 some (Sum.inr s1.2)

noncomputable def F_lists_Put (p0 : List Int) (p1 : Int) (p2 : Int) : Option (List Int) :=
 (loopC (F_lists_Put_L1 p1) ((IntKind.i64.wrap (p2 - 1)), p0)).bind fun o2 =>
 some o2

noncomputable def F_controlroom_total_L1 (p0 : List Int) (s1 : Int × Int) : Option ((Int × Int) ⊕ Int) :=
 bif (decide (s1.2 < ((p0).length : Int))) then
 (getI p0 s1.2).bind fun x4 =>
 some (Sum.inl ((IntKind.u8.wrap (s1.1 + x4)), (IntKind.i64.wrap (s1.2 + 1))))
 else
 some (Sum.inr s1.1)

noncomputable def F_controlroom_total (p0 : List Int) : Option (Int) :=
 (loopC (F_controlroom_total_L1 p0) (0, 0)).bind fun o2 =>
 some o2

noncomputable def F_controlroom_Bytes (p0 : T_Record) : Option (List Int × Int) :=
 (F_controlroom_Valid p0).bind fun x1 =>
 bif (!x1) then
 some (([] : List Int), 6)
 else
 (F_lists_Put [82] (IntKind.u64.wrap p0.Kind) 8).bind fun x4 =>
 (F_lists_Put x4 (IntKind.u64.wrap p0.Subject) 6).bind fun x6 =>
 (F_lists_Put x6 (IntKind.u64.wrap p0.Value) 8).bind fun x8 =>
 (F_lists_Put x8 (IntKind.u64.wrap p0.Time) 8).bind fun x10 =>
 (F_controlroom_total x10).bind fun x12 =>
 (appI 1 x10 [(IntKind.u8.wrap (90 - x12))]).bind fun x14 =>
 some (x14, 0)

noncomputable def F_lists_Number_L1 (p0 : List Int) (s1 : Int × Int) : Option ((Int × Int) ⊕ Int) :=
 bif (decide (s1.2 < ((p0).length : Int))) then
 (getI p0 s1.2).bind fun x4 =>
 some (Sum.inl ((bits .or .u64 (IntKind.u64.wrap (s1.1 * 256)) (IntKind.u64.wrap x4)), (IntKind.i64.wrap (s1.2 + 1))))
 else
 some (Sum.inr s1.1)

noncomputable def F_lists_Number (p0 : List Int) : Option (Int) :=
 (loopC (F_lists_Number_L1 p0) (0, 0)).bind fun o2 =>
 some o2

noncomputable def F_controlroom_one_1 (p0 : List Int) : Option (Int) :=
 (F_lists_Number p0).bind fun x1 =>
 some (IntKind.i64.wrap (min x1 2147483649))

noncomputable def F_controlroom_one (p0 : List Int) : Option (T_Record × Bool) :=
 ((getI p0 0).bind fun x2 =>
 bif (decide (x2 ≠ 82)) then
 some true
 else
 (F_controlroom_total p0).bind fun x5 =>
 some (decide (x5 ≠ 90))).bind fun o1 =>
 bif o1 then
 some ((T_Record.mk 0 0 0 0), false)
 else
 (sliI p0 1 9).bind fun x8 =>
 (F_controlroom_one_1 x8).bind fun x10 =>
 (sliI p0 9 15).bind fun x12 =>
 (F_controlroom_one_1 x12).bind fun x14 =>
 (sliI p0 15 23).bind fun x16 =>
 (F_controlroom_one_1 x16).bind fun x18 =>
 (sliI p0 23 31).bind fun x20 =>
 (F_controlroom_one_1 x20).bind fun x22 =>
 (F_controlroom_Valid (T_Record.mk x10 x14 x18 x22)).bind fun x24 =>
 some ((T_Record.mk x10 x14 x18 x22), x24)

noncomputable def F_controlroom_Read_L1 (p0 : List Int) (s1 : List T_Record) : Option ((List T_Record) ⊕ (List T_Record)) :=
 (bif (decide (((s1).length : Int) < 2048)) then
 some (decide (32 ≤ (IntKind.i64.wrap (((p0).length : Int) - (IntKind.i64.wrap (32 * ((s1).length : Int)))))))
 else
 some false).bind fun o3 =>
 bif o3 then
 (sliI p0 (IntKind.i64.wrap (32 * ((s1).length : Int))) ((p0).length)).bind fun x6 =>
 (sliI x6 0 32).bind fun x8 =>
 (F_controlroom_one x8).bind fun x10 =>
 bif (!x10.2) then
 some (Sum.inr s1)
 else
 (appI 32 s1 [x10.1]).bind fun x13 =>
 some (Sum.inl x13)
 else
 some (Sum.inr s1)

noncomputable def F_controlroom_Read (p0 : List Int) : Option (List T_Record × Int) :=
 (loopC (F_controlroom_Read_L1 p0) ([] : List T_Record)).bind fun o2 =>
 some (o2, (IntKind.i64.wrap (32 * ((o2).length : Int))))

noncomputable def F_slices_Clone___byte_byte_ (p0 : List Int) : Option (List Int) :=
 (appI 1 ([] : List Int) p0).bind fun x3 =>
 some x3

noncomputable def F_slices_Grow___byte_byte_ (p1 : Int) : Option Unit :=
 bif decide (0 ≤ p1 ∧ p1 ≤ 140737488355328 ∧ p1 * 1 ≤ 140737488355328) then
 some ()
 else
 none

noncomputable def F_slices_Concat___byte_byte__L1 (p0 : List (List Int)) (s1 : Int × Int) : Option ((Int × Int) ⊕ Int) :=
 bif (decide (s1.1 < ((p0).length : Int))) then
 (getI p0 s1.1).bind fun x4 =>
 bif (decide ((IntKind.i64.wrap (s1.2 + ((x4).length : Int))) < 0)) then
 none
 else
 some (Sum.inl ((IntKind.i64.wrap (s1.1 + 1)), (IntKind.i64.wrap (s1.2 + ((x4).length : Int)))))
 else
 some (Sum.inr s1.2)

noncomputable def F_slices_Concat___byte_byte__L2 (p0 : List (List Int)) (s9 : Int × List Int) : Option ((Int × List Int) ⊕ (List Int)) :=
 bif (decide (s9.1 < ((p0).length : Int))) then
 (getI p0 s9.1).bind fun x12 =>
 (appI 1 s9.2 x12).bind fun x14 =>
 some (Sum.inl ((IntKind.i64.wrap (s9.1 + 1)), x14))
 else
 some (Sum.inr s9.2)

noncomputable def F_slices_Concat___byte_byte_ (p0 : List (List Int)) : Option (List Int) :=
 (loopC (F_slices_Concat___byte_byte__L1 p0) (0, 0)).bind fun o2 =>
 (F_slices_Grow___byte_byte_ o2).bind fun x7 =>
 (loopC (F_slices_Concat___byte_byte__L2 p0) (0, ([] : List Int))).bind fun o10 =>
 some o10

noncomputable def F_controlroom_Write (p0 : T_Disk) (p1 : T_Record) : Option (T_Disk × Int) :=
 (F_controlroom_Bytes p1).bind fun x1 =>
 bif (decide (x1.2 ≠ 0)) then
 some (p0, x1.2)
 else
 (F_controlroom_Read p0.Safe).bind fun x4 =>
 bif (decide (x4.2 ≠ ((p0.Safe).length : Int))) then
 some (p0, 54)
 else
 bif (decide (65536 < (IntKind.i64.wrap ((IntKind.i64.wrap (((p0.Safe).length : Int) + ((p0.Loose).length : Int))) + ((x1.1).length : Int))))) then
 some (p0, 2)
 else
 (F_slices_Clone___byte_byte_ p0.Safe).bind fun x8 =>
 (F_slices_Concat___byte_byte_ [p0.Loose, x1.1]).bind fun x10 =>
 some ((T_Disk.mk x8 x10), 0)

noncomputable def F_controlroom_Sync (p0 : T_Disk) : Option (T_Disk) :=
 (F_slices_Concat___byte_byte_ [p0.Safe, p0.Loose]).bind fun x1 =>
 some (T_Disk.mk x1 ([] : List Int))

noncomputable def F_controlroom_Crash (p0 : T_Disk) (p1 : Int) (p2 : Int) : Option (T_Disk) :=
 (sliI p0.Loose 0 (max 0 (min p1 ((p0.Loose).length : Int)))).bind fun x1 =>
 (F_slices_Concat___byte_byte_ [p0.Safe, x1]).bind fun x3 =>
 (bif (decide (0 < (max 0 (min p1 ((p0.Loose).length : Int))))) then
 (getI x3 (IntKind.i64.wrap (((x3).length : Int) - 1))).bind fun x7 =>
 (getI x3 (IntKind.i64.wrap (((x3).length : Int) - 1))).bind fun x9 =>
 some (x3.set (((IntKind.i64.wrap (((x3).length : Int) - 1))).toNat) (bits .xor .u8 x7 p2))
 else
 some x3).bind fun o5 =>
 some (T_Disk.mk o5 ([] : List Int))

noncomputable def F_slices_Reverse___int_int__L1  (s2 : Int × Int × List Int) : Option ((Int × Int × List Int) ⊕ (List Int)) :=
 bif (decide (s2.1 < s2.2.1)) then
 (getI s2.2.2 s2.2.1).bind fun x5 =>
 (getI s2.2.2 s2.1).bind fun x7 =>
 (getI s2.2.2 s2.1).bind fun x9 =>
 (getI (s2.2.2.set ((s2.1).toNat) x5) s2.2.1).bind fun x11 =>
 some (Sum.inl ((IntKind.i64.wrap (s2.1 + 1)), (IntKind.i64.wrap (s2.2.1 - 1)), ((s2.2.2.set ((s2.1).toNat) x5).set ((s2.2.1).toNat) x7)))
 else
 some (Sum.inr s2.2.2)

noncomputable def F_slices_Reverse___int_int_ (p0 : List Int) : Option (List Int) :=
 (loopC F_slices_Reverse___int_int__L1 (0, (IntKind.i64.wrap (((p0).length : Int) - 1)), p0)).bind fun o3 =>
 some o3

noncomputable def F_slices_Insert___int_int_E (p0 : List Int) (p1 : Int) (p2 : List Int) : Option (List Int × List Int) :=
 (sliI p0 p1 ((p0).length : Int)).bind fun x2 =>
 bif (decide (((p2).length : Int) = 0)) then
 some (p0, p2)
 else
 bif (decide (p1 = ((p0).length : Int))) then
 (appI 8 p0 p2).bind fun x6 =>
 some (x6, p2)
 else
 none

noncomputable def F_slices_Insert___int_int_ (p0 : List Int) (p1 : Int) (p2 : List Int) : Option (List Int) :=
 bif decide (0 ≤ p1 ∧ p1 ≤ (p0.length : Int) ∧ p2.length = 1 ∧ (p0.length + 1) * 8 ≤ 140737488355328 ∧ (p0.length + 1) * 1 ≤ 140737488355328) then
 some (p0.take p1.toNat ++ p2 ++ p0.drop p1.toNat)
 else
 none

noncomputable def F_slices_Delete___int_int_ (p0 : List Int) (p1 : Int) (p2 : Int) : Option (List Int) :=
 bif decide (0 ≤ p1 ∧ p1 < (p0.length : Int) ∧ p2 = p1 + 1) then
 some (p0.take p1.toNat ++ p0.drop (p1.toNat + 1))
 else
 none

noncomputable def F_cmp_isNaN_int_ (p0 : Int) : Option (Bool) :=
 some (decide (p0 ≠ p0))

noncomputable def F_cmp_Compare_int_ (p0 : Int) (p1 : Int) : Option (Int) :=
 (F_cmp_isNaN_int_ p0).bind fun x1 =>
 (F_cmp_isNaN_int_ p1).bind fun x3 =>
 bif x1 then
 bif x3 then
 some 0
 else
 some (-1)
 else
 bif x3 then
 some 1
 else
 bif (decide (p0 < p1)) then
 some (-1)
 else
 bif (decide (p1 < p0)) then
 some 1
 else
 some 0

noncomputable def F_slices_Reverse____2_int__2_int__L1  (s2 : Int × Int × List A2_Int) : Option ((Int × Int × List A2_Int) ⊕ (List A2_Int)) :=
 bif (decide (s2.1 < s2.2.1)) then
 (getI s2.2.2 s2.2.1).bind fun x5 =>
 (getI s2.2.2 s2.1).bind fun x7 =>
 (getI s2.2.2 s2.1).bind fun x9 =>
 (getI (s2.2.2.set ((s2.1).toNat) x5) s2.2.1).bind fun x11 =>
 some (Sum.inl ((IntKind.i64.wrap (s2.1 + 1)), (IntKind.i64.wrap (s2.2.1 - 1)), ((s2.2.2.set ((s2.1).toNat) x5).set ((s2.2.1).toNat) x7)))
 else
 some (Sum.inr s2.2.2)

noncomputable def F_slices_Reverse____2_int__2_int_ (p0 : List A2_Int) : Option (List A2_Int) :=
 (loopC F_slices_Reverse____2_int__2_int__L1 (0, (IntKind.i64.wrap (((p0).length : Int) - 1)), p0)).bind fun o3 =>
 some o3

noncomputable def F_slices_Insert____2_int__2_int_E (p0 : List A2_Int) (p1 : Int) (p2 : List A2_Int) : Option (List A2_Int × List A2_Int) :=
 (sliI p0 p1 ((p0).length : Int)).bind fun x2 =>
 bif (decide (((p2).length : Int) = 0)) then
 some (p0, p2)
 else
 bif (decide (p1 = ((p0).length : Int))) then
 (appI 16 p0 p2).bind fun x6 =>
 some (x6, p2)
 else
 none

noncomputable def F_slices_Insert____2_int__2_int_ (p0 : List A2_Int) (p1 : Int) (p2 : List A2_Int) : Option (List A2_Int) :=
 bif decide (0 ≤ p1 ∧ p1 ≤ (p0.length : Int) ∧ p2.length = 1 ∧ (p0.length + 1) * 16 ≤ 140737488355328 ∧ (p0.length + 1) * 2 ≤ 140737488355328) then
 some (p0.take p1.toNat ++ p2 ++ p0.drop p1.toNat)
 else
 none

noncomputable def F_slices_Delete____2_int__2_int_ (p0 : List A2_Int) (p1 : Int) (p2 : Int) : Option (List A2_Int) :=
 bif decide (0 ≤ p1 ∧ p1 < (p0.length : Int) ∧ p2 = p1 + 1) then
 some (p0.take p1.toNat ++ p0.drop (p1.toNat + 1))
 else
 none

noncomputable def F_cmp_Or_int__L1 (p0 : List Int) (s1 : Int) : Option (Int ⊕ (Int ⊕ Unit)) :=
 bif (decide (s1 < ((p0).length : Int))) then
 (getI p0 s1).bind fun x6 =>
 bif (decide (x6 ≠ 0)) then
 some (Sum.inr (Sum.inl x6))
 else
 some (Sum.inl (IntKind.i64.wrap (s1 + 1)))
 else
 some (Sum.inr (Sum.inr ()))

noncomputable def F_cmp_Or_int_ (p0 : List Int) : Option (Int) :=
 (loopC (F_cmp_Or_int__L1 p0) 0).bind fun o2 =>
 Sum.elim (fun j3 =>
 some j3)
 (fun j4 =>
 some 0) o2

noncomputable def F_controlroom_order (p0 : A2_Int) (p1 : A2_Int) : Option (Int) :=
 (F_cmp_Compare_int_ p0.a0 p1.a0).bind fun x1 =>
 (F_cmp_Compare_int_ p0.a1 p1.a1).bind fun x3 =>
 (F_cmp_Or_int_ [x1, x3]).bind fun x5 =>
 some x5

noncomputable def F_slices_BinarySearchFunc___int_int_int___cmp_Compare_int__L1 (p0 : List Int) (p1 : Int) (s1 : Int × Int) : Option ((Int × Int) ⊕ Int) :=
 bif (decide (s1.2 < s1.1)) then
 (getI p0 (IntKind.i64.wrap ((IntKind.u64.wrap (IntKind.i64.wrap (s1.2 + s1.1))) / 2))).bind fun x4 =>
 (F_cmp_Compare_int_ x4 p1).bind fun x6 =>
 bif (decide (x6 < 0)) then
 some (Sum.inl (s1.1, (IntKind.i64.wrap ((IntKind.i64.wrap ((IntKind.u64.wrap (IntKind.i64.wrap (s1.2 + s1.1))) / 2)) + 1))))
 else
 some (Sum.inl ((IntKind.i64.wrap ((IntKind.u64.wrap (IntKind.i64.wrap (s1.2 + s1.1))) / 2)), s1.2))
 else
 some (Sum.inr s1.2)

noncomputable def F_slices_BinarySearchFunc___int_int_int___cmp_Compare_int_ (p0 : List Int) (p1 : Int) : Option (Int × Bool) :=
 (loopC (F_slices_BinarySearchFunc___int_int_int___cmp_Compare_int__L1 p0 p1) (((p0).length : Int), 0)).bind fun o2 =>
 bif (decide (o2 < ((p0).length : Int))) then
 (getI p0 o2).bind fun x10 =>
 (F_cmp_Compare_int_ x10 p1).bind fun x12 =>
 some (o2, (decide (x12 = 0)))
 else
 some (o2, false)

noncomputable def F_controlroom_set_int___cmp_Compare_int_ (p0 : List Int) (p1 : Int) (p3 : Bool) : Option (List Int) :=
 (F_slices_BinarySearchFunc___int_int_int___cmp_Compare_int_ p0 p1).bind fun x1 =>
 (bif p3 then
 some (!x1.2)
 else
 some false).bind fun o3 =>
 bif o3 then
 (F_slices_Insert___int_int_ p0 x1.1 [p1]).bind fun x6 =>
 some x6
 else
 (bif (!p3) then
 some x1.2
 else
 some false).bind fun o8 =>
 bif o8 then
 (F_slices_Delete___int_int_ p0 x1.1 (IntKind.i64.wrap (x1.1 + 1))).bind fun x11 =>
 some x11
 else
 some p0

noncomputable def F_slices_BinarySearchFunc____2_int__2_int__2_int___controlroom_order_L1 (p0 : List A2_Int) (p1 : A2_Int) (s1 : Int × Int) : Option ((Int × Int) ⊕ Int) :=
 bif (decide (s1.2 < s1.1)) then
 (getI p0 (IntKind.i64.wrap ((IntKind.u64.wrap (IntKind.i64.wrap (s1.2 + s1.1))) / 2))).bind fun x4 =>
 (F_controlroom_order x4 p1).bind fun x6 =>
 bif (decide (x6 < 0)) then
 some (Sum.inl (s1.1, (IntKind.i64.wrap ((IntKind.i64.wrap ((IntKind.u64.wrap (IntKind.i64.wrap (s1.2 + s1.1))) / 2)) + 1))))
 else
 some (Sum.inl ((IntKind.i64.wrap ((IntKind.u64.wrap (IntKind.i64.wrap (s1.2 + s1.1))) / 2)), s1.2))
 else
 some (Sum.inr s1.2)

noncomputable def F_slices_BinarySearchFunc____2_int__2_int__2_int___controlroom_order (p0 : List A2_Int) (p1 : A2_Int) : Option (Int × Bool) :=
 (loopC (F_slices_BinarySearchFunc____2_int__2_int__2_int___controlroom_order_L1 p0 p1) (((p0).length : Int), 0)).bind fun o2 =>
 bif (decide (o2 < ((p0).length : Int))) then
 (getI p0 o2).bind fun x10 =>
 (F_controlroom_order x10 p1).bind fun x12 =>
 some (o2, (decide (x12 = 0)))
 else
 some (o2, false)

noncomputable def F_controlroom_set__2_int___controlroom_order (p0 : List A2_Int) (p1 : A2_Int) (p3 : Bool) : Option (List A2_Int) :=
 (F_slices_BinarySearchFunc____2_int__2_int__2_int___controlroom_order p0 p1).bind fun x1 =>
 (bif p3 then
 some (!x1.2)
 else
 some false).bind fun o3 =>
 bif o3 then
 (F_slices_Insert____2_int__2_int_ p0 x1.1 [p1]).bind fun x6 =>
 some x6
 else
 (bif (!p3) then
 some x1.2
 else
 some false).bind fun o8 =>
 bif o8 then
 (F_slices_Delete____2_int__2_int_ p0 x1.1 (IntKind.i64.wrap (x1.1 + 1))).bind fun x11 =>
 some x11
 else
 some p0

noncomputable def F_controlroom_Replay_L1 (p0 : List T_Record) (s1 : Int × T_Facts) : Option ((Int × T_Facts) ⊕ T_Facts) :=
 bif (decide (s1.1 < ((p0).length : Int))) then
 ((getI p0 s1.1).bind fun x5 =>
 (F_controlroom_Valid x5).bind fun x7 =>
 bif (!x7) then
 some s1.2
 else
 (bif (decide (x5.Kind = 1)) then
 some ((decide (x5.Kind = 1)), s1.2)
 else
 some ((decide (x5.Kind = 2)), s1.2)).bind fun o10 =>
 bif o10.1 then
 (F_controlroom_set_int___cmp_Compare_int_ o10.2.Cut x5.Subject (decide (x5.Kind = 1))).bind fun x13 =>
 some (T_Facts.mk x13 o10.2.Shot o10.2.Alarms)
 else
 bif (decide (x5.Kind = 3)) then
 some (T_Facts.mk o10.2.Cut x5.Value o10.2.Alarms)
 else
 (F_controlroom_set__2_int___controlroom_order o10.2.Alarms (A2_Int.mk x5.Value x5.Subject) (decide (x5.Kind = 4))).bind fun x16 =>
 some (T_Facts.mk o10.2.Cut o10.2.Shot x16)).bind fun o4 =>
 some (Sum.inl ((IntKind.i64.wrap (s1.1 + 1)), o4))
 else
 some (Sum.inr s1.2)

noncomputable def F_controlroom_Replay (p0 : List T_Record) : Option (T_Facts) :=
 (loopC (F_controlroom_Replay_L1 p0) (0, (T_Facts.mk ([] : List Int) 0 ([] : List A2_Int)))).bind fun o2 =>
 some o2

noncomputable def F_controlroom_Restart (p0 : T_Disk) : Option (T_Facts × Int) :=
 (F_controlroom_Read p0.Safe).bind fun x1 =>
 (F_controlroom_Replay x1.1).bind fun x3 =>
 some (x3, (IntKind.i64.wrap (((p0.Safe).length : Int) - x1.2)))

noncomputable def F_law42_awake  : Option (Bool) :=
 (F_controlroom_Write (T_Disk.mk ([] : List Int) ([] : List Int)) (T_Record.mk 1 3 0 5)).bind fun x1 =>
 (F_controlroom_Sync x1.1).bind fun x3 =>
 (F_controlroom_Write x3 (T_Record.mk 2 3 0 9)).bind fun x5 =>
 (F_controlroom_Crash x5.1 10 0).bind fun x7 =>
 (F_controlroom_Restart x7).bind fun x9 =>
 bif (decide (x1.2 = 0)) then
 bif (decide (x5.2 = 0)) then
 bif (decide (((x5.1.Safe).length : Int) = 32)) then
 bif (decide (((x5.1.Loose).length : Int) = 32)) then
 bif (decide (x9.2 = 10)) then
 bif (decide (((x9.1.Cut).length : Int) = 1)) then
 (getI x9.1.Cut 0).bind fun x17 =>
 some (decide (x17 = 3))
 else
 some false
 else
 some false
 else
 some false
 else
 some false
 else
 some false
 else
 some false

noncomputable def F_made_Roll (p0 : List Int) : Option (T_made_Dice) :=
 some (T_made_Dice.mk p0 0)

noncomputable def F_made_Mod (p0 : Int) (p1 : Int) : Option (Int) :=
 bif (decide (p1 < 1)) then
 some 0
 else
 (remI p0 p1).bind fun x2 =>
 (bif (decide (x2 < 0)) then
 some (IntKind.i64.wrap (x2 + p1))
 else
 some x2).bind fun o4 =>
 some o4

noncomputable def F_made_Dice_Next (p0 : T_made_Dice) (p1 : Int) : Option (T_made_Dice × Int) :=
 bif (decide (((p0.L).length : Int) ≤ p0.At)) then
 some (p0, 0)
 else
 (getI p0.L (IntKind.i64.wrap ((IntKind.i64.wrap (p0.At + 1)) - 1))).bind fun x2 =>
 (F_made_Mod x2 p1).bind fun x4 =>
 some ((T_made_Dice.mk p0.L (IntKind.i64.wrap (p0.At + 1))), x4)

noncomputable def F_law42_ControlRoomFacts_L1  (s10 : Int × Int × T_made_Dice × List T_Record × A4_Bool × A4_A4_Bool) : Option ((Int × Int × T_made_Dice × List T_Record × A4_Bool × A4_A4_Bool) ⊕ (Int × List T_Record × A4_Bool × A4_A4_Bool)) :=
 bif (decide (0 < s10.2.1)) then
 ((F_made_Dice_Next s10.2.2.1 5).bind fun x14 =>
 (F_made_Dice_Next x14.1 4).bind fun x16 =>
 (F_made_Dice_Next x16.1 4).bind fun x18 =>
 (appI 32 s10.2.2.2.1 [(T_Record.mk (IntKind.i64.wrap (1 + x14.2)) x16.2 x18.2 s10.2.1)]).bind fun x20 =>
 bif (decide ((IntKind.i64.wrap (1 + x14.2)) = 1)) then
 bif (decide (x16.2 = 0)) then
 some (s10.1, x18.1, x20, (A4_Bool.mk true s10.2.2.2.2.1.a1 s10.2.2.2.2.1.a2 s10.2.2.2.2.1.a3), s10.2.2.2.2.2)
 else
 bif (decide (x16.2 = 1)) then
 some (s10.1, x18.1, x20, (A4_Bool.mk s10.2.2.2.2.1.a0 true s10.2.2.2.2.1.a2 s10.2.2.2.2.1.a3), s10.2.2.2.2.2)
 else
 bif (decide (x16.2 = 2)) then
 some (s10.1, x18.1, x20, (A4_Bool.mk s10.2.2.2.2.1.a0 s10.2.2.2.2.1.a1 true s10.2.2.2.2.1.a3), s10.2.2.2.2.2)
 else
 bif (decide (x16.2 = 3)) then
 some (s10.1, x18.1, x20, (A4_Bool.mk s10.2.2.2.2.1.a0 s10.2.2.2.2.1.a1 s10.2.2.2.2.1.a2 true), s10.2.2.2.2.2)
 else
 none
 else
 bif (decide ((IntKind.i64.wrap (1 + x14.2)) = 2)) then
 bif (decide (x16.2 = 0)) then
 some (s10.1, x18.1, x20, (A4_Bool.mk false s10.2.2.2.2.1.a1 s10.2.2.2.2.1.a2 s10.2.2.2.2.1.a3), s10.2.2.2.2.2)
 else
 bif (decide (x16.2 = 1)) then
 some (s10.1, x18.1, x20, (A4_Bool.mk s10.2.2.2.2.1.a0 false s10.2.2.2.2.1.a2 s10.2.2.2.2.1.a3), s10.2.2.2.2.2)
 else
 bif (decide (x16.2 = 2)) then
 some (s10.1, x18.1, x20, (A4_Bool.mk s10.2.2.2.2.1.a0 s10.2.2.2.2.1.a1 false s10.2.2.2.2.1.a3), s10.2.2.2.2.2)
 else
 bif (decide (x16.2 = 3)) then
 some (s10.1, x18.1, x20, (A4_Bool.mk s10.2.2.2.2.1.a0 s10.2.2.2.2.1.a1 s10.2.2.2.2.1.a2 false), s10.2.2.2.2.2)
 else
 none
 else
 bif (decide ((IntKind.i64.wrap (1 + x14.2)) = 3)) then
 some (x18.2, x18.1, x20, s10.2.2.2.2.1, s10.2.2.2.2.2)
 else
 bif (decide ((IntKind.i64.wrap (1 + x14.2)) = 4)) then
 bif (decide (x18.2 = 0)) then
 bif (decide (x16.2 = 0)) then
 some (s10.1, x18.1, x20, s10.2.2.2.2.1, (A4_A4_Bool.mk (A4_Bool.mk true s10.2.2.2.2.2.a0.a1 s10.2.2.2.2.2.a0.a2 s10.2.2.2.2.2.a0.a3) s10.2.2.2.2.2.a1 s10.2.2.2.2.2.a2 s10.2.2.2.2.2.a3))
 else
 bif (decide (x16.2 = 1)) then
 some (s10.1, x18.1, x20, s10.2.2.2.2.1, (A4_A4_Bool.mk (A4_Bool.mk s10.2.2.2.2.2.a0.a0 true s10.2.2.2.2.2.a0.a2 s10.2.2.2.2.2.a0.a3) s10.2.2.2.2.2.a1 s10.2.2.2.2.2.a2 s10.2.2.2.2.2.a3))
 else
 bif (decide (x16.2 = 2)) then
 some (s10.1, x18.1, x20, s10.2.2.2.2.1, (A4_A4_Bool.mk (A4_Bool.mk s10.2.2.2.2.2.a0.a0 s10.2.2.2.2.2.a0.a1 true s10.2.2.2.2.2.a0.a3) s10.2.2.2.2.2.a1 s10.2.2.2.2.2.a2 s10.2.2.2.2.2.a3))
 else
 bif (decide (x16.2 = 3)) then
 some (s10.1, x18.1, x20, s10.2.2.2.2.1, (A4_A4_Bool.mk (A4_Bool.mk s10.2.2.2.2.2.a0.a0 s10.2.2.2.2.2.a0.a1 s10.2.2.2.2.2.a0.a2 true) s10.2.2.2.2.2.a1 s10.2.2.2.2.2.a2 s10.2.2.2.2.2.a3))
 else
 none
 else
 bif (decide (x18.2 = 1)) then
 bif (decide (x16.2 = 0)) then
 some (s10.1, x18.1, x20, s10.2.2.2.2.1, (A4_A4_Bool.mk s10.2.2.2.2.2.a0 (A4_Bool.mk true s10.2.2.2.2.2.a1.a1 s10.2.2.2.2.2.a1.a2 s10.2.2.2.2.2.a1.a3) s10.2.2.2.2.2.a2 s10.2.2.2.2.2.a3))
 else
 bif (decide (x16.2 = 1)) then
 some (s10.1, x18.1, x20, s10.2.2.2.2.1, (A4_A4_Bool.mk s10.2.2.2.2.2.a0 (A4_Bool.mk s10.2.2.2.2.2.a1.a0 true s10.2.2.2.2.2.a1.a2 s10.2.2.2.2.2.a1.a3) s10.2.2.2.2.2.a2 s10.2.2.2.2.2.a3))
 else
 bif (decide (x16.2 = 2)) then
 some (s10.1, x18.1, x20, s10.2.2.2.2.1, (A4_A4_Bool.mk s10.2.2.2.2.2.a0 (A4_Bool.mk s10.2.2.2.2.2.a1.a0 s10.2.2.2.2.2.a1.a1 true s10.2.2.2.2.2.a1.a3) s10.2.2.2.2.2.a2 s10.2.2.2.2.2.a3))
 else
 bif (decide (x16.2 = 3)) then
 some (s10.1, x18.1, x20, s10.2.2.2.2.1, (A4_A4_Bool.mk s10.2.2.2.2.2.a0 (A4_Bool.mk s10.2.2.2.2.2.a1.a0 s10.2.2.2.2.2.a1.a1 s10.2.2.2.2.2.a1.a2 true) s10.2.2.2.2.2.a2 s10.2.2.2.2.2.a3))
 else
 none
 else
 bif (decide (x18.2 = 2)) then
 bif (decide (x16.2 = 0)) then
 some (s10.1, x18.1, x20, s10.2.2.2.2.1, (A4_A4_Bool.mk s10.2.2.2.2.2.a0 s10.2.2.2.2.2.a1 (A4_Bool.mk true s10.2.2.2.2.2.a2.a1 s10.2.2.2.2.2.a2.a2 s10.2.2.2.2.2.a2.a3) s10.2.2.2.2.2.a3))
 else
 bif (decide (x16.2 = 1)) then
 some (s10.1, x18.1, x20, s10.2.2.2.2.1, (A4_A4_Bool.mk s10.2.2.2.2.2.a0 s10.2.2.2.2.2.a1 (A4_Bool.mk s10.2.2.2.2.2.a2.a0 true s10.2.2.2.2.2.a2.a2 s10.2.2.2.2.2.a2.a3) s10.2.2.2.2.2.a3))
 else
 bif (decide (x16.2 = 2)) then
 some (s10.1, x18.1, x20, s10.2.2.2.2.1, (A4_A4_Bool.mk s10.2.2.2.2.2.a0 s10.2.2.2.2.2.a1 (A4_Bool.mk s10.2.2.2.2.2.a2.a0 s10.2.2.2.2.2.a2.a1 true s10.2.2.2.2.2.a2.a3) s10.2.2.2.2.2.a3))
 else
 bif (decide (x16.2 = 3)) then
 some (s10.1, x18.1, x20, s10.2.2.2.2.1, (A4_A4_Bool.mk s10.2.2.2.2.2.a0 s10.2.2.2.2.2.a1 (A4_Bool.mk s10.2.2.2.2.2.a2.a0 s10.2.2.2.2.2.a2.a1 s10.2.2.2.2.2.a2.a2 true) s10.2.2.2.2.2.a3))
 else
 none
 else
 bif (decide (x18.2 = 3)) then
 bif (decide (x16.2 = 0)) then
 some (s10.1, x18.1, x20, s10.2.2.2.2.1, (A4_A4_Bool.mk s10.2.2.2.2.2.a0 s10.2.2.2.2.2.a1 s10.2.2.2.2.2.a2 (A4_Bool.mk true s10.2.2.2.2.2.a3.a1 s10.2.2.2.2.2.a3.a2 s10.2.2.2.2.2.a3.a3)))
 else
 bif (decide (x16.2 = 1)) then
 some (s10.1, x18.1, x20, s10.2.2.2.2.1, (A4_A4_Bool.mk s10.2.2.2.2.2.a0 s10.2.2.2.2.2.a1 s10.2.2.2.2.2.a2 (A4_Bool.mk s10.2.2.2.2.2.a3.a0 true s10.2.2.2.2.2.a3.a2 s10.2.2.2.2.2.a3.a3)))
 else
 bif (decide (x16.2 = 2)) then
 some (s10.1, x18.1, x20, s10.2.2.2.2.1, (A4_A4_Bool.mk s10.2.2.2.2.2.a0 s10.2.2.2.2.2.a1 s10.2.2.2.2.2.a2 (A4_Bool.mk s10.2.2.2.2.2.a3.a0 s10.2.2.2.2.2.a3.a1 true s10.2.2.2.2.2.a3.a3)))
 else
 bif (decide (x16.2 = 3)) then
 some (s10.1, x18.1, x20, s10.2.2.2.2.1, (A4_A4_Bool.mk s10.2.2.2.2.2.a0 s10.2.2.2.2.2.a1 s10.2.2.2.2.2.a2 (A4_Bool.mk s10.2.2.2.2.2.a3.a0 s10.2.2.2.2.2.a3.a1 s10.2.2.2.2.2.a3.a2 true)))
 else
 none
 else
 none
 else
 bif (decide (x18.2 = 0)) then
 bif (decide (x16.2 = 0)) then
 some (s10.1, x18.1, x20, s10.2.2.2.2.1, (A4_A4_Bool.mk (A4_Bool.mk false s10.2.2.2.2.2.a0.a1 s10.2.2.2.2.2.a0.a2 s10.2.2.2.2.2.a0.a3) s10.2.2.2.2.2.a1 s10.2.2.2.2.2.a2 s10.2.2.2.2.2.a3))
 else
 bif (decide (x16.2 = 1)) then
 some (s10.1, x18.1, x20, s10.2.2.2.2.1, (A4_A4_Bool.mk (A4_Bool.mk s10.2.2.2.2.2.a0.a0 false s10.2.2.2.2.2.a0.a2 s10.2.2.2.2.2.a0.a3) s10.2.2.2.2.2.a1 s10.2.2.2.2.2.a2 s10.2.2.2.2.2.a3))
 else
 bif (decide (x16.2 = 2)) then
 some (s10.1, x18.1, x20, s10.2.2.2.2.1, (A4_A4_Bool.mk (A4_Bool.mk s10.2.2.2.2.2.a0.a0 s10.2.2.2.2.2.a0.a1 false s10.2.2.2.2.2.a0.a3) s10.2.2.2.2.2.a1 s10.2.2.2.2.2.a2 s10.2.2.2.2.2.a3))
 else
 bif (decide (x16.2 = 3)) then
 some (s10.1, x18.1, x20, s10.2.2.2.2.1, (A4_A4_Bool.mk (A4_Bool.mk s10.2.2.2.2.2.a0.a0 s10.2.2.2.2.2.a0.a1 s10.2.2.2.2.2.a0.a2 false) s10.2.2.2.2.2.a1 s10.2.2.2.2.2.a2 s10.2.2.2.2.2.a3))
 else
 none
 else
 bif (decide (x18.2 = 1)) then
 bif (decide (x16.2 = 0)) then
 some (s10.1, x18.1, x20, s10.2.2.2.2.1, (A4_A4_Bool.mk s10.2.2.2.2.2.a0 (A4_Bool.mk false s10.2.2.2.2.2.a1.a1 s10.2.2.2.2.2.a1.a2 s10.2.2.2.2.2.a1.a3) s10.2.2.2.2.2.a2 s10.2.2.2.2.2.a3))
 else
 bif (decide (x16.2 = 1)) then
 some (s10.1, x18.1, x20, s10.2.2.2.2.1, (A4_A4_Bool.mk s10.2.2.2.2.2.a0 (A4_Bool.mk s10.2.2.2.2.2.a1.a0 false s10.2.2.2.2.2.a1.a2 s10.2.2.2.2.2.a1.a3) s10.2.2.2.2.2.a2 s10.2.2.2.2.2.a3))
 else
 bif (decide (x16.2 = 2)) then
 some (s10.1, x18.1, x20, s10.2.2.2.2.1, (A4_A4_Bool.mk s10.2.2.2.2.2.a0 (A4_Bool.mk s10.2.2.2.2.2.a1.a0 s10.2.2.2.2.2.a1.a1 false s10.2.2.2.2.2.a1.a3) s10.2.2.2.2.2.a2 s10.2.2.2.2.2.a3))
 else
 bif (decide (x16.2 = 3)) then
 some (s10.1, x18.1, x20, s10.2.2.2.2.1, (A4_A4_Bool.mk s10.2.2.2.2.2.a0 (A4_Bool.mk s10.2.2.2.2.2.a1.a0 s10.2.2.2.2.2.a1.a1 s10.2.2.2.2.2.a1.a2 false) s10.2.2.2.2.2.a2 s10.2.2.2.2.2.a3))
 else
 none
 else
 bif (decide (x18.2 = 2)) then
 bif (decide (x16.2 = 0)) then
 some (s10.1, x18.1, x20, s10.2.2.2.2.1, (A4_A4_Bool.mk s10.2.2.2.2.2.a0 s10.2.2.2.2.2.a1 (A4_Bool.mk false s10.2.2.2.2.2.a2.a1 s10.2.2.2.2.2.a2.a2 s10.2.2.2.2.2.a2.a3) s10.2.2.2.2.2.a3))
 else
 bif (decide (x16.2 = 1)) then
 some (s10.1, x18.1, x20, s10.2.2.2.2.1, (A4_A4_Bool.mk s10.2.2.2.2.2.a0 s10.2.2.2.2.2.a1 (A4_Bool.mk s10.2.2.2.2.2.a2.a0 false s10.2.2.2.2.2.a2.a2 s10.2.2.2.2.2.a2.a3) s10.2.2.2.2.2.a3))
 else
 bif (decide (x16.2 = 2)) then
 some (s10.1, x18.1, x20, s10.2.2.2.2.1, (A4_A4_Bool.mk s10.2.2.2.2.2.a0 s10.2.2.2.2.2.a1 (A4_Bool.mk s10.2.2.2.2.2.a2.a0 s10.2.2.2.2.2.a2.a1 false s10.2.2.2.2.2.a2.a3) s10.2.2.2.2.2.a3))
 else
 bif (decide (x16.2 = 3)) then
 some (s10.1, x18.1, x20, s10.2.2.2.2.1, (A4_A4_Bool.mk s10.2.2.2.2.2.a0 s10.2.2.2.2.2.a1 (A4_Bool.mk s10.2.2.2.2.2.a2.a0 s10.2.2.2.2.2.a2.a1 s10.2.2.2.2.2.a2.a2 false) s10.2.2.2.2.2.a3))
 else
 none
 else
 bif (decide (x18.2 = 3)) then
 bif (decide (x16.2 = 0)) then
 some (s10.1, x18.1, x20, s10.2.2.2.2.1, (A4_A4_Bool.mk s10.2.2.2.2.2.a0 s10.2.2.2.2.2.a1 s10.2.2.2.2.2.a2 (A4_Bool.mk false s10.2.2.2.2.2.a3.a1 s10.2.2.2.2.2.a3.a2 s10.2.2.2.2.2.a3.a3)))
 else
 bif (decide (x16.2 = 1)) then
 some (s10.1, x18.1, x20, s10.2.2.2.2.1, (A4_A4_Bool.mk s10.2.2.2.2.2.a0 s10.2.2.2.2.2.a1 s10.2.2.2.2.2.a2 (A4_Bool.mk s10.2.2.2.2.2.a3.a0 false s10.2.2.2.2.2.a3.a2 s10.2.2.2.2.2.a3.a3)))
 else
 bif (decide (x16.2 = 2)) then
 some (s10.1, x18.1, x20, s10.2.2.2.2.1, (A4_A4_Bool.mk s10.2.2.2.2.2.a0 s10.2.2.2.2.2.a1 s10.2.2.2.2.2.a2 (A4_Bool.mk s10.2.2.2.2.2.a3.a0 s10.2.2.2.2.2.a3.a1 false s10.2.2.2.2.2.a3.a3)))
 else
 bif (decide (x16.2 = 3)) then
 some (s10.1, x18.1, x20, s10.2.2.2.2.1, (A4_A4_Bool.mk s10.2.2.2.2.2.a0 s10.2.2.2.2.2.a1 s10.2.2.2.2.2.a2 (A4_Bool.mk s10.2.2.2.2.2.a3.a0 s10.2.2.2.2.2.a3.a1 s10.2.2.2.2.2.a3.a2 false)))
 else
 none
 else
 none).bind fun o13 =>
 some (Sum.inl (o13.1, (IntKind.i64.wrap (s10.2.1 - 1)), o13.2.1, o13.2.2.1, o13.2.2.2.1, o13.2.2.2.2))
 else
 some (Sum.inr (s10.1, s10.2.2.2.1, s10.2.2.2.2.1, s10.2.2.2.2.2))

noncomputable def F_law42_ControlRoomFacts_L3 (o11 : Int × List T_Record × A4_Bool × A4_A4_Bool) (s76 : Int × Int × Int × T_Facts) (s94 : Int × Int) : Option ((Int × Int) ⊕ (Unit ⊕ Int)) :=
 bif (decide (s94.2 < 4)) then
 ((getI [(), (), (), ()] s76.2.2.1).bind fun x102 =>
 (getI [(), (), (), ()] s94.2).bind fun x104 =>
 (([o11.2.2.2.a0.a0, o11.2.2.2.a0.a1, o11.2.2.2.a0.a2, o11.2.2.2.a0.a3, o11.2.2.2.a1.a0, o11.2.2.2.a1.a1, o11.2.2.2.a1.a2, o11.2.2.2.a1.a3, o11.2.2.2.a2.a0, o11.2.2.2.a2.a1, o11.2.2.2.a2.a2, o11.2.2.2.a2.a3, o11.2.2.2.a3.a0, o11.2.2.2.a3.a1, o11.2.2.2.a3.a2, o11.2.2.2.a3.a3] : List Bool)[0 + (s76.2.2.1).toNat * 4 + (s94.2).toNat * 1]?).bind fun x106 =>
 bif x106 then
 (bif (decide (((s76.2.2.2.Alarms).length : Int) ≤ s94.1)) then
 some true
 else
 (getI s76.2.2.2.Alarms s94.1).bind fun x111 =>
 some (!((x111.a0 == s76.2.2.1) && ((x111.a1 == s94.2) && true)))).bind fun o109 =>
 bif o109 then
 some (Sum.inl ())
 else
 some (Sum.inr (IntKind.i64.wrap (s94.1 + 1)))
 else
 some (Sum.inr s94.1)).bind fun o99 =>
 Sum.elim (fun j100 =>
 some (Sum.inr (Sum.inl ())))
 (fun j101 =>
 some (Sum.inl (j101, (IntKind.i64.wrap (s94.2 + 1))))) o99
 else
 some (Sum.inr (Sum.inr s94.1))

noncomputable def F_law42_ControlRoomFacts_L2 (o11 : Int × List T_Record × A4_Bool × A4_A4_Bool) (s76 : Int × Int × Int × T_Facts) : Option ((Int × Int × Int × T_Facts) ⊕ (Unit ⊕ (Int × Int × T_Facts))) :=
 bif (decide (s76.2.2.1 < 4)) then
 (getI [(), (), (), ()] s76.2.2.1).bind fun x81 =>
 (([o11.2.2.1.a0, o11.2.2.1.a1, o11.2.2.1.a2, o11.2.2.1.a3] : List Bool)[0 + (s76.2.2.1).toNat * 1]?).bind fun x83 =>
 (bif x83 then
 (bif (decide (((s76.2.2.2.Cut).length : Int) ≤ s76.1)) then
 some true
 else
 (getI s76.2.2.2.Cut s76.1).bind fun x91 =>
 some (decide (x91 ≠ s76.2.2.1))).bind fun o89 =>
 bif o89 then
 some (Sum.inl ())
 else
 some (Sum.inr (IntKind.i64.wrap (s76.1 + 1)))
 else
 some (Sum.inr s76.1)).bind fun o85 =>
 Sum.elim (fun j86 =>
 some (Sum.inr (Sum.inl ())))
 (fun j87 =>
 (loopC (F_law42_ControlRoomFacts_L3 o11 s76) (s76.2.1, 0)).bind fun o95 =>
 Sum.elim (fun j96 =>
 some (Sum.inr (Sum.inl ())))
 (fun j97 =>
 some (Sum.inl (j87, j97, (IntKind.i64.wrap (s76.2.2.1 + 1)), s76.2.2.2))) o95) o85
 else
 some (Sum.inr (Sum.inr (s76.1, s76.2.1, s76.2.2.2)))

noncomputable def F_law42_ControlRoomFacts (p0 : List Int) : Option (Bool) :=
 (F_made_Light p0).bind fun x1 =>
 bif (!x1) then
 (F_law42_awake).bind fun x4 =>
 some x4
 else
 (F_made_Roll p0).bind fun x6 =>
 (F_made_Dice_Next x6 30).bind fun x8 =>
 (loopC F_law42_ControlRoomFacts_L1 (0, x8.2, x8.1, ([] : List T_Record), (A4_Bool.mk false false false false), (A4_A4_Bool.mk (A4_Bool.mk false false false false) (A4_Bool.mk false false false false) (A4_Bool.mk false false false false) (A4_Bool.mk false false false false)))).bind fun o11 =>
 (F_controlroom_Replay o11.2.1).bind fun x74 =>
 (loopC (F_law42_ControlRoomFacts_L2 o11) (0, 0, 0, x74)).bind fun o77 =>
 Sum.elim (fun j78 =>
 some false)
 (fun j79 =>
 (F_law42_awake).bind fun x114 =>
 bif x114 then
 bif (decide (j79.1 = ((j79.2.2.Cut).length : Int))) then
 bif (decide (j79.2.1 = ((j79.2.2.Alarms).length : Int))) then
 some (decide (j79.2.2.Shot = o11.1))
 else
 some false
 else
 some false
 else
 some false) o77

end Go.L
