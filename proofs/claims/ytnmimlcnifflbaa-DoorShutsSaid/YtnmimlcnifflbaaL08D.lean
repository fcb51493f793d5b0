/- Printed by wip/lift/lift.py: the functions of the program, as partial functions of plain data. -/
import Derived.Test.YtnmimlcnifflbaaAmlZ
namespace Go.L
open Go Go.Aml

structure T_Door where
  Road : Int
  Other : Int
  Rests : List Int
  deriving DecidableEq
def T_Door.enc (x : T_Door) : PV := .agg [.int .i64 x.Road, .int .i64 x.Other, .vs 1 (List.map (PV.int .i64) x.Rests)]
theorem T_Door.enc_lt (x : T_Door) : LtN 0 x.enc := lt_agg ⟨.int _ _, .int _ _, .vs _ _, trivial⟩

structure T_Span where
  Low : Int
  High : Int
  deriving DecidableEq
def T_Span.enc (x : T_Span) : PV := .agg [.int .i64 x.Low, .int .i64 x.High]
theorem T_Span.enc_lt (x : T_Span) : LtN 0 x.enc := lt_agg ⟨.int _ _, .int _ _, trivial⟩

structure T_draw_Codes where
  l : List Int
  at_ : Int
  deriving DecidableEq
def T_draw_Codes.enc (x : T_draw_Codes) : PV := .agg [.vs 1 (List.map (PV.int .u8) x.l), .int .i64 x.at_]
theorem T_draw_Codes.enc_lt (x : T_draw_Codes) : LtN 0 x.enc := lt_agg ⟨.vs _ _, .int _ _, trivial⟩

def T_Door.Wf (x : T_Door) : Prop := (In .i64) x.Road ∧ (In .i64) x.Other ∧ (InL (In .i64)) x.Rests ∧ True
def T_Span.Wf (x : T_Span) : Prop := (In .i64) x.Low ∧ (In .i64) x.High ∧ True
def T_draw_Codes.Wf (x : T_draw_Codes) : Prop := (InL (In .u8)) x.l ∧ (In .i64) x.at_ ∧ True

noncomputable def F_door_Check_L2 (x7 : T_Door) (s13 : Int × Bool) : Option ((Int × Bool) ⊕ (Unit ⊕ Bool)) :=
  bif (decide (s13.1 < ((x7.Rests).length : Int))) then
    ((getI x7.Rests s13.1).bind fun x21 =>
    (bif (decide (x21 < 0)) then
      some true
    else
      some (decide (262144 < x21))).bind fun o23 =>
    bif o23 then
      some (Sum.inl ())
    else
      bif s13.2 then
        bif (decide (s13.1 = 0)) then
          some (Sum.inr true)
        else
          (getI x7.Rests (IntKind.i64.wrap (s13.1 - 1))).bind fun x28 =>
          some (Sum.inr (decide (x21 < x28)))
      else
        some (Sum.inr false)).bind fun o18 =>
    Sum.elim (fun j19 =>
      some (Sum.inr (Sum.inl ())))
    (fun j20 =>
      some (Sum.inl ((IntKind.i64.wrap (s13.1 + 1)), j20))) o18
  else
    some (Sum.inr (Sum.inr s13.2))

noncomputable def F_door_Check_L1 (p0 : List T_Door) (s2 : Int) : Option (Int ⊕ (Int ⊕ Unit)) :=
  bif (decide (s2 < ((p0).length : Int))) then
    (getI p0 s2).bind fun x7 =>
    bif (decide (x7.Road < 0)) then
      some (Sum.inr (Sum.inl 4))
    else
      (bif (decide (((x7.Rests).length : Int) < 2)) then
        some true
      else
        some (decide (6 < ((x7.Rests).length : Int)))).bind fun o10 =>
      bif o10 then
        some (Sum.inr (Sum.inl 2))
      else
        (loopC (F_door_Check_L2 x7) (0, true)).bind fun o14 =>
        Sum.elim (fun j15 =>
          some (Sum.inr (Sum.inl 1)))
        (fun j16 =>
          bif (!j16) then
            some (Sum.inr (Sum.inl 15))
          else
            (bif (decide (x7.Other ≠ (-1))) then
              bif (decide (x7.Other < 0)) then
                some true
              else
                bif (decide (((p0).length : Int) ≤ x7.Other)) then
                  some true
                else
                  bif (decide (x7.Other = s2)) then
                    some true
                  else
                    (getI p0 x7.Other).bind fun x36 =>
                    some (decide (x36.Other ≠ s2))
            else
              some false).bind fun o31 =>
            bif o31 then
              some (Sum.inr (Sum.inl 15))
            else
              some (Sum.inl (IntKind.i64.wrap (s2 + 1)))) o14
  else
    some (Sum.inr (Sum.inr ()))

noncomputable def F_door_Check (p0 : List T_Door) : Option (Int) :=
  bif (decide (16 < ((p0).length : Int))) then
    some 2
  else
    (loopC (F_door_Check_L1 p0) 0).bind fun o3 =>
    Sum.elim (fun j4 =>
      some j4)
    (fun j5 =>
      some 0) o3

noncomputable def F_door_change (p0 : List T_Door) (p1 : List Int) (p2 : Int) (p3 : Int) (p4 : Int) : Option (Int) :=
  (F_door_Check p0).bind fun x1 =>
  bif (decide (x1 ≠ 0)) then
    some x1
  else
    bif (decide (((p1).length : Int) ≠ ((p0).length : Int))) then
      some 11
    else
      (bif (decide (p2 < 0)) then
        some true
      else
        some (decide (((p0).length : Int) ≤ p2))).bind fun o5 =>
      bif o5 then
        some 15
      else
        (bif (decide (p3 < p4)) then
          some true
        else
          (getI p0 p2).bind fun x10 =>
          some (decide (((x10.Rests).length : Int) ≤ p3))).bind fun o8 =>
        bif o8 then
          some 1
        else
          some 0

noncomputable def F_door_with (p0 : List Int) (p1 : Int) (p2 : Int) : Option (List Int) :=
  (appI 8 ([] : List Int) p0).bind fun x1 =>
  (getI x1 p1).bind fun x3 =>
  some (x1.set ((p1).toNat) p2)

noncomputable def F_door_Command (p0 : List T_Door) (p1 : List Int) (p2 : Int) (p3 : Int) : Option (List Int × Int) :=
  (F_door_change p0 p1 p2 p3 0).bind fun x1 =>
  bif (decide (x1 ≠ 0)) then
    some (([] : List Int), x1)
  else
    (getI p0 p2).bind fun x4 =>
    (bif (decide (p3 ≠ 0)) then
      bif (decide (0 ≤ x4.Other)) then
        (getI p1 x4.Other).bind fun x9 =>
        some (decide (x9 ≠ 0))
      else
        some false
    else
      some false).bind fun o6 =>
    bif o6 then
      some (([] : List Int), 10)
    else
      (F_door_with p1 p2 p3).bind fun x12 =>
      some (x12, 0)

noncomputable def F_slices_Min___int_int__L1 (p0 : List Int) (s4 : Int × Int) : Option ((Int × Int) ⊕ Int) :=
  bif (decide (s4.2 < ((p0).length : Int))) then
    (getI p0 s4.2).bind fun x7 =>
    some (Sum.inl ((min s4.1 x7), (IntKind.i64.wrap (s4.2 + 1))))
  else
    some (Sum.inr s4.1)

noncomputable def F_slices_Min___int_int_ (p0 : List Int) : Option (Int) :=
  bif (decide (((p0).length : Int) < 1)) then
    none
  else
    (getI p0 0).bind fun x2 =>
    (loopC (F_slices_Min___int_int__L1 p0) (x2, 1)).bind fun o5 =>
    some o5

noncomputable def F_slices_Max___int_int__L1 (p0 : List Int) (s4 : Int × Int) : Option ((Int × Int) ⊕ Int) :=
  bif (decide (s4.2 < ((p0).length : Int))) then
    (getI p0 s4.2).bind fun x7 =>
    some (Sum.inl ((max s4.1 x7), (IntKind.i64.wrap (s4.2 + 1))))
  else
    some (Sum.inr s4.1)

noncomputable def F_slices_Max___int_int_ (p0 : List Int) : Option (Int) :=
  bif (decide (((p0).length : Int) < 1)) then
    none
  else
    (getI p0 0).bind fun x2 =>
    (loopC (F_slices_Max___int_int__L1 p0) (x2, 1)).bind fun o5 =>
    some o5

noncomputable def F_door_Rest (p0 : T_Door) (p1 : Int) : Option (T_Span) :=
  (bif (decide (((p0.Rests).length : Int) = 0)) then
    some true
  else
    bif (decide (p1 < (-1))) then
      some true
    else
      some (decide (((p0.Rests).length : Int) ≤ p1))).bind fun o1 =>
  bif o1 then
    some (T_Span.mk 0 0)
  else
    bif (decide (p1 = (-1))) then
      (F_slices_Min___int_int_ p0.Rests).bind fun x6 =>
      (F_slices_Max___int_int_ p0.Rests).bind fun x8 =>
      some (T_Span.mk x6 x8)
    else
      (getI p0.Rests p1).bind fun x10 =>
      (getI p0.Rests p1).bind fun x12 =>
      some (T_Span.mk x10 x12)

noncomputable def F_ref01_Ints_L1 (p0 : List Int) (p1 : List Int) (s2 : Int) : Option (Int ⊕ (Unit ⊕ Unit)) :=
  bif (decide (s2 < ((p0).length : Int))) then
    (getI p0 s2).bind fun x7 =>
    (getI p1 s2).bind fun x9 =>
    bif (decide (x7 ≠ x9)) then
      some (Sum.inr (Sum.inl ()))
    else
      some (Sum.inl (IntKind.i64.wrap (s2 + 1)))
  else
    some (Sum.inr (Sum.inr ()))

noncomputable def F_ref01_Ints (p0 : List Int) (p1 : List Int) : Option (Bool) :=
  bif (decide (((p0).length : Int) ≠ ((p1).length : Int))) then
    some false
  else
    (loopC (F_ref01_Ints_L1 p0 p1) 0).bind fun o3 =>
    Sum.elim (fun j4 =>
      some false)
    (fun j5 =>
      some true) o3

noncomputable def F_door_Open_L1 (p0 : List T_Door) (p1 : List Int) (s6 : Int × List Int) : Option ((Int × List Int) ⊕ (List Int)) :=
  bif (decide (s6.1 < ((p0).length : Int))) then
    ((getI p0 s6.1).bind fun x10 =>
    (bif (decide (0 ≤ x10.Other)) then
      (getI p1 s6.1).bind fun x14 =>
      bif (decide (x14 ≠ 0)) then
        (getI p1 x10.Other).bind fun x17 =>
        some (decide (x17 ≠ 0))
      else
        some false
    else
      some false).bind fun o12 =>
    bif o12 then
      (appI 8 s6.2 [s6.1]).bind fun x20 =>
      some x20
    else
      some s6.2).bind fun o9 =>
    some (Sum.inl ((IntKind.i64.wrap (s6.1 + 1)), o9))
  else
    some (Sum.inr s6.2)

noncomputable def F_door_Open (p0 : List T_Door) (p1 : List Int) : Option (List Int) :=
  ((F_door_Check p0).bind fun x2 =>
  bif (decide (x2 ≠ 0)) then
    some true
  else
    some (decide (((p1).length : Int) ≠ ((p0).length : Int)))).bind fun o1 =>
  bif o1 then
    some ([] : List Int)
  else
    (loopC (F_door_Open_L1 p0 p1) (0, ([] : List Int))).bind fun o7 =>
    some o7

noncomputable def F_law08_awake  : Option (Bool) :=
  (F_door_Command [(T_Door.mk 0 1 [5000, 10]), (T_Door.mk 0 0 [400, 2])] [0, 0] 0 1).bind fun x1 =>
  (F_door_Command [(T_Door.mk 0 1 [5000, 10]), (T_Door.mk 0 0 [400, 2])] [1, 0] 1 1).bind fun x3 =>
  (F_door_Check [(T_Door.mk 0 1 [5000, 10]), (T_Door.mk 0 0 [400, 2])]).bind fun x5 =>
  bif (decide (x5 = 0)) then
    (getI [(T_Door.mk 0 1 [5000, 10]), (T_Door.mk 0 0 [400, 2])] 0).bind fun x8 =>
    (F_door_Rest x8 (-1)).bind fun x10 =>
    bif ((x10.Low == 10) && ((x10.High == 5000) && true)) then
      bif (decide (x1.2 = 0)) then
        (F_ref01_Ints x1.1 [1, 0]).bind fun x14 =>
        bif x14 then
          bif (decide (x3.2 = 10)) then
            (F_door_Open [(T_Door.mk 0 1 [5000, 10]), (T_Door.mk 0 0 [400, 2])] [1, (-1)]).bind fun x18 =>
            (F_ref01_Ints x18 [0, 1]).bind fun x20 =>
            some x20
          else
            some false
        else
          some false
      else
        some false
    else
      some false
  else
    some false

noncomputable def F_draw_New (p0 : List Int) : Option (T_draw_Codes) :=
  (sliI p0 0 (min ((p0).length : Int) 300)).bind fun x1 =>
  some (T_draw_Codes.mk x1 0)

noncomputable def F_draw_Codes_Next (p0 : T_draw_Codes) (p1 : Int) : Option (T_draw_Codes × Int) :=
  (bif (decide (p1 < 1)) then
    some true
  else
    some (decide (((p0.l).length : Int) ≤ p0.at_))).bind fun o1 =>
  bif o1 then
    some (p0, 0)
  else
    (getI p0.l (IntKind.i64.wrap ((IntKind.i64.wrap (p0.at_ + 1)) - 1))).bind fun x4 =>
    (bif (decide (256 < p1)) then
      some (decide ((IntKind.i64.wrap (p0.at_ + 1)) < ((p0.l).length : Int)))
    else
      some false).bind fun o6 =>
    (bif o6 then
      (getI p0.l (IntKind.i64.wrap (p0.at_ + 1))).bind fun x10 =>
      some ((IntKind.i64.wrap ((IntKind.i64.wrap ((IntKind.i64.wrap x4) * 256)) + (IntKind.i64.wrap x10))), (IntKind.i64.wrap ((IntKind.i64.wrap (p0.at_ + 1)) + 1)))
    else
      some ((IntKind.i64.wrap x4), (IntKind.i64.wrap (p0.at_ + 1)))).bind fun o8 =>
    (remI o8.1 p1).bind fun x12 =>
    some ((T_draw_Codes.mk p0.l o8.2), x12)

noncomputable def F_draw_Codes_One (p0 : T_draw_Codes) (p1 : Int) : Option (T_draw_Codes × Bool) :=
  (F_draw_Codes_Next p0 p1).bind fun x1 =>
  some (x1.1, (decide (x1.2 = (IntKind.i64.wrap (p1 - 1)))))

noncomputable def F_draw_Codes_Range (p0 : T_draw_Codes) (p1 : Int) (p2 : Int) : Option (T_draw_Codes × Int) :=
  (F_draw_Codes_Next p0 (IntKind.i64.wrap ((IntKind.i64.wrap (p2 - p1)) + 1))).bind fun x1 =>
  some (x1.1, (IntKind.i64.wrap (p1 + x1.2)))

noncomputable def F_draw_Codes_Door_L1  (s5 : Int × List Int × T_draw_Codes) : Option ((Int × List Int × T_draw_Codes) ⊕ (List Int × T_draw_Codes)) :=
  bif (decide (0 < s5.1)) then
    (getI s5.2.1 (IntKind.i64.wrap (((s5.2.1).length : Int) - 1))).bind fun x8 =>
    (F_draw_Codes_Range s5.2.2 1 60).bind fun x10 =>
    (appI 8 s5.2.1 [(max 0 (IntKind.i64.wrap (x8 - x10.2)))]).bind fun x12 =>
    some (Sum.inl ((IntKind.i64.wrap (s5.1 - 1)), x12, x10.1))
  else
    some (Sum.inr (s5.2.1, s5.2.2))

noncomputable def F_draw_Codes_Door (p0 : T_draw_Codes) (p1 : Int) : Option (T_draw_Codes × T_Door) :=
  (F_draw_Codes_Range p0 200 900).bind fun x1 =>
  (F_draw_Codes_Range x1.1 1 3).bind fun x3 =>
  (loopC F_draw_Codes_Door_L1 (x3.2, [x1.2], x3.1)).bind fun o6 =>
  some (o6.2, (T_Door.mk p1 (-1) o6.1))

noncomputable def F_draw_Codes_DoubleDoor (p0 : T_draw_Codes) (p1 : Int) (p2 : Int) (p3 : Int) : Option (T_draw_Codes × List T_Door) :=
  (F_draw_Codes_Door p0 p2).bind fun x1 =>
  (F_draw_Codes_Door x1.1 p3).bind fun x3 =>
  some (x3.1, [(T_Door.mk x1.2.Road (IntKind.i64.wrap (p1 + 1)) x1.2.Rests), (T_Door.mk x3.2.Road p1 x3.2.Rests)])

noncomputable def F_draw_Mod (p0 : Int) (p1 : Int) : Option (Int) :=
  bif (decide (p1 < 1)) then
    some 0
  else
    (remI p0 p1).bind fun x2 =>
    (bif (decide (x2 < 0)) then
      some (IntKind.i64.wrap (x2 + p1))
    else
      some x2).bind fun o4 =>
    some o4

noncomputable def F_law08_doors_L1  (s5 : Int × T_draw_Codes × List T_Door) : Option ((Int × T_draw_Codes × List T_Door) ⊕ (T_draw_Codes × List T_Door)) :=
  bif (decide (0 < s5.1)) then
    ((F_draw_Codes_One s5.2.1 2).bind fun x9 =>
    bif x9.2 then
      (F_draw_Codes_Next x9.1 3).bind fun x12 =>
      (F_draw_Codes_Next x12.1 3).bind fun x14 =>
      (F_draw_Codes_DoubleDoor x14.1 ((s5.2.2).length : Int) x12.2 x14.2).bind fun x16 =>
      (appI 40 s5.2.2 x16.2).bind fun x18 =>
      some (x16.1, x18)
    else
      (F_draw_Codes_Next x9.1 3).bind fun x20 =>
      (F_draw_Codes_Door x20.1 x20.2).bind fun x22 =>
      (appI 40 s5.2.2 [x22.2]).bind fun x24 =>
      some (x22.1, x24)).bind fun o8 =>
    some (Sum.inl ((IntKind.i64.wrap (s5.1 - 1)), o8.1, o8.2))
  else
    some (Sum.inr (s5.2.1, s5.2.2))

noncomputable def F_law08_doors_L2 (o6 : T_draw_Codes × List T_Door) (s26 : Int × List Int × T_draw_Codes) : Option ((Int × List Int × T_draw_Codes) ⊕ (List Int × T_draw_Codes)) :=
  bif (decide (s26.1 < ((o6.2).length : Int))) then
    (getI o6.2 s26.1).bind fun x29 =>
    (F_draw_Codes_Next s26.2.2 (IntKind.i64.wrap (((x29.Rests).length : Int) + 1))).bind fun x31 =>
    (appI 8 s26.2.1 [(IntKind.i64.wrap (x31.2 - 1))]).bind fun x33 =>
    some (Sum.inl ((IntKind.i64.wrap (s26.1 + 1)), x33, x31.1))
  else
    some (Sum.inr (s26.2.1, s26.2.2))

noncomputable def F_law08_doors (p0 : List Int) (p1 : Int) (p2 : Int) : Option (List T_Door × List Int) :=
  (F_draw_New p0).bind fun x1 =>
  (F_draw_Codes_Next x1 4).bind fun x3 =>
  (loopC F_law08_doors_L1 (x3.2, x3.1, ([] : List T_Door))).bind fun o6 =>
  (loopC (F_law08_doors_L2 o6) (0, ([] : List Int), o6.1)).bind fun o27 =>
  (bif (decide (0 < ((o6.2).length : Int))) then
    (F_draw_Mod p1 ((o6.2).length : Int)).bind fun x37 =>
    (getI o6.2 x37).bind fun x39 =>
    (F_draw_Codes_Next o27.2 10).bind fun x41 =>
    bif (decide (x41.2 = 1)) then
      some (o27.1, (o6.2.set ((x37).toNat) (T_Door.mk x39.Road p2 x39.Rests)))
    else
      bif (decide (x41.2 = 2)) then
        (F_draw_Mod p1 ((x39.Rests).length : Int)).bind fun x45 =>
        (getI x39.Rests x45).bind fun x47 =>
        some (o27.1, (o6.2.set ((x37).toNat) (T_Door.mk x39.Road x39.Other (x39.Rests.set ((x45).toNat) p2))))
      else
        bif (decide (x41.2 = 3)) then
          some (o27.1, (o6.2.set ((x37).toNat) (T_Door.mk p2 x39.Other x39.Rests)))
        else
          bif (decide (x41.2 = 4)) then
            (sliI o27.1 1 ((o27.1).length : Int)).bind fun x51 =>
            some (x51, o6.2)
          else
            some (o27.1, o6.2)
  else
    some (o27.1, o6.2)).bind fun o35 =>
  some (o35.2, o35.1)

noncomputable def F_ref08_Check_L2 (x7 : T_Door) (s13 : Int) : Option (Int ⊕ (Unit ⊕ Unit)) :=
  bif (decide (s13 < ((x7.Rests).length : Int))) then
    ((getI x7.Rests s13).bind fun x19 =>
    bif (decide (x19 < 0)) then
      some true
    else
      (getI x7.Rests s13).bind fun x22 =>
      some (decide (262144 < x22))).bind fun o18 =>
    bif o18 then
      some (Sum.inr (Sum.inl ()))
    else
      some (Sum.inl (IntKind.i64.wrap (s13 + 1)))
  else
    some (Sum.inr (Sum.inr ()))

noncomputable def F_ref08_Check_L3 (x7 : T_Door) (s25 : Int) : Option (Int ⊕ (Unit ⊕ Unit)) :=
  bif (decide (s25 < ((x7.Rests).length : Int))) then
    (getI x7.Rests s25).bind fun x30 =>
    (getI x7.Rests (IntKind.i64.wrap (s25 - 1))).bind fun x32 =>
    bif (decide (x32 ≤ x30)) then
      some (Sum.inr (Sum.inl ()))
    else
      some (Sum.inl (IntKind.i64.wrap (s25 + 1)))
  else
    some (Sum.inr (Sum.inr ()))

noncomputable def F_ref08_Check_L1 (p0 : List T_Door) (s2 : Int) : Option (Int ⊕ (Int ⊕ Unit)) :=
  bif (decide (s2 < ((p0).length : Int))) then
    (getI p0 s2).bind fun x7 =>
    bif (decide (x7.Road < 0)) then
      some (Sum.inr (Sum.inl 4))
    else
      (bif (decide (((x7.Rests).length : Int) < 2)) then
        some true
      else
        some (decide (6 < ((x7.Rests).length : Int)))).bind fun o10 =>
      bif o10 then
        some (Sum.inr (Sum.inl 2))
      else
        (loopC (F_ref08_Check_L2 x7) 0).bind fun o14 =>
        Sum.elim (fun j15 =>
          some (Sum.inr (Sum.inl 1)))
        (fun j16 =>
          (loopC (F_ref08_Check_L3 x7) 1).bind fun o26 =>
          Sum.elim (fun j27 =>
            some (Sum.inr (Sum.inl 15)))
          (fun j28 =>
            (bif (decide (x7.Other ≠ (-1))) then
              bif (decide (x7.Other < 0)) then
                some true
              else
                bif (decide (((p0).length : Int) ≤ x7.Other)) then
                  some true
                else
                  bif (decide (x7.Other = s2)) then
                    some true
                  else
                    (getI p0 x7.Other).bind fun x40 =>
                    some (decide (x40.Other ≠ s2))
            else
              some false).bind fun o35 =>
            bif o35 then
              some (Sum.inr (Sum.inl 15))
            else
              some (Sum.inl (IntKind.i64.wrap (s2 + 1)))) o26) o14
  else
    some (Sum.inr (Sum.inr ()))

noncomputable def F_ref08_Check (p0 : List T_Door) : Option (Int) :=
  bif (decide (16 < ((p0).length : Int))) then
    some 2
  else
    (loopC (F_ref08_Check_L1 p0) 0).bind fun o3 =>
    Sum.elim (fun j4 =>
      some j4)
    (fun j5 =>
      some 0) o3

noncomputable def F_ref08_Rest_L1 (p0 : T_Door) (s14 : Int × T_Span) : Option ((Int × T_Span) ⊕ T_Span) :=
  bif (decide (s14.1 < ((p0.Rests).length : Int))) then
    (getI p0.Rests s14.1).bind fun x17 =>
    (getI p0.Rests s14.1).bind fun x19 =>
    some (Sum.inl ((IntKind.i64.wrap (s14.1 + 1)), (T_Span.mk (min s14.2.Low x17) (max s14.2.High x19))))
  else
    some (Sum.inr s14.2)

noncomputable def F_ref08_Rest (p0 : T_Door) (p1 : Int) : Option (T_Span) :=
  (bif (decide (((p0.Rests).length : Int) = 0)) then
    some true
  else
    bif (decide (p1 < (-1))) then
      some true
    else
      some (decide (((p0.Rests).length : Int) ≤ p1))).bind fun o1 =>
  bif o1 then
    some (T_Span.mk 0 0)
  else
    bif (decide (0 ≤ p1)) then
      (getI p0.Rests p1).bind fun x6 =>
      (getI p0.Rests p1).bind fun x8 =>
      some (T_Span.mk x6 x8)
    else
      (getI p0.Rests 0).bind fun x10 =>
      (getI p0.Rests 0).bind fun x12 =>
      (loopC (F_ref08_Rest_L1 p0) (0, (T_Span.mk x10 x12))).bind fun o15 =>
      some o15

noncomputable def F_law08_DoorChecks_L2 (p4 : Int) (x11 : List T_Door) (s18 : Int) : Option (Int ⊕ (Unit ⊕ Unit)) :=
  bif (decide (s18 < ((x11).length : Int))) then
    (F_draw_Mod p4 9).bind fun x23 =>
    ((getI x11 s18).bind fun x26 =>
    (F_door_Rest x26 p4).bind fun x28 =>
    (getI x11 s18).bind fun x30 =>
    (F_ref08_Rest x30 p4).bind fun x32 =>
    bif (!((x28.Low == x32.Low) && ((x28.High == x32.High) && true))) then
      some true
    else
      (getI x11 s18).bind fun x35 =>
      (F_door_Rest x35 (IntKind.i64.wrap (x23 - 2))).bind fun x37 =>
      (getI x11 s18).bind fun x39 =>
      (F_ref08_Rest x39 (IntKind.i64.wrap (x23 - 2))).bind fun x41 =>
      some (!((x37.Low == x41.Low) && ((x37.High == x41.High) && true)))).bind fun o25 =>
    bif o25 then
      some (Sum.inr (Sum.inl ()))
    else
      some (Sum.inl (IntKind.i64.wrap (s18 + 1)))
  else
    some (Sum.inr (Sum.inr ()))

noncomputable def F_law08_DoorChecks_L1 (p1 : List T_Door) (p4 : Int) (x4 : List T_Door × List Int) (s6 : Int) : Option (Int ⊕ (Unit ⊕ Unit)) :=
  bif (decide (s6 < (([x4.1, p1]).length : Int))) then
    (getI [x4.1, p1] s6).bind fun x11 =>
    (F_door_Check x11).bind fun x13 =>
    (F_ref08_Check x11).bind fun x15 =>
    bif (decide (x13 ≠ x15)) then
      some (Sum.inr (Sum.inl ()))
    else
      (loopC (F_law08_DoorChecks_L2 p4 x11) 0).bind fun o19 =>
      Sum.elim (fun j20 =>
        some (Sum.inr (Sum.inl ())))
      (fun j21 =>
        some (Sum.inl (IntKind.i64.wrap (s6 + 1)))) o19
  else
    some (Sum.inr (Sum.inr ()))

noncomputable def F_law08_DoorChecks (p0 : List Int) (p1 : List T_Door) (p2 : Int) (p3 : Int) (p4 : Int) : Option (Bool) :=
  bif (decide (30 < ((p1).length : Int))) then
    (F_law08_awake).bind fun x2 =>
    some x2
  else
    (F_law08_doors p0 p2 p3).bind fun x4 =>
    (loopC (F_law08_DoorChecks_L1 p1 p4 x4) 0).bind fun o7 =>
    Sum.elim (fun j8 =>
      some false)
    (fun j9 =>
      (F_law08_awake).bind fun x44 =>
      some x44) o7

noncomputable def F_ref08_Open_L1 (p0 : List T_Door) (p1 : List Int) (s6 : Int × List Int) : Option ((Int × List Int) ⊕ (List Int)) :=
  bif (decide (s6.1 < ((p0).length : Int))) then
    ((getI p0 s6.1).bind fun x10 =>
    (bif (decide (0 ≤ x10.Other)) then
      (getI p1 s6.1).bind fun x14 =>
      bif (decide (x14 ≠ 0)) then
        (getI p1 x10.Other).bind fun x17 =>
        some (decide (x17 ≠ 0))
      else
        some false
    else
      some false).bind fun o12 =>
    bif o12 then
      (appI 8 s6.2 [s6.1]).bind fun x20 =>
      some x20
    else
      some s6.2).bind fun o9 =>
    some (Sum.inl ((IntKind.i64.wrap (s6.1 + 1)), o9))
  else
    some (Sum.inr s6.2)

noncomputable def F_ref08_Open (p0 : List T_Door) (p1 : List Int) : Option (List Int) :=
  ((F_ref08_Check p0).bind fun x2 =>
  bif (decide (x2 ≠ 0)) then
    some true
  else
    some (decide (((p1).length : Int) ≠ ((p0).length : Int)))).bind fun o1 =>
  bif o1 then
    some ([] : List Int)
  else
    (loopC (F_ref08_Open_L1 p0 p1) (0, ([] : List Int))).bind fun o7 =>
    some o7

noncomputable def F_law08_DoorOpens (p0 : List Int) (p1 : List Int) (p2 : Int) (p3 : Int) : Option (Bool) :=
  (F_law08_doors p0 p2 p3).bind fun x1 =>
  (F_door_Open x1.1 x1.2).bind fun x3 =>
  (F_ref08_Open x1.1 x1.2).bind fun x5 =>
  (F_ref01_Ints x3 x5).bind fun x7 =>
  bif x7 then
    (F_door_Open x1.1 p1).bind fun x10 =>
    (F_ref08_Open x1.1 p1).bind fun x12 =>
    (F_ref01_Ints x10 x12).bind fun x14 =>
    bif x14 then
      (F_law08_awake).bind fun x17 =>
      some x17
    else
      some false
  else
    some false

noncomputable def F_law08_DoorLocks_L1 (p1 : List Int) (x1 : List T_Door × List Int) (s12 : List Int × Int) : Option ((List Int × Int) ⊕ (Unit ⊕ Unit)) :=
  bif (decide (s12.2 < ((p1).length : Int))) then
    ((getI p1 s12.2).bind fun x20 =>
    (getI p1 s12.2).bind fun x22 =>
    (F_door_Command x1.1 s12.1 (IntKind.i64.wrap (Int.tmod x20 8)) (IntKind.i64.wrap ((IntKind.i64.wrap (Int.tmod (IntKind.u16.wrap (Int.tdiv x22 8)) 7)) - 1))).bind fun x24 =>
    bif (decide (x24.2 ≠ 0)) then
      some (Sum.inr s12.1)
    else
      (bif (decide (((x24.1).length : Int) ≠ ((x1.1).length : Int))) then
        some true
      else
        (F_door_Open x1.1 x24.1).bind fun x29 =>
        some (decide (0 < ((x29).length : Int)))).bind fun o27 =>
      bif o27 then
        some (Sum.inl ())
      else
        some (Sum.inr x24.1)).bind fun o17 =>
    Sum.elim (fun j18 =>
      some (Sum.inr (Sum.inl ())))
    (fun j19 =>
      some (Sum.inl (j19, (IntKind.i64.wrap (s12.2 + 1))))) o17
  else
    some (Sum.inr (Sum.inr ()))

noncomputable def F_law08_DoorLocks (p0 : List Int) (p1 : List Int) : Option (Bool) :=
  (F_law08_doors p0 0 0).bind fun x1 =>
  ((F_ref08_Check x1.1).bind fun x4 =>
  bif (decide (x4 ≠ 0)) then
    some true
  else
    some (decide (60 < ((p1).length : Int)))).bind fun o3 =>
  bif o3 then
    (F_law08_awake).bind fun x8 =>
    some x8
  else
    (makI 8 0 ((x1.1).length : Int)).bind fun x10 =>
    (loopC (F_law08_DoorLocks_L1 p1 x1) (x10, 0)).bind fun o13 =>
    Sum.elim (fun j14 =>
      some false)
    (fun j15 =>
      (F_law08_awake).bind fun x32 =>
      some x32) o13

noncomputable def F_law08_DoorShuts_L1 (x1 : List T_Door × List Int) (x11 : Int) (x23 : T_Span) (s25 : Int) : Option (Int ⊕ (Unit ⊕ Unit)) :=
  (getI x1.1 x11).bind fun x29 =>
  bif (decide (s25 < ((x29.Rests).length : Int))) then
    (getI x1.1 x11).bind fun x32 =>
    (F_door_Rest x32 s25).bind fun x34 =>
    ((getI x1.1 x11).bind fun x37 =>
    (getI x37.Rests s25).bind fun x39 =>
    bif (decide (x34.Low ≠ x39)) then
      some true
    else
      bif (decide (x34.High ≠ x34.Low)) then
        some true
      else
        bif (decide (x34.Low < x23.Low)) then
          some true
        else
          some (decide (x23.High < x34.High))).bind fun o36 =>
    bif o36 then
      some (Sum.inr (Sum.inl ()))
    else
      some (Sum.inl (IntKind.i64.wrap (s25 + 1)))
  else
    some (Sum.inr (Sum.inr ()))

noncomputable def F_law08_DoorShuts (p0 : List Int) (p1 : Int) : Option (Bool) :=
  (F_law08_doors p0 0 0).bind fun x1 =>
  ((F_ref08_Check x1.1).bind fun x4 =>
  bif (decide (x4 ≠ 0)) then
    some true
  else
    bif (decide (((x1.1).length : Int) = 0)) then
      some true
    else
      some (decide (((x1.2).length : Int) ≠ ((x1.1).length : Int)))).bind fun o3 =>
  bif o3 then
    (F_law08_awake).bind fun x9 =>
    some x9
  else
    (F_draw_Mod p1 ((x1.1).length : Int)).bind fun x11 =>
    (F_door_Command x1.1 x1.2 x11 0).bind fun x13 =>
    (bif (decide (x13.2 ≠ 0)) then
      some true
    else
      bif (decide (((x13.1).length : Int) ≠ ((x1.1).length : Int))) then
        some true
      else
        (getI x13.1 x11).bind fun x18 =>
        some (decide (x18 ≠ 0))).bind fun o15 =>
    bif o15 then
      some false
    else
      (getI x1.1 x11).bind fun x21 =>
      (F_door_Rest x21 (-1)).bind fun x23 =>
      (loopC (F_law08_DoorShuts_L1 x1 x11 x23) 0).bind fun o26 =>
      Sum.elim (fun j27 =>
        some false)
      (fun j28 =>
        (F_law08_awake).bind fun x45 =>
        some x45) o26

noncomputable def F_ref08_set (p0 : List T_Door) (p1 : List Int) (p2 : Int) (p3 : Int) (p4 : Bool) : Option (List Int × Int) :=
  (F_ref08_Check p0).bind fun x1 =>
  bif (decide (x1 ≠ 0)) then
    some (([] : List Int), x1)
  else
    bif (decide (((p1).length : Int) ≠ ((p0).length : Int))) then
      some (([] : List Int), 11)
    else
      (bif (decide (p2 < 0)) then
        some true
      else
        some (decide (((p0).length : Int) ≤ p2))).bind fun o5 =>
      bif o5 then
        some (([] : List Int), 15)
      else
        (bif (decide (p3 < 0)) then
          bif p4 then
            some true
          else
            bif (decide (p3 ≠ (-1))) then
              some true
            else
              (getI p0 p2).bind fun x12 =>
              some (decide (((x12.Rests).length : Int) ≤ p3))
        else
          (getI p0 p2).bind fun x14 =>
          some (decide (((x14.Rests).length : Int) ≤ p3))).bind fun o8 =>
        bif o8 then
          some (([] : List Int), 1)
        else
          (getI p0 p2).bind fun x17 =>
          (bif p4 then
            bif (decide (p3 ≠ 0)) then
              bif (decide (0 ≤ x17.Other)) then
                (getI p1 x17.Other).bind fun x23 =>
                some (decide (x23 ≠ 0))
              else
                some false
            else
              some false
          else
            some false).bind fun o19 =>
          bif o19 then
            some (([] : List Int), 10)
          else
            (appI 8 ([] : List Int) p1).bind fun x26 =>
            (getI x26 p2).bind fun x28 =>
            some ((x26.set ((p2).toNat) p3), 0)

noncomputable def F_ref08_Command (p0 : List T_Door) (p1 : List Int) (p2 : Int) (p3 : Int) : Option (List Int × Int) :=
  (F_ref08_set p0 p1 p2 p3 true).bind fun x1 =>
  some (x1.1, x1.2)

noncomputable def F_door_Seen (p0 : List T_Door) (p1 : List Int) (p2 : Int) (p3 : Int) : Option (List Int × Int) :=
  (F_door_change p0 p1 p2 p3 (-1)).bind fun x1 =>
  bif (decide (x1 ≠ 0)) then
    some (([] : List Int), x1)
  else
    (F_door_with p1 p2 p3).bind fun x4 =>
    some (x4, 0)

noncomputable def F_ref08_Seen (p0 : List T_Door) (p1 : List Int) (p2 : Int) (p3 : Int) : Option (List Int × Int) :=
  (F_ref08_set p0 p1 p2 p3 false).bind fun x1 =>
  some (x1.1, x1.2)

noncomputable def F_law08_DoorCommands_L1 (p1 : List Int) (x1 : List T_Door × List Int) (x3 : Int) (x5 : Int) (s7 : Int) : Option (Int ⊕ (Unit ⊕ Unit)) :=
  bif (decide (s7 < (([x1.2, p1]).length : Int))) then
    (getI [x1.2, p1] s7).bind fun x12 =>
    (F_door_Command x1.1 x12 x3 (IntKind.i64.wrap (x5 - 2))).bind fun x14 =>
    (F_ref08_Command x1.1 x12 x3 (IntKind.i64.wrap (x5 - 2))).bind fun x16 =>
    (F_door_Seen x1.1 x12 x3 (IntKind.i64.wrap (x5 - 2))).bind fun x18 =>
    (F_ref08_Seen x1.1 x12 x3 (IntKind.i64.wrap (x5 - 2))).bind fun x20 =>
    (bif (decide (x14.2 ≠ x16.2)) then
      some true
    else
      bif (decide (x18.2 ≠ x20.2)) then
        some true
      else
        (F_ref01_Ints x14.1 x16.1).bind fun x25 =>
        bif (!x25) then
          some true
        else
          (F_ref01_Ints x18.1 x20.1).bind fun x28 =>
          some (!x28)).bind fun o22 =>
    bif o22 then
      some (Sum.inr (Sum.inl ()))
    else
      some (Sum.inl (IntKind.i64.wrap (s7 + 1)))
  else
    some (Sum.inr (Sum.inr ()))

noncomputable def F_law08_DoorCommands (p0 : List Int) (p1 : List Int) (p2 : Int) (p3 : Int) (p4 : Int) (p5 : Int) : Option (Bool) :=
  (F_law08_doors p0 p2 p3).bind fun x1 =>
  (F_draw_Mod p4 (IntKind.i64.wrap (((x1.1).length : Int) + 1))).bind fun x3 =>
  (F_draw_Mod p5 7).bind fun x5 =>
  (loopC (F_law08_DoorCommands_L1 p1 x1 x3 x5) 0).bind fun o8 =>
  Sum.elim (fun j9 =>
    some false)
  (fun j10 =>
    (F_door_Command x1.1 x1.2 p4 p5).bind fun x31 =>
    (F_ref08_Command x1.1 x1.2 p4 p5).bind fun x33 =>
    bif (decide (x31.2 = x33.2)) then
      (F_ref01_Ints x31.1 x33.1).bind fun x36 =>
      bif x36 then
        (F_law08_awake).bind fun x39 =>
        some x39
      else
        some false
    else
      some false) o8

end Go.L
