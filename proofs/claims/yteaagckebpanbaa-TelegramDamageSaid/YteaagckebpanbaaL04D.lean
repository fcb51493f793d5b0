/- Printed by wip/lift/lift.py: the functions of the program, as partial functions of plain data. -/
import Derived.Test.YteaagckebpanbaaAmlZ
namespace Go.L
open Go Go.Aml

structure T_Frame where
  Address : Int
  Kind : Int
  Data : List Int
  deriving DecidableEq
def T_Frame.enc (x : T_Frame) : PV := .agg [.int .i64 x.Address, .int .i64 x.Kind, .vs 1 (List.map (PV.int .u8) x.Data)]
theorem T_Frame.enc_lt (x : T_Frame) : LtN 0 x.enc := lt_agg ⟨.int _ _, .int _ _, .vs _ _, trivial⟩

structure T_Reader where
  Held : List Int
  Dropped : Int
  deriving DecidableEq
def T_Reader.enc (x : T_Reader) : PV := .agg [.vs 1 (List.map (PV.int .u8) x.Held), .int .i64 x.Dropped]
theorem T_Reader.enc_lt (x : T_Reader) : LtN 0 x.enc := lt_agg ⟨.vs _ _, .int _ _, trivial⟩

structure T_draw_Codes where
  l : List Int
  at_ : Int
  deriving DecidableEq
def T_draw_Codes.enc (x : T_draw_Codes) : PV := .agg [.vs 1 (List.map (PV.int .u8) x.l), .int .i64 x.at_]
theorem T_draw_Codes.enc_lt (x : T_draw_Codes) : LtN 0 x.enc := lt_agg ⟨.vs _ _, .int _ _, trivial⟩

def T_Frame.Wf (x : T_Frame) : Prop := (In .i64) x.Address ∧ (In .i64) x.Kind ∧ (InL (In .u8)) x.Data ∧ True
def T_Reader.Wf (x : T_Reader) : Prop := (InL (In .u8)) x.Held ∧ (In .i64) x.Dropped ∧ True
def T_draw_Codes.Wf (x : T_draw_Codes) : Prop := (InL (In .u8)) x.l ∧ (In .i64) x.at_ ∧ True

noncomputable def F_telegram_Check_L2 (x4 : Int) (s6 : Int × Int) : Option ((Int × Int) ⊕ Int) :=
  bif (decide (0 ≤ s6.2)) then
    ((shrI .u8 x4 (IntKind.u64.wrap s6.2)).bind fun x10 =>
    bif (decide ((s6.1 / 32768) ≠ (bits .and .i64 (IntKind.i64.wrap x10) 1))) then
      some (bits .xor .i64 (bits .and .i64 (IntKind.i64.wrap (s6.1 * 2)) 65535) 4129)
    else
      some (bits .and .i64 (IntKind.i64.wrap (s6.1 * 2)) 65535)).bind fun o9 =>
    some (Sum.inl (o9, (IntKind.i64.wrap (s6.2 - 1))))
  else
    some (Sum.inr s6.1)

noncomputable def F_telegram_Check_L1 (p0 : List Int) (s1 : Int × Int) : Option ((Int × Int) ⊕ Int) :=
  bif (decide (s1.2 < ((p0).length : Int))) then
    (getI p0 s1.2).bind fun x4 =>
    (loopC (F_telegram_Check_L2 x4) (s1.1, 7)).bind fun o7 =>
    some (Sum.inl (o7, (IntKind.i64.wrap (s1.2 + 1))))
  else
    some (Sum.inr s1.1)

noncomputable def F_telegram_Check (p0 : List Int) : Option (Int) :=
  (loopC (F_telegram_Check_L1 p0) (65535, 0)).bind fun o2 =>
  some o2

noncomputable def F_telegram_Write (p0 : T_Frame) : Option (List Int × Int) :=
  (bif (decide (p0.Address < 0)) then
    some true
  else
    bif (decide (255 < p0.Address)) then
      some true
    else
      bif (decide (p0.Kind < 0)) then
        some true
      else
        some (decide (255 < p0.Kind))).bind fun o1 =>
  bif o1 then
    some (([] : List Int), 1)
  else
    bif (decide (64 < ((p0.Data).length : Int))) then
      some (([] : List Int), 2)
    else
      (appI 1 [126, (IntKind.u8.wrap ((p0.Data).length : Int)), (IntKind.u8.wrap p0.Address), (IntKind.u8.wrap p0.Kind)] p0.Data).bind fun x7 =>
      (sliI x7 1 ((x7).length : Int)).bind fun x9 =>
      (F_telegram_Check x9).bind fun x11 =>
      (appI 1 x7 [(IntKind.u8.wrap (x11 / 256)), (IntKind.u8.wrap x11)]).bind fun x13 =>
      some (x13, 0)

noncomputable def F_telegram_Feed_L1  (s5 : List Int × Int × List T_Frame) : Option ((List Int × Int × List T_Frame) ⊕ (List Int × Int × List T_Frame)) :=
  bif (decide (0 < ((s5.1).length : Int))) then
    ((getI s5.1 0).bind fun x9 =>
    bif (decide (x9 ≠ 126)) then
      some true
    else
      bif (decide (1 < ((s5.1).length : Int))) then
        (getI s5.1 1).bind fun x13 =>
        some (decide (64 < (IntKind.i64.wrap x13)))
      else
        some false).bind fun o8 =>
    bif o8 then
      (sliI s5.1 1 ((s5.1).length)).bind fun x16 =>
      some (Sum.inl (x16, (IntKind.i64.wrap (s5.2.1 + 1)), s5.2.2))
    else
      (bif (decide (((s5.1).length : Int) < 2)) then
        some true
      else
        (getI s5.1 1).bind fun x20 =>
        some (decide (((s5.1).length : Int) < (IntKind.i64.wrap ((IntKind.i64.wrap x20) + 6))))).bind fun o18 =>
      bif o18 then
        some (Sum.inr (s5.1, s5.2.1, s5.2.2))
      else
        (getI s5.1 1).bind fun x23 =>
        (sliI s5.1 1 (IntKind.i64.wrap (4 + (IntKind.i64.wrap x23)))).bind fun x25 =>
        (F_telegram_Check x25).bind fun x27 =>
        (getI s5.1 (IntKind.i64.wrap (4 + (IntKind.i64.wrap x23)))).bind fun x29 =>
        (getI s5.1 (IntKind.i64.wrap (5 + (IntKind.i64.wrap x23)))).bind fun x31 =>
        bif (decide (x27 ≠ (bits .or .i64 (IntKind.i64.wrap ((IntKind.i64.wrap x29) * 256)) (IntKind.i64.wrap x31)))) then
          (sliI s5.1 1 ((s5.1).length)).bind fun x34 =>
          some (Sum.inl (x34, (IntKind.i64.wrap (s5.2.1 + 1)), s5.2.2))
        else
          (getI s5.1 2).bind fun x36 =>
          (getI s5.1 3).bind fun x38 =>
          (sliI s5.1 4 (IntKind.i64.wrap (4 + (IntKind.i64.wrap x23)))).bind fun x40 =>
          (appI 1 ([] : List Int) x40).bind fun x42 =>
          (appI 40 s5.2.2 [(T_Frame.mk (IntKind.i64.wrap x36) (IntKind.i64.wrap x38) x42)]).bind fun x44 =>
          (sliI s5.1 (IntKind.i64.wrap ((IntKind.i64.wrap x23) + 6)) ((s5.1).length)).bind fun x46 =>
          some (Sum.inl (x46, s5.2.1, x44))
  else
    some (Sum.inr (s5.1, s5.2.1, s5.2.2))

noncomputable def F_telegram_Feed (p0 : T_Reader) (p1 : List Int) : Option (T_Reader × List T_Frame) :=
  (appI 1 ([] : List Int) p0.Held).bind fun x1 =>
  (appI 1 x1 p1).bind fun x3 =>
  (loopC F_telegram_Feed_L1 (x3, p0.Dropped, ([] : List T_Frame))).bind fun o6 =>
  (appI 1 ([] : List Int) o6.1).bind fun x48 =>
  some ((T_Reader.mk x48 o6.2.1), o6.2.2)

noncomputable def F_ref04_Same_L1 (p0 : List T_Frame) (p1 : List T_Frame) (s2 : Int) : Option (Int ⊕ (Unit ⊕ Unit)) :=
  bif (decide (s2 < ((p0).length : Int))) then
    ((getI p0 s2).bind fun x8 =>
    (getI p1 s2).bind fun x10 =>
    bif (decide (x8.Address ≠ x10.Address)) then
      some true
    else
      (getI p0 s2).bind fun x13 =>
      (getI p1 s2).bind fun x15 =>
      bif (decide (x13.Kind ≠ x15.Kind)) then
        some true
      else
        (getI p0 s2).bind fun x18 =>
        (getI p1 s2).bind fun x20 =>
        some (!((strOfNums x18.Data).toList == (strOfNums x20.Data).toList))).bind fun o7 =>
    bif o7 then
      some (Sum.inr (Sum.inl ()))
    else
      some (Sum.inl (IntKind.i64.wrap (s2 + 1)))
  else
    some (Sum.inr (Sum.inr ()))

noncomputable def F_ref04_Same (p0 : List T_Frame) (p1 : List T_Frame) : Option (Bool) :=
  bif (decide (((p0).length : Int) ≠ ((p1).length : Int))) then
    some false
  else
    (loopC (F_ref04_Same_L1 p0 p1) 0).bind fun o3 =>
    Sum.elim (fun j4 =>
      some false)
    (fun j5 =>
      some true) o3

noncomputable def F_law04_awake  : Option (Bool) :=
  (F_telegram_Write (T_Frame.mk 3 1 [4, 5])).bind fun x1 =>
  (F_telegram_Feed (T_Reader.mk [9] 0) x1.1).bind fun x3 =>
  bif (decide (x1.2 = 0)) then
    bif (decide (((x1.1).length : Int) = 8)) then
      (F_telegram_Check [49, 50, 51, 52, 53, 54, 55, 56, 57]).bind fun x7 =>
      bif (decide (x7 = 10673)) then
        bif (decide (((x3.2).length : Int) = 1)) then
          (F_ref04_Same x3.2 [(T_Frame.mk 3 1 [4, 5])]).bind fun x11 =>
          bif x11 then
            bif (decide (x3.1.Dropped = 1)) then
              some (decide (((x3.1.Held).length : Int) = 0))
            else
              some false
          else
            some false
        else
          some false
      else
        some false
    else
      some false
  else
    some false

noncomputable def F_draw_New (p0 : List Int) : Option (T_draw_Codes) :=
  (sliI p0 0 (min ((p0).length : Int) 300)).bind fun x1 =>
  some (T_draw_Codes.mk x1 0)

noncomputable def F_draw_Codes_Next (p0 : T_draw_Codes) (p1 : Int) : Option (T_draw_Codes × Int) :=
  (bif (decide (p1 < 1)) then
    some true
  else
    some (decide (((p0.l).length : Int) ≤ p0.at_))).bind fun o1 =>
  bif o1 then
    some (p0, 0)
  else
    (getI p0.l (IntKind.i64.wrap ((IntKind.i64.wrap (p0.at_ + 1)) - 1))).bind fun x4 =>
    (bif (decide (256 < p1)) then
      some (decide ((IntKind.i64.wrap (p0.at_ + 1)) < ((p0.l).length : Int)))
    else
      some false).bind fun o6 =>
    (bif o6 then
      (getI p0.l (IntKind.i64.wrap (p0.at_ + 1))).bind fun x10 =>
      some ((IntKind.i64.wrap ((IntKind.i64.wrap ((IntKind.i64.wrap x4) * 256)) + (IntKind.i64.wrap x10))), (IntKind.i64.wrap ((IntKind.i64.wrap (p0.at_ + 1)) + 1)))
    else
      some ((IntKind.i64.wrap x4), (IntKind.i64.wrap (p0.at_ + 1)))).bind fun o8 =>
    (remI o8.1 p1).bind fun x12 =>
    some ((T_draw_Codes.mk p0.l o8.2), x12)

noncomputable def F_draw_Codes_Frame (p0 : T_draw_Codes) : Option (T_draw_Codes × T_Frame) :=
  (F_draw_Codes_Next p0 6).bind fun x1 =>
  (F_draw_Codes_Next x1.1 2).bind fun x3 =>
  (F_draw_Codes_Next x3.1 256).bind fun x5 =>
  (F_draw_Codes_Next x5.1 8).bind fun x7 =>
  (bif (decide (x7.2 = 5)) then
    some ((T_Frame.mk x1.2 2 ([] : List Int)), x7.1)
  else
    bif (decide (x7.2 = 6)) then
      (F_draw_Codes_Next x7.1 4).bind fun x12 =>
      some ((T_Frame.mk x1.2 x12.2 [(IntKind.u8.wrap x3.2), (IntKind.u8.wrap x5.2)]), x12.1)
    else
      bif (decide (x7.2 = 7)) then
        (F_draw_Codes_Next x7.1 3).bind fun x15 =>
        (sliI [(IntKind.u8.wrap x3.2), (IntKind.u8.wrap x5.2)] 0 x15.2).bind fun x17 =>
        some ((T_Frame.mk x1.2 1 x17), x15.1)
      else
        some ((T_Frame.mk x1.2 1 [(IntKind.u8.wrap x3.2), (IntKind.u8.wrap x5.2)]), x7.1)).bind fun o9 =>
  some (o9.2, o9.1)

noncomputable def F_ref04_Check_L2 (p0 : List Int) (s1 : Int × Int) (s4 : Int × Int) : Option ((Int × Int) ⊕ Int) :=
  bif (decide (0 ≤ s4.2)) then
    ((getI p0 s1.2).bind fun x8 =>
    (shrI .u8 x8 (IntKind.u64.wrap s4.2)).bind fun x10 =>
    bif (decide ((bits .and .i64 (s4.1 / 32768) 1) ≠ (IntKind.i64.wrap (bits .and .u8 x10 1)))) then
      some (bits .xor .i64 (bits .and .i64 (IntKind.i64.wrap (s4.1 * 2)) 65535) 4129)
    else
      some (bits .and .i64 (IntKind.i64.wrap (s4.1 * 2)) 65535)).bind fun o7 =>
    some (Sum.inl (o7, (IntKind.i64.wrap (s4.2 - 1))))
  else
    some (Sum.inr s4.1)

noncomputable def F_ref04_Check_L1 (p0 : List Int) (s1 : Int × Int) : Option ((Int × Int) ⊕ Int) :=
  bif (decide (s1.2 < ((p0).length : Int))) then
    (loopC (F_ref04_Check_L2 p0 s1) (s1.1, 7)).bind fun o5 =>
    some (Sum.inl (o5, (IntKind.i64.wrap (s1.2 + 1))))
  else
    some (Sum.inr s1.1)

noncomputable def F_ref04_Check (p0 : List Int) : Option (Int) :=
  (loopC (F_ref04_Check_L1 p0) (65535, 0)).bind fun o2 =>
  some o2

noncomputable def F_ref04_Write (p0 : T_Frame) : Option (List Int × Int) :=
  (bif (decide (p0.Address < 0)) then
    some true
  else
    bif (decide (255 < p0.Address)) then
      some true
    else
      bif (decide (p0.Kind < 0)) then
        some true
      else
        some (decide (255 < p0.Kind))).bind fun o1 =>
  bif o1 then
    some (([] : List Int), 1)
  else
    bif (decide (64 < ((p0.Data).length : Int))) then
      some (([] : List Int), 2)
    else
      (appI 1 [126, (IntKind.u8.wrap ((p0.Data).length : Int)), (IntKind.u8.wrap p0.Address), (IntKind.u8.wrap p0.Kind)] p0.Data).bind fun x7 =>
      (sliI x7 1 ((x7).length : Int)).bind fun x9 =>
      (F_ref04_Check x9).bind fun x11 =>
      (appI 1 x7 [(IntKind.u8.wrap (x11 / 256)), (IntKind.u8.wrap x11)]).bind fun x13 =>
      some (x13, 0)

noncomputable def F_law04_TelegramWrites_L1 (p1 : T_Frame) (x8 : T_draw_Codes × T_Frame) (s10 : Int) : Option (Int ⊕ (Unit ⊕ Unit)) :=
  bif (decide (s10 < (([p1, x8.2]).length : Int))) then
    (getI [p1, x8.2] s10).bind fun x15 =>
    (F_telegram_Write x15).bind fun x17 =>
    (F_ref04_Write x15).bind fun x19 =>
    (bif (!((strOfNums x17.1).toList == (strOfNums x19.1).toList)) then
      some true
    else
      some (decide (x17.2 ≠ x19.2))).bind fun o21 =>
    bif o21 then
      some (Sum.inr (Sum.inl ()))
    else
      some (Sum.inl (IntKind.i64.wrap (s10 + 1)))
  else
    some (Sum.inr (Sum.inr ()))

noncomputable def F_law04_TelegramWrites (p0 : List Int) (p1 : T_Frame) (p2 : List Int) : Option (Bool) :=
  (bif (decide (300 < ((p0).length : Int))) then
    some true
  else
    some (decide (300 < ((p1.Data).length : Int)))).bind fun o1 =>
  bif o1 then
    (F_law04_awake).bind fun x4 =>
    some x4
  else
    (F_draw_New p2).bind fun x6 =>
    (F_draw_Codes_Frame x6).bind fun x8 =>
    (loopC (F_law04_TelegramWrites_L1 p1 x8) 0).bind fun o11 =>
    Sum.elim (fun j12 =>
      some false)
    (fun j13 =>
      (F_telegram_Check p0).bind fun x24 =>
      (F_ref04_Check p0).bind fun x26 =>
      bif (decide (x24 = x26)) then
        (F_law04_awake).bind fun x29 =>
        some x29
      else
        some false) o11

noncomputable def F_draw_Codes_Bytes_L1  (s3 : Int × List Int × T_draw_Codes) : Option ((Int × List Int × T_draw_Codes) ⊕ (List Int × T_draw_Codes)) :=
  bif (decide (0 < s3.1)) then
    (F_draw_Codes_Frame s3.2.2).bind fun x6 =>
    (F_ref04_Write x6.2).bind fun x8 =>
    (F_draw_Codes_Next x6.1 6).bind fun x10 =>
    (bif (decide (x10.2 = 3)) then
      (F_draw_Codes_Next x10.1 ((x8.1).length : Int)).bind fun x14 =>
      (getI x8.1 x14.2).bind fun x16 =>
      (F_draw_Codes_Next x14.1 8).bind fun x18 =>
      (shlI .u8 1 (IntKind.u64.wrap x18.2)).bind fun x20 =>
      (getI x8.1 x14.2).bind fun x22 =>
      some ((x8.1.set ((x14.2).toNat) (bits .xor .u8 x16 x20)), s3.2.1, x18.1)
    else
      bif (decide (x10.2 = 4)) then
        (F_draw_Codes_Next x10.1 (IntKind.i64.wrap (((x8.1).length : Int) + 1))).bind fun x25 =>
        (sliI x8.1 0 x25.2).bind fun x27 =>
        some (x27, s3.2.1, x25.1)
      else
        bif (decide (x10.2 = 5)) then
          (F_draw_Codes_Next x10.1 256).bind fun x30 =>
          (appI 1 s3.2.1 [(IntKind.u8.wrap x30.2), 126]).bind fun x32 =>
          some (x8.1, x32, x30.1)
        else
          some (x8.1, s3.2.1, x10.1)).bind fun o12 =>
    (appI 1 o12.2.1 o12.1).bind fun x34 =>
    some (Sum.inl ((IntKind.i64.wrap (s3.1 - 1)), x34, o12.2.2))
  else
    some (Sum.inr (s3.2.1, s3.2.2))

noncomputable def F_draw_Codes_Bytes (p0 : T_draw_Codes) (p1 : Int) : Option (T_draw_Codes × List Int) :=
  (F_draw_Codes_Next p0 (IntKind.i64.wrap (p1 + 1))).bind fun x1 =>
  (loopC F_draw_Codes_Bytes_L1 (x1.2, ([] : List Int), x1.1)).bind fun o4 =>
  some (o4.2, o4.1)

noncomputable def F_draw_Mod (p0 : Int) (p1 : Int) : Option (Int) :=
  bif (decide (p1 < 1)) then
    some 0
  else
    (remI p0 p1).bind fun x2 =>
    (bif (decide (x2 < 0)) then
      some (IntKind.i64.wrap (x2 + p1))
    else
      some x2).bind fun o4 =>
    some o4

noncomputable def F_ref04_Feed_L1  (s5 : List Int × Int × List T_Frame) : Option ((List Int × Int × List T_Frame) ⊕ (List Int × Int × List T_Frame)) :=
  bif (decide (0 < ((s5.1).length : Int))) then
    ((getI s5.1 0).bind fun x9 =>
    bif (decide (x9 ≠ 126)) then
      some true
    else
      bif (decide (1 < ((s5.1).length : Int))) then
        (getI s5.1 1).bind fun x13 =>
        some (decide (64 < (IntKind.i64.wrap x13)))
      else
        some false).bind fun o8 =>
    bif o8 then
      (sliI s5.1 1 ((s5.1).length)).bind fun x16 =>
      some (Sum.inl (x16, (IntKind.i64.wrap (s5.2.1 + 1)), s5.2.2))
    else
      (bif (decide (((s5.1).length : Int) < 2)) then
        some true
      else
        (getI s5.1 1).bind fun x20 =>
        some (decide (((s5.1).length : Int) < (IntKind.i64.wrap (6 + (IntKind.i64.wrap x20)))))).bind fun o18 =>
      bif o18 then
        some (Sum.inr (s5.1, s5.2.1, s5.2.2))
      else
        (getI s5.1 1).bind fun x23 =>
        (sliI s5.1 1 (IntKind.i64.wrap (4 + (IntKind.i64.wrap x23)))).bind fun x25 =>
        (F_ref04_Check x25).bind fun x27 =>
        (getI s5.1 (IntKind.i64.wrap (4 + (IntKind.i64.wrap x23)))).bind fun x29 =>
        (getI s5.1 (IntKind.i64.wrap (5 + (IntKind.i64.wrap x23)))).bind fun x31 =>
        bif (decide (x27 ≠ (bits .or .i64 (IntKind.i64.wrap ((IntKind.i64.wrap x29) * 256)) (IntKind.i64.wrap x31)))) then
          (sliI s5.1 1 ((s5.1).length)).bind fun x34 =>
          some (Sum.inl (x34, (IntKind.i64.wrap (s5.2.1 + 1)), s5.2.2))
        else
          (getI s5.1 2).bind fun x36 =>
          (getI s5.1 3).bind fun x38 =>
          (sliI s5.1 4 (IntKind.i64.wrap (4 + (IntKind.i64.wrap x23)))).bind fun x40 =>
          (appI 1 ([] : List Int) x40).bind fun x42 =>
          (appI 40 s5.2.2 [(T_Frame.mk (IntKind.i64.wrap x36) (IntKind.i64.wrap x38) x42)]).bind fun x44 =>
          (sliI s5.1 (IntKind.i64.wrap (6 + (IntKind.i64.wrap x23))) ((s5.1).length)).bind fun x46 =>
          some (Sum.inl (x46, s5.2.1, x44))
  else
    some (Sum.inr (s5.1, s5.2.1, s5.2.2))

noncomputable def F_ref04_Feed (p0 : T_Reader) (p1 : List Int) : Option (T_Reader × List T_Frame) :=
  (appI 1 ([] : List Int) p0.Held).bind fun x1 =>
  (appI 1 x1 p1).bind fun x3 =>
  (loopC F_ref04_Feed_L1 (x3, p0.Dropped, ([] : List T_Frame))).bind fun o6 =>
  (appI 1 ([] : List Int) o6.1).bind fun x48 =>
  some ((T_Reader.mk x48 o6.2.1), o6.2.2)

noncomputable def F_law04_TelegramReads_L1 (p1 : T_Reader) (p2 : List Int) (p3 : Int) (x9 : T_draw_Codes × List Int) (s11 : Int) : Option (Int ⊕ (Unit ⊕ Unit)) :=
  bif (decide (s11 < (([x9.2, p2]).length : Int))) then
    (getI [x9.2, p2] s11).bind fun x16 =>
    (F_draw_Mod p3 (IntKind.i64.wrap (((x16).length : Int) + 1))).bind fun x18 =>
    (sliI x16 0 x18).bind fun x20 =>
    (F_telegram_Feed p1 x20).bind fun x22 =>
    (sliI x16 0 x18).bind fun x24 =>
    (F_ref04_Feed p1 x24).bind fun x26 =>
    (bif (!((strOfNums x22.1.Held).toList == (strOfNums x26.1.Held).toList)) then
      some true
    else
      bif (decide (x22.1.Dropped ≠ x26.1.Dropped)) then
        some true
      else
        (F_ref04_Same x22.2 x26.2).bind fun x31 =>
        some (!x31)).bind fun o28 =>
    bif o28 then
      some (Sum.inr (Sum.inl ()))
    else
      (sliI x16 x18 ((x16).length)).bind fun x34 =>
      (F_telegram_Feed x26.1 x34).bind fun x36 =>
      (sliI x16 x18 ((x16).length)).bind fun x38 =>
      (F_ref04_Feed x26.1 x38).bind fun x40 =>
      (bif (!((strOfNums x36.1.Held).toList == (strOfNums x40.1.Held).toList)) then
        some true
      else
        bif (decide (x36.1.Dropped ≠ x40.1.Dropped)) then
          some true
        else
          (F_ref04_Same x36.2 x40.2).bind fun x45 =>
          some (!x45)).bind fun o42 =>
      bif o42 then
        some (Sum.inr (Sum.inl ()))
      else
        some (Sum.inl (IntKind.i64.wrap (s11 + 1)))
  else
    some (Sum.inr (Sum.inr ()))

noncomputable def F_law04_TelegramReads (p0 : List Int) (p1 : T_Reader) (p2 : List Int) (p3 : Int) : Option (Bool) :=
  (bif (decide (200 < ((p1.Held).length : Int))) then
    some true
  else
    bif (decide (300 < ((p2).length : Int))) then
      some true
    else
      some (decide (1099511627776 < p1.Dropped))).bind fun o1 =>
  bif o1 then
    (F_law04_awake).bind fun x5 =>
    some x5
  else
    (F_draw_New p0).bind fun x7 =>
    (F_draw_Codes_Bytes x7 5).bind fun x9 =>
    (loopC (F_law04_TelegramReads_L1 p1 p2 p3 x9) 0).bind fun o12 =>
    Sum.elim (fun j13 =>
      some false)
    (fun j14 =>
      (F_law04_awake).bind fun x48 =>
      some x48) o12

noncomputable def F_law04_TelegramPieces_L1 (p1 : List Int) (s7 : List Int × Int × T_Reader × List T_Frame) : Option ((List Int × Int × T_Reader × List T_Frame) ⊕ (T_Reader × List T_Frame)) :=
  bif (decide (0 < ((s7.1).length : Int))) then
    (bif (decide (s7.2.1 < ((p1).length : Int))) then
      some (decide (s7.2.1 < 100))
    else
      some false).bind fun o10 =>
    (bif o10 then
      (getI p1 s7.2.1).bind fun x14 =>
      some (min ((s7.1).length : Int) (IntKind.i64.wrap (1 + (Int.tmod (IntKind.i64.wrap x14) 9))))
    else
      some ((s7.1).length : Int)).bind fun o12 =>
    (sliI s7.1 0 o12).bind fun x16 =>
    (F_telegram_Feed s7.2.2.1 x16).bind fun x18 =>
    (appI 40 s7.2.2.2 x18.2).bind fun x20 =>
    (sliI s7.1 o12 ((s7.1).length)).bind fun x22 =>
    some (Sum.inl (x22, (IntKind.i64.wrap (s7.2.1 + 1)), x18.1, x20))
  else
    some (Sum.inr (s7.2.2.1, s7.2.2.2))

noncomputable def F_law04_TelegramPieces (p0 : List Int) (p1 : List Int) : Option (Bool) :=
  (F_draw_New p0).bind fun x1 =>
  (F_draw_Codes_Bytes x1 6).bind fun x3 =>
  (F_telegram_Feed (T_Reader.mk ([] : List Int) 0) x3.2).bind fun x5 =>
  (loopC (F_law04_TelegramPieces_L1 p1) (x3.2, 0, (T_Reader.mk ([] : List Int) 0), ([] : List T_Frame))).bind fun o8 =>
  bif ((strOfNums o8.1.Held).toList == (strOfNums x5.1.Held).toList) then
    bif (decide (o8.1.Dropped = x5.1.Dropped)) then
      (F_ref04_Same o8.2 x5.2).bind fun x26 =>
      bif x26 then
        bif (decide (((o8.1.Held).length : Int) < 70)) then
          (F_law04_awake).bind fun x30 =>
          some x30
        else
          some false
      else
        some false
    else
      some false
  else
    some false

noncomputable def F_law04_TelegramBack_L1  (s8 : Int × T_draw_Codes × List Int × List T_Frame) : Option ((Int × T_draw_Codes × List Int × List T_Frame) ⊕ (Unit ⊕ (List Int × List T_Frame))) :=
  bif (decide (0 < s8.1)) then
    (F_draw_Codes_Frame s8.2.1).bind fun x13 =>
    (F_telegram_Write x13.2).bind fun x15 =>
    bif (decide (x15.2 ≠ 0)) then
      some (Sum.inr (Sum.inl ()))
    else
      (appI 1 s8.2.2.1 x15.1).bind fun x18 =>
      (appI 40 s8.2.2.2 [x13.2]).bind fun x20 =>
      some (Sum.inl ((IntKind.i64.wrap (s8.1 - 1)), x13.1, x18, x20))
  else
    some (Sum.inr (Sum.inr (s8.2.2.1, s8.2.2.2)))

noncomputable def F_law04_TelegramBack_L2  (s36 : Int × List Int) : Option ((Int × List Int) ⊕ (List Int)) :=
  bif (decide (s36.1 < 75)) then
    (appI 1 s36.2 [0]).bind fun x39 =>
    some (Sum.inl ((IntKind.i64.wrap (s36.1 + 1)), x39))
  else
    some (Sum.inr s36.2)

noncomputable def F_law04_TelegramBack_L3 (x41 : T_Reader × List T_Frame) (s43 : Bool × Int) : Option ((Bool × Int) ⊕ Bool) :=
  bif (decide (s43.2 < ((x41.2).length : Int))) then
    (bif s43.1 then
      some true
    else
      (sliI x41.2 s43.2 (IntKind.i64.wrap (s43.2 + 1))).bind fun x48 =>
      (F_ref04_Same x48 [(T_Frame.mk 200 77 [1])]).bind fun x50 =>
      some x50).bind fun o46 =>
    some (Sum.inl (o46, (IntKind.i64.wrap (s43.2 + 1))))
  else
    some (Sum.inr s43.1)

noncomputable def F_law04_TelegramBack (p0 : List Int) (p1 : List Int) : Option (Bool) :=
  bif (decide (60 < ((p1).length : Int))) then
    (F_law04_awake).bind fun x2 =>
    some x2
  else
    (F_draw_New p0).bind fun x4 =>
    (F_draw_Codes_Next x4 5).bind fun x6 =>
    (loopC F_law04_TelegramBack_L1 (x6.2, x6.1, ([] : List Int), ([] : List T_Frame))).bind fun o9 =>
    Sum.elim (fun j10 =>
      some false)
    (fun j11 =>
      (F_telegram_Feed (T_Reader.mk ([] : List Int) 0) j11.1).bind fun x22 =>
      (bif (decide (x22.1.Dropped ≠ 0)) then
        some true
      else
        bif (decide (((x22.1.Held).length : Int) ≠ 0)) then
          some true
        else
          (F_ref04_Same x22.2 j11.2).bind fun x27 =>
          some (!x27)).bind fun o24 =>
      bif o24 then
        some false
      else
        (F_telegram_Write (T_Frame.mk 200 77 [1])).bind fun x30 =>
        (appI 1 ([] : List Int) p1).bind fun x32 =>
        (appI 1 x32 x30.1).bind fun x34 =>
        (loopC F_law04_TelegramBack_L2 (0, x34)).bind fun o37 =>
        (F_telegram_Feed (T_Reader.mk ([] : List Int) 0) o37).bind fun x41 =>
        (loopC (F_law04_TelegramBack_L3 x41) (false, 0)).bind fun o44 =>
        bif o44 then
          (F_law04_awake).bind fun x53 =>
          some x53
        else
          bif (decide (0 < ((x41.2).length : Int))) then
            (F_law04_awake).bind fun x56 =>
            some x56
          else
            some false) o9

noncomputable def F_law04_TelegramDamage_L1 (x3 : T_draw_Codes × T_Frame) (x21 : T_Reader × List T_Frame) (s23 : Int) : Option (Int ⊕ (Unit ⊕ Unit)) :=
  bif (decide (s23 < ((x21.2).length : Int))) then
    (getI x21.2 s23).bind fun x28 =>
    bif (decide (((x28.Data).length : Int) = ((x3.2.Data).length : Int))) then
      some (Sum.inr (Sum.inl ()))
    else
      some (Sum.inl (IntKind.i64.wrap (s23 + 1)))
  else
    some (Sum.inr (Sum.inr ()))

noncomputable def F_law04_TelegramDamage (p0 : List Int) (p1 : Int) (p2 : Int) : Option (Bool) :=
  (F_draw_New p0).bind fun x1 =>
  (F_draw_Codes_Frame x1).bind fun x3 =>
  (F_telegram_Write x3.2).bind fun x5 =>
  (bif (decide (x5.2 ≠ 0)) then
    some true
  else
    some (decide (((x5.1).length : Int) < 6))).bind fun o7 =>
  bif o7 then
    some false
  else
    (F_draw_Mod p1 ((x5.1).length : Int)).bind fun x10 =>
    (getI x5.1 x10).bind fun x12 =>
    bif (decide (x12 = p2)) then
      (F_law04_awake).bind fun x15 =>
      some x15
    else
      (appI 1 ([] : List Int) x5.1).bind fun x17 =>
      (getI x17 x10).bind fun x19 =>
      (F_telegram_Feed (T_Reader.mk ([] : List Int) 0) (x17.set ((x10).toNat) p2)).bind fun x21 =>
      (loopC (F_law04_TelegramDamage_L1 x3 x21) 0).bind fun o24 =>
      Sum.elim (fun j25 =>
        some false)
      (fun j26 =>
        (F_law04_awake).bind fun x31 =>
        some x31) o24

noncomputable def F_law04_TelegramCounts_L2 (x15 : T_Reader × List T_Frame) (s17 : Int × Int) : Option ((Int × Int) ⊕ Int) :=
  bif (decide (s17.2 < ((x15.2).length : Int))) then
    (getI x15.2 s17.2).bind fun x20 =>
    some (Sum.inl ((IntKind.i64.wrap (s17.1 + (IntKind.i64.wrap (6 + ((x20.Data).length : Int))))), (IntKind.i64.wrap (s17.2 + 1))))
  else
    some (Sum.inr s17.1)

noncomputable def F_law04_TelegramCounts_L1 (p1 : List Int) (x6 : T_draw_Codes × List Int) (s8 : Int) : Option (Int ⊕ (Unit ⊕ Unit)) :=
  bif (decide (s8 < (([x6.2, p1]).length : Int))) then
    (getI [x6.2, p1] s8).bind fun x13 =>
    (F_telegram_Feed (T_Reader.mk ([] : List Int) 0) x13).bind fun x15 =>
    (loopC (F_law04_TelegramCounts_L2 x15) ((IntKind.i64.wrap (x15.1.Dropped + ((x15.1.Held).length : Int))), 0)).bind fun o18 =>
    bif (decide (o18 ≠ ((x13).length : Int))) then
      some (Sum.inr (Sum.inl ()))
    else
      some (Sum.inl (IntKind.i64.wrap (s8 + 1)))
  else
    some (Sum.inr (Sum.inr ()))

noncomputable def F_law04_TelegramCounts (p0 : List Int) (p1 : List Int) : Option (Bool) :=
  bif (decide (300 < ((p1).length : Int))) then
    (F_law04_awake).bind fun x2 =>
    some x2
  else
    (F_draw_New p0).bind fun x4 =>
    (F_draw_Codes_Bytes x4 6).bind fun x6 =>
    (loopC (F_law04_TelegramCounts_L1 p1 x6) 0).bind fun o9 =>
    Sum.elim (fun j10 =>
      some false)
    (fun j11 =>
      (F_law04_awake).bind fun x23 =>
      some x23) o9

end Go.L
