/- Printed by wip/lift/lift.py: the functions of the program, as partial functions of plain data. -/
import Derived.Test.YtmomjhbinkmefaaAmlZ
namespace Go.L
open Go Go.Aml

structure T_Belt where
  Onto : Int
  Warn : Int
  deriving DecidableEq
def T_Belt.enc (x : T_Belt) : PV := .agg [.int .i64 x.Onto, .int .i64 x.Warn]
theorem T_Belt.enc_lt (x : T_Belt) : LtN 0 x.enc := lt_agg ⟨.int _ _, .int _ _, trivial⟩

structure T_Line where
  Time : Int
  States : List Int
  Since : List Int
  Pulled : List Bool
  Held : List Bool
  deriving DecidableEq
def T_Line.enc (x : T_Line) : PV := .agg [.int .i64 x.Time, .vs 1 (List.map (PV.int .i64) x.States), .vs 1 (List.map (PV.int .i64) x.Since), .vs 1 (List.map PV.bool x.Pulled), .vs 1 (List.map PV.bool x.Held)]
theorem T_Line.enc_lt (x : T_Line) : LtN 0 x.enc := lt_agg ⟨.int _ _, .vs _ _, .vs _ _, .vs _ _, .vs _ _, trivial⟩

structure T_made_Dice where
  L : List Int
  At : Int
  deriving DecidableEq
def T_made_Dice.enc (x : T_made_Dice) : PV := .agg [.vs 1 (List.map (PV.int .i64) x.L), .int .i64 x.At]
theorem T_made_Dice.enc_lt (x : T_made_Dice) : LtN 0 x.enc := lt_agg ⟨.vs _ _, .int _ _, trivial⟩

structure A2_Int where
  a0 : Int
  a1 : Int
  deriving DecidableEq
def A2_Int.enc (x : A2_Int) : PV := .agg [.int .i64 x.a0, .int .i64 x.a1]
theorem A2_Int.enc_lt (x : A2_Int) : LtN 0 x.enc := lt_agg ⟨.int _ _, .int _ _, trivial⟩

def T_Belt.Wf (x : T_Belt) : Prop := (In .i64) x.Onto ∧ (In .i64) x.Warn ∧ True
def T_Line.Wf (x : T_Line) : Prop := (In .i64) x.Time ∧ (InL (In .i64)) x.States ∧ (InL (In .i64)) x.Since ∧ (InL (fun _ => True)) x.Pulled ∧ (InL (fun _ => True)) x.Held ∧ True
def T_made_Dice.Wf (x : T_made_Dice) : Prop := (InL (In .i64)) x.L ∧ (In .i64) x.At ∧ True
def A2_Int.Wf (x : A2_Int) : Prop := (In .i64) x.a0 ∧ (In .i64) x.a1 ∧ True

noncomputable def F_made_Light (p0 : List Int) : Option (Bool) :=
  some (decide (((p0).length : Int) ≤ 400))

noncomputable def F_lists_In (p0 : Int) (p1 : Int) (p2 : Int) : Option (Bool) :=
  bif (decide (p1 ≤ p0)) then
    some (decide (p0 ≤ p2))
  else
    some false

noncomputable def F_belts_sound_L1 (p0 : List T_Belt) (s4 : Int) : Option (Int ⊕ (Unit ⊕ Unit)) :=
  bif (decide (s4 < ((p0).length : Int))) then
    (getI p0 s4).bind fun x9 =>
    ((F_lists_In x9.Onto (-1) (IntKind.i64.wrap (((p0).length : Int) - 1))).bind fun x12 =>
    bif (!x12) then
      some true
    else
      (F_lists_In x9.Warn 0 120).bind fun x15 =>
      bif (!x15) then
        some true
      else
        some (decide (x9.Onto = s4))).bind fun o11 =>
    bif o11 then
      some (Sum.inr (Sum.inl ()))
    else
      some (Sum.inl (IntKind.i64.wrap (s4 + 1)))
  else
    some (Sum.inr (Sum.inr ()))

noncomputable def F_belts_sound_L3 (p0 : List T_Belt) (s24 : Int × Int) : Option ((Int × Int) ⊕ (Unit ⊕ Unit)) :=
  bif (decide (0 ≤ s24.2)) then
    bif (decide (((p0).length : Int) < (IntKind.i64.wrap (s24.1 + 1)))) then
      some (Sum.inr (Sum.inl ()))
    else
      (getI p0 s24.2).bind fun x30 =>
      some (Sum.inl ((IntKind.i64.wrap (s24.1 + 1)), x30.Onto))
  else
    some (Sum.inr (Sum.inr ()))

noncomputable def F_belts_sound_L2 (p0 : List T_Belt) (s19 : Int) : Option (Int ⊕ (Unit ⊕ Unit)) :=
  bif (decide (s19 < ((p0).length : Int))) then
    (loopC (F_belts_sound_L3 p0) (0, s19)).bind fun o25 =>
    Sum.elim (fun j26 =>
      some (Sum.inr (Sum.inl ())))
    (fun j27 =>
      some (Sum.inl (IntKind.i64.wrap (s19 + 1)))) o25
  else
    some (Sum.inr (Sum.inr ()))

noncomputable def F_belts_sound (p0 : List T_Belt) : Option (Bool) :=
  (F_lists_In ((p0).length : Int) 1 24).bind fun x1 =>
  bif (!x1) then
    some false
  else
    (loopC (F_belts_sound_L1 p0) 0).bind fun o5 =>
    Sum.elim (fun j6 =>
      some false)
    (fun j7 =>
      (loopC (F_belts_sound_L2 p0) 0).bind fun o20 =>
      Sum.elim (fun j21 =>
        some false)
      (fun j22 =>
        some true) o20) o5

noncomputable def F_belts_Make (p0 : List T_Belt) : Option (T_Line × Int) :=
  (F_belts_sound p0).bind fun x1 =>
  bif (!x1) then
    some ((T_Line.mk 0 ([] : List Int) ([] : List Int) ([] : List Bool) ([] : List Bool)), 6)
  else
    (makI 8 0 ((p0).length : Int)).bind fun x4 =>
    (makI 8 0 ((p0).length : Int)).bind fun x6 =>
    (makI 1 false ((p0).length : Int)).bind fun x8 =>
    (makI 1 false ((p0).length : Int)).bind fun x10 =>
    some ((T_Line.mk 0 x4 x6 x8 x10), 0)

noncomputable def F_belts_Valid_L1 (p0 : List T_Belt) (p1 : T_Line) (s12 : Int) : Option (Int ⊕ (Unit ⊕ Unit)) :=
  bif (decide (s12 < ((p1.States).length : Int))) then
    ((getI p1.States s12).bind fun x20 =>
    (getI p0 s12).bind fun x22 =>
    ((F_lists_In x20 0 2).bind fun x25 =>
    bif (!x25) then
      some true
    else
      (getI p1.Since s12).bind fun x28 =>
      (F_lists_In x28 0 p1.Time).bind fun x30 =>
      some (!x30)).bind fun o24 =>
    bif o24 then
      some (Sum.inl ())
    else
      bif (decide (x20 = 0)) then
        some (Sum.inr ())
      else
        ((getI p1.Pulled s12).bind fun x35 =>
        bif x35 then
          some true
        else
          (getI p1.Held s12).bind fun x38 =>
          bif x38 then
            some true
          else
            bif (decide (0 ≤ x22.Onto)) then
              (getI p1.States x22.Onto).bind fun x42 =>
              some (decide (x42 ≠ 2))
            else
              some false).bind fun o34 =>
        bif o34 then
          some (Sum.inl ())
        else
          some (Sum.inr ())).bind fun o17 =>
    Sum.elim (fun j18 =>
      some (Sum.inr (Sum.inl ())))
    (fun j19 =>
      some (Sum.inl (IntKind.i64.wrap (s12 + 1)))) o17
  else
    some (Sum.inr (Sum.inr ()))

noncomputable def F_belts_Valid (p0 : List T_Belt) (p1 : T_Line) : Option (Bool) :=
  ((F_belts_sound p0).bind fun x2 =>
  bif (!x2) then
    some true
  else
    bif (decide (((p1.States).length : Int) ≠ ((p0).length : Int))) then
      some true
    else
      bif (decide (((p1.Since).length : Int) ≠ ((p0).length : Int))) then
        some true
      else
        bif (decide (((p1.Pulled).length : Int) ≠ ((p0).length : Int))) then
          some true
        else
          bif (decide (((p1.Held).length : Int) ≠ ((p0).length : Int))) then
            some true
          else
            (F_lists_In p1.Time 0 2147483648).bind fun x9 =>
            some (!x9)).bind fun o1 =>
  bif o1 then
    some false
  else
    (loopC (F_belts_Valid_L1 p0 p1) 0).bind fun o13 =>
    Sum.elim (fun j14 =>
      some false)
    (fun j15 =>
      some true) o13

noncomputable def F_belts_checked (p0 : List T_Belt) (p1 : T_Line) (p2 : Int) : Option (Int) :=
  (F_belts_Valid p0 p1).bind fun x1 =>
  bif (!x1) then
    some 6
  else
    (F_lists_In p2 0 (IntKind.i64.wrap (((p0).length : Int) - 1))).bind fun x4 =>
    bif (!x4) then
      some 52
    else
      some 0

noncomputable def F_belts_Start_1 (p0 : T_Line) (p1 : Int) : Option (T_Line) :=
  (getI p0.States p1).bind fun x5 =>
  (getI p0.Since p1).bind fun x7 =>
  some (T_Line.mk p0.Time (p0.States.set ((p1).toNat) 1) (p0.Since.set ((p1).toNat) p0.Time) p0.Pulled p0.Held)

noncomputable def F_slices_Clone___int_int_ (p0 : List Int) : Option (List Int) :=
  (appI 8 ([] : List Int) p0).bind fun x3 =>
  some x3

noncomputable def F_slices_Clone___bool_bool_ (p0 : List Bool) : Option (List Bool) :=
  (appI 1 ([] : List Bool) p0).bind fun x3 =>
  some x3

noncomputable def F_belts_done__belts_Start_1 (p0 : T_Line) (pc10 : Int) : Option (T_Line) :=
  (F_slices_Clone___int_int_ p0.States).bind fun x1 =>
  (F_slices_Clone___int_int_ p0.Since).bind fun x3 =>
  (F_slices_Clone___bool_bool_ p0.Pulled).bind fun x5 =>
  (F_slices_Clone___bool_bool_ p0.Held).bind fun x7 =>
  (F_belts_Start_1 (T_Line.mk p0.Time x1 x3 x5 x7) pc10).bind fun x9 =>
  some x9

noncomputable def F_belts_Start (p0 : List T_Belt) (p1 : T_Line) (p2 : Int) : Option (T_Line × Int) :=
  (F_belts_checked p0 p1 p2).bind fun x1 =>
  bif (decide (x1 ≠ 0)) then
    some (p1, x1)
  else
    (getI p0 p2).bind fun x4 =>
    (getI p1.States p2).bind fun x6 =>
    bif (decide (x6 ≠ 0)) then
      some (p1, 10)
    else
      ((getI p1.Pulled p2).bind fun x10 =>
      bif x10 then
        some true
      else
        (getI p1.Held p2).bind fun x13 =>
        some x13).bind fun o9 =>
      bif o9 then
        some (p1, 51)
      else
        (bif (decide (0 ≤ x4.Onto)) then
          (getI p1.States x4.Onto).bind fun x18 =>
          some (decide (x18 ≠ 2))
        else
          some false).bind fun o16 =>
        bif o16 then
          some (p1, 10)
        else
          (F_belts_done__belts_Start_1 p1 p2).bind fun x21 =>
          some (x21, 0)

noncomputable def F_belts_Wait_1_L1 (p0 : T_Line) (p1 : Int) (p2 : List T_Belt) (s5 : Int × List Int × List Int) : Option ((Int × List Int × List Int) ⊕ (List Int × List Int)) :=
  bif (decide (s5.1 < ((p0.States).length : Int))) then
    ((getI s5.2.1 s5.1).bind fun x9 =>
    (getI s5.2.2 s5.1).bind fun x11 =>
    (getI p2 s5.1).bind fun x13 =>
    (bif (decide (x9 = 1)) then
      some (decide ((IntKind.i64.wrap (x11 + x13.Warn)) ≤ p1))
    else
      some false).bind fun o15 =>
    bif o15 then
      (getI s5.2.1 s5.1).bind fun x18 =>
      (getI s5.2.2 s5.1).bind fun x20 =>
      some ((s5.2.1.set ((s5.1).toNat) 2), (s5.2.2.set ((s5.1).toNat) (IntKind.i64.wrap (x11 + x13.Warn))))
    else
      some (s5.2.1, s5.2.2)).bind fun o8 =>
    some (Sum.inl ((IntKind.i64.wrap (s5.1 + 1)), o8.1, o8.2))
  else
    some (Sum.inr (s5.2.1, s5.2.2))

noncomputable def F_belts_Wait_1 (p0 : T_Line) (p1 : Int) (p2 : List T_Belt) : Option (T_Line) :=
  (loopC (F_belts_Wait_1_L1 p0 p1 p2) (0, p0.States, p0.Since)).bind fun o6 =>
  some (T_Line.mk p1 o6.1 o6.2 p0.Pulled p0.Held)

noncomputable def F_belts_done__belts_Wait_1 (p0 : T_Line) (pc10 : Int) (pc11 : List T_Belt) : Option (T_Line) :=
  (F_slices_Clone___int_int_ p0.States).bind fun x1 =>
  (F_slices_Clone___int_int_ p0.Since).bind fun x3 =>
  (F_slices_Clone___bool_bool_ p0.Pulled).bind fun x5 =>
  (F_slices_Clone___bool_bool_ p0.Held).bind fun x7 =>
  (F_belts_Wait_1 (T_Line.mk p0.Time x1 x3 x5 x7) pc10 pc11).bind fun x9 =>
  some x9

noncomputable def F_belts_Wait (p0 : List T_Belt) (p1 : T_Line) (p2 : Int) : Option (T_Line × Int) :=
  (F_belts_Valid p0 p1).bind fun x1 =>
  bif (!x1) then
    some (p1, 6)
  else
    (F_lists_In p2 p1.Time 2147483648).bind fun x4 =>
    bif (!x4) then
      some (p1, 8)
    else
      (F_belts_done__belts_Wait_1 p1 p2 p0).bind fun x7 =>
      some (x7, 0)

noncomputable def F_belts_throws_L1 (p0 : List T_Belt) (p2 : Int) (s3 : Int) : Option (Int ⊕ (Unit ⊕ Unit)) :=
  bif (decide (0 ≤ s3)) then
    bif (decide (s3 = p2)) then
      some (Sum.inr (Sum.inl ()))
    else
      (getI p0 s3).bind fun x9 =>
      some (Sum.inl x9.Onto)
  else
    some (Sum.inr (Sum.inr ()))

noncomputable def F_belts_throws (p0 : List T_Belt) (p1 : Int) (p2 : Int) : Option (Bool) :=
  (getI p0 p1).bind fun x1 =>
  (loopC (F_belts_throws_L1 p0 p2) x1.Onto).bind fun o4 =>
  Sum.elim (fun j5 =>
    some true)
  (fun j6 =>
    some false) o4

noncomputable def F_belts_stop_L1 (p0 : List T_Belt) (p1 : T_Line) (p2 : Int) (s5 : Int × List Int × List Int) : Option ((Int × List Int × List Int) ⊕ (List Int × List Int)) :=
  bif (decide (s5.1 < ((p0).length : Int))) then
    ((bif (decide (s5.1 = p2)) then
      (getI s5.2.1 s5.1).bind fun x11 =>
      some (decide (x11 ≠ 0))
    else
      (F_belts_throws p0 s5.1 p2).bind fun x13 =>
      bif x13 then
        (getI s5.2.1 s5.1).bind fun x16 =>
        some (decide (x16 ≠ 0))
      else
        some false).bind fun o9 =>
    bif o9 then
      (getI s5.2.1 s5.1).bind fun x19 =>
      (getI s5.2.2 s5.1).bind fun x21 =>
      some ((s5.2.1.set ((s5.1).toNat) 0), (s5.2.2.set ((s5.1).toNat) p1.Time))
    else
      some (s5.2.1, s5.2.2)).bind fun o8 =>
    some (Sum.inl ((IntKind.i64.wrap (s5.1 + 1)), o8.1, o8.2))
  else
    some (Sum.inr (s5.2.1, s5.2.2))

noncomputable def F_belts_stop (p0 : List T_Belt) (p1 : T_Line) (p2 : Int) : Option (T_Line) :=
  (loopC (F_belts_stop_L1 p0 p1 p2) (0, p1.States, p1.Since)).bind fun o6 =>
  some (T_Line.mk p1.Time o6.1 o6.2 p1.Pulled p1.Held)

noncomputable def F_belts_Pull_1 (p0 : T_Line) (p1 : List T_Belt) (p2 : Int) : Option (T_Line) :=
  (F_belts_stop p1 p0 p2).bind fun x5 =>
  (getI x5.Pulled p2).bind fun x7 =>
  some (T_Line.mk x5.Time x5.States x5.Since (x5.Pulled.set ((p2).toNat) true) x5.Held)

noncomputable def F_belts_done__belts_Pull_1 (p0 : T_Line) (pc10 : List T_Belt) (pc11 : Int) : Option (T_Line) :=
  (F_slices_Clone___int_int_ p0.States).bind fun x1 =>
  (F_slices_Clone___int_int_ p0.Since).bind fun x3 =>
  (F_slices_Clone___bool_bool_ p0.Pulled).bind fun x5 =>
  (F_slices_Clone___bool_bool_ p0.Held).bind fun x7 =>
  (F_belts_Pull_1 (T_Line.mk p0.Time x1 x3 x5 x7) pc10 pc11).bind fun x9 =>
  some x9

noncomputable def F_belts_Pull (p0 : List T_Belt) (p1 : T_Line) (p2 : Int) : Option (T_Line × Int) :=
  (F_belts_checked p0 p1 p2).bind fun x1 =>
  bif (decide (x1 ≠ 0)) then
    some (p1, x1)
  else
    (F_belts_done__belts_Pull_1 p1 p0 p2).bind fun x4 =>
    some (x4, 0)

noncomputable def F_belts_Above_1 (p0 : Int) (p1 : List T_Belt) (p2 : Int) : Option (Bool) :=
  (F_belts_throws p1 p0 p2).bind fun x1 =>
  some x1

noncomputable def F_lists_Where__belts_Above_1_L1 (p0 : Int) (pc10 : List T_Belt) (pc11 : Int) (s1 : Int × List Int) : Option ((Int × List Int) ⊕ (List Int)) :=
  bif (decide (s1.1 < p0)) then
    ((F_belts_Above_1 s1.1 pc10 pc11).bind fun x5 =>
    bif x5 then
      (appI 8 s1.2 [s1.1]).bind fun x8 =>
      some x8
    else
      some s1.2).bind fun o4 =>
    some (Sum.inl ((IntKind.i64.wrap (s1.1 + 1)), o4))
  else
    some (Sum.inr s1.2)

noncomputable def F_lists_Where__belts_Above_1 (p0 : Int) (pc10 : List T_Belt) (pc11 : Int) : Option (List Int) :=
  (loopC (F_lists_Where__belts_Above_1_L1 p0 pc10 pc11) (0, ([] : List Int))).bind fun o2 =>
  some o2

noncomputable def F_belts_Above (p0 : List T_Belt) (p1 : Int) : Option (List Int) :=
  ((F_belts_sound p0).bind fun x2 =>
  bif (!x2) then
    some true
  else
    (F_lists_In p1 0 (IntKind.i64.wrap (((p0).length : Int) - 1))).bind fun x5 =>
    some (!x5)).bind fun o1 =>
  bif o1 then
    some ([] : List Int)
  else
    (F_lists_Where__belts_Above_1 ((p0).length : Int) p0 p1).bind fun x8 =>
    some x8

noncomputable def F_law39_awake  : Option (Bool) :=
  (F_belts_Make [(T_Belt.mk (-1) 5), (T_Belt.mk 0 3)]).bind fun x1 =>
  (F_belts_Start [(T_Belt.mk (-1) 5), (T_Belt.mk 0 3)] x1.1 1).bind fun x3 =>
  (F_belts_Start [(T_Belt.mk (-1) 5), (T_Belt.mk 0 3)] x1.1 0).bind fun x5 =>
  (F_belts_Wait [(T_Belt.mk (-1) 5), (T_Belt.mk 0 3)] x5.1 5).bind fun x7 =>
  (F_belts_Start [(T_Belt.mk (-1) 5), (T_Belt.mk 0 3)] x7.1 1).bind fun x9 =>
  (F_belts_Wait [(T_Belt.mk (-1) 5), (T_Belt.mk 0 3)] x9.1 9).bind fun x11 =>
  (F_belts_Pull [(T_Belt.mk (-1) 5), (T_Belt.mk 0 3)] x11.1 0).bind fun x13 =>
  (F_belts_Above [(T_Belt.mk (-1) 5), (T_Belt.mk 0 3)] 0).bind fun x15 =>
  bif (decide (x1.2 = 0)) then
    bif (decide (x3.2 = 10)) then
      bif (decide (x5.2 = 0)) then
        bif (decide (x7.2 = 0)) then
          bif (decide (x9.2 = 0)) then
            bif (decide (x11.2 = 0)) then
              bif (decide (x13.2 = 0)) then
                bif (decide (((x11.1.States).length : Int) = 2)) then
                  (getI x11.1.States 1).bind fun x25 =>
                  bif (decide (x25 = 2)) then
                    (getI x11.1.Since 1).bind fun x28 =>
                    bif (decide (x28 = 8)) then
                      bif (decide (((x13.1.States).length : Int) = 2)) then
                        (getI x13.1.States 1).bind fun x32 =>
                        bif (decide (x32 = 0)) then
                          some (decide (((x15).length : Int) = 1))
                        else
                          some false
                      else
                        some false
                    else
                      some false
                  else
                    some false
                else
                  some false
              else
                some false
            else
              some false
          else
            some false
        else
          some false
      else
        some false
    else
      some false
  else
    some false

noncomputable def F_made_Roll (p0 : List Int) : Option (T_made_Dice) :=
  some (T_made_Dice.mk p0 0)

noncomputable def F_made_Mod (p0 : Int) (p1 : Int) : Option (Int) :=
  bif (decide (p1 < 1)) then
    some 0
  else
    (remI p0 p1).bind fun x2 =>
    (bif (decide (x2 < 0)) then
      some (IntKind.i64.wrap (x2 + p1))
    else
      some x2).bind fun o4 =>
    some o4

noncomputable def F_made_Dice_Next (p0 : T_made_Dice) (p1 : Int) : Option (T_made_Dice × Int) :=
  bif (decide (((p0.L).length : Int) ≤ p0.At)) then
    some (p0, 0)
  else
    (getI p0.L (IntKind.i64.wrap ((IntKind.i64.wrap (p0.At + 1)) - 1))).bind fun x2 =>
    (F_made_Mod x2 p1).bind fun x4 =>
    some ((T_made_Dice.mk p0.L (IntKind.i64.wrap (p0.At + 1))), x4)

noncomputable def F_made_Dice_Of (p0 : T_made_Dice) (p1 : List Int) : Option (T_made_Dice × Int) :=
  (F_made_Dice_Next p0 ((p1).length : Int)).bind fun x1 =>
  (getI p1 x1.2).bind fun x3 =>
  some (x1.1, x3)

noncomputable def F_ref39_Copy (p0 : T_Line) : Option (T_Line) :=
  (appI 8 ([] : List Int) p0.States).bind fun x1 =>
  (appI 8 ([] : List Int) p0.Since).bind fun x3 =>
  (appI 1 ([] : List Bool) p0.Pulled).bind fun x5 =>
  (appI 1 ([] : List Bool) p0.Held).bind fun x7 =>
  some (T_Line.mk p0.Time x1 x3 x5 x7)

noncomputable def F_ref39_belts_L1 (p0 : List T_Belt) (s4 : Int) : Option (Int ⊕ (Unit ⊕ Unit)) :=
  bif (decide (s4 < ((p0).length : Int))) then
    ((getI p0 s4).bind fun x10 =>
    bif (decide (x10.Onto < (-1))) then
      some true
    else
      (getI p0 s4).bind fun x13 =>
      bif (decide (((p0).length : Int) ≤ x13.Onto)) then
        some true
      else
        (getI p0 s4).bind fun x16 =>
        bif (decide (x16.Onto = s4)) then
          some true
        else
          (getI p0 s4).bind fun x19 =>
          bif (decide (x19.Warn < 0)) then
            some true
          else
            (getI p0 s4).bind fun x22 =>
            some (decide (120 < x22.Warn))).bind fun o9 =>
    bif o9 then
      some (Sum.inr (Sum.inl ()))
    else
      some (Sum.inl (IntKind.i64.wrap (s4 + 1)))
  else
    some (Sum.inr (Sum.inr ()))

noncomputable def F_ref39_belts_L3 (p0 : List T_Belt) (s32 : Int × Int) : Option ((Int × Int) ⊕ (Unit ⊕ Unit)) :=
  bif (decide (0 ≤ s32.1)) then
    bif (decide (((p0).length : Int) < s32.2)) then
      some (Sum.inr (Sum.inl ()))
    else
      (getI p0 s32.1).bind fun x38 =>
      some (Sum.inl (x38.Onto, (IntKind.i64.wrap (s32.2 + 1))))
  else
    some (Sum.inr (Sum.inr ()))

noncomputable def F_ref39_belts_L2 (p0 : List T_Belt) (s25 : Int) : Option (Int ⊕ (Unit ⊕ Unit)) :=
  bif (decide (s25 < ((p0).length : Int))) then
    (getI p0 s25).bind fun x30 =>
    (loopC (F_ref39_belts_L3 p0) (x30.Onto, 0)).bind fun o33 =>
    Sum.elim (fun j34 =>
      some (Sum.inr (Sum.inl ())))
    (fun j35 =>
      some (Sum.inl (IntKind.i64.wrap (s25 + 1)))) o33
  else
    some (Sum.inr (Sum.inr ()))

noncomputable def F_ref39_belts (p0 : List T_Belt) : Option (Bool) :=
  (bif (decide (((p0).length : Int) < 1)) then
    some true
  else
    some (decide (24 < ((p0).length : Int)))).bind fun o1 =>
  bif o1 then
    some false
  else
    (loopC (F_ref39_belts_L1 p0) 0).bind fun o5 =>
    Sum.elim (fun j6 =>
      some false)
    (fun j7 =>
      (loopC (F_ref39_belts_L2 p0) 0).bind fun o26 =>
      Sum.elim (fun j27 =>
        some false)
      (fun j28 =>
        some true) o26) o5

noncomputable def F_ref39_Valid_L1 (p0 : List T_Belt) (p1 : T_Line) (s11 : Int) : Option (Int ⊕ (Unit ⊕ Unit)) :=
  bif (decide (s11 < ((p0).length : Int))) then
    (getI p1.States s11).bind fun x16 =>
    (bif (decide (x16 < 0)) then
      some true
    else
      bif (decide (2 < x16)) then
        some true
      else
        (getI p1.Since s11).bind fun x21 =>
        bif (decide (x21 < 0)) then
          some true
        else
          (getI p1.Since s11).bind fun x24 =>
          some (decide (p1.Time < x24))).bind fun o18 =>
    bif o18 then
      some (Sum.inr (Sum.inl ()))
    else
      (bif (decide (x16 ≠ 0)) then
        (getI p1.Pulled s11).bind fun x29 =>
        bif x29 then
          some true
        else
          (getI p1.Held s11).bind fun x32 =>
          bif x32 then
            some true
          else
            (getI p0 s11).bind fun x35 =>
            bif (decide (0 ≤ x35.Onto)) then
              (getI p0 s11).bind fun x38 =>
              (getI p1.States x38.Onto).bind fun x40 =>
              some (decide (x40 ≠ 2))
            else
              some false
      else
        some false).bind fun o27 =>
      bif o27 then
        some (Sum.inr (Sum.inl ()))
      else
        some (Sum.inl (IntKind.i64.wrap (s11 + 1)))
  else
    some (Sum.inr (Sum.inr ()))

noncomputable def F_ref39_Valid (p0 : List T_Belt) (p1 : T_Line) : Option (Bool) :=
  ((F_ref39_belts p0).bind fun x2 =>
  bif (!x2) then
    some true
  else
    bif (decide (((p1.States).length : Int) ≠ ((p0).length : Int))) then
      some true
    else
      bif (decide (((p1.Since).length : Int) ≠ ((p0).length : Int))) then
        some true
      else
        bif (decide (((p1.Pulled).length : Int) ≠ ((p0).length : Int))) then
          some true
        else
          bif (decide (((p1.Held).length : Int) ≠ ((p0).length : Int))) then
            some true
          else
            bif (decide (p1.Time < 0)) then
              some true
            else
              some (decide (2147483648 < p1.Time))).bind fun o1 =>
  bif o1 then
    some false
  else
    (loopC (F_ref39_Valid_L1 p0 p1) 0).bind fun o12 =>
    Sum.elim (fun j13 =>
      some false)
    (fun j14 =>
      some true) o12

noncomputable def F_ref39_check (p0 : List T_Belt) (p1 : T_Line) (p2 : Int) : Option (Int) :=
  (F_ref39_Valid p0 p1).bind fun x1 =>
  bif (!x1) then
    some 6
  else
    (bif (decide (p2 < 0)) then
      some true
    else
      some (decide (((p0).length : Int) ≤ p2))).bind fun o4 =>
    bif o4 then
      some 52
    else
      some 0

noncomputable def F_ref39_Start (p0 : List T_Belt) (p1 : T_Line) (p2 : Int) : Option (T_Line × Int) :=
  (F_ref39_Copy p1).bind fun x1 =>
  (F_ref39_check p0 x1 p2).bind fun x3 =>
  bif (decide (x3 ≠ 0)) then
    some (x1, x3)
  else
    (getI x1.States p2).bind fun x6 =>
    bif (decide (x6 ≠ 0)) then
      some (x1, 10)
    else
      ((getI x1.Pulled p2).bind fun x10 =>
      bif x10 then
        some (true, x1)
      else
        (getI x1.Held p2).bind fun x13 =>
        some (x13, x1)).bind fun o9 =>
      bif o9.1 then
        some (o9.2, 51)
      else
        ((getI p0 p2).bind fun x17 =>
        bif (decide (0 ≤ x17.Onto)) then
          (getI p0 p2).bind fun x20 =>
          (getI o9.2.States x20.Onto).bind fun x22 =>
          some ((decide (x22 ≠ 2)), o9.2)
        else
          some (false, o9.2)).bind fun o16 =>
        bif o16.1 then
          some (o16.2, 10)
        else
          (getI o16.2.States p2).bind fun x25 =>
          (getI o16.2.Since p2).bind fun x27 =>
          some ((T_Line.mk o16.2.Time (o16.2.States.set ((p2).toNat) 1) (o16.2.Since.set ((p2).toNat) o16.2.Time) o16.2.Pulled o16.2.Held), 0)

noncomputable def F_ref39_Wait_L1 (p0 : List T_Belt) (p2 : Int) (s9 : Int × T_Line) : Option ((Int × T_Line) ⊕ T_Line) :=
  bif (decide (s9.1 < ((p0).length : Int))) then
    (((getI s9.2.States s9.1).bind fun x14 =>
    bif (decide (x14 = 1)) then
      (getI s9.2.Since s9.1).bind fun x17 =>
      (getI p0 s9.1).bind fun x19 =>
      some ((decide ((IntKind.i64.wrap (x17 + x19.Warn)) ≤ p2)), s9.2)
    else
      some (false, s9.2)).bind fun o13 =>
    bif o13.1 then
      (getI o13.2.Since s9.1).bind fun x22 =>
      (getI p0 s9.1).bind fun x24 =>
      (getI o13.2.States s9.1).bind fun x26 =>
      (getI o13.2.Since s9.1).bind fun x28 =>
      some (T_Line.mk o13.2.Time (o13.2.States.set ((s9.1).toNat) 2) (o13.2.Since.set ((s9.1).toNat) (IntKind.i64.wrap (x22 + x24.Warn))) o13.2.Pulled o13.2.Held)
    else
      some o13.2).bind fun o12 =>
    some (Sum.inl ((IntKind.i64.wrap (s9.1 + 1)), o12))
  else
    some (Sum.inr s9.2)

noncomputable def F_ref39_Wait (p0 : List T_Belt) (p1 : T_Line) (p2 : Int) : Option (T_Line × Int) :=
  (F_ref39_Copy p1).bind fun x1 =>
  (F_ref39_Valid p0 x1).bind fun x3 =>
  bif (!x3) then
    some (x1, 6)
  else
    (bif (decide (p2 < x1.Time)) then
      some (true, x1)
    else
      some ((decide (2147483648 < p2)), x1)).bind fun o6 =>
    bif o6.1 then
      some (o6.2, 8)
    else
      (loopC (F_ref39_Wait_L1 p0 p2) (0, o6.2)).bind fun o10 =>
      some ((T_Line.mk p2 o10.States o10.Since o10.Pulled o10.Held), 0)

noncomputable def F_belts_Stop_1 (p0 : T_Line) (p1 : List T_Belt) (p2 : Int) : Option (T_Line) :=
  (F_belts_stop p1 p0 p2).bind fun x5 =>
  some x5

noncomputable def F_belts_done__belts_Stop_1 (p0 : T_Line) (pc10 : List T_Belt) (pc11 : Int) : Option (T_Line) :=
  (F_slices_Clone___int_int_ p0.States).bind fun x1 =>
  (F_slices_Clone___int_int_ p0.Since).bind fun x3 =>
  (F_slices_Clone___bool_bool_ p0.Pulled).bind fun x5 =>
  (F_slices_Clone___bool_bool_ p0.Held).bind fun x7 =>
  (F_belts_Stop_1 (T_Line.mk p0.Time x1 x3 x5 x7) pc10 pc11).bind fun x9 =>
  some x9

noncomputable def F_belts_Stop (p0 : List T_Belt) (p1 : T_Line) (p2 : Int) : Option (T_Line × Int) :=
  (F_belts_checked p0 p1 p2).bind fun x1 =>
  bif (decide (x1 ≠ 0)) then
    some (p1, x1)
  else
    (F_belts_done__belts_Stop_1 p1 p0 p2).bind fun x4 =>
    some (x4, 0)

noncomputable def F_ref39_Above_L2 (p0 : List T_Belt) (p1 : Int) (s7 : Int × List Int) (s12 : Int × List Int) : Option ((Int × List Int) ⊕ (List Int)) :=
  bif (decide (0 ≤ s12.1)) then
    (bif (decide (s12.1 = p1)) then
      (appI 8 s12.2 [s7.1]).bind fun x17 =>
      some x17
    else
      some s12.2).bind fun o15 =>
    (getI p0 s12.1).bind fun x19 =>
    some (Sum.inl (x19.Onto, o15))
  else
    some (Sum.inr s12.2)

noncomputable def F_ref39_Above_L1 (p0 : List T_Belt) (p1 : Int) (s7 : Int × List Int) : Option ((Int × List Int) ⊕ (List Int)) :=
  bif (decide (s7.1 < ((p0).length : Int))) then
    (getI p0 s7.1).bind fun x10 =>
    (loopC (F_ref39_Above_L2 p0 p1 s7) (x10.Onto, s7.2)).bind fun o13 =>
    some (Sum.inl ((IntKind.i64.wrap (s7.1 + 1)), o13))
  else
    some (Sum.inr s7.2)

noncomputable def F_ref39_Above (p0 : List T_Belt) (p1 : Int) : Option (List Int) :=
  ((F_ref39_belts p0).bind fun x2 =>
  bif (!x2) then
    some true
  else
    bif (decide (p1 < 0)) then
      some true
    else
      some (decide (((p0).length : Int) ≤ p1))).bind fun o1 =>
  bif o1 then
    some ([] : List Int)
  else
    (loopC (F_ref39_Above_L1 p0 p1) (0, ([] : List Int))).bind fun o8 =>
    some o8

noncomputable def F_ref39_stop_L1  (s7 : List Int × Int × T_Line) : Option ((List Int × Int × T_Line) ⊕ T_Line) :=
  bif (decide (s7.2.1 < ((s7.1).length : Int))) then
    ((getI s7.1 s7.2.1).bind fun x11 =>
    (getI s7.2.2.States x11).bind fun x13 =>
    bif (decide (x13 ≠ 0)) then
      (getI s7.1 s7.2.1).bind fun x16 =>
      (getI s7.1 s7.2.1).bind fun x18 =>
      (getI s7.2.2.States x16).bind fun x20 =>
      (getI s7.2.2.Since x18).bind fun x22 =>
      some (T_Line.mk s7.2.2.Time (s7.2.2.States.set ((x16).toNat) 0) (s7.2.2.Since.set ((x18).toNat) s7.2.2.Time) s7.2.2.Pulled s7.2.2.Held)
    else
      some s7.2.2).bind fun o10 =>
    some (Sum.inl (s7.1, (IntKind.i64.wrap (s7.2.1 + 1)), o10))
  else
    some (Sum.inr s7.2.2)

noncomputable def F_ref39_stop (p0 : List T_Belt) (p1 : T_Line) (p2 : Int) : Option (T_Line) :=
  (F_ref39_Copy p1).bind fun x1 =>
  (F_ref39_Above p0 p2).bind fun x3 =>
  (appI 8 x3 [p2]).bind fun x5 =>
  (loopC F_ref39_stop_L1 (x5, 0, x1)).bind fun o8 =>
  some o8

noncomputable def F_ref39_Stop (p0 : List T_Belt) (p1 : T_Line) (p2 : Int) : Option (T_Line × Int) :=
  (F_ref39_check p0 p1 p2).bind fun x1 =>
  bif (decide (x1 ≠ 0)) then
    (F_ref39_Copy p1).bind fun x4 =>
    some (x4, x1)
  else
    (F_ref39_stop p0 p1 p2).bind fun x6 =>
    some (x6, 0)

noncomputable def F_ref39_Pull (p0 : List T_Belt) (p1 : T_Line) (p2 : Int) : Option (T_Line × Int) :=
  (F_ref39_check p0 p1 p2).bind fun x1 =>
  bif (decide (x1 ≠ 0)) then
    (F_ref39_Copy p1).bind fun x4 =>
    some (x4, x1)
  else
    (F_ref39_stop p0 p1 p2).bind fun x6 =>
    (getI x6.Pulled p2).bind fun x8 =>
    some ((T_Line.mk x6.Time x6.States x6.Since (x6.Pulled.set ((p2).toNat) true) x6.Held), 0)

noncomputable def F_belts_Restore_1 (p0 : T_Line) (p1 : Int) : Option (T_Line) :=
  (getI p0.Pulled p1).bind fun x5 =>
  some (T_Line.mk p0.Time p0.States p0.Since (p0.Pulled.set ((p1).toNat) false) p0.Held)

noncomputable def F_belts_done__belts_Restore_1 (p0 : T_Line) (pc10 : Int) : Option (T_Line) :=
  (F_slices_Clone___int_int_ p0.States).bind fun x1 =>
  (F_slices_Clone___int_int_ p0.Since).bind fun x3 =>
  (F_slices_Clone___bool_bool_ p0.Pulled).bind fun x5 =>
  (F_slices_Clone___bool_bool_ p0.Held).bind fun x7 =>
  (F_belts_Restore_1 (T_Line.mk p0.Time x1 x3 x5 x7) pc10).bind fun x9 =>
  some x9

noncomputable def F_belts_Restore (p0 : List T_Belt) (p1 : T_Line) (p2 : Int) : Option (T_Line × Int) :=
  (F_belts_checked p0 p1 p2).bind fun x1 =>
  bif (decide (x1 ≠ 0)) then
    some (p1, x1)
  else
    (getI p1.Pulled p2).bind fun x4 =>
    bif (!x4) then
      some (p1, 10)
    else
      (F_belts_done__belts_Restore_1 p1 p2).bind fun x7 =>
      some (x7, 0)

noncomputable def F_ref39_Restore (p0 : List T_Belt) (p1 : T_Line) (p2 : Int) : Option (T_Line × Int) :=
  (F_ref39_Copy p1).bind fun x1 =>
  (F_ref39_check p0 x1 p2).bind fun x3 =>
  bif (decide (x3 ≠ 0)) then
    some (x1, x3)
  else
    (getI x1.Pulled p2).bind fun x6 =>
    bif (!x6) then
      some (x1, 10)
    else
      (getI x1.Pulled p2).bind fun x9 =>
      some ((T_Line.mk x1.Time x1.States x1.Since (x1.Pulled.set ((p2).toNat) false) x1.Held), 0)

noncomputable def F_belts_Hold_1 (p0 : T_Line) (p1 : Bool) (p2 : List T_Belt) (p3 : Int) : Option (T_Line) :=
  (bif p1 then
    (F_belts_stop p2 p0 p3).bind fun x7 =>
    some (x7.Time, x7.States, x7.Since, x7.Pulled, x7.Held)
  else
    some (p0.Time, p0.States, p0.Since, p0.Pulled, p0.Held)).bind fun o5 =>
  (getI o5.2.2.2.2 p3).bind fun x13 =>
  some (T_Line.mk o5.1 o5.2.1 o5.2.2.1 o5.2.2.2.1 (o5.2.2.2.2.set ((p3).toNat) p1))

noncomputable def F_belts_done__belts_Hold_1 (p0 : T_Line) (pc10 : Bool) (pc11 : List T_Belt) (pc12 : Int) : Option (T_Line) :=
  (F_slices_Clone___int_int_ p0.States).bind fun x1 =>
  (F_slices_Clone___int_int_ p0.Since).bind fun x3 =>
  (F_slices_Clone___bool_bool_ p0.Pulled).bind fun x5 =>
  (F_slices_Clone___bool_bool_ p0.Held).bind fun x7 =>
  (F_belts_Hold_1 (T_Line.mk p0.Time x1 x3 x5 x7) pc10 pc11 pc12).bind fun x9 =>
  some x9

noncomputable def F_belts_Hold (p0 : List T_Belt) (p1 : T_Line) (p2 : Int) (p3 : Bool) : Option (T_Line × Int) :=
  (F_belts_checked p0 p1 p2).bind fun x1 =>
  bif (decide (x1 ≠ 0)) then
    some (p1, x1)
  else
    (F_belts_done__belts_Hold_1 p1 p3 p0 p2).bind fun x4 =>
    some (x4, 0)

noncomputable def F_ref39_Hold (p0 : List T_Belt) (p1 : T_Line) (p2 : Int) (p3 : Bool) : Option (T_Line × Int) :=
  (F_ref39_Copy p1).bind fun x1 =>
  (F_ref39_check p0 x1 p2).bind fun x3 =>
  bif (decide (x3 ≠ 0)) then
    some (x1, x3)
  else
    (bif p3 then
      (F_ref39_stop p0 x1 p2).bind fun x8 =>
      some x8
    else
      some x1).bind fun o6 =>
    (getI o6.Held p2).bind fun x10 =>
    some ((T_Line.mk o6.Time o6.States o6.Since o6.Pulled (o6.Held.set ((p2).toNat) p3)), 0)

noncomputable def F_law39_step (p0 : List T_Belt) (p1 : T_Line) (p2 : Int) (p3 : Int) (p4 : Int) : Option (T_Line × Int × T_Line × Int) :=
  bif (decide (p2 = 0)) then
    (F_belts_Start p0 p1 p3).bind fun x2 =>
    (F_ref39_Start p0 p1 p3).bind fun x4 =>
    some (x2.1, x2.2, x4.1, x4.2)
  else
    bif (decide (p2 = 1)) then
      (F_belts_Wait p0 p1 p4).bind fun x7 =>
      (F_ref39_Wait p0 p1 p4).bind fun x9 =>
      some (x7.1, x7.2, x9.1, x9.2)
    else
      bif (decide (p2 = 2)) then
        (F_belts_Stop p0 p1 p3).bind fun x12 =>
        (F_ref39_Stop p0 p1 p3).bind fun x14 =>
        some (x12.1, x12.2, x14.1, x14.2)
      else
        bif (decide (p2 = 3)) then
          (F_belts_Pull p0 p1 p3).bind fun x17 =>
          (F_ref39_Pull p0 p1 p3).bind fun x19 =>
          some (x17.1, x17.2, x19.1, x19.2)
        else
          bif (decide (p2 = 4)) then
            (F_belts_Restore p0 p1 p3).bind fun x22 =>
            (F_ref39_Restore p0 p1 p3).bind fun x24 =>
            some (x22.1, x22.2, x24.1, x24.2)
          else
            (F_belts_Hold p0 p1 p3 (decide ((Int.tmod p4 2) = 0))).bind fun x26 =>
            (F_ref39_Hold p0 p1 p3 (decide ((Int.tmod p4 2) = 0))).bind fun x28 =>
            some (x26.1, x26.2, x28.1, x28.2)

noncomputable def F_ref23_SameInts_L1 (p0 : List Int) (p1 : List Int) (s2 : Int) : Option (Int ⊕ (Unit ⊕ Unit)) :=
  bif (decide (s2 < ((p0).length : Int))) then
    (getI p0 s2).bind fun x7 =>
    (getI p1 s2).bind fun x9 =>
    bif (decide (x7 ≠ x9)) then
      some (Sum.inr (Sum.inl ()))
    else
      some (Sum.inl (IntKind.i64.wrap (s2 + 1)))
  else
    some (Sum.inr (Sum.inr ()))

noncomputable def F_ref23_SameInts (p0 : List Int) (p1 : List Int) : Option (Bool) :=
  bif (decide (((p0).length : Int) ≠ ((p1).length : Int))) then
    some false
  else
    (loopC (F_ref23_SameInts_L1 p0 p1) 0).bind fun o3 =>
    Sum.elim (fun j4 =>
      some false)
    (fun j5 =>
      some true) o3

noncomputable def F_ref39_sameBools_L1 (p0 : List Bool) (p1 : List Bool) (s2 : Int) : Option (Int ⊕ (Unit ⊕ Unit)) :=
  bif (decide (s2 < ((p0).length : Int))) then
    (getI p0 s2).bind fun x7 =>
    (getI p1 s2).bind fun x9 =>
    bif (x7 != x9) then
      some (Sum.inr (Sum.inl ()))
    else
      some (Sum.inl (IntKind.i64.wrap (s2 + 1)))
  else
    some (Sum.inr (Sum.inr ()))

noncomputable def F_ref39_sameBools (p0 : List Bool) (p1 : List Bool) : Option (Bool) :=
  bif (decide (((p0).length : Int) ≠ ((p1).length : Int))) then
    some false
  else
    (loopC (F_ref39_sameBools_L1 p0 p1) 0).bind fun o3 =>
    Sum.elim (fun j4 =>
      some false)
    (fun j5 =>
      some true) o3

noncomputable def F_ref39_Same (p0 : T_Line) (p1 : T_Line) : Option (Bool) :=
  bif (decide (p0.Time = p1.Time)) then
    (F_ref23_SameInts p0.States p1.States).bind fun x2 =>
    bif x2 then
      (F_ref23_SameInts p0.Since p1.Since).bind fun x5 =>
      bif x5 then
        (F_ref39_sameBools p0.Pulled p1.Pulled).bind fun x8 =>
        bif x8 then
          (F_ref39_sameBools p0.Held p1.Held).bind fun x11 =>
          some x11
        else
          some false
      else
        some false
    else
      some false
  else
    some false

noncomputable def F_ref39_Make (p0 : List T_Belt) : Option (T_Line × Int) :=
  (F_ref39_belts p0).bind fun x1 =>
  bif (!x1) then
    some ((T_Line.mk 0 ([] : List Int) ([] : List Int) ([] : List Bool) ([] : List Bool)), 6)
  else
    (makI 8 0 ((p0).length : Int)).bind fun x4 =>
    (makI 8 0 ((p0).length : Int)).bind fun x6 =>
    (makI 1 false ((p0).length : Int)).bind fun x8 =>
    (makI 1 false ((p0).length : Int)).bind fun x10 =>
    some ((T_Line.mk 0 x4 x6 x8 x10), 0)

noncomputable def F_law39_agree_L1 (p0 : List T_Belt) (p1 : T_Line) (p2 : Int) (p3 : Int) (s1 : Int) : Option (Int ⊕ (Unit ⊕ Unit)) :=
  bif (decide (s1 < 6)) then
    (F_law39_step p0 p1 s1 p2 p3).bind fun x6 =>
    (bif (decide (x6.2.1 ≠ x6.2.2.2)) then
      some true
    else
      (F_ref39_Same x6.1 x6.2.2.1).bind fun x10 =>
      some (!x10)).bind fun o8 =>
    bif o8 then
      some (Sum.inr (Sum.inl ()))
    else
      some (Sum.inl (IntKind.i64.wrap (s1 + 1)))
  else
    some (Sum.inr (Sum.inr ()))

noncomputable def F_law39_agree (p0 : List T_Belt) (p1 : T_Line) (p2 : Int) (p3 : Int) : Option (Bool) :=
  (loopC (F_law39_agree_L1 p0 p1 p2 p3) 0).bind fun o2 =>
  Sum.elim (fun j3 =>
    some false)
  (fun j4 =>
    (F_belts_Make p0).bind fun x13 =>
    (F_ref39_Make p0).bind fun x15 =>
    bif (decide (x13.2 = x15.2)) then
      (F_ref39_Same x13.1 x15.1).bind fun x18 =>
      bif x18 then
        (F_belts_Valid p0 p1).bind fun x21 =>
        (F_ref39_Valid p0 p1).bind fun x23 =>
        bif (x21 == x23) then
          (F_belts_Above p0 p2).bind fun x26 =>
          (F_ref39_Above p0 p2).bind fun x28 =>
          (F_ref23_SameInts x26 x28).bind fun x30 =>
          some x30
        else
          some false
      else
        some false
    else
      some false) o2

noncomputable def F_law39_BeltsRaw (p0 : List T_Belt) (p1 : T_Line) (p2 : A2_Int) : Option (Bool) :=
  (bif (decide (40 < ((p0).length : Int))) then
    some true
  else
    bif (decide (40 < ((p1.States).length : Int))) then
      some true
    else
      bif (decide (40 < ((p1.Since).length : Int))) then
        some true
      else
        bif (decide (40 < ((p1.Pulled).length : Int))) then
          some true
        else
          some (decide (40 < ((p1.Held).length : Int)))).bind fun o1 =>
  bif o1 then
    (F_law39_awake).bind fun x7 =>
    some x7
  else
    (F_law39_awake).bind fun x9 =>
    bif x9 then
      (F_law39_agree p0 p1 p2.a0 p2.a1).bind fun x12 =>
      bif x12 then
        (F_made_Mod p2.a0 ((p0).length : Int)).bind fun x15 =>
        (F_law39_agree p0 p1 x15 p2.a1).bind fun x17 =>
        some x17
      else
        some false
    else
      some false

noncomputable def F_made_Dice_One (p0 : T_made_Dice) (p1 : Int) : Option (T_made_Dice × Bool) :=
  (F_made_Dice_Next p0 p1).bind fun x1 =>
  some (x1.1, (decide (x1.2 = (IntKind.i64.wrap (p1 - 1)))))

noncomputable def F_law39_some_L1  (s3 : Int × List T_Belt × T_made_Dice) : Option ((Int × List T_Belt × T_made_Dice) ⊕ (List T_Belt × T_made_Dice)) :=
  bif (decide (0 < s3.1)) then
    (F_made_Dice_Next s3.2.2 (IntKind.i64.wrap (((s3.2.1).length : Int) + 1))).bind fun x6 =>
    (F_made_Dice_Of x6.1 [5, 0, 20]).bind fun x8 =>
    (appI 16 s3.2.1 [(T_Belt.mk (IntKind.i64.wrap (x6.2 - 1)) x8.2)]).bind fun x10 =>
    some (Sum.inl ((IntKind.i64.wrap (s3.1 - 1)), x10, x8.1))
  else
    some (Sum.inr (s3.2.1, s3.2.2))

noncomputable def F_law39_some (p0 : T_made_Dice) : Option (T_made_Dice × List T_Belt) :=
  (F_made_Dice_Next p0 6).bind fun x1 =>
  (loopC F_law39_some_L1 ((IntKind.i64.wrap (1 + x1.2)), ([] : List T_Belt), x1.1)).bind fun o4 =>
  (F_made_Dice_One o4.2 6).bind fun x12 =>
  (bif x12.2 then
    (getI o4.1 0).bind fun x16 =>
    some (o4.1.set (((0 : Int)).toNat) (T_Belt.mk (IntKind.i64.wrap (((o4.1).length : Int) - 1)) x16.Warn))
  else
    some o4.1).bind fun o14 =>
  some (x12.1, o14)

noncomputable def F_law39_BeltsMade_L1 (x8 : T_made_Dice × List T_Belt) (s14 : Int × T_made_Dice × T_Line) : Option ((Int × T_made_Dice × T_Line) ⊕ (Unit ⊕ (T_made_Dice × T_Line))) :=
  bif (decide (0 < s14.1)) then
    (F_made_Dice_Next s14.2.1 (IntKind.i64.wrap (((x8.2).length : Int) + 1))).bind fun x19 =>
    (F_made_Dice_Next x19.1 2).bind fun x21 =>
    (F_made_Dice_Of x21.1 [5, 0, 3, 20, (-1)]).bind fun x23 =>
    (F_law39_agree x8.2 s14.2.2 (IntKind.i64.wrap (x19.2 - x21.2)) (IntKind.i64.wrap (s14.2.2.Time + x23.2))).bind fun x25 =>
    bif (!x25) then
      some (Sum.inr (Sum.inl ()))
    else
      (F_made_Dice_Of x23.1 [0, 0, 1, 1, 2, 3, 4, 5]).bind fun x28 =>
      (F_law39_step x8.2 s14.2.2 x28.2 (IntKind.i64.wrap (x19.2 - x21.2)) (IntKind.i64.wrap (s14.2.2.Time + x23.2))).bind fun x30 =>
      some (Sum.inl ((IntKind.i64.wrap (s14.1 - 1)), x28.1, x30.2.2.1))
  else
    some (Sum.inr (Sum.inr (s14.2.1, s14.2.2)))

noncomputable def F_law39_BeltsMade (p0 : List Int) : Option (Bool) :=
  (F_made_Light p0).bind fun x1 =>
  bif (!x1) then
    (F_law39_awake).bind fun x4 =>
    some x4
  else
    (F_made_Roll p0).bind fun x6 =>
    (F_law39_some x6).bind fun x8 =>
    (F_ref39_Make x8.2).bind fun x10 =>
    (F_made_Dice_Next x8.1 20).bind fun x12 =>
    (loopC (F_law39_BeltsMade_L1 x8) (x12.2, x12.1, x10.1)).bind fun o15 =>
    Sum.elim (fun j16 =>
      some false)
    (fun j17 =>
      (bif (decide (0 < ((j17.2.States).length : Int))) then
        (F_made_Dice_Next j17.1 ((x8.2).length : Int)).bind fun x34 =>
        (F_made_Dice_Next x34.1 4).bind fun x36 =>
        bif (decide (x36.2 = 0)) then
          (F_made_Dice_Of x36.1 [2, 3, (-1)]).bind fun x39 =>
          (getI j17.2.States x34.2).bind fun x41 =>
          some (T_Line.mk j17.2.Time (j17.2.States.set ((x34.2).toNat) x39.2) j17.2.Since j17.2.Pulled j17.2.Held)
        else
          bif (decide (x36.2 = 1)) then
            (getI j17.2.Since x34.2).bind fun x44 =>
            some (T_Line.mk j17.2.Time j17.2.States (j17.2.Since.set ((x34.2).toNat) (IntKind.i64.wrap (j17.2.Time + 1))) j17.2.Pulled j17.2.Held)
          else
            bif (decide (x36.2 = 2)) then
              (getI j17.2.Pulled x34.2).bind fun x47 =>
              some (T_Line.mk j17.2.Time j17.2.States j17.2.Since (j17.2.Pulled.set ((x34.2).toNat) true) j17.2.Held)
            else
              (sliI j17.2.Held 1 ((j17.2.Held).length)).bind fun x49 =>
              some (T_Line.mk j17.2.Time j17.2.States j17.2.Since j17.2.Pulled x49)
      else
        some j17.2).bind fun o32 =>
      (F_law39_awake).bind fun x51 =>
      bif x51 then
        (F_law39_agree x8.2 o32 0 (IntKind.i64.wrap (o32.Time + 5))).bind fun x54 =>
        some x54
      else
        some false) o15

end Go.L
