/- Printed by wip/lift/lift.py: the functions of the program, as partial functions of plain data. -/
import Derived.Test.YtlbiodgefifhoaaAmlZ
namespace Go.L
open Go Go.Aml

structure T_draw_Codes where
  l : List Int
  at_ : Int
  deriving DecidableEq
def T_draw_Codes.enc (x : T_draw_Codes) : PV := .agg [.vs 1 (List.map (PV.int .u8) x.l), .int .i64 x.at_]
theorem T_draw_Codes.enc_lt (x : T_draw_Codes) : LtN 0 x.enc := lt_agg ⟨.vs _ _, .int _ _, trivial⟩

structure T_Level where
  Cut : Int
  Clear : Int
  Delay : Int
  deriving DecidableEq
def T_Level.enc (x : T_Level) : PV := .agg [.int .i64 x.Cut, .int .i64 x.Clear, .int .i64 x.Delay]
theorem T_Level.enc_lt (x : T_Level) : LtN 0 x.enc := lt_agg ⟨.int _ _, .int _ _, .int _ _, trivial⟩

structure T_Watch where
  Over : Bool
  Since : Int
  Last : Int
  deriving DecidableEq
def T_Watch.enc (x : T_Watch) : PV := .agg [.bool x.Over, .int .i64 x.Since, .int .i64 x.Last]
theorem T_Watch.enc_lt (x : T_Watch) : LtN 0 x.enc := lt_agg ⟨.bool _, .int _ _, .int _ _, trivial⟩

structure T_Span where
  Low : Int
  High : Int
  deriving DecidableEq
def T_Span.enc (x : T_Span) : PV := .agg [.int .i64 x.Low, .int .i64 x.High]
theorem T_Span.enc_lt (x : T_Span) : LtN 0 x.enc := lt_agg ⟨.int _ _, .int _ _, trivial⟩

structure T_law17_seen where
  wait : Int
  low : Int
  high : Int
  deriving DecidableEq
def T_law17_seen.enc (x : T_law17_seen) : PV := .agg [.int .i64 x.wait, .int .i64 x.low, .int .i64 x.high]
theorem T_law17_seen.enc_lt (x : T_law17_seen) : LtN 0 x.enc := lt_agg ⟨.int _ _, .int _ _, .int _ _, trivial⟩

def T_draw_Codes.Wf (x : T_draw_Codes) : Prop := (InL (In .u8)) x.l ∧ (In .i64) x.at_ ∧ True
def T_Level.Wf (x : T_Level) : Prop := (In .i64) x.Cut ∧ (In .i64) x.Clear ∧ (In .i64) x.Delay ∧ True
def T_Watch.Wf (x : T_Watch) : Prop := (fun _ => True) x.Over ∧ (In .i64) x.Since ∧ (In .i64) x.Last ∧ True
def T_Span.Wf (x : T_Span) : Prop := (In .i64) x.Low ∧ (In .i64) x.High ∧ True
def T_law17_seen.Wf (x : T_law17_seen) : Prop := (In .i64) x.wait ∧ (In .i64) x.low ∧ (In .i64) x.high ∧ True

noncomputable def F_draw_New (p0 : List Int) : Option (T_draw_Codes) :=
  (sliI p0 0 (min ((p0).length : Int) 300)).bind fun x1 =>
  some (T_draw_Codes.mk x1 0)

noncomputable def F_draw_Codes_Next (p0 : T_draw_Codes) (p1 : Int) : Option (T_draw_Codes × Int) :=
  (bif (decide (p1 < 1)) then
    some true
  else
    some (decide (((p0.l).length : Int) ≤ p0.at_))).bind fun o1 =>
  bif o1 then
    some (p0, 0)
  else
    (getI p0.l (IntKind.i64.wrap ((IntKind.i64.wrap (p0.at_ + 1)) - 1))).bind fun x4 =>
    (bif (decide (256 < p1)) then
      some (decide ((IntKind.i64.wrap (p0.at_ + 1)) < ((p0.l).length : Int)))
    else
      some false).bind fun o6 =>
    (bif o6 then
      (getI p0.l (IntKind.i64.wrap (p0.at_ + 1))).bind fun x10 =>
      some ((IntKind.i64.wrap ((IntKind.i64.wrap ((IntKind.i64.wrap x4) * 256)) + (IntKind.i64.wrap x10))), (IntKind.i64.wrap ((IntKind.i64.wrap (p0.at_ + 1)) + 1)))
    else
      some ((IntKind.i64.wrap x4), (IntKind.i64.wrap (p0.at_ + 1)))).bind fun o8 =>
    (remI o8.1 p1).bind fun x12 =>
    some ((T_draw_Codes.mk p0.l o8.2), x12)

noncomputable def F_draw_Codes_Range (p0 : T_draw_Codes) (p1 : Int) (p2 : Int) : Option (T_draw_Codes × Int) :=
  (F_draw_Codes_Next p0 (IntKind.i64.wrap ((IntKind.i64.wrap (p2 - p1)) + 1))).bind fun x1 =>
  some (x1.1, (IntKind.i64.wrap (p1 + x1.2)))

noncomputable def F_draw_Codes_Level (p0 : T_draw_Codes) : Option (T_draw_Codes × T_Level) :=
  (F_draw_Codes_Range p0 1 120).bind fun x1 =>
  (F_draw_Codes_Next x1.1 12).bind fun x3 =>
  (F_draw_Codes_Next x3.1 x1.2).bind fun x5 =>
  some (x5.1, (T_Level.mk x1.2 x5.2 x3.2))

noncomputable def F_draw_Codes_One (p0 : T_draw_Codes) (p1 : Int) : Option (T_draw_Codes × Bool) :=
  (F_draw_Codes_Next p0 p1).bind fun x1 =>
  some (x1.1, (decide (x1.2 = (IntKind.i64.wrap (p1 - 1)))))

noncomputable def F_draw_Mod (p0 : Int) (p1 : Int) : Option (Int) :=
  bif (decide (p1 < 1)) then
    some 0
  else
    (remI p0 p1).bind fun x2 =>
    (bif (decide (x2 < 0)) then
      some (IntKind.i64.wrap (x2 + p1))
    else
      some x2).bind fun o4 =>
    some o4

noncomputable def F_level_Begin  : Option (T_Watch) :=
  some (T_Watch.mk true (-1) 0)

noncomputable def F_level_Check (p0 : T_Level) : Option (Int) :=
  (bif (decide (1000000 < p0.Cut)) then
    some true
  else
    bif (decide (p0.Clear < 0)) then
      some true
    else
      bif (decide (p0.Cut ≤ p0.Clear)) then
        some true
      else
        bif (decide (p0.Delay < 0)) then
          some true
        else
          some (decide (100000 < p0.Delay))).bind fun o1 =>
  bif o1 then
    some 1
  else
    some 0

noncomputable def F_window_Above (p0 : T_Span) (p1 : Int) : Option (Int) :=
  bif (decide (p0.High < p0.Low)) then
    some 0
  else
    bif (decide (p1 ≤ p0.Low)) then
      some 1
    else
      bif (decide (p0.High < p1)) then
        some (-1)
      else
        some 0

noncomputable def F_level_Step (p0 : T_Level) (p1 : T_Watch) (p2 : T_Span) (p3 : Int) : Option (T_Watch × Int) :=
  (F_level_Check p0).bind fun x1 =>
  bif (decide (x1 ≠ 0)) then
    some ((T_Watch.mk false 0 0), x1)
  else
    (bif (decide (p3 < 0)) then
      some true
    else
      bif (decide (2147483648 < p3)) then
        some true
      else
        some (decide (p3 < p1.Last))).bind fun o4 =>
    bif o4 then
      some ((T_Watch.mk false 0 0), 8)
    else
      (bif (decide (p1.Last < 0)) then
        some true
      else
        bif (decide (2147483648 < p1.Last)) then
          some true
        else
          bif (decide (p1.Since < (-1))) then
            some true
          else
            bif (decide (p1.Last < p1.Since)) then
              some true
            else
              bif (decide (p1.Since ≠ (-1))) then
                some (!p1.Over)
              else
                some false).bind fun o8 =>
      bif o8 then
        some ((T_Watch.mk false 0 0), 10)
      else
        ((F_window_Above p2 p0.Cut).bind fun x16 =>
        bif (decide (x16 ≠ (-1))) then
          some (T_Watch.mk true (-1) p3)
        else
          bif (!p1.Over) then
            some (T_Watch.mk p1.Over p1.Since p3)
          else
            bif (decide (p0.Clear < p2.High)) then
              some (T_Watch.mk p1.Over (-1) p3)
            else
              (bif (decide (p1.Since < 0)) then
                some p3
              else
                some p1.Since).bind fun o21 =>
              bif (decide (p0.Delay ≤ (IntKind.i64.wrap (p3 - o21)))) then
                some (T_Watch.mk false (-1) p3)
              else
                some (T_Watch.mk p1.Over o21 p3)).bind fun o15 =>
        some (o15, 0)

noncomputable def F_ref17_Check (p0 : T_Level) : Option (Int) :=
  (bif (decide (p0.Clear < 0)) then
    some true
  else
    bif (decide (p0.Cut ≤ p0.Clear)) then
      some true
    else
      bif (decide (1000000 < p0.Cut)) then
        some true
      else
        bif (decide (p0.Delay < 0)) then
          some true
        else
          some (decide (100000 < p0.Delay))).bind fun o1 =>
  bif o1 then
    some 1
  else
    some 0

noncomputable def F_ref06_Above (p0 : T_Span) (p1 : Int) : Option (Int) :=
  bif (decide (p0.High < p0.Low)) then
    some 0
  else
    bif (decide (p1 ≤ p0.Low)) then
      some 1
    else
      bif (decide (p0.High < p1)) then
        some (-1)
      else
        some 0

noncomputable def F_ref17_Step (p0 : T_Level) (p1 : T_Watch) (p2 : T_Span) (p3 : Int) : Option (T_Watch × Int) :=
  (F_ref17_Check p0).bind fun x1 =>
  bif (decide (x1 ≠ 0)) then
    some ((T_Watch.mk false 0 0), x1)
  else
    (bif (decide (p3 < 0)) then
      some true
    else
      bif (decide (2147483648 < p3)) then
        some true
      else
        some (decide (p3 < p1.Last))).bind fun o4 =>
    bif o4 then
      some ((T_Watch.mk false 0 0), 8)
    else
      (bif (decide (p1.Last < 0)) then
        some true
      else
        bif (decide (p1.Since < (-1))) then
          some true
        else
          bif (decide (p1.Last < p1.Since)) then
            some true
          else
            bif (decide (p1.Since ≠ (-1))) then
              some (!p1.Over)
            else
              some false).bind fun o8 =>
      bif o8 then
        some ((T_Watch.mk false 0 0), 10)
      else
        (F_ref06_Above p2 p0.Cut).bind fun x14 =>
        bif (decide (x14 ≠ (-1))) then
          some ((T_Watch.mk true (-1) p3), 0)
        else
          bif (!p1.Over) then
            some ((T_Watch.mk p1.Over p1.Since p3), 0)
          else
            bif (decide (p0.Clear < p2.High)) then
              some ((T_Watch.mk p1.Over (-1) p3), 0)
            else
              (bif (decide (p1.Since = (-1))) then
                some p3
              else
                some p1.Since).bind fun o19 =>
              (bif (decide (p0.Delay ≤ (IntKind.i64.wrap (p3 - o19)))) then
                some (T_Watch.mk false (-1) p3)
              else
                some (T_Watch.mk p1.Over o19 p3)).bind fun o21 =>
              some (o21, 0)

noncomputable def F_ref17_Begin  : Option (T_Watch) :=
  some (T_Watch.mk true (-1) 0)

noncomputable def F_level_Next (p0 : T_Level) (p1 : T_Watch) : Option (Int) :=
  ((F_level_Check p0).bind fun x2 =>
  bif (decide (x2 ≠ 0)) then
    some true
  else
    some (decide (p1.Since < 0))).bind fun o1 =>
  bif o1 then
    some 1099511627776
  else
    some (IntKind.i64.wrap (p1.Since + p0.Delay))

noncomputable def F_law17_awake  : Option (Bool) :=
  (F_level_Begin).bind fun x1 =>
  (F_level_Step (T_Level.mk 100 80 10) x1 (T_Span.mk 70 70) 5).bind fun x3 =>
  (F_level_Next (T_Level.mk 100 80 10) x3.1).bind fun x5 =>
  (F_level_Step (T_Level.mk 100 80 10) x3.1 (T_Span.mk 70 70) 15).bind fun x7 =>
  (F_level_Check (T_Level.mk 100 80 10)).bind fun x9 =>
  bif (decide (x9 = 0)) then
    bif (decide (x3.2 = 0)) then
      bif ((x3.1.Over == true) && ((x3.1.Since == 5) && ((x3.1.Last == 5) && true))) then
        bif (decide (x5 = 15)) then
          bif (decide (x7.2 = 0)) then
            some ((x7.1.Over == false) && ((x7.1.Since == (-1)) && ((x7.1.Last == 15) && true)))
          else
            some false
        else
          some false
      else
        some false
    else
      some false
  else
    some false

noncomputable def F_law17_LevelSteps_L3 (x3 : T_draw_Codes × T_Level) (x11 : Int) (x18 : T_Level) (x27 : T_Watch) (s33 : Int) : Option (Int ⊕ (Unit ⊕ Unit)) :=
  bif (decide (s33 < 3)) then
    (F_level_Step x18 x27 (T_Span.mk (-1) (IntKind.i64.wrap (x3.2.Clear + s33))) x11).bind fun x38 =>
    (F_ref17_Step x18 x27 (T_Span.mk (-1) (IntKind.i64.wrap (x3.2.Clear + s33))) x11).bind fun x40 =>
    (bif (!((x38.1.Over == x40.1.Over) && ((x38.1.Since == x40.1.Since) && ((x38.1.Last == x40.1.Last) && true)))) then
      some true
    else
      some (decide (x38.2 ≠ x40.2))).bind fun o42 =>
    bif o42 then
      some (Sum.inr (Sum.inl ()))
    else
      some (Sum.inl (IntKind.i64.wrap (s33 + 1)))
  else
    some (Sum.inr (Sum.inr ()))

noncomputable def F_law17_LevelSteps_L2 (p2 : T_Watch) (p3 : T_Span) (p4 : Int) (x3 : T_draw_Codes × T_Level) (x5 : T_draw_Codes × Bool) (x7 : T_draw_Codes × Int) (x9 : T_draw_Codes × Int) (x11 : Int) (x18 : T_Level) (x20 : T_Watch) (s22 : Int) : Option (Int ⊕ (Unit ⊕ Unit)) :=
  bif (decide (s22 < (([p2, (T_Watch.mk x5.2 x7.2 x9.2), x20]).length : Int))) then
    (getI [p2, (T_Watch.mk x5.2 x7.2 x9.2), x20] s22).bind fun x27 =>
    (F_level_Step x18 x27 p3 p4).bind fun x29 =>
    (F_ref17_Step x18 x27 p3 p4).bind fun x31 =>
    (loopC (F_law17_LevelSteps_L3 x3 x11 x18 x27) (-1)).bind fun o34 =>
    Sum.elim (fun j35 =>
      some (Sum.inr (Sum.inl ())))
    (fun j36 =>
      (bif (!((x29.1.Over == x31.1.Over) && ((x29.1.Since == x31.1.Since) && ((x29.1.Last == x31.1.Last) && true)))) then
        some true
      else
        some (decide (x29.2 ≠ x31.2))).bind fun o45 =>
      bif o45 then
        some (Sum.inr (Sum.inl ()))
      else
        some (Sum.inl (IntKind.i64.wrap (s22 + 1)))) o34
  else
    some (Sum.inr (Sum.inr ()))

noncomputable def F_law17_LevelSteps_L1 (p1 : T_Level) (p2 : T_Watch) (p3 : T_Span) (p4 : Int) (x3 : T_draw_Codes × T_Level) (x5 : T_draw_Codes × Bool) (x7 : T_draw_Codes × Int) (x9 : T_draw_Codes × Int) (x11 : Int) (s13 : Int) : Option (Int ⊕ (Unit ⊕ Unit)) :=
  bif (decide (s13 < (([x3.2, p1]).length : Int))) then
    (getI [x3.2, p1] s13).bind fun x18 =>
    (F_level_Begin).bind fun x20 =>
    (loopC (F_law17_LevelSteps_L2 p2 p3 p4 x3 x5 x7 x9 x11 x18 x20) 0).bind fun o23 =>
    Sum.elim (fun j24 =>
      some (Sum.inr (Sum.inl ())))
    (fun j25 =>
      (F_level_Check x18).bind fun x48 =>
      (F_ref17_Check x18).bind fun x50 =>
      bif (decide (x48 ≠ x50)) then
        some (Sum.inr (Sum.inl ()))
      else
        some (Sum.inl (IntKind.i64.wrap (s13 + 1)))) o23
  else
    some (Sum.inr (Sum.inr ()))

noncomputable def F_law17_LevelSteps (p0 : List Int) (p1 : T_Level) (p2 : T_Watch) (p3 : T_Span) (p4 : Int) : Option (Bool) :=
  (F_draw_New p0).bind fun x1 =>
  (F_draw_Codes_Level x1).bind fun x3 =>
  (F_draw_Codes_One x3.1 2).bind fun x5 =>
  (F_draw_Codes_Range x5.1 (-1) 9).bind fun x7 =>
  (F_draw_Codes_Range x7.1 0 9).bind fun x9 =>
  (F_draw_Mod p4 30).bind fun x11 =>
  (loopC (F_law17_LevelSteps_L1 p1 p2 p3 p4 x3 x5 x7 x9 x11) 0).bind fun o14 =>
  Sum.elim (fun j15 =>
    some false)
  (fun j16 =>
    (F_level_Begin).bind fun x53 =>
    (F_ref17_Begin).bind fun x55 =>
    bif ((x53.Over == x55.Over) && ((x53.Since == x55.Since) && ((x53.Last == x55.Last) && true))) then
      (F_law17_awake).bind fun x58 =>
      some x58
    else
      some false) o14

noncomputable def F_ref17_Next (p0 : T_Level) (p1 : T_Watch) : Option (Int) :=
  ((F_ref17_Check p0).bind fun x2 =>
  bif (decide (x2 ≠ 0)) then
    some true
  else
    some (decide (p1.Since < 0))).bind fun o1 =>
  bif o1 then
    some 1099511627776
  else
    some (IntKind.i64.wrap (p1.Since + p0.Delay))

noncomputable def F_law17_LevelNext (p0 : List Int) (p1 : T_Level) (p2 : T_Watch) : Option (Bool) :=
  bif (decide (2147483648 < p2.Since)) then
    (F_law17_awake).bind fun x2 =>
    some x2
  else
    (F_draw_New p0).bind fun x4 =>
    (F_draw_Codes_Level x4).bind fun x6 =>
    (F_draw_Codes_Range x6.1 (-1) 30).bind fun x8 =>
    (F_level_Next x6.2 p2).bind fun x10 =>
    (F_ref17_Next x6.2 p2).bind fun x12 =>
    bif (decide (x10 = x12)) then
      (F_level_Next p1 p2).bind fun x15 =>
      (F_ref17_Next p1 p2).bind fun x17 =>
      bif (decide (x15 = x17)) then
        (F_level_Next x6.2 (T_Watch.mk true x8.2 0)).bind fun x20 =>
        (F_ref17_Next x6.2 (T_Watch.mk true x8.2 0)).bind fun x22 =>
        bif (decide (x20 = x22)) then
          (F_law17_awake).bind fun x25 =>
          some x25
        else
          some false
      else
        some false
    else
      some false

noncomputable def F_law17_story_L1 (p1 : T_Level) (s3 : Int × List T_law17_seen × T_draw_Codes) : Option ((Int × List T_law17_seen × T_draw_Codes) ⊕ (List T_law17_seen × T_draw_Codes)) :=
  bif (decide (0 < s3.1)) then
    (F_draw_Codes_Next s3.2.2 6).bind fun x6 =>
    (F_draw_Codes_Range x6.1 (-5) 130).bind fun x8 =>
    (F_draw_Codes_One x8.1 3).bind fun x10 =>
    (bif x10.2 then
      (F_draw_Codes_Next x10.1 3).bind fun x14 =>
      some ((IntKind.i64.wrap (p1.Clear - x14.2)), x14.1)
    else
      some (x8.2, x10.1)).bind fun o12 =>
    (F_draw_Codes_Next o12.2 5).bind fun x16 =>
    (F_draw_Codes_One x16.1 9).bind fun x18 =>
    (bif x18.2 then
      some (T_law17_seen.mk x6.2 (-1125899906842624) 1125899906842624)
    else
      some (T_law17_seen.mk x6.2 o12.1 (IntKind.i64.wrap (o12.1 + x16.2)))).bind fun o20 =>
    (appI 24 s3.2.1 [o20]).bind fun x22 =>
    some (Sum.inl ((IntKind.i64.wrap (s3.1 - 1)), x22, x18.1))
  else
    some (Sum.inr (s3.2.1, s3.2.2))

noncomputable def F_law17_story (p0 : T_draw_Codes) (p1 : T_Level) : Option (T_draw_Codes × List T_law17_seen) :=
  (F_draw_Codes_Next p0 14).bind fun x1 =>
  (loopC (F_law17_story_L1 p1) (x1.2, ([] : List T_law17_seen), x1.1)).bind fun o4 =>
  some (o4.2, o4.1)

noncomputable def F_law17_LevelStories_L1 (x3 : T_draw_Codes × T_Level) (x9 : T_draw_Codes × List T_law17_seen) (s11 : Int × Int × T_Watch × T_Watch) : Option ((Int × Int × T_Watch × T_Watch) ⊕ (Unit ⊕ Unit)) :=
  bif (decide (s11.2.1 < ((x9.2).length : Int))) then
    (getI x9.2 s11.2.1).bind fun x16 =>
    (F_level_Step x3.2 s11.2.2.1 (T_Span.mk x16.low x16.high) (IntKind.i64.wrap (s11.1 + x16.wait))).bind fun x18 =>
    (F_ref17_Step x3.2 s11.2.2.2 (T_Span.mk x16.low x16.high) (IntKind.i64.wrap (s11.1 + x16.wait))).bind fun x20 =>
    (bif (!((x18.1.Over == x20.1.Over) && ((x18.1.Since == x20.1.Since) && ((x18.1.Last == x20.1.Last) && true)))) then
      some true
    else
      some (decide (x18.2 ≠ x20.2))).bind fun o22 =>
    bif o22 then
      some (Sum.inr (Sum.inl ()))
    else
      some (Sum.inl ((IntKind.i64.wrap (s11.1 + x16.wait)), (IntKind.i64.wrap (s11.2.1 + 1)), x18.1, x20.1))
  else
    some (Sum.inr (Sum.inr ()))

noncomputable def F_law17_LevelStories (p0 : List Int) : Option (Bool) :=
  (F_draw_New p0).bind fun x1 =>
  (F_draw_Codes_Level x1).bind fun x3 =>
  (F_level_Begin).bind fun x5 =>
  (F_ref17_Begin).bind fun x7 =>
  (F_law17_story x3.1 x3.2).bind fun x9 =>
  (loopC (F_law17_LevelStories_L1 x3 x9) (0, 0, x5, x7)).bind fun o12 =>
  Sum.elim (fun j13 =>
    some false)
  (fun j14 =>
    (F_law17_awake).bind fun x25 =>
    some x25) o12

noncomputable def F_law17_LevelSafe_L1 (x3 : T_draw_Codes × T_Level) (x7 : T_draw_Codes × List T_law17_seen) (s9 : Int × Int × Bool × Int × T_Watch) : Option ((Int × Int × Bool × Int × T_Watch) ⊕ (Unit ⊕ Unit)) :=
  bif (decide (s9.2.2.2.1 < ((x7.2).length : Int))) then
    (getI x7.2 s9.2.2.2.1).bind fun x14 =>
    (F_level_Step x3.2 s9.2.2.2.2 (T_Span.mk x14.low x14.high) (IntKind.i64.wrap (s9.1 + x14.wait))).bind fun x16 =>
    bif (decide (x16.2 ≠ 0)) then
      some (Sum.inr (Sum.inl ()))
    else
      (bif (decide (x3.2.Cut ≤ x14.high)) then
        some ((-1), false)
      else
        bif (decide (x14.high ≤ x3.2.Clear)) then
          (bif (decide (s9.2.1 = (-1))) then
            some (IntKind.i64.wrap (s9.1 + x14.wait))
          else
            some s9.2.1).bind fun o22 =>
          bif s9.2.2.1 then
            some (o22, true)
          else
            some (o22, (decide (x3.2.Delay ≤ (IntKind.i64.wrap ((IntKind.i64.wrap (s9.1 + x14.wait)) - o22)))))
        else
          bif (!s9.2.2.1) then
            some ((-1), s9.2.2.1)
          else
            some (s9.2.1, s9.2.2.1)).bind fun o19 =>
      bif (x16.1.Over == o19.2) then
        some (Sum.inr (Sum.inl ()))
      else
        some (Sum.inl ((IntKind.i64.wrap (s9.1 + x14.wait)), o19.1, o19.2, (IntKind.i64.wrap (s9.2.2.2.1 + 1)), x16.1))
  else
    some (Sum.inr (Sum.inr ()))

noncomputable def F_law17_LevelSafe (p0 : List Int) : Option (Bool) :=
  (F_draw_New p0).bind fun x1 =>
  (F_draw_Codes_Level x1).bind fun x3 =>
  (F_level_Begin).bind fun x5 =>
  (F_law17_story x3.1 x3.2).bind fun x7 =>
  (loopC (F_law17_LevelSafe_L1 x3 x7) (0, (-1), false, 0, x5)).bind fun o10 =>
  Sum.elim (fun j11 =>
    some false)
  (fun j12 =>
    (F_law17_awake).bind fun x27 =>
    some x27) o10

noncomputable def F_law17_LevelWider_L1 (p1 : List Int) (x3 : T_draw_Codes × T_Level) (x9 : T_draw_Codes × List T_law17_seen) (s11 : Int × Int × T_Watch × T_Watch) : Option ((Int × Int × T_Watch × T_Watch) ⊕ (Unit ⊕ Unit)) :=
  bif (decide (s11.2.1 < ((x9.2).length : Int))) then
    (getI x9.2 s11.2.1).bind fun x16 =>
    (bif (decide (s11.2.1 < ((p1).length : Int))) then
      (getI p1 s11.2.1).bind fun x20 =>
      some (IntKind.i64.wrap x20)
    else
      some 0).bind fun o18 =>
    (F_level_Step x3.2 s11.2.2.1 (T_Span.mk x16.low x16.high) (IntKind.i64.wrap (s11.1 + x16.wait))).bind fun x22 =>
    (F_level_Step x3.2 s11.2.2.2 (T_Span.mk (IntKind.i64.wrap (x16.low - o18)) (IntKind.i64.wrap (x16.high + o18))) (IntKind.i64.wrap (s11.1 + x16.wait))).bind fun x24 =>
    (bif (decide (x22.2 ≠ 0)) then
      some true
    else
      bif (decide (x24.2 ≠ 0)) then
        some true
      else
        bif x22.1.Over then
          some (!x24.1.Over)
        else
          some false).bind fun o26 =>
    bif o26 then
      some (Sum.inr (Sum.inl ()))
    else
      some (Sum.inl ((IntKind.i64.wrap (s11.1 + x16.wait)), (IntKind.i64.wrap (s11.2.1 + 1)), x22.1, x24.1))
  else
    some (Sum.inr (Sum.inr ()))

noncomputable def F_law17_LevelWider (p0 : List Int) (p1 : List Int) : Option (Bool) :=
  (F_draw_New p0).bind fun x1 =>
  (F_draw_Codes_Level x1).bind fun x3 =>
  (F_level_Begin).bind fun x5 =>
  (F_level_Begin).bind fun x7 =>
  (F_law17_story x3.1 x3.2).bind fun x9 =>
  (loopC (F_law17_LevelWider_L1 p1 x3 x9) (0, 0, x5, x7)).bind fun o12 =>
  Sum.elim (fun j13 =>
    some false)
  (fun j14 =>
    (F_law17_awake).bind fun x31 =>
    some x31) o12

noncomputable def F_law17_LevelLonger_L1 (p1 : Int) (p2 : Int) (x3 : T_draw_Codes × T_Level) (o5 : Int) (x11 : T_draw_Codes × List T_law17_seen) (s13 : Int × Int × T_Watch × T_Watch) : Option ((Int × Int × T_Watch × T_Watch) ⊕ (Unit ⊕ Unit)) :=
  bif (decide (s13.2.1 < ((x11.2).length : Int))) then
    (getI x11.2 s13.2.1).bind fun x18 =>
    (F_level_Step x3.2 s13.2.2.1 (T_Span.mk x18.low x18.high) (IntKind.i64.wrap (s13.1 + x18.wait))).bind fun x20 =>
    (F_level_Step (T_Level.mk o5 (max 0 (IntKind.i64.wrap (x3.2.Clear - (Int.tmod (IntKind.i64.wrap p2) 20)))) (IntKind.i64.wrap (x3.2.Delay + (Int.tmod (IntKind.i64.wrap p1) 9)))) s13.2.2.2 (T_Span.mk x18.low x18.high) (IntKind.i64.wrap (s13.1 + x18.wait))).bind fun x22 =>
    (bif (decide (x20.2 ≠ 0)) then
      some true
    else
      bif (decide (x22.2 ≠ 0)) then
        some true
      else
        bif x20.1.Over then
          some (!x22.1.Over)
        else
          some false).bind fun o24 =>
    bif o24 then
      some (Sum.inr (Sum.inl ()))
    else
      some (Sum.inl ((IntKind.i64.wrap (s13.1 + x18.wait)), (IntKind.i64.wrap (s13.2.1 + 1)), x20.1, x22.1))
  else
    some (Sum.inr (Sum.inr ()))

noncomputable def F_law17_LevelLonger (p0 : List Int) (p1 : Int) (p2 : Int) : Option (Bool) :=
  (F_draw_New p0).bind fun x1 =>
  (F_draw_Codes_Level x1).bind fun x3 =>
  (bif (decide (128 < p2)) then
    some (IntKind.i64.wrap ((max 0 (IntKind.i64.wrap (x3.2.Clear - (Int.tmod (IntKind.i64.wrap p2) 20)))) + 1))
  else
    some x3.2.Cut).bind fun o5 =>
  (F_level_Begin).bind fun x7 =>
  (F_level_Begin).bind fun x9 =>
  (F_law17_story x3.1 x3.2).bind fun x11 =>
  (loopC (F_law17_LevelLonger_L1 p1 p2 x3 o5 x11) (0, 0, x7, x9)).bind fun o14 =>
  Sum.elim (fun j15 =>
    some false)
  (fun j16 =>
    (F_law17_awake).bind fun x29 =>
    some x29) o14

end Go.L
