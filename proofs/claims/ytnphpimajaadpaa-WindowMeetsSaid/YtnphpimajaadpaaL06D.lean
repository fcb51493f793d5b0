/- Printed by wip/lift/lift.py: the functions of the program, as partial functions of plain data. -/
import Derived.Test.YtnphpimajaadpaaAmlZ
namespace Go.L
open Go Go.Aml

structure T_draw_Codes where
  l : List Int
  at_ : Int
  deriving DecidableEq
def T_draw_Codes.enc (x : T_draw_Codes) : PV := .agg [.vs 1 (List.map (PV.int .u8) x.l), .int .i64 x.at_]
theorem T_draw_Codes.enc_lt (x : T_draw_Codes) : LtN 0 x.enc := lt_agg ⟨.vs _ _, .int _ _, trivial⟩

structure T_Span where
  Low : Int
  High : Int
  deriving DecidableEq
def T_Span.enc (x : T_Span) : PV := .agg [.int .i64 x.Low, .int .i64 x.High]
theorem T_Span.enc_lt (x : T_Span) : LtN 0 x.enc := lt_agg ⟨.int _ _, .int _ _, trivial⟩

structure T_Measure where
  Sensor : Int
  Time : Int
  Span : T_Span
  deriving DecidableEq
def T_Measure.enc (x : T_Measure) : PV := .agg [.int .i64 x.Sensor, .int .i64 x.Time, .int .i64 x.Span.Low, .int .i64 x.Span.High]
theorem T_Measure.enc_lt (x : T_Measure) : LtN 0 x.enc := lt_agg ⟨.int _ _, .int _ _, .int _ _, .int _ _, trivial⟩

structure T_Sensor where
  Address : Int
  Kind : Int
  Target : Int
  Offset : Int
  Scale : Int
  Error : Int
  Drift : Int
  Life : Int
  deriving DecidableEq
def T_Sensor.enc (x : T_Sensor) : PV := .agg [.int .i64 x.Address, .int .i64 x.Kind, .int .i64 x.Target, .int .i64 x.Offset, .int .i64 x.Scale, .int .i64 x.Error, .int .i64 x.Drift, .int .i64 x.Life]
theorem T_Sensor.enc_lt (x : T_Sensor) : LtN 0 x.enc := lt_agg ⟨.int _ _, .int _ _, .int _ _, .int _ _, .int _ _, .int _ _, .int _ _, .int _ _, trivial⟩

def T_draw_Codes.Wf (x : T_draw_Codes) : Prop := (InL (In .u8)) x.l ∧ (In .i64) x.at_ ∧ True
def T_Span.Wf (x : T_Span) : Prop := (In .i64) x.Low ∧ (In .i64) x.High ∧ True
def T_Measure.Wf (x : T_Measure) : Prop := (In .i64) x.Sensor ∧ (In .i64) x.Time ∧ T_Span.Wf x.Span ∧ True
def T_Sensor.Wf (x : T_Sensor) : Prop := (In .i64) x.Address ∧ (In .i64) x.Kind ∧ (In .i64) x.Target ∧ (In .i64) x.Offset ∧ (In .i64) x.Scale ∧ (In .i64) x.Error ∧ (In .i64) x.Drift ∧ (In .i64) x.Life ∧ True

noncomputable def F_draw_New (p0 : List Int) : Option (T_draw_Codes) :=
  (sliI p0 0 (min ((p0).length : Int) 300)).bind fun x1 =>
  some (T_draw_Codes.mk x1 0)

noncomputable def F_draw_Codes_Next (p0 : T_draw_Codes) (p1 : Int) : Option (T_draw_Codes × Int) :=
  (bif (decide (p1 < 1)) then
    some true
  else
    some (decide (((p0.l).length : Int) ≤ p0.at_))).bind fun o1 =>
  bif o1 then
    some (p0, 0)
  else
    (getI p0.l (IntKind.i64.wrap ((IntKind.i64.wrap (p0.at_ + 1)) - 1))).bind fun x4 =>
    (bif (decide (256 < p1)) then
      some (decide ((IntKind.i64.wrap (p0.at_ + 1)) < ((p0.l).length : Int)))
    else
      some false).bind fun o6 =>
    (bif o6 then
      (getI p0.l (IntKind.i64.wrap (p0.at_ + 1))).bind fun x10 =>
      some ((IntKind.i64.wrap ((IntKind.i64.wrap ((IntKind.i64.wrap x4) * 256)) + (IntKind.i64.wrap x10))), (IntKind.i64.wrap ((IntKind.i64.wrap (p0.at_ + 1)) + 1)))
    else
      some ((IntKind.i64.wrap x4), (IntKind.i64.wrap (p0.at_ + 1)))).bind fun o8 =>
    (remI o8.1 p1).bind fun x12 =>
    some ((T_draw_Codes.mk p0.l o8.2), x12)

noncomputable def F_draw_Codes_Range (p0 : T_draw_Codes) (p1 : Int) (p2 : Int) : Option (T_draw_Codes × Int) :=
  (F_draw_Codes_Next p0 (IntKind.i64.wrap ((IntKind.i64.wrap (p2 - p1)) + 1))).bind fun x1 =>
  some (x1.1, (IntKind.i64.wrap (p1 + x1.2)))

noncomputable def F_draw_Codes_One (p0 : T_draw_Codes) (p1 : Int) : Option (T_draw_Codes × Bool) :=
  (F_draw_Codes_Next p0 p1).bind fun x1 =>
  some (x1.1, (decide (x1.2 = (IntKind.i64.wrap (p1 - 1)))))

noncomputable def F_ref05_Nothing  : Option (T_Span) :=
  some (T_Span.mk (-1125899906842624) 1125899906842624)

noncomputable def F_law06_measured (p0 : T_draw_Codes) : Option (T_draw_Codes × T_Measure) :=
  (F_draw_Codes_Next p0 3).bind fun x1 =>
  (F_draw_Codes_Next x1.1 200).bind fun x3 =>
  (F_draw_Codes_Range x3.1 (-30) 90).bind fun x5 =>
  (F_draw_Codes_Next x5.1 40).bind fun x7 =>
  (F_draw_Codes_One x7.1 8).bind fun x9 =>
  (bif x9.2 then
    (F_ref05_Nothing).bind fun x13 =>
    some (T_Measure.mk x1.2 x3.2 x13)
  else
    some (T_Measure.mk x1.2 x3.2 (T_Span.mk x5.2 (IntKind.i64.wrap (x5.2 + x7.2))))).bind fun o11 =>
  (F_draw_Codes_One x9.1 12).bind fun x15 =>
  (bif x15.2 then
    some (-1)
  else
    some o11.Sensor).bind fun o17 =>
  some (x15.1, (T_Measure.mk o17 o11.Time o11.Span))

noncomputable def F_draw_Mod (p0 : Int) (p1 : Int) : Option (Int) :=
  bif (decide (p1 < 1)) then
    some 0
  else
    (remI p0 p1).bind fun x2 =>
    (bif (decide (x2 < 0)) then
      some (IntKind.i64.wrap (x2 + p1))
    else
      some x2).bind fun o4 =>
    some o4

noncomputable def F_window_Above (p0 : T_Span) (p1 : Int) : Option (Int) :=
  bif (decide (p0.High < p0.Low)) then
    some 0
  else
    bif (decide (p1 ≤ p0.Low)) then
      some 1
    else
      bif (decide (p0.High < p1)) then
        some (-1)
      else
        some 0

noncomputable def F_ref06_Above (p0 : T_Span) (p1 : Int) : Option (Int) :=
  bif (decide (p0.High < p0.Low)) then
    some 0
  else
    bif (decide (p1 ≤ p0.Low)) then
      some 1
    else
      bif (decide (p0.High < p1)) then
        some (-1)
      else
        some 0

noncomputable def F_sensor_Nothing  : Option (T_Span) :=
  some (T_Span.mk (-1125899906842624) 1125899906842624)

noncomputable def F_window_Meet_L1 (p0 : List T_Span) (s6 : Int × T_Span) : Option ((Int × T_Span) ⊕ T_Span) :=
  bif (decide (s6.1 < ((p0).length : Int))) then
    (getI p0 s6.1).bind fun x9 =>
    some (Sum.inl ((IntKind.i64.wrap (s6.1 + 1)), (T_Span.mk (max s6.2.Low x9.Low) (min s6.2.High x9.High))))
  else
    some (Sum.inr s6.2)

noncomputable def F_window_Meet (p0 : List T_Span) : Option (T_Span × Bool) :=
  bif (decide (((p0).length : Int) = 0)) then
    (F_sensor_Nothing).bind fun x2 =>
    some (x2, true)
  else
    (getI p0 0).bind fun x4 =>
    (loopC (F_window_Meet_L1 p0) (0, x4)).bind fun o7 =>
    bif (decide (o7.High < o7.Low)) then
      (F_sensor_Nothing).bind fun x12 =>
      some (x12, false)
    else
      some (o7, true)

noncomputable def F_sensor_in_L1 (p0 : Int) (p1 : Int) (p2 : List Int) (s1 : Int) : Option (Int ⊕ (Unit ⊕ Unit)) :=
  bif (decide (s1 < ((p2).length : Int))) then
    (getI p2 s1).bind fun x6 =>
    (bif (decide (x6 < p0)) then
      some true
    else
      some (decide (p1 < x6))).bind fun o8 =>
    bif o8 then
      some (Sum.inr (Sum.inl ()))
    else
      some (Sum.inl (IntKind.i64.wrap (s1 + 1)))
  else
    some (Sum.inr (Sum.inr ()))

noncomputable def F_sensor_in (p0 : Int) (p1 : Int) (p2 : List Int) : Option (Bool) :=
  (loopC (F_sensor_in_L1 p0 p1 p2) 0).bind fun o2 =>
  Sum.elim (fun j3 =>
    some false)
  (fun j4 =>
    some true) o2

noncomputable def F_sensor_Check (p0 : T_Sensor) : Option (Int) :=
  (F_sensor_in 1 6 [p0.Kind]).bind fun x1 =>
  bif (!x1) then
    some 5
  else
    ((F_sensor_in 0 255 [p0.Address]).bind fun x5 =>
    bif (!x5) then
      some true
    else
      bif (decide (p0.Target < 0)) then
        some true
      else
        (F_sensor_in (-1000000) 1000000 [p0.Offset, p0.Scale]).bind fun x9 =>
        some (!x9)).bind fun o4 =>
    bif o4 then
      some 1
    else
      ((F_sensor_in 0 1000000 [p0.Error, p0.Drift]).bind fun x13 =>
      bif (!x13) then
        some true
      else
        (F_sensor_in 1 1000000 [p0.Life]).bind fun x16 =>
        some (!x16)).bind fun o12 =>
      bif o12 then
        some 1
      else
        some 0

noncomputable def F_window_plain (p0 : Int) : Option (Bool) :=
  bif (decide (p0 = 4)) then
    some true
  else
    bif (decide (p0 = 5)) then
      some true
    else
      some (decide (p0 = 6))

noncomputable def F_window_At (p0 : T_Sensor) (p1 : T_Measure) (p2 : Int) : Option (T_Span) :=
  (F_sensor_Nothing).bind fun x1 =>
  ((F_sensor_Check p0).bind fun x4 =>
  bif (decide (x4 ≠ 0)) then
    some true
  else
    bif (decide (p1.Sensor < 0)) then
      some true
    else
      bif ((p1.Span.Low == x1.Low) && ((p1.Span.High == x1.High) && true)) then
        some true
      else
        bif (decide (p2 < p1.Time)) then
          some true
        else
          some (decide (p0.Life < (IntKind.i64.wrap (p2 - p1.Time))))).bind fun o3 =>
  bif o3 then
    some x1
  else
    (F_window_plain p0.Kind).bind fun x11 =>
    bif x11 then
      some p1.Span
    else
      (bif (decide (p0.Kind = 1)) then
        some true
      else
        some (decide (p0.Kind = 2))).bind fun o14 =>
      (bif o14 then
        some (T_Span.mk (max (IntKind.i64.wrap (p1.Span.Low - (IntKind.i64.wrap (Int.tdiv (IntKind.i64.wrap ((IntKind.i64.wrap (p0.Drift * (IntKind.i64.wrap (p2 - p1.Time)))) + 999)) 1000)))) 0) (max (IntKind.i64.wrap (p1.Span.High + (IntKind.i64.wrap (Int.tdiv (IntKind.i64.wrap ((IntKind.i64.wrap (p0.Drift * (IntKind.i64.wrap (p2 - p1.Time)))) + 999)) 1000)))) 0))
      else
        some (T_Span.mk (IntKind.i64.wrap (p1.Span.Low - (IntKind.i64.wrap (Int.tdiv (IntKind.i64.wrap ((IntKind.i64.wrap (p0.Drift * (IntKind.i64.wrap (p2 - p1.Time)))) + 999)) 1000)))) (IntKind.i64.wrap (p1.Span.High + (IntKind.i64.wrap (Int.tdiv (IntKind.i64.wrap ((IntKind.i64.wrap (p0.Drift * (IntKind.i64.wrap (p2 - p1.Time)))) + 999)) 1000)))))).bind fun o16 =>
      some o16

noncomputable def F_window_Until_L1 (p0 : T_Sensor) (p1 : T_Measure) (p2 : Int) (s6 : Int × Int) : Option ((Int × Int) ⊕ Int) :=
  bif (decide (s6.1 < s6.2)) then
    (F_window_At p0 p1 (IntKind.i64.wrap (s6.1 + (IntKind.i64.wrap (Int.tdiv (IntKind.i64.wrap ((IntKind.i64.wrap (s6.2 - s6.1)) + 1)) 2))))).bind fun x9 =>
    (F_window_Above x9 p2).bind fun x11 =>
    bif (decide (x11 = (-1))) then
      some (Sum.inl ((IntKind.i64.wrap (s6.1 + (IntKind.i64.wrap (Int.tdiv (IntKind.i64.wrap ((IntKind.i64.wrap (s6.2 - s6.1)) + 1)) 2)))), s6.2))
    else
      some (Sum.inl (s6.1, (IntKind.i64.wrap ((IntKind.i64.wrap (s6.1 + (IntKind.i64.wrap (Int.tdiv (IntKind.i64.wrap ((IntKind.i64.wrap (s6.2 - s6.1)) + 1)) 2)))) - 1))))
  else
    some (Sum.inr s6.1)

noncomputable def F_window_Until (p0 : T_Sensor) (p1 : T_Measure) (p2 : Int) : Option (Int) :=
  (F_window_At p0 p1 p1.Time).bind fun x1 =>
  (F_window_Above x1 p2).bind fun x3 =>
  bif (decide (x3 ≠ (-1))) then
    some (-1)
  else
    (loopC (F_window_Until_L1 p0 p1 p2) (p1.Time, (IntKind.i64.wrap (p1.Time + p0.Life)))).bind fun o7 =>
    some o7

noncomputable def F_law06_awake  : Option (Bool) :=
  (F_window_Meet [(T_Span.mk 1 5), (T_Span.mk 4 9)]).bind fun x1 =>
  (F_window_At (T_Sensor.mk 0 3 0 0 0 0 100 60) (T_Measure.mk 0 5 (T_Span.mk 40 50)) 6).bind fun x3 =>
  bif ((x3.Low == 39) && ((x3.High == 51) && true)) then
    (F_window_At (T_Sensor.mk 0 3 0 0 0 0 100 60) (T_Measure.mk 0 5 (T_Span.mk 40 50)) 66).bind fun x6 =>
    (F_ref05_Nothing).bind fun x8 =>
    bif ((x6.Low == x8.Low) && ((x6.High == x8.High) && true)) then
      bif x1.2 then
        bif ((x1.1.Low == 4) && ((x1.1.High == 5) && true)) then
          (F_window_Above x1.1 6).bind fun x13 =>
          bif (decide (x13 = (-1))) then
            (F_window_Until (T_Sensor.mk 0 3 0 0 0 0 100 60) (T_Measure.mk 0 5 (T_Span.mk 40 50)) 51).bind fun x16 =>
            some (decide (x16 = 5))
          else
            some false
        else
          some false
      else
        some false
    else
      some false
  else
    some false

noncomputable def F_law06_WindowAbove (p0 : List Int) (p1 : T_Span) (p2 : Int) : Option (Bool) :=
  (F_draw_New p0).bind fun x1 =>
  (F_law06_measured x1).bind fun x3 =>
  (F_draw_Mod p2 200).bind fun x5 =>
  (F_window_Above p1 p2).bind fun x7 =>
  (F_ref06_Above p1 p2).bind fun x9 =>
  bif (decide (x7 = x9)) then
    (F_window_Above x3.2.Span (IntKind.i64.wrap (x5 - 60))).bind fun x12 =>
    (F_ref06_Above x3.2.Span (IntKind.i64.wrap (x5 - 60))).bind fun x14 =>
    bif (decide (x12 = x14)) then
      (F_window_Above x3.2.Span x3.2.Span.Low).bind fun x17 =>
      (F_ref06_Above x3.2.Span x3.2.Span.Low).bind fun x19 =>
      bif (decide (x17 = x19)) then
        (F_window_Above x3.2.Span x3.2.Span.High).bind fun x22 =>
        (F_ref06_Above x3.2.Span x3.2.Span.High).bind fun x24 =>
        bif (decide (x22 = x24)) then
          (F_law06_awake).bind fun x27 =>
          some x27
        else
          some false
      else
        some false
    else
      some false
  else
    some false

noncomputable def F_ref05_Stately (p0 : Int) : Option (Bool) :=
  some (decide (4 ≤ p0))

noncomputable def F_draw_Codes_Sensor (p0 : T_draw_Codes) (p1 : Int) (p2 : Int) (p3 : Int) : Option (T_draw_Codes × T_Sensor) :=
  (F_draw_Codes_Range p0 1 200).bind fun x1 =>
  (F_ref05_Stately p1).bind fun x3 =>
  (bif (!x3) then
    (F_draw_Codes_Range x1.1 (-50) 20).bind fun x7 =>
    (F_draw_Codes_Range x7.1 300 2000).bind fun x9 =>
    (F_draw_Codes_Next x9.1 6).bind fun x11 =>
    (F_draw_Codes_Next x11.1 700).bind fun x13 =>
    some ((T_Sensor.mk p2 p1 p3 x7.2 x9.2 x11.2 x13.2 x1.2), x13.1)
  else
    some ((T_Sensor.mk p2 p1 p3 0 1000 0 0 x1.2), x1.1)).bind fun o5 =>
  some (o5.2, o5.1)

noncomputable def F_ref05_in (p0 : Int) (p1 : Int) (p2 : Int) : Option (Bool) :=
  bif (decide (p1 ≤ p0)) then
    some (decide (p0 ≤ p2))
  else
    some false

noncomputable def F_ref05_Check (p0 : T_Sensor) : Option (Int) :=
  (F_ref05_in p0.Kind 1 6).bind fun x1 =>
  bif (!x1) then
    some 5
  else
    ((F_ref05_in p0.Address 0 255).bind fun x5 =>
    bif (!x5) then
      some true
    else
      bif (decide (p0.Target < 0)) then
        some true
      else
        (F_ref05_in p0.Offset (-1000000) 1000000).bind fun x9 =>
        bif (!x9) then
          some true
        else
          (F_ref05_in p0.Scale (-1000000) 1000000).bind fun x12 =>
          bif (!x12) then
            some true
          else
            (F_ref05_in p0.Error 0 1000000).bind fun x15 =>
            bif (!x15) then
              some true
            else
              (F_ref05_in p0.Drift 0 1000000).bind fun x18 =>
              bif (!x18) then
                some true
              else
                (F_ref05_in p0.Life 1 1000000).bind fun x21 =>
                some (!x21)).bind fun o4 =>
    bif o4 then
      some 1
    else
      some 0

noncomputable def F_ref05_Floor (p0 : Int) (p1 : Int) : Option (Int) :=
  (quoI .i64 p0 p1).bind fun x1 =>
  (remI p0 p1).bind fun x3 =>
  (bif (decide (x3 < 0)) then
    some (IntKind.i64.wrap (x1 - 1))
  else
    some x1).bind fun o5 =>
  some o5

noncomputable def F_ref05_Ceil (p0 : Int) (p1 : Int) : Option (Int) :=
  (F_ref05_Floor (IntKind.i64.wrap (0 - p0)) p1).bind fun x1 =>
  some (IntKind.i64.wrap (0 - x1))

noncomputable def F_ref05_Gassy (p0 : Int) : Option (Bool) :=
  bif (decide (p0 = 1)) then
    some true
  else
    some (decide (p0 = 2))

noncomputable def F_ref06_At (p0 : T_Sensor) (p1 : T_Measure) (p2 : Int) : Option (T_Span) :=
  ((F_ref05_Check p0).bind fun x2 =>
  bif (decide (x2 ≠ 0)) then
    some true
  else
    bif (decide (p1.Sensor < 0)) then
      some true
    else
      (F_ref05_Nothing).bind fun x6 =>
      bif ((p1.Span.Low == x6.Low) && ((p1.Span.High == x6.High) && true)) then
        some true
      else
        bif (decide (p2 < p1.Time)) then
          some true
        else
          some (decide (p0.Life < (IntKind.i64.wrap (p2 - p1.Time))))).bind fun o1 =>
  bif o1 then
    (F_ref05_Nothing).bind fun x11 =>
    some x11
  else
    (F_ref05_Stately p0.Kind).bind fun x13 =>
    bif x13 then
      some p1.Span
    else
      (F_ref05_Ceil (IntKind.i64.wrap (p0.Drift * (IntKind.i64.wrap (p2 - p1.Time)))) 1000).bind fun x16 =>
      (F_ref05_Gassy p0.Kind).bind fun x18 =>
      (bif x18 then
        some (T_Span.mk (max (IntKind.i64.wrap (p1.Span.Low - x16)) 0) (max (IntKind.i64.wrap (p1.Span.High + x16)) 0))
      else
        some (T_Span.mk (IntKind.i64.wrap (p1.Span.Low - x16)) (IntKind.i64.wrap (p1.Span.High + x16)))).bind fun o20 =>
      some o20

noncomputable def F_law06_WindowUntil_L1 (x5 : T_draw_Codes × T_Sensor) (x7 : T_draw_Codes × T_Measure) (x9 : Int) (s11 : Int × Int) : Option ((Int × Int) ⊕ Int) :=
  bif (decide (s11.2 ≤ (IntKind.i64.wrap (x7.2.Time + x5.2.Life)))) then
    (F_ref06_At x5.2 x7.2 s11.2).bind fun x14 =>
    (F_ref06_Above x14 (IntKind.i64.wrap (x9 - 60))).bind fun x16 =>
    bif (decide (x16 ≠ (-1))) then
      some (Sum.inr s11.1)
    else
      some (Sum.inl (s11.2, (IntKind.i64.wrap (s11.2 + 1))))
  else
    some (Sum.inr s11.1)

noncomputable def F_law06_WindowUntil (p0 : List Int) (p1 : Int) : Option (Bool) :=
  (F_draw_New p0).bind fun x1 =>
  (F_draw_Codes_Range x1 1 6).bind fun x3 =>
  (F_draw_Codes_Sensor x3.1 x3.2 0 0).bind fun x5 =>
  (F_law06_measured x5.1).bind fun x7 =>
  (F_draw_Mod p1 260).bind fun x9 =>
  (loopC (F_law06_WindowUntil_L1 x5 x7 x9) ((-1), x7.2.Time)).bind fun o12 =>
  (F_window_Until x5.2 x7.2 (IntKind.i64.wrap (x9 - 60))).bind fun x19 =>
  bif (decide (x19 = o12)) then
    (F_law06_awake).bind fun x22 =>
    some x22
  else
    some false

noncomputable def F_law06_WindowWidens (p0 : List Int) (p1 : Int) (p2 : Int) (p3 : Int) : Option (Bool) :=
  (F_draw_New p0).bind fun x1 =>
  (F_draw_Codes_Sensor x1 3 0 0).bind fun x3 =>
  (F_law06_measured x3.1).bind fun x5 =>
  (bif (decide (x5.2.Sensor < 0)) then
    some true
  else
    (F_ref05_Nothing).bind fun x9 =>
    some ((x5.2.Span.Low == x9.Low) && ((x5.2.Span.High == x9.High) && true))).bind fun o7 =>
  bif o7 then
    (F_law06_awake).bind fun x12 =>
    some x12
  else
    (F_window_At x3.2 x5.2 (IntKind.i64.wrap (x5.2.Time + (IntKind.i64.wrap p1)))).bind fun x14 =>
    (F_window_At x3.2 x5.2 (IntKind.i64.wrap ((IntKind.i64.wrap (x5.2.Time + (IntKind.i64.wrap p1))) + 1))).bind fun x16 =>
    (bif (decide (x14.Low < x16.Low)) then
      some true
    else
      some (decide (x16.High < x14.High))).bind fun o18 =>
    bif o18 then
      some false
    else
      (F_draw_Mod p3 (IntKind.i64.wrap ((IntKind.i64.wrap (x5.2.Span.High - x5.2.Span.Low)) + 1))).bind fun x21 =>
      (F_draw_Mod (IntKind.i64.wrap p2) (IntKind.i64.wrap ((IntKind.i64.wrap (Int.tdiv (IntKind.i64.wrap (x3.2.Drift * (IntKind.i64.wrap p1))) 1000)) + 1))).bind fun x23 =>
      bif (decide (x14.Low ≤ (IntKind.i64.wrap ((IntKind.i64.wrap (x5.2.Span.Low + x21)) - x23)))) then
        bif (decide ((IntKind.i64.wrap ((IntKind.i64.wrap (x5.2.Span.Low + x21)) + x23)) ≤ x14.High)) then
          (F_law06_awake).bind fun x27 =>
          some x27
        else
          some false
      else
        some false

noncomputable def F_ref06_Meet_L1 (p0 : List T_Span) (s6 : Int × T_Span) : Option ((Int × T_Span) ⊕ T_Span) :=
  bif (decide (s6.1 < ((p0).length : Int))) then
    (getI p0 s6.1).bind fun x9 =>
    (getI p0 s6.1).bind fun x11 =>
    some (Sum.inl ((IntKind.i64.wrap (s6.1 + 1)), (T_Span.mk (max s6.2.Low x9.Low) (min s6.2.High x11.High))))
  else
    some (Sum.inr s6.2)

noncomputable def F_ref06_Meet (p0 : List T_Span) : Option (T_Span × Bool) :=
  bif (decide (((p0).length : Int) = 0)) then
    (F_ref05_Nothing).bind fun x2 =>
    some (x2, true)
  else
    (getI p0 0).bind fun x4 =>
    (loopC (F_ref06_Meet_L1 p0) (1, x4)).bind fun o7 =>
    bif (decide (o7.High < o7.Low)) then
      (F_ref05_Nothing).bind fun x14 =>
      some (x14, false)
    else
      some (o7, true)

noncomputable def F_window_Hull_L1 (p0 : List T_Span) (s3 : Bool × Int × T_Span) : Option ((Bool × Int × T_Span) ⊕ T_Span) :=
  bif (decide (s3.2.1 < ((p0).length : Int))) then
    ((getI p0 s3.2.1).bind fun x7 =>
    bif (decide (x7.High < x7.Low)) then
      some (s3.1, s3.2.2)
    else
      bif (!s3.1) then
        some (true, x7)
      else
        some (s3.1, (T_Span.mk (min s3.2.2.Low x7.Low) (max s3.2.2.High x7.High)))).bind fun o6 =>
    some (Sum.inl (o6.1, (IntKind.i64.wrap (s3.2.1 + 1)), o6.2))
  else
    some (Sum.inr s3.2.2)

noncomputable def F_window_Hull (p0 : List T_Span) : Option (T_Span) :=
  (F_sensor_Nothing).bind fun x1 =>
  (loopC (F_window_Hull_L1 p0) (false, 0, x1)).bind fun o4 =>
  some o4

noncomputable def F_ref06_Hull_L1 (p0 : List T_Span) (s3 : Bool × Int × T_Span) : Option ((Bool × Int × T_Span) ⊕ T_Span) :=
  bif (decide (s3.2.1 < ((p0).length : Int))) then
    ((getI p0 s3.2.1).bind fun x7 =>
    (getI p0 s3.2.1).bind fun x9 =>
    bif (decide (x9.High < x7.Low)) then
      some (s3.1, s3.2.2)
    else
      (bif (!s3.1) then
        (getI p0 s3.2.1).bind fun x14 =>
        some (true, x14)
      else
        some (s3.1, s3.2.2)).bind fun o12 =>
      (getI p0 s3.2.1).bind fun x16 =>
      (getI p0 s3.2.1).bind fun x18 =>
      some (o12.1, (T_Span.mk (min o12.2.Low x16.Low) (max o12.2.High x18.High)))).bind fun o6 =>
    some (Sum.inl (o6.1, (IntKind.i64.wrap (s3.2.1 + 1)), o6.2))
  else
    some (Sum.inr s3.2.2)

noncomputable def F_ref06_Hull (p0 : List T_Span) : Option (T_Span) :=
  (F_ref05_Nothing).bind fun x1 =>
  (loopC (F_ref06_Hull_L1 p0) (false, 0, x1)).bind fun o4 =>
  some o4

noncomputable def F_law06_WindowTogether_L1  (s8 : Int × T_draw_Codes × List T_Span) : Option ((Int × T_draw_Codes × List T_Span) ⊕ (List T_Span)) :=
  bif (decide (0 < s8.1)) then
    (F_law06_measured s8.2.1).bind fun x11 =>
    (F_draw_Codes_One x11.1 12).bind fun x13 =>
    (bif x13.2 then
      some (T_Span.mk x11.2.Span.High x11.2.Span.Low)
    else
      some x11.2.Span).bind fun o15 =>
    (appI 16 s8.2.2 [o15]).bind fun x17 =>
    some (Sum.inl ((IntKind.i64.wrap (s8.1 - 1)), x13.1, x17))
  else
    some (Sum.inr s8.2.2)

noncomputable def F_law06_WindowTogether_L2 (p1 : List T_Span) (o9 : List T_Span) (s19 : Int) : Option (Int ⊕ (Unit ⊕ Unit)) :=
  bif (decide (s19 < (([o9, p1]).length : Int))) then
    (getI [o9, p1] s19).bind fun x24 =>
    (F_window_Meet x24).bind fun x26 =>
    (F_ref06_Meet x24).bind fun x28 =>
    (bif (!((x26.1.Low == x28.1.Low) && ((x26.1.High == x28.1.High) && true))) then
      some true
    else
      bif (x26.2 != x28.2) then
        some true
      else
        (F_window_Hull x24).bind fun x33 =>
        (F_ref06_Hull x24).bind fun x35 =>
        some (!((x33.Low == x35.Low) && ((x33.High == x35.High) && true)))).bind fun o30 =>
    bif o30 then
      some (Sum.inr (Sum.inl ()))
    else
      some (Sum.inl (IntKind.i64.wrap (s19 + 1)))
  else
    some (Sum.inr (Sum.inr ()))

noncomputable def F_law06_WindowTogether (p0 : List Int) (p1 : List T_Span) : Option (Bool) :=
  bif (decide (30 < ((p1).length : Int))) then
    (F_law06_awake).bind fun x2 =>
    some x2
  else
    (F_draw_New p0).bind fun x4 =>
    (F_draw_Codes_Next x4 5).bind fun x6 =>
    (loopC F_law06_WindowTogether_L1 (x6.2, x6.1, ([] : List T_Span))).bind fun o9 =>
    (loopC (F_law06_WindowTogether_L2 p1 o9) 0).bind fun o20 =>
    Sum.elim (fun j21 =>
      some false)
    (fun j22 =>
      (F_law06_awake).bind fun x38 =>
      some x38) o20

noncomputable def F_law06_WindowMeets_L1 (x3 : Int) (s7 : List T_Span × Bool × Int × T_draw_Codes × List T_Span) : Option ((List T_Span × Bool × Int × T_draw_Codes × List T_Span) ⊕ (List T_Span × Bool × List T_Span)) :=
  bif (decide (0 < s7.2.2.1)) then
    (F_law06_measured s7.2.2.2.1).bind fun x10 =>
    (bif s7.2.1 then
      bif (decide (x10.2.Span.Low ≤ (IntKind.i64.wrap (x3 - 40)))) then
        some (decide ((IntKind.i64.wrap (x3 - 40)) ≤ x10.2.Span.High))
      else
        some false
    else
      some false).bind fun o12 =>
    (appI 16 s7.2.2.2.2 [x10.2.Span]).bind fun x15 =>
    (appI 16 [x10.2.Span] s7.1).bind fun x17 =>
    some (Sum.inl (x17, o12, (IntKind.i64.wrap (s7.2.2.1 - 1)), x10.1, x15))
  else
    some (Sum.inr (s7.1, s7.2.1, s7.2.2.2.2))

noncomputable def F_law06_WindowMeets_L2 (o8 : List T_Span × Bool × List T_Span) (x39 : T_Span) (s41 : Int) : Option (Int ⊕ (Unit ⊕ Unit)) :=
  bif (decide (s41 < ((o8.2.2).length : Int))) then
    ((getI o8.2.2 s41).bind fun x47 =>
    bif (decide (x47.Low < x39.Low)) then
      some true
    else
      (getI o8.2.2 s41).bind fun x50 =>
      some (decide (x39.High < x50.High))).bind fun o46 =>
    bif o46 then
      some (Sum.inr (Sum.inl ()))
    else
      some (Sum.inl (IntKind.i64.wrap (s41 + 1)))
  else
    some (Sum.inr (Sum.inr ()))

noncomputable def F_law06_WindowMeets (p0 : List Int) (p1 : Int) : Option (Bool) :=
  (F_draw_New p0).bind fun x1 =>
  (F_draw_Mod p1 150).bind fun x3 =>
  (F_draw_Codes_Next x1 5).bind fun x5 =>
  (loopC (F_law06_WindowMeets_L1 x3) (([] : List T_Span), true, x5.2, x5.1, ([] : List T_Span))).bind fun o8 =>
  (F_window_Meet o8.2.2).bind fun x19 =>
  (F_window_Meet o8.1).bind fun x21 =>
  (bif (!((x19.1.Low == x21.1.Low) && ((x19.1.High == x21.1.High) && true))) then
    some true
  else
    bif (x19.2 != x21.2) then
      some true
    else
      (F_window_Hull o8.2.2).bind fun x26 =>
      (F_window_Hull o8.1).bind fun x28 =>
      bif (!((x26.Low == x28.Low) && ((x26.High == x28.High) && true))) then
        some true
      else
        bif x19.2 then
          bif (decide (x19.1.Low ≤ (IntKind.i64.wrap (x3 - 40)))) then
            bif (o8.2.1 != (decide ((IntKind.i64.wrap (x3 - 40)) ≤ x19.1.High))) then
              some true
            else
              bif (!x19.2) then
                some o8.2.1
              else
                some false
          else
            bif (o8.2.1 != false) then
              some true
            else
              bif (!x19.2) then
                some o8.2.1
              else
                some false
        else
          bif (!x19.2) then
            some o8.2.1
          else
            some false).bind fun o23 =>
  bif o23 then
    some false
  else
    (F_window_Hull o8.2.2).bind fun x39 =>
    (loopC (F_law06_WindowMeets_L2 o8 x39) 0).bind fun o42 =>
    Sum.elim (fun j43 =>
      some false)
    (fun j44 =>
      (F_law06_awake).bind fun x53 =>
      some x53) o42

end Go.L
