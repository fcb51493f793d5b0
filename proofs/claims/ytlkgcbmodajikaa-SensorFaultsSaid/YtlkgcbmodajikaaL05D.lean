/- Printed by wip/lift/lift.py: the functions of the program, as partial functions of plain data. -/
import Derived.Test.YtlkgcbmodajikaaAmlZ
namespace Go.L
open Go Go.Aml

structure T_draw_Codes where
  l : List Int
  at_ : Int
  deriving DecidableEq
def T_draw_Codes.enc (x : T_draw_Codes) : PV := .agg [.vs 1 (List.map (PV.int .u8) x.l), .int .i64 x.at_]
theorem T_draw_Codes.enc_lt (x : T_draw_Codes) : LtN 0 x.enc := lt_agg ⟨.vs _ _, .int _ _, trivial⟩

structure T_Sensor where
  Address : Int
  Kind : Int
  Target : Int
  Offset : Int
  Scale : Int
  Error : Int
  Drift : Int
  Life : Int
  deriving DecidableEq
def T_Sensor.enc (x : T_Sensor) : PV := .agg [.int .i64 x.Address, .int .i64 x.Kind, .int .i64 x.Target, .int .i64 x.Offset, .int .i64 x.Scale, .int .i64 x.Error, .int .i64 x.Drift, .int .i64 x.Life]
theorem T_Sensor.enc_lt (x : T_Sensor) : LtN 0 x.enc := lt_agg ⟨.int _ _, .int _ _, .int _ _, .int _ _, .int _ _, .int _ _, .int _ _, .int _ _, trivial⟩

structure T_Span where
  Low : Int
  High : Int
  deriving DecidableEq
def T_Span.enc (x : T_Span) : PV := .agg [.int .i64 x.Low, .int .i64 x.High]
theorem T_Span.enc_lt (x : T_Span) : LtN 0 x.enc := lt_agg ⟨.int _ _, .int _ _, trivial⟩

structure T_Frame where
  Address : Int
  Kind : Int
  Data : List Int
  deriving DecidableEq
def T_Frame.enc (x : T_Frame) : PV := .agg [.int .i64 x.Address, .int .i64 x.Kind, .vs 1 (List.map (PV.int .u8) x.Data)]
theorem T_Frame.enc_lt (x : T_Frame) : LtN 0 x.enc := lt_agg ⟨.int _ _, .int _ _, .vs _ _, trivial⟩

structure T_Measure where
  Sensor : Int
  Time : Int
  Span : T_Span
  deriving DecidableEq
def T_Measure.enc (x : T_Measure) : PV := .agg [.int .i64 x.Sensor, .int .i64 x.Time, .int .i64 x.Span.Low, .int .i64 x.Span.High]
theorem T_Measure.enc_lt (x : T_Measure) : LtN 0 x.enc := lt_agg ⟨.int _ _, .int _ _, .int _ _, .int _ _, trivial⟩

def T_draw_Codes.Wf (x : T_draw_Codes) : Prop := (InL (In .u8)) x.l ∧ (In .i64) x.at_ ∧ True
def T_Sensor.Wf (x : T_Sensor) : Prop := (In .i64) x.Address ∧ (In .i64) x.Kind ∧ (In .i64) x.Target ∧ (In .i64) x.Offset ∧ (In .i64) x.Scale ∧ (In .i64) x.Error ∧ (In .i64) x.Drift ∧ (In .i64) x.Life ∧ True
def T_Span.Wf (x : T_Span) : Prop := (In .i64) x.Low ∧ (In .i64) x.High ∧ True
def T_Frame.Wf (x : T_Frame) : Prop := (In .i64) x.Address ∧ (In .i64) x.Kind ∧ (InL (In .u8)) x.Data ∧ True
def T_Measure.Wf (x : T_Measure) : Prop := (In .i64) x.Sensor ∧ (In .i64) x.Time ∧ T_Span.Wf x.Span ∧ True

noncomputable def F_draw_New (p0 : List Int) : Option (T_draw_Codes) :=
  (sliI p0 0 (min ((p0).length : Int) 300)).bind fun x1 =>
  some (T_draw_Codes.mk x1 0)

noncomputable def F_draw_Codes_Next (p0 : T_draw_Codes) (p1 : Int) : Option (T_draw_Codes × Int) :=
  (bif (decide (p1 < 1)) then
    some true
  else
    some (decide (((p0.l).length : Int) ≤ p0.at_))).bind fun o1 =>
  bif o1 then
    some (p0, 0)
  else
    (getI p0.l (IntKind.i64.wrap ((IntKind.i64.wrap (p0.at_ + 1)) - 1))).bind fun x4 =>
    (bif (decide (256 < p1)) then
      some (decide ((IntKind.i64.wrap (p0.at_ + 1)) < ((p0.l).length : Int)))
    else
      some false).bind fun o6 =>
    (bif o6 then
      (getI p0.l (IntKind.i64.wrap (p0.at_ + 1))).bind fun x10 =>
      some ((IntKind.i64.wrap ((IntKind.i64.wrap ((IntKind.i64.wrap x4) * 256)) + (IntKind.i64.wrap x10))), (IntKind.i64.wrap ((IntKind.i64.wrap (p0.at_ + 1)) + 1)))
    else
      some ((IntKind.i64.wrap x4), (IntKind.i64.wrap (p0.at_ + 1)))).bind fun o8 =>
    (remI o8.1 p1).bind fun x12 =>
    some ((T_draw_Codes.mk p0.l o8.2), x12)

noncomputable def F_draw_Codes_Range (p0 : T_draw_Codes) (p1 : Int) (p2 : Int) : Option (T_draw_Codes × Int) :=
  (F_draw_Codes_Next p0 (IntKind.i64.wrap ((IntKind.i64.wrap (p2 - p1)) + 1))).bind fun x1 =>
  some (x1.1, (IntKind.i64.wrap (p1 + x1.2)))

noncomputable def F_ref05_Stately (p0 : Int) : Option (Bool) :=
  some (decide (4 ≤ p0))

noncomputable def F_draw_Codes_Sensor (p0 : T_draw_Codes) (p1 : Int) (p2 : Int) (p3 : Int) : Option (T_draw_Codes × T_Sensor) :=
  (F_draw_Codes_Range p0 1 200).bind fun x1 =>
  (F_ref05_Stately p1).bind fun x3 =>
  (bif (!x3) then
    (F_draw_Codes_Range x1.1 (-50) 20).bind fun x7 =>
    (F_draw_Codes_Range x7.1 300 2000).bind fun x9 =>
    (F_draw_Codes_Next x9.1 6).bind fun x11 =>
    (F_draw_Codes_Next x11.1 700).bind fun x13 =>
    some ((T_Sensor.mk p2 p1 p3 x7.2 x9.2 x11.2 x13.2 x1.2), x13.1)
  else
    some ((T_Sensor.mk p2 p1 p3 0 1000 0 0 x1.2), x1.1)).bind fun o5 =>
  some (o5.2, o5.1)

noncomputable def F_law05_made (p0 : List Int) (p1 : Int) : Option (T_Sensor) :=
  (F_draw_New p0).bind fun x1 =>
  (F_draw_Codes_Range x1 1 6).bind fun x3 =>
  (F_draw_Codes_Next x3.1 6).bind fun x5 =>
  (F_draw_Codes_Next x5.1 4).bind fun x7 =>
  (F_draw_Codes_Sensor x7.1 x3.2 x5.2 x7.2).bind fun x9 =>
  (F_draw_Codes_Next x9.1 14).bind fun x11 =>
  (bif (decide (x11.2 = 1)) then
    some (T_Sensor.mk x9.2.Address p1 x9.2.Target x9.2.Offset x9.2.Scale x9.2.Error x9.2.Drift x9.2.Life)
  else
    bif (decide (x11.2 = 2)) then
      some (T_Sensor.mk p1 x9.2.Kind x9.2.Target x9.2.Offset x9.2.Scale x9.2.Error x9.2.Drift x9.2.Life)
    else
      bif (decide (x11.2 = 3)) then
        some (T_Sensor.mk x9.2.Address x9.2.Kind p1 x9.2.Offset x9.2.Scale x9.2.Error x9.2.Drift x9.2.Life)
      else
        bif (decide (x11.2 = 4)) then
          some (T_Sensor.mk x9.2.Address x9.2.Kind x9.2.Target p1 x9.2.Scale x9.2.Error x9.2.Drift x9.2.Life)
        else
          bif (decide (x11.2 = 5)) then
            some (T_Sensor.mk x9.2.Address x9.2.Kind x9.2.Target x9.2.Offset p1 x9.2.Error x9.2.Drift x9.2.Life)
          else
            bif (decide (x11.2 = 6)) then
              some (T_Sensor.mk x9.2.Address x9.2.Kind x9.2.Target x9.2.Offset x9.2.Scale p1 x9.2.Drift x9.2.Life)
            else
              bif (decide (x11.2 = 7)) then
                some (T_Sensor.mk x9.2.Address x9.2.Kind x9.2.Target x9.2.Offset x9.2.Scale x9.2.Error p1 x9.2.Life)
              else
                bif (decide (x11.2 = 8)) then
                  some (T_Sensor.mk x9.2.Address x9.2.Kind x9.2.Target x9.2.Offset x9.2.Scale x9.2.Error x9.2.Drift p1)
                else
                  some x9.2).bind fun o13 =>
  some o13

noncomputable def F_sensor_in_L1 (p0 : Int) (p1 : Int) (p2 : List Int) (s1 : Int) : Option (Int ⊕ (Unit ⊕ Unit)) :=
  bif (decide (s1 < ((p2).length : Int))) then
    (getI p2 s1).bind fun x6 =>
    (bif (decide (x6 < p0)) then
      some true
    else
      some (decide (p1 < x6))).bind fun o8 =>
    bif o8 then
      some (Sum.inr (Sum.inl ()))
    else
      some (Sum.inl (IntKind.i64.wrap (s1 + 1)))
  else
    some (Sum.inr (Sum.inr ()))

noncomputable def F_sensor_in (p0 : Int) (p1 : Int) (p2 : List Int) : Option (Bool) :=
  (loopC (F_sensor_in_L1 p0 p1 p2) 0).bind fun o2 =>
  Sum.elim (fun j3 =>
    some false)
  (fun j4 =>
    some true) o2

noncomputable def F_sensor_Check (p0 : T_Sensor) : Option (Int) :=
  (F_sensor_in 1 6 [p0.Kind]).bind fun x1 =>
  bif (!x1) then
    some 5
  else
    ((F_sensor_in 0 255 [p0.Address]).bind fun x5 =>
    bif (!x5) then
      some true
    else
      bif (decide (p0.Target < 0)) then
        some true
      else
        (F_sensor_in (-1000000) 1000000 [p0.Offset, p0.Scale]).bind fun x9 =>
        some (!x9)).bind fun o4 =>
    bif o4 then
      some 1
    else
      ((F_sensor_in 0 1000000 [p0.Error, p0.Drift]).bind fun x13 =>
      bif (!x13) then
        some true
      else
        (F_sensor_in 1 1000000 [p0.Life]).bind fun x16 =>
        some (!x16)).bind fun o12 =>
      bif o12 then
        some 1
      else
        some 0

noncomputable def F_ref05_in (p0 : Int) (p1 : Int) (p2 : Int) : Option (Bool) :=
  bif (decide (p1 ≤ p0)) then
    some (decide (p0 ≤ p2))
  else
    some false

noncomputable def F_ref05_Check (p0 : T_Sensor) : Option (Int) :=
  (F_ref05_in p0.Kind 1 6).bind fun x1 =>
  bif (!x1) then
    some 5
  else
    ((F_ref05_in p0.Address 0 255).bind fun x5 =>
    bif (!x5) then
      some true
    else
      bif (decide (p0.Target < 0)) then
        some true
      else
        (F_ref05_in p0.Offset (-1000000) 1000000).bind fun x9 =>
        bif (!x9) then
          some true
        else
          (F_ref05_in p0.Scale (-1000000) 1000000).bind fun x12 =>
          bif (!x12) then
            some true
          else
            (F_ref05_in p0.Error 0 1000000).bind fun x15 =>
            bif (!x15) then
              some true
            else
              (F_ref05_in p0.Drift 0 1000000).bind fun x18 =>
              bif (!x18) then
                some true
              else
                (F_ref05_in p0.Life 1 1000000).bind fun x21 =>
                some (!x21)).bind fun o4 =>
    bif o4 then
      some 1
    else
      some 0

noncomputable def F_sensor_Nothing  : Option (T_Span) :=
  some (T_Span.mk (-1125899906842624) 1125899906842624)

noncomputable def F_sensor_down (p0 : Int) : Option (Int) :=
  (bif (decide ((Int.tmod p0 1000) < 0)) then
    some (IntKind.i64.wrap ((IntKind.i64.wrap (Int.tdiv p0 1000)) - 1))
  else
    some (IntKind.i64.wrap (Int.tdiv p0 1000))).bind fun o1 =>
  some o1

noncomputable def F_sensor_value (p0 : T_Sensor) (p1 : Int) : Option (T_Span) :=
  (bif (decide (p1 < 0)) then
    some true
  else
    some (decide (65535 < p1))).bind fun o1 =>
  bif o1 then
    (F_sensor_Nothing).bind fun x4 =>
    some x4
  else
    (bif (decide (p0.Kind = 4)) then
      some 1
    else
      bif (decide (p0.Kind = 5)) then
        some 2
      else
        bif (decide (p0.Kind = 6)) then
          some 5
        else
          some (-1)).bind fun o6 =>
    bif (decide (0 ≤ o6)) then
      bif (decide (o6 < p1)) then
        (F_sensor_Nothing).bind fun x12 =>
        some x12
      else
        some (T_Span.mk p1 p1)
    else
      (F_sensor_down (IntKind.i64.wrap (p0.Scale * p1))).bind fun x14 =>
      (F_sensor_down (IntKind.i64.wrap (0 - (IntKind.i64.wrap (p0.Scale * p1))))).bind fun x16 =>
      (bif (decide (p0.Kind = 1)) then
        some true
      else
        some (decide (p0.Kind = 2))).bind fun o18 =>
      (bif o18 then
        some (T_Span.mk (max (IntKind.i64.wrap ((IntKind.i64.wrap (p0.Offset + x14)) - p0.Error)) 0) (max (IntKind.i64.wrap ((IntKind.i64.wrap (p0.Offset - x16)) + p0.Error)) 0))
      else
        some (T_Span.mk (IntKind.i64.wrap ((IntKind.i64.wrap (p0.Offset + x14)) - p0.Error)) (IntKind.i64.wrap ((IntKind.i64.wrap (p0.Offset - x16)) + p0.Error)))).bind fun o20 =>
      some o20

noncomputable def F_sensor_Decode_L1 (p0 : List T_Sensor) (p1 : T_Frame) (s4 : Int × Int) : Option ((Int × Int) ⊕ Int) :=
  bif (decide (0 ≤ s4.2)) then
    ((getI p0 s4.2).bind fun x8 =>
    bif (decide (x8.Address = p1.Address)) then
      some s4.2
    else
      some s4.1).bind fun o7 =>
    some (Sum.inl (o7, (IntKind.i64.wrap (s4.2 - 1))))
  else
    some (Sum.inr s4.1)

noncomputable def F_sensor_Decode (p0 : List T_Sensor) (p1 : T_Frame) (p2 : Int) : Option (T_Measure × Int) :=
  (bif (decide (p2 < 0)) then
    some true
  else
    some (decide (2147483648 < p2))).bind fun o1 =>
  bif o1 then
    some ((T_Measure.mk 0 0 (T_Span.mk 0 0)), 8)
  else
    (loopC (F_sensor_Decode_L1 p0 p1) ((-1), (IntKind.i64.wrap (((p0).length : Int) - 1)))).bind fun o5 =>
    (bif (decide (o5 < 0)) then
      some true
    else
      (getI p0 o5).bind fun x13 =>
      (F_sensor_Check x13).bind fun x15 =>
      some (decide (x15 ≠ 0))).bind fun o11 =>
    bif o11 then
      some ((T_Measure.mk 0 0 (T_Span.mk 0 0)), 9)
    else
      (F_sensor_Nothing).bind fun x18 =>
      (bif (decide (p1.Kind = 1)) then
        bif (decide (((p1.Data).length : Int) ≠ 2)) then
          some (Sum.inr 6)
        else
          (getI p0 o5).bind fun x25 =>
          (getI p1.Data 0).bind fun x27 =>
          (getI p1.Data 1).bind fun x29 =>
          (F_sensor_value x25 (bits .or .i64 (IntKind.i64.wrap ((IntKind.i64.wrap x27) * 256)) (IntKind.i64.wrap x29))).bind fun x31 =>
          some (Sum.inl (T_Measure.mk o5 p2 x31))
      else
        bif (decide (p1.Kind = 2)) then
          bif (decide (((p1.Data).length : Int) ≠ 0)) then
            some (Sum.inr 6)
          else
            some (Sum.inl (T_Measure.mk o5 p2 x18))
        else
          some (Sum.inr 5)).bind fun o20 =>
      Sum.elim (fun j21 =>
        some (j21, 0))
      (fun j22 =>
        some ((T_Measure.mk 0 0 (T_Span.mk 0 0)), j22)) o20

noncomputable def F_ref05_Nothing  : Option (T_Span) :=
  some (T_Span.mk (-1125899906842624) 1125899906842624)

noncomputable def F_sensor_Value (p0 : T_Sensor) (p1 : Int) : Option (T_Span) :=
  (F_sensor_Check p0).bind fun x1 =>
  bif (decide (x1 ≠ 0)) then
    (F_sensor_Nothing).bind fun x4 =>
    some x4
  else
    (F_sensor_value p0 p1).bind fun x6 =>
    some x6

noncomputable def F_law05_awake  : Option (Bool) :=
  (F_sensor_Decode [(T_Sensor.mk 0 3 0 0 500 3 0 1)] (T_Frame.mk 0 1 [0, 101]) 7).bind fun x1 =>
  (F_sensor_Check (T_Sensor.mk 0 3 0 0 500 3 0 1)).bind fun x3 =>
  bif (decide (x3 = 0)) then
    (F_sensor_Nothing).bind fun x6 =>
    (F_ref05_Nothing).bind fun x8 =>
    bif ((x6.Low == x8.Low) && ((x6.High == x8.High) && true)) then
      (F_sensor_Value (T_Sensor.mk 0 3 0 0 500 3 0 1) 101).bind fun x11 =>
      bif ((x11.Low == 47) && ((x11.High == 54) && true)) then
        bif (decide (x1.2 = 0)) then
          some ((x1.1.Sensor == 0) && ((x1.1.Time == 7) && (((x1.1.Span.Low == 47) && ((x1.1.Span.High == 54) && true)) && true)))
        else
          some false
      else
        some false
    else
      some false
  else
    some false

noncomputable def F_law05_SensorChecks (p0 : List Int) (p1 : T_Sensor) (p2 : Int) : Option (Bool) :=
  (F_law05_made p0 p2).bind fun x1 =>
  (F_sensor_Check x1).bind fun x3 =>
  (F_ref05_Check x1).bind fun x5 =>
  bif (decide (x3 = x5)) then
    (F_sensor_Check p1).bind fun x8 =>
    (F_ref05_Check p1).bind fun x10 =>
    bif (decide (x8 = x10)) then
      (F_law05_awake).bind fun x13 =>
      some x13
    else
      some false
  else
    some false

noncomputable def F_draw_Mod (p0 : Int) (p1 : Int) : Option (Int) :=
  bif (decide (p1 < 1)) then
    some 0
  else
    (remI p0 p1).bind fun x2 =>
    (bif (decide (x2 < 0)) then
      some (IntKind.i64.wrap (x2 + p1))
    else
      some x2).bind fun o4 =>
    some o4

noncomputable def F_ref05_Floor (p0 : Int) (p1 : Int) : Option (Int) :=
  (quoI .i64 p0 p1).bind fun x1 =>
  (remI p0 p1).bind fun x3 =>
  (bif (decide (x3 < 0)) then
    some (IntKind.i64.wrap (x1 - 1))
  else
    some x1).bind fun o5 =>
  some o5

noncomputable def F_ref05_Ceil (p0 : Int) (p1 : Int) : Option (Int) :=
  (F_ref05_Floor (IntKind.i64.wrap (0 - p0)) p1).bind fun x1 =>
  some (IntKind.i64.wrap (0 - x1))

noncomputable def F_ref05_Gassy (p0 : Int) : Option (Bool) :=
  bif (decide (p0 = 1)) then
    some true
  else
    some (decide (p0 = 2))

noncomputable def F_ref05_Value (p0 : T_Sensor) (p1 : Int) : Option (T_Span) :=
  ((F_ref05_Check p0).bind fun x2 =>
  bif (decide (x2 ≠ 0)) then
    some true
  else
    (F_ref05_in p1 0 65535).bind fun x5 =>
    some (!x5)).bind fun o1 =>
  bif o1 then
    (F_ref05_Nothing).bind fun x8 =>
    some x8
  else
    (F_ref05_Stately p0.Kind).bind fun x10 =>
    bif x10 then
      (bif (decide (p0.Kind = 5)) then
        some 2
      else
        some 1).bind fun o13 =>
      (bif (decide (p0.Kind = 6)) then
        some 5
      else
        some o13).bind fun o15 =>
      bif (decide (o15 < p1)) then
        (F_ref05_Nothing).bind fun x18 =>
        some x18
      else
        some (T_Span.mk p1 p1)
    else
      (F_ref05_Floor (IntKind.i64.wrap (p0.Scale * p1)) 1000).bind fun x20 =>
      (F_ref05_Ceil (IntKind.i64.wrap (p0.Scale * p1)) 1000).bind fun x22 =>
      (F_ref05_Gassy p0.Kind).bind fun x24 =>
      (bif x24 then
        some (T_Span.mk (max (IntKind.i64.wrap ((IntKind.i64.wrap (p0.Offset + x20)) - p0.Error)) 0) (max (IntKind.i64.wrap ((IntKind.i64.wrap (p0.Offset + x22)) + p0.Error)) 0))
      else
        some (T_Span.mk (IntKind.i64.wrap ((IntKind.i64.wrap (p0.Offset + x20)) - p0.Error)) (IntKind.i64.wrap ((IntKind.i64.wrap (p0.Offset + x22)) + p0.Error)))).bind fun o26 =>
      some o26

noncomputable def F_law05_SensorValues_L1 (p1 : T_Sensor) (p2 : Int) (x1 : Int) (x3 : T_Sensor) (s5 : Int) : Option (Int ⊕ (Unit ⊕ Unit)) :=
  bif (decide (s5 < (([x3, p1]).length : Int))) then
    (getI [x3, p1] s5).bind fun x10 =>
    ((F_sensor_Value x10 p2).bind fun x13 =>
    (F_ref05_Value x10 p2).bind fun x15 =>
    bif (!((x13.Low == x15.Low) && ((x13.High == x15.High) && true))) then
      some true
    else
      (F_sensor_Value x10 x1).bind fun x18 =>
      (F_ref05_Value x10 x1).bind fun x20 =>
      bif (!((x18.Low == x20.Low) && ((x18.High == x20.High) && true))) then
        some true
      else
        (F_sensor_Value x10 (Int.tmod x1 7)).bind fun x23 =>
        (F_ref05_Value x10 (Int.tmod x1 7)).bind fun x25 =>
        some (!((x23.Low == x25.Low) && ((x23.High == x25.High) && true)))).bind fun o12 =>
    bif o12 then
      some (Sum.inr (Sum.inl ()))
    else
      some (Sum.inl (IntKind.i64.wrap (s5 + 1)))
  else
    some (Sum.inr (Sum.inr ()))

noncomputable def F_law05_SensorValues (p0 : List Int) (p1 : T_Sensor) (p2 : Int) (p3 : Int) : Option (Bool) :=
  (F_draw_Mod p2 3000).bind fun x1 =>
  (F_law05_made p0 p3).bind fun x3 =>
  (loopC (F_law05_SensorValues_L1 p1 p2 x1 x3) 0).bind fun o6 =>
  Sum.elim (fun j7 =>
    some false)
  (fun j8 =>
    (F_law05_awake).bind fun x28 =>
    some x28) o6

noncomputable def F_draw_Codes_Frame (p0 : T_draw_Codes) : Option (T_draw_Codes × T_Frame) :=
  (F_draw_Codes_Next p0 6).bind fun x1 =>
  (F_draw_Codes_Next x1.1 2).bind fun x3 =>
  (F_draw_Codes_Next x3.1 256).bind fun x5 =>
  (F_draw_Codes_Next x5.1 8).bind fun x7 =>
  (bif (decide (x7.2 = 5)) then
    some ((T_Frame.mk x1.2 2 ([] : List Int)), x7.1)
  else
    bif (decide (x7.2 = 6)) then
      (F_draw_Codes_Next x7.1 4).bind fun x12 =>
      some ((T_Frame.mk x1.2 x12.2 [(IntKind.u8.wrap x3.2), (IntKind.u8.wrap x5.2)]), x12.1)
    else
      bif (decide (x7.2 = 7)) then
        (F_draw_Codes_Next x7.1 3).bind fun x15 =>
        (sliI [(IntKind.u8.wrap x3.2), (IntKind.u8.wrap x5.2)] 0 x15.2).bind fun x17 =>
        some ((T_Frame.mk x1.2 1 x17), x15.1)
      else
        some ((T_Frame.mk x1.2 1 [(IntKind.u8.wrap x3.2), (IntKind.u8.wrap x5.2)]), x7.1)).bind fun o9 =>
  some (o9.2, o9.1)

noncomputable def F_ref05_Decode_L1 (p0 : List T_Sensor) (p1 : T_Frame) (s4 : Int × Int) : Option ((Int × Int) ⊕ Int) :=
  bif (decide (0 ≤ s4.2)) then
    ((getI p0 s4.2).bind fun x8 =>
    bif (decide (x8.Address = p1.Address)) then
      some s4.2
    else
      some s4.1).bind fun o7 =>
    some (Sum.inl (o7, (IntKind.i64.wrap (s4.2 - 1))))
  else
    some (Sum.inr s4.1)

noncomputable def F_ref05_Decode (p0 : List T_Sensor) (p1 : T_Frame) (p2 : Int) : Option (T_Measure × Int) :=
  (F_ref05_in p2 0 2147483648).bind fun x1 =>
  bif (!x1) then
    some ((T_Measure.mk 0 0 (T_Span.mk 0 0)), 8)
  else
    (loopC (F_ref05_Decode_L1 p0 p1) ((-1), (IntKind.i64.wrap (((p0).length : Int) - 1)))).bind fun o5 =>
    (bif (decide (o5 < 0)) then
      some true
    else
      (getI p0 o5).bind fun x13 =>
      (F_ref05_Check x13).bind fun x15 =>
      some (decide (x15 ≠ 0))).bind fun o11 =>
    bif o11 then
      some ((T_Measure.mk 0 0 (T_Span.mk 0 0)), 9)
    else
      (bif (decide (p1.Kind ≠ 1)) then
        some (decide (p1.Kind ≠ 2))
      else
        some false).bind fun o18 =>
      bif o18 then
        some ((T_Measure.mk 0 0 (T_Span.mk 0 0)), 5)
      else
        (bif (decide (p1.Kind = 1)) then
          bif (decide (((p1.Data).length : Int) ≠ 2)) then
            some true
          else
            bif (decide (p1.Kind = 2)) then
              some (decide (((p1.Data).length : Int) ≠ 0))
            else
              some false
        else
          bif (decide (p1.Kind = 2)) then
            some (decide (((p1.Data).length : Int) ≠ 0))
          else
            some false).bind fun o21 =>
        bif o21 then
          some ((T_Measure.mk 0 0 (T_Span.mk 0 0)), 6)
        else
          (F_ref05_Nothing).bind fun x27 =>
          (bif (decide (p1.Kind = 1)) then
            (getI p0 o5).bind fun x31 =>
            (getI p1.Data 0).bind fun x33 =>
            (getI p1.Data 1).bind fun x35 =>
            (F_ref05_Value x31 (bits .or .i64 (IntKind.i64.wrap ((IntKind.i64.wrap x33) * 256)) (IntKind.i64.wrap x35))).bind fun x37 =>
            some (T_Measure.mk o5 p2 x37)
          else
            some (T_Measure.mk o5 p2 x27)).bind fun o29 =>
          some (o29, 0)

noncomputable def F_law05_SensorDecodes_L2 (p1 : List T_Sensor) (p3 : Int) (x12 : T_draw_Codes × T_Sensor) (x18 : T_draw_Codes × T_Sensor) (x24 : T_draw_Codes × T_Sensor) (x26 : Int) (x37 : T_Frame) (s39 : Int) : Option (Int ⊕ (Unit ⊕ Unit)) :=
  bif (decide (s39 < (([[x12.2, x18.2, x24.2], p1]).length : Int))) then
    (getI [[x12.2, x18.2, x24.2], p1] s39).bind fun x44 =>
    (F_sensor_Decode x44 x37 p3).bind fun x46 =>
    (F_ref05_Decode x44 x37 p3).bind fun x48 =>
    (F_sensor_Decode x44 x37 x26).bind fun x50 =>
    (F_ref05_Decode x44 x37 x26).bind fun x52 =>
    (bif (!((x46.1.Sensor == x48.1.Sensor) && ((x46.1.Time == x48.1.Time) && (((x46.1.Span.Low == x48.1.Span.Low) && ((x46.1.Span.High == x48.1.Span.High) && true)) && true)))) then
      some true
    else
      bif (decide (x46.2 ≠ x48.2)) then
        some true
      else
        bif (!((x50.1.Sensor == x52.1.Sensor) && ((x50.1.Time == x52.1.Time) && (((x50.1.Span.Low == x52.1.Span.Low) && ((x50.1.Span.High == x52.1.Span.High) && true)) && true)))) then
          some true
        else
          some (decide (x50.2 ≠ x52.2))).bind fun o54 =>
    bif o54 then
      some (Sum.inr (Sum.inl ()))
    else
      some (Sum.inl (IntKind.i64.wrap (s39 + 1)))
  else
    some (Sum.inr (Sum.inr ()))

noncomputable def F_law05_SensorDecodes_L1 (p1 : List T_Sensor) (p2 : T_Frame) (p3 : Int) (x12 : T_draw_Codes × T_Sensor) (x18 : T_draw_Codes × T_Sensor) (x24 : T_draw_Codes × T_Sensor) (x26 : Int) (x28 : T_draw_Codes × T_Frame) (x30 : T_draw_Codes × T_Frame) (s32 : Int) : Option (Int ⊕ (Unit ⊕ Unit)) :=
  bif (decide (s32 < (([p2, x28.2, x30.2]).length : Int))) then
    (getI [p2, x28.2, x30.2] s32).bind fun x37 =>
    (loopC (F_law05_SensorDecodes_L2 p1 p3 x12 x18 x24 x26 x37) 0).bind fun o40 =>
    Sum.elim (fun j41 =>
      some (Sum.inr (Sum.inl ())))
    (fun j42 =>
      some (Sum.inl (IntKind.i64.wrap (s32 + 1)))) o40
  else
    some (Sum.inr (Sum.inr ()))

noncomputable def F_law05_SensorDecodes (p0 : List Int) (p1 : List T_Sensor) (p2 : T_Frame) (p3 : Int) : Option (Bool) :=
  (bif (decide (20 < ((p1).length : Int))) then
    some true
  else
    some (decide (100 < ((p2.Data).length : Int)))).bind fun o1 =>
  bif o1 then
    (F_law05_awake).bind fun x4 =>
    some x4
  else
    (F_draw_New p0).bind fun x6 =>
    (F_draw_Codes_Range x6 1 6).bind fun x8 =>
    (F_draw_Codes_Next x8.1 3).bind fun x10 =>
    (F_draw_Codes_Sensor x10.1 x8.2 x10.2 0).bind fun x12 =>
    (F_draw_Codes_Range x12.1 1 6).bind fun x14 =>
    (F_draw_Codes_Next x14.1 3).bind fun x16 =>
    (F_draw_Codes_Sensor x16.1 x14.2 x16.2 0).bind fun x18 =>
    (F_draw_Codes_Range x18.1 1 6).bind fun x20 =>
    (F_draw_Codes_Next x20.1 2).bind fun x22 =>
    (F_draw_Codes_Sensor x22.1 x20.2 (IntKind.i64.wrap (300 * x22.2)) 0).bind fun x24 =>
    (F_draw_Mod p3 1000).bind fun x26 =>
    (F_draw_Codes_Frame x24.1).bind fun x28 =>
    (F_draw_Codes_Frame x28.1).bind fun x30 =>
    (loopC (F_law05_SensorDecodes_L1 p1 p2 p3 x12 x18 x24 x26 x28 x30) 0).bind fun o33 =>
    Sum.elim (fun j34 =>
      some false)
    (fun j35 =>
      (F_law05_awake).bind fun x59 =>
      some x59) o33

noncomputable def F_law05_SensorTrue (p0 : List Int) (p1 : Int) (p2 : Int) (p3 : Int) : Option (Bool) :=
  (F_draw_New p0).bind fun x1 =>
  (F_draw_Codes_Sensor x1 3 0 0).bind fun x3 =>
  (F_sensor_Value x3.2 (IntKind.i64.wrap p1)).bind fun x5 =>
  (F_ref05_Floor (IntKind.i64.wrap ((IntKind.i64.wrap (1000 * x3.2.Offset)) + (IntKind.i64.wrap (x3.2.Scale * (IntKind.i64.wrap p1))))) 1000).bind fun x7 =>
  (F_draw_Mod p2 (IntKind.i64.wrap ((IntKind.i64.wrap (2 * x3.2.Error)) + 1))).bind fun x9 =>
  (bif (decide ((IntKind.i64.wrap (1000 * x3.2.Error)) < (IntKind.i64.wrap ((IntKind.i64.wrap (1000 * (IntKind.i64.wrap ((IntKind.i64.wrap (x7 + x9)) - x3.2.Error)))) - (IntKind.i64.wrap ((IntKind.i64.wrap (1000 * x3.2.Offset)) + (IntKind.i64.wrap (x3.2.Scale * (IntKind.i64.wrap p1))))))))) then
    some true
  else
    some (decide ((IntKind.i64.wrap (1000 * x3.2.Error)) < (IntKind.i64.wrap ((IntKind.i64.wrap ((IntKind.i64.wrap (1000 * x3.2.Offset)) + (IntKind.i64.wrap (x3.2.Scale * (IntKind.i64.wrap p1))))) - (IntKind.i64.wrap (1000 * (IntKind.i64.wrap ((IntKind.i64.wrap (x7 + x9)) - x3.2.Error))))))))).bind fun o11 =>
  bif o11 then
    (F_law05_awake).bind fun x14 =>
    some x14
  else
    (F_sensor_Value (T_Sensor.mk x3.2.Address x3.2.Kind x3.2.Target x3.2.Offset x3.2.Scale (IntKind.i64.wrap (x3.2.Error + (IntKind.i64.wrap p3))) x3.2.Drift x3.2.Life) (IntKind.i64.wrap p1)).bind fun x16 =>
    bif (decide (x5.Low ≤ (IntKind.i64.wrap ((IntKind.i64.wrap (x7 + x9)) - x3.2.Error)))) then
      bif (decide ((IntKind.i64.wrap ((IntKind.i64.wrap (x7 + x9)) - x3.2.Error)) ≤ x5.High)) then
        bif (decide (x16.Low ≤ x5.Low)) then
          bif (decide (x5.High ≤ x16.High)) then
            (F_law05_awake).bind fun x22 =>
            some x22
          else
            some false
        else
          some false
      else
        some false
    else
      some false

noncomputable def F_law05_SensorFaults (p0 : List Int) (p1 : Int) (p2 : Int) : Option (Bool) :=
  (F_draw_New p0).bind fun x1 =>
  (getI [1, 2, 5] (Int.tmod (IntKind.i64.wrap p2) 3)).bind fun x3 =>
  (F_draw_Codes_Sensor x1 (IntKind.i64.wrap (4 + (Int.tmod (IntKind.i64.wrap p2) 3))) 5 0).bind fun x5 =>
  (F_sensor_Decode [x5.2] (T_Frame.mk 5 2 ([] : List Int)) 3).bind fun x7 =>
  (F_sensor_Decode [x5.2] (T_Frame.mk 5 1 [(IntKind.u8.wrap (p1 / 256)), (IntKind.u8.wrap p1)]) 3).bind fun x9 =>
  (bif (decide (x3 < (IntKind.i64.wrap p1))) then
    (F_sensor_Nothing).bind fun x13 =>
    some x13
  else
    some (T_Span.mk (IntKind.i64.wrap p1) (IntKind.i64.wrap p1))).bind fun o11 =>
  bif (decide (x7.2 = 0)) then
    bif (decide (x9.2 = 0)) then
      (F_sensor_Nothing).bind fun x17 =>
      bif ((x7.1.Span.Low == x17.Low) && ((x7.1.Span.High == x17.High) && true)) then
        bif ((x9.1.Span.Low == o11.Low) && ((x9.1.Span.High == o11.High) && true)) then
          (F_law05_awake).bind fun x21 =>
          some x21
        else
          some false
      else
        some false
    else
      some false
  else
    some false

noncomputable def F_sensor_Raw_L1 (p0 : T_Sensor) (p1 : Int) (s4 : Int) : Option (Int ⊕ (Int ⊕ Unit)) :=
  bif (decide (s4 ≤ 65535)) then
    (F_sensor_value p0 s4).bind fun x9 =>
    ((F_sensor_Nothing).bind fun x12 =>
    bif (!((x9.Low == x12.Low) && ((x9.High == x12.High) && true))) then
      bif (decide (x9.Low ≤ p1)) then
        some (decide (p1 ≤ x9.High))
      else
        some false
    else
      some false).bind fun o11 =>
    bif o11 then
      some (Sum.inr (Sum.inl s4))
    else
      some (Sum.inl (IntKind.i64.wrap (s4 + 1)))
  else
    some (Sum.inr (Sum.inr ()))

noncomputable def F_sensor_Raw (p0 : T_Sensor) (p1 : Int) : Option (Int × Bool) :=
  (F_sensor_Check p0).bind fun x1 =>
  bif (decide (x1 ≠ 0)) then
    some (0, false)
  else
    (loopC (F_sensor_Raw_L1 p0 p1) 0).bind fun o5 =>
    Sum.elim (fun j6 =>
      some (j6, true))
    (fun j7 =>
      some (0, false)) o5

noncomputable def F_ref05_Raw_L1 (p0 : T_Sensor) (p1 : Int) (s1 : Int) : Option (Int ⊕ (Int ⊕ Unit)) :=
  bif (decide (s1 ≤ 65535)) then
    (F_ref05_Value p0 s1).bind fun x6 =>
    ((F_ref05_Nothing).bind fun x9 =>
    bif (!((x6.Low == x9.Low) && ((x6.High == x9.High) && true))) then
      bif (decide (x6.Low ≤ p1)) then
        some (decide (p1 ≤ x6.High))
      else
        some false
    else
      some false).bind fun o8 =>
    bif o8 then
      some (Sum.inr (Sum.inl s1))
    else
      some (Sum.inl (IntKind.i64.wrap (s1 + 1)))
  else
    some (Sum.inr (Sum.inr ()))

noncomputable def F_ref05_Raw (p0 : T_Sensor) (p1 : Int) : Option (Int × Bool) :=
  (loopC (F_ref05_Raw_L1 p0 p1) 0).bind fun o2 =>
  Sum.elim (fun j3 =>
    some (j3, true))
  (fun j4 =>
    some (0, false)) o2

noncomputable def F_law05_SensorRaw (p0 : List Int) (p1 : Int) (p2 : Int) : Option (Bool) :=
  (F_law05_made p0 p2).bind fun x1 =>
  (F_draw_Mod p1 400).bind fun x3 =>
  (F_sensor_Raw x1 (IntKind.i64.wrap (x3 - 100))).bind fun x5 =>
  (F_ref05_Raw x1 (IntKind.i64.wrap (x3 - 100))).bind fun x7 =>
  bif (decide (x5.1 = x7.1)) then
    bif (x5.2 == x7.2) then
      (F_law05_awake).bind fun x11 =>
      some x11
    else
      some false
  else
    some false

noncomputable def F_law05_SensorBack (p0 : List Int) (p1 : Int) : Option (Bool) :=
  (F_draw_New p0).bind fun x1 =>
  (F_draw_Codes_Range x1 1 3).bind fun x3 =>
  (F_draw_Codes_Sensor x3.1 x3.2 0 0).bind fun x5 =>
  (F_sensor_Value x5.2 (Int.tmod (IntKind.i64.wrap p1) 500)).bind fun x7 =>
  (F_sensor_Raw x5.2 x7.Low).bind fun x9 =>
  (bif (!x9.2) then
    some true
  else
    bif (decide ((Int.tmod (IntKind.i64.wrap p1) 500) < x9.1)) then
      some true
    else
      some (decide (x9.1 < 0))).bind fun o11 =>
  bif o11 then
    some false
  else
    (F_sensor_Value x5.2 x9.1).bind fun x15 =>
    (bif (decide (x7.Low < x15.Low)) then
      some true
    else
      some (decide (x15.High < x7.Low))).bind fun o17 =>
    bif o17 then
      some false
    else
      bif (decide (x9.1 = 0)) then
        (F_law05_awake).bind fun x21 =>
        some x21
      else
        (F_sensor_Value x5.2 (IntKind.i64.wrap (x9.1 - 1))).bind fun x23 =>
        bif (decide (x23.High < x7.Low)) then
          (F_law05_awake).bind fun x26 =>
          some x26
        else
          (F_sensor_Value x5.2 (IntKind.i64.wrap (x9.1 - 1))).bind fun x28 =>
          bif (decide (x7.Low < x28.Low)) then
            (F_law05_awake).bind fun x31 =>
            some x31
          else
            some false

end Go.L
