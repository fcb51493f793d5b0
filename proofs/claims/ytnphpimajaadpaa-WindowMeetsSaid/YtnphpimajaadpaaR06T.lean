/- Type facts, printed by wip/aml/facts.py. -/
import Derived.Test.YtnphpimajaadpaaProg
import Derived.Test.YtnphpimajaadpaaAmlS
import Derived.KernelRfl
namespace Go.Proofs.Ytnphpimajaadpaa
open Go Go.Aml

theorem us_0 : (Try.prog.underlying 0).isSome = true := by kernel_rfl
theorem ta_0 : tAgg Try.prog 0 = some false := by kernel_rfl
theorem ts_0 : tSize Try.prog 0 = some 1 := by kernel_rfl
theorem us_1 : (Try.prog.underlying 1).isSome = true := by kernel_rfl
theorem ta_1 : tAgg Try.prog 1 = some false := by kernel_rfl
theorem ts_1 : tSize Try.prog 1 = some 1 := by kernel_rfl
theorem tb_1 : tBytes Try.prog 1 = some 8 := by kernel_rfl
theorem tz_1 : tZero Try.prog 1 = some (.nilFunc) := by kernel_rfl
theorem us_2 : (Try.prog.underlying 2).isSome = true := by kernel_rfl
theorem ta_2 : tAgg Try.prog 2 = some false := by kernel_rfl
theorem ts_2 : tSize Try.prog 2 = some 1 := by kernel_rfl
theorem tb_2 : tBytes Try.prog 2 = some 8 := by kernel_rfl
theorem tz_2 : tZero Try.prog 2 = some (.int .i64 0) := by kernel_rfl
theorem ti_2 : tInt Try.prog 2 = some .i64 := by kernel_rfl
theorem us_3 : (Try.prog.underlying 3).isSome = true := by kernel_rfl
theorem ta_3 : tAgg Try.prog 3 = some false := by kernel_rfl
theorem ts_3 : tSize Try.prog 3 = some 1 := by kernel_rfl
theorem tb_3 : tBytes Try.prog 3 = some 8 := by kernel_rfl
theorem tz_3 : tZero Try.prog 3 = some (.int .i64 0) := by kernel_rfl
theorem ti_3 : tInt Try.prog 3 = some .i64 := by kernel_rfl
theorem us_4 : (Try.prog.underlying 4).isSome = true := by kernel_rfl
theorem ta_4 : tAgg Try.prog 4 = some false := by kernel_rfl
theorem ts_4 : tSize Try.prog 4 = some 1 := by kernel_rfl
theorem tb_4 : tBytes Try.prog 4 = some 1 := by kernel_rfl
theorem tz_4 : tZero Try.prog 4 = some (.bool false) := by kernel_rfl
theorem tbo_4 : tBool Try.prog 4 = true := by kernel_rfl
theorem us_5 : (Try.prog.underlying 5).isSome = true := by kernel_rfl
theorem ta_5 : tAgg Try.prog 5 = some false := by kernel_rfl
theorem ts_5 : tSize Try.prog 5 = some 1 := by kernel_rfl
theorem tb_5 : tBytes Try.prog 5 = some 1 := by kernel_rfl
theorem tz_5 : tZero Try.prog 5 = some (.int .u8 0) := by kernel_rfl
theorem ti_5 : tInt Try.prog 5 = some .u8 := by kernel_rfl
theorem us_6 : (Try.prog.underlying 6).isSome = true := by kernel_rfl
theorem ta_6 : tAgg Try.prog 6 = some false := by kernel_rfl
theorem ts_6 : tSize Try.prog 6 = some 1 := by kernel_rfl
theorem tb_6 : tBytes Try.prog 6 = some 1 := by kernel_rfl
theorem tz_6 : tZero Try.prog 6 = some (.int .u8 0) := by kernel_rfl
theorem ti_6 : tInt Try.prog 6 = some .u8 := by kernel_rfl
theorem us_7 : (Try.prog.underlying 7).isSome = true := by kernel_rfl
theorem ta_7 : tAgg Try.prog 7 = some true := by kernel_rfl
theorem ts_7 : tSize Try.prog 7 = some 4 := by kernel_rfl
theorem tb_7 : tBytes Try.prog 7 = some 24 := by kernel_rfl
theorem tz_7 : tZero Try.prog 7 = some (.agg #[.int .i64 0, .int .i64 0, .bool false, .int .u8 0]) := by kernel_rfl
theorem tf_7_0 : tFld Try.prog 7 0 = some (2, 0) := by kernel_rfl
theorem tf_7_1 : tFld Try.prog 7 1 = some (3, 1) := by kernel_rfl
theorem tf_7_2 : tFld Try.prog 7 2 = some (4, 2) := by kernel_rfl
theorem tf_7_3 : tFld Try.prog 7 3 = some (6, 3) := by kernel_rfl
theorem tp_7 : tPlaces Try.prog 7 = some [(0, 1), (1, 1), (2, 1), (3, 1)] := by kernel_rfl
theorem us_8 : (Try.prog.underlying 8).isSome = true := by kernel_rfl
theorem ta_8 : tAgg Try.prog 8 = some true := by kernel_rfl
theorem ts_8 : tSize Try.prog 8 = some 4 := by kernel_rfl
theorem tb_8 : tBytes Try.prog 8 = some 24 := by kernel_rfl
theorem tz_8 : tZero Try.prog 8 = some (.agg #[.int .i64 0, .int .i64 0, .bool false, .int .u8 0]) := by kernel_rfl
theorem tf_8_0 : tFld Try.prog 8 0 = some (2, 0) := by kernel_rfl
theorem tf_8_1 : tFld Try.prog 8 1 = some (3, 1) := by kernel_rfl
theorem tf_8_2 : tFld Try.prog 8 2 = some (4, 2) := by kernel_rfl
theorem tf_8_3 : tFld Try.prog 8 3 = some (6, 3) := by kernel_rfl
theorem tp_8 : tPlaces Try.prog 8 = some [(0, 1), (1, 1), (2, 1), (3, 1)] := by kernel_rfl
theorem us_9 : (Try.prog.underlying 9).isSome = true := by kernel_rfl
theorem ta_9 : tAgg Try.prog 9 = some false := by kernel_rfl
theorem ts_9 : tSize Try.prog 9 = some 1 := by kernel_rfl
theorem tb_9 : tBytes Try.prog 9 = some 16 := by kernel_rfl
theorem tz_9 : tZero Try.prog 9 = some (.string ByteArray.empty) := by kernel_rfl
theorem tst_9 : tStr Try.prog 9 = true := by kernel_rfl
theorem us_10 : (Try.prog.underlying 10).isSome = true := by kernel_rfl
theorem ta_10 : tAgg Try.prog 10 = some false := by kernel_rfl
theorem ts_10 : tSize Try.prog 10 = some 1 := by kernel_rfl
theorem tb_10 : tBytes Try.prog 10 = some 16 := by kernel_rfl
theorem tz_10 : tZero Try.prog 10 = some (.string ByteArray.empty) := by kernel_rfl
theorem tst_10 : tStr Try.prog 10 = true := by kernel_rfl
theorem us_11 : (Try.prog.underlying 11).isSome = true := by kernel_rfl
theorem ta_11 : tAgg Try.prog 11 = some false := by kernel_rfl
theorem ts_11 : tSize Try.prog 11 = some 1 := by kernel_rfl
theorem tb_11 : tBytes Try.prog 11 = some 16 := by kernel_rfl
theorem tz_11 : tZero Try.prog 11 = some (.string ByteArray.empty) := by kernel_rfl
theorem tst_11 : tStr Try.prog 11 = true := by kernel_rfl
theorem us_12 : (Try.prog.underlying 12).isSome = true := by kernel_rfl
theorem ta_12 : tAgg Try.prog 12 = some false := by kernel_rfl
theorem ts_12 : tSize Try.prog 12 = some 1 := by kernel_rfl
theorem tb_12 : tBytes Try.prog 12 = some 8 := by kernel_rfl
theorem tz_12 : tZero Try.prog 12 = some (.int .u64 0) := by kernel_rfl
theorem ti_12 : tInt Try.prog 12 = some .u64 := by kernel_rfl
theorem us_13 : (Try.prog.underlying 13).isSome = true := by kernel_rfl
theorem ta_13 : tAgg Try.prog 13 = some true := by kernel_rfl
theorem ts_13 : tSize Try.prog 13 = some 2 := by kernel_rfl
theorem tb_13 : tBytes Try.prog 13 = some 24 := by kernel_rfl
theorem tz_13 : tZero Try.prog 13 = some (.agg #[.string ByteArray.empty, .int .u64 0]) := by kernel_rfl
theorem tf_13_0 : tFld Try.prog 13 0 = some (9, 0) := by kernel_rfl
theorem tf_13_1 : tFld Try.prog 13 1 = some (12, 1) := by kernel_rfl
theorem tp_13 : tPlaces Try.prog 13 = some [(0, 1), (1, 1)] := by kernel_rfl
theorem us_14 : (Try.prog.underlying 14).isSome = true := by kernel_rfl
theorem ta_14 : tAgg Try.prog 14 = some true := by kernel_rfl
theorem ts_14 : tSize Try.prog 14 = some 2 := by kernel_rfl
theorem tb_14 : tBytes Try.prog 14 = some 24 := by kernel_rfl
theorem tz_14 : tZero Try.prog 14 = some (.agg #[.string ByteArray.empty, .int .u64 0]) := by kernel_rfl
theorem tf_14_0 : tFld Try.prog 14 0 = some (9, 0) := by kernel_rfl
theorem tf_14_1 : tFld Try.prog 14 1 = some (12, 1) := by kernel_rfl
theorem tp_14 : tPlaces Try.prog 14 = some [(0, 1), (1, 1)] := by kernel_rfl
theorem us_15 : (Try.prog.underlying 15).isSome = true := by kernel_rfl
theorem ta_15 : tAgg Try.prog 15 = some false := by kernel_rfl
theorem ts_15 : tSize Try.prog 15 = some 1 := by kernel_rfl
theorem tb_15 : tBytes Try.prog 15 = some 8 := by kernel_rfl
theorem tz_15 : tZero Try.prog 15 = some (.pointer none) := by kernel_rfl
theorem us_16 : (Try.prog.underlying 16).isSome = true := by kernel_rfl
theorem ta_16 : tAgg Try.prog 16 = some false := by kernel_rfl
theorem ts_16 : tSize Try.prog 16 = some 1 := by kernel_rfl
theorem tb_16 : tBytes Try.prog 16 = some 8 := by kernel_rfl
theorem tz_16 : tZero Try.prog 16 = some (.pointer none) := by kernel_rfl
theorem us_17 : (Try.prog.underlying 17).isSome = true := by kernel_rfl
theorem ta_17 : tAgg Try.prog 17 = some false := by kernel_rfl
theorem ts_17 : tSize Try.prog 17 = some 1 := by kernel_rfl
theorem tb_17 : tBytes Try.prog 17 = some 8 := by kernel_rfl
theorem tz_17 : tZero Try.prog 17 = some (.pointer none) := by kernel_rfl
theorem us_18 : (Try.prog.underlying 18).isSome = true := by kernel_rfl
theorem ta_18 : tAgg Try.prog 18 = some true := by kernel_rfl
theorem ts_18 : tSize Try.prog 18 = some 1 := by kernel_rfl
theorem tb_18 : tBytes Try.prog 18 = some 8 := by kernel_rfl
theorem tz_18 : tZero Try.prog 18 = some (.agg #[.pointer none]) := by kernel_rfl
theorem tf_18_0 : tFld Try.prog 18 0 = some (17, 0) := by kernel_rfl
theorem tp_18 : tPlaces Try.prog 18 = some [(0, 1)] := by kernel_rfl
theorem us_19 : (Try.prog.underlying 19).isSome = true := by kernel_rfl
theorem ta_19 : tAgg Try.prog 19 = some true := by kernel_rfl
theorem ts_19 : tSize Try.prog 19 = some 1 := by kernel_rfl
theorem tb_19 : tBytes Try.prog 19 = some 8 := by kernel_rfl
theorem tz_19 : tZero Try.prog 19 = some (.agg #[.pointer none]) := by kernel_rfl
theorem tf_19_0 : tFld Try.prog 19 0 = some (17, 0) := by kernel_rfl
theorem tp_19 : tPlaces Try.prog 19 = some [(0, 1)] := by kernel_rfl
theorem us_20 : (Try.prog.underlying 20).isSome = true := by kernel_rfl
theorem ta_20 : tAgg Try.prog 20 = some false := by kernel_rfl
theorem ts_20 : tSize Try.prog 20 = some 1 := by kernel_rfl
theorem tb_20 : tBytes Try.prog 20 = some 16 := by kernel_rfl
theorem tz_20 : tZero Try.prog 20 = some (.nilIface) := by kernel_rfl
theorem us_21 : (Try.prog.underlying 21).isSome = true := by kernel_rfl
theorem ta_21 : tAgg Try.prog 21 = some false := by kernel_rfl
theorem ts_21 : tSize Try.prog 21 = some 1 := by kernel_rfl
theorem tb_21 : tBytes Try.prog 21 = some 4 := by kernel_rfl
theorem tz_21 : tZero Try.prog 21 = some (.int .i32 0) := by kernel_rfl
theorem ti_21 : tInt Try.prog 21 = some .i32 := by kernel_rfl
theorem us_22 : (Try.prog.underlying 22).isSome = true := by kernel_rfl
theorem ta_22 : tAgg Try.prog 22 = some false := by kernel_rfl
theorem ts_22 : tSize Try.prog 22 = some 1 := by kernel_rfl
theorem tb_22 : tBytes Try.prog 22 = some 24 := by kernel_rfl
theorem tz_22 : tZero Try.prog 22 = some (.slice none 0 0) := by kernel_rfl
theorem te_22 : tElem Try.prog 22 = some 5 := by kernel_rfl
theorem us_23 : (Try.prog.underlying 23).isSome = true := by kernel_rfl
theorem ta_23 : tAgg Try.prog 23 = some true := by kernel_rfl
theorem ts_23 : tSize Try.prog 23 = some 2 := by kernel_rfl
theorem tb_23 : tBytes Try.prog 23 = some 16 := by kernel_rfl
theorem tz_23 : tZero Try.prog 23 = some (.agg #[.int .i64 0, .int .i64 0]) := by kernel_rfl
theorem tf_23_0 : tFld Try.prog 23 0 = some (3, 0) := by kernel_rfl
theorem tf_23_1 : tFld Try.prog 23 1 = some (3, 1) := by kernel_rfl
theorem tp_23 : tPlaces Try.prog 23 = some [(0, 1), (1, 1)] := by kernel_rfl
theorem us_24 : (Try.prog.underlying 24).isSome = true := by kernel_rfl
theorem ta_24 : tAgg Try.prog 24 = some true := by kernel_rfl
theorem ts_24 : tSize Try.prog 24 = some 2 := by kernel_rfl
theorem tb_24 : tBytes Try.prog 24 = some 16 := by kernel_rfl
theorem tz_24 : tZero Try.prog 24 = some (.agg #[.int .i64 0, .int .i64 0]) := by kernel_rfl
theorem tf_24_0 : tFld Try.prog 24 0 = some (3, 0) := by kernel_rfl
theorem tf_24_1 : tFld Try.prog 24 1 = some (3, 1) := by kernel_rfl
theorem tp_24 : tPlaces Try.prog 24 = some [(0, 1), (1, 1)] := by kernel_rfl
theorem us_25 : (Try.prog.underlying 25).isSome = true := by kernel_rfl
theorem ta_25 : tAgg Try.prog 25 = some true := by kernel_rfl
theorem ts_25 : tSize Try.prog 25 = some 4 := by kernel_rfl
theorem tb_25 : tBytes Try.prog 25 = some 32 := by kernel_rfl
theorem tz_25 : tZero Try.prog 25 = some (.agg #[.int .i64 0, .int .i64 0, .int .i64 0, .int .i64 0]) := by kernel_rfl
theorem tf_25_0 : tFld Try.prog 25 0 = some (3, 0) := by kernel_rfl
theorem tf_25_1 : tFld Try.prog 25 1 = some (3, 1) := by kernel_rfl
theorem tf_25_2 : tFld Try.prog 25 2 = some (24, 2) := by kernel_rfl
theorem tp_25 : tPlaces Try.prog 25 = some [(0, 1), (1, 1), (2, 2)] := by kernel_rfl
theorem us_26 : (Try.prog.underlying 26).isSome = true := by kernel_rfl
theorem ta_26 : tAgg Try.prog 26 = some true := by kernel_rfl
theorem ts_26 : tSize Try.prog 26 = some 4 := by kernel_rfl
theorem tb_26 : tBytes Try.prog 26 = some 32 := by kernel_rfl
theorem tz_26 : tZero Try.prog 26 = some (.agg #[.int .i64 0, .int .i64 0, .int .i64 0, .int .i64 0]) := by kernel_rfl
theorem tf_26_0 : tFld Try.prog 26 0 = some (3, 0) := by kernel_rfl
theorem tf_26_1 : tFld Try.prog 26 1 = some (3, 1) := by kernel_rfl
theorem tf_26_2 : tFld Try.prog 26 2 = some (24, 2) := by kernel_rfl
theorem tp_26 : tPlaces Try.prog 26 = some [(0, 1), (1, 1), (2, 2)] := by kernel_rfl
theorem us_27 : (Try.prog.underlying 27).isSome = true := by kernel_rfl
theorem ta_27 : tAgg Try.prog 27 = some false := by kernel_rfl
theorem ts_27 : tSize Try.prog 27 = some 1 := by kernel_rfl
theorem tb_27 : tBytes Try.prog 27 = some 8 := by kernel_rfl
theorem tz_27 : tZero Try.prog 27 = some (.nilFunc) := by kernel_rfl
theorem us_28 : (Try.prog.underlying 28).isSome = true := by kernel_rfl
theorem ta_28 : tAgg Try.prog 28 = some false := by kernel_rfl
theorem ts_28 : tSize Try.prog 28 = some 1 := by kernel_rfl
theorem tb_28 : tBytes Try.prog 28 = some 8 := by kernel_rfl
theorem tz_28 : tZero Try.prog 28 = some (.pointer none) := by kernel_rfl
theorem us_29 : (Try.prog.underlying 29).isSome = true := by kernel_rfl
theorem ta_29 : tAgg Try.prog 29 = some false := by kernel_rfl
theorem ts_29 : tSize Try.prog 29 = some 1 := by kernel_rfl
theorem tb_29 : tBytes Try.prog 29 = some 8 := by kernel_rfl
theorem tz_29 : tZero Try.prog 29 = some (.nilFunc) := by kernel_rfl
theorem us_30 : (Try.prog.underlying 30).isSome = true := by kernel_rfl
theorem ta_30 : tAgg Try.prog 30 = some false := by kernel_rfl
theorem ts_30 : tSize Try.prog 30 = some 1 := by kernel_rfl
theorem tb_30 : tBytes Try.prog 30 = some 8 := by kernel_rfl
theorem tz_30 : tZero Try.prog 30 = some (.nilFunc) := by kernel_rfl
theorem us_31 : (Try.prog.underlying 31).isSome = true := by kernel_rfl
theorem ta_31 : tAgg Try.prog 31 = some false := by kernel_rfl
theorem ts_31 : tSize Try.prog 31 = some 1 := by kernel_rfl
theorem tb_31 : tBytes Try.prog 31 = some 8 := by kernel_rfl
theorem tz_31 : tZero Try.prog 31 = some (.nilFunc) := by kernel_rfl
theorem us_32 : (Try.prog.underlying 32).isSome = true := by kernel_rfl
theorem ta_32 : tAgg Try.prog 32 = some false := by kernel_rfl
theorem ts_32 : tSize Try.prog 32 = some 1 := by kernel_rfl
theorem tb_32 : tBytes Try.prog 32 = some 8 := by kernel_rfl
theorem tz_32 : tZero Try.prog 32 = some (.nilFunc) := by kernel_rfl
theorem us_33 : (Try.prog.underlying 33).isSome = true := by kernel_rfl
theorem ta_33 : tAgg Try.prog 33 = some false := by kernel_rfl
theorem ts_33 : tSize Try.prog 33 = some 1 := by kernel_rfl
theorem tb_33 : tBytes Try.prog 33 = some 8 := by kernel_rfl
theorem tz_33 : tZero Try.prog 33 = some (.nilFunc) := by kernel_rfl
theorem us_34 : (Try.prog.underlying 34).isSome = true := by kernel_rfl
theorem ta_34 : tAgg Try.prog 34 = some true := by kernel_rfl
theorem ts_34 : tSize Try.prog 34 = some 8 := by kernel_rfl
theorem tb_34 : tBytes Try.prog 34 = some 64 := by kernel_rfl
theorem tz_34 : tZero Try.prog 34 = some (.agg #[.int .i64 0, .int .i64 0, .int .i64 0, .int .i64 0, .int .i64 0, .int .i64 0, .int .i64 0, .int .i64 0]) := by kernel_rfl
theorem tf_34_0 : tFld Try.prog 34 0 = some (3, 0) := by kernel_rfl
theorem tf_34_1 : tFld Try.prog 34 1 = some (3, 1) := by kernel_rfl
theorem tf_34_2 : tFld Try.prog 34 2 = some (3, 2) := by kernel_rfl
theorem tf_34_3 : tFld Try.prog 34 3 = some (3, 3) := by kernel_rfl
theorem tf_34_4 : tFld Try.prog 34 4 = some (3, 4) := by kernel_rfl
theorem tf_34_5 : tFld Try.prog 34 5 = some (3, 5) := by kernel_rfl
theorem tf_34_6 : tFld Try.prog 34 6 = some (3, 6) := by kernel_rfl
theorem tf_34_7 : tFld Try.prog 34 7 = some (3, 7) := by kernel_rfl
theorem tp_34 : tPlaces Try.prog 34 = some [(0, 1), (1, 1), (2, 1), (3, 1), (4, 1), (5, 1), (6, 1), (7, 1)] := by kernel_rfl
theorem us_35 : (Try.prog.underlying 35).isSome = true := by kernel_rfl
theorem ta_35 : tAgg Try.prog 35 = some true := by kernel_rfl
theorem ts_35 : tSize Try.prog 35 = some 8 := by kernel_rfl
theorem tb_35 : tBytes Try.prog 35 = some 64 := by kernel_rfl
theorem tz_35 : tZero Try.prog 35 = some (.agg #[.int .i64 0, .int .i64 0, .int .i64 0, .int .i64 0, .int .i64 0, .int .i64 0, .int .i64 0, .int .i64 0]) := by kernel_rfl
theorem tf_35_0 : tFld Try.prog 35 0 = some (3, 0) := by kernel_rfl
theorem tf_35_1 : tFld Try.prog 35 1 = some (3, 1) := by kernel_rfl
theorem tf_35_2 : tFld Try.prog 35 2 = some (3, 2) := by kernel_rfl
theorem tf_35_3 : tFld Try.prog 35 3 = some (3, 3) := by kernel_rfl
theorem tf_35_4 : tFld Try.prog 35 4 = some (3, 4) := by kernel_rfl
theorem tf_35_5 : tFld Try.prog 35 5 = some (3, 5) := by kernel_rfl
theorem tf_35_6 : tFld Try.prog 35 6 = some (3, 6) := by kernel_rfl
theorem tf_35_7 : tFld Try.prog 35 7 = some (3, 7) := by kernel_rfl
theorem tp_35 : tPlaces Try.prog 35 = some [(0, 1), (1, 1), (2, 1), (3, 1), (4, 1), (5, 1), (6, 1), (7, 1)] := by kernel_rfl
theorem us_36 : (Try.prog.underlying 36).isSome = true := by kernel_rfl
theorem ta_36 : tAgg Try.prog 36 = some false := by kernel_rfl
theorem ts_36 : tSize Try.prog 36 = some 1 := by kernel_rfl
theorem tb_36 : tBytes Try.prog 36 = some 8 := by kernel_rfl
theorem tz_36 : tZero Try.prog 36 = some (.nilFunc) := by kernel_rfl
theorem us_37 : (Try.prog.underlying 37).isSome = true := by kernel_rfl
theorem ta_37 : tAgg Try.prog 37 = some false := by kernel_rfl
theorem ts_37 : tSize Try.prog 37 = some 1 := by kernel_rfl
theorem tb_37 : tBytes Try.prog 37 = some 8 := by kernel_rfl
theorem tz_37 : tZero Try.prog 37 = some (.nilFunc) := by kernel_rfl
theorem us_38 : (Try.prog.underlying 38).isSome = true := by kernel_rfl
theorem ta_38 : tAgg Try.prog 38 = some false := by kernel_rfl
theorem ts_38 : tSize Try.prog 38 = some 1 := by kernel_rfl
theorem tb_38 : tBytes Try.prog 38 = some 8 := by kernel_rfl
theorem tz_38 : tZero Try.prog 38 = some (.nilFunc) := by kernel_rfl
theorem us_39 : (Try.prog.underlying 39).isSome = true := by kernel_rfl
theorem ta_39 : tAgg Try.prog 39 = some false := by kernel_rfl
theorem ts_39 : tSize Try.prog 39 = some 1 := by kernel_rfl
theorem tb_39 : tBytes Try.prog 39 = some 8 := by kernel_rfl
theorem tz_39 : tZero Try.prog 39 = some (.nilFunc) := by kernel_rfl
theorem us_40 : (Try.prog.underlying 40).isSome = true := by kernel_rfl
theorem ta_40 : tAgg Try.prog 40 = some false := by kernel_rfl
theorem ts_40 : tSize Try.prog 40 = some 1 := by kernel_rfl
theorem tb_40 : tBytes Try.prog 40 = some 8 := by kernel_rfl
theorem tz_40 : tZero Try.prog 40 = some (.nilFunc) := by kernel_rfl
theorem us_41 : (Try.prog.underlying 41).isSome = true := by kernel_rfl
theorem ta_41 : tAgg Try.prog 41 = some false := by kernel_rfl
theorem ts_41 : tSize Try.prog 41 = some 1 := by kernel_rfl
theorem tb_41 : tBytes Try.prog 41 = some 8 := by kernel_rfl
theorem tz_41 : tZero Try.prog 41 = some (.nilFunc) := by kernel_rfl
theorem us_42 : (Try.prog.underlying 42).isSome = true := by kernel_rfl
theorem ta_42 : tAgg Try.prog 42 = some false := by kernel_rfl
theorem ts_42 : tSize Try.prog 42 = some 1 := by kernel_rfl
theorem tb_42 : tBytes Try.prog 42 = some 24 := by kernel_rfl
theorem tz_42 : tZero Try.prog 42 = some (.slice none 0 0) := by kernel_rfl
theorem te_42 : tElem Try.prog 42 = some 24 := by kernel_rfl
theorem us_43 : (Try.prog.underlying 43).isSome = true := by kernel_rfl
theorem ta_43 : tAgg Try.prog 43 = some false := by kernel_rfl
theorem ts_43 : tSize Try.prog 43 = some 1 := by kernel_rfl
theorem tb_43 : tBytes Try.prog 43 = some 8 := by kernel_rfl
theorem tz_43 : tZero Try.prog 43 = some (.nilFunc) := by kernel_rfl
theorem us_44 : (Try.prog.underlying 44).isSome = true := by kernel_rfl
theorem ta_44 : tAgg Try.prog 44 = some false := by kernel_rfl
theorem ts_44 : tSize Try.prog 44 = some 1 := by kernel_rfl
theorem tb_44 : tBytes Try.prog 44 = some 8 := by kernel_rfl
theorem tz_44 : tZero Try.prog 44 = some (.nilFunc) := by kernel_rfl
theorem us_45 : (Try.prog.underlying 45).isSome = true := by kernel_rfl
theorem ta_45 : tAgg Try.prog 45 = some false := by kernel_rfl
theorem ts_45 : tSize Try.prog 45 = some 1 := by kernel_rfl
theorem tb_45 : tBytes Try.prog 45 = some 24 := by kernel_rfl
theorem tz_45 : tZero Try.prog 45 = some (.slice none 0 0) := by kernel_rfl
theorem te_45 : tElem Try.prog 45 = some 42 := by kernel_rfl
theorem us_46 : (Try.prog.underlying 46).isSome = true := by kernel_rfl
theorem ta_46 : tAgg Try.prog 46 = some false := by kernel_rfl
theorem ts_46 : tSize Try.prog 46 = some 1 := by kernel_rfl
theorem us_47 : (Try.prog.underlying 47).isSome = true := by kernel_rfl
theorem ta_47 : tAgg Try.prog 47 = some false := by kernel_rfl
theorem ts_47 : tSize Try.prog 47 = some 1 := by kernel_rfl
theorem tb_47 : tBytes Try.prog 47 = some 8 := by kernel_rfl
theorem tz_47 : tZero Try.prog 47 = some (.nilFunc) := by kernel_rfl
theorem us_48 : (Try.prog.underlying 48).isSome = true := by kernel_rfl
theorem ta_48 : tAgg Try.prog 48 = some false := by kernel_rfl
theorem ts_48 : tSize Try.prog 48 = some 1 := by kernel_rfl
theorem tb_48 : tBytes Try.prog 48 = some 8 := by kernel_rfl
theorem tz_48 : tZero Try.prog 48 = some (.nilFunc) := by kernel_rfl
theorem us_49 : (Try.prog.underlying 49).isSome = true := by kernel_rfl
theorem ta_49 : tAgg Try.prog 49 = some false := by kernel_rfl
theorem ts_49 : tSize Try.prog 49 = some 1 := by kernel_rfl
theorem tb_49 : tBytes Try.prog 49 = some 8 := by kernel_rfl
theorem tz_49 : tZero Try.prog 49 = some (.nilFunc) := by kernel_rfl
theorem us_50 : (Try.prog.underlying 50).isSome = true := by kernel_rfl
theorem ta_50 : tAgg Try.prog 50 = some true := by kernel_rfl
theorem ts_50 : tSize Try.prog 50 = some 2 := by kernel_rfl
theorem tb_50 : tBytes Try.prog 50 = some 32 := by kernel_rfl
theorem tz_50 : tZero Try.prog 50 = some (.agg #[.slice none 0 0, .int .i64 0]) := by kernel_rfl
theorem tf_50_0 : tFld Try.prog 50 0 = some (22, 0) := by kernel_rfl
theorem tf_50_1 : tFld Try.prog 50 1 = some (3, 1) := by kernel_rfl
theorem tp_50 : tPlaces Try.prog 50 = some [(0, 1), (1, 1)] := by kernel_rfl
theorem us_51 : (Try.prog.underlying 51).isSome = true := by kernel_rfl
theorem ta_51 : tAgg Try.prog 51 = some true := by kernel_rfl
theorem ts_51 : tSize Try.prog 51 = some 2 := by kernel_rfl
theorem tb_51 : tBytes Try.prog 51 = some 32 := by kernel_rfl
theorem tz_51 : tZero Try.prog 51 = some (.agg #[.slice none 0 0, .int .i64 0]) := by kernel_rfl
theorem tf_51_0 : tFld Try.prog 51 0 = some (22, 0) := by kernel_rfl
theorem tf_51_1 : tFld Try.prog 51 1 = some (3, 1) := by kernel_rfl
theorem tp_51 : tPlaces Try.prog 51 = some [(0, 1), (1, 1)] := by kernel_rfl
theorem us_52 : (Try.prog.underlying 52).isSome = true := by kernel_rfl
theorem ta_52 : tAgg Try.prog 52 = some false := by kernel_rfl
theorem ts_52 : tSize Try.prog 52 = some 1 := by kernel_rfl
theorem tb_52 : tBytes Try.prog 52 = some 8 := by kernel_rfl
theorem tz_52 : tZero Try.prog 52 = some (.int .i64 0) := by kernel_rfl
theorem ti_52 : tInt Try.prog 52 = some .i64 := by kernel_rfl
theorem us_53 : (Try.prog.underlying 53).isSome = true := by kernel_rfl
theorem ta_53 : tAgg Try.prog 53 = some false := by kernel_rfl
theorem ts_53 : tSize Try.prog 53 = some 1 := by kernel_rfl
theorem tb_53 : tBytes Try.prog 53 = some 8 := by kernel_rfl
theorem tz_53 : tZero Try.prog 53 = some (.nilFunc) := by kernel_rfl
theorem us_54 : (Try.prog.underlying 54).isSome = true := by kernel_rfl
theorem ta_54 : tAgg Try.prog 54 = some false := by kernel_rfl
theorem ts_54 : tSize Try.prog 54 = some 1 := by kernel_rfl
theorem tb_54 : tBytes Try.prog 54 = some 8 := by kernel_rfl
theorem tz_54 : tZero Try.prog 54 = some (.nilFunc) := by kernel_rfl
theorem us_55 : (Try.prog.underlying 55).isSome = true := by kernel_rfl
theorem ta_55 : tAgg Try.prog 55 = some false := by kernel_rfl
theorem ts_55 : tSize Try.prog 55 = some 1 := by kernel_rfl
theorem tb_55 : tBytes Try.prog 55 = some 8 := by kernel_rfl
theorem tz_55 : tZero Try.prog 55 = some (.nilFunc) := by kernel_rfl
theorem us_56 : (Try.prog.underlying 56).isSome = true := by kernel_rfl
theorem ta_56 : tAgg Try.prog 56 = some false := by kernel_rfl
theorem ts_56 : tSize Try.prog 56 = some 1 := by kernel_rfl
theorem tb_56 : tBytes Try.prog 56 = some 24 := by kernel_rfl
theorem tz_56 : tZero Try.prog 56 = some (.slice none 0 0) := by kernel_rfl
theorem te_56 : tElem Try.prog 56 = some 3 := by kernel_rfl
theorem us_57 : (Try.prog.underlying 57).isSome = true := by kernel_rfl
theorem ta_57 : tAgg Try.prog 57 = some false := by kernel_rfl
theorem ts_57 : tSize Try.prog 57 = some 1 := by kernel_rfl
theorem tb_57 : tBytes Try.prog 57 = some 8 := by kernel_rfl
theorem tz_57 : tZero Try.prog 57 = some (.nilFunc) := by kernel_rfl
theorem us_58 : (Try.prog.underlying 58).isSome = true := by kernel_rfl
theorem ta_58 : tAgg Try.prog 58 = some true := by kernel_rfl
theorem ts_58 : tSize Try.prog 58 = some 4 := by kernel_rfl
theorem tb_58 : tBytes Try.prog 58 = some 40 := by kernel_rfl
theorem tz_58 : tZero Try.prog 58 = some (.agg #[.pointer none, .pointer none, .pointer none, .string ByteArray.empty]) := by kernel_rfl
theorem tf_58_0 : tFld Try.prog 58 0 = some (17, 0) := by kernel_rfl
theorem tf_58_1 : tFld Try.prog 58 1 = some (17, 1) := by kernel_rfl
theorem tf_58_2 : tFld Try.prog 58 2 = some (17, 2) := by kernel_rfl
theorem tf_58_3 : tFld Try.prog 58 3 = some (9, 3) := by kernel_rfl
theorem tp_58 : tPlaces Try.prog 58 = some [(0, 1), (1, 1), (2, 1), (3, 1)] := by kernel_rfl
theorem us_59 : (Try.prog.underlying 59).isSome = true := by kernel_rfl
theorem ta_59 : tAgg Try.prog 59 = some true := by kernel_rfl
theorem ts_59 : tSize Try.prog 59 = some 4 := by kernel_rfl
theorem tb_59 : tBytes Try.prog 59 = some 40 := by kernel_rfl
theorem tz_59 : tZero Try.prog 59 = some (.agg #[.pointer none, .pointer none, .pointer none, .string ByteArray.empty]) := by kernel_rfl
theorem tf_59_0 : tFld Try.prog 59 0 = some (17, 0) := by kernel_rfl
theorem tf_59_1 : tFld Try.prog 59 1 = some (17, 1) := by kernel_rfl
theorem tf_59_2 : tFld Try.prog 59 2 = some (17, 2) := by kernel_rfl
theorem tf_59_3 : tFld Try.prog 59 3 = some (9, 3) := by kernel_rfl
theorem tp_59 : tPlaces Try.prog 59 = some [(0, 1), (1, 1), (2, 1), (3, 1)] := by kernel_rfl
theorem us_60 : (Try.prog.underlying 60).isSome = true := by kernel_rfl
theorem ta_60 : tAgg Try.prog 60 = some true := by kernel_rfl
theorem ts_60 : tSize Try.prog 60 = some 0 := by kernel_rfl
theorem tb_60 : tBytes Try.prog 60 = some 0 := by kernel_rfl
theorem tz_60 : tZero Try.prog 60 = some (.agg #[]) := by kernel_rfl
theorem tr_60 : tArr Try.prog 60 = some (0, 16) := by kernel_rfl
theorem us_61 : (Try.prog.underlying 61).isSome = true := by kernel_rfl
theorem ta_61 : tAgg Try.prog 61 = some true := by kernel_rfl
theorem ts_61 : tSize Try.prog 61 = some 0 := by kernel_rfl
theorem tb_61 : tBytes Try.prog 61 = some 0 := by kernel_rfl
theorem tz_61 : tZero Try.prog 61 = some (.agg #[]) := by kernel_rfl
theorem tf_61_0 : tFld Try.prog 61 0 = some (60, 0) := by kernel_rfl
theorem tp_61 : tPlaces Try.prog 61 = some [(0, 0)] := by kernel_rfl
theorem us_62 : (Try.prog.underlying 62).isSome = true := by kernel_rfl
theorem ta_62 : tAgg Try.prog 62 = some true := by kernel_rfl
theorem ts_62 : tSize Try.prog 62 = some 0 := by kernel_rfl
theorem tb_62 : tBytes Try.prog 62 = some 0 := by kernel_rfl
theorem tz_62 : tZero Try.prog 62 = some (.agg #[]) := by kernel_rfl
theorem tf_62_0 : tFld Try.prog 62 0 = some (60, 0) := by kernel_rfl
theorem tp_62 : tPlaces Try.prog 62 = some [(0, 0)] := by kernel_rfl
theorem us_63 : (Try.prog.underlying 63).isSome = true := by kernel_rfl
theorem ta_63 : tAgg Try.prog 63 = some false := by kernel_rfl
theorem ts_63 : tSize Try.prog 63 = some 1 := by kernel_rfl
theorem tb_63 : tBytes Try.prog 63 = some 8 := by kernel_rfl
theorem tz_63 : tZero Try.prog 63 = some (.nilFunc) := by kernel_rfl
theorem us_64 : (Try.prog.underlying 64).isSome = true := by kernel_rfl
theorem ta_64 : tAgg Try.prog 64 = some false := by kernel_rfl
theorem ts_64 : tSize Try.prog 64 = some 1 := by kernel_rfl
theorem tb_64 : tBytes Try.prog 64 = some 4 := by kernel_rfl
theorem tz_64 : tZero Try.prog 64 = some (.int .u32 0) := by kernel_rfl
theorem ti_64 : tInt Try.prog 64 = some .u32 := by kernel_rfl
theorem us_65 : (Try.prog.underlying 65).isSome = true := by kernel_rfl
theorem ta_65 : tAgg Try.prog 65 = some false := by kernel_rfl
theorem ts_65 : tSize Try.prog 65 = some 1 := by kernel_rfl
theorem tb_65 : tBytes Try.prog 65 = some 1 := by kernel_rfl
theorem tz_65 : tZero Try.prog 65 = some (.int .u8 0) := by kernel_rfl
theorem ti_65 : tInt Try.prog 65 = some .u8 := by kernel_rfl
theorem us_66 : (Try.prog.underlying 66).isSome = true := by kernel_rfl
theorem ta_66 : tAgg Try.prog 66 = some false := by kernel_rfl
theorem ts_66 : tSize Try.prog 66 = some 1 := by kernel_rfl
theorem tb_66 : tBytes Try.prog 66 = some 1 := by kernel_rfl
theorem tz_66 : tZero Try.prog 66 = some (.int .u8 0) := by kernel_rfl
theorem ti_66 : tInt Try.prog 66 = some .u8 := by kernel_rfl
theorem us_67 : (Try.prog.underlying 67).isSome = true := by kernel_rfl
theorem ta_67 : tAgg Try.prog 67 = some false := by kernel_rfl
theorem ts_67 : tSize Try.prog 67 = some 1 := by kernel_rfl
theorem tb_67 : tBytes Try.prog 67 = some 8 := by kernel_rfl
theorem tz_67 : tZero Try.prog 67 = some (.nilFunc) := by kernel_rfl
theorem us_68 : (Try.prog.underlying 68).isSome = true := by kernel_rfl
theorem ta_68 : tAgg Try.prog 68 = some false := by kernel_rfl
theorem ts_68 : tSize Try.prog 68 = some 1 := by kernel_rfl
theorem tb_68 : tBytes Try.prog 68 = some 8 := by kernel_rfl
theorem tz_68 : tZero Try.prog 68 = some (.pointer none) := by kernel_rfl
theorem us_69 : (Try.prog.underlying 69).isSome = true := by kernel_rfl
theorem ta_69 : tAgg Try.prog 69 = some false := by kernel_rfl
theorem ts_69 : tSize Try.prog 69 = some 1 := by kernel_rfl
theorem tb_69 : tBytes Try.prog 69 = some 4 := by kernel_rfl
theorem tz_69 : tZero Try.prog 69 = some (.int .i32 0) := by kernel_rfl
theorem ti_69 : tInt Try.prog 69 = some .i32 := by kernel_rfl
theorem us_70 : (Try.prog.underlying 70).isSome = true := by kernel_rfl
theorem ta_70 : tAgg Try.prog 70 = some false := by kernel_rfl
theorem ts_70 : tSize Try.prog 70 = some 1 := by kernel_rfl
theorem tb_70 : tBytes Try.prog 70 = some 4 := by kernel_rfl
theorem tz_70 : tZero Try.prog 70 = some (.int .i32 0) := by kernel_rfl
theorem ti_70 : tInt Try.prog 70 = some .i32 := by kernel_rfl
theorem us_71 : (Try.prog.underlying 71).isSome = true := by kernel_rfl
theorem ta_71 : tAgg Try.prog 71 = some true := by kernel_rfl
theorem ts_71 : tSize Try.prog 71 = some 11 := by kernel_rfl
theorem tb_71 : tBytes Try.prog 71 = some 48 := by kernel_rfl
theorem tz_71 : tZero Try.prog 71 = some (.agg #[.int .u64 0, .int .u64 0, .int .u32 0, .int .u8 0, .int .u8 0, .int .u8 0, .int .u8 0, .nilFunc, .pointer none, .int .i32 0, .int .i32 0]) := by kernel_rfl
theorem tf_71_0 : tFld Try.prog 71 0 = some (12, 0) := by kernel_rfl
theorem tf_71_1 : tFld Try.prog 71 1 = some (12, 1) := by kernel_rfl
theorem tf_71_2 : tFld Try.prog 71 2 = some (64, 2) := by kernel_rfl
theorem tf_71_3 : tFld Try.prog 71 3 = some (65, 3) := by kernel_rfl
theorem tf_71_4 : tFld Try.prog 71 4 = some (5, 4) := by kernel_rfl
theorem tf_71_5 : tFld Try.prog 71 5 = some (5, 5) := by kernel_rfl
theorem tf_71_6 : tFld Try.prog 71 6 = some (66, 6) := by kernel_rfl
theorem tf_71_7 : tFld Try.prog 71 7 = some (67, 7) := by kernel_rfl
theorem tf_71_8 : tFld Try.prog 71 8 = some (68, 8) := by kernel_rfl
theorem tf_71_9 : tFld Try.prog 71 9 = some (69, 9) := by kernel_rfl
theorem tf_71_10 : tFld Try.prog 71 10 = some (70, 10) := by kernel_rfl
theorem tp_71 : tPlaces Try.prog 71 = some [(0, 1), (1, 1), (2, 1), (3, 1), (4, 1), (5, 1), (6, 1), (7, 1), (8, 1), (9, 1), (10, 1)] := by kernel_rfl
theorem us_72 : (Try.prog.underlying 72).isSome = true := by kernel_rfl
theorem ta_72 : tAgg Try.prog 72 = some true := by kernel_rfl
theorem ts_72 : tSize Try.prog 72 = some 11 := by kernel_rfl
theorem tb_72 : tBytes Try.prog 72 = some 48 := by kernel_rfl
theorem tz_72 : tZero Try.prog 72 = some (.agg #[.int .u64 0, .int .u64 0, .int .u32 0, .int .u8 0, .int .u8 0, .int .u8 0, .int .u8 0, .nilFunc, .pointer none, .int .i32 0, .int .i32 0]) := by kernel_rfl
theorem tf_72_0 : tFld Try.prog 72 0 = some (12, 0) := by kernel_rfl
theorem tf_72_1 : tFld Try.prog 72 1 = some (12, 1) := by kernel_rfl
theorem tf_72_2 : tFld Try.prog 72 2 = some (64, 2) := by kernel_rfl
theorem tf_72_3 : tFld Try.prog 72 3 = some (65, 3) := by kernel_rfl
theorem tf_72_4 : tFld Try.prog 72 4 = some (5, 4) := by kernel_rfl
theorem tf_72_5 : tFld Try.prog 72 5 = some (5, 5) := by kernel_rfl
theorem tf_72_6 : tFld Try.prog 72 6 = some (66, 6) := by kernel_rfl
theorem tf_72_7 : tFld Try.prog 72 7 = some (67, 7) := by kernel_rfl
theorem tf_72_8 : tFld Try.prog 72 8 = some (68, 8) := by kernel_rfl
theorem tf_72_9 : tFld Try.prog 72 9 = some (69, 9) := by kernel_rfl
theorem tf_72_10 : tFld Try.prog 72 10 = some (70, 10) := by kernel_rfl
theorem tp_72 : tPlaces Try.prog 72 = some [(0, 1), (1, 1), (2, 1), (3, 1), (4, 1), (5, 1), (6, 1), (7, 1), (8, 1), (9, 1), (10, 1)] := by kernel_rfl
theorem us_73 : (Try.prog.underlying 73).isSome = true := by kernel_rfl
theorem ta_73 : tAgg Try.prog 73 = some false := by kernel_rfl
theorem ts_73 : tSize Try.prog 73 = some 1 := by kernel_rfl

end Go.Proofs.Ytnphpimajaadpaa
