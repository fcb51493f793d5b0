/- Type facts, printed by wip/aml/facts.py. -/
import Derived.Test.YtaedmgkcmbhicaaProg
import Derived.Test.YtaedmgkcmbhicaaAmlS
import Derived.KernelRfl
namespace Go.Proofs.Ytaedmgkcmbhicaa
open Go Go.Aml

theorem ta_3 : tAgg Try.prog 3 = some false := by kernel_rfl
theorem ts_3 : tSize Try.prog 3 = some 1 := by kernel_rfl
theorem tb_3 : tBytes Try.prog 3 = some 8 := by kernel_rfl
theorem tz_3 : tZero Try.prog 3 = some (.int .i64 0) := by kernel_rfl
theorem ti_3 : tInt Try.prog 3 = some .i64 := by kernel_rfl
theorem ta_4 : tAgg Try.prog 4 = some false := by kernel_rfl
theorem ts_4 : tSize Try.prog 4 = some 1 := by kernel_rfl
theorem tb_4 : tBytes Try.prog 4 = some 1 := by kernel_rfl
theorem tz_4 : tZero Try.prog 4 = some (.bool false) := by kernel_rfl
theorem us_5 : (Try.prog.underlying 5).isSome = true := by kernel_rfl
theorem ta_5 : tAgg Try.prog 5 = some false := by kernel_rfl
theorem ts_5 : tSize Try.prog 5 = some 1 := by kernel_rfl
theorem ta_22 : tAgg Try.prog 22 = some false := by kernel_rfl
theorem ts_22 : tSize Try.prog 22 = some 1 := by kernel_rfl
theorem te_22 : tElem Try.prog 22 = some 5 := by kernel_rfl
theorem ta_23 : tAgg Try.prog 23 = some false := by kernel_rfl
theorem ts_23 : tSize Try.prog 23 = some 1 := by kernel_rfl
theorem tz_23 : tZero Try.prog 23 = some (.slice none 0 0) := by kernel_rfl
theorem te_23 : tElem Try.prog 23 = some 44 := by kernel_rfl
theorem ta_24 : tAgg Try.prog 24 = some false := by kernel_rfl
theorem ts_24 : tSize Try.prog 24 = some 1 := by kernel_rfl
theorem te_24 : tElem Try.prog 24 = some 48 := by kernel_rfl
theorem ta_25 : tAgg Try.prog 25 = some false := by kernel_rfl
theorem ts_25 : tSize Try.prog 25 = some 1 := by kernel_rfl
theorem te_25 : tElem Try.prog 25 = some 46 := by kernel_rfl
theorem ta_27 : tAgg Try.prog 27 = some true := by kernel_rfl
theorem ts_27 : tSize Try.prog 27 = some 2 := by kernel_rfl
theorem tz_27 : tZero Try.prog 27 = some (.agg #[.slice none 0 0, .slice none 0 0]) := by kernel_rfl
theorem tf_27_0 : tFld Try.prog 27 0 = some (24, 0) := by kernel_rfl
theorem tf_27_1 : tFld Try.prog 27 1 = some (25, 1) := by kernel_rfl
theorem tp_27 : tPlaces Try.prog 27 = some [(0, 1), (1, 1)] := by kernel_rfl
theorem ta_28 : tAgg Try.prog 28 = some false := by kernel_rfl
theorem ts_28 : tSize Try.prog 28 = some 1 := by kernel_rfl
theorem te_28 : tElem Try.prog 28 = some 72 := by kernel_rfl
theorem ta_29 : tAgg Try.prog 29 = some false := by kernel_rfl
theorem ts_29 : tSize Try.prog 29 = some 1 := by kernel_rfl
theorem te_29 : tElem Try.prog 29 = some 99 := by kernel_rfl
theorem ta_31 : tAgg Try.prog 31 = some true := by kernel_rfl
theorem ts_31 : tSize Try.prog 31 = some 4 := by kernel_rfl
theorem tz_31 : tZero Try.prog 31 = some (.agg #[.slice none 0 0, .slice none 0 0, .slice none 0 0, .slice none 0 0]) := by kernel_rfl
theorem tf_31_0 : tFld Try.prog 31 0 = some (27, 0) := by kernel_rfl
theorem tf_31_1 : tFld Try.prog 31 1 = some (28, 2) := by kernel_rfl
theorem tf_31_2 : tFld Try.prog 31 2 = some (29, 3) := by kernel_rfl
theorem tp_31 : tPlaces Try.prog 31 = some [(0, 2), (2, 1), (3, 1)] := by kernel_rfl
theorem ta_32 : tAgg Try.prog 32 = some false := by kernel_rfl
theorem ts_32 : tSize Try.prog 32 = some 1 := by kernel_rfl
theorem te_32 : tElem Try.prog 32 = some 3 := by kernel_rfl
theorem te_35 : tElem Try.prog 35 = some 23 := by kernel_rfl
theorem te_36 : tElem Try.prog 36 = some 40 := by kernel_rfl
theorem ta_40 : tAgg Try.prog 40 = some true := by kernel_rfl
theorem ts_40 : tSize Try.prog 40 = some 2 := by kernel_rfl
theorem tb_40 : tBytes Try.prog 40 = some 16 := by kernel_rfl
theorem tz_40 : tZero Try.prog 40 = some (.agg #[.int .i64 0, .int .i64 0]) := by kernel_rfl
theorem tr_40 : tArr Try.prog 40 = some (2, 3) := by kernel_rfl
theorem ta_44 : tAgg Try.prog 44 = some true := by kernel_rfl
theorem ts_44 : tSize Try.prog 44 = some 2 := by kernel_rfl
theorem tb_44 : tBytes Try.prog 44 = some 16 := by kernel_rfl
theorem tz_44 : tZero Try.prog 44 = some (.agg #[.int .i64 0, .int .i64 0]) := by kernel_rfl
theorem tf_44_0 : tFld Try.prog 44 0 = some (3, 0) := by kernel_rfl
theorem tf_44_1 : tFld Try.prog 44 1 = some (3, 1) := by kernel_rfl
theorem tp_44 : tPlaces Try.prog 44 = some [(0, 1), (1, 1)] := by kernel_rfl
theorem ta_46 : tAgg Try.prog 46 = some true := by kernel_rfl
theorem ts_46 : tSize Try.prog 46 = some 10 := by kernel_rfl
theorem tb_46 : tBytes Try.prog 46 = some 72 := by kernel_rfl
theorem tz_46 : tZero Try.prog 46 = some (.agg #[.int .i64 0, .int .i64 0, .int .i64 0, .int .i64 0, .bool false, .bool false, .int .i64 0, .int .i64 0, .int .i64 0, .int .i64 0]) := by kernel_rfl
theorem tf_46_0 : tFld Try.prog 46 0 = some (3, 0) := by kernel_rfl
theorem tf_46_1 : tFld Try.prog 46 1 = some (3, 1) := by kernel_rfl
theorem tf_46_2 : tFld Try.prog 46 2 = some (3, 2) := by kernel_rfl
theorem tf_46_3 : tFld Try.prog 46 3 = some (3, 3) := by kernel_rfl
theorem tf_46_5 : tFld Try.prog 46 5 = some (4, 5) := by kernel_rfl
theorem tf_46_6 : tFld Try.prog 46 6 = some (44, 6) := by kernel_rfl
theorem tf_46_7 : tFld Try.prog 46 7 = some (44, 8) := by kernel_rfl
theorem tp_46 : tPlaces Try.prog 46 = some [(0, 1), (1, 1), (2, 1), (3, 1), (4, 1), (5, 1), (6, 2), (8, 2)] := by kernel_rfl
theorem ta_48 : tAgg Try.prog 48 = some true := by kernel_rfl
theorem ts_48 : tSize Try.prog 48 = some 2 := by kernel_rfl
theorem tb_48 : tBytes Try.prog 48 = some 16 := by kernel_rfl
theorem tz_48 : tZero Try.prog 48 = some (.agg #[.int .i64 0, .bool false]) := by kernel_rfl
theorem tf_48_0 : tFld Try.prog 48 0 = some (3, 0) := by kernel_rfl
theorem tf_48_1 : tFld Try.prog 48 1 = some (4, 1) := by kernel_rfl
theorem tp_48 : tPlaces Try.prog 48 = some [(0, 1), (1, 1)] := by kernel_rfl
theorem te_49 : tElem Try.prog 49 = some 4 := by kernel_rfl
theorem ta_62 : tAgg Try.prog 62 = some true := by kernel_rfl
theorem ts_62 : tSize Try.prog 62 = some 2 := by kernel_rfl
theorem tz_62 : tZero Try.prog 62 = some (.agg #[.slice none 0 0, .slice none 0 0]) := by kernel_rfl
theorem tf_62_0 : tFld Try.prog 62 0 = some (32, 0) := by kernel_rfl
theorem tf_62_1 : tFld Try.prog 62 1 = some (32, 1) := by kernel_rfl
theorem ta_64 : tAgg Try.prog 64 = some true := by kernel_rfl
theorem ts_64 : tSize Try.prog 64 = some 2 := by kernel_rfl
theorem tz_64 : tZero Try.prog 64 = some (.agg #[.slice none 0 0, .slice none 0 0]) := by kernel_rfl
theorem tf_64_0 : tFld Try.prog 64 0 = some (32, 0) := by kernel_rfl
theorem tf_64_1 : tFld Try.prog 64 1 = some (32, 1) := by kernel_rfl
theorem tp_64 : tPlaces Try.prog 64 = some [(0, 1), (1, 1)] := by kernel_rfl
theorem ta_70 : tAgg Try.prog 70 = some false := by kernel_rfl
theorem ts_70 : tSize Try.prog 70 = some 1 := by kernel_rfl
theorem te_70 : tElem Try.prog 70 = some 106 := by kernel_rfl
theorem ta_72 : tAgg Try.prog 72 = some true := by kernel_rfl
theorem ts_72 : tSize Try.prog 72 = some 4 := by kernel_rfl
theorem tb_72 : tBytes Try.prog 72 = some 40 := by kernel_rfl
theorem tz_72 : tZero Try.prog 72 = some (.agg #[.int .i64 0, .bool false, .bool false, .slice none 0 0]) := by kernel_rfl
theorem tf_72_0 : tFld Try.prog 72 0 = some (3, 0) := by kernel_rfl
theorem tf_72_1 : tFld Try.prog 72 1 = some (4, 1) := by kernel_rfl
theorem tf_72_2 : tFld Try.prog 72 2 = some (4, 2) := by kernel_rfl
theorem tf_72_3 : tFld Try.prog 72 3 = some (70, 3) := by kernel_rfl
theorem tp_72 : tPlaces Try.prog 72 = some [(0, 1), (1, 1), (2, 1), (3, 1)] := by kernel_rfl
theorem te_74 : tElem Try.prog 74 = some 78 := by kernel_rfl
theorem ta_78 : tAgg Try.prog 78 = some true := by kernel_rfl
theorem ts_78 : tSize Try.prog 78 = some 3 := by kernel_rfl
theorem tb_78 : tBytes Try.prog 78 = some 24 := by kernel_rfl
theorem tz_78 : tZero Try.prog 78 = some (.agg #[.int .i64 0, .int .i64 0, .int .i64 0]) := by kernel_rfl
theorem tf_78_0 : tFld Try.prog 78 0 = some (3, 0) := by kernel_rfl
theorem tf_78_1 : tFld Try.prog 78 1 = some (3, 1) := by kernel_rfl
theorem tf_78_2 : tFld Try.prog 78 2 = some (3, 2) := by kernel_rfl
theorem tp_78 : tPlaces Try.prog 78 = some [(0, 1), (1, 1), (2, 1)] := by kernel_rfl
theorem tz_88 : tZero Try.prog 88 = some (.agg #[.slice none 0 0, .int .i64 0]) := by kernel_rfl
theorem tf_88_0 : tFld Try.prog 88 0 = some (22, 0) := by kernel_rfl
theorem tf_88_1 : tFld Try.prog 88 1 = some (3, 1) := by kernel_rfl
theorem tp_88 : tPlaces Try.prog 88 = some [(0, 1), (1, 1)] := by kernel_rfl
theorem ta_99 : tAgg Try.prog 99 = some true := by kernel_rfl
theorem ts_99 : tSize Try.prog 99 = some 3 := by kernel_rfl
theorem tb_99 : tBytes Try.prog 99 = some 40 := by kernel_rfl
theorem tz_99 : tZero Try.prog 99 = some (.agg #[.int .i64 0, .int .i64 0, .slice none 0 0]) := by kernel_rfl
theorem tf_99_0 : tFld Try.prog 99 0 = some (3, 0) := by kernel_rfl
theorem tf_99_2 : tFld Try.prog 99 2 = some (32, 2) := by kernel_rfl
theorem tp_99 : tPlaces Try.prog 99 = some [(0, 1), (1, 1), (2, 1)] := by kernel_rfl
theorem ta_106 : tAgg Try.prog 106 = some true := by kernel_rfl
theorem ts_106 : tSize Try.prog 106 = some 2 := by kernel_rfl
theorem tb_106 : tBytes Try.prog 106 = some 16 := by kernel_rfl
theorem tz_106 : tZero Try.prog 106 = some (.agg #[.int .i64 0, .int .i64 0]) := by kernel_rfl
theorem tf_106_0 : tFld Try.prog 106 0 = some (3, 0) := by kernel_rfl
theorem tf_106_1 : tFld Try.prog 106 1 = some (3, 1) := by kernel_rfl
theorem tp_106 : tPlaces Try.prog 106 = some [(0, 1), (1, 1)] := by kernel_rfl
end Go.Proofs.Ytaedmgkcmbhicaa
