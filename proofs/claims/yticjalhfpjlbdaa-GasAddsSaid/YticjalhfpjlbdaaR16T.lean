/- Type facts, printed by wip/aml/facts.py. -/
import Derived.Test.YticjalhfpjlbdaaProg
import Derived.Test.YticjalhfpjlbdaaAmlS
import Derived.KernelRfl
namespace Go.Proofs.Yticjalhfpjlbdaa
open Go Go.Aml

theorem ta_3 : tAgg Try.prog 3 = some false := by kernel_rfl
theorem ts_3 : tSize Try.prog 3 = some 1 := by kernel_rfl
theorem tb_3 : tBytes Try.prog 3 = some 8 := by kernel_rfl
theorem tz_3 : tZero Try.prog 3 = some (.int .i64 0) := by kernel_rfl
theorem ti_3 : tInt Try.prog 3 = some .i64 := by kernel_rfl
theorem ta_4 : tAgg Try.prog 4 = some false := by kernel_rfl
theorem ts_4 : tSize Try.prog 4 = some 1 := by kernel_rfl
theorem tb_4 : tBytes Try.prog 4 = some 1 := by kernel_rfl
theorem tz_4 : tZero Try.prog 4 = some (.bool false) := by kernel_rfl
theorem us_5 : (Try.prog.underlying 5).isSome = true := by kernel_rfl
theorem ta_5 : tAgg Try.prog 5 = some false := by kernel_rfl
theorem ts_5 : tSize Try.prog 5 = some 1 := by kernel_rfl
theorem ta_22 : tAgg Try.prog 22 = some false := by kernel_rfl
theorem ts_22 : tSize Try.prog 22 = some 1 := by kernel_rfl
theorem te_22 : tElem Try.prog 22 = some 5 := by kernel_rfl
theorem te_23 : tElem Try.prog 23 = some 65 := by kernel_rfl
theorem te_24 : tElem Try.prog 24 = some 57 := by kernel_rfl
theorem ta_28 : tAgg Try.prog 28 = some false := by kernel_rfl
theorem ts_28 : tSize Try.prog 28 = some 1 := by kernel_rfl
theorem te_28 : tElem Try.prog 28 = some 69 := by kernel_rfl
theorem ta_29 : tAgg Try.prog 29 = some false := by kernel_rfl
theorem ts_29 : tSize Try.prog 29 = some 1 := by kernel_rfl
theorem te_29 : tElem Try.prog 29 = some 75 := by kernel_rfl
theorem ta_31 : tAgg Try.prog 31 = some true := by kernel_rfl
theorem ts_31 : tSize Try.prog 31 = some 2 := by kernel_rfl
theorem tz_31 : tZero Try.prog 31 = some (.agg #[.slice none 0 0, .slice none 0 0]) := by kernel_rfl
theorem tf_31_0 : tFld Try.prog 31 0 = some (28, 0) := by kernel_rfl
theorem tf_31_1 : tFld Try.prog 31 1 = some (29, 1) := by kernel_rfl
theorem tp_31 : tPlaces Try.prog 31 = some [(0, 1), (1, 1)] := by kernel_rfl
theorem ta_32 : tAgg Try.prog 32 = some false := by kernel_rfl
theorem ts_32 : tSize Try.prog 32 = some 1 := by kernel_rfl
theorem te_32 : tElem Try.prog 32 = some 121 := by kernel_rfl
theorem ta_33 : tAgg Try.prog 33 = some false := by kernel_rfl
theorem ts_33 : tSize Try.prog 33 = some 1 := by kernel_rfl
theorem te_33 : tElem Try.prog 33 = some 123 := by kernel_rfl
theorem ta_35 : tAgg Try.prog 35 = some true := by kernel_rfl
theorem ts_35 : tSize Try.prog 35 = some 4 := by kernel_rfl
theorem tz_35 : tZero Try.prog 35 = some (.agg #[.slice none 0 0, .slice none 0 0, .slice none 0 0, .slice none 0 0]) := by kernel_rfl
theorem tf_35_0 : tFld Try.prog 35 0 = some (31, 0) := by kernel_rfl
theorem tf_35_1 : tFld Try.prog 35 1 = some (32, 2) := by kernel_rfl
theorem tf_35_2 : tFld Try.prog 35 2 = some (33, 3) := by kernel_rfl
theorem tp_35 : tPlaces Try.prog 35 = some [(0, 2), (2, 1), (3, 1)] := by kernel_rfl
theorem ta_36 : tAgg Try.prog 36 = some false := by kernel_rfl
theorem ts_36 : tSize Try.prog 36 = some 1 := by kernel_rfl
theorem te_36 : tElem Try.prog 36 = some 3 := by kernel_rfl
theorem ta_38 : tAgg Try.prog 38 = some true := by kernel_rfl
theorem ts_38 : tSize Try.prog 38 = some 2 := by kernel_rfl
theorem tz_38 : tZero Try.prog 38 = some (.agg #[.slice none 0 0, .slice none 0 0]) := by kernel_rfl
theorem tf_38_0 : tFld Try.prog 38 0 = some (36, 0) := by kernel_rfl
theorem tf_38_1 : tFld Try.prog 38 1 = some (36, 1) := by kernel_rfl
theorem ta_40 : tAgg Try.prog 40 = some true := by kernel_rfl
theorem ts_40 : tSize Try.prog 40 = some 2 := by kernel_rfl
theorem tz_40 : tZero Try.prog 40 = some (.agg #[.slice none 0 0, .slice none 0 0]) := by kernel_rfl
theorem tf_40_0 : tFld Try.prog 40 0 = some (36, 0) := by kernel_rfl
theorem tf_40_1 : tFld Try.prog 40 1 = some (36, 1) := by kernel_rfl
theorem tp_40 : tPlaces Try.prog 40 = some [(0, 1), (1, 1)] := by kernel_rfl
theorem ta_57 : tAgg Try.prog 57 = some true := by kernel_rfl
theorem ts_57 : tSize Try.prog 57 = some 2 := by kernel_rfl
theorem tb_57 : tBytes Try.prog 57 = some 16 := by kernel_rfl
theorem tz_57 : tZero Try.prog 57 = some (.agg #[.int .i64 0, .int .i64 0]) := by kernel_rfl
theorem tf_57_0 : tFld Try.prog 57 0 = some (3, 0) := by kernel_rfl
theorem tf_57_1 : tFld Try.prog 57 1 = some (3, 1) := by kernel_rfl
theorem tp_57 : tPlaces Try.prog 57 = some [(0, 1), (1, 1)] := by kernel_rfl
theorem ta_65 : tAgg Try.prog 65 = some true := by kernel_rfl
theorem ts_65 : tSize Try.prog 65 = some 3 := by kernel_rfl
theorem tb_65 : tBytes Try.prog 65 = some 24 := by kernel_rfl
theorem tz_65 : tZero Try.prog 65 = some (.agg #[.int .i64 0, .int .i64 0, .int .i64 0]) := by kernel_rfl
theorem tf_65_0 : tFld Try.prog 65 0 = some (3, 0) := by kernel_rfl
theorem tf_65_1 : tFld Try.prog 65 1 = some (57, 1) := by kernel_rfl
theorem tp_65 : tPlaces Try.prog 65 = some [(0, 1), (1, 2)] := by kernel_rfl
theorem te_66 : tElem Try.prog 66 = some 4 := by kernel_rfl
theorem ta_69 : tAgg Try.prog 69 = some true := by kernel_rfl
theorem ts_69 : tSize Try.prog 69 = some 2 := by kernel_rfl
theorem tb_69 : tBytes Try.prog 69 = some 16 := by kernel_rfl
theorem tz_69 : tZero Try.prog 69 = some (.agg #[.int .i64 0, .bool false]) := by kernel_rfl
theorem tf_69_0 : tFld Try.prog 69 0 = some (3, 0) := by kernel_rfl
theorem tf_69_1 : tFld Try.prog 69 1 = some (4, 1) := by kernel_rfl
theorem tp_69 : tPlaces Try.prog 69 = some [(0, 1), (1, 1)] := by kernel_rfl
theorem ta_75 : tAgg Try.prog 75 = some true := by kernel_rfl
theorem ts_75 : tSize Try.prog 75 = some 10 := by kernel_rfl
theorem tb_75 : tBytes Try.prog 75 = some 72 := by kernel_rfl
theorem tz_75 : tZero Try.prog 75 = some (.agg #[.int .i64 0, .int .i64 0, .int .i64 0, .int .i64 0, .bool false, .bool false, .int .i64 0, .int .i64 0, .int .i64 0, .int .i64 0]) := by kernel_rfl
theorem tf_75_0 : tFld Try.prog 75 0 = some (3, 0) := by kernel_rfl
theorem tf_75_1 : tFld Try.prog 75 1 = some (3, 1) := by kernel_rfl
theorem tf_75_2 : tFld Try.prog 75 2 = some (3, 2) := by kernel_rfl
theorem tf_75_3 : tFld Try.prog 75 3 = some (3, 3) := by kernel_rfl
theorem tf_75_5 : tFld Try.prog 75 5 = some (4, 5) := by kernel_rfl
theorem tf_75_6 : tFld Try.prog 75 6 = some (57, 6) := by kernel_rfl
theorem tf_75_7 : tFld Try.prog 75 7 = some (57, 8) := by kernel_rfl
theorem tp_75 : tPlaces Try.prog 75 = some [(0, 1), (1, 1), (2, 1), (3, 1), (4, 1), (5, 1), (6, 2), (8, 2)] := by kernel_rfl
theorem us_77 : (Try.prog.underlying 77).isSome = true := by kernel_rfl
theorem ta_83 : tAgg Try.prog 83 = some true := by kernel_rfl
theorem ts_83 : tSize Try.prog 83 = some 8 := by kernel_rfl
theorem tz_83 : tZero Try.prog 83 = some (.agg #[.int .i64 0, .int .i64 0, .int .i64 0, .int .i64 0, .int .i64 0, .int .i64 0, .int .i64 0, .int .i64 0]) := by kernel_rfl
theorem tf_83_0 : tFld Try.prog 83 0 = some (3, 0) := by kernel_rfl
theorem tf_83_1 : tFld Try.prog 83 1 = some (3, 1) := by kernel_rfl
theorem tf_83_2 : tFld Try.prog 83 2 = some (3, 2) := by kernel_rfl
theorem tf_83_3 : tFld Try.prog 83 3 = some (3, 3) := by kernel_rfl
theorem tf_83_4 : tFld Try.prog 83 4 = some (3, 4) := by kernel_rfl
theorem tf_83_5 : tFld Try.prog 83 5 = some (3, 5) := by kernel_rfl
theorem tf_83_6 : tFld Try.prog 83 6 = some (3, 6) := by kernel_rfl
theorem tf_83_7 : tFld Try.prog 83 7 = some (3, 7) := by kernel_rfl
theorem tp_83 : tPlaces Try.prog 83 = some [(0, 1), (1, 1), (2, 1), (3, 1), (4, 1), (5, 1), (6, 1), (7, 1)] := by kernel_rfl
theorem te_84 : tElem Try.prog 84 = some 83 := by kernel_rfl
theorem ta_86 : tAgg Try.prog 86 = some true := by kernel_rfl
theorem ts_86 : tSize Try.prog 86 = some 4 := by kernel_rfl
theorem tz_86 : tZero Try.prog 86 = some (.agg #[.int .i64 0, .int .i64 0, .int .i64 0, .int .i64 0]) := by kernel_rfl
theorem tf_86_0 : tFld Try.prog 86 0 = some (3, 0) := by kernel_rfl
theorem tf_86_1 : tFld Try.prog 86 1 = some (3, 1) := by kernel_rfl
theorem tf_86_2 : tFld Try.prog 86 2 = some (57, 2) := by kernel_rfl
theorem tp_86 : tPlaces Try.prog 86 = some [(0, 1), (1, 1), (2, 2)] := by kernel_rfl
theorem te_87 : tElem Try.prog 87 = some 86 := by kernel_rfl
theorem tz_89 : tZero Try.prog 89 = some (.agg #[.slice none 0 0, .int .i64 0]) := by kernel_rfl
theorem tf_89_0 : tFld Try.prog 89 0 = some (22, 0) := by kernel_rfl
theorem tf_89_1 : tFld Try.prog 89 1 = some (3, 1) := by kernel_rfl
theorem tp_89 : tPlaces Try.prog 89 = some [(0, 1), (1, 1)] := by kernel_rfl
theorem te_96 : tElem Try.prog 96 = some 98 := by kernel_rfl
theorem ta_98 : tAgg Try.prog 98 = some true := by kernel_rfl
theorem ts_98 : tSize Try.prog 98 = some 2 := by kernel_rfl
theorem tb_98 : tBytes Try.prog 98 = some 16 := by kernel_rfl
theorem tz_98 : tZero Try.prog 98 = some (.agg #[.int .i64 0, .int .i64 0]) := by kernel_rfl
theorem tr_98 : tArr Try.prog 98 = some (2, 3) := by kernel_rfl
theorem ta_118 : tAgg Try.prog 118 = some false := by kernel_rfl
theorem ts_118 : tSize Try.prog 118 = some 1 := by kernel_rfl
theorem te_118 : tElem Try.prog 118 = some 149 := by kernel_rfl
theorem ta_121 : tAgg Try.prog 121 = some true := by kernel_rfl
theorem ts_121 : tSize Try.prog 121 = some 4 := by kernel_rfl
theorem tb_121 : tBytes Try.prog 121 = some 40 := by kernel_rfl
theorem tz_121 : tZero Try.prog 121 = some (.agg #[.int .i64 0, .bool false, .bool false, .slice none 0 0]) := by kernel_rfl
theorem tf_121_0 : tFld Try.prog 121 0 = some (3, 0) := by kernel_rfl
theorem tf_121_1 : tFld Try.prog 121 1 = some (4, 1) := by kernel_rfl
theorem tf_121_3 : tFld Try.prog 121 3 = some (118, 3) := by kernel_rfl
theorem tp_121 : tPlaces Try.prog 121 = some [(0, 1), (1, 1), (2, 1), (3, 1)] := by kernel_rfl
theorem ta_123 : tAgg Try.prog 123 = some true := by kernel_rfl
theorem ts_123 : tSize Try.prog 123 = some 3 := by kernel_rfl
theorem tb_123 : tBytes Try.prog 123 = some 40 := by kernel_rfl
theorem tz_123 : tZero Try.prog 123 = some (.agg #[.int .i64 0, .int .i64 0, .slice none 0 0]) := by kernel_rfl
theorem tf_123_0 : tFld Try.prog 123 0 = some (3, 0) := by kernel_rfl
theorem tf_123_2 : tFld Try.prog 123 2 = some (36, 2) := by kernel_rfl
theorem tp_123 : tPlaces Try.prog 123 = some [(0, 1), (1, 1), (2, 1)] := by kernel_rfl
theorem te_128 : tElem Try.prog 128 = some 132 := by kernel_rfl
theorem ta_132 : tAgg Try.prog 132 = some true := by kernel_rfl
theorem ts_132 : tSize Try.prog 132 = some 3 := by kernel_rfl
theorem tb_132 : tBytes Try.prog 132 = some 24 := by kernel_rfl
theorem tz_132 : tZero Try.prog 132 = some (.agg #[.int .i64 0, .int .i64 0, .int .i64 0]) := by kernel_rfl
theorem tf_132_0 : tFld Try.prog 132 0 = some (3, 0) := by kernel_rfl
theorem tf_132_1 : tFld Try.prog 132 1 = some (3, 1) := by kernel_rfl
theorem tf_132_2 : tFld Try.prog 132 2 = some (3, 2) := by kernel_rfl
theorem tp_132 : tPlaces Try.prog 132 = some [(0, 1), (1, 1), (2, 1)] := by kernel_rfl
theorem ta_149 : tAgg Try.prog 149 = some true := by kernel_rfl
theorem ts_149 : tSize Try.prog 149 = some 2 := by kernel_rfl
theorem tb_149 : tBytes Try.prog 149 = some 16 := by kernel_rfl
theorem tz_149 : tZero Try.prog 149 = some (.agg #[.int .i64 0, .int .i64 0]) := by kernel_rfl
theorem tf_149_0 : tFld Try.prog 149 0 = some (3, 0) := by kernel_rfl
theorem tf_149_1 : tFld Try.prog 149 1 = some (3, 1) := by kernel_rfl
theorem tp_149 : tPlaces Try.prog 149 = some [(0, 1), (1, 1)] := by kernel_rfl
end Go.Proofs.Yticjalhfpjlbdaa
