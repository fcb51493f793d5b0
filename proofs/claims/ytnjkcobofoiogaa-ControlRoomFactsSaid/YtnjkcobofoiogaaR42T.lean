/- Type facts, printed by wip/aml/facts.py. -/
import Derived.Test.YtnjkcobofoiogaaProg
import Derived.Test.YtnjkcobofoiogaaAmlS
import Derived.KernelRfl
namespace Go.Proofs.Ytnjkcobofoiogaa
open Go Go.Aml

theorem us_3 : (Try.prog.underlying 3).isSome = true := by kernel_rfl
theorem ta_3 : tAgg Try.prog 3 = some false := by kernel_rfl
theorem ts_3 : tSize Try.prog 3 = some 1 := by kernel_rfl
theorem tb_3 : tBytes Try.prog 3 = some 8 := by kernel_rfl
theorem tz_3 : tZero Try.prog 3 = some (.int .i64 0) := by kernel_rfl
theorem ti_3 : tInt Try.prog 3 = some .i64 := by kernel_rfl
theorem ta_4 : tAgg Try.prog 4 = some false := by kernel_rfl
theorem ts_4 : tSize Try.prog 4 = some 1 := by kernel_rfl
theorem us_5 : (Try.prog.underlying 5).isSome = true := by kernel_rfl
theorem ta_5 : tAgg Try.prog 5 = some false := by kernel_rfl
theorem ts_5 : tSize Try.prog 5 = some 1 := by kernel_rfl
theorem tb_5 : tBytes Try.prog 5 = some 1 := by kernel_rfl
theorem tz_5 : tZero Try.prog 5 = some (.int .u8 0) := by kernel_rfl
theorem ti_5 : tInt Try.prog 5 = some .u8 := by kernel_rfl
theorem ta_22 : tAgg Try.prog 22 = some false := by kernel_rfl
theorem ts_22 : tSize Try.prog 22 = some 1 := by kernel_rfl
theorem te_22 : tElem Try.prog 22 = some 3 := by kernel_rfl
theorem te_27 : tElem Try.prog 27 = some 32 := by kernel_rfl
theorem ts_28 : tSize Try.prog 28 = some 4 := by kernel_rfl
theorem tz_28 : tZero Try.prog 28 = some (.agg #[.bool false, .bool false, .bool false, .bool false]) := by kernel_rfl
theorem tr_28 : tArr Try.prog 28 = some (4, 4) := by kernel_rfl
theorem tz_29 : tZero Try.prog 29 = some (.agg #[.bool false, .bool false, .bool false, .bool false, .bool false, .bool false, .bool false, .bool false, .bool false, .bool false, .bool false, .bool false, .bool false, .bool false, .bool false, .bool false]) := by kernel_rfl
theorem tr_29 : tArr Try.prog 29 = some (4, 28) := by kernel_rfl
theorem ta_32 : tAgg Try.prog 32 = some true := by kernel_rfl
theorem ts_32 : tSize Try.prog 32 = some 4 := by kernel_rfl
theorem tb_32 : tBytes Try.prog 32 = some 32 := by kernel_rfl
theorem tz_32 : tZero Try.prog 32 = some (.agg #[.int .i64 0, .int .i64 0, .int .i64 0, .int .i64 0]) := by kernel_rfl
theorem tf_32_0 : tFld Try.prog 32 0 = some (3, 0) := by kernel_rfl
theorem tf_32_1 : tFld Try.prog 32 1 = some (3, 1) := by kernel_rfl
theorem tf_32_2 : tFld Try.prog 32 2 = some (3, 2) := by kernel_rfl
theorem tf_32_3 : tFld Try.prog 32 3 = some (3, 3) := by kernel_rfl
theorem tp_32 : tPlaces Try.prog 32 = some [(0, 1), (1, 1), (2, 1), (3, 1)] := by kernel_rfl
theorem ta_33 : tAgg Try.prog 33 = some false := by kernel_rfl
theorem ts_33 : tSize Try.prog 33 = some 1 := by kernel_rfl
theorem te_33 : tElem Try.prog 33 = some 37 := by kernel_rfl
theorem ta_35 : tAgg Try.prog 35 = some true := by kernel_rfl
theorem ts_35 : tSize Try.prog 35 = some 3 := by kernel_rfl
theorem tz_35 : tZero Try.prog 35 = some (.agg #[.slice none 0 0, .int .i64 0, .slice none 0 0]) := by kernel_rfl
theorem tf_35_0 : tFld Try.prog 35 0 = some (22, 0) := by kernel_rfl
theorem tf_35_1 : tFld Try.prog 35 1 = some (3, 1) := by kernel_rfl
theorem tf_35_2 : tFld Try.prog 35 2 = some (33, 2) := by kernel_rfl
theorem ta_37 : tAgg Try.prog 37 = some true := by kernel_rfl
theorem ts_37 : tSize Try.prog 37 = some 2 := by kernel_rfl
theorem tb_37 : tBytes Try.prog 37 = some 16 := by kernel_rfl
theorem tz_37 : tZero Try.prog 37 = some (.agg #[.int .i64 0, .int .i64 0]) := by kernel_rfl
theorem tr_37 : tArr Try.prog 37 = some (2, 3) := by kernel_rfl
theorem ta_38 : tAgg Try.prog 38 = some false := by kernel_rfl
theorem ts_38 : tSize Try.prog 38 = some 1 := by kernel_rfl
theorem tz_38 : tZero Try.prog 38 = some (.slice none 0 0) := by kernel_rfl
theorem te_38 : tElem Try.prog 38 = some 5 := by kernel_rfl
theorem us_45 : (Try.prog.underlying 45).isSome = true := by kernel_rfl
theorem ti_45 : tInt Try.prog 45 = some .u64 := by kernel_rfl
theorem ta_49 : tAgg Try.prog 49 = some true := by kernel_rfl
theorem ts_49 : tSize Try.prog 49 = some 2 := by kernel_rfl
theorem tz_49 : tZero Try.prog 49 = some (.agg #[.slice none 0 0, .slice none 0 0]) := by kernel_rfl
theorem tf_49_0 : tFld Try.prog 49 0 = some (38, 0) := by kernel_rfl
theorem tf_49_1 : tFld Try.prog 49 1 = some (38, 1) := by kernel_rfl
theorem tp_49 : tPlaces Try.prog 49 = some [(0, 1), (1, 1)] := by kernel_rfl
theorem tz_65 : tZero Try.prog 65 = some (.agg #[.slice none 0 0, .int .i64 0]) := by kernel_rfl
theorem tf_65_0 : tFld Try.prog 65 0 = some (22, 0) := by kernel_rfl
theorem tf_65_1 : tFld Try.prog 65 1 = some (3, 1) := by kernel_rfl
theorem tp_65 : tPlaces Try.prog 65 = some [(0, 1), (1, 1)] := by kernel_rfl
theorem us_71 : (Try.prog.underlying 71).isSome = true := by kernel_rfl
theorem ti_71 : tInt Try.prog 71 = some .u64 := by kernel_rfl
theorem te_94 : tElem Try.prog 94 = some 38 := by kernel_rfl
end Go.Proofs.Ytnjkcobofoiogaa
