/- Type facts, printed by wip/aml/facts.py. -/
import Derived.Test.YtecbhhmfeldepaaProg
import Derived.Test.YtecbhhmfeldepaaAmlS
import Derived.KernelRfl
namespace Go.Proofs.Ytecbhhmfeldepaa
open Go Go.Aml

theorem ta_3 : tAgg Try.prog 3 = some false := by kernel_rfl
theorem ts_3 : tSize Try.prog 3 = some 1 := by kernel_rfl
theorem tb_3 : tBytes Try.prog 3 = some 8 := by kernel_rfl
theorem tz_3 : tZero Try.prog 3 = some (.int .i64 0) := by kernel_rfl
theorem ti_3 : tInt Try.prog 3 = some .i64 := by kernel_rfl
theorem ta_4 : tAgg Try.prog 4 = some false := by kernel_rfl
theorem ts_4 : tSize Try.prog 4 = some 1 := by kernel_rfl
theorem tb_4 : tBytes Try.prog 4 = some 1 := by kernel_rfl
theorem tz_4 : tZero Try.prog 4 = some (.bool false) := by kernel_rfl
theorem us_5 : (Try.prog.underlying 5).isSome = true := by kernel_rfl
theorem ta_5 : tAgg Try.prog 5 = some false := by kernel_rfl
theorem ts_5 : tSize Try.prog 5 = some 1 := by kernel_rfl
theorem ta_22 : tAgg Try.prog 22 = some false := by kernel_rfl
theorem ts_22 : tSize Try.prog 22 = some 1 := by kernel_rfl
theorem te_22 : tElem Try.prog 22 = some 5 := by kernel_rfl
theorem ta_25 : tAgg Try.prog 25 = some false := by kernel_rfl
theorem ts_25 : tSize Try.prog 25 = some 1 := by kernel_rfl
theorem te_25 : tElem Try.prog 25 = some 36 := by kernel_rfl
theorem ta_26 : tAgg Try.prog 26 = some false := by kernel_rfl
theorem ts_26 : tSize Try.prog 26 = some 1 := by kernel_rfl
theorem te_26 : tElem Try.prog 26 = some 3 := by kernel_rfl
theorem ta_28 : tAgg Try.prog 28 = some true := by kernel_rfl
theorem ts_28 : tSize Try.prog 28 = some 3 := by kernel_rfl
theorem tz_28 : tZero Try.prog 28 = some (.agg #[.slice none 0 0, .slice none 0 0, .int .i64 0]) := by kernel_rfl
theorem tf_28_0 : tFld Try.prog 28 0 = some (25, 0) := by kernel_rfl
theorem tf_28_1 : tFld Try.prog 28 1 = some (26, 1) := by kernel_rfl
theorem tf_28_2 : tFld Try.prog 28 2 = some (3, 2) := by kernel_rfl
theorem tp_28 : tPlaces Try.prog 28 = some [(0, 1), (1, 1), (2, 1)] := by kernel_rfl
theorem ta_36 : tAgg Try.prog 36 = some true := by kernel_rfl
theorem ts_36 : tSize Try.prog 36 = some 5 := by kernel_rfl
theorem tb_36 : tBytes Try.prog 36 = some 32 := by kernel_rfl
theorem tz_36 : tZero Try.prog 36 = some (.agg #[.int .i64 0, .int .i64 0, .int .i64 0, .bool false, .bool false]) := by kernel_rfl
theorem tf_36_0 : tFld Try.prog 36 0 = some (3, 0) := by kernel_rfl
theorem tf_36_1 : tFld Try.prog 36 1 = some (3, 1) := by kernel_rfl
theorem tf_36_2 : tFld Try.prog 36 2 = some (3, 2) := by kernel_rfl
theorem tf_36_3 : tFld Try.prog 36 3 = some (4, 3) := by kernel_rfl
theorem tf_36_4 : tFld Try.prog 36 4 = some (4, 4) := by kernel_rfl
theorem tp_36 : tPlaces Try.prog 36 = some [(0, 1), (1, 1), (2, 1), (3, 1), (4, 1)] := by kernel_rfl
theorem tz_61 : tZero Try.prog 61 = some (.agg #[.slice none 0 0, .int .i64 0]) := by kernel_rfl
theorem tf_61_0 : tFld Try.prog 61 0 = some (22, 0) := by kernel_rfl
theorem tf_61_1 : tFld Try.prog 61 1 = some (3, 1) := by kernel_rfl
theorem tp_61 : tPlaces Try.prog 61 = some [(0, 1), (1, 1)] := by kernel_rfl
theorem te_64 : tElem Try.prog 64 = some 4 := by kernel_rfl
end Go.Proofs.Ytecbhhmfeldepaa
