/- Type facts, printed by wip/aml/facts.py. -/
import Derived.Test.YtnhdamflfebofaaProg
import Derived.Test.YtnhdamflfebofaaAmlS
import Derived.KernelRfl
namespace Go.Proofs.Ytnhdamflfebofaa
open Go Go.Aml

theorem us_3 : (Try.prog.underlying 3).isSome = true := by kernel_rfl
theorem ta_3 : tAgg Try.prog 3 = some false := by kernel_rfl
theorem ts_3 : tSize Try.prog 3 = some 1 := by kernel_rfl
theorem tz_3 : tZero Try.prog 3 = some (.int .i64 0) := by kernel_rfl
theorem ti_3 : tInt Try.prog 3 = some .i64 := by kernel_rfl
theorem ta_4 : tAgg Try.prog 4 = some false := by kernel_rfl
theorem ts_4 : tSize Try.prog 4 = some 1 := by kernel_rfl
theorem tbo_4 : tBool Try.prog 4 = true := by kernel_rfl
theorem ta_22 : tAgg Try.prog 22 = some false := by kernel_rfl
theorem ts_22 : tSize Try.prog 22 = some 1 := by kernel_rfl
theorem te_22 : tElem Try.prog 22 = some 3 := by kernel_rfl
theorem te_27 : tElem Try.prog 27 = some 32 := by kernel_rfl
theorem ta_32 : tAgg Try.prog 32 = some true := by kernel_rfl
theorem ts_32 : tSize Try.prog 32 = some 9 := by kernel_rfl
theorem tb_32 : tBytes Try.prog 32 = some 64 := by kernel_rfl
theorem tz_32 : tZero Try.prog 32 = some (.agg #[.int .i64 0, .int .i64 0, .int .i64 0, .int .i64 0, .int .i64 0, .bool false, .bool false, .int .i64 0, .int .i64 0]) := by kernel_rfl
theorem tf_32_0 : tFld Try.prog 32 0 = some (3, 0) := by kernel_rfl
theorem tf_32_1 : tFld Try.prog 32 1 = some (3, 1) := by kernel_rfl
theorem tf_32_2 : tFld Try.prog 32 2 = some (3, 2) := by kernel_rfl
theorem tf_32_3 : tFld Try.prog 32 3 = some (3, 3) := by kernel_rfl
theorem tf_32_4 : tFld Try.prog 32 4 = some (3, 4) := by kernel_rfl
theorem tf_32_5 : tFld Try.prog 32 5 = some (4, 5) := by kernel_rfl
theorem tf_32_6 : tFld Try.prog 32 6 = some (4, 6) := by kernel_rfl
theorem tf_32_7 : tFld Try.prog 32 7 = some (3, 7) := by kernel_rfl
theorem tf_32_8 : tFld Try.prog 32 8 = some (3, 8) := by kernel_rfl
theorem tp_32 : tPlaces Try.prog 32 = some [(0, 1), (1, 1), (2, 1), (3, 1), (4, 1), (5, 1), (6, 1), (7, 1), (8, 1)] := by kernel_rfl
theorem tz_39 : tZero Try.prog 39 = some (.agg #[.int .i64 0, .int .i64 0, .int .i64 0, .int .i64 0]) := by kernel_rfl
theorem tr_39 : tArr Try.prog 39 = some (4, 3) := by kernel_rfl
theorem tz_51 : tZero Try.prog 51 = some (.agg #[.slice none 0 0, .int .i64 0]) := by kernel_rfl
theorem tf_51_0 : tFld Try.prog 51 0 = some (22, 0) := by kernel_rfl
theorem tf_51_1 : tFld Try.prog 51 1 = some (3, 1) := by kernel_rfl
theorem tp_51 : tPlaces Try.prog 51 = some [(0, 1), (1, 1)] := by kernel_rfl
theorem ta_52 : tAgg Try.prog 52 = some false := by kernel_rfl
theorem ts_52 : tSize Try.prog 52 = some 1 := by kernel_rfl
theorem tz_52 : tZero Try.prog 52 = some (.nilFunc) := by kernel_rfl
theorem ta_59 : tAgg Try.prog 59 = some true := by kernel_rfl
theorem ts_59 : tSize Try.prog 59 = some 2 := by kernel_rfl
theorem tz_59 : tZero Try.prog 59 = some (.agg #[.int .i64 0, .int .i64 0]) := by kernel_rfl
theorem tf_59_0 : tFld Try.prog 59 0 = some (3, 0) := by kernel_rfl
theorem tf_59_1 : tFld Try.prog 59 1 = some (3, 1) := by kernel_rfl
theorem tp_59 : tPlaces Try.prog 59 = some [(0, 1), (1, 1)] := by kernel_rfl
theorem us_70 : (Try.prog.underlying 70).isSome = true := by kernel_rfl
theorem ti_70 : tInt Try.prog 70 = some .u64 := by kernel_rfl
end Go.Proofs.Ytnhdamflfebofaa
