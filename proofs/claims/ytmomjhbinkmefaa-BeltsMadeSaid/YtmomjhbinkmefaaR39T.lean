/- Type facts, printed by wip/aml/facts.py. -/
import Derived.Test.YtmomjhbinkmefaaProg
import Derived.Test.YtmomjhbinkmefaaAmlS
import Derived.KernelRfl
namespace Go.Proofs.Ytmomjhbinkmefaa
open Go Go.Aml

theorem ta_3 : tAgg Try.prog 3 = some false := by kernel_rfl
theorem ts_3 : tSize Try.prog 3 = some 1 := by kernel_rfl
theorem tb_3 : tBytes Try.prog 3 = some 8 := by kernel_rfl
theorem tz_3 : tZero Try.prog 3 = some (.int .i64 0) := by kernel_rfl
theorem ta_4 : tAgg Try.prog 4 = some false := by kernel_rfl
theorem ts_4 : tSize Try.prog 4 = some 1 := by kernel_rfl
theorem tb_4 : tBytes Try.prog 4 = some 1 := by kernel_rfl
theorem tz_4 : tZero Try.prog 4 = some (.bool false) := by kernel_rfl
theorem tbo_4 : tBool Try.prog 4 = true := by kernel_rfl
theorem ta_22 : tAgg Try.prog 22 = some false := by kernel_rfl
theorem ts_22 : tSize Try.prog 22 = some 1 := by kernel_rfl
theorem te_22 : tElem Try.prog 22 = some 3 := by kernel_rfl
theorem ta_27 : tAgg Try.prog 27 = some false := by kernel_rfl
theorem te_27 : tElem Try.prog 27 = some 31 := by kernel_rfl
theorem ta_31 : tAgg Try.prog 31 = some true := by kernel_rfl
theorem ts_31 : tSize Try.prog 31 = some 2 := by kernel_rfl
theorem tb_31 : tBytes Try.prog 31 = some 16 := by kernel_rfl
theorem tz_31 : tZero Try.prog 31 = some (.agg #[.int .i64 0, .int .i64 0]) := by kernel_rfl
theorem tf_31_0 : tFld Try.prog 31 0 = some (3, 0) := by kernel_rfl
theorem tf_31_1 : tFld Try.prog 31 1 = some (3, 1) := by kernel_rfl
theorem tp_31 : tPlaces Try.prog 31 = some [(0, 1), (1, 1)] := by kernel_rfl
theorem ta_32 : tAgg Try.prog 32 = some false := by kernel_rfl
theorem ts_32 : tSize Try.prog 32 = some 1 := by kernel_rfl
theorem te_32 : tElem Try.prog 32 = some 4 := by kernel_rfl
theorem ta_34 : tAgg Try.prog 34 = some true := by kernel_rfl
theorem ts_34 : tSize Try.prog 34 = some 5 := by kernel_rfl
theorem tz_34 : tZero Try.prog 34 = some (.agg #[.int .i64 0, .slice none 0 0, .slice none 0 0, .slice none 0 0, .slice none 0 0]) := by kernel_rfl
theorem tf_34_0 : tFld Try.prog 34 0 = some (3, 0) := by kernel_rfl
theorem tf_34_1 : tFld Try.prog 34 1 = some (22, 1) := by kernel_rfl
theorem tf_34_2 : tFld Try.prog 34 2 = some (22, 2) := by kernel_rfl
theorem tf_34_3 : tFld Try.prog 34 3 = some (32, 3) := by kernel_rfl
theorem tf_34_4 : tFld Try.prog 34 4 = some (32, 4) := by kernel_rfl
theorem tp_34 : tPlaces Try.prog 34 = some [(0, 1), (1, 1), (2, 1), (3, 1), (4, 1)] := by kernel_rfl
theorem tz_53 : tZero Try.prog 53 = some (.agg #[.slice none 0 0, .int .i64 0]) := by kernel_rfl
theorem tf_53_0 : tFld Try.prog 53 0 = some (22, 0) := by kernel_rfl
theorem tf_53_1 : tFld Try.prog 53 1 = some (3, 1) := by kernel_rfl
theorem tp_53 : tPlaces Try.prog 53 = some [(0, 1), (1, 1)] := by kernel_rfl
end Go.Proofs.Ytmomjhbinkmefaa
