/- The abstract memory logic, part S: one step a line. -/
import Derived.Test.YtnhdamflfebofaaAmlL
namespace Go.Aml
open Go

section
variable {P : Program} {nt : Nat} {Q : XPost} {E : Env} {low loc : List AObj} {d : Option Nat} {ty : TypeId} {pos : String} {aft : Array Edge} {x y z : Operand} {t : TypeId} {all : Array Oper} {rest : List Oper}

theorem rd_mvI {k : IntKind} {n : Int} (h : PE E x = .int k n) : VRd P ⟨d, .move x, ty, pos, aft, none⟩ E low loc (.int k n) := rd_move' h
theorem rd_mvB {b : Bool} (h : PE E x = .bool b) : VRd P ⟨d, .move x, ty, pos, aft, none⟩ E low loc (.bool b) := rd_move' h
theorem rd_mvV {sz : Nat} {es : List PV} (h : PE E x = .vs sz es) : VRd P ⟨d, .move x, ty, pos, aft, none⟩ E low loc (.vs sz es) := rd_move' h
theorem rd_mvL {r v off len : Nat} (h : PE E x = .sl r v off len) : VRd P ⟨d, .move x, ty, pos, aft, none⟩ E low loc (.sl r v off len) := rd_move' h
theorem rd_mvP {r v i j : Nat} (h : PE E x = .ptr r v i j) : VRd P ⟨d, .move x, ty, pos, aft, none⟩ E low loc (.ptr r v i j) := rd_move' h
theorem rd_asI {k : IntKind} {n : Int} (h : PE E x = .int k n) : VRd P ⟨d, .assign x, ty, pos, aft, none⟩ E low loc (.int k n) := rd_assign' h
theorem rd_asB {b : Bool} (h : PE E x = .bool b) : VRd P ⟨d, .assign x, ty, pos, aft, none⟩ E low loc (.bool b) := rd_assign' h
theorem rd_asV {sz : Nat} {es : List PV} (h : PE E x = .vs sz es) : VRd P ⟨d, .assign x, ty, pos, aft, none⟩ E low loc (.vs sz es) := rd_assign' h
theorem rd_asL {r v off len : Nat} (h : PE E x = .sl r v off len) : VRd P ⟨d, .assign x, ty, pos, aft, none⟩ E low loc (.sl r v off len) := rd_assign' h
theorem rd_asP {r v i j : Nat} (h : PE E x = .ptr r v i j) : VRd P ⟨d, .assign x, ty, pos, aft, none⟩ E low loc (.ptr r v i j) := rd_assign' h
theorem rd_shrC {yt : TypeId} {k yk : IntKind} {m n c : Int} (hx : PE E x = .int k m) (hy : PE E y = .int yk n) (h0 : 0 ≤ n) (hc : (2 : Int) ^ (min n.toNat k.bits) = c) (hp : 0 ≤ c) : VRd P ⟨d, .binOp .shr t x y yt, ty, pos, aft, none⟩ E low loc (.int k (m / c)) :=
  rd_shr hx hy h0 (by rw [hc]; exact Int.fdiv_eq_ediv_of_nonneg m hp)

end

theorem wrapId {n : Int} (h1 : -9223372036854775808 ≤ n) (h2 : n ≤ 9223372036854775807) : IntKind.i64.wrap n = n := by
  rw [IntKind.wrap_i64]; omega
theorem wrapU64 {n : Int} (h1 : 0 ≤ n) (h2 : n ≤ 18446744073709551615) : IntKind.u64.wrap n = n := by
  unfold IntKind.wrap; simp [IntKind.bits, IntKind.signed]; omega

end Go.Aml
