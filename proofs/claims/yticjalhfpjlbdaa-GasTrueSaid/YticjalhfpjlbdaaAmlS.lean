/- The abstract memory logic, part S: one step a line. -/
import Derived.Test.YticjalhfpjlbdaaAmlL
namespace Go.Aml
open Go

section
variable {P:Program} {nt:Nat} {Q:Xt} {E:Env} {low loc:List AObj} {d:Option Nat} {ty:TypeId} {pos:String} {aft:Array Edge} {x y z:Operand} {t:TypeId} {all:Array Oper} {rest:List Oper}

theorem Gl {k:IntKind} {n:Int} (h:PE E x = .int k n):VRd P ⟨d,.move x,ty,pos,aft,none⟩ E low loc (.int k n):=Gcr h
theorem Gt {b:Bool} (h:PE E x = .bool b):VRd P ⟨d,.move x,ty,pos,aft,none⟩ E low loc (.bool b):=Gcr h
theorem Se {sz:Nat} {es:List PV} (h:PE E x = .vs sz es):VRd P ⟨d,.move x,ty,pos,aft,none⟩ E low loc (.vs sz es):=Gcr h
theorem Kf {r v off len:Nat} (h:PE E x = .sl r v off len):VRd P ⟨d,.move x,ty,pos,aft,none⟩ E low loc (.sl r v off len):=Gcr h
theorem Sd {r v i j:Nat} (h:PE E x = .ptr r v i j):VRd P ⟨d,.move x,ty,pos,aft,none⟩ E low loc (.ptr r v i j):=Gcr h
theorem Gy {k:IntKind} {n:Int} (h:PE E x = .int k n):VRd P ⟨d,.assign x,ty,pos,aft,none⟩ E low loc (.int k n):=Gah h
theorem Kt {b:Bool} (h:PE E x = .bool b):VRd P ⟨d,.assign x,ty,pos,aft,none⟩ E low loc (.bool b):=Gah h
theorem Gb2 {sz:Nat} {es:List PV} (h:PE E x = .vs sz es):VRd P ⟨d,.assign x,ty,pos,aft,none⟩ E low loc (.vs sz es):=Gah h
theorem Ui {r v off len:Nat} (h:PE E x = .sl r v off len):VRd P ⟨d,.assign x,ty,pos,aft,none⟩ E low loc (.sl r v off len):=Gah h
theorem Gk1 {r v i j:Nat} (h:PE E x = .ptr r v i j):VRd P ⟨d,.assign x,ty,pos,aft,none⟩ E low loc (.ptr r v i j):=Gah h
end

theorem Gr4 {n:Int} (h1 : -9223372036854775808≤n) (h2:n≤9223372036854775807):IntKind.i64.wrap n=n:=by
 rw [IntKind.wrap_i64];omega
end Go.Aml
