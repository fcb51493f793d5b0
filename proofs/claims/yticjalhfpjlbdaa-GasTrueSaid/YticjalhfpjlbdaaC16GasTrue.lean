/- GasTrue: for every input the law returns true, and each argument reads as it did. Without conditions. -/
import Derived.Test.YticjalhfpjlbdaaRows
import Derived.Test.YticjalhfpjlbdaaL16GasTrueW8
import Derived.Test.YticjalhfpjlbdaaPQ
import Derived.Test.YticjalhfpjlbdaaAmlZ
import Derived.WalkKit
import Derived.ProofKit
import Derived.OpenShut
import Derived.Below
namespace Go.Proofs.Yticjalhfpjlbdaa
open Go Go.Aml Go.L Go.ChangeShapes Go.WideShapes Go.ChangeAt Go.RowKit
set_option linter.unusedVariables false

theorem ty_5:Gn0 Try.prog 5 (fun x:Int=>[.int .u8 x]) (In .u8):=Gru (by kernel_rfl)
theorem ty_22:Gn0 Try.prog 22 (fun x:List Int=>[.vs 1 (List.map (PV.int .u8) x)]) (InL (In .u8)):=Gn1 (f:=(PV.int .u8)) (e:=5) (ag:=false) (by kernel_rfl) (by kernel_rfl) (by kernel_rfl) ty_5 (fun _=>rfl)

set_option maxRecDepth 100000 in
theorem calls_GasTrue (pcs0:List PV) (hT0:Ghz Try.prog [22] pcs0):Sh Try.prog 5 pcs0 [] fun r _=>r = .bool true:=by
  obtain ⟨c0,pcs1,q0,rfl,h0,rfl,hT1⟩:=Gkz hT0
  obtain ⟨p0,rfl,w0⟩:=ty_22 q0 h0
  obtain rfl:=Gm8 hT1
  have h:=(Ff9 (Gjj p0 w0) []).mono fun r low' h=>h.1
  have e:([mkE (Ws Try.prog 22) ((fun x:List Int=>[.vs 1 (List.map (PV.int .u8) x)]) p0)]:List PV)=[.vs 1 (List.map (PV.int .u8) p0)]:=by
    rw [show Ws Try.prog 22=some false from by kernel_rfl]
    rfl
  rw [e]
  exact h

set_option maxRecDepth 100000 in
theorem lifted_GasTrue (os:Os) (started:os.Started) (H:Type) (enc:TypeId×Value→H) :
    ReturnsInHanded {} Try.checked os 5 .any (Rows.gasTrueSpec.pre6 enc Try.prog Try.f5 Rows.gasTrueRow.domain false) (Rows.gasTrueSpec.post enc Try.prog Try.f5 false true false false) :=
  Gk0 (C:=Try.checked) (tb:=4) (by kernel_rfl) started (by kernel_rfl) Try.func5
    (ChangeSpec.witness6 (enc:=enc) (C:=Try.checked) false ⟨#[],#[.slice none 0 0],[]⟩ 8 (by kernel_rfl) (by kernel_rfl) (by kernel_rfl) (by kernel_rfl))
    (by kernel_rfl) (by kernel_rfl) (by kernel_rfl) rfl rfl Try.underlying4 (fun ds hl=>by
      match ds,hl with
      | [_],_=>rfl) calls_GasTrue

theorem gasTrue_holds:Rows.GasTrueSaid :=
  OpenClaim.holds_of_wide 5 Try.f5 rfl rfl rfl rfl rfl rfl rfl ⟨rfl,rfl,rfl,rfl,rfl⟩ rfl rfl rfl rfl rfl (by kernel_rfl) Try.func5 (by kernel_rfl)
    (of_decide_eq_true (by kernel_rfl)) (by unfold Func.isWrapper;first | (rw [if_pos (by decide +kernel)];kernel_rfl) | (rw [if_neg (by decide +kernel)];exact ⟨rfl,rfl⟩))
    (fun os started H enc _=>lifted_GasTrue os started H enc)
#print axioms gasTrue_holds
end Go.Proofs.Yticjalhfpjlbdaa
