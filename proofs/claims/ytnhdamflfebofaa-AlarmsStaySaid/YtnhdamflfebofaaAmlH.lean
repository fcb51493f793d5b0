/- The abstract memory logic, part H: append to nothing; slices of slices; bytes as strings; literals. -/
import Derived.Test.YtnhdamflfebofaaAmlG
import Derived.Laws.BytesArg
import Derived.Laws.StructEq
import Derived.Laws.Slices
namespace Go.Aml
open Go

section
variable {P : Program} {nt : Nat} {Q : XPost} {E : Env} {low loc : List AObj} {d : Option Nat} {ty : TypeId} {pos : String} {aft : Array Edge} {gd : Option (Nat × Bool)} {x y z : Operand} {t : TypeId} {all : Array Oper} {rest : List Oper}

/-! ### slices of slices -/

def BdIs (E : Env) (dflt : Nat) : Option Operand → Nat → Prop
  | none, l => l = dflt
  | some o, l => ∃ k m, PE E o = .int k m ∧ m = (l : Int)

theorem run_sliceAt {w : World} {te sz : Nat} {a : Option Addr} {len cap l h : Nat} {lo hi : Option Operand} {ac : Act} {g : Gh} {H : List AObj} (hr : RelE g H w nt E ac) (ht : tElem P t = some te) (hs : tSize P te = some sz) (hl : BdIs E 0 lo l) (hh : BdIs E len hi h) (hlh : l ≤ h) (hc : h ≤ cap) :
    (Instr.sliceAt t (.slice a len cap) (lo.map ac.eval) (hi.map ac.eval) (none : Option Value)).run P w = .ok (.slice (if cap = l then a else a.map (·.add (l * sz))) (h - l) (cap - l)) w := by
  have hu := tElem_under ht
  have hlv : lo = none ∧ l = 0 ∨ ∃ k, lo.map ac.eval = some (.int k (l : Int)) := by
    cases lo with
    | none => exact .inl ⟨rfl, hl⟩
    | some o =>
      obtain ⟨k, m, ho, rfl⟩ := hl
      exact .inr ⟨k, by simp [(ho ▸ hr.eval o).int_inv]⟩
  have hhv : hi = none ∧ h = len ∨ ∃ k, hi.map ac.eval = some (.int k (h : Int)) := by
    cases hi with
    | none => exact .inl ⟨rfl, hh⟩
    | some o =>
      obtain ⟨k, m, ho, rfl⟩ := hh
      exact .inr ⟨k, by simp [(ho ▸ hr.eval o).int_inv]⟩
  have hcap : ((h : Nat) : Int) ≤ (cap : Int) := by omega
  have hlh' : ((l : Nat) : Int) ≤ (h : Int) := by omega
  rcases hlv with ⟨rfl, rfl⟩ | ⟨k, hlv⟩ <;> rcases hhv with ⟨rfl, rfl⟩ | ⟨k', hhv⟩
  · simp [Instr.sliceAt, Instr.slice, run_underlying hu, Instr.sliceBounds, run_sizeOf hs]
  · simp [Instr.sliceAt, Instr.slice, run_underlying hu, Instr.sliceBounds, run_sizeOf hs, hhv, Instr.sliceBound, asIntOf, hc]
  · simp [Instr.sliceAt, Instr.slice, run_underlying hu, Instr.sliceBounds, run_sizeOf hs, hlv, Instr.sliceBound, asIntOf, hlh]
  · simp [Instr.sliceAt, Instr.slice, run_underlying hu, Instr.sliceBounds, run_sizeOf hs, hlv, hhv, Instr.sliceBound, asIntOf, hlh, hc]

theorem rd_sliceS {te r v off len l h : Nat} {o : AObj} {lo hi : Option Operand} (hx : PE E x = .sl r v off len) (ho : GetO low loc r o) (hv : o.ver = v) (ht : tElem P t = some te) (hs : tSize P te = some o.sz) (hl : BdIs E 0 lo l) (hh : BdIs E len hi h) (hlh : l ≤ h) (hhe : h ≤ len) :
    VRd P ⟨d, .slice t x lo hi none, ty, pos, aft, gd⟩ E low loc (.sl r v (off + l) (h - l)) := by
  intro g nt a w hr
  have hsl := sl_inv (hx ▸ hr.e.eval x) ho hv
  have hv' : v ≤ o.ver := by omega
  unfold SL at hsl
  obtain ⟨hlen, hsl⟩ := hsl
  cases hb : g.β r with
  | none =>
    rw [hb] at hsl
    obtain ⟨rfl, rfl, ad, hz⟩ := hsl
    have h0 : h = 0 := by omega
    have l0 : l = 0 := by omega
    subst h0; subst l0
    refine ⟨.slice ad 0 0, ?_, .sl r v _ _ o _ ho hv' rfl fun _ => ⟨by omega, ?_⟩⟩
    · simp only [execOp, hz, Option.map_none, Sem.run_bind, run_sliceAt hr.e ht hs hl hh (Nat.le_refl _) (Nat.le_refl _), Result.andThen_ok, Sem.run_pure]
      rfl
    · rw [hb]; exact ⟨rfl, rfl, ad, rfl⟩
  | some bc =>
    obtain ⟨b, C⟩ := bc
    rw [hb] at hsl
    obtain ⟨cap, ad, hz, hlc, hne, h0⟩ := hsl
    refine ⟨.slice (if cap = l then ad else ad.map (·.add (l * o.sz))) (h - l) (cap - l), ?_, .sl r v _ _ o _ ho hv' rfl fun _ => ⟨by omega, ?_⟩⟩
    · simp only [execOp, hz, Option.map_none, Sem.run_bind, run_sliceAt hr.e ht hs hl hh hlh (Nat.le_trans hhe hlc), Result.andThen_ok, Sem.run_pure]
    · rw [hb]
      refine ⟨cap - l, _, rfl, by omega, fun hn => ?_, fun he => ?_⟩
      · rw [if_neg (by omega), hne (by omega), Option.map_some, Addr.add_lit, Nat.add_mul]
      · obtain ⟨h1, h2⟩ := h0 (by omega)
        have hl0 : l = 0 := by omega
        subst hl0
        subst h1
        refine ⟨?_, by omega⟩
        split
        · rfl
        · simp [Addr.add_zero']

/-! ### bytes as a string -/

end
end Go.Aml
