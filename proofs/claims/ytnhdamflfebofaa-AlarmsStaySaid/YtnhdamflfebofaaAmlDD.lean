/- The abstract memory logic, part DD: function values, slices compared with nil. -/
import Derived.Test.YtnhdamflfebofaaAmlDC
import Derived.WalkSpells
namespace Go.Aml
open Go
section
variable {P : Program} {nt : Nat} {Q : XPost} {E : Env} {low loc : List AObj} {d : Option Nat} {ty : TypeId} {pos : String} {aft : Array Edge} {gd : Option (Nat × Bool)} {x y z : Operand} {t yt : TypeId} {all : Array Oper} {rest : List Oper}

theorem rd_makeFn {f : FuncId} {cs : List Operand} {ds : List PV} (hd : cs.map (PE E) = ds) : VRd P ⟨d, .makeFunc (.func f) #[] cs.toArray, ty, pos, aft, gd⟩ E low loc (.fn f [] ds) := by
  subst hd
  intro g nt a w hr
  refine ⟨.func (.func f) [].toArray (cs.map a.eval).toArray, by simp [execOp, Instr.makeFunc], ?_⟩
  refine .fn f [] (cs.map (PE E)) [] (cs.map a.eval) rfl (by intro i c x h; simp at h) (by simp) fun i c x hc hx => ?_
  rw [List.getElem?_map] at hc hx
  cases ho : cs[i]? with
  | none => rw [ho] at hc; cases hc
  | some o =>
    rw [ho] at hc hx
    simp at hc hx
    subst hc; subst hx
    exact hr.e.eval o

def NilQ (low loc : List AObj) (p : PV) (H : Prop) : Prop := ∀ (g : Gh) (n : Nat) (w : World) (x : Value), RelM g n (low ++ loc) w → VR g (low ++ loc) w p x → ∃ ad m c, x = .slice ad m c ∧ (ad = none → H)
theorem nilq_vs {p : PV} {sz : Nat} {es : List PV} (hp : p = .vs sz es) : NilQ low loc p (es = []) := by
  subst hp
  intro g n w x _ h
  cases h with
  | imm h =>
    cases h with
    | vs0 sz a cap => exact ⟨a, 0, cap, rfl, fun _ => rfl⟩
    | vs sz es b off cap u => exact ⟨_, _, _, rfl, fun h => by cases h⟩
theorem vops_nilq {p : PV} {e : TypeId} {H : Prop} (hx : PE E x = p) (hq : NilQ low loc p H) (hy : PE E y = .nils) (ht : tElem P t = some e) (hd : dstOk nt d = true) (h : ∀ b : Bool, (b = true → H) → VOps P nt all rest Q (putE E d (.bool b)) low loc) :
    VOps P nt all (⟨d, .binOp .eql t x y yt, ty, pos, aft, none⟩ :: rest) Q E low loc := by
  refine vops_ef (K := fun v l1 l2 => ∃ b : Bool, (b = true → H) ∧ v = .bool b ∧ l1 = low ∧ l2 = loc) ?_ hd (by rintro _ _ _ ⟨b, hb, rfl, rfl, rfl⟩; exact h b hb)
  intro g nt a w hr Kr Qr hK
  obtain ⟨ad, m, c, hxx, hH⟩ := hq g _ w _ hr.m (hx ▸ hr.e.eval x)
  have hyy := (hy ▸ hr.e.eval y).nils_inv
  have hrun : (execOp a.eval ⟨d, .binOp .eql t x y yt, ty, pos, aft, none⟩).run P w = .ok (.value (.bool ad.isNone)) w := by
    have hu := tElem_under ht
    have he : (Op.equal t (.slice ad m c) (.slice none 0 0)).run P w = .ok ad.isNone w := by
      have key : ∀ k, (Op.equalIn (k + 1) t (.slice ad m c) (.slice none 0 0)).run P w = .ok ad.isNone w := fun k => by
        cases ad <;> simp [Op.equalIn, run_underlying hu]
      exact key 9999
    simp [execOp, hxx, hyy, eqGuard, binOp, he]
  unfold Oper.wp
  rw [hrun]
  exact hK (.bool ad.isNone) w g (.bool ad.isNone) low loc ⟨_, fun h => hH (by simpa using h), rfl, rfl, rfl⟩ rfl (.bool _) hr.m (GStep.refl _ _ _ _)
theorem map_nil {α : Type} {f : α → PV} {l : List α} (h : l.map f = []) : l = [] := by simpa using h
end
end Go.Aml
namespace Go.Aml
open Go
section
variable {P : Program} {nt : Nat} {Q : XPost} {E : Env} {low loc : List AObj} {l : List Oper}
theorem vwp_drawn0 {id : Nat} (tbl : List (List Nat)) (hm : P.follows .mixedOrders = true) (hB : drawB l tbl [] = true) (hdst : l.all (fun o => dstOk nt o.dst) = true) (hs : DOps P l tbl [] [(low, loc)] 0 0 l E fun E' => Q .normal E' low loc) : VWp P nt (.region id l.toArray true) Q E low loc :=
  vwp_drawn tbl [] [(low, loc)] hm hB rfl (lenAll (all1 rfl all0)) hdst (low, loc) rfl (by
    show effN l.length [] (fun _ => true) = 0
    unfold effN
    rw [List.countP_eq_zero]
    intro j _
    simp) hs
theorem len_setL {low0 : List AObj} {ps ps' : List (Nat × AObj)} : (setL low0 ps).length = (setL low0 ps').length := by rw [setL_len, setL_len]
end
end Go.Aml
namespace Go.Aml
open Go
section
variable {P : Program} {nt : Nat} {Q : XPost} {E : Env} {low loc : List AObj} {l ol r : List Oper} {tbl : List (List Nat)} {effs : List Bool} {mems : List Mem2} {i q : Nat} {KK : Env → Prop} {op : Op} {v : PV} {d : Option Nat} {ty : TypeId} {pos : String} {aft : Array Edge} {all : Array Oper} {rest : List Oper} {b : Bool} {tab : List MemX} {K : Env → Prop}
/-! short names -/
theorem dr1 {M : Mem2} (he : effs.getD i false = false) (hW : winM ol tbl effs mems i = [M]) (h : VRd P ⟨d, op, ty, pos, aft, none⟩ (restr E (opTmps ⟨d, op, ty, pos, aft, none⟩)) M.1 M.2 v) (hk : DOps P ol tbl effs mems (i + 1) q r (putE E d v) KK) : DOps P ol tbl effs mems i q (⟨d, op, ty, pos, aft, none⟩ :: r) E KK :=
  dops_rdW [M] he hW (all1 h.ntl all0) hk
theorem dn1 {M : Mem2} (he : effs.getD i false = false) (hW : winM ol tbl effs mems i = [M]) (h : VNt P ⟨d, op, ty, pos, aft, none⟩ (restr E (opTmps ⟨d, op, ty, pos, aft, none⟩)) M.1 M.2 v) (hk : DOps P ol tbl effs mems (i + 1) q r (putE E d v) KK) : DOps P ol tbl effs mems i q (⟨d, op, ty, pos, aft, none⟩ :: r) E KK :=
  dops_rdW [M] he hW (all1 h all0) hk
theorem dt1 {M : Mem2} {j t : Nat} {want : Bool} (he : effs.getD i false = false) (hW : winM ol tbl effs mems i = [M]) (hj : (ol[j]?).bind (·.dst) = some t) (hl : look E t = .bool b) (ht : b = want) (h : VRd P ⟨d, op, ty, pos, aft, none⟩ (restr E (opTmps ⟨d, op, ty, pos, aft, none⟩)) M.1 M.2 v) (hk : DOps P ol tbl effs mems (i + 1) q r (putE E d v) KK) : DOps P ol tbl effs mems i q (⟨d, op, ty, pos, aft, some (j, want)⟩ :: r) E KK :=
  dops_takeW [M] he hW hj (ht ▸ hl) (all1 h.ntl all0) hk
theorem vt1 {j t : Nat} (hj : ((all[j]?).bind (·.dst)) = some t) (hl : look E t = .bool b) {want : Bool} (ht : b = want) (h : VOps P nt all (⟨d, op, ty, pos, aft, none⟩ :: rest) Q E low loc) : VOps P nt all (⟨d, op, ty, pos, aft, some (j, want)⟩ :: rest) Q E low loc :=
  vops_take hj (ht ▸ hl) h
end
end Go.Aml
