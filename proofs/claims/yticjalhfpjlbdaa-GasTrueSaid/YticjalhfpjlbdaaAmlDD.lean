/- The abstract memory logic, part DD: function values, slices compared with nil. -/
import Derived.Test.YticjalhfpjlbdaaAmlDC
import Derived.WalkSpells
namespace Go.Aml
open Go
section
variable {P:Program} {nt:Nat} {Q:Xt} {E:Env} {low loc:List AObj} {d:Option Nat} {ty:TypeId} {pos:String} {aft:Array Edge} {gd:Option (Nat×Bool)} {x y z:Operand} {t yt:TypeId} {all:Array Oper} {rest:List Oper}

def Gts (low loc:List AObj) (p:PV) (H:Prop):Prop:=∀ (g:Gh) (n:Nat) (w:World) (x:Value),RelM g n (low++loc) w→VR g (low++loc) w p x→∃ ad m c,x = .slice ad m c∧(ad=none→H)
end
end Go.Aml
namespace Go.Aml
open Go
section
variable {P:Program} {nt:Nat} {Q:Xt} {E:Env} {low loc:List AObj} {l:List Oper}
theorem Ss {id:Nat} (tbl:List (List Nat)) (hm:P.follows .mixedOrders=true) (hB:Gmd l tbl []=true) (hdst:l.all (fun o=>Gcc nt o.dst)=true) (hs:Ga7 P l tbl [] [(low,loc)] 0 0 l E fun E'=>Q .normal E' low loc):VWp P nt (.region id l.toArray true) Q E low loc :=
 Ub tbl [] [(low,loc)] hm hB rfl (Vv (Jk rfl Sg)) hdst (low,loc) rfl (by
  show Gac l.length [] (fun _=>true)=0
  unfold Gac
  rw [List.countP_eq_zero]
  intro j _
  simp) hs
theorem Si {low0:List AObj} {ps ps':List (Nat×AObj)}:(Ko low0 ps).length=(Ko low0 ps').length:=by rw [Yc,Yc]
end
end Go.Aml
namespace Go.Aml
open Go
section
variable {P:Program} {nt:Nat} {Q:Xt} {E:Env} {low loc:List AObj} {l ol r:List Oper} {tbl:List (List Nat)} {effs:List Bool} {mems:List Zd} {i q:Nat} {KK:Env→Prop} {op:Op} {v:PV} {d:Option Nat} {ty:TypeId} {pos:String} {aft:Array Edge} {all:Array Oper} {rest:List Oper} {b:Bool} {tab:List Gai} {K:Env→Prop}
/-! short names -/
theorem dr1 {M:Zd} (he:effs.getD i false=false) (hW:Goq ol tbl effs mems i=[M]) (h:VRd P ⟨d,op,ty,pos,aft,none⟩ (Ga5 E (Ym ⟨d,op,ty,pos,aft,none⟩)) M.1 M.2 v) (hk:Ga7 P ol tbl effs mems (i+1) q r (Gas E d v) KK):Ga7 P ol tbl effs mems i q (⟨d,op,ty,pos,aft,none⟩::r) E KK :=
 Jj [M] he hW (Jk h.ntl Sg) hk
theorem dn1 {M:Zd} (he:effs.getD i false=false) (hW:Goq ol tbl effs mems i=[M]) (h:VNt P ⟨d,op,ty,pos,aft,none⟩ (Ga5 E (Ym ⟨d,op,ty,pos,aft,none⟩)) M.1 M.2 v) (hk:Ga7 P ol tbl effs mems (i+1) q r (Gas E d v) KK):Ga7 P ol tbl effs mems i q (⟨d,op,ty,pos,aft,none⟩::r) E KK :=
 Jj [M] he hW (Jk h Sg) hk
theorem dt1 {M:Zd} {j t:Nat} {want:Bool} (he:effs.getD i false=false) (hW:Goq ol tbl effs mems i=[M]) (hj:(ol[j]?).bind (·.dst)=some t) (hl:look E t = .bool b) (ht:b=want) (h:VRd P ⟨d,op,ty,pos,aft,none⟩ (Ga5 E (Ym ⟨d,op,ty,pos,aft,none⟩)) M.1 M.2 v) (hk:Ga7 P ol tbl effs mems (i+1) q r (Gas E d v) KK):Ga7 P ol tbl effs mems i q (⟨d,op,ty,pos,aft,some (j,want)⟩::r) E KK :=
 Glc [M] he hW hj (ht ▸ hl) (Jk h.ntl Sg) hk
theorem vt1 {j t:Nat} (hj:((all[j]?).bind (·.dst))=some t) (hl:look E t = .bool b) {want:Bool} (ht:b=want) (h:Ga1 P nt all (⟨d,op,ty,pos,aft,none⟩::rest) Q E low loc):Ga1 P nt all (⟨d,op,ty,pos,aft,some (j,want)⟩::rest) Q E low loc :=
 Wh hj (ht ▸ hl) h
end
end Go.Aml
