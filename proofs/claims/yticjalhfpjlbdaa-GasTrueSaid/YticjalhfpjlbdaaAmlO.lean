/- The abstract memory logic, part O: a region that draws its order, one operation a line; a split on a truth value. -/
import Derived.Test.YticjalhfpjlbdaaAmlS
namespace Go.Aml
open Go

section
variable {P:Program} {nt:Nat} {Q:Xt} {E:Env} {low loc:List AObj}

variable {l r:List Oper} {tbl:List (List Nat)} {effs:List Bool} {mems:List Zd} {i k:Nat} {K:Env→Prop}

def Ga7 (P:Program) (l:List Oper) (tbl:List (List Nat)) (effs:List Bool) (mems:List Zd) (i k:Nat) (r:List Oper) (E:Env) (K:Env→Prop):Prop :=
 (Gac l.length effs fun j=>decide (j<i))=k→i+r.length=l.length→∃ vs,Gdz P l tbl effs mems i r vs E∧K (Wk (fun _=>true) i r vs E)

theorem Ub {id:Nat} (tbl:List (List Nat)) (effs:List Bool) (mems:List Zd) (hm:P.follows .mixedOrders=true) (hB:Gmd l tbl effs=true) (h0:mems[0]?=some (low,loc)) (hlow:mems.all (fun M=>Nat.beq M.1.length low.length)=true)
  (hdst:l.all (fun o=>Gcc nt o.dst)=true) (Mz:Zd) (hz:mems[effs.countP (fun b=>b)]?=some Mz) (hn:(Gac l.length effs fun _=>true)=effs.countP (fun b=>b)) (hs:Ga7 P l tbl effs mems 0 0 l E fun E'=>Q .normal E' Mz.1 Mz.2):VWp P nt (.region id l.toArray true) Q E low loc:=by
 have h00:(Gac l.length effs fun j=>decide (j<0))=0:=by
  unfold Gac
  rw [List.countP_eq_zero]
  intro j _
  simp
 obtain ⟨vs,h1,h2⟩:=hs h00 (by simp)
 refine Gog tbl effs mems vs hm hB h0 ?_ hdst h1 fun M hM=>?_
 ·rw [List.all_eq_true] at hlow ⊢
  intro M hM
  have:=Nat.eq_of_beq_eq_true (hlow M hM)
  simp [this]
 ·rw [hn,hz] at hM
  cases hM
  exact h2

theorem Kq (h:K E):Ga7 P l tbl effs mems i k [] E K:=fun _ _=>⟨[],trivial,h⟩

theorem Gaf (h:effs.getD i false=false):(Gac l.length effs fun j=>decide (j<i+1))=Gac l.length effs fun j=>decide (j<i):=by
 refine Gat fun j _=>?_
 by_cases e:j=i
 ·subst e;show (effs.getD j false&&_)=(effs.getD j false&&_);rw [h];rfl
 ·have:(j<i+1)↔(j<i):=by omega
  simp [this]
theorem Gg7 (hi:i<l.length) (h:effs.getD i false=true):(Gac l.length effs fun j=>decide (j<i+1))=(Gac l.length effs fun j=>decide (j<i))+1:=by
 refine Gcx hi (by simp) (by show (effs.getD i false&&_)=true;rw [h];simp) fun j _ hj=>?_
 have:(j<i+1)↔(j<i):=by omega
 simp [this]

variable {d:Option Nat} {op:Op} {ty:TypeId} {pos:String} {aft:Array Edge} {v:PV}

theorem Gg8 (o:Oper):∀ Ms:List Zd,(∀ M ∈ Ms,VNt P o E M.1 M.2 v)→Gjs P o E v Ms
 | [],_=>trivial
 | M::Ms,h=>⟨h M (by simp),Gg8 o Ms fun M hM=>h M (by simp [hM])⟩

theorem Ke {j t:Nat} {want b:Bool} (he:effs.getD i false=false) (hj:(l[j]?).bind (·.dst)=some t) (ht:look E t = .bool b) (hb:b≠want) (hk:Ga7 P l tbl effs mems (i+1) k r (Gas E d (.tup [])) K):Ga7 P l tbl effs mems i k (⟨d,op,ty,pos,aft,some (j,want)⟩::r) E K:=by
 intro h1 h2
 obtain ⟨vs,k1,k2⟩:=hk ((Gaf he).trans h1) (by simp at h2;omega)
 exact ⟨.tup []::vs,⟨⟨t,hj,.inl ⟨b,ht,fun h=>absurd h hb,fun _=>⟨rfl,he⟩⟩⟩,k1⟩,by simpa [Wk] using k2⟩
theorem Yu {j t:Nat} {want:Bool} (he:effs.getD i false=false) (hj:(l[j]?).bind (·.dst)=some t) (ht:look E t = .tup []) (hk:Ga7 P l tbl effs mems (i+1) k r (Gas E d (.tup [])) K):Ga7 P l tbl effs mems i k (⟨d,op,ty,pos,aft,some (j,want)⟩::r) E K:=by
 intro h1 h2
 obtain ⟨vs,k1,k2⟩:=hk ((Gaf he).trans h1) (by simp at h2;omega)
 exact ⟨.tup []::vs,⟨⟨t,hj,.inr ⟨ht,rfl,he⟩⟩,k1⟩,by simpa [Wk] using k2⟩

theorem Kz {M M':Zd} (he:effs.getD i false=true) (hM:mems[k]?=some M) (hM':mems[k+1]?=some M') (h:VEf P ⟨d,op,ty,pos,aft,none⟩ (Ga5 E (Ym ⟨d,op,ty,pos,aft,none⟩)) M.1 M.2 fun v1 l1 l2=>v1=v∧l1=M'.1∧l2=M'.2) (hk:Ga7 P l tbl effs mems (i+1) (k+1) r (Gas E d v) K):Ga7 P l tbl effs mems i k (⟨d,op,ty,pos,aft,none⟩::r) E K:=by
 intro h1 h2
 have hi:i<l.length:=by simp at h2;omega
 obtain ⟨vs,k1,k2⟩:=hk ((Gg7 hi he).trans (by rw [h1])) (by simp at h2;omega)
 refine ⟨v::vs,⟨?_,k1⟩,by simpa [Wk] using k2⟩
 unfold Ggs Ggr
 simp only [he,if_true]
 exact ⟨M,M',by rw [h1];exact hM,by rw [h1];exact hM',h⟩
end
end Go.Aml
