/- The abstract memory logic, part P: more shapes of a value moved; nil as an empty row. -/
import Derived.Test.YticjalhfpjlbdaaAmlO
namespace Go.Aml
open Go

section
variable {P:Program} {nt:Nat} {Q:Xt} {E:Env} {low loc:List AObj} {d:Option Nat} {ty:TypeId} {pos:String} {aft:Array Edge} {x y z:Operand} {t:TypeId} {all:Array Oper} {rest:List Oper}
theorem Zz {cs:List PV} (h:PE E x = .tup cs):VRd P ⟨d,.move x,ty,pos,aft,none⟩ E low loc (.tup cs):=Gcr h
theorem Vw (h:PE E x = .nils):VRd P ⟨d,.assign x,ty,pos,aft,none⟩ E low loc .nils:=Gah h
theorem Grw (h:PE E x = .nilp):VRd P ⟨d,.assign x,ty,pos,aft,none⟩ E low loc .nilp:=Gah h
theorem Jc {c:Bool} (hc:PE E z = .bool true) (hx:PE E x = .bool c):VRd P ⟨d,.pick z x y,ty,pos,aft,none⟩ E low loc (.bool c):=by
 have:=Gmg (P:=P) (E:=E) (low:=low) (loc:=loc) (d:=d) (ty:=ty) (pos:=pos) (aft:=aft) (gd:=none) (x:=x) (y:=y) hc
 rw [hx] at this;exact this
theorem Jd {c:Bool} (hc:PE E z = .bool false) (hy:PE E y = .bool c):VRd P ⟨d,.pick z x y,ty,pos,aft,none⟩ E low loc (.bool c):=by
 have:=Gmg (P:=P) (E:=E) (low:=low) (loc:=loc) (d:=d) (ty:=ty) (pos:=pos) (aft:=aft) (gd:=none) (x:=x) (y:=y) hc
 rw [hy] at this;exact this
theorem Xd {c:PV} {r v off len sz:Nat} {o:AObj} {es:List PV} (hc:c = .sl r v off len) (ho:Gbq low loc r o) (hv:o.ver=v) (hs:o.sz=sz) (hp:∀ e,e ∈ o.es→LtN 0 e) (he:(o.es.drop off).take len=es):View low loc c (.vs sz es):=by
 subst hc;subst hs
 exact .sl r v off len o ho hv hp es he
theorem Ua {c e:PV} (hc:c=e) (h:LtN 0 e):View low loc c e:=by subst hc;exact .same _ h

theorem Xe {c:PV} {r v off len sz:Nat} {o:AObj} {es:List PV} (hc:c = .sl r v off len) (hv:o.ver=v) (hs:o.sz=sz) (he:(o.es.drop off).take len=es):Cv r o c (.vs sz es):=by
 subst hc;subst hs;subst hv
 exact .sl off len es he
theorem Jq {c e:PV} {r:Nat} {o:AObj} (hc:c=e):Cv r o c e:=by subst hc;exact .refl _

theorem Jh {o:Oper} {v v':PV} (h:VRd P o E low loc v) (e:v=v'):VRd P o E low loc v':=e ▸ h
theorem Ga3 {o:Oper} {sz:Nat} (h:VRd P o E low loc .nils):VRd P o E low loc (.vs sz []):=fun g nt a w hr=>by
 obtain ⟨x,hx,hv⟩:=h g nt a w hr
 rw [hv.nils_inv] at hx
 exact ⟨_,hx,.imm (.vs0 sz none 0)⟩
theorem Go0 {op:Op} (elem sz:Nat) (hp:0<sz) (h:VRd P ⟨d,op,ty,pos,aft,none⟩ E low loc .nils) :
  VEf P ⟨d,op,ty,pos,aft,none⟩ E low loc fun v1 low1 loc1=>v1 = .sl (low.length+loc.length) 0 0 0∧low1=low∧loc1=loc++[⟨elem,sz,[],0⟩]:=by
 intro g nt a w hr Kr Qr hK
 obtain ⟨x,hx,hv⟩:=h g nt a w hr
 rw [hv.nils_inv] at hx
 unfold Oper.wp
 rw [hx]
 obtain ⟨hs,hm⟩:=hr.m.new0 elem sz hp
 have hsame:(g.push (low++loc).length none).β (low.length+loc.length)=none:=by rw [← List.length_append];exact Gh.push_same _ _ _
 have hget:(low++(loc++[⟨elem,sz,[],0⟩]))[low.length+loc.length]?=some ⟨elem,sz,[],0⟩:=by
  rw [← List.append_assoc,← List.length_append,List.getElem?_append_right (Nat.le_refl _)]
  simp
 exact hK _ _ (g.push (low++loc).length none) _ low (loc++[⟨elem,sz,[],0⟩]) ⟨rfl,rfl,rfl⟩ rfl (.sl _ _ _ _ _ _ hget (Nat.le_refl _) rfl fun _=>⟨Nat.le_refl _,by rw [hsame];exact ⟨rfl,rfl,_,rfl⟩⟩) (by rw [← List.append_assoc];exact hm) (by rw [← List.append_assoc];exact hs)
end
end Go.Aml
