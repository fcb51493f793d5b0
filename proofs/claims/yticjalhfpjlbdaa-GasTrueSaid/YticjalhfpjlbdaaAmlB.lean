/- The abstract memory logic, part B: what a piece of code does to abstract states; the rules for control. -/
import Derived.Test.YticjalhfpjlbdaaAmlA
import Derived.Deep.LoopGhost
namespace Go.Aml
open Go

abbrev Gel:=Env→List AObj→List AObj→Prop
abbrev Xt:=Exit→Gel

def Gau (nt n:Nat) (g0:Gh) (H0:List AObj) (w0:World) (K:Gel) (a:Act) (w:World):Prop :=
 ∃ E low loc g,K E low loc∧low.length=n∧Rel g nt n E (low++loc) a w∧GStep n g0 H0 w0 g (low++loc) w

def Lift (nt n:Nat) (g0:Gh) (H0:List AObj) (w0:World) (Q:Xt):Exit→Act→World→Prop
 | .panic _,_,_=>False
 | .outgrown,_,_=>False
 | .normal,a,w=>Gau nt n g0 H0 w0 (Q .normal) a w
 | .ret,a,w=>Gau nt n g0 H0 w0 (Q .ret) a w
 | .exit id,a,w=>Gau nt n g0 H0 w0 (Q (.exit id)) a w
 | .goto l,a,w=>Gau nt n g0 H0 w0 (Q (.goto l)) a w

theorem Gau.trans {nt n:Nat} {g0 g1:Gh} {H0 H1:List AObj} {w0 w1:World} {K:Gel} {a:Act} {w:World} (hs:GStep n g0 H0 w0 g1 H1 w1) (h:Gau nt n g1 H1 w1 K a w):Gau nt n g0 H0 w0 K a w:=by
 obtain ⟨E,low,loc,g,hk,hl,hr,hst⟩:=h
 exact ⟨E,low,loc,g,hk,hl,hr,hs.trans hst⟩
theorem Lift.trans {nt n:Nat} {g0 g1:Gh} {H0 H1:List AObj} {w0 w1:World} {Q:Xt} {e:Exit} {a:Act} {w:World} (hs:GStep n g0 H0 w0 g1 H1 w1) (h:Lift nt n g1 H1 w1 Q e a w):Lift nt n g0 H0 w0 Q e a w:=by
 cases e <;> first | exact Gau.trans hs h | exact h
theorem Gau.mono {nt n:Nat} {g0:Gh} {H0:List AObj} {w0:World} {K K':Gel} {a:Act} {w:World} (hk:∀ E low loc,K E low loc→K' E low loc) (h:Gau nt n g0 H0 w0 K a w):Gau nt n g0 H0 w0 K' a w:=by
 obtain ⟨E,low,loc,g,hk',hl,hr,hst⟩:=h
 exact ⟨E,low,loc,g,hk _ _ _ hk',hl,hr,hst⟩

def VWp (P:Program) (nt:Nat) (c:Code) (Q:Xt) (E:Env) (low loc:List AObj):Prop :=
 ∀ g a w,Rel g nt low.length E (low++loc) a w→∀ Qr:Exit→Act→World→Prop,(∀ e a' w',Lift nt low.length g (low++loc) w Q e a' w'→Qr e a' w')→c.wp P Qr a w

def Ga1 (P:Program) (nt:Nat) (all:Array Oper) (rest:List Oper) (Q:Xt) (E:Env) (low loc:List AObj):Prop :=
 ∀ g a w,Rel g nt low.length E (low++loc) a w→∀ Qr:Exit→Act→World→Prop,(∀ e a' w',Lift nt low.length g (low++loc) w Q e a' w'→Qr e a' w')→wpList P all Qr rest a w

@[reducible] def Then (K:Gel) (Q:Xt):Xt
 | .normal=>K
 | .exit id=>Q (.exit id)
 | .goto l=>Q (.goto l)
 | .ret=>Q .ret
 | .panic c=>Q (.panic c)
 | .outgrown=>Q .outgrown

@[reducible] def InBlk (id:Nat) (Q:Xt):Xt
 | .exit id'=>bif Nat.beq id' id then Q .normal else Q (.exit id')
 | .normal=>Q .normal
 | .goto l=>Q (.goto l)
 | .ret=>Q .ret
 | .panic c=>Q (.panic c)
 | .outgrown=>Q .outgrown

section
variable {P:Program} {nt:Nat} {Q:Xt} {E:Env} {low loc:List AObj}

theorem Rel.len {g:Gh} {n:Nat} {H:List AObj} {a:Act} {w:World} (h:Rel g nt n E H a w) {m:Nat} (e:m=n):Rel g nt m E H a w:=e ▸ h

theorem VWp.mono {c:Code} {Q':Xt} (hq:∀ e E low loc,Q e E low loc→Q' e E low loc) (h:VWp P nt c Q E low loc):VWp P nt c Q' E low loc :=
 fun g a w hr Qr hQ=>h g a w hr Qr fun e a' w' hl=>hQ e a' w' (by cases e <;> first | exact Gau.mono (hq _) hl | exact hl)

theorem Gf {x y:Code} (h:VWp P nt x (Then (VWp P nt y Q) Q) E low loc):VWp P nt (.seq x y) Q E low loc:=by
 intro g a w hr Qr hQ
 refine wp_seq (h g a w hr _ ?_)
 intro e a' w' hl
 cases e with
 | normal =>
  obtain ⟨E',low',loc',g',hk,hlen,hrel,hst⟩:=hl
  exact hk g' a' w' (hrel.len hlen) Qr fun e a'' w'' hl'=>hQ e a'' w'' (Lift.trans hst (hlen ▸ hl'))
 | exit id=>exact hQ _ _ _ hl
 | goto l=>exact hQ _ _ _ hl
 | ret=>exact hQ _ _ _ hl
 | panic c=>exact hl.elim
 | outgrown=>exact hl.elim

theorem Gx (h:Q .normal E low loc):VWp P nt .skip Q E low loc :=
 fun g _ _ hr _ hQ=>wp_skip (hQ .normal _ _ ⟨E,low,loc,g,h,rfl,hr,GStep.refl _ _ _ _⟩)
theorem Jl (h:Q .ret E low loc):VWp P nt .ret Q E low loc :=
 fun g _ _ hr _ hQ=>wp_ret (hQ .ret _ _ ⟨E,low,loc,g,h,rfl,hr,GStep.refl _ _ _ _⟩)
theorem Kj {id:Nat} (h:Q (.exit id) E low loc):VWp P nt (.exit id) Q E low loc :=
 fun g _ _ hr _ hQ=>wp_exit (hQ (.exit id) _ _ ⟨E,low,loc,g,h,rfl,hr,GStep.refl _ _ _ _⟩)
theorem Jb {id:Nat} {c:Code} (h:VWp P nt c (InBlk id Q) E low loc):VWp P nt (.block id c) Q E low loc:=by
 intro g a w hr Qr hQ
 refine wp_block (h g a w hr _ ?_)
 intro e a' w' hl
 cases e with
 | exit id' =>
  simp only [Lift,InBlk] at hl
  by_cases he:id'=id
  ·have hb:Nat.beq id' id=true:=by rw [he];exact Nat.beq_refl id
   rw [hb] at hl
   simp only [Exit.inBlock,he,if_true]
   exact hQ .normal _ _ hl
  ·have hb:Nat.beq id' id=false:=by
    cases hh:Nat.beq id' id with
    | false=>rfl
    | true=>exact absurd (Nat.eq_of_beq_eq_true hh) he
   rw [hb] at hl
   simp only [Exit.inBlock,he,if_false]
   exact hQ (.exit id') _ _ hl
 | normal=>exact hQ _ _ _ hl
 | goto l=>exact hQ _ _ _ hl
 | ret=>exact hQ _ _ _ hl
 | panic c=>exact hl.elim
 | outgrown=>exact hl.elim

theorem Gv {c:Operand} {x y:Code} {b:Bool} (hc:PE E c = .bool b) (ht:b=true→VWp P nt x Q E low loc) (hf:b=false→VWp P nt y Q E low loc):VWp P nt (.cond c x y) Q E low loc:=by
 intro g a w hr Qr hQ
 have hv:=hr.e.eval c
 rw [hc] at hv
 have he:a.eval c = .bool b:=by
  generalize a.eval c=z at hv
  cases hv with
  | imm h=>cases h;rfl
 exact wp_cond_split he (fun e=>ht e g a w hr Qr hQ) (fun e=>hf e g a w hr Qr hQ)

theorem Gop {α:Type} {c:Code} (I:α→Gel) (μ:α→Nat) (x0:α) (h0:I x0 E low loc)
  (round:∀ x E low loc,I x E low loc→VWp P nt c (Then (fun E' low' loc'=>∃ y,μ y<μ x∧I y E' low' loc') Q) E low loc):VWp P nt (.loop c) Q E low loc:=by
 intro g a w hr Qr hQ
 refine wp_loop_ghost (fun k a' w'=>∃ x,μ x=k∧Gau nt low.length g (low++loc) w (I x) a' w') (μ x0) ⟨x0,rfl,E,low,loc,g,h0,rfl,hr,GStep.refl _ _ _ _⟩ ?_
 rintro k a' w' ⟨x,rfl,E',low',loc',g',hI,hlen,hrel,hst⟩
 refine round x E' low' loc' hI g' a' w' (hrel.len hlen) _ ?_
 intro e a'' w'' hl
 cases e with
 | normal =>
  obtain ⟨E'',low'',loc'',g'',⟨y,hy,hIy⟩,hlen',hrel',hst'⟩:=hl
  exact ⟨μ y,hy,y,rfl,E'',low'',loc'',g'',hIy,hlen'.trans hlen,hrel'.len hlen.symm,hst.trans (hlen ▸ hst')⟩
 | exit id=>exact hQ _ _ _ (Lift.trans (Q:=Q) (e:=.exit id) hst (hlen ▸ hl))
 | goto l=>exact hQ _ _ _ (Lift.trans (Q:=Q) (e:=.goto l) hst (hlen ▸ hl))
 | ret=>exact hQ _ _ _ (Lift.trans (Q:=Q) (e:=.ret) hst (hlen ▸ hl))
 | panic c=>exact hl.elim
 | outgrown=>exact hl.elim

def At (E':Env) (low' loc':List AObj):Gel:=fun E low loc=>Gnb E' E∧low=low'∧loc=loc'

/-! ### regions that do not draw -/

theorem Gc {id:Nat} {l:List Oper} (h:Ga1 P nt l.toArray l Q E low loc):VWp P nt (.region id l.toArray false) Q E low loc :=
 fun g a w hr Qr hQ=>wp_region_lit (h g a w hr Qr hQ)

theorem Ge {all:Array Oper} (h:Q .normal E low loc):Ga1 P nt all [] Q E low loc :=
 fun g a w hr _ hQ=>wpList_nil (hQ .normal a w ⟨E,low,loc,g,h,rfl,hr,GStep.refl _ _ _ _⟩)

def VOp (P:Program) (nt:Nat) (o:Oper) (K:Gel) (E:Env) (low loc:List AObj):Prop :=
 ∀ g a w,Rel g nt low.length E (low++loc) a w→∀ (Kr:Act→World→Prop) (Qr:Exit→Act→World→Prop),(∀ a' w',Gau nt low.length g (low++loc) w K a' w'→Kr a' w')→o.wp P a w Kr Qr

theorem Gmh {all:Array Oper} {rest:List Oper} {o:Oper} {K:Gel} (hg:o.guard=none) (h:VOp P nt o K E low loc) (hk:∀ E' low' loc',K E' low' loc'→Ga1 P nt all rest Q E' low' loc'):Ga1 P nt all (o::rest) Q E low loc:=by
 intro g a w hr Qr hQ
 refine wpList_plain hg fun Kr hKr=>h g a w hr Kr Qr ?_
 rintro a' w' ⟨E',low',loc',g',hK,hlen,hrel,hst⟩
 exact hKr a' w' (hk E' low' loc' hK g' a' w' (hrel.len hlen) Qr fun e a'' w'' hl=>hQ e a'' w'' (Lift.trans hst (hlen ▸ hl)))

def VRd (P:Program) (o:Oper) (E:Env) (low loc:List AObj) (v:PV):Prop :=
 ∀ g nt a w,Rel g nt low.length E (low++loc) a w→∃ x,(execOp a.eval o).run P w = .ok (.value x) w∧VR g (low++loc) w v x

theorem Gr5 {o:Oper} {v:PV} (hd:Gcc nt o.dst=true) (h:VRd P o E low loc v):VOp P nt o (fun E' low' loc'=>E'=Gas E o.dst v∧low'=low∧loc'=loc) E low loc:=by
 intro g a w hr Kr Qr hK
 obtain ⟨x,hx,hv⟩:=h g nt a w hr
 unfold Oper.wp
 rw [hx]
 exact hK _ _ ⟨_,low,loc,g,⟨rfl,rfl,rfl⟩,rfl,⟨hr.m,hr.e.putO hd hv⟩,GStep.refl _ _ _ _⟩

theorem Ga {all:Array Oper} {rest:List Oper} {d:Option Nat} {op:Op} {ty:TypeId} {pos:String} {aft:Array Edge} {v:PV} (h:VRd P ⟨d,op,ty,pos,aft,none⟩ E low loc v) (hd:Gcc nt d=true)
  (hk:Ga1 P nt all rest Q (Gas E d v) low loc):Ga1 P nt all (⟨d,op,ty,pos,aft,none⟩::rest) Q E low loc :=
 Gmh rfl (Gr5 hd h) (by rintro E' low' loc' ⟨rfl,rfl,rfl⟩;exact hk)

theorem Gd {all:Array Oper} {rest:List Oper} {d:Option Nat} {op:Op} {ty:TypeId} {pos:String} {aft:Array Edge} {j:Nat} {want b:Bool} {t:Nat}
  (hj:(all[j]?).bind (·.dst)=some t) (ht:look E t = .bool b) (hb:b≠want) (hd:Gcc nt d=true)
  (hk:Ga1 P nt all rest Q (Gas E d (.tup [])) low loc):Ga1 P nt all (⟨d,op,ty,pos,aft,some (j,want)⟩::rest) Q E low loc:=by
 intro g a w hr Qr hQ
 have hv:=hr.e.at_ t
 rw [ht] at hv
 have he:a.tmps.getD t undef = .bool b:=by
  cases hv with
  | imm h=>generalize a.tmps.getD t undef=z at h;cases h;rfl
 have hy:yielded all a.tmps j=some b:=by
  unfold yielded
  rw [hj]
  simp only [Option.bind_some]
  rcases Nat.lt_or_ge t a.tmps.size with hlt | hge
  ·simp [hlt] at he
   simp [hlt,he]
  ·simp [Array.getElem?_eq_none hge,undef] at he
 refine wpList_step fun K hK=>?_
 have hw:Region.wanted (⟨d,op,ty,pos,aft,some (j,want)⟩:Oper) (yielded all a.tmps)=false:=by
  simp [Region.wanted,hy]
  exact hb
 rw [hw]
 simp only [Bool.false_eq_true,if_false]
 exact hK _ _ (hk g _ w ⟨hr.m,hr.e.putO hd (.imm (.tup [] [] rfl (by simp)))⟩ Qr hQ)

theorem Us {all:Array Oper} {rest:List Oper} {d:Option Nat} {op:Op} {ty:TypeId} {pos:String} {aft:Array Edge} {j:Nat} {want:Bool} {t:Nat}
  (hj:(all[j]?).bind (·.dst)=some t) (ht:look E t = .tup []) (hd:Gcc nt d=true)
  (hk:Ga1 P nt all rest Q (Gas E d (.tup [])) low loc):Ga1 P nt all (⟨d,op,ty,pos,aft,some (j,want)⟩::rest) Q E low loc:=by
 intro g a w hr Qr hQ
 have hv:=hr.e.at_ t
 rw [ht] at hv
 have he:a.tmps.getD t undef = .tuple #[]:=by
  generalize a.tmps.getD t undef=z at hv
  cases hv with
  | imm h =>
   cases h with
   | tup _ xs hl _ =>
    have:xs=[]:=List.eq_nil_of_length_eq_zero (by rw [← hl];rfl)
    rw [this]
  | tup _ xs hl _ =>
   have:xs=[]:=List.eq_nil_of_length_eq_zero (by rw [← hl];rfl)
   rw [this]
 have hy:yielded all a.tmps j=none:=by
  unfold yielded
  rw [hj]
  simp only [Option.bind_some]
  rcases Nat.lt_or_ge t a.tmps.size with hlt | hge
  ·simp [hlt] at he
   simp [hlt,he]
  ·simp [Array.getElem?_eq_none hge]
 refine wpList_step fun K hK=>?_
 have hw:Region.wanted (⟨d,op,ty,pos,aft,some (j,want)⟩:Oper) (yielded all a.tmps)=false:=by
  simp [Region.wanted,hy]
 rw [hw]
 simp only [Bool.false_eq_true,if_false]
 exact hK _ _ (hk g _ w ⟨hr.m,hr.e.putO hd (.imm (.tup [] [] rfl (by simp)))⟩ Qr hQ)

theorem Wh {all:Array Oper} {rest:List Oper} {d:Option Nat} {op:Op} {ty:TypeId} {pos:String} {aft:Array Edge} {j:Nat} {want:Bool} {t:Nat}
  (hj:(all[j]?).bind (·.dst)=some t) (ht:look E t = .bool want)
  (hk:Ga1 P nt all (⟨d,op,ty,pos,aft,none⟩::rest) Q E low loc):Ga1 P nt all (⟨d,op,ty,pos,aft,some (j,want)⟩::rest) Q E low loc:=by
 intro g a w hr Qr hQ
 have hv:=hr.e.at_ t
 rw [ht] at hv
 have he:a.tmps.getD t undef = .bool want:=by
  cases hv with
  | imm h=>generalize a.tmps.getD t undef=z at h;cases h;rfl
 have hy:yielded all a.tmps j=some want:=by
  unfold yielded
  rw [hj]
  simp only [Option.bind_some]
  rcases Nat.lt_or_ge t a.tmps.size with hlt | hge
  ·simp [hlt] at he
   simp [hlt,he]
  ·simp [Array.getElem?_eq_none hge,undef] at he
 have hw:Region.wanted (⟨d,op,ty,pos,aft,some (j,want)⟩:Oper) (yielded all a.tmps)=true:=by
  simp [Region.wanted,hy]
 have:=hk g a w hr Qr hQ
 unfold wpList at this ⊢
 rw [hw]
 simp only [Region.wanted,if_true] at this ⊢
 exact this

def VEf (P:Program) (o:Oper) (E:Env) (low loc:List AObj) (K:PV→List AObj→List AObj→Prop):Prop :=
 ∀ g nt a w,Rel g nt low.length E (low++loc) a w→∀ (Kr:Act→World→Prop) (Qr:Exit→Act→World→Prop),
  (∀ x w' g' v low' loc',K v low' loc'→low'.length=low.length→VR g' (low'++loc') w' v x→RelM g' low.length (low'++loc') w'→GStep (low++loc).length g (low++loc) w g' (low'++loc') w'→Kr (a.put o.dst x) w')→o.wp P a w Kr Qr

theorem Gp8 {all:Array Oper} {rest:List Oper} {d:Option Nat} {op:Op} {ty:TypeId} {pos:String} {aft:Array Edge} {K:PV→List AObj→List AObj→Prop} (h:VEf P ⟨d,op,ty,pos,aft,none⟩ E low loc K) (hd:Gcc nt d=true)
  (hk:∀ v low' loc',K v low' loc'→Ga1 P nt all rest Q (Gas E d v) low' loc'):Ga1 P nt all (⟨d,op,ty,pos,aft,none⟩::rest) Q E low loc:=by
 refine Gmh (K:=fun E1 low1 loc1=>∃ v,E1=Gas E d v∧K v low1 loc1) rfl ?_ (by rintro _ _ _ ⟨v,rfl,h⟩;exact hk _ _ _ h)
 intro g a w hr Kr Qr hK
 refine h g nt a w hr Kr Qr ?_
 intro x w' g' v low' loc' hKv hlen hv hm hs
 exact hK _ _ ⟨_,low',loc',g',⟨v,rfl,hKv⟩,hlen,⟨hm,(hr.e.step hs).putO hd hv⟩,hs.less (by simp)⟩

end
end Go.Aml
