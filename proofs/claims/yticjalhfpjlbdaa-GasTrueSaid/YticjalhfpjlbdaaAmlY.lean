/- The abstract memory logic, part Y: structs and arrays compared. -/
import Derived.Test.YticjalhfpjlbdaaAmlX
import Derived.Laws.StructEq
import Derived.ChangeKeysEq
namespace Go.Aml
open Go

theorem Xi {α β γ:Type} {f:α→γ} {g:β→γ} {a:α} {r:γ} (h:Sum.elim f g (Sum.inl a)=r):f a=r:=h
theorem Xj {α β γ:Type} {f:α→γ} {g:β→γ} {b:β} {r:γ} (h:Sum.elim f g (Sum.inr b)=r):g b=r:=h
def Gj8 (cs:List PV) (off n:Nat) (ag:Bool):Option PV:=bif ag then some (.agg ((cs.drop off).take n)) else cs[off]?

abbrev Gf1:=List (Nat×Nat×List (Nat×Nat×Bool×Nat))
def Gha:Gf1→Nat→Option (Nat×List (Nat×Nat×Bool×Nat))
 | [],_=>none
 | (t,x)::r,u=>bif Nat.beq t u then some x else Gha r u

def Ghb:Nat→PV→PV→Option Bool
 | 0,.bool a,.bool b=>some (a == b)
 | 1,.int k a,.int k' b=>if k=k' then some (a == b) else none
 | 2,.str a,.str b=>some (a.toList == b.toList)
 | _,_,_=>none
theorem Glg {x y:PV} {b:Bool} (h:Ghb 1 x y=some b):∃ k m n,x = .int k m∧y = .int k n∧b=(m == n):=by
 cases x with
 | int k m =>
  cases y with
  | int k' n =>
   have h:(if k=k' then some (m == n) else none)=some b:=h
   by_cases hkk:k=k'
   ·rw [if_pos hkk] at h
    injection h with h
    exact ⟨k,m,n,rfl,by rw [hkk],h.symm⟩
   ·rw [if_neg hkk] at h
    cases h
  | _=>cases h
 | _=>cases h
def Gi5 (rec:Nat→PV→PV→Option Bool) (cs ds:List PV):List (Nat×Nat×Bool×Nat)→Option Bool
 | []=>some true
 | (off,n,ag,ft)::r =>
  match Gj8 cs off n ag,Gj8 ds off n ag with
  | some a,some b =>
   match rec ft a b,Gi5 rec cs ds r with
   | some p,some q=>some (p&&q)
   | _,_=>none
  | _,_=>none
def eqV (tab:Gf1):Nat→Nat→PV→PV→Option Bool
 | 0,_,_,_=>none
 | d+1,t,x,y =>
  match Gha tab t with
  | some (3,fs) =>
   match x,y with
   | .agg cs,.agg ds=>Gi5 (eqV tab d) cs ds fs
   | _,_=>none
  | some (k,_)=>Ghb k x y
  | none=>none

def Gcs (P:Program):List Field→List (Nat×Nat×Bool×Nat)→Bool
 | [],[]=>true
 | f::fs,(off,n,ag,ft)::r=>f.name != "_"&&Nat.beq f.offset off&&Nat.beq f.type ft&&(Ws P ft == some ag)&&(Ut P ft == some n)&&Gcs P fs r
 | _,_=>false
def Gdj (P:Program) (e c:Nat):List Nat→List (Nat×Nat×Bool×Nat)→Bool
 | [],[]=>true
 | i::is,(off,n,ag,ft)::r=>Nat.beq (i*c) off&&Nat.beq e ft&&Nat.beq c n&&(Ws P ft == some ag)&&(Ut P ft == some n)&&Gdj P e c is r
 | _,_=>false
def Gqd (P:Program) (t:Nat):Nat×List (Nat×Nat×Bool×Nat)→Bool
 | (0,_)=>match P.underlying t with | some .bool=>true | _=>false
 | (1,_)=>match P.underlying t with | some (.int _)=>true | _=>false
 | (2,_)=>match P.underlying t with | some .string=>true | _=>false
 | (3,l)=>match P.underlying t with
  | some (.struct fs)=>!P.stoodInHeld t&&Gcs P fs.toList l
  | some (.array n e)=>(P.info? e).isSome&&Gdj P e (P.cellsOf e) (List.range n) l
  | _=>false
 | _=>false
def Ggd (P:Program) (tab:Gf1):Bool:=tab.all fun p=>Gqd P p.1 p.2

theorem Glh {tab:Gf1} {t:Nat} {x:Nat×List (Nat×Nat×Bool×Nat)} (h:Gha tab t=some x):(t,x) ∈ tab:=by
 induction tab with
 | nil=>cases h
 | cons p r ih =>
  obtain ⟨u,y⟩:=p
  unfold Gha at h
  cases hb:Nat.beq u t with
  | true =>
   rw [hb] at h
   have:=Nat.eq_of_beq_eq_true hb
   injection h with h
   subst this;subst h
   exact List.mem_cons_self
  | false =>
   rw [hb] at h
   exact List.mem_cons_of_mem _ (ih h)

section
variable {P:Program} {g:Gh} {H:List AObj} {w:World}

theorem Ge3 {cs:List PV} {xs:List Value} {off n ft:Nat} {ag:Bool} {a:PV} (hl:cs.length=xs.length) (hh:∀ (i:Nat) (c:PV) (y:Value),cs[i]?=some c→xs[i]?=some y→VR g H w c y) (hs:Gj8 cs off n ag=some a) (ha:Ws P ft=some ag) (hn:Ut P ft=some n) :
  ∃ x,(∀ w',(part ft xs.toArray off).run P w' = .ok x w')∧VR g H w a x:=by
 unfold Gj8 at hs
 cases ag with
 | true =>
  injection hs with hs
  subst hs
  refine ⟨.agg ((xs.drop off).take n).toArray,fun w'=>?_,.agg _ _ (by simp [hl]) fun i c y hc hy=>?_⟩
  ·simp [part,Gbb ha,Ww hn,List.extract_eq_take_drop,Nat.add_sub_cancel_left]
  ·rw [List.getElem?_take] at hc hy
   split at hc
   ·rename_i hi
    rw [if_pos hi] at hy
    rw [List.getElem?_drop] at hc hy
    exact hh _ c y hc hy
   ·simp at hc
 | false =>
  have hs:cs[off]?=some a:=hs
  have hq:off<xs.length:=by rw [← hl];exact (List.getElem?_eq_some_iff.1 hs).1
  exact ⟨xs[off],fun w'=>by simp [part,Gbb ha,hq],hh off a _ hs (List.getElem?_eq_getElem hq)⟩

theorem Ghc {rec:Nat→PV→PV→Option Bool} {d:Nat} {cs ds:List PV} {xs ys:List Value} (hl:cs.length=xs.length) (hh:∀ (i:Nat) (c:PV) (y:Value),cs[i]?=some c→xs[i]?=some y→VR g H w c y)
  (hl2:ds.length=ys.length) (hh2:∀ (i:Nat) (c:PV) (y:Value),ds[i]?=some c→ys[i]?=some y→VR g H w c y)
  (hrec:∀ (t:Nat) (x y:PV) (b:Bool),rec t x y=some b→∀ (u v:Value),VR g H w x u→VR g H w y v→(Op.equalIn d t u v).run P w = .ok b w) :
  ∀ (fs:List Field) (l:List (Nat×Nat×Bool×Nat)),Gcs P fs l=true→∀ b,Gi5 rec cs ds l=some b→(Op.eqFields d xs.toArray ys.toArray fs).run P w = .ok b w
 | [],[],_,b,h=>by
  injection h with h
  subst h
  simp [Op.eqFields]
 | [],_::_,h,_,_=>by cases h
 | _::_,[],h,_,_=>by cases h
 | f::fs,(off,n,ag,ft)::r,hok,b,h=>by
  simp only [Gcs,Bool.and_eq_true] at hok
  obtain ⟨⟨⟨⟨⟨h1,h2⟩,h3⟩,h4⟩,h5⟩,h6⟩:=hok
  have h2:=Nat.eq_of_beq_eq_true h2
  have h3:=Nat.eq_of_beq_eq_true h3
  subst h2;subst h3
  unfold Gi5 at h
  cases ha:Gj8 cs f.offset n ag with
  | none=>rw [ha] at h;cases h
  | some a =>
   cases hb:Gj8 ds f.offset n ag with
   | none=>rw [ha,hb] at h;cases h
   | some b' =>
    rw [ha,hb] at h
    cases hp:rec f.type a b' with
    | none=>simp only [hp] at h;cases h
    | some p =>
     cases hq:Gi5 rec cs ds r with
     | none=>simp only [hp,hq] at h;cases h
     | some q =>
      simp only [hp,hq] at h
      injection h with h
      subst h
      obtain ⟨x1,hx1,hx2⟩:=Ge3 hl hh ha (eq_of_beq h4) (eq_of_beq h5)
      obtain ⟨y1,hy1,hy2⟩:=Ge3 hl2 hh2 hb (eq_of_beq h4) (eq_of_beq h5)
      have hr:=hrec _ _ _ _ hp _ _ hx2 hy2
      have ih:=Ghc hl hh hl2 hh2 hrec fs r h6 q hq
      have hne:f.name≠ "_":=by simpa using h1
      simp only [Op.eqFields,if_pos hne,Sem.run_bind,hx1,hy1,Result.andThen_ok,hr]
      cases p with
      | true=>simpa using ih
      | false=>simp
theorem Gic {rec:Nat→PV→PV→Option Bool} {d e c:Nat} {cs ds:List PV} {xs ys:List Value} (hl:cs.length=xs.length) (hh:∀ (i:Nat) (c:PV) (y:Value),cs[i]?=some c→xs[i]?=some y→VR g H w c y)
  (hl2:ds.length=ys.length) (hh2:∀ (i:Nat) (c:PV) (y:Value),ds[i]?=some c→ys[i]?=some y→VR g H w c y)
  (hrec:∀ (t:Nat) (x y:PV) (b:Bool),rec t x y=some b→∀ (u v:Value),VR g H w x u→VR g H w y v→(Op.equalIn d t u v).run P w = .ok b w) :
  ∀ (is:List Nat) (l:List (Nat×Nat×Bool×Nat)),Gdj P e c is l=true→∀ b,Gi5 rec cs ds l=some b→(Op.eqItems d e c xs.toArray ys.toArray is).run P w = .ok b w
 | [],[],_,b,h=>by
  injection h with h
  subst h
  simp [Op.eqItems]
 | [],_::_,h,_,_=>by cases h
 | _::_,[],h,_,_=>by cases h
 | i::is,(off,n,ag,ft)::r,hok,b,h=>by
  simp only [Gdj,Bool.and_eq_true] at hok
  obtain ⟨⟨⟨⟨⟨h1,h2⟩,h3⟩,h4⟩,h5⟩,h6⟩:=hok
  have h1:=Nat.eq_of_beq_eq_true h1
  have h2:=Nat.eq_of_beq_eq_true h2
  have h3:=Nat.eq_of_beq_eq_true h3
  subst h1;subst h2;subst h3
  unfold Gi5 at h
  cases ha:Gj8 cs (i*c) c ag with
  | none=>rw [ha] at h;cases h
  | some a =>
   cases hb:Gj8 ds (i*c) c ag with
   | none=>rw [ha,hb] at h;cases h
   | some b' =>
    rw [ha,hb] at h
    cases hp:rec e a b' with
    | none=>simp only [hp] at h;cases h
    | some p =>
     cases hq:Gi5 rec cs ds r with
     | none=>simp only [hp,hq] at h;cases h
     | some q =>
      simp only [hp,hq] at h
      injection h with h
      subst h
      obtain ⟨x1,hx1,hx2⟩:=Ge3 hl hh ha (eq_of_beq h4) (eq_of_beq h5)
      obtain ⟨y1,hy1,hy2⟩:=Ge3 hl2 hh2 hb (eq_of_beq h4) (eq_of_beq h5)
      have hr:=hrec _ _ _ _ hp _ _ hx2 hy2
      have ih:=Gic hl hh hl2 hh2 hrec is r h6 q hq
      simp only [Op.eqItems,Sem.run_bind,hx1,hy1,Result.andThen_ok,hr]
      cases p with
      | true=>simpa using ih
      | false=>simp

theorem Ggf {tab:Gf1} (htab:Ggd P tab=true):∀ (d t:Nat) (x y:PV) (b:Bool),eqV tab d t x y=some b→∀ (u v:Value),VR g H w x u→VR g H w y v→(Op.equalIn d t u v).run P w = .ok b w
 | 0,_,_,_,_,h=>by cases h
 | d+1,t,x,y,b,h=>by
  intro u v hu hv
  unfold eqV at h
  cases hk:Gha tab t with
  | none=>rw [hk] at h;cases h
  | some k =>
   rw [hk] at h
   have hok:=List.all_eq_true.1 htab _ (Glh hk)
   obtain ⟨k,fs⟩:=k
   match k,hok,h with
   | 0,hok,h =>
    have h:Ghb 0 x y=some b:=h
    have hok:(match P.underlying t with | some .bool=>true | _=>false)=true:=hok
    have hP:P.underlying t=some .bool:=by split at hok <;> first | assumption | cases hok
    cases x <;> cases y <;> first | (cases h;done) | skip
    cases hu.bool_inv;cases hv.bool_inv
    injection h with h
    subst h
    exact run_equalIn_bool' w d t _ _ hP
   | 1,hok,h =>
    have h:Ghb 1 x y=some b:=h
    have hok:(match P.underlying t with | some (.int _)=>true | _=>false)=true:=hok
    have hP:∃ k,P.underlying t=some (.int k):=by split at hok <;> first | exact ⟨_,by assumption⟩ | cases hok
    obtain ⟨k0,hP⟩:=hP
    obtain ⟨kk,na,nb,rfl,rfl,rfl⟩:=Glg h
    rw [hu.int_inv,hv.int_inv]
    exact run_equalIn_int w d t _ k0 _ _ hP
   | 2,hok,h =>
    have h:Ghb 2 x y=some b:=h
    have hok:(match P.underlying t with | some .string=>true | _=>false)=true:=hok
    have hP:P.underlying t=some .string:=by split at hok <;> first | assumption | cases hok
    cases x <;> cases y <;> first | (cases h;done) | skip
    cases hu.str_inv;cases hv.str_inv
    injection h with h
    subst h
    exact run_equalIn_string w d t _ _ hP
   | 3,hok,h =>
    cases x with
    | agg cs =>
     cases y with
     | agg ds =>
      have h:Gi5 (eqV tab d) cs ds fs=some b:=h
      obtain ⟨xs,rfl,hl,hh⟩:=hu.agg_inv
      obtain ⟨ys,rfl,hl2,hh2⟩:=hv.agg_inv
      have hok:(match P.underlying t with
       | some (.struct fl)=>!P.stoodInHeld t&&Gcs P fl.toList fs
       | some (.array n e)=>(P.info? e).isSome&&Gdj P e (P.cellsOf e) (List.range n) fs
       | _=>false)=true:=hok
      split at hok
      ·rename_i fl hP
       simp only [Bool.and_eq_true,Bool.not_eq_true'] at hok
       have hfl:P.fieldsOf t=fl:=by unfold Program.fieldsOf;rw [hP]
       rw [run_equalIn_struct w d t _ _ (by rw [hfl];exact hP) hok.1,hfl]
       exact Ghc hl hh hl2 hh2 (fun t x y b hb=>Ggf htab d t x y b hb) fl.toList fs hok.2 b h
      ·rename_i n e hP
       simp only [Bool.and_eq_true] at hok
       obtain ⟨i,hi⟩:=Option.isSome_iff_exists.1 hok.1
       rw [run_equalIn_array w d _ _ hP hi]
       exact Gic hl hh hl2 hh2 (fun t x y b hb=>Ggf htab d t x y b hb) (List.range n) fs hok.2 b h
      ·cases hok
     | _=>cases h
    | _=>cases h
   | k+4,hok,_=>cases hok
end

section
variable {P:Program} {E:Env} {low loc:List AObj} {d:Option Nat} {ty:TypeId} {pos:String} {aft:Array Edge} {gd:Option (Nat×Bool)} {t yt:TypeId} {x y:Operand}
theorem Gix {tab:Gf1} (htab:Ggd P tab=true) {cs ds:List PV} {b:Bool} (hx:PE E x = .agg cs) (hy:PE E y = .agg ds) (hg:P.eqGuardType P.depth t=false) (h:eqV tab 10000 t (.agg cs) (.agg ds)=some b) :
  VRd P ⟨d,.binOp .eql t x y yt,ty,pos,aft,gd⟩ E low loc (.bool b):=by
 intro g nt a w hr
 have h1:=hx ▸ hr.e.eval x
 have h2:=hy ▸ hr.e.eval y
 obtain ⟨xs,hxs,_⟩:=h1.agg_inv
 obtain ⟨ys,hys,_⟩:=h2.agg_inv
 have hr':=Ggf (w:=w) htab 10000 t _ _ b h _ _ h1 h2
 refine ⟨.bool b,?_,.imm (.bool b)⟩
 rw [hxs,hys] at hr'
 simp only [execOp,hxs,hys]
 simp [run_eqGuard_agg w .eql t x y xs.toArray ys.toArray hg,run_eql_struct,hr']
theorem Gp2 {tab:Gf1} (htab:Ggd P tab=true) {cs ds:List PV} {b:Bool} (hx:PE E x = .agg cs) (hy:PE E y = .agg ds) (hg:P.eqGuardType P.depth t=false) (h:eqV tab 10000 t (.agg cs) (.agg ds)=some b) :
  VRd P ⟨d,.binOp .neq t x y yt,ty,pos,aft,gd⟩ E low loc (.bool (!b)):=by
 intro g nt a w hr
 have h1:=hx ▸ hr.e.eval x
 have h2:=hy ▸ hr.e.eval y
 obtain ⟨xs,hxs,_⟩:=h1.agg_inv
 obtain ⟨ys,hys,_⟩:=h2.agg_inv
 have hr':=Ggf (w:=w) htab 10000 t _ _ b h _ _ h1 h2
 refine ⟨.bool (!b),?_,.imm (.bool _)⟩
 rw [hxs,hys] at hr'
 simp only [execOp,hxs,hys]
 simp [run_eqGuard_agg w .neq t x y xs.toArray ys.toArray hg,run_neq_struct,hr']
end
end Go.Aml
