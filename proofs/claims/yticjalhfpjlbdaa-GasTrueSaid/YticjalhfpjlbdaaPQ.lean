/- What the functions yield, plain: the laws. -/
import Derived.Test.YticjalhfpjlbdaaPDrawB16
import Derived.Test.YticjalhfpjlbdaaLLib
/- Mines that are drawn: that they are made at all, and of what form they are. -/
namespace Go.L
open Go Go.Aml

def Gkc (n:Nat) (r:Tae):Prop:=0≤r.From∧r.From<(n:Int)∧0≤r.To∧r.To<(n:Int)
structure MnOk (m:Tah):Prop where
 p1:1≤m.Places.length
 p2:m.Places.length≤12
 r1:m.Roads.length≤20
 rd:∀ r ∈ m.Roads,Gkc m.Places.length r
def Gs2 (l:List Int):Prop:=∀ q ∈ l,-1000≤q∧q≤1000
def Gs3 (l:List Tam):Prop:=1≤l.length∧l.length≤5∧∀ p ∈ l,-1000≤p.Flow∧p.Flow≤1000

theorem Gbl {α:Type} {l:List α} {a x:α} (h:x ∈ l++[a]):x ∈ l∨x=a:=by
 rcases List.mem_append.1 h with h | h
 ·exact .inl h
 ·exact .inr (by simpa using h)
def Gs4 (d:Tai):Prop:=1≤d.Rests.length∧d.Rests.length≤4
structure EqOk (a:Taj) (s:Taf):Prop where
 f1:a.Fans.length≤2
 f2:s.Fans.length=a.Fans.length
 f3:∀ f ∈ a.Fans,Gs3 f.Curve
 d1:a.Doors.length≤2
 d2:s.Doors.length=a.Doors.length
 d3:∀ d ∈ a.Doors,Gs4 d
theorem Gr7 {v:Int} {n:Nat} (h0:0≤v) (hn:1≤n):Gi4 v (n:Int)=some (v.tmod n)∧0≤v.tmod n∧v.tmod n<(n:Int):=by
 obtain ⟨h1,h2⟩:=Gmi (n:=(n:Int)) h0 (by omega)
 exact ⟨Ge5 (by omega),h1,h2⟩
structure MdS (n:Nat) (net:List Int) (a:Taj) (x:Tan) (c:Tab) (b k:Nat):Prop where
 ne:net.length=n
 nb:∀ q ∈ net,-(120*(b:Int))≤q∧q≤120*(b:Int)
 pl:a.Mine.Places.length=n
 rl:a.Mine.Roads.length≤k
 rd:∀ r ∈ a.Mine.Roads,Gkc n r
 fl:x.Flows.length=a.Mine.Roads.length
 fb:Gs2 x.Flows
 pr:x.Pressures.length=n
 hc:Ul c
def Gth (l:List Taa) (f:List Int):Prop:=l.length=f.length∧∀ (i:Nat) (s:Taa) (q:Int),l[i]?=some s→f[i]?=some q→s.Low≤q∧q≤s.High ∧ -2000≤s.Low∧s.High≤2000
structure AirOk (r:Taj×List Taa×List Int):Prop where
 m:MnOk r.1.Mine
 f:r.2.2.length=r.1.Mine.Roads.length
 s:Gth r.2.1 r.2.2
 b:Gs2 r.2.2

theorem Go4 {α σ S ρ:Type} (l:List α) (st:σ→α→σ) (mk:Int→σ→S) (fin:σ→ρ) {g:S→Option (S⊕ρ)} (I:Nat→σ→Prop)
  (h:∀ (i:Nat) (x:α) (s:σ),l[i]?=some x→I i s→g (mk i s)=some (.inl (mk ((i:Int)+1) (st s x)))∧I (i+1) (st s x))
  (hend:∀ s,I l.length s→g (mk (l.length:Int) s)=some (.inr (fin s))) (s:σ) (h0:I 0 s):Sb g (mk 0 s)=some (fin (l.foldl st s))∧I l.length (l.foldl st s):=by
 have key:∀ (m i:Nat) (s:σ),i+m=l.length→I i s→Sb g (mk (i:Int) s)=some (fin ((l.drop i).foldl st s))∧I l.length ((l.drop i).foldl st s):=by
  intro m
  induction m with
  | zero =>
   intro i s hi hI
   have:i=l.length:=by omega
   subst this
   rw [Zv (hend s hI),List.drop_length]
   exact ⟨rfl,hI⟩
  | succ m ih =>
   intro i s hi hI
   have hx:i<l.length:=by omega
   obtain ⟨h1,h2⟩:=h i _ s (List.getElem?_eq_getElem hx) hI
   rw [Gbc h1,show ((i:Int)+1)=((i+1:Nat):Int) by omega]
   obtain ⟨h3,h4⟩:=ih (i+1) _ (by omega) h2
   rw [List.drop_eq_getElem_cons hx,List.foldl_cons]
   exact ⟨h3,h4⟩
 have:=key l.length 0 s (by omega) h0
 rwa [List.drop_zero] at this
theorem Gif {α β:Type} (f:α→List β):∀ (l:List α) (o:List β),l.foldl (fun o x=>o++f x) o=o++l.flatMap f
 | [],o=>by simp
 | x::l,o=>by rw [List.foldl_cons,Gif f l,List.flatMap_cons,List.append_assoc]
theorem Gqk {α β:Type} (l:List α) (f:α→List β) {g:Int×List β→Option ((Int×List β)⊕List β)} (hf:∀ x ∈ l,(f x).length≤2)
  (h:∀ (i:Nat) (x:α) (out:List β),l[i]?=some x→out.length≤2*i→g ((i:Int),out)=some (.inl ((i:Int)+1,out++f x)))
  (hend:∀ out,g ((l.length:Int),out)=some (.inr out)):Sb g (0,[])=some (l.flatMap f)∧(l.flatMap f).length≤2*l.length:=by
 have:=Go4 l (fun (o:List β) x=>o++f x) (fun i o=>((i,o):Int×List β)) id (g:=g) (fun i o=>o.length≤2*i) (fun i x o hx hI=>⟨h i x o hx hI,by
  have:=hf x (List.mem_of_getElem? hx)
  rw [List.length_append];omega⟩) (fun o _=>hend o) [] (by simp)
 rw [Gif,List.nil_append] at this
 exact this

/-! ### what is right of a mine -/
def Ge7 (p:Tac):Bool:=decide (p.Height < -10000∨10000<p.Height)
def Gcn (s:Taa) (a b:Int):Bool:=decide (a≤s.Low∧s.Low≤s.High∧s.High≤b)
def Gdl (n:Int) (r:Tae):Int :=
 if r.From<0∨n≤r.From∨r.To<0∨n≤r.To∨r.From=r.To then 4
 else if r.Length<1∨100000<r.Length∨r.Area<1∨1000<r.Area∨Gcn r.Rest 1 262144=false∨Gcn r.Lift (-2199023255552) 2199023255552=false then 1 else 0
def Yi {α:Type} (e:α→Int):List α→Int
 | []=>0
 | x::l=>if e x=0 then Yi e l else e x
def Gbm (m:Tah):Int :=
 if 64<(m.Places.length:Int)∨128<(m.Roads.length:Int) then 2 else if m.Places.all (fun p=>!Ge7 p) then Yi (Gdl m.Places.length) m.Roads else 1
theorem Ge8 {α:Type} (l:List α) (bad:α→Bool) {g:Int→Option (Int⊕(Unit⊕Unit))} (h:∀ (i:Nat) (x:α),l[i]?=some x→g (i:Int)=bif bad x then some (.inr (.inl ())) else some (.inl ((i:Int)+1)))
  (hend:g (l.length:Int)=some (.inr (.inr ()))):Sb g 0=some (if l.all (fun x=>!bad x) then .inr () else .inl ()):=by
 have key:∀ (m i:Nat),i+m=l.length→Sb g (i:Int)=some (if (l.drop i).all (fun x=>!bad x) then .inr () else .inl ()):=by
  intro m
  induction m with
  | zero =>
   intro i hi
   have:i=l.length:=by omega
   subst this
   rw [Zv hend,List.drop_length]
   rfl
  | succ m ih =>
   intro i hi
   have hx:i<l.length:=by omega
   have h1:=h i _ (List.getElem?_eq_getElem hx)
   rw [List.drop_eq_getElem_cons hx,List.all_cons]
   cases hb:bad l[i] with
   | true=>rw [hb] at h1;rw [Zv h1];rfl
   | false =>
    rw [hb] at h1
    rw [Gbc h1,show ((i:Int)+1)=((i+1:Nat):Int) by omega,ih (i+1) (by omega),Bool.not_false,Bool.true_and]
 have:=key l.length 0 (by omega)
 rwa [List.drop_zero] at this
theorem Gc1 {α:Type} (l:List α) (e:α→Int) {g:Int→Option (Int⊕(Int⊕Unit))} (h:∀ (i:Nat) (x:α),l[i]?=some x→g (i:Int)=if e x=0 then some (.inl ((i:Int)+1)) else some (.inr (.inl (e x))))
  (hend:g (l.length:Int)=some (.inr (.inr ()))):Sb g 0=some (if Yi e l=0 then .inr () else .inl (Yi e l)):=by
 have key:∀ (m i:Nat),i+m=l.length→Sb g (i:Int)=some (if Yi e (l.drop i)=0 then .inr () else .inl (Yi e (l.drop i))):=by
  intro m
  induction m with
  | zero =>
   intro i hi
   have:i=l.length:=by omega
   subst this
   rw [Zv hend,List.drop_length]
   rfl
  | succ m ih =>
   intro i hi
   have hx:i<l.length:=by omega
   have h1:=h i _ (List.getElem?_eq_getElem hx)
   rw [List.drop_eq_getElem_cons hx]
   unfold Yi
   by_cases he:e l[i]=0
   ·rw [if_pos he] at h1 ⊢
    rw [Gbc h1,show ((i:Int)+1)=((i+1:Nat):Int) by omega,ih (i+1) (by omega)]
   ·rw [if_neg he] at h1 ⊢
    rw [Zv h1,if_neg he]
 have:=key l.length 0 (by omega)
 rwa [List.drop_zero] at this
theorem Ge9 (s:Taa) (a b:Int):Fd6 s a b=some (Gcn s a b)∧Fdc s a b=some (Gcn s a b):=by
 have:(bif decide (a≤s.Low) then bif decide (s.Low≤s.High) then some (decide (s.High≤b)) else some false else some false)=some (Gcn s a b):=Ge6 (Ge6 rfl)
 exact ⟨this,this⟩
theorem Gml {n:Int} {r:Tae} {β:Type} {i:β}:(bif decide (r.From<0∨n≤r.From∨r.To<0∨n≤r.To∨r.From=r.To) then some (Sum.inr (Sum.inl (4:Int))) else
  bif decide (r.Length<1∨100000<r.Length∨r.Area<1∨1000<r.Area∨Gcn r.Rest 1 262144=false∨Gcn r.Lift (-2199023255552) 2199023255552=false) then some (Sum.inr (Sum.inl (1:Int))) else some (Sum.inl i):Option (β⊕(Int⊕Unit))) =
  if Gdl n r=0 then some (.inl i) else some (.inr (.inl (Gdl n r))):=by
 unfold Gdl
 by_cases h1:r.From<0∨n≤r.From∨r.To<0∨n≤r.To∨r.From=r.To
 ·rw [Sj h1,if_pos h1,if_neg (by decide)]
 ·rw [Kg h1,if_neg h1]
  by_cases h2:r.Length<1∨100000<r.Length∨r.Area<1∨1000<r.Area∨Gcn r.Rest 1 262144=false∨Gcn r.Lift (-2199023255552) 2199023255552=false
  ·rw [Sj h2,if_pos h2,if_neg (by decide)]
  ·rw [Kg h2,if_neg h2,if_pos rfl]
theorem Gkd {b:Bool}:(some (!b):Option Bool)=some (decide (b=false)):=by cases b <;> rfl
theorem Gke {b:Bool} {x y:Option Bool}:(bif !b then x else y)=bif decide (b=false) then x else y:=by cases b <;> rfl
theorem Gd1 (m:Tah) (hr:m.Roads.length≤1000000000∧m.Places.length≤1000000000):Fdf m=some (Gbm m)∧Fcq m=some (Gbm m):=by
 obtain ⟨hr,hp⟩:=hr
 have a1:Sb (Fca m) 0=some (if m.Places.all (fun p=>!Ge7 p) then .inr () else .inl ()):=by
  refine Ge8 m.Places Ge7 (fun i x hx=>?_) (by unfold Fca;rw [Kg (by omega)])
  have hi:=(List.getElem?_eq_some_iff.1 hx).1
  unfold Fca
  rw [Sj (by omega),Jv,hx,bind_some,Vx rfl,bind_some,w64 (by omega) (by omega)]
  rfl
 have a2:Sb (Fbr m) 0=some (if m.Places.all (fun p=>!Ge7 p) then .inr () else .inl ()):=by
  refine Ge8 m.Places Ge7 (fun i x hx=>?_) (by unfold Fbr;rw [Kg (by omega)])
  have hi:=(List.getElem?_eq_some_iff.1 hx).1
  unfold Fbr
  rw [Sj (by omega),Jv,hx,bind_some,Vx rfl,bind_some,w64 (by omega) (by omega)]
  rfl
 have b1:Sb (Fcb m) 0=some (if Yi (Gdl m.Places.length) m.Roads=0 then .inr () else .inl (Yi (Gdl m.Places.length) m.Roads)):=by
  refine Gc1 m.Roads _ (fun i x hx=>?_) (by unfold Fcb;rw [Kg (by omega)])
  have hi:=(List.getElem?_eq_some_iff.1 hx).1
  unfold Fcb
  rw [Sj (by omega),Jv,hx,bind_some,Vx (Vx (Vx (Vx rfl))),bind_some,Vx (Vx (Vx rfl)),bind_some,(Ge9 _ _ _).1,bind_some,(Ge9 _ _ _).1,bind_some,Gke,Gkd,Vx rfl,bind_some,w64 (by omega) (by omega),← Gml]
  by_cases h1:x.From<0∨(m.Places.length:Int)≤x.From∨x.To<0∨(m.Places.length:Int)≤x.To∨x.From=x.To
  ·rw [Sj h1,Sj h1]
  ·rw [Kg h1,Kg h1]
   by_cases h2:x.Length<1∨100000<x.Length∨x.Area<1∨1000<x.Area
   ·rw [Sj h2,Sj (by rcases h2 with h | h | h | h;exact .inl h;exact .inr (.inl h);exact .inr (.inr (.inl h));exact .inr (.inr (.inr (.inl h))))]
   ·rw [Kg h2]
    by_cases h3:Gcn x.Rest 1 262144=false∨Gcn x.Lift (-2199023255552) 2199023255552=false
    ·rw [Sj h3,Sj (.inr (.inr (.inr (.inr h3))))]
    ·rw [Kg h3,Kg (fun h=>by rcases h with h | h | h | h | h;exact h2 (.inl h);exact h2 (.inr (.inl h));exact h2 (.inr (.inr (.inl h)));exact h2 (.inr (.inr (.inr h)));exact h3 h)]
 have b2:Sb (Fbs m) 0=some (if Yi (Gdl m.Places.length) m.Roads=0 then .inr () else .inl (Yi (Gdl m.Places.length) m.Roads)):=by
  refine Gc1 m.Roads _ (fun i x hx=>?_) (by unfold Fbs;rw [Kg (by omega)])
  have hi:=(List.getElem?_eq_some_iff.1 hx).1
  unfold Fbs
  rw [Sj (by omega),Jv,hx,bind_some,Vx (Vx (Vx (Vx rfl))),bind_some,(Ge9 _ _ _).2,bind_some,(Ge9 _ _ _).2,bind_some,Gke,Gkd,Vx (Vx (Vx (Vx (Vx rfl)))),bind_some,w64 (by omega) (by omega),← Gml]
 unfold Fdf Fcq Gbm
 constructor
 all_goals
  rw [Vx rfl,bind_some]
  first | rw [a1,bind_some,b1] | rw [a2,bind_some,b2]
  by_cases h:64<(m.Places.length:Int)∨128<(m.Roads.length:Int)
  ·rw [Sj h,if_pos h]
  ·rw [Kg h,if_neg h]
   by_cases h2:m.Places.all (fun p=>!Ge7 p)=true
   ·rw [if_pos h2,if_pos h2]
    dsimp only [Sum.elim_inr]
    rw [bind_some]
    by_cases h3:Yi (Gdl m.Places.length) m.Roads=0
    ·rw [if_pos h3]
     dsimp only [Sum.elim_inr]
     rw [h3]
    ·rw [if_neg h3]
     rfl
   ·rw [if_neg h2,if_neg h2]
    rfl
structure Rt (m:Tah):Prop where
 p2:m.Places.length≤64
 r1:m.Roads.length≤128
 rd:∀ r ∈ m.Roads,Gkc m.Places.length r
theorem Glk {α:Type} {e:α→Int}:∀ {l:List α},Yi e l=0→∀ x ∈ l,e x=0
 | [],_,x,hx=>by cases hx
 | y::l,h,x,hx=>by
  unfold Yi at h
  by_cases he:e y=0
  ·rw [if_pos he] at h
   rcases List.mem_cons.1 hx with rfl | hx
   ·exact he
   ·exact Glk h x hx
  ·rw [if_neg he] at h
   exact absurd h he
theorem Grp {m:Tah} (h:Gbm m=0):Rt m:=by
 unfold Gbm at h
 split at h
 ·cases h
 ·split at h
  ·rename_i h1 h2
   refine ⟨by omega,by omega,fun r hr=>?_⟩
   have:=Glk h r hr
   unfold Gdl at this
   split at this
   ·cases this
   ·unfold Gkc
    omega
  ·cases h

abbrev Arc:=Tad
def rd0 (m:Tah) (i:Nat):Tae:=(m.Roads[i]?).getD ⟨0,0,0,0,false,true,⟨0,0⟩,⟨0,0⟩⟩
def sp0 (f:List Taa) (i:Nat):Taa:=(f[i]?).getD ⟨0,0⟩
def can (m:Tah) (f:List Taa) (i:Nat) (d:Bool):Bool:=bif (rd0 m i).Closed then false else bif d then decide ((sp0 f i).Low<0) else decide (0<(sp0 f i).High)
def Zw (m:Tah) (i:Nat) (d:Bool):Arc:=bif d then ⟨i,(rd0 m i).To,(rd0 m i).From⟩ else ⟨i,(rd0 m i).From,(rd0 m i).To⟩
def Gc2 (m:Tah) (f:List Taa) (i:Nat):List Arc:=(bif can m f i false then [Zw m i false] else [])++(bif can m f i true then [Zw m i true] else [])
def Zy (m:Tah) (f:List Taa):List Arc:=(List.range m.Roads.length).flatMap (Gc2 m f)
def rtB (m:Tah) (f:List Taa):Bool:=decide (Gbm m=0)&&decide (f.length=m.Roads.length)
def Sz (m:Tah):Prop:=m.Roads.length≤1000000000∧m.Places.length≤1000000000

theorem Ghe (m:Tah) (f:List Taa) (i:Nat):(Gc2 m f i).length≤2:=by
 unfold Gc2
 cases can m f i false <;> cases can m f i true <;> simp
theorem Xg {m:Tah} {i:Nat} (h:i<m.Roads.length):m.Roads[i]?=some (rd0 m i):=by
 unfold rd0
 rw [List.getElem?_eq_getElem h]
 rfl
theorem Ggg {f:List Taa} {i:Nat} (h:i<f.length):f[i]?=some (sp0 f i):=by
 unfold sp0
 rw [List.getElem?_eq_getElem h]
 rfl
theorem Gig {n i x:Nat} (h:(List.range n)[i]?=some x):x=i∧i<n:=by
 obtain ⟨h1,h2⟩:=List.getElem?_eq_some_iff.1 h
 rw [List.getElem_range] at h2
 rw [List.length_range] at h1
 exact ⟨h2.symm,h1⟩
theorem Gmm (m:Tah) (f:List Taa) (hs:Sz m):Fa9 m f=some (if rtB m f then (Zy m f,true) else ([],false)):=by
 unfold Fa9 Fe6
 rw [(Gd1 m hs).1,bind_some,bind_some]
 unfold rtB
 by_cases hc:Gbm m=0
 ·rw [decide_eq_true hc,Bool.not_true,cond_false,bind_some,Bool.true_and]
  have hR:=Grp hc
  by_cases hl:f.length=m.Roads.length
  ·rw [Kg (by omega),decide_eq_true hl,if_pos rfl]
   have:=Gqk (List.range m.Roads.length) (Gc2 m f) (g:=Fas m f) (fun x _=>Ghe m f x) (fun i x out hx ho=>?_) (fun out=>by unfold Fas;rw [List.length_range,Kg (by dsimp only;omega)])
   ·rw [this.1,bind_some]
    rfl
   ·obtain ⟨rfl,hi⟩:=Gig hx
    have h1:=hR.r1
    unfold Fas Gc2 can Zw
    dsimp only
    rw [Sj (by omega),Jv,Xg hi,bind_some,Jv,Ggg (by omega)]
    cases (rd0 m x).Closed with
    | true=>rw [cond_true,bind_some,w64 (by omega) (by omega)];simp
    | false =>
     rw [cond_false,bind_some]
     by_cases q1:0<(sp0 f x).High
     ·rw [Sj q1,Wj (by simp;omega),bind_some,bind_some,bind_some]
      by_cases q2:(sp0 f x).Low<0
      ·rw [Sj q2,Wj (by simp;omega),bind_some,bind_some,w64 (by omega) (by omega)]
       simp [q1,q2]
      ·rw [Kg q2,bind_some,w64 (by omega) (by omega)]
       simp [q1,q2]
     ·rw [Kg q1,bind_some,bind_some]
      by_cases q2:(sp0 f x).Low<0
      ·rw [Sj q2,Wj (by simp;omega),bind_some,bind_some,w64 (by omega) (by omega)]
       simp [q1,q2]
      ·rw [Kg q2,bind_some,w64 (by omega) (by omega)]
       simp [q1,q2]
  ·rw [Sj (by omega),decide_eq_false hl]
   rfl
 ·rw [decide_eq_false hc]
  rfl
theorem Ghf {m:Tah} {f:List Taa} (h:rtB m f=true):Rt m∧f.length=m.Roads.length:=by
 unfold rtB at h
 simp only [Bool.and_eq_true,decide_eq_true_eq] at h
 exact ⟨Grp h.1,h.2⟩
def Gbt (n:Nat) (a:Arc):Prop:=0≤a.from_∧a.from_<(n:Int)∧0≤a.to_∧a.to_<(n:Int)
theorem Gi7 {m:Tah} (h:Rt m) {i:Nat} (hi:i<m.Roads.length) (d:Bool):Gbt m.Places.length (Zw m i d):=by
 obtain ⟨r1,r2,r3,r4⟩:=h.rd (rd0 m i) (List.mem_of_getElem? (Xg hi))
 cases d
 ·exact ⟨r1,r2,r3,r4⟩
 ·exact ⟨r3,r4,r1,r2⟩
theorem Ghg {m:Tah} {f:List Taa} {i:Nat} {a:Arc}:a ∈ Gc2 m f i↔∃ d,can m f i d=true∧a=Zw m i d:=by
 unfold Gc2
 rw [List.mem_append]
 constructor
 ·rintro (h | h)
  ·cases e:can m f i false with
   | true=>rw [e] at h;exact ⟨false,e,by simpa using h⟩
   | false=>rw [e] at h;simp at h
  ·cases e:can m f i true with
   | true=>rw [e] at h;exact ⟨true,e,by simpa using h⟩
   | false=>rw [e] at h;simp at h
 ·rintro ⟨d,h,rfl⟩
  cases d
  ·exact .inl (by rw [h];simp)
  ·exact .inr (by rw [h];simp)
theorem Gfp {m:Tah} {f:List Taa} {a:Arc}:a ∈ Zy m f↔∃ i d,i<m.Roads.length∧can m f i d=true∧a=Zw m i d:=by
 unfold Zy
 rw [List.mem_flatMap]
 constructor
 ·rintro ⟨i,hi,h⟩
  obtain ⟨d,h1,h2⟩:=Ghg.1 h
  exact ⟨i,d,List.mem_range.1 hi,h1,h2⟩
 ·rintro ⟨i,d,h1,h2,h3⟩
  exact ⟨i,List.mem_range.2 h1,Ghg.2 ⟨d,h2,h3⟩⟩
theorem Ghh {m:Tah} {f:List Taa} (h:Rt m):∀ a ∈ Zy m f,Gbt m.Places.length a:=fun a ha=>by
 obtain ⟨i,d,h1,_,rfl⟩:=Gfp.1 ha
 exact Gi7 h h1 d
theorem Gfq {m:Tah} {f:List Taa}:(Zy m f).length≤2*m.Roads.length:=by
 unfold Zy
 have:∀ l:List Nat,(l.flatMap (Gc2 m f)).length≤2*l.length:=by
  intro l
  induction l with
  | nil=>simp
  | cons x l ih =>
   have:=Ghe m f x
   rw [List.flatMap_cons,List.length_append,List.length_cons]
   omega
 have:=this (List.range m.Roads.length)
 rwa [List.length_range] at this

/-! ### Ways -/
def Gmn (a:Arc):A2_Int:=⟨a.from_,a.to_⟩
def Gd9 (m:Tah) (f:List Taa):List A2_Int:=if rtB m f then (Zy m f).map Gmn else []
theorem Gkf {α β:Type} (f:α→β) (l:List α):l.flatMap (fun x=>[f x])=l.map f:=by
 induction l with
 | nil=>rfl
 | cons x l ih=>rw [List.flatMap_cons,ih];rfl
theorem Gql (m:Tah) (f:List Taa) (hs:Sz m):Fb4 m f=some (Gd9 m f):=by
 unfold Fb4 Gd9
 rw [Gmm m f hs,bind_some]
 have key:∀ (l:List Arc) (b:Bool),l.length≤1000000→Sb (Fak (l,b)) (0,([]:List A2_Int))=some (l.map Gmn):=fun l b hl=>by
  have:=Gqk l (fun a=>[Gmn a]) (g:=Fak (l,b)) (fun _ _=>by simp) (fun i x out hx ho=>?_) (fun out=>by unfold Fak;rw [Kg (by dsimp only;omega)])
  ·rw [this.1,Gkf]
  ·have hi:=(List.getElem?_eq_some_iff.1 hx).1
   unfold Fak
   dsimp only
   rw [Sj (by omega),Jv,hx,bind_some,Wj (by simp;omega),bind_some,w64 (by omega) (by omega)]
   rfl
 by_cases h:rtB m f=true
 ·have h1:=(Ghf h).1.r1
  have h2:=Gfq (m:=m) (f:=f)
  rw [if_pos h,if_pos h,key _ _ (by omega),bind_some]
 ·rw [if_neg h,if_neg h,key _ _ (by simp),bind_some]
  rfl
def sf (m:Tah) (k:Int):Bool:=((m.Places[k.toNat]?).map (·.Surface)).getD true
def bt (o:List Bool) (k:Int):Bool:=(o[k.toNat]?).getD false
def ok1 (m:Tah) (w:Int) (o:List Bool) (a:Arc):Bool:=decide (a.road≠w)&&(bt o a.from_&&(!bt o a.to_&&!sf m a.to_))
def st1 (m:Tah) (w:Int) (o:List Bool) (a:Arc):List Bool:=bif ok1 m w o a then o.set a.to_.toNat true else o
def stp (m:Tah) (w:Int) (s:Bool×List Bool) (a:Arc):Bool×List Bool:=(s.1||ok1 m w s.2 a,st1 m w s.2 a)
def Gbn (m:Tah) (w:Int) (l:List Arc) (o:List Bool):List Bool:=l.foldl (st1 m w) o
def Gea {α:Type} (f:α→α):Nat→α→α
 | 0,a=>a
 | n+1,a=>Gea f n (f a)
def Gax (m:Tah) (w:Int) (l:List Arc) (o:List Bool):List Bool:=Gea (Gbn m w l) (o.length+1) o
def cnt (o:List Bool):Nat:=o.count true

theorem Gc3 {o:List Bool} {k:Int} (h0:0≤k) (h1:k<(o.length:Int)):Kl o k=some (bt o k):=by
 unfold Kl bt
 rw [if_pos h0,List.getElem?_eq_getElem (by omega)]
 rfl
theorem Ghi {m:Tah} {k:Int} (h0:0≤k) (h1:k<(m.Places.length:Int)):∃ p,Kl m.Places k=some p∧p.Surface=sf m k:=by
 unfold Kl sf
 rw [if_pos h0,List.getElem?_eq_getElem (by omega)]
 exact ⟨_,rfl,rfl⟩
theorem Gfa {m:Tah} {w:Int} {o:List Bool} {a:Arc}:(st1 m w o a).length=o.length:=by
 unfold st1
 cases ok1 m w o a
 ·rfl
 ·exact List.length_set
theorem Gqm {o:List Bool} {i:Nat} (h:i<o.length) (hf:o[i]=false):cnt (o.set i true)=cnt o+1:=by
 unfold cnt
 rw [List.count_set h,hf]
 rfl
theorem Gqn {m:Tah} {w:Int} {o:List Bool} {a:Arc} (ha:Gbt o.length a):cnt (st1 m w o a)=cnt o+(bif ok1 m w o a then 1 else 0):=by
 obtain ⟨a1,a2,a3,a4⟩:=ha
 unfold st1
 cases h:ok1 m w o a with
 | false=>rfl
 | true =>
  unfold ok1 at h
  simp only [Bool.and_eq_true,Bool.not_eq_true'] at h
  have hb:=h.2.2.1
  unfold bt at hb
  have hi:a.to_.toNat<o.length:=by omega
  rw [List.getElem?_eq_getElem hi] at hb
  exact Gqm hi hb
theorem Gfb {m:Tah} {w:Int}:∀ (l:List Arc) (b:Bool) (o:List Bool),(∀ a ∈ l,Gbt o.length a) →
  (l.foldl (stp m w) (b,o)).2=Gbn m w l o∧(Gbn m w l o).length=o.length∧cnt o≤cnt (Gbn m w l o)∧(b=true→(l.foldl (stp m w) (b,o)).1=true) ∧
  ((l.foldl (stp m w) (b,o)).1=false→Gbn m w l o=o∧∀ a ∈ l,ok1 m w o a=false)∧(b=false→(l.foldl (stp m w) (b,o)).1=true→cnt o<cnt (Gbn m w l o))
 | [],b,o,_=>⟨rfl,rfl,Nat.le_refl _,fun h=>h,fun _=>⟨rfl,fun a h=>by cases h⟩,fun h1 h2=>by rw [h1] at h2;cases h2⟩
 | a::l,b,o,h=>by
  have ha:=h a (List.mem_cons_self ..)
  obtain ⟨e1,e2,e3,e4,e5,e6⟩:=Gfb (m:=m) (w:=w) l (b||ok1 m w o a) (st1 m w o a) (fun x hx=>by rw [Gfa];exact h x (List.mem_cons_of_mem _ hx))
  have ec:=Gqn (m:=m) (w:=w) ha
  have el:=Gfa (m:=m) (w:=w) (o:=o) (a:=a)
  unfold Gbn at e1 e2 e3 e5 e6 ⊢
  rw [List.foldl_cons,List.foldl_cons]
  show (l.foldl (stp m w) (b||ok1 m w o a,st1 m w o a)).2=_∧_∧_∧(b=true→(l.foldl (stp m w) (b||ok1 m w o a,st1 m w o a)).1=true)∧((l.foldl (stp m w) (b||ok1 m w o a,st1 m w o a)).1=false→_)∧(b=false→(l.foldl (stp m w) (b||ok1 m w o a,st1 m w o a)).1=true→_)
  refine ⟨e1,e2.trans el,by omega,fun hb=>e4 (by rw [hb];rfl),fun hf=>?_,fun hb ht=>?_⟩
  ·have hbo:(b||ok1 m w o a)=false:=by
    cases hx:(b||ok1 m w o a) with
    | false=>rfl
    | true=>rw [e4 hx] at hf;cases hf
   have ho:ok1 m w o a=false:=by
    cases b
    ·simpa using hbo
    ·cases hbo
   have hs:st1 m w o a=o:=by unfold st1;rw [ho];rfl
   obtain ⟨q1,q2⟩:=e5 hf
   rw [hs] at q1 q2 ⊢
   refine ⟨q1,fun x hx=>?_⟩
   rcases List.mem_cons.1 hx with rfl | hx
   ·exact ho
   ·exact q2 x hx
  ·cases ho:ok1 m w o a with
   | true=>rw [ho] at ec;rw [show (bif true then 1 else 0)=1 from rfl] at ec;omega
   | false =>
    rw [ho] at ec
    rw [show (bif false then 1 else 0)=0 from rfl] at ec
    have:=e6 (by rw [hb,ho];rfl) ht
    omega
theorem Ghj {α:Type} {f:α→α} {a:α} (h:f a=a):∀ n,Gea f n a=a
 | 0=>rfl
 | n+1=>by show Gea f n (f a)=a;rw [h];exact Ghj h n
theorem Gkg {m:Tah} {w:Int} {l:List Arc} {g:Bool×List Bool→Option ((Bool×List Bool)⊕List Bool)} (I:List Bool→Prop) (P:Nat) (hP:∀ o,I o→o.length=P) (hl:∀ a ∈ l,Gbt P a)
  (hI:∀ o,I o→I (Gbn m w l o)) (h1:∀ o,I o→g (true,o)=some (.inl (l.foldl (stp m w) (false,o)))) (h0:∀ o,I o→g (false,o)=some (.inr o)) :
  ∀ (n:Nat) (o:List Bool),I o→P-cnt o<n→Sb g (true,o)=some (Gea (Gbn m w l) n o)
 | 0,o,_,h=>by omega
 | n+1,o,ho,h=>by
  have hlen:=hP o ho
  obtain ⟨e1,e2,e3,e4,e5,e6⟩:=Gfb (m:=m) (w:=w) l false o (by rw [hlen];exact hl)
  rw [Gbc (h1 o ho)]
  generalize hs:l.foldl (stp m w) (false,o)=s at e1 e4 e5 e6
  obtain ⟨b,o'⟩:=s
  dsimp only at e1 e4 e5 e6
  subst e1
  cases b with
  | false =>
   obtain ⟨q,_⟩:=e5 rfl
   rw [Zv (h0 _ (hI o ho))]
   show some (Gbn m w l o)=some (Gea (Gbn m w l) n (Gbn m w l o))
   rw [Ghj (by rw [q];exact q)]
  | true =>
   have:=e6 rfl rfl
   have hc:cnt (Gbn m w l o)≤P:=by rw [← hlen,← e2];exact List.count_le_length ..
   exact Gkg I P hP hl hI h1 h0 n _ (hI o ho) (by omega)
theorem Gih {m:Tah} {l:List Arc} {o:List Bool} {w:Int} (hP:m.Places.length≤64) (ho:o.length=m.Places.length) (hl:∀ a ∈ l,Gbt m.Places.length a) (hn:l.length≤1000000):Fao m l o w=some (Gax m w l o):=by
 unfold Fao Gax
 rw [Wj (by simp;omega),bind_some,List.nil_append,Gkg (m:=m) (w:=w) (l:=l) (fun o=>o.length=m.Places.length) m.Places.length (fun _ h=>h) hl (fun o h=>by
  have:=(Gfb (m:=m) (w:=w) l false o (by rw [h];exact hl)).2.1
  omega) (fun o ho=>?_) (fun o ho=>by unfold Faw;rfl) (o.length+1) o ho (by omega),bind_some]
 unfold Faw
 dsimp only
 rw [cond_true]
 have:=Go4 l (stp m w) (fun i s=>((s.1,i,s.2):Bool×Int×List Bool)) id (g:=Fam m l w) (fun _ s=>s.2.length=m.Places.length) (fun i a s hx hI=>?_) (fun s _=>by unfold Fam;rw [Kg (by dsimp only;omega)];rfl) (false,o) ho
 ·rw [this.1,bind_some]
  rfl
 ·obtain ⟨b,o⟩:=s
  dsimp only at hI
  have hi:=(List.getElem?_eq_some_iff.1 hx).1
  obtain ⟨a1,a2,a3,a4⟩:=hl a (List.mem_of_getElem? hx)
  obtain ⟨p,hp1,hp2⟩:=Ghi (m:=m) a3 a4
  refine ⟨?_,by show (st1 m w o a).length=_;rw [Gfa];exact hI⟩
  unfold Fam stp st1 ok1
  dsimp only
  rw [Sj (by omega),Jv,hx,bind_some,Gc3 a1 (by omega),bind_some,Gc3 a3 (by omega),bind_some,bind_some,hp1,bind_some,hp2,w64 (by omega) (by omega)]
  by_cases hw:a.road≠w
  ·rw [Sj hw,decide_eq_true hw]
   cases bt o a.from_ <;> cases bt o a.to_ <;> cases sf m a.to_ <;> simp
  ·rw [Kg hw,decide_eq_false hw]
   simp
def NS (m:Tah) (o:List Bool):Prop:=∀ k:Int,0≤k→bt o k=true→sf m k=false
theorem Gi8 {o:List Bool} {i:Nat} {k:Int} (hk:0≤k) (hi:i<o.length):bt (o.set i true) k=if k=i then true else bt o k:=by
 unfold bt
 rw [List.getElem?_set]
 by_cases h:i=k.toNat
 ·rw [if_pos h,if_pos (by omega),if_pos (by omega)];rfl
 ·rw [if_neg h,if_neg (by omega)]
def Gr8 (n:Nat) (k:Int):List Bool:=(List.replicate n false).set k.toNat true
def Gf3 (m:Tah) (l:List Arc) (a:Arc):Bool:=!sf m a.from_&&(!sf m a.to_&&bt (Gax m a.road l (Gr8 m.Places.length a.to_)) a.from_)
def Gfc (m:Tah) (l:List Arc):List Arc:=l.flatMap (fun a=>bif Gf3 m l a then [a] else [])
def ddp (out:List Int) (r:Int):List Int:=if out.getLast?=some r then out else out++[r]
def Gti (m:Tah) (f:List Taa) (i:Nat):Bool:=(Gc2 m f i).any (Gf3 m (Zy m f))
def Gs5 (m:Tah) (f:List Taa):List Int:=if rtB m f then ((List.range m.Roads.length).filter (Gti m f)).map (fun i:Nat=>(i:Int)) else []

theorem Gcj {m:Tah} {w:Int} {l:List Arc} {o:List Bool}:(Gax m w l o).length=o.length:=by
 unfold Gax
 have h1:∀ (l:List Arc) (o:List Bool),(Gbn m w l o).length=o.length:=by
  intro l
  induction l with
  | nil=>intro o;rfl
  | cons a l ih=>intro o;exact (ih _).trans Gfa
 generalize o.length+1=n
 induction n generalizing o with
 | zero=>rfl
 | succ n ih=>exact (ih (o:=Gbn m w l o)).trans (h1 l o)
theorem Gs6 {m:Tah} {a:Arc} (ha:Gbt m.Places.length a) {x y:Option Bool}:((Kl m.Places a.from_).bind fun x8=>bif x8.Surface then some true else (Kl m.Places a.to_).bind fun x11=>some x11.Surface)=some (sf m a.from_||sf m a.to_):=by
 obtain ⟨a1,a2,a3,a4⟩:=ha
 obtain ⟨p,hp1,hp2⟩:=Ghi (m:=m) a1 a2
 obtain ⟨q,hq1,hq2⟩:=Ghi (m:=m) a3 a4
 rw [hp1,bind_some,hp2,hq1,bind_some,hq2]
 cases sf m a.from_ <;> rfl
theorem Gqo {m:Tah} {l:List Arc} (hP:m.Places.length≤64) (hl:∀ a ∈ l,Gbt m.Places.length a) (hn:l.length≤1000000):Fba m l=some (Gfc m l):=by
 unfold Fba Gfc
 have:=Gqk l (fun a=>bif Gf3 m l a then [a] else []) (g:=Fal m l) (fun a _=>by cases Gf3 m l a <;> simp) (fun i a out hx ho=>?_) (fun out=>by unfold Fal;rw [Kg (by dsimp only;omega)])
 ·rw [this.1,bind_some]
 ·have hi:=(List.getElem?_eq_some_iff.1 hx).1
  have ha:=hl a (List.mem_of_getElem? hx)
  have hb:=ha
  obtain ⟨a1,a2,a3,a4⟩:=hb
  unfold Fal Gf3
  dsimp only
  rw [Sj (by omega),Jv,hx,bind_some,Gs6 ha (x:=none) (y:=none),bind_some,w64 (by omega) (by omega),Ze (by omega) (by omega),bind_some,Int.toNat_natCast]
  obtain ⟨v,hv⟩:∃ v,Kl (List.replicate m.Places.length false) a.to_=some v:=⟨_,Gc3 a3 (by simpa using a4)⟩
  rw [hv,bind_some,Gih hP (by simp) hl hn,bind_some]
  have hg:Kl (Gax m a.road l ((List.replicate m.Places.length false).set a.to_.toNat true)) a.from_=some (bt (Gax m a.road l (Gr8 m.Places.length a.to_)) a.from_):=Gc3 a1 (by rw [Gcj];simpa using a2)
  rw [hg,bind_some,Wj (by simp;omega),bind_some]
  cases sf m a.from_ <;> cases sf m a.to_ <;> cases bt (Gax m a.road l (Gr8 m.Places.length a.to_)) a.from_ <;> simp [bind_some]
theorem Gdm {m:Tah} {l:List Arc}:∀ a ∈ Gfc m l,a ∈ l∧Gf3 m l a=true:=fun a ha=>by
 unfold Gfc at ha
 obtain ⟨b,hb,h⟩:=List.mem_flatMap.1 ha
 cases e:Gf3 m l b with
 | true =>
  rw [e] at h
  have:a=b:=by simpa using h
  subst this
  exact ⟨hb,e⟩
 | false=>rw [e] at h;simp at h
theorem Go5 {m:Tah} {l:List Arc}:(Gfc m l).length≤l.length:=by
 unfold Gfc
 generalize hq:Gf3 m l=q
 clear hq
 induction l with
 | nil=>simp
 | cons a l ih =>
  rw [List.flatMap_cons,List.length_append,List.length_cons]
  cases q a
  ·rw [cond_false,List.length_nil];omega
  ·rw [cond_true,List.length_singleton];omega
/-! ### places to which such air comes -/
def Gfd (l:List Arc) (o:List Bool):List Bool:=l.foldl (fun o a=>(o.set a.from_.toNat true).set a.to_.toNat true) o
def idx (o:List Bool):List Int:=((List.range o.length).filter (fun i:Nat=>bt o i)).map (fun i:Nat=>(i:Int))
def Gr9 (m:Tah) (f:List Taa):List Bool:=Gax m (-1) (Zy m f) (Gfd (Gfc m (Zy m f)) (List.replicate m.Places.length false))
def Gcf (m:Tah) (f:List Taa):List Int:=if rtB m f then idx (Gr9 m f) else []
theorem Go6 (o:List Bool) (ho:o.length≤64):Sb (Fai o) (0,([]:List Int))=some (idx o):=by
 have:=Gqk (List.range o.length) (fun i:Nat=>bif bt o i then [(i:Int)] else []) (g:=Fai o) (fun i _=>by cases bt o i <;> simp) (fun i x out hx hl=>?_) (fun out=>by unfold Fai;rw [List.length_range,Kg (by dsimp only;omega)])
 ·rw [this.1]
  congr 1
  unfold idx
  generalize List.range o.length=r
  induction r with
  | nil=>rfl
  | cons x r ih =>
   rw [List.flatMap_cons,ih,List.filter_cons]
   cases bt o x <;> simp
 ·obtain ⟨rfl,hi⟩:=Gig hx
  unfold Fai
  dsimp only
  rw [Sj (by omega),Gc3 (by omega) (by omega),bind_some,Wj (by simp;omega),bind_some,w64 (by omega) (by omega)]
  cases bt o x <;> simp [bind_some]
theorem Go7 (m:Tah) (f:List Taa) (hs:Sz m):Fbm m f=some (Gcf m f):=by
 unfold Fbm Gcf
 rw [Gmm m f hs,bind_some]
 by_cases h:rtB m f=true
 ·obtain ⟨hR,hl⟩:=Ghf h
  have h1:=hR.r1
  have hP:=hR.p2
  have h2:=Gfq (m:=m) (f:=f)
  have h3:=Go5 (m:=m) (l:=Zy m f)
  have hA:=Ghh (f:=f) hR
  rw [if_pos h,if_pos h]
  dsimp only
  rw [Bool.not_true,cond_false,Ze (by omega) (by omega),bind_some,Int.toNat_natCast,Gqo hP hA (by omega),bind_some]
  have:=Go4 (Gfc m (Zy m f)) (fun (o:List Bool) a=>(o.set a.from_.toNat true).set a.to_.toNat true) (fun i o=>((i,o):Int×List Bool)) id (g:=Fap (Gfc m (Zy m f))) (fun _ o=>o.length=m.Places.length) (fun i a o hx hI=>?_) (fun o _=>by unfold Fap;rw [Kg (by dsimp only;omega)];rfl) (List.replicate m.Places.length false) (by simp)
  ·obtain ⟨t1,t2⟩:=this
   rw [t1,bind_some]
   have e:=Gih (m:=m) (l:=Zy m f) (o:=Gfd (Gfc m (Zy m f)) (List.replicate m.Places.length false)) (w:=-1) hP t2 hA (by omega)
   show (Fao m (Zy m f) (Gfd (Gfc m (Zy m f)) (List.replicate m.Places.length false)) (-1)).bind _=_
   rw [e,bind_some,Go6 _ (by rw [Gcj,show (Gfd (Gfc m (Zy m f)) (List.replicate m.Places.length false)).length=_ from t2];exact hP),bind_some]
   rfl
  ·have hi:=(List.getElem?_eq_some_iff.1 hx).1
   obtain ⟨a1,a2,a3,a4⟩:=hA a (Gdm a (List.mem_of_getElem? hx)).1
   refine ⟨?_,by rw [List.length_set,List.length_set];exact hI⟩
   unfold Fap
   dsimp only
   rw [Sj (by omega),Jv,hx,bind_some,Gc3 a1 (by omega),bind_some,Gc3 a3 (by rw [List.length_set];omega),bind_some,w64 (by omega) (by omega)]
 ·rw [if_neg h,if_neg h]
  rfl

theorem Gii (l:List Int) (hl:l.length≤1000000):Fde l l=some true:=by
 unfold Fde
 rw [Kg (fun h=>h rfl),Ge8 l (fun _=>false) (fun i x hx=>by
  have hi:=(List.getElem?_eq_some_iff.1 hx).1
  unfold Fc5
  rw [Sj (by omega),Jv,hx,bind_some,bind_some,Kg (fun h=>h rfl),w64 (by omega) (by omega)]
  rfl) (by unfold Fc5;rw [Kg (by omega)])]
 simp
theorem Gns {m:Tah} {f:List Taa}:(Gd9 m f).length≤2*m.Roads.length:=by
 unfold Gd9
 split
 ·rw [List.length_map]
  exact Gfq
 ·simp
theorem Grq {m:Tah} (h:MnOk m):Sz m:=⟨by have:=h.r1;omega,by have:=h.p2;omega⟩

theorem Gqp {l:List Int} (h:InL (In .u8) l):Zr l:=fun x hx=>In.u8 (h.2 x hx)

inductive Rch (m:Tah) (w:Int) (l:List Arc) (S:Int→Prop):Int→Prop
 | base (k:Int) (h:S k):Rch m w l S k
 | step (a:Arc) (ha:a ∈ l) (hw:a.road≠w) (hf:Rch m w l S a.from_) (ht:sf m a.to_=false):Rch m w l S a.to_
theorem Rch.mono {m:Tah} {w:Int} {l l':List Arc} {S S':Int→Prop} (hl:∀ a ∈ l,a ∈ l') (hS:∀ k,S k→Rch m w l' S' k) {k:Int} (h:Rch m w l S k):Rch m w l' S' k:=by
 induction h with
 | base k h=>exact hS k h
 | step a ha hw _ ht ih=>exact .step a (hl a ha) hw ih ht
theorem Gsa {m:Tah} {w:Int} {o:List Bool} {a:Arc} {k:Int} (hk:0≤k) (h:bt o k=true):bt (st1 m w o a) k=true:=by
 unfold st1
 cases ok1 m w o a with
 | false=>exact h
 | true =>
  rw [cond_true]
  unfold bt at h ⊢
  rw [List.getElem?_set]
  split
  ·split
   ·rfl
   ·rename_i h1 h2
    rw [← h1,List.getElem?_eq_none (by omega)] at h
    cases h
  ·exact h
theorem Gmo {m:Tah} {w:Int} {k:Int} (hk:0≤k):∀ (l:List Arc) (o:List Bool),bt o k=true→bt (Gbn m w l o) k=true
 | [],_,h=>h
 | a::l,o,h=>Gmo hk l (st1 m w o a) (Gsa hk h)
theorem Gmp {m:Tah} {w:Int} {l:List Arc} {k:Int} (hk:0≤k):∀ (n:Nat) (o:List Bool),bt o k=true→bt (Gea (Gbn m w l) n o) k=true
 | 0,_,h=>h
 | n+1,o,h=>Gmp hk n _ (Gmo hk l o h)
theorem Gij {m:Tah} {w:Int} {l:List Arc}:∀ (n:Nat) (o:List Bool),(∀ a ∈ l,Gbt o.length a)→o.length-cnt o<n→∀ a ∈ l,ok1 m w (Gea (Gbn m w l) n o) a=false
 | 0,o,_,h=>by omega
 | n+1,o,hl,h=>by
  obtain ⟨e1,e2,e3,e4,e5,e6⟩:=Gfb (m:=m) (w:=w) l false o hl
  cases hb:(l.foldl (stp m w) (false,o)).1 with
  | false =>
   obtain ⟨q1,q2⟩:=e5 hb
   intro a ha
   show ok1 m w (Gea (Gbn m w l) n (Gbn m w l o)) a=false
   rw [q1,Ghj q1]
   exact q2 a ha
  | true =>
   have:=e6 rfl hb
   have hc:cnt (Gbn m w l o)≤(Gbn m w l o).length:=List.count_le_length ..
   exact Gij n (Gbn m w l o) (by rw [e2];exact hl) (by rw [e2] at hc ⊢;omega)
theorem Gqq {m:Tah} {w:Int} {l:List Arc} {S:Int→Prop} {o:List Bool} {a:Arc} (ha:a ∈ l) (hA:Gbt o.length a) (h:∀ k:Int,0≤k→bt o k=true→Rch m w l S k):∀ k:Int,0≤k→bt (st1 m w o a) k=true→Rch m w l S k:=by
 intro k hk hb
 obtain ⟨a1,a2,a3,a4⟩:=hA
 unfold st1 at hb
 cases ho:ok1 m w o a with
 | false=>rw [ho] at hb;exact h k hk hb
 | true =>
  rw [ho,cond_true,Gi8 hk (by omega)] at hb
  by_cases e:k=a.to_.toNat
  ·have:k=a.to_:=by omega
   subst this
   unfold ok1 at ho
   simp only [Bool.and_eq_true,Bool.not_eq_true',decide_eq_true_eq] at ho
   exact .step a ha ho.1 (h _ a1 ho.2.1) ho.2.2.2
  ·rw [if_neg e] at hb
   exact h k hk hb
theorem Gkh {m:Tah} {w:Int} {l:List Arc} {S:Int→Prop}:∀ (l':List Arc) (o:List Bool),(∀ a ∈ l',a ∈ l)→(∀ a ∈ l',Gbt o.length a)→(∀ k:Int,0≤k→bt o k=true→Rch m w l S k)→∀ k:Int,0≤k→bt (Gbn m w l' o) k=true→Rch m w l S k
 | [],_,_,_,h=>h
 | a::l',o,hl,hA,h=>Gkh l' (st1 m w o a) (fun x hx=>hl x (List.mem_cons_of_mem _ hx)) (fun x hx=>by rw [Gfa];exact hA x (List.mem_cons_of_mem _ hx)) (Gqq (hl a (List.mem_cons_self ..)) (hA a (List.mem_cons_self ..)) h)
theorem Gki {m:Tah} {w:Int} {l:List Arc} {S:Int→Prop}:∀ (n:Nat) (o:List Bool),(∀ a ∈ l,Gbt o.length a)→(∀ k:Int,0≤k→bt o k=true→Rch m w l S k)→∀ k:Int,0≤k→bt (Gea (Gbn m w l) n o) k=true→Rch m w l S k
 | 0,_,_,h=>h
 | n+1,o,hA,h=>Gki n (Gbn m w l o) (by rw [(Gfb (m:=m) (w:=w) l false o hA).2.1];exact hA) (Gkh l o (fun _ h=>h) hA h)
theorem Ghk {m:Tah} {w:Int} {l:List Arc} {o:List Bool} {S:Int→Prop} (hA:∀ a ∈ l,Gbt o.length a) (hS:∀ k:Int,0≤k→(bt o k=true↔S k)) (hS0:∀ k,S k→0≤k) {k:Int} (hk:0≤k):bt (Gax m w l o) k=true↔Rch m w l S k:=by
 unfold Gax
 constructor
 ·exact Gki _ o hA (fun k hk h=>.base k ((hS k hk).1 h)) k hk
 ·intro h
  have hd:=Gij (m:=m) (w:=w) (l:=l) (o.length+1) o hA (by omega)
  clear hk
  induction h with
  | base k h=>exact Gmp (hS0 k h) _ o ((hS k (hS0 k h)).2 h)
  | step a ha hw _ ht ih =>
   have h0:=hd a ha
   unfold ok1 at h0
   rw [decide_eq_true hw,ih,ht,Bool.true_and,Bool.true_and,Bool.not_false,Bool.and_true] at h0
   simpa using h0
theorem Ghl:∀ (l:List Arc) (o:List Bool),(∀ a ∈ l,Gbt o.length a)→∀ k:Int,0≤k→(bt (Gfd l o) k=true↔bt o k=true∨∃ a ∈ l,k=a.from_∨k=a.to_)
 | [],o,_,k,_=>by
  show bt o k=true↔_
  constructor
  ·exact .inl
  ·rintro (h | ⟨a,ha,_⟩)
   ·exact h
   ·cases ha
 | a::l,o,hA,k,hk=>by
  obtain ⟨a1,a2,a3,a4⟩:=hA a (List.mem_cons_self ..)
  show bt (Gfd l _) k=true↔_
  rw [Ghl l _ (fun x hx=>by rw [List.length_set,List.length_set];exact hA x (List.mem_cons_of_mem _ hx)) k hk,Gi8 hk (by rw [List.length_set];omega),Gi8 hk (by omega)]
  constructor
  ·rintro (h | ⟨b,hb,h⟩)
   ·by_cases e1:k=(a.to_.toNat:Int)
    ·exact .inr ⟨a,List.mem_cons_self ..,.inr (by omega)⟩
    ·rw [if_neg e1] at h
     by_cases e2:k=(a.from_.toNat:Int)
     ·exact .inr ⟨a,List.mem_cons_self ..,.inl (by omega)⟩
     ·rw [if_neg e2] at h
      exact .inl h
   ·exact .inr ⟨b,List.mem_cons_of_mem _ hb,h⟩
  ·rintro (h | ⟨b,hb,h⟩)
   ·left
    split
    ·rfl
    ·split
     ·rfl
     ·exact h
   ·rcases List.mem_cons.1 hb with rfl | hb
    ·left
     rcases h with h | h
     ·split
      ·rfl
      ·rw [if_pos (by omega)]
     ·rw [if_pos (by omega)]
    ·exact .inr ⟨b,hb,h⟩
def Gs7 (m:Tah) (l:List Arc) (k:Int):Prop:=∃ a ∈ Gfc m l,k=a.from_∨k=a.to_
theorem Gqr {o:List Bool} {v:Int}:v ∈ idx o↔0≤v∧v<(o.length:Int)∧bt o v=true:=by
 unfold idx
 rw [List.mem_map]
 constructor
 ·rintro ⟨i,hi,rfl⟩
  obtain ⟨h1,h2⟩:=List.mem_filter.1 hi
  have:=List.mem_range.1 h1
  exact ⟨by omega,by omega,h2⟩
 ·rintro ⟨h1,h2,h3⟩
  refine ⟨v.toNat,List.mem_filter.2 ⟨List.mem_range.2 (by omega),?_⟩,by omega⟩
  rw [Int.toNat_of_nonneg h1]
  exact h3
theorem Gik {m:Tah} {f:List Taa} {v:Int}:v ∈ Gcf m f↔rtB m f=true∧0≤v∧v<(m.Places.length:Int)∧Rch m (-1) (Zy m f) (Gs7 m (Zy m f)) v:=by
 unfold Gcf
 by_cases h:rtB m f=true
 ·obtain ⟨hR,hl⟩:=Ghf h
  have hA:=Ghh (f:=f) hR
  have hml:(Gfd (Gfc m (Zy m f)) (List.replicate m.Places.length false)).length=m.Places.length:=by
   have:∀ (l:List Arc) (o:List Bool),(Gfd l o).length=o.length:=by
    intro l
    induction l with
    | nil=>intro o;rfl
    | cons a l ih=>intro o;exact (ih _).trans (by rw [List.length_set,List.length_set])
   rw [this,List.length_replicate]
  rw [if_pos h,Gqr]
  unfold Gr9
  rw [Gcj,hml]
  constructor
  ·rintro ⟨h1,h2,h3⟩
   refine ⟨h,h1,h2,(Ghk (by rw [hml];exact hA) (fun k hk=>?_) (fun k hk=>?_) h1).1 h3⟩
   ·rw [Ghl _ _ (fun a ha=>by rw [List.length_replicate];exact hA a (Gdm a ha).1) k hk]
    constructor
    ·rintro (h | h)
     ·unfold bt at h
      by_cases hh:k.toNat<m.Places.length
      ·rw [List.getElem?_replicate_of_lt hh] at h;cases h
      ·rw [List.getElem?_eq_none (by simpa using hh)] at h;cases h
     ·exact h
    ·exact .inr
   ·obtain ⟨a,ha,hk⟩:=hk
    have:=hA a (Gdm a ha).1
    unfold Gbt at this
    omega
  ·rintro ⟨_,h1,h2,h3⟩
   refine ⟨h1,h2,(Ghk (S:=Gs7 m (Zy m f)) (by rw [hml];exact hA) (fun k hk=>?_) (fun k hk=>?_) h1).2 h3⟩
   ·rw [Ghl _ _ (fun a ha=>by rw [List.length_replicate];exact hA a (Gdm a ha).1) k hk]
    constructor
    ·rintro (h | h)
     ·unfold bt at h
      by_cases hh:k.toNat<m.Places.length
      ·rw [List.getElem?_replicate_of_lt hh] at h;cases h
      ·rw [List.getElem?_eq_none (by simpa using hh)] at h;cases h
     ·exact h
    ·exact .inr
   ·obtain ⟨a,ha,hk⟩:=hk
    have:=hA a (Gdm a ha).1
    unfold Gbt at this
    omega
 ·rw [if_neg h]
  constructor
  ·intro h;cases h
  ·rintro ⟨h',_⟩;exact absurd h' h
theorem Gkj {m:Tah} {f g:List Taa} (h:∀ i,(sp0 g i).Low≤(sp0 f i).Low∧(sp0 f i).High≤(sp0 g i).High) {i:Nat} {d:Bool} (hc:can m f i d=true):can m g i d=true:=by
 obtain ⟨h1,h2⟩:=h i
 cases hcl:(rd0 m i).Closed <;> cases d <;> simp [can,hcl] at hc ⊢ <;> omega
def Gtp (m:Tah) (k:Nat):Tah:=⟨m.Places,m.Roads.set k ⟨(rd0 m k).From,(rd0 m k).To,(rd0 m k).Length,(rd0 m k).Area,(rd0 m k).Walk,true,(rd0 m k).Rest,(rd0 m k).Lift⟩⟩
theorem Gll {m:Tah} {f:List Taa}:(Gcf m f).length≤m.Places.length:=by
 have hb:∀ v ∈ Gcf m f,0≤v∧v<(m.Places.length:Int):=fun v hv=>by
  obtain ⟨_,h1,h2,_⟩:=Gik.1 hv
  exact ⟨h1,h2⟩
 unfold Gcf idx
 split
 ·rw [List.length_map]
  refine Nat.le_trans (List.length_filter_le ..) ?_
  rw [List.length_range]
  unfold Gr9
  rw [Gcj]
  have:∀ (l:List Arc) (o:List Bool),(Gfd l o).length=o.length:=by
   intro l
   induction l with
   | nil=>intro o;rfl
   | cons a l ih=>intro o;exact (ih _).trans (by rw [List.length_set,List.length_set])
  rw [this,List.length_replicate]
  exact Nat.le_refl _
 ·simp


theorem Gfr {a b A B:Int} (h0:0≤a) (h1:a≤A) (h2 : -B≤b) (h3:b≤B) (hB:0≤B) : -(A*B)≤a*b∧a*b≤A*B:=by
 have e1:a*b≤a*B:=Int.mul_le_mul_of_nonneg_left h3 h0
 have e2:a*B≤A*B:=Int.mul_le_mul_of_nonneg_right h1 hB
 have e3:a * -B≤a*b:=Int.mul_le_mul_of_nonneg_left h2 h0
 rw [Int.mul_neg] at e3
 omega
theorem Gi9 {a b A B:Int} (h0 : -A≤a) (h1:a≤A) (h2 : -B≤b) (h3:b≤B) (hB:0≤B) : -(A*B)≤a*b∧a*b≤A*B:=by
 by_cases h:0≤a
 ·exact Gfr h h1 h2 h3 hB
 ·have:=Gfr (a:=-a) (A:=A) (by omega) (by omega) h2 h3 hB
  rw [Int.neg_mul] at this
  omega
def CvV (l:List Tam):Prop:=Gs3 l∧∀ p ∈ l,0≤p.Pressure∧p.Pressure≤3000
def DrV (d:Tai):Prop:=Gs4 d∧∀ x ∈ d.Rests,0≤x∧x≤900
def Gsb (r:Tae):Prop:=1≤r.Length∧r.Length≤400∧4≤r.Area∧r.Area≤30∧1≤r.Rest.Low∧r.Rest.Low≤20∧r.Rest.Low≤r.Rest.High∧r.Rest.High≤r.Rest.Low+2
def Gsc (r:Tae):Prop:=-10000000000≤r.Lift.Low∧r.Lift.Low≤r.Lift.High∧r.Lift.High≤10000000000

structure EqV (a:Taj) (s:Taf):Prop where
 f1:a.Fans.length≤2
 f2:s.Fans.length=a.Fans.length
 f3:∀ f ∈ a.Fans,CvV f.Curve
 d1:a.Doors.length≤2
 d2:s.Doors.length=a.Doors.length
 d3:∀ d ∈ a.Doors,DrV d
theorem Gqs {a b A:Int} (h0 : -A≤a) (h1:a≤A) (hb:1≤b) : -A≤a.tdiv b∧a.tdiv b≤A:=by
 by_cases h:0≤a
 ·have e1:0≤a.tdiv b:=Int.tdiv_nonneg h (by omega)
  have e2:a.tdiv b≤a:=Int.tdiv_le_self _ h
  omega
 ·have e1:0≤(-a).tdiv b:=Int.tdiv_nonneg (by omega) (by omega)
  have e2:(-a).tdiv b ≤ -a:=Int.tdiv_le_self _ (by omega)
  rw [Int.neg_tdiv] at e1 e2
  omega
def SpB (s:Taa):Prop:=-6010000≤s.Low∧s.Low≤6010000 ∧ -6010000≤s.High∧s.High≤6010000
def RV (r:Tae):Prop:=r.From≠r.To∧Gsb r∧Gsc r
def PlV (l:List Tac):Prop:=∀ p ∈ l,Ge7 p=false
theorem Go8 {p:Tac} (h0 : -10000≤p.Height) (h1:p.Height≤10000):Ge7 p=false:=by
 unfold Ge7
 exact decide_eq_false (by omega)
structure MdV (pls:List Tac) (net:List Int) (a:Taj) (x:Tan) (c:Tab) (b k:Nat):Prop where
 s:MdS pls.length net a x c b k
 pe:a.Mine.Places=pls
 rv:∀ r ∈ a.Mine.Roads,RV r
 pb:∀ p ∈ x.Pressures,-4000≤p∧p≤4000
def MnV (m:Tah):Prop:=(PlV m.Places∧∀ r ∈ m.Roads,RV r)∧m.Places.length≤7
theorem Gsd {n:Nat} {k:Int}:bt (List.replicate n false) k=false:=by
 unfold bt
 by_cases hh:k.toNat<n
 ·rw [List.getElem?_replicate_of_lt hh];rfl
 ·rw [List.getElem?_eq_none (by simpa using hh)];rfl
def Gtj (m:Tah) (l:List Int) (o:List Bool):List Bool:=l.foldl (fun o i=>(o.set (rd0 m i.toNat).From.toNat true).set (rd0 m i.toNat).To.toNat true) o
def Gep (f:Taa):Int:=if f.High<f.Low then 0 else if 0<f.Low then 1 else if f.High<0 then -1 else 0
theorem Gse (f:Taa):Fbn f=some (Gep f)∧Ffa f=some (Gep f):=by
 unfold Fbn Ffa Gep
 constructor <;> (simp only [Gmk];split;rfl;split;rfl;split <;> rfl)
def upF (n b:Int):Int:=n.tdiv b+min (n.tmod b) 1
def Gf7 (f:Taa) (n:Int):Int:=if n=0 then 0 else if Gep f=1 then min 1000000 (upF n f.Low) else if Gep f = -1 then min 1000000 (upF n (0-f.High)) else 1000000
theorem Ghm {n b:Int} (hn:0≤n) (hb:1≤b):0≤n.tdiv b∧n.tdiv b≤n∧0≤n.tmod b∧n.tmod b<b :=
 ⟨Int.tdiv_nonneg hn (by omega),Int.tdiv_le_self _ hn,Int.tmod_nonneg b hn,Int.tmod_lt_of_pos n (by omega)⟩
theorem Gmq (f:Taa) (n:Int) (hn:0≤n) (hn1:n≤70368744177664) (hf : -4611686018427387904≤f.High):Faq f n=some (Gf7 f n):=by
 unfold Faq Gf7
 rw [(Gse f).1,bind_some]
 by_cases h1:Gep f=1
 ·have hl:0<f.Low:=by unfold Gep at h1;split at h1;cases h1;split at h1;assumption;split at h1 <;> cases h1
  obtain ⟨u1,u2,u3,u4⟩:=Ghm (n:=n) (b:=f.Low) hn (by omega)
  rw [Sj h1,bind_some]
  dsimp only [Sum.elim_inl]
  rw [Gi6 (by omega),bind_some,Ge5 (by omega),bind_some,w64 (n:=n.tdiv f.Low) (by omega) (by omega),w64 (by omega) (by omega),if_pos h1]
  by_cases h0:n=0
  ·subst h0
   rw [if_pos rfl,Int.zero_tdiv,Int.zero_tmod]
   rfl
  ·rw [if_neg h0,Int.min_comm]
   rfl
 ·rw [Kg h1,if_neg h1]
  by_cases h2:Gep f = -1
  ·have hl:f.High<0:=by unfold Gep at h2;split at h2;cases h2;split at h2;cases h2;split at h2;assumption;cases h2
   obtain ⟨u1,u2,u3,u4⟩:=Ghm (n:=n) (b:=0-f.High) hn (by omega)
   rw [Sj h2,bind_some,w64 (n:=0-f.High) (by omega) (by omega),show max (0-f.High) 1=0-f.High by omega]
   dsimp only [Sum.elim_inl]
   rw [Gi6 (by omega),bind_some,Ge5 (by omega),bind_some,w64 (n:=n.tdiv (0-f.High)) (by omega) (by omega),w64 (by omega) (by omega),if_pos h2]
   by_cases h0:n=0
   ·subst h0
    rw [if_pos rfl,Int.zero_tdiv,Int.zero_tmod]
    rfl
   ·rw [if_neg h0,Int.min_comm]
    rfl
  ·rw [Kg h2,if_neg h2]
   by_cases h0:n=0
   ·rw [Kg (by omega),if_pos h0];rfl
   ·rw [Sj (by omega),if_neg h0];rfl
theorem Gmr {f:Taa} {n:Int} (hn:0≤n):0≤Gf7 f n∧Gf7 f n≤1000000:=by
 unfold Gf7
 split
 ·omega
 ·split
  ·rename_i h1
   have hl:0<f.Low:=by unfold Gep at h1;split at h1;cases h1;split at h1;assumption;split at h1 <;> cases h1
   obtain ⟨u1,u2,u3,u4⟩:=Ghm (n:=n) (b:=f.Low) hn (by omega)
   unfold upF
   omega
  ·split
   ·rename_i h2
    have hl:f.High<0:=by unfold Gep at h2;split at h2;cases h2;split at h2;cases h2;split at h2;assumption;cases h2
    obtain ⟨u1,u2,u3,u4⟩:=Ghm (n:=n) (b:=0-f.High) hn (by omega)
    unfold upF
    omega
   ·omega

def Gay (n:Int) (s:Tal):Int:=if s.Road<0∨n≤s.Road then 4 else if Gcn s.Inflow 0 1099511627776=false then 1 else 0
def Gfs (m:Tah) (l:List Tal):Int:=if Gbm m≠0 then Gbm m else if 32<(l.length:Int) then 2 else Yi (Gay m.Roads.length) l
theorem Gkk {n:Int} {s:Tal} {β:Type} {i:β}:(bif decide (s.Road<0∨n≤s.Road) then some (Sum.inr (Sum.inl (4:Int))) else bif decide (Gcn s.Inflow 0 1099511627776=false) then some (Sum.inr (Sum.inl (1:Int))) else some (Sum.inl i):Option (β⊕(Int⊕Unit))) =
  if Gay n s=0 then some (.inl i) else some (.inr (.inl (Gay n s))):=by
 unfold Gay
 by_cases h1:s.Road<0∨n≤s.Road
 ·rw [Sj h1,if_pos h1,if_neg (by decide)]
 ·rw [Kg h1,if_neg h1]
  by_cases h2:Gcn s.Inflow 0 1099511627776=false
  ·rw [Sj h2,if_pos h2,if_neg (by decide)]
  ·rw [Kg h2,if_neg h2,if_pos rfl]
theorem Gnt (m:Tah) (l:List Tal) (hs:Sz m):Fes m l=some (Gfs m l)∧Ff6 m l=some (Gfs m l):=by
 have a1:l.length≤32→Sb (Fck m l) 0=some (if Yi (Gay m.Roads.length) l=0 then .inr () else .inl (Yi (Gay m.Roads.length) l)):=fun hl=>by
  refine Gc1 l _ (fun i x hx=>?_) (by unfold Fck;rw [Kg (by omega)])
  have hi:=(List.getElem?_eq_some_iff.1 hx).1
  unfold Fck
  rw [Sj (by omega),Jv,hx,bind_some,Vx rfl,bind_some,Vx (Vx rfl),bind_some,w64 (by omega) (by omega),← Gkk]
  by_cases h1:x.Road<0∨(m.Roads.length:Int)≤x.Road
  ·rw [Sj h1,Sj h1]
  ·rw [Kg h1,Kg h1]
   by_cases h2:x.Inflow.Low<0∨x.Inflow.High<x.Inflow.Low∨1099511627776<x.Inflow.High
   ·rw [Sj h2,Sj (by unfold Gcn;exact decide_eq_false (by omega))]
   ·rw [Kg h2,Kg (by unfold Gcn;rw [decide_eq_true (by omega)];simp)]
 have a2:l.length≤32→Sb (Fdq m l) 0=some (if Yi (Gay m.Roads.length) l=0 then .inr () else .inl (Yi (Gay m.Roads.length) l)):=fun hl=>by
  refine Gc1 l _ (fun i x hx=>?_) (by unfold Fdq;rw [Kg (by omega)])
  have hi:=(List.getElem?_eq_some_iff.1 hx).1
  unfold Fdq
  rw [Sj (by omega),Jv,hx,bind_some,bind_some,Vx rfl,bind_some,bind_some,(Ge9 _ _ _).2,bind_some,w64 (by omega) (by omega),← Gkk]
  cases Gcn x.Inflow 0 1099511627776 <;> rfl
 unfold Fes Ff6 Gfs
 rw [(Gd1 m hs).1,(Gd1 m hs).2,bind_some,bind_some]
 by_cases hc:Gbm m≠0
 ·rw [Sj hc,if_pos hc]
  exact ⟨rfl,by rw [Sj hc]⟩
 ·rw [Kg hc,if_neg hc,Kg hc]
  by_cases hl:32<(l.length:Int)
  ·rw [Sj hl,if_pos hl]
   exact ⟨rfl,by rw [Sj hl]⟩
  ·rw [Kg hl,if_neg hl,Kg hl,a1 (by omega),a2 (by omega),bind_some]
   by_cases h3:Yi (Gay m.Roads.length) l=0
   ·rw [if_pos h3,h3]
    exact ⟨rfl,rfl⟩
   ·rw [if_neg h3]
    exact ⟨rfl,rfl⟩

def nt (o:List Int) (k:Nat):Int:=(o[k]?).getD 0
theorem Uv {o:List Int} {k:Nat} (h:k<o.length):o[k]?=some (nt o k):=by
 unfold nt
 rw [List.getElem?_eq_getElem h]
 rfl
theorem Gaz {o:List Int} {i k:Nat} {v:Int} (hi:i<o.length):nt (o.set i v) k=if k=i then v else nt o k:=by
 unfold nt
 rw [List.getElem?_set]
 by_cases h:i=k
 ·rw [if_pos h,if_pos hi,if_pos h.symm];rfl
 ·rw [if_neg h,if_neg (fun e=>h e.symm)]
def inS (i:Int) (s:Int) (x:Tal):Int:=if x.Road=i then s+x.Inflow.High else s
def inF (l:List Tal) (i:Int):Int:=l.foldl (inS i) 0
def Gqt (n:Nat) (x:Tal):Prop:=0≤x.Road∧x.Road<(n:Int)∧0≤x.Inflow.High∧x.Inflow.High≤1099511627776
theorem Go9 {m:Tah} {l:List Tal} (h:Gfs m l=0):Gbm m=0∧l.length≤32∧∀ x ∈ l,Gqt m.Roads.length x:=by
 unfold Gfs at h
 split at h
 ·rename_i h1;exact absurd h h1
 ·split at h
  ·cases h
  ·rename_i h1 h2
   refine ⟨by omega,by omega,fun x hx=>?_⟩
   have:=Glk h x hx
   unfold Gay at this
   split at this
   ·cases this
   ·split at this
    ·cases this
    ·rename_i h3 h4
     have h5:Gcn x.Inflow 0 1099511627776=true:=by simpa using h4
     have:=of_decide_eq_true h5
     unfold Gqt
     omega
theorem Gnu {n:Nat} {l:List Tal} (hl:l.length≤32) (ho:∀ x ∈ l,Gqt n x):∃ o,Sb (Fce l) (0,List.replicate n (0:Int))=some o∧o.length=n∧∀ k,k<n→nt o k=inF l (k:Int)∧0≤nt o k∧nt o k≤35184372088832:=by
 have key:=Go4 l (fun (o:List Int) x=>o.set x.Road.toNat (nt o x.Road.toNat+x.Inflow.High)) (fun i o=>((i,o):Int×List Int)) id (g:=Fce l) (fun i o=>o.length=n∧∀ k,k<n→nt o k=(l.take i).foldl (inS (k:Int)) 0∧0≤nt o k∧nt o k≤1099511627776*(i:Int)) (fun i x o hx hI=>?_) (fun o _=>by unfold Fce;rw [Kg (by dsimp only;omega)];rfl) (List.replicate n 0) ⟨by simp,fun k hk=>?_⟩
 ·obtain ⟨k1,k2,k3⟩:=key
  refine ⟨_,k1,k2,fun k hk=>?_⟩
  obtain ⟨q1,q2,q3⟩:=k3 k hk
  rw [List.take_length] at q1
  exact ⟨q1,q2,by dsimp only [id] at q3 ⊢;omega⟩
 ·obtain ⟨h1,h2⟩:=hI
  have hi:=(List.getElem?_eq_some_iff.1 hx).1
  obtain ⟨s1,s2,s3,s4⟩:=ho x (List.mem_of_getElem? hx)
  obtain ⟨r,hr⟩:∃ r:Nat,x.Road=(r:Int):=⟨x.Road.toNat,by omega⟩
  have hrn:r<n:=by omega
  obtain ⟨q1,q2,q3⟩:=h2 r hrn
  refine ⟨?_,by rw [List.length_set];exact h1,fun k hk=>?_⟩
  ·unfold Fce
   dsimp only
   rw [Sj (by omega),Jv,hx,bind_some,hr,Jv,Uv (by omega),bind_some,bind_some,Int.toNat_natCast,w64 (n:=(i:Int)+1) (by omega) (by omega),w64 (by omega) (by omega)]
  ·have ht:l.take (i+1)=l.take i++[x]:=by rw [List.take_add_one,hx];rfl
   rw [ht,List.foldl_append,hr,Int.toNat_natCast,Gaz (by omega)]
   obtain ⟨p1,p2,p3⟩:=h2 k hk
   have e0:∀ v,inS (k:Int) v x=if (r:Int)=(k:Int) then v+x.Inflow.High else v:=fun v=>by unfold inS;rw [hr]
   show _=inS (k:Int) _ x∧_
   rw [e0,← p1]
   by_cases e:k=r
   ·subst e
    rw [if_pos rfl,if_pos rfl]
    exact ⟨rfl,by omega,by push_cast;omega⟩
   ·rw [if_neg e,if_neg (by omega)]
    exact ⟨rfl,p2,by push_cast;omega⟩
 ·have e:nt (List.replicate n (0:Int)) k=0:=by unfold nt;rw [List.getElem?_replicate_of_lt hk];rfl
  rw [e]
  exact ⟨rfl,by omega,by omega⟩

structure Sol (m:Tah) (f:List Taa) (mo p0 p r:Nat→Int):Prop where
 st:∀ k,k<m.Places.length→p0 k≤p k
 wy:∀ i d,i<m.Roads.length→can m f i d=true→min 1000000 (p (Zw m i d).from_.toNat+mo i)≤r i
 up:∀ i d,i<m.Roads.length→can m f i d=true→sf m (Zw m i d).to_=false→r i≤p (Zw m i d).to_.toNat
 no:∀ i,i<m.Roads.length→can m f i false=false→can m f i true=false→1000000≤r i
structure Inv (m:Tah) (f:List Taa) (mo p0:Nat→Int) (P R:List Int):Prop where
 lp:P.length=m.Places.length
 lr:R.length=m.Roads.length
 bp:∀ k,0≤nt P k∧nt P k≤1000000
 br:∀ k,0≤nt R k∧nt R k≤1000000
 s0:∀ k,k<m.Places.length→p0 k≤nt P k
 le:∀ p' r',Sol m f mo p0 p' r'→(∀ k,k<m.Places.length→nt P k≤p' k)∧(∀ i,i<m.Roads.length→nt R i≤r' i)
structure Lst (m:Tah) (f:List Taa) (mo p0:Nat→Int) (P R:List Int):Prop where
 iv:Inv m f mo p0 P R
 sol:Sol m f mo p0 (nt P) (nt R)
theorem Glm {a b:List Int} (hl:a.length=b.length) (h:∀ k,k<a.length→nt a k=nt b k):a=b:=by
 refine List.ext_getElem? fun k=>?_
 by_cases hk:k<a.length
 ·rw [Uv hk,Uv (by omega),h k hk]
 ·rw [List.getElem?_eq_none (by omega),List.getElem?_eq_none (by omega)]
/-! ### how far there Gpa is to go -/
def Gnv (o:List Int):Nat:=(o.map fun x=>(1000000-x).toNat).sum
theorem Ghn:∀ (o:List Int) (k:Nat) (n:Int),k<o.length→nt o k<n→n≤1000000→Gnv (o.set k n)<Gnv o
 | [],k,n,h,_,_=>by simp at h
 | x::o,0,n,_,h1,h2=>by
  unfold nt at h1
  simp at h1
  unfold Gnv
  simp
  omega
 | x::o,k+1,n,h,h1,h2=>by
  have:=Ghn o k n (by simpa using h) (by unfold nt at h1 ⊢;simpa using h1) h2
  unfold Gnv at this ⊢
  simp only [List.set_cons_succ,List.map_cons,List.sum_cons]
  omega
def muG (P R:List Int):Nat:=Gnv P+Gnv R
def Gbr (c:Bool) (o:List Int) (k:Nat) (n:Int):List Int:=bif c&&decide (nt o k<n) then o.set k n else o
theorem Gho {c:Bool} {o:List Int} {k:Nat} {n:Int}:(Gbr c o k n).length=o.length:=by
 unfold Gbr
 cases c&&decide (nt o k<n) <;> simp
theorem Gd2 {c:Bool} {o:List Int} {k:Nat} {n:Int} (hk:k<o.length) (j:Nat):nt (Gbr c o k n) j=if j=k∧c=true then max (nt o k) n else nt o j:=by
 unfold Gbr
 cases c with
 | false=>simp
 | true =>
  by_cases h:nt o k<n
  ·rw [decide_eq_true h]
   show nt (o.set k n) j=_
   rw [Gaz hk]
   by_cases e:j=k
   ·rw [if_pos e,if_pos ⟨e,rfl⟩];omega
   ·rw [if_neg e,if_neg (fun h=>e h.1)]
  ·rw [decide_eq_false h]
   show nt o j=_
   by_cases e:j=k
   ·subst e;rw [if_pos ⟨rfl,rfl⟩];omega
   ·rw [if_neg (fun h=>e h.1)]
theorem Ggh {c:Bool} {o:List Int} {k:Nat} {n:Int} (hk:k<o.length) (j:Nat):nt o j≤nt (Gbr c o k n) j:=by
 rw [Gd2 hk]
 split
 ·rename_i h;rw [h.1];omega
 ·omega
structure Kp (m:Tah) (f:List Taa) (mo p0:Nat→Int) (P0 R0:List Int) (ag:Bool) (P R:List Int):Prop where
 iv:Inv m f mo p0 P R
 mu:muG P R≤muG P0 R0
 t:ag=true→muG P R<muG P0 R0
 un:ag=false→P=P0∧R=R0
theorem Kp.road {m:Tah} {f:List Taa} {mo p0:Nat→Int} {P0 R0 P R:List Int} {ag:Bool} (h:Kp m f mo p0 P0 R0 ag P R) {i:Nat} {n:Int} (hi:i<m.Roads.length) (hb:0≤n∧n≤1000000) (hn:∀ p' r',Sol m f mo p0 p' r'→n≤r' i) :
  Kp m f mo p0 P0 R0 (ag||decide (nt R i<n)) P (Gbr true R i n):=by
 have hl:i<R.length:=by rw [h.iv.lr];exact hi
 have hiv:Inv m f mo p0 P (Gbr true R i n):=by
  refine ⟨h.iv.lp,Gho.trans h.iv.lr,h.iv.bp,fun k=>?_,h.iv.s0,fun p' r' hs=>⟨(h.iv.le p' r' hs).1,fun j hj=>?_⟩⟩
  ·rw [Gd2 hl]
   have:=h.iv.br k
   split
   ·have:=h.iv.br i;omega
   ·exact this
  ·rw [Gd2 hl]
   have h1:=(h.iv.le p' r' hs).2 j hj
   split
   ·rename_i e;rw [e.1] at h1 ⊢;have:=hn p' r' hs;omega
   ·exact h1
 by_cases hlt:nt R i<n
 ·have hs:=Ghn R i n hl hlt hb.2
  have e:Gbr true R i n=R.set i n:=by unfold Gbr;rw [decide_eq_true hlt];rfl
  rw [e] at hiv ⊢
  have:=h.mu
  unfold muG at this
  rw [decide_eq_true hlt,Bool.or_true]
  exact ⟨hiv,by unfold muG;omega,fun _=>by unfold muG;omega,fun h=>by cases h⟩
 ·have e:Gbr true R i n=R:=by unfold Gbr;rw [decide_eq_false hlt];rfl
  rw [e,decide_eq_false hlt,Bool.or_false]
  exact h
theorem Kp.place {m:Tah} {f:List Taa} {mo p0:Nat→Int} {P0 R0 P R:List Int} {ag:Bool} (h:Kp m f mo p0 P0 R0 ag P R) {k:Nat} {n:Int} {c:Bool} (hk:k<m.Places.length) (hb:0≤n∧n≤1000000) (hn:c=true→∀ p' r',Sol m f mo p0 p' r'→n≤p' k) :
  Kp m f mo p0 P0 R0 (ag||(c&&decide (nt P k<n))) (Gbr c P k n) R:=by
 cases c with
 | false =>
  rw [Bool.false_and,Bool.or_false]
  exact h
 | true =>
 have hn:=hn rfl
 rw [Bool.true_and]
 have hl:k<P.length:=by rw [h.iv.lp];exact hk
 have hiv:Inv m f mo p0 (Gbr true P k n) R:=by
  refine ⟨Gho.trans h.iv.lp,h.iv.lr,fun j=>?_,h.iv.br,fun j hj=>?_,fun p' r' hs=>⟨fun j hj=>?_,(h.iv.le p' r' hs).2⟩⟩
  ·rw [Gd2 hl]
   have:=h.iv.bp j
   split
   ·have:=h.iv.bp k;omega
   ·exact this
  ·have:=Ggh (c:=true) (n:=n) hl j
   have:=h.iv.s0 j hj
   omega
  ·rw [Gd2 hl]
   have h1:=(h.iv.le p' r' hs).1 j hj
   split
   ·rename_i e;rw [e.1] at h1 ⊢;have:=hn p' r' hs;omega
   ·exact h1
 by_cases hlt:nt P k<n
 ·have hs:=Ghn P k n hl hlt hb.2
  have e:Gbr true P k n=P.set k n:=by unfold Gbr;rw [decide_eq_true hlt];rfl
  rw [e] at hiv ⊢
  have:=h.mu
  unfold muG at this
  rw [decide_eq_true hlt,Bool.or_true]
  exact ⟨hiv,by unfold muG;omega,fun _=>by unfold muG;omega,fun h=>by cases h⟩
 ·have e:Gbr true P k n=P:=by unfold Gbr;rw [decide_eq_false hlt];rfl
  rw [e,decide_eq_false hlt,Bool.or_false]
  exact h

/-! ### the program's search -/
def nF (m:Tah) (f:List Taa) (mo:Nat→Int) (P:List Int) (i:Nat):Int :=
 if can m f i false=false∧can m f i true=false then 1000000 else
  min ((if can m f i true=true then max (if can m f i false=true then nt P (rd0 m i).From.toNat else 0) (nt P (rd0 m i).To.toNat) else (if can m f i false=true then nt P (rd0 m i).From.toNat else 0))+mo i) 1000000
theorem Gqu {m:Tah} {f:List Taa} {mo:Nat→Int} {P P':List Int} (h:∀ k,nt P k≤nt P' k) (i:Nat):nF m f mo P i≤nF m f mo P' i:=by
 have a:=h (rd0 m i).From.toNat
 have b:=h (rd0 m i).To.toNat
 unfold nF
 split
 ·omega
 ·split <;> split <;> omega
theorem Grr {m:Tah} {f:List Taa} {mo:Nat→Int} {P:List Int} {i:Nat} (hm:0≤mo i∧mo i≤1000000) (hb:∀ k,0≤nt P k∧nt P k≤1000000):0≤nF m f mo P i∧nF m f mo P i≤1000000:=by
 have a:=hb (rd0 m i).From.toNat
 have b:=hb (rd0 m i).To.toNat
 unfold nF
 split
 ·omega
 ·split <;> split <;> omega
theorem Gs8 {m:Tah} {f:List Taa} {mo p0:Nat→Int} {P R:List Int} (hR:Rt m) (hv:Inv m f mo p0 P R) {i:Nat} (hi:i<m.Roads.length) {p' r':Nat→Int} (hs:Sol m f mo p0 p' r'):nF m f mo P i≤r' i:=by
 obtain ⟨r1,r2,r3,r4⟩:=hR.rd (rd0 m i) (List.mem_of_getElem? (Xg hi))
 have hp:=(hv.le p' r' hs).1
 have a:=hp (rd0 m i).From.toNat (by omega)
 have b:=hp (rd0 m i).To.toNat (by omega)
 have w1:=hs.wy i false hi
 have w2:=hs.wy i true hi
 have w3:=hs.no i hi
 rw [show (Zw m i false).from_=(rd0 m i).From from rfl] at w1
 rw [show (Zw m i true).from_=(rd0 m i).To from rfl] at w2
 have:=hv.bp (rd0 m i).To.toNat
 unfold nF
 cases c1:can m f i false <;> cases c2:can m f i true <;> rw [c1] at w1 w3 <;> rw [c2] at w2 w3 <;> simp <;> simp at w1 w2 w3 <;> omega
def Fx (m:Tah) (f:List Taa) (mo:Nat→Int) (P R:List Int) (i:Nat):Prop :=
 nF m f mo P i≤nt R i∧(can m f i false=true→sf m (rd0 m i).To=false→nF m f mo P i≤nt P (rd0 m i).To.toNat)∧(can m f i true=true→sf m (rd0 m i).From=false→nF m f mo P i≤nt P (rd0 m i).From.toNat)
def Rn (m:Tah) (f:List Taa) (mo:Nat→Int) (P R:List Int):Prop:=∀ i,i<m.Roads.length→nt R i≤nF m f mo P i
theorem Gsf {m:Tah} {f:List Taa} {mo p0:Nat→Int} {P R:List Int} (hv:Inv m f mo p0 P R) (hn:Rn m f mo P R) (hf:∀ i,i<m.Roads.length→Fx m f mo P R i):Lst m f mo p0 P R:=by
 refine ⟨hv,hv.s0,fun i d hi hc=>?_,fun i d hi hc ht=>?_,fun i hi h1 h2=>?_⟩
 ·have h:=(hf i hi).1
  refine Int.le_trans ?_ h
  unfold nF
  cases d with
  | false =>
   rw [show (Zw m i false).from_=(rd0 m i).From from rfl,if_neg (by rw [hc];simp)]
   simp only [hc,if_true]
   split <;> omega
  | true =>
   rw [show (Zw m i true).from_=(rd0 m i).To from rfl,if_neg (by rw [hc];simp)]
   simp only [hc,if_true]
   omega
 ·have h:=hn i hi
  obtain ⟨_,h2,h3⟩:=hf i hi
  cases d with
  | false=>exact Int.le_trans h (h2 hc ht)
  | true=>exact Int.le_trans h (h3 hc ht)
 ·have h:=(hf i hi).1
  unfold nF at h
  rwa [if_pos ⟨h1,h2⟩] at h
theorem Ga0 {o:List Int} {k:Int} (h0:0≤k) (h1:k<(o.length:Int)):Kl o k=some (nt o k.toNat):=by
 obtain ⟨n,rfl⟩:∃ n:Nat,k=(n:Int):=⟨k.toNat,by omega⟩
 rw [Jv,Int.toNat_natCast]
 exact Uv (by omega)
theorem Ghp {β:Type} {c ag:Bool} {o:List Int} {k:Int} {n:Int} (h0:0≤k) (h1:k<(o.length:Int)) (mk:Bool→List Int→β) :
  (bif c&&decide (nt o k.toNat<n) then (Kl o k).bind fun _=>some (mk true (o.set k.toNat n)) else some (mk ag o))=some (mk (ag||(c&&decide (nt o k.toNat<n))) (Gbr c o k.toNat n)):=by
 unfold Gbr
 cases c&&decide (nt o k.toNat<n) with
 | false=>rw [cond_false,cond_false,Bool.or_false]
 | true=>rw [cond_true,cond_true,Bool.or_true,Ga0 h0 h1,bind_some]
theorem Gms {m:Tah} {k:Int} (h0:0≤k) (h1:k<(m.Places.length:Int)) {c:Bool} {x:Bool}:(bif c then (Kl m.Places k).bind fun p=>bif !p.Surface then some x else some false else some false)=some (c&&(!sf m k&&x)):=by
 obtain ⟨p,hp,hs⟩:=Ghi h0 h1
 rw [hp,bind_some,← hs]
 cases c <;> cases p.Surface <;> cases x <;> rfl
theorem Gs9 {m:Tah} {f:List Taa} {mo p0:Nat→Int} {o8:List Int} (hR:Rt m) (hf:f.length=m.Roads.length) (h8:o8.length=m.Roads.length) (hm:∀ i,i<m.Roads.length→Faq (sp0 f i) (nt o8 i)=some (mo i)∧0≤mo i∧mo i≤1000000)
  {P0 R0:List Int} (hv:Inv m f mo p0 P0 R0) (hn:Rn m f mo P0 R0) :
  Ok (Sb (Fd3 m f o8) (0,false,P0,R0)) fun o=>Kp m f mo p0 P0 R0 o.1 o.2.1 o.2.2∧Rn m f mo o.2.1 o.2.2∧(o.1=false→∀ i,i<m.Roads.length→Fx m f mo P0 R0 i):=by
 refine Uo (fun s:Int×Bool×List Int×List Int=>0≤s.1∧s.1≤m.Roads.length∧Kp m f mo p0 P0 R0 s.2.1 s.2.2.1 s.2.2.2∧Rn m f mo s.2.2.1 s.2.2.2∧(s.2.1=false→∀ i:Nat,(i:Int)<s.1→Fx m f mo P0 R0 i)) (fun s=>(m.Roads.length-s.1).toNat) _ (fun s hs=>?_) _ ⟨Int.le_refl 0,by dsimp only;omega,⟨hv,Nat.le_refl _,(fun h=>by cases h),fun _=>⟨rfl,rfl⟩⟩,hn,fun _ i hi=>by dsimp only at hi;omega⟩
 obtain ⟨i',ag,P,R⟩:=s
 obtain ⟨a1,a2,a3,a4,a5⟩:=hs
 dsimp only at a1 a2 a3 a4 a5
 unfold Fd3
 dsimp only
 refine Ud (fun hlt=>?_) (fun hge=>Je ⟨a3,a4,fun h j hj=>a5 h j (by omega)⟩)
 obtain ⟨i,rfl⟩:∃ i:Nat,i'=(i:Int):=⟨i'.toNat,by omega⟩
 have hi:i<m.Roads.length:=by omega
 have e1:IntKind.i64.wrap ((i:Int)+1)=(i:Int)+1:=w64 (by have:=hR.r1;omega) (by have:=hR.r1;omega)
 obtain ⟨r1,r2,r3,r4⟩:=hR.rd (rd0 m i) (List.mem_of_getElem? (Xg hi))
 have hPl:=a3.iv.lp
 have hRl:=a3.iv.lr
 rw [e1,Jv (l:=m.Roads),Xg hi,bind_some]
 have eon:((bif (!(rd0 m i).Closed) then
   (Kl f (i:Int)).bind fun x68 =>
   (Kl f (i:Int)).bind fun x70 =>
   some ((decide (0<x68.High)),(decide (x70.Low<0)))
  else
   some (false,false)):Option (Bool×Bool))=some (can m f i false,can m f i true):=by
  rw [Jv,Ggg (by omega),bind_some,bind_some]
  unfold can
  cases (rd0 m i).Closed <;> rfl
 rw [eon,bind_some]
 dsimp only
 have hmi:=hm i hi
 have hbF:=a3.iv.bp (rd0 m i).From.toNat
 have hbT:=a3.iv.bp (rd0 m i).To.toNat
 have en:((bif (!can m f i false) then
   some (!can m f i true)
  else
   some false).bind fun o73 =>
  bif o73 then
   some 1000000
  else
   (bif can m f i false then
    (Kl P (rd0 m i).From).bind fun x78 =>
    some x78
   else
    some 0).bind fun o76 =>
   (bif can m f i true then
    (Kl P (rd0 m i).To).bind fun x82 =>
    some (max o76 x82)
   else
    some o76).bind fun o80 =>
   (Kl f (i:Int)).bind fun x84 =>
   (Kl o8 (i:Int)).bind fun x86 =>
   (Faq x84 x86).bind fun x88 =>
   some (min (IntKind.i64.wrap (o80+x88)) 1000000))=some (nF m f mo P i):=by
  rw [Ga0 r1 (by omega),Ga0 r3 (by omega),Jv (l:=f),Ggg (by omega),Jv (l:=o8),Uv (by omega)]
  unfold nF
  cases can m f i false <;> cases can m f i true
  ·rfl
  ·show ((Faq _ _).bind _)=_
   rw [hmi.1,bind_some]
   rw [w64 (by omega) (by omega)]
   simp
  ·show ((Faq _ _).bind _)=_
   rw [hmi.1,bind_some]
   rw [w64 (by omega) (by omega)]
   simp
  ·show ((Faq _ _).bind _)=_
   rw [hmi.1,bind_some]
   rw [w64 (by omega) (by omega)]
   simp
 rw [en,bind_some]
 have nb:=Grr (m:=m) (f:=f) (P:=P) (i:=i) ⟨hmi.2.1,hmi.2.2⟩ a3.iv.bp
 have nle:∀ p' r',Sol m f mo p0 p' r'→nF m f mo P i≤r' i:=fun p' r' hs=>Gs8 hR a3.iv hi hs
 generalize hnn:nF m f mo P i=n at *
 have u1:=Ghp (c:=true) (ag:=ag) (o:=R) (k:=(i:Int)) (n:=n) (by omega) (by omega) (fun b o=>((b,o):Bool×List Int))
 rw [Int.toNat_natCast,Bool.true_and] at u1
 rw [Ga0 (o:=R) (by omega) (by omega),bind_some,Int.toNat_natCast]
 rw [Ga0 (o:=R) (by omega) (by omega),Int.toNat_natCast] at u1
 rw [u1,bind_some]
 dsimp only
 rw [Ga0 (o:=P) r3 (by omega),bind_some,Gms r3 r4,bind_some]
 have u2:=Ghp (c:=can m f i false&&!sf m (rd0 m i).To) (ag:=ag||decide (nt R i<n)) (o:=P) (k:=(rd0 m i).To) (n:=n) r3 (by omega) (fun b o=>((b,o):Bool×List Int))
 rw [Bool.and_assoc,Ga0 (o:=P) r3 (by omega)] at u2
 rw [u2,bind_some]
 dsimp only
 have hP1:(Gbr (can m f i false&&!sf m (rd0 m i).To) P (rd0 m i).To.toNat n).length=m.Places.length:=Gho.trans hPl
 have k1:=a3.road hi nb nle
 have k2:=k1.place (k:=(rd0 m i).To.toNat) (n:=n) (c:=can m f i false&&!sf m (rd0 m i).To) (by omega) nb (fun hc p' r' hs=>by
  rw [Bool.and_eq_true] at hc
  exact Int.le_trans (nle p' r' hs) (hs.up i false hi hc.1 (by rw [← Bool.not_eq_true'];exact hc.2)))
 rw [Bool.and_assoc] at k2
 generalize hP1e:Gbr (can m f i false&&!sf m (rd0 m i).To) P (rd0 m i).To.toNat n=P1 at *
 have k3:=k2.place (k:=(rd0 m i).From.toNat) (n:=n) (c:=can m f i true&&!sf m (rd0 m i).From) (by omega) nb (fun hc p' r' hs=>by
  rw [Bool.and_eq_true] at hc
  exact Int.le_trans (nle p' r' hs) (hs.up i true hi hc.1 (by rw [← Bool.not_eq_true'];exact hc.2)))
 rw [Ga0 (o:=P1) r1 (by omega),bind_some,Gms r1 r2,bind_some]
 have u3:=Ghp (c:=can m f i true&&!sf m (rd0 m i).From) (ag:=(ag||decide (nt R i<n))||(can m f i false&&(!sf m (rd0 m i).To&&decide (nt P (rd0 m i).To.toNat<n)))) (o:=P1) (k:=(rd0 m i).From) (n:=n) r1 (by omega) (fun b o=>((b,o,Gbr true R i n):Bool×List Int×List Int))
 rw [Bool.and_assoc,Ga0 (o:=P1) r1 (by omega)] at u3
 rw [u3,bind_some]
 rw [Bool.and_assoc] at k3
 have hrn:Rn m f mo (Gbr (can m f i true&&!sf m (rd0 m i).From) P1 (rd0 m i).From.toNat n) (Gbr true R i n):=fun j hj=>by
  have hmono:nF m f mo P j≤nF m f mo (Gbr (can m f i true&&!sf m (rd0 m i).From) P1 (rd0 m i).From.toNat n) j:=Gqu (fun k=>by
   refine Int.le_trans ?_ (Ggh (by omega) k)
   rw [← hP1e]
   exact Ggh (by omega) k) j
  rw [Gd2 (by omega)]
  have:=a4 j hj
  split
  ·rename_i e
   have:=e.1
   subst this
   omega
  ·omega
 refine Je ⟨⟨by omega,by omega,k3,hrn,fun hfl j hj=>?_⟩,by dsimp only;omega⟩
 dsimp only at hfl
 rw [Bool.or_eq_false_iff,Bool.or_eq_false_iff,Bool.or_eq_false_iff] at hfl
 obtain ⟨⟨⟨f0,f1⟩,f2⟩,f3⟩:=hfl
 by_cases hji:j=i
 ·subst hji
  obtain ⟨e1,e2⟩:=a3.un f0
  subst e1;subst e2
  have g1:=of_decide_eq_false f1
  refine ⟨by rw [hnn];omega,fun hc hsf=>?_,fun hc hsf=>?_⟩
  ·rw [hc,hsf] at f2
   have:=of_decide_eq_false (show decide _=false from f2)
   rw [hnn]
   omega
  ·rw [hc,hsf] at f3
   have:=of_decide_eq_false (show decide _=false from f3)
   have hh:=Ggh (c:=can m f j false&&!sf m (rd0 m j).To) (n:=n) (show (rd0 m j).To.toNat<P.length by omega) (rd0 m j).From.toNat
   have k2f:=(k2.un (by rw [f0,f1,f2];rfl)).1
   rw [k2f] at this
   rw [hnn]
   omega
 ·exact a5 f0 j (by dsimp only at hj;omega)
theorem Gqv {m:Tah} {f:List Taa} {mo p0:Nat→Int} {o8:List Int} (hR:Rt m) (hf:f.length=m.Roads.length) (h8:o8.length=m.Roads.length) (hm:∀ i,i<m.Roads.length→Faq (sp0 f i) (nt o8 i)=some (mo i)∧0≤mo i∧mo i≤1000000)
  {P0 R0:List Int} (hv:Inv m f mo p0 P0 R0) (hn:Rn m f mo P0 R0):Ok (Sb (Fd2 m f o8) (true,P0,R0)) fun o=>Lst m f mo p0 o.1 o.2:=by
 refine Uo (fun s:Bool×List Int×List Int=>Inv m f mo p0 s.2.1 s.2.2∧Rn m f mo s.2.1 s.2.2∧(s.1=false→∀ i,i<m.Roads.length→Fx m f mo s.2.1 s.2.2 i)) (fun s=>bif s.1 then muG s.2.1 s.2.2+1 else 0) _ (fun s hs=>?_) _ ⟨hv,hn,fun h=>by cases h⟩
 obtain ⟨ag,P,R⟩:=s
 obtain ⟨a1,a2,a3⟩:=hs
 dsimp only at a1 a2 a3
 unfold Fd2
 dsimp only
 cases ag with
 | false=>exact Je (Gsf a1 a2 (a3 rfl))
 | true =>
  refine Jt (Gs9 hR hf h8 hm a1 a2) fun o ho=>Je ⟨⟨ho.1.iv,ho.2.1,fun h=>?_⟩,?_⟩
  ·obtain ⟨e1,e2⟩:=ho.1.un h
   dsimp only
   rw [e1,e2]
   exact ho.2.2 h
  ·show (bif o.1 then _ else _)<muG P R+1
   cases h:o.1 with
   | false=>exact Nat.succ_pos _
   | true=>have:=ho.1.t h;show muG o.2.1 o.2.2+1<_;omega
def Fr (m:Tah) (f:List Taa) (mo:Nat→Int) (P R:List Int) (i:Nat) (d:Bool):Prop :=
 can m f i d=true→min 1000000 (nt P (Zw m i d).from_.toNat+mo i)≤nt R i∧(sf m (Zw m i d).to_=false→nt R i≤nt P (Zw m i d).to_.toNat)
def NoR (m:Tah) (f:List Taa) (R:List Int):Prop:=∀ i,i<m.Roads.length→can m f i false=false→can m f i true=false→1000000≤nt R i
def Gpb (m:Tah) (f:List Taa) (n:Nat) (k:Nat):Prop:=∃ j d,j<n∧can m f j d=true∧(Zw m j d).to_=(k:Int)
def stC (m:Tah) (f:List Taa) (k:Nat):Prop:=sf m k=false∧(¬ Gpb m f m.Roads.length k∨(k:Int) ∈ Gcf m f)
open Classical in
noncomputable def p0F (m:Tah) (f:List Taa) (k:Nat):Int:=if stC m f k then 1000000 else 0
theorem Gln (m:Tah) (f:List Taa) (k:Nat):0≤p0F m f k∧p0F m f k≤1000000:=by
 unfold p0F
 split <;> omega
theorem Gbd {n k:Nat}:nt (List.replicate n (0:Int)) k=0:=by
 unfold nt
 rw [List.getElem?_replicate]
 split <;> rfl
theorem Gkl {m:Tah} {f:List Taa} {v:Int} (h:v ∈ Gcf m f):0≤v∧v<(m.Places.length:Int):=by
 obtain ⟨_,h1,h2,_⟩:=Gik.1 h
 exact ⟨h1,h2⟩
theorem Gft {m:Tah} {k:Nat} (h:k<m.Places.length):∃ p,m.Places[k]?=some p∧p.Surface=sf m k:=by
 obtain ⟨p,h1,h2⟩:=Ghi (m:=m) (k:=(k:Int)) (by omega) (by omega)
 rw [Jv] at h1
 exact ⟨p,h1,h2⟩

/-! ### the program -/
theorem Gtk {m:Tah} {f:List Taa} (hr:rtB m f=true):Ok (Sb (Fdz (Gd9 m f)) (0,List.replicate m.Places.length false)) fun o=>o.length=m.Places.length∧∀ k,k<m.Places.length→(bt o k=true↔Gpb m f m.Roads.length k):=by
 obtain ⟨hR,hl⟩:=Ghf hr
 have hw:=Gns (m:=m) (f:=f)
 have hr1:=hR.r1
 have hwo:∀ w ∈ Gd9 m f,0≤w.a1∧w.a1<(m.Places.length:Int):=fun w hw=>by
  unfold Gd9 at hw
  rw [if_pos hr] at hw
  obtain ⟨a,ha,rfl⟩:=List.mem_map.1 hw
  have:=Ghh (f:=f) hR a ha
  exact ⟨this.2.2.1,this.2.2.2⟩
 have hfed:∀ k:Nat,(∃ w ∈ Gd9 m f,w.a1=(k:Int))↔Gpb m f m.Roads.length k:=fun k=>by
  unfold Gd9
  rw [if_pos hr]
  constructor
  ·rintro ⟨w,hw,hk⟩
   obtain ⟨a,ha,rfl⟩:=List.mem_map.1 hw
   obtain ⟨i,d,hi,hc,rfl⟩:=Gfp.1 ha
   exact ⟨i,d,hi,hc,hk⟩
  ·rintro ⟨i,d,hi,hc,hk⟩
   exact ⟨Gmn (Zw m i d),List.mem_map.2 ⟨_,Gfp.2 ⟨i,d,hi,hc,rfl⟩,rfl⟩,hk⟩
 generalize Gd9 m f=l at *
 refine Uo (fun s:Int×List Bool=>0≤s.1∧s.1≤l.length∧s.2.length=m.Places.length∧∀ k:Nat,k<m.Places.length→(bt s.2 k=true↔∃ w ∈ l.take s.1.toNat,w.a1=(k:Int))) (fun s=>(l.length-s.1).toNat) _ (fun s hs=>?_) _ ⟨Int.le_refl 0,by dsimp only;omega,by simp,fun k hk=>by dsimp only;rw [Gsd];simp⟩
 obtain ⟨i',o⟩:=s
 obtain ⟨a1,a2,a3,a4⟩:=hs
 dsimp only at a1 a2 a3 a4
 unfold Fdz
 dsimp only
 refine Ud (fun hlt=>?_) (fun hge=>Je ⟨a3,fun k hk=>?_⟩)
 ·obtain ⟨i,rfl⟩:∃ i:Nat,i'=(i:Int):=⟨i'.toNat,by omega⟩
  have hg:=List.getElem?_eq_getElem (show i<l.length by omega)
  have hx:=hwo _ (List.getElem_mem (show i<l.length by omega))
  have e1:IntKind.i64.wrap ((i:Int)+1)=(i:Int)+1:=w64 (by omega) (by omega)
  generalize l[i]'(by omega)=w at *
  rw [e1,Jv,hg,bind_some,Gc3 hx.1 (by omega),bind_some]
  refine Je ⟨⟨by dsimp only;omega,by dsimp only;omega,by simpa using a3,fun k hk=>?_⟩,by dsimp only;omega⟩
  dsimp only
  have ht:l.take ((i:Int)+1).toNat=l.take i++[w]:=by rw [show ((i:Int)+1).toNat=i+1 by omega,List.take_add_one,hg];rfl
  have h4:=a4 k hk
  rw [Int.toNat_natCast] at h4
  rw [ht,Gi8 (by omega) (by omega),show ((w.a1.toNat:Nat):Int)=w.a1 by omega]
  by_cases e:(k:Int)=w.a1
  ·rw [if_pos e]
   exact ⟨fun _=>⟨w,by simp,e.symm⟩,fun _=>rfl⟩
  ·rw [if_neg e,h4]
   constructor
   ·rintro ⟨w',h1,h2⟩
    exact ⟨w',List.mem_append_left _ h1,h2⟩
   ·rintro ⟨w',h1,h2⟩
    rcases List.mem_append.1 h1 with h1 | h1
    ·exact ⟨w',h1,h2⟩
    ·simp at h1;subst h1;exact absurd h2.symm e
 ·rw [a4 k hk,← hfed k,List.take_of_length_le (by omega)]
theorem Gtl {m:Tah} (hP:m.Places.length≤64) {c:List Bool} (hc:c.length=m.Places.length):Ok (Sb (Fd0 m c) (0,List.replicate m.Places.length (0:Int))) fun o=>o.length=m.Places.length∧∀ k,k<m.Places.length→nt o k=if sf m k=false∧bt c k=false then 1000000 else 0:=by
 refine Uo (fun s:Int×List Int=>0≤s.1∧s.1≤m.Places.length∧s.2.length=m.Places.length∧∀ k:Nat,k<m.Places.length→nt s.2 k=if (k:Int)<s.1∧sf m k=false∧bt c k=false then 1000000 else 0) (fun s=>(m.Places.length-s.1).toNat) _ (fun s hs=>?_) _ ⟨Int.le_refl 0,by dsimp only;omega,by simp,fun k hk=>by dsimp only;rw [Gbd,if_neg (fun h=>by omega)]⟩
 obtain ⟨i',o⟩:=s
 obtain ⟨a1,a2,a3,a4⟩:=hs
 dsimp only at a1 a2 a3 a4
 unfold Fd0
 dsimp only
 refine Ud (fun hlt=>?_) (fun hge=>Je ⟨a3,fun k hk=>?_⟩)
 ·obtain ⟨i,rfl⟩:∃ i:Nat,i'=(i:Int):=⟨i'.toNat,by omega⟩
  have hi:i<m.Places.length:=by omega
  obtain ⟨p,hp1,hp2⟩:=Gft hi
  have e1:IntKind.i64.wrap ((i:Int)+1)=(i:Int)+1:=w64 (by omega) (by omega)
  rw [e1,Jv,hp1,bind_some,Gc3 (o:=c) (k:=(i:Int)) (by omega) (by omega),bind_some,hp2]
  have eo:((bif !sf m i then some (!bt c i) else some false):Option Bool)=some (!sf m i&&!bt c i):=by cases sf m i <;> rfl
  rw [eo,bind_some]
  refine Jt (Q:=fun o':List Int=>o'.length=m.Places.length∧∀ k:Nat,k<m.Places.length→nt o' k=if k=i∧sf m i=false∧bt c i=false then 1000000 else nt o k) ?_ fun o' ho'=>Je ⟨⟨by dsimp only;omega,by dsimp only;omega,ho'.1,fun k hk=>?_⟩,by dsimp only;omega⟩
  ·cases hb:!sf m i&&!bt c i with
   | true =>
    rw [cond_true,Ga0 (by omega) (by omega),bind_some,Int.toNat_natCast]
    refine Je ⟨by simpa using a3,fun k hk=>?_⟩
    rw [Gaz (by omega)]
    rw [Bool.and_eq_true,Bool.not_eq_true',Bool.not_eq_true'] at hb
    by_cases e:k=i
    ·rw [if_pos e,if_pos ⟨e,hb⟩]
    ·rw [if_neg e,if_neg (fun h=>e h.1)]
   | false =>
    rw [cond_false]
    refine Je ⟨a3,fun k hk=>?_⟩
    rw [if_neg]
    rintro ⟨_,h1,h2⟩
    rw [h1,h2] at hb
    cases hb
  ·dsimp only
   rw [ho'.2 k hk,a4 k hk]
   by_cases e:k=i
   ·subst e
    by_cases h:sf m k=false∧bt c k=false
    ·rw [if_pos ⟨rfl,h⟩,if_pos ⟨by omega,h⟩]
    ·rw [if_neg (fun q=>h q.2),if_neg (fun q=>h q.2),if_neg (fun q=>h q.2)]
   ·rw [if_neg (fun q=>e q.1)]
    by_cases h:(k:Int)<(i:Int)∧sf m k=false∧bt c k=false
    ·rw [if_pos h,if_pos ⟨by omega,h.2⟩]
    ·rw [if_neg h,if_neg (fun q=>h ⟨by omega,q.2⟩)]
 ·rw [a4 k hk]
  by_cases h:sf m k=false∧bt c k=false
  ·rw [if_pos h,if_pos ⟨by omega,h⟩]
  ·rw [if_neg h,if_neg (fun q=>h q.2)]
theorem Gtm {m:Tah} {l:List Int} (hl:l.length≤1000000) (hin:∀ v ∈ l,0≤v∧v<(m.Places.length:Int)) {o0:List Int} (ho0:o0.length=m.Places.length):Ok (Sb (Fd1 m l) (0,o0)) fun o=>o.length=m.Places.length∧∀ k,k<m.Places.length→nt o k=if sf m k=false∧(k:Int) ∈ l then 1000000 else nt o0 k:=by
 refine Uo (fun s:Int×List Int=>0≤s.1∧s.1≤l.length∧s.2.length=m.Places.length∧∀ k:Nat,k<m.Places.length→nt s.2 k=if sf m k=false∧(k:Int) ∈ l.take s.1.toNat then 1000000 else nt o0 k) (fun s=>(l.length-s.1).toNat) _ (fun s hs=>?_) _ ⟨Int.le_refl 0,by dsimp only;omega,ho0,fun k hk=>by dsimp only;rw [if_neg (fun h=>by simp at h)]⟩
 obtain ⟨i',o⟩:=s
 obtain ⟨a1,a2,a3,a4⟩:=hs
 dsimp only at a1 a2 a3 a4
 unfold Fd1
 dsimp only
 refine Ud (fun hlt=>?_) (fun hge=>Je ⟨a3,fun k hk=>?_⟩)
 ·obtain ⟨i,rfl⟩:∃ i:Nat,i'=(i:Int):=⟨i'.toNat,by omega⟩
  have hg:=List.getElem?_eq_getElem (show i<l.length by omega)
  have hx:=hin _ (List.getElem_mem (show i<l.length by omega))
  have e1:IntKind.i64.wrap ((i:Int)+1)=(i:Int)+1:=w64 (by omega) (by omega)
  generalize l[i]'(by omega)=v at *
  obtain ⟨j,rfl⟩:∃ j:Nat,v=(j:Int):=⟨v.toNat,by omega⟩
  have hj:j<m.Places.length:=by omega
  obtain ⟨p,hp1,hp2⟩:=Gft hj
  rw [e1,Jv (l:=l),hg,bind_some,Jv,hp1,bind_some,hp2]
  have ht:l.take ((i:Int)+1).toNat=l.take i++[(j:Int)]:=by rw [show ((i:Int)+1).toNat=i+1 by omega,List.take_add_one,hg];rfl
  rw [Int.toNat_natCast] at a4
  refine Jt (Q:=fun o':List Int=>o'.length=m.Places.length∧∀ k:Nat,k<m.Places.length→nt o' k=if k=j∧sf m j=false then 1000000 else nt o k) ?_ fun o' ho'=>Je ⟨⟨by dsimp only;omega,by dsimp only;omega,ho'.1,fun k hk=>?_⟩,by dsimp only;omega⟩
  ·cases hb:sf m j with
   | false =>
    rw [Bool.not_false,cond_true,Ga0 (by omega) (by omega),bind_some,Int.toNat_natCast]
    refine Je ⟨by simpa using a3,fun k hk=>?_⟩
    rw [Gaz (by omega)]
    by_cases e:k=j
    ·rw [if_pos e,if_pos ⟨e,rfl⟩]
    ·rw [if_neg e,if_neg (fun h=>e h.1)]
   | true =>
    rw [Bool.not_true,cond_false]
    refine Je ⟨a3,fun k hk=>?_⟩
    rw [if_neg (fun h=>by cases h.2)]
  ·dsimp only
   rw [ho'.2 k hk,a4 k hk,ht]
   by_cases e:k=j
   ·subst e
    by_cases h:sf m k=false
    ·rw [if_pos ⟨rfl,h⟩,if_pos ⟨h,by simp⟩]
    ·rw [if_neg (fun q=>h q.2),if_neg (fun q=>h q.1),if_neg (fun q=>h q.1)]
   ·rw [if_neg (fun q=>e q.1)]
    by_cases h:sf m k=false∧(k:Int) ∈ l.take i
    ·rw [if_pos h,if_pos ⟨h.1,List.mem_append_left _ h.2⟩]
    ·rw [if_neg h,if_neg]
     rintro ⟨q1,q2⟩
     rcases List.mem_append.1 q2 with q2 | q2
     ·exact h ⟨q1,q2⟩
     ·simp at q2;omega
 ·rw [a4 k hk,List.take_of_length_le (by omega)]
theorem Gtn {m:Tah} {f:List Taa} {mo:Nat→Int} {P:List Int} (hm:∀ i,i<m.Roads.length→0≤mo i) (hR:Rt m) (hP:P.length=m.Places.length) (h:∀ k,k<m.Places.length→nt P k=p0F m f k):Inv m f mo (p0F m f) P (List.replicate m.Roads.length 0):=by
 refine ⟨hP,by simp,fun k=>?_,fun k=>by rw [Gbd];omega,fun k hk=>by rw [h k hk];omega,fun p' r' hs=>⟨fun k hk=>by rw [h k hk];exact hs.st k hk,fun i hi=>?_⟩⟩
 ·by_cases hk:k<m.Places.length
  ·rw [h k hk];exact Gln m f k
  ·have:nt P k=0:=by unfold nt;rw [List.getElem?_eq_none (by omega)];rfl
   omega
 ·rw [Gbd]
  have hmi:=hm i hi
  by_cases c1:can m f i false=true
  ·have hA:=Gi7 hR hi false
   have:=hs.wy i false hi c1
   have h1:=hs.st (Zw m i false).from_.toNat (by have:=hA.1;have:=hA.2.1;omega)
   have:=(Gln m f (Zw m i false).from_.toNat).1
   omega
  by_cases c2:can m f i true=true
  ·have hA:=Gi7 hR hi true
   have:=hs.wy i true hi c2
   have h1:=hs.st (Zw m i true).from_.toNat (by have:=hA.1;have:=hA.2.1;omega)
   have:=(Gln m f (Zw m i true).from_.toNat).1
   omega
  ·have:=hs.no i hi (by simpa using c1) (by simpa using c2)
   omega
theorem Grs {m:Tah} {f:List Taa} {l:List Tal} {mo:Nat→Int} (hs:Sz m) (hk:Gfs m l=0) (hl:f.length=m.Roads.length) (hm:∀ i:Nat,i<m.Roads.length→Faq (sp0 f i) (inF l i)=some (mo i)∧0≤mo i∧mo i≤1000000) :
  Ok (Fc4 m f l) fun r=>r.2.2=0∧Lst m f mo (p0F m f) r.1 r.2.1:=by
 obtain ⟨c1,c2,c3⟩:=Go9 hk
 have hr:rtB m f=true:=by unfold rtB;rw [decide_eq_true c1,decide_eq_true hl];rfl
 obtain ⟨hR,_⟩:=Ghf hr
 have h1:=hR.r1
 have h2:=hR.p2
 unfold Fc4
 rw [(Gnt m l hs).1,bind_some,hk,Kg (fun h=>h rfl),Kg (by omega),Ze (by omega) (by omega),bind_some,Int.toNat_natCast]
 obtain ⟨o8,i1,i2,i3⟩:=Gnu (n:=m.Roads.length) c2 c3
 rw [i1,bind_some,Ze (by omega) (by omega),bind_some,Ze (by omega) (by omega),bind_some,Int.toNat_natCast,Gql m f hs,bind_some,bind_some]
 refine Jt (Gtk hr) fun o25 h25=>?_
 refine Jt (Gtl h2 h25.1) fun o32 h32=>?_
 rw [Go7 m f hs,bind_some]
 refine Jt (Gtm (by have:=Gll (m:=m) (f:=f);omega) (fun v hv=>Gkl hv) h32.1) fun o47 h47=>?_
 have hp:∀ k,k<m.Places.length→nt o47 k=p0F m f k:=fun k hkk=>by
  rw [h47.2 k hkk,h32.2 k hkk]
  have hfd:=h25.2 k hkk
  unfold p0F stC
  by_cases q1:sf m k=false
  ·by_cases q2:(k:Int) ∈ Gcf m f
   ·rw [if_pos ⟨q1,q2⟩,if_pos ⟨q1,.inr q2⟩]
   ·rw [if_neg (fun h=>q2 h.2)]
    cases hb:bt o25 k with
    | false=>rw [if_pos ⟨q1,rfl⟩,if_pos ⟨q1,.inl (fun h=>by rw [hfd.2 h] at hb;cases hb)⟩]
    | true=>rw [if_neg (fun h=>by cases h.2),if_neg];rintro ⟨_,h | h⟩;exact h (hfd.1 hb);exact q2 h
  ·rw [if_neg (fun h=>q1 h.1),if_neg (fun h=>q1 h.1),if_neg (fun h=>q1 h.1)]
 have hmo:∀ i,i<m.Roads.length→Faq (sp0 f i) (nt o8 i)=some (mo i)∧0≤mo i∧mo i≤1000000:=fun i hi=>by rw [(i3 i hi).1];exact hm i hi
 have hv:=Gtn (mo:=mo) (fun i hi=>(hm i hi).2.1) hR h47.1 hp
 refine Jt (Gqv hR hl i2 hmo hv (fun i hi=>?_)) fun o58 h58=>Je ⟨rfl,h58⟩
 rw [Gbd]
 exact (Grr (hm i hi).2 hv.bp).1
theorem Gqw {l:List Tal} {n:Nat} (hl:l.length≤32) (ho:∀ x ∈ l,Gqt n x) (s:Int×List Int×List Int×List Bool):Sb (Fdr l s) (0,0)=some (inF l s.1)∧0≤inF l s.1∧inF l s.1≤35184372088832:=by
 have key:=Go4 l (inS s.1) (fun i o=>((o,i):Int×Int)) id (g:=Fdr l s) (fun i o=>0≤o∧o≤1099511627776*(i:Int)) (fun i x o hx hI=>?_) (fun o _=>by unfold Fdr;rw [Kg (by dsimp only;omega)];rfl) 0 ⟨Int.le_refl 0,by omega⟩
 ·obtain ⟨k1,k2,k3⟩:=key
  exact ⟨k1,k2,by unfold inF;omega⟩
 ·have hi:=(List.getElem?_eq_some_iff.1 hx).1
  obtain ⟨s1,s2,s3,s4⟩:=ho x (List.mem_of_getElem? hx)
  unfold Fdr inS
  dsimp only
  rw [Sj (by omega),Jv,hx,bind_some,bind_some,w64 (n:=(i:Int)+1) (by omega) (by omega)]
  by_cases h:x.Road=s.1
  ·rw [Sj h,if_pos h,w64 (n:=o+x.Inflow.High) (by omega) (by omega)]
   exact ⟨rfl,by omega,by push_cast;omega⟩
  ·rw [Kg h,if_neg h]
   exact ⟨rfl,hI.1,by push_cast;omega⟩
def Gpa (m:Tah) (f:List Taa) (i:Nat):Prop:=can m f i false=false∧can m f i true=false
instance (m:Tah) (f:List Taa) (i:Nat):Decidable (Gpa m f i):=by unfold Gpa;infer_instance
def m0:Tah:=Tah.mk [(Tac.mk 0 true),(Tac.mk 0 false)] [(Tae.mk 0 1 1 1 false false (Taa.mk 1 1) (Taa.mk 0 0))]
def f0:List Taa:=[(Taa.mk 200 220)]
def l0:List Tal:=[(Tal.mk 0 (Taa.mk 0 1001000))]
theorem Gsg:Fc4 m0 f0 l0=some ([0,5005],[5005],0):=by
 have hs:Sz m0:=⟨by show (1:Nat)≤_;omega,by show (2:Nat)≤_;omega⟩
 have hk:Gfs m0 l0=0:=by decide +kernel
 have hc:can m0 f0 0 false=true:=by decide +kernel
 have hc2:can m0 f0 0 true=false:=by decide +kernel
 have hmx:Gcf m0 f0=[]:=by decide +kernel
 have hin:inF l0 0=1001000:=by decide +kernel
 have had:Gf7 (sp0 f0 0) 1001000=5005:=by decide +kernel
 obtain ⟨r,e,z,l⟩:=Grs (f:=f0) (l:=l0) (mo:=fun _=>5005) hs hk rfl (fun i hi=>by
  have:i=0:=by have:i<1:=hi;omega
  subst this
  refine ⟨?_,by omega,by omega⟩
  rw [show ((0:Nat):Int)=0 from rfl,hin,Gmq _ _ (by omega) (by omega) (by decide +kernel),had])
 have hsol:Sol m0 f0 (fun _=>5005) (p0F m0 f0) (fun k=>if k=0 then 0 else 5005) (fun _=>5005):=by
  refine ⟨fun k hk=>?_,fun i d hi hcc=>?_,fun i d hi hcc ht=>?_,fun i hi h1 h2=>?_⟩
  ·have hk:k<2:=hk
   have h0:p0F m0 f0 k=0:=by
    unfold p0F
    rw [if_neg]
    rintro ⟨h1,h2⟩
    rw [hmx] at h2
    match k,hk,h1,h2 with
    | 0,_,h1,_=>exact absurd h1 (by decide +kernel)
    | 1,_,_,h2 =>
     rcases h2 with h2 | h2
     ·exact h2 ⟨0,false,Nat.zero_lt_one,hc,rfl⟩
     ·cases h2
   rw [h0]
   split <;> omega
  ·have:i=0:=by have:i<1:=hi;omega
   subst this
   cases d with
   | true=>rw [hc2] at hcc;cases hcc
   | false=>rw [show (Zw m0 0 false).from_.toNat=0 from rfl,if_pos rfl];omega
  ·have:i=0:=by have:i<1:=hi;omega
   subst this
   cases d with
   | true=>rw [hc2] at hcc;cases hcc
   | false=>rw [show (Zw m0 0 false).to_.toNat=1 from rfl,if_neg (by omega)];omega
  ·have:i=0:=by have:i<1:=hi;omega
   subst this
   rw [hc] at h1
   cases h1
 obtain ⟨u1,u2⟩:=l.iv.le _ _ hsol
 have a0:=u1 0 (by show 0<2;omega)
 have a1:=u1 1 (by show 1<2;omega)
 have a2:=u2 0 (by show 0<1;omega)
 have b0:=l.iv.bp 0
 have c0:=l.sol.wy 0 false (by show 0<1;omega) hc
 have c1:=l.sol.up 0 false (by show 0<1;omega) hc (by decide +kernel)
 rw [show (Zw m0 0 false).from_.toNat=0 from rfl] at c0
 rw [show (Zw m0 0 false).to_.toNat=1 from rfl] at c1
 rw [if_pos rfl] at a0
 rw [if_neg (by omega)] at a1
 obtain ⟨P,R,z'⟩:=r
 dsimp only at *
 have hP:P=[0,5005]:=Glm l.iv.lp fun k hk=>by
  have hk:k<2:=by have:=l.iv.lp;have h2:m0.Places.length=2:=rfl;omega
  match k,hk with
  | 0,_=>show nt P 0=0;omega
  | 1,_=>show nt P 1=5005;omega
 have hRR:R=[5005]:=Glm l.iv.lr fun k hk=>by
  have hk:k<1:=by have:=l.iv.lr;have h2:m0.Roads.length=1:=rfl;omega
  match k,hk with
  | 0,_=>show nt R 0=5005;omega
 rw [e,hP,hRR,z]
theorem Gsh:Fer [50] [(Tap.mk 0 1 0 0 0 0 0 9)] [(Tao.mk 0 0 (Taa.mk 20 90))] 0=some ([⟨20,50⟩],[]):=by
 have s1:Fag 1 6 [1]=some true:=by unfold Fag;rw [Zg (n:=5) (show Ys _ 5 _=some (.inr ()) from by decide +kernel)];rfl
 have s2:Fag 0 255 [0]=some true:=by unfold Fag;rw [Zg (n:=5) (show Ys _ 5 _=some (.inr ()) from by decide +kernel)];rfl
 have s3:Fag (-1000000) 1000000 [0,0]=some true:=by unfold Fag;rw [Zg (n:=5) (show Ys _ 5 _=some (.inr ()) from by decide +kernel)];rfl
 have s4:Fag 0 1000000 [0,0]=some true:=by unfold Fag;rw [Zg (n:=5) (show Ys _ 5 _=some (.inr ()) from by decide +kernel)];rfl
 have s5:Fag 1 1000000 [9]=some true:=by unfold Fag;rw [Zg (n:=5) (show Ys _ 5 _=some (.inr ()) from by decide +kernel)];rfl
 have hc:Fdd (Tap.mk 0 1 0 0 0 0 0 9)=some 0:=by
  unfold Fdd
  simp only [s1,s2,s3,s4,s5,bind_some]
  decide +kernel
 have ha:Feq (Tap.mk 0 1 0 0 0 0 0 9) (Tao.mk 0 0 (Taa.mk 20 90)) 0=some ⟨20,90⟩:=by
  unfold Feq Fbz Fen
  simp only [hc,bind_some]
  decide +kernel
 have hm:Fd4 [⟨0,50⟩,⟨20,90⟩]=some (⟨20,50⟩,true):=by
  unfold Fd4
  rw [Kg (by decide),show Kl [(⟨0,50⟩:Taa),⟨20,90⟩] 0=some ⟨0,50⟩ from rfl,bind_some,Zg (n:=5) (show Ys _ 5 _=some ⟨20,50⟩ from by decide +kernel)]
  decide +kernel
 unfold Fer
 rw [Ze (by decide) (by decide),bind_some,Zg (n:=5) (show Ys _ 5 _=some [⟨0,50⟩] from by decide +kernel),bind_some]
 unfold Fdp
 rw [Wj (by decide),bind_some,Ze (by decide) (by decide),bind_some,Ze (by decide) (by decide),bind_some]
 have h1:Faj ⟨0,1000000⟩ 1 [(Tap.mk 0 1 0 0 0 0 0 9)] [(Tao.mk 0 0 (Taa.mk 20 90))] 0 (0,[⟨0,50⟩],[false],[false])=some (.inl (1,[⟨20,50⟩],[false],[false])):=by
  unfold Faj
  simp only [show Kl [(Tao.mk 0 0 (Taa.mk 20 90))] 0=some (Tao.mk 0 0 (Taa.mk 20 90)) from rfl,show Kl [(Tap.mk 0 1 0 0 0 0 0 9)] 0=some (Tap.mk 0 1 0 0 0 0 0 9) from rfl,show Kl [(⟨0,50⟩:Taa)] 0=some ⟨0,50⟩ from rfl,bind_some,ha,hm]
  rfl
 have h2:Faj ⟨0,1000000⟩ 1 [(Tap.mk 0 1 0 0 0 0 0 9)] [(Tao.mk 0 0 (Taa.mk 20 90))] 0 (1,[⟨20,50⟩],[false],[false])=some (.inr ([⟨20,50⟩],[false])):=by
  unfold Faj
  rfl
 have h3:=(Gbc h1).trans (Zv h2)
 show ((Option.bind (Sb (Faj ⟨0,1000000⟩ 1 [(Tap.mk 0 1 0 0 0 0 0 9)] [(Tao.mk 0 0 (Taa.mk 20 90))] 0) (0,[⟨0,50⟩],[false],[false])) _).bind _)=_
 rw [h3,bind_some,Zg (n:=5) (show Ys _ 5 _=some [] from by decide +kernel)]
 rfl
theorem Glo (l:List Taa) (hl:l.length≤1000000):Fd5 l l=some true:=by
 unfold Fd5
 rw [Kg (fun h=>h rfl),Ge8 l (fun _=>false) (fun i x hx=>by
  have hi:=(List.getElem?_eq_some_iff.1 hx).1
  unfold Fco
  rw [Sj (by omega),Jv,hx,bind_some,bind_some,w64 (by omega) (by omega)]
  simp) (by unfold Fco;rw [Kg (by omega)])]
 simp
theorem Gqx:Fcr=some true:=by
 unfold Fcr
 have e1:=Gsg
 unfold m0 f0 l0 at e1
 rw [e1,bind_some,Gsh,bind_some,Gii _ (by simp),bind_some,Gii _ (by simp),bind_some,Glo _ (by simp),bind_some]
 rfl
theorem Glp {k:Bool→Option Bool} {R:Bool→Prop} (h:Ok (k true) R):Ok (Fcr.bind k) R:=Go2 Gqx h

/-! ### drawn sources -/
/-! ### any flows: which error -/
def Gtq (m:Tah) (n:Nat) (l:List Tal):Int:=if Gfs m l≠0 then Gfs m l else if n≠m.Roads.length then 11 else 0
theorem Geq {α:Type} {e:α→Int}:∀ {l:List α},(∀ x ∈ l,e x=0)→Yi e l=0
 | [],_=>rfl
 | y::l,h=>by
  unfold Yi
  rw [if_pos (h y (List.mem_cons_self ..))]
  exact Geq fun x hx=>h x (List.mem_cons_of_mem _ hx)
theorem Gsi {m:Tah} (h:MnOk m) (hv:MnV m):Gbm m=0:=by
 obtain ⟨h1,h2,h3,h4⟩:=h
 obtain ⟨⟨v1,v2⟩,_⟩:=hv
 unfold Gbm
 rw [if_neg (by omega),if_pos (List.all_eq_true.2 fun p hp=>by rw [v1 p hp];rfl)]
 refine Geq fun r hr=>?_
 obtain ⟨a1,a2,a3,a4⟩:=h4 r hr
 obtain ⟨b1,⟨u1,u2,u3,u4,u5,u6,u7,u8⟩,w1,w2,w3⟩:=v2 r hr
 have e1:Gcn r.Rest 1 262144=true:=decide_eq_true ⟨by omega,by omega,by omega⟩
 have e2:Gcn r.Lift (-2199023255552) 2199023255552=true:=decide_eq_true ⟨by omega,by omega,by omega⟩
 unfold Gdl
 rw [if_neg (by omega),if_neg (by rw [e1,e2];simp;omega)]
/-! ### more -/
theorem Gpc {n b v:Int} (hn:0≤n) (hb:1≤b):upF n b≤v↔n≤v*b:=by
 obtain ⟨u1,u2,u3,u4⟩:=Ghm hn hb
 have hd:b*n.tdiv b+n.tmod b=n:=Int.mul_tdiv_add_tmod n b
 rw [Int.mul_comm] at hd
 generalize hq:n.tdiv b=q at *
 generalize hr:n.tmod b=r at *
 unfold upF
 rw [hq,hr]
 constructor
 ·intro h
  by_cases h0:r=0
  ·subst h0
   have:q*b≤v*b:=Int.mul_le_mul_of_nonneg_right (by omega) (by omega)
   omega
  ·have:(q+1)*b≤v*b:=Int.mul_le_mul_of_nonneg_right (by omega) (by omega)
   rw [Int.add_mul] at this
   omega
 ·intro h
  refine Decidable.byContradiction fun hc=>?_
  by_cases h0:r=0
  ·subst h0
   have:(v+1)*b≤q*b:=Int.mul_le_mul_of_nonneg_right (by omega) (by omega)
   rw [Int.add_mul] at this
   omega
  ·have:v*b≤q*b:=Int.mul_le_mul_of_nonneg_right (by omega) (by omega)
   omega
theorem Gtv {m:Tah} {f g:List Taa} {mo mo':Nat→Int} {P R Q T:List Int} (hw:∀ i,(sp0 g i).Low≤(sp0 f i).Low∧(sp0 f i).High≤(sp0 g i).High) (hmo:∀ i,i<m.Roads.length→0≤mo i∧mo i≤mo' i)
  (L1:Lst m f mo (p0F m f) P R) (L2:Lst m g mo' (p0F m g) Q T):(∀ k,k<m.Places.length→nt P k<1000000→nt P k≤nt Q k)∧∀ i,i<m.Roads.length→nt R i<1000000→nt R i≤nt T i:=by
 have hs:Sol m f mo (p0F m f) (fun k=>if nt P k=1000000 then 1000000 else nt Q k) (fun i=>if nt R i=1000000 then 1000000 else nt T i):=by
  refine ⟨fun k hk=>?_,fun i d hi hc=>?_,fun i d hi hc ht=>?_,fun i hi h1 h2=>?_⟩
  ·have a:=L1.iv.s0 k hk
   have b:=L1.iv.bp k
   have c:=L2.iv.bp k
   try dsimp only
   by_cases h:stC m f k
   ·unfold p0F at a ⊢
    rw [if_pos h] at a ⊢
    rw [if_pos (by omega)]
    omega
   ·unfold p0F
    rw [if_neg h]
    split <;> omega
  ·have a:=L1.sol.wy i d hi hc
   have b:=L2.sol.wy i d hi (Gkj hw hc)
   have c:=L1.iv.br i
   have e:=L2.iv.br i
   have q:=hmo i hi
   try dsimp only
   generalize (Zw m i d).from_.toNat=k at *
   have u:=L1.iv.bp k
   by_cases h:nt P k=1000000
   ·rw [if_pos h,if_pos (by omega)]
    omega
   ·rw [if_neg h]
    split <;> omega
  ·have a:=L1.sol.up i d hi hc ht
   have b:=L2.sol.up i d hi (Gkj hw hc) ht
   have c:=L1.iv.br i
   have e:=L2.iv.br i
   try dsimp only
   generalize (Zw m i d).to_.toNat=k at *
   have u:=L1.iv.bp k
   by_cases h:nt R i=1000000
   ·rw [if_pos h,if_pos (by omega)]
    omega
   ·rw [if_neg h]
    split <;> omega
  ·have a:=L1.sol.no i hi h1 h2
   have c:=L1.iv.br i
   try dsimp only
   rw [if_pos (by omega)]
   omega
 obtain ⟨u1,u2⟩:=L1.iv.le _ _ hs
 refine ⟨fun k hk h=>?_,fun i hi h=>?_⟩
 ·have:=u1 k hk
  try dsimp only at this
  rwa [if_neg (by omega)] at this
 ·have:=u2 i hi
  try dsimp only at this
  rwa [if_neg (by omega)] at this
theorem Gqy {m:Tah} {f:List Taa} {l:List Tal} (hm:MnOk m) (hc:Gfs m l=0) (hl:f.length=m.Roads.length) (hf:∀ s ∈ f,-4611686018427387904≤s.High):Ok (Fc4 m f l) fun r=>r.2.2=0∧Lst m f (fun i=>Gf7 (sp0 f i) (inF l i)) (p0F m f) r.1 r.2.1:=by
 obtain ⟨c1,c2,c3⟩:=Go9 hc
 have hin:∀ i:Nat,0≤inF l i∧inF l i≤35184372088832:=fun i=>(Gqw c2 c3 ((i:Int),[],[],[])).2
 exact Grs (Grq hm) hc hl (fun i hi=>⟨Gmq _ _ (hin i).1 (by have:=(hin i).2;omega) (hf _ (List.mem_of_getElem? (Ggg (by omega)))),Gmr (hin i).1⟩)
theorem Gqz {m:Tah} {l:List Tal} (hm:Gbm m=0) (hl:l.length≤32):Gfs m l=Yi (Gay m.Roads.length) l:=by
 unfold Gfs
 rw [if_neg (fun h=>h hm),if_neg (by omega)]
/-! ### sums -/
def Uz:Nat→(Nat→Int)→Int
 | 0,_=>0
 | k+1,f=>Uz k f+f k
theorem Gby:∀ (n:Nat) (f g:Nat→Int),(∀ i,i<n→f i≤g i)→Uz n f≤Uz n g
 | 0,_,_,_=>Int.le_refl _
 | k+1,f,g,h=>by
  have:=Gby k f g fun i hi=>h i (by omega)
  have:=h k (by omega)
  show Uz k f+f k≤Uz k g+g k
  omega
theorem Gmt:∀ (n:Nat) (f g:Nat→Int),(∀ i,i<n→f i≤g i)→(∃ i,i<n∧f i<g i)→Uz n f<Uz n g
 | 0,_,_,_,h=>by obtain ⟨i,hi,_⟩:=h;omega
 | k+1,f,g,h,hs=>by
  have a:=Gby k f g fun i hi=>h i (by omega)
  have b:=h k (by omega)
  show Uz k f+f k<Uz k g+g k
  obtain ⟨i,hi,hlt⟩:=hs
  by_cases e:i=k
  ·subst e;omega
  ·have:=Gmt k f g (fun i hi=>h i (by omega)) ⟨i,by omega,hlt⟩
   omega
theorem Ghq:∀ (n:Nat) (f:Nat→Int),Uz n (fun i=>-f i) = -Uz n f
 | 0,_=>rfl
 | k+1,f=>by
  show Uz k (fun i=>-f i) + -f k = -(Uz k f+f k)
  rw [Ghq k f]
  omega
theorem Gbe:∀ (n:Nat) {f g:Nat→Int},(∀ i,i<n→f i=g i)→Uz n f=Uz n g
 | 0,_,_,_=>rfl
 | k+1,f,g,h=>by
  show Uz k f+f k=Uz k g+g k
  rw [Gbe k fun i hi=>h i (by omega),h k (by omega)]
theorem Gpd:∀ (n:Nat) (f:Nat→Int),0<n→∃ k,k<n∧∀ j,j<n→f j≤f k
 | 1,f,_=>⟨0,by omega,fun j hj=>by
   have:j=0:=by omega
   subst this;exact Int.le_refl _⟩
 | n+2,f,_=>by
  obtain ⟨k,hk,h⟩:=Gpd (n+1) f (by omega)
  by_cases e:f k≤f (n+1)
  ·refine ⟨n+1,by omega,fun j hj=>?_⟩
   by_cases ej:j=n+1
   ·subst ej;exact Int.le_refl _
   ·have:=h j (by omega);omega
  ·refine ⟨k,by omega,fun j hj=>?_⟩
   by_cases ej:j=n+1
   ·subst ej;omega
   ·exact h j (by omega)
def Wg (fr to k:Nat) (cl:Bool) (a b:Int):Int:=if cl then 0 else (if fr=k then a else 0)-(if to=k then b else 0)
theorem Gck {fr to k:Nat} {a b:Int} (h:fr=k) (h':fr≠to):Wg fr to k false a b=a:=by
 unfold Wg
 simp [h,show to≠k by omega]
theorem Gcl {fr to k:Nat} {a b:Int} (h:to=k) (h':fr≠to):Wg fr to k false a b = -b:=by
 unfold Wg
 simp [h,show fr≠k by omega]
theorem Gbz {fr to k:Nat} {a b:Int} (h:fr≠k) (h':to≠k):Wg fr to k false a b=0:=by
 unfold Wg
 simp [h,h']
structure Grid where
 n:Nat
 m:Nat
 fr:Nat→Nat
 to:Nat→Nat
 cl:Nat→Bool
 fx:Nat→Bool
structure Grid.Ok (g:Grid):Prop where
 f:∀ i,i<g.m→g.fr i<g.n
 t:∀ i,i<g.m→g.to i<g.n
 ne:∀ i,i<g.m→g.fr i≠g.to i
 c:∀ k,k<g.n→g.fx k=false→∃ i,i<g.m∧g.cl i=false∧(g.fr i=k∧g.fx (g.to i)=true∨g.to i=k∧g.fx (g.fr i)=true)
theorem Gf4 (g:Grid) (hg:g.Ok) (p hi q:Nat→Int) (lo up:Nat→Int→Int)
  (h0:∀ k,k<g.n→g.fx k=true→p k=0∧hi k=0)
  (hq:∀ k,k<g.n→g.fx k=false→Uz g.m (fun i=>Wg (g.fr i) (g.to i) k (g.cl i) (q i) (q i))=0)
  (hb:∀ k,k<g.n→g.fx k=false→0≤Uz g.m (fun i=>Wg (g.fr i) (g.to i) k (g.cl i) (lo i (hi (g.fr i)-hi (g.to i))) (up i (hi (g.fr i)-hi (g.to i)))))
  (hlo:∀ i,i<g.m→g.cl i=false→∀ P,P≤p (g.fr i)-p (g.to i)→lo i P≤q i∧(P<p (g.fr i)-p (g.to i)→lo i P<q i))
  (hup:∀ i,i<g.m→g.cl i=false→∀ P,p (g.fr i)-p (g.to i)≤P→q i≤up i P∧(p (g.fr i)-p (g.to i)<P→q i<up i P)) :
  ∀ k,k<g.n→p k≤hi k:=fun k hk=>by
 obtain ⟨x,hx,hmax⟩:=Gpd g.n (fun j=>p j-hi j) (by omega)
 refine Decidable.byContradiction fun hc=>?_
 have hkx:=hmax k hk
 have hxf:g.fx x=false:=by
  cases e:g.fx x with
  | false=>rfl
  | true=>have:=h0 x hx e;omega
 have hlt:=Gmt g.m (fun i=>Wg (g.fr i) (g.to i) x (g.cl i) (lo i (hi (g.fr i)-hi (g.to i))) (up i (hi (g.fr i)-hi (g.to i)))) (fun i=>Wg (g.fr i) (g.to i) x (g.cl i) (q i) (q i)) (fun i hi'=>?_) ?_
 ·have:=hq x hx hxf
  have:=hb x hx hxf
  omega
 ·have h1:=hmax _ (hg.f i hi')
  have h2:=hmax _ (hg.t i hi')
  have h3:=hg.ne i hi'
  cases e:g.cl i with
  | true=>exact Int.le_refl _
  | false =>
   by_cases e1:g.fr i=x
   ·have:=(hlo i hi' e (hi (g.fr i)-hi (g.to i)) (by rw [e1] at h1 ⊢;omega)).1
    rw [Gck e1 h3,Gck e1 h3]
    exact this
   ·by_cases e2:g.to i=x
    ·have:=(hup i hi' e (hi (g.fr i)-hi (g.to i)) (by rw [e2] at h2 ⊢;omega)).1
     rw [Gcl e2 h3,Gcl e2 h3]
     omega
    ·rw [Gbz e1 e2,Gbz e1 e2]
     exact Int.le_refl _
 ·obtain ⟨i,hi',e,hc'⟩:=hg.c x hx hxf
  refine ⟨i,hi',?_⟩
  have h3:=hg.ne i hi'
  rw [e]
  rcases hc' with ⟨e1,e2⟩ | ⟨e1,e2⟩
  ·have h4:=h0 _ (hg.t i hi') e2
   have:=(hlo i hi' e (hi (g.fr i)-hi (g.to i)) (by rw [e1];omega)).2 (by rw [e1];omega)
   rw [Gck e1 h3,Gck e1 h3]
   exact this
  ·have h4:=h0 _ (hg.f i hi') e2
   have:=(hup i hi' e (hi (g.fr i)-hi (g.to i)) (by rw [e1];omega)).2 (by rw [e1];omega)
   rw [Gcl e1 h3,Gcl e1 h3]
   omega
theorem Gkm (fr to k:Nat) (cl:Bool) (a b:Int):Wg fr to k cl (-a) (-b) = -Wg fr to k cl a b:=by
 unfold Wg
 cases cl <;> simp <;> split <;> split <;> omega
theorem Gkn (g:Grid) (hg:g.Ok) (p lw q:Nat→Int) (lo up:Nat→Int→Int)
  (h0:∀ k,k<g.n→g.fx k=true→p k=0∧lw k=0)
  (hq:∀ k,k<g.n→g.fx k=false→Uz g.m (fun i=>Wg (g.fr i) (g.to i) k (g.cl i) (q i) (q i))=0)
  (hb:∀ k,k<g.n→g.fx k=false→Uz g.m (fun i=>Wg (g.fr i) (g.to i) k (g.cl i) (up i (lw (g.fr i)-lw (g.to i))) (lo i (lw (g.fr i)-lw (g.to i))))≤0)
  (hlo:∀ i,i<g.m→g.cl i=false→∀ P,P≤p (g.fr i)-p (g.to i)→lo i P≤q i∧(P<p (g.fr i)-p (g.to i)→lo i P<q i))
  (hup:∀ i,i<g.m→g.cl i=false→∀ P,p (g.fr i)-p (g.to i)≤P→q i≤up i P∧(p (g.fr i)-p (g.to i)<P→q i<up i P)) :
  ∀ k,k<g.n→lw k≤p k:=fun k hk=>by
 have h:=Gf4 g hg (fun k=>-p k) (fun k=>-lw k) (fun i=>-q i) (fun i P=>-up i (-P)) (fun i P=>-lo i (-P))
  (fun k hk e=>by have:=h0 k hk e;omega)
  (fun k hk e=>by
   have h1:=hq k hk e
   rw [Gbe g.m (g:=fun i=>-Wg (g.fr i) (g.to i) k (g.cl i) (q i) (q i)) (fun i _=>Gkm ..),Ghq,h1]
   rfl)
  (fun k hk e=>by
   have h1:=hb k hk e
   rw [Gbe g.m (g:=fun i=>-Wg (g.fr i) (g.to i) k (g.cl i) (up i (lw (g.fr i)-lw (g.to i))) (lo i (lw (g.fr i)-lw (g.to i)))) (fun i _=>by
    rw [← Gkm]
    rw [show -(-lw (g.fr i) - -lw (g.to i))=lw (g.fr i)-lw (g.to i) by omega]),Ghq]
   omega)
  (fun i hi' e P hP=>by
   have:=hup i hi' e (-P) (by omega)
   exact ⟨by omega,fun h=>by have:=this.2 (by omega);omega⟩)
  (fun i hi' e P hP=>by
   have:=hlo i hi' e (-P) (by omega)
   exact ⟨by omega,fun h=>by have:=this.2 (by omega);omega⟩) k hk
 omega

theorem Gmu {a b c:Int} (hb:0<b) (h1:c*b≤a) (h2:a<(c+1)*b):a / b=c:=by
 have:=Int.le_ediv_of_mul_le hb h1
 have:=Int.ediv_lt_of_lt_mul hb h2
 omega
theorem Gko {a b:Int} (hb:1≤b) (h0 : -4611686018427387904≤a) (h1:a≤4611686018427387904):Fcs a b=some (a / b) ∧ -4611686018427387904≤a / b∧a / b≤4611686018427387904:=by
 obtain ⟨e1,e2⟩:=Gqs h0 h1 hb
 have hd:b*a.tdiv b+a.tmod b=a:=Int.mul_tdiv_add_tmod a b
 have hl:a.tmod b<b:=Int.tmod_lt_of_pos a (by omega)
 have hg : -b<a.tmod b:=by
  have:=Int.tmod_lt_of_pos (-a) (show 0<b by omega)
  rw [Int.neg_tmod] at this
  omega
 rw [Int.mul_comm] at hd
 have hbd : -4611686018427387904≤a / b∧a / b≤4611686018427387904:=by
  constructor
  ·refine Int.le_ediv_of_mul_le (by omega) ?_
   have:=Int.mul_le_mul_of_nonneg_left (c:=4611686018427387904) hb (by decide)
   omega
  ·have:a / b<4611686018427387904+1:=Int.ediv_lt_of_lt_mul (by omega) (by
    have:=Int.mul_le_mul_of_nonneg_left (c:=4611686018427387904+1) hb (by decide)
    omega)
   omega
 refine ⟨?_,hbd⟩
 unfold Fcs
 rw [Gi6 (by omega),bind_some,Ge5 (by omega),bind_some,w64 (n:=a.tdiv b) (by omega) (by omega)]
 by_cases h:a.tmod b<0
 ·have e:a / b=a.tdiv b-1:=Gmu (by omega) (by rw [Int.sub_mul];omega) (by rw [show a.tdiv b-1+1=a.tdiv b by omega];omega)
  rw [Sj h,bind_some,e,w64 (n:=a.tdiv b-1) (by omega) (by omega)]
 ·have e:a / b=a.tdiv b:=Gmu (by omega) (by omega) (by rw [Int.add_mul];omega)
  rw [Kg h,bind_some,e]
theorem Gq0 {a b:Int} (hb:1≤b) (h0 : -4611686018427387904≤a) (h1:a≤4611686018427387904):Fel a b=some (-(-a / b)):=by
 unfold Fel
 rw [w64 (n:=0-a) (by omega) (by omega)]
 obtain ⟨e,e1,e2⟩:=Gko (a:=0-a) hb (by omega) (by omega)
 rw [e,bind_some,show 0-a = -a by omega,w64 (by rw [show 0-a = -a by omega] at e2;omega) (by rw [show 0-a = -a by omega] at e1;omega)]
 congr 1
 omega

/-! ### the curve -/
def Gdn (p r:Tam) (q:Int):Taa:=⟨p.Pressure+(r.Pressure-p.Pressure)*(q-p.Flow) / (r.Flow-p.Flow),p.Pressure + -(-((r.Pressure-p.Pressure)*(q-p.Flow)) / (r.Flow-p.Flow))⟩
def Yt:List Tam→Int→Taa
 | [],_=>⟨0,0⟩
 | [p],_=>⟨p.Pressure,p.Pressure⟩
 | p::r::t,q=>if q≤p.Flow then ⟨p.Pressure,p.Pressure⟩ else if q<r.Flow then Gdn p r q else Yt (r::t) q
def Gcg:List Tam→Prop
 | []=>True
 | [_]=>True
 | p::r::t=>p.Flow<r.Flow∧r.Pressure≤p.Pressure∧Gcg (r::t)
theorem Gja {p r:Tam} {q:Int} (h:p.Flow<r.Flow) (hp:r.Pressure≤p.Pressure) (h0:p.Flow≤q) (h1:q≤r.Flow):r.Pressure≤(Gdn p r q).Low∧(Gdn p r q).Low≤(Gdn p r q).High∧(Gdn p r q).High≤p.Pressure:=by
 have u0:(r.Pressure-p.Pressure)*(q-p.Flow)≤0:=Int.mul_nonpos_of_nonpos_of_nonneg (by omega) (by omega)
 have u1:(r.Pressure-p.Pressure)*(r.Flow-p.Flow)≤(r.Pressure-p.Pressure)*(q-p.Flow):=Int.mul_le_mul_of_nonpos_left (by omega) (by omega)
 unfold Gdn
 generalize (r.Pressure-p.Pressure)*(q-p.Flow)=u at *
 generalize hw:r.Flow-p.Flow=w at *
 have a1:r.Pressure-p.Pressure≤u / w:=Int.le_ediv_of_mul_le (by omega) u1
 have a2:0 ≤ -u / w:=Int.le_ediv_of_mul_le (by omega) (by omega)
 have a3:u / w ≤ -(-u / w):=by
  have b1:u / w*w≤u:=Int.ediv_mul_le u (by omega)
  have b2 : -u / w*w ≤ -u:=Int.ediv_mul_le (-u) (by omega)
  have b3:(u / w + -u / w)*w≤0*w:=by rw [Int.add_mul];omega
  have:=Int.le_of_mul_le_mul_right b3 (by omega)
  omega
 dsimp only
 omega
theorem Gpe {p r:Tam} {q q':Int} (h:p.Flow<r.Flow) (hp:r.Pressure≤p.Pressure) (hq:q≤q'):(Gdn p r q').Low≤(Gdn p r q).Low∧(Gdn p r q').High≤(Gdn p r q).High:=by
 have u1:(r.Pressure-p.Pressure)*(q'-p.Flow)≤(r.Pressure-p.Pressure)*(q-p.Flow):=Int.mul_le_mul_of_nonpos_left (by omega) (by omega)
 unfold Gdn
 generalize (r.Pressure-p.Pressure)*(q-p.Flow)=u at *
 generalize (r.Pressure-p.Pressure)*(q'-p.Flow)=u' at *
 have a1:u' / (r.Flow-p.Flow)≤u / (r.Flow-p.Flow):=Int.ediv_le_ediv (by omega) u1
 have a2 : -u / (r.Flow-p.Flow) ≤ -u' / (r.Flow-p.Flow):=Int.ediv_le_ediv (by omega) (by omega)
 dsimp only
 omega
theorem Glq:∀ (l:List Tam) (p:Tam) (q:Int),Gcg (p::l)→(Yt (p::l) q).Low≤(Yt (p::l) q).High∧(Yt (p::l) q).High≤p.Pressure
 | [],p,q,_=>⟨Int.le_refl _,Int.le_refl _⟩
 | r::t,p,q,h=>by
  obtain ⟨h1,h2,h3⟩:=h
  have:=Glq t r q h3
  unfold Yt
  split
  ·exact ⟨Int.le_refl _,Int.le_refl _⟩
  ·split
   ·have:=Gja h1 h2 (q:=q) (by omega) (by omega)
    omega
   ·omega
theorem Ghr:∀ (l:List Tam) (q q':Int),Gcg l→q≤q'→(Yt l q').Low≤(Yt l q).Low∧(Yt l q').High≤(Yt l q).High
 | [],_,_,_,_=>⟨Int.le_refl _,Int.le_refl _⟩
 | [_],_,_,_,_=>⟨Int.le_refl _,Int.le_refl _⟩
 | p::r::t,q,q',h,hq=>by
  have hb:=Glq (r::t) p q' h
  obtain ⟨h1,h2,h3⟩:=h
  have ih:=Ghr (r::t) q q' h3 hq
  have hb2:=Glq t r q' h3
  by_cases e1:q≤p.Flow
  ·have:Yt (p::r::t) q=⟨p.Pressure,p.Pressure⟩:=by unfold Yt;rw [if_pos e1]
   rw [this]
   dsimp only
   omega
  ·by_cases e2:q<r.Flow
   ·have e3:Yt (p::r::t) q=Gdn p r q:=by conv=>lhs;unfold Yt;rw [if_neg e1,if_pos e2]
    rw [e3]
    have s1:=Gja h1 h2 (q:=q) (by omega) (by omega)
    have s2:=Gpe h1 h2 hq
    by_cases e4:q'<r.Flow
    ·have e5:Yt (p::r::t) q'=Gdn p r q':=by conv=>lhs;unfold Yt;rw [if_neg (by omega),if_pos e4]
     rw [e5]
     exact s2
    ·have e5:Yt (p::r::t) q'=Yt (r::t) q':=by conv=>lhs;unfold Yt;rw [if_neg (by omega),if_neg e4]
     rw [e5]
     omega
   ·have e5:Yt (p::r::t) q'=Yt (r::t) q':=by conv=>lhs;unfold Yt;rw [if_neg (by omega),if_neg (by omega)]
    have e6:Yt (p::r::t) q=Yt (r::t) q:=by conv=>lhs;unfold Yt;rw [if_neg (by omega),if_neg (by omega)]
    rw [e5,e6]
    exact ih
theorem Gmv:∀ (l:List Tam) (q A B:Int),Gcg l→l≠[]→(∀ p ∈ l,A≤p.Pressure∧p.Pressure≤B)→A≤(Yt l q).Low∧(Yt l q).Low≤(Yt l q).High∧(Yt l q).High≤B
 | [],_,_,_,_,h,_=>absurd rfl h
 | [p],_,_,_,_,_,h=>by
  have:=h p (List.mem_cons_self ..)
  show _≤p.Pressure∧p.Pressure≤p.Pressure∧p.Pressure≤_
  omega
 | p::r::t,q,A,B,hf,_,h=>by
  obtain ⟨h1,h2,h3⟩:=hf
  have ih:=Gmv (r::t) q A B h3 (by simp) fun x hx=>h x (List.mem_cons_of_mem _ hx)
  have hp:=h p (List.mem_cons_self ..)
  have hr:=h r (List.mem_cons_of_mem _ (List.mem_cons_self ..))
  unfold Yt
  split
  ·dsimp only;omega
  ·split
   ·have:=Gja h1 h2 (q:=q) (by omega) (by omega)
    omega
   ·exact ih

def Gfu (n:Nat) (f:Tak):Prop:=0≤f.Road∧f.Road<(n:Int)∧1≤f.Curve.length∧f.Curve.length≤5∧Gcg f.Curve∧∀ p ∈ f.Curve,-1000≤p.Flow∧p.Flow≤1000∧0≤p.Pressure∧p.Pressure≤3000
theorem Gf5:∀ (l:List Tam) (p x:Tam) (k:Nat),Gcg (p::l)→(p::l)[k]?=some x→p.Flow≤x.Flow
 | _,p,x,0,_,h=>by
  have:p=x:=by simpa using h
  subst this
  exact Int.le_refl _
 | [],p,x,k+1,_,h=>by simp at h
 | r::t,p,x,k+1,hf,h=>by
  have:=Gf5 t r x k hf.2.2 (by simpa using h)
  have:=hf.1
  omega
theorem Ghs {q:Int}:∀ (l:List Tam) (k:Nat) (x:Tam),Gcg l→l[k]?=some x→x.Flow≤q→Yt l q=Yt (l.drop k) q
 | l,0,_,_,_,_=>by rw [List.drop_zero]
 | [],k+1,x,_,h,_=>by simp at h
 | [p],k+1,x,_,h,_=>by simp at h
 | p::r::t,k+1,x,hf,h,hx=>by
  have h':(r::t)[k]?=some x:=by simpa using h
  have h1:=Gf5 t r x k hf.2.2 h'
  have h2:=hf.1
  rw [List.drop_succ_cons,← Ghs (r::t) k x hf.2.2 h' hx]
  conv=>lhs;unfold Yt
  rw [if_neg (by omega),if_neg (by omega)]
theorem Gpf {p:Tam} {l:List Tam} {q:Int} (h:q≤p.Flow):Yt (p::l) q=⟨p.Pressure,p.Pressure⟩:=by
 cases l with
 | nil=>rfl
 | cons r t=>unfold Yt;rw [if_pos h]
theorem Gto {p r:Tam}:Gdn p r p.Flow=⟨p.Pressure,p.Pressure⟩:=by
 unfold Gdn
 simp
theorem Gkp {n:Nat} {f:Tak} {q:Int} (hf:Gfu n f) (h0 : -2000000≤q) (h1:q≤2000000):Fct f q=some (Yt f.Curve q):=by
 obtain ⟨_,_,c1,c2,c3,c4⟩:=hf
 refine Ok.val ?_
 unfold Fct
 obtain ⟨p,t,hl⟩:∃ p t,f.Curve=p::t:=by
  cases h:f.Curve with
  | nil=>rw [h] at c1;simp at c1
  | cons p t=>exact ⟨p,t,rfl⟩
 have e0:Kl f.Curve 0=some p:=by rw [show (0:Int)=((0:Nat):Int) from rfl,Jv,hl];rfl
 rw [e0,bind_some,bind_some,bind_some]
 refine Ud (fun hq=>Je ?_) (fun hq=>?_)
 ·rw [hl,Gpf hq]
 rw [w64 (n:=(f.Curve.length:Int)-1) (by omega) (by omega)]
 obtain ⟨xl,el,hxl⟩:=Gaw (l:=f.Curve) (i:=(f.Curve.length:Int)-1) (by omega) (by omega)
 rw [el,bind_some,bind_some,bind_some]
 refine Ud (fun hq1=>Je ?_) (fun hq1=>?_)
 ·rw [Ghs f.Curve _ xl c3 hxl hq1]
  have:f.Curve.drop ((f.Curve.length:Int)-1).toNat=[xl]:=by
   have hlt:=(List.getElem?_eq_some_iff.1 hxl).1
   rw [List.drop_eq_getElem_cons hlt,(List.getElem?_eq_some_iff.1 hxl).2,List.drop_eq_nil_of_le (by omega)]
  rw [this]
  rfl
 refine Jt (Q:=fun o:Int=>0≤o∧o+1<f.Curve.length∧(∀ x,f.Curve[o.toNat]?=some x→x.Flow≤q)∧∀ x,f.Curve[(o+1).toNat]?=some x→q<x.Flow) (Uo (fun s:Int=>0≤s∧s+1<f.Curve.length∧∀ x,f.Curve[s.toNat]?=some x→x.Flow≤q) (fun s=>(f.Curve.length-s).toNat) _ (fun s hs=>?_) _ ⟨Int.le_refl _,?_,fun x hx=>?_⟩) fun o16 ho=>?_
 ·obtain ⟨a1,a2,a3⟩:=hs
  unfold Fdo
  rw [w64 (n:=s+1) (by omega) (by omega)]
  refine Jt (Gaw (by omega) (by omega)) fun x hx=>?_
  refine Ud (fun hle=>Je ⟨⟨by omega,?_,fun y hy=>?_⟩,by omega⟩) (fun hgt=>Je ⟨a1,a2,a3,fun y hy=>?_⟩)
  ·by_cases e:s+1+1<(f.Curve.length:Int)
   ·exact e
   ·have:s+1=(f.Curve.length:Int)-1:=by omega
    rw [this,hxl] at hx
    injection hx with hx
    subst hx
    omega
  ·rw [hx] at hy
   injection hy with hy
   subst hy
   exact hle
  ·rw [hx] at hy
   injection hy with hy
   subst hy
   omega
 ·by_cases e:(0:Int)+1<(f.Curve.length:Int)
  ·exact e
  ·have:(f.Curve.length:Int)-1=0:=by omega
   rw [this] at el
   rw [e0] at el
   injection el with el
   rw [el] at hq
   omega
 ·have h':f.Curve[(0:Int).toNat]?=some p:=by rw [hl];rfl
  rw [h'] at hx
  injection hx with hx
  subst hx
  omega
 ·obtain ⟨a1,a2,a3,a4⟩:=ho
  refine Jt (Gaw (by omega) (by omega)) fun x20 h20=>?_
  rw [w64 (n:=o16+1) (by omega) (by omega)]
  refine Jt (Gaw (by omega) (by omega)) fun x22 h22=>?_
  have d1:=a3 x20 h20
  have d2:=a4 x22 h22
  have d3:=c4 x20 (Wr h20)
  have d4:=c4 x22 (Wr h22)
  have hm:=Gi9 (a:=x22.Pressure-x20.Pressure) (b:=q-x20.Flow) (A:=3000) (B:=2000) (by omega) (by omega) (by omega) (by omega) (by decide)
  rw [w64 (n:=x22.Flow-x20.Flow) (by omega) (by omega),w64 (n:=x22.Pressure-x20.Pressure) (by omega) (by omega),w64 (n:=q-x20.Flow) (by omega) (by omega),w64 (n:=(x22.Pressure-x20.Pressure)*(q-x20.Flow)) (by omega) (by omega)]
  rw [(Gko (by omega) (by omega) (by omega)).1,bind_some,Gq0 (by omega) (by omega) (by omega),bind_some]
  have hdr:∃ t',f.Curve.drop o16.toNat=x20::x22::t':=by
   have hlt:=(List.getElem?_eq_some_iff.1 h20).1
   have hlt2:=(List.getElem?_eq_some_iff.1 h22).1
   have e1:(o16+1).toNat=o16.toNat+1:=by omega
   simp only [e1] at h22 hlt2
   rw [List.drop_eq_getElem_cons hlt,(List.getElem?_eq_some_iff.1 h20).2,List.drop_eq_getElem_cons hlt2,(List.getElem?_eq_some_iff.1 h22).2]
   exact ⟨_,rfl⟩
  obtain ⟨t',hdr⟩:=hdr
  have hfd:Gcg (x20::x22::t'):=by
   have:∀ (l:List Tam) (k:Nat),Gcg l→Gcg (l.drop k):=by
    intro l
    induction l with
    | nil=>intro k h;rw [List.drop_nil];exact h
    | cons a l ih =>
     intro k h
     cases k with
     | zero=>exact h
     | succ k =>
      rw [List.drop_succ_cons]
      cases l with
      | nil=>exact ih k trivial
      | cons b l=>exact ih k h.2.2
   rw [← hdr]
   exact this _ _ c3
  have es:Yt f.Curve q=Gdn x20 x22 q:=by
   rw [Ghs f.Curve _ x20 c3 h20 d1,hdr]
   conv=>lhs;unfold Yt
   by_cases e:q≤x20.Flow
   ·have:q=x20.Flow:=by omega
    rw [if_pos e,this,Gto]
   ·rw [if_neg e,if_pos d2]
  rw [es]
  have sb:=Gja hfd.1 hfd.2.1 d1 (by omega)
  unfold Gdn at sb ⊢
  dsimp only at sb
  rw [w64 (by omega) (by omega),w64 (by omega) (by omega)]
  exact Je rfl

/-! ### fans -/
def Yn (f:Tak) (b:Bool) (q:Int):Taa:=if b=true then ⟨-(Yt f.Curve (-q)).High,-(Yt f.Curve (-q)).Low⟩ else Yt f.Curve q
theorem Gpg {n:Nat} {f:Tak} (hf:Gfu n f) (q:Int):0≤(Yt f.Curve q).Low∧(Yt f.Curve q).Low≤(Yt f.Curve q).High∧(Yt f.Curve q).High≤3000:=by
 obtain ⟨_,_,c1,c2,c3,c4⟩:=hf
 exact Gmv f.Curve q 0 3000 c3 (fun h=>by rw [h] at c1;simp at c1) fun p hp=>(c4 p hp).2.2
theorem Gfe {n:Nat} {f:Tak} {q:Int} (b:Bool) (hf:Gfu n f) (h0 : -2000000≤q) (h1:q≤2000000):Fbi f b q=some (Yn f b q):=by
 have hb:=Gpg hf (-q)
 unfold Fbi Yn
 rw [w64 (n:=0-q) (by omega) (by omega),show 0-q = -q by omega]
 cases b with
 | true =>
  rw [cond_true,Gkp hf (by omega) (by omega),bind_some,if_pos rfl,w64 (by omega) (by omega),w64 (by omega) (by omega)]
  congr 2 <;> omega
 | false =>
  rw [cond_false,Gkp hf (by omega) (by omega),bind_some,if_neg (by decide)]
theorem Ggi {n:Nat} {f:Tak} (hf:Gfu n f) (b:Bool) (q:Int) : -3000≤(Yn f b q).Low∧(Yn f b q).Low≤(Yn f b q).High∧(Yn f b q).High≤3000:=by
 have h1:=Gpg hf q
 have h2:=Gpg hf (-q)
 unfold Yn
 split
 ·dsimp only;omega
 ·omega
theorem Gc4 {n:Nat} {f:Tak} (hf:Gfu n f) (b:Bool) {q q':Int} (h:q≤q'):(Yn f b q').Low≤(Yn f b q).Low∧(Yn f b q').High≤(Yn f b q).High:=by
 have h1:=Ghr f.Curve q q' hf.2.2.2.2.1 h
 have h2:=Ghr f.Curve (-q') (-q) hf.2.2.2.2.1 (by omega)
 unfold Yn
 split
 ·dsimp only;omega
 ·exact h1
def stF (f:Tak) (k q:Int):Taa :=
 if k=0 then ⟨0,0⟩ else if k=1 then Yn f f.Back q else if k=2 then Yn f (!f.Back) q
 else ⟨min (min (Yn f false q).Low (Yn f true q).Low) 0,max (max (Yn f false q).High (Yn f true q).High) 0⟩
theorem Gkq {n:Nat} {f:Tak} {q:Int} (k:Int) (hf:Gfu n f) (h0 : -2000000≤q) (h1:q≤2000000):Fcu f k q=some (stF f k q):=by
 unfold Fcu stF
 rw [Gfe _ hf h0 h1,Gfe _ hf h0 h1,Gfe _ hf h0 h1,Gfe _ hf h0 h1]
 simp only [Gmk,bind_some]
 split
 ·rfl
 ·split
  ·rfl
  ·split <;> rfl
theorem Gta {n:Nat} {f:Tak} (hf:Gfu n f) (k q:Int) : -3000≤(stF f k q).Low∧(stF f k q).Low≤(stF f k q).High∧(stF f k q).High≤3000:=by
 have h1:=Ggi hf f.Back q
 have h2:=Ggi hf (!f.Back) q
 have h3:=Ggi hf false q
 have h4:=Ggi hf true q
 unfold stF
 split
 ·dsimp only;omega
 ·split
  ·exact h1
  ·split
   ·exact h2
   ·dsimp only;omega
theorem Gq1 {n:Nat} {f:Tak} (hf:Gfu n f) (k:Int) {q q':Int} (h:q≤q'):(stF f k q').Low≤(stF f k q).Low∧(stF f k q').High≤(stF f k q).High:=by
 have h1:=Gc4 hf f.Back h
 have h2:=Gc4 hf (!f.Back) h
 have h3:=Gc4 hf false h
 have h4:=Gc4 hf true h
 unfold stF
 split
 ·exact ⟨Int.le_refl _,Int.le_refl _⟩
 ·split
  ·exact h1
  ·split
   ·exact h2
   ·dsimp only;omega
theorem Gtb {f:Tak} {k:Int} (hk:k=0∨k=1∨k=2) (q:Int):(stF f (-1) q).Low≤(stF f k q).Low∧(stF f k q).High≤(stF f (-1) q).High:=by
 have e:stF f (-1) q=⟨min (min (Yn f false q).Low (Yn f true q).Low) 0,max (max (Yn f false q).High (Yn f true q).High) 0⟩:=by
  unfold stF
  rw [if_neg (by decide),if_neg (by decide),if_neg (by decide)]
 rw [e]
 rcases hk with rfl | rfl | rfl
 ·unfold stF
  rw [if_pos rfl]
  dsimp only
  omega
 ·unfold stF
  rw [if_neg (by decide),if_pos rfl]
  cases f.Back <;> (dsimp only;omega)
 ·unfold stF
  rw [if_neg (by decide),if_neg (by decide),if_pos rfl]
  cases f.Back <;> (simp only [Bool.not_false,Bool.not_true];omega)

/-! ### doors -/
def Glr:List Int→Prop
 | []=>True
 | [_]=>True
 | a::b::t=>b<a∧Glr (b::t)
def Ght (n:Nat) (d:Tai):Prop:=0≤d.Road∧d.Road<(n:Int)∧d.Other = -1∧2≤d.Rests.length∧d.Rests.length≤4∧Glr d.Rests∧∀ x ∈ d.Rests,0≤x∧x≤900
noncomputable def Zi (d:Tai) (k:Int):Taa:=(Fb3 d k).getD ⟨0,0⟩
theorem Gd3 {n:Nat} {d:Tai} {k:Int} (hd:Ght n d) (h0 : -1≤k) (h1:k<(d.Rests.length:Int)):Fb3 d k=some (Zi d k)∧0≤(Zi d k).Low∧(Zi d k).Low≤(Zi d k).High∧(Zi d k).High≤900∧(0≤k→(Zi d k).Low=(Zi d k).High∧(Zi d k).Low ∈ d.Rests)∧(k = -1→∀ x ∈ d.Rests,(Zi d k).Low≤x∧x≤(Zi d k).High):=by
 obtain ⟨_,_,_,c1,c2,c3,c4⟩:=hd
 have:Ok (Fb3 d k) fun r=>0≤r.Low∧r.Low≤r.High∧r.High≤900∧(0≤k→r.Low=r.High∧r.Low ∈ d.Rests)∧(k = -1→∀ x ∈ d.Rests,r.Low≤x∧x≤r.High):=by
  unfold Fb3
  rw [Vx (Vx rfl),bind_some]
  refine Ud (fun h=>by omega) (fun _=>?_)
  refine Ud (fun hk=>?_) (fun hk=>?_)
  ·obtain ⟨x,ex,hx⟩:=Gaw (l:=d.Rests) (i:=k) hk h1
   rw [ex,bind_some,bind_some]
   have:=c4 x (Wr hx)
   exact Je ⟨this.1,Int.le_refl _,this.2,fun _=>⟨rfl,Wr hx⟩,fun e=>by omega⟩
  ·obtain ⟨x,ex,hx⟩:=Gaw (l:=d.Rests) (i:=0) (Int.le_refl _) (by omega)
   rw [ex,bind_some,bind_some]
   have hx4:=c4 x (Wr hx)
   refine Jt (Q:=fun r:Taa=>0≤r.Low∧r.Low≤r.High∧r.High≤900∧∀ x ∈ d.Rests,r.Low≤x∧x≤r.High) (Uo (fun s:Int×Taa=>0≤s.1∧s.1≤d.Rests.length∧0≤s.2.Low∧s.2.Low≤s.2.High∧s.2.High≤900∧∀ x ∈ d.Rests.take s.1.toNat,s.2.Low≤x∧x≤s.2.High) (fun s=>(d.Rests.length-s.1).toNat) _ (fun s hs=>?_) _ ⟨Int.le_refl _,by dsimp only;omega,hx4.1,Int.le_refl _,hx4.2,fun x hx=>by simp at hx⟩) fun o ho=>Je ⟨ho.1,ho.2.1,ho.2.2.1,fun e=>absurd e hk,fun _=>ho.2.2.2⟩
   obtain ⟨b1,b2,b3,b4,b5,b6⟩:=hs
   unfold Fef
   refine Ud (fun hi=>?_) (fun hi=>Je ⟨b3,b4,b5,fun x hx=>b6 x (by rw [List.take_of_length_le (by omega)];exact hx)⟩)
   obtain ⟨y,ey,hy⟩:=Gaw (l:=d.Rests) (i:=s.1) b1 hi
   rw [ey,bind_some,bind_some,w64 (by omega) (by omega)]
   have:=c4 y (Wr hy)
   refine Je ⟨⟨by dsimp only;omega,by dsimp only;omega,by dsimp only;omega,by dsimp only;omega,by dsimp only;omega,fun z hz=>?_⟩,by dsimp only;omega⟩
   rw [show (s.1+1).toNat=s.1.toNat+1 by omega,List.take_add_one,hy] at hz
   rcases Gbl (by simpa using hz) with h | h
   ·have:=b6 z h;dsimp only;omega
   ·subst h;dsimp only;omega
 obtain ⟨r,hr,hq⟩:=this
 have e:Zi d k=r:=by unfold Zi;rw [hr];rfl
 rw [e]
 exact ⟨hr,hq⟩
theorem Gq2 {n:Nat} {d:Tai} {k:Int} (hd:Ght n d) (h0:0≤k) (h1:k<(d.Rests.length:Int)):(Zi d (-1)).Low≤(Zi d k).Low∧(Zi d k).Low≤(Zi d (-1)).High:=by
 have hl:=hd.2.2.2.1
 obtain ⟨_,_,_,_,a,_⟩:=Gd3 hd (by omega) h1
 obtain ⟨_,_,_,_,_,b⟩:=Gd3 hd (k:=-1) (by omega) (by omega)
 exact b rfl _ (a h0).2

structure AirR (a:Taj) (s:Taf):Prop where
 m:MnOk a.Mine
 v:∀ r ∈ a.Mine.Roads,Gsb r∧Gsc r∧r.From≠r.To
 f1:a.Fans.length≤2
 f2:s.Fans.length=a.Fans.length
 f3:∀ f ∈ a.Fans,Gfu a.Mine.Roads.length f
 f4:∀ k ∈ s.Fans,-1≤k∧k≤2
 d1:a.Doors.length≤2
 d2:s.Doors.length=a.Doors.length
 d3:∀ d ∈ a.Doors,Ght a.Mine.Roads.length d
 d4:∀ (i:Nat) (d:Tai),a.Doors[i]?=some d → -1≤nt s.Doors i∧nt s.Doors i<(d.Rests.length:Int)
noncomputable def dL (a:Taj) (s:Taf) (i:Int) (k:Nat):Int:=(a.Doors[k]?).elim 0 fun d=>if d.Road=i then (Zi d (nt s.Doors k)).Low else 0
noncomputable def dH (a:Taj) (s:Taf) (i:Int) (k:Nat):Int:=(a.Doors[k]?).elim 0 fun d=>if d.Road=i then (Zi d (nt s.Doors k)).High else 0
def fL (a:Taj) (s:Taf) (i q:Int) (k:Nat):Int:=(a.Fans[k]?).elim 0 fun f=>if f.Road=i then (stF f (nt s.Fans k) q).Low else 0
def fH (a:Taj) (s:Taf) (i q:Int) (k:Nat):Int:=(a.Fans[k]?).elim 0 fun f=>if f.Road=i then (stF f (nt s.Fans k) q).High else 0
def Gan (w v q:Int):Int:=if q<0 then -(w*(q*q)) else v*(q*q)
noncomputable def rL (a:Taj) (s:Taf) (r:Tae) (i:Int):Int:=r.Rest.Low+Uz a.Doors.length (dL a s i)
noncomputable def rH (a:Taj) (s:Taf) (r:Tae) (i:Int):Int:=r.Rest.High+Uz a.Doors.length (dH a s i)
noncomputable def Gc5 (a:Taj) (s:Taf) (r:Tae) (i q:Int):Taa :=
 ⟨Gan (rH a s r i) (rL a s r i) q-r.Lift.High-Uz a.Fans.length (fH a s i q),Gan (rL a s r i) (rH a s r i) q-r.Lift.Low-Uz a.Fans.length (fL a s i q)⟩

theorem Gkr {a:Taj} {s:Taf} (h:AirR a s) (i:Int) (k:Nat):0≤dL a s i k∧dL a s i k≤dH a s i k∧dH a s i k≤900:=by
 unfold dL dH
 cases e:a.Doors[k]? with
 | none=>exact ⟨Int.le_refl _,Int.le_refl _,by show (0:Int)≤900;decide⟩
 | some d =>
  show 0≤(if d.Road=i then (Zi d (nt s.Doors k)).Low else 0)∧(if d.Road=i then (Zi d (nt s.Doors k)).Low else 0)≤(if d.Road=i then (Zi d (nt s.Doors k)).High else 0)∧(if d.Road=i then (Zi d (nt s.Doors k)).High else 0)≤900
  have:=h.d4 k d e
  have:=Gd3 (h.d3 d (Wr e)) this.1 this.2
  split <;> omega
theorem Gph {a:Taj} {s:Taf} (h:AirR a s) (i q:Int) (k:Nat) : -3000≤fL a s i q k∧fL a s i q k≤fH a s i q k∧fH a s i q k≤3000:=by
 unfold fL fH
 cases e:a.Fans[k]? with
 | none=>exact ⟨by show (-3000:Int)≤0;decide,Int.le_refl _,by show (0:Int)≤3000;decide⟩
 | some f =>
  show -3000≤(if f.Road=i then (stF f (nt s.Fans k) q).Low else 0)∧(if f.Road=i then (stF f (nt s.Fans k) q).Low else 0)≤(if f.Road=i then (stF f (nt s.Fans k) q).High else 0)∧(if f.Road=i then (stF f (nt s.Fans k) q).High else 0)≤3000
  have:=Gta (h.f3 f (Wr e)) (nt s.Fans k) q
  split <;> omega
theorem Gmw {a:Taj} {s:Taf} (h:AirR a s) (i:Int) {q q':Int} (hq:q≤q') (k:Nat):fL a s i q' k≤fL a s i q k∧fH a s i q' k≤fH a s i q k:=by
 unfold fL fH
 cases e:a.Fans[k]? with
 | none=>exact ⟨Int.le_refl _,Int.le_refl _⟩
 | some f =>
  show (if f.Road=i then (stF f (nt s.Fans k) q').Low else 0)≤(if f.Road=i then (stF f (nt s.Fans k) q).Low else 0)∧(if f.Road=i then (stF f (nt s.Fans k) q').High else 0)≤(if f.Road=i then (stF f (nt s.Fans k) q).High else 0)
  have:=Gq1 (h.f3 f (Wr e)) (nt s.Fans k) hq
  split <;> omega
theorem Zm {f:Nat→Int} {A B:Int}:∀ (n:Nat),(∀ k,k<n→A≤f k∧f k≤B)→(n:Int)*A≤Uz n f∧Uz n f≤(n:Int)*B
 | 0,_=>by simp [Uz]
 | k+1,h=>by
  have:=Zm k fun j hj=>h j (by omega)
  have:=h k (by omega)
  have e:∀ C:Int,((k+1:Nat):Int)*C=(k:Int)*C+C:=fun C=>by push_cast;rw [Int.add_mul,Int.one_mul]
  rw [e,e]
  show _≤Uz k f+f k∧Uz k f+f k≤_
  omega
theorem Grt {q q':Int} (h0:0≤q) (h:q<q'):q*q<q'*q':=by
 have h1:q*q≤q*q':=Int.mul_le_mul_of_nonneg_left (by omega) h0
 have h2:q*q'<q'*q':=Int.mul_lt_mul_of_pos_right h (by omega)
 omega
theorem Gmx {w v q q':Int} (hw:1≤w) (hv:1≤v) (h:q<q'):Gan w v q<Gan w v q':=by
 unfold Gan
 by_cases e1:q<0
 ·rw [if_pos e1]
  have h0:0<q*q:=Int.mul_pos_of_neg_of_neg e1 e1
  have h1:0<w*(q*q):=Int.mul_pos (by omega) h0
  by_cases e2:q'<0
  ·rw [if_pos e2]
   have h2:=Grt (q:=-q') (q':=-q) (by omega) (by omega)
   rw [Int.neg_mul_neg,Int.neg_mul_neg] at h2
   have:=Int.mul_lt_mul_of_pos_left h2 (show 0<w by omega)
   omega
  ·rw [if_neg e2]
   have h2:0≤q'*q':=Int.mul_nonneg (by omega) (by omega)
   have:0≤v*(q'*q'):=Int.mul_nonneg (by omega) h2
   omega
 ·rw [if_neg e1,if_neg (by omega)]
  exact Int.mul_lt_mul_of_pos_left (Grt (by omega) h) (by omega)
theorem Gpi {w v w' v' q:Int} (hw:w'≤w) (hv:v≤v'):Gan w v q≤Gan w' v' q:=by
 have h2:0≤q*q:=by
  by_cases e:0≤q
  ·exact Int.mul_nonneg e e
  ·have:=Int.mul_nonneg (a:=-q) (b:=-q) (by omega) (by omega)
   rwa [Int.neg_mul_neg] at this
 have h3:=Int.mul_le_mul_of_nonneg_right hw h2
 have h4:=Int.mul_le_mul_of_nonneg_right hv h2
 unfold Gan
 split <;> omega
theorem Gsj {a:Taj} {s:Taf} (h:AirR a s) {r:Tae} (hr:r ∈ a.Mine.Roads) (i:Int):1≤rL a s r i∧rL a s r i≤rH a s r i∧rH a s r i≤2000:=by
 obtain ⟨⟨_,_,_,_,u5,u6,u7,u8⟩,_,_⟩:=h.v r hr
 have h1:=Zm (f:=dL a s i) (A:=0) (B:=900) a.Doors.length fun k _=>by have:=Gkr h i k;omega
 have h2:=Zm (f:=dH a s i) (A:=0) (B:=900) a.Doors.length fun k _=>by have:=Gkr h i k;omega
 have h3:=Gby a.Doors.length (dL a s i) (dH a s i) fun k _=>(Gkr h i k).2.1
 have:=h.d1
 unfold rL rH
 omega
theorem Gjb {a:Taj} {s:Taf} (h:AirR a s) {r:Tae} (hr:r ∈ a.Mine.Roads) (i:Int) {q q':Int} (hq:q<q'):(Gc5 a s r i q).Low<(Gc5 a s r i q').Low∧(Gc5 a s r i q).High<(Gc5 a s r i q').High:=by
 have hb:=Gsj h hr i
 have h1:=Gmx (w:=rH a s r i) (v:=rL a s r i) (by omega) (by omega) hq
 have h2:=Gmx (w:=rL a s r i) (v:=rH a s r i) (by omega) (by omega) hq
 have h3:=Gby a.Fans.length (fH a s i q') (fH a s i q) fun k _=>(Gmw h i (Int.le_of_lt hq) k).2
 have h4:=Gby a.Fans.length (fL a s i q') (fL a s i q) fun k _=>(Gmw h i (Int.le_of_lt hq) k).1
 unfold Gc5
 dsimp only
 omega
theorem Gpj {w q:Int} (hw0:0≤w) (hw:w≤2000) (h0 : -2000000≤q) (h1:q≤2000000):0≤w*(q*q)∧w*(q*q)≤8000000000000000 ∧ -4000000000≤w*q∧w*q≤4000000000∧w*q*q=w*(q*q):=by
 have e1:=Gfr (a:=w) (b:=q) (A:=2000) (B:=2000000) hw0 hw h0 h1 (by decide)
 have e2:=Gi9 (a:=w*q) (b:=q) (A:=4000000000) (B:=2000000) (by omega) (by omega) h0 h1 (by decide)
 have e3:w*q*q=w*(q*q):=Int.mul_assoc _ _ _
 have h2:0≤q*q:=by
  by_cases e:0≤q
  ·exact Int.mul_nonneg e e
  ·have:=Int.mul_nonneg (a:=-q) (b:=-q) (by omega) (by omega)
   rwa [Int.neg_mul_neg] at this
 have h3:0≤w*(q*q):=Int.mul_nonneg hw0 h2
 rw [e3] at e2
 omega
theorem Gls {a:Taj} {s:Taf} (h:AirR a s) {r:Tae} {i:Nat} (hr:a.Mine.Roads[i]?=some r) {q:Int} (h0 : -2000000≤q) (h1:q≤2000000):Fcd a s (i:Int) q=some (Gc5 a s r i q):=by
 have hrm:=Wr hr
 obtain ⟨⟨_,_,_,_,u5,u6,u7,u8⟩,⟨l1,l2,l3⟩,_⟩:=h.v r hrm
 have hb:=Gsj h hrm (i:Int)
 have hd1:=h.d1
 have hf1:=h.f1
 refine Ok.val ?_
 unfold Fcd
 rw [Jv,hr,bind_some]
 refine Jt (Q:=fun o:Taa=>o=⟨rL a s r i,rH a s r i⟩) (Uo (fun t:Int×Taa=>0≤t.1∧t.1≤a.Doors.length∧t.2=⟨r.Rest.Low+Uz t.1.toNat (dL a s i),r.Rest.High+Uz t.1.toNat (dH a s i)⟩) (fun t=>(a.Doors.length-t.1).toNat) _ (fun t ht=>?_) _ ⟨Int.le_refl _,by dsimp only;omega,by simp [Uz]⟩) fun o ho=>?_
 ·obtain ⟨k',sp⟩:=t
  obtain ⟨b1,b2,b3⟩:=ht
  dsimp only at b1 b2 b3
  subst b3
  obtain ⟨k,rfl⟩:∃ k:Nat,k'=(k:Int):=⟨k'.toNat,by omega⟩
  have s1:=Zm (f:=dL a s i) (A:=0) (B:=900) k fun k _=>by have:=Gkr h i k;omega
  have s2:=Zm (f:=dH a s i) (A:=0) (B:=900) k fun k _=>by have:=Gkr h i k;omega
  have s3:=Gkr h i k
  unfold Fdk
  dsimp only
  rw [Int.toNat_natCast]
  refine Ud (fun hk=>?_) (fun hk=>Je ?_)
  ·have hk':k<a.Doors.length:=by omega
   have hg:=List.getElem?_eq_getElem hk'
   rw [Jv,hg,bind_some,bind_some]
   have hdk:=h.d4 k _ hg
   have hdd:=Gd3 (h.d3 _ (Wr hg)) hdk.1 hdk.2
   have eL:dL a s i k=if (a.Doors[k]).Road=(i:Int) then (Zi a.Doors[k] (nt s.Doors k)).Low else 0:=by unfold dL;rw [hg];rfl
   have eH:dH a s i k=if (a.Doors[k]).Road=(i:Int) then (Zi a.Doors[k] (nt s.Doors k)).High else 0:=by unfold dH;rw [hg];rfl
   refine Jt (Q:=fun o:Taa=>o=⟨r.Rest.Low+Uz (k+1) (dL a s i),r.Rest.High+Uz (k+1) (dH a s i)⟩) (Ud (fun hc=>?_) (fun hc=>Je ?_)) fun o ho=>?_
   ·rw [Jv,Uv (by rw [h.d2];exact hk'),bind_some,hdd.1,bind_some]
    rw [if_pos hc] at eL eH
    rw [← eL,← eH,w64 (by omega) (by omega),w64 (by omega) (by omega)]
    refine Je ?_
    show _=Taa.mk (_+(Uz k _+_)) (_+(Uz k _+_))
    rw [Int.add_assoc,Int.add_assoc]
   ·rw [if_neg hc] at eL eH
    show _=Taa.mk (_+(Uz k _+_)) (_+(Uz k _+_))
    rw [eL,eH,Int.add_zero,Int.add_zero]
   ·rw [w64 (n:=(k:Int)+1) (by omega) (by omega)]
    exact Je ⟨⟨by dsimp only;omega,by dsimp only;omega,ho⟩,by dsimp only;omega⟩
  ·have:k=a.Doors.length:=by omega
   subst this
   rfl
 ·subst ho
  have m1:=Gpj (w:=rL a s r i) (q:=q) (by omega) (by omega) h0 h1
  have m2:=Gpj (w:=rH a s r i) (q:=q) (by omega) (by omega) h0 h1
  dsimp only
  have eq:(bif decide (q<0) then
    some (Taa.mk (IntKind.i64.wrap (0-(IntKind.i64.wrap ((IntKind.i64.wrap (rH a s r i*q))*q)))) (IntKind.i64.wrap (0-(IntKind.i64.wrap ((IntKind.i64.wrap (rL a s r i*q))*q)))))
   else
    some (Taa.mk (IntKind.i64.wrap ((IntKind.i64.wrap (rL a s r i*q))*q)) (IntKind.i64.wrap ((IntKind.i64.wrap (rH a s r i*q))*q))))=some ⟨Gan (rH a s r i) (rL a s r i) q,Gan (rL a s r i) (rH a s r i) q⟩:=by
   rw [w64 (n:=rL a s r i*q) (by omega) (by omega),w64 (n:=rH a s r i*q) (by omega) (by omega),m1.2.2.2.2,m2.2.2.2.2,w64 (n:=rL a s r i*(q*q)) (by omega) (by omega),w64 (n:=rH a s r i*(q*q)) (by omega) (by omega)]
   unfold Gan
   by_cases e:q<0
   ·rw [Sj e,if_pos e,if_pos e,w64 (by omega) (by omega),w64 (by omega) (by omega)]
    congr 2 <;> omega
   ·rw [Kg e,if_neg e,if_neg e]
  rw [eq,bind_some]
  dsimp only
  have qb1 : -8000000000000000≤Gan (rH a s r i) (rL a s r i) q∧Gan (rH a s r i) (rL a s r i) q≤8000000000000000:=by unfold Gan;split <;> omega
  have qb2 : -8000000000000000≤Gan (rL a s r i) (rH a s r i) q∧Gan (rL a s r i) (rH a s r i) q≤8000000000000000:=by unfold Gan;split <;> omega
  rw [w64 (n:=Gan (rH a s r i) (rL a s r i) q-r.Lift.High) (by omega) (by omega),w64 (n:=Gan (rL a s r i) (rH a s r i) q-r.Lift.Low) (by omega) (by omega)]
  unfold Gc5
  generalize hA:Gan (rH a s r i) (rL a s r i) q-r.Lift.High=A
  generalize hB:Gan (rL a s r i) (rH a s r i) q-r.Lift.Low=B
  refine Jt (Uo (fun t:Int×Taa=>0≤t.1∧t.1≤a.Fans.length∧t.2=⟨A-Uz t.1.toNat (fH a s i q),B-Uz t.1.toNat (fL a s i q)⟩) (fun t=>(a.Fans.length-t.1).toNat) (fun o=>o=⟨A-Uz a.Fans.length (fH a s i q),B-Uz a.Fans.length (fL a s i q)⟩) (fun t ht=>?_) _ ⟨Int.le_refl _,by dsimp only;omega,by simp [Uz]⟩) fun o ho=>Je ho
  obtain ⟨k',sp⟩:=t
  obtain ⟨b1,b2,b3⟩:=ht
  dsimp only at b1 b2 b3
  subst b3
  obtain ⟨k,rfl⟩:∃ k:Nat,k'=(k:Int):=⟨k'.toNat,by omega⟩
  have s1:=Zm (f:=fL a s i q) (A:=-3000) (B:=3000) k fun k _=>by have:=Gph h i q k;omega
  have s2:=Zm (f:=fH a s i q) (A:=-3000) (B:=3000) k fun k _=>by have:=Gph h i q k;omega
  have s3:=Gph h i q k
  unfold Fdl
  dsimp only
  rw [Int.toNat_natCast]
  refine Ud (fun hk=>?_) (fun hk=>Je ?_)
  ·have hk':k<a.Fans.length:=by omega
   have hg:=List.getElem?_eq_getElem hk'
   rw [Jv,hg,bind_some,bind_some]
   have hff:=Gkq (nt s.Fans k) (h.f3 _ (Wr hg)) h0 h1
   have eL:fL a s i q k=if (a.Fans[k]).Road=(i:Int) then (stF a.Fans[k] (nt s.Fans k) q).Low else 0:=by unfold fL;rw [hg];rfl
   have eH:fH a s i q k=if (a.Fans[k]).Road=(i:Int) then (stF a.Fans[k] (nt s.Fans k) q).High else 0:=by unfold fH;rw [hg];rfl
   refine Jt (Q:=fun o:Taa=>o=⟨A-Uz (k+1) (fH a s i q),B-Uz (k+1) (fL a s i q)⟩) (Ud (fun hc=>?_) (fun hc=>Je ?_)) fun o ho=>?_
   ·rw [Jv,Uv (by rw [h.f2];exact hk'),bind_some,hff,bind_some]
    rw [if_pos hc] at eL eH
    rw [← eL,← eH,w64 (by omega) (by omega),w64 (by omega) (by omega)]
    refine Je ?_
    show _=Taa.mk (_-(Uz k _+_)) (_-(Uz k _+_))
    congr 1 <;> omega
   ·rw [if_neg hc] at eL eH
    show _=Taa.mk (_-(Uz k _+_)) (_-(Uz k _+_))
    rw [eL,eH,Int.add_zero,Int.add_zero]
   ·rw [w64 (n:=(k:Int)+1) (by omega) (by omega)]
    exact Je ⟨⟨by dsimp only;omega,by dsimp only;omega,ho⟩,by dsimp only;omega⟩
  ·have:k=a.Fans.length:=by omega
   subst this
   rfl
noncomputable def Gc9 (a:Taj) (s:Taf) (i:Nat) (P:Int):Int:=(Fa5 a s (i:Int) P).getD 0
noncomputable def hiV (a:Taj) (s:Taf) (i:Nat) (P:Int):Int:=(Fay a s (i:Int) P).getD 0
theorem Gmy {α:Type} {m:Option α} {Q:α→Prop} {z:α} (h:Ok m Q):m=some (m.getD z)∧Q (m.getD z):=by
 obtain ⟨b,rfl,hq⟩:=h
 exact ⟨rfl,hq⟩
theorem Gfv {a:Taj} {s:Taf} (h:AirR a s) {i:Nat} (hi:i<a.Mine.Roads.length) (P:Int):Fa5 a s (i:Int) P=some (Gc9 a s i P) ∧ -1048577≤Gc9 a s i P∧Gc9 a s i P≤1048576∧(Gc9 a s i P = -1048577∨(Gc5 a s (rd0 a.Mine i) i (Gc9 a s i P)).High≤P):=by
 refine Gmy (Q:=fun v=>-1048577≤v∧v≤1048576∧(v = -1048577∨(Gc5 a s (rd0 a.Mine i) i v).High≤P)) ?_
 unfold Fa5
 refine Jt (Uo (fun t:Int×Int=>-1048577≤t.2∧t.2≤t.1∧t.1≤1048576∧(t.2 = -1048577∨(Gc5 a s (rd0 a.Mine i) i t.2).High≤P)) (fun t=>(t.1-t.2).toNat) _ (fun t ht=>?_) _ ⟨Int.le_refl _,by decide,Int.le_refl _,.inl rfl⟩) fun o ho=>Je ho
 obtain ⟨hi',lo'⟩:=t
 obtain ⟨b1,b2,b3,b4⟩:=ht
 dsimp only at b1 b2 b3 b4
 unfold Fc7
 dsimp only
 refine Ud (fun hk=>?_) (fun hk=>Je ⟨b1,by omega,b4⟩)
 rw [w64 (n:=hi'-lo') (by omega) (by omega),w64 (n:=hi'-lo'+1) (by omega) (by omega),Int.tdiv_eq_ediv_of_nonneg (by omega),w64 (n:=(hi'-lo'+1) / 2) (by omega) (by omega),w64 (n:=lo'+(hi'-lo'+1) / 2) (by omega) (by omega),Gls h (Xg hi) (by omega) (by omega),bind_some]
 refine Ud (fun hc=>Je ⟨⟨by dsimp only;omega,by dsimp only;omega,b3,.inr hc⟩,by dsimp only;omega⟩) (fun hc=>?_)
 rw [w64 (by omega) (by omega)]
 exact Je ⟨⟨b1,by dsimp only;omega,by dsimp only;omega,b4⟩,by dsimp only;omega⟩
theorem Gil {a:Taj} {s:Taf} (h:AirR a s) {i:Nat} (hi:i<a.Mine.Roads.length) (P:Int):Fay a s (i:Int) P=some (hiV a s i P) ∧ -1048576≤hiV a s i P∧hiV a s i P≤1048577∧(hiV a s i P=1048577∨P≤(Gc5 a s (rd0 a.Mine i) i (hiV a s i P)).Low):=by
 refine Gmy (Q:=fun v=>-1048576≤v∧v≤1048577∧(v=1048577∨P≤(Gc5 a s (rd0 a.Mine i) i v).Low)) ?_
 unfold Fay
 refine Jt (Uo (fun t:Int×Int=>-1048576≤t.2∧t.2≤t.1∧t.1≤1048577∧(t.1=1048577∨P≤(Gc5 a s (rd0 a.Mine i) i t.1).Low)) (fun t=>(t.1-t.2).toNat) _ (fun t ht=>?_) _ ⟨Int.le_refl _,by decide,Int.le_refl _,.inl rfl⟩) fun o ho=>Je ho
 obtain ⟨hi',lo'⟩:=t
 obtain ⟨b1,b2,b3,b4⟩:=ht
 dsimp only at b1 b2 b3 b4
 unfold Fc2
 dsimp only
 refine Ud (fun hk=>?_) (fun hk=>Je ?_)
 ·rw [w64 (n:=hi'-lo') (by omega) (by omega),Int.tdiv_eq_ediv_of_nonneg (by omega),w64 (n:=(hi'-lo') / 2) (by omega) (by omega),w64 (n:=lo'+(hi'-lo') / 2) (by omega) (by omega),Gls h (Xg hi) (by omega) (by omega),bind_some]
  refine Ud (fun hc=>Je ⟨⟨b1,by dsimp only;omega,by dsimp only;omega,.inr hc⟩,by dsimp only;omega⟩) (fun hc=>?_)
  rw [w64 (by omega) (by omega)]
  exact Je ⟨⟨by dsimp only;omega,by dsimp only;omega,b3,b4⟩,by dsimp only;omega⟩
 ·have:lo'=hi':=by omega
  subst this
  exact ⟨b1,b3,b4⟩

/-! ### what a place gains -/
def frN (m:Tah) (i:Nat):Nat:=(rd0 m i).From.toNat
def toN (m:Tah) (i:Nat):Nat:=(rd0 m i).To.toNat
def clB (m:Tah) (i:Nat):Bool:=(rd0 m i).Closed
noncomputable def Gff (a:Taj) (s:Taf) (l:List Int) (k:Nat):Int :=
 Uz a.Mine.Roads.length fun i=>Wg (frN a.Mine i) (toN a.Mine i) k (clB a.Mine i) (Gc9 a s i (nt l (frN a.Mine i)-nt l (toN a.Mine i))) (hiV a s i (nt l (frN a.Mine i)-nt l (toN a.Mine i)))
noncomputable def Gfg (a:Taj) (s:Taf) (l:List Int) (k:Nat):Int :=
 Uz a.Mine.Roads.length fun i=>Wg (frN a.Mine i) (toN a.Mine i) k (clB a.Mine i) (hiV a s i (nt l (frN a.Mine i)-nt l (toN a.Mine i))) (Gc9 a s i (nt l (frN a.Mine i)-nt l (toN a.Mine i)))
def Rng (n:Nat) (l:List Int):Prop:=l.length=n∧∀ k,-70368744177664≤nt l k∧nt l k≤70368744177664
theorem Gjc {fr to k:Nat} {cl:Bool} {x y B:Int} (hx : -B≤x∧x≤B) (hy : -B≤y∧y≤B) (hB:0≤B) : -(2*B)≤Wg fr to k cl x y∧Wg fr to k cl x y≤2*B:=by
 unfold Wg
 cases cl
 ·simp only [Bool.false_eq_true,if_false]
  split <;> split <;> omega
 ·simp only [if_true]
  omega
theorem Gag {a:Taj} {s:Taf} (h:AirR a s) {i:Nat} (hi:i<a.Mine.Roads.length):(rd0 a.Mine i).From=(frN a.Mine i:Int)∧(rd0 a.Mine i).To=(toN a.Mine i:Int)∧frN a.Mine i<a.Mine.Places.length∧toN a.Mine i<a.Mine.Places.length∧frN a.Mine i≠toN a.Mine i:=by
 have hm:=Wr (Xg hi)
 obtain ⟨a1,a2,a3,a4⟩:=h.m.rd _ hm
 have:=(h.v _ hm).2.2
 unfold frN toN
 omega
theorem Gjd {a:Taj} {s:Taf} (h:AirR a s) {l:List Int} (hl:Rng a.Mine.Places.length l) (k:Nat):Fa6 a s l (k:Int)=some (Gff a s l k):=by
 have hr:=h.m.r1
 refine Ok.val ?_
 unfold Fa6 Gff
 generalize hF:(fun i=>Wg (frN a.Mine i) (toN a.Mine i) k (clB a.Mine i) (Gc9 a s i (nt l (frN a.Mine i)-nt l (toN a.Mine i))) (hiV a s i (nt l (frN a.Mine i)-nt l (toN a.Mine i))))=F
 have hFb:∀ i,i<a.Mine.Roads.length → -2097154≤F i∧F i≤2097154:=fun i hi=>by
  rw [← hF]
  have b1:=(Gfv h hi (nt l (frN a.Mine i)-nt l (toN a.Mine i))).2
  have b2:=(Gil h hi (nt l (frN a.Mine i)-nt l (toN a.Mine i))).2
  exact Gjc (B:=1048577) ⟨by omega,by omega⟩ ⟨by omega,by omega⟩ (by decide)
 refine Jt (Uo (fun t:Int×Int=>0≤t.1∧t.1≤a.Mine.Roads.length∧t.2=Uz t.1.toNat F) (fun t=>(a.Mine.Roads.length-t.1).toNat) (fun o=>o=Uz a.Mine.Roads.length F) (fun t ht=>?_) _ ⟨Int.le_refl _,by dsimp only;omega,rfl⟩) fun o ho=>Je ho
 obtain ⟨i',v⟩:=t
 obtain ⟨b1,b2,b3⟩:=ht
 dsimp only at b1 b2 b3
 subst b3
 obtain ⟨i,rfl⟩:∃ i:Nat,i'=(i:Int):=⟨i'.toNat,by omega⟩
 rw [Int.toNat_natCast]
 unfold Fc8
 dsimp only
 refine Ud (fun hlt=>?_) (fun hge=>Je ?_)
 ·have hi:i<a.Mine.Roads.length:=by omega
  obtain ⟨e1,e2,e3,e4,e5⟩:=Gag h hi
  have sb:=Zm (f:=F) (A:=-2097154) (B:=2097154) i fun j hj=>hFb j (by omega)
  have q1:=hl.2 (frN a.Mine i)
  have q2:=hl.2 (toN a.Mine i)
  have ll:=hl.1
  obtain ⟨z1,z2,z3,_⟩:=Gfv h hi (nt l (frN a.Mine i)-nt l (toN a.Mine i))
  obtain ⟨y1,y2,y3,_⟩:=Gil h hi (nt l (frN a.Mine i)-nt l (toN a.Mine i))
  have hFi:F i=Wg (frN a.Mine i) (toN a.Mine i) k (rd0 a.Mine i).Closed (Gc9 a s i (nt l (frN a.Mine i)-nt l (toN a.Mine i))) (hiV a s i (nt l (frN a.Mine i)-nt l (toN a.Mine i))):=by rw [← hF];rfl
  rw [Jv,Xg hi,bind_some,w64 (n:=(i:Int)+1) (by omega) (by omega)]
  refine Jt (Q:=fun v=>v=Uz (i+1) F) ?_ fun v hv=>Je ⟨⟨by dsimp only;omega,by dsimp only;omega,hv⟩,by dsimp only;omega⟩
  show Ok _ fun v=>v=Uz i F+F i
  rw [e1,e2]
  cases hc:(rd0 a.Mine i).Closed with
  | true =>
   rw [hc] at hFi
   rw [hFi]
   exact Je (by unfold Wg;simp)
  | false =>
   rw [hc] at hFi
   rw [hFi]
   rw [cond_false,Jv,Uv (by omega),Jv,Uv (by omega)]
   dsimp only [bind_some,Option.bind_some]
   rw [w64 (n:=nt l (frN a.Mine i)-nt l (toN a.Mine i)) (by omega) (by omega),z1,y1]
   dsimp only [bind_some,Option.bind_some]
   by_cases c1:frN a.Mine i=k
   ·rw [Sj (by omega),bind_some,Kg (by omega),w64 (by omega) (by omega),Gck c1 e5]
    exact Je rfl
   ·rw [Kg (by omega),bind_some]
    by_cases c2:toN a.Mine i=k
    ·rw [Sj (by omega),w64 (by omega) (by omega),Gcl c2 e5]
     exact Je (by omega)
    ·rw [Kg (by omega),Gbz c1 c2]
     exact Je (by omega)
 ·have:i=a.Mine.Roads.length:=by omega
  subst this
  rfl
theorem Gje {a:Taj} {s:Taf} (h:AirR a s) {l:List Int} (hl:Rng a.Mine.Places.length l) (k:Nat):Faz a s l (k:Int)=some (Gfg a s l k):=by
 have hr:=h.m.r1
 refine Ok.val ?_
 unfold Faz Gfg
 generalize hF:(fun i=>Wg (frN a.Mine i) (toN a.Mine i) k (clB a.Mine i) (hiV a s i (nt l (frN a.Mine i)-nt l (toN a.Mine i))) (Gc9 a s i (nt l (frN a.Mine i)-nt l (toN a.Mine i))))=F
 have hFb:∀ i,i<a.Mine.Roads.length → -2097154≤F i∧F i≤2097154:=fun i hi=>by
  rw [← hF]
  have b1:=(Gfv h hi (nt l (frN a.Mine i)-nt l (toN a.Mine i))).2
  have b2:=(Gil h hi (nt l (frN a.Mine i)-nt l (toN a.Mine i))).2
  exact Gjc (B:=1048577) ⟨by omega,by omega⟩ ⟨by omega,by omega⟩ (by decide)
 refine Jt (Uo (fun t:Int×Int=>0≤t.1∧t.1≤a.Mine.Roads.length∧t.2=Uz t.1.toNat F) (fun t=>(a.Mine.Roads.length-t.1).toNat) (fun o=>o=Uz a.Mine.Roads.length F) (fun t ht=>?_) _ ⟨Int.le_refl _,by dsimp only;omega,rfl⟩) fun o ho=>Je ho
 obtain ⟨i',v⟩:=t
 obtain ⟨b1,b2,b3⟩:=ht
 dsimp only at b1 b2 b3
 subst b3
 obtain ⟨i,rfl⟩:∃ i:Nat,i'=(i:Int):=⟨i'.toNat,by omega⟩
 rw [Int.toNat_natCast]
 unfold Fc3
 dsimp only
 refine Ud (fun hlt=>?_) (fun hge=>Je ?_)
 ·have hi:i<a.Mine.Roads.length:=by omega
  obtain ⟨e1,e2,e3,e4,e5⟩:=Gag h hi
  have sb:=Zm (f:=F) (A:=-2097154) (B:=2097154) i fun j hj=>hFb j (by omega)
  have q1:=hl.2 (frN a.Mine i)
  have q2:=hl.2 (toN a.Mine i)
  have ll:=hl.1
  obtain ⟨z1,z2,z3,_⟩:=Gfv h hi (nt l (frN a.Mine i)-nt l (toN a.Mine i))
  obtain ⟨y1,y2,y3,_⟩:=Gil h hi (nt l (frN a.Mine i)-nt l (toN a.Mine i))
  have hFi:F i=Wg (frN a.Mine i) (toN a.Mine i) k (rd0 a.Mine i).Closed (hiV a s i (nt l (frN a.Mine i)-nt l (toN a.Mine i))) (Gc9 a s i (nt l (frN a.Mine i)-nt l (toN a.Mine i))):=by rw [← hF];rfl
  rw [Jv,Xg hi,bind_some,w64 (n:=(i:Int)+1) (by omega) (by omega)]
  refine Jt (Q:=fun v=>v=Uz (i+1) F) ?_ fun v hv=>Je ⟨⟨by dsimp only;omega,by dsimp only;omega,hv⟩,by dsimp only;omega⟩
  show Ok _ fun v=>v=Uz i F+F i
  rw [e1,e2]
  cases hc:(rd0 a.Mine i).Closed with
  | true =>
   rw [hc] at hFi
   rw [hFi]
   exact Je (by unfold Wg;simp)
  | false =>
   rw [hc] at hFi
   rw [hFi]
   rw [cond_false,Jv,Uv (by omega),Jv,Uv (by omega)]
   dsimp only [bind_some,Option.bind_some]
   rw [w64 (n:=nt l (frN a.Mine i)-nt l (toN a.Mine i)) (by omega) (by omega),z1,y1]
   dsimp only [bind_some,Option.bind_some]
   by_cases c1:frN a.Mine i=k
   ·rw [Sj (by omega),bind_some,Kg (by omega),w64 (by omega) (by omega),Gck c1 e5]
    exact Je rfl
   ·rw [Kg (by omega),bind_some]
    by_cases c2:toN a.Mine i=k
    ·rw [Sj (by omega),w64 (by omega) (by omega),Gcl c2 e5]
     exact Je (by omega)
    ·rw [Kg (by omega),Gbz c1 c2]
     exact Je (by omega)
 ·have:i=a.Mine.Roads.length:=by omega
  subst this
  rfl

/-! ### the search -/
theorem Gfh {n:Nat} {l:List Int} (h:Rng n l) {k:Nat} (hk:k<n) {v:Int} (h0 : -70368744177664≤v) (h1:v≤70368744177664):Rng n (l.set k v):=by
 refine ⟨by rw [List.length_set];exact h.1,fun j=>?_⟩
 rw [Gaz (by rw [h.1];exact hk)]
 split
 ·exact ⟨h0,h1⟩
 ·exact h.2 j
theorem Ghu {l:List Int} {k:Nat} (hk:k<l.length):l.set k (nt l k)=l:=by
 refine Glm (by rw [List.length_set]) fun j _=>?_
 rw [Gaz hk]
 split
 ·rename_i e;subst e;rfl
 ·rfl
theorem Gav {l:List Int} {k:Nat} (hk:k<l.length) {v:Int}:Kl (l.set k v) (k:Int)=some v:=by
 rw [Jv,List.getElem?_set_self hk]
theorem Gtc {a:Taj} {s:Taf} (h:AirR a s) {l:List Int} (hl:Rng a.Mine.Places.length l) {k:Nat} (hk:k<a.Mine.Places.length):Ok (Fem a s l (k:Int)) fun r=>r.2=true → -70368744177664≤r.1∧r.1≤70368744177664∧0≤Gff a s (l.set k r.1) k:=by
 have hkl:k<l.length:=by rw [hl.1];exact hk
 have hp2:=h.m.p2
 have ll:=hl.1
 have hv0:=hl.2 k
 unfold Fem
 rw [Wj (by simp;omega),bind_some,List.nil_append,Gjd h hl,bind_some]
 refine Ud (fun hc=>?_) (fun hc=>?_)
 ·rw [Jv,Uv hkl,bind_some]
  refine Je fun _=>⟨hv0.1,hv0.2,?_⟩
  dsimp only
  rw [Ghu hkl]
  exact hc
 rw [Jv,Uv hkl,bind_some]
 refine Jt (Q:=fun o=>∀ p,o = .inr p→∃ w,p.2=l.set k w ∧ -70368744177664≤p.1∧p.1≤w∧w≤70368744177664∧0≤Gff a s (l.set k w) k) (Uo (fun t:Int×Int×List Int=>∃ v,t.2.2=l.set k v∧nt l k≤t.1∧t.1≤70368744177664∧1≤t.2.1∧t.2.1≤t.1-nt l k+1) (fun t=>(70368744177664-t.1).toNat) _ (fun t ht=>?_) _ ⟨nt l k,by dsimp only;rw [Ghu hkl],Int.le_refl _,hv0.2,Int.le_refl _,by dsimp only;omega⟩) fun o ho=>?_
 ·obtain ⟨lo,st,l'⟩:=t
  obtain ⟨v,b1,b2,b3,b4,b5⟩:=ht
  dsimp only at b1 b2 b3 b4 b5
  subst b1
  unfold Fet
  dsimp only
  rw [Gav hkl,bind_some,Int.toNat_natCast,List.set_set,w64 (n:=lo+st) (by omega) (by omega)]
  have hR:=Gfh hl hk (v:=min (lo+st) 70368744177664) (by omega) (by omega)
  rw [Gjd h hR,bind_some]
  refine Ud (fun hc=>Je fun p hp=>?_) (fun hc=>?_)
  ·injection hp with hp
   subst hp
   exact ⟨_,rfl,by dsimp only;omega,by dsimp only;omega,by omega,hc⟩
  rw [Gav hkl,bind_some,bind_some]
  refine Ud (fun hc=>Je fun p hp=>by cases hp) (fun hc=>?_)
  rw [w64 (n:=st*2) (by omega) (by omega)]
  exact Je ⟨⟨_,rfl,by dsimp only;omega,by dsimp only;omega,by dsimp only;omega,by dsimp only;omega⟩,by dsimp only;omega⟩
 cases o with
 | inl u=>exact Je fun e=>by cases e
 | inr p =>
  obtain ⟨w,c1,c2,c3,c4,c5⟩:=ho p rfl
  obtain ⟨lo,l'⟩:=p
  dsimp only at c1 c2 c3
  subst c1
  dsimp only [Sum.elim_inr]
  rw [Gav hkl,bind_some]
  refine Jt (Uo (fun t:Int×Int×List Int=>-70368744177664≤t.1∧t.1≤t.2.1∧t.2.1≤70368744177664∧(∃ v,t.2.2=l.set k v)∧0≤Gff a s (l.set k t.2.1) k) (fun t=>(t.2.1-t.1).toNat) (fun r=>-70368744177664≤r∧r≤70368744177664∧0≤Gff a s (l.set k r) k) (fun t ht=>?_) _ ⟨c2,c3,c4,⟨w,rfl⟩,c5⟩) fun r hr=>Je fun _=>hr
  obtain ⟨lo,hi',l'⟩:=t
  obtain ⟨b1,b2,b3,⟨v,b4⟩,b5⟩:=ht
  dsimp only at b1 b2 b3 b4 b5
  subst b4
  unfold Feu
  dsimp only
  rw [w64 (n:=lo+1) (by omega) (by omega)]
  refine Ud (fun hlt=>?_) (fun hge=>Je ⟨by omega,b3,b5⟩)
  rw [Gav hkl,bind_some,Int.toNat_natCast,List.set_set,w64 (n:=hi'-lo) (by omega) (by omega),Int.tdiv_eq_ediv_of_nonneg (by omega),w64 (n:=(hi'-lo) / 2) (by omega) (by omega),w64 (n:=lo+(hi'-lo) / 2) (by omega) (by omega)]
  have hR:=Gfh hl hk (v:=lo+(hi'-lo) / 2) (by omega) (by omega)
  rw [Gjd h hR,bind_some,Gav hkl]
  refine Ud (fun hc=>?_) (fun hc=>?_)
  ·exact Je ⟨⟨b1,by dsimp only;omega,by dsimp only;omega,⟨_,rfl⟩,hc⟩,by dsimp only;omega⟩
  ·exact Je ⟨⟨by dsimp only;omega,by dsimp only;omega,b3,⟨_,rfl⟩,b5⟩,by dsimp only;omega⟩
theorem Gq3 {a:Taj} {s:Taf} (h:AirR a s) {l:List Int} (hl:Rng a.Mine.Places.length l) {k:Nat} (hk:k<a.Mine.Places.length):Ok (Fdb a s l (k:Int)) fun r=>r.2=true → -70368744177664≤r.1∧r.1≤70368744177664∧Gfg a s (l.set k r.1) k≤0:=by
 have hkl:k<l.length:=by rw [hl.1];exact hk
 have hp2:=h.m.p2
 have ll:=hl.1
 have hv0:=hl.2 k
 unfold Fdb
 rw [Wj (by simp;omega),bind_some,List.nil_append,Gje h hl,bind_some]
 refine Ud (fun hc=>?_) (fun hc=>?_)
 ·rw [Jv,Uv hkl,bind_some]
  refine Je fun _=>⟨hv0.1,hv0.2,?_⟩
  dsimp only
  rw [Ghu hkl]
  exact hc
 rw [Jv,Uv hkl,bind_some]
 refine Jt (Q:=fun o=>∀ p,o = .inr p→∃ w,p.2=l.set k w∧p.1≤70368744177664∧w≤p.1 ∧ -70368744177664≤w∧Gfg a s (l.set k w) k≤0) (Uo (fun t:Int×Int×List Int=>∃ v,t.2.2=l.set k v∧t.1≤nt l k ∧ -70368744177664≤t.1∧1≤t.2.1∧t.2.1≤nt l k-t.1+1) (fun t=>(t.1+70368744177664).toNat) _ (fun t ht=>?_) _ ⟨nt l k,by dsimp only;rw [Ghu hkl],Int.le_refl _,hv0.1,Int.le_refl _,by dsimp only;omega⟩) fun o ho=>?_
 ·obtain ⟨lo,st,l'⟩:=t
  obtain ⟨v,b1,b2,b3,b4,b5⟩:=ht
  dsimp only at b1 b2 b3 b4 b5
  subst b1
  unfold Fed
  dsimp only
  rw [Gav hkl,bind_some,Int.toNat_natCast,List.set_set,w64 (n:=lo-st) (by omega) (by omega)]
  have hR:=Gfh hl hk (v:=max (lo-st) (-70368744177664)) (by omega) (by omega)
  rw [Gje h hR,bind_some]
  refine Ud (fun hc=>Je fun p hp=>?_) (fun hc=>?_)
  ·injection hp with hp
   subst hp
   exact ⟨_,rfl,by dsimp only;omega,by dsimp only;omega,by omega,hc⟩
  rw [Gav hkl,bind_some,bind_some]
  refine Ud (fun hc=>Je fun p hp=>by cases hp) (fun hc=>?_)
  rw [w64 (n:=st*2) (by omega) (by omega)]
  exact Je ⟨⟨_,rfl,by dsimp only;omega,by dsimp only;omega,by dsimp only;omega,by dsimp only;omega⟩,by dsimp only;omega⟩
 cases o with
 | inl u=>exact Je fun e=>by cases e
 | inr p =>
  obtain ⟨w,c1,c2,c3,c4,c5⟩:=ho p rfl
  obtain ⟨lo,l'⟩:=p
  dsimp only at c1 c2 c3
  subst c1
  dsimp only [Sum.elim_inr]
  rw [Gav hkl,bind_some]
  refine Jt (Uo (fun t:Int×Int×List Int=>t.1≤70368744177664∧t.2.1≤t.1 ∧ -70368744177664≤t.2.1∧(∃ v,t.2.2=l.set k v)∧Gfg a s (l.set k t.2.1) k≤0) (fun t=>(t.1-t.2.1).toNat) (fun r=>-70368744177664≤r∧r≤70368744177664∧Gfg a s (l.set k r) k≤0) (fun t ht=>?_) _ ⟨c2,c3,c4,⟨w,rfl⟩,c5⟩) fun r hr=>Je fun _=>hr
  obtain ⟨hi',lo,l'⟩:=t
  obtain ⟨b1,b2,b3,⟨v,b4⟩,b5⟩:=ht
  dsimp only at b1 b2 b3 b4 b5
  subst b4
  unfold Fee
  dsimp only
  rw [w64 (n:=lo+1) (by omega) (by omega)]
  refine Ud (fun hlt=>?_) (fun hge=>Je ⟨by omega,by omega,b5⟩)
  rw [Gav hkl,bind_some,Int.toNat_natCast,List.set_set,w64 (n:=hi'-lo) (by omega) (by omega),Int.tdiv_eq_ediv_of_nonneg (by omega),w64 (n:=(hi'-lo) / 2) (by omega) (by omega),w64 (n:=lo+(hi'-lo) / 2) (by omega) (by omega)]
  have hR:=Gfh hl hk (v:=lo+(hi'-lo) / 2) (by omega) (by omega)
  rw [Gje h hR,bind_some,Gav hkl]
  refine Ud (fun hc=>?_) (fun hc=>?_)
  ·exact Je ⟨⟨b1,by dsimp only;omega,by dsimp only;omega,⟨_,rfl⟩,hc⟩,by dsimp only;omega⟩
  ·exact Je ⟨⟨by dsimp only;omega,by dsimp only;omega,b3,⟨_,rfl⟩,b5⟩,by dsimp only;omega⟩

theorem Xl {ρ:Type} (k n:Nat) {g:Int→Option (Int⊕(ρ⊕Unit))} (hkn:k≤n) (h:∀ i:Nat,k≤i→i<n→g (i:Int)=some (.inl ((i:Int)+1))) (hend:g (n:Int)=some (.inr (.inr ()))):Sb g (k:Int)=some (.inr ()):=by
 refine Go3 (fun s:Int=>(k:Int)≤s∧s≤n) (fun s=>(n-s).toNat) (fun _=>(Sum.inr ():ρ⊕Unit)) (fun s hs=>?_) (k:Int) ⟨Int.le_refl _,by omega⟩
 obtain ⟨i,rfl⟩:∃ i:Nat,s=(i:Int):=⟨s.toNat,by omega⟩
 by_cases hi:i<n
 ·exact .inl ⟨(i:Int)+1,h i (by omega) hi,⟨by omega,by omega⟩,by omega,rfl⟩
 ·have:i=n:=by omega
  subst this
  exact .inr hend
theorem Gks:∀ (l:List Tam) (i:Nat) (x y:Tam),Gcg l→l[i]?=some x→l[i+1]?=some y→x.Flow<y.Flow∧y.Pressure≤x.Pressure
 | [],_,_,_,_,h,_=>by simp at h
 | [_],0,_,_,_,_,h=>by simp at h
 | [_],i+1,_,_,_,h,_=>by simp at h
 | p::r::t,0,x,y,hf,h1,h2=>by
  have e1:p=x:=by simpa using h1
  have e2:r=y:=by simpa using h2
  subst e1;subst e2
  exact ⟨hf.1,hf.2.1⟩
 | p::r::t,i+1,x,y,hf,h1,h2=>Gks (r::t) i x y hf.2.2 (by simpa using h1) (by simpa using h2)
theorem Gmz:∀ (l:List Int) (i:Nat) (x y:Int),Glr l→l[i]?=some x→l[i+1]?=some y→y<x
 | [],_,_,_,_,h,_=>by simp at h
 | [_],0,_,_,_,_,h=>by simp at h
 | [_],i+1,_,_,_,h,_=>by simp at h
 | p::r::t,0,x,y,hf,h1,h2=>by
  have e1:p=x:=by simpa using h1
  have e2:r=y:=by simpa using h2
  subst e1;subst e2
  exact hf.1
 | p::r::t,i+1,x,y,hf,h1,h2=>Gmz (r::t) i x y hf.2 (by simpa using h1) (by simpa using h2)
theorem Gq4 {n:Nat} {f:Tak} (h:Gfu n f):Fdx f=some 0:=by
 obtain ⟨a1,a2,c1,c2,c3,c4⟩:=h
 unfold Fdx
 rw [Kg (by omega),Vx rfl,bind_some,Kg (by omega)]
 rw [show (0:Int)=((0:Nat):Int) from rfl,Xl 0 f.Curve.length (Nat.zero_le _) (fun i _ hi=>?_) (by unfold Fcm;rw [Kg (by omega)])]
 ·rfl
 have hg:=List.getElem?_eq_getElem hi
 have hp:=c4 _ (List.getElem_mem hi)
 generalize f.Curve[i]=x at hg hp
 unfold Fcm
 rw [Sj (by omega),Jv,hg,bind_some,Vx (Vx (Vx rfl)),bind_some,Kg (by omega),w64 (n:=(i:Int)+1) (by omega) (by omega)]
 by_cases h0:0<(i:Int)
 ·rw [Sj h0,w64 (n:=(i:Int)-1) (by omega) (by omega)]
  obtain ⟨j,rfl⟩:∃ j:Nat,i=j+1:=⟨i-1,by omega⟩
  have hgj:=List.getElem?_eq_getElem (show j<f.Curve.length by omega)
  generalize f.Curve[j]'(by omega)=y at hgj
  have:=Gks f.Curve j y x c3 hgj hg
  rw [show ((j+1:Nat):Int)-1=(j:Int) by omega,Jv,hgj,bind_some,bind_some,Vx rfl,bind_some,Kg (by omega)]
 ·rw [Kg h0,bind_some]
  rfl
theorem Gpk {n:Nat} {l:List Tai} (hl:l.length≤2) (h:∀ d ∈ l,Ght n d):Fdy l=some 0:=by
 unfold Fdy
 rw [Kg (by omega),show (0:Int)=((0:Nat):Int) from rfl,Xl 0 l.length (Nat.zero_le _) (fun i _ hi=>?_) (by unfold Fcn;rw [Kg (by omega)])]
 ·rfl
 have hg:=List.getElem?_eq_getElem hi
 obtain ⟨a1,a2,a3,c1,c2,c3,c4⟩:=h _ (List.getElem_mem hi)
 generalize l[i]=d at *
 unfold Fcn
 rw [Sj (by omega),Jv,hg,bind_some,Kg (by omega),Vx rfl,bind_some,Kg (by omega),w64 (n:=(i:Int)+1) (by omega) (by omega)]
 have e1:Sb (Fbt d) 0=some (.inr ()):=by
  refine Xl 0 d.Rests.length (Nat.zero_le _) (fun j _ hj=>?_) (by unfold Fbt;rw [Kg (by omega)])
  have hgj:=List.getElem?_eq_getElem hj
  have:=c4 _ (List.getElem_mem hj)
  unfold Fbt
  rw [Sj (by omega),Jv,hgj,bind_some,bind_some,Vx rfl,bind_some,Kg (by omega),w64 (n:=(j:Int)+1) (by omega) (by omega)]
 have e2:Sb (Fbu d) 1=some (.inr ()):=by
  refine Xl 1 d.Rests.length (by omega) (fun j hj1 hj=>?_) (by unfold Fbu;rw [Kg (by omega)])
  have hgj:=List.getElem?_eq_getElem hj
  obtain ⟨i',rfl⟩:∃ i':Nat,j=i'+1:=⟨j-1,by omega⟩
  have hgi:=List.getElem?_eq_getElem (show i'<d.Rests.length by omega)
  have:=Gmz d.Rests i' _ _ c3 hgi hgj
  unfold Fbu
  rw [Sj (by omega),Jv,hgj,bind_some,w64 (n:=((i'+1:Nat):Int)-1) (by omega) (by omega),show ((i'+1:Nat):Int)-1=(i':Int) by omega,Jv,hgi,bind_some,Kg (by omega),w64 (by omega) (by omega)]
 rw [e1,bind_some]
 dsimp only [Sum.elim_inr]
 rw [e2,bind_some]
 dsimp only [Sum.elim_inr]
 rw [Kg (by omega),bind_some]
 rfl
theorem Gct {a:Taj} {s:Taf} (h:AirR a s) (hc:Gbm a.Mine=0):Fa1 a=some 0:=by
 have h1:=h.f1
 have h2:=h.d1
 unfold Fa1
 rw [(Gd1 a.Mine (Grq h.m)).2,hc,bind_some,Kg (by omega),Kg (by omega)]
 have e1:Sb (Fbv a) 0=some (.inr ()):=by
  refine Xl 0 a.Fans.length (Nat.zero_le _) (fun j _ hj=>?_) (by unfold Fbv;rw [Kg (by omega)])
  have hgj:=List.getElem?_eq_getElem hj
  have hf:=h.f3 _ (List.getElem_mem hj)
  have:=hf.2.1
  unfold Fbv
  rw [Sj (by omega),Jv,hgj,bind_some,Gq4 hf,bind_some,Kg (by omega),bind_some,Kg (by omega),w64 (n:=(j:Int)+1) (by omega) (by omega)]
 have e2:Sb (Fbw a) 0=some (.inr ()):=by
  refine Xl 0 a.Doors.length (Nat.zero_le _) (fun j _ hj=>?_) (by unfold Fbw;rw [Kg (by omega)])
  have hgj:=List.getElem?_eq_getElem hj
  have hf:=h.d3 _ (List.getElem_mem hj)
  have:=hf.2.1
  unfold Fbw
  rw [Sj (by omega),Jv,hgj,bind_some,Kg (by omega),w64 (n:=(j:Int)+1) (by omega) (by omega)]
 rw [e1,bind_some]
 dsimp only [Sum.elim_inr]
 rw [Gpk h2 h.d3,bind_some,Kg (by omega),e2,bind_some]
 rfl
theorem Gdo {a:Taj} {s:Taf} (h:AirR a s) (hc:Gbm a.Mine=0):Fa2 a s=some true:=by
 have h1:=h.f1
 have h2:=h.d1
 have h3:=h.f2
 have h4:=h.d2
 unfold Fa2
 rw [Gct h hc,bind_some,Kg (by omega),Kg (by omega),bind_some,decide_eq_false (by omega),cond_false]
 have e1:Sb (Fbx s) 0=some (.inr ()):=by
  refine Xl 0 s.Fans.length (Nat.zero_le _) (fun j _ hj=>?_) (by unfold Fbx;rw [Kg (by omega)])
  have hgj:=List.getElem?_eq_getElem hj
  have hf:=h.f4 _ (List.getElem_mem hj)
  unfold Fbx
  rw [Sj (by omega),Jv,hgj,bind_some,bind_some,Vx rfl,bind_some,Kg (by omega),w64 (n:=(j:Int)+1) (by omega) (by omega)]
 have e2:Sb (Fby a s) 0=some (.inr ()):=by
  refine Xl 0 s.Doors.length (Nat.zero_le _) (fun j _ hj=>?_) (by unfold Fby;rw [Kg (by omega)])
  have hd:=List.getElem?_eq_getElem (show j<a.Doors.length by omega)
  have hf:=h.d4 j _ hd
  unfold Fby
  rw [Sj (by omega),Jv,Uv hj,bind_some,Jv,hd,bind_some,bind_some,Vx rfl,bind_some,Kg (by omega),w64 (n:=(j:Int)+1) (by omega) (by omega)]
 rw [e1,bind_some]
 dsimp only [Sum.elim_inr]
 rw [e2,bind_some]
 rfl

/-! ### all places have air -/
def Gdp (m:Tah):Prop:=∀ k:Nat,k<m.Places.length→sf m k=false→∃ i,i<m.Roads.length∧clB m i=false∧(frN m i=k∧sf m (toN m i)=true∨toN m i=k∧sf m (frN m i)=true)
def bn (o:List Bool) (k:Nat):Bool:=(o[k]?).getD false
theorem Gbf {o:List Bool} {k:Nat} (h:k<o.length):o[k]?=some (bn o k):=by
 unfold bn
 rw [List.getElem?_eq_getElem h]
 rfl
theorem Gbg {o:List Bool} {i k:Nat} {v:Bool} (hi:i<o.length):bn (o.set i v) k=if k=i then v else bn o k:=by
 unfold bn
 rw [List.getElem?_set]
 by_cases h:i=k
 ·rw [if_pos h,if_pos hi,if_pos h.symm];rfl
 ·rw [if_neg h,if_neg (fun e=>h e.symm)]
theorem Gnw {a:Taj} {s:Taf} (h:AirR a s) {o:List Bool} (ho:o.length=a.Mine.Places.length):Ok (Sb (Fc1 a.Mine) (false,0,o)) fun r=>r.2.length=o.length∧(∀ k,bn o k=true→bn r.2 k=true)∧(∀ i,i<a.Mine.Roads.length→clB a.Mine i=false→(bn o (frN a.Mine i)=true∨bn o (toN a.Mine i)=true)→bn r.2 (frN a.Mine i)=true∧bn r.2 (toN a.Mine i)=true)∧((∀ k,k<o.length→bn o k=true)→r.1=false∧r.2=o):=by
 have hr:=h.m.r1
 refine Uo (fun t:Bool×Int×List Bool=>0≤t.2.1∧t.2.1≤a.Mine.Roads.length∧t.2.2.length=o.length∧(∀ k,bn o k=true→bn t.2.2 k=true)∧(∀ i:Nat,(i:Int)<t.2.1→clB a.Mine i=false→(bn o (frN a.Mine i)=true∨bn o (toN a.Mine i)=true)→bn t.2.2 (frN a.Mine i)=true∧bn t.2.2 (toN a.Mine i)=true)∧((∀ k,k<o.length→bn o k=true)→t.1=false∧t.2.2=o)) (fun t=>(a.Mine.Roads.length-t.2.1).toNat) _ (fun t ht=>?_) _ ⟨Int.le_refl _,by dsimp only;omega,rfl,fun _ h=>h,fun i hi=>by dsimp only at hi;omega,fun _=>⟨rfl,rfl⟩⟩
 obtain ⟨ag,i',u⟩:=t
 obtain ⟨b1,b2,b3,b4,b5,b6⟩:=ht
 dsimp only at b1 b2 b3 b4 b5 b6
 obtain ⟨i,rfl⟩:∃ i:Nat,i'=(i:Int):=⟨i'.toNat,by omega⟩
 unfold Fc1
 dsimp only
 refine Ud (fun hlt=>?_) (fun hge=>Je ⟨b3,b4,fun j hj=>b5 j (by omega),b6⟩)
 have hi:i<a.Mine.Roads.length:=by omega
 obtain ⟨e1,e2,e3,e4,e5⟩:=Gag h hi
 rw [Jv,Xg hi,bind_some,e1,e2,w64 (n:=(i:Int)+1) (by omega) (by omega),Int.toNat_natCast,Int.toNat_natCast]
 have keep:∀ k,bn u k=true→bn ((u.set (frN a.Mine i) true).set (toN a.Mine i) true) k=true:=fun k hk=>by
  rw [Gbg (by rw [List.length_set];omega),Gbg (by omega)]
  split
  ·rfl
  ·split
   ·rfl
   ·exact hk
 have two:bn ((u.set (frN a.Mine i) true).set (toN a.Mine i) true) (frN a.Mine i)=true∧bn ((u.set (frN a.Mine i) true).set (toN a.Mine i) true) (toN a.Mine i)=true:=by
  rw [Gbg (by rw [List.length_set];omega),Gbg (by omega),Gbg (by rw [List.length_set];omega),if_pos rfl,if_pos rfl]
  exact ⟨by split <;> rfl,rfl⟩
 cases hc:clB a.Mine i with
 | true =>
  have hc':(rd0 a.Mine i).Closed=true:=hc
  rw [hc']
  refine Jt (Q:=fun o'=>o'=(ag,u)) (Gro (a:=(ag,u)) rfl rfl) fun o' ho'=>?_
  subst ho'
  refine Je ⟨⟨by dsimp only;omega,by dsimp only;omega,b3,b4,fun j hj hcj=>?_,b6⟩,by dsimp only;omega⟩
  dsimp only at hj
  by_cases ej:j=i
  ·subst ej;rw [hc] at hcj;cases hcj
  ·exact b5 j (by omega) hcj
 | false =>
  have hc':(rd0 a.Mine i).Closed=false:=hc
  rw [hc',Jv,Gbf (by omega),Jv,Gbf (by omega),Jv,Gbf (by rw [List.length_set];omega)]
  dsimp only [bind_some,Option.bind_some,Bool.not_false,cond_true]
  cases hx:bn u (frN a.Mine i) with
  | true =>
   cases hy:bn u (toN a.Mine i) with
   | true =>
    refine Je ⟨⟨by dsimp only;omega,by dsimp only;omega,b3,b4,fun j hj hcj hor=>?_,b6⟩,by dsimp only;omega⟩
    dsimp only at hj
    by_cases ej:j=i
    ·subst ej;exact ⟨hx,hy⟩
    ·exact b5 j (by omega) hcj hor
   | false =>
    refine Je ⟨⟨by dsimp only;omega,by dsimp only;omega,by simp [b3],fun k hk=>keep k (b4 k hk),fun j hj hcj hor=>?_,fun hall=>?_⟩,by dsimp only;omega⟩
    ·dsimp only at hj
     by_cases ej:j=i
     ·subst ej;exact two
     ·exact ⟨keep _ (b5 j (by omega) hcj hor).1,keep _ (b5 j (by omega) hcj hor).2⟩
    ·have:=b4 _ (hall (toN a.Mine i) (by omega))
     rw [hy] at this
     cases this
  | false =>
   cases hy:bn u (toN a.Mine i) with
   | true =>
    refine Je ⟨⟨by dsimp only;omega,by dsimp only;omega,by simp [b3],fun k hk=>keep k (b4 k hk),fun j hj hcj hor=>?_,fun hall=>?_⟩,by dsimp only;omega⟩
    ·dsimp only at hj
     by_cases ej:j=i
     ·subst ej;exact two
     ·exact ⟨keep _ (b5 j (by omega) hcj hor).1,keep _ (b5 j (by omega) hcj hor).2⟩
    ·have:=b4 _ (hall (frN a.Mine i) (by omega))
     rw [hx] at this
     cases this
   | false =>
    refine Je ⟨⟨by dsimp only;omega,by dsimp only;omega,b3,b4,fun j hj hcj hor=>?_,b6⟩,by dsimp only;omega⟩
    dsimp only at hj
    by_cases ej:j=i
    ·subst ej
     rcases hor with h' | h'
     ·have:=b4 _ h';rw [hx] at this;cases this
     ·have:=b4 _ h';rw [hy] at this;cases this
    ·exact b5 j (by omega) hcj hor
theorem Gm0 {a:Taj} {s:Taf} (h:AirR a s) (hA:Gdp a.Mine):Ok (Fda a.Mine) fun o=>o.length=a.Mine.Places.length∧∀ k,k<o.length→bn o k=true:=by
 have hp2:=h.m.p2
 unfold Fda
 rw [Ze (by omega) (by omega),bind_some,Int.toNat_natCast]
 refine Jt (Q:=fun o:List Bool=>o.length=a.Mine.Places.length∧∀ k:Nat,k<o.length→bn o k=sf a.Mine k) (Uo (fun t:Int×List Bool=>0≤t.1∧t.1≤a.Mine.Places.length∧t.2.length=a.Mine.Places.length∧∀ k:Nat,(k:Int)<t.1→bn t.2 k=sf a.Mine k) (fun t=>(a.Mine.Places.length-t.1).toNat) _ (fun t ht=>?_) _ ⟨Int.le_refl _,by dsimp only;omega,by simp,fun k hk=>by dsimp only at hk;omega⟩) fun o ho=>?_
 ·obtain ⟨i',u⟩:=t
  obtain ⟨b1,b2,b3,b4⟩:=ht
  dsimp only at b1 b2 b3 b4
  obtain ⟨i,rfl⟩:∃ i:Nat,i'=(i:Int):=⟨i'.toNat,by omega⟩
  unfold Fec
  dsimp only
  refine Ud (fun hlt=>?_) (fun hge=>Je ⟨b3,fun k hk=>b4 k (by omega)⟩)
  obtain ⟨p,hp1,hp2⟩:=Gft (m:=a.Mine) (k:=i) (by omega)
  rw [Jv,hp1,bind_some,Jv,Gbf (by omega),bind_some,Int.toNat_natCast,w64 (n:=(i:Int)+1) (by omega) (by omega),hp2]
  refine Je ⟨⟨by dsimp only;omega,by dsimp only;omega,by simp [b3],fun k hk=>?_⟩,by dsimp only;omega⟩
  dsimp only at hk ⊢
  rw [Gbg (by omega)]
  split
  ·rename_i e;subst e;rfl
  ·exact b4 k (by omega)
 ·obtain ⟨o1,o2⟩:=ho
  unfold Fe1
  rw [Wj (by simp;omega),bind_some,List.nil_append]
  refine Jt (Q:=fun o:List Bool=>o.length=a.Mine.Places.length∧∀ k,k<o.length→bn o k=true) (Jt (Uo (fun t:Bool×List Bool=>t.2.length=a.Mine.Places.length∧((t.1=true∧t.2=o)∨(∀ k,k<t.2.length→bn t.2 k=true))) (fun t=>if t.1=true then (if (∀ k,k<t.2.length→bn t.2 k=true) then 1 else 2) else 0) (fun r=>r.length=a.Mine.Places.length∧∀ k,k<r.length→bn r k=true) (fun t ht=>?_) _ ⟨o1,.inl ⟨rfl,rfl⟩⟩) fun o ho=>Je ho) fun o ho=>Je ho
  obtain ⟨ag,u⟩:=t
  obtain ⟨b1,b2⟩:=ht
  dsimp only at b1 b2
  unfold Feb
  dsimp only
  cases ag with
  | false =>
   rcases b2 with ⟨h',_⟩ | h'
   ·cases h'
   ·exact Je ⟨b1,h'⟩
  | true =>
   refine Jt (Gnw h b1) fun r hr=>?_
   obtain ⟨r1,r2,r3,r4⟩:=hr
   have hall:∀ k,k<r.2.length→bn r.2 k=true:=fun k hk=>by
    rcases b2 with ⟨_,rfl⟩ | h'
    ·have hkn:k<a.Mine.Places.length:=by omega
     have hks:=o2 k (by omega)
     cases hs:sf a.Mine k with
     | true=>exact r2 k (by rw [hks,hs])
     | false =>
      obtain ⟨i,hi,hcl,hor⟩:=hA k hkn hs
      obtain ⟨e1,e2,e3,e4,e5⟩:=Gag h hi
      rcases hor with ⟨q1,q2⟩ | ⟨q1,q2⟩
      ·have:=r3 i hi hcl (.inr (by rw [o2 _ (by omega)];exact q2))
       rw [q1] at this
       exact this.1
      ·have:=r3 i hi hcl (.inl (by rw [o2 _ (by omega)];exact q2))
       rw [q1] at this
       exact this.2
    ·exact r2 k (h' k (by omega))
   refine Je ⟨⟨by dsimp only;omega,.inr hall⟩,?_⟩
   dsimp only
   by_cases hu:∀ k,k<u.length→bn u k=true
   ·obtain ⟨g1,g2⟩:=r4 hu
    rw [g1,if_neg (by decide),if_pos rfl,if_pos hu]
    decide
   ·rw [if_pos rfl,if_neg hu]
    split
    ·first | decide | (rw [if_pos hall];decide)
    ·decide
theorem Ghv {a:Taj} {s:Taf} (h:AirR a s) (hA:Gdp a.Mine):Ok (Fcc a.Mine) fun o=>o.length=a.Mine.Places.length∧∀ k:Nat,k<o.length→bn o k=sf a.Mine k:=by
 have hp2:=h.m.p2
 unfold Fcc
 refine Jt (Gm0 h hA) fun o ho=>?_
 obtain ⟨o1,o2⟩:=ho
 refine Jt (Uo (fun t:Int×List Bool=>0≤t.1∧t.1≤a.Mine.Places.length∧t.2.length=a.Mine.Places.length∧(∀ k:Nat,(k:Int)<t.1→bn t.2 k=sf a.Mine k)∧∀ k:Nat,t.1≤(k:Int)→k<t.2.length→bn t.2 k=true) (fun t=>(a.Mine.Places.length-t.1).toNat) (fun o=>o.length=a.Mine.Places.length∧∀ k:Nat,k<o.length→bn o k=sf a.Mine k) (fun t ht=>?_) _ ⟨Int.le_refl _,by dsimp only;omega,o1,fun k hk=>by dsimp only at hk;omega,fun k _=>o2 k⟩) fun o ho=>Je ho
 obtain ⟨i',u⟩:=t
 obtain ⟨b1,b2,b3,b4,b5⟩:=ht
 dsimp only at b1 b2 b3 b4 b5
 obtain ⟨i,rfl⟩:∃ i:Nat,i'=(i:Int):=⟨i'.toNat,by omega⟩
 unfold Fdi
 dsimp only
 refine Ud (fun hlt=>?_) (fun hge=>Je ⟨b3,fun k hk=>b4 k (by omega)⟩)
 obtain ⟨p,hp1,hp2⟩:=Gft (m:=a.Mine) (k:=i) (by omega)
 rw [Jv,Gbf (by omega),b5 i (by omega) (by omega),bind_some,Bool.not_true,cond_false,Jv,hp1,bind_some,bind_some,bind_some,Int.toNat_natCast,w64 (n:=(i:Int)+1) (by omega) (by omega),hp2]
 refine Je ⟨⟨by dsimp only;omega,by dsimp only;omega,by simp [b3],fun k hk=>?_,fun k hk hkl=>?_⟩,by dsimp only;omega⟩
 ·dsimp only at hk ⊢
  rw [Gbg (by omega)]
  split
  ·rename_i e;subst e;rfl
  ·exact b4 k (by omega)
 ·dsimp only at hk hkl ⊢
  rw [Gbg (by omega),if_neg (by omega)]
  exact b5 k (by omega) (by simpa using hkl)

structure Fit (a:Taj) (s:Taf) (p q:List Int):Prop where
 pr:Rng a.Mine.Places.length p
 p0:∀ k:Nat,k<a.Mine.Places.length→sf a.Mine k=true→nt p k=0
 ql:q.length=a.Mine.Roads.length
 qb:∀ i,-2000≤nt q i∧nt q i≤2000
 qc:∀ i,i<a.Mine.Roads.length→clB a.Mine i=true→nt q i=0
 net:∀ k:Nat,k<a.Mine.Places.length→sf a.Mine k=false→Uz a.Mine.Roads.length (fun i=>Wg (frN a.Mine i) (toN a.Mine i) k (clB a.Mine i) (nt q i) (nt q i))=0
 dr:∀ i,i<a.Mine.Roads.length→clB a.Mine i=false→(Gc5 a s (rd0 a.Mine i) i (nt q i)).Low≤nt p (frN a.Mine i)-nt p (toN a.Mine i)∧nt p (frN a.Mine i)-nt p (toN a.Mine i)≤(Gc5 a s (rd0 a.Mine i) i (nt q i)).High
theorem Glt {a:Taj} {s:Taf} (h:AirR a s) {p q:List Int} (hf:Fit a s p q) {i:Nat} (hi:i<a.Mine.Roads.length) (hc:clB a.Mine i=false) {P:Int} (hP:P≤nt p (frN a.Mine i)-nt p (toN a.Mine i)):Gc9 a s i P≤nt q i∧(P<nt p (frN a.Mine i)-nt p (toN a.Mine i)→Gc9 a s i P<nt q i):=by
 obtain ⟨_,_,_,h4⟩:=Gfv h hi P
 have hd:=hf.dr i hi hc
 have hb:=hf.qb i
 have hm:=Wr (Xg hi)
 rcases h4 with h4 | h4
 ·rw [h4];exact ⟨by omega,fun _=>by omega⟩
 ·constructor
  ·refine Decidable.byContradiction fun hn=>?_
   have:=(Gjb h hm i (show nt q i<Gc9 a s i P by omega)).2
   omega
  ·intro hlt
   refine Decidable.byContradiction fun hn=>?_
   by_cases e:Gc9 a s i P=nt q i
   ·rw [e] at h4;omega
   ·have:=(Gjb h hm i (show nt q i<Gc9 a s i P by omega)).2
    omega
theorem Gpl {a:Taj} {s:Taf} (h:AirR a s) {p q:List Int} (hf:Fit a s p q) {i:Nat} (hi:i<a.Mine.Roads.length) (hc:clB a.Mine i=false) {P:Int} (hP:nt p (frN a.Mine i)-nt p (toN a.Mine i)≤P):nt q i≤hiV a s i P∧(nt p (frN a.Mine i)-nt p (toN a.Mine i)<P→nt q i<hiV a s i P):=by
 obtain ⟨_,_,_,h4⟩:=Gil h hi P
 have hd:=hf.dr i hi hc
 have hb:=hf.qb i
 have hm:=Wr (Xg hi)
 rcases h4 with h4 | h4
 ·rw [h4];exact ⟨by omega,fun _=>by omega⟩
 ·constructor
  ·refine Decidable.byContradiction fun hn=>?_
   have:=(Gjb h hm i (show hiV a s i P<nt q i by omega)).1
   omega
  ·intro hlt
   refine Decidable.byContradiction fun hn=>?_
   by_cases e:hiV a s i P=nt q i
   ·rw [e] at h4;omega
   ·have:=(Gjb h hm i (show hiV a s i P<nt q i by omega)).1
    omega
def Glu (m:Tah):Grid:=⟨m.Places.length,m.Roads.length,frN m,toN m,clB m,fun k=>sf m k⟩
theorem Gm1 {a:Taj} {s:Taf} (h:AirR a s) (hA:Gdp a.Mine):(Glu a.Mine).Ok :=
 ⟨fun i hi=>(Gag h hi).2.2.1,fun i hi=>(Gag h hi).2.2.2.1,fun i hi=>(Gag h hi).2.2.2.2,fun k hk hf=>hA k hk hf⟩
structure Bnds (a:Taj) (s:Taf) (b:Taq):Prop where
 l:Rng a.Mine.Places.length b.Low
 h:Rng a.Mine.Places.length b.High
 l0:∀ k:Nat,k<a.Mine.Places.length→sf a.Mine k=true→nt b.Low k=0
 h0:∀ k:Nat,k<a.Mine.Places.length→sf a.Mine k=true→nt b.High k=0
 ln:∀ k:Nat,k<a.Mine.Places.length→sf a.Mine k=false→Gfg a s b.Low k≤0
 hn:∀ k:Nat,k<a.Mine.Places.length→sf a.Mine k=false→0≤Gff a s b.High k
theorem Gli {a:Taj} {s:Taf} (h:AirR a s) (hA:Gdp a.Mine) {p q:List Int} (hf:Fit a s p q) {b:Taq} (hb:Bnds a s b) (k:Nat) (hk:k<a.Mine.Places.length):nt b.Low k≤nt p k∧nt p k≤nt b.High k :=
 ⟨Gkn (Glu a.Mine) (Gm1 h hA) (nt p) (nt b.Low) (nt q) (Gc9 a s) (hiV a s) (fun k hk e=>⟨hf.p0 k hk e,hb.l0 k hk e⟩) hf.net hb.ln (fun _ hi hc _ hP=>Glt h hf hi hc hP) (fun _ hi hc _ hP=>Gpl h hf hi hc hP) k hk,
  Gf4 (Glu a.Mine) (Gm1 h hA) (nt p) (nt b.High) (nt q) (Gc9 a s) (hiV a s) (fun k hk e=>⟨hf.p0 k hk e,hb.h0 k hk e⟩) hf.net hb.hn (fun _ hi hc _ hP=>Glt h hf hi hc hP) (fun _ hi hc _ hP=>Gpl h hf hi hc hP) k hk⟩

/-! ### the search ends -/
theorem Gfw {n:Nat} {l:List Int} (hn:n≤1000) (h:Rng n l):Fbp l=some true:=by
 have hl:=h.1
 unfold Fbp
 have e1:Sb (Fbf l) 0=some (.inr ()):=by
  refine Xl 0 l.length (Nat.zero_le _) (fun j _ hj=>?_) (by unfold Fbf;rw [Kg (by omega)])
  have:=h.2 j
  unfold Fbf
  rw [Sj (by omega),Jv,Uv hj,bind_some,bind_some,Vx rfl,bind_some,Kg (by omega),w64 (n:=(j:Int)+1) (by omega) (by omega)]
 rw [e1,bind_some]
 rfl
theorem Gnx {a:Taj} {s:Taf} (h:AirR a s) (hc:Gbm a.Mine=0) (hA:Gdp a.Mine) {l:List Int} (hl:Rng a.Mine.Places.length l) (h0:∀ k:Nat,k<a.Mine.Places.length→sf a.Mine k=true→nt l k=0):Fdw a s l=some 0:=by
 have hp2:=h.m.p2
 have hll:=hl.1
 refine Ok.val ?_
 unfold Fdw
 rw [Gct h hc,bind_some,Kg (by omega),Gdo h hc,bind_some,Bool.not_true,cond_false,Kg (by omega),Gfw (by omega) hl,bind_some,Bool.not_true,cond_false]
 refine Jt (Ghv h hA) fun o ho=>?_
 obtain ⟨o1,o2⟩:=ho
 have e1:Sb (Fbq l o) 0=some (.inr ()):=by
  refine Xl 0 l.length (Nat.zero_le _) (fun j _ hj=>?_) (by unfold Fbq;rw [Kg (by omega)])
  unfold Fbq
  rw [Sj (by omega),Jv,Gbf (by omega),bind_some,o2 j (by omega),Jv,Uv hj,bind_some,w64 (n:=(j:Int)+1) (by omega) (by omega)]
  cases e:sf a.Mine j with
  | true=>rw [h0 j (by omega) e];rfl
  | false=>rfl
 rw [e1,bind_some]
 exact Je rfl
def Ghy (a:Taj) (s:Taf) (up:Bool) (l:List Int) (k:Nat):Prop:=if up=true then 0≤Gff a s l k else Gfg a s l k≤0
theorem Gq5 {a:Taj} {s:Taf} (h:AirR a s) {l:List Int} (hl:Rng a.Mine.Places.length l) {k:Nat} (hk:k<a.Mine.Places.length) (up:Bool):Ok (bif up then (Fem a s l (k:Int)).bind fun x26=>some (x26.1,x26.2) else (Fdb a s l (k:Int)).bind fun x28=>some (x28.1,x28.2)) fun r=>r.2=true → -70368744177664≤r.1∧r.1≤70368744177664∧Ghy a s up (l.set k r.1) k:=by
 cases up with
 | true =>
  rw [cond_true]
  refine Jt (Gtc h hl hk) fun r hr=>Je fun e=>?_
  obtain ⟨r1,r2,r3⟩:=hr e
  exact ⟨r1,r2,by unfold Ghy;rw [if_pos rfl];exact r3⟩
 | false =>
  rw [cond_false]
  refine Jt (Gq3 h hl hk) fun r hr=>Je fun e=>?_
  obtain ⟨r1,r2,r3⟩:=hr e
  exact ⟨r1,r2,by unfold Ghy;rw [if_neg (by decide)];exact r3⟩
def Prs (a:Taj) (l:List Int):Prop:=Rng a.Mine.Places.length l∧∀ k:Nat,k<a.Mine.Places.length→sf a.Mine k=true→nt l k=0
theorem Gpm {a:Taj} {s:Taf} (h:AirR a s) {x6:List Bool} (h6:x6.length=a.Mine.Places.length) (h6':∀ k:Nat,k<x6.length→bn x6 k=sf a.Mine k) (up:Bool) {l:List Int} (hl:Prs a l) :
  Ok (Sb (Fcl a s up x6) (false,0,l)) fun o=>∀ r,o = .inr r→Prs a r.2∧(r.1=false→r.2=l∧∀ k:Nat,k<a.Mine.Places.length→sf a.Mine k=false→Ghy a s up l k):=by
 have hp2:=h.m.p2
 refine Uo (fun t:Bool×Int×List Int=>0≤t.2.1∧t.2.1≤a.Mine.Places.length∧Prs a t.2.2∧(t.1=false→t.2.2=l∧∀ k:Nat,(k:Int)<t.2.1→sf a.Mine k=false→Ghy a s up l k)) (fun t=>(a.Mine.Places.length-t.2.1).toNat) _ (fun t ht=>?_) _ ⟨Int.le_refl _,by dsimp only;omega,hl,fun _=>⟨rfl,fun k hk=>by dsimp only at hk;omega⟩⟩
 obtain ⟨ag,i',u⟩:=t
 obtain ⟨b1,b2,b3,b4⟩:=ht
 dsimp only at b1 b2 b3 b4
 obtain ⟨i,rfl⟩:∃ i:Nat,i'=(i:Int):=⟨i'.toNat,by omega⟩
 have hul:=b3.1.1
 unfold Fcl
 dsimp only
 rw [hul]
 refine Ud (fun hlt=>?_) (fun hge=>Je fun r hr=>?_)
 ·have hi:i<a.Mine.Places.length:=by omega
  rw [Jv,Gbf (by omega),bind_some,h6' i (by omega),w64 (n:=(i:Int)+1) (by omega) (by omega),Jv,Uv (by omega),Int.toNat_natCast]
  cases hs:sf a.Mine i with
  | true =>
   refine Je ⟨⟨by dsimp only;omega,by dsimp only;omega,b3,fun e=>⟨(b4 e).1,fun k hk hks=>?_⟩⟩,by dsimp only;omega⟩
   dsimp only at hk
   by_cases ek:k=i
   ·subst ek;rw [hs] at hks;cases hks
   ·exact (b4 e).2 k (by omega) hks
  | false =>
   rw [cond_false]
   refine Jt (Q:=fun o=>∀ r,o = .inr r→Prs a r.2∧(r.1=false→r.2=l∧∀ k:Nat,(k:Int)<(i:Int)+1→sf a.Mine k=false→Ghy a s up l k)) (Jt (Gq5 h b3.1 hi up) fun p hp=>?_) fun o ho=>?_
   ·obtain ⟨pv,ok⟩:=p
    cases ok with
    | false=>exact Je fun r hr=>by cases hr
    | true =>
     obtain ⟨p1,p2,p3⟩:=hp rfl
     dsimp only at p1 p2 p3
     rw [Bool.not_true,cond_false,bind_some]
     have hP:Prs a (u.set i pv):=⟨Gfh b3.1 hi p1 p2,fun k hk hks=>by
      rw [Gaz (by omega),if_neg (fun e=>by subst e;rw [hs] at hks;cases hks)]
      exact b3.2 k hk hks⟩
     cases ag with
     | true =>
      refine Je fun r hr=>?_
      injection hr with hr
      subst hr
      exact ⟨hP,fun e=>by cases e⟩
     | false =>
      rw [cond_false,bind_some,bind_some]
      refine Je fun r hr=>?_
      injection hr with hr
      subst hr
      refine ⟨hP,fun e=>?_⟩
      have e':pv=nt u i:=by
       have:=of_decide_eq_false e
       exact Decidable.not_not.1 this
      have eu:u.set i pv=u:=by rw [e'];exact Ghu (by omega)
      obtain ⟨c1,c2⟩:=b4 rfl
      dsimp only
      rw [eu] at p3 ⊢
      rw [c1] at p3
      refine ⟨c1,fun k hk hks=>?_⟩
      by_cases ek:k=i
      ·subst ek;exact p3
      ·exact c2 k (by omega) hks
   ·cases o with
    | inl v=>exact Je fun r hr=>by cases hr
    | inr r =>
     obtain ⟨r1,r2⟩:=ho r rfl
     exact Je ⟨⟨by dsimp only;omega,by dsimp only;omega,r1,r2⟩,by dsimp only;omega⟩
 ·injection hr with hr
  subst hr
  exact ⟨b3,fun e=>⟨(b4 e).1,fun k hk=>(b4 e).2 k (by omega)⟩⟩
theorem Gkt {a:Taj} {s:Taf} (h:AirR a s) (hc:Gbm a.Mine=0) (hA:Gdp a.Mine) {l:List Int} (hl:Prs a l) (up:Bool):Ok (Fcp a s l up) fun r=>r.2=0→Prs a r.1∧∀ k:Nat,k<a.Mine.Places.length→sf a.Mine k=false→Ghy a s up r.1 k:=by
 have hp2:=h.m.p2
 have hll:=hl.1.1
 unfold Fcp
 rw [Gnx h hc hA hl.1 hl.2,bind_some,Kg (by omega),Wj (by simp;omega),bind_some,List.nil_append]
 refine Jt (Ghv h hA) fun x6 h6=>?_
 refine Jt (Uo (fun t:Int×List Int=>0≤t.1∧t.1≤200∧Prs a t.2) (fun t=>(200-t.1).toNat) (fun o=>∀ r,o = .inl r→r.1=0→Prs a r.2∧∀ k:Nat,k<a.Mine.Places.length→sf a.Mine k=false→Ghy a s up r.2 k) (fun t ht=>?_) _ ⟨Int.le_refl _,by dsimp only;omega,hl⟩) fun o ho=>?_
 ·obtain ⟨n,u⟩:=t
  obtain ⟨b1,b2,b3⟩:=ht
  dsimp only at b1 b2 b3
  unfold Fdj
  dsimp only
  refine Ud (fun hlt=>?_) (fun hge=>Je fun r hr=>by cases hr)
  refine Jt (Gpm h h6.1 h6.2 up b3) fun o ho=>?_
  cases o with
  | inl v =>
   refine Je fun r hr e=>?_
   injection hr with hr
   subst hr
   cases e
  | inr r =>
   obtain ⟨r1,r2⟩:=ho r rfl
   obtain ⟨ag,u'⟩:=r
   cases ag with
   | false =>
    refine Je fun r hr e=>?_
    injection hr with hr
    subst hr
    obtain ⟨c1,c2⟩:=r2 rfl
    dsimp only at c1 ⊢
    subst c1
    exact ⟨b3,c2⟩
   | true =>
    dsimp only [Sum.elim_inr,Bool.not_true,cond_false]
    rw [w64 (n:=n+1) (by omega) (by omega)]
    exact Je ⟨⟨by dsimp only;omega,by dsimp only;omega,r1⟩,by dsimp only;omega⟩
 ·cases o with
  | inl r=>exact Je fun e=>ho r rfl e
  | inr v=>exact Je fun e=>by cases e
theorem Gpn {a:Taj} {s:Taf} (h:AirR a s) (hc:Gbm a.Mine=0) (hA:Gdp a.Mine):Ok (Fds a s) fun r=>r.2=0→Bnds a s r.1:=by
 have hp2:=h.m.p2
 unfold Fds
 rw [Ze (by omega) (by omega),bind_some,Int.toNat_natCast]
 have h0:Prs a (List.replicate a.Mine.Places.length 0):=⟨⟨by simp,fun k=>by rw [Gbd];omega⟩,fun k _ _=>Gbd⟩
 have fall:∀ {l:List Int},Prs a l→Ok (Fc9 a s l) fun r=>r.2=0→Prs a r.1∧∀ k:Nat,k<a.Mine.Places.length→sf a.Mine k=false→Gfg a s r.1 k≤0:=fun hl=>by
  unfold Fc9
  refine Jt (Gkt h hc hA hl false) fun r hr=>Je fun e=>?_
  obtain ⟨r1,r2⟩:=hr e
  exact ⟨r1,fun k hk hs=>by have:=r2 k hk hs;unfold Ghy at this;rwa [if_neg (by decide)] at this⟩
 have rise:∀ {l:List Int},Prs a l→Ok (Feg a s l) fun r=>r.2=0→Prs a r.1∧∀ k:Nat,k<a.Mine.Places.length→sf a.Mine k=false→0≤Gff a s r.1 k:=fun hl=>by
  unfold Feg
  refine Jt (Gkt h hc hA hl true) fun r hr=>Je fun e=>?_
  obtain ⟨r1,r2⟩:=hr e
  exact ⟨r1,fun k hk hs=>by have:=r2 k hk hs;unfold Ghy at this;rwa [if_pos rfl] at this⟩
 refine Jt (fall h0) fun r1 h1=>Ud (fun e=>Je fun e'=>absurd e' e) (fun e=>?_)
 refine Jt (rise (h1 (Decidable.not_not.1 e)).1) fun r2 h2=>Ud (fun e=>Je fun e'=>absurd e' e) (fun e=>?_)
 obtain ⟨u1,u2⟩:=h2 (Decidable.not_not.1 e)
 refine Jt (fall u1) fun r3 h3=>Ud (fun e=>Je fun e'=>absurd e' e) (fun e=>?_)
 obtain ⟨v1,v2⟩:=h3 (Decidable.not_not.1 e)
 exact Je fun _=>⟨v1.1,u1.1,v1.2,u1.2,v2,u2⟩
theorem Gq6 {a:Taj} {s:Taf} (h:AirR a s) (hc:Gbm a.Mine=0) (hA:Gdp a.Mine) {b:Taq} (hb:Bnds a s b):Fdt a s b=some 0:=by
 have hp2:=h.m.p2
 have hl1:=hb.l.1
 have hl2:=hb.h.1
 refine Ok.val ?_
 unfold Fdt
 rw [Gct h hc,bind_some,Kg (by omega),Gdo h hc,bind_some,Bool.not_true,cond_false,Kg (by omega),bind_some,decide_eq_false (by omega),cond_false,Gfw (by omega) hb.l,bind_some,Bool.not_true,cond_false,Gfw (by omega) hb.h,bind_some,bind_some,Bool.not_true,cond_false]
 refine Jt (Ghv h hA) fun o ho=>?_
 obtain ⟨o1,o2⟩:=ho
 have e1:Sb (Fbo a s b o) 0=some (.inr ()):=by
  refine Xl 0 a.Mine.Places.length (Nat.zero_le _) (fun j _ hj=>?_) (by unfold Fbo;rw [Kg (by omega)])
  unfold Fbo
  rw [Sj (by omega),Jv,Gbf (by omega),bind_some,o2 j (by omega),Jv,Uv (by omega),Jv,Uv (by omega),Gjd h hb.h,Gje h hb.l,w64 (n:=(j:Int)+1) (by omega) (by omega)]
  cases e:sf a.Mine j with
  | true=>rw [hb.l0 j hj e,hb.h0 j hj e];rfl
  | false =>
   have h1:=hb.ln j hj e
   have h2:=hb.hn j hj e
   rw [cond_false,bind_some,bind_some,Kg (by omega),bind_some,decide_eq_false (by omega)]
   rfl
 rw [e1,bind_some]
 exact Je rfl
theorem Gpo {a:Taj} {s:Taf} (h:AirR a s) (hc:Gbm a.Mine=0) (hA:Gdp a.Mine) {b:Taq} (hb:Bnds a s b) {p q:List Int} (hf:Fit a s p q):Ok (Fdu a s b) fun l=>l.length=a.Mine.Roads.length∧∀ i,i<a.Mine.Roads.length→(sp0 l i).Low≤nt q i∧nt q i≤(sp0 l i).High∧(sp0 l i).High≤1125899906842624:=by
 have hp2:=h.m.p2
 have hr1:=h.m.r1
 have hl1:=hb.l.1
 have hl2:=hb.h.1
 unfold Fdu
 rw [Gq6 h hc hA hb,bind_some,Kg (by omega)]
 refine Jt (Gm0 h hA) fun o ho=>?_
 obtain ⟨o1,o2⟩:=ho
 refine Jt (Uo (fun t:List Bool×Int×List Taa=>t.1=o∧0≤t.2.1∧t.2.1≤a.Mine.Roads.length∧(t.2.2.length:Int)=t.2.1∧∀ i:Nat,(i:Int)<t.2.1→(sp0 t.2.2 i).Low≤nt q i∧nt q i≤(sp0 t.2.2 i).High∧(sp0 t.2.2 i).High≤1125899906842624) (fun t=>(a.Mine.Roads.length-t.2.1).toNat) (fun l=>l.length=a.Mine.Roads.length∧∀ i,i<a.Mine.Roads.length→(sp0 l i).Low≤nt q i∧nt q i≤(sp0 l i).High∧(sp0 l i).High≤1125899906842624) (fun t ht=>?_) _ ⟨rfl,Int.le_refl _,by dsimp only;omega,rfl,fun i hi=>by dsimp only at hi;omega⟩) fun o ho=>Je ho
 obtain ⟨o',i',u⟩:=t
 obtain ⟨b0,b1,b2,b3,b4⟩:=ht
 dsimp only at b0 b1 b2 b3 b4
 subst b0
 obtain ⟨i,rfl⟩:∃ i:Nat,i'=(i:Int):=⟨i'.toNat,by omega⟩
 unfold Fdg
 dsimp only
 refine Ud (fun hlt=>?_) (fun hge=>Je ⟨by omega,fun j hj=>b4 j (by omega)⟩)
 have hi:i<a.Mine.Roads.length:=by omega
 obtain ⟨e1,e2,e3,e4,e5⟩:=Gag h hi
 have hqb:=hf.qb i
 rw [Jv,Xg hi,bind_some,e1,e2,w64 (n:=(i:Int)+1) (by omega) (by omega)]
 have app:∀ sp:Taa,sp.Low≤nt q i∧nt q i≤sp.High∧sp.High≤1125899906842624→∀ j:Nat,(j:Int)<(i:Int)+1→(sp0 (u++[sp]) j).Low≤nt q j∧nt q j≤(sp0 (u++[sp]) j).High∧(sp0 (u++[sp]) j).High≤1125899906842624:=fun sp hsp j hj=>by
  by_cases ej:j=i
  ·subst ej
   have:sp0 (u++[sp]) j=sp:=by unfold sp0;rw [List.getElem?_append_right (by omega),show j-u.length=0 by omega];rfl
   rw [this]
   exact hsp
  ·have:sp0 (u++[sp]) j=sp0 u j:=by unfold sp0;rw [List.getElem?_append_left (by omega)]
   rw [this]
   exact b4 j (by omega)
 refine Jt (Q:=fun sp:Taa=>sp.Low≤nt q i∧nt q i≤sp.High∧sp.High≤1125899906842624) ?_ fun sp hsp=>?_
 ·cases hcl:clB a.Mine i with
  | true =>
   have hcl':(rd0 a.Mine i).Closed=true:=hcl
   rw [hcl',Bool.not_true,cond_false]
   have:=hf.qc i hi hcl
   exact Je ⟨by dsimp only;omega,by dsimp only;omega,by dsimp only;omega⟩
  | false =>
   have hcl':(rd0 a.Mine i).Closed=false:=hcl
   have p1:=Gli h hA hf hb (frN a.Mine i) e3
   have p2:=Gli h hA hf hb (toN a.Mine i) e4
   have r1:=hb.l.2 (frN a.Mine i)
   have r2:=hb.h.2 (frN a.Mine i)
   have r3:=hb.l.2 (toN a.Mine i)
   have r4:=hb.h.2 (toN a.Mine i)
   have q1:=Glt h hf hi hcl (P:=nt b.Low (frN a.Mine i)-nt b.High (toN a.Mine i)) (by omega)
   have q2:=Gpl h hf hi hcl (P:=nt b.High (frN a.Mine i)-nt b.Low (toN a.Mine i)) (by omega)
   obtain ⟨z1,_,_,_⟩:=Gfv h hi (nt b.Low (frN a.Mine i)-nt b.High (toN a.Mine i))
   obtain ⟨y1,_,y3,_⟩:=Gil h hi (nt b.High (frN a.Mine i)-nt b.Low (toN a.Mine i))
   unfold Fb5
   rw [hcl',Bool.not_false,cond_true,bind_some,Jv,Gbf (by omega),o2 _ (by omega),bind_some,cond_true,Jv,Uv (by omega),bind_some,Jv,Uv (by omega),bind_some,w64 (by omega) (by omega),z1,bind_some,Jv,Uv (by omega),bind_some,Jv,Uv (by omega),bind_some,w64 (by omega) (by omega),y1,bind_some]
   exact Je ⟨q1.1,q2.1,by dsimp only;omega⟩
 ·rw [Wj (by simp;omega),bind_some]
  exact Je ⟨⟨rfl,by dsimp only;omega,by dsimp only;omega,by simp;omega,app sp hsp⟩,by dsimp only;omega⟩
theorem Glv {a:Taj} {s:Taf} (h:AirR a s) (hc:Gbm a.Mine=0) (hA:Gdp a.Mine) {p q:List Int} (hf:Fit a s p q):Ok (Fcz a s) fun r=>r.2=0∧r.1.length=a.Mine.Roads.length∧∀ i,i<a.Mine.Roads.length→(sp0 r.1 i).Low≤nt q i∧nt q i≤(sp0 r.1 i).High∧(sp0 r.1 i).High≤1125899906842624:=by
 have hr1:=h.m.r1
 unfold Fcz
 rw [Gct h hc,bind_some,Kg (by omega),Gdo h hc,bind_some,Bool.not_true,cond_false]
 refine Jt (Gpn h hc hA) fun b hb=>Ud (fun e=>?_) (fun e=>?_)
 ·exact Jt (Gpo h hc hA (hb e) hf) fun l hl=>Je ⟨rfl,hl⟩
 refine Jt (Uo (fun t:Int×List Taa=>0≤t.1∧t.1≤a.Mine.Roads.length∧(t.2.length:Int)=t.1∧∀ i:Nat,(i:Int)<t.1→(sp0 t.2 i).Low≤nt q i∧nt q i≤(sp0 t.2 i).High∧(sp0 t.2 i).High≤1125899906842624) (fun t=>(a.Mine.Roads.length-t.1).toNat) (fun l=>l.length=a.Mine.Roads.length∧∀ i,i<a.Mine.Roads.length→(sp0 l i).Low≤nt q i∧nt q i≤(sp0 l i).High∧(sp0 l i).High≤1125899906842624) (fun t ht=>?_) _ ⟨Int.le_refl _,by dsimp only;omega,rfl,fun i hi=>by dsimp only at hi;omega⟩) fun o ho=>Je ⟨rfl,ho⟩
 obtain ⟨i',u⟩:=t
 obtain ⟨b1,b2,b3,b4⟩:=ht
 dsimp only at b1 b2 b3 b4
 obtain ⟨i,rfl⟩:∃ i:Nat,i'=(i:Int):=⟨i'.toNat,by omega⟩
 unfold Fc0
 dsimp only
 refine Ud (fun hlt=>?_) (fun hge=>Je ⟨by omega,fun j hj=>b4 j (by omega)⟩)
 have hi:i<a.Mine.Roads.length:=by omega
 have hqb:=hf.qb i
 rw [Jv,Xg hi,bind_some,w64 (n:=(i:Int)+1) (by omega) (by omega)]
 refine Jt (Q:=fun sp:Taa=>sp.Low≤nt q i∧nt q i≤sp.High∧sp.High≤1125899906842624) ?_ fun sp hsp=>?_
 ·cases hcl:clB a.Mine i with
  | true =>
   have hcl':(rd0 a.Mine i).Closed=true:=hcl
   rw [hcl',Bool.not_true,cond_false]
   have:=hf.qc i hi hcl
   exact Je ⟨by dsimp only;omega,by dsimp only;omega,by dsimp only;omega⟩
  | false =>
   have hcl':(rd0 a.Mine i).Closed=false:=hcl
   unfold Fb5
   rw [hcl',Bool.not_false,cond_true,bind_some]
   exact Je ⟨by dsimp only;omega,by dsimp only;omega,by dsimp only;omega⟩
 ·rw [Wj (by simp;omega),bind_some]
  refine Je ⟨⟨by dsimp only;omega,by dsimp only;omega,by simp;omega,fun j hj=>?_⟩,by dsimp only;omega⟩
  dsimp only at hj ⊢
  by_cases ej:j=i
  ·subst ej
   have:sp0 (u++[sp]) j=sp:=by unfold sp0;rw [List.getElem?_append_right (by omega),show j-u.length=0 by omega];rfl
   rw [this]
   exact hsp
  ·have:sp0 (u++[sp]) j=sp0 u j:=by unfold sp0;rw [List.getElem?_append_left (by omega)]
   rw [this]
   exact b4 j (by omega)

theorem Gq7 {a:Taj} {s:Taf} (h:AirR a s) (hc:Gbm a.Mine=0) {i:Nat} (hi:i<a.Mine.Roads.length):Fej a s (i:Int)=some (!clB a.Mine i):=by
 unfold Fej
 rw [Gdo h hc,bind_some,cond_true,Sj (by omega),Sj (by omega),Jv,Xg hi,bind_some]
 rfl
theorem Gim {fr to k:Nat} (hne:fr≠to) {cl:Bool} {q:Int} (hq:cl=true→q=0) {u:List Int} (hf:fr<u.length) (ht:to<u.length) :
  nt ((u.set fr (nt u fr+q)).set to (nt (u.set fr (nt u fr+q)) to-q)) k=nt u k+Wg fr to k cl q q:=by
 rw [Gaz (by rw [List.length_set];exact ht),Gaz (i:=fr) (k:=to) hf,Gaz (i:=fr) (k:=k) hf]
 have e:Wg fr to k cl q q=Wg fr to k false q q:=by
  cases cl with
  | false=>rfl
  | true =>
   have:=hq rfl
   subst this
   unfold Wg
   simp
 rw [e]
 by_cases c1:fr=k
 ·subst c1
  rw [Gck rfl hne,if_neg hne,if_pos rfl]
 ·by_cases c2:to=k
  ·subst c2
   rw [Gcl rfl hne,if_pos rfl,if_neg (fun e=>hne e.symm)]
   omega
  ·rw [Gbz c1 c2,if_neg (fun e=>c2 e.symm),if_neg (fun e=>c1 e.symm)]
   omega
theorem Gq8 {a:Taj} {s:Taf} (h:AirR a s) (hc:Gbm a.Mine=0) {x:Tan} (hf:Fit a s x.Pressures x.Flows):Fei a s x=some 0:=by
 have hp2:=h.m.p2
 have hr1:=h.m.r1
 have hpl:=hf.pr.1
 have hql:=hf.ql
 refine Ok.val ?_
 unfold Fei
 rw [Gct h hc,bind_some,Kg (by omega),Gdo h hc,bind_some,Bool.not_true,cond_false,Kg (by omega),bind_some,decide_eq_false (by omega),cond_false]
 have e1:Sb (Fb6 x) 0=some (.inr ()):=by
  refine Xl 0 x.Pressures.length (Nat.zero_le _) (fun j _ hj=>?_) (by unfold Fb6;rw [Kg (by omega)])
  have:=hf.pr.2 j
  unfold Fb6
  rw [Sj (by omega),Jv,Uv hj,bind_some,bind_some,Vx rfl,bind_some,Kg (by omega),w64 (n:=(j:Int)+1) (by omega) (by omega)]
 have e2:Sb (Fb7 x) 0=some (.inr ()):=by
  refine Xl 0 x.Flows.length (Nat.zero_le _) (fun j _ hj=>?_) (by unfold Fb7;rw [Kg (by omega)])
  have:=hf.qb j
  unfold Fb7
  rw [Sj (by omega),Jv,Uv hj,bind_some,bind_some,Vx rfl,bind_some,Kg (by omega),w64 (n:=(j:Int)+1) (by omega) (by omega)]
 rw [e1,bind_some]
 dsimp only [Sum.elim_inr]
 rw [e2,bind_some]
 dsimp only [Sum.elim_inr]
 rw [Ze (by omega) (by omega),bind_some,Int.toNat_natCast]
 have hF:∀ k i,-4000≤Wg (frN a.Mine i) (toN a.Mine i) k (clB a.Mine i) (nt x.Flows i) (nt x.Flows i)∧Wg (frN a.Mine i) (toN a.Mine i) k (clB a.Mine i) (nt x.Flows i) (nt x.Flows i)≤4000:=fun k i=>Gjc (B:=2000) (hf.qb i) (hf.qb i) (by decide)
 refine Jt (Q:=fun o=>∃ net,o = .inr net∧net.length=a.Mine.Places.length∧∀ k,k<a.Mine.Places.length→nt net k=Uz a.Mine.Roads.length (fun i=>Wg (frN a.Mine i) (toN a.Mine i) k (clB a.Mine i) (nt x.Flows i) (nt x.Flows i))) (Uo (fun t:Int×List Int=>0≤t.1∧t.1≤a.Mine.Roads.length∧t.2.length=a.Mine.Places.length∧∀ k,k<a.Mine.Places.length→nt t.2 k=Uz t.1.toNat (fun i=>Wg (frN a.Mine i) (toN a.Mine i) k (clB a.Mine i) (nt x.Flows i) (nt x.Flows i))) (fun t=>(a.Mine.Roads.length-t.1).toNat) _ (fun t ht=>?_) _ ⟨Int.le_refl _,by dsimp only;omega,by simp [hpl],fun k hk=>by rw [Gbd];rfl⟩) fun o ho=>?_
 ·obtain ⟨i',u⟩:=t
  obtain ⟨b1,b2,b3,b4⟩:=ht
  dsimp only at b1 b2 b3 b4
  obtain ⟨i,rfl⟩:∃ i:Nat,i'=(i:Int):=⟨i'.toNat,by omega⟩
  rw [Int.toNat_natCast] at b4
  unfold Fea
  dsimp only
  rw [hql]
  refine Ud (fun hlt=>?_) (fun hge=>Je ⟨u,rfl,b3,fun k hk=>?_⟩)
  ·have hi:i<a.Mine.Roads.length:=by omega
   obtain ⟨e1,e2,e3,e4,e5⟩:=Gag h hi
   have hqb:=hf.qb i
   have pb1:=hf.pr.2 (frN a.Mine i)
   have pb2:=hf.pr.2 (toN a.Mine i)
   rw [Jv,Xg hi,bind_some,e1,e2,w64 (n:=(i:Int)+1) (by omega) (by omega),Jv (l:=x.Flows),Uv (by omega),Int.toNat_natCast,Int.toNat_natCast]
   have hd:∃ y,Fek a s (i:Int) (nt x.Flows i)=some y∧(clB a.Mine i=false→y=Gc5 a s (rd0 a.Mine i) i (nt x.Flows i)):=by
    unfold Fek
    rw [Gq7 h hc hi,bind_some,Bool.not_not]
    cases hcl:clB a.Mine i with
    | true=>exact ⟨_,rfl,fun e=>by cases e⟩
    | false =>
     rw [cond_false,Kg (by omega),bind_some,decide_eq_false (by omega),cond_false,Gls h (Xg hi) (by omega) (by omega),bind_some]
     exact ⟨_,rfl,fun _=>rfl⟩
   obtain ⟨y,hy,hyo⟩:=hd
   have g1:(bif (rd0 a.Mine i).Closed then (some (nt x.Flows i)).bind fun x45=>some (decide (x45≠0)) else some false)=some false:=by
    cases hcl:(rd0 a.Mine i).Closed with
    | false=>rfl
    | true =>
     have:=hf.qc i hi hcl
     rw [this];rfl
   rw [g1,bind_some,cond_false,Jv,Uv (by omega),bind_some,Jv,Uv (by omega),bind_some,bind_some,hy,bind_some,w64 (n:=nt x.Pressures (frN a.Mine i)-nt x.Pressures (toN a.Mine i)) (by omega) (by omega)]
   have g2:(bif (!(rd0 a.Mine i).Closed) then
     bif (decide (nt x.Pressures (frN a.Mine i)-nt x.Pressures (toN a.Mine i)<y.Low)) then some true
     else some (decide (y.High<nt x.Pressures (frN a.Mine i)-nt x.Pressures (toN a.Mine i)))
    else some false)=some false:=by
    cases hcl:(rd0 a.Mine i).Closed with
    | true=>rfl
    | false =>
     have hd:=hf.dr i hi hcl
     rw [← hyo hcl] at hd
     rw [Bool.not_false,cond_true,Kg (by omega),decide_eq_false (by omega)]
   have n1 : -80000≤nt u (frN a.Mine i)∧nt u (frN a.Mine i)≤80000:=by
    rw [b4 _ e3]
    have:=Zm (f:=fun i_1=>Wg (frN a.Mine i_1) (toN a.Mine i_1) (frN a.Mine i) (clB a.Mine i_1) (nt x.Flows i_1) (nt x.Flows i_1)) (A:=-4000) (B:=4000) i fun k _=>hF _ k
    omega
   have n2 : -80000≤nt u (toN a.Mine i)∧nt u (toN a.Mine i)≤80000:=by
    rw [b4 _ e4]
    have:=Zm (f:=fun i_1=>Wg (frN a.Mine i_1) (toN a.Mine i_1) (toN a.Mine i) (clB a.Mine i_1) (nt x.Flows i_1) (nt x.Flows i_1)) (A:=-4000) (B:=4000) i fun k _=>hF _ k
    omega
   have n3:nt (u.set (frN a.Mine i) (nt u (frN a.Mine i)+nt x.Flows i)) (toN a.Mine i)=nt u (toN a.Mine i):=by rw [Gaz (by omega),if_neg (by omega)]
   rw [g2,bind_some,cond_false,Jv,Uv (by omega),bind_some,bind_some,bind_some,w64 (n:=nt u (frN a.Mine i)+nt x.Flows i) (by omega) (by omega),Jv,Uv (by rw [List.length_set];omega),bind_some,bind_some,bind_some,w64 (n:=nt (u.set (frN a.Mine i) (nt u (frN a.Mine i)+nt x.Flows i)) (toN a.Mine i)-nt x.Flows i) (by omega) (by omega)]
   refine Je ⟨⟨by dsimp only;omega,by dsimp only;omega,by simp [b3],fun k hk=>?_⟩,by dsimp only;omega⟩
   dsimp only
   rw [Gim e5 (cl:=clB a.Mine i) (hf.qc i hi) (by omega) (by omega),b4 k hk,show ((i:Int)+1).toNat=i+1 by omega]
   rfl
  ·have:i=a.Mine.Roads.length:=by omega
   subst this
   exact b4 k hk
 ·obtain ⟨net,rfl,n1,n2⟩:=ho
  dsimp only [Sum.elim_inr]
  have e3:Sb (Fb8 a x net) 0=some (.inr ()):=by
   refine Xl 0 net.length (Nat.zero_le _) (fun j _ hj=>?_) (by unfold Fb8;rw [Kg (by omega)])
   obtain ⟨p,hp1,hp2⟩:=Gft (m:=a.Mine) (k:=j) (by omega)
   unfold Fb8
   rw [Sj (by omega),Jv,hp1,bind_some,hp2,Jv,Uv (by omega),Jv,Uv hj,w64 (n:=(j:Int)+1) (by omega) (by omega)]
   cases e:sf a.Mine j with
   | true =>
    have:=hf.p0 j (by omega) e
    rw [this]
    dsimp only [Option.bind_some]
    rw [hp2,e]
    rfl
   | false =>
    have:=hf.net j (by omega) e
    rw [← n2 j (by omega)] at this
    rw [this]
    dsimp only [Option.bind_some]
    rw [hp2,e]
    rfl
  rw [e3,bind_some]
  exact Je rfl

theorem Gin:∀ (l:List Tam) (x y:Tam),Gcg l→l[l.length-1]?=some x→x.Flow<y.Flow→y.Pressure≤x.Pressure→Gcg (l++[y])
 | [],_,_,_,_,_,_=>trivial
 | [p],x,y,_,h,h1,h2=>by
  have:p=x:=by simpa using h
  subst this
  exact ⟨h1,h2,trivial⟩
 | p::r::t,x,y,hf,h,h1,h2=>⟨hf.1,hf.2.1,Gin (r::t) x y hf.2.2 (by simpa using h) h1 h2⟩
theorem Gku:∀ (l:List Int) (x y:Int),Glr l→l[l.length-1]?=some x→y<x→Glr (l++[y])
 | [],_,_,_,_,_=>trivial
 | [p],x,y,_,h,h1=>by
  have:p=x:=by simpa using h
  subst this
  exact ⟨h1,trivial⟩
 | p::r::t,x,y,hf,h,h1=>⟨hf.1,Gku (r::t) x y hf.2 (by simpa using h) h1⟩
def CvW (l:List Tam):Prop:=1≤l.length∧l.length≤5∧Gcg l∧∀ p ∈ l,-1000≤p.Flow∧p.Flow≤1000∧0≤p.Pressure∧p.Pressure≤3000
theorem Gny (c:Tab) (hc:Ul c):Ok (Fa7 c) fun r=>Ul r.1∧CvW r.2:=by
 unfold Fa7
 refine Jt (Zh c (-20) 10 hc (by decide) (by decide) (by decide)) fun x1 h1=>?_
 refine Jt (Zh x1.1 500 3000 h1.1 (by decide) (by decide) (by decide)) fun x3 h3=>?_
 refine Jt (Wq x3.1 4 h3.1 (by decide)) fun x5 h5=>?_
 refine Jt (Uo (fun s:Int×List Tam×Tab=>0≤s.1∧1≤s.2.1.length∧(s.2.1.length:Int)+s.1≤4∧Ul s.2.2∧Gcg s.2.1∧∀ p ∈ s.2.1,-20≤p.Flow∧p.Flow≤50*(s.2.1.length:Int)∧0≤p.Pressure∧p.Pressure≤3000) (fun s=>s.1.toNat) (fun r=>Ul r.2∧CvW r.1) (fun s hs=>?_) _ ⟨h5.2.1,by simp,by simp;omega,h5.1,trivial,fun p hp=>?_⟩) fun o8 h8=>Je h8
 ·obtain ⟨k,l,c⟩:=s
  obtain ⟨a1,a2,a3,a4,a5,a6⟩:=hs
  dsimp only at a1 a2 a3 a4 a5 a6
  unfold Fb9
  dsimp only
  refine Ud (fun hk=>?_) (fun hk=>Je ⟨a4,a2,by dsimp only;omega,a5,fun p hp=>by have:=a6 p hp;omega⟩)
  rw [w64 (n:=(l.length:Int)-1) (by omega) (by omega)]
  refine Jt (Gaw (by omega) (by omega)) fun x10 h10=>?_
  have hx:=a6 x10 (Wr h10)
  refine Jt (Zh c 1 40 a4 (by decide) (by decide) (by decide)) fun x12 h12=>?_
  refine Jt (Wq x12.1 900 h12.1 (by decide)) fun x14 h14=>?_
  rw [Wj (by simp;omega),bind_some,w64 (n:=k-1) (by omega) (by omega),w64 (n:=x10.Flow+x12.2) (by omega) (by omega),w64 (n:=x10.Pressure-x14.2) (by omega) (by omega)]
  refine Je ⟨⟨by dsimp only;omega,by simp,by simp;omega,h14.1,Gin l x10 _ a5 (by rw [show l.length-1=((l.length:Int)-1).toNat by omega];exact h10) (by dsimp only;omega) (by dsimp only;omega),fun p hp=>?_⟩,by dsimp only;omega⟩
  have hlen:((l++[Tam.mk (x10.Flow+x12.2) (max 0 (x10.Pressure-x14.2))]).length:Int)=l.length+1:=by simp
  dsimp only at hp ⊢
  rw [hlen]
  rcases Gbl hp with h | h
  ·have:=a6 p h;omega
  ·subst h
   dsimp only
   omega
 ·simp at hp
  subst hp
  simp
  omega
def DrW (l:List Int):Prop:=2≤l.length∧l.length≤4∧Glr l∧∀ x ∈ l,0≤x∧x≤900
theorem Gpp (c:Tab) (rd:Int) (hc:Ul c):Ok (Fbh c rd) fun r=>Ul r.1∧DrW r.2.Rests∧r.2.Road=rd∧r.2.Other = -1:=by
 unfold Fbh
 refine Jt (Zh c 200 900 hc (by decide) (by decide) (by decide)) fun x1 h1=>?_
 refine Jt (Zh x1.1 1 3 h1.1 (by decide) (by decide) (by decide)) fun x3 h3=>?_
 refine Jt (Uo (fun s:Int×List Int×Tab=>0≤s.1∧1≤s.2.1.length∧2≤(s.2.1.length:Int)+s.1∧(s.2.1.length:Int)+s.1≤4∧Ul s.2.2∧Glr s.2.1∧∀ x ∈ s.2.1,260-60*(s.2.1.length:Int)≤x∧x≤900) (fun s=>s.1.toNat) (fun r=>Ul r.2∧DrW r.1) (fun s hs=>?_) _ ⟨by dsimp only;omega,by simp,by simp;omega,by simp;omega,h3.1,trivial,fun x hx=>?_⟩) fun o8 h8=>Je ⟨h8.1,h8.2,rfl,rfl⟩
 ·obtain ⟨k,l,c⟩:=s
  obtain ⟨a1,a2,a7,a3,a4,a5,a6⟩:=hs
  dsimp only at a1 a2 a3 a4 a5 a6 a7
  unfold Fcj
  dsimp only
  refine Ud (fun hk=>?_) (fun hk=>Je ⟨a4,by dsimp only;omega,by dsimp only;omega,a5,fun x hx=>by have:=a6 x hx;omega⟩)
  rw [w64 (n:=(l.length:Int)-1) (by omega) (by omega)]
  refine Jt (Gaw (by omega) (by omega)) fun x10 h10=>?_
  have hx:=a6 x10 (Wr h10)
  refine Jt (Zh c 1 60 a4 (by decide) (by decide) (by decide)) fun x12 h12=>?_
  rw [Wj (by simp;omega),bind_some,w64 (n:=k-1) (by omega) (by omega),w64 (n:=x10-x12.2) (by omega) (by omega)]
  refine Je ⟨⟨by dsimp only;omega,by simp,by simp;omega,by simp;omega,h12.1,Gku l x10 _ a5 (by rw [show l.length-1=((l.length:Int)-1).toNat by omega];exact h10) (by omega),fun x hx=>?_⟩,by dsimp only;omega⟩
  have hlen:((l++[max 0 (x10-x12.2)]).length:Int)=l.length+1:=by simp
  dsimp only at hx ⊢
  rw [hlen]
  rcases Gbl hx with h | h
  ·have:=a6 x h;omega
  ·omega
 ·have:x=x1.2:=by simpa using hx
  simp
  omega
structure EqW (a:Taj) (s:Taf):Prop where
 f1:a.Fans.length≤2
 f2:s.Fans.length=a.Fans.length
 f3:∀ f ∈ a.Fans,Gfu a.Mine.Roads.length f
 f4:∀ k,0≤nt s.Fans k∧nt s.Fans k≤2
 d1:a.Doors.length≤2
 d2:s.Doors.length=a.Doors.length
 d3:∀ d ∈ a.Doors,Ght a.Mine.Roads.length d
 d4:∀ (i:Nat) (d:Tai),a.Doors[i]?=some d→0≤nt s.Doors i∧nt s.Doors i<(d.Rests.length:Int)
theorem Gdq {l:List Int} {v:Int} {k:Nat}:nt (l++[v]) k=if k=l.length then v else nt l k:=by
 unfold nt
 by_cases h:k<l.length
 ·rw [List.getElem?_append_left h,if_neg (by omega)]
 ·rw [List.getElem?_append_right (by omega)]
  by_cases e:k=l.length
  ·rw [if_pos e,e,Nat.sub_self];rfl
  ·rw [if_neg e,List.getElem?_eq_none (by simp;omega),List.getElem?_eq_none (by omega)]
theorem Gjf (c:Tab) (m:Tah) (hc:Ul c) (hm:m.Roads.length≤20):Ok (Fae c ⟨m,[],[]⟩) fun r=>Ul r.1∧r.2.1.Mine=m∧EqW r.2.1 r.2.2:=by
 unfold Fae
 refine Jt (Wq c 3 hc (by decide)) fun x2 h2=>?_
 refine Jt (Uo (fun s:Int×List Int×Tab×List Tak=>0≤s.1∧(s.2.2.2.length:Int)+s.1≤2∧s.2.1.length=s.2.2.2.length∧Ul s.2.2.1∧(∀ f ∈ s.2.2.2,Gfu m.Roads.length f)∧∀ k,0≤nt s.2.1 k∧nt s.2.1 k≤2) (fun s=>s.1.toNat)
  (fun r=>r.2.2.length≤2∧r.1.length=r.2.2.length∧Ul r.2.1∧(∀ f ∈ r.2.2,Gfu m.Roads.length f)∧∀ k,0≤nt r.1 k∧nt r.1 k≤2) (fun s hs=>?_) _ ⟨h2.2.1,by simp;omega,rfl,h2.1,(fun f hf=>by cases hf),fun k=>by show 0≤(0:Int)∧(0:Int)≤2;omega⟩) fun o5 h5=>?_
 ·obtain ⟨k,l,c,fs⟩:=s
  obtain ⟨a1,a2,a3,a4,a5,a6⟩:=hs
  dsimp only at a1 a2 a3 a4 a5 a6
  unfold Fau
  dsimp only
  rw [Ge6 rfl,bind_some]
  refine Ud (fun hk=>?_) (fun hk=>Je ⟨by dsimp only;omega,a3,a4,a5,a6⟩)
  refine Jt (Wq c _ a4 (by omega)) fun x9 h9=>?_
  refine Jt (Geo x9.1 3 h9.1 (by decide)) fun x11 h11=>?_
  refine Jt (Geo x11.1 3 h11 (by decide)) fun x13 h13=>?_
  refine Jt (Gny x13.1 h13) fun x15 h15=>?_
  rw [Wj (by simp;omega),bind_some]
  refine Jt (Wq x15.1 3 h15.1 (by decide)) fun x19 h19=>?_
  rw [Wj (by simp;omega),bind_some,w64 (n:=k-1) (by omega) (by omega)]
  refine Je ⟨⟨by dsimp only;omega,by simp;omega,by simp [a3],h19.1,fun f hf=>?_,fun j=>?_⟩,by dsimp only;omega⟩
  ·rcases Gbl hf with h | h
   ·exact a5 f h
   ·subst h;exact ⟨h9.2.1,h9.2.2,h15.2⟩
  ·dsimp only
   rw [Gdq]
   split
   ·omega
   ·exact a6 j
 obtain ⟨b1,b2,b3,b4,b5⟩:=h5
 refine Jt (Wq o5.2.1 3 b3 (by decide)) fun x24 h24=>?_
 refine Jt (Uo (fun s:Int×Taf×Tab×List Tai=>0≤s.1∧(s.2.2.2.length:Int)+s.1≤2∧s.2.1.Doors.length=s.2.2.2.length∧s.2.1.Fans=o5.1∧Ul s.2.2.1∧(∀ d ∈ s.2.2.2,Ght m.Roads.length d)∧∀ (i:Nat) (d:Tai),s.2.2.2[i]?=some d→0≤nt s.2.1.Doors i∧nt s.2.1.Doors i<(d.Rests.length:Int)) (fun s=>s.1.toNat)
  (fun r=>r.2.2.length≤2∧r.1.Doors.length=r.2.2.length∧r.1.Fans=o5.1∧Ul r.2.1∧(∀ d ∈ r.2.2,Ght m.Roads.length d)∧∀ (i:Nat) (d:Tai),r.2.2[i]?=some d→0≤nt r.1.Doors i∧nt r.1.Doors i<(d.Rests.length:Int)) (fun s hs=>?_) _ ⟨h24.2.1,by simp;omega,rfl,rfl,h24.1,(fun f hf=>by cases hf),fun i d h=>by simp at h⟩) fun o27 h27=>?_
 ·obtain ⟨k,s,c,ds⟩:=s
  obtain ⟨a1,a2,a3,a4,a5,a6,a7⟩:=hs
  dsimp only at a1 a2 a3 a4 a5 a6 a7
  unfold Fav
  dsimp only
  refine Jt (Q:=fun o=>o.2=s∧(o.1=true→0<k∧0<(m.Roads.length:Int))) (Ud (fun h=>Je ⟨rfl,fun h'=>⟨h,of_decide_eq_true h'⟩⟩) (fun _=>Je ⟨rfl,fun h=>by cases h⟩)) fun o28 h28=>?_
  obtain ⟨rfl,h28⟩:=h28
  refine Gdk (fun hk=>?_) (fun hk=>Je ⟨by dsimp only;omega,a3,a4,a5,a6,a7⟩)
  have hk0:=h28 hk
  refine Jt (Wq c _ a5 (by omega)) fun x31 h31=>?_
  refine Jt (Gpp x31.1 _ h31.1) fun x33 h33=>?_
  obtain ⟨g1,g2,g3,g4⟩:=h33
  rw [Wj (by simp;omega),bind_some]
  refine Jt (Wq x33.1 _ g1 (by have:=g2.1;omega)) fun x37 h37=>?_
  rw [Wj (by simp;omega),bind_some,w64 (n:=k-1) (by omega) (by omega)]
  refine Je ⟨⟨by dsimp only;omega,by simp;omega,by simp [a3],a4,h37.1,fun d hd=>?_,fun i d hid=>?_⟩,by dsimp only;omega⟩
  ·rcases Gbl hd with h | h
   ·exact a6 d h
   ·subst h;exact ⟨by rw [g3];exact h31.2.1,by rw [g3];exact h31.2.2,g4,g2⟩
  ·dsimp only at hid ⊢
   rw [Gdq]
   by_cases e:i<ds.length
   ·rw [List.getElem?_append_left e] at hid
    rw [if_neg (by omega)]
    exact a7 i d hid
   ·have hlt:=(List.getElem?_eq_some_iff.1 hid).1
    simp at hlt
    have ei:i=ds.length:=by omega
    subst ei
    rw [List.getElem?_append_right (Nat.le_refl _),Nat.sub_self] at hid
    simp at hid
    subst hid
    rw [if_pos (by omega)]
    exact ⟨h37.2.1,h37.2.2⟩
 ·obtain ⟨q1,q2,q3,q4,q5,q6⟩:=h27
  exact Je ⟨q4,rfl,⟨b1,by dsimp only;rw [q3];exact b2,b4,by dsimp only;rw [q3];exact b5,q1,q2,q5,q6⟩⟩
def Gq9 (s s':Taf):Prop:=s'.Fans.length=s.Fans.length∧s'.Doors.length=s.Doors.length∧(∀ k,nt s'.Fans k=nt s.Fans k∨k<s.Fans.length∧nt s'.Fans k = -1)∧∀ k,nt s'.Doors k=nt s.Doors k∨k<s.Doors.length∧nt s'.Doors k = -1
theorem Gjg {l:List Int} {k:Nat} (h:l.length≤k):nt l k=0:=by
 unfold nt
 rw [List.getElem?_eq_none h]
 rfl
theorem Glw (c:Tab) (a:Taj) (s:Taf) (hc:Ul c) (h1:s.Fans.length≤100) (h2:s.Doors.length≤100):Ok (Fa0 c a s) fun r=>Ul r.1∧Gq9 s r.2:=by
 unfold Fa0
 refine Jt (Q:=fun o=>Ul o.2∧o.1.length=s.Fans.length∧∀ k,k<s.Fans.length→nt o.1 k=nt s.Fans k∨nt o.1 k = -1) (Uo (fun t:Int×List Int×Tab=>0≤t.1∧t.1≤s.Fans.length∧(t.2.1.length:Int)=t.1∧Ul t.2.2∧∀ k:Nat,(k:Int)<t.1→nt t.2.1 k=nt s.Fans k∨nt t.2.1 k = -1) (fun t=>(s.Fans.length-t.1).toNat) _ (fun t ht=>?_) _ ⟨Int.le_refl _,by dsimp only;omega,rfl,hc,fun k hk=>by dsimp only at hk;omega⟩) fun o2 ho2=>?_
 ·obtain ⟨i',l,c⟩:=t
  obtain ⟨a1,a2,a3,a4,a5⟩:=ht
  dsimp only at a1 a2 a3 a4 a5
  obtain ⟨i,rfl⟩:∃ i:Nat,i'=(i:Int):=⟨i'.toNat,by omega⟩
  unfold Fb0
  dsimp only
  refine Ud (fun hi=>?_) (fun _=>Je ⟨a4,by dsimp only;omega,fun k hk=>a5 k (by omega)⟩)
  rw [Jv,Uv (by omega),bind_some]
  refine Jt (Geo c 5 a4 (by decide)) fun x6 h6=>?_
  refine Jt (Q:=fun o=>o=nt s.Fans i∨o = -1) (Gdk (fun _=>Je (.inr rfl)) (fun _=>Je (.inl rfl))) fun o8 h8=>?_
  rw [Wj (by simp;omega),bind_some,w64 (by omega) (by omega)]
  refine Je ⟨⟨by dsimp only;omega,by dsimp only;omega,by simp;omega,h6,fun k hk=>?_⟩,by dsimp only;omega⟩
  dsimp only at hk ⊢
  rw [Gdq]
  by_cases e:k=l.length
  ·rw [if_pos e,show k=i by omega]
   exact h8
  ·rw [if_neg e]
   exact a5 k (by omega)
 obtain ⟨q1,q2,q3⟩:=ho2
 refine Jt (Uo (fun t:Int×Taf×Tab=>0≤t.1∧t.1≤s.Doors.length∧(t.2.1.Doors.length:Int)=t.1∧Ul t.2.2∧t.2.1.Fans=o2.1∧∀ k:Nat,(k:Int)<t.1→nt t.2.1.Doors k=nt s.Doors k∨nt t.2.1.Doors k = -1) (fun t=>(s.Doors.length-t.1).toNat) (fun o=>Ul o.2∧o.1.Fans=o2.1∧o.1.Doors.length=s.Doors.length∧∀ k,k<s.Doors.length→nt o.1.Doors k=nt s.Doors k∨nt o.1.Doors k = -1) (fun t ht=>?_) _ ⟨Int.le_refl _,by dsimp only;omega,rfl,q1,rfl,fun k hk=>by dsimp only at hk;omega⟩) fun o ho=>Je ?_
 ·obtain ⟨i',l,c⟩:=t
  obtain ⟨a1,a2,a3,a4,a6,a5⟩:=ht
  dsimp only at a1 a2 a3 a4 a5 a6
  obtain ⟨i,rfl⟩:∃ i:Nat,i'=(i:Int):=⟨i'.toNat,by omega⟩
  unfold Fb1
  dsimp only
  refine Ud (fun hi=>?_) (fun _=>Je ⟨a4,a6,by dsimp only;omega,fun k hk=>a5 k (by omega)⟩)
  rw [Jv,Uv (by omega),bind_some]
  refine Jt (Geo c 5 a4 (by decide)) fun x6 h6=>?_
  refine Jt (Q:=fun o=>(o.1=nt s.Doors i∨o.1 = -1)∧o.2=l) (Gdk (fun _=>Je ⟨.inr rfl,rfl⟩) (fun _=>Je ⟨.inl rfl,rfl⟩)) fun o8 h8=>?_
  rw [h8.2,Wj (by simp;omega),bind_some,w64 (by omega) (by omega)]
  refine Je ⟨⟨by dsimp only;omega,by dsimp only;omega,by simp;omega,h6,a6,fun k hk=>?_⟩,by dsimp only;omega⟩
  dsimp only at hk ⊢
  rw [Gdq]
  by_cases e:k=l.Doors.length
  ·rw [if_pos e,show k=i by omega]
   exact h8.1
  ·rw [if_neg e]
   exact a5 k (by omega)
 ·obtain ⟨r1,r2,r3,r4⟩:=ho
  refine ⟨r1,by dsimp only;rw [r2];exact q2,r3,fun k=>?_,fun k=>?_⟩
  ·dsimp only
   rw [r2]
   by_cases hk:k<s.Fans.length
   ·rcases q3 k hk with h | h
    ·exact .inl h
    ·exact .inr ⟨hk,h⟩
   ·exact .inl (by rw [Gjg (by omega),Gjg (by omega)])
  ·dsimp only
   by_cases hk:k<s.Doors.length
   ·rcases r4 k hk with h | h
    ·exact .inl h
    ·exact .inr ⟨hk,h⟩
   ·exact .inl (by rw [Gjg (by omega),Gjg (by omega)])

theorem Gkv {w q:Int}:w*max q (0-q)*q=Gan w w q:=by
 unfold Gan
 by_cases h:q<0
 ·rw [if_pos h,show max q (0-q) = -q by omega,Int.mul_neg,Int.neg_mul,Int.mul_assoc]
 ·rw [if_neg h,show max q (0-q)=q by omega,Int.mul_assoc]
theorem Gsk {w q:Int} (hw0:0≤w) (hw:w≤2000) (h0 : -1000≤q) (h1:q≤1000) : -2000000000≤Gan w w q∧Gan w w q≤2000000000:=by
 rw [← Gkv]
 have e1:=Gfr (a:=w) (b:=max q (0-q)) (A:=2000) (B:=1000) hw0 hw (by omega) (by omega) (by decide)
 have e2:=Gi9 (a:=w*max q (0-q)) (b:=q) (A:=2000000) (B:=1000) (by omega) (by omega) h0 h1 (by decide)
 omega
noncomputable def Gdr (a:Taj) (s:Taf) (i ρ q dp:Int):Int:=Gan (ρ+Uz a.Doors.length (dL a s i)) (ρ+Uz a.Doors.length (dL a s i)) q-dp-Uz a.Fans.length (fL a s i q)
def Gfx (a:Taj) (s:Taf) (r:Tae) (i q dp:Int):Prop:=∃ ρ,r.Rest.Low≤ρ∧ρ≤r.Rest.High∧r.Lift.Low≤Gdr a s i ρ q dp∧Gdr a s i ρ q dp≤r.Lift.High
def Gra (r r':Tae):Prop:=r'.From=r.From∧r'.To=r.To∧r'.Closed=r.Closed∧r'.Rest=r.Rest
def rdL (l:List Tae) (i:Nat):Tae:=(l[i]?).getD ⟨0,0,0,0,false,true,⟨0,0⟩,⟨0,0⟩⟩
theorem Gm2 {l:List Tae} {i:Nat} (h:i<l.length):l[i]?=some (rdL l i):=by
 unfold rdL
 rw [List.getElem?_eq_getElem h]
 rfl
theorem Gm3 {l:List Tae} {i k:Nat} {v:Tae} (hi:i<l.length):rdL (l.set i v) k=if k=i then v else rdL l k:=by
 unfold rdL
 rw [List.getElem?_set]
 by_cases h:i=k
 ·rw [if_pos h,if_pos hi,if_pos h.symm];rfl
 ·rw [if_neg h,if_neg (fun e=>h e.symm)]
theorem Grb (c:Tab) (a:Taj) (s:Taf) (x:Tan) (hc:Ul c) (h:AirR a s) (he:EqW a s) (hf:x.Flows.length=a.Mine.Roads.length) (hp:x.Pressures.length=a.Mine.Places.length) (hfb:∀ i,-1000≤nt x.Flows i∧nt x.Flows i≤1000) (hpb:∀ k,-4000≤nt x.Pressures k∧nt x.Pressures k≤4000) :
  Ok (Fan c a s x) fun r=>Ul r.1∧r.2.Fans=a.Fans∧r.2.Doors=a.Doors∧r.2.Mine.Places=a.Mine.Places∧r.2.Mine.Roads.length=a.Mine.Roads.length∧∀ i:Nat,i<a.Mine.Roads.length→Gra (rd0 a.Mine i) (rd0 r.2.Mine i)∧RV (rd0 r.2.Mine i)∧Gfx a s (rd0 r.2.Mine i) i (nt x.Flows i) (nt x.Pressures (frN a.Mine i)-nt x.Pressures (toN a.Mine i)):=by
 have hr1:=h.m.r1
 have hd1:=h.d1
 have hf1:=h.f1
 unfold Fan
 refine Jt (Q:=fun o=>Ul o.1∧o.2.length=a.Mine.Roads.length∧∀ i:Nat,i<a.Mine.Roads.length→Gra (rd0 a.Mine i) (rdL o.2 i)∧RV (rdL o.2 i)∧Gfx a s (rdL o.2 i) i (nt x.Flows i) (nt x.Pressures (frN a.Mine i)-nt x.Pressures (toN a.Mine i))) (Uo (fun t:Int×Tab×List Tae=>0≤t.1∧t.1≤a.Mine.Roads.length∧t.2.2.length=a.Mine.Roads.length∧Ul t.2.1∧(∀ i:Nat,(i:Int)<t.1→Gra (rd0 a.Mine i) (rdL t.2.2 i)∧RV (rdL t.2.2 i)∧Gfx a s (rdL t.2.2 i) i (nt x.Flows i) (nt x.Pressures (frN a.Mine i)-nt x.Pressures (toN a.Mine i)))∧∀ i:Nat,t.1≤(i:Int)→rdL t.2.2 i=rd0 a.Mine i) (fun t=>(a.Mine.Roads.length-t.1).toNat) _ (fun t ht=>?_) _ ⟨Int.le_refl _,by dsimp only;omega,rfl,hc,fun i hi=>by dsimp only at hi;omega,fun i _=>rfl⟩) fun o ho=>Je ⟨ho.1,rfl,rfl,rfl,ho.2.1,ho.2.2⟩
 obtain ⟨i',c,l⟩:=t
 obtain ⟨a1,a2,a3,a4,a5,a6⟩:=ht
 dsimp only at a1 a2 a3 a4 a5 a6
 obtain ⟨i,rfl⟩:∃ i:Nat,i'=(i:Int):=⟨i'.toNat,by omega⟩
 unfold Fbj
 dsimp only
 refine Ud (fun hi=>?_) (fun hi=>Je ⟨a4,a3,fun j hj=>a5 j (by omega)⟩)
 have hil:i<a.Mine.Roads.length:=by omega
 have hrm:=Wr (Xg hil)
 obtain ⟨e1,e2,e3,e4,e5⟩:=Gag h hil
 obtain ⟨⟨u1,u2,u3,u4,u5,u6,u7,u8⟩,⟨l1,l2,l3⟩,_⟩:=h.v _ hrm
 have hq:=hfb i
 have p28:=hpb (frN a.Mine i)
 have p30:=hpb (toN a.Mine i)
 have hb:=Gsj h hrm (i:Int)
 rw [Jv,Gm2 (by omega),a6 i (Int.le_refl _),bind_some,Jv,Uv (by omega),bind_some,Int.toNat_natCast,Gm2 (by omega),a6 i (Int.le_refl _)]
 generalize hr:rd0 a.Mine i=r at *
 rw [w64 (n:=r.Rest.High-r.Rest.Low) (by omega) (by omega),w64 (n:=r.Rest.High-r.Rest.Low+1) (by omega) (by omega)]
 refine Jt (Wq c _ a4 (by omega)) fun x11 h11=>?_
 rw [w64 (n:=r.Rest.Low+x11.2) (by omega) (by omega)]
 generalize hρ:r.Rest.Low+x11.2=ρ
 have hρ0:r.Rest.Low≤ρ∧ρ≤r.Rest.High:=by omega
 have sD:=fun n=>Zm (f:=dL a s i) (A:=0) (B:=900) n fun k _=>by have:=Gkr h i k;omega
 have sF:=fun n=>Zm (f:=fL a s i (nt x.Flows i)) (A:=-3000) (B:=3000) n fun k _=>by have:=Gph h i (nt x.Flows i) k;omega
 refine Jt (Q:=fun o=>o=ρ+Uz a.Doors.length (dL a s i)) (Uo (fun t:Int×Int=>0≤t.2∧t.2≤a.Doors.length∧t.1=ρ+Uz t.2.toNat (dL a s i)) (fun t=>(a.Doors.length-t.2).toNat) _ (fun t ht=>?_) _ ⟨Int.le_refl _,by dsimp only;omega,by simp [Uz]⟩) fun o14 ho14=>?_
 ·unfold Fbk
  obtain ⟨v,k'⟩:=t
  obtain ⟨t1,t2,t3⟩:=ht
  dsimp only at t1 t2 t3 ⊢
  obtain ⟨k,rfl⟩:∃ k:Nat,k'=(k:Int):=⟨k'.toNat,by omega⟩
  rw [Int.toNat_natCast] at t3
  subst t3
  have:=sD k
  refine Ud (fun hk=>?_) (fun hk=>Je (by rw [show k=a.Doors.length by omega]))
  have hg:=List.getElem?_eq_getElem (show k<a.Doors.length by omega)
  have hdk:=h.d4 k _ hg
  have hdd:=Gd3 (h.d3 _ (Wr hg)) hdk.1 hdk.2
  have hdb:=Gkr h i k
  have eL:dL a s i k=if (a.Doors[k]'(by omega)).Road=(i:Int) then (Zi (a.Doors[k]'(by omega)) (nt s.Doors k)).Low else 0:=by unfold dL;rw [hg];rfl
  rw [Jv,hg,bind_some,bind_some]
  refine Jt (Q:=fun o=>o=ρ+Uz (k+1) (dL a s i)) (Ud (fun hc=>?_) (fun hc=>Je ?_)) fun o ho=>?_
  ·rw [Jv,Uv (by rw [h.d2];omega),bind_some,hdd.1,bind_some]
   rw [if_pos hc] at eL
   rw [← eL,w64 (by omega) (by omega)]
   refine Je ?_
   show _=_+(Uz k _+_)
   omega
  ·rw [if_neg hc] at eL
   show _=_+(Uz k _+_)
   omega
  ·rw [w64 (n:=(k:Int)+1) (by omega) (by omega)]
   exact Je ⟨⟨by dsimp only;omega,by dsimp only;omega,ho⟩,by dsimp only;omega⟩
 subst ho14
 have sDa:=sD a.Doors.length
 have qb:=Gsk (w:=ρ+Uz a.Doors.length (dL a s i)) (q:=nt x.Flows i) (by omega) (by omega) hq.1 hq.2
 have hm1:=Gfr (a:=ρ+Uz a.Doors.length (dL a s i)) (b:=max (nt x.Flows i) (0-nt x.Flows i)) (A:=2000) (B:=1000) (by omega) (by omega) (by omega) (by omega) (by decide)
 rw [bind_some,e1,e2,Jv,Uv (by omega),bind_some,Jv,Uv (by omega),bind_some,w64 (n:=0-nt x.Flows i) (by omega) (by omega),w64 (n:=(ρ+Uz a.Doors.length (dL a s i))*max (nt x.Flows i) (0-nt x.Flows i)) (by omega) (by omega),Gkv,w64 (n:=Gan _ _ _) (by omega) (by omega),w64 (n:=nt x.Pressures (frN a.Mine i)-nt x.Pressures (toN a.Mine i)) (by omega) (by omega)]
 generalize hdp:nt x.Pressures (frN a.Mine i)-nt x.Pressures (toN a.Mine i)=dp at *
 rw [w64 (n:=Gan _ _ _-dp) (by omega) (by omega)]
 refine Jt (Q:=fun o=>o=Gdr a s i ρ (nt x.Flows i) dp) (Uo (fun t:Int×Int=>0≤t.2∧t.2≤a.Fans.length∧t.1=Gan (ρ+Uz a.Doors.length (dL a s i)) (ρ+Uz a.Doors.length (dL a s i)) (nt x.Flows i)-dp-Uz t.2.toNat (fL a s i (nt x.Flows i))) (fun t=>(a.Fans.length-t.2).toNat) _ (fun t ht=>?_) _ ⟨Int.le_refl _,by dsimp only;omega,by simp [Uz]⟩) fun o33 ho33=>?_
 ·unfold Fbl
  obtain ⟨v,k'⟩:=t
  obtain ⟨t1,t2,t3⟩:=ht
  dsimp only at t1 t2 t3 ⊢
  obtain ⟨k,rfl⟩:∃ k:Nat,k'=(k:Int):=⟨k'.toNat,by omega⟩
  rw [Int.toNat_natCast] at t3
  subst t3
  have:=sF k
  refine Ud (fun hk=>?_) (fun hk=>Je (by unfold Gdr;rw [show k=a.Fans.length by omega]))
  have hg:=List.getElem?_eq_getElem (show k<a.Fans.length by omega)
  have hff:=Gkq (q:=nt x.Flows i) (nt s.Fans k) (h.f3 _ (Wr hg)) (by omega) (by omega)
  have hdb:=Gph h i (nt x.Flows i) k
  have eL:fL a s i (nt x.Flows i) k=if (a.Fans[k]'(by omega)).Road=(i:Int) then (stF (a.Fans[k]'(by omega)) (nt s.Fans k) (nt x.Flows i)).Low else 0:=by unfold fL;rw [hg];rfl
  rw [Jv,hg,bind_some,bind_some]
  refine Jt (Q:=fun o=>o=Gan (ρ+Uz a.Doors.length (dL a s i)) (ρ+Uz a.Doors.length (dL a s i)) (nt x.Flows i)-dp-Uz (k+1) (fL a s i (nt x.Flows i))) (Ud (fun hc=>?_) (fun hc=>Je ?_)) fun o ho=>?_
  ·rw [Jv,Uv (by rw [h.f2];omega),bind_some,hff,bind_some]
   rw [if_pos hc] at eL
   rw [← eL,w64 (by omega) (by omega)]
   refine Je ?_
   show _=_-(Uz k _+_)
   omega
  ·rw [if_neg hc] at eL
   show _=_-(Uz k _+_)
   omega
  ·rw [w64 (n:=(k:Int)+1) (by omega) (by omega)]
   exact Je ⟨⟨by dsimp only;omega,by dsimp only;omega,ho⟩,by dsimp only;omega⟩
 subst ho33
 have sFa:=sF a.Fans.length
 have hlb : -2100000000≤Gdr a s i ρ (nt x.Flows i) dp∧Gdr a s i ρ (nt x.Flows i) dp≤2100000000:=by unfold Gdr;omega
 refine Jt (Wq x11.1 30 h11.1 (by decide)) fun x45 h45=>?_
 refine Jt (Wq x45.1 30 h45.1 (by decide)) fun x47 h47=>?_
 rw [bind_some,w64 (n:=(i:Int)+1) (by omega) (by omega),w64 (n:=Gdr a s i ρ (nt x.Flows i) dp-x45.2) (by omega) (by omega),w64 (n:=Gdr a s i ρ (nt x.Flows i) dp+x47.2) (by omega) (by omega)]
 refine Je ⟨⟨by dsimp only;omega,by dsimp only;omega,by rw [List.length_set];exact a3,h47.1,fun j hj=>?_,fun j hj=>?_⟩,by dsimp only;omega⟩
 ·dsimp only at hj ⊢
  rw [Gm3 (by omega)]
  by_cases e:j=i
  ·subst e
   rw [if_pos rfl,hr,hdp]
   refine ⟨⟨rfl,rfl,rfl,rfl⟩,⟨?_,⟨u1,u2,u3,u4,u5,u6,u7,u8⟩,?_,?_,?_⟩,ρ,hρ0.1,hρ0.2,?_,?_⟩
   ·dsimp only;omega
   ·dsimp only;omega
   ·dsimp only;omega
   ·dsimp only;omega
   ·dsimp only;omega
   ·dsimp only;omega
  ·rw [if_neg e]
   exact a5 j (by omega)
 ·dsimp only at hj ⊢
  rw [Gm3 (by omega),if_neg (by omega)]
  exact a6 j (by omega)
theorem Grc {a:Taj} {s s':Taf} (h:AirR a s) (h':AirR a s') (he:EqW a s) (hl:Gq9 s s') {r:Tae} (hr:r ∈ a.Mine.Roads) {i q dp:Int} (hL:Gfx a s r i q dp):(Gc5 a s' r i q).Low≤dp∧dp≤(Gc5 a s' r i q).High:=by
 obtain ⟨ρ,r1,r2,r3,r4⟩:=hL
 have hd:∀ k,k<a.Doors.length→dL a s' i k≤dL a s i k∧dL a s i k≤dH a s' i k:=fun k hk=>by
  have hg:=List.getElem?_eq_getElem hk
  have e0:=he.d4 k _ hg
  have hR:=h.d3 _ (Wr hg)
  have e1:=Gd3 hR (k:=nt s.Doors k) (by omega) e0.2
  have e2:=e1.2.2.2.2.1 e0.1
  have e3:=Gq2 hR e0.1 e0.2
  unfold dL dH
  rw [hg]
  show (if _ then _ else _)≤(if _ then _ else _)∧(if _ then _ else _)≤(if _ then _ else _)
  rcases hl.2.2.2 k with e | ⟨_,e⟩ <;> rw [e] <;> split <;> omega
 have hf:∀ k,k<a.Fans.length→fL a s' i q k≤fL a s i q k∧fL a s i q k≤fH a s' i q k:=fun k hk=>by
  have hg:=List.getElem?_eq_getElem hk
  have e0:=he.f4 k
  have hR:=h.f3 _ (Wr hg)
  have e1:=Gta hR (nt s.Fans k) q
  have e3:=Gtb (f:=a.Fans[k]) (k:=nt s.Fans k) (by omega) q
  unfold fL fH
  rw [hg]
  show (if _ then _ else _)≤(if _ then _ else _)∧(if _ then _ else _)≤(if _ then _ else _)
  rcases hl.2.2.1 k with e | ⟨_,e⟩ <;> rw [e] <;> split <;> omega
 have s1:=Gby a.Doors.length (dL a s' i) (dL a s i) fun k hk=>(hd k hk).1
 have s2:=Gby a.Doors.length (dL a s i) (dH a s' i) fun k hk=>(hd k hk).2
 have s3:=Gby a.Fans.length (fL a s' i q) (fL a s i q) fun k hk=>(hf k hk).1
 have s4:=Gby a.Fans.length (fL a s i q) (fH a s' i q) fun k hk=>(hf k hk).2
 unfold Gdr at r3 r4
 unfold Gc5 rL rH
 have q1:=Gpi (w:=r.Rest.High+Uz a.Doors.length (dH a s' i)) (v:=r.Rest.Low+Uz a.Doors.length (dL a s' i)) (w':=ρ+Uz a.Doors.length (dL a s i)) (v':=ρ+Uz a.Doors.length (dL a s i)) (q:=q) (by omega) (by omega)
 have q2:=Gpi (w:=ρ+Uz a.Doors.length (dL a s i)) (v:=ρ+Uz a.Doors.length (dL a s i)) (w':=r.Rest.Low+Uz a.Doors.length (dL a s' i)) (v':=r.Rest.High+Uz a.Doors.length (dH a s' i)) (q:=q) (by omega) (by omega)
 dsimp only
 omega

def Gds (m:Tah) (f:List Int) (k:Nat):Int:=Uz m.Roads.length fun i=>Wg (frN m i) (toN m i) k (clB m i) (nt f i) (nt f i)
theorem Gd4 {p:List Tac} {l:List Tae} {r:Tae} {i:Nat}:rd0 ⟨p,l++[r]⟩ i=if i=l.length then r else rd0 ⟨p,l⟩ i:=by
 unfold rd0
 dsimp only
 by_cases h:i<l.length
 ·rw [List.getElem?_append_left h,if_neg (by omega)]
 ·rw [List.getElem?_append_right (by omega)]
  by_cases e:i=l.length
  ·rw [if_pos e,e,Nat.sub_self];rfl
  ·rw [if_neg e,List.getElem?_eq_none (by simp;omega),List.getElem?_eq_none (by omega)]
theorem Gkw {p:List Tac} {l:List Tae} {r:Tae} {f:List Int} {q:Int} (hf:f.length=l.length) (k:Nat):Gds ⟨p,l++[r]⟩ (f++[q]) k=Gds ⟨p,l⟩ f k+Wg r.From.toNat r.To.toNat k r.Closed q q:=by
 unfold Gds
 have e:(Tah.mk p (l++[r])).Roads.length=l.length+1:=by simp
 rw [e]
 show Uz l.length _+_=Uz l.length _+_
 congr 1
 ·refine Gbe _ fun i hi=>?_
  unfold frN toN clB
  rw [Gd4,if_neg (by omega),Gdq,if_neg (by omega)]
 ·unfold frN toN clB
  dsimp only
  rw [Gd4,if_pos rfl,Gdq,if_pos hf.symm]
def sfp (l:List Tac) (k:Nat):Bool:=((l[k]?).map (·.Surface)).getD true
theorem Gsl (m:Tah) (k:Nat):sf m k=sfp m.Places k:=by
 unfold sf sfp
 rw [Int.toNat_natCast]
theorem Grd {l:List Tac} {p:Tac} {k:Nat}:sfp (l++[p]) k=if k=l.length then p.Surface else sfp l k:=by
 unfold sfp
 by_cases h:k<l.length
 ·rw [List.getElem?_append_left h,if_neg (by omega)]
 ·rw [List.getElem?_append_right (by omega)]
  by_cases e:k=l.length
  ·rw [if_pos e,e,Nat.sub_self];rfl
  ·rw [if_neg e,List.getElem?_eq_none (by simp;omega),List.getElem?_eq_none (by omega)]
theorem Gkx (c:Tab) (f t:Int) (hc:Ul c):Ok (Fax c f t) fun r=>Ul r.1∧r.2.From=f∧r.2.To=t∧Gsb r.2∧Gsc r.2∧r.2.Closed=false:=by
 unfold Fax
 refine Jt (Zh c 1 400 hc (by decide) (by decide) (by decide)) fun x1 h1=>?_
 refine Jt (Zh x1.1 4 30 h1.1 (by decide) (by decide) (by decide)) fun x3 h3=>?_
 refine Jt (Gmj x3.1 4 h3.1) fun x5 h5=>?_
 refine Jt (Zh x5.1 1 20 h5.1 (by decide) (by decide) (by decide)) fun x7 h7=>?_
 refine Jt (Wq x7.1 3 h7.1 (by decide)) fun x9 h9=>?_
 refine Jt (Zh x9.1 (-300) 300 h9.1 (by decide) (by decide) (by decide)) fun x11 h11=>?_
 refine Jt (Wq x11.1 20 h11.1 (by decide)) fun x13 h13=>?_
 rw [w64 (n:=x7.2+x9.2) (by omega) (by omega),w64 (n:=x11.2+x13.2) (by omega) (by omega)]
 refine Je ⟨h13.1,rfl,rfl,⟨h1.2.1,h1.2.2,h3.2.1,h3.2.2,h7.2.1,h7.2.2,?_,?_⟩,⟨?_,?_,?_⟩,rfl⟩ <;> dsimp only <;> omega
structure MdW (pl:List Tac) (pr:List Int) (a:Taj) (x:Tan) (c:Tab) (k:Nat):Prop where
 pe:a.Mine.Places=pl
 rl:a.Mine.Roads.length≤k
 rd:∀ r ∈ a.Mine.Roads,Gkc pl.length r
 rv:∀ r ∈ a.Mine.Roads,RV r
 fl:x.Flows.length=a.Mine.Roads.length
 fb:∀ i,-600≤nt x.Flows i∧nt x.Flows i≤600
 cz:∀ i:Nat,i<a.Mine.Roads.length→clB a.Mine i=true→nt x.Flows i=0
 pp:x.Pressures=pr
 hc:Ul c
theorem Gm4 {P:Tae→Prop} {l:List Tae} {q:Tae} (h:∀ r ∈ l,P r) (hq:P q):∀ r ∈ l++[q],P r:=fun x hx=>by
 rcases Gbl hx with h' | h'
 ·exact h x h'
 ·subst h';exact hq
theorem Gm5 {pl:List Tac} {pr:List Int} {a:Taj} {x:Tan} {c c':Tab} {k:Nat} (h:MdW pl pr a x c k) {r:Tae} {q:Int} (h1:Gkc pl.length r) (h2:RV r) (h3 : -600≤q∧q≤600) (h4:r.Closed=true→q=0) (hc':Ul c') {k':Nat} (hk:k+1≤k') :
  MdW pl pr ⟨⟨a.Mine.Places,a.Mine.Roads++[r]⟩,[],[]⟩ ⟨x.Pressures,x.Flows++[q]⟩ c' k':=by
 obtain ⟨m1,m2,m3,m4,m5,m6,m7,m8,m9⟩:=h
 refine ⟨m1,by simp;omega,Gm4 m3 h1,Gm4 m4 h2,by simp [m5],fun i=>?_,fun i hi hcl=>?_,m8,hc'⟩
 ·dsimp only
  rw [Gdq]
  split
  ·exact h3
  ·exact m6 i
 ·dsimp only at hi hcl ⊢
  unfold clB at hcl
  rw [Gd4] at hcl
  rw [Gdq]
  by_cases e:i=a.Mine.Roads.length
  ·rw [if_pos e] at hcl
   rw [if_pos (by omega)]
   exact h4 hcl
  ·rw [if_neg e] at hcl
   rw [if_neg (by omega)]
   exact m7 i (by simp at hi;omega) hcl
theorem Gpq (o10:List Tac×Tab) (pr:List Int) (hn:2≤o10.1.length) (hn2:o10.1.length≤12) (s:Int×List Int×Taj×Tan×Tab) (k0:Nat) (hk:s.1=(k0:Int)) (hk5:k0≤5) (hs:MdW o10.1 pr s.2.2.1 s.2.2.2.1 s.2.2.2.2 (5-k0)) (hnl:s.2.1.length=o10.1.length) (hnb:∀ k,-(120*((5-k0:Nat):Int))≤nt s.2.1 k∧nt s.2.1 k≤120*((5-k0:Nat):Int)) (hnn:∀ k,nt s.2.1 k=Gds s.2.2.1.Mine s.2.2.2.1.Flows k) :
  Ok (Sb (Fbc o10) s) fun r=>MdW o10.1 pr r.2.1 r.2.2.1 r.2.2.2 5∧r.1.length=o10.1.length∧(∀ k,-600≤nt r.1 k∧nt r.1 k≤600)∧∀ k,nt r.1 k=Gds r.2.1.Mine r.2.2.1.Flows k:=by
 refine Uo (fun s:Int×List Int×Taj×Tan×Tab=>∃ k:Nat,s.1=(k:Int)∧k≤5∧MdW o10.1 pr s.2.2.1 s.2.2.2.1 s.2.2.2.2 (5-k)∧s.2.1.length=o10.1.length∧(∀ j,-(120*((5-k:Nat):Int))≤nt s.2.1 j∧nt s.2.1 j≤120*((5-k:Nat):Int))∧∀ j,nt s.2.1 j=Gds s.2.2.1.Mine s.2.2.2.1.Flows j) (fun s=>s.1.toNat) _ (fun s hs=>?_) _ ⟨k0,hk,hk5,hs,hnl,hnb,hnn⟩
 obtain ⟨k',net,a,x,c⟩:=s
 obtain ⟨k,hkk,hk5,hs,hnl,hnb,hnn⟩:=hs
 dsimp only at hkk hs hnl hnb hnn
 subst hkk
 have hs0:=hs
 obtain ⟨m1,m2,m3,m4,m5,m6,m7,m8,m9⟩:=hs
 unfold Fbc
 dsimp only
 refine Ud (fun hk=>?_) (fun hk=>Je ⟨⟨m1,by dsimp only;omega,m3,m4,m5,m6,m7,m8,m9⟩,hnl,fun j=>by have:=hnb j;dsimp only;omega,hnn⟩)
 refine Jt (Wq c _ m9 (by omega)) fun x34 h34=>?_
 rw [w64 (n:=(o10.1.length:Int)-1) (by omega) (by omega)]
 refine Jt (Wq x34.1 _ h34.1 (by omega)) fun x36 h36=>?_
 rw [w64 (n:=x34.2+1) (by omega) (by omega),w64 (n:=x34.2+1+x36.2) (by omega) (by omega)]
 obtain ⟨q1,q2,q3⟩:=Gr7 (v:=x34.2+1+x36.2) (n:=o10.1.length) (by omega) (by omega)
 have hne:(x34.2+1+x36.2).tmod o10.1.length≠x34.2:=by
  intro e
  have hd:(o10.1.length:Int)*(x34.2+1+x36.2).tdiv o10.1.length+(x34.2+1+x36.2).tmod o10.1.length=x34.2+1+x36.2:=Int.mul_tdiv_add_tmod _ _
  rw [e] at hd
  have h0:0≤(x34.2+1+x36.2).tdiv o10.1.length:=Int.tdiv_nonneg (by omega) (by omega)
  generalize (x34.2+1+x36.2).tdiv (o10.1.length:Int)=d at *
  have hdd:d=0∨1≤d:=by omega
  rcases hdd with rfl | hdd
  ·rw [Int.mul_zero] at hd
   omega
  ·have:=Int.mul_le_mul_of_nonneg_left hdd (show 0≤(o10.1.length:Int) by omega)
   omega
 rw [q1,bind_some]
 refine Jt (Gkx x36.1 _ _ h36.1) fun x40 h40=>?_
 refine Jt (Geo x40.1 7 h40.1 (by decide)) fun x42 h42=>?_
 refine Jt (Zh x42.1 (-60) 60 h42 (by decide) (by decide) (by decide)) fun x44 h44=>?_
 refine Jt (Q:=fun o:Int×Taj×Tan=>-60≤o.1∧o.1≤60∧o.2.1.Mine=a.Mine∧o.2.2=x∧(x42.2=true→o.1=0)) (Gdk (fun _=>Je ⟨by show (-60:Int)≤0;decide,by show (0:Int)≤60;decide,rfl,rfl,fun _=>rfl⟩) (fun e=>Je ⟨h44.2.1,h44.2.2,rfl,rfl,fun e'=>by rw [e] at e';cases e'⟩)) fun o46 h46=>?_
 obtain ⟨b1,b2,b3,b4,b5⟩:=h46
 obtain ⟨f1,hf1⟩:∃ f1:Nat,x40.2.From=(f1:Int):=⟨x40.2.From.toNat,by rw [h40.2.1];omega⟩
 obtain ⟨t1,ht1⟩:∃ t1:Nat,x40.2.To=(t1:Int):=⟨x40.2.To.toNat,by rw [h40.2.2.1];omega⟩
 have hf1n:f1<net.length:=by have:=h40.2.1;omega
 have ht1n:t1<net.length:=by have:=h40.2.2.1;omega
 have hft:f1≠t1:=by have:=h40.2.1;have:=h40.2.2.1;omega
 have hRd:Gkc o10.1.length (Tae.mk x40.2.From x40.2.To x40.2.Length x40.2.Area x40.2.Walk x42.2 x40.2.Rest x40.2.Lift):=⟨by show 0≤x40.2.From;omega,by show x40.2.From<_;omega,by show 0≤x40.2.To;omega,by show x40.2.To<_;omega⟩
 have hRV:RV (Tae.mk x40.2.From x40.2.To x40.2.Length x40.2.Area x40.2.Walk x42.2 x40.2.Rest x40.2.Lift):=⟨by show x40.2.From≠x40.2.To;omega,h40.2.2.2.1,h40.2.2.2.2.1⟩
 have n52:=hnb f1
 rw [b3,Wj (by simp;omega),bind_some,b4,Wj (by simp;omega),bind_some,hf1,ht1,Jv,Uv hf1n,bind_some,bind_some,Int.toNat_natCast,Int.toNat_natCast,w64 (n:=nt net f1+o46.1) (by omega) (by omega),Jv,Uv (by rw [List.length_set];exact ht1n),bind_some,bind_some]
 have n56:nt (net.set f1 (nt net f1+o46.1)) t1=nt net t1:=by rw [Gaz hf1n,if_neg (by omega)]
 have n57:=hnb t1
 rw [w64 (n:=nt (net.set f1 (nt net f1+o46.1)) t1-o46.1) (by omega) (by omega),w64 (n:=(k:Int)-1) (by omega) (by omega)]
 have hps:=fun j=>Gim (k:=j) hft (cl:=x42.2) (q:=o46.1) b5 hf1n ht1n
 rw [← hf1,← ht1]
 refine Je ⟨⟨k-1,by dsimp only;omega,by omega,Gm5 hs0 hRd hRV (by omega) b5 h44.1 (by omega),by simp [hnl],fun j=>?_,fun j=>?_⟩,by dsimp only;omega⟩
 ·dsimp only
  rw [hps j]
  have:=hnb j
  have hpb:=Gjc (fr:=f1) (to:=t1) (k:=j) (cl:=x42.2) (x:=o46.1) (y:=o46.1) (B:=60) ⟨by omega,by omega⟩ ⟨by omega,by omega⟩ (by decide)
  omega
 ·dsimp only
  rw [hps j,hnn j]
  have:=Gkw (p:=a.Mine.Places) (l:=a.Mine.Roads) (r:=Tae.mk x40.2.From x40.2.To x40.2.Length x40.2.Area x40.2.Walk x42.2 x40.2.Rest x40.2.Lift) (f:=x.Flows) (q:=o46.1) m5 j
  rw [this]
  dsimp only
  rw [hf1,ht1,Int.toNat_natCast,Int.toNat_natCast]
def Gm6 (m:Tah) (sh k:Nat):Prop:=∃ j,j<m.Roads.length∧clB m j=false∧(frN m j=k∧toN m j<sh∨toN m j=k∧frN m j<sh)
theorem Gnz {p:List Tac} {l:List Tae} {r:Tae} {sh k:Nat} (h:Gm6 ⟨p,l⟩ sh k):Gm6 ⟨p,l++[r]⟩ sh k:=by
 obtain ⟨j,h1,h2,h3⟩:=h
 have e:rd0 ⟨p,l++[r]⟩ j=rd0 ⟨p,l⟩ j:=by rw [Gd4,if_neg (by dsimp only at h1;omega)]
 refine ⟨j,by dsimp only at h1;simp;omega,?_,?_⟩
 ·unfold clB at h2 ⊢;rw [e];exact h2
 ·unfold frN toN at h3 ⊢;rw [e];exact h3
theorem Gpr (o3:List Tac) (o10:List Tac×Tab) (o27:List Int×Taj×Tan×Tab) (pr:List Int) (h3:1≤o3.length) (h32:o3.length≤o10.1.length) (hn2:o10.1.length≤12) (hs:MdW o10.1 pr o27.2.1 o27.2.2.1 o27.2.2.2 5) (hnl:o27.1.length=o10.1.length) (hnb:∀ k,-600≤nt o27.1 k∧nt o27.1 k≤600) (hnn:∀ k,nt o27.1 k=Gds o27.2.1.Mine o27.2.2.1.Flows k) :
  Ok (Sb (Fbd o3 o10 o27) ((o3.length:Int),(Taj.mk o27.2.1.Mine [] []),o27.2.2.1,o27.2.2.2)) fun r=>MdW o10.1 pr r.1 r.2.1 r.2.2 17∧∀ k,o3.length≤k→k<o10.1.length→Gds r.1.Mine r.2.1.Flows k=0∧Gm6 r.1.Mine o3.length k:=by
 obtain ⟨m1,m2,m3,m4,m5,m6,m7,m8,m9⟩:=hs
 refine Uo (fun s:Int×Taj×Tan×Tab=>∃ i:Nat,s.1=(i:Int)∧o3.length≤i∧i≤o10.1.length∧MdW o10.1 pr s.2.1 s.2.2.1 s.2.2.2 (5+i)∧(∀ k,o3.length≤k→k<i→Gds s.2.1.Mine s.2.2.1.Flows k=0∧Gm6 s.2.1.Mine o3.length k)∧∀ k,i≤k→Gds s.2.1.Mine s.2.2.1.Flows k=nt o27.1 k) (fun s=>(o10.1.length-s.1).toNat) _ (fun s hs=>?_) _ ⟨o3.length,rfl,Nat.le_refl _,h32,⟨m1,by dsimp only;omega,m3,m4,m5,m6,m7,m8,m9⟩,fun k hk hk'=>by omega,fun k _=>(hnn k).symm⟩
 obtain ⟨i',a,x,c⟩:=s
 obtain ⟨i,hii,hi3,hil,hs,hz,hr⟩:=hs
 dsimp only at hii hs hz hr
 subst hii
 have hs0:=hs
 obtain ⟨m1,m2,m3,m4,m5,m6,m7,m8,m9⟩:=hs
 unfold Fbd
 dsimp only
 refine Ud (fun hk=>?_) (fun hk=>Je ⟨⟨m1,by dsimp only;omega,m3,m4,m5,m6,m7,m8,m9⟩,fun k h1 h2=>hz k h1 (by omega)⟩)
 have hi:i<o10.1.length:=by omega
 refine Jt (Wq c _ m9 (by omega)) fun x63 h63=>?_
 obtain ⟨u,hu⟩:∃ u:Nat,x63.2=(u:Int):=⟨x63.2.toNat,by omega⟩
 have hus:u<o3.length:=by omega
 refine Jt (Gkx x63.1 _ _ h63.1) fun x65 h65=>?_
 obtain ⟨g1,g2,g3,g4,g5,g6⟩:=h65
 have n67:=hnb i
 rw [Jv,Uv (by omega),bind_some]
 refine Jt (Geo x65.1 2 g1 (by decide)) fun x69 h69=>?_
 rw [w64 (n:=0-nt o27.1 i) (by omega) (by omega),w64 (n:=0-(0-nt o27.1 i)) (by omega) (by omega)]
 rw [hu] at g3
 refine Jt (Q:=fun o:Int×Tae×Taj×Tan=>-600≤o.1∧o.1≤600∧Gkc o10.1.length o.2.1∧RV o.2.1∧o.2.2.1.Mine=a.Mine∧o.2.2.2=x∧o.2.1.Closed=false∧(o.2.1.From=(i:Int)∧o.2.1.To=(u:Int)∧o.1 = -nt o27.1 i∨o.2.1.From=(u:Int)∧o.2.1.To=(i:Int)∧o.1=nt o27.1 i)) (Gdk (fun _=>Je ⟨by dsimp only;omega,by dsimp only;omega,⟨by dsimp only;omega,by dsimp only;omega,by dsimp only;omega,by dsimp only;omega⟩,⟨by dsimp only;omega,g4,g5⟩,rfl,rfl,g6,.inr ⟨g3,g2,by dsimp only;omega⟩⟩) (fun _=>Je ⟨by dsimp only;omega,by dsimp only;omega,⟨by dsimp only;omega,by dsimp only;omega,by dsimp only;omega,by dsimp only;omega⟩,⟨by dsimp only;omega,g4,g5⟩,rfl,rfl,g6,.inl ⟨g2,g3,by dsimp only;omega⟩⟩)) fun o71 h71=>?_
 obtain ⟨b1,b2,b3,b3',b4,b5,b6,b7⟩:=h71
 rw [b4,Wj (by simp;omega),bind_some,b5,Wj (by simp;omega),bind_some,w64 (n:=(i:Int)+1) (by omega) (by omega)]
 have hnet:=fun j=>Gkw (p:=a.Mine.Places) (l:=a.Mine.Roads) (r:=o71.2.1) (f:=x.Flows) (q:=o71.1) m5 j
 refine Je ⟨⟨i+1,by dsimp only;omega,by omega,by omega,Gm5 hs0 b3 b3' ⟨b1,b2⟩ (fun e=>by rw [b6] at e;cases e) h69 (by omega),fun k h1 h2=>?_,fun k h1=>?_⟩,by dsimp only;omega⟩
 ·dsimp only
  rw [hnet k,b6]
  by_cases e:k=i
  ·subst e
   have hrk:=hr k (Nat.le_refl _)
   have hm:Gds ⟨a.Mine.Places,a.Mine.Roads⟩ x.Flows k=nt o27.1 k:=hrk
   rw [hm]
   constructor
   ·rcases b7 with ⟨q1,q2,q3⟩ | ⟨q1,q2,q3⟩
    ·rw [q1,q2,Int.toNat_natCast,Int.toNat_natCast,Gck rfl (by omega)];omega
    ·rw [q1,q2,Int.toNat_natCast,Int.toNat_natCast,Gcl rfl (by omega)];omega
   ·refine ⟨a.Mine.Roads.length,by simp,?_,?_⟩
    ·unfold clB;rw [Gd4,if_pos rfl];exact b6
    ·unfold frN toN
     rw [Gd4,if_pos rfl]
     rcases b7 with ⟨q1,q2,q3⟩ | ⟨q1,q2,q3⟩
     ·exact .inl ⟨by rw [q1,Int.toNat_natCast],by rw [q2,Int.toNat_natCast];exact hus⟩
     ·exact .inr ⟨by rw [q2,Int.toNat_natCast],by rw [q1,Int.toNat_natCast];exact hus⟩
  ·obtain ⟨z1,z2⟩:=hz k h1 (by omega)
   have hm:Gds ⟨a.Mine.Places,a.Mine.Roads⟩ x.Flows k=0:=z1
   rw [hm]
   refine ⟨?_,Gnz z2⟩
   rcases b7 with ⟨q1,q2,q3⟩ | ⟨q1,q2,q3⟩
   ·rw [q1,q2,Int.toNat_natCast,Int.toNat_natCast,Gbz (by omega) (by omega)];rfl
   ·rw [q1,q2,Int.toNat_natCast,Int.toNat_natCast,Gbz (by omega) (by omega)];rfl
 ·dsimp only
  rw [hnet k,b6]
  have hm:Gds ⟨a.Mine.Places,a.Mine.Roads⟩ x.Flows k=nt o27.1 k:=hr k (by omega)
  rw [hm]
  rcases b7 with ⟨q1,q2,q3⟩ | ⟨q1,q2,q3⟩
  ·rw [q1,q2,Int.toNat_natCast,Int.toNat_natCast,Gbz (by omega) (by omega)];omega
  ·rw [q1,q2,Int.toNat_natCast,Int.toNat_natCast,Gbz (by omega) (by omega)];omega

structure Drawn (r:Tab×Taj×Taf×Tan):Prop where
 c:Ul r.1
 h:AirR r.2.1 r.2.2.1
 k:Gbm r.2.1.Mine=0
 a:Gdp r.2.1.Mine
 f:Fit r.2.1 r.2.2.1 r.2.2.2.Pressures r.2.2.2.Flows
 b:∀ i,-600≤nt r.2.2.2.Flows i∧nt r.2.2.2.Flows i≤600
 n:r.2.1.Mine.Places.length≤6
 s:∃ sh,sh≤r.2.1.Mine.Places.length∧r.2.1.Mine.Places.length≤sh+4∧∀ j:Nat,j<sh→sf r.2.1.Mine j=true
theorem Gjh {m:Tah} {a:Taj} {s s':Taf} (hm:MnOk a.Mine) (hv:∀ r ∈ a.Mine.Roads,RV r) (he:EqW a s) (hl:Gq9 s s'):AirR a s':=by
 obtain ⟨e1,e2,e3,e4,e5,e6,e7,e8⟩:=he
 obtain ⟨l1,l2,l3,l4⟩:=hl
 refine ⟨hm,fun r hr=>⟨(hv r hr).2.1,(hv r hr).2.2,(hv r hr).1⟩,e1,l1.trans e2,e3,fun k hk=>?_,e5,l2.trans e6,e7,fun i d hd=>?_⟩
 ·obtain ⟨i,hi,rfl⟩:=List.getElem_of_mem hk
  have hn:nt s'.Fans i=s'.Fans[i]:=by unfold nt;rw [List.getElem?_eq_getElem hi];rfl
  have:=e4 i
  rcases l3 i with h | ⟨_,h⟩ <;> omega
 ·have:=e8 i d hd
  rcases l4 i with h | ⟨_,h⟩ <;> omega
theorem Gio (s:Taf):Gq9 s s:=⟨rfl,rfl,fun _=>.inl rfl,fun _=>.inl rfl⟩
theorem Gps {m m':Tah} (hl:m'.Roads.length=m.Roads.length) (hs:∀ i:Nat,i<m.Roads.length→Gra (rd0 m i) (rd0 m' i)) (f:List Int) (k:Nat):Gds m' f k=Gds m f k:=by
 unfold Gds
 rw [hl]
 refine Gbe _ fun i hi=>?_
 obtain ⟨h1,h2,h3,_⟩:=hs i hi
 unfold frN toN clB
 rw [h1,h2,h3]
theorem Gpt (c:Tab) (hc:Ul c):Ok (Fbg c) Drawn:=by
 unfold Fbg
 refine Jt (Geo c 3 hc (by decide)) fun x1 h1=>?_
 refine Jt (Q:=fun o:List Tac=>1≤o.length∧o.length≤2∧PlV o∧∀ k,sfp o k=true) (Gdk (fun _=>?_) (fun _=>Je ⟨by simp,by simp,(fun p hp=>by simp at hp;subst hp;rfl),fun k=>by cases k <;> rfl⟩)) fun o3 h3=>?_
 ·rw [Wj (by simp),bind_some]
  refine Je ⟨by simp,by simp,fun p hp=>?_,fun k=>?_⟩
  ·simp at hp
   rcases hp with rfl | rfl <;> rfl
  ·match k with
   | 0=>rfl
   | 1=>rfl
   | k+2=>rfl
 obtain ⟨s1,s2,s3,s4⟩:=h3
 refine Jt (Wq x1.1 5 h1 (by decide)) fun x7 h7=>?_
 refine Jt (Q:=fun o:List Tac×Tab=>o3.length≤o.1.length∧o.1.length≤o3.length+4∧Ul o.2∧PlV o.1∧∀ k,(k<o3.length→sfp o.1 k=true)∧(o3.length≤k→k<o.1.length→sfp o.1 k=false)) (Uo (fun s:Int×List Tac×Tab=>0≤s.1∧o3.length≤s.2.1.length∧(s.2.1.length:Int)+s.1≤o3.length+4∧Ul s.2.2∧PlV s.2.1∧∀ k,(k<o3.length→sfp s.2.1 k=true)∧(o3.length≤k→k<s.2.1.length→sfp s.2.1 k=false)) (fun s=>s.1.toNat) _ (fun s hs=>?_) _ ⟨h7.2.1,Nat.le_refl _,by dsimp only;omega,h7.1,s3,fun k=>⟨fun _=>s4 k,fun h h'=>by dsimp only at h';omega⟩⟩) fun o10 h10=>?_
 ·obtain ⟨k,l,c⟩:=s
  obtain ⟨a1,a2,a3,a4,a5,a6⟩:=hs
  dsimp only at a1 a2 a3 a4 a5 a6
  unfold Fch
  dsimp only
  refine Ud (fun hk=>?_) (fun hk=>Je ⟨a2,by dsimp only;omega,a4,a5,a6⟩)
  refine Jt (Wq c 100 a4 (by decide)) fun x12 h12=>?_
  rw [Wj (by simp;omega),bind_some,w64 (n:=k-1) (by omega) (by omega),w64 (n:=0-x12.2) (by omega) (by omega)]
  refine Je ⟨⟨by dsimp only;omega,by simp;omega,by simp;omega,h12.1,fun p hp=>?_,fun j=>?_⟩,by dsimp only;omega⟩
  ·rcases Gbl hp with h | h
   ·exact a5 p h
   ·subst h;exact Go8 (by dsimp only;omega) (by dsimp only;omega)
  ·dsimp only
   rw [Grd]
   refine ⟨fun h=>?_,fun h h'=>?_⟩
   ·rw [if_neg (by omega)];exact (a6 j).1 h
   ·split
    ·rfl
    ·exact (a6 j).2 h (by simp at h';omega)
 obtain ⟨p1,p2,p3,p4,p5⟩:=h10
 rw [Ze (by omega) (by omega),bind_some,Int.toNat_natCast]
 refine Jt (Q:=fun o:List Int×Tab=>o.1.length=o10.1.length∧Ul o.2∧∀ k,-4000≤nt o.1 k∧nt o.1 k≤4000∧(k<o3.length→nt o.1 k=0)) (Uo (fun s:Int×List Int×Tab=>(o3.length:Int)≤s.1∧s.2.1.length=o10.1.length∧Ul s.2.2∧∀ k,-4000≤nt s.2.1 k∧nt s.2.1 k≤4000∧(k<o3.length→nt s.2.1 k=0)) (fun s=>(o10.1.length-s.1).toNat) _ (fun s hs=>?_) _ ⟨Int.le_refl _,by simp,p3,fun k=>by rw [Gbd];omega⟩) fun o19 h19=>?_
 ·obtain ⟨i',l,c⟩:=s
  obtain ⟨a1,a2,a3,a4⟩:=hs
  dsimp only at a1 a2 a3 a4
  obtain ⟨i,rfl⟩:∃ i:Nat,i'=(i:Int):=⟨i'.toNat,by omega⟩
  unfold Fci
  dsimp only
  refine Ud (fun hk=>?_) (fun hk=>Je ⟨a2,a3,a4⟩)
  refine Jt (Zh c (-4000) 4000 a3 (by decide) (by decide) (by decide)) fun x21 h21=>?_
  rw [Jv,Uv (by omega),bind_some,Int.toNat_natCast,w64 (by omega) (by omega)]
  refine Je ⟨⟨by dsimp only;omega,by rw [List.length_set];exact a2,h21.1,fun k=>?_⟩,by dsimp only;omega⟩
  dsimp only
  rw [Gaz (by omega)]
  have:=a4 k
  split
  ·omega
  ·exact this
 obtain ⟨v1,v2,v3⟩:=h19
 rw [bind_some]
 refine Jt (Q:=fun o:List Int×Taj×Tan×Tab=>MdW o10.1 o19.1 o.2.1 o.2.2.1 o.2.2.2 5∧o.1.length=o10.1.length∧(∀ k,-600≤nt o.1 k∧nt o.1 k≤600)∧∀ k,nt o.1 k=Gds o.2.1.Mine o.2.2.1.Flows k) (Ud (fun hn=>?_) (fun hn=>Je ⟨⟨rfl,by simp,(fun r hr=>by cases hr),(fun r hr=>by cases hr),rfl,fun i=>by show -600≤(0:Int)∧(0:Int)≤600;omega,fun i hi=>by simp at hi,rfl,v2⟩,by simp,fun k=>by rw [Gbd];omega,fun k=>by rw [Gbd];rfl⟩)) fun o27 h27=>?_
 ·refine Jt (Wq o19.2 6 v2 (by decide)) fun x29 h29=>?_
  obtain ⟨k,hk⟩:∃ k:Nat,x29.2=(k:Int):=⟨x29.2.toNat,by omega⟩
  refine Jt (Gpq o10 o19.1 (by omega) (by omega) _ k hk (by omega) ⟨rfl,by simp,(fun r hr=>by cases hr),(fun r hr=>by cases hr),rfl,fun i=>by show -600≤(0:Int)∧(0:Int)≤600;omega,fun i hi=>by simp at hi,rfl,h29.1⟩ (by simp) (fun j=>by dsimp only;rw [Gbd];omega) (fun j=>by dsimp only;rw [Gbd];rfl)) fun o32 h32=>Je ?_
  obtain ⟨⟨m1,m2,m3,m4,m5,m6,m7,m8,m9⟩,q1,q2,q3⟩:=h32
  exact ⟨⟨m1,m2,m3,m4,m5,m6,m7,m8,m9⟩,q1,q2,q3⟩
 obtain ⟨w1,w2,w3,w4⟩:=h27
 refine Jt (Gpr o3 o10 o27 o19.1 s1 p1 (by omega) w1 w2 w3 w4) fun o61 h61=>?_
 obtain ⟨⟨m1,m2,m3,m4,m5,m6,m7,m8,m9⟩,hz⟩:=h61
 refine Jt (Gjf o61.2.2 o61.1.Mine m9 (by omega)) fun x77 h77=>?_
 obtain ⟨y1,y2,y3⟩:=h77
 have hM:MnOk x77.2.1.Mine:=by rw [y2];exact ⟨by rw [m1];omega,by rw [m1];omega,by omega,by rw [m1];exact m3⟩
 have hA:AirR x77.2.1 x77.2.2:=Gjh (m:=x77.2.1.Mine) hM (by rw [y2];exact m4) y3 (Gio _)
 refine Jt (Grb x77.1 x77.2.1 x77.2.2 o61.2.1 y1 hA y3 (by rw [y2];exact m5) (by rw [y2,m1,m8];exact v1) (fun i=>by have:=m6 i;omega) (fun k=>by rw [m8];have:=v3 k;omega)) fun x79 h79=>?_
 obtain ⟨z1,z2,z3,z4,z5,z6⟩:=h79
 refine Jt (Glw x79.1 x79.2 x77.2.2 z1 (by have:=y3.f1;have:=y3.f2;omega) (by have:=y3.d1;have:=y3.d2;omega)) fun x81 h81=>Je ?_
 obtain ⟨d1,d2⟩:=h81
 have hrds:∀ {P:Tae→Prop},(∀ i:Nat,i<x77.2.1.Mine.Roads.length→P (rd0 x79.2.Mine i))→∀ r ∈ x79.2.Mine.Roads,P r:=fun hP r hr=>by
  obtain ⟨i,hi,rfl⟩:=List.getElem_of_mem hr
  have:=hP i (by omega)
  have e:rd0 x79.2.Mine i=x79.2.Mine.Roads[i]:=by unfold rd0;rw [List.getElem?_eq_getElem hi];rfl
  rwa [e] at this
 have hM':MnOk x79.2.Mine:=⟨by rw [z4];exact hM.p1,by rw [z4];exact hM.p2,by rw [z5];exact hM.r1,hrds fun i hi=>by
  obtain ⟨⟨e1,e2,e3,e4⟩,_,_⟩:=z6 i hi
  have:=hM.rd _ (Wr (Xg hi))
  obtain ⟨r1,r2,r3,r4⟩:=this
  exact ⟨by rw [e1];exact r1,by rw [e1,z4];exact r2,by rw [e2];exact r3,by rw [e2,z4];exact r4⟩⟩
 have hV':∀ r ∈ x79.2.Mine.Roads,RV r:=hrds fun i hi=>(z6 i hi).2.1
 have hE':EqW x79.2 x77.2.2:=by
  obtain ⟨e1,e2,e3,e4,e5,e6,e7,e8⟩:=y3
  exact ⟨by rw [z2];exact e1,by rw [z2];exact e2,by rw [z2,z5];exact e3,e4,by rw [z3];exact e5,by rw [z3];exact e6,by rw [z3,z5];exact e7,by rw [z3];exact e8⟩
 have hA1:AirR x79.2 x77.2.2:=Gjh (m:=x79.2.Mine) hM' hV' hE' (Gio _)
 have hA2:AirR x79.2 x81.2:=Gjh (m:=x79.2.Mine) hM' hV' hE' d2
 have hpl:x79.2.Mine.Places=o10.1:=by rw [z4,y2,m1]
 have hsf:∀ k:Nat,sf x79.2.Mine k=sfp o10.1 k:=fun k=>by rw [Gsl,hpl]
 have hk:Gbm x79.2.Mine=0:=Gsi hM' ⟨⟨by rw [hpl];exact p4,hV'⟩,by rw [hpl];omega⟩
 have hfr:∀ i,i<x77.2.1.Mine.Roads.length→frN x79.2.Mine i=frN x77.2.1.Mine i∧toN x79.2.Mine i=toN x77.2.1.Mine i∧clB x79.2.Mine i=clB x77.2.1.Mine i:=fun i hi=>by
  obtain ⟨⟨e1,e2,e3,e4⟩,_,_⟩:=z6 i hi
  unfold frN toN clB
  rw [e1,e2,e3]
  exact ⟨rfl,rfl,rfl⟩
 have hnet:=Gps (m:=x77.2.1.Mine) (m':=x79.2.Mine) z5 (fun i hi=>(z6 i hi).1)
 have hlow:∀ k:Nat,k<x79.2.Mine.Places.length→sf x79.2.Mine k=false→o3.length≤k:=fun k hkn hs=>by
  refine Decidable.byContradiction fun hc=>?_
  have:=(p5 k).1 (by omega)
  rw [hsf,this] at hs
  cases hs
 refine ⟨d1,hA2,hk,fun k hkn hs=>?_,⟨⟨by dsimp only;rw [m8,hpl];exact v1,fun k=>by dsimp only;rw [m8];have:=v3 k;omega⟩,fun k hkn hs=>?_,by dsimp only;rw [m5,z5,y2],fun i=>by have:=m6 i;dsimp only;omega,fun i hi hcl=>?_,fun k hkn hs=>?_,fun i hi hcl=>?_⟩,m6,by dsimp only;rw [hpl];omega,⟨o3.length,by dsimp only;rw [hpl];exact p1,by dsimp only;rw [hpl];exact p2,fun j hj=>by dsimp only;rw [hsf];exact (p5 j).1 hj⟩⟩
 ·dsimp only at hkn hs ⊢
  obtain ⟨j,j1,j2,j3⟩:=(hz k (hlow k hkn hs) (by rw [← hpl];exact hkn)).2
  rw [← y2] at j1 j2 j3
  obtain ⟨g1,g2,g3⟩:=hfr j j1
  refine ⟨j,by rw [z5];exact j1,by rw [g3];exact j2,?_⟩
  rw [g1,g2,hsf,hsf]
  rcases j3 with ⟨q1,q2⟩ | ⟨q1,q2⟩
  ·exact .inl ⟨q1,(p5 _).1 q2⟩
  ·exact .inr ⟨q1,(p5 _).1 q2⟩
 ·dsimp only at hkn hs ⊢
  rw [m8]
  refine (v3 k).2.2 (Decidable.byContradiction fun hc=>?_)
  have:=(p5 k).2 (by omega) (by rw [← hpl];exact hkn)
  rw [hsf,this] at hs
  cases hs
 ·dsimp only at hi hcl ⊢
  rw [z5] at hi
  rw [(hfr i hi).2.2,y2] at hcl
  exact m7 i (by rw [← y2];exact hi) hcl
 ·dsimp only at hkn hs ⊢
  have:=hnet o61.2.1.Flows k
  rw [y2,(hz k (hlow k hkn hs) (by rw [← hpl];exact hkn)).1] at this
  exact this
 ·dsimp only at hi hcl ⊢
  rw [z5] at hi
  obtain ⟨g1,g2,g3⟩:=hfr i hi
  have hL:=(z6 i hi).2.2
  rw [← g1,← g2] at hL
  have hL':Gfx x79.2 x77.2.2 (rd0 x79.2.Mine i) i (nt o61.2.1.Flows i) (nt o61.2.1.Pressures (frN x79.2.Mine i)-nt o61.2.1.Pressures (toN x79.2.Mine i)):=by
   unfold Gfx Gdr at hL ⊢
   have e1:dL x79.2 x77.2.2 (i:Int)=dL x77.2.1 x77.2.2 (i:Int):=by unfold dL;rw [z3]
   have e2:fL x79.2 x77.2.2 (i:Int) (nt o61.2.1.Flows i)=fL x77.2.1 x77.2.2 (i:Int) (nt o61.2.1.Flows i):=by unfold fL;rw [z2]
   rw [z2,z3,e1,e2]
   exact hL
  exact Grc hA1 hA2 hE' d2 (Wr (Xg (by rw [z5];exact hi))) hL'

def qaV (q:List Int) (j:Nat):Int:=if nt q j<0 then -nt q j else nt q j
def Ger (m:Tah) (q:List Int) (j:Nat):Nat:=if nt q j<0 then toN m j else frN m j
def Glx (m:Tah) (q:List Int) (j:Nat):Nat:=if nt q j<0 then frN m j else toN m j
def ofN (l:List Tag) (k:Nat):Tag:=(l[k]?).getD ⟨0,0⟩
theorem Ggj {l:List Tag} {k:Nat} (h:k<l.length):l[k]?=some (ofN l k):=by
 unfold ofN
 rw [List.getElem?_eq_getElem h]
 rfl
theorem Gji {l:List Tag} {i k:Nat} {v:Tag} (hi:i<l.length):ofN (l.set i v) k=if k=i then v else ofN l k:=by
 unfold ofN
 rw [List.getElem?_set]
 by_cases h:i=k
 ·rw [if_pos h,if_pos hi,if_pos h.symm];rfl
 ·rw [if_neg h,if_neg (fun e=>h e.symm)]
structure GCtx (m:Tah) (q fl P R:List Int):Prop where
 r1:m.Roads.length≤20
 ql:q.length=m.Roads.length
 il:fl.length=m.Roads.length
 pl:P.length=m.Places.length
 rl:R.length=m.Roads.length
 e:∀ j,j<m.Roads.length→(rd0 m j).From=(frN m j:Int)∧(rd0 m j).To=(toN m j:Int)∧frN m j<m.Places.length∧toN m j<m.Places.length
 qb:∀ j,-600≤nt q j∧nt q j≤600
 ib:∀ j,0≤nt fl j∧nt fl j≤2844
 pb:∀ k,0≤nt P k∧nt P k≤1000000
 rb:∀ j,0≤nt R j∧nt R j≤1000000
 ra:∀ j,j<m.Roads.length→nt q j≠0→nt R j<1000000→∃ mo,0≤mo∧nt P (Ger m q j)+mo≤nt R j∧nt fl j≤mo*qaV q j
 rp:∀ j,j<m.Roads.length→nt q j≠0→sf m (Glx m q j)=false→nt R j≤nt P (Glx m q j)
def Shr (P:List Int) (C:Int) (k:Nat) (w:Tag):Prop:=1≤w.air∧w.air≤12582912000∧0≤w.gas∧w.gas≤C*w.air∧(nt P k<1000000→w.gas≤nt P k*w.air)
theorem Gbh {a b A B:Int} (h0:0≤a) (h1:a≤A) (h2:0≤b) (h3:b≤B):0≤a*b∧a*b≤A*B :=
 ⟨Int.mul_nonneg h0 h2,(Gfr h0 h1 (by omega) h3 (by omega)).2⟩
theorem Ghw {g a qa i Pf mo B:Int} (ha:0≤a) (hq:0≤qa) (hg:g≤Pf*a) (hi:i≤mo*qa) (hB:Pf+mo≤B):qa*g+i*a≤B*(qa*a):=by
 have a1:=Int.mul_le_mul_of_nonneg_left hg hq
 have a2:=Int.mul_le_mul_of_nonneg_right hi ha
 have a3:=Int.mul_le_mul_of_nonneg_right hB (Int.mul_nonneg hq ha)
 have e1:qa*(Pf*a)=Pf*(qa*a):=Int.mul_left_comm _ _ _
 have e2:mo*qa*a=mo*(qa*a):=Int.mul_assoc _ _ _
 rw [Int.add_mul] at a3
 omega
theorem Gpu {B s A a qa t G:Int} (hA:0≤A) (ha:0≤a) (hG:G≤B*(s*A)) (ht:t≤B*(qa*a)):G*a+t*A≤B*((s+qa)*(A*a)):=by
 have a1:=Int.mul_le_mul_of_nonneg_right hG ha
 have a2:=Int.mul_le_mul_of_nonneg_right ht hA
 have e:B*((s+qa)*(A*a))=B*(s*A)*a+B*(qa*a)*A:=by
  simp only [Int.add_mul,Int.mul_add,Int.mul_assoc,Int.mul_comm,Int.mul_left_comm]
 omega
def MxI (m:Tah) (P:List Int) (C:Int) (i idx:Nat) (sum:Int) (o:Tag):Prop :=
 0≤sum∧sum≤600*(idx:Int)∧1≤o.air∧o.air≤1048576∧0≤o.gas∧o.gas≤1099511627776∧o.gas≤(C+2844)*(sum*o.air)∧(sf m i=false→nt P i<1000000→o.gas≤nt P i*(sum*o.air))
theorem Gpv {m:Tah} {q fl P R:List Int} (hG:GCtx m q fl P R) {C:Int} (hC0:0≤C) (hC:C≤11376) {kn:List Bool} {ow:List Tag} (hk:kn.length=m.Places.length) (ho:ow.length=m.Places.length) (hw:∀ k,k<m.Places.length→bn kn k=true→Shr P C k (ofN ow k)) {i:Nat} (hi:i<m.Places.length) :
  Ok (Fdv m q fl kn ow (i:Int)) fun v=>v.2=true→1≤v.1.air∧v.1.air≤12582912000∧0≤v.1.gas∧v.1.gas≤(C+2844)*v.1.air∧(sf m i=false→nt P i<1000000→v.1.gas≤nt P i*v.1.air):=by
 have hr1:=hG.r1
 have hql:=hG.ql
 have hil:=hG.il
 unfold Fdv
 refine Jt (Q:=fun o=>∀ p,o = .inr p→MxI m P C i m.Roads.length p.1 p.2) (Uo (fun s:Int×Int×Tag=>0≤s.2.1∧s.2.1≤m.Roads.length∧MxI m P C i s.2.1.toNat s.1 s.2.2) (fun s=>(m.Roads.length-s.2.1).toNat) _ (fun s hs=>?_) _ ⟨Int.le_refl _,by dsimp only;omega,Int.le_refl _,by simp,Int.le_refl _,by show (1:Int)≤1048576;decide,Int.le_refl _,by show (0:Int)≤1099511627776;decide,by simp,fun _ _=>by simp⟩) fun o hoo=>?_
 ·obtain ⟨sum,idx',out⟩:=s
  obtain ⟨b1,b2,b3⟩:=hs
  dsimp only at b1 b2 b3
  obtain ⟨j,rfl⟩:∃ j:Nat,idx'=(j:Int):=⟨idx'.toNat,by omega⟩
  rw [Int.toNat_natCast] at b3
  unfold Fdh
  dsimp only
  refine Ud (fun hlt=>?_) (fun hge=>Je fun p hp=>?_)
  ·have hj:j<m.Roads.length:=by omega
   obtain ⟨e1,e2,e3,e4⟩:=hG.e j hj
   have hqb:=hG.qb j
   have hib:=hG.ib j
   have hsl:Ger m q j<m.Places.length:=by unfold Ger;split <;> omega
   rw [Jv,Xg hj,bind_some,Jv,Uv (by omega),bind_some,w64 (n:=(j:Int)+1) (by omega) (by omega),e1,e2,w64 (n:=0-nt q j) (by omega) (by omega)]
   have eo:(bif decide (nt q j<0) then some (0-nt q j,(toN m j:Int),(frN m j:Int)) else some (nt q j,(frN m j:Int),(toN m j:Int)))=some (qaV q j,(Ger m q j:Int),(Glx m q j:Int)):=by
    unfold qaV Ger Glx
    by_cases e:nt q j<0
    ·rw [Sj e,if_pos e,if_pos e,if_pos e,show 0-nt q j = -nt q j by omega]
    ·rw [Kg e,if_neg e,if_neg e,if_neg e]
   rw [eo,bind_some]
   dsimp only
   have hqa:(qaV q j=0↔nt q j=0)∧0≤qaV q j∧qaV q j≤600:=by unfold qaV;split <;> omega
   obtain ⟨m1,m2,m3,m4,m5,m6,m7,m8⟩:=b3
   refine Jt (Q:=fun o:Unit⊕(Int×Tag)=>∀ p,o = .inr p→MxI m P C i (j+1) p.1 p.2) ?_ fun o6 ho6=>?_
   ·rw [Vx rfl,bind_some]
    refine Ud (fun _=>Je fun p hp=>?_) (fun hne=>?_)
    ·injection hp with hp
     subst hp
     exact ⟨m1,by dsimp only;omega,m3,m4,m5,m6,m7,m8⟩
    have hq0:nt q j≠0:=fun e=>hne (.inl (hqa.1.2 e))
    have hdi:Glx m q j=i:=by
     have:(Glx m q j:Int)=(i:Int):=Decidable.not_not.1 fun e=>hne (.inr e)
     omega
    rw [Jv (l:=kn),Gbf (by omega),bind_some,Jv (l:=ow),Ggj (by omega),bind_some,bind_some]
    cases hkn:bn kn (Ger m q j) with
    | false=>exact Je fun p hp=>by cases hp
    | true =>
     rw [Bool.not_true,cond_false,bind_some]
     refine Ud (fun _=>Je fun p hp=>by cases hp) (fun hair=>?_)
     obtain ⟨w1,w2,w3,w4,w5⟩:=hw _ hsl hkn
     generalize ofN ow (Ger m q j)=w at *
     have hwg:=Gbh hC0 hC (show 0≤w.air by omega) (show w.air≤1048576 by omega)
     have c1:=Gbh (A:=1048576) (B:=1048576) (show 0≤out.air by omega) m4 (show 0≤w.air by omega) (by omega)
     have c2:=Gbh (A:=600) (B:=11928600576) hqa.2.1 hqa.2.2 w3 (by omega)
     have c3:=Gbh (A:=2844) (B:=1048576) hib.1 hib.2 (show 0≤w.air by omega) (by omega)
     have c4:=Gbh (A:=7160142495744) (B:=1048576) (a:=qaV q j*w.gas+nt fl j*w.air) (b:=out.air) (by omega) (by omega) (by omega) m4
     have c5:=Gbh (A:=1099511627776) (B:=1048576) (a:=out.gas) (b:=w.air) m5 m6 (by omega) (by omega)
     have c6:1≤out.air*w.air:=by
      have:=Int.mul_le_mul_of_nonneg_right m3 (show 0≤w.air by omega)
      omega
     rw [Jv (l:=fl),Uv (by omega),bind_some,w64 (n:=out.air*w.air) (by omega) (by omega),w64 (n:=out.gas*w.air) (by omega) (by omega),w64 (n:=qaV q j*w.gas) (by omega) (by omega),w64 (n:=nt fl j*w.air) (by omega) (by omega),w64 (n:=qaV q j*w.gas+nt fl j*w.air) (by omega) (by omega),w64 (n:=(qaV q j*w.gas+nt fl j*w.air)*out.air) (by omega) (by omega),w64 (n:=out.gas*w.air+(qaV q j*w.gas+nt fl j*w.air)*out.air) (by omega) (by omega),w64 (n:=sum+qaV q j) (by omega) (by omega),Vx rfl,bind_some]
     refine Ud (fun _=>Je fun p hp=>by cases hp) (fun hbig=>Je fun p hp=>?_)
     injection hp with hp
     subst hp
     refine ⟨by dsimp only;omega,by dsimp only;omega,c6,by dsimp only;omega,by dsimp only;omega,by dsimp only;omega,?_,fun hs hP=>?_⟩
     ·refine Gpu (by omega) (by omega) m7 (Ghw (Pf:=C) (mo:=2844) (by omega) hqa.2.1 w4 ?_ (Int.le_refl _))
      have:1≤qaV q j:=by have:=hqa.1;omega
      have:=Int.mul_le_mul_of_nonneg_left (c:=2844) this (by decide)
      omega
     ·refine Gpu (by omega) (by omega) (m8 hs hP) ?_
      have r1:=hG.rp j hj hq0 (by rw [hdi];exact hs)
      rw [hdi] at r1
      obtain ⟨mo,n1,n2,n3⟩:=hG.ra j hj hq0 (by omega)
      exact Ghw (by omega) hqa.2.1 (w5 (by omega)) n3 (by omega)
   ·cases o6 with
    | inl u=>exact Je fun p hp=>by cases hp
    | inr p =>
     refine Je ⟨⟨by dsimp only;omega,by dsimp only;omega,?_⟩,by dsimp only;omega⟩
     rw [show ((j:Int)+1).toNat=j+1 by omega]
     exact ho6 p rfl
  ·injection hp with hp
   subst hp
   rw [show m.Roads.length=j by omega]
   exact b3
 ·cases o with
  | inl u=>exact Je fun e=>by cases e
  | inr p =>
   obtain ⟨m1,m2,m3,m4,m5,m6,m7,m8⟩:=hoo p rfl
   refine Ud (fun _=>Je fun e=>by cases e) (fun hne=>?_)
   have c1:=Gbh (A:=1048576) (B:=12000) (show 0≤p.2.air by omega) m4 m1 (by omega)
   have c2:1≤p.2.air*p.1:=by
    have:=Int.mul_le_mul_of_nonneg_right m3 m1
    omega
   rw [w64 (by omega) (by omega)]
   refine Je fun _=>⟨c2,by dsimp only;omega,m5,?_,fun hs hP=>?_⟩
   ·dsimp only
    rw [Int.mul_comm p.2.air p.1]
    exact m7
   ·dsimp only
    rw [Int.mul_comm p.2.air p.1]
    exact m8 hs hP
theorem Gsm {f:Taa} {n q:Int} (hn:0≤n) (h0:f.Low≤q) (h1:q≤f.High) (hq:q≠0) (ha:Gf7 f n<1000000):n≤Gf7 f n*(if q<0 then -q else q):=by
 unfold Gf7 at ha ⊢
 by_cases e0:n=0
 ·rw [if_pos e0,e0];simp
 rw [if_neg e0] at ha ⊢
 by_cases e1:Gep f=1
 ·rw [if_pos e1] at ha ⊢
  have hl:0<f.Low:=by unfold Gep at e1;split at e1;cases e1;split at e1;assumption;split at e1 <;> cases e1
  have h2:=(Gpc (v:=upF n f.Low) hn (show 1≤f.Low by omega)).1 (Int.le_refl _)
  have h3:0≤upF n f.Low:=by
   obtain ⟨u1,u2,u3,u4⟩:=Ghm (n:=n) (b:=f.Low) hn (by omega)
   unfold upF
   omega
  rw [if_neg (by omega),show min 1000000 (upF n f.Low)=upF n f.Low by omega]
  have:=Int.mul_le_mul_of_nonneg_left h0 h3
  omega
 rw [if_neg e1] at ha ⊢
 by_cases e2:Gep f = -1
 ·rw [if_pos e2] at ha ⊢
  have hl:f.High<0:=by unfold Gep at e2;split at e2;cases e2;split at e2;cases e2;split at e2;assumption;cases e2
  have h2:=(Gpc (v:=upF n (0-f.High)) hn (show 1≤0-f.High by omega)).1 (Int.le_refl _)
  have h3:0≤upF n (0-f.High):=by
   obtain ⟨u1,u2,u3,u4⟩:=Ghm (n:=n) (b:=0-f.High) hn (by omega)
   unfold upF
   omega
  rw [if_pos (by omega),show min 1000000 (upF n (0-f.High))=upF n (0-f.High) by omega]
  have:=Int.mul_le_mul_of_nonneg_left (show 0-f.High ≤ -q by omega) h3
  omega
 rw [if_neg e2] at ha
 omega

theorem Gky:∀ (n:Nat) (f g:Nat→Int) (i:Nat),i<n→(∀ j,j≠i→f j=g j)→Uz n f=Uz n g+(f i-g i)
 | 0,_,_,_,h,_=>by omega
 | k+1,f,g,i,h,hj=>by
  show Uz k f+f k=Uz k g+g k+(f i-g i)
  by_cases e:i=k
  ·subst e
   rw [Gbe i fun j hj'=>hj j (by omega)]
   omega
  ·rw [Gky k f g i (by omega) hj,hj k (fun h=>e h.symm)]
   omega
def unk (n:Nat) (kn:List Bool):Int:=Uz n fun k=>if bn kn k=true then 0 else 1
theorem Gm7 (n:Nat) (kn:List Bool):0≤unk n kn:=by
 have:=(Zm (f:=fun k=>if bn kn k=true then 0 else 1) (A:=0) (B:=1) n fun k _=>by split <;> omega).1
 unfold unk
 omega
theorem Gre {n:Nat} {kn:List Bool} {i:Nat} (hi:i<n) (hl:kn.length=n) (hb:bn kn i=false):unk n (kn.set i true)=unk n kn-1:=by
 unfold unk
 rw [Gky n _ (fun k=>if bn kn k=true then 0 else 1) i hi (fun j hj=>by rw [Gbg (by omega),if_neg hj]),Gbg (by omega),if_pos rfl,hb,if_pos rfl,if_neg (by decide)]
 omega
theorem Gly {sh:Nat} {kn:List Bool} (h:∀ k,k<sh→bn kn k=true):∀ n,sh≤n→unk n kn≤(n:Int)-sh
 | 0,h0=>by show (0:Int)≤_;omega
 | n+1,h0=>by
  show unk n kn+(if bn kn n=true then 0 else 1)≤_
  by_cases e:sh=n+1
  ·subst e
   have:∀ m,m≤n+1→unk m kn=0:=by
    intro m
    induction m with
    | zero=>intro _;rfl
    | succ m ih =>
     intro hm
     show unk m kn+(if bn kn m=true then 0 else 1)=0
     rw [ih (by omega),h m (by omega),if_pos rfl]
     omega
   rw [this n (by omega),h n (by omega),if_pos rfl]
   omega
  ·have:=Gly h n (by omega)
   split <;> omega
structure KI (m:Tah) (P:List Int) (kn:List Bool) (ow:List Tag):Prop where
 kl:kn.length=m.Places.length
 ol:ow.length=m.Places.length
 sk:∀ k:Nat,k<m.Places.length→sf m k=true→bn kn k=true
 u:unk m.Places.length kn≤4
 w:∀ k,k<m.Places.length→bn kn k=true→Shr P (2844*(4-unk m.Places.length kn)) k (ofN ow k)
theorem Gtd {m:Tah} {q fl P R:List Int} {x3:Tab×Taj×Taf×Tan} {o16:List Int×List Tal} {o36:Bool×List Int×List Int} (e1:x3.2.1.Mine=m) (e2:x3.2.2.2.Flows=q) (e3:o16.1=fl) (e4:o36.2.1=P) (hG:GCtx m q fl P R) (hn:m.Places.length≤6) {kn:List Bool} {ow:List Tag} (hK:KI m P kn ow) :
  Ok (Sb (Fb2 x3 o16 o36) (0,kn,ow)) fun o=>∃ p,o = .inr p∧KI m P p.1 p.2:=by
 refine Uo (fun s:Int×List Bool×List Tag=>0≤s.1∧s.1≤m.Places.length∧KI m P s.2.1 s.2.2) (fun s=>(m.Places.length-s.1).toNat) _ (fun s hs=>?_) _ ⟨Int.le_refl _,by dsimp only;omega,hK⟩
 obtain ⟨i',kn,ow⟩:=s
 obtain ⟨b1,b2,b3⟩:=hs
 dsimp only at b1 b2 b3
 obtain ⟨i,rfl⟩:∃ i:Nat,i'=(i:Int):=⟨i'.toNat,by omega⟩
 have b3':=b3
 obtain ⟨k1,k2,k3,k4,k5⟩:=b3'
 have hu:=Gm7 m.Places.length kn
 have hpl:=hG.pl
 unfold Fb2
 dsimp only
 rw [e1,e2,e3,e4]
 refine Ud (fun hlt=>?_) (fun hge=>Je ⟨_,rfl,b3⟩)
 have hi:i<m.Places.length:=by omega
 refine Jt (Q:=fun o=>∃ p:List Bool×List Tag,o = .inr p∧KI m P p.1 p.2) ?_ fun o ho=>?_
 ·refine Jt (Gpv hG (C:=2844*(4-unk m.Places.length kn)) (by omega) (by omega) k1 k2 k5 hi) fun v hv=>?_
  rw [Jv (l:=kn),Gbf (by omega),bind_some]
  cases hb:bn kn i with
  | true=>exact Je ⟨_,rfl,b3⟩
  | false =>
   rw [cond_false,bind_some]
   obtain ⟨w,ok⟩:=v
   cases ok with
   | false=>exact Je ⟨_,rfl,b3⟩
   | true =>
    obtain ⟨v1,v2,v3,v4,v5⟩:=hv rfl
    dsimp only at v1 v2 v3 v4 v5
    have hsf:sf m i=false:=by
     cases e:sf m i with
     | false=>rfl
     | true=>rw [k3 i hi e] at hb;cases hb
    have hP:=hG.pb i
    have c1:=Gbh (A:=1000000) (B:=12582912000) hP.1 hP.2 (show 0≤w.air by omega) v2
    rw [Bool.not_true,cond_false,bind_some,Jv (l:=ow),Ggj (by omega),bind_some,Jv (l:=P),Uv (by omega),bind_some,bind_some,w64 (n:=nt P i*w.air) (by omega) (by omega),Ge6 rfl,bind_some]
    refine Ud (fun hbad=>?_) (fun _=>Je ⟨_,rfl,?_⟩)
    ·dsimp only at hbad
     have:=v5 hsf hbad.2
     omega
    ·dsimp only
     rw [Int.toNat_natCast]
     have eu:=Gre hi k1 hb
     have hu':=Gm7 m.Places.length (kn.set i true)
     refine ⟨by simp [k1],by simp [k2],fun k hk hs=>?_,by omega,fun k hk hkb=>?_⟩
     ·rw [Gbg (by omega)]
      split
      ·rfl
      ·exact k3 k hk hs
     ·rw [eu,Gji (by omega)]
      rw [Gbg (by omega)] at hkb
      by_cases e:k=i
      ·subst e
       rw [if_pos rfl]
       refine ⟨v1,v2,v3,?_,fun h=>v5 hsf h⟩
       rw [show 2844*(4-(unk m.Places.length kn-1))=2844*(4-unk m.Places.length kn)+2844 by omega]
       exact v4
      ·rw [if_neg e]
       rw [if_neg e] at hkb
       obtain ⟨g1,g2,g3,g4,g5⟩:=k5 k hk hkb
       refine ⟨g1,g2,g3,?_,g5⟩
       have:=Int.mul_le_mul_of_nonneg_right (show 2844*(4-unk m.Places.length kn)≤2844*(4-(unk m.Places.length kn-1)) by omega) (show 0≤(ofN ow k).air by omega)
       omega
 ·obtain ⟨p,rfl,hp⟩:=ho
  dsimp only [Sum.elim_inr]
  rw [w64 (n:=(i:Int)+1) (by omega) (by omega)]
  exact Je ⟨⟨by dsimp only;omega,by dsimp only;omega,hp⟩,by dsimp only;omega⟩
theorem Gte {m:Tah} {q fl P R:List Int} {x3:Tab×Taj×Taf×Tan} {o16:List Int×List Tal} {o36:Bool×List Int×List Int} {p:List Bool×List Tag} (e1:x3.2.1.Mine=m) (e2:x3.2.2.2.Flows=q) (e3:o16.1=fl) (e4:o36.2.2=R) (hG:GCtx m q fl P R) (hK:KI m P p.1 p.2) :
  Sb (Fa4 x3 o16 o36 p) 0=some (.inr ()):=by
 have hr1:=hG.r1
 refine Xl 0 m.Roads.length (Nat.zero_le _) (fun j _ hj=>?_) (by unfold Fa4;rw [e1,Kg (by omega)])
 obtain ⟨k1,k2,k3,k4,k5⟩:=hK
 have hu:=Gm7 m.Places.length p.1
 have hql:=hG.ql
 have hil:=hG.il
 have hrl:=hG.rl
 obtain ⟨g1,g2,g3,g4⟩:=hG.e j hj
 have hqb:=hG.qb j
 have hib:=hG.ib j
 have hrb:=hG.rb j
 have hsl:Ger m q j<m.Places.length:=by unfold Ger;split <;> omega
 have hqa:(qaV q j=0↔nt q j=0)∧0≤qaV q j∧qaV q j≤600:=by unfold qaV;split <;> omega
 unfold Fa4
 rw [e1,e2,e3,e4,Sj (by omega),Jv,Xg hj,bind_some,Jv,Uv (by omega),bind_some,w64 (n:=(j:Int)+1) (by omega) (by omega),g1,g2,w64 (n:=0-nt q j) (by omega) (by omega)]
 have eo:(bif decide (nt q j<0) then some (0-nt q j,(toN m j:Int)) else some (nt q j,(frN m j:Int)))=some (qaV q j,(Ger m q j:Int)):=by
  unfold qaV Ger
  by_cases e:nt q j<0
  ·rw [Sj e,if_pos e,if_pos e,show 0-nt q j = -nt q j by omega]
  ·rw [Kg e,if_neg e,if_neg e]
 rw [eo,bind_some]
 dsimp only
 by_cases hq0:nt q j=0
 ·rw [Sj (hqa.1.2 hq0)]
  rfl
 rw [Kg (fun e=>hq0 (hqa.1.1 e)),Jv (l:=p.1),Gbf (by omega),bind_some]
 cases hkn:bn p.1 (Ger m q j) with
 | false=>rfl
 | true =>
  rw [Bool.not_true,cond_false,Jv (l:=p.2),Ggj (by omega),bind_some,bind_some]
  obtain ⟨w1,w2,w3,w4,w5⟩:=k5 _ hsl hkn
  generalize ofN p.2 (Ger m q j)=w at *
  have c0:=Gbh (a:=2844*(4-unk m.Places.length p.1)) (b:=w.air) (A:=11376) (B:=12582912000) (by omega) (by omega) (by omega) w2
  have c1:=Gbh (a:=w.gas) (b:=qaV q j) (A:=143143206912000) (B:=600) w3 (by omega) hqa.2.1 hqa.2.2
  have c2:=Gbh (a:=nt fl j) (b:=w.air) (A:=2844) (B:=12582912000) hib.1 hib.2 (by omega) w2
  have c3:=Gbh (a:=nt R j) (b:=w.air) (A:=1000000) (B:=12582912000) hrb.1 hrb.2 (by omega) w2
  have c4:=Gbh (a:=nt R j*w.air) (b:=qaV q j) (A:=12582912000000000) (B:=600) c3.1 (by omega) hqa.2.1 hqa.2.2
  rw [Kg (show ¬ (1099511627776:Int)<w.air by omega),Jv (l:=fl),Uv (by omega),bind_some,Jv (l:=R),Uv (by omega),bind_some,bind_some,w64 (n:=nt R j*w.air) (by omega) (by omega),w64 (n:=nt R j*w.air*qaV q j) (by omega) (by omega),w64 (n:=w.gas*qaV q j) (by omega) (by omega),w64 (n:=nt fl j*w.air) (by omega) (by omega),w64 (n:=w.gas*qaV q j+nt fl j*w.air) (by omega) (by omega)]
  by_cases hR:nt R j<1000000
  ·obtain ⟨mo,n1,n2,n3⟩:=hG.ra j hj hq0 hR
   have:=Ghw (show 0≤w.air by omega) hqa.2.1 (w5 (by omega)) n3 n2
   have e:nt R j*w.air*qaV q j=nt R j*(qaV q j*w.air):=by rw [Int.mul_assoc,Int.mul_comm w.air]
   have e':w.gas*qaV q j=qaV q j*w.gas:=Int.mul_comm _ _
   rw [Kg (show ¬ nt R j*w.air*qaV q j<w.gas*qaV q j+nt fl j*w.air by omega)]
   rfl
  ·rw [bind_some,Kg hR]
   cases decide (nt R j*w.air*qaV q j<w.gas*qaV q j+nt fl j*w.air) <;> rfl
theorem Gpw (l:List Tal) (z:Tal) (i:Int):inF (l++[z]) i=inS i (inF l i) z:=by
 unfold inF
 rw [List.foldl_append]
 rfl
theorem Gjj (p0:List Int) (w0:InL (In .u8) p0):Fd9 p0=some true:=by
 refine Ok.val ?_
 unfold Fd9
 refine Jt (Gr6 p0 (Gqp w0)) fun x1 h1=>?_
 refine Jt (Gpt x1 h1) fun x3 h3=>?_
 obtain ⟨dc,dh,dk,da,df,db,dn,sh,ds1,ds2,ds3⟩:=h3
 have hm:=dh.m
 have hr1:=hm.r1
 rw [Gq8 dh dk df,bind_some,Kg (by omega)]
 refine Jt (Glv dh dk da df) fun x8 h8=>?_
 obtain ⟨a1,a2,a3⟩:=h8
 rw [a1,Kg (by omega),Ze (by omega) (by omega),bind_some,Int.toNat_natCast]
 refine Jt (Wq x3.1 4 dc (by decide)) fun x13 h13=>?_
 refine Jt (Q:=fun o:List Int×List Tal=>o.1.length=x3.2.1.Mine.Roads.length∧o.2.length≤3∧(∀ i:Nat,0≤nt o.1 i∧nt o.1 i≤inF o.2 i∧nt o.1 i≤2844)∧∀ z ∈ o.2,Gay x3.2.1.Mine.Roads.length z=0) (Uo (fun s:Int×List Int×List Tal×Tab=>0≤s.1∧(s.2.2.1.length:Int)+s.1≤3∧s.2.1.length=x3.2.1.Mine.Roads.length∧Ul s.2.2.2∧(∀ i:Nat,0≤nt s.2.1 i∧nt s.2.1 i≤inF s.2.2.1 i∧nt s.2.1 i≤948*(s.2.2.1.length:Int))∧∀ z ∈ s.2.2.1,Gay x3.2.1.Mine.Roads.length z=0) (fun s=>s.1.toNat) _ (fun s hs=>?_) _ ⟨h13.2.1,by simp;omega,by simp,h13.1,fun i=>by dsimp only;rw [Gbd];exact ⟨Int.le_refl _,Int.le_refl _,by simp⟩,fun z hz=>by cases hz⟩) fun o16 h16=>?_
 ·obtain ⟨n,fl,y,c⟩:=s
  obtain ⟨b1,b2,b3,b4,b5,b6⟩:=hs
  dsimp only at b1 b2 b3 b4 b5 b6
  unfold Fcv
  dsimp only
  rw [Ge6 rfl,bind_some]
  refine Ud (fun hk=>?_) (fun hk=>Je ⟨b3,by dsimp only;omega,fun i=>by have:=b5 i;dsimp only;omega,b6⟩)
  refine Jt (Wq c _ b4 (by omega)) fun x20 h20=>?_
  refine Jt (Wq x20.1 900 h20.1 (by decide)) fun x22 h22=>?_
  refine Jt (Wq x22.1 50 h22.1 (by decide)) fun x24 h24=>?_
  obtain ⟨r,hr⟩:∃ r:Nat,x20.2=(r:Int):=⟨x20.2.toNat,by omega⟩
  have hrl:r<fl.length:=by omega
  have hbr:=b5 r
  rw [hr,Jv,Uv hrl,bind_some,w64 (n:=x22.2+x24.2) (by omega) (by omega),w64 (n:=x22.2+x24.2-x22.2) (by omega) (by omega),w64 (n:=x22.2+x24.2-x22.2+1) (by omega) (by omega)]
  refine Jt (Wq x24.1 _ h24.1 (by omega)) fun x28 h28=>?_
  rw [bind_some,Wj (by simp;omega),bind_some,Int.toNat_natCast,w64 (n:=n-1) (by omega) (by omega),w64 (n:=x22.2+x28.2) (by omega) (by omega),w64 (n:=nt fl r+(x22.2+x28.2)) (by omega) (by omega)]
  refine Je ⟨⟨by dsimp only;omega,by simp;omega,by simp [b3],h28.1,fun i=>?_,fun z hz=>?_⟩,by dsimp only;omega⟩
  ·have hbi:=b5 i
   have hlen:((y++[Tal.mk (r:Int) (Taa.mk x22.2 (x22.2+x24.2))]).length:Int)=(y.length:Int)+1:=by simp
   dsimp only
   rw [Gaz hrl,Gpw,hlen]
   unfold inS
   dsimp only
   by_cases e:i=r
   ·subst e
    rw [if_pos rfl,if_pos rfl]
    omega
   ·rw [if_neg e,if_neg (by omega)]
    omega
  ·rcases Gbl hz with h | h
   ·exact b6 z h
   ·subst h
    unfold Gay
    have e:Gcn ⟨x22.2,x22.2+x24.2⟩ 0 1099511627776=true:=decide_eq_true ⟨by dsimp only;omega,by dsimp only;omega,by dsimp only;omega⟩
    rw [if_neg (by dsimp only;omega)]
    dsimp only
    rw [e,if_neg (by decide)]
 obtain ⟨c1,c2,c3,c4⟩:=h16
 have cS:Gfs x3.2.1.Mine o16.2=0:=by
  rw [Gqz dk (by omega)]
  exact Geq c4
 refine Jt (Gqy hm cS a2 (fun s hs=>?_)) fun x34 h34=>?_
 ·obtain ⟨i,hi,rfl⟩:=List.getElem_of_mem hs
  have h':=a3 i (by omega)
  have h'':=db i
  have e:sp0 x8.1 i=x8.1[i]:=by unfold sp0;rw [List.getElem?_eq_getElem hi];rfl
  rw [e] at h'
  omega
 obtain ⟨z1,L⟩:=h34
 have lp:=L.iv.lp
 have lr:=L.iv.lr
 rw [z1,Kg (by omega),Kg (by omega),bind_some]
 dsimp only
 rw [decide_eq_false (by omega),cond_false,Ze (by omega) (by omega),bind_some,Int.toNat_natCast,Ze (by omega) (by omega),bind_some]
 have hG:GCtx x3.2.1.Mine x3.2.2.2.Flows o16.1 x34.1 x34.2.1:=by
  refine ⟨hr1,df.ql,c1,lp,lr,fun j hj=>?_,db,fun j=>?_,L.iv.bp,L.iv.br,fun j hj hq0 hR=>?_,fun j hj hq0 hs=>?_⟩
  ·obtain ⟨e1,e2,e3,e4,_⟩:=Gag dh hj
   exact ⟨e1,e2,e3,e4⟩
  ·have:=c3 j;omega
  ·have hsp:=a3 j hj
   have hcl:(rd0 x3.2.1.Mine j).Closed=false:=by
    cases e:(rd0 x3.2.1.Mine j).Closed with
    | false=>rfl
    | true=>exact absurd (df.qc j hj e) hq0
   have hin:=c3 j
   refine ⟨Gf7 (sp0 x8.1 j) (inF o16.2 j),(Gmr (by omega)).1,?_,?_⟩
   ·by_cases e:nt x3.2.2.2.Flows j<0
    ·have hc:can x3.2.1.Mine x8.1 j true=true:=by unfold can;rw [hcl,cond_false,cond_true];exact decide_eq_true (by omega)
     have:=L.sol.wy j true hj hc
     unfold Ger
     rw [if_pos e]
     have ea:(Zw x3.2.1.Mine j true).from_.toNat=toN x3.2.1.Mine j:=rfl
     rw [ea] at this
     omega
    ·have hc:can x3.2.1.Mine x8.1 j false=true:=by unfold can;rw [hcl,cond_false,cond_false];exact decide_eq_true (by omega)
     have:=L.sol.wy j false hj hc
     unfold Ger
     rw [if_neg e]
     have ea:(Zw x3.2.1.Mine j false).from_.toNat=frN x3.2.1.Mine j:=rfl
     rw [ea] at this
     omega
   ·have hmo:Gf7 (sp0 x8.1 j) (inF o16.2 j)<1000000:=by
     by_cases e:nt x3.2.2.2.Flows j<0
     ·have hc:can x3.2.1.Mine x8.1 j true=true:=by unfold can;rw [hcl,cond_false,cond_true];exact decide_eq_true (by omega)
      have:=L.sol.wy j true hj hc
      have:=L.iv.bp (Zw x3.2.1.Mine j true).from_.toNat
      omega
     ·have hc:can x3.2.1.Mine x8.1 j false=true:=by unfold can;rw [hcl,cond_false,cond_false];exact decide_eq_true (by omega)
      have:=L.sol.wy j false hj hc
      have:=L.iv.bp (Zw x3.2.1.Mine j false).from_.toNat
      omega
    have:=Gsm (n:=inF o16.2 j) (by omega) hsp.1 hsp.2.1 hq0 hmo
    unfold qaV
    omega
  ·have hsp:=a3 j hj
   have hcl:(rd0 x3.2.1.Mine j).Closed=false:=by
    cases e:(rd0 x3.2.1.Mine j).Closed with
    | false=>rfl
    | true=>exact absurd (df.qc j hj e) hq0
   obtain ⟨e1,e2,e3,e4,_⟩:=Gag dh hj
   unfold Glx at hs ⊢
   by_cases e:nt x3.2.2.2.Flows j<0
   ·rw [if_pos e] at hs ⊢
    have hc:can x3.2.1.Mine x8.1 j true=true:=by unfold can;rw [hcl,cond_false,cond_true];exact decide_eq_true (by omega)
    have ea:(Zw x3.2.1.Mine j true).to_=(frN x3.2.1.Mine j:Int):=e1
    have:=L.sol.up j true hj hc (by rw [ea];exact hs)
    rw [ea,Int.toNat_natCast] at this
    exact this
   ·rw [if_neg e] at hs ⊢
    have hc:can x3.2.1.Mine x8.1 j false=true:=by unfold can;rw [hcl,cond_false,cond_false];exact decide_eq_true (by omega)
    have ea:(Zw x3.2.1.Mine j false).to_=(toN x3.2.1.Mine j:Int):=e2
    have:=L.sol.up j false hj hc (by rw [ea];exact hs)
    rw [ea,Int.toNat_natCast] at this
    exact this
 refine Jt (Q:=fun o:List Bool×List Tag=>KI x3.2.1.Mine x34.1 o.1 o.2) (Uo (fun s:Int×List Bool×List Tag=>0≤s.1∧s.1≤x3.2.1.Mine.Places.length∧s.2.1.length=x3.2.1.Mine.Places.length∧s.2.2.length=x3.2.1.Mine.Places.length∧(∀ k,(ofN s.2.2 k).gas=0)∧∀ k:Nat,(k:Int)<s.1→bn s.2.1 k=sf x3.2.1.Mine k∧ofN s.2.2 k=⟨0,1⟩) (fun s=>(x3.2.1.Mine.Places.length-s.1).toNat) _ (fun s hs=>?_) _ ⟨Int.le_refl _,by dsimp only;omega,by simp,by simp,fun k=>?_,fun k hk=>by dsimp only at hk;omega⟩) fun o45 h45=>?_
 ·obtain ⟨i',kn,ow⟩:=s
  obtain ⟨b1,b2,b3,b4,b5,b6⟩:=hs
  dsimp only at b1 b2 b3 b4 b5 b6
  obtain ⟨i,rfl⟩:∃ i:Nat,i'=(i:Int):=⟨i'.toNat,by omega⟩
  unfold Fcw
  dsimp only
  rw [List.length_replicate]
  refine Ud (fun hlt=>?_) (fun hge=>Je ⟨b3,b4,fun k hk hs=>by dsimp only;rw [(b6 k (by omega)).1];exact hs,?_,fun k hk hkb=>?_⟩)
  ·obtain ⟨p,hp1,hp2⟩:=Gft (m:=x3.2.1.Mine) (k:=i) (by omega)
   have hg0:=b5 i
   rw [Jv,hp1,bind_some,Jv,Gbf (by omega),bind_some,Jv,Ggj (by omega),bind_some,Int.toNat_natCast,w64 (n:=(i:Int)+1) (by omega) (by omega),hp2,hg0]
   refine Je ⟨⟨by dsimp only;omega,by dsimp only;omega,by simp [b3],by simp [b4],fun k=>?_,fun k hk=>?_⟩,by dsimp only;omega⟩
   ·dsimp only
    rw [Gji (by omega)]
    split
    ·rfl
    ·exact b5 k
   ·dsimp only at hk ⊢
    rw [Gji (by omega),Gbg (by omega)]
    by_cases e:k=i
    ·subst e;rw [if_pos rfl,if_pos rfl];exact ⟨rfl,rfl⟩
    ·rw [if_neg e,if_neg e];exact b6 k (by omega)
  ·have:=Gly (sh:=sh) (kn:=kn) (fun k hk=>by rw [(b6 k (by omega)).1];exact ds3 k hk) x3.2.1.Mine.Places.length ds1
   dsimp only
   omega
  ·dsimp only at hkb ⊢
   rw [(b6 k (by omega)).2]
   have hP:=L.iv.bp k
   have hu:=Gm7 x3.2.1.Mine.Places.length kn
   have:=Gly (sh:=sh) (kn:=kn) (fun k hk=>by rw [(b6 k (by omega)).1];exact ds3 k hk) x3.2.1.Mine.Places.length ds1
   exact ⟨Int.le_refl _,by show (1:Int)≤12582912000;decide,Int.le_refl _,by dsimp only;omega,fun _=>by dsimp only;omega⟩
 ·dsimp only
  unfold ofN
  rw [List.getElem?_replicate]
  split <;> rfl
 refine Jt (Q:=fun o=>∃ p,o = .inr p∧KI x3.2.1.Mine x34.1 p.1 p.2) (Uo (fun s:Int×List Bool×List Tag=>0≤s.1∧s.1≤x3.2.1.Mine.Places.length∧KI x3.2.1.Mine x34.1 s.2.1 s.2.2) (fun s=>(x3.2.1.Mine.Places.length-s.1).toNat) _ (fun s hs=>?_) _ ⟨Int.le_refl _,by dsimp only;omega,h45⟩) fun o54 h54=>?_
 ·obtain ⟨i,kn,ow⟩:=s
  obtain ⟨b1,b2,b3⟩:=hs
  dsimp only at b1 b2 b3
  unfold Fcx
  dsimp only
  refine Ud (fun hlt=>?_) (fun hge=>Je ⟨_,rfl,b3⟩)
  refine Jt (Gtd rfl rfl rfl rfl hG dn b3) fun o ho=>?_
  obtain ⟨p,rfl,hp⟩:=ho
  dsimp only [Sum.elim_inr]
  rw [w64 (n:=i+1) (by omega) (by omega)]
  exact Je ⟨⟨by dsimp only;omega,by dsimp only;omega,hp⟩,by dsimp only;omega⟩
 obtain ⟨p,rfl,hp⟩:=h54
 dsimp only [Sum.elim_inr]
 rw [Gte rfl rfl rfl rfl hG hp,bind_some]
 dsimp only [Sum.elim_inr]
 exact Glp (Je rfl)
end Go.L
