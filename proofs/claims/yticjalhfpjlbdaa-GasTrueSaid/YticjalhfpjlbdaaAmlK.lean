/- The abstract memory logic, part K: functions; what may be said anew of a state: less, or by value. -/
import Derived.Test.YticjalhfpjlbdaaAmlJ
namespace Go.Aml
open Go

def Jn (E:Env) (low loc:List AObj) (E':Env) (low' loc':List AObj):Prop :=
 low'.length=low.length∧∀ g nt a w,Rel g nt low.length E (low++loc) a w→∃ g',Rel g' nt low.length E' (low'++loc') a w∧GStep low.length g (low++loc) w g' (low'++loc') w

section
variable {P:Program} {nt:Nat} {Q:Xt} {E E':Env} {low loc low' loc':List AObj} {all:Array Oper} {rest:List Oper}

theorem Kh {c:Code} (hw:Jn E low loc E' low' loc') (h:VWp P nt c Q E' low' loc'):VWp P nt c Q E low loc:=by
 intro g a w hr Qr hQ
 obtain ⟨g',hr',hs⟩:=hw.2 g nt a w hr
 exact h g' a w (hr'.len hw.1) Qr fun e a' w' hl=>hQ e a' w' (Lift.trans hs (hw.1 ▸ hl))
theorem Zt (hw:Jn E low loc E' low' loc') (h:Ga1 P nt all rest Q E' low' loc'):Ga1 P nt all rest Q E low loc:=by
 intro g a w hr Qr hQ
 obtain ⟨g',hr',hs⟩:=hw.2 g nt a w hr
 exact h g' a w (hr'.len hw.1) Qr fun e a' w' hl=>hQ e a' w' (Lift.trans hs (hw.1 ▸ hl))

theorem Gm (hs:Gnb E' E):Jn E low loc E' low loc:=⟨rfl,fun g _ _ _ hr=>⟨g,⟨hr.m,hr.e.sub hs⟩,GStep.refl _ _ _ _⟩⟩

def LtE (n:Nat):Env→Prop
 | []=>True
 | (_,v)::r=>LtN n v∧LtE n r
theorem LtE.look {n:Nat} {E:Env} (h:LtE n E) (t:Nat):LtN n (look E t):=by
 induction E with
 | nil=>exact .any
 | cons p r ih =>
  obtain ⟨d,v⟩:=p
  by_cases hd:d=t
  ·subst hd;rw [Wt];exact h.1
  ·rw [Xm v r hd];exact ih h.2

theorem RelM.trunc {g:Gh} {n m:Nat} {H:List AObj} {w:World} (h:RelM g n H w) (hn:n≤m) (hm:m≤H.length) (hl:∀ (r:Nat) (o:AObj),r<m→H[r]?=some o→Ga6 m o) :
  ∃ g',GStep m g H w g' (H.take m) w∧RelM g' n (H.take m) w:=by
 let g':Gh:=⟨g.F,fun r=>if r<m then g.β r else none⟩
 have hb:∀ r,r<m→g'.β r=g.β r:=fun r hr=>by simp [g',hr]
 have hget:∀ (r:Nat) (o:AObj),r<m→H[r]?=some o→(H.take m)[r]?=some o:=fun r o hr ho=>by rw [List.getElem?_take_of_lt hr];exact ho
 have hget':∀ (r:Nat) (o:AObj),(H.take m)[r]?=some o→r<m∧H[r]?=some o:=fun r o ho=>by
  rw [List.getElem?_take] at ho
  split at ho
  ·exact ⟨by assumption,ho⟩
  ·cases ho
 have hs:GStep m g H w g' (H.take m) w:=⟨rfl,rfl,rfl,Nat.le_refl _,fun _ h=>h,fun _ _=>rfl,fun r o hr ho=>⟨o,hget r o hr ho,Nat.le_refl _,fun _=>⟨rfl,rfl,hb r hr⟩⟩⟩
 refine ⟨g',hs,h.fb,fun r r' b C C' h1 h2=>?_,fun r b C h1=>?_,fun r o ho=>?_,by simp;omega,fun r o hr ho=>?_⟩
 ·simp only [g'] at h1 h2
  split at h1
  ·split at h2
   ·exact h.inj _ _ _ _ _ h1 h2
   ·cases h2
  ·cases h1
 ·simp only [g'] at h1
  split at h1
  ·simp;omega
  ·cases h1
 ·obtain ⟨hr,ho⟩:=hget' r o ho
  obtain ⟨a1,a2,a3⟩:=h.obj r o ho
  refine ⟨a1,a2,?_⟩
  rw [hb r hr]
  cases hbb:g.β r with
  | none=>rw [hbb] at a3;exact a3
  | some bc =>
   obtain ⟨b,C⟩:=bc
   rw [hbb] at a3
   obtain ⟨q1,cells',q2,q3,q4,q5,q6⟩:=a3
   refine ⟨q1,cells',q2,q3,q4,q5,fun i j c hcc=>?_⟩
   obtain ⟨u,h1,h2,h3⟩:=q6 i j c hcc
   refine ⟨u,h1,h2,h3.step hs ?_⟩
   obtain ⟨e,he,_⟩:=Yq hcc
   have hcj:e.cells[j]?=some c:=by
    unfold cellOf at hcc
    rw [he] at hcc
    exact hcc
   exact Gba (hl r o hr ho e (List.mem_of_getElem? he)) hcj
 ·obtain ⟨_,ho⟩:=hget' r o ho
  exact h.lt r o hr ho

def Gcy (m:Nat):List AObj→Prop
 | []=>True
 | o::r=>Ga6 m o∧Gcy m r
theorem Gcy.get {m:Nat} {l:List AObj} (h:Gcy m l) (r:Nat) (o:AObj) (ho:l[r]?=some o):Ga6 m o:=by
 induction l generalizing r with
 | nil=>simp at ho
 | cons a l ih =>
  match r,ho with
  | 0,ho=>simp at ho;subst ho;exact h.1
  | r+1,ho=>exact ih h.2 r (by simpa using ho)

/-! ### a changeable object becomes an unchangeable one -/

inductive Cv (r:Nat) (o:AObj):PV→PV→Prop
 | refl (c:PV):Cv r o c c
 | sl (off len:Nat) (es:List PV) (he:(o.es.drop off).take len=es):Cv r o (.sl r o.ver off len) (.vs o.sz es)
 | agg (cs ds:List PV) (hl:cs.length=ds.length) (h:∀ (i:Nat) (c e:PV),cs[i]?=some c→ds[i]?=some e→Cv r o c e):Cv r o (.agg cs) (.agg ds)
 | tup (cs ds:List PV) (hl:cs.length=ds.length) (h:∀ (i:Nat) (c e:PV),cs[i]?=some c→ds[i]?=some e→Cv r o c e):Cv r o (.tup cs) (.tup ds)
 | nil (sz:Nat):Cv r o .nils (.vs sz [])
 | z0 (sz:Nat):Cv r o .z0 (.vs sz [])
 | any (c:PV):Cv r o c .any

def CvE (r:Nat) (o:AObj) (E:Env):Env→Prop
 | []=>True
 | (t,v)::s=>Cv r o (look E t) v∧CvE r o E s
theorem CvE.look {r:Nat} {o:AObj} {E E':Env} (h:CvE r o E E') (t:Nat):look E' t = .any∨Cv r o (look E t) (look E' t):=by
 induction E' with
 | nil=>exact .inl rfl
 | cons p s ih =>
  obtain ⟨d,v⟩:=p
  by_cases hd:d=t
  ·subst hd;rw [Wt];exact .inr h.1
  ·rw [Xm v s hd];exact ih h.2

inductive CvO (r:Nat) (o:AObj):AObj→AObj→Prop
 | refl (a:AObj):CvO r o a a
 | agg (ty sz v:Nat) (cs ds:List PV) (h:Cv r o (.agg cs) (.agg ds)) (hl:cs.length=ds.length):CvO r o ⟨ty,sz,[.agg cs],v⟩ ⟨ty,sz,[.agg ds],v⟩
 | one (ty sz v:Nat) (c e:PV) (h:Cv r o c e) (hc:c.cells=[c]) (he:e.cells=[e]):CvO r o ⟨ty,sz,[c],v⟩ ⟨ty,sz,[e],v⟩

def Giy (r:Nat) (o:AObj):List AObj→List AObj→Prop
 | [],[]=>True
 | a::l,b::m=>CvO r o a b∧Giy r o l m
 | _,_=>False
theorem Giy.get {r:Nat} {o:AObj} {l m:List AObj} (h:Giy r o l m):l.length=m.length∧∀ (i:Nat) (a b:AObj),l[i]?=some a→m[i]?=some b→CvO r o a b:=by
 induction l generalizing m with
 | nil=>cases m with
  | nil=>exact ⟨rfl,by simp⟩
  | cons=>exact h.elim
 | cons c cs ih=>cases m with
  | nil=>exact h.elim
  | cons e es =>
   obtain ⟨h1,h2⟩:=ih h.2
   refine ⟨by simp [h1],fun i a b ha hb=>?_⟩
   match i,ha,hb with
   | 0,ha,hb=>simp at ha hb;subst ha;subst hb;exact h.1
   | i+1,ha,hb=>exact h2 i a b (by simpa using ha) (by simpa using hb)
theorem Giy.refl (r:Nat) (o:AObj):∀ l:List AObj,Giy r o l l
 | []=>trivial
 | a::l=>⟨.refl a,Giy.refl r o l⟩

theorem Cv.real {g:Gh} {n:Nat} {w:World} {r k:Nat} {o:AObj} {c e:PV} {zv:Value} {g':Gh} {H':List AObj} (hm:RelM g n (low++loc) w) (hr:r=low.length+k) (ho:loc[k]?=some o) (hp:∀ e,e ∈ o.es→LtN 0 e)
  (hF:∀ b,g.F b→g'.F b) (hb:∀ b C,g.β r=some (b,C)→g'.F b) (hst:GStep (low++loc).length g (low++loc) w g' H' w) (hcv:Cv r o c e) (h:VR g (low++loc) w c zv):VR g' H' w e zv:=by
 induction hcv generalizing zv with
 | refl c=>exact h.step' hst
 | sl off len es he =>
  subst hr
  exact .imm (he ▸ Giz hm h (Ggt ho) rfl hp hF hb)
 | agg cs ds hl hh ih =>
  obtain ⟨xs,rfl,hlx,hvv⟩:=h.agg_inv
  refine .agg ds xs (by omega) fun i c x hc hx=>?_
  have hi:i<cs.length:=by
   have:=(List.getElem?_eq_some_iff.1 hc).1
   omega
  exact ih i _ c (List.getElem?_eq_getElem hi) hc (hvv i _ x (List.getElem?_eq_getElem hi) hx)
 | tup cs ds hl hh ih =>
  obtain ⟨xs,rfl,hlx,hvv⟩:=h.tup_inv
  refine .tup ds xs (by omega) fun i c x hc hx=>?_
  have hi:i<cs.length:=by
   have:=(List.getElem?_eq_some_iff.1 hc).1
   omega
  exact ih i _ c (List.getElem?_eq_getElem hi) hc (hvv i _ x (List.getElem?_eq_getElem hi) hx)
 | nil sz =>
  rw [h.nils_inv]
  exact .imm (.vs0 sz none 0)
 | z0 sz =>
  obtain ⟨a,rfl⟩:=h.z0_inv
  exact .imm (.vs0 sz a 0)
 | any c=>exact .any _

theorem Gjt (k:Nat) {o:AObj} {loc1:List AObj} (ho:loc[k]?=some o) (hp:∀ e,e ∈ o.es→LtN 0 e) (hE:CvE (low.length+k) o E E') (hO:Giy (low.length+k) o (loc.set k ⟨o.ty,o.sz,[],o.ver+1⟩) loc1) :
  Jn E low loc E' low loc1:=by
 refine ⟨rfl,fun g nt a w hr=>?_⟩
 have hkl:k<loc.length:=(List.getElem?_eq_some_iff.1 ho).1
 have hoH:(low++loc)[low.length+k]?=some o:=Ggt ho
 obtain ⟨hlen,hcv⟩:=hO.get
 simp only [List.length_set] at hlen
 let g':Gh:=⟨fun b=>g.F b∨∃ C,g.β (low.length+k)=some (b,C),fun r=>if r=low.length+k then none else g.β r⟩
 have hb':∀ r,r≠low.length+k→g'.β r=g.β r:=fun r h=>by simp [g',h]
 have hget:∀ (r:Nat) (a:AObj),(low++loc)[r]?=some a→r≠low.length+k→∃ b,(low++loc1)[r]?=some b∧CvO (low.length+k) o a b:=fun r a ha hne=>by
  by_cases h:r<low.length
  ·rw [List.getElem?_append_left h] at ha
   exact ⟨a,by rw [List.getElem?_append_left h];exact ha,.refl a⟩
  ·rw [List.getElem?_append_right (by omega)] at ha
   have hi:=(List.getElem?_eq_some_iff.1 ha).1
   refine ⟨_,(List.getElem?_append_right (by omega)).trans (List.getElem?_eq_getElem (by omega)),hcv (r-low.length) a _ ?_ (List.getElem?_eq_getElem (by omega))⟩
   rw [List.getElem?_set_ne (by omega)]
   exact ha
 have hgetk:∃ b,(low++loc1)[low.length+k]?=some b∧CvO (low.length+k) o ⟨o.ty,o.sz,[],o.ver+1⟩ b:=by
  refine ⟨_,(List.getElem?_append_right (by omega)).trans (List.getElem?_eq_getElem (by omega)),hcv k _ _ (by rw [List.getElem?_set_self hkl]) ?_⟩
  rw [List.getElem?_eq_getElem (by omega)]
  congr 2
  omega
 have htomb:(low++loc1)[low.length+k]?=some ⟨o.ty,o.sz,[],o.ver+1⟩:=by
  obtain ⟨b,h1,h2⟩:=hgetk
  cases h2
  exact h1
 have hst:GStep (low++loc).length g (low++loc) w g' (low++loc1) w:=by
  refine ⟨rfl,rfl,rfl,Nat.le_refl _,fun b h=>.inl h,fun _ _=>rfl,fun r a hr' ha=>?_⟩
  by_cases h:r=low.length+k
  ·subst h
   rw [hoH] at ha
   injection ha with ha
   subst ha
   exact ⟨_,htomb,by simp,fun e=>by simp at e⟩
  ·obtain ⟨b,h1,h2⟩:=hget r a ha h
   refine ⟨b,h1,?_⟩
   cases h2 with
   | refl=>exact ⟨Nat.le_refl _,fun _=>⟨rfl,rfl,hb' r h⟩⟩
   | agg=>exact ⟨Nat.le_refl _,fun _=>⟨rfl,rfl,hb' r h⟩⟩
   | one=>exact ⟨Nat.le_refl _,fun _=>⟨rfl,rfl,hb' r h⟩⟩
 have hreal:∀ (c e:PV) (zv:Value),Cv (low.length+k) o c e→VR g (low++loc) w c zv→VR g' (low++loc1) w e zv:=fun c e zv h1 h2 =>
  Cv.real hr.m rfl ho hp (fun b h=>.inl h) (fun b C h=>.inr ⟨C,h⟩) hst h1 h2
 refine ⟨g',⟨⟨?_,?_,?_,?_,by simp,?_⟩,⟨hr.e.defers,hr.e.size,fun t=>?_⟩⟩,hst.less (by simp)⟩
 ·rintro b (h | ⟨C,h⟩)
  ·exact hr.m.fb b h
  ·exact hr.m.beta_lt h
 ·intro r r' b C C' h1 h2
  by_cases e1:r=low.length+k
  ·simp [g',e1] at h1
  ·by_cases e2:r'=low.length+k
   ·simp [g',e2] at h2
   ·rw [hb' r e1] at h1
    rw [hb' r' e2] at h2
    exact hr.m.inj _ _ _ _ _ h1 h2
 ·intro r b C h1
  by_cases e1:r=low.length+k
  ·simp [g',e1] at h1
  ·rw [hb' r e1] at h1
   have:=hr.m.dom r b C h1
   simp at this ⊢
   omega
 ·intro r b hb
  by_cases e1:r=low.length+k
  ·subst e1
   rw [htomb] at hb
   injection hb with hb
   subst hb
   exact ⟨(hr.m.obj _ o hoH).pos,by simp,by simp [g']⟩
  ·have hrl:r<(low++loc).length:=by
    have:=(List.getElem?_eq_some_iff.1 hb).1
    simp at this ⊢
    omega
   obtain ⟨b',hb1,hcvo⟩:=hget r _ (List.getElem?_eq_getElem hrl) e1
   rw [hb] at hb1
   injection hb1 with hb1
   subst hb1
   have hao:=List.getElem?_eq_getElem hrl
   generalize (low++loc)[r]=ao at hcvo hao
   obtain ⟨a1,a2,a3⟩:=hr.m.obj r ao hao
   have cellsCv:b.sz=ao.sz∧b.ty=ao.ty∧b.es.length=ao.es.length∧(∀ (i:Nat) (e:PV),b.es[i]?=some e→e.cells.length=b.sz)∧(∀ i j e,cellOf b.es i j=some e→∃ c,cellOf ao.es i j=some c∧Cv (low.length+k) o c e):=by
    cases hcvo with
    | refl=>exact ⟨rfl,rfl,rfl,a2,fun i j e h=>⟨e,h,.refl e⟩⟩
    | agg ty sz v cs ds h hl =>
     refine ⟨rfl,rfl,rfl,fun i e he=>?_,fun i j e h'=>?_⟩
     ·match i,he with
      | 0,he =>
       simp at he
       subst he
       have:=a2 0 (.agg cs) rfl
       simp only [PV.cells] at this ⊢
       omega
      | i+1,he=>simp at he
     ·obtain ⟨rfl,h2⟩:=Xy h'
      clear h'
      simp only [PV.cells] at h2
      have hj:j<cs.length:=by
       have:=(List.getElem?_eq_some_iff.1 h2).1
       omega
      refine ⟨cs[j],by simp [cellOf,PV.cells,hj],?_⟩
      cases h with
      | refl =>
       rw [List.getElem?_eq_getElem hj] at h2
       injection h2 with h2
       rw [h2]
       exact .refl e
      | agg _ _ _ hh=>exact hh j _ e (List.getElem?_eq_getElem hj) h2
    | one ty sz v c e h hc he =>
     refine ⟨rfl,rfl,rfl,fun i e' he'=>?_,fun i j e' h'=>?_⟩
     ·match i,he' with
      | 0,he' =>
       simp at he'
       subst he'
       have:=a2 0 c rfl
       rw [he]
       rw [hc] at this
       exact this
      | i+1,he'=>simp at he'
     ·obtain ⟨rfl,h2⟩:=Xy h'
      clear h'
      rw [he] at h2
      match j,h2 with
      | 0,h2 =>
       simp at h2
       subst h2
       exact ⟨c,by simp [cellOf,hc],h⟩
      | j+1,h2=>simp at h2
   obtain ⟨s1,s2,s3,s4,s5⟩:=cellsCv
   refine ⟨by omega,s4,?_⟩
   rw [hb' r e1]
   cases hbb:g.β r with
   | none =>
    rw [hbb] at a3
    refine List.eq_nil_of_length_eq_zero ?_
    rw [s3,a3]
    rfl
   | some bc =>
    obtain ⟨bb,C⟩:=bc
    rw [hbb] at a3
    obtain ⟨q1,cells',q2,q3,q4,q5,q6⟩:=a3
    refine ⟨?_,cells',by rw [s2];exact q2,by rw [s1];exact q3,q4,by rw [s3];exact q5,fun i j e hcc=>?_⟩
    ·rintro (h | ⟨C',h⟩)
     ·exact q1 h
     ·exact e1 (hr.m.inj _ _ _ _ _ hbb h)
    ·obtain ⟨c,hc1,hc2⟩:=s5 i j e hcc
     obtain ⟨u,h1,h2,h3⟩:=q6 i j c hc1
     exact ⟨u,by rw [s1];exact h1,h2,hreal c e u hc2 h3⟩
 ·intro r b hrn hb
  rw [List.getElem?_append_left hrn] at hb
  exact hr.m.lt r b hrn (by rw [List.getElem?_append_left hrn];exact hb)
 ·rcases hE.look t with h | h
  ·rw [h];exact .any _
  ·exact hreal _ _ _ h (hr.e.at_ t)

/-! ### functions -/

def Gc7 (P:Program) (E:Env) (low loc:List AObj):List ResultVar→List PV→Prop
 | [],[]=>True
 | .tmp t::r,v::vs=>look E t=v∧Gc7 P E low loc r vs
 | .cell a t::r,v::vs=>VRd P ⟨none,.load t (.tmp a),0,"",#[],none⟩ E low loc v∧Gc7 P E low loc r vs
 | _,_=>False
def Gam:List PV→PV
 | [v]=>v
 | vs=>.tup vs

def Gju (P:Program) (rs:List ResultVar) (Q:PV→List AObj→Prop):Xt
 | .normal | .ret=>fun E low loc=>∃ vs m,Gc7 P E low loc rs vs∧m≤loc.length∧(m=loc.length∨(LtN (low.length+m) (Gam vs)∧Gcy (low.length+m) (loc.take m)))∧Q (Gam vs) (low++loc.take m)
 | _=>fun _ _ _=>False

theorem Kn {rs:List ResultVar} {Qr:PV→List AObj→Prop} {e:Exit} (he:e = .normal∨e = .ret) (vs:List PV) (hr:Gc7 P E low loc rs vs) (hl:LtN low.length (Gam vs)) (hq:Qr (Gam vs) low):Gju P rs Qr e E low loc:=by
 have:∃ vs m,Gc7 P E low loc rs vs∧m≤loc.length∧(m=loc.length∨(LtN (low.length+m) (Gam vs)∧Gcy (low.length+m) (loc.take m)))∧Qr (Gam vs) (low++loc.take m) :=
  ⟨vs,0,hr,Nat.zero_le _,.inr ⟨hl,by rw [List.take_zero];trivial⟩,by rw [List.take_zero,List.append_nil];exact hq⟩
 rcases he with rfl | rfl <;> exact this
theorem Ga8 {rs:List ResultVar} {Qr:PV→List AObj→Prop} {e:Exit} (he:e = .normal∨e = .ret) (vs:List PV) (hr:Gc7 P E low loc rs vs) (hq:Qr (Gam vs) (low++loc)):Gju P rs Qr e E low loc:=by
 have:∃ vs m,Gc7 P E low loc rs vs∧m≤loc.length∧(m=loc.length∨(LtN (low.length+m) (Gam vs)∧Gcy (low.length+m) (loc.take m)))∧Qr (Gam vs) (low++loc.take m) :=
  ⟨vs,loc.length,hr,Nat.le_refl _,.inl rfl,by rw [List.take_length];exact hq⟩
 rcases he with rfl | rfl <;> exact this

def Gi0 (tmps:Array Value):ResultVar→Sem Value
 | .tmp t=>pure (tmps.getD t undef)
 | .cell p t=>do loadVar t (← asAddr (tmps.getD p undef))
theorem Gk7 (fn:Func) (tmps:Array Value):results fn tmps=(do let vs ← fn.results.mapM (Gi0 tmps);pure (if h:vs.size=1 then vs[0] else .tuple vs)):=rfl

theorem Gjv {g:Gh} {a:Act} {w:World} {rs:List ResultVar} {vs:List PV} (hr:Rel g nt low.length E (low++loc) a w) (h:Gc7 P E low loc rs vs) :
  ∃ xs:List Value,(rs.mapM (Gi0 a.tmps)).run P w = .ok xs w∧vs.length=xs.length∧∀ (i:Nat) (c:PV) (x:Value),vs[i]?=some c→xs[i]?=some x→VR g (low++loc) w c x:=by
 induction rs generalizing vs with
 | nil =>
  cases vs with
  | nil=>exact ⟨[],rfl,rfl,by simp⟩
  | cons=>exact h.elim
 | cons rv rs ih =>
  cases vs with
  | nil=>cases rv <;> exact h.elim
  | cons v vs =>
   have one:∃ x,(Gi0 a.tmps rv).run P w = .ok x w∧VR g (low++loc) w v x∧Gc7 P E low loc rs vs:=by
    cases rv with
    | tmp t =>
     obtain ⟨h1,h2⟩:=h
     exact ⟨_,rfl,h1 ▸ hr.e.at_ t,h2⟩
    | cell p t =>
     obtain ⟨h1,h2⟩:=h
     obtain ⟨x,hx,hv⟩:=h1 g nt a w hr
     refine ⟨x,?_,hv,h2⟩
     have e0:a.eval (.tmp p)=a.tmps.getD p undef:=rfl
     simp only [execOp,e0] at hx
     show (do loadVar t (← asAddr (a.tmps.getD p undef)):Sem Value).run P w = .ok x w
     generalize a.tmps.getD p undef=z at hx ⊢
     cases z with
     | pointer ad =>
      cases ad with
      | none=>simp [Instr.loadAt,Instr.sureAddr] at hx
      | some ad =>
       simp only [Instr.loadAt,Instr.sureAddr,Sem.run_bind,Sem.run_pure,Result.andThen_ok] at hx
       simp only [asAddr,Sem.run_bind,Sem.run_pure,Result.andThen_ok]
       cases hl:(loadVar t ad).run P w with
       | ok y w1 =>
        rw [hl] at hx
        simp only [Result.andThen_ok] at hx
        injection hx with h1 h2
        injection h1 with h1
        rw [h1,h2]
       | halt y w1=>rw [hl] at hx;simp at hx
     | _=>simp [Instr.loadAt,Instr.sureAddr] at hx
   obtain ⟨x,hx,hv,hrest⟩:=one
   obtain ⟨xs,hxs,hl,hh⟩:=ih hrest
   refine ⟨x::xs,?_,by simp [hl],fun i c y hc hy=>?_⟩
   ·rw [List.mapM_cons]
    simp only [Sem.run_bind,hxs,hx,Result.andThen_ok,Sem.run_pure]
   ·match i,hc,hy with
    | 0,hc,hy=>simp at hc hy;subst hc;subst hy;exact hv
    | i+1,hc,hy=>exact hh i c y (by simpa using hc) (by simpa using hy)

def Gk8:Nat→List PV→Env
 | _,[]=>[]
 | k,v::r=>(k,v)::Gk8 (k+1) r
theorem Gh4:∀ (l:List PV) (k t:Nat),look (Gk8 k l) t=if k≤t then (l[t-k]?).getD .any else .any
 | [],k,t=>by simp [Gk8,look]
 | v::l,k,t=>by
  by_cases h:k=t
  ·subst h
   simp [Gk8,Wt]
  ·rw [Gk8,Xm v _ h,Gh4 l (k+1) t]
   by_cases h2:k≤t
   ·rw [if_pos (by omega),if_pos h2,show t-k=(t-(k+1))+1 by omega,List.getElem?_cons_succ]
   ·rw [if_neg (by omega),if_neg h2]

theorem Jm {f:FuncId} {fn:Func} {c:Code} {args:List PV} {Qc:PV→List AObj→Prop} {rs:List ResultVar} (hf:P.funcs[f]?=some fn) (hb:fn.body=some c) (hn:fn.ntmps=nt) (hargs:args.length≤nt) (hrs:fn.results=rs.toArray)
  (h:VWp P nt c (Gju P rs Qc) (Gk8 0 args) low []):Sh P f args low Qc:=by
 intro g xs w hm ha
 have hlx:xs.length=args.length:=ha.1.symm
 have hrel:Rel g nt low.length (Gk8 0 args) (low++[]) { tmps:=xs.toArray++Array.replicate (fn.ntmps-xs.toArray.size) undef,defers:=[] } w:=by
  refine ⟨by rw [List.append_nil];exact hm,rfl,?_,fun t=>?_⟩
  ·simp [hn];omega
  ·rw [Gh4,if_pos (Nat.zero_le _),Nat.sub_zero,List.append_nil]
   cases hc:args[t]? with
   | none=>exact .any _
   | some cc =>
    have ht:t<xs.length:=by
     have:=(List.getElem?_eq_some_iff.1 hc).1
     omega
    have:=ha.2 t cc _ hc (List.getElem?_eq_getElem ht)
    simpa [Array.getElem?_append,ht] using this
 refine calls_of_wp hf hb (h g _ w hrel _ ?_)
 intro e a' w' hl
 have key:(e = .normal∨e = .ret)→Gau nt low.length g (low++[]) w (Gju P rs Qc e) a' w'→a'.defers=[]∧∃ v,(results fn a'.tmps).run P w' = .ok v w'∧∃ x g' r low',Ending.returned v = .returned x∧Qc r low'∧low.length≤low'.length∧RelM g' low'.length low' w'∧VR g' low' w' r x∧GStep low.length g low w g' low' w':=by
  rintro he ⟨E',low1,loc1,g1,hq,hlen,hrel1,hst⟩
  have hq':∃ vs m,Gc7 P E' low1 loc1 rs vs∧m≤loc1.length∧(m=loc1.length∨(LtN (low1.length+m) (Gam vs)∧Gcy (low1.length+m) (loc1.take m)))∧Qc (Gam vs) (low1++loc1.take m):=by
   rcases he with rfl | rfl <;> exact hq
  obtain ⟨vs,m,hres,hml,hexp,hqc⟩:=hq'
  obtain ⟨xs',hrun,hl',hh⟩:=Gjv (hrel1.len hlen) hres
  have hv:∃ v,(results fn a'.tmps).run P w' = .ok v w'∧VR g1 (low1++loc1) w' (Gam vs) v:=by
   have hr0:(fn.results.mapM (Gi0 a'.tmps)).run P w' = .ok xs'.toArray w':=by
    rw [hrs,Array.mapM_eq_mapM_toList]
    simp only [Sem.run_map,hrun,Result.andThen_ok]
   rw [Gk7,Sem.run_bind,hr0,Result.andThen_ok]
   by_cases h1:xs'.length=1
   ·obtain ⟨x,rfl⟩:=List.length_eq_one_iff.1 h1
    obtain ⟨c,rfl⟩:=List.length_eq_one_iff.1 hl'
    exact ⟨x,rfl,hh 0 c x rfl rfl⟩
   ·refine ⟨.tuple xs'.toArray,?_,?_⟩
    ·rw [Sem.run_pure]
     congr 1
     exact dif_neg (by simpa using h1)
    ·have:Gam vs = .tup vs:=by
      unfold Gam
      split
      ·simp at hl';omega
      ·rfl
     rw [this]
     exact .tup vs xs' hl' hh
  obtain ⟨v,hrunv,hvr⟩:=hv
  refine ⟨hrel1.e.defers,v,hrunv,v,?_⟩
  rw [List.append_nil] at hst
  rcases hexp with rfl | ⟨hlt,hlo⟩
  ·refine ⟨g1,Gam vs,low1++loc1,rfl,by rw [List.take_length] at hqc;exact hqc,by rw [List.length_append];omega,hrel1.m.full,hvr,hst⟩
  ·have hm1:RelM g1 low1.length (low1++loc1) w':=hlen.symm ▸ hrel1.m
   obtain ⟨g2,hst2,hm2⟩:=hm1.trunc (m:=low1.length+m) (by omega) (by rw [List.length_append];omega) (fun r o hr' ho=>by
    by_cases h:r<low1.length
    ·intro e he
     exact (hm1.lt r o h ho e he).mono (by omega)
    ·rw [List.getElem?_append_right (by omega)] at ho
     exact hlo.get (r-low1.length) o (by rw [List.getElem?_take_of_lt (by omega)];exact ho))
   have ht:(low1++loc1).take (low1.length+m)=low1++loc1.take m:=by rw [List.take_length_add_append]
   rw [ht] at hst2 hm2
   exact ⟨g2,Gam vs,low1++loc1.take m,rfl,hqc,by rw [List.length_append];omega,hm2.full,hvr.step hst2 hlt,hst.trans (hst2.less (by omega))⟩
 cases e with
 | normal=>exact key (.inl rfl) hl
 | ret=>exact key (.inr rfl) hl
 | exit id=>obtain ⟨_,_,_,_,hq,_⟩:=hl;exact hq.elim
 | goto l=>obtain ⟨_,_,_,_,hq,_⟩:=hl;exact hq.elim
 | panic c=>exact hl.elim
 | outgrown=>exact hl.elim

end
end Go.Aml
