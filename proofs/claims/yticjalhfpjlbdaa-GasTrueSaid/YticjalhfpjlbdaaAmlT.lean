/- The abstract memory logic, part T: functions as partial functions of plain data. -/
import Derived.Test.YticjalhfpjlbdaaAmlR
import Derived.Test.YticjalhfpjlbdaaAmlQ
namespace Go.Aml
open Go

/-! ### plain partial functions -/

theorem bnd {α β:Type} {m:Option α} {k:α→Option β} {r:β} (h:m.bind k=some r):∃ x,m=some x∧k x=some r:=Option.bind_eq_some_iff.1 h
theorem Jz {α:Type} {c:Bool} {a b r:α} (hc:c=true) (h:(bif c then a else b)=r):a=r:=by subst hc;exact h
theorem Ka {α:Type} {c:Bool} {a b r:α} (hc:c=false) (h:(bif c then a else b)=r):b=r:=by subst hc;exact h

def Kl {α:Type} (l:List α) (i:Int):Option α:=if 0≤i then l[i.toNat]? else none
theorem Js {α:Type} {l:List α} {i:Int} {x:α} (h:Kl l i=some x):i=(i.toNat:Int)∧l[i.toNat]?=some x:=by
 unfold Kl at h
 split at h
 ·exact ⟨by omega,h⟩
 ·cases h
def Glf {α:Type} (l:List α) (a b:Int):Option (List α):=if 0≤a∧a≤b∧b≤(l.length:Int) then some ((l.take b.toNat).drop a.toNat) else none
theorem Gnn {α:Type} {l:List α} {a b:Int} {l2:List α} (h:Glf l a b=some l2):0≤a∧a≤b∧b≤(l.length:Int)∧(l.take b.toNat).drop a.toNat=l2:=by
 unfold Glf at h
 split at h
 ·rename_i h1
  exact ⟨h1.1,h1.2.1,h1.2.2,by injection h⟩
 ·cases h
def Gno (k:IntKind) (a b:Int):Option Int:=if b=0 then none else some (k.wrap (a.tdiv b))
theorem Gdx {k:IntKind} {a b r:Int} (h:Gno k a b=some r):b≠0∧k.wrap (a.tdiv b)=r:=by
 unfold Gno at h
 split at h
 ·cases h
 ·rename_i h1
  exact ⟨h1,by injection h⟩
def Gi4 (a b:Int):Option Int:=if b=0 then none else some (a.tmod b)
theorem Gal {a b r:Int} (h:Gi4 a b=some r):b≠0∧a.tmod b=r:=by
 unfold Gi4 at h
 split at h
 ·cases h
 ·rename_i h1
  exact ⟨h1,by injection h⟩
def Gtt (k:IntKind) (a b:Int):Option Int:=if 0≤b then some (k.wrap (a*2 ^ (min b.toNat k.bits))) else none
def Gtu (k:IntKind) (a b:Int):Option Int:=if 0≤b then some (a.fdiv (2 ^ (min b.toNat k.bits))) else none
def Zn {α:Type} (by_:Nat) (l ys:List α):Option (List α):=if (l.length+ys.length)*by_≤140737488355328 then some (l++ys) else none
theorem Gib {α:Type} {by_:Nat} {l ys l2:List α} (h:Zn by_ l ys=some l2):(l.length+ys.length)*by_≤140737488355328∧l++ys=l2:=by
 unfold Zn at h
 split at h
 ·rename_i h1
  exact ⟨h1,by injection h⟩
 ·cases h
def Gce {α:Type} (by_:Nat) (z:α) (n:Int):Option (List α):=if 0≤n∧n.toNat*by_≤140737488355328 then some (List.replicate n.toNat z) else none
theorem Gnp {α:Type} {by_:Nat} {z:α} {n:Int} {l:List α} (h:Gce by_ z n=some l):n=(n.toNat:Int)∧n.toNat*by_≤140737488355328∧List.replicate n.toNat z=l:=by
 unfold Gce at h
 split at h
 ·rename_i h1
  exact ⟨by omega,h1.2,by injection h⟩
 ·cases h

def Ys {α β:Type} (f:α→Option (α⊕β)):Nat→α→Option β
 | 0,_=>none
 | n+1,a=>(f a).bind fun o=>o.elim (Ys f n) some
theorem Gg9 {α β:Type} {f:α→Option (α⊕β)}:∀ {n:Nat} {a:α} {b:β},Ys f n a=some b→Ys f (n+1) a=some b
 | 0,_,_,h=>by simp [Ys] at h
 | n+1,a,b,h=>by
  unfold Ys at h ⊢
  obtain ⟨o,h1,h2⟩:=bnd h
  rw [h1]
  cases o with
  | inl a'=>exact Gg9 (n:=n) h2
  | inr b'=>exact h2
theorem Gj6 {α β:Type} {f:α→Option (α⊕β)} {n m:Nat} {a:α} {b:β} (h:Ys f n a=some b) (hm:n≤m):Ys f m a=some b:=by
 induction hm with
 | refl=>exact h
 | step _ ih=>exact Gg9 ih
noncomputable def Sb {α β:Type} (f:α→Option (α⊕β)) (a:α):Option β :=
 open Classical in if h:∃ n,(Ys f n a).isSome then Ys f h.choose a else none
theorem Zg {α β:Type} {f:α→Option (α⊕β)} {n:Nat} {a:α} {b:β} (h:Ys f n a=some b):Sb f a=some b:=by
 have hx:∃ n,(Ys f n a).isSome:=⟨n,by rw [h];rfl⟩
 unfold Sb
 rw [dif_pos hx]
 obtain ⟨b',hb'⟩:=Option.isSome_iff_exists.1 hx.choose_spec
 rw [hb']
 have h1:=Gj6 h (Nat.le_max_left n hx.choose)
 have h2:=Gj6 hb' (Nat.le_max_right n hx.choose)
 rw [h1] at h2
 exact h2.symm
theorem Gc0 {α β:Type} {f:α→Option (α⊕β)} {a:α} {b:β} (h:Sb f a=some b):∃ n,Ys f n a=some b:=by
 unfold Sb at h
 split at h
 ·exact ⟨_,h⟩
 ·cases h
theorem Gj7 {α β:Type} (f:α→Option (α⊕β)) (a:α):Sb f a=(f a).bind fun o=>o.elim (Sb f) some:=by
 have key:∀ b,Sb f a=some b↔((f a).bind fun o=>o.elim (Sb f) some)=some b:=by
  intro b
  constructor
  ·intro h
   obtain ⟨n,hn⟩:=Gc0 h
   cases n with
   | zero=>simp [Ys] at hn
   | succ n =>
    unfold Ys at hn
    obtain ⟨o,h1,h2⟩:=bnd hn
    rw [h1]
    cases o with
    | inl a'=>exact Zg (n:=n) h2
    | inr b'=>exact h2
  ·intro h
   obtain ⟨o,h1,h2⟩:=bnd h
   cases o with
   | inl a' =>
    obtain ⟨n,hn⟩:=Gc0 (show Sb f a'=some b from h2)
    refine Zg (n:=n+1) ?_
    unfold Ys
    rw [h1]
    exact hn
   | inr b' =>
    refine Zg (n:=1) ?_
    unfold Ys
    rw [h1]
    exact h2
 cases h:Sb f a with
 | none =>
  cases h2:(f a).bind fun o=>o.elim (Sb f) some with
  | none=>rfl
  | some b=>rw [(key b).2 h2] at h;cases h
 | some b=>exact ((key b).1 h).symm

/-! ### scopes and loops -/

def Kd (x:Exit) (K:Gel):Xt:=fun e E low loc=>e=x∧K E low loc
theorem Gw {x:Exit} {K:Gel} {E:Env} {low loc:List AObj} (h:K E low loc):Kd x K x E low loc:=⟨rfl,h⟩

section
variable {P:Program} {nt:Nat} {Q:Xt} {E E':Env} {low loc low' loc':List AObj} {all:Array Oper} {rest:List Oper}

theorem Jn.trans {E1 E2 E3:Env} {l1 l2 l3 m1 m2 m3:List AObj} (h:Jn E1 l1 m1 E2 l2 m2) (k:Jn E2 l2 m2 E3 l3 m3):Jn E1 l1 m1 E3 l3 m3:=by
 refine ⟨k.1.trans h.1,fun g nt a w hr=>?_⟩
 obtain ⟨g',hr',hs⟩:=h.2 g nt a w hr
 obtain ⟨g'',hr'',hs'⟩:=k.2 g' nt a w (hr'.len h.1)
 exact ⟨g'',hr''.len h.1.symm,hs.trans (h.1 ▸ hs')⟩

theorem Gau.weak {n:Nat} {g0:Gh} {H0:List AObj} {w0:World} {K K':Gel} {a:Act} {w:World} (hk:∀ E low loc,K E low loc→∃ E2 low2 loc2,Jn E low loc E2 low2 loc2∧K' E2 low2 loc2) (h:Gau nt n g0 H0 w0 K a w):Gau nt n g0 H0 w0 K' a w:=by
 obtain ⟨E,low,loc,g,hK,hl,hr,hst⟩:=h
 obtain ⟨E2,low2,loc2,hw,hK2⟩:=hk _ _ _ hK
 obtain ⟨g',hr',hs⟩:=hw.2 g nt a w (hr.len hl)
 exact ⟨E2,low2,loc2,g',hK2,hw.1.trans hl,hr'.len hl.symm,hst.trans (hl ▸ hs)⟩

theorem Gs {c:Code} {Q':Xt} (h:VWp P nt c Q' E low loc) (hq:∀ e E low loc,Q' e E low loc→∃ E2 low2 loc2,Jn E low loc E2 low2 loc2∧Q e E2 low2 loc2):VWp P nt c Q E low loc :=
 fun g a w hr Qr hQ=>h g a w hr Qr fun e a' w' hl=>hQ e a' w' (by cases e <;> first | exact Gau.weak (hq _) hl | exact hl)

theorem Ki {α β:Type} {c:Code} (f:α→Option (α⊕β)) (I:α→Gel) (K:β→Xt) {s0:α} {b:β} (hF:Sb f s0=some b) (h0:I s0 E low loc) (hK:∀ b E low loc,¬ K b .normal E low loc)
  (round:∀ s o E low loc,f s=some o→I s E low loc→VWp P nt c (Sum.elim (fun s'=>Kd .normal (I s')) K o) E low loc):VWp P nt (.loop c) (K b) E low loc:=by
 obtain ⟨n,hn⟩:=Gc0 hF
 refine Gop (α:={ p:Nat×α // Ys f p.1 p.2=some b }) (fun x=>I x.1.2) (fun x=>x.1.1) ⟨(n,s0),hn⟩ h0 ?_
 rintro ⟨⟨n,s⟩,hs⟩ E low loc hI
 cases n with
 | zero=>simp [Ys] at hs
 | succ n =>
  have hs':=hs
  unfold Ys at hs'
  obtain ⟨o,h1,h2⟩:=bnd hs'
  have hr:=round s o E low loc h1 hI
  cases o with
  | inl s' =>
   refine hr.mono fun e E low loc hh=>?_
   obtain ⟨rfl,hh⟩:e = .normal∧I s' E low loc:=hh
   exact ⟨⟨(n,s'),h2⟩,Nat.lt_succ_self n,hh⟩
  | inr b' =>
   have hb:b'=b:=by injection h2
   subst hb
   refine hr.mono fun e E low loc hh=>?_
   cases e with
   | normal=>exact (hK _ _ _ _ hh).elim
   | _=>exact hh

/-! ### what may be said anew -/

def CvL (r:Nat) (o:AObj):List PV→List PV→Prop
 | [],[]=>True
 | c::cs,e::es=>Cv r o c e∧CvL r o cs es
 | _,_=>False
theorem CvL.get {r:Nat} {o:AObj} {cs es:List PV} (h:CvL r o cs es):cs.length=es.length∧∀ (i:Nat) (c e:PV),cs[i]?=some c→es[i]?=some e→Cv r o c e:=by
 induction cs generalizing es with
 | nil=>cases es with
  | nil=>exact ⟨rfl,by simp⟩
  | cons=>exact h.elim
 | cons c cs ih=>cases es with
  | nil=>exact h.elim
  | cons e es =>
   obtain ⟨h1,h2⟩:=ih h.2
   refine ⟨by simp [h1],fun i a b ha hb=>?_⟩
   match i,ha,hb with
   | 0,ha,hb=>simp at ha hb;subst ha;subst hb;exact h.1
   | i+1,ha,hb=>exact h2 i a b (by simpa using ha) (by simpa using hb)
theorem Ggo {r:Nat} {o:AObj} {c:PV} {cs ds:List PV} (hc:c = .agg cs) (h:CvL r o cs ds):Cv r o c (.agg ds):=by
 subst hc;exact .agg cs ds h.get.1 h.get.2
theorem Zs {r:Nat} {o:AObj} {ty sz v:Nat} {cs ds:List PV} (h:CvL r o cs ds):CvO r o ⟨ty,sz,[.agg cs],v⟩ ⟨ty,sz,[.agg ds],v⟩:=.agg ty sz v cs ds (Ggo rfl h) h.get.1

theorem Giy.cells {r:Nat} {o:AObj} {a b:AObj} (h:CvO r o a b) (hw:∀ (i:Nat) (e:PV),a.es[i]?=some e→e.cells.length=a.sz) :
  b.sz=a.sz∧b.ty=a.ty∧b.ver=a.ver∧b.es.length=a.es.length∧(∀ (i:Nat) (e:PV),b.es[i]?=some e→e.cells.length=b.sz)∧(∀ i j e,cellOf b.es i j=some e→∃ c,cellOf a.es i j=some c∧Cv r o c e):=by
 cases h with
 | refl=>exact ⟨rfl,rfl,rfl,rfl,hw,fun i j e h=>⟨e,h,.refl e⟩⟩
 | agg ty sz v cs ds h hl =>
  refine ⟨rfl,rfl,rfl,rfl,fun i e he=>?_,fun i j e h'=>?_⟩
  ·match i,he with
   | 0,he =>
    simp at he
    subst he
    have:=hw 0 (.agg cs) rfl
    simp only [PV.cells] at this ⊢
    omega
   | i+1,he=>simp at he
  ·obtain ⟨rfl,h2⟩:=Xy h'
   clear h'
   simp only [PV.cells] at h2
   have hj:j<cs.length:=by
    have:=(List.getElem?_eq_some_iff.1 h2).1
    omega
   refine ⟨cs[j],by simp [cellOf,PV.cells,hj],?_⟩
   cases h with
   | refl =>
    rw [List.getElem?_eq_getElem hj] at h2
    injection h2 with h2
    rw [h2]
    exact .refl e
   | agg _ _ _ hh=>exact hh j _ e (List.getElem?_eq_getElem hj) h2
 | one ty sz v c e h hc he =>
  refine ⟨rfl,rfl,rfl,rfl,fun i e' he'=>?_,fun i j e' h'=>?_⟩
  ·match i,he' with
   | 0,he' =>
    simp at he'
    subst he'
    have:=hw 0 c rfl
    rw [he]
    rw [hc] at this
    exact this
   | i+1,he'=>simp at he'
  ·obtain ⟨rfl,h2⟩:=Xy h'
   clear h'
   rw [he] at h2
   match j,h2 with
   | 0,h2 =>
    simp at h2
    subst h2
    exact ⟨c,by simp [cellOf,hc],h⟩
   | j+1,h2=>simp at h2

/-! ### references -/

def Gld (n:Nat):List PV→Prop
 | []=>True
 | c::cs=>LtN n c∧Gld n cs
theorem Gld.mem {n:Nat} {cs:List PV} (h:Gld n cs):∀ c,c ∈ cs→LtN n c:=by
 induction cs with
 | nil=>simp
 | cons c cs ih =>
  intro x hx
  rcases List.mem_cons.1 hx with rfl | hx
  ·exact h.1
  ·exact ih h.2 x hx
theorem Gq {n:Nat} {cs:List PV} (h:Gld n cs):LtN n (.agg cs):=.agg cs h.mem
theorem Gb4 {n:Nat} {cs:List PV} (h:Gld n cs):LtN n (.tup cs):=.tup cs h.mem
theorem Gtf {n:Nat} {c:PV} (h:LtN 0 c):LtN n c:=h.mono (Nat.zero_le n)
theorem Kx {α:Type} {f:α→PV} {l:List α} (h:∀ x,LtN 0 (f x)):∀ e,e ∈ l.map f→LtN 0 e:=fun e he=>by
 obtain ⟨x,_,rfl⟩:=List.mem_map.1 he
 exact h x
theorem Gr {α:Type} {f:α→PV} {l:List α} {ty sz v n:Nat} (h:∀ x,LtN 0 (f x)):Ga6 n ⟨ty,sz,l.map f,v⟩:=fun e he=>Gtf (Kx h e he)
theorem Gp {es:List PV} {ty sz v n:Nat} (h:Gld n es):Ga6 n ⟨ty,sz,es,v⟩:=h.mem
theorem Gjl {n k m:Nat} (h:Nat.blt k m=true):n+k<n+m:=Nat.add_lt_add_left (Nat.le_of_ble_eq_true h) n

/-! ### rows by value and of the function's own -/

variable {α:Type} {f:α→PV} {l l2 ys:List α} {x y:Operand} {d:Option Nat} {ty:TypeId} {pos:String} {aft:Array Edge} {t:TypeId} {gd:Option (Nat×Bool)}

theorem Gge {i:Nat} {e:α} (h:l[i]?=some e):(l.map f)[i]?=some (f e):=by rw [List.getElem?_map,h];rfl

theorem Ju {ix:Operand} {sz:Nat} {k:IntKind} {m:Int} {te:TypeId} {e:α} (hx:PE E x = .vs sz (l.map f)) (hi:PE E ix = .int k m) (h:Kl l m=some e) (ht:Wz P t=some te) (hs:Ut P te=some sz) :
  VRd P ⟨d,.indexAddr t x ix,ty,pos,aft,gd⟩ E low loc (.vptr (f e).cells 0) :=
 Gnh hx hi (Js h).1 (Gge (Js h).2) ht hs

theorem Sf {ix:Operand} {sz r v len ot:Nat} {k:IntKind} {m:Int} {te:TypeId} {e:α} (hx:PE E x = .sl r v 0 len) (hlen:len=l.length) (hi:PE E ix = .int k m) (ho:Gbq low loc r ⟨ot,sz,l.map f,v⟩) (h:Kl l m=some e) (ht:Wz P t=some te) (hs:Ut P te=some sz) :
  VRd P ⟨d,.indexAddr t x ix,ty,pos,aft,gd⟩ E low loc (.ptr r v m.toNat 0):=by
 obtain ⟨h1,h2⟩:=Js h
 have hl:m.toNat<len:=by rw [hlen];exact (List.getElem?_eq_some_iff.1 h2).1
 have:=Gni (d:=d) (ty:=ty) (pos:=pos) (aft:=aft) (gd:=gd) hx hi h1 hl ho rfl ht hs
 rw [Nat.zero_add] at this
 exact this

theorem Sp {r v i j ot sz:Nat} {e:α} {c:PV} (hx:PE E x = .ptr r v i j) (ho:Gbq low loc r ⟨ot,sz,l.map f,v⟩) (h:l[i]?=some e) (ha:Ws P t=some false) (hc:(f e).cells[j]?=some c) :
  VRd P ⟨d,.load t x,ty,pos,aft,gd⟩ E low loc c :=
 Gi hx ho rfl ha (by unfold cellOf;show ((l.map f)[i]?.bind _)=_;rw [Gge h];exact hc)
theorem Gdu {r v i j n ot sz:Nat} {e:α} {ds:List PV} (hx:PE E x = .ptr r v i j) (ho:Gbq low loc r ⟨ot,sz,l.map f,v⟩) (h:l[i]?=some e) (ha:Ws P t=some true) (hs:Ut P t=some n) (hd:((f e).cells.drop j).take n=ds) (hn:ds.length=n) :
  VRd P ⟨d,.load t x,ty,pos,aft,gd⟩ E low loc (.agg ds) :=
 Gz hx ho rfl ha hs (Gge h) hd hn

theorem Vo {r v i j ot sz:Nat} {e e':α} {p:PV} {low' loc':List AObj} (hx:PE E x = .ptr r v i j) (ho:Gbq low loc r ⟨ot,sz,l.map f,v⟩) (h:l[i]?=some e) (hy:PE E y=p) (hsz:Ut P t=some p.cells.length)
  (hone:p.cells.all PV.one=true) (ht:∀ vs,p ≠ .tup vs) (hj:j+p.cells.length≤(f e).cells.length) (he':(f e').cells=(f e).cells.take j++p.cells++(f e).cells.drop (j+p.cells.length)) (hset:Gi2 low loc r ⟨ot,sz,(l.set i e').map f,v⟩ low' loc') :
  VEf P ⟨d,.store t x y,ty,pos,aft,none⟩ E low loc fun v1 low1 loc1=>v1 = .any∧low1=low'∧loc1=loc' :=
 Jg hx ho rfl hy hsz hone ht (Gge h) hj he' (by
  have e:(l.map f).set i (f e')=(l.set i e').map f:=by rw [List.map_set]
  show Gi2 low loc r ⟨ot,sz,(l.map f).set i (f e'),v⟩ low' loc'
  rw [e];exact hset)

def BdI (E:Env) (dflt:Int):Option Operand→Int→Prop
 | none,m=>m=dflt
 | some o,m=>∃ k,PE E o = .int k m
theorem BdI.is {dflt:Nat} {o:Option Operand} {m:Int} (h:BdI E dflt o m) (h0:0≤m):Gnd E dflt o m.toNat:=by
 cases o with
 | none =>
  have h:m=dflt:=h
  show m.toNat=dflt
  omega
 | some o =>
  obtain ⟨k,h⟩:=h
  exact ⟨k,m,h,by omega⟩

theorem Grx {sz te:Nat} {lo hi:Option Operand} {a b:Int} (hx:PE E x = .vs sz (l.map f)) (ht:Wz P t=some te) (hs:Ut P te=some sz) (ha:BdI E 0 lo a) (hb:BdI E (l.length:Int) hi b) (h:Glf l a b=some l2) :
  VRd P ⟨d,.slice t x lo hi none,ty,pos,aft,gd⟩ E low loc (.vs sz (l2.map f)):=by
 obtain ⟨h1,h2,h3,h4⟩:=Gnn h
 refine Gne (l:=a.toNat) (h:=b.toNat) hx ht hs (ha.is (dflt:=0) h1) ?_ (by omega) (by simp;omega) (by rw [← h4,List.map_drop,List.map_take])
 have:=hb.is (by omega)
 rwa [List.length_map]

theorem Ky {n:Nat} (h:n=l.length):((l.map f).drop 0).take n=l.map f:=by
 subst h
 rw [List.drop_zero,List.take_of_length_le (by simp)]

theorem Xc {p:PV} {sz:Nat} (h:p = .vs sz (l.map f)):Ge1 low loc p sz (l.map f):=.inl h
theorem Xb {s:Operand} {r v len by_ ot sz:Nat} {p:PV} {zv:Value} {low' loc':List AObj} (hs:PE E s = .sl r v 0 len) (hlen:len=l.length) (ho:Gbq low loc r ⟨ot,sz,l.map f,v⟩) (hx:PE E x=p) (hsrc:Ge1 low loc p sz (ys.map f))
  (ht:Wz P t=some ot) (hsz:Ut P ot=some sz) (hby:Yg P ot=some by_) (hb1:0<by_) (hz:Wp P ot=some zv) (hzs:zv.cells.size=sz) (h:Zn by_ l ys=some l2) (hset:Gi2 low loc r ⟨ot,sz,l2.map f,v+1⟩ low' loc') :
  VEf P ⟨d,.call { callee:=.builtin .append,args:=#[s,x],argTypes:=#[t,t] },ty,pos,aft,none⟩ E low loc fun v1 low1 loc1=>v1 = .sl r (v+1) 0 l2.length∧low1=low'∧loc1=loc':=by
 obtain ⟨h1,h2⟩:=Gib h
 subst h2
 subst hlen
 have hle:l.length+ys.length≤140737488355328:=Nat.le_trans (Nat.le_mul_of_pos_right _ hb1) h1
 have e:(l.map f).take l.length++ys.map f=(l++ys).map f:=by rw [List.take_of_length_le (by simp),List.map_append]
 have:=Gk9 (d:=d) (ty:=ty) (pos:=pos) (aft:=aft) (ys:=ys.map f) (low':=low') (loc':=loc') hs ho rfl hx hsrc ht hsz hby hz hzs (by simpa using h1) (by simp;omega) (by rw [e];exact hset)
 simpa using this

theorem Goz {s:Operand} {te sz by_:Nat} {p:PV} {zv:Value} (hs:PE E s = .nils∨PE E s = .z0) (hx:PE E x=p) (hsrc:Ge1 low loc p sz (ys.map f)) (hpos:0<sz)
  (ht:Wz P t=some te) (hsz:Ut P te=some sz) (hby:Yg P te=some by_) (hb1:0<by_) (hz:Wp P te=some zv) (hzs:zv.cells.size=sz) (h:Zn by_ ([]:List α) ys=some l2) :
  VEf P ⟨d,.call { callee:=.builtin .append,args:=#[s,x],argTypes:=#[t,t] },ty,pos,aft,none⟩ E low loc fun v1 low1 loc1=>v1 = .sl (low.length+loc.length) 0 0 l2.length∧low1=low∧loc1=loc++[⟨te,sz,l2.map f,0⟩]:=by
 obtain ⟨h1,h2⟩:=Gib h
 rw [List.nil_append] at h2
 subst h2
 simp only [List.length_nil,Nat.zero_add] at h1
 have hle:ys.length≤140737488355328:=Nat.le_trans (Nat.le_mul_of_pos_right _ hb1) h1
 have:=Gjz (d:=d) (ty:=ty) (pos:=pos) (aft:=aft) (ys:=ys.map f) hs hx hsrc hpos ht hsz hby hz hzs (by simpa using h1) (by simp;omega)
 simpa using this
theorem Gqc {lo c:Operand} {elem sz by_:Nat} {zv:Value} {z:α} {kl kc:IntKind} {m:Int} (hl:PE E lo = .int kl m) (hc:PE E c = .int kc m) (ht:Wz P t=some elem) (hsz':Ut P elem=some sz) (hby:Yg P elem=some by_) (hb1:0<by_)
  (hz:Wp P elem=some zv) (hv:emb zv=f z) (hsz:(f z).cells.length=sz) (hpos:0<sz) (hone:(f z).cells.all PV.one=true) (h:Gce by_ z m=some l) :
  VEf P ⟨d,.makeSlice t lo c,ty,pos,aft,none⟩ E low loc fun v1 low1 loc1=>v1 = .sl (low.length+loc.length) 0 0 l.length∧low1=low∧loc1=loc++[⟨elem,sz,l.map f,0⟩]:=by
 obtain ⟨h1,h2,h3⟩:=Gnp h
 subst h3
 have hle:m.toNat≤140737488355328:=Nat.le_trans (Nat.le_mul_of_pos_right _ hb1) h2
 have:=Gok (P:=P) (low:=low) (loc:=loc) (d:=d) (ty:=ty) (pos:=pos) (aft:=aft) (n:=m.toNat) hl hc h1 h1 ht hsz' hby (by omega) (by omega) hz hv hsz hpos hone
 simpa using this

/-! ### calls with a pointer to an object -/

theorem Gp9 {k:Nat} {o:AObj}:(low++loc).set (low.length+k) o=low++loc.set k o:=by
 rw [List.set_append_right _ _ (by omega)]
 congr 2
 omega
theorem Gav {r:Nat} {o:AObj} (hr:r<low.length):(low.set r o)[r]?=some o:=List.getElem?_set_self hr
theorem Gb0 {ff:Nat} {fo:Operand} {as:List Operand} {ci:Array TypeId} {os:List AObj} {r:PV} (hf:PE E fo = .fn ff [] []) (hcall:∀ args w,(callFunc ff args).run P w = .ok (.enter ff args) w)
  (hc:Sh P ff ([]++as.map (PE E)++[]) (low++loc) fun r' low'=>r'=r∧low'=low++loc++os) :
  VEf P ⟨d,.call { callee:=.value fo,args:=as.toArray,argTypes:=ci },ty,pos,aft,none⟩ E low loc fun v1 low1 loc1=>v1=r∧low1=low∧loc1=loc++os :=
 Ggu hf hcall hc (by
  rintro r' low' ⟨rfl,rfl⟩
  exact ⟨low,loc++os,by rw [List.append_assoc],rfl,Geh low,rfl,rfl,rfl⟩)
end
end Go.Aml
