/- The abstract memory logic, part DB: a region that draws its order, its changing operations not all ordered: one operation a line; new objects that come into a place that was kept free. -/
import Derived.Test.YticjalhfpjlbdaaAmlDA
import Derived.Test.YticjalhfpjlbdaaAmlY
namespace Go.Aml
open Go

section
variable {P:Program} {nt:Nat} {Q:Xt} {E:Env} {low loc:List AObj} {l r:List Oper} {tbl:List (List Nat)} {effs:List Bool} {tab:List Gai} {i:Nat} {K:Env→Prop}

def Gnk (P:Program) (l:List Oper) (tbl:List (List Nat)) (effs:List Bool) (tab:List Gai) (i:Nat) (r:List Oper) (E:Env) (K:Env→Prop):Prop :=
 i+r.length=l.length→∃ vs,Gfo P l tbl effs tab i r vs E∧K (Wk (fun _=>true) i r vs E)

def eqL:List Nat→List Nat→Bool
 | [],[]=>true
 | a::l,b::m=>Nat.beq a b&&eqL l m
 | _,_=>false
theorem Gj3:∀ l:List Nat,eqL l l=true
 | []=>rfl
 | a::l=>by simp [eqL,Gj3 l]
theorem Gcw {id:Nat} (tbl:List (List Nat)) (effs:List Bool) (tab:List Gai) (hm:P.follows .mixedOrders=true) (hB:Gos l tbl=true) (h0:tab[0]?=some ([],low,loc)) (hlow:tab.all (fun M=>Nat.beq M.2.1.length low.length)=true)
  (hdst:l.all (fun o=>Gcc nt o.dst)=true) (full:List Nat) (Mz:Zd) (hf:(exN l.length effs fun _=>true)=full) (hz:tab.filter (fun M=>eqL M.1 full)=[(full,Mz)]) (hs:Gnk P l tbl effs tab 0 l E fun E'=>Q .normal E' Mz.1 Mz.2):VWp P nt (.region id l.toArray true) Q E low loc:=by
 obtain ⟨vs,h1,h2⟩:=hs (by simp)
 refine Gnl tbl effs tab vs hm hB h0 ?_ hdst h1 fun M hM=>?_
 ·rw [List.all_eq_true] at hlow ⊢
  intro M hM
  have:=Nat.eq_of_beq_eq_true (hlow M hM)
  simp [this]
 ·rw [hf] at hM
  have:(full,M) ∈ tab.filter (fun M=>eqL M.1 full):=List.mem_filter.2 ⟨hM,Gj3 full⟩
  rw [hz] at this
  have:=List.mem_singleton.1 this
  injection this with _ e
  subst e
  exact h2

theorem Gev (h:K E):Gnk P l tbl effs tab i [] E K:=fun _=>⟨[],trivial,h⟩

variable {d:Option Nat} {op:Op} {ty:TypeId} {pos:String} {aft:Array Edge} {v:PV}

theorem Vr (Ms:List Gai) (he:effs.getD i false=false) (hW:Got l.length tbl effs tab i=Ms) (h:RdX P ⟨d,op,ty,pos,aft,none⟩ (Ga5 E (Ym ⟨d,op,ty,pos,aft,none⟩)) v Ms) (hk:Gnk P l tbl effs tab (i+1) r (Gas E d v) K):Gnk P l tbl effs tab i (⟨d,op,ty,pos,aft,none⟩::r) E K:=by
 intro h2
 obtain ⟨vs,k1,k2⟩:=hk (by simp at h2;omega)
 refine ⟨v::vs,⟨?_,k1⟩,by simpa [Wk] using k2⟩
 unfold Gj4 Gnm
 simp only [he,Bool.false_eq_true,if_false,hW]
 exact h
theorem Zl (Ms:List Gai) (he:effs.getD i false=true) (hW:Got l.length tbl effs tab i=Ms) (h:EfX P l.length tab i ⟨d,op,ty,pos,aft,none⟩ (Ga5 E (Ym ⟨d,op,ty,pos,aft,none⟩)) v Ms) (hk:Gnk P l tbl effs tab (i+1) r (Gas E d v) K):Gnk P l tbl effs tab i (⟨d,op,ty,pos,aft,none⟩::r) E K:=by
 intro h2
 obtain ⟨vs,k1,k2⟩:=hk (by simp at h2;omega)
 refine ⟨v::vs,⟨?_,k1⟩,by simpa [Wk] using k2⟩
 unfold Gj4 Gnm
 simp only [he,if_true,hW]
 exact h
theorem rx0 {o:Oper}:RdX P o E v []:=trivial
theorem rx1 {o:Oper} {M:Gai} {Ms:List Gai} (h:VNt P o E M.2.1 M.2.2 v) (hr:RdX P o E v Ms):RdX P o E v (M::Ms):=⟨h,hr⟩
theorem ex0 {o:Oper} {n:Nat}:EfX P n tab i o E v []:=trivial
theorem ex1 {o:Oper} {n:Nat} {M:Gai} {Ms:List Gai} (k:Nat) {M':Zd} (hk:tab[k]?=some (Gou n M.1 i,M')) (h:VEf P o E M.2.1 M.2.2 fun v1 l1 l2=>v1=v∧l1=M'.1∧l2=M'.2) (hr:EfX P n tab i o E v Ms):EfX P n tab i o E v (M::Ms):=⟨⟨k,M',hk,h⟩,hr⟩

/-! ### new objects in a place that was kept free -/

inductive Mv (n f k m:Nat):PV→PV→Prop
 | low (c:PV) (h:LtN (n+f) c):Mv n f k m c c
 | sl (q off len:Nat) (h:q<m):Mv n f k m (.sl (n+(f+q)) 0 off len) (.sl (n+(k+q)) 1 off len)
 | ptr (q e j:Nat) (h:q<m):Mv n f k m (.ptr (n+(f+q)) 0 e j) (.ptr (n+(k+q)) 1 e j)
 | agg (cs ds:List PV) (hl:cs.length=ds.length) (h:∀ (i:Nat) (c e:PV),cs[i]?=some c→ds[i]?=some e→Mv n f k m c e):Mv n f k m (.agg cs) (.agg ds)
 | tup (cs ds:List PV) (hl:cs.length=ds.length) (h:∀ (i:Nat) (c e:PV),cs[i]?=some c→ds[i]?=some e→Mv n f k m c e):Mv n f k m (.tup cs) (.tup ds)

def MvL (n f k m:Nat):List PV→List PV→Prop
 | [],[]=>True
 | c::cs,e::es=>Mv n f k m c e∧MvL n f k m cs es
 | _,_=>False
theorem MvL.get {n f k m:Nat} {cs es:List PV} (h:MvL n f k m cs es):cs.length=es.length∧∀ (i:Nat) (c e:PV),cs[i]?=some c→es[i]?=some e→Mv n f k m c e:=by
 induction cs generalizing es with
 | nil=>cases es with
  | nil=>exact ⟨rfl,by simp⟩
  | cons=>exact h.elim
 | cons c cs ih=>cases es with
  | nil=>exact h.elim
  | cons e es =>
   obtain ⟨h1,h2⟩:=ih h.2
   refine ⟨by simp [h1],fun i a b ha hb=>?_⟩
   match i,ha,hb with
   | 0,ha,hb=>simp at ha hb;subst ha;subst hb;exact h.1
   | i+1,ha,hb=>exact h2 i a b (by simpa using ha) (by simpa using hb)
theorem Gl8 {n f k m:Nat} {c:PV} {a b off len:Nat} (q:Nat) (h:Nat.blt q m=true) (hc:c = .sl (n+a) 0 off len) (ha:a=f+q) (hb:b=k+q):Mv n f k m c (.sl (n+b) 1 off len):=by
 subst hc;subst ha;subst hb;exact .sl q off len (Nat.le_of_ble_eq_true h)
theorem Gcb {n f k m:Nat} {c:PV} {a b e j:Nat} (q:Nat) (h:Nat.blt q m=true) (hc:c = .ptr (n+a) 0 e j) (ha:a=f+q) (hb:b=k+q):Mv n f k m c (.ptr (n+b) 1 e j):=by
 subst hc;subst ha;subst hb;exact .ptr q e j (Nat.le_of_ble_eq_true h)

inductive MvO (n f k m:Nat):AObj→AObj→Prop
 | same (ty sz:Nat) (es:List PV) (h:Ga6 (n+f) ⟨ty,sz,es,0⟩):MvO n f k m ⟨ty,sz,es,0⟩ ⟨ty,sz,es,1⟩
 | agg (ty sz:Nat) (cs ds:List PV) (h:MvL n f k m cs ds):MvO n f k m ⟨ty,sz,[.agg cs],0⟩ ⟨ty,sz,[.agg ds],1⟩
 | one (ty sz:Nat) (c e:PV) (h:Mv n f k m c e) (hc:c.cells=[c]) (he:e.cells=[e]):MvO n f k m ⟨ty,sz,[c],0⟩ ⟨ty,sz,[e],1⟩

theorem MvO.cells {n f k m:Nat} {a b:AObj} (h:MvO n f k m a b) (hw:∀ (i:Nat) (e:PV),a.es[i]?=some e→e.cells.length=a.sz) :
  b.sz=a.sz∧b.ty=a.ty∧a.ver=0∧b.ver=1∧b.es.length=a.es.length∧(∀ (i:Nat) (e:PV),b.es[i]?=some e→e.cells.length=b.sz)∧(∀ i j e,cellOf b.es i j=some e→∃ c,cellOf a.es i j=some c∧Mv n f k m c e):=by
 cases h with
 | same ty sz es h =>
  refine ⟨rfl,rfl,rfl,rfl,rfl,hw,fun i j e hx=>⟨e,hx,.low e ?_⟩⟩
  obtain ⟨x,hx',_⟩:=Yq hx
  have hxx:=hx
  unfold cellOf at hxx
  rw [hx'] at hxx
  exact Gba (h x (List.mem_of_getElem? hx')) hxx
 | agg ty sz cs ds h =>
  obtain ⟨hl,hh⟩:=h.get
  refine ⟨rfl,rfl,rfl,rfl,rfl,fun i e he=>?_,fun i j e h'=>?_⟩
  ·match i,he with
   | 0,he =>
    simp at he
    subst he
    have:=hw 0 (.agg cs) rfl
    simp only [PV.cells] at this ⊢
    omega
   | i+1,he=>simp at he
  ·obtain ⟨rfl,h2⟩:=Xy h'
   clear h'
   simp only [PV.cells] at h2
   have hj:j<cs.length:=by
    have:=(List.getElem?_eq_some_iff.1 h2).1
    omega
   exact ⟨cs[j],by simp [cellOf,PV.cells,hj],hh j _ e (List.getElem?_eq_getElem hj) h2⟩
 | one ty sz c e h hc he =>
  refine ⟨rfl,rfl,rfl,rfl,rfl,fun i e' he'=>?_,fun i j e' h'=>?_⟩
  ·match i,he' with
   | 0,he' =>
    simp at he'
    subst he'
    have:=hw 0 c rfl
    rw [he]
    rw [hc] at this
    exact this
   | i+1,he'=>simp at he'
  ·obtain ⟨rfl,h2⟩:=Xy h'
   clear h'
   rw [he] at h2
   match j,h2 with
   | 0,h2 =>
    simp at h2
    subst h2
    exact ⟨c,by simp [cellOf,hc],h⟩
   | j+1,h2=>simp at h2

def Gov (n f k m:Nat):List AObj→List AObj→Prop
 | [],[]=>True
 | a::l,b::r=>MvO n f k m a b∧Gov n f k m l r
 | _,_=>False
theorem Gov.get {n f k m:Nat}:∀ {l r:List AObj},Gov n f k m l r→l.length=r.length∧∀ (i:Nat) (a b:AObj),l[i]?=some a→r[i]?=some b→MvO n f k m a b
 | [],[],_=>⟨rfl,by simp⟩
 | [],_::_,h=>h.elim
 | _::_,[],h=>h.elim
 | a::l,b::r,h=>by
  obtain ⟨h1,h2⟩:=Gov.get h.2
  refine ⟨by simp [h1],fun i a' b' ha hb=>?_⟩
  match i,ha,hb with
  | 0,ha,hb=>simp at ha hb;subst ha;subst hb;exact h.1
  | i+1,ha,hb=>exact h2 i a' b' (by simpa using ha) (by simpa using hb)

def Gj5 (k:Nat) (loc:List AObj):Nat→Prop
 | 0=>True
 | m+1=>(∃ o,loc[k]?=some o∧o.ver=0)∧Gj5 (k+1) loc m
theorem Gj5.get {loc:List AObj}:∀ {m k:Nat},Gj5 k loc m→∀ i,i<m→∃ o,loc[k+i]?=some o∧o.ver=0
 | 0,_,_,i,hi=>by omega
 | m+1,k,h,i,hi=>by
  match i with
  | 0=>exact h.1
  | i+1 =>
   obtain ⟨o,h1,h2⟩:=Gj5.get h.2 i (by omega)
   exact ⟨o,by rw [show k+(i+1)=k+1+i by omega];exact h1,h2⟩

theorem Yh {o:Oper} {n f k m:Nat} {os os' loc':List AObj} {v v':PV} (hn:low.length=n) (hf:loc.length=f) (hm:os.length=m) (hfree:Gj5 k loc m)
  (h:VEf P o E low loc fun v1 l1 l2=>v1=v∧l1=low∧l2=loc++os) (hv:Mv n f k m v v') (ho:Gov n f k m os os') (hloc:loc'=loc.take k++os'++loc.drop (k+m)) :
  VEf P o E low loc fun v1 l1 l2=>v1=v'∧l1=low∧l2=loc':=by
 subst hn;subst hf;subst hm
 intro g nt a w hr Kr Qr hK
 refine h g nt a w hr Kr Qr ?_
 intro x w' g' v1 l1 l2 he hl hvr hrm hst
 obtain ⟨e1,e2,e3⟩:=he
 rw [e2,e3,← List.append_assoc] at hrm hst
 rw [e1,e2,e3,← List.append_assoc] at hvr
 clear hl e1 e2 e3
 obtain ⟨hlen,hob⟩:=ho.get
 have hkm:os.length≠0→k+os.length≤loc.length:=fun h0=>by
  obtain ⟨o,h1,_⟩:=hfree.get (os.length-1) (by omega)
  have:=(List.getElem?_eq_some_iff.1 h1).1
  omega
 -- the case of no new object
 by_cases hm0:os.length=0
 ·have e1:os=[]:=List.eq_nil_of_length_eq_zero hm0
  subst e1
  have e2:os'=[]:=List.eq_nil_of_length_eq_zero (by rw [← hlen];rfl)
  subst e2
  have e3:loc'=loc:=by rw [hloc];simp
  subst e3
  rw [List.append_nil] at hvr hrm hst
  have:∀ (c e:PV),Mv low.length loc'.length k ([]:List AObj).length c e→∀ x,VR g' (low++loc') w' c x→VR g' (low++loc') w' e x:=by
   intro c e hce
   induction hce with
   | low c h=>exact fun x hx=>hx
   | sl q off len h=>simp at h
   | ptr q e j h=>simp at h
   | agg cs ds hl hh ih =>
    intro x hx
    obtain ⟨xs,rfl,hlx,hvv⟩:=hx.agg_inv
    refine .agg ds xs (by omega) fun i c x hc hx=>?_
    have hi:i<cs.length:=by
     have:=(List.getElem?_eq_some_iff.1 hc).1
     omega
    exact ih i _ c (List.getElem?_eq_getElem hi) hc x (hvv i _ x (List.getElem?_eq_getElem hi) hx)
   | tup cs ds hl hh ih =>
    intro x hx
    obtain ⟨xs,rfl,hlx,hvv⟩:=hx.tup_inv
    refine .tup ds xs (by omega) fun i c x hc hx=>?_
    have hi:i<cs.length:=by
     have:=(List.getElem?_eq_some_iff.1 hc).1
     omega
    exact ih i _ c (List.getElem?_eq_getElem hi) hc x (hvv i _ x (List.getElem?_eq_getElem hi) hx)
  exact hK x w' g' v' low loc' ⟨rfl,rfl,rfl⟩ rfl (this _ _ hv x hvr) hrm hst
 have hkm:=hkm hm0
 have hloclen:loc'.length=loc.length:=by rw [hloc];simp;omega
 -- what stands where behind it
 have hL:∀ r,r<low.length→(low++loc')[r]?=(low++loc)[r]?:=fun r hr=>by rw [List.getElem?_append_left hr,List.getElem?_append_left hr]
 have hIn:∀ q,q<os.length→(low++loc')[low.length+(k+q)]?=os'[q]?:=fun q hq=>by
  rw [List.getElem?_append_right (by omega),Nat.add_sub_cancel_left,hloc]
  rw [List.getElem?_append_left (by simp;omega),List.getElem?_append_right (by simp;omega)]
  congr 1
  simp
  omega
 have hOut:∀ r,low.length≤r→(r<low.length+k∨low.length+k+os.length≤r)→r<low.length+loc.length→(low++loc')[r]?=(low++loc)[r]?:=fun r h1 h2 h3=>by
  rw [List.getElem?_append_right h1,List.getElem?_append_right h1,hloc]
  rcases h2 with h2 | h2
  ·rw [List.getElem?_append_left (by simp;omega),List.getElem?_append_left (by simp;omega),List.getElem?_take_of_lt (by omega)]
  ·rw [List.getElem?_append_right (by simp;omega),List.getElem?_drop]
   congr 1
   simp
   omega
 have hOld:∀ r,r<low.length+loc.length→(low++loc++os)[r]?=(low++loc)[r]?:=fun r h=>by rw [List.getElem?_append_left (by simp;omega)]
 have hNew:∀ q,(low++loc++os)[low.length+(loc.length+q)]?=os[q]?:=fun q=>by
  rw [List.getElem?_append_right (by simp)]
  congr 1
  simp
  omega
 let inP:Nat→Prop:=fun r=>low.length+k≤r∧r<low.length+k+os.length
 let g2:Gh:=⟨g'.F,fun r=>if low.length+k≤r∧r<low.length+k+os.length then g'.β (r-k+loc.length) else if r<low.length+loc.length then g'.β r else none⟩
 have b1:∀ q,q<os.length→g2.β (low.length+(k+q))=g'.β (low.length+(loc.length+q)):=fun q hq=>by
  show (if low.length+k≤low.length+(k+q)∧low.length+(k+q)<low.length+k+os.length then g'.β (low.length+(k+q)-k+loc.length) else _)=_
  rw [if_pos (by omega)]
  congr 1
  omega
 have b2:∀ r,¬ (low.length+k≤r∧r<low.length+k+os.length)→r<low.length+loc.length→g2.β r=g'.β r:=fun r h1 h2=>by
  show (if low.length+k≤r∧r<low.length+k+os.length then _ else if r<low.length+loc.length then g'.β r else none)=_
  rw [if_neg h1,if_pos h2]
 have b3:∀ r b C,g2.β r=some (b,C)→(∃ q,q<os.length∧r=low.length+(k+q)∧g'.β (low.length+(loc.length+q))=some (b,C))∨(¬ (low.length+k≤r∧r<low.length+k+os.length)∧r<low.length+loc.length∧g'.β r=some (b,C)):=fun r b C h=>by
  by_cases h1:low.length+k≤r∧r<low.length+k+os.length
  ·refine .inl ⟨r-(low.length+k),by omega,by omega,?_⟩
   have:=b1 (r-(low.length+k)) (by omega)
   rw [show low.length+(k+(r-(low.length+k)))=r by omega,h] at this
   exact this.symm
  ·by_cases h2:r<low.length+loc.length
   ·exact .inr ⟨h1,h2,(b2 r h1 h2) ▸ h⟩
   ·exfalso
    have h':(if low.length+k≤r∧r<low.length+k+os.length then g'.β (r-k+loc.length) else if r<low.length+loc.length then g'.β r else none)=some (b,C):=h
    rw [if_neg h1,if_neg h2] at h'
    cases h'
 -- the step for what was there
 have hst2:GStep (low.length+loc.length) g' (low++loc++os) w' g2 (low++loc') w':=by
  refine ⟨rfl,rfl,rfl,Nat.le_refl _,fun b h=>h,fun _ _=>rfl,fun r a hr' ha=>?_⟩
  rw [hOld r hr'] at ha
  by_cases h1:low.length+k≤r∧r<low.length+k+os.length
  ·obtain ⟨p,hp,hp0⟩:=hfree.get (r-(low.length+k)) (by omega)
   have:(low++loc)[r]?=some p:=by
    rw [List.getElem?_append_right (by omega)]
    rw [show k+(r-(low.length+k))=r-low.length by omega] at hp
    exact hp
   rw [this] at ha
   injection ha with ha
   subst ha
   have hq:r-(low.length+k)<os.length:=by omega
   have hq':r-(low.length+k)<os'.length:=by omega
   have hi:=hIn (r-(low.length+k)) hq
   rw [show low.length+(k+(r-(low.length+k)))=r by omega,List.getElem?_eq_getElem hq'] at hi
   have hmv:=hob _ _ _ (List.getElem?_eq_getElem hq) (List.getElem?_eq_getElem hq')
   have hwid:=(hrm.obj _ _ ((hNew (r-(low.length+k))).trans (List.getElem?_eq_getElem hq))).width
   obtain ⟨_,_,_,hv1,_⟩:=hmv.cells hwid
   exact ⟨_,hi,by omega,fun e=>by omega⟩
  ·refine ⟨a,?_,Nat.le_refl _,fun _=>⟨rfl,rfl,b2 r h1 hr'⟩⟩
   rw [← ha]
   by_cases h2:r<low.length
   ·exact hL r h2
   ·exact hOut r (by omega) (by omega) hr'
 have hcase:∀ r o,(low++loc')[r]?=some o→(∃ q p,q<os.length∧r=low.length+(k+q)∧os[q]?=some p∧os'[q]?=some o∧MvO low.length loc.length k os.length p o)∨(¬ (low.length+k≤r∧r<low.length+k+os.length)∧r<low.length+loc.length∧(low++loc)[r]?=some o):=fun r o ho=>by
  by_cases h1:low.length+k≤r∧r<low.length+k+os.length
  ·have hq:r-(low.length+k)<os.length:=by omega
   have hi:=hIn _ hq
   rw [show low.length+(k+(r-(low.length+k)))=r by omega,ho] at hi
   exact .inl ⟨r-(low.length+k),os[r-(low.length+k)],hq,by omega,List.getElem?_eq_getElem hq,hi.symm,hob _ _ _ (List.getElem?_eq_getElem hq) hi.symm⟩
  ·have hrl:=(List.getElem?_eq_some_iff.1 ho).1
   rw [List.length_append,hloclen] at hrl
   refine .inr ⟨h1,hrl,?_⟩
   rw [← ho]
   by_cases h2:r<low.length
   ·exact (hL r h2).symm
   ·exact (hOut r (by omega) (by omega) hrl).symm
 have real:∀ (c e:PV),Mv low.length loc.length k os.length c e→∀ x:Value,VR g' (low++loc++os) w' c x→VR g2 (low++loc') w' e x:=by
  intro c e hce
  induction hce with
  | low c h=>exact fun x hx=>hx.step hst2 h
  | sl q off len h =>
   intro x hx
   cases hx with
   | imm h=>cases h
   | sl _ _ _ _ p _ hp hv1 h1 hx =>
    have hp':=hp
    rw [hNew q] at hp'
    have hq':q<os'.length:=by omega
    have hmv:=hob _ _ _ hp' (List.getElem?_eq_getElem hq')
    obtain ⟨s1,_,s2,s3,s4,_⟩:=hmv.cells (hrm.obj _ _ hp).width
    refine .sl _ 1 off len os'[q] x ((hIn q h).trans (List.getElem?_eq_getElem hq')) (by omega) h1 fun e=>?_
    have:=hx s2.symm
    unfold SL at this ⊢
    rw [s1,s4,b1 q h]
    exact this
  | ptr q e j h =>
   intro x hx
   cases hx with
   | imm h=>cases h
   | ptr _ _ _ _ p ad hp hv1 ha =>
    have hp':=hp
    rw [hNew q] at hp'
    have hq':q<os'.length:=by omega
    have hmv:=hob _ _ _ hp' (List.getElem?_eq_getElem hq')
    obtain ⟨s1,_,s2,s3,s4,_⟩:=hmv.cells (hrm.obj _ _ hp).width
    refine .ptr _ 1 e j os'[q] ad ((hIn q h).trans (List.getElem?_eq_getElem hq')) (by omega) fun e=>?_
    have:=ha s2.symm
    rw [s1,s4,b1 q h]
    exact this
  | agg cs ds hl hh ih =>
   intro x hx
   obtain ⟨xs,rfl,hlx,hvv⟩:=hx.agg_inv
   refine .agg ds xs (by omega) fun i c x hc hx=>?_
   have hi:i<cs.length:=by
    have:=(List.getElem?_eq_some_iff.1 hc).1
    omega
   exact ih i _ c (List.getElem?_eq_getElem hi) hc x (hvv i _ x (List.getElem?_eq_getElem hi) hx)
  | tup cs ds hl hh ih =>
   intro x hx
   obtain ⟨xs,rfl,hlx,hvv⟩:=hx.tup_inv
   refine .tup ds xs (by omega) fun i c x hc hx=>?_
   have hi:i<cs.length:=by
    have:=(List.getElem?_eq_some_iff.1 hc).1
    omega
   exact ih i _ c (List.getElem?_eq_getElem hi) hc x (hvv i _ x (List.getElem?_eq_getElem hi) hx)
 have hrm2:RelM g2 low.length (low++loc') w':=by
  refine ⟨hrm.fb,?_,?_,?_,by simp,?_⟩
  ·intro r r' b C C' h1 h2
   rcases b3 r b C h1 with ⟨q,hq,rfl,hb⟩ | ⟨n1,n2,hb⟩
   ·rcases b3 r' b C' h2 with ⟨q',hq',rfl,hb'⟩ | ⟨n1',n2',hb'⟩
    ·have:=hrm.inj _ _ _ _ _ hb hb'
     omega
    ·have:=hrm.inj _ _ _ _ _ hb hb'
     omega
   ·rcases b3 r' b C' h2 with ⟨q',hq',rfl,hb'⟩ | ⟨n1',n2',hb'⟩
    ·have:=hrm.inj _ _ _ _ _ hb hb'
     omega
    ·exact hrm.inj _ _ _ _ _ hb hb'
  ·intro r b C h1
   rw [List.length_append,hloclen]
   rcases b3 r b C h1 with ⟨q,hq,rfl,hb⟩ | ⟨n1,n2,hb⟩
   ·omega
   ·omega
  ·intro r o ho
   rcases hcase r o ho with ⟨q,p,hq,rfl,hp,hp',hmv⟩ | ⟨n1,n2,ho'⟩
   ·obtain ⟨a1,a2,a3⟩:=hrm.obj _ p ((hNew q).trans hp)
    obtain ⟨s1,s2,_,_,s4,s5,s6⟩:=hmv.cells a2
    refine ⟨by omega,s5,?_⟩
    rw [b1 q hq]
    cases hbb:g'.β (low.length+(loc.length+q)) with
    | none =>
     rw [hbb] at a3
     refine List.eq_nil_of_length_eq_zero ?_
     rw [s4,a3]
     rfl
    | some bc =>
     rw [hbb] at a3
     obtain ⟨q1,cells',q2,q3,q4,q5,q6⟩:=a3
     refine ⟨q1,cells',by rw [s2];exact q2,by rw [s1];exact q3,q4,by rw [s4];exact q5,fun i j e hcc=>?_⟩
     obtain ⟨c,hc1,hc2⟩:=s6 i j e hcc
     obtain ⟨u,u1,u2,u3⟩:=q6 i j c hc1
     exact ⟨u,by rw [s1];exact u1,u2,real c e hc2 u u3⟩
   ·obtain ⟨a1,a2,a3⟩:=hrm.obj r o ((hOld r n2).trans ho')
    refine ⟨a1,a2,?_⟩
    rw [b2 r n1 n2]
    obtain ⟨_,_,a3'⟩:=hr.m.obj r o ho'
    cases hbb:g'.β r with
    | none=>rw [hbb] at a3;exact a3
    | some bc =>
     rw [hbb] at a3
     obtain ⟨q1,cells',q2,q3,q4,q5,q6⟩:=a3
     refine ⟨q1,cells',q2,q3,q4,q5,fun i j e hcc=>?_⟩
     obtain ⟨u,h1,h2,h3⟩:=q6 i j e hcc
     refine ⟨u,h1,h2,h3.step hst2 ?_⟩
     -- what lay there refers to what was there
     cases hbo:g.β r with
     | none =>
      rw [hbo] at a3'
      have a3':o.es=[]:=a3'
      rw [a3'] at hcc
      simp [cellOf] at hcc
     | some bc0 =>
      rw [hbo] at a3'
      obtain ⟨_,_,_,_,_,_,q6'⟩:=a3'
      obtain ⟨_,_,_,h3'⟩:=q6' i j e hcc
      have:=h3'.ltN
      rwa [List.length_append] at this
  ·intro r o hrn ho
   rw [hL r hrn] at ho
   exact hr.m.lt r o hrn ho
 have hst':GStep (low++loc).length g (low++loc) w g2 (low++loc') w':=by
  rw [List.length_append] at hst ⊢
  exact hst.trans hst2
 exact hK x w' g2 v' low loc' ⟨rfl,rfl,rfl⟩ rfl (real _ _ hv x hvr) hrm2 hst'

theorem Gga {tab:List Gai} (h:∀ M ∈ tab,M.2.1.length=low.length):tab.all (fun M=>Nat.beq M.2.1.length low.length)=true:=by
 rw [List.all_eq_true]
 intro M hM
 rw [h M hM]
 exact Nat.beq_refl _
theorem Zp {p:Gai→Prop} {a:Gai} {Ms:List Gai} (h:p a) (h':∀ M ∈ Ms,p M):∀ M ∈ a::Ms,p M:=List.forall_mem_cons.2 ⟨h,h'⟩
theorem Gl3 {p:Gai→Prop}:∀ M ∈ ([]:List Gai),p M:=fun _ h=>by cases h

theorem Ga9 (elem sz:Nat) (hp:0<sz):Jn E low loc E low (loc++[⟨elem,sz,[],0⟩]):=by
 refine ⟨rfl,fun g nt a w hr=>?_⟩
 obtain ⟨h1,h2⟩:=hr.m.new0 elem sz hp
 rw [← List.append_assoc]
 exact ⟨_,⟨h2,hr.e.step h1⟩,h1.less (by simp)⟩
end
end Go.Aml
