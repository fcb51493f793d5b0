/- The abstract memory logic, part C: operations that only look. -/
import Derived.Test.YticjalhfpjlbdaaAmlB
namespace Go.Aml
open Go

/-! ### what a value is, from what is said of it -/
section
variable {g:Gh} {H:List AObj} {w:World} {x:Value}
theorem VR.bool_inv {b:Bool} (h:VR g H w (.bool b) x):x = .bool b:=by cases h with | imm h=>cases h;rfl
theorem VR.int_inv {k:IntKind} {n:Int} (h:VR g H w (.int k n) x):x = .int k n:=by cases h with | imm h=>cases h;rfl
theorem VR.str_inv {s:ByteArray} (h:VR g H w (.str s) x):x = .string s:=by cases h with | imm h=>cases h;rfl
theorem VR.nilp_inv (h:VR g H w .nilp x):x = .pointer none:=by cases h with | imm h=>cases h;rfl
theorem VR.nils_inv (h:VR g H w .nils x):x = .slice none 0 0:=by cases h with | imm h=>cases h;rfl
theorem VR.z0_inv (h:VR g H w .z0 x):∃ a,x = .slice a 0 0:=by cases h with | imm h=>cases h;exact ⟨_,rfl⟩
theorem VR.agg_inv {cs:List PV} (h:VR g H w (.agg cs) x):∃ xs:List Value,x = .agg xs.toArray∧cs.length=xs.length∧∀ (i:Nat) (c:PV) (y:Value),cs[i]?=some c→xs[i]?=some y→VR g H w c y:=by
 cases h with
 | imm h=>cases h with | agg _ xs hl hv=>exact ⟨xs,rfl,hl,fun i c y hc hy=>.imm (hv i c y hc hy)⟩
 | agg _ xs hl hv=>exact ⟨xs,rfl,hl,hv⟩
theorem VR.tup_inv {cs:List PV} (h:VR g H w (.tup cs) x):∃ xs:List Value,x = .tuple xs.toArray∧cs.length=xs.length∧∀ (i:Nat) (c:PV) (y:Value),cs[i]?=some c→xs[i]?=some y→VR g H w c y:=by
 cases h with
 | imm h=>cases h with | tup _ xs hl hv=>exact ⟨xs,rfl,hl,fun i c y hc hy=>.imm (hv i c y hc hy)⟩
 | tup _ xs hl hv=>exact ⟨xs,rfl,hl,hv⟩
theorem VR.bool (b:Bool):VR g H w (.bool b) (.bool b):=.imm (.bool b)
theorem VR.int (k:IntKind) (n:Int):VR g H w (.int k n) (.int k n):=.imm (.int k n)
end

def Ws (P:Program) (t:TypeId):Option Bool:=(P.underlying t).map fun | .struct _ | .array _ _=>true | _=>false
def Ut (P:Program) (t:TypeId):Option Nat:=(P.info? t).map (·.size)
def Xk (P:Program) (t:TypeId) (f:Nat):Option (TypeId×Nat):=match P.underlying t with | some (.struct fs)=>(fs[f]?).map fun x=>(x.type,x.offset) | _=>none
def Wz (P:Program) (t:TypeId):Option TypeId:=match P.underlying t with | some (.slice e)=>some e | _=>none
def God (P:Program) (t:TypeId):Option (Nat×TypeId):=match P.underlying t with | some (.array n e)=>some (n,e) | _=>none
def Wp (P:Program) (t:TypeId):Option Value:=(P.info? t).bind (·.zero)
def Goc (P:Program) (t:TypeId):Option IntKind:=match P.underlying t with | some (.int k)=>some k | _=>none
def Gtr (P:Program) (t:TypeId):Bool:=match P.underlying t with | some .string=>true | _=>false
def Gjr (P:Program) (t:TypeId):Bool:=match P.underlying t with | some .bool=>true | _=>false

section
variable {P:Program} {w:World}
theorem Gbb {t:TypeId} {b:Bool} (h:Ws P t=some b):(isAgg t).run P w = .ok b w:=by
 unfold Ws at h
 cases hu:P.underlying t with
 | none=>simp [hu] at h
 | some d =>
  rw [hu] at h
  unfold isAgg
  rw [Sem.run_bind,run_underlying hu]
  cases d <;> simp at h <;> subst h <;> rfl
theorem Ww {t:TypeId} {n:Nat} (h:Ut P t=some n):(sizeOf t).run P w = .ok n w:=by
 unfold Ut at h
 cases hu:P.info? t with
 | none=>simp [hu] at h
 | some i =>
  simp [hu] at h
  simp [sizeOf,typeInfo,hu,h]
theorem Gd7 {t:TypeId} {v:Value} (h:Wp P t=some v):(zeroValue t).run P w = .ok v w:=by
 unfold Wp at h
 cases hu:P.info? t with
 | none=>simp [hu] at h
 | some i =>
  simp [hu] at h
  simp [zeroValue,typeInfo,hu,h]
theorem Vy {t e:TypeId} (h:Wz P t=some e):P.underlying t=some (.slice e):=by
 unfold Wz at h
 split at h <;> simp_all
theorem Gg2 {t:TypeId} {k:IntKind} (h:Goc P t=some k):P.underlying t=some (.int k):=by
 unfold Goc at h
 split at h <;> simp_all
theorem Ggw {t e:TypeId} {n:Nat} (h:God P t=some (n,e)):P.underlying t=some (.array n e):=by
 unfold God at h
 split at h <;> simp_all
theorem Gj0 {t:TypeId} (h:Gjr P t=true):P.underlying t=some .bool:=by
 unfold Gjr at h
 split at h <;> simp_all
theorem Gek {t:TypeId} {f:Nat} {ft off:Nat} (h:Xk P t f=some (ft,off)):∃ (fs:Array Field) (fd:Field),P.underlying t=some (.struct fs)∧fs[f]?=some fd∧fd.type=ft∧fd.offset=off:=by
 unfold Xk at h
 split at h
 ·rename_i fs hu
  cases hf:fs[f]? with
  | none=>simp [hf] at h
  | some fd =>
   simp [hf] at h
   exact ⟨fs,fd,hu,hf,h.1,h.2⟩
 ·simp at h
end

def Gbq (low loc:List AObj) (r:Nat) (o:AObj):Prop:=(low++loc)[r]?=some o
theorem Ggt {low loc:List AObj} {k:Nat} {o:AObj} (h:loc[k]?=some o):Gbq low loc (low.length+k) o:=by
 unfold Gbq
 rw [List.getElem?_append_right (by omega)]
 simpa using h
theorem Gon {low loc:List AObj} {r:Nat} {o:AObj} (h:low[r]?=some o):Gbq low loc r o:=by
 unfold Gbq
 rw [List.getElem?_append_left (List.getElem?_eq_some_iff.1 h).1]
 exact h

section
variable {P:Program} {E:Env} {low loc:List AObj} {d:Option Nat} {ty:TypeId} {pos:String} {aft:Array Edge} {gd:Option (Nat×Bool)} {x y z:Operand} {t:TypeId}

theorem Gp7:VRd P ⟨d,.move x,ty,pos,aft,gd⟩ E low loc (PE E x):=fun _ _ a _ hr=>⟨a.eval x,rfl,hr.e.eval x⟩
theorem Gng:VRd P ⟨d,.assign x,ty,pos,aft,gd⟩ E low loc (PE E x):=fun _ _ a _ hr=>⟨a.eval x,rfl,hr.e.eval x⟩
theorem Gcr {v:PV} (h:PE E x=v):VRd P ⟨d,.move x,ty,pos,aft,gd⟩ E low loc v:=h ▸ Gp7
theorem Gah {v:PV} (h:PE E x=v):VRd P ⟨d,.assign x,ty,pos,aft,gd⟩ E low loc v:=h ▸ Gng

theorem Gmg {b:Bool} (hc:PE E z = .bool b):VRd P ⟨d,.pick z x y,ty,pos,aft,gd⟩ E low loc (bif b then PE E x else PE E y):=by
 intro g nt a w hr
 have hz:=(hc ▸ hr.e.eval z).bool_inv
 cases b
 ·exact ⟨a.eval y,by simp [execOp,hz,asBool],hr.e.eval y⟩
 ·exact ⟨a.eval x,by simp [execOp,hz,asBool],hr.e.eval x⟩

theorem Goo {op:BinOp} {yt:TypeId} {u v:PV} {xv yv rv:Value} {p:PV} (hx:PE E x=u) (hy:PE E y=v) (hu:∀ (g:Gh) (H:List AObj) (w:World) (z:Value),VR g H w u z→z=xv) (hv:∀ (g:Gh) (H:List AObj) (w:World) (z:Value),VR g H w v z→z=yv)
  (hg:eqGuard op t x y xv yv=pure ()) (hrun:∀ w,(binOp op t xv yv).run P w = .ok rv w) (hp:∀ (g:Gh) (H:List AObj) (w:World),VR g H w p rv):VRd P ⟨d,.binOp op t x y yt,ty,pos,aft,gd⟩ E low loc p:=by
 intro g nt a w hr
 have hxx:=hu _ _ _ _ (hx ▸ hr.e.eval x)
 have hyy:=hv _ _ _ _ (hy ▸ hr.e.eval y)
 exact ⟨rv,by simp [execOp,hxx,hyy,hg,hrun],hp _ _ _⟩

section ints
variable {yt:TypeId} {k:IntKind} {m n r:Int}
theorem Gcd {op:BinOp} {rv:Value} {p:PV} (hx:PE E x = .int k m) (hy:PE E y = .int k n) (hrun:∀ w,(binOp op t (.int k m) (.int k n)).run P w = .ok rv w) (hp:∀ (g:Gh) (H:List AObj) (w:World),VR g H w p rv) :
  VRd P ⟨d,.binOp op t x y yt,ty,pos,aft,gd⟩ E low loc p :=
 Goo hx hy (fun _ _ _ _ h=>h.int_inv) (fun _ _ _ _ h=>h.int_inv) (eqGuard_at_int op t x y _ k m) hrun hp

theorem Ks (hx:PE E x = .int k m) (hy:PE E y = .int k n) (hw:k.wrap (m+n)=r):VRd P ⟨d,.binOp .add t x y yt,ty,pos,aft,gd⟩ E low loc (.int k r) :=
 Gcd hx hy (fun w=>by simp [binOp,Op.intArith,hw]) fun _ _ _=>.int k r
theorem Uj (hx:PE E x = .int k m) (hy:PE E y = .int k n) (hw:k.wrap (m-n)=r):VRd P ⟨d,.binOp .sub t x y yt,ty,pos,aft,gd⟩ E low loc (.int k r) :=
 Gcd hx hy (fun w=>by simp [binOp,Op.intArith,hw]) fun _ _ _=>.int k r
theorem Wv (hx:PE E x = .int k m) (hy:PE E y = .int k n) (hw:k.wrap (m*n)=r):VRd P ⟨d,.binOp .mul t x y yt,ty,pos,aft,gd⟩ E low loc (.int k r) :=
 Gcd hx hy (fun w=>by simp [binOp,Op.intArith,hw]) fun _ _ _=>.int k r
theorem Geb (hx:PE E x = .int k m) (hy:PE E y = .int k n) (h0:n≠0) (hw:k.wrap (m.tdiv n)=r):VRd P ⟨d,.binOp .quo t x y yt,ty,pos,aft,gd⟩ E low loc (.int k r) :=
 Gcd hx hy (fun w=>by simp [binOp,Op.intDiv,h0,hw]) fun _ _ _=>.int k r
theorem Git (hx:PE E x = .int k m) (hy:PE E y = .int k n) (h0:n≠0) (hw:m.tmod n=r):VRd P ⟨d,.binOp .rem t x y yt,ty,pos,aft,gd⟩ E low loc (.int k r) :=
 Gcd hx hy (fun w=>by simp [binOp,Op.intDiv,h0,hw]) fun _ _ _=>.int k r
theorem Kc (hx:PE E x = .int k m) (hy:PE E y = .int k n):VRd P ⟨d,.binOp .lss t x y yt,ty,pos,aft,gd⟩ E low loc (.bool (decide (m<n))) :=
 Gcd hx hy (fun w=>by rw [binOp_lss];rfl) fun _ _ _=>.bool _
theorem Za (hx:PE E x = .int k m) (hy:PE E y = .int k n):VRd P ⟨d,.binOp .leq t x y yt,ty,pos,aft,gd⟩ E low loc (.bool (decide (m≤n))) :=
 Gcd hx hy (fun w=>by rw [binOp_leq];rfl) fun _ _ _=>.bool _
theorem Sq (hx:PE E x = .int k m) (hy:PE E y = .int k n):VRd P ⟨d,.binOp .gtr t x y yt,ty,pos,aft,gd⟩ E low loc (.bool (decide (n<m))) :=
 Gcd hx hy (fun w=>by rw [binOp_gtr];rfl) fun _ _ _=>.bool _
theorem Wm (hx:PE E x = .int k m) (hy:PE E y = .int k n):VRd P ⟨d,.binOp .geq t x y yt,ty,pos,aft,gd⟩ E low loc (.bool (decide (n≤m))) :=
 Gcd hx hy (fun w=>by rw [binOp_geq];rfl) fun _ _ _=>.bool _
theorem Vm (hx:PE E x = .int k m) (hy:PE E y = .int k n):VRd P ⟨d,.binOp .eql t x y yt,ty,pos,aft,gd⟩ E low loc (.bool (decide (m=n))) :=
 Gcd hx hy (fun w=>by rw [binOp_eql,Sem.run_pure]) fun g H w=>by
  have:(m == n)=decide (m=n):=by by_cases h:m=n <;> simp [h]
  rw [this];exact .bool _
theorem Uc (hx:PE E x = .int k m) (hy:PE E y = .int k n):VRd P ⟨d,.binOp .neq t x y yt,ty,pos,aft,gd⟩ E low loc (.bool (decide (m≠n))) :=
 Gcd hx hy (fun w=>by rw [binOp_neq,Sem.run_pure]) fun g H w=>by
  have:(m != n)=decide (m≠n):=by by_cases h:m=n <;> simp [h,bne]
  rw [this];exact .bool _
theorem Yz (hx:PE E x = .int k m) (hw:k.wrap (0-m)=r):VRd P ⟨d,.unOp .neg t x,ty,pos,aft,gd⟩ E low loc (.int k r):=by
 intro g nt a w hr
 have hxx:=(hx ▸ hr.e.eval x).int_inv
 exact ⟨.int k r,by simp only [execOp,hxx,Op.unary,Op.intArith,hw];rfl,.int k r⟩
theorem Gl7 {src dst:TypeId} {k':IntKind} (hx:PE E x = .int k' m) (hs:(P.underlying src).isSome=true) (hd:Goc P dst=some k) (hw:k.wrap m=r):VRd P ⟨d,.convert src dst x,ty,pos,aft,gd⟩ E low loc (.int k r):=by
 intro g nt a w hr
 have hxx:=(hx ▸ hr.e.eval x).int_inv
 obtain ⟨ds,hs⟩:=Option.isSome_iff_exists.1 hs
 refine ⟨.int k r,?_,.int k r⟩
 simp [execOp,hxx,convert,run_underlying hs,run_underlying (Gg2 hd),Conv.intToInt,hw]
end ints

theorem Ue {b:Bool} (hx:PE E x = .bool b):VRd P ⟨d,.unOp .not t x,ty,pos,aft,gd⟩ E low loc (.bool (!b)):=by
 intro g nt a w hr
 have hxx:=(hx ▸ hr.e.eval x).bool_inv
 exact ⟨.bool !b,by simp only [execOp,hxx,Op.unary];rfl,.bool _⟩
theorem Gg3 {t:TypeId} (ht:Gjr P t=true) (w:World) (b c:Bool):(Op.equal t (.bool b) (.bool c)).run P w = .ok (b == c) w:=by
 have h:∀ n,(Op.equalIn (n+1) t (.bool b) (.bool c)).run P w = .ok (b == c) w:=fun n=>by simp [Op.equalIn,run_underlying (Gj0 ht)]
 exact h 9999
theorem Gpx {yt:TypeId} {b c:Bool} (hx:PE E x = .bool b) (hy:PE E y = .bool c) (ht:Gjr P t=true):VRd P ⟨d,.binOp .neq t x y yt,ty,pos,aft,gd⟩ E low loc (.bool (b != c)) :=
 Goo hx hy (fun _ _ _ _ h=>h.bool_inv) (fun _ _ _ _ h=>h.bool_inv) (eqGuard_at_bool _ t x y _ b)
  (fun w=>by simp only [binOp];simp only [Sem.run_bind,Gg3 ht w b c,Result.andThen_ok,Sem.run_pure];rfl) fun _ _ _=>.bool _
theorem Sn {vs:List PV} {i:Nat} {v:PV} (hx:PE E x = .tup vs) (hv:vs[i]?=some v):VRd P ⟨d,.extract x i,ty,pos,aft,gd⟩ E low loc v:=by
 intro g nt a w hr
 obtain ⟨xs,hxx,hl,hh⟩:=(hx ▸ hr.e.eval x).tup_inv
 have hi:i<xs.length:=by rw [← hl];exact (List.getElem?_eq_some_iff.1 hv).1
 refine ⟨xs[i],?_,hh i v _ hv (List.getElem?_eq_getElem hi)⟩
 simp [execOp,hxx,Instr.extract,hi]

theorem Gdv {cs:List PV} {f:Nat} {ft off:Nat} {v:PV} (hx:PE E x = .agg cs) (hf:Xk P t f=some (ft,off)) (ha:Ws P ft=some false) (hv:cs[off]?=some v) :
  VRd P ⟨d,.field t x f,ty,pos,aft,gd⟩ E low loc v:=by
 intro g nt a w hr
 obtain ⟨xs,hxx,hl,hh⟩:=(hx ▸ hr.e.eval x).agg_inv
 obtain ⟨fs,fd,hu,hfd,rfl,rfl⟩:=Gek hf
 have hi:fd.offset<xs.length:=by rw [← hl];exact (List.getElem?_eq_some_iff.1 hv).1
 refine ⟨xs[fd.offset],?_,hh _ v _ hv (List.getElem?_eq_getElem hi)⟩
 simp [execOp,hxx,Instr.field,run_underlying hu,hfd,asAgg,part,Gbb ha,hi]
theorem Uf {r v i j:Nat} (hx:PE E x = .ptr r v i j):VRd P ⟨d,.nilCheck x,ty,pos,aft,gd⟩ E low loc (.ptr r v i j):=by
 intro g nt a w hr
 have h:=hx ▸ hr.e.eval x
 generalize hz:a.eval x=z at h
 cases h with
 | imm h=>cases h
 | ptr _ _ _ _ o ad ho hv ha=>exact ⟨_,by simp only [execOp,hz];rfl,.ptr r v i j o ad ho hv ha⟩
theorem Gdi {P:Program} {w:World} {a:Addr} {f:Field} {n:Nat} (hs:Ut P f.type=some n) (hn:n≠0):(fieldPlace a f).run P w = .ok (a.add f.offset) w:=by
 simp [fieldPlace,Ww hs,hn]

theorem Gb {r v i j:Nat} {f:Nat} {ft off n:Nat} (hx:PE E x = .ptr r v i j) (hf:Xk P t f=some (ft,off)) (hs:Ut P ft=some n) (hn:n≠0) :
  VRd P ⟨d,.fieldAddr t x f,ty,pos,aft,gd⟩ E low loc (.ptr r v i (j+off)):=by
 intro g nt a w hr
 have h:=hx ▸ hr.e.eval x
 generalize hz:a.eval x=z at h
 obtain ⟨fs,fd,hu,hfd,rfl,rfl⟩:=Gek hf
 cases h with
 | imm h=>cases h
 | ptr _ _ _ _ o ad ho hv ha =>
  refine ⟨.pointer (some (ad.add fd.offset)),?_,.ptr r v i (j+fd.offset) o _ ho hv fun e=>?_⟩
  ·simp [execOp,hz,Instr.fieldAt,run_underlying hu,hfd,Instr.sureAddr,Gdi hs hn]
  ·obtain ⟨hi,b,C,hb,rfl⟩:=ha e
   exact ⟨hi,b,C,hb,by rw [Addr.add_lit,Nat.add_assoc]⟩
theorem Km {cs:List PV} {j:Nat} {f:Nat} {ft off n:Nat} (hx:PE E x = .vptr cs j) (hf:Xk P t f=some (ft,off)) (hs:Ut P ft=some n) (hn:n≠0) :
  VRd P ⟨d,.fieldAddr t x f,ty,pos,aft,gd⟩ E low loc (.vptr cs (j+off)):=by
 intro g nt a w hr
 have h:=hx ▸ hr.e.eval x
 generalize hz:a.eval x=z at h
 obtain ⟨fs,fd,hu,hfd,rfl,rfl⟩:=Gek hf
 cases h with
 | imm h =>
  cases h with
  | vptr _ _ b o u hF hc h1 hv =>
   refine ⟨.pointer (some ((⟨b,o+j,none⟩:Addr).add fd.offset)),?_,?_⟩
   ·simp [execOp,hz,Instr.fieldAt,run_underlying hu,hfd,Instr.sureAddr,Gdi hs hn]
   ·rw [Addr.add_lit,Nat.add_assoc]
    exact .imm (.vptr cs (j+fd.offset) b o u hF hc h1 hv)

theorem Ggz {g:Gh} {n:Nat} {w:World} {r v i j:Nat} {o:AObj} {zv:Value} (hm:RelM g n (low++loc) w) (h:VR g (low++loc) w (.ptr r v i j) zv) (ho:Gbq low loc r o) (hv:o.ver=v) :
  ∃ b C cells,zv = .pointer (some ⟨b,i*o.sz+j,none⟩)∧g.β r=some (b,C)∧i<o.es.length∧w.heap[b]?=some (.cells cells o.ty (0,0))∧cells.size=C*o.sz∧o.es.length≤C ∧
   ∀ i j c,cellOf o.es i j=some c→∃ u,cells[i*o.sz+j]?=some u∧u.oneCell'=true∧VR g (low++loc) w c u:=by
 cases h with
 | imm h=>cases h
 | ptr _ _ _ _ o' ad ho' hv' ha =>
  unfold Gbq at ho
  rw [ho] at ho'
  injection ho' with ho'
  subst ho'
  obtain ⟨hi,b,C,hb,rfl⟩:=ha hv.symm
  have hob:=(hm.obj r o ho).mem
  rw [hb] at hob
  obtain ⟨_,cells,h1,h2,_,h4,h5⟩:=hob
  exact ⟨b,C,cells,rfl,hb,hi,h1,h2,h4,h5⟩

theorem Gi {r v i j:Nat} {o:AObj} {c:PV} (hx:PE E x = .ptr r v i j) (ho:Gbq low loc r o) (hv:o.ver=v) (ha:Ws P t=some false) (hc:cellOf o.es i j=some c) :
  VRd P ⟨d,.load t x,ty,pos,aft,gd⟩ E low loc c:=by
 intro g nt a w hr
 obtain ⟨b,C,cells,hz,_,_,hb,_,_,hcells⟩:=Ggz hr.m (hx ▸ hr.e.eval x) ho hv
 obtain ⟨u,hu,_,hvr⟩:=hcells i j c hc
 refine ⟨u,?_,hvr⟩
 have hcell:w.cell? ⟨b,i*o.sz+j,none⟩=some u:=by rw [cell_of_row w b _ cells o.ty (0,0) hb];exact hu
 simp [execOp,hz,Instr.loadAt,Instr.sureAddr,loadVar,Gbb ha,hcell]

theorem Yq {es:List PV} {i j:Nat} {c:PV} (h:cellOf es i j=some c):∃ e,es[i]?=some e∧j<e.cells.length:=by
 unfold cellOf at h
 cases he:es[i]? with
 | none=>simp [he] at h
 | some e =>
  simp [he] at h
  exact ⟨e,rfl,(List.getElem?_eq_some_iff.1 h).1⟩

theorem Gz {r v i j n:Nat} {o:AObj} {e:PV} {ds:List PV} (hx:PE E x = .ptr r v i j) (ho:Gbq low loc r o) (hv:o.ver=v) (ha:Ws P t=some true) (hs:Ut P t=some n) (he:o.es[i]?=some e)
  (hd:(e.cells.drop j).take n=ds) (hn:ds.length=n):VRd P ⟨d,.load t x,ty,pos,aft,gd⟩ E low loc (.agg ds):=by
 intro g nt a w hr
 obtain ⟨b,C,cells,hz,_,_,hb,hC,hle,hcells⟩:=Ggz hr.m (hx ▸ hr.e.eval x) ho hv
 subst hd
 have hgot:∀ k (hk:k<n),∃ c,cellOf o.es i (j+k)=some c∧((e.cells.drop j).take n)[k]?=some c:=fun k hk=>by
  have h1:k<((e.cells.drop j).take n).length:=by rw [hn];exact hk
  refine ⟨_,?_,List.getElem?_eq_getElem h1⟩
  unfold cellOf
  rw [he]
  simp only [Option.bind_some]
  rw [← List.getElem?_drop,← List.getElem?_take_of_lt hk]
  exact List.getElem?_eq_getElem h1
 -- the values
 have hvals:∃ f:Nat→Value,∀ k,k<n→cells[i*o.sz+j+k]?=some (f k)∧(∀ c,((e.cells.drop j).take n)[k]?=some c→VR g (low++loc) w c (f k)):=by
  refine ⟨fun k=>cells.getD (i*o.sz+j+k) undef,fun k hk=>?_⟩
  obtain ⟨c,hc,hc'⟩:=hgot k hk
  obtain ⟨u,hu,_,hvr⟩:=hcells i (j+k) c hc
  rw [← Nat.add_assoc] at hu
  have:cells.getD (i*o.sz+j+k) undef=u:=by simp [Array.getD_eq_getD_getElem?,hu]
  refine ⟨hu.trans (congrArg some this.symm),fun c' hcc=>?_⟩
  rw [hc'] at hcc
  injection hcc with hcc
  subst hcc
  show VR g (low++loc) w c (cells.getD (i*o.sz+j+k) undef)
  rw [this]
  exact hvr
 obtain ⟨f,hf⟩:=hvals
 refine ⟨.agg ((List.range n).map f).toArray,?_,.agg _ _ (by simp [hn]) fun k c y hc hy=>?_⟩
 ·have hl:=run_loadCells (P:=P) w ⟨b,i*o.sz+j,none⟩ n f (fun k hk=>by
   rw [Addr.add_lit,cell_of_row w b _ cells o.ty (0,0) hb]
   exact (hf k hk).1)
  simp [execOp,hz,Instr.loadAt,Instr.sureAddr,loadVar,Gbb ha,Ww hs,hl]
 ·have hk:k<n:=by
   have:=(List.getElem?_eq_some_iff.1 hc).1
   omega
  rw [List.getElem?_map,List.getElem?_range hk] at hy
  simp at hy
  subst hy
  exact (hf k hk).2 c hc

theorem Ji {cs:List PV} {j:Nat} {c:PV} (hx:PE E x = .vptr cs j) (ha:Ws P t=some false) (hc:cs[j]?=some c) :
  VRd P ⟨d,.load t x,ty,pos,aft,gd⟩ E low loc c:=by
 intro g nt a w hr
 have h:=hx ▸ hr.e.eval x
 generalize hz:a.eval x=z at h
 cases h with
 | imm h =>
  cases h with
  | vptr _ _ b off u hF hcc h1 hv =>
   refine ⟨u j,?_,.imm (hv j c hc)⟩
   simp [execOp,hz,Instr.loadAt,Instr.sureAddr,loadVar,Gbb ha,hcc j c hc]
theorem St {cs:List PV} {j n:Nat} {ds:List PV} (hx:PE E x = .vptr cs j) (ha:Ws P t=some true) (hs:Ut P t=some n) (hd:(cs.drop j).take n=ds) (hn:ds.length=n) :
  VRd P ⟨d,.load t x,ty,pos,aft,gd⟩ E low loc (.agg ds):=by
 intro g nt a w hr
 have h:=hx ▸ hr.e.eval x
 generalize hz:a.eval x=z at h
 cases h with
 | imm h =>
  cases h with
  | vptr _ _ b off u hF hcc h1 hv =>
   subst hd
   have hgot:∀ k (hk:k<n),∃ c,cs[j+k]?=some c∧((cs.drop j).take n)[k]?=some c:=fun k hk=>by
    have h1:k<((cs.drop j).take n).length:=by rw [hn];exact hk
    refine ⟨_,?_,List.getElem?_eq_getElem h1⟩
    rw [← List.getElem?_drop,← List.getElem?_take_of_lt hk]
    exact List.getElem?_eq_getElem h1
   refine ⟨.agg ((List.range n).map fun k=>u (j+k)).toArray,?_,.imm (.agg _ _ (by simp [hn]) fun k c y hc hy=>?_)⟩
   ·have hl:=run_loadCells (P:=P) w ⟨b,off+j,none⟩ n (fun k=>u (j+k)) (fun k hk=>by
     obtain ⟨c,hc,_⟩:=hgot k hk
     rw [Addr.add_lit,Nat.add_assoc]
     exact hcc _ c hc)
    simp [execOp,hz,Instr.loadAt,Instr.sureAddr,loadVar,Gbb ha,Ww hs,hl]
   ·have hk:k<n:=by
     have:=(List.getElem?_eq_some_iff.1 hc).1
     omega
    rw [List.getElem?_map,List.getElem?_range hk] at hy
    simp at hy
    subst hy
    obtain ⟨c',hc',hc''⟩:=hgot k hk
    rw [hc] at hc''
    injection hc'' with hc''
    subst hc''
    exact hv _ _ hc'

theorem Gnh {ix:Operand} {sz:Nat} {es:List PV} {e:PV} {k:IntKind} {m:Int} {i:Nat} {te:TypeId} (hx:PE E x = .vs sz es) (hi:PE E ix = .int k m) (hm:m=(i:Int)) (he:es[i]?=some e)
  (ht:Wz P t=some te) (hs:Ut P te=some sz):VRd P ⟨d,.indexAddr t x ix,ty,pos,aft,gd⟩ E low loc (.vptr e.cells 0):=by
 intro g nt a w hr
 have h:=hx ▸ hr.e.eval x
 have hii:=(hi ▸ hr.e.eval ix).int_inv
 generalize hz:a.eval x=z at h
 subst hm
 have hil:i<es.length:=(List.getElem?_eq_some_iff.1 he).1
 cases h with
 | imm h =>
  cases h with
  | vs0=>simp at hil
  | vs _ _ b off cap u hl hF hsz hc h1 hv =>
   refine ⟨.pointer (some ⟨b,off+i*sz,none⟩),?_,?_⟩
   ·simp [execOp,hz,hii,Instr.indexAt,asIntOf,run_underlying (Vy ht),Ww hs,hil,Addr.add_lit]
   ·have:=VI.vptr (F:=g.F) (w:=w) e.cells 0 b (off+i*sz) (u i) hF
     (fun j c hj=>by
      have:=hc i j c (by unfold cellOf;rw [he];exact hj)
      rw [← Nat.add_assoc] at this
      exact this)
     (fun j c hj=>h1 i j c (by unfold cellOf;rw [he];exact hj))
     (fun j c hj=>hv i j c (by unfold cellOf;rw [he];exact hj))
    exact .imm this

theorem Ggv {g:Gh} {w:World} {r v off len:Nat} {o:AObj} {zv:Value} (h:VR g (low++loc) w (.sl r v off len) zv) (ho:Gbq low loc r o) (hv:o.ver=v):SL g o r off len zv:=by
 cases h with
 | imm h=>cases h
 | sl _ _ _ _ o' _ ho' hv' h1 hx =>
  unfold Gbq at ho
  rw [ho] at ho'
  injection ho' with ho'
  subst ho'
  exact hx hv.symm

theorem SL.slice {g:Gh} {o:AObj} {r off len:Nat} {zv:Value} (h:SL g o r off len zv):∃ a cap,zv = .slice a len cap∧len≤cap:=by
 unfold SL at h
 obtain ⟨_,h⟩:=h
 split at h
 ·obtain ⟨_,rfl,a,rfl⟩:=h
  exact ⟨a,0,rfl,Nat.le_refl _⟩
 ·obtain ⟨cap,a,rfl,hl,_⟩:=h
  exact ⟨a,cap,rfl,hl⟩

theorem Gni {ix:Operand} {r v off len:Nat} {o:AObj} {k:IntKind} {m:Int} {i:Nat} {te:TypeId} (hx:PE E x = .sl r v off len) (hi:PE E ix = .int k m) (hm:m=(i:Int)) (hil:i<len) (ho:Gbq low loc r o) (hv:o.ver=v)
  (ht:Wz P t=some te) (hs:Ut P te=some o.sz):VRd P ⟨d,.indexAddr t x ix,ty,pos,aft,gd⟩ E low loc (.ptr r v (off+i) 0):=by
 intro g nt a w hr
 have hsl:=Ggv (hx ▸ hr.e.eval x) ho hv
 have hii:=(hi ▸ hr.e.eval ix).int_inv
 subst hm
 unfold SL at hsl
 obtain ⟨hlen,hsl⟩:=hsl
 split at hsl
 ·obtain ⟨_,rfl,_⟩:=hsl
  omega
 ·rename_i b C hb
  obtain ⟨cap,ad,hz,hcap,hne,_⟩:=hsl
  obtain rfl:=hne (by omega)
  refine ⟨.pointer (some ⟨b,off*o.sz+i*o.sz,none⟩),?_,.ptr r v (off+i) 0 o _ ho (by omega) fun _=>⟨by omega,b,C,hb,by rw [Nat.add_zero,Nat.add_mul]⟩⟩
  simp [execOp,hz,hii,Instr.indexAt,asIntOf,run_underlying (Vy ht),Ww hs,hil,Addr.add_lit]

theorem Gm9 {ix:Operand} {r v i j n sz:Nat} {k:IntKind} {m:Int} {q:Nat} {te:TypeId} (hx:PE E x = .ptr r v i j) (hi:PE E ix = .int k m) (hm:m=(q:Int)) (hq:q<n)
  (ht:God P t=some (n,te)) (hs:Ut P te=some sz):VRd P ⟨d,.indexAddr t x ix,ty,pos,aft,gd⟩ E low loc (.ptr r v i (j+q*sz)):=by
 intro g nt a w hr
 have h:=hx ▸ hr.e.eval x
 have hii:=(hi ▸ hr.e.eval ix).int_inv
 generalize hz:a.eval x=z at h
 subst hm
 cases h with
 | imm h=>cases h
 | ptr _ _ _ _ o ad ho hv ha =>
  refine ⟨.pointer (some (ad.add (q*sz))),?_,.ptr r v i _ o _ ho hv fun e=>?_⟩
  ·simp [execOp,hz,hii,Instr.indexAt,Instr.sureAddr,asIntOf,run_underlying (Ggw ht),Ww hs,hq]
  ·obtain ⟨hi,b,C,hb,rfl⟩:=ha e
   exact ⟨hi,b,C,hb,by rw [Addr.add_lit,Nat.add_assoc]⟩

theorem Gj1 {n:Nat} {ci:Array TypeId} (ht:∃ te,Wz P t=some te) (hci:ci=#[t]) (hx:∀ (g:Gh) (nt:Nat) (a:Act) (w:World),Rel g nt low.length E (low++loc) a w→∃ ad cap,a.eval x = .slice ad n cap) :
  VRd P ⟨d,.call { callee:=.builtin .len,args:=#[x],argTypes:=ci },ty,pos,aft,gd⟩ E low loc (.int .i64 (n:Int)):=by
 intro g nt a w hr
 obtain ⟨te,ht⟩:=ht
 obtain ⟨ad,cap,hz⟩:=hx g nt a w hr
 subst hci
 refine ⟨.int .i64 (n:Int),?_,.int _ _⟩
 simp [execOp,resolve,invoke,builtin,hz,Builtin.len_,run_underlying (Vy ht),goInt]
theorem Kb {sz:Nat} {es:List PV} {te:TypeId} {ci:Array TypeId} (hx:PE E x = .vs sz es) (hci:ci=#[t]) (ht:Wz P t=some te) :
  VRd P ⟨d,.call { callee:=.builtin .len,args:=#[x],argTypes:=ci },ty,pos,aft,gd⟩ E low loc (.int .i64 (es.length:Int)) :=
 Gj1 ⟨te,ht⟩ hci fun g nt a w hr=>by
  have h:=hx ▸ hr.e.eval x
  generalize a.eval x=z at h
  cases h with
  | imm h =>
   cases h with
   | vs0=>exact ⟨_,_,rfl⟩
   | vs=>exact ⟨_,_,rfl⟩
theorem Xn {r v off len:Nat} {o:AObj} {te:TypeId} {ci:Array TypeId} (hx:PE E x = .sl r v off len) (ho:Gbq low loc r o) (hv:o.ver=v) (hci:ci=#[t]) (ht:Wz P t=some te) :
  VRd P ⟨d,.call { callee:=.builtin .len,args:=#[x],argTypes:=ci },ty,pos,aft,gd⟩ E low loc (.int .i64 (len:Int)) :=
 Gj1 ⟨te,ht⟩ hci fun g nt a w hr=>by
  obtain ⟨ad,cap,h,_⟩:=(Ggv (hx ▸ hr.e.eval x) ho hv).slice
  exact ⟨ad,cap,h⟩
theorem Gdc {k:IntKind} {m n:Int} {ci:Array TypeId} (hx:PE E x = .int k m) (hy:PE E y = .int k n) :
  VRd P ⟨d,.call { callee:=.builtin .min,args:=#[x,y],argTypes:=ci },ty,pos,aft,gd⟩ E low loc (.int k (min m n)):=by
 intro g nt a w hr
 have hxx:=(hx ▸ hr.e.eval x).int_inv
 have hyy:=(hy ▸ hr.e.eval y).int_inv
 have e:(if n<m then n else m)=min m n:=by split <;> omega
 refine ⟨.int k (min m n),?_,.int _ _⟩
 simp [execOp,resolve,invoke,builtin,hxx,hyy,Builtin.min_,Builtin.min2,e]
theorem Gb6 {k:IntKind} {m n:Int} {ci:Array TypeId} (hx:PE E x = .int k m) (hy:PE E y = .int k n) :
  VRd P ⟨d,.call { callee:=.builtin .max,args:=#[x,y],argTypes:=ci },ty,pos,aft,gd⟩ E low loc (.int k (max m n)):=by
 intro g nt a w hr
 have hxx:=(hx ▸ hr.e.eval x).int_inv
 have hyy:=(hy ▸ hr.e.eval y).int_inv
 have e:(if m<n then n else m)=max m n:=by split <;> omega
 refine ⟨.int k (max m n),?_,.int _ _⟩
 simp [execOp,resolve,invoke,builtin,hxx,hyy,Builtin.max_,Builtin.max2,e]

end
end Go.Aml
