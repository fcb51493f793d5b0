/- The abstract memory logic, part U: rules in the form that the printed walks use. -/
import Derived.Test.YticjalhfpjlbdaaAmlT
import Derived.Test.YticjalhfpjlbdaaAmlO
namespace Go.Aml
open Go

section
variable {P:Program} {nt:Nat} {Q:Xt} {E E':Env} {low loc low' loc':List AObj} {all:Array Oper} {rest:List Oper}
variable {α:Type} {f:α→PV} {l l2 ys:List α} {x y z:Operand} {d:Option Nat} {ty:TypeId} {pos:String} {aft:Array Edge} {t:TypeId} {gd:Option (Nat×Bool)}

def Gi3:PV→Bool
 | .tup _=>false
 | _=>true
theorem Kk {p:PV} (h:Gi3 p=true):∀ vs,p ≠ .tup vs:=by rintro vs rfl;cases h
theorem Up {es:List PV} (h:es.all Gi3=true):∀ e ∈ es,∀ ws,e ≠ .tup ws:=fun e he=>Kk (List.all_eq_true.1 h e he)
theorem Sw {vs:List (Nat×PV)} (h:vs.all (fun p=>Gi3 p.2)=true):∀ i v,(i,v) ∈ vs→∀ ws,v ≠ .tup ws:=fun i v hv=>Kk (List.all_eq_true.1 h (i,v) hv)

theorem Sx {ps:List (Nat×Operand)} {es:List PV} {te sz n:Nat} {zv:Value} (hps:Gbx E ps (Yr 0 es)) (hn:es.length=n) (hwid:es.all (fun e=>Nat.beq e.cells.length sz&&e.cells.all PV.one)=true) (htup:∀ e ∈ es,∀ ws,e ≠ .tup ws)
  (ht:Wz P t=some te) (hsz:Ut P te=some sz) (hz:Wp P te=some zv) (hzs:zv.cells.size=sz) (hzone:zv.cells.toList.all (·.oneCell')=true) (hpos:0<sz) (h24:n*sz≤16777216) (hp:∀ e,e ∈ es→LtN 0 e) :
  VEf P ⟨d,.buildSlice t n ps.toArray,ty,pos,aft,none⟩ E low loc fun v1 low1 loc1=>v1 = .vs sz es∧low1=low∧loc1=loc:=by
 have:=Goy (Gmf (P:=P) (low:=low) (loc:=loc) (d:=d) (ty:=ty) (pos:=pos) (aft:=aft) hps hn hwid htup ht hsz hz hzs hzone hpos h24) hn hp
 exact this

@[reducible] def encS {β:Type} (sz:Nat) (g:β→PV) (m:List β):PV:=.vs sz (m.map g)

/-! ### with the number of the callers' objects named -/
variable {N K k:Nat} {o o':AObj}
theorem Gg (hN:low.length=N) (h:loc[k]?=some o):Gbq low loc (N+k) o:=hN ▸ Ggt h
theorem Jr (hN:low.length=N) {loc1:List AObj} (h:loc.set k o'=loc1):Gi2 low loc (N+k) o' low loc1:=by subst hN;subst h;exact Gol

theorem Kw (hN:low.length=N) (hK:loc.length=K) {elem sz:Nat} {v:PV} (hx:PE E x=v) (hsz:v.cells.length=sz) (hpos:0<sz) (hone:v.cells.all PV.one=true) (ht:Gi3 v=true) :
  VEf P ⟨d,.box elem x,ty,pos,aft,none⟩ E low loc fun v1 low1 loc1=>v1 = .ptr (N+K) 0 0 0∧low1=low∧loc1=loc++[⟨elem,sz,[v],0⟩]:=by
 subst hN;subst hK;exact Gp6 hx hsz hpos hone (Kk ht)
theorem Jw (hN:low.length=N) (hK:loc.length=K) {elem sz:Nat} {zv:Value} {v:PV} (hz:Wp P elem=some zv) (hv:emb zv=v) (hsz:v.cells.length=sz) (hpos:0<sz) (hone:v.cells.all PV.one=true) :
  VEf P ⟨d,.alloc elem,ty,pos,aft,none⟩ E low loc fun v1 low1 loc1=>v1 = .ptr (N+K) 0 0 0∧low1=low∧loc1=loc++[⟨elem,sz,[v],0⟩]:=by
 subst hN;subst hK;exact Gnf hz hv hsz hpos hone
theorem Ggn (hN:low.length=N) (hK:loc.length=K) {ps:List (Nat×Operand)} {es:List PV} {te sz n:Nat} {zv:Value} (hps:Gbx E ps (Yr 0 es)) (hn:es.length=n) (hwid:es.all (fun e=>Nat.beq e.cells.length sz&&e.cells.all PV.one)=true) (htup:∀ e ∈ es,∀ ws,e ≠ .tup ws)
  (ht:Wz P t=some te) (hsz:Ut P te=some sz) (hz:Wp P te=some zv) (hzs:zv.cells.size=sz) (hzone:zv.cells.toList.all (·.oneCell')=true) (hpos:0<sz) (h24:n*sz≤16777216) :
  VEf P ⟨d,.buildSlice t n ps.toArray,ty,pos,aft,none⟩ E low loc fun v1 low1 loc1=>v1 = .sl (N+K) 0 0 es.length∧low1=low∧loc1=loc++[⟨te,sz,es,0⟩]:=by
 subst hN;subst hK;subst hn;exact Gp5 hps rfl hwid htup ht hsz hz hzs hzone hpos h24
theorem Gco (hN:low.length=N) (hK:loc.length=K) {s:Operand} {te sz by_:Nat} {p:PV} {zv:Value} (hs:PE E s = .nils∨PE E s = .z0) (hx:PE E x=p) (hsrc:Ge1 low loc p sz (ys.map f)) (hpos:0<sz)
  (ht:Wz P t=some te) (hsz:Ut P te=some sz) (hby:Yg P te=some by_) (hb1:0<by_) (hz:Wp P te=some zv) (hzs:zv.cells.size=sz) (h:Zn by_ ([]:List α) ys=some l2) :
  VEf P ⟨d,.call { callee:=.builtin .append,args:=#[s,x],argTypes:=#[t,t] },ty,pos,aft,none⟩ E low loc fun v1 low1 loc1=>v1 = .sl (N+K) 0 0 l2.length∧low1=low∧loc1=loc++[⟨te,sz,l2.map f,0⟩]:=by
 subst hN;subst hK;exact Goz hs hx hsrc hpos ht hsz hby hb1 hz hzs h
theorem Yd (hN:low.length=N) (hK:loc.length=K) {lo c:Operand} {elem sz by_:Nat} {zv:Value} {zz:α} {kl kc:IntKind} {m:Int} (hl:PE E lo = .int kl m) (hc:PE E c = .int kc m) (ht:Wz P t=some elem) (hsz':Ut P elem=some sz) (hby:Yg P elem=some by_) (hb1:0<by_)
  (hz:Wp P elem=some zv) (hv:emb zv=f zz) (hsz:(f zz).cells.length=sz) (hpos:0<sz) (hone:(f zz).cells.all PV.one=true) (h:Gce by_ zz m=some l) :
  VEf P ⟨d,.makeSlice t lo c,ty,pos,aft,none⟩ E low loc fun v1 low1 loc1=>v1 = .sl (N+K) 0 0 l.length∧low1=low∧loc1=loc++[⟨elem,sz,l.map f,0⟩]:=by
 subst hN;subst hK;exact Gqc hl hc ht hsz' hby hb1 hz hv hsz hpos hone h
theorem Vz (hN:low.length=N) (hK:loc.length=K) {op:Op} (elem sz:Nat) (hp:0<sz) (h:VRd P ⟨d,op,ty,pos,aft,none⟩ E low loc .nils) :
  VEf P ⟨d,op,ty,pos,aft,none⟩ E low loc fun v1 low1 loc1=>v1 = .sl (N+K) 0 0 0∧low1=low∧loc1=loc++[⟨elem,sz,[],0⟩]:=by
 subst hN;subst hK;exact Go0 elem sz hp h
theorem Gk {op:Op} {v:PV} (h:VEf P ⟨d,op,ty,pos,aft,none⟩ E low loc fun v1 low1 loc1=>v1=v∧low1=low'∧loc1=loc') (hd:Gcc nt d=true) (hk:Ga1 P nt all rest Q (Gas E d v) low' loc'):Ga1 P nt all (⟨d,op,ty,pos,aft,none⟩::rest) Q E low loc :=
 Gp8 h hd (by rintro _ _ _ ⟨rfl,rfl,rfl⟩;exact hk)
theorem Vv {mems:List Zd} (h:∀ M ∈ mems,M.1.length=low.length):mems.all (fun M=>Nat.beq M.1.length low.length)=true:=by
 rw [List.all_eq_true]
 intro M hM
 rw [h M hM]
 exact Nat.beq_refl _
theorem Sv (hN:low.length=N) (hK:loc.length=K):(low++loc).length=N+K:=by rw [List.length_append,hN,hK]
theorem Sm (hN:low.length=N) (k:Nat) {loc1:List AObj} (ho:loc[k]?=some o) (hp:∀ e,e ∈ o.es→LtN 0 e) (hE:CvE (N+k) o E E') (hO:Giy (N+k) o (loc.set k ⟨o.ty,o.sz,[],o.ver+1⟩) loc1):Jn E low loc E' low loc1:=by
 subst hN;exact Gjt k ho hp hE hO
theorem Ga2 (hN:low.length=N) (h:loc[k]?=some o):(low++loc)[N+k]?=some o:=Gg hN h

/-! ### regions that draw their order: in the memories that an operation may find -/
variable {ol r:List Oper} {tbl:List (List Nat)} {effs:List Bool} {mems:List Zd} {i q:Nat} {KK:Env→Prop} {op:Op} {v:PV}
def Goq (ol:List Oper) (tbl:List (List Nat)) (effs:List Bool) (mems:List Zd) (i:Nat):List Zd:=(mems.drop (Gf2 ol.length tbl effs i)).take (Gof ol.length tbl effs i+1-Gf2 ol.length tbl effs i)
theorem Jj (Ms:List Zd) (he:effs.getD i false=false) (hW:Goq ol tbl effs mems i=Ms) (h:∀ M ∈ Ms,VNt P ⟨d,op,ty,pos,aft,none⟩ (Ga5 E (Ym ⟨d,op,ty,pos,aft,none⟩)) M.1 M.2 v) (hk:Ga7 P ol tbl effs mems (i+1) q r (Gas E d v) KK):Ga7 P ol tbl effs mems i q (⟨d,op,ty,pos,aft,none⟩::r) E KK:=by
 intro h1 h2
 obtain ⟨vs,k1,k2⟩:=hk ((Gaf he).trans h1) (by simp at h2;omega)
 refine ⟨v::vs,⟨?_,k1⟩,by simpa [Wk] using k2⟩
 unfold Ggs Ggr
 simp only [he,Bool.false_eq_true,if_false]
 exact Gg8 _ _ fun M hM=>h M (hW ▸ hM)
theorem Glc (Ms:List Zd) {j t:Nat} {want:Bool} (he:effs.getD i false=false) (hW:Goq ol tbl effs mems i=Ms) (hj:(ol[j]?).bind (·.dst)=some t) (ht:look E t = .bool want) (h:∀ M ∈ Ms,VNt P ⟨d,op,ty,pos,aft,none⟩ (Ga5 E (Ym ⟨d,op,ty,pos,aft,none⟩)) M.1 M.2 v) (hk:Ga7 P ol tbl effs mems (i+1) q r (Gas E d v) KK):Ga7 P ol tbl effs mems i q (⟨d,op,ty,pos,aft,some (j,want)⟩::r) E KK:=by
 intro h1 h2
 obtain ⟨vs,k1,k2⟩:=hk ((Gaf he).trans h1) (by simp at h2;omega)
 refine ⟨v::vs,⟨⟨t,hj,.inl ⟨want,ht,fun _=>?_,fun h=>absurd rfl h⟩⟩,k1⟩,by simpa [Wk] using k2⟩
 unfold Ggr
 simp only [he,Bool.false_eq_true,if_false]
 exact Gg8 _ _ fun M hM=>h M (hW ▸ hM)
theorem Wo {o:Oper} {v:PV} {low loc:List AObj} (h:VEf P o E low loc fun v1 l1 l2=>v1=v∧l1=low∧l2=loc):VNt P o E low loc v:=h
theorem Jk {p:Zd→Prop} {a:Zd} {Ms:List Zd} (h:p a) (h':∀ M ∈ Ms,p M):∀ M ∈ a::Ms,p M:=List.forall_mem_cons.2 ⟨h,h'⟩
theorem Sg {p:Zd→Prop}:∀ M ∈ ([]:List Zd),p M:=fun _ h=>by cases h
def ScL:List PV→Prop
 | []=>True
 | c::cs=>Sc c∧ScL cs
theorem ScL.mem {cs:List PV} (h:ScL cs):∀ c,c ∈ cs→Sc c:=by
 induction cs with
 | nil=>simp
 | cons c cs ih =>
  intro x hx
  rcases List.mem_cons.1 hx with rfl | hx
  ·exact h.1
  ·exact ih h.2 x hx
theorem Grv {cs:List PV} (h:ScL cs):Sc (.agg cs):=.agg cs h.mem
theorem Gk2 {cs:List PV} (h:ScL cs):Sc (.tup cs):=.tup cs h.mem

def FnE (K:Gel):Xt:=fun e E low loc=>(e = .normal∨e = .ret)∧K E low loc
theorem fnR {K:Gel} (h:K E low loc):FnE K .ret E low loc:=⟨.inr rfl,h⟩

theorem neT {b:Bool} (h:b=true):b≠false:=by rw [h];decide
theorem neF {b:Bool} (h:b=false):b≠true:=by rw [h];decide

end
end Go.Aml
