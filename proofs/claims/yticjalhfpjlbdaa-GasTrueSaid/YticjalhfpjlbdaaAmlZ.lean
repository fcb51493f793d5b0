/- The abstract memory logic, part Z: what came in, as plain data. -/
import Derived.Test.YticjalhfpjlbdaaAmlN
import Derived.Test.YticjalhfpjlbdaaAmlU
namespace Go.Aml
open Go

def In (k:IntKind) (n:Int):Prop:=k.min≤n∧n≤k.max
theorem In.i64 {n:Int} (h:In .i64 n) : -9223372036854775808≤n∧n≤9223372036854775807:=h
theorem In.u8 {n:Int} (h:In .u8 n):0≤n∧n≤255:=h
def InL {α:Type} (wf:α→Prop) (l:List α):Prop:=l.length≤9223372036854775807∧∀ x ∈ l,wf x

section
variable {P:Program} {t e:TypeId}
def Gn0 (P:Program) (t:TypeId) {α:Type} (cells:α→List PV) (wf:α→Prop):Prop:=∀ p,TP P t p→∃ x,p=cells x∧wf x

theorem Gru {k:IntKind} (h:Goc P t=some k):Gn0 P t (fun n:Int=>[.int k n]) (In k):=by
 have h:=Gg2 h
 intro p hp
 cases hp with
 | int _ k' n h' hw =>
  rw [h] at h'
  injection h' with h'
  injection h' with h'
  subst h'
  refine ⟨n,rfl,?_⟩
  show k.min≤n∧n≤k.max
  simpa [Lit.wf] using hw
 | bool _ b h'=>rw [h] at h';cases h'
 | str _ b h'=>rw [h] at h';cases h'
 | slice _ e ess h'=>rw [h] at h';cases h'
 | struct _ fs ps h'=>rw [h] at h';cases h'
 | array _ e n ps h'=>rw [h] at h';cases h'
 | other _ d h' hd=>rw [h] at h';injection h' with h';subst h';cases hd
theorem Gn1 {α:Type} {cells:α→List PV} {wf:α→Prop} {f:α→PV} {sz:Nat} {ag:Bool} (h:Wz P t=some e) (hs:P.cellsOf e=sz) (ha:Ws P e=some ag) (he:Gn0 P e cells wf) (hf:∀ x,mkE (some ag) (cells x)=f x) :
  Gn0 P t (fun l:List α=>[.vs sz (l.map f)]) (InL wf):=by
 have h:=Vy h
 intro p hp
 cases hp with
 | slice _ e' ess h' hl hee hp =>
  rw [h] at h'
  injection h' with h'
  injection h' with h'
  subst h'
  have key:∀ ess:List (List PV),(∀ p,p ∈ ess→TP P e p)→∃ l:List α,l.length=ess.length∧ess.map (mkE (Ws P e))=l.map f∧∀ x ∈ l,wf x:=by
   intro ess
   induction ess with
   | nil=>exact fun _=>⟨[],rfl,rfl,by simp⟩
   | cons q ess ih =>
    intro hq
    obtain ⟨x,rfl,hx⟩:=he q (hq q (by simp))
    obtain ⟨l,h1,h2,h3⟩:=ih fun p hp=>hq p (by simp [hp])
    refine ⟨x::l,by simp [h1],by rw [List.map_cons,List.map_cons,h2,ha,hf],?_⟩
    intro y hy
    rcases List.mem_cons.1 hy with rfl | hy
    ·exact hx
    ·exact h3 y hy
  obtain ⟨l,h1,h2,h3⟩:=key ess hp
  refine ⟨l,by rw [h2,hs],?_,h3⟩
  rw [h1]
  exact hl
 | bool _ b h'=>rw [h] at h';cases h'
 | int _ k' n h' hw=>rw [h] at h';cases h'
 | str _ b h'=>rw [h] at h';cases h'
 | struct _ fs ps h'=>rw [h] at h';cases h'
 | array _ e n ps h'=>rw [h] at h';cases h'
 | other _ d h' hd=>rw [h] at h';injection h' with h';subst h';cases hd

def Gtg (P:Program) (t:TypeId):Option (List TypeId) :=
 match P.underlying t with
 | some (.struct fs)=>some (fs.toList.map (·.type))
 | some (.array n e)=>some (List.replicate n e)
 | _=>none
def TPs (P:Program):List TypeId→List (List PV)→Prop
 | [],[]=>True
 | t::ts,p::ps=>TP P t p∧TPs P ts ps
 | _,_=>False
theorem TPs.of:∀ (ts:List TypeId) (ps:List (List PV)),ps.length=ts.length→(∀ (i:Nat) (t:TypeId) (p:List PV),ts[i]?=some t→ps[i]?=some p→TP P t p)→TPs P ts ps
 | [],[],_,_=>trivial
 | [],_::_,h,_=>by simp at h
 | _::_,[],h,_=>by simp at h
 | t::ts,p::ps,h,hh=>⟨hh 0 t p rfl rfl,TPs.of ts ps (by simpa using h) fun i t' p' h1 h2=>hh (i+1) t' p' (by simpa using h1) (by simpa using h2)⟩
theorem Gkz {ts:List TypeId} {pcs:List PV} (h:Ghz P (t::ts) pcs):∃ c q p,pcs=c::q∧TP P t p∧c=mkE (Ws P t) p∧Ghz P ts q:=by
 obtain ⟨h1,h2⟩:=h
 cases pcs with
 | nil=>simp at h1
 | cons c q =>
  obtain ⟨p,hp,hc⟩:=h2 0 t c rfl rfl
  exact ⟨c,q,p,rfl,hp,hc,by simpa using h1,fun i t' c' ht hc'=>h2 (i+1) t' c' (by simpa using ht) (by simpa using hc')⟩
theorem Gm8 {pcs:List PV} (h:Ghz P [] pcs):pcs=[]:=List.eq_nil_of_length_eq_zero h.1
end
end Go.Aml
