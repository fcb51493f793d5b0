/- Plain laws about partial functions: what ends, and with what. -/
import Derived.Test.YticjalhfpjlbdaaAmlU
namespace Go.L
open Go Go.Aml

/-- The partial function yields a value, and Q holds of it. -/
def Ok {α:Type} (m:Option α) (Q:α→Prop):Prop:=∃ a,m=some a∧Q a

theorem Je {α:Type} {a:α} {Q:α→Prop} (h:Q a):Ok (some a) Q:=⟨a,rfl,h⟩
theorem Jt {α β:Type} {m:Option α} {k:α→Option β} {Q:α→Prop} {R:β→Prop} (h:Ok m Q) (hk:∀ a,Q a→Ok (k a) R):Ok (m.bind k) R:=by
 obtain ⟨a,rfl,ha⟩:=h
 exact hk a ha
theorem Gqh {α:Type} {m:Option α} {Q R:α→Prop} (h:Ok m Q) (hq:∀ a,Q a→R a):Ok m R:=by
 obtain ⟨a,h1,ha⟩:=h
 exact ⟨a,h1,hq a ha⟩
theorem Gdk {α:Type} {c:Bool} {x y:Option α} {R:α→Prop} (h1:c=true→Ok x R) (h2:c=false→Ok y R):Ok (bif c then x else y) R:=by
 cases c with
 | true=>exact h1 rfl
 | false=>exact h2 rfl
theorem Ud {α:Type} {p:Prop} [Decidable p] {x y:Option α} {R:α→Prop} (h1:p→Ok x R) (h2:¬ p→Ok y R):Ok (bif decide p then x else y) R :=
 Gdk (fun h=>h1 (of_decide_eq_true h)) (fun h=>h2 (of_decide_eq_false h))
theorem Gro {α:Type} {m:Option α} {a:α} {Q:α→Prop} (h:m=some a) (hq:Q a):Ok m Q:=⟨a,h,hq⟩
theorem Go2 {α β:Type} {m:Option α} {a:α} {k:α→Option β} {R:β→Prop} (h:m=some a) (hk:Ok (k a) R):Ok (m.bind k) R:=by subst h;exact hk
theorem Ok.val {α:Type} {m:Option α} {a:α} (h:Ok m (· = a)):m=some a:=by
 obtain ⟨b,h,rfl⟩:=h
 exact h
theorem Sj {α:Type} {p:Prop} [Decidable p] {x y:α} (h:p):(bif decide p then x else y)=x:=by rw [decide_eq_true h];rfl
theorem Kg {α:Type} {p:Prop} [Decidable p] {x y:α} (h:¬ p):(bif decide p then x else y)=y:=by rw [decide_eq_false h];rfl
theorem Gmk {α:Type} {p:Prop} [Decidable p] {x y:α}:(bif decide p then x else y)=if p then x else y:=by
 by_cases h:p
 ·rw [Sj h,if_pos h]
 ·rw [Kg h,if_neg h]
theorem bind_some {α β:Type} {a:α} {k:α→Option β}:(some a).bind k=k a:=rfl

theorem Vx {p q:Prop} [Decidable p] [Decidable q] {m:Option Bool} (h:m=some (decide q)):(bif decide p then some true else m)=some (decide (p∨q)):=by
 subst h
 by_cases hp:p
 ·rw [Sj hp,decide_eq_true (Or.inl hp)]
 ·rw [Kg hp];congr 1;exact decide_eq_decide.2 ⟨Or.inr,fun h=>h.resolve_left hp⟩
theorem Ge6 {p q:Prop} [Decidable p] [Decidable q] {m:Option Bool} (h:m=some (decide q)):(bif decide p then m else some false)=some (decide (p∧q)):=by
 subst h
 by_cases hp:p
 ·rw [Sj hp];congr 1;exact decide_eq_decide.2 ⟨fun h=>⟨hp,h⟩,fun h=>h.2⟩
 ·rw [Kg hp,decide_eq_false (fun h=>hp h.1)]
/-! ### rows -/
theorem Gqi {α:Type} {l:List α} {i:Int} (h0:0≤i) (h1:i<(l.length:Int)):Kl l i=some (l[i.toNat]'(by omega)):=by
 unfold Kl
 rw [if_pos h0]
 exact List.getElem?_eq_getElem (by omega)
theorem Jv {α:Type} {l:List α} {n:Nat}:Kl l (n:Int)=l[n]?:=by
 unfold Kl
 rw [if_pos (by omega),Int.toNat_natCast]
theorem Gaw {α:Type} {l:List α} {i:Int} (h0:0≤i) (h1:i<(l.length:Int)):Ok (Kl l i) (fun x=>l[i.toNat]?=some x) :=
 ⟨_,Gqi h0 h1,List.getElem?_eq_getElem (by omega)⟩
theorem Wr {α:Type} {l:List α} {i:Nat} {x:α} (h:l[i]?=some x):x ∈ l:=List.mem_of_getElem? h
theorem Gqj {α:Type} {l:List α} {a b:Int} (h0:0≤a) (h1:a≤b) (h2:b≤(l.length:Int)):Glf l a b=some ((l.take b.toNat).drop a.toNat):=by
 unfold Glf
 rw [if_pos ⟨h0,h1,h2⟩]
theorem Gqg {α:Type} {l:List α} {a b:Int} (h0:0≤a) (h1:a≤b) (h2:b≤(l.length:Int)):Ok (Glf l a b) (fun r=>r=(l.take b.toNat).drop a.toNat):=Gro (Gqj h0 h1 h2) rfl
theorem Wj {α:Type} {by_:Nat} {l ys:List α} (h:(l.length+ys.length)*by_≤140737488355328):Zn by_ l ys=some (l++ys):=by
 unfold Zn
 rw [if_pos h]
theorem Ze {α:Type} {by_:Nat} {z:α} {n:Int} (h0:0≤n) (h:n.toNat*by_≤140737488355328):Gce by_ z n=some (List.replicate n.toNat z):=by
 unfold Gce
 rw [if_pos ⟨h0,h⟩]
theorem Ge5 {a b:Int} (h:b≠0):Gi4 a b=some (a.tmod b):=by
 unfold Gi4
 rw [if_neg h]
theorem Gi6 {k:IntKind} {a b:Int} (h:b≠0):Gno k a b=some (k.wrap (a.tdiv b)):=by
 unfold Gno
 rw [if_neg h]
/-! ### whole numbers of a size -/
theorem w64 {n:Int} (h1 : -9223372036854775808≤n) (h2:n≤9223372036854775807):IntKind.i64.wrap n=n:=Gr4 h1 h2
/-! ### loops -/
theorem Gbc {α β:Type} {f:α→Option (α⊕β)} {a a':α} (h:f a=some (.inl a')):Sb f a=Sb f a':=by
 rw [Gj7,h];rfl
theorem Zv {α β:Type} {f:α→Option (α⊕β)} {a:α} {b:β} (h:f a=some (.inr b)):Sb f a=some b:=by
 rw [Gj7,h];rfl
/-- A loop that ends: an invariant, and a measure. -/
theorem Uo {α β:Type} {f:α→Option (α⊕β)} (I:α→Prop) (μ:α→Nat) (Q:β→Prop)
  (step:∀ a,I a→Ok (f a) fun o=>match o with | .inl a'=>I a'∧μ a'<μ a | .inr b=>Q b):∀ a,I a→Ok (Sb f a) Q:=by
 intro a h
 generalize hm:μ a=m
 induction m using Nat.strongRecOn generalizing a with
 | _ m ih =>
  obtain ⟨o,h1,h2⟩:=step a h
  cases o with
  | inl a' =>
   rw [Gbc h1]
   exact ih _ (hm ▸ h2.2) a' h2.1 rfl
  | inr b=>exact ⟨b,Zv h1,h2⟩
/-- A loop whose result is known. -/
theorem Go3 {α β:Type} {f:α→Option (α⊕β)} (I:α→Prop) (μ:α→Nat) (g:α→β)
  (step:∀ a,I a→(∃ a',f a=some (.inl a')∧I a'∧μ a'<μ a∧g a'=g a)∨f a=some (.inr (g a))):∀ a,I a→Sb f a=some (g a):=by
 intro a h
 generalize hm:μ a=m
 induction m using Nat.strongRecOn generalizing a with
 | _ m ih =>
  rcases step a h with ⟨a',h1,h2,h3,h4⟩ | h1
  ·rw [Gbc h1,ih _ (hm ▸ h3) a' h2 rfl,h4]
  ·exact Zv h1
/-- Zr. -/
def Zr (l:List Int):Prop:=∀ b ∈ l,0≤b∧b≤255
theorem Zr.nil:Zr []:=by intro b h;cases h
theorem Zr.app {a b:List Int} (h:Zr a) (k:Zr b):Zr (a++b):=by
 intro x hx
 rcases List.mem_append.1 hx with h1 | h1
 ·exact h x h1
 ·exact k x h1
theorem Zr.cons {a:Int} {b:List Int} (h:0≤a∧a≤255) (k:Zr b):Zr (a::b):=by
 intro x hx
 rcases List.mem_cons.1 hx with rfl | h1
 ·exact h
 ·exact k x h1
theorem Zr.take {a:List Int} (h:Zr a) (n:Nat):Zr (a.take n):=fun x hx=>h x (List.mem_of_mem_take hx)
theorem Zr.drop {a:List Int} (h:Zr a) (n:Nat):Zr (a.drop n):=fun x hx=>h x (List.mem_of_mem_drop hx)
theorem Zr.set {a:List Int} (h:Zr a) (n:Nat) {x:Int} (hx:0≤x∧x≤255):Zr (a.set n x):=fun y hy=>by
 rcases List.mem_or_eq_of_mem_set hy with h1 | rfl
 ·exact h y h1
 ·exact hx
theorem Zr.wrap (n:Int):0≤IntKind.u8.wrap n∧IntKind.u8.wrap n≤255:=by
 unfold IntKind.wrap
 simp [IntKind.bits,IntKind.signed]
 omega
end Go.L
