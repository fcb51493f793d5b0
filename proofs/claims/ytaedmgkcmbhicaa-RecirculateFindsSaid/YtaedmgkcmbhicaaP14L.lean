/- RecirculateFinds: ways tried one by one. -/
import Derived.Test.YtaedmgkcmbhicaaP14K
namespace Go.L
open Go Go.Aml

/-- A way of at most n steps, along roads that are not used. -/
def Wk (m : T_Mine) (l : List Arc) (to_ : Int) : Nat → Int → List Bool → Prop
  | 0, a, _ => a = to_
  | n + 1, a, u => a = to_ ∨ (sf m a = false ∧ ∃ x ∈ l, bt u x.road = false ∧ x.from_ = a ∧ Wk m l to_ n x.to_ (u.set x.road.toNat true))
theorem wk_mono {m : T_Mine} {l : List Arc} {t : Int} : ∀ (n : Nat) (a : Int) (u : List Bool), Wk m l t n a u → Wk m l t (n + 1) a u
  | 0, a, u, h => .inl h
  | n + 1, a, u, h => by
    rcases h with h | ⟨h1, x, h2, h3, h4, h5⟩
    · exact .inl h
    · exact .inr ⟨h1, x, h2, h3, h4, wk_mono n _ _ h5⟩
theorem bt_set' {u : List Bool} {i : Nat} {k : Int} (hk : bt u k = true) : bt (u.set i true) k = true := by
  unfold bt at hk ⊢
  rw [List.getElem?_set]
  split
  · split
    · rfl
    · rename_i h1 h2
      rw [← h1, List.getElem?_eq_none (by omega)] at hk
      cases hk
  · exact hk
theorem wk_rch {m : T_Mine} {l : List Arc} {t w : Int} {S : Int → Prop} (ht : sf m t = false) : ∀ (n : Nat) (a : Int) (u : List Bool), bt u w = true → Wk m l t n a u → Rch m w l S a → Rch m w l S t
  | 0, a, u, _, h, hr => by have : a = t := h; rw [← this]; exact hr
  | n + 1, a, u, hw, h, hr => by
    rcases h with h | ⟨h1, x, h2, h3, h4, h5⟩
    · rw [← h]; exact hr
    · have hne : x.road ≠ w := fun e => by rw [e, hw] at h3; cases h3
      have hs : sf m x.to_ = false := by
        cases n with
        | zero => have : x.to_ = t := h5; rw [this]; exact ht
        | succ n =>
          rcases h5 with h | ⟨h, _⟩
          · rw [h]; exact ht
          · exact h
      exact wk_rch ht n x.to_ _ (bt_set' hw) h5 (.step x h2 hne (h4 ▸ hr) hs)
/-- The target can be come to in n steps, not along road w. -/
def Rn (m : T_Mine) (l : List Arc) (t w : Int) : Nat → Int → Prop
  | 0, k => k = t
  | n + 1, k => Rn m l t w n k ∨ ∃ x ∈ l, x.road ≠ w ∧ x.from_ = k ∧ sf m k = false ∧ Rn m l t w n x.to_
theorem rn_le {m : T_Mine} {l : List Arc} {t w k : Int} {n : Nat} : ∀ {j : Nat}, n ≤ j → Rn m l t w n k → Rn m l t w j k
  | 0, h, hr => by have : n = 0 := by omega
                   subst this; exact hr
  | j + 1, h, hr => by
    by_cases e : n = j + 1
    · subst e; exact hr
    · exact .inl (rn_le (by omega) hr)
theorem rn_wk {m : T_Mine} {l : List Arc} {t w : Int} (hl : ∀ x ∈ l, ∀ y ∈ l, x.road = y.road → (x.from_ = y.from_ ∧ x.to_ = y.to_) ∨ (x.from_ = y.to_ ∧ x.to_ = y.from_)) (hpos : ∀ x ∈ l, 0 ≤ x.road) :
    ∀ (n : Nat) (k : Int) (u : List Bool), Rn m l t w n k → (∀ x ∈ l, x.road < (u.length : Int)) → (∀ x ∈ l, x.road ≠ w → bt u x.road = true → ¬ Rn m l t w n x.from_ ∨ ¬ Rn m l t w n x.to_) → Wk m l t n k u
  | 0, k, u, h, _, _ => h
  | n + 1, k, u, h, hu, hx => by
    by_cases hk : Rn m l t w n k
    · refine wk_mono n k u (rn_wk hl hpos n k u hk hu fun x h1 h2 h3 => ?_)
      rcases hx x h1 h2 h3 with h | h
      · exact .inl fun h' => h (.inl h')
      · exact .inr fun h' => h (.inl h')
    · rcases h with h | ⟨x, h1, h2, h3, h4, h5⟩
      · exact absurd h hk
      · refine .inr ⟨h4, x, h1, ?_, h3, rn_wk hl hpos n x.to_ _ h5 (fun y hy => by rw [List.length_set]; exact hu y hy) fun y y1 y2 y3 => ?_⟩
        · cases hb : bt u x.road with
          | false => rfl
          | true =>
            rcases hx x h1 h2 hb with h | h
            · exact absurd (.inr ⟨x, h1, h2, rfl, by rw [h3]; exact h4, h5⟩) h
            · exact absurd (.inl h5) h
        · by_cases e : y.road = x.road
          · rcases hl y y1 x h1 e with ⟨e1, _⟩ | ⟨_, e2⟩
            · exact .inl fun h' => hk (by rw [← h3, ← e1]; exact h')
            · exact .inr fun h' => hk (by rw [← h3, ← e2]; exact h')
          · have := hpos x h1
            have := hu x h1
            have := hpos y y1
            rw [bt_set (hpos y y1) (by omega), if_neg (by omega)] at y3
            rcases hx y y1 y2 y3 with h | h
            · exact .inl fun h' => h (.inl h')
            · exact .inr fun h' => h (.inl h')
theorem rch_rn {m : T_Mine} {l : List Arc} {t w s : Int} (hs : sf m s = false) {k : Int} (h : Rch m w l (· = s) k) : ∀ n, Rn m l t w n k → ∃ n', Rn m l t w n' s := by
  induction h with
  | base k h => intro n hn; exact ⟨n, h ▸ hn⟩
  | step a ha hw hf ht ih =>
    intro n hn
    exact ih (n + 1) (.inr ⟨a, ha, hw, rfl, hf.surf (fun k h => by rw [h]; exact hs), hn⟩)
theorem nodup_len : ∀ (n : Nat) (l : List Nat), l.Nodup → (∀ x ∈ l, x < n) → l.length ≤ n
  | 0, l, _, h => by
    cases l with
    | nil => exact Nat.le_refl _
    | cons x l => exact absurd (h x (List.mem_cons_self ..)) (by omega)
  | n + 1, l, hd, h => by
    have e := nodup_len n (l.erase n) (hd.erase n) (fun x hx => by
      have h1 := h x (List.mem_of_mem_erase hx)
      have h2 : x ≠ n := fun e => by subst e; exact absurd hx (List.Nodup.not_mem_erase hd)
      omega)
    have : l.length ≤ (l.erase n).length + 1 := by
      by_cases hm : n ∈ l
      · rw [List.length_erase_of_mem hm]; omega
      · rw [List.erase_of_not_mem hm]; omega
    omega
theorem rn_path {m : T_Mine} {l : List Arc} {t w : Int} {P : Nat} (hA : ∀ x ∈ l, ArcOk P x) (ht : 0 ≤ t ∧ t < (P : Int)) : ∀ (n : Nat) (k : Int), Rn m l t w n k → (∀ j, j < n → ¬ Rn m l t w j k) → ∃ p : List Nat, p.length = n + 1 ∧ p.Nodup ∧ ∀ x ∈ p, x < P ∧ Rn m l t w n (x : Int)
  | 0, k, h, _ => by
    have : k = t := h
    refine ⟨[t.toNat], rfl, by simp, fun x hx => ?_⟩
    have : x = t.toNat := by simpa using hx
    subst this
    exact ⟨by omega, show ((t.toNat : Nat) : Int) = t by omega⟩
  | n + 1, k, h, hm => by
    have hk : ¬ Rn m l t w n k := hm n (by omega)
    rcases h with h | ⟨x, h1, h2, h3, h4, h5⟩
    · exact absurd h hk
    · obtain ⟨p, p1, p2, p3⟩ := rn_path hA ht n x.to_ h5 fun j hj hr => hm (j + 1) (by omega) (.inr ⟨x, h1, h2, h3, h4, hr⟩)
      have hx := hA x h1
      unfold ArcOk at hx
      refine ⟨k.toNat :: p, by simp [p1], List.nodup_cons.2 ⟨fun hmem => ?_, p2⟩, fun y hy => ?_⟩
      · have := (p3 _ hmem).2
        rw [Int.toNat_of_nonneg (by omega)] at this
        exact hk this
      · rcases List.mem_cons.1 hy with rfl | hy
        · exact ⟨by omega, by rw [Int.toNat_of_nonneg (by omega)]; exact .inr ⟨x, h1, h2, h3, h4, h5⟩⟩
        · exact ⟨(p3 y hy).1, .inl (p3 y hy).2⟩
theorem rn_min {m : T_Mine} {l : List Arc} {t w k : Int} : ∀ {n : Nat}, Rn m l t w n k → ∃ j, Rn m l t w j k ∧ ∀ i, i < j → ¬ Rn m l t w i k
  | 0, h => ⟨0, h, fun i hi => by omega⟩
  | n + 1, h => by
    by_cases hn : Rn m l t w n k
    · exact rn_min hn
    · exact ⟨n + 1, h, fun i hi hr => hn (rn_le (by omega) hr)⟩
theorem rn_six {m : T_Mine} {l : List Arc} {t w k : Int} {P : Nat} (hP : P ≤ 7) (hA : ∀ x ∈ l, ArcOk P x) (ht : 0 ≤ t ∧ t < (P : Int)) {n : Nat} (h : Rn m l t w n k) : Rn m l t w 6 k := by
  obtain ⟨j, h1, h2⟩ := rn_min h
  obtain ⟨p, p1, p2, p3⟩ := rn_path hA ht j k h1 h2
  have := nodup_len P p p2 fun x hx => (p3 x hx).1
  exact rn_le (by omega) h1
end Go.L
