/- Where air can come to; RecirculateWider. -/
import Derived.Test.YtaedmgkcmbhicaaP14F
namespace Go.L
open Go Go.Aml

inductive Rch (m : T_Mine) (w : Int) (l : List Arc) (S : Int → Prop) : Int → Prop
  | base (k : Int) (h : S k) : Rch m w l S k
  | step (a : Arc) (ha : a ∈ l) (hw : a.road ≠ w) (hf : Rch m w l S a.from_) (ht : sf m a.to_ = false) : Rch m w l S a.to_
theorem Rch.mono {m : T_Mine} {w : Int} {l l' : List Arc} {S S' : Int → Prop} (hl : ∀ a ∈ l, a ∈ l') (hS : ∀ k, S k → Rch m w l' S' k) {k : Int} (h : Rch m w l S k) : Rch m w l' S' k := by
  induction h with
  | base k h => exact hS k h
  | step a ha hw _ ht ih => exact .step a (hl a ha) hw ih ht
theorem Rch.surf {m : T_Mine} {w : Int} {l : List Arc} {S : Int → Prop} (hS : ∀ k, S k → sf m k = false) {k : Int} (h : Rch m w l S k) : sf m k = false := by
  cases h with
  | base _ h => exact hS _ h
  | step a _ _ _ ht => exact ht

theorem bt_st1 {m : T_Mine} {w : Int} {o : List Bool} {a : Arc} {k : Int} (hk : 0 ≤ k) (h : bt o k = true) : bt (st1 m w o a) k = true := by
  unfold st1
  cases ok1 m w o a with
  | false => exact h
  | true =>
    rw [cond_true]
    unfold bt at h ⊢
    rw [List.getElem?_set]
    split
    · split
      · rfl
      · rename_i h1 h2
        rw [← h1, List.getElem?_eq_none (by omega)] at h
        cases h
    · exact h
theorem bt_pass {m : T_Mine} {w : Int} {k : Int} (hk : 0 ≤ k) : ∀ (l : List Arc) (o : List Bool), bt o k = true → bt (pass m w l o) k = true
  | [], _, h => h
  | a :: l, o, h => bt_pass hk l (st1 m w o a) (bt_st1 hk h)
theorem bt_iter {m : T_Mine} {w : Int} {l : List Arc} {k : Int} (hk : 0 ≤ k) : ∀ (n : Nat) (o : List Bool), bt o k = true → bt (iterP (pass m w l) n o) k = true
  | 0, _, h => h
  | n + 1, o, h => bt_iter hk n _ (bt_pass hk l o h)
theorem iter_len {m : T_Mine} {w : Int} {l : List Arc} : ∀ (n : Nat) (o : List Bool), (iterP (pass m w l) n o).length = o.length
  | 0, _ => rfl
  | n + 1, o => by
    have h1 : ∀ (l : List Arc) (o : List Bool), (pass m w l o).length = o.length := by
      intro l
      induction l with
      | nil => intro o; rfl
      | cons a l ih => intro o; exact (ih _).trans st1_len
    exact (iter_len n (pass m w l o)).trans (h1 l o)
theorem iter_done {m : T_Mine} {w : Int} {l : List Arc} : ∀ (n : Nat) (o : List Bool), (∀ a ∈ l, ArcOk o.length a) → o.length - cnt o < n → ∀ a ∈ l, ok1 m w (iterP (pass m w l) n o) a = false
  | 0, o, _, h => by omega
  | n + 1, o, hl, h => by
    obtain ⟨e1, e2, e3, e4, e5, e6⟩ := pass_is (m := m) (w := w) l false o hl
    cases hb : (l.foldl (stp m w) (false, o)).1 with
    | false =>
      obtain ⟨q1, q2⟩ := e5 hb
      intro a ha
      show ok1 m w (iterP (pass m w l) n (pass m w l o)) a = false
      rw [q1, iter_fix q1]
      exact q2 a ha
    | true =>
      have := e6 rfl hb
      have hc : cnt (pass m w l o) ≤ (pass m w l o).length := List.count_le_length ..
      exact iter_done n (pass m w l o) (by rw [e2]; exact hl) (by rw [e2] at hc ⊢; omega)
theorem st1_snd {m : T_Mine} {w : Int} {l : List Arc} {S : Int → Prop} {o : List Bool} {a : Arc} (ha : a ∈ l) (hA : ArcOk o.length a) (h : ∀ k : Int, 0 ≤ k → bt o k = true → Rch m w l S k) : ∀ k : Int, 0 ≤ k → bt (st1 m w o a) k = true → Rch m w l S k := by
  intro k hk hb
  obtain ⟨a1, a2, a3, a4⟩ := hA
  unfold st1 at hb
  cases ho : ok1 m w o a with
  | false => rw [ho] at hb; exact h k hk hb
  | true =>
    rw [ho, cond_true, bt_set hk (by omega)] at hb
    by_cases e : k = a.to_.toNat
    · have : k = a.to_ := by omega
      subst this
      unfold ok1 at ho
      simp only [Bool.and_eq_true, Bool.not_eq_true', decide_eq_true_eq] at ho
      exact .step a ha ho.1 (h _ a1 ho.2.1) ho.2.2.2
    · rw [if_neg e] at hb
      exact h k hk hb
theorem pass_snd {m : T_Mine} {w : Int} {l : List Arc} {S : Int → Prop} : ∀ (l' : List Arc) (o : List Bool), (∀ a ∈ l', a ∈ l) → (∀ a ∈ l', ArcOk o.length a) → (∀ k : Int, 0 ≤ k → bt o k = true → Rch m w l S k) → ∀ k : Int, 0 ≤ k → bt (pass m w l' o) k = true → Rch m w l S k
  | [], _, _, _, h => h
  | a :: l', o, hl, hA, h => pass_snd l' (st1 m w o a) (fun x hx => hl x (List.mem_cons_of_mem _ hx)) (fun x hx => by rw [st1_len]; exact hA x (List.mem_cons_of_mem _ hx)) (st1_snd (hl a (List.mem_cons_self ..)) (hA a (List.mem_cons_self ..)) h)
theorem iter_snd {m : T_Mine} {w : Int} {l : List Arc} {S : Int → Prop} : ∀ (n : Nat) (o : List Bool), (∀ a ∈ l, ArcOk o.length a) → (∀ k : Int, 0 ≤ k → bt o k = true → Rch m w l S k) → ∀ k : Int, 0 ≤ k → bt (iterP (pass m w l) n o) k = true → Rch m w l S k
  | 0, _, _, h => h
  | n + 1, o, hA, h => iter_snd n (pass m w l o) (by rw [(pass_is (m := m) (w := w) l false o hA).2.1]; exact hA) (pass_snd l o (fun _ h => h) hA h)
/-- What is spread: just that to which air can come. -/
theorem spread_iff {m : T_Mine} {w : Int} {l : List Arc} {o : List Bool} {S : Int → Prop} (hA : ∀ a ∈ l, ArcOk o.length a) (hS : ∀ k : Int, 0 ≤ k → (bt o k = true ↔ S k)) (hS0 : ∀ k, S k → 0 ≤ k) {k : Int} (hk : 0 ≤ k) : bt (spreadC m w l o) k = true ↔ Rch m w l S k := by
  unfold spreadC
  constructor
  · exact iter_snd _ o hA (fun k hk h => .base k ((hS k hk).1 h)) k hk
  · intro h
    have hd := iter_done (m := m) (w := w) (l := l) (o.length + 1) o hA (by omega)
    clear hk
    induction h with
    | base k h => exact bt_iter (hS0 k h) _ o ((hS k (hS0 k h)).2 h)
    | step a ha hw _ ht ih =>
      have h0 := hd a ha
      unfold ok1 at h0
      rw [decide_eq_true hw, ih, ht, Bool.true_and, Bool.true_and, Bool.not_false, Bool.and_true] at h0
      simpa using h0
theorem on_iff {m : T_Mine} {l : List Arc} (hA : ∀ a ∈ l, ArcOk m.Places.length a) {a : Arc} (ha : ArcOk m.Places.length a) : onArc m l a = true ↔ sf m a.from_ = false ∧ sf m a.to_ = false ∧ Rch m a.road l (· = a.to_) a.from_ := by
  obtain ⟨a1, a2, a3, a4⟩ := ha
  have := spread_iff (m := m) (w := a.road) (l := l) (o := seed m.Places.length a.to_) (S := (· = a.to_)) (by rw [seed_len]; exact hA) (fun k hk => by rw [seed_bt hk a3 a4]; exact decide_eq_true_iff) (fun k h => by rw [h]; exact a3) a1
  unfold onArc
  rw [Bool.and_eq_true, Bool.and_eq_true, Bool.not_eq_true', Bool.not_eq_true', this]
theorem on_mono {m : T_Mine} {l l' : List Arc} (hl : ∀ a ∈ l, a ∈ l') (hA : ∀ a ∈ l', ArcOk m.Places.length a) {a : Arc} (ha : ArcOk m.Places.length a) (h : onArc m l a = true) : onArc m l' a = true := by
  obtain ⟨h1, h2, h3⟩ := (on_iff (fun x hx => hA x (hl x hx)) ha).1 h
  exact (on_iff hA ha).2 ⟨h1, h2, h3.mono hl fun k h => .base k h⟩
theorem circlesF_mem {m : T_Mine} {f : List T_Span} {v : Int} : v ∈ circlesF m f ↔ rtB m f = true ∧ ∃ i d, i < m.Roads.length ∧ v = (i : Int) ∧ can m f i d = true ∧ onArc m (arcsF m f) (arcD m i d) = true := by
  unfold circlesF
  by_cases h : rtB m f = true
  · rw [if_pos h, List.mem_map]
    constructor
    · rintro ⟨i, hi, rfl⟩
      obtain ⟨h1, h2⟩ := List.mem_filter.1 hi
      unfold onRd at h2
      obtain ⟨a, ha, hon⟩ := List.any_eq_true.1 h2
      obtain ⟨d, hc, rfl⟩ := arcsAt_mem.1 ha
      exact ⟨h, i, d, List.mem_range.1 h1, rfl, hc, hon⟩
    · rintro ⟨_, i, d, hi, rfl, hc, hon⟩
      exact ⟨i, List.mem_filter.2 ⟨List.mem_range.2 hi, List.any_eq_true.2 ⟨_, arcsAt_mem.2 ⟨d, hc, rfl⟩, hon⟩⟩, rfl⟩
  · rw [if_neg h]
    constructor
    · intro h; cases h
    · rintro ⟨h', _⟩; exact absurd h' h
theorem marks_bt : ∀ (l : List Arc) (o : List Bool), (∀ a ∈ l, ArcOk o.length a) → ∀ k : Int, 0 ≤ k → (bt (marks l o) k = true ↔ bt o k = true ∨ ∃ a ∈ l, k = a.from_ ∨ k = a.to_)
  | [], o, _, k, _ => by
    show bt o k = true ↔ _
    constructor
    · exact .inl
    · rintro (h | ⟨a, ha, _⟩)
      · exact h
      · cases ha
  | a :: l, o, hA, k, hk => by
    obtain ⟨a1, a2, a3, a4⟩ := hA a (List.mem_cons_self ..)
    show bt (marks l _) k = true ↔ _
    rw [marks_bt l _ (fun x hx => by rw [List.length_set, List.length_set]; exact hA x (List.mem_cons_of_mem _ hx)) k hk, bt_set hk (by rw [List.length_set]; omega), bt_set hk (by omega)]
    constructor
    · rintro (h | ⟨b, hb, h⟩)
      · by_cases e1 : k = (a.to_.toNat : Int)
        · exact .inr ⟨a, List.mem_cons_self .., .inr (by omega)⟩
        · rw [if_neg e1] at h
          by_cases e2 : k = (a.from_.toNat : Int)
          · exact .inr ⟨a, List.mem_cons_self .., .inl (by omega)⟩
          · rw [if_neg e2] at h
            exact .inl h
      · exact .inr ⟨b, List.mem_cons_of_mem _ hb, h⟩
    · rintro (h | ⟨b, hb, h⟩)
      · left
        split
        · rfl
        · split
          · rfl
          · exact h
      · rcases List.mem_cons.1 hb with rfl | hb
        · left
          rcases h with h | h
          · split
            · rfl
            · rw [if_pos (by omega)]
          · rw [if_pos (by omega)]
        · exact .inr ⟨b, hb, h⟩
theorem circ_mem {m : T_Mine} {l : List Arc} {a : Arc} : a ∈ circ m l ↔ a ∈ l ∧ onArc m l a = true := by
  constructor
  · exact circ_sub a
  · rintro ⟨h1, h2⟩
    unfold circ
    exact List.mem_flatMap.2 ⟨a, h1, by rw [h2]; simp⟩
def mixS (m : T_Mine) (l : List Arc) (k : Int) : Prop := ∃ a ∈ circ m l, k = a.from_ ∨ k = a.to_
theorem idx_mem {o : List Bool} {v : Int} : v ∈ idx o ↔ 0 ≤ v ∧ v < (o.length : Int) ∧ bt o v = true := by
  unfold idx
  rw [List.mem_map]
  constructor
  · rintro ⟨i, hi, rfl⟩
    obtain ⟨h1, h2⟩ := List.mem_filter.1 hi
    have := List.mem_range.1 h1
    exact ⟨by omega, by omega, h2⟩
  · rintro ⟨h1, h2, h3⟩
    refine ⟨v.toNat, List.mem_filter.2 ⟨List.mem_range.2 (by omega), ?_⟩, by omega⟩
    rw [Int.toNat_of_nonneg h1]
    exact h3
theorem mixed_mem {m : T_Mine} {f : List T_Span} {v : Int} : v ∈ mixedF m f ↔ rtB m f = true ∧ 0 ≤ v ∧ v < (m.Places.length : Int) ∧ Rch m (-1) (arcsF m f) (mixS m (arcsF m f)) v := by
  unfold mixedF
  by_cases h : rtB m f = true
  · obtain ⟨hR, hl⟩ := rtB_is h
    have hA := arcsF_ok (f := f) hR
    have hml : (marks (circ m (arcsF m f)) (List.replicate m.Places.length false)).length = m.Places.length := by
      have : ∀ (l : List Arc) (o : List Bool), (marks l o).length = o.length := by
        intro l
        induction l with
        | nil => intro o; rfl
        | cons a l ih => intro o; exact (ih _).trans (by rw [List.length_set, List.length_set])
      rw [this, List.length_replicate]
    rw [if_pos h, idx_mem]
    unfold mixO
    rw [spreadC_len, hml]
    constructor
    · rintro ⟨h1, h2, h3⟩
      refine ⟨h, h1, h2, (spread_iff (by rw [hml]; exact hA) (fun k hk => ?_) (fun k hk => ?_) h1).1 h3⟩
      · rw [marks_bt _ _ (fun a ha => by rw [List.length_replicate]; exact hA a (circ_sub a ha).1) k hk]
        constructor
        · rintro (h | h)
          · unfold bt at h
            by_cases hh : k.toNat < m.Places.length
            · rw [List.getElem?_replicate_of_lt hh] at h; cases h
            · rw [List.getElem?_eq_none (by simpa using hh)] at h; cases h
          · exact h
        · exact .inr
      · obtain ⟨a, ha, hk⟩ := hk
        have := hA a (circ_sub a ha).1
        unfold ArcOk at this
        omega
    · rintro ⟨_, h1, h2, h3⟩
      refine ⟨h1, h2, (spread_iff (S := mixS m (arcsF m f)) (by rw [hml]; exact hA) (fun k hk => ?_) (fun k hk => ?_) h1).2 h3⟩
      · rw [marks_bt _ _ (fun a ha => by rw [List.length_replicate]; exact hA a (circ_sub a ha).1) k hk]
        constructor
        · rintro (h | h)
          · unfold bt at h
            by_cases hh : k.toNat < m.Places.length
            · rw [List.getElem?_replicate_of_lt hh] at h; cases h
            · rw [List.getElem?_eq_none (by simpa using hh)] at h; cases h
          · exact h
        · exact .inr
      · obtain ⟨a, ha, hk⟩ := hk
        have := hA a (circ_sub a ha).1
        unfold ArcOk at this
        omega
  · rw [if_neg h]
    constructor
    · intro h; cases h
    · rintro ⟨h', _⟩; exact absurd h' h
theorem mixS_surf {m : T_Mine} {l : List Arc} (hA : ∀ a ∈ l, ArcOk m.Places.length a) (k : Int) (h : mixS m l k) : sf m k = false := by
  obtain ⟨a, ha, hk⟩ := h
  obtain ⟨h1, h2⟩ := circ_sub a ha
  obtain ⟨q1, q2, _⟩ := (on_iff hA (hA a h1)).1 h2
  rcases hk with rfl | rfl
  · exact q1
  · exact q2
theorem has_eq (l : List Int) (v : Int) (hl : l.length ≤ 1000000) : F_ref01_Has l v = some (decide (v ∈ l)) := by
  unfold F_ref01_Has
  rw [all_loop l (fun x => decide (x = v)) (fun i x hx => by
    have hi := (List.getElem?_eq_some_iff.1 hx).1
    unfold F_ref01_Has_L1
    rw [bif_pos (by omega), getI_nat, hx, bind_some, w64 (by omega) (by omega)]) (by unfold F_ref01_Has_L1; rw [bif_neg (by omega)]), bind_some]
  by_cases h : v ∈ l
  · rw [if_neg (fun hh => by have := List.all_eq_true.1 hh v h; simp at this), decide_eq_true h]
    rfl
  · rw [if_pos (List.all_eq_true.2 fun x hx => by rw [Bool.not_eq_true', decide_eq_false_iff_not]; rintro rfl; exact h hx), decide_eq_false h]
    rfl
end Go.L
