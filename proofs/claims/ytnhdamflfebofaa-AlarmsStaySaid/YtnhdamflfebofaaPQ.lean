/- What the functions yield, plain: the laws. -/
import Derived.Test.YtnhdamflfebofaaLLib
import Derived.Test.YtnhdamflfebofaaL41D
/- Alarms: which are right, and where one stands, as the program and the reference compute it. -/
namespace Go.L
open Go Go.Aml

theorem all_loop {α : Type} (l : List α) (bad : α → Bool) {g : Int → Option (Int ⊕ (Unit ⊕ Unit))} (h : ∀ (i : Nat) (x : α), l[i]? = some x → g (i : Int) = bif bad x then some (.inr (.inl ())) else some (.inl ((i : Int) + 1)))
    (hend : g (l.length : Int) = some (.inr (.inr ()))) : loopC g 0 = some (if l.all (fun x => !bad x) then .inr () else .inl ()) := by
  have key : ∀ (m i : Nat), i + m = l.length → loopC g (i : Int) = some (if (l.drop i).all (fun x => !bad x) then .inr () else .inl ()) := by
    intro m
    induction m with
    | zero =>
      intro i hi
      have : i = l.length := by omega
      subst this
      rw [loopC_inr hend, List.drop_length]
      rfl
    | succ m ih =>
      intro i hi
      have hx : i < l.length := by omega
      have h1 := h i _ (List.getElem?_eq_getElem hx)
      rw [List.drop_eq_getElem_cons hx, List.all_cons]
      cases hb : bad l[i] with
      | true => rw [hb] at h1; rw [loopC_inr h1]; rfl
      | false =>
        rw [hb] at h1
        rw [loopC_inl h1, show ((i : Int) + 1) = ((i + 1 : Nat) : Int) by omega, ih (i + 1) (by omega), Bool.not_false, Bool.true_and]
  have := key l.length 0 (by omega)
  rwa [List.drop_zero] at this
section
variable {α : Type}
theorem bs_loop {l : List α} {k0 : Nat} {p : α → Bool} {f : Int × Int → Option ((Int × Int) ⊕ Int)} (hp : ∀ t (h : t < l.length), p l[t] = decide (t < k0))
    (h1 : ∀ (i j : Nat) (h : (i + j) / 2 < l.length), i < j → j ≤ l.length → f ((j : Int), (i : Int)) = some (if p l[(i + j) / 2] = true then .inl ((j : Int), (((i + j) / 2 + 1 : Nat) : Int)) else .inl ((((i + j) / 2 : Nat) : Int), (i : Int))))
    (h2 : ∀ (i j : Nat), j ≤ i → f ((j : Int), (i : Int)) = some (.inr (i : Int))) : ∀ (m i j : Nat), j - i = m → i ≤ k0 → k0 ≤ j → j ≤ l.length → loopC f ((j : Int), (i : Int)) = some (k0 : Int) := by
  intro m
  induction m using Nat.strongRecOn with
  | _ m ih =>
    intro i j hm hi hj hl
    by_cases hlt : i < j
    · have hh : (i + j) / 2 < l.length := by omega
      have := h1 i j hh hlt hl
      rw [hp _ hh] at this
      by_cases hk : (i + j) / 2 < k0
      · rw [decide_eq_true hk, if_pos rfl] at this
        rw [loopC_inl this]
        exact ih (j - ((i + j) / 2 + 1)) (by omega) _ _ rfl (by omega) hj hl
      · rw [decide_eq_false hk, if_neg (by simp)] at this
        rw [loopC_inl this]
        exact ih ((i + j) / 2 - i) (by omega) _ _ rfl hi (by omega) (by omega)
    · rw [loopC_inr (h2 i j (by omega))]
      congr 2
      omega
end
theorem cmp_eq (a b : Int) : F_cmp_Compare_int_ a b = some (if a < b then -1 else if b < a then 1 else 0) := by
  unfold F_cmp_Compare_int_ F_cmp_isNaN_int_
  rw [bind_some, bind_some]
  simp only [ne_eq, not_true_eq_false, decide_false, cond_false]
  rw [bif_ite, bif_ite]
  split
  · rfl
  · split <;> rfl
theorem mid_eq {i j : Nat} (h : i + j ≤ 2000000) : IntKind.i64.wrap ((IntKind.u64.wrap (IntKind.i64.wrap ((i : Int) + (j : Int)))) / 2) = (((i + j) / 2 : Nat) : Int) := by
  rw [w64 (n := (i : Int) + j) (by omega) (by omega), wu64 (by omega) (by omega), w64 (by omega) (by omega)]
  omega

theorem drop_cons_get {α : Type} {l : List α} {i : Nat} (h : i < l.length) : l.drop i = l[i] :: l.drop (i + 1) := List.drop_eq_getElem_cons h
theorem in_eq (x a b : Int) : F_lists_In x a b = some (decide (a ≤ x ∧ x ≤ b)) := by
  unfold F_lists_In
  exact and_bif rfl
def Rng (x : Int) : Prop := 0 ≤ x ∧ x ≤ 2147483648
instance (x : Int) : Decidable (Rng x) := by unfold Rng; infer_instance
def RA (a : T_Alarm) : Prop := (Rng a.Kind ∧ Rng a.Subject ∧ Rng a.Raised ∧ Rng a.Hidden) ∧ (1 ≤ a.Priority ∧ a.Priority ≤ 4) ∧ (1 ≤ a.Count ∧ a.Count ≤ 2147483648) ∧ (if a.Active = true then a.Ended = 0 else (a.Raised ≤ a.Ended ∧ a.Ended ≤ 2147483648) ∧ a.Acked = false)
instance (a : T_Alarm) : Decidable (RA a) := by unfold RA; infer_instance
theorem right_eq (a : T_Alarm) : F_alarms_right a = some (decide (RA a)) := by
  unfold F_alarms_right
  have e := all_loop [a.Kind, a.Subject, a.Raised, a.Hidden] (fun x => !decide (Rng x)) (g := F_alarms_right_L1 a) (fun i x hx => by
    have hi := (List.getElem?_eq_some_iff.1 hx).1
    simp only [List.length_cons, List.length_nil] at hi
    unfold F_alarms_right_L1
    rw [bif_pos (by omega), getI_nat, hx, bind_some, in_eq, bind_some, w64 (by omega) (by omega)]
    rfl) (by unfold F_alarms_right_L1; rw [bif_neg (by simp)])
  rw [e, bind_some]
  simp only [Bool.not_not, List.all_cons, List.all_nil, Bool.and_true]
  by_cases h : Rng a.Kind ∧ Rng a.Subject ∧ Rng a.Raised ∧ Rng a.Hidden
  · obtain ⟨h1, h2, h3, h4⟩ := id h
    rw [decide_eq_true h1, decide_eq_true h2, decide_eq_true h3, decide_eq_true h4]
    simp only [Bool.and_self, if_true, Sum.elim_inr]
    rw [in_eq, bind_some, in_eq, bind_some]
    by_cases hp : 1 ≤ a.Priority ∧ a.Priority ≤ 4
    · rw [decide_eq_true hp, Bool.not_true, cond_false, bind_some]
      by_cases hc : 1 ≤ a.Count ∧ a.Count ≤ 2147483648
      · rw [decide_eq_true hc, Bool.not_true, cond_false]
        cases ha : a.Active with
        | true =>
          rw [cond_true]
          congr 1
          apply decide_eq_decide.2
          unfold RA
          rw [ha, if_pos rfl]
          exact ⟨fun x => ⟨h, hp, hc, x⟩, fun x => x.2.2.2⟩
        | false =>
          rw [cond_false, in_eq, bind_some]
          by_cases he : a.Raised ≤ a.Ended ∧ a.Ended ≤ 2147483648
          · rw [decide_eq_true he, cond_true]
            have hiff : RA a ↔ a.Acked = false := by
              constructor
              · intro x
                have := x.2.2.2
                rw [if_neg (by rw [ha]; simp)] at this
                exact this.2
              · intro x
                exact ⟨h, hp, hc, by rw [if_neg (by rw [ha]; simp)]; exact ⟨he, x⟩⟩
            rw [decide_eq_decide.2 hiff]
            exact not_dec
          · rw [decide_eq_false he, cond_false]
            congr 1
            symm
            rw [decide_eq_false_iff_not]
            intro hh
            unfold RA at hh
            rw [ha] at hh
            exact he hh.2.2.2.1
      · rw [decide_eq_false hc, Bool.not_false, cond_true]
        congr 1
        symm
        rw [decide_eq_false_iff_not]
        exact fun hh => hc hh.2.2.1
    · rw [decide_eq_false hp, Bool.not_false, cond_true, bind_some, cond_true]
      congr 1
      symm
      rw [decide_eq_false_iff_not]
      exact fun hh => hp hh.2.1
  · have hn : ¬ RA a := fun hh => h hh.1
    rw [decide_eq_false hn]
    have : (decide (Rng a.Kind) && (decide (Rng a.Subject) && (decide (Rng a.Raised) && decide (Rng a.Hidden)))) = false := by
      cases h1 : decide (Rng a.Kind) <;> cases h2 : decide (Rng a.Subject) <;> cases h3 : decide (Rng a.Raised) <;> cases h4 : decide (Rng a.Hidden) <;> first | rfl | skip
      exact absurd ⟨of_decide_eq_true h1, of_decide_eq_true h2, of_decide_eq_true h3, of_decide_eq_true h4⟩ h
    rw [this, if_neg (by simp)]
    rfl
theorem cor2_eq (a b : Int) : F_cmp_Or_int_ [a, b] = some (if a ≠ 0 then a else b) := by
  unfold F_cmp_Or_int_
  have g0 : getI [a, b] 0 = some a := rfl
  have g1 : getI [a, b] 1 = some b := rfl
  by_cases ha : a ≠ 0
  · rw [loopC_inr (b := .inl a) (by unfold F_cmp_Or_int__L1; rw [bif_pos (by simp), g0, bind_some, bif_pos ha]), bind_some, if_pos ha]
    rfl
  · rw [loopC_inl (a' := 1) (by unfold F_cmp_Or_int__L1; rw [bif_pos (by simp), g0, bind_some, bif_neg ha, w64 (by omega) (by omega)]; rfl), if_neg ha]
    by_cases hb : b ≠ 0
    · rw [loopC_inr (b := .inl b) (by unfold F_cmp_Or_int__L1; rw [bif_pos (by simp), g1, bind_some, bif_pos hb]), bind_some]
      rfl
    · rw [loopC_inl (a' := 2) (by unfold F_cmp_Or_int__L1; rw [bif_pos (by simp), g1, bind_some, bif_neg hb, w64 (by omega) (by omega)]; rfl),
        loopC_inr (b := .inr ()) (by unfold F_cmp_Or_int__L1; rw [bif_neg (by simp)]), bind_some]
      simp at hb
      rw [hb]
      rfl
theorem cor3_eq (a b c : Int) : F_cmp_Or_int_ [a, b, c] = some (if a ≠ 0 then a else if b ≠ 0 then b else c) := by
  unfold F_cmp_Or_int_
  have g0 : getI [a, b, c] 0 = some a := rfl
  have g1 : getI [a, b, c] 1 = some b := rfl
  have g2 : getI [a, b, c] 2 = some c := rfl
  by_cases ha : a ≠ 0
  · rw [loopC_inr (b := .inl a) (by unfold F_cmp_Or_int__L1; rw [bif_pos (by simp), g0, bind_some, bif_pos ha]), bind_some, if_pos ha]
    rfl
  · rw [loopC_inl (a' := 1) (by unfold F_cmp_Or_int__L1; rw [bif_pos (by simp), g0, bind_some, bif_neg ha, w64 (by omega) (by omega)]; rfl), if_neg ha]
    by_cases hb : b ≠ 0
    · rw [loopC_inr (b := .inl b) (by unfold F_cmp_Or_int__L1; rw [bif_pos (by simp), g1, bind_some, bif_pos hb]), bind_some, if_pos hb]
      rfl
    · rw [loopC_inl (a' := 2) (by unfold F_cmp_Or_int__L1; rw [bif_pos (by simp), g1, bind_some, bif_neg hb, w64 (by omega) (by omega)]; rfl), if_neg hb]
      by_cases hc : c ≠ 0
      · rw [loopC_inr (b := .inl c) (by unfold F_cmp_Or_int__L1; rw [bif_pos (by simp), g2, bind_some, bif_pos hc]), bind_some]
        rfl
      · rw [loopC_inl (a' := 3) (by unfold F_cmp_Or_int__L1; rw [bif_pos (by simp), g2, bind_some, bif_neg hc, w64 (by omega) (by omega)]; rfl),
          loopC_inr (b := .inr ()) (by unfold F_cmp_Or_int__L1; rw [bif_neg (by simp)]), bind_some]
        simp at hc
        rw [hc]
        rfl
def bef (a : T_Alarm) (k s : Int) : Prop := a.Kind < k ∨ a.Kind = k ∧ a.Subject < s
instance (a : T_Alarm) (k s : Int) : Decidable (bef a k s) := by unfold bef; infer_instance
def isN (a : T_Alarm) (k s : Int) : Prop := a.Kind = k ∧ a.Subject = s
instance (a : T_Alarm) (k s : Int) : Decidable (isN a k s) := by unfold isN; infer_instance
def befA (a b : T_Alarm) : Prop := bef a b.Kind b.Subject
theorem befA_tr {a b c : T_Alarm} (h : befA a b) (k : befA b c) : befA a c := by unfold befA bef at *; omega
theorem compare_eq (a : T_Alarm) (k s : Int) : ∃ c, F_alarms_compare a ⟨k, s⟩ = some c ∧ (c < 0 ↔ bef a k s) ∧ (c = 0 ↔ isN a k s) := by
  unfold F_alarms_compare
  dsimp only
  rw [cmp_eq, bind_some, cmp_eq, bind_some, cor2_eq, bind_some]
  refine ⟨_, rfl, ?_, ?_⟩
  · unfold bef
    split <;> split <;> (try split) <;> (try split) <;> omega
  · unfold isN
    split <;> split <;> (try split) <;> (try split) <;> omega
def VA (l : List T_Alarm) : Prop := l.length ≤ 64 ∧ (∀ a ∈ l, RA a) ∧ l.Pairwise befA
def badA (l : List T_Alarm) (i : Nat) : Bool := match l[i]? with
  | none => false
  | some a => !decide (RA a) || (decide (0 < i) && match l[i - 1]? with
    | none => false
    | some b => !decide (bef b a.Kind a.Subject))
theorem pw_adj {α : Type} {R : α → α → Prop} (tr : ∀ a b c, R a b → R b c → R a c) : ∀ l : List α, (∀ i (h : i + 1 < l.length), R l[i] l[i + 1]) → l.Pairwise R
  | [], _ => .nil
  | [a], _ => List.pairwise_singleton R a
  | a :: b :: l, h => by
    have ih := pw_adj tr (b :: l) fun i hi => h (i + 1) (by simpa using hi)
    have hab : R a b := h 0 (by simp)
    refine List.pairwise_cons.2 ⟨fun c hc => ?_, ih⟩
    rcases List.mem_cons.1 hc with rfl | hc
    · exact hab
    · exact tr _ _ _ hab ((List.pairwise_cons.1 ih).1 c hc)
theorem bad_iff {l : List T_Alarm} {i : Nat} (hi : i < l.length) : badA l i = false ↔ RA l[i] ∧ ∀ h : 0 < i, befA (l[i - 1]'(by omega)) l[i] := by
  unfold badA
  rw [List.getElem?_eq_getElem hi]
  dsimp only
  rw [List.getElem?_eq_getElem (show i - 1 < l.length by omega)]
  dsimp only
  unfold befA
  by_cases h0 : 0 < i
  · rw [decide_eq_true h0]
    simp [h0]
  · rw [decide_eq_false h0]
    simp [h0]
theorem VA_iff (l : List T_Alarm) : VA l ↔ l.length ≤ 64 ∧ ∀ i, i < l.length → badA l i = false := by
  constructor
  · rintro ⟨h1, h2, h3⟩
    refine ⟨h1, fun i hi => (bad_iff hi).2 ⟨h2 _ (List.getElem_mem hi), fun h0 => ?_⟩⟩
    exact List.pairwise_iff_getElem.1 h3 _ _ _ _ (by omega)
  · rintro ⟨h1, h2⟩
    refine ⟨h1, fun a ha => ?_, pw_adj (R := befA) (fun a b c h k => befA_tr h k) l fun i hi => ?_⟩
    · obtain ⟨i, hi, rfl⟩ := List.getElem_of_mem ha
      exact ((bad_iff hi).1 (h2 i hi)).1
    · exact ((bad_iff hi).1 (h2 _ hi)).2 (by omega)
instance (l : List T_Alarm) : Decidable (VA l) := decidable_of_iff _ (VA_iff l).symm
theorem adj_loop (n : Nat) (bad : Nat → Bool) {g : Int → Option (Int ⊕ (Unit ⊕ Unit))} (h : ∀ i, i < n → g (i : Int) = bif bad i then some (.inr (.inl ())) else some (.inl ((i : Int) + 1))) (hend : g (n : Int) = some (.inr (.inr ()))) :
    loopC g 0 = some (if ∀ i, i < n → bad i = false then .inr () else .inl ()) := by
  have := all_loop (List.range n) bad (g := g) (fun i x hx => by
    have hi := (List.getElem?_eq_some_iff.1 hx).1
    rw [List.length_range] at hi
    rw [List.getElem?_range hi] at hx
    injection hx with hx
    subst hx
    exact h i hi) (by rw [List.length_range]; exact hend)
  rw [this]
  congr 1
  by_cases hh : ∀ i, i < n → bad i = false
  · rw [if_pos hh, if_pos (List.all_eq_true.2 fun x hx => by rw [hh x (List.mem_range.1 hx)]; rfl)]
  · rw [if_neg hh, if_neg (fun h' => hh fun i hi => by
      have := List.all_eq_true.1 h' i (List.mem_range.2 hi)
      simpa using this)]
theorem valid_eq (l : List T_Alarm) (hl : l.length ≤ 1000000) : F_alarms_Valid l = some (decide (VA l)) := by
  unfold F_alarms_Valid
  by_cases h : 64 < (l.length : Int)
  · rw [bif_pos h, decide_eq_false (fun hh => by have := hh.1; omega)]
  · rw [bif_neg h, adj_loop l.length (badA l) (g := F_alarms_Valid_L1 l) (fun i hi => ?_) (by unfold F_alarms_Valid_L1; rw [bif_neg (by omega)]), bind_some]
    · by_cases hb : ∀ i, i < l.length → badA l i = false
      · rw [if_pos hb, Sum.elim_inr, decide_eq_true ((VA_iff l).2 ⟨by omega, hb⟩)]
      · rw [if_neg hb, Sum.elim_inl, decide_eq_false (fun hh => hb ((VA_iff l).1 hh).2)]
    · unfold F_alarms_Valid_L1 badA
      rw [bif_pos (by omega), getI_nat, List.getElem?_eq_getElem hi, bind_some, right_eq, bind_some, w64 (n := (i : Int) + 1) (by omega) (by omega)]
      dsimp only
      by_cases hr : RA l[i]
      · rw [decide_eq_true hr, Bool.not_true, cond_false, Bool.false_or]
        by_cases h0 : 0 < i
        · have hc : IntKind.i64.wrap ((i : Int) - 1) = ((i - 1 : Nat) : Int) := by rw [w64 (by omega) (by omega)]; omega
          obtain ⟨c, e1, e2, e3⟩ := compare_eq (l[i - 1]'(by omega)) l[i].Kind l[i].Subject
          rw [bif_pos (by omega), hc, getI_nat, List.getElem?_eq_getElem (show i - 1 < l.length by omega), bind_some, e1, bind_some, bind_some, decide_eq_true h0, Bool.true_and]
          have : decide (0 ≤ c) = !decide (bef (l[i - 1]'(by omega)) l[i].Kind l[i].Subject) := by
            by_cases hb : bef (l[i - 1]'(by omega)) l[i].Kind l[i].Subject
            · rw [decide_eq_true hb, decide_eq_false (by have := e2.2 hb; omega)]; rfl
            · rw [decide_eq_false hb, decide_eq_true (show 0 ≤ c by have hn : ¬ c < 0 := fun x => hb (e2.1 x); omega)]; rfl
          rw [this]
        · rw [bif_neg (by omega), bind_some, decide_eq_false h0, Bool.false_and]
      · rw [decide_eq_false hr, Bool.not_false, cond_true, bind_some, Bool.true_or]

instance (a b : T_Alarm) : Decidable (befA a b) := by unfold befA; infer_instance
theorem nor_bif {p q : Prop} [Decidable p] [Decidable q] {m : Option Bool} (h : m = some (decide q)) : (bif (!decide p) then some true else m) = some (decide (¬ p ∨ q)) := by
  by_cases hp : p
  · rw [decide_eq_true hp, Bool.not_true, cond_false, h]
    congr 1
    exact decide_eq_decide.2 ⟨.inr, fun x => x.resolve_left (fun k => k hp)⟩
  · rw [decide_eq_false hp, Bool.not_false, cond_true, decide_eq_true (.inl hp)]
theorem ndec {p : Prop} [Decidable p] : some (!decide p) = some (decide (¬ p)) := by rw [decide_not]
def S6 (a : T_Alarm) : Prop := ¬ Rng a.Kind ∨ ¬ Rng a.Subject ∨ ¬ (1 ≤ a.Priority ∧ a.Priority ≤ 4) ∨ ¬ (1 ≤ a.Count ∧ a.Count ≤ 2147483648) ∨ ¬ Rng a.Raised ∨ ¬ Rng a.Hidden
instance (a : T_Alarm) : Decidable (S6 a) := by unfold S6; infer_instance
def W1 (a : T_Alarm) : Bool := if a.Active = true then decide (a.Ended ≠ 0) else a.Acked || !decide (a.Raised ≤ a.Ended ∧ a.Ended ≤ 2147483648)
/-! ### where an alarm stands -/
def posP {α : Type} (p : α → Bool) : List α → Nat
  | [] => 0
  | e :: l => if p e = true then posP p l + 1 else 0
theorem posP_le {α : Type} (p : α → Bool) : ∀ l, posP p l ≤ l.length
  | [] => Nat.le_refl _
  | e :: l => by
    have := posP_le p l
    rw [posP, List.length_cons]
    split <;> omega
theorem posP_spec {α : Type} {R : α → α → Prop} (p : α → Bool) (hp : ∀ a b, R a b → p b = true → p a = true) : ∀ (l : List α), l.Pairwise R → ∀ t (h : t < l.length), p l[t] = decide (t < posP p l)
  | [], _, t, h => by simp at h
  | e :: l, hs, t, h => by
    obtain ⟨h1, h2⟩ := List.pairwise_cons.1 hs
    rw [posP]
    by_cases he : p e = true
    · rw [if_pos he]
      match t, h with
      | 0, _ => simpa using he
      | t + 1, h =>
        have := posP_spec p hp l h2 t (by simpa using h)
        simpa using this
    · rw [if_neg he]
      match t, h with
      | 0, _ => simpa using he
      | t + 1, h =>
        have hl : t < l.length := by simpa using h
        have : p l[t] = false := by
          cases hh : p l[t] with
          | false => rfl
          | true => exact absurd (hp _ _ (h1 _ (List.getElem_mem hl)) hh) he
        simpa using this
def posK (l : List T_Alarm) (k s : Int) : Nat := posP (fun a => decide (bef a k s)) l
def foundK (l : List T_Alarm) (k s : Int) : Prop := ∃ a, l[posK l k s]? = some a ∧ isN a k s
instance (l : List T_Alarm) (k s : Int) : Decidable (foundK l k s) := by
  unfold foundK
  cases h : l[posK l k s]? with
  | none => exact .isFalse (by rintro ⟨a, h, _⟩; cases h)
  | some a =>
    by_cases hn : isN a k s
    · exact .isTrue ⟨a, rfl, hn⟩
    · exact .isFalse (by rintro ⟨b, h, hb⟩; injection h with h; subst h; exact hn hb)
theorem posK_le (l : List T_Alarm) (k s : Int) : posK l k s ≤ l.length := posP_le _ _
theorem posK_spec {l : List T_Alarm} (h : l.Pairwise befA) (k s : Int) : ∀ t (h : t < l.length), decide (bef l[t] k s) = decide (t < posK l k s) :=
  posP_spec (R := befA) (fun a => decide (bef a k s)) (fun a b hab hb => by
    simp only [decide_eq_true_eq] at hb ⊢
    unfold befA bef at *
    omega) l h
theorem mid_eq2 {i j : Nat} (h : i + j ≤ 2000000) : IntKind.i64.wrap ((IntKind.u64.wrap (IntKind.i64.wrap ((i : Int) + (j : Int)))) / 2) = (((i + j) / 2 : Nat) : Int) := mid_eq h
theorem search_eq (l : List T_Alarm) (k s : Int) (hs : l.Pairwise befA) (hl : l.length ≤ 1000000) : F_slices_BinarySearchFunc___api_Alarm_api_Alarm_alarms_name___alarms_compare l ⟨k, s⟩ = some ((posK l k s : Int), decide (foundK l k s)) := by
  have hle := posK_le l k s
  unfold F_slices_BinarySearchFunc___api_Alarm_api_Alarm_alarms_name___alarms_compare
  have key := bs_loop (f := F_slices_BinarySearchFunc___api_Alarm_api_Alarm_alarms_name___alarms_compare_L1 l ⟨k, s⟩) (p := fun a => decide (bef a k s)) (posK_spec hs k s) (fun i j h hij hj => ?_) (fun i j hij => ?_) (l.length - 0) 0 l.length rfl (Nat.zero_le _) hle (Nat.le_refl _)
  · rw [show ((0 : Nat) : Int) = 0 from rfl] at key
    rw [key, bind_some]
    by_cases h : posK l k s < l.length
    · obtain ⟨c, e1, e2, e3⟩ := compare_eq l[posK l k s] k s
      rw [bif_pos (by omega), getI_nat, List.getElem?_eq_getElem h, bind_some, e1, bind_some]
      congr 2
      apply decide_eq_decide.2
      rw [e3]
      unfold foundK
      rw [List.getElem?_eq_getElem h]
      exact ⟨fun x => ⟨_, rfl, x⟩, fun ⟨a, e, x⟩ => by injection e with e; subst e; exact x⟩
    · rw [bif_neg (by omega)]
      congr 2
      symm
      rw [decide_eq_false_iff_not]
      rintro ⟨a, e, _⟩
      rw [List.getElem?_eq_none (by omega)] at e
      cases e
  · obtain ⟨c, e1, e2, e3⟩ := compare_eq l[(i + j) / 2] k s
    unfold F_slices_BinarySearchFunc___api_Alarm_api_Alarm_alarms_name___alarms_compare_L1
    dsimp only
    rw [bif_pos (by omega), mid_eq2 (by omega), getI_nat, List.getElem?_eq_getElem h, bind_some, e1, bind_some]
    by_cases hx : bef l[(i + j) / 2] k s
    · rw [bif_pos (e2.2 hx), if_pos (decide_eq_true hx), w64 (by omega) (by omega)]
      rfl
    · rw [bif_neg (fun h => hx (e2.1 h)), if_neg (by simpa using hx)]
  · unfold F_slices_BinarySearchFunc___api_Alarm_api_Alarm_alarms_name___alarms_compare_L1
    dsimp only
    rw [bif_neg (by omega)]
/-! ### what is done -/
def newA (k s p t c : Int) : T_Alarm := ⟨k, s, p, t, 0, true, false, 0, c⟩
def atK (l : List T_Alarm) (k s : Int) : T_Alarm := (l[posK l k s]?).getD (newA 0 0 0 0 0)
def raiseF (l : List T_Alarm) (k s p t : Int) : List T_Alarm × Int :=
  if VA l then
    if Rng k ∧ Rng s ∧ 1 ≤ p ∧ p ≤ 4 then
      if ¬ Rng t ∨ foundK l k s ∧ (t < (atK l k s).Raised ∨ t < (atK l k s).Ended) then (l, 8)
      else if foundK l k s then
        (l.set (posK l k s) (if (atK l k s).Active = true then (if p < (atK l k s).Priority then { atK l k s with Priority := p, Hidden := 0 } else atK l k s) else newA k s p t (min ((atK l k s).Count + 1) 2147483648)), 0)
      else if l.length = 64 then (l, 2)
      else (l.take (posK l k s) ++ [newA k s p t 1] ++ l.drop (posK l k s), 0)
    else (l, 1)
  else (l, 6)
def endF (l : List T_Alarm) (k s t : Int) : List T_Alarm × Int :=
  if VA l then
    if foundK l k s then
      if (atK l k s).Active = true then
        if (atK l k s).Raised ≤ t ∧ t ≤ 2147483648 then
          (if (atK l k s).Acked = true then l.take (posK l k s) ++ l.drop (posK l k s + 1) else l.set (posK l k s) { atK l k s with Active := false, Ended := t }, 0)
        else (l, 8)
      else (l, 10)
    else (l, 53)
  else (l, 6)
def ackF (l : List T_Alarm) (k s : Int) : List T_Alarm × Int :=
  if VA l then
    if foundK l k s then
      if (atK l k s).Acked = true then (l, 10)
      else (if (atK l k s).Active = true then l.set (posK l k s) { atK l k s with Acked := true } else l.take (posK l k s) ++ l.drop (posK l k s + 1), 0)
    else (l, 53)
  else (l, 6)
def hideF (l : List T_Alarm) (k s u : Int) : List T_Alarm × Int :=
  if VA l then
    if foundK l k s then
      if Rng u then
        if (atK l k s).Priority = 1 then (l, 10) else (l.set (posK l k s) { atK l k s with Hidden := u }, 0)
      else (l, 8)
    else (l, 53)
  else (l, 6)
theorem clone_eq (l : List T_Alarm) (hl : l.length ≤ 1000000) : F_slices_Clone___api_Alarm_api_Alarm_ l = some l := by
  unfold F_slices_Clone___api_Alarm_api_Alarm_
  rw [appI_ok (by simp; omega), bind_some]
  rfl
theorem found_at {l : List T_Alarm} {k s : Int} (h : foundK l k s) : posK l k s < l.length ∧ l[posK l k s]? = some (atK l k s) ∧ isN (atK l k s) k s ∧ atK l k s ∈ l := by
  obtain ⟨a, e, hn⟩ := h
  have ea : atK l k s = a := by unfold atK; rw [e]; rfl
  exact ⟨(List.getElem?_eq_some_iff.1 e).1, by rw [e, ea], by rw [ea]; exact hn, by rw [ea]; exact List.mem_of_getElem? e⟩
theorem set_get {α : Type} {l : List α} {i : Nat} {a : α} (h : l[i]? = some a) : l.set i a = l := by
  obtain ⟨hi, rfl⟩ := List.getElem?_eq_some_iff.1 h
  exact List.set_getElem_self hi
theorem three_eq (k s p : Int) : ((F_lists_In k 0 2147483648).bind fun x5 =>
    bif (!x5) then
      some true
    else
      (F_lists_In s 0 2147483648).bind fun x8 =>
      bif (!x8) then
        some true
      else
        (F_lists_In p 1 4).bind fun x11 =>
        some (!x11)) = some (decide (¬ (Rng k ∧ Rng s ∧ 1 ≤ p ∧ p ≤ 4))) := by
  rw [in_eq, bind_some, in_eq, bind_some, in_eq, bind_some, nor_bif (nor_bif ndec)]
  congr 1
  apply decide_eq_decide.2
  unfold Rng
  omega
theorem in_rng (x : Int) : F_lists_In x 0 2147483648 = some (decide (Rng x)) := by
  rw [in_eq]
  congr 1
theorem time_eq (l : List T_Alarm) (k s t : Int) : (bif (!decide (Rng t)) then
        some true
      else
        bif decide (foundK l k s) then
          (getI l (posK l k s : Int)).bind fun x21 =>
          bif (decide (t < x21.Raised)) then
            some true
          else
            (getI l (posK l k s : Int)).bind fun x24 =>
            some (decide (t < x24.Ended))
        else
          some false) = some (decide (¬ Rng t ∨ foundK l k s ∧ (t < (atK l k s).Raised ∨ t < (atK l k s).Ended))) := by
  refine nor_bif ?_
  by_cases h : foundK l k s
  · obtain ⟨h1, h2, h3, h4⟩ := found_at h
    rw [bif_pos h, getI_nat, h2, bind_some, bind_some, or_bif rfl]
    congr 1
    exact decide_eq_decide.2 ⟨fun x => ⟨h, x⟩, fun x => x.2⟩
  · rw [bif_neg h, decide_eq_false (fun x => h x.1)]
theorem raise_eq (l : List T_Alarm) (k s p t : Int) (hl : l.length ≤ 1000000) : F_alarms_Raise l k s p t = some (raiseF l k s p t) := by
  have hle := posK_le l k s
  unfold F_alarms_Raise raiseF
  rw [valid_eq l hl, bind_some]
  by_cases hv : VA l
  · rw [if_pos hv, decide_eq_true hv, Bool.not_true, cond_false, three_eq, bind_some]
    by_cases h3 : Rng k ∧ Rng s ∧ 1 ≤ p ∧ p ≤ 4
    · rw [if_pos h3, bif_neg (fun x => x h3), search_eq l k s hv.2.2 hl, bind_some, in_rng, bind_some]
      dsimp only
      rw [time_eq, bind_some]
      by_cases h8 : ¬ Rng t ∨ foundK l k s ∧ (t < (atK l k s).Raised ∨ t < (atK l k s).Ended)
      · rw [bif_pos h8, if_pos h8]
      · rw [bif_neg h8, if_neg h8]
        by_cases hf : foundK l k s
        · obtain ⟨f1, f2, f3, f4⟩ := found_at hf
          obtain ⟨⟨_, _, _, _⟩, _, ⟨hc0, hc1⟩, _⟩ := hv.2.1 _ f4
          rw [decide_eq_true hf, Bool.not_true, cond_false, if_pos hf, clone_eq l hl, bind_some, getI_nat, f2, bind_some, Int.toNat_natCast, w64 (by omega) (by omega)]
          cases hA : (atK l k s).Active with
          | false =>
            rw [Bool.not_false, cond_true, bind_some, if_neg (by simp)]
            rfl
          | true =>
            rw [Bool.not_true, cond_false, if_pos rfl]
            by_cases hp : p < (atK l k s).Priority
            · rw [bif_pos hp, bind_some, if_pos hp, List.set_set]
            · rw [bif_neg hp, bind_some, if_neg hp]
              congr 2
              exact (set_get f2).symm
        · rw [decide_eq_false hf, Bool.not_false, cond_true, if_neg hf]
          by_cases h64 : l.length = 64
          · rw [bif_pos (by omega), if_pos h64]
          · unfold F_slices_Insert___api_Alarm_api_Alarm_
            rw [bif_neg (by omega), if_neg h64, clone_eq l hl, bind_some, bif_pos ⟨by omega, by omega, rfl, by omega, by omega⟩, bind_some, Int.toNat_natCast]
            rfl
    · rw [if_neg h3, bif_pos h3]
  · rw [if_neg hv, decide_eq_false hv, Bool.not_false, cond_true]
theorem find_eq (l : List T_Alarm) (k s : Int) (hl : l.length ≤ 1000000) : F_alarms_find l k s = some (if VA l then (if foundK l k s then ((posK l k s : Int), 0) else (0, 53)) else (0, 6)) := by
  unfold F_alarms_find
  rw [valid_eq l hl, bind_some]
  by_cases hv : VA l
  · rw [decide_eq_true hv, Bool.not_true, cond_false, if_pos hv, search_eq l k s hv.2.2 hl, bind_some]
    by_cases hf : foundK l k s
    · rw [decide_eq_true hf, if_pos hf]
      rfl
    · rw [decide_eq_false hf, if_neg hf]
      rfl
  · rw [decide_eq_false hv, if_neg hv]
    rfl
theorem put_eq (l : List T_Alarm) (i : Nat) (a : T_Alarm) (hi : i < l.length) (hl : l.length ≤ 1000000) : F_alarms_put l (i : Int) a = some (if a.Active = false ∧ a.Acked = true then l.take i ++ l.drop (i + 1) else l.set i a) := by
  unfold F_alarms_put F_slices_Delete___api_Alarm_api_Alarm_
  rw [clone_eq l hl, bind_some, w64 (by omega) (by omega), bif_pos ⟨by omega, by omega, rfl⟩, bind_some, getI_nat, List.getElem?_eq_getElem hi, bind_some, Int.toNat_natCast]
  cases a.Active <;> cases a.Acked <;> simp
theorem end_eq (l : List T_Alarm) (k s t : Int) (hl : l.length ≤ 1000000) : F_alarms_End l k s t = some (endF l k s t) := by
  unfold F_alarms_End endF
  rw [find_eq l k s hl, bind_some]
  by_cases hv : VA l
  · rw [if_pos hv, if_pos hv]
    by_cases hf : foundK l k s
    · obtain ⟨f1, f2, f3, f4⟩ := found_at hf
      rw [if_pos hf, if_pos hf]
      dsimp only
      rw [bif_neg (by simp), getI_nat, f2, bind_some]
      cases hA : (atK l k s).Active with
      | false => rw [Bool.not_false, cond_true, if_neg (by simp)]
      | true =>
        rw [Bool.not_true, cond_false, if_pos rfl, in_eq, bind_some]
        by_cases ht : (atK l k s).Raised ≤ t ∧ t ≤ 2147483648
        · rw [decide_eq_true ht, Bool.not_true, cond_false, if_pos ht, put_eq l _ _ f1 hl, bind_some]
          dsimp only
          cases hk : (atK l k s).Acked <;> simp
        · rw [decide_eq_false ht, Bool.not_false, cond_true, if_neg ht]
    · rw [if_neg hf, if_neg hf]
      rfl
  · rw [if_neg hv, if_neg hv]
    rfl
theorem ack_eq (l : List T_Alarm) (k s : Int) (hl : l.length ≤ 1000000) : F_alarms_Acknowledge l k s = some (ackF l k s) := by
  unfold F_alarms_Acknowledge ackF
  rw [find_eq l k s hl, bind_some]
  by_cases hv : VA l
  · rw [if_pos hv, if_pos hv]
    by_cases hf : foundK l k s
    · obtain ⟨f1, f2, f3, f4⟩ := found_at hf
      rw [if_pos hf, if_pos hf]
      dsimp only
      rw [bif_neg (by simp), getI_nat, f2, bind_some]
      cases hA : (atK l k s).Acked with
      | true => rw [cond_true, if_pos rfl]
      | false =>
        rw [cond_false, if_neg (by simp), put_eq l _ _ f1 hl, bind_some]
        dsimp only
        cases hk : (atK l k s).Active <;> simp [hk]
    · rw [if_neg hf, if_neg hf]
      rfl
  · rw [if_neg hv, if_neg hv]
    rfl
theorem hide_eq (l : List T_Alarm) (k s u : Int) (hl : l.length ≤ 1000000) : F_alarms_Hide l k s u = some (hideF l k s u) := by
  unfold F_alarms_Hide hideF
  rw [find_eq l k s hl, bind_some]
  by_cases hv : VA l
  · rw [if_pos hv, if_pos hv]
    by_cases hf : foundK l k s
    · obtain ⟨f1, f2, f3, f4⟩ := found_at hf
      obtain ⟨_, _, _, hR⟩ := hv.2.1 _ f4
      rw [if_pos hf, if_pos hf]
      dsimp only
      rw [bif_neg (by simp), getI_nat, f2, bind_some, in_rng, bind_some]
      by_cases hu : Rng u
      · rw [decide_eq_true hu, Bool.not_true, cond_false, if_pos hu]
        by_cases hp : (atK l k s).Priority = 1
        · rw [bif_pos hp, if_pos hp]
        · rw [bif_neg hp, if_neg hp, put_eq l _ _ f1 hl, bind_some]
          dsimp only
          rw [if_neg]
          rintro ⟨h1, h2⟩
          rw [if_neg (by rw [h1]; simp)] at hR
          rw [hR.2] at h2
          cases h2
      · rw [decide_eq_false hu, Bool.not_false, cond_true, if_neg hu]
    · rw [if_neg hf, if_neg hf]
      rfl
  · rw [if_neg hv, if_neg hv]
    rfl
/-! ### what is shown -/
def ahead (a b : T_Alarm) : Bool := decide (a.Priority < b.Priority ∨ a.Priority = b.Priority ∧ (a.Acked = false ∧ b.Acked = true ∨ a.Acked = b.Acked ∧ b.Raised < a.Raised))
theorem cmp2_eq (a b : T_Alarm) : ∃ c, F_alarms_Shown_2 a b = some c ∧ (decide (c < 0)) = ahead a b := by
  unfold F_alarms_Shown_2 F_alarms_Shown_1 ahead
  rw [cmp_eq, bind_some]
  cases a.Acked <;> cases b.Acked <;> simp only [cond_true, cond_false, bind_some] <;> rw [cmp_eq, bind_some, cmp_eq, bind_some, cor3_eq, bind_some] <;> refine ⟨_, rfl, decide_eq_decide.2 ?_⟩ <;> simp only [true_and, false_and, and_true, and_false, or_false, false_or, reduceCtorEq, Int.reduceLT, if_true, if_false, Int.lt_irrefl] <;> split <;> (try split) <;> (try split) <;> (try split) <;> (try split) <;> omega
def kfrom (x : T_Alarm) (pre : List T_Alarm) : Nat → Nat
  | 0 => 0
  | k + 1 => match pre[k]? with
    | none => k + 1
    | some p => if ahead x p = true then kfrom x pre k else k + 1
theorem kfrom_le (x : T_Alarm) (pre : List T_Alarm) : ∀ k, kfrom x pre k ≤ k
  | 0 => Nat.le_refl _
  | k + 1 => by
    have := kfrom_le x pre k
    unfold kfrom
    split
    · omega
    · split <;> omega
def insB (pre : List T_Alarm) (x : T_Alarm) : List T_Alarm := pre.take (kfrom x pre pre.length) ++ [x] ++ pre.drop (kfrom x pre pre.length)
def sortB (l : List T_Alarm) : List T_Alarm := l.foldl insB []
theorem insB_len (pre : List T_Alarm) (x : T_Alarm) : (insB pre x).length = pre.length + 1 := by
  have := kfrom_le x pre pre.length
  unfold insB
  simp
  omega
theorem sortB_snoc (l : List T_Alarm) (x : T_Alarm) : sortB (l ++ [x]) = insB (sortB l) x := by simp [sortB]
theorem sortB_len : ∀ l : List T_Alarm, (sortB l).length = l.length := by
  have key : ∀ (l o : List T_Alarm), (l.foldl insB o).length = o.length + l.length := by
    intro l
    induction l with
    | nil => intro o; rfl
    | cons a l ih => intro o; rw [List.foldl_cons, ih, insB_len, List.length_cons]; omega
  intro l
  rw [sortB, key]
  simp
theorem swap_get {A B : List T_Alarm} {p x : T_Alarm} {k : Nat} (h : A.length = k) : (A ++ p :: x :: B)[k]? = some p ∧ (A ++ p :: x :: B)[k + 1]? = some x ∧ ((A ++ p :: x :: B).set (k + 1) p)[k]? = some p ∧ ((A ++ p :: x :: B).set (k + 1) p).set k x = A ++ x :: p :: B := by
  subst h
  refine ⟨by simp, by simp, ?_, ?_⟩
  · rw [List.getElem?_set_ne (by omega)]
    simp
  · simp
theorem inner_loop (pre rest : List T_Alarm) (x : T_Alarm) (hp : pre.length ≤ 1000) : ∀ k, k ≤ pre.length → loopC (F_slices_insertionSortCmpFunc_api_Alarm___alarms_Shown_2_L2 0) ((k : Int), pre.take k ++ [x] ++ pre.drop k ++ rest) = some (pre.take (kfrom x pre k) ++ [x] ++ pre.drop (kfrom x pre k) ++ rest)
  | 0, _ => by
    refine loopC_inr ?_
    unfold F_slices_insertionSortCmpFunc_api_Alarm___alarms_Shown_2_L2
    dsimp only
    rw [bif_neg (by omega), bind_some, cond_false]
    rfl
  | k + 1, hk => by
    have hlt : k < pre.length := by omega
    have e1 : pre.take (k + 1) ++ [x] ++ pre.drop (k + 1) ++ rest = pre.take k ++ pre[k] :: x :: (pre.drop (k + 1) ++ rest) := by
      rw [List.take_succ_eq_append_getElem hlt]
      simp only [List.append_assoc, List.cons_append, List.nil_append]
    have e2 : pre.take k ++ [x] ++ pre.drop k ++ rest = pre.take k ++ x :: pre[k] :: (pre.drop (k + 1) ++ rest) := by
      rw [drop_cons_get hlt]
      simp only [List.append_assoc, List.cons_append, List.nil_append]
    obtain ⟨s1, s2, s3, s4⟩ := swap_get (A := pre.take k) (B := pre.drop (k + 1) ++ rest) (p := pre[k]) (x := x) (k := k) (by rw [List.length_take]; omega)
    obtain ⟨c, c1, c2⟩ := cmp2_eq x pre[k]
    have hkf : kfrom x pre (k + 1) = if ahead x pre[k] = true then kfrom x pre k else k + 1 := by
      conv => lhs; unfold kfrom
      rw [List.getElem?_eq_getElem hlt]
    have hw : IntKind.i64.wrap (((k + 1 : Nat) : Int) - 1) = (k : Int) := by rw [w64 (by omega) (by omega)]; omega
    have hL : F_slices_insertionSortCmpFunc_api_Alarm___alarms_Shown_2_L2 0 (((k + 1 : Nat) : Int), pre.take (k + 1) ++ [x] ++ pre.drop (k + 1) ++ rest) = some (if ahead x pre[k] = true then .inl ((k : Int), pre.take k ++ [x] ++ pre.drop k ++ rest) else .inr (pre.take (k + 1) ++ [x] ++ pre.drop (k + 1) ++ rest)) := by
      unfold F_slices_insertionSortCmpFunc_api_Alarm___alarms_Shown_2_L2
      dsimp only
      rw [e1, e2, hw, bif_pos (by omega), getI_nat, s2, bind_some, getI_nat, s1, bind_some, c1, bind_some, c2, bind_some, bind_some, Int.toNat_natCast, Int.toNat_natCast, getI_nat, s3, bind_some, s4]
      cases ahead x pre[k] <;> rfl
    rw [hkf]
    by_cases ha : ahead x pre[k] = true
    · rw [if_pos ha] at hL ⊢
      rw [loopC_inl hL]
      exact inner_loop pre rest x hp k (by omega)
    · rw [if_neg ha] at hL ⊢
      exact loopC_inr hL
theorem sort_loop (l : List T_Alarm) (hl : l.length ≤ 1000) : ∀ (m i : Nat), i + m = l.length → 1 ≤ i → loopC (F_slices_insertionSortCmpFunc_api_Alarm___alarms_Shown_2_L1 0 (l.length : Int)) ((i : Int), sortB (l.take i) ++ l.drop i) = some (sortB l)
  | 0, i, hi, _ => by
    have : i = l.length := by omega
    subst this
    refine loopC_inr ?_
    unfold F_slices_insertionSortCmpFunc_api_Alarm___alarms_Shown_2_L1
    dsimp only
    rw [bif_neg (by omega), List.take_length, List.drop_length, List.append_nil]
  | m + 1, i, hi, h1 => by
    have hlt : i < l.length := by omega
    have hsl : (sortB (l.take i)).length = i := by rw [sortB_len, List.length_take]; omega
    refine (loopC_inl ?_).trans (sort_loop l hl m (i + 1) (by omega) (by omega))
    unfold F_slices_insertionSortCmpFunc_api_Alarm___alarms_Shown_2_L1
    dsimp only
    have hin := inner_loop (sortB (l.take i)) (l.drop (i + 1)) l[i] (by omega) i (by omega)
    have e : (sortB (l.take i)).take i ++ [l[i]] ++ (sortB (l.take i)).drop i ++ l.drop (i + 1) = sortB (l.take i) ++ l.drop i := by
      rw [List.take_of_length_le (by omega), List.drop_eq_nil_of_le (by omega), drop_cons_get hlt]
      simp
    rw [e] at hin
    rw [bif_pos (by omega), hin, bind_some, w64 (by omega) (by omega)]
    have e3 : sortB (l.take (i + 1)) = insB (sortB (l.take i)) l[i] := by rw [List.take_succ_eq_append_getElem hlt, sortB_snoc]
    rw [e3]
    unfold insB
    rw [hsl]
    rfl
theorem isort_eq (l : List T_Alarm) (hl : l.length ≤ 1000) : F_slices_insertionSortCmpFunc_api_Alarm___alarms_Shown_2 l 0 (l.length : Int) = some (sortB l) := by
  unfold F_slices_insertionSortCmpFunc_api_Alarm___alarms_Shown_2
  rw [w64 (by omega) (by omega)]
  by_cases h0 : l.length = 0
  · have : l = [] := List.eq_nil_of_length_eq_zero h0
    subst this
    rw [loopC_inr (b := []) (by
      unfold F_slices_insertionSortCmpFunc_api_Alarm___alarms_Shown_2_L1
      dsimp only
      rw [bif_neg (by simp)])]
    rfl
  · have := sort_loop l hl (l.length - 1) 1 (by omega) (Nat.le_refl _)
    have e : sortB (l.take 1) ++ l.drop 1 = l := by
      cases l with
      | nil => simp at h0
      | cons a l => simp [sortB, insB, kfrom]
    rw [e] at this
    rw [show ((0 : Int) + 1) = ((1 : Nat) : Int) from rfl, this]
    rfl
theorem stable_eq (l : List T_Alarm) (hl : l.length < 20) : F_slices_SortStableFunc___api_Alarm_api_Alarm___alarms_Shown_2 l = some (sortB l) := by
  unfold F_slices_SortStableFunc___api_Alarm_api_Alarm___alarms_Shown_2 F_slices_stableCmpFunc_api_Alarm___alarms_Shown_2
  rw [loopC_inr (b := (0, l)) (by
      unfold F_slices_stableCmpFunc_api_Alarm___alarms_Shown_2_L1
      dsimp only
      rw [bif_neg (by omega)]), bind_some, isort_eq l (by omega), bind_some, loopC_inr (b := ()) (by
      unfold F_slices_stableCmpFunc_api_Alarm___alarms_Shown_2_L2
      rw [bif_neg (by omega)]), bind_some, bind_some]
def shownF (l : List T_Alarm) (t : Int) : List T_Alarm := sortB (l.filter fun a => decide (a.Hidden ≤ t))
theorem shown_eq (l : List T_Alarm) (t : Int) (hl : l.length < 20) : F_alarms_Shown l t = some (shownF l t) := by
  unfold F_alarms_Shown
  have key : ∀ (m i : Nat) (o : List T_Alarm), i + m = l.length → o.length ≤ i → loopC (F_alarms_Shown_L1 l t) ((i : Int), o) = some (o ++ (l.drop i).filter fun a => decide (a.Hidden ≤ t)) := by
    intro m
    induction m with
    | zero =>
      intro i o hi _
      have : i = l.length := by omega
      subst this
      rw [loopC_inr (by unfold F_alarms_Shown_L1; dsimp only; rw [bif_neg (by omega)]), List.drop_length]
      simp
    | succ m ih =>
      intro i o hi ho
      have hlt : i < l.length := by omega
      refine (loopC_inl ?_).trans ((ih (i + 1) (if l[i].Hidden ≤ t then o ++ [l[i]] else o) (by omega) (by split; simp; omega; omega)).trans ?_)
      · unfold F_alarms_Shown_L1
        dsimp only
        rw [bif_pos (by omega), getI_nat, List.getElem?_eq_getElem hlt, bind_some, w64 (by omega) (by omega)]
        by_cases h : l[i].Hidden ≤ t
        · rw [bif_pos h, appI_ok (by simp; omega), bind_some, bind_some, if_pos h]
          rfl
        · rw [bif_neg h, bind_some, if_neg h]
          rfl
      · rw [drop_cons_get hlt, List.filter_cons]
        by_cases h : l[i].Hidden ≤ t
        · rw [if_pos h, if_pos (decide_eq_true h)]
          simp
        · rw [if_neg h, if_neg (by simpa using h)]
  have := key l.length 0 [] (by omega) (Nat.le_refl _)
  rw [show ((0 : Nat) : Int) = 0 from rfl, List.drop_zero, List.nil_append] at this
  rw [this, bind_some, stable_eq _ (Nat.lt_of_le_of_lt (List.length_filter_le _ _) hl), bind_some]
  rfl
/-! ### the whole -/
theorem awake41 : F_law41_awake = some true := by
  have e1 : raiseF [] 2 7 3 10 = ([newA 2 7 3 10 1], 0) := by decide +kernel
  have e2 : endF [newA 2 7 3 10 1] 2 7 20 = ([⟨2, 7, 3, 10, 20, false, false, 0, 1⟩], 0) := by decide +kernel
  have e3 : ackF [⟨2, 7, 3, 10, 20, false, false, 0, 1⟩] 2 7 = ([], 0) := by decide +kernel
  have e4 : ackF [newA 2 7 3 10 1] 2 7 = ([⟨2, 7, 3, 10, 0, true, true, 0, 1⟩], 0) := by decide +kernel
  have e5 : endF [⟨2, 7, 3, 10, 0, true, true, 0, 1⟩] 2 7 20 = ([], 0) := by decide +kernel
  have e6 : (shownF [newA 2 7 3 10 1] 10).length = 1 := by decide +kernel
  unfold F_law41_awake
  rw [raise_eq _ _ _ _ _ (by simp), bind_some, e1]
  dsimp only
  rw [end_eq _ _ _ _ (by simp), bind_some, e2]
  dsimp only
  rw [ack_eq _ _ _ (by simp), bind_some, e3, ack_eq _ _ _ (by simp), bind_some, e4]
  dsimp only
  rw [end_eq _ _ _ _ (by simp), bind_some, e5, shown_eq _ _ (by simp), bind_some, e6]
  rfl
structure DcOk (d : T_made_Dice) : Prop where
  l : d.L.length ≤ 400
  a : 0 ≤ d.At
  b : d.At ≤ 400
theorem mod_ok (x n : Int) (hn : 1 ≤ n) (hn1 : n ≤ 1000000000) : Ok (F_made_Mod x n) fun r => 0 ≤ r ∧ r < n := by
  unfold F_made_Mod
  rw [bif_neg (by omega), remI_ok (by omega), bind_some]
  have h1 := Int.tmod_lt_of_pos x (show 0 < n by omega)
  have h2 : -n < x.tmod n := by
    rcases Int.lt_or_le x 0 with h | h
    · have e : x.tmod n = -((-x).tmod n) := by rw [Int.neg_tmod, Int.neg_neg]
      have := Int.tmod_lt_of_pos (-x) (show 0 < n by omega)
      omega
    · have := Int.tmod_nonneg n h
      omega
  refine ok_bind (Q := fun r => 0 ≤ r ∧ r < n) (ok_dec (fun h => ?_) (fun h => ok_some ⟨by omega, h1⟩)) fun r hr => ok_some hr
  rw [w64 (by omega) (by omega)]
  exact ok_some ⟨by omega, by omega⟩
theorem next_ok (d : T_made_Dice) (n : Int) (hd : DcOk d) (hn : 1 ≤ n) (hn1 : n ≤ 1000000000) : Ok (F_made_Dice_Next d n) fun r => DcOk r.1 ∧ 0 ≤ r.2 ∧ r.2 < n := by
  obtain ⟨h1, h2, h3⟩ := hd
  unfold F_made_Dice_Next
  refine ok_dec (fun h => ok_some ⟨⟨h1, h2, h3⟩, Int.le_refl _, by dsimp only; omega⟩) (fun h => ?_)
  rw [w64 (n := d.At + 1) (by omega) (by omega), w64 (by omega) (by omega)]
  refine ok_bind (ok_getI (by omega) (by omega)) fun x2 _ => ?_
  exact ok_bind (mod_ok x2 n hn hn1) fun x4 h4 => ok_some ⟨⟨h1, by dsimp only; omega, by dsimp only; omega⟩, h4⟩
theorem one_ok (d : T_made_Dice) (n : Int) (hd : DcOk d) (hn : 1 ≤ n) (hn1 : n ≤ 1000000000) : Ok (F_made_Dice_One d n) fun r => DcOk r.1 := by
  unfold F_made_Dice_One
  exact ok_bind (next_ok d n hd hn hn1) fun x1 h => ok_some h.1
theorem light_ok (t : List Int) : F_made_Light t = some (decide ((t.length : Int) ≤ 400)) := rfl
def P1 (a : T_Alarm) : Prop := a.Priority = 1 → a.Hidden = 0
inductive AStep (l : List T_Alarm) (k s : Int) : List T_Alarm → Prop
  | same : AStep l k s l
  | set (i : Nat) (a : T_Alarm) (hi : i < l.length) (hn : a.Kind = l[i].Kind ∧ a.Subject = l[i].Subject) (hr : RA a) (hq : P1 l[i] → P1 a) : AStep l k s (l.set i a)
  | del (i : Nat) (hi : i < l.length) : AStep l k s (l.take i ++ l.drop (i + 1))
  | ins (a : T_Alarm) (hr : RA a) (hn : isN a k s) (hf : ¬ foundK l k s) (h : l.length < 64) (hq : P1 a) : AStep l k s (l.take (posK l k s) ++ [a] ++ l.drop (posK l k s))
theorem befA_name {a b c d : T_Alarm} (h : befA a b) (h1 : c.Kind = a.Kind ∧ c.Subject = a.Subject) (h2 : d.Kind = b.Kind ∧ d.Subject = b.Subject) : befA c d := by
  unfold befA bef at *
  omega
theorem AStep.va {l l' : List T_Alarm} {k s : Int} (h : AStep l k s l') (hv : VA l) : VA l' := by
  obtain ⟨v1, v2, v3⟩ := id hv
  cases h with
  | same => exact hv
  | set i a hi hn hr hq =>
    refine ⟨by rw [List.length_set]; exact v1, fun x hx => ?_, ?_⟩
    · rcases List.mem_or_eq_of_mem_set hx with h | h
      · exact v2 x h
      · subst h; exact hr
    · rw [List.pairwise_iff_getElem] at v3 ⊢
      intro p q hp hq hpq
      rw [List.length_set] at hp hq
      have := v3 p q hp hq hpq
      have nm : ∀ (j : Nat) (hj : j < l.length), ((l.set i a)[j]'(by rw [List.length_set]; exact hj)).Kind = l[j].Kind ∧ ((l.set i a)[j]'(by rw [List.length_set]; exact hj)).Subject = l[j].Subject := fun j hj => by
        rw [List.getElem_set]
        split
        · rename_i e
          subst e
          exact hn
        · exact ⟨rfl, rfl⟩
      exact befA_name this (nm p hp) (nm q hq)
  | del i hi =>
    have hs : (l.take i ++ l.drop (i + 1)).Sublist l := by
      conv => rhs; rw [← List.take_append_drop i l]
      exact List.Sublist.append (List.Sublist.refl _) (by
        have : l.drop (i + 1) = (l.drop i).drop 1 := by rw [List.drop_drop]
        rw [this]
        exact List.drop_sublist 1 _)
    exact ⟨Nat.le_trans hs.length_le v1, fun x hx => v2 x (hs.subset hx), v3.sublist hs⟩
  | ins a hr hn hf h hq =>
    have hle := posK_le l k s
    have hsp := posK_spec v3 k s
    refine ⟨by simp; omega, fun x hx => ?_, ?_⟩
    · rcases List.mem_append.1 hx with hx | hx
      · rcases List.mem_append.1 hx with hx | hx
        · exact v2 x (List.mem_of_mem_take hx)
        · rw [List.mem_singleton.1 hx]; exact hr
      · exact v2 x (List.mem_of_mem_drop hx)
    · have hbefore : ∀ x ∈ l.take (posK l k s), bef x k s := fun x hx => by
        obtain ⟨j, hj, rfl⟩ := List.getElem_of_mem hx
        rw [List.length_take] at hj
        rw [List.getElem_take]
        have := hsp j (by omega)
        rw [decide_eq_true (show j < posK l k s by omega)] at this
        exact of_decide_eq_true this
      have hafter : ∀ x ∈ l.drop (posK l k s), ¬ bef x k s ∧ ¬ isN x k s := fun x hx => by
        obtain ⟨j, hj, rfl⟩ := List.getElem_of_mem hx
        rw [List.length_drop] at hj
        rw [List.getElem_drop]
        have h1 := hsp (posK l k s + j) (by omega)
        rw [decide_eq_false (show ¬ posK l k s + j < posK l k s by omega)] at h1
        have h1 := of_decide_eq_false h1
        refine ⟨h1, fun hn' => ?_⟩
        rcases Nat.eq_zero_or_pos j with h0 | h0
        · subst h0
          exact hf ⟨_, List.getElem?_eq_getElem (by omega), hn'⟩
        · have h2 := hsp (posK l k s) (by omega)
          rw [decide_eq_false (show ¬ posK l k s < posK l k s by omega)] at h2
          have h2 := of_decide_eq_false h2
          have h3 := List.pairwise_iff_getElem.1 v3 (posK l k s) (posK l k s + j) (by omega) (by omega) (by omega)
          unfold befA bef isN at *
          omega
      rw [List.append_assoc]
      refine List.pairwise_append.2 ⟨v3.sublist (List.take_sublist _ _), ?_, fun x hx y hy => ?_⟩
      · refine List.pairwise_append.2 ⟨List.pairwise_singleton _ _, v3.sublist (List.drop_sublist _ _), fun x hx y hy => ?_⟩
        rw [List.mem_singleton.1 hx]
        have := hafter y hy
        unfold befA bef isN at *
        omega
      · have hb := hbefore x hx
        rcases List.mem_append.1 hy with hy | hy
        · rw [List.mem_singleton.1 hy]
          unfold befA bef isN at *
          omega
        · have := hafter y hy
          unfold befA bef isN at *
          omega
theorem AStep.names {l l' : List T_Alarm} {k s : Int} (h : AStep l k s l') {N : Int → Int → Prop} (hl : ∀ a ∈ l, N a.Kind a.Subject) (hk : N k s) : ∀ a ∈ l', N a.Kind a.Subject := by
  cases h with
  | same => exact hl
  | set i a hi hn hr hq =>
    intro x hx
    rcases List.mem_or_eq_of_mem_set hx with h | h
    · exact hl x h
    · subst h; rw [hn.1, hn.2]; exact hl _ (List.getElem_mem hi)
  | del i hi =>
    intro x hx
    rcases List.mem_append.1 hx with h | h
    · exact hl x (List.mem_of_mem_take h)
    · exact hl x (List.mem_of_mem_drop h)
  | ins a hr hn hf h hq =>
    intro x hx
    rcases List.mem_append.1 hx with hx | hx
    · rcases List.mem_append.1 hx with hx | hx
      · exact hl x (List.mem_of_mem_take hx)
      · rw [List.mem_singleton.1 hx, hn.1, hn.2]; exact hk
    · exact hl x (List.mem_of_mem_drop hx)
theorem AStep.p1 {l l' : List T_Alarm} {k s : Int} (h : AStep l k s l') (hl : ∀ a ∈ l, P1 a) : ∀ a ∈ l', P1 a := by
  cases h with
  | same => exact hl
  | set i a hi hn hr hq =>
    intro x hx
    rcases List.mem_or_eq_of_mem_set hx with h | h
    · exact hl x h
    · subst h; exact hq (hl _ (List.getElem_mem hi))
  | del i hi =>
    intro x hx
    rcases List.mem_append.1 hx with h | h
    · exact hl x (List.mem_of_mem_take h)
    · exact hl x (List.mem_of_mem_drop h)
  | ins a hr hn hf h hq =>
    intro x hx
    rcases List.mem_append.1 hx with hx | hx
    · rcases List.mem_append.1 hx with hx | hx
      · exact hl x (List.mem_of_mem_take hx)
      · rw [List.mem_singleton.1 hx]; exact hq
    · exact hl x (List.mem_of_mem_drop hx)
theorem RA_new {k s p t c : Int} (hk : Rng k) (hs : Rng s) (hp : 1 ≤ p ∧ p ≤ 4) (ht : Rng t) (hc : 1 ≤ c ∧ c ≤ 2147483648) : RA (newA k s p t c) :=
  ⟨⟨hk, hs, ht, by show Rng 0; decide⟩, hp, hc, by unfold newA; simp⟩
theorem raise_step (l : List T_Alarm) (k s p t : Int) : AStep l k s (raiseF l k s p t).1 := by
  unfold raiseF
  by_cases hv : VA l
  · rw [if_pos hv]
    by_cases h3 : Rng k ∧ Rng s ∧ 1 ≤ p ∧ p ≤ 4
    · rw [if_pos h3]
      by_cases h8 : ¬ Rng t ∨ foundK l k s ∧ (t < (atK l k s).Raised ∨ t < (atK l k s).Ended)
      · rw [if_pos h8]; exact .same
      · rw [if_neg h8]
        have ht : Rng t := Decidable.byContradiction fun h => h8 (.inl h)
        by_cases hf : foundK l k s
        · rw [if_pos hf]
          obtain ⟨f1, f2, f3, f4⟩ := found_at hf
          have hra := hv.2.1 _ f4
          have hat : l[posK l k s] = atK l k s := by
            rw [List.getElem?_eq_getElem f1] at f2
            injection f2
          refine .set _ _ f1 ?_ ?_ ?_
          · rw [hat]
            split
            · split
              · exact ⟨rfl, rfl⟩
              · exact ⟨rfl, rfl⟩
            · exact ⟨f3.1.symm, f3.2.symm⟩
          · split
            · split
              · obtain ⟨⟨r1, r2, r3, r4⟩, r5, r6, r7⟩ := hra
                exact ⟨⟨r1, r2, r3, by show Rng 0; decide⟩, ⟨h3.2.2.1, h3.2.2.2⟩, r6, r7⟩
              · exact hra
            · obtain ⟨_, _, r6, _⟩ := hra
              exact RA_new h3.1 h3.2.1 ⟨h3.2.2.1, h3.2.2.2⟩ ht ⟨by omega, by omega⟩
          · rw [hat]
            intro hq
            split
            · split
              · exact fun _ => rfl
              · exact hq
            · exact fun _ => rfl
        · rw [if_neg hf]
          by_cases h64 : l.length = 64
          · rw [if_pos h64]; exact .same
          · rw [if_neg h64]
            exact .ins _ (RA_new h3.1 h3.2.1 ⟨h3.2.2.1, h3.2.2.2⟩ ht ⟨by omega, by omega⟩) ⟨rfl, rfl⟩ hf (by have := hv.1; omega) (fun _ => rfl)
    · rw [if_neg h3]; exact .same
  · rw [if_neg hv]; exact .same
theorem at_get {l : List T_Alarm} {k s : Int} (h : foundK l k s) : l[posK l k s]'(found_at h).1 = atK l k s := by
  have f2 := (found_at h).2.1
  rw [List.getElem?_eq_getElem (found_at h).1] at f2
  injection f2
theorem end_step (l : List T_Alarm) (k s t : Int) : AStep l k s (endF l k s t).1 := by
  unfold endF
  by_cases hv : VA l
  · rw [if_pos hv]
    by_cases hf : foundK l k s
    · rw [if_pos hf]
      obtain ⟨f1, f2, f3, f4⟩ := found_at hf
      obtain ⟨⟨r1, r2, r3, r4⟩, r5, r6, r7⟩ := hv.2.1 _ f4
      by_cases hA : (atK l k s).Active = true
      · rw [if_pos hA]
        by_cases ht : (atK l k s).Raised ≤ t ∧ t ≤ 2147483648
        · rw [if_pos ht]
          dsimp only
          by_cases hk : (atK l k s).Acked = true
          · rw [if_pos hk]; exact .del _ f1
          · rw [if_neg hk]
            exact .set _ _ f1 (by rw [at_get hf]; exact ⟨rfl, rfl⟩) ⟨⟨r1, r2, r3, r4⟩, r5, r6, by dsimp only; rw [if_neg (by simp)]; exact ⟨ht, by simpa using hk⟩⟩ (by rw [at_get hf]; exact fun h => h)
        · rw [if_neg ht]; exact .same
      · rw [if_neg hA]; exact .same
    · rw [if_neg hf]; exact .same
  · rw [if_neg hv]; exact .same
theorem ack_step (l : List T_Alarm) (k s : Int) : AStep l k s (ackF l k s).1 := by
  unfold ackF
  by_cases hv : VA l
  · rw [if_pos hv]
    by_cases hf : foundK l k s
    · rw [if_pos hf]
      obtain ⟨f1, f2, f3, f4⟩ := found_at hf
      obtain ⟨⟨r1, r2, r3, r4⟩, r5, r6, r7⟩ := hv.2.1 _ f4
      by_cases hk : (atK l k s).Acked = true
      · rw [if_pos hk]; exact .same
      · rw [if_neg hk]
        dsimp only
        by_cases hA : (atK l k s).Active = true
        · rw [if_pos hA]
          exact .set _ _ f1 (by rw [at_get hf]; exact ⟨rfl, rfl⟩) ⟨⟨r1, r2, r3, r4⟩, r5, r6, by dsimp only; rw [if_pos hA] at r7 ⊢; exact r7⟩ (by rw [at_get hf]; exact fun h => h)
        · rw [if_neg hA]; exact .del _ f1
    · rw [if_neg hf]; exact .same
  · rw [if_neg hv]; exact .same
theorem hide_step (l : List T_Alarm) (k s u : Int) : AStep l k s (hideF l k s u).1 := by
  unfold hideF
  by_cases hv : VA l
  · rw [if_pos hv]
    by_cases hf : foundK l k s
    · rw [if_pos hf]
      obtain ⟨f1, f2, f3, f4⟩ := found_at hf
      obtain ⟨⟨r1, r2, r3, r4⟩, r5, r6, r7⟩ := hv.2.1 _ f4
      by_cases hu : Rng u
      · rw [if_pos hu]
        by_cases hp : (atK l k s).Priority = 1
        · rw [if_pos hp]; exact .same
        · rw [if_neg hp]
          exact .set _ _ f1 (by rw [at_get hf]; exact ⟨rfl, rfl⟩) ⟨⟨r1, r2, r3, hu⟩, r5, r6, r7⟩ (fun _ h => absurd h hp)
      · rw [if_neg hu]; exact .same
    · rw [if_neg hf]; exact .same
  · rw [if_neg hv]; exact .same
def Nm (k s : Int) : Prop := (0 ≤ k ∧ k < 3) ∧ 0 ≤ s ∧ s < 4
structure LOk (l : List T_Alarm) : Prop where
  v : VA l
  n : ∀ a ∈ l, Nm a.Kind a.Subject
  q : ∀ a ∈ l, P1 a
theorem LOk.step {l l' : List T_Alarm} {k s : Int} (h : LOk l) (hs : AStep l k s l') (hk : Nm k s) : LOk l' := ⟨hs.va h.v, hs.names h.n hk, hs.p1 h.q⟩
theorem LOk.len {l : List T_Alarm} (h : LOk l) : l.length ≤ 12 := by
  have key : ∀ i (hi : i < l.length), (i : Int) ≤ 4 * l[i].Kind + l[i].Subject := by
    intro i
    induction i with
    | zero =>
      intro hi
      have := h.n _ (List.getElem_mem hi)
      unfold Nm at this
      omega
    | succ i ih =>
      intro hi
      have h1 := ih (by omega)
      have h2 := List.pairwise_iff_getElem.1 h.v.2.2 i (i + 1) (by omega) hi (by omega)
      have n1 := h.n _ (List.getElem_mem hi)
      have n2 := h.n _ (List.getElem_mem (show i < l.length by omega))
      unfold Nm at n1 n2
      unfold befA bef at h2
      omega
  rcases Nat.eq_zero_or_pos l.length with h0 | h0
  · omega
  · have h1 := key (l.length - 1) (by omega)
    have n1 := h.n _ (List.getElem_mem (show l.length - 1 < l.length by omega))
    unfold Nm at n1
    omega
theorem lok0 : LOk [] := ⟨show VA [] from ⟨Nat.zero_le _, fun a h => (by cases h), List.Pairwise.nil⟩, fun a h => (by cases h), fun a h => (by cases h)⟩
/-! ### what is shown first -/
def pri (a b : T_Alarm) : Prop := a.Priority ≤ b.Priority
def ItOk (w : A3_Int) : Prop := (0 ≤ w.a0 ∧ w.a0 < 3) ∧ (0 ≤ w.a1 ∧ w.a1 < 3) ∧ 1 ≤ w.a2 ∧ w.a2 ≤ 4
structure Inv (W : List A3_Int) (l : List T_Alarm) : Prop where
  ok : LOk l
  new : ∀ x ∈ l, x = newA x.Kind x.Subject x.Priority 50 1
  frm : ∀ x ∈ l, (⟨x.Kind, x.Subject, x.Priority⟩ : A3_Int) ∈ W
  low : ∀ x ∈ l, ∀ w ∈ W, w.a0 = x.Kind → w.a1 = x.Subject → x.Priority ≤ w.a2
  all : ∀ w ∈ W, ∃ x ∈ l, x.Kind = w.a0 ∧ x.Subject = w.a1
theorem found_of {l : List T_Alarm} (hv : VA l) {x : T_Alarm} (hx : x ∈ l) : foundK l x.Kind x.Subject ∧ atK l x.Kind x.Subject = x := by
  obtain ⟨j, hj, rfl⟩ := List.getElem_of_mem hx
  have hsp := posK_spec hv.2.2 l[j].Kind l[j].Subject
  have hle := posK_le l l[j].Kind l[j].Subject
  have h1 := hsp j hj
  rw [decide_eq_false (by unfold bef; omega)] at h1
  have h1 := of_decide_eq_false h1.symm
  have hp : posK l l[j].Kind l[j].Subject = j := by
    rcases Nat.lt_or_ge (posK l l[j].Kind l[j].Subject) j with h | h
    · have h2 := hsp _ (show posK l l[j].Kind l[j].Subject < l.length by omega)
      rw [decide_eq_false (show ¬ posK l l[j].Kind l[j].Subject < posK l l[j].Kind l[j].Subject by omega)] at h2
      have h2 := of_decide_eq_false h2
      have h3 := List.pairwise_iff_getElem.1 hv.2.2 _ j (by omega) hj h
      exact absurd h3 h2
    · omega
  have hg : l[posK l l[j].Kind l[j].Subject]? = some l[j] := by rw [hp, List.getElem?_eq_getElem hj]
  exact ⟨⟨_, hg, rfl, rfl⟩, by unfold atK; rw [hg]; rfl⟩
theorem set_mem {l : List T_Alarm} (hs : l.Pairwise befA) {i : Nat} (hi : i < l.length) {a x : T_Alarm} (hx : x ∈ l.set i a) : x = a ∨ x ∈ l ∧ ¬ (x.Kind = l[i].Kind ∧ x.Subject = l[i].Subject) := by
  obtain ⟨j, hj, rfl⟩ := List.getElem_of_mem hx
  rw [List.length_set] at hj
  rw [List.getElem_set]
  by_cases e : i = j
  · rw [if_pos e]; exact .inl rfl
  · rw [if_neg e]
    refine .inr ⟨List.getElem_mem hj, fun hn => ?_⟩
    rcases Nat.lt_or_ge i j with h | h
    · have := List.pairwise_iff_getElem.1 hs i j hi hj h
      unfold befA bef at this
      omega
    · have := List.pairwise_iff_getElem.1 hs j i hj hi (by omega)
      unfold befA bef at this
      omega
def PutIs (l l' : List T_Alarm) (k s : Int) (a : T_Alarm) : Prop := isN a k s ∧ ∀ y, y ∈ l' ↔ y = a ∨ y ∈ l ∧ ¬ isN y k s
def GoneIs (l l' : List T_Alarm) (k s : Int) : Prop := ∀ y, y ∈ l' ↔ y ∈ l ∧ ¬ isN y k s
theorem put_set {l : List T_Alarm} (hv : VA l) {k s : Int} (hf : foundK l k s) {a : T_Alarm} (ha : isN a k s) : PutIs l (l.set (posK l k s) a) k s a := by
  obtain ⟨f1, f2, f3, f4⟩ := found_at hf
  have hat := at_get hf
  refine ⟨ha, fun y => ⟨fun hy => ?_, fun hy => ?_⟩⟩
  · rcases set_mem hv.2.2 f1 hy with e | ⟨e, en⟩
    · exact .inl e
    · exact .inr ⟨e, fun hn => en (by rw [hat]; unfold isN at *; omega)⟩
  · rcases hy with rfl | ⟨hy, hn⟩
    · exact List.mem_set f1 _
    · obtain ⟨j, hj, rfl⟩ := List.getElem_of_mem hy
      have hne : posK l k s ≠ j := fun e => by
        subst e
        rw [hat] at hn
        exact hn f3
      have : (l.set (posK l k s) a)[j]'(by rw [List.length_set]; exact hj) = l[j] := List.getElem_set_ne hne _
      rw [← this]
      exact List.getElem_mem _
theorem gone_del {l : List T_Alarm} (hv : VA l) {k s : Int} (hf : foundK l k s) : GoneIs l (l.take (posK l k s) ++ l.drop (posK l k s + 1)) k s := by
  obtain ⟨f1, f2, f3, f4⟩ := found_at hf
  have hat := at_get hf
  have hpw := List.pairwise_iff_getElem.1 hv.2.2
  intro y
  constructor
  · intro hy
    rcases List.mem_append.1 hy with h | h
    · obtain ⟨j, hj, rfl⟩ := List.getElem_of_mem h
      rw [List.length_take] at hj
      rw [List.getElem_take]
      refine ⟨List.getElem_mem _, fun hn => ?_⟩
      have := hpw j (posK l k s) (by omega) f1 (by omega)
      rw [hat] at this
      unfold befA bef isN at *
      omega
    · obtain ⟨j, hj, rfl⟩ := List.getElem_of_mem h
      rw [List.length_drop] at hj
      rw [List.getElem_drop]
      refine ⟨List.getElem_mem _, fun hn => ?_⟩
      have := hpw (posK l k s) (posK l k s + 1 + j) f1 (by omega) (by omega)
      rw [hat] at this
      unfold befA bef isN at *
      omega
  · rintro ⟨hy, hn⟩
    obtain ⟨j, hj, rfl⟩ := List.getElem_of_mem hy
    rcases Nat.lt_trichotomy j (posK l k s) with h | h | h
    · refine List.mem_append_left _ ?_
      have : (l.take (posK l k s))[j]'(by rw [List.length_take]; omega) = l[j] := List.getElem_take
      rw [← this]
      exact List.getElem_mem _
    · subst h
      rw [hat] at hn
      exact absurd f3 hn
    · refine List.mem_append_right _ ?_
      have : (l.drop (posK l k s + 1))[j - (posK l k s + 1)]'(by rw [List.length_drop]; omega) = l[j] := by
        rw [List.getElem_drop]
        congr 1
        omega
      rw [← this]
      exact List.getElem_mem _
theorem no_name {l : List T_Alarm} (hv : VA l) {k s : Int} (hf : ¬ foundK l k s) : ∀ y ∈ l, ¬ isN y k s := fun y hy hn => by
  have := (found_of hv hy).1
  rw [hn.1, hn.2] at this
  exact hf this
theorem raise_is (l : List T_Alarm) (k s p t : Int) : ((raiseF l k s p t).2 ≠ 0 ∧ (raiseF l k s p t).1 = l) ∨ ((raiseF l k s p t).2 = 0 ∧ ∃ a, PutIs l (raiseF l k s p t).1 k s a ∧ a.Active = true ∧ ((foundK l k s → a.Acked = ((atK l k s).Active && (atK l k s).Acked)) ∧ (¬ foundK l k s → a.Acked = false))) := by
  unfold raiseF
  by_cases hv : VA l
  · rw [if_pos hv]
    by_cases h3 : Rng k ∧ Rng s ∧ 1 ≤ p ∧ p ≤ 4
    · rw [if_pos h3]
      by_cases h8 : ¬ Rng t ∨ foundK l k s ∧ (t < (atK l k s).Raised ∨ t < (atK l k s).Ended)
      · rw [if_pos h8]; exact .inl ⟨by simp, rfl⟩
      · rw [if_neg h8]
        by_cases hf : foundK l k s
        · rw [if_pos hf]
          obtain ⟨f1, f2, f3, f4⟩ := found_at hf
          refine .inr ⟨rfl, _, put_set hv hf ?_, ?_, ⟨fun _ => ?_, fun h => absurd hf h⟩⟩
          · split
            · split
              · exact f3
              · exact f3
            · exact ⟨rfl, rfl⟩
          · split
            · rename_i hA
              split
              · exact hA
              · exact hA
            · rfl
          · cases hA : (atK l k s).Active with
            | true =>
              rw [if_pos rfl, Bool.true_and]
              split <;> rfl
            | false =>
              rw [if_neg (by simp), Bool.false_and]
              rfl
        · rw [if_neg hf]
          by_cases h64 : l.length = 64
          · rw [if_pos h64]; exact .inl ⟨by simp, rfl⟩
          · rw [if_neg h64]
            refine .inr ⟨rfl, newA k s p t 1, ⟨⟨rfl, rfl⟩, fun y => ?_⟩, rfl, ⟨fun h => absurd h hf, fun _ => rfl⟩⟩
            have hno := no_name hv hf
            have hm : y ∈ l ↔ y ∈ l.take (posK l k s) ∨ y ∈ l.drop (posK l k s) := by
              conv => lhs; rw [← List.take_append_drop (posK l k s) l]
              exact List.mem_append
            simp only [List.mem_append, List.mem_singleton]
            constructor
            · rintro ((h | h) | h)
              · exact .inr ⟨hm.2 (.inl h), hno y (hm.2 (.inl h))⟩
              · exact .inl h
              · exact .inr ⟨hm.2 (.inr h), hno y (hm.2 (.inr h))⟩
            · rintro (h | ⟨h, _⟩)
              · exact .inl (.inr h)
              · rcases hm.1 h with h | h
                · exact .inl (.inl h)
                · exact .inr h
    · rw [if_neg h3]; exact .inl ⟨by simp, rfl⟩
  · rw [if_neg hv]; exact .inl ⟨by simp, rfl⟩
theorem end_is (l : List T_Alarm) (k s t : Int) : ((endF l k s t).2 ≠ 0 ∧ (endF l k s t).1 = l) ∨ ((endF l k s t).2 = 0 ∧ foundK l k s ∧ (atK l k s).Active = true ∧ (((atK l k s).Acked = true ∧ GoneIs l (endF l k s t).1 k s) ∨ ((atK l k s).Acked = false ∧ ∃ a, PutIs l (endF l k s t).1 k s a ∧ a.Active = false ∧ a.Acked = false))) := by
  unfold endF
  by_cases hv : VA l
  · rw [if_pos hv]
    by_cases hf : foundK l k s
    · rw [if_pos hf]
      obtain ⟨f1, f2, f3, f4⟩ := found_at hf
      by_cases hA : (atK l k s).Active = true
      · rw [if_pos hA]
        by_cases ht : (atK l k s).Raised ≤ t ∧ t ≤ 2147483648
        · rw [if_pos ht]
          refine .inr ⟨rfl, hf, hA, ?_⟩
          dsimp only
          by_cases hk : (atK l k s).Acked = true
          · rw [if_pos hk]; exact .inl ⟨hk, gone_del hv hf⟩
          · rw [if_neg hk]
            exact .inr ⟨by simpa using hk, _, put_set hv hf f3, rfl, by simpa using hk⟩
        · rw [if_neg ht]; exact .inl ⟨by simp, rfl⟩
      · rw [if_neg hA]; exact .inl ⟨by simp, rfl⟩
    · rw [if_neg hf]; exact .inl ⟨by simp, rfl⟩
  · rw [if_neg hv]; exact .inl ⟨by simp, rfl⟩
theorem ack_is (l : List T_Alarm) (k s : Int) : ((ackF l k s).2 ≠ 0 ∧ (ackF l k s).1 = l) ∨ ((ackF l k s).2 = 0 ∧ foundK l k s ∧ (((atK l k s).Active = false ∧ GoneIs l (ackF l k s).1 k s) ∨ ((atK l k s).Active = true ∧ ∃ a, PutIs l (ackF l k s).1 k s a ∧ a.Active = true ∧ a.Acked = true))) := by
  unfold ackF
  by_cases hv : VA l
  · rw [if_pos hv]
    by_cases hf : foundK l k s
    · rw [if_pos hf]
      obtain ⟨f1, f2, f3, f4⟩ := found_at hf
      by_cases hk : (atK l k s).Acked = true
      · rw [if_pos hk]; exact .inl ⟨by simp, rfl⟩
      · rw [if_neg hk]
        refine .inr ⟨rfl, hf, ?_⟩
        dsimp only
        by_cases hA : (atK l k s).Active = true
        · rw [if_pos hA]; exact .inr ⟨hA, _, put_set hv hf f3, hA, rfl⟩
        · rw [if_neg hA]; exact .inl ⟨by simpa using hA, gone_del hv hf⟩
    · rw [if_neg hf]; exact .inl ⟨by simp, rfl⟩
  · rw [if_neg hv]; exact .inl ⟨by simp, rfl⟩
theorem hide_is (l : List T_Alarm) (k s u : Int) : (hideF l k s u).1 = l ∨ (foundK l k s ∧ ∃ a, PutIs l (hideF l k s u).1 k s a ∧ a.Active = (atK l k s).Active ∧ a.Acked = (atK l k s).Acked) := by
  unfold hideF
  by_cases hv : VA l
  · rw [if_pos hv]
    by_cases hf : foundK l k s
    · rw [if_pos hf]
      obtain ⟨f1, f2, f3, f4⟩ := found_at hf
      by_cases hu : Rng u
      · rw [if_pos hu]
        by_cases hp : (atK l k s).Priority = 1
        · rw [if_pos hp]; exact .inl rfl
        · rw [if_neg hp]
          exact .inr ⟨hf, _, put_set hv hf f3, rfl, rfl⟩
      · rw [if_neg hu]; exact .inl rfl
    · rw [if_neg hf]; exact .inl rfl
  · rw [if_neg hv]; exact .inl rfl
structure Fl (l : List T_Alarm) (th ac ak : Bool) : Prop where
  yes : th = true → ∃ a ∈ l, isN a 1 5 ∧ a.Active = ac ∧ a.Acked = ak
  no : th = false → (∀ a ∈ l, ¬ isN a 1 5) ∧ ak = false
theorem uniq {l : List T_Alarm} (hv : VA l) {a b : T_Alarm} (ha : a ∈ l) (hb : b ∈ l) {k s : Int} (na : isN a k s) (nb : isN b k s) : a = b := by
  have h1 := (found_of hv ha).2
  have h2 := (found_of hv hb).2
  rw [na.1, na.2] at h1
  rw [nb.1, nb.2] at h2
  rw [← h1, ← h2]
theorem Fl.at_ {l : List T_Alarm} (hv : VA l) {th ac ak : Bool} (h : Fl l th ac ak) (hf : foundK l 1 5) : th = true ∧ (atK l 1 5).Active = ac ∧ (atK l 1 5).Acked = ak := by
  obtain ⟨f1, f2, f3, f4⟩ := found_at hf
  cases th with
  | false => exact absurd f3 ((h.no rfl).1 _ f4)
  | true =>
    obtain ⟨a, ha, hn, h1, h2⟩ := h.yes rfl
    have := uniq hv f4 ha f3 hn
    rw [this]
    exact ⟨rfl, h1, h2⟩
theorem Fl.found {l : List T_Alarm} (hv : VA l) {ac ak : Bool} (h : Fl l true ac ak) : foundK l 1 5 := by
  obtain ⟨a, ha, hn, _⟩ := h.yes rfl
  have := (found_of hv ha).1
  rwa [hn.1, hn.2] at this
theorem Fl.other_put {l l' : List T_Alarm} {th ac ak : Bool} (h : Fl l th ac ak) {a : T_Alarm} (hp : PutIs l l' 1 6 a) : Fl l' th ac ak := by
  have hn : ∀ y : T_Alarm, isN y 1 5 → ¬ isN y 1 6 := fun y h1 h2 => by unfold isN at *; omega
  refine ⟨fun ht => ?_, fun ht => ⟨fun y hy hy5 => ?_, (h.no ht).2⟩⟩
  · obtain ⟨b, hb, hb5, h1, h2⟩ := h.yes ht
    exact ⟨b, (hp.2 b).2 (.inr ⟨hb, hn b hb5⟩), hb5, h1, h2⟩
  · rcases (hp.2 y).1 hy with e | ⟨e, _⟩
    · subst e; exact hn _ hy5 hp.1
    · exact (h.no ht).1 y e hy5
theorem Fl.other_gone {l l' : List T_Alarm} {th ac ak : Bool} (h : Fl l th ac ak) (hp : GoneIs l l' 1 6) : Fl l' th ac ak := by
  have hn : ∀ y : T_Alarm, isN y 1 5 → ¬ isN y 1 6 := fun y h1 h2 => by unfold isN at *; omega
  refine ⟨fun ht => ?_, fun ht => ⟨fun y hy hy5 => ?_, (h.no ht).2⟩⟩
  · obtain ⟨b, hb, hb5, h1, h2⟩ := h.yes ht
    exact ⟨b, (hp b).2 ⟨hb, hn b hb5⟩, hb5, h1, h2⟩
  · exact (h.no ht).1 y ((hp y).1 hy).1 hy5
theorem Fl.put {l l' : List T_Alarm} {a : T_Alarm} (hp : PutIs l l' 1 5 a) : Fl l' true a.Active a.Acked :=
  ⟨fun _ => ⟨a, (hp.2 a).2 (.inl rfl), hp.1, rfl, rfl⟩, fun h => by cases h⟩
theorem Fl.gone {l l' : List T_Alarm} {ac : Bool} (hp : GoneIs l l' 1 5) : Fl l' false ac false :=
  ⟨fun h => (by cases h), fun _ => ⟨fun y hy hn => ((hp y).1 hy).2 hn, rfl⟩⟩
def N56 (k s : Int) : Prop := k = 1 ∧ (s = 5 ∨ s = 6)
abbrev SSt := List T_Alarm × Int × Bool × Bool × Bool × Int × T_made_Dice
structure SOk (s : SSt) : Prop where
  v : VA s.1
  n : ∀ a ∈ s.1, N56 a.Kind a.Subject
  f : Fl s.1 s.2.2.1 s.2.2.2.1 s.2.2.2.2.1
  d : DcOk s.2.2.2.2.2.2
theorem stay_l2 (l : List T_Alarm) (c : T_made_Dice) (hl : l.length ≤ 64) (th0 ac0 ak0 th ac ak : Bool) (o : Bool) (hf : Fl l th ac ak) (hv : VA l) :
    loopC (F_law41_AlarmsStay_L2 (l, th0, ac, ak0, c) (o, ak)) (false, 0) = some (.inr th) := by
  have key : ∀ (m i : Nat), i + m = l.length → loopC (F_law41_AlarmsStay_L2 (l, th0, ac, ak0, c) (o, ak)) ((l.take i).any (fun a => decide (isN a 1 5)), (i : Int)) = some (.inr (l.any fun a => decide (isN a 1 5))) := by
    intro m
    induction m with
    | zero =>
      intro i hi
      have : i = l.length := by omega
      subst this
      rw [List.take_length]
      refine loopC_inr ?_
      unfold F_law41_AlarmsStay_L2
      dsimp only
      rw [bif_neg (by omega)]
    | succ m ih =>
      intro i hi
      have hlt : i < l.length := by omega
      refine (loopC_inl ?_).trans (ih (i + 1) (by omega))
      unfold F_law41_AlarmsStay_L2
      dsimp only
      rw [bif_pos (by omega), getI_nat, List.getElem?_eq_getElem hlt, bind_some, bind_some, bind_some, bind_some, and_bif rfl, bind_some, w64 (by omega) (by omega), List.take_succ_eq_append_getElem hlt, List.any_append]
      by_cases hn : isN l[i] 1 5
      · have hth : th = true := by
          cases th with
          | true => rfl
          | false => exact absurd hn ((hf.no rfl).1 _ (List.getElem_mem hlt))
        obtain ⟨a, ha, han, h1, h2⟩ := hf.yes hth
        have := uniq hv ha (List.getElem_mem hlt) han hn
        subst this
        have hn' : l[i].Kind = 1 ∧ l[i].Subject = 5 := hn
        rw [bif_pos hn', h1, h2]
        simp [hn]
      · have hn' : ¬ (l[i].Kind = 1 ∧ l[i].Subject = 5) := hn
        rw [bif_neg hn', bind_some, Sum.elim_inr]
        simp [hn]
  have := key l.length 0 (by omega)
  rw [show ((0 : Nat) : Int) = 0 from rfl, List.take_zero, List.any_nil] at this
  rw [this]
  congr 2
  cases th with
  | true =>
    obtain ⟨a, ha, hn, _⟩ := hf.yes rfl
    exact List.any_eq_true.2 ⟨a, ha, decide_eq_true hn⟩
  | false =>
    rw [List.any_eq_false]
    intro a ha
    simpa using (hf.no rfl).1 a ha
theorem stay_step (s : SSt) (h : SOk s) (hk : 0 < s.2.2.2.2.2.1) (hk1 : s.2.2.2.2.2.1 ≤ 40) : Ok (F_law41_AlarmsStay_L1 s) fun o => ∃ s' : SSt, o = .inl s' ∧ SOk s' ∧ s'.2.2.2.2.2.1 = s.2.2.2.2.2.1 - 1 := by
  obtain ⟨l, t, th, ac, ak, n, d⟩ := s
  obtain ⟨hv, hn, hf, hd⟩ := h
  dsimp only at hv hn hf hd hk hk1
  have hl := hv.1
  unfold F_law41_AlarmsStay_L1
  dsimp only
  rw [bif_pos hk]
  refine ok_bind (next_ok d 20 hd (by decide) (by decide)) fun x15 h15 => ok_bind (one_ok x15.1 3 h15.1 (by decide) (by decide)) fun x17 h17 => ?_
  refine ok_bind (Q := fun o => (x17.2 = true ∧ o = 6) ∨ (x17.2 = false ∧ o = 5)) (ok_bif (fun e => ok_some (.inl ⟨e, rfl⟩)) (fun e => ok_some (.inr ⟨e, rfl⟩))) fun o19 h19 => ?_
  have hN : N56 1 o19 := ⟨rfl, by omega⟩
  refine ok_bind (next_ok x17.1 4 h17 (by decide) (by decide)) fun x21 h21 => ?_
  -- what is done, with the flags behind it, ahead of the last look
  refine ok_bind (Q := fun o : List T_Alarm × Bool × Bool × Bool × T_made_Dice => VA o.1 ∧ (∀ a ∈ o.1, N56 a.Kind a.Subject) ∧ DcOk o.2.2.2.2 ∧ Fl o.1 (o.2.1 && !(!o.2.2.1 && o.2.2.2.1)) o.2.2.1 (if (o.2.1 && !o.2.2.1 && o.2.2.2.1) = true then false else o.2.2.2.1)) ?_ fun o23 h23 => ?_
  · have hsame : Fl l (th && !(!ac && ak)) ac (if (th && !ac && ak) = true then false else ak) := by
      cases hth : th with
      | false =>
        rw [hth] at hf
        simpa using hf
      | true =>
        obtain ⟨a, ha, han, h1, h2⟩ := hf.yes hth
        obtain ⟨_, _, _, hr⟩ := hv.2.1 a ha
        cases hac : ac with
        | true =>
          rw [hth, hac] at hf
          simpa using hf
        | false =>
          rw [if_neg (by rw [h1, hac]; simp)] at hr
          have hak : ak = false := by rw [← h2]; exact hr.2
          rw [hth, hac, hak] at hf
          rw [hak]
          simpa using hf
    refine ok_dec (fun _ => ?_) (fun _ => ok_dec (fun _ => ?_) (fun _ => ok_dec (fun _ => ?_) (fun _ => ?_)))
    · -- raise
      refine ok_bind (next_ok x21.1 4 h21.1 (by decide) (by decide)) fun x25 h25 => ?_
      have hst := raise_step l 1 o19 (IntKind.i64.wrap (1 + x25.2)) (IntKind.i64.wrap (t + x15.2))
      have his := raise_is l 1 o19 (IntKind.i64.wrap (1 + x25.2)) (IntKind.i64.wrap (t + x15.2))
      rw [raise_eq _ _ _ _ _ (by omega), bind_some]
      generalize raiseF l 1 o19 (IntKind.i64.wrap (1 + x25.2)) (IntKind.i64.wrap (t + x15.2)) = R at hst his ⊢
      have hv' := hst.va hv
      have hn' := hst.names (N := N56) hn hN
      rw [and_bif (q := x17.2 = false) not_dec, bind_some]
      refine ok_dec (fun hok => ?_) (fun hno => ?_)
      · obtain ⟨h0, h5⟩ := hok
        have ho : o19 = 5 := by
          rcases h19 with ⟨e, _⟩ | ⟨_, e⟩
          · rw [h5] at e; cases e
          · exact e
        subst ho
        rcases his with ⟨e, _⟩ | ⟨_, a, hp, ha, hk1, hk2⟩
        · exact absurd h0 e
        · have hfl := Fl.put hp
          refine ok_bind (Q := fun o => o = a.Acked) ?_ fun o32 h32 => ok_some ⟨hv', hn', h25.1, ?_⟩
          · by_cases hfo : foundK l 1 5
            · obtain ⟨q1, q2, q3⟩ := hf.at_ hv hfo
              rw [hk1 hfo, q2, q3]
              cases ak <;> cases ac <;> exact ok_some rfl
            · rw [hk2 hfo]
              have hth : th = false := by
                cases hth : th with
                | false => rfl
                | true => rw [hth] at hf; exact absurd (hf.found hv) hfo
              rw [(hf.no hth).2]
              exact ok_some rfl
          · subst h32
            rw [ha] at hfl
            dsimp only
            simpa using hfl
      · refine ok_some ⟨hv', hn', h25.1, ?_⟩
        dsimp only
        rcases his with ⟨_, e⟩ | ⟨e0, a, hp, _⟩
        · rw [e]; exact hsame
        · rcases h19 with ⟨_, e⟩ | ⟨e5, _⟩
          · subst e; exact hsame.other_put hp
          · exact absurd ⟨e0, e5⟩ hno
    · -- end
      have hst := end_step l 1 o19 (IntKind.i64.wrap (t + x15.2))
      have his := end_is l 1 o19 (IntKind.i64.wrap (t + x15.2))
      rw [end_eq _ _ _ _ (by omega), bind_some]
      generalize endF l 1 o19 (IntKind.i64.wrap (t + x15.2)) = R at hst his ⊢
      have hv' := hst.va hv
      have hn' := hst.names (N := N56) hn hN
      rw [and_bif (q := x17.2 = false) not_dec, bind_some]
      refine ok_dec (fun hok => ?_) (fun hno => ?_)
      · obtain ⟨h0, h5⟩ := hok
        have ho : o19 = 5 := by
          rcases h19 with ⟨e, _⟩ | ⟨_, e⟩
          · rw [h5] at e; cases e
          · exact e
        subst ho
        refine ok_some ⟨hv', hn', h21.1, ?_⟩
        dsimp only
        rcases his with ⟨e, _⟩ | ⟨_, hfo, hA, ⟨hk, hg⟩ | ⟨hk, a, hp, a1, a2⟩⟩
        · exact absurd h0 e
        · obtain ⟨q1, q2, q3⟩ := hf.at_ hv hfo
          rw [q3] at hk
          rw [q1, hk]
          simpa using Fl.gone hg
        · obtain ⟨q1, q2, q3⟩ := hf.at_ hv hfo
          rw [q3] at hk
          have hfl := Fl.put hp
          rw [a1, a2] at hfl
          rw [q1, hk]
          simpa using hfl
      · refine ok_some ⟨hv', hn', h21.1, ?_⟩
        dsimp only
        rcases his with ⟨_, e⟩ | ⟨e0, _, _, hh⟩
        · rw [e]; exact hsame
        · rcases h19 with ⟨_, e⟩ | ⟨e5, _⟩
          · subst e
            rcases hh with ⟨_, hg⟩ | ⟨_, a, hp, _⟩
            · exact hsame.other_gone hg
            · exact hsame.other_put hp
          · exact absurd ⟨e0, e5⟩ hno
    · -- acknowledge
      have hst := ack_step l 1 o19
      have his := ack_is l 1 o19
      rw [ack_eq _ _ _ (by omega), bind_some]
      generalize ackF l 1 o19 = R at hst his ⊢
      have hv' := hst.va hv
      have hn' := hst.names (N := N56) hn hN
      rw [and_bif (q := x17.2 = false) not_dec, bind_some]
      refine ok_dec (fun hok => ?_) (fun hno => ?_)
      · obtain ⟨h0, h5⟩ := hok
        have ho : o19 = 5 := by
          rcases h19 with ⟨e, _⟩ | ⟨_, e⟩
          · rw [h5] at e; cases e
          · exact e
        subst ho
        refine ok_some ⟨hv', hn', h21.1, ?_⟩
        dsimp only
        rcases his with ⟨e, _⟩ | ⟨_, hfo, ⟨hA, hg⟩ | ⟨hA, a, hp, a1, a2⟩⟩
        · exact absurd h0 e
        · obtain ⟨q1, q2, q3⟩ := hf.at_ hv hfo
          rw [q2] at hA
          rw [q1, hA]
          simpa using Fl.gone hg
        · obtain ⟨q1, q2, q3⟩ := hf.at_ hv hfo
          rw [q2] at hA
          have hfl := Fl.put hp
          rw [a1, a2] at hfl
          rw [q1, hA]
          simpa using hfl
      · refine ok_some ⟨hv', hn', h21.1, ?_⟩
        dsimp only
        rcases his with ⟨_, e⟩ | ⟨e0, _, hh⟩
        · rw [e]; exact hsame
        · rcases h19 with ⟨_, e⟩ | ⟨e5, _⟩
          · subst e
            rcases hh with ⟨_, hg⟩ | ⟨_, a, hp, _⟩
            · exact hsame.other_gone hg
            · exact hsame.other_put hp
          · exact absurd ⟨e0, e5⟩ hno
    · -- hide
      refine ok_bind (next_ok x21.1 50 h21.1 (by decide) (by decide)) fun x46 h46 => ?_
      have hst := hide_step l 1 o19 (IntKind.i64.wrap (IntKind.i64.wrap (t + x15.2) + x46.2))
      have his := hide_is l 1 o19 (IntKind.i64.wrap (IntKind.i64.wrap (t + x15.2) + x46.2))
      rw [hide_eq _ _ _ _ (by omega), bind_some]
      generalize hideF l 1 o19 (IntKind.i64.wrap (IntKind.i64.wrap (t + x15.2) + x46.2)) = R at hst his ⊢
      have hv' := hst.va hv
      have hn' := hst.names (N := N56) hn hN
      refine ok_some ⟨hv', hn', h46.1, ?_⟩
      dsimp only
      rcases his with e | ⟨hfo, a, hp, a1, a2⟩
      · rw [e]; exact hsame
      · rcases h19 with ⟨_, e⟩ | ⟨_, e⟩
        · subst e; exact hsame.other_put hp
        · subst e
          have hfo' := hsame.at_ hv hfo
          have hfl := Fl.put hp
          rw [a1, a2, hfo'.2.1, hfo'.2.2] at hfl
          rw [hfo'.1]
          exact hfl
  · obtain ⟨g1, g2, g3, g4⟩ := h23
    obtain ⟨l', th', ac', ak', c'⟩ := o23
    dsimp only at g1 g2 g3 g4
    have e50 : (bif th' then bif (!ac') then some ak' else some false else some false) = some (th' && !ac' && ak') := by cases th' <;> cases ac' <;> rfl
    dsimp only
    rw [e50, bind_some]
    have e53 : (bif (th' && !ac' && ak') then some (false, false) else some (th', ak')) = some ((th' && !(!ac' && ak')), (if (th' && !ac' && ak') = true then false else ak')) := by cases th' <;> cases ac' <;> cases ak' <;> rfl
    rw [e53, bind_some, stay_l2 l' c' g1.1 th' ac' ak' _ ac' _ _ g4 g1, bind_some, Sum.elim_inr]
    have hb : ∀ b : Bool, (b != b) = false := fun b => by cases b <;> rfl
    rw [hb, cond_false, valid_eq l' (by have := g1.1; omega), bind_some, decide_eq_true g1, Bool.not_true, bind_some, cond_false, w64 (n := n - 1) (by omega) (by omega)]
    exact ok_some ⟨_, rfl, ⟨g1, g2, g4, g3⟩, rfl⟩
theorem law_AlarmsStay (p0 : List Int) (w0 : InL (In .i64) p0) : F_law41_AlarmsStay p0 = some true := by
  refine Ok.val ?_
  unfold F_law41_AlarmsStay
  rw [light_ok, bind_some]
  by_cases hl : (p0.length : Int) ≤ 400
  · rw [decide_eq_true hl, Bool.not_true, cond_false]
    have h6 : DcOk (T_made_Dice.mk p0 0) := ⟨by dsimp only; omega, by show (0 : Int) ≤ 0; decide, by show (0 : Int) ≤ 400; decide⟩
    rw [show F_made_Roll p0 = some (T_made_Dice.mk p0 0) from rfl, bind_some]
    refine ok_bind (next_ok _ 40 h6 (by decide) (by decide)) fun x8 h8 => ?_
    refine ok_bind (ok_loop (fun s : SSt => SOk s ∧ 0 ≤ s.2.2.2.2.2.1 ∧ s.2.2.2.2.2.1 ≤ 40) (fun s => s.2.2.2.2.2.1.toNat) (fun o => o = .inr ()) (fun s hs => ?_) _ ⟨⟨lok0.v, fun a h => (by cases h), ⟨fun h => (by cases h), fun _ => ⟨fun a h => (by cases h), rfl⟩⟩, h8.1⟩, h8.2.1, by dsimp only; omega⟩) fun o11 h11 => ?_
    · obtain ⟨a1, a2, a3⟩ := hs
      by_cases hk : 0 < s.2.2.2.2.2.1
      · refine ok_mono (stay_step s a1 hk a3) ?_
        rintro o ⟨s', rfl, b1, b2⟩
        exact ⟨⟨b1, by omega, by omega⟩, by omega⟩
      · unfold F_law41_AlarmsStay_L1
        rw [bif_neg hk]
        exact ok_some rfl
    · subst h11
      rw [Sum.elim_inr, awake41, bind_some]
      exact ok_some rfl
  · rw [decide_eq_false hl, Bool.not_false, cond_true, awake41, bind_some]
    exact ok_some rfl
end Go.L
