/- Belts: chains of belts; which belts and lines are right: program and reference agree. -/
import Derived.Test.YtmomjhbinkmefaaLLib
import Derived.Test.YtmomjhbinkmefaaL39D
namespace Go.L
open Go Go.Aml

/-! ### lists of numbers that are not the same -/
theorem nodup_len : ∀ (n : Nat) (l : List Nat), l.Nodup → (∀ x ∈ l, x < n) → l.length ≤ n
  | 0, l, _, h => by
    cases l with
    | nil => exact Nat.le_refl _
    | cons a l => exact absurd (h a (by simp)) (by omega)
  | n + 1, l, hn, h => by
    by_cases hm : n ∈ l
    · have h1 := nodup_len n (l.erase n) (hn.erase n) (fun x hx => by
        have := (hn.mem_erase_iff).1 hx
        have := h x this.2
        omega)
      rw [List.length_erase_of_mem hm] at h1
      omega
    · have := nodup_len n l hn (fun x hx => by
        have h1 := h x hx
        have : x ≠ n := fun e => hm (e ▸ hx)
        omega)
      omega

/-! ### where a belt throws -/
def nx (l : List T_Belt) (k : Int) : Int := ((l[k.toNat]?).map (·.Onto)).getD (-1)
def RangeOk (l : List T_Belt) : Prop := ∀ b ∈ l, -1 ≤ b.Onto ∧ b.Onto < (l.length : Int)
theorem nx_get {l : List T_Belt} {k : Int} {b : T_Belt} (h : getI l k = some b) : nx l k = b.Onto := by
  unfold nx
  rw [(getI_some h).2]
  rfl
theorem nx_range {l : List T_Belt} (hl : RangeOk l) (k : Int) : -1 ≤ nx l k ∧ nx l k < (l.length : Int) := by
  unfold nx
  cases h : l[k.toNat]? with
  | none => simp; omega
  | some b => exact hl b (List.mem_of_getElem? h)
/-- The chain ends within so many belts. -/
def endsIn (l : List T_Belt) : Nat → Int → Bool
  | 0, k => decide (k < 0)
  | f + 1, k => decide (k < 0) || endsIn l f (nx l k)
theorem endsIn_neg {l : List T_Belt} {k : Int} (h : k < 0) : ∀ f, endsIn l f k = true
  | 0 => decide_eq_true h
  | f + 1 => by unfold endsIn; rw [decide_eq_true h]; rfl
theorem endsIn_pos {l : List T_Belt} {k : Int} (h : 0 ≤ k) (f : Nat) : endsIn l (f + 1) k = endsIn l f (nx l k) := by
  show (decide (k < 0) || endsIn l f (nx l k)) = _
  rw [decide_eq_false (by omega), Bool.false_or]
theorem endsIn0 {l : List T_Belt} {k : Int} (h : 0 ≤ k) : endsIn l 0 k = false := decide_eq_false (by omega)
theorem endsIn_mono {l : List T_Belt} : ∀ {f g : Nat} {k : Int}, endsIn l f k = true → f ≤ g → endsIn l g k = true
  | 0, g, k, h, _ => endsIn_neg (of_decide_eq_true h) g
  | f + 1, 0, k, _, hg => by omega
  | f + 1, g + 1, k, h, hg => by
    by_cases hk : k < 0
    · exact endsIn_neg hk _
    · rw [endsIn_pos (by omega)] at h ⊢
      exact endsIn_mono h (by omega)
theorem endsIn_least {l : List T_Belt} {k : Int} : ∀ F, endsIn l F k = true → ∃ f, f ≤ F ∧ endsIn l f k = true ∧ (f = 0 ∨ endsIn l (f - 1) k = false)
  | 0, h => ⟨0, Nat.le_refl _, h, .inl rfl⟩
  | F + 1, h => by
    cases h' : endsIn l F k with
    | true =>
      obtain ⟨f, h1, h2, h3⟩ := endsIn_least F h'
      exact ⟨f, by omega, h2, h3⟩
    | false => exact ⟨F + 1, Nat.le_refl _, h, .inr h'⟩
def pth (l : List T_Belt) : Nat → Int → List Nat
  | 0, _ => []
  | f + 1, k => if k < 0 then [] else k.toNat :: pth l f (nx l k)
theorem pth_ok {l : List T_Belt} (hl : RangeOk l) : ∀ (f : Nat) (k : Int), k < (l.length : Int) → endsIn l f k = true → (f = 0 ∨ endsIn l (f - 1) k = false) →
    (pth l f k).length = f ∧ (pth l f k).Nodup ∧ ∀ x ∈ pth l f k, x < l.length ∧ endsIn l f (x : Int) = true
  | 0, k, _, h, _ => ⟨rfl, List.nodup_nil, fun x hx => by cases hx⟩
  | f + 1, k, hk, h, h' => by
    have h' : endsIn l f k = false := by rcases h' with h' | h'; cases h'; exact h'
    have hk0 : 0 ≤ k := by
      refine Decidable.byContradiction fun hn => ?_
      rw [endsIn_neg (by omega)] at h'
      cases h'
    rw [endsIn_pos hk0] at h
    have hnx := nx_range hl k
    have hh : f = 0 ∨ endsIn l (f - 1) (nx l k) = false := by
      cases f with
      | zero => exact .inl rfl
      | succ f => rw [endsIn_pos hk0] at h'; exact .inr h'
    obtain ⟨h1, h2, h3⟩ := pth_ok hl f (nx l k) hnx.2 h hh
    unfold pth
    rw [if_neg (by omega)]
    have hkn : ((k.toNat : Nat) : Int) = k := by omega
    refine ⟨by simp [h1], List.nodup_cons.2 ⟨fun hm => ?_, h2⟩, fun x hx => ?_⟩
    · have := (h3 _ hm).2
      rw [hkn, h'] at this
      cases this
    · rcases List.mem_cons.1 hx with rfl | hx
      · refine ⟨by omega, ?_⟩
        rw [hkn, endsIn_pos hk0]
        exact h
      · exact ⟨(h3 x hx).1, endsIn_mono (h3 x hx).2 (by omega)⟩
theorem endsIn_all {l : List T_Belt} (hl : RangeOk l) {k : Int} (hk : k < (l.length : Int)) {F : Nat} (h : endsIn l F k = true) : endsIn l l.length k = true := by
  obtain ⟨f, _, h2, h3⟩ := endsIn_least F h
  obtain ⟨p1, p2, p3⟩ := pth_ok hl f k hk h2 h3
  have := nodup_len l.length _ p2 fun x hx => (p3 x hx).1
  exact endsIn_mono h2 (by omega)

/-! ### right belts -/
def badB (l : List T_Belt) (i : Int) (b : T_Belt) : Bool := decide (b.Onto < -1) || decide ((l.length : Int) ≤ b.Onto) || decide (b.Onto = i) || decide (b.Warn < 0) || decide (120 < b.Warn)
def okFrom (l : List T_Belt) (bad : Int → Bool) : Nat → Int → Bool
  | 0, _ => true
  | f + 1, i => !bad i && okFrom l bad f (i + 1)
/-- A loop over the numbers below n that stops at the first bad one. -/
theorem scan {g : Int → Option (Int ⊕ (Unit ⊕ Unit))} {n : Nat} (hn : n ≤ 1000000) (bad : Int → Bool) (hg : ∀ i : Int, 0 ≤ i → i < n → g i = bif bad i then some (.inr (.inl ())) else some (.inl (i + 1))) (hend : g n = some (.inr (.inr ()))) :
    loopC g 0 = some (if (List.range n).all (fun i => !bad i) then .inr () else .inl ()) := by
  have key : ∀ (m : Nat) (i : Nat), i + m = n → loopC g (i : Int) = some (if (List.range' i m).all (fun i => !bad (i : Int)) then .inr () else .inl ()) := by
    intro m
    induction m with
    | zero =>
      intro i hi
      have : (i : Int) = (n : Int) := by omega
      rw [this, loopC_inr hend]
      rfl
    | succ m ih =>
      intro i hi
      have h1 := hg i (by omega) (by omega)
      cases hb : bad (i : Int) with
      | true =>
        rw [hb] at h1
        rw [loopC_inr h1, List.range'_succ, List.all_cons, hb]
        rfl
      | false =>
        rw [hb] at h1
        rw [loopC_inl h1, show ((i : Int) + 1) = ((i + 1 : Nat) : Int) by omega, ih (i + 1) (by omega), List.range'_succ, List.all_cons, hb, Bool.not_false, Bool.true_and]
  have := key n 0 (by omega)
  rw [show ((0 : Nat) : Int) = 0 from rfl] at this
  rw [this, List.range_eq_range']
theorem inR_eq (x a b : Int) : F_lists_In x a b = some (decide (a ≤ x) && decide (x ≤ b)) := by
  unfold F_lists_In
  cases decide (a ≤ x) <;> rfl

def badAt (l : List T_Belt) (i : Int) : Bool := match getI l i with | some b => badB l i b | none => true
theorem range_of {l : List T_Belt} (h : (List.range l.length).all (fun i : Nat => !badAt l i) = true) : RangeOk l ∧ ∀ b ∈ l, 0 ≤ b.Warn ∧ b.Warn ≤ 120 := by
  have key : ∀ b ∈ l, -1 ≤ b.Onto ∧ b.Onto < (l.length : Int) ∧ 0 ≤ b.Warn ∧ b.Warn ≤ 120 := by
    intro b hb
    obtain ⟨i, hi, rfl⟩ := List.getElem_of_mem hb
    have h1 := List.all_eq_true.1 h i (List.mem_range.2 hi)
    unfold badAt at h1
    rw [getI_nat, List.getElem?_eq_getElem hi] at h1
    simp only [badB] at h1
    simp at h1
    omega
  exact ⟨fun b hb => ⟨(key b hb).1, (key b hb).2.1⟩, fun b hb => (key b hb).2.2⟩
/-- Belts are right. -/
def Snd (l : List T_Belt) : Bool := decide (1 ≤ l.length) && decide (l.length ≤ 24) && (List.range l.length).all (fun i : Nat => !badAt l i) && (List.range l.length).all (fun i : Nat => endsIn l l.length i)
theorem l3_eq (l : List T_Belt) (hl : RangeOk l) (h24 : l.length ≤ 24) : ∀ (f : Nat) (n k : Int), (f : Int) = l.length - n → 0 ≤ n → k < (l.length : Int) →
    loopC (F_belts_sound_L3 l) (n, k) = some (if endsIn l f k then .inr () else .inl ()) := by
  intro f
  induction f with
  | zero =>
    intro n k hf hn hk
    by_cases h : 0 ≤ k
    · rw [loopC_inr (b := .inl ()) (by unfold F_belts_sound_L3; rw [bif_pos h]; dsimp only; rw [w64 (by omega) (by omega), bif_pos (by omega)]), endsIn0 h]
      rfl
    · rw [loopC_inr (b := .inr ()) (by unfold F_belts_sound_L3; rw [bif_neg h]), endsIn_neg (by omega)]
      rfl
  | succ f ih =>
    intro n k hf hn hk
    by_cases h : 0 ≤ k
    · have hg := getI_ok (l := l) h hk
      have hnx := nx_range hl k
      rw [loopC_inl (a' := (n + 1, nx l k)) (by unfold F_belts_sound_L3; rw [bif_pos h]; dsimp only; rw [w64 (by omega) (by omega), bif_neg (by omega), hg, bind_some, nx_get hg]), ih (n + 1) _ (by omega) (by omega) hnx.2, endsIn_pos h]
    · rw [loopC_inr (b := .inr ()) (by unfold F_belts_sound_L3; rw [bif_neg h]), endsIn_neg (by omega)]
      rfl
theorem r3_eq (l : List T_Belt) (hl : RangeOk l) (h24 : l.length ≤ 24) : ∀ (f : Nat) (n k : Int), (f : Int) = l.length + 1 - n → 0 ≤ n → k < (l.length : Int) →
    loopC (F_ref39_belts_L3 l) (k, n) = some (if endsIn l f k then .inr () else .inl ()) := by
  intro f
  induction f with
  | zero =>
    intro n k hf hn hk
    by_cases h : 0 ≤ k
    · rw [loopC_inr (b := .inl ()) (by unfold F_ref39_belts_L3; rw [bif_pos h]; dsimp only; rw [bif_pos (by omega)]), endsIn0 h]
      rfl
    · rw [loopC_inr (b := .inr ()) (by unfold F_ref39_belts_L3; rw [bif_neg h]), endsIn_neg (by omega)]
      rfl
  | succ f ih =>
    intro n k hf hn hk
    by_cases h : 0 ≤ k
    · have hg := getI_ok (l := l) h hk
      have hnx := nx_range hl k
      rw [loopC_inl (a' := (nx l k, n + 1)) (by unfold F_ref39_belts_L3; rw [bif_pos h]; dsimp only; rw [bif_neg (by omega), hg, bind_some, w64 (by omega) (by omega), nx_get hg]), ih (n + 1) _ (by omega) (by omega) hnx.2, endsIn_pos h]
    · rw [loopC_inr (b := .inr ()) (by unfold F_ref39_belts_L3; rw [bif_neg h]), endsIn_neg (by omega)]
      rfl
theorem sound_eq (l : List T_Belt) (hl : l.length ≤ 1000) : F_belts_sound l = some (Snd l) := by
  unfold F_belts_sound Snd
  rw [inR_eq, bind_some]
  by_cases h1 : 1 ≤ l.length ∧ l.length ≤ 24
  · have e : (!(decide ((1 : Int) ≤ (l.length : Int)) && decide ((l.length : Int) ≤ 24))) = false := by
      rw [decide_eq_true (by omega), decide_eq_true (by omega)]; rfl
    rw [e, cond_false, decide_eq_true h1.1, decide_eq_true h1.2, Bool.true_and, Bool.true_and]
    rw [scan (n := l.length) (by omega) (badAt l) (fun i h0 hlt => ?_) (by unfold F_belts_sound_L1; rw [bif_neg (by omega)])]
    · rw [bind_some]
      cases hb : (List.range l.length).all (fun i : Nat => !badAt l i) with
      | false => rfl
      | true =>
        obtain ⟨hr, _⟩ := range_of hb
        rw [if_pos rfl]
        show Option.bind (loopC (F_belts_sound_L2 l) 0) _ = _
        rw [scan (n := l.length) (by omega) (fun i => !endsIn l l.length i) (fun i h0 hlt => ?_) (by unfold F_belts_sound_L2; rw [bif_neg (by omega)])]
        · rw [bind_some]
          simp only [Bool.not_not, Bool.true_and]
          cases (List.range l.length).all (fun i : Nat => endsIn l l.length i) <;> rfl
        · unfold F_belts_sound_L2
          rw [bif_pos hlt, l3_eq l hr h1.2 l.length 0 i (by omega) (by omega) hlt, bind_some, w64 (by omega) (by omega)]
          cases endsIn l l.length i <;> rfl
    · unfold F_belts_sound_L1
      rw [bif_pos hlt, getI_ok h0 hlt, bind_some, inR_eq, inR_eq, w64 (n := (l.length : Int) - 1) (by omega) (by omega), w64 (n := i + 1) (by omega) (by omega), bind_some, bind_some]
      unfold badAt
      rw [getI_ok h0 hlt]
      dsimp only
      generalize l[i.toNat]'(by omega) = b
      unfold badB
      have e1 : decide (b.Onto < -1) = !decide (-1 ≤ b.Onto) := by rw [← decide_not]; exact decide_eq_decide.2 (by omega)
      have e2 : decide ((l.length : Int) ≤ b.Onto) = !decide (b.Onto ≤ (l.length : Int) - 1) := by rw [← decide_not]; exact decide_eq_decide.2 (by omega)
      have e3 : decide (b.Warn < 0) = !decide (0 ≤ b.Warn) := by rw [← decide_not]; exact decide_eq_decide.2 (by omega)
      have e4 : decide (120 < b.Warn) = !decide (b.Warn ≤ 120) := by rw [← decide_not]; exact decide_eq_decide.2 (by omega)
      rw [e1, e2, e3, e4]
      cases decide (-1 ≤ b.Onto) <;> cases decide (b.Onto ≤ (l.length : Int) - 1) <;> cases decide (0 ≤ b.Warn) <;> cases decide (b.Warn ≤ 120) <;> cases decide (b.Onto = i) <;> rfl
  · have e : (!(decide ((1 : Int) ≤ (l.length : Int)) && decide ((l.length : Int) ≤ 24))) = true := by
      by_cases a : 1 ≤ l.length
      · rw [decide_eq_true (show (1 : Int) ≤ (l.length : Int) by omega), decide_eq_false (show ¬ (l.length : Int) ≤ 24 by omega)]; rfl
      · rw [decide_eq_false (show ¬ (1 : Int) ≤ (l.length : Int) by omega)]; rfl
    rw [e, cond_true]
    by_cases a : 1 ≤ l.length
    · rw [decide_eq_false (show ¬ l.length ≤ 24 by omega), Bool.and_false]; rfl
    · rw [decide_eq_false a]; rfl
theorem rbelts_eq (l : List T_Belt) (hl : l.length ≤ 1000) : F_ref39_belts l = some (Snd l) := by
  unfold F_ref39_belts Snd
  rw [or_bif rfl, bind_some]
  by_cases h1 : 1 ≤ l.length ∧ l.length ≤ 24
  · rw [bif_neg (by omega), decide_eq_true h1.1, decide_eq_true h1.2, Bool.true_and, Bool.true_and]
    rw [scan (n := l.length) (by omega) (badAt l) (fun i h0 hlt => ?_) (by unfold F_ref39_belts_L1; rw [bif_neg (by omega)])]
    · rw [bind_some]
      cases hb : (List.range l.length).all (fun i : Nat => !badAt l i) with
      | false => rfl
      | true =>
        obtain ⟨hr, _⟩ := range_of hb
        rw [if_pos rfl]
        show Option.bind (loopC (F_ref39_belts_L2 l) 0) _ = _
        rw [scan (n := l.length) (by omega) (fun i => !endsIn l l.length i) (fun i h0 hlt => ?_) (by unfold F_ref39_belts_L2; rw [bif_neg (by omega)])]
        · rw [bind_some]
          simp only [Bool.not_not, Bool.true_and]
          cases (List.range l.length).all (fun i : Nat => endsIn l l.length i) <;> rfl
        · unfold F_ref39_belts_L2
          have hnx := nx_range hr i
          have hg := getI_ok (l := l) h0 hlt
          rw [bif_pos hlt, hg, bind_some, ← nx_get hg, r3_eq l hr h1.2 (l.length + 1) 0 _ (by omega) (by omega) hnx.2, bind_some, w64 (by omega) (by omega)]
          have : endsIn l (l.length + 1) (nx l i) = endsIn l l.length i := by
            cases h : endsIn l l.length i with
            | true => exact endsIn_mono (f := l.length) ((endsIn_pos h0 l.length) ▸ endsIn_mono h (by omega)) (by omega)
            | false =>
              cases h' : endsIn l (l.length + 1) (nx l i) with
              | false => rfl
              | true =>
                rw [← endsIn_pos h0] at h'
                rw [endsIn_all hr hlt h'] at h
                cases h
          rw [this]
          cases endsIn l l.length i <;> rfl
    · unfold F_ref39_belts_L1
      rw [bif_pos hlt, getI_ok h0 hlt]
      simp only [bind_some]
      rw [w64 (n := i + 1) (by omega) (by omega)]
      unfold badAt
      rw [getI_ok h0 hlt]
      dsimp only
      generalize l[i.toNat]'(by omega) = b
      unfold badB
      cases decide (b.Onto < -1) <;> cases decide ((l.length : Int) ≤ b.Onto) <;> cases decide (b.Onto = i) <;> cases decide (b.Warn < 0) <;> cases decide (120 < b.Warn) <;> rfl
  · rw [bif_pos (by omega)]
    by_cases a : 1 ≤ l.length
    · rw [decide_eq_false (show ¬ l.length ≤ 24 by omega), Bool.and_false]; rfl
    · rw [decide_eq_false a]; rfl
theorem snd_is {l : List T_Belt} (h : Snd l = true) : 1 ≤ l.length ∧ l.length ≤ 24 ∧ RangeOk l ∧ (∀ b ∈ l, 0 ≤ b.Warn ∧ b.Warn ≤ 120) ∧ ∀ k : Int, k < (l.length : Int) → endsIn l l.length k = true := by
  unfold Snd at h
  simp only [Bool.and_eq_true, decide_eq_true_eq] at h
  obtain ⟨⟨⟨h1, h2⟩, h3⟩, h4⟩ := h
  obtain ⟨r1, r2⟩ := range_of h3
  refine ⟨h1, h2, r1, r2, fun k hk => ?_⟩
  by_cases h0 : k < 0
  · exact endsIn_neg h0 _
  · have := List.all_eq_true.1 h4 k.toNat (List.mem_range.2 (by omega))
    rwa [show ((k.toNat : Nat) : Int) = k by omega] at this
end Go.L
