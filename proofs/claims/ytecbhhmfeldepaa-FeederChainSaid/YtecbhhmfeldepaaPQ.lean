/- What the functions yield, plain: the laws. -/
import Derived.Test.YtecbhhmfeldepaaPDrawB18
/- Networks: which are right (program and reference agree); loops over a row. -/
namespace Go.L
open Go Go.Aml

/-! ### loops over a row -/
def fst1 {α β : Type} (E : Int → α → Option β) : Int → List α → Option β
  | _, [] => none
  | i, x :: t => match E i x with
    | some b => some b
    | none => fst1 E (i + 1) t
theorem fst1_some {α β : Type} {E : Int → α → Option β} {i : Int} {x : α} {t : List α} {b : β} (h : E i x = some b) : fst1 E i (x :: t) = some b := by
  show (match E i x with | some b => some b | none => _) = _
  rw [h]
theorem fst1_none {α β : Type} {E : Int → α → Option β} {i : Int} {x : α} {t : List α} (h : E i x = none) : fst1 E i (x :: t) = fst1 E (i + 1) t := by
  show (match E i x with | some b => some b | none => _) = _
  rw [h]
theorem fst1_all {α β : Type} {E : Int → α → Option β} : ∀ (t : List α) (i : Int), fst1 E i t = none → ∀ (k : Nat) (x : α), t[k]? = some x → E (i + k) x = none
  | [], _, _, k, x, h => by simp at h
  | y :: t, i, h, k, x, hx => by
    cases hy : E i y with
    | some b => rw [fst1_some hy] at h; cases h
    | none =>
      rw [fst1_none hy] at h
      match k, hx with
      | 0, hx => simp at hx; subst hx; simpa using hy
      | k + 1, hx =>
        have := fst1_all t (i + 1) h k x (by simpa using hx)
        rw [show i + ((k + 1 : Nat) : Int) = i + 1 + (k : Int) by omega]
        exact this
theorem fst1_of_all {α β : Type} {E : Int → α → Option β} : ∀ (t : List α) (i : Int), (∀ (k : Nat) (x : α), t[k]? = some x → E (i + k) x = none) → fst1 E i t = none
  | [], _, _ => rfl
  | y :: t, i, h => by
    rw [fst1_none (by simpa using h 0 y rfl)]
    refine fst1_of_all t (i + 1) fun k x hx => ?_
    have := h (k + 1) x (by simpa using hx)
    rw [show i + ((k + 1 : Nat) : Int) = i + 1 + (k : Int) by omega] at this
    exact this
def fout {β R : Type} (out : R) (eb : β → R) : Option β → R
  | none => out
  | some b => eb b
theorem loop_chk {α β S R : Type} {F : S → Option (S ⊕ R)} (l : List α) (E : Int → α → Option β) (I : Int → S → Prop) (out : R) (eb : β → R)
    (hs : ∀ i x s, getI l i = some x → 0 ≤ i → i < (l.length : Int) → I i s → (∃ s', E i x = none ∧ F s = some (.inl s') ∧ I (i + 1) s') ∨ ∃ b, E i x = some b ∧ F s = some (.inr (eb b)))
    (he : ∀ s, I l.length s → F s = some (.inr out)) (s : S) (h : I 0 s) : loopC F s = some (fout out eb (fst1 E 0 l)) := by
  have key : ∀ (t : List α) (i : Int) (s : S), 0 ≤ i → i ≤ (l.length : Int) → l.drop i.toNat = t → I i s → loopC F s = some (fout out eb (fst1 E i t)) := by
    intro t
    induction t with
    | nil =>
      intro i s h0 h1 ht hI
      have : i = l.length := by
        have := List.drop_eq_nil_iff.1 ht
        omega
      subst this
      exact loopC_inr (he s hI)
    | cons x t ih =>
      intro i s h0 h1 ht hI
      have hlt : i < (l.length : Int) := by
        by_cases hlt : i < (l.length : Int)
        · exact hlt
        · rw [List.drop_of_length_le (by omega)] at ht; cases ht
      have hg := getI_ok (l := l) h0 hlt
      have hd : l.drop i.toNat = l[i.toNat]'(by omega) :: l.drop (i + 1).toNat := by
        rw [show (i + 1).toNat = i.toNat + 1 by omega]
        exact List.drop_eq_getElem_cons (by omega)
      rw [ht] at hd
      obtain ⟨hx, ht'⟩ := List.cons.inj hd
      rw [← hx] at hg
      rcases hs i x s hg h0 hlt hI with ⟨s', e1, e2, hI'⟩ | ⟨b, e1, e2⟩
      · rw [fst1_none e1, loopC_inl e2]
        exact ih (i + 1) s' (by omega) (by omega) ht'.symm hI'
      · rw [fst1_some e1]
        exact loopC_inr e2
  exact key l 0 s (Int.le_refl 0) (by omega) rfl h
theorem getI_get {α : Type} {l : List α} {i : Int} {x : α} (h : getI l i = some x) : l[i.toNat]? = some x := by
  unfold getI at h
  by_cases h0 : 0 ≤ i
  · rw [if_pos h0] at h; exact h
  · rw [if_neg h0] at h; cases h
theorem getI_of {α : Type} {l : List α} {i : Int} {x : α} (h0 : 0 ≤ i) (h : l[i.toNat]? = some x) : getI l i = some x := by
  unfold getI
  rw [if_pos h0, h]
theorem getI_lt {α : Type} {l : List α} {i : Int} {x : α} (h : getI l i = some x) : 0 ≤ i ∧ i < (l.length : Int) := by
  have h1 := getI_get h
  have h2 := (List.getElem?_eq_some_iff.1 h1).1
  unfold getI at h
  by_cases h0 : 0 ≤ i
  · exact ⟨h0, by omega⟩
  · rw [if_neg h0] at h; cases h

/-! ### Check -/
def swE (i : Int) (x : T_Switch) : Option Int :=
  if x.Above < -1 ∨ i ≤ x.Above then some 16 else if x.Since < 0 ∨ 2147483648 < x.Since then some 8 else if x.Shown < -1 ∨ 1 < x.Shown ∨ x.Late = true ∧ (x.Closed = true ∨ x.Shown = -1) then some 10 else none
def zonE (f : T_Feeder) (i : Int) (z : Int) : Option Int :=
  if z < 0 ∨ (f.Switches.length : Int) ≤ z then some 16 else if z ∈ f.Zones.take i.toNat then some 17 else none
def chk (f : T_Feeder) : Int :=
  if 32 < (f.Switches.length : Int) ∨ 16 < (f.Zones.length : Int) then 2 else
    match fst1 swE 0 f.Switches with
    | some e => e
    | none => match fst1 (zonE f) 0 f.Zones with
      | some e => e
      | none => if f.Reply < 1 ∨ 100000 < f.Reply then 1 else 0
theorem late_eq (x : T_Switch) : ((bif (decide (x.Shown < (-1))) then
          some true
        else
          bif (decide (1 < x.Shown)) then
            some true
          else
            bif x.Late then
              bif x.Closed then
                some true
              else
                some (decide (x.Shown = (-1)))
            else
              some false) : Option Bool) = some (decide (x.Shown < -1 ∨ 1 < x.Shown ∨ x.Late = true ∧ (x.Closed = true ∨ x.Shown = -1))) := by
  refine or_bif (or_bif ?_)
  cases x.Late <;> cases x.Closed <;> simp
theorem swL1 (f : T_Feeder) (hl : f.Switches.length ≤ 1000) : loopC (F_feeder_Check_L1 f) 0 = some (fout (Sum.inr ()) Sum.inl (fst1 swE 0 f.Switches)) := by
  refine loop_chk f.Switches swE (fun i (s : Int) => s = i) (Sum.inr ()) Sum.inl (fun i x s hg h0 h1 hI => ?_) (fun s hI => ?_) 0 rfl
  · subst hI
    unfold F_feeder_Check_L1 swE
    rw [bif_pos h1, hg, bind_some, or_bif rfl, bind_some]
    by_cases c1 : x.Above < -1 ∨ s ≤ x.Above
    · rw [bif_pos c1, if_pos c1]; exact .inr ⟨_, rfl, rfl⟩
    rw [bif_neg c1, if_neg c1, or_bif rfl, bind_some]
    by_cases c2 : x.Since < 0 ∨ 2147483648 < x.Since
    · rw [bif_pos c2, if_pos c2]; exact .inr ⟨_, rfl, rfl⟩
    rw [bif_neg c2, if_neg c2, late_eq, bind_some]
    by_cases c3 : x.Shown < -1 ∨ 1 < x.Shown ∨ x.Late = true ∧ (x.Closed = true ∨ x.Shown = -1)
    · rw [bif_pos c3, if_pos c3]; exact .inr ⟨_, rfl, rfl⟩
    rw [bif_neg c3, if_neg c3]
    exact .inl ⟨_, rfl, rfl, w64 (by omega) (by omega)⟩
  · subst hI
    unfold F_feeder_Check_L1
    rw [bif_neg (by omega)]
theorem mem_take_succ {l : List Int} {i : Int} {z : Int} (h : getI l i = some z) (k : Int) : k ∈ l.take (i + 1).toNat ↔ k ∈ l.take i.toNat ∨ k = z := by
  have h0 := getI_lt h
  rw [show (i + 1).toNat = i.toNat + 1 by omega, List.take_add_one, getI_get h]
  simp
theorem zL2 (f : T_Feeder) (hl : f.Switches.length ≤ 1000) (hz : f.Zones.length ≤ 1000) : loopC (F_feeder_Check_L2 f) (0, List.replicate f.Switches.length false) = some (fout (Sum.inr ()) Sum.inl (fst1 (zonE f) 0 f.Zones)) := by
  refine loop_chk f.Zones (zonE f) (fun i (s : Int × List Bool) => s.1 = i ∧ s.2.length = f.Switches.length ∧ ∀ k : Nat, k < f.Switches.length → s.2[k]? = some (decide ((k : Int) ∈ f.Zones.take i.toNat))) (Sum.inr ()) Sum.inl (fun i z s hg h0 h1 hI => ?_) (fun s hI => ?_) _ ⟨rfl, by simp, fun k hk => by simp [hk]⟩
  · obtain ⟨j, tk⟩ := s
    obtain ⟨rfl, hl2, ht⟩ := hI
    dsimp only at hl2 ht h0 h1 hg ⊢
    unfold F_feeder_Check_L2 zonE
    dsimp only
    rw [bif_pos h1, hg, bind_some, or_bif rfl, bind_some]
    by_cases c1 : z < 0 ∨ (f.Switches.length : Int) ≤ z
    · rw [bif_pos c1, if_pos c1]; exact .inr ⟨_, rfl, rfl⟩
    rw [bif_neg c1, if_neg c1]
    have hzz := ht z.toNat (by omega)
    rw [show ((z.toNat : Nat) : Int) = z by omega] at hzz
    rw [getI_of (by omega) hzz, bind_some]
    by_cases c2 : z ∈ f.Zones.take j.toNat
    · rw [bif_pos c2, if_pos c2]; exact .inr ⟨_, rfl, rfl⟩
    rw [bif_neg c2, if_neg c2, bind_some]
    refine .inl ⟨_, rfl, rfl, w64 (by omega) (by omega), by simpa using hl2, fun k hk => ?_⟩
    dsimp only
    by_cases e : k = z.toNat
    · subst e
      rw [List.getElem?_set_self (by omega)]
      congr 1
      exact (decide_eq_true ((mem_take_succ hg _).2 (.inr (by omega)))).symm
    · rw [List.getElem?_set_ne (by omega), ht k hk]
      congr 1
      refine decide_eq_decide.2 ⟨fun h => (mem_take_succ hg _).2 (.inl h), fun h => ?_⟩
      rcases (mem_take_succ hg _).1 h with h | h
      · exact h
      · omega
  · obtain ⟨j, tk⟩ := s
    obtain ⟨rfl, _, _⟩ := hI
    unfold F_feeder_Check_L2
    dsimp only at *
    rw [bif_neg (by omega)]
theorem mem_take_get {l : List Int} {n : Nat} {z : Int} : z ∈ l.take n ↔ ∃ k, k < n ∧ l[k]? = some z := by
  constructor
  · intro h
    obtain ⟨k, hk⟩ := List.mem_iff_getElem?.1 h
    have : k < n := by
      have := (List.getElem?_eq_some_iff.1 hk).1
      simp at this
      omega
    exact ⟨k, this, by rwa [List.getElem?_take_of_lt this] at hk⟩
  · rintro ⟨k, h1, h2⟩
    refine List.mem_iff_getElem?.2 ⟨k, ?_⟩
    rwa [List.getElem?_take_of_lt h1]
theorem chk_eq (f : T_Feeder) : F_feeder_Check f = some (chk f) := by
  unfold F_feeder_Check chk
  rw [or_bif rfl, bind_some]
  by_cases h : 32 < (f.Switches.length : Int) ∨ 16 < (f.Zones.length : Int)
  · rw [bif_pos h, if_pos h]
  rw [bif_neg h, if_neg h, swL1 f (by omega), bind_some]
  cases h1 : fst1 swE 0 f.Switches with
  | some e => rfl
  | none =>
    show Option.bind _ _ = _
    rw [makI_ok (by omega) (by omega), bind_some, Int.toNat_natCast, zL2 f (by omega) (by omega), bind_some]
    cases h2 : fst1 (zonE f) 0 f.Zones with
    | some e => rfl
    | none =>
      show Option.bind _ _ = _
      rw [or_bif rfl, bind_some, bif_ite]
      dsimp only
      split <;> rfl
/-! ### right networks -/
structure SwOk (i : Int) (x : T_Switch) : Prop where
  a0 : -1 ≤ x.Above
  a1 : x.Above < i
  s0 : 0 ≤ x.Since
  s1 : x.Since ≤ 2147483648
  h0 : -1 ≤ x.Shown
  h1 : x.Shown ≤ 1
  la : x.Late = true → x.Closed = false ∧ x.Shown ≠ -1
def SwsOk (l : List T_Switch) : Prop := ∀ (k : Nat) (x : T_Switch), l[k]? = some x → SwOk k x
structure FOk (f : T_Feeder) : Prop where
  n : f.Switches.length ≤ 32
  m : f.Zones.length ≤ 16
  sw : SwsOk f.Switches
  z : ∀ z ∈ f.Zones, 0 ≤ z ∧ z < (f.Switches.length : Int)
  nd : f.Zones.Nodup
  r0 : 1 ≤ f.Reply
  r1 : f.Reply ≤ 100000
theorem swE_none {i : Int} {x : T_Switch} : swE i x = none ↔ SwOk i x := by
  unfold swE
  by_cases c1 : x.Above < -1 ∨ i ≤ x.Above
  · rw [if_pos c1]; exact ⟨fun h => (by cases h), fun h => by have := h.a0; have := h.a1; omega⟩
  rw [if_neg c1]
  by_cases c2 : x.Since < 0 ∨ 2147483648 < x.Since
  · rw [if_pos c2]; exact ⟨fun h => (by cases h), fun h => by have := h.s0; have := h.s1; omega⟩
  rw [if_neg c2]
  by_cases c3 : x.Shown < -1 ∨ 1 < x.Shown ∨ x.Late = true ∧ (x.Closed = true ∨ x.Shown = -1)
  · rw [if_pos c3]
    refine ⟨fun h => (by cases h), fun h => ?_⟩
    rcases c3 with c | c | ⟨c, d⟩
    · have := h.h0; omega
    · have := h.h1; omega
    · rcases d with d | d
      · rw [(h.la c).1] at d; cases d
      · exact absurd d (h.la c).2
  · rw [if_neg c3]
    refine ⟨fun _ => ⟨by omega, by omega, by omega, by omega, by omega, by omega, fun hl => ⟨?_, fun h => c3 (.inr (.inr ⟨hl, .inr h⟩))⟩⟩, fun _ => rfl⟩
    cases hc : x.Closed with
    | false => rfl
    | true => exact absurd (.inr (.inr ⟨hl, .inl hc⟩)) c3
theorem nodup_take {l : List Int} : l.Nodup ↔ ∀ (k : Nat) (z : Int), l[k]? = some z → z ∉ l.take k := by
  unfold List.Nodup
  rw [List.pairwise_iff_getElem]
  constructor
  · intro h k z hk hm
    obtain ⟨j, hj, hz⟩ := mem_take_get.1 hm
    obtain ⟨hk1, hk2⟩ := List.getElem?_eq_some_iff.1 hk
    obtain ⟨hz1, hz2⟩ := List.getElem?_eq_some_iff.1 hz
    exact h j k hz1 hk1 hj (hz2.trans hk2.symm)
  · intro h i j hi hj hij he
    exact h j _ (List.getElem?_eq_getElem hj) (mem_take_get.2 ⟨i, hij, by rw [List.getElem?_eq_getElem hi, he]⟩)
theorem chk_zero (f : T_Feeder) : chk f = 0 ↔ FOk f := by
  unfold chk
  by_cases h : 32 < (f.Switches.length : Int) ∨ 16 < (f.Zones.length : Int)
  · rw [if_pos h]
    exact ⟨fun h => (by cases h), fun g => by have := g.n; have := g.m; omega⟩
  rw [if_neg h]
  cases h1 : fst1 swE 0 f.Switches with
  | some e =>
    refine ⟨fun he => ?_, fun g => ?_⟩
    · dsimp only at he
      subst he
      exfalso
      have key : ∀ (t : List T_Switch) (i : Int), fst1 swE i t ≠ some 0 := by
        intro t
        induction t with
        | nil => intro i h; cases h
        | cons y t ih =>
          intro i h
          cases hy : swE i y with
          | none => rw [fst1_none hy] at h; exact ih _ h
          | some b =>
            rw [fst1_some hy] at h
            cases h
            unfold swE at hy
            split at hy
            · cases hy
            split at hy
            · cases hy
            split at hy
            · cases hy
            · cases hy
      exact key _ _ h1
    · rw [fst1_of_all f.Switches 0 (fun k x hx => swE_none.2 (by simpa using g.sw k x hx))] at h1
      cases h1
  | none =>
    have hsw : SwsOk f.Switches := fun k x hx => by simpa using swE_none.1 (fst1_all _ _ h1 k x hx)
    dsimp only
    cases h2 : fst1 (zonE f) 0 f.Zones with
    | some e =>
      refine ⟨fun he => ?_, fun g => ?_⟩
      · dsimp only at he
        subst he
        exfalso
        have key : ∀ (t : List Int) (i : Int), fst1 (zonE f) i t ≠ some 0 := by
          intro t
          induction t with
          | nil => intro i h; cases h
          | cons y t ih =>
            intro i h
            cases hy : zonE f i y with
            | none => rw [fst1_none hy] at h; exact ih _ h
            | some b =>
              rw [fst1_some hy] at h
              cases h
              unfold zonE at hy
              split at hy
              · cases hy
              split at hy
              · cases hy
              · cases hy
        exact key _ _ h2
      · rw [fst1_of_all f.Zones 0 (fun k z hz => ?_)] at h2
        · cases h2
        · have hm := g.z z (List.mem_of_getElem? hz)
          unfold zonE
          rw [if_neg (by omega), if_neg]
          simpa using nodup_take.1 g.nd k z hz
    | none =>
      have hzz : ∀ (k : Nat) (z : Int), f.Zones[k]? = some z → (0 ≤ z ∧ z < (f.Switches.length : Int)) ∧ z ∉ f.Zones.take k := fun k z hz => by
        have := fst1_all _ _ h2 k z hz
        unfold zonE at this
        by_cases c1 : z < 0 ∨ (f.Switches.length : Int) ≤ z
        · rw [if_pos c1] at this; cases this
        rw [if_neg c1] at this
        by_cases c2 : z ∈ f.Zones.take (0 + (k : Int)).toNat
        · rw [if_pos c2] at this; cases this
        exact ⟨by omega, by simpa using c2⟩
      dsimp only
      by_cases h3 : f.Reply < 1 ∨ 100000 < f.Reply
      · rw [if_pos h3]; exact ⟨fun h => (by cases h), fun g => by have := g.r0; have := g.r1; omega⟩
      · rw [if_neg h3]
        refine ⟨fun _ => ⟨by omega, by omega, hsw, fun z hz => ?_, nodup_take.2 fun k z hz => (hzz k z hz).2, by omega, by omega⟩, fun _ => rfl⟩
        obtain ⟨k, hk⟩ := List.mem_iff_getElem?.1 hz
        exact (hzz k z hk).1

theorem pigeon : ∀ (n : Nat) (l : List Int), (∀ j : Nat, j < n → (j : Int) ∈ l) → n ≤ l.length
  | 0, _, _ => Nat.zero_le _
  | n + 1, l, h => by
    have h1 := h n (Nat.lt_succ_self n)
    have h2 := pigeon n (l.erase (n : Int)) fun j hj => (List.mem_erase_of_ne (by omega)).2 (h j (by omega))
    rw [List.length_erase_of_mem h1] at h2
    have := List.length_pos_of_mem h1
    omega
def New (l : List T_Switch) : Prop := SwsOk l ∧ ∀ x ∈ l, x.Since = 0 ∧ x.Late = false
theorem swsOk_push {l : List T_Switch} {x : T_Switch} (h : SwsOk l) (hx : SwOk l.length x) : SwsOk (l ++ [x]) := by
  intro k y hk
  by_cases c : k < l.length
  · rw [List.getElem?_append_left c] at hk; exact h k y hk
  · have hlt := (List.getElem?_eq_some_iff.1 hk).1
    simp at hlt
    have : k = l.length := by omega
    subst this
    simp at hk
    subst hk
    exact hx
theorem new_push {l : List T_Switch} {x : T_Switch} (h : New l) (hx : SwOk l.length x) (h0 : x.Since = 0) (h1 : x.Late = false) : New (l ++ [x]) := by
  refine ⟨swsOk_push h.1 hx, fun y hy => ?_⟩
  rcases List.mem_append.1 hy with hy | hy
  · exact h.2 y hy
  · simp at hy; subst hy; exact ⟨h0, h1⟩
theorem truth_ok (c : T_draw_Codes) (hc : CodesOk c) : Ok (F_draw_Codes_Truth c) fun r => CodesOk r.1 ∧ -1 ≤ r.2 ∧ r.2 ≤ 1 := by
  unfold F_draw_Codes_Truth
  refine ok_bind (next_lt c 3 hc (by decide)) fun x hx => ok_some ⟨hx.1, ?_, ?_⟩
  · dsimp only; rw [w64 (by omega) (by omega)]; omega
  · dsimp only; rw [w64 (by omega) (by omega)]; omega
theorem fdL1 (z : Int) (x3 : T_draw_Codes × Int) (hx : CodesOk x3.1) (h0 : 0 ≤ z + x3.2) (h1 : z + x3.2 ≤ 30) : Ok (loopC (F_draw_Codes_Feeder_L1 z x3) (0, [], x3.1)) fun r => CodesOk r.2 ∧ New r.1 ∧ (r.1.length : Int) = max (z + x3.2) 1 := by
  refine ok_loop (fun s : Int × List T_Switch × T_draw_Codes => 0 ≤ s.1 ∧ s.1 ≤ max (z + x3.2) 1 ∧ (s.2.1.length : Int) = s.1 ∧ New s.2.1 ∧ CodesOk s.2.2) (fun s => (max (z + x3.2) 1 - s.1).toNat) _ (fun s hs => ?_) _ ⟨Int.le_refl 0, by dsimp only; omega, rfl, ⟨(fun k x h => by simp at h), (fun x h => by cases h)⟩, hx⟩
  obtain ⟨i, l, c⟩ := s
  obtain ⟨i0, i1, hl, hn, hc⟩ := hs
  dsimp only at i0 i1 hl hn hc
  unfold F_draw_Codes_Feeder_L1
  dsimp only
  rw [w64 (n := z + x3.2) (by omega) (by omega)]
  refine ok_dec (fun hlt => ?_) (fun hge => ok_some ⟨hc, hn, by show (l.length : Int) = _; omega⟩)
  rw [w64 (n := i + 1) (by omega) (by omega)]
  refine ok_bind (next_lt c _ hc (by omega)) fun a ha => ?_
  refine ok_bind (one_ok a.1 2 ha.1 (by decide)) fun b hb => ?_
  refine ok_bind (truth_ok b.1 hb) fun t ht => ?_
  rw [w64 (n := a.2 - 1) (by omega) (by omega), appI_ok (by simp; omega), bind_some]
  refine ok_some ⟨⟨by dsimp only; omega, by dsimp only; omega, by simp; omega, new_push hn ⟨by dsimp only; omega, by dsimp only; omega, Int.le_refl 0, (by show (0 : Int) ≤ 2147483648; decide), ht.2.1, ht.2.2, (fun h => by cases h)⟩ rfl rfl, ht.1⟩, by dsimp only; omega⟩
structure Tk (n : Nat) (free : List Bool) (zs : List Int) : Prop where
  l : free.length = n
  f : ∀ k : Nat, k < n → free[k]? = some (decide ((k : Int) ∈ zs))
  r : ∀ z ∈ zs, 0 ≤ z ∧ z < (n : Int)
  nd : zs.Nodup
theorem fdL3 (s : Int × T_Feeder × List Bool × T_draw_Codes) (n : Nat) (hn : n ≤ 100) (hT : Tk n s.2.2.1 s.2.1.Zones) (hlt : s.2.1.Zones.length < n) (k : Int) (h0 : 0 ≤ k) (h1 : k < n) :
    Ok (loopC (F_draw_Codes_Feeder_L3 s) (k, s.2.1)) fun r => r.2 = s.2.1 ∧ 0 ≤ r.1 ∧ r.1 < n ∧ r.1 ∉ s.2.1.Zones := by
  have ⟨j, hj, hz⟩ : ∃ j : Nat, j < n ∧ (j : Int) ∉ s.2.1.Zones := by
    apply Classical.byContradiction
    intro hh
    have := pigeon n s.2.1.Zones fun j hj => Classical.byContradiction fun h => hh ⟨j, hj, h⟩
    omega
  refine ok_loop (fun a : Int × T_Feeder => 0 ≤ a.1 ∧ a.1 < n ∧ a.2 = s.2.1) (fun a => (if a.1 ≤ j then j - a.1 else j + n - a.1).toNat) _ (fun a ha => ?_) _ ⟨h0, h1, rfl⟩
  obtain ⟨k, f⟩ := a
  obtain ⟨k0, k1, hf⟩ := ha
  dsimp only at k0 k1 hf
  unfold F_draw_Codes_Feeder_L3
  dsimp only
  have hg := hT.f k.toNat (by omega)
  rw [show ((k.toNat : Nat) : Int) = k by omega] at hg
  rw [getI_of k0 hg, bind_some, hT.l]
  refine ok_dec (fun hm => ?_) (fun hm => ok_some ⟨hf, k0, k1, hm⟩)
  have hkj : k ≠ j := fun e => hz (e ▸ hm)
  rw [w64 (n := k + 1) (by omega) (by omega), remI_ok (by omega), bind_some]
  refine ok_some ?_
  have hm : (k + 1).tmod n = if k + 1 = n then 0 else k + 1 := by
    split
    · rename_i e; rw [e, Int.tmod_self]
    · exact Int.tmod_eq_of_lt (by omega) (by omega)
  rw [hm]
  refine ⟨⟨?_, ?_, hf⟩, ?_⟩
  · dsimp only; split <;> omega
  · dsimp only; split <;> omega
  · dsimp only
    split
    · rw [if_pos (by omega), if_neg (by omega)]; omega
    · by_cases c : k ≤ j
      · rw [if_pos (by omega), if_pos c]; omega
      · rw [if_neg (by omega), if_neg c]; omega
theorem fdL2 (z : Int) (hz : 0 ≤ z) (f : T_Feeder) (hf : f.Zones = []) (hl0 : 1 ≤ f.Switches.length) (hl : f.Switches.length ≤ 100) (hzl : z ≤ (f.Switches.length : Int)) (c : T_draw_Codes) (hc : CodesOk c) :
    Ok (loopC (F_draw_Codes_Feeder_L2 z) (0, f, List.replicate f.Switches.length false, c)) fun r => CodesOk r.2 ∧ r.1.Switches = f.Switches ∧ r.1.Reply = f.Reply ∧ (r.1.Zones.length : Int) = z ∧ r.1.Zones.Nodup ∧ ∀ z ∈ r.1.Zones, 0 ≤ z ∧ z < (f.Switches.length : Int) := by
  refine ok_loop (fun s : Int × T_Feeder × List Bool × T_draw_Codes => 0 ≤ s.1 ∧ s.1 ≤ z ∧ (s.2.1.Zones.length : Int) = s.1 ∧ Tk f.Switches.length s.2.2.1 s.2.1.Zones ∧ CodesOk s.2.2.2 ∧ s.2.1.Switches = f.Switches ∧ s.2.1.Reply = f.Reply) (fun s => (z - s.1).toNat) _ (fun s hs => ?_) _ ⟨Int.le_refl 0, hz, by show (f.Zones.length : Int) = 0; rw [hf]; rfl, ?_, hc, rfl, rfl⟩
  · obtain ⟨i, g, fr, cc⟩ := s
    obtain ⟨i0, i1, hzn, hT, hcc, hgs, hgr⟩ := hs
    dsimp only at i0 i1 hzn hT hcc hgs hgr
    unfold F_draw_Codes_Feeder_L2
    dsimp only
    refine ok_dec (fun hlt => ?_) (fun hge => ok_some ⟨hcc, hgs, hgr, by show (g.Zones.length : Int) = _; omega, hT.nd, hT.r⟩)
    rw [hgs]
    refine ok_bind (next_lt cc _ hcc (by omega)) fun a ha => ?_
    refine ok_bind (fdL3 (i, g, fr, cc) f.Switches.length hl hT (by dsimp only; omega) a.2 ha.2.1 ha.2.2) fun b hb => ?_
    obtain ⟨b1, b2, b3, b4⟩ := hb
    dsimp only at b1 b4
    have hg := hT.f b.1.toNat (by omega)
    rw [getI_of b2 hg, bind_some, b1, appI_ok (by simp; omega), bind_some, w64 (n := i + 1) (by omega) (by omega)]
    refine ok_some ⟨⟨by dsimp only; omega, by dsimp only; omega, by simp; omega, ⟨by simpa using hT.l, fun k hk => ?_, fun x hx => ?_, ?_⟩, ha.1, hgs, hgr⟩, by dsimp only; omega⟩
    · dsimp only
      by_cases e : k = b.1.toNat
      · subst e
        rw [List.getElem?_set_self (by rw [hT.l]; exact hk)]
        congr 1
        refine (decide_eq_true (List.mem_append.2 (.inr ?_))).symm
        simp; omega
      · rw [List.getElem?_set_ne (by omega), hT.f k hk]
        congr 1
        refine decide_eq_decide.2 ⟨fun h => List.mem_append.2 (.inl h), fun h => ?_⟩
        rcases List.mem_append.1 h with h | h
        · exact h
        · simp at h; omega
    · rcases List.mem_append.1 hx with h | h
      · exact hT.r x h
      · simp at h; omega
    · dsimp only
      refine List.nodup_append.2 ⟨hT.nd, by simp, fun x hx y hy e => ?_⟩
      simp at hy
      subst hy
      subst e
      exact b4 hx
  · rw [hf]
    exact ⟨by simp, fun k hk => by simp [hk], (fun z h => by cases h), by simp⟩
structure Drawn (z : Int) (f : T_Feeder) : Prop where
  ok : FOk f
  l : 1 ≤ f.Switches.length
  z : (f.Zones.length : Int) = z
  new : New f.Switches
theorem feeder_ok (c : T_draw_Codes) (z : Int) (hc : CodesOk c) (h0 : 0 ≤ z) (h1 : z ≤ 16) : Ok (F_draw_Codes_Feeder c z) fun r => CodesOk r.1 ∧ Drawn z r.2 := by
  unfold F_draw_Codes_Feeder
  refine ok_bind (range_ok c 1 9 hc (by decide) (by decide) (by decide)) fun a ha => ?_
  refine ok_bind (next_lt a.1 3 ha.1 (by decide)) fun b hb => ?_
  refine ok_bind (fdL1 z b hb.1 (by omega) (by omega)) fun o ho => ?_
  obtain ⟨o1, o2, o3⟩ := ho
  rw [makI_ok (by omega) (by omega), bind_some, Int.toNat_natCast]
  refine ok_bind (fdL2 z h0 ⟨o.1, [], a.2⟩ rfl (by dsimp only; omega) (by dsimp only; omega) (by dsimp only; omega) o.2 o1) fun r hr => ok_some ⟨hr.1, ?_⟩
  obtain ⟨r1, r2, r3, r4, r5, r6⟩ := hr
  dsimp only at r2 r3 r6
  refine ⟨⟨?_, ?_, ?_, ?_, r5, ?_, ?_⟩, ?_, r4, ?_⟩
  · dsimp only; rw [r2]; omega
  · dsimp only; omega
  · dsimp only; rw [r2]; exact o2.1
  · dsimp only; rw [r2]; exact r6
  · dsimp only; rw [r3]; omega
  · dsimp only; rw [r3]; omega
  · dsimp only; rw [r2]; omega
  · dsimp only; rw [r2]; exact o2

def noF : T_Feeder := ⟨[], [], 0⟩
/-! ### time, and what an order may be -/
def Timely (f : T_Feeder) (t : Int) : Prop := 0 ≤ t ∧ t ≤ 2147483648 ∧ ∀ x ∈ f.Switches, x.Since ≤ t
instance (f : T_Feeder) (t : Int) : Decidable (Timely f t) := by unfold Timely; infer_instance
theorem timL1 (f : T_Feeder) (t : Int) (hl : f.Switches.length ≤ 1000) : loopC (F_feeder_timely_L1 f t) 0 = some (fout (Sum.inr ()) Sum.inl (fst1 (fun _ (x : T_Switch) => if t < x.Since then some () else none) 0 f.Switches)) := by
  refine loop_chk f.Switches (fun _ (x : T_Switch) => if t < x.Since then some () else none) (fun i (s : Int) => s = i) (Sum.inr ()) Sum.inl (fun i x s hg h0 h1 hI => ?_) (fun s hI => ?_) 0 rfl
  · subst hI
    unfold F_feeder_timely_L1
    rw [bif_pos h1, hg, bind_some]
    by_cases c : t < x.Since
    · rw [bif_pos c, if_pos c]; exact .inr ⟨_, rfl, rfl⟩
    · rw [bif_neg c, if_neg c]; exact .inl ⟨_, rfl, rfl, w64 (by omega) (by omega)⟩
  · subst hI
    unfold F_feeder_timely_L1
    rw [bif_neg (by omega)]
theorem timely_eq (f : T_Feeder) (t : Int) (hl : f.Switches.length ≤ 1000) : F_feeder_timely f t = some (decide (Timely f t)) := by
  unfold F_feeder_timely
  rw [or_bif rfl, bind_some]
  by_cases c : t < 0 ∨ 2147483648 < t
  · rw [bif_pos c, decide_eq_false (fun h => by have := h.1; have := h.2.1; omega)]
  rw [bif_neg c, timL1 f t hl, bind_some]
  cases h : fst1 (fun _ (x : T_Switch) => if t < x.Since then some () else none) 0 f.Switches with
  | some u =>
    show some false = _
    rw [decide_eq_false]
    intro hh
    rw [fst1_of_all] at h
    · cases h
    · intro k x hx
      exact if_neg (by have := hh.2.2 x (List.mem_of_getElem? hx); omega)
  | none =>
    show some true = _
    rw [decide_eq_true]
    refine ⟨by omega, by omega, fun x hx => ?_⟩
    obtain ⟨k, hk⟩ := List.mem_iff_getElem?.1 hx
    have := fst1_all _ _ h k x hk
    by_cases c : t < x.Since
    · simp [c] at this
    · omega
def canE (f : T_Feeder) (s t : Int) : Int := if chk f ≠ 0 then chk f else if s < 0 ∨ (f.Switches.length : Int) ≤ s then 16 else if Timely f t then 0 else 8
theorem can_eq (f : T_Feeder) (s t : Int) : F_feeder_can f s t = some (canE f s t) := by
  unfold F_feeder_can canE
  rw [chk_eq, bind_some]
  by_cases c : chk f ≠ 0
  · rw [bif_pos c, if_pos c]
  rw [bif_neg c, if_neg c, or_bif rfl, bind_some]
  have hf := (chk_zero f).1 (Classical.not_not.1 c)
  by_cases c1 : s < 0 ∨ (f.Switches.length : Int) ≤ s
  · rw [bif_pos c1, if_pos c1]
  rw [bif_neg c1, if_neg c1, timely_eq f t (by have := hf.n; omega), bind_some]
  by_cases c2 : Timely f t
  · rw [if_pos c2, decide_eq_true c2]; rfl
  · rw [if_neg c2, decide_eq_false c2]; rfl
theorem canE_zero {f : T_Feeder} {s t : Int} (h : canE f s t = 0) : FOk f ∧ 0 ≤ s ∧ s < (f.Switches.length : Int) ∧ Timely f t := by
  unfold canE at h
  by_cases c : chk f ≠ 0
  · rw [if_pos c] at h; exact absurd h c
  rw [if_neg c] at h
  by_cases c1 : s < 0 ∨ (f.Switches.length : Int) ≤ s
  · rw [if_pos c1] at h; cases h
  rw [if_neg c1] at h
  by_cases c2 : Timely f t
  · exact ⟨(chk_zero f).1 (Classical.not_not.1 c), by omega, by omega, c2⟩
  · rw [if_neg c2] at h; cases h
theorem canE_ok {f : T_Feeder} {s t : Int} (hf : FOk f) (h0 : 0 ≤ s) (h1 : s < (f.Switches.length : Int)) (ht : Timely f t) : canE f s t = 0 := by
  unfold canE
  rw [if_neg (Classical.not_not.2 ((chk_zero f).2 hf)), if_neg (by omega), if_pos ht]
theorem clone_eq (f : T_Feeder) (hf : FOk f) : F_feeder_clone f = some f := by
  unfold F_feeder_clone
  have h1 := hf.n
  have h2 := hf.m
  rw [appI_ok (by simp; omega), bind_some, appI_ok (by simp; omega), bind_some]
  rfl
/-! ### one switch changed -/
def md (l : List T_Switch) (k : Nat) (g : T_Switch → T_Switch) : List T_Switch :=
  match l[k]? with
  | some x => l.set k (g x)
  | none => l
theorem md_some {l : List T_Switch} {k : Nat} {g : T_Switch → T_Switch} {x : T_Switch} (h : l[k]? = some x) : md l k g = l.set k (g x) := by unfold md; rw [h]
theorem md_len {l : List T_Switch} {k : Nat} {g : T_Switch → T_Switch} : (md l k g).length = l.length := by
  unfold md
  cases l[k]? <;> simp
theorem md_get {l : List T_Switch} {k : Nat} {g : T_Switch → T_Switch} {j : Nat} {y : T_Switch} (h : (md l k g)[j]? = some y) : ∃ x, l[j]? = some x ∧ (j = k ∧ y = g x ∨ j ≠ k ∧ y = x) := by
  unfold md at h
  cases hk : l[k]? with
  | none =>
    rw [hk] at h
    refine ⟨y, h, .inr ⟨fun e => ?_, rfl⟩⟩
    subst e
    dsimp only at h
    rw [hk] at h
    cases h
  | some x =>
    rw [hk] at h
    dsimp only at h
    by_cases e : j = k
    · subst e
      have := (List.getElem?_eq_some_iff.1 hk).1
      rw [List.getElem?_set_self this] at h
      exact ⟨x, hk, .inl ⟨rfl, (Option.some.inj h).symm⟩⟩
    · rw [List.getElem?_set_ne (fun h => e h.symm)] at h
      exact ⟨y, h, .inr ⟨e, rfl⟩⟩
theorem md_self {l : List T_Switch} {k : Nat} {g : T_Switch → T_Switch} {x : T_Switch} (h : l[k]? = some x) : (md l k g)[k]? = some (g x) := by
  rw [md_some h, List.getElem?_set_self (List.getElem?_eq_some_iff.1 h).1]
theorem md_ne {l : List T_Switch} {k j : Nat} {g : T_Switch → T_Switch} (h : j ≠ k) : (md l k g)[j]? = l[j]? := by
  unfold md
  cases l[k]? with
  | none => rfl
  | some x => exact List.getElem?_set_ne (fun e => h e.symm)
theorem swsOk_md {l : List T_Switch} {k : Nat} {g : T_Switch → T_Switch} (h : SwsOk l) (hg : ∀ x, l[k]? = some x → SwOk k (g x)) : SwsOk (md l k g) := by
  intro j y hj
  obtain ⟨x, hx, ⟨rfl, rfl⟩ | ⟨_, rfl⟩⟩ := md_get hj
  · exact hg x hx
  · exact h j y hx
def told (t : Int) (x : T_Switch) : T_Switch := ⟨x.Above, t, 0, false, false⟩
def opn (t : Int) (x : T_Switch) : T_Switch := if x.Closed = true then told t x else x
def cls (t : Int) (x : T_Switch) : T_Switch := ⟨x.Above, t, 0, true, false⟩
def ans (v : Int) (x : T_Switch) : T_Switch := ⟨x.Above, x.Since, v, x.Closed, x.Late && decide (v ≠ -1)⟩
def lat (x : T_Switch) : T_Switch := ⟨x.Above, x.Since, x.Shown, x.Closed, true⟩
def shw (l : List T_Switch) (k : Int) : Int := ((l[k.toNat]?).map (·.Shown)).getD 0
theorem shw_get {l : List T_Switch} {k : Int} {x : T_Switch} (h : l[k.toNat]? = some x) : shw l k = x.Shown := by unfold shw; rw [h]; rfl
theorem told_ok {i : Int} {t : Int} {x : T_Switch} (h : SwOk i x) (h0 : 0 ≤ t) (h1 : t ≤ 2147483648) : SwOk i (told t x) := ⟨h.a0, h.a1, h0, h1, (by show (-1 : Int) ≤ 0; decide), (by show (0 : Int) ≤ 1; decide), fun h => by cases h⟩
theorem opn_ok {i : Int} {t : Int} {x : T_Switch} (h : SwOk i x) (h0 : 0 ≤ t) (h1 : t ≤ 2147483648) : SwOk i (opn t x) := by
  unfold opn
  split
  · exact told_ok h h0 h1
  · exact h
theorem setF {f : T_Feeder} {l : List T_Switch} (hf : FOk f) (hl : l.length = f.Switches.length) (h : SwsOk l) : FOk ⟨l, f.Zones, f.Reply⟩ :=
  ⟨by show l.length ≤ 32; rw [hl]; exact hf.n, hf.m, h, by show ∀ z ∈ f.Zones, 0 ≤ z ∧ z < (l.length : Int); rw [hl]; exact hf.z, hf.nd, hf.r0, hf.r1⟩

/-! ### Open -/
def openF (f : T_Feeder) (s t : Int) : T_Feeder × Int := if canE f s t ≠ 0 then (noF, canE f s t) else (⟨md f.Switches s.toNat (opn t), f.Zones, f.Reply⟩, 0)
theorem set_same {l : List T_Switch} {k : Nat} {x : T_Switch} (h : l[k]? = some x) : l.set k x = l := by
  obtain ⟨h1, h2⟩ := List.getElem?_eq_some_iff.1 h
  subst h2
  exact List.set_getElem_self h1
theorem opn_in (f : T_Feeder) (s t : Int) (x : T_Switch) (hg : getI f.Switches s = some x) : F_feeder_open f s t = some (md f.Switches s.toNat (opn t), x.Closed) := by
  unfold F_feeder_open
  rw [hg, bind_some, md_some (getI_get hg)]
  unfold opn told
  cases h : x.Closed with
  | false =>
    show some _ = some (f.Switches.set s.toNat (if false = true then _ else x), false)
    rw [if_neg (by decide), set_same (getI_get hg)]
  | true =>
    show some _ = some (f.Switches.set s.toNat (if true = true then _ else x), true)
    rw [if_pos rfl]
    simp only [List.set_set]
theorem open_eq (f : T_Feeder) (s t : Int) : F_feeder_Open f s t = some (openF f s t) := by
  unfold F_feeder_Open openF
  rw [can_eq, bind_some]
  by_cases c : canE f s t ≠ 0
  · rw [bif_pos c, if_pos c]; rfl
  rw [bif_neg c, if_neg c]
  obtain ⟨hf, h0, h1, ht⟩ := canE_zero (Classical.not_not.1 c)
  rw [clone_eq f hf, bind_some, opn_in f s t _ (getI_ok h0 h1), bind_some]
/-! ### Close -/
def mayNot (f : T_Feeder) (s : Int) : Prop := shw f.Switches s ≠ -1 ∨ ∃ x, f.Switches[s.toNat]? = some x ∧ 0 ≤ x.Above ∧ shw f.Switches x.Above ≠ 1
def closeF (f : T_Feeder) (s t : Int) : T_Feeder × Int :=
  if canE f s t ≠ 0 then (noF, canE f s t) else
    match f.Switches[s.toNat]? with
    | none => (noF, 0)
    | some x => if x.Shown ≠ -1 ∨ 0 ≤ x.Above ∧ shw f.Switches x.Above ≠ 1 then (noF, 10) else (⟨md f.Switches s.toNat (cls t), f.Zones, f.Reply⟩, 0)
/-! ### Answer -/
def ansF (f : T_Feeder) (s v : Int) : T_Feeder × Int :=
  if chk f ≠ 0 then (noF, chk f) else if s < 0 ∨ (f.Switches.length : Int) ≤ s then (noF, 16) else if v ≠ 1 ∧ v ≠ -1 then (noF, 10) else (⟨md f.Switches s.toNat (ans v), f.Zones, f.Reply⟩, 0)
/-! ### Tick -/
abbrev TS := List Int × List Int × List T_Switch
def Idle (r t : Int) (x : T_Switch) : Prop := x.Closed = true ∨ x.Shown = -1 ∨ x.Late = true ∨ t - x.Since < r
instance (r t : Int) (x : T_Switch) : Decidable (Idle r t x) := by unfold Idle; infer_instance
def tkO (t : Int) (i : Nat) (s : TS) (a : Int) (l1 : List T_Switch) : Option T_Switch → TS
  | some y => if y.Closed = true then (s.1 ++ [(i : Int)], s.2.1 ++ [a], l1.set a.toNat (told t y)) else (s.1 ++ [(i : Int)], s.2.1, l1)
  | none => (s.1 ++ [(i : Int)], s.2.1, l1)
def tkS (r t : Int) (i : Nat) (s : TS) : TS :=
  match s.2.2[i]? with
  | none => s
  | some x => if Idle r t x then s else tkO t i s x.Above (s.2.2.set i (lat x)) (if 0 ≤ x.Above then s.2.2[x.Above.toNat]? else none)
def tkR (r t : Int) : Nat → TS → TS
  | 0, s => s
  | i + 1, s => tkR r t i (tkS r t i s)
structure TI (n : Nat) (t : Int) (k : Nat) (s : TS) : Prop where
  ln : s.2.2.length = n
  sw : SwsOk s.2.2
  tm : ∀ x ∈ s.2.2, x.Since ≤ t
  l : s.1.length + k ≤ n
  o : s.2.1.length + k ≤ n
theorem idle_false {r t : Int} {x : T_Switch} (h : ¬ Idle r t x) : x.Closed = false ∧ x.Shown ≠ -1 ∧ x.Late = false ∧ r ≤ t - x.Since := by
  unfold Idle at h
  refine ⟨?_, fun e => h (.inr (.inl e)), ?_, by omega⟩
  · cases hc : x.Closed with
    | false => rfl
    | true => exact absurd (.inl hc) h
  · cases hc : x.Late with
    | false => rfl
    | true => exact absurd (.inr (.inr (.inl hc))) h
theorem tkS_inv {r t : Int} {n i : Nat} {s : TS} (h : TI n t (i + 1) s) (h0 : 0 ≤ t) (h1 : t ≤ 2147483648) : TI n t i (tkS r t i s) := by
  have hl := h.l
  have ho := h.o
  unfold tkS
  cases hx : s.2.2[i]? with
  | none => exact ⟨h.ln, h.sw, h.tm, by show s.1.length + i ≤ n; omega, by show s.2.1.length + i ≤ n; omega⟩
  | some x =>
    dsimp only
    by_cases c : Idle r t x
    · rw [if_pos c]; exact ⟨h.ln, h.sw, h.tm, by omega, by omega⟩
    rw [if_neg c]
    have hc := idle_false c
    have hok := h.sw i x hx
    have e1 : s.2.2.set i (lat x) = md s.2.2 i lat := (md_some hx).symm
    have w1 : SwsOk (md s.2.2 i lat) := swsOk_md h.sw fun y hy => by
      rw [hx] at hy
      cases hy
      exact ⟨hok.a0, hok.a1, hok.s0, hok.s1, hok.h0, hok.h1, fun _ => ⟨hc.1, hc.2.1⟩⟩
    have t1 : ∀ y ∈ md s.2.2 i lat, y.Since ≤ t := fun y hy => by
      obtain ⟨j, hj⟩ := List.mem_iff_getElem?.1 hy
      obtain ⟨z, hz, ⟨_, rfl⟩ | ⟨_, rfl⟩⟩ := md_get hj
      · exact h.tm z (List.mem_of_getElem? hz)
      · exact h.tm _ (List.mem_of_getElem? hz)
    rw [e1]
    unfold tkO
    cases hy : (if 0 ≤ x.Above then s.2.2[x.Above.toNat]? else none) with
    | none => exact ⟨md_len.trans h.ln, w1, t1, by simp; omega, by dsimp only; omega⟩
    | some y =>
      dsimp only
      by_cases cy : y.Closed = true
      · rw [if_pos cy]
        by_cases ha : 0 ≤ x.Above
        · rw [if_pos ha] at hy
          have hne : x.Above.toNat ≠ i := by have := hok.a1; omega
          have hy2 : (md s.2.2 i lat)[x.Above.toNat]? = some y := (md_ne hne).trans hy
          rw [show (md s.2.2 i lat).set x.Above.toNat (told t y) = md (md s.2.2 i lat) x.Above.toNat (told t) from (md_some hy2).symm]
          refine ⟨md_len.trans (md_len.trans h.ln), swsOk_md w1 fun z hz => ?_, fun z hz => ?_, by simp; omega, by simp; omega⟩
          · exact told_ok (w1 _ z hz) h0 h1
          · obtain ⟨j, hj⟩ := List.mem_iff_getElem?.1 hz
            obtain ⟨u, hu, ⟨_, rfl⟩ | ⟨_, rfl⟩⟩ := md_get hj
            · exact Int.le_refl t
            · exact t1 _ (List.mem_of_getElem? hu)
        · rw [if_neg ha] at hy; cases hy
      · rw [if_neg cy]
        exact ⟨md_len.trans h.ln, w1, t1, by simp; omega, by dsimp only; omega⟩
theorem tkR_inv {r t : Int} {n : Nat} (h0 : 0 ≤ t) (h1 : t ≤ 2147483648) : ∀ (k : Nat) (s : TS), TI n t k s → TI n t 0 (tkR r t k s)
  | 0, _, h => h
  | k + 1, s, h => tkR_inv h0 h1 k (tkS r t k s) (tkS_inv h h0 h1)
theorem loop_tick {r t : Int} {n : Nat} {F : Int × TS → Option ((Int × TS) ⊕ TS)} (hn : n ≤ 1000) (h0 : 0 ≤ t) (h1 : t ≤ 2147483648)
    (hs : ∀ (i : Nat) (s : TS), i < n → TI n t (i + 1) s → F ((i : Int), s) = some (.inl ((i : Int) - 1, tkS r t i s)))
    (he : ∀ (s : TS), F (-1, s) = some (.inr s)) : ∀ (k : Nat) (s : TS), k ≤ n → TI n t k s → loopC F ((k : Int) - 1, s) = some (tkR r t k s)
  | 0, s, _, _ => loopC_inr (he s)
  | k + 1, s, hk, h => by
    have := hs k s (by omega) h
    rw [show ((k + 1 : Nat) : Int) - 1 = (k : Int) by omega, loopC_inl this]
    exact loop_tick hn h0 h1 hs he k _ (by omega) (tkS_inv h h0 h1)
theorem idle_eq (r t : Int) (x : T_Switch) (hw : IntKind.i64.wrap (t - x.Since) = t - x.Since) : ((F_feeder_waits x).bind fun b => bif (!b) then some true else some (decide (IntKind.i64.wrap (t - x.Since) < r))) = some (decide (Idle r t x)) := by
  rw [hw]
  unfold F_feeder_waits Idle
  obtain ⟨a, sn, sh, cl, la⟩ := x
  cases cl <;> cases la <;> by_cases hs : sh = -1 <;> simp [hs]
theorem tick_step (f g : T_Feeder) (t : Int) (n : Nat) (hn : n ≤ 1000) (h0 : 0 ≤ t) (h1 : t ≤ 2147483648) (i : Nat) (s : TS) (hi : i < n) (h : TI n t (i + 1) s) : F_feeder_Tick_L1 f t g ((i : Int), s) = some (.inl ((i : Int) - 1, tkS f.Reply t i s)) := by
  obtain ⟨x, hx⟩ : ∃ x, s.2.2[i]? = some x := ⟨_, List.getElem?_eq_getElem (by rw [h.ln]; exact hi)⟩
  have hok := h.sw i x hx
  have hl := h.l
  have ho := h.o
  have hs := hok.s0
  have ht := h.tm x (List.mem_of_getElem? hx)
  unfold F_feeder_Tick_L1 tkS
  dsimp only
  rw [bif_pos (by omega), w64 (n := (i : Int) - 1) (by omega) (by omega), getI_nat, Int.toNat_natCast, hx, bind_some, idle_eq f.Reply t x (w64 (by omega) (by omega)), bind_some]
  dsimp only
  by_cases c : Idle f.Reply t x
  · rw [bif_pos c, if_pos c, bind_some]
  rw [bif_neg c, if_neg c, bind_some, appI_ok (by simp; omega), bind_some]
  show Option.bind (Option.bind (bif decide (0 ≤ x.Above) then Option.bind (F_feeder_open ⟨s.2.2.set i (lat x), g.Zones, g.Reply⟩ x.Above t) _ else some (false, s.2.2.set i (lat x))) _) _ = _
  have hlen : i < s.2.2.length := by rw [h.ln]; exact hi
  by_cases ha : 0 ≤ x.Above
  · have ha1 := hok.a1
    have hne : i ≠ x.Above.toNat := by omega
    obtain ⟨y, hy⟩ : ∃ y, s.2.2[x.Above.toNat]? = some y := ⟨_, List.getElem?_eq_getElem (by omega)⟩
    have hy2 : (s.2.2.set i (lat x))[x.Above.toNat]? = some y := by rw [List.getElem?_set_ne hne, hy]
    rw [bif_pos ha, if_pos ha, opn_in _ _ _ y (getI_of ha hy2), bind_some, hy]
    unfold tkO
    dsimp only
    rw [md_some hy2]
    cases cy : y.Closed with
    | true =>
      rw [if_pos rfl, bind_some]
      have hz : ((s.2.2.set i (lat x)).set x.Above.toNat (opn t y))[i]? = some (lat x) := by rw [List.getElem?_set_ne (fun e => hne e.symm), List.getElem?_set_self hlen]
      dsimp only
      rw [cond_true, hz, bind_some, appI_ok (by simp; omega), bind_some, bind_some]
      unfold opn
      rw [if_pos cy]
      rfl
    | false =>
      rw [if_neg (by decide), bind_some]
      unfold opn
      rw [if_neg (by rw [cy]; decide), set_same hy2]
      rfl
  · rw [bif_neg ha, if_neg ha]
    rfl
def tickF (f : T_Feeder) (t : Int) : T_Feeder × List Int × List Int × Int :=
  if chk f ≠ 0 then (noF, [], [], chk f) else if Timely f t then
    (⟨(tkR f.Reply t f.Switches.length ([], [], f.Switches)).2.2, f.Zones, f.Reply⟩, (tkR f.Reply t f.Switches.length ([], [], f.Switches)).1, (tkR f.Reply t f.Switches.length ([], [], f.Switches)).2.1, 0) else (noF, [], [], 8)
theorem ti_start {f : T_Feeder} (hf : FOk f) {t : Int} (ht : Timely f t) : TI f.Switches.length t f.Switches.length ([], [], f.Switches) := ⟨rfl, hf.sw, ht.2.2, by simp, by simp⟩
theorem tick_eq (f : T_Feeder) (t : Int) : F_feeder_Tick f t = some (tickF f t) := by
  unfold F_feeder_Tick tickF
  rw [chk_eq, bind_some]
  by_cases c : chk f ≠ 0
  · rw [bif_pos c, if_pos c]; rfl
  rw [bif_neg c, if_neg c]
  have hf := (chk_zero f).1 (Classical.not_not.1 c)
  have hn := hf.n
  rw [timely_eq f t (by omega), bind_some]
  by_cases ht : Timely f t
  · rw [if_pos ht, decide_eq_true ht]
    show Option.bind _ _ = _
    rw [clone_eq f hf, bind_some, w64 (by omega) (by omega), loop_tick (by omega) ht.1 ht.2.1 (fun i s hi h => tick_step f f t f.Switches.length (by omega) ht.1 ht.2.1 i s hi h) (fun s => rfl) f.Switches.length _ (Nat.le_refl _) (ti_start hf ht)]
    rfl
  · rw [if_neg ht, decide_eq_false ht]; rfl
theorem tick_ok {f : T_Feeder} (hf : FOk f) {t : Int} (ht : Timely f t) : (tickF f t).2.2.2 = 0 ∧ FOk (tickF f t).1 ∧ Timely (tickF f t).1 t ∧ (tickF f t).1 = ⟨(tkR f.Reply t f.Switches.length ([], [], f.Switches)).2.2, f.Zones, f.Reply⟩ := by
  have hI := tkR_inv (r := f.Reply) ht.1 ht.2.1 _ _ (ti_start hf ht)
  have e : tickF f t = (⟨(tkR f.Reply t f.Switches.length ([], [], f.Switches)).2.2, f.Zones, f.Reply⟩, (tkR f.Reply t f.Switches.length ([], [], f.Switches)).1, (tkR f.Reply t f.Switches.length ([], [], f.Switches)).2.1, 0) := by
    unfold tickF
    rw [if_neg (Classical.not_not.2 ((chk_zero f).2 hf)), if_pos ht]
  rw [e]
  exact ⟨rfl, setF hf hI.ln hI.sw, ⟨ht.1, ht.2.1, hI.tm⟩, rfl⟩

/-! ### paths, and what has power -/
def pthN (l : List T_Switch) : Nat → Int → List Int
  | 0, _ => []
  | n + 1, s => if s < 0 then [] else match l[s.toNat]? with
    | none => []
    | some x => s :: pthN l n x.Above
theorem pthN_eq {l : List T_Switch} (hl : SwsOk l) : ∀ (n m : Nat) (s : Int), (s + 1).toNat ≤ n → (s + 1).toNat ≤ m → pthN l n s = pthN l m s
  | 0, 0, _, _, _ => rfl
  | 0, m + 1, s, h, _ => by
    unfold pthN
    rw [if_pos (by omega)]
  | n + 1, 0, s, _, h => by
    unfold pthN
    rw [if_pos (by omega)]
  | n + 1, m + 1, s, h1, h2 => by
    unfold pthN
    by_cases c : s < 0
    · rw [if_pos c, if_pos c]
    rw [if_neg c, if_neg c]
    cases hx : l[s.toNat]? with
    | none => rfl
    | some x =>
      have := (hl _ x hx).a1
      dsimp only
      rw [pthN_eq hl n m x.Above (by omega) (by omega)]
def pth (l : List T_Switch) (s : Int) : List Int := pthN l (s + 1).toNat s
theorem pth_neg {l : List T_Switch} {s : Int} (h : s < 0) : pth l s = [] := by
  unfold pth
  rw [show (s + 1).toNat = 0 by omega]
  rfl
theorem pth_cons {l : List T_Switch} (hl : SwsOk l) {s : Int} {x : T_Switch} (h0 : 0 ≤ s) (hx : l[s.toNat]? = some x) : pth l s = s :: pth l x.Above := by
  have := (hl _ x hx).a1
  unfold pth
  rw [show (s + 1).toNat = s.toNat + 1 by omega]
  show (if s < 0 then _ else _) = _
  rw [if_neg (by omega), hx]
  dsimp only
  rw [pthN_eq hl s.toNat (x.Above + 1).toNat x.Above (by omega) (by omega)]
theorem pth_in {l : List T_Switch} (hl : SwsOk l) : ∀ (n : Nat) (s : Int), (s + 1).toNat ≤ n → s < (l.length : Int) → ∀ k ∈ pth l s, 0 ≤ k ∧ k ≤ s
  | 0, s, h, _, k, hk => by rw [pth_neg (by omega)] at hk; cases hk
  | n + 1, s, h, hs, k, hk => by
    by_cases c : s < 0
    · rw [pth_neg c] at hk; cases hk
    obtain ⟨x, hx⟩ : ∃ x, l[s.toNat]? = some x := ⟨_, List.getElem?_eq_getElem (by omega)⟩
    rw [pth_cons hl (by omega) hx] at hk
    have := (hl _ x hx).a1
    rcases List.mem_cons.1 hk with rfl | hk
    · omega
    · have := pth_in hl n x.Above (by omega) (by omega) k hk
      omega
def liv (l : List T_Switch) (p : List Int) (v : Int) : Int := p.foldl (fun v k => min v (shw l k)) v
def zoneAt (f : T_Feeder) (z : Int) : Int := (f.Zones[z.toNat]?).getD 0
def liveF (f : T_Feeder) (z : Int) : Int := if chk f ≠ 0 then 0 else if z < 0 ∨ (f.Zones.length : Int) ≤ z then 0 else liv f.Switches (pth f.Switches (zoneAt f z)) 1
theorem liveL1 (f : T_Feeder) (hl : SwsOk f.Switches) : ∀ (n : Nat) (s v : Int), (s + 1).toNat ≤ n → s < (f.Switches.length : Int) → loopC (F_feeder_Live_L1 f) (s, v) = some (liv f.Switches (pth f.Switches s) v)
  | n, s, v, h, hs => by
    by_cases c : s < 0
    · rw [pth_neg c]
      refine loopC_inr ?_
      unfold F_feeder_Live_L1
      dsimp only
      rw [bif_neg (by omega)]
      rfl
    match n, h with
    | 0, h => omega
    | n + 1, h =>
      obtain ⟨x, hx⟩ : ∃ x, f.Switches[s.toNat]? = some x := ⟨_, List.getElem?_eq_getElem (by omega)⟩
      have ha := (hl _ x hx).a1
      rw [pth_cons hl (by omega) hx, loopC_inl (a' := (x.Above, if x.Shown < v then x.Shown else v))]
      · rw [liveL1 f hl n x.Above _ (by omega) (by omega)]
        show some (liv _ _ _) = some (liv _ _ (min v (shw f.Switches s)))
        rw [shw_get hx]
        congr 2
        split <;> omega
      · unfold F_feeder_Live_L1
        dsimp only
        rw [bif_pos (by omega), getI_of (by omega) hx, bind_some, bif_pos (by omega)]
theorem zoneAt_get {f : T_Feeder} {z : Int} (h0 : 0 ≤ z) (h1 : z < (f.Zones.length : Int)) : getI f.Zones z = some (zoneAt f z) := by
  rw [getI_ok h0 h1]
  unfold zoneAt
  rw [List.getElem?_eq_getElem (by omega)]
  rfl
theorem zoneAt_in {f : T_Feeder} (hf : FOk f) {z : Int} (h0 : 0 ≤ z) (h1 : z < (f.Zones.length : Int)) : 0 ≤ zoneAt f z ∧ zoneAt f z < (f.Switches.length : Int) :=
  hf.z _ (List.mem_of_getElem? (getI_get (zoneAt_get h0 h1)))
theorem live_eq (f : T_Feeder) (z : Int) : F_feeder_Live f z = some (liveF f z) := by
  unfold F_feeder_Live liveF
  rw [chk_eq, bind_some]
  by_cases c : chk f ≠ 0
  · rw [bif_pos c, if_pos c]
  rw [bif_neg c, if_neg c]
  have hf := (chk_zero f).1 (Classical.not_not.1 c)
  by_cases c1 : z < 0
  · rw [bif_pos c1, if_pos (.inl c1)]
  rw [bif_neg c1]
  by_cases c2 : (f.Zones.length : Int) ≤ z
  · rw [bif_pos c2, if_pos (.inr c2)]
  have hz := zoneAt_in hf (z := z) (by omega) (by omega)
  rw [bif_neg c2, if_neg (by omega), zoneAt_get (by omega) (by omega), bind_some, bif_pos hz.1]
  exact liveL1 f hf.sw _ _ _ (Nat.le_refl _) hz.2

/-! ### comparing -/
theorem ints_same (l : List Int) (hl : l.length ≤ 1000000) : F_ref01_Ints l l = some true := by
  unfold F_ref01_Ints
  rw [bif_neg (by simp), loop_chk (β := Unit) l (fun _ _ => none) (fun i (s : Int) => s = i) (Sum.inr ()) Sum.inl (fun i x s hg h0 h1 hI => ?_) (fun s hI => ?_) 0 rfl, fst1_of_all _ _ (fun _ _ _ => rfl)]
  · rfl
  · subst hI
    unfold F_ref01_Ints_L1
    rw [bif_pos h1, hg, bind_some, bind_some, bif_neg (fun h => h rfl)]
    exact .inl ⟨_, rfl, rfl, w64 (by omega) (by omega)⟩
  · subst hI
    unfold F_ref01_Ints_L1
    rw [bif_neg (by omega)]
/-! ### Due -/
def Waits (x : T_Switch) : Prop := x.Closed = false ∧ x.Shown ≠ -1 ∧ x.Late = false
instance (x : T_Switch) : Decidable (Waits x) := by unfold Waits; infer_instance
theorem waits_eq (x : T_Switch) : F_feeder_waits x = some (decide (Waits x)) := by
  unfold F_feeder_waits Waits
  obtain ⟨a, sn, sh, cl, la⟩ := x
  cases cl <;> cases la <;> by_cases hs : sh = -1 <;> simp [hs]
def dueL (r : Int) : List T_Switch → Int → Int
  | [], v => v
  | x :: t, v => dueL r t (if Waits x then min v (x.Since + r) else v)
def dueF (f : T_Feeder) : Int := if chk f ≠ 0 then 0 else dueL f.Reply f.Switches 1099511627776
theorem dueL_snoc (r : Int) : ∀ (l : List T_Switch) (x : T_Switch) (v : Int), dueL r (l ++ [x]) v = if Waits x then min (dueL r l v) (x.Since + r) else dueL r l v
  | [], _, _ => rfl
  | _ :: t, x, _ => dueL_snoc r t x _
theorem take_snoc {α : Type} {l : List α} {i : Int} {x : α} (h : getI l i = some x) : l.take (i + 1).toNat = l.take i.toNat ++ [x] := by
  have h0 := getI_lt h
  rw [show (i + 1).toNat = i.toNat + 1 by omega, List.take_add_one, getI_get h]
  rfl
theorem due_eq (f : T_Feeder) : F_feeder_Due f = some (dueF f) := by
  unfold F_feeder_Due dueF
  rw [chk_eq, bind_some]
  by_cases c : chk f ≠ 0
  · rw [bif_pos c, if_pos c]
  rw [bif_neg c, if_neg c]
  have hf := (chk_zero f).1 (Classical.not_not.1 c)
  have hn := hf.n
  have hr0 := hf.r0
  have hr1 := hf.r1
  have e : loopC (F_feeder_Due_L1 f) (0, 1099511627776) = some (fout (dueL f.Reply f.Switches 1099511627776) (fun _ => 0) (fst1 (β := Unit) (fun _ _ => none) 0 f.Switches)) := by
    refine loop_chk (β := Unit) f.Switches (fun _ _ => none) (fun i (s : Int × Int) => s = (i, dueL f.Reply (f.Switches.take i.toNat) 1099511627776)) (dueL f.Reply f.Switches 1099511627776) (fun _ => 0) (fun i x s hg h0 h1 hI => ?_) (fun s hI => ?_) _ rfl
    · subst hI
      have hok := hf.sw _ x (getI_get hg)
      have := hok.s0
      have := hok.s1
      unfold F_feeder_Due_L1
      dsimp only
      rw [bif_pos h1, hg, bind_some, waits_eq, bind_some, w64 (n := x.Since + f.Reply) (by omega) (by omega), w64 (by omega) (by omega)]
      refine .inl ⟨_, rfl, ?_, by rw [take_snoc hg, dueL_snoc]⟩
      by_cases hw : Waits x
      · rw [bif_pos hw, if_pos hw]; rfl
      · rw [bif_neg hw, if_neg hw]; rfl
    · subst hI
      unfold F_feeder_Due_L1
      dsimp only
      rw [bif_neg (by omega), show ((f.Switches.length : Int)).toNat = f.Switches.length by omega, List.take_length]
  rw [e, fst1_of_all _ _ (fun _ _ _ => rfl)]
  rfl

/-! ### awake -/
theorem awake_eq : F_law18_awake = some true := by
  unfold F_law18_awake
  rw [open_eq, bind_some, show openF (T_Feeder.mk [(T_Switch.mk (-1) 0 1 true false), (T_Switch.mk 0 0 1 true false)] [1] 5) 1 10 = (⟨[(T_Switch.mk (-1) 0 1 true false), (T_Switch.mk 0 10 0 false false)], [1], 5⟩, 0) from rfl]
  rw [tick_eq, bind_some, show tickF ⟨[(T_Switch.mk (-1) 0 1 true false), (T_Switch.mk 0 10 0 false false)], [1], 5⟩ 15 = (⟨[(T_Switch.mk (-1) 15 0 false false), (T_Switch.mk 0 10 0 false true)], [1], 5⟩, [1], [0], 0) from rfl]
  rw [chk_eq, bind_some, show chk (T_Feeder.mk [(T_Switch.mk (-1) 0 1 true false), (T_Switch.mk 0 0 1 true false)] [1] 5) = 0 from rfl, live_eq, bind_some, show liveF (T_Feeder.mk [(T_Switch.mk (-1) 0 1 true false), (T_Switch.mk 0 0 1 true false)] [1] 5) 0 = 1 from rfl]
  rw [bif_pos rfl, bif_pos rfl, bif_pos rfl, live_eq, bind_some]
  dsimp only
  rw [show liveF ⟨[(T_Switch.mk (-1) 0 1 true false), (T_Switch.mk 0 10 0 false false)], [1], 5⟩ 0 = 0 from rfl, bif_pos rfl, due_eq, bind_some, show dueF ⟨[(T_Switch.mk (-1) 0 1 true false), (T_Switch.mk 0 10 0 false false)], [1], 5⟩ = 15 from rfl, bif_pos rfl, bif_pos rfl, ints_same _ (by decide), bind_some, cond_true, ints_same _ (by decide), bind_some, cond_true]
  rfl

theorem bytesOf {l : List Int} (h : InL (In .u8) l) : Bytes l := fun x hx => In.u8 (h.2 x hx)
theorem ok_awake {R : Bool → Prop} (h : R true) : Ok (F_law18_awake.bind fun x => some x) R := ⟨true, by rw [awake_eq, bind_some], h⟩
theorem openF_ok {f : T_Feeder} (hf : FOk f) {s t : Int} (h0 : 0 ≤ s) (h1 : s < (f.Switches.length : Int)) (ht : Timely f t) :
    openF f s t = (⟨md f.Switches s.toNat (opn t), f.Zones, f.Reply⟩, 0) ∧ FOk ⟨md f.Switches s.toNat (opn t), f.Zones, f.Reply⟩ ∧ ∀ t', t ≤ t' → t' ≤ 2147483648 → Timely ⟨md f.Switches s.toNat (opn t), f.Zones, f.Reply⟩ t' := by
  refine ⟨?_, setF hf md_len (swsOk_md hf.sw fun x hx => opn_ok (hf.sw _ x hx) ht.1 ht.2.1), fun t' a b => ⟨by have := ht.1; omega, b, fun x hx => ?_⟩⟩
  · unfold openF
    rw [if_neg (Classical.not_not.2 (canE_ok hf h0 h1 ht))]
  · obtain ⟨j, hj⟩ := List.mem_iff_getElem?.1 hx
    obtain ⟨u, hu, ⟨_, rfl⟩ | ⟨_, rfl⟩⟩ := md_get hj
    · have := ht.2.2 u (List.mem_of_getElem? hu)
      unfold opn
      split
      · exact a
      · omega
    · have := ht.2.2 _ (List.mem_of_getElem? hu)
      omega
def Small (f : T_Feeder) : Prop := f.Switches.length ≤ 1000 ∧ f.Zones.length ≤ 1000
/-! ### closing -/
/-! ### twice -/
structure Kd (l l' : List T_Switch) : Prop where
  a : ∀ k : Nat, (l'[k]?).map (·.Above) = (l[k]?).map (·.Above)
  s : ∀ k : Nat, (l'[k]?).map (·.Shown) = (l[k]?).map (·.Shown) ∨ ∃ x, l'[k]? = some x ∧ x.Shown ≤ 0
theorem Kd.refl (l : List T_Switch) : Kd l l := ⟨fun _ => rfl, fun _ => .inl rfl⟩
theorem Kd.trans {l l' l'' : List T_Switch} (h : Kd l l') (h' : Kd l' l'') : Kd l l'' := by
  refine ⟨fun k => (h'.a k).trans (h.a k), fun k => ?_⟩
  rcases h'.s k with e | e
  · rcases h.s k with f | ⟨x, hx, h0⟩
    · exact .inl (e.trans f)
    · rw [hx] at e
      cases hy : l''[k]? with
      | none => rw [hy] at e; cases e
      | some y =>
        rw [hy] at e
        have e : some y.Shown = some x.Shown := e
        have := Option.some.inj e
        exact .inr ⟨y, rfl, by omega⟩
  · exact .inr e
theorem kd_md {l : List T_Switch} {k : Nat} {g : T_Switch → T_Switch} (ha : ∀ x, (g x).Above = x.Above) (hs : ∀ x, (g x).Shown = x.Shown ∨ (g x).Shown ≤ 0) : Kd l (md l k g) := by
  refine ⟨fun j => ?_, fun j => ?_⟩
  · by_cases e : j = k
    · subst e
      cases hx : l[j]? with
      | none => unfold md; rw [hx]; dsimp only; rw [hx]
      | some x => rw [md_self hx]; exact congrArg some (ha x)
    · rw [md_ne e]
  · by_cases e : j = k
    · subst e
      cases hx : l[j]? with
      | none => unfold md; rw [hx]; dsimp only; rw [hx]; exact .inl rfl
      | some x =>
        rw [md_self hx]
        rcases hs x with h | h
        · exact .inl (congrArg some h)
        · exact .inr ⟨_, rfl, h⟩
    · rw [md_ne e]; exact .inl rfl
theorem pthN_same {l l' : List T_Switch} (h : ∀ k : Nat, (l'[k]?).map (·.Above) = (l[k]?).map (·.Above)) : ∀ (n : Nat) (s : Int), pthN l' n s = pthN l n s
  | 0, _ => rfl
  | n + 1, s => by
    unfold pthN
    have := h s.toNat
    split
    · rfl
    cases hx : l[s.toNat]? with
    | none =>
      rw [hx] at this
      cases hy : l'[s.toNat]? with
      | none => rfl
      | some y => rw [hy] at this; cases this
    | some x =>
      rw [hx] at this
      cases hy : l'[s.toNat]? with
      | none => rw [hy] at this; cases this
      | some y =>
        rw [hy] at this
        have e : some y.Above = some x.Above := this
        dsimp only
        rw [Option.some.inj e, pthN_same h n]
theorem pth_same {l l' : List T_Switch} (h : ∀ k : Nat, (l'[k]?).map (·.Above) = (l[k]?).map (·.Above)) (s : Int) : pth l' s = pth l s := pthN_same h _ _
theorem liv_cons (l : List T_Switch) (k : Int) (p : List Int) (v : Int) : liv l (k :: p) v = liv l p (min v (shw l k)) := rfl
theorem liveF_in {f : T_Feeder} (hf : FOk f) {z : Int} (h0 : 0 ≤ z) (h1 : z < (f.Zones.length : Int)) : liveF f z = liv f.Switches (pth f.Switches (zoneAt f z)) 1 := by
  unfold liveF
  rw [if_neg (Classical.not_not.2 ((chk_zero f).2 hf)), if_neg (by omega)]
/-! ### all acts -/
/-! ### paths -/
def pathF (f : T_Feeder) (s : Int) : List Int := if chk f ≠ 0 then [] else if s < 0 ∨ (f.Switches.length : Int) ≤ s then [] else pth f.Switches s
theorem pathL1 (f : T_Feeder) (hl : SwsOk f.Switches) : ∀ (n : Nat) (s : Int) (o : List Int), (s + 1).toNat ≤ n → s < (f.Switches.length : Int) → loopC (F_feeder_Path_L1 f) (s, o) = some (o ++ pth f.Switches s)
  | n, s, o, h, hs => by
    by_cases c : s < 0
    · rw [pth_neg c, List.append_nil]
      refine loopC_inr ?_
      unfold F_feeder_Path_L1
      dsimp only
      rw [bif_neg (by omega)]
    match n, h with
    | 0, h => omega
    | n + 1, h =>
      obtain ⟨x, hx⟩ : ∃ x, f.Switches[s.toNat]? = some x := ⟨_, List.getElem?_eq_getElem (by omega)⟩
      have ha := (hl _ x hx).a1
      rw [pth_cons hl (by omega) hx, loopC_inl (a' := (x.Above, o ++ [s]))]
      · rw [pathL1 f hl n x.Above _ (by omega) (by omega), List.append_assoc]
        rfl
      · unfold F_feeder_Path_L1
        dsimp only
        rw [bif_pos (by omega), getI_of (by omega) hx, bind_some, bif_pos (by omega)]
theorem path_eq (f : T_Feeder) (s : Int) : F_feeder_Path f s = some (pathF f s) := by
  unfold F_feeder_Path pathF
  rw [chk_eq, bind_some]
  by_cases c : chk f ≠ 0
  · rw [bif_pos c, if_pos c]
  rw [bif_neg c, if_neg c]
  have hf := (chk_zero f).1 (Classical.not_not.1 c)
  have hn := hf.n
  by_cases c1 : s < 0
  · rw [bif_pos c1, if_pos (.inl c1)]
  rw [bif_neg c1]
  by_cases c2 : (f.Switches.length : Int) ≤ s
  · rw [bif_pos c2, if_pos (.inr c2)]
  rw [bif_neg c2, if_neg (by omega), bif_neg (by omega), pathL1 f hf.sw _ _ _ (Nat.le_refl _) (by omega)]
  rfl
theorem pth_len {l : List T_Switch} (hl : SwsOk l) : ∀ (n : Nat) (s : Int), (s + 1).toNat ≤ n → s < (l.length : Int) → (pth l s).length ≤ n
  | n, s, h, hs => by
    by_cases c : s < 0
    · rw [pth_neg c]; exact Nat.zero_le _
    match n, h with
    | 0, h => omega
    | n + 1, h =>
      obtain ⟨x, hx⟩ : ∃ x, l[s.toNat]? = some x := ⟨_, List.getElem?_eq_getElem (by omega)⟩
      have ha := (hl _ x hx).a1
      rw [pth_cons hl (by omega) hx, List.length_cons]
      have := pth_len hl n x.Above (by omega) (by omega)
      omega
/-! ### power -/
/-! ### what is due -/
/-! ### what failed -/
def failL : Int → List T_Switch → List Int
  | _, [] => []
  | i, x :: t => if x.Above < 0 ∧ x.Late = true then i :: failL (i + 1) t else failL (i + 1) t
def failF (f : T_Feeder) : List Int := if chk f ≠ 0 then [] else failL 0 f.Switches
theorem failL_snoc : ∀ (l : List T_Switch) (x : T_Switch) (i : Int), failL i (l ++ [x]) = if x.Above < 0 ∧ x.Late = true then failL i l ++ [i + l.length] else failL i l
  | [], x, i => by
    show (if x.Above < 0 ∧ x.Late = true then [i] else []) = _
    simp [failL]
  | y :: t, x, i => by
    show (if y.Above < 0 ∧ y.Late = true then i :: failL (i + 1) (t ++ [x]) else failL (i + 1) (t ++ [x])) = if x.Above < 0 ∧ x.Late = true then (if y.Above < 0 ∧ y.Late = true then i :: failL (i + 1) t else failL (i + 1) t) ++ [i + ((t.length + 1 : Nat) : Int)] else (if y.Above < 0 ∧ y.Late = true then i :: failL (i + 1) t else failL (i + 1) t)
    rw [failL_snoc t x (i + 1), show i + 1 + (t.length : Int) = i + ((t.length + 1 : Nat) : Int) by omega]
    split <;> split <;> rfl
theorem failL_len : ∀ (l : List T_Switch) (i : Int), (failL i l).length ≤ l.length
  | [], _ => Nat.le_refl _
  | y :: t, i => by
    show (if y.Above < 0 ∧ y.Late = true then i :: failL (i + 1) t else failL (i + 1) t).length ≤ t.length + 1
    have := failL_len t (i + 1)
    split
    · simp; omega
    · omega
theorem fail_loop (f : T_Feeder) (hf : FOk f) {F : Int × List Int → Option ((Int × List Int) ⊕ List Int)} (hs : ∀ i x o, getI f.Switches i = some x → 0 ≤ i → i < (f.Switches.length : Int) → o.length ≤ 100 → F (i, o) = some (.inl (i + 1, if x.Above < 0 ∧ x.Late = true then o ++ [i] else o)))
    (he : ∀ o, F ((f.Switches.length : Int), o) = some (.inr o)) : loopC F (0, []) = some (failL 0 f.Switches) := by
  have hn := hf.n
  have e : loopC F (0, []) = some (fout (failL 0 f.Switches) (fun _ => []) (fst1 (β := Unit) (fun _ _ => none) 0 f.Switches)) := by
    refine loop_chk (β := Unit) f.Switches (fun _ _ => none) (fun i (s : Int × List Int) => s = (i, failL 0 (f.Switches.take i.toNat))) (failL 0 f.Switches) (fun _ => []) (fun i x s hg h0 h1 hI => ?_) (fun s hI => ?_) _ rfl
    · subst hI
      have hlen := failL_len (f.Switches.take i.toNat) 0
      have htk : (f.Switches.take i.toNat).length ≤ 32 := by simp; omega
      rw [hs i x _ hg h0 h1 (by omega)]
      refine .inl ⟨_, rfl, rfl, ?_⟩
      rw [take_snoc hg, failL_snoc, show (0 : Int) + ((f.Switches.take i.toNat).length : Int) = i by simp; omega]
    · subst hI
      rw [he, show ((f.Switches.length : Int)).toNat = f.Switches.length by omega, List.take_length]
  rw [e, fst1_of_all _ _ (fun _ _ _ => rfl)]
  rfl
theorem failed_eq (f : T_Feeder) : F_feeder_Failed f = some (failF f) := by
  unfold F_feeder_Failed failF
  rw [chk_eq, bind_some]
  by_cases c : chk f ≠ 0
  · rw [bif_pos c, if_pos c]
  rw [bif_neg c, if_neg c]
  have hf := (chk_zero f).1 (Classical.not_not.1 c)
  have hn := hf.n
  rw [fail_loop f hf (fun i x o hg h0 h1 ho => ?_) (fun o => ?_), bind_some]
  · unfold F_feeder_Failed_L1
    dsimp only
    rw [bif_pos h1, hg, bind_some, w64 (by omega) (by omega)]
    by_cases c1 : x.Above < 0
    · rw [bif_pos c1]
      cases c2 : x.Late with
      | true => rw [bind_some, cond_true, appI_ok (by simp; omega), bind_some, bind_some, if_pos ⟨c1, rfl⟩]
      | false => rw [bind_some, cond_false, bind_some, if_neg (fun h => by cases h.2)]
    · rw [bif_neg c1, bind_some, cond_false, bind_some, if_neg (fun h => c1 h.1)]
  · unfold F_feeder_Failed_L1
    dsimp only
    rw [bif_neg (by omega)]
/-! ### one step of a tick -/
theorem tkS_idle {r t : Int} {i : Nat} {s : TS} (h : ∀ x, s.2.2[i]? = some x → Idle r t x) : tkS r t i s = s := by
  unfold tkS
  cases hx : s.2.2[i]? with
  | none => rfl
  | some x => dsimp only; rw [if_pos (h x hx)]
theorem tkR_idle {r t : Int} : ∀ (n : Nat) (s : TS), (∀ (i : Nat) (x : T_Switch), i < n → s.2.2[i]? = some x → Idle r t x) → tkR r t n s = s
  | 0, _, _ => rfl
  | n + 1, s, h => by
    show tkR r t n (tkS r t n s) = s
    rw [tkS_idle (h n · (Nat.lt_succ_self n))]
    exact tkR_idle n s fun i x hi => h i x (by omega)
theorem not_idle {r t : Int} {x : T_Switch} (h : Waits x) (ht : x.Since + r ≤ t) : ¬ Idle r t x := by
  rintro (e | e | e | e)
  · rw [h.1] at e; cases e
  · exact h.2.1 e
  · rw [h.2.2] at e; cases e
  · omega

/-! ### what is due -/
theorem dueL_le (r : Int) : ∀ (l : List T_Switch) (v : Int), dueL r l v ≤ v
  | [], v => Int.le_refl v
  | x :: t, v => by
    show dueL r t (if Waits x then min v (x.Since + r) else v) ≤ v
    by_cases hw : Waits x
    · rw [if_pos hw]
      have := dueL_le r t (min v (x.Since + r))
      omega
    · rw [if_neg hw]
      exact dueL_le r t v
theorem dueL_min (r : Int) : ∀ (l : List T_Switch) (v : Int) (x : T_Switch), x ∈ l → Waits x → dueL r l v ≤ x.Since + r
  | [], _, _, h, _ => by cases h
  | y :: t, v, x, h, hw => by
    show dueL r t (if Waits y then min v (y.Since + r) else v) ≤ x.Since + r
    rcases List.mem_cons.1 h with rfl | h
    · have := dueL_le r t (if Waits x then min v (x.Since + r) else v)
      rw [if_pos hw] at this ⊢
      omega
    · exact dueL_min r t _ x h hw
theorem dueL_is (r : Int) : ∀ (l : List T_Switch) (v : Int), dueL r l v = v ∨ ∃ x ∈ l, Waits x ∧ dueL r l v = x.Since + r
  | [], _ => .inl rfl
  | y :: t, v => by
    show dueL r t (if Waits y then min v (y.Since + r) else v) = v ∨ ∃ x ∈ y :: t, Waits x ∧ dueL r t (if Waits y then min v (y.Since + r) else v) = x.Since + r
    rcases dueL_is r t (if Waits y then min v (y.Since + r) else v) with h | ⟨x, hx, hw, h⟩
    · rw [h]
      by_cases hw : Waits y
      · rw [if_pos hw]
        by_cases c : v ≤ y.Since + r
        · exact .inl (by omega)
        · exact .inr ⟨y, List.mem_cons_self, hw, by omega⟩
      · rw [if_neg hw]; exact .inl rfl
    · exact .inr ⟨x, List.mem_cons_of_mem _ hx, hw, h⟩

/-! ### same -/
/-! ### acts -/
/-! ### what has power -/
/-! ### the law -/
theorem tkR_one {r t : Int} {k : Nat} {s : TS} (hlo : ∀ (i : Nat) (x : T_Switch), i < k → (tkS r t k s).2.2[i]? = some x → Idle r t x) : ∀ (n : Nat), k < n → (∀ (i : Nat) (x : T_Switch), k < i → i < n → s.2.2[i]? = some x → Idle r t x) → tkR r t n s = tkS r t k s
  | 0, h, _ => by omega
  | n + 1, h, hi => by
    show tkR r t n (tkS r t n s) = _
    by_cases e : k = n
    · subst e
      exact tkR_idle _ _ fun i x h1 h2 => hlo i x h1 h2
    · rw [tkS_idle (fun x hx => hi n x (by omega) (by omega) hx)]
      exact tkR_one hlo n (by omega) fun i x h1 h2 => hi i x h1 (by omega)
theorem failL_one : ∀ (l : List T_Switch) (i k : Int), i ≤ k → k < i + l.length → (∀ (j : Nat) (x : T_Switch), l[j]? = some x → (x.Above < 0 ∧ x.Late = true ↔ i + j = k)) → failL i l = [k]
  | [], i, k, h0, h1, _ => by simp at h1; omega
  | y :: t, i, k, h0, h1, h => by
    show (if y.Above < 0 ∧ y.Late = true then i :: failL (i + 1) t else failL (i + 1) t) = [k]
    have hy := h 0 y rfl
    simp at h1
    by_cases e : i = k
    · subst e
      rw [if_pos (hy.2 (by simp))]
      have : failL (i + 1) t = [] := by
        have key : ∀ (t : List T_Switch) (m : Int), (∀ (j : Nat) (x : T_Switch), t[j]? = some x → ¬ (x.Above < 0 ∧ x.Late = true)) → failL m t = [] := by
          intro t
          induction t with
          | nil => intro m _; rfl
          | cons z t ih =>
            intro m hh
            show (if z.Above < 0 ∧ z.Late = true then m :: failL (m + 1) t else failL (m + 1) t) = []
            rw [if_neg (hh 0 z rfl)]
            exact ih (m + 1) fun j x hx => hh (j + 1) x (by simpa using hx)
        refine key t _ fun j x hx hc => ?_
        have := (h (j + 1) x (by simpa using hx)).1 hc
        omega
      rw [this]
    · rw [if_neg (fun hc => e (by have := hy.1 hc; simpa using this))]
      refine failL_one t (i + 1) k (by omega) (by omega) fun j x hx => ?_
      rw [h (j + 1) x (by simpa using hx)]
      constructor <;> intro <;> omega
theorem pth_last {l : List T_Switch} (hl : SwsOk l) : ∀ (n : Nat) (s : Int), 0 ≤ s → (s + 1).toNat ≤ n → s < (l.length : Int) → ∃ (pre : List Int) (t : Int), pth l s = pre ++ [t] ∧ 0 ≤ t ∧ t < (l.length : Int) ∧ (∀ x, l[t.toNat]? = some x → x.Above < 0) ∧ ∀ j ∈ pre, ∀ x, l[j.toNat]? = some x → 0 ≤ x.Above
  | 0, s, h0, h, _ => by omega
  | n + 1, s, h0, h, hs => by
    obtain ⟨x, hx⟩ : ∃ x, l[s.toNat]? = some x := ⟨_, List.getElem?_eq_getElem (by omega)⟩
    have ha := (hl _ x hx).a1
    rw [pth_cons hl h0 hx]
    by_cases c : x.Above < 0
    · rw [pth_neg c]
      exact ⟨[], s, rfl, h0, hs, (fun y hy => by rw [hx] at hy; cases hy; exact c), (fun j hj => by cases hj)⟩
    · obtain ⟨pre, t, e, t0, t1, t2, t3⟩ := pth_last hl n x.Above (by omega) (by omega) (by omega)
      refine ⟨s :: pre, t, by rw [e]; rfl, t0, t1, t2, fun j hj y hy => ?_⟩
      rcases List.mem_cons.1 hj with rfl | hj
      · rw [hx] at hy; cases hy; omega
      · exact t3 j hj y hy
theorem liv_zero (l : List T_Switch) : ∀ (p : List Int) (v : Int), 0 ≤ v → (∀ k ∈ p, shw l k = 0) → p ≠ [] → liv l p v = 0
  | [], _, _, _, h => absurd rfl h
  | k :: p, v, hv, h, _ => by
    rw [liv_cons, h k List.mem_cons_self]
    by_cases c : p = []
    · subst c
      show min v 0 = 0
      omega
    · exact liv_zero l p _ (by omega) (fun j hj => h j (List.mem_cons_of_mem _ hj)) c

/-! ### all closed -/
def onS (x : T_Switch) : T_Switch := ⟨x.Above, x.Since, 1, true, x.Late⟩
theorem chainL1 (x5 : T_draw_Codes × T_Feeder) (hn : x5.2.Switches.length ≤ 1000) : loopC (F_law18_FeederChain_L1 x5) (0, x5.2) = some ⟨x5.2.Switches.map onS, x5.2.Zones, x5.2.Reply⟩ := by
  refine Ok.val (ok_loop (fun s : Int × T_Feeder => 0 ≤ s.1 ∧ s.1 ≤ x5.2.Switches.length ∧ s.2.Zones = x5.2.Zones ∧ s.2.Reply = x5.2.Reply ∧ s.2.Switches.length = x5.2.Switches.length ∧ ∀ (k : Nat) (x : T_Switch), x5.2.Switches[k]? = some x → s.2.Switches[k]? = some (if (k : Int) < s.1 then onS x else x)) (fun s => (x5.2.Switches.length - s.1).toNat) (· = _) (fun s hs => ?_) _ ⟨Int.le_refl 0, by dsimp only; omega, rfl, rfl, rfl, fun k x hx => by dsimp only; rw [if_neg (by omega)]; exact hx⟩)
  obtain ⟨i, f⟩ := s
  obtain ⟨i0, i1, hz, hr, hl, hk⟩ := hs
  dsimp only at i0 i1 hz hr hl hk
  unfold F_law18_FeederChain_L1
  dsimp only
  refine ok_dec (fun hlt => ?_) fun hge => ok_some ?_
  · obtain ⟨x, hx⟩ : ∃ x, x5.2.Switches[i.toNat]? = some x := ⟨_, List.getElem?_eq_getElem (by omega)⟩
    have hf := hk i.toNat x hx
    rw [if_neg (by omega)] at hf
    have hs1 : getI (f.Switches.set i.toNat (T_Switch.mk x.Above x.Since x.Shown true x.Late)) i = some (T_Switch.mk x.Above x.Since x.Shown true x.Late) := getI_of i0 (List.getElem?_set_self (by omega))
    rw [getI_of i0 hf, bind_some, hs1, bind_some, w64 (by omega) (by omega), List.set_set]
    refine ok_some ⟨⟨by dsimp only; omega, by dsimp only; omega, hz, hr, by simpa using hl, fun k y hy => ?_⟩, by dsimp only; omega⟩
    dsimp only
    by_cases e : k = i.toNat
    · subst e
      rw [List.getElem?_set_self (by omega), if_pos (by omega)]
      rw [hx] at hy
      cases hy
      rfl
    · rw [List.getElem?_set_ne (fun h => e h.symm), hk k y hy]
      by_cases c : (k : Int) < i
      · rw [if_pos c, if_pos (by omega)]
      · rw [if_neg c, if_neg (by omega)]
  · have hsw : f.Switches = x5.2.Switches.map onS := by
      refine List.ext_getElem? fun k => ?_
      rw [List.getElem?_map]
      cases hx : x5.2.Switches[k]? with
      | none =>
        have := List.getElem?_eq_none_iff.1 hx
        exact List.getElem?_eq_none_iff.2 (by omega)
      | some x =>
        have := (List.getElem?_eq_some_iff.1 hx).1
        rw [hk k x hx, if_pos (by omega)]
        rfl
    obtain ⟨a, b, c⟩ := f
    dsimp only at hsw hz hr
    rw [hsw, hz, hr]

/-! ### the states behind each tick -/
structure CS (l0 : List T_Switch) (dn : List Int) (k T : Int) (l : List T_Switch) : Prop where
  len : l.length = l0.length
  ab : ∀ j : Nat, (l[j]?).map (·.Above) = (l0[j]?).map (·.Above)
  d : ∀ (j : Nat) (x : T_Switch), l[j]? = some x → (j : Int) ∈ dn → x.Closed = false ∧ x.Late = true ∧ x.Shown = 0
  c : ∀ (j : Nat) (x : T_Switch), l[j]? = some x → (j : Int) = k → x.Closed = false ∧ x.Late = false ∧ x.Shown = 0 ∧ x.Since = T
  o : ∀ (j : Nat) (x : T_Switch), l[j]? = some x → (j : Int) ∉ dn → (j : Int) ≠ k → x.Closed = true ∧ x.Late = false
  tm : ∀ x ∈ l, x.Since ≤ T
theorem CS.due {l0 l : List T_Switch} {dn : List Int} {k T r : Int} (h : CS l0 dn k T l) (h0 : 0 ≤ k) (h1 : k < (l0.length : Int)) (hb : T + r < 1099511627776) : dueL r l 1099511627776 = T + r := by
  obtain ⟨x, hx⟩ : ∃ x, l[k.toNat]? = some x := ⟨_, List.getElem?_eq_getElem (by have := h.len; omega)⟩
  have hc := h.c k.toNat x hx (by omega)
  have hle := dueL_min r l 1099511627776 x (List.mem_of_getElem? hx) ⟨hc.1, by rw [hc.2.2.1]; decide, hc.2.1⟩
  rw [hc.2.2.2] at hle
  rcases dueL_is r l 1099511627776 with e | ⟨y, hy, hw, e⟩
  · omega
  · obtain ⟨j, hj⟩ := List.mem_iff_getElem?.1 hy
    by_cases c1 : (j : Int) ∈ dn
    · have := (h.d j y hj c1).2.1
      rw [hw.2.2] at this
      cases this
    by_cases c2 : (j : Int) = k
    · rw [e, (h.c j y hj c2).2.2.2]
    · have := (h.o j y hj c1 c2).1
      rw [hw.1] at this
      cases this
theorem CS.never {l0 l : List T_Switch} {dn : List Int} {k T r : Int} (h : CS l0 dn k T l) (h0 : k < 0) : dueL r l 1099511627776 = 1099511627776 := by
  rcases dueL_is r l 1099511627776 with e | ⟨y, hy, hw, e⟩
  · exact e
  · obtain ⟨j, hj⟩ := List.mem_iff_getElem?.1 hy
    by_cases c1 : (j : Int) ∈ dn
    · have := (h.d j y hj c1).2.1
      rw [hw.2.2] at this
      cases this
    · have := (h.o j y hj c1 (by omega)).1
      rw [hw.1] at this
      cases this
theorem CS.above {l0 l : List T_Switch} {dn : List Int} {k T : Int} (h : CS l0 dn k T l) {j : Nat} {x x0 : T_Switch} (hx : l[j]? = some x) (h0 : l0[j]? = some x0) : x.Above = x0.Above := by
  have := h.ab j
  rw [hx, h0] at this
  exact Option.some.inj this
theorem CS.tick {l0 l : List T_Switch} {dn : List Int} {k T r : Int} (h : CS l0 dn k T l) (hl0 : SwsOk l0) (hd : ∀ d ∈ dn, k < d) (h0 : 0 ≤ k) (hr : 1 ≤ r) {x0 : T_Switch} (hx0 : l0[k.toNat]? = some x0) :
    ∃ l', tkR r (T + r) l.length ([], [], l) = ([k], (if x0.Above < 0 then [] else [x0.Above]), l') ∧ CS l0 (dn ++ [k]) x0.Above (T + r) l' := by
  have hklt := (List.getElem?_eq_some_iff.1 hx0).1
  have hlen := h.len
  obtain ⟨x, hx⟩ : ∃ x, l[k.toNat]? = some x := ⟨_, List.getElem?_eq_getElem (by omega)⟩
  have hc := h.c k.toNat x hx (by omega)
  have hax := h.above hx hx0
  have ha1 := (hl0 _ x0 hx0).a1
  have ha0 := (hl0 _ x0 hx0).a0
  have hni : ¬ Idle r (T + r) x := not_idle ⟨hc.1, by rw [hc.2.2.1]; decide, hc.2.1⟩ (by rw [hc.2.2.2]; omega)
  have hup : ∀ (i : Nat) (y : T_Switch), i ≠ k.toNat → l[i]? = some y → Idle r (T + r) y := fun i y hi hy => by
    by_cases c1 : (i : Int) ∈ dn
    · exact .inr (.inr (.inl (h.d i y hy c1).2.1))
    · exact .inl (h.o i y hy c1 (by omega)).1
  have hkk : ((k.toNat : Nat) : Int) = k := by omega
  by_cases ca : x0.Above < 0
  · -- it is the topmost one
    have hs : tkS r (T + r) k.toNat ([], [], l) = ([k], [], l.set k.toNat (lat x)) := by
      unfold tkS
      dsimp only
      rw [hx]
      dsimp only
      rw [if_neg hni, if_neg (by omega)]
      unfold tkO
      dsimp only
      rw [hkk]
      rfl
    have hset : ∀ (j : Nat) (y : T_Switch), (l.set k.toNat (lat x))[j]? = some y → (j = k.toNat ∧ y = lat x) ∨ (j ≠ k.toNat ∧ l[j]? = some y) := fun j y hy => by
      by_cases e : j = k.toNat
      · subst e
        rw [List.getElem?_set_self (by omega)] at hy
        exact .inl ⟨rfl, (Option.some.inj hy).symm⟩
      · rw [List.getElem?_set_ne (fun h => e h.symm)] at hy
        exact .inr ⟨e, hy⟩
    refine ⟨l.set k.toNat (lat x), ?_, ⟨by simpa using hlen, fun j => ?_, fun j y hy hm => ?_, fun j y hy hm => ?_, fun j y hy hm hne => ?_, fun y hy => ?_⟩⟩
    · rw [if_pos ca, tkR_one (k := k.toNat) (fun i y hi hy => ?_) l.length (by omega) (fun i y h1 h2 hy => hup i y (by omega) hy), hs]
      rw [hs] at hy
      rcases hset i y hy with ⟨rfl, _⟩ | ⟨e, hy⟩
      · omega
      · exact hup i y e hy
    · rw [← h.ab j]
      by_cases e : j = k.toNat
      · subst e
        rw [List.getElem?_set_self (by omega), hx]
        rfl
      · rw [List.getElem?_set_ne (fun h => e h.symm)]
    · rcases hset j y hy with ⟨rfl, rfl⟩ | ⟨e, hy⟩
      · exact ⟨hc.1, rfl, hc.2.2.1⟩
      · refine h.d j y hy ?_
        rcases List.mem_append.1 hm with hm | hm
        · exact hm
        · simp at hm; omega
    · omega
    · rcases hset j y hy with ⟨rfl, rfl⟩ | ⟨e, hy⟩
      · exact absurd (List.mem_append.2 (.inr (by simp; omega))) hm
      · exact h.o j y hy (fun hh => hm (List.mem_append.2 (.inl hh))) (by omega)
    · obtain ⟨j, hj⟩ := List.mem_iff_getElem?.1 hy
      rcases hset j y hj with ⟨rfl, rfl⟩ | ⟨e, hj⟩
      · show x.Since ≤ T + r
        omega
      · have := h.tm y (List.mem_of_getElem? hj)
        omega
  · -- the one above is told
    obtain ⟨y, hy⟩ : ∃ y, l[x0.Above.toNat]? = some y := ⟨_, List.getElem?_eq_getElem (by omega)⟩
    have hcy : y.Closed = true := (h.o _ y hy (fun hm => by have := hd _ hm; omega) (by omega)).1
    have hs : tkS r (T + r) k.toNat ([], [], l) = ([k], [x0.Above], (l.set k.toNat (lat x)).set x0.Above.toNat (told (T + r) y)) := by
      unfold tkS
      dsimp only
      rw [hx]
      dsimp only
      rw [if_neg hni, hax, if_pos (by omega), hy]
      unfold tkO
      dsimp only
      rw [if_pos hcy, hkk]
      rfl
    have hset : ∀ (j : Nat) (z : T_Switch), ((l.set k.toNat (lat x)).set x0.Above.toNat (told (T + r) y))[j]? = some z → (j = k.toNat ∧ z = lat x) ∨ (j = x0.Above.toNat ∧ z = told (T + r) y) ∨ (j ≠ k.toNat ∧ j ≠ x0.Above.toNat ∧ l[j]? = some z) := fun j z hz => by
      by_cases e2 : j = x0.Above.toNat
      · subst e2
        rw [List.getElem?_set_self (by simp; omega)] at hz
        exact .inr (.inl ⟨rfl, (Option.some.inj hz).symm⟩)
      · rw [List.getElem?_set_ne (fun h => e2 h.symm)] at hz
        by_cases e : j = k.toNat
        · subst e
          rw [List.getElem?_set_self (by omega)] at hz
          exact .inl ⟨rfl, (Option.some.inj hz).symm⟩
        · rw [List.getElem?_set_ne (fun h => e h.symm)] at hz
          exact .inr (.inr ⟨e, e2, hz⟩)
    refine ⟨(l.set k.toNat (lat x)).set x0.Above.toNat (told (T + r) y), ?_, ⟨by simpa using hlen, fun j => ?_, fun j z hz hm => ?_, fun j z hz hm => ?_, fun j z hz hm hne => ?_, fun z hz => ?_⟩⟩
    · rw [if_neg ca, tkR_one (k := k.toNat) (fun i z hi hz => ?_) l.length (by omega) (fun i z h1 h2 hz => hup i z (by omega) hz), hs]
      rw [hs] at hz
      rcases hset i z hz with ⟨rfl, _⟩ | ⟨rfl, rfl⟩ | ⟨e, _, hz⟩
      · omega
      · exact .inr (.inr (.inr (by show (T + r) - (T + r) < r; omega)))
      · exact hup i z e hz
    · rw [← h.ab j]
      by_cases e2 : j = x0.Above.toNat
      · subst e2
        rw [List.getElem?_set_self (by simp; omega), hy]
        rfl
      · rw [List.getElem?_set_ne (fun h => e2 h.symm)]
        by_cases e : j = k.toNat
        · subst e
          rw [List.getElem?_set_self (by omega), hx]
          rfl
        · rw [List.getElem?_set_ne (fun h => e h.symm)]
    · have hj : (j : Int) ∈ dn ∨ (j : Int) = k := by
        rcases List.mem_append.1 hm with hm | hm
        · exact .inl hm
        · simp at hm; exact .inr hm
      rcases hset j z hz with ⟨rfl, rfl⟩ | ⟨rfl, rfl⟩ | ⟨e, _, hz⟩
      · exact ⟨hc.1, rfl, hc.2.2.1⟩
      · exfalso
        rcases hj with hj | hj
        · have := hd _ hj; omega
        · omega
      · refine h.d j z hz ?_
        rcases hj with hj | hj
        · exact hj
        · omega
    · rcases hset j z hz with ⟨rfl, rfl⟩ | ⟨rfl, rfl⟩ | ⟨e, e2, hz⟩
      · omega
      · exact ⟨rfl, rfl, rfl, rfl⟩
      · omega
    · rcases hset j z hz with ⟨rfl, rfl⟩ | ⟨rfl, rfl⟩ | ⟨e, e2, hz⟩
      · exact absurd (List.mem_append.2 (.inr (by simp; omega))) hm
      · omega
      · exact h.o j z hz (fun hh => hm (List.mem_append.2 (.inl hh))) (by omega)
    · obtain ⟨j, hj⟩ := List.mem_iff_getElem?.1 hz
      rcases hset j z hj with ⟨rfl, rfl⟩ | ⟨rfl, rfl⟩ | ⟨e, _, hj⟩
      · show x.Since ≤ T + r
        omega
      · exact Int.le_refl _
      · have := h.tm z (List.mem_of_getElem? hj)
        omega

structure ChI (o : T_Feeder) (P : List Int) (s : Int × T_Feeder) (dn : List Int) (k : Int) : Prop where
  p : P = dn ++ pth o.Switches k
  n : s.1 = dn.length + 1
  cs : CS o.Switches dn k (dn.length * o.Reply) s.2.Switches
  z : s.2.Zones = o.Zones
  r : s.2.Reply = o.Reply
  ok : FOk s.2
  k0 : -1 ≤ k
  k1 : k < (o.Switches.length : Int)
  d : ∀ d ∈ dn, k < d
theorem mulI_le {a b : Nat} {c d : Int} (h1 : a ≤ b) (h0 : 0 ≤ c) (h2 : c ≤ d) : (a : Int) * c ≤ b * d := by
  have h3 : (a : Int) * c ≤ (b : Int) * c := Int.mul_le_mul_of_nonneg_right (by omega) h0
  have h4 : (b : Int) * c ≤ (b : Int) * d := Int.mul_le_mul_of_nonneg_left h2 (by omega)
  omega
theorem sli_one {dn rest : List Int} {k : Int} (h : dn.length + rest.length + 1 ≤ 1000000) : sliI (dn ++ k :: rest) (dn.length : Int) ((dn.length : Int) + 1) = some [k] := by
  rw [sliI_ok (by omega) (by omega) (by simp; omega)]
  rw [show ((dn.length : Int) + 1).toNat = dn.length + 1 by omega, show ((dn.length : Int)).toNat = dn.length by omega]
  congr 1
  rw [List.take_append, List.drop_append]
  simp
theorem chainL2 (o : T_Feeder) (ho : FOk o) (P : List Int) (hP : P.length ≤ 32) (x : T_Feeder) (k : Int) (hI : ChI o P (1, x) [] k) :
    Ok (loopC (F_law18_FeederChain_L2 o P) (1, x)) fun b => ∃ y, b = .inr y ∧ ∃ n k, k < 0 ∧ ChI o P (n, y) P k := by
  refine ok_loop (fun s => ∃ dn k, ChI o P s dn k) (fun s => (P.length + 1 - s.1).toNat) _ (fun s hs => ?_) _ ⟨[], k, hI⟩
  obtain ⟨n, f⟩ := s
  obtain ⟨dn, k, h⟩ := hs
  have hn := h.n
  have hcs := h.cs
  have hr := h.r
  have hz := h.z
  have hfo := h.ok
  have hr0 := ho.r0
  have hr1 := ho.r1
  have hk0 := h.k0
  have hk1 := h.k1
  dsimp only at hn hcs hr hz hfo
  unfold F_law18_FeederChain_L2
  dsimp only
  by_cases ck : k < 0
  · -- all have been told
    have hp := h.p
    rw [pth_neg ck, List.append_nil] at hp
    subst hp
    rw [bif_neg (by omega)]
    exact ok_some ⟨f, rfl, n, k, ck, h⟩
  · obtain ⟨x0, hx0⟩ : ∃ x0, o.Switches[k.toNat]? = some x0 := ⟨_, List.getElem?_eq_getElem (by omega)⟩
    have ha0 := (ho.sw _ x0 hx0).a0
    have ha1 := (ho.sw _ x0 hx0).a1
    have hp := h.p
    rw [pth_cons ho.sw (by omega) hx0] at hp
    have hlen : P.length = dn.length + (pth o.Switches x0.Above).length + 1 := by rw [hp]; simp; omega
    have hlt : n ≤ (P.length : Int) := by omega
    have hmul : (dn.length : Int) * o.Reply + o.Reply = n * o.Reply := by rw [hn, Int.add_mul, Int.one_mul]
    have hb := mulI_le (a := dn.length) (b := 32) (c := o.Reply) (d := 100000) (by omega) (by omega) hr1
    have hb0 : 0 ≤ (dn.length : Int) * o.Reply := Int.mul_nonneg (by omega) (by omega)
    rw [bif_pos hlt, due_eq, bind_some]
    have hdue : dueF f = n * o.Reply := by
      unfold dueF
      rw [if_neg (Classical.not_not.2 ((chk_zero f).2 hfo)), hr, hcs.due (by omega) hk1 (by omega), hmul]
    have hw : IntKind.i64.wrap (n * o.Reply) = n * o.Reply := w64 (by omega) (by omega)
    rw [hw, hdue, bif_neg (fun hh => hh rfl)]
    have ht : Timely f (n * o.Reply) := ⟨by omega, by omega, fun y hy => by have := hcs.tm y hy; omega⟩
    obtain ⟨t1, t2, t3, t4⟩ := tick_ok hfo ht
    obtain ⟨l', hl', hcs'⟩ := hcs.tick ho.sw h.d (by omega) hr0 hx0
    rw [hmul] at hl' hcs'
    have hT : tickF f (n * o.Reply) = (⟨l', f.Zones, f.Reply⟩, [k], (if x0.Above < 0 then [] else [x0.Above]), 0) := by
      unfold tickF
      rw [if_neg (Classical.not_not.2 ((chk_zero f).2 hfo)), if_pos ht, hr, hl']
    rw [hT] at t2
    dsimp only at t2
    rw [tick_eq, bind_some, hT]
    dsimp only
    have hs1 : sliI P (IntKind.i64.wrap (n - 1)) n = some [k] := by
      rw [w64 (by omega) (by omega), show n - 1 = (dn.length : Int) by omega, hn, hp]
      exact sli_one (by omega)
    rw [bif_neg (fun hh => hh rfl), hs1, bind_some, ints_same _ (by simp), bind_some]
    have hnext : ChI o P (n + 1, ⟨l', f.Zones, f.Reply⟩) (dn ++ [k]) x0.Above := by
      refine ⟨?_, by simp; omega, ?_, hz, hr, t2, ha0, by omega, fun d hd => ?_⟩
      · rw [List.append_assoc]; exact hp
      · have e : ((dn ++ [k]).length : Int) * o.Reply = n * o.Reply := by rw [List.length_append, hn]; rfl
        rw [e]
        exact hcs'
      · rcases List.mem_append.1 hd with hd | hd
        · have := h.d d hd; omega
        · simp at hd; omega
    have hstep : IntKind.i64.wrap (n + 1) = n + 1 := w64 (by omega) (by omega)
    by_cases ca : x0.Above < 0
    · -- the topmost one
      rw [pth_neg ca] at hp hlen
      simp at hlen
      rw [if_pos ca]
      simp only [Bool.not_true, cond_false]
      rw [bif_neg (by omega), bif_pos (by omega), bind_some, bif_neg (by simp), hstep]
      exact ok_some ⟨⟨_, _, hnext⟩, by dsimp only; omega⟩
    · obtain ⟨x1, hx1⟩ : ∃ x1, o.Switches[x0.Above.toNat]? = some x1 := ⟨_, List.getElem?_eq_getElem (by omega)⟩
      rw [pth_cons ho.sw (by omega) hx1] at hp hlen
      simp at hlen
      have hs2 : sliI P n (IntKind.i64.wrap (n + 1)) = some [x0.Above] := by
        rw [hstep, hp, show dn ++ k :: x0.Above :: pth o.Switches x1.Above = (dn ++ [k]) ++ x0.Above :: pth o.Switches x1.Above by simp, show n = ((dn ++ [k]).length : Int) by simp; omega]
        exact sli_one (by simp; omega)
      rw [if_neg ca]
      simp only [Bool.not_true, cond_false]
      rw [bif_pos (by omega), hs2, bind_some, ints_same _ (by simp), bind_some]
      simp only [Bool.not_true, cond_false]
      rw [bif_neg (by omega), bind_some, hstep]
      simp only [cond_false]
      exact ok_some ⟨⟨_, _, hnext⟩, by dsimp only; omega⟩
theorem law_FeederChain (p0 : List Int) (w0 : InL (In .u8) p0) (p1 : Int) (w1 : In .i64 p1) : F_law18_FeederChain p0 p1 = some true := by
  refine Ok.val ?_
  unfold F_law18_FeederChain
  refine ok_bind (new_ok p0 (bytesOf w0)) fun x1 h1 => ok_bind (next_lt x1 3 h1 (by decide)) fun x3 h3 => ?_
  rw [w64 (n := 1 + x3.2) (by omega) (by omega)]
  refine ok_bind (feeder_ok x3.1 (1 + x3.2) h3.1 (by omega) (by omega)) fun x5 h5 => ?_
  have hd := h5.2
  have hf := hd.ok
  have hn := hf.n
  have hm := hf.m
  have hzl := hd.z
  rw [chainL1 x5 (by omega), bind_some]
  generalize hO : (⟨x5.2.Switches.map onS, x5.2.Zones, x5.2.Reply⟩ : T_Feeder) = o
  have hget : ∀ (j : Nat) (y : T_Switch), o.Switches[j]? = some y → ∃ x, x5.2.Switches[j]? = some x ∧ y = onS x := fun j y hy => by
    rw [← hO] at hy
    dsimp only at hy
    rw [List.getElem?_map] at hy
    cases hx : x5.2.Switches[j]? with
    | none => rw [hx] at hy; cases hy
    | some x => rw [hx] at hy; exact ⟨x, rfl, (Option.some.inj hy).symm⟩
  have hon : ∀ (j : Nat) (y : T_Switch), o.Switches[j]? = some y → y.Closed = true ∧ y.Late = false ∧ y.Since = 0 := fun j y hy => by
    obtain ⟨x, hx, rfl⟩ := hget j y hy
    have := hd.new.2 x (List.mem_of_getElem? hx)
    exact ⟨rfl, this.2, this.1⟩
  have ho : FOk o := by
    rw [← hO]
    refine setF hf (by simp) fun j y hy => ?_
    rw [List.getElem?_map] at hy
    cases hx : x5.2.Switches[j]? with
    | none => rw [hx] at hy; cases hy
    | some x =>
      rw [hx] at hy
      cases hy
      have h1 := hf.sw j x hx
      have h2 := hd.new.2 x (List.mem_of_getElem? hx)
      exact ⟨h1.a0, h1.a1, h1.s0, h1.s1, (by show (-1 : Int) ≤ 1; decide), Int.le_refl 1, fun hl => by rw [show (onS x).Late = x.Late from rfl, h2.2] at hl; cases hl⟩
  have hz : o.Zones = x5.2.Zones := by rw [← hO]
  have hol : o.Switches.length = x5.2.Switches.length := by rw [← hO]; simp
  have hon' := ho.n
  have hr0 := ho.r0
  have hr1 := ho.r1
  refine ok_bind (mod_ok p1 _ (by rw [hz]; omega)) fun zi hzi => ?_
  have hzi1 := hzi.2.1 (by rw [hz]; omega)
  have hzg := zoneAt_get hzi.1 hzi1
  have hzn := zoneAt_in ho hzi.1 hzi1
  rw [hzg, bind_some, path_eq, bind_some, bind_some, open_eq, bind_some]
  have hpp : pathF o (zoneAt o zi) = pth o.Switches (zoneAt o zi) := by
    unfold pathF
    rw [if_neg (Classical.not_not.2 ((chk_zero o).2 ho)), if_neg (by omega)]
  generalize hzz : zoneAt o zi = z at *
  have hti : Timely o 0 := ⟨by decide, by decide, fun y hy => by
    obtain ⟨j, hj⟩ := List.mem_iff_getElem?.1 hy
    have := (hon j y hj).2.2
    omega⟩
  obtain ⟨o1, o2, o3⟩ := openF_ok ho hzn.1 hzn.2 hti
  have hlenP := pth_len ho.sw _ _ (Nat.le_refl _) hzn.2
  obtain ⟨pre, tp, hpt, tp0, tp1, tp2, tp3⟩ := pth_last ho.sw _ _ hzn.1 (Nat.le_refl _) hzn.2
  rw [hpp, o1]
  dsimp only
  have hPne : ((pth o.Switches z).length : Int) ≠ 0 := by rw [hpt]; simp; omega
  rw [bif_neg (fun hh => hh rfl), bind_some, decide_eq_false hPne]
  show Ok (Option.bind (loopC (F_law18_FeederChain_L2 o (pth o.Switches z)) (1, ⟨md o.Switches z.toNat (opn 0), o.Zones, o.Reply⟩)) _) _
  have hI : ChI o (pth o.Switches z) (1, ⟨md o.Switches z.toNat (opn 0), o.Zones, o.Reply⟩) [] z := by
    refine ⟨rfl, rfl, ⟨md_len, fun j => ?_, fun j x _ hm => (by cases hm), fun j x hx e => ?_, fun j x hx _ hne => ?_, fun x hx => ?_⟩, rfl, rfl, o2, by omega, hzn.2, fun d hd => (by cases hd)⟩
    · exact (kd_md (fun x => by unfold opn told; split <;> rfl) (fun x => by unfold opn told; split; exact .inr (Int.le_refl 0); exact .inl rfl)).a j
    · obtain ⟨u, hu, ⟨_, rfl⟩ | ⟨hne, rfl⟩⟩ := md_get hx
      · unfold opn
        rw [if_pos (hon j u hu).1]
        exact ⟨rfl, rfl, rfl, by simp [told]⟩
      · omega
    · obtain ⟨u, hu, ⟨e, rfl⟩ | ⟨_, rfl⟩⟩ := md_get hx
      · omega
      · exact ⟨(hon j _ hu).1, (hon j _ hu).2.1⟩
    · obtain ⟨j, hj⟩ := List.mem_iff_getElem?.1 hx
      have := (o3 0 (Int.le_refl 0) (by decide)).2.2 x hx
      simpa using this
  refine ok_bind (chainL2 o ho _ (by omega) _ z hI) fun b hb => ?_
  obtain ⟨y, rfl, n, k, hk, h⟩ := hb
  show Ok (Option.bind (F_feeder_Due y) _) _
  have hcs := h.cs
  have hfo := h.ok
  have hyz := h.z
  dsimp only at hcs hfo hyz
  have hchk := Classical.not_not.2 ((chk_zero y).2 hfo)
  have hdue : dueF y = 1099511627776 := by
    unfold dueF
    rw [if_neg hchk, hcs.never hk]
  have hfail : failF y = [tp] := by
    unfold failF
    rw [if_neg hchk]
    refine failL_one _ 0 tp tp0 (by have := hcs.len; omega) fun j x hx => ?_
    obtain ⟨x0, hx0⟩ : ∃ x0, o.Switches[j]? = some x0 := ⟨_, List.getElem?_eq_getElem (by have := hcs.len; have := (List.getElem?_eq_some_iff.1 hx).1; omega)⟩
    have hab := hcs.above hx hx0
    rw [Int.zero_add]
    constructor
    · rintro ⟨h1, h2⟩
      by_cases hm : (j : Int) ∈ pth o.Switches z
      · rw [hpt] at hm
        rcases List.mem_append.1 hm with hm | hm
        · have := tp3 _ hm x0 (by rw [Int.toNat_natCast]; exact hx0)
          omega
        · simpa using hm
      · have := (hcs.o j x hx hm (by omega)).2
        rw [this] at h2
        cases h2
    · intro e
      have hm : (j : Int) ∈ pth o.Switches z := by rw [hpt, e]; simp
      refine ⟨?_, (hcs.d j x hx hm).2.1⟩
      rw [hab]
      exact tp2 x0 (by rw [← e, Int.toNat_natCast]; exact hx0)
  have hsl : sliI (pth o.Switches z) (IntKind.i64.wrap (((pth o.Switches z).length : Int) - 1)) ((pth o.Switches z).length) = some [tp] := by
    rw [w64 (by omega) (by omega), hpt]
    have := sli_one (dn := pre) (rest := []) (k := tp) (by rw [hpt] at hlenP; simp at hlenP ⊢; omega)
    rw [show ((pre ++ [tp]).length : Int) - 1 = (pre.length : Int) by simp, show ((pre ++ [tp]).length : Int) = (pre.length : Int) + 1 by simp]
    exact this
  have hlive : liveF y zi = 0 := by
    rw [liveF_in hfo hzi.1 (by rw [hyz]; exact hzi1)]
    have hza : zoneAt y zi = z := by
      rw [← hzz]
      unfold zoneAt
      rw [hyz]
    rw [hza, pth_same hcs.ab z]
    refine liv_zero _ _ 1 (by decide) (fun j hj => ?_) (by rw [hpt]; simp)
    have hji := pth_in ho.sw _ _ (Nat.le_refl _) hzn.2 j hj
    obtain ⟨x, hx⟩ : ∃ x, y.Switches[j.toNat]? = some x := ⟨_, List.getElem?_eq_getElem (by have := hcs.len; omega)⟩
    rw [shw_get hx]
    exact (hcs.d _ x hx (by rw [show ((j.toNat : Nat) : Int) = j by omega]; exact hj)).2.2
  rw [due_eq, bind_some, hdue, bif_pos rfl, failed_eq, bind_some, hsl, bind_some, hfail, ints_same _ (by simp), bind_some, live_eq, bind_some, hlive]
  exact ok_awake rfl
end Go.L
