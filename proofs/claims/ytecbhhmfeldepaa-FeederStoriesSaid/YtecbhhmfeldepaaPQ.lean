/- What the functions yield, plain: the laws. -/
import Derived.Test.YtecbhhmfeldepaaPDrawB18
/- Networks: which are right (program and reference agree); loops over a row. -/
namespace Go.L
open Go Go.Aml

/-! ### loops over a row -/
def fst1 {α β : Type} (E : Int → α → Option β) : Int → List α → Option β
  | _, [] => none
  | i, x :: t => match E i x with
    | some b => some b
    | none => fst1 E (i + 1) t
theorem fst1_some {α β : Type} {E : Int → α → Option β} {i : Int} {x : α} {t : List α} {b : β} (h : E i x = some b) : fst1 E i (x :: t) = some b := by
  show (match E i x with | some b => some b | none => _) = _
  rw [h]
theorem fst1_none {α β : Type} {E : Int → α → Option β} {i : Int} {x : α} {t : List α} (h : E i x = none) : fst1 E i (x :: t) = fst1 E (i + 1) t := by
  show (match E i x with | some b => some b | none => _) = _
  rw [h]
theorem fst1_all {α β : Type} {E : Int → α → Option β} : ∀ (t : List α) (i : Int), fst1 E i t = none → ∀ (k : Nat) (x : α), t[k]? = some x → E (i + k) x = none
  | [], _, _, k, x, h => by simp at h
  | y :: t, i, h, k, x, hx => by
    cases hy : E i y with
    | some b => rw [fst1_some hy] at h; cases h
    | none =>
      rw [fst1_none hy] at h
      match k, hx with
      | 0, hx => simp at hx; subst hx; simpa using hy
      | k + 1, hx =>
        have := fst1_all t (i + 1) h k x (by simpa using hx)
        rw [show i + ((k + 1 : Nat) : Int) = i + 1 + (k : Int) by omega]
        exact this
theorem fst1_of_all {α β : Type} {E : Int → α → Option β} : ∀ (t : List α) (i : Int), (∀ (k : Nat) (x : α), t[k]? = some x → E (i + k) x = none) → fst1 E i t = none
  | [], _, _ => rfl
  | y :: t, i, h => by
    rw [fst1_none (by simpa using h 0 y rfl)]
    refine fst1_of_all t (i + 1) fun k x hx => ?_
    have := h (k + 1) x (by simpa using hx)
    rw [show i + ((k + 1 : Nat) : Int) = i + 1 + (k : Int) by omega] at this
    exact this
def fout {β R : Type} (out : R) (eb : β → R) : Option β → R
  | none => out
  | some b => eb b
theorem loop_chk {α β S R : Type} {F : S → Option (S ⊕ R)} (l : List α) (E : Int → α → Option β) (I : Int → S → Prop) (out : R) (eb : β → R)
    (hs : ∀ i x s, getI l i = some x → 0 ≤ i → i < (l.length : Int) → I i s → (∃ s', E i x = none ∧ F s = some (.inl s') ∧ I (i + 1) s') ∨ ∃ b, E i x = some b ∧ F s = some (.inr (eb b)))
    (he : ∀ s, I l.length s → F s = some (.inr out)) (s : S) (h : I 0 s) : loopC F s = some (fout out eb (fst1 E 0 l)) := by
  have key : ∀ (t : List α) (i : Int) (s : S), 0 ≤ i → i ≤ (l.length : Int) → l.drop i.toNat = t → I i s → loopC F s = some (fout out eb (fst1 E i t)) := by
    intro t
    induction t with
    | nil =>
      intro i s h0 h1 ht hI
      have : i = l.length := by
        have := List.drop_eq_nil_iff.1 ht
        omega
      subst this
      exact loopC_inr (he s hI)
    | cons x t ih =>
      intro i s h0 h1 ht hI
      have hlt : i < (l.length : Int) := by
        by_cases hlt : i < (l.length : Int)
        · exact hlt
        · rw [List.drop_of_length_le (by omega)] at ht; cases ht
      have hg := getI_ok (l := l) h0 hlt
      have hd : l.drop i.toNat = l[i.toNat]'(by omega) :: l.drop (i + 1).toNat := by
        rw [show (i + 1).toNat = i.toNat + 1 by omega]
        exact List.drop_eq_getElem_cons (by omega)
      rw [ht] at hd
      obtain ⟨hx, ht'⟩ := List.cons.inj hd
      rw [← hx] at hg
      rcases hs i x s hg h0 hlt hI with ⟨s', e1, e2, hI'⟩ | ⟨b, e1, e2⟩
      · rw [fst1_none e1, loopC_inl e2]
        exact ih (i + 1) s' (by omega) (by omega) ht'.symm hI'
      · rw [fst1_some e1]
        exact loopC_inr e2
  exact key l 0 s (Int.le_refl 0) (by omega) rfl h
theorem getI_get {α : Type} {l : List α} {i : Int} {x : α} (h : getI l i = some x) : l[i.toNat]? = some x := by
  unfold getI at h
  by_cases h0 : 0 ≤ i
  · rw [if_pos h0] at h; exact h
  · rw [if_neg h0] at h; cases h
theorem getI_of {α : Type} {l : List α} {i : Int} {x : α} (h0 : 0 ≤ i) (h : l[i.toNat]? = some x) : getI l i = some x := by
  unfold getI
  rw [if_pos h0, h]
theorem getI_lt {α : Type} {l : List α} {i : Int} {x : α} (h : getI l i = some x) : 0 ≤ i ∧ i < (l.length : Int) := by
  have h1 := getI_get h
  have h2 := (List.getElem?_eq_some_iff.1 h1).1
  unfold getI at h
  by_cases h0 : 0 ≤ i
  · exact ⟨h0, by omega⟩
  · rw [if_neg h0] at h; cases h

/-! ### Check -/
def swE (i : Int) (x : T_Switch) : Option Int :=
  if x.Above < -1 ∨ i ≤ x.Above then some 16 else if x.Since < 0 ∨ 2147483648 < x.Since then some 8 else if x.Shown < -1 ∨ 1 < x.Shown ∨ x.Late = true ∧ (x.Closed = true ∨ x.Shown = -1) then some 10 else none
def zonE (f : T_Feeder) (i : Int) (z : Int) : Option Int :=
  if z < 0 ∨ (f.Switches.length : Int) ≤ z then some 16 else if z ∈ f.Zones.take i.toNat then some 17 else none
def chk (f : T_Feeder) : Int :=
  if 32 < (f.Switches.length : Int) ∨ 16 < (f.Zones.length : Int) then 2 else
    match fst1 swE 0 f.Switches with
    | some e => e
    | none => match fst1 (zonE f) 0 f.Zones with
      | some e => e
      | none => if f.Reply < 1 ∨ 100000 < f.Reply then 1 else 0
theorem late_eq (x : T_Switch) : ((bif (decide (x.Shown < (-1))) then
          some true
        else
          bif (decide (1 < x.Shown)) then
            some true
          else
            bif x.Late then
              bif x.Closed then
                some true
              else
                some (decide (x.Shown = (-1)))
            else
              some false) : Option Bool) = some (decide (x.Shown < -1 ∨ 1 < x.Shown ∨ x.Late = true ∧ (x.Closed = true ∨ x.Shown = -1))) := by
  refine or_bif (or_bif ?_)
  cases x.Late <;> cases x.Closed <;> simp
theorem swL1 (f : T_Feeder) (hl : f.Switches.length ≤ 1000) : loopC (F_feeder_Check_L1 f) 0 = some (fout (Sum.inr ()) Sum.inl (fst1 swE 0 f.Switches)) := by
  refine loop_chk f.Switches swE (fun i (s : Int) => s = i) (Sum.inr ()) Sum.inl (fun i x s hg h0 h1 hI => ?_) (fun s hI => ?_) 0 rfl
  · subst hI
    unfold F_feeder_Check_L1 swE
    rw [bif_pos h1, hg, bind_some, or_bif rfl, bind_some]
    by_cases c1 : x.Above < -1 ∨ s ≤ x.Above
    · rw [bif_pos c1, if_pos c1]; exact .inr ⟨_, rfl, rfl⟩
    rw [bif_neg c1, if_neg c1, or_bif rfl, bind_some]
    by_cases c2 : x.Since < 0 ∨ 2147483648 < x.Since
    · rw [bif_pos c2, if_pos c2]; exact .inr ⟨_, rfl, rfl⟩
    rw [bif_neg c2, if_neg c2, late_eq, bind_some]
    by_cases c3 : x.Shown < -1 ∨ 1 < x.Shown ∨ x.Late = true ∧ (x.Closed = true ∨ x.Shown = -1)
    · rw [bif_pos c3, if_pos c3]; exact .inr ⟨_, rfl, rfl⟩
    rw [bif_neg c3, if_neg c3]
    exact .inl ⟨_, rfl, rfl, w64 (by omega) (by omega)⟩
  · subst hI
    unfold F_feeder_Check_L1
    rw [bif_neg (by omega)]
theorem mem_take_succ {l : List Int} {i : Int} {z : Int} (h : getI l i = some z) (k : Int) : k ∈ l.take (i + 1).toNat ↔ k ∈ l.take i.toNat ∨ k = z := by
  have h0 := getI_lt h
  rw [show (i + 1).toNat = i.toNat + 1 by omega, List.take_add_one, getI_get h]
  simp
theorem zL2 (f : T_Feeder) (hl : f.Switches.length ≤ 1000) (hz : f.Zones.length ≤ 1000) : loopC (F_feeder_Check_L2 f) (0, List.replicate f.Switches.length false) = some (fout (Sum.inr ()) Sum.inl (fst1 (zonE f) 0 f.Zones)) := by
  refine loop_chk f.Zones (zonE f) (fun i (s : Int × List Bool) => s.1 = i ∧ s.2.length = f.Switches.length ∧ ∀ k : Nat, k < f.Switches.length → s.2[k]? = some (decide ((k : Int) ∈ f.Zones.take i.toNat))) (Sum.inr ()) Sum.inl (fun i z s hg h0 h1 hI => ?_) (fun s hI => ?_) _ ⟨rfl, by simp, fun k hk => by simp [hk]⟩
  · obtain ⟨j, tk⟩ := s
    obtain ⟨rfl, hl2, ht⟩ := hI
    dsimp only at hl2 ht h0 h1 hg ⊢
    unfold F_feeder_Check_L2 zonE
    dsimp only
    rw [bif_pos h1, hg, bind_some, or_bif rfl, bind_some]
    by_cases c1 : z < 0 ∨ (f.Switches.length : Int) ≤ z
    · rw [bif_pos c1, if_pos c1]; exact .inr ⟨_, rfl, rfl⟩
    rw [bif_neg c1, if_neg c1]
    have hzz := ht z.toNat (by omega)
    rw [show ((z.toNat : Nat) : Int) = z by omega] at hzz
    rw [getI_of (by omega) hzz, bind_some]
    by_cases c2 : z ∈ f.Zones.take j.toNat
    · rw [bif_pos c2, if_pos c2]; exact .inr ⟨_, rfl, rfl⟩
    rw [bif_neg c2, if_neg c2, bind_some]
    refine .inl ⟨_, rfl, rfl, w64 (by omega) (by omega), by simpa using hl2, fun k hk => ?_⟩
    dsimp only
    by_cases e : k = z.toNat
    · subst e
      rw [List.getElem?_set_self (by omega)]
      congr 1
      exact (decide_eq_true ((mem_take_succ hg _).2 (.inr (by omega)))).symm
    · rw [List.getElem?_set_ne (by omega), ht k hk]
      congr 1
      refine decide_eq_decide.2 ⟨fun h => (mem_take_succ hg _).2 (.inl h), fun h => ?_⟩
      rcases (mem_take_succ hg _).1 h with h | h
      · exact h
      · omega
  · obtain ⟨j, tk⟩ := s
    obtain ⟨rfl, _, _⟩ := hI
    unfold F_feeder_Check_L2
    dsimp only at *
    rw [bif_neg (by omega)]
theorem mem_take_get {l : List Int} {n : Nat} {z : Int} : z ∈ l.take n ↔ ∃ k, k < n ∧ l[k]? = some z := by
  constructor
  · intro h
    obtain ⟨k, hk⟩ := List.mem_iff_getElem?.1 h
    have : k < n := by
      have := (List.getElem?_eq_some_iff.1 hk).1
      simp at this
      omega
    exact ⟨k, this, by rwa [List.getElem?_take_of_lt this] at hk⟩
  · rintro ⟨k, h1, h2⟩
    refine List.mem_iff_getElem?.2 ⟨k, ?_⟩
    rwa [List.getElem?_take_of_lt h1]
theorem chk_eq (f : T_Feeder) : F_feeder_Check f = some (chk f) := by
  unfold F_feeder_Check chk
  rw [or_bif rfl, bind_some]
  by_cases h : 32 < (f.Switches.length : Int) ∨ 16 < (f.Zones.length : Int)
  · rw [bif_pos h, if_pos h]
  rw [bif_neg h, if_neg h, swL1 f (by omega), bind_some]
  cases h1 : fst1 swE 0 f.Switches with
  | some e => rfl
  | none =>
    show Option.bind _ _ = _
    rw [makI_ok (by omega) (by omega), bind_some, Int.toNat_natCast, zL2 f (by omega) (by omega), bind_some]
    cases h2 : fst1 (zonE f) 0 f.Zones with
    | some e => rfl
    | none =>
      show Option.bind _ _ = _
      rw [or_bif rfl, bind_some, bif_ite]
      dsimp only
      split <;> rfl
/-! ### right networks -/
structure SwOk (i : Int) (x : T_Switch) : Prop where
  a0 : -1 ≤ x.Above
  a1 : x.Above < i
  s0 : 0 ≤ x.Since
  s1 : x.Since ≤ 2147483648
  h0 : -1 ≤ x.Shown
  h1 : x.Shown ≤ 1
  la : x.Late = true → x.Closed = false ∧ x.Shown ≠ -1
def SwsOk (l : List T_Switch) : Prop := ∀ (k : Nat) (x : T_Switch), l[k]? = some x → SwOk k x
structure FOk (f : T_Feeder) : Prop where
  n : f.Switches.length ≤ 32
  m : f.Zones.length ≤ 16
  sw : SwsOk f.Switches
  z : ∀ z ∈ f.Zones, 0 ≤ z ∧ z < (f.Switches.length : Int)
  nd : f.Zones.Nodup
  r0 : 1 ≤ f.Reply
  r1 : f.Reply ≤ 100000
theorem swE_none {i : Int} {x : T_Switch} : swE i x = none ↔ SwOk i x := by
  unfold swE
  by_cases c1 : x.Above < -1 ∨ i ≤ x.Above
  · rw [if_pos c1]; exact ⟨fun h => (by cases h), fun h => by have := h.a0; have := h.a1; omega⟩
  rw [if_neg c1]
  by_cases c2 : x.Since < 0 ∨ 2147483648 < x.Since
  · rw [if_pos c2]; exact ⟨fun h => (by cases h), fun h => by have := h.s0; have := h.s1; omega⟩
  rw [if_neg c2]
  by_cases c3 : x.Shown < -1 ∨ 1 < x.Shown ∨ x.Late = true ∧ (x.Closed = true ∨ x.Shown = -1)
  · rw [if_pos c3]
    refine ⟨fun h => (by cases h), fun h => ?_⟩
    rcases c3 with c | c | ⟨c, d⟩
    · have := h.h0; omega
    · have := h.h1; omega
    · rcases d with d | d
      · rw [(h.la c).1] at d; cases d
      · exact absurd d (h.la c).2
  · rw [if_neg c3]
    refine ⟨fun _ => ⟨by omega, by omega, by omega, by omega, by omega, by omega, fun hl => ⟨?_, fun h => c3 (.inr (.inr ⟨hl, .inr h⟩))⟩⟩, fun _ => rfl⟩
    cases hc : x.Closed with
    | false => rfl
    | true => exact absurd (.inr (.inr ⟨hl, .inl hc⟩)) c3
theorem nodup_take {l : List Int} : l.Nodup ↔ ∀ (k : Nat) (z : Int), l[k]? = some z → z ∉ l.take k := by
  unfold List.Nodup
  rw [List.pairwise_iff_getElem]
  constructor
  · intro h k z hk hm
    obtain ⟨j, hj, hz⟩ := mem_take_get.1 hm
    obtain ⟨hk1, hk2⟩ := List.getElem?_eq_some_iff.1 hk
    obtain ⟨hz1, hz2⟩ := List.getElem?_eq_some_iff.1 hz
    exact h j k hz1 hk1 hj (hz2.trans hk2.symm)
  · intro h i j hi hj hij he
    exact h j _ (List.getElem?_eq_getElem hj) (mem_take_get.2 ⟨i, hij, by rw [List.getElem?_eq_getElem hi, he]⟩)
theorem chk_zero (f : T_Feeder) : chk f = 0 ↔ FOk f := by
  unfold chk
  by_cases h : 32 < (f.Switches.length : Int) ∨ 16 < (f.Zones.length : Int)
  · rw [if_pos h]
    exact ⟨fun h => (by cases h), fun g => by have := g.n; have := g.m; omega⟩
  rw [if_neg h]
  cases h1 : fst1 swE 0 f.Switches with
  | some e =>
    refine ⟨fun he => ?_, fun g => ?_⟩
    · dsimp only at he
      subst he
      exfalso
      have key : ∀ (t : List T_Switch) (i : Int), fst1 swE i t ≠ some 0 := by
        intro t
        induction t with
        | nil => intro i h; cases h
        | cons y t ih =>
          intro i h
          cases hy : swE i y with
          | none => rw [fst1_none hy] at h; exact ih _ h
          | some b =>
            rw [fst1_some hy] at h
            cases h
            unfold swE at hy
            split at hy
            · cases hy
            split at hy
            · cases hy
            split at hy
            · cases hy
            · cases hy
      exact key _ _ h1
    · rw [fst1_of_all f.Switches 0 (fun k x hx => swE_none.2 (by simpa using g.sw k x hx))] at h1
      cases h1
  | none =>
    have hsw : SwsOk f.Switches := fun k x hx => by simpa using swE_none.1 (fst1_all _ _ h1 k x hx)
    dsimp only
    cases h2 : fst1 (zonE f) 0 f.Zones with
    | some e =>
      refine ⟨fun he => ?_, fun g => ?_⟩
      · dsimp only at he
        subst he
        exfalso
        have key : ∀ (t : List Int) (i : Int), fst1 (zonE f) i t ≠ some 0 := by
          intro t
          induction t with
          | nil => intro i h; cases h
          | cons y t ih =>
            intro i h
            cases hy : zonE f i y with
            | none => rw [fst1_none hy] at h; exact ih _ h
            | some b =>
              rw [fst1_some hy] at h
              cases h
              unfold zonE at hy
              split at hy
              · cases hy
              split at hy
              · cases hy
              · cases hy
        exact key _ _ h2
      · rw [fst1_of_all f.Zones 0 (fun k z hz => ?_)] at h2
        · cases h2
        · have hm := g.z z (List.mem_of_getElem? hz)
          unfold zonE
          rw [if_neg (by omega), if_neg]
          simpa using nodup_take.1 g.nd k z hz
    | none =>
      have hzz : ∀ (k : Nat) (z : Int), f.Zones[k]? = some z → (0 ≤ z ∧ z < (f.Switches.length : Int)) ∧ z ∉ f.Zones.take k := fun k z hz => by
        have := fst1_all _ _ h2 k z hz
        unfold zonE at this
        by_cases c1 : z < 0 ∨ (f.Switches.length : Int) ≤ z
        · rw [if_pos c1] at this; cases this
        rw [if_neg c1] at this
        by_cases c2 : z ∈ f.Zones.take (0 + (k : Int)).toNat
        · rw [if_pos c2] at this; cases this
        exact ⟨by omega, by simpa using c2⟩
      dsimp only
      by_cases h3 : f.Reply < 1 ∨ 100000 < f.Reply
      · rw [if_pos h3]; exact ⟨fun h => (by cases h), fun g => by have := g.r0; have := g.r1; omega⟩
      · rw [if_neg h3]
        refine ⟨fun _ => ⟨by omega, by omega, hsw, fun z hz => ?_, nodup_take.2 fun k z hz => (hzz k z hz).2, by omega, by omega⟩, fun _ => rfl⟩
        obtain ⟨k, hk⟩ := List.mem_iff_getElem?.1 hz
        exact (hzz k z hk).1

theorem pigeon : ∀ (n : Nat) (l : List Int), (∀ j : Nat, j < n → (j : Int) ∈ l) → n ≤ l.length
  | 0, _, _ => Nat.zero_le _
  | n + 1, l, h => by
    have h1 := h n (Nat.lt_succ_self n)
    have h2 := pigeon n (l.erase (n : Int)) fun j hj => (List.mem_erase_of_ne (by omega)).2 (h j (by omega))
    rw [List.length_erase_of_mem h1] at h2
    have := List.length_pos_of_mem h1
    omega
def New (l : List T_Switch) : Prop := SwsOk l ∧ ∀ x ∈ l, x.Since = 0 ∧ x.Late = false
theorem swsOk_push {l : List T_Switch} {x : T_Switch} (h : SwsOk l) (hx : SwOk l.length x) : SwsOk (l ++ [x]) := by
  intro k y hk
  by_cases c : k < l.length
  · rw [List.getElem?_append_left c] at hk; exact h k y hk
  · have hlt := (List.getElem?_eq_some_iff.1 hk).1
    simp at hlt
    have : k = l.length := by omega
    subst this
    simp at hk
    subst hk
    exact hx
theorem new_push {l : List T_Switch} {x : T_Switch} (h : New l) (hx : SwOk l.length x) (h0 : x.Since = 0) (h1 : x.Late = false) : New (l ++ [x]) := by
  refine ⟨swsOk_push h.1 hx, fun y hy => ?_⟩
  rcases List.mem_append.1 hy with hy | hy
  · exact h.2 y hy
  · simp at hy; subst hy; exact ⟨h0, h1⟩
theorem truth_ok (c : T_draw_Codes) (hc : CodesOk c) : Ok (F_draw_Codes_Truth c) fun r => CodesOk r.1 ∧ -1 ≤ r.2 ∧ r.2 ≤ 1 := by
  unfold F_draw_Codes_Truth
  refine ok_bind (next_lt c 3 hc (by decide)) fun x hx => ok_some ⟨hx.1, ?_, ?_⟩
  · dsimp only; rw [w64 (by omega) (by omega)]; omega
  · dsimp only; rw [w64 (by omega) (by omega)]; omega
theorem fdL1 (z : Int) (x3 : T_draw_Codes × Int) (hx : CodesOk x3.1) (h0 : 0 ≤ z + x3.2) (h1 : z + x3.2 ≤ 30) : Ok (loopC (F_draw_Codes_Feeder_L1 z x3) (0, [], x3.1)) fun r => CodesOk r.2 ∧ New r.1 ∧ (r.1.length : Int) = max (z + x3.2) 1 := by
  refine ok_loop (fun s : Int × List T_Switch × T_draw_Codes => 0 ≤ s.1 ∧ s.1 ≤ max (z + x3.2) 1 ∧ (s.2.1.length : Int) = s.1 ∧ New s.2.1 ∧ CodesOk s.2.2) (fun s => (max (z + x3.2) 1 - s.1).toNat) _ (fun s hs => ?_) _ ⟨Int.le_refl 0, by dsimp only; omega, rfl, ⟨(fun k x h => by simp at h), (fun x h => by cases h)⟩, hx⟩
  obtain ⟨i, l, c⟩ := s
  obtain ⟨i0, i1, hl, hn, hc⟩ := hs
  dsimp only at i0 i1 hl hn hc
  unfold F_draw_Codes_Feeder_L1
  dsimp only
  rw [w64 (n := z + x3.2) (by omega) (by omega)]
  refine ok_dec (fun hlt => ?_) (fun hge => ok_some ⟨hc, hn, by show (l.length : Int) = _; omega⟩)
  rw [w64 (n := i + 1) (by omega) (by omega)]
  refine ok_bind (next_lt c _ hc (by omega)) fun a ha => ?_
  refine ok_bind (one_ok a.1 2 ha.1 (by decide)) fun b hb => ?_
  refine ok_bind (truth_ok b.1 hb) fun t ht => ?_
  rw [w64 (n := a.2 - 1) (by omega) (by omega), appI_ok (by simp; omega), bind_some]
  refine ok_some ⟨⟨by dsimp only; omega, by dsimp only; omega, by simp; omega, new_push hn ⟨by dsimp only; omega, by dsimp only; omega, Int.le_refl 0, (by show (0 : Int) ≤ 2147483648; decide), ht.2.1, ht.2.2, (fun h => by cases h)⟩ rfl rfl, ht.1⟩, by dsimp only; omega⟩
structure Tk (n : Nat) (free : List Bool) (zs : List Int) : Prop where
  l : free.length = n
  f : ∀ k : Nat, k < n → free[k]? = some (decide ((k : Int) ∈ zs))
  r : ∀ z ∈ zs, 0 ≤ z ∧ z < (n : Int)
  nd : zs.Nodup
theorem fdL3 (s : Int × T_Feeder × List Bool × T_draw_Codes) (n : Nat) (hn : n ≤ 100) (hT : Tk n s.2.2.1 s.2.1.Zones) (hlt : s.2.1.Zones.length < n) (k : Int) (h0 : 0 ≤ k) (h1 : k < n) :
    Ok (loopC (F_draw_Codes_Feeder_L3 s) (k, s.2.1)) fun r => r.2 = s.2.1 ∧ 0 ≤ r.1 ∧ r.1 < n ∧ r.1 ∉ s.2.1.Zones := by
  have ⟨j, hj, hz⟩ : ∃ j : Nat, j < n ∧ (j : Int) ∉ s.2.1.Zones := by
    apply Classical.byContradiction
    intro hh
    have := pigeon n s.2.1.Zones fun j hj => Classical.byContradiction fun h => hh ⟨j, hj, h⟩
    omega
  refine ok_loop (fun a : Int × T_Feeder => 0 ≤ a.1 ∧ a.1 < n ∧ a.2 = s.2.1) (fun a => (if a.1 ≤ j then j - a.1 else j + n - a.1).toNat) _ (fun a ha => ?_) _ ⟨h0, h1, rfl⟩
  obtain ⟨k, f⟩ := a
  obtain ⟨k0, k1, hf⟩ := ha
  dsimp only at k0 k1 hf
  unfold F_draw_Codes_Feeder_L3
  dsimp only
  have hg := hT.f k.toNat (by omega)
  rw [show ((k.toNat : Nat) : Int) = k by omega] at hg
  rw [getI_of k0 hg, bind_some, hT.l]
  refine ok_dec (fun hm => ?_) (fun hm => ok_some ⟨hf, k0, k1, hm⟩)
  have hkj : k ≠ j := fun e => hz (e ▸ hm)
  rw [w64 (n := k + 1) (by omega) (by omega), remI_ok (by omega), bind_some]
  refine ok_some ?_
  have hm : (k + 1).tmod n = if k + 1 = n then 0 else k + 1 := by
    split
    · rename_i e; rw [e, Int.tmod_self]
    · exact Int.tmod_eq_of_lt (by omega) (by omega)
  rw [hm]
  refine ⟨⟨?_, ?_, hf⟩, ?_⟩
  · dsimp only; split <;> omega
  · dsimp only; split <;> omega
  · dsimp only
    split
    · rw [if_pos (by omega), if_neg (by omega)]; omega
    · by_cases c : k ≤ j
      · rw [if_pos (by omega), if_pos c]; omega
      · rw [if_neg (by omega), if_neg c]; omega
theorem fdL2 (z : Int) (hz : 0 ≤ z) (f : T_Feeder) (hf : f.Zones = []) (hl0 : 1 ≤ f.Switches.length) (hl : f.Switches.length ≤ 100) (hzl : z ≤ (f.Switches.length : Int)) (c : T_draw_Codes) (hc : CodesOk c) :
    Ok (loopC (F_draw_Codes_Feeder_L2 z) (0, f, List.replicate f.Switches.length false, c)) fun r => CodesOk r.2 ∧ r.1.Switches = f.Switches ∧ r.1.Reply = f.Reply ∧ (r.1.Zones.length : Int) = z ∧ r.1.Zones.Nodup ∧ ∀ z ∈ r.1.Zones, 0 ≤ z ∧ z < (f.Switches.length : Int) := by
  refine ok_loop (fun s : Int × T_Feeder × List Bool × T_draw_Codes => 0 ≤ s.1 ∧ s.1 ≤ z ∧ (s.2.1.Zones.length : Int) = s.1 ∧ Tk f.Switches.length s.2.2.1 s.2.1.Zones ∧ CodesOk s.2.2.2 ∧ s.2.1.Switches = f.Switches ∧ s.2.1.Reply = f.Reply) (fun s => (z - s.1).toNat) _ (fun s hs => ?_) _ ⟨Int.le_refl 0, hz, by show (f.Zones.length : Int) = 0; rw [hf]; rfl, ?_, hc, rfl, rfl⟩
  · obtain ⟨i, g, fr, cc⟩ := s
    obtain ⟨i0, i1, hzn, hT, hcc, hgs, hgr⟩ := hs
    dsimp only at i0 i1 hzn hT hcc hgs hgr
    unfold F_draw_Codes_Feeder_L2
    dsimp only
    refine ok_dec (fun hlt => ?_) (fun hge => ok_some ⟨hcc, hgs, hgr, by show (g.Zones.length : Int) = _; omega, hT.nd, hT.r⟩)
    rw [hgs]
    refine ok_bind (next_lt cc _ hcc (by omega)) fun a ha => ?_
    refine ok_bind (fdL3 (i, g, fr, cc) f.Switches.length hl hT (by dsimp only; omega) a.2 ha.2.1 ha.2.2) fun b hb => ?_
    obtain ⟨b1, b2, b3, b4⟩ := hb
    dsimp only at b1 b4
    have hg := hT.f b.1.toNat (by omega)
    rw [getI_of b2 hg, bind_some, b1, appI_ok (by simp; omega), bind_some, w64 (n := i + 1) (by omega) (by omega)]
    refine ok_some ⟨⟨by dsimp only; omega, by dsimp only; omega, by simp; omega, ⟨by simpa using hT.l, fun k hk => ?_, fun x hx => ?_, ?_⟩, ha.1, hgs, hgr⟩, by dsimp only; omega⟩
    · dsimp only
      by_cases e : k = b.1.toNat
      · subst e
        rw [List.getElem?_set_self (by rw [hT.l]; exact hk)]
        congr 1
        refine (decide_eq_true (List.mem_append.2 (.inr ?_))).symm
        simp; omega
      · rw [List.getElem?_set_ne (by omega), hT.f k hk]
        congr 1
        refine decide_eq_decide.2 ⟨fun h => List.mem_append.2 (.inl h), fun h => ?_⟩
        rcases List.mem_append.1 h with h | h
        · exact h
        · simp at h; omega
    · rcases List.mem_append.1 hx with h | h
      · exact hT.r x h
      · simp at h; omega
    · dsimp only
      refine List.nodup_append.2 ⟨hT.nd, by simp, fun x hx y hy e => ?_⟩
      simp at hy
      subst hy
      subst e
      exact b4 hx
  · rw [hf]
    exact ⟨by simp, fun k hk => by simp [hk], (fun z h => by cases h), by simp⟩
structure Drawn (z : Int) (f : T_Feeder) : Prop where
  ok : FOk f
  l : 1 ≤ f.Switches.length
  z : (f.Zones.length : Int) = z
  new : New f.Switches
theorem feeder_ok (c : T_draw_Codes) (z : Int) (hc : CodesOk c) (h0 : 0 ≤ z) (h1 : z ≤ 16) : Ok (F_draw_Codes_Feeder c z) fun r => CodesOk r.1 ∧ Drawn z r.2 := by
  unfold F_draw_Codes_Feeder
  refine ok_bind (range_ok c 1 9 hc (by decide) (by decide) (by decide)) fun a ha => ?_
  refine ok_bind (next_lt a.1 3 ha.1 (by decide)) fun b hb => ?_
  refine ok_bind (fdL1 z b hb.1 (by omega) (by omega)) fun o ho => ?_
  obtain ⟨o1, o2, o3⟩ := ho
  rw [makI_ok (by omega) (by omega), bind_some, Int.toNat_natCast]
  refine ok_bind (fdL2 z h0 ⟨o.1, [], a.2⟩ rfl (by dsimp only; omega) (by dsimp only; omega) (by dsimp only; omega) o.2 o1) fun r hr => ok_some ⟨hr.1, ?_⟩
  obtain ⟨r1, r2, r3, r4, r5, r6⟩ := hr
  dsimp only at r2 r3 r6
  refine ⟨⟨?_, ?_, ?_, ?_, r5, ?_, ?_⟩, ?_, r4, ?_⟩
  · dsimp only; rw [r2]; omega
  · dsimp only; omega
  · dsimp only; rw [r2]; exact o2.1
  · dsimp only; rw [r2]; exact r6
  · dsimp only; rw [r3]; omega
  · dsimp only; rw [r3]; omega
  · dsimp only; rw [r2]; omega
  · dsimp only; rw [r2]; exact o2

def noF : T_Feeder := ⟨[], [], 0⟩
/-! ### time, and what an order may be -/
def Timely (f : T_Feeder) (t : Int) : Prop := 0 ≤ t ∧ t ≤ 2147483648 ∧ ∀ x ∈ f.Switches, x.Since ≤ t
instance (f : T_Feeder) (t : Int) : Decidable (Timely f t) := by unfold Timely; infer_instance
theorem timL1 (f : T_Feeder) (t : Int) (hl : f.Switches.length ≤ 1000) : loopC (F_feeder_timely_L1 f t) 0 = some (fout (Sum.inr ()) Sum.inl (fst1 (fun _ (x : T_Switch) => if t < x.Since then some () else none) 0 f.Switches)) := by
  refine loop_chk f.Switches (fun _ (x : T_Switch) => if t < x.Since then some () else none) (fun i (s : Int) => s = i) (Sum.inr ()) Sum.inl (fun i x s hg h0 h1 hI => ?_) (fun s hI => ?_) 0 rfl
  · subst hI
    unfold F_feeder_timely_L1
    rw [bif_pos h1, hg, bind_some]
    by_cases c : t < x.Since
    · rw [bif_pos c, if_pos c]; exact .inr ⟨_, rfl, rfl⟩
    · rw [bif_neg c, if_neg c]; exact .inl ⟨_, rfl, rfl, w64 (by omega) (by omega)⟩
  · subst hI
    unfold F_feeder_timely_L1
    rw [bif_neg (by omega)]
theorem timely_eq (f : T_Feeder) (t : Int) (hl : f.Switches.length ≤ 1000) : F_feeder_timely f t = some (decide (Timely f t)) := by
  unfold F_feeder_timely
  rw [or_bif rfl, bind_some]
  by_cases c : t < 0 ∨ 2147483648 < t
  · rw [bif_pos c, decide_eq_false (fun h => by have := h.1; have := h.2.1; omega)]
  rw [bif_neg c, timL1 f t hl, bind_some]
  cases h : fst1 (fun _ (x : T_Switch) => if t < x.Since then some () else none) 0 f.Switches with
  | some u =>
    show some false = _
    rw [decide_eq_false]
    intro hh
    rw [fst1_of_all] at h
    · cases h
    · intro k x hx
      exact if_neg (by have := hh.2.2 x (List.mem_of_getElem? hx); omega)
  | none =>
    show some true = _
    rw [decide_eq_true]
    refine ⟨by omega, by omega, fun x hx => ?_⟩
    obtain ⟨k, hk⟩ := List.mem_iff_getElem?.1 hx
    have := fst1_all _ _ h k x hk
    by_cases c : t < x.Since
    · simp [c] at this
    · omega
def canE (f : T_Feeder) (s t : Int) : Int := if chk f ≠ 0 then chk f else if s < 0 ∨ (f.Switches.length : Int) ≤ s then 16 else if Timely f t then 0 else 8
theorem can_eq (f : T_Feeder) (s t : Int) : F_feeder_can f s t = some (canE f s t) := by
  unfold F_feeder_can canE
  rw [chk_eq, bind_some]
  by_cases c : chk f ≠ 0
  · rw [bif_pos c, if_pos c]
  rw [bif_neg c, if_neg c, or_bif rfl, bind_some]
  have hf := (chk_zero f).1 (Classical.not_not.1 c)
  by_cases c1 : s < 0 ∨ (f.Switches.length : Int) ≤ s
  · rw [bif_pos c1, if_pos c1]
  rw [bif_neg c1, if_neg c1, timely_eq f t (by have := hf.n; omega), bind_some]
  by_cases c2 : Timely f t
  · rw [if_pos c2, decide_eq_true c2]; rfl
  · rw [if_neg c2, decide_eq_false c2]; rfl
theorem canE_zero {f : T_Feeder} {s t : Int} (h : canE f s t = 0) : FOk f ∧ 0 ≤ s ∧ s < (f.Switches.length : Int) ∧ Timely f t := by
  unfold canE at h
  by_cases c : chk f ≠ 0
  · rw [if_pos c] at h; exact absurd h c
  rw [if_neg c] at h
  by_cases c1 : s < 0 ∨ (f.Switches.length : Int) ≤ s
  · rw [if_pos c1] at h; cases h
  rw [if_neg c1] at h
  by_cases c2 : Timely f t
  · exact ⟨(chk_zero f).1 (Classical.not_not.1 c), by omega, by omega, c2⟩
  · rw [if_neg c2] at h; cases h
theorem canE_ok {f : T_Feeder} {s t : Int} (hf : FOk f) (h0 : 0 ≤ s) (h1 : s < (f.Switches.length : Int)) (ht : Timely f t) : canE f s t = 0 := by
  unfold canE
  rw [if_neg (Classical.not_not.2 ((chk_zero f).2 hf)), if_neg (by omega), if_pos ht]
theorem clone_eq (f : T_Feeder) (hf : FOk f) : F_feeder_clone f = some f := by
  unfold F_feeder_clone
  have h1 := hf.n
  have h2 := hf.m
  rw [appI_ok (by simp; omega), bind_some, appI_ok (by simp; omega), bind_some]
  rfl
/-! ### one switch changed -/
def md (l : List T_Switch) (k : Nat) (g : T_Switch → T_Switch) : List T_Switch :=
  match l[k]? with
  | some x => l.set k (g x)
  | none => l
theorem md_some {l : List T_Switch} {k : Nat} {g : T_Switch → T_Switch} {x : T_Switch} (h : l[k]? = some x) : md l k g = l.set k (g x) := by unfold md; rw [h]
theorem md_len {l : List T_Switch} {k : Nat} {g : T_Switch → T_Switch} : (md l k g).length = l.length := by
  unfold md
  cases l[k]? <;> simp
theorem md_get {l : List T_Switch} {k : Nat} {g : T_Switch → T_Switch} {j : Nat} {y : T_Switch} (h : (md l k g)[j]? = some y) : ∃ x, l[j]? = some x ∧ (j = k ∧ y = g x ∨ j ≠ k ∧ y = x) := by
  unfold md at h
  cases hk : l[k]? with
  | none =>
    rw [hk] at h
    refine ⟨y, h, .inr ⟨fun e => ?_, rfl⟩⟩
    subst e
    dsimp only at h
    rw [hk] at h
    cases h
  | some x =>
    rw [hk] at h
    dsimp only at h
    by_cases e : j = k
    · subst e
      have := (List.getElem?_eq_some_iff.1 hk).1
      rw [List.getElem?_set_self this] at h
      exact ⟨x, hk, .inl ⟨rfl, (Option.some.inj h).symm⟩⟩
    · rw [List.getElem?_set_ne (fun h => e h.symm)] at h
      exact ⟨y, h, .inr ⟨e, rfl⟩⟩
theorem md_ne {l : List T_Switch} {k j : Nat} {g : T_Switch → T_Switch} (h : j ≠ k) : (md l k g)[j]? = l[j]? := by
  unfold md
  cases l[k]? with
  | none => rfl
  | some x => exact List.getElem?_set_ne (fun e => h e.symm)
theorem swsOk_md {l : List T_Switch} {k : Nat} {g : T_Switch → T_Switch} (h : SwsOk l) (hg : ∀ x, l[k]? = some x → SwOk k (g x)) : SwsOk (md l k g) := by
  intro j y hj
  obtain ⟨x, hx, ⟨rfl, rfl⟩ | ⟨_, rfl⟩⟩ := md_get hj
  · exact hg x hx
  · exact h j y hx
def told (t : Int) (x : T_Switch) : T_Switch := ⟨x.Above, t, 0, false, false⟩
def opn (t : Int) (x : T_Switch) : T_Switch := if x.Closed = true then told t x else x
def cls (t : Int) (x : T_Switch) : T_Switch := ⟨x.Above, t, 0, true, false⟩
def ans (v : Int) (x : T_Switch) : T_Switch := ⟨x.Above, x.Since, v, x.Closed, x.Late && decide (v ≠ -1)⟩
def lat (x : T_Switch) : T_Switch := ⟨x.Above, x.Since, x.Shown, x.Closed, true⟩
def shw (l : List T_Switch) (k : Int) : Int := ((l[k.toNat]?).map (·.Shown)).getD 0
theorem shw_get {l : List T_Switch} {k : Int} {x : T_Switch} (h : l[k.toNat]? = some x) : shw l k = x.Shown := by unfold shw; rw [h]; rfl
theorem told_ok {i : Int} {t : Int} {x : T_Switch} (h : SwOk i x) (h0 : 0 ≤ t) (h1 : t ≤ 2147483648) : SwOk i (told t x) := ⟨h.a0, h.a1, h0, h1, (by show (-1 : Int) ≤ 0; decide), (by show (0 : Int) ≤ 1; decide), fun h => by cases h⟩
theorem cls_ok {i : Int} {t : Int} {x : T_Switch} (h : SwOk i x) (h0 : 0 ≤ t) (h1 : t ≤ 2147483648) : SwOk i (cls t x) := ⟨h.a0, h.a1, h0, h1, (by show (-1 : Int) ≤ 0; decide), (by show (0 : Int) ≤ 1; decide), fun h => by cases h⟩
theorem opn_ok {i : Int} {t : Int} {x : T_Switch} (h : SwOk i x) (h0 : 0 ≤ t) (h1 : t ≤ 2147483648) : SwOk i (opn t x) := by
  unfold opn
  split
  · exact told_ok h h0 h1
  · exact h
theorem ans_ok {i : Int} {v : Int} {x : T_Switch} (h : SwOk i x) (hv : v = 1 ∨ v = -1) : SwOk i (ans v x) := by
  refine ⟨h.a0, h.a1, h.s0, h.s1, by show -1 ≤ v; omega, by show v ≤ 1; omega, fun hl => ?_⟩
  have hl : (x.Late && decide (v ≠ -1)) = true := hl
  rw [Bool.and_eq_true, decide_eq_true_eq] at hl
  exact ⟨(h.la hl.1).1, hl.2⟩
theorem setF {f : T_Feeder} {l : List T_Switch} (hf : FOk f) (hl : l.length = f.Switches.length) (h : SwsOk l) : FOk ⟨l, f.Zones, f.Reply⟩ :=
  ⟨by show l.length ≤ 32; rw [hl]; exact hf.n, hf.m, h, by show ∀ z ∈ f.Zones, 0 ≤ z ∧ z < (l.length : Int); rw [hl]; exact hf.z, hf.nd, hf.r0, hf.r1⟩

/-! ### Open -/
def openF (f : T_Feeder) (s t : Int) : T_Feeder × Int := if canE f s t ≠ 0 then (noF, canE f s t) else (⟨md f.Switches s.toNat (opn t), f.Zones, f.Reply⟩, 0)
theorem set_same {l : List T_Switch} {k : Nat} {x : T_Switch} (h : l[k]? = some x) : l.set k x = l := by
  obtain ⟨h1, h2⟩ := List.getElem?_eq_some_iff.1 h
  subst h2
  exact List.set_getElem_self h1
theorem opn_in (f : T_Feeder) (s t : Int) (x : T_Switch) (hg : getI f.Switches s = some x) : F_feeder_open f s t = some (md f.Switches s.toNat (opn t), x.Closed) := by
  unfold F_feeder_open
  rw [hg, bind_some, md_some (getI_get hg)]
  unfold opn told
  cases h : x.Closed with
  | false =>
    show some _ = some (f.Switches.set s.toNat (if false = true then _ else x), false)
    rw [if_neg (by decide), set_same (getI_get hg)]
  | true =>
    show some _ = some (f.Switches.set s.toNat (if true = true then _ else x), true)
    rw [if_pos rfl]
    simp only [List.set_set]
theorem open_eq (f : T_Feeder) (s t : Int) : F_feeder_Open f s t = some (openF f s t) := by
  unfold F_feeder_Open openF
  rw [can_eq, bind_some]
  by_cases c : canE f s t ≠ 0
  · rw [bif_pos c, if_pos c]; rfl
  rw [bif_neg c, if_neg c]
  obtain ⟨hf, h0, h1, ht⟩ := canE_zero (Classical.not_not.1 c)
  rw [clone_eq f hf, bind_some, opn_in f s t _ (getI_ok h0 h1), bind_some]
/-! ### Close -/
def mayNot (f : T_Feeder) (s : Int) : Prop := shw f.Switches s ≠ -1 ∨ ∃ x, f.Switches[s.toNat]? = some x ∧ 0 ≤ x.Above ∧ shw f.Switches x.Above ≠ 1
def closeF (f : T_Feeder) (s t : Int) : T_Feeder × Int :=
  if canE f s t ≠ 0 then (noF, canE f s t) else
    match f.Switches[s.toNat]? with
    | none => (noF, 0)
    | some x => if x.Shown ≠ -1 ∨ 0 ≤ x.Above ∧ shw f.Switches x.Above ≠ 1 then (noF, 10) else (⟨md f.Switches s.toNat (cls t), f.Zones, f.Reply⟩, 0)
theorem above_get {f : T_Feeder} (hf : FOk f) {s : Int} {x : T_Switch} (hx : getI f.Switches s = some x) (ha : 0 ≤ x.Above) : ∃ y, getI f.Switches x.Above = some y := by
  have h1 := getI_lt hx
  have := (hf.sw s.toNat x (getI_get hx)).a1
  exact ⟨_, getI_ok ha (by omega)⟩
theorem close_eq (f : T_Feeder) (s t : Int) : F_feeder_Close f s t = some (closeF f s t) := by
  unfold F_feeder_Close closeF
  rw [can_eq, bind_some]
  by_cases c : canE f s t ≠ 0
  · rw [bif_pos c, if_pos c]; rfl
  rw [bif_neg c, if_neg c]
  obtain ⟨hf, h0, h1, ht⟩ := canE_zero (Classical.not_not.1 c)
  have hg := getI_ok h0 h1
  rw [getI_get hg, hg, bind_some]
  generalize f.Switches[s.toNat]'(by omega) = x at *
  dsimp only
  have e : ((bif decide (0 ≤ x.Above) then (getI f.Switches x.Above).bind fun x9 => some (decide (x9.Shown ≠ 1)) else some false) : Option Bool) = some (decide (0 ≤ x.Above ∧ shw f.Switches x.Above ≠ 1)) := by
    by_cases ha : 0 ≤ x.Above
    · obtain ⟨y, hy⟩ := above_get hf hg ha
      rw [hy, bind_some, shw_get (getI_get hy)]
      exact and_bif rfl
    · rw [bif_neg ha, decide_eq_false (fun h => ha h.1)]
  rw [or_bif e, bind_some]
  by_cases c1 : x.Shown ≠ -1 ∨ 0 ≤ x.Above ∧ shw f.Switches x.Above ≠ 1
  · rw [bif_pos c1, if_pos c1]; rfl
  · rw [bif_neg c1, if_neg c1, clone_eq f hf, bind_some, hg, bind_some, md_some (getI_get hg)]; rfl
/-! ### Answer -/
def ansF (f : T_Feeder) (s v : Int) : T_Feeder × Int :=
  if chk f ≠ 0 then (noF, chk f) else if s < 0 ∨ (f.Switches.length : Int) ≤ s then (noF, 16) else if v ≠ 1 ∧ v ≠ -1 then (noF, 10) else (⟨md f.Switches s.toNat (ans v), f.Zones, f.Reply⟩, 0)
theorem answer_eq (f : T_Feeder) (s v : Int) : F_feeder_Answer f s v = some (ansF f s v) := by
  unfold F_feeder_Answer ansF
  rw [chk_eq, bind_some]
  by_cases c : chk f ≠ 0
  · rw [bif_pos c, if_pos c]; rfl
  rw [bif_neg c, if_neg c, or_bif rfl, bind_some]
  have hf := (chk_zero f).1 (Classical.not_not.1 c)
  by_cases c1 : s < 0 ∨ (f.Switches.length : Int) ≤ s
  · rw [bif_pos c1, if_pos c1]; rfl
  rw [bif_neg c1, if_neg c1, and_bif rfl, bind_some]
  by_cases c2 : v ≠ 1 ∧ v ≠ -1
  · rw [bif_pos c2, if_pos c2]; rfl
  rw [bif_neg c2, if_neg c2]
  have hg := getI_ok (l := f.Switches) (i := s) (by omega) (by omega)
  rw [clone_eq f hf, bind_some, hg, bind_some, md_some (getI_get hg)]
  generalize f.Switches[s.toNat]'(by omega) = x at *
  have hs : getI (f.Switches.set s.toNat (T_Switch.mk x.Above x.Since v x.Closed x.Late)) s = some (T_Switch.mk x.Above x.Since v x.Closed x.Late) := getI_of (by omega) (by rw [List.getElem?_set_self (by omega)])
  rw [hs, bind_some]
  unfold ans
  cases h : x.Late with
  | false =>
    rw [cond_false, bind_some, bind_some, List.set_set, Bool.false_and]
  | true =>
    rw [cond_true, bind_some, bind_some, List.set_set, Bool.true_and]
/-! ### Tick -/
abbrev TS := List Int × List Int × List T_Switch
def Idle (r t : Int) (x : T_Switch) : Prop := x.Closed = true ∨ x.Shown = -1 ∨ x.Late = true ∨ t - x.Since < r
instance (r t : Int) (x : T_Switch) : Decidable (Idle r t x) := by unfold Idle; infer_instance
def tkO (t : Int) (i : Nat) (s : TS) (a : Int) (l1 : List T_Switch) : Option T_Switch → TS
  | some y => if y.Closed = true then (s.1 ++ [(i : Int)], s.2.1 ++ [a], l1.set a.toNat (told t y)) else (s.1 ++ [(i : Int)], s.2.1, l1)
  | none => (s.1 ++ [(i : Int)], s.2.1, l1)
def tkS (r t : Int) (i : Nat) (s : TS) : TS :=
  match s.2.2[i]? with
  | none => s
  | some x => if Idle r t x then s else tkO t i s x.Above (s.2.2.set i (lat x)) (if 0 ≤ x.Above then s.2.2[x.Above.toNat]? else none)
def tkR (r t : Int) : Nat → TS → TS
  | 0, s => s
  | i + 1, s => tkR r t i (tkS r t i s)
structure TI (n : Nat) (t : Int) (k : Nat) (s : TS) : Prop where
  ln : s.2.2.length = n
  sw : SwsOk s.2.2
  tm : ∀ x ∈ s.2.2, x.Since ≤ t
  l : s.1.length + k ≤ n
  o : s.2.1.length + k ≤ n
theorem idle_false {r t : Int} {x : T_Switch} (h : ¬ Idle r t x) : x.Closed = false ∧ x.Shown ≠ -1 ∧ x.Late = false ∧ r ≤ t - x.Since := by
  unfold Idle at h
  refine ⟨?_, fun e => h (.inr (.inl e)), ?_, by omega⟩
  · cases hc : x.Closed with
    | false => rfl
    | true => exact absurd (.inl hc) h
  · cases hc : x.Late with
    | false => rfl
    | true => exact absurd (.inr (.inr (.inl hc))) h
theorem tkS_inv {r t : Int} {n i : Nat} {s : TS} (h : TI n t (i + 1) s) (h0 : 0 ≤ t) (h1 : t ≤ 2147483648) : TI n t i (tkS r t i s) := by
  have hl := h.l
  have ho := h.o
  unfold tkS
  cases hx : s.2.2[i]? with
  | none => exact ⟨h.ln, h.sw, h.tm, by show s.1.length + i ≤ n; omega, by show s.2.1.length + i ≤ n; omega⟩
  | some x =>
    dsimp only
    by_cases c : Idle r t x
    · rw [if_pos c]; exact ⟨h.ln, h.sw, h.tm, by omega, by omega⟩
    rw [if_neg c]
    have hc := idle_false c
    have hok := h.sw i x hx
    have e1 : s.2.2.set i (lat x) = md s.2.2 i lat := (md_some hx).symm
    have w1 : SwsOk (md s.2.2 i lat) := swsOk_md h.sw fun y hy => by
      rw [hx] at hy
      cases hy
      exact ⟨hok.a0, hok.a1, hok.s0, hok.s1, hok.h0, hok.h1, fun _ => ⟨hc.1, hc.2.1⟩⟩
    have t1 : ∀ y ∈ md s.2.2 i lat, y.Since ≤ t := fun y hy => by
      obtain ⟨j, hj⟩ := List.mem_iff_getElem?.1 hy
      obtain ⟨z, hz, ⟨_, rfl⟩ | ⟨_, rfl⟩⟩ := md_get hj
      · exact h.tm z (List.mem_of_getElem? hz)
      · exact h.tm _ (List.mem_of_getElem? hz)
    rw [e1]
    unfold tkO
    cases hy : (if 0 ≤ x.Above then s.2.2[x.Above.toNat]? else none) with
    | none => exact ⟨md_len.trans h.ln, w1, t1, by simp; omega, by dsimp only; omega⟩
    | some y =>
      dsimp only
      by_cases cy : y.Closed = true
      · rw [if_pos cy]
        by_cases ha : 0 ≤ x.Above
        · rw [if_pos ha] at hy
          have hne : x.Above.toNat ≠ i := by have := hok.a1; omega
          have hy2 : (md s.2.2 i lat)[x.Above.toNat]? = some y := (md_ne hne).trans hy
          rw [show (md s.2.2 i lat).set x.Above.toNat (told t y) = md (md s.2.2 i lat) x.Above.toNat (told t) from (md_some hy2).symm]
          refine ⟨md_len.trans (md_len.trans h.ln), swsOk_md w1 fun z hz => ?_, fun z hz => ?_, by simp; omega, by simp; omega⟩
          · exact told_ok (w1 _ z hz) h0 h1
          · obtain ⟨j, hj⟩ := List.mem_iff_getElem?.1 hz
            obtain ⟨u, hu, ⟨_, rfl⟩ | ⟨_, rfl⟩⟩ := md_get hj
            · exact Int.le_refl t
            · exact t1 _ (List.mem_of_getElem? hu)
        · rw [if_neg ha] at hy; cases hy
      · rw [if_neg cy]
        exact ⟨md_len.trans h.ln, w1, t1, by simp; omega, by dsimp only; omega⟩
theorem tkR_inv {r t : Int} {n : Nat} (h0 : 0 ≤ t) (h1 : t ≤ 2147483648) : ∀ (k : Nat) (s : TS), TI n t k s → TI n t 0 (tkR r t k s)
  | 0, _, h => h
  | k + 1, s, h => tkR_inv h0 h1 k (tkS r t k s) (tkS_inv h h0 h1)
theorem loop_tick {r t : Int} {n : Nat} {F : Int × TS → Option ((Int × TS) ⊕ TS)} (hn : n ≤ 1000) (h0 : 0 ≤ t) (h1 : t ≤ 2147483648)
    (hs : ∀ (i : Nat) (s : TS), i < n → TI n t (i + 1) s → F ((i : Int), s) = some (.inl ((i : Int) - 1, tkS r t i s)))
    (he : ∀ (s : TS), F (-1, s) = some (.inr s)) : ∀ (k : Nat) (s : TS), k ≤ n → TI n t k s → loopC F ((k : Int) - 1, s) = some (tkR r t k s)
  | 0, s, _, _ => loopC_inr (he s)
  | k + 1, s, hk, h => by
    have := hs k s (by omega) h
    rw [show ((k + 1 : Nat) : Int) - 1 = (k : Int) by omega, loopC_inl this]
    exact loop_tick hn h0 h1 hs he k _ (by omega) (tkS_inv h h0 h1)
theorem idle_eq (r t : Int) (x : T_Switch) (hw : IntKind.i64.wrap (t - x.Since) = t - x.Since) : ((F_feeder_waits x).bind fun b => bif (!b) then some true else some (decide (IntKind.i64.wrap (t - x.Since) < r))) = some (decide (Idle r t x)) := by
  rw [hw]
  unfold F_feeder_waits Idle
  obtain ⟨a, sn, sh, cl, la⟩ := x
  cases cl <;> cases la <;> by_cases hs : sh = -1 <;> simp [hs]
theorem tick_step (f g : T_Feeder) (t : Int) (n : Nat) (hn : n ≤ 1000) (h0 : 0 ≤ t) (h1 : t ≤ 2147483648) (i : Nat) (s : TS) (hi : i < n) (h : TI n t (i + 1) s) : F_feeder_Tick_L1 f t g ((i : Int), s) = some (.inl ((i : Int) - 1, tkS f.Reply t i s)) := by
  obtain ⟨x, hx⟩ : ∃ x, s.2.2[i]? = some x := ⟨_, List.getElem?_eq_getElem (by rw [h.ln]; exact hi)⟩
  have hok := h.sw i x hx
  have hl := h.l
  have ho := h.o
  have hs := hok.s0
  have ht := h.tm x (List.mem_of_getElem? hx)
  unfold F_feeder_Tick_L1 tkS
  dsimp only
  rw [bif_pos (by omega), w64 (n := (i : Int) - 1) (by omega) (by omega), getI_nat, Int.toNat_natCast, hx, bind_some, idle_eq f.Reply t x (w64 (by omega) (by omega)), bind_some]
  dsimp only
  by_cases c : Idle f.Reply t x
  · rw [bif_pos c, if_pos c, bind_some]
  rw [bif_neg c, if_neg c, bind_some, appI_ok (by simp; omega), bind_some]
  show Option.bind (Option.bind (bif decide (0 ≤ x.Above) then Option.bind (F_feeder_open ⟨s.2.2.set i (lat x), g.Zones, g.Reply⟩ x.Above t) _ else some (false, s.2.2.set i (lat x))) _) _ = _
  have hlen : i < s.2.2.length := by rw [h.ln]; exact hi
  by_cases ha : 0 ≤ x.Above
  · have ha1 := hok.a1
    have hne : i ≠ x.Above.toNat := by omega
    obtain ⟨y, hy⟩ : ∃ y, s.2.2[x.Above.toNat]? = some y := ⟨_, List.getElem?_eq_getElem (by omega)⟩
    have hy2 : (s.2.2.set i (lat x))[x.Above.toNat]? = some y := by rw [List.getElem?_set_ne hne, hy]
    rw [bif_pos ha, if_pos ha, opn_in _ _ _ y (getI_of ha hy2), bind_some, hy]
    unfold tkO
    dsimp only
    rw [md_some hy2]
    cases cy : y.Closed with
    | true =>
      rw [if_pos rfl, bind_some]
      have hz : ((s.2.2.set i (lat x)).set x.Above.toNat (opn t y))[i]? = some (lat x) := by rw [List.getElem?_set_ne (fun e => hne e.symm), List.getElem?_set_self hlen]
      dsimp only
      rw [cond_true, hz, bind_some, appI_ok (by simp; omega), bind_some, bind_some]
      unfold opn
      rw [if_pos cy]
      rfl
    | false =>
      rw [if_neg (by decide), bind_some]
      unfold opn
      rw [if_neg (by rw [cy]; decide), set_same hy2]
      rfl
  · rw [bif_neg ha, if_neg ha]
    rfl
def tickF (f : T_Feeder) (t : Int) : T_Feeder × List Int × List Int × Int :=
  if chk f ≠ 0 then (noF, [], [], chk f) else if Timely f t then
    (⟨(tkR f.Reply t f.Switches.length ([], [], f.Switches)).2.2, f.Zones, f.Reply⟩, (tkR f.Reply t f.Switches.length ([], [], f.Switches)).1, (tkR f.Reply t f.Switches.length ([], [], f.Switches)).2.1, 0) else (noF, [], [], 8)
theorem ti_start {f : T_Feeder} (hf : FOk f) {t : Int} (ht : Timely f t) : TI f.Switches.length t f.Switches.length ([], [], f.Switches) := ⟨rfl, hf.sw, ht.2.2, by simp, by simp⟩
theorem tick_eq (f : T_Feeder) (t : Int) : F_feeder_Tick f t = some (tickF f t) := by
  unfold F_feeder_Tick tickF
  rw [chk_eq, bind_some]
  by_cases c : chk f ≠ 0
  · rw [bif_pos c, if_pos c]; rfl
  rw [bif_neg c, if_neg c]
  have hf := (chk_zero f).1 (Classical.not_not.1 c)
  have hn := hf.n
  rw [timely_eq f t (by omega), bind_some]
  by_cases ht : Timely f t
  · rw [if_pos ht, decide_eq_true ht]
    show Option.bind _ _ = _
    rw [clone_eq f hf, bind_some, w64 (by omega) (by omega), loop_tick (by omega) ht.1 ht.2.1 (fun i s hi h => tick_step f f t f.Switches.length (by omega) ht.1 ht.2.1 i s hi h) (fun s => rfl) f.Switches.length _ (Nat.le_refl _) (ti_start hf ht)]
    rfl
  · rw [if_neg ht, decide_eq_false ht]; rfl
theorem tick_ok {f : T_Feeder} (hf : FOk f) {t : Int} (ht : Timely f t) : (tickF f t).2.2.2 = 0 ∧ FOk (tickF f t).1 ∧ Timely (tickF f t).1 t ∧ (tickF f t).1 = ⟨(tkR f.Reply t f.Switches.length ([], [], f.Switches)).2.2, f.Zones, f.Reply⟩ := by
  have hI := tkR_inv (r := f.Reply) ht.1 ht.2.1 _ _ (ti_start hf ht)
  have e : tickF f t = (⟨(tkR f.Reply t f.Switches.length ([], [], f.Switches)).2.2, f.Zones, f.Reply⟩, (tkR f.Reply t f.Switches.length ([], [], f.Switches)).1, (tkR f.Reply t f.Switches.length ([], [], f.Switches)).2.1, 0) := by
    unfold tickF
    rw [if_neg (Classical.not_not.2 ((chk_zero f).2 hf)), if_pos ht]
  rw [e]
  exact ⟨rfl, setF hf hI.ln hI.sw, ⟨ht.1, ht.2.1, hI.tm⟩, rfl⟩

/-! ### paths, and what has power -/
def pthN (l : List T_Switch) : Nat → Int → List Int
  | 0, _ => []
  | n + 1, s => if s < 0 then [] else match l[s.toNat]? with
    | none => []
    | some x => s :: pthN l n x.Above
theorem pthN_eq {l : List T_Switch} (hl : SwsOk l) : ∀ (n m : Nat) (s : Int), (s + 1).toNat ≤ n → (s + 1).toNat ≤ m → pthN l n s = pthN l m s
  | 0, 0, _, _, _ => rfl
  | 0, m + 1, s, h, _ => by
    unfold pthN
    rw [if_pos (by omega)]
  | n + 1, 0, s, _, h => by
    unfold pthN
    rw [if_pos (by omega)]
  | n + 1, m + 1, s, h1, h2 => by
    unfold pthN
    by_cases c : s < 0
    · rw [if_pos c, if_pos c]
    rw [if_neg c, if_neg c]
    cases hx : l[s.toNat]? with
    | none => rfl
    | some x =>
      have := (hl _ x hx).a1
      dsimp only
      rw [pthN_eq hl n m x.Above (by omega) (by omega)]
def pth (l : List T_Switch) (s : Int) : List Int := pthN l (s + 1).toNat s
theorem pth_neg {l : List T_Switch} {s : Int} (h : s < 0) : pth l s = [] := by
  unfold pth
  rw [show (s + 1).toNat = 0 by omega]
  rfl
theorem pth_cons {l : List T_Switch} (hl : SwsOk l) {s : Int} {x : T_Switch} (h0 : 0 ≤ s) (hx : l[s.toNat]? = some x) : pth l s = s :: pth l x.Above := by
  have := (hl _ x hx).a1
  unfold pth
  rw [show (s + 1).toNat = s.toNat + 1 by omega]
  show (if s < 0 then _ else _) = _
  rw [if_neg (by omega), hx]
  dsimp only
  rw [pthN_eq hl s.toNat (x.Above + 1).toNat x.Above (by omega) (by omega)]
theorem pth_in {l : List T_Switch} (hl : SwsOk l) : ∀ (n : Nat) (s : Int), (s + 1).toNat ≤ n → s < (l.length : Int) → ∀ k ∈ pth l s, 0 ≤ k ∧ k ≤ s
  | 0, s, h, _, k, hk => by rw [pth_neg (by omega)] at hk; cases hk
  | n + 1, s, h, hs, k, hk => by
    by_cases c : s < 0
    · rw [pth_neg c] at hk; cases hk
    obtain ⟨x, hx⟩ : ∃ x, l[s.toNat]? = some x := ⟨_, List.getElem?_eq_getElem (by omega)⟩
    rw [pth_cons hl (by omega) hx] at hk
    have := (hl _ x hx).a1
    rcases List.mem_cons.1 hk with rfl | hk
    · omega
    · have := pth_in hl n x.Above (by omega) (by omega) k hk
      omega
def liv (l : List T_Switch) (p : List Int) (v : Int) : Int := p.foldl (fun v k => min v (shw l k)) v
def zoneAt (f : T_Feeder) (z : Int) : Int := (f.Zones[z.toNat]?).getD 0
def liveF (f : T_Feeder) (z : Int) : Int := if chk f ≠ 0 then 0 else if z < 0 ∨ (f.Zones.length : Int) ≤ z then 0 else liv f.Switches (pth f.Switches (zoneAt f z)) 1
theorem liveL1 (f : T_Feeder) (hl : SwsOk f.Switches) : ∀ (n : Nat) (s v : Int), (s + 1).toNat ≤ n → s < (f.Switches.length : Int) → loopC (F_feeder_Live_L1 f) (s, v) = some (liv f.Switches (pth f.Switches s) v)
  | n, s, v, h, hs => by
    by_cases c : s < 0
    · rw [pth_neg c]
      refine loopC_inr ?_
      unfold F_feeder_Live_L1
      dsimp only
      rw [bif_neg (by omega)]
      rfl
    match n, h with
    | 0, h => omega
    | n + 1, h =>
      obtain ⟨x, hx⟩ : ∃ x, f.Switches[s.toNat]? = some x := ⟨_, List.getElem?_eq_getElem (by omega)⟩
      have ha := (hl _ x hx).a1
      rw [pth_cons hl (by omega) hx, loopC_inl (a' := (x.Above, if x.Shown < v then x.Shown else v))]
      · rw [liveL1 f hl n x.Above _ (by omega) (by omega)]
        show some (liv _ _ _) = some (liv _ _ (min v (shw f.Switches s)))
        rw [shw_get hx]
        congr 2
        split <;> omega
      · unfold F_feeder_Live_L1
        dsimp only
        rw [bif_pos (by omega), getI_of (by omega) hx, bind_some, bif_pos (by omega)]
theorem zoneAt_get {f : T_Feeder} {z : Int} (h0 : 0 ≤ z) (h1 : z < (f.Zones.length : Int)) : getI f.Zones z = some (zoneAt f z) := by
  rw [getI_ok h0 h1]
  unfold zoneAt
  rw [List.getElem?_eq_getElem (by omega)]
  rfl
theorem zoneAt_in {f : T_Feeder} (hf : FOk f) {z : Int} (h0 : 0 ≤ z) (h1 : z < (f.Zones.length : Int)) : 0 ≤ zoneAt f z ∧ zoneAt f z < (f.Switches.length : Int) :=
  hf.z _ (List.mem_of_getElem? (getI_get (zoneAt_get h0 h1)))
theorem live_eq (f : T_Feeder) (z : Int) : F_feeder_Live f z = some (liveF f z) := by
  unfold F_feeder_Live liveF
  rw [chk_eq, bind_some]
  by_cases c : chk f ≠ 0
  · rw [bif_pos c, if_pos c]
  rw [bif_neg c, if_neg c]
  have hf := (chk_zero f).1 (Classical.not_not.1 c)
  by_cases c1 : z < 0
  · rw [bif_pos c1, if_pos (.inl c1)]
  rw [bif_neg c1]
  by_cases c2 : (f.Zones.length : Int) ≤ z
  · rw [bif_pos c2, if_pos (.inr c2)]
  have hz := zoneAt_in hf (z := z) (by omega) (by omega)
  rw [bif_neg c2, if_neg (by omega), zoneAt_get (by omega) (by omega), bind_some, bif_pos hz.1]
  exact liveL1 f hf.sw _ _ _ (Nat.le_refl _) hz.2

/-! ### comparing -/
theorem ints_same (l : List Int) (hl : l.length ≤ 1000000) : F_ref01_Ints l l = some true := by
  unfold F_ref01_Ints
  rw [bif_neg (by simp), loop_chk (β := Unit) l (fun _ _ => none) (fun i (s : Int) => s = i) (Sum.inr ()) Sum.inl (fun i x s hg h0 h1 hI => ?_) (fun s hI => ?_) 0 rfl, fst1_of_all _ _ (fun _ _ _ => rfl)]
  · rfl
  · subst hI
    unfold F_ref01_Ints_L1
    rw [bif_pos h1, hg, bind_some, bind_some, bif_neg (fun h => h rfl)]
    exact .inl ⟨_, rfl, rfl, w64 (by omega) (by omega)⟩
  · subst hI
    unfold F_ref01_Ints_L1
    rw [bif_neg (by omega)]
theorem same_same (f : T_Feeder) (h1 : f.Switches.length ≤ 1000) (h2 : f.Zones.length ≤ 1000) : F_ref18_Same f f = some true := by
  unfold F_ref18_Same
  rw [or_bif (or_bif rfl), bind_some, bif_neg (by simp), loop_chk (β := Unit) f.Switches (fun _ _ => none) (fun i (s : Int) => s = i) (Sum.inr ()) Sum.inl (fun i x s hg h0 h1 hI => ?_) (fun s hI => ?_) 0 rfl, fst1_of_all _ _ (fun _ _ _ => rfl), bind_some]
  · show Option.bind _ _ = _
    rw [loop_chk (β := Unit) f.Zones (fun _ _ => none) (fun i (s : Int) => s = i) (Sum.inr ()) Sum.inl (fun i x s hg h0 h1 hI => ?_) (fun s hI => ?_) 0 rfl, fst1_of_all _ _ (fun _ _ _ => rfl), bind_some]
    · rfl
    · subst hI
      unfold F_ref18_Same_L2
      rw [bif_pos h1, hg, bind_some, bind_some, bif_neg (fun h => h rfl)]
      exact .inl ⟨_, rfl, rfl, w64 (by omega) (by omega)⟩
    · subst hI
      unfold F_ref18_Same_L2
      rw [bif_neg (by omega)]
  · subst hI
    unfold F_ref18_Same_L1
    rw [bif_pos h1, hg, bind_some, bind_some]
    simp only [beq_self_eq_true, Bool.and_self, Bool.not_true, cond_false]
    exact .inl ⟨_, trivial, rfl, w64 (by omega) (by omega)⟩
  · subst hI
    unfold F_ref18_Same_L1
    rw [bif_neg (by omega)]
/-! ### Due -/
def Waits (x : T_Switch) : Prop := x.Closed = false ∧ x.Shown ≠ -1 ∧ x.Late = false
instance (x : T_Switch) : Decidable (Waits x) := by unfold Waits; infer_instance
theorem waits_eq (x : T_Switch) : F_feeder_waits x = some (decide (Waits x)) := by
  unfold F_feeder_waits Waits
  obtain ⟨a, sn, sh, cl, la⟩ := x
  cases cl <;> cases la <;> by_cases hs : sh = -1 <;> simp [hs]
def dueL (r : Int) : List T_Switch → Int → Int
  | [], v => v
  | x :: t, v => dueL r t (if Waits x then min v (x.Since + r) else v)
def dueF (f : T_Feeder) : Int := if chk f ≠ 0 then 0 else dueL f.Reply f.Switches 1099511627776
theorem dueL_snoc (r : Int) : ∀ (l : List T_Switch) (x : T_Switch) (v : Int), dueL r (l ++ [x]) v = if Waits x then min (dueL r l v) (x.Since + r) else dueL r l v
  | [], _, _ => rfl
  | _ :: t, x, _ => dueL_snoc r t x _
theorem take_snoc {α : Type} {l : List α} {i : Int} {x : α} (h : getI l i = some x) : l.take (i + 1).toNat = l.take i.toNat ++ [x] := by
  have h0 := getI_lt h
  rw [show (i + 1).toNat = i.toNat + 1 by omega, List.take_add_one, getI_get h]
  rfl
theorem due_eq (f : T_Feeder) : F_feeder_Due f = some (dueF f) := by
  unfold F_feeder_Due dueF
  rw [chk_eq, bind_some]
  by_cases c : chk f ≠ 0
  · rw [bif_pos c, if_pos c]
  rw [bif_neg c, if_neg c]
  have hf := (chk_zero f).1 (Classical.not_not.1 c)
  have hn := hf.n
  have hr0 := hf.r0
  have hr1 := hf.r1
  have e : loopC (F_feeder_Due_L1 f) (0, 1099511627776) = some (fout (dueL f.Reply f.Switches 1099511627776) (fun _ => 0) (fst1 (β := Unit) (fun _ _ => none) 0 f.Switches)) := by
    refine loop_chk (β := Unit) f.Switches (fun _ _ => none) (fun i (s : Int × Int) => s = (i, dueL f.Reply (f.Switches.take i.toNat) 1099511627776)) (dueL f.Reply f.Switches 1099511627776) (fun _ => 0) (fun i x s hg h0 h1 hI => ?_) (fun s hI => ?_) _ rfl
    · subst hI
      have hok := hf.sw _ x (getI_get hg)
      have := hok.s0
      have := hok.s1
      unfold F_feeder_Due_L1
      dsimp only
      rw [bif_pos h1, hg, bind_some, waits_eq, bind_some, w64 (n := x.Since + f.Reply) (by omega) (by omega), w64 (by omega) (by omega)]
      refine .inl ⟨_, rfl, ?_, by rw [take_snoc hg, dueL_snoc]⟩
      by_cases hw : Waits x
      · rw [bif_pos hw, if_pos hw]; rfl
      · rw [bif_neg hw, if_neg hw]; rfl
    · subst hI
      unfold F_feeder_Due_L1
      dsimp only
      rw [bif_neg (by omega), show ((f.Switches.length : Int)).toNat = f.Switches.length by omega, List.take_length]
  rw [e, fst1_of_all _ _ (fun _ _ _ => rfl)]
  rfl

/-! ### awake -/
theorem awake_eq : F_law18_awake = some true := by
  unfold F_law18_awake
  rw [open_eq, bind_some, show openF (T_Feeder.mk [(T_Switch.mk (-1) 0 1 true false), (T_Switch.mk 0 0 1 true false)] [1] 5) 1 10 = (⟨[(T_Switch.mk (-1) 0 1 true false), (T_Switch.mk 0 10 0 false false)], [1], 5⟩, 0) from rfl]
  rw [tick_eq, bind_some, show tickF ⟨[(T_Switch.mk (-1) 0 1 true false), (T_Switch.mk 0 10 0 false false)], [1], 5⟩ 15 = (⟨[(T_Switch.mk (-1) 15 0 false false), (T_Switch.mk 0 10 0 false true)], [1], 5⟩, [1], [0], 0) from rfl]
  rw [chk_eq, bind_some, show chk (T_Feeder.mk [(T_Switch.mk (-1) 0 1 true false), (T_Switch.mk 0 0 1 true false)] [1] 5) = 0 from rfl, live_eq, bind_some, show liveF (T_Feeder.mk [(T_Switch.mk (-1) 0 1 true false), (T_Switch.mk 0 0 1 true false)] [1] 5) 0 = 1 from rfl]
  rw [bif_pos rfl, bif_pos rfl, bif_pos rfl, live_eq, bind_some]
  dsimp only
  rw [show liveF ⟨[(T_Switch.mk (-1) 0 1 true false), (T_Switch.mk 0 10 0 false false)], [1], 5⟩ 0 = 0 from rfl, bif_pos rfl, due_eq, bind_some, show dueF ⟨[(T_Switch.mk (-1) 0 1 true false), (T_Switch.mk 0 10 0 false false)], [1], 5⟩ = 15 from rfl, bif_pos rfl, bif_pos rfl, ints_same _ (by decide), bind_some, cond_true, ints_same _ (by decide), bind_some, cond_true]
  rfl

theorem bytesOf {l : List Int} (h : InL (In .u8) l) : Bytes l := fun x hx => In.u8 (h.2 x hx)
theorem ok_awake {R : Bool → Prop} (h : R true) : Ok (F_law18_awake.bind fun x => some x) R := ⟨true, by rw [awake_eq, bind_some], h⟩
theorem openF_ok {f : T_Feeder} (hf : FOk f) {s t : Int} (h0 : 0 ≤ s) (h1 : s < (f.Switches.length : Int)) (ht : Timely f t) :
    openF f s t = (⟨md f.Switches s.toNat (opn t), f.Zones, f.Reply⟩, 0) ∧ FOk ⟨md f.Switches s.toNat (opn t), f.Zones, f.Reply⟩ ∧ ∀ t', t ≤ t' → t' ≤ 2147483648 → Timely ⟨md f.Switches s.toNat (opn t), f.Zones, f.Reply⟩ t' := by
  refine ⟨?_, setF hf md_len (swsOk_md hf.sw fun x hx => opn_ok (hf.sw _ x hx) ht.1 ht.2.1), fun t' a b => ⟨by have := ht.1; omega, b, fun x hx => ?_⟩⟩
  · unfold openF
    rw [if_neg (Classical.not_not.2 (canE_ok hf h0 h1 ht))]
  · obtain ⟨j, hj⟩ := List.mem_iff_getElem?.1 hx
    obtain ⟨u, hu, ⟨_, rfl⟩ | ⟨_, rfl⟩⟩ := md_get hj
    · have := ht.2.2 u (List.mem_of_getElem? hu)
      unfold opn
      split
      · exact a
      · omega
    · have := ht.2.2 _ (List.mem_of_getElem? hu)
      omega
theorem closeF_ok {f : T_Feeder} (hf : FOk f) {s t : Int} (h0 : 0 ≤ t) (h1 : t ≤ 2147483648) : FOk ⟨md f.Switches s.toNat (cls t), f.Zones, f.Reply⟩ := setF hf md_len (swsOk_md hf.sw fun x hx => cls_ok (hf.sw _ x hx) h0 h1)
theorem ansF_ok {f : T_Feeder} (hf : FOk f) {s v : Int} (h0 : 0 ≤ s) (h1 : s < (f.Switches.length : Int)) (hv : v = 1 ∨ v = -1) :
    ansF f s v = (⟨md f.Switches s.toNat (ans v), f.Zones, f.Reply⟩, 0) ∧ FOk ⟨md f.Switches s.toNat (ans v), f.Zones, f.Reply⟩ := by
  refine ⟨?_, setF hf md_len (swsOk_md hf.sw fun x hx => ans_ok (hf.sw _ x hx) hv)⟩
  unfold ansF
  rw [if_neg (Classical.not_not.2 ((chk_zero f).2 hf)), if_neg (by omega), if_neg (by omega)]
def Small (f : T_Feeder) : Prop := f.Switches.length ≤ 1000 ∧ f.Zones.length ≤ 1000
theorem FOk.small {f : T_Feeder} (h : FOk f) : Small f := ⟨by have := h.n; omega, by have := h.m; omega⟩
theorem same_small {f : T_Feeder} (h : Small f) : F_ref18_Same f f = some true := same_same f h.1 h.2
/-! ### closing -/
theorem drawn_ok (p0 : List Int) (w0 : InL (In .u8) p0) {R : Bool → Prop} {k : T_draw_Codes × T_Feeder → Option Bool} (h : ∀ x : T_draw_Codes × T_Feeder, CodesOk x.1 → (∃ z, 0 ≤ z ∧ z ≤ 3 ∧ Drawn z x.2) → Ok (k x) R) :
    Ok ((F_draw_New p0).bind fun x1 => (F_draw_Codes_Next x1 4).bind fun x3 => (F_draw_Codes_Feeder x3.1 x3.2).bind k) R := by
  refine ok_bind (new_ok p0 (bytesOf w0)) fun x1 h1 => ok_bind (next_lt x1 4 h1 (by decide)) fun x3 h3 => ok_bind (feeder_ok x3.1 x3.2 h3.1 h3.2.1 (by omega)) fun x5 h5 => h x5 h5.1 ⟨_, h3.2.1, by omega, h5.2⟩
theorem drawn_timely {z : Int} {f : T_Feeder} (h : Drawn z f) {t : Int} (h0 : 0 ≤ t) (h1 : t ≤ 2147483648) : Timely f t := ⟨h0, h1, fun x hx => by have := (h.new.2 x hx).1; omega⟩
/-! ### twice -/
structure Kd (l l' : List T_Switch) : Prop where
  a : ∀ k : Nat, (l'[k]?).map (·.Above) = (l[k]?).map (·.Above)
  s : ∀ k : Nat, (l'[k]?).map (·.Shown) = (l[k]?).map (·.Shown) ∨ ∃ x, l'[k]? = some x ∧ x.Shown ≤ 0
theorem Kd.refl (l : List T_Switch) : Kd l l := ⟨fun _ => rfl, fun _ => .inl rfl⟩
theorem Kd.trans {l l' l'' : List T_Switch} (h : Kd l l') (h' : Kd l' l'') : Kd l l'' := by
  refine ⟨fun k => (h'.a k).trans (h.a k), fun k => ?_⟩
  rcases h'.s k with e | e
  · rcases h.s k with f | ⟨x, hx, h0⟩
    · exact .inl (e.trans f)
    · rw [hx] at e
      cases hy : l''[k]? with
      | none => rw [hy] at e; cases e
      | some y =>
        rw [hy] at e
        have e : some y.Shown = some x.Shown := e
        have := Option.some.inj e
        exact .inr ⟨y, rfl, by omega⟩
  · exact .inr e
theorem liv_cons (l : List T_Switch) (k : Int) (p : List Int) (v : Int) : liv l (k :: p) v = liv l p (min v (shw l k)) := rfl
theorem liv_one (l : List T_Switch) : ∀ (p : List Int) (v : Int), v ≤ 1 → (liv l p v = 1 ↔ v = 1 ∧ ∀ k ∈ p, 1 ≤ shw l k)
  | [], v, _ => ⟨fun h => ⟨h, fun _ h => by cases h⟩, fun h => h.1⟩
  | k :: p, v, hv => by
    rw [liv_cons, liv_one l p _ (by omega)]
    constructor
    · rintro ⟨h1, h2⟩
      refine ⟨by omega, fun j hj => ?_⟩
      rcases List.mem_cons.1 hj with rfl | hj
      · omega
      · exact h2 j hj
    · rintro ⟨h1, h2⟩
      have := h2 k (List.mem_cons_self)
      exact ⟨by omega, fun j hj => h2 j (List.mem_cons_of_mem _ hj)⟩
theorem liv_dead (l : List T_Switch) (hl : ∀ k, -1 ≤ shw l k) : ∀ (p : List Int) (v : Int), -1 ≤ v → (liv l p v = -1 ↔ v = -1 ∨ ∃ k ∈ p, shw l k = -1)
  | [], v, _ => ⟨fun h => .inl h, fun h => by rcases h with h | ⟨k, hk, _⟩; exact h; cases hk⟩
  | k :: p, v, hv => by
    have hk := hl k
    rw [liv_cons, liv_dead l hl p _ (by omega)]
    constructor
    · rintro (h | ⟨j, hj, e⟩)
      · by_cases c : v = -1
        · exact .inl c
        · exact .inr ⟨k, List.mem_cons_self, by omega⟩
      · exact .inr ⟨j, List.mem_cons_of_mem _ hj, e⟩
    · rintro (h | ⟨j, hj, e⟩)
      · exact .inl (by omega)
      · rcases List.mem_cons.1 hj with rfl | hj
        · exact .inl (by omega)
        · exact .inr ⟨j, hj, e⟩
theorem shw_ge {l : List T_Switch} (h : SwsOk l) (k : Int) : -1 ≤ shw l k := by
  unfold shw
  cases hx : l[k.toNat]? with
  | none => decide
  | some x => exact (h _ x hx).h0
theorem liveF_in {f : T_Feeder} (hf : FOk f) {z : Int} (h0 : 0 ≤ z) (h1 : z < (f.Zones.length : Int)) : liveF f z = liv f.Switches (pth f.Switches (zoneAt f z)) 1 := by
  unfold liveF
  rw [if_neg (Classical.not_not.2 ((chk_zero f).2 hf)), if_neg (by omega)]
/-! ### all acts -/
/-! ### paths -/
def pathF (f : T_Feeder) (s : Int) : List Int := if chk f ≠ 0 then [] else if s < 0 ∨ (f.Switches.length : Int) ≤ s then [] else pth f.Switches s
theorem pathL1 (f : T_Feeder) (hl : SwsOk f.Switches) : ∀ (n : Nat) (s : Int) (o : List Int), (s + 1).toNat ≤ n → s < (f.Switches.length : Int) → loopC (F_feeder_Path_L1 f) (s, o) = some (o ++ pth f.Switches s)
  | n, s, o, h, hs => by
    by_cases c : s < 0
    · rw [pth_neg c, List.append_nil]
      refine loopC_inr ?_
      unfold F_feeder_Path_L1
      dsimp only
      rw [bif_neg (by omega)]
    match n, h with
    | 0, h => omega
    | n + 1, h =>
      obtain ⟨x, hx⟩ : ∃ x, f.Switches[s.toNat]? = some x := ⟨_, List.getElem?_eq_getElem (by omega)⟩
      have ha := (hl _ x hx).a1
      rw [pth_cons hl (by omega) hx, loopC_inl (a' := (x.Above, o ++ [s]))]
      · rw [pathL1 f hl n x.Above _ (by omega) (by omega), List.append_assoc]
        rfl
      · unfold F_feeder_Path_L1
        dsimp only
        rw [bif_pos (by omega), getI_of (by omega) hx, bind_some, bif_pos (by omega)]
theorem path_eq (f : T_Feeder) (s : Int) : F_feeder_Path f s = some (pathF f s) := by
  unfold F_feeder_Path pathF
  rw [chk_eq, bind_some]
  by_cases c : chk f ≠ 0
  · rw [bif_pos c, if_pos c]
  rw [bif_neg c, if_neg c]
  have hf := (chk_zero f).1 (Classical.not_not.1 c)
  have hn := hf.n
  by_cases c1 : s < 0
  · rw [bif_pos c1, if_pos (.inl c1)]
  rw [bif_neg c1]
  by_cases c2 : (f.Switches.length : Int) ≤ s
  · rw [bif_pos c2, if_pos (.inr c2)]
  rw [bif_neg c2, if_neg (by omega), bif_neg (by omega), pathL1 f hf.sw _ _ _ (Nat.le_refl _) (by omega)]
  rfl
theorem pth_len {l : List T_Switch} (hl : SwsOk l) : ∀ (n : Nat) (s : Int), (s + 1).toNat ≤ n → s < (l.length : Int) → (pth l s).length ≤ n
  | n, s, h, hs => by
    by_cases c : s < 0
    · rw [pth_neg c]; exact Nat.zero_le _
    match n, h with
    | 0, h => omega
    | n + 1, h =>
      obtain ⟨x, hx⟩ : ∃ x, l[s.toNat]? = some x := ⟨_, List.getElem?_eq_getElem (by omega)⟩
      have ha := (hl _ x hx).a1
      rw [pth_cons hl (by omega) hx, List.length_cons]
      have := pth_len hl n x.Above (by omega) (by omega)
      omega
/-! ### power -/
/-! ### what is due -/
/-! ### what failed -/
def failL : Int → List T_Switch → List Int
  | _, [] => []
  | i, x :: t => if x.Above < 0 ∧ x.Late = true then i :: failL (i + 1) t else failL (i + 1) t
def failF (f : T_Feeder) : List Int := if chk f ≠ 0 then [] else failL 0 f.Switches
/-! ### one step of a tick -/
theorem tkS_idle {r t : Int} {i : Nat} {s : TS} (h : ∀ x, s.2.2[i]? = some x → Idle r t x) : tkS r t i s = s := by
  unfold tkS
  cases hx : s.2.2[i]? with
  | none => rfl
  | some x => dsimp only; rw [if_pos (h x hx)]
theorem tkR_idle {r t : Int} : ∀ (n : Nat) (s : TS), (∀ (i : Nat) (x : T_Switch), i < n → s.2.2[i]? = some x → Idle r t x) → tkR r t n s = s
  | 0, _, _ => rfl
  | n + 1, s, h => by
    show tkR r t n (tkS r t n s) = s
    rw [tkS_idle (h n · (Nat.lt_succ_self n))]
    exact tkR_idle n s fun i x hi => h i x (by omega)
theorem tkS_keep {r t : Int} {n i j : Nat} {s : TS} {y : T_Switch} (h : TI n t (i + 1) s) (hj : s.2.2[j]? = some y) (hne : j ≠ i) (hc : y.Closed = false ∨ i < j) : (tkS r t i s).2.2[j]? = some y := by
  unfold tkS
  cases hx : s.2.2[i]? with
  | none => exact hj
  | some x =>
    dsimp only
    split
    · exact hj
    have hj2 : (s.2.2.set i (lat x))[j]? = some y := by rw [List.getElem?_set_ne (fun e => hne e.symm), hj]
    unfold tkO
    split
    · rename_i z hz
      split
      · rename_i cz
        by_cases ha : 0 ≤ x.Above
        · rw [if_pos ha] at hz
          have ha1 := (h.sw i x hx).a1
          have hja : x.Above.toNat ≠ j := by
            intro e
            subst e
            rw [hj] at hz
            cases hz
            rcases hc with hc | hc
            · rw [hc] at cz; cases cz
            · omega
          dsimp only
          rw [List.getElem?_set_ne hja, hj2]
        · rw [if_neg ha] at hz; cases hz
      · exact hj2
    · exact hj2
theorem tkS_late {r t : Int} {n i : Nat} {s : TS} {x : T_Switch} (h : TI n t (i + 1) s) (hx : s.2.2[i]? = some x) (hc : ¬ Idle r t x) : (tkS r t i s).2.2[i]? = some (lat x) := by
  unfold tkS
  rw [hx]
  dsimp only
  rw [if_neg hc]
  have hlt := (List.getElem?_eq_some_iff.1 hx).1
  have hj2 : (s.2.2.set i (lat x))[i]? = some (lat x) := List.getElem?_set_self hlt
  unfold tkO
  split
  · rename_i z hz
    split
    · by_cases ha : 0 ≤ x.Above
      · have ha1 := (h.sw i x hx).a1
        dsimp only
        rw [List.getElem?_set_ne (by omega), hj2]
      · rw [if_neg ha] at hz; cases hz
    · exact hj2
  · exact hj2
theorem tkR_below {r t : Int} {n j : Nat} {y : T_Switch} (h0 : 0 ≤ t) (h1 : t ≤ 2147483648) : ∀ (k : Nat) (s : TS), k ≤ j → TI n t k s → s.2.2[j]? = some y → (tkR r t k s).2.2[j]? = some y
  | 0, _, _, _, h => h
  | k + 1, s, hk, hT, h => tkR_below h0 h1 k _ (by omega) (tkS_inv hT h0 h1) (tkS_keep hT h (by omega) (.inr (by omega)))
theorem tkR_late {r t : Int} {n j : Nat} {y : T_Switch} (h0 : 0 ≤ t) (h1 : t ≤ 2147483648) (hy : ¬ Idle r t y) : ∀ (k : Nat) (s : TS), j < k → TI n t k s → s.2.2[j]? = some y → (tkR r t k s).2.2[j]? = some (lat y)
  | 0, _, hk, _, _ => by omega
  | k + 1, s, hk, hT, h => by
    by_cases e : j = k
    · subst e
      exact tkR_below h0 h1 j _ (Nat.le_refl _) (tkS_inv hT h0 h1) (tkS_late hT h hy)
    · exact tkR_late h0 h1 hy k _ (by omega) (tkS_inv hT h0 h1) (tkS_keep hT h e (.inl (idle_false hy).1))
theorem idle_of {r t : Int} {x : T_Switch} (h : Waits x → t < x.Since + r) : Idle r t x := by
  unfold Idle
  cases hc : x.Closed with
  | true => exact .inl rfl
  | false =>
    by_cases hs : x.Shown = -1
    · exact .inr (.inl hs)
    cases hl : x.Late with
    | true => exact .inr (.inr (.inl rfl))
    | false => exact .inr (.inr (.inr (by have := h ⟨hc, hs, hl⟩; omega)))
theorem not_idle {r t : Int} {x : T_Switch} (h : Waits x) (ht : x.Since + r ≤ t) : ¬ Idle r t x := by
  rintro (e | e | e | e)
  · rw [h.1] at e; cases e
  · exact h.2.1 e
  · rw [h.2.2] at e; cases e
  · omega

/-! ### what is due -/
theorem dueL_le (r : Int) : ∀ (l : List T_Switch) (v : Int), dueL r l v ≤ v
  | [], v => Int.le_refl v
  | x :: t, v => by
    show dueL r t (if Waits x then min v (x.Since + r) else v) ≤ v
    by_cases hw : Waits x
    · rw [if_pos hw]
      have := dueL_le r t (min v (x.Since + r))
      omega
    · rw [if_neg hw]
      exact dueL_le r t v
theorem dueL_min (r : Int) : ∀ (l : List T_Switch) (v : Int) (x : T_Switch), x ∈ l → Waits x → dueL r l v ≤ x.Since + r
  | [], _, _, h, _ => by cases h
  | y :: t, v, x, h, hw => by
    show dueL r t (if Waits y then min v (y.Since + r) else v) ≤ x.Since + r
    rcases List.mem_cons.1 h with rfl | h
    · have := dueL_le r t (if Waits x then min v (x.Since + r) else v)
      rw [if_pos hw] at this ⊢
      omega
    · exact dueL_min r t _ x h hw
theorem dueL_is (r : Int) : ∀ (l : List T_Switch) (v : Int), dueL r l v = v ∨ ∃ x ∈ l, Waits x ∧ dueL r l v = x.Since + r
  | [], _ => .inl rfl
  | y :: t, v => by
    show dueL r t (if Waits y then min v (y.Since + r) else v) = v ∨ ∃ x ∈ y :: t, Waits x ∧ dueL r t (if Waits y then min v (y.Since + r) else v) = x.Since + r
    rcases dueL_is r t (if Waits y then min v (y.Since + r) else v) with h | ⟨x, hx, hw, h⟩
    · rw [h]
      by_cases hw : Waits y
      · rw [if_pos hw]
        by_cases c : v ≤ y.Since + r
        · exact .inl (by omega)
        · exact .inr ⟨y, List.mem_cons_self, hw, by omega⟩
      · rw [if_neg hw]; exact .inl rfl
    · exact .inr ⟨x, List.mem_cons_of_mem _ hx, hw, h⟩

/-! ### same -/
theorem sw_beq (x y : T_Switch) : ((x.Above == y.Above) && ((x.Since == y.Since) && ((x.Shown == y.Shown) && ((x.Closed == y.Closed) && ((x.Late == y.Late) && true))))) = true ↔ x = y := by
  obtain ⟨a, b, c, d, e⟩ := x
  obtain ⟨a', b', c', d', e'⟩ := y
  simp [Bool.and_eq_true]
theorem same_not {a b : T_Feeder} (hb : Small b) (hl : a.Switches.length = b.Switches.length) (hz : a.Zones = b.Zones) (hr : a.Reply = b.Reply) {k : Nat} {x y : T_Switch} (hx : a.Switches[k]? = some x) (hy : b.Switches[k]? = some y) (hne : x ≠ y) : F_ref18_Same a b = some false := by
  unfold F_ref18_Same
  have hs := hb.1
  rw [or_bif (or_bif rfl), bind_some, bif_neg (by rw [hl, hz, hr]; simp)]
  have e : loopC (F_ref18_Same_L1 a b) 0 = some (fout (Sum.inr ()) Sum.inl (fst1 (fun i x => if b.Switches[i.toNat]? = some x then none else some ()) 0 a.Switches)) := by
    refine loop_chk a.Switches (fun i x => if b.Switches[i.toNat]? = some x then none else some ()) (fun i (s : Int) => s = i) (Sum.inr ()) Sum.inl (fun i x s hg h0 h1 hI => ?_) (fun s hI => ?_) _ rfl
    · subst hI
      obtain ⟨y, hy⟩ : ∃ y, b.Switches[s.toNat]? = some y := ⟨_, List.getElem?_eq_getElem (by omega)⟩
      unfold F_ref18_Same_L1
      rw [bif_pos h1, hg, bind_some, getI_of h0 hy, bind_some, hy, w64 (by omega) (by omega)]
      by_cases c : x = y
      · rw [(sw_beq x y).2 c, if_pos (by rw [c])]
        exact .inl ⟨_, rfl, rfl, rfl⟩
      · rw [if_neg (fun h => c (Option.some.inj h).symm)]
        cases hh : ((x.Above == y.Above) && ((x.Since == y.Since) && ((x.Shown == y.Shown) && ((x.Closed == y.Closed) && ((x.Late == y.Late) && true))))) with
        | true => exact absurd ((sw_beq x y).1 hh) c
        | false => exact .inr ⟨_, rfl, rfl⟩
    · subst hI
      unfold F_ref18_Same_L1
      rw [bif_neg (by omega)]
  rw [e, bind_some]
  cases hf : fst1 (fun (i : Int) x => if b.Switches[i.toNat]? = some x then none else some ()) 0 a.Switches with
  | some u => rfl
  | none =>
    have := fst1_all _ _ hf k x hx
    rw [show (0 + (k : Int)).toNat = k by omega, hy, if_neg (fun h => hne (Option.some.inj h).symm)] at this
    cases this

/-! ### acts -/
theorem md_timely {f : T_Feeder} {t : Int} {k : Nat} {g : T_Switch → T_Switch} (h : Timely f t) (hg : ∀ x, x.Since ≤ t → (g x).Since ≤ t) : Timely ⟨md f.Switches k g, f.Zones, f.Reply⟩ t := by
  refine ⟨h.1, h.2.1, fun x hx => ?_⟩
  obtain ⟨j, hj⟩ := List.mem_iff_getElem?.1 hx
  obtain ⟨u, hu, ⟨_, rfl⟩ | ⟨_, rfl⟩⟩ := md_get hj
  · exact hg u (h.2.2 u (List.mem_of_getElem? hu))
  · exact h.2.2 _ (List.mem_of_getElem? hu)
theorem openF_zero {f : T_Feeder} {s t : Int} (h : (openF f s t).2 = 0) : FOk (openF f s t).1 ∧ Timely (openF f s t).1 t := by
  by_cases c : canE f s t ≠ 0
  · unfold openF at h
    rw [if_pos c] at h
    exact absurd h c
  · obtain ⟨hf, h0, h1, ht⟩ := canE_zero (Classical.not_not.1 c)
    obtain ⟨o1, o2, o3⟩ := openF_ok hf h0 h1 ht
    rw [o1]
    exact ⟨o2, o3 t (Int.le_refl t) ht.2.1⟩
theorem closeF_zero {f : T_Feeder} {s t : Int} (h : (closeF f s t).2 = 0) : FOk (closeF f s t).1 ∧ Timely (closeF f s t).1 t := by
  by_cases c : canE f s t ≠ 0
  · unfold closeF at h
    rw [if_pos c] at h
    exact absurd h c
  · obtain ⟨hf, h0, h1, ht⟩ := canE_zero (Classical.not_not.1 c)
    obtain ⟨x, hx⟩ : ∃ x, f.Switches[s.toNat]? = some x := ⟨_, List.getElem?_eq_getElem (by omega)⟩
    unfold closeF at h ⊢
    rw [if_neg c, hx] at h ⊢
    dsimp only at h ⊢
    split at h
    · cases h
    · rename_i c2
      rw [if_neg c2]
      exact ⟨closeF_ok hf ht.1 ht.2.1, md_timely ht fun _ _ => Int.le_refl t⟩
theorem ansF_zero {f : T_Feeder} {s v t : Int} (ht : Timely f t) (h : (ansF f s v).2 = 0) : FOk (ansF f s v).1 ∧ Timely (ansF f s v).1 t := by
  unfold ansF at h ⊢
  split at h
  · rename_i c; exact absurd h c
  rename_i c
  rw [if_neg c]
  have hf := (chk_zero f).1 (Classical.not_not.1 c)
  split at h
  · cases h
  rename_i c1
  rw [if_neg c1]
  split at h
  · cases h
  rename_i c2
  rw [if_neg c2]
  exact ⟨(ansF_ok hf (s := s) (v := v) (by omega) (by omega) (by omega)).2, md_timely ht fun _ h => h⟩
theorem done_eq (f : T_Feeder) (hf : FOk f) (a : T_law18_act) (t : Int) (ht : Timely f t) : Ok (F_law18_done f a t) fun r => r.2 = 0 → FOk r.1 ∧ Timely r.1 t := by
  unfold F_law18_done
  refine ok_bind (Q := fun _ => True) (ok_dec (fun _ => ok_some trivial) fun _ => ok_some trivial) fun o1 _ => ok_bif (fun _ => ?_) fun _ => ?_
  · rw [open_eq, bind_some]
    exact ok_some openF_zero
  · refine ok_dec (fun _ => ?_) fun _ => ok_dec (fun _ => ?_) fun _ => ok_dec (fun _ => ?_) fun _ => ?_
    · rw [close_eq, bind_some]
      exact ok_some closeF_zero
    · rw [answer_eq, bind_some]
      exact ok_some (ansF_zero ht)
    · rw [answer_eq, bind_some]
      exact ok_some (ansF_zero ht)
    · rw [tick_eq, bind_some]
      obtain ⟨t1, t2, t3, t4⟩ := tick_ok hf ht
      exact ok_some fun _ => ⟨t2, t3⟩
theorem acts_ok (c : T_draw_Codes) (hc : CodesOk c) : Ok (F_law18_acts c) fun r => r.2.length ≤ 20 ∧ ∀ a ∈ r.2, 0 ≤ a.wait ∧ a.wait ≤ 3 := by
  unfold F_law18_acts
  refine ok_bind (next_lt c 20 hc (by decide)) fun x1 h1 => ?_
  refine ok_bind (Q := fun r => r.1.length ≤ 20 ∧ ∀ a ∈ r.1, 0 ≤ a.wait ∧ a.wait ≤ 3) ?_ fun o4 h4 => ok_some h4
  refine ok_loop (fun s : Int × List T_law18_act × T_draw_Codes => 0 ≤ s.1 ∧ s.1 + s.2.1.length ≤ 20 ∧ (∀ a ∈ s.2.1, 0 ≤ a.wait ∧ a.wait ≤ 3) ∧ CodesOk s.2.2) (fun s => s.1.toNat) _ (fun s hs => ?_) _ ⟨h1.2.1, by simp; omega, (fun a h => by cases h), h1.1⟩
  obtain ⟨n, l, cc⟩ := s
  obtain ⟨i0, i1, i2, i3⟩ := hs
  dsimp only at i0 i1 i2 i3
  unfold F_law18_acts_L1
  dsimp only
  refine ok_dec (fun hlt => ?_) fun hge => ok_some ⟨by dsimp only; omega, i2⟩
  refine ok_bind (next_lt cc 6 i3 (by decide)) fun a ha => ok_bind (next_lt a.1 6 ha.1 (by decide)) fun b hb => ok_bind (next_lt b.1 4 hb.1 (by decide)) fun d hd => ?_
  rw [appI_ok (by simp; omega), bind_some, w64 (by omega) (by omega)]
  refine ok_some ⟨⟨by dsimp only; omega, by simp; omega, fun x hx => ?_, hd.1⟩, by dsimp only; omega⟩
  rcases List.mem_append.1 hx with h | h
  · exact i2 x h
  · simp at h
    subst h
    exact ⟨hd.2.1, by have := hd.2.2; show d.2 ≤ 3; omega⟩

/-! ### what has power -/
theorem storyL3 (f : T_Feeder) (hf : FOk f) (P : List Int) (hP : ∀ k ∈ P, 0 ≤ k ∧ k < (f.Switches.length : Int)) (hl : P.length ≤ 1000) :
    loopC (F_law18_FeederStories_L3 f P) (0, false, true) = some (P.any (fun k => decide (shw f.Switches k = -1)), P.all (fun k => decide (shw f.Switches k = 1))) := by
  have e : loopC (F_law18_FeederStories_L3 f P) (0, false, true) = some (fout (P.any (fun k => decide (shw f.Switches k = -1)), P.all (fun k => decide (shw f.Switches k = 1))) (fun _ => (false, false)) (fst1 (β := Unit) (fun _ _ => none) 0 P)) := by
    refine loop_chk (β := Unit) P (fun _ _ => none) (fun i (s : Int × Bool × Bool) => s = (i, (P.take i.toNat).any (fun k => decide (shw f.Switches k = -1)), (P.take i.toNat).all (fun k => decide (shw f.Switches k = 1)))) _ (fun _ => (false, false)) (fun i x s hg h0 h1 hI => ?_) (fun s hI => ?_) _ rfl
    · subst hI
      have hx := hP x (mem_get (getI_get hg))
      obtain ⟨y, hy⟩ : ∃ y, f.Switches[x.toNat]? = some y := ⟨_, List.getElem?_eq_getElem (by omega)⟩
      unfold F_law18_FeederStories_L3
      dsimp only
      rw [bif_pos h1, hg, bind_some, getI_of hx.1 hy, bind_some, w64 (by omega) (by omega)]
      refine .inl ⟨(i + 1, ((P.take i.toNat).any (fun k => decide (shw f.Switches k = -1)) || decide (y.Shown = -1)), ((P.take i.toNat).all (fun k => decide (shw f.Switches k = 1)) && decide (y.Shown = 1))), rfl, ?_, ?_⟩
      · cases (P.take i.toNat).any (fun k => decide (shw f.Switches k = -1)) <;> cases (P.take i.toNat).all (fun k => decide (shw f.Switches k = 1)) <;> rfl
      · rw [take_snoc hg, List.any_append, List.all_append, ← shw_get hy]
        simp
    · subst hI
      unfold F_law18_FeederStories_L3
      dsimp only
      rw [bif_neg (by omega), show ((P.length : Int)).toNat = P.length by omega, List.take_length]
  rw [e, fst1_of_all _ _ (fun _ _ _ => rfl)]
  rfl
theorem storyL2 (f : T_Feeder) (hf : FOk f) : loopC (F_law18_FeederStories_L2 f) 0 = some (.inr ()) := by
  have hm := hf.m
  have hn := hf.n
  have e : loopC (F_law18_FeederStories_L2 f) 0 = some (fout (Sum.inr ()) Sum.inl (fst1 (β := Unit) (fun _ _ => none) 0 f.Zones)) := by
    refine loop_chk (β := Unit) f.Zones (fun _ _ => none) (fun i (s : Int) => s = i) (Sum.inr ()) Sum.inl (fun i x s hg h0 h1 hI => ?_) (fun s hI => ?_) _ rfl
    · subst hI
      have hz := hf.z x (mem_get (getI_get hg))
      have hzz : zoneAt f s = x := by unfold zoneAt; rw [getI_get hg]; rfl
      have hp : pathF f x = pth f.Switches x := by
        unfold pathF
        rw [if_neg (Classical.not_not.2 ((chk_zero f).2 hf)), if_neg (by omega)]
      have hin := pth_in hf.sw _ _ (Nat.le_refl _) hz.2
      have hlen := pth_len hf.sw _ _ (Nat.le_refl _) hz.2
      unfold F_law18_FeederStories_L2
      rw [bif_pos h1, hg, bind_some, path_eq, bind_some, hp, storyL3 f hf _ (fun k hk => by have := hin k hk; omega) (by omega), bind_some, live_eq, bind_some, liveF_in hf h0 h1, hzz]
      have d1 : decide (liv f.Switches (pth f.Switches x) 1 = -1) = (pth f.Switches x).any (fun k => decide (shw f.Switches k = -1)) := by
        rw [Bool.eq_iff_iff, decide_eq_true_iff, List.any_eq_true, liv_dead _ (shw_ge hf.sw) _ 1 (by decide)]
        simp
      have d2 : decide (liv f.Switches (pth f.Switches x) 1 = 1) = (pth f.Switches x).all (fun k => decide (shw f.Switches k = 1)) := by
        rw [Bool.eq_iff_iff, decide_eq_true_iff, List.all_eq_true, liv_one _ _ 1 (Int.le_refl 1)]
        refine ⟨fun h k hk => decide_eq_true ?_, fun h => ⟨rfl, fun k hk => ?_⟩⟩
        · have h2 := h.2 k hk
          have : shw f.Switches k ≤ 1 := by
            unfold shw
            cases hx : f.Switches[k.toNat]? with
            | none => decide
            | some y => exact (hf.sw _ y hx).h1
          omega
        · have := of_decide_eq_true (h k hk)
          omega
      dsimp only
      rw [d1, d2]
      simp only [bne_self_eq_false, cond_false, bind_some]
      exact .inl ⟨_, trivial, rfl, w64 (by omega) (by omega)⟩
    · subst hI
      unfold F_law18_FeederStories_L2
      rw [bif_neg (by omega)]
  rw [e, fst1_of_all _ _ (fun _ _ _ => rfl)]
  rfl

/-! ### the law -/
theorem tick_same {f : T_Feeder} (hf : FOk f) {t : Int} (ht : Timely f t) (hi : ∀ x ∈ f.Switches, Idle f.Reply t x) : (tickF f t).1 = f := by
  obtain ⟨t1, t2, t3, t4⟩ := tick_ok hf ht
  rw [t4, tkR_idle _ _ fun i x _ hx => hi x (List.mem_of_getElem? hx)]
theorem storyDue (f : T_Feeder) (hf : FOk f) (t : Int) (ht : Timely f t) (hb : t ≤ 1000000) : ((bif (decide (dueF f < 1099511627776)) then
        (bif (decide (dueF f < t)) then
          some t
        else
          some (dueF f)).bind fun o29 =>
        (F_feeder_Tick f o29).bind fun x31 =>
        (bif (decide (x31.2.2.2 ≠ 0)) then
          some true
        else
          (F_ref18_Same x31.1 f).bind fun x35 =>
          some x35).bind fun o33 =>
        bif o33 then
          some (Sum.inl ())
        else
          bif (decide (t < dueF f)) then
            (F_feeder_Tick f (IntKind.i64.wrap (dueF f - 1))).bind fun x39 =>
            (bif (decide (x39.2.2.2 ≠ 0)) then
              some true
            else
              (F_ref18_Same x39.1 f).bind fun x43 =>
              some (!x43)).bind fun o41 =>
            bif o41 then
              some (Sum.inl ())
            else
              some (Sum.inr ())
          else
            some (Sum.inr ())
      else
        some (Sum.inr ())) : Option (Unit ⊕ Unit)) = some (Sum.inr ()) := by
  by_cases c : dueF f < 1099511627776
  · rw [bif_pos c]
    have hd : dueF f = dueL f.Reply f.Switches 1099511627776 := by unfold dueF; rw [if_neg (Classical.not_not.2 ((chk_zero f).2 hf))]
    have hr0 := hf.r0
    have hr1 := hf.r1
    rcases dueL_is f.Reply f.Switches 1099511627776 with h | ⟨x, hx, hw, h⟩
    · omega
    have hxt := ht.2.2 x hx
    have h0 := ht.1
    obtain ⟨k, hk⟩ := List.mem_iff_getElem?.1 hx
    have hx0 := (hf.sw k x hk).s0
    generalize dueF f = D at *
    have e : ((bif (decide (D < t)) then some t else some D) : Option Int) = some (max t D) := by
      by_cases c : D < t
      · rw [bif_pos c]; congr 1; omega
      · rw [bif_neg c]; congr 1; omega
    have hm : Timely f (max t D) := ⟨by omega, by omega, fun y hy => by have := ht.2.2 y hy; omega⟩
    obtain ⟨t1, t2, t3, t4⟩ := tick_ok hf hm
    have hI := tkR_inv (r := f.Reply) hm.1 hm.2.1 _ _ (ti_start hf hm)
    have hlk := (List.getElem?_eq_some_iff.1 hk).1
    have hlate : (tickF f (max t D)).1.Switches[k]? = some (lat x) := by
      rw [t4]
      exact tkR_late (y := x) hm.1 hm.2.1 (not_idle hw (by omega)) _ _ hlk (ti_start hf hm) hk
    have hsame : F_ref18_Same (tickF f (max t D)).1 f = some false := by
      refine same_not hf.small ?_ ?_ ?_ hlate hk ?_
      · rw [t4]; exact hI.ln
      · rw [t4]
      · rw [t4]
      · intro e
        have := congrArg T_Switch.Late e
        rw [hw.2.2] at this
        cases this
    rw [e, bind_some, tick_eq, bind_some, t1, hsame]
    show (bif decide (t < D) then _ else _) = _
    by_cases c2 : t < D
    · have hm2 : Timely f (D - 1) := ⟨by omega, by omega, fun y hy => by have := ht.2.2 y hy; omega⟩
      obtain ⟨u1, u2, u3, u4⟩ := tick_ok hf hm2
      have hs : (tickF f (D - 1)).1 = f := tick_same hf hm2 fun y hy => idle_of fun hwy => by
        have := dueL_min f.Reply f.Switches 1099511627776 y hy hwy
        omega
      rw [bif_pos c2, w64 (by omega) (by omega), tick_eq, bind_some, u1, hs, same_small hf.small]
      rfl
    · rw [bif_neg c2]
  · rw [bif_neg c]
theorem law_FeederStories (p0 : List Int) (w0 : InL (In .u8) p0) : F_law18_FeederStories p0 = some true := by
  refine Ok.val ?_
  unfold F_law18_FeederStories
  refine drawn_ok p0 w0 fun x5 hc5 ⟨zz, hz0, hz3, hd⟩ => ?_
  refine ok_bind (acts_ok x5.1 hc5) fun x7 h7 => ?_
  have hl := h7.1
  have e : loopC (F_law18_FeederStories_L1 x7) (0, 0, x5.2) = some (fout (Sum.inr ()) Sum.inl (fst1 (β := Unit) (fun _ _ => none) 0 x7.2)) := by
    refine loop_chk (β := Unit) x7.2 (fun _ _ => none) (fun i (s : Int × Int × T_Feeder) => s.1 = i ∧ 0 ≤ s.2.1 ∧ s.2.1 ≤ 3 * i ∧ FOk s.2.2 ∧ Timely s.2.2 s.2.1) (Sum.inr ()) Sum.inl (fun i x s hg h0 h1 hI => ?_) (fun s hI => ?_) _ ⟨rfl, Int.le_refl 0, by show (0 : Int) ≤ 3 * 0; decide, hd.ok, drawn_timely hd (t := 0) (by decide) (by decide)⟩
    · obtain ⟨j, t, f⟩ := s
      obtain ⟨rfl, t0, t1, hf, ht⟩ := hI
      dsimp only at t0 t1 hf ht h0 h1 hg
      have hw := h7.2 x (mem_get (getI_get hg))
      unfold F_law18_FeederStories_L1
      dsimp only
      rw [bif_pos h1, hg, bind_some, w64 (n := t + x.wait) (by omega) (by omega), w64 (n := j + 1) (by omega) (by omega)]
      have ht2 : Timely f (t + x.wait) := ⟨by omega, by omega, fun y hy => by have := ht.2.2 y hy; omega⟩
      obtain ⟨r, hr, hq⟩ := done_eq f hf x (t + x.wait) ht2
      obtain ⟨g, hg2, hgf, hgt⟩ : ∃ g, ((bif decide (r.2 = 0) then some r.1 else some f) : Option T_Feeder) = some g ∧ FOk g ∧ Timely g (t + x.wait) := by
        by_cases c : r.2 = 0
        · exact ⟨r.1, bif_pos c, hq c⟩
        · exact ⟨f, bif_neg c, hf, ht2⟩
      rw [hr, bind_some, hg2, bind_some, chk_eq, bind_some, (chk_zero g).2 hgf, bif_neg (by decide), due_eq, bind_some, storyDue g hgf _ hgt (by omega), bind_some]
      show (∃ s', none = none ∧ (Option.bind (loopC (F_law18_FeederStories_L2 g) 0) _) = _ ∧ _) ∨ _
      rw [storyL2 g hgf, bind_some]
      exact .inl ⟨_, rfl, rfl, rfl, by dsimp only; omega, by dsimp only; omega, hgf, hgt⟩
    · obtain ⟨j, t, f⟩ := s
      obtain ⟨rfl, _⟩ := hI
      unfold F_law18_FeederStories_L1
      dsimp only
      rw [bif_neg (by omega)]
  rw [e, fst1_of_all _ _ (fun _ _ _ => rfl), bind_some]
  exact ok_awake rfl
end Go.L
