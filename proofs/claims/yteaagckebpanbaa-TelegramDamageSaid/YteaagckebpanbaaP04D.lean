/- The laws of chapter 4, as plain functions: true. -/
import Derived.Test.YteaagckebpanbaaP04C
namespace Go.L
open Go Go.Aml

theorem two_bytes : Bytes [4, 5] := Bytes.cons ⟨by decide, by decide⟩ (Bytes.cons ⟨by decide, by decide⟩ Bytes.nil)
theorem w_345 : wres ⟨3, 1, [4, 5]⟩ = ([126, 2, 3, 1, 4, 5, 101, 2], 0) := by decide +kernel
theorem s_9 : step1 [9, 126, 2, 3, 1, 4, 5, 101, 2] = some (1, none) := by decide +kernel
theorem s_126 : step1 [126, 2, 3, 1, 4, 5, 101, 2] = some (8, some ⟨3, 1, [4, 5]⟩) := by decide +kernel
theorem s_0 : step1 [] = none := by decide +kernel
theorem feed_345 : feedR ⟨[9], 0⟩ [126, 2, 3, 1, 4, 5, 101, 2] = (⟨[], 1⟩, [⟨3, 1, [4, 5]⟩]) := by
  unfold feedR
  have e : feed [9, 126, 2, 3, 1, 4, 5, 101, 2] = ([], 1, [⟨3, 1, [4, 5]⟩]) := by
    rw [feed_drop s_9]
    simp only [List.drop]
    rw [feed_take s_126]
    simp only [List.drop]
    rw [feed_none s_0]
  simp only [List.cons_append, List.nil_append]
  rw [e]
  rfl
theorem awake_true : F_law04_awake = some true := by
  have hb9 : Bytes [9] := Bytes.cons ⟨by decide, by decide⟩ Bytes.nil
  have hw : Bytes [126, 2, 3, 1, 4, 5, 101, 2] := by
    have := (wres_bytes ⟨3, 1, [4, 5]⟩ two_bytes).1
    rw [w_345] at this
    exact this
  have hd : Bytes [49, 50, 51, 52, 53, 54, 55, 56, 57] := by intro b hb; simp at hb; omega
  have hc : crcL [49, 50, 51, 52, 53, 54, 55, 56, 57] 65535 = 10673 := by decide +kernel
  have hf : ∀ f ∈ [(⟨3, 1, [4, 5]⟩ : T_Frame)], FrOk f := by
    intro f h
    simp at h
    subst h
    exact two_bytes
  unfold F_law04_awake
  rw [tele_write _ two_bytes, bind_some, w_345]
  show (F_telegram_Feed ⟨[9], 0⟩ [126, 2, 3, 1, 4, 5, 101, 2]).bind _ = _
  rw [tele_feed _ _ hb9 hw (by decide) (by decide) (by decide), bind_some, feed_345]
  show (F_telegram_Check [49, 50, 51, 52, 53, 54, 55, 56, 57]).bind _ = _
  rw [tele_check _ hd (by decide), bind_some, hc]
  show (F_ref04_Same [⟨3, 1, [4, 5]⟩] [⟨3, 1, [4, 5]⟩]).bind _ = _
  rw [same_ok _ _ hf hf (by decide), bind_some, decide_eq_true rfl]
  rfl

theorem ok_awake {k : Bool → Option Bool} {R : Bool → Prop} (h : Ok (k true) R) : Ok (F_law04_awake.bind k) R := ok_bindE awake_true h

theorem get2 {α : Type} {a b x : α} {i : Int} (h : [a, b][i.toNat]? = some x) (h0 : 0 ≤ i) (h1 : i < 2) : x = a ∨ x = b := by
  have : i = 0 ∨ i = 1 := by omega
  rcases this with rfl | rfl
  · left; simpa using h.symm
  · right; simpa using h.symm

theorem writes_true (p0 : List Int) (p1 : T_Frame) (p2 : List Int) (h0 : Bytes p0) (h1 : FrOk p1) (h2 : Bytes p2) : F_law04_TelegramWrites p0 p1 p2 = some true := by
  refine Ok.val ?_
  unfold F_law04_TelegramWrites
  refine ok_bind (Q := fun b => b = false → p0.length ≤ 300) ?_ fun b hb => ?_
  · refine ok_dec (fun _ => ok_some fun h => by cases h) (fun h => ok_some fun _ => by omega)
  refine ok_bif (fun _ => ok_awake (ok_some rfl)) (fun hbf => ?_)
  have hl := hb hbf
  refine ok_bind (new_ok p2 h2) fun c hc => ?_
  refine ok_bind (frame_ok c hc) fun x8 h8 => ?_
  refine ok_bind (ok_loop (fun s : Int => 0 ≤ s) (fun s => (2 - s).toNat) (fun o => o = .inr ()) (fun s hs => ?_) 0 (Int.le_refl 0)) fun o ho => ?_
  · unfold F_law04_TelegramWrites_L1
    refine ok_dec (fun hlt => ?_) (fun _ => ok_some rfl)
    have hlt : s < 2 := hlt
    refine ok_bind (ok_getI hs hlt) fun x hx => ?_
    have hfx : FrOk x := by
      rcases get2 hx hs hlt with rfl | rfl
      · exact h1
      · exact h8.2.1
    rw [tele_write x hfx, bind_some, ref_write x hfx, bind_some]
    have e : ((bif !((strOfNums (wres x).1).toList == (strOfNums (wres x).1).toList) then some true else some (decide ((wres x).2 ≠ (wres x).2))) : Option Bool) = some false := by simp
    rw [e, bind_some]
    refine ok_some ?_
    show _ ∧ _
    rw [w64 (by omega) (by omega)]
    constructor <;> omega
  · subst ho
    show Ok ((F_telegram_Check p0).bind _) _
    rw [tele_check p0 h0 (by omega), bind_some, ref_check p0 h0 (by omega), bind_some]
    exact ok_dec (fun _ => ok_awake (ok_some rfl)) (fun h => absurd rfl h)

theorem str_refl (a : List Int) : ((strOfNums a).toList == (strOfNums a).toList) = true := by simp
theorem feedR_ok (r : T_Reader) (b : List Int) (h1 : Bytes r.Held) (h2 : Bytes b) : Bytes (feedR r b).1.Held ∧ (feedR r b).1.Held.length ≤ r.Held.length + b.length ∧ (∀ f ∈ (feedR r b).2, FrOk f) ∧ (feedR r b).2.length ≤ r.Held.length + b.length ∧ r.Dropped ≤ (feedR r b).1.Dropped ∧ (feedR r b).1.Dropped ≤ r.Dropped + (r.Held.length + b.length : Nat) := by
  obtain ⟨a1, a2, a3, a4⟩ := feed_ok _ (h1.app h2)
  rw [List.length_append] at a2 a3
  unfold feedR
  refine ⟨a1, ?_, a4, a3, ?_, ?_⟩
  · show (feed (r.Held ++ b)).1.length ≤ _; omega
  · show r.Dropped ≤ r.Dropped + _; omega
  · show r.Dropped + _ ≤ _; omega

theorem reads_true (p0 : List Int) (p1 : T_Reader) (p2 : List Int) (p3 : Int) (h0 : Bytes p0) (h1 : Bytes p1.Held) (h1d : -9223372036854775808 ≤ p1.Dropped) (h2 : Bytes p2) : F_law04_TelegramReads p0 p1 p2 p3 = some true := by
  refine Ok.val ?_
  unfold F_law04_TelegramReads
  refine ok_bind (Q := fun b => b = false → p1.Held.length ≤ 200 ∧ p2.length ≤ 300 ∧ p1.Dropped ≤ 1099511627776) ?_ fun b hb => ?_
  · refine ok_dec (fun _ => ok_some fun h => by cases h) (fun h => ?_)
    refine ok_dec (fun _ => ok_some fun h => by cases h) (fun h' => ok_some fun h'' => ?_)
    have := of_decide_eq_false h''
    omega
  refine ok_bif (fun _ => ok_awake (ok_some rfl)) (fun hbf => ?_)
  obtain ⟨hl1, hl2, hd⟩ := hb hbf
  refine ok_bind (new_ok p0 h0) fun c hc => ?_
  refine ok_bind (bytes_ok c 5 hc (by decide) (by decide)) fun x9 h9 => ?_
  refine ok_bind (ok_loop (fun s : Int => 0 ≤ s) (fun s => (2 - s).toNat) (fun o => o = .inr ()) (fun s hs => ?_) 0 (Int.le_refl 0)) fun o ho => ?_
  · unfold F_law04_TelegramReads_L1
    refine ok_dec (fun hlt => ?_) (fun _ => ok_some rfl)
    have hlt : s < 2 := hlt
    refine ok_bind (ok_getI hs hlt) fun x hx => ?_
    have hfx : Bytes x ∧ x.length ≤ 10000 := by
      rcases get2 hx hs hlt with rfl | rfl
      · exact h9.2
      · exact ⟨h2, by omega⟩
    obtain ⟨hxB, hxl⟩ := hfx
    rw [w64 (n := (x.length : Int) + 1) (by omega) (by omega)]
    refine ok_bind (mod_ok p3 _ (by omega)) fun k hk => ?_
    have hk2 := hk.2.1 (by omega)
    obtain ⟨n, hn⟩ : ∃ n : Nat, k = (n : Int) := ⟨k.toNat, by omega⟩
    subst hn
    have e1 : sliI x 0 (n : Int) = some (x.take n) := by rw [sliI_ok (by decide) hk.1 (by omega)]; rfl
    have e2 : sliI x (n : Int) (x.length : Int) = some (x.drop n) := slice_from x n (by omega)
    have hT : (x.take n).length ≤ 10000 := by rw [List.length_take]; omega
    have hD : (x.drop n).length ≤ 10000 := by rw [List.length_drop]; omega
    have r1 := feedR_ok p1 (x.take n) h1 (hxB.take n)
    have r2 := feedR_ok (feedR p1 (x.take n)).1 (x.drop n) r1.1 (hxB.drop n)
    rw [e1, bind_some, tele_feed p1 _ h1 (hxB.take n) (by omega) h1d (by omega), bind_some, bind_some, ref_feed p1 _ h1 (hxB.take n) (by omega) h1d (by omega), bind_some]
    rw [str_refl]
    rw [same_ok _ _ r1.2.2.1 r1.2.2.1 (by omega), bind_some, decide_eq_true rfl]
    have e3 : (bif !true then some true else bif decide ((feedR p1 (x.take n)).1.Dropped ≠ (feedR p1 (x.take n)).1.Dropped) then some true else some (!true) : Option Bool) = some false := by simp
    rw [e3, bind_some]
    show Ok ((sliI x (n : Int) (x.length : Int)).bind _) _
    rw [e2, bind_some, tele_feed _ _ r1.1 (hxB.drop n) (by omega) (by omega) (by omega), bind_some, bind_some, ref_feed _ _ r1.1 (hxB.drop n) (by omega) (by omega) (by omega), bind_some]
    rw [str_refl, same_ok _ _ r2.2.2.1 r2.2.2.1 (by omega), bind_some, decide_eq_true rfl]
    have e4 : (bif !true then some true else bif decide ((feedR (feedR p1 (x.take n)).1 (x.drop n)).1.Dropped ≠ (feedR (feedR p1 (x.take n)).1 (x.drop n)).1.Dropped) then some true else some (!true) : Option Bool) = some false := by simp
    rw [e4, bind_some]
    refine ok_some ?_
    show _ ∧ _
    rw [w64 (by omega) (by omega)]
    constructor <;> omega
  · subst ho
    exact ok_awake (ok_some rfl)

/-! ### in pieces -/
theorem getD_app {a b : List Int} {i : Nat} (h : i < a.length) : (a ++ b).getD i 0 = a.getD i 0 := by
  rw [List.getD_eq_getElem?_getD, List.getD_eq_getElem?_getD, List.getElem?_append_left h]
theorem step1_app {a b : List Int} {k : Nat} {f : Option T_Frame} (hB : Bytes a) (h : step1 a = some (k, f)) : step1 (a ++ b) = some (k, f) := by
  have h1b := bytes_D hB 1
  have hp := step1_k h
  have e0 : (a ++ b).getD 0 0 = a.getD 0 0 := getD_app hp.2
  have hl : (a ++ b).length = a.length + b.length := List.length_append
  unfold step1 at h ⊢
  rw [if_neg (by omega)] at h
  rw [if_neg (by omega), e0]
  by_cases c0 : a.getD 0 0 ≠ 126
  · rw [if_pos (.inl c0)] at h
    rw [if_pos (.inl c0)]
    exact h
  by_cases c1 : 1 < a.length
  · have e1 : (a ++ b).getD 1 0 = a.getD 1 0 := getD_app c1
    rw [e1]
    by_cases c2 : 64 < a.getD 1 0
    · rw [if_pos (.inr ⟨c1, c2⟩)] at h
      rw [if_pos (.inr ⟨by omega, c2⟩)]
      exact h
    · rw [if_neg (by rintro (x | x); exact c0 x; exact c2 x.2)] at h
      rw [if_neg (by rintro (x | x); exact c0 x; exact c2 x.2)]
      by_cases c3 : a.length < 2 ∨ (a.length : Int) < a.getD 1 0 + 6
      · rw [if_pos c3] at h; cases h
      · rw [if_neg c3] at h
        rw [if_neg (by omega)]
        have ht : (a ++ b).take (4 + (a.getD 1 0).toNat) = a.take (4 + (a.getD 1 0).toNat) := List.take_append_of_le_length (by omega)
        rw [ht, getD_app (by omega), getD_app (by omega), getD_app (i := 2) (by omega), getD_app (i := 3) (by omega)]
        exact h
  · rw [if_neg (by rintro (x | x); exact c0 x; exact c1 x.1), if_pos (.inl (by omega))] at h
    cases h
theorem feed_app (b : List Int) : ∀ a : List Int, Bytes a → feed (a ++ b) = ((feed ((feed a).1 ++ b)).1, (feed a).2.1 + (feed ((feed a).1 ++ b)).2.1, (feed a).2.2 ++ (feed ((feed a).1 ++ b)).2.2) := by
  refine feed_ind (fun l h hB => ?_) (fun l k h ih hB => ?_) (fun l k f h ih hB => ?_)
  · rw [feed_none h]; simp
  · have hp := step1_pos hB h
    rw [feed_drop (step1_app hB h), feed_drop h, List.drop_append_of_le_length hp.2.1, ih (hB.drop k)]
    simp only [Prod.mk.injEq, true_and, and_true]
    omega
  · have hp := step1_pos hB h
    rw [feed_take (step1_app hB h), feed_take h, List.drop_append_of_le_length hp.2.1, ih (hB.drop k)]
    simp
theorem feed_rest : ∀ l : List Int, Bytes l → step1 (feed l).1 = none := by
  refine feed_ind (fun l h hB => ?_) (fun l k h ih hB => ?_) (fun l k f h ih hB => ?_)
  · rw [feed_none h]; exact h
  · rw [feed_drop h]; exact ih (hB.drop k)
  · rw [feed_take h]; exact ih (hB.drop k)
theorem step1_none {l : List Int} (hB : Bytes l) (h : step1 l = none) : l.length < 70 := by
  have h1b := bytes_D hB 1
  unfold step1 at h
  split at h
  · omega
  · split at h
    · cases h
    · rename_i c1
      split at h
      · rename_i c2
        rcases c2 with c2 | c2
        · omega
        · by_cases c3 : 1 < l.length
          · have : ¬ 64 < l.getD 1 0 := fun c4 => c1 (.inr ⟨c3, c4⟩)
            omega
          · omega
      · split at h <;> cases h

theorem pieces_true (p0 p1 : List Int) (h0 : Bytes p0) (h1 : Bytes p1) : F_law04_TelegramPieces p0 p1 = some true := by
  refine Ok.val ?_
  unfold F_law04_TelegramPieces
  refine ok_bind (new_ok p0 h0) fun c hc => ?_
  refine ok_bind (bytes_ok c 6 hc (by decide) (by decide)) fun x3 h3 => ?_
  obtain ⟨_, hB, hl⟩ := h3
  rw [tele_feed ⟨[], 0⟩ x3.2 Bytes.nil hB (by simp; omega) (by decide) (by decide), bind_some]
  refine ok_bind (ok_loop (fun (s : List Int × Int × T_Reader × List T_Frame) => ∃ pre, pre ++ s.1 = x3.2 ∧ s.2.2 = feedR ⟨[], 0⟩ pre ∧ 0 ≤ s.2.1 ∧ s.2.1 + s.1.length ≤ 10000) (fun s => s.1.length) (fun o => o = feedR ⟨[], 0⟩ x3.2) (fun s hs => ?_) _ ⟨[], rfl, ?_, Int.le_refl 0, by show (0 : Int) + x3.2.length ≤ 10000; omega⟩) fun o ho => ?_
  · obtain ⟨rest, i, r, got⟩ := s
    obtain ⟨pre, hpre, hrg, hi0, hi1⟩ := hs
    simp only [] at hpre hrg hi0 hi1
    have hBp : Bytes pre := fun b hb => hB b (by rw [← hpre]; exact List.mem_append_left _ hb)
    have hBr : Bytes rest := fun b hb => hB b (by rw [← hpre]; exact List.mem_append_right _ hb)
    have hlen : pre.length + rest.length = x3.2.length := by rw [← hpre, List.length_append]
    unfold F_law04_TelegramPieces_L1
    simp only []
    refine ok_dec (fun hpos => ?_) (fun hpos => ok_some ?_)
    · refine ok_bind (Q := fun b => b = true → i < (p1.length : Int)) ?_ fun b hb => ?_
      · exact ok_dec (fun h => ok_some fun _ => h) (fun _ => ok_some fun h => by cases h)
      refine ok_bind (Q := fun n : Int => 1 ≤ n ∧ n ≤ rest.length) (ok_bif (fun h => ?_) (fun _ => ok_some ⟨by omega, Int.le_refl _⟩)) fun n hn' => ?_
      · refine ok_bind (ok_getI hi0 (hb h)) fun x hx => ok_some ?_
        have hxb := h1 x (mem_get hx)
        have := tmod_lt hxb.1 (show (1 : Int) ≤ 9 by decide)
        rw [w64 (n := x) (by omega) (by omega), w64 (by omega) (by omega)]
        constructor
        · show 1 ≤ min _ _; omega
        · show min _ _ ≤ _; omega
      obtain ⟨m, rfl⟩ : ∃ m : Nat, n = (m : Int) := ⟨n.toNat, by omega⟩
      have e1 : sliI rest 0 (m : Int) = some (rest.take m) := by rw [sliI_ok (by decide) (by omega) (by omega)]; rfl
      have hr : r = (feedR ⟨[], 0⟩ pre).1 := by rw [← hrg]
      have hg : got = (feedR ⟨[], 0⟩ pre).2 := by rw [← hrg]
      subst hr; subst hg
      have hfo := feedR_ok ⟨[], 0⟩ pre Bytes.nil hBp
      have htl : (rest.take m).length ≤ rest.length := by rw [List.length_take]; omega
      have hfo2 := feedR_ok (feedR ⟨[], 0⟩ pre).1 (rest.take m) hfo.1 (hBr.take m)
      simp only [List.length_nil, Nat.zero_add] at hfo
      rw [e1, bind_some, tele_feed _ _ hfo.1 (hBr.take m) (by omega) (by omega) (by omega), bind_some, appI_ok (by omega), bind_some, slice_from rest m (by omega), bind_some, w64 (by omega) (by omega)]
      refine ok_some ?_
      refine ⟨⟨pre ++ rest.take m, ?_, ?_, ?_, ?_⟩, ?_⟩
      · simp only []
        rw [List.append_assoc, List.take_append_drop]
        exact hpre
      · simp only []
        unfold feedR
        simp only [List.nil_append]
        rw [feed_app (rest.take m) pre hBp]
        simp only [Prod.mk.injEq, T_Reader.mk.injEq, true_and, and_true]
        omega
      · show 0 ≤ i + 1; omega
      · simp only [List.length_drop]; omega
      · simp only [List.length_drop]; omega
    · simp only []
      have : rest = [] := List.eq_nil_of_length_eq_zero (by omega)
      subst this
      rw [List.append_nil] at hpre
      subst hpre
      rw [← hrg]
  · unfold feedR
    rw [List.append_nil, feed_none s_0]
    rfl
  · subst ho
    rw [str_refl]
    have hfo := feedR_ok ⟨[], 0⟩ x3.2 Bytes.nil hB
    simp only [List.length_nil, Nat.zero_add] at hfo
    have hrest := step1_none hfo.1 (show step1 (feedR ⟨[], 0⟩ x3.2).1.Held = none by unfold feedR; rw [List.nil_append]; exact feed_rest _ hB)
    show Ok (bif decide _ then _ else _) _
    rw [bif_pos rfl, same_ok _ _ hfo.2.2.1 hfo.2.2.1 (by omega), bind_some, decide_eq_true rfl]
    show Ok (bif decide _ then _ else _) _
    rw [bif_pos (by omega)]
    exact ok_awake (ok_some rfl)

/-! ### no byte is lost -/
def flen (l : List T_Frame) : Nat := (l.map fun f => f.Data.length + 6).sum
theorem flen_cons (f : T_Frame) (l : List T_Frame) : flen (f :: l) = f.Data.length + 6 + flen l := by simp [flen]
theorem counts_loop (x15 : T_Reader × List T_Frame) (hl : x15.2.length ≤ 100000) (hf : ∀ f ∈ x15.2, f.Data.length ≤ 100000) : ∀ (k i : Nat) (n : Int), i + k = x15.2.length → 0 ≤ n → n + (flen (x15.2.drop i) : Nat) ≤ 1000000 →
    loopC (F_law04_TelegramCounts_L2 x15) (n, (i : Int)) = some (n + (flen (x15.2.drop i) : Nat)) := by
  intro k
  induction k with
  | zero =>
    intro i n hi h0 hn
    rw [List.drop_of_length_le (by omega)]
    refine loopC_inr ?_
    unfold F_law04_TelegramCounts_L2
    simp only []
    rw [bif_neg (by omega)]
    simp [flen]
  | succ k ih =>
    intro i n hi h0 hn
    have hil : i < x15.2.length := by omega
    rw [List.drop_eq_getElem_cons hil, flen_cons] at hn ⊢
    have hb := hf _ (List.getElem_mem hil)
    rw [loopC_inl (a' := (n + (6 + (x15.2[i].Data.length : Int)), ((i + 1 : Nat) : Int))), ih (i + 1) _ (by omega) (by omega) (by omega)]
    · congr 1; omega
    · unfold F_law04_TelegramCounts_L2
      simp only []
      rw [bif_pos (by omega), getI_nat, List.getElem?_eq_getElem hil, bind_some, w64 (n := 6 + (x15.2[i].Data.length : Int)) (by omega) (by omega), w64 (by omega) (by omega), w64 (by omega) (by omega)]
      rfl
theorem counts_true (p0 p1 : List Int) (h0 : Bytes p0) (h1 : Bytes p1) : F_law04_TelegramCounts p0 p1 = some true := by
  refine Ok.val ?_
  unfold F_law04_TelegramCounts
  refine ok_dec (fun _ => ok_awake (ok_some rfl)) (fun hl1 => ?_)
  refine ok_bind (new_ok p0 h0) fun c hc => ?_
  refine ok_bind (bytes_ok c 6 hc (by decide) (by decide)) fun x6 h6 => ?_
  refine ok_bind (ok_loop (fun s : Int => 0 ≤ s) (fun s => (2 - s).toNat) (fun o => o = .inr ()) (fun s hs => ?_) 0 (Int.le_refl 0)) fun o ho => ?_
  · unfold F_law04_TelegramCounts_L1
    refine ok_dec (fun hlt => ?_) (fun _ => ok_some rfl)
    have hlt : s < 2 := hlt
    refine ok_bind (ok_getI hs hlt) fun x hx => ?_
    have hfx : Bytes x ∧ x.length ≤ 10000 := by
      rcases get2 hx hs hlt with rfl | rfl
      · exact h6.2
      · exact ⟨h1, by omega⟩
    obtain ⟨hB, hl⟩ := hfx
    rw [tele_feed ⟨[], 0⟩ x Bytes.nil hB (by simp; omega) (by decide) (by decide), bind_some]
    have hfo : Bytes (feed x).1 ∧ (feed x).1.length + (feed x).2.1 + flen (feed x).2.2 = x.length ∧ (feed x).2.2.length ≤ x.length ∧ ∀ f ∈ (feed x).2.2, FrOk f := feed_ok x hB
    have e : feedR ⟨[], 0⟩ x = (⟨(feed x).1, ((feed x).2.1 : Int)⟩, (feed x).2.2) := by unfold feedR; simp
    rw [e]
    simp only []
    have hsum : ∀ (l : List T_Frame) (f : T_Frame), f ∈ l → f.Data.length ≤ flen l := by
      intro l
      induction l with
      | nil => intro f hf; cases hf
      | cons g l ih =>
        intro f hf
        rw [flen_cons]
        rcases List.mem_cons.1 hf with rfl | hf
        · omega
        · have := ih f hf; omega
    have hloop := counts_loop (⟨(feed x).1, ((feed x).2.1 : Int)⟩, (feed x).2.2) (by show (feed x).2.2.length ≤ _; omega) (fun f hf => by dsimp only at hf; have := hsum _ f hf; have := hfo.2.1; omega) (feed x).2.2.length 0 (((feed x).2.1 : Int) + (feed x).1.length) (by simp) (by omega) (by dsimp only; rw [List.drop_zero]; have := hfo.2.1; omega)
    rw [w64 (n := ((feed x).2.1 : Int) + ((feed x).1.length : Int)) (by omega) (by omega)]
    rw [show ((0 : Nat) : Int) = 0 from rfl] at hloop
    rw [hloop, bind_some, List.drop_zero]
    dsimp only
    refine ok_dec (fun hne => absurd ?_ hne) (fun _ => ?_)
    · have := hfo.2.1; omega
    · refine ok_some ?_
      show _ ∧ _
      rw [w64 (by omega) (by omega)]
      constructor <;> omega
  · subst ho
    exact ok_awake (ok_some rfl)

theorem bytesOf {l : List Int} (h : InL (In .u8) l) : Bytes l := fun x hx => In.u8 (h.2 x hx)
theorem law_TelegramWrites (p0 : List Int) (w0 : InL (In .u8) p0) (p1 : T_Frame) (w1 : p1.Wf) (p2 : List Int) (w2 : InL (In .u8) p2) : F_law04_TelegramWrites p0 p1 p2 = some true :=
  writes_true p0 p1 p2 (bytesOf w0) (bytesOf w1.2.2.1) (bytesOf w2)
theorem law_TelegramReads (p0 : List Int) (w0 : InL (In .u8) p0) (p1 : T_Reader) (w1 : p1.Wf) (p2 : List Int) (w2 : InL (In .u8) p2) (p3 : Int) (w3 : In .i64 p3) : F_law04_TelegramReads p0 p1 p2 p3 = some true :=
  reads_true p0 p1 p2 p3 (bytesOf w0) (bytesOf w1.1) (In.i64 w1.2.1).1 (bytesOf w2)
theorem law_TelegramPieces (p0 : List Int) (w0 : InL (In .u8) p0) (p1 : List Int) (w1 : InL (In .u8) p1) : F_law04_TelegramPieces p0 p1 = some true := pieces_true p0 p1 (bytesOf w0) (bytesOf w1)
theorem law_TelegramCounts (p0 : List Int) (w0 : InL (In .u8) p0) (p1 : List Int) (w1 : InL (In .u8) p1) : F_law04_TelegramCounts p0 p1 = some true := counts_true p0 p1 (bytesOf w0) (bytesOf w1)
end Go.L
