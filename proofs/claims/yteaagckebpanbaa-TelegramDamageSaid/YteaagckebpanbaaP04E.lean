/- TelegramBack: telegrams that were written are read again. -/
import Derived.Test.YteaagckebpanbaaP04D
namespace Go.L
open Go Go.Aml

theorem getD_right {a b : List Int} {i : Nat} : (a ++ b).getD (a.length + i) 0 = b.getD i 0 := by
  rw [List.getD_eq_getElem?_getD, List.getD_eq_getElem?_getD, List.getElem?_append_right (by omega), Nat.add_sub_cancel_left]

/-- A telegram that was written is taken. -/
theorem step1_write {f : T_Frame} (hb : ¬ BadHead f) (hl : f.Data.length ≤ 64) (hd : Bytes f.Data) (rest : List Int) : step1 (wbytes f ++ rest) = some (f.Data.length + 6, some f) := by
  generalize hc : crcL ((hdr f ++ f.Data).drop 1) 65535 = c
  have hcb := crcL_bd ((hdr f ++ f.Data).drop 1) 65535 (by decide) (by decide)
  rw [hc] at hcb
  have hw : wbytes f ++ rest = (hdr f ++ f.Data) ++ (c / 256 :: c % 256 :: rest) := by unfold wbytes; rw [hc]; simp
  rw [hw]
  have hlen : (hdr f ++ f.Data).length = f.Data.length + 4 := by simp [hdr]
  generalize hL : (hdr f ++ f.Data) ++ (c / 256 :: c % 256 :: rest) = L
  have hLl : L.length = f.Data.length + 6 + rest.length := by rw [← hL, List.length_append, hlen]; simp; omega
  have e0 : L.getD 0 0 = 126 := by rw [← hL]; rfl
  have e1 : L.getD 1 0 = (f.Data.length : Int) := by rw [← hL]; rfl
  have e2 : L.getD 2 0 = f.Address := by rw [← hL]; rfl
  have e3 : L.getD 3 0 = f.Kind := by rw [← hL]; rfl
  have ht : L.take (4 + f.Data.length) = hdr f ++ f.Data := by rw [← hL, show 4 + f.Data.length = (hdr f ++ f.Data).length by omega, List.take_left]
  have e4 : L.getD (4 + f.Data.length) 0 = c / 256 := by
    rw [← hL, show 4 + f.Data.length = (hdr f ++ f.Data).length + 0 by omega, getD_right]; rfl
  have e5 : L.getD (5 + f.Data.length) 0 = c % 256 := by
    rw [← hL, show 5 + f.Data.length = (hdr f ++ f.Data).length + 1 by omega, getD_right]; rfl
  unfold step1
  rw [e0, e1, e2, e3, Int.toNat_natCast, ht, e4, e5, hc, if_neg (by omega), if_neg (by rintro (h | h); exact h rfl; omega), if_neg (by omega), if_neg (by omega)]
  rfl
theorem feed_write {f : T_Frame} (hb : ¬ BadHead f) (hl : f.Data.length ≤ 64) (hd : Bytes f.Data) : feed (wbytes f) = ([], 0, [f]) := by
  have h := step1_write hb hl hd []
  rw [List.append_nil] at h
  have hlen : (wbytes f).length = f.Data.length + 6 := by simp [wbytes, hdr]
  rw [feed_take h, List.drop_of_length_le (by omega), feed_none s_0]

/-- Behind any bytes a telegram is found. -/
theorem feed_finds (R : List Int) (hR : Bytes R) (hl : 70 ≤ R.length) {k : Nat} {f : T_Frame} (h : step1 R = some (k, some f)) : ∀ noise : List Int, Bytes noise → (feed (noise ++ R)).2.2 ≠ [] := by
  intro noise
  generalize hm : noise.length = m
  induction m using Nat.strongRecOn generalizing noise with
  | _ m ih =>
    intro hB
    have hBR := hB.app hR
    cases noise with
    | nil =>
      rw [List.nil_append, feed_take h]
      simp
    | cons a noise =>
      cases hs : step1 ((a :: noise) ++ R) with
      | none =>
        have := step1_none hBR hs
        rw [List.length_append] at this
        omega
      | some p =>
        obtain ⟨q, o⟩ := p
        cases o with
        | some g =>
          rw [feed_take hs]
          simp
        | none =>
          have hq := (step1_pos hBR hs).2.2.1 rfl
          rw [feed_drop hs]
          subst hq
          show (feed (List.drop 1 ((a :: noise) ++ R))).2.2 ≠ []
          simp only [List.cons_append, List.drop_succ_cons, List.drop_zero]
          exact ih noise.length (by rw [← hm]; simp) noise rfl fun b hb => hB b (List.mem_cons_of_mem _ hb)

theorem w_200 : wres ⟨200, 77, [1]⟩ = ([126, 1, 200, 77, 1, 22, 147], 0) := by decide +kernel
theorem wb_200 : wbytes ⟨200, 77, [1]⟩ = [126, 1, 200, 77, 1, 22, 147] := by decide +kernel

theorem back_loop1 (n : Nat) : ∀ (s : Int × T_draw_Codes × List Int × List T_Frame), s.1 = (n : Int) → CodesOk s.2.1 → Bytes s.2.2.1 → s.2.2.1.length + n * 100 ≤ 100000 → s.2.2.2.length + n ≤ 1000 → (∀ f ∈ s.2.2.2, FrOk f) → feed s.2.2.1 = ([], 0, s.2.2.2) →
    Ok (loopC F_law04_TelegramBack_L1 s) fun o => ∃ all want, o = .inr (all, want) ∧ Bytes all ∧ all.length ≤ 100000 ∧ want.length ≤ 1000 ∧ (∀ f ∈ want, FrOk f) ∧ feed all = ([], 0, want) := by
  induction n with
  | zero =>
    rintro ⟨k, c, all, want⟩ hk hc hB hl hw hf hfe
    dsimp only at hk hc hB hl hw hf hfe
    refine ⟨.inr (all, want), loopC_inr ?_, all, want, rfl, hB, by omega, by omega, hf, hfe⟩
    unfold F_law04_TelegramBack_L1
    dsimp only
    rw [bif_neg (by omega)]
  | succ n ih =>
    rintro ⟨k, c, all, want⟩ hk hc hB hl hw hf hfe
    dsimp only at hk hc hB hl hw hf hfe
    have step : Ok (F_law04_TelegramBack_L1 (k, c, all, want)) fun o => ∃ s, o = Sum.inl s ∧ s.1 = (n : Int) ∧ CodesOk s.2.1 ∧ Bytes s.2.2.1 ∧ s.2.2.1.length ≤ all.length + 100 ∧ s.2.2.2.length ≤ want.length + 1 ∧ (∀ f ∈ s.2.2.2, FrOk f) ∧ feed s.2.2.1 = ([], 0, s.2.2.2) := by
      unfold F_law04_TelegramBack_L1
      dsimp only
      rw [bif_pos (by omega)]
      refine ok_bind (frame_ok c hc) fun x hx => ?_
      have hwr : wres x.2 = (wbytes x.2, 0) := by unfold wres; rw [if_neg hx.2.2.1, if_neg (by omega)]
      have hwb := wres_bytes x.2 hx.2.1
      rw [hwr] at hwb
      dsimp only at hwb
      rw [tele_write _ hx.2.1, bind_some, hwr]
      dsimp only
      rw [bif_neg (by decide), appI_ok (by omega), bind_some, appI_ok (by simp; omega), bind_some, w64 (by omega) (by omega)]
      refine ok_some ⟨_, rfl, ?_, hx.1, hB.app hwb.1, ?_, ?_, ?_, ?_⟩
      · show k - 1 = _; omega
      · dsimp only; rw [List.length_append]; omega
      · simp
      · intro f hff
        rcases List.mem_append.1 hff with h | h
        · exact hf f h
        · simp at h; subst h; exact hx.2.1
      · dsimp only
        rw [feed_app _ all hB, hfe]
        dsimp only
        rw [List.nil_append, feed_write hx.2.2.1 (by omega) hx.2.1]
        rfl
    obtain ⟨o, h1, s, rfl, h2, h3, h4, h5, h6, h7, h8⟩ := step
    rw [loopC_inl h1]
    exact ih s h2 h3 h4 (by omega) (by omega) h7 h8

theorem back_true (p0 p1 : List Int) (h0 : Bytes p0) (h1 : Bytes p1) : F_law04_TelegramBack p0 p1 = some true := by
  refine Ok.val ?_
  unfold F_law04_TelegramBack
  refine ok_dec (fun _ => ok_awake (ok_some rfl)) (fun hl1 => ?_)
  refine ok_bind (new_ok p0 h0) fun c hc => ?_
  refine ok_bind (next_lt c 5 hc (by decide)) fun x6 h6 => ?_
  obtain ⟨n, hn⟩ : ∃ n : Nat, x6.2 = (n : Int) := ⟨x6.2.toNat, by omega⟩
  refine ok_bind (back_loop1 n (x6.2, x6.1, [], []) hn h6.1 Bytes.nil (by simp; omega) (by simp; omega) (by simp) (feed_none s_0)) fun o ho => ?_
  obtain ⟨all, want, rfl, hB, hal, hwl, hf, hfe⟩ := ho
  show Ok ((F_telegram_Feed ⟨[], 0⟩ all).bind _) _
  have e : feedR ⟨[], 0⟩ all = (⟨[], 0⟩, want) := by unfold feedR; rw [List.nil_append, hfe]; rfl
  rw [tele_feed ⟨[], 0⟩ all Bytes.nil hB (by simp; omega) (by decide) (by decide), bind_some, e]
  have e2 : ((bif decide ((⟨[], 0⟩ : T_Reader).Dropped ≠ 0) then some true else bif decide (((⟨[], 0⟩ : T_Reader).Held.length : Int) ≠ 0) then some true else (F_ref04_Same want want).bind fun x27 => some (!x27)) : Option Bool) = some false := by
    rw [bif_neg (by decide), bif_neg (by decide), same_ok _ _ hf hf (by omega), bind_some, decide_eq_true rfl]; rfl
  dsimp only
  rw [e2, bind_some]
  show Ok ((F_telegram_Write ⟨200, 77, [1]⟩).bind _) _
  have hB1 : Bytes [1] := Bytes.cons ⟨by decide, by decide⟩ Bytes.nil
  have hBW : Bytes [126, 1, 200, 77, 1, 22, 147] := by intro b hb; simp at hb; omega
  rw [tele_write _ hB1, bind_some, w_200, appI_ok (by simp; omega), bind_some, List.nil_append]
  dsimp only
  rw [appI_ok (by simp; omega), bind_some]
  refine ok_bind (ok_loop (fun (s : Int × List Int) => 0 ≤ s.1 ∧ s.1 ≤ 75 ∧ s.2 = p1 ++ [126, 1, 200, 77, 1, 22, 147] ++ List.replicate s.1.toNat 0) (fun s => (75 - s.1).toNat) (fun o => o = p1 ++ ([126, 1, 200, 77, 1, 22, 147] ++ List.replicate 75 0)) (fun s hs => ?_) _ ⟨Int.le_refl 0, by show (0 : Int) ≤ 75; decide, by simp⟩) fun o ho => ?_
  · obtain ⟨i, far⟩ := s
    obtain ⟨hi0, hi1, hfar⟩ := hs
    dsimp only at hi0 hi1 hfar
    subst hfar
    unfold F_law04_TelegramBack_L2
    dsimp only
    refine ok_dec (fun hlt => ?_) (fun hge => ok_some ?_)
    · rw [appI_ok (by simp; omega), bind_some, w64 (by omega) (by omega)]
      refine ok_some ⟨⟨?_, ?_, ?_⟩, ?_⟩
      · show 0 ≤ i + 1; omega
      · show i + 1 ≤ 75; omega
      · dsimp only
        rw [show (i + 1).toNat = i.toNat + 1 by omega, List.replicate_succ', ← List.append_assoc]
      · show (75 - (i + 1)).toNat < (75 - i).toNat; omega
    · dsimp only
      rw [show i.toNat = 75 by omega, List.append_assoc]
  · subst ho
    have hBR : Bytes ([126, 1, 200, 77, 1, 22, 147] ++ List.replicate 75 0) := hBW.app fun b hb => by
      have := List.eq_of_mem_replicate hb
      subst this
      exact ⟨by decide, by decide⟩
    have hB := h1.app hBR
    have hst : step1 ([126, 1, 200, 77, 1, 22, 147] ++ List.replicate 75 0) = some (7, some ⟨200, 77, [1]⟩) := by
      have := step1_write (f := ⟨200, 77, [1]⟩) (by decide) (by decide) hB1 (List.replicate 75 0)
      rw [wb_200] at this
      exact this
    have hne := feed_finds _ hBR (by simp) hst p1 h1
    have hlen : (p1 ++ ([126, 1, 200, 77, 1, 22, 147] ++ List.replicate 75 0)).length = p1.length + 82 := by simp
    have hfo := feed_ok _ hB
    generalize hX : p1 ++ ([126, 1, 200, 77, 1, 22, 147] ++ List.replicate 75 0) = X at *
    rw [tele_feed ⟨[], 0⟩ X Bytes.nil hB (by simp; omega) (by decide) (by decide), bind_some]
    have e : feedR ⟨[], 0⟩ X = (⟨(feed X).1, ((feed X).2.1 : Int)⟩, (feed X).2.2) := by unfold feedR; simp
    rw [e]
    refine ok_bind (ok_loop (fun (s : Bool × Int) => 0 ≤ s.2) (fun s => ((feed X).2.2.length - s.2).toNat) (fun _ => True) (fun s hs => ?_) _ (Int.le_refl 0)) fun o44 _ => ?_
    · unfold F_law04_TelegramBack_L3
      dsimp only
      refine ok_dec (fun hlt => ?_) (fun _ => ok_some trivial)
      refine ok_bind (Q := fun _ => True) (ok_bif (fun _ => ok_some trivial) (fun _ => ?_)) fun b _ => ?_
      · rw [w64 (by omega) (by omega)]
        refine ok_bind (ok_sliI hs (by omega) (by omega)) fun x48 hx => ?_
        have hfx : ∀ f ∈ x48, FrOk f := by
          subst hx
          intro f hff
          exact hfo.2.2.2 f (List.mem_of_mem_take (List.mem_of_mem_drop hff))
        have hf1 : ∀ f ∈ [(⟨200, 77, [1]⟩ : T_Frame)], FrOk f := by intro f h; simp at h; subst h; exact hB1
        rw [same_ok _ _ hfx hf1 (by subst hx; simp; omega), bind_some]
        exact ok_some trivial
      · rw [w64 (by omega) (by omega)]
        refine ok_some ⟨?_, ?_⟩
        · show 0 ≤ s.2 + 1; omega
        · show (((feed X).2.2.length : Int) - (s.2 + 1)).toNat < (((feed X).2.2.length : Int) - s.2).toNat; omega
    · refine ok_bif (fun _ => ok_awake (ok_some rfl)) (fun _ => ?_)
      refine ok_dec (fun _ => ok_awake (ok_some rfl)) (fun hz => absurd ?_ hne)
      dsimp only at hz
      exact List.eq_nil_of_length_eq_zero (by omega)
theorem law_TelegramBack (p0 : List Int) (w0 : InL (In .u8) p0) (p1 : List Int) (w1 : InL (In .u8) p1) : F_law04_TelegramBack p0 p1 = some true := back_true p0 p1 (bytesOf w0) (bytesOf w1)
end Go.L
