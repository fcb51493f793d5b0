/- TelegramDamage: a telegram of which one byte is another one. -/
import Derived.Test.YteaagckebpanbaaP04F
namespace Go.L
open Go Go.Aml

theorem step1_taken {l : List Int} {n : Nat} {g : T_Frame} (h : step1 l = some (n + 6, some g)) : l.getD 0 0 = 126 ∧ crcL ((l.take (4 + n)).drop 1) 65535 = l.getD (4 + n) 0 * 256 + l.getD (5 + n) 0 := by
  unfold step1 at h
  split at h
  · cases h
  · split at h
    · injection h with h; injection h with h1 h2; cases h2
    · rename_i c1
      split at h
      · cases h
      · split at h
        · injection h with h; injection h with h1 h2; cases h2
        · rename_i c3
          injection h with h; injection h with h1 h2
          have hn : (l.getD 1 0).toNat = n := by omega
          rw [hn] at c3
          refine ⟨?_, ?_⟩
          · by_cases c : l.getD 0 0 = 126
            · exact c
            · exact absurd (.inl c) c1
          · by_cases c : crcL ((l.take (4 + n)).drop 1) 65535 = l.getD (4 + n) 0 * 256 + l.getD (5 + n) 0
            · exact c
            · exact absurd c c3

theorem damage (f : T_Frame) (hb : ¬ BadHead f) (hl : f.Data.length ≤ 64) (hd : Bytes f.Data) (k : Nat) (y z : Int) (hy : (wbytes f)[k]? = some y) (hz : 0 ≤ z ∧ z ≤ 255) (hne : y ≠ z) (g : T_Frame) : step1 ((wbytes f).set k z) ≠ some (f.Data.length + 6, some g) := by
  intro h
  obtain ⟨h0, hc⟩ := step1_taken h
  generalize hcc : crcL ((hdr f ++ f.Data).drop 1) 65535 = c at *
  have hcb := crcL_bd ((hdr f ++ f.Data).drop 1) 65535 (by decide) (by decide)
  rw [hcc] at hcb
  have hB := hdr_bytes hb (by omega) hd
  generalize hL : (hdr f ++ f.Data).drop 1 = L at hcc
  have hH : hdr f ++ f.Data = 126 :: L := by rw [← hL]; rfl
  have hLl : L.length = 3 + f.Data.length := by rw [← hL]; simp [hdr]; omega
  have hLB : Bytes L := by rw [← hL]; exact hB.drop 1
  have hw : wbytes f = 126 :: (L ++ [c / 256, c % 256]) := by
    unfold wbytes
    rw [hL, hcc, hH]
    rfl
  rw [hw] at h0 hc hy
  cases k with
  | zero =>
    simp at hy
    rw [List.set_cons_zero] at h0
    have : z = 126 := h0
    omega
  | succ j =>
    rw [List.set_cons_succ] at hc
    rw [List.getElem?_cons_succ] at hy
    have e4 : 4 + f.Data.length = L.length + 1 := by omega
    have e5 : 5 + f.Data.length = L.length + 1 + 1 := by omega
    rw [e4, e5, List.take_succ_cons, List.drop_one, List.tail_cons] at hc
    have gs : ∀ (a : Int) (l : List Int) (i : Nat), (a :: l).getD (i + 1) 0 = l.getD i 0 := fun _ _ _ => rfl
    rw [gs, gs] at hc
    by_cases hj : j < L.length
    · rw [List.set_append_left _ _ hj, List.take_left' (by rw [List.length_set])] at hc
      rw [List.getElem?_append_left hj] at hy
      have g0 : (L.set j z ++ [c / 256, c % 256]).getD L.length 0 = c / 256 := by
        have := getD_right (a := L.set j z) (b := [c / 256, c % 256]) (i := 0)
        rw [List.length_set] at this
        exact this
      have g1 : (L.set j z ++ [c / 256, c % 256]).getD (L.length + 1) 0 = c % 256 := by
        have := getD_right (a := L.set j z) (b := [c / 256, c % 256]) (i := 1)
        rw [List.length_set] at this
        exact this
      rw [g0, g1] at hc
      have hc2 : crcL (L.set j z) 65535 = crcL L 65535 := by omega
      have eL : L = L.take j ++ y :: L.drop (j + 1) := by
        have hyy : L[j] = y := by rw [List.getElem?_eq_getElem hj] at hy; injection hy
        rw [← hyy, ← List.drop_eq_getElem_cons hj, List.take_append_drop]
      have eS : L.set j z = L.take j ++ z :: L.drop (j + 1) := by rw [List.set_eq_take_append_cons_drop, if_pos hj]
      rw [eS] at hc2
      conv at hc2 => rhs; rw [eL]
      exact hne (crc_one _ _ _ _ hz (hLB y (mem_get hy)) hc2).symm
    · have hj2 : j = L.length ∨ j = L.length + 1 := by
        have := (List.getElem?_eq_some_iff.1 hy).1
        simp at this
        omega
      rw [List.set_append_right _ _ (by omega), List.take_left] at hc
      rw [List.getElem?_append_right (by omega)] at hy
      rcases hj2 with rfl | rfl
      · rw [Nat.sub_self] at hy hc
        simp at hy
        have g0 := getD_right (a := L) (b := [z, c % 256]) (i := 0)
        have g1 := getD_right (a := L) (b := [z, c % 256]) (i := 1)
        rw [Nat.add_zero] at g0
        rw [show List.set [c / 256, c % 256] 0 z = [z, c % 256] from rfl, g0, g1] at hc
        have g0' : ([z, c % 256] : List Int).getD 0 0 = z := rfl
        have g1' : ([z, c % 256] : List Int).getD 1 0 = c % 256 := rfl
        rw [g0', g1'] at hc
        omega
      · rw [show L.length + 1 - L.length = 1 by omega] at hy hc
        simp at hy
        have g0 := getD_right (a := L) (b := [c / 256, z]) (i := 0)
        have g1 := getD_right (a := L) (b := [c / 256, z]) (i := 1)
        rw [Nat.add_zero] at g0
        rw [show List.set [c / 256, c % 256] 1 z = [c / 256, z] from rfl, g0, g1] at hc
        have g0' : ([c / 256, z] : List Int).getD 0 0 = c / 256 := rfl
        have g1' : ([c / 256, z] : List Int).getD 1 0 = z := rfl
        rw [g0', g1'] at hc
        omega

theorem damage_feed (f : T_Frame) (hb : ¬ BadHead f) (hl : f.Data.length ≤ 64) (hd : Bytes f.Data) (k : Nat) (y z : Int) (hy : (wbytes f)[k]? = some y) (hz : 0 ≤ z ∧ z ≤ 255) (hne : y ≠ z) (hB : Bytes ((wbytes f).set k z)) : ∀ g ∈ (feed ((wbytes f).set k z)).2.2, g.Data.length ≠ f.Data.length := by
  intro g hg he
  have hlen : (wbytes f).length = f.Data.length + 6 := by simp [wbytes, hdr]
  have hfo : Bytes (feed ((wbytes f).set k z)).1 ∧ (feed ((wbytes f).set k z)).1.length + (feed ((wbytes f).set k z)).2.1 + flen (feed ((wbytes f).set k z)).2.2 = ((wbytes f).set k z).length ∧ (feed ((wbytes f).set k z)).2.2.length ≤ ((wbytes f).set k z).length ∧ ∀ f' ∈ (feed ((wbytes f).set k z)).2.2, FrOk f' := feed_ok _ hB
  have hdm := damage f hb hl hd k y z hy hz hne
  rw [List.length_set, hlen] at hfo
  generalize (wbytes f).set k z = X at *
  have hsum : ∀ (l : List T_Frame), g ∈ l → g.Data.length + 6 ≤ flen l := by
    intro l
    induction l with
    | nil => intro h; cases h
    | cons a l ih =>
      intro h
      rw [flen_cons]
      rcases List.mem_cons.1 h with rfl | h
      · omega
      · have := ih h; omega
  have h1 := hsum _ hg
  cases hs : step1 X with
  | none => rw [feed_none hs] at hg; cases hg
  | some p =>
    obtain ⟨q, o⟩ := p
    cases o with
    | none =>
      have h2 := hfo.2.1
      rw [feed_drop hs] at h2 h1
      dsimp only at h2 h1
      omega
    | some a =>
      have hp := (step1_pos hB hs).2.2.2 a rfl
      have h2 := hfo.2.1
      rw [feed_take hs] at h2 h1 hg
      dsimp only at h2 h1 hg
      rw [flen_cons] at h2 h1
      rcases List.mem_cons.1 hg with rfl | hg
      · apply hdm g
        rw [hs, hp.2.1, he]
      · have := hsum _ hg
        omega

theorem damage_true (p0 : List Int) (p1 p2 : Int) (h0 : Bytes p0) (h2 : 0 ≤ p2 ∧ p2 ≤ 255) : F_law04_TelegramDamage p0 p1 p2 = some true := by
  refine Ok.val ?_
  unfold F_law04_TelegramDamage
  refine ok_bind (new_ok p0 h0) fun c hc => ?_
  refine ok_bind (frame_ok c hc) fun x3 h3 => ?_
  have hwr : wres x3.2 = (wbytes x3.2, 0) := by unfold wres; rw [if_neg h3.2.2.1, if_neg (by omega)]
  have hwb := wres_bytes x3.2 h3.2.1
  rw [hwr] at hwb
  dsimp only at hwb
  have hlen : (wbytes x3.2).length = x3.2.Data.length + 6 := by simp [wbytes, hdr]
  rw [tele_write _ h3.2.1, bind_some, hwr]
  dsimp only
  rw [bif_neg (by decide), bind_some, decide_eq_false (by omega)]
  show Ok ((F_draw_Mod p1 ((wbytes x3.2).length : Int)).bind _) _
  refine ok_bind (mod_ok p1 _ (by omega)) fun k hk => ?_
  have hk2 := hk.2.1 (by omega)
  refine ok_bind (ok_getI hk.1 hk2) fun y hy => ?_
  refine ok_dec (fun _ => ok_awake (ok_some rfl)) (fun hne => ?_)
  rw [appI_ok (by simp; omega), bind_some, List.nil_append]
  refine ok_bind (ok_getI hk.1 hk2) fun y' _ => ?_
  have hB := hwb.1.set k.toNat h2
  have hdf := damage_feed x3.2 h3.2.2.1 (by omega) h3.2.1 k.toNat y p2 hy h2 hne hB
  rw [tele_feed ⟨[], 0⟩ _ Bytes.nil hB (by simp; omega) (by decide) (by decide), bind_some]
  have hfo := feed_ok _ hB
  rw [List.length_set] at hfo
  generalize (wbytes x3.2).set k.toNat p2 = X at *
  have e : feedR ⟨[], 0⟩ X = (⟨(feed X).1, ((feed X).2.1 : Int)⟩, (feed X).2.2) := by unfold feedR; simp
  rw [e]
  refine ok_bind (ok_loop (fun s : Int => 0 ≤ s) (fun s => ((feed X).2.2.length - s).toNat) (fun o => o = .inr ()) (fun s hs => ?_) 0 (Int.le_refl 0)) fun o ho => ?_
  · unfold F_law04_TelegramDamage_L1
    dsimp only
    refine ok_dec (fun hlt => ?_) (fun _ => ok_some rfl)
    refine ok_bind (ok_getI hs hlt) fun g hg => ?_
    have := hdf g (mem_get hg)
    rw [bif_neg (by omega), w64 (by omega) (by omega)]
    refine ok_some ⟨?_, ?_⟩
    · show 0 ≤ s + 1; omega
    · show (((feed X).2.2.length : Int) - (s + 1)).toNat < (((feed X).2.2.length : Int) - s).toNat; omega
  · subst ho
    exact ok_awake (ok_some rfl)
theorem law_TelegramDamage (p0 : List Int) (w0 : InL (In .u8) p0) (p1 : Int) (w1 : In .i64 p1) (p2 : Int) (w2 : In .u8 p2) : F_law04_TelegramDamage p0 p1 p2 = some true := damage_true p0 p1 p2 (bytesOf w0) (In.u8 w2)
end Go.L
