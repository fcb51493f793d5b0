/- Telegrams: what is written, and what is read, as plain functions. -/
import Derived.Test.YteaagckebpanbaaP04A
namespace Go.L
open Go Go.Aml

theorem getI_D {l : List Int} {i : Int} (h0 : 0 ≤ i) (h1 : i < (l.length : Int)) : getI l i = some (l.getD i.toNat 0) := by
  rw [getI_ok h0 h1, List.getD_eq_getElem?_getD, List.getElem?_eq_getElem (by omega)]; rfl
theorem bytes_D {l : List Int} (h : Bytes l) (i : Nat) : 0 ≤ l.getD i 0 ∧ l.getD i 0 ≤ 255 := by
  rw [List.getD_eq_getElem?_getD]
  by_cases hi : i < l.length
  · rw [List.getElem?_eq_getElem hi]; exact h _ (List.getElem_mem hi)
  · rw [List.getElem?_eq_none (by omega)]; exact ⟨by decide, by decide⟩

def hdr (f : T_Frame) : List Int := [126, (f.Data.length : Int), f.Address, f.Kind]
def wbytes (f : T_Frame) : List Int := hdr f ++ f.Data ++ [crcL ((hdr f ++ f.Data).drop 1) 65535 / 256, crcL ((hdr f ++ f.Data).drop 1) 65535 % 256]
def BadHead (f : T_Frame) : Prop := f.Address < 0 ∨ 255 < f.Address ∨ f.Kind < 0 ∨ 255 < f.Kind
instance (f : T_Frame) : Decidable (BadHead f) := by unfold BadHead; infer_instance
def wres (f : T_Frame) : List Int × Int := if BadHead f then ([], 1) else if 64 < f.Data.length then ([], 2) else (wbytes f, 0)

theorem u8_mod (n : Int) : IntKind.u8.wrap n = n % 256 := by
  unfold IntKind.wrap
  simp [IntKind.bits, IntKind.signed]

theorem badHead_eq (f : T_Frame) : (bif (decide (f.Address < 0)) then some true else bif (decide (255 < f.Address)) then some true else bif (decide (f.Kind < 0)) then some true else some (decide (255 < f.Kind))) = some (decide (BadHead f)) := by
  unfold BadHead
  by_cases h1 : f.Address < 0
  · simp [h1]
  · by_cases h2 : 255 < f.Address
    · simp [h1, h2]
    · by_cases h3 : f.Kind < 0
      · simp [h1, h2, h3]
      · simp [h1, h2, h3]

theorem hdr_bytes {f : T_Frame} (h : ¬ BadHead f) (hl : ¬ 64 < f.Data.length) (hd : Bytes f.Data) : Bytes (hdr f ++ f.Data) := by
  unfold BadHead at h
  unfold hdr
  refine Bytes.app ?_ hd
  refine Bytes.cons ⟨by decide, by decide⟩ (Bytes.cons ⟨by omega, by omega⟩ (Bytes.cons ⟨by omega, by omega⟩ (Bytes.cons ⟨by omega, by omega⟩ Bytes.nil)))

theorem tele_write (f : T_Frame) (hd : Bytes f.Data) : F_telegram_Write f = some (wres f) := by
  unfold F_telegram_Write wres
  rw [badHead_eq, bind_some]
  by_cases hb : BadHead f
  · rw [bif_pos hb, if_pos hb]
  · rw [bif_neg hb, if_neg hb]
    by_cases hl : 64 < f.Data.length
    · rw [bif_pos (by omega), if_pos hl]
    · rw [bif_neg (by omega), if_neg hl]
      have hB := hdr_bytes hb hl hd
      have e1 : ([126, IntKind.u8.wrap (f.Data.length : Int), IntKind.u8.wrap f.Address, IntKind.u8.wrap f.Kind] : List Int) = hdr f := by
        unfold BadHead at hb
        unfold hdr
        rw [w8 (by omega) (by omega), w8 (by omega) (by omega), w8 (by omega) (by omega)]
      rw [e1, appI_ok (by simp [hdr]; omega), bind_some, sliI_ok (by decide) (by simp [hdr]; omega) (Int.le_refl _), bind_some]
      have e2 : List.drop (1 : Int).toNat (List.take ((hdr f ++ f.Data).length : Int).toNat (hdr f ++ f.Data)) = (hdr f ++ f.Data).drop 1 := by
        rw [Int.toNat_natCast, List.take_length]; rfl
      rw [e2, tele_check _ (hB.drop 1) (by simp [hdr]; omega), bind_some, appI_ok (by simp [hdr]; omega), bind_some]
      have hc := crcL_bd ((hdr f ++ f.Data).drop 1) 65535 (by decide) (by decide)
      rw [w8 (n := crcL ((hdr f ++ f.Data).drop 1) 65535 / 256) (by omega) (by omega), u8_mod]
      rfl
theorem ref_write (f : T_Frame) (hd : Bytes f.Data) : F_ref04_Write f = some (wres f) := by
  unfold F_ref04_Write wres
  rw [badHead_eq, bind_some]
  by_cases hb : BadHead f
  · rw [bif_pos hb, if_pos hb]
  · rw [bif_neg hb, if_neg hb]
    by_cases hl : 64 < f.Data.length
    · rw [bif_pos (by omega), if_pos hl]
    · rw [bif_neg (by omega), if_neg hl]
      have hB := hdr_bytes hb hl hd
      have e1 : ([126, IntKind.u8.wrap (f.Data.length : Int), IntKind.u8.wrap f.Address, IntKind.u8.wrap f.Kind] : List Int) = hdr f := by
        unfold BadHead at hb
        unfold hdr
        rw [w8 (by omega) (by omega), w8 (by omega) (by omega), w8 (by omega) (by omega)]
      rw [e1, appI_ok (by simp [hdr]; omega), bind_some, sliI_ok (by decide) (by simp [hdr]; omega) (Int.le_refl _), bind_some]
      have e2 : List.drop (1 : Int).toNat (List.take ((hdr f ++ f.Data).length : Int).toNat (hdr f ++ f.Data)) = (hdr f ++ f.Data).drop 1 := by
        rw [Int.toNat_natCast, List.take_length]; rfl
      rw [e2, ref_check _ (hB.drop 1) (by simp [hdr]; omega), bind_some, appI_ok (by simp [hdr]; omega), bind_some]
      have hc := crcL_bd ((hdr f ++ f.Data).drop 1) 65535 (by decide) (by decide)
      rw [w8 (n := crcL ((hdr f ++ f.Data).drop 1) 65535 / 256) (by omega) (by omega), u8_mod]
      rfl
theorem wres_bytes (f : T_Frame) (hd : Bytes f.Data) : Bytes (wres f).1 ∧ (wres f).1.length ≤ 70 := by
  unfold wres
  by_cases hb : BadHead f
  · rw [if_pos hb]; exact ⟨Bytes.nil, by simp⟩
  · rw [if_neg hb]
    by_cases hl : 64 < f.Data.length
    · rw [if_pos hl]; exact ⟨Bytes.nil, by simp⟩
    · rw [if_neg hl]
      have hc := crcL_bd ((hdr f ++ f.Data).drop 1) 65535 (by decide) (by decide)
      refine ⟨(hdr_bytes hb hl hd).app (Bytes.cons ⟨by omega, by omega⟩ (Bytes.cons ⟨by omega, by omega⟩ Bytes.nil)), ?_⟩
      simp [wbytes, hdr]
      omega

/-! ### reading -/

/-- What is done at the beginning of bytes: nothing yet; a byte is dropped; or a telegram is taken. -/
def step1 (l : List Int) : Option (Nat × Option T_Frame) :=
  if l.length = 0 then none
  else if l.getD 0 0 ≠ 126 ∨ (1 < l.length ∧ 64 < l.getD 1 0) then some (1, none)
  else if l.length < 2 ∨ (l.length : Int) < l.getD 1 0 + 6 then none
  else if crcL ((l.take (4 + (l.getD 1 0).toNat)).drop 1) 65535 ≠ l.getD (4 + (l.getD 1 0).toNat) 0 * 256 + l.getD (5 + (l.getD 1 0).toNat) 0 then some (1, none)
  else some ((l.getD 1 0).toNat + 6, some ⟨l.getD 2 0, l.getD 3 0, (l.take (4 + (l.getD 1 0).toNat)).drop 4⟩)

theorem step1_pos {l : List Int} (hB : Bytes l) {k : Nat} {f : Option T_Frame} (h : step1 l = some (k, f)) : 1 ≤ k ∧ k ≤ l.length ∧ (f = none → k = 1) ∧ ∀ g, f = some g → Bytes g.Data ∧ k = g.Data.length + 6 ∧ g.Data.length ≤ 64 := by
  have h1b := bytes_D hB 1
  unfold step1 at h
  split at h
  · cases h
  · split at h
    · injection h with h; injection h with h1 h2
      subst h1; subst h2
      exact ⟨Nat.le_refl _, by omega, fun _ => rfl, fun g h => by cases h⟩
    · split at h
      · cases h
      · split at h
        · injection h with h; injection h with h1 h2
          subst h1; subst h2
          exact ⟨Nat.le_refl _, by omega, fun _ => rfl, fun g h => by cases h⟩
        · injection h with h; injection h with h1 h2
          subst h1; subst h2
          rename_i a b c d
          refine ⟨by omega, by omega, (fun h => by cases h), fun g h => ?_⟩
          injection h with h
          subst h
          refine ⟨(hB.take _).drop _, ?_, ?_⟩
          · simp only [List.length_drop, List.length_take]; omega
          · simp only [List.length_drop, List.length_take]; omega

theorem or_bytes (a b : Int) (ha : 0 ≤ a ∧ a ≤ 255) (hb : 0 ≤ b ∧ b ≤ 255) : bits .or .i64 (a * 256) b = a * 256 + b := by
  obtain ⟨n, rfl⟩ := Int.eq_ofNat_of_zero_le ha.1
  obtain ⟨m, rfl⟩ := Int.eq_ofNat_of_zero_le hb.1
  rw [show (n : Int) * 256 = ((n * 256 : Nat) : Int) by omega, i64_or_nat _ _ (by omega) (by omega)]
  have : 2 ^ 8 * n + m = 2 ^ 8 * n ||| m := Nat.two_pow_add_eq_or_of_lt (by omega) n
  rw [show n * 256 = 2 ^ 8 * n by omega, ← this]
  omega

/-- What one round does. -/
def roundR (l : List Int) (d : Int) (out : List T_Frame) : (List Int × Int × List T_Frame) ⊕ (List Int × Int × List T_Frame) :=
  match step1 l with
  | none => .inr (l, d, out)
  | some (k, none) => .inl (l.drop k, d + 1, out)
  | some (k, some f) => .inl (l.drop k, d, out ++ [f])

theorem slice_from (l : List Int) (k : Nat) (h : k ≤ l.length) : sliI l (k : Int) (l.length : Int) = some (l.drop k) := by
  rw [sliI_ok (by omega) (by omega) (Int.le_refl _), Int.toNat_natCast, Int.toNat_natCast, List.take_length]

theorem tele_round (l : List Int) (d : Int) (out : List T_Frame) (hB : Bytes l) (hl : l.length ≤ 1000000) (ho : out.length ≤ 1000000) (hd0 : -9223372036854775808 ≤ d) (hd1 : d < 9223372036854775807) :
    F_telegram_Feed_L1 (l, d, out) = some (roundR l d out) := by
  unfold F_telegram_Feed_L1 roundR step1
  simp only []
  have h0b := bytes_D hB 0
  have h1b := bytes_D hB 1
  by_cases c0 : l.length = 0
  · rw [bif_neg (by omega), if_pos c0]
  rw [bif_pos (by omega), if_neg c0, getI_D (by decide) (by omega), bind_some, show (0 : Int).toNat = 0 from rfl]
  have e : ((bif decide (l.getD 0 0 ≠ 126) then some true else bif decide (1 < (l.length : Int)) then (getI l 1).bind fun x13 => some (decide (64 < IntKind.i64.wrap x13)) else some false) : Option Bool) = some (decide (l.getD 0 0 ≠ 126 ∨ (1 < l.length ∧ 64 < l.getD 1 0))) := by
    by_cases a1 : l.getD 0 0 ≠ 126
    · rw [bif_pos a1, decide_eq_true (Or.inl a1)]
    · rw [bif_neg a1]
      by_cases a2 : 1 < l.length
      · rw [bif_pos (by omega), getI_D (by decide) (by omega), bind_some, show (1 : Int).toNat = 1 from rfl, w64 (by omega) (by omega)]
        congr 1
        exact decide_eq_decide.2 ⟨fun h => .inr ⟨a2, h⟩, fun h => by rcases h with h | h; exact absurd h a1; exact h.2⟩
      · rw [bif_neg (by omega)]
        congr 1
        exact (decide_eq_false (by rintro (h | h); exact a1 h; exact a2 h.1)).symm
  rw [e, bind_some]
  by_cases c1 : l.getD 0 0 ≠ 126 ∨ (1 < l.length ∧ 64 < l.getD 1 0)
  · rw [bif_pos c1, if_pos c1, show (1 : Int) = ((1 : Nat) : Int) from rfl, slice_from l 1 (by omega), bind_some, show ((1 : Nat) : Int) = 1 from rfl, w64 (n := d + 1) (by omega) (by omega)]
  rw [bif_neg c1, if_neg c1]
  have e2 : ((bif decide ((l.length : Int) < 2) then some true else (getI l 1).bind fun x20 => some (decide ((l.length : Int) < IntKind.i64.wrap (IntKind.i64.wrap x20 + 6)))) : Option Bool) = some (decide (l.length < 2 ∨ (l.length : Int) < l.getD 1 0 + 6)) := by
    by_cases a1 : l.length < 2
    · rw [bif_pos (by omega), decide_eq_true (Or.inl a1)]
    · rw [bif_neg (by omega), getI_D (by decide) (by omega), bind_some, show (1 : Int).toNat = 1 from rfl, w64 (n := l.getD 1 0) (by omega) (by omega), w64 (by omega) (by omega)]
      congr 1
      exact decide_eq_decide.2 ⟨fun h => .inr h, fun h => by rcases h with h | h; exact absurd h a1; exact h⟩
  rw [e2, bind_some]
  by_cases c2 : l.length < 2 ∨ (l.length : Int) < l.getD 1 0 + 6
  · rw [bif_pos c2, if_pos c2]
  rw [bif_neg c2, if_neg c2, getI_D (by decide) (by omega), bind_some, show (1 : Int).toNat = 1 from rfl, w64 (n := l.getD 1 0) (by omega) (by omega), w64 (n := 4 + l.getD 1 0) (by omega) (by omega), w64 (n := 5 + l.getD 1 0) (by omega) (by omega), w64 (n := l.getD 1 0 + 6) (by omega) (by omega)]
  obtain ⟨n, hn⟩ : ∃ n : Nat, l.getD 1 0 = (n : Int) := ⟨(l.getD 1 0).toNat, by omega⟩
  have hnn : (l.getD 1 0).toNat = n := by omega
  rw [hn] at c1 c2 ⊢
  have h4 := bytes_D hB (4 + n)
  have h5 := bytes_D hB (5 + n)
  have h2 := bytes_D hB 2
  have h3 := bytes_D hB 3
  rw [Int.toNat_natCast, show (4 : Int) + (n : Int) = ((4 + n : Nat) : Int) by omega, show (5 : Int) + (n : Int) = ((5 + n : Nat) : Int) by omega, show (n : Int) + 6 = ((n + 6 : Nat) : Int) by omega]
  rw [sliI_ok (by decide) (by omega) (by omega), bind_some, Int.toNat_natCast, show (1 : Int).toNat = 1 from rfl]
  rw [tele_check _ ((hB.take _).drop _) (by simp; omega), bind_some, getI_D (by omega) (by omega), bind_some, getI_D (by omega) (by omega), bind_some, Int.toNat_natCast, Int.toNat_natCast]
  rw [w64 (n := l.getD (4 + n) 0) (by omega) (by omega), w64 (n := l.getD (4 + n) 0 * 256) (by omega) (by omega), w64 (n := l.getD (5 + n) 0) (by omega) (by omega), or_bytes _ _ h4 h5]
  by_cases c3 : crcL ((l.take (4 + n)).drop 1) 65535 ≠ l.getD (4 + n) 0 * 256 + l.getD (5 + n) 0
  · rw [bif_pos c3, if_pos c3, show (1 : Int) = ((1 : Nat) : Int) from rfl, slice_from l 1 (by omega), bind_some]
    rw [show ((1 : Nat) : Int) = 1 from rfl, w64 (by omega) (by omega)]
  rw [bif_neg c3, if_neg c3, getI_D (by decide) (by omega), bind_some, getI_D (by decide) (by omega), bind_some, sliI_ok (by decide) (by omega) (by omega), bind_some, Int.toNat_natCast, appI_ok (by simp; omega), bind_some, appI_ok (by simp; omega), bind_some, slice_from l (n + 6) (by omega), bind_some]
  rw [show (2 : Int).toNat = 2 from rfl, show (3 : Int).toNat = 3 from rfl, show (4 : Int).toNat = 4 from rfl, w64 (n := l.getD 2 0) (by omega) (by omega), w64 (n := l.getD 3 0) (by omega) (by omega), List.nil_append]
theorem ref_round (l : List Int) (d : Int) (out : List T_Frame) (hB : Bytes l) (hl : l.length ≤ 1000000) (ho : out.length ≤ 1000000) (hd0 : -9223372036854775808 ≤ d) (hd1 : d < 9223372036854775807) :
    F_ref04_Feed_L1 (l, d, out) = some (roundR l d out) := by
  rw [← tele_round l d out hB hl ho hd0 hd1]
  unfold F_ref04_Feed_L1 F_telegram_Feed_L1
  simp only []
  by_cases c0 : l.length = 0
  · rw [bif_neg (by omega), bif_neg (by omega)]
  rw [bif_pos (p := 0 < (l.length : Int)) (by omega), bif_pos (p := 0 < (l.length : Int)) (by omega)]
  refine obind_congr fun o8 _ => ?_
  cases o8 with
  | true => rfl
  | false =>
    simp only [cond_false]
    have e : ∀ x : Int, 6 + IntKind.i64.wrap x = IntKind.i64.wrap x + 6 := fun x => by omega
    simp only [e]
    refine obind_congr fun o18 _ => ?_
    cases o18 with
    | true => rfl
    | false =>
      simp only [cond_false]
      refine obind_congr fun x23 _ => ?_
      refine obind_congr fun x25 hs => ?_
      obtain ⟨_, _, hle, rfl⟩ := sliI_some hs
      rw [tele_check _ ((hB.take _).drop _) (by simp; omega), ref_check _ ((hB.take _).drop _) (by simp; omega)]
end Go.L
