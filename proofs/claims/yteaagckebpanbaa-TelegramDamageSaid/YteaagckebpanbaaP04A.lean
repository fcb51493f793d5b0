/- CRC-16, as the program and the reference compute it. -/
import Derived.Test.YteaagckebpanbaaLLib
import Derived.Test.YteaagckebpanbaaL04D
namespace Go.L
open Go Go.Aml

/-- One bit of CRC-16. -/
def crcBit (r x : Int) (bit : Nat) : Int :=
  if r / 32768 = x / 2 ^ bit % 2 then r * 2 % 65536 else bits .xor .i64 (r * 2 % 65536) 4129
def crcRun (x : Int) : Nat → Int → Int
  | 0, r => r
  | m + 1, r => crcRun x m (crcBit r x m)
def crcL : List Int → Int → Int
  | [], r => r
  | b :: bs, r => crcL bs (crcRun b 8 r)
theorem ofInt_i64 (a : Nat) (ha : a < 9223372036854775808) : (BitVec.ofInt 64 (a : Int)).toNat = a := by
  rw [BitVec.ofInt_natCast, BitVec.toNat_ofNat]; exact Nat.mod_eq_of_lt (by omega)
theorem i64_and_nat (a b : Nat) (ha : a < 9223372036854775808) (hb : b < 9223372036854775808) : bits .and .i64 (a : Int) (b : Int) = ((a &&& b : Nat) : Int) := by
  have hx : a &&& b < 2 ^ 63 := Nat.and_lt_two_pow _ (by omega)
  show IntKind.i64.wrap ((BitVec.ofInt 64 (a : Int) &&& BitVec.ofInt 64 (b : Int)).toNat : Int) = _
  rw [BitVec.toNat_and, ofInt_i64 a ha, ofInt_i64 b hb, IntKind.wrap_i64]
  omega
theorem i64_xor_nat (a b : Nat) (ha : a < 9223372036854775808) (hb : b < 9223372036854775808) : bits .xor .i64 (a : Int) (b : Int) = ((a ^^^ b : Nat) : Int) := by
  have hx : a ^^^ b < 2 ^ 63 := Nat.xor_lt_two_pow (by omega) (by omega)
  show IntKind.i64.wrap ((BitVec.ofInt 64 (a : Int) ^^^ BitVec.ofInt 64 (b : Int)).toNat : Int) = _
  rw [BitVec.toNat_xor, ofInt_i64 a ha, ofInt_i64 b hb, IntKind.wrap_i64]
  omega
theorem i64_or_nat (a b : Nat) (ha : a < 9223372036854775808) (hb : b < 9223372036854775808) : bits .or .i64 (a : Int) (b : Int) = ((a ||| b : Nat) : Int) := by
  have hx : a ||| b < 2 ^ 63 := Nat.or_lt_two_pow (by omega) (by omega)
  show IntKind.i64.wrap ((BitVec.ofInt 64 (a : Int) ||| BitVec.ofInt 64 (b : Int)).toNat : Int) = _
  rw [BitVec.toNat_or, ofInt_i64 a ha, ofInt_i64 b hb, IntKind.wrap_i64]
  omega
theorem and_65535 (a : Int) (h0 : 0 ≤ a) (h1 : a ≤ 1000000) : bits .and .i64 a 65535 = a % 65536 := by
  obtain ⟨n, rfl⟩ := Int.eq_ofNat_of_zero_le h0
  rw [show (65535 : Int) = ((65535 : Nat) : Int) from rfl, i64_and_nat n 65535 (by omega) (by omega), show (65535 : Nat) = 2 ^ 16 - 1 from rfl, Nat.and_two_pow_sub_one_eq_mod]
  omega
theorem i64_and_one (a : Int) (h0 : 0 ≤ a) (h1 : a ≤ 1000000) : bits .and .i64 a 1 = a % 2 := by
  obtain ⟨n, rfl⟩ := Int.eq_ofNat_of_zero_le h0
  rw [show (1 : Int) = ((1 : Nat) : Int) from rfl, i64_and_nat n 1 (by omega) (by omega), Nat.and_one_is_mod]
  omega
theorem ofInt_u8 (a : Nat) (ha : a < 256) : (BitVec.ofInt 8 (a : Int)).toNat = a := by
  rw [BitVec.ofInt_natCast, BitVec.toNat_ofNat]; exact Nat.mod_eq_of_lt (by omega)
theorem u8_and_one (a : Int) (h0 : 0 ≤ a) (h1 : a ≤ 255) : bits .and .u8 a 1 = a % 2 := by
  obtain ⟨n, rfl⟩ := Int.eq_ofNat_of_zero_le h0
  show IntKind.u8.wrap ((BitVec.ofInt 8 (n : Int) &&& BitVec.ofInt 8 ((1 : Nat) : Int)).toNat : Int) = _
  rw [BitVec.toNat_and, ofInt_u8 n (by omega), ofInt_u8 1 (by omega), Nat.and_one_is_mod, w8 (by omega) (by omega)]
  omega
theorem xor_bd (a : Int) (h0 : 0 ≤ a) (h1 : a ≤ 65535) : 0 ≤ bits .xor .i64 a 4129 ∧ bits .xor .i64 a 4129 ≤ 65535 := by
  obtain ⟨n, rfl⟩ := Int.eq_ofNat_of_zero_le h0
  rw [show (4129 : Int) = ((4129 : Nat) : Int) from rfl, i64_xor_nat n 4129 (by omega) (by omega)]
  have : n ^^^ 4129 < 2 ^ 16 := Nat.xor_lt_two_pow (by omega) (by omega)
  omega
theorem crcBit_bd (r x : Int) (bit : Nat) (h0 : 0 ≤ r) (h1 : r ≤ 65535) : 0 ≤ crcBit r x bit ∧ crcBit r x bit ≤ 65535 := by
  unfold crcBit
  have b := xor_bd (r * 2 % 65536) (by omega) (by omega)
  split
  · omega
  · exact b
theorem crcRun_bd (x : Int) : ∀ (m : Nat) (r : Int), 0 ≤ r → r ≤ 65535 → 0 ≤ crcRun x m r ∧ crcRun x m r ≤ 65535
  | 0, r, h0, h1 => ⟨h0, h1⟩
  | m + 1, r, h0, h1 => crcRun_bd x m _ (crcBit_bd r x m h0 h1).1 (crcBit_bd r x m h0 h1).2
theorem crcL_bd : ∀ (l : List Int) (r : Int), 0 ≤ r → r ≤ 65535 → 0 ≤ crcL l r ∧ crcL l r ≤ 65535
  | [], r, h0, h1 => ⟨h0, h1⟩
  | b :: l, r, h0, h1 => crcL_bd l _ (crcRun_bd b 8 r h0 h1).1 (crcRun_bd b 8 r h0 h1).2
theorem pow_bit (m : Nat) (h : m < 8) : (2 : Int) ^ (min ((m : Int)).toNat (IntKind.u8).bits) = 2 ^ m := by
  rw [Int.toNat_natCast, Nat.min_eq_left]
  show m ≤ 8
  omega
theorem shift_bd (x : Int) (m : Nat) (h0 : 0 ≤ x) (h1 : x ≤ 255) : x.fdiv (2 ^ m) = x / 2 ^ m ∧ 0 ≤ x / 2 ^ m ∧ x / 2 ^ m ≤ 255 := by
  have hp : (0 : Int) < 2 ^ m := Int.pow_pos (by decide)
  refine ⟨Int.fdiv_eq_ediv_of_nonneg _ (by omega), Int.ediv_nonneg h0 (by omega), ?_⟩
  exact Int.le_trans (Int.ediv_le_self _ h0) h1

theorem tele_bits (x : Int) (hx0 : 0 ≤ x) (hx1 : x ≤ 255) : ∀ (m : Nat) (r : Int), m ≤ 8 → 0 ≤ r → r ≤ 65535 → loopC (F_telegram_Check_L2 x) (r, (m : Int) - 1) = some (crcRun x m r)
  | 0, r, _, h0, h1 => loopC_inr (by unfold F_telegram_Check_L2; rw [bif_neg (by simp)]; rfl)
  | m + 1, r, hm, h0, h1 => by
    obtain ⟨e1, e2, e3⟩ := shift_bd x m hx0 hx1
    have hb := crcBit_bd r x m h0 h1
    have hi := tele_bits x hx0 hx1 m (crcBit r x m) (by omega) hb.1 hb.2
    rw [loopC_inl (a' := (crcBit r x m, (m : Int) - 1)), hi]
    · rfl
    · have e0 : ((m + 1 : Nat) : Int) - 1 = (m : Int) := by omega
      rw [e0]
      unfold F_telegram_Check_L2
      simp only []
      rw [bif_pos (by omega), wu64 (by omega) (by omega), shrI_ok (by omega), pow_bit m (by omega), e1, bind_some, w64 (n := x / 2 ^ m) (by omega) (by omega), i64_and_one _ e2 (by omega), w64 (n := r * 2) (by omega) (by omega), and_65535 _ (by omega) (by omega), bif_ite, w64 (n := (m : Int) - 1) (by omega) (by omega)]
      unfold crcBit
      by_cases hc : r / 32768 = x / 2 ^ m % 2
      · rw [if_neg (by omega), if_pos hc]; rfl
      · rw [if_pos hc, if_neg hc]; rfl
theorem tele_check (l : List Int) (hl : Bytes l) (hn : l.length ≤ 4611686018427387904) : F_telegram_Check l = some (crcL l 65535) := by
  have key : ∀ (k : Nat) (i : Nat) (r : Int), i + k = l.length → 0 ≤ r → r ≤ 65535 → loopC (F_telegram_Check_L1 l) (r, (i : Int)) = some (crcL (l.drop i) r) := by
    intro k
    induction k with
    | zero =>
      intro i r hi _ _
      rw [List.drop_of_length_le (by omega)]
      exact loopC_inr (by unfold F_telegram_Check_L1; rw [bif_neg (by show ¬ (i : Int) < _; omega)]; rfl)
    | succ k ih =>
      intro i r hi h0 h1
      have hil : i < l.length := by omega
      have hx := hl l[i] (List.getElem_mem hil)
      have hb := crcRun_bd l[i] 8 r h0 h1
      have h8 := tele_bits l[i] hx.1 hx.2 8 r (Nat.le_refl _) h0 h1
      rw [loopC_inl (a' := (crcRun l[i] 8 r, ((i + 1 : Nat) : Int))), ih (i + 1) _ (by omega) hb.1 hb.2]
      · rw [List.drop_eq_getElem_cons hil]; rfl
      · unfold F_telegram_Check_L1
        simp only []
        rw [bif_pos (by omega), getI_nat, List.getElem?_eq_getElem hil, bind_some]
        rw [show loopC (F_telegram_Check_L2 l[i]) (r, 7) = some (crcRun l[i] 8 r) from h8, bind_some, w64 (by omega) (by omega)]
        rfl
  unfold F_telegram_Check
  have := key l.length 0 65535 (by omega) (by omega) (by omega)
  rw [show loopC (F_telegram_Check_L1 l) (65535, 0) = some (crcL l 65535) from this]
  rfl

theorem ref_bits (l : List Int) (s : Int × Int) (x : Int) (hg : getI l s.2 = some x) (hx0 : 0 ≤ x) (hx1 : x ≤ 255) : ∀ (m : Nat) (r : Int), m ≤ 8 → 0 ≤ r → r ≤ 65535 → loopC (F_ref04_Check_L2 l s) (r, (m : Int) - 1) = some (crcRun x m r)
  | 0, r, _, h0, h1 => loopC_inr (by unfold F_ref04_Check_L2; rw [bif_neg (by simp)]; rfl)
  | m + 1, r, hm, h0, h1 => by
    obtain ⟨e1, e2, e3⟩ := shift_bd x m hx0 hx1
    have hb := crcBit_bd r x m h0 h1
    have hi := ref_bits l s x hg hx0 hx1 m (crcBit r x m) (by omega) hb.1 hb.2
    rw [loopC_inl (a' := (crcBit r x m, (m : Int) - 1)), hi]
    · rfl
    · have e0 : ((m + 1 : Nat) : Int) - 1 = (m : Int) := by omega
      rw [e0]
      unfold F_ref04_Check_L2
      simp only []
      rw [bif_pos (by omega), hg, bind_some, wu64 (by omega) (by omega), shrI_ok (by omega), pow_bit m (by omega), e1, bind_some, u8_and_one _ e2 (by omega), w64 (n := x / 2 ^ m % 2) (by omega) (by omega), i64_and_one (r / 32768) (by omega) (by omega), w64 (n := r * 2) (by omega) (by omega), and_65535 _ (by omega) (by omega), bif_ite, w64 (n := (m : Int) - 1) (by omega) (by omega)]
      unfold crcBit
      by_cases hc : r / 32768 = x / 2 ^ m % 2
      · rw [if_neg (by omega), if_pos hc]; rfl
      · rw [if_pos (by omega), if_neg hc]; rfl
theorem ref_check (l : List Int) (hl : Bytes l) (hn : l.length ≤ 4611686018427387904) : F_ref04_Check l = some (crcL l 65535) := by
  have key : ∀ (k : Nat) (i : Nat) (r : Int), i + k = l.length → 0 ≤ r → r ≤ 65535 → loopC (F_ref04_Check_L1 l) (r, (i : Int)) = some (crcL (l.drop i) r) := by
    intro k
    induction k with
    | zero =>
      intro i r hi _ _
      rw [List.drop_of_length_le (by omega)]
      exact loopC_inr (by unfold F_ref04_Check_L1; rw [bif_neg (by show ¬ (i : Int) < _; omega)]; rfl)
    | succ k ih =>
      intro i r hi h0 h1
      have hil : i < l.length := by omega
      have hx := hl l[i] (List.getElem_mem hil)
      have hb := crcRun_bd l[i] 8 r h0 h1
      have h8 := ref_bits l (r, (i : Int)) l[i] (by rw [getI_nat, List.getElem?_eq_getElem hil]) hx.1 hx.2 8 r (Nat.le_refl _) h0 h1
      rw [loopC_inl (a' := (crcRun l[i] 8 r, ((i + 1 : Nat) : Int))), ih (i + 1) _ (by omega) hb.1 hb.2]
      · rw [List.drop_eq_getElem_cons hil]; rfl
      · unfold F_ref04_Check_L1
        simp only []
        rw [bif_pos (by omega)]
        rw [show loopC (F_ref04_Check_L2 l (r, (i : Int))) (r, 7) = some (crcRun l[i] 8 r) from h8, bind_some, w64 (by omega) (by omega)]
        rfl
  unfold F_ref04_Check
  have := key l.length 0 65535 (by omega) (by omega) (by omega)
  rw [show loopC (F_ref04_Check_L1 l) (65535, 0) = some (crcL l 65535) from this]
  rfl
end Go.L
