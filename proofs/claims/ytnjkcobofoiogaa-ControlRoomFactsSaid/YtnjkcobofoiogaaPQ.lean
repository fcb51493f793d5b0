/- What the functions yield, plain: the laws. -/
import Derived.Test.YtnjkcobofoiogaaLLib
import Derived.Test.YtnjkcobofoiogaaL42D
/- The log of the control room: records and their bytes, as the program and the reference compute them. -/
namespace Go.L
open Go Go.Aml

def VR (r : T_Record) : Prop := (1 ≤ r.Kind ∧ r.Kind ≤ 5) ∧ (0 ≤ r.Subject ∧ r.Subject ≤ 2147483648) ∧ (0 ≤ r.Value ∧ r.Value ≤ if r.Kind = 3 then 4 else 2147483648) ∧ (0 ≤ r.Time ∧ r.Time ≤ 2147483648)
instance (r : T_Record) : Decidable (VR r) := by unfold VR; infer_instance
theorem in_eq (x a b : Int) : F_lists_In x a b = some (decide (a ≤ x ∧ x ≤ b)) := by
  unfold F_lists_In
  exact and_bif rfl
theorem valid_eq (r : T_Record) : F_controlroom_Valid r = some (decide (VR r)) := by
  unfold F_controlroom_Valid
  have e : (bif decide (r.Kind = 3) then some (4 : Int) else some 2147483648) = some (if r.Kind = 3 then 4 else 2147483648) := by
    rw [bif_ite]; split <;> rfl
  rw [e, bind_some, in_eq, bind_some, in_eq, bind_some, in_eq, bind_some, in_eq, bind_some]
  unfold VR
  exact and_bif (and_bif (and_bif rfl))
def beB (v : Int) : Nat → List Int
  | 0 => []
  | n + 1 => v / 256 ^ n % 256 :: beB v n
theorem beB_len (v : Int) : ∀ n, (beB v n).length = n
  | 0 => rfl
  | n + 1 => by rw [beB, List.length_cons, beB_len v n]
theorem beB_bytes (v : Int) : ∀ n, Bytes (beB v n)
  | 0 => Bytes.nil
  | n + 1 => by
    rw [beB]
    exact Bytes.cons (by omega) (beB_bytes v n)
theorem w8m (n : Int) : IntKind.u8.wrap n = n % 256 := by
  unfold IntKind.wrap
  simp [IntKind.bits, IntKind.signed]
theorem pow_256 (i : Nat) : (2 : Int) ^ (8 * i) = 256 ^ i := by
  rw [Int.pow_mul]
  rfl
theorem put_loop (v : Int) (hv : 0 ≤ v) (k : IntKind) (hk : k.bits = 64) {f : Int × List Int → Option ((Int × List Int) ⊕ List Int)}
    (hf : ∀ s, f s = bif decide (0 ≤ s.1) then (shrI k v (IntKind.u64.wrap (IntKind.i64.wrap (8 * s.1)))).bind fun x4 => (appI 1 s.2 [(IntKind.u8.wrap x4)]).bind fun x6 => some (Sum.inl ((IntKind.i64.wrap (s.1 - 1)), x6)) else some (Sum.inr s.2)) :
    ∀ (n : Nat) (l : List Int), n ≤ 8 → l.length + n ≤ 1000 → loopC f ((n : Int) - 1, l) = some (l ++ beB v n)
  | 0, l, _, _ => by
    rw [loopC_inr (by rw [hf]; dsimp only; rw [bif_neg (by omega)])]
    simp [beB]
  | n + 1, l, hn, hl => by
    have e : ((n + 1 : Nat) : Int) - 1 = (n : Int) := by omega
    refine (loopC_inl ?_).trans ((put_loop v hv k hk hf n (l ++ [v / 256 ^ n % 256]) (by omega) (by simp; omega)).trans (by rw [beB]; simp))
    rw [hf]
    dsimp only
    rw [e, bif_pos (by omega), w64 (n := 8 * (n : Int)) (by omega) (by omega), wu64 (n := 8 * (n : Int)) (by omega) (by omega), shrI_ok (by omega), bind_some, hk, appI_ok (by simp; omega), bind_some, w64 (n := (n : Int) - 1) (by omega) (by omega), w8m]
    have e2 : min (8 * (n : Int)).toNat 64 = 8 * n := by omega
    rw [e2, pow_256]
    rw [Int.fdiv_eq_ediv_of_nonneg _ (by exact Int.le_of_lt (Int.pow_pos (by decide)))]
theorem put_eq (l : List Int) (v : Int) (n : Nat) (hv : 0 ≤ v) (hn : n ≤ 8) (hl : l.length + n ≤ 1000) : F_lists_Put l v n = some (l ++ beB v n) := by
  unfold F_lists_Put
  rw [w64 (by omega) (by omega), put_loop v hv .u64 rfl (f := F_lists_Put_L1 v) (fun s => rfl) n l hn hl]
  rfl
def sumL : List Int → Int
  | [] => 0
  | x :: l => x + sumL l
theorem sumL_bd {l : List Int} (h : Bytes l) : 0 ≤ sumL l ∧ sumL l ≤ 255 * l.length := by
  induction l with
  | nil => simp [sumL]
  | cons x l ih =>
    have h1 := h x List.mem_cons_self
    have h2 := ih fun y hy => h y (List.mem_cons_of_mem _ hy)
    rw [sumL, List.length_cons]
    omega
theorem drop_cons_get {α : Type} {l : List α} {i : Nat} (h : i < l.length) : l.drop i = l[i] :: l.drop (i + 1) := List.drop_eq_getElem_cons h
theorem total_eq (l : List Int) (hl : l.length ≤ 1000000) : F_controlroom_total l = some (sumL l % 256) := by
  unfold F_controlroom_total
  have key := loop_fun (f := F_controlroom_total_L1 l) (fun s => ∃ i : Nat, s.2 = i ∧ i ≤ l.length ∧ 0 ≤ s.1 ∧ s.1 ≤ 255) (fun s => (l.length - s.2).toNat) (fun s => (s.1 + sumL (l.drop s.2.toNat)) % 256) (fun s hs => ?_) (0, 0) ⟨0, rfl, Nat.zero_le _, by decide, by decide⟩
  · rw [key, bind_some]
    simp
  · obtain ⟨n, j⟩ := s
    obtain ⟨i, rfl, hi, h0, h1⟩ := hs
    dsimp only at h0 h1 ⊢
    unfold F_controlroom_total_L1
    dsimp only
    by_cases hlt : i < l.length
    · refine .inl ⟨(IntKind.u8.wrap (n + l[i]), (i : Int) + 1), ?_, ⟨i + 1, rfl, hlt, ?_⟩, ?_, ?_⟩
      · rw [bif_pos (by omega), getI_nat, List.getElem?_eq_getElem hlt, bind_some, w64 (by omega) (by omega)]
      · exact Bytes.wrap _
      · dsimp only; omega
      · dsimp only
        rw [w8m, show ((i : Int) + 1).toNat = i + 1 by omega, Int.toNat_natCast, drop_cons_get hlt, sumL]
        omega
    · have : i = l.length := by omega
      subst this
      refine .inr ?_
      rw [bif_neg (by omega), Int.toNat_natCast, List.drop_length]
      simp [sumL]
      omega
def body (r : T_Record) : List Int := [82] ++ beB r.Kind 8 ++ beB r.Subject 6 ++ beB r.Value 8 ++ beB r.Time 8
def bytesR (r : T_Record) : List Int := body r ++ [(90 - sumL (body r)) % 256]
theorem body_len (r : T_Record) : (body r).length = 31 := by simp [body, beB_len]
theorem body_bytes (r : T_Record) : Bytes (body r) := (((Bytes.cons (by decide) Bytes.nil).app (beB_bytes _ _)).app (beB_bytes _ _)).app (beB_bytes _ _) |>.app (beB_bytes _ _)
theorem bytesR_len (r : T_Record) : (bytesR r).length = 32 := by simp [bytesR, body_len]
theorem bytesR_bytes (r : T_Record) : Bytes (bytesR r) := (body_bytes r).app (Bytes.cons (by omega) Bytes.nil)
theorem bytes_eq (r : T_Record) : F_controlroom_Bytes r = some (if VR r then (bytesR r, 0) else ([], 6)) := by
  unfold F_controlroom_Bytes
  rw [valid_eq, bind_some]
  by_cases h : VR r
  · obtain ⟨⟨h1, h2⟩, ⟨h3, h4⟩, ⟨h5, h6⟩, h7, h8⟩ := id h
    have h6' : r.Value ≤ 2147483648 := by split at h6 <;> omega
    have hb := sumL_bd (body_bytes r)
    have e : [82] ++ beB r.Kind 8 ++ beB r.Subject 6 ++ beB r.Value 8 ++ beB r.Time 8 = body r := rfl
    rw [if_pos h, decide_eq_true h, Bool.not_true, cond_false, wu64 (by omega) (by omega), wu64 (by omega) (by omega), wu64 (by omega) (by omega), wu64 (by omega) (by omega),
      show (8 : Int) = ((8 : Nat) : Int) from rfl, show (6 : Int) = ((6 : Nat) : Int) from rfl, put_eq _ _ 8 (by omega) (by omega) (by simp), bind_some, put_eq _ _ 6 (by omega) (by omega) (by simp [beB_len]), bind_some, put_eq _ _ 8 (by omega) (by omega) (by simp [beB_len]), bind_some, put_eq _ _ 8 (by omega) (by omega) (by simp [beB_len]), bind_some, e,
      total_eq _ (by rw [body_len]; decide), bind_some, appI_ok (by simp [body_len]), bind_some, w8m]
    unfold bytesR
    congr 4
    omega
  · rw [if_neg h, decide_eq_false h]
    rfl
def numB : List Int → Int → Int
  | [], v => v
  | x :: l, v => numB l (v * 256 + x)
theorem numB_mono : ∀ (l : List Int) (v : Int), Bytes l → 0 ≤ v → v ≤ numB l v
  | [], v, _, _ => Int.le_refl _
  | x :: l, v, hB, hv => by
    have hx := hB x List.mem_cons_self
    have := numB_mono l (v * 256 + x) (fun y hy => hB y (List.mem_cons_of_mem _ hy)) (by omega)
    rw [numB]
    omega
theorem ofInt_u64 (a : Nat) (ha : a < 18446744073709551616) : (BitVec.ofInt 64 (a : Int)).toNat = a := by
  rw [BitVec.ofInt_natCast, BitVec.toNat_ofNat]; exact Nat.mod_eq_of_lt (by omega)
theorem or_num (a b : Int) (ha : 0 ≤ a) (ha1 : a * 256 + 255 ≤ 18446744073709551615) (hb : 0 ≤ b ∧ b ≤ 255) : bits .or .u64 (a * 256) b = a * 256 + b := by
  obtain ⟨n, rfl⟩ := Int.eq_ofNat_of_zero_le ha
  obtain ⟨m, rfl⟩ := Int.eq_ofNat_of_zero_le hb.1
  rw [show (n : Int) * 256 = ((n * 256 : Nat) : Int) by omega]
  show IntKind.u64.wrap ((BitVec.ofInt 64 ((n * 256 : Nat) : Int) ||| BitVec.ofInt 64 (m : Int)).toNat : Int) = _
  have : 2 ^ 8 * n + m = 2 ^ 8 * n ||| m := Nat.two_pow_add_eq_or_of_lt (by omega) n
  rw [BitVec.toNat_or, ofInt_u64 _ (by omega), ofInt_u64 _ (by omega), show n * 256 = 2 ^ 8 * n by omega, ← this, wu64 (by omega) (by omega)]
  omega
theorem number_eq (l : List Int) (hB : Bytes l) (hl : l.length ≤ 8) : F_lists_Number l = some (numB l 0) := by
  unfold F_lists_Number
  have key : ∀ (m i : Nat) (v : Int), i + m = l.length → 0 ≤ v → v ≤ 256 ^ i - 1 → loopC (F_lists_Number_L1 l) (v, (i : Int)) = some (numB (l.drop i) v) := by
    intro m
    induction m with
    | zero =>
      intro i v hi h0 h1
      have : i = l.length := by omega
      subst this
      rw [loopC_inr (by unfold F_lists_Number_L1; dsimp only; rw [bif_neg (by omega)]), List.drop_length]
      rfl
    | succ m ih =>
      intro i v hi h0 h1
      have hlt : i < l.length := by omega
      have hx := hB _ (List.getElem_mem hlt)
      have h7 : (256 : Int) ^ i ≤ 256 ^ 7 := by
        have := Nat.pow_le_pow_right (n := 256) (by decide) (show i ≤ 7 by omega)
        rw [show (256 : Int) ^ i = ((256 ^ i : Nat) : Int) by rw [Int.natCast_pow]; rfl, show (256 : Int) ^ 7 = ((256 ^ 7 : Nat) : Int) from rfl]
        exact Int.ofNat_le.2 this
      have h7' : (256 : Int) ^ 7 = 72057594037927936 := by decide
      refine (loopC_inl ?_).trans ((ih (i + 1) (v * 256 + l[i]) (by omega) (by omega) (by rw [Int.pow_succ]; omega)).trans (by rw [drop_cons_get hlt, numB]))
      unfold F_lists_Number_L1
      dsimp only
      rw [bif_pos (by omega), getI_nat, List.getElem?_eq_getElem hlt, bind_some, wu64 (n := v * 256) (by omega) (by omega), wu64 (n := l[i]) (by omega) (by omega), or_num _ _ h0 (by omega) hx, w64 (by omega) (by omega)]
      rfl
  exact (congrArg (fun o => Option.bind o _) (key l.length 0 0 (by omega) (by omega) (by simp))).trans rfl
def recN (b : List Int) : T_Record := ⟨numB ((b.take 9).drop 1) 0, numB ((b.take 15).drop 9) 0, numB ((b.take 23).drop 15) 0, numB ((b.take 31).drop 23) 0⟩
def okOne (b : List Int) : Prop := b[0]? = some 82 ∧ sumL b % 256 = 90 ∧ VR (recN b)
instance (b : List Int) : Decidable (okOne b) := by unfold okOne; infer_instance
theorem num_nn {l : List Int} (h : Bytes l) : 0 ≤ numB l 0 := numB_mono l 0 h (Int.le_refl _)
theorem one1_eq (l : List Int) (hB : Bytes l) (hl : l.length ≤ 8) : F_controlroom_one_1 l = some (min (numB l 0) 2147483649) := by
  have := num_nn hB
  unfold F_controlroom_one_1
  rw [number_eq l hB hl, bind_some, w64 (by omega) (by omega)]
theorem VR_min {a b c d : Int} (ha : 0 ≤ a) (hb : 0 ≤ b) (hc : 0 ≤ c) (hd : 0 ≤ d) : VR ⟨min a 2147483649, min b 2147483649, min c 2147483649, min d 2147483649⟩ ↔ VR ⟨a, b, c, d⟩ := by
  unfold VR
  dsimp only
  by_cases h : a = 3
  · subst h
    rw [if_pos (by decide), if_pos rfl]
    omega
  · rw [if_neg (by omega), if_neg h]
    omega
theorem sli_part {l : List Int} {a b : Nat} (h : a ≤ b) (hl : b ≤ l.length) : sliI l (a : Int) (b : Int) = some ((l.take b).drop a) := by
  rw [sliI_ok (by omega) (by omega) (by omega), Int.toNat_natCast, Int.toNat_natCast]
theorem part_bytes {l : List Int} (h : Bytes l) (a b : Nat) : Bytes ((l.take b).drop a) := (h.take b).drop a
theorem part_len {l : List Int} {a b : Nat} (hl : b ≤ l.length) : ((l.take b).drop a).length = b - a := by rw [List.length_drop, List.length_take]; omega
theorem VR_le {r : T_Record} (h : VR r) : r.Kind ≤ 2147483648 ∧ r.Subject ≤ 2147483648 ∧ r.Value ≤ 2147483648 ∧ r.Time ≤ 2147483648 := by
  obtain ⟨h1, h2, h3, h4⟩ := h
  split at h3 <;> omega
theorem one_eq (b : List Int) (hB : Bytes b) (hl : b.length = 32) : Ok (F_controlroom_one b) fun r => r.2 = decide (okOne b) ∧ (okOne b → r.1 = recN b) := by
  have n1 := num_nn (part_bytes hB 1 9)
  have n2 := num_nn (part_bytes hB 9 15)
  have n3 := num_nn (part_bytes hB 15 23)
  have n4 := num_nn (part_bytes hB 23 31)
  have h0 : b[0]? = some b[0] := List.getElem?_eq_getElem (by omega)
  unfold F_controlroom_one
  rw [show (0 : Int) = ((0 : Nat) : Int) from rfl, getI_nat, h0, bind_some, total_eq b (by omega), bind_some, or_bif rfl, bind_some]
  refine ok_dec (fun h => ok_some ?_) (fun h => ?_)
  · have hn : ¬ okOne b := by
      rintro ⟨q1, q2, _⟩
      rw [h0] at q1
      injection q1 with q1
      omega
    exact ⟨(decide_eq_false hn).symm, fun h => absurd h hn⟩
  · have e0 : b[0] = 82 := by omega
    have e1 : sumL b % 256 = 90 := by omega
    rw [show (1 : Int) = ((1 : Nat) : Int) from rfl, show (9 : Int) = ((9 : Nat) : Int) from rfl, show (15 : Int) = ((15 : Nat) : Int) from rfl, show (23 : Int) = ((23 : Nat) : Int) from rfl, show (31 : Int) = ((31 : Nat) : Int) from rfl,
      sli_part (by omega) (by omega), bind_some, one1_eq _ (part_bytes hB _ _) (by rw [part_len (by omega)]; omega), bind_some, sli_part (by omega) (by omega), bind_some, one1_eq _ (part_bytes hB _ _) (by rw [part_len (by omega)]; omega), bind_some,
      sli_part (by omega) (by omega), bind_some, one1_eq _ (part_bytes hB _ _) (by rw [part_len (by omega)]; omega), bind_some, sli_part (by omega) (by omega), bind_some, one1_eq _ (part_bytes hB _ _) (by rw [part_len (by omega)]; omega), bind_some, valid_eq, bind_some]
    have hiff : VR ⟨min (numB ((b.take 9).drop 1) 0) 2147483649, min (numB ((b.take 15).drop 9) 0) 2147483649, min (numB ((b.take 23).drop 15) 0) 2147483649, min (numB ((b.take 31).drop 23) 0) 2147483649⟩ ↔ okOne b :=
      (VR_min n1 n2 n3 n4).trans ⟨fun h => ⟨by rw [h0, e0], e1, h⟩, fun h => h.2.2⟩
    refine ok_some ⟨decide_eq_decide.2 hiff, fun h => ?_⟩
    obtain ⟨q1, q2, q3, q4⟩ := VR_le h.2.2
    unfold recN at q1 q2 q3 q4 ⊢
    dsimp only at q1 q2 q3 q4 ⊢
    rw [Int.min_eq_left (by omega), Int.min_eq_left (by omega), Int.min_eq_left (by omega), Int.min_eq_left (by omega)]
def readF : Nat → List Int → List T_Record
  | 0, _ => []
  | k + 1, b => if 32 ≤ b.length ∧ okOne (b.take 32) then recN (b.take 32) :: readF k (b.drop 32) else []
theorem readF_len : ∀ (k : Nat) (b : List Int), (readF k b).length ≤ k ∧ 32 * (readF k b).length ≤ b.length
  | 0, b => by simp [readF]
  | k + 1, b => by
    rw [readF]
    split
    · rename_i h
      have := readF_len k (b.drop 32)
      rw [List.length_drop] at this
      rw [List.length_cons]
      omega
    · simp
theorem read_loop (b : List Int) (hB : Bytes b) (hl : b.length ≤ 1000000) : ∀ (k i : Nat) (s : List T_Record), i + k = 2048 → s.length = i → 32 * i ≤ b.length → loopC (F_controlroom_Read_L1 b) s = some (s ++ readF k (b.drop (32 * i)))
  | 0, i, s, hi, hs, hb => by
    rw [readF, List.append_nil]
    refine loopC_inr ?_
    unfold F_controlroom_Read_L1
    rw [bif_neg (p := (s.length : Int) < 2048) (by omega), bind_some, cond_false]
  | k + 1, i, s, hi, hs, hb => by
    have hw : IntKind.i64.wrap (32 * (s.length : Int)) = ((32 * i : Nat) : Int) := by rw [w64 (by omega) (by omega), hs]; omega
    have hL : F_controlroom_Read_L1 b s = bif decide (32 ≤ (b.drop (32 * i)).length) then (F_controlroom_one ((b.drop (32 * i)).take 32)).bind fun x10 => bif (!x10.2) then some (Sum.inr s) else (appI 32 s [x10.1]).bind fun x13 => some (Sum.inl x13) else some (Sum.inr s) := by
      unfold F_controlroom_Read_L1
      rw [bif_pos (p := (s.length : Int) < 2048) (by omega), bind_some, hw, w64 (by omega) (by omega)]
      have e : (32 ≤ (b.length : Int) - ((32 * i : Nat) : Int)) ↔ 32 ≤ (b.drop (32 * i)).length := by rw [List.length_drop]; omega
      rw [decide_eq_decide.2 e]
      by_cases h : 32 ≤ (b.drop (32 * i)).length
      · rw [bif_pos h, bif_pos h, sli_part (l := b) hb (Nat.le_refl _), bind_some, List.take_length, show (0 : Int) = ((0 : Nat) : Int) from rfl, show (32 : Int) = ((32 : Nat) : Int) from rfl, sli_part (Nat.zero_le _) h, bind_some, List.drop_zero]
      · rw [bif_neg h, bif_neg h]
    rw [readF]
    by_cases h : 32 ≤ (b.drop (32 * i)).length
    · obtain ⟨r, e1, e2, e3⟩ := one_eq ((b.drop (32 * i)).take 32) ((hB.drop _).take _) (by rw [List.length_take]; omega)
      rw [bif_pos h, e1, bind_some, e2] at hL
      by_cases ho : okOne ((b.drop (32 * i)).take 32)
      · rw [if_pos ⟨h, ho⟩]
        rw [decide_eq_true ho, Bool.not_true, cond_false, appI_ok (by simp; omega), bind_some, e3 ho] at hL
        rw [loopC_inl hL, read_loop b hB hl k (i + 1) _ (by omega) (by simp; omega) (by rw [List.length_drop] at h; omega), List.drop_drop]
        simp [Nat.mul_add]
      · rw [if_neg (fun hh => ho hh.2)]
        rw [decide_eq_false ho, Bool.not_false, cond_true] at hL
        rw [loopC_inr hL, List.append_nil]
    · rw [if_neg (fun hh => h hh.1)]
      rw [bif_neg h] at hL
      rw [loopC_inr hL, List.append_nil]
theorem read_eq (b : List Int) (hB : Bytes b) (hl : b.length ≤ 1000000) : F_controlroom_Read b = some (readF 2048 b, 32 * ((readF 2048 b).length : Int)) := by
  have hr := readF_len 2048 b
  unfold F_controlroom_Read
  rw [read_loop b hB hl 2048 0 [] rfl rfl (Nat.zero_le _), bind_some, List.nil_append, Nat.mul_zero, List.drop_zero, w64 (by omega) (by omega)]
section
variable {α : Type} {lt : α → α → Bool}
structure Ordr (lt : α → α → Bool) : Prop where
  irr : ∀ a, lt a a = false
  tr : ∀ a b c, lt a b = true → lt b c = true → lt a c = true
  tri : ∀ a b, lt a b = false → lt b a = false → a = b
def Srt (lt : α → α → Bool) (l : List α) : Prop := l.Pairwise fun a b => lt a b = true
def posF (lt : α → α → Bool) (x : α) : List α → Nat
  | [] => 0
  | e :: l => if lt e x = true then posF lt x l + 1 else 0
theorem posF_le (x : α) : ∀ l, posF lt x l ≤ l.length
  | [] => Nat.le_refl _
  | e :: l => by
    have := posF_le x l
    rw [posF, List.length_cons]
    split <;> omega
theorem posF_spec (ho : Ordr lt) (x : α) : ∀ (l : List α), Srt lt l → ∀ t (h : t < l.length), lt l[t] x = decide (t < posF lt x l)
  | [], _, t, h => by simp at h
  | e :: l, hs, t, h => by
    obtain ⟨h1, h2⟩ := List.pairwise_cons.1 hs
    rw [posF]
    by_cases he : lt e x = true
    · rw [if_pos he]
      match t, h with
      | 0, _ => simpa using he
      | t + 1, h =>
        have := posF_spec ho x l h2 t (by simpa using h)
        simpa using this
    · rw [if_neg he]
      match t, h with
      | 0, _ => simpa using he
      | t + 1, h =>
        have hl : t < l.length := by simpa using h
        have hlt := h1 _ (List.getElem_mem hl)
        have : lt l[t] x = false := by
          cases hh : lt l[t] x with
          | false => rfl
          | true => exact absurd (ho.tr _ _ _ hlt hh) he
        simpa using this
theorem bs_loop {l : List α} {k0 : Nat} {p : α → Bool} {f : Int × Int → Option ((Int × Int) ⊕ Int)} (hp : ∀ t (h : t < l.length), p l[t] = decide (t < k0))
    (h1 : ∀ (i j : Nat) (h : (i + j) / 2 < l.length), i < j → j ≤ l.length → f ((j : Int), (i : Int)) = some (if p l[(i + j) / 2] = true then .inl ((j : Int), (((i + j) / 2 + 1 : Nat) : Int)) else .inl ((((i + j) / 2 : Nat) : Int), (i : Int))))
    (h2 : ∀ (i j : Nat), j ≤ i → f ((j : Int), (i : Int)) = some (.inr (i : Int))) : ∀ (m i j : Nat), j - i = m → i ≤ k0 → k0 ≤ j → j ≤ l.length → loopC f ((j : Int), (i : Int)) = some (k0 : Int) := by
  intro m
  induction m using Nat.strongRecOn with
  | _ m ih =>
    intro i j hm hi hj hl
    by_cases hlt : i < j
    · have hh : (i + j) / 2 < l.length := by omega
      have := h1 i j hh hlt hl
      rw [hp _ hh] at this
      by_cases hk : (i + j) / 2 < k0
      · rw [decide_eq_true hk, if_pos rfl] at this
        rw [loopC_inl this]
        exact ih (j - ((i + j) / 2 + 1)) (by omega) _ _ rfl (by omega) hj hl
      · rw [decide_eq_false hk, if_neg (by simp)] at this
        rw [loopC_inl this]
        exact ih ((i + j) / 2 - i) (by omega) _ _ rfl hi (by omega) (by omega)
    · rw [loopC_inr (h2 i j (by omega))]
      congr 2
      omega
variable [DecidableEq α]
def insF (lt : α → α → Bool) (l : List α) (x : α) : List α := if l[posF lt x l]? = some x then l else l.take (posF lt x l) ++ [x] ++ l.drop (posF lt x l)
def delF (lt : α → α → Bool) (l : List α) (x : α) : List α := if l[posF lt x l]? = some x then l.take (posF lt x l) ++ l.drop (posF lt x l + 1) else l
theorem insF_len (l : List α) (x : α) : (insF lt l x).length ≤ l.length + 1 := by
  have := posF_le (lt := lt) x l
  unfold insF
  split
  · omega
  · simp; omega
theorem delF_len (l : List α) (x : α) : (delF lt l x).length ≤ l.length := by
  unfold delF
  split
  · simp; omega
  · omega
theorem insF_cons (e : α) (l : List α) (x : α) (h : lt e x = true) : insF lt (e :: l) x = e :: insF lt l x := by
  unfold insF
  rw [posF, if_pos h, List.getElem?_cons_succ]
  split <;> simp
theorem delF_cons (e : α) (l : List α) (x : α) (h : lt e x = true) : delF lt (e :: l) x = e :: delF lt l x := by
  unfold delF
  rw [posF, if_pos h, List.getElem?_cons_succ]
  split <;> simp
theorem insF_mem (ho : Ordr lt) (x : α) : ∀ (l : List α) (y : α), y ∈ insF lt l x ↔ y = x ∨ y ∈ l
  | [], y => by simp [insF, posF]
  | e :: l, y => by
    by_cases h : lt e x = true
    · rw [insF_cons e l x h, List.mem_cons, List.mem_cons, insF_mem ho x l y]
      constructor <;> (intro hh; rcases hh with hh | hh | hh <;> simp [hh])
    · unfold insF
      rw [posF, if_neg h]
      by_cases e0 : e = x
      · subst e0
        rw [if_pos (by simp)]
        simp
      · rw [if_neg (by simpa using e0)]
        simp
theorem insF_srt (ho : Ordr lt) (x : α) : ∀ (l : List α), Srt lt l → Srt lt (insF lt l x)
  | [], _ => by simp [insF, posF, Srt]
  | e :: l, hs => by
    obtain ⟨h1, h2⟩ := List.pairwise_cons.1 hs
    by_cases h : lt e x = true
    · rw [insF_cons e l x h]
      refine List.pairwise_cons.2 ⟨fun y hy => ?_, insF_srt ho x l h2⟩
      rcases (insF_mem ho x l y).1 hy with rfl | hy
      · exact h
      · exact h1 y hy
    · unfold insF
      rw [posF, if_neg h]
      by_cases e0 : e = x
      · rw [if_pos (by simp [e0])]
        exact hs
      · rw [if_neg (by simpa using e0)]
        have hx : lt x e = true := by
          cases hh : lt x e with
          | true => rfl
          | false => exact absurd (ho.tri e x (by simpa using h) hh) e0
        refine List.pairwise_cons.2 ⟨fun y hy => ?_, hs⟩
        rcases List.mem_cons.1 hy with rfl | hy
        · exact hx
        · exact ho.tr _ _ _ hx (h1 y hy)
theorem delF_filter (ho : Ordr lt) (x : α) : ∀ (l : List α), Srt lt l → delF lt l x = l.filter (fun y => !decide (y = x))
  | [], _ => by simp [delF]
  | e :: l, hs => by
    obtain ⟨h1, h2⟩ := List.pairwise_cons.1 hs
    by_cases h : lt e x = true
    · have he : e ≠ x := fun hh => by rw [hh, ho.irr] at h; cases h
      rw [delF_cons e l x h, delF_filter ho x l h2, List.filter_cons_of_pos (by simpa using he)]
    · have hall : ∀ y ∈ l, y ≠ x := fun y hy hh => by
        subst hh
        exact h (h1 _ hy)
      have hf : l.filter (fun y => !decide (y = x)) = l := List.filter_eq_self.2 fun y hy => by simpa using hall y hy
      unfold delF
      rw [posF, if_neg h]
      by_cases e0 : e = x
      · rw [if_pos (by simp [e0]), List.filter_cons_of_neg (by simp [e0]), hf]
        rfl
      · rw [if_neg (by simpa using e0), List.filter_cons_of_pos (by simpa using e0), hf]
theorem delF_mem (ho : Ordr lt) {x : α} {l : List α} (hs : Srt lt l) (y : α) : y ∈ delF lt l x ↔ y ≠ x ∧ y ∈ l := by
  rw [delF_filter ho x l hs, List.mem_filter]
  simp [and_comm]
theorem delF_srt (ho : Ordr lt) (x : α) {l : List α} (hs : Srt lt l) : Srt lt (delF lt l x) := by
  rw [delF_filter ho x l hs]
  exact hs.filter _
end

def ltI (a b : Int) : Bool := decide (a < b)
theorem ordI : Ordr ltI := ⟨fun a => by simp [ltI], fun a b c h k => by simp [ltI] at *; omega, fun a b h k => by simp [ltI] at *; omega⟩
deriving instance DecidableEq for A2_Int
def ltP (a b : A2_Int) : Bool := decide (a.a0 < b.a0 ∨ a.a0 = b.a0 ∧ a.a1 < b.a1)
theorem ordP : Ordr ltP := by
  refine ⟨fun a => by simp [ltP], fun a b c h k => by simp only [ltP, decide_eq_true_eq] at *; omega, fun a b h k => ?_⟩
  simp only [ltP, decide_eq_false_iff_not] at h k
  cases a; cases b
  dsimp only at h k
  congr 1 <;> omega
theorem cmp_eq (a b : Int) : F_cmp_Compare_int_ a b = some (if a < b then -1 else if b < a then 1 else 0) := by
  unfold F_cmp_Compare_int_ F_cmp_isNaN_int_
  rw [bind_some, bind_some]
  simp only [ne_eq, not_true_eq_false, decide_false, cond_false]
  rw [bif_ite, bif_ite]
  split
  · rfl
  · split <;> rfl
theorem cor_eq (a b : Int) : F_cmp_Or_int_ [a, b] = some (if a ≠ 0 then a else b) := by
  unfold F_cmp_Or_int_
  have g0 : getI [a, b] 0 = some a := rfl
  have g1 : getI [a, b] 1 = some b := rfl
  by_cases ha : a ≠ 0
  · rw [loopC_inr (b := .inl a) (by unfold F_cmp_Or_int__L1; rw [bif_pos (by simp), g0, bind_some, bif_pos ha]), bind_some, if_pos ha]
    rfl
  · rw [loopC_inl (a' := 1) (by unfold F_cmp_Or_int__L1; rw [bif_pos (by simp), g0, bind_some, bif_neg ha, w64 (by omega) (by omega)]; rfl), if_neg ha]
    by_cases hb : b ≠ 0
    · rw [loopC_inr (b := .inl b) (by unfold F_cmp_Or_int__L1; rw [bif_pos (by simp), g1, bind_some, bif_pos hb]), bind_some]
      rfl
    · rw [loopC_inl (a' := 2) (by unfold F_cmp_Or_int__L1; rw [bif_pos (by simp), g1, bind_some, bif_neg hb, w64 (by omega) (by omega)]; rfl),
        loopC_inr (b := .inr ()) (by unfold F_cmp_Or_int__L1; rw [bif_neg (by simp)]), bind_some]
      simp at hb
      rw [hb]
      rfl
theorem order_eq (a b : A2_Int) : ∃ c, F_controlroom_order a b = some c ∧ (c < 0 ↔ ltP a b = true) ∧ (c = 0 ↔ a = b) := by
  unfold F_controlroom_order
  rw [cmp_eq, bind_some, cmp_eq, bind_some, cor_eq, bind_some]
  refine ⟨_, rfl, ?_, ?_⟩
  · simp only [ltP, decide_eq_true_eq]
    split <;> split <;> (try split) <;> (try split) <;> omega
  · have hab : a = b ↔ a.a0 = b.a0 ∧ a.a1 = b.a1 := by
      cases a; cases b
      simp
    rw [hab]
    split <;> split <;> (try split) <;> (try split) <;> omega
theorem mid_eq {i j : Nat} (h : i + j ≤ 2000000) : IntKind.i64.wrap ((IntKind.u64.wrap (IntKind.i64.wrap ((i : Int) + (j : Int)))) / 2) = (((i + j) / 2 : Nat) : Int) := by
  rw [w64 (n := (i : Int) + j) (by omega) (by omega), wu64 (by omega) (by omega), w64 (by omega) (by omega)]
  omega
theorem search1 (l : List Int) (x : Int) (hs : Srt ltI l) (hl : l.length ≤ 1000000) : F_slices_BinarySearchFunc___int_int_int___cmp_Compare_int_ l x = some ((posF ltI x l : Int), decide (l[posF ltI x l]? = some x)) := by
  have hle := posF_le (lt := ltI) x l
  unfold F_slices_BinarySearchFunc___int_int_int___cmp_Compare_int_
  have key := bs_loop (f := F_slices_BinarySearchFunc___int_int_int___cmp_Compare_int__L1 l x) (p := fun e => ltI e x) (posF_spec ordI x l hs) (fun i j h hij hj => ?_) (fun i j hij => ?_) (l.length - 0) 0 l.length rfl (Nat.zero_le _) hle (Nat.le_refl _)
  · rw [show ((0 : Nat) : Int) = 0 from rfl] at key
    rw [key, bind_some]
    by_cases h : posF ltI x l < l.length
    · rw [bif_pos (by omega), getI_nat, List.getElem?_eq_getElem h, bind_some, cmp_eq, bind_some]
      congr 2
      apply decide_eq_decide.2
      simp only [Option.some.injEq]
      split
      · omega
      · split <;> omega
    · rw [bif_neg (by omega), List.getElem?_eq_none (by omega)]
      rfl
  · unfold F_slices_BinarySearchFunc___int_int_int___cmp_Compare_int__L1
    dsimp only
    rw [bif_pos (by omega), mid_eq (by omega), getI_nat, List.getElem?_eq_getElem h, bind_some, cmp_eq, bind_some]
    by_cases hx : l[(i + j) / 2] < x
    · rw [if_pos hx, bif_pos (by decide), if_pos (by simp [ltI, hx]), w64 (by omega) (by omega)]
      rfl
    · rw [if_neg hx, bif_neg (by split <;> decide), if_neg (by simp [ltI]; omega)]
  · unfold F_slices_BinarySearchFunc___int_int_int___cmp_Compare_int__L1
    dsimp only
    rw [bif_neg (by omega)]
theorem search2 (l : List A2_Int) (x : A2_Int) (hs : Srt ltP l) (hl : l.length ≤ 1000000) : F_slices_BinarySearchFunc____2_int__2_int__2_int___controlroom_order l x = some ((posF ltP x l : Int), decide (l[posF ltP x l]? = some x)) := by
  have hle := posF_le (lt := ltP) x l
  unfold F_slices_BinarySearchFunc____2_int__2_int__2_int___controlroom_order
  have key := bs_loop (f := F_slices_BinarySearchFunc____2_int__2_int__2_int___controlroom_order_L1 l x) (p := fun e => ltP e x) (posF_spec ordP x l hs) (fun i j h hij hj => ?_) (fun i j hij => ?_) (l.length - 0) 0 l.length rfl (Nat.zero_le _) hle (Nat.le_refl _)
  · rw [show ((0 : Nat) : Int) = 0 from rfl] at key
    rw [key, bind_some]
    by_cases h : posF ltP x l < l.length
    · obtain ⟨c, e1, e2, e3⟩ := order_eq l[posF ltP x l] x
      rw [bif_pos (by omega), getI_nat, List.getElem?_eq_getElem h, bind_some, e1, bind_some]
      congr 2
      apply decide_eq_decide.2
      rw [e3]
      simp
    · rw [bif_neg (by omega), List.getElem?_eq_none (by omega)]
      rfl
  · obtain ⟨c, e1, e2, e3⟩ := order_eq l[(i + j) / 2] x
    unfold F_slices_BinarySearchFunc____2_int__2_int__2_int___controlroom_order_L1
    dsimp only
    rw [bif_pos (by omega), mid_eq (by omega), getI_nat, List.getElem?_eq_getElem h, bind_some, e1, bind_some]
    by_cases hx : ltP l[(i + j) / 2] x = true
    · rw [bif_pos (e2.2 hx), if_pos hx, w64 (by omega) (by omega)]
      rfl
    · rw [bif_neg (fun h => hx (e2.1 h)), if_neg hx]
  · unfold F_slices_BinarySearchFunc____2_int__2_int__2_int___controlroom_order_L1
    dsimp only
    rw [bif_neg (by omega)]
theorem set1_eq (l : List Int) (x : Int) (b : Bool) (hs : Srt ltI l) (hl : l.length ≤ 1000000) : F_controlroom_set_int___cmp_Compare_int_ l x b = some (if b = true then insF ltI l x else delF ltI l x) := by
  have hle := posF_le (lt := ltI) x l
  unfold F_controlroom_set_int___cmp_Compare_int_ F_slices_Insert___int_int_ F_slices_Delete___int_int_
  rw [search1 l x hs hl, bind_some]
  dsimp only
  by_cases hf : l[posF ltI x l]? = some x
  · have hlt := (List.getElem?_eq_some_iff.1 hf).1
    unfold insF delF
    rw [decide_eq_true hf, if_pos hf, if_pos hf]
    cases b with
    | true => simp
    | false =>
      simp only [cond_false, bind_some, Bool.not_false, cond_true, Bool.false_eq_true, if_false]
      rw [w64 (by omega) (by omega), bif_pos ⟨by omega, by omega, rfl⟩, bind_some, Int.toNat_natCast]
  · unfold insF delF
    rw [decide_eq_false hf, if_neg hf, if_neg hf]
    cases b with
    | true =>
      simp only [cond_true, bind_some, Bool.not_false, if_true]
      rw [bif_pos ⟨by omega, by omega, rfl, by omega, by omega⟩, bind_some, Int.toNat_natCast]
    | false => simp
theorem set2_eq (l : List A2_Int) (x : A2_Int) (b : Bool) (hs : Srt ltP l) (hl : l.length ≤ 1000000) : F_controlroom_set__2_int___controlroom_order l x b = some (if b = true then insF ltP l x else delF ltP l x) := by
  have hle := posF_le (lt := ltP) x l
  unfold F_controlroom_set__2_int___controlroom_order F_slices_Insert____2_int__2_int_ F_slices_Delete____2_int__2_int_
  rw [search2 l x hs hl, bind_some]
  dsimp only
  by_cases hf : l[posF ltP x l]? = some x
  · have hlt := (List.getElem?_eq_some_iff.1 hf).1
    unfold insF delF
    rw [decide_eq_true hf, if_pos hf, if_pos hf]
    cases b with
    | true => simp
    | false =>
      simp only [cond_false, bind_some, Bool.not_false, cond_true, Bool.false_eq_true, if_false]
      rw [w64 (by omega) (by omega), bif_pos ⟨by omega, by omega, rfl⟩, bind_some, Int.toNat_natCast]
  · unfold insF delF
    rw [decide_eq_false hf, if_neg hf, if_neg hf]
    cases b with
    | true =>
      simp only [cond_true, bind_some, Bool.not_false, if_true]
      rw [bif_pos ⟨by omega, by omega, rfl, by omega, by omega⟩, bind_some, Int.toNat_natCast]
    | false => simp
def stepF (f : T_Facts) (r : T_Record) : T_Facts :=
  if VR r then
    if r.Kind = 1 then ⟨insF ltI f.Cut r.Subject, f.Shot, f.Alarms⟩
    else if r.Kind = 2 then ⟨delF ltI f.Cut r.Subject, f.Shot, f.Alarms⟩
    else if r.Kind = 3 then ⟨f.Cut, r.Value, f.Alarms⟩
    else if r.Kind = 4 then ⟨f.Cut, f.Shot, insF ltP f.Alarms ⟨r.Value, r.Subject⟩⟩
    else ⟨f.Cut, f.Shot, delF ltP f.Alarms ⟨r.Value, r.Subject⟩⟩
  else f
def factsF (l : List T_Record) : T_Facts := l.foldl stepF ⟨[], 0, []⟩
def FcOk (n : Nat) (f : T_Facts) : Prop := Srt ltI f.Cut ∧ Srt ltP f.Alarms ∧ f.Cut.length ≤ n ∧ f.Alarms.length ≤ n
theorem stepF_ok {n : Nat} {f : T_Facts} (r : T_Record) (h : FcOk n f) : FcOk (n + 1) (stepF f r) := by
  obtain ⟨h1, h2, h3, h4⟩ := h
  have i1 := insF_len (lt := ltI) f.Cut r.Subject
  have i2 := delF_len (lt := ltI) f.Cut r.Subject
  have i3 := insF_len (lt := ltP) f.Alarms ⟨r.Value, r.Subject⟩
  have i4 := delF_len (lt := ltP) f.Alarms ⟨r.Value, r.Subject⟩
  unfold stepF
  split
  · split
    · exact ⟨insF_srt ordI _ _ h1, h2, by dsimp only; omega, by dsimp only; omega⟩
    · split
      · exact ⟨delF_srt ordI _ h1, h2, by dsimp only; omega, by dsimp only; omega⟩
      · split
        · exact ⟨h1, h2, by dsimp only; omega, by dsimp only; omega⟩
        · split
          · exact ⟨h1, insF_srt ordP _ _ h2, by dsimp only; omega, by dsimp only; omega⟩
          · exact ⟨h1, delF_srt ordP _ h2, by dsimp only; omega, by dsimp only; omega⟩
  · exact ⟨h1, h2, by omega, by omega⟩
theorem fold_loop {l : List T_Record} {f : Int × T_Facts → Option ((Int × T_Facts) ⊕ T_Facts)} (h1 : ∀ (i : Nat) (h : i < l.length) (s : T_Facts), FcOk i s → f ((i : Int), s) = some (.inl ((i : Int) + 1, stepF s l[i])))
    (h2 : ∀ s, f ((l.length : Int), s) = some (.inr s)) : ∀ (m i : Nat) (s : T_Facts), i + m = l.length → FcOk i s → loopC f ((i : Int), s) = some ((l.drop i).foldl stepF s)
  | 0, i, s, hi, _ => by
    have : i = l.length := by omega
    subst this
    rw [loopC_inr (h2 s), List.drop_length]
    rfl
  | m + 1, i, s, hi, ho => by
    have h : i < l.length := by omega
    rw [loopC_inl (h1 i h s ho), show ((i : Int) + 1) = ((i + 1 : Nat) : Int) by omega, fold_loop h1 h2 m (i + 1) _ (by omega) (stepF_ok _ ho), drop_cons_get h]
    rfl
theorem fc0 : FcOk 0 ⟨[], 0, []⟩ := ⟨List.Pairwise.nil, List.Pairwise.nil, Nat.le_refl _, Nat.le_refl _⟩
theorem facts_ok (l : List T_Record) : FcOk l.length (factsF l) := by
  have key : ∀ (l : List T_Record) (n : Nat) (s : T_Facts), FcOk n s → FcOk (n + l.length) (l.foldl stepF s) := by
    intro l
    induction l with
    | nil => intro n s h; exact h
    | cons r l ih =>
      intro n s h
      have := ih (n + 1) _ (stepF_ok r h)
      rw [List.foldl_cons, List.length_cons, show n + (l.length + 1) = n + 1 + l.length by omega]
      exact this
  have := key l 0 _ fc0
  rwa [Nat.zero_add] at this
theorem replay_eq (l : List T_Record) (hl : l.length ≤ 1000000) : F_controlroom_Replay l = some (factsF l) := by
  unfold F_controlroom_Replay
  have key := fold_loop (l := l) (f := F_controlroom_Replay_L1 l) (fun i h s hs => ?_) (fun s => ?_) l.length 0 _ (by omega) fc0
  · rw [show ((0 : Nat) : Int) = 0 from rfl] at key
    rw [key]
    rfl
  · obtain ⟨s1, s2, s3, s4⟩ := hs
    unfold F_controlroom_Replay_L1
    dsimp only
    rw [bif_pos (by omega), getI_nat, List.getElem?_eq_getElem h, bind_some, valid_eq, bind_some]
    unfold stepF
    by_cases hv : VR l[i]
    · obtain ⟨⟨k1, k2⟩, _⟩ := id hv
      rw [decide_eq_true hv, Bool.not_true, cond_false, if_pos hv]
      by_cases e1 : l[i].Kind = 1
      · rw [bif_pos e1, bind_some]
        dsimp only
        rw [decide_eq_true e1, cond_true, set1_eq _ _ _ s1 (by omega), bind_some, if_pos rfl, bind_some, if_pos e1, w64 (by omega) (by omega)]
      · rw [bif_neg e1, bind_some]
        dsimp only
        by_cases e2 : l[i].Kind = 2
        · rw [decide_eq_true e2, cond_true, decide_eq_false e1, set1_eq _ _ _ s1 (by omega), bind_some, if_neg (by simp), bind_some, if_neg e1, if_pos e2, w64 (by omega) (by omega)]
        · rw [decide_eq_false e2, cond_false, if_neg e1, if_neg e2]
          by_cases e3 : l[i].Kind = 3
          · rw [bif_pos e3, bind_some, if_pos e3, w64 (by omega) (by omega)]
          · rw [bif_neg e3, if_neg e3, set2_eq _ _ _ s2 (by omega), bind_some, bind_some, w64 (by omega) (by omega)]
            by_cases e4 : l[i].Kind = 4
            · rw [decide_eq_true e4, if_pos rfl, if_pos e4]
            · rw [decide_eq_false e4, if_neg (by simp), if_neg e4]
    · rw [decide_eq_false hv, Bool.not_false, cond_true, bind_some, if_neg hv, w64 (by omega) (by omega)]
  · unfold F_controlroom_Replay_L1
    dsimp only
    rw [bif_neg (by omega)]
theorem concat_eq (a b : List Int) (ha : a.length ≤ 1000000) (hb : b.length ≤ 1000000) : F_slices_Concat___byte_byte_ [a, b] = some (a ++ b) := by
  have g0 : getI [a, b] 0 = some a := rfl
  have g1 : getI [a, b] 1 = some b := rfl
  unfold F_slices_Concat___byte_byte_
  rw [loopC_inl (a' := (1, (a.length : Int))) (by
      unfold F_slices_Concat___byte_byte__L1
      dsimp only
      rw [bif_pos (by simp), g0, bind_some, w64 (n := 0 + (a.length : Int)) (by omega) (by omega), bif_neg (by omega), w64 (by omega) (by omega)]
      simp only [Int.zero_add]),
    loopC_inl (a' := (2, (a.length : Int) + b.length)) (by
      unfold F_slices_Concat___byte_byte__L1
      dsimp only
      rw [bif_pos (by simp), g1, bind_some, w64 (n := (a.length : Int) + b.length) (by omega) (by omega), bif_neg (by omega), w64 (by omega) (by omega)]
      rfl),
    loopC_inr (b := (a.length : Int) + b.length) (by
      unfold F_slices_Concat___byte_byte__L1
      dsimp only
      rw [bif_neg (by simp)]), bind_some]
  unfold F_slices_Grow___byte_byte_
  rw [bif_pos (by omega), bind_some]
  rw [loopC_inl (a' := (1, a)) (by
      unfold F_slices_Concat___byte_byte__L2
      dsimp only
      rw [bif_pos (by simp), g0, bind_some, appI_ok (by simp; omega), bind_some, w64 (by omega) (by omega)]
      rfl),
    loopC_inl (a' := (2, a ++ b)) (by
      unfold F_slices_Concat___byte_byte__L2
      dsimp only
      rw [bif_pos (by simp), g1, bind_some, appI_ok (by omega), bind_some, w64 (by omega) (by omega)]
      rfl),
    loopC_inr (b := a ++ b) (by
      unfold F_slices_Concat___byte_byte__L2
      dsimp only
      rw [bif_neg (by simp)]), bind_some]
theorem clone_eq (a : List Int) (ha : a.length ≤ 1000000) : F_slices_Clone___byte_byte_ a = some a := by
  unfold F_slices_Clone___byte_byte_
  rw [appI_ok (by simp; omega), bind_some]
  rfl
structure DkOk (d : T_Disk) : Prop where
  s : Bytes d.Safe
  l : Bytes d.Loose
  sl : d.Safe.length ≤ 200000
  ll : d.Loose.length ≤ 200000
def writeF (d : T_Disk) (r : T_Record) : T_Disk × Int :=
  if VR r then
    if 32 * (readF 2048 d.Safe).length ≠ d.Safe.length then (d, 54)
    else if 65536 < d.Safe.length + d.Loose.length + 32 then (d, 2)
    else (⟨d.Safe, d.Loose ++ bytesR r⟩, 0)
  else (d, 6)
theorem write_eq (d : T_Disk) (r : T_Record) (h : DkOk d) : F_controlroom_Write d r = some (writeF d r) := by
  obtain ⟨h1, h2, h3, h4⟩ := h
  unfold F_controlroom_Write writeF
  rw [bytes_eq, bind_some]
  by_cases hv : VR r
  · have hbl := bytesR_len r
    rw [if_pos hv, if_pos hv]
    dsimp only
    rw [bif_neg (by simp), read_eq _ h1 (by omega), bind_some]
    dsimp only
    by_cases e1 : 32 * (readF 2048 d.Safe).length ≠ d.Safe.length
    · rw [bif_pos (by omega), if_pos e1]
    · rw [bif_neg (by omega), if_neg e1, w64 (n := (d.Safe.length : Int) + d.Loose.length) (by omega) (by omega), hbl, w64 (by omega) (by omega)]
      by_cases e2 : 65536 < d.Safe.length + d.Loose.length + 32
      · rw [bif_pos (by omega), if_pos e2]
      · rw [bif_neg (by omega), if_neg e2, clone_eq _ (by omega), bind_some, concat_eq _ _ (by omega) (by omega), bind_some]
  · rw [if_neg hv, if_neg hv]
    dsimp only
    rw [bif_pos (by decide)]
theorem writeF_ok (d : T_Disk) (r : T_Record) (h : DkOk d) (hl : d.Loose.length + 32 ≤ 200000) : DkOk (writeF d r).1 := by
  obtain ⟨h1, h2, h3, h4⟩ := id h
  have hb := bytesR_bytes r
  have hbl := bytesR_len r
  unfold writeF
  split
  · split
    · exact h
    · split
      · exact h
      · exact ⟨h1, h2.app hb, h3, by dsimp only; rw [List.length_append]; omega⟩
  · exact h
def syncF (d : T_Disk) : T_Disk := ⟨d.Safe ++ d.Loose, []⟩
theorem sync_eq (d : T_Disk) (h : DkOk d) : F_controlroom_Sync d = some (syncF d) := by
  obtain ⟨h1, h2, h3, h4⟩ := h
  unfold F_controlroom_Sync
  rw [concat_eq _ _ (by omega) (by omega), bind_some]
  rfl
theorem syncF_ok (d : T_Disk) (h : DkOk d) (hl : d.Safe.length + d.Loose.length ≤ 200000) : DkOk (syncF d) :=
  ⟨h.s.app h.l, Bytes.nil, by unfold syncF; rw [List.length_append]; exact hl, Nat.zero_le _⟩
def kept (d : T_Disk) (keep : Int) : Nat := (max 0 (min keep (d.Loose.length : Int))).toNat
def crashB (d : T_Disk) (keep broken : Int) : List Int :=
  if 0 < kept d keep then (d.Safe ++ d.Loose.take (kept d keep)).set (d.Safe.length + kept d keep - 1) (bits .xor .u8 ((d.Loose[kept d keep - 1]?).getD 0) broken) else d.Safe
theorem crash_tail (d : T_Disk) (keep broken : Int) (h : DkOk d) : ((bif (decide (0 < (max 0 (min keep ((d.Loose).length : Int))))) then
    (getI (d.Safe ++ d.Loose.take (kept d keep)) (IntKind.i64.wrap (((d.Safe ++ d.Loose.take (kept d keep)).length : Int) - 1))).bind fun x7 =>
    (getI (d.Safe ++ d.Loose.take (kept d keep)) (IntKind.i64.wrap (((d.Safe ++ d.Loose.take (kept d keep)).length : Int) - 1))).bind fun x9 =>
    some ((d.Safe ++ d.Loose.take (kept d keep)).set (((IntKind.i64.wrap (((d.Safe ++ d.Loose.take (kept d keep)).length : Int) - 1))).toNat) (bits .xor .u8 x7 broken))
  else
    some (d.Safe ++ d.Loose.take (kept d keep))).bind fun o5 => some (T_Disk.mk o5 ([] : List Int))) = some ⟨crashB d keep broken, []⟩ := by
  obtain ⟨h1, h2, h3, h4⟩ := h
  have hk : (kept d keep : Int) = max 0 (min keep (d.Loose.length : Int)) := by unfold kept; omega
  have hkl : kept d keep ≤ d.Loose.length := by omega
  have hl : (d.Safe ++ d.Loose.take (kept d keep)).length = d.Safe.length + kept d keep := by rw [List.length_append, List.length_take]; omega
  rw [← hk]
  unfold crashB
  by_cases h0 : 0 < kept d keep
  · have hx : (d.Safe ++ d.Loose.take (kept d keep))[d.Safe.length + kept d keep - 1]? = some ((d.Loose[kept d keep - 1]?).getD 0) := by
      rw [List.getElem?_append_right (by omega), List.getElem?_take, if_pos (by omega), show d.Safe.length + kept d keep - 1 - d.Safe.length = kept d keep - 1 by omega, List.getElem?_eq_getElem (by omega)]
      rfl
    have hw : IntKind.i64.wrap (((d.Safe ++ d.Loose.take (kept d keep)).length : Int) - 1) = ((d.Safe.length + kept d keep - 1 : Nat) : Int) := by rw [w64 (by omega) (by omega), hl]; omega
    rw [bif_pos (by omega), hw, getI_nat, hx, bind_some, bind_some, bind_some, if_pos h0, Int.toNat_natCast]
  · have : kept d keep = 0 := by omega
    rw [bif_neg (by omega), bind_some, if_neg h0, this, List.take_zero, List.append_nil]
theorem crash_eq (d : T_Disk) (keep broken : Int) (h : DkOk d) : F_controlroom_Crash d keep broken = some ⟨crashB d keep broken, []⟩ := by
  obtain ⟨h1, h2, h3, h4⟩ := id h
  have hk : (kept d keep : Int) = max 0 (min keep (d.Loose.length : Int)) := by unfold kept; omega
  have e := crash_tail d keep broken h
  unfold F_controlroom_Crash
  rw [← hk] at e ⊢
  rw [show sliI d.Loose 0 (kept d keep : Int) = some (d.Loose.take (kept d keep)) from sli_part (Nat.zero_le _) (by omega), bind_some, concat_eq _ _ (by omega) (by rw [List.length_take]; omega), bind_some]
  exact e
def repairF (d : T_Disk) : T_Disk := ⟨d.Safe.take (32 * (readF 2048 d.Safe).length), []⟩
def restartF (d : T_Disk) : T_Facts × Int := (factsF (readF 2048 d.Safe), (d.Safe.length : Int) - 32 * ((readF 2048 d.Safe).length : Int))
theorem restart_eq (d : T_Disk) (h : DkOk d) : F_controlroom_Restart d = some (restartF d) := by
  obtain ⟨h1, h2, h3, h4⟩ := h
  have hr := readF_len 2048 d.Safe
  unfold F_controlroom_Restart
  rw [read_eq _ h1 (by omega), bind_some]
  dsimp only
  rw [replay_eq _ (by omega), bind_some, w64 (by omega) (by omega)]
  rfl
/-! ### what is the same -/
theorem dk0 : DkOk ⟨[], []⟩ := ⟨Bytes.nil, Bytes.nil, Nat.zero_le _, Nat.zero_le _⟩
theorem bytes_all {l : List Int} (h : l.all (fun b => decide (0 ≤ b ∧ b ≤ 255)) = true) : Bytes l := fun b hb => of_decide_eq_true (List.all_eq_true.1 h b hb)
theorem awake42 : F_law42_awake = some true := by
  have w1 : DkOk (writeF ⟨[], []⟩ ⟨1, 3, 0, 5⟩).1 := writeF_ok _ _ dk0 (by decide)
  have e1 : (writeF ⟨[], []⟩ ⟨1, 3, 0, 5⟩).1.Safe.length + (writeF ⟨[], []⟩ ⟨1, 3, 0, 5⟩).1.Loose.length = 32 := by decide +kernel
  have w2 : DkOk (syncF (writeF ⟨[], []⟩ ⟨1, 3, 0, 5⟩).1) := syncF_ok _ w1 (by omega)
  have e2 : (syncF (writeF ⟨[], []⟩ ⟨1, 3, 0, 5⟩).1).Loose.length = 0 := rfl
  have w3 : DkOk (writeF (syncF (writeF ⟨[], []⟩ ⟨1, 3, 0, 5⟩).1) ⟨2, 3, 0, 9⟩).1 := writeF_ok _ _ w2 (by omega)
  have w4 : DkOk ⟨crashB (writeF (syncF (writeF ⟨[], []⟩ ⟨1, 3, 0, 5⟩).1) ⟨2, 3, 0, 9⟩).1 10 0, []⟩ := by
    refine ⟨?_, Bytes.nil, ?_, Nat.zero_le _⟩
    · exact bytes_all (by decide +kernel)
    · have : (crashB (writeF (syncF (writeF ⟨[], []⟩ ⟨1, 3, 0, 5⟩).1) ⟨2, 3, 0, 9⟩).1 10 0).length = 42 := by decide +kernel
      dsimp only
      omega
  unfold F_law42_awake
  rw [write_eq _ _ dk0, bind_some, sync_eq _ w1, bind_some, write_eq _ _ w2, bind_some, crash_eq _ _ _ w3, bind_some, restart_eq _ w4, bind_some]
  have r1 : (writeF ⟨[], []⟩ ⟨1, 3, 0, 5⟩).2 = 0 := by decide +kernel
  have r2 : (writeF (syncF (writeF ⟨[], []⟩ ⟨1, 3, 0, 5⟩).1) ⟨2, 3, 0, 9⟩).2 = 0 := by decide +kernel
  have r3 : ((writeF (syncF (writeF ⟨[], []⟩ ⟨1, 3, 0, 5⟩).1) ⟨2, 3, 0, 9⟩).1.Safe.length : Int) = 32 := by decide +kernel
  have r4 : ((writeF (syncF (writeF ⟨[], []⟩ ⟨1, 3, 0, 5⟩).1) ⟨2, 3, 0, 9⟩).1.Loose.length : Int) = 32 := by decide +kernel
  have r5 : (restartF ⟨crashB (writeF (syncF (writeF ⟨[], []⟩ ⟨1, 3, 0, 5⟩).1) ⟨2, 3, 0, 9⟩).1 10 0, []⟩).2 = 10 := by decide +kernel
  have r6 : (restartF ⟨crashB (writeF (syncF (writeF ⟨[], []⟩ ⟨1, 3, 0, 5⟩).1) ⟨2, 3, 0, 9⟩).1 10 0, []⟩).1.Cut = [3] := by decide +kernel
  rw [bif_pos r1, bif_pos r2, bif_pos r3, bif_pos r4, bif_pos r5, r6, bif_pos (by simp)]
  rfl
structure DcOk (d : T_made_Dice) : Prop where
  l : d.L.length ≤ 400
  a : 0 ≤ d.At
  b : d.At ≤ 400
theorem mod_ok (x n : Int) (hn : 1 ≤ n) (hn1 : n ≤ 1000000000) : Ok (F_made_Mod x n) fun r => 0 ≤ r ∧ r < n := by
  unfold F_made_Mod
  rw [bif_neg (by omega), remI_ok (by omega), bind_some]
  have h1 := Int.tmod_lt_of_pos x (show 0 < n by omega)
  have h2 : -n < x.tmod n := by
    rcases Int.lt_or_le x 0 with h | h
    · have e : x.tmod n = -((-x).tmod n) := by rw [Int.neg_tmod, Int.neg_neg]
      have := Int.tmod_lt_of_pos (-x) (show 0 < n by omega)
      omega
    · have := Int.tmod_nonneg n h
      omega
  refine ok_bind (Q := fun r => 0 ≤ r ∧ r < n) (ok_dec (fun h => ?_) (fun h => ok_some ⟨by omega, h1⟩)) fun r hr => ok_some hr
  rw [w64 (by omega) (by omega)]
  exact ok_some ⟨by omega, by omega⟩
theorem next_ok (d : T_made_Dice) (n : Int) (hd : DcOk d) (hn : 1 ≤ n) (hn1 : n ≤ 1000000000) : Ok (F_made_Dice_Next d n) fun r => DcOk r.1 ∧ 0 ≤ r.2 ∧ r.2 < n := by
  obtain ⟨h1, h2, h3⟩ := hd
  unfold F_made_Dice_Next
  refine ok_dec (fun h => ok_some ⟨⟨h1, h2, h3⟩, Int.le_refl _, by dsimp only; omega⟩) (fun h => ?_)
  rw [w64 (n := d.At + 1) (by omega) (by omega), w64 (by omega) (by omega)]
  refine ok_bind (ok_getI (by omega) (by omega)) fun x2 _ => ?_
  exact ok_bind (mod_ok x2 n hn hn1) fun x4 h4 => ok_some ⟨⟨h1, by dsimp only; omega, by dsimp only; omega⟩, h4⟩
def Small (n : Int) (d : T_Disk) : Prop := DkOk d ∧ (d.Safe.length + d.Loose.length : Int) ≤ 32 * n
theorem light_ok (t : List Int) : F_made_Light t = some (decide ((t.length : Int) ≤ 400)) := rfl
def flat (l : List T_Record) : List Int := (l.map bytesR).flatten
def gc (c : A4_Bool) (i : Int) : Bool := if i = 0 then c.a0 else if i = 1 then c.a1 else if i = 2 then c.a2 else if i = 3 then c.a3 else false
def gr (r : A4_A4_Bool) (x : A2_Int) : Bool := if x.a0 = 0 then gc r.a0 x.a1 else if x.a0 = 1 then gc r.a1 x.a1 else if x.a0 = 2 then gc r.a2 x.a1 else if x.a0 = 3 then gc r.a3 x.a1 else false
def setc (c : A4_Bool) (q : Int) (v : Bool) : A4_Bool := if q = 0 then ⟨v, c.a1, c.a2, c.a3⟩ else if q = 1 then ⟨c.a0, v, c.a2, c.a3⟩ else if q = 2 then ⟨c.a0, c.a1, v, c.a3⟩ else ⟨c.a0, c.a1, c.a2, v⟩
def setr (r : A4_A4_Bool) (p q : Int) (v : Bool) : A4_A4_Bool := if p = 0 then ⟨setc r.a0 q v, r.a1, r.a2, r.a3⟩ else if p = 1 then ⟨r.a0, setc r.a1 q v, r.a2, r.a3⟩ else if p = 2 then ⟨r.a0, r.a1, setc r.a2 q v, r.a3⟩ else ⟨r.a0, r.a1, r.a2, setc r.a3 q v⟩
theorem four_of {q : Int} (h0 : 0 ≤ q) (h1 : q < 4) : q = 0 ∨ q = 1 ∨ q = 2 ∨ q = 3 := by omega
theorem gc_set (c : A4_Bool) {q : Int} (v : Bool) (h0 : 0 ≤ q) (h1 : q < 4) (i : Int) : gc (setc c q v) i = if i = q then v else gc c i := by
  rcases four_of h0 h1 with rfl | rfl | rfl | rfl
  all_goals
    unfold setc
    simp only [if_true, if_false, Int.reduceEq, gc]
    by_cases e0 : i = 0
    · subst e0; simp
    · by_cases e1 : i = 1
      · subst e1; simp
      · by_cases e2 : i = 2
        · subst e2; simp
        · by_cases e3 : i = 3
          · subst e3; simp
          · simp [e0, e1, e2, e3]
theorem gr_set (r : A4_A4_Bool) {p q : Int} (v : Bool) (h0 : 0 ≤ p) (h1 : p < 4) (k0 : 0 ≤ q) (k1 : q < 4) (x : A2_Int) : gr (setr r p q v) x = if x.a0 = p ∧ x.a1 = q then v else gr r x := by
  obtain ⟨a, b⟩ := x
  rcases four_of h0 h1 with rfl | rfl | rfl | rfl
  all_goals
    unfold setr
    simp only [if_true, if_false, Int.reduceEq, gr]
    by_cases e0 : a = 0
    · subst e0; simp [gc_set _ _ k0 k1]
    · by_cases e1 : a = 1
      · subst e1; simp [gc_set _ _ k0 k1]
      · by_cases e2 : a = 2
        · subst e2; simp [gc_set _ _ k0 k1]
        · by_cases e3 : a = 3
          · subst e3; simp [gc_set _ _ k0 k1]
          · simp [e0, e1, e2, e3]
theorem four_set {β : Type} {q : Int} (h0 : 0 ≤ q) (h1 : q < 4) (c : A4_Bool) (v : Bool) (K : A4_Bool → Option β) : (bif decide (q = 0) then K ⟨v, c.a1, c.a2, c.a3⟩ else bif decide (q = 1) then K ⟨c.a0, v, c.a2, c.a3⟩ else bif decide (q = 2) then K ⟨c.a0, c.a1, v, c.a3⟩ else bif decide (q = 3) then K ⟨c.a0, c.a1, c.a2, v⟩ else none) = K (setc c q v) := by
  rcases four_of h0 h1 with rfl | rfl | rfl | rfl <;> rfl
theorem six_set {β : Type} {p q : Int} (h0 : 0 ≤ p) (h1 : p < 4) (k0 : 0 ≤ q) (k1 : q < 4) (r : A4_A4_Bool) (v : Bool) (K : A4_A4_Bool → Option β) : (bif decide (p = 0) then (bif decide (q = 0) then K ⟨⟨v, r.a0.a1, r.a0.a2, r.a0.a3⟩, r.a1, r.a2, r.a3⟩ else bif decide (q = 1) then K ⟨⟨r.a0.a0, v, r.a0.a2, r.a0.a3⟩, r.a1, r.a2, r.a3⟩ else bif decide (q = 2) then K ⟨⟨r.a0.a0, r.a0.a1, v, r.a0.a3⟩, r.a1, r.a2, r.a3⟩ else bif decide (q = 3) then K ⟨⟨r.a0.a0, r.a0.a1, r.a0.a2, v⟩, r.a1, r.a2, r.a3⟩ else none) else bif decide (p = 1) then (bif decide (q = 0) then K ⟨r.a0, ⟨v, r.a1.a1, r.a1.a2, r.a1.a3⟩, r.a2, r.a3⟩ else bif decide (q = 1) then K ⟨r.a0, ⟨r.a1.a0, v, r.a1.a2, r.a1.a3⟩, r.a2, r.a3⟩ else bif decide (q = 2) then K ⟨r.a0, ⟨r.a1.a0, r.a1.a1, v, r.a1.a3⟩, r.a2, r.a3⟩ else bif decide (q = 3) then K ⟨r.a0, ⟨r.a1.a0, r.a1.a1, r.a1.a2, v⟩, r.a2, r.a3⟩ else none) else bif decide (p = 2) then (bif decide (q = 0) then K ⟨r.a0, r.a1, ⟨v, r.a2.a1, r.a2.a2, r.a2.a3⟩, r.a3⟩ else bif decide (q = 1) then K ⟨r.a0, r.a1, ⟨r.a2.a0, v, r.a2.a2, r.a2.a3⟩, r.a3⟩ else bif decide (q = 2) then K ⟨r.a0, r.a1, ⟨r.a2.a0, r.a2.a1, v, r.a2.a3⟩, r.a3⟩ else bif decide (q = 3) then K ⟨r.a0, r.a1, ⟨r.a2.a0, r.a2.a1, r.a2.a2, v⟩, r.a3⟩ else none) else bif decide (p = 3) then (bif decide (q = 0) then K ⟨r.a0, r.a1, r.a2, ⟨v, r.a3.a1, r.a3.a2, r.a3.a3⟩⟩ else bif decide (q = 1) then K ⟨r.a0, r.a1, r.a2, ⟨r.a3.a0, v, r.a3.a2, r.a3.a3⟩⟩ else bif decide (q = 2) then K ⟨r.a0, r.a1, r.a2, ⟨r.a3.a0, r.a3.a1, v, r.a3.a3⟩⟩ else bif decide (q = 3) then K ⟨r.a0, r.a1, r.a2, ⟨r.a3.a0, r.a3.a1, r.a3.a2, v⟩⟩ else none) else none) = K (setr r p q v) := by
  rcases four_of h0 h1 with rfl | rfl | rfl | rfl <;> rcases four_of k0 k1 with rfl | rfl | rfl | rfl <;> rfl

section
variable {α : Type} {lt : α → α → Bool}
theorem posF_mem (ho : Ordr lt) (x : α) : ∀ (l : List α), Srt lt l → x ∈ l → l[posF lt x l]? = some x
  | [], _, h => by cases h
  | e :: l, hs, h => by
    obtain ⟨h1, h2⟩ := List.pairwise_cons.1 hs
    rw [posF]
    rcases List.mem_cons.1 h with rfl | h
    · rw [if_neg (by rw [ho.irr]; simp)]
      rfl
    · rw [if_pos (h1 x h), List.getElem?_cons_succ]
      exact posF_mem ho x l h2 h
theorem posF_same (x y : α) : ∀ (l : List α), (∀ e ∈ l, lt e y = lt e x) → posF lt y l = posF lt x l
  | [], _ => rfl
  | e :: l, h => by
    rw [posF, posF, h e List.mem_cons_self, posF_same x y l fun a ha => h a (List.mem_cons_of_mem _ ha)]
theorem posF_next [DecidableEq α] (ho : Ordr lt) (x y : α) : ∀ (l : List α), Srt lt l → (∀ e ∈ l, lt e y = (lt e x || decide (e = x))) → posF lt y l = posF lt x l + if x ∈ l then 1 else 0
  | [], _, _ => by simp [posF]
  | e :: l, hs, h => by
    obtain ⟨h1, h2⟩ := List.pairwise_cons.1 hs
    have ih := posF_next ho x y l h2 fun a ha => h a (List.mem_cons_of_mem _ ha)
    have he := h e List.mem_cons_self
    rw [posF, posF, he]
    by_cases hx : lt e x = true
    · have hne : e ≠ x := fun hh => by rw [hh, ho.irr] at hx; cases hx
      rw [hx, Bool.true_or, if_pos rfl, if_pos rfl, ih]
      by_cases hm : x ∈ l
      · rw [if_pos hm, if_pos (List.mem_cons_of_mem _ hm)]
      · rw [if_neg hm, if_neg (fun hh => by rcases List.mem_cons.1 hh with hh | hh; exact hne hh.symm; exact hm hh)]
    · have hx' : lt e x = false := by simpa using hx
      rw [hx', Bool.false_or]
      by_cases e0 : e = x
      · subst e0
        have hp : posF lt e l = 0 := by
          cases l with
          | nil => rfl
          | cons a l =>
            rw [posF, if_neg]
            intro hh
            have := ho.tr _ _ _ (h1 a List.mem_cons_self) hh
            rw [ho.irr] at this
            cases this
        have hm : e ∉ l := fun hm => by have := h1 e hm; rw [ho.irr] at this; cases this
        rw [decide_eq_true rfl, if_pos rfl, ih, hp, if_neg hm]
        simp
      · rw [decide_eq_false e0, if_neg (by simp), if_neg (by simp)]
        have hm : x ∉ l := fun hm => by rw [h1 x hm] at hx'; cases hx'
        rw [if_neg (fun hh => by rcases List.mem_cons.1 hh with hh | hh; exact e0 hh.symm; exact hm hh)]
theorem posF_all (x : α) : ∀ (l : List α), (∀ e ∈ l, lt e x = true) → posF lt x l = l.length
  | [], _ => rfl
  | e :: l, h => by rw [posF, if_pos (h e List.mem_cons_self), posF_all x l fun a ha => h a (List.mem_cons_of_mem _ ha)]; rfl
theorem posF_none (x : α) (l : List α) (h : ∀ e ∈ l, lt e x = false) : posF lt x l = 0 := by
  cases l with
  | nil => rfl
  | cons e l => rw [posF, if_neg (by rw [h e List.mem_cons_self]; simp)]
end
structure FcIs (f : T_Facts) (sh : Int) (c : A4_Bool) (r : A4_A4_Bool) : Prop where
  s : f.Shot = sh
  c : ∀ i, i ∈ f.Cut ↔ gc c i = true
  r : ∀ x, x ∈ f.Alarms ↔ gr r x = true
theorem gc_rng {c : A4_Bool} {i : Int} (h : gc c i = true) : 0 ≤ i ∧ i < 4 := by
  unfold gc at h
  split at h
  · omega
  · split at h
    · omega
    · split at h
      · omega
      · split at h
        · omega
        · cases h
theorem gr_rng {r : A4_A4_Bool} {x : A2_Int} (h : gr r x = true) : (0 ≤ x.a0 ∧ x.a0 < 4) ∧ 0 ≤ x.a1 ∧ x.a1 < 4 := by
  unfold gr at h
  split at h
  · have := gc_rng h; omega
  · split at h
    · have := gc_rng h; omega
    · split at h
      · have := gc_rng h; omega
      · split at h
        · have := gc_rng h; omega
        · cases h
theorem facts_snoc (l : List T_Record) (r : T_Record) : factsF (l ++ [r]) = stepF (factsF l) r := by simp [factsF]
abbrev FSt := Int × Int × T_made_Dice × List T_Record × A4_Bool × A4_A4_Bool
theorem facts_step (s : FSt) (hd : DcOk s.2.2.1) (hk : 0 < s.2.1) (hk1 : s.2.1 ≤ 30) (hl : s.2.2.2.1.length ≤ 1000) (h : FcIs (factsF s.2.2.2.1) s.1 s.2.2.2.2.1 s.2.2.2.2.2) :
    Ok (F_law42_ControlRoomFacts_L1 s) fun o => ∃ s' : FSt, o = .inl s' ∧ s'.2.1 = s.2.1 - 1 ∧ DcOk s'.2.2.1 ∧ s'.2.2.2.1.length = s.2.2.2.1.length + 1 ∧ FcIs (factsF s'.2.2.2.1) s'.1 s'.2.2.2.2.1 s'.2.2.2.2.2 := by
  obtain ⟨sh, n, d, l, c, r⟩ := s
  dsimp only at hd hk hk1 hl h
  have hso := facts_ok l
  unfold F_law42_ControlRoomFacts_L1
  dsimp only
  rw [bif_pos hk]
  refine ok_bind (Q := fun o : Int × T_made_Dice × List T_Record × A4_Bool × A4_A4_Bool => DcOk o.2.1 ∧ o.2.2.1.length = l.length + 1 ∧ FcIs (factsF o.2.2.1) o.1 o.2.2.2.1 o.2.2.2.2) ?_ fun o ho => ?_
  · refine ok_bind (next_ok d 5 hd (by decide) (by decide)) fun x14 h14 => ok_bind (next_ok x14.1 4 h14.1 (by decide) (by decide)) fun x16 h16 => ok_bind (next_ok x16.1 4 h16.1 (by decide) (by decide)) fun x18 h18 => ?_
    rw [w64 (n := 1 + x14.2) (by omega) (by omega), appI_ok (by simp; omega), bind_some]
    obtain ⟨q, hq⟩ : ∃ q, q = x16.2 := ⟨_, rfl⟩
    obtain ⟨p, hp⟩ : ∃ p, p = x18.2 := ⟨_, rfl⟩
    obtain ⟨k, hkk⟩ : ∃ k, k = 1 + x14.2 := ⟨_, rfl⟩
    have q0 : 0 ≤ q ∧ q < 4 := by omega
    have p0 : 0 ≤ p ∧ p < 4 := by omega
    have k0 : 1 ≤ k ∧ k ≤ 5 := by omega
    rw [← hq, ← hp, ← hkk]
    have hv : VR ⟨k, q, p, n⟩ := by
      unfold VR
      dsimp only
      split <;> omega
    have hlen : (l ++ [T_Record.mk k q p n]).length = l.length + 1 := by simp
    have hst := facts_snoc l ⟨k, q, p, n⟩
    unfold stepF at hst
    rw [if_pos hv] at hst
    dsimp only at hst
    obtain ⟨f1, f2, f3⟩ := h
    by_cases e1 : k = 1
    · rw [if_pos e1] at hst
      rw [bif_pos e1]
      have e := four_set q0.1 q0.2 c true (fun c' => some (sh, x18.1, l ++ [T_Record.mk k q p n], c', r))
      rw [e]
      refine ok_some ⟨h18.1, hlen, ?_⟩
      dsimp only
      rw [hst]
      exact ⟨f1, fun i => by rw [insF_mem ordI, f2, gc_set c true q0.1 q0.2]; by_cases hi : i = q <;> simp [hi], f3⟩
    · rw [if_neg e1] at hst
      rw [bif_neg e1]
      by_cases e2 : k = 2
      · rw [if_pos e2] at hst
        rw [bif_pos e2]
        have e := four_set q0.1 q0.2 c false (fun c' => some (sh, x18.1, l ++ [T_Record.mk k q p n], c', r))
        rw [e]
        refine ok_some ⟨h18.1, hlen, ?_⟩
        dsimp only
        rw [hst]
        exact ⟨f1, fun i => by rw [delF_mem ordI hso.1, f2, gc_set c false q0.1 q0.2]; by_cases hi : i = q <;> simp [hi], f3⟩
      · rw [if_neg e2] at hst
        rw [bif_neg e2]
        by_cases e3 : k = 3
        · rw [if_pos e3] at hst
          rw [bif_pos e3]
          refine ok_some ⟨h18.1, hlen, ?_⟩
          dsimp only
          rw [hst]
          exact ⟨rfl, f2, f3⟩
        · rw [if_neg e3] at hst
          rw [bif_neg e3]
          have hx : ∀ x : A2_Int, x = ⟨p, q⟩ ↔ x.a0 = p ∧ x.a1 = q := fun x => by cases x; simp
          by_cases e4 : k = 4
          · rw [if_pos e4] at hst
            rw [bif_pos e4]
            have e := six_set p0.1 p0.2 q0.1 q0.2 r true (fun r' => some (sh, x18.1, l ++ [T_Record.mk k q p n], c, r'))
            rw [e]
            refine ok_some ⟨h18.1, hlen, ?_⟩
            dsimp only
            rw [hst]
            exact ⟨f1, f2, fun x => by rw [insF_mem ordP, f3, gr_set r true p0.1 p0.2 q0.1 q0.2, hx]; by_cases hi : x.a0 = p ∧ x.a1 = q <;> simp [hi]⟩
          · rw [if_neg e4] at hst
            rw [bif_neg e4]
            have e := six_set p0.1 p0.2 q0.1 q0.2 r false (fun r' => some (sh, x18.1, l ++ [T_Record.mk k q p n], c, r'))
            rw [e]
            refine ok_some ⟨h18.1, hlen, ?_⟩
            dsimp only
            rw [hst]
            exact ⟨f1, f2, fun x => by rw [delF_mem ordP hso.2.1, f3, gr_set r false p0.1 p0.2 q0.1 q0.2, Ne, hx]; by_cases hi : x.a0 = p ∧ x.a1 = q <;> simp [hi]⟩
  · rw [w64 (by omega) (by omega)]
    exact ok_some ⟨_, rfl, rfl, ho.1, ho.2.1, ho.2.2⟩
theorem get_unit {i : Int} (h0 : 0 ≤ i) (h1 : i < 4) : getI [(), (), (), ()] i = some () := by
  rcases four_of h0 h1 with rfl | rfl | rfl | rfl <;> rfl
theorem get_c (c : A4_Bool) {i : Int} (h0 : 0 ≤ i) (h1 : i < 4) : (([c.a0, c.a1, c.a2, c.a3] : List Bool)[0 + i.toNat * 1]?) = some (gc c i) := by
  rcases four_of h0 h1 with rfl | rfl | rfl | rfl <;> rfl
theorem get_r (r : A4_A4_Bool) {i k : Int} (h0 : 0 ≤ i) (h1 : i < 4) (k0 : 0 ≤ k) (k1 : k < 4) : (([r.a0.a0, r.a0.a1, r.a0.a2, r.a0.a3, r.a1.a0, r.a1.a1, r.a1.a2, r.a1.a3, r.a2.a0, r.a2.a1, r.a2.a2, r.a2.a3, r.a3.a0, r.a3.a1, r.a3.a2, r.a3.a3] : List Bool)[0 + i.toNat * 4 + k.toNat * 1]?) = some (gr r ⟨i, k⟩) := by
  rcases four_of h0 h1 with rfl | rfl | rfl | rfl <;> rcases four_of k0 k1 with rfl | rfl | rfl | rfl <;> rfl
theorem l3_loop (o : Int × List T_Record × A4_Bool × A4_A4_Bool) (n m0 i : Int) (f : T_Facts) (sh : Int) (hi0 : 0 ≤ i) (hi1 : i < 4) (hs : Srt ltP f.Alarms) (hl : f.Alarms.length ≤ 1000) (hf : ∀ x, x ∈ f.Alarms ↔ gr o.2.2.2 x = true) :
    ∀ (m : Nat) (k : Int), k + m = 4 → 0 ≤ k → loopC (F_law42_ControlRoomFacts_L3 o (n, m0, i, f)) ((posF ltP ⟨i, k⟩ f.Alarms : Nat), k) = some (.inr ((posF ltP ⟨i, 4⟩ f.Alarms : Nat) : Int))
  | 0, k, hk, _ => by
    have : k = 4 := by omega
    subst this
    refine loopC_inr ?_
    unfold F_law42_ControlRoomFacts_L3
    dsimp only
    rw [bif_neg (by omega)]
  | m + 1, k, hk, h0 => by
    have hle := posF_le (lt := ltP) ⟨i, k⟩ f.Alarms
    have hn := posF_next ordP (⟨i, k⟩ : A2_Int) ⟨i, k + 1⟩ f.Alarms hs (fun e he => by
      have hr := gr_rng ((hf e).1 he)
      obtain ⟨a, b⟩ := e
      have e2 : ((⟨a, b⟩ : A2_Int) = ⟨i, k⟩) ↔ a = i ∧ b = k := by simp
      unfold ltP
      dsimp only
      rw [← Bool.decide_or]
      apply decide_eq_decide.2
      rw [e2]
      omega)
    refine (loopC_inl ?_).trans (l3_loop o n m0 i f sh hi0 hi1 hs hl hf m (k + 1) (by omega) (by omega))
    unfold F_law42_ControlRoomFacts_L3
    dsimp only
    rw [bif_pos (by omega), get_unit hi0 hi1, bind_some, get_unit h0 (by omega), bind_some, get_r o.2.2.2 hi0 hi1 h0 (by omega), bind_some]
    by_cases hg : gr o.2.2.2 ⟨i, k⟩ = true
    · have hm := (hf _).2 hg
      have hx := posF_mem ordP _ _ hs hm
      have hlt := (List.getElem?_eq_some_iff.1 hx).1
      rw [hg, cond_true, bif_neg (by omega), getI_nat, hx, bind_some]
      simp only [beq_self_eq_true, Bool.and_self, Bool.not_true, bind_some, cond_false, Sum.elim_inr]
      rw [hn, if_pos hm, w64 (by omega) (by omega), w64 (by omega) (by omega)]
      rfl
    · have hg' : gr o.2.2.2 ⟨i, k⟩ = false := by simpa using hg
      have hm : (⟨i, k⟩ : A2_Int) ∉ f.Alarms := fun hm => hg ((hf _).1 hm)
      rw [hg', cond_false, bind_some, Sum.elim_inr, hn, if_neg hm, w64 (by omega) (by omega)]
      rfl
theorem l2_loop (o : Int × List T_Record × A4_Bool × A4_A4_Bool) (f : T_Facts) (hs1 : Srt ltI f.Cut) (hs2 : Srt ltP f.Alarms) (hl1 : f.Cut.length ≤ 1000) (hl2 : f.Alarms.length ≤ 1000) (hf1 : ∀ i, i ∈ f.Cut ↔ gc o.2.2.1 i = true) (hf2 : ∀ x, x ∈ f.Alarms ↔ gr o.2.2.2 x = true) :
    ∀ (m : Nat) (i : Int), i + m = 4 → 0 ≤ i → loopC (F_law42_ControlRoomFacts_L2 o) ((posF ltI i f.Cut : Nat), (posF ltP ⟨i, 0⟩ f.Alarms : Nat), i, f) = some (.inr ((posF ltI 4 f.Cut : Nat), (posF ltP ⟨4, 0⟩ f.Alarms : Nat), f))
  | 0, i, hk, _ => by
    have : i = 4 := by omega
    subst this
    refine loopC_inr ?_
    unfold F_law42_ControlRoomFacts_L2
    dsimp only
    rw [bif_neg (by omega)]
  | m + 1, i, hk, h0 => by
    have hle := posF_le (lt := ltI) i f.Cut
    have hn := posF_next ordI i (i + 1) f.Cut hs1 (fun e he => by
      unfold ltI
      rw [← Bool.decide_or]
      apply decide_eq_decide.2
      omega)
    have hn2 : posF ltP ⟨i + 1, 0⟩ f.Alarms = posF ltP ⟨i, 4⟩ f.Alarms := posF_same _ _ _ fun e he => by
      have hr := gr_rng ((hf2 e).1 he)
      unfold ltP
      dsimp only
      apply decide_eq_decide.2
      omega
    have h3 := l3_loop o (posF ltI i f.Cut : Nat) (posF ltP ⟨i, 0⟩ f.Alarms : Nat) i f 0 h0 (by omega) hs2 hl2 hf2 4 0 (by omega) (by omega)
    refine (loopC_inl ?_).trans (l2_loop o f hs1 hs2 hl1 hl2 hf1 hf2 m (i + 1) (by omega) (by omega))
    unfold F_law42_ControlRoomFacts_L2
    dsimp only
    rw [bif_pos (by omega), get_unit h0 (by omega), bind_some, get_c o.2.2.1 h0 (by omega), bind_some]
    by_cases hg : gc o.2.2.1 i = true
    · have hm := (hf1 _).2 hg
      have hx := posF_mem ordI _ _ hs1 hm
      have hlt := (List.getElem?_eq_some_iff.1 hx).1
      rw [hg, cond_true, bif_neg (by omega), getI_nat, hx, bind_some, bind_some, bif_neg (by simp), bind_some, Sum.elim_inr, h3, bind_some, Sum.elim_inr, hn, if_pos hm, hn2, w64 (by omega) (by omega), w64 (by omega) (by omega)]
      rfl
    · have hg' : gc o.2.2.1 i = false := by simpa using hg
      have hm : i ∉ f.Cut := fun hm => hg ((hf1 _).1 hm)
      rw [hg', cond_false, bind_some, Sum.elim_inr, h3, bind_some, Sum.elim_inr, hn, if_neg hm, hn2, w64 (by omega) (by omega)]
      rfl
theorem law_ControlRoomFacts (p0 : List Int) (w0 : InL (In .i64) p0) : F_law42_ControlRoomFacts p0 = some true := by
  refine Ok.val ?_
  unfold F_law42_ControlRoomFacts
  rw [light_ok, bind_some]
  by_cases hl : (p0.length : Int) ≤ 400
  · rw [decide_eq_true hl, Bool.not_true, cond_false]
    have h6 : DcOk (T_made_Dice.mk p0 0) := ⟨by dsimp only; omega, by show (0 : Int) ≤ 0; decide, by show (0 : Int) ≤ 400; decide⟩
    rw [show F_made_Roll p0 = some (T_made_Dice.mk p0 0) from rfl, bind_some]
    refine ok_bind (next_ok _ 30 h6 (by decide) (by decide)) fun x8 h8 => ?_
    refine ok_bind (ok_loop (fun s : FSt => 0 ≤ s.2.1 ∧ s.2.1 + s.2.2.2.1.length ≤ 30 ∧ DcOk s.2.2.1 ∧ FcIs (factsF s.2.2.2.1) s.1 s.2.2.2.2.1 s.2.2.2.2.2) (fun s => s.2.1.toNat)
      (fun o : Int × List T_Record × A4_Bool × A4_A4_Bool => o.2.1.length ≤ 30 ∧ FcIs (factsF o.2.1) o.1 o.2.2.1 o.2.2.2) (fun s hs => ?_) _ ⟨h8.2.1, by dsimp only [List.length_nil]; omega, h8.1, ⟨rfl, fun i => ?_, fun x => ?_⟩⟩) fun o11 h11 => ?_
    · obtain ⟨a1, a2, a3, a4⟩ := hs
      by_cases hk : 0 < s.2.1
      · refine ok_mono (facts_step s a3 hk (by omega) (by omega) a4) ?_
        rintro o ⟨s', rfl, b1, b2, b3, b4⟩
        exact ⟨⟨by omega, by omega, b2, b4⟩, by omega⟩
      · unfold F_law42_ControlRoomFacts_L1
        rw [bif_neg hk]
        exact ok_some ⟨by show s.2.2.2.1.length ≤ 30; omega, a4⟩
    · show i ∈ ([] : List Int) ↔ gc ⟨false, false, false, false⟩ i = true
      unfold gc
      simp
    · show x ∈ ([] : List A2_Int) ↔ gr ⟨⟨false, false, false, false⟩, ⟨false, false, false, false⟩, ⟨false, false, false, false⟩, ⟨false, false, false, false⟩⟩ x = true
      unfold gr gc
      simp
    · obtain ⟨b1, f1, f2, f3⟩ := h11
      obtain ⟨s1, s2, s3, s4⟩ := facts_ok o11.2.1
      rw [replay_eq _ (by omega), bind_some]
      have k2 := l2_loop o11 (factsF o11.2.1) s1 s2 (by omega) (by omega) f2 f3 4 0 (by omega) (by omega)
      have z1 : posF ltI 0 (factsF o11.2.1).Cut = 0 := posF_none _ _ fun e he => by
        have := gc_rng ((f2 e).1 he)
        unfold ltI
        rw [decide_eq_false_iff_not]
        omega
      have z2 : posF ltP ⟨0, 0⟩ (factsF o11.2.1).Alarms = 0 := posF_none _ _ fun e he => by
        have := gr_rng ((f3 e).1 he)
        unfold ltP
        rw [decide_eq_false_iff_not]
        dsimp only
        omega
      have z3 : posF ltI 4 (factsF o11.2.1).Cut = (factsF o11.2.1).Cut.length := posF_all _ _ fun e he => by
        have := gc_rng ((f2 e).1 he)
        unfold ltI
        rw [decide_eq_true_eq]
        omega
      have z4 : posF ltP ⟨4, 0⟩ (factsF o11.2.1).Alarms = (factsF o11.2.1).Alarms.length := posF_all _ _ fun e he => by
        have := gr_rng ((f3 e).1 he)
        unfold ltP
        rw [decide_eq_true_eq]
        dsimp only
        omega
      rw [z1, z2, z3, z4] at k2
      rw [show ((0 : Nat) : Int) = 0 from rfl] at k2
      rw [k2, bind_some, Sum.elim_inr, awake42, bind_some, cond_true]
      dsimp only
      rw [bif_pos rfl, bif_pos rfl, f1, decide_eq_true rfl]
      exact ok_some rfl
  · rw [decide_eq_false hl, Bool.not_false, cond_true, awake42, bind_some]
    exact ok_some rfl
end Go.L
