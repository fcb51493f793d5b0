/- The abstract memory logic, part Q: texts out of bytes, compared. -/
import Derived.Test.YtnphpimajaadpaaAmlP
namespace Go.Aml
open Go

theorem byteArray_toList (s : ByteArray) : s.toList = s.data.toList := by
  have key : ∀ (n i : Nat) (r : List UInt8), s.size - i = n → ByteArray.toList.loop s i r = r.reverse ++ s.data.toList.drop i := by
    intro n
    induction n with
    | zero =>
      intro i r h
      unfold ByteArray.toList.loop
      rw [if_neg (by omega), List.drop_eq_nil_of_le (by have : s.data.toList.length = s.size := Array.length_toList; omega)]
      simp
    | succ n ih =>
      intro i r h
      have hlt : i < s.data.toList.length := by
        have : s.data.toList.length = s.size := Array.length_toList
        omega
      unfold ByteArray.toList.loop
      rw [if_pos (by omega), ih (i + 1) _ (by omega), List.drop_eq_getElem_cons hlt]
      have hg : s.get! i = s.data.toList[i] := by
        have hs : i < s.data.size := by simpa using hlt
        show s.data[i]! = _
        rw [getElem!_pos s.data i hs]
        simp
      rw [hg]
      simp
  show ByteArray.toList.loop s 0 [] = _
  rw [key s.size 0 [] (by omega)]
  simp

theorem ofNat_toNat_inj (a b : Int) (ha : 0 ≤ a ∧ a ≤ 255) (hb : 0 ≤ b ∧ b ≤ 255) (h : UInt8.ofNat a.toNat = UInt8.ofNat b.toNat) : a = b := by
  have := congrArg UInt8.toNat h
  simp at this
  omega

theorem str_inj : ∀ (a b : List Int), (∀ x ∈ a, 0 ≤ x ∧ x ≤ 255) → (∀ x ∈ b, 0 ≤ x ∧ x ≤ 255) → (a.map fun n => UInt8.ofNat n.toNat) = (b.map fun n => UInt8.ofNat n.toNat) → a = b
  | [], [], _, _, _ => rfl
  | [], _ :: _, _, _, h => by simp at h
  | _ :: _, [], _, _, h => by simp at h
  | x :: a, y :: b, ha, hb, h => by
    simp only [List.map_cons, List.cons.injEq] at h
    rw [ofNat_toNat_inj x y (ha x (by simp)) (hb y (by simp)) h.1, str_inj a b (fun z hz => ha z (by simp [hz])) (fun z hz => hb z (by simp [hz])) h.2]

theorem str_eq (a b : List Int) (ha : ∀ x ∈ a, 0 ≤ x ∧ x ≤ 255) (hb : ∀ x ∈ b, 0 ≤ x ∧ x ≤ 255) : ((strOfNums a).toList == (strOfNums b).toList) = decide (a = b) := by
  rw [byteArray_toList, byteArray_toList, strOfNums_data, strOfNums_data]
  by_cases h : a = b
  · subst h; simp
  · rw [decide_eq_false h]
    refine beq_false_of_ne fun e => h (str_inj a b ha hb e)
end Go.Aml
