/- Doors: which are right, their resistance: program and reference agree. -/
import Derived.Test.YtnmimlcnifflbaaPDrawB08
namespace Go.L
open Go Go.Aml

/-! ### rows that fall -/
def okR (x : Int) : Bool := decide (0 ≤ x) && decide (x ≤ 262144)
def fa : Option Int → List Int → Bool
  | _, [] => true
  | none, x :: t => fa (some x) t
  | some p, x :: t => decide (x < p) && fa (some x) t
theorem fa_cons (p x : Int) (t : List Int) : fa (some p) (x :: t) = (decide (x < p) && fa (some x) t) := rfl
def prv (r : List Int) (i : Int) : Option Int := if i = 0 then none else r[(i - 1).toNat]?
theorem prv_succ {r : List Int} {i : Int} (h0 : 0 ≤ i) (h1 : i < (r.length : Int)) : prv r (i + 1) = some (r[i.toNat]'(by omega)) := by
  unfold prv
  rw [if_neg (by omega), show (i + 1 - 1).toNat = i.toNat by omega]
  exact List.getElem?_eq_getElem (by omega)
theorem drop_cons {r : List Int} {i : Int} (h0 : 0 ≤ i) (h1 : i < (r.length : Int)) : r.drop i.toNat = r[i.toNat]'(by omega) :: r.drop (i + 1).toNat := by
  rw [show (i + 1).toNat = i.toNat + 1 by omega]
  exact List.drop_eq_getElem_cons (by omega)
theorem drop_end {α : Type} {r : List α} {i : Int} (h1 : ¬ i < (r.length : Int)) : r.drop i.toNat = [] := List.drop_of_length_le (by omega)
theorem okR_iff (x : Int) : (x < 0 ∨ 262144 < x) ↔ okR x = false := by
  unfold okR
  by_cases h : 0 ≤ x <;> by_cases h2 : x ≤ 262144 <;> simp [h, h2] <;> omega
def gP (r : List Int) (s : Int × Bool) : Unit ⊕ Bool := bif (r.drop s.1.toNat).all okR then .inr (s.2 && fa (prv r s.1) (r.drop s.1.toNat)) else .inl ()
theorem checkP (d : T_Door) (hd : d.Rests.length ≤ 1000) : loopC (F_door_Check_L2 d) (0, true) = some (gP d.Rests (0, true)) := by
  refine loop_fun (fun s : Int × Bool => 0 ≤ s.1 ∧ s.1 ≤ d.Rests.length) (fun s => (d.Rests.length - s.1).toNat) (gP d.Rests) (fun s hs => ?_) (0, true) ⟨Int.le_refl 0, by show (0 : Int) ≤ _; omega⟩
  obtain ⟨i, f⟩ := s
  dsimp only at hs
  unfold F_door_Check_L2
  dsimp only
  by_cases hlt : i < (d.Rests.length : Int)
  · rw [bif_pos hlt, getI_ok hs.1 hlt, bind_some, or_bif rfl, bind_some]
    have hdr := drop_cons hs.1 hlt
    have hpv := prv_succ hs.1 hlt
    generalize hx : d.Rests[i.toNat]'(by omega) = x at *
    have e : IntKind.i64.wrap (i + 1) = i + 1 := w64 (by omega) (by omega)
    rw [e]
    by_cases h : x < 0 ∨ 262144 < x
    · rw [bif_pos h]
      refine .inr ?_
      unfold gP
      dsimp only
      rw [hdr, List.all_cons, (okR_iff x).1 h]
      rfl
    · have hk : okR x = true := by cases hh : okR x with | true => rfl | false => exact absurd ((okR_iff x).2 hh) h
      rw [bif_neg h]
      refine .inl ⟨(i + 1, f && fa (prv d.Rests i) [x]), ?_, ⟨by show 0 ≤ i + 1; omega, by show i + 1 ≤ _; omega⟩, by show ((d.Rests.length : Int) - (i + 1)).toNat < ((d.Rests.length : Int) - i).toNat; omega, ?_⟩
      · cases f with
        | false => rfl
        | true =>
          by_cases h0 : i = 0
          · subst h0
            rfl
          · have hw : IntKind.i64.wrap (i - 1) = i - 1 := w64 (by omega) (by omega)
            rw [cond_true, bif_neg h0, hw, getI_ok (by omega) (by omega)]
            unfold prv
            rw [if_neg h0, List.getElem?_eq_getElem (by omega)]
            simp [fa]
      · unfold gP
        dsimp only
        rw [hdr, List.all_cons, hk, Bool.true_and, hpv]
        congr 2
        cases prv d.Rests i <;> simp [fa, Bool.and_assoc]
  · rw [bif_neg hlt]
    refine .inr ?_
    unfold gP
    dsimp only
    rw [drop_end hlt]
    cases prv d.Rests i <;> simp [fa]

def gR (r : List Int) (i : Int) : Unit ⊕ Unit := bif (r.drop i.toNat).all okR then .inr () else .inl ()
theorem checkR2 (d : T_Door) (hd : d.Rests.length ≤ 1000) : loopC (F_ref08_Check_L2 d) 0 = some (gR d.Rests 0) := by
  refine loop_fun (fun s : Int => 0 ≤ s ∧ s ≤ d.Rests.length) (fun s => (d.Rests.length - s).toNat) (gR d.Rests) (fun i hs => ?_) 0 ⟨Int.le_refl 0, by show (0 : Int) ≤ _; omega⟩
  unfold F_ref08_Check_L2
  by_cases hlt : i < (d.Rests.length : Int)
  · rw [bif_pos hlt, getI_ok hs.1 hlt, bind_some, bind_some, or_bif rfl, bind_some]
    have hdr := drop_cons hs.1 hlt
    generalize hx : d.Rests[i.toNat]'(by omega) = x at *
    have e : IntKind.i64.wrap (i + 1) = i + 1 := w64 (by omega) (by omega)
    rw [e]
    by_cases h : x < 0 ∨ 262144 < x
    · rw [bif_pos h]
      refine .inr ?_
      unfold gR
      rw [hdr, List.all_cons, (okR_iff x).1 h]
      rfl
    · have hk : okR x = true := by cases hh : okR x with | true => rfl | false => exact absurd ((okR_iff x).2 hh) h
      rw [bif_neg h]
      refine .inl ⟨i + 1, rfl, ⟨by omega, by omega⟩, by omega, ?_⟩
      unfold gR
      rw [hdr, List.all_cons, hk, Bool.true_and]
  · rw [bif_neg hlt]
    refine .inr ?_
    unfold gR
    rw [drop_end hlt]
    rfl
def gF (r : List Int) (i : Int) : Unit ⊕ Unit := bif fa (prv r i) (r.drop i.toNat) then .inr () else .inl ()
theorem checkR3 (d : T_Door) (hd : d.Rests.length ≤ 1000) (h1 : 1 ≤ d.Rests.length) : loopC (F_ref08_Check_L3 d) 1 = some (gF d.Rests 1) := by
  refine loop_fun (fun s : Int => 1 ≤ s ∧ s ≤ d.Rests.length) (fun s => (d.Rests.length - s).toNat) (gF d.Rests) (fun i hs => ?_) 1 ⟨Int.le_refl 1, by show (1 : Int) ≤ _; omega⟩
  unfold F_ref08_Check_L3
  by_cases hlt : i < (d.Rests.length : Int)
  · have hw : IntKind.i64.wrap (i - 1) = i - 1 := w64 (by omega) (by omega)
    have hpp : prv d.Rests i = some (d.Rests[(i - 1).toNat]'(by omega)) := by
      unfold prv
      rw [if_neg (by omega)]
      exact List.getElem?_eq_getElem (by omega)
    rw [bif_pos hlt, getI_ok (by omega) hlt, bind_some, hw, getI_ok (i := i - 1) (by omega) (by omega), bind_some]
    have hdr := drop_cons (show 0 ≤ i by omega) hlt
    have hpv := prv_succ (show 0 ≤ i by omega) hlt
    generalize hx : d.Rests[i.toNat]'(by omega) = x at *
    generalize hy : d.Rests[(i - 1).toNat]'(by omega) = y at *
    have e : IntKind.i64.wrap (i + 1) = i + 1 := w64 (by omega) (by omega)
    rw [e]
    by_cases h : y ≤ x
    · rw [bif_pos h]
      refine .inr ?_
      unfold gF
      rw [hdr, hpp, fa_cons, decide_eq_false (by omega)]
      rfl
    · rw [bif_neg h]
      refine .inl ⟨i + 1, rfl, ⟨by omega, by omega⟩, by omega, ?_⟩
      unfold gF
      rw [hdr, hpp, hpv, fa_cons, decide_eq_true (by omega), Bool.true_and]
  · rw [bif_neg hlt]
    refine .inr ?_
    unfold gF
    rw [drop_end hlt]
    cases prv d.Rests i <;> rfl
theorem fa_start {r : List Int} (h : 1 ≤ r.length) : fa (prv r 1) (r.drop (1 : Int).toNat) = fa none r := by
  match r, h with
  | x :: t, _ => rfl

/-! ### right doors -/
def oth (l : List T_Door) (k : Int) : Int := ((l[k.toNat]?).map (·.Other)).getD 0
theorem oth_get {l : List T_Door} {k : Int} {d : T_Door} (h : getI l k = some d) : oth l k = d.Other := by
  unfold oth
  rw [(getI_some h).2]
  rfl
def oBad (l : List T_Door) (i : Int) (d : T_Door) : Prop := d.Other ≠ -1 ∧ (d.Other < 0 ∨ (l.length : Int) ≤ d.Other ∨ d.Other = i ∨ oth l d.Other ≠ i)
instance (l : List T_Door) (i : Int) (d : T_Door) : Decidable (oBad l i d) := by unfold oBad; infer_instance
theorem oBad_eq (l : List T_Door) (i : Int) (d : T_Door) : ((bif (decide (d.Other ≠ (-1))) then
              bif (decide (d.Other < 0)) then
                some true
              else
                bif (decide (((l).length : Int) ≤ d.Other)) then
                  some true
                else
                  bif (decide (d.Other = i)) then
                    some true
                  else
                    (getI l d.Other).bind fun x36 =>
                    some (decide (x36.Other ≠ i))
            else
              some false) : Option Bool) = some (decide (oBad l i d)) := by
  by_cases h1 : d.Other ≠ -1
  · rw [bif_pos h1]
    by_cases h2 : d.Other < 0
    · rw [bif_pos h2, decide_eq_true (show oBad l i d from ⟨h1, .inl h2⟩)]
    rw [bif_neg h2]
    by_cases h3 : (l.length : Int) ≤ d.Other
    · rw [bif_pos h3, decide_eq_true (show oBad l i d from ⟨h1, .inr (.inl h3)⟩)]
    rw [bif_neg h3]
    by_cases h4 : d.Other = i
    · rw [bif_pos h4, decide_eq_true (show oBad l i d from ⟨h1, .inr (.inr (.inl h4))⟩)]
    rw [bif_neg h4]
    have hg := getI_ok (l := l) (i := d.Other) (by omega) (by omega)
    rw [hg, bind_some, ← oth_get hg]
    congr 1
    refine decide_eq_decide.2 ⟨fun h => ⟨h1, .inr (.inr (.inr h))⟩, fun h => ?_⟩
    rcases h.2 with h | h | h | h
    · exact absurd h h2
    · exact absurd h h3
    · exact absurd h h4
    · exact h
  · rw [bif_neg h1, decide_eq_false (fun h => h1 h.1)]
def dBad (l : List T_Door) (i : Int) (d : T_Door) : Int :=
  if d.Road < 0 then 4 else if (d.Rests.length : Int) < 2 ∨ 6 < (d.Rests.length : Int) then 2 else if d.Rests.all okR = false then 1 else if fa none d.Rests = false then 15 else if oBad l i d then 15 else 0
def chkL (l : List T_Door) : Int → List T_Door → Int
  | _, [] => 0
  | i, d :: t => if dBad l i d = 0 then chkL l (i + 1) t else dBad l i d
theorem chkL_cons (l : List T_Door) (i : Int) (d : T_Door) (t : List T_Door) : chkL l i (d :: t) = if dBad l i d = 0 then chkL l (i + 1) t else dBad l i d := rfl
def chkD (l : List T_Door) : Int := if 16 < (l.length : Int) then 2 else chkL l 0 l
def gC (l : List T_Door) (i : Int) : Int ⊕ Unit := if chkL l i (l.drop i.toNat) = 0 then .inr () else .inl (chkL l i (l.drop i.toNat))
theorem stepP (l : List T_Door) (i : Int) (d : T_Door) (hg : getI l i = some d) (hlt : i < (l.length : Int)) (h0 : 0 ≤ i) (hl : l.length ≤ 1000) :
    F_door_Check_L1 l i = some (if dBad l i d = 0 then .inl (i + 1) else .inr (.inl (dBad l i d))) := by
  have e : IntKind.i64.wrap (i + 1) = i + 1 := w64 (by omega) (by omega)
  unfold F_door_Check_L1 dBad
  rw [bif_pos hlt, hg, bind_some, e]
  by_cases h1 : d.Road < 0
  · rw [bif_pos h1, if_pos h1]; rfl
  rw [bif_neg h1, if_neg h1, or_bif rfl, bind_some]
  by_cases h2 : (d.Rests.length : Int) < 2 ∨ 6 < (d.Rests.length : Int)
  · rw [bif_pos h2, if_pos h2]; rfl
  rw [bif_neg h2, if_neg h2, checkP d (by omega), bind_some]
  unfold gP
  show Sum.elim _ _ (bif d.Rests.all okR then _ else _) = _
  cases h3 : d.Rests.all okR with
  | false => rfl
  | true =>
    show (bif !(true && fa (prv d.Rests 0) d.Rests) then _ else _) = _
    rw [show prv d.Rests 0 = none from rfl, Bool.true_and]
    cases h4 : fa none d.Rests with
    | false => rfl
    | true =>
      rw [oBad_eq]
      show (bif decide (oBad l i d) then _ else _) = _
      by_cases h5 : oBad l i d
      · rw [bif_pos h5]; simp [h5]
      · rw [bif_neg h5]; simp [h5]
theorem stepR (l : List T_Door) (i : Int) (d : T_Door) (hg : getI l i = some d) (hlt : i < (l.length : Int)) (h0 : 0 ≤ i) (hl : l.length ≤ 1000) :
    F_ref08_Check_L1 l i = some (if dBad l i d = 0 then .inl (i + 1) else .inr (.inl (dBad l i d))) := by
  have e : IntKind.i64.wrap (i + 1) = i + 1 := w64 (by omega) (by omega)
  unfold F_ref08_Check_L1 dBad
  rw [bif_pos hlt, hg, bind_some, e]
  by_cases h1 : d.Road < 0
  · rw [bif_pos h1, if_pos h1]; rfl
  rw [bif_neg h1, if_neg h1, or_bif rfl, bind_some]
  by_cases h2 : (d.Rests.length : Int) < 2 ∨ 6 < (d.Rests.length : Int)
  · rw [bif_pos h2, if_pos h2]; rfl
  rw [bif_neg h2, if_neg h2, checkR2 d (by omega), bind_some]
  unfold gR
  show Sum.elim _ _ (bif d.Rests.all okR then _ else _) = _
  cases h3 : d.Rests.all okR with
  | false => rfl
  | true =>
    show (loopC (F_ref08_Check_L3 d) 1).bind _ = _
    rw [checkR3 d (by omega) (by omega), bind_some]
    unfold gF
    rw [fa_start (by omega)]
    cases h4 : fa none d.Rests with
    | false => rfl
    | true =>
      show (Option.bind _ _) = _
      rw [oBad_eq]
      show (bif decide (oBad l i d) then _ else _) = _
      by_cases h5 : oBad l i d
      · rw [bif_pos h5]; simp [h5]
      · rw [bif_neg h5]; simp [h5]
theorem chk_loop {F : Int → Option (Int ⊕ (Int ⊕ Unit))} (l : List T_Door) (hl : l.length ≤ 1000) (hs : ∀ i d, getI l i = some d → i < (l.length : Int) → 0 ≤ i → F i = some (if dBad l i d = 0 then .inl (i + 1) else .inr (.inl (dBad l i d)))) (he : ∀ i, ¬ i < (l.length : Int) → F i = some (.inr (.inr ()))) :
    loopC F 0 = some (gC l 0) := by
  refine loop_fun (fun s : Int => 0 ≤ s ∧ s ≤ l.length) (fun s => (l.length - s).toNat) (gC l) (fun i h => ?_) 0 ⟨Int.le_refl 0, by show (0 : Int) ≤ _; omega⟩
  by_cases hlt : i < (l.length : Int)
  · have hg := getI_ok (l := l) h.1 hlt
    rw [hs i _ hg hlt h.1]
    have hdr : l.drop i.toNat = l[i.toNat]'(by omega) :: l.drop (i + 1).toNat := by
      rw [show (i + 1).toNat = i.toNat + 1 by omega]
      exact List.drop_eq_getElem_cons (by omega)
    generalize l[i.toNat]'(by omega) = d at *
    by_cases h0 : dBad l i d = 0
    · rw [if_pos h0]
      refine .inl ⟨i + 1, rfl, ⟨by omega, by omega⟩, by omega, ?_⟩
      unfold gC
      rw [hdr, chkL_cons, if_pos h0]
    · rw [if_neg h0]
      refine .inr ?_
      unfold gC
      rw [hdr, chkL_cons, if_neg h0, if_neg h0]
  · rw [he i hlt]
    refine .inr ?_
    unfold gC
    rw [drop_end hlt]
    rfl
theorem check_eq (l : List T_Door) : F_door_Check l = some (chkD l) := by
  unfold F_door_Check chkD
  by_cases h : 16 < (l.length : Int)
  · rw [bif_pos h, if_pos h]
  rw [bif_neg h, if_neg h, chk_loop l (by omega) (fun i d hg hlt h0 => stepP l i d hg hlt h0 (by omega)) (fun i hi => by unfold F_door_Check_L1; rw [bif_neg hi]), bind_some]
  unfold gC
  show Sum.elim _ _ (if chkL l 0 l = 0 then _ else _) = _
  by_cases h0 : chkL l 0 l = 0
  · rw [if_pos h0, h0]; rfl
  · rw [if_neg h0]; rfl
theorem rcheck_eq (l : List T_Door) : F_ref08_Check l = some (chkD l) := by
  unfold F_ref08_Check chkD
  by_cases h : 16 < (l.length : Int)
  · rw [bif_pos h, if_pos h]
  rw [bif_neg h, if_neg h, chk_loop l (by omega) (fun i d hg hlt h0 => stepR l i d hg hlt h0 (by omega)) (fun i hi => by unfold F_ref08_Check_L1; rw [bif_neg hi]), bind_some]
  unfold gC
  show Sum.elim _ _ (if chkL l 0 l = 0 then _ else _) = _
  by_cases h0 : chkL l 0 l = 0
  · rw [if_pos h0, h0]; rfl
  · rw [if_neg h0]; rfl
theorem chkL_zero {l : List T_Door} : ∀ (t : List T_Door) (i : Int), chkL l i t = 0 → ∀ (k : Nat) (d : T_Door), t[k]? = some d → dBad l (i + k) d = 0
  | [], _, _, k, d, h => by simp at h
  | x :: t, i, h, k, d, hd => by
    unfold chkL at h
    by_cases hx : dBad l i x = 0
    · rw [if_pos hx] at h
      match k, hd with
      | 0, hd => simp at hd; subst hd; simpa using hx
      | k + 1, hd =>
        have := chkL_zero t (i + 1) h k d (by simpa using hd)
        rw [show i + ((k + 1 : Nat) : Int) = i + 1 + (k : Int) by omega]
        exact this
    · rw [if_neg hx] at h
      exact absurd h hx
/-- What right doors are. -/
theorem chkD_zero {l : List T_Door} (h : chkD l = 0) : l.length ≤ 16 ∧ ∀ (k : Nat) (d : T_Door), l[k]? = some d → 2 ≤ d.Rests.length ∧ d.Rests.length ≤ 6 ∧ d.Rests.all okR = true ∧ ¬ oBad l k d := by
  unfold chkD at h
  by_cases h1 : 16 < (l.length : Int)
  · rw [if_pos h1] at h; cases h
  rw [if_neg h1] at h
  refine ⟨by omega, fun k d hd => ?_⟩
  have := chkL_zero l 0 h k d hd
  rw [Int.zero_add] at this
  unfold dBad at this
  split at this
  · cases this
  split at this
  · cases this
  split at this
  · cases this
  split at this
  · cases this
  split at this
  · cases this
  · rename_i a b c e f
    refine ⟨by omega, by omega, ?_, f⟩
    cases hh : d.Rests.all okR with
    | true => rfl
    | false => exact absurd hh c

/-! ### resistance -/
def mnI (r : List Int) : Int := r.foldl min (r.headD 0)
def mxI (r : List Int) : Int := r.foldl max (r.headD 0)
theorem fold_head {f : Int → Int → Int} (hf : ∀ x, f x x = x) (r : List Int) (h : 1 ≤ r.length) : (r.drop 1).foldl f (r.headD 0) = r.foldl f (r.headD 0) := by
  match r, h with
  | x :: t, _ => show t.foldl f x = t.foldl f (f x x); rw [hf]
theorem head_eq {r : List Int} (h : 0 < r.length) : r[0]'h = r.headD 0 := by
  match r, h with
  | x :: t, _ => rfl
theorem min_eq (r : List Int) (h : 1 ≤ r.length) (hr : r.length ≤ 9223372036854775807) : F_slices_Min___int_int_ r = some (mnI r) := by
  unfold F_slices_Min___int_int_
  rw [bif_neg (by omega), getI_ok (by omega) (by omega), bind_some]
  rw [loop_fun (fun s : Int × Int => 0 ≤ s.2 ∧ s.2 ≤ r.length) (fun s => (r.length - s.2).toNat) (fun s => (r.drop s.2.toNat).foldl min s.1) (fun s hs => ?_) _ ⟨by show (0 : Int) ≤ 1; decide, by show (1 : Int) ≤ _; omega⟩]
  · rw [bind_some]
    congr 1
    show (r.drop 1).foldl min (r[0]'(by omega)) = _
    rw [head_eq]
    exact fold_head (fun x => by omega) r h
  · obtain ⟨a, i⟩ := s
    dsimp only at hs
    unfold F_slices_Min___int_int__L1
    dsimp only
    by_cases hlt : i < (r.length : Int)
    · have e : IntKind.i64.wrap (i + 1) = i + 1 := w64 (by omega) (by omega)
      rw [bif_pos hlt, getI_ok hs.1 hlt, bind_some, e]
      refine .inl ⟨_, rfl, ⟨by dsimp only; omega, by dsimp only; omega⟩, by dsimp only; omega, ?_⟩
      dsimp only
      rw [drop_cons hs.1 hlt]; rfl
    · rw [bif_neg hlt]
      refine .inr ?_
      rw [drop_end hlt]; rfl
theorem max_eq (r : List Int) (h : 1 ≤ r.length) (hr : r.length ≤ 9223372036854775807) : F_slices_Max___int_int_ r = some (mxI r) := by
  unfold F_slices_Max___int_int_
  rw [bif_neg (by omega), getI_ok (by omega) (by omega), bind_some]
  rw [loop_fun (fun s : Int × Int => 0 ≤ s.2 ∧ s.2 ≤ r.length) (fun s => (r.length - s.2).toNat) (fun s => (r.drop s.2.toNat).foldl max s.1) (fun s hs => ?_) _ ⟨by show (0 : Int) ≤ 1; decide, by show (1 : Int) ≤ _; omega⟩]
  · rw [bind_some]
    congr 1
    show (r.drop 1).foldl max (r[0]'(by omega)) = _
    rw [head_eq]
    exact fold_head (fun x => by omega) r h
  · obtain ⟨a, i⟩ := s
    dsimp only at hs
    unfold F_slices_Max___int_int__L1
    dsimp only
    by_cases hlt : i < (r.length : Int)
    · have e : IntKind.i64.wrap (i + 1) = i + 1 := w64 (by omega) (by omega)
      rw [bif_pos hlt, getI_ok hs.1 hlt, bind_some, e]
      refine .inl ⟨_, rfl, ⟨by dsimp only; omega, by dsimp only; omega⟩, by dsimp only; omega, ?_⟩
      dsimp only
      rw [drop_cons hs.1 hlt]; rfl
    · rw [bif_neg hlt]
      refine .inr ?_
      rw [drop_end hlt]; rfl
def rstS (d : T_Door) (k : Int) : T_Span :=
  if (d.Rests.length : Int) = 0 ∨ k < -1 ∨ (d.Rests.length : Int) ≤ k then ⟨0, 0⟩ else if k = -1 then ⟨mnI d.Rests, mxI d.Rests⟩ else ⟨(d.Rests[k.toNat]?).getD 0, (d.Rests[k.toNat]?).getD 0⟩
theorem rest_eq (d : T_Door) (k : Int) (hr : d.Rests.length ≤ 9223372036854775807) : F_door_Rest d k = some (rstS d k) := by
  unfold F_door_Rest rstS
  rw [or_bif (or_bif rfl), bind_some]
  by_cases h : (d.Rests.length : Int) = 0 ∨ k < -1 ∨ (d.Rests.length : Int) ≤ k
  · rw [bif_pos h, if_pos h]
  rw [bif_neg h, if_neg h]
  by_cases h1 : k = -1
  · rw [bif_pos h1, if_pos h1, min_eq _ (by omega) hr, bind_some, max_eq _ (by omega) hr, bind_some]
  · have hg := getI_ok (l := d.Rests) (i := k) (by omega) (by omega)
    rw [bif_neg h1, if_neg h1, (getI_some hg).2, hg, bind_some, bind_some]; rfl
theorem rrest_eq (d : T_Door) (k : Int) (hr : d.Rests.length ≤ 9223372036854775807) : F_ref08_Rest d k = some (rstS d k) := by
  unfold F_ref08_Rest rstS
  rw [or_bif (or_bif rfl), bind_some]
  by_cases h : (d.Rests.length : Int) = 0 ∨ k < -1 ∨ (d.Rests.length : Int) ≤ k
  · rw [bif_pos h, if_pos h]
  rw [bif_neg h, if_neg h]
  by_cases h1 : k = -1
  · rw [bif_neg (by omega), if_pos h1, getI_ok (i := 0) (by omega) (by omega), bind_some, bind_some]
    rw [loop_fun (fun s : Int × T_Span => 0 ≤ s.1 ∧ s.1 ≤ d.Rests.length) (fun s => (d.Rests.length - s.1).toNat) (fun s => ⟨(d.Rests.drop s.1.toNat).foldl min s.2.Low, (d.Rests.drop s.1.toNat).foldl max s.2.High⟩) (fun s hs => ?_) _ ⟨by show (0 : Int) ≤ 0; decide, by show (0 : Int) ≤ _; omega⟩]
    · rw [bind_some]
      show some (T_Span.mk (d.Rests.foldl min (d.Rests[0]'(by omega))) (d.Rests.foldl max (d.Rests[0]'(by omega)))) = _
      rw [head_eq]
      rfl
    · obtain ⟨i, a⟩ := s
      dsimp only at hs
      unfold F_ref08_Rest_L1
      dsimp only
      by_cases hlt : i < (d.Rests.length : Int)
      · have e : IntKind.i64.wrap (i + 1) = i + 1 := w64 (by omega) (by omega)
        rw [bif_pos hlt, getI_ok hs.1 hlt, bind_some, bind_some, e]
        refine .inl ⟨_, rfl, ⟨by dsimp only; omega, by dsimp only; omega⟩, by dsimp only; omega, ?_⟩
        dsimp only
        rw [drop_cons hs.1 hlt]; rfl
      · rw [bif_neg hlt]
        refine .inr ?_
        rw [drop_end hlt]; rfl
  · have hg := getI_ok (l := d.Rests) (i := k) (by omega) (by omega)
    rw [bif_pos (by omega), if_neg h1, (getI_some hg).2, hg, bind_some, bind_some]; rfl
end Go.L
