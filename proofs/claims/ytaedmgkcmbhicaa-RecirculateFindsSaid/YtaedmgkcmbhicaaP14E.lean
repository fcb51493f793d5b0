/- What is spread from places along arcs. -/
import Derived.Test.YtaedmgkcmbhicaaP14D
namespace Go.L
open Go Go.Aml

def sf (m : T_Mine) (k : Int) : Bool := ((m.Places[k.toNat]?).map (·.Surface)).getD true
def bt (o : List Bool) (k : Int) : Bool := (o[k.toNat]?).getD false
def ok1 (m : T_Mine) (w : Int) (o : List Bool) (a : Arc) : Bool := decide (a.road ≠ w) && (bt o a.from_ && (!bt o a.to_ && !sf m a.to_))
def st1 (m : T_Mine) (w : Int) (o : List Bool) (a : Arc) : List Bool := bif ok1 m w o a then o.set a.to_.toNat true else o
def stp (m : T_Mine) (w : Int) (s : Bool × List Bool) (a : Arc) : Bool × List Bool := (s.1 || ok1 m w s.2 a, st1 m w s.2 a)
def pass (m : T_Mine) (w : Int) (l : List Arc) (o : List Bool) : List Bool := l.foldl (st1 m w) o
def iterP {α : Type} (f : α → α) : Nat → α → α
  | 0, a => a
  | n + 1, a => iterP f n (f a)
def spreadC (m : T_Mine) (w : Int) (l : List Arc) (o : List Bool) : List Bool := iterP (pass m w l) (o.length + 1) o
def cnt (o : List Bool) : Nat := o.count true

theorem bt_get {o : List Bool} {k : Int} (h0 : 0 ≤ k) (h1 : k < (o.length : Int)) : getI o k = some (bt o k) := by
  unfold getI bt
  rw [if_pos h0, List.getElem?_eq_getElem (by omega)]
  rfl
theorem sf_get {m : T_Mine} {k : Int} (h0 : 0 ≤ k) (h1 : k < (m.Places.length : Int)) : ∃ p, getI m.Places k = some p ∧ p.Surface = sf m k := by
  unfold getI sf
  rw [if_pos h0, List.getElem?_eq_getElem (by omega)]
  exact ⟨_, rfl, rfl⟩
theorem st1_len {m : T_Mine} {w : Int} {o : List Bool} {a : Arc} : (st1 m w o a).length = o.length := by
  unfold st1
  cases ok1 m w o a
  · rfl
  · exact List.length_set
theorem cnt_set {o : List Bool} {i : Nat} (h : i < o.length) (hf : o[i] = false) : cnt (o.set i true) = cnt o + 1 := by
  unfold cnt
  rw [List.count_set h, hf]
  rfl
theorem st1_cnt {m : T_Mine} {w : Int} {o : List Bool} {a : Arc} (ha : ArcOk o.length a) : cnt (st1 m w o a) = cnt o + (bif ok1 m w o a then 1 else 0) := by
  obtain ⟨a1, a2, a3, a4⟩ := ha
  unfold st1
  cases h : ok1 m w o a with
  | false => rfl
  | true =>
    unfold ok1 at h
    simp only [Bool.and_eq_true, Bool.not_eq_true'] at h
    have hb := h.2.2.1
    unfold bt at hb
    have hi : a.to_.toNat < o.length := by omega
    rw [List.getElem?_eq_getElem hi] at hb
    exact cnt_set hi hb
/-- What a pass does. -/
theorem pass_is {m : T_Mine} {w : Int} : ∀ (l : List Arc) (b : Bool) (o : List Bool), (∀ a ∈ l, ArcOk o.length a) →
    (l.foldl (stp m w) (b, o)).2 = pass m w l o ∧ (pass m w l o).length = o.length ∧ cnt o ≤ cnt (pass m w l o) ∧ (b = true → (l.foldl (stp m w) (b, o)).1 = true) ∧
    ((l.foldl (stp m w) (b, o)).1 = false → pass m w l o = o ∧ ∀ a ∈ l, ok1 m w o a = false) ∧ (b = false → (l.foldl (stp m w) (b, o)).1 = true → cnt o < cnt (pass m w l o))
  | [], b, o, _ => ⟨rfl, rfl, Nat.le_refl _, fun h => h, fun _ => ⟨rfl, fun a h => by cases h⟩, fun h1 h2 => by rw [h1] at h2; cases h2⟩
  | a :: l, b, o, h => by
    have ha := h a (List.mem_cons_self ..)
    obtain ⟨e1, e2, e3, e4, e5, e6⟩ := pass_is (m := m) (w := w) l (b || ok1 m w o a) (st1 m w o a) (fun x hx => by rw [st1_len]; exact h x (List.mem_cons_of_mem _ hx))
    have ec := st1_cnt (m := m) (w := w) ha
    have el := st1_len (m := m) (w := w) (o := o) (a := a)
    unfold pass at e1 e2 e3 e5 e6 ⊢
    rw [List.foldl_cons, List.foldl_cons]
    show (l.foldl (stp m w) (b || ok1 m w o a, st1 m w o a)).2 = _ ∧ _ ∧ _ ∧ (b = true → (l.foldl (stp m w) (b || ok1 m w o a, st1 m w o a)).1 = true) ∧ ((l.foldl (stp m w) (b || ok1 m w o a, st1 m w o a)).1 = false → _) ∧ (b = false → (l.foldl (stp m w) (b || ok1 m w o a, st1 m w o a)).1 = true → _)
    refine ⟨e1, e2.trans el, by omega, fun hb => e4 (by rw [hb]; rfl), fun hf => ?_, fun hb ht => ?_⟩
    · have hbo : (b || ok1 m w o a) = false := by
        cases hx : (b || ok1 m w o a) with
        | false => rfl
        | true => rw [e4 hx] at hf; cases hf
      have ho : ok1 m w o a = false := by
        cases b
        · simpa using hbo
        · cases hbo
      have hs : st1 m w o a = o := by unfold st1; rw [ho]; rfl
      obtain ⟨q1, q2⟩ := e5 hf
      rw [hs] at q1 q2 ⊢
      refine ⟨q1, fun x hx => ?_⟩
      rcases List.mem_cons.1 hx with rfl | hx
      · exact ho
      · exact q2 x hx
    · cases ho : ok1 m w o a with
      | true => rw [ho] at ec; rw [show (bif true then 1 else 0) = 1 from rfl] at ec; omega
      | false =>
        rw [ho] at ec
        rw [show (bif false then 1 else 0) = 0 from rfl] at ec
        have := e6 (by rw [hb, ho]; rfl) ht
        omega
theorem iter_fix {α : Type} {f : α → α} {a : α} (h : f a = a) : ∀ n, iterP f n a = a
  | 0 => rfl
  | n + 1 => by show iterP f n (f a) = a; rw [h]; exact iter_fix h n
/-- Passes until nothing turns. -/
theorem fix_loop {m : T_Mine} {w : Int} {l : List Arc} {g : Bool × List Bool → Option ((Bool × List Bool) ⊕ List Bool)} (I : List Bool → Prop) (P : Nat) (hP : ∀ o, I o → o.length = P) (hl : ∀ a ∈ l, ArcOk P a)
    (hI : ∀ o, I o → I (pass m w l o)) (h1 : ∀ o, I o → g (true, o) = some (.inl (l.foldl (stp m w) (false, o)))) (h0 : ∀ o, I o → g (false, o) = some (.inr o)) :
    ∀ (n : Nat) (o : List Bool), I o → P - cnt o < n → loopC g (true, o) = some (iterP (pass m w l) n o)
  | 0, o, _, h => by omega
  | n + 1, o, ho, h => by
    have hlen := hP o ho
    obtain ⟨e1, e2, e3, e4, e5, e6⟩ := pass_is (m := m) (w := w) l false o (by rw [hlen]; exact hl)
    rw [loopC_inl (h1 o ho)]
    generalize hs : l.foldl (stp m w) (false, o) = s at e1 e4 e5 e6
    obtain ⟨b, o'⟩ := s
    dsimp only at e1 e4 e5 e6
    subst e1
    cases b with
    | false =>
      obtain ⟨q, _⟩ := e5 rfl
      rw [loopC_inr (h0 _ (hI o ho))]
      show some (pass m w l o) = some (iterP (pass m w l) n (pass m w l o))
      rw [iter_fix (by rw [q]; exact q)]
    | true =>
      have := e6 rfl rfl
      have hc : cnt (pass m w l o) ≤ P := by rw [← hlen, ← e2]; exact List.count_le_length ..
      exact fix_loop I P hP hl hI h1 h0 n _ (hI o ho) (by omega)
theorem spread_eq {m : T_Mine} {l : List Arc} {o : List Bool} {w : Int} (hP : m.Places.length ≤ 64) (ho : o.length = m.Places.length) (hl : ∀ a ∈ l, ArcOk m.Places.length a) (hn : l.length ≤ 1000000) : F_recirculate_spread m l o w = some (spreadC m w l o) := by
  unfold F_recirculate_spread spreadC
  rw [appI_ok (by simp; omega), bind_some, List.nil_append, fix_loop (m := m) (w := w) (l := l) (fun o => o.length = m.Places.length) m.Places.length (fun _ h => h) hl (fun o h => by
    have := (pass_is (m := m) (w := w) l false o (by rw [h]; exact hl)).2.1
    omega) (fun o ho => ?_) (fun o ho => by unfold F_recirculate_spread_L1; rfl) (o.length + 1) o ho (by omega), bind_some]
  unfold F_recirculate_spread_L1
  dsimp only
  rw [cond_true]
  have := over l (stp m w) (fun i s => ((s.1, i, s.2) : Bool × Int × List Bool)) id (g := F_recirculate_spread_L2 m l w) (fun _ s => s.2.length = m.Places.length) (fun i a s hx hI => ?_) (fun s _ => by unfold F_recirculate_spread_L2; rw [bif_neg (by dsimp only; omega)]; rfl) (false, o) ho
  · rw [this.1, bind_some]
    rfl
  · obtain ⟨b, o⟩ := s
    dsimp only at hI
    have hi := (List.getElem?_eq_some_iff.1 hx).1
    obtain ⟨a1, a2, a3, a4⟩ := hl a (List.mem_of_getElem? hx)
    obtain ⟨p, hp1, hp2⟩ := sf_get (m := m) a3 a4
    refine ⟨?_, by show (st1 m w o a).length = _; rw [st1_len]; exact hI⟩
    unfold F_recirculate_spread_L2 stp st1 ok1
    dsimp only
    rw [bif_pos (by omega), getI_nat, hx, bind_some, bt_get a1 (by omega), bind_some, bt_get a3 (by omega), bind_some, bind_some, hp1, bind_some, hp2, w64 (by omega) (by omega)]
    by_cases hw : a.road ≠ w
    · rw [bif_pos hw, decide_eq_true hw]
      cases bt o a.from_ <;> cases bt o a.to_ <;> cases sf m a.to_ <;> simp
    · rw [bif_neg hw, decide_eq_false hw]
      simp
/-- All that is marked lies below ground. -/
def NS (m : T_Mine) (o : List Bool) : Prop := ∀ k : Int, 0 ≤ k → bt o k = true → sf m k = false
theorem bt_set {o : List Bool} {i : Nat} {k : Int} (hk : 0 ≤ k) (hi : i < o.length) : bt (o.set i true) k = if k = i then true else bt o k := by
  unfold bt
  rw [List.getElem?_set]
  by_cases h : i = k.toNat
  · rw [if_pos h, if_pos (by omega), if_pos (by omega)]; rfl
  · rw [if_neg h, if_neg (by omega)]
theorem st1_ns {m : T_Mine} {w : Int} {o : List Bool} {a : Arc} (ha : ArcOk o.length a) (h : NS m o) : NS m (st1 m w o a) := by
  obtain ⟨a1, a2, a3, a4⟩ := ha
  unfold st1
  cases ho : ok1 m w o a with
  | false => exact h
  | true =>
    unfold ok1 at ho
    simp only [Bool.and_eq_true, Bool.not_eq_true'] at ho
    intro k hk hb
    rw [cond_true, bt_set hk (by omega)] at hb
    by_cases e : k = a.to_.toNat
    · have : k = a.to_ := by omega
      rw [this]
      exact ho.2.2.2
    · rw [if_neg e] at hb
      exact h k hk hb
theorem pass_ns {m : T_Mine} {w : Int} : ∀ (l : List Arc) (o : List Bool), (∀ a ∈ l, ArcOk o.length a) → NS m o → NS m (pass m w l o)
  | [], _, _, h => h
  | a :: l, o, hl, h => pass_ns l (st1 m w o a) (fun x hx => by rw [st1_len]; exact hl x (List.mem_cons_of_mem _ hx)) (st1_ns (hl a (List.mem_cons_self ..)) h)
theorem foldl_flatMap' {α β σ : Type} (f : α → List β) (g : σ → β → σ) : ∀ (l : List α) (s : σ), (l.flatMap f).foldl g s = l.foldl (fun s x => (f x).foldl g s) s
  | [], _ => rfl
  | x :: l, s => by rw [List.flatMap_cons, List.foldl_append, foldl_flatMap' f g l]; rfl
theorem stp_len {m : T_Mine} {w : Int} : ∀ (l : List Arc) (s : Bool × List Bool), (l.foldl (stp m w) s).2.length = s.2.length
  | [], _ => rfl
  | a :: l, s => by rw [List.foldl_cons, stp_len l]; exact st1_len
theorem stp_ns {m : T_Mine} {w : Int} : ∀ (l : List Arc) (s : Bool × List Bool), (∀ a ∈ l, ArcOk s.2.length a) → NS m s.2 → NS m (l.foldl (stp m w) s).2
  | [], _, _, h => h
  | a :: l, s, hl, h => by
    rw [List.foldl_cons]
    exact stp_ns l _ (fun x hx => by rw [show (stp m w s a).2.length = s.2.length from st1_len]; exact hl x (List.mem_cons_of_mem _ hx)) (st1_ns (hl a (List.mem_cons_self ..)) h)
theorem reach_step {m : T_Mine} {f : List T_Span} {w : Int} (hR : Rt m) (hf : f.length = m.Roads.length) {i : Nat} (hi : i < m.Roads.length) (s : Bool × Int × List Bool) (hs : s.2.1 = (i : Int)) (d : Bool) (b : Bool) (o : List Bool) (ho : o.length = m.Places.length) (hN : NS m o) :
    F_ref14_reach_L3 m f w s (b, (bif d then 1 else 0), o) = some (.inl ((bif can m f i d then stp m w (b, o) (arcD m i d) else (b, o)).1, (bif d then 2 else 1), (bif can m f i d then stp m w (b, o) (arcD m i d) else (b, o)).2)) := by
  obtain ⟨b0, i', o0⟩ := s
  dsimp only at hs
  subst hs
  have hd : decide ((bif d then (1 : Int) else 0) = 1) = d := by cases d <;> rfl
  have hlt : (bif d then (1 : Int) else 0) < 2 := by cases d <;> decide
  have hw2 : IntKind.i64.wrap ((bif d then (1 : Int) else 0) + 1) = bif d then 2 else 1 := by cases d <;> exact w64 (by decide) (by decide)
  have hA := arcD_ok hR hi d
  have hroad : (arcD m i d).road = (i : Int) := by cases d <;> rfl
  unfold F_ref14_reach_L3
  dsimp only
  rw [bif_pos hlt, hd, ends_eq hi, bind_some, can_eq hi hf, bind_some, hw2]
  generalize arcD m i d = a at hA hroad
  obtain ⟨a1, a2, a3, a4⟩ := hA
  obtain ⟨p, hp1, hp2⟩ := sf_get (m := m) a1 a2
  obtain ⟨q, hq1, hq2⟩ := sf_get (m := m) a3 a4
  dsimp only
  rw [bt_get a1 (by omega), bind_some, bt_get a3 (by omega), bind_some, bind_some, hp1, bind_some, hq1, bind_some, hp2, hq2]
  have hna := hN a.from_ a1
  unfold stp st1 ok1
  rw [hroad]
  by_cases hw : (i : Int) ≠ w
  · rw [bif_pos hw, decide_eq_true hw]
    cases can m f i d <;> cases h1 : bt o a.from_ <;> cases bt o a.to_ <;> cases sf m a.to_ <;> first | (simp; done) | (simp [hna h1])
  · rw [bif_neg hw, decide_eq_false hw]
    cases can m f i d <;> simp
theorem reach_eq {m : T_Mine} {f : List T_Span} {o : List Bool} {w : Int} (hR : Rt m) (hf : f.length = m.Roads.length) (ho : o.length = m.Places.length) (hN : NS m o) : F_ref14_reach m f o w = some (spreadC m w (arcsF m f) o) := by
  have hP := hR.p2
  have h1 := hR.r1
  have hl := arcsF_ok (f := f) hR
  unfold F_ref14_reach spreadC
  rw [appI_ok (by simp; omega), bind_some, List.nil_append, fix_loop (m := m) (w := w) (l := arcsF m f) (fun o => o.length = m.Places.length ∧ NS m o) m.Places.length (fun _ h => h.1) hl (fun o h => by
    have := (pass_is (m := m) (w := w) (arcsF m f) false o (by rw [h.1]; exact hl)).2.1
    exact ⟨by omega, pass_ns _ o (by rw [h.1]; exact hl) h.2⟩) (fun o ho => ?_) (fun o ho => by unfold F_ref14_reach_L1; rfl) (o.length + 1) o ⟨ho, hN⟩ (by omega), bind_some]
  unfold F_ref14_reach_L1
  dsimp only
  rw [cond_true]
  have := over (List.range m.Roads.length) (fun s i => (arcsAt m f i).foldl (stp m w) s) (fun i s => ((s.1, i, s.2) : Bool × Int × List Bool)) id (g := F_ref14_reach_L2 m f w) (fun _ s => s.2.length = m.Places.length ∧ NS m s.2) (fun i x s hx hI => ?_) (fun s _ => by unfold F_ref14_reach_L2; rw [List.length_range, bif_neg (by dsimp only; omega)]; rfl) (false, o) ho
  · rw [this.1, bind_some]
    unfold arcsF
    rw [foldl_flatMap']
    rfl
  · obtain ⟨rfl, hi⟩ := range_get hx
    obtain ⟨b, o⟩ := s
    obtain ⟨i1, i2⟩ := hI
    dsimp only at i1 i2
    have hAt : ∀ a ∈ arcsAt m f x, ArcOk o.length a := fun a ha => by
      obtain ⟨d, _, rfl⟩ := arcsAt_mem.1 ha
      rw [i1]
      exact arcD_ok hR hi d
    refine ⟨?_, by rw [stp_len]; exact i1, stp_ns _ _ hAt i2⟩
    unfold F_ref14_reach_L2
    dsimp only
    rw [bif_pos (by omega)]
    have r0 := reach_step (w := w) hR hf hi (b, (x : Int), o) rfl false b o i1 i2
    have j1 : ((bif can m f x false then stp m w (b, o) (arcD m x false) else (b, o)).2.length = m.Places.length) ∧ NS m (bif can m f x false then stp m w (b, o) (arcD m x false) else (b, o)).2 := by
      cases can m f x false
      · exact ⟨i1, i2⟩
      · exact ⟨st1_len.trans i1, st1_ns (by rw [i1]; exact arcD_ok hR hi false) i2⟩
    have r1 := reach_step (w := w) hR hf hi (b, (x : Int), o) rfl true (bif can m f x false then stp m w (b, o) (arcD m x false) else (b, o)).1 _ j1.1 j1.2
    rw [cond_false] at r0
    rw [cond_true] at r1
    have r2 : ∀ (b' : Bool) (o' : List Bool), F_ref14_reach_L3 m f w (b, (x : Int), o) (b', 2, o') = some (.inr (b', o')) := fun b' o' => by
      unfold F_ref14_reach_L3
      rw [bif_neg (by show ¬ ((2 : Int) < 2); decide)]
    rw [loopC_inl r0, cond_false, loopC_inl r1, cond_true, loopC_inr (r2 _ _), bind_some, w64 (by omega) (by omega)]
    unfold arcsAt
    rw [List.foldl_append]
    cases can m f x false <;> cases can m f x true <;> rfl
end Go.L
