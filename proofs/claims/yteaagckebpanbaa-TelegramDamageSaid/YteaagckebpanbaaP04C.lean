/- Reading of whole rows of bytes, as a plain function; what is drawn. -/
import Derived.Test.YteaagckebpanbaaP04B
import Derived.Test.YteaagckebpanbaaPDraw
import Derived.Test.YteaagckebpanbaaAmlQ
namespace Go.L
open Go Go.Aml

theorem step1_k {l : List Int} {k : Nat} {f : Option T_Frame} (h : step1 l = some (k, f)) : 1 ≤ k ∧ 0 < l.length := by
  unfold step1 at h
  split at h
  · cases h
  · split at h
    · injection h with h; injection h with h1 h2; omega
    · split at h
      · cases h
      · split at h
        · injection h with h; injection h with h1 h2; omega
        · injection h with h; injection h with h1 h2; omega

/-- What is left, how many bytes are dropped, and what is read. -/
def feed (l : List Int) : List Int × Nat × List T_Frame :=
  match h : step1 l with
  | none => (l, 0, [])
  | some (k, none) => ((feed (l.drop k)).1, (feed (l.drop k)).2.1 + 1, (feed (l.drop k)).2.2)
  | some (k, some f) => ((feed (l.drop k)).1, (feed (l.drop k)).2.1, f :: (feed (l.drop k)).2.2)
  termination_by l.length
  decreasing_by all_goals (have := step1_k h; simp; omega)
theorem feed_none {l : List Int} (h : step1 l = none) : feed l = (l, 0, []) := by
  unfold feed
  split
  · rfl
  · rename_i h'; rw [h] at h'; cases h'
  · rename_i h'; rw [h] at h'; cases h'
theorem feed_drop {l : List Int} {k : Nat} (h : step1 l = some (k, none)) : feed l = ((feed (l.drop k)).1, (feed (l.drop k)).2.1 + 1, (feed (l.drop k)).2.2) := by
  conv => lhs; unfold feed
  split
  · rename_i h'; rw [h] at h'; cases h'
  · rename_i h'; rw [h] at h'; cases h'; rfl
  · rename_i h'; rw [h] at h'; cases h'
theorem feed_take {l : List Int} {k : Nat} {f : T_Frame} (h : step1 l = some (k, some f)) : feed l = ((feed (l.drop k)).1, (feed (l.drop k)).2.1, f :: (feed (l.drop k)).2.2) := by
  conv => lhs; unfold feed
  split
  · rename_i h'; rw [h] at h'; cases h'
  · rename_i h'; rw [h] at h'; cases h'
  · rename_i h'; rw [h] at h'; cases h'; rfl
/-- A proof along the reading. -/
theorem feed_ind {P : List Int → Prop} (h0 : ∀ l, step1 l = none → P l) (h1 : ∀ l k, step1 l = some (k, none) → P (l.drop k) → P l) (h2 : ∀ l k f, step1 l = some (k, some f) → P (l.drop k) → P l) : ∀ l, P l := by
  intro l
  generalize hm : l.length = m
  induction m using Nat.strongRecOn generalizing l with
  | _ m ih =>
    cases h : step1 l with
    | none => exact h0 l h
    | some p =>
      obtain ⟨k, f⟩ := p
      have := step1_k h
      have hp := ih (l.drop k).length (by simp; omega) (l.drop k) rfl
      cases f with
      | none => exact h1 l k h hp
      | some f => exact h2 l k f h hp

def FrOk (f : T_Frame) : Prop := Bytes f.Data
theorem feed_ok : ∀ l : List Int, Bytes l → Bytes (feed l).1 ∧ (feed l).1.length + (feed l).2.1 + ((feed l).2.2.map fun f => f.Data.length + 6).sum = l.length ∧ (feed l).2.2.length ≤ l.length ∧ ∀ f ∈ (feed l).2.2, FrOk f := by
  refine feed_ind (fun l h hB => ?_) (fun l k h ih hB => ?_) (fun l k f h ih hB => ?_)
  · rw [feed_none h]
    exact ⟨hB, by simp, by simp, by simp⟩
  · rw [feed_drop h]
    obtain ⟨a1, a2, a3, a4⟩ := step1_pos hB h
    obtain ⟨b1, b2, b3, b4⟩ := ih (hB.drop k)
    have hk := a3 rfl
    rw [List.length_drop] at b2 b3
    exact ⟨b1, by dsimp only; omega, by dsimp only; omega, b4⟩
  · rw [feed_take h]
    obtain ⟨a1, a2, a3, a4⟩ := step1_pos hB h
    obtain ⟨b1, b2, b3, b4⟩ := ih (hB.drop k)
    obtain ⟨c1, c2, c3⟩ := a4 f rfl
    rw [List.length_drop] at b2 b3
    refine ⟨b1, ?_, ?_, ?_⟩
    · simp only [List.map_cons, List.sum_cons]; omega
    · simp only [List.length_cons]; omega
    · intro g hg
      rcases List.mem_cons.1 hg with rfl | hg
      · exact c1
      · exact b4 g hg

theorem feed_loop {body : List Int × Int × List T_Frame → Option ((List Int × Int × List T_Frame) ⊕ (List Int × Int × List T_Frame))}
    (hb : ∀ (l : List Int) (d : Int) (out : List T_Frame), Bytes l → l.length ≤ 1000000 → out.length ≤ 1000000 → -9223372036854775808 ≤ d → d < 9223372036854775807 → body (l, d, out) = some (roundR l d out))
    (l : List Int) (d : Int) (out : List T_Frame) (hB : Bytes l) (hs : l.length + out.length ≤ 1000000) (hd0 : -9223372036854775808 ≤ d) (hd1 : d + l.length < 9223372036854775807) :
    loopC body (l, d, out) = some ((feed l).1, d + ((feed l).2.1 : Int), out ++ (feed l).2.2) := by
  refine loop_fun (fun (s : List Int × Int × List T_Frame) => Bytes s.1 ∧ s.1.length + s.2.2.length ≤ 1000000 ∧ -9223372036854775808 ≤ s.2.1 ∧ s.2.1 + s.1.length < 9223372036854775807) (fun (s : List Int × Int × List T_Frame) => s.1.length) (fun (s : List Int × Int × List T_Frame) => ((feed s.1).1, s.2.1 + ((feed s.1).2.1 : Int), s.2.2 ++ (feed s.1).2.2)) ?_ (l, d, out) ⟨hB, hs, hd0, hd1⟩
  rintro ⟨l, d, out⟩ ⟨hB, hs, hd0, hd1⟩
  simp only [] at hB hs hd0 hd1 ⊢
  rw [hb l d out hB (by omega) (by omega) hd0 (by omega)]
  unfold roundR
  cases h : step1 l with
  | none =>
    right
    rw [feed_none h]
    simp
  | some p =>
    obtain ⟨k, f⟩ := p
    left
    obtain ⟨a1, a2, a3, a4⟩ := step1_pos hB h
    cases f with
    | none =>
      have hk := a3 rfl
      refine ⟨_, rfl, ⟨hB.drop k, ?_, ?_, ?_⟩, ?_, ?_⟩
      · simp only [List.length_drop]; omega
      · show _ ≤ d + 1; omega
      · simp only [List.length_drop]; omega
      · simp only [List.length_drop]; omega
      · simp only []
        rw [feed_drop h]
        simp only [Prod.mk.injEq, true_and, and_true]
        omega
    | some f =>
      refine ⟨_, rfl, ⟨hB.drop k, ?_, hd0, ?_⟩, ?_, ?_⟩
      · simp only [List.length_drop, List.length_append, List.length_cons, List.length_nil]; omega
      · simp only [List.length_drop]; omega
      · simp only [List.length_drop]; omega
      · simp only []
        rw [feed_take h]
        simp

/-- What 'Feed' returns. -/
def feedR (r : T_Reader) (b : List Int) : T_Reader × List T_Frame := (⟨(feed (r.Held ++ b)).1, r.Dropped + ((feed (r.Held ++ b)).2.1 : Int)⟩, (feed (r.Held ++ b)).2.2)
theorem tele_feed (r : T_Reader) (b : List Int) (h1 : Bytes r.Held) (h2 : Bytes b) (hs : r.Held.length + b.length ≤ 1000000) (hd0 : -9223372036854775808 ≤ r.Dropped) (hd1 : r.Dropped + 1000000 < 9223372036854775807) : F_telegram_Feed r b = some (feedR r b) := by
  have hB := h1.app h2
  have hf := feed_ok _ hB
  have hl : (r.Held ++ b).length = r.Held.length + b.length := List.length_append
  unfold F_telegram_Feed
  rw [appI_ok (by simp; omega), bind_some, List.nil_append, appI_ok (by omega), bind_some, feed_loop tele_round _ _ _ hB (by simp; omega) hd0 (by omega), bind_some, List.nil_append, appI_ok (by simp; omega), bind_some]
  rfl
theorem ref_feed (r : T_Reader) (b : List Int) (h1 : Bytes r.Held) (h2 : Bytes b) (hs : r.Held.length + b.length ≤ 1000000) (hd0 : -9223372036854775808 ≤ r.Dropped) (hd1 : r.Dropped + 1000000 < 9223372036854775807) : F_ref04_Feed r b = some (feedR r b) := by
  have hB := h1.app h2
  have hf := feed_ok _ hB
  have hl : (r.Held ++ b).length = r.Held.length + b.length := List.length_append
  unfold F_ref04_Feed
  rw [appI_ok (by simp; omega), bind_some, List.nil_append, appI_ok (by omega), bind_some, feed_loop ref_round _ _ _ hB (by simp; omega) hd0 (by omega), bind_some, List.nil_append, appI_ok (by simp; omega), bind_some]
  rfl

/-! ### lists of telegrams compared -/
theorem same_ok (xs ys : List T_Frame) (hx : ∀ f ∈ xs, FrOk f) (hy : ∀ f ∈ ys, FrOk f) (hl : xs.length ≤ 1000000000) : F_ref04_Same xs ys = some (decide (xs = ys)) := by
  unfold F_ref04_Same
  by_cases hlen : xs.length = ys.length
  · rw [bif_neg (by omega)]
    have key : ∀ (k i : Nat), i + k = xs.length → loopC (F_ref04_Same_L1 xs ys) (i : Int) = some (bif decide (xs.drop i = ys.drop i) then Sum.inr () else Sum.inl ()) := by
      intro k
      induction k with
      | zero =>
        intro i hi
        rw [List.drop_of_length_le (by omega), List.drop_of_length_le (by omega), bif_pos rfl]
        exact loopC_inr (by unfold F_ref04_Same_L1; rw [bif_neg (by omega)])
      | succ k ih =>
        intro i hi
        have hix : i < xs.length := by omega
        have hiy : i < ys.length := by omega
        have fx := hx _ (List.getElem_mem hix)
        have fy := hy _ (List.getElem_mem hiy)
        have step : F_ref04_Same_L1 xs ys (i : Int) = some (bif decide (xs[i] = ys[i]) then Sum.inl ((i + 1 : Nat) : Int) else Sum.inr (Sum.inl ())) := by
          unfold F_ref04_Same_L1
          rw [bif_pos (by omega)]
          simp only [getI_nat, List.getElem?_eq_getElem hix, List.getElem?_eq_getElem hiy, bind_some]
          have e : ((bif decide (xs[i].Address ≠ ys[i].Address) then some true else bif decide (xs[i].Kind ≠ ys[i].Kind) then some true else some (!((strOfNums xs[i].Data).toList == (strOfNums ys[i].Data).toList))) : Option Bool) = some (!decide (xs[i] = ys[i])) := by
            rw [str_eq _ _ fx fy]
            by_cases c1 : xs[i].Address = ys[i].Address
            · rw [bif_neg (by simpa using c1)]
              by_cases c2 : xs[i].Kind = ys[i].Kind
              · rw [bif_neg (by simpa using c2)]
                congr 2
                apply decide_eq_decide.2
                constructor
                · intro c3
                  cases hxx : xs[i]; cases hyy : ys[i]
                  simp_all
                · intro h; rw [h]
              · rw [bif_pos c2, decide_eq_false (fun h => c2 (by rw [h]))]; rfl
            · rw [bif_pos c1, decide_eq_false (fun h => c1 (by rw [h]))]; rfl
          rw [e, bind_some]
          by_cases h : xs[i] = ys[i]
          · rw [decide_eq_true h, w64 (by omega) (by omega)]; rfl
          · rw [decide_eq_false h]; rfl
        have hdx : xs.drop i = xs[i] :: xs.drop (i + 1) := List.drop_eq_getElem_cons hix
        have hdy : ys.drop i = ys[i] :: ys.drop (i + 1) := List.drop_eq_getElem_cons hiy
        rw [hdx, hdy]
        by_cases h : xs[i] = ys[i]
        · rw [decide_eq_true h] at step
          rw [loopC_inl step, ih (i + 1) (by omega)]
          congr 2
          exact decide_eq_decide.2 ⟨fun e => by rw [h, e], fun e => (List.cons.inj e).2⟩
        · rw [decide_eq_false h] at step
          rw [loopC_inr step, bif_neg (fun e => h (List.cons.inj e).1)]
    have := key xs.length 0 (by omega)
    rw [show ((0 : Nat) : Int) = 0 from rfl] at this
    rw [this, bind_some, List.drop_zero, List.drop_zero]
    by_cases h : xs = ys
    · rw [decide_eq_true h]; rfl
    · rw [decide_eq_false h]; rfl
  · rw [bif_pos (by omega), decide_eq_false (fun h => hlen (by rw [h]))]

/-! ### what is drawn -/
theorem frame_ok (c : T_draw_Codes) (hc : CodesOk c) : Ok (F_draw_Codes_Frame c) fun r => CodesOk r.1 ∧ FrOk r.2 ∧ ¬ BadHead r.2 ∧ r.2.Data.length ≤ 2 := by
  unfold F_draw_Codes_Frame
  refine ok_bind (next_lt c 6 hc (by decide)) fun x1 h1 => ?_
  refine ok_bind (next_lt _ 2 h1.1 (by decide)) fun x3 h3 => ?_
  refine ok_bind (next_lt _ 256 h3.1 (by decide)) fun x5 h5 => ?_
  refine ok_bind (next_lt _ 8 h5.1 (by decide)) fun x7 h7 => ?_
  have two : Bytes [IntKind.u8.wrap x3.2, IntKind.u8.wrap x5.2] := Bytes.cons (Bytes.wrap _) (Bytes.cons (Bytes.wrap _) Bytes.nil)
  refine ok_bind (Q := fun o => CodesOk o.2 ∧ FrOk o.1 ∧ ¬ BadHead o.1 ∧ o.1.Data.length ≤ 2) ?_ fun o ho => ok_some ho
  refine ok_dec (fun _ => ok_some ⟨h7.1, Bytes.nil, ?_, by simp⟩) (fun _ => ?_)
  · unfold BadHead; simp only []; omega
  refine ok_dec (fun _ => ?_) (fun _ => ?_)
  · refine ok_bind (next_lt _ 4 h7.1 (by decide)) fun x12 h12 => ok_some ⟨h12.1, two, ?_, by simp⟩
    unfold BadHead; simp only []; omega
  refine ok_dec (fun _ => ?_) (fun _ => ?_)
  · refine ok_bind (next_lt _ 3 h7.1 (by decide)) fun x15 h15 => ?_
    refine ok_bind (ok_sliI (by decide) h15.2.1 (by simp; omega)) fun x17 h17 => ok_some ⟨h15.1, ?_, ?_, ?_⟩
    · subst h17; exact (two.take _).drop _
    · unfold BadHead; simp only []; omega
    · subst h17; simp only [List.length_drop, List.length_take, List.length_cons, List.length_nil]; omega
  · exact ok_some ⟨h7.1, two, by unfold BadHead; simp only []; omega, by simp⟩

theorem xor_u8 (a b : Int) : 0 ≤ bits .xor .u8 a b ∧ bits .xor .u8 a b ≤ 255 := by
  show 0 ≤ IntKind.u8.wrap _ ∧ IntKind.u8.wrap _ ≤ 255
  exact Bytes.wrap _

/-- The bytes of at most so many telegrams. -/
theorem bytes_loop (n : Nat) : ∀ (s : Int × List Int × T_draw_Codes), s.1 = (n : Int) → Bytes s.2.1 → s.2.1.length + n * 100 ≤ 100000 → CodesOk s.2.2 → Ok (loopC F_draw_Codes_Bytes_L1 s) fun r => Bytes r.1 ∧ r.1.length ≤ s.2.1.length + n * 100 ∧ CodesOk r.2 := by
  induction n with
  | zero =>
    rintro ⟨k, out, c⟩ hk hB hl hc
    simp only [] at hk hB hl hc
    refine ⟨(out, c), loopC_inr ?_, hB, by simp, hc⟩
    unfold F_draw_Codes_Bytes_L1
    simp only []
    rw [bif_neg (by omega)]
  | succ n ih =>
    rintro ⟨k, out, c⟩ hk hB hl hc
    simp only [] at hk hB hl hc
    have step : Ok (F_draw_Codes_Bytes_L1 (k, out, c)) fun o => ∃ s, o = Sum.inl s ∧ s.1 = (n : Int) ∧ Bytes s.2.1 ∧ s.2.1.length ≤ out.length + 100 ∧ CodesOk s.2.2 := by
      unfold F_draw_Codes_Bytes_L1
      simp only []
      rw [bif_pos (by omega)]
      refine ok_bind (frame_ok c hc) fun x6 h6 => ?_
      have hw : wres x6.2 = (wbytes x6.2, 0) := by
        unfold wres
        rw [if_neg h6.2.2.1, if_neg (by omega)]
      have hwb := wres_bytes x6.2 h6.2.1
      rw [ref_write _ h6.2.1, bind_some, hw]
      rw [hw] at hwb
      simp only [] at hwb ⊢
      have hlen : 1 ≤ (wbytes x6.2).length := by unfold wbytes hdr; simp
      refine ok_bind (next_lt _ 6 h6.1 (by decide)) fun x10 h10 => ?_
      refine ok_bind (Q := fun o => Bytes o.1 ∧ o.1.length ≤ 70 ∧ Bytes o.2.1 ∧ o.2.1.length ≤ out.length + 2 ∧ CodesOk o.2.2) ?_ fun o ho => ?_
      · refine ok_dec (fun _ => ?_) (fun _ => ?_)
        · refine ok_bind (next_lt _ _ h10.1 (by omega)) fun x14 h14 => ?_
          refine ok_bind (ok_getI h14.2.1 h14.2.2) fun x16 h16 => ?_
          refine ok_bind (next_lt _ 8 h14.1 (by decide)) fun x18 h18 => ?_
          rw [wu64 (by omega) (by omega), shlI_ok h18.2.1, bind_some]
          refine ok_bind (ok_getI h14.2.1 h14.2.2) fun x22 h22 => ok_some ⟨hwb.1.set _ (xor_u8 _ _), ?_, hB, ?_, h18.1⟩
          · rw [List.length_set]; exact hwb.2
          · show out.length ≤ _; omega
        refine ok_dec (fun _ => ?_) (fun _ => ?_)
        · rw [w64 (by omega) (by omega)]
          refine ok_bind (next_lt _ _ h10.1 (by omega)) fun x25 h25 => ?_
          refine ok_bind (ok_sliI (by decide) h25.2.1 (by omega)) fun x27 h27 => ok_some ⟨?_, ?_, hB, ?_, h25.1⟩
          · subst h27; exact (hwb.1.take _).drop _
          · subst h27; simp only [List.length_drop, List.length_take]; omega
          · show out.length ≤ _; omega
        refine ok_dec (fun _ => ?_) (fun _ => ?_)
        · refine ok_bind (next_lt _ 256 h10.1 (by decide)) fun x30 h30 => ?_
          rw [appI_ok (by simp; omega), bind_some]
          refine ok_some ⟨hwb.1, hwb.2, hB.app (Bytes.cons (Bytes.wrap _) (Bytes.cons ⟨by decide, by decide⟩ Bytes.nil)), ?_, h30.1⟩
          simp
        · exact ok_some ⟨hwb.1, hwb.2, hB, by show out.length ≤ _; omega, h10.1⟩
      · rw [appI_ok (by omega), bind_some, w64 (by omega) (by omega)]
        refine ok_some ⟨_, rfl, ?_, ho.2.2.1.app ho.1, ?_, ho.2.2.2.2⟩
        · show k - 1 = _; omega
        · simp only [List.length_append]; omega
    obtain ⟨o, h1, s, rfl, h2, h3, h4, h5⟩ := step
    rw [loopC_inl h1]
    refine ok_mono (ih s h2 h3 (by omega) h5) fun r hr => ⟨hr.1, ?_, hr.2.2⟩
    have := hr.2.1
    simp only [] at this ⊢
    omega
theorem bytes_ok (c : T_draw_Codes) (m : Int) (hc : CodesOk c) (h0 : 0 ≤ m) (h1 : m ≤ 100) : Ok (F_draw_Codes_Bytes c m) fun r => CodesOk r.1 ∧ Bytes r.2 ∧ r.2.length ≤ 10000 := by
  unfold F_draw_Codes_Bytes
  rw [w64 (by omega) (by omega)]
  refine ok_bind (next_lt c (m + 1) hc (by omega)) fun x1 hx1 => ?_
  obtain ⟨n, hn⟩ : ∃ n : Nat, x1.2 = (n : Int) := ⟨x1.2.toNat, by omega⟩
  refine ok_bind (bytes_loop n (x1.2, [], x1.1) hn Bytes.nil (by simp; omega) hx1.1) fun o ho => ok_some ⟨ho.2.2, ho.1, ?_⟩
  have := ho.2.1
  simp at this
  show o.1.length ≤ _
  omega
end Go.L
