/- The abstract memory logic, part EE: copies within rows whose elements have several cells; what is put into a row, and taken out of it. -/
import Derived.Test.YtnhdamflfebofaaAmlED
import Derived.Lib.Overlaps
import Derived.Lib.AppendZerosOnto
import Derived.Deep.RegionLaw
import Derived.WalkKit
import Derived.Lib.Walk
import Derived.Lib.AppendZeros
import Derived.Laws.Externs
import Derived.Laws.NewBlocks
namespace Go.Aml
open Go Go.RowKit

section
variable {P : Program}

theorem run_copy_cellsK (w : World) (dT sT ty elem : TypeId) (k b o dLen dCap : Nat) (a : Addr) (sLen sCap m : Nat) (cs : List Value)
    (hu : P.underlying dT = some (.slice elem)) (hs : tSize P elem = some k) (hm : Nat.min sLen dLen = m) (hn : cs.length = m * k)
    (hsrc : ∀ j v, cs[j]? = some v → w.cell? (a.add j) = some v) (hc : ∀ j, j < cs.length → (w.cell? ⟨b, o + j, none⟩).isSome = true) (hf : ∀ j, j < cs.length → w.frozen? ⟨b, o + j, none⟩ = false) (h1 : ∀ v ∈ cs, v.oneCell' = true) :
    (Builtin.copy_ #[dT, sT] ty #[.slice (some ⟨b, o, none⟩) dLen dCap, .slice (some a) sLen sCap]).run P w = .ok (goInt m) (w.setCells b o cs) := by
  have hl := run_loadCells_list (P := P) w a cs hsrc
  have hst := run_storeCells_cells (P := P) b o cs 0 w (by simpa using hc) (by simpa using hf) h1
  rw [hn] at hl
  cases hq : P.info? elem with
  | none => simp [tSize, hq] at hs
  | some i =>
    have hi : i.size = k := by simpa [tSize, hq] using hs
    simp [Builtin.copy_, run_underlying hu, Builtin.lenOf, Builtin.firstCells, sizeOf, typeInfo, hq, hi, hm, hl, hst]

theorem run_clear_sliceK (w : World) (t e ty : TypeId) (z : Value) (k : Nat) (ht : P.underlying t = some (.slice e)) (hv : ∀ w, (zeroValue e).run P w = .ok z w) (hz : z.cells.size = k) (h1 : ∀ u ∈ z.cells.toList, u.oneCell' = true) (b o n c : Nat) (hn : 0 < n)
    (hc : ∀ j, j < n * k → (w.cell? ⟨b, o + j, none⟩).isSome = true) (hf : ∀ j, j < n * k → w.frozen? ⟨b, o + j, none⟩ = false) :
    (Builtin.clear_ #[t] ty #[.slice (some ⟨b, o, none⟩) n c]).run P w = .ok (.tuple #[]) (w.setCells b o (Builtin.zeroCells z.cells n).toList) := by
  have hl : (Builtin.zeroCells z.cells n).toList.length = n * k := by
    rw [Array.length_toList, size_zeroCells, hz]
  have h1' : ∀ u ∈ (Builtin.zeroCells z.cells n).toList, u.oneCell' = true := by
    intro u hu
    obtain ⟨i, hi, rfl⟩ := List.getElem_of_mem hu
    have hk : 0 < z.cells.size := by
      rcases Nat.eq_zero_or_pos z.cells.size with h0 | h0
      · rw [hl, ← hz, h0] at hi; simp at hi
      · exact h0
    have hm : i % z.cells.size < z.cells.size := Nat.mod_lt _ hk
    have e : (Builtin.zeroCells z.cells n).toList[i] = z.cells[i % z.cells.size] := by
      simp [Builtin.zeroCells, getElem!_pos z.cells (i % z.cells.size) hm]
    rw [e]
    exact h1 _ (by simp)
  have hst := run_storeCells_cells (P := P) b o (Builtin.zeroCells z.cells n).toList 0 w (by rw [hl]; simpa using hc) (by rw [hl]; simpa using hf) h1'
  simp only [Nat.add_zero] at hst
  obtain ⟨m, rfl⟩ : ∃ m, n = m + 1 := ⟨n - 1, by omega⟩
  simp [Builtin.clear_, run_underlying ht, hv, hst]

theorem isSome_setCellsK (b : Nat) (vs : List Value) (o : Nat) (w : World) (h : ∀ j, j < vs.length → (w.cell? ⟨b, o + j, none⟩).isSome = true) (k : Nat) (hk : (w.cell? ⟨b, k, none⟩).isSome = true) : ((w.setCells b o vs).cell? ⟨b, k, none⟩).isSome = true := by
  by_cases hin : o ≤ k ∧ k < o + vs.length
  · have := World.cell?_setCells_in b vs o w h (k - o) (by omega)
    rw [show o + (k - o) = k by omega] at this
    rw [this]; rfl
  · rw [World.cell?_setCells_out b vs o w ⟨b, k, none⟩ (fun _ _ => by show k < o ∨ o + vs.length ≤ k; omega)]
    exact hk

theorem setCell_heap {w : World} {b o : Nat} {v : Value} {cells : Array Value} {t : TypeId} {fr : Nat × Nat} (h : w.heap[b]? = some (.cells cells t fr)) :
    ∃ cells', (w.setCell ⟨b, o, none⟩ v).heap[b]? = some (.cells cells' t fr) ∧ cells'.size = cells.size := by
  refine ⟨cells.setIfInBounds o v, ?_, by simp⟩
  unfold World.setCell
  dsimp only
  rw [Array.getElem?_modify, if_pos rfl, h]
  rfl
theorem setCells_heap {b : Nat} {t : TypeId} {fr : Nat × Nat} : ∀ (vs : List Value) (o : Nat) (w : World) (cells : Array Value), w.heap[b]? = some (.cells cells t fr) →
    ∃ cells', (w.setCells b o vs).heap[b]? = some (.cells cells' t fr) ∧ cells'.size = cells.size
  | [], _, _, cells, h => ⟨cells, h, rfl⟩
  | v :: r, o, w, cells, h => by
    obtain ⟨c1, h1, e1⟩ := setCell_heap (o := o) (v := v) h
    obtain ⟨c2, h2, e2⟩ := setCells_heap r (o + 1) _ c1 h1
    exact ⟨c2, h2, e2.trans e1⟩
theorem setCells_other {b : Nat} : ∀ (vs : List Value) (o : Nat) (w : World) (x : Nat), x ≠ b → (w.setCells b o vs).heap[x]? = w.heap[x]?
  | [], _, _, _, _ => rfl
  | v :: r, o, w, x, h => by
    rw [World.setCells, setCells_other r (o + 1) _ x h]
    exact Below.heap_setCell w ⟨b, o, none⟩ v x (by simpa using h)
theorem setCells_flat (b : Nat) : ∀ (vs : List Value) (o : Nat) (w : World), (w.setCells b o vs).os = w.os ∧ (w.setCells b o vs).tape = w.tape ∧ (w.setCells b o vs).output = w.output ∧ (w.setCells b o vs).heap.size = w.heap.size
  | [], _, _ => ⟨rfl, rfl, rfl, rfl⟩
  | v :: r, o, w => by
    obtain ⟨h1, h2, h3, h4⟩ := setCells_flat b r (o + 1) (w.setCell ⟨b, o, none⟩ v)
    exact ⟨h1, h2, h3, h4.trans (by simp [World.setCell])⟩
theorem cells_set {w : World} {b o : Nat} {us vs : List Value} (hus : ∀ j u, us[j]? = some u → w.cell? ⟨b, j, none⟩ = some u) (ho : o ≤ us.length) (hs : ∀ j, j < vs.length → (w.cell? ⟨b, o + j, none⟩).isSome = true) :
    ∀ j u, (us.take o ++ vs ++ us.drop (o + vs.length))[j]? = some u → (w.setCells b o vs).cell? ⟨b, j, none⟩ = some u := by
  intro j u hj
  have ht : (us.take o).length = o := by simp; omega
  by_cases h1 : j < o
  · rw [List.append_assoc, List.getElem?_append_left (by omega), List.getElem?_take_of_lt h1] at hj
    rw [World.cell?_setCells_out b vs o w _ (fun _ _ => .inl h1)]
    exact hus j u hj
  · by_cases h2 : j < o + vs.length
    · rw [List.getElem?_append_left (by simp; omega), List.getElem?_append_right (by omega), ht] at hj
      obtain ⟨hlt, rfl⟩ := List.getElem?_eq_some_iff.1 hj
      have := World.cell?_setCells_in b vs o w hs (j - o) hlt
      rw [show o + (j - o) = j by omega] at this
      exact this
    · have hl : (us.take o ++ vs).length = o + vs.length := by rw [List.length_append, ht]
      rw [List.getElem?_append_right (by omega), hl, List.getElem?_drop, show o + vs.length + (j - (o + vs.length)) = j by omega] at hj
      rw [World.cell?_setCells_out b vs o w _ (fun _ _ => .inr (by show o + vs.length ≤ j; omega))]
      exact hus j u hj
theorem cell_of_heap {w : World} {b j : Nat} {cells : Array Value} {t : TypeId} {fr : Nat × Nat} (h : w.heap[b]? = some (.cells cells t fr)) : w.cell? ⟨b, j, none⟩ = cells[j]? := by
  unfold World.cell?
  rw [h]
  rfl
theorem frozen_of_heap {w : World} {b j : Nat} {cells : Array Value} {t : TypeId} (h : w.heap[b]? = some (.cells cells t (0, 0))) : w.frozen? ⟨b, j, none⟩ = false := by
  unfold World.frozen?
  rw [h]
  simp
theorem shape_of_heap {w : World} {b : Nat} {cells : Array Value} {t : TypeId} (h : w.heap[b]? = some (.cells cells t (0, 0))) : w.shape? b = some (t, cells.size) := by
  unfold World.shape?
  rw [h]

structure RowPost (E k : Nat) (w w' : World) (b C B C' : Nat) (us : List Value) : Prop where
  os : w'.os = w.os
  tape : w'.tape = w.tape
  output : w'.output = w.output
  size : w.heap.size ≤ w'.heap.size
  others : ∀ x, x < w.heap.size → x ≠ b → w'.heap[x]? = w.heap[x]?
  place : (B = b ∧ C' = C) ∨ w.heap.size ≤ B
  block : ∃ cells, w'.heap[B]? = some (.cells cells E (0, 0)) ∧ cells.size = C' * k
  room : C' ≤ maxLen
  fits : us.length ≤ C' * k
  holds : ∀ j u, us[j]? = some u → w'.cell? ⟨B, j, none⟩ = some u

theorem RowPost.set {E k : Nat} {w w1 : World} {b C B C' o : Nat} {us vs : List Value} (h : RowPost E k w w1 b C B C' us) (ho : o ≤ us.length) (hfit : o + vs.length ≤ C' * k) (hl : (us.take o ++ vs ++ us.drop (o + vs.length)).length ≤ C' * k) :
    RowPost E k w (w1.setCells B o vs) b C B C' (us.take o ++ vs ++ us.drop (o + vs.length)) := by
  obtain ⟨cells, hB, hS⟩ := h.block
  have hsome : ∀ j, j < vs.length → (w1.cell? ⟨B, o + j, none⟩).isSome = true := fun j hj => by
    rw [cell_of_heap hB, Array.getElem?_eq_getElem (by omega)]
    rfl
  obtain ⟨f1, f2, f3, f4⟩ := setCells_flat B vs o w1
  obtain ⟨cells', hB', hS'⟩ := setCells_heap vs o w1 cells hB
  refine ⟨f1.trans h.os, f2.trans h.tape, f3.trans h.output, by rw [f4]; exact h.size, fun x hx hne => ?_, h.place, ⟨cells', hB', hS'.trans hS⟩, h.room, hl, cells_set h.holds ho hsome⟩
  rw [setCells_other vs o w1 x (by rcases h.place with ⟨p, _⟩ | p; rw [p]; exact hne; omega)]
  exact h.others x hx hne
theorem RowPost.drew {E k : Nat} {w w1 : World} {b C B C' : Nat} {us : List Value} (h : RowPost E k w w1 b C B C' us) : RowPost E k w w1.drew b C B C' us := ⟨h.os, h.tape, h.output, h.size, h.others, h.place, h.block, h.room, h.fits, h.holds⟩
theorem rowPost_start {E k : Nat} {w : World} {b C m : Nat} {cells : Array Value} (h : w.heap[b]? = some (.cells cells E (0, 0))) (hs : cells.size = C * k) (hC : C ≤ maxLen) (hm : m ≤ C * k) : RowPost E k w w b C b C (cells.toList.take m) := by
  refine ⟨rfl, rfl, rfl, Nat.le_refl _, fun _ _ _ => rfl, .inl ⟨rfl, rfl⟩, ⟨cells, h, hs⟩, hC, by rw [List.length_take]; omega, fun j u hj => ?_⟩
  rw [cell_of_heap h, ← Array.getElem?_toList]
  rw [List.getElem?_take] at hj
  split at hj
  · exact hj
  · cases hj
theorem rowPost_new {E k : Nat} {w : World} {b C G m : Nat} {row : Array Value} (hs : row.size = G * k) (hC : G ≤ maxLen) (hm : m ≤ G * k) : RowPost E k w (w.alloc (.cells row E)) b C w.heap.size G (row.toList.take m) := by
  refine ⟨rfl, rfl, rfl, by simp, fun x hx _ => Below.heap_alloc w _ x hx, .inr (Nat.le_refl _), ⟨row, heap_alloc_new w _, hs⟩, hC, by rw [List.length_take]; omega, fun j u hj => ?_⟩
  rw [cell_of_heap (heap_alloc_new w _), ← Array.getElem?_toList]
  rw [List.getElem?_take] at hj
  split at hj
  · exact hj
  · cases hj
theorem ins_list1 {α : Type} {cs vs : List α} {a c : Nat} (ha : a + c ≤ cs.length) (hv : vs.length = c) :
    (cs.take (a + c) ++ cs.drop a ++ cs.drop (a + c + (cs.drop a).length)).take a ++ vs ++ (cs.take (a + c) ++ cs.drop a ++ cs.drop (a + c + (cs.drop a).length)).drop (a + vs.length) = cs.take a ++ vs ++ cs.drop a := by
  have h0 : cs.drop (a + c + (cs.drop a).length) = [] := List.drop_eq_nil_of_le (by rw [List.length_drop]; omega)
  have hl : (cs.take (a + c)).length = a + c := by rw [List.length_take]; omega
  rw [h0, List.append_nil, hv, List.take_append_of_le_length (by omega), List.take_take, Nat.min_eq_left (by omega), List.drop_left' hl]
theorem ins_list2 {α : Type} {us cs vs : List α} {a c : Nat} (ha : a ≤ cs.length) (hv : vs.length = c) (hu : us.length = cs.length + c) (ht : us.take a = cs.take a) :
    (us.take a ++ vs ++ us.drop (a + vs.length)).take (a + c) ++ cs.drop a ++ (us.take a ++ vs ++ us.drop (a + vs.length)).drop (a + c + (cs.drop a).length) = cs.take a ++ vs ++ cs.drop a := by
  have hl : (us.take a ++ vs).length = a + c := by rw [List.length_append, List.length_take, hv]; omega
  have h0 : (us.take a ++ vs ++ us.drop (a + vs.length)).drop (a + c + (cs.drop a).length) = [] := List.drop_eq_nil_of_le (by rw [List.length_append, hl, List.length_drop, List.length_drop]; omega)
  rw [h0, List.append_nil, List.take_left' hl, ht]

def KInsert (P : Program) (f : FuncId) (E k by_ : Nat) : Prop :=
  ∀ (w : World) (b n C i vb vC : Nat) (cells vcells : Array Value), b ≠ vb → w.heap[b]? = some (.cells cells E (0, 0)) → cells.size = C * k → w.heap[vb]? = some (.cells vcells E (0, 0)) → vcells.size = vC * k → 1 ≤ vC → i < n → n ≤ C → C ≤ maxLen → vC ≤ maxLen → (n + 1) * by_ ≤ 140737488355328 → (n + 1) * k ≤ 140737488355328 →
    (∀ u ∈ cells.toList.take (n * k), u.oneCell' = true) → (∀ u ∈ vcells.toList.take k, u.oneCell' = true) →
    Calls P f #[.slice (some ⟨b, 0, none⟩) n C, .int .i64 i, .slice (some ⟨vb, 0, none⟩) 1 vC] w fun e w' => ∃ B C', e = .returned (.slice (some ⟨B, 0, none⟩) (n + 1) C') ∧
      RowPost E k w w' b C B C' ((cells.toList.take (n * k)).take (i * k) ++ vcells.toList.take k ++ (cells.toList.take (n * k)).drop (i * k))
def KDelete (P : Program) (f : FuncId) (E k : Nat) : Prop :=
  ∀ (w : World) (b n C i : Nat) (cells : Array Value), w.heap[b]? = some (.cells cells E (0, 0)) → cells.size = C * k → i < n → n ≤ C → C ≤ maxLen →
    (∀ u ∈ cells.toList.take (n * k), u.oneCell' = true) →
    Calls P f #[.slice (some ⟨b, 0, none⟩) n C, .int .i64 i, .int .i64 ((i : Int) + 1)] w fun e w' => e = .returned (.slice (some ⟨b, 0, none⟩) (n - 1) C) ∧
      RowPost E k w w' b C b C ((cells.toList.take (n * k)).take (i * k) ++ (cells.toList.take (n * k)).drop ((i + 1) * k))
end

section
variable {g : Gh} {H : List AObj} {w : World}
theorem CellsR.take {sz : Nat} {es : List PV} {us : List Value} (h : CellsR g H w sz es us) (hw : ∀ e, e ∈ es → e.cells.length = sz) (m : Nat) (hm : m ≤ es.length) : CellsR g H w sz (es.take m) (us.take (m * sz)) := by
  refine ⟨?_, fun i j c hc => ?_⟩
  · rw [List.length_take, List.length_take, h.1, Nat.min_eq_left hm, Nat.min_eq_left (Nat.mul_le_mul_right _ hm)]
  · obtain ⟨e, he, hj⟩ := cells_lt hc
    have hi := (List.getElem?_eq_some_iff.1 he).1
    rw [List.length_take] at hi
    have hi : i < m ∧ i < es.length := by omega
    have hc' : cellOf es i j = some c := by
      unfold cellOf at hc ⊢
      rwa [List.getElem?_take_of_lt hi.1] at hc
    rw [List.getElem?_take_of_lt hi.1] at he
    have hwe := hw e (List.mem_of_getElem? he)
    obtain ⟨u, h1, h2, h3⟩ := h.2 i j c hc'
    refine ⟨u, ?_, h2, h3⟩
    have : (i + 1) * sz ≤ m * sz := Nat.mul_le_mul_right _ hi.1
    rw [Nat.add_mul, Nat.one_mul] at this
    rw [List.getElem?_take_of_lt (by omega)]
    exact h1
theorem CellsR.drop {sz : Nat} {es : List PV} {us : List Value} (h : CellsR g H w sz es us) (m : Nat) : CellsR g H w sz (es.drop m) (us.drop (m * sz)) := by
  refine ⟨?_, fun i j c hc => ?_⟩
  · rw [List.length_drop, List.length_drop, h.1, Nat.sub_mul]
  · have hc' : cellOf es (m + i) j = some c := by
      unfold cellOf at hc ⊢
      rwa [List.getElem?_drop] at hc
    obtain ⟨u, h1, h2, h3⟩ := h.2 _ j c hc'
    refine ⟨u, ?_, h2, h3⟩
    rw [List.getElem?_drop, ← Nat.add_assoc, ← Nat.add_mul]
    exact h1
theorem CellsR.app {sz : Nat} {es fs : List PV} {us vs : List Value} (h : CellsR g H w sz es us) (h' : CellsR g H w sz fs vs) (hw : ∀ e, e ∈ es → e.cells.length = sz) : CellsR g H w sz (es ++ fs) (us ++ vs) := by
  refine ⟨by rw [List.length_append, List.length_append, h.1, h'.1, Nat.add_mul], fun i j c hc => ?_⟩
  by_cases hi : i < es.length
  · have hc' : cellOf es i j = some c := by
      unfold cellOf at hc ⊢
      rwa [List.getElem?_append_left hi] at hc
    obtain ⟨u, h1, h2, h3⟩ := h.2 i j c hc'
    exact ⟨u, by rw [List.getElem?_append_left (List.getElem?_eq_some_iff.1 h1).1]; exact h1, h2, h3⟩
  · have hc' : cellOf fs (i - es.length) j = some c := by
      unfold cellOf at hc ⊢
      rwa [List.getElem?_append_right (by omega)] at hc
    obtain ⟨u, h1, h2, h3⟩ := h'.2 _ j c hc'
    refine ⟨u, ?_, h2, h3⟩
    have e : i * sz = es.length * sz + (i - es.length) * sz := by rw [← Nat.add_mul]; congr 1; omega
    rw [List.getElem?_append_right (by rw [h.1, e]; omega), h.1, e, show es.length * sz + (i - es.length) * sz + j - es.length * sz = (i - es.length) * sz + j by omega]
    exact h1
theorem ObjR.row {n : Nat} {r b C : Nat} {o : AObj} (hm : RelM g n H w) (ho : H[r]? = some o) (hb : g.β r = some (b, C)) :
    ∃ cells, w.heap[b]? = some (.cells cells o.ty (0, 0)) ∧ cells.size = C * o.sz ∧ C ≤ maxLen ∧ o.es.length ≤ C ∧ CellsR g H w o.sz o.es (cells.toList.take (o.es.length * o.sz)) ∧ ∀ u ∈ cells.toList.take (o.es.length * o.sz), u.oneCell' = true := by
  obtain ⟨a1, a2, a3⟩ := hm.obj r o ho
  rw [hb] at a3
  obtain ⟨_, cells, h1, h2, h3, h4, h5⟩ := a3
  have hlen : (cells.toList.take (o.es.length * o.sz)).length = o.es.length * o.sz := by
    rw [List.length_take, Array.length_toList, h2, Nat.min_eq_left (Nat.mul_le_mul_right _ h4)]
  have hC : CellsR g H w o.sz o.es (cells.toList.take (o.es.length * o.sz)) := by
    refine ⟨hlen, fun i j c hc => ?_⟩
    obtain ⟨u, q1, q2, q3⟩ := h5 i j c hc
    refine ⟨u, ?_, q2, q3⟩
    obtain ⟨e, he, hj⟩ := cells_lt hc
    have hwe := a2 i e he
    have hi := (List.getElem?_eq_some_iff.1 he).1
    have : (i + 1) * o.sz ≤ o.es.length * o.sz := Nat.mul_le_mul_right _ hi
    rw [Nat.add_mul, Nat.one_mul] at this
    rw [List.getElem?_take_of_lt (by omega), Array.getElem?_toList]
    exact q1
  exact ⟨cells, h1, h2, h3, h4, hC, hC.one a1 a2⟩
end

theorem row_post {P : Program} {g : Gh} {low : List AObj} {w w' : World} {q b C B C' E k v : Nat} {es es' : List PV} {us : List Value} (hm : RelM g low.length low w) (ho : low[q]? = some ⟨E, k, es, v⟩) (hb : g.β q = some (b, C)) (hk : 0 < k)
    (h : RowPost E k w w' b C B C' us) (hc : CellsR g low w k es' us) (hw : ∀ e, e ∈ es' → e.cells.length = k) (hp : ∀ e, e ∈ es' → LtN 0 e) (hl : es'.length ≤ C') :
    GStep low.length g low w (g.push q (some (B, C'))) (low.set q ⟨E, k, es', v + 1⟩) w' ∧ RelM (g.push q (some (B, C'))) low.length (low.set q ⟨E, k, es', v + 1⟩) w' ∧
      VR (g.push q (some (B, C'))) (low.set q ⟨E, k, es', v + 1⟩) w' (.sl q (v + 1) 0 es'.length) (.slice (some ⟨B, 0, none⟩) es'.length C') := by
  have hlt : q < low.length := (List.getElem?_eq_some_iff.1 ho).1
  obtain ⟨cells, hB, hS⟩ := h.block
  have hs := hm.set (r := q) (o' := ⟨E, k, es', v + 1⟩) (p := some (B, C')) ho h.os h.tape h.output h.size
    (fun x hx hne => h.others x hx (fun e => hne C (by rw [e]; exact hb))) (Nat.le_succ v) (fun e => absurd e (by show v + 1 ≠ v; omega))
    (fun b' C1 e => by
      injection e with e
      injection e with e1 e2
      rcases h.place with ⟨p1, p2⟩ | p
      · exact .inl ⟨C, by rw [← e1, p1]; exact hb⟩
      · exact .inr (by omega))
    hk (fun i e he => hw e (List.mem_of_getElem? he))
    ⟨cells, hB, hS, h.room, hl, fun i j c hcc => by
      obtain ⟨u, q1, q2, q3⟩ := hc.2 i j c hcc
      have := h.holds _ _ q1
      rw [cell_of_heap hB] at this
      exact ⟨u, this, q2, q3⟩⟩ (fun _ e he => (hp e he).mono (Nat.zero_le _))
  refine ⟨hs.1, hs.2, .sl q (v + 1) 0 es'.length ⟨E, k, es', v + 1⟩ _ (by simp [hlt]) (Nat.le_refl _) rfl fun _ => ?_⟩
  refine ⟨by simp, ?_⟩
  rw [Gh.push_same]
  exact ⟨C', _, rfl, hl, fun _ => by simp, fun _ => ⟨rfl, rfl⟩⟩

theorem sl_somewhere {g : Gh} {low : List AObj} {w : World} {q v : Nat} {o : AObj} {x : Value} {len : Nat} (hm : RelM g low.length low w) (h : VR g low w (.sl q v 0 len) x) (ho : low[q]? = some o) (hv : o.ver = v) (hl : len = o.es.length) (h0 : 0 < len) :
    ∃ b C, g.β q = some (b, C) ∧ x = .slice (some ⟨b, 0, none⟩) len C := by
  have hs : SL g o q 0 len x := by
    cases h with
    | imm h => cases h
    | sl _ _ _ _ o' _ ho' hv' h1 hx =>
      rw [ho] at ho'
      injection ho' with ho'
      subst ho'
      exact hx hv.symm
  obtain ⟨h1, h2⟩ := hs
  cases hb : g.β q with
  | none => rw [hb] at h2; omega
  | some bc =>
    obtain ⟨b, C⟩ := bc
    rw [hb] at h2
    obtain ⟨cap, a, e, _, _, h3⟩ := h2
    obtain ⟨rfl, rfl⟩ := h3 rfl
    exact ⟨b, cap, rfl, e⟩

theorem vcalls_insert {P : Program} {f : FuncId} {E k by_ : Nat} (hK : KInsert P f E k by_) (hk : 0 < k) {low : List AObj} {q0 q1 w0 w1 : Nat} (hne : q0 ≠ q1) {es : List PV} {e : PV} {i : Nat} (hi : i < es.length)
    (h0 : low[q0]? = some ⟨E, k, es, w0⟩) (h1 : low[q1]? = some ⟨E, k, [e], w1⟩) (hp : ∀ e, e ∈ es → LtN 0 e) (hpe : LtN 0 e) (hb1 : (es.length + 1) * by_ ≤ 140737488355328) (hb2 : (es.length + 1) * k ≤ 140737488355328) {m0 m1 : Nat} (hm0 : m0 = es.length) (hm1 : m1 = 1) :
    VCalls P f [.sl q0 w0 0 m0, .int .i64 i, .sl q1 w1 0 m1] low fun x low' => x = .sl q0 (w0 + 1) 0 (es.length + 1) ∧ low' = low.set q0 ⟨E, k, es.take i ++ [e] ++ es.drop i, w0 + 1⟩ := by
  subst hm0 hm1
  intro g xs w hm ha
  obtain ⟨hl, ha⟩ := ha
  match xs, hl with
  | [x0, x1, x2], _ =>
  have v0 := ha 0 _ _ rfl rfl
  have v1 := ha 1 _ _ rfl rfl
  have v2 := ha 2 _ _ rfl rfl
  obtain ⟨b, C, hb, rfl⟩ := sl_somewhere hm v0 h0 rfl rfl (by omega)
  obtain ⟨vb, vC, hvb, rfl⟩ := sl_somewhere hm v2 h1 rfl rfl (by decide)
  have e1 : x1 = .int .i64 (i : Int) := by cases v1 with | imm h => exact vi_int h
  subst e1
  obtain ⟨cells, c1, c2, c3, c4, c5, c6⟩ := ObjR.row hm h0 hb
  obtain ⟨vcells, d1, d2, d3, d4, d5, d6⟩ := ObjR.row hm h1 hvb
  dsimp only at c1 c2 c3 c4 c5 c6 d1 d2 d3 d4 d5 d6
  rw [show [e].length * k = k by simp] at d5 d6
  have hw : ∀ x, x ∈ es → x.cells.length = k := fun x hx => by
    obtain ⟨t, ht, rfl⟩ := List.getElem_of_mem hx
    exact (hm.obj q0 _ h0).width t _ (List.getElem?_eq_getElem ht)
  have hwe : e.cells.length = k := (hm.obj q1 _ h1).width 0 _ rfl
  refine (hK w b es.length C i vb vC cells vcells (fun h => hne (hm.inj q0 q1 b C vC hb (by rw [h]; exact hvb))) c1 c2 d1 d2 (by simpa using d4) hi c4 c3 d3 hb1 hb2 c6 d6).mono ?_
  rintro e' w' ⟨B, C', rfl, hR⟩
  have hCR : CellsR g low w k (es.take i ++ [e] ++ es.drop i) ((cells.toList.take (es.length * k)).take (i * k) ++ vcells.toList.take k ++ (cells.toList.take (es.length * k)).drop (i * k)) := by
    refine ((c5.take hw i (by omega)).app d5 (fun x hx => hw x (List.mem_of_mem_take hx))).app (c5.drop i) (fun x hx => ?_)
    rcases List.mem_append.1 hx with hx | hx
    · exact hw x (List.mem_of_mem_take hx)
    · rw [List.mem_singleton.1 hx]; exact hwe
  have hlen : (es.take i ++ [e] ++ es.drop i).length = es.length + 1 := by simp; omega
  have hfit : es.length + 1 ≤ C' := by
    have := hR.fits
    rw [hCR.1, hlen] at this
    exact Nat.le_of_mul_le_mul_right this hk
  have hall : ∀ (Q : PV → Prop), (∀ x, x ∈ es → Q x) → Q e → ∀ x, x ∈ es.take i ++ [e] ++ es.drop i → Q x := fun Q q1 q2 x hx => by
    rcases List.mem_append.1 hx with hx | hx
    · rcases List.mem_append.1 hx with hx | hx
      · exact q1 x (List.mem_of_mem_take hx)
      · rw [List.mem_singleton.1 hx]; exact q2
    · exact q1 x (List.mem_of_mem_drop hx)
  obtain ⟨s1, s2, s3⟩ := row_post (P := P) hm h0 hb hk hR hCR (hall _ hw hwe) (hall _ hp hpe) (by rw [hlen]; exact hfit)
  rw [hlen] at s3
  exact ⟨_, _, _, _, rfl, ⟨rfl, rfl⟩, by simp, by simpa using s2, s3, s1⟩

theorem vcalls_delete {P : Program} {f : FuncId} {E k : Nat} (hK : KDelete P f E k) (hk : 0 < k) {low : List AObj} {q0 w0 : Nat} {es : List PV} {i : Nat} (hi : i < es.length)
    (h0 : low[q0]? = some ⟨E, k, es, w0⟩) (hp : ∀ e, e ∈ es → LtN 0 e) {m0 : Nat} (hm0 : m0 = es.length) :
    VCalls P f [.sl q0 w0 0 m0, .int .i64 i, .int .i64 ((i : Int) + 1)] low fun x low' => x = .sl q0 (w0 + 1) 0 (es.length - 1) ∧ low' = low.set q0 ⟨E, k, es.take i ++ es.drop (i + 1), w0 + 1⟩ := by
  subst hm0
  intro g xs w hm ha
  obtain ⟨hl, ha⟩ := ha
  match xs, hl with
  | [x0, x1, x2], _ =>
  have v0 := ha 0 _ _ rfl rfl
  have v1 := ha 1 _ _ rfl rfl
  have v2 := ha 2 _ _ rfl rfl
  obtain ⟨b, C, hb, rfl⟩ := sl_somewhere hm v0 h0 rfl rfl (by omega)
  have e1 : x1 = .int .i64 (i : Int) := by cases v1 with | imm h => exact vi_int h
  have e2 : x2 = .int .i64 ((i : Int) + 1) := by cases v2 with | imm h => exact vi_int h
  subst e1 e2
  obtain ⟨cells, c1, c2, c3, c4, c5, c6⟩ := ObjR.row hm h0 hb
  dsimp only at c1 c2 c3 c4 c5 c6
  have hw : ∀ x, x ∈ es → x.cells.length = k := fun x hx => by
    obtain ⟨t, ht, rfl⟩ := List.getElem_of_mem hx
    exact (hm.obj q0 _ h0).width t _ (List.getElem?_eq_getElem ht)
  refine (hK w b es.length C i cells c1 c2 hi c4 c3 c6).mono ?_
  rintro e' w' ⟨rfl, hR⟩
  have hCR : CellsR g low w k (es.take i ++ es.drop (i + 1)) ((cells.toList.take (es.length * k)).take (i * k) ++ (cells.toList.take (es.length * k)).drop ((i + 1) * k)) :=
    (c5.take hw i (by omega)).app (c5.drop (i + 1)) (fun x hx => hw x (List.mem_of_mem_take hx))
  have hlen : (es.take i ++ es.drop (i + 1)).length = es.length - 1 := by simp; omega
  have hall : ∀ (Q : PV → Prop), (∀ x, x ∈ es → Q x) → ∀ x, x ∈ es.take i ++ es.drop (i + 1) → Q x := fun Q q1 x hx => by
    rcases List.mem_append.1 hx with hx | hx
    · exact q1 x (List.mem_of_mem_take hx)
    · exact q1 x (List.mem_of_mem_drop hx)
  obtain ⟨s1, s2, s3⟩ := row_post (P := P) hm h0 hb hk hR hCR (hall _ hw) (hall _ hp) (by rw [hlen]; omega)
  rw [hlen] at s3
  exact ⟨_, _, _, _, rfl, ⟨rfl, rfl⟩, by simp, by simpa using s2, s3, s1⟩
theorem wp_copy_runJ {P : Program} (w : World) {o : Oper} {a : Act} {K : Act → World → Prop} {Q : Exit → Act → World → Prop} (d s : Operand) (t t' : TypeId)
    (ho : o.op = .call { callee := .builtin .copy, args := #[d, s], argTypes := #[t, t'] }) (v u : Value) (hd : a.eval d = v) (hs : a.eval s = u) {v' : Value} {w' : World}
    (hr : (Builtin.copy_ #[t, t'] o.type #[v, u]).run P w = .ok v' w') (h : K (a.put o.dst v') w') : o.wp P a w K Q := by
  unfold Oper.wp execOp
  simp only [ho, resolve, invoke, builtin, Sem.run_bind, Sem.run_pure, Result.andThen_ok, List.map_toArray, List.map_cons, List.map_nil, hd, hs, hr]
  exact h
theorem wpList_copy_runJ {P : Program} (w : World) {ops : Array Oper} {rest : List Oper} {o : Oper} {a : Act} {Q : Exit → Act → World → Prop} (hgd : o.guard = none) (d s : Operand) (t t' : TypeId)
    (ho : o.op = .call { callee := .builtin .copy, args := #[d, s], argTypes := #[t, t'] }) (v u : Value) (hd : a.eval d = v) (hs : a.eval s = u) {v' : Value} {w' : World}
    (hr : (Builtin.copy_ #[t, t'] o.type #[v, u]).run P w = .ok v' w') (h : wpList P ops Q rest (a.put o.dst v') w') : wpList P ops Q (o :: rest) a w :=
  wpList_plain hgd fun _ hK => wp_copy_runJ w d s t t' ho v u hd hs hr (hK _ _ h)
theorem step_copy_runJ {P : Program} {ops : Array Oper} {o : Oper} {a : Act} {w : World} {K : Act → World → Prop} {Q : Exit → Act → World → Prop} {E : Prop}
    (hg : o.guard = none) (d x : Operand) (dT sT : TypeId) (hop : o.op = Op.call { callee := Callee.builtin Builtin.copy, args := #[d, x], argTypes := #[dT, sT] })
    (v u : Value) (hd : a.eval d = v) (hx : a.eval x = u) {v' : Value} {w' : World} (hr : (Builtin.copy_ #[dT, sT] o.type #[v, u]).run P w = .ok v' w') (hK : K (a.put o.dst v') w') :
    if Region.wanted o (yielded ops a.tmps) = true then Oper.wp P o a w K Q else E := by
  have hw : Region.wanted o (yielded ops a.tmps) = true := by simp [Region.wanted, hg]
  rw [if_pos hw]
  unfold Oper.wp
  simp [execOp, hop, resolve, invoke, builtin, hd, hx, hr, Result.andThen]
  exact hK
theorem drew_setCellsJ (b : Nat) : ∀ (vs : List Value) (o : Nat) (w : World), (w.setCells b o vs).drew = w.drew.setCells b o vs
  | [], _, _ => rfl
  | v :: r, o, w => by rw [World.setCells, World.setCells, drew_setCellsJ b r]; rfl
theorem step_append_rm {P : Program} {ops : Array Oper} {o : Oper} {a : Act} {w : World} {K : Act → World → Prop} {Q : Exit → Act → World → Prop} {E : Prop}
    (hg : o.guard = none) (s x : Operand) (t : TypeId) (hop : o.op = Op.call { callee := Callee.builtin Builtin.append, args := #[s, x], argTypes := #[t, t] })
    (e : TypeId) (i : TypeInfo) (size : Nat) (h1 : P.underlying t = some (.slice e)) (h2 : P.info? e = some i) (h4 : i.size = size)
    (b n cap : Nat) (hs : a.eval s = .slice (some ⟨b, 0, none⟩) n cap)
    (ad : Addr) (m c : Nat) (news : List Value) (hx : a.eval x = .slice (some ad) m c) (hn : news.length = m * size) (hc : ∀ j u, news[j]? = some u → w.cell? (ad.add j) = some u) (h1c : ∀ u ∈ news, u.oneCell' = true)
    (r at_ : Nat) (hr : n + m = r) (hat : n * size = at_) (hroom : r ≤ cap) (hspare : ∀ j, j < news.length → (w.cell? ⟨b, at_ + j, none⟩).isSome = true ∧ w.frozen? ⟨b, at_ + j, none⟩ = false)
    (hK : K (a.put o.dst (.slice (some ⟨b, 0, none⟩) r cap)) (w.setCells b at_ news)) :
    if Region.wanted o (yielded ops a.tmps) = true then Oper.wp P o a w K Q else E := by
  subst hr hat
  exact step_append_room hg s x t hop e i size h1 h2 h4 b 0 n cap hs ad m c news hx hn hc h1c hroom (by simpa using hspare) (by simpa using hK)
section
variable {P : Program} {nt : Nat} {Q : XPost} {E : Env} {low loc : List AObj} {d : Option Nat} {ty : TypeId} {pos : String} {aft : Array Edge} {gd : Option (Nat × Bool)} {x y z : Operand} {t : TypeId}
end
theorem set_same {α : Type} {l : List α} {i : Nat} {a : α} (h : l[i]? = some a) : l.set i a = l := by
  refine List.ext_getElem? fun j => ?_
  rw [List.getElem?_set]
  split
  · rename_i e
    subst e
    split
    · exact h.symm
    · rename_i hl
      rw [List.getElem?_eq_none (by omega)]
  · rfl
def KGrow (P : Program) (f : FuncId) (E k by_ : Nat) : Prop :=
  ∀ (w : World) (n : Nat), n * by_ ≤ 140737488355328 → n ≤ 140737488355328 → Calls P f #[.slice none 0 0, .int .i64 n] w fun e w' => (e = .returned (.slice none 0 0) ∧ w' = w) ∨ ∃ C cells, e = .returned (.slice (some ⟨w.heap.size, 0, none⟩) 0 C) ∧ cells.size = C * k ∧ C ≤ maxLen ∧ w' = w.drew.alloc (.cells cells E)
end Go.Aml
