/- A range over an iterator that keeps a whole number of its own in a cell: the law, for rounds that all go on. -/
import Derived.RangeFuncNested
import Derived.RangeFuncBound
import Derived.RangeFuncCalls
import Derived.RangeFuncLeaves
import Derived.RangeFuncBox
import Derived.Maps.AppendAt
import Derived.Shelf.Abstract
import Derived.WalkKit
import Derived.OwnWalkIn
import Derived.TacticsInMore
import Derived.LoopNIn
import Derived.LoopIn
import Derived.Stop.RegionWithIn
import Derived.Test.YtecbhhmfeldepaaAmlED
namespace Go.Aml
open Go Go.RowKit

def SeqB (n : Nat) (P : Program) (gf : Nat) (lb : Array Value) (B N : Nat) (sq : Nat → Int) (Rd : World → Prop) : Prop :=
  ∀ (l : Nat) (J : Nat → Int → World → Prop) (W : World),
    (∀ k v W, J k v W → W.cell? ⟨B, 0, none⟩ = some (.int .i64 v) ∧ W.frozen? ⟨B, 0, none⟩ = false) → (∀ k v W, J k v W → Rd W) →
    (∀ k v v' W, J k v W → J k v' (W.setCell ⟨B, 0, none⟩ (.int .i64 v'))) →
    (∀ k W, k < N → J k (sq k) W → YieldAt Fence.wide (n - 1) P l #[.int .i64 (sq k)] W fun e W' => e = .returned (.bool true) ∧ J (k + 1) (sq k) W') →
    J 0 (sq 0) W → CallsIn Fence.wide n P gf (#[.func (.yield l) #[] #[]] ++ lb) W fun e W' => (∃ v, e = .returned v) ∧ J N (sq N) W'

variable {n : Nat} {P : Program}
theorem wpIn_rangeB {g : Operand} {ps : Array Tmp} {assign body : Code} {Q : Exit → Act → World → Prop} {a : Act} {w : World}
    {gf : Nat} {lb : Array Value} (hg : a.eval g = .func (.func gf) #[] lb) (eg : ∀ args w, (callFunc gf args).run P w = .ok (.enter gf args) w)
    {B N : Nat} {sq : Nat → Int} {Rd : World → Prop} (hseq : SeqB (n - 1) P gf lb B N sq Rd) (hps : ps.size = 1)
    (I : Nat → Int → World → Prop)
    (hIc : ∀ k v W, I k v W → W.cell? ⟨B, 0, none⟩ = some (.int .i64 v) ∧ W.frozen? ⟨B, 0, none⟩ = false) (hIr : ∀ k v W, I k v W → Rd W)
    (hIs : ∀ k v v' W, I k v W → I k v' (W.setCell ⟨B, 0, none⟩ (.int .i64 v')))
    (hIp : ∀ k v W l o o', I k v W → w.heap.size ≤ l → W.heap[l]? = some o → o.isCells = false → I k v (W.putObj l o'))
    (hIa : ∀ k v W o, I k v W → I k v (W.alloc o))
    (h0 : I 0 (sq 0) w) (a₁ : Int → Act)
    (hassign : ∀ (l : Nat) (x : Int) (W : World) (K : Act → World → Prop), K (a₁ x) W →
      assign.wpIn (Fence.wide.inRound l) (n - 1 - 1) P (Exit.then K (fun _ _ _ => False)) { tmps := (ps.zip #[.int .i64 x]).foldl (fun t (p, v) => t.setIfInBounds p v) a.tmps, defers := [] } W)
    (hbody : ∀ (l k : Nat) (W : World), I k (sq k) W → k < N → body.wpIn (Fence.wide.inRound l) (n - 1 - 1) P (fun e _ W' => e = .normal ∧ KeepsOthers W W' ∧ I (k + 1) (sq k) W') (a₁ (sq k)) W)
    (hdone : ∀ (W : World), I N (sq N) W → W.heap[w.heap.size]? = some (.deferred (some [])) → Q .normal { a with defers := { target := .collected w.heap.size, args := #[] } :: a.defers } W) :
    (Code.rangeFunc g ps assign body).wpIn Fence.wide n P Q a w := by
  refine wpIn_rangeFunc ?_
  intro fn hfn
  obtain ⟨rec, hrec⟩ : ∃ rec : LoopState → Option Code → Loop, rec = fun st pe => { state := st, pending := pe, fn, tmps := a.tmps, params := ps, assign, body, defers := w.heap.size } := ⟨_, rfl⟩
  obtain ⟨W1, hW1⟩ : ∃ W1, (w.alloc (.deferred (some []))).alloc (.loop (rec .ready none)) = W1 := ⟨_, rfl⟩
  have hL1 : W1.heap[w.heap.size + 1]? = some (.loop (rec .ready none)) := by
    rw [← hW1]; have := World.alloc_heap_new (w.alloc (.deferred (some []))) (.loop (rec .ready none)); rwa [World.size_alloc] at this
  have hK1 : W1.heap[w.heap.size]? = some (.deferred (some [])) := by
    rw [← hW1]; exact (Below.heap_alloc _ _ _ (by simp)).trans (World.alloc_heap_new w _)
  have hI1 : I 0 (sq 0) W1 := by rw [← hW1]; exact hIa _ _ _ _ (hIa _ _ _ _ h0)
  refine ⟨w.heap.size + 1, [{ target := .collected w.heap.size, args := #[] }], W1, { target := .fn (.func gf) lb, args := #[.func (.yield (w.heap.size + 1)) #[] #[]] }, W1, gf,
    #[.func (.yield (w.heap.size + 1)) #[] #[]] ++ lb, W1, ?_, ?_, fun _ _ => trivial, ?_, fun h => by simp [Fence.wide] at h, ?_⟩
  · rw [← hW1, hrec]; exact run_enterLoop_outer _ _ _ _ _
  · simp only [resolve, hg]
    simp [go_sem]
  · simp [invoke, go_sem, eg]
  · refine (hseq (w.heap.size + 1)
      (fun k v W => I k v W ∧ W.heap[w.heap.size + 1]? = some (.loop (rec .ready none)) ∧ W.heap[w.heap.size]? = some (.deferred (some []))) W1
      (fun k v W h => hIc k v W h.1) (fun k v W h => hIr k v W h.1)
      (fun k v v' W h => ⟨hIs k v v' W h.1, (KeepsOthers.setCell W _ _).same _ _ h.2.1 rfl, (KeepsOthers.setCell W _ _).same _ _ h.2.2 rfl⟩)
      ?_ ⟨hI1, hL1, hK1⟩).mono ?_
    · rintro k W hlen ⟨hi, hl, hk⟩
      have hlt : w.heap.size + 1 < W.heap.size := (Array.getElem?_eq_some_iff.1 hl).1
      have hy := run_yield (P := P) (args := #[.int .i64 (sq k)]) hl (by rw [hrec]; simp [hps])
      rw [hrec] at hy
      refine ⟨fn, _, assign, body, hy, roundIn_of_wpIn hfn (hassign _ (sq k) W _ ⟨_, run_beginRound hl (by rw [hrec]), ?_⟩)⟩
      have hl2 : (W.putObj (w.heap.size + 1) (.loop { rec .ready none with state := .busy })).heap[w.heap.size + 1]? = some (.loop { rec .ready none with state := .busy }) := World.putObj_heap_same hlt
      have hk2 : (W.putObj (w.heap.size + 1) (.loop { rec .ready none with state := .busy })).heap[w.heap.size]? = some (.deferred (some [])) := (World.putObj_heap_other (by omega)).trans hk
      refine wpIn_mono (hbody _ k _ (hIp _ _ _ _ _ _ hi (by omega) hl rfl) hlen) ?_
      rintro e a3 W3 ⟨rfl, hk3, hi3⟩
      have hl3 := hk3.same _ _ hl2 rfl
      have hr := run_endRound (P := P) none hl3
      rw [hrec] at hr
      rw [hrec] at hl3
      refine ⟨_, _, hr, rfl, hIp _ _ _ _ _ _ hi3 (by omega) hl3 rfl, ?_, (World.putObj_heap_other (by omega)).trans (hk3.same _ _ hk2 rfl)⟩
      rw [hrec]
      exact World.putObj_heap_same (Array.getElem?_eq_some_iff.1 hl3).1
    · rintro e W2 ⟨⟨v, rfl⟩, hi, hl, hk⟩
      exact ⟨none, _, by have := run_endLoop (P := P) hl (by rw [hrec]; simp); rw [hrec] at this; exact this, hdone _ (hIp _ _ _ _ _ _ hi (by omega) hl rfl) ((World.putObj_heap_other (by omega)).trans hk)⟩
end Go.Aml
