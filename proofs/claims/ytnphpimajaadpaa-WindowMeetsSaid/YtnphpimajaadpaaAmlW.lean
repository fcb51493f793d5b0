/- The abstract memory logic, part W: '[]byte("..")' of a constant text: a row that is marked, and never changes. -/
import Derived.Test.YtnphpimajaadpaaAmlV
import Derived.Laws.IdiomStrings
namespace Go.Aml
open Go

theorem VI.same {F : Nat → Prop} {w w' : World} (hc : ∀ a, w'.cell? a = w.cell? a) {c : PV} {x : Value} (h : VI F w c x) : VI F w' c x := by
  induction h with
  | any x => exact .any x
  | bool b => exact .bool b
  | int k n => exact .int k n
  | str s => exact .str s
  | nilp => exact .nilp
  | nils => exact .nils
  | z0 a => exact .z0 a
  | nilf => exact .nilf
  | vptr cs j b off u hb hcc h1 hv ih => exact .vptr cs j b off u hb (fun i c hi => (hc _).trans (hcc i c hi)) h1 ih
  | vs0 sz a cap => exact .vs0 sz a cap
  | vs sz es b off cap u hl hb hsz hcc h1 hv ih => exact .vs sz es b off cap u hl hb hsz (fun i j c hi => (hc _).trans (hcc i j c hi)) h1 ih
  | agg cs xs hl hv ih => exact .agg cs xs hl ih
  | tup cs xs hl hv ih => exact .tup cs xs hl ih
  | fn f cs ds xs ys hl hv hl2 hv2 ih ih2 => exact .fn f cs ds xs ys hl ih hl2 ih2

theorem VR.same {g : Gh} {H : List AObj} {w w' : World} (hc : ∀ a, w'.cell? a = w.cell? a) {c : PV} {x : Value} (h : VR g H w c x) : VR g H w' c x := by
  induction h with
  | imm h => exact .imm (h.same hc)
  | ptr r v i j o a ho hv ha => exact .ptr r v i j o a ho hv ha
  | sl r v off len o x ho hv h1 hx => exact .sl r v off len o x ho hv h1 hx
  | agg cs xs hl hv ih => exact .agg cs xs hl ih
  | tup cs xs hl hv ih => exact .tup cs xs hl ih
  | fn f cs ds xs ys hl hv hl2 hv2 ih ih2 => exact .fn f cs ds xs ys hl ih hl2 ih2

/-- A block that never changes is marked. -/
theorem RelM.mark {g : Gh} {n b : Nat} {H : List AObj} {w w' : World} (h : RelM g n H w) (hF : g.F b) (hs : w'.heap.size = w.heap.size) (hh : ∀ b', b' ≠ b → w'.heap[b']? = w.heap[b']?) (hc : ∀ a, w'.cell? a = w.cell? a) : RelM g n H w' := by
  refine ⟨fun b hb => hs ▸ h.fb b hb, h.inj, h.dom, fun r o ho => ?_, h.low, h.lt⟩
  obtain ⟨a1, a2, a3⟩ := h.obj r o ho
  refine ⟨a1, a2, ?_⟩
  cases hbb : g.β r with
  | none => rw [hbb] at a3; exact a3
  | some bc =>
    rw [hbb] at a3
    obtain ⟨q1, cells', q2, q3, q4, q5, q6⟩ := a3
    have hne : bc.1 ≠ b := fun e => q1 (e ▸ hF)
    refine ⟨q1, cells', (hh _ hne).trans q2, q3, q4, q5, fun i j e hcc => ?_⟩
    obtain ⟨u, h1, h2, h3⟩ := q6 i j e hcc
    exact ⟨u, h1, h2, h3.same hc⟩

/-- An own object is taken for unchangeable; its place in the list is a tomb. -/
theorem RelM.entomb {g : Gh} {n k : Nat} {low loc : List AObj} {w : World} {o : AObj} (h : RelM g n (low ++ loc) w) (hn : n ≤ low.length) (ho : loc[k]? = some o) :
    ∃ g', RelM g' n (low ++ loc.set k ⟨o.ty, o.sz, [], o.ver + 1⟩) w ∧ GStep (low ++ loc).length g (low ++ loc) w g' (low ++ loc.set k ⟨o.ty, o.sz, [], o.ver + 1⟩) w ∧ (∀ b C, g.β (low.length + k) = some (b, C) → g'.F b) ∧ ∀ b, g.F b → g'.F b := by
  have hkl : k < loc.length := (List.getElem?_eq_some_iff.1 ho).1
  have hoH : (low ++ loc)[low.length + k]? = some o := getO_loc ho
  let g' : Gh := ⟨fun b => g.F b ∨ ∃ C, g.β (low.length + k) = some (b, C), fun r => if r = low.length + k then none else g.β r⟩
  have hb' : ∀ r, r ≠ low.length + k → g'.β r = g.β r := fun r h => by simp [g', h]
  have hget : ∀ (r : Nat), r ≠ low.length + k → (low ++ loc.set k ⟨o.ty, o.sz, [], o.ver + 1⟩)[r]? = (low ++ loc)[r]? := fun r hne => by
    by_cases h : r < low.length
    · rw [List.getElem?_append_left h, List.getElem?_append_left h]
    · rw [List.getElem?_append_right (by omega), List.getElem?_append_right (by omega), List.getElem?_set_ne (by omega)]
  have htomb : (low ++ loc.set k ⟨o.ty, o.sz, [], o.ver + 1⟩)[low.length + k]? = some ⟨o.ty, o.sz, [], o.ver + 1⟩ := by
    rw [List.getElem?_append_right (by omega), Nat.add_sub_cancel_left, List.getElem?_set_self hkl]
  have hst : GStep (low ++ loc).length g (low ++ loc) w g' (low ++ loc.set k ⟨o.ty, o.sz, [], o.ver + 1⟩) w := by
    refine ⟨rfl, rfl, rfl, Nat.le_refl _, fun b h => .inl h, fun _ _ => rfl, fun r a hr' ha => ?_⟩
    by_cases h : r = low.length + k
    · subst h
      rw [hoH] at ha
      injection ha with ha
      subst ha
      exact ⟨_, htomb, by simp, fun e => by simp at e⟩
    · exact ⟨a, (hget r h).trans ha, Nat.le_refl _, fun _ => ⟨rfl, rfl, hb' r h⟩⟩
  refine ⟨g', ⟨?_, ?_, ?_, ?_, by simp; omega, ?_⟩, hst, fun b C h => .inr ⟨C, h⟩, fun b h => .inl h⟩
  · rintro b (hb | ⟨C, hb⟩)
    · exact h.fb b hb
    · exact h.beta_lt hb
  · intro r r' b C C' h1 h2
    by_cases e1 : r = low.length + k
    · simp [g', e1] at h1
    · by_cases e2 : r' = low.length + k
      · simp [g', e2] at h2
      · rw [hb' r e1] at h1
        rw [hb' r' e2] at h2
        exact h.inj _ _ _ _ _ h1 h2
  · intro r b C h1
    by_cases e1 : r = low.length + k
    · simp [g', e1] at h1
    · rw [hb' r e1] at h1
      have := h.dom r b C h1
      simpa using this
  · intro r b hb
    by_cases e1 : r = low.length + k
    · subst e1
      rw [htomb] at hb
      injection hb with hb
      subst hb
      exact ⟨(h.obj _ o hoH).pos, by simp, by simp [g']⟩
    · rw [hget r e1] at hb
      obtain ⟨a1, a2, a3⟩ := h.obj r b hb
      refine ⟨a1, a2, ?_⟩
      rw [hb' r e1]
      cases hbb : g.β r with
      | none => rw [hbb] at a3; exact a3
      | some bc =>
        rw [hbb] at a3
        obtain ⟨q1, cells', q2, q3, q4, q5, q6⟩ := a3
        refine ⟨?_, cells', q2, q3, q4, q5, fun i j e hcc => ?_⟩
        · rintro (hf | ⟨C', hf⟩)
          · exact q1 hf
          · exact e1 (h.inj _ _ _ _ _ hbb hf)
        · obtain ⟨u, h1, h2, h3⟩ := q6 i j e hcc
          exact ⟨u, h1, h2, h3.step' hst⟩
  · intro r b hrn hb
    have hne : r ≠ low.length + k := by omega
    rw [hget r hne] at hb
    exact h.lt r b hrn hb

section
variable {P : Program} {E : Env} {low loc : List AObj} {d : Option Nat} {ty : TypeId} {pos : String} {aft : Array Edge} {t e : TypeId} {x : Operand}

/-- '[]byte("..")': the row goes on as unchangeable. -/
theorem vef_convB {N k v len ot : Nat} {l : List Int} {a0 : Int} {l0 : List Int} (hN : low.length = N) (hx : PE E x = .sl (N + k) v 0 len) (hlen : len = l.length) (hl : l = a0 :: l0) (ho : loc[k]? = some ⟨ot, 1, l.map (PV.int .u8), v⟩) (ht : tElem P t = some e) (he : tInt P e = some .u8)
    {loc1 : List AObj} (h1 : loc.set k ⟨ot, 1, [], v + 1⟩ = loc1) :
    VEf P ⟨d, .convert t t x, ty, pos, aft, none⟩ E low loc fun v1 low1 loc1' => v1 = .vs 1 (l.map (PV.int .u8)) ∧ low1 = low ∧ loc1' = loc1 := by
  subst hN; subst h1; subst hlen
  intro g nt a w hr Kr Qr hK
  have hvr := hx ▸ hr.e.eval x
  have hsl := sl_inv hvr (getO_loc ho) rfl
  obtain ⟨g', hm', hst, hF, _⟩ := hr.m.entomb (Nat.le_refl _) ho
  unfold SL at hsl
  have hobj := (hr.m.obj _ _ (getO_loc ho)).mem
  obtain ⟨_, hsl⟩ := hsl
  cases hb : g.β (low.length + k) with
  | none =>
    rw [hb] at hsl
    obtain ⟨_, h0, _⟩ := hsl
    rw [hl] at h0
    simp at h0
  | some bc =>
    obtain ⟨b, C⟩ := bc
    rw [hb] at hsl hobj
    obtain ⟨cap, ad, hz, hcap, hne, _⟩ := hsl
    obtain rfl := hne (by rw [hl]; simp)
    obtain ⟨hnF, cells, hheap, hcs, hCm, hle, hcells⟩ := hobj
    simp only [Nat.zero_mul] at hz
    have hsh : w.shape? b = some (ot, cells.size) := by
      unfold World.shape?
      rw [hheap]
    let w' := w.freeze ⟨b, cells.size, none⟩ 1
    have hblt : b < w.heap.size := heap_lt hheap
    have hheap' : ∀ b', w'.heap[b']? = if b' = b then some (.cells cells ot (cells.size, cells.size + 1)) else w.heap[b']? := fun b' => by
      show (World.freeze w ⟨b, cells.size, none⟩ 1).heap[b']? = _
      unfold World.freeze
      rw [if_neg (by decide)]
      show (w.heap.modify b _)[b']? = _
      rw [Array.getElem?_modify]
      by_cases hbb : b' = b
      · subst hbb
        rw [if_pos rfl, if_pos rfl, hheap]
        rfl
      · rw [if_neg (Ne.symm hbb), if_neg hbb]
    have hcell : ∀ ad, w'.cell? ad = w.cell? ad := fun ad => by
      unfold World.cell?
      rw [hheap' ad.block]
      by_cases hbb : ad.block = b
      · rw [if_pos hbb, hbb, hheap]
      · rw [if_neg hbb]
    have hsize : w'.heap.size = w.heap.size := by
      show (World.freeze w ⟨b, cells.size, none⟩ 1).heap.size = _
      unfold World.freeze
      rw [if_neg (by decide)]
      simp
    have hrun : (execOp a.eval ⟨d, .convert t t x, ty, pos, aft, none⟩).run P w = .ok (.value (.slice (some ⟨b, 0, none⟩) l.length cap)) w' := by
      simp [execOp, hz, convert, run_underlying (tElem_under ht), run_underlying (tInt_under he), markStringish, hsh]
      rfl
    unfold Oper.wp
    rw [hrun]
    have hFb : g'.F b := hF b C hb
    have hvs := sl_view (F := g'.F) hr.m hvr (getO_loc ho) rfl (lt_map (fun _ => .int _ _)) (fun b hb => hst.F b hb) (fun b' C' hb' => hF b' C' hb')
    have e0 : ((l.map (PV.int .u8)).drop 0).take l.length = l.map (PV.int .u8) := full_take rfl
    simp only [e0] at hvs
    rw [hz] at hvs
    refine hK _ w' g' _ low _ ⟨rfl, rfl, rfl⟩ rfl (.imm (hvs.same hcell)) (hm'.mark hFb hsize (fun b' hb' => by rw [hheap' b', if_neg hb']) hcell) ?_
    refine ⟨hst.os, hst.tape, hst.output, by rw [hsize]; exact Nat.le_refl _, hst.F, fun b' hb' => ?_, hst.objs⟩
    rw [hheap' b', if_neg]
    rintro rfl
    exact hnF hb'
end
end Go.Aml
