/- The abstract memory logic, part E: the rules of operations that make or change memory. -/
import Derived.Test.YtnhdamflfebofaaAmlD
namespace Go.Aml
open Go

section
variable {g : Gh} {H : List AObj} {w : World}

theorem VR.cellsR {v : PV} {x : Value} (h : VR g H w v x) (hone : v.cells.all PV.one = true) (ht : ∀ vs, v ≠ .tup vs) : x.cells.toList.length = v.cells.length ∧
    ∀ (j : Nat) (c : PV), v.cells[j]? = some c → ∃ u, x.cells[j]? = some u ∧ u.oneCell' = true ∧ VR g H w c u := by
  by_cases ha : ∃ cs, v = .agg cs
  · obtain ⟨cs, rfl⟩ := ha
    obtain ⟨xs, rfl, hl, hh⟩ := h.agg_inv
    refine ⟨by simp [Value.cells, PV.cells, hl], fun j c hc => ?_⟩
    simp only [PV.cells] at hc hone
    have hj : j < xs.length := by rw [← hl]; exact (List.getElem?_eq_some_iff.1 hc).1
    have hv := hh j c _ hc (List.getElem?_eq_getElem hj)
    refine ⟨xs[j], by simp [Value.cells, hj], hv.oneCell ?_, hv⟩
    exact List.all_eq_true.1 hone c (List.mem_of_getElem? hc)
  · have hc1 : v.cells = [v] := by cases v <;> first | rfl | exact absurd ⟨_, rfl⟩ ha
    have h1 : v.one = true := by rw [hc1] at hone; simpa using hone
    have hx := h.oneCell h1
    have hxc : x.cells = #[x] := by cases x <;> first | rfl | (simp [Value.oneCell'] at hx; done)
    rw [hc1, hxc]
    refine ⟨rfl, fun j c hc => ?_⟩
    match j, hc with
    | 0, hc =>
      simp at hc
      subst hc
      exact ⟨x, rfl, hx, h⟩

theorem cellOf_one {v : PV} {i j : Nat} {c : PV} (h : cellOf [v] i j = some c) : i = 0 ∧ v.cells[j]? = some c := by
  unfold cellOf at h
  match i, h with
  | 0, h => exact ⟨rfl, by simpa using h⟩
  | i + 1, h => simp at h

end

section
variable {P : Program} {nt : Nat} {Q : XPost} {E : Env} {low loc : List AObj} {d : Option Nat} {ty : TypeId} {pos : String} {aft : Array Edge} {x y z : Operand} {t : TypeId} {all : Array Oper} {rest : List Oper}

def NewH (P : Program) (E : Env) (low loc : List AObj) (o : Oper) (elem sz : Nat) (es : List PV) (v : PV) : Prop :=
  ∀ g nt (a : Act) w, Rel g nt low.length E (low ++ loc) a w → ∃ (cells : Array Value) (C : Nat) (x : Value) (w0 : World), (execOp a.eval o).run P w = .ok (.value x) (w0.alloc (.cells cells elem)) ∧ (w0 = w ∨ w0 = w.drew) ∧
      0 < sz ∧ (∀ (i : Nat) (e : PV), es[i]? = some e → e.cells.length = sz) ∧ cells.size = C * sz ∧ C ≤ maxLen ∧ es.length ≤ C ∧
      (∀ i j c, cellOf es i j = some c → ∃ u, cells[i * sz + j]? = some u ∧ u.oneCell' = true ∧ VR g (low ++ loc) w c u) ∧
      (∀ g' w', g'.β (low.length + loc.length) = some (w.heap.size, C) → VR g' (low ++ (loc ++ [⟨elem, sz, es, 0⟩])) w' v x)
theorem vef_new {op : Op} {elem sz : Nat} {es : List PV} {v : PV}
    (h : NewH P E low loc ⟨d, op, ty, pos, aft, none⟩ elem sz es v) :
    VEf P ⟨d, op, ty, pos, aft, none⟩ E low loc fun v' low' loc' => v' = v ∧ low' = low ∧ loc' = loc ++ [⟨elem, sz, es, 0⟩] := by
  intro g nt a w hr Kr Qr hK
  obtain ⟨cells, C, x, w0, hrun, hw0, hp, hw, hC, hm, hl, hc, hv⟩ := h g nt a w hr
  unfold Oper.wp
  rw [hrun]
  have key : GStep (low ++ loc).length g (low ++ loc) w (g.push (low ++ loc).length (some (w.heap.size, C))) ((low ++ loc) ++ [⟨elem, sz, es, 0⟩]) (w0.alloc (.cells cells elem)) ∧
      RelM (g.push (low ++ loc).length (some (w.heap.size, C))) low.length ((low ++ loc) ++ [⟨elem, sz, es, 0⟩]) (w0.alloc (.cells cells elem)) := by
    rcases hw0 with rfl | rfl
    · exact hr.m.new elem sz es cells C hp hw hC hm hl hc
    · obtain ⟨hsd, hmd⟩ := drew_step (m := (low ++ loc).length) hr.m
      obtain ⟨k1, k2⟩ := hmd.new elem sz es cells C hp hw hC hm hl fun i j c hcc => let ⟨u, h1, h2, h3⟩ := hc i j c hcc; ⟨u, h1, h2, h3.step' hsd⟩
      exact ⟨hsd.trans k1, k2⟩
  obtain ⟨hs, hm'⟩ := key
  exact hK x _ (g.push (low ++ loc).length (some (w.heap.size, C))) v low (loc ++ [⟨elem, sz, es, 0⟩]) ⟨rfl, rfl, rfl⟩ rfl (hv _ _ (by rw [← List.length_append]; exact Gh.push_same _ _ _)) (by rw [← List.append_assoc]; exact hm') (by rw [← List.append_assoc]; exact hs)

theorem vr_newptr {g' : Gh} {w' : World} {elem sz C b : Nat} {v : PV} (hb : g'.β (low.length + loc.length) = some (b, C)) :
    VR g' (low ++ (loc ++ [⟨elem, sz, [v], 0⟩])) w' (.ptr (low.length + loc.length) 0 0 0) (.pointer (some ⟨b, 0, none⟩)) :=
  .ptr _ 0 0 0 ⟨elem, sz, [v], 0⟩ _ (by rw [← List.append_assoc, List.getElem?_append_right (by simp)]; simp) (Nat.le_refl _) fun _ => ⟨by simp, b, C, hb, by simp⟩

theorem vr_newsl {g' : Gh} {w' : World} {elem sz C b : Nat} {es : List PV} (hb : g'.β (low.length + loc.length) = some (b, C)) (hl : es.length ≤ C) :
    VR g' (low ++ (loc ++ [⟨elem, sz, es, 0⟩])) w' (.sl (low.length + loc.length) 0 0 es.length) (.slice (some ⟨b, 0, none⟩) es.length C) :=
  .sl _ 0 0 _ ⟨elem, sz, es, 0⟩ _ (by rw [← List.append_assoc, List.getElem?_append_right (by simp)]; simp) (Nat.le_refl _) rfl fun _ => by
    refine ⟨by simp, ?_⟩
    rw [hb]
    exact ⟨C, _, rfl, hl, fun _ => by simp, fun _ => ⟨rfl, rfl⟩⟩

theorem vef_box {elem sz : Nat} {v : PV} (hx : PE E x = v) (hsz : v.cells.length = sz) (hpos : 0 < sz) (hone : v.cells.all PV.one = true) (ht : ∀ vs, v ≠ .tup vs) :
    VEf P ⟨d, .box elem x, ty, pos, aft, none⟩ E low loc fun v1 low1 loc1 => v1 = .ptr (low.length + loc.length) 0 0 0 ∧ low1 = low ∧ loc1 = loc ++ [⟨elem, sz, [v], 0⟩] := by
  refine vef_new (elem := elem) (sz := sz) (es := [v]) (fun g nt a w hr => ?_)
  have hv := hx ▸ hr.e.eval x
  obtain ⟨hlen, hcells⟩ := hv.cellsR hone ht
  refine ⟨(a.eval x).cells, 1, .pointer (some ⟨w.heap.size, 0, none⟩), w, ?_, .inl rfl, hpos, ?_, ?_, by simp [maxLen], by simp, ?_, fun g' w' hb => vr_newptr hb⟩
  · simp [execOp, Instr.box, newVar, newRow]
  · intro i e he
    match i, he with
    | 0, he => simp at he; subst he; exact hsz
    | i + 1, he => simp at he
  · simp at hlen; omega
  · intro i j c hc
    obtain ⟨rfl, hc⟩ := cellOf_one hc
    simpa using hcells j c hc

theorem emb_ne_tup (z : Value) (vs : List PV) : emb z ≠ .tup vs := by
  unfold emb
  split
  · simp
  · unfold emb1
    split <;> simp

theorem vef_alloc {elem sz : Nat} {zv : Value} {v : PV} (hz : tZero P elem = some zv) (hv : emb zv = v) (hsz : v.cells.length = sz) (hpos : 0 < sz) (hone : v.cells.all PV.one = true) :
    VEf P ⟨d, .alloc elem, ty, pos, aft, none⟩ E low loc fun v1 low1 loc1 => v1 = .ptr (low.length + loc.length) 0 0 0 ∧ low1 = low ∧ loc1 = loc ++ [⟨elem, sz, [v], 0⟩] := by
  refine vef_new (elem := elem) (sz := sz) (es := [v]) (fun g nt a w hr => ?_)
  have hvr : VR g (low ++ loc) w v zv := hv ▸ .imm (emb_VI _ _ _)
  obtain ⟨hlen, hcells⟩ := hvr.cellsR hone (fun vs => hv ▸ emb_ne_tup zv vs)
  refine ⟨zv.cells, 1, .pointer (some ⟨w.heap.size, 0, none⟩), w, ?_, .inl rfl, hpos, ?_, ?_, by simp [maxLen], by simp, ?_, fun g' w' hb => vr_newptr hb⟩
  · simp [execOp, Instr.alloc, run_zeroValue hz, newVar, newRow]
  · intro i e he
    match i, he with
    | 0, he => simp at he; subst he; exact hsz
    | i + 1, he => simp at he
  · simp at hlen; omega
  · intro i j c hc
    obtain ⟨rfl, hc⟩ := cellOf_one hc
    simpa using hcells j c hc

def tBytes (P : Program) (t : TypeId) : Option Nat := (P.info? t).map (·.bytes)

end
end Go.Aml
