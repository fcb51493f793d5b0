/- The abstract memory logic, part ED: a plain contract of a function that yields a new row of ints, to one of this logic. -/
import Derived.Test.YtaedmgkcmbhicaaAmlEC
namespace Go.Aml
open Go Go.RowKit

def NewInts (k : IntKind) (out : List Int) (w w' : World) (v : Value) : Prop :=
  v = .slice none 0 0 ∧ out = [] ∨ ∃ b cap, v = .slice (some ⟨b, 0, none⟩) out.length cap ∧ w.heap.size ≤ b ∧ b < w'.heap.size ∧ out.length ≤ cap ∧ ∀ (i : Nat) (n : Int), out[i]? = some n → w'.cell? ⟨b, i, none⟩ = some (.int k n)
theorem plus_step {g : Gh} {n : Nat} {H : List AObj} {w w' : World} (hm : RelM g n H w) (hb : Below w.heap.size w w') (b m : Nat) : GStep m g H w (g.plus b) H w' :=
  ⟨hb.os, hb.tape, hb.output, hb.size, fun _ h => .inl h, fun c h => hb.block c (hm.fb c h), fun r o _ ho => ⟨o, ho, Nat.le_refl _, fun _ => ⟨rfl, rfl, rfl⟩⟩⟩
theorem RelM.plus_below {g : Gh} {n : Nat} {H : List AObj} {w w' : World} (hm : RelM g n H w) (hb : Below w.heap.size w w') {b : Nat} (h0 : w.heap.size ≤ b) (h1 : b < w'.heap.size) : RelM (g.plus b) n H w' := by
  refine ⟨fun c h => ?_, hm.inj, hm.dom, fun r o ho => ?_, hm.low, hm.lt⟩
  · rcases h with h | h
    · exact Nat.lt_of_lt_of_le (hm.fb c h) hb.size
    · subst h; exact h1
  · obtain ⟨a1, a2, a3⟩ := hm.obj r o ho
    refine ⟨a1, a2, ?_⟩
    show match g.β r with
      | none => o.es = []
      | some (c, C) => ¬ (g.F c ∨ c = b) ∧ _
    cases hbb : g.β r with
    | none => rw [hbb] at a3; exact a3
    | some bc =>
      obtain ⟨c, C⟩ := bc
      rw [hbb] at a3
      obtain ⟨q1, cells, q2, q3, q4, q5, q6⟩ := a3
      have hlt := hm.beta_lt hbb
      refine ⟨fun hF => hF.elim q1 (fun e => by omega), cells, (hb.block c hlt).trans q2, q3, q4, q5, fun i j cc hc => ?_⟩
      obtain ⟨u, u1, u2, u3⟩ := q6 i j cc hc
      exact ⟨u, u1, u2, u3.step' (plus_step hm hb b _)⟩
theorem cell_ints {k : IntKind} {out : List Int} {i j : Nat} {c : PV} (h : cellOf (out.map (PV.int k)) i j = some c) : ∃ n, out[i]? = some n ∧ j = 0 ∧ c = .int k n := by
  unfold cellOf at h
  rw [List.getElem?_map] at h
  cases ho : out[i]? with
  | none => rw [ho] at h; cases h
  | some n =>
    rw [ho] at h
    match j, h with
    | 0, h => exact ⟨n, rfl, rfl, by cases h; rfl⟩
    | j + 1, h => simp [PV.cells] at h
theorem vcalls_of_calls_ints {P : Program} {f : FuncId} {args : List PV} {k : IntKind} {out : List Int} (hp : ∀ c, c ∈ args → LtN 0 c)
    (h : ∀ (F : Nat → Prop) (xs : List Value) (w : World), args.length = xs.length → (∀ (i : Nat) (c : PV) (x : Value), args[i]? = some c → xs[i]? = some x → VI F w c x) → (∀ b, F b → b < w.heap.size) → Calls P f xs.toArray w fun e w' => ∃ v, e = .returned v ∧ Below w.heap.size w w' ∧ NewInts k out w w' v) (low : List AObj) :
    VCalls P f args low fun x low' => x = .vs 1 (out.map (PV.int k)) ∧ low' = low := by
  intro g xs w hm ha
  refine (h g.F xs w ha.1 (fun i c x hc hx => vr_pure (ha.2 i c x hc hx) (hp c (List.mem_of_getElem? hc))) hm.fb).mono ?_
  rintro e w' ⟨v, rfl, hb, ⟨rfl, rfl⟩ | ⟨b, cap, rfl, h0, h1, hl, hc⟩⟩
  · exact ⟨_, g, _, low, rfl, ⟨rfl, rfl⟩, Nat.le_refl _, hm.below hb, .imm (.vs0 1 none 0), step_below hm hb _⟩
  · refine ⟨_, g.plus b, _, low, rfl, ⟨rfl, rfl⟩, Nat.le_refl _, hm.plus_below hb h0 h1, .imm ?_, plus_step hm hb b _⟩
    have := VI.vs (F := (g.plus b).F) (w := w') 1 (out.map (PV.int k)) b 0 cap (fun i _ => .int k ((out[i]?).getD 0)) (by simpa using hl) (.inr rfl) ?_ ?_ ?_ ?_
    · rw [List.length_map] at this
      exact this
    · intro i e he
      rw [List.getElem?_map] at he
      cases ho : out[i]? with
      | none => rw [ho] at he; cases he
      | some n => rw [ho] at he; cases he; rfl
    · intro i j c hcc
      obtain ⟨n, hn, rfl, rfl⟩ := cell_ints hcc
      rw [hn]
      simpa using hc i n hn
    · intro i j c hcc
      rfl
    · intro i j c hcc
      obtain ⟨n, hn, rfl, rfl⟩ := cell_ints hcc
      rw [hn]
      exact .int k n
end Go.Aml
