/- The abstract memory logic, part EC: contracts of functions that only look, to plain ones and back. -/
import Derived.Test.YtaedmgkcmbhicaaAmlDF
import Derived.Below
namespace Go.Aml
open Go Go.RowKit

theorem vr_pure {g : Gh} {H : List AObj} {w : World} {c : PV} {x : Value} (h : VR g H w c x) (hc : LtN 0 c) : VI g.F w c x := by
  induction h with
  | imm h => exact h
  | ptr r v i j o a ho hv ha => cases hc with | ptr _ _ _ _ h => omega
  | sl r v off len o x ho hv h1 hx => cases hc with | sl _ _ _ _ h => omega
  | agg cs xs hl hv ih => cases hc with | agg _ hh => exact .agg cs xs hl fun i c x hc hx => ih i c x hc hx (hh c (List.mem_of_getElem? hc))
  | tup cs xs hl hv ih => cases hc with | tup _ hh => exact .tup cs xs hl fun i c x hc hx => ih i c x hc hx (hh c (List.mem_of_getElem? hc))
  | fn f cs ds xs ys hl hv hl2 hv2 ih ih2 =>
    cases hc with
    | fn _ _ _ hh hh2 => exact .fn f cs ds xs ys hl (fun i c x hc hx => ih i c x hc hx (hh c (List.mem_of_getElem? hc))) hl2 (fun i c x hc hx => ih2 i c x hc hx (hh2 c (List.mem_of_getElem? hc)))
theorem calls_of_vcalls {P : Program} {f : FuncId} {args : List PV} {r : PV} (h : VCalls P f args [] fun x low' => x = r ∧ low' = []) (xs : List Value) (w : World) (hl : args.length = xs.length)
    (ha : ∀ (i : Nat) (c : PV) (x : Value), args[i]? = some c → xs[i]? = some x → VI (fun b => b < w.heap.size) w c x) : Calls P f xs.toArray w fun e w' => ∃ x F', e = .returned x ∧ VI F' w' r x ∧ Below w.heap.size w w' := by
  have hm0 : RelM ⟨fun b => b < w.heap.size, fun _ => none⟩ 0 [] w := ⟨fun _ h => h, (by intro _ _ _ _ _ h; cases h), (by intro _ _ _ h; cases h), (by intro r o h; simp at h), Nat.le_refl _, (by intro r o h; omega)⟩
  refine (h ⟨fun b => b < w.heap.size, fun _ => none⟩ xs w hm0 ⟨hl, fun i c x hc hx => .imm (ha i c x hc hx)⟩).mono ?_
  rintro e w' ⟨x, g', r', low', rfl, ⟨rfl, rfl⟩, _, hm', hv, hst⟩
  exact ⟨x, g'.F, rfl, vr_pure hv hv.ltN, hst.os, hst.tape, hst.output, hst.size, fun k hk => hst.keep k hk⟩
theorem step_below {g : Gh} {n : Nat} {H : List AObj} {w w' : World} (hm : RelM g n H w) (hb : Below w.heap.size w w') (m : Nat) : GStep m g H w g H w' :=
  ⟨hb.os, hb.tape, hb.output, hb.size, fun _ h => h, fun b h => hb.block b (hm.fb b h), fun r o _ ho => ⟨o, ho, Nat.le_refl _, fun _ => ⟨rfl, rfl, rfl⟩⟩⟩
theorem RelM.below {g : Gh} {n : Nat} {H : List AObj} {w w' : World} (hm : RelM g n H w) (hb : Below w.heap.size w w') : RelM g n H w' := by
  refine ⟨fun b h => Nat.lt_of_lt_of_le (hm.fb b h) hb.size, hm.inj, hm.dom, fun r o ho => ?_, hm.low, hm.lt⟩
  obtain ⟨a1, a2, a3⟩ := hm.obj r o ho
  refine ⟨a1, a2, ?_⟩
  cases hbb : g.β r with
  | none => rw [hbb] at a3; exact a3
  | some bc =>
    obtain ⟨b, C⟩ := bc
    rw [hbb] at a3
    obtain ⟨q1, cells, q2, q3, q4, q5, q6⟩ := a3
    refine ⟨q1, cells, (hb.block b (hm.beta_lt hbb)).trans q2, q3, q4, q5, fun i j c hc => ?_⟩
    obtain ⟨u, u1, u2, u3⟩ := q6 i j c hc
    exact ⟨u, u1, u2, u3.step' (step_below hm hb _)⟩
theorem vi_row {F : Nat → Prop} {w : World} {sz : Nat} {es : List PV} {x : Value} (h : VI F w (.vs sz es) x) : ∃ a cap, x = .slice a es.length cap ∧ (es ≠ [] → ∃ b off, a = some ⟨b, off, none⟩ ∧ F b ∧ ∀ (i j : Nat) (c : PV), cellOf es i j = some c → ∃ u, w.cell? ⟨b, off + (i * sz + j), none⟩ = some u ∧ VI F w c u) := by
  cases h with
  | vs0 sz a cap => exact ⟨a, cap, rfl, fun h => absurd rfl h⟩
  | vs sz es b off cap u hl hF hsz hc h1 hv => exact ⟨_, cap, rfl, fun _ => ⟨b, off, rfl, hF, fun i j c hh => ⟨u i j, hc i j c hh, hv i j c hh⟩⟩⟩
theorem vi_int {F : Nat → Prop} {w : World} {k : IntKind} {n : Int} {x : Value} (h : VI F w (.int k n) x) : x = .int k n := by cases h; rfl
theorem vi_agg {F : Nat → Prop} {w : World} {cs : List PV} {x : Value} (h : VI F w (.agg cs) x) : ∃ xs : List Value, x = .agg xs.toArray ∧ cs.length = xs.length ∧ ∀ (i : Nat) (c : PV) (y : Value), cs[i]? = some c → xs[i]? = some y → VI F w c y := by
  cases h with | agg _ xs hl hv => exact ⟨xs, rfl, hl, hv⟩
end Go.Aml
