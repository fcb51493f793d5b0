/- The abstract memory logic, part DF: the last of the function's own objects, as many as there may be, become unchangeable, all at once. -/
import Derived.Test.YtnmimlcnifflbaaAmlDE
namespace Go.Aml
open Go

/-- A value in which slices of the objects from n on (rows) are taken by value. -/
inductive Fz (n : Nat) (rows : List AObj) : PV → PV → Prop
  | low (c : PV) (h : LtN n c) : Fz n rows c c
  | sl (k off len : Nat) (o : AObj) (es : List PV) (ho : rows[k]? = some o) (he : (o.es.drop off).take len = es) : Fz n rows (.sl (n + k) o.ver off len) (.vs o.sz es)
  | agg (cs ds : List PV) (hl : cs.length = ds.length) (h : ∀ (i : Nat) (c e : PV), cs[i]? = some c → ds[i]? = some e → Fz n rows c e) : Fz n rows (.agg cs) (.agg ds)
  | any (c : PV) : Fz n rows c .any

structure FzO (n : Nat) (rows : List AObj) (a b : AObj) : Prop where
  ty : b.ty = a.ty
  sz : b.sz = a.sz
  ver : b.ver = a.ver
  len : b.es.length = a.es.length
  el : ∀ (i : Nat) (c e : PV), a.es[i]? = some c → b.es[i]? = some e → Fz n rows c e ∧ e.cells.length = c.cells.length

def FzE (n : Nat) (rows : List AObj) (E : Env) : Env → Prop
  | [] => True
  | (t, v) :: s => Fz n rows (look E t) v ∧ FzE n rows E s
theorem FzE.look {n : Nat} {rows : List AObj} {E E' : Env} (h : FzE n rows E E') (t : Nat) : look E' t = .any ∨ Fz n rows (look E t) (look E' t) := by
  induction E' with
  | nil => exact .inl rfl
  | cons p s ih =>
    obtain ⟨d, v⟩ := p
    by_cases hd : d = t
    · subst hd; rw [look_cons_same]; exact .inr h.1
    · rw [look_cons_ne v s hd]; exact ih h.2

theorem Fz.cells {n : Nat} {rows : List AObj} {c e : PV} (h : Fz n rows c e) (hl : e.cells.length = c.cells.length) {j : Nat} {y : PV} (hy : e.cells[j]? = some y) : ∃ x, c.cells[j]? = some x ∧ Fz n rows x y := by
  cases h with
  | low _ hc => exact ⟨y, hy, .low _ (cells_LtN hc hy)⟩
  | sl k off len o es ho he =>
    match j, hy with
    | 0, hy => simp [PV.cells] at hy; subst hy; exact ⟨_, rfl, .sl k off len o es ho he⟩
    | j + 1, hy => simp [PV.cells] at hy
  | agg cs ds hl' hh =>
    simp only [PV.cells] at hl hy ⊢
    have hj : j < cs.length := by
      have := (List.getElem?_eq_some_iff.1 hy).1
      omega
    exact ⟨_, List.getElem?_eq_getElem hj, hh j _ _ (List.getElem?_eq_getElem hj) hy⟩
  | any c =>
    match j, hy with
    | 0, hy =>
      simp [PV.cells] at hy; subst hy
      have : 0 < c.cells.length := by rw [← hl]; simp [PV.cells]
      exact ⟨_, List.getElem?_eq_getElem this, .any _⟩
    | j + 1, hy => simp [PV.cells] at hy

theorem FzO.cells {n : Nat} {rows : List AObj} {a b : AObj} (h : FzO n rows a b) {i j : Nat} {y : PV} (hy : cellOf b.es i j = some y) : ∃ x, cellOf a.es i j = some x ∧ Fz n rows x y := by
  obtain ⟨e, he, hj⟩ := cells_lt hy
  have hi : i < a.es.length := by
    have := (List.getElem?_eq_some_iff.1 he).1
    have := h.len
    omega
  obtain ⟨h1, h2⟩ := h.el i _ e (List.getElem?_eq_getElem hi) he
  unfold cellOf at hy
  rw [he] at hy
  obtain ⟨x, hx, hf⟩ := h1.cells h2 hy
  refine ⟨x, ?_, hf⟩
  unfold cellOf
  rw [List.getElem?_eq_getElem hi]
  exact hx

variable {E E' : Env} {low loc loc1 loc2 rows : List AObj}

theorem weak_fz (hloc : loc = loc1 ++ rows) (hp : ∀ o, o ∈ rows → ∀ e, e ∈ o.es → LtN 0 e) (hE : FzE (low.length + loc1.length) rows E E')
    (hn : loc2.length = loc1.length) (hO : ∀ (i : Nat) (a b : AObj), loc1[i]? = some a → loc2[i]? = some b → FzO (low.length + loc1.length) rows a b) : Weak E low loc E' low loc2 := by
  subst hloc
  refine ⟨rfl, fun g nt a w hr => ?_⟩
  generalize hm : low.length + loc1.length = m at hE hO
  have hget0 : ∀ (k : Nat) (o : AObj), rows[k]? = some o → (low ++ (loc1 ++ rows))[m + k]? = some o := fun k o ho => by
    rw [List.getElem?_append_right (by omega), List.getElem?_append_right (by omega), show m + k - low.length - loc1.length = k by omega]; exact ho
  let g' : Gh := ⟨fun b => g.F b ∨ ∃ k C, k < rows.length ∧ g.β (m + k) = some (b, C), fun r => if r < m then g.β r else none⟩
  have hlo : ∀ r, r < m → g'.β r = g.β r := fun r h => by simp [g', h]
  have hget : ∀ (r : Nat) (o : AObj), r < m → (low ++ (loc1 ++ rows))[r]? = some o → ∃ o', (low ++ loc2)[r]? = some o' ∧ o'.ver = o.ver ∧ o'.sz = o.sz ∧ o'.ty = o.ty ∧ o'.es.length = o.es.length ∧ ((r < low.length ∧ o' = o) ∨ FzO m rows o o') := fun r o hrm ho => by
    by_cases h : r < low.length
    · rw [List.getElem?_append_left h] at ho
      exact ⟨o, by rw [List.getElem?_append_left h]; exact ho, rfl, rfl, rfl, rfl, .inl ⟨h, rfl⟩⟩
    · rw [List.getElem?_append_right (by omega), List.getElem?_append_left (by omega)] at ho
      have hi : r - low.length < loc2.length := by omega
      have hz := hO _ _ _ ho (List.getElem?_eq_getElem hi)
      exact ⟨_, by rw [List.getElem?_append_right (by omega)]; exact List.getElem?_eq_getElem hi, hz.ver, hz.sz, hz.ty, hz.len, .inr hz⟩
  have hst : GStep m g (low ++ (loc1 ++ rows)) w g' (low ++ loc2) w := by
    refine ⟨rfl, rfl, rfl, Nat.le_refl _, fun b h => .inl h, fun _ _ => rfl, fun r o hrm ho => ?_⟩
    obtain ⟨o', h1, h2, h3, _, h5, _⟩ := hget r o hrm ho
    exact ⟨o', h1, by omega, fun _ => ⟨h3, h5, hlo r hrm⟩⟩
  have real : ∀ c e, Fz m rows c e → ∀ x : Value, VR g (low ++ (loc1 ++ rows)) w c x → VR g' (low ++ loc2) w e x := by
    intro c e hce
    induction hce with
    | low c h => exact fun x hx => hx.step hst h
    | sl k off len o es ho he =>
      intro x hx
      have hk : k < rows.length := (List.getElem?_eq_some_iff.1 ho).1
      exact .imm (he ▸ sl_view (F := g'.F) hr.m hx (hget0 k o ho) rfl (hp o (List.mem_of_getElem? ho)) (fun b h => .inl h) (fun b C h => .inr ⟨k, C, hk, h⟩))
    | agg cs ds hl hh ih =>
      intro x hx
      obtain ⟨xs, rfl, hlx, hvv⟩ := hx.agg_inv
      refine .agg ds xs (by omega) fun i c x hc hx => ?_
      have hi : i < cs.length := by
        have := (List.getElem?_eq_some_iff.1 hc).1
        omega
      exact ih i _ c (List.getElem?_eq_getElem hi) hc x (hvv i _ x (List.getElem?_eq_getElem hi) hx)
    | any c => exact fun x _ => .any x
  have hlt2 : ∀ (r : Nat) (o : AObj), (low ++ loc2)[r]? = some o → r < m := fun r o ho => by
    have := (List.getElem?_eq_some_iff.1 ho).1
    rw [List.length_append] at this
    omega
  refine ⟨g', ⟨⟨?_, ?_, ?_, ?_, by simp, ?_⟩, ⟨hr.e.defers, hr.e.size, fun t => ?_⟩⟩, hst.less (by omega)⟩
  · rintro b (h | ⟨k, C, _, h⟩)
    · exact hr.m.fb b h
    · exact hr.m.beta_lt h
  · intro r r' b C C' h1 h2
    by_cases e1 : r < m
    · by_cases e2 : r' < m
      · rw [hlo r e1] at h1; rw [hlo r' e2] at h2; exact hr.m.inj _ _ _ _ _ h1 h2
      · simp [g', e2] at h2
    · simp [g', e1] at h1
  · intro r b C h1
    by_cases e1 : r < m
    · rw [List.length_append]; omega
    · simp [g', e1] at h1
  · intro r b hb
    have hrm := hlt2 r b hb
    have hrl : r < (low ++ (loc1 ++ rows)).length := by simp; omega
    obtain ⟨o', h1, h2, h3, h4, h5, h6⟩ := hget r _ hrm (List.getElem?_eq_getElem hrl)
    rw [hb] at h1
    injection h1 with h1
    subst h1
    have hao := List.getElem?_eq_getElem hrl
    generalize (low ++ (loc1 ++ rows))[r] = ao at h2 h3 h4 h5 h6 hao
    obtain ⟨a1, a2, a3⟩ := hr.m.obj r ao hao
    have cells : ∀ i j e, cellOf b.es i j = some e → ∃ c, cellOf ao.es i j = some c ∧ Fz m rows c e := fun i j e he => by
      rcases h6 with ⟨hlow, rfl⟩ | hz
      · refine ⟨e, he, .low e ?_⟩
        have hl := hr.m.lt r b (by omega) hao
        obtain ⟨x, hx, _⟩ := cells_lt he
        have he' := he
        unfold cellOf at he'
        rw [hx] at he'
        exact cells_LtN ((hl x (List.mem_of_getElem? hx)).mono (by omega)) he'
      · exact hz.cells he
    refine ⟨by omega, ?_, ?_⟩
    · rcases h6 with ⟨_, rfl⟩ | hz
      · exact a2
      · intro i e he
        have hi : i < ao.es.length := by
          have := (List.getElem?_eq_some_iff.1 he).1
          omega
        have := (hz.el i _ e (List.getElem?_eq_getElem hi) he).2
        rw [this, h3]
        exact a2 i _ (List.getElem?_eq_getElem hi)
    · rw [hlo r hrm]
      cases hbb : g.β r with
      | none =>
        rw [hbb] at a3
        refine List.eq_nil_of_length_eq_zero ?_
        rw [h5, a3]
        rfl
      | some bc =>
        obtain ⟨bb, C⟩ := bc
        rw [hbb] at a3
        obtain ⟨q1, cells', q2, q3, q4, q5, q6⟩ := a3
        refine ⟨?_, cells', by rw [h4]; exact q2, by rw [h3]; exact q3, q4, by rw [h5]; exact q5, fun i j e he => ?_⟩
        · rintro (h | ⟨k, C', _, h⟩)
          · exact q1 h
          · have := hr.m.inj _ _ _ _ _ hbb h
            omega
        · obtain ⟨c, hc1, hc2⟩ := cells i j e he
          obtain ⟨u, u1, u2, u3⟩ := q6 i j c hc1
          exact ⟨u, by rw [h3]; exact u1, u2, real c e hc2 u u3⟩
  · intro r b hrn hb
    rw [List.getElem?_append_left hrn] at hb
    exact hr.m.lt r b hrn (by rw [List.getElem?_append_left hrn]; exact hb)
  · rcases hE.look t with h | h
    · rw [h]; exact .any _
    · exact real _ _ h _ (hr.e.at_ t)
end Go.Aml
