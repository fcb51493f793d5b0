/- The abstract memory logic, part DC: functions that change rows and structs of their callers; calls that look at rows and yield new ones; nil fields that become rows. -/
import Derived.Test.YtnhdamflfebofaaAmlDB
namespace Go.Aml
open Go

/-! ### several objects of the callers' -/

def setL : List AObj → List (Nat × AObj) → List AObj
  | low, [] => low
  | low, (q, o) :: ps => setL (low.set q o) ps
def Bor (low : List AObj) (qs : List Nat) : Prop := qs.Nodup ∧ ∀ q ∈ qs, q < low.length

theorem setL_len : ∀ (ps : List (Nat × AObj)) (low : List AObj), (setL low ps).length = low.length
  | [], _ => rfl
  | (q, o) :: ps, low => by rw [setL, setL_len ps]; simp
theorem setL_ne : ∀ (ps : List (Nat × AObj)) (low : List AObj) (r : Nat), r ∉ ps.map (·.1) → (setL low ps)[r]? = low[r]?
  | [], _, _, _ => rfl
  | (q, o) :: ps, low, r, h => by
    simp only [List.map_cons, List.mem_cons, not_or] at h
    rw [setL, setL_ne ps _ r h.2, List.getElem?_set_ne (Ne.symm h.1)]
theorem setL_get : ∀ (ps : List (Nat × AObj)) (low : List AObj), (ps.map (·.1)).Nodup → (∀ q ∈ ps.map (·.1), q < low.length) → ∀ (i q : Nat) (o : AObj), ps[i]? = some (q, o) → (setL low ps)[q]? = some o
  | [], _, _, _, i, q, o, h => by simp at h
  | (q0, o0) :: ps, low, hn, hl, i, q, o, h => by
    simp only [List.map_cons, List.nodup_cons, List.mem_cons, forall_eq_or_imp] at hn hl
    match i, h with
    | 0, h =>
      simp at h
      obtain ⟨rfl, rfl⟩ := h
      rw [setL, setL_ne ps _ _ hn.1, List.getElem?_set_self hl.1]
    | i + 1, h => exact setL_get ps _ hn.2 (by simpa using hl.2) i q o (by simpa using h)
theorem set_comm' {l : List AObj} {a b : Nat} {x y : AObj} (h : a ≠ b) : (l.set a x).set b y = (l.set b y).set a x := List.set_comm x y h
theorem setL_out : ∀ (ps : List (Nat × AObj)) (low : List AObj) (q : Nat) (o : AObj), q ∉ ps.map (·.1) → (setL low ps).set q o = setL (low.set q o) ps
  | [], _, _, _, _ => rfl
  | (q0, o0) :: ps, low, q, o, h => by
    simp only [List.map_cons, List.mem_cons, not_or] at h
    rw [setL, setL, setL_out ps _ q o h.2, set_comm' (Ne.symm h.1)]
theorem setL_set : ∀ (ps : List (Nat × AObj)) (low : List AObj), (ps.map (·.1)).Nodup → ∀ (i q : Nat) (o o' : AObj), ps[i]? = some (q, o) → (setL low ps).set q o' = setL low (ps.set i (q, o'))
  | [], _, _, i, q, o, o', h => by simp at h
  | (q0, o0) :: ps, low, hn, i, q, o, o', h => by
    simp only [List.map_cons, List.nodup_cons] at hn
    match i, h with
    | 0, h =>
      simp at h
      obtain ⟨rfl, rfl⟩ := h
      rw [setL, setL_out ps _ _ _ hn.1, List.set_set]
      rfl
    | i + 1, h =>
      rw [setL, setL_set ps _ hn.2 i q o o' (by simpa using h)]
      rfl
theorem setL_self : ∀ (ps : List (Nat × AObj)) (low : List AObj), (∀ (i q : Nat) (o : AObj), ps[i]? = some (q, o) → low[q]? = some o) → low = setL low ps
  | [], _, _ => rfl
  | (q0, o0) :: ps, low, h => by
    have h0 := h 0 q0 o0 rfl
    have e : low.set q0 o0 = low := by
      obtain ⟨_, rfl⟩ := List.getElem?_eq_some_iff.1 h0
      simp
    rw [setL, e]
    exact setL_self ps low fun i q o hi => h (i + 1) q o (by simpa using hi)

section
variable {P : Program} {nt : Nat} {Q : XPost} {E E' : Env} {low loc loc1 low1 low0 : List AObj} {d : Option Nat} {ty : TypeId} {pos : String} {aft : Array Edge} {ps ps' : List (Nat × AObj)} {qs : List Nat} {q i N K : Nat} {o o' : AObj}

theorem getO_B (hB : Bor low0 qs) (hq : ps.map (·.1) = qs) (i : Nat) (h : ps[i]? = some (q, o)) : GetO (setL low0 ps) loc q o :=
  getO_low (setL_get ps low0 (hq ▸ hB.1) (fun r hr => hB.2 r (hq ▸ hr)) i q o h)
theorem get_B (hB : Bor low0 qs) (hq : ps.map (·.1) = qs) (i : Nat) (h : ps[i]? = some (q, o)) : (setL low0 ps ++ loc)[q]? = some o := getO_B hB hq i h
theorem Bor.lt (hB : Bor low0 qs) (i : Nat) (h : qs[i]? = some q) : q < low0.length := hB.2 q (List.mem_of_getElem? h)
theorem Bor.ltN (hB : Bor low0 qs) (hN : low0.length = N) (i : Nat) (h : qs[i]? = some q) : q < N := hN ▸ hB.2 q (List.mem_of_getElem? h)
theorem setO_B (hB : Bor low0 qs) (hq : ps.map (·.1) = qs) (i : Nat) (h : ps[i]? = some (q, o)) (hlt : LtObj low0.length o') (hps : ps.set i (q, o') = ps') : SetO (setL low0 ps) loc q o' (setL low0 ps') loc := by
  have hlen : q < (setL low0 ps).length := by
    rw [setL_len]
    exact hB.2 q (hq ▸ List.mem_map.2 ⟨(q, o), List.mem_of_getElem? h, rfl⟩)
  have := setO_low (loc := loc) hlen (o' := o') (by rw [setL_len]; exact hlt)
  rw [setL_set ps low0 (hq ▸ hB.1) i q o o' h, hps] at this
  exact this
theorem ltObjN {es : List PV} {t s v : Nat} (hN : low0.length = N) (h : LtNs N es) : LtObj low0.length ⟨t, s, es, v⟩ := ltObj_es (hN ▸ h)

theorem bor_start (hn : (ps.map (·.1)).Nodup) (h : ∀ (i q : Nat) (o : AObj), ps[i]? = some (q, o) → low[q]? = some o) : low = setL low ps ∧ Bor low (ps.map (·.1)) := by
  refine ⟨setL_self ps low h, hn, fun q hq => ?_⟩
  obtain ⟨⟨q', o⟩, hm, rfl⟩ := List.mem_map.1 hq
  obtain ⟨i, hi, he⟩ := List.getElem_of_mem hm
  exact (List.getElem?_eq_some_iff.1 (h i q' o (by rw [List.getElem?_eq_getElem hi, he]))).1
theorem bor0 : ∀ (i q : Nat) (o : AObj), ([] : List (Nat × AObj))[i]? = some (q, o) → low[q]? = some o := fun i q o h => by simp at h
theorem borC {q0 : Nat} {o0 : AObj} (h0 : low[q0]? = some o0) (h : ∀ (i q : Nat) (o : AObj), ps[i]? = some (q, o) → low[q]? = some o) : ∀ (i q : Nat) (o : AObj), ((q0, o0) :: ps)[i]? = some (q, o) → low[q]? = some o
  | 0, q, o, h' => by simp at h'; obtain ⟨rfl, rfl⟩ := h'; exact h0
  | i + 1, q, o, h' => h i q o (by simpa using h')
theorem vcalls_low {f : FuncId} {args : List PV} {Qc : PV → List AObj → Prop} (e : low = low1) (h : VCalls P f args low1 Qc) : VCalls P f args low Qc := e ▸ h

def Sets (low loc : List AObj) (ps : List (Nat × AObj)) (low1 loc1 : List AObj) : Prop :=
  setL (low ++ loc) ps = low1 ++ loc1 ∧ low1.length = low.length ∧ LowOk low low1
theorem sets_nil : Sets low loc [] low loc := ⟨rfl, rfl, lowOk_refl low⟩
theorem sets_own {loc2 : List AObj} (hN : low.length = N) (k : Nat) (h : loc.set k o = loc2) (hs : Sets low loc2 ps low1 loc1) : Sets low loc ((N + k, o) :: ps) low1 loc1 := by
  subst hN; subst h
  obtain ⟨h1, h2, h3⟩ := hs
  refine ⟨?_, h2, h3⟩
  rw [setL, set_loc]
  exact h1
theorem sets_B {ps0 ps0' : List (Nat × AObj)} {o0 : AObj} (hB : Bor low0 qs) (hq : ps0.map (·.1) = qs) (i : Nat) (h : ps0[i]? = some (q, o0)) (hlt : LtObj low0.length o) (hps : ps0.set i (q, o) = ps0') (hs : Sets (setL low0 ps0') loc ps low1 loc1) : Sets (setL low0 ps0) loc ((q, o) :: ps) low1 loc1 := by
  obtain ⟨h1, h2, h3⟩ := hs
  have hqm : q ∈ ps0.map (·.1) := List.mem_map.2 ⟨(q, o0), List.mem_of_getElem? h, rfl⟩
  have hql : q < (setL low0 ps0).length := by rw [setL_len]; exact hB.2 q (hq ▸ hqm)
  have e : (setL low0 ps0).set q o = setL low0 ps0' := by rw [setL_set ps0 low0 (hq ▸ hB.1) i q o0 o h, hps]
  refine ⟨?_, by rw [h2, setL_len, setL_len], fun r a hr => ?_⟩
  · rw [setL, List.set_append_left _ _ hql, e]
    exact h1
  · rw [setL_len]
    rcases h3 r a hr with h4 | h4
    · rw [← e] at h4
      by_cases er : r = q
      · subst er
        rw [List.getElem?_set_self hql] at h4
        injection h4 with h4
        subst h4
        exact .inr hlt
      · rw [List.getElem?_set_ne (Ne.symm er)] at h4
        exact .inl h4
    · rw [setL_len] at h4
      exact .inr h4
theorem vef_callS {ff : Nat} {cs ds : List PV} {fo : Operand} {as : List Operand} {ci : Array TypeId} {r : PV} {os loc2 : List AObj} (hf : PE E fo = .fn ff cs ds) (hcall : ∀ args w, (callFunc ff args).run P w = .ok (.enter ff args) w)
    (hc : VCalls P ff (cs ++ as.map (PE E) ++ ds) (low ++ loc) fun r' low' => r' = r ∧ low' = setL (low ++ loc) ps ++ os) (hs : Sets low loc ps low1 loc1) (h2 : loc1 ++ os = loc2) :
    VEf P ⟨d, .call { callee := .value fo, args := as.toArray, argTypes := ci }, ty, pos, aft, none⟩ E low loc fun v1 l1 l2 => v1 = r ∧ l1 = low1 ∧ l2 = loc2 :=
  vef_call hf hcall hc (by
    rintro r' low' ⟨rfl, rfl⟩
    obtain ⟨e1, e2, e3⟩ := hs
    exact ⟨low1, loc2, by rw [e1, ← h2, List.append_assoc], e2, e3, rfl, rfl, rfl⟩)

theorem lenS (hN : low0.length = N) : (setL low0 ps).length = N := (setL_len ps low0).trans hN

theorem ne_own {a b : Nat} (h : Nat.beq a b = false) : N + a ≠ N + b := fun e => by
  have : a = b := by omega
  subst this
  rw [Nat.beq_refl] at h
  cases h
theorem Bor.ne (hB : Bor low0 qs) (i j : Nat) {a b : Nat} (hi : qs[i]? = some a) (hj : qs[j]? = some b) (hij : Nat.beq i j = false) : a ≠ b := by
  intro e
  subst e
  obtain ⟨h1, h2⟩ := List.getElem?_eq_some_iff.1 hi
  obtain ⟨h3, h4⟩ := List.getElem?_eq_some_iff.1 hj
  have := (List.getElem_inj hB.1 (h₀ := h1) (h₁ := h3)).1 (h2.trans h4.symm)
  subst this
  rw [Nat.beq_refl] at hij
  cases hij
theorem nd0 : ([] : List Nat).Nodup := List.nodup_nil
theorem nd1 {a : Nat} {l : List Nat} (h : ∀ b ∈ l, a ≠ b) (hl : l.Nodup) : (a :: l).Nodup := List.nodup_cons.2 ⟨fun hm => h a hm rfl, hl⟩
theorem na0 {a : Nat} : ∀ b ∈ ([] : List Nat), a ≠ b := fun _ h => by cases h
theorem na1 {a c : Nat} {l : List Nat} (h : a ≠ c) (hl : ∀ b ∈ l, a ≠ b) : ∀ b ∈ c :: l, a ≠ b := fun b hb => by
  rcases List.mem_cons.1 hb with rfl | hb
  · exact h
  · exact hl b hb

/-! ### a callee that looks at rows, and yields new ones -/

inductive ScR (B : Nat) : PV → PV → Prop
  | sc (c : PV) (h : Sc c) : ScR B c c
  | sl (q v off len : Nat) : ScR B (.sl q v off len) (.sl (B + q) v off len)
  | agg (cs es : List PV) (hl : cs.length = es.length) (h : ∀ (i : Nat) (c e : PV), cs[i]? = some c → es[i]? = some e → ScR B c e) : ScR B (.agg cs) (.agg es)
  | tup (cs es : List PV) (hl : cs.length = es.length) (h : ∀ (i : Nat) (c e : PV), cs[i]? = some c → es[i]? = some e → ScR B c e) : ScR B (.tup cs) (.tup es)
def ScRL (B : Nat) : List PV → List PV → Prop
  | [], [] => True
  | c :: cs, e :: es => ScR B c e ∧ ScRL B cs es
  | _, _ => False
theorem ScRL.get {B : Nat} {cs es : List PV} (h : ScRL B cs es) : cs.length = es.length ∧ ∀ (i : Nat) (c e : PV), cs[i]? = some c → es[i]? = some e → ScR B c e := by
  induction cs generalizing es with
  | nil => cases es with
    | nil => exact ⟨rfl, by simp⟩
    | cons => exact h.elim
  | cons c cs ih => cases es with
    | nil => exact h.elim
    | cons e es =>
      obtain ⟨h1, h2⟩ := ih h.2
      refine ⟨by simp [h1], fun i a b ha hb => ?_⟩
      match i, ha, hb with
      | 0, ha, hb => simp at ha hb; subst ha; subst hb; exact h.1
      | i + 1, ha, hb => exact h2 i a b (by simpa using ha) (by simpa using hb)
def ScOs : List AObj → Prop
  | [] => True
  | o :: os => (∀ e ∈ o.es, Sc e) ∧ ScOs os
theorem ScOs.get : ∀ {os : List AObj}, ScOs os → ∀ o ∈ os, ∀ e ∈ o.es, Sc e
  | [], _, o, h => by cases h
  | a :: os, h, o, hm => by
    rcases List.mem_cons.1 hm with rfl | hm
    · exact h.1
    · exact ScOs.get h.2 o hm
theorem Sc.cells {e c : PV} (h : Sc e) {j : Nat} (hc : e.cells[j]? = some c) : Sc c := by
  cases h with
  | agg cs hh => exact hh c (List.mem_of_getElem? hc)
  | _ => match j, hc with
    | 0, hc => simp [PV.cells] at hc; subst hc; first | exact .bool _ | exact .int _ _ | exact .str _ | exact .nilp | exact .nils | exact .nilf | exact .any | (exact .tup _ ‹_›)
    | j + 1, hc => simp [PV.cells] at hc

/-! ### nil fields that become rows of the function's own -/

inductive Nn (q : Nat) : PV → PV → Prop
  | same (c : PV) : Nn q c c
  | nils : Nn q .nils (.sl q 0 0 0)
  | z0 : Nn q .z0 (.sl q 0 0 0)
  | agg (cs es : List PV) (hl : cs.length = es.length) (h : ∀ (i : Nat) (c e : PV), cs[i]? = some c → es[i]? = some e → Nn q c e) : Nn q (.agg cs) (.agg es)
  | any (c : PV) : Nn q c .any
def NnL (q : Nat) : List PV → List PV → Prop
  | [], [] => True
  | c :: cs, e :: es => Nn q c e ∧ NnL q cs es
  | _, _ => False
theorem NnL.get {q : Nat} {cs es : List PV} (h : NnL q cs es) : cs.length = es.length ∧ ∀ (i : Nat) (c e : PV), cs[i]? = some c → es[i]? = some e → Nn q c e := by
  induction cs generalizing es with
  | nil => cases es with
    | nil => exact ⟨rfl, by simp⟩
    | cons => exact h.elim
  | cons c cs ih => cases es with
    | nil => exact h.elim
    | cons e es =>
      obtain ⟨h1, h2⟩ := ih h.2
      refine ⟨by simp [h1], fun i a b ha hb => ?_⟩
      match i, ha, hb with
      | 0, ha, hb => simp at ha hb; subst ha; subst hb; exact h.1
      | i + 1, ha, hb => exact h2 i a b (by simpa using ha) (by simpa using hb)
def NnE (q : Nat) (E : Env) : Env → Prop
  | [] => True
  | (t, v) :: s => Nn q (look E t) v ∧ NnE q E s
theorem NnE.look {q : Nat} {E E' : Env} (h : NnE q E E') (t : Nat) : look E' t = .any ∨ Nn q (look E t) (look E' t) := by
  induction E' with
  | nil => exact .inl rfl
  | cons p s ih =>
    obtain ⟨d, v⟩ := p
    by_cases hd : d = t
    · subst hd; rw [look_cons_same]; exact .inr h.1
    · rw [look_cons_ne v s hd]; exact ih h.2
inductive NnO (q : Nat) : AObj → AObj → Prop
  | same (a : AObj) : NnO q a a
  | agg (ty sz v : Nat) (cs es : List PV) (h : NnL q cs es) : NnO q ⟨ty, sz, [.agg cs], v⟩ ⟨ty, sz, [.agg es], v⟩
  | one (ty sz v : Nat) (c e : PV) (h : Nn q c e) (hc : c.cells = [c]) (he : e.cells = [e]) : NnO q ⟨ty, sz, [c], v⟩ ⟨ty, sz, [e], v⟩
def NnOs (q : Nat) : List AObj → List AObj → Prop
  | [], [] => True
  | a :: l, b :: m => NnO q a b ∧ NnOs q l m
  | _, _ => False
theorem NnOs.get {q : Nat} {l m : List AObj} (h : NnOs q l m) : l.length = m.length ∧ ∀ (i : Nat) (a b : AObj), l[i]? = some a → m[i]? = some b → NnO q a b := by
  induction l generalizing m with
  | nil => cases m with
    | nil => exact ⟨rfl, by simp⟩
    | cons => exact h.elim
  | cons c cs ih => cases m with
    | nil => exact h.elim
    | cons e es =>
      obtain ⟨h1, h2⟩ := ih h.2
      refine ⟨by simp [h1], fun i a b ha hb => ?_⟩
      match i, ha, hb with
      | 0, ha, hb => simp at ha hb; subst ha; subst hb; exact h.1
      | i + 1, ha, hb => exact h2 i a b (by simpa using ha) (by simpa using hb)
theorem NnO.cells {q : Nat} {a b : AObj} (h : NnO q a b) (hw : ∀ (i : Nat) (e : PV), a.es[i]? = some e → e.cells.length = a.sz) :
    b.sz = a.sz ∧ b.ty = a.ty ∧ b.ver = a.ver ∧ b.es.length = a.es.length ∧ (∀ (i : Nat) (e : PV), b.es[i]? = some e → e.cells.length = b.sz) ∧ (∀ i j e, cellOf b.es i j = some e → ∃ c, cellOf a.es i j = some c ∧ Nn q c e) := by
  cases h with
  | same => exact ⟨rfl, rfl, rfl, rfl, hw, fun i j e hx => ⟨e, hx, .same e⟩⟩
  | agg ty sz v cs ds h =>
    obtain ⟨hl, hh⟩ := h.get
    refine ⟨rfl, rfl, rfl, rfl, fun i e he => ?_, fun i j e h' => ?_⟩
    · match i, he with
      | 0, he =>
        simp at he
        subst he
        have := hw 0 (.agg cs) rfl
        simp only [PV.cells] at this ⊢
        omega
      | i + 1, he => simp at he
    · obtain ⟨rfl, h2⟩ := cellOf_one h'
      clear h'
      simp only [PV.cells] at h2
      have hj : j < cs.length := by
        have := (List.getElem?_eq_some_iff.1 h2).1
        omega
      exact ⟨cs[j], by simp [cellOf, PV.cells, hj], hh j _ e (List.getElem?_eq_getElem hj) h2⟩
  | one ty sz v c e h hc he =>
    refine ⟨rfl, rfl, rfl, rfl, fun i e' he' => ?_, fun i j e' h' => ?_⟩
    · match i, he' with
      | 0, he' =>
        simp at he'
        subst he'
        have := hw 0 c rfl
        rw [he]
        rw [hc] at this
        exact this
      | i + 1, he' => simp at he'
    · obtain ⟨rfl, h2⟩ := cellOf_one h'
      clear h'
      rw [he] at h2
      match j, h2 with
      | 0, h2 =>
        simp at h2
        subst h2
        exact ⟨c, by simp [cellOf, hc], h⟩
      | j + 1, h2 => simp at h2

end
end Go.Aml
namespace Go.Aml
open Go
section
variable {P : Program} {E : Env} {low loc : List AObj} {N : Nat}
theorem lt_fn {n f : Nat} {ds : List PV} (h : LtNs n ds) : LtN n (.fn f [] ds) := .fn f [] ds (by simp) h.mem

/-! ### what a partial function yields, if it yields anything -/
def LP {α : Type} (m : Option α) (Q : α → Prop) : Prop := ∀ a, m = some a → Q a
theorem lp_some {α : Type} {Q : α → Prop} {a : α} (h : Q a) : LP (some a) Q := fun b hb => by injection hb with hb; subst hb; exact h
theorem lp_none {α : Type} {Q : α → Prop} : LP (none : Option α) Q := fun b hb => by cases hb
theorem lp_bind {α β : Type} {m : Option α} {k : α → Option β} {Q : α → Prop} {R : β → Prop} (h : LP m Q) (hk : ∀ a, Q a → LP (k a) R) : LP (m.bind k) R := fun b hb => by
  obtain ⟨a, h1, h2⟩ := bnd hb
  exact hk a (h a h1) b h2
theorem lp_bindE {α β : Type} {m : Option α} {k : α → Option β} {R : β → Prop} (hk : ∀ a, m = some a → LP (k a) R) : LP (m.bind k) R := fun b hb => by
  obtain ⟨a, h1, h2⟩ := bnd hb
  exact hk a h1 b h2
theorem lp_bif {α : Type} {c : Bool} {x y : Option α} {R : α → Prop} (h1 : c = true → LP x R) (h2 : c = false → LP y R) : LP (bif c then x else y) R := by
  cases c with
  | true => exact h1 rfl
  | false => exact h2 rfl
theorem lp_loop {α β : Type} {f : α → Option (α ⊕ β)} {K : β → Prop} {a : α} (I : α → Prop) (h0 : I a) (hs : ∀ s, I s → LP (f s) fun o => match o with | .inl s' => I s' | .inr b => K b) : LP (loopC f a) K := by
  intro b hb
  obtain ⟨n, hn⟩ := loopC_some hb
  induction n generalizing a with
  | zero => simp [iterC] at hn
  | succ n ih =>
    unfold iterC at hn
    obtain ⟨o, h1, h2⟩ := bnd hn
    have := hs a h0 o h1
    cases o with
    | inl a' => exact ih this (loopC_of h2) h2
    | inr b' =>
      injection h2 with h2
      subst h2
      exact this
variable {d : Option Nat} {ty : TypeId} {pos : String} {aft : Array Edge} {gd : Option (Nat × Bool)} {x y z : Operand}
end
end Go.Aml
