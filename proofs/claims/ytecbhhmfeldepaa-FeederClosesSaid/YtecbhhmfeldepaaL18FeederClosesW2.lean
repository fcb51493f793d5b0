/- Printed by wip/lift/lift.py: the walks that show that the program computes them. -/
import Derived.Test.YtecbhhmfeldepaaL18FeederClosesW1
namespace Go.Proofs.Ytecbhhmfeldepaa
open Go Go.Aml Go.L
attribute [local irreducible] VRd VEf VOp VOps VWp DOps
set_option linter.unusedVariables false
open Go.Aml renaming vops_rd → Va, vops_skip → Vb, rd_fieldAddr → Vc, vwp_region → Vd, vops_nil → Ve, vwp_seq → Vf, getO_N → Vg, vops_efE → Vh, rd_load1 → Vi, rd_mvB → Vj, rn_low → Vk, weak_pick → Vl, rd_pickF → Vm, rd_pickT → Vn, rd_mvI → Vo, weak_sub → Vp, vwp_monoW → Vq, vops_skipX → Vr, vef_callP → Vs, vt1 → Vt, vwp_ret → Vu, rd_loadN → Vv, ltObj_map → Vw, rd_asI → Vx, dops_skip → Vy, rd_eql → Vz, vwp_cond → Xa, vwp_skip → Xb, onlyE → Xc, ltObj_es → Xd, rn_ptr → Xe, vcalls_of_body → Xf, cv_same → Xg, lt_agg → Xh, vef_store → Xi, nn_same → Xj, bifT → Xk, bifF → Xl, rd_lss → Xm, rd_to → Xn, Weak → Xo, rd_nilPtr → Xp, rd_loadV1 → Xq, rd_asB → Xr, vwp_block → Xs, rd_fieldVaddr → Xt, rd_lenV → Xu, vef_allocN → Xv, rd_mvP → Xw, setO_N → Xx, rn_sl → Xy, bnd → Xz, rd_ixV → Ya, bodyQ_pure → Yb, nt_ne → Yc, VCalls → Yd, getI_some → Ye, dr1 → Yf, lenS → Yg, vwp_drawn0 → Yh, neF → Yi
open List renaming map → Yj
open Go.Aml.PV renaming int → Yk
open Go.Aml.PV renaming bool → Yl
open Option.some renaming inj → Ym
open Nat renaming le_of_ble_eq_true → Yn
open Nat renaming succ_pos → Yo
open Bool renaming eq_false_or_eq_true → Yp
open List renaming length_map → Yq
set_option maxHeartbeats 4000000

section
open Go.RowKit Go.Shelf
attribute [local go_sem] Oper.semAt_some
def lft (B : Nat) (w : World) : Nat := match w.cell? ⟨B, 0, none⟩ with | some (.int _ v) => (v + 1).toNat | _ => 0
theorem up1_in (n l B Bf : Nat) (hn : 1 ≤ n) (ab : Nat → Int) (len N : Nat) (sq : Nat → Int) (J : Nat → Int → World → Prop)
    (hc : ∀ k v W, J k v W → W.cell? ⟨B, 0, none⟩ = some (.int .i64 v) ∧ W.frozen? ⟨B, 0, none⟩ = false)
    (hr : ∀ k v W, J k v W → ∃ so cap sb, W.cell? ⟨Bf, 0, none⟩ = some (.slice (some ⟨sb, so, none⟩) len cap) ∧ ∀ i : Nat, i < len → W.cell? ⟨sb, so + i * 5, none⟩ = some (.int .i64 (ab i)))
    (hs : ∀ k v v' W, J k v W → J k v' (W.setCell ⟨B, 0, none⟩ (.int .i64 v')))
    (hy : ∀ k W, k < N → J k (sq k) W → YieldAt Fence.wide (n - 1) Try.prog l #[.int .i64 (sq k)] W fun e W' => e = .returned (.bool true) ∧ J (k + 1) (sq k) W')
    (hsq : ∀ k, k < N → 0 ≤ sq k ∧ (sq k).toNat < len ∧ sq (k + 1) = ab (sq k).toNat ∧ sq (k + 1) < sq k) (hend : sq N < 0) (W : World) (h0 : J 0 (sq 0) W) :
    CallsIn Fence.wide n Try.prog 50 #[.func (.yield l) #[] #[], .pointer (some ⟨B, 0, none⟩), .pointer (some ⟨Bf, 0, none⟩)] W fun e W' => (∃ v, e = .returned v) ∧ J N (sq N) W' := by
  have h50 : Fence.wide.fn 50 := trivial
  refine callsIn_of_wp Try.func50 rfl h50 ?_ rfl
  simp only [Try.ntmps50, List.size_toArray, List.length_cons, List.length_nil, Nat.reduceAdd, Nat.reduceSub, Array.replicate_succ, Array.replicate_zero, List.push_toArray, List.append_toArray, List.nil_append, List.cons_append]
  gi_wp2
  gi_loopw [] (fun (wr : World) => ∃ k, k ≤ N ∧ J k (sq k) wr) (fun wr => lft B wr)
  case atStart => exact ⟨0, Nat.zero_le _, h0⟩
  case round =>
    obtain ⟨k, hk, hJ⟩ := hrel
    have hcell := (hc k _ _ hJ).1
    by_cases hlt : k < N
    · obtain ⟨fn, tmps, assign, body, hyy, hR⟩ := hy k wr hlt hJ
      obtain ⟨q0, q1, q2, q3⟩ := hsq k hlt
      gi_wp2
      refine hR.mono ?_; rintro e W3 ⟨rfl, hJ3⟩; obtain ⟨hc3, hf3⟩ := hc _ _ _ hJ3; obtain ⟨so, cap, sb, hb3, hi3⟩ := hr _ _ _ hJ3
      have hi4 := hi3 _ q1
      gi_wp2
      have hJ4 := hs (k + 1) (sq k) (ab (sq k).toNat) W3 hJ3
      rw [← q2] at hJ4 ⊢
      refine ⟨⟨k + 1, by omega, hJ4⟩, ?_⟩; unfold lft
      rw [(hc _ _ _ hJ4).1, hcell]
      show (sq (k + 1) + 1).toNat < (sq k + 1).toNat
      omega
    · have : k = N := by omega
      subst this
      have hlt2 : ¬ (0 ≤ sq k) := by omega
      gi_wp2
      go_end0
      exact ⟨⟨_, rfl⟩, hJ⟩
/-- What of the network the iterator reads. -/
def UpRd (Bf len : Nat) (ab : Nat → Int) (W : World) : Prop := ∃ so cap sb, W.cell? ⟨Bf, 0, none⟩ = some (.slice (some ⟨sb, so, none⟩) len cap) ∧ ∀ i : Nat, i < len → W.cell? ⟨sb, so + i * 5, none⟩ = some (.int .i64 (ab i))
theorem up1_seq (n B Bf : Nat) (hn : 1 ≤ n) (ab : Nat → Int) (len N : Nat) (sq : Nat → Int) (hsq : ∀ k, k < N → 0 ≤ sq k ∧ (sq k).toNat < len ∧ sq (k + 1) = ab (sq k).toNat ∧ sq (k + 1) < sq k) (hend : sq N < 0) :
    SeqB n Try.prog 50 #[.pointer (some ⟨B, 0, none⟩), .pointer (some ⟨Bf, 0, none⟩)] B N sq (UpRd Bf len ab) :=
  fun l J W hc hr hs hy h0 => up1_in n l B Bf hn ab len N sq J hc hr hs hy hsq hend W h0
theorem up_in (n : Nat) (fv : Value) (s : Int) (cs : List Value) (hf : fv = .agg cs.toArray) (h3 : cs.length = 3) (W : World) : CallsIn Fence.wide n Try.prog 45 #[fv, .int .i64 s] W fun e W' => e = .returned (.func (.func 50) #[] #[.pointer (some ⟨W.heap.size + 1, 0, none⟩), .pointer (some ⟨W.heap.size, 0, none⟩)]) ∧ W' = (W.alloc (.cells cs.toArray 28)).alloc (.cells #[.int .i64 s] 3) := by
  subst hf
  match cs, h3 with
  | [a, b, c], _ =>
  have h45 : Fence.wide.fn 45 := trivial
  refine callsIn_of_wp Try.func45 rfl h45 ?_ rfl
  simp only [Try.ntmps45, List.size_toArray, List.length_cons, List.length_nil, Nat.reduceAdd, Nat.reduceSub, Array.replicate_succ, Array.replicate_zero, List.push_toArray, List.append_toArray, List.nil_append, List.cons_append]
  gi_wp2
  refine bodyPost_ret (results_tmp rfl _ _ _) rfl ?_; exact ⟨rfl, rfl⟩
def accM (sh : Nat → Int) (sq : Nat → Int) : Nat → Int
  | 0 => 1
  | k + 1 => if sh (sq k).toNat < accM sh sq k then sh (sq k).toNat else accM sh sq k
/-- An ending that is no panic. -/
def Qn (Q : Exit → Act → World → Prop) : Exit → Act → World → Prop
  | .normal, a, w => Q .normal a w
  | .ret, a, w => Q .ret a w
  | .exit _, _, _ => False
  | .goto _, _, _ => False
  | .panic _, _, _ => False
  | .outgrown, _, _ => False
theorem qn_ret {Q : Exit → Act → World → Prop} {a : Act} {w : World} (h : Q .ret a w) : Qn Q .ret a w := h
theorem qn_mono {n : Nat} {P : Program} {c : Code} {Q : Exit → Act → World → Prop} {F : Fence} {a : Act} {w : World} (h : c.wpIn F n P (Qn Q) a w) : c.wpIn F n P Q a w :=
  wpIn_mono h fun e a w h => by cases e <;> first | exact h | exact h.elim
/-- One act, one world. -/
def Qeq (A : Act) (W : World) : Exit → Act → World → Prop
  | .normal, a, w => a = A ∧ w = W
  | .ret, _, _ => False
  | .exit _, _, _ => False
  | .goto _, _, _ => False
  | .panic _, _, _ => False
  | .outgrown, _, _ => False
def Qw (W : World) : Exit → Act → World → Prop
  | .normal, _, w => w = W
  | .ret, _, _ => False
  | .exit _, _, _ => False
  | .goto _, _, _ => False
  | .panic _, _, _ => False
  | .outgrown, _, _ => False
theorem mono_eq {n : Nat} {P : Program} {c : Code} {Q : Exit → Act → World → Prop} {F : Fence} {a : Act} {w : World} {A : Act} {W : World} (h : c.wpIn F n P (Qeq A W) a w) (hq : Q .normal A W) : c.wpIn F n P Q a w :=
  wpIn_mono h fun e a w h => by
    cases e <;> first | exact h.elim | (obtain ⟨rfl, rfl⟩ := h; exact hq)
theorem mono_w {n : Nat} {P : Program} {c : Code} {Q : Exit → Act → World → Prop} {F : Fence} {a : Act} {w : World} {W : World} (h : c.wpIn F n P (Qw W) a w) (hq : ∀ A, Q .normal A W) : c.wpIn F n P Q a w :=
  wpIn_mono h fun e a w h => by
    cases e <;> first | exact h.elim | (obtain rfl := h; exact hq _)
theorem new_cell (w : World) (cs : Array Value) (t : TypeId) (j : Nat) : (w.alloc (.cells cs t)).cell? ⟨w.heap.size, j, none⟩ = cs[j]? := by
  unfold World.cell?
  rw [World.alloc_heap_new]
  rfl
theorem new_frozen (w : World) (cs : Array Value) (t : TypeId) (j : Nat) : (w.alloc (.cells cs t)).frozen? ⟨w.heap.size, j, none⟩ = false := by
  unfold World.frozen?
  rw [World.alloc_heap_new]
  rfl
/-- Between two rounds: the least number in its box (o), the iterator's number (b), the network's boxes (bf, f0). -/
structure LInv (f0 : Nat) (w : World) (o b bf sb so len scap : Nat) (acc v : Int) (W : World) : Prop where
  co : W.cell? ⟨o, 0, none⟩ = some (.int .i64 acc)
  fo : W.frozen? ⟨o, 0, none⟩ = false
  cb : W.cell? ⟨b, 0, none⟩ = some (.int .i64 v)
  fb : W.frozen? ⟨b, 0, none⟩ = false
  cf : W.cell? ⟨bf, 0, none⟩ = some (.slice (some ⟨sb, so, none⟩) len scap)
  cg : W.cell? ⟨f0, 0, none⟩ = some (.slice (some ⟨sb, so, none⟩) len scap)
  be : Below w.heap.size w W
theorem far {W : World} {a b : Nat} {x : Value} {r : Option Value} (hab : a ≠ b) (h : W.cell? ⟨b, 0, none⟩ = r) : (W.setCell ⟨a, 0, none⟩ x).cell? ⟨b, 0, none⟩ = r :=
  (World.cell?_setCell_other (w := W) (a := ⟨a, 0, none⟩) (b := ⟨b, 0, none⟩) (v := x) (fun e => hab (by injection e))).trans h
theorem near {W : World} {a : Nat} {x y : Value} (h : W.cell? ⟨a, 0, none⟩ = some y) : (W.setCell ⟨a, 0, none⟩ x).cell? ⟨a, 0, none⟩ = some x :=
  World.cell?_setCell_same (w := W) (a := ⟨a, 0, none⟩) (v := x) h
theorem LInv.set_b {f0 : Nat} {w : World} {o b bf sb so len scap : Nat} {acc v : Int} {W : World} (h : LInv f0 w o b bf sb so len scap acc v W) (h1 : b ≠ o) (h2 : b ≠ bf) (h3 : b ≠ f0) (hb : w.heap.size ≤ b) (v' : Int) : LInv f0 w o b bf sb so len scap acc v' (W.setCell ⟨b, 0, none⟩ (.int .i64 v')) :=
  ⟨far h1 h.co, by rw [World.frozen?_setCell]; exact h.fo, near h.cb, by rw [World.frozen?_setCell]; exact h.fb, far h2 h.cf, far h3 h.cg, h.be.setCell (p := ⟨b, 0, none⟩) hb _⟩
theorem LInv.set_o {f0 : Nat} {w : World} {o b bf sb so len scap : Nat} {acc v : Int} {W : World} (h : LInv f0 w o b bf sb so len scap acc v W) (h1 : o ≠ b) (h2 : o ≠ bf) (h3 : o ≠ f0) (hb : w.heap.size ≤ o) (x : Int) : LInv f0 w o b bf sb so len scap x v (W.setCell ⟨o, 0, none⟩ (.int .i64 x)) :=
  ⟨near h.co, by rw [World.frozen?_setCell]; exact h.fo, far h1 h.cb, by rw [World.frozen?_setCell]; exact h.fb, far h2 h.cf, far h3 h.cg, h.be.setCell (p := ⟨o, 0, none⟩) hb _⟩
theorem LInv.grown {f0 : Nat} {w : World} {o b bf sb so len scap : Nat} {acc v : Int} {W W' : World} {row : Option Nat} (h : LInv f0 w o b bf sb so len scap acc v W) (hg : W.grownBy W' row) (hr : ∀ r, row = some r → ∃ x : Obj, W.heap[r]? = some x ∧ x.isCells = false) (hs : ∀ r, row = some r → w.heap.size ≤ r) : LInv f0 w o b bf sb so len scap acc v W' :=
  ⟨cell_kept h.co hg hr, (frozen_kept h.co hg hr).trans h.fo, cell_kept h.cb hg hr, (frozen_kept h.cb hg hr).trans h.fb, cell_kept h.cf hg hr, cell_kept h.cg hg hr, h.be.grown hg h.be.size hs⟩
theorem LInv.put {f0 : Nat} {w : World} {o b bf sb so len scap : Nat} {acc v : Int} {W : World} (h : LInv f0 w o b bf sb so len scap acc v W) {l : Nat} {x : Obj} (x' : Obj) (hl : w.heap.size ≤ l) (hx : W.heap[l]? = some x) (hc : x.isCells = false) : LInv f0 w o b bf sb so len scap acc v (W.putObj l x') :=
  h.grown (grownBy_putObj' W l x') (fun r e => by cases e; exact ⟨x, hx, hc⟩) (fun r e => by cases e; exact hl)
theorem LInv.alloc {f0 : Nat} {w : World} {o b bf sb so len scap : Nat} {acc v : Int} {W : World} (h : LInv f0 w o b bf sb so len scap acc v W) (x : Obj) : LInv f0 w o b bf sb so len scap acc v (W.alloc x) :=
  h.grown (World.grownBy_alloc W x none) (fun r e => by cases e) (fun r e => by cases e)
theorem LInv.drew {f0 : Nat} {w : World} {o b bf sb so len scap : Nat} {acc v : Int} {W : World} (h : LInv f0 w o b bf sb so len scap acc v W) : LInv f0 w o b bf sb so len scap acc v W.drew := ⟨h.co, h.fo, h.cb, h.fb, h.cf, h.cg, h.be.drew⟩
theorem linv_start {w W1 W2 : World} {sb so len scap zb zo nz zcap : Nat} {rep z : Int} (hW2 : W1.alloc (Obj.cells #[Value.int IntKind.i64 1] 3) = W2) (hbw2 : Below w.heap.size w W2) (hz0 : W2.cell? ⟨w.heap.size, 0, none⟩ = some (.slice (some ⟨sb, so, none⟩) len scap)) :
    LInv w.heap.size w W1.heap.size (W2.heap.size + 1) W2.heap.size sb so len scap 1 z ((W2.alloc (Obj.cells #[Value.slice (some { block := sb, off := so }) len scap, Value.slice (some { block := zb, off := zo }) nz zcap, Value.int IntKind.i64 rep] 28)).alloc (Obj.cells #[Value.int IntKind.i64 z] 3)).drew := by
  have a1 : ∀ {a : Addr} {v : Value} (x y : Obj), W2.cell? a = some v → ((W2.alloc x).alloc y).drew.cell? a = some v := fun x y h => cell_kept (W := W2.alloc x) (W' := (W2.alloc x).alloc y) (cell_kept h (World.grownBy_alloc W2 x none) (fun r e => by cases e)) (World.grownBy_alloc _ y none) (fun r e => by cases e)
  have a2 : ∀ {a : Addr} {v : Value} (x y : Obj), W2.cell? a = some v → ((W2.alloc x).alloc y).drew.frozen? a = W2.frozen? a := fun x y h => (frozen_kept (W := W2.alloc x) (W' := (W2.alloc x).alloc y) (cell_kept h (World.grownBy_alloc W2 x none) (fun r e => by cases e)) (World.grownBy_alloc _ y none) (fun r e => by cases e)).trans (frozen_kept h (World.grownBy_alloc W2 x none) (fun r e => by cases e))
  have co : W2.cell? ⟨W1.heap.size, 0, none⟩ = some (.int .i64 1) := by rw [← hW2]; exact new_cell _ _ _ _
  have fo : W2.frozen? ⟨W1.heap.size, 0, none⟩ = false := by rw [← hW2]; exact new_frozen _ _ _ _
  refine ⟨a1 _ _ co, (a2 _ _ co).trans fo, ?_, ?_, ?_, a1 _ _ hz0, ((hbw2.alloc (by have := hbw2.size; omega) _).alloc (by have := hbw2.size; simp; omega) _).drew⟩
  · have := new_cell (W2.alloc (Obj.cells #[Value.slice (some { block := sb, off := so }) len scap, Value.slice (some { block := zb, off := zo }) nz zcap, Value.int IntKind.i64 rep] 28)) #[Value.int IntKind.i64 z] 3 0
    rw [World.size_alloc] at this
    exact this
  · have := new_frozen (W2.alloc (Obj.cells #[Value.slice (some { block := sb, off := so }) len scap, Value.slice (some { block := zb, off := zo }) nz zcap, Value.int IntKind.i64 rep] 28)) #[Value.int IntKind.i64 z] 3 0
    rw [World.size_alloc] at this
    exact this
  · show ((W2.alloc _).alloc _).cell? _ = _
    exact cell_kept (new_cell W2 _ _ 0) (World.grownBy_alloc _ _ none) (fun r e => by cases e)
theorem live_in (n sb so scap len zb zo zcap nz zn N : Nat) (hn : 4 ≤ n) (rep : Int) (w : World) (ab sh zs sq : Nat → Int)
    (hsb : sb < w.heap.size) (hsw : ∀ i : Nat, i < len → w.cell? ⟨sb, so + i * 5, none⟩ = some (.int .i64 (ab i)) ∧ w.cell? ⟨sb, so + i * 5 + 2, none⟩ = some (.int .i64 (sh i)))
    (hzb : zb < w.heap.size) (hz : ∀ i : Nat, i < nz → w.cell? ⟨zb, zo + i, none⟩ = some (.int .i64 (zs i))) (hzn : zn < nz)
    (hck : ∀ W, Below w.heap.size w W → CallsIn Fence.wide (n - 1) Try.prog 22 #[.agg #[.slice (some ⟨sb, so, none⟩) len scap, .slice (some ⟨zb, zo, none⟩) nz zcap, .int .i64 rep]] W fun e W' => e = .returned (.int .i64 0) ∧ Below W.heap.size W W')
    (hs0 : sq 0 = zs zn) (hsq : ∀ k, k < N → 0 ≤ sq k ∧ (sq k).toNat < len ∧ sq (k + 1) = ab (sq k).toNat ∧ sq (k + 1) < sq k) (hend : sq N < 0) :
    CallsIn Fence.wide n Try.prog 20 #[.agg #[.slice (some ⟨sb, so, none⟩) len scap, .slice (some ⟨zb, zo, none⟩) nz zcap, .int .i64 rep], .int .i64 (zn : Int)] w fun e W' => e = .returned (.int .i64 (accM sh sq N)) ∧ Below w.heap.size w W' := by
  have h20 : Fence.wide.fn 20 := trivial
  refine callsIn_of_wp_marks Try.func20 rfl h20 (qn_mono ?_) rfl
  simp only [Try.ntmps20, List.size_toArray, List.length_cons, List.length_nil, Nat.reduceAdd, Nat.reduceSub, Array.replicate_succ, Array.replicate_zero, List.push_toArray, List.append_toArray, List.nil_append, List.cons_append]
  have hn1 : 1 ≤ n := by omega
  have hz1 : ¬ ((zn : Int) < 0) := by omega
  have hz2 : ¬ ((nz : Int) ≤ (zn : Int)) := by omega
  have hb0 := (Below.refl w.heap.size w).alloc (Nat.le_refl _) (Obj.cells #[Value.slice (some { block := sb, off := so }) len scap, Value.slice (some { block := zb, off := zo }) nz zcap, Value.int IntKind.i64 rep] 28)
  have hx : ∀ j : Nat, j < 3 → (w.alloc (Obj.cells #[Value.slice (some { block := sb, off := so }) len scap, Value.slice (some { block := zb, off := zo }) nz zcap, Value.int IntKind.i64 rep] 28)).cell? ⟨w.heap.size, j, none⟩ = (#[Value.slice (some { block := sb, off := so }) len scap, Value.slice (some { block := zb, off := zo }) nz zcap, Value.int IntKind.i64 rep] : Array Value)[j]? := fun j _ => new_cell _ _ _ _
  have hx0 := hx 0 (by omega)
  have hx1 := hx 1 (by omega)
  have hx2 := hx 2 (by omega)
  simp only [List.getElem?_toArray, List.getElem?_cons_zero, List.getElem?_cons_succ] at hx0 hx1 hx2
  have hsz : (w.alloc (Obj.cells #[Value.slice (some { block := sb, off := so }) len scap, Value.slice (some { block := zb, off := zo }) nz zcap, Value.int IntKind.i64 rep] 28)).heap.size = w.heap.size + 1 := by simp
  gi_wp2_with (refine ⟨trivial, ?_⟩; gi_at_call 22; refine (hck _ hb0).mono ?_; rintro e W1 ⟨rfl, hb1⟩; have hy0 := (hb1.cell (p := ⟨w.heap.size, 0, none⟩) (by simp)).trans hx0; have hy1 := (hb1.cell (p := ⟨w.heap.size, 1, none⟩) (by simp)).trans hx1; have hy2 := (hb1.cell (p := ⟨w.heap.size, 2, none⟩) (by simp)).trans hx2)
  have hbw := hb0.trans (hb1.mono (B' := w.heap.size) (by simp))
  obtain ⟨W2, hW2⟩ : ∃ W2, W1.alloc (Obj.cells #[Value.int IntKind.i64 1] 3) = W2 := ⟨_, rfl⟩
  have hs1 : w.heap.size + 1 ≤ W1.heap.size := by have := hb1.size; rw [hsz] at this; exact this
  have hg2 : ∀ {a : Addr} {v : Value}, W1.cell? a = some v → W2.cell? a = some v := fun h => by rw [← hW2]; exact cell_kept h (World.grownBy_alloc W1 _ none) (fun r e => by cases e)
  have hz0 := hg2 hy0
  have hz1 := hg2 hy1
  have hz2 := hg2 hy2
  have hbw2 : Below w.heap.size w W2 := by rw [← hW2]; exact hbw.alloc (by omega) _
  have hzc := (hbw2.cell (p := ⟨zb, zo + zn, none⟩) hzb).trans (hz zn hzn)
  rw [hW2]
  refine mono_eq (A := { tmps := #[Value.agg #[Value.slice (some { block := sb, off := so }) len scap, Value.slice (some { block := zb, off := zo }) nz zcap, Value.int IntKind.i64 rep], Value.int IntKind.i64 ↑zn, Value.pointer (some { block := w.heap.size, off := 0 }), undef, Value.int IntKind.i64 0, Value.pointer (some { block := W1.heap.size, off := 0 }), undef, Value.agg #[Value.slice (some { block := sb, off := so }) len scap, Value.slice (some { block := zb, off := zo }) nz zcap, Value.int IntKind.i64 rep], Value.int IntKind.i64 0, Value.bool false, Value.bool false, Value.int IntKind.i64 ↑zn, Value.bool (decide ((↑zn : Int) < 0)), Value.bool (decide ((↑zn : Int) < 0)), Value.bool (decide ((↑zn : Int) < 0)), Value.int IntKind.i64 ↑zn, Value.pointer (some { block := w.heap.size, off := 1 }), Value.slice (some { block := zb, off := zo }) nz zcap, Value.int IntKind.i64 ↑nz, Value.bool false, Value.bool (decide ((↑zn : Int) < 0)), Value.agg #[Value.slice (some { block := sb, off := so }) len scap, Value.slice (some { block := zb, off := zo }) nz zcap, Value.int IntKind.i64 rep], Value.pointer (some { block := w.heap.size, off := 1 }), Value.slice (some { block := zb, off := zo }) nz zcap, Value.int IntKind.i64 ↑zn, Value.pointer (some { block := zb, off := zo + zn }), Value.int IntKind.i64 (zs zn), Value.func (Fn.func 50) #[] #[Value.pointer (some { block := W2.heap.size + 1, off := 0 }), Value.pointer (some { block := W2.heap.size, off := 0 })], undef, undef, undef, undef, undef, undef, undef, undef, undef, undef], defers := [] }) (W := ((W2.alloc (Obj.cells #[Value.slice (some { block := sb, off := so }) len scap, Value.slice (some { block := zb, off := zo }) nz zcap, Value.int IntKind.i64 rep] 28)).alloc (Obj.cells #[Value.int IntKind.i64 (zs zn)] 3)).drew) ?rr ?tt
  case rr =>
    gi_region_with (refine ⟨trivial, ?_⟩; gi_at_call 45; refine (up_in _ _ _ [_, _, _] rfl rfl _).mono ?_; rintro e w' ⟨rfl, rfl⟩)
    all_goals exact ⟨rfl, rfl⟩
  case tt =>
    have hL := linv_start (zb := zb) (zo := zo) (nz := nz) (zcap := zcap) (rep := rep) (z := zs zn) hW2 hbw2 hz0
    have hW2s : W2.heap.size = W1.heap.size + 1 := by rw [← hW2]; simp
    have hW3s : W2.heap.size + 2 ≤ (((W2.alloc (Obj.cells #[Value.slice (some { block := sb, off := so }) len scap, Value.slice (some { block := zb, off := zo }) nz zcap, Value.int IntKind.i64 rep] 28)).alloc (Obj.cells #[Value.int IntKind.i64 (zs zn)] 3)).drew).heap.size := by show _ ≤ ((W2.alloc _).alloc _).heap.size; simp
    generalize ((W2.alloc (Obj.cells #[Value.slice (some { block := sb, off := so }) len scap, Value.slice (some { block := zb, off := zo }) nz zcap, Value.int IntKind.i64 rep] 28)).alloc (Obj.cells #[Value.int IntKind.i64 (zs zn)] 3)).drew = W3 at hL hW3s ⊢
    clear hzc hbw2 hz2 hz1 hz0 hg2 hW2 hbw hy0 hy1 hy2 hb1 hsz hx hx0 hx1 hx2 hb0 hck
    have hL0 : LInv w.heap.size w W1.heap.size (W2.heap.size + 1) W2.heap.size sb so len scap (accM sh sq 0) (sq 0) W3 := by rw [hs0]; exact hL
    gi_wp2
    refine wpIn_rangeB rfl (enters_of Try.func50 (by kernel_rfl) rfl) (up1_seq (n - 1) (W2.heap.size + 1) W2.heap.size (by omega) ab len N sq hsq hend) rfl
      (fun k v W => LInv w.heap.size w W1.heap.size (W2.heap.size + 1) W2.heap.size sb so len scap (accM sh sq k) v W) (fun k v W h => ⟨h.cb, h.fb⟩)
      (fun k v W h => ⟨so, scap, sb, h.cf, fun i hi => (h.be.cell (p := ⟨sb, so + i * 5, none⟩) hsb).trans (hsw i hi).1⟩)
      (fun k v v' W h => h.set_b (by omega) (by omega) (by omega) (by omega) v') (fun k v W l o o' h hl hx hc => h.put o' (by omega) hx hc) (fun k v W o h => h.alloc o) hL0 ?a1 ?hassign ?hbody ?hdone
    case hassign =>
      intro l x W K hK
      gi_wp2
      exact hK
    case hbody =>
      intro l k W h hk
      obtain ⟨q0, q1, q2, q3⟩ := hsq k hk
      have c1 := h.co
      have c2 := h.fo
      have c3 := h.cg
      have c4 := (h.be.cell (p := ⟨sb, so + (sq k).toNat * 5 + 2, none⟩) hsb).trans (hsw _ q1).2
      have hfin := (h.set_o (by omega) (by omega) (by omega) (by omega) (accM sh sq (k + 1))).drew
      clear hL0 hL h hsw hz hs0 hsq
      gi_wp2
      refine mono_w (W := (W.setCell ⟨W1.heap.size, 0, none⟩ (.int .i64 (accM sh sq (k + 1)))).drew) ?rr2 ?tt2
      case rr2 =>
        gi_region
        all_goals exact (rfl : _ = _)
      case tt2 =>
        intro A
        exact ⟨rfl, (KeepsOthers.setCell W _ _).trans (KeepsOthers.drew _), hfin⟩
    case hdone =>
      intro W h hD
      have c1 := h.co
      have c2 := h.be
      clear hL0 hL h hsw hz hs0 hsq
      gi_wp2
      refine qn_ret (⟨by simp, .inl ⟨_, _, rfl, run_takeDeferred hD, ?_⟩⟩); exact ⟨_, results_tmp rfl _ _ _, rfl, c2.trans (belowK_b (w := w) (Nat.le_refl _) W _ _ _ (by omega) hD rfl rfl)⟩
theorem live_bad (n nz zcap : Nat) (hn : 4 ≤ n) (x0 x2 : Value) (za : Option Addr) (zone ck : Int) (w : World)
    (hck : ∀ W, Below w.heap.size w W → CallsIn Fence.wide (n - 1) Try.prog 22 #[.agg #[x0, .slice za nz zcap, x2]] W fun e W' => e = .returned (.int .i64 ck) ∧ Below W.heap.size W W')
    (hbad : ck ≠ 0 ∨ (ck = 0 ∧ zone < 0) ∨ (ck = 0 ∧ ¬ zone < 0 ∧ (nz : Int) ≤ zone)) :
    CallsIn Fence.wide n Try.prog 20 #[.agg #[x0, .slice za nz zcap, x2], .int .i64 zone] w fun e W' => e = .returned (.int .i64 0) ∧ Below w.heap.size w W' := by
  have h20 : Fence.wide.fn 20 := trivial
  refine callsIn_of_wp_marks Try.func20 rfl h20 (qn_mono ?_) rfl
  simp only [Try.ntmps20, List.size_toArray, List.length_cons, List.length_nil, Nat.reduceAdd, Nat.reduceSub, Array.replicate_succ, Array.replicate_zero, List.push_toArray, List.append_toArray, List.nil_append, List.cons_append]
  have hn1 : 1 ≤ n := by omega
  have hb0 := (Below.refl w.heap.size w).alloc (Nat.le_refl _) (Obj.cells #[x0, .slice za nz zcap, x2] 28)
  have hx : ∀ j : Nat, j < 3 → (w.alloc (Obj.cells #[x0, .slice za nz zcap, x2] 28)).cell? ⟨w.heap.size, j, none⟩ = (#[x0, .slice za nz zcap, x2] : Array Value)[j]? := fun j _ => new_cell _ _ _ _
  have hx1 := hx 1 (by omega)
  simp only [List.getElem?_toArray, List.getElem?_cons_zero, List.getElem?_cons_succ] at hx1
  have hsz : (w.alloc (Obj.cells #[x0, .slice za nz zcap, x2] 28)).heap.size = w.heap.size + 1 := by simp
  rcases hbad with h | ⟨rfl, h⟩ | ⟨rfl, h, h'⟩
  · gi_wp2_with (refine ⟨trivial, ?_⟩; gi_at_call 22; refine (hck _ hb0).mono ?_; rintro e W1 ⟨rfl, hb1⟩)
    exact qn_ret ⟨_, results_tmp rfl _ _ _, rfl, hb0.trans (hb1.mono (B' := w.heap.size) (by simp))⟩
  · gi_wp2_with (refine ⟨trivial, ?_⟩; gi_at_call 22; refine (hck _ hb0).mono ?_; rintro e W1 ⟨rfl, hb1⟩)
    exact qn_ret ⟨_, results_tmp rfl _ _ _, rfl, hb0.trans (hb1.mono (B' := w.heap.size) (by simp))⟩
  · gi_wp2_with (refine ⟨trivial, ?_⟩; gi_at_call 22; refine (hck _ hb0).mono ?_; rintro e W1 ⟨rfl, hb1⟩; have hy1 := (hb1.cell (p := ⟨w.heap.size, 1, none⟩) (by simp)).trans hx1)
    exact qn_ret ⟨_, results_tmp rfl _ _ _, rfl, hb0.trans (hb1.mono (B' := w.heap.size) (by simp))⟩
/-- The numbers above switch i, and what it shows. -/
def abv (f : T_Feeder) (i : Nat) : Int := ((f.Switches[i]?).map (·.Above)).getD 0
def shw (f : T_Feeder) (i : Nat) : Int := ((f.Switches[i]?).map (·.Shown)).getD 0
theorem live_seq (f : T_Feeder) : ∀ (n : Nat) (s o r : Int), iterC (F_feeder_Live_L1 f) n (s, o) = some r →
    ∃ (N : Nat) (sq acc : Nat → Int), sq 0 = s ∧ acc 0 = o ∧ (∀ k, k < N → 0 ≤ sq k ∧ (sq k).toNat < f.Switches.length ∧ sq (k + 1) = abv f (sq k).toNat ∧ sq (k + 1) < sq k ∧ acc (k + 1) = if shw f (sq k).toNat < acc k then shw f (sq k).toNat else acc k) ∧ sq N < 0 ∧ r = acc N
  | 0, s, o, r, h => by simp [iterC] at h
  | n + 1, s, o, r, h => by
    unfold iterC at h; obtain ⟨x, h1, h2⟩ := Xz h; unfold F_feeder_Live_L1 at h1
    by_cases hs : 0 ≤ s
    · rw [decide_eq_true (show 0 ≤ ((s, o) : Int × Int).1 from hs), cond_true] at h1
      obtain ⟨y, hy, h1⟩ := Xz h1
      have hg := Ye hy
      have hlen := (List.getElem?_eq_some_iff.1 hg.2).1
      by_cases ha : y.Above < s
      · rw [decide_eq_true (show y.Above < ((s, o) : Int × Int).1 from ha), cond_true] at h1
        injection h1 with h1
        subst h1
        obtain ⟨N, sq, acc, e0, e1, e2, e3, e4⟩ := live_seq f n _ _ r h2
        have hab : abv f s.toNat = y.Above := by unfold abv; rw [hg.2]; rfl
        have hsh : shw f s.toNat = y.Shown := by unfold shw; rw [hg.2]; rfl
        refine ⟨N + 1, fun k => match k with | 0 => s | k + 1 => sq k, fun k => match k with | 0 => o | k + 1 => acc k, rfl, rfl, fun k hk => ?_, e3, e4⟩
        match k, hk with
        | 0, _ => exact ⟨hs, hlen, by show sq 0 = _; rw [e0, hab], by show sq 0 < s; rw [e0]; exact ha, by show acc 0 = _; rw [e1, hsh]⟩
        | k + 1, hk => exact e2 k (by omega)
      · rw [decide_eq_false (show ¬ y.Above < ((s, o) : Int × Int).1 from ha), cond_false] at h1
        cases h1
    · rw [decide_eq_false (show ¬ 0 ≤ ((s, o) : Int × Int).1 from hs), cond_false] at h1
      injection h1 with h1
      subst h1
      injection h2 with h2
      subst h2
      exact ⟨0, fun _ => s, fun _ => o, rfl, rfl, fun k hk => by omega, by show s < 0; omega, rfl⟩
theorem acc_is {sh sq acc : Nat → Int} {N : Nat} (h0 : acc 0 = 1) (h : ∀ k, k < N → acc (k + 1) = if sh (sq k).toNat < acc k then sh (sq k).toNat else acc k) : ∀ k, k ≤ N → accM sh sq k = acc k
  | 0, _ => h0.symm
  | k + 1, hk => by
    rw [h k (by omega), ← acc_is h0 h k (by omega)]
    rfl
theorem F_feeder_Live_ok {p0 : T_Feeder} {p1 : Int} {r : Int} (hF : F_feeder_Live p0 p1 = some r) (low : List AObj) :
    Yd Try.prog 20 [.agg (zA p0), .int .i64 p1] low fun x low' => x = .int .i64 r ∧ low' = low := by
  refine vcalls_of_calls (fun c hc => ?_) (fun F xs w hl ha hfb => ?_) low
  · simp at hc
    rcases hc with rfl | rfl
    · exact Xh ⟨.vs _ _, .vs _ _, .int _ _, trivial⟩
    · exact .int _ _
  unfold F_feeder_Live at hF; obtain ⟨ck, hck, hF⟩ := Xz hF
  match xs, hl with
  | [fv, zv], _ =>
  obtain rfl := vi_int (ha 1 _ _ rfl rfl)
  have hfv := ha 0 _ _ rfl rfl
  obtain ⟨ys, rfl, hyl, hyv⟩ := vi_agg hfv
  match ys, hyl with
  | [x0, x1, x2], _ =>
  have v0 := hyv 0 _ _ rfl rfl
  have v1 := hyv 1 _ _ rfl rfl
  obtain rfl := vi_int (hyv 2 _ _ rfl rfl); obtain ⟨sa, scap, rfl, hsa⟩ := vi_row v0; obtain ⟨za, zcap, rfl, hza⟩ := vi_row v1
  have hC : ∀ W, Below w.heap.size w W → CallsIn Fence.wide (4 - 1) Try.prog 22 #[.agg #[.slice sa (Yj T_Switch.enc p0.Switches).length scap, .slice za (Yj (Yk .i64) p0.Zones).length zcap, .int .i64 p0.Reply]] W fun e W' => e = .returned (.int .i64 ck) ∧ Below W.heap.size W W' := fun W hW => by
    refine callsIn_wide.2 ((calls_of_vcalls (F_feeder_Check_ok hck []) [_] W rfl fun i c x hc hx => ?_).mono ?_)
    · match i, hc, hx with
      | 0, hc, hx =>
        simp only [List.getElem?_cons_zero, Option.some.injEq] at hc hx
        subst hc; subst hx
        exact hfv.mono (fun b h => Nat.lt_of_lt_of_le (hfb b h) hW.size) (fun b h => hW.block b (hfb b h))
      | i + 1, hc, _ => simp at hc
    · rintro e W' ⟨x, F', rfl, hx, hb⟩
      obtain rfl := vi_int hx; exact ⟨rfl, hb⟩
  refine (callsIn_wide (n := 4)).1 ?_
  simp only [Yq] at hC ⊢
  by_cases h1 : ck ≠ 0
  · rw [decide_eq_true h1, cond_true] at hF
    injection hF with hF
    subst hF
    exact live_bad 4 _ _ (Nat.le_refl _) _ _ _ p1 ck w hC (.inl h1)
  rw [decide_eq_false h1, cond_false] at hF
  have h1' : ck = 0 := Decidable.byContradiction h1
  by_cases h2 : p1 < 0
  · rw [decide_eq_true h2, cond_true] at hF
    injection hF with hF
    subst hF
    exact live_bad 4 _ _ (Nat.le_refl _) _ _ _ p1 ck w hC (.inr (.inl ⟨h1', h2⟩))
  rw [decide_eq_false h2, cond_false] at hF
  by_cases h3 : (p0.Zones.length : Int) ≤ p1
  · rw [decide_eq_true h3, cond_true] at hF
    injection hF with hF
    subst hF
    exact live_bad 4 _ _ (Nat.le_refl _) _ _ _ p1 ck w hC (.inr (.inr ⟨h1', h2, h3⟩))
  rw [decide_eq_false h3, cond_false] at hF
  obtain ⟨zn, rfl⟩ : ∃ zn : Nat, p1 = (zn : Int) := ⟨p1.toNat, by omega⟩; obtain ⟨z, hz, hF⟩ := Xz hF
  have hzg := Ye hz
  have hz0 : 0 ≤ z := by
    refine Decidable.byContradiction fun h => ?_
    rw [decide_eq_false h, cond_false] at hF
    cases hF
  rw [decide_eq_true hz0, cond_true] at hF
  rw [Int.toNat_natCast] at hzg
  have hzn := (List.getElem?_eq_some_iff.1 hzg.2).1
  obtain ⟨m, hm⟩ := loopC_some hF; obtain ⟨N, sq, acc, e0, e1, e2, e3, e4⟩ := live_seq p0 m _ _ _ hm; obtain ⟨zb, zo, rfl, hzF, hzc⟩ := hza (by intro h; simp at h; rw [h] at hzn; simp at hzn)
  subst e4
  rw [← acc_is e1 (fun k hk => (e2 k hk).2.2.2.2) N (Nat.le_refl _)]
  subst h1'
  have hN : 0 < N := by
    refine Nat.pos_of_ne_zero fun h => ?_
    subst h
    omega
  have hsl := (e2 0 hN).2.1
  obtain ⟨sb, so, rfl, hsF, hsc⟩ := hsa (by intro h; simp at h; rw [h] at hsl; simp at hsl)
  have hrow : ∀ (i : Nat), i < p0.Switches.length → ∃ y, p0.Switches[i]? = some y ∧ abv p0 i = y.Above ∧ shw p0 i = y.Shown := fun i hi => by
    refine ⟨_, List.getElem?_eq_getElem hi, ?_, ?_⟩
    · unfold abv; rw [List.getElem?_eq_getElem hi]; rfl
    · unfold shw; rw [List.getElem?_eq_getElem hi]; rfl
  have hcell : ∀ (i j : Nat) (c : PV) (y : T_Switch), p0.Switches[i]? = some y → y.enc.cells[j]? = some c → cellOf (Yj T_Switch.enc p0.Switches) i j = some c := fun i j c y hy hc => by
    unfold cellOf
    rw [List.getElem?_map, hy]
    exact hc
  refine live_in 4 sb so scap p0.Switches.length zb zo zcap p0.Zones.length zn N (Nat.le_refl _) _ w (abv p0) (shw p0) (fun i => ((p0.Zones[i]?).getD 0)) sq (hfb _ hsF) (fun i hi => ?_) (hfb _ hzF) (fun i hi => ?_) hzn hC ?_ (fun k hk => ⟨(e2 k hk).1, (e2 k hk).2.1, (e2 k hk).2.2.1, (e2 k hk).2.2.2.1⟩) e3
  · obtain ⟨y, hy, ha', hs'⟩ := hrow i hi
    obtain ⟨u, hu, hv⟩ := hsc i 0 _ (hcell i 0 _ y hy rfl); obtain ⟨u2, hu2, hv2⟩ := hsc i 2 _ (hcell i 2 _ y hy rfl)
    rw [vi_int hv] at hu
    rw [vi_int hv2] at hu2
    rw [ha', hs']
    exact ⟨hu, by rw [Nat.add_assoc]; exact hu2⟩
  · have hy := List.getElem?_eq_getElem hi
    obtain ⟨u, hu, hv⟩ := hzc i 0 (.int .i64 p0.Zones[i]) (by unfold cellOf; rw [List.getElem?_map, hy]; rfl)
    rw [vi_int hv] at hu
    rw [hy]
    simpa using hu
  · rw [e0, hzg.2]; rfl
end

theorem F_feeder_Due_ok {p0 : T_Feeder} {r : Int} (hF : F_feeder_Due p0 = some r) (low : List AObj) :
    Yd Try.prog 27 [.agg (zA p0)] low fun x low' => x = .int .i64 r ∧ low' = low := by
 refine Xf (nt := 27) (rs := [.tmp 2]) Try.func27 rfl rfl (Yn rfl) rfl (Vq (Q' := FnE (fun E' lw lc => Xo E' lw lc [(2, .int .i64 r)] low [])) ?_ ?_)
 ·unfold F_feeder_Due at hF; refine Vf (Vd (Vh (vef_boxN rfl rfl (v := .agg (zA p0)) rfl rfl (Yo _) rfl rfl) rfl (Va (Vx rfl) rfl (Ve (Vf (Vf (Vd ?_))))))); obtain ⟨x1, h2, hF⟩ := Xz hF; refine Va (Vv (ds := (zA p0)) rfl (Vg rfl rfl) rfl ta_28 ts_28 rfl rfl rfl) rfl (Vh (Vs rfl Try.call22 (F_feeder_Check_ok h2 _)) rfl (Va (rd_neq rfl rfl) rfl (Ve (Xa rfl (fun c3 => ?_) (fun c3 => ?_)))))
  ·have hF := Xk c3 hF; refine Vf (Vd (Va (Vx rfl) rfl (Ve (Vu ?_)))); obtain rfl := Ym hF; refine fnR ?_; exact Vl rfl [] (by decide) ⟨Vk rfl (.int _ _), trivial⟩ trivial
  ·have hF := Xl c3 hF; refine Xb (Vf (Vd (Va (Vx rfl) rfl (Ve (Vf (Vf (Vd (Va (Vc rfl tf_28_0 ts_25 (by decide)) rfl ?_)))))))); refine Va (Vi rfl (Vg rfl rfl) rfl ta_25 rfl) rfl (Va (Xn (Xu rfl rfl te_25) (congrArg (fun n : Nat => Yk .i64 (n : Int)) (Yq _))) rfl (Va (Vo rfl) rfl (Ve (Xs ?_)))); obtain ⟨o5, ho5, hF⟩ := Xz hF; refine Vq (vwp_loopC (F_feeder_Due_L1 p0) (fun s4 E' lw lc => Xo E' lw lc [(1, .ptr (low.length + 0) 0 0 0), (3, .int .i64 s4.2), (10, .vs 5 (Yj T_Switch.enc p0.Switches)), (11, .int .i64 ((p0.Switches).length : Int)), (12, .int .i64 s4.1)] low [(zB p0 0)]) (fun o5 => OnlyE (.exit 0) (fun E' lw lc => Xo E' lw lc [(3, .int .i64 o5)] low [])) ho5 ?_ (by rintro _ _ _ _ ⟨h, _⟩ <;> cases h) ?_) ?_
   ·exact Vp ⟨rfl, rfl, rfl, rfl, rfl, trivial⟩
   ·rintro s4 os4 _ _ _ hF hw; unfold F_feeder_Due_L1 at hF; refine vwp_weak hw (Vf (Vd (Va (Xm rfl rfl) rfl (Ve (Vf (Xa rfl (fun c6 => ?_) (fun c6 => ?_)))))))
    ·have hF := Xk c6 hF; refine Xb (Vf ?_); obtain ⟨o7, ho7, hF⟩ := Xz hF; refine Vq (Q' := (fun o7 => OnlyE .normal (fun E' lw lc => Xo E' lw lc [(1, .ptr (low.length + 0) 0 0 0), (3, .int .i64 o7), (10, .vs 5 (Yj T_Switch.enc p0.Switches)), (11, .int .i64 ((p0.Switches).length : Int)), (12, .int .i64 s4.1)] low [(zB p0 0)])) o7) ?_ ?_
     ·replace hF := ho7; refine Xs (Vf (Vd ?_)); obtain ⟨x8, h9, hF⟩ := Xz hF; refine Va (Xn (Ya rfl rfl h9 te_25 ts_36) (v' := .vptr (zC x8) 0) rfl) rfl (Va (rd_loadVN (ds := (zC x8)) rfl ta_36 ts_36 rfl rfl) rfl (Vh (Xv rfl rfl tz_36 rfl rfl (Yo _) rfl) rfl (Vh (Xi (p := .agg (zC x8)) (e' := .agg (zC x8)) rfl (Vg rfl rfl) rfl rfl ts_36 rfl (Yc rfl) rfl (Yn rfl) rfl (Xx rfl rfl)) rfl (Ve (Vf (Vd ?_)))))); obtain ⟨x10, h11, hF⟩ := Xz hF; refine Va (Vv (ds := (zC x8)) rfl (Vg rfl rfl) rfl ta_36 ts_36 rfl rfl rfl) rfl (Vh (Vs rfl Try.call44 (F_feeder_waits_ok h11 _)) rfl (Ve (Xa rfl (fun c12 => ?_) (fun c12 => ?_))))
      ·have hF := Xk c12 hF; refine Vd (Va (Vo rfl) rfl (Va (Vc rfl tf_36_1 ts_3 (by decide)) rfl (Va (Vi rfl (Vg rfl rfl) rfl ta_3 rfl) rfl (Va (Vc rfl tf_28_2 ts_3 (by decide)) rfl (Va (Vi rfl (Vg rfl rfl) rfl ta_3 rfl) rfl (Va (rd_add rfl rfl rfl) rfl (Va (rd_min rfl rfl) rfl (Va (Vx rfl) rfl ?_)))))))); refine Ve ?_; obtain rfl := Ym hF; refine Xc ?_; exact Vl rfl [(0, 0)] (by decide) ⟨Xe 0 0 rfl rfl, Vk rfl (.int _ _), Vk rfl (.vs _ _), Vk rfl (.int _ _), Vk rfl (.int _ _), trivial⟩ ⟨⟨_, rfl, rfl, .same _ _ _ _ (Xd ⟨Xh ⟨.vs _ _, .vs _ _, .int _ _, trivial⟩, trivial⟩)⟩, trivial⟩
      ·have hF := Xl c12 hF; refine Xb ?_; obtain rfl := Ym hF; refine Xc ?_; exact Vl rfl [(0, 0)] (by decide) ⟨Xe 0 0 rfl rfl, Vk rfl (.int _ _), Vk rfl (.vs _ _), Vk rfl (.int _ _), Vk rfl (.int _ _), trivial⟩ ⟨⟨_, rfl, rfl, .same _ _ _ _ (Xd ⟨Xh ⟨.vs _ _, .vs _ _, .int _ _, trivial⟩, trivial⟩)⟩, trivial⟩
     ·rintro _ _ _ _ ⟨rfl, hw⟩; refine ⟨_, _, _, hw, ?_⟩; refine Vd (Va (rd_add rfl rfl rfl) rfl (Va (Vo rfl) rfl (Ve ?_))); obtain rfl := Ym hF; refine Xc ?_; exact Vp ⟨rfl, rfl, rfl, rfl, rfl, trivial⟩
    ·have hF := Xl c6 hF; refine vwp_exit ?_; obtain rfl := Ym hF; refine Xc ?_; exact Vl rfl [] (by decide) ⟨Vk rfl (.int _ _), trivial⟩ trivial
   ·rintro _ _ _ _ ⟨rfl, hw⟩; refine ⟨_, _, _, hw, ?_⟩; refine Vf (Vd (Va (Vo rfl) rfl (Va (Vx rfl) rfl (Ve (Vu ?_))))); obtain rfl := Ym hF; refine fnR ?_; exact Vp ⟨rfl, trivial⟩
 ·rintro _ _ _ _ ⟨he, hw⟩; refine ⟨_, _, _, hw, ?_⟩; exact Yb he [.int .i64 r] ⟨rfl, trivial⟩ (.int _ _) ⟨rfl, rfl⟩

theorem F_ref01_Ints_ok {p0 : List Int} {p1 : List Int} {r : Bool} (hF : F_ref01_Ints p0 p1 = some r) (low : List AObj) :
    Yd Try.prog 23 [.vs 1 (Yj (Yk .i64) p0), .vs 1 (Yj (Yk .i64) p1)] low fun x low' => x = .bool r ∧ low' = low := by
 refine Xf (nt := 26) (rs := [.tmp 4]) Try.func23 rfl rfl (Yn rfl) rfl (Vq (Q' := FnE (fun E' lw lc => Xo E' lw lc [(4, .bool r)] low [])) ?_ ?_)
 ·unfold F_ref01_Ints at hF; refine Vf (Vd (Va (Xr rfl) rfl (Ve (Vf (Vf (Vd (Va (rd_mvV rfl) rfl (Va (Xn (Xu rfl rfl te_26) (congrArg (fun n : Nat => Yk .i64 (n : Int)) (Yq _))) rfl ?_)))))))); refine Va (rd_mvV rfl) rfl (Va (Xn (Xu rfl rfl te_26) (congrArg (fun n : Nat => Yk .i64 (n : Int)) (Yq _))) rfl (Va (rd_neq rfl rfl) rfl (Ve (Xa rfl (fun c1 => ?_) (fun c1 => ?_)))))
  ·have hF := Xk c1 hF; refine Vf (Vd (Va (Xr rfl) rfl (Ve (Vu ?_)))); obtain rfl := Ym hF; refine fnR ?_; exact Vp ⟨rfl, trivial⟩
  ·have hF := Xl c1 hF; refine Xb (Vf (Vf (Vd (Va (Vx rfl) rfl (Ve (Xs ?_)))))); obtain ⟨o3, ho3, hF⟩ := Xz hF; refine Vq (vwp_loopC (F_ref01_Ints_L1 p0 p1) (fun s2 E' lw lc => Xo E' lw lc [(0, .vs 1 (Yj (Yk .i64) p0)), (1, .vs 1 (Yj (Yk .i64) p1)), (5, .int .i64 s2)] low []) (Sum.elim (fun j4 => OnlyE .ret (fun E' lw lc => Xo E' lw lc [(4, .bool false)] low [])) (fun j5 => OnlyE (.exit 0) (fun E' lw lc => Xo E' lw lc [] low []))) ho3 ?_ (by rintro (_|_) _ _ _ ⟨h, _⟩ <;> cases h) ?_) ?_
   ·exact Vp ⟨rfl, rfl, rfl, trivial⟩
   ·rintro s2 os2 _ _ _ hF hw; unfold F_ref01_Ints_L1 at hF; refine vwp_weak hw (Vf (Vf (Vd (Va (Vo rfl) rfl (Va (rd_mvV rfl) rfl (Va (Xn (Xu rfl rfl te_26) (congrArg (fun n : Nat => Yk .i64 (n : Int)) (Yq _))) rfl (Va (Xm rfl rfl) rfl (Ve ?_)))))))); refine Xa rfl (fun c6 => ?_) (fun c6 => ?_)
    ·have hF := Xk c6 hF; refine Xb (Vf (Xs (Vf ?_))); obtain ⟨x7, h8, hF⟩ := Xz hF; obtain ⟨x9, h10, hF⟩ := Xz hF; refine Yh [[], [], [0, 1], [0, 1, 2], [], [], [4, 5], [4, 5, 6], (List.range 8)] mixed (by kernel_rfl) rfl (Yf rfl rfl (rd_mvV rfl) (Yf rfl rfl (Vo rfl) (Yf rfl rfl (Xn (Ya rfl rfl h8 te_26 ts_3) (v' := .vptr [.int .i64 x7] 0) rfl) (Yf rfl rfl (Xq rfl ta_3 rfl) (Yf rfl rfl (rd_mvV rfl) (Yf rfl rfl (Vo rfl) (Yf rfl rfl (Xn (Ya rfl rfl h10 te_26 ts_3) (v' := .vptr [.int .i64 x9] 0) rfl) (Yf rfl rfl (Xq rfl ta_3 rfl) ?_)))))))); refine Yf rfl rfl (rd_neq rfl rfl) (dops_nil (Xa rfl (fun c11 => ?_) (fun c11 => ?_)))
     ·have hF := Xk c11 hF; refine Vf (Vd (Va (Xr rfl) rfl (Ve (Vu ?_)))); obtain rfl := Ym hF; refine Xc ?_; exact Vp ⟨rfl, trivial⟩
     ·have hF := Xl c11 hF; refine Xb (Vd (Va (Vo rfl) rfl (Va (rd_add rfl rfl rfl) rfl (Va (Vx rfl) rfl (Ve ?_))))); obtain rfl := Ym hF; refine Xc ?_; exact Vp ⟨rfl, rfl, rfl, trivial⟩
    ·have hF := Xl c6 hF; refine vwp_exit ?_; obtain rfl := Ym hF; refine Xc ?_; exact Vp trivial
   ·rcases o3 with j4 | j5
    ·replace hF := elimL hF; rintro _ _ _ _ ⟨rfl, hw⟩; refine ⟨_, _, _, hw, ?_⟩; obtain rfl := Ym hF; refine fnR ?_; exact Vp ⟨rfl, trivial⟩
    ·replace hF := elimR hF; rintro _ _ _ _ ⟨rfl, hw⟩; refine ⟨_, _, _, hw, ?_⟩; refine Vf (Vd (Va (Xr rfl) rfl (Ve (Vu ?_)))); obtain rfl := Ym hF; refine fnR ?_; exact Vp ⟨rfl, trivial⟩
 ·rintro _ _ _ _ ⟨he, hw⟩; refine ⟨_, _, _, hw, ?_⟩; exact Yb he [.bool r] ⟨rfl, trivial⟩ (.bool _) ⟨rfl, rfl⟩

theorem F_law18_awake_ok  {r : Bool} (hF : F_law18_awake = some r) (low : List AObj) :
    Yd Try.prog 15 [] low fun x low' => x = .bool r ∧ low' = low := by
 refine Xf (nt := 75) (rs := [.tmp 0]) Try.func15 rfl rfl (Yn rfl) rfl (Vq (Q' := FnE (fun E' lw lc => Xo E' lw lc [(0, .bool r)] low [])) ?_ ?_)
 ·unfold F_law18_awake at hF; refine Vf (Vd (Va (Xr rfl) rfl (Ve (Vf (Vd (Va (rd_build (vs := [(0, .int .i64 (-1)), (3, .bool true), (2, .int .i64 1)]) (ds := [.int .i64 (-1), .int .i64 0, .int .i64 1, .bool true, .bool false]) tz_36 rfl rfl tp_36 ⟨rfl, rfl, rfl, rfl, rfl, rfl, trivial⟩ (nt_all2 rfl) rfl) rfl (Va (rd_build (vs := [(0, .int .i64 0), (3, .bool true), (2, .int .i64 1)]) (ds := [.int .i64 0, .int .i64 0, .int .i64 1, .bool true, .bool false]) tz_36 rfl rfl tp_36 ⟨rfl, rfl, rfl, rfl, rfl, rfl, trivial⟩ (nt_all2 rfl) rfl) rfl (Vh (vef_litF (es := Yj T_Switch.enc [(T_Switch.mk (-1) 0 1 true false), (T_Switch.mk 0 0 1 true false)]) ⟨rfl, rfl, rfl, rfl, trivial⟩ rfl rfl (nt_all rfl) te_25 ts_36 tz_36 rfl rfl (Yo _) (by decide) (lt_map T_Switch.enc_lt)) rfl ?_)))))))); refine Vh (vef_litF (es := Yj (Yk .i64) [1]) ⟨rfl, rfl, trivial⟩ rfl rfl (nt_all rfl) te_26 ts_3 tz_3 rfl rfl (Yo _) (by decide) (lt_map (fun _ => .int _ _))) rfl (Va (rd_build (vs := [(0, .vs 5 (Yj T_Switch.enc [(T_Switch.mk (-1) 0 1 true false), (T_Switch.mk 0 0 1 true false)])), (1, .vs 1 (Yj (Yk .i64) [1])), (2, .int .i64 5)]) (ds := [.vs 5 (Yj T_Switch.enc [(T_Switch.mk (-1) 0 1 true false), (T_Switch.mk 0 0 1 true false)]), .vs 1 (Yj (Yk .i64) [1]), .int .i64 5]) tz_28 rfl rfl tp_28 ⟨rfl, rfl, rfl, rfl, rfl, rfl, trivial⟩ (nt_all2 rfl) rfl) rfl (Vh (Xv rfl rfl tz_28 rfl rfl (Yo _) rfl) rfl (Vh (Xi (p := .agg [.vs 5 (Yj T_Switch.enc [(T_Switch.mk (-1) 0 1 true false), (T_Switch.mk 0 0 1 true false)]), .vs 1 (Yj (Yk .i64) [1]), .int .i64 5]) (e' := .agg [.vs 5 (Yj T_Switch.enc [(T_Switch.mk (-1) 0 1 true false), (T_Switch.mk 0 0 1 true false)]), .vs 1 (Yj (Yk .i64) [1]), .int .i64 5]) rfl (Vg rfl rfl) rfl rfl ts_28 rfl (Yc rfl) rfl (Yn rfl) rfl (Xx rfl rfl)) rfl (Ve (Vf (Vd ?_)))))); obtain ⟨x1, h2, hF⟩ := Xz hF; refine Va (Vv (ds := [.vs 5 (Yj T_Switch.enc [(T_Switch.mk (-1) 0 1 true false), (T_Switch.mk 0 0 1 true false)]), .vs 1 (Yj (Yk .i64) [1]), .int .i64 5]) rfl (Vg rfl rfl) rfl ta_28 ts_28 rfl rfl rfl) rfl (Vh (vef_callN (r := .tup [.agg [.sl (low.length + 1) 0 0 (x1.1.Switches).length, .vs 1 (Yj (Yk .i64) x1.1.Zones), .int .i64 x1.1.Reply], .int .i64 x1.2]) (os := [⟨36, 5, Yj T_Switch.enc x1.1.Switches, 0⟩]) rfl Try.call16 (F_feeder_Open_ok h2 _ (len_app rfl rfl))) rfl (Va (rd_mvT rfl) rfl (Va (rd_extract rfl rfl) rfl (Va (rd_extract rfl rfl) rfl (Vh (Xv rfl rfl tz_28 rfl rfl (Yo _) rfl) rfl (Vh (Xi (p := .agg [.sl (low.length + 1) 0 0 (x1.1.Switches).length, .vs 1 (Yj (Yk .i64) x1.1.Zones), .int .i64 x1.1.Reply]) (e' := .agg [.sl (low.length + 1) 0 0 (x1.1.Switches).length, .vs 1 (Yj (Yk .i64) x1.1.Zones), .int .i64 x1.1.Reply]) rfl (Vg rfl rfl) rfl rfl ts_28 rfl (Yc rfl) rfl (Yn rfl) rfl (Xx rfl rfl)) rfl (Va (Vx rfl) rfl (Ve ?_)))))))); refine Vf (Vd ?_); obtain ⟨x3, h4, hF⟩ := Xz hF; refine Va (Vv (ds := [.sl (low.length + 1) 0 0 (x1.1.Switches).length, .vs 1 (Yj (Yk .i64) x1.1.Zones), .int .i64 x1.1.Reply]) rfl (Vg rfl rfl) rfl ta_28 ts_28 rfl rfl rfl) rfl (vops_weak (weak_freezeN (E' := [(1, .ptr (low.length + 0) 0 0 0), (2, .ptr (low.length + 2) 0 0 0), (3, .int .i64 x1.2), (19, .agg (zA x1.1))]) (loc1 := [⟨28, 3, [.agg [.vs 5 (Yj T_Switch.enc [(T_Switch.mk (-1) 0 1 true false), (T_Switch.mk 0 0 1 true false)]), .vs 1 (Yj (Yk .i64) [1]), .int .i64 5]], 0⟩, ⟨36, 5, [], 0 + 1⟩, (zB x1.1 0)]) rfl 1 rfl (lt_map T_Switch.enc_lt) ⟨Xg rfl, Xg rfl, Xg rfl, cv_agg rfl ⟨cv_sl rfl rfl rfl (full_take rfl), Xg rfl, Xg rfl, trivial⟩, trivial⟩ ⟨.refl _, .refl _, cvo_agg ⟨cv_sl rfl rfl rfl (full_take rfl), Xg rfl, Xg rfl, trivial⟩, trivial⟩) (Vh (vef_callN (r := .tup [.agg [.sl (low.length + 3) 0 0 (x3.1.Switches).length, .vs 1 (Yj (Yk .i64) x3.1.Zones), .int .i64 x3.1.Reply], .vs 1 (Yj (Yk .i64) x3.2.1), .vs 1 (Yj (Yk .i64) x3.2.2.1), .int .i64 x3.2.2.2]) (os := [⟨36, 5, Yj T_Switch.enc x3.1.Switches, 0⟩]) rfl Try.call19 (F_feeder_Tick_ok h4 _ (len_app rfl rfl))) rfl (Va (rd_mvT rfl) rfl (Va (rd_extract rfl rfl) rfl (Va (rd_extract rfl rfl) rfl (Va (rd_extract rfl rfl) rfl (Va (rd_extract rfl rfl) rfl (Vh (Xv rfl rfl tz_28 rfl rfl (Yo _) rfl) rfl ?_)))))))); refine Vh (Xi (p := .agg [.sl (low.length + 3) 0 0 (x3.1.Switches).length, .vs 1 (Yj (Yk .i64) x3.1.Zones), .int .i64 x3.1.Reply]) (e' := .agg [.sl (low.length + 3) 0 0 (x3.1.Switches).length, .vs 1 (Yj (Yk .i64) x3.1.Zones), .int .i64 x3.1.Reply]) rfl (Vg rfl rfl) rfl rfl ts_28 rfl (Yc rfl) rfl (Yn rfl) rfl (Xx rfl rfl)) rfl (Va (rd_asV rfl) rfl (Va (rd_asV rfl) rfl (Va (Vx rfl) rfl (Ve (Vf (Vd ?_)))))); obtain ⟨x5, h6, hF⟩ := Xz hF
  rcases Yp (decide (x5 = 0)) with c7 | c7
  ·have hF := Xk c7 hF; obtain ⟨x8, h9, hF⟩ := Xz hF
   rcases Yp (decide (x8 = 1)) with c10 | c10
   ·have hF := Xk c10 hF
    rcases Yp (decide (x1.2 = 0)) with c11 | c11
    ·have hF := Xk c11 hF; obtain ⟨x12, h13, hF⟩ := Xz hF
     rcases Yp (decide (x12 = 0)) with c14 | c14
     ·have hF := Xk c14 hF; obtain ⟨x15, h16, hF⟩ := Xz hF
      rcases Yp (decide (x15 = 15)) with c17 | c17
      ·have hF := Xk c17 hF
       rcases Yp (decide (x3.2.2.2 = 0)) with c18 | c18
       ·have hF := Xk c18 hF; obtain ⟨x19, h20, hF⟩ := Xz hF
        rcases Yp x19 with c21 | c21
        ·have hF := Xk c21 hF; obtain ⟨x22, h23, hF⟩ := Xz hF
         rcases Yp x22 with c24 | c24
         ·have hF := Xk c24 hF
          rcases Yp (decide (((x3.1.Switches).length : Int) = 2)) with c25 | c25
          ·have hF := Xk c25 hF; obtain ⟨x26, h27, hF⟩ := Xz hF; refine Va (Vv (ds := [.vs 5 (Yj T_Switch.enc [(T_Switch.mk (-1) 0 1 true false), (T_Switch.mk 0 0 1 true false)]), .vs 1 (Yj (Yk .i64) [1]), .int .i64 5]) rfl (Vg rfl rfl) rfl ta_28 ts_28 rfl rfl rfl) rfl (Vh (Vs rfl Try.call22 (F_feeder_Check_ok h6 _)) rfl (Va (Vz rfl rfl) rfl (Va (Vj rfl) rfl (Vt rfl rfl c7 (Va (Vv (ds := [.vs 5 (Yj T_Switch.enc [(T_Switch.mk (-1) 0 1 true false), (T_Switch.mk 0 0 1 true false)]), .vs 1 (Yj (Yk .i64) [1]), .int .i64 5]) rfl (Vg rfl rfl) rfl ta_28 ts_28 rfl rfl rfl) rfl (Vt rfl rfl c7 (Vh (Vs rfl Try.call20 (F_feeder_Live_ok h9 _)) rfl (Vt rfl rfl c7 ?_)))))))); refine Va (Vz rfl rfl) rfl (Va (Vn (congrArg Yl c7) rfl) rfl (Va (Vj rfl) rfl (Vt rfl rfl c10 (Va (Vo rfl) rfl (Vt rfl rfl c10 (Va (Vz rfl rfl) rfl (Va (Vn (congrArg Yl c10) rfl) rfl (Va (Vj rfl) rfl ?_)))))))); refine Vt rfl rfl c11 (Va (Vv (ds := (zA x1.1)) rfl (Vg rfl rfl) rfl ta_28 ts_28 rfl rfl rfl) rfl (Vt rfl rfl c11 (Vh (Vs rfl Try.call20 (F_feeder_Live_ok h13 _)) rfl (Vt rfl rfl c11 (Va (Vz rfl rfl) rfl (Va (Vn (congrArg Yl c11) rfl) rfl (Va (Vj rfl) rfl (Vt rfl rfl c14 ?_)))))))); refine Va (Vv (ds := (zA x1.1)) rfl (Vg rfl rfl) rfl ta_28 ts_28 rfl rfl rfl) rfl (Vt rfl rfl c14 (Vh (Vs rfl Try.call27 (F_feeder_Due_ok h16 _)) rfl (Vt rfl rfl c14 (Va (Vz rfl rfl) rfl (Va (Vn (congrArg Yl c14) rfl) rfl (Va (Vj rfl) rfl (Vt rfl rfl c17 (Va (Vo rfl) rfl ?_)))))))); refine Vt rfl rfl c17 (Va (Vz rfl rfl) rfl (Va (Vn (congrArg Yl c17) rfl) rfl (Va (Vj rfl) rfl (Vt rfl rfl c18 (Va (rd_mvV rfl) rfl (Vt rfl rfl c18 (Vh (vef_litF (es := Yj (Yk .i64) [1]) ⟨rfl, rfl, trivial⟩ rfl rfl (nt_all rfl) te_26 ts_3 tz_3 rfl rfl (Yo _) (by decide) (lt_map (fun _ => .int _ _))) rfl (Vt rfl rfl c18 ?_)))))))); refine Vh (Vs rfl Try.call23 (F_ref01_Ints_ok h20 _)) rfl (Va (Vn (congrArg Yl c18) rfl) rfl (Va (Vj rfl) rfl (Vt rfl rfl c21 (Va (rd_mvV rfl) rfl (Vt rfl rfl c21 (Vh (vef_litF (es := Yj (Yk .i64) [0]) ⟨rfl, rfl, trivial⟩ rfl rfl (nt_all rfl) te_26 ts_3 tz_3 rfl rfl (Yo _) (by decide) (lt_map (fun _ => .int _ _))) rfl (Vt rfl rfl c21 (Vh (Vs rfl Try.call23 (F_ref01_Ints_ok h23 _)) rfl ?_)))))))); refine Va (Vn (congrArg Yl c21) rfl) rfl (Va (Vj rfl) rfl (Vt rfl rfl c24 (Va (Vc rfl tf_28_0 ts_25 (by decide)) rfl (Vt rfl rfl c24 (Va (Vi rfl (Vg rfl rfl) rfl ta_25 rfl) rfl (Vt rfl rfl c24 (Va (rd_lenS rfl (Vg rfl rfl) rfl rfl te_25) rfl (Vt rfl rfl c24 ?_)))))))); refine Va (Vz rfl rfl) rfl (Va (Vn (congrArg Yl c24) rfl) rfl (Va (Vj rfl) rfl (Vt rfl rfl c25 (Va (Vc rfl tf_28_0 ts_25 (by decide)) rfl (Vt rfl rfl c25 (Va (Vi rfl (Vg rfl rfl) rfl ta_25 rfl) rfl (Vt rfl rfl c25 (Va (rd_ixS rfl rfl rfl (Vg rfl rfl) h27 te_25 ts_36) rfl ?_)))))))); refine Vt rfl rfl c25 (Va (Vc rfl tf_36_3 ts_4 (by decide)) rfl (Vt rfl rfl c25 (Va (rd_ldL1 rfl (Vg rfl rfl) (Ye h27).2 ta_4 rfl) rfl (Vt rfl rfl c25 (Va (rd_not rfl) rfl (Va (Vn (congrArg Yl c25) rfl) rfl (Va (Xr rfl) rfl (Ve ?_)))))))); refine Vu ?_; obtain rfl := Ym hF; refine fnR ?_; exact Vl rfl [] (by decide) ⟨Vk rfl (.bool _), trivial⟩ trivial
          ·have hF := Xl c25 hF; refine Va (Vv (ds := [.vs 5 (Yj T_Switch.enc [(T_Switch.mk (-1) 0 1 true false), (T_Switch.mk 0 0 1 true false)]), .vs 1 (Yj (Yk .i64) [1]), .int .i64 5]) rfl (Vg rfl rfl) rfl ta_28 ts_28 rfl rfl rfl) rfl (Vh (Vs rfl Try.call22 (F_feeder_Check_ok h6 _)) rfl (Va (Vz rfl rfl) rfl (Va (Vj rfl) rfl (Vt rfl rfl c7 (Va (Vv (ds := [.vs 5 (Yj T_Switch.enc [(T_Switch.mk (-1) 0 1 true false), (T_Switch.mk 0 0 1 true false)]), .vs 1 (Yj (Yk .i64) [1]), .int .i64 5]) rfl (Vg rfl rfl) rfl ta_28 ts_28 rfl rfl rfl) rfl (Vt rfl rfl c7 (Vh (Vs rfl Try.call20 (F_feeder_Live_ok h9 _)) rfl (Vt rfl rfl c7 ?_)))))))); refine Va (Vz rfl rfl) rfl (Va (Vn (congrArg Yl c7) rfl) rfl (Va (Vj rfl) rfl (Vt rfl rfl c10 (Va (Vo rfl) rfl (Vt rfl rfl c10 (Va (Vz rfl rfl) rfl (Va (Vn (congrArg Yl c10) rfl) rfl (Va (Vj rfl) rfl ?_)))))))); refine Vt rfl rfl c11 (Va (Vv (ds := (zA x1.1)) rfl (Vg rfl rfl) rfl ta_28 ts_28 rfl rfl rfl) rfl (Vt rfl rfl c11 (Vh (Vs rfl Try.call20 (F_feeder_Live_ok h13 _)) rfl (Vt rfl rfl c11 (Va (Vz rfl rfl) rfl (Va (Vn (congrArg Yl c11) rfl) rfl (Va (Vj rfl) rfl (Vt rfl rfl c14 ?_)))))))); refine Va (Vv (ds := (zA x1.1)) rfl (Vg rfl rfl) rfl ta_28 ts_28 rfl rfl rfl) rfl (Vt rfl rfl c14 (Vh (Vs rfl Try.call27 (F_feeder_Due_ok h16 _)) rfl (Vt rfl rfl c14 (Va (Vz rfl rfl) rfl (Va (Vn (congrArg Yl c14) rfl) rfl (Va (Vj rfl) rfl (Vt rfl rfl c17 (Va (Vo rfl) rfl ?_)))))))); refine Vt rfl rfl c17 (Va (Vz rfl rfl) rfl (Va (Vn (congrArg Yl c17) rfl) rfl (Va (Vj rfl) rfl (Vt rfl rfl c18 (Va (rd_mvV rfl) rfl (Vt rfl rfl c18 (Vh (vef_litF (es := Yj (Yk .i64) [1]) ⟨rfl, rfl, trivial⟩ rfl rfl (nt_all rfl) te_26 ts_3 tz_3 rfl rfl (Yo _) (by decide) (lt_map (fun _ => .int _ _))) rfl (Vt rfl rfl c18 ?_)))))))); refine Vh (Vs rfl Try.call23 (F_ref01_Ints_ok h20 _)) rfl (Va (Vn (congrArg Yl c18) rfl) rfl (Va (Vj rfl) rfl (Vt rfl rfl c21 (Va (rd_mvV rfl) rfl (Vt rfl rfl c21 (Vh (vef_litF (es := Yj (Yk .i64) [0]) ⟨rfl, rfl, trivial⟩ rfl rfl (nt_all rfl) te_26 ts_3 tz_3 rfl rfl (Yo _) (by decide) (lt_map (fun _ => .int _ _))) rfl (Vt rfl rfl c21 (Vh (Vs rfl Try.call23 (F_ref01_Ints_ok h23 _)) rfl ?_)))))))); refine Va (Vn (congrArg Yl c21) rfl) rfl (Va (Vj rfl) rfl (Vt rfl rfl c24 (Va (Vc rfl tf_28_0 ts_25 (by decide)) rfl (Vt rfl rfl c24 (Va (Vi rfl (Vg rfl rfl) rfl ta_25 rfl) rfl (Vt rfl rfl c24 (Va (rd_lenS rfl (Vg rfl rfl) rfl rfl te_25) rfl (Vt rfl rfl c24 ?_)))))))); refine Va (Vz rfl rfl) rfl (Va (Vn (congrArg Yl c24) rfl) rfl (Va (Vj rfl) rfl (Vb rfl rfl (Yi c25) rfl (Vb rfl rfl (Yi c25) rfl (Vb rfl rfl (Yi c25) rfl (Vb rfl rfl (Yi c25) rfl (Vb rfl rfl (Yi c25) rfl (Vb rfl rfl (Yi c25) rfl ?_)))))))); refine Va (Vm (congrArg Yl c25) rfl) rfl (Va (Xr rfl) rfl (Ve (Vu ?_))); obtain rfl := Ym hF; refine fnR ?_; exact Vl rfl [] (by decide) ⟨Vk rfl (.bool _), trivial⟩ trivial
         ·have hF := Xl c24 hF; refine Va (Vv (ds := [.vs 5 (Yj T_Switch.enc [(T_Switch.mk (-1) 0 1 true false), (T_Switch.mk 0 0 1 true false)]), .vs 1 (Yj (Yk .i64) [1]), .int .i64 5]) rfl (Vg rfl rfl) rfl ta_28 ts_28 rfl rfl rfl) rfl (Vh (Vs rfl Try.call22 (F_feeder_Check_ok h6 _)) rfl (Va (Vz rfl rfl) rfl (Va (Vj rfl) rfl (Vt rfl rfl c7 (Va (Vv (ds := [.vs 5 (Yj T_Switch.enc [(T_Switch.mk (-1) 0 1 true false), (T_Switch.mk 0 0 1 true false)]), .vs 1 (Yj (Yk .i64) [1]), .int .i64 5]) rfl (Vg rfl rfl) rfl ta_28 ts_28 rfl rfl rfl) rfl (Vt rfl rfl c7 (Vh (Vs rfl Try.call20 (F_feeder_Live_ok h9 _)) rfl (Vt rfl rfl c7 ?_)))))))); refine Va (Vz rfl rfl) rfl (Va (Vn (congrArg Yl c7) rfl) rfl (Va (Vj rfl) rfl (Vt rfl rfl c10 (Va (Vo rfl) rfl (Vt rfl rfl c10 (Va (Vz rfl rfl) rfl (Va (Vn (congrArg Yl c10) rfl) rfl (Va (Vj rfl) rfl ?_)))))))); refine Vt rfl rfl c11 (Va (Vv (ds := (zA x1.1)) rfl (Vg rfl rfl) rfl ta_28 ts_28 rfl rfl rfl) rfl (Vt rfl rfl c11 (Vh (Vs rfl Try.call20 (F_feeder_Live_ok h13 _)) rfl (Vt rfl rfl c11 (Va (Vz rfl rfl) rfl (Va (Vn (congrArg Yl c11) rfl) rfl (Va (Vj rfl) rfl (Vt rfl rfl c14 ?_)))))))); refine Va (Vv (ds := (zA x1.1)) rfl (Vg rfl rfl) rfl ta_28 ts_28 rfl rfl rfl) rfl (Vt rfl rfl c14 (Vh (Vs rfl Try.call27 (F_feeder_Due_ok h16 _)) rfl (Vt rfl rfl c14 (Va (Vz rfl rfl) rfl (Va (Vn (congrArg Yl c14) rfl) rfl (Va (Vj rfl) rfl (Vt rfl rfl c17 (Va (Vo rfl) rfl ?_)))))))); refine Vt rfl rfl c17 (Va (Vz rfl rfl) rfl (Va (Vn (congrArg Yl c17) rfl) rfl (Va (Vj rfl) rfl (Vt rfl rfl c18 (Va (rd_mvV rfl) rfl (Vt rfl rfl c18 (Vh (vef_litF (es := Yj (Yk .i64) [1]) ⟨rfl, rfl, trivial⟩ rfl rfl (nt_all rfl) te_26 ts_3 tz_3 rfl rfl (Yo _) (by decide) (lt_map (fun _ => .int _ _))) rfl (Vt rfl rfl c18 ?_)))))))); refine Vh (Vs rfl Try.call23 (F_ref01_Ints_ok h20 _)) rfl (Va (Vn (congrArg Yl c18) rfl) rfl (Va (Vj rfl) rfl (Vt rfl rfl c21 (Va (rd_mvV rfl) rfl (Vt rfl rfl c21 (Vh (vef_litF (es := Yj (Yk .i64) [0]) ⟨rfl, rfl, trivial⟩ rfl rfl (nt_all rfl) te_26 ts_3 tz_3 rfl rfl (Yo _) (by decide) (lt_map (fun _ => .int _ _))) rfl (Vt rfl rfl c21 (Vh (Vs rfl Try.call23 (F_ref01_Ints_ok h23 _)) rfl ?_)))))))); refine Va (Vn (congrArg Yl c21) rfl) rfl (Va (Vj rfl) rfl (Vb rfl rfl (Yi c24) rfl (Vb rfl rfl (Yi c24) rfl (Vb rfl rfl (Yi c24) rfl (Vb rfl rfl (Yi c24) rfl (Va (Vm (congrArg Yl c24) rfl) rfl (Va (Vj rfl) rfl (Vb rfl rfl (by decide) rfl ?_)))))))); refine Vb rfl rfl (by decide) rfl (Vb rfl rfl (by decide) rfl (Vb rfl rfl (by decide) rfl (Vb rfl rfl (by decide) rfl (Vb rfl rfl (by decide) rfl (Va (Vm rfl rfl) rfl (Va (Xr rfl) rfl (Ve (Vu ?_)))))))); obtain rfl := Ym hF; refine fnR ?_; exact Vl rfl [] (by decide) ⟨Vk rfl (.bool _), trivial⟩ trivial
        ·have hF := Xl c21 hF; refine Va (Vv (ds := [.vs 5 (Yj T_Switch.enc [(T_Switch.mk (-1) 0 1 true false), (T_Switch.mk 0 0 1 true false)]), .vs 1 (Yj (Yk .i64) [1]), .int .i64 5]) rfl (Vg rfl rfl) rfl ta_28 ts_28 rfl rfl rfl) rfl (Vh (Vs rfl Try.call22 (F_feeder_Check_ok h6 _)) rfl (Va (Vz rfl rfl) rfl (Va (Vj rfl) rfl (Vt rfl rfl c7 (Va (Vv (ds := [.vs 5 (Yj T_Switch.enc [(T_Switch.mk (-1) 0 1 true false), (T_Switch.mk 0 0 1 true false)]), .vs 1 (Yj (Yk .i64) [1]), .int .i64 5]) rfl (Vg rfl rfl) rfl ta_28 ts_28 rfl rfl rfl) rfl (Vt rfl rfl c7 (Vh (Vs rfl Try.call20 (F_feeder_Live_ok h9 _)) rfl (Vt rfl rfl c7 ?_)))))))); refine Va (Vz rfl rfl) rfl (Va (Vn (congrArg Yl c7) rfl) rfl (Va (Vj rfl) rfl (Vt rfl rfl c10 (Va (Vo rfl) rfl (Vt rfl rfl c10 (Va (Vz rfl rfl) rfl (Va (Vn (congrArg Yl c10) rfl) rfl (Va (Vj rfl) rfl ?_)))))))); refine Vt rfl rfl c11 (Va (Vv (ds := (zA x1.1)) rfl (Vg rfl rfl) rfl ta_28 ts_28 rfl rfl rfl) rfl (Vt rfl rfl c11 (Vh (Vs rfl Try.call20 (F_feeder_Live_ok h13 _)) rfl (Vt rfl rfl c11 (Va (Vz rfl rfl) rfl (Va (Vn (congrArg Yl c11) rfl) rfl (Va (Vj rfl) rfl (Vt rfl rfl c14 ?_)))))))); refine Va (Vv (ds := (zA x1.1)) rfl (Vg rfl rfl) rfl ta_28 ts_28 rfl rfl rfl) rfl (Vt rfl rfl c14 (Vh (Vs rfl Try.call27 (F_feeder_Due_ok h16 _)) rfl (Vt rfl rfl c14 (Va (Vz rfl rfl) rfl (Va (Vn (congrArg Yl c14) rfl) rfl (Va (Vj rfl) rfl (Vt rfl rfl c17 (Va (Vo rfl) rfl ?_)))))))); refine Vt rfl rfl c17 (Va (Vz rfl rfl) rfl (Va (Vn (congrArg Yl c17) rfl) rfl (Va (Vj rfl) rfl (Vt rfl rfl c18 (Va (rd_mvV rfl) rfl (Vt rfl rfl c18 (Vh (vef_litF (es := Yj (Yk .i64) [1]) ⟨rfl, rfl, trivial⟩ rfl rfl (nt_all rfl) te_26 ts_3 tz_3 rfl rfl (Yo _) (by decide) (lt_map (fun _ => .int _ _))) rfl (Vt rfl rfl c18 ?_)))))))); refine Vh (Vs rfl Try.call23 (F_ref01_Ints_ok h20 _)) rfl (Va (Vn (congrArg Yl c18) rfl) rfl (Va (Vj rfl) rfl (Vb rfl rfl (Yi c21) rfl (Vb rfl rfl (Yi c21) rfl (Vb rfl rfl (Yi c21) rfl (Va (Vm (congrArg Yl c21) rfl) rfl (Va (Vj rfl) rfl (Vb rfl rfl (by decide) rfl ?_)))))))); refine Vb rfl rfl (by decide) rfl (Vb rfl rfl (by decide) rfl (Vb rfl rfl (by decide) rfl (Va (Vm rfl rfl) rfl (Va (Vj rfl) rfl (Vb rfl rfl (by decide) rfl (Vb rfl rfl (by decide) rfl (Vb rfl rfl (by decide) rfl (Vb rfl rfl (by decide) rfl ?_)))))))); refine Vb rfl rfl (by decide) rfl (Vb rfl rfl (by decide) rfl (Va (Vm rfl rfl) rfl (Va (Xr rfl) rfl (Ve (Vu ?_))))); obtain rfl := Ym hF; refine fnR ?_; exact Vl rfl [] (by decide) ⟨Vk rfl (.bool _), trivial⟩ trivial
       ·have hF := Xl c18 hF; refine Va (Vv (ds := [.vs 5 (Yj T_Switch.enc [(T_Switch.mk (-1) 0 1 true false), (T_Switch.mk 0 0 1 true false)]), .vs 1 (Yj (Yk .i64) [1]), .int .i64 5]) rfl (Vg rfl rfl) rfl ta_28 ts_28 rfl rfl rfl) rfl (Vh (Vs rfl Try.call22 (F_feeder_Check_ok h6 _)) rfl (Va (Vz rfl rfl) rfl (Va (Vj rfl) rfl (Vt rfl rfl c7 (Va (Vv (ds := [.vs 5 (Yj T_Switch.enc [(T_Switch.mk (-1) 0 1 true false), (T_Switch.mk 0 0 1 true false)]), .vs 1 (Yj (Yk .i64) [1]), .int .i64 5]) rfl (Vg rfl rfl) rfl ta_28 ts_28 rfl rfl rfl) rfl (Vt rfl rfl c7 (Vh (Vs rfl Try.call20 (F_feeder_Live_ok h9 _)) rfl (Vt rfl rfl c7 ?_)))))))); refine Va (Vz rfl rfl) rfl (Va (Vn (congrArg Yl c7) rfl) rfl (Va (Vj rfl) rfl (Vt rfl rfl c10 (Va (Vo rfl) rfl (Vt rfl rfl c10 (Va (Vz rfl rfl) rfl (Va (Vn (congrArg Yl c10) rfl) rfl (Va (Vj rfl) rfl ?_)))))))); refine Vt rfl rfl c11 (Va (Vv (ds := (zA x1.1)) rfl (Vg rfl rfl) rfl ta_28 ts_28 rfl rfl rfl) rfl (Vt rfl rfl c11 (Vh (Vs rfl Try.call20 (F_feeder_Live_ok h13 _)) rfl (Vt rfl rfl c11 (Va (Vz rfl rfl) rfl (Va (Vn (congrArg Yl c11) rfl) rfl (Va (Vj rfl) rfl (Vt rfl rfl c14 ?_)))))))); refine Va (Vv (ds := (zA x1.1)) rfl (Vg rfl rfl) rfl ta_28 ts_28 rfl rfl rfl) rfl (Vt rfl rfl c14 (Vh (Vs rfl Try.call27 (F_feeder_Due_ok h16 _)) rfl (Vt rfl rfl c14 (Va (Vz rfl rfl) rfl (Va (Vn (congrArg Yl c14) rfl) rfl (Va (Vj rfl) rfl (Vt rfl rfl c17 (Va (Vo rfl) rfl ?_)))))))); refine Vt rfl rfl c17 (Va (Vz rfl rfl) rfl (Va (Vn (congrArg Yl c17) rfl) rfl (Va (Vj rfl) rfl (Vb rfl rfl (Yi c18) rfl (Vb rfl rfl (Yi c18) rfl (Vb rfl rfl (Yi c18) rfl (Va (Vm (congrArg Yl c18) rfl) rfl (Va (Vj rfl) rfl ?_)))))))); refine Vb rfl rfl (by decide) rfl (Vb rfl rfl (by decide) rfl (Vb rfl rfl (by decide) rfl (Va (Vm rfl rfl) rfl (Va (Vj rfl) rfl (Vb rfl rfl (by decide) rfl (Vb rfl rfl (by decide) rfl (Vb rfl rfl (by decide) rfl (Vb rfl rfl (by decide) rfl ?_)))))))); refine Va (Vm rfl rfl) rfl (Va (Vj rfl) rfl (Vb rfl rfl (by decide) rfl (Vb rfl rfl (by decide) rfl (Vb rfl rfl (by decide) rfl (Vb rfl rfl (by decide) rfl (Vb rfl rfl (by decide) rfl (Vb rfl rfl (by decide) rfl (Va (Vm rfl rfl) rfl ?_)))))))); refine Va (Xr rfl) rfl (Ve (Vu ?_)); obtain rfl := Ym hF; refine fnR ?_; exact Vl rfl [] (by decide) ⟨Vk rfl (.bool _), trivial⟩ trivial
      ·have hF := Xl c17 hF; refine Va (Vv (ds := [.vs 5 (Yj T_Switch.enc [(T_Switch.mk (-1) 0 1 true false), (T_Switch.mk 0 0 1 true false)]), .vs 1 (Yj (Yk .i64) [1]), .int .i64 5]) rfl (Vg rfl rfl) rfl ta_28 ts_28 rfl rfl rfl) rfl (Vh (Vs rfl Try.call22 (F_feeder_Check_ok h6 _)) rfl (Va (Vz rfl rfl) rfl (Va (Vj rfl) rfl (Vt rfl rfl c7 (Va (Vv (ds := [.vs 5 (Yj T_Switch.enc [(T_Switch.mk (-1) 0 1 true false), (T_Switch.mk 0 0 1 true false)]), .vs 1 (Yj (Yk .i64) [1]), .int .i64 5]) rfl (Vg rfl rfl) rfl ta_28 ts_28 rfl rfl rfl) rfl (Vt rfl rfl c7 (Vh (Vs rfl Try.call20 (F_feeder_Live_ok h9 _)) rfl (Vt rfl rfl c7 ?_)))))))); refine Va (Vz rfl rfl) rfl (Va (Vn (congrArg Yl c7) rfl) rfl (Va (Vj rfl) rfl (Vt rfl rfl c10 (Va (Vo rfl) rfl (Vt rfl rfl c10 (Va (Vz rfl rfl) rfl (Va (Vn (congrArg Yl c10) rfl) rfl (Va (Vj rfl) rfl ?_)))))))); refine Vt rfl rfl c11 (Va (Vv (ds := (zA x1.1)) rfl (Vg rfl rfl) rfl ta_28 ts_28 rfl rfl rfl) rfl (Vt rfl rfl c11 (Vh (Vs rfl Try.call20 (F_feeder_Live_ok h13 _)) rfl (Vt rfl rfl c11 (Va (Vz rfl rfl) rfl (Va (Vn (congrArg Yl c11) rfl) rfl (Va (Vj rfl) rfl (Vt rfl rfl c14 ?_)))))))); refine Va (Vv (ds := (zA x1.1)) rfl (Vg rfl rfl) rfl ta_28 ts_28 rfl rfl rfl) rfl (Vt rfl rfl c14 (Vh (Vs rfl Try.call27 (F_feeder_Due_ok h16 _)) rfl (Vt rfl rfl c14 (Va (Vz rfl rfl) rfl (Va (Vn (congrArg Yl c14) rfl) rfl (Va (Vj rfl) rfl (Vb rfl rfl (Yi c17) rfl (Vb rfl rfl (Yi c17) rfl ?_)))))))); refine Va (Vm (congrArg Yl c17) rfl) rfl (Va (Vj rfl) rfl (Vb rfl rfl (by decide) rfl (Vb rfl rfl (by decide) rfl (Vb rfl rfl (by decide) rfl (Va (Vm rfl rfl) rfl (Va (Vj rfl) rfl (Vb rfl rfl (by decide) rfl (Vb rfl rfl (by decide) rfl ?_)))))))); refine Vb rfl rfl (by decide) rfl (Va (Vm rfl rfl) rfl (Va (Vj rfl) rfl (Vb rfl rfl (by decide) rfl (Vb rfl rfl (by decide) rfl (Vb rfl rfl (by decide) rfl (Vb rfl rfl (by decide) rfl (Va (Vm rfl rfl) rfl (Va (Vj rfl) rfl ?_)))))))); refine Vb rfl rfl (by decide) rfl (Vb rfl rfl (by decide) rfl (Vb rfl rfl (by decide) rfl (Vb rfl rfl (by decide) rfl (Vb rfl rfl (by decide) rfl (Vb rfl rfl (by decide) rfl (Va (Vm rfl rfl) rfl (Va (Xr rfl) rfl (Ve ?_)))))))); refine Vu ?_; obtain rfl := Ym hF; refine fnR ?_; exact Vl rfl [] (by decide) ⟨Vk rfl (.bool _), trivial⟩ trivial
     ·have hF := Xl c14 hF; refine Va (Vv (ds := [.vs 5 (Yj T_Switch.enc [(T_Switch.mk (-1) 0 1 true false), (T_Switch.mk 0 0 1 true false)]), .vs 1 (Yj (Yk .i64) [1]), .int .i64 5]) rfl (Vg rfl rfl) rfl ta_28 ts_28 rfl rfl rfl) rfl (Vh (Vs rfl Try.call22 (F_feeder_Check_ok h6 _)) rfl (Va (Vz rfl rfl) rfl (Va (Vj rfl) rfl (Vt rfl rfl c7 (Va (Vv (ds := [.vs 5 (Yj T_Switch.enc [(T_Switch.mk (-1) 0 1 true false), (T_Switch.mk 0 0 1 true false)]), .vs 1 (Yj (Yk .i64) [1]), .int .i64 5]) rfl (Vg rfl rfl) rfl ta_28 ts_28 rfl rfl rfl) rfl (Vt rfl rfl c7 (Vh (Vs rfl Try.call20 (F_feeder_Live_ok h9 _)) rfl (Vt rfl rfl c7 ?_)))))))); refine Va (Vz rfl rfl) rfl (Va (Vn (congrArg Yl c7) rfl) rfl (Va (Vj rfl) rfl (Vt rfl rfl c10 (Va (Vo rfl) rfl (Vt rfl rfl c10 (Va (Vz rfl rfl) rfl (Va (Vn (congrArg Yl c10) rfl) rfl (Va (Vj rfl) rfl ?_)))))))); refine Vt rfl rfl c11 (Va (Vv (ds := (zA x1.1)) rfl (Vg rfl rfl) rfl ta_28 ts_28 rfl rfl rfl) rfl (Vt rfl rfl c11 (Vh (Vs rfl Try.call20 (F_feeder_Live_ok h13 _)) rfl (Vt rfl rfl c11 (Va (Vz rfl rfl) rfl (Va (Vn (congrArg Yl c11) rfl) rfl (Va (Vj rfl) rfl (Vb rfl rfl (Yi c14) rfl ?_)))))))); refine Vb rfl rfl (Yi c14) rfl (Vb rfl rfl (Yi c14) rfl (Va (Vm (congrArg Yl c14) rfl) rfl (Va (Vj rfl) rfl (Vb rfl rfl (by decide) rfl (Vb rfl rfl (by decide) rfl (Va (Vm rfl rfl) rfl (Va (Vj rfl) rfl (Vb rfl rfl (by decide) rfl ?_)))))))); refine Vb rfl rfl (by decide) rfl (Vb rfl rfl (by decide) rfl (Va (Vm rfl rfl) rfl (Va (Vj rfl) rfl (Vb rfl rfl (by decide) rfl (Vb rfl rfl (by decide) rfl (Vb rfl rfl (by decide) rfl (Va (Vm rfl rfl) rfl (Va (Vj rfl) rfl ?_)))))))); refine Vb rfl rfl (by decide) rfl (Vb rfl rfl (by decide) rfl (Vb rfl rfl (by decide) rfl (Vb rfl rfl (by decide) rfl (Va (Vm rfl rfl) rfl (Va (Vj rfl) rfl (Vb rfl rfl (by decide) rfl (Vb rfl rfl (by decide) rfl (Vb rfl rfl (by decide) rfl ?_)))))))); refine Vb rfl rfl (by decide) rfl (Vb rfl rfl (by decide) rfl (Vb rfl rfl (by decide) rfl (Va (Vm rfl rfl) rfl (Va (Xr rfl) rfl (Ve (Vu ?_)))))); obtain rfl := Ym hF; refine fnR ?_; exact Vl rfl [] (by decide) ⟨Vk rfl (.bool _), trivial⟩ trivial
    ·have hF := Xl c11 hF; refine Va (Vv (ds := [.vs 5 (Yj T_Switch.enc [(T_Switch.mk (-1) 0 1 true false), (T_Switch.mk 0 0 1 true false)]), .vs 1 (Yj (Yk .i64) [1]), .int .i64 5]) rfl (Vg rfl rfl) rfl ta_28 ts_28 rfl rfl rfl) rfl (Vh (Vs rfl Try.call22 (F_feeder_Check_ok h6 _)) rfl (Va (Vz rfl rfl) rfl (Va (Vj rfl) rfl (Vt rfl rfl c7 (Va (Vv (ds := [.vs 5 (Yj T_Switch.enc [(T_Switch.mk (-1) 0 1 true false), (T_Switch.mk 0 0 1 true false)]), .vs 1 (Yj (Yk .i64) [1]), .int .i64 5]) rfl (Vg rfl rfl) rfl ta_28 ts_28 rfl rfl rfl) rfl (Vt rfl rfl c7 (Vh (Vs rfl Try.call20 (F_feeder_Live_ok h9 _)) rfl (Vt rfl rfl c7 ?_)))))))); refine Va (Vz rfl rfl) rfl (Va (Vn (congrArg Yl c7) rfl) rfl (Va (Vj rfl) rfl (Vt rfl rfl c10 (Va (Vo rfl) rfl (Vt rfl rfl c10 (Va (Vz rfl rfl) rfl (Va (Vn (congrArg Yl c10) rfl) rfl (Va (Vj rfl) rfl ?_)))))))); refine Vb rfl rfl (Yi c11) rfl (Vb rfl rfl (Yi c11) rfl (Vb rfl rfl (Yi c11) rfl (Va (Vm (congrArg Yl c11) rfl) rfl (Va (Vj rfl) rfl (Vb rfl rfl (by decide) rfl (Vb rfl rfl (by decide) rfl (Vb rfl rfl (by decide) rfl (Va (Vm rfl rfl) rfl ?_)))))))); refine Va (Vj rfl) rfl (Vb rfl rfl (by decide) rfl (Vb rfl rfl (by decide) rfl (Va (Vm rfl rfl) rfl (Va (Vj rfl) rfl (Vb rfl rfl (by decide) rfl (Vb rfl rfl (by decide) rfl (Vb rfl rfl (by decide) rfl (Va (Vm rfl rfl) rfl ?_)))))))); refine Va (Vj rfl) rfl (Vb rfl rfl (by decide) rfl (Vb rfl rfl (by decide) rfl (Vb rfl rfl (by decide) rfl (Va (Vm rfl rfl) rfl (Va (Vj rfl) rfl (Vb rfl rfl (by decide) rfl (Vb rfl rfl (by decide) rfl (Vb rfl rfl (by decide) rfl ?_)))))))); refine Vb rfl rfl (by decide) rfl (Va (Vm rfl rfl) rfl (Va (Vj rfl) rfl (Vb rfl rfl (by decide) rfl (Vb rfl rfl (by decide) rfl (Vb rfl rfl (by decide) rfl (Vb rfl rfl (by decide) rfl (Vb rfl rfl (by decide) rfl (Vb rfl rfl (by decide) rfl ?_)))))))); refine Va (Vm rfl rfl) rfl (Va (Xr rfl) rfl (Ve (Vu ?_))); obtain rfl := Ym hF; refine fnR ?_; exact Vl rfl [] (by decide) ⟨Vk rfl (.bool _), trivial⟩ trivial
   ·have hF := Xl c10 hF; refine Va (Vv (ds := [.vs 5 (Yj T_Switch.enc [(T_Switch.mk (-1) 0 1 true false), (T_Switch.mk 0 0 1 true false)]), .vs 1 (Yj (Yk .i64) [1]), .int .i64 5]) rfl (Vg rfl rfl) rfl ta_28 ts_28 rfl rfl rfl) rfl (Vh (Vs rfl Try.call22 (F_feeder_Check_ok h6 _)) rfl (Va (Vz rfl rfl) rfl (Va (Vj rfl) rfl (Vt rfl rfl c7 (Va (Vv (ds := [.vs 5 (Yj T_Switch.enc [(T_Switch.mk (-1) 0 1 true false), (T_Switch.mk 0 0 1 true false)]), .vs 1 (Yj (Yk .i64) [1]), .int .i64 5]) rfl (Vg rfl rfl) rfl ta_28 ts_28 rfl rfl rfl) rfl (Vt rfl rfl c7 (Vh (Vs rfl Try.call20 (F_feeder_Live_ok h9 _)) rfl (Vt rfl rfl c7 ?_)))))))); refine Va (Vz rfl rfl) rfl (Va (Vn (congrArg Yl c7) rfl) rfl (Va (Vj rfl) rfl (Vb rfl rfl (Yi c10) rfl (Vb rfl rfl (Yi c10) rfl (Va (Vm (congrArg Yl c10) rfl) rfl (Va (Vj rfl) rfl (Vb rfl rfl (by decide) rfl (Vb rfl rfl (by decide) rfl ?_)))))))); refine Vb rfl rfl (by decide) rfl (Va (Vm rfl rfl) rfl (Va (Vj rfl) rfl (Vb rfl rfl (by decide) rfl (Vb rfl rfl (by decide) rfl (Vb rfl rfl (by decide) rfl (Va (Vm rfl rfl) rfl (Va (Vj rfl) rfl (Vb rfl rfl (by decide) rfl ?_)))))))); refine Vb rfl rfl (by decide) rfl (Va (Vm rfl rfl) rfl (Va (Vj rfl) rfl (Vb rfl rfl (by decide) rfl (Vb rfl rfl (by decide) rfl (Vb rfl rfl (by decide) rfl (Va (Vm rfl rfl) rfl (Va (Vj rfl) rfl (Vb rfl rfl (by decide) rfl ?_)))))))); refine Vb rfl rfl (by decide) rfl (Vb rfl rfl (by decide) rfl (Va (Vm rfl rfl) rfl (Va (Vj rfl) rfl (Vb rfl rfl (by decide) rfl (Vb rfl rfl (by decide) rfl (Vb rfl rfl (by decide) rfl (Vb rfl rfl (by decide) rfl (Va (Vm rfl rfl) rfl ?_)))))))); refine Va (Vj rfl) rfl (Vb rfl rfl (by decide) rfl (Vb rfl rfl (by decide) rfl (Vb rfl rfl (by decide) rfl (Vb rfl rfl (by decide) rfl (Vb rfl rfl (by decide) rfl (Vb rfl rfl (by decide) rfl (Va (Vm rfl rfl) rfl (Va (Xr rfl) rfl ?_)))))))); refine Ve (Vu ?_); obtain rfl := Ym hF; refine fnR ?_; exact Vl rfl [] (by decide) ⟨Vk rfl (.bool _), trivial⟩ trivial
  ·have hF := Xl c7 hF; refine Va (Vv (ds := [.vs 5 (Yj T_Switch.enc [(T_Switch.mk (-1) 0 1 true false), (T_Switch.mk 0 0 1 true false)]), .vs 1 (Yj (Yk .i64) [1]), .int .i64 5]) rfl (Vg rfl rfl) rfl ta_28 ts_28 rfl rfl rfl) rfl (Vh (Vs rfl Try.call22 (F_feeder_Check_ok h6 _)) rfl (Va (Vz rfl rfl) rfl (Va (Vj rfl) rfl (Vb rfl rfl (Yi c7) rfl (Vb rfl rfl (Yi c7) rfl (Vb rfl rfl (Yi c7) rfl (Va (Vm (congrArg Yl c7) rfl) rfl (Va (Vj rfl) rfl ?_)))))))); refine Vb rfl rfl (by decide) rfl (Vb rfl rfl (by decide) rfl (Va (Vm rfl rfl) rfl (Va (Vj rfl) rfl (Vb rfl rfl (by decide) rfl (Vb rfl rfl (by decide) rfl (Vb rfl rfl (by decide) rfl (Va (Vm rfl rfl) rfl (Va (Vj rfl) rfl ?_)))))))); refine Vb rfl rfl (by decide) rfl (Vb rfl rfl (by decide) rfl (Vb rfl rfl (by decide) rfl (Va (Vm rfl rfl) rfl (Va (Vj rfl) rfl (Vb rfl rfl (by decide) rfl (Vb rfl rfl (by decide) rfl (Va (Vm rfl rfl) rfl (Va (Vj rfl) rfl ?_)))))))); refine Vb rfl rfl (by decide) rfl (Vb rfl rfl (by decide) rfl (Vb rfl rfl (by decide) rfl (Va (Vm rfl rfl) rfl (Va (Vj rfl) rfl (Vb rfl rfl (by decide) rfl (Vb rfl rfl (by decide) rfl (Vb rfl rfl (by decide) rfl (Va (Vm rfl rfl) rfl ?_)))))))); refine Va (Vj rfl) rfl (Vb rfl rfl (by decide) rfl (Vb rfl rfl (by decide) rfl (Vb rfl rfl (by decide) rfl (Vb rfl rfl (by decide) rfl (Va (Vm rfl rfl) rfl (Va (Vj rfl) rfl (Vb rfl rfl (by decide) rfl (Vb rfl rfl (by decide) rfl ?_)))))))); refine Vb rfl rfl (by decide) rfl (Vb rfl rfl (by decide) rfl (Vb rfl rfl (by decide) rfl (Vb rfl rfl (by decide) rfl (Va (Vm rfl rfl) rfl (Va (Xr rfl) rfl (Ve (Vu ?_))))))); obtain rfl := Ym hF; refine fnR ?_; exact Vl rfl [] (by decide) ⟨Vk rfl (.bool _), trivial⟩ trivial
 ·rintro _ _ _ _ ⟨he, hw⟩; refine ⟨_, _, _, hw, ?_⟩; exact Yb he [.bool r] ⟨rfl, trivial⟩ (.bool _) ⟨rfl, rfl⟩

theorem F_law18_FeederCloses_ok {p0 : List Int} {p1 : Int} {r : Bool} (hF : F_law18_FeederCloses p0 p1 = some r) (low : List AObj) :
    Yd Try.prog 3 [.vs 1 (Yj (Yk .u8) p0), .int .i64 p1] low fun x low' => x = .bool r ∧ low' = low := by
 refine Xf (nt := 110) (rs := [.tmp 4]) Try.func3 rfl rfl (Yn rfl) rfl (Vq (Q' := FnE (fun E' lw lc => Xo E' lw lc [(4, .bool r)] low [])) ?_ ?_)
 ·unfold F_law18_FeederCloses at hF; refine Vf (Vd (Va (Xr rfl) rfl (Ve (Vf (Vd ?_))))); obtain ⟨x1, h2, hF⟩ := Xz hF; refine Va (rd_mvV rfl) rfl (Vh (vef_callN (r := .ptr (low.length + 0) 0 0 0) (os := [(zF x1 0)]) rfl Try.call9 (F_draw_New_ok h2 _ (len_app rfl rfl))) rfl (Va (rd_asP rfl) rfl (Ve (Vf (Vd ?_))))); obtain ⟨x3, h4, hF⟩ := Xz hF; obtain ⟨x5, h6, hF⟩ := Xz hF; refine Va (Xw rfl) rfl (Va (Xw rfl) rfl (Vh (vef_callS (ps := [((low.length + 0), (zF x3.1 0))]) (r := .int .i64 x3.2) (os := []) (low1 := low) (loc1 := [(zF x3.1 0)]) (loc2 := [(zF x3.1 0)]) rfl Try.call11 (F_draw_Codes_Next_ok h4 (nd1 na0 nd0) (get_N rfl rfl) (len_app rfl rfl)) (sets_own (loc2 := [(zF x3.1 0)]) rfl 0 rfl sets_nil) rfl) rfl (Vh (vef_callS (ps := [((low.length + 0), (zF x5.1 0))]) (r := .agg [.sl (low.length + 1) 0 0 (x5.2.Switches).length, .sl (low.length + 2) 0 0 (x5.2.Zones).length, .int .i64 x5.2.Reply]) (os := [⟨36, 5, Yj T_Switch.enc x5.2.Switches, 0⟩, ⟨3, 1, Yj (Yk .i64) x5.2.Zones, 0⟩]) (low1 := low) (loc1 := [(zF x5.1 0)]) (loc2 := [(zF x5.1 0), ⟨36, 5, Yj T_Switch.enc x5.2.Switches, 0⟩, ⟨3, 1, Yj (Yk .i64) x5.2.Zones, 0⟩]) rfl Try.call10 (F_draw_Codes_Feeder_ok h6 (nd1 na0 nd0) (get_N rfl rfl) (len_app rfl rfl)) (sets_own (loc2 := [(zF x5.1 0)]) rfl 0 rfl sets_nil) rfl) rfl (Vh (Xv rfl rfl tz_28 rfl rfl (Yo _) rfl) rfl (Vh (Xi (p := .agg [.sl (low.length + 1) 0 0 (x5.2.Switches).length, .sl (low.length + 2) 0 0 (x5.2.Zones).length, .int .i64 x5.2.Reply]) (e' := .agg [.sl (low.length + 1) 0 0 (x5.2.Switches).length, .sl (low.length + 2) 0 0 (x5.2.Zones).length, .int .i64 x5.2.Reply]) rfl (Vg rfl rfl) rfl rfl ts_28 rfl (Yc rfl) rfl (Yn rfl) rfl (Xx rfl rfl)) rfl (Ve (Vf (Vd ?_)))))))); obtain ⟨x7, h8, hF⟩ := Xz hF; refine Va (Vo rfl) rfl (Va (Vc rfl tf_28_0 ts_25 (by decide)) rfl (Va (Vi rfl (Vg rfl rfl) rfl ta_25 rfl) rfl (Va (rd_lenS rfl (Vg rfl rfl) rfl rfl te_25) rfl (Vh (Vs rfl Try.call12 (F_draw_Mod_ok h8 _)) rfl (Va (Vx rfl) rfl (Ve (Vf (Vd ?_)))))))); obtain ⟨x9, h10, hF⟩ := Xz hF; refine Va (Vv (ds := [.sl (low.length + 1) 0 0 (x5.2.Switches).length, .sl (low.length + 2) 0 0 (x5.2.Zones).length, .int .i64 x5.2.Reply]) rfl (Vg rfl rfl) rfl ta_28 ts_28 rfl rfl rfl) rfl (Va (Vo rfl) rfl (vops_weak (weak_freezeN (E' := [(6, .ptr (low.length + 3) 0 0 0), (7, .int .i64 x7), (24, .agg [.vs 5 (Yj T_Switch.enc x5.2.Switches), .sl (low.length + 2) 0 0 (x5.2.Zones).length, .int .i64 x5.2.Reply]), (25, .int .i64 x7)]) (loc1 := [(zF x5.1 0), ⟨36, 5, [], 0 + 1⟩, ⟨3, 1, Yj (Yk .i64) x5.2.Zones, 0⟩, ⟨28, 3, [.agg [.vs 5 (Yj T_Switch.enc x5.2.Switches), .sl (low.length + 2) 0 0 (x5.2.Zones).length, .int .i64 x5.2.Reply]], 0⟩]) rfl 1 rfl (lt_map T_Switch.enc_lt) ⟨Xg rfl, Xg rfl, cv_agg rfl ⟨cv_sl rfl rfl rfl (full_take rfl), Xg rfl, Xg rfl, trivial⟩, Xg rfl, trivial⟩ ⟨.refl _, .refl _, .refl _, cvo_agg ⟨cv_sl rfl rfl rfl (full_take rfl), Xg rfl, Xg rfl, trivial⟩, trivial⟩) (vops_weak (weak_freezeN (E' := [(6, .ptr (low.length + 3) 0 0 0), (7, .int .i64 x7), (24, .agg (zA x5.2)), (25, .int .i64 x7)]) (loc1 := [(zF x5.1 0), ⟨36, 5, [], 0 + 1⟩, ⟨3, 1, [], 0 + 1⟩, (zB x5.2 0)]) rfl 2 rfl (lt_map (fun _ => .int _ _)) ⟨Xg rfl, Xg rfl, cv_agg rfl ⟨Xg rfl, cv_sl rfl rfl rfl (full_take rfl), Xg rfl, trivial⟩, Xg rfl, trivial⟩ ⟨.refl _, .refl _, .refl _, cvo_agg ⟨Xg rfl, cv_sl rfl rfl rfl (full_take rfl), Xg rfl, trivial⟩, trivial⟩) (Vh (vef_callN (r := .tup [.agg [.sl (low.length + 4) 0 0 (x9.1.Switches).length, .vs 1 (Yj (Yk .i64) x9.1.Zones), .int .i64 x9.1.Reply], .int .i64 x9.2]) (os := [⟨36, 5, Yj T_Switch.enc x9.1.Switches, 0⟩]) rfl Try.call13 (F_feeder_Close_ok h10 _ (len_app rfl rfl))) rfl (Va (rd_mvT rfl) rfl (Va (rd_extract rfl rfl) rfl (Va (rd_extract rfl rfl) rfl (Vh (Xv rfl rfl tz_28 rfl rfl (Yo _) rfl) rfl ?_)))))))); refine Vh (Xi (p := .agg [.sl (low.length + 4) 0 0 (x9.1.Switches).length, .vs 1 (Yj (Yk .i64) x9.1.Zones), .int .i64 x9.1.Reply]) (e' := .agg [.sl (low.length + 4) 0 0 (x9.1.Switches).length, .vs 1 (Yj (Yk .i64) x9.1.Zones), .int .i64 x9.1.Reply]) rfl (Vg rfl rfl) rfl rfl ts_28 rfl (Yc rfl) rfl (Yn rfl) rfl (Xx rfl rfl)) rfl (Va (Vx rfl) rfl (Ve (Vf (Vd ?_)))); obtain ⟨x11, h12, hF⟩ := Xz hF; refine Va (Vc rfl tf_28_0 ts_25 (by decide)) rfl (Va (Vi rfl (Vg rfl rfl) rfl ta_25 rfl) rfl (Va (Vo rfl) rfl (Va (Xn (Ya rfl rfl h12 te_25 ts_36) (v' := .vptr (zC x11) 0) rfl) rfl (Va (Xt rfl tf_36_0 ts_3 (by decide)) rfl (Va (Xq rfl ta_3 rfl) rfl (Va (Vx rfl) rfl (Ve (Vf ?_)))))))); obtain ⟨o13, ho13, hF⟩ := Xz hF; refine Vq (Q' := (fun o13 => OnlyE .normal (fun E' lw lc => Xo E' lw lc [(6, .ptr (low.length + 0) 0 0 0), (7, .int .i64 x7), (8, .ptr (low.length + 1) 0 0 0), (9, .int .i64 x9.2), (11, .bool o13.1)] low [(zB x5.2 0), ⟨28, 3, [.agg [.vs 5 (Yj T_Switch.enc o13.2), .vs 1 (Yj (Yk .i64) x9.1.Zones), .int .i64 x9.1.Reply]], 0⟩])) o13) ?_ ?_
  ·replace hF := ho13; refine Vd ?_; obtain ⟨x14, h15, hF⟩ := Xz hF
   rcases Yp (decide (x14.Shown = (-1))) with c16 | c16
   ·have hF := Xk c16 hF
    rcases Yp (decide (x11.Above = (-1))) with c17 | c17
    ·have hF := Xk c17 hF; refine Va (Vc rfl tf_28_0 ts_25 (by decide)) rfl (Va (Vi rfl (Vg rfl rfl) rfl ta_25 rfl) rfl (Va (Vo rfl) rfl (Va (Xn (Ya rfl rfl h15 te_25 ts_36) (v' := .vptr (zC x14) 0) rfl) rfl (Va (Xt rfl tf_36_2 ts_3 (by decide)) rfl (Va (Xq rfl ta_3 rfl) rfl (Va (Vz rfl rfl) rfl (Va (Vj rfl) rfl (Vt rfl rfl c16 ?_)))))))); refine Va (Vo rfl) rfl (Vt rfl rfl c16 (Va (Vz rfl rfl) rfl (Vt rfl rfl c16 (Va (Vj rfl) rfl (Vb rfl rfl (neT c17) rfl (Vb rfl rfl (neT c17) rfl (Vb rfl rfl (neT c17) rfl (Vb rfl rfl (neT c17) rfl ?_)))))))); refine Vb rfl rfl (neT c17) rfl (Vb rfl rfl (neT c17) rfl (Vb rfl rfl (neT c17) rfl (Vt rfl rfl c16 (Va (Vn (congrArg Yl c17) rfl) rfl (Va (Vn (congrArg Yl c16) rfl) rfl (Va (Xr rfl) rfl (Ve ?_))))))); obtain rfl := Ym hF; refine Xc (Weak.trans (weak_freezeN (E' := [(6, .ptr (low.length + 3) 0 0 0), (7, .int .i64 x7), (8, .ptr (low.length + 5) 0 0 0), (9, .int .i64 x9.2), (11, .bool true)]) (loc1 := [(zF x5.1 0), ⟨36, 5, [], 0 + 1⟩, ⟨3, 1, [], 0 + 1⟩, (zB x5.2 0), ⟨36, 5, [], 0 + 1⟩, (zB x9.1 0)]) rfl 4 rfl (lt_map T_Switch.enc_lt) ⟨Xg rfl, Xg rfl, Xg rfl, Xg rfl, Xg rfl, trivial⟩ ⟨.refl _, .refl _, .refl _, .refl _, .refl _, cvo_agg ⟨cv_sl rfl rfl rfl (full_take rfl), Xg rfl, Xg rfl, trivial⟩, trivial⟩) ?_); exact Vl rfl [(3, 0), (5, 0)] (by decide) ⟨Xe 0 3 rfl rfl, Vk rfl (.int _ _), Xe 1 5 rfl rfl, Vk rfl (.int _ _), Vk rfl (.bool _), trivial⟩ ⟨⟨_, rfl, rfl, .same _ _ _ _ (Xd ⟨Xh ⟨.vs _ _, .vs _ _, .int _ _, trivial⟩, trivial⟩)⟩, ⟨_, rfl, rfl, .agg _ _ _ _ _ ⟨Vk rfl (.vs _ _), Vk rfl (.vs _ _), Vk rfl (.int _ _), trivial⟩⟩, trivial⟩
    ·have hF := Xl c17 hF; obtain ⟨x18, h19, hF⟩ := Xz hF; refine Va (Vc rfl tf_28_0 ts_25 (by decide)) rfl (Va (Vi rfl (Vg rfl rfl) rfl ta_25 rfl) rfl (Va (Vo rfl) rfl (Va (Xn (Ya rfl rfl h15 te_25 ts_36) (v' := .vptr (zC x14) 0) rfl) rfl (Va (Xt rfl tf_36_2 ts_3 (by decide)) rfl (Va (Xq rfl ta_3 rfl) rfl (Va (Vz rfl rfl) rfl (Va (Vj rfl) rfl (Vt rfl rfl c16 ?_)))))))); refine Va (Vo rfl) rfl (Vt rfl rfl c16 (Va (Vz rfl rfl) rfl (Vt rfl rfl c16 (Va (Vj rfl) rfl (Vt rfl rfl c17 (Va (Vc rfl tf_28_0 ts_25 (by decide)) rfl (Vt rfl rfl c17 (Va (Vi rfl (Vg rfl rfl) rfl ta_25 rfl) rfl ?_)))))))); refine Vt rfl rfl c17 (Va (Vo rfl) rfl (Vt rfl rfl c17 (Va (Xn (Ya rfl rfl h19 te_25 ts_36) (v' := .vptr (zC x18) 0) rfl) rfl (Vt rfl rfl c17 (Va (Xt rfl tf_36_2 ts_3 (by decide)) rfl (Vt rfl rfl c17 (Va (Xq rfl ta_3 rfl) rfl (Vt rfl rfl c17 ?_)))))))); refine Va (Vz rfl rfl) rfl (Vt rfl rfl c16 (Va (Vm (congrArg Yl c17) rfl) rfl (Va (Vn (congrArg Yl c16) rfl) rfl (Va (Xr rfl) rfl (Ve ?_))))); obtain rfl := Ym hF; refine Xc (Weak.trans (weak_freezeN (E' := [(6, .ptr (low.length + 3) 0 0 0), (7, .int .i64 x7), (8, .ptr (low.length + 5) 0 0 0), (9, .int .i64 x9.2), (11, .bool (decide (x18.Shown = 1)))]) (loc1 := [(zF x5.1 0), ⟨36, 5, [], 0 + 1⟩, ⟨3, 1, [], 0 + 1⟩, (zB x5.2 0), ⟨36, 5, [], 0 + 1⟩, (zB x9.1 0)]) rfl 4 rfl (lt_map T_Switch.enc_lt) ⟨Xg rfl, Xg rfl, Xg rfl, Xg rfl, Xg rfl, trivial⟩ ⟨.refl _, .refl _, .refl _, .refl _, .refl _, cvo_agg ⟨cv_sl rfl rfl rfl (full_take rfl), Xg rfl, Xg rfl, trivial⟩, trivial⟩) ?_); exact Vl rfl [(3, 0), (5, 0)] (by decide) ⟨Xe 0 3 rfl rfl, Vk rfl (.int _ _), Xe 1 5 rfl rfl, Vk rfl (.int _ _), Vk rfl (.bool _), trivial⟩ ⟨⟨_, rfl, rfl, .same _ _ _ _ (Xd ⟨Xh ⟨.vs _ _, .vs _ _, .int _ _, trivial⟩, trivial⟩)⟩, ⟨_, rfl, rfl, .agg _ _ _ _ _ ⟨Vk rfl (.vs _ _), Vk rfl (.vs _ _), Vk rfl (.int _ _), trivial⟩⟩, trivial⟩
   ·have hF := Xl c16 hF; refine Va (Vc rfl tf_28_0 ts_25 (by decide)) rfl (Va (Vi rfl (Vg rfl rfl) rfl ta_25 rfl) rfl (Va (Vo rfl) rfl (Va (Xn (Ya rfl rfl h15 te_25 ts_36) (v' := .vptr (zC x14) 0) rfl) rfl (Va (Xt rfl tf_36_2 ts_3 (by decide)) rfl (Va (Xq rfl ta_3 rfl) rfl (Va (Vz rfl rfl) rfl (Va (Vj rfl) rfl (Vb rfl rfl (Yi c16) rfl ?_)))))))); refine Vb rfl rfl (Yi c16) rfl (Vb rfl rfl (Yi c16) rfl (Vr rfl rfl rfl (Vr rfl rfl rfl (Vr rfl rfl rfl (Vr rfl rfl rfl (Vr rfl rfl rfl (Vr rfl rfl rfl (Vr rfl rfl rfl ?_)))))))); refine Vb rfl rfl (Yi c16) rfl (Va (Vm (congrArg Yl c16) rfl) rfl (Va (Xr rfl) rfl (Ve ?_))); obtain rfl := Ym hF; refine Xc (Weak.trans (weak_freezeN (E' := [(6, .ptr (low.length + 3) 0 0 0), (7, .int .i64 x7), (8, .ptr (low.length + 5) 0 0 0), (9, .int .i64 x9.2), (11, .bool false)]) (loc1 := [(zF x5.1 0), ⟨36, 5, [], 0 + 1⟩, ⟨3, 1, [], 0 + 1⟩, (zB x5.2 0), ⟨36, 5, [], 0 + 1⟩, (zB x9.1 0)]) rfl 4 rfl (lt_map T_Switch.enc_lt) ⟨Xg rfl, Xg rfl, Xg rfl, Xg rfl, Xg rfl, trivial⟩ ⟨.refl _, .refl _, .refl _, .refl _, .refl _, cvo_agg ⟨cv_sl rfl rfl rfl (full_take rfl), Xg rfl, Xg rfl, trivial⟩, trivial⟩) ?_); exact Vl rfl [(3, 0), (5, 0)] (by decide) ⟨Xe 0 3 rfl rfl, Vk rfl (.int _ _), Xe 1 5 rfl rfl, Vk rfl (.int _ _), Vk rfl (.bool _), trivial⟩ ⟨⟨_, rfl, rfl, .same _ _ _ _ (Xd ⟨Xh ⟨.vs _ _, .vs _ _, .int _ _, trivial⟩, trivial⟩)⟩, ⟨_, rfl, rfl, .agg _ _ _ _ _ ⟨Vk rfl (.vs _ _), Vk rfl (.vs _ _), Vk rfl (.int _ _), trivial⟩⟩, trivial⟩
  ·rintro _ _ _ _ ⟨rfl, hw⟩; refine ⟨_, _, _, hw, ?_⟩; refine Vf (Vf (Vd ?_)); obtain ⟨x20, h21, hF⟩ := Xz hF; refine Va (Vv (ds := (zA x5.2)) rfl (Vg rfl rfl) rfl ta_28 ts_28 rfl rfl rfl) rfl (Vh (Vs rfl Try.call14 (F_ref18_Check_ok h21 _)) rfl (Va (rd_neq rfl rfl) rfl (Ve (Xa rfl (fun c22 => ?_) (fun c22 => ?_)))))
   ·have hF := Xk c22 hF; refine Vf (Vd ?_)
    rcases Yp (decide (x9.2 ≠ 0)) with c23 | c23
    ·have hF := Xk c23 hF; obtain ⟨x24, h25, hF⟩ := Xz hF; refine Va (Vo rfl) rfl (Va (rd_neq rfl rfl) rfl (Va (Vj rfl) rfl (Vt rfl rfl c23 (Vh (Vs rfl Try.call15 (F_law18_awake_ok h25 _)) rfl (Va (Vn (congrArg Yl c23) rfl) rfl (Va (Xr rfl) rfl (Ve (Vu ?_)))))))); obtain rfl := Ym hF; refine fnR ?_; exact Vl rfl [] (by decide) ⟨Vk rfl (.bool _), trivial⟩ trivial
    ·have hF := Xl c23 hF; refine Va (Vo rfl) rfl (Va (rd_neq rfl rfl) rfl (Va (Vj rfl) rfl (Vb rfl rfl (Yi c23) rfl (Va (Vm (congrArg Yl c23) rfl) rfl (Va (Xr rfl) rfl (Ve (Vu ?_))))))); obtain rfl := Ym hF; refine fnR ?_; exact Vl rfl [] (by decide) ⟨Vk rfl (.bool _), trivial⟩ trivial
   ·have hF := Xl c22 hF; refine Xb (Vf (Vf (Vd (Va (Vj rfl) rfl (Va (rd_not rfl) rfl (Ve (Xa rfl (fun c26 => ?_) (fun c26 => ?_))))))))
    ·have hF := Xk c26 hF; refine Vf (Vd ?_)
     rcases Yp (decide (x9.2 = 10)) with c27 | c27
     ·have hF := Xk c27 hF; obtain ⟨x28, h29, hF⟩ := Xz hF; refine Va (Vo rfl) rfl (Va (Vz rfl rfl) rfl (Va (Vj rfl) rfl (Vt rfl rfl c27 (Vh (Vs rfl Try.call15 (F_law18_awake_ok h29 _)) rfl (Va (Vn (congrArg Yl c27) rfl) rfl (Va (Xr rfl) rfl (Ve (Vu ?_)))))))); obtain rfl := Ym hF; refine fnR ?_; exact Vl rfl [] (by decide) ⟨Vk rfl (.bool _), trivial⟩ trivial
     ·have hF := Xl c27 hF; refine Va (Vo rfl) rfl (Va (Vz rfl rfl) rfl (Va (Vj rfl) rfl (Vb rfl rfl (Yi c27) rfl (Va (Vm (congrArg Yl c27) rfl) rfl (Va (Xr rfl) rfl (Ve (Vu ?_))))))); obtain rfl := Ym hF; refine fnR ?_; exact Vl rfl [] (by decide) ⟨Vk rfl (.bool _), trivial⟩ trivial
    ·have hF := Xl c26 hF; refine Xb (Vf (Vd ?_))
     rcases Yp (decide (x9.2 = 0)) with c30 | c30
     ·have hF := Xk c30 hF
      rcases Yp (decide (((o13.2).length : Int) = ((x5.2.Switches).length : Int))) with c31 | c31
      ·have hF := Xk c31 hF; obtain ⟨x32, h33, hF⟩ := Xz hF
       rcases Yp x32.Closed with c34 | c34
       ·have hF := Xk c34 hF; obtain ⟨x35, h36, hF⟩ := Xz hF
        rcases Yp (decide (x35.Shown = 0)) with c37 | c37
        ·have hF := Xk c37 hF; obtain ⟨x38, h39, hF⟩ := Xz hF
         rcases Yp (decide (x38.Since = 5)) with c40 | c40
         ·have hF := Xk c40 hF; obtain ⟨x41, h42, hF⟩ := Xz hF; refine Va (Vo rfl) rfl (Va (Vz rfl rfl) rfl (Va (Vj rfl) rfl (Vt rfl rfl c30 (Va (Vc rfl tf_28_0 ts_25 (by decide)) rfl (Vt rfl rfl c30 (Va (Vi rfl (Vg rfl rfl) rfl ta_25 rfl) rfl (Vt rfl rfl c30 (Va (Xn (Xu rfl rfl te_25) (congrArg (fun n : Nat => Yk .i64 (n : Int)) (Yq _))) rfl ?_)))))))); refine Vt rfl rfl c30 (Va (Vc rfl tf_28_0 ts_25 (by decide)) rfl (Vt rfl rfl c30 (Va (Vi rfl (Vg rfl rfl) rfl ta_25 rfl) rfl (Vt rfl rfl c30 (Va (Xn (Xu rfl rfl te_25) (congrArg (fun n : Nat => Yk .i64 (n : Int)) (Yq _))) rfl (Vt rfl rfl c30 (Va (Vz rfl rfl) rfl (Va (Vn (congrArg Yl c30) rfl) rfl ?_)))))))); refine Va (Vj rfl) rfl (Vt rfl rfl c31 (Va (Vc rfl tf_28_0 ts_25 (by decide)) rfl (Vt rfl rfl c31 (Va (Vi rfl (Vg rfl rfl) rfl ta_25 rfl) rfl (Vt rfl rfl c31 (Va (Vo rfl) rfl (Vt rfl rfl c31 (Va (Xn (Ya rfl rfl h33 te_25 ts_36) (v' := .vptr (zC x32) 0) rfl) rfl ?_)))))))); refine Vt rfl rfl c31 (Va (Xt rfl tf_36_3 ts_4 (by decide)) rfl (Vt rfl rfl c31 (Va (Xq rfl ta_4 rfl) rfl (Va (Vn (congrArg Yl c31) rfl) rfl (Va (Vj rfl) rfl (Vt rfl rfl c34 (Va (Vc rfl tf_28_0 ts_25 (by decide)) rfl (Vt rfl rfl c34 ?_)))))))); refine Va (Vi rfl (Vg rfl rfl) rfl ta_25 rfl) rfl (Vt rfl rfl c34 (Va (Vo rfl) rfl (Vt rfl rfl c34 (Va (Xn (Ya rfl rfl h36 te_25 ts_36) (v' := .vptr (zC x35) 0) rfl) rfl (Vt rfl rfl c34 (Va (Xt rfl tf_36_2 ts_3 (by decide)) rfl (Vt rfl rfl c34 (Va (Xq rfl ta_3 rfl) rfl ?_)))))))); refine Vt rfl rfl c34 (Va (Vz rfl rfl) rfl (Va (Vn (congrArg Yl c34) rfl) rfl (Va (Vj rfl) rfl (Vt rfl rfl c37 (Va (Vc rfl tf_28_0 ts_25 (by decide)) rfl (Vt rfl rfl c37 (Va (Vi rfl (Vg rfl rfl) rfl ta_25 rfl) rfl (Vt rfl rfl c37 ?_)))))))); refine Va (Vo rfl) rfl (Vt rfl rfl c37 (Va (Xn (Ya rfl rfl h39 te_25 ts_36) (v' := .vptr (zC x38) 0) rfl) rfl (Vt rfl rfl c37 (Va (Xt rfl tf_36_1 ts_3 (by decide)) rfl (Vt rfl rfl c37 (Va (Xq rfl ta_3 rfl) rfl (Vt rfl rfl c37 (Va (Vz rfl rfl) rfl ?_)))))))); refine Va (Vn (congrArg Yl c37) rfl) rfl (Va (Vj rfl) rfl (Vt rfl rfl c40 (Vh (Vs rfl Try.call15 (F_law18_awake_ok h42 _)) rfl (Va (Vn (congrArg Yl c40) rfl) rfl (Va (Xr rfl) rfl (Ve (Vu ?_))))))); obtain rfl := Ym hF; refine fnR ?_; exact Vl rfl [] (by decide) ⟨Vk rfl (.bool _), trivial⟩ trivial
         ·have hF := Xl c40 hF; refine Va (Vo rfl) rfl (Va (Vz rfl rfl) rfl (Va (Vj rfl) rfl (Vt rfl rfl c30 (Va (Vc rfl tf_28_0 ts_25 (by decide)) rfl (Vt rfl rfl c30 (Va (Vi rfl (Vg rfl rfl) rfl ta_25 rfl) rfl (Vt rfl rfl c30 (Va (Xn (Xu rfl rfl te_25) (congrArg (fun n : Nat => Yk .i64 (n : Int)) (Yq _))) rfl ?_)))))))); refine Vt rfl rfl c30 (Va (Vc rfl tf_28_0 ts_25 (by decide)) rfl (Vt rfl rfl c30 (Va (Vi rfl (Vg rfl rfl) rfl ta_25 rfl) rfl (Vt rfl rfl c30 (Va (Xn (Xu rfl rfl te_25) (congrArg (fun n : Nat => Yk .i64 (n : Int)) (Yq _))) rfl (Vt rfl rfl c30 (Va (Vz rfl rfl) rfl (Va (Vn (congrArg Yl c30) rfl) rfl ?_)))))))); refine Va (Vj rfl) rfl (Vt rfl rfl c31 (Va (Vc rfl tf_28_0 ts_25 (by decide)) rfl (Vt rfl rfl c31 (Va (Vi rfl (Vg rfl rfl) rfl ta_25 rfl) rfl (Vt rfl rfl c31 (Va (Vo rfl) rfl (Vt rfl rfl c31 (Va (Xn (Ya rfl rfl h33 te_25 ts_36) (v' := .vptr (zC x32) 0) rfl) rfl ?_)))))))); refine Vt rfl rfl c31 (Va (Xt rfl tf_36_3 ts_4 (by decide)) rfl (Vt rfl rfl c31 (Va (Xq rfl ta_4 rfl) rfl (Va (Vn (congrArg Yl c31) rfl) rfl (Va (Vj rfl) rfl (Vt rfl rfl c34 (Va (Vc rfl tf_28_0 ts_25 (by decide)) rfl (Vt rfl rfl c34 ?_)))))))); refine Va (Vi rfl (Vg rfl rfl) rfl ta_25 rfl) rfl (Vt rfl rfl c34 (Va (Vo rfl) rfl (Vt rfl rfl c34 (Va (Xn (Ya rfl rfl h36 te_25 ts_36) (v' := .vptr (zC x35) 0) rfl) rfl (Vt rfl rfl c34 (Va (Xt rfl tf_36_2 ts_3 (by decide)) rfl (Vt rfl rfl c34 (Va (Xq rfl ta_3 rfl) rfl ?_)))))))); refine Vt rfl rfl c34 (Va (Vz rfl rfl) rfl (Va (Vn (congrArg Yl c34) rfl) rfl (Va (Vj rfl) rfl (Vt rfl rfl c37 (Va (Vc rfl tf_28_0 ts_25 (by decide)) rfl (Vt rfl rfl c37 (Va (Vi rfl (Vg rfl rfl) rfl ta_25 rfl) rfl (Vt rfl rfl c37 ?_)))))))); refine Va (Vo rfl) rfl (Vt rfl rfl c37 (Va (Xn (Ya rfl rfl h39 te_25 ts_36) (v' := .vptr (zC x38) 0) rfl) rfl (Vt rfl rfl c37 (Va (Xt rfl tf_36_1 ts_3 (by decide)) rfl (Vt rfl rfl c37 (Va (Xq rfl ta_3 rfl) rfl (Vt rfl rfl c37 (Va (Vz rfl rfl) rfl ?_)))))))); refine Va (Vn (congrArg Yl c37) rfl) rfl (Va (Vj rfl) rfl (Vb rfl rfl (Yi c40) rfl (Va (Vm (congrArg Yl c40) rfl) rfl (Va (Xr rfl) rfl (Ve (Vu ?_)))))); obtain rfl := Ym hF; refine fnR ?_; exact Vl rfl [] (by decide) ⟨Vk rfl (.bool _), trivial⟩ trivial
        ·have hF := Xl c37 hF; refine Va (Vo rfl) rfl (Va (Vz rfl rfl) rfl (Va (Vj rfl) rfl (Vt rfl rfl c30 (Va (Vc rfl tf_28_0 ts_25 (by decide)) rfl (Vt rfl rfl c30 (Va (Vi rfl (Vg rfl rfl) rfl ta_25 rfl) rfl (Vt rfl rfl c30 (Va (Xn (Xu rfl rfl te_25) (congrArg (fun n : Nat => Yk .i64 (n : Int)) (Yq _))) rfl ?_)))))))); refine Vt rfl rfl c30 (Va (Vc rfl tf_28_0 ts_25 (by decide)) rfl (Vt rfl rfl c30 (Va (Vi rfl (Vg rfl rfl) rfl ta_25 rfl) rfl (Vt rfl rfl c30 (Va (Xn (Xu rfl rfl te_25) (congrArg (fun n : Nat => Yk .i64 (n : Int)) (Yq _))) rfl (Vt rfl rfl c30 (Va (Vz rfl rfl) rfl (Va (Vn (congrArg Yl c30) rfl) rfl ?_)))))))); refine Va (Vj rfl) rfl (Vt rfl rfl c31 (Va (Vc rfl tf_28_0 ts_25 (by decide)) rfl (Vt rfl rfl c31 (Va (Vi rfl (Vg rfl rfl) rfl ta_25 rfl) rfl (Vt rfl rfl c31 (Va (Vo rfl) rfl (Vt rfl rfl c31 (Va (Xn (Ya rfl rfl h33 te_25 ts_36) (v' := .vptr (zC x32) 0) rfl) rfl ?_)))))))); refine Vt rfl rfl c31 (Va (Xt rfl tf_36_3 ts_4 (by decide)) rfl (Vt rfl rfl c31 (Va (Xq rfl ta_4 rfl) rfl (Va (Vn (congrArg Yl c31) rfl) rfl (Va (Vj rfl) rfl (Vt rfl rfl c34 (Va (Vc rfl tf_28_0 ts_25 (by decide)) rfl (Vt rfl rfl c34 ?_)))))))); refine Va (Vi rfl (Vg rfl rfl) rfl ta_25 rfl) rfl (Vt rfl rfl c34 (Va (Vo rfl) rfl (Vt rfl rfl c34 (Va (Xn (Ya rfl rfl h36 te_25 ts_36) (v' := .vptr (zC x35) 0) rfl) rfl (Vt rfl rfl c34 (Va (Xt rfl tf_36_2 ts_3 (by decide)) rfl (Vt rfl rfl c34 (Va (Xq rfl ta_3 rfl) rfl ?_)))))))); refine Vt rfl rfl c34 (Va (Vz rfl rfl) rfl (Va (Vn (congrArg Yl c34) rfl) rfl (Va (Vj rfl) rfl (Vb rfl rfl (Yi c37) rfl (Vb rfl rfl (Yi c37) rfl (Vb rfl rfl (Yi c37) rfl (Vb rfl rfl (Yi c37) rfl (Vb rfl rfl (Yi c37) rfl ?_)))))))); refine Vb rfl rfl (Yi c37) rfl (Vb rfl rfl (Yi c37) rfl (Va (Vm (congrArg Yl c37) rfl) rfl (Va (Vj rfl) rfl (Vb rfl rfl (by decide) rfl (Va (Vm rfl rfl) rfl (Va (Xr rfl) rfl (Ve (Vu ?_)))))))); obtain rfl := Ym hF; refine fnR ?_; exact Vl rfl [] (by decide) ⟨Vk rfl (.bool _), trivial⟩ trivial
       ·have hF := Xl c34 hF; refine Va (Vo rfl) rfl (Va (Vz rfl rfl) rfl (Va (Vj rfl) rfl (Vt rfl rfl c30 (Va (Vc rfl tf_28_0 ts_25 (by decide)) rfl (Vt rfl rfl c30 (Va (Vi rfl (Vg rfl rfl) rfl ta_25 rfl) rfl (Vt rfl rfl c30 (Va (Xn (Xu rfl rfl te_25) (congrArg (fun n : Nat => Yk .i64 (n : Int)) (Yq _))) rfl ?_)))))))); refine Vt rfl rfl c30 (Va (Vc rfl tf_28_0 ts_25 (by decide)) rfl (Vt rfl rfl c30 (Va (Vi rfl (Vg rfl rfl) rfl ta_25 rfl) rfl (Vt rfl rfl c30 (Va (Xn (Xu rfl rfl te_25) (congrArg (fun n : Nat => Yk .i64 (n : Int)) (Yq _))) rfl (Vt rfl rfl c30 (Va (Vz rfl rfl) rfl (Va (Vn (congrArg Yl c30) rfl) rfl ?_)))))))); refine Va (Vj rfl) rfl (Vt rfl rfl c31 (Va (Vc rfl tf_28_0 ts_25 (by decide)) rfl (Vt rfl rfl c31 (Va (Vi rfl (Vg rfl rfl) rfl ta_25 rfl) rfl (Vt rfl rfl c31 (Va (Vo rfl) rfl (Vt rfl rfl c31 (Va (Xn (Ya rfl rfl h33 te_25 ts_36) (v' := .vptr (zC x32) 0) rfl) rfl ?_)))))))); refine Vt rfl rfl c31 (Va (Xt rfl tf_36_3 ts_4 (by decide)) rfl (Vt rfl rfl c31 (Va (Xq rfl ta_4 rfl) rfl (Va (Vn (congrArg Yl c31) rfl) rfl (Va (Vj rfl) rfl (Vb rfl rfl (Yi c34) rfl (Vb rfl rfl (Yi c34) rfl (Vb rfl rfl (Yi c34) rfl ?_)))))))); refine Vb rfl rfl (Yi c34) rfl (Vb rfl rfl (Yi c34) rfl (Vb rfl rfl (Yi c34) rfl (Vb rfl rfl (Yi c34) rfl (Va (Vm (congrArg Yl c34) rfl) rfl (Va (Vj rfl) rfl (Vb rfl rfl (by decide) rfl (Vb rfl rfl (by decide) rfl (Vb rfl rfl (by decide) rfl ?_)))))))); refine Vb rfl rfl (by decide) rfl (Vb rfl rfl (by decide) rfl (Vb rfl rfl (by decide) rfl (Vb rfl rfl (by decide) rfl (Va (Vm rfl rfl) rfl (Va (Vj rfl) rfl (Vb rfl rfl (by decide) rfl (Va (Vm rfl rfl) rfl (Va (Xr rfl) rfl ?_)))))))); refine Ve (Vu ?_); obtain rfl := Ym hF; refine fnR ?_; exact Vl rfl [] (by decide) ⟨Vk rfl (.bool _), trivial⟩ trivial
      ·have hF := Xl c31 hF; refine Va (Vo rfl) rfl (Va (Vz rfl rfl) rfl (Va (Vj rfl) rfl (Vt rfl rfl c30 (Va (Vc rfl tf_28_0 ts_25 (by decide)) rfl (Vt rfl rfl c30 (Va (Vi rfl (Vg rfl rfl) rfl ta_25 rfl) rfl (Vt rfl rfl c30 (Va (Xn (Xu rfl rfl te_25) (congrArg (fun n : Nat => Yk .i64 (n : Int)) (Yq _))) rfl ?_)))))))); refine Vt rfl rfl c30 (Va (Vc rfl tf_28_0 ts_25 (by decide)) rfl (Vt rfl rfl c30 (Va (Vi rfl (Vg rfl rfl) rfl ta_25 rfl) rfl (Vt rfl rfl c30 (Va (Xn (Xu rfl rfl te_25) (congrArg (fun n : Nat => Yk .i64 (n : Int)) (Yq _))) rfl (Vt rfl rfl c30 (Va (Vz rfl rfl) rfl (Va (Vn (congrArg Yl c30) rfl) rfl ?_)))))))); refine Va (Vj rfl) rfl (Vb rfl rfl (Yi c31) rfl (Vb rfl rfl (Yi c31) rfl (Vb rfl rfl (Yi c31) rfl (Vb rfl rfl (Yi c31) rfl (Vb rfl rfl (Yi c31) rfl (Vb rfl rfl (Yi c31) rfl (Va (Vm (congrArg Yl c31) rfl) rfl (Va (Vj rfl) rfl ?_)))))))); refine Vb rfl rfl (by decide) rfl (Vb rfl rfl (by decide) rfl (Vb rfl rfl (by decide) rfl (Vb rfl rfl (by decide) rfl (Vb rfl rfl (by decide) rfl (Vb rfl rfl (by decide) rfl (Vb rfl rfl (by decide) rfl (Va (Vm rfl rfl) rfl (Va (Vj rfl) rfl ?_)))))))); refine Vb rfl rfl (by decide) rfl (Vb rfl rfl (by decide) rfl (Vb rfl rfl (by decide) rfl (Vb rfl rfl (by decide) rfl (Vb rfl rfl (by decide) rfl (Vb rfl rfl (by decide) rfl (Vb rfl rfl (by decide) rfl (Va (Vm rfl rfl) rfl (Va (Vj rfl) rfl ?_)))))))); refine Vb rfl rfl (by decide) rfl (Va (Vm rfl rfl) rfl (Va (Xr rfl) rfl (Ve (Vu ?_)))); obtain rfl := Ym hF; refine fnR ?_; exact Vl rfl [] (by decide) ⟨Vk rfl (.bool _), trivial⟩ trivial
     ·have hF := Xl c30 hF; refine Va (Vo rfl) rfl (Va (Vz rfl rfl) rfl (Va (Vj rfl) rfl (Vb rfl rfl (Yi c30) rfl (Vb rfl rfl (Yi c30) rfl (Vb rfl rfl (Yi c30) rfl (Vb rfl rfl (Yi c30) rfl (Vb rfl rfl (Yi c30) rfl (Vb rfl rfl (Yi c30) rfl ?_)))))))); refine Vb rfl rfl (Yi c30) rfl (Va (Vm (congrArg Yl c30) rfl) rfl (Va (Vj rfl) rfl (Vb rfl rfl (by decide) rfl (Vb rfl rfl (by decide) rfl (Vb rfl rfl (by decide) rfl (Vb rfl rfl (by decide) rfl (Vb rfl rfl (by decide) rfl (Vb rfl rfl (by decide) rfl ?_)))))))); refine Va (Vm rfl rfl) rfl (Va (Vj rfl) rfl (Vb rfl rfl (by decide) rfl (Vb rfl rfl (by decide) rfl (Vb rfl rfl (by decide) rfl (Vb rfl rfl (by decide) rfl (Vb rfl rfl (by decide) rfl (Vb rfl rfl (by decide) rfl (Vb rfl rfl (by decide) rfl ?_)))))))); refine Va (Vm rfl rfl) rfl (Va (Vj rfl) rfl (Vb rfl rfl (by decide) rfl (Vb rfl rfl (by decide) rfl (Vb rfl rfl (by decide) rfl (Vb rfl rfl (by decide) rfl (Vb rfl rfl (by decide) rfl (Vb rfl rfl (by decide) rfl (Vb rfl rfl (by decide) rfl ?_)))))))); refine Va (Vm rfl rfl) rfl (Va (Vj rfl) rfl (Vb rfl rfl (by decide) rfl (Va (Vm rfl rfl) rfl (Va (Xr rfl) rfl (Ve (Vu ?_)))))); obtain rfl := Ym hF; refine fnR ?_; exact Vl rfl [] (by decide) ⟨Vk rfl (.bool _), trivial⟩ trivial
 ·rintro _ _ _ _ ⟨he, hw⟩; refine ⟨_, _, _, hw, ?_⟩; exact Yb he [.bool r] ⟨rfl, trivial⟩ (.bool _) ⟨rfl, rfl⟩

end Go.Proofs.Ytecbhhmfeldepaa
