/- Printed by wip/lift/lift.py: the walks that show that the program computes them. -/
import Derived.Test.YtecbhhmfeldepaaL18FeederChecksW1
namespace Go.Proofs.Ytecbhhmfeldepaa
open Go Go.Aml Go.L
attribute [local irreducible] VRd VEf VOp VOps VWp DOps
set_option linter.unusedVariables false
open Go.Aml renaming vops_rd → Va, vops_skip → Vb, vwp_region → Vc, vops_nil → Vd, rd_fieldAddr → Ve, vwp_seq → Vf, dops_skip → Vg, getO_N → Vh, vops_efE → Vi, rn_low → Vj, vef_callP → Vk, rd_mvB → Vl, rd_load1 → Vm, weak_pick → Vn, rd_mvI → Vo, rd_loadN → Vp, rd_pickF → Vq, weak_sub → Vr, rd_pickT → Vs, vwp_monoW → Vt, dops_takeW → Vu, onlyE → Vv, vwp_cond → Vw, ltObj_map → Vx, vwp_skip → Vy, rd_asI → Vz, vwp_ret → Xa, cv_same → Xb, ltObj_es → Xc, vcalls_of_body → Xd, rn_ptr → Xe, vt1 → Xf, vops_skipX → Xg, lt_agg → Xh, vwp_block → Xi, Weak → Xj, dr1 → Xk, rd_eql → Xl, bifT → Xm, bifF → Xn, rd_lss → Xo, nt_of → Xp, vef_store → Xq, rd_nilPtr → Xr, weak_freezeN → Xs, vwp_drawn0 → Xt, setO_N → Xu, bnd → Xv, rd_to → Xw, rd_mvP → Xx, bodyQ_pure → Xy, dops_nil → Xz, all1 → Ya, rd_lenV → Yb, nn_same → Yc, rn_sl → Yd, rd_asB → Ye, vef_allocN → Yf, lt_map → Yg, neT → Yh, full_take → Yi, dt1 → Yj, getI_some → Yk, rd_neq → Yl, VCalls → Ym, vwp_loopC → Yn, all0 → Yo, nt_ne → Yp, vwp_weak → Yq, rd_loadV1 → Yr, vwp_exit → Ys, vef_litF → Yt, lenS → Yu, rd_add → Yv, rd_not → Yw, vef_boxN → Yx
open List renaming map → Yy
open Go.Aml.PV renaming int → Yz
open Go.Aml.PV renaming bool → Za
open Option.some renaming inj → Zb
open Nat renaming le_of_ble_eq_true → Zc
open Nat renaming succ_pos → Zd
open Bool renaming eq_false_or_eq_true → Ze
open List renaming length_map → Zf
set_option maxHeartbeats 4000000

section
open Go.RowKit Go.Shelf
attribute [local go_sem] Oper.semAt_some
def lft (B : Nat) (w : World) : Nat := match w.cell? ⟨B, 0, none⟩ with | some (.int _ v) => (v + 1).toNat | _ => 0
theorem up1_in (n l B Bf : Nat) (hn : 1 ≤ n) (ab : Nat → Int) (len N : Nat) (sq : Nat → Int) (J : Nat → Int → World → Prop)
    (hc : ∀ k v W, J k v W → W.cell? ⟨B, 0, none⟩ = some (.int .i64 v) ∧ W.frozen? ⟨B, 0, none⟩ = false)
    (hr : ∀ k v W, J k v W → ∃ so cap sb, W.cell? ⟨Bf, 0, none⟩ = some (.slice (some ⟨sb, so, none⟩) len cap) ∧ ∀ i : Nat, i < len → W.cell? ⟨sb, so + i * 5, none⟩ = some (.int .i64 (ab i)))
    (hs : ∀ k v v' W, J k v W → J k v' (W.setCell ⟨B, 0, none⟩ (.int .i64 v')))
    (hy : ∀ k W, k < N → J k (sq k) W → YieldAt Fence.wide (n - 1) Try.prog l #[.int .i64 (sq k)] W fun e W' => e = .returned (.bool true) ∧ J (k + 1) (sq k) W')
    (hsq : ∀ k, k < N → 0 ≤ sq k ∧ (sq k).toNat < len ∧ sq (k + 1) = ab (sq k).toNat ∧ sq (k + 1) < sq k) (hend : sq N < 0) (W : World) (h0 : J 0 (sq 0) W) :
    CallsIn Fence.wide n Try.prog 50 #[.func (.yield l) #[] #[], .pointer (some ⟨B, 0, none⟩), .pointer (some ⟨Bf, 0, none⟩)] W fun e W' => (∃ v, e = .returned v) ∧ J N (sq N) W' := by
  have h50 : Fence.wide.fn 50 := trivial
  refine callsIn_of_wp Try.func50 rfl h50 ?_ rfl
  simp only [Try.ntmps50, List.size_toArray, List.length_cons, List.length_nil, Nat.reduceAdd, Nat.reduceSub, Array.replicate_succ, Array.replicate_zero, List.push_toArray, List.append_toArray, List.nil_append, List.cons_append]
  gi_wp2
  gi_loopw [] (fun (wr : World) => ∃ k, k ≤ N ∧ J k (sq k) wr) (fun wr => lft B wr)
  case atStart => exact ⟨0, Nat.zero_le _, h0⟩
  case round =>
    obtain ⟨k, hk, hJ⟩ := hrel
    have hcell := (hc k _ _ hJ).1
    by_cases hlt : k < N
    · obtain ⟨fn, tmps, assign, body, hyy, hR⟩ := hy k wr hlt hJ
      obtain ⟨q0, q1, q2, q3⟩ := hsq k hlt
      gi_wp2
      refine hR.mono ?_; rintro e W3 ⟨rfl, hJ3⟩; obtain ⟨hc3, hf3⟩ := hc _ _ _ hJ3; obtain ⟨so, cap, sb, hb3, hi3⟩ := hr _ _ _ hJ3
      have hi4 := hi3 _ q1
      gi_wp2
      have hJ4 := hs (k + 1) (sq k) (ab (sq k).toNat) W3 hJ3
      rw [← q2] at hJ4 ⊢
      refine ⟨⟨k + 1, by omega, hJ4⟩, ?_⟩; unfold lft
      rw [(hc _ _ _ hJ4).1, hcell]
      show (sq (k + 1) + 1).toNat < (sq k + 1).toNat
      omega
    · have : k = N := by omega
      subst this
      have hlt2 : ¬ (0 ≤ sq k) := by omega
      gi_wp2
      go_end0
      exact ⟨⟨_, rfl⟩, hJ⟩
/-- What of the network the iterator reads. -/
def UpRd (Bf len : Nat) (ab : Nat → Int) (W : World) : Prop := ∃ so cap sb, W.cell? ⟨Bf, 0, none⟩ = some (.slice (some ⟨sb, so, none⟩) len cap) ∧ ∀ i : Nat, i < len → W.cell? ⟨sb, so + i * 5, none⟩ = some (.int .i64 (ab i))
theorem up1_seq (n B Bf : Nat) (hn : 1 ≤ n) (ab : Nat → Int) (len N : Nat) (sq : Nat → Int) (hsq : ∀ k, k < N → 0 ≤ sq k ∧ (sq k).toNat < len ∧ sq (k + 1) = ab (sq k).toNat ∧ sq (k + 1) < sq k) (hend : sq N < 0) :
    SeqB n Try.prog 50 #[.pointer (some ⟨B, 0, none⟩), .pointer (some ⟨Bf, 0, none⟩)] B N sq (UpRd Bf len ab) :=
  fun l J W hc hr hs hy h0 => up1_in n l B Bf hn ab len N sq J hc hr hs hy hsq hend W h0
theorem up_in (n : Nat) (fv : Value) (s : Int) (cs : List Value) (hf : fv = .agg cs.toArray) (h3 : cs.length = 3) (W : World) : CallsIn Fence.wide n Try.prog 45 #[fv, .int .i64 s] W fun e W' => e = .returned (.func (.func 50) #[] #[.pointer (some ⟨W.heap.size + 1, 0, none⟩), .pointer (some ⟨W.heap.size, 0, none⟩)]) ∧ W' = (W.alloc (.cells cs.toArray 28)).alloc (.cells #[.int .i64 s] 3) := by
  subst hf
  match cs, h3 with
  | [a, b, c], _ =>
  have h45 : Fence.wide.fn 45 := trivial
  refine callsIn_of_wp Try.func45 rfl h45 ?_ rfl
  simp only [Try.ntmps45, List.size_toArray, List.length_cons, List.length_nil, Nat.reduceAdd, Nat.reduceSub, Array.replicate_succ, Array.replicate_zero, List.push_toArray, List.append_toArray, List.nil_append, List.cons_append]
  gi_wp2
  refine bodyPost_ret (results_tmp rfl _ _ _) rfl ?_; exact ⟨rfl, rfl⟩
def accM (sh : Nat → Int) (sq : Nat → Int) : Nat → Int
  | 0 => 1
  | k + 1 => if sh (sq k).toNat < accM sh sq k then sh (sq k).toNat else accM sh sq k
/-- An ending that is no panic. -/
def Qn (Q : Exit → Act → World → Prop) : Exit → Act → World → Prop
  | .normal, a, w => Q .normal a w
  | .ret, a, w => Q .ret a w
  | .exit _, _, _ => False
  | .goto _, _, _ => False
  | .panic _, _, _ => False
  | .outgrown, _, _ => False
theorem qn_ret {Q : Exit → Act → World → Prop} {a : Act} {w : World} (h : Q .ret a w) : Qn Q .ret a w := h
theorem qn_mono {n : Nat} {P : Program} {c : Code} {Q : Exit → Act → World → Prop} {F : Fence} {a : Act} {w : World} (h : c.wpIn F n P (Qn Q) a w) : c.wpIn F n P Q a w :=
  wpIn_mono h fun e a w h => by cases e <;> first | exact h | exact h.elim
/-- One act, one world. -/
def Qeq (A : Act) (W : World) : Exit → Act → World → Prop
  | .normal, a, w => a = A ∧ w = W
  | .ret, _, _ => False
  | .exit _, _, _ => False
  | .goto _, _, _ => False
  | .panic _, _, _ => False
  | .outgrown, _, _ => False
def Qw (W : World) : Exit → Act → World → Prop
  | .normal, _, w => w = W
  | .ret, _, _ => False
  | .exit _, _, _ => False
  | .goto _, _, _ => False
  | .panic _, _, _ => False
  | .outgrown, _, _ => False
theorem mono_eq {n : Nat} {P : Program} {c : Code} {Q : Exit → Act → World → Prop} {F : Fence} {a : Act} {w : World} {A : Act} {W : World} (h : c.wpIn F n P (Qeq A W) a w) (hq : Q .normal A W) : c.wpIn F n P Q a w :=
  wpIn_mono h fun e a w h => by
    cases e <;> first | exact h.elim | (obtain ⟨rfl, rfl⟩ := h; exact hq)
theorem mono_w {n : Nat} {P : Program} {c : Code} {Q : Exit → Act → World → Prop} {F : Fence} {a : Act} {w : World} {W : World} (h : c.wpIn F n P (Qw W) a w) (hq : ∀ A, Q .normal A W) : c.wpIn F n P Q a w :=
  wpIn_mono h fun e a w h => by
    cases e <;> first | exact h.elim | (obtain rfl := h; exact hq _)
theorem new_cell (w : World) (cs : Array Value) (t : TypeId) (j : Nat) : (w.alloc (.cells cs t)).cell? ⟨w.heap.size, j, none⟩ = cs[j]? := by
  unfold World.cell?
  rw [World.alloc_heap_new]
  rfl
theorem new_frozen (w : World) (cs : Array Value) (t : TypeId) (j : Nat) : (w.alloc (.cells cs t)).frozen? ⟨w.heap.size, j, none⟩ = false := by
  unfold World.frozen?
  rw [World.alloc_heap_new]
  rfl
/-- Between two rounds: the least number in its box (o), the iterator's number (b), the network's boxes (bf, f0). -/
structure LInv (f0 : Nat) (w : World) (o b bf sb so len scap : Nat) (acc v : Int) (W : World) : Prop where
  co : W.cell? ⟨o, 0, none⟩ = some (.int .i64 acc)
  fo : W.frozen? ⟨o, 0, none⟩ = false
  cb : W.cell? ⟨b, 0, none⟩ = some (.int .i64 v)
  fb : W.frozen? ⟨b, 0, none⟩ = false
  cf : W.cell? ⟨bf, 0, none⟩ = some (.slice (some ⟨sb, so, none⟩) len scap)
  cg : W.cell? ⟨f0, 0, none⟩ = some (.slice (some ⟨sb, so, none⟩) len scap)
  be : Below w.heap.size w W
theorem far {W : World} {a b : Nat} {x : Value} {r : Option Value} (hab : a ≠ b) (h : W.cell? ⟨b, 0, none⟩ = r) : (W.setCell ⟨a, 0, none⟩ x).cell? ⟨b, 0, none⟩ = r :=
  (World.cell?_setCell_other (w := W) (a := ⟨a, 0, none⟩) (b := ⟨b, 0, none⟩) (v := x) (fun e => hab (by injection e))).trans h
theorem near {W : World} {a : Nat} {x y : Value} (h : W.cell? ⟨a, 0, none⟩ = some y) : (W.setCell ⟨a, 0, none⟩ x).cell? ⟨a, 0, none⟩ = some x :=
  World.cell?_setCell_same (w := W) (a := ⟨a, 0, none⟩) (v := x) h
theorem LInv.set_b {f0 : Nat} {w : World} {o b bf sb so len scap : Nat} {acc v : Int} {W : World} (h : LInv f0 w o b bf sb so len scap acc v W) (h1 : b ≠ o) (h2 : b ≠ bf) (h3 : b ≠ f0) (hb : w.heap.size ≤ b) (v' : Int) : LInv f0 w o b bf sb so len scap acc v' (W.setCell ⟨b, 0, none⟩ (.int .i64 v')) :=
  ⟨far h1 h.co, by rw [World.frozen?_setCell]; exact h.fo, near h.cb, by rw [World.frozen?_setCell]; exact h.fb, far h2 h.cf, far h3 h.cg, h.be.setCell (p := ⟨b, 0, none⟩) hb _⟩
theorem LInv.set_o {f0 : Nat} {w : World} {o b bf sb so len scap : Nat} {acc v : Int} {W : World} (h : LInv f0 w o b bf sb so len scap acc v W) (h1 : o ≠ b) (h2 : o ≠ bf) (h3 : o ≠ f0) (hb : w.heap.size ≤ o) (x : Int) : LInv f0 w o b bf sb so len scap x v (W.setCell ⟨o, 0, none⟩ (.int .i64 x)) :=
  ⟨near h.co, by rw [World.frozen?_setCell]; exact h.fo, far h1 h.cb, by rw [World.frozen?_setCell]; exact h.fb, far h2 h.cf, far h3 h.cg, h.be.setCell (p := ⟨o, 0, none⟩) hb _⟩
theorem LInv.grown {f0 : Nat} {w : World} {o b bf sb so len scap : Nat} {acc v : Int} {W W' : World} {row : Option Nat} (h : LInv f0 w o b bf sb so len scap acc v W) (hg : W.grownBy W' row) (hr : ∀ r, row = some r → ∃ x : Obj, W.heap[r]? = some x ∧ x.isCells = false) (hs : ∀ r, row = some r → w.heap.size ≤ r) : LInv f0 w o b bf sb so len scap acc v W' :=
  ⟨cell_kept h.co hg hr, (frozen_kept h.co hg hr).trans h.fo, cell_kept h.cb hg hr, (frozen_kept h.cb hg hr).trans h.fb, cell_kept h.cf hg hr, cell_kept h.cg hg hr, h.be.grown hg h.be.size hs⟩
theorem LInv.put {f0 : Nat} {w : World} {o b bf sb so len scap : Nat} {acc v : Int} {W : World} (h : LInv f0 w o b bf sb so len scap acc v W) {l : Nat} {x : Obj} (x' : Obj) (hl : w.heap.size ≤ l) (hx : W.heap[l]? = some x) (hc : x.isCells = false) : LInv f0 w o b bf sb so len scap acc v (W.putObj l x') :=
  h.grown (grownBy_putObj' W l x') (fun r e => by cases e; exact ⟨x, hx, hc⟩) (fun r e => by cases e; exact hl)
theorem LInv.alloc {f0 : Nat} {w : World} {o b bf sb so len scap : Nat} {acc v : Int} {W : World} (h : LInv f0 w o b bf sb so len scap acc v W) (x : Obj) : LInv f0 w o b bf sb so len scap acc v (W.alloc x) :=
  h.grown (World.grownBy_alloc W x none) (fun r e => by cases e) (fun r e => by cases e)
theorem LInv.drew {f0 : Nat} {w : World} {o b bf sb so len scap : Nat} {acc v : Int} {W : World} (h : LInv f0 w o b bf sb so len scap acc v W) : LInv f0 w o b bf sb so len scap acc v W.drew := ⟨h.co, h.fo, h.cb, h.fb, h.cf, h.cg, h.be.drew⟩
theorem linv_start {w W1 W2 : World} {sb so len scap zb zo nz zcap : Nat} {rep z : Int} (hW2 : W1.alloc (Obj.cells #[Value.int IntKind.i64 1] 3) = W2) (hbw2 : Below w.heap.size w W2) (hz0 : W2.cell? ⟨w.heap.size, 0, none⟩ = some (.slice (some ⟨sb, so, none⟩) len scap)) :
    LInv w.heap.size w W1.heap.size (W2.heap.size + 1) W2.heap.size sb so len scap 1 z ((W2.alloc (Obj.cells #[Value.slice (some { block := sb, off := so }) len scap, Value.slice (some { block := zb, off := zo }) nz zcap, Value.int IntKind.i64 rep] 28)).alloc (Obj.cells #[Value.int IntKind.i64 z] 3)).drew := by
  have a1 : ∀ {a : Addr} {v : Value} (x y : Obj), W2.cell? a = some v → ((W2.alloc x).alloc y).drew.cell? a = some v := fun x y h => cell_kept (W := W2.alloc x) (W' := (W2.alloc x).alloc y) (cell_kept h (World.grownBy_alloc W2 x none) (fun r e => by cases e)) (World.grownBy_alloc _ y none) (fun r e => by cases e)
  have a2 : ∀ {a : Addr} {v : Value} (x y : Obj), W2.cell? a = some v → ((W2.alloc x).alloc y).drew.frozen? a = W2.frozen? a := fun x y h => (frozen_kept (W := W2.alloc x) (W' := (W2.alloc x).alloc y) (cell_kept h (World.grownBy_alloc W2 x none) (fun r e => by cases e)) (World.grownBy_alloc _ y none) (fun r e => by cases e)).trans (frozen_kept h (World.grownBy_alloc W2 x none) (fun r e => by cases e))
  have co : W2.cell? ⟨W1.heap.size, 0, none⟩ = some (.int .i64 1) := by rw [← hW2]; exact new_cell _ _ _ _
  have fo : W2.frozen? ⟨W1.heap.size, 0, none⟩ = false := by rw [← hW2]; exact new_frozen _ _ _ _
  refine ⟨a1 _ _ co, (a2 _ _ co).trans fo, ?_, ?_, ?_, a1 _ _ hz0, ((hbw2.alloc (by have := hbw2.size; omega) _).alloc (by have := hbw2.size; simp; omega) _).drew⟩
  · have := new_cell (W2.alloc (Obj.cells #[Value.slice (some { block := sb, off := so }) len scap, Value.slice (some { block := zb, off := zo }) nz zcap, Value.int IntKind.i64 rep] 28)) #[Value.int IntKind.i64 z] 3 0
    rw [World.size_alloc] at this
    exact this
  · have := new_frozen (W2.alloc (Obj.cells #[Value.slice (some { block := sb, off := so }) len scap, Value.slice (some { block := zb, off := zo }) nz zcap, Value.int IntKind.i64 rep] 28)) #[Value.int IntKind.i64 z] 3 0
    rw [World.size_alloc] at this
    exact this
  · show ((W2.alloc _).alloc _).cell? _ = _
    exact cell_kept (new_cell W2 _ _ 0) (World.grownBy_alloc _ _ none) (fun r e => by cases e)
theorem live_in (n sb so scap len zb zo zcap nz zn N : Nat) (hn : 4 ≤ n) (rep : Int) (w : World) (ab sh zs sq : Nat → Int)
    (hsb : sb < w.heap.size) (hsw : ∀ i : Nat, i < len → w.cell? ⟨sb, so + i * 5, none⟩ = some (.int .i64 (ab i)) ∧ w.cell? ⟨sb, so + i * 5 + 2, none⟩ = some (.int .i64 (sh i)))
    (hzb : zb < w.heap.size) (hz : ∀ i : Nat, i < nz → w.cell? ⟨zb, zo + i, none⟩ = some (.int .i64 (zs i))) (hzn : zn < nz)
    (hck : ∀ W, Below w.heap.size w W → CallsIn Fence.wide (n - 1) Try.prog 22 #[.agg #[.slice (some ⟨sb, so, none⟩) len scap, .slice (some ⟨zb, zo, none⟩) nz zcap, .int .i64 rep]] W fun e W' => e = .returned (.int .i64 0) ∧ Below W.heap.size W W')
    (hs0 : sq 0 = zs zn) (hsq : ∀ k, k < N → 0 ≤ sq k ∧ (sq k).toNat < len ∧ sq (k + 1) = ab (sq k).toNat ∧ sq (k + 1) < sq k) (hend : sq N < 0) :
    CallsIn Fence.wide n Try.prog 20 #[.agg #[.slice (some ⟨sb, so, none⟩) len scap, .slice (some ⟨zb, zo, none⟩) nz zcap, .int .i64 rep], .int .i64 (zn : Int)] w fun e W' => e = .returned (.int .i64 (accM sh sq N)) ∧ Below w.heap.size w W' := by
  have h20 : Fence.wide.fn 20 := trivial
  refine callsIn_of_wp_marks Try.func20 rfl h20 (qn_mono ?_) rfl
  simp only [Try.ntmps20, List.size_toArray, List.length_cons, List.length_nil, Nat.reduceAdd, Nat.reduceSub, Array.replicate_succ, Array.replicate_zero, List.push_toArray, List.append_toArray, List.nil_append, List.cons_append]
  have hn1 : 1 ≤ n := by omega
  have hz1 : ¬ ((zn : Int) < 0) := by omega
  have hz2 : ¬ ((nz : Int) ≤ (zn : Int)) := by omega
  have hb0 := (Below.refl w.heap.size w).alloc (Nat.le_refl _) (Obj.cells #[Value.slice (some { block := sb, off := so }) len scap, Value.slice (some { block := zb, off := zo }) nz zcap, Value.int IntKind.i64 rep] 28)
  have hx : ∀ j : Nat, j < 3 → (w.alloc (Obj.cells #[Value.slice (some { block := sb, off := so }) len scap, Value.slice (some { block := zb, off := zo }) nz zcap, Value.int IntKind.i64 rep] 28)).cell? ⟨w.heap.size, j, none⟩ = (#[Value.slice (some { block := sb, off := so }) len scap, Value.slice (some { block := zb, off := zo }) nz zcap, Value.int IntKind.i64 rep] : Array Value)[j]? := fun j _ => new_cell _ _ _ _
  have hx0 := hx 0 (by omega)
  have hx1 := hx 1 (by omega)
  have hx2 := hx 2 (by omega)
  simp only [List.getElem?_toArray, List.getElem?_cons_zero, List.getElem?_cons_succ] at hx0 hx1 hx2
  have hsz : (w.alloc (Obj.cells #[Value.slice (some { block := sb, off := so }) len scap, Value.slice (some { block := zb, off := zo }) nz zcap, Value.int IntKind.i64 rep] 28)).heap.size = w.heap.size + 1 := by simp
  gi_wp2_with (refine ⟨trivial, ?_⟩; gi_at_call 22; refine (hck _ hb0).mono ?_; rintro e W1 ⟨rfl, hb1⟩; have hy0 := (hb1.cell (p := ⟨w.heap.size, 0, none⟩) (by simp)).trans hx0; have hy1 := (hb1.cell (p := ⟨w.heap.size, 1, none⟩) (by simp)).trans hx1; have hy2 := (hb1.cell (p := ⟨w.heap.size, 2, none⟩) (by simp)).trans hx2)
  have hbw := hb0.trans (hb1.mono (B' := w.heap.size) (by simp))
  obtain ⟨W2, hW2⟩ : ∃ W2, W1.alloc (Obj.cells #[Value.int IntKind.i64 1] 3) = W2 := ⟨_, rfl⟩
  have hs1 : w.heap.size + 1 ≤ W1.heap.size := by have := hb1.size; rw [hsz] at this; exact this
  have hg2 : ∀ {a : Addr} {v : Value}, W1.cell? a = some v → W2.cell? a = some v := fun h => by rw [← hW2]; exact cell_kept h (World.grownBy_alloc W1 _ none) (fun r e => by cases e)
  have hz0 := hg2 hy0
  have hz1 := hg2 hy1
  have hz2 := hg2 hy2
  have hbw2 : Below w.heap.size w W2 := by rw [← hW2]; exact hbw.alloc (by omega) _
  have hzc := (hbw2.cell (p := ⟨zb, zo + zn, none⟩) hzb).trans (hz zn hzn)
  rw [hW2]
  refine mono_eq (A := { tmps := #[Value.agg #[Value.slice (some { block := sb, off := so }) len scap, Value.slice (some { block := zb, off := zo }) nz zcap, Value.int IntKind.i64 rep], Value.int IntKind.i64 ↑zn, Value.pointer (some { block := w.heap.size, off := 0 }), undef, Value.int IntKind.i64 0, Value.pointer (some { block := W1.heap.size, off := 0 }), undef, Value.agg #[Value.slice (some { block := sb, off := so }) len scap, Value.slice (some { block := zb, off := zo }) nz zcap, Value.int IntKind.i64 rep], Value.int IntKind.i64 0, Value.bool false, Value.bool false, Value.int IntKind.i64 ↑zn, Value.bool (decide ((↑zn : Int) < 0)), Value.bool (decide ((↑zn : Int) < 0)), Value.bool (decide ((↑zn : Int) < 0)), Value.int IntKind.i64 ↑zn, Value.pointer (some { block := w.heap.size, off := 1 }), Value.slice (some { block := zb, off := zo }) nz zcap, Value.int IntKind.i64 ↑nz, Value.bool false, Value.bool (decide ((↑zn : Int) < 0)), Value.agg #[Value.slice (some { block := sb, off := so }) len scap, Value.slice (some { block := zb, off := zo }) nz zcap, Value.int IntKind.i64 rep], Value.pointer (some { block := w.heap.size, off := 1 }), Value.slice (some { block := zb, off := zo }) nz zcap, Value.int IntKind.i64 ↑zn, Value.pointer (some { block := zb, off := zo + zn }), Value.int IntKind.i64 (zs zn), Value.func (Fn.func 50) #[] #[Value.pointer (some { block := W2.heap.size + 1, off := 0 }), Value.pointer (some { block := W2.heap.size, off := 0 })], undef, undef, undef, undef, undef, undef, undef, undef, undef, undef], defers := [] }) (W := ((W2.alloc (Obj.cells #[Value.slice (some { block := sb, off := so }) len scap, Value.slice (some { block := zb, off := zo }) nz zcap, Value.int IntKind.i64 rep] 28)).alloc (Obj.cells #[Value.int IntKind.i64 (zs zn)] 3)).drew) ?rr ?tt
  case rr =>
    gi_region_with (refine ⟨trivial, ?_⟩; gi_at_call 45; refine (up_in _ _ _ [_, _, _] rfl rfl _).mono ?_; rintro e w' ⟨rfl, rfl⟩)
    all_goals exact ⟨rfl, rfl⟩
  case tt =>
    have hL := linv_start (zb := zb) (zo := zo) (nz := nz) (zcap := zcap) (rep := rep) (z := zs zn) hW2 hbw2 hz0
    have hW2s : W2.heap.size = W1.heap.size + 1 := by rw [← hW2]; simp
    have hW3s : W2.heap.size + 2 ≤ (((W2.alloc (Obj.cells #[Value.slice (some { block := sb, off := so }) len scap, Value.slice (some { block := zb, off := zo }) nz zcap, Value.int IntKind.i64 rep] 28)).alloc (Obj.cells #[Value.int IntKind.i64 (zs zn)] 3)).drew).heap.size := by show _ ≤ ((W2.alloc _).alloc _).heap.size; simp
    generalize ((W2.alloc (Obj.cells #[Value.slice (some { block := sb, off := so }) len scap, Value.slice (some { block := zb, off := zo }) nz zcap, Value.int IntKind.i64 rep] 28)).alloc (Obj.cells #[Value.int IntKind.i64 (zs zn)] 3)).drew = W3 at hL hW3s ⊢
    clear hzc hbw2 hz2 hz1 hz0 hg2 hW2 hbw hy0 hy1 hy2 hb1 hsz hx hx0 hx1 hx2 hb0 hck
    have hL0 : LInv w.heap.size w W1.heap.size (W2.heap.size + 1) W2.heap.size sb so len scap (accM sh sq 0) (sq 0) W3 := by rw [hs0]; exact hL
    gi_wp2
    refine wpIn_rangeB rfl (enters_of Try.func50 (by kernel_rfl) rfl) (up1_seq (n - 1) (W2.heap.size + 1) W2.heap.size (by omega) ab len N sq hsq hend) rfl
      (fun k v W => LInv w.heap.size w W1.heap.size (W2.heap.size + 1) W2.heap.size sb so len scap (accM sh sq k) v W) (fun k v W h => ⟨h.cb, h.fb⟩)
      (fun k v W h => ⟨so, scap, sb, h.cf, fun i hi => (h.be.cell (p := ⟨sb, so + i * 5, none⟩) hsb).trans (hsw i hi).1⟩)
      (fun k v v' W h => h.set_b (by omega) (by omega) (by omega) (by omega) v') (fun k v W l o o' h hl hx hc => h.put o' (by omega) hx hc) (fun k v W o h => h.alloc o) hL0 ?a1 ?hassign ?hbody ?hdone
    case hassign =>
      intro l x W K hK
      gi_wp2
      exact hK
    case hbody =>
      intro l k W h hk
      obtain ⟨q0, q1, q2, q3⟩ := hsq k hk
      have c1 := h.co
      have c2 := h.fo
      have c3 := h.cg
      have c4 := (h.be.cell (p := ⟨sb, so + (sq k).toNat * 5 + 2, none⟩) hsb).trans (hsw _ q1).2
      have hfin := (h.set_o (by omega) (by omega) (by omega) (by omega) (accM sh sq (k + 1))).drew
      clear hL0 hL h hsw hz hs0 hsq
      gi_wp2
      refine mono_w (W := (W.setCell ⟨W1.heap.size, 0, none⟩ (.int .i64 (accM sh sq (k + 1)))).drew) ?rr2 ?tt2
      case rr2 =>
        gi_region
        all_goals exact (rfl : _ = _)
      case tt2 =>
        intro A
        exact ⟨rfl, (KeepsOthers.setCell W _ _).trans (KeepsOthers.drew _), hfin⟩
    case hdone =>
      intro W h hD
      have c1 := h.co
      have c2 := h.be
      clear hL0 hL h hsw hz hs0 hsq
      gi_wp2
      refine qn_ret (⟨by simp, .inl ⟨_, _, rfl, run_takeDeferred hD, ?_⟩⟩); exact ⟨_, results_tmp rfl _ _ _, rfl, c2.trans (belowK_b (w := w) (Nat.le_refl _) W _ _ _ (by omega) hD rfl rfl)⟩
theorem live_bad (n nz zcap : Nat) (hn : 4 ≤ n) (x0 x2 : Value) (za : Option Addr) (zone ck : Int) (w : World)
    (hck : ∀ W, Below w.heap.size w W → CallsIn Fence.wide (n - 1) Try.prog 22 #[.agg #[x0, .slice za nz zcap, x2]] W fun e W' => e = .returned (.int .i64 ck) ∧ Below W.heap.size W W')
    (hbad : ck ≠ 0 ∨ (ck = 0 ∧ zone < 0) ∨ (ck = 0 ∧ ¬ zone < 0 ∧ (nz : Int) ≤ zone)) :
    CallsIn Fence.wide n Try.prog 20 #[.agg #[x0, .slice za nz zcap, x2], .int .i64 zone] w fun e W' => e = .returned (.int .i64 0) ∧ Below w.heap.size w W' := by
  have h20 : Fence.wide.fn 20 := trivial
  refine callsIn_of_wp_marks Try.func20 rfl h20 (qn_mono ?_) rfl
  simp only [Try.ntmps20, List.size_toArray, List.length_cons, List.length_nil, Nat.reduceAdd, Nat.reduceSub, Array.replicate_succ, Array.replicate_zero, List.push_toArray, List.append_toArray, List.nil_append, List.cons_append]
  have hn1 : 1 ≤ n := by omega
  have hb0 := (Below.refl w.heap.size w).alloc (Nat.le_refl _) (Obj.cells #[x0, .slice za nz zcap, x2] 28)
  have hx : ∀ j : Nat, j < 3 → (w.alloc (Obj.cells #[x0, .slice za nz zcap, x2] 28)).cell? ⟨w.heap.size, j, none⟩ = (#[x0, .slice za nz zcap, x2] : Array Value)[j]? := fun j _ => new_cell _ _ _ _
  have hx1 := hx 1 (by omega)
  simp only [List.getElem?_toArray, List.getElem?_cons_zero, List.getElem?_cons_succ] at hx1
  have hsz : (w.alloc (Obj.cells #[x0, .slice za nz zcap, x2] 28)).heap.size = w.heap.size + 1 := by simp
  rcases hbad with h | ⟨rfl, h⟩ | ⟨rfl, h, h'⟩
  · gi_wp2_with (refine ⟨trivial, ?_⟩; gi_at_call 22; refine (hck _ hb0).mono ?_; rintro e W1 ⟨rfl, hb1⟩)
    exact qn_ret ⟨_, results_tmp rfl _ _ _, rfl, hb0.trans (hb1.mono (B' := w.heap.size) (by simp))⟩
  · gi_wp2_with (refine ⟨trivial, ?_⟩; gi_at_call 22; refine (hck _ hb0).mono ?_; rintro e W1 ⟨rfl, hb1⟩)
    exact qn_ret ⟨_, results_tmp rfl _ _ _, rfl, hb0.trans (hb1.mono (B' := w.heap.size) (by simp))⟩
  · gi_wp2_with (refine ⟨trivial, ?_⟩; gi_at_call 22; refine (hck _ hb0).mono ?_; rintro e W1 ⟨rfl, hb1⟩; have hy1 := (hb1.cell (p := ⟨w.heap.size, 1, none⟩) (by simp)).trans hx1)
    exact qn_ret ⟨_, results_tmp rfl _ _ _, rfl, hb0.trans (hb1.mono (B' := w.heap.size) (by simp))⟩
/-- The numbers above switch i, and what it shows. -/
def abv (f : T_Feeder) (i : Nat) : Int := ((f.Switches[i]?).map (·.Above)).getD 0
def shw (f : T_Feeder) (i : Nat) : Int := ((f.Switches[i]?).map (·.Shown)).getD 0
theorem live_seq (f : T_Feeder) : ∀ (n : Nat) (s o r : Int), iterC (F_feeder_Live_L1 f) n (s, o) = some r →
    ∃ (N : Nat) (sq acc : Nat → Int), sq 0 = s ∧ acc 0 = o ∧ (∀ k, k < N → 0 ≤ sq k ∧ (sq k).toNat < f.Switches.length ∧ sq (k + 1) = abv f (sq k).toNat ∧ sq (k + 1) < sq k ∧ acc (k + 1) = if shw f (sq k).toNat < acc k then shw f (sq k).toNat else acc k) ∧ sq N < 0 ∧ r = acc N
  | 0, s, o, r, h => by simp [iterC] at h
  | n + 1, s, o, r, h => by
    unfold iterC at h; obtain ⟨x, h1, h2⟩ := Xv h; unfold F_feeder_Live_L1 at h1
    by_cases hs : 0 ≤ s
    · rw [decide_eq_true (show 0 ≤ ((s, o) : Int × Int).1 from hs), cond_true] at h1
      obtain ⟨y, hy, h1⟩ := Xv h1
      have hg := Yk hy
      have hlen := (List.getElem?_eq_some_iff.1 hg.2).1
      by_cases ha : y.Above < s
      · rw [decide_eq_true (show y.Above < ((s, o) : Int × Int).1 from ha), cond_true] at h1
        injection h1 with h1
        subst h1
        obtain ⟨N, sq, acc, e0, e1, e2, e3, e4⟩ := live_seq f n _ _ r h2
        have hab : abv f s.toNat = y.Above := by unfold abv; rw [hg.2]; rfl
        have hsh : shw f s.toNat = y.Shown := by unfold shw; rw [hg.2]; rfl
        refine ⟨N + 1, fun k => match k with | 0 => s | k + 1 => sq k, fun k => match k with | 0 => o | k + 1 => acc k, rfl, rfl, fun k hk => ?_, e3, e4⟩
        match k, hk with
        | 0, _ => exact ⟨hs, hlen, by show sq 0 = _; rw [e0, hab], by show sq 0 < s; rw [e0]; exact ha, by show acc 0 = _; rw [e1, hsh]⟩
        | k + 1, hk => exact e2 k (by omega)
      · rw [decide_eq_false (show ¬ y.Above < ((s, o) : Int × Int).1 from ha), cond_false] at h1
        cases h1
    · rw [decide_eq_false (show ¬ 0 ≤ ((s, o) : Int × Int).1 from hs), cond_false] at h1
      injection h1 with h1
      subst h1
      injection h2 with h2
      subst h2
      exact ⟨0, fun _ => s, fun _ => o, rfl, rfl, fun k hk => by omega, by show s < 0; omega, rfl⟩
theorem acc_is {sh sq acc : Nat → Int} {N : Nat} (h0 : acc 0 = 1) (h : ∀ k, k < N → acc (k + 1) = if sh (sq k).toNat < acc k then sh (sq k).toNat else acc k) : ∀ k, k ≤ N → accM sh sq k = acc k
  | 0, _ => h0.symm
  | k + 1, hk => by
    rw [h k (by omega), ← acc_is h0 h k (by omega)]
    rfl
theorem F_feeder_Live_ok {p0 : T_Feeder} {p1 : Int} {r : Int} (hF : F_feeder_Live p0 p1 = some r) (low : List AObj) :
    Ym Try.prog 20 [.agg (zA p0), .int .i64 p1] low fun x low' => x = .int .i64 r ∧ low' = low := by
  refine vcalls_of_calls (fun c hc => ?_) (fun F xs w hl ha hfb => ?_) low
  · simp at hc
    rcases hc with rfl | rfl
    · exact Xh ⟨.vs _ _, .vs _ _, .int _ _, trivial⟩
    · exact .int _ _
  unfold F_feeder_Live at hF; obtain ⟨ck, hck, hF⟩ := Xv hF
  match xs, hl with
  | [fv, zv], _ =>
  obtain rfl := vi_int (ha 1 _ _ rfl rfl)
  have hfv := ha 0 _ _ rfl rfl
  obtain ⟨ys, rfl, hyl, hyv⟩ := vi_agg hfv
  match ys, hyl with
  | [x0, x1, x2], _ =>
  have v0 := hyv 0 _ _ rfl rfl
  have v1 := hyv 1 _ _ rfl rfl
  obtain rfl := vi_int (hyv 2 _ _ rfl rfl); obtain ⟨sa, scap, rfl, hsa⟩ := vi_row v0; obtain ⟨za, zcap, rfl, hza⟩ := vi_row v1
  have hC : ∀ W, Below w.heap.size w W → CallsIn Fence.wide (4 - 1) Try.prog 22 #[.agg #[.slice sa (Yy T_Switch.enc p0.Switches).length scap, .slice za (Yy (Yz .i64) p0.Zones).length zcap, .int .i64 p0.Reply]] W fun e W' => e = .returned (.int .i64 ck) ∧ Below W.heap.size W W' := fun W hW => by
    refine callsIn_wide.2 ((calls_of_vcalls (F_feeder_Check_ok hck []) [_] W rfl fun i c x hc hx => ?_).mono ?_)
    · match i, hc, hx with
      | 0, hc, hx =>
        simp only [List.getElem?_cons_zero, Option.some.injEq] at hc hx
        subst hc; subst hx
        exact hfv.mono (fun b h => Nat.lt_of_lt_of_le (hfb b h) hW.size) (fun b h => hW.block b (hfb b h))
      | i + 1, hc, _ => simp at hc
    · rintro e W' ⟨x, F', rfl, hx, hb⟩
      obtain rfl := vi_int hx; exact ⟨rfl, hb⟩
  refine (callsIn_wide (n := 4)).1 ?_
  simp only [Zf] at hC ⊢
  by_cases h1 : ck ≠ 0
  · rw [decide_eq_true h1, cond_true] at hF
    injection hF with hF
    subst hF
    exact live_bad 4 _ _ (Nat.le_refl _) _ _ _ p1 ck w hC (.inl h1)
  rw [decide_eq_false h1, cond_false] at hF
  have h1' : ck = 0 := Decidable.byContradiction h1
  by_cases h2 : p1 < 0
  · rw [decide_eq_true h2, cond_true] at hF
    injection hF with hF
    subst hF
    exact live_bad 4 _ _ (Nat.le_refl _) _ _ _ p1 ck w hC (.inr (.inl ⟨h1', h2⟩))
  rw [decide_eq_false h2, cond_false] at hF
  by_cases h3 : (p0.Zones.length : Int) ≤ p1
  · rw [decide_eq_true h3, cond_true] at hF
    injection hF with hF
    subst hF
    exact live_bad 4 _ _ (Nat.le_refl _) _ _ _ p1 ck w hC (.inr (.inr ⟨h1', h2, h3⟩))
  rw [decide_eq_false h3, cond_false] at hF
  obtain ⟨zn, rfl⟩ : ∃ zn : Nat, p1 = (zn : Int) := ⟨p1.toNat, by omega⟩; obtain ⟨z, hz, hF⟩ := Xv hF
  have hzg := Yk hz
  have hz0 : 0 ≤ z := by
    refine Decidable.byContradiction fun h => ?_
    rw [decide_eq_false h, cond_false] at hF
    cases hF
  rw [decide_eq_true hz0, cond_true] at hF
  rw [Int.toNat_natCast] at hzg
  have hzn := (List.getElem?_eq_some_iff.1 hzg.2).1
  obtain ⟨m, hm⟩ := loopC_some hF; obtain ⟨N, sq, acc, e0, e1, e2, e3, e4⟩ := live_seq p0 m _ _ _ hm; obtain ⟨zb, zo, rfl, hzF, hzc⟩ := hza (by intro h; simp at h; rw [h] at hzn; simp at hzn)
  subst e4
  rw [← acc_is e1 (fun k hk => (e2 k hk).2.2.2.2) N (Nat.le_refl _)]
  subst h1'
  have hN : 0 < N := by
    refine Nat.pos_of_ne_zero fun h => ?_
    subst h
    omega
  have hsl := (e2 0 hN).2.1
  obtain ⟨sb, so, rfl, hsF, hsc⟩ := hsa (by intro h; simp at h; rw [h] at hsl; simp at hsl)
  have hrow : ∀ (i : Nat), i < p0.Switches.length → ∃ y, p0.Switches[i]? = some y ∧ abv p0 i = y.Above ∧ shw p0 i = y.Shown := fun i hi => by
    refine ⟨_, List.getElem?_eq_getElem hi, ?_, ?_⟩
    · unfold abv; rw [List.getElem?_eq_getElem hi]; rfl
    · unfold shw; rw [List.getElem?_eq_getElem hi]; rfl
  have hcell : ∀ (i j : Nat) (c : PV) (y : T_Switch), p0.Switches[i]? = some y → y.enc.cells[j]? = some c → cellOf (Yy T_Switch.enc p0.Switches) i j = some c := fun i j c y hy hc => by
    unfold cellOf
    rw [List.getElem?_map, hy]
    exact hc
  refine live_in 4 sb so scap p0.Switches.length zb zo zcap p0.Zones.length zn N (Nat.le_refl _) _ w (abv p0) (shw p0) (fun i => ((p0.Zones[i]?).getD 0)) sq (hfb _ hsF) (fun i hi => ?_) (hfb _ hzF) (fun i hi => ?_) hzn hC ?_ (fun k hk => ⟨(e2 k hk).1, (e2 k hk).2.1, (e2 k hk).2.2.1, (e2 k hk).2.2.2.1⟩) e3
  · obtain ⟨y, hy, ha', hs'⟩ := hrow i hi
    obtain ⟨u, hu, hv⟩ := hsc i 0 _ (hcell i 0 _ y hy rfl); obtain ⟨u2, hu2, hv2⟩ := hsc i 2 _ (hcell i 2 _ y hy rfl)
    rw [vi_int hv] at hu
    rw [vi_int hv2] at hu2
    rw [ha', hs']
    exact ⟨hu, by rw [Nat.add_assoc]; exact hu2⟩
  · have hy := List.getElem?_eq_getElem hi
    obtain ⟨u, hu, hv⟩ := hzc i 0 (.int .i64 p0.Zones[i]) (by unfold cellOf; rw [List.getElem?_map, hy]; rfl)
    rw [vi_int hv] at hu
    rw [hy]
    simpa using hu
  · rw [e0, hzg.2]; rfl
end

theorem F_feeder_Due_ok {p0 : T_Feeder} {r : Int} (hF : F_feeder_Due p0 = some r) (low : List AObj) :
    Ym Try.prog 27 [.agg (zA p0)] low fun x low' => x = .int .i64 r ∧ low' = low := by
 refine Xd (nt := 27) (rs := [.tmp 2]) Try.func27 rfl rfl (Zc rfl) rfl (Vt (Q' := FnE (fun E' lw lc => Xj E' lw lc [(2, .int .i64 r)] low [])) ?_ ?_)
 ·unfold F_feeder_Due at hF; refine Vf (Vc (Vi (Yx rfl rfl (v := .agg (zA p0)) rfl rfl (Zd _) rfl rfl) rfl (Va (Vz rfl) rfl (Vd (Vf (Vf (Vc ?_))))))); obtain ⟨x1, h2, hF⟩ := Xv hF; refine Va (Vp (ds := (zA p0)) rfl (Vh rfl rfl) rfl ta_28 ts_28 rfl rfl rfl) rfl (Vi (Vk rfl Try.call22 (F_feeder_Check_ok h2 _)) rfl (Va (Yl rfl rfl) rfl (Vd (Vw rfl (fun c3 => ?_) (fun c3 => ?_)))))
  ·have hF := Xm c3 hF; refine Vf (Vc (Va (Vz rfl) rfl (Vd (Xa ?_)))); obtain rfl := Zb hF; refine fnR ?_; exact Vn rfl [] (by decide) ⟨Vj rfl (.int _ _), trivial⟩ trivial
  ·have hF := Xn c3 hF; refine Vy (Vf (Vc (Va (Vz rfl) rfl (Vd (Vf (Vf (Vc (Va (Ve rfl tf_28_0 ts_25 (by decide)) rfl ?_)))))))); refine Va (Vm rfl (Vh rfl rfl) rfl ta_25 rfl) rfl (Va (Xw (Yb rfl rfl te_25) (congrArg (fun n : Nat => Yz .i64 (n : Int)) (Zf _))) rfl (Va (Vo rfl) rfl (Vd (Xi ?_)))); obtain ⟨o5, ho5, hF⟩ := Xv hF; refine Vt (Yn (F_feeder_Due_L1 p0) (fun s4 E' lw lc => Xj E' lw lc [(1, .ptr (low.length + 0) 0 0 0), (3, .int .i64 s4.2), (10, .vs 5 (Yy T_Switch.enc p0.Switches)), (11, .int .i64 ((p0.Switches).length : Int)), (12, .int .i64 s4.1)] low [(zB p0 0)]) (fun o5 => OnlyE (.exit 0) (fun E' lw lc => Xj E' lw lc [(3, .int .i64 o5)] low [])) ho5 ?_ (by rintro _ _ _ _ ⟨h, _⟩ <;> cases h) ?_) ?_
   ·exact Vr ⟨rfl, rfl, rfl, rfl, rfl, trivial⟩
   ·rintro s4 os4 _ _ _ hF hw; unfold F_feeder_Due_L1 at hF; refine Yq hw (Vf (Vc (Va (Xo rfl rfl) rfl (Vd (Vf (Vw rfl (fun c6 => ?_) (fun c6 => ?_)))))))
    ·have hF := Xm c6 hF; refine Vy (Vf ?_); obtain ⟨o7, ho7, hF⟩ := Xv hF; refine Vt (Q' := (fun o7 => OnlyE .normal (fun E' lw lc => Xj E' lw lc [(1, .ptr (low.length + 0) 0 0 0), (3, .int .i64 o7), (10, .vs 5 (Yy T_Switch.enc p0.Switches)), (11, .int .i64 ((p0.Switches).length : Int)), (12, .int .i64 s4.1)] low [(zB p0 0)])) o7) ?_ ?_
     ·replace hF := ho7; refine Xi (Vf (Vc ?_)); obtain ⟨x8, h9, hF⟩ := Xv hF; refine Va (Xw (rd_ixV rfl rfl h9 te_25 ts_36) (v' := .vptr (zC x8) 0) rfl) rfl (Va (rd_loadVN (ds := (zC x8)) rfl ta_36 ts_36 rfl rfl) rfl (Vi (Yf rfl rfl tz_36 rfl rfl (Zd _) rfl) rfl (Vi (Xq (p := .agg (zC x8)) (e' := .agg (zC x8)) rfl (Vh rfl rfl) rfl rfl ts_36 rfl (Yp rfl) rfl (Zc rfl) rfl (Xu rfl rfl)) rfl (Vd (Vf (Vc ?_)))))); obtain ⟨x10, h11, hF⟩ := Xv hF; refine Va (Vp (ds := (zC x8)) rfl (Vh rfl rfl) rfl ta_36 ts_36 rfl rfl rfl) rfl (Vi (Vk rfl Try.call44 (F_feeder_waits_ok h11 _)) rfl (Vd (Vw rfl (fun c12 => ?_) (fun c12 => ?_))))
      ·have hF := Xm c12 hF; refine Vc (Va (Vo rfl) rfl (Va (Ve rfl tf_36_1 ts_3 (by decide)) rfl (Va (Vm rfl (Vh rfl rfl) rfl ta_3 rfl) rfl (Va (Ve rfl tf_28_2 ts_3 (by decide)) rfl (Va (Vm rfl (Vh rfl rfl) rfl ta_3 rfl) rfl (Va (Yv rfl rfl rfl) rfl (Va (rd_min rfl rfl) rfl (Va (Vz rfl) rfl ?_)))))))); refine Vd ?_; obtain rfl := Zb hF; refine Vv ?_; exact Vn rfl [(0, 0)] (by decide) ⟨Xe 0 0 rfl rfl, Vj rfl (.int _ _), Vj rfl (.vs _ _), Vj rfl (.int _ _), Vj rfl (.int _ _), trivial⟩ ⟨⟨_, rfl, rfl, .same _ _ _ _ (Xc ⟨Xh ⟨.vs _ _, .vs _ _, .int _ _, trivial⟩, trivial⟩)⟩, trivial⟩
      ·have hF := Xn c12 hF; refine Vy ?_; obtain rfl := Zb hF; refine Vv ?_; exact Vn rfl [(0, 0)] (by decide) ⟨Xe 0 0 rfl rfl, Vj rfl (.int _ _), Vj rfl (.vs _ _), Vj rfl (.int _ _), Vj rfl (.int _ _), trivial⟩ ⟨⟨_, rfl, rfl, .same _ _ _ _ (Xc ⟨Xh ⟨.vs _ _, .vs _ _, .int _ _, trivial⟩, trivial⟩)⟩, trivial⟩
     ·rintro _ _ _ _ ⟨rfl, hw⟩; refine ⟨_, _, _, hw, ?_⟩; refine Vc (Va (Yv rfl rfl rfl) rfl (Va (Vo rfl) rfl (Vd ?_))); obtain rfl := Zb hF; refine Vv ?_; exact Vr ⟨rfl, rfl, rfl, rfl, rfl, trivial⟩
    ·have hF := Xn c6 hF; refine Ys ?_; obtain rfl := Zb hF; refine Vv ?_; exact Vn rfl [] (by decide) ⟨Vj rfl (.int _ _), trivial⟩ trivial
   ·rintro _ _ _ _ ⟨rfl, hw⟩; refine ⟨_, _, _, hw, ?_⟩; refine Vf (Vc (Va (Vo rfl) rfl (Va (Vz rfl) rfl (Vd (Xa ?_))))); obtain rfl := Zb hF; refine fnR ?_; exact Vr ⟨rfl, trivial⟩
 ·rintro _ _ _ _ ⟨he, hw⟩; refine ⟨_, _, _, hw, ?_⟩; exact Xy he [.int .i64 r] ⟨rfl, trivial⟩ (.int _ _) ⟨rfl, rfl⟩

theorem F_ref01_Ints_ok {p0 : List Int} {p1 : List Int} {r : Bool} (hF : F_ref01_Ints p0 p1 = some r) (low : List AObj) :
    Ym Try.prog 23 [.vs 1 (Yy (Yz .i64) p0), .vs 1 (Yy (Yz .i64) p1)] low fun x low' => x = .bool r ∧ low' = low := by
 refine Xd (nt := 26) (rs := [.tmp 4]) Try.func23 rfl rfl (Zc rfl) rfl (Vt (Q' := FnE (fun E' lw lc => Xj E' lw lc [(4, .bool r)] low [])) ?_ ?_)
 ·unfold F_ref01_Ints at hF; refine Vf (Vc (Va (Ye rfl) rfl (Vd (Vf (Vf (Vc (Va (rd_mvV rfl) rfl (Va (Xw (Yb rfl rfl te_26) (congrArg (fun n : Nat => Yz .i64 (n : Int)) (Zf _))) rfl ?_)))))))); refine Va (rd_mvV rfl) rfl (Va (Xw (Yb rfl rfl te_26) (congrArg (fun n : Nat => Yz .i64 (n : Int)) (Zf _))) rfl (Va (Yl rfl rfl) rfl (Vd (Vw rfl (fun c1 => ?_) (fun c1 => ?_)))))
  ·have hF := Xm c1 hF; refine Vf (Vc (Va (Ye rfl) rfl (Vd (Xa ?_)))); obtain rfl := Zb hF; refine fnR ?_; exact Vr ⟨rfl, trivial⟩
  ·have hF := Xn c1 hF; refine Vy (Vf (Vf (Vc (Va (Vz rfl) rfl (Vd (Xi ?_)))))); obtain ⟨o3, ho3, hF⟩ := Xv hF; refine Vt (Yn (F_ref01_Ints_L1 p0 p1) (fun s2 E' lw lc => Xj E' lw lc [(0, .vs 1 (Yy (Yz .i64) p0)), (1, .vs 1 (Yy (Yz .i64) p1)), (5, .int .i64 s2)] low []) (Sum.elim (fun j4 => OnlyE .ret (fun E' lw lc => Xj E' lw lc [(4, .bool false)] low [])) (fun j5 => OnlyE (.exit 0) (fun E' lw lc => Xj E' lw lc [] low []))) ho3 ?_ (by rintro (_|_) _ _ _ ⟨h, _⟩ <;> cases h) ?_) ?_
   ·exact Vr ⟨rfl, rfl, rfl, trivial⟩
   ·rintro s2 os2 _ _ _ hF hw; unfold F_ref01_Ints_L1 at hF; refine Yq hw (Vf (Vf (Vc (Va (Vo rfl) rfl (Va (rd_mvV rfl) rfl (Va (Xw (Yb rfl rfl te_26) (congrArg (fun n : Nat => Yz .i64 (n : Int)) (Zf _))) rfl (Va (Xo rfl rfl) rfl (Vd ?_)))))))); refine Vw rfl (fun c6 => ?_) (fun c6 => ?_)
    ·have hF := Xm c6 hF; refine Vy (Vf (Xi (Vf ?_))); obtain ⟨x7, h8, hF⟩ := Xv hF; obtain ⟨x9, h10, hF⟩ := Xv hF; refine Xt [[], [], [0, 1], [0, 1, 2], [], [], [4, 5], [4, 5, 6], (List.range 8)] mixed (by kernel_rfl) rfl (Xk rfl rfl (rd_mvV rfl) (Xk rfl rfl (Vo rfl) (Xk rfl rfl (Xw (rd_ixV rfl rfl h8 te_26 ts_3) (v' := .vptr [.int .i64 x7] 0) rfl) (Xk rfl rfl (Yr rfl ta_3 rfl) (Xk rfl rfl (rd_mvV rfl) (Xk rfl rfl (Vo rfl) (Xk rfl rfl (Xw (rd_ixV rfl rfl h10 te_26 ts_3) (v' := .vptr [.int .i64 x9] 0) rfl) (Xk rfl rfl (Yr rfl ta_3 rfl) ?_)))))))); refine Xk rfl rfl (Yl rfl rfl) (Xz (Vw rfl (fun c11 => ?_) (fun c11 => ?_)))
     ·have hF := Xm c11 hF; refine Vf (Vc (Va (Ye rfl) rfl (Vd (Xa ?_)))); obtain rfl := Zb hF; refine Vv ?_; exact Vr ⟨rfl, trivial⟩
     ·have hF := Xn c11 hF; refine Vy (Vc (Va (Vo rfl) rfl (Va (Yv rfl rfl rfl) rfl (Va (Vz rfl) rfl (Vd ?_))))); obtain rfl := Zb hF; refine Vv ?_; exact Vr ⟨rfl, rfl, rfl, trivial⟩
    ·have hF := Xn c6 hF; refine Ys ?_; obtain rfl := Zb hF; refine Vv ?_; exact Vr trivial
   ·rcases o3 with j4 | j5
    ·replace hF := elimL hF; rintro _ _ _ _ ⟨rfl, hw⟩; refine ⟨_, _, _, hw, ?_⟩; obtain rfl := Zb hF; refine fnR ?_; exact Vr ⟨rfl, trivial⟩
    ·replace hF := elimR hF; rintro _ _ _ _ ⟨rfl, hw⟩; refine ⟨_, _, _, hw, ?_⟩; refine Vf (Vc (Va (Ye rfl) rfl (Vd (Xa ?_)))); obtain rfl := Zb hF; refine fnR ?_; exact Vr ⟨rfl, trivial⟩
 ·rintro _ _ _ _ ⟨he, hw⟩; refine ⟨_, _, _, hw, ?_⟩; exact Xy he [.bool r] ⟨rfl, trivial⟩ (.bool _) ⟨rfl, rfl⟩

theorem F_law18_awake_ok  {r : Bool} (hF : F_law18_awake = some r) (low : List AObj) :
    Ym Try.prog 15 [] low fun x low' => x = .bool r ∧ low' = low := by
 refine Xd (nt := 75) (rs := [.tmp 0]) Try.func15 rfl rfl (Zc rfl) rfl (Vt (Q' := FnE (fun E' lw lc => Xj E' lw lc [(0, .bool r)] low [])) ?_ ?_)
 ·unfold F_law18_awake at hF; refine Vf (Vc (Va (Ye rfl) rfl (Vd (Vf (Vc (Va (rd_build (vs := [(0, .int .i64 (-1)), (3, .bool true), (2, .int .i64 1)]) (ds := [.int .i64 (-1), .int .i64 0, .int .i64 1, .bool true, .bool false]) tz_36 rfl rfl tp_36 ⟨rfl, rfl, rfl, rfl, rfl, rfl, trivial⟩ (nt_all2 rfl) rfl) rfl (Va (rd_build (vs := [(0, .int .i64 0), (3, .bool true), (2, .int .i64 1)]) (ds := [.int .i64 0, .int .i64 0, .int .i64 1, .bool true, .bool false]) tz_36 rfl rfl tp_36 ⟨rfl, rfl, rfl, rfl, rfl, rfl, trivial⟩ (nt_all2 rfl) rfl) rfl (Vi (Yt (es := Yy T_Switch.enc [(T_Switch.mk (-1) 0 1 true false), (T_Switch.mk 0 0 1 true false)]) ⟨rfl, rfl, rfl, rfl, trivial⟩ rfl rfl (nt_all rfl) te_25 ts_36 tz_36 rfl rfl (Zd _) (by decide) (Yg T_Switch.enc_lt)) rfl ?_)))))))); refine Vi (Yt (es := Yy (Yz .i64) [1]) ⟨rfl, rfl, trivial⟩ rfl rfl (nt_all rfl) te_26 ts_3 tz_3 rfl rfl (Zd _) (by decide) (Yg (fun _ => .int _ _))) rfl (Va (rd_build (vs := [(0, .vs 5 (Yy T_Switch.enc [(T_Switch.mk (-1) 0 1 true false), (T_Switch.mk 0 0 1 true false)])), (1, .vs 1 (Yy (Yz .i64) [1])), (2, .int .i64 5)]) (ds := [.vs 5 (Yy T_Switch.enc [(T_Switch.mk (-1) 0 1 true false), (T_Switch.mk 0 0 1 true false)]), .vs 1 (Yy (Yz .i64) [1]), .int .i64 5]) tz_28 rfl rfl tp_28 ⟨rfl, rfl, rfl, rfl, rfl, rfl, trivial⟩ (nt_all2 rfl) rfl) rfl (Vi (Yf rfl rfl tz_28 rfl rfl (Zd _) rfl) rfl (Vi (Xq (p := .agg [.vs 5 (Yy T_Switch.enc [(T_Switch.mk (-1) 0 1 true false), (T_Switch.mk 0 0 1 true false)]), .vs 1 (Yy (Yz .i64) [1]), .int .i64 5]) (e' := .agg [.vs 5 (Yy T_Switch.enc [(T_Switch.mk (-1) 0 1 true false), (T_Switch.mk 0 0 1 true false)]), .vs 1 (Yy (Yz .i64) [1]), .int .i64 5]) rfl (Vh rfl rfl) rfl rfl ts_28 rfl (Yp rfl) rfl (Zc rfl) rfl (Xu rfl rfl)) rfl (Vd (Vf (Vc ?_)))))); obtain ⟨x1, h2, hF⟩ := Xv hF; refine Va (Vp (ds := [.vs 5 (Yy T_Switch.enc [(T_Switch.mk (-1) 0 1 true false), (T_Switch.mk 0 0 1 true false)]), .vs 1 (Yy (Yz .i64) [1]), .int .i64 5]) rfl (Vh rfl rfl) rfl ta_28 ts_28 rfl rfl rfl) rfl (Vi (vef_callN (r := .tup [.agg [.sl (low.length + 1) 0 0 (x1.1.Switches).length, .vs 1 (Yy (Yz .i64) x1.1.Zones), .int .i64 x1.1.Reply], .int .i64 x1.2]) (os := [⟨36, 5, Yy T_Switch.enc x1.1.Switches, 0⟩]) rfl Try.call16 (F_feeder_Open_ok h2 _ (len_app rfl rfl))) rfl (Va (rd_mvT rfl) rfl (Va (rd_extract rfl rfl) rfl (Va (rd_extract rfl rfl) rfl (Vi (Yf rfl rfl tz_28 rfl rfl (Zd _) rfl) rfl (Vi (Xq (p := .agg [.sl (low.length + 1) 0 0 (x1.1.Switches).length, .vs 1 (Yy (Yz .i64) x1.1.Zones), .int .i64 x1.1.Reply]) (e' := .agg [.sl (low.length + 1) 0 0 (x1.1.Switches).length, .vs 1 (Yy (Yz .i64) x1.1.Zones), .int .i64 x1.1.Reply]) rfl (Vh rfl rfl) rfl rfl ts_28 rfl (Yp rfl) rfl (Zc rfl) rfl (Xu rfl rfl)) rfl (Va (Vz rfl) rfl (Vd ?_)))))))); refine Vf (Vc ?_); obtain ⟨x3, h4, hF⟩ := Xv hF; refine Va (Vp (ds := [.sl (low.length + 1) 0 0 (x1.1.Switches).length, .vs 1 (Yy (Yz .i64) x1.1.Zones), .int .i64 x1.1.Reply]) rfl (Vh rfl rfl) rfl ta_28 ts_28 rfl rfl rfl) rfl (vops_weak (Xs (E' := [(1, .ptr (low.length + 0) 0 0 0), (2, .ptr (low.length + 2) 0 0 0), (3, .int .i64 x1.2), (19, .agg (zA x1.1))]) (loc1 := [⟨28, 3, [.agg [.vs 5 (Yy T_Switch.enc [(T_Switch.mk (-1) 0 1 true false), (T_Switch.mk 0 0 1 true false)]), .vs 1 (Yy (Yz .i64) [1]), .int .i64 5]], 0⟩, ⟨36, 5, [], 0 + 1⟩, (zB x1.1 0)]) rfl 1 rfl (Yg T_Switch.enc_lt) ⟨Xb rfl, Xb rfl, Xb rfl, cv_agg rfl ⟨cv_sl rfl rfl rfl (Yi rfl), Xb rfl, Xb rfl, trivial⟩, trivial⟩ ⟨.refl _, .refl _, cvo_agg ⟨cv_sl rfl rfl rfl (Yi rfl), Xb rfl, Xb rfl, trivial⟩, trivial⟩) (Vi (vef_callN (r := .tup [.agg [.sl (low.length + 3) 0 0 (x3.1.Switches).length, .vs 1 (Yy (Yz .i64) x3.1.Zones), .int .i64 x3.1.Reply], .vs 1 (Yy (Yz .i64) x3.2.1), .vs 1 (Yy (Yz .i64) x3.2.2.1), .int .i64 x3.2.2.2]) (os := [⟨36, 5, Yy T_Switch.enc x3.1.Switches, 0⟩]) rfl Try.call19 (F_feeder_Tick_ok h4 _ (len_app rfl rfl))) rfl (Va (rd_mvT rfl) rfl (Va (rd_extract rfl rfl) rfl (Va (rd_extract rfl rfl) rfl (Va (rd_extract rfl rfl) rfl (Va (rd_extract rfl rfl) rfl (Vi (Yf rfl rfl tz_28 rfl rfl (Zd _) rfl) rfl ?_)))))))); refine Vi (Xq (p := .agg [.sl (low.length + 3) 0 0 (x3.1.Switches).length, .vs 1 (Yy (Yz .i64) x3.1.Zones), .int .i64 x3.1.Reply]) (e' := .agg [.sl (low.length + 3) 0 0 (x3.1.Switches).length, .vs 1 (Yy (Yz .i64) x3.1.Zones), .int .i64 x3.1.Reply]) rfl (Vh rfl rfl) rfl rfl ts_28 rfl (Yp rfl) rfl (Zc rfl) rfl (Xu rfl rfl)) rfl (Va (rd_asV rfl) rfl (Va (rd_asV rfl) rfl (Va (Vz rfl) rfl (Vd (Vf (Vc ?_)))))); obtain ⟨x5, h6, hF⟩ := Xv hF
  rcases Ze (decide (x5 = 0)) with c7 | c7
  ·have hF := Xm c7 hF; obtain ⟨x8, h9, hF⟩ := Xv hF
   rcases Ze (decide (x8 = 1)) with c10 | c10
   ·have hF := Xm c10 hF
    rcases Ze (decide (x1.2 = 0)) with c11 | c11
    ·have hF := Xm c11 hF; obtain ⟨x12, h13, hF⟩ := Xv hF
     rcases Ze (decide (x12 = 0)) with c14 | c14
     ·have hF := Xm c14 hF; obtain ⟨x15, h16, hF⟩ := Xv hF
      rcases Ze (decide (x15 = 15)) with c17 | c17
      ·have hF := Xm c17 hF
       rcases Ze (decide (x3.2.2.2 = 0)) with c18 | c18
       ·have hF := Xm c18 hF; obtain ⟨x19, h20, hF⟩ := Xv hF
        rcases Ze x19 with c21 | c21
        ·have hF := Xm c21 hF; obtain ⟨x22, h23, hF⟩ := Xv hF
         rcases Ze x22 with c24 | c24
         ·have hF := Xm c24 hF
          rcases Ze (decide (((x3.1.Switches).length : Int) = 2)) with c25 | c25
          ·have hF := Xm c25 hF; obtain ⟨x26, h27, hF⟩ := Xv hF; refine Va (Vp (ds := [.vs 5 (Yy T_Switch.enc [(T_Switch.mk (-1) 0 1 true false), (T_Switch.mk 0 0 1 true false)]), .vs 1 (Yy (Yz .i64) [1]), .int .i64 5]) rfl (Vh rfl rfl) rfl ta_28 ts_28 rfl rfl rfl) rfl (Vi (Vk rfl Try.call22 (F_feeder_Check_ok h6 _)) rfl (Va (Xl rfl rfl) rfl (Va (Vl rfl) rfl (Xf rfl rfl c7 (Va (Vp (ds := [.vs 5 (Yy T_Switch.enc [(T_Switch.mk (-1) 0 1 true false), (T_Switch.mk 0 0 1 true false)]), .vs 1 (Yy (Yz .i64) [1]), .int .i64 5]) rfl (Vh rfl rfl) rfl ta_28 ts_28 rfl rfl rfl) rfl (Xf rfl rfl c7 (Vi (Vk rfl Try.call20 (F_feeder_Live_ok h9 _)) rfl (Xf rfl rfl c7 ?_)))))))); refine Va (Xl rfl rfl) rfl (Va (Vs (congrArg Za c7) rfl) rfl (Va (Vl rfl) rfl (Xf rfl rfl c10 (Va (Vo rfl) rfl (Xf rfl rfl c10 (Va (Xl rfl rfl) rfl (Va (Vs (congrArg Za c10) rfl) rfl (Va (Vl rfl) rfl ?_)))))))); refine Xf rfl rfl c11 (Va (Vp (ds := (zA x1.1)) rfl (Vh rfl rfl) rfl ta_28 ts_28 rfl rfl rfl) rfl (Xf rfl rfl c11 (Vi (Vk rfl Try.call20 (F_feeder_Live_ok h13 _)) rfl (Xf rfl rfl c11 (Va (Xl rfl rfl) rfl (Va (Vs (congrArg Za c11) rfl) rfl (Va (Vl rfl) rfl (Xf rfl rfl c14 ?_)))))))); refine Va (Vp (ds := (zA x1.1)) rfl (Vh rfl rfl) rfl ta_28 ts_28 rfl rfl rfl) rfl (Xf rfl rfl c14 (Vi (Vk rfl Try.call27 (F_feeder_Due_ok h16 _)) rfl (Xf rfl rfl c14 (Va (Xl rfl rfl) rfl (Va (Vs (congrArg Za c14) rfl) rfl (Va (Vl rfl) rfl (Xf rfl rfl c17 (Va (Vo rfl) rfl ?_)))))))); refine Xf rfl rfl c17 (Va (Xl rfl rfl) rfl (Va (Vs (congrArg Za c17) rfl) rfl (Va (Vl rfl) rfl (Xf rfl rfl c18 (Va (rd_mvV rfl) rfl (Xf rfl rfl c18 (Vi (Yt (es := Yy (Yz .i64) [1]) ⟨rfl, rfl, trivial⟩ rfl rfl (nt_all rfl) te_26 ts_3 tz_3 rfl rfl (Zd _) (by decide) (Yg (fun _ => .int _ _))) rfl (Xf rfl rfl c18 ?_)))))))); refine Vi (Vk rfl Try.call23 (F_ref01_Ints_ok h20 _)) rfl (Va (Vs (congrArg Za c18) rfl) rfl (Va (Vl rfl) rfl (Xf rfl rfl c21 (Va (rd_mvV rfl) rfl (Xf rfl rfl c21 (Vi (Yt (es := Yy (Yz .i64) [0]) ⟨rfl, rfl, trivial⟩ rfl rfl (nt_all rfl) te_26 ts_3 tz_3 rfl rfl (Zd _) (by decide) (Yg (fun _ => .int _ _))) rfl (Xf rfl rfl c21 (Vi (Vk rfl Try.call23 (F_ref01_Ints_ok h23 _)) rfl ?_)))))))); refine Va (Vs (congrArg Za c21) rfl) rfl (Va (Vl rfl) rfl (Xf rfl rfl c24 (Va (Ve rfl tf_28_0 ts_25 (by decide)) rfl (Xf rfl rfl c24 (Va (Vm rfl (Vh rfl rfl) rfl ta_25 rfl) rfl (Xf rfl rfl c24 (Va (rd_lenS rfl (Vh rfl rfl) rfl rfl te_25) rfl (Xf rfl rfl c24 ?_)))))))); refine Va (Xl rfl rfl) rfl (Va (Vs (congrArg Za c24) rfl) rfl (Va (Vl rfl) rfl (Xf rfl rfl c25 (Va (Ve rfl tf_28_0 ts_25 (by decide)) rfl (Xf rfl rfl c25 (Va (Vm rfl (Vh rfl rfl) rfl ta_25 rfl) rfl (Xf rfl rfl c25 (Va (rd_ixS rfl rfl rfl (Vh rfl rfl) h27 te_25 ts_36) rfl ?_)))))))); refine Xf rfl rfl c25 (Va (Ve rfl tf_36_3 ts_4 (by decide)) rfl (Xf rfl rfl c25 (Va (rd_ldL1 rfl (Vh rfl rfl) (Yk h27).2 ta_4 rfl) rfl (Xf rfl rfl c25 (Va (Yw rfl) rfl (Va (Vs (congrArg Za c25) rfl) rfl (Va (Ye rfl) rfl (Vd ?_)))))))); refine Xa ?_; obtain rfl := Zb hF; refine fnR ?_; exact Vn rfl [] (by decide) ⟨Vj rfl (.bool _), trivial⟩ trivial
          ·have hF := Xn c25 hF; refine Va (Vp (ds := [.vs 5 (Yy T_Switch.enc [(T_Switch.mk (-1) 0 1 true false), (T_Switch.mk 0 0 1 true false)]), .vs 1 (Yy (Yz .i64) [1]), .int .i64 5]) rfl (Vh rfl rfl) rfl ta_28 ts_28 rfl rfl rfl) rfl (Vi (Vk rfl Try.call22 (F_feeder_Check_ok h6 _)) rfl (Va (Xl rfl rfl) rfl (Va (Vl rfl) rfl (Xf rfl rfl c7 (Va (Vp (ds := [.vs 5 (Yy T_Switch.enc [(T_Switch.mk (-1) 0 1 true false), (T_Switch.mk 0 0 1 true false)]), .vs 1 (Yy (Yz .i64) [1]), .int .i64 5]) rfl (Vh rfl rfl) rfl ta_28 ts_28 rfl rfl rfl) rfl (Xf rfl rfl c7 (Vi (Vk rfl Try.call20 (F_feeder_Live_ok h9 _)) rfl (Xf rfl rfl c7 ?_)))))))); refine Va (Xl rfl rfl) rfl (Va (Vs (congrArg Za c7) rfl) rfl (Va (Vl rfl) rfl (Xf rfl rfl c10 (Va (Vo rfl) rfl (Xf rfl rfl c10 (Va (Xl rfl rfl) rfl (Va (Vs (congrArg Za c10) rfl) rfl (Va (Vl rfl) rfl ?_)))))))); refine Xf rfl rfl c11 (Va (Vp (ds := (zA x1.1)) rfl (Vh rfl rfl) rfl ta_28 ts_28 rfl rfl rfl) rfl (Xf rfl rfl c11 (Vi (Vk rfl Try.call20 (F_feeder_Live_ok h13 _)) rfl (Xf rfl rfl c11 (Va (Xl rfl rfl) rfl (Va (Vs (congrArg Za c11) rfl) rfl (Va (Vl rfl) rfl (Xf rfl rfl c14 ?_)))))))); refine Va (Vp (ds := (zA x1.1)) rfl (Vh rfl rfl) rfl ta_28 ts_28 rfl rfl rfl) rfl (Xf rfl rfl c14 (Vi (Vk rfl Try.call27 (F_feeder_Due_ok h16 _)) rfl (Xf rfl rfl c14 (Va (Xl rfl rfl) rfl (Va (Vs (congrArg Za c14) rfl) rfl (Va (Vl rfl) rfl (Xf rfl rfl c17 (Va (Vo rfl) rfl ?_)))))))); refine Xf rfl rfl c17 (Va (Xl rfl rfl) rfl (Va (Vs (congrArg Za c17) rfl) rfl (Va (Vl rfl) rfl (Xf rfl rfl c18 (Va (rd_mvV rfl) rfl (Xf rfl rfl c18 (Vi (Yt (es := Yy (Yz .i64) [1]) ⟨rfl, rfl, trivial⟩ rfl rfl (nt_all rfl) te_26 ts_3 tz_3 rfl rfl (Zd _) (by decide) (Yg (fun _ => .int _ _))) rfl (Xf rfl rfl c18 ?_)))))))); refine Vi (Vk rfl Try.call23 (F_ref01_Ints_ok h20 _)) rfl (Va (Vs (congrArg Za c18) rfl) rfl (Va (Vl rfl) rfl (Xf rfl rfl c21 (Va (rd_mvV rfl) rfl (Xf rfl rfl c21 (Vi (Yt (es := Yy (Yz .i64) [0]) ⟨rfl, rfl, trivial⟩ rfl rfl (nt_all rfl) te_26 ts_3 tz_3 rfl rfl (Zd _) (by decide) (Yg (fun _ => .int _ _))) rfl (Xf rfl rfl c21 (Vi (Vk rfl Try.call23 (F_ref01_Ints_ok h23 _)) rfl ?_)))))))); refine Va (Vs (congrArg Za c21) rfl) rfl (Va (Vl rfl) rfl (Xf rfl rfl c24 (Va (Ve rfl tf_28_0 ts_25 (by decide)) rfl (Xf rfl rfl c24 (Va (Vm rfl (Vh rfl rfl) rfl ta_25 rfl) rfl (Xf rfl rfl c24 (Va (rd_lenS rfl (Vh rfl rfl) rfl rfl te_25) rfl (Xf rfl rfl c24 ?_)))))))); refine Va (Xl rfl rfl) rfl (Va (Vs (congrArg Za c24) rfl) rfl (Va (Vl rfl) rfl (Vb rfl rfl (neF c25) rfl (Vb rfl rfl (neF c25) rfl (Vb rfl rfl (neF c25) rfl (Vb rfl rfl (neF c25) rfl (Vb rfl rfl (neF c25) rfl (Vb rfl rfl (neF c25) rfl ?_)))))))); refine Va (Vq (congrArg Za c25) rfl) rfl (Va (Ye rfl) rfl (Vd (Xa ?_))); obtain rfl := Zb hF; refine fnR ?_; exact Vn rfl [] (by decide) ⟨Vj rfl (.bool _), trivial⟩ trivial
         ·have hF := Xn c24 hF; refine Va (Vp (ds := [.vs 5 (Yy T_Switch.enc [(T_Switch.mk (-1) 0 1 true false), (T_Switch.mk 0 0 1 true false)]), .vs 1 (Yy (Yz .i64) [1]), .int .i64 5]) rfl (Vh rfl rfl) rfl ta_28 ts_28 rfl rfl rfl) rfl (Vi (Vk rfl Try.call22 (F_feeder_Check_ok h6 _)) rfl (Va (Xl rfl rfl) rfl (Va (Vl rfl) rfl (Xf rfl rfl c7 (Va (Vp (ds := [.vs 5 (Yy T_Switch.enc [(T_Switch.mk (-1) 0 1 true false), (T_Switch.mk 0 0 1 true false)]), .vs 1 (Yy (Yz .i64) [1]), .int .i64 5]) rfl (Vh rfl rfl) rfl ta_28 ts_28 rfl rfl rfl) rfl (Xf rfl rfl c7 (Vi (Vk rfl Try.call20 (F_feeder_Live_ok h9 _)) rfl (Xf rfl rfl c7 ?_)))))))); refine Va (Xl rfl rfl) rfl (Va (Vs (congrArg Za c7) rfl) rfl (Va (Vl rfl) rfl (Xf rfl rfl c10 (Va (Vo rfl) rfl (Xf rfl rfl c10 (Va (Xl rfl rfl) rfl (Va (Vs (congrArg Za c10) rfl) rfl (Va (Vl rfl) rfl ?_)))))))); refine Xf rfl rfl c11 (Va (Vp (ds := (zA x1.1)) rfl (Vh rfl rfl) rfl ta_28 ts_28 rfl rfl rfl) rfl (Xf rfl rfl c11 (Vi (Vk rfl Try.call20 (F_feeder_Live_ok h13 _)) rfl (Xf rfl rfl c11 (Va (Xl rfl rfl) rfl (Va (Vs (congrArg Za c11) rfl) rfl (Va (Vl rfl) rfl (Xf rfl rfl c14 ?_)))))))); refine Va (Vp (ds := (zA x1.1)) rfl (Vh rfl rfl) rfl ta_28 ts_28 rfl rfl rfl) rfl (Xf rfl rfl c14 (Vi (Vk rfl Try.call27 (F_feeder_Due_ok h16 _)) rfl (Xf rfl rfl c14 (Va (Xl rfl rfl) rfl (Va (Vs (congrArg Za c14) rfl) rfl (Va (Vl rfl) rfl (Xf rfl rfl c17 (Va (Vo rfl) rfl ?_)))))))); refine Xf rfl rfl c17 (Va (Xl rfl rfl) rfl (Va (Vs (congrArg Za c17) rfl) rfl (Va (Vl rfl) rfl (Xf rfl rfl c18 (Va (rd_mvV rfl) rfl (Xf rfl rfl c18 (Vi (Yt (es := Yy (Yz .i64) [1]) ⟨rfl, rfl, trivial⟩ rfl rfl (nt_all rfl) te_26 ts_3 tz_3 rfl rfl (Zd _) (by decide) (Yg (fun _ => .int _ _))) rfl (Xf rfl rfl c18 ?_)))))))); refine Vi (Vk rfl Try.call23 (F_ref01_Ints_ok h20 _)) rfl (Va (Vs (congrArg Za c18) rfl) rfl (Va (Vl rfl) rfl (Xf rfl rfl c21 (Va (rd_mvV rfl) rfl (Xf rfl rfl c21 (Vi (Yt (es := Yy (Yz .i64) [0]) ⟨rfl, rfl, trivial⟩ rfl rfl (nt_all rfl) te_26 ts_3 tz_3 rfl rfl (Zd _) (by decide) (Yg (fun _ => .int _ _))) rfl (Xf rfl rfl c21 (Vi (Vk rfl Try.call23 (F_ref01_Ints_ok h23 _)) rfl ?_)))))))); refine Va (Vs (congrArg Za c21) rfl) rfl (Va (Vl rfl) rfl (Vb rfl rfl (neF c24) rfl (Vb rfl rfl (neF c24) rfl (Vb rfl rfl (neF c24) rfl (Vb rfl rfl (neF c24) rfl (Va (Vq (congrArg Za c24) rfl) rfl (Va (Vl rfl) rfl (Vb rfl rfl (by decide) rfl ?_)))))))); refine Vb rfl rfl (by decide) rfl (Vb rfl rfl (by decide) rfl (Vb rfl rfl (by decide) rfl (Vb rfl rfl (by decide) rfl (Vb rfl rfl (by decide) rfl (Va (Vq rfl rfl) rfl (Va (Ye rfl) rfl (Vd (Xa ?_)))))))); obtain rfl := Zb hF; refine fnR ?_; exact Vn rfl [] (by decide) ⟨Vj rfl (.bool _), trivial⟩ trivial
        ·have hF := Xn c21 hF; refine Va (Vp (ds := [.vs 5 (Yy T_Switch.enc [(T_Switch.mk (-1) 0 1 true false), (T_Switch.mk 0 0 1 true false)]), .vs 1 (Yy (Yz .i64) [1]), .int .i64 5]) rfl (Vh rfl rfl) rfl ta_28 ts_28 rfl rfl rfl) rfl (Vi (Vk rfl Try.call22 (F_feeder_Check_ok h6 _)) rfl (Va (Xl rfl rfl) rfl (Va (Vl rfl) rfl (Xf rfl rfl c7 (Va (Vp (ds := [.vs 5 (Yy T_Switch.enc [(T_Switch.mk (-1) 0 1 true false), (T_Switch.mk 0 0 1 true false)]), .vs 1 (Yy (Yz .i64) [1]), .int .i64 5]) rfl (Vh rfl rfl) rfl ta_28 ts_28 rfl rfl rfl) rfl (Xf rfl rfl c7 (Vi (Vk rfl Try.call20 (F_feeder_Live_ok h9 _)) rfl (Xf rfl rfl c7 ?_)))))))); refine Va (Xl rfl rfl) rfl (Va (Vs (congrArg Za c7) rfl) rfl (Va (Vl rfl) rfl (Xf rfl rfl c10 (Va (Vo rfl) rfl (Xf rfl rfl c10 (Va (Xl rfl rfl) rfl (Va (Vs (congrArg Za c10) rfl) rfl (Va (Vl rfl) rfl ?_)))))))); refine Xf rfl rfl c11 (Va (Vp (ds := (zA x1.1)) rfl (Vh rfl rfl) rfl ta_28 ts_28 rfl rfl rfl) rfl (Xf rfl rfl c11 (Vi (Vk rfl Try.call20 (F_feeder_Live_ok h13 _)) rfl (Xf rfl rfl c11 (Va (Xl rfl rfl) rfl (Va (Vs (congrArg Za c11) rfl) rfl (Va (Vl rfl) rfl (Xf rfl rfl c14 ?_)))))))); refine Va (Vp (ds := (zA x1.1)) rfl (Vh rfl rfl) rfl ta_28 ts_28 rfl rfl rfl) rfl (Xf rfl rfl c14 (Vi (Vk rfl Try.call27 (F_feeder_Due_ok h16 _)) rfl (Xf rfl rfl c14 (Va (Xl rfl rfl) rfl (Va (Vs (congrArg Za c14) rfl) rfl (Va (Vl rfl) rfl (Xf rfl rfl c17 (Va (Vo rfl) rfl ?_)))))))); refine Xf rfl rfl c17 (Va (Xl rfl rfl) rfl (Va (Vs (congrArg Za c17) rfl) rfl (Va (Vl rfl) rfl (Xf rfl rfl c18 (Va (rd_mvV rfl) rfl (Xf rfl rfl c18 (Vi (Yt (es := Yy (Yz .i64) [1]) ⟨rfl, rfl, trivial⟩ rfl rfl (nt_all rfl) te_26 ts_3 tz_3 rfl rfl (Zd _) (by decide) (Yg (fun _ => .int _ _))) rfl (Xf rfl rfl c18 ?_)))))))); refine Vi (Vk rfl Try.call23 (F_ref01_Ints_ok h20 _)) rfl (Va (Vs (congrArg Za c18) rfl) rfl (Va (Vl rfl) rfl (Vb rfl rfl (neF c21) rfl (Vb rfl rfl (neF c21) rfl (Vb rfl rfl (neF c21) rfl (Va (Vq (congrArg Za c21) rfl) rfl (Va (Vl rfl) rfl (Vb rfl rfl (by decide) rfl ?_)))))))); refine Vb rfl rfl (by decide) rfl (Vb rfl rfl (by decide) rfl (Vb rfl rfl (by decide) rfl (Va (Vq rfl rfl) rfl (Va (Vl rfl) rfl (Vb rfl rfl (by decide) rfl (Vb rfl rfl (by decide) rfl (Vb rfl rfl (by decide) rfl (Vb rfl rfl (by decide) rfl ?_)))))))); refine Vb rfl rfl (by decide) rfl (Vb rfl rfl (by decide) rfl (Va (Vq rfl rfl) rfl (Va (Ye rfl) rfl (Vd (Xa ?_))))); obtain rfl := Zb hF; refine fnR ?_; exact Vn rfl [] (by decide) ⟨Vj rfl (.bool _), trivial⟩ trivial
       ·have hF := Xn c18 hF; refine Va (Vp (ds := [.vs 5 (Yy T_Switch.enc [(T_Switch.mk (-1) 0 1 true false), (T_Switch.mk 0 0 1 true false)]), .vs 1 (Yy (Yz .i64) [1]), .int .i64 5]) rfl (Vh rfl rfl) rfl ta_28 ts_28 rfl rfl rfl) rfl (Vi (Vk rfl Try.call22 (F_feeder_Check_ok h6 _)) rfl (Va (Xl rfl rfl) rfl (Va (Vl rfl) rfl (Xf rfl rfl c7 (Va (Vp (ds := [.vs 5 (Yy T_Switch.enc [(T_Switch.mk (-1) 0 1 true false), (T_Switch.mk 0 0 1 true false)]), .vs 1 (Yy (Yz .i64) [1]), .int .i64 5]) rfl (Vh rfl rfl) rfl ta_28 ts_28 rfl rfl rfl) rfl (Xf rfl rfl c7 (Vi (Vk rfl Try.call20 (F_feeder_Live_ok h9 _)) rfl (Xf rfl rfl c7 ?_)))))))); refine Va (Xl rfl rfl) rfl (Va (Vs (congrArg Za c7) rfl) rfl (Va (Vl rfl) rfl (Xf rfl rfl c10 (Va (Vo rfl) rfl (Xf rfl rfl c10 (Va (Xl rfl rfl) rfl (Va (Vs (congrArg Za c10) rfl) rfl (Va (Vl rfl) rfl ?_)))))))); refine Xf rfl rfl c11 (Va (Vp (ds := (zA x1.1)) rfl (Vh rfl rfl) rfl ta_28 ts_28 rfl rfl rfl) rfl (Xf rfl rfl c11 (Vi (Vk rfl Try.call20 (F_feeder_Live_ok h13 _)) rfl (Xf rfl rfl c11 (Va (Xl rfl rfl) rfl (Va (Vs (congrArg Za c11) rfl) rfl (Va (Vl rfl) rfl (Xf rfl rfl c14 ?_)))))))); refine Va (Vp (ds := (zA x1.1)) rfl (Vh rfl rfl) rfl ta_28 ts_28 rfl rfl rfl) rfl (Xf rfl rfl c14 (Vi (Vk rfl Try.call27 (F_feeder_Due_ok h16 _)) rfl (Xf rfl rfl c14 (Va (Xl rfl rfl) rfl (Va (Vs (congrArg Za c14) rfl) rfl (Va (Vl rfl) rfl (Xf rfl rfl c17 (Va (Vo rfl) rfl ?_)))))))); refine Xf rfl rfl c17 (Va (Xl rfl rfl) rfl (Va (Vs (congrArg Za c17) rfl) rfl (Va (Vl rfl) rfl (Vb rfl rfl (neF c18) rfl (Vb rfl rfl (neF c18) rfl (Vb rfl rfl (neF c18) rfl (Va (Vq (congrArg Za c18) rfl) rfl (Va (Vl rfl) rfl ?_)))))))); refine Vb rfl rfl (by decide) rfl (Vb rfl rfl (by decide) rfl (Vb rfl rfl (by decide) rfl (Va (Vq rfl rfl) rfl (Va (Vl rfl) rfl (Vb rfl rfl (by decide) rfl (Vb rfl rfl (by decide) rfl (Vb rfl rfl (by decide) rfl (Vb rfl rfl (by decide) rfl ?_)))))))); refine Va (Vq rfl rfl) rfl (Va (Vl rfl) rfl (Vb rfl rfl (by decide) rfl (Vb rfl rfl (by decide) rfl (Vb rfl rfl (by decide) rfl (Vb rfl rfl (by decide) rfl (Vb rfl rfl (by decide) rfl (Vb rfl rfl (by decide) rfl (Va (Vq rfl rfl) rfl ?_)))))))); refine Va (Ye rfl) rfl (Vd (Xa ?_)); obtain rfl := Zb hF; refine fnR ?_; exact Vn rfl [] (by decide) ⟨Vj rfl (.bool _), trivial⟩ trivial
      ·have hF := Xn c17 hF; refine Va (Vp (ds := [.vs 5 (Yy T_Switch.enc [(T_Switch.mk (-1) 0 1 true false), (T_Switch.mk 0 0 1 true false)]), .vs 1 (Yy (Yz .i64) [1]), .int .i64 5]) rfl (Vh rfl rfl) rfl ta_28 ts_28 rfl rfl rfl) rfl (Vi (Vk rfl Try.call22 (F_feeder_Check_ok h6 _)) rfl (Va (Xl rfl rfl) rfl (Va (Vl rfl) rfl (Xf rfl rfl c7 (Va (Vp (ds := [.vs 5 (Yy T_Switch.enc [(T_Switch.mk (-1) 0 1 true false), (T_Switch.mk 0 0 1 true false)]), .vs 1 (Yy (Yz .i64) [1]), .int .i64 5]) rfl (Vh rfl rfl) rfl ta_28 ts_28 rfl rfl rfl) rfl (Xf rfl rfl c7 (Vi (Vk rfl Try.call20 (F_feeder_Live_ok h9 _)) rfl (Xf rfl rfl c7 ?_)))))))); refine Va (Xl rfl rfl) rfl (Va (Vs (congrArg Za c7) rfl) rfl (Va (Vl rfl) rfl (Xf rfl rfl c10 (Va (Vo rfl) rfl (Xf rfl rfl c10 (Va (Xl rfl rfl) rfl (Va (Vs (congrArg Za c10) rfl) rfl (Va (Vl rfl) rfl ?_)))))))); refine Xf rfl rfl c11 (Va (Vp (ds := (zA x1.1)) rfl (Vh rfl rfl) rfl ta_28 ts_28 rfl rfl rfl) rfl (Xf rfl rfl c11 (Vi (Vk rfl Try.call20 (F_feeder_Live_ok h13 _)) rfl (Xf rfl rfl c11 (Va (Xl rfl rfl) rfl (Va (Vs (congrArg Za c11) rfl) rfl (Va (Vl rfl) rfl (Xf rfl rfl c14 ?_)))))))); refine Va (Vp (ds := (zA x1.1)) rfl (Vh rfl rfl) rfl ta_28 ts_28 rfl rfl rfl) rfl (Xf rfl rfl c14 (Vi (Vk rfl Try.call27 (F_feeder_Due_ok h16 _)) rfl (Xf rfl rfl c14 (Va (Xl rfl rfl) rfl (Va (Vs (congrArg Za c14) rfl) rfl (Va (Vl rfl) rfl (Vb rfl rfl (neF c17) rfl (Vb rfl rfl (neF c17) rfl ?_)))))))); refine Va (Vq (congrArg Za c17) rfl) rfl (Va (Vl rfl) rfl (Vb rfl rfl (by decide) rfl (Vb rfl rfl (by decide) rfl (Vb rfl rfl (by decide) rfl (Va (Vq rfl rfl) rfl (Va (Vl rfl) rfl (Vb rfl rfl (by decide) rfl (Vb rfl rfl (by decide) rfl ?_)))))))); refine Vb rfl rfl (by decide) rfl (Va (Vq rfl rfl) rfl (Va (Vl rfl) rfl (Vb rfl rfl (by decide) rfl (Vb rfl rfl (by decide) rfl (Vb rfl rfl (by decide) rfl (Vb rfl rfl (by decide) rfl (Va (Vq rfl rfl) rfl (Va (Vl rfl) rfl ?_)))))))); refine Vb rfl rfl (by decide) rfl (Vb rfl rfl (by decide) rfl (Vb rfl rfl (by decide) rfl (Vb rfl rfl (by decide) rfl (Vb rfl rfl (by decide) rfl (Vb rfl rfl (by decide) rfl (Va (Vq rfl rfl) rfl (Va (Ye rfl) rfl (Vd ?_)))))))); refine Xa ?_; obtain rfl := Zb hF; refine fnR ?_; exact Vn rfl [] (by decide) ⟨Vj rfl (.bool _), trivial⟩ trivial
     ·have hF := Xn c14 hF; refine Va (Vp (ds := [.vs 5 (Yy T_Switch.enc [(T_Switch.mk (-1) 0 1 true false), (T_Switch.mk 0 0 1 true false)]), .vs 1 (Yy (Yz .i64) [1]), .int .i64 5]) rfl (Vh rfl rfl) rfl ta_28 ts_28 rfl rfl rfl) rfl (Vi (Vk rfl Try.call22 (F_feeder_Check_ok h6 _)) rfl (Va (Xl rfl rfl) rfl (Va (Vl rfl) rfl (Xf rfl rfl c7 (Va (Vp (ds := [.vs 5 (Yy T_Switch.enc [(T_Switch.mk (-1) 0 1 true false), (T_Switch.mk 0 0 1 true false)]), .vs 1 (Yy (Yz .i64) [1]), .int .i64 5]) rfl (Vh rfl rfl) rfl ta_28 ts_28 rfl rfl rfl) rfl (Xf rfl rfl c7 (Vi (Vk rfl Try.call20 (F_feeder_Live_ok h9 _)) rfl (Xf rfl rfl c7 ?_)))))))); refine Va (Xl rfl rfl) rfl (Va (Vs (congrArg Za c7) rfl) rfl (Va (Vl rfl) rfl (Xf rfl rfl c10 (Va (Vo rfl) rfl (Xf rfl rfl c10 (Va (Xl rfl rfl) rfl (Va (Vs (congrArg Za c10) rfl) rfl (Va (Vl rfl) rfl ?_)))))))); refine Xf rfl rfl c11 (Va (Vp (ds := (zA x1.1)) rfl (Vh rfl rfl) rfl ta_28 ts_28 rfl rfl rfl) rfl (Xf rfl rfl c11 (Vi (Vk rfl Try.call20 (F_feeder_Live_ok h13 _)) rfl (Xf rfl rfl c11 (Va (Xl rfl rfl) rfl (Va (Vs (congrArg Za c11) rfl) rfl (Va (Vl rfl) rfl (Vb rfl rfl (neF c14) rfl ?_)))))))); refine Vb rfl rfl (neF c14) rfl (Vb rfl rfl (neF c14) rfl (Va (Vq (congrArg Za c14) rfl) rfl (Va (Vl rfl) rfl (Vb rfl rfl (by decide) rfl (Vb rfl rfl (by decide) rfl (Va (Vq rfl rfl) rfl (Va (Vl rfl) rfl (Vb rfl rfl (by decide) rfl ?_)))))))); refine Vb rfl rfl (by decide) rfl (Vb rfl rfl (by decide) rfl (Va (Vq rfl rfl) rfl (Va (Vl rfl) rfl (Vb rfl rfl (by decide) rfl (Vb rfl rfl (by decide) rfl (Vb rfl rfl (by decide) rfl (Va (Vq rfl rfl) rfl (Va (Vl rfl) rfl ?_)))))))); refine Vb rfl rfl (by decide) rfl (Vb rfl rfl (by decide) rfl (Vb rfl rfl (by decide) rfl (Vb rfl rfl (by decide) rfl (Va (Vq rfl rfl) rfl (Va (Vl rfl) rfl (Vb rfl rfl (by decide) rfl (Vb rfl rfl (by decide) rfl (Vb rfl rfl (by decide) rfl ?_)))))))); refine Vb rfl rfl (by decide) rfl (Vb rfl rfl (by decide) rfl (Vb rfl rfl (by decide) rfl (Va (Vq rfl rfl) rfl (Va (Ye rfl) rfl (Vd (Xa ?_)))))); obtain rfl := Zb hF; refine fnR ?_; exact Vn rfl [] (by decide) ⟨Vj rfl (.bool _), trivial⟩ trivial
    ·have hF := Xn c11 hF; refine Va (Vp (ds := [.vs 5 (Yy T_Switch.enc [(T_Switch.mk (-1) 0 1 true false), (T_Switch.mk 0 0 1 true false)]), .vs 1 (Yy (Yz .i64) [1]), .int .i64 5]) rfl (Vh rfl rfl) rfl ta_28 ts_28 rfl rfl rfl) rfl (Vi (Vk rfl Try.call22 (F_feeder_Check_ok h6 _)) rfl (Va (Xl rfl rfl) rfl (Va (Vl rfl) rfl (Xf rfl rfl c7 (Va (Vp (ds := [.vs 5 (Yy T_Switch.enc [(T_Switch.mk (-1) 0 1 true false), (T_Switch.mk 0 0 1 true false)]), .vs 1 (Yy (Yz .i64) [1]), .int .i64 5]) rfl (Vh rfl rfl) rfl ta_28 ts_28 rfl rfl rfl) rfl (Xf rfl rfl c7 (Vi (Vk rfl Try.call20 (F_feeder_Live_ok h9 _)) rfl (Xf rfl rfl c7 ?_)))))))); refine Va (Xl rfl rfl) rfl (Va (Vs (congrArg Za c7) rfl) rfl (Va (Vl rfl) rfl (Xf rfl rfl c10 (Va (Vo rfl) rfl (Xf rfl rfl c10 (Va (Xl rfl rfl) rfl (Va (Vs (congrArg Za c10) rfl) rfl (Va (Vl rfl) rfl ?_)))))))); refine Vb rfl rfl (neF c11) rfl (Vb rfl rfl (neF c11) rfl (Vb rfl rfl (neF c11) rfl (Va (Vq (congrArg Za c11) rfl) rfl (Va (Vl rfl) rfl (Vb rfl rfl (by decide) rfl (Vb rfl rfl (by decide) rfl (Vb rfl rfl (by decide) rfl (Va (Vq rfl rfl) rfl ?_)))))))); refine Va (Vl rfl) rfl (Vb rfl rfl (by decide) rfl (Vb rfl rfl (by decide) rfl (Va (Vq rfl rfl) rfl (Va (Vl rfl) rfl (Vb rfl rfl (by decide) rfl (Vb rfl rfl (by decide) rfl (Vb rfl rfl (by decide) rfl (Va (Vq rfl rfl) rfl ?_)))))))); refine Va (Vl rfl) rfl (Vb rfl rfl (by decide) rfl (Vb rfl rfl (by decide) rfl (Vb rfl rfl (by decide) rfl (Va (Vq rfl rfl) rfl (Va (Vl rfl) rfl (Vb rfl rfl (by decide) rfl (Vb rfl rfl (by decide) rfl (Vb rfl rfl (by decide) rfl ?_)))))))); refine Vb rfl rfl (by decide) rfl (Va (Vq rfl rfl) rfl (Va (Vl rfl) rfl (Vb rfl rfl (by decide) rfl (Vb rfl rfl (by decide) rfl (Vb rfl rfl (by decide) rfl (Vb rfl rfl (by decide) rfl (Vb rfl rfl (by decide) rfl (Vb rfl rfl (by decide) rfl ?_)))))))); refine Va (Vq rfl rfl) rfl (Va (Ye rfl) rfl (Vd (Xa ?_))); obtain rfl := Zb hF; refine fnR ?_; exact Vn rfl [] (by decide) ⟨Vj rfl (.bool _), trivial⟩ trivial
   ·have hF := Xn c10 hF; refine Va (Vp (ds := [.vs 5 (Yy T_Switch.enc [(T_Switch.mk (-1) 0 1 true false), (T_Switch.mk 0 0 1 true false)]), .vs 1 (Yy (Yz .i64) [1]), .int .i64 5]) rfl (Vh rfl rfl) rfl ta_28 ts_28 rfl rfl rfl) rfl (Vi (Vk rfl Try.call22 (F_feeder_Check_ok h6 _)) rfl (Va (Xl rfl rfl) rfl (Va (Vl rfl) rfl (Xf rfl rfl c7 (Va (Vp (ds := [.vs 5 (Yy T_Switch.enc [(T_Switch.mk (-1) 0 1 true false), (T_Switch.mk 0 0 1 true false)]), .vs 1 (Yy (Yz .i64) [1]), .int .i64 5]) rfl (Vh rfl rfl) rfl ta_28 ts_28 rfl rfl rfl) rfl (Xf rfl rfl c7 (Vi (Vk rfl Try.call20 (F_feeder_Live_ok h9 _)) rfl (Xf rfl rfl c7 ?_)))))))); refine Va (Xl rfl rfl) rfl (Va (Vs (congrArg Za c7) rfl) rfl (Va (Vl rfl) rfl (Vb rfl rfl (neF c10) rfl (Vb rfl rfl (neF c10) rfl (Va (Vq (congrArg Za c10) rfl) rfl (Va (Vl rfl) rfl (Vb rfl rfl (by decide) rfl (Vb rfl rfl (by decide) rfl ?_)))))))); refine Vb rfl rfl (by decide) rfl (Va (Vq rfl rfl) rfl (Va (Vl rfl) rfl (Vb rfl rfl (by decide) rfl (Vb rfl rfl (by decide) rfl (Vb rfl rfl (by decide) rfl (Va (Vq rfl rfl) rfl (Va (Vl rfl) rfl (Vb rfl rfl (by decide) rfl ?_)))))))); refine Vb rfl rfl (by decide) rfl (Va (Vq rfl rfl) rfl (Va (Vl rfl) rfl (Vb rfl rfl (by decide) rfl (Vb rfl rfl (by decide) rfl (Vb rfl rfl (by decide) rfl (Va (Vq rfl rfl) rfl (Va (Vl rfl) rfl (Vb rfl rfl (by decide) rfl ?_)))))))); refine Vb rfl rfl (by decide) rfl (Vb rfl rfl (by decide) rfl (Va (Vq rfl rfl) rfl (Va (Vl rfl) rfl (Vb rfl rfl (by decide) rfl (Vb rfl rfl (by decide) rfl (Vb rfl rfl (by decide) rfl (Vb rfl rfl (by decide) rfl (Va (Vq rfl rfl) rfl ?_)))))))); refine Va (Vl rfl) rfl (Vb rfl rfl (by decide) rfl (Vb rfl rfl (by decide) rfl (Vb rfl rfl (by decide) rfl (Vb rfl rfl (by decide) rfl (Vb rfl rfl (by decide) rfl (Vb rfl rfl (by decide) rfl (Va (Vq rfl rfl) rfl (Va (Ye rfl) rfl ?_)))))))); refine Vd (Xa ?_); obtain rfl := Zb hF; refine fnR ?_; exact Vn rfl [] (by decide) ⟨Vj rfl (.bool _), trivial⟩ trivial
  ·have hF := Xn c7 hF; refine Va (Vp (ds := [.vs 5 (Yy T_Switch.enc [(T_Switch.mk (-1) 0 1 true false), (T_Switch.mk 0 0 1 true false)]), .vs 1 (Yy (Yz .i64) [1]), .int .i64 5]) rfl (Vh rfl rfl) rfl ta_28 ts_28 rfl rfl rfl) rfl (Vi (Vk rfl Try.call22 (F_feeder_Check_ok h6 _)) rfl (Va (Xl rfl rfl) rfl (Va (Vl rfl) rfl (Vb rfl rfl (neF c7) rfl (Vb rfl rfl (neF c7) rfl (Vb rfl rfl (neF c7) rfl (Va (Vq (congrArg Za c7) rfl) rfl (Va (Vl rfl) rfl ?_)))))))); refine Vb rfl rfl (by decide) rfl (Vb rfl rfl (by decide) rfl (Va (Vq rfl rfl) rfl (Va (Vl rfl) rfl (Vb rfl rfl (by decide) rfl (Vb rfl rfl (by decide) rfl (Vb rfl rfl (by decide) rfl (Va (Vq rfl rfl) rfl (Va (Vl rfl) rfl ?_)))))))); refine Vb rfl rfl (by decide) rfl (Vb rfl rfl (by decide) rfl (Vb rfl rfl (by decide) rfl (Va (Vq rfl rfl) rfl (Va (Vl rfl) rfl (Vb rfl rfl (by decide) rfl (Vb rfl rfl (by decide) rfl (Va (Vq rfl rfl) rfl (Va (Vl rfl) rfl ?_)))))))); refine Vb rfl rfl (by decide) rfl (Vb rfl rfl (by decide) rfl (Vb rfl rfl (by decide) rfl (Va (Vq rfl rfl) rfl (Va (Vl rfl) rfl (Vb rfl rfl (by decide) rfl (Vb rfl rfl (by decide) rfl (Vb rfl rfl (by decide) rfl (Va (Vq rfl rfl) rfl ?_)))))))); refine Va (Vl rfl) rfl (Vb rfl rfl (by decide) rfl (Vb rfl rfl (by decide) rfl (Vb rfl rfl (by decide) rfl (Vb rfl rfl (by decide) rfl (Va (Vq rfl rfl) rfl (Va (Vl rfl) rfl (Vb rfl rfl (by decide) rfl (Vb rfl rfl (by decide) rfl ?_)))))))); refine Vb rfl rfl (by decide) rfl (Vb rfl rfl (by decide) rfl (Vb rfl rfl (by decide) rfl (Vb rfl rfl (by decide) rfl (Va (Vq rfl rfl) rfl (Va (Ye rfl) rfl (Vd (Xa ?_))))))); obtain rfl := Zb hF; refine fnR ?_; exact Vn rfl [] (by decide) ⟨Vj rfl (.bool _), trivial⟩ trivial
 ·rintro _ _ _ _ ⟨he, hw⟩; refine ⟨_, _, _, hw, ?_⟩; exact Xy he [.bool r] ⟨rfl, trivial⟩ (.bool _) ⟨rfl, rfl⟩

theorem F_law18_made_ok {p0 : List Int} {p1 : Int} {p2 : Int} {r : T_Feeder} (hF : F_law18_made p0 p1 p2 = some r) (low : List AObj) :
    Ym Try.prog 21 [.vs 1 (Yy (Yz .u8) p0), .int .i64 p1, .int .i64 p2] low fun x low' => x = .agg (zA r) ∧ low' = low := by
 obtain ⟨n, hn⟩ : ∃ n, low.length = n := ⟨_, rfl⟩; refine Xd (nt := 63) (rs := [.cell 6 28]) Try.func21 rfl rfl (Zc rfl) rfl (Vt (Q' := FnE (fun E' lw lc => Xj E' lw lc [(6, .ptr (n + 0) 0 0 0)] low [(zB r 0)])) ?_ ?_)
 ·unfold F_law18_made at hF; refine Vf (Vc (Vi (Yf hn rfl tz_28 rfl rfl (Zd _) rfl) rfl (Vd (Vf (Vc ?_))))); obtain ⟨x1, h2, hF⟩ := Xv hF; refine Va (rd_mvV rfl) rfl (Vi (vef_callN (r := .ptr (n + 1) 0 0 0) (os := [(zE x1 0)]) rfl Try.call9 (F_draw_New_ok h2 _ (len_app hn rfl))) rfl (Va (rd_asP rfl) rfl (Vd (Vf (Vc ?_))))); obtain ⟨x3, h4, hF⟩ := Xv hF; obtain ⟨x5, h6, hF⟩ := Xv hF; refine Va (Xx rfl) rfl (Va (Xx rfl) rfl (Vi (vef_callS (ps := [((n + 1), (zE x3.1 0))]) (r := .int .i64 x3.2) (os := []) (low1 := low) (loc1 := [⟨28, 3, [.agg [.nils, .nils, .int .i64 0]], 0⟩, (zE x3.1 0)]) (loc2 := [⟨28, 3, [.agg [.nils, .nils, .int .i64 0]], 0⟩, (zE x3.1 0)]) rfl Try.call11 (F_draw_Codes_Next_ok h4 (nd1 na0 nd0) (get_N hn rfl) (len_app hn rfl)) (sets_own (loc2 := [⟨28, 3, [.agg [.nils, .nils, .int .i64 0]], 0⟩, (zE x3.1 0)]) hn 1 rfl sets_nil) rfl) rfl (Vi (vef_callS (ps := [((n + 1), (zE x5.1 0))]) (r := .agg [.sl (n + 2) 0 0 (x5.2.Switches).length, .sl (n + 3) 0 0 (x5.2.Zones).length, .int .i64 x5.2.Reply]) (os := [⟨36, 5, Yy T_Switch.enc x5.2.Switches, 0⟩, ⟨3, 1, Yy (Yz .i64) x5.2.Zones, 0⟩]) (low1 := low) (loc1 := [⟨28, 3, [.agg [.nils, .nils, .int .i64 0]], 0⟩, (zE x5.1 0)]) (loc2 := [⟨28, 3, [.agg [.nils, .nils, .int .i64 0]], 0⟩, (zE x5.1 0), ⟨36, 5, Yy T_Switch.enc x5.2.Switches, 0⟩, ⟨3, 1, Yy (Yz .i64) x5.2.Zones, 0⟩]) rfl Try.call10 (F_draw_Codes_Feeder_ok h6 (nd1 na0 nd0) (get_N hn rfl) (len_app hn rfl)) (sets_own (loc2 := [⟨28, 3, [.agg [.nils, .nils, .int .i64 0]], 0⟩, (zE x5.1 0)]) hn 1 rfl sets_nil) rfl) rfl (Vi (Yf hn rfl tz_28 rfl rfl (Zd _) rfl) rfl (Vi (Xq (p := .agg [.sl (n + 2) 0 0 (x5.2.Switches).length, .sl (n + 3) 0 0 (x5.2.Zones).length, .int .i64 x5.2.Reply]) (e' := .agg [.sl (n + 2) 0 0 (x5.2.Switches).length, .sl (n + 3) 0 0 (x5.2.Zones).length, .int .i64 x5.2.Reply]) rfl (Vh hn rfl) rfl rfl ts_28 rfl (Yp rfl) rfl (Zc rfl) rfl (Xu hn rfl)) rfl (Vd (Vf ?_))))))); obtain ⟨x7, h8, hF⟩ := Xv hF; obtain ⟨x9, h10, hF⟩ := Xv hF; refine Xt [[], [0], [], [], [3], [3, 4], [2, 3, 4, 5], (List.range 7), (List.range 8)] mixed (by kernel_rfl) rfl (Xk rfl rfl (Ve rfl tf_28_0 ts_25 (by decide)) (Xk rfl rfl (Vm rfl (Vh hn rfl) rfl ta_25 rfl) (Xk rfl rfl (Vo rfl) (Xk rfl rfl (Ve rfl tf_28_0 ts_25 (by decide)) (Xk rfl rfl (Vm rfl (Vh hn rfl) rfl ta_25 rfl) (Xk rfl rfl (rd_lenS rfl (Vh hn rfl) rfl rfl te_25) (dn1 rfl rfl (Xp (Vk rfl Try.call12 (F_draw_Mod_ok h8 _))) (Xk rfl rfl (rd_ixS rfl rfl rfl (Vh hn rfl) h10 te_25 ts_36) ?_)))))))); refine Xk rfl rfl (rd_asP rfl) (Xz (Vf (Vf (Vc ?_)))); obtain ⟨x11, h12, hF⟩ := Xv hF; refine Va (Xx rfl) rfl (Vi (vef_callS (ps := [((n + 1), (zE x11.1 0))]) (r := .int .i64 x11.2) (os := []) (low1 := low) (loc1 := [⟨28, 3, [.agg [.nils, .nils, .int .i64 0]], 0⟩, (zE x11.1 0), ⟨36, 5, Yy T_Switch.enc x5.2.Switches, 0⟩, ⟨3, 1, Yy (Yz .i64) x5.2.Zones, 0⟩, ⟨28, 3, [.agg [.sl (n + 2) 0 0 (x5.2.Switches).length, .sl (n + 3) 0 0 (x5.2.Zones).length, .int .i64 x5.2.Reply]], 0⟩]) (loc2 := [⟨28, 3, [.agg [.nils, .nils, .int .i64 0]], 0⟩, (zE x11.1 0), ⟨36, 5, Yy T_Switch.enc x5.2.Switches, 0⟩, ⟨3, 1, Yy (Yz .i64) x5.2.Zones, 0⟩, ⟨28, 3, [.agg [.sl (n + 2) 0 0 (x5.2.Switches).length, .sl (n + 3) 0 0 (x5.2.Zones).length, .int .i64 x5.2.Reply]], 0⟩]) rfl Try.call11 (F_draw_Codes_Next_ok h12 (nd1 na0 nd0) (get_N hn rfl) (len_app hn rfl)) (sets_own (loc2 := [⟨28, 3, [.agg [.nils, .nils, .int .i64 0]], 0⟩, (zE x11.1 0), ⟨36, 5, Yy T_Switch.enc x5.2.Switches, 0⟩, ⟨3, 1, Yy (Yz .i64) x5.2.Zones, 0⟩, ⟨28, 3, [.agg [.sl (n + 2) 0 0 (x5.2.Switches).length, .sl (n + 3) 0 0 (x5.2.Zones).length, .int .i64 x5.2.Reply]], 0⟩]) hn 1 rfl sets_nil) rfl) rfl (Vd ?_)); obtain ⟨o13, ho13, hF⟩ := Xv hF; refine Vt (Q' := (fun o13 => OnlyE .normal (fun E' lw lc => Xj E' lw lc [(6, .ptr (n + 0) 0 0 0), (8, .ptr (n + 1) 0 0 0)] low [⟨28, 3, [.agg [.nils, .nils, .int .i64 0]], 0⟩, (zB o13 0)])) o13) ?_ ?_
  ·replace hF := ho13; refine Xi (Vf (Vc (Va (Xl rfl rfl) rfl (Va (Ye rfl) rfl (Vd (Vw rfl (fun c14 => ?_) (fun c14 => ?_)))))))
   ·have hF := Xm c14 hF; refine Vc (Va (Xx rfl) rfl (Va (Vo rfl) rfl (Va (Xr rfl) rfl (Va (Ve rfl tf_36_0 ts_3 (by decide)) rfl (Vi (vef_stL (p := .int .i64 p2) (e' := (T_Switch.mk p2 x9.Since x9.Shown x9.Closed x9.Late)) rfl (Vh hn rfl) (Yk h10).2 rfl ts_3 rfl (Yp rfl) (Zc rfl) rfl (Xu hn rfl)) rfl (Vd ?_)))))); obtain rfl := Zb hF; refine Vv (Weak.trans (Xs (E' := [(6, .ptr (n + 0) 0 0 0), (8, .ptr (n + 4) 0 0 0)]) (loc1 := [⟨28, 3, [.agg [.nils, .nils, .int .i64 0]], 0⟩, (zE x11.1 0), ⟨36, 5, [], 0 + 1⟩, ⟨3, 1, Yy (Yz .i64) x5.2.Zones, 0⟩, ⟨28, 3, [.agg [.vs 5 (Yy T_Switch.enc (x5.2.Switches.set ((x7).toNat) (T_Switch.mk p2 x9.Since x9.Shown x9.Closed x9.Late))), .sl (n + 3) 0 0 (x5.2.Zones).length, .int .i64 x5.2.Reply]], 0⟩]) hn 2 rfl (Yg T_Switch.enc_lt) ⟨Xb rfl, Xb rfl, trivial⟩ ⟨.refl _, .refl _, .refl _, .refl _, cvo_agg ⟨cv_sl rfl rfl rfl (Yi (Eq.trans rfl List.length_set.symm)), Xb rfl, Xb rfl, trivial⟩, trivial⟩) (Weak.trans (Xs (E' := [(6, .ptr (n + 0) 0 0 0), (8, .ptr (n + 4) 0 0 0)]) (loc1 := [⟨28, 3, [.agg [.nils, .nils, .int .i64 0]], 0⟩, (zE x11.1 0), ⟨36, 5, [], 0 + 1⟩, ⟨3, 1, [], 0 + 1⟩, ⟨28, 3, [.agg [.vs 5 (Yy T_Switch.enc (x5.2.Switches.set ((x7).toNat) (T_Switch.mk p2 x9.Since x9.Shown x9.Closed x9.Late))), .vs 1 (Yy (Yz .i64) x5.2.Zones), .int .i64 x5.2.Reply]], 0⟩]) hn 3 rfl (Yg (fun _ => .int _ _)) ⟨Xb rfl, Xb rfl, trivial⟩ ⟨.refl _, .refl _, .refl _, .refl _, cvo_agg ⟨Xb rfl, cv_sl rfl rfl rfl (Yi rfl), Xb rfl, trivial⟩, trivial⟩) ?_)); exact Vn hn [(0, 0), (4, 0)] (by decide) ⟨Xe 0 0 rfl rfl, Xe 1 4 rfl rfl, trivial⟩ ⟨⟨_, rfl, rfl, .same _ _ _ _ (Xc ⟨Xh ⟨.nils, .nils, .int _ _, trivial⟩, trivial⟩)⟩, ⟨_, rfl, rfl, .agg _ _ _ _ _ ⟨Vj rfl (.vs _ _), Vj rfl (.vs _ _), Vj rfl (.int _ _), trivial⟩⟩, trivial⟩
   ·have hF := Xn c14 hF; refine Vf (Vc (Va (Xl rfl rfl) rfl (Va (Ye rfl) rfl (Vd (Vw rfl (fun c15 => ?_) (fun c15 => ?_))))))
    ·have hF := Xm c15 hF; refine Vc (Va (Xx rfl) rfl (Va (Vo rfl) rfl (Va (Xr rfl) rfl (Va (Ve rfl tf_36_1 ts_3 (by decide)) rfl (Vi (vef_stL (p := .int .i64 p2) (e' := (T_Switch.mk x9.Above p2 x9.Shown x9.Closed x9.Late)) rfl (Vh hn rfl) (Yk h10).2 rfl ts_3 rfl (Yp rfl) (Zc rfl) rfl (Xu hn rfl)) rfl (Vd ?_)))))); obtain rfl := Zb hF; refine Vv (Weak.trans (Xs (E' := [(6, .ptr (n + 0) 0 0 0), (8, .ptr (n + 4) 0 0 0)]) (loc1 := [⟨28, 3, [.agg [.nils, .nils, .int .i64 0]], 0⟩, (zE x11.1 0), ⟨36, 5, [], 0 + 1⟩, ⟨3, 1, Yy (Yz .i64) x5.2.Zones, 0⟩, ⟨28, 3, [.agg [.vs 5 (Yy T_Switch.enc (x5.2.Switches.set ((x7).toNat) (T_Switch.mk x9.Above p2 x9.Shown x9.Closed x9.Late))), .sl (n + 3) 0 0 (x5.2.Zones).length, .int .i64 x5.2.Reply]], 0⟩]) hn 2 rfl (Yg T_Switch.enc_lt) ⟨Xb rfl, Xb rfl, trivial⟩ ⟨.refl _, .refl _, .refl _, .refl _, cvo_agg ⟨cv_sl rfl rfl rfl (Yi (Eq.trans rfl List.length_set.symm)), Xb rfl, Xb rfl, trivial⟩, trivial⟩) (Weak.trans (Xs (E' := [(6, .ptr (n + 0) 0 0 0), (8, .ptr (n + 4) 0 0 0)]) (loc1 := [⟨28, 3, [.agg [.nils, .nils, .int .i64 0]], 0⟩, (zE x11.1 0), ⟨36, 5, [], 0 + 1⟩, ⟨3, 1, [], 0 + 1⟩, ⟨28, 3, [.agg [.vs 5 (Yy T_Switch.enc (x5.2.Switches.set ((x7).toNat) (T_Switch.mk x9.Above p2 x9.Shown x9.Closed x9.Late))), .vs 1 (Yy (Yz .i64) x5.2.Zones), .int .i64 x5.2.Reply]], 0⟩]) hn 3 rfl (Yg (fun _ => .int _ _)) ⟨Xb rfl, Xb rfl, trivial⟩ ⟨.refl _, .refl _, .refl _, .refl _, cvo_agg ⟨Xb rfl, cv_sl rfl rfl rfl (Yi rfl), Xb rfl, trivial⟩, trivial⟩) ?_)); exact Vn hn [(0, 0), (4, 0)] (by decide) ⟨Xe 0 0 rfl rfl, Xe 1 4 rfl rfl, trivial⟩ ⟨⟨_, rfl, rfl, .same _ _ _ _ (Xc ⟨Xh ⟨.nils, .nils, .int _ _, trivial⟩, trivial⟩)⟩, ⟨_, rfl, rfl, .agg _ _ _ _ _ ⟨Vj rfl (.vs _ _), Vj rfl (.vs _ _), Vj rfl (.int _ _), trivial⟩⟩, trivial⟩
    ·have hF := Xn c15 hF; refine Vf (Vc (Va (Xl rfl rfl) rfl (Va (Ye rfl) rfl (Vd (Vw rfl (fun c16 => ?_) (fun c16 => ?_))))))
     ·have hF := Xm c16 hF; refine Vc (Va (Xx rfl) rfl (Va (Vo rfl) rfl (Va (Xr rfl) rfl (Va (Ve rfl tf_36_2 ts_3 (by decide)) rfl (Vi (vef_stL (p := .int .i64 p2) (e' := (T_Switch.mk x9.Above x9.Since p2 x9.Closed x9.Late)) rfl (Vh hn rfl) (Yk h10).2 rfl ts_3 rfl (Yp rfl) (Zc rfl) rfl (Xu hn rfl)) rfl (Vd ?_)))))); obtain rfl := Zb hF; refine Vv (Weak.trans (Xs (E' := [(6, .ptr (n + 0) 0 0 0), (8, .ptr (n + 4) 0 0 0)]) (loc1 := [⟨28, 3, [.agg [.nils, .nils, .int .i64 0]], 0⟩, (zE x11.1 0), ⟨36, 5, [], 0 + 1⟩, ⟨3, 1, Yy (Yz .i64) x5.2.Zones, 0⟩, ⟨28, 3, [.agg [.vs 5 (Yy T_Switch.enc (x5.2.Switches.set ((x7).toNat) (T_Switch.mk x9.Above x9.Since p2 x9.Closed x9.Late))), .sl (n + 3) 0 0 (x5.2.Zones).length, .int .i64 x5.2.Reply]], 0⟩]) hn 2 rfl (Yg T_Switch.enc_lt) ⟨Xb rfl, Xb rfl, trivial⟩ ⟨.refl _, .refl _, .refl _, .refl _, cvo_agg ⟨cv_sl rfl rfl rfl (Yi (Eq.trans rfl List.length_set.symm)), Xb rfl, Xb rfl, trivial⟩, trivial⟩) (Weak.trans (Xs (E' := [(6, .ptr (n + 0) 0 0 0), (8, .ptr (n + 4) 0 0 0)]) (loc1 := [⟨28, 3, [.agg [.nils, .nils, .int .i64 0]], 0⟩, (zE x11.1 0), ⟨36, 5, [], 0 + 1⟩, ⟨3, 1, [], 0 + 1⟩, ⟨28, 3, [.agg [.vs 5 (Yy T_Switch.enc (x5.2.Switches.set ((x7).toNat) (T_Switch.mk x9.Above x9.Since p2 x9.Closed x9.Late))), .vs 1 (Yy (Yz .i64) x5.2.Zones), .int .i64 x5.2.Reply]], 0⟩]) hn 3 rfl (Yg (fun _ => .int _ _)) ⟨Xb rfl, Xb rfl, trivial⟩ ⟨.refl _, .refl _, .refl _, .refl _, cvo_agg ⟨Xb rfl, cv_sl rfl rfl rfl (Yi rfl), Xb rfl, trivial⟩, trivial⟩) ?_)); exact Vn hn [(0, 0), (4, 0)] (by decide) ⟨Xe 0 0 rfl rfl, Xe 1 4 rfl rfl, trivial⟩ ⟨⟨_, rfl, rfl, .same _ _ _ _ (Xc ⟨Xh ⟨.nils, .nils, .int _ _, trivial⟩, trivial⟩)⟩, ⟨_, rfl, rfl, .agg _ _ _ _ _ ⟨Vj rfl (.vs _ _), Vj rfl (.vs _ _), Vj rfl (.int _ _), trivial⟩⟩, trivial⟩
     ·have hF := Xn c16 hF; refine Vf (Vc (Va (Xl rfl rfl) rfl (Va (Ye rfl) rfl (Vd (Vw rfl (fun c17 => ?_) (fun c17 => ?_))))))
      ·have hF := Xm c17 hF; refine Vc (Va (Xx rfl) rfl (Va (Xr rfl) rfl (Va (Ve rfl tf_36_4 ts_4 (by decide)) rfl (Vi (vef_stL (p := .bool true) (e' := (T_Switch.mk x9.Above x9.Since x9.Shown x9.Closed true)) rfl (Vh hn rfl) (Yk h10).2 rfl ts_4 rfl (Yp rfl) (Zc rfl) rfl (Xu hn rfl)) rfl (Vd ?_))))); obtain rfl := Zb hF; refine Vv (Weak.trans (Xs (E' := [(6, .ptr (n + 0) 0 0 0), (8, .ptr (n + 4) 0 0 0)]) (loc1 := [⟨28, 3, [.agg [.nils, .nils, .int .i64 0]], 0⟩, (zE x11.1 0), ⟨36, 5, [], 0 + 1⟩, ⟨3, 1, Yy (Yz .i64) x5.2.Zones, 0⟩, ⟨28, 3, [.agg [.vs 5 (Yy T_Switch.enc (x5.2.Switches.set ((x7).toNat) (T_Switch.mk x9.Above x9.Since x9.Shown x9.Closed true))), .sl (n + 3) 0 0 (x5.2.Zones).length, .int .i64 x5.2.Reply]], 0⟩]) hn 2 rfl (Yg T_Switch.enc_lt) ⟨Xb rfl, Xb rfl, trivial⟩ ⟨.refl _, .refl _, .refl _, .refl _, cvo_agg ⟨cv_sl rfl rfl rfl (Yi (Eq.trans rfl List.length_set.symm)), Xb rfl, Xb rfl, trivial⟩, trivial⟩) (Weak.trans (Xs (E' := [(6, .ptr (n + 0) 0 0 0), (8, .ptr (n + 4) 0 0 0)]) (loc1 := [⟨28, 3, [.agg [.nils, .nils, .int .i64 0]], 0⟩, (zE x11.1 0), ⟨36, 5, [], 0 + 1⟩, ⟨3, 1, [], 0 + 1⟩, ⟨28, 3, [.agg [.vs 5 (Yy T_Switch.enc (x5.2.Switches.set ((x7).toNat) (T_Switch.mk x9.Above x9.Since x9.Shown x9.Closed true))), .vs 1 (Yy (Yz .i64) x5.2.Zones), .int .i64 x5.2.Reply]], 0⟩]) hn 3 rfl (Yg (fun _ => .int _ _)) ⟨Xb rfl, Xb rfl, trivial⟩ ⟨.refl _, .refl _, .refl _, .refl _, cvo_agg ⟨Xb rfl, cv_sl rfl rfl rfl (Yi rfl), Xb rfl, trivial⟩, trivial⟩) ?_)); exact Vn hn [(0, 0), (4, 0)] (by decide) ⟨Xe 0 0 rfl rfl, Xe 1 4 rfl rfl, trivial⟩ ⟨⟨_, rfl, rfl, .same _ _ _ _ (Xc ⟨Xh ⟨.nils, .nils, .int _ _, trivial⟩, trivial⟩)⟩, ⟨_, rfl, rfl, .agg _ _ _ _ _ ⟨Vj rfl (.vs _ _), Vj rfl (.vs _ _), Vj rfl (.int _ _), trivial⟩⟩, trivial⟩
      ·have hF := Xn c17 hF; refine Vf (Vc (Va (Xl rfl rfl) rfl (Va (Ye rfl) rfl (Vd (Vw rfl (fun c18 => ?_) (fun c18 => ?_))))))
       ·have hF := Xm c18 hF; refine Yq (show Xj _ _ _ [(2, .int .i64 p2), (6, .ptr (n + 0) 0 0 0), (8, .ptr (n + 4) 0 0 0)] low [⟨28, 3, [.agg [.nils, .nils, .int .i64 0]], 0⟩, (zE x11.1 0), ⟨36, 5, Yy T_Switch.enc x5.2.Switches, 0⟩, ⟨3, 1, Yy (Yz .i64) x5.2.Zones, 0⟩, ⟨28, 3, [.agg [.sl (n + 2) 0 0 (x5.2.Switches).length, .sl (n + 3) 0 0 (x5.2.Zones).length, .int .i64 x5.2.Reply]], 0⟩] from Vr ⟨rfl, rfl, rfl, trivial⟩) (Vc (Va (Vo rfl) rfl (Va (Ve rfl tf_28_2 ts_3 (by decide)) rfl (Vi (Xq (p := .int .i64 p2) (e' := .agg [.sl (n + 2) 0 0 (x5.2.Switches).length, .sl (n + 3) 0 0 (x5.2.Zones).length, .int .i64 p2]) rfl (Vh hn rfl) rfl rfl ts_3 rfl (Yp rfl) rfl (Zc rfl) rfl (Xu hn rfl)) rfl (Vd ?_))))); obtain rfl := Zb hF; refine Vv (Weak.trans (Xs (E' := [(6, .ptr (n + 0) 0 0 0), (8, .ptr (n + 4) 0 0 0)]) (loc1 := [⟨28, 3, [.agg [.nils, .nils, .int .i64 0]], 0⟩, (zE x11.1 0), ⟨36, 5, [], 0 + 1⟩, ⟨3, 1, Yy (Yz .i64) x5.2.Zones, 0⟩, ⟨28, 3, [.agg [.vs 5 (Yy T_Switch.enc x5.2.Switches), .sl (n + 3) 0 0 (x5.2.Zones).length, .int .i64 p2]], 0⟩]) hn 2 rfl (Yg T_Switch.enc_lt) ⟨Xb rfl, Xb rfl, trivial⟩ ⟨.refl _, .refl _, .refl _, .refl _, cvo_agg ⟨cv_sl rfl rfl rfl (Yi rfl), Xb rfl, Xb rfl, trivial⟩, trivial⟩) (Weak.trans (Xs (E' := [(6, .ptr (n + 0) 0 0 0), (8, .ptr (n + 4) 0 0 0)]) (loc1 := [⟨28, 3, [.agg [.nils, .nils, .int .i64 0]], 0⟩, (zE x11.1 0), ⟨36, 5, [], 0 + 1⟩, ⟨3, 1, [], 0 + 1⟩, ⟨28, 3, [.agg [.vs 5 (Yy T_Switch.enc x5.2.Switches), .vs 1 (Yy (Yz .i64) x5.2.Zones), .int .i64 p2]], 0⟩]) hn 3 rfl (Yg (fun _ => .int _ _)) ⟨Xb rfl, Xb rfl, trivial⟩ ⟨.refl _, .refl _, .refl _, .refl _, cvo_agg ⟨Xb rfl, cv_sl rfl rfl rfl (Yi rfl), Xb rfl, trivial⟩, trivial⟩) ?_)); exact Vn hn [(0, 0), (4, 0)] (by decide) ⟨Xe 0 0 rfl rfl, Xe 1 4 rfl rfl, trivial⟩ ⟨⟨_, rfl, rfl, .same _ _ _ _ (Xc ⟨Xh ⟨.nils, .nils, .int _ _, trivial⟩, trivial⟩)⟩, ⟨_, rfl, rfl, .agg _ _ _ _ _ ⟨Vj rfl (.vs _ _), Vj rfl (.vs _ _), Vj rfl (.int _ _), trivial⟩⟩, trivial⟩
       ·have hF := Xn c18 hF; refine Vf (Yq (show Xj _ _ _ [(2, .int .i64 p2), (6, .ptr (n + 0) 0 0 0), (8, .ptr (n + 4) 0 0 0), (25, .int .i64 x11.2)] low [⟨28, 3, [.agg [.nils, .nils, .int .i64 0]], 0⟩, (zE x11.1 0), ⟨36, 5, Yy T_Switch.enc x5.2.Switches, 0⟩, ⟨3, 1, Yy (Yz .i64) x5.2.Zones, 0⟩, ⟨28, 3, [.agg [.sl (n + 2) 0 0 (x5.2.Switches).length, .sl (n + 3) 0 0 (x5.2.Zones).length, .int .i64 x5.2.Reply]], 0⟩] from Vr ⟨rfl, rfl, rfl, rfl, trivial⟩) (Vc (Va (Xl rfl rfl) rfl (Va (Ye rfl) rfl (Vd (Vw rfl (fun c19 => ?_) (fun c19 => ?_)))))))
        ·have hF := Xm c19 hF; obtain ⟨x20, h21, hF⟩ := Xv hF; obtain ⟨x22, h23, hF⟩ := Xv hF; refine vwp_drawn [[], [0], [], [2], [2, 3], [0, 1, 2, 3, 4], [0, 1, 2, 3, 4, 5], (List.range 7)] [false, false, false, false, false, true, false, true] [(low, [⟨28, 3, [.agg [.nils, .nils, .int .i64 0]], 0⟩, (zE x11.1 0), ⟨36, 5, Yy T_Switch.enc x5.2.Switches, 0⟩, ⟨3, 1, Yy (Yz .i64) x5.2.Zones, 0⟩, ⟨28, 3, [.agg [.sl (n + 2) 0 0 (x5.2.Switches).length, .sl (n + 3) 0 0 (x5.2.Zones).length, .int .i64 x5.2.Reply]], 0⟩]), (low, [⟨28, 3, [.agg [.nils, .nils, .int .i64 0]], 0⟩, (zE x11.1 0), ⟨36, 5, Yy T_Switch.enc x5.2.Switches, 0⟩, ⟨3, 1, Yy (Yz .i64) x22, 0 + 1⟩, ⟨28, 3, [.agg [.sl (n + 2) 0 0 (x5.2.Switches).length, .sl (n + 3) 0 0 (x5.2.Zones).length, .int .i64 x5.2.Reply]], 0⟩]), (low, [⟨28, 3, [.agg [.nils, .nils, .int .i64 0]], 0⟩, (zE x11.1 0), ⟨36, 5, Yy T_Switch.enc x5.2.Switches, 0⟩, ⟨3, 1, Yy (Yz .i64) x22, 0 + 1⟩, ⟨28, 3, [.agg [.sl (n + 2) 0 0 (x5.2.Switches).length, .sl (n + 3) (0 + 1) 0 (x22).length, .int .i64 x5.2.Reply]], 0⟩])] mixed (by kernel_rfl) rfl (lenAll (Ya rfl (Ya rfl (Ya rfl Yo)))) rfl _ rfl rfl (Xk rfl rfl (Ve rfl tf_28_1 ts_26 (by decide)) (Xk rfl rfl (Vm rfl (Vh hn rfl) rfl ta_26 rfl) (Xk rfl rfl (Vo rfl) (dn1 rfl rfl (Xp (Vk rfl Try.call12 (F_draw_Mod_ok h21 _))) (dn1 rfl rfl (Xp (Yt (es := Yy (Yz .i64) [x20]) ⟨rfl, rfl, trivial⟩ rfl rfl (nt_all rfl) te_26 ts_3 tz_3 rfl rfl (Zd _) (by decide) (Yg (fun _ => .int _ _)))) (dops_ef rfl rfl rfl (vef_apL (f := (Yz .i64)) (l := x5.2.Zones) (ys := [x20]) rfl rfl (Vh hn rfl) rfl (src_vs rfl) te_26 ts_3 tb_3 (by decide) tz_3 rfl h23 (Xu hn rfl)) (Xk rfl rfl (Ve rfl tf_28_1 ts_26 (by decide)) (dops_ef rfl rfl rfl (Xq (p := .sl (n + 3) (0 + 1) 0 (x22).length) (e' := .agg [.sl (n + 2) 0 0 (x5.2.Switches).length, .sl (n + 3) (0 + 1) 0 (x22).length, .int .i64 x5.2.Reply]) rfl (Vh hn rfl) rfl rfl ts_26 rfl (Yp rfl) rfl (Zc rfl) rfl (Xu hn rfl)) ?_)))))))); refine Xz ?_; obtain rfl := Zb hF; refine Vv (Weak.trans (Xs (E' := [(6, .ptr (n + 0) 0 0 0), (8, .ptr (n + 4) 0 0 0)]) (loc1 := [⟨28, 3, [.agg [.nils, .nils, .int .i64 0]], 0⟩, (zE x11.1 0), ⟨36, 5, [], 0 + 1⟩, ⟨3, 1, Yy (Yz .i64) x22, 0 + 1⟩, ⟨28, 3, [.agg [.vs 5 (Yy T_Switch.enc x5.2.Switches), .sl (n + 3) (0 + 1) 0 (x22).length, .int .i64 x5.2.Reply]], 0⟩]) hn 2 rfl (Yg T_Switch.enc_lt) ⟨Xb rfl, Xb rfl, trivial⟩ ⟨.refl _, .refl _, .refl _, .refl _, cvo_agg ⟨cv_sl rfl rfl rfl (Yi rfl), Xb rfl, Xb rfl, trivial⟩, trivial⟩) (Weak.trans (Xs (E' := [(6, .ptr (n + 0) 0 0 0), (8, .ptr (n + 4) 0 0 0)]) (loc1 := [⟨28, 3, [.agg [.nils, .nils, .int .i64 0]], 0⟩, (zE x11.1 0), ⟨36, 5, [], 0 + 1⟩, ⟨3, 1, [], (0 + 1) + 1⟩, ⟨28, 3, [.agg [.vs 5 (Yy T_Switch.enc x5.2.Switches), .vs 1 (Yy (Yz .i64) x22), .int .i64 x5.2.Reply]], 0⟩]) hn 3 rfl (Yg (fun _ => .int _ _)) ⟨Xb rfl, Xb rfl, trivial⟩ ⟨.refl _, .refl _, .refl _, .refl _, cvo_agg ⟨Xb rfl, cv_sl rfl rfl rfl (Yi rfl), Xb rfl, trivial⟩, trivial⟩) ?_)); exact Vn hn [(0, 0), (4, 0)] (by decide) ⟨Xe 0 0 rfl rfl, Xe 1 4 rfl rfl, trivial⟩ ⟨⟨_, rfl, rfl, .same _ _ _ _ (Xc ⟨Xh ⟨.nils, .nils, .int _ _, trivial⟩, trivial⟩)⟩, ⟨_, rfl, rfl, .agg _ _ _ _ _ ⟨Vj rfl (.vs _ _), Vj rfl (.vs _ _), Vj rfl (.int _ _), trivial⟩⟩, trivial⟩
        ·have hF := Xn c19 hF; refine Vy ?_; obtain rfl := Zb hF; refine Vv (Weak.trans (Xs (E' := [(6, .ptr (n + 0) 0 0 0), (8, .ptr (n + 4) 0 0 0)]) (loc1 := [⟨28, 3, [.agg [.nils, .nils, .int .i64 0]], 0⟩, (zE x11.1 0), ⟨36, 5, [], 0 + 1⟩, ⟨3, 1, Yy (Yz .i64) x5.2.Zones, 0⟩, ⟨28, 3, [.agg [.vs 5 (Yy T_Switch.enc x5.2.Switches), .sl (n + 3) 0 0 (x5.2.Zones).length, .int .i64 x5.2.Reply]], 0⟩]) hn 2 rfl (Yg T_Switch.enc_lt) ⟨Xb rfl, Xb rfl, trivial⟩ ⟨.refl _, .refl _, .refl _, .refl _, cvo_agg ⟨cv_sl rfl rfl rfl (Yi rfl), Xb rfl, Xb rfl, trivial⟩, trivial⟩) (Weak.trans (Xs (E' := [(6, .ptr (n + 0) 0 0 0), (8, .ptr (n + 4) 0 0 0)]) (loc1 := [⟨28, 3, [.agg [.nils, .nils, .int .i64 0]], 0⟩, (zE x11.1 0), ⟨36, 5, [], 0 + 1⟩, ⟨3, 1, [], 0 + 1⟩, (zB x5.2 0)]) hn 3 rfl (Yg (fun _ => .int _ _)) ⟨Xb rfl, Xb rfl, trivial⟩ ⟨.refl _, .refl _, .refl _, .refl _, cvo_agg ⟨Xb rfl, cv_sl rfl rfl rfl (Yi rfl), Xb rfl, trivial⟩, trivial⟩) ?_)); exact Vn hn [(0, 0), (4, 0)] (by decide) ⟨Xe 0 0 rfl rfl, Xe 1 4 rfl rfl, trivial⟩ ⟨⟨_, rfl, rfl, .same _ _ _ _ (Xc ⟨Xh ⟨.nils, .nils, .int _ _, trivial⟩, trivial⟩)⟩, ⟨_, rfl, rfl, .agg _ _ _ _ _ ⟨Vj rfl (.vs _ _), Vj rfl (.vs _ _), Vj rfl (.int _ _), trivial⟩⟩, trivial⟩
  ·rintro _ _ _ _ ⟨rfl, hw⟩; refine ⟨_, _, _, hw, ?_⟩; refine Vf (Vc (Va (Vp (ds := (zA o13)) rfl (Vh hn rfl) rfl ta_28 ts_28 rfl rfl rfl) rfl (Vi (Xq (p := .agg (zA o13)) (e' := .agg (zA o13)) rfl (Vh hn rfl) rfl rfl ts_28 rfl (Yp rfl) rfl (Zc rfl) rfl (Xu hn rfl)) rfl (Vd (Xa ?_))))); obtain rfl := Zb hF; refine fnR ?_; exact Vn hn [(0, 0)] (by decide) ⟨Xe 0 0 rfl rfl, trivial⟩ ⟨⟨_, rfl, rfl, .same _ _ _ _ (Xc ⟨Xh ⟨.vs _ _, .vs _ _, .int _ _, trivial⟩, trivial⟩)⟩, trivial⟩
 ·rintro _ _ _ _ ⟨he, hw⟩; refine ⟨_, _, _, hw, ?_⟩; exact Xy he [.agg (zA r)] ⟨Vp rfl (Vh hn rfl) rfl ta_28 ts_28 rfl rfl rfl, trivial⟩ ((Xh ⟨.vs _ _, .vs _ _, .int _ _, trivial⟩)) ⟨rfl, rfl⟩

section
open Go.RowKit Go.Shelf
attribute [local go_sem] Oper.semAt_some
theorem info3 : (Try.prog.info? 3).map (fun i => (i.zero, i.size, i.bytes)) = some (some (.int .i64 0), 1, 8) := by kernel_rfl
/-- What has come. -/
def come (sq : Nat → Int) (k : Nat) : List Value := (List.range k).map fun i => .int .i64 (sq i)
theorem come_len (sq : Nat → Int) (k : Nat) : (come sq k).length = k := by simp [come]
theorem come_succ (sq : Nat → Int) (k : Nat) : come sq (k + 1) = come sq k ++ [.int .i64 (sq k)] := by simp [come, List.range_succ]
/-- Between two rounds. -/
structure PInv (n₀ B : Nat) (w1 : World) (sq : Nat → Int) (k : Nat) (v : Int) (W : World) : Prop where
  bx : ∃ sl, Boxed W w1.heap.size 26 sl ∧ W.ownsRow w1.heap.size 3 1 sl k (come sq k)
  cb : Boxed W B 3 (.int .i64 v)
  kp : ∀ b, b < w1.heap.size → b ≠ B → W.heap[b]? = w1.heap[b]?
  be : Below n₀ w1 W
theorem row_ne {W : World} {base : Nat} {e : TypeId} {size : Nat} {v : Value} {k : Nat} {xs : List Value} (h : W.ownsRow base e size v k xs) {j : Nat} (hj : j < base) : v.ownBlock = none ∨ v.ownBlock ≠ some j := by
  rcases h.2 with ⟨rfl, _⟩ | ⟨g, cap, cur, rfl, hg, _⟩
  · exact .inl rfl
  · refine .inr fun e' => ?_
    have : g = j := by simpa [Value.ownBlock] using e'
    omega
theorem row_no {W : World} {base : Nat} {e : TypeId} {size : Nat} {v : Value} {k : Nat} {xs : List Value} (h : W.ownsRow base e size v k xs) {j : Nat} {x : Obj} (hx : W.heap[j]? = some x) (hc : x.isCells = false) : v.ownBlock = none ∨ v.ownBlock ≠ some j := by
  rcases h.2 with ⟨rfl, _⟩ | ⟨g, cap, cur, rfl, hg, hgb, _⟩
  · exact .inl rfl
  · refine .inr fun e' => ?_
    have : g = j := by simpa [Value.ownBlock] using e'
    subst this
    rw [hgb] at hx
    cases hx
    cases hc
theorem box_no {W : World} {B : Nat} {t : TypeId} {v : Value} (h : Boxed W B t v) {j : Nat} {x : Obj} (hx : W.heap[j]? = some x) (hc : x.isCells = false) : some B ≠ some j := by
  intro e
  cases e
  have := (show W.heap[B]? = _ from h).symm.trans hx
  cases this
  cases hc
theorem PInv.set_b {n₀ B : Nat} {w1 : World} {sq : Nat → Int} {k : Nat} {v : Int} {W : World} (h : PInv n₀ B w1 sq k v W) (hB : n₀ ≤ B) (hB2 : B < w1.heap.size) (v' : Int) : PInv n₀ B w1 sq k v' (W.setCell ⟨B, 0, none⟩ (.int .i64 v')) := by
  obtain ⟨sl, hb, hr⟩ := h.bx; refine ⟨⟨sl, hb.kept (grownBy_setCell' W B _) (fun e => by cases e; omega), hr.kept (grownBy_setCell' W B _) (row_ne hr hB2)⟩, h.cb.set _, fun b h1 h2 => ?_, h.be.setCell (p := ⟨B, 0, none⟩) hB _⟩; exact (Below.heap_setCell W ⟨B, 0, none⟩ _ b h2).trans (h.kp b h1 h2)
theorem PInv.put {n₀ B : Nat} {w1 : World} {sq : Nat → Int} {k : Nat} {v : Int} {W : World} (h : PInv n₀ B w1 sq k v W) (hn : n₀ ≤ w1.heap.size) {l : Nat} {x : Obj} (x' : Obj) (hl : w1.heap.size ≤ l) (hx : W.heap[l]? = some x) (hc : x.isCells = false) : PInv n₀ B w1 sq k v (W.putObj l x') := by
  obtain ⟨sl, hb, hr⟩ := h.bx; refine ⟨⟨sl, hb.kept (grownBy_putObj' W l x') (box_no hb hx hc), hr.kept (grownBy_putObj' W l x') (row_no hr hx hc)⟩, h.cb.kept (grownBy_putObj' W l x') (box_no h.cb hx hc), fun b h1 h2 => ?_, h.be.grown (grownBy_putObj' W l x') (Nat.le_trans hn h.be.size) (fun r e => by cases e; omega)⟩; exact (World.putObj_heap_other (by omega)).trans (h.kp b h1 h2)
theorem PInv.alloc {n₀ B : Nat} {w1 : World} {sq : Nat → Int} {k : Nat} {v : Int} {W : World} (h : PInv n₀ B w1 sq k v W) (hn : n₀ ≤ w1.heap.size) (x : Obj) : PInv n₀ B w1 sq k v (W.alloc x) := by
  obtain ⟨sl, hb, hr⟩ := h.bx; refine ⟨⟨sl, hb.alloc x, hr.alloc x⟩, h.cb.alloc x, fun b h1 h2 => ?_, h.be.grown (World.grownBy_alloc W x none) (Nat.le_trans hn h.be.size) (fun r e => by cases e)⟩; exact (Below.heap_alloc W x b (by have := hb.lt; omega)).trans (h.kp b h1 h2)
theorem appendSeq_in (n n₀ B Bf sb so scap len N : Nat) (hn : 4 ≤ n) (hN : N ≤ 1000000) (w1 : World) (ab sq : Nat → Int) (hn₀ : n₀ ≤ B) (hB : B < w1.heap.size) (hbx : Boxed w1 B 3 (.int .i64 (sq 0)))
    (hBf : Bf < w1.heap.size) (hBfB : Bf ≠ B) (hsb : sb < w1.heap.size) (hsbB : sb ≠ B) (hcf : w1.cell? ⟨Bf, 0, none⟩ = some (.slice (some ⟨sb, so, none⟩) len scap)) (hsw : ∀ i : Nat, i < len → w1.cell? ⟨sb, so + i * 5, none⟩ = some (.int .i64 (ab i)))
    (hsq : ∀ k, k < N → 0 ≤ sq k ∧ (sq k).toNat < len ∧ sq (k + 1) = ab (sq k).toNat ∧ sq (k + 1) < sq k) (hend : sq N < 0) :
    CallsIn Fence.wide n Try.prog 51 #[.slice none 0 0, .func (.func 50) #[] #[.pointer (some ⟨B, 0, none⟩), .pointer (some ⟨Bf, 0, none⟩)]] w1 fun e W' => ∃ v, e = .returned v ∧ W'.ownsRow w1.heap.size 3 1 v N (come sq N) ∧ Below n₀ w1 W' := by
  have h51 : Fence.wide.fn 51 := trivial
  have hn1 : 1 ≤ n := by omega
  obtain ⟨i0, hi, hz0, hz1, hz2⟩ := info_parts info3; refine callsIn_of_wp_marks Try.func51 rfl h51 ?_ rfl
  simp only [Try.ntmps51, List.size_toArray, List.length_cons, List.length_nil, Nat.reduceAdd, Nat.reduceSub, Array.replicate_succ, Array.replicate_zero, List.push_toArray, List.append_toArray, List.nil_append, List.cons_append]
  gi_wp2
  have h0 : PInv n₀ B w1 sq 0 (sq 0) (w1.alloc (.cells #[.slice none 0 0] 26)) :=
    ⟨⟨_, Boxed.new w1 26 _, World.ownsRow_nil _ _ _ _⟩, hbx.alloc _, fun b h1 h2 => Below.heap_alloc _ _ _ h1, (Below.refl n₀ w1).alloc (by omega) _⟩
  refine wpIn_rangeB rfl (enters_of Try.func50 (by kernel_rfl) rfl) (up1_seq (n - 1) B Bf (by omega) ab len N sq hsq hend) rfl
    (fun k v W => PInv n₀ B w1 sq k v W) (fun k v W h => ⟨h.cb.cell, h.cb.frozen⟩)
    (fun k v W h => ⟨so, scap, sb, ?rd1, fun i hi => ?rd2⟩)
    (fun k v v' W h => h.set_b hn₀ hB v') (fun k v W l o o' h hl hx hc => h.put (by omega) o' (by simp at hl; omega) hx hc) (fun k v W o h => h.alloc (by omega) o) h0 ?a1 ?hassign ?hbody ?hdone
  case rd1 =>
    rw [← hcf]
    unfold World.cell?
    rw [h.kp Bf hBf hBfB]
  case rd2 =>
    rw [← hsw i hi]
    unfold World.cell?
    rw [h.kp sb hsb hsbB]
  case hassign =>
    intro l x W K hK
    gi_wp2
    exact hK
  case hbody =>
    intro l k W h hk
    obtain ⟨v, hv, hrow⟩ := h.bx
    have hc := hv.cell
    have hsz : w1.heap.size ≤ W.heap.size := h.be.size
    gi_wp2_with (gi_at_builtin; refine wpListIn_append_own _ rfl _ _ 26 rfl w1.heap.size 3 i0 (.int .i64 0) 1 8 Try.underlying26 hi hz0 hz1 hz2 rfl (by decide) _ _ _ rfl (hrow.alloc _) ⟨W.heap.size, 0, none⟩ 1 1 [.int .i64 (sq k)] rfl rfl (cell_one_new _ _ _) (by simp [Value.oneCell']) (by unfold maxLen; omega) (by omega) (by simp; omega) ?_; intro v' w2 hown' hgrow _; obtain ⟨g', cap', rfl⟩ := ownsRow_succ hown'; obtain ⟨hv1, hv2, hr2, hk2, hb2⟩ := hv.appended (by decide) hrow hsz (Nat.le_refl _) hown' hgrow; have hc1 := hv1.cell; have hf1 := hv1.frozen)
    exact ⟨⟨_, hv2, by rw [come_succ]; exact hr2⟩, (hb2.block B hB).trans h.cb, fun b h1 h2 => (hb2.block b h1).trans (h.kp b h1 h2), h.be.trans (hb2.mono (by omega))⟩
  case hdone =>
    intro W h hK
    obtain ⟨v, hv, hrow⟩ := h.bx
    have hc := hv.cell
    gi_wp2
    refine ⟨by simp, .inl ⟨_, _, rfl, run_takeDeferred hK, ?_⟩⟩; exact ⟨_, results_tmp rfl _ _ _, v, rfl, ownsRow_putObj hrow _ hK rfl, h.be.trans (belowK_b (w := w1) (by omega) W _ _ _ (by simp) hK rfl rfl)⟩
theorem collect_in (n n₀ B Bf sb so scap len N : Nat) (hn : 5 ≤ n) (hN : N ≤ 1000000) (w1 : World) (ab sq : Nat → Int) (hn₀ : n₀ ≤ B) (hB : B < w1.heap.size) (hbx : Boxed w1 B 3 (.int .i64 (sq 0)))
    (hBf : Bf < w1.heap.size) (hBfB : Bf ≠ B) (hsb : sb < w1.heap.size) (hsbB : sb ≠ B) (hcf : w1.cell? ⟨Bf, 0, none⟩ = some (.slice (some ⟨sb, so, none⟩) len scap)) (hsw : ∀ i : Nat, i < len → w1.cell? ⟨sb, so + i * 5, none⟩ = some (.int .i64 (ab i)))
    (hsq : ∀ k, k < N → 0 ≤ sq k ∧ (sq k).toNat < len ∧ sq (k + 1) = ab (sq k).toNat ∧ sq (k + 1) < sq k) (hend : sq N < 0) :
    CallsIn Fence.wide n Try.prog 46 #[.func (.func 50) #[] #[.pointer (some ⟨B, 0, none⟩), .pointer (some ⟨Bf, 0, none⟩)]] w1 fun e W' => ∃ v, e = .returned v ∧ W'.ownsRow w1.heap.size 3 1 v N (come sq N) ∧ Below n₀ w1 W' := by
  have h46 : Fence.wide.fn 46 := trivial
  have hn1 : 1 ≤ n := by omega
  refine callsIn_of_wp Try.func46 rfl h46 ?_ rfl
  simp only [Try.ntmps46, List.size_toArray, List.length_cons, List.length_nil, Nat.reduceAdd, Nat.reduceSub, Array.replicate_succ, Array.replicate_zero, List.push_toArray, List.append_toArray, List.nil_append, List.cons_append]
  gi_wp2_with (refine ⟨trivial, ?_⟩; gi_at_call 51; refine (appendSeq_in (n - 1) n₀ B Bf sb so scap len N (by omega) hN w1 ab sq hn₀ hB hbx hBf hBfB hsb hsbB hcf hsw hsq hend).mono ?_; rintro e W1 ⟨v, rfl, hrow, hb⟩)
  refine bodyPost_ret (results_tmp rfl _ _ _) rfl ?_; exact ⟨v, rfl, hrow, hb⟩
theorem path_bad (n len scap : Nat) (hn : 4 ≤ n) (x1 x2 : Value) (sa : Option Addr) (s ck : Int) (w : World)
    (hck : ∀ W, Below w.heap.size w W → CallsIn Fence.wide (n - 1) Try.prog 22 #[.agg #[.slice sa len scap, x1, x2]] W fun e W' => e = .returned (.int .i64 ck) ∧ Below W.heap.size W W')
    (hbad : ck ≠ 0 ∨ (ck = 0 ∧ s < 0) ∨ (ck = 0 ∧ ¬ s < 0 ∧ (len : Int) ≤ s)) :
    CallsIn Fence.wide n Try.prog 24 #[.agg #[.slice sa len scap, x1, x2], .int .i64 s] w fun e W' => e = .returned (.slice none 0 0) ∧ Below w.heap.size w W' := by
  have h24 : Fence.wide.fn 24 := trivial
  refine callsIn_of_wp Try.func24 rfl h24 ?_ rfl
  simp only [Try.ntmps24, List.size_toArray, List.length_cons, List.length_nil, Nat.reduceAdd, Nat.reduceSub, Array.replicate_succ, Array.replicate_zero, List.push_toArray, List.append_toArray, List.nil_append, List.cons_append]
  have hn1 : 1 ≤ n := by omega
  have hb0 := (Below.refl w.heap.size w).alloc (Nat.le_refl _) (Obj.cells #[.slice sa len scap, x1, x2] 28)
  have hx : ∀ j : Nat, j < 3 → (w.alloc (Obj.cells #[.slice sa len scap, x1, x2] 28)).cell? ⟨w.heap.size, j, none⟩ = (#[.slice sa len scap, x1, x2] : Array Value)[j]? := fun j _ => new_cell _ _ _ _
  have hx0 := hx 0 (by omega)
  simp only [List.getElem?_toArray, List.getElem?_cons_zero, List.getElem?_cons_succ] at hx0
  have hsz : (w.alloc (Obj.cells #[.slice sa len scap, x1, x2] 28)).heap.size = w.heap.size + 1 := by simp
  rcases hbad with h | ⟨rfl, h⟩ | ⟨rfl, h, h'⟩
  · gi_wp2_with (refine ⟨trivial, ?_⟩; gi_at_call 22; refine (hck _ hb0).mono ?_; rintro e W1 ⟨rfl, hb1⟩)
    refine bodyPost_ret (results_tmp rfl _ _ _) rfl ?_; exact ⟨rfl, hb0.trans (hb1.mono (B' := w.heap.size) (by simp))⟩
  · gi_wp2_with (refine ⟨trivial, ?_⟩; gi_at_call 22; refine (hck _ hb0).mono ?_; rintro e W1 ⟨rfl, hb1⟩)
    refine bodyPost_ret (results_tmp rfl _ _ _) rfl ?_; exact ⟨rfl, hb0.trans (hb1.mono (B' := w.heap.size) (by simp))⟩
  · gi_wp2_with (refine ⟨trivial, ?_⟩; gi_at_call 22; refine (hck _ hb0).mono ?_; rintro e W1 ⟨rfl, hb1⟩; have hy0 := (hb1.cell (p := ⟨w.heap.size, 0, none⟩) (by simp)).trans hx0)
    refine bodyPost_ret (results_tmp rfl _ _ _) rfl ?_; exact ⟨rfl, hb0.trans (hb1.mono (B' := w.heap.size) (by simp))⟩
/-- What Collect does with the iterator that up hands back. -/
theorem path_col (n sb so scap len N : Nat) (hn : 5 ≤ n) (hN : N ≤ 1000000) (x1 x2 : Value) (s : Int) (w W1 : World) (hb1 : Below w.heap.size w W1) (ab sq : Nat → Int)
    (hsb : sb < w.heap.size) (hsw : ∀ i : Nat, i < len → w.cell? ⟨sb, so + i * 5, none⟩ = some (.int .i64 (ab i))) (hs0 : sq 0 = s)
    (hsq : ∀ k, k < N → 0 ≤ sq k ∧ (sq k).toNat < len ∧ sq (k + 1) = ab (sq k).toNat ∧ sq (k + 1) < sq k) (hend : sq N < 0) :
    CallsIn Fence.wide n Try.prog 46 #[.func (.func 50) #[] #[.pointer (some ⟨W1.heap.size + 1, 0, none⟩), .pointer (some ⟨W1.heap.size, 0, none⟩)]] ((W1.alloc (.cells #[.slice (some ⟨sb, so, none⟩) len scap, x1, x2] 28)).alloc (.cells #[.int .i64 s] 3)) fun e W' => ∃ v, e = .returned v ∧ W'.ownsRow w.heap.size 3 1 v N (come sq N) ∧ Below w.heap.size w W' := by
  have hsz := hb1.size
  have hbb : Below w.heap.size w ((W1.alloc (.cells #[.slice (some ⟨sb, so, none⟩) len scap, x1, x2] 28)).alloc (.cells #[.int .i64 s] 3)) := (hb1.alloc (by omega) _).alloc (by simp; omega) _
  have hbx : Boxed ((W1.alloc (.cells #[.slice (some ⟨sb, so, none⟩) len scap, x1, x2] 28)).alloc (.cells #[.int .i64 s] 3)) (W1.heap.size + 1) 3 (.int .i64 (sq 0)) := by
    have := Boxed.new (W1.alloc (.cells #[.slice (some ⟨sb, so, none⟩) len scap, x1, x2] 28)) 3 (.int .i64 s)
    rw [World.size_alloc] at this
    rw [hs0]
    exact this
  have hcf : ((W1.alloc (.cells #[.slice (some ⟨sb, so, none⟩) len scap, x1, x2] 28)).alloc (.cells #[.int .i64 s] 3)).cell? ⟨W1.heap.size, 0, none⟩ = some (.slice (some ⟨sb, so, none⟩) len scap) :=
    cell_kept (new_cell W1 _ _ 0) (World.grownBy_alloc _ _ none) (fun r e => by cases e)
  refine (collect_in n w.heap.size (W1.heap.size + 1) W1.heap.size sb so scap len N hn hN _ ab sq (by omega) (by simp) hbx (by simp; omega) (by omega) (by simp; omega) (by omega) hcf (fun i hi => (hbb.cell (p := ⟨sb, so + i * 5, none⟩) hsb).trans (hsw i hi)) hsq hend).mono ?_; rintro e W' ⟨v, rfl, hrow, hb⟩; refine ⟨v, rfl, ⟨hrow.1, ?_⟩, hbb.trans hb⟩
  rcases hrow.2 with h | ⟨g, cap, cur, h1, h2, h3⟩
  · exact .inl h
  · exact .inr ⟨g, cap, cur, h1, by simp at h2; omega, h3⟩
theorem path_in (n sb so scap len N : Nat) (hn : 7 ≤ n) (hN : N ≤ 1000000) (x1 x2 : Value) (s : Int) (w : World) (ab sq : Nat → Int)
    (hsb : sb < w.heap.size) (hsw : ∀ i : Nat, i < len → w.cell? ⟨sb, so + i * 5, none⟩ = some (.int .i64 (ab i)))
    (hck : ∀ W, Below w.heap.size w W → CallsIn Fence.wide (n - 1) Try.prog 22 #[.agg #[.slice (some ⟨sb, so, none⟩) len scap, x1, x2]] W fun e W' => e = .returned (.int .i64 0) ∧ Below W.heap.size W W')
    (h1 : ¬ s < 0) (h2 : ¬ (len : Int) ≤ s) (hs0 : sq 0 = s) (hsq : ∀ k, k < N → 0 ≤ sq k ∧ (sq k).toNat < len ∧ sq (k + 1) = ab (sq k).toNat ∧ sq (k + 1) < sq k) (hend : sq N < 0) :
    CallsIn Fence.wide n Try.prog 24 #[.agg #[.slice (some ⟨sb, so, none⟩) len scap, x1, x2], .int .i64 s] w fun e W' => ∃ v, e = .returned v ∧ W'.ownsRow w.heap.size 3 1 v N (come sq N) ∧ Below w.heap.size w W' := by
  have h24 : Fence.wide.fn 24 := trivial
  refine callsIn_of_wp Try.func24 rfl h24 ?_ rfl
  simp only [Try.ntmps24, List.size_toArray, List.length_cons, List.length_nil, Nat.reduceAdd, Nat.reduceSub, Array.replicate_succ, Array.replicate_zero, List.push_toArray, List.append_toArray, List.nil_append, List.cons_append]
  have hn1 : 1 ≤ n := by omega
  have hb0 := (Below.refl w.heap.size w).alloc (Nat.le_refl _) (Obj.cells #[.slice (some ⟨sb, so, none⟩) len scap, x1, x2] 28)
  have hx : ∀ j : Nat, j < 3 → (w.alloc (Obj.cells #[.slice (some ⟨sb, so, none⟩) len scap, x1, x2] 28)).cell? ⟨w.heap.size, j, none⟩ = (#[.slice (some ⟨sb, so, none⟩) len scap, x1, x2] : Array Value)[j]? := fun j _ => new_cell _ _ _ _
  have hx0 := hx 0 (by omega)
  have hx1 := hx 1 (by omega)
  have hx2 := hx 2 (by omega)
  simp only [List.getElem?_toArray, List.getElem?_cons_zero, List.getElem?_cons_succ] at hx0 hx1 hx2
  have hsz : (w.alloc (Obj.cells #[.slice (some ⟨sb, so, none⟩) len scap, x1, x2] 28)).heap.size = w.heap.size + 1 := by simp
  gi_wp2_with (first
    | (refine ⟨trivial, ?_⟩; gi_at_call 22; refine (hck _ hb0).mono ?_; rintro e W1 ⟨rfl, hb1⟩; have hy0 := (hb1.cell (p := ⟨w.heap.size, 0, none⟩) (by simp)).trans hx0; have hy1 := (hb1.cell (p := ⟨w.heap.size, 1, none⟩) (by simp)).trans hx1; have hy2 := (hb1.cell (p := ⟨w.heap.size, 2, none⟩) (by simp)).trans hx2; have hcol := path_col (n - 1) sb so scap len N (by omega) hN x1 x2 s w W1 (hb0.trans (hb1.mono (B' := w.heap.size) (by simp))) ab sq hsb hsw hs0 hsq hend)
    | (refine ⟨trivial, ?_⟩; gi_at_call 45; refine (up_in _ _ _ [_, _, _] rfl rfl _).mono ?_; rintro e w' ⟨rfl, rfl⟩)
    | (refine ⟨trivial, ?_⟩; gi_at_call 46; refine hcol.mono ?_; rintro e W9 ⟨v, rfl, hrow, hb⟩))
  refine bodyPost_ret (results_tmp rfl _ _ _) rfl ?_; exact ⟨v, rfl, hrow, hb⟩
theorem path_seq (f : T_Feeder) : ∀ (n : Nat) (s : Int) (o r : List Int), iterC (F_feeder_Path_L1 f) n (s, o) = some r →
    ∃ (N : Nat) (sq : Nat → Int), sq 0 = s ∧ (∀ k, k < N → 0 ≤ sq k ∧ (sq k).toNat < f.Switches.length ∧ sq (k + 1) = abv f (sq k).toNat ∧ sq (k + 1) < sq k) ∧ sq N < 0 ∧ r = o ++ (List.range N).map sq
  | 0, s, o, r, h => by simp [iterC] at h
  | n + 1, s, o, r, h => by
    unfold iterC at h; obtain ⟨x, h1, h2⟩ := Xv h; unfold F_feeder_Path_L1 at h1
    by_cases hs : 0 ≤ s
    · rw [decide_eq_true (show 0 ≤ ((s, o) : Int × List Int).1 from hs), cond_true] at h1
      obtain ⟨y, hy, h1⟩ := Xv h1
      have hg := Yk hy
      have hlen := (List.getElem?_eq_some_iff.1 hg.2).1
      by_cases ha : y.Above < s
      · rw [decide_eq_true (show y.Above < ((s, o) : Int × List Int).1 from ha), cond_true] at h1
        injection h1 with h1
        subst h1
        obtain ⟨N, sq, e0, e2, e3, e4⟩ := path_seq f n _ _ r h2
        have hab : abv f s.toNat = y.Above := by unfold abv; rw [hg.2]; rfl
        refine ⟨N + 1, fun k => match k with | 0 => s | k + 1 => sq k, rfl, fun k hk => ?_, e3, ?_⟩
        · match k, hk with
          | 0, _ => exact ⟨hs, hlen, by show sq 0 = _; rw [e0, hab], by show sq 0 < s; rw [e0]; exact ha⟩
          | k + 1, hk => exact e2 k (by omega)
        · rw [e4, List.range_succ_eq_map, List.map_cons, List.map_map, List.append_assoc]
          rfl
      · rw [decide_eq_false (show ¬ y.Above < ((s, o) : Int × List Int).1 from ha), cond_false] at h1
        cases h1
    · rw [decide_eq_false (show ¬ 0 ≤ ((s, o) : Int × List Int).1 from hs), cond_false] at h1
      injection h1 with h1
      subst h1
      injection h2 with h2
      subst h2
      exact ⟨0, fun _ => s, rfl, fun k hk => by omega, by show s < 0; omega, by simp⟩
theorem seq_fall {len N : Nat} {ab sq : Nat → Int} (h : ∀ k, k < N → 0 ≤ sq k ∧ (sq k).toNat < len ∧ sq (k + 1) = ab (sq k).toNat ∧ sq (k + 1) < sq k) : ∀ k, k < N → sq k + k ≤ sq 0
  | 0, _ => by simp
  | k + 1, hk => by have := seq_fall h k (by omega); have := (h k (by omega)).2.2.2; omega
theorem seq_short {len N : Nat} {ab sq : Nat → Int} (h : ∀ k, k < N → 0 ≤ sq k ∧ (sq k).toNat < len ∧ sq (k + 1) = ab (sq k).toNat ∧ sq (k + 1) < sq k) : N ≤ len := by
  by_cases h0 : N = 0
  · omega
  · have h1 := seq_fall h (N - 1) (by omega)
    have h2 := h (N - 1) (by omega)
    have h3 := h 0 (by omega)
    omega
theorem newInts_of {N : Nat} {sq : Nat → Int} {w w' : World} {v : Value} (hb : Below w.heap.size w w') (h : w'.ownsRow w.heap.size 3 1 v N (come sq N)) : NewInts .i64 ((List.range N).map sq) w w' v := by
  rcases h.2 with ⟨rfl, h0⟩ | ⟨g, cap, cur, rfl, hg, hgb, h1, h2, h3, h4⟩
  · exact .inl ⟨rfl, by subst h0; rfl⟩
  · refine .inr ⟨g, cap, by simp, hg, (Array.getElem?_eq_some_iff.1 hgb).1, by simpa using h1, fun i n hi => ?_⟩
    have hlt : i < N := by
      have := (List.getElem?_eq_some_iff.1 hi).1
      simpa using this
    have hv : (come sq N)[i]? = some (.int .i64 n) := by
      unfold come
      rw [List.getElem?_map] at hi ⊢
      rw [List.getElem?_range hlt] at hi ⊢
      cases hi
      rfl
    rw [← h4, List.getElem?_take_of_lt (by omega)] at hv
    unfold World.cell?
    rw [hgb]
    simpa using hv
theorem F_feeder_Path_ok {p0 : T_Feeder} {p1 : Int} {r : List Int} (hF : F_feeder_Path p0 p1 = some r) (low : List AObj) :
    Ym Try.prog 24 [.agg (zA p0), .int .i64 p1] low fun x low' => x = .vs 1 (Yy (Yz .i64) r) ∧ low' = low := by
  refine vcalls_of_calls_ints (fun c hc => ?_) (fun F xs w hl ha hfb => ?_) low
  · simp at hc
    rcases hc with rfl | rfl
    · exact Xh ⟨.vs _ _, .vs _ _, .int _ _, trivial⟩
    · exact .int _ _
  unfold F_feeder_Path at hF; obtain ⟨ck, hck, hF⟩ := Xv hF
  match xs, hl with
  | [fv, zv], _ =>
  obtain rfl := vi_int (ha 1 _ _ rfl rfl)
  have hfv := ha 0 _ _ rfl rfl
  obtain ⟨ys, rfl, hyl, hyv⟩ := vi_agg hfv
  match ys, hyl with
  | [x0, x1, x2], _ =>
  have v0 := hyv 0 _ _ rfl rfl
  obtain ⟨sa, scap, rfl, hsa⟩ := vi_row v0
  have hC : ∀ W, Below w.heap.size w W → CallsIn Fence.wide (7 - 1) Try.prog 22 #[.agg #[.slice sa (Yy T_Switch.enc p0.Switches).length scap, x1, x2]] W fun e W' => e = .returned (.int .i64 ck) ∧ Below W.heap.size W W' := fun W hW => by
    refine callsIn_wide.2 ((calls_of_vcalls (F_feeder_Check_ok hck []) [_] W rfl fun i c x hc hx => ?_).mono ?_)
    · match i, hc, hx with
      | 0, hc, hx =>
        simp only [List.getElem?_cons_zero, Option.some.injEq] at hc hx
        subst hc; subst hx
        exact hfv.mono (fun b h => Nat.lt_of_lt_of_le (hfb b h) hW.size) (fun b h => hW.block b (hfb b h))
      | i + 1, hc, _ => simp at hc
    · rintro e W' ⟨x, F', rfl, hx, hb⟩
      obtain rfl := vi_int hx; exact ⟨rfl, hb⟩
  refine (callsIn_wide (n := 7)).1 ?_
  simp only [Zf] at hC ⊢
  by_cases h1 : ck ≠ 0
  · rw [decide_eq_true h1, cond_true] at hF
    injection hF with hF
    subst hF
    exact (path_bad 7 _ _ (by decide) _ _ _ p1 ck w hC (.inl h1)).mono fun e w' ⟨e1, e2⟩ => ⟨_, e1, e2, .inl ⟨rfl, rfl⟩⟩
  rw [decide_eq_false h1, cond_false] at hF
  have h1' : ck = 0 := Decidable.byContradiction h1
  by_cases h2 : p1 < 0
  · rw [decide_eq_true h2, cond_true] at hF
    injection hF with hF
    subst hF
    exact (path_bad 7 _ _ (by decide) _ _ _ p1 ck w hC (.inr (.inl ⟨h1', h2⟩))).mono fun e w' ⟨e1, e2⟩ => ⟨_, e1, e2, .inl ⟨rfl, rfl⟩⟩
  rw [decide_eq_false h2, cond_false] at hF
  by_cases h3 : (p0.Switches.length : Int) ≤ p1
  · rw [decide_eq_true h3, cond_true] at hF
    injection hF with hF
    subst hF
    exact (path_bad 7 _ _ (by decide) _ _ _ p1 ck w hC (.inr (.inr ⟨h1', h2, h3⟩))).mono fun e w' ⟨e1, e2⟩ => ⟨_, e1, e2, .inl ⟨rfl, rfl⟩⟩
  rw [decide_eq_false h3, cond_false] at hF
  by_cases h4 : 1000000 < (p0.Switches.length : Int)
  · rw [decide_eq_true h4, cond_true] at hF
    cases hF
  rw [decide_eq_false h4, cond_false] at hF
  obtain ⟨m, hm⟩ := loopC_some hF; obtain ⟨N, sq, e0, e2, e3, e4⟩ := path_seq p0 m _ _ _ hm
  rw [List.nil_append] at e4
  subst e4
  subst h1'
  obtain ⟨sb, so, rfl, hsF, hsc⟩ := hsa (by intro h; simp at h; rw [h] at h3; simp at h3; omega)
  have hNl := seq_short e2
  refine (path_in 7 sb so scap p0.Switches.length N (Nat.le_refl _) (by omega) x1 x2 p1 w (abv p0) sq (hfb _ hsF) (fun i hi => ?_) hC h2 h3 e0 e2 e3).mono ?_
  · have hy := List.getElem?_eq_getElem hi
    have hc : cellOf (Yy T_Switch.enc p0.Switches) i 0 = some (.int .i64 (abv p0 i)) := by
      unfold cellOf abv
      rw [List.getElem?_map, hy]
      rfl
    obtain ⟨u, hu, hv⟩ := hsc i 0 _ hc
    rw [vi_int hv] at hu
    exact hu
  · rintro e w' ⟨v, rfl, hrow, hb⟩
    exact ⟨v, rfl, hb, newInts_of hb hrow⟩
end

theorem F_ref18_Path_ok {p0 : T_Feeder} {p1 : Int} {r : List Int} (hF : F_ref18_Path p0 p1 = some r) (low : List AObj) :
    Ym Try.prog 25 [.agg (zA p0), .int .i64 p1] low fun x low' => x = .vs 1 (Yy (Yz .i64) r) ∧ low' = low := by
 refine Xd (nt := 33) (rs := [.tmp 4]) Try.func25 rfl rfl (Zc rfl) rfl (Vt (Q' := FnE (fun E' lw lc => Xj E' lw lc [(4, .vs 1 (Yy (Yz .i64) r))] low [])) ?_ ?_)
 ·unfold F_ref18_Path at hF; refine Vf (Vc (Vi (Yx rfl rfl (v := .agg (zA p0)) rfl rfl (Zd _) rfl rfl) rfl (Va (rd_nv (sz := 1) (rd_asN rfl)) rfl (Vd (Vf (Vf ?_)))))); obtain ⟨o1, ho1, hF⟩ := Xv hF; refine Vt (Q' := (fun o1 => OnlyE .normal (fun E' lw lc => Xj E' lw lc [(1, .int .i64 p1), (2, .ptr (low.length + 0) 0 0 0), (19, .bool o1)] low [(zB p0 0)])) o1) ?_ ?_
  ·replace hF := ho1; refine Vc ?_; obtain ⟨x2, h3, hF⟩ := Xv hF
   rcases Ze (decide (x2 ≠ 0)) with c4 | c4
   ·have hF := Xm c4 hF; refine Va (Vp (ds := (zA p0)) rfl (Vh rfl rfl) rfl ta_28 ts_28 rfl rfl rfl) rfl (Vi (Vk rfl Try.call14 (F_ref18_Check_ok h3 _)) rfl (Va (Yl rfl rfl) rfl (Va (Vl rfl) rfl (Vb rfl rfl (Yh c4) rfl (Vb rfl rfl (Yh c4) rfl (Va (Vs (congrArg Za c4) rfl) rfl (Va (Vl rfl) rfl (Vb rfl rfl (by decide) rfl ?_)))))))); refine Vb rfl rfl (by decide) rfl (Vb rfl rfl (by decide) rfl (Vb rfl rfl (by decide) rfl (Vb rfl rfl (by decide) rfl (Va (Vs rfl rfl) rfl (Vd ?_))))); obtain rfl := Zb hF; refine Vv ?_; exact Vr ⟨rfl, rfl, rfl, trivial⟩
   ·have hF := Xn c4 hF
    rcases Ze (decide (p1 < 0)) with c5 | c5
    ·have hF := Xm c5 hF; refine Va (Vp (ds := (zA p0)) rfl (Vh rfl rfl) rfl ta_28 ts_28 rfl rfl rfl) rfl (Vi (Vk rfl Try.call14 (F_ref18_Check_ok h3 _)) rfl (Va (Yl rfl rfl) rfl (Va (Vl rfl) rfl (Xf rfl rfl c4 (Va (Vo rfl) rfl (Xf rfl rfl c4 (Va (Xo rfl rfl) rfl (Va (Vq (congrArg Za c4) rfl) rfl ?_)))))))); refine Va (Vl rfl) rfl (Vb rfl rfl (Yh c5) rfl (Vb rfl rfl (Yh c5) rfl (Vb rfl rfl (Yh c5) rfl (Vb rfl rfl (Yh c5) rfl (Vb rfl rfl (Yh c5) rfl (Va (Vs (congrArg Za c5) rfl) rfl (Vd ?_))))))); obtain rfl := Zb hF; refine Vv ?_; exact Vr ⟨rfl, rfl, rfl, trivial⟩
    ·have hF := Xn c5 hF; refine Va (Vp (ds := (zA p0)) rfl (Vh rfl rfl) rfl ta_28 ts_28 rfl rfl rfl) rfl (Vi (Vk rfl Try.call14 (F_ref18_Check_ok h3 _)) rfl (Va (Yl rfl rfl) rfl (Va (Vl rfl) rfl (Xf rfl rfl c4 (Va (Vo rfl) rfl (Xf rfl rfl c4 (Va (Xo rfl rfl) rfl (Va (Vq (congrArg Za c4) rfl) rfl ?_)))))))); refine Va (Vl rfl) rfl (Xf rfl rfl c5 (Va (Vo rfl) rfl (Xf rfl rfl c5 (Va (Ve rfl tf_28_0 ts_25 (by decide)) rfl (Xf rfl rfl c5 (Va (Vm rfl (Vh rfl rfl) rfl ta_25 rfl) rfl (Xf rfl rfl c5 (Va (Xw (Yb rfl rfl te_25) (congrArg (fun n : Nat => Yz .i64 (n : Int)) (Zf _))) rfl ?_)))))))); refine Xf rfl rfl c5 (Va (rd_geq rfl rfl) rfl (Va (Vq (congrArg Za c5) rfl) rfl (Vd ?_))); obtain rfl := Zb hF; refine Vv ?_; exact Vr ⟨rfl, rfl, rfl, trivial⟩
  ·rintro _ _ _ _ ⟨rfl, hw⟩; refine ⟨_, _, _, hw, ?_⟩; refine Vw rfl (fun c6 => ?_) (fun c6 => ?_)
   ·have hF := Xm c6 hF; refine Vf (Vc (Va (rd_nv (sz := 1) (rd_asN rfl)) rfl (Vd (Xa ?_)))); obtain rfl := Zb hF; refine fnR ?_; exact Vn rfl [] (by decide) ⟨Vj rfl (.vs _ _), trivial⟩ trivial
   ·have hF := Xn c6 hF; refine Vy (Vf (Vc (Vi (vef_nilsN rfl rfl 3 1 (Zd _) (rd_asN rfl)) rfl (Vd (Vf (Xi ?_)))))); obtain ⟨o8, ho8, hF⟩ := Xv hF; refine Vt (Yn (F_ref18_Path_L1 p0) (fun s7 E' lw lc => Xj E' lw lc [(1, .int .i64 s7.1), (2, .ptr (low.length + 0) 0 0 0), (5, .sl (low.length + 1) 0 0 (s7.2).length)] low [(zB p0 0), ⟨3, 1, Yy (Yz .i64) s7.2, 0⟩]) (fun o8 => OnlyE (.exit 0) (fun E' lw lc => Xj E' lw lc [(5, .sl (low.length + 0) 0 0 (o8).length)] low [⟨3, 1, Yy (Yz .i64) o8, 0⟩])) ho8 ?_ (by rintro _ _ _ _ ⟨h, _⟩ <;> cases h) ?_) ?_
    ·exact Vr ⟨rfl, rfl, rfl, trivial⟩
    ·rintro s7 os7 _ _ _ hF hw; unfold F_ref18_Path_L1 at hF; refine Yq hw (Vf (Vf (Vc (Va (Vo rfl) rfl (Va (rd_geq rfl rfl) rfl (Vd (Vw rfl (fun c9 => ?_) (fun c9 => ?_))))))))
     ·have hF := Xm c9 hF; refine Vy (Vf (Xi (Vc ?_))); obtain ⟨x10, h11, hF⟩ := Xv hF; refine Va (rd_mvL rfl) rfl (Va (Vo rfl) rfl (Vi (Yt (es := Yy (Yz .i64) [s7.1]) ⟨rfl, rfl, trivial⟩ rfl rfl (nt_all rfl) te_26 ts_3 tz_3 rfl rfl (Zd _) (by decide) (Yg (fun _ => .int _ _))) rfl (Vi (vef_apL (f := (Yz .i64)) (l := s7.2) (ys := [s7.1]) rfl rfl (Vh rfl rfl) rfl (src_vs rfl) te_26 ts_3 tb_3 (by decide) tz_3 rfl h11 (Xu rfl rfl)) rfl (Va (rd_asL rfl) rfl (Vd (Vc ?_)))))); obtain ⟨x12, h13, hF⟩ := Xv hF; refine Va (Ve rfl tf_28_0 ts_25 (by decide)) rfl (Va (Vm rfl (Vh rfl rfl) rfl ta_25 rfl) rfl (Va (Vo rfl) rfl (Va (Xw (rd_ixV rfl rfl h13 te_25 ts_36) (v' := .vptr (zC x12) 0) rfl) rfl (Va (rd_fieldVaddr rfl tf_36_0 ts_3 (by decide)) rfl (Va (Yr rfl ta_3 rfl) rfl (Va (Vz rfl) rfl (Vd ?_))))))); obtain rfl := Zb hF; refine Vv ?_; exact Vn rfl [(0, 0), (1, 0 + 1)] (by decide) ⟨Vj rfl (.int _ _), Xe 0 0 rfl rfl, Yd 1 1 rfl rfl, trivial⟩ ⟨⟨_, rfl, rfl, .same _ _ _ _ (Xc ⟨Xh ⟨.vs _ _, .vs _ _, .int _ _, trivial⟩, trivial⟩)⟩, ⟨_, rfl, rfl, .same _ _ _ _ (Vx (fun _ => .int _ _))⟩, trivial⟩
     ·have hF := Xn c9 hF; refine Ys ?_; obtain rfl := Zb hF; refine Vv ?_; exact Vn rfl [(1, 0)] (by decide) ⟨Yd 0 1 rfl rfl, trivial⟩ ⟨⟨_, rfl, rfl, .same _ _ _ _ (Vx (fun _ => .int _ _))⟩, trivial⟩
    ·rintro _ _ _ _ ⟨rfl, hw⟩; refine ⟨_, _, _, hw, ?_⟩; refine Vf (Vc (Va (rd_mvL rfl) rfl (Va (rd_asL rfl) rfl (Vd (Xa ?_))))); obtain rfl := Zb hF; refine fnR (Weak.trans (Xs (E' := [(4, .vs 1 (Yy (Yz .i64) o8))]) (loc1 := [⟨3, 1, [], 0 + 1⟩]) rfl 0 rfl (Yg (fun _ => .int _ _)) ⟨cv_sl rfl rfl rfl (Yi rfl), trivial⟩ ⟨.refl _, trivial⟩) ?_); exact Vn rfl [] (by decide) ⟨Vj rfl (.vs _ _), trivial⟩ trivial
 ·rintro _ _ _ _ ⟨he, hw⟩; refine ⟨_, _, _, hw, ?_⟩; exact Xy he [.vs 1 (Yy (Yz .i64) r)] ⟨rfl, trivial⟩ (.vs _ _) ⟨rfl, rfl⟩

theorem F_ref18_Live_ok {p0 : T_Feeder} {p1 : Int} {r : Int} (hF : F_ref18_Live p0 p1 = some r) (low : List AObj) :
    Ym Try.prog 26 [.agg (zA p0), .int .i64 p1] low fun x low' => x = .int .i64 r ∧ low' = low := by
 refine Xd (nt := 47) (rs := [.tmp 4]) Try.func26 rfl rfl (Zc rfl) rfl (Vt (Q' := FnE (fun E' lw lc => Xj E' lw lc [(4, .int .i64 r)] low [])) ?_ ?_)
 ·unfold F_ref18_Live at hF; refine Vf (Vc (Vi (Yx rfl rfl (v := .agg (zA p0)) rfl rfl (Zd _) rfl rfl) rfl (Va (Vz rfl) rfl (Vd (Vf (Vf ?_)))))); obtain ⟨o1, ho1, hF⟩ := Xv hF; refine Vt (Q' := (fun o1 => OnlyE .normal (fun E' lw lc => Xj E' lw lc [(1, .int .i64 p1), (2, .ptr (low.length + 0) 0 0 0), (21, .bool o1)] low [(zB p0 0)])) o1) ?_ ?_
  ·replace hF := ho1; refine Vc ?_; obtain ⟨x2, h3, hF⟩ := Xv hF
   rcases Ze (decide (x2 ≠ 0)) with c4 | c4
   ·have hF := Xm c4 hF; refine Va (Vp (ds := (zA p0)) rfl (Vh rfl rfl) rfl ta_28 ts_28 rfl rfl rfl) rfl (Vi (Vk rfl Try.call14 (F_ref18_Check_ok h3 _)) rfl (Va (Yl rfl rfl) rfl (Va (Vl rfl) rfl (Vb rfl rfl (Yh c4) rfl (Vb rfl rfl (Yh c4) rfl (Va (Vs (congrArg Za c4) rfl) rfl (Va (Vl rfl) rfl (Vb rfl rfl (by decide) rfl ?_)))))))); refine Vb rfl rfl (by decide) rfl (Vb rfl rfl (by decide) rfl (Vb rfl rfl (by decide) rfl (Vb rfl rfl (by decide) rfl (Va (Vs rfl rfl) rfl (Vd ?_))))); obtain rfl := Zb hF; refine Vv ?_; exact Vr ⟨rfl, rfl, rfl, trivial⟩
   ·have hF := Xn c4 hF
    rcases Ze (decide (p1 < 0)) with c5 | c5
    ·have hF := Xm c5 hF; refine Va (Vp (ds := (zA p0)) rfl (Vh rfl rfl) rfl ta_28 ts_28 rfl rfl rfl) rfl (Vi (Vk rfl Try.call14 (F_ref18_Check_ok h3 _)) rfl (Va (Yl rfl rfl) rfl (Va (Vl rfl) rfl (Xf rfl rfl c4 (Va (Vo rfl) rfl (Xf rfl rfl c4 (Va (Xo rfl rfl) rfl (Va (Vq (congrArg Za c4) rfl) rfl ?_)))))))); refine Va (Vl rfl) rfl (Vb rfl rfl (Yh c5) rfl (Vb rfl rfl (Yh c5) rfl (Vb rfl rfl (Yh c5) rfl (Vb rfl rfl (Yh c5) rfl (Vb rfl rfl (Yh c5) rfl (Va (Vs (congrArg Za c5) rfl) rfl (Vd ?_))))))); obtain rfl := Zb hF; refine Vv ?_; exact Vr ⟨rfl, rfl, rfl, trivial⟩
    ·have hF := Xn c5 hF; refine Va (Vp (ds := (zA p0)) rfl (Vh rfl rfl) rfl ta_28 ts_28 rfl rfl rfl) rfl (Vi (Vk rfl Try.call14 (F_ref18_Check_ok h3 _)) rfl (Va (Yl rfl rfl) rfl (Va (Vl rfl) rfl (Xf rfl rfl c4 (Va (Vo rfl) rfl (Xf rfl rfl c4 (Va (Xo rfl rfl) rfl (Va (Vq (congrArg Za c4) rfl) rfl ?_)))))))); refine Va (Vl rfl) rfl (Xf rfl rfl c5 (Va (Vo rfl) rfl (Xf rfl rfl c5 (Va (Ve rfl tf_28_1 ts_26 (by decide)) rfl (Xf rfl rfl c5 (Va (Vm rfl (Vh rfl rfl) rfl ta_26 rfl) rfl (Xf rfl rfl c5 (Va (Xw (Yb rfl rfl te_26) (congrArg (fun n : Nat => Yz .i64 (n : Int)) (Zf _))) rfl ?_)))))))); refine Xf rfl rfl c5 (Va (rd_geq rfl rfl) rfl (Va (Vq (congrArg Za c5) rfl) rfl (Vd ?_))); obtain rfl := Zb hF; refine Vv ?_; exact Vr ⟨rfl, rfl, rfl, trivial⟩
  ·rintro _ _ _ _ ⟨rfl, hw⟩; refine ⟨_, _, _, hw, ?_⟩; refine Vw rfl (fun c6 => ?_) (fun c6 => ?_)
   ·have hF := Xm c6 hF; refine Vf (Vc (Va (Vz rfl) rfl (Vd (Xa ?_)))); obtain rfl := Zb hF; refine fnR ?_; exact Vn rfl [] (by decide) ⟨Vj rfl (.int _ _), trivial⟩ trivial
   ·have hF := Xn c6 hF; refine Vy (Vf (Vc (Va (Vz rfl) rfl (Vd (Vf ?_))))); obtain ⟨x7, h8, hF⟩ := Xv hF; obtain ⟨x9, h10, hF⟩ := Xv hF; refine Xt [[], [], [1], [], [1, 2, 3], [1, 2, 3, 4], [0, 1, 2, 3, 4, 5], (List.range 7)] mixed (by kernel_rfl) rfl (Xk rfl rfl (Vp (ds := (zA p0)) rfl (Vh rfl rfl) rfl ta_28 ts_28 rfl rfl rfl) (Xk rfl rfl (Ve rfl tf_28_1 ts_26 (by decide)) (Xk rfl rfl (Vm rfl (Vh rfl rfl) rfl ta_26 rfl) (Xk rfl rfl (Vo rfl) (Xk rfl rfl (Xw (rd_ixV rfl rfl h8 te_26 ts_3) (v' := .vptr [.int .i64 x7] 0) rfl) (Xk rfl rfl (Yr rfl ta_3 rfl) (dn1 rfl rfl (Xp (Vk rfl Try.call25 (F_ref18_Path_ok h10 _))) (Xk rfl rfl (rd_asV rfl) ?_)))))))); refine Xz (Vf (Vf (Vc (Va (Vz rfl) rfl (Vd (Xi ?_)))))); obtain ⟨o12, ho12, hF⟩ := Xv hF; refine Vt (Yn (F_ref18_Live_L1 p0 x9) (fun s11 E' lw lc => Xj E' lw lc [(2, .ptr (low.length + 0) 0 0 0), (5, .int .i64 s11.1), (6, .vs 1 (Yy (Yz .i64) x9)), (7, .int .i64 s11.2)] low [(zB p0 0)]) (fun o12 => OnlyE (.exit 0) (fun E' lw lc => Xj E' lw lc [(5, .int .i64 o12)] low [])) ho12 ?_ (by rintro _ _ _ _ ⟨h, _⟩ <;> cases h) ?_) ?_
    ·exact Vr ⟨rfl, rfl, rfl, rfl, trivial⟩
    ·rintro s11 os11 _ _ _ hF hw; unfold F_ref18_Live_L1 at hF; refine Yq hw (Vf (Vf (Vc (Va (Vo rfl) rfl (Va (rd_mvV rfl) rfl (Va (Xw (Yb rfl rfl te_26) (congrArg (fun n : Nat => Yz .i64 (n : Int)) (Zf _))) rfl (Va (Xo rfl rfl) rfl (Vd ?_)))))))); refine Vw rfl (fun c13 => ?_) (fun c13 => ?_)
     ·have hF := Xm c13 hF; refine Vy (Vf (Xi ?_)); obtain ⟨x14, h15, hF⟩ := Xv hF; obtain ⟨x16, h17, hF⟩ := Xv hF; refine Xt [[], [], [1], [], [], [3, 4], [3, 4, 5], [1, 2, 3, 4, 5, 6], [1, 2, 3, 4, 5, 6, 7], [1, 2, 3, 4, 5, 6, 7, 8], (List.range 10), (List.range 11)] mixed (by kernel_rfl) rfl (Xk rfl rfl (Vo rfl) (Xk rfl rfl (Ve rfl tf_28_0 ts_25 (by decide)) (Xk rfl rfl (Vm rfl (Vh rfl rfl) rfl ta_25 rfl) (Xk rfl rfl (rd_mvV rfl) (Xk rfl rfl (Vo rfl) (Xk rfl rfl (Xw (rd_ixV rfl rfl h15 te_26 ts_3) (v' := .vptr [.int .i64 x14] 0) rfl) (Xk rfl rfl (Yr rfl ta_3 rfl) (Xk rfl rfl (Xw (rd_ixV rfl rfl h17 te_25 ts_36) (v' := .vptr (zC x16) 0) rfl) ?_)))))))); refine Xk rfl rfl (rd_fieldVaddr rfl tf_36_2 ts_3 (by decide)) (Xk rfl rfl (Yr rfl ta_3 rfl) (Xk rfl rfl (rd_min rfl rfl) (Xk rfl rfl (Vz rfl) (Xz (Vc (Va (Vo rfl) rfl (Va (Yv rfl rfl rfl) rfl (Va (Vz rfl) rfl ?_)))))))); refine Vd ?_; obtain rfl := Zb hF; refine Vv ?_; exact Vr ⟨rfl, rfl, rfl, rfl, trivial⟩
     ·have hF := Xn c13 hF; refine Ys ?_; obtain rfl := Zb hF; refine Vv ?_; exact Vn rfl [] (by decide) ⟨Vj rfl (.int _ _), trivial⟩ trivial
    ·rintro _ _ _ _ ⟨rfl, hw⟩; refine ⟨_, _, _, hw, ?_⟩; refine Vf (Vc (Va (Vo rfl) rfl (Va (Vz rfl) rfl (Vd (Xa ?_))))); obtain rfl := Zb hF; refine fnR ?_; exact Vr ⟨rfl, trivial⟩
 ·rintro _ _ _ _ ⟨he, hw⟩; refine ⟨_, _, _, hw, ?_⟩; exact Xy he [.int .i64 r] ⟨rfl, trivial⟩ (.int _ _) ⟨rfl, rfl⟩

theorem F_ref18_Due_ok {p0 : T_Feeder} {r : Int} (hF : F_ref18_Due p0 = some r) (low : List AObj) :
    Ym Try.prog 28 [.agg (zA p0)] low fun x low' => x = .int .i64 r ∧ low' = low := by
 refine Xd (nt := 42) (rs := [.tmp 2]) Try.func28 rfl rfl (Zc rfl) rfl (Vt (Q' := FnE (fun E' lw lc => Xj E' lw lc [(2, .int .i64 r)] low [])) ?_ ?_)
 ·unfold F_ref18_Due at hF; refine Vf (Vc (Vi (Yx rfl rfl (v := .agg (zA p0)) rfl rfl (Zd _) rfl rfl) rfl (Va (Vz rfl) rfl (Vd (Vf (Vc (Va (Vz rfl) rfl (Vd ?_)))))))); refine Vf (Vf (Vc ?_)); obtain ⟨x1, h2, hF⟩ := Xv hF; refine Va (Vp (ds := (zA p0)) rfl (Vh rfl rfl) rfl ta_28 ts_28 rfl rfl rfl) rfl (Vi (Vk rfl Try.call14 (F_ref18_Check_ok h2 _)) rfl (Va (Yl rfl rfl) rfl (Vd (Vw rfl (fun c3 => ?_) (fun c3 => ?_)))))
  ·have hF := Xm c3 hF; refine Vf (Vc (Va (Vz rfl) rfl (Vd (Xa ?_)))); obtain rfl := Zb hF; refine fnR ?_; exact Vn rfl [] (by decide) ⟨Vj rfl (.int _ _), trivial⟩ trivial
  ·have hF := Xn c3 hF; refine Vy (Vf (Vf (Vc (Va (Vz rfl) rfl (Vd (Xi ?_)))))); obtain ⟨o5, ho5, hF⟩ := Xv hF; refine Vt (Yn (F_ref18_Due_L1 p0) (fun s4 E' lw lc => Xj E' lw lc [(1, .ptr (low.length + 0) 0 0 0), (3, .int .i64 s4.1), (4, .int .i64 s4.2)] low [(zB p0 0)]) (fun o5 => OnlyE (.exit 0) (fun E' lw lc => Xj E' lw lc [(3, .int .i64 o5)] low [])) ho5 ?_ (by rintro _ _ _ _ ⟨h, _⟩ <;> cases h) ?_) ?_
   ·exact Vr ⟨rfl, rfl, rfl, trivial⟩
   ·rintro s4 os4 _ _ _ hF hw; unfold F_ref18_Due_L1 at hF; refine Yq hw (Vf (Vf (Vc (Va (Vo rfl) rfl (Va (Ve rfl tf_28_0 ts_25 (by decide)) rfl (Va (Vm rfl (Vh rfl rfl) rfl ta_25 rfl) rfl (Va (Xw (Yb rfl rfl te_25) (congrArg (fun n : Nat => Yz .i64 (n : Int)) (Zf _))) rfl (Va (Xo rfl rfl) rfl ?_)))))))); refine Vd (Vw rfl (fun c6 => ?_) (fun c6 => ?_))
    ·have hF := Xm c6 hF; refine Vy (Vf ?_); obtain ⟨o7, ho7, hF⟩ := Xv hF; refine Vt (Q' := (fun o7 => OnlyE .normal (fun E' lw lc => Xj E' lw lc [(1, .ptr (low.length + 0) 0 0 0), (3, .int .i64 o7), (4, .int .i64 s4.2)] low [(zB p0 0)])) o7) ?_ ?_
     ·replace hF := ho7; refine Xi (Vf (Vc ?_)); obtain ⟨x8, h9, hF⟩ := Xv hF; refine Va (Ve rfl tf_28_0 ts_25 (by decide)) rfl (Va (Vm rfl (Vh rfl rfl) rfl ta_25 rfl) rfl (Va (Vo rfl) rfl (Va (Xw (rd_ixV rfl rfl h9 te_25 ts_36) (v' := .vptr (zC x8) 0) rfl) rfl (Va (rd_loadVN (ds := (zC x8)) rfl ta_36 ts_36 rfl rfl) rfl (Vi (Yf rfl rfl tz_36 rfl rfl (Zd _) rfl) rfl (Vi (Xq (p := .agg (zC x8)) (e' := .agg (zC x8)) rfl (Vh rfl rfl) rfl rfl ts_36 rfl (Yp rfl) rfl (Zc rfl) rfl (Xu rfl rfl)) rfl (Vd (Vf ?_)))))))); obtain ⟨o10, ho10, hF⟩ := Xv hF; refine Vt (Q' := (fun o10 => OnlyE .normal (fun E' lw lc => Xj E' lw lc [(1, .ptr (low.length + 0) 0 0 0), (3, .int .i64 s4.1), (4, .int .i64 s4.2), (5, .ptr (low.length + 1) 0 0 0), (33, .bool o10)] low [(zB p0 0), ⟨36, 5, [.agg (zC x8)], 0⟩])) o10) ?_ ?_
      ·replace hF := ho10; refine Vc ?_
       rcases Ze (!x8.Closed) with c11 | c11
       ·have hF := Xm c11 hF
        rcases Ze (decide (x8.Shown ≠ (-1))) with c12 | c12
        ·have hF := Xm c12 hF; refine Va (Ve rfl tf_36_3 ts_4 (by decide)) rfl (Va (Vm rfl (Vh rfl rfl) rfl ta_4 rfl) rfl (Va (Yw rfl) rfl (Va (Vl rfl) rfl (Xf rfl rfl c11 (Va (Ve rfl tf_36_2 ts_3 (by decide)) rfl (Xf rfl rfl c11 (Va (Vm rfl (Vh rfl rfl) rfl ta_3 rfl) rfl (Xf rfl rfl c11 ?_)))))))); refine Va (Yl rfl rfl) rfl (Va (Vs (congrArg Za c11) rfl) rfl (Va (Vl rfl) rfl (Xf rfl rfl c12 (Va (Ve rfl tf_36_4 ts_4 (by decide)) rfl (Xf rfl rfl c12 (Va (Vm rfl (Vh rfl rfl) rfl ta_4 rfl) rfl (Xf rfl rfl c12 (Va (Yw rfl) rfl ?_)))))))); refine Va (Vs (congrArg Za c12) rfl) rfl (Vd ?_); obtain rfl := Zb hF; refine Vv ?_; exact Vr ⟨rfl, rfl, rfl, rfl, rfl, trivial⟩
        ·have hF := Xn c12 hF; refine Va (Ve rfl tf_36_3 ts_4 (by decide)) rfl (Va (Vm rfl (Vh rfl rfl) rfl ta_4 rfl) rfl (Va (Yw rfl) rfl (Va (Vl rfl) rfl (Xf rfl rfl c11 (Va (Ve rfl tf_36_2 ts_3 (by decide)) rfl (Xf rfl rfl c11 (Va (Vm rfl (Vh rfl rfl) rfl ta_3 rfl) rfl (Xf rfl rfl c11 ?_)))))))); refine Va (Yl rfl rfl) rfl (Va (Vs (congrArg Za c11) rfl) rfl (Va (Vl rfl) rfl (Vb rfl rfl (neF c12) rfl (Vb rfl rfl (neF c12) rfl (Vb rfl rfl (neF c12) rfl (Va (Vq (congrArg Za c12) rfl) rfl (Vd ?_))))))); obtain rfl := Zb hF; refine Vv ?_; exact Vr ⟨rfl, rfl, rfl, rfl, rfl, trivial⟩
       ·have hF := Xn c11 hF; refine Va (Ve rfl tf_36_3 ts_4 (by decide)) rfl (Va (Vm rfl (Vh rfl rfl) rfl ta_4 rfl) rfl (Va (Yw rfl) rfl (Va (Vl rfl) rfl (Vb rfl rfl (neF c11) rfl (Vb rfl rfl (neF c11) rfl (Vb rfl rfl (neF c11) rfl (Va (Vq (congrArg Za c11) rfl) rfl (Va (Vl rfl) rfl ?_)))))))); refine Vb rfl rfl (by decide) rfl (Vb rfl rfl (by decide) rfl (Vb rfl rfl (by decide) rfl (Va (Vq rfl rfl) rfl (Vd ?_)))); obtain rfl := Zb hF; refine Vv ?_; exact Vr ⟨rfl, rfl, rfl, rfl, rfl, trivial⟩
      ·rintro _ _ _ _ ⟨rfl, hw⟩; refine ⟨_, _, _, hw, ?_⟩; refine Vw rfl (fun c13 => ?_) (fun c13 => ?_)
       ·have hF := Xm c13 hF; refine Vc (Va (Vo rfl) rfl (Va (Ve rfl tf_36_1 ts_3 (by decide)) rfl (Va (Vm rfl (Vh rfl rfl) rfl ta_3 rfl) rfl (Va (Ve rfl tf_28_2 ts_3 (by decide)) rfl (Va (Vm rfl (Vh rfl rfl) rfl ta_3 rfl) rfl (Va (Yv rfl rfl rfl) rfl (Va (rd_min rfl rfl) rfl (Va (Vz rfl) rfl ?_)))))))); refine Vd ?_; obtain rfl := Zb hF; refine Vv ?_; exact Vn rfl [(0, 0)] (by decide) ⟨Xe 0 0 rfl rfl, Vj rfl (.int _ _), Vj rfl (.int _ _), trivial⟩ ⟨⟨_, rfl, rfl, .same _ _ _ _ (Xc ⟨Xh ⟨.vs _ _, .vs _ _, .int _ _, trivial⟩, trivial⟩)⟩, trivial⟩
       ·have hF := Xn c13 hF; refine Vy ?_; obtain rfl := Zb hF; refine Vv ?_; exact Vn rfl [(0, 0)] (by decide) ⟨Xe 0 0 rfl rfl, Vj rfl (.int _ _), Vj rfl (.int _ _), trivial⟩ ⟨⟨_, rfl, rfl, .same _ _ _ _ (Xc ⟨Xh ⟨.vs _ _, .vs _ _, .int _ _, trivial⟩, trivial⟩)⟩, trivial⟩
     ·rintro _ _ _ _ ⟨rfl, hw⟩; refine ⟨_, _, _, hw, ?_⟩; refine Vc (Va (Vo rfl) rfl (Va (Yv rfl rfl rfl) rfl (Va (Vz rfl) rfl (Vd ?_)))); obtain rfl := Zb hF; refine Vv ?_; exact Vr ⟨rfl, rfl, rfl, trivial⟩
    ·have hF := Xn c6 hF; refine Ys ?_; obtain rfl := Zb hF; refine Vv ?_; exact Vn rfl [] (by decide) ⟨Vj rfl (.int _ _), trivial⟩ trivial
   ·rintro _ _ _ _ ⟨rfl, hw⟩; refine ⟨_, _, _, hw, ?_⟩; refine Vf (Vc (Va (Vo rfl) rfl (Va (Vz rfl) rfl (Vd (Xa ?_))))); obtain rfl := Zb hF; refine fnR ?_; exact Vr ⟨rfl, trivial⟩
 ·rintro _ _ _ _ ⟨he, hw⟩; refine ⟨_, _, _, hw, ?_⟩; exact Xy he [.int .i64 r] ⟨rfl, trivial⟩ (.int _ _) ⟨rfl, rfl⟩

theorem F_feeder_Failed_ok {p0 : T_Feeder} {r : List Int} (hF : F_feeder_Failed p0 = some r) (low : List AObj) :
    Ym Try.prog 29 [.agg (zA p0)] low fun x low' => x = .vs 1 (Yy (Yz .i64) r) ∧ low' = low := by
 refine Xd (nt := 30) (rs := [.tmp 2]) Try.func29 rfl rfl (Zc rfl) rfl (Vt (Q' := FnE (fun E' lw lc => Xj E' lw lc [(2, .vs 1 (Yy (Yz .i64) r))] low [])) ?_ ?_)
 ·unfold F_feeder_Failed at hF; refine Vf (Vc (Vi (Yx rfl rfl (v := .agg (zA p0)) rfl rfl (Zd _) rfl rfl) rfl (Va (rd_nv (sz := 1) (rd_asN rfl)) rfl (Vd (Vf (Vf (Vc ?_))))))); obtain ⟨x1, h2, hF⟩ := Xv hF; refine Va (Vp (ds := (zA p0)) rfl (Vh rfl rfl) rfl ta_28 ts_28 rfl rfl rfl) rfl (Vi (Vk rfl Try.call22 (F_feeder_Check_ok h2 _)) rfl (Va (Yl rfl rfl) rfl (Vd (Vw rfl (fun c3 => ?_) (fun c3 => ?_)))))
  ·have hF := Xm c3 hF; refine Vf (Vc (Va (rd_nv (sz := 1) (rd_asN rfl)) rfl (Vd (Xa ?_)))); obtain rfl := Zb hF; refine fnR ?_; exact Vn rfl [] (by decide) ⟨Vj rfl (.vs _ _), trivial⟩ trivial
  ·have hF := Xn c3 hF; refine Vy (Vf (Vc (Vi (vef_nilsN rfl rfl 3 1 (Zd _) (rd_asN rfl)) rfl (Vd (Vf (Vf (Vc (Va (Ve rfl tf_28_0 ts_25 (by decide)) rfl ?_)))))))); refine Va (Vm rfl (Vh rfl rfl) rfl ta_25 rfl) rfl (Va (Xw (Yb rfl rfl te_25) (congrArg (fun n : Nat => Yz .i64 (n : Int)) (Zf _))) rfl (Va (Vo rfl) rfl (Vd (Xi ?_)))); obtain ⟨o5, ho5, hF⟩ := Xv hF; refine Vt (Yn (F_feeder_Failed_L1 p0) (fun s4 E' lw lc => Xj E' lw lc [(3, .sl (low.length + 0) 0 0 (s4.2).length), (10, .vs 5 (Yy T_Switch.enc p0.Switches)), (11, .int .i64 ((p0.Switches).length : Int)), (12, .int .i64 s4.1)] low [⟨3, 1, Yy (Yz .i64) s4.2, 0⟩]) (fun o5 => OnlyE (.exit 0) (fun E' lw lc => Xj E' lw lc [(3, .sl (low.length + 0) 0 0 (o5).length)] low [⟨3, 1, Yy (Yz .i64) o5, 0⟩])) ho5 ?_ (by rintro _ _ _ _ ⟨h, _⟩ <;> cases h) ?_) ?_
   ·exact Vn rfl [(1, 0)] (by decide) ⟨Yd 0 1 rfl rfl, Vj rfl (.vs _ _), Vj rfl (.int _ _), Vj rfl (.int _ _), trivial⟩ ⟨⟨_, rfl, rfl, .same _ _ _ _ (Xc trivial)⟩, trivial⟩
   ·rintro s4 os4 _ _ _ hF hw; unfold F_feeder_Failed_L1 at hF; refine Yq hw (Vf (Vc (Va (Xo rfl rfl) rfl (Vd (Vf (Vw rfl (fun c6 => ?_) (fun c6 => ?_)))))))
    ·have hF := Xm c6 hF; refine Vy (Vf ?_); obtain ⟨o7, ho7, hF⟩ := Xv hF; refine Vt (Q' := (fun o7 => OnlyE .normal (fun E' lw lc => Xj E' lw lc [(3, .sl (low.length + 0) 0 0 (o7).length), (10, .vs 5 (Yy T_Switch.enc p0.Switches)), (11, .int .i64 ((p0.Switches).length : Int)), (12, .int .i64 s4.1)] low [⟨3, 1, Yy (Yz .i64) o7, 0⟩])) o7) ?_ ?_
     ·replace hF := ho7; refine Xi (Vf (Vc ?_)); obtain ⟨x8, h9, hF⟩ := Xv hF; refine Va (Vo rfl) rfl (Va (Xw (rd_ixV rfl rfl h9 te_25 ts_36) (v' := .vptr (zC x8) 0) rfl) rfl (Va (rd_loadVN (ds := (zC x8)) rfl ta_36 ts_36 rfl rfl) rfl (Vi (Yf rfl rfl tz_36 rfl rfl (Zd _) rfl) rfl (Va (Vz rfl) rfl (Vi (Xq (p := .agg (zC x8)) (e' := .agg (zC x8)) rfl (Vh rfl rfl) rfl rfl ts_36 rfl (Yp rfl) rfl (Zc rfl) rfl (Xu rfl rfl)) rfl (Vd (Vf ?_))))))); obtain ⟨o10, ho10, hF⟩ := Xv hF; refine Vt (Q' := (fun o10 => OnlyE .normal (fun E' lw lc => Xj E' lw lc [(3, .sl (low.length + 0) 0 0 (s4.2).length), (4, .int .i64 s4.1), (10, .vs 5 (Yy T_Switch.enc p0.Switches)), (11, .int .i64 ((p0.Switches).length : Int)), (12, .int .i64 s4.1), (23, .bool o10)] low [⟨3, 1, Yy (Yz .i64) s4.2, 0⟩])) o10) ?_ ?_
      ·replace hF := ho10; refine Vc ?_
       rcases Ze (decide (x8.Above < 0)) with c11 | c11
       ·have hF := Xm c11 hF; refine Va (Ve rfl tf_36_0 ts_3 (by decide)) rfl (Va (Vm rfl (Vh rfl rfl) rfl ta_3 rfl) rfl (Va (Xo rfl rfl) rfl (Va (Vl rfl) rfl (Xf rfl rfl c11 (Va (Ve rfl tf_36_4 ts_4 (by decide)) rfl (Xf rfl rfl c11 (Va (Vm rfl (Vh rfl rfl) rfl ta_4 rfl) rfl (Va (Vs (congrArg Za c11) rfl) rfl ?_)))))))); refine Vd ?_; obtain rfl := Zb hF; refine Vv ?_; exact Vn rfl [(0, 0)] (by decide) ⟨Yd 0 0 rfl rfl, Vj rfl (.int _ _), Vj rfl (.vs _ _), Vj rfl (.int _ _), Vj rfl (.int _ _), Vj rfl (.bool _), trivial⟩ ⟨⟨_, rfl, rfl, .same _ _ _ _ (Vx (fun _ => .int _ _))⟩, trivial⟩
       ·have hF := Xn c11 hF; refine Va (Ve rfl tf_36_0 ts_3 (by decide)) rfl (Va (Vm rfl (Vh rfl rfl) rfl ta_3 rfl) rfl (Va (Xo rfl rfl) rfl (Va (Vl rfl) rfl (Vb rfl rfl (neF c11) rfl (Vb rfl rfl (neF c11) rfl (Va (Vq (congrArg Za c11) rfl) rfl (Vd ?_))))))); obtain rfl := Zb hF; refine Vv ?_; exact Vn rfl [(0, 0)] (by decide) ⟨Yd 0 0 rfl rfl, Vj rfl (.int _ _), Vj rfl (.vs _ _), Vj rfl (.int _ _), Vj rfl (.int _ _), Vj rfl (.bool _), trivial⟩ ⟨⟨_, rfl, rfl, .same _ _ _ _ (Vx (fun _ => .int _ _))⟩, trivial⟩
      ·rintro _ _ _ _ ⟨rfl, hw⟩; refine ⟨_, _, _, hw, ?_⟩; refine Vw rfl (fun c12 => ?_) (fun c12 => ?_)
       ·have hF := Xm c12 hF; refine Vc ?_; obtain ⟨x13, h14, hF⟩ := Xv hF; refine Va (rd_mvL rfl) rfl (Va (Vo rfl) rfl (Vi (Yt (es := Yy (Yz .i64) [s4.1]) ⟨rfl, rfl, trivial⟩ rfl rfl (nt_all rfl) te_26 ts_3 tz_3 rfl rfl (Zd _) (by decide) (Yg (fun _ => .int _ _))) rfl (Vi (vef_apL (f := (Yz .i64)) (l := s4.2) (ys := [s4.1]) rfl rfl (Vh rfl rfl) rfl (src_vs rfl) te_26 ts_3 tb_3 (by decide) tz_3 rfl h14 (Xu rfl rfl)) rfl (Va (rd_asL rfl) rfl (Vd ?_))))); obtain rfl := Zb hF; refine Vv ?_; exact Vn rfl [(0, 0 + 1)] (by decide) ⟨Yd 0 0 rfl rfl, Vj rfl (.vs _ _), Vj rfl (.int _ _), Vj rfl (.int _ _), trivial⟩ ⟨⟨_, rfl, rfl, .same _ _ _ _ (Vx (fun _ => .int _ _))⟩, trivial⟩
       ·have hF := Xn c12 hF; refine Vy ?_; obtain rfl := Zb hF; refine Vv ?_; exact Vr ⟨rfl, rfl, rfl, rfl, trivial⟩
     ·rintro _ _ _ _ ⟨rfl, hw⟩; refine ⟨_, _, _, hw, ?_⟩; refine Vc (Va (Yv rfl rfl rfl) rfl (Va (Vo rfl) rfl (Vd ?_))); obtain rfl := Zb hF; refine Vv ?_; exact Vr ⟨rfl, rfl, rfl, rfl, trivial⟩
    ·have hF := Xn c6 hF; refine Ys ?_; obtain rfl := Zb hF; refine Vv ?_; exact Vr ⟨rfl, trivial⟩
   ·rintro _ _ _ _ ⟨rfl, hw⟩; refine ⟨_, _, _, hw, ?_⟩; refine Vf (Vc (Va (rd_mvL rfl) rfl (Va (rd_asL rfl) rfl (Vd (Xa ?_))))); obtain rfl := Zb hF; refine fnR (Weak.trans (Xs (E' := [(2, .vs 1 (Yy (Yz .i64) o5))]) (loc1 := [⟨3, 1, [], 0 + 1⟩]) rfl 0 rfl (Yg (fun _ => .int _ _)) ⟨cv_sl rfl rfl rfl (Yi rfl), trivial⟩ ⟨.refl _, trivial⟩) ?_); exact Vn rfl [] (by decide) ⟨Vj rfl (.vs _ _), trivial⟩ trivial
 ·rintro _ _ _ _ ⟨he, hw⟩; refine ⟨_, _, _, hw, ?_⟩; exact Xy he [.vs 1 (Yy (Yz .i64) r)] ⟨rfl, trivial⟩ (.vs _ _) ⟨rfl, rfl⟩

theorem F_ref18_Failed_ok {p0 : T_Feeder} {r : List Int} (hF : F_ref18_Failed p0 = some r) (low : List AObj) :
    Ym Try.prog 30 [.agg (zA p0)] low fun x low' => x = .vs 1 (Yy (Yz .i64) r) ∧ low' = low := by
 refine Xd (nt := 35) (rs := [.tmp 2]) Try.func30 rfl rfl (Zc rfl) rfl (Vt (Q' := FnE (fun E' lw lc => Xj E' lw lc [(2, .vs 1 (Yy (Yz .i64) r))] low [])) ?_ ?_)
 ·unfold F_ref18_Failed at hF; refine Vf (Vc (Vi (Yx rfl rfl (v := .agg (zA p0)) rfl rfl (Zd _) rfl rfl) rfl (Va (rd_nv (sz := 1) (rd_asN rfl)) rfl (Vd (Vf (Vf (Vc ?_))))))); obtain ⟨x1, h2, hF⟩ := Xv hF; refine Va (Vp (ds := (zA p0)) rfl (Vh rfl rfl) rfl ta_28 ts_28 rfl rfl rfl) rfl (Vi (Vk rfl Try.call14 (F_ref18_Check_ok h2 _)) rfl (Va (Yl rfl rfl) rfl (Vd (Vw rfl (fun c3 => ?_) (fun c3 => ?_)))))
  ·have hF := Xm c3 hF; refine Vf (Vc (Va (rd_nv (sz := 1) (rd_asN rfl)) rfl (Vd (Xa ?_)))); obtain rfl := Zb hF; refine fnR ?_; exact Vn rfl [] (by decide) ⟨Vj rfl (.vs _ _), trivial⟩ trivial
  ·have hF := Xn c3 hF; refine Vy (Vf (Vc (Vi (vef_nilsN rfl rfl 3 1 (Zd _) (rd_asN rfl)) rfl (Vd (Vf (Vf (Vc (Va (Vz rfl) rfl ?_)))))))); refine Vd (Xi ?_); obtain ⟨o5, ho5, hF⟩ := Xv hF; refine Vt (Yn (F_ref18_Failed_L1 p0) (fun s4 E' lw lc => Xj E' lw lc [(1, .ptr (low.length + 0) 0 0 0), (3, .sl (low.length + 1) 0 0 (s4.2).length), (4, .int .i64 s4.1)] low [(zB p0 0), ⟨3, 1, Yy (Yz .i64) s4.2, 0⟩]) (fun o5 => OnlyE (.exit 0) (fun E' lw lc => Xj E' lw lc [(3, .sl (low.length + 0) 0 0 (o5).length)] low [⟨3, 1, Yy (Yz .i64) o5, 0⟩])) ho5 ?_ (by rintro _ _ _ _ ⟨h, _⟩ <;> cases h) ?_) ?_
   ·exact Vr ⟨rfl, rfl, rfl, trivial⟩
   ·rintro s4 os4 _ _ _ hF hw; unfold F_ref18_Failed_L1 at hF; refine Yq hw (Vf (Vf (Vc (Va (Vo rfl) rfl (Va (Ve rfl tf_28_0 ts_25 (by decide)) rfl (Va (Vm rfl (Vh rfl rfl) rfl ta_25 rfl) rfl (Va (Xw (Yb rfl rfl te_25) (congrArg (fun n : Nat => Yz .i64 (n : Int)) (Zf _))) rfl (Va (Xo rfl rfl) rfl ?_)))))))); refine Vd (Vw rfl (fun c6 => ?_) (fun c6 => ?_))
    ·have hF := Xm c6 hF; refine Vy (Vf ?_); obtain ⟨o7, ho7, hF⟩ := Xv hF; refine Vt (Q' := (fun o7 => OnlyE .normal (fun E' lw lc => Xj E' lw lc [(1, .ptr (low.length + 0) 0 0 0), (3, .sl (low.length + 1) 0 0 (o7).length), (4, .int .i64 s4.1)] low [(zB p0 0), ⟨3, 1, Yy (Yz .i64) o7, 0⟩])) o7) ?_ ?_
     ·replace hF := ho7; refine Xi (Vf ?_); obtain ⟨o8, ho8, hF⟩ := Xv hF; refine Vt (Q' := (fun o8 => OnlyE .normal (fun E' lw lc => Xj E' lw lc [(1, .ptr (low.length + 0) 0 0 0), (3, .sl (low.length + 1) 0 0 (s4.2).length), (4, .int .i64 s4.1), (29, .bool o8)] low [(zB p0 0), ⟨3, 1, Yy (Yz .i64) s4.2, 0⟩])) o8) ?_ ?_
      ·replace hF := ho8; refine Vc ?_; obtain ⟨x9, h10, hF⟩ := Xv hF
       rcases Ze (decide (x9.Above = (-1))) with c11 | c11
       ·have hF := Xm c11 hF; obtain ⟨x12, h13, hF⟩ := Xv hF; refine Va (Ve rfl tf_28_0 ts_25 (by decide)) rfl (Va (Vm rfl (Vh rfl rfl) rfl ta_25 rfl) rfl (Va (Vo rfl) rfl (Va (Xw (rd_ixV rfl rfl h10 te_25 ts_36) (v' := .vptr (zC x9) 0) rfl) rfl (Va (rd_fieldVaddr rfl tf_36_0 ts_3 (by decide)) rfl (Va (Yr rfl ta_3 rfl) rfl (Va (Xl rfl rfl) rfl (Va (Vl rfl) rfl (Xf rfl rfl c11 ?_)))))))); refine Va (Ve rfl tf_28_0 ts_25 (by decide)) rfl (Xf rfl rfl c11 (Va (Vm rfl (Vh rfl rfl) rfl ta_25 rfl) rfl (Xf rfl rfl c11 (Va (Vo rfl) rfl (Xf rfl rfl c11 (Va (Xw (rd_ixV rfl rfl h13 te_25 ts_36) (v' := .vptr (zC x12) 0) rfl) rfl (Xf rfl rfl c11 (Va (rd_fieldVaddr rfl tf_36_4 ts_4 (by decide)) rfl ?_)))))))); refine Xf rfl rfl c11 (Va (Yr rfl ta_4 rfl) rfl (Va (Vs (congrArg Za c11) rfl) rfl (Vd ?_))); obtain rfl := Zb hF; refine Vv ?_; exact Vr ⟨rfl, rfl, rfl, rfl, trivial⟩
       ·have hF := Xn c11 hF; refine Va (Ve rfl tf_28_0 ts_25 (by decide)) rfl (Va (Vm rfl (Vh rfl rfl) rfl ta_25 rfl) rfl (Va (Vo rfl) rfl (Va (Xw (rd_ixV rfl rfl h10 te_25 ts_36) (v' := .vptr (zC x9) 0) rfl) rfl (Va (rd_fieldVaddr rfl tf_36_0 ts_3 (by decide)) rfl (Va (Yr rfl ta_3 rfl) rfl (Va (Xl rfl rfl) rfl (Va (Vl rfl) rfl (Vb rfl rfl (neF c11) rfl ?_)))))))); refine Vb rfl rfl (neF c11) rfl (Vb rfl rfl (neF c11) rfl (Vb rfl rfl (neF c11) rfl (Vb rfl rfl (neF c11) rfl (Vb rfl rfl (neF c11) rfl (Va (Vq (congrArg Za c11) rfl) rfl (Vd ?_)))))); obtain rfl := Zb hF; refine Vv ?_; exact Vr ⟨rfl, rfl, rfl, rfl, trivial⟩
      ·rintro _ _ _ _ ⟨rfl, hw⟩; refine ⟨_, _, _, hw, ?_⟩; refine Vw rfl (fun c14 => ?_) (fun c14 => ?_)
       ·have hF := Xm c14 hF; refine Vc ?_; obtain ⟨x15, h16, hF⟩ := Xv hF; refine Va (rd_mvL rfl) rfl (Va (Vo rfl) rfl (Vi (Yt (es := Yy (Yz .i64) [s4.1]) ⟨rfl, rfl, trivial⟩ rfl rfl (nt_all rfl) te_26 ts_3 tz_3 rfl rfl (Zd _) (by decide) (Yg (fun _ => .int _ _))) rfl (Vi (vef_apL (f := (Yz .i64)) (l := s4.2) (ys := [s4.1]) rfl rfl (Vh rfl rfl) rfl (src_vs rfl) te_26 ts_3 tb_3 (by decide) tz_3 rfl h16 (Xu rfl rfl)) rfl (Va (rd_asL rfl) rfl (Vd ?_))))); obtain rfl := Zb hF; refine Vv ?_; exact Vn rfl [(0, 0), (1, 0 + 1)] (by decide) ⟨Xe 0 0 rfl rfl, Yd 1 1 rfl rfl, Vj rfl (.int _ _), trivial⟩ ⟨⟨_, rfl, rfl, .same _ _ _ _ (Xc ⟨Xh ⟨.vs _ _, .vs _ _, .int _ _, trivial⟩, trivial⟩)⟩, ⟨_, rfl, rfl, .same _ _ _ _ (Vx (fun _ => .int _ _))⟩, trivial⟩
       ·have hF := Xn c14 hF; refine Vy ?_; obtain rfl := Zb hF; refine Vv ?_; exact Vr ⟨rfl, rfl, rfl, trivial⟩
     ·rintro _ _ _ _ ⟨rfl, hw⟩; refine ⟨_, _, _, hw, ?_⟩; refine Vc (Va (Vo rfl) rfl (Va (Yv rfl rfl rfl) rfl (Va (Vz rfl) rfl (Vd ?_)))); obtain rfl := Zb hF; refine Vv ?_; exact Vr ⟨rfl, rfl, rfl, trivial⟩
    ·have hF := Xn c6 hF; refine Ys ?_; obtain rfl := Zb hF; refine Vv ?_; exact Vn rfl [(1, 0)] (by decide) ⟨Yd 0 1 rfl rfl, trivial⟩ ⟨⟨_, rfl, rfl, .same _ _ _ _ (Vx (fun _ => .int _ _))⟩, trivial⟩
   ·rintro _ _ _ _ ⟨rfl, hw⟩; refine ⟨_, _, _, hw, ?_⟩; refine Vf (Vc (Va (rd_mvL rfl) rfl (Va (rd_asL rfl) rfl (Vd (Xa ?_))))); obtain rfl := Zb hF; refine fnR (Weak.trans (Xs (E' := [(2, .vs 1 (Yy (Yz .i64) o5))]) (loc1 := [⟨3, 1, [], 0 + 1⟩]) rfl 0 rfl (Yg (fun _ => .int _ _)) ⟨cv_sl rfl rfl rfl (Yi rfl), trivial⟩ ⟨.refl _, trivial⟩) ?_); exact Vn rfl [] (by decide) ⟨Vj rfl (.vs _ _), trivial⟩ trivial
 ·rintro _ _ _ _ ⟨he, hw⟩; refine ⟨_, _, _, hw, ?_⟩; exact Xy he [.vs 1 (Yy (Yz .i64) r)] ⟨rfl, trivial⟩ (.vs _ _) ⟨rfl, rfl⟩

end Go.Proofs.Ytecbhhmfeldepaa
