/- Printed by wip/lift/lift.py: the walks that show that the program computes them. -/
import Derived.Test.YtmomjhbinkmefaaL39BeltsMadeW3
namespace Go.Proofs.Ytmomjhbinkmefaa
open Go Go.Aml Go.L
attribute [local irreducible] VRd VEf VOp VOps VWp DOps
set_option linter.unusedVariables false
open Go.Aml renaming vops_rd → Va, vops_skip → Vb, rd_fieldAddr → Vc, vwp_region → Vd, getO_N → Ve, vops_nil → Vf, rd_load1 → Vg, ltObj_map → Vh, vwp_seq → Vi, vops_efE → Vj, rd_mvI → Vk, cv_same → Vl, rd_mvB → Vm, rd_pickF → Vn, rd_pickT → Vo, weak_sub → Vp, dops_skip → Vq, rn_low → Vr, lenS → Vs, weak_pick → Vt, vef_into → Vu, rd_loadN → Vv, vwp_monoW → Vw, full_take → Vx, vef_store → Vy, vcalls_of_body → Vz, rd_asI → Xa, vwp_ret → Xb, rd_mvV → Xc, vt1 → Xd, vef_allocN → Xe, VRd → Xf, vef_callN → Xg, vwp_cond → Xh, len_app → Xi, rd_loadV1 → Xj, rd_to → Xk, rd_eql → Xl, weak_freezeN → Xm, vwp_skip → Xn, len_setL → Xo, vef_callP → Xp, rn_sl → Xq, setO_N → Xr, rx1 → Xs, ltObj_es → Xt, rd_extract → Xu, rd_lenV → Xv, lt_agg → Xw, all1 → Xx, onlyE → Xy, rd_asB → Xz, lt_map → Ya, Weak → Yb, dopx_rd → Yc, vwp_weak → Yd, nt_ne → Ye, rd_fieldVaddr → Yf, dops_skipX → Yg, vwp_block → Yh, dops_rdW → Yi, rn_ptr → Yj, mv_sl → Yk, rd_ixV → Yl, dr1 → Ym, vef_mkN → Yn, bifT → Yo, bifF → Yp, sets_own → Yq, cvo_agg → Yr, VCalls → Ys, bnd → Yt, allx1 → Yu, ne_low' → Yv, getO_B → Yw, ne_own → Yx, weak_room → Yy, dops_nil → Yz, view_same → Za, getI_some → Zb, vef_boxN → Zc, bodyQ_pure → Zd, rd_neq → Ze, dopx_ef → Zf, vef_callS → Zg, dops_ef → Zh, view_sl → Zi, cv_sl → Zj, vwp_drawn0 → Zk, sets_nil → Zl, bodyQ_some → Zm, all0 → Zn, neT → Zo, rd_not → Zp, rd_mvP → Zq, rd_lss → Zr, na1 → Zs, get_N → Zt, dt1 → Zu, rd_nilPtr → Zv, lt_kk → Zw, vcalls_low → Zx, ex1 → Zy, neF → Zz, rd_ixS → Wa, vwp_loopC → Wb, vwp_drawn → Wc, sets_B → Wd, bor_start → We, borC → Wf, fnR → Wg, rd_build → Wh, vwp_exit → Wi, mv_ptr → Wj, rd_add → Wk, vef_stL → Wl, lp_some → Wm, lp_bindE → Wn, nt_all2 → Wo, get_B → Wp
open List renaming map → Wq
open Go.Aml.PV renaming int → Wr
open Go.Aml.PV renaming bool → Ws
open Option.some renaming inj → Wt
open Nat renaming le_of_ble_eq_true → Wu
open Nat renaming succ_pos → Wv
open Bool renaming eq_false_or_eq_true → Ww
open List renaming length_map → Wx
set_option maxHeartbeats 4000000

theorem F_ref39_Pull_ok {p0 : List T_Belt} {p1 : T_Line} {p2 : Int} {r : T_Line × Int} (hF : F_ref39_Pull p0 p1 p2 = some r) (low : List AObj) {n : Nat} (hn : low.length = n) :
    Ys Try.prog 48 [.vs 2 (Wq T_Belt.enc p0), .agg [.int .i64 p1.Time, .vs 1 (Wq (Wr .i64) p1.States), .vs 1 (Wq (Wr .i64) p1.Since), .vs 1 (Wq Ws p1.Pulled), .vs 1 (Wq Ws p1.Held)], .int .i64 p2] low fun x low' => x = .tup [.agg [.int .i64 r.1.Time, .sl (n + 0) 0 0 (r.1.States).length, .sl (n + 1) 0 0 (r.1.Since).length, .sl (n + 2) 0 0 (r.1.Pulled).length, .vs 1 (Wq Ws r.1.Held)], .int .i64 r.2] ∧ low' = low ++ [⟨3, 1, Wq (Wr .i64) r.1.States, 0⟩, ⟨3, 1, Wq (Wr .i64) r.1.Since, 0⟩, ⟨4, 1, Wq Ws r.1.Pulled, 0⟩] := by
 refine Vz (nt := 27) (rs := [.cell 6 34, .tmp 7]) Try.func48 rfl rfl (Wu rfl) rfl ?_
 refine Vw (Q' := FnE (fun E' lw lc => Yb E' lw lc [(6, .ptr (n + 3) 0 0 0), (7, .int .i64 r.2)] low [⟨3, 1, Wq (Wr .i64) r.1.States, 0⟩, ⟨3, 1, Wq (Wr .i64) r.1.Since, 0⟩, ⟨4, 1, Wq Ws r.1.Pulled, 0⟩, ⟨34, 5, [.agg [.int .i64 r.1.Time, .sl (n + 0) 0 0 (r.1.States).length, .sl (n + 1) 0 0 (r.1.Since).length, .sl (n + 2) 0 0 (r.1.Pulled).length, .vs 1 (Wq Ws r.1.Held)]], 0⟩])) ?_ ?_
 ·unfold F_ref39_Pull at hF
  refine Vi ?_
  refine Vd ?_
  refine Vj (Zc hn rfl (v := .agg [.int .i64 p1.Time, .vs 1 (Wq (Wr .i64) p1.States), .vs 1 (Wq (Wr .i64) p1.Since), .vs 1 (Wq Ws p1.Pulled), .vs 1 (Wq Ws p1.Held)]) rfl rfl (Wv _) rfl rfl) rfl ?_
  refine Vj (Xe hn rfl tz_34 rfl rfl (Wv _) rfl) rfl ?_
  refine Va (Xa rfl) rfl ?_
  refine Vf ?_
  refine Vi ?_
  refine Vi ?_
  refine Vd ?_
  obtain ⟨x1, h2, hF⟩ := Yt hF
  refine Va (Xc rfl) rfl ?_
  refine Va (Vv (ds := [.int .i64 p1.Time, .vs 1 (Wq (Wr .i64) p1.States), .vs 1 (Wq (Wr .i64) p1.Since), .vs 1 (Wq Ws p1.Pulled), .vs 1 (Wq Ws p1.Held)]) rfl (Ve hn rfl) rfl ta_34 ts_34 rfl rfl rfl) rfl ?_
  refine Va (Vk rfl) rfl ?_
  refine Vj (Xp rfl Try.call57 (F_ref39_check_ok h2 _)) rfl ?_
  refine Va (Xa rfl) rfl ?_
  refine Vf ?_
  refine Vi ?_
  refine Vd ?_
  refine Va (Vk rfl) rfl ?_
  refine Va (Ze rfl rfl) rfl ?_
  refine Vf ?_
  refine Xh rfl (fun c3 => ?_) (fun c3 => ?_)
  ·have hF := Yo c3 hF
   refine Vi ?_
   refine Vd ?_
   obtain ⟨x4, h5, hF⟩ := Yt hF
   refine Va (Vv (ds := [.int .i64 p1.Time, .vs 1 (Wq (Wr .i64) p1.States), .vs 1 (Wq (Wr .i64) p1.Since), .vs 1 (Wq Ws p1.Pulled), .vs 1 (Wq Ws p1.Held)]) rfl (Ve hn rfl) rfl ta_34 ts_34 rfl rfl rfl) rfl ?_
   refine Vj (Xg (r := .agg [.int .i64 x4.Time, .sl (n + 2) 0 0 (x4.States).length, .sl (n + 3) 0 0 (x4.Since).length, .sl (n + 4) 0 0 (x4.Pulled).length, .sl (n + 5) 0 0 (x4.Held).length]) (os := [⟨3, 1, Wq (Wr .i64) x4.States, 0⟩, ⟨3, 1, Wq (Wr .i64) x4.Since, 0⟩, ⟨4, 1, Wq Ws x4.Pulled, 0⟩, ⟨4, 1, Wq Ws x4.Held, 0⟩]) rfl Try.call23 (F_ref39_Copy_ok h5 _ (Xi hn rfl))) rfl ?_
   refine Va (Vk rfl) rfl ?_
   refine Vj (Vy (p := .agg [.int .i64 x4.Time, .sl (n + 2) 0 0 (x4.States).length, .sl (n + 3) 0 0 (x4.Since).length, .sl (n + 4) 0 0 (x4.Pulled).length, .sl (n + 5) 0 0 (x4.Held).length]) (e' := .agg [.int .i64 x4.Time, .sl (n + 2) 0 0 (x4.States).length, .sl (n + 3) 0 0 (x4.Since).length, .sl (n + 4) 0 0 (x4.Pulled).length, .sl (n + 5) 0 0 (x4.Held).length]) rfl (Ve hn rfl) rfl rfl ts_34 rfl (Ye rfl) rfl (Wu rfl) rfl (Xr hn rfl)) rfl ?_
   refine Va (Xa rfl) rfl ?_
   refine Vf ?_
   refine Xb ?_
   obtain rfl := Wt hF
   refine Wg ?_
   refine Weak.trans (Xm (E' := [(6, .ptr (n + 1) 0 0 0), (7, .int .i64 x1)]) (loc1 := [⟨34, 5, [.agg [.int .i64 p1.Time, .vs 1 (Wq (Wr .i64) p1.States), .vs 1 (Wq (Wr .i64) p1.Since), .vs 1 (Wq Ws p1.Pulled), .vs 1 (Wq Ws p1.Held)]], 0⟩, ⟨34, 5, [.agg [.int .i64 x4.Time, .sl (n + 2) 0 0 (x4.States).length, .sl (n + 3) 0 0 (x4.Since).length, .sl (n + 4) 0 0 (x4.Pulled).length, .vs 1 (Wq Ws x4.Held)]], 0⟩, ⟨3, 1, Wq (Wr .i64) x4.States, 0⟩, ⟨3, 1, Wq (Wr .i64) x4.Since, 0⟩, ⟨4, 1, Wq Ws x4.Pulled, 0⟩, ⟨4, 1, [], 0 + 1⟩]) hn 5 rfl (Ya (fun _ => .bool _)) ⟨Vl rfl, Vl rfl, trivial⟩ ⟨.refl _, Yr ⟨Vl rfl, Vl rfl, Vl rfl, Vl rfl, Zj rfl rfl rfl (Vx rfl), trivial⟩, .refl _, .refl _, .refl _, .refl _, trivial⟩) ?_
   exact Vt hn [(2, 0), (3, 0), (4, 0), (1, 0)] (by decide) ⟨Yj 3 1 rfl rfl, Vr rfl (.int _ _), trivial⟩ ⟨⟨_, rfl, rfl, .same _ _ _ _ (Vh (fun _ => .int _ _))⟩, ⟨_, rfl, rfl, .same _ _ _ _ (Vh (fun _ => .int _ _))⟩, ⟨_, rfl, rfl, .same _ _ _ _ (Vh (fun _ => .bool _))⟩, ⟨_, rfl, rfl, .agg _ _ _ _ _ ⟨Vr rfl (.int _ _), Xq 0 2 rfl rfl, Xq 1 3 rfl rfl, Xq 2 4 rfl rfl, Vr rfl (.vs _ _), trivial⟩⟩, trivial⟩
  ·have hF := Yp c3 hF
   refine Xn ?_
   refine Vi ?_
   refine Vd ?_
   obtain ⟨x6, h7, hF⟩ := Yt hF
   refine Va (Xc rfl) rfl ?_
   refine Va (Vv (ds := [.int .i64 p1.Time, .vs 1 (Wq (Wr .i64) p1.States), .vs 1 (Wq (Wr .i64) p1.Since), .vs 1 (Wq Ws p1.Pulled), .vs 1 (Wq Ws p1.Held)]) rfl (Ve hn rfl) rfl ta_34 ts_34 rfl rfl rfl) rfl ?_
   refine Va (Vk rfl) rfl ?_
   refine Vj (Xg (r := .agg [.int .i64 x6.Time, .sl (n + 2) 0 0 (x6.States).length, .sl (n + 3) 0 0 (x6.Since).length, .sl (n + 4) 0 0 (x6.Pulled).length, .sl (n + 5) 0 0 (x6.Held).length]) (os := [⟨3, 1, Wq (Wr .i64) x6.States, 0⟩, ⟨3, 1, Wq (Wr .i64) x6.Since, 0⟩, ⟨4, 1, Wq Ws x6.Pulled, 0⟩, ⟨4, 1, Wq Ws x6.Held, 0⟩]) rfl Try.call58 (F_ref39_stop_ok h7 _ (Xi hn rfl))) rfl ?_
   refine Vj (Vy (p := .agg [.int .i64 x6.Time, .sl (n + 2) 0 0 (x6.States).length, .sl (n + 3) 0 0 (x6.Since).length, .sl (n + 4) 0 0 (x6.Pulled).length, .sl (n + 5) 0 0 (x6.Held).length]) (e' := .agg [.int .i64 x6.Time, .sl (n + 2) 0 0 (x6.States).length, .sl (n + 3) 0 0 (x6.Since).length, .sl (n + 4) 0 0 (x6.Pulled).length, .sl (n + 5) 0 0 (x6.Held).length]) rfl (Ve hn rfl) rfl rfl ts_34 rfl (Ye rfl) rfl (Wu rfl) rfl (Xr hn rfl)) rfl ?_
   refine Vf ?_
   refine Vi ?_
   refine Vd ?_
   obtain ⟨x8, h9, hF⟩ := Yt hF
   refine Va (Vc rfl tf_34_3 ts_32 (by decide)) rfl ?_
   refine Va (Vg rfl (Ve hn rfl) rfl ta_32 rfl) rfl ?_
   refine Va (Vk rfl) rfl ?_
   refine Va (Wa rfl rfl rfl (Ve hn rfl) h9 te_32 ts_4) rfl ?_
   refine Vj (Wl (p := .bool true) (e' := true) rfl (Ve hn rfl) (Zb h9).2 rfl ts_4 rfl (Ye rfl) (Wu rfl) rfl (Xr hn rfl)) rfl ?_
   refine Vf ?_
   refine Vi ?_
   refine Vd ?_
   refine Va (Vv (ds := [.int .i64 x6.Time, .sl (n + 2) 0 0 (x6.States).length, .sl (n + 3) 0 0 (x6.Since).length, .sl (n + 4) 0 0 (x6.Pulled).length, .sl (n + 5) 0 0 (x6.Held).length]) rfl (Ve hn rfl) rfl ta_34 ts_34 rfl rfl rfl) rfl ?_
   refine Vj (Vy (p := .agg [.int .i64 x6.Time, .sl (n + 2) 0 0 (x6.States).length, .sl (n + 3) 0 0 (x6.Since).length, .sl (n + 4) 0 0 (x6.Pulled).length, .sl (n + 5) 0 0 (x6.Held).length]) (e' := .agg [.int .i64 x6.Time, .sl (n + 2) 0 0 (x6.States).length, .sl (n + 3) 0 0 (x6.Since).length, .sl (n + 4) 0 0 (x6.Pulled).length, .sl (n + 5) 0 0 (x6.Held).length]) rfl (Ve hn rfl) rfl rfl ts_34 rfl (Ye rfl) rfl (Wu rfl) rfl (Xr hn rfl)) rfl ?_
   refine Va (Xa rfl) rfl ?_
   refine Vf ?_
   refine Xb ?_
   obtain rfl := Wt hF
   refine Wg ?_
   refine Weak.trans (Xm (E' := [(6, .ptr (n + 1) 0 0 0), (7, .int .i64 0)]) (loc1 := [⟨34, 5, [.agg [.int .i64 x6.Time, .sl (n + 2) 0 0 (x6.States).length, .sl (n + 3) 0 0 (x6.Since).length, .sl (n + 4) 0 0 (x6.Pulled).length, .vs 1 (Wq Ws x6.Held)]], 0⟩, ⟨34, 5, [.agg [.int .i64 x6.Time, .sl (n + 2) 0 0 (x6.States).length, .sl (n + 3) 0 0 (x6.Since).length, .sl (n + 4) 0 0 (x6.Pulled).length, .vs 1 (Wq Ws x6.Held)]], 0⟩, ⟨3, 1, Wq (Wr .i64) x6.States, 0⟩, ⟨3, 1, Wq (Wr .i64) x6.Since, 0⟩, ⟨4, 1, Wq Ws (x6.Pulled.set ((p2).toNat) true), 0⟩, ⟨4, 1, [], 0 + 1⟩]) hn 5 rfl (Ya (fun _ => .bool _)) ⟨Vl rfl, Vl rfl, trivial⟩ ⟨Yr ⟨Vl rfl, Vl rfl, Vl rfl, Vl rfl, Zj rfl rfl rfl (Vx rfl), trivial⟩, Yr ⟨Vl rfl, Vl rfl, Vl rfl, Vl rfl, Zj rfl rfl rfl (Vx rfl), trivial⟩, .refl _, .refl _, .refl _, .refl _, trivial⟩) ?_
   exact Vt hn [(2, 0), (3, 0), (4, 0), (1, 0)] (by decide) ⟨Yj 3 1 rfl rfl, Vr rfl (.int _ _), trivial⟩ ⟨⟨_, rfl, rfl, .same _ _ _ _ (Vh (fun _ => .int _ _))⟩, ⟨_, rfl, rfl, .same _ _ _ _ (Vh (fun _ => .int _ _))⟩, ⟨_, rfl, rfl, .same _ _ _ _ (Vh (fun _ => .bool _))⟩, ⟨_, rfl, rfl, .agg _ _ _ _ _ ⟨Vr rfl (.int _ _), Xq 0 2 rfl rfl, Xq 1 3 rfl rfl, Xq 2 4 rfl (congrArg (PV.sl _ _ 0) (Eq.trans rfl List.length_set.symm)), Vr rfl (.vs _ _), trivial⟩⟩, trivial⟩
 ·rintro _ _ _ _ ⟨he, hw⟩
  refine ⟨_, _, _, hw, ?_⟩
  exact Zm hn 3 rfl (Wu rfl) he [.agg [.int .i64 r.1.Time, .sl (n + 0) 0 0 (r.1.States).length, .sl (n + 1) 0 0 (r.1.Since).length, .sl (n + 2) 0 0 (r.1.Pulled).length, .vs 1 (Wq Ws r.1.Held)], .int .i64 r.2] ⟨Vv rfl (Ve hn rfl) rfl ta_34 ts_34 rfl rfl rfl, rfl, trivial⟩ ((lt_tup ⟨(Xw ⟨.int _ _, .sl _ _ _ _ (Zw rfl), .sl _ _ _ _ (Zw rfl), .sl _ _ _ _ (Zw rfl), .vs _ _, trivial⟩), .int _ _, trivial⟩)) ⟨Vh (fun _ => .int _ _), Vh (fun _ => .int _ _), Vh (fun _ => .bool _), trivial⟩ ⟨rfl, rfl⟩

theorem F_belts_Restore_1_ok0 {p0 : T_Line} {p1 : Int} {r : T_Line} (hF : F_belts_Restore_1 p0 p1 = some r) {low0 : List AObj} {q0 q1 q2 q3 q4 q5 w0 w1 w2 w3 w4 w5 : Nat} (hB : Bor low0 [q0, q1, q2, q3, q4, q5]) {m1 : Nat} (hm1 : m1 = (p0.States).length) {m2 : Nat} (hm2 : m2 = (p0.Since).length) {m3 : Nat} (hm3 : m3 = (p0.Pulled).length) {m4 : Nat} (hm4 : m4 = (p0.Held).length) {n : Nat} (hn : low0.length = n) :
    Ys Try.prog 52 [.ptr q0 w0 0 0, .ptr q5 w5 0 0] (setL low0 [(q0, ⟨34, 5, [.agg [.int .i64 p0.Time, .sl q1 w1 0 m1, .sl q2 w2 0 m2, .sl q3 w3 0 m3, .sl q4 w4 0 m4]], w0⟩), (q1, ⟨3, 1, Wq (Wr .i64) p0.States, w1⟩), (q2, ⟨3, 1, Wq (Wr .i64) p0.Since, w2⟩), (q3, ⟨4, 1, Wq Ws p0.Pulled, w3⟩), (q4, ⟨4, 1, Wq Ws p0.Held, w4⟩), (q5, ⟨3, 1, [.int .i64 p1], w5⟩)]) fun x low' => x = .tup [] ∧ low' = setL low0 [(q0, ⟨34, 5, [.agg [.int .i64 r.Time, .sl q1 w1 0 m1, .sl q2 w2 0 m2, .sl q3 w3 0 m3, .sl q4 w4 0 m4]], w0⟩), (q1, ⟨3, 1, Wq (Wr .i64) r.States, w1⟩), (q2, ⟨3, 1, Wq (Wr .i64) r.Since, w2⟩), (q3, ⟨4, 1, Wq Ws r.Pulled, w3⟩), (q4, ⟨4, 1, Wq Ws r.Held, w4⟩), (q5, ⟨3, 1, [.int .i64 p1], w5⟩)] ++ [] := by
 refine Vz (nt := 9) (rs := []) Try.func52 rfl rfl (Wu rfl) rfl ?_
 have hq0 : q0 < n := hB.ltN hn 0 rfl
 have hq1 : q1 < n := hB.ltN hn 1 rfl
 have hq2 : q2 < n := hB.ltN hn 2 rfl
 have hq3 : q3 < n := hB.ltN hn 3 rfl
 have hq4 : q4 < n := hB.ltN hn 4 rfl
 have hq5 : q5 < n := hB.ltN hn 5 rfl
 refine Vw (Q' := FnE (fun E' lw lc => m1 = (r.States).length ∧ m2 = (r.Since).length ∧ m3 = (r.Pulled).length ∧ m4 = (r.Held).length ∧ Yb E' lw lc [] (setL low0 [(q0, ⟨34, 5, [.agg [.int .i64 r.Time, .sl q1 w1 0 m1, .sl q2 w2 0 m2, .sl q3 w3 0 m3, .sl q4 w4 0 m4]], w0⟩), (q1, ⟨3, 1, Wq (Wr .i64) r.States, w1⟩), (q2, ⟨3, 1, Wq (Wr .i64) r.Since, w2⟩), (q3, ⟨4, 1, Wq Ws r.Pulled, w3⟩), (q4, ⟨4, 1, Wq Ws r.Held, w4⟩), (q5, ⟨3, 1, [.int .i64 p1], w5⟩)]) [])) ?_ ?_
 ·unfold F_belts_Restore_1 at hF
  obtain ⟨x5, h6, hF⟩ := Yt hF
  refine Wc [[], [0], [0, 1], [0, 1, 2], [], [0, 1, 2, 3, 4], [0, 1, 2, 3, 4, 5]] [false, false, false, false, false, false, true] [((setL low0 [(q0, ⟨34, 5, [.agg [.int .i64 p0.Time, .sl q1 w1 0 m1, .sl q2 w2 0 m2, .sl q3 w3 0 m3, .sl q4 w4 0 m4]], w0⟩), (q1, ⟨3, 1, Wq (Wr .i64) p0.States, w1⟩), (q2, ⟨3, 1, Wq (Wr .i64) p0.Since, w2⟩), (q3, ⟨4, 1, Wq Ws p0.Pulled, w3⟩), (q4, ⟨4, 1, Wq Ws p0.Held, w4⟩), (q5, ⟨3, 1, [.int .i64 p1], w5⟩)]), []), ((setL low0 [(q0, ⟨34, 5, [.agg [.int .i64 p0.Time, .sl q1 w1 0 m1, .sl q2 w2 0 m2, .sl q3 w3 0 m3, .sl q4 w4 0 m4]], w0⟩), (q1, ⟨3, 1, Wq (Wr .i64) p0.States, w1⟩), (q2, ⟨3, 1, Wq (Wr .i64) p0.Since, w2⟩), (q3, ⟨4, 1, Wq Ws (p0.Pulled.set ((p1).toNat) false), w3⟩), (q4, ⟨4, 1, Wq Ws p0.Held, w4⟩), (q5, ⟨3, 1, [.int .i64 p1], w5⟩)]), [])] mixed (by kernel_rfl) rfl (lenAll (Xx Xo (Xx Xo Zn))) rfl _ rfl rfl ?_
  refine Ym rfl rfl (Zq rfl) ?_
  refine Ym rfl rfl (Zv rfl) ?_
  refine Ym rfl rfl (Vc rfl tf_34_3 ts_32 (by decide)) ?_
  refine Ym rfl rfl (Vg rfl (Yw hB rfl 0 rfl) rfl ta_32 rfl) ?_
  refine Ym rfl rfl (Vg rfl (Yw hB rfl 5 rfl) rfl ta_3 rfl) ?_
  refine Ym rfl rfl (Wa rfl hm3 rfl (Yw hB rfl 3 rfl) h6 te_32 ts_4) ?_
  refine Zh rfl rfl rfl (Wl (p := .bool false) (e' := false) rfl (Yw hB rfl 3 rfl) (Zb h6).2 rfl ts_4 rfl (Ye rfl) (Wu rfl) rfl (setO_B hB rfl 3 rfl (Vh (fun _ => .bool _)) rfl)) ?_
  refine Yz ?_
  obtain rfl := Wt hF
  refine And.intro (.inl rfl) (And.intro hm1 (And.intro hm2 (And.intro (Eq.trans hm3 List.length_set.symm) (And.intro hm4 ?_))))
  exact Vp trivial
 ·rintro _ _ _ _ ⟨he, hl1, hl2, hl3, hl4, hw⟩
  refine ⟨_, _, _, hw, ?_⟩
  exact Zd he [] trivial ((lt_tup trivial)) ⟨rfl, (List.append_nil _).symm⟩

theorem F_belts_Restore_1_len {p0 : T_Line} {p1 : Int} {r : T_Line} (hF : F_belts_Restore_1 p0 p1 = some r) {m1 : Nat} (hm1 : m1 = (p0.States).length) {m2 : Nat} (hm2 : m2 = (p0.Since).length) {m3 : Nat} (hm3 : m3 = (p0.Pulled).length) {m4 : Nat} (hm4 : m4 = (p0.Held).length) : m1 = (r.States).length ∧ m2 = (r.Since).length ∧ m3 = (r.Pulled).length ∧ m4 = (r.Held).length ∧ True := by
  have h : LP (F_belts_Restore_1 p0 p1) (fun r => m1 = (r.States).length ∧ m2 = (r.Since).length ∧ m3 = (r.Pulled).length ∧ m4 = (r.Held).length ∧ True) := by
    unfold F_belts_Restore_1
    exact (Wn fun x5 h6 => Wm ⟨hm1, hm2, (Eq.trans hm3 List.length_set.symm), hm4, trivial⟩)
  exact h r hF

theorem F_belts_Restore_1_ok {p0 : T_Line} {p1 : Int} {r : T_Line} (hF : F_belts_Restore_1 p0 p1 = some r) {low : List AObj} {q0 q1 q2 q3 q4 q5 w0 w1 w2 w3 w4 w5 : Nat} (hnd : [q0, q1, q2, q3, q4, q5].Nodup) {m1 : Nat} (hm1 : m1 = (p0.States).length) {m2 : Nat} (hm2 : m2 = (p0.Since).length) {m3 : Nat} (hm3 : m3 = (p0.Pulled).length) {m4 : Nat} (hm4 : m4 = (p0.Held).length) (hq0 : low[q0]? = some ⟨34, 5, [.agg [.int .i64 p0.Time, .sl q1 w1 0 m1, .sl q2 w2 0 m2, .sl q3 w3 0 m3, .sl q4 w4 0 m4]], w0⟩) (hq1 : low[q1]? = some ⟨3, 1, Wq (Wr .i64) p0.States, w1⟩) (hq2 : low[q2]? = some ⟨3, 1, Wq (Wr .i64) p0.Since, w2⟩) (hq3 : low[q3]? = some ⟨4, 1, Wq Ws p0.Pulled, w3⟩) (hq4 : low[q4]? = some ⟨4, 1, Wq Ws p0.Held, w4⟩) (hq5 : low[q5]? = some ⟨3, 1, [.int .i64 p1], w5⟩) {n : Nat} (hn : low.length = n) :
    Ys Try.prog 52 [.ptr q0 w0 0 0, .ptr q5 w5 0 0] low fun x low' => x = .tup [] ∧ low' = setL low [(q0, ⟨34, 5, [.agg [.int .i64 r.Time, .sl q1 w1 0 m1, .sl q2 w2 0 m2, .sl q3 w3 0 m3, .sl q4 w4 0 m4]], w0⟩), (q1, ⟨3, 1, Wq (Wr .i64) r.States, w1⟩), (q2, ⟨3, 1, Wq (Wr .i64) r.Since, w2⟩), (q3, ⟨4, 1, Wq Ws r.Pulled, w3⟩), (q4, ⟨4, 1, Wq Ws r.Held, w4⟩), (q5, ⟨3, 1, [.int .i64 p1], w5⟩)] ++ [] := by
  obtain ⟨h1, h2⟩ := We (ps := [(q0, ⟨34, 5, [.agg [.int .i64 p0.Time, .sl q1 w1 0 m1, .sl q2 w2 0 m2, .sl q3 w3 0 m3, .sl q4 w4 0 m4]], w0⟩), (q1, ⟨3, 1, Wq (Wr .i64) p0.States, w1⟩), (q2, ⟨3, 1, Wq (Wr .i64) p0.Since, w2⟩), (q3, ⟨4, 1, Wq Ws p0.Pulled, w3⟩), (q4, ⟨4, 1, Wq Ws p0.Held, w4⟩), (q5, ⟨3, 1, [.int .i64 p1], w5⟩)]) hnd (Wf hq0 (Wf hq1 (Wf hq2 (Wf hq3 (Wf hq4 (Wf hq5 bor0))))))
  exact Zx h1 (F_belts_Restore_1_ok0 hF h2 hm1 hm2 hm3 hm4 hn)

theorem F_belts_done__belts_Restore_1_ok0 {p0 : T_Line} {pc10 : Int} {r : T_Line} (hF : F_belts_done__belts_Restore_1 p0 pc10 = some r) {low0 : List AObj} {q0 w0 : Nat} (hB : Bor low0 [q0]) {n : Nat} (hn : low0.length = n) :
    Ys Try.prog 31 [.agg [.int .i64 p0.Time, .vs 1 (Wq (Wr .i64) p0.States), .vs 1 (Wq (Wr .i64) p0.Since), .vs 1 (Wq Ws p0.Pulled), .vs 1 (Wq Ws p0.Held)], .fn 52 [] [.ptr q0 w0 0 0]] (setL low0 [(q0, ⟨3, 1, [.int .i64 pc10], w0⟩)]) fun x low' => x = .agg [.int .i64 r.Time, .sl (n + 0) 0 0 (r.States).length, .sl (n + 1) 0 0 (r.Since).length, .sl (n + 2) 0 0 (r.Pulled).length, .vs 1 (Wq Ws r.Held)] ∧ low' = setL low0 [(q0, ⟨3, 1, [.int .i64 pc10], w0⟩)] ++ [⟨3, 1, Wq (Wr .i64) r.States, 0⟩, ⟨3, 1, Wq (Wr .i64) r.Since, 0⟩, ⟨4, 1, Wq Ws r.Pulled, 0⟩] := by
 refine Vz (nt := 24) (rs := [.cell 4 34]) Try.func31 rfl rfl (Wu rfl) rfl ?_
 have hq0 : q0 < n := hB.ltN hn 0 rfl
 refine Vw (Q' := FnE (fun E' lw lc => Yb E' lw lc [(4, .ptr (n + 3) 0 0 0)] (setL low0 [(q0, ⟨3, 1, [.int .i64 pc10], w0⟩)]) [⟨3, 1, Wq (Wr .i64) r.States, 0⟩, ⟨3, 1, Wq (Wr .i64) r.Since, 0⟩, ⟨4, 1, Wq Ws r.Pulled, 0⟩, ⟨34, 5, [.agg [.int .i64 r.Time, .sl (n + 0) 0 0 (r.States).length, .sl (n + 1) 0 0 (r.Since).length, .sl (n + 2) 0 0 (r.Pulled).length, .vs 1 (Wq Ws r.Held)]], 0⟩])) ?_ ?_
 ·unfold F_belts_done__belts_Restore_1 at hF
  refine Vi ?_
  refine Vd ?_
  refine Vj (Zc (Vs hn) rfl (v := .agg [.int .i64 p0.Time, .vs 1 (Wq (Wr .i64) p0.States), .vs 1 (Wq (Wr .i64) p0.Since), .vs 1 (Wq Ws p0.Pulled), .vs 1 (Wq Ws p0.Held)]) rfl rfl (Wv _) rfl rfl) rfl ?_
  refine Vj (Xe (Vs hn) rfl tz_34 rfl rfl (Wv _) rfl) rfl ?_
  refine Vf ?_
  refine Vi ?_
  obtain ⟨x1, h2, hF⟩ := Yt hF
  obtain ⟨x3, h4, hF⟩ := Yt hF
  obtain ⟨x5, h6, hF⟩ := Yt hF
  obtain ⟨x7, h8, hF⟩ := Yt hF
  refine Yd (Yy 3 1 (Wv _)) ?_
  refine Yd (Yy 3 1 (Wv _)) ?_
  refine Yd (Yy 4 1 (Wv _)) ?_
  refine Yd (Yy 4 1 (Wv _)) ?_
  refine Yd (Yy 34 5 (Wv _)) ?_
  refine vwp_drawnX [[], [0], [], [2], [2, 3], [], [5], [2, 3, 4, 5, 6], [], [8], [2, 3, 4, 5, 6, 7, 8, 9], [], [11], [2, 3, 4, 5, 6, 7, 8, 9, 10, 11, 12], [0, 1, 2, 3, 4, 5, 6, 7, 8, 9, 10, 11, 12, 13], [], [0, 1, 2, 3, 4, 5, 6, 7, 8, 9, 10, 11, 12, 13, 14, 15]] [false, false, false, false, true, false, false, true, false, false, true, false, false, true, false, true, true] [([], (setL low0 [(q0, ⟨3, 1, [.int .i64 pc10], w0⟩)]), [⟨34, 5, [.agg [.int .i64 p0.Time, .vs 1 (Wq (Wr .i64) p0.States), .vs 1 (Wq (Wr .i64) p0.Since), .vs 1 (Wq Ws p0.Pulled), .vs 1 (Wq Ws p0.Held)]], 0⟩, ⟨34, 5, [.agg [.int .i64 0, .nils, .nils, .nils, .nils]], 0⟩, ⟨3, 1, [], 0⟩, ⟨3, 1, [], 0⟩, ⟨4, 1, [], 0⟩, ⟨4, 1, [], 0⟩, ⟨34, 5, [], 0⟩]), ([4], (setL low0 [(q0, ⟨3, 1, [.int .i64 pc10], w0⟩)]), [⟨34, 5, [.agg [.int .i64 p0.Time, .vs 1 (Wq (Wr .i64) p0.States), .vs 1 (Wq (Wr .i64) p0.Since), .vs 1 (Wq Ws p0.Pulled), .vs 1 (Wq Ws p0.Held)]], 0⟩, ⟨34, 5, [.agg [.int .i64 0, .nils, .nils, .nils, .nils]], 0⟩, ⟨3, 1, Wq (Wr .i64) x1, 1⟩, ⟨3, 1, [], 0⟩, ⟨4, 1, [], 0⟩, ⟨4, 1, [], 0⟩, ⟨34, 5, [], 0⟩]), ([15], (setL low0 [(q0, ⟨3, 1, [.int .i64 pc10], w0⟩)]), [⟨34, 5, [.agg [.int .i64 p0.Time, .vs 1 (Wq (Wr .i64) p0.States), .vs 1 (Wq (Wr .i64) p0.Since), .vs 1 (Wq Ws p0.Pulled), .vs 1 (Wq Ws p0.Held)]], 0⟩, ⟨34, 5, [.agg [.int .i64 0, .nils, .nils, .nils, .nils]], 0⟩, ⟨3, 1, [], 0⟩, ⟨3, 1, [], 0⟩, ⟨4, 1, [], 0⟩, ⟨4, 1, [], 0⟩, ⟨34, 5, [.agg [.int .i64 0, .nils, .nils, .nils, .nils]], 1⟩]), ([4, 7], (setL low0 [(q0, ⟨3, 1, [.int .i64 pc10], w0⟩)]), [⟨34, 5, [.agg [.int .i64 p0.Time, .vs 1 (Wq (Wr .i64) p0.States), .vs 1 (Wq (Wr .i64) p0.Since), .vs 1 (Wq Ws p0.Pulled), .vs 1 (Wq Ws p0.Held)]], 0⟩, ⟨34, 5, [.agg [.int .i64 0, .nils, .nils, .nils, .nils]], 0⟩, ⟨3, 1, Wq (Wr .i64) x1, 1⟩, ⟨3, 1, Wq (Wr .i64) x3, 1⟩, ⟨4, 1, [], 0⟩, ⟨4, 1, [], 0⟩, ⟨34, 5, [], 0⟩]), ([4, 15], (setL low0 [(q0, ⟨3, 1, [.int .i64 pc10], w0⟩)]), [⟨34, 5, [.agg [.int .i64 p0.Time, .vs 1 (Wq (Wr .i64) p0.States), .vs 1 (Wq (Wr .i64) p0.Since), .vs 1 (Wq Ws p0.Pulled), .vs 1 (Wq Ws p0.Held)]], 0⟩, ⟨34, 5, [.agg [.int .i64 0, .nils, .nils, .nils, .nils]], 0⟩, ⟨3, 1, Wq (Wr .i64) x1, 1⟩, ⟨3, 1, [], 0⟩, ⟨4, 1, [], 0⟩, ⟨4, 1, [], 0⟩, ⟨34, 5, [.agg [.int .i64 0, .nils, .nils, .nils, .nils]], 1⟩]), ([4, 7, 10], (setL low0 [(q0, ⟨3, 1, [.int .i64 pc10], w0⟩)]), [⟨34, 5, [.agg [.int .i64 p0.Time, .vs 1 (Wq (Wr .i64) p0.States), .vs 1 (Wq (Wr .i64) p0.Since), .vs 1 (Wq Ws p0.Pulled), .vs 1 (Wq Ws p0.Held)]], 0⟩, ⟨34, 5, [.agg [.int .i64 0, .nils, .nils, .nils, .nils]], 0⟩, ⟨3, 1, Wq (Wr .i64) x1, 1⟩, ⟨3, 1, Wq (Wr .i64) x3, 1⟩, ⟨4, 1, Wq Ws x5, 1⟩, ⟨4, 1, [], 0⟩, ⟨34, 5, [], 0⟩]), ([4, 7, 15], (setL low0 [(q0, ⟨3, 1, [.int .i64 pc10], w0⟩)]), [⟨34, 5, [.agg [.int .i64 p0.Time, .vs 1 (Wq (Wr .i64) p0.States), .vs 1 (Wq (Wr .i64) p0.Since), .vs 1 (Wq Ws p0.Pulled), .vs 1 (Wq Ws p0.Held)]], 0⟩, ⟨34, 5, [.agg [.int .i64 0, .nils, .nils, .nils, .nils]], 0⟩, ⟨3, 1, Wq (Wr .i64) x1, 1⟩, ⟨3, 1, Wq (Wr .i64) x3, 1⟩, ⟨4, 1, [], 0⟩, ⟨4, 1, [], 0⟩, ⟨34, 5, [.agg [.int .i64 0, .nils, .nils, .nils, .nils]], 1⟩]), ([4, 7, 10, 13], (setL low0 [(q0, ⟨3, 1, [.int .i64 pc10], w0⟩)]), [⟨34, 5, [.agg [.int .i64 p0.Time, .vs 1 (Wq (Wr .i64) p0.States), .vs 1 (Wq (Wr .i64) p0.Since), .vs 1 (Wq Ws p0.Pulled), .vs 1 (Wq Ws p0.Held)]], 0⟩, ⟨34, 5, [.agg [.int .i64 0, .nils, .nils, .nils, .nils]], 0⟩, ⟨3, 1, Wq (Wr .i64) x1, 1⟩, ⟨3, 1, Wq (Wr .i64) x3, 1⟩, ⟨4, 1, Wq Ws x5, 1⟩, ⟨4, 1, Wq Ws x7, 1⟩, ⟨34, 5, [], 0⟩]), ([4, 7, 10, 15], (setL low0 [(q0, ⟨3, 1, [.int .i64 pc10], w0⟩)]), [⟨34, 5, [.agg [.int .i64 p0.Time, .vs 1 (Wq (Wr .i64) p0.States), .vs 1 (Wq (Wr .i64) p0.Since), .vs 1 (Wq Ws p0.Pulled), .vs 1 (Wq Ws p0.Held)]], 0⟩, ⟨34, 5, [.agg [.int .i64 0, .nils, .nils, .nils, .nils]], 0⟩, ⟨3, 1, Wq (Wr .i64) x1, 1⟩, ⟨3, 1, Wq (Wr .i64) x3, 1⟩, ⟨4, 1, Wq Ws x5, 1⟩, ⟨4, 1, [], 0⟩, ⟨34, 5, [.agg [.int .i64 0, .nils, .nils, .nils, .nils]], 1⟩]), ([4, 7, 10, 13, 15], (setL low0 [(q0, ⟨3, 1, [.int .i64 pc10], w0⟩)]), [⟨34, 5, [.agg [.int .i64 p0.Time, .vs 1 (Wq (Wr .i64) p0.States), .vs 1 (Wq (Wr .i64) p0.Since), .vs 1 (Wq Ws p0.Pulled), .vs 1 (Wq Ws p0.Held)]], 0⟩, ⟨34, 5, [.agg [.int .i64 0, .nils, .nils, .nils, .nils]], 0⟩, ⟨3, 1, Wq (Wr .i64) x1, 1⟩, ⟨3, 1, Wq (Wr .i64) x3, 1⟩, ⟨4, 1, Wq Ws x5, 1⟩, ⟨4, 1, Wq Ws x7, 1⟩, ⟨34, 5, [.agg [.int .i64 0, .nils, .nils, .nils, .nils]], 1⟩]), ([4, 7, 10, 13, 15, 16], (setL low0 [(q0, ⟨3, 1, [.int .i64 pc10], w0⟩)]), [⟨34, 5, [.agg [.int .i64 p0.Time, .vs 1 (Wq (Wr .i64) p0.States), .vs 1 (Wq (Wr .i64) p0.Since), .vs 1 (Wq Ws p0.Pulled), .vs 1 (Wq Ws p0.Held)]], 0⟩, ⟨34, 5, [.agg [.int .i64 0, .nils, .nils, .nils, .nils]], 0⟩, ⟨3, 1, Wq (Wr .i64) x1, 1⟩, ⟨3, 1, Wq (Wr .i64) x3, 1⟩, ⟨4, 1, Wq Ws x5, 1⟩, ⟨4, 1, Wq Ws x7, 1⟩, ⟨34, 5, [.agg [.int .i64 p0.Time, .sl (n + 2) 1 0 (x1).length, .sl (n + 3) 1 0 (x3).length, .sl (n + 4) 1 0 (x5).length, .sl (n + 5) 1 0 (x7).length]], 1⟩])] mixed (by kernel_rfl) rfl (lenAllX (Yu Xo (Yu Xo (Yu Xo (Yu Xo (Yu Xo (Yu Xo (Yu Xo (Yu Xo (Yu Xo (Yu Xo (Yu Xo allx0)))))))))))) rfl [4, 7, 10, 13, 15, 16] ((setL low0 [(q0, ⟨3, 1, [.int .i64 pc10], w0⟩)]), [⟨34, 5, [.agg [.int .i64 p0.Time, .vs 1 (Wq (Wr .i64) p0.States), .vs 1 (Wq (Wr .i64) p0.Since), .vs 1 (Wq Ws p0.Pulled), .vs 1 (Wq Ws p0.Held)]], 0⟩, ⟨34, 5, [.agg [.int .i64 0, .nils, .nils, .nils, .nils]], 0⟩, ⟨3, 1, Wq (Wr .i64) x1, 1⟩, ⟨3, 1, Wq (Wr .i64) x3, 1⟩, ⟨4, 1, Wq Ws x5, 1⟩, ⟨4, 1, Wq Ws x7, 1⟩, ⟨34, 5, [.agg [.int .i64 p0.Time, .sl (n + 2) 1 0 (x1).length, .sl (n + 3) 1 0 (x3).length, .sl (n + 4) 1 0 (x5).length, .sl (n + 5) 1 0 (x7).length]], 1⟩]) rfl rfl ?_
  refine Yc _ rfl rfl (Xs (VRd.ntl (Vc rfl tf_34_0 ts_3 (by decide))) (Xs (VRd.ntl (Vc rfl tf_34_0 ts_3 (by decide))) (Xs (VRd.ntl (Vc rfl tf_34_0 ts_3 (by decide))) (Xs (VRd.ntl (Vc rfl tf_34_0 ts_3 (by decide))) (Xs (VRd.ntl (Vc rfl tf_34_0 ts_3 (by decide))) (Xs (VRd.ntl (Vc rfl tf_34_0 ts_3 (by decide))) (Xs (VRd.ntl (Vc rfl tf_34_0 ts_3 (by decide))) (Xs (VRd.ntl (Vc rfl tf_34_0 ts_3 (by decide))) (Xs (VRd.ntl (Vc rfl tf_34_0 ts_3 (by decide))) (Xs (VRd.ntl (Vc rfl tf_34_0 ts_3 (by decide))) rx0)))))))))) ?_
  refine Yc _ rfl rfl (Xs (VRd.ntl (Vg rfl (Ve (Vs hn) rfl) rfl ta_3 rfl)) (Xs (VRd.ntl (Vg rfl (Ve (Vs hn) rfl) rfl ta_3 rfl)) (Xs (VRd.ntl (Vg rfl (Ve (Vs hn) rfl) rfl ta_3 rfl)) (Xs (VRd.ntl (Vg rfl (Ve (Vs hn) rfl) rfl ta_3 rfl)) (Xs (VRd.ntl (Vg rfl (Ve (Vs hn) rfl) rfl ta_3 rfl)) (Xs (VRd.ntl (Vg rfl (Ve (Vs hn) rfl) rfl ta_3 rfl)) (Xs (VRd.ntl (Vg rfl (Ve (Vs hn) rfl) rfl ta_3 rfl)) (Xs (VRd.ntl (Vg rfl (Ve (Vs hn) rfl) rfl ta_3 rfl)) (Xs (VRd.ntl (Vg rfl (Ve (Vs hn) rfl) rfl ta_3 rfl)) (Xs (VRd.ntl (Vg rfl (Ve (Vs hn) rfl) rfl ta_3 rfl)) rx0)))))))))) ?_
  refine Yc _ rfl rfl (Xs (VRd.ntl (Vc rfl tf_34_1 ts_22 (by decide))) (Xs (VRd.ntl (Vc rfl tf_34_1 ts_22 (by decide))) rx0)) ?_
  refine Yc _ rfl rfl (Xs (VRd.ntl (Vg rfl (Ve (Vs hn) rfl) rfl ta_22 rfl)) (Xs (VRd.ntl (Vg rfl (Ve (Vs hn) rfl) rfl ta_22 rfl)) rx0)) ?_
  refine Zf _ rfl rfl (Zy 1 rfl (Vu (f := 7) (k := 2) (m := 1) (os := [⟨3, 1, Wq (Wr .i64) x1, 0⟩]) (os' := [⟨3, 1, Wq (Wr .i64) x1, 1⟩]) (v := .sl (n + 7) 0 0 (x1).length) (Vs hn) rfl rfl ⟨⟨_, rfl, rfl⟩, trivial⟩ (Xg (r := .sl (n + 7) 0 0 (x1).length) (os := [⟨3, 1, Wq (Wr .i64) x1, 0⟩]) rfl Try.call54 (F_slices_Clone___int_int__ok h2 _ (Xi (Vs hn) rfl))) (Yk 0 rfl rfl rfl rfl) ⟨.same _ _ _ (Vh (fun _ => .int _ _)), trivial⟩ rfl) (Zy 4 rfl (Vu (f := 7) (k := 2) (m := 1) (os := [⟨3, 1, Wq (Wr .i64) x1, 0⟩]) (os' := [⟨3, 1, Wq (Wr .i64) x1, 1⟩]) (v := .sl (n + 7) 0 0 (x1).length) (Vs hn) rfl rfl ⟨⟨_, rfl, rfl⟩, trivial⟩ (Xg (r := .sl (n + 7) 0 0 (x1).length) (os := [⟨3, 1, Wq (Wr .i64) x1, 0⟩]) rfl Try.call54 (F_slices_Clone___int_int__ok h2 _ (Xi (Vs hn) rfl))) (Yk 0 rfl rfl rfl rfl) ⟨.same _ _ _ (Vh (fun _ => .int _ _)), trivial⟩ rfl) ex0)) ?_
  refine Yc _ rfl rfl (Xs (VRd.ntl (Vc rfl tf_34_2 ts_22 (by decide))) (Xs (VRd.ntl (Vc rfl tf_34_2 ts_22 (by decide))) (Xs (VRd.ntl (Vc rfl tf_34_2 ts_22 (by decide))) (Xs (VRd.ntl (Vc rfl tf_34_2 ts_22 (by decide))) rx0)))) ?_
  refine Yc _ rfl rfl (Xs (VRd.ntl (Vg rfl (Ve (Vs hn) rfl) rfl ta_22 rfl)) (Xs (VRd.ntl (Vg rfl (Ve (Vs hn) rfl) rfl ta_22 rfl)) (Xs (VRd.ntl (Vg rfl (Ve (Vs hn) rfl) rfl ta_22 rfl)) (Xs (VRd.ntl (Vg rfl (Ve (Vs hn) rfl) rfl ta_22 rfl)) rx0)))) ?_
  refine Zf _ rfl rfl (Zy 3 rfl (Vu (f := 7) (k := 3) (m := 1) (os := [⟨3, 1, Wq (Wr .i64) x3, 0⟩]) (os' := [⟨3, 1, Wq (Wr .i64) x3, 1⟩]) (v := .sl (n + 7) 0 0 (x3).length) (Vs hn) rfl rfl ⟨⟨_, rfl, rfl⟩, trivial⟩ (Xg (r := .sl (n + 7) 0 0 (x3).length) (os := [⟨3, 1, Wq (Wr .i64) x3, 0⟩]) rfl Try.call54 (F_slices_Clone___int_int__ok h4 _ (Xi (Vs hn) rfl))) (Yk 0 rfl rfl rfl rfl) ⟨.same _ _ _ (Vh (fun _ => .int _ _)), trivial⟩ rfl) (Zy 6 rfl (Vu (f := 7) (k := 3) (m := 1) (os := [⟨3, 1, Wq (Wr .i64) x3, 0⟩]) (os' := [⟨3, 1, Wq (Wr .i64) x3, 1⟩]) (v := .sl (n + 7) 0 0 (x3).length) (Vs hn) rfl rfl ⟨⟨_, rfl, rfl⟩, trivial⟩ (Xg (r := .sl (n + 7) 0 0 (x3).length) (os := [⟨3, 1, Wq (Wr .i64) x3, 0⟩]) rfl Try.call54 (F_slices_Clone___int_int__ok h4 _ (Xi (Vs hn) rfl))) (Yk 0 rfl rfl rfl rfl) ⟨.same _ _ _ (Vh (fun _ => .int _ _)), trivial⟩ rfl) ex0)) ?_
  refine Yc _ rfl rfl (Xs (VRd.ntl (Vc rfl tf_34_3 ts_32 (by decide))) (Xs (VRd.ntl (Vc rfl tf_34_3 ts_32 (by decide))) (Xs (VRd.ntl (Vc rfl tf_34_3 ts_32 (by decide))) (Xs (VRd.ntl (Vc rfl tf_34_3 ts_32 (by decide))) (Xs (VRd.ntl (Vc rfl tf_34_3 ts_32 (by decide))) (Xs (VRd.ntl (Vc rfl tf_34_3 ts_32 (by decide))) rx0)))))) ?_
  refine Yc _ rfl rfl (Xs (VRd.ntl (Vg rfl (Ve (Vs hn) rfl) rfl ta_32 rfl)) (Xs (VRd.ntl (Vg rfl (Ve (Vs hn) rfl) rfl ta_32 rfl)) (Xs (VRd.ntl (Vg rfl (Ve (Vs hn) rfl) rfl ta_32 rfl)) (Xs (VRd.ntl (Vg rfl (Ve (Vs hn) rfl) rfl ta_32 rfl)) (Xs (VRd.ntl (Vg rfl (Ve (Vs hn) rfl) rfl ta_32 rfl)) (Xs (VRd.ntl (Vg rfl (Ve (Vs hn) rfl) rfl ta_32 rfl)) rx0)))))) ?_
  refine Zf _ rfl rfl (Zy 5 rfl (Vu (f := 7) (k := 4) (m := 1) (os := [⟨4, 1, Wq Ws x5, 0⟩]) (os' := [⟨4, 1, Wq Ws x5, 1⟩]) (v := .sl (n + 7) 0 0 (x5).length) (Vs hn) rfl rfl ⟨⟨_, rfl, rfl⟩, trivial⟩ (Xg (r := .sl (n + 7) 0 0 (x5).length) (os := [⟨4, 1, Wq Ws x5, 0⟩]) rfl Try.call55 (F_slices_Clone___bool_bool__ok h6 _ (Xi (Vs hn) rfl))) (Yk 0 rfl rfl rfl rfl) ⟨.same _ _ _ (Vh (fun _ => .bool _)), trivial⟩ rfl) (Zy 8 rfl (Vu (f := 7) (k := 4) (m := 1) (os := [⟨4, 1, Wq Ws x5, 0⟩]) (os' := [⟨4, 1, Wq Ws x5, 1⟩]) (v := .sl (n + 7) 0 0 (x5).length) (Vs hn) rfl rfl ⟨⟨_, rfl, rfl⟩, trivial⟩ (Xg (r := .sl (n + 7) 0 0 (x5).length) (os := [⟨4, 1, Wq Ws x5, 0⟩]) rfl Try.call55 (F_slices_Clone___bool_bool__ok h6 _ (Xi (Vs hn) rfl))) (Yk 0 rfl rfl rfl rfl) ⟨.same _ _ _ (Vh (fun _ => .bool _)), trivial⟩ rfl) ex0)) ?_
  refine Yc _ rfl rfl (Xs (VRd.ntl (Vc rfl tf_34_4 ts_32 (by decide))) (Xs (VRd.ntl (Vc rfl tf_34_4 ts_32 (by decide))) (Xs (VRd.ntl (Vc rfl tf_34_4 ts_32 (by decide))) (Xs (VRd.ntl (Vc rfl tf_34_4 ts_32 (by decide))) (Xs (VRd.ntl (Vc rfl tf_34_4 ts_32 (by decide))) (Xs (VRd.ntl (Vc rfl tf_34_4 ts_32 (by decide))) (Xs (VRd.ntl (Vc rfl tf_34_4 ts_32 (by decide))) (Xs (VRd.ntl (Vc rfl tf_34_4 ts_32 (by decide))) rx0)))))))) ?_
  refine Yc _ rfl rfl (Xs (VRd.ntl (Vg rfl (Ve (Vs hn) rfl) rfl ta_32 rfl)) (Xs (VRd.ntl (Vg rfl (Ve (Vs hn) rfl) rfl ta_32 rfl)) (Xs (VRd.ntl (Vg rfl (Ve (Vs hn) rfl) rfl ta_32 rfl)) (Xs (VRd.ntl (Vg rfl (Ve (Vs hn) rfl) rfl ta_32 rfl)) (Xs (VRd.ntl (Vg rfl (Ve (Vs hn) rfl) rfl ta_32 rfl)) (Xs (VRd.ntl (Vg rfl (Ve (Vs hn) rfl) rfl ta_32 rfl)) (Xs (VRd.ntl (Vg rfl (Ve (Vs hn) rfl) rfl ta_32 rfl)) (Xs (VRd.ntl (Vg rfl (Ve (Vs hn) rfl) rfl ta_32 rfl)) rx0)))))))) ?_
  refine Zf _ rfl rfl (Zy 7 rfl (Vu (f := 7) (k := 5) (m := 1) (os := [⟨4, 1, Wq Ws x7, 0⟩]) (os' := [⟨4, 1, Wq Ws x7, 1⟩]) (v := .sl (n + 7) 0 0 (x7).length) (Vs hn) rfl rfl ⟨⟨_, rfl, rfl⟩, trivial⟩ (Xg (r := .sl (n + 7) 0 0 (x7).length) (os := [⟨4, 1, Wq Ws x7, 0⟩]) rfl Try.call55 (F_slices_Clone___bool_bool__ok h8 _ (Xi (Vs hn) rfl))) (Yk 0 rfl rfl rfl rfl) ⟨.same _ _ _ (Vh (fun _ => .bool _)), trivial⟩ rfl) (Zy 9 rfl (Vu (f := 7) (k := 5) (m := 1) (os := [⟨4, 1, Wq Ws x7, 0⟩]) (os' := [⟨4, 1, Wq Ws x7, 1⟩]) (v := .sl (n + 7) 0 0 (x7).length) (Vs hn) rfl rfl ⟨⟨_, rfl, rfl⟩, trivial⟩ (Xg (r := .sl (n + 7) 0 0 (x7).length) (os := [⟨4, 1, Wq Ws x7, 0⟩]) rfl Try.call55 (F_slices_Clone___bool_bool__ok h8 _ (Xi (Vs hn) rfl))) (Yk 0 rfl rfl rfl rfl) ⟨.same _ _ _ (Vh (fun _ => .bool _)), trivial⟩ rfl) ex0)) ?_
  refine Yc _ rfl rfl (Xs (VRd.ntl (Wh (vs := [(0, .int .i64 p0.Time), (1, .sl (n + 2) 1 0 (x1).length), (2, .sl (n + 3) 1 0 (x3).length), (3, .sl (n + 4) 1 0 (x5).length), (4, .sl (n + 5) 1 0 (x7).length)]) (ds := [.int .i64 p0.Time, .sl (n + 2) 1 0 (x1).length, .sl (n + 3) 1 0 (x3).length, .sl (n + 4) 1 0 (x5).length, .sl (n + 5) 1 0 (x7).length]) tz_34 rfl rfl tp_34 ⟨rfl, rfl, rfl, rfl, rfl, rfl, rfl, rfl, rfl, rfl, trivial⟩ (Wo rfl) rfl)) (Xs (VRd.ntl (Wh (vs := [(0, .int .i64 p0.Time), (1, .sl (n + 2) 1 0 (x1).length), (2, .sl (n + 3) 1 0 (x3).length), (3, .sl (n + 4) 1 0 (x5).length), (4, .sl (n + 5) 1 0 (x7).length)]) (ds := [.int .i64 p0.Time, .sl (n + 2) 1 0 (x1).length, .sl (n + 3) 1 0 (x3).length, .sl (n + 4) 1 0 (x5).length, .sl (n + 5) 1 0 (x7).length]) tz_34 rfl rfl tp_34 ⟨rfl, rfl, rfl, rfl, rfl, rfl, rfl, rfl, rfl, rfl, trivial⟩ (Wo rfl) rfl)) rx0)) ?_
  refine Zf _ rfl rfl (Zy 2 rfl (Vu (f := 7) (k := 6) (m := 1) (os := [⟨34, 5, [.agg [.int .i64 0, .nils, .nils, .nils, .nils]], 0⟩]) (os' := [⟨34, 5, [.agg [.int .i64 0, .nils, .nils, .nils, .nils]], 1⟩]) (v := .ptr (n + 7) 0 0 0) (Vs hn) rfl rfl ⟨⟨_, rfl, rfl⟩, trivial⟩ (Xe (Vs hn) rfl tz_34 rfl rfl (Wv _) rfl) (Wj 0 rfl rfl rfl rfl) ⟨.same _ _ _ (Xt ⟨(Xw ⟨.int _ _, .nils, .nils, .nils, .nils, trivial⟩), trivial⟩), trivial⟩ rfl) (Zy 4 rfl (Vu (f := 7) (k := 6) (m := 1) (os := [⟨34, 5, [.agg [.int .i64 0, .nils, .nils, .nils, .nils]], 0⟩]) (os' := [⟨34, 5, [.agg [.int .i64 0, .nils, .nils, .nils, .nils]], 1⟩]) (v := .ptr (n + 7) 0 0 0) (Vs hn) rfl rfl ⟨⟨_, rfl, rfl⟩, trivial⟩ (Xe (Vs hn) rfl tz_34 rfl rfl (Wv _) rfl) (Wj 0 rfl rfl rfl rfl) ⟨.same _ _ _ (Xt ⟨(Xw ⟨.int _ _, .nils, .nils, .nils, .nils, trivial⟩), trivial⟩), trivial⟩ rfl) (Zy 6 rfl (Vu (f := 7) (k := 6) (m := 1) (os := [⟨34, 5, [.agg [.int .i64 0, .nils, .nils, .nils, .nils]], 0⟩]) (os' := [⟨34, 5, [.agg [.int .i64 0, .nils, .nils, .nils, .nils]], 1⟩]) (v := .ptr (n + 7) 0 0 0) (Vs hn) rfl rfl ⟨⟨_, rfl, rfl⟩, trivial⟩ (Xe (Vs hn) rfl tz_34 rfl rfl (Wv _) rfl) (Wj 0 rfl rfl rfl rfl) ⟨.same _ _ _ (Xt ⟨(Xw ⟨.int _ _, .nils, .nils, .nils, .nils, trivial⟩), trivial⟩), trivial⟩ rfl) (Zy 8 rfl (Vu (f := 7) (k := 6) (m := 1) (os := [⟨34, 5, [.agg [.int .i64 0, .nils, .nils, .nils, .nils]], 0⟩]) (os' := [⟨34, 5, [.agg [.int .i64 0, .nils, .nils, .nils, .nils]], 1⟩]) (v := .ptr (n + 7) 0 0 0) (Vs hn) rfl rfl ⟨⟨_, rfl, rfl⟩, trivial⟩ (Xe (Vs hn) rfl tz_34 rfl rfl (Wv _) rfl) (Wj 0 rfl rfl rfl rfl) ⟨.same _ _ _ (Xt ⟨(Xw ⟨.int _ _, .nils, .nils, .nils, .nils, trivial⟩), trivial⟩), trivial⟩ rfl) (Zy 9 rfl (Vu (f := 7) (k := 6) (m := 1) (os := [⟨34, 5, [.agg [.int .i64 0, .nils, .nils, .nils, .nils]], 0⟩]) (os' := [⟨34, 5, [.agg [.int .i64 0, .nils, .nils, .nils, .nils]], 1⟩]) (v := .ptr (n + 7) 0 0 0) (Vs hn) rfl rfl ⟨⟨_, rfl, rfl⟩, trivial⟩ (Xe (Vs hn) rfl tz_34 rfl rfl (Wv _) rfl) (Wj 0 rfl rfl rfl rfl) ⟨.same _ _ _ (Xt ⟨(Xw ⟨.int _ _, .nils, .nils, .nils, .nils, trivial⟩), trivial⟩), trivial⟩ rfl) ex0))))) ?_
  refine Zf _ rfl rfl (Zy 10 rfl (Vy (p := .agg [.int .i64 p0.Time, .sl (n + 2) 1 0 (x1).length, .sl (n + 3) 1 0 (x3).length, .sl (n + 4) 1 0 (x5).length, .sl (n + 5) 1 0 (x7).length]) (e' := .agg [.int .i64 p0.Time, .sl (n + 2) 1 0 (x1).length, .sl (n + 3) 1 0 (x3).length, .sl (n + 4) 1 0 (x5).length, .sl (n + 5) 1 0 (x7).length]) rfl (Ve (Vs hn) rfl) rfl rfl ts_34 rfl (Ye rfl) rfl (Wu rfl) rfl (Xr (Vs hn) rfl)) ex0) ?_
  refine dopx_nil ?_
  refine Vi ?_
  refine Vd ?_
  obtain ⟨x9, h10, hF⟩ := Yt hF
  refine Va (rd_mvF rfl) rfl ?_
  refine Vj (Zg (ps := [((n + 6), ⟨34, 5, [.agg [.int .i64 x9.Time, .sl (n + 2) 1 0 (x1).length, .sl (n + 3) 1 0 (x3).length, .sl (n + 4) 1 0 (x5).length, .sl (n + 5) 1 0 (x7).length]], 1⟩), ((n + 2), ⟨3, 1, Wq (Wr .i64) x9.States, 1⟩), ((n + 3), ⟨3, 1, Wq (Wr .i64) x9.Since, 1⟩), ((n + 4), ⟨4, 1, Wq Ws x9.Pulled, 1⟩), ((n + 5), ⟨4, 1, Wq Ws x9.Held, 1⟩), (q0, ⟨3, 1, [.int .i64 pc10], w0⟩)]) (r := .tup []) (os := []) (low1 := (setL low0 [(q0, ⟨3, 1, [.int .i64 pc10], w0⟩)])) (loc1 := [⟨34, 5, [.agg [.int .i64 p0.Time, .vs 1 (Wq (Wr .i64) p0.States), .vs 1 (Wq (Wr .i64) p0.Since), .vs 1 (Wq Ws p0.Pulled), .vs 1 (Wq Ws p0.Held)]], 0⟩, ⟨34, 5, [.agg [.int .i64 0, .nils, .nils, .nils, .nils]], 0⟩, ⟨3, 1, Wq (Wr .i64) x9.States, 1⟩, ⟨3, 1, Wq (Wr .i64) x9.Since, 1⟩, ⟨4, 1, Wq Ws x9.Pulled, 1⟩, ⟨4, 1, Wq Ws x9.Held, 1⟩, ⟨34, 5, [.agg [.int .i64 x9.Time, .sl (n + 2) 1 0 (x1).length, .sl (n + 3) 1 0 (x3).length, .sl (n + 4) 1 0 (x5).length, .sl (n + 5) 1 0 (x7).length]], 1⟩]) (loc2 := [⟨34, 5, [.agg [.int .i64 p0.Time, .vs 1 (Wq (Wr .i64) p0.States), .vs 1 (Wq (Wr .i64) p0.Since), .vs 1 (Wq Ws p0.Pulled), .vs 1 (Wq Ws p0.Held)]], 0⟩, ⟨34, 5, [.agg [.int .i64 0, .nils, .nils, .nils, .nils]], 0⟩, ⟨3, 1, Wq (Wr .i64) x9.States, 1⟩, ⟨3, 1, Wq (Wr .i64) x9.Since, 1⟩, ⟨4, 1, Wq Ws x9.Pulled, 1⟩, ⟨4, 1, Wq Ws x9.Held, 1⟩, ⟨34, 5, [.agg [.int .i64 x9.Time, .sl (n + 2) 1 0 (x1).length, .sl (n + 3) 1 0 (x3).length, .sl (n + 4) 1 0 (x5).length, .sl (n + 5) 1 0 (x7).length]], 1⟩]) rfl Try.call52 (F_belts_Restore_1_ok h10 (nd1 (Zs (Yx rfl) (Zs (Yx rfl) (Zs (Yx rfl) (Zs (Yx rfl) (Zs (Yv hq0) na0))))) (nd1 (Zs (Yx rfl) (Zs (Yx rfl) (Zs (Yx rfl) (Zs (Yv hq0) na0)))) (nd1 (Zs (Yx rfl) (Zs (Yx rfl) (Zs (Yv hq0) na0))) (nd1 (Zs (Yx rfl) (Zs (Yv hq0) na0)) (nd1 (Zs (Yv hq0) na0) (nd1 na0 nd0)))))) (rfl : (x1).length = _) (rfl : (x3).length = _) (rfl : (x5).length = _) (rfl : (x7).length = _) (Zt (Vs hn) rfl) (Zt (Vs hn) rfl) (Zt (Vs hn) rfl) (Zt (Vs hn) rfl) (Zt (Vs hn) rfl) (Wp hB rfl 0 rfl) (Xi (Vs hn) rfl)) (Yq (loc2 := [⟨34, 5, [.agg [.int .i64 p0.Time, .vs 1 (Wq (Wr .i64) p0.States), .vs 1 (Wq (Wr .i64) p0.Since), .vs 1 (Wq Ws p0.Pulled), .vs 1 (Wq Ws p0.Held)]], 0⟩, ⟨34, 5, [.agg [.int .i64 0, .nils, .nils, .nils, .nils]], 0⟩, ⟨3, 1, Wq (Wr .i64) x1, 1⟩, ⟨3, 1, Wq (Wr .i64) x3, 1⟩, ⟨4, 1, Wq Ws x5, 1⟩, ⟨4, 1, Wq Ws x7, 1⟩, ⟨34, 5, [.agg [.int .i64 x9.Time, .sl (n + 2) 1 0 (x1).length, .sl (n + 3) 1 0 (x3).length, .sl (n + 4) 1 0 (x5).length, .sl (n + 5) 1 0 (x7).length]], 1⟩]) (Vs hn) 6 rfl (Yq (loc2 := [⟨34, 5, [.agg [.int .i64 p0.Time, .vs 1 (Wq (Wr .i64) p0.States), .vs 1 (Wq (Wr .i64) p0.Since), .vs 1 (Wq Ws p0.Pulled), .vs 1 (Wq Ws p0.Held)]], 0⟩, ⟨34, 5, [.agg [.int .i64 0, .nils, .nils, .nils, .nils]], 0⟩, ⟨3, 1, Wq (Wr .i64) x9.States, 1⟩, ⟨3, 1, Wq (Wr .i64) x3, 1⟩, ⟨4, 1, Wq Ws x5, 1⟩, ⟨4, 1, Wq Ws x7, 1⟩, ⟨34, 5, [.agg [.int .i64 x9.Time, .sl (n + 2) 1 0 (x1).length, .sl (n + 3) 1 0 (x3).length, .sl (n + 4) 1 0 (x5).length, .sl (n + 5) 1 0 (x7).length]], 1⟩]) (Vs hn) 2 rfl (Yq (loc2 := [⟨34, 5, [.agg [.int .i64 p0.Time, .vs 1 (Wq (Wr .i64) p0.States), .vs 1 (Wq (Wr .i64) p0.Since), .vs 1 (Wq Ws p0.Pulled), .vs 1 (Wq Ws p0.Held)]], 0⟩, ⟨34, 5, [.agg [.int .i64 0, .nils, .nils, .nils, .nils]], 0⟩, ⟨3, 1, Wq (Wr .i64) x9.States, 1⟩, ⟨3, 1, Wq (Wr .i64) x9.Since, 1⟩, ⟨4, 1, Wq Ws x5, 1⟩, ⟨4, 1, Wq Ws x7, 1⟩, ⟨34, 5, [.agg [.int .i64 x9.Time, .sl (n + 2) 1 0 (x1).length, .sl (n + 3) 1 0 (x3).length, .sl (n + 4) 1 0 (x5).length, .sl (n + 5) 1 0 (x7).length]], 1⟩]) (Vs hn) 3 rfl (Yq (loc2 := [⟨34, 5, [.agg [.int .i64 p0.Time, .vs 1 (Wq (Wr .i64) p0.States), .vs 1 (Wq (Wr .i64) p0.Since), .vs 1 (Wq Ws p0.Pulled), .vs 1 (Wq Ws p0.Held)]], 0⟩, ⟨34, 5, [.agg [.int .i64 0, .nils, .nils, .nils, .nils]], 0⟩, ⟨3, 1, Wq (Wr .i64) x9.States, 1⟩, ⟨3, 1, Wq (Wr .i64) x9.Since, 1⟩, ⟨4, 1, Wq Ws x9.Pulled, 1⟩, ⟨4, 1, Wq Ws x7, 1⟩, ⟨34, 5, [.agg [.int .i64 x9.Time, .sl (n + 2) 1 0 (x1).length, .sl (n + 3) 1 0 (x3).length, .sl (n + 4) 1 0 (x5).length, .sl (n + 5) 1 0 (x7).length]], 1⟩]) (Vs hn) 4 rfl (Yq (loc2 := [⟨34, 5, [.agg [.int .i64 p0.Time, .vs 1 (Wq (Wr .i64) p0.States), .vs 1 (Wq (Wr .i64) p0.Since), .vs 1 (Wq Ws p0.Pulled), .vs 1 (Wq Ws p0.Held)]], 0⟩, ⟨34, 5, [.agg [.int .i64 0, .nils, .nils, .nils, .nils]], 0⟩, ⟨3, 1, Wq (Wr .i64) x9.States, 1⟩, ⟨3, 1, Wq (Wr .i64) x9.Since, 1⟩, ⟨4, 1, Wq Ws x9.Pulled, 1⟩, ⟨4, 1, Wq Ws x9.Held, 1⟩, ⟨34, 5, [.agg [.int .i64 x9.Time, .sl (n + 2) 1 0 (x1).length, .sl (n + 3) 1 0 (x3).length, .sl (n + 4) 1 0 (x5).length, .sl (n + 5) 1 0 (x7).length]], 1⟩]) (Vs hn) 5 rfl (Wd (ps0' := [(q0, ⟨3, 1, [.int .i64 pc10], w0⟩)]) hB rfl 0 rfl (ltObjN hn ⟨.int _ _, trivial⟩) rfl Zl)))))) rfl) rfl ?_
  refine Vf ?_
  refine Vi ?_
  refine Vd ?_
  refine Va (Vv (ds := [.int .i64 x9.Time, .sl (n + 2) 1 0 (x1).length, .sl (n + 3) 1 0 (x3).length, .sl (n + 4) 1 0 (x5).length, .sl (n + 5) 1 0 (x7).length]) rfl (Ve (Vs hn) rfl) rfl ta_34 ts_34 rfl rfl rfl) rfl ?_
  refine Vj (Vy (p := .agg [.int .i64 x9.Time, .sl (n + 2) 1 0 (x1).length, .sl (n + 3) 1 0 (x3).length, .sl (n + 4) 1 0 (x5).length, .sl (n + 5) 1 0 (x7).length]) (e' := .agg [.int .i64 x9.Time, .sl (n + 2) 1 0 (x1).length, .sl (n + 3) 1 0 (x3).length, .sl (n + 4) 1 0 (x5).length, .sl (n + 5) 1 0 (x7).length]) rfl (Ve (Vs hn) rfl) rfl rfl ts_34 rfl (Ye rfl) rfl (Wu rfl) rfl (Xr (Vs hn) rfl)) rfl ?_
  refine Vf ?_
  refine Xb ?_
  obtain rfl := Wt hF
  refine Wg ?_
  refine Weak.trans (Xm (E' := [(4, .ptr (n + 1) 0 0 0)]) (loc1 := [⟨34, 5, [.agg [.int .i64 p0.Time, .vs 1 (Wq (Wr .i64) p0.States), .vs 1 (Wq (Wr .i64) p0.Since), .vs 1 (Wq Ws p0.Pulled), .vs 1 (Wq Ws p0.Held)]], 0⟩, ⟨34, 5, [.agg [.int .i64 x9.Time, .sl (n + 2) 1 0 (x1).length, .sl (n + 3) 1 0 (x3).length, .sl (n + 4) 1 0 (x5).length, .vs 1 (Wq Ws x9.Held)]], 0⟩, ⟨3, 1, Wq (Wr .i64) x9.States, 1⟩, ⟨3, 1, Wq (Wr .i64) x9.Since, 1⟩, ⟨4, 1, Wq Ws x9.Pulled, 1⟩, ⟨4, 1, [], 1 + 1⟩, ⟨34, 5, [.agg [.int .i64 x9.Time, .sl (n + 2) 1 0 (x1).length, .sl (n + 3) 1 0 (x3).length, .sl (n + 4) 1 0 (x5).length, .vs 1 (Wq Ws x9.Held)]], 1⟩]) (Vs hn) 5 rfl (Ya (fun _ => .bool _)) ⟨Vl rfl, trivial⟩ ⟨.refl _, Yr ⟨Vl rfl, Vl rfl, Vl rfl, Vl rfl, Zj rfl rfl rfl (Vx (F_belts_Restore_1_len h10 (rfl : (x1).length = _) (rfl : (x3).length = _) (rfl : (x5).length = _) (rfl : (x7).length = _)).2.2.2.1), trivial⟩, .refl _, .refl _, .refl _, .refl _, Yr ⟨Vl rfl, Vl rfl, Vl rfl, Vl rfl, Zj rfl rfl rfl (Vx (F_belts_Restore_1_len h10 (rfl : (x1).length = _) (rfl : (x3).length = _) (rfl : (x5).length = _) (rfl : (x7).length = _)).2.2.2.1), trivial⟩, trivial⟩) ?_
  exact Vt (Vs hn) [(2, 1), (3, 1), (4, 1), (1, 0)] (by decide) ⟨Yj 3 1 rfl rfl, trivial⟩ ⟨⟨_, rfl, rfl, .same _ _ _ _ (Vh (fun _ => .int _ _))⟩, ⟨_, rfl, rfl, .same _ _ _ _ (Vh (fun _ => .int _ _))⟩, ⟨_, rfl, rfl, .same _ _ _ _ (Vh (fun _ => .bool _))⟩, ⟨_, rfl, rfl, .agg _ _ _ _ _ ⟨Vr rfl (.int _ _), Xq 0 2 rfl (congrArg (PV.sl _ _ 0) (F_belts_Restore_1_len h10 (rfl : (x1).length = _) (rfl : (x3).length = _) (rfl : (x5).length = _) (rfl : (x7).length = _)).1), Xq 1 3 rfl (congrArg (PV.sl _ _ 0) (F_belts_Restore_1_len h10 (rfl : (x1).length = _) (rfl : (x3).length = _) (rfl : (x5).length = _) (rfl : (x7).length = _)).2.1), Xq 2 4 rfl (congrArg (PV.sl _ _ 0) (F_belts_Restore_1_len h10 (rfl : (x1).length = _) (rfl : (x3).length = _) (rfl : (x5).length = _) (rfl : (x7).length = _)).2.2.1), Vr rfl (.vs _ _), trivial⟩⟩, trivial⟩
 ·rintro _ _ _ _ ⟨he, hw⟩
  refine ⟨_, _, _, hw, ?_⟩
  exact Zm (Vs hn) 3 rfl (Wu rfl) he [.agg [.int .i64 r.Time, .sl (n + 0) 0 0 (r.States).length, .sl (n + 1) 0 0 (r.Since).length, .sl (n + 2) 0 0 (r.Pulled).length, .vs 1 (Wq Ws r.Held)]] ⟨Vv rfl (Ve (Vs hn) rfl) rfl ta_34 ts_34 rfl rfl rfl, trivial⟩ ((Xw ⟨.int _ _, .sl _ _ _ _ (Zw rfl), .sl _ _ _ _ (Zw rfl), .sl _ _ _ _ (Zw rfl), .vs _ _, trivial⟩)) ⟨Vh (fun _ => .int _ _), Vh (fun _ => .int _ _), Vh (fun _ => .bool _), trivial⟩ ⟨rfl, rfl⟩

theorem F_belts_done__belts_Restore_1_ok {p0 : T_Line} {pc10 : Int} {r : T_Line} (hF : F_belts_done__belts_Restore_1 p0 pc10 = some r) {low : List AObj} {q0 w0 : Nat} (hnd : [q0].Nodup) (hq0 : low[q0]? = some ⟨3, 1, [.int .i64 pc10], w0⟩) {n : Nat} (hn : low.length = n) :
    Ys Try.prog 31 [.agg [.int .i64 p0.Time, .vs 1 (Wq (Wr .i64) p0.States), .vs 1 (Wq (Wr .i64) p0.Since), .vs 1 (Wq Ws p0.Pulled), .vs 1 (Wq Ws p0.Held)], .fn 52 [] [.ptr q0 w0 0 0]] low fun x low' => x = .agg [.int .i64 r.Time, .sl (n + 0) 0 0 (r.States).length, .sl (n + 1) 0 0 (r.Since).length, .sl (n + 2) 0 0 (r.Pulled).length, .vs 1 (Wq Ws r.Held)] ∧ low' = setL low [(q0, ⟨3, 1, [.int .i64 pc10], w0⟩)] ++ [⟨3, 1, Wq (Wr .i64) r.States, 0⟩, ⟨3, 1, Wq (Wr .i64) r.Since, 0⟩, ⟨4, 1, Wq Ws r.Pulled, 0⟩] := by
  obtain ⟨h1, h2⟩ := We (ps := [(q0, ⟨3, 1, [.int .i64 pc10], w0⟩)]) hnd (Wf hq0 bor0)
  exact Zx h1 (F_belts_done__belts_Restore_1_ok0 hF h2 hn)

theorem F_belts_Restore_ok {p0 : List T_Belt} {p1 : T_Line} {p2 : Int} {r : T_Line × Int} (hF : F_belts_Restore p0 p1 p2 = some r) (low : List AObj) {n : Nat} (hn : low.length = n) :
    Ys Try.prog 25 [.vs 2 (Wq T_Belt.enc p0), .agg [.int .i64 p1.Time, .vs 1 (Wq (Wr .i64) p1.States), .vs 1 (Wq (Wr .i64) p1.Since), .vs 1 (Wq Ws p1.Pulled), .vs 1 (Wq Ws p1.Held)], .int .i64 p2] low fun x low' => x = .tup [.agg [.int .i64 r.1.Time, .vs 1 (Wq (Wr .i64) r.1.States), .vs 1 (Wq (Wr .i64) r.1.Since), .vs 1 (Wq Ws r.1.Pulled), .vs 1 (Wq Ws r.1.Held)], .int .i64 r.2] ∧ low' = low ++ [] := by
 refine Vz (nt := 27) (rs := [.cell 6 34, .tmp 7]) Try.func25 rfl rfl (Wu rfl) rfl ?_
 refine Vw (Q' := FnE (fun E' lw lc => Yb E' lw lc [(6, .ptr (n + 0) 0 0 0), (7, .int .i64 r.2)] low [⟨34, 5, [.agg [.int .i64 r.1.Time, .vs 1 (Wq (Wr .i64) r.1.States), .vs 1 (Wq (Wr .i64) r.1.Since), .vs 1 (Wq Ws r.1.Pulled), .vs 1 (Wq Ws r.1.Held)]], 0⟩])) ?_ ?_
 ·unfold F_belts_Restore at hF
  refine Vi ?_
  refine Vd ?_
  refine Vj (Zc hn rfl (v := .agg [.int .i64 p1.Time, .vs 1 (Wq (Wr .i64) p1.States), .vs 1 (Wq (Wr .i64) p1.Since), .vs 1 (Wq Ws p1.Pulled), .vs 1 (Wq Ws p1.Held)]) rfl rfl (Wv _) rfl rfl) rfl ?_
  refine Vj (Zc hn rfl (v := .int .i64 p2) rfl rfl (Wv _) rfl rfl) rfl ?_
  refine Vj (Xe hn rfl tz_34 rfl rfl (Wv _) rfl) rfl ?_
  refine Va (Xa rfl) rfl ?_
  refine Vf ?_
  refine Vi ?_
  refine Vi ?_
  refine Vd ?_
  obtain ⟨x1, h2, hF⟩ := Yt hF
  refine Va (Xc rfl) rfl ?_
  refine Va (Vv (ds := [.int .i64 p1.Time, .vs 1 (Wq (Wr .i64) p1.States), .vs 1 (Wq (Wr .i64) p1.Since), .vs 1 (Wq Ws p1.Pulled), .vs 1 (Wq Ws p1.Held)]) rfl (Ve hn rfl) rfl ta_34 ts_34 rfl rfl rfl) rfl ?_
  refine Va (Vg rfl (Ve hn rfl) rfl ta_3 rfl) rfl ?_
  refine Vj (Xp rfl Try.call30 (F_belts_checked_ok h2 _)) rfl ?_
  refine Va (Xa rfl) rfl ?_
  refine Vf ?_
  refine Vi ?_
  refine Vd ?_
  refine Va (Vk rfl) rfl ?_
  refine Va (Ze rfl rfl) rfl ?_
  refine Vf ?_
  refine Xh rfl (fun c3 => ?_) (fun c3 => ?_)
  ·have hF := Yo c3 hF
   refine Vi ?_
   refine Vd ?_
   refine Va (Vv (ds := [.int .i64 p1.Time, .vs 1 (Wq (Wr .i64) p1.States), .vs 1 (Wq (Wr .i64) p1.Since), .vs 1 (Wq Ws p1.Pulled), .vs 1 (Wq Ws p1.Held)]) rfl (Ve hn rfl) rfl ta_34 ts_34 rfl rfl rfl) rfl ?_
   refine Va (Vk rfl) rfl ?_
   refine Vj (Vy (p := .agg [.int .i64 p1.Time, .vs 1 (Wq (Wr .i64) p1.States), .vs 1 (Wq (Wr .i64) p1.Since), .vs 1 (Wq Ws p1.Pulled), .vs 1 (Wq Ws p1.Held)]) (e' := .agg [.int .i64 p1.Time, .vs 1 (Wq (Wr .i64) p1.States), .vs 1 (Wq (Wr .i64) p1.Since), .vs 1 (Wq Ws p1.Pulled), .vs 1 (Wq Ws p1.Held)]) rfl (Ve hn rfl) rfl rfl ts_34 rfl (Ye rfl) rfl (Wu rfl) rfl (Xr hn rfl)) rfl ?_
   refine Va (Xa rfl) rfl ?_
   refine Vf ?_
   refine Xb ?_
   obtain rfl := Wt hF
   refine Wg ?_
   exact Vt hn [(2, 0)] (by decide) ⟨Yj 0 2 rfl rfl, Vr rfl (.int _ _), trivial⟩ ⟨⟨_, rfl, rfl, .same _ _ _ _ (Xt ⟨Xw ⟨.int _ _, .vs _ _, .vs _ _, .vs _ _, .vs _ _, trivial⟩, trivial⟩)⟩, trivial⟩
  ·have hF := Yp c3 hF
   refine Xn ?_
   refine Vi ?_
   refine Vi ?_
   refine Vd ?_
   obtain ⟨x4, h5, hF⟩ := Yt hF
   refine Va (Vc rfl tf_34_3 ts_32 (by decide)) rfl ?_
   refine Va (Vg rfl (Ve hn rfl) rfl ta_32 rfl) rfl ?_
   refine Va (Vg rfl (Ve hn rfl) rfl ta_3 rfl) rfl ?_
   refine Va (Xk (Yl rfl rfl h5 te_32 ts_4) (v' := .vptr [.bool x4] 0) rfl) rfl ?_
   refine Va (Xj rfl ta_4 rfl) rfl ?_
   refine Va (Zp rfl) rfl ?_
   refine Vf ?_
   refine Xh rfl (fun c6 => ?_) (fun c6 => ?_)
   ·have hF := Yo c6 hF
    refine Vi ?_
    refine Vd ?_
    refine Va (Vv (ds := [.int .i64 p1.Time, .vs 1 (Wq (Wr .i64) p1.States), .vs 1 (Wq (Wr .i64) p1.Since), .vs 1 (Wq Ws p1.Pulled), .vs 1 (Wq Ws p1.Held)]) rfl (Ve hn rfl) rfl ta_34 ts_34 rfl rfl rfl) rfl ?_
    refine Vj (Vy (p := .agg [.int .i64 p1.Time, .vs 1 (Wq (Wr .i64) p1.States), .vs 1 (Wq (Wr .i64) p1.Since), .vs 1 (Wq Ws p1.Pulled), .vs 1 (Wq Ws p1.Held)]) (e' := .agg [.int .i64 p1.Time, .vs 1 (Wq (Wr .i64) p1.States), .vs 1 (Wq (Wr .i64) p1.Since), .vs 1 (Wq Ws p1.Pulled), .vs 1 (Wq Ws p1.Held)]) rfl (Ve hn rfl) rfl rfl ts_34 rfl (Ye rfl) rfl (Wu rfl) rfl (Xr hn rfl)) rfl ?_
    refine Va (Xa rfl) rfl ?_
    refine Vf ?_
    refine Xb ?_
    obtain rfl := Wt hF
    refine Wg ?_
    exact Vt hn [(2, 0)] (by decide) ⟨Yj 0 2 rfl rfl, Vr rfl (.int _ _), trivial⟩ ⟨⟨_, rfl, rfl, .same _ _ _ _ (Xt ⟨Xw ⟨.int _ _, .vs _ _, .vs _ _, .vs _ _, .vs _ _, trivial⟩, trivial⟩)⟩, trivial⟩
   ·have hF := Yp c6 hF
    refine Xn ?_
    refine Vi ?_
    refine Vd ?_
    obtain ⟨x7, h8, hF⟩ := Yt hF
    refine Va (Vv (ds := [.int .i64 p1.Time, .vs 1 (Wq (Wr .i64) p1.States), .vs 1 (Wq (Wr .i64) p1.Since), .vs 1 (Wq Ws p1.Pulled), .vs 1 (Wq Ws p1.Held)]) rfl (Ve hn rfl) rfl ta_34 ts_34 rfl rfl rfl) rfl ?_
    refine Va (rd_makeFn rfl) rfl ?_
    refine Vj (Zg (ps := [((n + 1), ⟨3, 1, [.int .i64 p2], 0⟩)]) (r := .agg [.int .i64 x7.Time, .sl (n + 3) 0 0 (x7.States).length, .sl (n + 4) 0 0 (x7.Since).length, .sl (n + 5) 0 0 (x7.Pulled).length, .vs 1 (Wq Ws x7.Held)]) (os := [⟨3, 1, Wq (Wr .i64) x7.States, 0⟩, ⟨3, 1, Wq (Wr .i64) x7.Since, 0⟩, ⟨4, 1, Wq Ws x7.Pulled, 0⟩]) (low1 := low) (loc1 := [⟨34, 5, [.agg [.int .i64 p1.Time, .vs 1 (Wq (Wr .i64) p1.States), .vs 1 (Wq (Wr .i64) p1.Since), .vs 1 (Wq Ws p1.Pulled), .vs 1 (Wq Ws p1.Held)]], 0⟩, ⟨3, 1, [.int .i64 p2], 0⟩, ⟨34, 5, [.agg [.int .i64 0, .nils, .nils, .nils, .nils]], 0⟩]) (loc2 := [⟨34, 5, [.agg [.int .i64 p1.Time, .vs 1 (Wq (Wr .i64) p1.States), .vs 1 (Wq (Wr .i64) p1.Since), .vs 1 (Wq Ws p1.Pulled), .vs 1 (Wq Ws p1.Held)]], 0⟩, ⟨3, 1, [.int .i64 p2], 0⟩, ⟨34, 5, [.agg [.int .i64 0, .nils, .nils, .nils, .nils]], 0⟩, ⟨3, 1, Wq (Wr .i64) x7.States, 0⟩, ⟨3, 1, Wq (Wr .i64) x7.Since, 0⟩, ⟨4, 1, Wq Ws x7.Pulled, 0⟩]) rfl Try.call31 (F_belts_done__belts_Restore_1_ok h8 (nd1 na0 nd0) (Zt hn rfl) (Xi hn rfl)) (Yq (loc2 := [⟨34, 5, [.agg [.int .i64 p1.Time, .vs 1 (Wq (Wr .i64) p1.States), .vs 1 (Wq (Wr .i64) p1.Since), .vs 1 (Wq Ws p1.Pulled), .vs 1 (Wq Ws p1.Held)]], 0⟩, ⟨3, 1, [.int .i64 p2], 0⟩, ⟨34, 5, [.agg [.int .i64 0, .nils, .nils, .nils, .nils]], 0⟩]) hn 1 rfl Zl) rfl) rfl ?_
    refine Vj (Vy (p := .agg [.int .i64 x7.Time, .sl (n + 3) 0 0 (x7.States).length, .sl (n + 4) 0 0 (x7.Since).length, .sl (n + 5) 0 0 (x7.Pulled).length, .vs 1 (Wq Ws x7.Held)]) (e' := .agg [.int .i64 x7.Time, .sl (n + 3) 0 0 (x7.States).length, .sl (n + 4) 0 0 (x7.Since).length, .sl (n + 5) 0 0 (x7.Pulled).length, .vs 1 (Wq Ws x7.Held)]) rfl (Ve hn rfl) rfl rfl ts_34 rfl (Ye rfl) rfl (Wu rfl) rfl (Xr hn rfl)) rfl ?_
    refine Va (Xa rfl) rfl ?_
    refine Vf ?_
    refine Xb ?_
    obtain rfl := Wt hF
    refine Wg ?_
    refine Weak.trans (Xm (E' := [(6, .ptr (n + 2) 0 0 0), (7, .int .i64 0)]) (loc1 := [⟨34, 5, [.agg [.int .i64 p1.Time, .vs 1 (Wq (Wr .i64) p1.States), .vs 1 (Wq (Wr .i64) p1.Since), .vs 1 (Wq Ws p1.Pulled), .vs 1 (Wq Ws p1.Held)]], 0⟩, ⟨3, 1, [.int .i64 p2], 0⟩, ⟨34, 5, [.agg [.int .i64 x7.Time, .vs 1 (Wq (Wr .i64) x7.States), .sl (n + 4) 0 0 (x7.Since).length, .sl (n + 5) 0 0 (x7.Pulled).length, .vs 1 (Wq Ws x7.Held)]], 0⟩, ⟨3, 1, [], 0 + 1⟩, ⟨3, 1, Wq (Wr .i64) x7.Since, 0⟩, ⟨4, 1, Wq Ws x7.Pulled, 0⟩]) hn 3 rfl (Ya (fun _ => .int _ _)) ⟨Vl rfl, Vl rfl, trivial⟩ ⟨.refl _, .refl _, Yr ⟨Vl rfl, Zj rfl rfl rfl (Vx rfl), Vl rfl, Vl rfl, Vl rfl, trivial⟩, .refl _, .refl _, .refl _, trivial⟩) ?_
    refine Weak.trans (Xm (E' := [(6, .ptr (n + 2) 0 0 0), (7, .int .i64 0)]) (loc1 := [⟨34, 5, [.agg [.int .i64 p1.Time, .vs 1 (Wq (Wr .i64) p1.States), .vs 1 (Wq (Wr .i64) p1.Since), .vs 1 (Wq Ws p1.Pulled), .vs 1 (Wq Ws p1.Held)]], 0⟩, ⟨3, 1, [.int .i64 p2], 0⟩, ⟨34, 5, [.agg [.int .i64 x7.Time, .vs 1 (Wq (Wr .i64) x7.States), .vs 1 (Wq (Wr .i64) x7.Since), .sl (n + 5) 0 0 (x7.Pulled).length, .vs 1 (Wq Ws x7.Held)]], 0⟩, ⟨3, 1, [], 0 + 1⟩, ⟨3, 1, [], 0 + 1⟩, ⟨4, 1, Wq Ws x7.Pulled, 0⟩]) hn 4 rfl (Ya (fun _ => .int _ _)) ⟨Vl rfl, Vl rfl, trivial⟩ ⟨.refl _, .refl _, Yr ⟨Vl rfl, Vl rfl, Zj rfl rfl rfl (Vx rfl), Vl rfl, Vl rfl, trivial⟩, .refl _, .refl _, .refl _, trivial⟩) ?_
    refine Weak.trans (Xm (E' := [(6, .ptr (n + 2) 0 0 0), (7, .int .i64 0)]) (loc1 := [⟨34, 5, [.agg [.int .i64 p1.Time, .vs 1 (Wq (Wr .i64) p1.States), .vs 1 (Wq (Wr .i64) p1.Since), .vs 1 (Wq Ws p1.Pulled), .vs 1 (Wq Ws p1.Held)]], 0⟩, ⟨3, 1, [.int .i64 p2], 0⟩, ⟨34, 5, [.agg [.int .i64 x7.Time, .vs 1 (Wq (Wr .i64) x7.States), .vs 1 (Wq (Wr .i64) x7.Since), .vs 1 (Wq Ws x7.Pulled), .vs 1 (Wq Ws x7.Held)]], 0⟩, ⟨3, 1, [], 0 + 1⟩, ⟨3, 1, [], 0 + 1⟩, ⟨4, 1, [], 0 + 1⟩]) hn 5 rfl (Ya (fun _ => .bool _)) ⟨Vl rfl, Vl rfl, trivial⟩ ⟨.refl _, .refl _, Yr ⟨Vl rfl, Vl rfl, Vl rfl, Zj rfl rfl rfl (Vx rfl), Vl rfl, trivial⟩, .refl _, .refl _, .refl _, trivial⟩) ?_
    exact Vt hn [(2, 0)] (by decide) ⟨Yj 0 2 rfl rfl, Vr rfl (.int _ _), trivial⟩ ⟨⟨_, rfl, rfl, .same _ _ _ _ (Xt ⟨Xw ⟨.int _ _, .vs _ _, .vs _ _, .vs _ _, .vs _ _, trivial⟩, trivial⟩)⟩, trivial⟩
 ·rintro _ _ _ _ ⟨he, hw⟩
  refine ⟨_, _, _, hw, ?_⟩
  exact Zm hn 0 rfl (Wu rfl) he [.agg [.int .i64 r.1.Time, .vs 1 (Wq (Wr .i64) r.1.States), .vs 1 (Wq (Wr .i64) r.1.Since), .vs 1 (Wq Ws r.1.Pulled), .vs 1 (Wq Ws r.1.Held)], .int .i64 r.2] ⟨Vv rfl (Ve hn rfl) rfl ta_34 ts_34 rfl rfl rfl, rfl, trivial⟩ ((lt_tup ⟨(Xw ⟨.int _ _, .vs _ _, .vs _ _, .vs _ _, .vs _ _, trivial⟩), .int _ _, trivial⟩)) trivial ⟨rfl, rfl⟩

theorem F_ref39_Restore_ok {p0 : List T_Belt} {p1 : T_Line} {p2 : Int} {r : T_Line × Int} (hF : F_ref39_Restore p0 p1 p2 = some r) (low : List AObj) {n : Nat} (hn : low.length = n) :
    Ys Try.prog 49 [.vs 2 (Wq T_Belt.enc p0), .agg [.int .i64 p1.Time, .vs 1 (Wq (Wr .i64) p1.States), .vs 1 (Wq (Wr .i64) p1.Since), .vs 1 (Wq Ws p1.Pulled), .vs 1 (Wq Ws p1.Held)], .int .i64 p2] low fun x low' => x = .tup [.agg [.int .i64 r.1.Time, .sl (n + 0) 0 0 (r.1.States).length, .sl (n + 1) 0 0 (r.1.Since).length, .sl (n + 2) 0 0 (r.1.Pulled).length, .vs 1 (Wq Ws r.1.Held)], .int .i64 r.2] ∧ low' = low ++ [⟨3, 1, Wq (Wr .i64) r.1.States, 0⟩, ⟨3, 1, Wq (Wr .i64) r.1.Since, 0⟩, ⟨4, 1, Wq Ws r.1.Pulled, 0⟩] := by
 refine Vz (nt := 31) (rs := [.cell 6 34, .tmp 7]) Try.func49 rfl rfl (Wu rfl) rfl ?_
 refine Vw (Q' := FnE (fun E' lw lc => Yb E' lw lc [(6, .ptr (n + 3) 0 0 0), (7, .int .i64 r.2)] low [⟨3, 1, Wq (Wr .i64) r.1.States, 0⟩, ⟨3, 1, Wq (Wr .i64) r.1.Since, 0⟩, ⟨4, 1, Wq Ws r.1.Pulled, 0⟩, ⟨34, 5, [.agg [.int .i64 r.1.Time, .sl (n + 0) 0 0 (r.1.States).length, .sl (n + 1) 0 0 (r.1.Since).length, .sl (n + 2) 0 0 (r.1.Pulled).length, .vs 1 (Wq Ws r.1.Held)]], 0⟩])) ?_ ?_
 ·unfold F_ref39_Restore at hF
  refine Vi ?_
  refine Vd ?_
  refine Vj (Zc hn rfl (v := .agg [.int .i64 p1.Time, .vs 1 (Wq (Wr .i64) p1.States), .vs 1 (Wq (Wr .i64) p1.Since), .vs 1 (Wq Ws p1.Pulled), .vs 1 (Wq Ws p1.Held)]) rfl rfl (Wv _) rfl rfl) rfl ?_
  refine Vj (Xe hn rfl tz_34 rfl rfl (Wv _) rfl) rfl ?_
  refine Va (Xa rfl) rfl ?_
  refine Vf ?_
  refine Vi ?_
  refine Vd ?_
  obtain ⟨x1, h2, hF⟩ := Yt hF
  refine Va (Vv (ds := [.int .i64 p1.Time, .vs 1 (Wq (Wr .i64) p1.States), .vs 1 (Wq (Wr .i64) p1.Since), .vs 1 (Wq Ws p1.Pulled), .vs 1 (Wq Ws p1.Held)]) rfl (Ve hn rfl) rfl ta_34 ts_34 rfl rfl rfl) rfl ?_
  refine Vj (Xg (r := .agg [.int .i64 x1.Time, .sl (n + 2) 0 0 (x1.States).length, .sl (n + 3) 0 0 (x1.Since).length, .sl (n + 4) 0 0 (x1.Pulled).length, .sl (n + 5) 0 0 (x1.Held).length]) (os := [⟨3, 1, Wq (Wr .i64) x1.States, 0⟩, ⟨3, 1, Wq (Wr .i64) x1.Since, 0⟩, ⟨4, 1, Wq Ws x1.Pulled, 0⟩, ⟨4, 1, Wq Ws x1.Held, 0⟩]) rfl Try.call23 (F_ref39_Copy_ok h2 _ (Xi hn rfl))) rfl ?_
  refine Vj (Vy (p := .agg [.int .i64 x1.Time, .sl (n + 2) 0 0 (x1.States).length, .sl (n + 3) 0 0 (x1.Since).length, .sl (n + 4) 0 0 (x1.Pulled).length, .sl (n + 5) 0 0 (x1.Held).length]) (e' := .agg [.int .i64 x1.Time, .sl (n + 2) 0 0 (x1.States).length, .sl (n + 3) 0 0 (x1.Since).length, .sl (n + 4) 0 0 (x1.Pulled).length, .sl (n + 5) 0 0 (x1.Held).length]) rfl (Ve hn rfl) rfl rfl ts_34 rfl (Ye rfl) rfl (Wu rfl) rfl (Xr hn rfl)) rfl ?_
  refine Vf ?_
  refine Vi ?_
  refine Vi ?_
  refine Vd ?_
  obtain ⟨x3, h4, hF⟩ := Yt hF
  refine Va (Xc rfl) rfl ?_
  refine Va (Vv (ds := [.int .i64 x1.Time, .sl (n + 2) 0 0 (x1.States).length, .sl (n + 3) 0 0 (x1.Since).length, .sl (n + 4) 0 0 (x1.Pulled).length, .sl (n + 5) 0 0 (x1.Held).length]) rfl (Ve hn rfl) rfl ta_34 ts_34 rfl rfl rfl) rfl ?_
  refine Va (Vk rfl) rfl ?_
  refine Vj (vef_callB (vs := [.vs 2 (Wq T_Belt.enc p0), .agg [.int .i64 x1.Time, .vs 1 (Wq (Wr .i64) x1.States), .vs 1 (Wq (Wr .i64) x1.Since), .vs 1 (Wq Ws x1.Pulled), .vs 1 (Wq Ws x1.Held)], .int .i64 p2]) rfl Try.call57 ⟨Za rfl (.vs _ _), view_agg rfl ⟨Za rfl (.int _ _), Zi rfl (Ve hn rfl) rfl rfl (Ya (fun _ => .int _ _)) (Vx rfl), Zi rfl (Ve hn rfl) rfl rfl (Ya (fun _ => .int _ _)) (Vx rfl), Zi rfl (Ve hn rfl) rfl rfl (Ya (fun _ => .bool _)) (Vx rfl), Zi rfl (Ve hn rfl) rfl rfl (Ya (fun _ => .bool _)) (Vx rfl), trivial⟩, Za rfl (.int _ _), trivial⟩ ((F_ref39_check_ok h4 []).mono fun _ _ h => h.1) (.int _ _)) rfl ?_
  refine Va (Xa rfl) rfl ?_
  refine Vf ?_
  refine Vi ?_
  refine Vd ?_
  refine Va (Vk rfl) rfl ?_
  refine Va (Ze rfl rfl) rfl ?_
  refine Vf ?_
  refine Xh rfl (fun c5 => ?_) (fun c5 => ?_)
  ·have hF := Yo c5 hF
   refine Vi ?_
   refine Vd ?_
   refine Va (Vv (ds := [.int .i64 x1.Time, .sl (n + 2) 0 0 (x1.States).length, .sl (n + 3) 0 0 (x1.Since).length, .sl (n + 4) 0 0 (x1.Pulled).length, .sl (n + 5) 0 0 (x1.Held).length]) rfl (Ve hn rfl) rfl ta_34 ts_34 rfl rfl rfl) rfl ?_
   refine Va (Vk rfl) rfl ?_
   refine Vj (Vy (p := .agg [.int .i64 x1.Time, .sl (n + 2) 0 0 (x1.States).length, .sl (n + 3) 0 0 (x1.Since).length, .sl (n + 4) 0 0 (x1.Pulled).length, .sl (n + 5) 0 0 (x1.Held).length]) (e' := .agg [.int .i64 x1.Time, .sl (n + 2) 0 0 (x1.States).length, .sl (n + 3) 0 0 (x1.Since).length, .sl (n + 4) 0 0 (x1.Pulled).length, .sl (n + 5) 0 0 (x1.Held).length]) rfl (Ve hn rfl) rfl rfl ts_34 rfl (Ye rfl) rfl (Wu rfl) rfl (Xr hn rfl)) rfl ?_
   refine Va (Xa rfl) rfl ?_
   refine Vf ?_
   refine Xb ?_
   obtain rfl := Wt hF
   refine Wg ?_
   refine Weak.trans (Xm (E' := [(6, .ptr (n + 1) 0 0 0), (7, .int .i64 x3)]) (loc1 := [⟨34, 5, [.agg [.int .i64 x1.Time, .sl (n + 2) 0 0 (x1.States).length, .sl (n + 3) 0 0 (x1.Since).length, .sl (n + 4) 0 0 (x1.Pulled).length, .vs 1 (Wq Ws x1.Held)]], 0⟩, ⟨34, 5, [.agg [.int .i64 x1.Time, .sl (n + 2) 0 0 (x1.States).length, .sl (n + 3) 0 0 (x1.Since).length, .sl (n + 4) 0 0 (x1.Pulled).length, .vs 1 (Wq Ws x1.Held)]], 0⟩, ⟨3, 1, Wq (Wr .i64) x1.States, 0⟩, ⟨3, 1, Wq (Wr .i64) x1.Since, 0⟩, ⟨4, 1, Wq Ws x1.Pulled, 0⟩, ⟨4, 1, [], 0 + 1⟩]) hn 5 rfl (Ya (fun _ => .bool _)) ⟨Vl rfl, Vl rfl, trivial⟩ ⟨Yr ⟨Vl rfl, Vl rfl, Vl rfl, Vl rfl, Zj rfl rfl rfl (Vx rfl), trivial⟩, Yr ⟨Vl rfl, Vl rfl, Vl rfl, Vl rfl, Zj rfl rfl rfl (Vx rfl), trivial⟩, .refl _, .refl _, .refl _, .refl _, trivial⟩) ?_
   exact Vt hn [(2, 0), (3, 0), (4, 0), (1, 0)] (by decide) ⟨Yj 3 1 rfl rfl, Vr rfl (.int _ _), trivial⟩ ⟨⟨_, rfl, rfl, .same _ _ _ _ (Vh (fun _ => .int _ _))⟩, ⟨_, rfl, rfl, .same _ _ _ _ (Vh (fun _ => .int _ _))⟩, ⟨_, rfl, rfl, .same _ _ _ _ (Vh (fun _ => .bool _))⟩, ⟨_, rfl, rfl, .agg _ _ _ _ _ ⟨Vr rfl (.int _ _), Xq 0 2 rfl rfl, Xq 1 3 rfl rfl, Xq 2 4 rfl rfl, Vr rfl (.vs _ _), trivial⟩⟩, trivial⟩
  ·have hF := Yp c5 hF
   refine Xn ?_
   refine Vi ?_
   refine Vi ?_
   refine Vd ?_
   obtain ⟨x6, h7, hF⟩ := Yt hF
   refine Va (Vc rfl tf_34_3 ts_32 (by decide)) rfl ?_
   refine Va (Vg rfl (Ve hn rfl) rfl ta_32 rfl) rfl ?_
   refine Va (Vk rfl) rfl ?_
   refine Va (Wa rfl rfl rfl (Ve hn rfl) h7 te_32 ts_4) rfl ?_
   refine Va (rd_ldL1 rfl (Ve hn rfl) (Zb h7).2 ta_4 rfl) rfl ?_
   refine Va (Zp rfl) rfl ?_
   refine Vf ?_
   refine Xh rfl (fun c8 => ?_) (fun c8 => ?_)
   ·have hF := Yo c8 hF
    refine Vi ?_
    refine Vd ?_
    refine Va (Vv (ds := [.int .i64 x1.Time, .sl (n + 2) 0 0 (x1.States).length, .sl (n + 3) 0 0 (x1.Since).length, .sl (n + 4) 0 0 (x1.Pulled).length, .sl (n + 5) 0 0 (x1.Held).length]) rfl (Ve hn rfl) rfl ta_34 ts_34 rfl rfl rfl) rfl ?_
    refine Vj (Vy (p := .agg [.int .i64 x1.Time, .sl (n + 2) 0 0 (x1.States).length, .sl (n + 3) 0 0 (x1.Since).length, .sl (n + 4) 0 0 (x1.Pulled).length, .sl (n + 5) 0 0 (x1.Held).length]) (e' := .agg [.int .i64 x1.Time, .sl (n + 2) 0 0 (x1.States).length, .sl (n + 3) 0 0 (x1.Since).length, .sl (n + 4) 0 0 (x1.Pulled).length, .sl (n + 5) 0 0 (x1.Held).length]) rfl (Ve hn rfl) rfl rfl ts_34 rfl (Ye rfl) rfl (Wu rfl) rfl (Xr hn rfl)) rfl ?_
    refine Va (Xa rfl) rfl ?_
    refine Vf ?_
    refine Xb ?_
    obtain rfl := Wt hF
    refine Wg ?_
    refine Weak.trans (Xm (E' := [(6, .ptr (n + 1) 0 0 0), (7, .int .i64 10)]) (loc1 := [⟨34, 5, [.agg [.int .i64 x1.Time, .sl (n + 2) 0 0 (x1.States).length, .sl (n + 3) 0 0 (x1.Since).length, .sl (n + 4) 0 0 (x1.Pulled).length, .vs 1 (Wq Ws x1.Held)]], 0⟩, ⟨34, 5, [.agg [.int .i64 x1.Time, .sl (n + 2) 0 0 (x1.States).length, .sl (n + 3) 0 0 (x1.Since).length, .sl (n + 4) 0 0 (x1.Pulled).length, .vs 1 (Wq Ws x1.Held)]], 0⟩, ⟨3, 1, Wq (Wr .i64) x1.States, 0⟩, ⟨3, 1, Wq (Wr .i64) x1.Since, 0⟩, ⟨4, 1, Wq Ws x1.Pulled, 0⟩, ⟨4, 1, [], 0 + 1⟩]) hn 5 rfl (Ya (fun _ => .bool _)) ⟨Vl rfl, Vl rfl, trivial⟩ ⟨Yr ⟨Vl rfl, Vl rfl, Vl rfl, Vl rfl, Zj rfl rfl rfl (Vx rfl), trivial⟩, Yr ⟨Vl rfl, Vl rfl, Vl rfl, Vl rfl, Zj rfl rfl rfl (Vx rfl), trivial⟩, .refl _, .refl _, .refl _, .refl _, trivial⟩) ?_
    exact Vt hn [(2, 0), (3, 0), (4, 0), (1, 0)] (by decide) ⟨Yj 3 1 rfl rfl, Vr rfl (.int _ _), trivial⟩ ⟨⟨_, rfl, rfl, .same _ _ _ _ (Vh (fun _ => .int _ _))⟩, ⟨_, rfl, rfl, .same _ _ _ _ (Vh (fun _ => .int _ _))⟩, ⟨_, rfl, rfl, .same _ _ _ _ (Vh (fun _ => .bool _))⟩, ⟨_, rfl, rfl, .agg _ _ _ _ _ ⟨Vr rfl (.int _ _), Xq 0 2 rfl rfl, Xq 1 3 rfl rfl, Xq 2 4 rfl rfl, Vr rfl (.vs _ _), trivial⟩⟩, trivial⟩
   ·have hF := Yp c8 hF
    refine Xn ?_
    refine Vi ?_
    refine Vd ?_
    obtain ⟨x9, h10, hF⟩ := Yt hF
    refine Va (Vc rfl tf_34_3 ts_32 (by decide)) rfl ?_
    refine Va (Vg rfl (Ve hn rfl) rfl ta_32 rfl) rfl ?_
    refine Va (Vk rfl) rfl ?_
    refine Va (Wa rfl rfl rfl (Ve hn rfl) h10 te_32 ts_4) rfl ?_
    refine Vj (Wl (p := .bool false) (e' := false) rfl (Ve hn rfl) (Zb h10).2 rfl ts_4 rfl (Ye rfl) (Wu rfl) rfl (Xr hn rfl)) rfl ?_
    refine Vf ?_
    refine Vi ?_
    refine Vd ?_
    refine Va (Vv (ds := [.int .i64 x1.Time, .sl (n + 2) 0 0 (x1.States).length, .sl (n + 3) 0 0 (x1.Since).length, .sl (n + 4) 0 0 (x1.Pulled).length, .sl (n + 5) 0 0 (x1.Held).length]) rfl (Ve hn rfl) rfl ta_34 ts_34 rfl rfl rfl) rfl ?_
    refine Vj (Vy (p := .agg [.int .i64 x1.Time, .sl (n + 2) 0 0 (x1.States).length, .sl (n + 3) 0 0 (x1.Since).length, .sl (n + 4) 0 0 (x1.Pulled).length, .sl (n + 5) 0 0 (x1.Held).length]) (e' := .agg [.int .i64 x1.Time, .sl (n + 2) 0 0 (x1.States).length, .sl (n + 3) 0 0 (x1.Since).length, .sl (n + 4) 0 0 (x1.Pulled).length, .sl (n + 5) 0 0 (x1.Held).length]) rfl (Ve hn rfl) rfl rfl ts_34 rfl (Ye rfl) rfl (Wu rfl) rfl (Xr hn rfl)) rfl ?_
    refine Va (Xa rfl) rfl ?_
    refine Vf ?_
    refine Xb ?_
    obtain rfl := Wt hF
    refine Wg ?_
    refine Weak.trans (Xm (E' := [(6, .ptr (n + 1) 0 0 0), (7, .int .i64 0)]) (loc1 := [⟨34, 5, [.agg [.int .i64 x1.Time, .sl (n + 2) 0 0 (x1.States).length, .sl (n + 3) 0 0 (x1.Since).length, .sl (n + 4) 0 0 (x1.Pulled).length, .vs 1 (Wq Ws x1.Held)]], 0⟩, ⟨34, 5, [.agg [.int .i64 x1.Time, .sl (n + 2) 0 0 (x1.States).length, .sl (n + 3) 0 0 (x1.Since).length, .sl (n + 4) 0 0 (x1.Pulled).length, .vs 1 (Wq Ws x1.Held)]], 0⟩, ⟨3, 1, Wq (Wr .i64) x1.States, 0⟩, ⟨3, 1, Wq (Wr .i64) x1.Since, 0⟩, ⟨4, 1, Wq Ws (x1.Pulled.set ((p2).toNat) false), 0⟩, ⟨4, 1, [], 0 + 1⟩]) hn 5 rfl (Ya (fun _ => .bool _)) ⟨Vl rfl, Vl rfl, trivial⟩ ⟨Yr ⟨Vl rfl, Vl rfl, Vl rfl, Vl rfl, Zj rfl rfl rfl (Vx rfl), trivial⟩, Yr ⟨Vl rfl, Vl rfl, Vl rfl, Vl rfl, Zj rfl rfl rfl (Vx rfl), trivial⟩, .refl _, .refl _, .refl _, .refl _, trivial⟩) ?_
    exact Vt hn [(2, 0), (3, 0), (4, 0), (1, 0)] (by decide) ⟨Yj 3 1 rfl rfl, Vr rfl (.int _ _), trivial⟩ ⟨⟨_, rfl, rfl, .same _ _ _ _ (Vh (fun _ => .int _ _))⟩, ⟨_, rfl, rfl, .same _ _ _ _ (Vh (fun _ => .int _ _))⟩, ⟨_, rfl, rfl, .same _ _ _ _ (Vh (fun _ => .bool _))⟩, ⟨_, rfl, rfl, .agg _ _ _ _ _ ⟨Vr rfl (.int _ _), Xq 0 2 rfl rfl, Xq 1 3 rfl rfl, Xq 2 4 rfl (congrArg (PV.sl _ _ 0) (Eq.trans rfl List.length_set.symm)), Vr rfl (.vs _ _), trivial⟩⟩, trivial⟩
 ·rintro _ _ _ _ ⟨he, hw⟩
  refine ⟨_, _, _, hw, ?_⟩
  exact Zm hn 3 rfl (Wu rfl) he [.agg [.int .i64 r.1.Time, .sl (n + 0) 0 0 (r.1.States).length, .sl (n + 1) 0 0 (r.1.Since).length, .sl (n + 2) 0 0 (r.1.Pulled).length, .vs 1 (Wq Ws r.1.Held)], .int .i64 r.2] ⟨Vv rfl (Ve hn rfl) rfl ta_34 ts_34 rfl rfl rfl, rfl, trivial⟩ ((lt_tup ⟨(Xw ⟨.int _ _, .sl _ _ _ _ (Zw rfl), .sl _ _ _ _ (Zw rfl), .sl _ _ _ _ (Zw rfl), .vs _ _, trivial⟩), .int _ _, trivial⟩)) ⟨Vh (fun _ => .int _ _), Vh (fun _ => .int _ _), Vh (fun _ => .bool _), trivial⟩ ⟨rfl, rfl⟩

theorem F_belts_Hold_1_ok0 {p0 : T_Line} {p1 : Bool} {p2 : List T_Belt} {p3 : Int} {r : T_Line} (hF : F_belts_Hold_1 p0 p1 p2 p3 = some r) {low0 : List AObj} {q0 q1 q2 q3 q4 q5 q6 q7 w0 w1 w2 w3 w4 w5 w6 w7 : Nat} (hB : Bor low0 [q0, q1, q2, q3, q4, q5, q6, q7]) {m1 : Nat} (hm1 : m1 = (p0.States).length) {m2 : Nat} (hm2 : m2 = (p0.Since).length) {m3 : Nat} (hm3 : m3 = (p0.Pulled).length) {m4 : Nat} (hm4 : m4 = (p0.Held).length) {n : Nat} (hn : low0.length = n) :
    Ys Try.prog 53 [.ptr q0 w0 0 0, .ptr q5 w5 0 0, .ptr q6 w6 0 0, .ptr q7 w7 0 0] (setL low0 [(q0, ⟨34, 5, [.agg [.int .i64 p0.Time, .sl q1 w1 0 m1, .sl q2 w2 0 m2, .sl q3 w3 0 m3, .sl q4 w4 0 m4]], w0⟩), (q1, ⟨3, 1, Wq (Wr .i64) p0.States, w1⟩), (q2, ⟨3, 1, Wq (Wr .i64) p0.Since, w2⟩), (q3, ⟨4, 1, Wq Ws p0.Pulled, w3⟩), (q4, ⟨4, 1, Wq Ws p0.Held, w4⟩), (q5, ⟨4, 1, [.bool p1], w5⟩), (q6, ⟨27, 1, [.vs 2 (Wq T_Belt.enc p2)], w6⟩), (q7, ⟨3, 1, [.int .i64 p3], w7⟩)]) fun x low' => x = .tup [] ∧ low' = setL low0 [(q0, ⟨34, 5, [.agg [.int .i64 r.Time, .sl q1 w1 0 m1, .sl q2 w2 0 m2, .sl q3 w3 0 m3, .sl q4 w4 0 m4]], w0⟩), (q1, ⟨3, 1, Wq (Wr .i64) r.States, w1⟩), (q2, ⟨3, 1, Wq (Wr .i64) r.Since, w2⟩), (q3, ⟨4, 1, Wq Ws r.Pulled, w3⟩), (q4, ⟨4, 1, Wq Ws r.Held, w4⟩), (q5, ⟨4, 1, [.bool p1], w5⟩), (q6, ⟨27, 1, [.vs 2 (Wq T_Belt.enc p2)], w6⟩), (q7, ⟨3, 1, [.int .i64 p3], w7⟩)] ++ [] := by
 refine Vz (nt := 17) (rs := []) Try.func53 rfl rfl (Wu rfl) rfl ?_
 have hq0 : q0 < n := hB.ltN hn 0 rfl
 have hq1 : q1 < n := hB.ltN hn 1 rfl
 have hq2 : q2 < n := hB.ltN hn 2 rfl
 have hq3 : q3 < n := hB.ltN hn 3 rfl
 have hq4 : q4 < n := hB.ltN hn 4 rfl
 have hq5 : q5 < n := hB.ltN hn 5 rfl
 have hq6 : q6 < n := hB.ltN hn 6 rfl
 have hq7 : q7 < n := hB.ltN hn 7 rfl
 refine Vw (Q' := FnE (fun E' lw lc => m1 = (r.States).length ∧ m2 = (r.Since).length ∧ m3 = (r.Pulled).length ∧ m4 = (r.Held).length ∧ Yb E' lw lc [] (setL low0 [(q0, ⟨34, 5, [.agg [.int .i64 r.Time, .sl q1 w1 0 m1, .sl q2 w2 0 m2, .sl q3 w3 0 m3, .sl q4 w4 0 m4]], w0⟩), (q1, ⟨3, 1, Wq (Wr .i64) r.States, w1⟩), (q2, ⟨3, 1, Wq (Wr .i64) r.Since, w2⟩), (q3, ⟨4, 1, Wq Ws r.Pulled, w3⟩), (q4, ⟨4, 1, Wq Ws r.Held, w4⟩), (q5, ⟨4, 1, [.bool p1], w5⟩), (q6, ⟨27, 1, [.vs 2 (Wq T_Belt.enc p2)], w6⟩), (q7, ⟨3, 1, [.int .i64 p3], w7⟩)]) [])) ?_ ?_
 ·unfold F_belts_Hold_1 at hF
  refine Vi ?_
  refine Vi ?_
  refine Vd ?_
  refine Va (Vg rfl (Yw hB rfl 5 rfl) rfl ta_4 rfl) rfl ?_
  refine Vf ?_
  obtain ⟨o5, ho5, hF⟩ := Yt hF
  refine Vw (Q' := (fun o5 => OnlyE .normal (fun E' lw lc => m1 = (o5.2.1).length ∧ m2 = (o5.2.2.1).length ∧ m3 = (o5.2.2.2.1).length ∧ m4 = (o5.2.2.2.2).length ∧ Yb E' lw lc [(0, .ptr q0 w0 0 0), (1, .ptr q5 w5 0 0), (3, .ptr q7 w7 0 0)] (setL low0 [(q0, ⟨34, 5, [.agg [.int .i64 o5.1, .sl q1 w1 0 m1, .sl q2 w2 0 m2, .sl q3 w3 0 m3, .sl q4 w4 0 m4]], w0⟩), (q1, ⟨3, 1, Wq (Wr .i64) o5.2.1, w1⟩), (q2, ⟨3, 1, Wq (Wr .i64) o5.2.2.1, w2⟩), (q3, ⟨4, 1, Wq Ws o5.2.2.2.1, w3⟩), (q4, ⟨4, 1, Wq Ws o5.2.2.2.2, w4⟩), (q5, ⟨4, 1, [.bool p1], w5⟩), (q6, ⟨27, 1, [.vs 2 (Wq T_Belt.enc p2)], w6⟩), (q7, ⟨3, 1, [.int .i64 p3], w7⟩)]) [])) o5) ?_ ?_
  ·replace hF := ho5
   refine Xh rfl (fun c6 => ?_) (fun c6 => ?_)
   ·have hF := Yo c6 hF
    refine Vd ?_
    obtain ⟨x7, h8, hF⟩ := Yt hF
    refine Va (Vg rfl (Yw hB rfl 6 rfl) rfl ta_27 rfl) rfl ?_
    refine Va (Zq rfl) rfl ?_
    refine Va (Vg rfl (Yw hB rfl 7 rfl) rfl ta_3 rfl) rfl ?_
    refine Vj (Zg (ps := [(q0, ⟨34, 5, [.agg [.int .i64 x7.Time, .sl q1 w1 0 m1, .sl q2 w2 0 m2, .sl q3 w3 0 m3, .sl q4 w4 0 m4]], w0⟩), (q1, ⟨3, 1, Wq (Wr .i64) x7.States, w1⟩), (q2, ⟨3, 1, Wq (Wr .i64) x7.Since, w2⟩), (q3, ⟨4, 1, Wq Ws x7.Pulled, w3⟩), (q4, ⟨4, 1, Wq Ws x7.Held, w4⟩)]) (r := .tup []) (os := []) (low1 := (setL low0 [(q0, ⟨34, 5, [.agg [.int .i64 x7.Time, .sl q1 w1 0 m1, .sl q2 w2 0 m2, .sl q3 w3 0 m3, .sl q4 w4 0 m4]], w0⟩), (q1, ⟨3, 1, Wq (Wr .i64) x7.States, w1⟩), (q2, ⟨3, 1, Wq (Wr .i64) x7.Since, w2⟩), (q3, ⟨4, 1, Wq Ws x7.Pulled, w3⟩), (q4, ⟨4, 1, Wq Ws x7.Held, w4⟩), (q5, ⟨4, 1, [.bool p1], w5⟩), (q6, ⟨27, 1, [.vs 2 (Wq T_Belt.enc p2)], w6⟩), (q7, ⟨3, 1, [.int .i64 p3], w7⟩)])) (loc1 := []) (loc2 := []) rfl Try.call36 (F_belts_stop_ok h8 (nd1 (Zs (hB.ne 0 1 rfl rfl rfl) (Zs (hB.ne 0 2 rfl rfl rfl) (Zs (hB.ne 0 3 rfl rfl rfl) (Zs (hB.ne 0 4 rfl rfl rfl) na0)))) (nd1 (Zs (hB.ne 1 2 rfl rfl rfl) (Zs (hB.ne 1 3 rfl rfl rfl) (Zs (hB.ne 1 4 rfl rfl rfl) na0))) (nd1 (Zs (hB.ne 2 3 rfl rfl rfl) (Zs (hB.ne 2 4 rfl rfl rfl) na0)) (nd1 (Zs (hB.ne 3 4 rfl rfl rfl) na0) (nd1 na0 nd0))))) hm1 hm2 hm3 hm4 (Wp hB rfl 0 rfl) (Wp hB rfl 1 rfl) (Wp hB rfl 2 rfl) (Wp hB rfl 3 rfl) (Wp hB rfl 4 rfl) (Xi (Vs hn) rfl)) (Wd (ps0' := [(q0, ⟨34, 5, [.agg [.int .i64 x7.Time, .sl q1 w1 0 m1, .sl q2 w2 0 m2, .sl q3 w3 0 m3, .sl q4 w4 0 m4]], w0⟩), (q1, ⟨3, 1, Wq (Wr .i64) p0.States, w1⟩), (q2, ⟨3, 1, Wq (Wr .i64) p0.Since, w2⟩), (q3, ⟨4, 1, Wq Ws p0.Pulled, w3⟩), (q4, ⟨4, 1, Wq Ws p0.Held, w4⟩), (q5, ⟨4, 1, [.bool p1], w5⟩), (q6, ⟨27, 1, [.vs 2 (Wq T_Belt.enc p2)], w6⟩), (q7, ⟨3, 1, [.int .i64 p3], w7⟩)]) hB rfl 0 rfl (ltObjN hn ⟨Xw ⟨.int _ _, .sl _ _ _ _ hq1, .sl _ _ _ _ hq2, .sl _ _ _ _ hq3, .sl _ _ _ _ hq4, trivial⟩, trivial⟩) rfl (Wd (ps0' := [(q0, ⟨34, 5, [.agg [.int .i64 x7.Time, .sl q1 w1 0 m1, .sl q2 w2 0 m2, .sl q3 w3 0 m3, .sl q4 w4 0 m4]], w0⟩), (q1, ⟨3, 1, Wq (Wr .i64) x7.States, w1⟩), (q2, ⟨3, 1, Wq (Wr .i64) p0.Since, w2⟩), (q3, ⟨4, 1, Wq Ws p0.Pulled, w3⟩), (q4, ⟨4, 1, Wq Ws p0.Held, w4⟩), (q5, ⟨4, 1, [.bool p1], w5⟩), (q6, ⟨27, 1, [.vs 2 (Wq T_Belt.enc p2)], w6⟩), (q7, ⟨3, 1, [.int .i64 p3], w7⟩)]) hB rfl 1 rfl (Vh (fun _ => .int _ _)) rfl (Wd (ps0' := [(q0, ⟨34, 5, [.agg [.int .i64 x7.Time, .sl q1 w1 0 m1, .sl q2 w2 0 m2, .sl q3 w3 0 m3, .sl q4 w4 0 m4]], w0⟩), (q1, ⟨3, 1, Wq (Wr .i64) x7.States, w1⟩), (q2, ⟨3, 1, Wq (Wr .i64) x7.Since, w2⟩), (q3, ⟨4, 1, Wq Ws p0.Pulled, w3⟩), (q4, ⟨4, 1, Wq Ws p0.Held, w4⟩), (q5, ⟨4, 1, [.bool p1], w5⟩), (q6, ⟨27, 1, [.vs 2 (Wq T_Belt.enc p2)], w6⟩), (q7, ⟨3, 1, [.int .i64 p3], w7⟩)]) hB rfl 2 rfl (Vh (fun _ => .int _ _)) rfl (Wd (ps0' := [(q0, ⟨34, 5, [.agg [.int .i64 x7.Time, .sl q1 w1 0 m1, .sl q2 w2 0 m2, .sl q3 w3 0 m3, .sl q4 w4 0 m4]], w0⟩), (q1, ⟨3, 1, Wq (Wr .i64) x7.States, w1⟩), (q2, ⟨3, 1, Wq (Wr .i64) x7.Since, w2⟩), (q3, ⟨4, 1, Wq Ws x7.Pulled, w3⟩), (q4, ⟨4, 1, Wq Ws p0.Held, w4⟩), (q5, ⟨4, 1, [.bool p1], w5⟩), (q6, ⟨27, 1, [.vs 2 (Wq T_Belt.enc p2)], w6⟩), (q7, ⟨3, 1, [.int .i64 p3], w7⟩)]) hB rfl 3 rfl (Vh (fun _ => .bool _)) rfl (Wd (ps0' := [(q0, ⟨34, 5, [.agg [.int .i64 x7.Time, .sl q1 w1 0 m1, .sl q2 w2 0 m2, .sl q3 w3 0 m3, .sl q4 w4 0 m4]], w0⟩), (q1, ⟨3, 1, Wq (Wr .i64) x7.States, w1⟩), (q2, ⟨3, 1, Wq (Wr .i64) x7.Since, w2⟩), (q3, ⟨4, 1, Wq Ws x7.Pulled, w3⟩), (q4, ⟨4, 1, Wq Ws x7.Held, w4⟩), (q5, ⟨4, 1, [.bool p1], w5⟩), (q6, ⟨27, 1, [.vs 2 (Wq T_Belt.enc p2)], w6⟩), (q7, ⟨3, 1, [.int .i64 p3], w7⟩)]) hB rfl 4 rfl (Vh (fun _ => .bool _)) rfl Zl))))) rfl) rfl ?_
    refine Vf ?_
    obtain rfl := Wt hF
    refine And.intro rfl (And.intro ((F_belts_stop_len h8 hm1 hm2 hm3 hm4).1) (And.intro ((F_belts_stop_len h8 hm1 hm2 hm3 hm4).2.1) (And.intro ((F_belts_stop_len h8 hm1 hm2 hm3 hm4).2.2.1) (And.intro ((F_belts_stop_len h8 hm1 hm2 hm3 hm4).2.2.2.1) ?_))))
    exact Vp ⟨rfl, rfl, rfl, trivial⟩
   ·have hF := Yp c6 hF
    refine Xn ?_
    obtain rfl := Wt hF
    refine And.intro rfl (And.intro hm1 (And.intro hm2 (And.intro hm3 (And.intro hm4 ?_))))
    exact Vp ⟨rfl, rfl, rfl, trivial⟩
  ·rintro _ _ _ _ ⟨rfl, hl9, hl10, hl11, hl12, hw⟩
   refine ⟨_, _, _, hw, ?_⟩
   obtain ⟨x13, h14, hF⟩ := Yt hF
   refine Wc [[], [0], [0, 1], [0, 1, 2], [], [], [0, 1, 2, 3, 4, 5], [0, 1, 2, 3, 4, 5, 6]] [false, false, false, false, false, false, false, true] [((setL low0 [(q0, ⟨34, 5, [.agg [.int .i64 o5.1, .sl q1 w1 0 m1, .sl q2 w2 0 m2, .sl q3 w3 0 m3, .sl q4 w4 0 m4]], w0⟩), (q1, ⟨3, 1, Wq (Wr .i64) o5.2.1, w1⟩), (q2, ⟨3, 1, Wq (Wr .i64) o5.2.2.1, w2⟩), (q3, ⟨4, 1, Wq Ws o5.2.2.2.1, w3⟩), (q4, ⟨4, 1, Wq Ws o5.2.2.2.2, w4⟩), (q5, ⟨4, 1, [.bool p1], w5⟩), (q6, ⟨27, 1, [.vs 2 (Wq T_Belt.enc p2)], w6⟩), (q7, ⟨3, 1, [.int .i64 p3], w7⟩)]), []), ((setL low0 [(q0, ⟨34, 5, [.agg [.int .i64 o5.1, .sl q1 w1 0 m1, .sl q2 w2 0 m2, .sl q3 w3 0 m3, .sl q4 w4 0 m4]], w0⟩), (q1, ⟨3, 1, Wq (Wr .i64) o5.2.1, w1⟩), (q2, ⟨3, 1, Wq (Wr .i64) o5.2.2.1, w2⟩), (q3, ⟨4, 1, Wq Ws o5.2.2.2.1, w3⟩), (q4, ⟨4, 1, Wq Ws (o5.2.2.2.2.set ((p3).toNat) p1), w4⟩), (q5, ⟨4, 1, [.bool p1], w5⟩), (q6, ⟨27, 1, [.vs 2 (Wq T_Belt.enc p2)], w6⟩), (q7, ⟨3, 1, [.int .i64 p3], w7⟩)]), [])] mixed (by kernel_rfl) rfl (lenAll (Xx Xo (Xx Xo Zn))) rfl _ rfl rfl ?_
   refine Ym rfl rfl (Zq rfl) ?_
   refine Ym rfl rfl (Zv rfl) ?_
   refine Ym rfl rfl (Vc rfl tf_34_4 ts_32 (by decide)) ?_
   refine Ym rfl rfl (Vg rfl (Yw hB rfl 0 rfl) rfl ta_32 rfl) ?_
   refine Ym rfl rfl (Vg rfl (Yw hB rfl 7 rfl) rfl ta_3 rfl) ?_
   refine Ym rfl rfl (Vg rfl (Yw hB rfl 5 rfl) rfl ta_4 rfl) ?_
   refine Ym rfl rfl (Wa rfl hl12 rfl (Yw hB rfl 4 rfl) h14 te_32 ts_4) ?_
   refine Zh rfl rfl rfl (Wl (p := .bool p1) (e' := p1) rfl (Yw hB rfl 4 rfl) (Zb h14).2 rfl ts_4 rfl (Ye rfl) (Wu rfl) rfl (setO_B hB rfl 4 rfl (Vh (fun _ => .bool _)) rfl)) ?_
   refine Yz ?_
   obtain rfl := Wt hF
   refine And.intro (.inl rfl) (And.intro hl9 (And.intro hl10 (And.intro hl11 (And.intro (Eq.trans hl12 List.length_set.symm) ?_))))
   exact Vp trivial
 ·rintro _ _ _ _ ⟨he, hl1, hl2, hl3, hl4, hw⟩
  refine ⟨_, _, _, hw, ?_⟩
  exact Zd he [] trivial ((lt_tup trivial)) ⟨rfl, (List.append_nil _).symm⟩

theorem F_belts_Hold_1_len {p0 : T_Line} {p1 : Bool} {p2 : List T_Belt} {p3 : Int} {r : T_Line} (hF : F_belts_Hold_1 p0 p1 p2 p3 = some r) {m1 : Nat} (hm1 : m1 = (p0.States).length) {m2 : Nat} (hm2 : m2 = (p0.Since).length) {m3 : Nat} (hm3 : m3 = (p0.Pulled).length) {m4 : Nat} (hm4 : m4 = (p0.Held).length) : m1 = (r.States).length ∧ m2 = (r.Since).length ∧ m3 = (r.Pulled).length ∧ m4 = (r.Held).length ∧ True := by
  have h : LP (F_belts_Hold_1 p0 p1 p2 p3) (fun r => m1 = (r.States).length ∧ m2 = (r.Since).length ∧ m3 = (r.Pulled).length ∧ m4 = (r.Held).length ∧ True) := by
    unfold F_belts_Hold_1
    exact (lp_bind (Q := fun o5 => m1 = (o5.2.1).length ∧ m2 = (o5.2.2.1).length ∧ m3 = (o5.2.2.2.1).length ∧ m4 = (o5.2.2.2.2).length ∧ True) (lp_bif (fun c6 => Wn fun x7 h8 => Wm ⟨(F_belts_stop_len h8 hm1 hm2 hm3 hm4).1, (F_belts_stop_len h8 hm1 hm2 hm3 hm4).2.1, (F_belts_stop_len h8 hm1 hm2 hm3 hm4).2.2.1, (F_belts_stop_len h8 hm1 hm2 hm3 hm4).2.2.2.1, trivial⟩) (fun c6 => Wm ⟨hm1, hm2, hm3, hm4, trivial⟩)) (fun o5 ⟨hl9, hl10, hl11, hl12, _⟩ => Wn fun x13 h14 => Wm ⟨hl9, hl10, hl11, (Eq.trans hl12 List.length_set.symm), trivial⟩))
  exact h r hF

theorem F_belts_Hold_1_ok {p0 : T_Line} {p1 : Bool} {p2 : List T_Belt} {p3 : Int} {r : T_Line} (hF : F_belts_Hold_1 p0 p1 p2 p3 = some r) {low : List AObj} {q0 q1 q2 q3 q4 q5 q6 q7 w0 w1 w2 w3 w4 w5 w6 w7 : Nat} (hnd : [q0, q1, q2, q3, q4, q5, q6, q7].Nodup) {m1 : Nat} (hm1 : m1 = (p0.States).length) {m2 : Nat} (hm2 : m2 = (p0.Since).length) {m3 : Nat} (hm3 : m3 = (p0.Pulled).length) {m4 : Nat} (hm4 : m4 = (p0.Held).length) (hq0 : low[q0]? = some ⟨34, 5, [.agg [.int .i64 p0.Time, .sl q1 w1 0 m1, .sl q2 w2 0 m2, .sl q3 w3 0 m3, .sl q4 w4 0 m4]], w0⟩) (hq1 : low[q1]? = some ⟨3, 1, Wq (Wr .i64) p0.States, w1⟩) (hq2 : low[q2]? = some ⟨3, 1, Wq (Wr .i64) p0.Since, w2⟩) (hq3 : low[q3]? = some ⟨4, 1, Wq Ws p0.Pulled, w3⟩) (hq4 : low[q4]? = some ⟨4, 1, Wq Ws p0.Held, w4⟩) (hq5 : low[q5]? = some ⟨4, 1, [.bool p1], w5⟩) (hq6 : low[q6]? = some ⟨27, 1, [.vs 2 (Wq T_Belt.enc p2)], w6⟩) (hq7 : low[q7]? = some ⟨3, 1, [.int .i64 p3], w7⟩) {n : Nat} (hn : low.length = n) :
    Ys Try.prog 53 [.ptr q0 w0 0 0, .ptr q5 w5 0 0, .ptr q6 w6 0 0, .ptr q7 w7 0 0] low fun x low' => x = .tup [] ∧ low' = setL low [(q0, ⟨34, 5, [.agg [.int .i64 r.Time, .sl q1 w1 0 m1, .sl q2 w2 0 m2, .sl q3 w3 0 m3, .sl q4 w4 0 m4]], w0⟩), (q1, ⟨3, 1, Wq (Wr .i64) r.States, w1⟩), (q2, ⟨3, 1, Wq (Wr .i64) r.Since, w2⟩), (q3, ⟨4, 1, Wq Ws r.Pulled, w3⟩), (q4, ⟨4, 1, Wq Ws r.Held, w4⟩), (q5, ⟨4, 1, [.bool p1], w5⟩), (q6, ⟨27, 1, [.vs 2 (Wq T_Belt.enc p2)], w6⟩), (q7, ⟨3, 1, [.int .i64 p3], w7⟩)] ++ [] := by
  obtain ⟨h1, h2⟩ := We (ps := [(q0, ⟨34, 5, [.agg [.int .i64 p0.Time, .sl q1 w1 0 m1, .sl q2 w2 0 m2, .sl q3 w3 0 m3, .sl q4 w4 0 m4]], w0⟩), (q1, ⟨3, 1, Wq (Wr .i64) p0.States, w1⟩), (q2, ⟨3, 1, Wq (Wr .i64) p0.Since, w2⟩), (q3, ⟨4, 1, Wq Ws p0.Pulled, w3⟩), (q4, ⟨4, 1, Wq Ws p0.Held, w4⟩), (q5, ⟨4, 1, [.bool p1], w5⟩), (q6, ⟨27, 1, [.vs 2 (Wq T_Belt.enc p2)], w6⟩), (q7, ⟨3, 1, [.int .i64 p3], w7⟩)]) hnd (Wf hq0 (Wf hq1 (Wf hq2 (Wf hq3 (Wf hq4 (Wf hq5 (Wf hq6 (Wf hq7 bor0))))))))
  exact Zx h1 (F_belts_Hold_1_ok0 hF h2 hm1 hm2 hm3 hm4 hn)

theorem F_belts_done__belts_Hold_1_ok0 {p0 : T_Line} {pc10 : Bool} {pc11 : List T_Belt} {pc12 : Int} {r : T_Line} (hF : F_belts_done__belts_Hold_1 p0 pc10 pc11 pc12 = some r) {low0 : List AObj} {q0 q1 q2 w0 w1 w2 : Nat} (hB : Bor low0 [q0, q1, q2]) {n : Nat} (hn : low0.length = n) :
    Ys Try.prog 31 [.agg [.int .i64 p0.Time, .vs 1 (Wq (Wr .i64) p0.States), .vs 1 (Wq (Wr .i64) p0.Since), .vs 1 (Wq Ws p0.Pulled), .vs 1 (Wq Ws p0.Held)], .fn 53 [] [.ptr q0 w0 0 0, .ptr q1 w1 0 0, .ptr q2 w2 0 0]] (setL low0 [(q0, ⟨4, 1, [.bool pc10], w0⟩), (q1, ⟨27, 1, [.vs 2 (Wq T_Belt.enc pc11)], w1⟩), (q2, ⟨3, 1, [.int .i64 pc12], w2⟩)]) fun x low' => x = .agg [.int .i64 r.Time, .sl (n + 0) 0 0 (r.States).length, .sl (n + 1) 0 0 (r.Since).length, .sl (n + 2) 0 0 (r.Pulled).length, .vs 1 (Wq Ws r.Held)] ∧ low' = setL low0 [(q0, ⟨4, 1, [.bool pc10], w0⟩), (q1, ⟨27, 1, [.vs 2 (Wq T_Belt.enc pc11)], w1⟩), (q2, ⟨3, 1, [.int .i64 pc12], w2⟩)] ++ [⟨3, 1, Wq (Wr .i64) r.States, 0⟩, ⟨3, 1, Wq (Wr .i64) r.Since, 0⟩, ⟨4, 1, Wq Ws r.Pulled, 0⟩] := by
 refine Vz (nt := 24) (rs := [.cell 4 34]) Try.func31 rfl rfl (Wu rfl) rfl ?_
 have hq0 : q0 < n := hB.ltN hn 0 rfl
 have hq1 : q1 < n := hB.ltN hn 1 rfl
 have hq2 : q2 < n := hB.ltN hn 2 rfl
 refine Vw (Q' := FnE (fun E' lw lc => Yb E' lw lc [(4, .ptr (n + 3) 0 0 0)] (setL low0 [(q0, ⟨4, 1, [.bool pc10], w0⟩), (q1, ⟨27, 1, [.vs 2 (Wq T_Belt.enc pc11)], w1⟩), (q2, ⟨3, 1, [.int .i64 pc12], w2⟩)]) [⟨3, 1, Wq (Wr .i64) r.States, 0⟩, ⟨3, 1, Wq (Wr .i64) r.Since, 0⟩, ⟨4, 1, Wq Ws r.Pulled, 0⟩, ⟨34, 5, [.agg [.int .i64 r.Time, .sl (n + 0) 0 0 (r.States).length, .sl (n + 1) 0 0 (r.Since).length, .sl (n + 2) 0 0 (r.Pulled).length, .vs 1 (Wq Ws r.Held)]], 0⟩])) ?_ ?_
 ·unfold F_belts_done__belts_Hold_1 at hF
  refine Vi ?_
  refine Vd ?_
  refine Vj (Zc (Vs hn) rfl (v := .agg [.int .i64 p0.Time, .vs 1 (Wq (Wr .i64) p0.States), .vs 1 (Wq (Wr .i64) p0.Since), .vs 1 (Wq Ws p0.Pulled), .vs 1 (Wq Ws p0.Held)]) rfl rfl (Wv _) rfl rfl) rfl ?_
  refine Vj (Xe (Vs hn) rfl tz_34 rfl rfl (Wv _) rfl) rfl ?_
  refine Vf ?_
  refine Vi ?_
  obtain ⟨x1, h2, hF⟩ := Yt hF
  obtain ⟨x3, h4, hF⟩ := Yt hF
  obtain ⟨x5, h6, hF⟩ := Yt hF
  obtain ⟨x7, h8, hF⟩ := Yt hF
  refine Yd (Yy 3 1 (Wv _)) ?_
  refine Yd (Yy 3 1 (Wv _)) ?_
  refine Yd (Yy 4 1 (Wv _)) ?_
  refine Yd (Yy 4 1 (Wv _)) ?_
  refine Yd (Yy 34 5 (Wv _)) ?_
  refine vwp_drawnX [[], [0], [], [2], [2, 3], [], [5], [2, 3, 4, 5, 6], [], [8], [2, 3, 4, 5, 6, 7, 8, 9], [], [11], [2, 3, 4, 5, 6, 7, 8, 9, 10, 11, 12], [0, 1, 2, 3, 4, 5, 6, 7, 8, 9, 10, 11, 12, 13], [], [0, 1, 2, 3, 4, 5, 6, 7, 8, 9, 10, 11, 12, 13, 14, 15]] [false, false, false, false, true, false, false, true, false, false, true, false, false, true, false, true, true] [([], (setL low0 [(q0, ⟨4, 1, [.bool pc10], w0⟩), (q1, ⟨27, 1, [.vs 2 (Wq T_Belt.enc pc11)], w1⟩), (q2, ⟨3, 1, [.int .i64 pc12], w2⟩)]), [⟨34, 5, [.agg [.int .i64 p0.Time, .vs 1 (Wq (Wr .i64) p0.States), .vs 1 (Wq (Wr .i64) p0.Since), .vs 1 (Wq Ws p0.Pulled), .vs 1 (Wq Ws p0.Held)]], 0⟩, ⟨34, 5, [.agg [.int .i64 0, .nils, .nils, .nils, .nils]], 0⟩, ⟨3, 1, [], 0⟩, ⟨3, 1, [], 0⟩, ⟨4, 1, [], 0⟩, ⟨4, 1, [], 0⟩, ⟨34, 5, [], 0⟩]), ([4], (setL low0 [(q0, ⟨4, 1, [.bool pc10], w0⟩), (q1, ⟨27, 1, [.vs 2 (Wq T_Belt.enc pc11)], w1⟩), (q2, ⟨3, 1, [.int .i64 pc12], w2⟩)]), [⟨34, 5, [.agg [.int .i64 p0.Time, .vs 1 (Wq (Wr .i64) p0.States), .vs 1 (Wq (Wr .i64) p0.Since), .vs 1 (Wq Ws p0.Pulled), .vs 1 (Wq Ws p0.Held)]], 0⟩, ⟨34, 5, [.agg [.int .i64 0, .nils, .nils, .nils, .nils]], 0⟩, ⟨3, 1, Wq (Wr .i64) x1, 1⟩, ⟨3, 1, [], 0⟩, ⟨4, 1, [], 0⟩, ⟨4, 1, [], 0⟩, ⟨34, 5, [], 0⟩]), ([15], (setL low0 [(q0, ⟨4, 1, [.bool pc10], w0⟩), (q1, ⟨27, 1, [.vs 2 (Wq T_Belt.enc pc11)], w1⟩), (q2, ⟨3, 1, [.int .i64 pc12], w2⟩)]), [⟨34, 5, [.agg [.int .i64 p0.Time, .vs 1 (Wq (Wr .i64) p0.States), .vs 1 (Wq (Wr .i64) p0.Since), .vs 1 (Wq Ws p0.Pulled), .vs 1 (Wq Ws p0.Held)]], 0⟩, ⟨34, 5, [.agg [.int .i64 0, .nils, .nils, .nils, .nils]], 0⟩, ⟨3, 1, [], 0⟩, ⟨3, 1, [], 0⟩, ⟨4, 1, [], 0⟩, ⟨4, 1, [], 0⟩, ⟨34, 5, [.agg [.int .i64 0, .nils, .nils, .nils, .nils]], 1⟩]), ([4, 7], (setL low0 [(q0, ⟨4, 1, [.bool pc10], w0⟩), (q1, ⟨27, 1, [.vs 2 (Wq T_Belt.enc pc11)], w1⟩), (q2, ⟨3, 1, [.int .i64 pc12], w2⟩)]), [⟨34, 5, [.agg [.int .i64 p0.Time, .vs 1 (Wq (Wr .i64) p0.States), .vs 1 (Wq (Wr .i64) p0.Since), .vs 1 (Wq Ws p0.Pulled), .vs 1 (Wq Ws p0.Held)]], 0⟩, ⟨34, 5, [.agg [.int .i64 0, .nils, .nils, .nils, .nils]], 0⟩, ⟨3, 1, Wq (Wr .i64) x1, 1⟩, ⟨3, 1, Wq (Wr .i64) x3, 1⟩, ⟨4, 1, [], 0⟩, ⟨4, 1, [], 0⟩, ⟨34, 5, [], 0⟩]), ([4, 15], (setL low0 [(q0, ⟨4, 1, [.bool pc10], w0⟩), (q1, ⟨27, 1, [.vs 2 (Wq T_Belt.enc pc11)], w1⟩), (q2, ⟨3, 1, [.int .i64 pc12], w2⟩)]), [⟨34, 5, [.agg [.int .i64 p0.Time, .vs 1 (Wq (Wr .i64) p0.States), .vs 1 (Wq (Wr .i64) p0.Since), .vs 1 (Wq Ws p0.Pulled), .vs 1 (Wq Ws p0.Held)]], 0⟩, ⟨34, 5, [.agg [.int .i64 0, .nils, .nils, .nils, .nils]], 0⟩, ⟨3, 1, Wq (Wr .i64) x1, 1⟩, ⟨3, 1, [], 0⟩, ⟨4, 1, [], 0⟩, ⟨4, 1, [], 0⟩, ⟨34, 5, [.agg [.int .i64 0, .nils, .nils, .nils, .nils]], 1⟩]), ([4, 7, 10], (setL low0 [(q0, ⟨4, 1, [.bool pc10], w0⟩), (q1, ⟨27, 1, [.vs 2 (Wq T_Belt.enc pc11)], w1⟩), (q2, ⟨3, 1, [.int .i64 pc12], w2⟩)]), [⟨34, 5, [.agg [.int .i64 p0.Time, .vs 1 (Wq (Wr .i64) p0.States), .vs 1 (Wq (Wr .i64) p0.Since), .vs 1 (Wq Ws p0.Pulled), .vs 1 (Wq Ws p0.Held)]], 0⟩, ⟨34, 5, [.agg [.int .i64 0, .nils, .nils, .nils, .nils]], 0⟩, ⟨3, 1, Wq (Wr .i64) x1, 1⟩, ⟨3, 1, Wq (Wr .i64) x3, 1⟩, ⟨4, 1, Wq Ws x5, 1⟩, ⟨4, 1, [], 0⟩, ⟨34, 5, [], 0⟩]), ([4, 7, 15], (setL low0 [(q0, ⟨4, 1, [.bool pc10], w0⟩), (q1, ⟨27, 1, [.vs 2 (Wq T_Belt.enc pc11)], w1⟩), (q2, ⟨3, 1, [.int .i64 pc12], w2⟩)]), [⟨34, 5, [.agg [.int .i64 p0.Time, .vs 1 (Wq (Wr .i64) p0.States), .vs 1 (Wq (Wr .i64) p0.Since), .vs 1 (Wq Ws p0.Pulled), .vs 1 (Wq Ws p0.Held)]], 0⟩, ⟨34, 5, [.agg [.int .i64 0, .nils, .nils, .nils, .nils]], 0⟩, ⟨3, 1, Wq (Wr .i64) x1, 1⟩, ⟨3, 1, Wq (Wr .i64) x3, 1⟩, ⟨4, 1, [], 0⟩, ⟨4, 1, [], 0⟩, ⟨34, 5, [.agg [.int .i64 0, .nils, .nils, .nils, .nils]], 1⟩]), ([4, 7, 10, 13], (setL low0 [(q0, ⟨4, 1, [.bool pc10], w0⟩), (q1, ⟨27, 1, [.vs 2 (Wq T_Belt.enc pc11)], w1⟩), (q2, ⟨3, 1, [.int .i64 pc12], w2⟩)]), [⟨34, 5, [.agg [.int .i64 p0.Time, .vs 1 (Wq (Wr .i64) p0.States), .vs 1 (Wq (Wr .i64) p0.Since), .vs 1 (Wq Ws p0.Pulled), .vs 1 (Wq Ws p0.Held)]], 0⟩, ⟨34, 5, [.agg [.int .i64 0, .nils, .nils, .nils, .nils]], 0⟩, ⟨3, 1, Wq (Wr .i64) x1, 1⟩, ⟨3, 1, Wq (Wr .i64) x3, 1⟩, ⟨4, 1, Wq Ws x5, 1⟩, ⟨4, 1, Wq Ws x7, 1⟩, ⟨34, 5, [], 0⟩]), ([4, 7, 10, 15], (setL low0 [(q0, ⟨4, 1, [.bool pc10], w0⟩), (q1, ⟨27, 1, [.vs 2 (Wq T_Belt.enc pc11)], w1⟩), (q2, ⟨3, 1, [.int .i64 pc12], w2⟩)]), [⟨34, 5, [.agg [.int .i64 p0.Time, .vs 1 (Wq (Wr .i64) p0.States), .vs 1 (Wq (Wr .i64) p0.Since), .vs 1 (Wq Ws p0.Pulled), .vs 1 (Wq Ws p0.Held)]], 0⟩, ⟨34, 5, [.agg [.int .i64 0, .nils, .nils, .nils, .nils]], 0⟩, ⟨3, 1, Wq (Wr .i64) x1, 1⟩, ⟨3, 1, Wq (Wr .i64) x3, 1⟩, ⟨4, 1, Wq Ws x5, 1⟩, ⟨4, 1, [], 0⟩, ⟨34, 5, [.agg [.int .i64 0, .nils, .nils, .nils, .nils]], 1⟩]), ([4, 7, 10, 13, 15], (setL low0 [(q0, ⟨4, 1, [.bool pc10], w0⟩), (q1, ⟨27, 1, [.vs 2 (Wq T_Belt.enc pc11)], w1⟩), (q2, ⟨3, 1, [.int .i64 pc12], w2⟩)]), [⟨34, 5, [.agg [.int .i64 p0.Time, .vs 1 (Wq (Wr .i64) p0.States), .vs 1 (Wq (Wr .i64) p0.Since), .vs 1 (Wq Ws p0.Pulled), .vs 1 (Wq Ws p0.Held)]], 0⟩, ⟨34, 5, [.agg [.int .i64 0, .nils, .nils, .nils, .nils]], 0⟩, ⟨3, 1, Wq (Wr .i64) x1, 1⟩, ⟨3, 1, Wq (Wr .i64) x3, 1⟩, ⟨4, 1, Wq Ws x5, 1⟩, ⟨4, 1, Wq Ws x7, 1⟩, ⟨34, 5, [.agg [.int .i64 0, .nils, .nils, .nils, .nils]], 1⟩]), ([4, 7, 10, 13, 15, 16], (setL low0 [(q0, ⟨4, 1, [.bool pc10], w0⟩), (q1, ⟨27, 1, [.vs 2 (Wq T_Belt.enc pc11)], w1⟩), (q2, ⟨3, 1, [.int .i64 pc12], w2⟩)]), [⟨34, 5, [.agg [.int .i64 p0.Time, .vs 1 (Wq (Wr .i64) p0.States), .vs 1 (Wq (Wr .i64) p0.Since), .vs 1 (Wq Ws p0.Pulled), .vs 1 (Wq Ws p0.Held)]], 0⟩, ⟨34, 5, [.agg [.int .i64 0, .nils, .nils, .nils, .nils]], 0⟩, ⟨3, 1, Wq (Wr .i64) x1, 1⟩, ⟨3, 1, Wq (Wr .i64) x3, 1⟩, ⟨4, 1, Wq Ws x5, 1⟩, ⟨4, 1, Wq Ws x7, 1⟩, ⟨34, 5, [.agg [.int .i64 p0.Time, .sl (n + 2) 1 0 (x1).length, .sl (n + 3) 1 0 (x3).length, .sl (n + 4) 1 0 (x5).length, .sl (n + 5) 1 0 (x7).length]], 1⟩])] mixed (by kernel_rfl) rfl (lenAllX (Yu Xo (Yu Xo (Yu Xo (Yu Xo (Yu Xo (Yu Xo (Yu Xo (Yu Xo (Yu Xo (Yu Xo (Yu Xo allx0)))))))))))) rfl [4, 7, 10, 13, 15, 16] ((setL low0 [(q0, ⟨4, 1, [.bool pc10], w0⟩), (q1, ⟨27, 1, [.vs 2 (Wq T_Belt.enc pc11)], w1⟩), (q2, ⟨3, 1, [.int .i64 pc12], w2⟩)]), [⟨34, 5, [.agg [.int .i64 p0.Time, .vs 1 (Wq (Wr .i64) p0.States), .vs 1 (Wq (Wr .i64) p0.Since), .vs 1 (Wq Ws p0.Pulled), .vs 1 (Wq Ws p0.Held)]], 0⟩, ⟨34, 5, [.agg [.int .i64 0, .nils, .nils, .nils, .nils]], 0⟩, ⟨3, 1, Wq (Wr .i64) x1, 1⟩, ⟨3, 1, Wq (Wr .i64) x3, 1⟩, ⟨4, 1, Wq Ws x5, 1⟩, ⟨4, 1, Wq Ws x7, 1⟩, ⟨34, 5, [.agg [.int .i64 p0.Time, .sl (n + 2) 1 0 (x1).length, .sl (n + 3) 1 0 (x3).length, .sl (n + 4) 1 0 (x5).length, .sl (n + 5) 1 0 (x7).length]], 1⟩]) rfl rfl ?_
  refine Yc _ rfl rfl (Xs (VRd.ntl (Vc rfl tf_34_0 ts_3 (by decide))) (Xs (VRd.ntl (Vc rfl tf_34_0 ts_3 (by decide))) (Xs (VRd.ntl (Vc rfl tf_34_0 ts_3 (by decide))) (Xs (VRd.ntl (Vc rfl tf_34_0 ts_3 (by decide))) (Xs (VRd.ntl (Vc rfl tf_34_0 ts_3 (by decide))) (Xs (VRd.ntl (Vc rfl tf_34_0 ts_3 (by decide))) (Xs (VRd.ntl (Vc rfl tf_34_0 ts_3 (by decide))) (Xs (VRd.ntl (Vc rfl tf_34_0 ts_3 (by decide))) (Xs (VRd.ntl (Vc rfl tf_34_0 ts_3 (by decide))) (Xs (VRd.ntl (Vc rfl tf_34_0 ts_3 (by decide))) rx0)))))))))) ?_
  refine Yc _ rfl rfl (Xs (VRd.ntl (Vg rfl (Ve (Vs hn) rfl) rfl ta_3 rfl)) (Xs (VRd.ntl (Vg rfl (Ve (Vs hn) rfl) rfl ta_3 rfl)) (Xs (VRd.ntl (Vg rfl (Ve (Vs hn) rfl) rfl ta_3 rfl)) (Xs (VRd.ntl (Vg rfl (Ve (Vs hn) rfl) rfl ta_3 rfl)) (Xs (VRd.ntl (Vg rfl (Ve (Vs hn) rfl) rfl ta_3 rfl)) (Xs (VRd.ntl (Vg rfl (Ve (Vs hn) rfl) rfl ta_3 rfl)) (Xs (VRd.ntl (Vg rfl (Ve (Vs hn) rfl) rfl ta_3 rfl)) (Xs (VRd.ntl (Vg rfl (Ve (Vs hn) rfl) rfl ta_3 rfl)) (Xs (VRd.ntl (Vg rfl (Ve (Vs hn) rfl) rfl ta_3 rfl)) (Xs (VRd.ntl (Vg rfl (Ve (Vs hn) rfl) rfl ta_3 rfl)) rx0)))))))))) ?_
  refine Yc _ rfl rfl (Xs (VRd.ntl (Vc rfl tf_34_1 ts_22 (by decide))) (Xs (VRd.ntl (Vc rfl tf_34_1 ts_22 (by decide))) rx0)) ?_
  refine Yc _ rfl rfl (Xs (VRd.ntl (Vg rfl (Ve (Vs hn) rfl) rfl ta_22 rfl)) (Xs (VRd.ntl (Vg rfl (Ve (Vs hn) rfl) rfl ta_22 rfl)) rx0)) ?_
  refine Zf _ rfl rfl (Zy 1 rfl (Vu (f := 7) (k := 2) (m := 1) (os := [⟨3, 1, Wq (Wr .i64) x1, 0⟩]) (os' := [⟨3, 1, Wq (Wr .i64) x1, 1⟩]) (v := .sl (n + 7) 0 0 (x1).length) (Vs hn) rfl rfl ⟨⟨_, rfl, rfl⟩, trivial⟩ (Xg (r := .sl (n + 7) 0 0 (x1).length) (os := [⟨3, 1, Wq (Wr .i64) x1, 0⟩]) rfl Try.call54 (F_slices_Clone___int_int__ok h2 _ (Xi (Vs hn) rfl))) (Yk 0 rfl rfl rfl rfl) ⟨.same _ _ _ (Vh (fun _ => .int _ _)), trivial⟩ rfl) (Zy 4 rfl (Vu (f := 7) (k := 2) (m := 1) (os := [⟨3, 1, Wq (Wr .i64) x1, 0⟩]) (os' := [⟨3, 1, Wq (Wr .i64) x1, 1⟩]) (v := .sl (n + 7) 0 0 (x1).length) (Vs hn) rfl rfl ⟨⟨_, rfl, rfl⟩, trivial⟩ (Xg (r := .sl (n + 7) 0 0 (x1).length) (os := [⟨3, 1, Wq (Wr .i64) x1, 0⟩]) rfl Try.call54 (F_slices_Clone___int_int__ok h2 _ (Xi (Vs hn) rfl))) (Yk 0 rfl rfl rfl rfl) ⟨.same _ _ _ (Vh (fun _ => .int _ _)), trivial⟩ rfl) ex0)) ?_
  refine Yc _ rfl rfl (Xs (VRd.ntl (Vc rfl tf_34_2 ts_22 (by decide))) (Xs (VRd.ntl (Vc rfl tf_34_2 ts_22 (by decide))) (Xs (VRd.ntl (Vc rfl tf_34_2 ts_22 (by decide))) (Xs (VRd.ntl (Vc rfl tf_34_2 ts_22 (by decide))) rx0)))) ?_
  refine Yc _ rfl rfl (Xs (VRd.ntl (Vg rfl (Ve (Vs hn) rfl) rfl ta_22 rfl)) (Xs (VRd.ntl (Vg rfl (Ve (Vs hn) rfl) rfl ta_22 rfl)) (Xs (VRd.ntl (Vg rfl (Ve (Vs hn) rfl) rfl ta_22 rfl)) (Xs (VRd.ntl (Vg rfl (Ve (Vs hn) rfl) rfl ta_22 rfl)) rx0)))) ?_
  refine Zf _ rfl rfl (Zy 3 rfl (Vu (f := 7) (k := 3) (m := 1) (os := [⟨3, 1, Wq (Wr .i64) x3, 0⟩]) (os' := [⟨3, 1, Wq (Wr .i64) x3, 1⟩]) (v := .sl (n + 7) 0 0 (x3).length) (Vs hn) rfl rfl ⟨⟨_, rfl, rfl⟩, trivial⟩ (Xg (r := .sl (n + 7) 0 0 (x3).length) (os := [⟨3, 1, Wq (Wr .i64) x3, 0⟩]) rfl Try.call54 (F_slices_Clone___int_int__ok h4 _ (Xi (Vs hn) rfl))) (Yk 0 rfl rfl rfl rfl) ⟨.same _ _ _ (Vh (fun _ => .int _ _)), trivial⟩ rfl) (Zy 6 rfl (Vu (f := 7) (k := 3) (m := 1) (os := [⟨3, 1, Wq (Wr .i64) x3, 0⟩]) (os' := [⟨3, 1, Wq (Wr .i64) x3, 1⟩]) (v := .sl (n + 7) 0 0 (x3).length) (Vs hn) rfl rfl ⟨⟨_, rfl, rfl⟩, trivial⟩ (Xg (r := .sl (n + 7) 0 0 (x3).length) (os := [⟨3, 1, Wq (Wr .i64) x3, 0⟩]) rfl Try.call54 (F_slices_Clone___int_int__ok h4 _ (Xi (Vs hn) rfl))) (Yk 0 rfl rfl rfl rfl) ⟨.same _ _ _ (Vh (fun _ => .int _ _)), trivial⟩ rfl) ex0)) ?_
  refine Yc _ rfl rfl (Xs (VRd.ntl (Vc rfl tf_34_3 ts_32 (by decide))) (Xs (VRd.ntl (Vc rfl tf_34_3 ts_32 (by decide))) (Xs (VRd.ntl (Vc rfl tf_34_3 ts_32 (by decide))) (Xs (VRd.ntl (Vc rfl tf_34_3 ts_32 (by decide))) (Xs (VRd.ntl (Vc rfl tf_34_3 ts_32 (by decide))) (Xs (VRd.ntl (Vc rfl tf_34_3 ts_32 (by decide))) rx0)))))) ?_
  refine Yc _ rfl rfl (Xs (VRd.ntl (Vg rfl (Ve (Vs hn) rfl) rfl ta_32 rfl)) (Xs (VRd.ntl (Vg rfl (Ve (Vs hn) rfl) rfl ta_32 rfl)) (Xs (VRd.ntl (Vg rfl (Ve (Vs hn) rfl) rfl ta_32 rfl)) (Xs (VRd.ntl (Vg rfl (Ve (Vs hn) rfl) rfl ta_32 rfl)) (Xs (VRd.ntl (Vg rfl (Ve (Vs hn) rfl) rfl ta_32 rfl)) (Xs (VRd.ntl (Vg rfl (Ve (Vs hn) rfl) rfl ta_32 rfl)) rx0)))))) ?_
  refine Zf _ rfl rfl (Zy 5 rfl (Vu (f := 7) (k := 4) (m := 1) (os := [⟨4, 1, Wq Ws x5, 0⟩]) (os' := [⟨4, 1, Wq Ws x5, 1⟩]) (v := .sl (n + 7) 0 0 (x5).length) (Vs hn) rfl rfl ⟨⟨_, rfl, rfl⟩, trivial⟩ (Xg (r := .sl (n + 7) 0 0 (x5).length) (os := [⟨4, 1, Wq Ws x5, 0⟩]) rfl Try.call55 (F_slices_Clone___bool_bool__ok h6 _ (Xi (Vs hn) rfl))) (Yk 0 rfl rfl rfl rfl) ⟨.same _ _ _ (Vh (fun _ => .bool _)), trivial⟩ rfl) (Zy 8 rfl (Vu (f := 7) (k := 4) (m := 1) (os := [⟨4, 1, Wq Ws x5, 0⟩]) (os' := [⟨4, 1, Wq Ws x5, 1⟩]) (v := .sl (n + 7) 0 0 (x5).length) (Vs hn) rfl rfl ⟨⟨_, rfl, rfl⟩, trivial⟩ (Xg (r := .sl (n + 7) 0 0 (x5).length) (os := [⟨4, 1, Wq Ws x5, 0⟩]) rfl Try.call55 (F_slices_Clone___bool_bool__ok h6 _ (Xi (Vs hn) rfl))) (Yk 0 rfl rfl rfl rfl) ⟨.same _ _ _ (Vh (fun _ => .bool _)), trivial⟩ rfl) ex0)) ?_
  refine Yc _ rfl rfl (Xs (VRd.ntl (Vc rfl tf_34_4 ts_32 (by decide))) (Xs (VRd.ntl (Vc rfl tf_34_4 ts_32 (by decide))) (Xs (VRd.ntl (Vc rfl tf_34_4 ts_32 (by decide))) (Xs (VRd.ntl (Vc rfl tf_34_4 ts_32 (by decide))) (Xs (VRd.ntl (Vc rfl tf_34_4 ts_32 (by decide))) (Xs (VRd.ntl (Vc rfl tf_34_4 ts_32 (by decide))) (Xs (VRd.ntl (Vc rfl tf_34_4 ts_32 (by decide))) (Xs (VRd.ntl (Vc rfl tf_34_4 ts_32 (by decide))) rx0)))))))) ?_
  refine Yc _ rfl rfl (Xs (VRd.ntl (Vg rfl (Ve (Vs hn) rfl) rfl ta_32 rfl)) (Xs (VRd.ntl (Vg rfl (Ve (Vs hn) rfl) rfl ta_32 rfl)) (Xs (VRd.ntl (Vg rfl (Ve (Vs hn) rfl) rfl ta_32 rfl)) (Xs (VRd.ntl (Vg rfl (Ve (Vs hn) rfl) rfl ta_32 rfl)) (Xs (VRd.ntl (Vg rfl (Ve (Vs hn) rfl) rfl ta_32 rfl)) (Xs (VRd.ntl (Vg rfl (Ve (Vs hn) rfl) rfl ta_32 rfl)) (Xs (VRd.ntl (Vg rfl (Ve (Vs hn) rfl) rfl ta_32 rfl)) (Xs (VRd.ntl (Vg rfl (Ve (Vs hn) rfl) rfl ta_32 rfl)) rx0)))))))) ?_
  refine Zf _ rfl rfl (Zy 7 rfl (Vu (f := 7) (k := 5) (m := 1) (os := [⟨4, 1, Wq Ws x7, 0⟩]) (os' := [⟨4, 1, Wq Ws x7, 1⟩]) (v := .sl (n + 7) 0 0 (x7).length) (Vs hn) rfl rfl ⟨⟨_, rfl, rfl⟩, trivial⟩ (Xg (r := .sl (n + 7) 0 0 (x7).length) (os := [⟨4, 1, Wq Ws x7, 0⟩]) rfl Try.call55 (F_slices_Clone___bool_bool__ok h8 _ (Xi (Vs hn) rfl))) (Yk 0 rfl rfl rfl rfl) ⟨.same _ _ _ (Vh (fun _ => .bool _)), trivial⟩ rfl) (Zy 9 rfl (Vu (f := 7) (k := 5) (m := 1) (os := [⟨4, 1, Wq Ws x7, 0⟩]) (os' := [⟨4, 1, Wq Ws x7, 1⟩]) (v := .sl (n + 7) 0 0 (x7).length) (Vs hn) rfl rfl ⟨⟨_, rfl, rfl⟩, trivial⟩ (Xg (r := .sl (n + 7) 0 0 (x7).length) (os := [⟨4, 1, Wq Ws x7, 0⟩]) rfl Try.call55 (F_slices_Clone___bool_bool__ok h8 _ (Xi (Vs hn) rfl))) (Yk 0 rfl rfl rfl rfl) ⟨.same _ _ _ (Vh (fun _ => .bool _)), trivial⟩ rfl) ex0)) ?_
  refine Yc _ rfl rfl (Xs (VRd.ntl (Wh (vs := [(0, .int .i64 p0.Time), (1, .sl (n + 2) 1 0 (x1).length), (2, .sl (n + 3) 1 0 (x3).length), (3, .sl (n + 4) 1 0 (x5).length), (4, .sl (n + 5) 1 0 (x7).length)]) (ds := [.int .i64 p0.Time, .sl (n + 2) 1 0 (x1).length, .sl (n + 3) 1 0 (x3).length, .sl (n + 4) 1 0 (x5).length, .sl (n + 5) 1 0 (x7).length]) tz_34 rfl rfl tp_34 ⟨rfl, rfl, rfl, rfl, rfl, rfl, rfl, rfl, rfl, rfl, trivial⟩ (Wo rfl) rfl)) (Xs (VRd.ntl (Wh (vs := [(0, .int .i64 p0.Time), (1, .sl (n + 2) 1 0 (x1).length), (2, .sl (n + 3) 1 0 (x3).length), (3, .sl (n + 4) 1 0 (x5).length), (4, .sl (n + 5) 1 0 (x7).length)]) (ds := [.int .i64 p0.Time, .sl (n + 2) 1 0 (x1).length, .sl (n + 3) 1 0 (x3).length, .sl (n + 4) 1 0 (x5).length, .sl (n + 5) 1 0 (x7).length]) tz_34 rfl rfl tp_34 ⟨rfl, rfl, rfl, rfl, rfl, rfl, rfl, rfl, rfl, rfl, trivial⟩ (Wo rfl) rfl)) rx0)) ?_
  refine Zf _ rfl rfl (Zy 2 rfl (Vu (f := 7) (k := 6) (m := 1) (os := [⟨34, 5, [.agg [.int .i64 0, .nils, .nils, .nils, .nils]], 0⟩]) (os' := [⟨34, 5, [.agg [.int .i64 0, .nils, .nils, .nils, .nils]], 1⟩]) (v := .ptr (n + 7) 0 0 0) (Vs hn) rfl rfl ⟨⟨_, rfl, rfl⟩, trivial⟩ (Xe (Vs hn) rfl tz_34 rfl rfl (Wv _) rfl) (Wj 0 rfl rfl rfl rfl) ⟨.same _ _ _ (Xt ⟨(Xw ⟨.int _ _, .nils, .nils, .nils, .nils, trivial⟩), trivial⟩), trivial⟩ rfl) (Zy 4 rfl (Vu (f := 7) (k := 6) (m := 1) (os := [⟨34, 5, [.agg [.int .i64 0, .nils, .nils, .nils, .nils]], 0⟩]) (os' := [⟨34, 5, [.agg [.int .i64 0, .nils, .nils, .nils, .nils]], 1⟩]) (v := .ptr (n + 7) 0 0 0) (Vs hn) rfl rfl ⟨⟨_, rfl, rfl⟩, trivial⟩ (Xe (Vs hn) rfl tz_34 rfl rfl (Wv _) rfl) (Wj 0 rfl rfl rfl rfl) ⟨.same _ _ _ (Xt ⟨(Xw ⟨.int _ _, .nils, .nils, .nils, .nils, trivial⟩), trivial⟩), trivial⟩ rfl) (Zy 6 rfl (Vu (f := 7) (k := 6) (m := 1) (os := [⟨34, 5, [.agg [.int .i64 0, .nils, .nils, .nils, .nils]], 0⟩]) (os' := [⟨34, 5, [.agg [.int .i64 0, .nils, .nils, .nils, .nils]], 1⟩]) (v := .ptr (n + 7) 0 0 0) (Vs hn) rfl rfl ⟨⟨_, rfl, rfl⟩, trivial⟩ (Xe (Vs hn) rfl tz_34 rfl rfl (Wv _) rfl) (Wj 0 rfl rfl rfl rfl) ⟨.same _ _ _ (Xt ⟨(Xw ⟨.int _ _, .nils, .nils, .nils, .nils, trivial⟩), trivial⟩), trivial⟩ rfl) (Zy 8 rfl (Vu (f := 7) (k := 6) (m := 1) (os := [⟨34, 5, [.agg [.int .i64 0, .nils, .nils, .nils, .nils]], 0⟩]) (os' := [⟨34, 5, [.agg [.int .i64 0, .nils, .nils, .nils, .nils]], 1⟩]) (v := .ptr (n + 7) 0 0 0) (Vs hn) rfl rfl ⟨⟨_, rfl, rfl⟩, trivial⟩ (Xe (Vs hn) rfl tz_34 rfl rfl (Wv _) rfl) (Wj 0 rfl rfl rfl rfl) ⟨.same _ _ _ (Xt ⟨(Xw ⟨.int _ _, .nils, .nils, .nils, .nils, trivial⟩), trivial⟩), trivial⟩ rfl) (Zy 9 rfl (Vu (f := 7) (k := 6) (m := 1) (os := [⟨34, 5, [.agg [.int .i64 0, .nils, .nils, .nils, .nils]], 0⟩]) (os' := [⟨34, 5, [.agg [.int .i64 0, .nils, .nils, .nils, .nils]], 1⟩]) (v := .ptr (n + 7) 0 0 0) (Vs hn) rfl rfl ⟨⟨_, rfl, rfl⟩, trivial⟩ (Xe (Vs hn) rfl tz_34 rfl rfl (Wv _) rfl) (Wj 0 rfl rfl rfl rfl) ⟨.same _ _ _ (Xt ⟨(Xw ⟨.int _ _, .nils, .nils, .nils, .nils, trivial⟩), trivial⟩), trivial⟩ rfl) ex0))))) ?_
  refine Zf _ rfl rfl (Zy 10 rfl (Vy (p := .agg [.int .i64 p0.Time, .sl (n + 2) 1 0 (x1).length, .sl (n + 3) 1 0 (x3).length, .sl (n + 4) 1 0 (x5).length, .sl (n + 5) 1 0 (x7).length]) (e' := .agg [.int .i64 p0.Time, .sl (n + 2) 1 0 (x1).length, .sl (n + 3) 1 0 (x3).length, .sl (n + 4) 1 0 (x5).length, .sl (n + 5) 1 0 (x7).length]) rfl (Ve (Vs hn) rfl) rfl rfl ts_34 rfl (Ye rfl) rfl (Wu rfl) rfl (Xr (Vs hn) rfl)) ex0) ?_
  refine dopx_nil ?_
  refine Vi ?_
  refine Vd ?_
  obtain ⟨x9, h10, hF⟩ := Yt hF
  refine Va (rd_mvF rfl) rfl ?_
  refine Vj (Zg (ps := [((n + 6), ⟨34, 5, [.agg [.int .i64 x9.Time, .sl (n + 2) 1 0 (x1).length, .sl (n + 3) 1 0 (x3).length, .sl (n + 4) 1 0 (x5).length, .sl (n + 5) 1 0 (x7).length]], 1⟩), ((n + 2), ⟨3, 1, Wq (Wr .i64) x9.States, 1⟩), ((n + 3), ⟨3, 1, Wq (Wr .i64) x9.Since, 1⟩), ((n + 4), ⟨4, 1, Wq Ws x9.Pulled, 1⟩), ((n + 5), ⟨4, 1, Wq Ws x9.Held, 1⟩), (q0, ⟨4, 1, [.bool pc10], w0⟩), (q1, ⟨27, 1, [.vs 2 (Wq T_Belt.enc pc11)], w1⟩), (q2, ⟨3, 1, [.int .i64 pc12], w2⟩)]) (r := .tup []) (os := []) (low1 := (setL low0 [(q0, ⟨4, 1, [.bool pc10], w0⟩), (q1, ⟨27, 1, [.vs 2 (Wq T_Belt.enc pc11)], w1⟩), (q2, ⟨3, 1, [.int .i64 pc12], w2⟩)])) (loc1 := [⟨34, 5, [.agg [.int .i64 p0.Time, .vs 1 (Wq (Wr .i64) p0.States), .vs 1 (Wq (Wr .i64) p0.Since), .vs 1 (Wq Ws p0.Pulled), .vs 1 (Wq Ws p0.Held)]], 0⟩, ⟨34, 5, [.agg [.int .i64 0, .nils, .nils, .nils, .nils]], 0⟩, ⟨3, 1, Wq (Wr .i64) x9.States, 1⟩, ⟨3, 1, Wq (Wr .i64) x9.Since, 1⟩, ⟨4, 1, Wq Ws x9.Pulled, 1⟩, ⟨4, 1, Wq Ws x9.Held, 1⟩, ⟨34, 5, [.agg [.int .i64 x9.Time, .sl (n + 2) 1 0 (x1).length, .sl (n + 3) 1 0 (x3).length, .sl (n + 4) 1 0 (x5).length, .sl (n + 5) 1 0 (x7).length]], 1⟩]) (loc2 := [⟨34, 5, [.agg [.int .i64 p0.Time, .vs 1 (Wq (Wr .i64) p0.States), .vs 1 (Wq (Wr .i64) p0.Since), .vs 1 (Wq Ws p0.Pulled), .vs 1 (Wq Ws p0.Held)]], 0⟩, ⟨34, 5, [.agg [.int .i64 0, .nils, .nils, .nils, .nils]], 0⟩, ⟨3, 1, Wq (Wr .i64) x9.States, 1⟩, ⟨3, 1, Wq (Wr .i64) x9.Since, 1⟩, ⟨4, 1, Wq Ws x9.Pulled, 1⟩, ⟨4, 1, Wq Ws x9.Held, 1⟩, ⟨34, 5, [.agg [.int .i64 x9.Time, .sl (n + 2) 1 0 (x1).length, .sl (n + 3) 1 0 (x3).length, .sl (n + 4) 1 0 (x5).length, .sl (n + 5) 1 0 (x7).length]], 1⟩]) rfl Try.call53 (F_belts_Hold_1_ok h10 (nd1 (Zs (Yx rfl) (Zs (Yx rfl) (Zs (Yx rfl) (Zs (Yx rfl) (Zs (Yv hq0) (Zs (Yv hq1) (Zs (Yv hq2) na0))))))) (nd1 (Zs (Yx rfl) (Zs (Yx rfl) (Zs (Yx rfl) (Zs (Yv hq0) (Zs (Yv hq1) (Zs (Yv hq2) na0)))))) (nd1 (Zs (Yx rfl) (Zs (Yx rfl) (Zs (Yv hq0) (Zs (Yv hq1) (Zs (Yv hq2) na0))))) (nd1 (Zs (Yx rfl) (Zs (Yv hq0) (Zs (Yv hq1) (Zs (Yv hq2) na0)))) (nd1 (Zs (Yv hq0) (Zs (Yv hq1) (Zs (Yv hq2) na0))) (nd1 (Zs (hB.ne 0 1 rfl rfl rfl) (Zs (hB.ne 0 2 rfl rfl rfl) na0)) (nd1 (Zs (hB.ne 1 2 rfl rfl rfl) na0) (nd1 na0 nd0)))))))) (rfl : (x1).length = _) (rfl : (x3).length = _) (rfl : (x5).length = _) (rfl : (x7).length = _) (Zt (Vs hn) rfl) (Zt (Vs hn) rfl) (Zt (Vs hn) rfl) (Zt (Vs hn) rfl) (Zt (Vs hn) rfl) (Wp hB rfl 0 rfl) (Wp hB rfl 1 rfl) (Wp hB rfl 2 rfl) (Xi (Vs hn) rfl)) (Yq (loc2 := [⟨34, 5, [.agg [.int .i64 p0.Time, .vs 1 (Wq (Wr .i64) p0.States), .vs 1 (Wq (Wr .i64) p0.Since), .vs 1 (Wq Ws p0.Pulled), .vs 1 (Wq Ws p0.Held)]], 0⟩, ⟨34, 5, [.agg [.int .i64 0, .nils, .nils, .nils, .nils]], 0⟩, ⟨3, 1, Wq (Wr .i64) x1, 1⟩, ⟨3, 1, Wq (Wr .i64) x3, 1⟩, ⟨4, 1, Wq Ws x5, 1⟩, ⟨4, 1, Wq Ws x7, 1⟩, ⟨34, 5, [.agg [.int .i64 x9.Time, .sl (n + 2) 1 0 (x1).length, .sl (n + 3) 1 0 (x3).length, .sl (n + 4) 1 0 (x5).length, .sl (n + 5) 1 0 (x7).length]], 1⟩]) (Vs hn) 6 rfl (Yq (loc2 := [⟨34, 5, [.agg [.int .i64 p0.Time, .vs 1 (Wq (Wr .i64) p0.States), .vs 1 (Wq (Wr .i64) p0.Since), .vs 1 (Wq Ws p0.Pulled), .vs 1 (Wq Ws p0.Held)]], 0⟩, ⟨34, 5, [.agg [.int .i64 0, .nils, .nils, .nils, .nils]], 0⟩, ⟨3, 1, Wq (Wr .i64) x9.States, 1⟩, ⟨3, 1, Wq (Wr .i64) x3, 1⟩, ⟨4, 1, Wq Ws x5, 1⟩, ⟨4, 1, Wq Ws x7, 1⟩, ⟨34, 5, [.agg [.int .i64 x9.Time, .sl (n + 2) 1 0 (x1).length, .sl (n + 3) 1 0 (x3).length, .sl (n + 4) 1 0 (x5).length, .sl (n + 5) 1 0 (x7).length]], 1⟩]) (Vs hn) 2 rfl (Yq (loc2 := [⟨34, 5, [.agg [.int .i64 p0.Time, .vs 1 (Wq (Wr .i64) p0.States), .vs 1 (Wq (Wr .i64) p0.Since), .vs 1 (Wq Ws p0.Pulled), .vs 1 (Wq Ws p0.Held)]], 0⟩, ⟨34, 5, [.agg [.int .i64 0, .nils, .nils, .nils, .nils]], 0⟩, ⟨3, 1, Wq (Wr .i64) x9.States, 1⟩, ⟨3, 1, Wq (Wr .i64) x9.Since, 1⟩, ⟨4, 1, Wq Ws x5, 1⟩, ⟨4, 1, Wq Ws x7, 1⟩, ⟨34, 5, [.agg [.int .i64 x9.Time, .sl (n + 2) 1 0 (x1).length, .sl (n + 3) 1 0 (x3).length, .sl (n + 4) 1 0 (x5).length, .sl (n + 5) 1 0 (x7).length]], 1⟩]) (Vs hn) 3 rfl (Yq (loc2 := [⟨34, 5, [.agg [.int .i64 p0.Time, .vs 1 (Wq (Wr .i64) p0.States), .vs 1 (Wq (Wr .i64) p0.Since), .vs 1 (Wq Ws p0.Pulled), .vs 1 (Wq Ws p0.Held)]], 0⟩, ⟨34, 5, [.agg [.int .i64 0, .nils, .nils, .nils, .nils]], 0⟩, ⟨3, 1, Wq (Wr .i64) x9.States, 1⟩, ⟨3, 1, Wq (Wr .i64) x9.Since, 1⟩, ⟨4, 1, Wq Ws x9.Pulled, 1⟩, ⟨4, 1, Wq Ws x7, 1⟩, ⟨34, 5, [.agg [.int .i64 x9.Time, .sl (n + 2) 1 0 (x1).length, .sl (n + 3) 1 0 (x3).length, .sl (n + 4) 1 0 (x5).length, .sl (n + 5) 1 0 (x7).length]], 1⟩]) (Vs hn) 4 rfl (Yq (loc2 := [⟨34, 5, [.agg [.int .i64 p0.Time, .vs 1 (Wq (Wr .i64) p0.States), .vs 1 (Wq (Wr .i64) p0.Since), .vs 1 (Wq Ws p0.Pulled), .vs 1 (Wq Ws p0.Held)]], 0⟩, ⟨34, 5, [.agg [.int .i64 0, .nils, .nils, .nils, .nils]], 0⟩, ⟨3, 1, Wq (Wr .i64) x9.States, 1⟩, ⟨3, 1, Wq (Wr .i64) x9.Since, 1⟩, ⟨4, 1, Wq Ws x9.Pulled, 1⟩, ⟨4, 1, Wq Ws x9.Held, 1⟩, ⟨34, 5, [.agg [.int .i64 x9.Time, .sl (n + 2) 1 0 (x1).length, .sl (n + 3) 1 0 (x3).length, .sl (n + 4) 1 0 (x5).length, .sl (n + 5) 1 0 (x7).length]], 1⟩]) (Vs hn) 5 rfl (Wd (ps0' := [(q0, ⟨4, 1, [.bool pc10], w0⟩), (q1, ⟨27, 1, [.vs 2 (Wq T_Belt.enc pc11)], w1⟩), (q2, ⟨3, 1, [.int .i64 pc12], w2⟩)]) hB rfl 0 rfl (ltObjN hn ⟨.bool _, trivial⟩) rfl (Wd (ps0' := [(q0, ⟨4, 1, [.bool pc10], w0⟩), (q1, ⟨27, 1, [.vs 2 (Wq T_Belt.enc pc11)], w1⟩), (q2, ⟨3, 1, [.int .i64 pc12], w2⟩)]) hB rfl 1 rfl (ltObjN hn ⟨.vs _ _, trivial⟩) rfl (Wd (ps0' := [(q0, ⟨4, 1, [.bool pc10], w0⟩), (q1, ⟨27, 1, [.vs 2 (Wq T_Belt.enc pc11)], w1⟩), (q2, ⟨3, 1, [.int .i64 pc12], w2⟩)]) hB rfl 2 rfl (ltObjN hn ⟨.int _ _, trivial⟩) rfl Zl)))))))) rfl) rfl ?_
  refine Vf ?_
  refine Vi ?_
  refine Vd ?_
  refine Va (Vv (ds := [.int .i64 x9.Time, .sl (n + 2) 1 0 (x1).length, .sl (n + 3) 1 0 (x3).length, .sl (n + 4) 1 0 (x5).length, .sl (n + 5) 1 0 (x7).length]) rfl (Ve (Vs hn) rfl) rfl ta_34 ts_34 rfl rfl rfl) rfl ?_
  refine Vj (Vy (p := .agg [.int .i64 x9.Time, .sl (n + 2) 1 0 (x1).length, .sl (n + 3) 1 0 (x3).length, .sl (n + 4) 1 0 (x5).length, .sl (n + 5) 1 0 (x7).length]) (e' := .agg [.int .i64 x9.Time, .sl (n + 2) 1 0 (x1).length, .sl (n + 3) 1 0 (x3).length, .sl (n + 4) 1 0 (x5).length, .sl (n + 5) 1 0 (x7).length]) rfl (Ve (Vs hn) rfl) rfl rfl ts_34 rfl (Ye rfl) rfl (Wu rfl) rfl (Xr (Vs hn) rfl)) rfl ?_
  refine Vf ?_
  refine Xb ?_
  obtain rfl := Wt hF
  refine Wg ?_
  refine Weak.trans (Xm (E' := [(4, .ptr (n + 1) 0 0 0)]) (loc1 := [⟨34, 5, [.agg [.int .i64 p0.Time, .vs 1 (Wq (Wr .i64) p0.States), .vs 1 (Wq (Wr .i64) p0.Since), .vs 1 (Wq Ws p0.Pulled), .vs 1 (Wq Ws p0.Held)]], 0⟩, ⟨34, 5, [.agg [.int .i64 x9.Time, .sl (n + 2) 1 0 (x1).length, .sl (n + 3) 1 0 (x3).length, .sl (n + 4) 1 0 (x5).length, .vs 1 (Wq Ws x9.Held)]], 0⟩, ⟨3, 1, Wq (Wr .i64) x9.States, 1⟩, ⟨3, 1, Wq (Wr .i64) x9.Since, 1⟩, ⟨4, 1, Wq Ws x9.Pulled, 1⟩, ⟨4, 1, [], 1 + 1⟩, ⟨34, 5, [.agg [.int .i64 x9.Time, .sl (n + 2) 1 0 (x1).length, .sl (n + 3) 1 0 (x3).length, .sl (n + 4) 1 0 (x5).length, .vs 1 (Wq Ws x9.Held)]], 1⟩]) (Vs hn) 5 rfl (Ya (fun _ => .bool _)) ⟨Vl rfl, trivial⟩ ⟨.refl _, Yr ⟨Vl rfl, Vl rfl, Vl rfl, Vl rfl, Zj rfl rfl rfl (Vx (F_belts_Hold_1_len h10 (rfl : (x1).length = _) (rfl : (x3).length = _) (rfl : (x5).length = _) (rfl : (x7).length = _)).2.2.2.1), trivial⟩, .refl _, .refl _, .refl _, .refl _, Yr ⟨Vl rfl, Vl rfl, Vl rfl, Vl rfl, Zj rfl rfl rfl (Vx (F_belts_Hold_1_len h10 (rfl : (x1).length = _) (rfl : (x3).length = _) (rfl : (x5).length = _) (rfl : (x7).length = _)).2.2.2.1), trivial⟩, trivial⟩) ?_
  exact Vt (Vs hn) [(2, 1), (3, 1), (4, 1), (1, 0)] (by decide) ⟨Yj 3 1 rfl rfl, trivial⟩ ⟨⟨_, rfl, rfl, .same _ _ _ _ (Vh (fun _ => .int _ _))⟩, ⟨_, rfl, rfl, .same _ _ _ _ (Vh (fun _ => .int _ _))⟩, ⟨_, rfl, rfl, .same _ _ _ _ (Vh (fun _ => .bool _))⟩, ⟨_, rfl, rfl, .agg _ _ _ _ _ ⟨Vr rfl (.int _ _), Xq 0 2 rfl (congrArg (PV.sl _ _ 0) (F_belts_Hold_1_len h10 (rfl : (x1).length = _) (rfl : (x3).length = _) (rfl : (x5).length = _) (rfl : (x7).length = _)).1), Xq 1 3 rfl (congrArg (PV.sl _ _ 0) (F_belts_Hold_1_len h10 (rfl : (x1).length = _) (rfl : (x3).length = _) (rfl : (x5).length = _) (rfl : (x7).length = _)).2.1), Xq 2 4 rfl (congrArg (PV.sl _ _ 0) (F_belts_Hold_1_len h10 (rfl : (x1).length = _) (rfl : (x3).length = _) (rfl : (x5).length = _) (rfl : (x7).length = _)).2.2.1), Vr rfl (.vs _ _), trivial⟩⟩, trivial⟩
 ·rintro _ _ _ _ ⟨he, hw⟩
  refine ⟨_, _, _, hw, ?_⟩
  exact Zm (Vs hn) 3 rfl (Wu rfl) he [.agg [.int .i64 r.Time, .sl (n + 0) 0 0 (r.States).length, .sl (n + 1) 0 0 (r.Since).length, .sl (n + 2) 0 0 (r.Pulled).length, .vs 1 (Wq Ws r.Held)]] ⟨Vv rfl (Ve (Vs hn) rfl) rfl ta_34 ts_34 rfl rfl rfl, trivial⟩ ((Xw ⟨.int _ _, .sl _ _ _ _ (Zw rfl), .sl _ _ _ _ (Zw rfl), .sl _ _ _ _ (Zw rfl), .vs _ _, trivial⟩)) ⟨Vh (fun _ => .int _ _), Vh (fun _ => .int _ _), Vh (fun _ => .bool _), trivial⟩ ⟨rfl, rfl⟩

theorem F_belts_done__belts_Hold_1_ok {p0 : T_Line} {pc10 : Bool} {pc11 : List T_Belt} {pc12 : Int} {r : T_Line} (hF : F_belts_done__belts_Hold_1 p0 pc10 pc11 pc12 = some r) {low : List AObj} {q0 q1 q2 w0 w1 w2 : Nat} (hnd : [q0, q1, q2].Nodup) (hq0 : low[q0]? = some ⟨4, 1, [.bool pc10], w0⟩) (hq1 : low[q1]? = some ⟨27, 1, [.vs 2 (Wq T_Belt.enc pc11)], w1⟩) (hq2 : low[q2]? = some ⟨3, 1, [.int .i64 pc12], w2⟩) {n : Nat} (hn : low.length = n) :
    Ys Try.prog 31 [.agg [.int .i64 p0.Time, .vs 1 (Wq (Wr .i64) p0.States), .vs 1 (Wq (Wr .i64) p0.Since), .vs 1 (Wq Ws p0.Pulled), .vs 1 (Wq Ws p0.Held)], .fn 53 [] [.ptr q0 w0 0 0, .ptr q1 w1 0 0, .ptr q2 w2 0 0]] low fun x low' => x = .agg [.int .i64 r.Time, .sl (n + 0) 0 0 (r.States).length, .sl (n + 1) 0 0 (r.Since).length, .sl (n + 2) 0 0 (r.Pulled).length, .vs 1 (Wq Ws r.Held)] ∧ low' = setL low [(q0, ⟨4, 1, [.bool pc10], w0⟩), (q1, ⟨27, 1, [.vs 2 (Wq T_Belt.enc pc11)], w1⟩), (q2, ⟨3, 1, [.int .i64 pc12], w2⟩)] ++ [⟨3, 1, Wq (Wr .i64) r.States, 0⟩, ⟨3, 1, Wq (Wr .i64) r.Since, 0⟩, ⟨4, 1, Wq Ws r.Pulled, 0⟩] := by
  obtain ⟨h1, h2⟩ := We (ps := [(q0, ⟨4, 1, [.bool pc10], w0⟩), (q1, ⟨27, 1, [.vs 2 (Wq T_Belt.enc pc11)], w1⟩), (q2, ⟨3, 1, [.int .i64 pc12], w2⟩)]) hnd (Wf hq0 (Wf hq1 (Wf hq2 bor0)))
  exact Zx h1 (F_belts_done__belts_Hold_1_ok0 hF h2 hn)

theorem F_belts_Hold_ok {p0 : List T_Belt} {p1 : T_Line} {p2 : Int} {p3 : Bool} {r : T_Line × Int} (hF : F_belts_Hold p0 p1 p2 p3 = some r) (low : List AObj) {n : Nat} (hn : low.length = n) :
    Ys Try.prog 26 [.vs 2 (Wq T_Belt.enc p0), .agg [.int .i64 p1.Time, .vs 1 (Wq (Wr .i64) p1.States), .vs 1 (Wq (Wr .i64) p1.Since), .vs 1 (Wq Ws p1.Pulled), .vs 1 (Wq Ws p1.Held)], .int .i64 p2, .bool p3] low fun x low' => x = .tup [.agg [.int .i64 r.1.Time, .vs 1 (Wq (Wr .i64) r.1.States), .vs 1 (Wq (Wr .i64) r.1.Since), .vs 1 (Wq Ws r.1.Pulled), .vs 1 (Wq Ws r.1.Held)], .int .i64 r.2] ∧ low' = low ++ [] := by
 refine Vz (nt := 22) (rs := [.cell 8 34, .tmp 9]) Try.func26 rfl rfl (Wu rfl) rfl ?_
 refine Vw (Q' := FnE (fun E' lw lc => Yb E' lw lc [(8, .ptr (n + 0) 0 0 0), (9, .int .i64 r.2)] low [⟨34, 5, [.agg [.int .i64 r.1.Time, .vs 1 (Wq (Wr .i64) r.1.States), .vs 1 (Wq (Wr .i64) r.1.Since), .vs 1 (Wq Ws r.1.Pulled), .vs 1 (Wq Ws r.1.Held)]], 0⟩])) ?_ ?_
 ·unfold F_belts_Hold at hF
  refine Vi ?_
  refine Vd ?_
  refine Vj (Zc hn rfl (v := .vs 2 (Wq T_Belt.enc p0)) rfl rfl (Wv _) rfl rfl) rfl ?_
  refine Vj (Zc hn rfl (v := .agg [.int .i64 p1.Time, .vs 1 (Wq (Wr .i64) p1.States), .vs 1 (Wq (Wr .i64) p1.Since), .vs 1 (Wq Ws p1.Pulled), .vs 1 (Wq Ws p1.Held)]) rfl rfl (Wv _) rfl rfl) rfl ?_
  refine Vj (Zc hn rfl (v := .int .i64 p2) rfl rfl (Wv _) rfl rfl) rfl ?_
  refine Vj (Zc hn rfl (v := .bool p3) rfl rfl (Wv _) rfl rfl) rfl ?_
  refine Vj (Xe hn rfl tz_34 rfl rfl (Wv _) rfl) rfl ?_
  refine Va (Xa rfl) rfl ?_
  refine Vf ?_
  refine Vi ?_
  refine Vi ?_
  refine Vd ?_
  obtain ⟨x1, h2, hF⟩ := Yt hF
  refine Va (Vg rfl (Ve hn rfl) rfl ta_27 rfl) rfl ?_
  refine Va (Vv (ds := [.int .i64 p1.Time, .vs 1 (Wq (Wr .i64) p1.States), .vs 1 (Wq (Wr .i64) p1.Since), .vs 1 (Wq Ws p1.Pulled), .vs 1 (Wq Ws p1.Held)]) rfl (Ve hn rfl) rfl ta_34 ts_34 rfl rfl rfl) rfl ?_
  refine Va (Vg rfl (Ve hn rfl) rfl ta_3 rfl) rfl ?_
  refine Vj (Xp rfl Try.call30 (F_belts_checked_ok h2 _)) rfl ?_
  refine Va (Xa rfl) rfl ?_
  refine Vf ?_
  refine Vi ?_
  refine Vd ?_
  refine Va (Vk rfl) rfl ?_
  refine Va (Ze rfl rfl) rfl ?_
  refine Vf ?_
  refine Xh rfl (fun c3 => ?_) (fun c3 => ?_)
  ·have hF := Yo c3 hF
   refine Vi ?_
   refine Vd ?_
   refine Va (Vv (ds := [.int .i64 p1.Time, .vs 1 (Wq (Wr .i64) p1.States), .vs 1 (Wq (Wr .i64) p1.Since), .vs 1 (Wq Ws p1.Pulled), .vs 1 (Wq Ws p1.Held)]) rfl (Ve hn rfl) rfl ta_34 ts_34 rfl rfl rfl) rfl ?_
   refine Va (Vk rfl) rfl ?_
   refine Vj (Vy (p := .agg [.int .i64 p1.Time, .vs 1 (Wq (Wr .i64) p1.States), .vs 1 (Wq (Wr .i64) p1.Since), .vs 1 (Wq Ws p1.Pulled), .vs 1 (Wq Ws p1.Held)]) (e' := .agg [.int .i64 p1.Time, .vs 1 (Wq (Wr .i64) p1.States), .vs 1 (Wq (Wr .i64) p1.Since), .vs 1 (Wq Ws p1.Pulled), .vs 1 (Wq Ws p1.Held)]) rfl (Ve hn rfl) rfl rfl ts_34 rfl (Ye rfl) rfl (Wu rfl) rfl (Xr hn rfl)) rfl ?_
   refine Va (Xa rfl) rfl ?_
   refine Vf ?_
   refine Xb ?_
   obtain rfl := Wt hF
   refine Wg ?_
   exact Vt hn [(4, 0)] (by decide) ⟨Yj 0 4 rfl rfl, Vr rfl (.int _ _), trivial⟩ ⟨⟨_, rfl, rfl, .same _ _ _ _ (Xt ⟨Xw ⟨.int _ _, .vs _ _, .vs _ _, .vs _ _, .vs _ _, trivial⟩, trivial⟩)⟩, trivial⟩
  ·have hF := Yp c3 hF
   refine Xn ?_
   refine Vi ?_
   refine Vd ?_
   obtain ⟨x4, h5, hF⟩ := Yt hF
   refine Va (Vv (ds := [.int .i64 p1.Time, .vs 1 (Wq (Wr .i64) p1.States), .vs 1 (Wq (Wr .i64) p1.Since), .vs 1 (Wq Ws p1.Pulled), .vs 1 (Wq Ws p1.Held)]) rfl (Ve hn rfl) rfl ta_34 ts_34 rfl rfl rfl) rfl ?_
   refine Va (rd_makeFn rfl) rfl ?_
   refine Vj (Zg (ps := [((n + 3), ⟨4, 1, [.bool p3], 0⟩), ((n + 0), ⟨27, 1, [.vs 2 (Wq T_Belt.enc p0)], 0⟩), ((n + 2), ⟨3, 1, [.int .i64 p2], 0⟩)]) (r := .agg [.int .i64 x4.Time, .sl (n + 5) 0 0 (x4.States).length, .sl (n + 6) 0 0 (x4.Since).length, .sl (n + 7) 0 0 (x4.Pulled).length, .vs 1 (Wq Ws x4.Held)]) (os := [⟨3, 1, Wq (Wr .i64) x4.States, 0⟩, ⟨3, 1, Wq (Wr .i64) x4.Since, 0⟩, ⟨4, 1, Wq Ws x4.Pulled, 0⟩]) (low1 := low) (loc1 := [⟨27, 1, [.vs 2 (Wq T_Belt.enc p0)], 0⟩, ⟨34, 5, [.agg [.int .i64 p1.Time, .vs 1 (Wq (Wr .i64) p1.States), .vs 1 (Wq (Wr .i64) p1.Since), .vs 1 (Wq Ws p1.Pulled), .vs 1 (Wq Ws p1.Held)]], 0⟩, ⟨3, 1, [.int .i64 p2], 0⟩, ⟨4, 1, [.bool p3], 0⟩, ⟨34, 5, [.agg [.int .i64 0, .nils, .nils, .nils, .nils]], 0⟩]) (loc2 := [⟨27, 1, [.vs 2 (Wq T_Belt.enc p0)], 0⟩, ⟨34, 5, [.agg [.int .i64 p1.Time, .vs 1 (Wq (Wr .i64) p1.States), .vs 1 (Wq (Wr .i64) p1.Since), .vs 1 (Wq Ws p1.Pulled), .vs 1 (Wq Ws p1.Held)]], 0⟩, ⟨3, 1, [.int .i64 p2], 0⟩, ⟨4, 1, [.bool p3], 0⟩, ⟨34, 5, [.agg [.int .i64 0, .nils, .nils, .nils, .nils]], 0⟩, ⟨3, 1, Wq (Wr .i64) x4.States, 0⟩, ⟨3, 1, Wq (Wr .i64) x4.Since, 0⟩, ⟨4, 1, Wq Ws x4.Pulled, 0⟩]) rfl Try.call31 (F_belts_done__belts_Hold_1_ok h5 (nd1 (Zs (Yx rfl) (Zs (Yx rfl) na0)) (nd1 (Zs (Yx rfl) na0) (nd1 na0 nd0))) (Zt hn rfl) (Zt hn rfl) (Zt hn rfl) (Xi hn rfl)) (Yq (loc2 := [⟨27, 1, [.vs 2 (Wq T_Belt.enc p0)], 0⟩, ⟨34, 5, [.agg [.int .i64 p1.Time, .vs 1 (Wq (Wr .i64) p1.States), .vs 1 (Wq (Wr .i64) p1.Since), .vs 1 (Wq Ws p1.Pulled), .vs 1 (Wq Ws p1.Held)]], 0⟩, ⟨3, 1, [.int .i64 p2], 0⟩, ⟨4, 1, [.bool p3], 0⟩, ⟨34, 5, [.agg [.int .i64 0, .nils, .nils, .nils, .nils]], 0⟩]) hn 3 rfl (Yq (loc2 := [⟨27, 1, [.vs 2 (Wq T_Belt.enc p0)], 0⟩, ⟨34, 5, [.agg [.int .i64 p1.Time, .vs 1 (Wq (Wr .i64) p1.States), .vs 1 (Wq (Wr .i64) p1.Since), .vs 1 (Wq Ws p1.Pulled), .vs 1 (Wq Ws p1.Held)]], 0⟩, ⟨3, 1, [.int .i64 p2], 0⟩, ⟨4, 1, [.bool p3], 0⟩, ⟨34, 5, [.agg [.int .i64 0, .nils, .nils, .nils, .nils]], 0⟩]) hn 0 rfl (Yq (loc2 := [⟨27, 1, [.vs 2 (Wq T_Belt.enc p0)], 0⟩, ⟨34, 5, [.agg [.int .i64 p1.Time, .vs 1 (Wq (Wr .i64) p1.States), .vs 1 (Wq (Wr .i64) p1.Since), .vs 1 (Wq Ws p1.Pulled), .vs 1 (Wq Ws p1.Held)]], 0⟩, ⟨3, 1, [.int .i64 p2], 0⟩, ⟨4, 1, [.bool p3], 0⟩, ⟨34, 5, [.agg [.int .i64 0, .nils, .nils, .nils, .nils]], 0⟩]) hn 2 rfl Zl))) rfl) rfl ?_
   refine Vj (Vy (p := .agg [.int .i64 x4.Time, .sl (n + 5) 0 0 (x4.States).length, .sl (n + 6) 0 0 (x4.Since).length, .sl (n + 7) 0 0 (x4.Pulled).length, .vs 1 (Wq Ws x4.Held)]) (e' := .agg [.int .i64 x4.Time, .sl (n + 5) 0 0 (x4.States).length, .sl (n + 6) 0 0 (x4.Since).length, .sl (n + 7) 0 0 (x4.Pulled).length, .vs 1 (Wq Ws x4.Held)]) rfl (Ve hn rfl) rfl rfl ts_34 rfl (Ye rfl) rfl (Wu rfl) rfl (Xr hn rfl)) rfl ?_
   refine Va (Xa rfl) rfl ?_
   refine Vf ?_
   refine Xb ?_
   obtain rfl := Wt hF
   refine Wg ?_
   refine Weak.trans (Xm (E' := [(8, .ptr (n + 4) 0 0 0), (9, .int .i64 0)]) (loc1 := [⟨27, 1, [.vs 2 (Wq T_Belt.enc p0)], 0⟩, ⟨34, 5, [.agg [.int .i64 p1.Time, .vs 1 (Wq (Wr .i64) p1.States), .vs 1 (Wq (Wr .i64) p1.Since), .vs 1 (Wq Ws p1.Pulled), .vs 1 (Wq Ws p1.Held)]], 0⟩, ⟨3, 1, [.int .i64 p2], 0⟩, ⟨4, 1, [.bool p3], 0⟩, ⟨34, 5, [.agg [.int .i64 x4.Time, .vs 1 (Wq (Wr .i64) x4.States), .sl (n + 6) 0 0 (x4.Since).length, .sl (n + 7) 0 0 (x4.Pulled).length, .vs 1 (Wq Ws x4.Held)]], 0⟩, ⟨3, 1, [], 0 + 1⟩, ⟨3, 1, Wq (Wr .i64) x4.Since, 0⟩, ⟨4, 1, Wq Ws x4.Pulled, 0⟩]) hn 5 rfl (Ya (fun _ => .int _ _)) ⟨Vl rfl, Vl rfl, trivial⟩ ⟨.refl _, .refl _, .refl _, .refl _, Yr ⟨Vl rfl, Zj rfl rfl rfl (Vx rfl), Vl rfl, Vl rfl, Vl rfl, trivial⟩, .refl _, .refl _, .refl _, trivial⟩) ?_
   refine Weak.trans (Xm (E' := [(8, .ptr (n + 4) 0 0 0), (9, .int .i64 0)]) (loc1 := [⟨27, 1, [.vs 2 (Wq T_Belt.enc p0)], 0⟩, ⟨34, 5, [.agg [.int .i64 p1.Time, .vs 1 (Wq (Wr .i64) p1.States), .vs 1 (Wq (Wr .i64) p1.Since), .vs 1 (Wq Ws p1.Pulled), .vs 1 (Wq Ws p1.Held)]], 0⟩, ⟨3, 1, [.int .i64 p2], 0⟩, ⟨4, 1, [.bool p3], 0⟩, ⟨34, 5, [.agg [.int .i64 x4.Time, .vs 1 (Wq (Wr .i64) x4.States), .vs 1 (Wq (Wr .i64) x4.Since), .sl (n + 7) 0 0 (x4.Pulled).length, .vs 1 (Wq Ws x4.Held)]], 0⟩, ⟨3, 1, [], 0 + 1⟩, ⟨3, 1, [], 0 + 1⟩, ⟨4, 1, Wq Ws x4.Pulled, 0⟩]) hn 6 rfl (Ya (fun _ => .int _ _)) ⟨Vl rfl, Vl rfl, trivial⟩ ⟨.refl _, .refl _, .refl _, .refl _, Yr ⟨Vl rfl, Vl rfl, Zj rfl rfl rfl (Vx rfl), Vl rfl, Vl rfl, trivial⟩, .refl _, .refl _, .refl _, trivial⟩) ?_
   refine Weak.trans (Xm (E' := [(8, .ptr (n + 4) 0 0 0), (9, .int .i64 0)]) (loc1 := [⟨27, 1, [.vs 2 (Wq T_Belt.enc p0)], 0⟩, ⟨34, 5, [.agg [.int .i64 p1.Time, .vs 1 (Wq (Wr .i64) p1.States), .vs 1 (Wq (Wr .i64) p1.Since), .vs 1 (Wq Ws p1.Pulled), .vs 1 (Wq Ws p1.Held)]], 0⟩, ⟨3, 1, [.int .i64 p2], 0⟩, ⟨4, 1, [.bool p3], 0⟩, ⟨34, 5, [.agg [.int .i64 x4.Time, .vs 1 (Wq (Wr .i64) x4.States), .vs 1 (Wq (Wr .i64) x4.Since), .vs 1 (Wq Ws x4.Pulled), .vs 1 (Wq Ws x4.Held)]], 0⟩, ⟨3, 1, [], 0 + 1⟩, ⟨3, 1, [], 0 + 1⟩, ⟨4, 1, [], 0 + 1⟩]) hn 7 rfl (Ya (fun _ => .bool _)) ⟨Vl rfl, Vl rfl, trivial⟩ ⟨.refl _, .refl _, .refl _, .refl _, Yr ⟨Vl rfl, Vl rfl, Vl rfl, Zj rfl rfl rfl (Vx rfl), Vl rfl, trivial⟩, .refl _, .refl _, .refl _, trivial⟩) ?_
   exact Vt hn [(4, 0)] (by decide) ⟨Yj 0 4 rfl rfl, Vr rfl (.int _ _), trivial⟩ ⟨⟨_, rfl, rfl, .same _ _ _ _ (Xt ⟨Xw ⟨.int _ _, .vs _ _, .vs _ _, .vs _ _, .vs _ _, trivial⟩, trivial⟩)⟩, trivial⟩
 ·rintro _ _ _ _ ⟨he, hw⟩
  refine ⟨_, _, _, hw, ?_⟩
  exact Zm hn 0 rfl (Wu rfl) he [.agg [.int .i64 r.1.Time, .vs 1 (Wq (Wr .i64) r.1.States), .vs 1 (Wq (Wr .i64) r.1.Since), .vs 1 (Wq Ws r.1.Pulled), .vs 1 (Wq Ws r.1.Held)], .int .i64 r.2] ⟨Vv rfl (Ve hn rfl) rfl ta_34 ts_34 rfl rfl rfl, rfl, trivial⟩ ((lt_tup ⟨(Xw ⟨.int _ _, .vs _ _, .vs _ _, .vs _ _, .vs _ _, trivial⟩), .int _ _, trivial⟩)) trivial ⟨rfl, rfl⟩

theorem F_ref39_Hold_ok {p0 : List T_Belt} {p1 : T_Line} {p2 : Int} {p3 : Bool} {r : T_Line × Int} (hF : F_ref39_Hold p0 p1 p2 p3 = some r) (low : List AObj) {n : Nat} (hn : low.length = n) :
    Ys Try.prog 50 [.vs 2 (Wq T_Belt.enc p0), .agg [.int .i64 p1.Time, .vs 1 (Wq (Wr .i64) p1.States), .vs 1 (Wq (Wr .i64) p1.Since), .vs 1 (Wq Ws p1.Pulled), .vs 1 (Wq Ws p1.Held)], .int .i64 p2, .bool p3] low fun x low' => x = .tup [.agg [.int .i64 r.1.Time, .sl (n + 0) 0 0 (r.1.States).length, .sl (n + 1) 0 0 (r.1.Since).length, .sl (n + 2) 0 0 (r.1.Pulled).length, .sl (n + 3) 0 0 (r.1.Held).length], .int .i64 r.2] ∧ low' = low ++ [⟨3, 1, Wq (Wr .i64) r.1.States, 0⟩, ⟨3, 1, Wq (Wr .i64) r.1.Since, 0⟩, ⟨4, 1, Wq Ws r.1.Pulled, 0⟩, ⟨4, 1, Wq Ws r.1.Held, 0⟩] := by
 refine Vz (nt := 32) (rs := [.cell 8 34, .tmp 9]) Try.func50 rfl rfl (Wu rfl) rfl ?_
 refine Vw (Q' := FnE (fun E' lw lc => Yb E' lw lc [(8, .ptr (n + 4) 0 0 0), (9, .int .i64 r.2)] low [⟨3, 1, Wq (Wr .i64) r.1.States, 0⟩, ⟨3, 1, Wq (Wr .i64) r.1.Since, 0⟩, ⟨4, 1, Wq Ws r.1.Pulled, 0⟩, ⟨4, 1, Wq Ws r.1.Held, 0⟩, ⟨34, 5, [.agg [.int .i64 r.1.Time, .sl (n + 0) 0 0 (r.1.States).length, .sl (n + 1) 0 0 (r.1.Since).length, .sl (n + 2) 0 0 (r.1.Pulled).length, .sl (n + 3) 0 0 (r.1.Held).length]], 0⟩])) ?_ ?_
 ·unfold F_ref39_Hold at hF
  refine Vi ?_
  refine Vd ?_
  refine Vj (Zc hn rfl (v := .agg [.int .i64 p1.Time, .vs 1 (Wq (Wr .i64) p1.States), .vs 1 (Wq (Wr .i64) p1.Since), .vs 1 (Wq Ws p1.Pulled), .vs 1 (Wq Ws p1.Held)]) rfl rfl (Wv _) rfl rfl) rfl ?_
  refine Vj (Xe hn rfl tz_34 rfl rfl (Wv _) rfl) rfl ?_
  refine Va (Xa rfl) rfl ?_
  refine Vf ?_
  refine Vi ?_
  refine Vd ?_
  obtain ⟨x1, h2, hF⟩ := Yt hF
  refine Va (Vv (ds := [.int .i64 p1.Time, .vs 1 (Wq (Wr .i64) p1.States), .vs 1 (Wq (Wr .i64) p1.Since), .vs 1 (Wq Ws p1.Pulled), .vs 1 (Wq Ws p1.Held)]) rfl (Ve hn rfl) rfl ta_34 ts_34 rfl rfl rfl) rfl ?_
  refine Vj (Xg (r := .agg [.int .i64 x1.Time, .sl (n + 2) 0 0 (x1.States).length, .sl (n + 3) 0 0 (x1.Since).length, .sl (n + 4) 0 0 (x1.Pulled).length, .sl (n + 5) 0 0 (x1.Held).length]) (os := [⟨3, 1, Wq (Wr .i64) x1.States, 0⟩, ⟨3, 1, Wq (Wr .i64) x1.Since, 0⟩, ⟨4, 1, Wq Ws x1.Pulled, 0⟩, ⟨4, 1, Wq Ws x1.Held, 0⟩]) rfl Try.call23 (F_ref39_Copy_ok h2 _ (Xi hn rfl))) rfl ?_
  refine Vj (Vy (p := .agg [.int .i64 x1.Time, .sl (n + 2) 0 0 (x1.States).length, .sl (n + 3) 0 0 (x1.Since).length, .sl (n + 4) 0 0 (x1.Pulled).length, .sl (n + 5) 0 0 (x1.Held).length]) (e' := .agg [.int .i64 x1.Time, .sl (n + 2) 0 0 (x1.States).length, .sl (n + 3) 0 0 (x1.Since).length, .sl (n + 4) 0 0 (x1.Pulled).length, .sl (n + 5) 0 0 (x1.Held).length]) rfl (Ve hn rfl) rfl rfl ts_34 rfl (Ye rfl) rfl (Wu rfl) rfl (Xr hn rfl)) rfl ?_
  refine Vf ?_
  refine Vi ?_
  refine Vi ?_
  refine Vd ?_
  obtain ⟨x3, h4, hF⟩ := Yt hF
  refine Va (Xc rfl) rfl ?_
  refine Va (Vv (ds := [.int .i64 x1.Time, .sl (n + 2) 0 0 (x1.States).length, .sl (n + 3) 0 0 (x1.Since).length, .sl (n + 4) 0 0 (x1.Pulled).length, .sl (n + 5) 0 0 (x1.Held).length]) rfl (Ve hn rfl) rfl ta_34 ts_34 rfl rfl rfl) rfl ?_
  refine Va (Vk rfl) rfl ?_
  refine Vj (vef_callB (vs := [.vs 2 (Wq T_Belt.enc p0), .agg [.int .i64 x1.Time, .vs 1 (Wq (Wr .i64) x1.States), .vs 1 (Wq (Wr .i64) x1.Since), .vs 1 (Wq Ws x1.Pulled), .vs 1 (Wq Ws x1.Held)], .int .i64 p2]) rfl Try.call57 ⟨Za rfl (.vs _ _), view_agg rfl ⟨Za rfl (.int _ _), Zi rfl (Ve hn rfl) rfl rfl (Ya (fun _ => .int _ _)) (Vx rfl), Zi rfl (Ve hn rfl) rfl rfl (Ya (fun _ => .int _ _)) (Vx rfl), Zi rfl (Ve hn rfl) rfl rfl (Ya (fun _ => .bool _)) (Vx rfl), Zi rfl (Ve hn rfl) rfl rfl (Ya (fun _ => .bool _)) (Vx rfl), trivial⟩, Za rfl (.int _ _), trivial⟩ ((F_ref39_check_ok h4 []).mono fun _ _ h => h.1) (.int _ _)) rfl ?_
  refine Va (Xa rfl) rfl ?_
  refine Vf ?_
  refine Vi ?_
  refine Vd ?_
  refine Va (Vk rfl) rfl ?_
  refine Va (Ze rfl rfl) rfl ?_
  refine Vf ?_
  refine Xh rfl (fun c5 => ?_) (fun c5 => ?_)
  ·have hF := Yo c5 hF
   refine Vi ?_
   refine Vd ?_
   refine Va (Vv (ds := [.int .i64 x1.Time, .sl (n + 2) 0 0 (x1.States).length, .sl (n + 3) 0 0 (x1.Since).length, .sl (n + 4) 0 0 (x1.Pulled).length, .sl (n + 5) 0 0 (x1.Held).length]) rfl (Ve hn rfl) rfl ta_34 ts_34 rfl rfl rfl) rfl ?_
   refine Va (Vk rfl) rfl ?_
   refine Vj (Vy (p := .agg [.int .i64 x1.Time, .sl (n + 2) 0 0 (x1.States).length, .sl (n + 3) 0 0 (x1.Since).length, .sl (n + 4) 0 0 (x1.Pulled).length, .sl (n + 5) 0 0 (x1.Held).length]) (e' := .agg [.int .i64 x1.Time, .sl (n + 2) 0 0 (x1.States).length, .sl (n + 3) 0 0 (x1.Since).length, .sl (n + 4) 0 0 (x1.Pulled).length, .sl (n + 5) 0 0 (x1.Held).length]) rfl (Ve hn rfl) rfl rfl ts_34 rfl (Ye rfl) rfl (Wu rfl) rfl (Xr hn rfl)) rfl ?_
   refine Va (Xa rfl) rfl ?_
   refine Vf ?_
   refine Xb ?_
   obtain rfl := Wt hF
   refine Wg ?_
   exact Vt hn [(2, 0), (3, 0), (4, 0), (5, 0), (1, 0)] (by decide) ⟨Yj 4 1 rfl rfl, Vr rfl (.int _ _), trivial⟩ ⟨⟨_, rfl, rfl, .same _ _ _ _ (Vh (fun _ => .int _ _))⟩, ⟨_, rfl, rfl, .same _ _ _ _ (Vh (fun _ => .int _ _))⟩, ⟨_, rfl, rfl, .same _ _ _ _ (Vh (fun _ => .bool _))⟩, ⟨_, rfl, rfl, .same _ _ _ _ (Vh (fun _ => .bool _))⟩, ⟨_, rfl, rfl, .agg _ _ _ _ _ ⟨Vr rfl (.int _ _), Xq 0 2 rfl rfl, Xq 1 3 rfl rfl, Xq 2 4 rfl rfl, Xq 3 5 rfl rfl, trivial⟩⟩, trivial⟩
  ·have hF := Yp c5 hF
   refine Xn ?_
   refine Vi ?_
   refine Vi ?_
   refine Vd ?_
   refine Va (Vm rfl) rfl ?_
   refine Vf ?_
   obtain ⟨o6, ho6, hF⟩ := Yt hF
   refine Vw (Q' := (fun o6 => OnlyE .normal (fun E' lw lc => Yb E' lw lc [(2, .int .i64 p2), (3, .bool p3), (5, .ptr (n + 0) 0 0 0), (8, .ptr (n + 1) 0 0 0)] low [⟨34, 5, [.agg [.int .i64 o6.Time, .sl (n + 2) 0 0 (o6.States).length, .sl (n + 3) 0 0 (o6.Since).length, .sl (n + 4) 0 0 (o6.Pulled).length, .sl (n + 5) 0 0 (o6.Held).length]], 0⟩, ⟨34, 5, [.agg [.int .i64 0, .nils, .nils, .nils, .nils]], 0⟩, ⟨3, 1, Wq (Wr .i64) o6.States, 0⟩, ⟨3, 1, Wq (Wr .i64) o6.Since, 0⟩, ⟨4, 1, Wq Ws o6.Pulled, 0⟩, ⟨4, 1, Wq Ws o6.Held, 0⟩])) o6) ?_ ?_
   ·replace hF := ho6
    refine Xh rfl (fun c7 => ?_) (fun c7 => ?_)
    ·have hF := Yo c7 hF
     refine Vd ?_
     obtain ⟨x8, h9, hF⟩ := Yt hF
     refine Va (Xc rfl) rfl ?_
     refine Va (Vv (ds := [.int .i64 x1.Time, .sl (n + 2) 0 0 (x1.States).length, .sl (n + 3) 0 0 (x1.Since).length, .sl (n + 4) 0 0 (x1.Pulled).length, .sl (n + 5) 0 0 (x1.Held).length]) rfl (Ve hn rfl) rfl ta_34 ts_34 rfl rfl rfl) rfl ?_
     refine Va (Vk rfl) rfl ?_
     refine Vj (vef_callBo (vs := [.vs 2 (Wq T_Belt.enc p0), .agg [.int .i64 x1.Time, .vs 1 (Wq (Wr .i64) x1.States), .vs 1 (Wq (Wr .i64) x1.Since), .vs 1 (Wq Ws x1.Pulled), .vs 1 (Wq Ws x1.Held)], .int .i64 p2]) (r := .agg [.int .i64 x8.Time, .sl (0 + 0) 0 0 (x8.States).length, .sl (0 + 1) 0 0 (x8.Since).length, .sl (0 + 2) 0 0 (x8.Pulled).length, .sl (0 + 3) 0 0 (x8.Held).length]) (r2 := .agg [.int .i64 x8.Time, .sl (n + 6) 0 0 (x8.States).length, .sl (n + 7) 0 0 (x8.Since).length, .sl (n + 8) 0 0 (x8.Pulled).length, .sl (n + 9) 0 0 (x8.Held).length]) (os := [⟨3, 1, Wq (Wr .i64) x8.States, 0⟩, ⟨3, 1, Wq (Wr .i64) x8.Since, 0⟩, ⟨4, 1, Wq Ws x8.Pulled, 0⟩, ⟨4, 1, Wq Ws x8.Held, 0⟩]) (loc2 := [⟨34, 5, [.agg [.int .i64 x1.Time, .sl (n + 2) 0 0 (x1.States).length, .sl (n + 3) 0 0 (x1.Since).length, .sl (n + 4) 0 0 (x1.Pulled).length, .sl (n + 5) 0 0 (x1.Held).length]], 0⟩, ⟨34, 5, [.agg [.int .i64 0, .nils, .nils, .nils, .nils]], 0⟩, ⟨3, 1, Wq (Wr .i64) x1.States, 0⟩, ⟨3, 1, Wq (Wr .i64) x1.Since, 0⟩, ⟨4, 1, Wq Ws x1.Pulled, 0⟩, ⟨4, 1, Wq Ws x1.Held, 0⟩, ⟨3, 1, Wq (Wr .i64) x8.States, 0⟩, ⟨3, 1, Wq (Wr .i64) x8.Since, 0⟩, ⟨4, 1, Wq Ws x8.Pulled, 0⟩, ⟨4, 1, Wq Ws x8.Held, 0⟩]) hn rfl rfl Try.call58 ⟨Za rfl (.vs _ _), view_agg rfl ⟨Za rfl (.int _ _), Zi rfl (Ve hn rfl) rfl rfl (Ya (fun _ => .int _ _)) (Vx rfl), Zi rfl (Ve hn rfl) rfl rfl (Ya (fun _ => .int _ _)) (Vx rfl), Zi rfl (Ve hn rfl) rfl rfl (Ya (fun _ => .bool _)) (Vx rfl), Zi rfl (Ve hn rfl) rfl rfl (Ya (fun _ => .bool _)) (Vx rfl), trivial⟩, Za rfl (.int _ _), trivial⟩ (F_ref39_stop_ok h9 [] rfl) (scr_agg rfl ⟨scr_sc rfl (.int _ _), scr_sl rfl rfl, scr_sl rfl rfl, scr_sl rfl rfl, scr_sl rfl rfl, trivial⟩) ⟨sc_map (fun _ => .int _ _), sc_map (fun _ => .int _ _), sc_map (fun _ => .bool _), sc_map (fun _ => .bool _), trivial⟩ rfl) rfl ?_
     refine Vj (Vy (p := .agg [.int .i64 x8.Time, .sl (n + 6) 0 0 (x8.States).length, .sl (n + 7) 0 0 (x8.Since).length, .sl (n + 8) 0 0 (x8.Pulled).length, .sl (n + 9) 0 0 (x8.Held).length]) (e' := .agg [.int .i64 x8.Time, .sl (n + 6) 0 0 (x8.States).length, .sl (n + 7) 0 0 (x8.Since).length, .sl (n + 8) 0 0 (x8.Pulled).length, .sl (n + 9) 0 0 (x8.Held).length]) rfl (Ve hn rfl) rfl rfl ts_34 rfl (Ye rfl) rfl (Wu rfl) rfl (Xr hn rfl)) rfl ?_
     refine Vf ?_
     obtain rfl := Wt hF
     refine Xy ?_
     exact Vt hn [(0, 0), (1, 0), (6, 0), (7, 0), (8, 0), (9, 0)] (by decide) ⟨Vr rfl (.int _ _), Vr rfl (.bool _), Yj 0 0 rfl rfl, Yj 1 1 rfl rfl, trivial⟩ ⟨⟨_, rfl, rfl, .agg _ _ _ _ _ ⟨Vr rfl (.int _ _), Xq 2 6 rfl rfl, Xq 3 7 rfl rfl, Xq 4 8 rfl rfl, Xq 5 9 rfl rfl, trivial⟩⟩, ⟨_, rfl, rfl, .same _ _ _ _ (Xt ⟨Xw ⟨.int _ _, .nils, .nils, .nils, .nils, trivial⟩, trivial⟩)⟩, ⟨_, rfl, rfl, .same _ _ _ _ (Vh (fun _ => .int _ _))⟩, ⟨_, rfl, rfl, .same _ _ _ _ (Vh (fun _ => .int _ _))⟩, ⟨_, rfl, rfl, .same _ _ _ _ (Vh (fun _ => .bool _))⟩, ⟨_, rfl, rfl, .same _ _ _ _ (Vh (fun _ => .bool _))⟩, trivial⟩
    ·have hF := Yp c7 hF
     refine Xn ?_
     obtain rfl := Wt hF
     refine Xy ?_
     exact Vp ⟨rfl, rfl, rfl, rfl, trivial⟩
   ·rintro _ _ _ _ ⟨rfl, hw⟩
    refine ⟨_, _, _, hw, ?_⟩
    refine Vi ?_
    refine Vd ?_
    obtain ⟨x10, h11, hF⟩ := Yt hF
    refine Va (Vc rfl tf_34_4 ts_32 (by decide)) rfl ?_
    refine Va (Vg rfl (Ve hn rfl) rfl ta_32 rfl) rfl ?_
    refine Va (Vk rfl) rfl ?_
    refine Va (Vm rfl) rfl ?_
    refine Va (Wa rfl rfl rfl (Ve hn rfl) h11 te_32 ts_4) rfl ?_
    refine Vj (Wl (p := .bool p3) (e' := p3) rfl (Ve hn rfl) (Zb h11).2 rfl ts_4 rfl (Ye rfl) (Wu rfl) rfl (Xr hn rfl)) rfl ?_
    refine Vf ?_
    refine Vi ?_
    refine Vd ?_
    refine Va (Vv (ds := [.int .i64 o6.Time, .sl (n + 2) 0 0 (o6.States).length, .sl (n + 3) 0 0 (o6.Since).length, .sl (n + 4) 0 0 (o6.Pulled).length, .sl (n + 5) 0 0 (o6.Held).length]) rfl (Ve hn rfl) rfl ta_34 ts_34 rfl rfl rfl) rfl ?_
    refine Vj (Vy (p := .agg [.int .i64 o6.Time, .sl (n + 2) 0 0 (o6.States).length, .sl (n + 3) 0 0 (o6.Since).length, .sl (n + 4) 0 0 (o6.Pulled).length, .sl (n + 5) 0 0 (o6.Held).length]) (e' := .agg [.int .i64 o6.Time, .sl (n + 2) 0 0 (o6.States).length, .sl (n + 3) 0 0 (o6.Since).length, .sl (n + 4) 0 0 (o6.Pulled).length, .sl (n + 5) 0 0 (o6.Held).length]) rfl (Ve hn rfl) rfl rfl ts_34 rfl (Ye rfl) rfl (Wu rfl) rfl (Xr hn rfl)) rfl ?_
    refine Va (Xa rfl) rfl ?_
    refine Vf ?_
    refine Xb ?_
    obtain rfl := Wt hF
    refine Wg ?_
    exact Vt hn [(2, 0), (3, 0), (4, 0), (5, 0), (1, 0)] (by decide) ⟨Yj 4 1 rfl rfl, Vr rfl (.int _ _), trivial⟩ ⟨⟨_, rfl, rfl, .same _ _ _ _ (Vh (fun _ => .int _ _))⟩, ⟨_, rfl, rfl, .same _ _ _ _ (Vh (fun _ => .int _ _))⟩, ⟨_, rfl, rfl, .same _ _ _ _ (Vh (fun _ => .bool _))⟩, ⟨_, rfl, rfl, .same _ _ _ _ (Vh (fun _ => .bool _))⟩, ⟨_, rfl, rfl, .agg _ _ _ _ _ ⟨Vr rfl (.int _ _), Xq 0 2 rfl rfl, Xq 1 3 rfl rfl, Xq 2 4 rfl rfl, Xq 3 5 rfl (congrArg (PV.sl _ _ 0) (Eq.trans rfl List.length_set.symm)), trivial⟩⟩, trivial⟩
 ·rintro _ _ _ _ ⟨he, hw⟩
  refine ⟨_, _, _, hw, ?_⟩
  exact Zm hn 4 rfl (Wu rfl) he [.agg [.int .i64 r.1.Time, .sl (n + 0) 0 0 (r.1.States).length, .sl (n + 1) 0 0 (r.1.Since).length, .sl (n + 2) 0 0 (r.1.Pulled).length, .sl (n + 3) 0 0 (r.1.Held).length], .int .i64 r.2] ⟨Vv rfl (Ve hn rfl) rfl ta_34 ts_34 rfl rfl rfl, rfl, trivial⟩ ((lt_tup ⟨(Xw ⟨.int _ _, .sl _ _ _ _ (Zw rfl), .sl _ _ _ _ (Zw rfl), .sl _ _ _ _ (Zw rfl), .sl _ _ _ _ (Zw rfl), trivial⟩), .int _ _, trivial⟩)) ⟨Vh (fun _ => .int _ _), Vh (fun _ => .int _ _), Vh (fun _ => .bool _), Vh (fun _ => .bool _), trivial⟩ ⟨rfl, rfl⟩

theorem F_law39_step_ok {p0 : List T_Belt} {p1 : T_Line} {p2 : Int} {p3 : Int} {p4 : Int} {r : T_Line × Int × T_Line × Int} (hF : F_law39_step p0 p1 p2 p3 p4 = some r) (low : List AObj) {n : Nat} (hn : low.length = n) :
    Ys Try.prog 22 [.vs 2 (Wq T_Belt.enc p0), .agg [.int .i64 p1.Time, .vs 1 (Wq (Wr .i64) p1.States), .vs 1 (Wq (Wr .i64) p1.Since), .vs 1 (Wq Ws p1.Pulled), .vs 1 (Wq Ws p1.Held)], .int .i64 p2, .int .i64 p3, .int .i64 p4] low fun x low' => x = .tup [.agg [.int .i64 r.1.Time, .vs 1 (Wq (Wr .i64) r.1.States), .vs 1 (Wq (Wr .i64) r.1.Since), .vs 1 (Wq Ws r.1.Pulled), .vs 1 (Wq Ws r.1.Held)], .int .i64 r.2.1, .agg [.int .i64 r.2.2.1.Time, .sl (n + 0) 0 0 (r.2.2.1.States).length, .sl (n + 1) 0 0 (r.2.2.1.Since).length, .sl (n + 2) 0 0 (r.2.2.1.Pulled).length, .vs 1 (Wq Ws r.2.2.1.Held)], .int .i64 r.2.2.2] ∧ low' = low ++ [⟨3, 1, Wq (Wr .i64) r.2.2.1.States, 0⟩, ⟨3, 1, Wq (Wr .i64) r.2.2.1.Since, 0⟩, ⟨4, 1, Wq Ws r.2.2.1.Pulled, 0⟩] := by
 refine Vz (nt := 163) (rs := [.cell 10 34, .tmp 11, .cell 12 34, .tmp 13]) Try.func22 rfl rfl (Wu rfl) rfl ?_
 refine Vw (Q' := FnE (fun E' lw lc => Yb E' lw lc [(10, .ptr (n + 3) 0 0 0), (11, .int .i64 r.2.1), (12, .ptr (n + 4) 0 0 0), (13, .int .i64 r.2.2.2)] low [⟨3, 1, Wq (Wr .i64) r.2.2.1.States, 0⟩, ⟨3, 1, Wq (Wr .i64) r.2.2.1.Since, 0⟩, ⟨4, 1, Wq Ws r.2.2.1.Pulled, 0⟩, ⟨34, 5, [.agg [.int .i64 r.1.Time, .vs 1 (Wq (Wr .i64) r.1.States), .vs 1 (Wq (Wr .i64) r.1.Since), .vs 1 (Wq Ws r.1.Pulled), .vs 1 (Wq Ws r.1.Held)]], 0⟩, ⟨34, 5, [.agg [.int .i64 r.2.2.1.Time, .sl (n + 0) 0 0 (r.2.2.1.States).length, .sl (n + 1) 0 0 (r.2.2.1.Since).length, .sl (n + 2) 0 0 (r.2.2.1.Pulled).length, .vs 1 (Wq Ws r.2.2.1.Held)]], 0⟩])) ?_ ?_
 ·unfold F_law39_step at hF
  refine Vi ?_
  refine Vd ?_
  refine Vj (Zc hn rfl (v := .agg [.int .i64 p1.Time, .vs 1 (Wq (Wr .i64) p1.States), .vs 1 (Wq (Wr .i64) p1.Since), .vs 1 (Wq Ws p1.Pulled), .vs 1 (Wq Ws p1.Held)]) rfl rfl (Wv _) rfl rfl) rfl ?_
  refine Vj (Xe hn rfl tz_34 rfl rfl (Wv _) rfl) rfl ?_
  refine Va (Xa rfl) rfl ?_
  refine Vj (Xe hn rfl tz_34 rfl rfl (Wv _) rfl) rfl ?_
  refine Va (Xa rfl) rfl ?_
  refine Vf ?_
  refine Vi ?_
  refine Vi ?_
  refine Vd ?_
  refine Va (Vk rfl) rfl ?_
  refine Vf ?_
  refine Yh ?_
  refine Vi ?_
  refine Vd ?_
  refine Va (Xl rfl rfl) rfl ?_
  refine Va (Xz rfl) rfl ?_
  refine Vf ?_
  refine Xh rfl (fun c1 => ?_) (fun c1 => ?_)
  ·have hF := Yo c1 hF
   refine Vi ?_
   refine Vd ?_
   obtain ⟨x2, h3, hF⟩ := Yt hF
   refine Va (Xc rfl) rfl ?_
   refine Va (Vv (ds := [.int .i64 p1.Time, .vs 1 (Wq (Wr .i64) p1.States), .vs 1 (Wq (Wr .i64) p1.Since), .vs 1 (Wq Ws p1.Pulled), .vs 1 (Wq Ws p1.Held)]) rfl (Ve hn rfl) rfl ta_34 ts_34 rfl rfl rfl) rfl ?_
   refine Va (Vk rfl) rfl ?_
   refine Vj (Xg (r := .tup [.agg [.int .i64 x2.1.Time, .vs 1 (Wq (Wr .i64) x2.1.States), .vs 1 (Wq (Wr .i64) x2.1.Since), .vs 1 (Wq Ws x2.1.Pulled), .vs 1 (Wq Ws x2.1.Held)], .int .i64 x2.2]) (os := []) rfl Try.call13 (F_belts_Start_ok h3 _ (Xi hn rfl))) rfl ?_
   refine Va (rd_mvT rfl) rfl ?_
   refine Va (Xu rfl rfl) rfl ?_
   refine Va (Xu rfl rfl) rfl ?_
   refine Vj (Xe hn rfl tz_34 rfl rfl (Wv _) rfl) rfl ?_
   refine Vj (Vy (p := .agg [.int .i64 x2.1.Time, .vs 1 (Wq (Wr .i64) x2.1.States), .vs 1 (Wq (Wr .i64) x2.1.Since), .vs 1 (Wq Ws x2.1.Pulled), .vs 1 (Wq Ws x2.1.Held)]) (e' := .agg [.int .i64 x2.1.Time, .vs 1 (Wq (Wr .i64) x2.1.States), .vs 1 (Wq (Wr .i64) x2.1.Since), .vs 1 (Wq Ws x2.1.Pulled), .vs 1 (Wq Ws x2.1.Held)]) rfl (Ve hn rfl) rfl rfl ts_34 rfl (Ye rfl) rfl (Wu rfl) rfl (Xr hn rfl)) rfl ?_
   refine Va (Xa rfl) rfl ?_
   refine Vf ?_
   refine Vi ?_
   refine Vd ?_
   obtain ⟨x4, h5, hF⟩ := Yt hF
   refine Va (Xc rfl) rfl ?_
   refine Va (Vv (ds := [.int .i64 p1.Time, .vs 1 (Wq (Wr .i64) p1.States), .vs 1 (Wq (Wr .i64) p1.Since), .vs 1 (Wq Ws p1.Pulled), .vs 1 (Wq Ws p1.Held)]) rfl (Ve hn rfl) rfl ta_34 ts_34 rfl rfl rfl) rfl ?_
   refine Va (Vk rfl) rfl ?_
   refine Vj (Xg (r := .tup [.agg [.int .i64 x4.1.Time, .sl (n + 4) 0 0 (x4.1.States).length, .sl (n + 5) 0 0 (x4.1.Since).length, .sl (n + 6) 0 0 (x4.1.Pulled).length, .vs 1 (Wq Ws x4.1.Held)], .int .i64 x4.2]) (os := [⟨3, 1, Wq (Wr .i64) x4.1.States, 0⟩, ⟨3, 1, Wq (Wr .i64) x4.1.Since, 0⟩, ⟨4, 1, Wq Ws x4.1.Pulled, 0⟩]) rfl Try.call45 (F_ref39_Start_ok h5 _ (Xi hn rfl))) rfl ?_
   refine Va (rd_mvT rfl) rfl ?_
   refine Va (Xu rfl rfl) rfl ?_
   refine Va (Xu rfl rfl) rfl ?_
   refine Vj (Xe hn rfl tz_34 rfl rfl (Wv _) rfl) rfl ?_
   refine Vj (Vy (p := .agg [.int .i64 x4.1.Time, .sl (n + 4) 0 0 (x4.1.States).length, .sl (n + 5) 0 0 (x4.1.Since).length, .sl (n + 6) 0 0 (x4.1.Pulled).length, .vs 1 (Wq Ws x4.1.Held)]) (e' := .agg [.int .i64 x4.1.Time, .sl (n + 4) 0 0 (x4.1.States).length, .sl (n + 5) 0 0 (x4.1.Since).length, .sl (n + 6) 0 0 (x4.1.Pulled).length, .vs 1 (Wq Ws x4.1.Held)]) rfl (Ve hn rfl) rfl rfl ts_34 rfl (Ye rfl) rfl (Wu rfl) rfl (Xr hn rfl)) rfl ?_
   refine Va (Xa rfl) rfl ?_
   refine Vf ?_
   refine Vi ?_
   refine Wc [[], [], [], [], [0], [0, 1, 4], [0, 1, 2, 4, 5], [0, 1, 2, 3, 4, 5, 6]] [false, false, false, false, true, false, true, false] [(low, [⟨34, 5, [.agg [.int .i64 p1.Time, .vs 1 (Wq (Wr .i64) p1.States), .vs 1 (Wq (Wr .i64) p1.Since), .vs 1 (Wq Ws p1.Pulled), .vs 1 (Wq Ws p1.Held)]], 0⟩, ⟨34, 5, [.agg [.int .i64 0, .nils, .nils, .nils, .nils]], 0⟩, ⟨34, 5, [.agg [.int .i64 0, .nils, .nils, .nils, .nils]], 0⟩, ⟨34, 5, [.agg [.int .i64 x2.1.Time, .vs 1 (Wq (Wr .i64) x2.1.States), .vs 1 (Wq (Wr .i64) x2.1.Since), .vs 1 (Wq Ws x2.1.Pulled), .vs 1 (Wq Ws x2.1.Held)]], 0⟩, ⟨3, 1, Wq (Wr .i64) x4.1.States, 0⟩, ⟨3, 1, Wq (Wr .i64) x4.1.Since, 0⟩, ⟨4, 1, Wq Ws x4.1.Pulled, 0⟩, ⟨34, 5, [.agg [.int .i64 x4.1.Time, .sl (n + 4) 0 0 (x4.1.States).length, .sl (n + 5) 0 0 (x4.1.Since).length, .sl (n + 6) 0 0 (x4.1.Pulled).length, .vs 1 (Wq Ws x4.1.Held)]], 0⟩]), (low, [⟨34, 5, [.agg [.int .i64 p1.Time, .vs 1 (Wq (Wr .i64) p1.States), .vs 1 (Wq (Wr .i64) p1.Since), .vs 1 (Wq Ws p1.Pulled), .vs 1 (Wq Ws p1.Held)]], 0⟩, ⟨34, 5, [.agg [.int .i64 x2.1.Time, .vs 1 (Wq (Wr .i64) x2.1.States), .vs 1 (Wq (Wr .i64) x2.1.Since), .vs 1 (Wq Ws x2.1.Pulled), .vs 1 (Wq Ws x2.1.Held)]], 0⟩, ⟨34, 5, [.agg [.int .i64 0, .nils, .nils, .nils, .nils]], 0⟩, ⟨34, 5, [.agg [.int .i64 x2.1.Time, .vs 1 (Wq (Wr .i64) x2.1.States), .vs 1 (Wq (Wr .i64) x2.1.Since), .vs 1 (Wq Ws x2.1.Pulled), .vs 1 (Wq Ws x2.1.Held)]], 0⟩, ⟨3, 1, Wq (Wr .i64) x4.1.States, 0⟩, ⟨3, 1, Wq (Wr .i64) x4.1.Since, 0⟩, ⟨4, 1, Wq Ws x4.1.Pulled, 0⟩, ⟨34, 5, [.agg [.int .i64 x4.1.Time, .sl (n + 4) 0 0 (x4.1.States).length, .sl (n + 5) 0 0 (x4.1.Since).length, .sl (n + 6) 0 0 (x4.1.Pulled).length, .vs 1 (Wq Ws x4.1.Held)]], 0⟩]), (low, [⟨34, 5, [.agg [.int .i64 p1.Time, .vs 1 (Wq (Wr .i64) p1.States), .vs 1 (Wq (Wr .i64) p1.Since), .vs 1 (Wq Ws p1.Pulled), .vs 1 (Wq Ws p1.Held)]], 0⟩, ⟨34, 5, [.agg [.int .i64 x2.1.Time, .vs 1 (Wq (Wr .i64) x2.1.States), .vs 1 (Wq (Wr .i64) x2.1.Since), .vs 1 (Wq Ws x2.1.Pulled), .vs 1 (Wq Ws x2.1.Held)]], 0⟩, ⟨34, 5, [.agg [.int .i64 x4.1.Time, .sl (n + 4) 0 0 (x4.1.States).length, .sl (n + 5) 0 0 (x4.1.Since).length, .sl (n + 6) 0 0 (x4.1.Pulled).length, .vs 1 (Wq Ws x4.1.Held)]], 0⟩, ⟨34, 5, [.agg [.int .i64 x2.1.Time, .vs 1 (Wq (Wr .i64) x2.1.States), .vs 1 (Wq (Wr .i64) x2.1.Since), .vs 1 (Wq Ws x2.1.Pulled), .vs 1 (Wq Ws x2.1.Held)]], 0⟩, ⟨3, 1, Wq (Wr .i64) x4.1.States, 0⟩, ⟨3, 1, Wq (Wr .i64) x4.1.Since, 0⟩, ⟨4, 1, Wq Ws x4.1.Pulled, 0⟩, ⟨34, 5, [.agg [.int .i64 x4.1.Time, .sl (n + 4) 0 0 (x4.1.States).length, .sl (n + 5) 0 0 (x4.1.Since).length, .sl (n + 6) 0 0 (x4.1.Pulled).length, .vs 1 (Wq Ws x4.1.Held)]], 0⟩])] mixed (by kernel_rfl) rfl (lenAll (Xx rfl (Xx rfl (Xx rfl Zn)))) rfl _ rfl rfl ?_
   refine Ym rfl rfl (Vv (ds := [.int .i64 x2.1.Time, .vs 1 (Wq (Wr .i64) x2.1.States), .vs 1 (Wq (Wr .i64) x2.1.Since), .vs 1 (Wq Ws x2.1.Pulled), .vs 1 (Wq Ws x2.1.Held)]) rfl (Ve hn rfl) rfl ta_34 ts_34 rfl rfl rfl) ?_
   refine Yi _ rfl rfl (Xx (VRd.ntl (Vk rfl)) (Xx (VRd.ntl (Vk rfl)) Zn)) ?_
   refine Yi _ rfl rfl (Xx (VRd.ntl (Vv (ds := [.int .i64 x4.1.Time, .sl (n + 4) 0 0 (x4.1.States).length, .sl (n + 5) 0 0 (x4.1.Since).length, .sl (n + 6) 0 0 (x4.1.Pulled).length, .vs 1 (Wq Ws x4.1.Held)]) rfl (Ve hn rfl) rfl ta_34 ts_34 rfl rfl rfl)) (Xx (VRd.ntl (Vv (ds := [.int .i64 x4.1.Time, .sl (n + 4) 0 0 (x4.1.States).length, .sl (n + 5) 0 0 (x4.1.Since).length, .sl (n + 6) 0 0 (x4.1.Pulled).length, .vs 1 (Wq Ws x4.1.Held)]) rfl (Ve hn rfl) rfl ta_34 ts_34 rfl rfl rfl)) Zn)) ?_
   refine Yi _ rfl rfl (Xx (VRd.ntl (Vk rfl)) (Xx (VRd.ntl (Vk rfl)) (Xx (VRd.ntl (Vk rfl)) Zn))) ?_
   refine Zh rfl rfl rfl (Vy (p := .agg [.int .i64 x2.1.Time, .vs 1 (Wq (Wr .i64) x2.1.States), .vs 1 (Wq (Wr .i64) x2.1.Since), .vs 1 (Wq Ws x2.1.Pulled), .vs 1 (Wq Ws x2.1.Held)]) (e' := .agg [.int .i64 x2.1.Time, .vs 1 (Wq (Wr .i64) x2.1.States), .vs 1 (Wq (Wr .i64) x2.1.Since), .vs 1 (Wq Ws x2.1.Pulled), .vs 1 (Wq Ws x2.1.Held)]) rfl (Ve hn rfl) rfl rfl ts_34 rfl (Ye rfl) rfl (Wu rfl) rfl (Xr hn rfl)) ?_
   refine Ym rfl rfl (Xa rfl) ?_
   refine Zh rfl rfl rfl (Vy (p := .agg [.int .i64 x4.1.Time, .sl (n + 4) 0 0 (x4.1.States).length, .sl (n + 5) 0 0 (x4.1.Since).length, .sl (n + 6) 0 0 (x4.1.Pulled).length, .vs 1 (Wq Ws x4.1.Held)]) (e' := .agg [.int .i64 x4.1.Time, .sl (n + 4) 0 0 (x4.1.States).length, .sl (n + 5) 0 0 (x4.1.Since).length, .sl (n + 6) 0 0 (x4.1.Pulled).length, .vs 1 (Wq Ws x4.1.Held)]) rfl (Ve hn rfl) rfl rfl ts_34 rfl (Ye rfl) rfl (Wu rfl) rfl (Xr hn rfl)) ?_
   refine Ym rfl rfl (Xa rfl) ?_
   refine Yz ?_
   refine Xb ?_
   obtain rfl := Wt hF
   refine Wg ?_
   exact Vt hn [(4, 0), (5, 0), (6, 0), (1, 0), (2, 0)] (by decide) ⟨Yj 3 1 rfl rfl, Vr rfl (.int _ _), Yj 4 2 rfl rfl, Vr rfl (.int _ _), trivial⟩ ⟨⟨_, rfl, rfl, .same _ _ _ _ (Vh (fun _ => .int _ _))⟩, ⟨_, rfl, rfl, .same _ _ _ _ (Vh (fun _ => .int _ _))⟩, ⟨_, rfl, rfl, .same _ _ _ _ (Vh (fun _ => .bool _))⟩, ⟨_, rfl, rfl, .same _ _ _ _ (Xt ⟨Xw ⟨.int _ _, .vs _ _, .vs _ _, .vs _ _, .vs _ _, trivial⟩, trivial⟩)⟩, ⟨_, rfl, rfl, .agg _ _ _ _ _ ⟨Vr rfl (.int _ _), Xq 0 4 rfl rfl, Xq 1 5 rfl rfl, Xq 2 6 rfl rfl, Vr rfl (.vs _ _), trivial⟩⟩, trivial⟩
  ·have hF := Yp c1 hF
   refine Vi ?_
   refine Vd ?_
   refine Va (Xl rfl rfl) rfl ?_
   refine Va (Xz rfl) rfl ?_
   refine Vf ?_
   refine Xh rfl (fun c6 => ?_) (fun c6 => ?_)
   ·have hF := Yo c6 hF
    refine Vi ?_
    refine Vd ?_
    obtain ⟨x7, h8, hF⟩ := Yt hF
    refine Va (Xc rfl) rfl ?_
    refine Va (Vv (ds := [.int .i64 p1.Time, .vs 1 (Wq (Wr .i64) p1.States), .vs 1 (Wq (Wr .i64) p1.Since), .vs 1 (Wq Ws p1.Pulled), .vs 1 (Wq Ws p1.Held)]) rfl (Ve hn rfl) rfl ta_34 ts_34 rfl rfl rfl) rfl ?_
    refine Va (Vk rfl) rfl ?_
    refine Vj (Xg (r := .tup [.agg [.int .i64 x7.1.Time, .vs 1 (Wq (Wr .i64) x7.1.States), .vs 1 (Wq (Wr .i64) x7.1.Since), .vs 1 (Wq Ws x7.1.Pulled), .vs 1 (Wq Ws x7.1.Held)], .int .i64 x7.2]) (os := []) rfl Try.call14 (F_belts_Wait_ok h8 _ (Xi hn rfl))) rfl ?_
    refine Va (rd_mvT rfl) rfl ?_
    refine Va (Xu rfl rfl) rfl ?_
    refine Va (Xu rfl rfl) rfl ?_
    refine Vj (Xe hn rfl tz_34 rfl rfl (Wv _) rfl) rfl ?_
    refine Vj (Vy (p := .agg [.int .i64 x7.1.Time, .vs 1 (Wq (Wr .i64) x7.1.States), .vs 1 (Wq (Wr .i64) x7.1.Since), .vs 1 (Wq Ws x7.1.Pulled), .vs 1 (Wq Ws x7.1.Held)]) (e' := .agg [.int .i64 x7.1.Time, .vs 1 (Wq (Wr .i64) x7.1.States), .vs 1 (Wq (Wr .i64) x7.1.Since), .vs 1 (Wq Ws x7.1.Pulled), .vs 1 (Wq Ws x7.1.Held)]) rfl (Ve hn rfl) rfl rfl ts_34 rfl (Ye rfl) rfl (Wu rfl) rfl (Xr hn rfl)) rfl ?_
    refine Va (Xa rfl) rfl ?_
    refine Vf ?_
    refine Vi ?_
    refine Vd ?_
    obtain ⟨x9, h10, hF⟩ := Yt hF
    refine Va (Xc rfl) rfl ?_
    refine Va (Vv (ds := [.int .i64 p1.Time, .vs 1 (Wq (Wr .i64) p1.States), .vs 1 (Wq (Wr .i64) p1.Since), .vs 1 (Wq Ws p1.Pulled), .vs 1 (Wq Ws p1.Held)]) rfl (Ve hn rfl) rfl ta_34 ts_34 rfl rfl rfl) rfl ?_
    refine Va (Vk rfl) rfl ?_
    refine Vj (Xg (r := .tup [.agg [.int .i64 x9.1.Time, .sl (n + 4) 0 0 (x9.1.States).length, .sl (n + 5) 0 0 (x9.1.Since).length, .sl (n + 6) 0 0 (x9.1.Pulled).length, .vs 1 (Wq Ws x9.1.Held)], .int .i64 x9.2]) (os := [⟨3, 1, Wq (Wr .i64) x9.1.States, 0⟩, ⟨3, 1, Wq (Wr .i64) x9.1.Since, 0⟩, ⟨4, 1, Wq Ws x9.1.Pulled, 0⟩]) rfl Try.call46 (F_ref39_Wait_ok h10 _ (Xi hn rfl))) rfl ?_
    refine Va (rd_mvT rfl) rfl ?_
    refine Va (Xu rfl rfl) rfl ?_
    refine Va (Xu rfl rfl) rfl ?_
    refine Vj (Xe hn rfl tz_34 rfl rfl (Wv _) rfl) rfl ?_
    refine Vj (Vy (p := .agg [.int .i64 x9.1.Time, .sl (n + 4) 0 0 (x9.1.States).length, .sl (n + 5) 0 0 (x9.1.Since).length, .sl (n + 6) 0 0 (x9.1.Pulled).length, .vs 1 (Wq Ws x9.1.Held)]) (e' := .agg [.int .i64 x9.1.Time, .sl (n + 4) 0 0 (x9.1.States).length, .sl (n + 5) 0 0 (x9.1.Since).length, .sl (n + 6) 0 0 (x9.1.Pulled).length, .vs 1 (Wq Ws x9.1.Held)]) rfl (Ve hn rfl) rfl rfl ts_34 rfl (Ye rfl) rfl (Wu rfl) rfl (Xr hn rfl)) rfl ?_
    refine Va (Xa rfl) rfl ?_
    refine Vf ?_
    refine Vi ?_
    refine Wc [[], [], [], [], [0], [0, 1, 4], [0, 1, 2, 4, 5], [0, 1, 2, 3, 4, 5, 6]] [false, false, false, false, true, false, true, false] [(low, [⟨34, 5, [.agg [.int .i64 p1.Time, .vs 1 (Wq (Wr .i64) p1.States), .vs 1 (Wq (Wr .i64) p1.Since), .vs 1 (Wq Ws p1.Pulled), .vs 1 (Wq Ws p1.Held)]], 0⟩, ⟨34, 5, [.agg [.int .i64 0, .nils, .nils, .nils, .nils]], 0⟩, ⟨34, 5, [.agg [.int .i64 0, .nils, .nils, .nils, .nils]], 0⟩, ⟨34, 5, [.agg [.int .i64 x7.1.Time, .vs 1 (Wq (Wr .i64) x7.1.States), .vs 1 (Wq (Wr .i64) x7.1.Since), .vs 1 (Wq Ws x7.1.Pulled), .vs 1 (Wq Ws x7.1.Held)]], 0⟩, ⟨3, 1, Wq (Wr .i64) x9.1.States, 0⟩, ⟨3, 1, Wq (Wr .i64) x9.1.Since, 0⟩, ⟨4, 1, Wq Ws x9.1.Pulled, 0⟩, ⟨34, 5, [.agg [.int .i64 x9.1.Time, .sl (n + 4) 0 0 (x9.1.States).length, .sl (n + 5) 0 0 (x9.1.Since).length, .sl (n + 6) 0 0 (x9.1.Pulled).length, .vs 1 (Wq Ws x9.1.Held)]], 0⟩]), (low, [⟨34, 5, [.agg [.int .i64 p1.Time, .vs 1 (Wq (Wr .i64) p1.States), .vs 1 (Wq (Wr .i64) p1.Since), .vs 1 (Wq Ws p1.Pulled), .vs 1 (Wq Ws p1.Held)]], 0⟩, ⟨34, 5, [.agg [.int .i64 x7.1.Time, .vs 1 (Wq (Wr .i64) x7.1.States), .vs 1 (Wq (Wr .i64) x7.1.Since), .vs 1 (Wq Ws x7.1.Pulled), .vs 1 (Wq Ws x7.1.Held)]], 0⟩, ⟨34, 5, [.agg [.int .i64 0, .nils, .nils, .nils, .nils]], 0⟩, ⟨34, 5, [.agg [.int .i64 x7.1.Time, .vs 1 (Wq (Wr .i64) x7.1.States), .vs 1 (Wq (Wr .i64) x7.1.Since), .vs 1 (Wq Ws x7.1.Pulled), .vs 1 (Wq Ws x7.1.Held)]], 0⟩, ⟨3, 1, Wq (Wr .i64) x9.1.States, 0⟩, ⟨3, 1, Wq (Wr .i64) x9.1.Since, 0⟩, ⟨4, 1, Wq Ws x9.1.Pulled, 0⟩, ⟨34, 5, [.agg [.int .i64 x9.1.Time, .sl (n + 4) 0 0 (x9.1.States).length, .sl (n + 5) 0 0 (x9.1.Since).length, .sl (n + 6) 0 0 (x9.1.Pulled).length, .vs 1 (Wq Ws x9.1.Held)]], 0⟩]), (low, [⟨34, 5, [.agg [.int .i64 p1.Time, .vs 1 (Wq (Wr .i64) p1.States), .vs 1 (Wq (Wr .i64) p1.Since), .vs 1 (Wq Ws p1.Pulled), .vs 1 (Wq Ws p1.Held)]], 0⟩, ⟨34, 5, [.agg [.int .i64 x7.1.Time, .vs 1 (Wq (Wr .i64) x7.1.States), .vs 1 (Wq (Wr .i64) x7.1.Since), .vs 1 (Wq Ws x7.1.Pulled), .vs 1 (Wq Ws x7.1.Held)]], 0⟩, ⟨34, 5, [.agg [.int .i64 x9.1.Time, .sl (n + 4) 0 0 (x9.1.States).length, .sl (n + 5) 0 0 (x9.1.Since).length, .sl (n + 6) 0 0 (x9.1.Pulled).length, .vs 1 (Wq Ws x9.1.Held)]], 0⟩, ⟨34, 5, [.agg [.int .i64 x7.1.Time, .vs 1 (Wq (Wr .i64) x7.1.States), .vs 1 (Wq (Wr .i64) x7.1.Since), .vs 1 (Wq Ws x7.1.Pulled), .vs 1 (Wq Ws x7.1.Held)]], 0⟩, ⟨3, 1, Wq (Wr .i64) x9.1.States, 0⟩, ⟨3, 1, Wq (Wr .i64) x9.1.Since, 0⟩, ⟨4, 1, Wq Ws x9.1.Pulled, 0⟩, ⟨34, 5, [.agg [.int .i64 x9.1.Time, .sl (n + 4) 0 0 (x9.1.States).length, .sl (n + 5) 0 0 (x9.1.Since).length, .sl (n + 6) 0 0 (x9.1.Pulled).length, .vs 1 (Wq Ws x9.1.Held)]], 0⟩])] mixed (by kernel_rfl) rfl (lenAll (Xx rfl (Xx rfl (Xx rfl Zn)))) rfl _ rfl rfl ?_
    refine Ym rfl rfl (Vv (ds := [.int .i64 x7.1.Time, .vs 1 (Wq (Wr .i64) x7.1.States), .vs 1 (Wq (Wr .i64) x7.1.Since), .vs 1 (Wq Ws x7.1.Pulled), .vs 1 (Wq Ws x7.1.Held)]) rfl (Ve hn rfl) rfl ta_34 ts_34 rfl rfl rfl) ?_
    refine Yi _ rfl rfl (Xx (VRd.ntl (Vk rfl)) (Xx (VRd.ntl (Vk rfl)) Zn)) ?_
    refine Yi _ rfl rfl (Xx (VRd.ntl (Vv (ds := [.int .i64 x9.1.Time, .sl (n + 4) 0 0 (x9.1.States).length, .sl (n + 5) 0 0 (x9.1.Since).length, .sl (n + 6) 0 0 (x9.1.Pulled).length, .vs 1 (Wq Ws x9.1.Held)]) rfl (Ve hn rfl) rfl ta_34 ts_34 rfl rfl rfl)) (Xx (VRd.ntl (Vv (ds := [.int .i64 x9.1.Time, .sl (n + 4) 0 0 (x9.1.States).length, .sl (n + 5) 0 0 (x9.1.Since).length, .sl (n + 6) 0 0 (x9.1.Pulled).length, .vs 1 (Wq Ws x9.1.Held)]) rfl (Ve hn rfl) rfl ta_34 ts_34 rfl rfl rfl)) Zn)) ?_
    refine Yi _ rfl rfl (Xx (VRd.ntl (Vk rfl)) (Xx (VRd.ntl (Vk rfl)) (Xx (VRd.ntl (Vk rfl)) Zn))) ?_
    refine Zh rfl rfl rfl (Vy (p := .agg [.int .i64 x7.1.Time, .vs 1 (Wq (Wr .i64) x7.1.States), .vs 1 (Wq (Wr .i64) x7.1.Since), .vs 1 (Wq Ws x7.1.Pulled), .vs 1 (Wq Ws x7.1.Held)]) (e' := .agg [.int .i64 x7.1.Time, .vs 1 (Wq (Wr .i64) x7.1.States), .vs 1 (Wq (Wr .i64) x7.1.Since), .vs 1 (Wq Ws x7.1.Pulled), .vs 1 (Wq Ws x7.1.Held)]) rfl (Ve hn rfl) rfl rfl ts_34 rfl (Ye rfl) rfl (Wu rfl) rfl (Xr hn rfl)) ?_
    refine Ym rfl rfl (Xa rfl) ?_
    refine Zh rfl rfl rfl (Vy (p := .agg [.int .i64 x9.1.Time, .sl (n + 4) 0 0 (x9.1.States).length, .sl (n + 5) 0 0 (x9.1.Since).length, .sl (n + 6) 0 0 (x9.1.Pulled).length, .vs 1 (Wq Ws x9.1.Held)]) (e' := .agg [.int .i64 x9.1.Time, .sl (n + 4) 0 0 (x9.1.States).length, .sl (n + 5) 0 0 (x9.1.Since).length, .sl (n + 6) 0 0 (x9.1.Pulled).length, .vs 1 (Wq Ws x9.1.Held)]) rfl (Ve hn rfl) rfl rfl ts_34 rfl (Ye rfl) rfl (Wu rfl) rfl (Xr hn rfl)) ?_
    refine Ym rfl rfl (Xa rfl) ?_
    refine Yz ?_
    refine Xb ?_
    obtain rfl := Wt hF
    refine Wg ?_
    exact Vt hn [(4, 0), (5, 0), (6, 0), (1, 0), (2, 0)] (by decide) ⟨Yj 3 1 rfl rfl, Vr rfl (.int _ _), Yj 4 2 rfl rfl, Vr rfl (.int _ _), trivial⟩ ⟨⟨_, rfl, rfl, .same _ _ _ _ (Vh (fun _ => .int _ _))⟩, ⟨_, rfl, rfl, .same _ _ _ _ (Vh (fun _ => .int _ _))⟩, ⟨_, rfl, rfl, .same _ _ _ _ (Vh (fun _ => .bool _))⟩, ⟨_, rfl, rfl, .same _ _ _ _ (Xt ⟨Xw ⟨.int _ _, .vs _ _, .vs _ _, .vs _ _, .vs _ _, trivial⟩, trivial⟩)⟩, ⟨_, rfl, rfl, .agg _ _ _ _ _ ⟨Vr rfl (.int _ _), Xq 0 4 rfl rfl, Xq 1 5 rfl rfl, Xq 2 6 rfl rfl, Vr rfl (.vs _ _), trivial⟩⟩, trivial⟩
   ·have hF := Yp c6 hF
    refine Vi ?_
    refine Vd ?_
    refine Va (Xl rfl rfl) rfl ?_
    refine Va (Xz rfl) rfl ?_
    refine Vf ?_
    refine Xh rfl (fun c11 => ?_) (fun c11 => ?_)
    ·have hF := Yo c11 hF
     refine Vi ?_
     refine Vd ?_
     obtain ⟨x12, h13, hF⟩ := Yt hF
     refine Va (Xc rfl) rfl ?_
     refine Va (Vv (ds := [.int .i64 p1.Time, .vs 1 (Wq (Wr .i64) p1.States), .vs 1 (Wq (Wr .i64) p1.Since), .vs 1 (Wq Ws p1.Pulled), .vs 1 (Wq Ws p1.Held)]) rfl (Ve hn rfl) rfl ta_34 ts_34 rfl rfl rfl) rfl ?_
     refine Va (Vk rfl) rfl ?_
     refine Vj (Xg (r := .tup [.agg [.int .i64 x12.1.Time, .vs 1 (Wq (Wr .i64) x12.1.States), .vs 1 (Wq (Wr .i64) x12.1.Since), .vs 1 (Wq Ws x12.1.Pulled), .vs 1 (Wq Ws x12.1.Held)], .int .i64 x12.2]) (os := []) rfl Try.call24 (F_belts_Stop_ok h13 _ (Xi hn rfl))) rfl ?_
     refine Va (rd_mvT rfl) rfl ?_
     refine Va (Xu rfl rfl) rfl ?_
     refine Va (Xu rfl rfl) rfl ?_
     refine Vj (Xe hn rfl tz_34 rfl rfl (Wv _) rfl) rfl ?_
     refine Vj (Vy (p := .agg [.int .i64 x12.1.Time, .vs 1 (Wq (Wr .i64) x12.1.States), .vs 1 (Wq (Wr .i64) x12.1.Since), .vs 1 (Wq Ws x12.1.Pulled), .vs 1 (Wq Ws x12.1.Held)]) (e' := .agg [.int .i64 x12.1.Time, .vs 1 (Wq (Wr .i64) x12.1.States), .vs 1 (Wq (Wr .i64) x12.1.Since), .vs 1 (Wq Ws x12.1.Pulled), .vs 1 (Wq Ws x12.1.Held)]) rfl (Ve hn rfl) rfl rfl ts_34 rfl (Ye rfl) rfl (Wu rfl) rfl (Xr hn rfl)) rfl ?_
     refine Va (Xa rfl) rfl ?_
     refine Vf ?_
     refine Vi ?_
     refine Vd ?_
     obtain ⟨x14, h15, hF⟩ := Yt hF
     refine Va (Xc rfl) rfl ?_
     refine Va (Vv (ds := [.int .i64 p1.Time, .vs 1 (Wq (Wr .i64) p1.States), .vs 1 (Wq (Wr .i64) p1.Since), .vs 1 (Wq Ws p1.Pulled), .vs 1 (Wq Ws p1.Held)]) rfl (Ve hn rfl) rfl ta_34 ts_34 rfl rfl rfl) rfl ?_
     refine Va (Vk rfl) rfl ?_
     refine Vj (Xg (r := .tup [.agg [.int .i64 x14.1.Time, .sl (n + 4) 0 0 (x14.1.States).length, .sl (n + 5) 0 0 (x14.1.Since).length, .sl (n + 6) 0 0 (x14.1.Pulled).length, .vs 1 (Wq Ws x14.1.Held)], .int .i64 x14.2]) (os := [⟨3, 1, Wq (Wr .i64) x14.1.States, 0⟩, ⟨3, 1, Wq (Wr .i64) x14.1.Since, 0⟩, ⟨4, 1, Wq Ws x14.1.Pulled, 0⟩]) rfl Try.call47 (F_ref39_Stop_ok h15 _ (Xi hn rfl))) rfl ?_
     refine Va (rd_mvT rfl) rfl ?_
     refine Va (Xu rfl rfl) rfl ?_
     refine Va (Xu rfl rfl) rfl ?_
     refine Vj (Xe hn rfl tz_34 rfl rfl (Wv _) rfl) rfl ?_
     refine Vj (Vy (p := .agg [.int .i64 x14.1.Time, .sl (n + 4) 0 0 (x14.1.States).length, .sl (n + 5) 0 0 (x14.1.Since).length, .sl (n + 6) 0 0 (x14.1.Pulled).length, .vs 1 (Wq Ws x14.1.Held)]) (e' := .agg [.int .i64 x14.1.Time, .sl (n + 4) 0 0 (x14.1.States).length, .sl (n + 5) 0 0 (x14.1.Since).length, .sl (n + 6) 0 0 (x14.1.Pulled).length, .vs 1 (Wq Ws x14.1.Held)]) rfl (Ve hn rfl) rfl rfl ts_34 rfl (Ye rfl) rfl (Wu rfl) rfl (Xr hn rfl)) rfl ?_
     refine Va (Xa rfl) rfl ?_
     refine Vf ?_
     refine Vi ?_
     refine Wc [[], [], [], [], [0], [0, 1, 4], [0, 1, 2, 4, 5], [0, 1, 2, 3, 4, 5, 6]] [false, false, false, false, true, false, true, false] [(low, [⟨34, 5, [.agg [.int .i64 p1.Time, .vs 1 (Wq (Wr .i64) p1.States), .vs 1 (Wq (Wr .i64) p1.Since), .vs 1 (Wq Ws p1.Pulled), .vs 1 (Wq Ws p1.Held)]], 0⟩, ⟨34, 5, [.agg [.int .i64 0, .nils, .nils, .nils, .nils]], 0⟩, ⟨34, 5, [.agg [.int .i64 0, .nils, .nils, .nils, .nils]], 0⟩, ⟨34, 5, [.agg [.int .i64 x12.1.Time, .vs 1 (Wq (Wr .i64) x12.1.States), .vs 1 (Wq (Wr .i64) x12.1.Since), .vs 1 (Wq Ws x12.1.Pulled), .vs 1 (Wq Ws x12.1.Held)]], 0⟩, ⟨3, 1, Wq (Wr .i64) x14.1.States, 0⟩, ⟨3, 1, Wq (Wr .i64) x14.1.Since, 0⟩, ⟨4, 1, Wq Ws x14.1.Pulled, 0⟩, ⟨34, 5, [.agg [.int .i64 x14.1.Time, .sl (n + 4) 0 0 (x14.1.States).length, .sl (n + 5) 0 0 (x14.1.Since).length, .sl (n + 6) 0 0 (x14.1.Pulled).length, .vs 1 (Wq Ws x14.1.Held)]], 0⟩]), (low, [⟨34, 5, [.agg [.int .i64 p1.Time, .vs 1 (Wq (Wr .i64) p1.States), .vs 1 (Wq (Wr .i64) p1.Since), .vs 1 (Wq Ws p1.Pulled), .vs 1 (Wq Ws p1.Held)]], 0⟩, ⟨34, 5, [.agg [.int .i64 x12.1.Time, .vs 1 (Wq (Wr .i64) x12.1.States), .vs 1 (Wq (Wr .i64) x12.1.Since), .vs 1 (Wq Ws x12.1.Pulled), .vs 1 (Wq Ws x12.1.Held)]], 0⟩, ⟨34, 5, [.agg [.int .i64 0, .nils, .nils, .nils, .nils]], 0⟩, ⟨34, 5, [.agg [.int .i64 x12.1.Time, .vs 1 (Wq (Wr .i64) x12.1.States), .vs 1 (Wq (Wr .i64) x12.1.Since), .vs 1 (Wq Ws x12.1.Pulled), .vs 1 (Wq Ws x12.1.Held)]], 0⟩, ⟨3, 1, Wq (Wr .i64) x14.1.States, 0⟩, ⟨3, 1, Wq (Wr .i64) x14.1.Since, 0⟩, ⟨4, 1, Wq Ws x14.1.Pulled, 0⟩, ⟨34, 5, [.agg [.int .i64 x14.1.Time, .sl (n + 4) 0 0 (x14.1.States).length, .sl (n + 5) 0 0 (x14.1.Since).length, .sl (n + 6) 0 0 (x14.1.Pulled).length, .vs 1 (Wq Ws x14.1.Held)]], 0⟩]), (low, [⟨34, 5, [.agg [.int .i64 p1.Time, .vs 1 (Wq (Wr .i64) p1.States), .vs 1 (Wq (Wr .i64) p1.Since), .vs 1 (Wq Ws p1.Pulled), .vs 1 (Wq Ws p1.Held)]], 0⟩, ⟨34, 5, [.agg [.int .i64 x12.1.Time, .vs 1 (Wq (Wr .i64) x12.1.States), .vs 1 (Wq (Wr .i64) x12.1.Since), .vs 1 (Wq Ws x12.1.Pulled), .vs 1 (Wq Ws x12.1.Held)]], 0⟩, ⟨34, 5, [.agg [.int .i64 x14.1.Time, .sl (n + 4) 0 0 (x14.1.States).length, .sl (n + 5) 0 0 (x14.1.Since).length, .sl (n + 6) 0 0 (x14.1.Pulled).length, .vs 1 (Wq Ws x14.1.Held)]], 0⟩, ⟨34, 5, [.agg [.int .i64 x12.1.Time, .vs 1 (Wq (Wr .i64) x12.1.States), .vs 1 (Wq (Wr .i64) x12.1.Since), .vs 1 (Wq Ws x12.1.Pulled), .vs 1 (Wq Ws x12.1.Held)]], 0⟩, ⟨3, 1, Wq (Wr .i64) x14.1.States, 0⟩, ⟨3, 1, Wq (Wr .i64) x14.1.Since, 0⟩, ⟨4, 1, Wq Ws x14.1.Pulled, 0⟩, ⟨34, 5, [.agg [.int .i64 x14.1.Time, .sl (n + 4) 0 0 (x14.1.States).length, .sl (n + 5) 0 0 (x14.1.Since).length, .sl (n + 6) 0 0 (x14.1.Pulled).length, .vs 1 (Wq Ws x14.1.Held)]], 0⟩])] mixed (by kernel_rfl) rfl (lenAll (Xx rfl (Xx rfl (Xx rfl Zn)))) rfl _ rfl rfl ?_
     refine Ym rfl rfl (Vv (ds := [.int .i64 x12.1.Time, .vs 1 (Wq (Wr .i64) x12.1.States), .vs 1 (Wq (Wr .i64) x12.1.Since), .vs 1 (Wq Ws x12.1.Pulled), .vs 1 (Wq Ws x12.1.Held)]) rfl (Ve hn rfl) rfl ta_34 ts_34 rfl rfl rfl) ?_
     refine Yi _ rfl rfl (Xx (VRd.ntl (Vk rfl)) (Xx (VRd.ntl (Vk rfl)) Zn)) ?_
     refine Yi _ rfl rfl (Xx (VRd.ntl (Vv (ds := [.int .i64 x14.1.Time, .sl (n + 4) 0 0 (x14.1.States).length, .sl (n + 5) 0 0 (x14.1.Since).length, .sl (n + 6) 0 0 (x14.1.Pulled).length, .vs 1 (Wq Ws x14.1.Held)]) rfl (Ve hn rfl) rfl ta_34 ts_34 rfl rfl rfl)) (Xx (VRd.ntl (Vv (ds := [.int .i64 x14.1.Time, .sl (n + 4) 0 0 (x14.1.States).length, .sl (n + 5) 0 0 (x14.1.Since).length, .sl (n + 6) 0 0 (x14.1.Pulled).length, .vs 1 (Wq Ws x14.1.Held)]) rfl (Ve hn rfl) rfl ta_34 ts_34 rfl rfl rfl)) Zn)) ?_
     refine Yi _ rfl rfl (Xx (VRd.ntl (Vk rfl)) (Xx (VRd.ntl (Vk rfl)) (Xx (VRd.ntl (Vk rfl)) Zn))) ?_
     refine Zh rfl rfl rfl (Vy (p := .agg [.int .i64 x12.1.Time, .vs 1 (Wq (Wr .i64) x12.1.States), .vs 1 (Wq (Wr .i64) x12.1.Since), .vs 1 (Wq Ws x12.1.Pulled), .vs 1 (Wq Ws x12.1.Held)]) (e' := .agg [.int .i64 x12.1.Time, .vs 1 (Wq (Wr .i64) x12.1.States), .vs 1 (Wq (Wr .i64) x12.1.Since), .vs 1 (Wq Ws x12.1.Pulled), .vs 1 (Wq Ws x12.1.Held)]) rfl (Ve hn rfl) rfl rfl ts_34 rfl (Ye rfl) rfl (Wu rfl) rfl (Xr hn rfl)) ?_
     refine Ym rfl rfl (Xa rfl) ?_
     refine Zh rfl rfl rfl (Vy (p := .agg [.int .i64 x14.1.Time, .sl (n + 4) 0 0 (x14.1.States).length, .sl (n + 5) 0 0 (x14.1.Since).length, .sl (n + 6) 0 0 (x14.1.Pulled).length, .vs 1 (Wq Ws x14.1.Held)]) (e' := .agg [.int .i64 x14.1.Time, .sl (n + 4) 0 0 (x14.1.States).length, .sl (n + 5) 0 0 (x14.1.Since).length, .sl (n + 6) 0 0 (x14.1.Pulled).length, .vs 1 (Wq Ws x14.1.Held)]) rfl (Ve hn rfl) rfl rfl ts_34 rfl (Ye rfl) rfl (Wu rfl) rfl (Xr hn rfl)) ?_
     refine Ym rfl rfl (Xa rfl) ?_
     refine Yz ?_
     refine Xb ?_
     obtain rfl := Wt hF
     refine Wg ?_
     exact Vt hn [(4, 0), (5, 0), (6, 0), (1, 0), (2, 0)] (by decide) ⟨Yj 3 1 rfl rfl, Vr rfl (.int _ _), Yj 4 2 rfl rfl, Vr rfl (.int _ _), trivial⟩ ⟨⟨_, rfl, rfl, .same _ _ _ _ (Vh (fun _ => .int _ _))⟩, ⟨_, rfl, rfl, .same _ _ _ _ (Vh (fun _ => .int _ _))⟩, ⟨_, rfl, rfl, .same _ _ _ _ (Vh (fun _ => .bool _))⟩, ⟨_, rfl, rfl, .same _ _ _ _ (Xt ⟨Xw ⟨.int _ _, .vs _ _, .vs _ _, .vs _ _, .vs _ _, trivial⟩, trivial⟩)⟩, ⟨_, rfl, rfl, .agg _ _ _ _ _ ⟨Vr rfl (.int _ _), Xq 0 4 rfl rfl, Xq 1 5 rfl rfl, Xq 2 6 rfl rfl, Vr rfl (.vs _ _), trivial⟩⟩, trivial⟩
    ·have hF := Yp c11 hF
     refine Vi ?_
     refine Vd ?_
     refine Va (Xl rfl rfl) rfl ?_
     refine Va (Xz rfl) rfl ?_
     refine Vf ?_
     refine Xh rfl (fun c16 => ?_) (fun c16 => ?_)
     ·have hF := Yo c16 hF
      refine Vi ?_
      refine Vd ?_
      obtain ⟨x17, h18, hF⟩ := Yt hF
      refine Va (Xc rfl) rfl ?_
      refine Va (Vv (ds := [.int .i64 p1.Time, .vs 1 (Wq (Wr .i64) p1.States), .vs 1 (Wq (Wr .i64) p1.Since), .vs 1 (Wq Ws p1.Pulled), .vs 1 (Wq Ws p1.Held)]) rfl (Ve hn rfl) rfl ta_34 ts_34 rfl rfl rfl) rfl ?_
      refine Va (Vk rfl) rfl ?_
      refine Vj (Xg (r := .tup [.agg [.int .i64 x17.1.Time, .vs 1 (Wq (Wr .i64) x17.1.States), .vs 1 (Wq (Wr .i64) x17.1.Since), .vs 1 (Wq Ws x17.1.Pulled), .vs 1 (Wq Ws x17.1.Held)], .int .i64 x17.2]) (os := []) rfl Try.call15 (F_belts_Pull_ok h18 _ (Xi hn rfl))) rfl ?_
      refine Va (rd_mvT rfl) rfl ?_
      refine Va (Xu rfl rfl) rfl ?_
      refine Va (Xu rfl rfl) rfl ?_
      refine Vj (Xe hn rfl tz_34 rfl rfl (Wv _) rfl) rfl ?_
      refine Vj (Vy (p := .agg [.int .i64 x17.1.Time, .vs 1 (Wq (Wr .i64) x17.1.States), .vs 1 (Wq (Wr .i64) x17.1.Since), .vs 1 (Wq Ws x17.1.Pulled), .vs 1 (Wq Ws x17.1.Held)]) (e' := .agg [.int .i64 x17.1.Time, .vs 1 (Wq (Wr .i64) x17.1.States), .vs 1 (Wq (Wr .i64) x17.1.Since), .vs 1 (Wq Ws x17.1.Pulled), .vs 1 (Wq Ws x17.1.Held)]) rfl (Ve hn rfl) rfl rfl ts_34 rfl (Ye rfl) rfl (Wu rfl) rfl (Xr hn rfl)) rfl ?_
      refine Va (Xa rfl) rfl ?_
      refine Vf ?_
      refine Vi ?_
      refine Vd ?_
      obtain ⟨x19, h20, hF⟩ := Yt hF
      refine Va (Xc rfl) rfl ?_
      refine Va (Vv (ds := [.int .i64 p1.Time, .vs 1 (Wq (Wr .i64) p1.States), .vs 1 (Wq (Wr .i64) p1.Since), .vs 1 (Wq Ws p1.Pulled), .vs 1 (Wq Ws p1.Held)]) rfl (Ve hn rfl) rfl ta_34 ts_34 rfl rfl rfl) rfl ?_
      refine Va (Vk rfl) rfl ?_
      refine Vj (Xg (r := .tup [.agg [.int .i64 x19.1.Time, .sl (n + 4) 0 0 (x19.1.States).length, .sl (n + 5) 0 0 (x19.1.Since).length, .sl (n + 6) 0 0 (x19.1.Pulled).length, .vs 1 (Wq Ws x19.1.Held)], .int .i64 x19.2]) (os := [⟨3, 1, Wq (Wr .i64) x19.1.States, 0⟩, ⟨3, 1, Wq (Wr .i64) x19.1.Since, 0⟩, ⟨4, 1, Wq Ws x19.1.Pulled, 0⟩]) rfl Try.call48 (F_ref39_Pull_ok h20 _ (Xi hn rfl))) rfl ?_
      refine Va (rd_mvT rfl) rfl ?_
      refine Va (Xu rfl rfl) rfl ?_
      refine Va (Xu rfl rfl) rfl ?_
      refine Vj (Xe hn rfl tz_34 rfl rfl (Wv _) rfl) rfl ?_
      refine Vj (Vy (p := .agg [.int .i64 x19.1.Time, .sl (n + 4) 0 0 (x19.1.States).length, .sl (n + 5) 0 0 (x19.1.Since).length, .sl (n + 6) 0 0 (x19.1.Pulled).length, .vs 1 (Wq Ws x19.1.Held)]) (e' := .agg [.int .i64 x19.1.Time, .sl (n + 4) 0 0 (x19.1.States).length, .sl (n + 5) 0 0 (x19.1.Since).length, .sl (n + 6) 0 0 (x19.1.Pulled).length, .vs 1 (Wq Ws x19.1.Held)]) rfl (Ve hn rfl) rfl rfl ts_34 rfl (Ye rfl) rfl (Wu rfl) rfl (Xr hn rfl)) rfl ?_
      refine Va (Xa rfl) rfl ?_
      refine Vf ?_
      refine Vi ?_
      refine Wc [[], [], [], [], [0], [0, 1, 4], [0, 1, 2, 4, 5], [0, 1, 2, 3, 4, 5, 6]] [false, false, false, false, true, false, true, false] [(low, [⟨34, 5, [.agg [.int .i64 p1.Time, .vs 1 (Wq (Wr .i64) p1.States), .vs 1 (Wq (Wr .i64) p1.Since), .vs 1 (Wq Ws p1.Pulled), .vs 1 (Wq Ws p1.Held)]], 0⟩, ⟨34, 5, [.agg [.int .i64 0, .nils, .nils, .nils, .nils]], 0⟩, ⟨34, 5, [.agg [.int .i64 0, .nils, .nils, .nils, .nils]], 0⟩, ⟨34, 5, [.agg [.int .i64 x17.1.Time, .vs 1 (Wq (Wr .i64) x17.1.States), .vs 1 (Wq (Wr .i64) x17.1.Since), .vs 1 (Wq Ws x17.1.Pulled), .vs 1 (Wq Ws x17.1.Held)]], 0⟩, ⟨3, 1, Wq (Wr .i64) x19.1.States, 0⟩, ⟨3, 1, Wq (Wr .i64) x19.1.Since, 0⟩, ⟨4, 1, Wq Ws x19.1.Pulled, 0⟩, ⟨34, 5, [.agg [.int .i64 x19.1.Time, .sl (n + 4) 0 0 (x19.1.States).length, .sl (n + 5) 0 0 (x19.1.Since).length, .sl (n + 6) 0 0 (x19.1.Pulled).length, .vs 1 (Wq Ws x19.1.Held)]], 0⟩]), (low, [⟨34, 5, [.agg [.int .i64 p1.Time, .vs 1 (Wq (Wr .i64) p1.States), .vs 1 (Wq (Wr .i64) p1.Since), .vs 1 (Wq Ws p1.Pulled), .vs 1 (Wq Ws p1.Held)]], 0⟩, ⟨34, 5, [.agg [.int .i64 x17.1.Time, .vs 1 (Wq (Wr .i64) x17.1.States), .vs 1 (Wq (Wr .i64) x17.1.Since), .vs 1 (Wq Ws x17.1.Pulled), .vs 1 (Wq Ws x17.1.Held)]], 0⟩, ⟨34, 5, [.agg [.int .i64 0, .nils, .nils, .nils, .nils]], 0⟩, ⟨34, 5, [.agg [.int .i64 x17.1.Time, .vs 1 (Wq (Wr .i64) x17.1.States), .vs 1 (Wq (Wr .i64) x17.1.Since), .vs 1 (Wq Ws x17.1.Pulled), .vs 1 (Wq Ws x17.1.Held)]], 0⟩, ⟨3, 1, Wq (Wr .i64) x19.1.States, 0⟩, ⟨3, 1, Wq (Wr .i64) x19.1.Since, 0⟩, ⟨4, 1, Wq Ws x19.1.Pulled, 0⟩, ⟨34, 5, [.agg [.int .i64 x19.1.Time, .sl (n + 4) 0 0 (x19.1.States).length, .sl (n + 5) 0 0 (x19.1.Since).length, .sl (n + 6) 0 0 (x19.1.Pulled).length, .vs 1 (Wq Ws x19.1.Held)]], 0⟩]), (low, [⟨34, 5, [.agg [.int .i64 p1.Time, .vs 1 (Wq (Wr .i64) p1.States), .vs 1 (Wq (Wr .i64) p1.Since), .vs 1 (Wq Ws p1.Pulled), .vs 1 (Wq Ws p1.Held)]], 0⟩, ⟨34, 5, [.agg [.int .i64 x17.1.Time, .vs 1 (Wq (Wr .i64) x17.1.States), .vs 1 (Wq (Wr .i64) x17.1.Since), .vs 1 (Wq Ws x17.1.Pulled), .vs 1 (Wq Ws x17.1.Held)]], 0⟩, ⟨34, 5, [.agg [.int .i64 x19.1.Time, .sl (n + 4) 0 0 (x19.1.States).length, .sl (n + 5) 0 0 (x19.1.Since).length, .sl (n + 6) 0 0 (x19.1.Pulled).length, .vs 1 (Wq Ws x19.1.Held)]], 0⟩, ⟨34, 5, [.agg [.int .i64 x17.1.Time, .vs 1 (Wq (Wr .i64) x17.1.States), .vs 1 (Wq (Wr .i64) x17.1.Since), .vs 1 (Wq Ws x17.1.Pulled), .vs 1 (Wq Ws x17.1.Held)]], 0⟩, ⟨3, 1, Wq (Wr .i64) x19.1.States, 0⟩, ⟨3, 1, Wq (Wr .i64) x19.1.Since, 0⟩, ⟨4, 1, Wq Ws x19.1.Pulled, 0⟩, ⟨34, 5, [.agg [.int .i64 x19.1.Time, .sl (n + 4) 0 0 (x19.1.States).length, .sl (n + 5) 0 0 (x19.1.Since).length, .sl (n + 6) 0 0 (x19.1.Pulled).length, .vs 1 (Wq Ws x19.1.Held)]], 0⟩])] mixed (by kernel_rfl) rfl (lenAll (Xx rfl (Xx rfl (Xx rfl Zn)))) rfl _ rfl rfl ?_
      refine Ym rfl rfl (Vv (ds := [.int .i64 x17.1.Time, .vs 1 (Wq (Wr .i64) x17.1.States), .vs 1 (Wq (Wr .i64) x17.1.Since), .vs 1 (Wq Ws x17.1.Pulled), .vs 1 (Wq Ws x17.1.Held)]) rfl (Ve hn rfl) rfl ta_34 ts_34 rfl rfl rfl) ?_
      refine Yi _ rfl rfl (Xx (VRd.ntl (Vk rfl)) (Xx (VRd.ntl (Vk rfl)) Zn)) ?_
      refine Yi _ rfl rfl (Xx (VRd.ntl (Vv (ds := [.int .i64 x19.1.Time, .sl (n + 4) 0 0 (x19.1.States).length, .sl (n + 5) 0 0 (x19.1.Since).length, .sl (n + 6) 0 0 (x19.1.Pulled).length, .vs 1 (Wq Ws x19.1.Held)]) rfl (Ve hn rfl) rfl ta_34 ts_34 rfl rfl rfl)) (Xx (VRd.ntl (Vv (ds := [.int .i64 x19.1.Time, .sl (n + 4) 0 0 (x19.1.States).length, .sl (n + 5) 0 0 (x19.1.Since).length, .sl (n + 6) 0 0 (x19.1.Pulled).length, .vs 1 (Wq Ws x19.1.Held)]) rfl (Ve hn rfl) rfl ta_34 ts_34 rfl rfl rfl)) Zn)) ?_
      refine Yi _ rfl rfl (Xx (VRd.ntl (Vk rfl)) (Xx (VRd.ntl (Vk rfl)) (Xx (VRd.ntl (Vk rfl)) Zn))) ?_
      refine Zh rfl rfl rfl (Vy (p := .agg [.int .i64 x17.1.Time, .vs 1 (Wq (Wr .i64) x17.1.States), .vs 1 (Wq (Wr .i64) x17.1.Since), .vs 1 (Wq Ws x17.1.Pulled), .vs 1 (Wq Ws x17.1.Held)]) (e' := .agg [.int .i64 x17.1.Time, .vs 1 (Wq (Wr .i64) x17.1.States), .vs 1 (Wq (Wr .i64) x17.1.Since), .vs 1 (Wq Ws x17.1.Pulled), .vs 1 (Wq Ws x17.1.Held)]) rfl (Ve hn rfl) rfl rfl ts_34 rfl (Ye rfl) rfl (Wu rfl) rfl (Xr hn rfl)) ?_
      refine Ym rfl rfl (Xa rfl) ?_
      refine Zh rfl rfl rfl (Vy (p := .agg [.int .i64 x19.1.Time, .sl (n + 4) 0 0 (x19.1.States).length, .sl (n + 5) 0 0 (x19.1.Since).length, .sl (n + 6) 0 0 (x19.1.Pulled).length, .vs 1 (Wq Ws x19.1.Held)]) (e' := .agg [.int .i64 x19.1.Time, .sl (n + 4) 0 0 (x19.1.States).length, .sl (n + 5) 0 0 (x19.1.Since).length, .sl (n + 6) 0 0 (x19.1.Pulled).length, .vs 1 (Wq Ws x19.1.Held)]) rfl (Ve hn rfl) rfl rfl ts_34 rfl (Ye rfl) rfl (Wu rfl) rfl (Xr hn rfl)) ?_
      refine Ym rfl rfl (Xa rfl) ?_
      refine Yz ?_
      refine Xb ?_
      obtain rfl := Wt hF
      refine Wg ?_
      exact Vt hn [(4, 0), (5, 0), (6, 0), (1, 0), (2, 0)] (by decide) ⟨Yj 3 1 rfl rfl, Vr rfl (.int _ _), Yj 4 2 rfl rfl, Vr rfl (.int _ _), trivial⟩ ⟨⟨_, rfl, rfl, .same _ _ _ _ (Vh (fun _ => .int _ _))⟩, ⟨_, rfl, rfl, .same _ _ _ _ (Vh (fun _ => .int _ _))⟩, ⟨_, rfl, rfl, .same _ _ _ _ (Vh (fun _ => .bool _))⟩, ⟨_, rfl, rfl, .same _ _ _ _ (Xt ⟨Xw ⟨.int _ _, .vs _ _, .vs _ _, .vs _ _, .vs _ _, trivial⟩, trivial⟩)⟩, ⟨_, rfl, rfl, .agg _ _ _ _ _ ⟨Vr rfl (.int _ _), Xq 0 4 rfl rfl, Xq 1 5 rfl rfl, Xq 2 6 rfl rfl, Vr rfl (.vs _ _), trivial⟩⟩, trivial⟩
     ·have hF := Yp c16 hF
      refine Vi ?_
      refine Vd ?_
      refine Va (Xl rfl rfl) rfl ?_
      refine Va (Xz rfl) rfl ?_
      refine Vf ?_
      refine Xh rfl (fun c21 => ?_) (fun c21 => ?_)
      ·have hF := Yo c21 hF
       refine Vi ?_
       refine Vd ?_
       obtain ⟨x22, h23, hF⟩ := Yt hF
       refine Va (Xc rfl) rfl ?_
       refine Va (Vv (ds := [.int .i64 p1.Time, .vs 1 (Wq (Wr .i64) p1.States), .vs 1 (Wq (Wr .i64) p1.Since), .vs 1 (Wq Ws p1.Pulled), .vs 1 (Wq Ws p1.Held)]) rfl (Ve hn rfl) rfl ta_34 ts_34 rfl rfl rfl) rfl ?_
       refine Va (Vk rfl) rfl ?_
       refine Vj (Xg (r := .tup [.agg [.int .i64 x22.1.Time, .vs 1 (Wq (Wr .i64) x22.1.States), .vs 1 (Wq (Wr .i64) x22.1.Since), .vs 1 (Wq Ws x22.1.Pulled), .vs 1 (Wq Ws x22.1.Held)], .int .i64 x22.2]) (os := []) rfl Try.call25 (F_belts_Restore_ok h23 _ (Xi hn rfl))) rfl ?_
       refine Va (rd_mvT rfl) rfl ?_
       refine Va (Xu rfl rfl) rfl ?_
       refine Va (Xu rfl rfl) rfl ?_
       refine Vj (Xe hn rfl tz_34 rfl rfl (Wv _) rfl) rfl ?_
       refine Vj (Vy (p := .agg [.int .i64 x22.1.Time, .vs 1 (Wq (Wr .i64) x22.1.States), .vs 1 (Wq (Wr .i64) x22.1.Since), .vs 1 (Wq Ws x22.1.Pulled), .vs 1 (Wq Ws x22.1.Held)]) (e' := .agg [.int .i64 x22.1.Time, .vs 1 (Wq (Wr .i64) x22.1.States), .vs 1 (Wq (Wr .i64) x22.1.Since), .vs 1 (Wq Ws x22.1.Pulled), .vs 1 (Wq Ws x22.1.Held)]) rfl (Ve hn rfl) rfl rfl ts_34 rfl (Ye rfl) rfl (Wu rfl) rfl (Xr hn rfl)) rfl ?_
       refine Va (Xa rfl) rfl ?_
       refine Vf ?_
       refine Vi ?_
       refine Vd ?_
       obtain ⟨x24, h25, hF⟩ := Yt hF
       refine Va (Xc rfl) rfl ?_
       refine Va (Vv (ds := [.int .i64 p1.Time, .vs 1 (Wq (Wr .i64) p1.States), .vs 1 (Wq (Wr .i64) p1.Since), .vs 1 (Wq Ws p1.Pulled), .vs 1 (Wq Ws p1.Held)]) rfl (Ve hn rfl) rfl ta_34 ts_34 rfl rfl rfl) rfl ?_
       refine Va (Vk rfl) rfl ?_
       refine Vj (Xg (r := .tup [.agg [.int .i64 x24.1.Time, .sl (n + 4) 0 0 (x24.1.States).length, .sl (n + 5) 0 0 (x24.1.Since).length, .sl (n + 6) 0 0 (x24.1.Pulled).length, .vs 1 (Wq Ws x24.1.Held)], .int .i64 x24.2]) (os := [⟨3, 1, Wq (Wr .i64) x24.1.States, 0⟩, ⟨3, 1, Wq (Wr .i64) x24.1.Since, 0⟩, ⟨4, 1, Wq Ws x24.1.Pulled, 0⟩]) rfl Try.call49 (F_ref39_Restore_ok h25 _ (Xi hn rfl))) rfl ?_
       refine Va (rd_mvT rfl) rfl ?_
       refine Va (Xu rfl rfl) rfl ?_
       refine Va (Xu rfl rfl) rfl ?_
       refine Vj (Xe hn rfl tz_34 rfl rfl (Wv _) rfl) rfl ?_
       refine Vj (Vy (p := .agg [.int .i64 x24.1.Time, .sl (n + 4) 0 0 (x24.1.States).length, .sl (n + 5) 0 0 (x24.1.Since).length, .sl (n + 6) 0 0 (x24.1.Pulled).length, .vs 1 (Wq Ws x24.1.Held)]) (e' := .agg [.int .i64 x24.1.Time, .sl (n + 4) 0 0 (x24.1.States).length, .sl (n + 5) 0 0 (x24.1.Since).length, .sl (n + 6) 0 0 (x24.1.Pulled).length, .vs 1 (Wq Ws x24.1.Held)]) rfl (Ve hn rfl) rfl rfl ts_34 rfl (Ye rfl) rfl (Wu rfl) rfl (Xr hn rfl)) rfl ?_
       refine Va (Xa rfl) rfl ?_
       refine Vf ?_
       refine Vi ?_
       refine Wc [[], [], [], [], [0], [0, 1, 4], [0, 1, 2, 4, 5], [0, 1, 2, 3, 4, 5, 6]] [false, false, false, false, true, false, true, false] [(low, [⟨34, 5, [.agg [.int .i64 p1.Time, .vs 1 (Wq (Wr .i64) p1.States), .vs 1 (Wq (Wr .i64) p1.Since), .vs 1 (Wq Ws p1.Pulled), .vs 1 (Wq Ws p1.Held)]], 0⟩, ⟨34, 5, [.agg [.int .i64 0, .nils, .nils, .nils, .nils]], 0⟩, ⟨34, 5, [.agg [.int .i64 0, .nils, .nils, .nils, .nils]], 0⟩, ⟨34, 5, [.agg [.int .i64 x22.1.Time, .vs 1 (Wq (Wr .i64) x22.1.States), .vs 1 (Wq (Wr .i64) x22.1.Since), .vs 1 (Wq Ws x22.1.Pulled), .vs 1 (Wq Ws x22.1.Held)]], 0⟩, ⟨3, 1, Wq (Wr .i64) x24.1.States, 0⟩, ⟨3, 1, Wq (Wr .i64) x24.1.Since, 0⟩, ⟨4, 1, Wq Ws x24.1.Pulled, 0⟩, ⟨34, 5, [.agg [.int .i64 x24.1.Time, .sl (n + 4) 0 0 (x24.1.States).length, .sl (n + 5) 0 0 (x24.1.Since).length, .sl (n + 6) 0 0 (x24.1.Pulled).length, .vs 1 (Wq Ws x24.1.Held)]], 0⟩]), (low, [⟨34, 5, [.agg [.int .i64 p1.Time, .vs 1 (Wq (Wr .i64) p1.States), .vs 1 (Wq (Wr .i64) p1.Since), .vs 1 (Wq Ws p1.Pulled), .vs 1 (Wq Ws p1.Held)]], 0⟩, ⟨34, 5, [.agg [.int .i64 x22.1.Time, .vs 1 (Wq (Wr .i64) x22.1.States), .vs 1 (Wq (Wr .i64) x22.1.Since), .vs 1 (Wq Ws x22.1.Pulled), .vs 1 (Wq Ws x22.1.Held)]], 0⟩, ⟨34, 5, [.agg [.int .i64 0, .nils, .nils, .nils, .nils]], 0⟩, ⟨34, 5, [.agg [.int .i64 x22.1.Time, .vs 1 (Wq (Wr .i64) x22.1.States), .vs 1 (Wq (Wr .i64) x22.1.Since), .vs 1 (Wq Ws x22.1.Pulled), .vs 1 (Wq Ws x22.1.Held)]], 0⟩, ⟨3, 1, Wq (Wr .i64) x24.1.States, 0⟩, ⟨3, 1, Wq (Wr .i64) x24.1.Since, 0⟩, ⟨4, 1, Wq Ws x24.1.Pulled, 0⟩, ⟨34, 5, [.agg [.int .i64 x24.1.Time, .sl (n + 4) 0 0 (x24.1.States).length, .sl (n + 5) 0 0 (x24.1.Since).length, .sl (n + 6) 0 0 (x24.1.Pulled).length, .vs 1 (Wq Ws x24.1.Held)]], 0⟩]), (low, [⟨34, 5, [.agg [.int .i64 p1.Time, .vs 1 (Wq (Wr .i64) p1.States), .vs 1 (Wq (Wr .i64) p1.Since), .vs 1 (Wq Ws p1.Pulled), .vs 1 (Wq Ws p1.Held)]], 0⟩, ⟨34, 5, [.agg [.int .i64 x22.1.Time, .vs 1 (Wq (Wr .i64) x22.1.States), .vs 1 (Wq (Wr .i64) x22.1.Since), .vs 1 (Wq Ws x22.1.Pulled), .vs 1 (Wq Ws x22.1.Held)]], 0⟩, ⟨34, 5, [.agg [.int .i64 x24.1.Time, .sl (n + 4) 0 0 (x24.1.States).length, .sl (n + 5) 0 0 (x24.1.Since).length, .sl (n + 6) 0 0 (x24.1.Pulled).length, .vs 1 (Wq Ws x24.1.Held)]], 0⟩, ⟨34, 5, [.agg [.int .i64 x22.1.Time, .vs 1 (Wq (Wr .i64) x22.1.States), .vs 1 (Wq (Wr .i64) x22.1.Since), .vs 1 (Wq Ws x22.1.Pulled), .vs 1 (Wq Ws x22.1.Held)]], 0⟩, ⟨3, 1, Wq (Wr .i64) x24.1.States, 0⟩, ⟨3, 1, Wq (Wr .i64) x24.1.Since, 0⟩, ⟨4, 1, Wq Ws x24.1.Pulled, 0⟩, ⟨34, 5, [.agg [.int .i64 x24.1.Time, .sl (n + 4) 0 0 (x24.1.States).length, .sl (n + 5) 0 0 (x24.1.Since).length, .sl (n + 6) 0 0 (x24.1.Pulled).length, .vs 1 (Wq Ws x24.1.Held)]], 0⟩])] mixed (by kernel_rfl) rfl (lenAll (Xx rfl (Xx rfl (Xx rfl Zn)))) rfl _ rfl rfl ?_
       refine Ym rfl rfl (Vv (ds := [.int .i64 x22.1.Time, .vs 1 (Wq (Wr .i64) x22.1.States), .vs 1 (Wq (Wr .i64) x22.1.Since), .vs 1 (Wq Ws x22.1.Pulled), .vs 1 (Wq Ws x22.1.Held)]) rfl (Ve hn rfl) rfl ta_34 ts_34 rfl rfl rfl) ?_
       refine Yi _ rfl rfl (Xx (VRd.ntl (Vk rfl)) (Xx (VRd.ntl (Vk rfl)) Zn)) ?_
       refine Yi _ rfl rfl (Xx (VRd.ntl (Vv (ds := [.int .i64 x24.1.Time, .sl (n + 4) 0 0 (x24.1.States).length, .sl (n + 5) 0 0 (x24.1.Since).length, .sl (n + 6) 0 0 (x24.1.Pulled).length, .vs 1 (Wq Ws x24.1.Held)]) rfl (Ve hn rfl) rfl ta_34 ts_34 rfl rfl rfl)) (Xx (VRd.ntl (Vv (ds := [.int .i64 x24.1.Time, .sl (n + 4) 0 0 (x24.1.States).length, .sl (n + 5) 0 0 (x24.1.Since).length, .sl (n + 6) 0 0 (x24.1.Pulled).length, .vs 1 (Wq Ws x24.1.Held)]) rfl (Ve hn rfl) rfl ta_34 ts_34 rfl rfl rfl)) Zn)) ?_
       refine Yi _ rfl rfl (Xx (VRd.ntl (Vk rfl)) (Xx (VRd.ntl (Vk rfl)) (Xx (VRd.ntl (Vk rfl)) Zn))) ?_
       refine Zh rfl rfl rfl (Vy (p := .agg [.int .i64 x22.1.Time, .vs 1 (Wq (Wr .i64) x22.1.States), .vs 1 (Wq (Wr .i64) x22.1.Since), .vs 1 (Wq Ws x22.1.Pulled), .vs 1 (Wq Ws x22.1.Held)]) (e' := .agg [.int .i64 x22.1.Time, .vs 1 (Wq (Wr .i64) x22.1.States), .vs 1 (Wq (Wr .i64) x22.1.Since), .vs 1 (Wq Ws x22.1.Pulled), .vs 1 (Wq Ws x22.1.Held)]) rfl (Ve hn rfl) rfl rfl ts_34 rfl (Ye rfl) rfl (Wu rfl) rfl (Xr hn rfl)) ?_
       refine Ym rfl rfl (Xa rfl) ?_
       refine Zh rfl rfl rfl (Vy (p := .agg [.int .i64 x24.1.Time, .sl (n + 4) 0 0 (x24.1.States).length, .sl (n + 5) 0 0 (x24.1.Since).length, .sl (n + 6) 0 0 (x24.1.Pulled).length, .vs 1 (Wq Ws x24.1.Held)]) (e' := .agg [.int .i64 x24.1.Time, .sl (n + 4) 0 0 (x24.1.States).length, .sl (n + 5) 0 0 (x24.1.Since).length, .sl (n + 6) 0 0 (x24.1.Pulled).length, .vs 1 (Wq Ws x24.1.Held)]) rfl (Ve hn rfl) rfl rfl ts_34 rfl (Ye rfl) rfl (Wu rfl) rfl (Xr hn rfl)) ?_
       refine Ym rfl rfl (Xa rfl) ?_
       refine Yz ?_
       refine Xb ?_
       obtain rfl := Wt hF
       refine Wg ?_
       exact Vt hn [(4, 0), (5, 0), (6, 0), (1, 0), (2, 0)] (by decide) ⟨Yj 3 1 rfl rfl, Vr rfl (.int _ _), Yj 4 2 rfl rfl, Vr rfl (.int _ _), trivial⟩ ⟨⟨_, rfl, rfl, .same _ _ _ _ (Vh (fun _ => .int _ _))⟩, ⟨_, rfl, rfl, .same _ _ _ _ (Vh (fun _ => .int _ _))⟩, ⟨_, rfl, rfl, .same _ _ _ _ (Vh (fun _ => .bool _))⟩, ⟨_, rfl, rfl, .same _ _ _ _ (Xt ⟨Xw ⟨.int _ _, .vs _ _, .vs _ _, .vs _ _, .vs _ _, trivial⟩, trivial⟩)⟩, ⟨_, rfl, rfl, .agg _ _ _ _ _ ⟨Vr rfl (.int _ _), Xq 0 4 rfl rfl, Xq 1 5 rfl rfl, Xq 2 6 rfl rfl, Vr rfl (.vs _ _), trivial⟩⟩, trivial⟩
      ·have hF := Yp c21 hF
       refine Xn ?_
       refine Vi ?_
       refine Vd ?_
       obtain ⟨x26, h27, hF⟩ := Yt hF
       refine Va (Xc rfl) rfl ?_
       refine Va (Vv (ds := [.int .i64 p1.Time, .vs 1 (Wq (Wr .i64) p1.States), .vs 1 (Wq (Wr .i64) p1.Since), .vs 1 (Wq Ws p1.Pulled), .vs 1 (Wq Ws p1.Held)]) rfl (Ve hn rfl) rfl ta_34 ts_34 rfl rfl rfl) rfl ?_
       refine Va (Vk rfl) rfl ?_
       refine Va (Vk rfl) rfl ?_
       refine Va (rd_rem rfl rfl (by decide) rfl) rfl ?_
       refine Va (Xl rfl rfl) rfl ?_
       refine Vj (Xg (r := .tup [.agg [.int .i64 x26.1.Time, .vs 1 (Wq (Wr .i64) x26.1.States), .vs 1 (Wq (Wr .i64) x26.1.Since), .vs 1 (Wq Ws x26.1.Pulled), .vs 1 (Wq Ws x26.1.Held)], .int .i64 x26.2]) (os := []) rfl Try.call26 (F_belts_Hold_ok h27 _ (Xi hn rfl))) rfl ?_
       refine Va (rd_mvT rfl) rfl ?_
       refine Va (Xu rfl rfl) rfl ?_
       refine Va (Xu rfl rfl) rfl ?_
       refine Vj (Xe hn rfl tz_34 rfl rfl (Wv _) rfl) rfl ?_
       refine Vj (Vy (p := .agg [.int .i64 x26.1.Time, .vs 1 (Wq (Wr .i64) x26.1.States), .vs 1 (Wq (Wr .i64) x26.1.Since), .vs 1 (Wq Ws x26.1.Pulled), .vs 1 (Wq Ws x26.1.Held)]) (e' := .agg [.int .i64 x26.1.Time, .vs 1 (Wq (Wr .i64) x26.1.States), .vs 1 (Wq (Wr .i64) x26.1.Since), .vs 1 (Wq Ws x26.1.Pulled), .vs 1 (Wq Ws x26.1.Held)]) rfl (Ve hn rfl) rfl rfl ts_34 rfl (Ye rfl) rfl (Wu rfl) rfl (Xr hn rfl)) rfl ?_
       refine Va (Xa rfl) rfl ?_
       refine Vf ?_
       refine Vi ?_
       refine Vd ?_
       obtain ⟨x28, h29, hF⟩ := Yt hF
       refine Va (Xc rfl) rfl ?_
       refine Va (Vv (ds := [.int .i64 p1.Time, .vs 1 (Wq (Wr .i64) p1.States), .vs 1 (Wq (Wr .i64) p1.Since), .vs 1 (Wq Ws p1.Pulled), .vs 1 (Wq Ws p1.Held)]) rfl (Ve hn rfl) rfl ta_34 ts_34 rfl rfl rfl) rfl ?_
       refine Va (Vk rfl) rfl ?_
       refine Va (Vk rfl) rfl ?_
       refine Va (rd_rem rfl rfl (by decide) rfl) rfl ?_
       refine Va (Xl rfl rfl) rfl ?_
       refine Vj (Xg (r := .tup [.agg [.int .i64 x28.1.Time, .sl (n + 4) 0 0 (x28.1.States).length, .sl (n + 5) 0 0 (x28.1.Since).length, .sl (n + 6) 0 0 (x28.1.Pulled).length, .sl (n + 7) 0 0 (x28.1.Held).length], .int .i64 x28.2]) (os := [⟨3, 1, Wq (Wr .i64) x28.1.States, 0⟩, ⟨3, 1, Wq (Wr .i64) x28.1.Since, 0⟩, ⟨4, 1, Wq Ws x28.1.Pulled, 0⟩, ⟨4, 1, Wq Ws x28.1.Held, 0⟩]) rfl Try.call50 (F_ref39_Hold_ok h29 _ (Xi hn rfl))) rfl ?_
       refine Va (rd_mvT rfl) rfl ?_
       refine Va (Xu rfl rfl) rfl ?_
       refine Va (Xu rfl rfl) rfl ?_
       refine Vj (Xe hn rfl tz_34 rfl rfl (Wv _) rfl) rfl ?_
       refine Vj (Vy (p := .agg [.int .i64 x28.1.Time, .sl (n + 4) 0 0 (x28.1.States).length, .sl (n + 5) 0 0 (x28.1.Since).length, .sl (n + 6) 0 0 (x28.1.Pulled).length, .sl (n + 7) 0 0 (x28.1.Held).length]) (e' := .agg [.int .i64 x28.1.Time, .sl (n + 4) 0 0 (x28.1.States).length, .sl (n + 5) 0 0 (x28.1.Since).length, .sl (n + 6) 0 0 (x28.1.Pulled).length, .sl (n + 7) 0 0 (x28.1.Held).length]) rfl (Ve hn rfl) rfl rfl ts_34 rfl (Ye rfl) rfl (Wu rfl) rfl (Xr hn rfl)) rfl ?_
       refine Va (Xa rfl) rfl ?_
       refine Vf ?_
       refine Vi ?_
       refine Wc [[], [], [], [], [0], [0, 1, 4], [0, 1, 2, 4, 5], [0, 1, 2, 3, 4, 5, 6]] [false, false, false, false, true, false, true, false] [(low, [⟨34, 5, [.agg [.int .i64 p1.Time, .vs 1 (Wq (Wr .i64) p1.States), .vs 1 (Wq (Wr .i64) p1.Since), .vs 1 (Wq Ws p1.Pulled), .vs 1 (Wq Ws p1.Held)]], 0⟩, ⟨34, 5, [.agg [.int .i64 0, .nils, .nils, .nils, .nils]], 0⟩, ⟨34, 5, [.agg [.int .i64 0, .nils, .nils, .nils, .nils]], 0⟩, ⟨34, 5, [.agg [.int .i64 x26.1.Time, .vs 1 (Wq (Wr .i64) x26.1.States), .vs 1 (Wq (Wr .i64) x26.1.Since), .vs 1 (Wq Ws x26.1.Pulled), .vs 1 (Wq Ws x26.1.Held)]], 0⟩, ⟨3, 1, Wq (Wr .i64) x28.1.States, 0⟩, ⟨3, 1, Wq (Wr .i64) x28.1.Since, 0⟩, ⟨4, 1, Wq Ws x28.1.Pulled, 0⟩, ⟨4, 1, Wq Ws x28.1.Held, 0⟩, ⟨34, 5, [.agg [.int .i64 x28.1.Time, .sl (n + 4) 0 0 (x28.1.States).length, .sl (n + 5) 0 0 (x28.1.Since).length, .sl (n + 6) 0 0 (x28.1.Pulled).length, .sl (n + 7) 0 0 (x28.1.Held).length]], 0⟩]), (low, [⟨34, 5, [.agg [.int .i64 p1.Time, .vs 1 (Wq (Wr .i64) p1.States), .vs 1 (Wq (Wr .i64) p1.Since), .vs 1 (Wq Ws p1.Pulled), .vs 1 (Wq Ws p1.Held)]], 0⟩, ⟨34, 5, [.agg [.int .i64 x26.1.Time, .vs 1 (Wq (Wr .i64) x26.1.States), .vs 1 (Wq (Wr .i64) x26.1.Since), .vs 1 (Wq Ws x26.1.Pulled), .vs 1 (Wq Ws x26.1.Held)]], 0⟩, ⟨34, 5, [.agg [.int .i64 0, .nils, .nils, .nils, .nils]], 0⟩, ⟨34, 5, [.agg [.int .i64 x26.1.Time, .vs 1 (Wq (Wr .i64) x26.1.States), .vs 1 (Wq (Wr .i64) x26.1.Since), .vs 1 (Wq Ws x26.1.Pulled), .vs 1 (Wq Ws x26.1.Held)]], 0⟩, ⟨3, 1, Wq (Wr .i64) x28.1.States, 0⟩, ⟨3, 1, Wq (Wr .i64) x28.1.Since, 0⟩, ⟨4, 1, Wq Ws x28.1.Pulled, 0⟩, ⟨4, 1, Wq Ws x28.1.Held, 0⟩, ⟨34, 5, [.agg [.int .i64 x28.1.Time, .sl (n + 4) 0 0 (x28.1.States).length, .sl (n + 5) 0 0 (x28.1.Since).length, .sl (n + 6) 0 0 (x28.1.Pulled).length, .sl (n + 7) 0 0 (x28.1.Held).length]], 0⟩]), (low, [⟨34, 5, [.agg [.int .i64 p1.Time, .vs 1 (Wq (Wr .i64) p1.States), .vs 1 (Wq (Wr .i64) p1.Since), .vs 1 (Wq Ws p1.Pulled), .vs 1 (Wq Ws p1.Held)]], 0⟩, ⟨34, 5, [.agg [.int .i64 x26.1.Time, .vs 1 (Wq (Wr .i64) x26.1.States), .vs 1 (Wq (Wr .i64) x26.1.Since), .vs 1 (Wq Ws x26.1.Pulled), .vs 1 (Wq Ws x26.1.Held)]], 0⟩, ⟨34, 5, [.agg [.int .i64 x28.1.Time, .sl (n + 4) 0 0 (x28.1.States).length, .sl (n + 5) 0 0 (x28.1.Since).length, .sl (n + 6) 0 0 (x28.1.Pulled).length, .sl (n + 7) 0 0 (x28.1.Held).length]], 0⟩, ⟨34, 5, [.agg [.int .i64 x26.1.Time, .vs 1 (Wq (Wr .i64) x26.1.States), .vs 1 (Wq (Wr .i64) x26.1.Since), .vs 1 (Wq Ws x26.1.Pulled), .vs 1 (Wq Ws x26.1.Held)]], 0⟩, ⟨3, 1, Wq (Wr .i64) x28.1.States, 0⟩, ⟨3, 1, Wq (Wr .i64) x28.1.Since, 0⟩, ⟨4, 1, Wq Ws x28.1.Pulled, 0⟩, ⟨4, 1, Wq Ws x28.1.Held, 0⟩, ⟨34, 5, [.agg [.int .i64 x28.1.Time, .sl (n + 4) 0 0 (x28.1.States).length, .sl (n + 5) 0 0 (x28.1.Since).length, .sl (n + 6) 0 0 (x28.1.Pulled).length, .sl (n + 7) 0 0 (x28.1.Held).length]], 0⟩])] mixed (by kernel_rfl) rfl (lenAll (Xx rfl (Xx rfl (Xx rfl Zn)))) rfl _ rfl rfl ?_
       refine Ym rfl rfl (Vv (ds := [.int .i64 x26.1.Time, .vs 1 (Wq (Wr .i64) x26.1.States), .vs 1 (Wq (Wr .i64) x26.1.Since), .vs 1 (Wq Ws x26.1.Pulled), .vs 1 (Wq Ws x26.1.Held)]) rfl (Ve hn rfl) rfl ta_34 ts_34 rfl rfl rfl) ?_
       refine Yi _ rfl rfl (Xx (VRd.ntl (Vk rfl)) (Xx (VRd.ntl (Vk rfl)) Zn)) ?_
       refine Yi _ rfl rfl (Xx (VRd.ntl (Vv (ds := [.int .i64 x28.1.Time, .sl (n + 4) 0 0 (x28.1.States).length, .sl (n + 5) 0 0 (x28.1.Since).length, .sl (n + 6) 0 0 (x28.1.Pulled).length, .sl (n + 7) 0 0 (x28.1.Held).length]) rfl (Ve hn rfl) rfl ta_34 ts_34 rfl rfl rfl)) (Xx (VRd.ntl (Vv (ds := [.int .i64 x28.1.Time, .sl (n + 4) 0 0 (x28.1.States).length, .sl (n + 5) 0 0 (x28.1.Since).length, .sl (n + 6) 0 0 (x28.1.Pulled).length, .sl (n + 7) 0 0 (x28.1.Held).length]) rfl (Ve hn rfl) rfl ta_34 ts_34 rfl rfl rfl)) Zn)) ?_
       refine Yi _ rfl rfl (Xx (VRd.ntl (Vk rfl)) (Xx (VRd.ntl (Vk rfl)) (Xx (VRd.ntl (Vk rfl)) Zn))) ?_
       refine Zh rfl rfl rfl (Vy (p := .agg [.int .i64 x26.1.Time, .vs 1 (Wq (Wr .i64) x26.1.States), .vs 1 (Wq (Wr .i64) x26.1.Since), .vs 1 (Wq Ws x26.1.Pulled), .vs 1 (Wq Ws x26.1.Held)]) (e' := .agg [.int .i64 x26.1.Time, .vs 1 (Wq (Wr .i64) x26.1.States), .vs 1 (Wq (Wr .i64) x26.1.Since), .vs 1 (Wq Ws x26.1.Pulled), .vs 1 (Wq Ws x26.1.Held)]) rfl (Ve hn rfl) rfl rfl ts_34 rfl (Ye rfl) rfl (Wu rfl) rfl (Xr hn rfl)) ?_
       refine Ym rfl rfl (Xa rfl) ?_
       refine Zh rfl rfl rfl (Vy (p := .agg [.int .i64 x28.1.Time, .sl (n + 4) 0 0 (x28.1.States).length, .sl (n + 5) 0 0 (x28.1.Since).length, .sl (n + 6) 0 0 (x28.1.Pulled).length, .sl (n + 7) 0 0 (x28.1.Held).length]) (e' := .agg [.int .i64 x28.1.Time, .sl (n + 4) 0 0 (x28.1.States).length, .sl (n + 5) 0 0 (x28.1.Since).length, .sl (n + 6) 0 0 (x28.1.Pulled).length, .sl (n + 7) 0 0 (x28.1.Held).length]) rfl (Ve hn rfl) rfl rfl ts_34 rfl (Ye rfl) rfl (Wu rfl) rfl (Xr hn rfl)) ?_
       refine Ym rfl rfl (Xa rfl) ?_
       refine Yz ?_
       refine Xb ?_
       obtain rfl := Wt hF
       refine Wg ?_
       refine Weak.trans (Xm (E' := [(10, .ptr (n + 1) 0 0 0), (11, .int .i64 x26.2), (12, .ptr (n + 2) 0 0 0), (13, .int .i64 x28.2)]) (loc1 := [⟨34, 5, [.agg [.int .i64 p1.Time, .vs 1 (Wq (Wr .i64) p1.States), .vs 1 (Wq (Wr .i64) p1.Since), .vs 1 (Wq Ws p1.Pulled), .vs 1 (Wq Ws p1.Held)]], 0⟩, ⟨34, 5, [.agg [.int .i64 x26.1.Time, .vs 1 (Wq (Wr .i64) x26.1.States), .vs 1 (Wq (Wr .i64) x26.1.Since), .vs 1 (Wq Ws x26.1.Pulled), .vs 1 (Wq Ws x26.1.Held)]], 0⟩, ⟨34, 5, [.agg [.int .i64 x28.1.Time, .sl (n + 4) 0 0 (x28.1.States).length, .sl (n + 5) 0 0 (x28.1.Since).length, .sl (n + 6) 0 0 (x28.1.Pulled).length, .vs 1 (Wq Ws x28.1.Held)]], 0⟩, ⟨34, 5, [.agg [.int .i64 x26.1.Time, .vs 1 (Wq (Wr .i64) x26.1.States), .vs 1 (Wq (Wr .i64) x26.1.Since), .vs 1 (Wq Ws x26.1.Pulled), .vs 1 (Wq Ws x26.1.Held)]], 0⟩, ⟨3, 1, Wq (Wr .i64) x28.1.States, 0⟩, ⟨3, 1, Wq (Wr .i64) x28.1.Since, 0⟩, ⟨4, 1, Wq Ws x28.1.Pulled, 0⟩, ⟨4, 1, [], 0 + 1⟩, ⟨34, 5, [.agg [.int .i64 x28.1.Time, .sl (n + 4) 0 0 (x28.1.States).length, .sl (n + 5) 0 0 (x28.1.Since).length, .sl (n + 6) 0 0 (x28.1.Pulled).length, .vs 1 (Wq Ws x28.1.Held)]], 0⟩]) hn 7 rfl (Ya (fun _ => .bool _)) ⟨Vl rfl, Vl rfl, Vl rfl, Vl rfl, trivial⟩ ⟨.refl _, .refl _, Yr ⟨Vl rfl, Vl rfl, Vl rfl, Vl rfl, Zj rfl rfl rfl (Vx rfl), trivial⟩, .refl _, .refl _, .refl _, .refl _, .refl _, Yr ⟨Vl rfl, Vl rfl, Vl rfl, Vl rfl, Zj rfl rfl rfl (Vx rfl), trivial⟩, trivial⟩) ?_
       exact Vt hn [(4, 0), (5, 0), (6, 0), (1, 0), (2, 0)] (by decide) ⟨Yj 3 1 rfl rfl, Vr rfl (.int _ _), Yj 4 2 rfl rfl, Vr rfl (.int _ _), trivial⟩ ⟨⟨_, rfl, rfl, .same _ _ _ _ (Vh (fun _ => .int _ _))⟩, ⟨_, rfl, rfl, .same _ _ _ _ (Vh (fun _ => .int _ _))⟩, ⟨_, rfl, rfl, .same _ _ _ _ (Vh (fun _ => .bool _))⟩, ⟨_, rfl, rfl, .same _ _ _ _ (Xt ⟨Xw ⟨.int _ _, .vs _ _, .vs _ _, .vs _ _, .vs _ _, trivial⟩, trivial⟩)⟩, ⟨_, rfl, rfl, .agg _ _ _ _ _ ⟨Vr rfl (.int _ _), Xq 0 4 rfl rfl, Xq 1 5 rfl rfl, Xq 2 6 rfl rfl, Vr rfl (.vs _ _), trivial⟩⟩, trivial⟩
 ·rintro _ _ _ _ ⟨he, hw⟩
  refine ⟨_, _, _, hw, ?_⟩
  exact Zm hn 3 rfl (Wu rfl) he [.agg [.int .i64 r.1.Time, .vs 1 (Wq (Wr .i64) r.1.States), .vs 1 (Wq (Wr .i64) r.1.Since), .vs 1 (Wq Ws r.1.Pulled), .vs 1 (Wq Ws r.1.Held)], .int .i64 r.2.1, .agg [.int .i64 r.2.2.1.Time, .sl (n + 0) 0 0 (r.2.2.1.States).length, .sl (n + 1) 0 0 (r.2.2.1.Since).length, .sl (n + 2) 0 0 (r.2.2.1.Pulled).length, .vs 1 (Wq Ws r.2.2.1.Held)], .int .i64 r.2.2.2] ⟨Vv rfl (Ve hn rfl) rfl ta_34 ts_34 rfl rfl rfl, rfl, Vv rfl (Ve hn rfl) rfl ta_34 ts_34 rfl rfl rfl, rfl, trivial⟩ ((lt_tup ⟨(Xw ⟨.int _ _, .vs _ _, .vs _ _, .vs _ _, .vs _ _, trivial⟩), .int _ _, (Xw ⟨.int _ _, .sl _ _ _ _ (Zw rfl), .sl _ _ _ _ (Zw rfl), .sl _ _ _ _ (Zw rfl), .vs _ _, trivial⟩), .int _ _, trivial⟩)) ⟨Vh (fun _ => .int _ _), Vh (fun _ => .int _ _), Vh (fun _ => .bool _), trivial⟩ ⟨rfl, rfl⟩

theorem F_ref23_SameInts_ok {p0 : List Int} {p1 : List Int} {r : Bool} (hF : F_ref23_SameInts p0 p1 = some r) (low : List AObj) :
    Ys Try.prog 42 [.vs 1 (Wq (Wr .i64) p0), .vs 1 (Wq (Wr .i64) p1)] low fun x low' => x = .bool r ∧ low' = low := by
 refine Vz (nt := 26) (rs := [.tmp 4]) Try.func42 rfl rfl (Wu rfl) rfl ?_
 refine Vw (Q' := FnE (fun E' lw lc => Yb E' lw lc [(4, .bool r)] low [])) ?_ ?_
 ·unfold F_ref23_SameInts at hF
  refine Vi ?_
  refine Vd ?_
  refine Va (Xz rfl) rfl ?_
  refine Vf ?_
  refine Vi ?_
  refine Vi ?_
  refine Vd ?_
  refine Va (Xc rfl) rfl ?_
  refine Va (Xk (Xv rfl rfl te_22) (congrArg (fun n : Nat => Wr .i64 (n : Int)) (Wx _))) rfl ?_
  refine Va (Xc rfl) rfl ?_
  refine Va (Xk (Xv rfl rfl te_22) (congrArg (fun n : Nat => Wr .i64 (n : Int)) (Wx _))) rfl ?_
  refine Va (Ze rfl rfl) rfl ?_
  refine Vf ?_
  refine Xh rfl (fun c1 => ?_) (fun c1 => ?_)
  ·have hF := Yo c1 hF
   refine Vi ?_
   refine Vd ?_
   refine Va (Xz rfl) rfl ?_
   refine Vf ?_
   refine Xb ?_
   obtain rfl := Wt hF
   refine Wg ?_
   exact Vp ⟨rfl, trivial⟩
  ·have hF := Yp c1 hF
   refine Xn ?_
   refine Vi ?_
   refine Vi ?_
   refine Vd ?_
   refine Va (Xa rfl) rfl ?_
   refine Vf ?_
   refine Yh ?_
   obtain ⟨o3, ho3, hF⟩ := Yt hF
   refine Vw (Wb (F_ref23_SameInts_L1 p0 p1) (fun s2 E' lw lc => Yb E' lw lc [(0, .vs 1 (Wq (Wr .i64) p0)), (1, .vs 1 (Wq (Wr .i64) p1)), (5, .int .i64 s2)] low []) (Sum.elim (fun j4 => OnlyE .ret (fun E' lw lc => Yb E' lw lc [(4, .bool false)] low [])) (fun j5 => OnlyE (.exit 0) (fun E' lw lc => Yb E' lw lc [] low []))) ho3 ?_ (by rintro (_|_) _ _ _ ⟨h, _⟩ <;> cases h) ?_) ?_
   ·exact Vp ⟨rfl, rfl, rfl, trivial⟩
   ·rintro s2 os2 _ _ _ hF hw
    unfold F_ref23_SameInts_L1 at hF
    refine Yd hw ?_
    refine Vi ?_
    refine Vi ?_
    refine Vd ?_
    refine Va (Vk rfl) rfl ?_
    refine Va (Xc rfl) rfl ?_
    refine Va (Xk (Xv rfl rfl te_22) (congrArg (fun n : Nat => Wr .i64 (n : Int)) (Wx _))) rfl ?_
    refine Va (Zr rfl rfl) rfl ?_
    refine Vf ?_
    refine Xh rfl (fun c6 => ?_) (fun c6 => ?_)
    ·have hF := Yo c6 hF
     refine Xn ?_
     refine Vi ?_
     refine Yh ?_
     refine Vi ?_
     obtain ⟨x7, h8, hF⟩ := Yt hF
     obtain ⟨x9, h10, hF⟩ := Yt hF
     refine Zk [[], [], [0, 1], [0, 1, 2], [], [], [4, 5], [4, 5, 6], [0, 1, 2, 3, 4, 5, 6, 7]] mixed (by kernel_rfl) rfl ?_
     refine Ym rfl rfl (Xc rfl) ?_
     refine Ym rfl rfl (Vk rfl) ?_
     refine Ym rfl rfl (Xk (Yl rfl rfl h8 te_22 ts_3) (v' := .vptr [.int .i64 x7] 0) rfl) ?_
     refine Ym rfl rfl (Xj rfl ta_3 rfl) ?_
     refine Ym rfl rfl (Xc rfl) ?_
     refine Ym rfl rfl (Vk rfl) ?_
     refine Ym rfl rfl (Xk (Yl rfl rfl h10 te_22 ts_3) (v' := .vptr [.int .i64 x9] 0) rfl) ?_
     refine Ym rfl rfl (Xj rfl ta_3 rfl) ?_
     refine Ym rfl rfl (Ze rfl rfl) ?_
     refine Yz ?_
     refine Xh rfl (fun c11 => ?_) (fun c11 => ?_)
     ·have hF := Yo c11 hF
      refine Vi ?_
      refine Vd ?_
      refine Va (Xz rfl) rfl ?_
      refine Vf ?_
      refine Xb ?_
      obtain rfl := Wt hF
      refine Xy ?_
      exact Vp ⟨rfl, trivial⟩
     ·have hF := Yp c11 hF
      refine Xn ?_
      refine Vd ?_
      refine Va (Vk rfl) rfl ?_
      refine Va (Wk rfl rfl rfl) rfl ?_
      refine Va (Xa rfl) rfl ?_
      refine Vf ?_
      obtain rfl := Wt hF
      refine Xy ?_
      exact Vp ⟨rfl, rfl, rfl, trivial⟩
    ·have hF := Yp c6 hF
     refine Wi ?_
     obtain rfl := Wt hF
     refine Xy ?_
     exact Vp trivial
   ·rcases o3 with j4 | j5
    ·replace hF := elimL hF
     rintro _ _ _ _ ⟨rfl, hw⟩
     refine ⟨_, _, _, hw, ?_⟩
     obtain rfl := Wt hF
     refine Wg ?_
     exact Vp ⟨rfl, trivial⟩
    ·replace hF := elimR hF
     rintro _ _ _ _ ⟨rfl, hw⟩
     refine ⟨_, _, _, hw, ?_⟩
     refine Vi ?_
     refine Vd ?_
     refine Va (Xz rfl) rfl ?_
     refine Vf ?_
     refine Xb ?_
     obtain rfl := Wt hF
     refine Wg ?_
     exact Vp ⟨rfl, trivial⟩
 ·rintro _ _ _ _ ⟨he, hw⟩
  refine ⟨_, _, _, hw, ?_⟩
  exact Zd he [.bool r] ⟨rfl, trivial⟩ (.bool _) ⟨rfl, rfl⟩

theorem F_ref39_sameBools_ok {p0 : List Bool} {p1 : List Bool} {r : Bool} (hF : F_ref39_sameBools p0 p1 = some r) (low : List AObj) :
    Ys Try.prog 56 [.vs 1 (Wq Ws p0), .vs 1 (Wq Ws p1)] low fun x low' => x = .bool r ∧ low' = low := by
 refine Vz (nt := 26) (rs := [.tmp 4]) Try.func56 rfl rfl (Wu rfl) rfl ?_
 refine Vw (Q' := FnE (fun E' lw lc => Yb E' lw lc [(4, .bool r)] low [])) ?_ ?_
 ·unfold F_ref39_sameBools at hF
  refine Vi ?_
  refine Vd ?_
  refine Va (Xz rfl) rfl ?_
  refine Vf ?_
  refine Vi ?_
  refine Vi ?_
  refine Vd ?_
  refine Va (Xc rfl) rfl ?_
  refine Va (Xk (Xv rfl rfl te_32) (congrArg (fun n : Nat => Wr .i64 (n : Int)) (Wx _))) rfl ?_
  refine Va (Xc rfl) rfl ?_
  refine Va (Xk (Xv rfl rfl te_32) (congrArg (fun n : Nat => Wr .i64 (n : Int)) (Wx _))) rfl ?_
  refine Va (Ze rfl rfl) rfl ?_
  refine Vf ?_
  refine Xh rfl (fun c1 => ?_) (fun c1 => ?_)
  ·have hF := Yo c1 hF
   refine Vi ?_
   refine Vd ?_
   refine Va (Xz rfl) rfl ?_
   refine Vf ?_
   refine Xb ?_
   obtain rfl := Wt hF
   refine Wg ?_
   exact Vp ⟨rfl, trivial⟩
  ·have hF := Yp c1 hF
   refine Xn ?_
   refine Vi ?_
   refine Vi ?_
   refine Vd ?_
   refine Va (Xa rfl) rfl ?_
   refine Vf ?_
   refine Yh ?_
   obtain ⟨o3, ho3, hF⟩ := Yt hF
   refine Vw (Wb (F_ref39_sameBools_L1 p0 p1) (fun s2 E' lw lc => Yb E' lw lc [(0, .vs 1 (Wq Ws p0)), (1, .vs 1 (Wq Ws p1)), (5, .int .i64 s2)] low []) (Sum.elim (fun j4 => OnlyE .ret (fun E' lw lc => Yb E' lw lc [(4, .bool false)] low [])) (fun j5 => OnlyE (.exit 0) (fun E' lw lc => Yb E' lw lc [] low []))) ho3 ?_ (by rintro (_|_) _ _ _ ⟨h, _⟩ <;> cases h) ?_) ?_
   ·exact Vp ⟨rfl, rfl, rfl, trivial⟩
   ·rintro s2 os2 _ _ _ hF hw
    unfold F_ref39_sameBools_L1 at hF
    refine Yd hw ?_
    refine Vi ?_
    refine Vi ?_
    refine Vd ?_
    refine Va (Vk rfl) rfl ?_
    refine Va (Xc rfl) rfl ?_
    refine Va (Xk (Xv rfl rfl te_32) (congrArg (fun n : Nat => Wr .i64 (n : Int)) (Wx _))) rfl ?_
    refine Va (Zr rfl rfl) rfl ?_
    refine Vf ?_
    refine Xh rfl (fun c6 => ?_) (fun c6 => ?_)
    ·have hF := Yo c6 hF
     refine Xn ?_
     refine Vi ?_
     refine Yh ?_
     refine Vi ?_
     obtain ⟨x7, h8, hF⟩ := Yt hF
     obtain ⟨x9, h10, hF⟩ := Yt hF
     refine Zk [[], [], [0, 1], [0, 1, 2], [], [], [4, 5], [4, 5, 6], [0, 1, 2, 3, 4, 5, 6, 7]] mixed (by kernel_rfl) rfl ?_
     refine Ym rfl rfl (Xc rfl) ?_
     refine Ym rfl rfl (Vk rfl) ?_
     refine Ym rfl rfl (Xk (Yl rfl rfl h8 te_32 ts_4) (v' := .vptr [.bool x7] 0) rfl) ?_
     refine Ym rfl rfl (Xj rfl ta_4 rfl) ?_
     refine Ym rfl rfl (Xc rfl) ?_
     refine Ym rfl rfl (Vk rfl) ?_
     refine Ym rfl rfl (Xk (Yl rfl rfl h10 te_32 ts_4) (v' := .vptr [.bool x9] 0) rfl) ?_
     refine Ym rfl rfl (Xj rfl ta_4 rfl) ?_
     refine Ym rfl rfl (rd_neqB rfl rfl tbo_4) ?_
     refine Yz ?_
     refine Xh rfl (fun c11 => ?_) (fun c11 => ?_)
     ·have hF := Yo c11 hF
      refine Vi ?_
      refine Vd ?_
      refine Va (Xz rfl) rfl ?_
      refine Vf ?_
      refine Xb ?_
      obtain rfl := Wt hF
      refine Xy ?_
      exact Vp ⟨rfl, trivial⟩
     ·have hF := Yp c11 hF
      refine Xn ?_
      refine Vd ?_
      refine Va (Vk rfl) rfl ?_
      refine Va (Wk rfl rfl rfl) rfl ?_
      refine Va (Xa rfl) rfl ?_
      refine Vf ?_
      obtain rfl := Wt hF
      refine Xy ?_
      exact Vp ⟨rfl, rfl, rfl, trivial⟩
    ·have hF := Yp c6 hF
     refine Wi ?_
     obtain rfl := Wt hF
     refine Xy ?_
     exact Vp trivial
   ·rcases o3 with j4 | j5
    ·replace hF := elimL hF
     rintro _ _ _ _ ⟨rfl, hw⟩
     refine ⟨_, _, _, hw, ?_⟩
     obtain rfl := Wt hF
     refine Wg ?_
     exact Vp ⟨rfl, trivial⟩
    ·replace hF := elimR hF
     rintro _ _ _ _ ⟨rfl, hw⟩
     refine ⟨_, _, _, hw, ?_⟩
     refine Vi ?_
     refine Vd ?_
     refine Va (Xz rfl) rfl ?_
     refine Vf ?_
     refine Xb ?_
     obtain rfl := Wt hF
     refine Wg ?_
     exact Vp ⟨rfl, trivial⟩
 ·rintro _ _ _ _ ⟨he, hw⟩
  refine ⟨_, _, _, hw, ?_⟩
  exact Zd he [.bool r] ⟨rfl, trivial⟩ (.bool _) ⟨rfl, rfl⟩

end Go.Proofs.Ytmomjhbinkmefaa
