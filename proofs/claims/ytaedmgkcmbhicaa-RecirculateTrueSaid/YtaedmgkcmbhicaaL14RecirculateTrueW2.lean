/- Printed by wip/lift/lift.py: the walks that show that the program computes them. -/
import Derived.Test.YtaedmgkcmbhicaaL14RecirculateTrueW1
namespace Go.Proofs.Ytaedmgkcmbhicaa
open Go Go.Aml Go.L
attribute [local irreducible] VRd VEf VOp VOps VWp DOps
set_option linter.unusedVariables false
open Go.Aml renaming vops_rd → Va, rd_fieldAddr → Vb, vwp_region → Vc, vops_skip → Vd, vops_nil → Ve, vwp_seq → Vf, getO_N → Vg, rn_low → Vh, vops_efE → Vi, rd_load1 → Vj, rd_mvI → Vk, ltObj_es → Vl, weak_pick → Vm, lt_agg → Vn, lenS → Vo, weak_sub → Vp, ltObj_map → Vq, vwp_monoW → Vr, rn_ptr → Vs, cv_same → Vt, all1 → Vu, vef_store → Vv, dops_rdW → Vw, rd_mvB → Vx, nn_same → Vy, onlyE → Vz, vwp_block → Xa, rd_mvP → Xb, vef_callS → Xc, vwp_cond → Xd, rd_loadN → Xe, vwp_skip → Xf, setO_N → Xg, vef_allocN → Xh, len_setL → Xi, sets_nil → Xj, vcalls_of_body → Xk, rd_to → Xl, rd_pickT → Xm, rd_pickF → Xn, rd_asI → Xo, rd_loadV1 → Xp, len_app → Xq, vef_callP → Xr, VRd → Xs, Weak → Xt, rn_sl → Xu, dops_ef → Xv, rd_ixV → Xw, dr1 → Xx, rd_build → Xy, vt1 → Xz, vwp_ret → Ya, bnd → Yb, nt_ne → Yc, nt_all2 → Yd, getI_some → Ye, Lift → Yf, vwp_weak → Yg, lt_map → Yh, ltObjN → Yi, rd_nilPtr → Yj, dops_nil → Yk, rd_lenV → Yl, vef_litF → Ym, sets_B → Yn, weak_freezeN → Yo, vwp_loopC → Yp, all0 → Yq, rd_mvV → Yr, bifT → Ys, bifF → Yt, vwp_exit → Yu, rd_add → Yv, rd_mvL → Yw, rd_fieldVaddr → Yx, bodyQ_pure → Yy, getO_B → Yz, dops_skip → Za, get_B → Zb, rd_lss → Zc, full_take → Zd, lp_bindE → Ze, VCalls → Zf, nt_all → Zg, vwp_drawn → Zh, rd_loadVN → Zi, rd_asB → Zj, rd_ldL1 → Zk, rd_ixS → Zl, rd_sub → Zm, dopx_rd → Zn, vwp_drawn0 → Zo, rx1 → Zp, vef_apL → Zq, vef_boxN → Zr, rd_eql → Zs
open List renaming map → Zt
open Go.Aml.PV renaming int → Zu
open Go.Aml.PV renaming bool → Zv
open Option.some renaming inj → Zw
open Nat renaming le_of_ble_eq_true → Zx
open Nat renaming succ_pos → Zy
open Bool renaming eq_false_or_eq_true → Zz
open List renaming length_map → Wa
set_option maxHeartbeats 4000000

theorem F_draw_Codes_fit_ok0 {p0 : T_draw_Codes} {p1 : T_Air} {p2 : T_Setting} {p3 : T_State} {r : T_draw_Codes × T_Air} (hF : F_draw_Codes_fit p0 p1 p2 p3 = some r) {low0 : List AObj} {q0 q1 q2 q3 q4 w0 w1 w2 w3 w4 : Nat} (hB : Bor low0 [q0, q1, q2, q3, q4]) {m2 : Nat} (hm2 : m2 = (p1.Mine.Roads).length) {m3 : Nat} (hm3 : m3 = (p1.Fans).length) {m4 : Nat} (hm4 : m4 = (p1.Doors).length) {n : Nat} (hn : low0.length = n) :
    Zf Try.prog 39 [.ptr q0 w0 0 0, .ptr q1 w1 0 0, .agg [.vs 1 (Zt (Zu .i64) p2.Fans), .vs 1 (Zt (Zu .i64) p2.Doors)], .agg [.vs 1 (Zt (Zu .i64) p3.Pressures), .vs 1 (Zt (Zu .i64) p3.Flows)]] (setL low0 [(q0, ⟨88, 2, [.agg [.vs 1 (Zt (Zu .u8) p0.l), .int .i64 p0.at_]], w0⟩), (q1, ⟨31, 4, [.agg [.vs 2 (Zt T_Place.enc p1.Mine.Places), .sl q2 w2 0 m2, .sl q3 w3 0 m3, .sl q4 w4 0 m4]], w1⟩), (q2, ⟨46, 10, Zt T_Road.enc p1.Mine.Roads, w2⟩), (q3, ⟨72, 4, Zt T_Fan.enc p1.Fans, w3⟩), (q4, ⟨99, 3, Zt T_Door.enc p1.Doors, w4⟩)]) fun x low' => x = .tup [] ∧ low' = setL low0 [(q0, ⟨88, 2, [.agg [.vs 1 (Zt (Zu .u8) r.1.l), .int .i64 r.1.at_]], w0⟩), (q1, ⟨31, 4, [.agg [.vs 2 (Zt T_Place.enc r.2.Mine.Places), .sl q2 w2 0 m2, .sl q3 w3 0 m3, .sl q4 w4 0 m4]], w1⟩), (q2, ⟨46, 10, Zt T_Road.enc r.2.Mine.Roads, w2⟩), (q3, ⟨72, 4, Zt T_Fan.enc r.2.Fans, w3⟩), (q4, ⟨99, 3, Zt T_Door.enc r.2.Doors, w4⟩)] ++ [] := by
 refine Xk (nt := 166) (rs := []) Try.func39 rfl rfl (Zx rfl) rfl ?_
 have hq0 : q0 < n := hB.ltN hn 0 rfl
 have hq1 : q1 < n := hB.ltN hn 1 rfl
 have hq2 : q2 < n := hB.ltN hn 2 rfl
 have hq3 : q3 < n := hB.ltN hn 3 rfl
 have hq4 : q4 < n := hB.ltN hn 4 rfl
 refine Vr (Q' := FnE (fun E' lw lc => m2 = (r.2.Mine.Roads).length ∧ m3 = (r.2.Fans).length ∧ m4 = (r.2.Doors).length ∧ Xt E' lw lc [] (setL low0 [(q0, ⟨88, 2, [.agg [.vs 1 (Zt (Zu .u8) r.1.l), .int .i64 r.1.at_]], w0⟩), (q1, ⟨31, 4, [.agg [.vs 2 (Zt T_Place.enc r.2.Mine.Places), .sl q2 w2 0 m2, .sl q3 w3 0 m3, .sl q4 w4 0 m4]], w1⟩), (q2, ⟨46, 10, Zt T_Road.enc r.2.Mine.Roads, w2⟩), (q3, ⟨72, 4, Zt T_Fan.enc r.2.Fans, w3⟩), (q4, ⟨99, 3, Zt T_Door.enc r.2.Doors, w4⟩)]) [])) ?_ ?_
 ·unfold F_draw_Codes_fit at hF
  refine Vf ?_
  refine Vc ?_
  refine Vi (Zr (Vo hn) rfl (v := .agg [.vs 1 (Zt (Zu .i64) p2.Fans), .vs 1 (Zt (Zu .i64) p2.Doors)]) rfl rfl (Zy _) rfl rfl) rfl ?_
  refine Vi (Zr (Vo hn) rfl (v := .agg [.vs 1 (Zt (Zu .i64) p3.Pressures), .vs 1 (Zt (Zu .i64) p3.Flows)]) rfl rfl (Zy _) rfl rfl) rfl ?_
  refine Ve ?_
  refine Vf ?_
  refine Vc ?_
  refine Va (Xo rfl) rfl ?_
  refine Ve ?_
  refine Xa ?_
  obtain ⟨o5, ho5, hF⟩ := Yb hF
  refine Vr (Yp (F_draw_Codes_fit_L1 p1 p2 p3) (fun s4 E' lw lc => m2 = (s4.2.2).length ∧ Xt E' lw lc [(0, .ptr q0 w0 0 0), (1, .ptr q1 w1 0 0), (6, .ptr (n + 0) 0 0 0), (7, .ptr (n + 1) 0 0 0), (8, .int .i64 s4.1)] (setL low0 [(q0, ⟨88, 2, [.agg [.vs 1 (Zt (Zu .u8) s4.2.1.l), .int .i64 s4.2.1.at_]], w0⟩), (q1, ⟨31, 4, [.agg [.vs 2 (Zt T_Place.enc p1.Mine.Places), .sl q2 w2 0 m2, .sl q3 w3 0 m3, .sl q4 w4 0 m4]], w1⟩), (q2, ⟨46, 10, Zt T_Road.enc s4.2.2, w2⟩), (q3, ⟨72, 4, Zt T_Fan.enc p1.Fans, w3⟩), (q4, ⟨99, 3, Zt T_Door.enc p1.Doors, w4⟩)]) [⟨62, 2, [.agg [.vs 1 (Zt (Zu .i64) p2.Fans), .vs 1 (Zt (Zu .i64) p2.Doors)]], 0⟩, ⟨64, 2, [.agg [.vs 1 (Zt (Zu .i64) p3.Pressures), .vs 1 (Zt (Zu .i64) p3.Flows)]], 0⟩]) (fun o5 => OnlyE (.exit 0) (fun E' lw lc => m2 = (o5.2).length ∧ Xt E' lw lc [] (setL low0 [(q0, ⟨88, 2, [.agg [.vs 1 (Zt (Zu .u8) o5.1.l), .int .i64 o5.1.at_]], w0⟩), (q1, ⟨31, 4, [.agg [.vs 2 (Zt T_Place.enc p1.Mine.Places), .sl q2 w2 0 m2, .sl q3 w3 0 m3, .sl q4 w4 0 m4]], w1⟩), (q2, ⟨46, 10, Zt T_Road.enc o5.2, w2⟩), (q3, ⟨72, 4, Zt T_Fan.enc p1.Fans, w3⟩), (q4, ⟨99, 3, Zt T_Door.enc p1.Doors, w4⟩)]) [])) ho5 ⟨hm2, ?_⟩ (by rintro _ _ _ _ ⟨h, _⟩ <;> cases h) ?_) ?_
  ·exact Vp ⟨rfl, rfl, rfl, rfl, rfl, trivial⟩
  ·rintro s4 os4 _ _ _ hF ⟨hls4_0, hw⟩
   unfold F_draw_Codes_fit_L1 at hF
   refine Yg hw ?_
   refine Vf ?_
   refine Vf ?_
   refine Vc ?_
   refine Va (Vk rfl) rfl ?_
   refine Va (Xb rfl) rfl ?_
   refine Va (Yj rfl) rfl ?_
   refine Va (Vb rfl tf_31_0 ts_27 (by decide)) rfl ?_
   refine Va (Vb rfl tf_27_1 ts_25 (by decide)) rfl ?_
   refine Va (Vj rfl (Yz hB rfl 1 rfl) rfl ta_25 rfl) rfl ?_
   refine Va (Xl (rd_lenS rfl (Yz hB rfl 2 rfl) rfl rfl te_25) (congrArg (fun n : Nat => Zu .i64 (n : Int)) hls4_0)) rfl ?_
   refine Va (Zc rfl rfl) rfl ?_
   refine Ve ?_
   refine Xd rfl (fun c6 => ?_) (fun c6 => ?_)
   ·have hF := Ys c6 hF
    refine Xf ?_
    refine Vf ?_
    refine Xa ?_
    refine Vf ?_
    refine Vc ?_
    obtain ⟨x7, h8, hF⟩ := Yb hF
    refine Va (Xb rfl) rfl ?_
    refine Va (Yj rfl) rfl ?_
    refine Va (Vb rfl tf_31_0 ts_27 (by decide)) rfl ?_
    refine Va (Vb rfl tf_27_1 ts_25 (by decide)) rfl ?_
    refine Va (Vj rfl (Yz hB rfl 1 rfl) rfl ta_25 rfl) rfl ?_
    refine Va (Vk rfl) rfl ?_
    refine Va (Zl rfl hls4_0 rfl (Yz hB rfl 2 rfl) h8 te_25 ts_46) rfl ?_
    refine Va (rd_asP rfl) rfl ?_
    refine Ve ?_
    refine Vf ?_
    refine Vc ?_
    obtain ⟨x9, h10, hF⟩ := Yb hF
    refine Va (Vb rfl tf_64_1 ts_32 (by decide)) rfl ?_
    refine Va (Vj rfl (Vg (Vo hn) rfl) rfl ta_32 rfl) rfl ?_
    refine Va (Vk rfl) rfl ?_
    refine Va (Xl (Xw rfl rfl h10 te_32 ts_3) (v' := .vptr [.int .i64 x9] 0) rfl) rfl ?_
    refine Va (Xp rfl ta_3 rfl) rfl ?_
    refine Va (Xo rfl) rfl ?_
    refine Ve ?_
    refine Vf ?_
    obtain ⟨x11, h12, hF⟩ := Yb hF
    refine Zh [[], [0], [0, 1], [0, 1, 2], [0, 1, 2, 3], [], [], [6], [6, 7], [6, 7, 8], [6, 7, 8, 9], [], [11], [11, 12], [11, 12, 13], [11, 12, 13, 14], [6, 7, 8, 9, 10, 11, 12, 13, 14, 15], [6, 7, 8, 9, 10, 11, 12, 13, 14, 15, 16], [5, 6, 7, 8, 9, 10, 11, 12, 13, 14, 15, 16, 17], [0, 1, 2, 3, 4, 5, 6, 7, 8, 9, 10, 11, 12, 13, 14, 15, 16, 17, 18], [0, 1, 2, 3, 4, 5, 6, 7, 8, 9, 10, 11, 12, 13, 14, 15, 16, 17, 18, 19]] [false, false, false, false, false, false, false, false, false, false, false, false, false, false, false, false, false, false, true, false, false] [((setL low0 [(q0, ⟨88, 2, [.agg [.vs 1 (Zt (Zu .u8) s4.2.1.l), .int .i64 s4.2.1.at_]], w0⟩), (q1, ⟨31, 4, [.agg [.vs 2 (Zt T_Place.enc p1.Mine.Places), .sl q2 w2 0 m2, .sl q3 w3 0 m3, .sl q4 w4 0 m4]], w1⟩), (q2, ⟨46, 10, Zt T_Road.enc s4.2.2, w2⟩), (q3, ⟨72, 4, Zt T_Fan.enc p1.Fans, w3⟩), (q4, ⟨99, 3, Zt T_Door.enc p1.Doors, w4⟩)]), [⟨62, 2, [.agg [.vs 1 (Zt (Zu .i64) p2.Fans), .vs 1 (Zt (Zu .i64) p2.Doors)]], 0⟩, ⟨64, 2, [.agg [.vs 1 (Zt (Zu .i64) p3.Pressures), .vs 1 (Zt (Zu .i64) p3.Flows)]], 0⟩]), ((setL low0 [(q0, ⟨88, 2, [.agg [.vs 1 (Zt (Zu .u8) x11.1.l), .int .i64 x11.1.at_]], w0⟩), (q1, ⟨31, 4, [.agg [.vs 2 (Zt T_Place.enc p1.Mine.Places), .sl q2 w2 0 m2, .sl q3 w3 0 m3, .sl q4 w4 0 m4]], w1⟩), (q2, ⟨46, 10, Zt T_Road.enc s4.2.2, w2⟩), (q3, ⟨72, 4, Zt T_Fan.enc p1.Fans, w3⟩), (q4, ⟨99, 3, Zt T_Door.enc p1.Doors, w4⟩)]), [⟨62, 2, [.agg [.vs 1 (Zt (Zu .i64) p2.Fans), .vs 1 (Zt (Zu .i64) p2.Doors)]], 0⟩, ⟨64, 2, [.agg [.vs 1 (Zt (Zu .i64) p3.Pressures), .vs 1 (Zt (Zu .i64) p3.Flows)]], 0⟩])] mixed (by kernel_rfl) rfl (lenAll (Vu Xi (Vu Xi Yq))) rfl _ rfl rfl ?_
    refine Vw _ rfl rfl (Vu (VRd.ntl (Xb rfl)) (Vu (VRd.ntl (Xb rfl)) Yq)) ?_
    refine Vw _ rfl rfl (Vu (VRd.ntl (Yj rfl)) (Vu (VRd.ntl (Yj rfl)) Yq)) ?_
    refine Vw _ rfl rfl (Vu (VRd.ntl (Vb rfl tf_46_6 ts_44 (by decide))) (Vu (VRd.ntl (Vb rfl tf_46_6 ts_44 (by decide))) Yq)) ?_
    refine Vw _ rfl rfl (Vu (VRd.ntl (Vb rfl tf_44_0 ts_3 (by decide))) (Vu (VRd.ntl (Vb rfl tf_44_0 ts_3 (by decide))) Yq)) ?_
    refine Vw _ rfl rfl (Vu (VRd.ntl (Zk rfl (Yz hB rfl 2 rfl) (Ye h8).2 ta_3 rfl)) (Vu (VRd.ntl (Zk rfl (Yz hB rfl 2 rfl) (Ye h8).2 ta_3 rfl)) Yq)) ?_
    refine Xx rfl rfl (Xb rfl) ?_
    refine Xx rfl rfl (Xb rfl) ?_
    refine Xx rfl rfl (Yj rfl) ?_
    refine Xx rfl rfl (Vb rfl tf_46_6 ts_44 (by decide)) ?_
    refine Xx rfl rfl (Vb rfl tf_44_1 ts_3 (by decide)) ?_
    refine Xx rfl rfl (Zk rfl (Yz hB rfl 2 rfl) (Ye h8).2 ta_3 rfl) ?_
    refine Xx rfl rfl (Xb rfl) ?_
    refine Xx rfl rfl (Yj rfl) ?_
    refine Xx rfl rfl (Vb rfl tf_46_6 ts_44 (by decide)) ?_
    refine Xx rfl rfl (Vb rfl tf_44_0 ts_3 (by decide)) ?_
    refine Xx rfl rfl (Zk rfl (Yz hB rfl 2 rfl) (Ye h8).2 ta_3 rfl) ?_
    refine Xx rfl rfl (Zm rfl rfl rfl) ?_
    refine Xx rfl rfl (Yv rfl rfl rfl) ?_
    refine Xv rfl rfl rfl (Xc (ps := [(q0, ⟨88, 2, [.agg [.vs 1 (Zt (Zu .u8) x11.1.l), .int .i64 x11.1.at_]], w0⟩)]) (r := .int .i64 x11.2) (os := []) (low1 := (setL low0 [(q0, ⟨88, 2, [.agg [.vs 1 (Zt (Zu .u8) x11.1.l), .int .i64 x11.1.at_]], w0⟩), (q1, ⟨31, 4, [.agg [.vs 2 (Zt T_Place.enc p1.Mine.Places), .sl q2 w2 0 m2, .sl q3 w3 0 m3, .sl q4 w4 0 m4]], w1⟩), (q2, ⟨46, 10, Zt T_Road.enc s4.2.2, w2⟩), (q3, ⟨72, 4, Zt T_Fan.enc p1.Fans, w3⟩), (q4, ⟨99, 3, Zt T_Door.enc p1.Doors, w4⟩)])) (loc1 := [⟨62, 2, [.agg [.vs 1 (Zt (Zu .i64) p2.Fans), .vs 1 (Zt (Zu .i64) p2.Doors)]], 0⟩, ⟨64, 2, [.agg [.vs 1 (Zt (Zu .i64) p3.Pressures), .vs 1 (Zt (Zu .i64) p3.Flows)]], 0⟩]) (loc2 := [⟨62, 2, [.agg [.vs 1 (Zt (Zu .i64) p2.Fans), .vs 1 (Zt (Zu .i64) p2.Doors)]], 0⟩, ⟨64, 2, [.agg [.vs 1 (Zt (Zu .i64) p3.Pressures), .vs 1 (Zt (Zu .i64) p3.Flows)]], 0⟩]) rfl Try.call27 (F_draw_Codes_Next_ok h12 (nd1 na0 nd0) (Zb hB rfl 0 rfl) (Xq (Vo hn) rfl)) (Yn (ps0' := [(q0, ⟨88, 2, [.agg [.vs 1 (Zt (Zu .u8) x11.1.l), .int .i64 x11.1.at_]], w0⟩), (q1, ⟨31, 4, [.agg [.vs 2 (Zt T_Place.enc p1.Mine.Places), .sl q2 w2 0 m2, .sl q3 w3 0 m3, .sl q4 w4 0 m4]], w1⟩), (q2, ⟨46, 10, Zt T_Road.enc s4.2.2, w2⟩), (q3, ⟨72, 4, Zt T_Fan.enc p1.Fans, w3⟩), (q4, ⟨99, 3, Zt T_Door.enc p1.Doors, w4⟩)]) hB rfl 0 rfl (Yi hn ⟨Vn ⟨.vs _ _, .int _ _, trivial⟩, trivial⟩) rfl Xj) rfl) ?_
    refine Xx rfl rfl (Yv rfl rfl rfl) ?_
    refine Xx rfl rfl (Xo rfl) ?_
    refine Yk ?_
    refine Vf ?_
    refine Vf ?_
    refine Vc ?_
    refine Va (Xo rfl) rfl ?_
    refine Ve ?_
    refine Xa ?_
    obtain ⟨o14, ho14, hF⟩ := Yb hF
    refine Vr (Yp (F_draw_Codes_fit_L2 p1 p2 s4) (fun s13 E' lw lc => Xt E' lw lc [(0, .ptr q0 w0 0 0), (1, .ptr q1 w1 0 0), (6, .ptr (n + 0) 0 0 0), (7, .ptr (n + 1) 0 0 0), (8, .int .i64 s4.1), (9, .ptr q2 w2 ((s4.1).toNat) 0), (10, .int .i64 x9), (11, .int .i64 s13.1), (12, .int .i64 s13.2)] (setL low0 [(q0, ⟨88, 2, [.agg [.vs 1 (Zt (Zu .u8) x11.1.l), .int .i64 x11.1.at_]], w0⟩), (q1, ⟨31, 4, [.agg [.vs 2 (Zt T_Place.enc p1.Mine.Places), .sl q2 w2 0 m2, .sl q3 w3 0 m3, .sl q4 w4 0 m4]], w1⟩), (q2, ⟨46, 10, Zt T_Road.enc s4.2.2, w2⟩), (q3, ⟨72, 4, Zt T_Fan.enc p1.Fans, w3⟩), (q4, ⟨99, 3, Zt T_Door.enc p1.Doors, w4⟩)]) [⟨62, 2, [.agg [.vs 1 (Zt (Zu .i64) p2.Fans), .vs 1 (Zt (Zu .i64) p2.Doors)]], 0⟩, ⟨64, 2, [.agg [.vs 1 (Zt (Zu .i64) p3.Pressures), .vs 1 (Zt (Zu .i64) p3.Flows)]], 0⟩]) (fun o14 => OnlyE (.exit 2) (fun E' lw lc => Xt E' lw lc [(0, .ptr q0 w0 0 0), (1, .ptr q1 w1 0 0), (6, .ptr (n + 0) 0 0 0), (7, .ptr (n + 1) 0 0 0), (8, .int .i64 s4.1), (9, .ptr q2 w2 ((s4.1).toNat) 0), (10, .int .i64 x9), (11, .int .i64 o14)] (setL low0 [(q0, ⟨88, 2, [.agg [.vs 1 (Zt (Zu .u8) x11.1.l), .int .i64 x11.1.at_]], w0⟩), (q1, ⟨31, 4, [.agg [.vs 2 (Zt T_Place.enc p1.Mine.Places), .sl q2 w2 0 m2, .sl q3 w3 0 m3, .sl q4 w4 0 m4]], w1⟩), (q2, ⟨46, 10, Zt T_Road.enc s4.2.2, w2⟩), (q3, ⟨72, 4, Zt T_Fan.enc p1.Fans, w3⟩), (q4, ⟨99, 3, Zt T_Door.enc p1.Doors, w4⟩)]) [⟨62, 2, [.agg [.vs 1 (Zt (Zu .i64) p2.Fans), .vs 1 (Zt (Zu .i64) p2.Doors)]], 0⟩, ⟨64, 2, [.agg [.vs 1 (Zt (Zu .i64) p3.Pressures), .vs 1 (Zt (Zu .i64) p3.Flows)]], 0⟩])) ho14 ?_ (by rintro _ _ _ _ ⟨h, _⟩ <;> cases h) ?_) ?_
    ·exact Vp ⟨rfl, rfl, rfl, rfl, rfl, rfl, rfl, rfl, rfl, trivial⟩
    ·rintro s13 os13 _ _ _ hF hw
     unfold F_draw_Codes_fit_L2 at hF
     refine Yg hw ?_
     refine Vf ?_
     refine Vf ?_
     refine Vc ?_
     refine Va (Vk rfl) rfl ?_
     refine Va (Xb rfl) rfl ?_
     refine Va (Yj rfl) rfl ?_
     refine Va (Vb rfl tf_31_2 ts_29 (by decide)) rfl ?_
     refine Va (Vj rfl (Yz hB rfl 1 rfl) rfl ta_29 rfl) rfl ?_
     refine Va (Xl (rd_lenS rfl (Yz hB rfl 4 rfl) rfl rfl te_29) (congrArg (fun n : Nat => Zu .i64 (n : Int)) hm4)) rfl ?_
     refine Va (Zc rfl rfl) rfl ?_
     refine Ve ?_
     refine Xd rfl (fun c15 => ?_) (fun c15 => ?_)
     ·have hF := Ys c15 hF
      refine Xf ?_
      refine Vf ?_
      obtain ⟨o16, ho16, hF⟩ := Yb hF
      refine Vr (Q' := (fun o16 => OnlyE .normal (fun E' lw lc => Xt E' lw lc [(0, .ptr q0 w0 0 0), (1, .ptr q1 w1 0 0), (6, .ptr (n + 0) 0 0 0), (7, .ptr (n + 1) 0 0 0), (8, .int .i64 s4.1), (9, .ptr q2 w2 ((s4.1).toNat) 0), (10, .int .i64 x9), (11, .int .i64 o16), (12, .int .i64 s13.2)] (setL low0 [(q0, ⟨88, 2, [.agg [.vs 1 (Zt (Zu .u8) x11.1.l), .int .i64 x11.1.at_]], w0⟩), (q1, ⟨31, 4, [.agg [.vs 2 (Zt T_Place.enc p1.Mine.Places), .sl q2 w2 0 m2, .sl q3 w3 0 m3, .sl q4 w4 0 m4]], w1⟩), (q2, ⟨46, 10, Zt T_Road.enc s4.2.2, w2⟩), (q3, ⟨72, 4, Zt T_Fan.enc p1.Fans, w3⟩), (q4, ⟨99, 3, Zt T_Door.enc p1.Doors, w4⟩)]) [⟨62, 2, [.agg [.vs 1 (Zt (Zu .i64) p2.Fans), .vs 1 (Zt (Zu .i64) p2.Doors)]], 0⟩, ⟨64, 2, [.agg [.vs 1 (Zt (Zu .i64) p3.Pressures), .vs 1 (Zt (Zu .i64) p3.Flows)]], 0⟩])) o16) ?_ ?_
      ·replace hF := ho16
       refine Xa ?_
       refine Vf ?_
       refine Vc ?_
       obtain ⟨x17, h18, hF⟩ := Yb hF
       refine Va (Xb rfl) rfl ?_
       refine Va (Yj rfl) rfl ?_
       refine Va (Vb rfl tf_31_2 ts_29 (by decide)) rfl ?_
       refine Va (Vj rfl (Yz hB rfl 1 rfl) rfl ta_29 rfl) rfl ?_
       refine Va (Vk rfl) rfl ?_
       refine Va (Zl rfl hm4 rfl (Yz hB rfl 4 rfl) h18 te_29 ts_99) rfl ?_
       refine Va (Vb rfl tf_99_0 ts_3 (by decide)) rfl ?_
       refine Va (Zk rfl (Yz hB rfl 4 rfl) (Ye h18).2 ta_3 rfl) rfl ?_
       refine Va (Vk rfl) rfl ?_
       refine Va (Zs rfl rfl) rfl ?_
       refine Ve ?_
       refine Xd rfl (fun c19 => ?_) (fun c19 => ?_)
       ·have hF := Ys c19 hF
        obtain ⟨x20, h21, hF⟩ := Yb hF
        obtain ⟨x22, h23, hF⟩ := Yb hF
        obtain ⟨x24, h25, hF⟩ := Yb hF
        refine Zo [[], [], [1], [1, 2], [1, 2, 3], [], [1, 2, 3, 4, 5], [1, 2, 3, 4, 5, 6], [], [8], [], [8, 9, 10], [8, 9, 10, 11], [1, 2, 3, 4, 5, 6, 7, 8, 9, 10, 11, 12], [1, 2, 3, 4, 5, 6, 7, 8, 9, 10, 11, 12, 13], [0, 1, 2, 3, 4, 5, 6, 7, 8, 9, 10, 11, 12, 13, 14], [0, 1, 2, 3, 4, 5, 6, 7, 8, 9, 10, 11, 12, 13, 14, 15]] mixed (by kernel_rfl) rfl ?_
        refine Xx rfl rfl (Vk rfl) ?_
        refine Xx rfl rfl (Xb rfl) ?_
        refine Xx rfl rfl (Yj rfl) ?_
        refine Xx rfl rfl (Vb rfl tf_31_2 ts_29 (by decide)) ?_
        refine Xx rfl rfl (Vj rfl (Yz hB rfl 1 rfl) rfl ta_29 rfl) ?_
        refine Xx rfl rfl (Vk rfl) ?_
        refine Xx rfl rfl (Zl rfl hm4 rfl (Yz hB rfl 4 rfl) h21 te_29 ts_99) ?_
        refine Xx rfl rfl (rd_ldLN (ds := [.int .i64 x20.Road, .int .i64 x20.Other, .vs 1 (Zt (Zu .i64) x20.Rests)]) rfl (Yz hB rfl 4 rfl) (Ye h21).2 ta_99 ts_99 rfl rfl) ?_
        refine Xx rfl rfl (Vb rfl tf_62_1 ts_32 (by decide)) ?_
        refine Xx rfl rfl (Vj rfl (Vg (Vo hn) rfl) rfl ta_32 rfl) ?_
        refine Xx rfl rfl (Vk rfl) ?_
        refine Xx rfl rfl (Xl (Xw rfl rfl h23 te_32 ts_3) (v' := .vptr [.int .i64 x22] 0) rfl) ?_
        refine Xx rfl rfl (Xp rfl ta_3 rfl) ?_
        refine dn1 rfl rfl (nt_of (Xr rfl Try.call45 (F_ref08_Rest_ok h25 _))) ?_
        refine Xx rfl rfl (rd_field1 rfl tf_44_0 ta_3 rfl) ?_
        refine Xx rfl rfl (Yv rfl rfl rfl) ?_
        refine Xx rfl rfl (Xo rfl) ?_
        refine Yk ?_
        obtain rfl := Zw hF
        refine Vz ?_
        exact Vp ⟨rfl, rfl, rfl, rfl, rfl, rfl, rfl, rfl, rfl, trivial⟩
       ·have hF := Yt c19 hF
        refine Xf ?_
        obtain rfl := Zw hF
        refine Vz ?_
        exact Vp ⟨rfl, rfl, rfl, rfl, rfl, rfl, rfl, rfl, rfl, trivial⟩
      ·rintro _ _ _ _ ⟨rfl, hw⟩
       refine ⟨_, _, _, hw, ?_⟩
       refine Vc ?_
       refine Va (Vk rfl) rfl ?_
       refine Va (Yv rfl rfl rfl) rfl ?_
       refine Va (Xo rfl) rfl ?_
       refine Ve ?_
       obtain rfl := Zw hF
       refine Vz ?_
       exact Vp ⟨rfl, rfl, rfl, rfl, rfl, rfl, rfl, rfl, rfl, trivial⟩
     ·have hF := Yt c15 hF
      refine Yu ?_
      obtain rfl := Zw hF
      refine Vz ?_
      exact Vp ⟨rfl, rfl, rfl, rfl, rfl, rfl, rfl, rfl, trivial⟩
    ·rintro _ _ _ _ ⟨rfl, hw⟩
     refine ⟨_, _, _, hw, ?_⟩
     refine Vf ?_
     obtain ⟨x26, h27, hF⟩ := Yb hF
     obtain ⟨x28, h29, hF⟩ := Yb hF
     obtain ⟨x30, h31, hF⟩ := Yb hF
     refine Zo [[], [], [], [2], [1, 2, 3], [0, 1, 2, 3, 4], [], [0, 1, 2, 3, 4, 5, 6], [], [8], [], [10], [10, 11], [10, 11, 12], [8, 9, 10, 11, 12, 13], [8, 9, 10, 11, 12, 13, 14], [], [16], [], [18], [18, 19], [18, 19, 20], [16, 17, 18, 19, 20, 21], [16, 17, 18, 19, 20, 21, 22], [8, 9, 10, 11, 12, 13, 14, 15, 16, 17, 18, 19, 20, 21, 22, 23], [0, 1, 2, 3, 4, 5, 6, 7, 8, 9, 10, 11, 12, 13, 14, 15, 16, 17, 18, 19, 20, 21, 22, 23, 24], [0, 1, 2, 3, 4, 5, 6, 7, 8, 9, 10, 11, 12, 13, 14, 15, 16, 17, 18, 19, 20, 21, 22, 23, 24, 25]] mixed (by kernel_rfl) rfl ?_
     refine Xx rfl rfl (Vk rfl) ?_
     refine Xx rfl rfl (Vk rfl) ?_
     refine Xx rfl rfl (Vk rfl) ?_
     refine Xx rfl rfl (rd_neg rfl rfl) ?_
     refine Xx rfl rfl (rd_max rfl rfl) ?_
     refine Xx rfl rfl (rd_mul rfl rfl rfl) ?_
     refine Xx rfl rfl (Vk rfl) ?_
     refine Xx rfl rfl (rd_mul rfl rfl rfl) ?_
     refine Xx rfl rfl (Vb rfl tf_64_0 ts_32 (by decide)) ?_
     refine Xx rfl rfl (Vj rfl (Vg (Vo hn) rfl) rfl ta_32 rfl) ?_
     refine Xx rfl rfl (Xb rfl) ?_
     refine Xx rfl rfl (Yj rfl) ?_
     refine Xx rfl rfl (Vb rfl tf_46_0 ts_3 (by decide)) ?_
     refine Xx rfl rfl (Zk rfl (Yz hB rfl 2 rfl) h27 ta_3 rfl) ?_
     refine Xx rfl rfl (Xl (Xw rfl rfl h29 te_32 ts_3) (v' := .vptr [.int .i64 x28] 0) rfl) ?_
     refine Xx rfl rfl (Xp rfl ta_3 rfl) ?_
     refine Xx rfl rfl (Vb rfl tf_64_0 ts_32 (by decide)) ?_
     refine Xx rfl rfl (Vj rfl (Vg (Vo hn) rfl) rfl ta_32 rfl) ?_
     refine Xx rfl rfl (Xb rfl) ?_
     refine Xx rfl rfl (Yj rfl) ?_
     refine Xx rfl rfl (Vb rfl tf_46_1 ts_3 (by decide)) ?_
     refine Xx rfl rfl (Zk rfl (Yz hB rfl 2 rfl) h27 ta_3 rfl) ?_
     refine Xx rfl rfl (Xl (Xw rfl rfl h31 te_32 ts_3) (v' := .vptr [.int .i64 x30] 0) rfl) ?_
     refine Xx rfl rfl (Xp rfl ta_3 rfl) ?_
     refine Xx rfl rfl (Zm rfl rfl rfl) ?_
     refine Xx rfl rfl (Zm rfl rfl rfl) ?_
     refine Xx rfl rfl (Xo rfl) ?_
     refine Yk ?_
     refine Vf ?_
     refine Vf ?_
     refine Vc ?_
     refine Va (Xo rfl) rfl ?_
     refine Ve ?_
     refine Xa ?_
     obtain ⟨o33, ho33, hF⟩ := Yb hF
     refine Vr (Yp (F_draw_Codes_fit_L3 p1 p2 s4 x9) (fun s32 E' lw lc => Xt E' lw lc [(0, .ptr q0 w0 0 0), (1, .ptr q1 w1 0 0), (6, .ptr (n + 0) 0 0 0), (7, .ptr (n + 1) 0 0 0), (8, .int .i64 s4.1), (9, .ptr q2 w2 ((s4.1).toNat) 0), (10, .int .i64 x9), (13, .int .i64 s32.1), (14, .int .i64 s32.2)] (setL low0 [(q0, ⟨88, 2, [.agg [.vs 1 (Zt (Zu .u8) x11.1.l), .int .i64 x11.1.at_]], w0⟩), (q1, ⟨31, 4, [.agg [.vs 2 (Zt T_Place.enc p1.Mine.Places), .sl q2 w2 0 m2, .sl q3 w3 0 m3, .sl q4 w4 0 m4]], w1⟩), (q2, ⟨46, 10, Zt T_Road.enc s4.2.2, w2⟩), (q3, ⟨72, 4, Zt T_Fan.enc p1.Fans, w3⟩), (q4, ⟨99, 3, Zt T_Door.enc p1.Doors, w4⟩)]) [⟨62, 2, [.agg [.vs 1 (Zt (Zu .i64) p2.Fans), .vs 1 (Zt (Zu .i64) p2.Doors)]], 0⟩, ⟨64, 2, [.agg [.vs 1 (Zt (Zu .i64) p3.Pressures), .vs 1 (Zt (Zu .i64) p3.Flows)]], 0⟩]) (fun o33 => OnlyE (.exit 4) (fun E' lw lc => Xt E' lw lc [(0, .ptr q0 w0 0 0), (1, .ptr q1 w1 0 0), (6, .ptr (n + 0) 0 0 0), (7, .ptr (n + 1) 0 0 0), (8, .int .i64 s4.1), (9, .ptr q2 w2 ((s4.1).toNat) 0), (13, .int .i64 o33)] (setL low0 [(q0, ⟨88, 2, [.agg [.vs 1 (Zt (Zu .u8) x11.1.l), .int .i64 x11.1.at_]], w0⟩), (q1, ⟨31, 4, [.agg [.vs 2 (Zt T_Place.enc p1.Mine.Places), .sl q2 w2 0 m2, .sl q3 w3 0 m3, .sl q4 w4 0 m4]], w1⟩), (q2, ⟨46, 10, Zt T_Road.enc s4.2.2, w2⟩), (q3, ⟨72, 4, Zt T_Fan.enc p1.Fans, w3⟩), (q4, ⟨99, 3, Zt T_Door.enc p1.Doors, w4⟩)]) [⟨62, 2, [.agg [.vs 1 (Zt (Zu .i64) p2.Fans), .vs 1 (Zt (Zu .i64) p2.Doors)]], 0⟩, ⟨64, 2, [.agg [.vs 1 (Zt (Zu .i64) p3.Pressures), .vs 1 (Zt (Zu .i64) p3.Flows)]], 0⟩])) ho33 ?_ (by rintro _ _ _ _ ⟨h, _⟩ <;> cases h) ?_) ?_
     ·exact Vp ⟨rfl, rfl, rfl, rfl, rfl, rfl, rfl, rfl, rfl, trivial⟩
     ·rintro s32 os32 _ _ _ hF hw
      unfold F_draw_Codes_fit_L3 at hF
      refine Yg hw ?_
      refine Vf ?_
      refine Vf ?_
      refine Vc ?_
      refine Va (Vk rfl) rfl ?_
      refine Va (Xb rfl) rfl ?_
      refine Va (Yj rfl) rfl ?_
      refine Va (Vb rfl tf_31_1 ts_28 (by decide)) rfl ?_
      refine Va (Vj rfl (Yz hB rfl 1 rfl) rfl ta_28 rfl) rfl ?_
      refine Va (Xl (rd_lenS rfl (Yz hB rfl 3 rfl) rfl rfl te_28) (congrArg (fun n : Nat => Zu .i64 (n : Int)) hm3)) rfl ?_
      refine Va (Zc rfl rfl) rfl ?_
      refine Ve ?_
      refine Xd rfl (fun c34 => ?_) (fun c34 => ?_)
      ·have hF := Ys c34 hF
       refine Xf ?_
       refine Vf ?_
       obtain ⟨o35, ho35, hF⟩ := Yb hF
       refine Vr (Q' := (fun o35 => OnlyE .normal (fun E' lw lc => Xt E' lw lc [(0, .ptr q0 w0 0 0), (1, .ptr q1 w1 0 0), (6, .ptr (n + 0) 0 0 0), (7, .ptr (n + 1) 0 0 0), (8, .int .i64 s4.1), (9, .ptr q2 w2 ((s4.1).toNat) 0), (10, .int .i64 x9), (13, .int .i64 o35), (14, .int .i64 s32.2)] (setL low0 [(q0, ⟨88, 2, [.agg [.vs 1 (Zt (Zu .u8) x11.1.l), .int .i64 x11.1.at_]], w0⟩), (q1, ⟨31, 4, [.agg [.vs 2 (Zt T_Place.enc p1.Mine.Places), .sl q2 w2 0 m2, .sl q3 w3 0 m3, .sl q4 w4 0 m4]], w1⟩), (q2, ⟨46, 10, Zt T_Road.enc s4.2.2, w2⟩), (q3, ⟨72, 4, Zt T_Fan.enc p1.Fans, w3⟩), (q4, ⟨99, 3, Zt T_Door.enc p1.Doors, w4⟩)]) [⟨62, 2, [.agg [.vs 1 (Zt (Zu .i64) p2.Fans), .vs 1 (Zt (Zu .i64) p2.Doors)]], 0⟩, ⟨64, 2, [.agg [.vs 1 (Zt (Zu .i64) p3.Pressures), .vs 1 (Zt (Zu .i64) p3.Flows)]], 0⟩])) o35) ?_ ?_
       ·replace hF := ho35
        refine Xa ?_
        refine Vf ?_
        refine Vc ?_
        obtain ⟨x36, h37, hF⟩ := Yb hF
        refine Va (Xb rfl) rfl ?_
        refine Va (Yj rfl) rfl ?_
        refine Va (Vb rfl tf_31_1 ts_28 (by decide)) rfl ?_
        refine Va (Vj rfl (Yz hB rfl 1 rfl) rfl ta_28 rfl) rfl ?_
        refine Va (Vk rfl) rfl ?_
        refine Va (Zl rfl hm3 rfl (Yz hB rfl 3 rfl) h37 te_28 ts_72) rfl ?_
        refine Va (Vb rfl tf_72_0 ts_3 (by decide)) rfl ?_
        refine Va (Zk rfl (Yz hB rfl 3 rfl) (Ye h37).2 ta_3 rfl) rfl ?_
        refine Va (Vk rfl) rfl ?_
        refine Va (Zs rfl rfl) rfl ?_
        refine Ve ?_
        refine Xd rfl (fun c38 => ?_) (fun c38 => ?_)
        ·have hF := Ys c38 hF
         obtain ⟨x39, h40, hF⟩ := Yb hF
         obtain ⟨x41, h42, hF⟩ := Yb hF
         obtain ⟨x43, h44, hF⟩ := Yb hF
         refine Zo [[], [], [1], [1, 2], [1, 2, 3], [], [1, 2, 3, 4, 5], [1, 2, 3, 4, 5, 6], [], [8], [], [8, 9, 10], [8, 9, 10, 11], [], [1, 2, 3, 4, 5, 6, 7, 8, 9, 10, 11, 12, 13], [1, 2, 3, 4, 5, 6, 7, 8, 9, 10, 11, 12, 13, 14], [0, 1, 2, 3, 4, 5, 6, 7, 8, 9, 10, 11, 12, 13, 14, 15], [0, 1, 2, 3, 4, 5, 6, 7, 8, 9, 10, 11, 12, 13, 14, 15, 16]] mixed (by kernel_rfl) rfl ?_
         refine Xx rfl rfl (Vk rfl) ?_
         refine Xx rfl rfl (Xb rfl) ?_
         refine Xx rfl rfl (Yj rfl) ?_
         refine Xx rfl rfl (Vb rfl tf_31_1 ts_28 (by decide)) ?_
         refine Xx rfl rfl (Vj rfl (Yz hB rfl 1 rfl) rfl ta_28 rfl) ?_
         refine Xx rfl rfl (Vk rfl) ?_
         refine Xx rfl rfl (Zl rfl hm3 rfl (Yz hB rfl 3 rfl) h40 te_28 ts_72) ?_
         refine Xx rfl rfl (rd_ldLN (ds := [.int .i64 x39.Road, .bool x39.Back, .bool x39.Auxiliary, .vs 2 (Zt T_Point.enc x39.Curve)]) rfl (Yz hB rfl 3 rfl) (Ye h40).2 ta_72 ts_72 rfl rfl) ?_
         refine Xx rfl rfl (Vb rfl tf_62_0 ts_32 (by decide)) ?_
         refine Xx rfl rfl (Vj rfl (Vg (Vo hn) rfl) rfl ta_32 rfl) ?_
         refine Xx rfl rfl (Vk rfl) ?_
         refine Xx rfl rfl (Xl (Xw rfl rfl h42 te_32 ts_3) (v' := .vptr [.int .i64 x41] 0) rfl) ?_
         refine Xx rfl rfl (Xp rfl ta_3 rfl) ?_
         refine Xx rfl rfl (Vk rfl) ?_
         refine dn1 rfl rfl (nt_of (Xr rfl Try.call46 (F_ref07_State_ok h44 _))) ?_
         refine Xx rfl rfl (rd_field1 rfl tf_44_0 ta_3 rfl) ?_
         refine Xx rfl rfl (Zm rfl rfl rfl) ?_
         refine Xx rfl rfl (Xo rfl) ?_
         refine Yk ?_
         obtain rfl := Zw hF
         refine Vz ?_
         exact Vp ⟨rfl, rfl, rfl, rfl, rfl, rfl, rfl, rfl, rfl, trivial⟩
        ·have hF := Yt c38 hF
         refine Xf ?_
         obtain rfl := Zw hF
         refine Vz ?_
         exact Vp ⟨rfl, rfl, rfl, rfl, rfl, rfl, rfl, rfl, rfl, trivial⟩
       ·rintro _ _ _ _ ⟨rfl, hw⟩
        refine ⟨_, _, _, hw, ?_⟩
        refine Vc ?_
        refine Va (Vk rfl) rfl ?_
        refine Va (Yv rfl rfl rfl) rfl ?_
        refine Va (Xo rfl) rfl ?_
        refine Ve ?_
        obtain rfl := Zw hF
        refine Vz ?_
        exact Vp ⟨rfl, rfl, rfl, rfl, rfl, rfl, rfl, rfl, rfl, trivial⟩
      ·have hF := Yt c34 hF
       refine Yu ?_
       obtain rfl := Zw hF
       refine Vz ?_
       exact Vp ⟨rfl, rfl, rfl, rfl, rfl, rfl, rfl, trivial⟩
     ·rintro _ _ _ _ ⟨rfl, hw⟩
      refine ⟨_, _, _, hw, ?_⟩
      refine Vc ?_
      obtain ⟨x45, h46, hF⟩ := Yb hF
      obtain ⟨x47, h48, hF⟩ := Yb hF
      obtain ⟨x49, h50, hF⟩ := Yb hF
      refine Va (Xb rfl) rfl ?_
      refine Va (Vk rfl) rfl ?_
      refine Va (Xb rfl) rfl ?_
      refine Vi (Xc (ps := [(q0, ⟨88, 2, [.agg [.vs 1 (Zt (Zu .u8) x45.1.l), .int .i64 x45.1.at_]], w0⟩)]) (r := .int .i64 x45.2) (os := []) (low1 := (setL low0 [(q0, ⟨88, 2, [.agg [.vs 1 (Zt (Zu .u8) x45.1.l), .int .i64 x45.1.at_]], w0⟩), (q1, ⟨31, 4, [.agg [.vs 2 (Zt T_Place.enc p1.Mine.Places), .sl q2 w2 0 m2, .sl q3 w3 0 m3, .sl q4 w4 0 m4]], w1⟩), (q2, ⟨46, 10, Zt T_Road.enc s4.2.2, w2⟩), (q3, ⟨72, 4, Zt T_Fan.enc p1.Fans, w3⟩), (q4, ⟨99, 3, Zt T_Door.enc p1.Doors, w4⟩)])) (loc1 := [⟨62, 2, [.agg [.vs 1 (Zt (Zu .i64) p2.Fans), .vs 1 (Zt (Zu .i64) p2.Doors)]], 0⟩, ⟨64, 2, [.agg [.vs 1 (Zt (Zu .i64) p3.Pressures), .vs 1 (Zt (Zu .i64) p3.Flows)]], 0⟩]) (loc2 := [⟨62, 2, [.agg [.vs 1 (Zt (Zu .i64) p2.Fans), .vs 1 (Zt (Zu .i64) p2.Doors)]], 0⟩, ⟨64, 2, [.agg [.vs 1 (Zt (Zu .i64) p3.Pressures), .vs 1 (Zt (Zu .i64) p3.Flows)]], 0⟩]) rfl Try.call27 (F_draw_Codes_Next_ok h46 (nd1 na0 nd0) (Zb hB rfl 0 rfl) (Xq (Vo hn) rfl)) (Yn (ps0' := [(q0, ⟨88, 2, [.agg [.vs 1 (Zt (Zu .u8) x45.1.l), .int .i64 x45.1.at_]], w0⟩), (q1, ⟨31, 4, [.agg [.vs 2 (Zt T_Place.enc p1.Mine.Places), .sl q2 w2 0 m2, .sl q3 w3 0 m3, .sl q4 w4 0 m4]], w1⟩), (q2, ⟨46, 10, Zt T_Road.enc s4.2.2, w2⟩), (q3, ⟨72, 4, Zt T_Fan.enc p1.Fans, w3⟩), (q4, ⟨99, 3, Zt T_Door.enc p1.Doors, w4⟩)]) hB rfl 0 rfl (Yi hn ⟨Vn ⟨.vs _ _, .int _ _, trivial⟩, trivial⟩) rfl Xj) rfl) rfl ?_
      refine Va (Zm rfl rfl rfl) rfl ?_
      refine Va (Vk rfl) rfl ?_
      refine Va (Xb rfl) rfl ?_
      refine Vi (Xc (ps := [(q0, ⟨88, 2, [.agg [.vs 1 (Zt (Zu .u8) x47.1.l), .int .i64 x47.1.at_]], w0⟩)]) (r := .int .i64 x47.2) (os := []) (low1 := (setL low0 [(q0, ⟨88, 2, [.agg [.vs 1 (Zt (Zu .u8) x47.1.l), .int .i64 x47.1.at_]], w0⟩), (q1, ⟨31, 4, [.agg [.vs 2 (Zt T_Place.enc p1.Mine.Places), .sl q2 w2 0 m2, .sl q3 w3 0 m3, .sl q4 w4 0 m4]], w1⟩), (q2, ⟨46, 10, Zt T_Road.enc s4.2.2, w2⟩), (q3, ⟨72, 4, Zt T_Fan.enc p1.Fans, w3⟩), (q4, ⟨99, 3, Zt T_Door.enc p1.Doors, w4⟩)])) (loc1 := [⟨62, 2, [.agg [.vs 1 (Zt (Zu .i64) p2.Fans), .vs 1 (Zt (Zu .i64) p2.Doors)]], 0⟩, ⟨64, 2, [.agg [.vs 1 (Zt (Zu .i64) p3.Pressures), .vs 1 (Zt (Zu .i64) p3.Flows)]], 0⟩]) (loc2 := [⟨62, 2, [.agg [.vs 1 (Zt (Zu .i64) p2.Fans), .vs 1 (Zt (Zu .i64) p2.Doors)]], 0⟩, ⟨64, 2, [.agg [.vs 1 (Zt (Zu .i64) p3.Pressures), .vs 1 (Zt (Zu .i64) p3.Flows)]], 0⟩]) rfl Try.call27 (F_draw_Codes_Next_ok h48 (nd1 na0 nd0) (Zb hB rfl 0 rfl) (Xq (Vo hn) rfl)) (Yn (ps0' := [(q0, ⟨88, 2, [.agg [.vs 1 (Zt (Zu .u8) x47.1.l), .int .i64 x47.1.at_]], w0⟩), (q1, ⟨31, 4, [.agg [.vs 2 (Zt T_Place.enc p1.Mine.Places), .sl q2 w2 0 m2, .sl q3 w3 0 m3, .sl q4 w4 0 m4]], w1⟩), (q2, ⟨46, 10, Zt T_Road.enc s4.2.2, w2⟩), (q3, ⟨72, 4, Zt T_Fan.enc p1.Fans, w3⟩), (q4, ⟨99, 3, Zt T_Door.enc p1.Doors, w4⟩)]) hB rfl 0 rfl (Yi hn ⟨Vn ⟨.vs _ _, .int _ _, trivial⟩, trivial⟩) rfl Xj) rfl) rfl ?_
      refine Va (Yv rfl rfl rfl) rfl ?_
      refine Va (Xy (vs := [(0, .int .i64 (IntKind.i64.wrap (o33 - x45.2))), (1, .int .i64 (IntKind.i64.wrap (o33 + x47.2)))]) (ds := [.int .i64 (IntKind.i64.wrap (o33 - x45.2)), .int .i64 (IntKind.i64.wrap (o33 + x47.2))]) tz_44 rfl rfl tp_44 ⟨rfl, rfl, rfl, rfl, trivial⟩ (Yd rfl) rfl) rfl ?_
      refine Va (Yj rfl) rfl ?_
      refine Va (Vb rfl tf_46_7 ts_44 (by decide)) rfl ?_
      refine Vi (vef_stL (p := .agg [.int .i64 (IntKind.i64.wrap (o33 - x45.2)), .int .i64 (IntKind.i64.wrap (o33 + x47.2))]) (e' := (T_Road.mk x49.From x49.To x49.Length x49.Area x49.Walk x49.Closed x49.Rest (T_Span.mk (IntKind.i64.wrap (o33 - x45.2)) (IntKind.i64.wrap (o33 + x47.2))))) rfl (Yz hB rfl 2 rfl) h50 rfl ts_44 rfl (Yc rfl) (Zx rfl) rfl (setO_B hB rfl 2 rfl (Vq T_Road.enc_lt) rfl)) rfl ?_
      refine Ve ?_
      refine Vc ?_
      refine Va (Vk rfl) rfl ?_
      refine Va (Yv rfl rfl rfl) rfl ?_
      refine Va (Xo rfl) rfl ?_
      refine Ve ?_
      obtain rfl := Zw hF
      refine And.intro rfl (And.intro (Eq.trans hls4_0 List.length_set.symm) ?_)
      exact Vp ⟨rfl, rfl, rfl, rfl, rfl, trivial⟩
   ·have hF := Yt c6 hF
    refine Yu ?_
    obtain rfl := Zw hF
    refine And.intro rfl (And.intro hls4_0 ?_)
    exact Vm (Vo hn) [] (by decide) trivial trivial
  ·rintro _ _ _ _ ⟨rfl, hl51, hw⟩
   refine ⟨_, _, _, hw, ?_⟩
   obtain rfl := Zw hF
   refine And.intro (.inl rfl) (And.intro hl51 (And.intro hm3 (And.intro hm4 ?_)))
   exact Vp trivial
 ·rintro _ _ _ _ ⟨he, hl1, hl2, hl3, hw⟩
  refine ⟨_, _, _, hw, ?_⟩
  exact Yy he [] trivial ((lt_tup trivial)) ⟨rfl, (List.append_nil _).symm⟩

theorem F_draw_Codes_fit_len {p0 : T_draw_Codes} {p1 : T_Air} {p2 : T_Setting} {p3 : T_State} {r : T_draw_Codes × T_Air} (hF : F_draw_Codes_fit p0 p1 p2 p3 = some r) {m2 : Nat} (hm2 : m2 = (p1.Mine.Roads).length) {m3 : Nat} (hm3 : m3 = (p1.Fans).length) {m4 : Nat} (hm4 : m4 = (p1.Doors).length) : m2 = (r.2.Mine.Roads).length ∧ m3 = (r.2.Fans).length ∧ m4 = (r.2.Doors).length ∧ True := by
  have h : LP (F_draw_Codes_fit p0 p1 p2 p3) (fun r => m2 = (r.2.Mine.Roads).length ∧ m3 = (r.2.Fans).length ∧ m4 = (r.2.Doors).length ∧ True) := by
    unfold F_draw_Codes_fit
    exact (lp_bind (Q := fun o5 => m2 = (o5.2).length ∧ True) (lp_loop (fun s4 => m2 = (s4.2.2).length ∧ True) ⟨hm2, trivial⟩ (fun s4 ⟨hls4_0, _⟩ => by unfold F_draw_Codes_fit_L1; exact (lp_bif (fun c6 => Ze fun x7 h8 => Ze fun x9 h10 => Ze fun x11 h12 => lp_bind (Q := fun o14 => True) (lp_loop (fun s13 => True) trivial (fun s13 _ => by unfold F_draw_Codes_fit_L2; exact (lp_bif (fun c15 => lp_bind (Q := fun o16 => True) (Ze fun x17 h18 => lp_bif (fun c19 => Ze fun x20 h21 => Ze fun x22 h23 => Ze fun x24 h25 => lp_some trivial) (fun c19 => lp_some trivial)) (fun o16 _ => lp_some trivial)) (fun c15 => lp_some trivial)))) (fun o14 _ => Ze fun x26 h27 => Ze fun x28 h29 => Ze fun x30 h31 => lp_bind (Q := fun o33 => True) (lp_loop (fun s32 => True) trivial (fun s32 _ => by unfold F_draw_Codes_fit_L3; exact (lp_bif (fun c34 => lp_bind (Q := fun o35 => True) (Ze fun x36 h37 => lp_bif (fun c38 => Ze fun x39 h40 => Ze fun x41 h42 => Ze fun x43 h44 => lp_some trivial) (fun c38 => lp_some trivial)) (fun o35 _ => lp_some trivial)) (fun c34 => lp_some trivial)))) (fun o33 _ => Ze fun x45 h46 => Ze fun x47 h48 => Ze fun x49 h50 => lp_some ⟨(Eq.trans hls4_0 List.length_set.symm), trivial⟩))) (fun c6 => lp_some ⟨hls4_0, trivial⟩)))) (fun o5 ⟨hl51, _⟩ => lp_some ⟨hl51, hm3, hm4, trivial⟩))
  exact h r hF

theorem F_draw_Codes_fit_ok {p0 : T_draw_Codes} {p1 : T_Air} {p2 : T_Setting} {p3 : T_State} {r : T_draw_Codes × T_Air} (hF : F_draw_Codes_fit p0 p1 p2 p3 = some r) {low : List AObj} {q0 q1 q2 q3 q4 w0 w1 w2 w3 w4 : Nat} (hnd : [q0, q1, q2, q3, q4].Nodup) {m2 : Nat} (hm2 : m2 = (p1.Mine.Roads).length) {m3 : Nat} (hm3 : m3 = (p1.Fans).length) {m4 : Nat} (hm4 : m4 = (p1.Doors).length) (hq0 : low[q0]? = some ⟨88, 2, [.agg [.vs 1 (Zt (Zu .u8) p0.l), .int .i64 p0.at_]], w0⟩) (hq1 : low[q1]? = some ⟨31, 4, [.agg [.vs 2 (Zt T_Place.enc p1.Mine.Places), .sl q2 w2 0 m2, .sl q3 w3 0 m3, .sl q4 w4 0 m4]], w1⟩) (hq2 : low[q2]? = some ⟨46, 10, Zt T_Road.enc p1.Mine.Roads, w2⟩) (hq3 : low[q3]? = some ⟨72, 4, Zt T_Fan.enc p1.Fans, w3⟩) (hq4 : low[q4]? = some ⟨99, 3, Zt T_Door.enc p1.Doors, w4⟩) {n : Nat} (hn : low.length = n) :
    Zf Try.prog 39 [.ptr q0 w0 0 0, .ptr q1 w1 0 0, .agg [.vs 1 (Zt (Zu .i64) p2.Fans), .vs 1 (Zt (Zu .i64) p2.Doors)], .agg [.vs 1 (Zt (Zu .i64) p3.Pressures), .vs 1 (Zt (Zu .i64) p3.Flows)]] low fun x low' => x = .tup [] ∧ low' = setL low [(q0, ⟨88, 2, [.agg [.vs 1 (Zt (Zu .u8) r.1.l), .int .i64 r.1.at_]], w0⟩), (q1, ⟨31, 4, [.agg [.vs 2 (Zt T_Place.enc r.2.Mine.Places), .sl q2 w2 0 m2, .sl q3 w3 0 m3, .sl q4 w4 0 m4]], w1⟩), (q2, ⟨46, 10, Zt T_Road.enc r.2.Mine.Roads, w2⟩), (q3, ⟨72, 4, Zt T_Fan.enc r.2.Fans, w3⟩), (q4, ⟨99, 3, Zt T_Door.enc r.2.Doors, w4⟩)] ++ [] := by
  obtain ⟨h1, h2⟩ := bor_start (ps := [(q0, ⟨88, 2, [.agg [.vs 1 (Zt (Zu .u8) p0.l), .int .i64 p0.at_]], w0⟩), (q1, ⟨31, 4, [.agg [.vs 2 (Zt T_Place.enc p1.Mine.Places), .sl q2 w2 0 m2, .sl q3 w3 0 m3, .sl q4 w4 0 m4]], w1⟩), (q2, ⟨46, 10, Zt T_Road.enc p1.Mine.Roads, w2⟩), (q3, ⟨72, 4, Zt T_Fan.enc p1.Fans, w3⟩), (q4, ⟨99, 3, Zt T_Door.enc p1.Doors, w4⟩)]) hnd (borC hq0 (borC hq1 (borC hq2 (borC hq3 (borC hq4 bor0)))))
  exact vcalls_low h1 (F_draw_Codes_fit_ok0 hF h2 hm2 hm3 hm4 hn)

theorem F_draw_Codes_doubts_ok0 {p0 : T_draw_Codes} {p1 : T_Air} {p2 : T_Setting} {r : T_draw_Codes × T_Setting} (hF : F_draw_Codes_doubts p0 p1 p2 = some r) {low0 : List AObj} {q0 w0 : Nat} (hB : Bor low0 [q0]) {n : Nat} (hn : low0.length = n) :
    Zf Try.prog 40 [.ptr q0 w0 0 0, .agg [.vs 2 (Zt T_Place.enc p1.Mine.Places), .vs 10 (Zt T_Road.enc p1.Mine.Roads), .vs 4 (Zt T_Fan.enc p1.Fans), .vs 3 (Zt T_Door.enc p1.Doors)], .agg [.vs 1 (Zt (Zu .i64) p2.Fans), .vs 1 (Zt (Zu .i64) p2.Doors)]] (setL low0 [(q0, ⟨88, 2, [.agg [.vs 1 (Zt (Zu .u8) p0.l), .int .i64 p0.at_]], w0⟩)]) fun x low' => x = .agg [.sl (n + 0) 0 0 (r.2.Fans).length, .sl (n + 1) 0 0 (r.2.Doors).length] ∧ low' = setL low0 [(q0, ⟨88, 2, [.agg [.vs 1 (Zt (Zu .u8) r.1.l), .int .i64 r.1.at_]], w0⟩)] ++ [⟨3, 1, Zt (Zu .i64) r.2.Fans, 0⟩, ⟨3, 1, Zt (Zu .i64) r.2.Doors, 0⟩] := by
 refine Xk (nt := 53) (rs := [.cell 6 62]) Try.func40 rfl rfl (Zx rfl) rfl ?_
 have hq0 : q0 < n := hB.ltN hn 0 rfl
 refine Vr (Q' := FnE (fun E' lw lc => Xt E' lw lc [(6, .ptr (n + 2) 0 0 0)] (setL low0 [(q0, ⟨88, 2, [.agg [.vs 1 (Zt (Zu .u8) r.1.l), .int .i64 r.1.at_]], w0⟩)]) [⟨3, 1, Zt (Zu .i64) r.2.Fans, 0⟩, ⟨3, 1, Zt (Zu .i64) r.2.Doors, 0⟩, ⟨62, 2, [.agg [.sl (n + 0) 0 0 (r.2.Fans).length, .sl (n + 1) 0 0 (r.2.Doors).length]], 0⟩])) ?_ ?_
 ·unfold F_draw_Codes_doubts at hF
  refine Vf ?_
  refine Vc ?_
  refine Vi (Zr (Vo hn) rfl (v := .agg [.vs 2 (Zt T_Place.enc p1.Mine.Places), .vs 10 (Zt T_Road.enc p1.Mine.Roads), .vs 4 (Zt T_Fan.enc p1.Fans), .vs 3 (Zt T_Door.enc p1.Doors)]) rfl rfl (Zy _) rfl rfl) rfl ?_
  refine Vi (Zr (Vo hn) rfl (v := .agg [.vs 1 (Zt (Zu .i64) p2.Fans), .vs 1 (Zt (Zu .i64) p2.Doors)]) rfl rfl (Zy _) rfl rfl) rfl ?_
  refine Vi (Xh (Vo hn) rfl tz_62 rfl rfl (Zy _) rfl) rfl ?_
  refine Ve ?_
  refine Vf ?_
  refine Vc ?_
  refine Vi (Xh (Vo hn) rfl tz_62 rfl rfl (Zy _) rfl) rfl ?_
  refine Ve ?_
  refine Vf ?_
  refine Vf ?_
  refine Vc ?_
  refine Va (Xo rfl) rfl ?_
  refine Ve ?_
  refine Xa ?_
  obtain ⟨o2, ho2, hF⟩ := Yb hF
  refine Vr (Yp (F_draw_Codes_doubts_L1 p2) (fun s1 E' lw lc => Xt E' lw lc [(0, .ptr q0 w0 0 0), (5, .ptr (n + 0) 0 0 0), (6, .ptr (n + 1) 0 0 0), (7, .ptr (n + 2) 0 0 0), (8, .int .i64 s1.1)] (setL low0 [(q0, ⟨88, 2, [.agg [.vs 1 (Zt (Zu .u8) s1.2.2.l), .int .i64 s1.2.2.at_]], w0⟩)]) [⟨62, 2, [.agg [.vs 1 (Zt (Zu .i64) p2.Fans), .vs 1 (Zt (Zu .i64) p2.Doors)]], 0⟩, ⟨62, 2, [.agg [.nils, .nils]], 0⟩, ⟨62, 2, [.agg [.sl (n + 3) 0 0 (s1.2.1).length, .nils]], 0⟩, ⟨3, 1, Zt (Zu .i64) s1.2.1, 0⟩]) (fun o2 => OnlyE (.exit 0) (fun E' lw lc => Xt E' lw lc [(0, .ptr q0 w0 0 0), (5, .ptr (n + 0) 0 0 0), (6, .ptr (n + 1) 0 0 0), (7, .ptr (n + 2) 0 0 0)] (setL low0 [(q0, ⟨88, 2, [.agg [.vs 1 (Zt (Zu .u8) o2.2.l), .int .i64 o2.2.at_]], w0⟩)]) [⟨62, 2, [.agg [.vs 1 (Zt (Zu .i64) p2.Fans), .vs 1 (Zt (Zu .i64) p2.Doors)]], 0⟩, ⟨62, 2, [.agg [.nils, .nils]], 0⟩, ⟨62, 2, [.agg [.sl (n + 3) 0 0 (o2.1).length, .nils]], 0⟩, ⟨3, 1, Zt (Zu .i64) o2.1, 0⟩])) ho2 ?_ (by rintro _ _ _ _ ⟨h, _⟩ <;> cases h) ?_) ?_
  ·refine Weak.trans (weak_nil (E' := [(0, .ptr q0 w0 0 0), (5, .ptr (n + 1) 0 0 0), (6, .ptr (n + 2) 0 0 0), (7, .ptr (n + 3) 0 0 0), (8, .int .i64 0)]) (loc1 := [⟨31, 4, [.agg [.vs 2 (Zt T_Place.enc p1.Mine.Places), .vs 10 (Zt T_Road.enc p1.Mine.Roads), .vs 4 (Zt T_Fan.enc p1.Fans), .vs 3 (Zt T_Door.enc p1.Doors)]], 0⟩, ⟨62, 2, [.agg [.vs 1 (Zt (Zu .i64) p2.Fans), .vs 1 (Zt (Zu .i64) p2.Doors)]], 0⟩, ⟨62, 2, [.agg [.nils, .nils]], 0⟩, ⟨62, 2, [.agg [.sl (n + 4) 0 0 (([] : List Int)).length, .nils]], 0⟩]) (Vo hn) rfl 3 1 (Zy _) ⟨Vy rfl, Vy rfl, Vy rfl, Vy rfl, Vy rfl, trivial⟩ ⟨.same _, .same _, .same _, .agg _ _ _ _ _ ⟨nn_nil rfl, Vy rfl, trivial⟩, trivial⟩) ?_
   exact Vm (Vo hn) [(1, 0), (2, 0), (3, 0), (4, 0)] (by decide) ⟨Vh rfl (.ptr _ _ _ _ hq0), Vs 0 1 rfl rfl, Vs 1 2 rfl rfl, Vs 2 3 rfl rfl, Vh rfl (.int _ _), trivial⟩ ⟨⟨_, rfl, rfl, .same _ _ _ _ (Vl ⟨Vn ⟨.vs _ _, .vs _ _, trivial⟩, trivial⟩)⟩, ⟨_, rfl, rfl, .same _ _ _ _ (Vl ⟨Vn ⟨.nils, .nils, trivial⟩, trivial⟩)⟩, ⟨_, rfl, rfl, .agg _ _ _ _ _ ⟨Xu 3 4 rfl rfl, Vh rfl (.nils), trivial⟩⟩, ⟨_, rfl, rfl, .same _ _ _ _ (Vl trivial)⟩, trivial⟩
  ·rintro s1 os1 _ _ _ hF hw
   unfold F_draw_Codes_doubts_L1 at hF
   refine Yg hw ?_
   refine Vf ?_
   refine Vf ?_
   refine Vc ?_
   refine Va (Vk rfl) rfl ?_
   refine Va (Vb rfl tf_62_0 ts_32 (by decide)) rfl ?_
   refine Va (Vj rfl (Vg (Vo hn) rfl) rfl ta_32 rfl) rfl ?_
   refine Va (Xl (Yl rfl rfl te_32) (congrArg (fun n : Nat => Zu .i64 (n : Int)) (Wa _))) rfl ?_
   refine Va (Zc rfl rfl) rfl ?_
   refine Ve ?_
   refine Xd rfl (fun c3 => ?_) (fun c3 => ?_)
   ·have hF := Ys c3 hF
    refine Xf ?_
    refine Vf ?_
    refine Xa ?_
    refine Vf ?_
    refine Vc ?_
    obtain ⟨x4, h5, hF⟩ := Yb hF
    refine Va (Vb rfl tf_62_0 ts_32 (by decide)) rfl ?_
    refine Va (Vj rfl (Vg (Vo hn) rfl) rfl ta_32 rfl) rfl ?_
    refine Va (Vk rfl) rfl ?_
    refine Va (Xl (Xw rfl rfl h5 te_32 ts_3) (v' := .vptr [.int .i64 x4] 0) rfl) rfl ?_
    refine Va (Xp rfl ta_3 rfl) rfl ?_
    refine Va (Xo rfl) rfl ?_
    refine Ve ?_
    refine Vf ?_
    refine Vf ?_
    refine Vc ?_
    obtain ⟨x6, h7, hF⟩ := Yb hF
    refine Va (Xb rfl) rfl ?_
    refine Vi (Xc (ps := [(q0, ⟨88, 2, [.agg [.vs 1 (Zt (Zu .u8) x6.1.l), .int .i64 x6.1.at_]], w0⟩)]) (r := .bool x6.2) (os := []) (low1 := (setL low0 [(q0, ⟨88, 2, [.agg [.vs 1 (Zt (Zu .u8) x6.1.l), .int .i64 x6.1.at_]], w0⟩)])) (loc1 := [⟨62, 2, [.agg [.vs 1 (Zt (Zu .i64) p2.Fans), .vs 1 (Zt (Zu .i64) p2.Doors)]], 0⟩, ⟨62, 2, [.agg [.nils, .nils]], 0⟩, ⟨62, 2, [.agg [.sl (n + 3) 0 0 (s1.2.1).length, .nils]], 0⟩, ⟨3, 1, Zt (Zu .i64) s1.2.1, 0⟩]) (loc2 := [⟨62, 2, [.agg [.vs 1 (Zt (Zu .i64) p2.Fans), .vs 1 (Zt (Zu .i64) p2.Doors)]], 0⟩, ⟨62, 2, [.agg [.nils, .nils]], 0⟩, ⟨62, 2, [.agg [.sl (n + 3) 0 0 (s1.2.1).length, .nils]], 0⟩, ⟨3, 1, Zt (Zu .i64) s1.2.1, 0⟩]) rfl Try.call25 (F_draw_Codes_One_ok h7 (nd1 na0 nd0) (Zb hB rfl 0 rfl) (Xq (Vo hn) rfl)) (Yn (ps0' := [(q0, ⟨88, 2, [.agg [.vs 1 (Zt (Zu .u8) x6.1.l), .int .i64 x6.1.at_]], w0⟩)]) hB rfl 0 rfl (Yi hn ⟨Vn ⟨.vs _ _, .int _ _, trivial⟩, trivial⟩) rfl Xj) rfl) rfl ?_
    refine Ve ?_
    obtain ⟨o8, ho8, hF⟩ := Yb hF
    refine Vr (Q' := (fun o8 => OnlyE .normal (fun E' lw lc => Xt E' lw lc [(0, .ptr q0 w0 0 0), (5, .ptr (n + 0) 0 0 0), (6, .ptr (n + 1) 0 0 0), (7, .ptr (n + 2) 0 0 0), (8, .int .i64 s1.1), (9, .int .i64 o8)] (setL low0 [(q0, ⟨88, 2, [.agg [.vs 1 (Zt (Zu .u8) x6.1.l), .int .i64 x6.1.at_]], w0⟩)]) [⟨62, 2, [.agg [.vs 1 (Zt (Zu .i64) p2.Fans), .vs 1 (Zt (Zu .i64) p2.Doors)]], 0⟩, ⟨62, 2, [.agg [.nils, .nils]], 0⟩, ⟨62, 2, [.agg [.sl (n + 3) 0 0 (s1.2.1).length, .nils]], 0⟩, ⟨3, 1, Zt (Zu .i64) s1.2.1, 0⟩])) o8) ?_ ?_
    ·replace hF := ho8
     refine Xd rfl (fun c9 => ?_) (fun c9 => ?_)
     ·have hF := Ys c9 hF
      refine Vc ?_
      refine Va (Xo rfl) rfl ?_
      refine Ve ?_
      obtain rfl := Zw hF
      refine Vz ?_
      exact Vp ⟨rfl, rfl, rfl, rfl, rfl, rfl, trivial⟩
     ·have hF := Yt c9 hF
      refine Xf ?_
      obtain rfl := Zw hF
      refine Vz ?_
      exact Vp ⟨rfl, rfl, rfl, rfl, rfl, rfl, trivial⟩
    ·rintro _ _ _ _ ⟨rfl, hw⟩
     refine ⟨_, _, _, hw, ?_⟩
     refine Vc ?_
     obtain ⟨x10, h11, hF⟩ := Yb hF
     refine Va (Vb rfl tf_62_0 ts_32 (by decide)) rfl ?_
     refine Va (Vj rfl (Vg (Vo hn) rfl) rfl ta_32 rfl) rfl ?_
     refine Va (Vk rfl) rfl ?_
     refine Vi (Ym (es := Zt (Zu .i64) [o8]) ⟨rfl, rfl, trivial⟩ rfl rfl (Zg rfl) te_32 ts_3 tz_3 rfl rfl (Zy _) (by decide) (Yh (fun _ => .int _ _))) rfl ?_
     refine Vi (Zq (f := (Zu .i64)) (l := s1.2.1) (ys := [o8]) rfl rfl (Vg (Vo hn) rfl) rfl (src_vs rfl) te_32 ts_3 tb_3 (by decide) tz_3 rfl h11 (Xg (Vo hn) rfl)) rfl ?_
     refine Va (Vb rfl tf_62_0 ts_32 (by decide)) rfl ?_
     refine Vi (Vv (p := .sl (n + 3) (0 + 1) 0 (x10).length) (e' := .agg [.sl (n + 3) (0 + 1) 0 (x10).length, .nils]) rfl (Vg (Vo hn) rfl) rfl rfl ts_32 rfl (Yc rfl) rfl (Zx rfl) rfl (Xg (Vo hn) rfl)) rfl ?_
     refine Ve ?_
     refine Vc ?_
     refine Va (Vk rfl) rfl ?_
     refine Va (Yv rfl rfl rfl) rfl ?_
     refine Va (Xo rfl) rfl ?_
     refine Ve ?_
     obtain rfl := Zw hF
     refine Vz ?_
     exact Vm (Vo hn) [(0, 0), (1, 0), (2, 0), (3, 0 + 1)] (by decide) ⟨Vh rfl (.ptr _ _ _ _ hq0), Vs 0 0 rfl rfl, Vs 1 1 rfl rfl, Vs 2 2 rfl rfl, Vh rfl (.int _ _), trivial⟩ ⟨⟨_, rfl, rfl, .same _ _ _ _ (Vl ⟨Vn ⟨.vs _ _, .vs _ _, trivial⟩, trivial⟩)⟩, ⟨_, rfl, rfl, .same _ _ _ _ (Vl ⟨Vn ⟨.nils, .nils, trivial⟩, trivial⟩)⟩, ⟨_, rfl, rfl, .agg _ _ _ _ _ ⟨Xu 3 3 rfl rfl, Vh rfl (.nils), trivial⟩⟩, ⟨_, rfl, rfl, .same _ _ _ _ (Vq (fun _ => .int _ _))⟩, trivial⟩
   ·have hF := Yt c3 hF
    refine Yu ?_
    obtain rfl := Zw hF
    refine Vz ?_
    exact Vp ⟨rfl, rfl, rfl, rfl, trivial⟩
  ·rintro _ _ _ _ ⟨rfl, hw⟩
   refine ⟨_, _, _, hw, ?_⟩
   refine Vf ?_
   refine Vf ?_
   refine Vc ?_
   refine Va (Xo rfl) rfl ?_
   refine Ve ?_
   refine Xa ?_
   obtain ⟨o13, ho13, hF⟩ := Yb hF
   refine Vr (Yp (F_draw_Codes_doubts_L2 p2) (fun s12 E' lw lc => Xt E' lw lc [(0, .ptr q0 w0 0 0), (5, .ptr (n + 0) 0 0 0), (6, .ptr (n + 1) 0 0 0), (7, .ptr (n + 2) 0 0 0), (10, .int .i64 s12.1)] (setL low0 [(q0, ⟨88, 2, [.agg [.vs 1 (Zt (Zu .u8) s12.2.2.l), .int .i64 s12.2.2.at_]], w0⟩)]) [⟨62, 2, [.agg [.vs 1 (Zt (Zu .i64) p2.Fans), .vs 1 (Zt (Zu .i64) p2.Doors)]], 0⟩, ⟨62, 2, [.agg [.nils, .nils]], 0⟩, ⟨62, 2, [.agg [.sl (n + 3) 0 0 (s12.2.1.Fans).length, .sl (n + 4) 0 0 (s12.2.1.Doors).length]], 0⟩, ⟨3, 1, Zt (Zu .i64) s12.2.1.Fans, 0⟩, ⟨3, 1, Zt (Zu .i64) s12.2.1.Doors, 0⟩]) (fun o13 => OnlyE (.exit 2) (fun E' lw lc => Xt E' lw lc [(6, .ptr (n + 0) 0 0 0), (7, .ptr (n + 1) 0 0 0)] (setL low0 [(q0, ⟨88, 2, [.agg [.vs 1 (Zt (Zu .u8) o13.2.l), .int .i64 o13.2.at_]], w0⟩)]) [⟨62, 2, [.agg [.nils, .nils]], 0⟩, ⟨62, 2, [.agg [.sl (n + 2) 0 0 (o13.1.Fans).length, .sl (n + 3) 0 0 (o13.1.Doors).length]], 0⟩, ⟨3, 1, Zt (Zu .i64) o13.1.Fans, 0⟩, ⟨3, 1, Zt (Zu .i64) o13.1.Doors, 0⟩])) ho13 ?_ (by rintro _ _ _ _ ⟨h, _⟩ <;> cases h) ?_) ?_
   ·refine Weak.trans (weak_nil (E' := [(0, .ptr q0 w0 0 0), (5, .ptr (n + 0) 0 0 0), (6, .ptr (n + 1) 0 0 0), (7, .ptr (n + 2) 0 0 0), (10, .int .i64 0)]) (loc1 := [⟨62, 2, [.agg [.vs 1 (Zt (Zu .i64) p2.Fans), .vs 1 (Zt (Zu .i64) p2.Doors)]], 0⟩, ⟨62, 2, [.agg [.nils, .nils]], 0⟩, ⟨62, 2, [.agg [.sl (n + 3) 0 0 (o2.1).length, .sl (n + 4) 0 0 (([] : List Int)).length]], 0⟩, ⟨3, 1, Zt (Zu .i64) o2.1, 0⟩]) (Vo hn) rfl 3 1 (Zy _) ⟨Vy rfl, Vy rfl, Vy rfl, Vy rfl, Vy rfl, trivial⟩ ⟨.same _, .same _, .agg _ _ _ _ _ ⟨Vy rfl, nn_nil rfl, trivial⟩, .same _, trivial⟩) ?_
    exact Vp ⟨rfl, rfl, rfl, rfl, rfl, trivial⟩
   ·rintro s12 os12 _ _ _ hF hw
    unfold F_draw_Codes_doubts_L2 at hF
    refine Yg hw ?_
    refine Vf ?_
    refine Vf ?_
    refine Vc ?_
    refine Va (Vk rfl) rfl ?_
    refine Va (Vb rfl tf_62_1 ts_32 (by decide)) rfl ?_
    refine Va (Vj rfl (Vg (Vo hn) rfl) rfl ta_32 rfl) rfl ?_
    refine Va (Xl (Yl rfl rfl te_32) (congrArg (fun n : Nat => Zu .i64 (n : Int)) (Wa _))) rfl ?_
    refine Va (Zc rfl rfl) rfl ?_
    refine Ve ?_
    refine Xd rfl (fun c14 => ?_) (fun c14 => ?_)
    ·have hF := Ys c14 hF
     refine Xf ?_
     refine Vf ?_
     refine Xa ?_
     refine Vf ?_
     refine Vc ?_
     obtain ⟨x15, h16, hF⟩ := Yb hF
     refine Va (Vb rfl tf_62_1 ts_32 (by decide)) rfl ?_
     refine Va (Vj rfl (Vg (Vo hn) rfl) rfl ta_32 rfl) rfl ?_
     refine Va (Vk rfl) rfl ?_
     refine Va (Xl (Xw rfl rfl h16 te_32 ts_3) (v' := .vptr [.int .i64 x15] 0) rfl) rfl ?_
     refine Va (Xp rfl ta_3 rfl) rfl ?_
     refine Va (Xo rfl) rfl ?_
     refine Ve ?_
     refine Vf ?_
     refine Vf ?_
     refine Vc ?_
     obtain ⟨x17, h18, hF⟩ := Yb hF
     refine Va (Xb rfl) rfl ?_
     refine Vi (Xc (ps := [(q0, ⟨88, 2, [.agg [.vs 1 (Zt (Zu .u8) x17.1.l), .int .i64 x17.1.at_]], w0⟩)]) (r := .bool x17.2) (os := []) (low1 := (setL low0 [(q0, ⟨88, 2, [.agg [.vs 1 (Zt (Zu .u8) x17.1.l), .int .i64 x17.1.at_]], w0⟩)])) (loc1 := [⟨62, 2, [.agg [.vs 1 (Zt (Zu .i64) p2.Fans), .vs 1 (Zt (Zu .i64) p2.Doors)]], 0⟩, ⟨62, 2, [.agg [.nils, .nils]], 0⟩, ⟨62, 2, [.agg [.sl (n + 3) 0 0 (s12.2.1.Fans).length, .sl (n + 4) 0 0 (s12.2.1.Doors).length]], 0⟩, ⟨3, 1, Zt (Zu .i64) s12.2.1.Fans, 0⟩, ⟨3, 1, Zt (Zu .i64) s12.2.1.Doors, 0⟩]) (loc2 := [⟨62, 2, [.agg [.vs 1 (Zt (Zu .i64) p2.Fans), .vs 1 (Zt (Zu .i64) p2.Doors)]], 0⟩, ⟨62, 2, [.agg [.nils, .nils]], 0⟩, ⟨62, 2, [.agg [.sl (n + 3) 0 0 (s12.2.1.Fans).length, .sl (n + 4) 0 0 (s12.2.1.Doors).length]], 0⟩, ⟨3, 1, Zt (Zu .i64) s12.2.1.Fans, 0⟩, ⟨3, 1, Zt (Zu .i64) s12.2.1.Doors, 0⟩]) rfl Try.call25 (F_draw_Codes_One_ok h18 (nd1 na0 nd0) (Zb hB rfl 0 rfl) (Xq (Vo hn) rfl)) (Yn (ps0' := [(q0, ⟨88, 2, [.agg [.vs 1 (Zt (Zu .u8) x17.1.l), .int .i64 x17.1.at_]], w0⟩)]) hB rfl 0 rfl (Yi hn ⟨Vn ⟨.vs _ _, .int _ _, trivial⟩, trivial⟩) rfl Xj) rfl) rfl ?_
     refine Ve ?_
     obtain ⟨o19, ho19, hF⟩ := Yb hF
     refine Vr (Q' := (fun o19 => OnlyE .normal (fun E' lw lc => Xt E' lw lc [(0, .ptr q0 w0 0 0), (5, .ptr (n + 0) 0 0 0), (6, .ptr (n + 1) 0 0 0), (7, .ptr (n + 2) 0 0 0), (10, .int .i64 s12.1), (11, .int .i64 o19.1)] (setL low0 [(q0, ⟨88, 2, [.agg [.vs 1 (Zt (Zu .u8) x17.1.l), .int .i64 x17.1.at_]], w0⟩)]) [⟨62, 2, [.agg [.vs 1 (Zt (Zu .i64) p2.Fans), .vs 1 (Zt (Zu .i64) p2.Doors)]], 0⟩, ⟨62, 2, [.agg [.nils, .nils]], 0⟩, ⟨62, 2, [.agg [.sl (n + 3) 0 0 (o19.2.Fans).length, .sl (n + 4) 0 0 (o19.2.Doors).length]], 0⟩, ⟨3, 1, Zt (Zu .i64) o19.2.Fans, 0⟩, ⟨3, 1, Zt (Zu .i64) o19.2.Doors, 0⟩])) o19) ?_ ?_
     ·replace hF := ho19
      refine Xd rfl (fun c20 => ?_) (fun c20 => ?_)
      ·have hF := Ys c20 hF
       refine Vc ?_
       refine Va (Xo rfl) rfl ?_
       refine Ve ?_
       obtain rfl := Zw hF
       refine Vz ?_
       exact Vp ⟨rfl, rfl, rfl, rfl, rfl, rfl, trivial⟩
      ·have hF := Yt c20 hF
       refine Xf ?_
       obtain rfl := Zw hF
       refine Vz ?_
       exact Vp ⟨rfl, rfl, rfl, rfl, rfl, rfl, trivial⟩
     ·rintro _ _ _ _ ⟨rfl, hw⟩
      refine ⟨_, _, _, hw, ?_⟩
      refine Vc ?_
      obtain ⟨x21, h22, hF⟩ := Yb hF
      refine Va (Vb rfl tf_62_1 ts_32 (by decide)) rfl ?_
      refine Va (Vj rfl (Vg (Vo hn) rfl) rfl ta_32 rfl) rfl ?_
      refine Va (Vk rfl) rfl ?_
      refine Vi (Ym (es := Zt (Zu .i64) [o19.1]) ⟨rfl, rfl, trivial⟩ rfl rfl (Zg rfl) te_32 ts_3 tz_3 rfl rfl (Zy _) (by decide) (Yh (fun _ => .int _ _))) rfl ?_
      refine Vi (Zq (f := (Zu .i64)) (l := o19.2.Doors) (ys := [o19.1]) rfl rfl (Vg (Vo hn) rfl) rfl (src_vs rfl) te_32 ts_3 tb_3 (by decide) tz_3 rfl h22 (Xg (Vo hn) rfl)) rfl ?_
      refine Va (Vb rfl tf_62_1 ts_32 (by decide)) rfl ?_
      refine Vi (Vv (p := .sl (n + 4) (0 + 1) 0 (x21).length) (e' := .agg [.sl (n + 3) 0 0 (o19.2.Fans).length, .sl (n + 4) (0 + 1) 0 (x21).length]) rfl (Vg (Vo hn) rfl) rfl rfl ts_32 rfl (Yc rfl) rfl (Zx rfl) rfl (Xg (Vo hn) rfl)) rfl ?_
      refine Ve ?_
      refine Vc ?_
      refine Va (Vk rfl) rfl ?_
      refine Va (Yv rfl rfl rfl) rfl ?_
      refine Va (Xo rfl) rfl ?_
      refine Ve ?_
      obtain rfl := Zw hF
      refine Vz ?_
      exact Vm (Vo hn) [(0, 0), (1, 0), (2, 0), (3, 0), (4, 0 + 1)] (by decide) ⟨Vh rfl (.ptr _ _ _ _ hq0), Vs 0 0 rfl rfl, Vs 1 1 rfl rfl, Vs 2 2 rfl rfl, Vh rfl (.int _ _), trivial⟩ ⟨⟨_, rfl, rfl, .same _ _ _ _ (Vl ⟨Vn ⟨.vs _ _, .vs _ _, trivial⟩, trivial⟩)⟩, ⟨_, rfl, rfl, .same _ _ _ _ (Vl ⟨Vn ⟨.nils, .nils, trivial⟩, trivial⟩)⟩, ⟨_, rfl, rfl, .agg _ _ _ _ _ ⟨Xu 3 3 rfl rfl, Xu 4 4 rfl rfl, trivial⟩⟩, ⟨_, rfl, rfl, .same _ _ _ _ (Vq (fun _ => .int _ _))⟩, ⟨_, rfl, rfl, .same _ _ _ _ (Vq (fun _ => .int _ _))⟩, trivial⟩
    ·have hF := Yt c14 hF
     refine Yu ?_
     obtain rfl := Zw hF
     refine Vz ?_
     exact Vm (Vo hn) [(1, 0), (2, 0), (3, 0), (4, 0)] (by decide) ⟨Vs 0 1 rfl rfl, Vs 1 2 rfl rfl, trivial⟩ ⟨⟨_, rfl, rfl, .same _ _ _ _ (Vl ⟨Vn ⟨.nils, .nils, trivial⟩, trivial⟩)⟩, ⟨_, rfl, rfl, .agg _ _ _ _ _ ⟨Xu 2 3 rfl rfl, Xu 3 4 rfl rfl, trivial⟩⟩, ⟨_, rfl, rfl, .same _ _ _ _ (Vq (fun _ => .int _ _))⟩, ⟨_, rfl, rfl, .same _ _ _ _ (Vq (fun _ => .int _ _))⟩, trivial⟩
   ·rintro _ _ _ _ ⟨rfl, hw⟩
    refine ⟨_, _, _, hw, ?_⟩
    refine Vf ?_
    refine Vc ?_
    refine Va (Xe (ds := [.sl (n + 2) 0 0 (o13.1.Fans).length, .sl (n + 3) 0 0 (o13.1.Doors).length]) rfl (Vg (Vo hn) rfl) rfl ta_62 ts_62 rfl rfl rfl) rfl ?_
    refine Vi (Vv (p := .agg [.sl (n + 2) 0 0 (o13.1.Fans).length, .sl (n + 3) 0 0 (o13.1.Doors).length]) (e' := .agg [.sl (n + 2) 0 0 (o13.1.Fans).length, .sl (n + 3) 0 0 (o13.1.Doors).length]) rfl (Vg (Vo hn) rfl) rfl rfl ts_62 rfl (Yc rfl) rfl (Zx rfl) rfl (Xg (Vo hn) rfl)) rfl ?_
    refine Ve ?_
    refine Ya ?_
    obtain rfl := Zw hF
    refine fnR ?_
    exact Vm (Vo hn) [(2, 0), (3, 0), (0, 0)] (by decide) ⟨Vs 2 0 rfl rfl, trivial⟩ ⟨⟨_, rfl, rfl, .same _ _ _ _ (Vq (fun _ => .int _ _))⟩, ⟨_, rfl, rfl, .same _ _ _ _ (Vq (fun _ => .int _ _))⟩, ⟨_, rfl, rfl, .agg _ _ _ _ _ ⟨Xu 0 2 rfl rfl, Xu 1 3 rfl rfl, trivial⟩⟩, trivial⟩
 ·rintro _ _ _ _ ⟨he, hw⟩
  refine ⟨_, _, _, hw, ?_⟩
  exact bodyQ_some (Vo hn) 2 rfl (Zx rfl) he [.agg [.sl (n + 0) 0 0 (r.2.Fans).length, .sl (n + 1) 0 0 (r.2.Doors).length]] ⟨Xe rfl (Vg (Vo hn) rfl) rfl ta_62 ts_62 rfl rfl rfl, trivial⟩ ((Vn ⟨.sl _ _ _ _ (lt_kk rfl), .sl _ _ _ _ (lt_kk rfl), trivial⟩)) ⟨Vq (fun _ => .int _ _), Vq (fun _ => .int _ _), trivial⟩ ⟨rfl, rfl⟩

theorem F_draw_Codes_doubts_ok {p0 : T_draw_Codes} {p1 : T_Air} {p2 : T_Setting} {r : T_draw_Codes × T_Setting} (hF : F_draw_Codes_doubts p0 p1 p2 = some r) {low : List AObj} {q0 w0 : Nat} (hnd : [q0].Nodup) (hq0 : low[q0]? = some ⟨88, 2, [.agg [.vs 1 (Zt (Zu .u8) p0.l), .int .i64 p0.at_]], w0⟩) {n : Nat} (hn : low.length = n) :
    Zf Try.prog 40 [.ptr q0 w0 0 0, .agg [.vs 2 (Zt T_Place.enc p1.Mine.Places), .vs 10 (Zt T_Road.enc p1.Mine.Roads), .vs 4 (Zt T_Fan.enc p1.Fans), .vs 3 (Zt T_Door.enc p1.Doors)], .agg [.vs 1 (Zt (Zu .i64) p2.Fans), .vs 1 (Zt (Zu .i64) p2.Doors)]] low fun x low' => x = .agg [.sl (n + 0) 0 0 (r.2.Fans).length, .sl (n + 1) 0 0 (r.2.Doors).length] ∧ low' = setL low [(q0, ⟨88, 2, [.agg [.vs 1 (Zt (Zu .u8) r.1.l), .int .i64 r.1.at_]], w0⟩)] ++ [⟨3, 1, Zt (Zu .i64) r.2.Fans, 0⟩, ⟨3, 1, Zt (Zu .i64) r.2.Doors, 0⟩] := by
  obtain ⟨h1, h2⟩ := bor_start (ps := [(q0, ⟨88, 2, [.agg [.vs 1 (Zt (Zu .u8) p0.l), .int .i64 p0.at_]], w0⟩)]) hnd (borC hq0 bor0)
  exact vcalls_low h1 (F_draw_Codes_doubts_ok0 hF h2 hn)

theorem F_draw_Codes_Made_ok0 {p0 : T_draw_Codes} {r : T_draw_Codes × T_Air × T_Setting × T_State} (hF : F_draw_Codes_Made p0 = some r) {low0 : List AObj} {q0 w0 : Nat} (hB : Bor low0 [q0]) {n : Nat} (hn : low0.length = n) :
    Zf Try.prog 24 [.ptr q0 w0 0 0] (setL low0 [(q0, ⟨88, 2, [.agg [.vs 1 (Zt (Zu .u8) p0.l), .int .i64 p0.at_]], w0⟩)]) fun x low' => x = .tup [.agg [.vs 2 (Zt T_Place.enc r.2.1.Mine.Places), .vs 10 (Zt T_Road.enc r.2.1.Mine.Roads), .vs 4 (Zt T_Fan.enc r.2.1.Fans), .vs 3 (Zt T_Door.enc r.2.1.Doors)], .agg [.vs 1 (Zt (Zu .i64) r.2.2.1.Fans), .vs 1 (Zt (Zu .i64) r.2.2.1.Doors)], .agg [.vs 1 (Zt (Zu .i64) r.2.2.2.Pressures), .vs 1 (Zt (Zu .i64) r.2.2.2.Flows)]] ∧ low' = setL low0 [(q0, ⟨88, 2, [.agg [.vs 1 (Zt (Zu .u8) r.1.l), .int .i64 r.1.at_]], w0⟩)] ++ [] := by
 refine Xk (nt := 189) (rs := [.cell 2 31, .cell 3 62, .cell 4 64]) Try.func24 rfl rfl (Zx rfl) rfl ?_
 have hq0 : q0 < n := hB.ltN hn 0 rfl
 refine Vr (Q' := FnE (fun E' lw lc => Xt E' lw lc [(2, .ptr (n + 0) 0 0 0), (3, .ptr (n + 1) 0 0 0), (4, .ptr (n + 2) 0 0 0)] (setL low0 [(q0, ⟨88, 2, [.agg [.vs 1 (Zt (Zu .u8) r.1.l), .int .i64 r.1.at_]], w0⟩)]) [⟨31, 4, [.agg [.vs 2 (Zt T_Place.enc r.2.1.Mine.Places), .vs 10 (Zt T_Road.enc r.2.1.Mine.Roads), .vs 4 (Zt T_Fan.enc r.2.1.Fans), .vs 3 (Zt T_Door.enc r.2.1.Doors)]], 0⟩, ⟨62, 2, [.agg [.vs 1 (Zt (Zu .i64) r.2.2.1.Fans), .vs 1 (Zt (Zu .i64) r.2.2.1.Doors)]], 0⟩, ⟨64, 2, [.agg [.vs 1 (Zt (Zu .i64) r.2.2.2.Pressures), .vs 1 (Zt (Zu .i64) r.2.2.2.Flows)]], 0⟩])) ?_ ?_
 ·unfold F_draw_Codes_Made at hF
  refine Vf ?_
  refine Vc ?_
  refine Vi (Xh (Vo hn) rfl tz_31 rfl rfl (Zy _) rfl) rfl ?_
  refine Vi (Xh (Vo hn) rfl tz_62 rfl rfl (Zy _) rfl) rfl ?_
  refine Vi (Xh (Vo hn) rfl tz_64 rfl rfl (Zy _) rfl) rfl ?_
  refine Ve ?_
  refine Vf ?_
  refine Vc ?_
  refine Va (Xy (vs := [(1, .bool true)]) (ds := [.int .i64 0, .bool true]) tz_48 rfl rfl tp_48 ⟨rfl, rfl, trivial⟩ (Yd rfl) rfl) rfl ?_
  refine Vi (vef_litN (Vo hn) rfl (es := Zt T_Place.enc [(T_Place.mk 0 true)]) ⟨rfl, rfl, trivial⟩ rfl rfl (Zg rfl) te_24 ts_48 tz_48 rfl rfl (Zy _) (by decide)) rfl ?_
  refine Va (Xy (vs := [(0, .sl (n + 3) 0 0 ([(T_Place.mk 0 true)]).length)]) (ds := [.sl (n + 3) 0 0 ([(T_Place.mk 0 true)]).length, .nils]) tz_27 rfl rfl tp_27 ⟨rfl, rfl, trivial⟩ (Yd rfl) rfl) rfl ?_
  refine Va (Xy (vs := [(0, .agg [.sl (n + 3) 0 0 ([(T_Place.mk 0 true)]).length, .nils])]) (ds := [.sl (n + 3) 0 0 ([(T_Place.mk 0 true)]).length, .nils, .nils, .nils]) tz_31 rfl rfl tp_31 ⟨rfl, rfl, trivial⟩ (Yd rfl) rfl) rfl ?_
  refine Vi (Xh (Vo hn) rfl tz_31 rfl rfl (Zy _) rfl) rfl ?_
  refine Vi (Vv (p := .agg [.sl (n + 3) 0 0 ([(T_Place.mk 0 true)]).length, .nils, .nils, .nils]) (e' := .agg [.sl (n + 3) 0 0 ([(T_Place.mk 0 true)]).length, .nils, .nils, .nils]) rfl (Vg (Vo hn) rfl) rfl rfl ts_31 rfl (Yc rfl) rfl (Zx rfl) rfl (Xg (Vo hn) rfl)) rfl ?_
  refine Ve ?_
  refine Vf ?_
  refine Vf ?_
  refine Vc ?_
  obtain ⟨x1, h2, hF⟩ := Yb hF
  refine Va (Xb rfl) rfl ?_
  refine Vi (Xc (ps := [(q0, ⟨88, 2, [.agg [.vs 1 (Zt (Zu .u8) x1.1.l), .int .i64 x1.1.at_]], w0⟩)]) (r := .bool x1.2) (os := []) (low1 := (setL low0 [(q0, ⟨88, 2, [.agg [.vs 1 (Zt (Zu .u8) x1.1.l), .int .i64 x1.1.at_]], w0⟩)])) (loc1 := [⟨31, 4, [.agg [.nils, .nils, .nils, .nils]], 0⟩, ⟨62, 2, [.agg [.nils, .nils]], 0⟩, ⟨64, 2, [.agg [.nils, .nils]], 0⟩, ⟨48, 2, Zt T_Place.enc [(T_Place.mk 0 true)], 0⟩, ⟨31, 4, [.agg [.sl (n + 3) 0 0 ([(T_Place.mk 0 true)]).length, .nils, .nils, .nils]], 0⟩]) (loc2 := [⟨31, 4, [.agg [.nils, .nils, .nils, .nils]], 0⟩, ⟨62, 2, [.agg [.nils, .nils]], 0⟩, ⟨64, 2, [.agg [.nils, .nils]], 0⟩, ⟨48, 2, Zt T_Place.enc [(T_Place.mk 0 true)], 0⟩, ⟨31, 4, [.agg [.sl (n + 3) 0 0 ([(T_Place.mk 0 true)]).length, .nils, .nils, .nils]], 0⟩]) rfl Try.call25 (F_draw_Codes_One_ok h2 (nd1 na0 nd0) (Zb hB rfl 0 rfl) (Xq (Vo hn) rfl)) (Yn (ps0' := [(q0, ⟨88, 2, [.agg [.vs 1 (Zt (Zu .u8) x1.1.l), .int .i64 x1.1.at_]], w0⟩)]) hB rfl 0 rfl (Yi hn ⟨Vn ⟨.vs _ _, .int _ _, trivial⟩, trivial⟩) rfl Xj) rfl) rfl ?_
  refine Ve ?_
  obtain ⟨o3, ho3, hF⟩ := Yb hF
  refine Vr (Q' := (fun o3 => OnlyE .normal (fun E' lw lc => Xt E' lw lc [(0, .ptr q0 w0 0 0), (2, .ptr (n + 0) 0 0 0), (3, .ptr (n + 1) 0 0 0), (4, .ptr (n + 2) 0 0 0), (5, .ptr (n + 3) 0 0 0)] (setL low0 [(q0, ⟨88, 2, [.agg [.vs 1 (Zt (Zu .u8) x1.1.l), .int .i64 x1.1.at_]], w0⟩)]) [⟨31, 4, [.agg [.nils, .nils, .nils, .nils]], 0⟩, ⟨62, 2, [.agg [.nils, .nils]], 0⟩, ⟨64, 2, [.agg [.nils, .nils]], 0⟩, ⟨31, 4, [.agg [.sl (n + 4) 0 0 (o3).length, .nils, .nils, .nils]], 0⟩, ⟨48, 2, Zt T_Place.enc o3, 0⟩])) o3) ?_ ?_
  ·replace hF := ho3
   refine Xd rfl (fun c4 => ?_) (fun c4 => ?_)
   ·have hF := Ys c4 hF
    refine Vc ?_
    obtain ⟨x5, h6, hF⟩ := Yb hF
    refine Va (Vb rfl tf_31_0 ts_27 (by decide)) rfl ?_
    refine Va (Vb rfl tf_27_0 ts_24 (by decide)) rfl ?_
    refine Va (Vj rfl (Vg (Vo hn) rfl) rfl ta_24 rfl) rfl ?_
    refine Va (Xy (vs := [(1, .bool true), (0, .int .i64 10)]) (ds := [.int .i64 10, .bool true]) tz_48 rfl rfl tp_48 ⟨rfl, rfl, rfl, rfl, trivial⟩ (Yd rfl) rfl) rfl ?_
    refine Vi (Ym (es := Zt T_Place.enc [(T_Place.mk 10 true)]) ⟨rfl, rfl, trivial⟩ rfl rfl (Zg rfl) te_24 ts_48 tz_48 rfl rfl (Zy _) (by decide) (Yh T_Place.enc_lt)) rfl ?_
    refine Vi (Zq (f := T_Place.enc) (l := [(T_Place.mk 0 true)]) (ys := [(T_Place.mk 10 true)]) rfl rfl (Vg (Vo hn) rfl) rfl (src_vs rfl) te_24 ts_48 tb_48 (by decide) tz_48 rfl h6 (Xg (Vo hn) rfl)) rfl ?_
    refine Va (Vb rfl tf_31_0 ts_27 (by decide)) rfl ?_
    refine Va (Vb rfl tf_27_0 ts_24 (by decide)) rfl ?_
    refine Vi (Vv (p := .sl (n + 3) (0 + 1) 0 (x5).length) (e' := .agg [.sl (n + 3) (0 + 1) 0 (x5).length, .nils, .nils, .nils]) rfl (Vg (Vo hn) rfl) rfl rfl ts_24 rfl (Yc rfl) rfl (Zx rfl) rfl (Xg (Vo hn) rfl)) rfl ?_
    refine Ve ?_
    obtain rfl := Zw hF
    refine Vz ?_
    exact Vm (Vo hn) [(0, 0), (1, 0), (2, 0), (4, 0), (3, 0 + 1)] (by decide) ⟨Vh rfl (.ptr _ _ _ _ hq0), Vs 0 0 rfl rfl, Vs 1 1 rfl rfl, Vs 2 2 rfl rfl, Vs 3 4 rfl rfl, trivial⟩ ⟨⟨_, rfl, rfl, .same _ _ _ _ (Vl ⟨Vn ⟨.nils, .nils, .nils, .nils, trivial⟩, trivial⟩)⟩, ⟨_, rfl, rfl, .same _ _ _ _ (Vl ⟨Vn ⟨.nils, .nils, trivial⟩, trivial⟩)⟩, ⟨_, rfl, rfl, .same _ _ _ _ (Vl ⟨Vn ⟨.nils, .nils, trivial⟩, trivial⟩)⟩, ⟨_, rfl, rfl, .agg _ _ _ _ _ ⟨Xu 4 3 rfl rfl, Vh rfl (.nils), Vh rfl (.nils), Vh rfl (.nils), trivial⟩⟩, ⟨_, rfl, rfl, .same _ _ _ _ (Vq T_Place.enc_lt)⟩, trivial⟩
   ·have hF := Yt c4 hF
    refine Xf ?_
    obtain rfl := Zw hF
    refine Vz ?_
    exact Vm (Vo hn) [(0, 0), (1, 0), (2, 0), (4, 0), (3, 0)] (by decide) ⟨Vh rfl (.ptr _ _ _ _ hq0), Vs 0 0 rfl rfl, Vs 1 1 rfl rfl, Vs 2 2 rfl rfl, Vs 3 4 rfl rfl, trivial⟩ ⟨⟨_, rfl, rfl, .same _ _ _ _ (Vl ⟨Vn ⟨.nils, .nils, .nils, .nils, trivial⟩, trivial⟩)⟩, ⟨_, rfl, rfl, .same _ _ _ _ (Vl ⟨Vn ⟨.nils, .nils, trivial⟩, trivial⟩)⟩, ⟨_, rfl, rfl, .same _ _ _ _ (Vl ⟨Vn ⟨.nils, .nils, trivial⟩, trivial⟩)⟩, ⟨_, rfl, rfl, .agg _ _ _ _ _ ⟨Xu 4 3 rfl rfl, Vh rfl (.nils), Vh rfl (.nils), Vh rfl (.nils), trivial⟩⟩, ⟨_, rfl, rfl, .same _ _ _ _ (Vq T_Place.enc_lt)⟩, trivial⟩
  ·rintro _ _ _ _ ⟨rfl, hw⟩
   refine ⟨_, _, _, hw, ?_⟩
   refine Vf ?_
   refine Vc ?_
   refine Va (Vb rfl tf_31_0 ts_27 (by decide)) rfl ?_
   refine Va (Vb rfl tf_27_0 ts_24 (by decide)) rfl ?_
   refine Va (Vj rfl (Vg (Vo hn) rfl) rfl ta_24 rfl) rfl ?_
   refine Va (rd_lenS rfl (Vg (Vo hn) rfl) rfl rfl te_24) rfl ?_
   refine Va (Xo rfl) rfl ?_
   refine Ve ?_
   refine Vf ?_
   refine Vf ?_
   refine Vc ?_
   obtain ⟨x7, h8, hF⟩ := Yb hF
   refine Va (Xb rfl) rfl ?_
   refine Vi (Xc (ps := [(q0, ⟨88, 2, [.agg [.vs 1 (Zt (Zu .u8) x7.1.l), .int .i64 x7.1.at_]], w0⟩)]) (r := .int .i64 x7.2) (os := []) (low1 := (setL low0 [(q0, ⟨88, 2, [.agg [.vs 1 (Zt (Zu .u8) x7.1.l), .int .i64 x7.1.at_]], w0⟩)])) (loc1 := [⟨31, 4, [.agg [.nils, .nils, .nils, .nils]], 0⟩, ⟨62, 2, [.agg [.nils, .nils]], 0⟩, ⟨64, 2, [.agg [.nils, .nils]], 0⟩, ⟨31, 4, [.agg [.sl (n + 4) 0 0 (o3).length, .nils, .nils, .nils]], 0⟩, ⟨48, 2, Zt T_Place.enc o3, 0⟩]) (loc2 := [⟨31, 4, [.agg [.nils, .nils, .nils, .nils]], 0⟩, ⟨62, 2, [.agg [.nils, .nils]], 0⟩, ⟨64, 2, [.agg [.nils, .nils]], 0⟩, ⟨31, 4, [.agg [.sl (n + 4) 0 0 (o3).length, .nils, .nils, .nils]], 0⟩, ⟨48, 2, Zt T_Place.enc o3, 0⟩]) rfl Try.call27 (F_draw_Codes_Next_ok h8 (nd1 na0 nd0) (Zb hB rfl 0 rfl) (Xq (Vo hn) rfl)) (Yn (ps0' := [(q0, ⟨88, 2, [.agg [.vs 1 (Zt (Zu .u8) x7.1.l), .int .i64 x7.1.at_]], w0⟩)]) hB rfl 0 rfl (Yi hn ⟨Vn ⟨.vs _ _, .int _ _, trivial⟩, trivial⟩) rfl Xj) rfl) rfl ?_
   refine Va (Xo rfl) rfl ?_
   refine Ve ?_
   refine Xa ?_
   obtain ⟨o10, ho10, hF⟩ := Yb hF
   refine Vr (Yp F_draw_Codes_Made_L1 (fun s9 E' lw lc => Xt E' lw lc [(0, .ptr q0 w0 0 0), (2, .ptr (n + 0) 0 0 0), (3, .ptr (n + 1) 0 0 0), (4, .ptr (n + 2) 0 0 0), (5, .ptr (n + 3) 0 0 0), (6, .int .i64 ((o3).length : Int)), (7, .int .i64 s9.1)] (setL low0 [(q0, ⟨88, 2, [.agg [.vs 1 (Zt (Zu .u8) s9.2.2.l), .int .i64 s9.2.2.at_]], w0⟩)]) [⟨31, 4, [.agg [.nils, .nils, .nils, .nils]], 0⟩, ⟨62, 2, [.agg [.nils, .nils]], 0⟩, ⟨64, 2, [.agg [.nils, .nils]], 0⟩, ⟨31, 4, [.agg [.sl (n + 4) 0 0 (s9.2.1).length, .nils, .nils, .nils]], 0⟩, ⟨48, 2, Zt T_Place.enc s9.2.1, 0⟩]) (fun o10 => OnlyE (.exit 0) (fun E' lw lc => Xt E' lw lc [(0, .ptr q0 w0 0 0), (2, .ptr (n + 0) 0 0 0), (3, .ptr (n + 1) 0 0 0), (4, .ptr (n + 2) 0 0 0), (5, .ptr (n + 3) 0 0 0), (6, .int .i64 ((o3).length : Int))] (setL low0 [(q0, ⟨88, 2, [.agg [.vs 1 (Zt (Zu .u8) o10.2.l), .int .i64 o10.2.at_]], w0⟩)]) [⟨31, 4, [.agg [.nils, .nils, .nils, .nils]], 0⟩, ⟨62, 2, [.agg [.nils, .nils]], 0⟩, ⟨64, 2, [.agg [.nils, .nils]], 0⟩, ⟨31, 4, [.agg [.sl (n + 4) 0 0 (o10.1).length, .nils, .nils, .nils]], 0⟩, ⟨48, 2, Zt T_Place.enc o10.1, 0⟩])) ho10 ?_ (by rintro _ _ _ _ ⟨h, _⟩ <;> cases h) ?_) ?_
   ·exact Vp ⟨rfl, rfl, rfl, rfl, rfl, rfl, rfl, trivial⟩
   ·rintro s9 os9 _ _ _ hF hw
    unfold F_draw_Codes_Made_L1 at hF
    refine Yg hw ?_
    refine Vf ?_
    refine Vf ?_
    refine Vc ?_
    refine Va (Vk rfl) rfl ?_
    refine Va (rd_gtr rfl rfl) rfl ?_
    refine Ve ?_
    refine Xd rfl (fun c11 => ?_) (fun c11 => ?_)
    ·have hF := Ys c11 hF
     refine Xf ?_
     refine Vf ?_
     refine Xa ?_
     obtain ⟨x12, h13, hF⟩ := Yb hF
     obtain ⟨x14, h15, hF⟩ := Yb hF
     refine Zh [[], [0], [0, 1], [], [3], [3, 4], [3, 4, 5], [3, 4, 5, 6], [0, 1, 2, 3, 4, 5, 6, 7], [0, 1, 2, 3, 4, 5, 6, 7, 8], [0, 1, 2, 3, 4, 5, 6, 7, 8, 9], [0, 1, 2, 3, 4, 5, 6, 7, 8, 9, 10]] [false, false, false, false, true, false, false, false, true, false, false, true] [((setL low0 [(q0, ⟨88, 2, [.agg [.vs 1 (Zt (Zu .u8) s9.2.2.l), .int .i64 s9.2.2.at_]], w0⟩)]), [⟨31, 4, [.agg [.nils, .nils, .nils, .nils]], 0⟩, ⟨62, 2, [.agg [.nils, .nils]], 0⟩, ⟨64, 2, [.agg [.nils, .nils]], 0⟩, ⟨31, 4, [.agg [.sl (n + 4) 0 0 (s9.2.1).length, .nils, .nils, .nils]], 0⟩, ⟨48, 2, Zt T_Place.enc s9.2.1, 0⟩]), ((setL low0 [(q0, ⟨88, 2, [.agg [.vs 1 (Zt (Zu .u8) x12.1.l), .int .i64 x12.1.at_]], w0⟩)]), [⟨31, 4, [.agg [.nils, .nils, .nils, .nils]], 0⟩, ⟨62, 2, [.agg [.nils, .nils]], 0⟩, ⟨64, 2, [.agg [.nils, .nils]], 0⟩, ⟨31, 4, [.agg [.sl (n + 4) 0 0 (s9.2.1).length, .nils, .nils, .nils]], 0⟩, ⟨48, 2, Zt T_Place.enc s9.2.1, 0⟩]), ((setL low0 [(q0, ⟨88, 2, [.agg [.vs 1 (Zt (Zu .u8) x12.1.l), .int .i64 x12.1.at_]], w0⟩)]), [⟨31, 4, [.agg [.nils, .nils, .nils, .nils]], 0⟩, ⟨62, 2, [.agg [.nils, .nils]], 0⟩, ⟨64, 2, [.agg [.nils, .nils]], 0⟩, ⟨31, 4, [.agg [.sl (n + 4) 0 0 (s9.2.1).length, .nils, .nils, .nils]], 0⟩, ⟨48, 2, Zt T_Place.enc x14, 0 + 1⟩]), ((setL low0 [(q0, ⟨88, 2, [.agg [.vs 1 (Zt (Zu .u8) x12.1.l), .int .i64 x12.1.at_]], w0⟩)]), [⟨31, 4, [.agg [.nils, .nils, .nils, .nils]], 0⟩, ⟨62, 2, [.agg [.nils, .nils]], 0⟩, ⟨64, 2, [.agg [.nils, .nils]], 0⟩, ⟨31, 4, [.agg [.sl (n + 4) (0 + 1) 0 (x14).length, .nils, .nils, .nils]], 0⟩, ⟨48, 2, Zt T_Place.enc x14, 0 + 1⟩])] mixed (by kernel_rfl) rfl (lenAll (Vu Xi (Vu Xi (Vu Xi (Vu Xi Yq))))) rfl _ rfl rfl ?_
     refine Vw _ rfl rfl (Vu (VRd.ntl (Vb rfl tf_31_0 ts_27 (by decide))) (Vu (VRd.ntl (Vb rfl tf_31_0 ts_27 (by decide))) Yq)) ?_
     refine Vw _ rfl rfl (Vu (VRd.ntl (Vb rfl tf_27_0 ts_24 (by decide))) (Vu (VRd.ntl (Vb rfl tf_27_0 ts_24 (by decide))) Yq)) ?_
     refine Vw _ rfl rfl (Vu (VRd.ntl (Vj rfl (Vg (Vo hn) rfl) rfl ta_24 rfl)) (Vu (VRd.ntl (Vj rfl (Vg (Vo hn) rfl) rfl ta_24 rfl)) Yq)) ?_
     refine Xx rfl rfl (Xb rfl) ?_
     refine Xv rfl rfl rfl (Xc (ps := [(q0, ⟨88, 2, [.agg [.vs 1 (Zt (Zu .u8) x12.1.l), .int .i64 x12.1.at_]], w0⟩)]) (r := .int .i64 x12.2) (os := []) (low1 := (setL low0 [(q0, ⟨88, 2, [.agg [.vs 1 (Zt (Zu .u8) x12.1.l), .int .i64 x12.1.at_]], w0⟩)])) (loc1 := [⟨31, 4, [.agg [.nils, .nils, .nils, .nils]], 0⟩, ⟨62, 2, [.agg [.nils, .nils]], 0⟩, ⟨64, 2, [.agg [.nils, .nils]], 0⟩, ⟨31, 4, [.agg [.sl (n + 4) 0 0 (s9.2.1).length, .nils, .nils, .nils]], 0⟩, ⟨48, 2, Zt T_Place.enc s9.2.1, 0⟩]) (loc2 := [⟨31, 4, [.agg [.nils, .nils, .nils, .nils]], 0⟩, ⟨62, 2, [.agg [.nils, .nils]], 0⟩, ⟨64, 2, [.agg [.nils, .nils]], 0⟩, ⟨31, 4, [.agg [.sl (n + 4) 0 0 (s9.2.1).length, .nils, .nils, .nils]], 0⟩, ⟨48, 2, Zt T_Place.enc s9.2.1, 0⟩]) rfl Try.call27 (F_draw_Codes_Next_ok h13 (nd1 na0 nd0) (Zb hB rfl 0 rfl) (Xq (Vo hn) rfl)) (Yn (ps0' := [(q0, ⟨88, 2, [.agg [.vs 1 (Zt (Zu .u8) x12.1.l), .int .i64 x12.1.at_]], w0⟩)]) hB rfl 0 rfl (Yi hn ⟨Vn ⟨.vs _ _, .int _ _, trivial⟩, trivial⟩) rfl Xj) rfl) ?_
     refine Xx rfl rfl (rd_neg rfl rfl) ?_
     refine Xx rfl rfl (Xy (vs := [(0, .int .i64 (IntKind.i64.wrap (0 - x12.2)))]) (ds := [.int .i64 (IntKind.i64.wrap (0 - x12.2)), .bool false]) tz_48 rfl rfl tp_48 ⟨rfl, rfl, trivial⟩ (Yd rfl) rfl) ?_
     refine dn1 rfl rfl (nt_of (Ym (es := Zt T_Place.enc [(T_Place.mk (IntKind.i64.wrap (0 - x12.2)) false)]) ⟨rfl, rfl, trivial⟩ rfl rfl (Zg rfl) te_24 ts_48 tz_48 rfl rfl (Zy _) (by decide) (Yh T_Place.enc_lt))) ?_
     refine Xv rfl rfl rfl (Zq (f := T_Place.enc) (l := s9.2.1) (ys := [(T_Place.mk (IntKind.i64.wrap (0 - x12.2)) false)]) rfl rfl (Vg (Vo hn) rfl) rfl (src_vs rfl) te_24 ts_48 tb_48 (by decide) tz_48 rfl h15 (Xg (Vo hn) rfl)) ?_
     refine Xx rfl rfl (Vb rfl tf_31_0 ts_27 (by decide)) ?_
     refine Xx rfl rfl (Vb rfl tf_27_0 ts_24 (by decide)) ?_
     refine Xv rfl rfl rfl (Vv (p := .sl (n + 4) (0 + 1) 0 (x14).length) (e' := .agg [.sl (n + 4) (0 + 1) 0 (x14).length, .nils, .nils, .nils]) rfl (Vg (Vo hn) rfl) rfl rfl ts_24 rfl (Yc rfl) rfl (Zx rfl) rfl (Xg (Vo hn) rfl)) ?_
     refine Yk ?_
     refine Vc ?_
     refine Va (Vk rfl) rfl ?_
     refine Va (Zm rfl rfl rfl) rfl ?_
     refine Va (Xo rfl) rfl ?_
     refine Ve ?_
     obtain rfl := Zw hF
     refine Vz ?_
     exact Vm (Vo hn) [(0, 0), (1, 0), (2, 0), (3, 0), (4, 0 + 1)] (by decide) ⟨Vh rfl (.ptr _ _ _ _ hq0), Vs 0 0 rfl rfl, Vs 1 1 rfl rfl, Vs 2 2 rfl rfl, Vs 3 3 rfl rfl, Vh rfl (.int _ _), Vh rfl (.int _ _), trivial⟩ ⟨⟨_, rfl, rfl, .same _ _ _ _ (Vl ⟨Vn ⟨.nils, .nils, .nils, .nils, trivial⟩, trivial⟩)⟩, ⟨_, rfl, rfl, .same _ _ _ _ (Vl ⟨Vn ⟨.nils, .nils, trivial⟩, trivial⟩)⟩, ⟨_, rfl, rfl, .same _ _ _ _ (Vl ⟨Vn ⟨.nils, .nils, trivial⟩, trivial⟩)⟩, ⟨_, rfl, rfl, .agg _ _ _ _ _ ⟨Xu 4 4 rfl rfl, Vh rfl (.nils), Vh rfl (.nils), Vh rfl (.nils), trivial⟩⟩, ⟨_, rfl, rfl, .same _ _ _ _ (Vq T_Place.enc_lt)⟩, trivial⟩
    ·have hF := Yt c11 hF
     refine Yu ?_
     obtain rfl := Zw hF
     refine Vz ?_
     exact Vp ⟨rfl, rfl, rfl, rfl, rfl, rfl, trivial⟩
   ·rintro _ _ _ _ ⟨rfl, hw⟩
    refine ⟨_, _, _, hw, ?_⟩
    refine Vf ?_
    refine Vc ?_
    refine Va (Vb rfl tf_31_0 ts_27 (by decide)) rfl ?_
    refine Va (Vb rfl tf_27_0 ts_24 (by decide)) rfl ?_
    refine Va (Vj rfl (Vg (Vo hn) rfl) rfl ta_24 rfl) rfl ?_
    refine Va (rd_lenS rfl (Vg (Vo hn) rfl) rfl rfl te_24) rfl ?_
    refine Va (Xo rfl) rfl ?_
    refine Ve ?_
    refine Vf ?_
    refine Vc ?_
    obtain ⟨x16, h17, hF⟩ := Yb hF
    refine Va (Vk rfl) rfl ?_
    refine Vi (vef_mkN (f := (Zu .i64)) (zz := 0) (Vo hn) rfl rfl rfl te_32 ts_3 tb_3 (by decide) tz_3 rfl rfl (Zy _) rfl h17) rfl ?_
    refine Va (Xy (vs := [(0, .sl (n + 5) 0 0 (x16).length)]) (ds := [.sl (n + 5) 0 0 (x16).length, .nils]) tz_64 rfl rfl tp_64 ⟨rfl, rfl, trivial⟩ (Yd rfl) rfl) rfl ?_
    refine Vi (Xh (Vo hn) rfl tz_64 rfl rfl (Zy _) rfl) rfl ?_
    refine Vi (Vv (p := .agg [.sl (n + 5) 0 0 (x16).length, .nils]) (e' := .agg [.sl (n + 5) 0 0 (x16).length, .nils]) rfl (Vg (Vo hn) rfl) rfl rfl ts_64 rfl (Yc rfl) rfl (Zx rfl) rfl (Xg (Vo hn) rfl)) rfl ?_
    refine Ve ?_
    refine Vf ?_
    refine Vf ?_
    refine Vc ?_
    refine Va (Vk rfl) rfl ?_
    refine Va (Xo rfl) rfl ?_
    refine Ve ?_
    refine Xa ?_
    obtain ⟨o19, ho19, hF⟩ := Yb hF
    refine Vr (Yp (F_draw_Codes_Made_L2 o10) (fun s18 E' lw lc => Xt E' lw lc [(0, .ptr q0 w0 0 0), (2, .ptr (n + 0) 0 0 0), (3, .ptr (n + 1) 0 0 0), (4, .ptr (n + 2) 0 0 0), (5, .ptr (n + 3) 0 0 0), (6, .int .i64 ((o3).length : Int)), (8, .int .i64 ((o10.1).length : Int)), (9, .ptr (n + 4) 0 0 0), (10, .int .i64 s18.1)] (setL low0 [(q0, ⟨88, 2, [.agg [.vs 1 (Zt (Zu .u8) s18.2.2.l), .int .i64 s18.2.2.at_]], w0⟩)]) [⟨31, 4, [.agg [.nils, .nils, .nils, .nils]], 0⟩, ⟨62, 2, [.agg [.nils, .nils]], 0⟩, ⟨64, 2, [.agg [.nils, .nils]], 0⟩, ⟨31, 4, [.agg [.sl (n + 5) 0 0 (o10.1).length, .nils, .nils, .nils]], 0⟩, ⟨64, 2, [.agg [.sl (n + 6) 0 0 (s18.2.1).length, .nils]], 0⟩, ⟨48, 2, Zt T_Place.enc o10.1, 0⟩, ⟨3, 1, Zt (Zu .i64) s18.2.1, 0⟩]) (fun o19 => OnlyE (.exit 2) (fun E' lw lc => Xt E' lw lc [(0, .ptr q0 w0 0 0), (2, .ptr (n + 0) 0 0 0), (3, .ptr (n + 1) 0 0 0), (4, .ptr (n + 2) 0 0 0), (5, .ptr (n + 3) 0 0 0), (6, .int .i64 ((o3).length : Int)), (8, .int .i64 ((o10.1).length : Int)), (9, .ptr (n + 4) 0 0 0)] (setL low0 [(q0, ⟨88, 2, [.agg [.vs 1 (Zt (Zu .u8) o19.2.l), .int .i64 o19.2.at_]], w0⟩)]) [⟨31, 4, [.agg [.nils, .nils, .nils, .nils]], 0⟩, ⟨62, 2, [.agg [.nils, .nils]], 0⟩, ⟨64, 2, [.agg [.nils, .nils]], 0⟩, ⟨31, 4, [.agg [.sl (n + 5) 0 0 (o10.1).length, .nils, .nils, .nils]], 0⟩, ⟨64, 2, [.agg [.sl (n + 6) 0 0 (o19.1).length, .nils]], 0⟩, ⟨48, 2, Zt T_Place.enc o10.1, 0⟩, ⟨3, 1, Zt (Zu .i64) o19.1, 0⟩])) ho19 ?_ (by rintro _ _ _ _ ⟨h, _⟩ <;> cases h) ?_) ?_
    ·exact Vm (Vo hn) [(0, 0), (1, 0), (2, 0), (3, 0), (6, 0), (4, 0), (5, 0)] (by decide) ⟨Vh rfl (.ptr _ _ _ _ hq0), Vs 0 0 rfl rfl, Vs 1 1 rfl rfl, Vs 2 2 rfl rfl, Vs 3 3 rfl rfl, Vh rfl (.int _ _), Vh rfl (.int _ _), Vs 4 6 rfl rfl, Vh rfl (.int _ _), trivial⟩ ⟨⟨_, rfl, rfl, .same _ _ _ _ (Vl ⟨Vn ⟨.nils, .nils, .nils, .nils, trivial⟩, trivial⟩)⟩, ⟨_, rfl, rfl, .same _ _ _ _ (Vl ⟨Vn ⟨.nils, .nils, trivial⟩, trivial⟩)⟩, ⟨_, rfl, rfl, .same _ _ _ _ (Vl ⟨Vn ⟨.nils, .nils, trivial⟩, trivial⟩)⟩, ⟨_, rfl, rfl, .agg _ _ _ _ _ ⟨Xu 5 4 rfl rfl, Vh rfl (.nils), Vh rfl (.nils), Vh rfl (.nils), trivial⟩⟩, ⟨_, rfl, rfl, .agg _ _ _ _ _ ⟨Xu 6 5 rfl rfl, Vh rfl (.nils), trivial⟩⟩, ⟨_, rfl, rfl, .same _ _ _ _ (Vq T_Place.enc_lt)⟩, ⟨_, rfl, rfl, .same _ _ _ _ (Vq (fun _ => .int _ _))⟩, trivial⟩
    ·rintro s18 os18 _ _ _ hF hw
     unfold F_draw_Codes_Made_L2 at hF
     refine Yg hw ?_
     refine Vf ?_
     refine Vf ?_
     refine Vc ?_
     refine Va (Vk rfl) rfl ?_
     refine Va (Vk rfl) rfl ?_
     refine Va (Zc rfl rfl) rfl ?_
     refine Ve ?_
     refine Xd rfl (fun c20 => ?_) (fun c20 => ?_)
     ·have hF := Ys c20 hF
      refine Xf ?_
      refine Vf ?_
      refine Xa ?_
      obtain ⟨x21, h22, hF⟩ := Yb hF
      obtain ⟨x23, h24, hF⟩ := Yb hF
      refine Zh [[], [0], [], [], [3], [0, 1, 2, 3, 4], [0, 1, 2, 3, 4, 5]] [false, false, false, false, true, false, true] [((setL low0 [(q0, ⟨88, 2, [.agg [.vs 1 (Zt (Zu .u8) s18.2.2.l), .int .i64 s18.2.2.at_]], w0⟩)]), [⟨31, 4, [.agg [.nils, .nils, .nils, .nils]], 0⟩, ⟨62, 2, [.agg [.nils, .nils]], 0⟩, ⟨64, 2, [.agg [.nils, .nils]], 0⟩, ⟨31, 4, [.agg [.sl (n + 5) 0 0 (o10.1).length, .nils, .nils, .nils]], 0⟩, ⟨64, 2, [.agg [.sl (n + 6) 0 0 (s18.2.1).length, .nils]], 0⟩, ⟨48, 2, Zt T_Place.enc o10.1, 0⟩, ⟨3, 1, Zt (Zu .i64) s18.2.1, 0⟩]), ((setL low0 [(q0, ⟨88, 2, [.agg [.vs 1 (Zt (Zu .u8) x21.1.l), .int .i64 x21.1.at_]], w0⟩)]), [⟨31, 4, [.agg [.nils, .nils, .nils, .nils]], 0⟩, ⟨62, 2, [.agg [.nils, .nils]], 0⟩, ⟨64, 2, [.agg [.nils, .nils]], 0⟩, ⟨31, 4, [.agg [.sl (n + 5) 0 0 (o10.1).length, .nils, .nils, .nils]], 0⟩, ⟨64, 2, [.agg [.sl (n + 6) 0 0 (s18.2.1).length, .nils]], 0⟩, ⟨48, 2, Zt T_Place.enc o10.1, 0⟩, ⟨3, 1, Zt (Zu .i64) s18.2.1, 0⟩]), ((setL low0 [(q0, ⟨88, 2, [.agg [.vs 1 (Zt (Zu .u8) x21.1.l), .int .i64 x21.1.at_]], w0⟩)]), [⟨31, 4, [.agg [.nils, .nils, .nils, .nils]], 0⟩, ⟨62, 2, [.agg [.nils, .nils]], 0⟩, ⟨64, 2, [.agg [.nils, .nils]], 0⟩, ⟨31, 4, [.agg [.sl (n + 5) 0 0 (o10.1).length, .nils, .nils, .nils]], 0⟩, ⟨64, 2, [.agg [.sl (n + 6) 0 0 (s18.2.1).length, .nils]], 0⟩, ⟨48, 2, Zt T_Place.enc o10.1, 0⟩, ⟨3, 1, Zt (Zu .i64) (s18.2.1.set ((s18.1).toNat) x21.2), 0⟩])] mixed (by kernel_rfl) rfl (lenAll (Vu Xi (Vu Xi (Vu Xi Yq)))) rfl _ rfl rfl ?_
      refine Vw _ rfl rfl (Vu (VRd.ntl (Vb rfl tf_64_0 ts_32 (by decide))) (Vu (VRd.ntl (Vb rfl tf_64_0 ts_32 (by decide))) Yq)) ?_
      refine Vw _ rfl rfl (Vu (VRd.ntl (Vj rfl (Vg (Vo hn) rfl) rfl ta_32 rfl)) (Vu (VRd.ntl (Vj rfl (Vg (Vo hn) rfl) rfl ta_32 rfl)) Yq)) ?_
      refine Vw _ rfl rfl (Vu (VRd.ntl (Vk rfl)) (Vu (VRd.ntl (Vk rfl)) Yq)) ?_
      refine Xx rfl rfl (Xb rfl) ?_
      refine Xv rfl rfl rfl (Xc (ps := [(q0, ⟨88, 2, [.agg [.vs 1 (Zt (Zu .u8) x21.1.l), .int .i64 x21.1.at_]], w0⟩)]) (r := .int .i64 x21.2) (os := []) (low1 := (setL low0 [(q0, ⟨88, 2, [.agg [.vs 1 (Zt (Zu .u8) x21.1.l), .int .i64 x21.1.at_]], w0⟩)])) (loc1 := [⟨31, 4, [.agg [.nils, .nils, .nils, .nils]], 0⟩, ⟨62, 2, [.agg [.nils, .nils]], 0⟩, ⟨64, 2, [.agg [.nils, .nils]], 0⟩, ⟨31, 4, [.agg [.sl (n + 5) 0 0 (o10.1).length, .nils, .nils, .nils]], 0⟩, ⟨64, 2, [.agg [.sl (n + 6) 0 0 (s18.2.1).length, .nils]], 0⟩, ⟨48, 2, Zt T_Place.enc o10.1, 0⟩, ⟨3, 1, Zt (Zu .i64) s18.2.1, 0⟩]) (loc2 := [⟨31, 4, [.agg [.nils, .nils, .nils, .nils]], 0⟩, ⟨62, 2, [.agg [.nils, .nils]], 0⟩, ⟨64, 2, [.agg [.nils, .nils]], 0⟩, ⟨31, 4, [.agg [.sl (n + 5) 0 0 (o10.1).length, .nils, .nils, .nils]], 0⟩, ⟨64, 2, [.agg [.sl (n + 6) 0 0 (s18.2.1).length, .nils]], 0⟩, ⟨48, 2, Zt T_Place.enc o10.1, 0⟩, ⟨3, 1, Zt (Zu .i64) s18.2.1, 0⟩]) rfl Try.call28 (F_draw_Codes_Range_ok h22 (nd1 na0 nd0) (Zb hB rfl 0 rfl) (Xq (Vo hn) rfl)) (Yn (ps0' := [(q0, ⟨88, 2, [.agg [.vs 1 (Zt (Zu .u8) x21.1.l), .int .i64 x21.1.at_]], w0⟩)]) hB rfl 0 rfl (Yi hn ⟨Vn ⟨.vs _ _, .int _ _, trivial⟩, trivial⟩) rfl Xj) rfl) ?_
      refine Xx rfl rfl (Zl rfl rfl rfl (Vg (Vo hn) rfl) h24 te_32 ts_3) ?_
      refine Xv rfl rfl rfl (vef_stL (p := .int .i64 x21.2) (e' := x21.2) rfl (Vg (Vo hn) rfl) (Ye h24).2 rfl ts_3 rfl (Yc rfl) (Zx rfl) rfl (Xg (Vo hn) rfl)) ?_
      refine Yk ?_
      refine Vc ?_
      refine Va (Vk rfl) rfl ?_
      refine Va (Yv rfl rfl rfl) rfl ?_
      refine Va (Xo rfl) rfl ?_
      refine Ve ?_
      obtain rfl := Zw hF
      refine Vz ?_
      exact Vm (Vo hn) [(0, 0), (1, 0), (2, 0), (3, 0), (4, 0), (5, 0), (6, 0)] (by decide) ⟨Vh rfl (.ptr _ _ _ _ hq0), Vs 0 0 rfl rfl, Vs 1 1 rfl rfl, Vs 2 2 rfl rfl, Vs 3 3 rfl rfl, Vh rfl (.int _ _), Vh rfl (.int _ _), Vs 4 4 rfl rfl, Vh rfl (.int _ _), trivial⟩ ⟨⟨_, rfl, rfl, .same _ _ _ _ (Vl ⟨Vn ⟨.nils, .nils, .nils, .nils, trivial⟩, trivial⟩)⟩, ⟨_, rfl, rfl, .same _ _ _ _ (Vl ⟨Vn ⟨.nils, .nils, trivial⟩, trivial⟩)⟩, ⟨_, rfl, rfl, .same _ _ _ _ (Vl ⟨Vn ⟨.nils, .nils, trivial⟩, trivial⟩)⟩, ⟨_, rfl, rfl, .agg _ _ _ _ _ ⟨Xu 5 5 rfl rfl, Vh rfl (.nils), Vh rfl (.nils), Vh rfl (.nils), trivial⟩⟩, ⟨_, rfl, rfl, .agg _ _ _ _ _ ⟨Xu 6 6 rfl (congrArg (PV.sl _ _ 0) (Eq.trans rfl List.length_set.symm)), Vh rfl (.nils), trivial⟩⟩, ⟨_, rfl, rfl, .same _ _ _ _ (Vq T_Place.enc_lt)⟩, ⟨_, rfl, rfl, .same _ _ _ _ (Vq (fun _ => .int _ _))⟩, trivial⟩
     ·have hF := Yt c20 hF
      refine Yu ?_
      obtain rfl := Zw hF
      refine Vz ?_
      exact Vp ⟨rfl, rfl, rfl, rfl, rfl, rfl, rfl, rfl, trivial⟩
    ·rintro _ _ _ _ ⟨rfl, hw⟩
     refine ⟨_, _, _, hw, ?_⟩
     refine Vf ?_
     refine Vc ?_
     obtain ⟨x25, h26, hF⟩ := Yb hF
     refine Va (Vk rfl) rfl ?_
     refine Vi (vef_mkN (f := (Zu .i64)) (zz := 0) (Vo hn) rfl rfl rfl te_32 ts_3 tb_3 (by decide) tz_3 rfl rfl (Zy _) rfl h26) rfl ?_
     refine Va (rd_asL rfl) rfl ?_
     refine Ve ?_
     refine Vf ?_
     refine Vf ?_
     refine Vc ?_
     refine Va (Vk rfl) rfl ?_
     refine Va (rd_gtr rfl rfl) rfl ?_
     refine Ve ?_
     obtain ⟨o27, ho27, hF⟩ := Yb hF
     refine Vr (Q' := (fun o27 => OnlyE .normal (fun E' lw lc => Xt E' lw lc [(0, .ptr q0 w0 0 0), (2, .ptr (n + 1) 0 0 0), (3, .ptr (n + 2) 0 0 0), (4, .ptr (n + 3) 0 0 0), (5, .ptr (n + 4) 0 0 0), (6, .int .i64 ((o3).length : Int)), (8, .int .i64 ((o10.1).length : Int)), (9, .ptr (n + 5) 0 0 0), (11, .sl (n + 0) 0 0 (o27.1).length)] (setL low0 [(q0, ⟨88, 2, [.agg [.vs 1 (Zt (Zu .u8) o27.2.2.2.l), .int .i64 o27.2.2.2.at_]], w0⟩)]) [⟨3, 1, Zt (Zu .i64) o27.1, 0⟩, ⟨31, 4, [.agg [.nils, .nils, .nils, .nils]], 0⟩, ⟨62, 2, [.agg [.nils, .nils]], 0⟩, ⟨64, 2, [.agg [.nils, .nils]], 0⟩, ⟨31, 4, [.agg [.sl (n + 6) 0 0 (o27.2.1.Mine.Places).length, .sl (n + 7) 0 0 (o27.2.1.Mine.Roads).length, .nils, .nils]], 0⟩, ⟨64, 2, [.agg [.sl (n + 8) 0 0 (o27.2.2.1.Pressures).length, .sl (n + 9) 0 0 (o27.2.2.1.Flows).length]], 0⟩, ⟨48, 2, Zt T_Place.enc o27.2.1.Mine.Places, 0⟩, ⟨46, 10, Zt T_Road.enc o27.2.1.Mine.Roads, 0⟩, ⟨3, 1, Zt (Zu .i64) o27.2.2.1.Pressures, 0⟩, ⟨3, 1, Zt (Zu .i64) o27.2.2.1.Flows, 0⟩])) o27) ?_ ?_
     ·replace hF := ho27
      refine Xd rfl (fun c28 => ?_) (fun c28 => ?_)
      ·have hF := Ys c28 hF
       refine Vf ?_
       refine Vc ?_
       obtain ⟨x29, h30, hF⟩ := Yb hF
       refine Va (Xb rfl) rfl ?_
       refine Vi (Xc (ps := [(q0, ⟨88, 2, [.agg [.vs 1 (Zt (Zu .u8) x29.1.l), .int .i64 x29.1.at_]], w0⟩)]) (r := .int .i64 x29.2) (os := []) (low1 := (setL low0 [(q0, ⟨88, 2, [.agg [.vs 1 (Zt (Zu .u8) x29.1.l), .int .i64 x29.1.at_]], w0⟩)])) (loc1 := [⟨31, 4, [.agg [.nils, .nils, .nils, .nils]], 0⟩, ⟨62, 2, [.agg [.nils, .nils]], 0⟩, ⟨64, 2, [.agg [.nils, .nils]], 0⟩, ⟨31, 4, [.agg [.sl (n + 5) 0 0 (o10.1).length, .nils, .nils, .nils]], 0⟩, ⟨64, 2, [.agg [.sl (n + 6) 0 0 (o19.1).length, .nils]], 0⟩, ⟨48, 2, Zt T_Place.enc o10.1, 0⟩, ⟨3, 1, Zt (Zu .i64) o19.1, 0⟩, ⟨3, 1, Zt (Zu .i64) x25, 0⟩]) (loc2 := [⟨31, 4, [.agg [.nils, .nils, .nils, .nils]], 0⟩, ⟨62, 2, [.agg [.nils, .nils]], 0⟩, ⟨64, 2, [.agg [.nils, .nils]], 0⟩, ⟨31, 4, [.agg [.sl (n + 5) 0 0 (o10.1).length, .nils, .nils, .nils]], 0⟩, ⟨64, 2, [.agg [.sl (n + 6) 0 0 (o19.1).length, .nils]], 0⟩, ⟨48, 2, Zt T_Place.enc o10.1, 0⟩, ⟨3, 1, Zt (Zu .i64) o19.1, 0⟩, ⟨3, 1, Zt (Zu .i64) x25, 0⟩]) rfl Try.call27 (F_draw_Codes_Next_ok h30 (nd1 na0 nd0) (Zb hB rfl 0 rfl) (Xq (Vo hn) rfl)) (Yn (ps0' := [(q0, ⟨88, 2, [.agg [.vs 1 (Zt (Zu .u8) x29.1.l), .int .i64 x29.1.at_]], w0⟩)]) hB rfl 0 rfl (Yi hn ⟨Vn ⟨.vs _ _, .int _ _, trivial⟩, trivial⟩) rfl Xj) rfl) rfl ?_
       refine Va (Xo rfl) rfl ?_
       refine Ve ?_
       refine Xa ?_
       obtain ⟨o32, ho32, hF⟩ := Yb hF
       refine Vr (Yp (F_draw_Codes_Made_L3 o10) (fun s31 E' lw lc => Xt E' lw lc [(0, .ptr q0 w0 0 0), (2, .ptr (n + 1) 0 0 0), (3, .ptr (n + 2) 0 0 0), (4, .ptr (n + 3) 0 0 0), (5, .ptr (n + 4) 0 0 0), (6, .int .i64 ((o3).length : Int)), (8, .int .i64 ((o10.1).length : Int)), (9, .ptr (n + 5) 0 0 0), (11, .sl (n + 0) 0 0 (s31.2.1).length), (12, .int .i64 s31.1)] (setL low0 [(q0, ⟨88, 2, [.agg [.vs 1 (Zt (Zu .u8) s31.2.2.2.2.l), .int .i64 s31.2.2.2.2.at_]], w0⟩)]) [⟨3, 1, Zt (Zu .i64) s31.2.1, 0⟩, ⟨31, 4, [.agg [.nils, .nils, .nils, .nils]], 0⟩, ⟨62, 2, [.agg [.nils, .nils]], 0⟩, ⟨64, 2, [.agg [.nils, .nils]], 0⟩, ⟨31, 4, [.agg [.sl (n + 6) 0 0 (s31.2.2.1.Mine.Places).length, .sl (n + 7) 0 0 (s31.2.2.1.Mine.Roads).length, .nils, .nils]], 0⟩, ⟨64, 2, [.agg [.sl (n + 8) 0 0 (s31.2.2.2.1.Pressures).length, .sl (n + 9) 0 0 (s31.2.2.2.1.Flows).length]], 0⟩, ⟨48, 2, Zt T_Place.enc s31.2.2.1.Mine.Places, 0⟩, ⟨46, 10, Zt T_Road.enc s31.2.2.1.Mine.Roads, 0⟩, ⟨3, 1, Zt (Zu .i64) s31.2.2.2.1.Pressures, 0⟩, ⟨3, 1, Zt (Zu .i64) s31.2.2.2.1.Flows, 0⟩]) (fun o32 => OnlyE (.exit 4) (fun E' lw lc => Xt E' lw lc [(0, .ptr q0 w0 0 0), (2, .ptr (n + 1) 0 0 0), (3, .ptr (n + 2) 0 0 0), (4, .ptr (n + 3) 0 0 0), (5, .ptr (n + 4) 0 0 0), (6, .int .i64 ((o3).length : Int)), (8, .int .i64 ((o10.1).length : Int)), (9, .ptr (n + 5) 0 0 0), (11, .sl (n + 0) 0 0 (o32.1).length)] (setL low0 [(q0, ⟨88, 2, [.agg [.vs 1 (Zt (Zu .u8) o32.2.2.2.l), .int .i64 o32.2.2.2.at_]], w0⟩)]) [⟨3, 1, Zt (Zu .i64) o32.1, 0⟩, ⟨31, 4, [.agg [.nils, .nils, .nils, .nils]], 0⟩, ⟨62, 2, [.agg [.nils, .nils]], 0⟩, ⟨64, 2, [.agg [.nils, .nils]], 0⟩, ⟨31, 4, [.agg [.sl (n + 6) 0 0 (o32.2.1.Mine.Places).length, .sl (n + 7) 0 0 (o32.2.1.Mine.Roads).length, .nils, .nils]], 0⟩, ⟨64, 2, [.agg [.sl (n + 8) 0 0 (o32.2.2.1.Pressures).length, .sl (n + 9) 0 0 (o32.2.2.1.Flows).length]], 0⟩, ⟨48, 2, Zt T_Place.enc o32.2.1.Mine.Places, 0⟩, ⟨46, 10, Zt T_Road.enc o32.2.1.Mine.Roads, 0⟩, ⟨3, 1, Zt (Zu .i64) o32.2.2.1.Pressures, 0⟩, ⟨3, 1, Zt (Zu .i64) o32.2.2.1.Flows, 0⟩])) ho32 ?_ (by rintro _ _ _ _ ⟨h, _⟩ <;> cases h) ?_) ?_
       ·refine Weak.trans (weak_nil (E' := [(0, .ptr q0 w0 0 0), (2, .ptr (n + 0) 0 0 0), (3, .ptr (n + 1) 0 0 0), (4, .ptr (n + 2) 0 0 0), (5, .ptr (n + 3) 0 0 0), (6, .int .i64 ((o3).length : Int)), (8, .int .i64 ((o10.1).length : Int)), (9, .ptr (n + 4) 0 0 0), (11, .sl (n + 7) 0 0 (x25).length), (12, .int .i64 x29.2)]) (loc1 := [⟨31, 4, [.agg [.nils, .nils, .nils, .nils]], 0⟩, ⟨62, 2, [.agg [.nils, .nils]], 0⟩, ⟨64, 2, [.agg [.nils, .nils]], 0⟩, ⟨31, 4, [.agg [.sl (n + 5) 0 0 (o10.1).length, .sl (n + 8) 0 0 (([] : List T_Road)).length, .nils, .nils]], 0⟩, ⟨64, 2, [.agg [.sl (n + 6) 0 0 (o19.1).length, .nils]], 0⟩, ⟨48, 2, Zt T_Place.enc o10.1, 0⟩, ⟨3, 1, Zt (Zu .i64) o19.1, 0⟩, ⟨3, 1, Zt (Zu .i64) x25, 0⟩]) (Vo hn) rfl 46 10 (Zy _) ⟨Vy rfl, Vy rfl, Vy rfl, Vy rfl, Vy rfl, Vy rfl, Vy rfl, Vy rfl, Vy rfl, Vy rfl, trivial⟩ ⟨.same _, .same _, .same _, .agg _ _ _ _ _ ⟨Vy rfl, nn_nil rfl, Vy rfl, Vy rfl, trivial⟩, .same _, .same _, .same _, .same _, trivial⟩) ?_
        refine Weak.trans (weak_nil (E' := [(0, .ptr q0 w0 0 0), (2, .ptr (n + 0) 0 0 0), (3, .ptr (n + 1) 0 0 0), (4, .ptr (n + 2) 0 0 0), (5, .ptr (n + 3) 0 0 0), (6, .int .i64 ((o3).length : Int)), (8, .int .i64 ((o10.1).length : Int)), (9, .ptr (n + 4) 0 0 0), (11, .sl (n + 7) 0 0 (x25).length), (12, .int .i64 x29.2)]) (loc1 := [⟨31, 4, [.agg [.nils, .nils, .nils, .nils]], 0⟩, ⟨62, 2, [.agg [.nils, .nils]], 0⟩, ⟨64, 2, [.agg [.nils, .nils]], 0⟩, ⟨31, 4, [.agg [.sl (n + 5) 0 0 (o10.1).length, .sl (n + 8) 0 0 (([] : List T_Road)).length, .nils, .nils]], 0⟩, ⟨64, 2, [.agg [.sl (n + 6) 0 0 (o19.1).length, .sl (n + 9) 0 0 (([] : List Int)).length]], 0⟩, ⟨48, 2, Zt T_Place.enc o10.1, 0⟩, ⟨3, 1, Zt (Zu .i64) o19.1, 0⟩, ⟨3, 1, Zt (Zu .i64) x25, 0⟩, ⟨46, 10, Zt T_Road.enc ([] : List T_Road), 0⟩]) (Vo hn) rfl 3 1 (Zy _) ⟨Vy rfl, Vy rfl, Vy rfl, Vy rfl, Vy rfl, Vy rfl, Vy rfl, Vy rfl, Vy rfl, Vy rfl, trivial⟩ ⟨.same _, .same _, .same _, .same _, .agg _ _ _ _ _ ⟨Vy rfl, nn_nil rfl, trivial⟩, .same _, .same _, .same _, .same _, trivial⟩) ?_
        exact Vm (Vo hn) [(7, 0), (0, 0), (1, 0), (2, 0), (3, 0), (4, 0), (5, 0), (8, 0), (6, 0), (9, 0)] (by decide) ⟨Vh rfl (.ptr _ _ _ _ hq0), Vs 1 0 rfl rfl, Vs 2 1 rfl rfl, Vs 3 2 rfl rfl, Vs 4 3 rfl rfl, Vh rfl (.int _ _), Vh rfl (.int _ _), Vs 5 4 rfl rfl, Xu 0 7 rfl rfl, Vh rfl (.int _ _), trivial⟩ ⟨⟨_, rfl, rfl, .same _ _ _ _ (Vq (fun _ => .int _ _))⟩, ⟨_, rfl, rfl, .same _ _ _ _ (Vl ⟨Vn ⟨.nils, .nils, .nils, .nils, trivial⟩, trivial⟩)⟩, ⟨_, rfl, rfl, .same _ _ _ _ (Vl ⟨Vn ⟨.nils, .nils, trivial⟩, trivial⟩)⟩, ⟨_, rfl, rfl, .same _ _ _ _ (Vl ⟨Vn ⟨.nils, .nils, trivial⟩, trivial⟩)⟩, ⟨_, rfl, rfl, .agg _ _ _ _ _ ⟨Xu 6 5 rfl rfl, Xu 7 8 rfl rfl, Vh rfl (.nils), Vh rfl (.nils), trivial⟩⟩, ⟨_, rfl, rfl, .agg _ _ _ _ _ ⟨Xu 8 6 rfl rfl, Xu 9 9 rfl rfl, trivial⟩⟩, ⟨_, rfl, rfl, .same _ _ _ _ (Vq T_Place.enc_lt)⟩, ⟨_, rfl, rfl, .same _ _ _ _ (Vl trivial)⟩, ⟨_, rfl, rfl, .same _ _ _ _ (Vq (fun _ => .int _ _))⟩, ⟨_, rfl, rfl, .same _ _ _ _ (Vl trivial)⟩, trivial⟩
       ·rintro s31 os31 _ _ _ hF hw
        unfold F_draw_Codes_Made_L3 at hF
        refine Yg hw ?_
        refine Vf ?_
        refine Vf ?_
        refine Vc ?_
        refine Va (Vk rfl) rfl ?_
        refine Va (rd_gtr rfl rfl) rfl ?_
        refine Ve ?_
        refine Xd rfl (fun c33 => ?_) (fun c33 => ?_)
        ·have hF := Ys c33 hF
         refine Xf ?_
         refine Vf ?_
         refine Xa ?_
         refine Vf ?_
         refine Vc ?_
         obtain ⟨x34, h35, hF⟩ := Yb hF
         refine Va (Xb rfl) rfl ?_
         refine Va (Vk rfl) rfl ?_
         refine Vi (Xc (ps := [(q0, ⟨88, 2, [.agg [.vs 1 (Zt (Zu .u8) x34.1.l), .int .i64 x34.1.at_]], w0⟩)]) (r := .int .i64 x34.2) (os := []) (low1 := (setL low0 [(q0, ⟨88, 2, [.agg [.vs 1 (Zt (Zu .u8) x34.1.l), .int .i64 x34.1.at_]], w0⟩)])) (loc1 := [⟨3, 1, Zt (Zu .i64) s31.2.1, 0⟩, ⟨31, 4, [.agg [.nils, .nils, .nils, .nils]], 0⟩, ⟨62, 2, [.agg [.nils, .nils]], 0⟩, ⟨64, 2, [.agg [.nils, .nils]], 0⟩, ⟨31, 4, [.agg [.sl (n + 6) 0 0 (s31.2.2.1.Mine.Places).length, .sl (n + 7) 0 0 (s31.2.2.1.Mine.Roads).length, .nils, .nils]], 0⟩, ⟨64, 2, [.agg [.sl (n + 8) 0 0 (s31.2.2.2.1.Pressures).length, .sl (n + 9) 0 0 (s31.2.2.2.1.Flows).length]], 0⟩, ⟨48, 2, Zt T_Place.enc s31.2.2.1.Mine.Places, 0⟩, ⟨46, 10, Zt T_Road.enc s31.2.2.1.Mine.Roads, 0⟩, ⟨3, 1, Zt (Zu .i64) s31.2.2.2.1.Pressures, 0⟩, ⟨3, 1, Zt (Zu .i64) s31.2.2.2.1.Flows, 0⟩]) (loc2 := [⟨3, 1, Zt (Zu .i64) s31.2.1, 0⟩, ⟨31, 4, [.agg [.nils, .nils, .nils, .nils]], 0⟩, ⟨62, 2, [.agg [.nils, .nils]], 0⟩, ⟨64, 2, [.agg [.nils, .nils]], 0⟩, ⟨31, 4, [.agg [.sl (n + 6) 0 0 (s31.2.2.1.Mine.Places).length, .sl (n + 7) 0 0 (s31.2.2.1.Mine.Roads).length, .nils, .nils]], 0⟩, ⟨64, 2, [.agg [.sl (n + 8) 0 0 (s31.2.2.2.1.Pressures).length, .sl (n + 9) 0 0 (s31.2.2.2.1.Flows).length]], 0⟩, ⟨48, 2, Zt T_Place.enc s31.2.2.1.Mine.Places, 0⟩, ⟨46, 10, Zt T_Road.enc s31.2.2.1.Mine.Roads, 0⟩, ⟨3, 1, Zt (Zu .i64) s31.2.2.2.1.Pressures, 0⟩, ⟨3, 1, Zt (Zu .i64) s31.2.2.2.1.Flows, 0⟩]) rfl Try.call27 (F_draw_Codes_Next_ok h35 (nd1 na0 nd0) (Zb hB rfl 0 rfl) (Xq (Vo hn) rfl)) (Yn (ps0' := [(q0, ⟨88, 2, [.agg [.vs 1 (Zt (Zu .u8) x34.1.l), .int .i64 x34.1.at_]], w0⟩)]) hB rfl 0 rfl (Yi hn ⟨Vn ⟨.vs _ _, .int _ _, trivial⟩, trivial⟩) rfl Xj) rfl) rfl ?_
         refine Va (Xo rfl) rfl ?_
         refine Ve ?_
         refine Vf ?_
         refine Vc ?_
         obtain ⟨x36, h37, hF⟩ := Yb hF
         obtain ⟨x38, h39, hF⟩ := Yb hF
         obtain ⟨x40, h41, hF⟩ := Yb hF
         refine Va (Xb rfl) rfl ?_
         refine Va (Vk rfl) rfl ?_
         refine Va (Vk rfl) rfl ?_
         refine Va (Yv rfl rfl rfl) rfl ?_
         refine Va (Xb rfl) rfl ?_
         refine Va (Vk rfl) rfl ?_
         refine Va (Zm rfl rfl rfl) rfl ?_
         refine Vi (Xc (ps := [(q0, ⟨88, 2, [.agg [.vs 1 (Zt (Zu .u8) x36.1.l), .int .i64 x36.1.at_]], w0⟩)]) (r := .int .i64 x36.2) (os := []) (low1 := (setL low0 [(q0, ⟨88, 2, [.agg [.vs 1 (Zt (Zu .u8) x36.1.l), .int .i64 x36.1.at_]], w0⟩)])) (loc1 := [⟨3, 1, Zt (Zu .i64) s31.2.1, 0⟩, ⟨31, 4, [.agg [.nils, .nils, .nils, .nils]], 0⟩, ⟨62, 2, [.agg [.nils, .nils]], 0⟩, ⟨64, 2, [.agg [.nils, .nils]], 0⟩, ⟨31, 4, [.agg [.sl (n + 6) 0 0 (s31.2.2.1.Mine.Places).length, .sl (n + 7) 0 0 (s31.2.2.1.Mine.Roads).length, .nils, .nils]], 0⟩, ⟨64, 2, [.agg [.sl (n + 8) 0 0 (s31.2.2.2.1.Pressures).length, .sl (n + 9) 0 0 (s31.2.2.2.1.Flows).length]], 0⟩, ⟨48, 2, Zt T_Place.enc s31.2.2.1.Mine.Places, 0⟩, ⟨46, 10, Zt T_Road.enc s31.2.2.1.Mine.Roads, 0⟩, ⟨3, 1, Zt (Zu .i64) s31.2.2.2.1.Pressures, 0⟩, ⟨3, 1, Zt (Zu .i64) s31.2.2.2.1.Flows, 0⟩]) (loc2 := [⟨3, 1, Zt (Zu .i64) s31.2.1, 0⟩, ⟨31, 4, [.agg [.nils, .nils, .nils, .nils]], 0⟩, ⟨62, 2, [.agg [.nils, .nils]], 0⟩, ⟨64, 2, [.agg [.nils, .nils]], 0⟩, ⟨31, 4, [.agg [.sl (n + 6) 0 0 (s31.2.2.1.Mine.Places).length, .sl (n + 7) 0 0 (s31.2.2.1.Mine.Roads).length, .nils, .nils]], 0⟩, ⟨64, 2, [.agg [.sl (n + 8) 0 0 (s31.2.2.2.1.Pressures).length, .sl (n + 9) 0 0 (s31.2.2.2.1.Flows).length]], 0⟩, ⟨48, 2, Zt T_Place.enc s31.2.2.1.Mine.Places, 0⟩, ⟨46, 10, Zt T_Road.enc s31.2.2.1.Mine.Roads, 0⟩, ⟨3, 1, Zt (Zu .i64) s31.2.2.2.1.Pressures, 0⟩, ⟨3, 1, Zt (Zu .i64) s31.2.2.2.1.Flows, 0⟩]) rfl Try.call27 (F_draw_Codes_Next_ok h37 (nd1 na0 nd0) (Zb hB rfl 0 rfl) (Xq (Vo hn) rfl)) (Yn (ps0' := [(q0, ⟨88, 2, [.agg [.vs 1 (Zt (Zu .u8) x36.1.l), .int .i64 x36.1.at_]], w0⟩)]) hB rfl 0 rfl (Yi hn ⟨Vn ⟨.vs _ _, .int _ _, trivial⟩, trivial⟩) rfl Xj) rfl) rfl ?_
         refine Va (Yv rfl rfl rfl) rfl ?_
         refine Va (Vk rfl) rfl ?_
         refine Va (rd_rem rfl rfl (remI_some h39).1 (remI_some h39).2) rfl ?_
         refine Vi (Xc (ps := [(q0, ⟨88, 2, [.agg [.vs 1 (Zt (Zu .u8) x40.1.l), .int .i64 x40.1.at_]], w0⟩)]) (r := .agg [.int .i64 x40.2.From, .int .i64 x40.2.To, .int .i64 x40.2.Length, .int .i64 x40.2.Area, .bool x40.2.Walk, .bool x40.2.Closed, .int .i64 x40.2.Rest.Low, .int .i64 x40.2.Rest.High, .int .i64 x40.2.Lift.Low, .int .i64 x40.2.Lift.High]) (os := []) (low1 := (setL low0 [(q0, ⟨88, 2, [.agg [.vs 1 (Zt (Zu .u8) x40.1.l), .int .i64 x40.1.at_]], w0⟩)])) (loc1 := [⟨3, 1, Zt (Zu .i64) s31.2.1, 0⟩, ⟨31, 4, [.agg [.nils, .nils, .nils, .nils]], 0⟩, ⟨62, 2, [.agg [.nils, .nils]], 0⟩, ⟨64, 2, [.agg [.nils, .nils]], 0⟩, ⟨31, 4, [.agg [.sl (n + 6) 0 0 (s31.2.2.1.Mine.Places).length, .sl (n + 7) 0 0 (s31.2.2.1.Mine.Roads).length, .nils, .nils]], 0⟩, ⟨64, 2, [.agg [.sl (n + 8) 0 0 (s31.2.2.2.1.Pressures).length, .sl (n + 9) 0 0 (s31.2.2.2.1.Flows).length]], 0⟩, ⟨48, 2, Zt T_Place.enc s31.2.2.1.Mine.Places, 0⟩, ⟨46, 10, Zt T_Road.enc s31.2.2.1.Mine.Roads, 0⟩, ⟨3, 1, Zt (Zu .i64) s31.2.2.2.1.Pressures, 0⟩, ⟨3, 1, Zt (Zu .i64) s31.2.2.2.1.Flows, 0⟩]) (loc2 := [⟨3, 1, Zt (Zu .i64) s31.2.1, 0⟩, ⟨31, 4, [.agg [.nils, .nils, .nils, .nils]], 0⟩, ⟨62, 2, [.agg [.nils, .nils]], 0⟩, ⟨64, 2, [.agg [.nils, .nils]], 0⟩, ⟨31, 4, [.agg [.sl (n + 6) 0 0 (s31.2.2.1.Mine.Places).length, .sl (n + 7) 0 0 (s31.2.2.1.Mine.Roads).length, .nils, .nils]], 0⟩, ⟨64, 2, [.agg [.sl (n + 8) 0 0 (s31.2.2.2.1.Pressures).length, .sl (n + 9) 0 0 (s31.2.2.2.1.Flows).length]], 0⟩, ⟨48, 2, Zt T_Place.enc s31.2.2.1.Mine.Places, 0⟩, ⟨46, 10, Zt T_Road.enc s31.2.2.1.Mine.Roads, 0⟩, ⟨3, 1, Zt (Zu .i64) s31.2.2.2.1.Pressures, 0⟩, ⟨3, 1, Zt (Zu .i64) s31.2.2.2.1.Flows, 0⟩]) rfl Try.call37 (F_draw_Codes_Road_ok h41 (nd1 na0 nd0) (Zb hB rfl 0 rfl) (Xq (Vo hn) rfl)) (Yn (ps0' := [(q0, ⟨88, 2, [.agg [.vs 1 (Zt (Zu .u8) x40.1.l), .int .i64 x40.1.at_]], w0⟩)]) hB rfl 0 rfl (Yi hn ⟨Vn ⟨.vs _ _, .int _ _, trivial⟩, trivial⟩) rfl Xj) rfl) rfl ?_
         refine Vi (Xh (Vo hn) rfl tz_46 rfl rfl (Zy _) rfl) rfl ?_
         refine Vi (Vv (p := .agg [.int .i64 x40.2.From, .int .i64 x40.2.To, .int .i64 x40.2.Length, .int .i64 x40.2.Area, .bool x40.2.Walk, .bool x40.2.Closed, .int .i64 x40.2.Rest.Low, .int .i64 x40.2.Rest.High, .int .i64 x40.2.Lift.Low, .int .i64 x40.2.Lift.High]) (e' := .agg [.int .i64 x40.2.From, .int .i64 x40.2.To, .int .i64 x40.2.Length, .int .i64 x40.2.Area, .bool x40.2.Walk, .bool x40.2.Closed, .int .i64 x40.2.Rest.Low, .int .i64 x40.2.Rest.High, .int .i64 x40.2.Lift.Low, .int .i64 x40.2.Lift.High]) rfl (Vg (Vo hn) rfl) rfl rfl ts_46 rfl (Yc rfl) rfl (Zx rfl) rfl (Xg (Vo hn) rfl)) rfl ?_
         refine Ve ?_
         refine Vf ?_
         refine Vc ?_
         obtain ⟨x42, h43, hF⟩ := Yb hF
         refine Va (Xb rfl) rfl ?_
         refine Vi (Xc (ps := [(q0, ⟨88, 2, [.agg [.vs 1 (Zt (Zu .u8) x42.1.l), .int .i64 x42.1.at_]], w0⟩)]) (r := .bool x42.2) (os := []) (low1 := (setL low0 [(q0, ⟨88, 2, [.agg [.vs 1 (Zt (Zu .u8) x42.1.l), .int .i64 x42.1.at_]], w0⟩)])) (loc1 := [⟨3, 1, Zt (Zu .i64) s31.2.1, 0⟩, ⟨31, 4, [.agg [.nils, .nils, .nils, .nils]], 0⟩, ⟨62, 2, [.agg [.nils, .nils]], 0⟩, ⟨64, 2, [.agg [.nils, .nils]], 0⟩, ⟨31, 4, [.agg [.sl (n + 6) 0 0 (s31.2.2.1.Mine.Places).length, .sl (n + 7) 0 0 (s31.2.2.1.Mine.Roads).length, .nils, .nils]], 0⟩, ⟨64, 2, [.agg [.sl (n + 8) 0 0 (s31.2.2.2.1.Pressures).length, .sl (n + 9) 0 0 (s31.2.2.2.1.Flows).length]], 0⟩, ⟨48, 2, Zt T_Place.enc s31.2.2.1.Mine.Places, 0⟩, ⟨46, 10, Zt T_Road.enc s31.2.2.1.Mine.Roads, 0⟩, ⟨3, 1, Zt (Zu .i64) s31.2.2.2.1.Pressures, 0⟩, ⟨3, 1, Zt (Zu .i64) s31.2.2.2.1.Flows, 0⟩, ⟨46, 10, [.agg [.int .i64 x40.2.From, .int .i64 x40.2.To, .int .i64 x40.2.Length, .int .i64 x40.2.Area, .bool x40.2.Walk, .bool x40.2.Closed, .int .i64 x40.2.Rest.Low, .int .i64 x40.2.Rest.High, .int .i64 x40.2.Lift.Low, .int .i64 x40.2.Lift.High]], 0⟩]) (loc2 := [⟨3, 1, Zt (Zu .i64) s31.2.1, 0⟩, ⟨31, 4, [.agg [.nils, .nils, .nils, .nils]], 0⟩, ⟨62, 2, [.agg [.nils, .nils]], 0⟩, ⟨64, 2, [.agg [.nils, .nils]], 0⟩, ⟨31, 4, [.agg [.sl (n + 6) 0 0 (s31.2.2.1.Mine.Places).length, .sl (n + 7) 0 0 (s31.2.2.1.Mine.Roads).length, .nils, .nils]], 0⟩, ⟨64, 2, [.agg [.sl (n + 8) 0 0 (s31.2.2.2.1.Pressures).length, .sl (n + 9) 0 0 (s31.2.2.2.1.Flows).length]], 0⟩, ⟨48, 2, Zt T_Place.enc s31.2.2.1.Mine.Places, 0⟩, ⟨46, 10, Zt T_Road.enc s31.2.2.1.Mine.Roads, 0⟩, ⟨3, 1, Zt (Zu .i64) s31.2.2.2.1.Pressures, 0⟩, ⟨3, 1, Zt (Zu .i64) s31.2.2.2.1.Flows, 0⟩, ⟨46, 10, [.agg [.int .i64 x40.2.From, .int .i64 x40.2.To, .int .i64 x40.2.Length, .int .i64 x40.2.Area, .bool x40.2.Walk, .bool x40.2.Closed, .int .i64 x40.2.Rest.Low, .int .i64 x40.2.Rest.High, .int .i64 x40.2.Lift.Low, .int .i64 x40.2.Lift.High]], 0⟩]) rfl Try.call25 (F_draw_Codes_One_ok h43 (nd1 na0 nd0) (Zb hB rfl 0 rfl) (Xq (Vo hn) rfl)) (Yn (ps0' := [(q0, ⟨88, 2, [.agg [.vs 1 (Zt (Zu .u8) x42.1.l), .int .i64 x42.1.at_]], w0⟩)]) hB rfl 0 rfl (Yi hn ⟨Vn ⟨.vs _ _, .int _ _, trivial⟩, trivial⟩) rfl Xj) rfl) rfl ?_
         refine Va (Vb rfl tf_46_5 ts_4 (by decide)) rfl ?_
         refine Vi (Vv (p := .bool x42.2) (e' := .agg [.int .i64 x40.2.From, .int .i64 x40.2.To, .int .i64 x40.2.Length, .int .i64 x40.2.Area, .bool x40.2.Walk, .bool x42.2, .int .i64 x40.2.Rest.Low, .int .i64 x40.2.Rest.High, .int .i64 x40.2.Lift.Low, .int .i64 x40.2.Lift.High]) rfl (Vg (Vo hn) rfl) rfl rfl ts_4 rfl (Yc rfl) rfl (Zx rfl) rfl (Xg (Vo hn) rfl)) rfl ?_
         refine Ve ?_
         refine Vf ?_
         refine Vc ?_
         obtain ⟨x44, h45, hF⟩ := Yb hF
         refine Va (Xb rfl) rfl ?_
         refine Vi (Xc (ps := [(q0, ⟨88, 2, [.agg [.vs 1 (Zt (Zu .u8) x44.1.l), .int .i64 x44.1.at_]], w0⟩)]) (r := .int .i64 x44.2) (os := []) (low1 := (setL low0 [(q0, ⟨88, 2, [.agg [.vs 1 (Zt (Zu .u8) x44.1.l), .int .i64 x44.1.at_]], w0⟩)])) (loc1 := [⟨3, 1, Zt (Zu .i64) s31.2.1, 0⟩, ⟨31, 4, [.agg [.nils, .nils, .nils, .nils]], 0⟩, ⟨62, 2, [.agg [.nils, .nils]], 0⟩, ⟨64, 2, [.agg [.nils, .nils]], 0⟩, ⟨31, 4, [.agg [.sl (n + 6) 0 0 (s31.2.2.1.Mine.Places).length, .sl (n + 7) 0 0 (s31.2.2.1.Mine.Roads).length, .nils, .nils]], 0⟩, ⟨64, 2, [.agg [.sl (n + 8) 0 0 (s31.2.2.2.1.Pressures).length, .sl (n + 9) 0 0 (s31.2.2.2.1.Flows).length]], 0⟩, ⟨48, 2, Zt T_Place.enc s31.2.2.1.Mine.Places, 0⟩, ⟨46, 10, Zt T_Road.enc s31.2.2.1.Mine.Roads, 0⟩, ⟨3, 1, Zt (Zu .i64) s31.2.2.2.1.Pressures, 0⟩, ⟨3, 1, Zt (Zu .i64) s31.2.2.2.1.Flows, 0⟩, ⟨46, 10, [.agg [.int .i64 x40.2.From, .int .i64 x40.2.To, .int .i64 x40.2.Length, .int .i64 x40.2.Area, .bool x40.2.Walk, .bool x42.2, .int .i64 x40.2.Rest.Low, .int .i64 x40.2.Rest.High, .int .i64 x40.2.Lift.Low, .int .i64 x40.2.Lift.High]], 0⟩]) (loc2 := [⟨3, 1, Zt (Zu .i64) s31.2.1, 0⟩, ⟨31, 4, [.agg [.nils, .nils, .nils, .nils]], 0⟩, ⟨62, 2, [.agg [.nils, .nils]], 0⟩, ⟨64, 2, [.agg [.nils, .nils]], 0⟩, ⟨31, 4, [.agg [.sl (n + 6) 0 0 (s31.2.2.1.Mine.Places).length, .sl (n + 7) 0 0 (s31.2.2.1.Mine.Roads).length, .nils, .nils]], 0⟩, ⟨64, 2, [.agg [.sl (n + 8) 0 0 (s31.2.2.2.1.Pressures).length, .sl (n + 9) 0 0 (s31.2.2.2.1.Flows).length]], 0⟩, ⟨48, 2, Zt T_Place.enc s31.2.2.1.Mine.Places, 0⟩, ⟨46, 10, Zt T_Road.enc s31.2.2.1.Mine.Roads, 0⟩, ⟨3, 1, Zt (Zu .i64) s31.2.2.2.1.Pressures, 0⟩, ⟨3, 1, Zt (Zu .i64) s31.2.2.2.1.Flows, 0⟩, ⟨46, 10, [.agg [.int .i64 x40.2.From, .int .i64 x40.2.To, .int .i64 x40.2.Length, .int .i64 x40.2.Area, .bool x40.2.Walk, .bool x42.2, .int .i64 x40.2.Rest.Low, .int .i64 x40.2.Rest.High, .int .i64 x40.2.Lift.Low, .int .i64 x40.2.Lift.High]], 0⟩]) rfl Try.call28 (F_draw_Codes_Range_ok h45 (nd1 na0 nd0) (Zb hB rfl 0 rfl) (Xq (Vo hn) rfl)) (Yn (ps0' := [(q0, ⟨88, 2, [.agg [.vs 1 (Zt (Zu .u8) x44.1.l), .int .i64 x44.1.at_]], w0⟩)]) hB rfl 0 rfl (Yi hn ⟨Vn ⟨.vs _ _, .int _ _, trivial⟩, trivial⟩) rfl Xj) rfl) rfl ?_
         refine Va (Xo rfl) rfl ?_
         refine Ve ?_
         refine Vf ?_
         refine Vf ?_
         refine Vc ?_
         refine Va (Vb rfl tf_46_5 ts_4 (by decide)) rfl ?_
         refine Va (Vj rfl (Vg (Vo hn) rfl) rfl ta_4 rfl) rfl ?_
         refine Ve ?_
         obtain ⟨o46, ho46, hF⟩ := Yb hF
         refine Vr (Q' := (fun o46 => OnlyE .normal (fun E' lw lc => Xt E' lw lc [(0, .ptr q0 w0 0 0), (2, .ptr (n + 2) 0 0 0), (3, .ptr (n + 3) 0 0 0), (4, .ptr (n + 4) 0 0 0), (5, .ptr (n + 5) 0 0 0), (6, .int .i64 ((o3).length : Int)), (8, .int .i64 ((o10.1).length : Int)), (9, .ptr (n + 6) 0 0 0), (11, .sl (n + 0) 0 0 (s31.2.1).length), (12, .int .i64 s31.1), (14, .ptr (n + 1) 0 0 0), (15, .int .i64 o46.1)] (setL low0 [(q0, ⟨88, 2, [.agg [.vs 1 (Zt (Zu .u8) x44.1.l), .int .i64 x44.1.at_]], w0⟩)]) [⟨3, 1, Zt (Zu .i64) s31.2.1, 0⟩, ⟨46, 10, [.agg [.int .i64 x40.2.From, .int .i64 x40.2.To, .int .i64 x40.2.Length, .int .i64 x40.2.Area, .bool x40.2.Walk, .bool x42.2, .int .i64 x40.2.Rest.Low, .int .i64 x40.2.Rest.High, .int .i64 x40.2.Lift.Low, .int .i64 x40.2.Lift.High]], 0⟩, ⟨31, 4, [.agg [.nils, .nils, .nils, .nils]], 0⟩, ⟨62, 2, [.agg [.nils, .nils]], 0⟩, ⟨64, 2, [.agg [.nils, .nils]], 0⟩, ⟨31, 4, [.agg [.sl (n + 7) 0 0 (o46.2.1.Mine.Places).length, .sl (n + 8) 0 0 (o46.2.1.Mine.Roads).length, .nils, .nils]], 0⟩, ⟨64, 2, [.agg [.sl (n + 9) 0 0 (o46.2.2.Pressures).length, .sl (n + 10) 0 0 (o46.2.2.Flows).length]], 0⟩, ⟨48, 2, Zt T_Place.enc o46.2.1.Mine.Places, 0⟩, ⟨46, 10, Zt T_Road.enc o46.2.1.Mine.Roads, 0⟩, ⟨3, 1, Zt (Zu .i64) o46.2.2.Pressures, 0⟩, ⟨3, 1, Zt (Zu .i64) o46.2.2.Flows, 0⟩])) o46) ?_ ?_
         ·replace hF := ho46
          refine Xd rfl (fun c47 => ?_) (fun c47 => ?_)
          ·have hF := Ys c47 hF
           refine Vc ?_
           refine Va (Xo rfl) rfl ?_
           refine Ve ?_
           obtain rfl := Zw hF
           refine Vz ?_
           exact Vm (Vo hn) [(0, 0), (10, 0), (1, 0), (2, 0), (3, 0), (4, 0), (5, 0), (6, 0), (7, 0), (8, 0), (9, 0)] (by decide) ⟨Vh rfl (.ptr _ _ _ _ hq0), Vs 2 1 rfl rfl, Vs 3 2 rfl rfl, Vs 4 3 rfl rfl, Vs 5 4 rfl rfl, Vh rfl (.int _ _), Vh rfl (.int _ _), Vs 6 5 rfl rfl, Xu 0 0 rfl rfl, Vh rfl (.int _ _), Vs 1 10 rfl rfl, Vh rfl (.int _ _), trivial⟩ ⟨⟨_, rfl, rfl, .same _ _ _ _ (Vq (fun _ => .int _ _))⟩, ⟨_, rfl, rfl, .same _ _ _ _ (Vl ⟨Vn ⟨.int _ _, .int _ _, .int _ _, .int _ _, .bool _, .bool _, .int _ _, .int _ _, .int _ _, .int _ _, trivial⟩, trivial⟩)⟩, ⟨_, rfl, rfl, .same _ _ _ _ (Vl ⟨Vn ⟨.nils, .nils, .nils, .nils, trivial⟩, trivial⟩)⟩, ⟨_, rfl, rfl, .same _ _ _ _ (Vl ⟨Vn ⟨.nils, .nils, trivial⟩, trivial⟩)⟩, ⟨_, rfl, rfl, .same _ _ _ _ (Vl ⟨Vn ⟨.nils, .nils, trivial⟩, trivial⟩)⟩, ⟨_, rfl, rfl, .agg _ _ _ _ _ ⟨Xu 7 6 rfl rfl, Xu 8 7 rfl rfl, Vh rfl (.nils), Vh rfl (.nils), trivial⟩⟩, ⟨_, rfl, rfl, .agg _ _ _ _ _ ⟨Xu 9 8 rfl rfl, Xu 10 9 rfl rfl, trivial⟩⟩, ⟨_, rfl, rfl, .same _ _ _ _ (Vq T_Place.enc_lt)⟩, ⟨_, rfl, rfl, .same _ _ _ _ (Vq T_Road.enc_lt)⟩, ⟨_, rfl, rfl, .same _ _ _ _ (Vq (fun _ => .int _ _))⟩, ⟨_, rfl, rfl, .same _ _ _ _ (Vq (fun _ => .int _ _))⟩, trivial⟩
          ·have hF := Yt c47 hF
           refine Xf ?_
           obtain rfl := Zw hF
           refine Vz ?_
           exact Vm (Vo hn) [(0, 0), (10, 0), (1, 0), (2, 0), (3, 0), (4, 0), (5, 0), (6, 0), (7, 0), (8, 0), (9, 0)] (by decide) ⟨Vh rfl (.ptr _ _ _ _ hq0), Vs 2 1 rfl rfl, Vs 3 2 rfl rfl, Vs 4 3 rfl rfl, Vs 5 4 rfl rfl, Vh rfl (.int _ _), Vh rfl (.int _ _), Vs 6 5 rfl rfl, Xu 0 0 rfl rfl, Vh rfl (.int _ _), Vs 1 10 rfl rfl, Vh rfl (.int _ _), trivial⟩ ⟨⟨_, rfl, rfl, .same _ _ _ _ (Vq (fun _ => .int _ _))⟩, ⟨_, rfl, rfl, .same _ _ _ _ (Vl ⟨Vn ⟨.int _ _, .int _ _, .int _ _, .int _ _, .bool _, .bool _, .int _ _, .int _ _, .int _ _, .int _ _, trivial⟩, trivial⟩)⟩, ⟨_, rfl, rfl, .same _ _ _ _ (Vl ⟨Vn ⟨.nils, .nils, .nils, .nils, trivial⟩, trivial⟩)⟩, ⟨_, rfl, rfl, .same _ _ _ _ (Vl ⟨Vn ⟨.nils, .nils, trivial⟩, trivial⟩)⟩, ⟨_, rfl, rfl, .same _ _ _ _ (Vl ⟨Vn ⟨.nils, .nils, trivial⟩, trivial⟩)⟩, ⟨_, rfl, rfl, .agg _ _ _ _ _ ⟨Xu 7 6 rfl rfl, Xu 8 7 rfl rfl, Vh rfl (.nils), Vh rfl (.nils), trivial⟩⟩, ⟨_, rfl, rfl, .agg _ _ _ _ _ ⟨Xu 9 8 rfl rfl, Xu 10 9 rfl rfl, trivial⟩⟩, ⟨_, rfl, rfl, .same _ _ _ _ (Vq T_Place.enc_lt)⟩, ⟨_, rfl, rfl, .same _ _ _ _ (Vq T_Road.enc_lt)⟩, ⟨_, rfl, rfl, .same _ _ _ _ (Vq (fun _ => .int _ _))⟩, ⟨_, rfl, rfl, .same _ _ _ _ (Vq (fun _ => .int _ _))⟩, trivial⟩
         ·rintro _ _ _ _ ⟨rfl, hw⟩
          refine ⟨_, _, _, hw, ?_⟩
          refine Vf ?_
          obtain ⟨x48, h49, hF⟩ := Yb hF
          obtain ⟨x50, h51, hF⟩ := Yb hF
          refine Zh [[], [0], [0, 1], [], [3], [0, 1, 2, 3, 4], [], [6], [], [8], [0, 1, 2, 3, 4, 5, 6, 7, 8, 9], [0, 1, 2, 3, 4, 5, 6, 7, 8, 9, 10], [0, 1, 2, 3, 4, 5, 6, 7, 8, 9, 10, 11], [0, 1, 2, 3, 4, 5, 6, 7, 8, 9, 10, 11, 12], [0, 1, 2, 3, 4, 5, 6, 7, 8, 9, 10, 11, 12, 13], [0, 1, 2, 3, 4, 5, 6, 7, 8, 9, 10, 11, 12, 13, 14]] [false, false, false, false, false, true, false, false, false, false, true, false, false, true, false, true] [((setL low0 [(q0, ⟨88, 2, [.agg [.vs 1 (Zt (Zu .u8) x44.1.l), .int .i64 x44.1.at_]], w0⟩)]), [⟨3, 1, Zt (Zu .i64) s31.2.1, 0⟩, ⟨46, 10, [.agg [.int .i64 x40.2.From, .int .i64 x40.2.To, .int .i64 x40.2.Length, .int .i64 x40.2.Area, .bool x40.2.Walk, .bool x42.2, .int .i64 x40.2.Rest.Low, .int .i64 x40.2.Rest.High, .int .i64 x40.2.Lift.Low, .int .i64 x40.2.Lift.High]], 0⟩, ⟨31, 4, [.agg [.nils, .nils, .nils, .nils]], 0⟩, ⟨62, 2, [.agg [.nils, .nils]], 0⟩, ⟨64, 2, [.agg [.nils, .nils]], 0⟩, ⟨31, 4, [.agg [.sl (n + 7) 0 0 (o46.2.1.Mine.Places).length, .sl (n + 8) 0 0 (o46.2.1.Mine.Roads).length, .nils, .nils]], 0⟩, ⟨64, 2, [.agg [.sl (n + 9) 0 0 (o46.2.2.Pressures).length, .sl (n + 10) 0 0 (o46.2.2.Flows).length]], 0⟩, ⟨48, 2, Zt T_Place.enc o46.2.1.Mine.Places, 0⟩, ⟨46, 10, Zt T_Road.enc o46.2.1.Mine.Roads, 0⟩, ⟨3, 1, Zt (Zu .i64) o46.2.2.Pressures, 0⟩, ⟨3, 1, Zt (Zu .i64) o46.2.2.Flows, 0⟩]), ((setL low0 [(q0, ⟨88, 2, [.agg [.vs 1 (Zt (Zu .u8) x44.1.l), .int .i64 x44.1.at_]], w0⟩)]), [⟨3, 1, Zt (Zu .i64) s31.2.1, 0⟩, ⟨46, 10, [.agg [.int .i64 x40.2.From, .int .i64 x40.2.To, .int .i64 x40.2.Length, .int .i64 x40.2.Area, .bool x40.2.Walk, .bool x42.2, .int .i64 x40.2.Rest.Low, .int .i64 x40.2.Rest.High, .int .i64 x40.2.Lift.Low, .int .i64 x40.2.Lift.High]], 0⟩, ⟨31, 4, [.agg [.nils, .nils, .nils, .nils]], 0⟩, ⟨62, 2, [.agg [.nils, .nils]], 0⟩, ⟨64, 2, [.agg [.nils, .nils]], 0⟩, ⟨31, 4, [.agg [.sl (n + 7) 0 0 (o46.2.1.Mine.Places).length, .sl (n + 8) 0 0 (o46.2.1.Mine.Roads).length, .nils, .nils]], 0⟩, ⟨64, 2, [.agg [.sl (n + 9) 0 0 (o46.2.2.Pressures).length, .sl (n + 10) 0 0 (o46.2.2.Flows).length]], 0⟩, ⟨48, 2, Zt T_Place.enc o46.2.1.Mine.Places, 0⟩, ⟨46, 10, Zt T_Road.enc x48, 0 + 1⟩, ⟨3, 1, Zt (Zu .i64) o46.2.2.Pressures, 0⟩, ⟨3, 1, Zt (Zu .i64) o46.2.2.Flows, 0⟩]), ((setL low0 [(q0, ⟨88, 2, [.agg [.vs 1 (Zt (Zu .u8) x44.1.l), .int .i64 x44.1.at_]], w0⟩)]), [⟨3, 1, Zt (Zu .i64) s31.2.1, 0⟩, ⟨46, 10, [.agg [.int .i64 x40.2.From, .int .i64 x40.2.To, .int .i64 x40.2.Length, .int .i64 x40.2.Area, .bool x40.2.Walk, .bool x42.2, .int .i64 x40.2.Rest.Low, .int .i64 x40.2.Rest.High, .int .i64 x40.2.Lift.Low, .int .i64 x40.2.Lift.High]], 0⟩, ⟨31, 4, [.agg [.nils, .nils, .nils, .nils]], 0⟩, ⟨62, 2, [.agg [.nils, .nils]], 0⟩, ⟨64, 2, [.agg [.nils, .nils]], 0⟩, ⟨31, 4, [.agg [.sl (n + 7) 0 0 (o46.2.1.Mine.Places).length, .sl (n + 8) 0 0 (o46.2.1.Mine.Roads).length, .nils, .nils]], 0⟩, ⟨64, 2, [.agg [.sl (n + 9) 0 0 (o46.2.2.Pressures).length, .sl (n + 10) 0 0 (o46.2.2.Flows).length]], 0⟩, ⟨48, 2, Zt T_Place.enc o46.2.1.Mine.Places, 0⟩, ⟨46, 10, Zt T_Road.enc x48, 0 + 1⟩, ⟨3, 1, Zt (Zu .i64) o46.2.2.Pressures, 0⟩, ⟨3, 1, Zt (Zu .i64) x50, 0 + 1⟩]), ((setL low0 [(q0, ⟨88, 2, [.agg [.vs 1 (Zt (Zu .u8) x44.1.l), .int .i64 x44.1.at_]], w0⟩)]), [⟨3, 1, Zt (Zu .i64) s31.2.1, 0⟩, ⟨46, 10, [.agg [.int .i64 x40.2.From, .int .i64 x40.2.To, .int .i64 x40.2.Length, .int .i64 x40.2.Area, .bool x40.2.Walk, .bool x42.2, .int .i64 x40.2.Rest.Low, .int .i64 x40.2.Rest.High, .int .i64 x40.2.Lift.Low, .int .i64 x40.2.Lift.High]], 0⟩, ⟨31, 4, [.agg [.nils, .nils, .nils, .nils]], 0⟩, ⟨62, 2, [.agg [.nils, .nils]], 0⟩, ⟨64, 2, [.agg [.nils, .nils]], 0⟩, ⟨31, 4, [.agg [.sl (n + 7) 0 0 (o46.2.1.Mine.Places).length, .sl (n + 8) (0 + 1) 0 (x48).length, .nils, .nils]], 0⟩, ⟨64, 2, [.agg [.sl (n + 9) 0 0 (o46.2.2.Pressures).length, .sl (n + 10) 0 0 (o46.2.2.Flows).length]], 0⟩, ⟨48, 2, Zt T_Place.enc o46.2.1.Mine.Places, 0⟩, ⟨46, 10, Zt T_Road.enc x48, 0 + 1⟩, ⟨3, 1, Zt (Zu .i64) o46.2.2.Pressures, 0⟩, ⟨3, 1, Zt (Zu .i64) x50, 0 + 1⟩]), ((setL low0 [(q0, ⟨88, 2, [.agg [.vs 1 (Zt (Zu .u8) x44.1.l), .int .i64 x44.1.at_]], w0⟩)]), [⟨3, 1, Zt (Zu .i64) s31.2.1, 0⟩, ⟨46, 10, [.agg [.int .i64 x40.2.From, .int .i64 x40.2.To, .int .i64 x40.2.Length, .int .i64 x40.2.Area, .bool x40.2.Walk, .bool x42.2, .int .i64 x40.2.Rest.Low, .int .i64 x40.2.Rest.High, .int .i64 x40.2.Lift.Low, .int .i64 x40.2.Lift.High]], 0⟩, ⟨31, 4, [.agg [.nils, .nils, .nils, .nils]], 0⟩, ⟨62, 2, [.agg [.nils, .nils]], 0⟩, ⟨64, 2, [.agg [.nils, .nils]], 0⟩, ⟨31, 4, [.agg [.sl (n + 7) 0 0 (o46.2.1.Mine.Places).length, .sl (n + 8) (0 + 1) 0 (x48).length, .nils, .nils]], 0⟩, ⟨64, 2, [.agg [.sl (n + 9) 0 0 (o46.2.2.Pressures).length, .sl (n + 10) (0 + 1) 0 (x50).length]], 0⟩, ⟨48, 2, Zt T_Place.enc o46.2.1.Mine.Places, 0⟩, ⟨46, 10, Zt T_Road.enc x48, 0 + 1⟩, ⟨3, 1, Zt (Zu .i64) o46.2.2.Pressures, 0⟩, ⟨3, 1, Zt (Zu .i64) x50, 0 + 1⟩])] mixed (by kernel_rfl) rfl (lenAll (Vu Xi (Vu Xi (Vu Xi (Vu Xi (Vu Xi Yq)))))) rfl _ rfl rfl ?_
          refine Xx rfl rfl (Vb rfl tf_31_0 ts_27 (by decide)) ?_
          refine Xx rfl rfl (Vb rfl tf_27_1 ts_25 (by decide)) ?_
          refine Xx rfl rfl (Vj rfl (Vg (Vo hn) rfl) rfl ta_25 rfl) ?_
          refine Xx rfl rfl (Xe (ds := [.int .i64 x40.2.From, .int .i64 x40.2.To, .int .i64 x40.2.Length, .int .i64 x40.2.Area, .bool x40.2.Walk, .bool x42.2, .int .i64 x40.2.Rest.Low, .int .i64 x40.2.Rest.High, .int .i64 x40.2.Lift.Low, .int .i64 x40.2.Lift.High]) rfl (Vg (Vo hn) rfl) rfl ta_46 ts_46 rfl rfl rfl) ?_
          refine dn1 rfl rfl (nt_of (Ym (es := Zt T_Road.enc [(T_Road.mk x40.2.From x40.2.To x40.2.Length x40.2.Area x40.2.Walk x42.2 x40.2.Rest x40.2.Lift)]) ⟨rfl, rfl, trivial⟩ rfl rfl (Zg rfl) te_25 ts_46 tz_46 rfl rfl (Zy _) (by decide) (Yh T_Road.enc_lt))) ?_
          refine Xv rfl rfl rfl (Zq (f := T_Road.enc) (l := o46.2.1.Mine.Roads) (ys := [(T_Road.mk x40.2.From x40.2.To x40.2.Length x40.2.Area x40.2.Walk x42.2 x40.2.Rest x40.2.Lift)]) rfl rfl (Vg (Vo hn) rfl) rfl (src_vs rfl) te_25 ts_46 tb_46 (by decide) tz_46 rfl h49 (Xg (Vo hn) rfl)) ?_
          refine Vw _ rfl rfl (Vu (VRd.ntl (Vb rfl tf_64_1 ts_32 (by decide))) (Vu (VRd.ntl (Vb rfl tf_64_1 ts_32 (by decide))) Yq)) ?_
          refine Vw _ rfl rfl (Vu (VRd.ntl (Vj rfl (Vg (Vo hn) rfl) rfl ta_32 rfl)) (Vu (VRd.ntl (Vj rfl (Vg (Vo hn) rfl) rfl ta_32 rfl)) Yq)) ?_
          refine Vw _ rfl rfl (Vu (VRd.ntl (Vk rfl)) (Vu (VRd.ntl (Vk rfl)) Yq)) ?_
          refine Vw _ rfl rfl (Vu (nt_of (Ym (es := Zt (Zu .i64) [o46.1]) ⟨rfl, rfl, trivial⟩ rfl rfl (Zg rfl) te_32 ts_3 tz_3 rfl rfl (Zy _) (by decide) (Yh (fun _ => .int _ _)))) (Vu (nt_of (Ym (es := Zt (Zu .i64) [o46.1]) ⟨rfl, rfl, trivial⟩ rfl rfl (Zg rfl) te_32 ts_3 tz_3 rfl rfl (Zy _) (by decide) (Yh (fun _ => .int _ _)))) Yq)) ?_
          refine Xv rfl rfl rfl (Zq (f := (Zu .i64)) (l := o46.2.2.Flows) (ys := [o46.1]) rfl rfl (Vg (Vo hn) rfl) rfl (src_vs rfl) te_32 ts_3 tb_3 (by decide) tz_3 rfl h51 (Xg (Vo hn) rfl)) ?_
          refine Xx rfl rfl (Vb rfl tf_31_0 ts_27 (by decide)) ?_
          refine Xx rfl rfl (Vb rfl tf_27_1 ts_25 (by decide)) ?_
          refine Xv rfl rfl rfl (Vv (p := .sl (n + 8) (0 + 1) 0 (x48).length) (e' := .agg [.sl (n + 7) 0 0 (o46.2.1.Mine.Places).length, .sl (n + 8) (0 + 1) 0 (x48).length, .nils, .nils]) rfl (Vg (Vo hn) rfl) rfl rfl ts_25 rfl (Yc rfl) rfl (Zx rfl) rfl (Xg (Vo hn) rfl)) ?_
          refine Xx rfl rfl (Vb rfl tf_64_1 ts_32 (by decide)) ?_
          refine Xv rfl rfl rfl (Vv (p := .sl (n + 10) (0 + 1) 0 (x50).length) (e' := .agg [.sl (n + 9) 0 0 (o46.2.2.Pressures).length, .sl (n + 10) (0 + 1) 0 (x50).length]) rfl (Vg (Vo hn) rfl) rfl rfl ts_32 rfl (Yc rfl) rfl (Zx rfl) rfl (Xg (Vo hn) rfl)) ?_
          refine Yk ?_
          refine Vf ?_
          refine Vc ?_
          obtain ⟨x52, h53, hF⟩ := Yb hF
          obtain ⟨x54, h55, hF⟩ := Yb hF
          refine Va (Yw rfl) rfl ?_
          refine Va (Vb rfl tf_46_0 ts_3 (by decide)) rfl ?_
          refine Va (Vj rfl (Vg (Vo hn) rfl) rfl ta_3 rfl) rfl ?_
          refine Va (Zl rfl rfl rfl (Vg (Vo hn) rfl) h53 te_32 ts_3) rfl ?_
          refine Va (Zk rfl (Vg (Vo hn) rfl) (Ye h53).2 ta_3 rfl) rfl ?_
          refine Va (Vk rfl) rfl ?_
          refine Va (Yv rfl rfl rfl) rfl ?_
          refine Va (Zl rfl rfl rfl (Vg (Vo hn) rfl) h55 te_32 ts_3) rfl ?_
          refine Vi (vef_stL (p := .int .i64 (IntKind.i64.wrap (x52 + o46.1))) (e' := (IntKind.i64.wrap (x52 + o46.1))) rfl (Vg (Vo hn) rfl) (Ye h55).2 rfl ts_3 rfl (Yc rfl) (Zx rfl) rfl (Xg (Vo hn) rfl)) rfl ?_
          refine Ve ?_
          refine Vc ?_
          obtain ⟨x56, h57, hF⟩ := Yb hF
          obtain ⟨x58, h59, hF⟩ := Yb hF
          refine Va (Yw rfl) rfl ?_
          refine Va (Vb rfl tf_46_1 ts_3 (by decide)) rfl ?_
          refine Va (Vj rfl (Vg (Vo hn) rfl) rfl ta_3 rfl) rfl ?_
          refine Va (Zl rfl (Eq.trans rfl List.length_set.symm) rfl (Vg (Vo hn) rfl) h57 te_32 ts_3) rfl ?_
          refine Va (Zk rfl (Vg (Vo hn) rfl) (Ye h57).2 ta_3 rfl) rfl ?_
          refine Va (Vk rfl) rfl ?_
          refine Va (Zm rfl rfl rfl) rfl ?_
          refine Va (Zl rfl (Eq.trans rfl List.length_set.symm) rfl (Vg (Vo hn) rfl) h59 te_32 ts_3) rfl ?_
          refine Vi (vef_stL (p := .int .i64 (IntKind.i64.wrap (x56 - o46.1))) (e' := (IntKind.i64.wrap (x56 - o46.1))) rfl (Vg (Vo hn) rfl) (Ye h59).2 rfl ts_3 rfl (Yc rfl) (Zx rfl) rfl (Xg (Vo hn) rfl)) rfl ?_
          refine Ve ?_
          refine Vc ?_
          refine Va (Vk rfl) rfl ?_
          refine Va (Zm rfl rfl rfl) rfl ?_
          refine Va (Xo rfl) rfl ?_
          refine Ve ?_
          obtain rfl := Zw hF
          refine Vz ?_
          exact Vm (Vo hn) [(0, 0), (2, 0), (3, 0), (4, 0), (5, 0), (6, 0), (7, 0), (8, 0 + 1), (9, 0), (10, 0 + 1)] (by decide) ⟨Vh rfl (.ptr _ _ _ _ hq0), Vs 1 2 rfl rfl, Vs 2 3 rfl rfl, Vs 3 4 rfl rfl, Vs 4 5 rfl rfl, Vh rfl (.int _ _), Vh rfl (.int _ _), Vs 5 6 rfl rfl, Xu 0 0 rfl (congrArg (PV.sl _ _ 0) (Eq.trans (Eq.trans rfl List.length_set.symm) List.length_set.symm)), Vh rfl (.int _ _), trivial⟩ ⟨⟨_, rfl, rfl, .same _ _ _ _ (Vq (fun _ => .int _ _))⟩, ⟨_, rfl, rfl, .same _ _ _ _ (Vl ⟨Vn ⟨.nils, .nils, .nils, .nils, trivial⟩, trivial⟩)⟩, ⟨_, rfl, rfl, .same _ _ _ _ (Vl ⟨Vn ⟨.nils, .nils, trivial⟩, trivial⟩)⟩, ⟨_, rfl, rfl, .same _ _ _ _ (Vl ⟨Vn ⟨.nils, .nils, trivial⟩, trivial⟩)⟩, ⟨_, rfl, rfl, .agg _ _ _ _ _ ⟨Xu 6 7 rfl rfl, Xu 7 8 rfl rfl, Vh rfl (.nils), Vh rfl (.nils), trivial⟩⟩, ⟨_, rfl, rfl, .agg _ _ _ _ _ ⟨Xu 8 9 rfl rfl, Xu 9 10 rfl rfl, trivial⟩⟩, ⟨_, rfl, rfl, .same _ _ _ _ (Vq T_Place.enc_lt)⟩, ⟨_, rfl, rfl, .same _ _ _ _ (Vq T_Road.enc_lt)⟩, ⟨_, rfl, rfl, .same _ _ _ _ (Vq (fun _ => .int _ _))⟩, ⟨_, rfl, rfl, .same _ _ _ _ (Vq (fun _ => .int _ _))⟩, trivial⟩
        ·have hF := Yt c33 hF
         refine Yu ?_
         obtain rfl := Zw hF
         refine Vz ?_
         exact Vp ⟨rfl, rfl, rfl, rfl, rfl, rfl, rfl, rfl, rfl, trivial⟩
       ·rintro _ _ _ _ ⟨rfl, hw⟩
        refine ⟨_, _, _, hw, ?_⟩
        obtain rfl := Zw hF
        refine Vz ?_
        exact Vp ⟨rfl, rfl, rfl, rfl, rfl, rfl, rfl, rfl, rfl, trivial⟩
      ·have hF := Yt c28 hF
       refine Xf ?_
       obtain rfl := Zw hF
       refine Vz ?_
       refine Weak.trans (weak_nil (E' := [(0, .ptr q0 w0 0 0), (2, .ptr (n + 0) 0 0 0), (3, .ptr (n + 1) 0 0 0), (4, .ptr (n + 2) 0 0 0), (5, .ptr (n + 3) 0 0 0), (6, .int .i64 ((o3).length : Int)), (8, .int .i64 ((o10.1).length : Int)), (9, .ptr (n + 4) 0 0 0), (11, .sl (n + 7) 0 0 (x25).length)]) (loc1 := [⟨31, 4, [.agg [.nils, .nils, .nils, .nils]], 0⟩, ⟨62, 2, [.agg [.nils, .nils]], 0⟩, ⟨64, 2, [.agg [.nils, .nils]], 0⟩, ⟨31, 4, [.agg [.sl (n + 5) 0 0 (o10.1).length, .sl (n + 8) 0 0 (([] : List T_Road)).length, .nils, .nils]], 0⟩, ⟨64, 2, [.agg [.sl (n + 6) 0 0 (o19.1).length, .nils]], 0⟩, ⟨48, 2, Zt T_Place.enc o10.1, 0⟩, ⟨3, 1, Zt (Zu .i64) o19.1, 0⟩, ⟨3, 1, Zt (Zu .i64) x25, 0⟩]) (Vo hn) rfl 46 10 (Zy _) ⟨Vy rfl, Vy rfl, Vy rfl, Vy rfl, Vy rfl, Vy rfl, Vy rfl, Vy rfl, Vy rfl, trivial⟩ ⟨.same _, .same _, .same _, .agg _ _ _ _ _ ⟨Vy rfl, nn_nil rfl, Vy rfl, Vy rfl, trivial⟩, .same _, .same _, .same _, .same _, trivial⟩) ?_
       refine Weak.trans (weak_nil (E' := [(0, .ptr q0 w0 0 0), (2, .ptr (n + 0) 0 0 0), (3, .ptr (n + 1) 0 0 0), (4, .ptr (n + 2) 0 0 0), (5, .ptr (n + 3) 0 0 0), (6, .int .i64 ((o3).length : Int)), (8, .int .i64 ((o10.1).length : Int)), (9, .ptr (n + 4) 0 0 0), (11, .sl (n + 7) 0 0 (x25).length)]) (loc1 := [⟨31, 4, [.agg [.nils, .nils, .nils, .nils]], 0⟩, ⟨62, 2, [.agg [.nils, .nils]], 0⟩, ⟨64, 2, [.agg [.nils, .nils]], 0⟩, ⟨31, 4, [.agg [.sl (n + 5) 0 0 (o10.1).length, .sl (n + 8) 0 0 (([] : List T_Road)).length, .nils, .nils]], 0⟩, ⟨64, 2, [.agg [.sl (n + 6) 0 0 (o19.1).length, .sl (n + 9) 0 0 (([] : List Int)).length]], 0⟩, ⟨48, 2, Zt T_Place.enc o10.1, 0⟩, ⟨3, 1, Zt (Zu .i64) o19.1, 0⟩, ⟨3, 1, Zt (Zu .i64) x25, 0⟩, ⟨46, 10, Zt T_Road.enc ([] : List T_Road), 0⟩]) (Vo hn) rfl 3 1 (Zy _) ⟨Vy rfl, Vy rfl, Vy rfl, Vy rfl, Vy rfl, Vy rfl, Vy rfl, Vy rfl, Vy rfl, trivial⟩ ⟨.same _, .same _, .same _, .same _, .agg _ _ _ _ _ ⟨Vy rfl, nn_nil rfl, trivial⟩, .same _, .same _, .same _, .same _, trivial⟩) ?_
       exact Vm (Vo hn) [(7, 0), (0, 0), (1, 0), (2, 0), (3, 0), (4, 0), (5, 0), (8, 0), (6, 0), (9, 0)] (by decide) ⟨Vh rfl (.ptr _ _ _ _ hq0), Vs 1 0 rfl rfl, Vs 2 1 rfl rfl, Vs 3 2 rfl rfl, Vs 4 3 rfl rfl, Vh rfl (.int _ _), Vh rfl (.int _ _), Vs 5 4 rfl rfl, Xu 0 7 rfl rfl, trivial⟩ ⟨⟨_, rfl, rfl, .same _ _ _ _ (Vq (fun _ => .int _ _))⟩, ⟨_, rfl, rfl, .same _ _ _ _ (Vl ⟨Vn ⟨.nils, .nils, .nils, .nils, trivial⟩, trivial⟩)⟩, ⟨_, rfl, rfl, .same _ _ _ _ (Vl ⟨Vn ⟨.nils, .nils, trivial⟩, trivial⟩)⟩, ⟨_, rfl, rfl, .same _ _ _ _ (Vl ⟨Vn ⟨.nils, .nils, trivial⟩, trivial⟩)⟩, ⟨_, rfl, rfl, .agg _ _ _ _ _ ⟨Xu 6 5 rfl rfl, Xu 7 8 rfl rfl, Vh rfl (.nils), Vh rfl (.nils), trivial⟩⟩, ⟨_, rfl, rfl, .agg _ _ _ _ _ ⟨Xu 8 6 rfl rfl, Xu 9 9 rfl rfl, trivial⟩⟩, ⟨_, rfl, rfl, .same _ _ _ _ (Vq T_Place.enc_lt)⟩, ⟨_, rfl, rfl, .same _ _ _ _ (Vl trivial)⟩, ⟨_, rfl, rfl, .same _ _ _ _ (Vq (fun _ => .int _ _))⟩, ⟨_, rfl, rfl, .same _ _ _ _ (Vl trivial)⟩, trivial⟩
     ·rintro _ _ _ _ ⟨rfl, hw⟩
      refine ⟨_, _, _, hw, ?_⟩
      refine Vf ?_
      refine Vf ?_
      refine Vc ?_
      refine Va (Vk rfl) rfl ?_
      refine Va (Xo rfl) rfl ?_
      refine Ve ?_
      refine Xa ?_
      obtain ⟨o61, ho61, hF⟩ := Yb hF
      refine Vr (Yp (F_draw_Codes_Made_L4 o3 o10 o27) (fun s60 E' lw lc => Xt E' lw lc [(0, .ptr q0 w0 0 0), (2, .ptr (n + 1) 0 0 0), (3, .ptr (n + 2) 0 0 0), (4, .ptr (n + 3) 0 0 0), (5, .ptr (n + 4) 0 0 0), (6, .int .i64 ((o3).length : Int)), (8, .int .i64 ((o10.1).length : Int)), (9, .ptr (n + 5) 0 0 0), (11, .sl (n + 0) 0 0 (o27.1).length), (16, .int .i64 s60.1)] (setL low0 [(q0, ⟨88, 2, [.agg [.vs 1 (Zt (Zu .u8) s60.2.2.2.l), .int .i64 s60.2.2.2.at_]], w0⟩)]) [⟨3, 1, Zt (Zu .i64) o27.1, 0⟩, ⟨31, 4, [.agg [.nils, .nils, .nils, .nils]], 0⟩, ⟨62, 2, [.agg [.nils, .nils]], 0⟩, ⟨64, 2, [.agg [.nils, .nils]], 0⟩, ⟨31, 4, [.agg [.sl (n + 6) 0 0 (s60.2.1.Mine.Places).length, .sl (n + 7) 0 0 (s60.2.1.Mine.Roads).length, .nils, .nils]], 0⟩, ⟨64, 2, [.agg [.sl (n + 8) 0 0 (s60.2.2.1.Pressures).length, .sl (n + 9) 0 0 (s60.2.2.1.Flows).length]], 0⟩, ⟨48, 2, Zt T_Place.enc s60.2.1.Mine.Places, 0⟩, ⟨46, 10, Zt T_Road.enc s60.2.1.Mine.Roads, 0⟩, ⟨3, 1, Zt (Zu .i64) s60.2.2.1.Pressures, 0⟩, ⟨3, 1, Zt (Zu .i64) s60.2.2.1.Flows, 0⟩]) (fun o61 => OnlyE (.exit 6) (fun E' lw lc => Xt E' lw lc [(0, .ptr q0 w0 0 0), (2, .ptr (n + 0) 0 0 0), (3, .ptr (n + 1) 0 0 0), (4, .ptr (n + 2) 0 0 0), (5, .ptr (n + 3) 0 0 0), (9, .ptr (n + 4) 0 0 0)] (setL low0 [(q0, ⟨88, 2, [.agg [.vs 1 (Zt (Zu .u8) o61.2.2.l), .int .i64 o61.2.2.at_]], w0⟩)]) [⟨31, 4, [.agg [.nils, .nils, .nils, .nils]], 0⟩, ⟨62, 2, [.agg [.nils, .nils]], 0⟩, ⟨64, 2, [.agg [.nils, .nils]], 0⟩, ⟨31, 4, [.agg [.sl (n + 5) 0 0 (o61.1.Mine.Places).length, .sl (n + 6) 0 0 (o61.1.Mine.Roads).length, .nils, .nils]], 0⟩, ⟨64, 2, [.agg [.sl (n + 7) 0 0 (o61.2.1.Pressures).length, .sl (n + 8) 0 0 (o61.2.1.Flows).length]], 0⟩, ⟨48, 2, Zt T_Place.enc o61.1.Mine.Places, 0⟩, ⟨46, 10, Zt T_Road.enc o61.1.Mine.Roads, 0⟩, ⟨3, 1, Zt (Zu .i64) o61.2.1.Pressures, 0⟩, ⟨3, 1, Zt (Zu .i64) o61.2.1.Flows, 0⟩])) ho61 ?_ (by rintro _ _ _ _ ⟨h, _⟩ <;> cases h) ?_) ?_
      ·exact Vp ⟨rfl, rfl, rfl, rfl, rfl, rfl, rfl, rfl, rfl, rfl, trivial⟩
      ·rintro s60 os60 _ _ _ hF hw
       unfold F_draw_Codes_Made_L4 at hF
       refine Yg hw ?_
       refine Vf ?_
       refine Vf ?_
       refine Vc ?_
       refine Va (Vk rfl) rfl ?_
       refine Va (Vk rfl) rfl ?_
       refine Va (Zc rfl rfl) rfl ?_
       refine Ve ?_
       refine Xd rfl (fun c62 => ?_) (fun c62 => ?_)
       ·have hF := Ys c62 hF
        refine Xf ?_
        refine Vf ?_
        refine Xa ?_
        refine Vf ?_
        obtain ⟨x63, h64, hF⟩ := Yb hF
        obtain ⟨x65, h66, hF⟩ := Yb hF
        obtain ⟨x67, h68, hF⟩ := Yb hF
        refine Yg (weak_room 46 10 (Zy _)) ?_
        refine vwp_drawnX [[], [], [], [], [2, 3], [0, 1, 2, 3, 4], [], [], [6, 7], [6, 7, 8], [6, 7, 8, 9], [], [0, 1, 2, 3, 4, 5, 11], [0, 1, 2, 3, 4, 5, 6, 7, 8, 9, 10, 11, 12]] [false, false, false, false, true, true, false, false, false, false, false, true, true, false] [([], (setL low0 [(q0, ⟨88, 2, [.agg [.vs 1 (Zt (Zu .u8) s60.2.2.2.l), .int .i64 s60.2.2.2.at_]], w0⟩)]), [⟨3, 1, Zt (Zu .i64) o27.1, 0⟩, ⟨31, 4, [.agg [.nils, .nils, .nils, .nils]], 0⟩, ⟨62, 2, [.agg [.nils, .nils]], 0⟩, ⟨64, 2, [.agg [.nils, .nils]], 0⟩, ⟨31, 4, [.agg [.sl (n + 6) 0 0 (s60.2.1.Mine.Places).length, .sl (n + 7) 0 0 (s60.2.1.Mine.Roads).length, .nils, .nils]], 0⟩, ⟨64, 2, [.agg [.sl (n + 8) 0 0 (s60.2.2.1.Pressures).length, .sl (n + 9) 0 0 (s60.2.2.1.Flows).length]], 0⟩, ⟨48, 2, Zt T_Place.enc s60.2.1.Mine.Places, 0⟩, ⟨46, 10, Zt T_Road.enc s60.2.1.Mine.Roads, 0⟩, ⟨3, 1, Zt (Zu .i64) s60.2.2.1.Pressures, 0⟩, ⟨3, 1, Zt (Zu .i64) s60.2.2.1.Flows, 0⟩, ⟨46, 10, [], 0⟩]), ([4], (setL low0 [(q0, ⟨88, 2, [.agg [.vs 1 (Zt (Zu .u8) x63.1.l), .int .i64 x63.1.at_]], w0⟩)]), [⟨3, 1, Zt (Zu .i64) o27.1, 0⟩, ⟨31, 4, [.agg [.nils, .nils, .nils, .nils]], 0⟩, ⟨62, 2, [.agg [.nils, .nils]], 0⟩, ⟨64, 2, [.agg [.nils, .nils]], 0⟩, ⟨31, 4, [.agg [.sl (n + 6) 0 0 (s60.2.1.Mine.Places).length, .sl (n + 7) 0 0 (s60.2.1.Mine.Roads).length, .nils, .nils]], 0⟩, ⟨64, 2, [.agg [.sl (n + 8) 0 0 (s60.2.2.1.Pressures).length, .sl (n + 9) 0 0 (s60.2.2.1.Flows).length]], 0⟩, ⟨48, 2, Zt T_Place.enc s60.2.1.Mine.Places, 0⟩, ⟨46, 10, Zt T_Road.enc s60.2.1.Mine.Roads, 0⟩, ⟨3, 1, Zt (Zu .i64) s60.2.2.1.Pressures, 0⟩, ⟨3, 1, Zt (Zu .i64) s60.2.2.1.Flows, 0⟩, ⟨46, 10, [], 0⟩]), ([11], (setL low0 [(q0, ⟨88, 2, [.agg [.vs 1 (Zt (Zu .u8) s60.2.2.2.l), .int .i64 s60.2.2.2.at_]], w0⟩)]), [⟨3, 1, Zt (Zu .i64) o27.1, 0⟩, ⟨31, 4, [.agg [.nils, .nils, .nils, .nils]], 0⟩, ⟨62, 2, [.agg [.nils, .nils]], 0⟩, ⟨64, 2, [.agg [.nils, .nils]], 0⟩, ⟨31, 4, [.agg [.sl (n + 6) 0 0 (s60.2.1.Mine.Places).length, .sl (n + 7) 0 0 (s60.2.1.Mine.Roads).length, .nils, .nils]], 0⟩, ⟨64, 2, [.agg [.sl (n + 8) 0 0 (s60.2.2.1.Pressures).length, .sl (n + 9) 0 0 (s60.2.2.1.Flows).length]], 0⟩, ⟨48, 2, Zt T_Place.enc s60.2.1.Mine.Places, 0⟩, ⟨46, 10, Zt T_Road.enc s60.2.1.Mine.Roads, 0⟩, ⟨3, 1, Zt (Zu .i64) s60.2.2.1.Pressures, 0⟩, ⟨3, 1, Zt (Zu .i64) s60.2.2.1.Flows, 0⟩, ⟨46, 10, [.agg [.int .i64 0, .int .i64 0, .int .i64 0, .int .i64 0, .bool false, .bool false, .int .i64 0, .int .i64 0, .int .i64 0, .int .i64 0]], 1⟩]), ([4, 5], (setL low0 [(q0, ⟨88, 2, [.agg [.vs 1 (Zt (Zu .u8) x65.1.l), .int .i64 x65.1.at_]], w0⟩)]), [⟨3, 1, Zt (Zu .i64) o27.1, 0⟩, ⟨31, 4, [.agg [.nils, .nils, .nils, .nils]], 0⟩, ⟨62, 2, [.agg [.nils, .nils]], 0⟩, ⟨64, 2, [.agg [.nils, .nils]], 0⟩, ⟨31, 4, [.agg [.sl (n + 6) 0 0 (s60.2.1.Mine.Places).length, .sl (n + 7) 0 0 (s60.2.1.Mine.Roads).length, .nils, .nils]], 0⟩, ⟨64, 2, [.agg [.sl (n + 8) 0 0 (s60.2.2.1.Pressures).length, .sl (n + 9) 0 0 (s60.2.2.1.Flows).length]], 0⟩, ⟨48, 2, Zt T_Place.enc s60.2.1.Mine.Places, 0⟩, ⟨46, 10, Zt T_Road.enc s60.2.1.Mine.Roads, 0⟩, ⟨3, 1, Zt (Zu .i64) s60.2.2.1.Pressures, 0⟩, ⟨3, 1, Zt (Zu .i64) s60.2.2.1.Flows, 0⟩, ⟨46, 10, [], 0⟩]), ([4, 11], (setL low0 [(q0, ⟨88, 2, [.agg [.vs 1 (Zt (Zu .u8) x63.1.l), .int .i64 x63.1.at_]], w0⟩)]), [⟨3, 1, Zt (Zu .i64) o27.1, 0⟩, ⟨31, 4, [.agg [.nils, .nils, .nils, .nils]], 0⟩, ⟨62, 2, [.agg [.nils, .nils]], 0⟩, ⟨64, 2, [.agg [.nils, .nils]], 0⟩, ⟨31, 4, [.agg [.sl (n + 6) 0 0 (s60.2.1.Mine.Places).length, .sl (n + 7) 0 0 (s60.2.1.Mine.Roads).length, .nils, .nils]], 0⟩, ⟨64, 2, [.agg [.sl (n + 8) 0 0 (s60.2.2.1.Pressures).length, .sl (n + 9) 0 0 (s60.2.2.1.Flows).length]], 0⟩, ⟨48, 2, Zt T_Place.enc s60.2.1.Mine.Places, 0⟩, ⟨46, 10, Zt T_Road.enc s60.2.1.Mine.Roads, 0⟩, ⟨3, 1, Zt (Zu .i64) s60.2.2.1.Pressures, 0⟩, ⟨3, 1, Zt (Zu .i64) s60.2.2.1.Flows, 0⟩, ⟨46, 10, [.agg [.int .i64 0, .int .i64 0, .int .i64 0, .int .i64 0, .bool false, .bool false, .int .i64 0, .int .i64 0, .int .i64 0, .int .i64 0]], 1⟩]), ([4, 5, 11], (setL low0 [(q0, ⟨88, 2, [.agg [.vs 1 (Zt (Zu .u8) x65.1.l), .int .i64 x65.1.at_]], w0⟩)]), [⟨3, 1, Zt (Zu .i64) o27.1, 0⟩, ⟨31, 4, [.agg [.nils, .nils, .nils, .nils]], 0⟩, ⟨62, 2, [.agg [.nils, .nils]], 0⟩, ⟨64, 2, [.agg [.nils, .nils]], 0⟩, ⟨31, 4, [.agg [.sl (n + 6) 0 0 (s60.2.1.Mine.Places).length, .sl (n + 7) 0 0 (s60.2.1.Mine.Roads).length, .nils, .nils]], 0⟩, ⟨64, 2, [.agg [.sl (n + 8) 0 0 (s60.2.2.1.Pressures).length, .sl (n + 9) 0 0 (s60.2.2.1.Flows).length]], 0⟩, ⟨48, 2, Zt T_Place.enc s60.2.1.Mine.Places, 0⟩, ⟨46, 10, Zt T_Road.enc s60.2.1.Mine.Roads, 0⟩, ⟨3, 1, Zt (Zu .i64) s60.2.2.1.Pressures, 0⟩, ⟨3, 1, Zt (Zu .i64) s60.2.2.1.Flows, 0⟩, ⟨46, 10, [.agg [.int .i64 0, .int .i64 0, .int .i64 0, .int .i64 0, .bool false, .bool false, .int .i64 0, .int .i64 0, .int .i64 0, .int .i64 0]], 1⟩]), ([4, 5, 11, 12], (setL low0 [(q0, ⟨88, 2, [.agg [.vs 1 (Zt (Zu .u8) x65.1.l), .int .i64 x65.1.at_]], w0⟩)]), [⟨3, 1, Zt (Zu .i64) o27.1, 0⟩, ⟨31, 4, [.agg [.nils, .nils, .nils, .nils]], 0⟩, ⟨62, 2, [.agg [.nils, .nils]], 0⟩, ⟨64, 2, [.agg [.nils, .nils]], 0⟩, ⟨31, 4, [.agg [.sl (n + 6) 0 0 (s60.2.1.Mine.Places).length, .sl (n + 7) 0 0 (s60.2.1.Mine.Roads).length, .nils, .nils]], 0⟩, ⟨64, 2, [.agg [.sl (n + 8) 0 0 (s60.2.2.1.Pressures).length, .sl (n + 9) 0 0 (s60.2.2.1.Flows).length]], 0⟩, ⟨48, 2, Zt T_Place.enc s60.2.1.Mine.Places, 0⟩, ⟨46, 10, Zt T_Road.enc s60.2.1.Mine.Roads, 0⟩, ⟨3, 1, Zt (Zu .i64) s60.2.2.1.Pressures, 0⟩, ⟨3, 1, Zt (Zu .i64) s60.2.2.1.Flows, 0⟩, ⟨46, 10, [.agg [.int .i64 x65.2.From, .int .i64 x65.2.To, .int .i64 x65.2.Length, .int .i64 x65.2.Area, .bool x65.2.Walk, .bool x65.2.Closed, .int .i64 x65.2.Rest.Low, .int .i64 x65.2.Rest.High, .int .i64 x65.2.Lift.Low, .int .i64 x65.2.Lift.High]], 1⟩])] mixed (by kernel_rfl) rfl (lenAllX (allx1 Xi (allx1 Xi (allx1 Xi (allx1 Xi (allx1 Xi (allx1 Xi (allx1 Xi allx0)))))))) rfl [4, 5, 11, 12] ((setL low0 [(q0, ⟨88, 2, [.agg [.vs 1 (Zt (Zu .u8) x65.1.l), .int .i64 x65.1.at_]], w0⟩)]), [⟨3, 1, Zt (Zu .i64) o27.1, 0⟩, ⟨31, 4, [.agg [.nils, .nils, .nils, .nils]], 0⟩, ⟨62, 2, [.agg [.nils, .nils]], 0⟩, ⟨64, 2, [.agg [.nils, .nils]], 0⟩, ⟨31, 4, [.agg [.sl (n + 6) 0 0 (s60.2.1.Mine.Places).length, .sl (n + 7) 0 0 (s60.2.1.Mine.Roads).length, .nils, .nils]], 0⟩, ⟨64, 2, [.agg [.sl (n + 8) 0 0 (s60.2.2.1.Pressures).length, .sl (n + 9) 0 0 (s60.2.2.1.Flows).length]], 0⟩, ⟨48, 2, Zt T_Place.enc s60.2.1.Mine.Places, 0⟩, ⟨46, 10, Zt T_Road.enc s60.2.1.Mine.Roads, 0⟩, ⟨3, 1, Zt (Zu .i64) s60.2.2.1.Pressures, 0⟩, ⟨3, 1, Zt (Zu .i64) s60.2.2.1.Flows, 0⟩, ⟨46, 10, [.agg [.int .i64 x65.2.From, .int .i64 x65.2.To, .int .i64 x65.2.Length, .int .i64 x65.2.Area, .bool x65.2.Walk, .bool x65.2.Closed, .int .i64 x65.2.Rest.Low, .int .i64 x65.2.Rest.High, .int .i64 x65.2.Lift.Low, .int .i64 x65.2.Lift.High]], 1⟩]) rfl rfl ?_
        refine Zn _ rfl rfl (Zp (VRd.ntl (Xb rfl)) (Zp (VRd.ntl (Xb rfl)) (Zp (VRd.ntl (Xb rfl)) (Zp (VRd.ntl (Xb rfl)) rx0)))) ?_
        refine Zn _ rfl rfl (Zp (VRd.ntl (Vk rfl)) (Zp (VRd.ntl (Vk rfl)) (Zp (VRd.ntl (Vk rfl)) (Zp (VRd.ntl (Vk rfl)) rx0)))) ?_
        refine Zn _ rfl rfl (Zp (VRd.ntl (Xb rfl)) (Zp (VRd.ntl (Xb rfl)) rx0)) ?_
        refine Zn _ rfl rfl (Zp (VRd.ntl (Vk rfl)) (Zp (VRd.ntl (Vk rfl)) rx0)) ?_
        refine dopx_ef _ rfl rfl (ex1 1 rfl (Xc (ps := [(q0, ⟨88, 2, [.agg [.vs 1 (Zt (Zu .u8) x63.1.l), .int .i64 x63.1.at_]], w0⟩)]) (r := .int .i64 x63.2) (os := []) (low1 := (setL low0 [(q0, ⟨88, 2, [.agg [.vs 1 (Zt (Zu .u8) x63.1.l), .int .i64 x63.1.at_]], w0⟩)])) (loc1 := [⟨3, 1, Zt (Zu .i64) o27.1, 0⟩, ⟨31, 4, [.agg [.nils, .nils, .nils, .nils]], 0⟩, ⟨62, 2, [.agg [.nils, .nils]], 0⟩, ⟨64, 2, [.agg [.nils, .nils]], 0⟩, ⟨31, 4, [.agg [.sl (n + 6) 0 0 (s60.2.1.Mine.Places).length, .sl (n + 7) 0 0 (s60.2.1.Mine.Roads).length, .nils, .nils]], 0⟩, ⟨64, 2, [.agg [.sl (n + 8) 0 0 (s60.2.2.1.Pressures).length, .sl (n + 9) 0 0 (s60.2.2.1.Flows).length]], 0⟩, ⟨48, 2, Zt T_Place.enc s60.2.1.Mine.Places, 0⟩, ⟨46, 10, Zt T_Road.enc s60.2.1.Mine.Roads, 0⟩, ⟨3, 1, Zt (Zu .i64) s60.2.2.1.Pressures, 0⟩, ⟨3, 1, Zt (Zu .i64) s60.2.2.1.Flows, 0⟩, ⟨46, 10, [], 0⟩]) (loc2 := [⟨3, 1, Zt (Zu .i64) o27.1, 0⟩, ⟨31, 4, [.agg [.nils, .nils, .nils, .nils]], 0⟩, ⟨62, 2, [.agg [.nils, .nils]], 0⟩, ⟨64, 2, [.agg [.nils, .nils]], 0⟩, ⟨31, 4, [.agg [.sl (n + 6) 0 0 (s60.2.1.Mine.Places).length, .sl (n + 7) 0 0 (s60.2.1.Mine.Roads).length, .nils, .nils]], 0⟩, ⟨64, 2, [.agg [.sl (n + 8) 0 0 (s60.2.2.1.Pressures).length, .sl (n + 9) 0 0 (s60.2.2.1.Flows).length]], 0⟩, ⟨48, 2, Zt T_Place.enc s60.2.1.Mine.Places, 0⟩, ⟨46, 10, Zt T_Road.enc s60.2.1.Mine.Roads, 0⟩, ⟨3, 1, Zt (Zu .i64) s60.2.2.1.Pressures, 0⟩, ⟨3, 1, Zt (Zu .i64) s60.2.2.1.Flows, 0⟩, ⟨46, 10, [], 0⟩]) rfl Try.call27 (F_draw_Codes_Next_ok h64 (nd1 na0 nd0) (Zb hB rfl 0 rfl) (Xq (Vo hn) rfl)) (Yn (ps0' := [(q0, ⟨88, 2, [.agg [.vs 1 (Zt (Zu .u8) x63.1.l), .int .i64 x63.1.at_]], w0⟩)]) hB rfl 0 rfl (Yi hn ⟨Vn ⟨.vs _ _, .int _ _, trivial⟩, trivial⟩) rfl Xj) rfl) (ex1 4 rfl (Xc (ps := [(q0, ⟨88, 2, [.agg [.vs 1 (Zt (Zu .u8) x63.1.l), .int .i64 x63.1.at_]], w0⟩)]) (r := .int .i64 x63.2) (os := []) (low1 := (setL low0 [(q0, ⟨88, 2, [.agg [.vs 1 (Zt (Zu .u8) x63.1.l), .int .i64 x63.1.at_]], w0⟩)])) (loc1 := [⟨3, 1, Zt (Zu .i64) o27.1, 0⟩, ⟨31, 4, [.agg [.nils, .nils, .nils, .nils]], 0⟩, ⟨62, 2, [.agg [.nils, .nils]], 0⟩, ⟨64, 2, [.agg [.nils, .nils]], 0⟩, ⟨31, 4, [.agg [.sl (n + 6) 0 0 (s60.2.1.Mine.Places).length, .sl (n + 7) 0 0 (s60.2.1.Mine.Roads).length, .nils, .nils]], 0⟩, ⟨64, 2, [.agg [.sl (n + 8) 0 0 (s60.2.2.1.Pressures).length, .sl (n + 9) 0 0 (s60.2.2.1.Flows).length]], 0⟩, ⟨48, 2, Zt T_Place.enc s60.2.1.Mine.Places, 0⟩, ⟨46, 10, Zt T_Road.enc s60.2.1.Mine.Roads, 0⟩, ⟨3, 1, Zt (Zu .i64) s60.2.2.1.Pressures, 0⟩, ⟨3, 1, Zt (Zu .i64) s60.2.2.1.Flows, 0⟩, ⟨46, 10, [.agg [.int .i64 0, .int .i64 0, .int .i64 0, .int .i64 0, .bool false, .bool false, .int .i64 0, .int .i64 0, .int .i64 0, .int .i64 0]], 1⟩]) (loc2 := [⟨3, 1, Zt (Zu .i64) o27.1, 0⟩, ⟨31, 4, [.agg [.nils, .nils, .nils, .nils]], 0⟩, ⟨62, 2, [.agg [.nils, .nils]], 0⟩, ⟨64, 2, [.agg [.nils, .nils]], 0⟩, ⟨31, 4, [.agg [.sl (n + 6) 0 0 (s60.2.1.Mine.Places).length, .sl (n + 7) 0 0 (s60.2.1.Mine.Roads).length, .nils, .nils]], 0⟩, ⟨64, 2, [.agg [.sl (n + 8) 0 0 (s60.2.2.1.Pressures).length, .sl (n + 9) 0 0 (s60.2.2.1.Flows).length]], 0⟩, ⟨48, 2, Zt T_Place.enc s60.2.1.Mine.Places, 0⟩, ⟨46, 10, Zt T_Road.enc s60.2.1.Mine.Roads, 0⟩, ⟨3, 1, Zt (Zu .i64) s60.2.2.1.Pressures, 0⟩, ⟨3, 1, Zt (Zu .i64) s60.2.2.1.Flows, 0⟩, ⟨46, 10, [.agg [.int .i64 0, .int .i64 0, .int .i64 0, .int .i64 0, .bool false, .bool false, .int .i64 0, .int .i64 0, .int .i64 0, .int .i64 0]], 1⟩]) rfl Try.call27 (F_draw_Codes_Next_ok h64 (nd1 na0 nd0) (Zb hB rfl 0 rfl) (Xq (Vo hn) rfl)) (Yn (ps0' := [(q0, ⟨88, 2, [.agg [.vs 1 (Zt (Zu .u8) x63.1.l), .int .i64 x63.1.at_]], w0⟩)]) hB rfl 0 rfl (Yi hn ⟨Vn ⟨.vs _ _, .int _ _, trivial⟩, trivial⟩) rfl Xj) rfl) ex0)) ?_
        refine dopx_ef _ rfl rfl (ex1 3 rfl (Xc (ps := [(q0, ⟨88, 2, [.agg [.vs 1 (Zt (Zu .u8) x65.1.l), .int .i64 x65.1.at_]], w0⟩)]) (r := .agg [.int .i64 x65.2.From, .int .i64 x65.2.To, .int .i64 x65.2.Length, .int .i64 x65.2.Area, .bool x65.2.Walk, .bool x65.2.Closed, .int .i64 x65.2.Rest.Low, .int .i64 x65.2.Rest.High, .int .i64 x65.2.Lift.Low, .int .i64 x65.2.Lift.High]) (os := []) (low1 := (setL low0 [(q0, ⟨88, 2, [.agg [.vs 1 (Zt (Zu .u8) x65.1.l), .int .i64 x65.1.at_]], w0⟩)])) (loc1 := [⟨3, 1, Zt (Zu .i64) o27.1, 0⟩, ⟨31, 4, [.agg [.nils, .nils, .nils, .nils]], 0⟩, ⟨62, 2, [.agg [.nils, .nils]], 0⟩, ⟨64, 2, [.agg [.nils, .nils]], 0⟩, ⟨31, 4, [.agg [.sl (n + 6) 0 0 (s60.2.1.Mine.Places).length, .sl (n + 7) 0 0 (s60.2.1.Mine.Roads).length, .nils, .nils]], 0⟩, ⟨64, 2, [.agg [.sl (n + 8) 0 0 (s60.2.2.1.Pressures).length, .sl (n + 9) 0 0 (s60.2.2.1.Flows).length]], 0⟩, ⟨48, 2, Zt T_Place.enc s60.2.1.Mine.Places, 0⟩, ⟨46, 10, Zt T_Road.enc s60.2.1.Mine.Roads, 0⟩, ⟨3, 1, Zt (Zu .i64) s60.2.2.1.Pressures, 0⟩, ⟨3, 1, Zt (Zu .i64) s60.2.2.1.Flows, 0⟩, ⟨46, 10, [], 0⟩]) (loc2 := [⟨3, 1, Zt (Zu .i64) o27.1, 0⟩, ⟨31, 4, [.agg [.nils, .nils, .nils, .nils]], 0⟩, ⟨62, 2, [.agg [.nils, .nils]], 0⟩, ⟨64, 2, [.agg [.nils, .nils]], 0⟩, ⟨31, 4, [.agg [.sl (n + 6) 0 0 (s60.2.1.Mine.Places).length, .sl (n + 7) 0 0 (s60.2.1.Mine.Roads).length, .nils, .nils]], 0⟩, ⟨64, 2, [.agg [.sl (n + 8) 0 0 (s60.2.2.1.Pressures).length, .sl (n + 9) 0 0 (s60.2.2.1.Flows).length]], 0⟩, ⟨48, 2, Zt T_Place.enc s60.2.1.Mine.Places, 0⟩, ⟨46, 10, Zt T_Road.enc s60.2.1.Mine.Roads, 0⟩, ⟨3, 1, Zt (Zu .i64) s60.2.2.1.Pressures, 0⟩, ⟨3, 1, Zt (Zu .i64) s60.2.2.1.Flows, 0⟩, ⟨46, 10, [], 0⟩]) rfl Try.call37 (F_draw_Codes_Road_ok h66 (nd1 na0 nd0) (Zb hB rfl 0 rfl) (Xq (Vo hn) rfl)) (Yn (ps0' := [(q0, ⟨88, 2, [.agg [.vs 1 (Zt (Zu .u8) x65.1.l), .int .i64 x65.1.at_]], w0⟩)]) hB rfl 0 rfl (Yi hn ⟨Vn ⟨.vs _ _, .int _ _, trivial⟩, trivial⟩) rfl Xj) rfl) (ex1 5 rfl (Xc (ps := [(q0, ⟨88, 2, [.agg [.vs 1 (Zt (Zu .u8) x65.1.l), .int .i64 x65.1.at_]], w0⟩)]) (r := .agg [.int .i64 x65.2.From, .int .i64 x65.2.To, .int .i64 x65.2.Length, .int .i64 x65.2.Area, .bool x65.2.Walk, .bool x65.2.Closed, .int .i64 x65.2.Rest.Low, .int .i64 x65.2.Rest.High, .int .i64 x65.2.Lift.Low, .int .i64 x65.2.Lift.High]) (os := []) (low1 := (setL low0 [(q0, ⟨88, 2, [.agg [.vs 1 (Zt (Zu .u8) x65.1.l), .int .i64 x65.1.at_]], w0⟩)])) (loc1 := [⟨3, 1, Zt (Zu .i64) o27.1, 0⟩, ⟨31, 4, [.agg [.nils, .nils, .nils, .nils]], 0⟩, ⟨62, 2, [.agg [.nils, .nils]], 0⟩, ⟨64, 2, [.agg [.nils, .nils]], 0⟩, ⟨31, 4, [.agg [.sl (n + 6) 0 0 (s60.2.1.Mine.Places).length, .sl (n + 7) 0 0 (s60.2.1.Mine.Roads).length, .nils, .nils]], 0⟩, ⟨64, 2, [.agg [.sl (n + 8) 0 0 (s60.2.2.1.Pressures).length, .sl (n + 9) 0 0 (s60.2.2.1.Flows).length]], 0⟩, ⟨48, 2, Zt T_Place.enc s60.2.1.Mine.Places, 0⟩, ⟨46, 10, Zt T_Road.enc s60.2.1.Mine.Roads, 0⟩, ⟨3, 1, Zt (Zu .i64) s60.2.2.1.Pressures, 0⟩, ⟨3, 1, Zt (Zu .i64) s60.2.2.1.Flows, 0⟩, ⟨46, 10, [.agg [.int .i64 0, .int .i64 0, .int .i64 0, .int .i64 0, .bool false, .bool false, .int .i64 0, .int .i64 0, .int .i64 0, .int .i64 0]], 1⟩]) (loc2 := [⟨3, 1, Zt (Zu .i64) o27.1, 0⟩, ⟨31, 4, [.agg [.nils, .nils, .nils, .nils]], 0⟩, ⟨62, 2, [.agg [.nils, .nils]], 0⟩, ⟨64, 2, [.agg [.nils, .nils]], 0⟩, ⟨31, 4, [.agg [.sl (n + 6) 0 0 (s60.2.1.Mine.Places).length, .sl (n + 7) 0 0 (s60.2.1.Mine.Roads).length, .nils, .nils]], 0⟩, ⟨64, 2, [.agg [.sl (n + 8) 0 0 (s60.2.2.1.Pressures).length, .sl (n + 9) 0 0 (s60.2.2.1.Flows).length]], 0⟩, ⟨48, 2, Zt T_Place.enc s60.2.1.Mine.Places, 0⟩, ⟨46, 10, Zt T_Road.enc s60.2.1.Mine.Roads, 0⟩, ⟨3, 1, Zt (Zu .i64) s60.2.2.1.Pressures, 0⟩, ⟨3, 1, Zt (Zu .i64) s60.2.2.1.Flows, 0⟩, ⟨46, 10, [.agg [.int .i64 0, .int .i64 0, .int .i64 0, .int .i64 0, .bool false, .bool false, .int .i64 0, .int .i64 0, .int .i64 0, .int .i64 0]], 1⟩]) rfl Try.call37 (F_draw_Codes_Road_ok h66 (nd1 na0 nd0) (Zb hB rfl 0 rfl) (Xq (Vo hn) rfl)) (Yn (ps0' := [(q0, ⟨88, 2, [.agg [.vs 1 (Zt (Zu .u8) x65.1.l), .int .i64 x65.1.at_]], w0⟩)]) hB rfl 0 rfl (Yi hn ⟨Vn ⟨.vs _ _, .int _ _, trivial⟩, trivial⟩) rfl Xj) rfl) ex0)) ?_
        refine Zn _ rfl rfl (Zp (VRd.ntl (Yw rfl)) (Zp (VRd.ntl (Yw rfl)) (Zp (VRd.ntl (Yw rfl)) (Zp (VRd.ntl (Yw rfl)) (Zp (VRd.ntl (Yw rfl)) (Zp (VRd.ntl (Yw rfl)) (Zp (VRd.ntl (Yw rfl)) rx0))))))) ?_
        refine Zn _ rfl rfl (Zp (VRd.ntl (Vk rfl)) (Zp (VRd.ntl (Vk rfl)) (Zp (VRd.ntl (Vk rfl)) (Zp (VRd.ntl (Vk rfl)) (Zp (VRd.ntl (Vk rfl)) (Zp (VRd.ntl (Vk rfl)) (Zp (VRd.ntl (Vk rfl)) rx0))))))) ?_
        refine Zn _ rfl rfl (Zp (VRd.ntl (Zl rfl rfl rfl (Vg (Vo hn) rfl) h68 te_32 ts_3)) (Zp (VRd.ntl (Zl rfl rfl rfl (Vg (Vo hn) rfl) h68 te_32 ts_3)) (Zp (VRd.ntl (Zl rfl rfl rfl (Vg (Vo hn) rfl) h68 te_32 ts_3)) (Zp (VRd.ntl (Zl rfl rfl rfl (Vg (Vo hn) rfl) h68 te_32 ts_3)) (Zp (VRd.ntl (Zl rfl rfl rfl (Vg (Vo hn) rfl) h68 te_32 ts_3)) (Zp (VRd.ntl (Zl rfl rfl rfl (Vg (Vo hn) rfl) h68 te_32 ts_3)) (Zp (VRd.ntl (Zl rfl rfl rfl (Vg (Vo hn) rfl) h68 te_32 ts_3)) rx0))))))) ?_
        refine Zn _ rfl rfl (Zp (VRd.ntl (Zk rfl (Vg (Vo hn) rfl) (Ye h68).2 ta_3 rfl)) (Zp (VRd.ntl (Zk rfl (Vg (Vo hn) rfl) (Ye h68).2 ta_3 rfl)) (Zp (VRd.ntl (Zk rfl (Vg (Vo hn) rfl) (Ye h68).2 ta_3 rfl)) (Zp (VRd.ntl (Zk rfl (Vg (Vo hn) rfl) (Ye h68).2 ta_3 rfl)) (Zp (VRd.ntl (Zk rfl (Vg (Vo hn) rfl) (Ye h68).2 ta_3 rfl)) (Zp (VRd.ntl (Zk rfl (Vg (Vo hn) rfl) (Ye h68).2 ta_3 rfl)) (Zp (VRd.ntl (Zk rfl (Vg (Vo hn) rfl) (Ye h68).2 ta_3 rfl)) rx0))))))) ?_
        refine Zn _ rfl rfl (Zp (VRd.ntl (rd_neg rfl rfl)) (Zp (VRd.ntl (rd_neg rfl rfl)) (Zp (VRd.ntl (rd_neg rfl rfl)) (Zp (VRd.ntl (rd_neg rfl rfl)) (Zp (VRd.ntl (rd_neg rfl rfl)) (Zp (VRd.ntl (rd_neg rfl rfl)) (Zp (VRd.ntl (rd_neg rfl rfl)) rx0))))))) ?_
        refine dopx_ef _ rfl rfl (ex1 2 rfl (vef_into (f := 11) (k := 10) (m := 1) (os := [⟨46, 10, [.agg [.int .i64 0, .int .i64 0, .int .i64 0, .int .i64 0, .bool false, .bool false, .int .i64 0, .int .i64 0, .int .i64 0, .int .i64 0]], 0⟩]) (os' := [⟨46, 10, [.agg [.int .i64 0, .int .i64 0, .int .i64 0, .int .i64 0, .bool false, .bool false, .int .i64 0, .int .i64 0, .int .i64 0, .int .i64 0]], 1⟩]) (v := .ptr (n + 11) 0 0 0) (Vo hn) rfl rfl ⟨⟨_, rfl, rfl⟩, trivial⟩ (Xh (Vo hn) rfl tz_46 rfl rfl (Zy _) rfl) (mv_ptr 0 rfl rfl rfl rfl) ⟨.same _ _ _ (Vl ⟨(Vn ⟨.int _ _, .int _ _, .int _ _, .int _ _, .bool _, .bool _, .int _ _, .int _ _, .int _ _, .int _ _, trivial⟩), trivial⟩), trivial⟩ rfl) (ex1 4 rfl (vef_into (f := 11) (k := 10) (m := 1) (os := [⟨46, 10, [.agg [.int .i64 0, .int .i64 0, .int .i64 0, .int .i64 0, .bool false, .bool false, .int .i64 0, .int .i64 0, .int .i64 0, .int .i64 0]], 0⟩]) (os' := [⟨46, 10, [.agg [.int .i64 0, .int .i64 0, .int .i64 0, .int .i64 0, .bool false, .bool false, .int .i64 0, .int .i64 0, .int .i64 0, .int .i64 0]], 1⟩]) (v := .ptr (n + 11) 0 0 0) (Vo hn) rfl rfl ⟨⟨_, rfl, rfl⟩, trivial⟩ (Xh (Vo hn) rfl tz_46 rfl rfl (Zy _) rfl) (mv_ptr 0 rfl rfl rfl rfl) ⟨.same _ _ _ (Vl ⟨(Vn ⟨.int _ _, .int _ _, .int _ _, .int _ _, .bool _, .bool _, .int _ _, .int _ _, .int _ _, .int _ _, trivial⟩), trivial⟩), trivial⟩ rfl) (ex1 5 rfl (vef_into (f := 11) (k := 10) (m := 1) (os := [⟨46, 10, [.agg [.int .i64 0, .int .i64 0, .int .i64 0, .int .i64 0, .bool false, .bool false, .int .i64 0, .int .i64 0, .int .i64 0, .int .i64 0]], 0⟩]) (os' := [⟨46, 10, [.agg [.int .i64 0, .int .i64 0, .int .i64 0, .int .i64 0, .bool false, .bool false, .int .i64 0, .int .i64 0, .int .i64 0, .int .i64 0]], 1⟩]) (v := .ptr (n + 11) 0 0 0) (Vo hn) rfl rfl ⟨⟨_, rfl, rfl⟩, trivial⟩ (Xh (Vo hn) rfl tz_46 rfl rfl (Zy _) rfl) (mv_ptr 0 rfl rfl rfl rfl) ⟨.same _ _ _ (Vl ⟨(Vn ⟨.int _ _, .int _ _, .int _ _, .int _ _, .bool _, .bool _, .int _ _, .int _ _, .int _ _, .int _ _, trivial⟩), trivial⟩), trivial⟩ rfl) ex0))) ?_
        refine dopx_ef _ rfl rfl (ex1 6 rfl (Vv (p := .agg [.int .i64 x65.2.From, .int .i64 x65.2.To, .int .i64 x65.2.Length, .int .i64 x65.2.Area, .bool x65.2.Walk, .bool x65.2.Closed, .int .i64 x65.2.Rest.Low, .int .i64 x65.2.Rest.High, .int .i64 x65.2.Lift.Low, .int .i64 x65.2.Lift.High]) (e' := .agg [.int .i64 x65.2.From, .int .i64 x65.2.To, .int .i64 x65.2.Length, .int .i64 x65.2.Area, .bool x65.2.Walk, .bool x65.2.Closed, .int .i64 x65.2.Rest.Low, .int .i64 x65.2.Rest.High, .int .i64 x65.2.Lift.Low, .int .i64 x65.2.Lift.High]) rfl (Vg (Vo hn) rfl) rfl rfl ts_46 rfl (Yc rfl) rfl (Zx rfl) rfl (Xg (Vo hn) rfl)) ex0) ?_
        refine Zn _ rfl rfl (Zp (VRd.ntl (Xo rfl)) rx0) ?_
        refine dopx_nil ?_
        refine Vf ?_
        refine Vf ?_
        refine Vc ?_
        obtain ⟨x69, h70, hF⟩ := Yb hF
        refine Va (Xb rfl) rfl ?_
        refine Vi (Xc (ps := [(q0, ⟨88, 2, [.agg [.vs 1 (Zt (Zu .u8) x69.1.l), .int .i64 x69.1.at_]], w0⟩)]) (r := .bool x69.2) (os := []) (low1 := (setL low0 [(q0, ⟨88, 2, [.agg [.vs 1 (Zt (Zu .u8) x69.1.l), .int .i64 x69.1.at_]], w0⟩)])) (loc1 := [⟨3, 1, Zt (Zu .i64) o27.1, 0⟩, ⟨31, 4, [.agg [.nils, .nils, .nils, .nils]], 0⟩, ⟨62, 2, [.agg [.nils, .nils]], 0⟩, ⟨64, 2, [.agg [.nils, .nils]], 0⟩, ⟨31, 4, [.agg [.sl (n + 6) 0 0 (s60.2.1.Mine.Places).length, .sl (n + 7) 0 0 (s60.2.1.Mine.Roads).length, .nils, .nils]], 0⟩, ⟨64, 2, [.agg [.sl (n + 8) 0 0 (s60.2.2.1.Pressures).length, .sl (n + 9) 0 0 (s60.2.2.1.Flows).length]], 0⟩, ⟨48, 2, Zt T_Place.enc s60.2.1.Mine.Places, 0⟩, ⟨46, 10, Zt T_Road.enc s60.2.1.Mine.Roads, 0⟩, ⟨3, 1, Zt (Zu .i64) s60.2.2.1.Pressures, 0⟩, ⟨3, 1, Zt (Zu .i64) s60.2.2.1.Flows, 0⟩, ⟨46, 10, [.agg [.int .i64 x65.2.From, .int .i64 x65.2.To, .int .i64 x65.2.Length, .int .i64 x65.2.Area, .bool x65.2.Walk, .bool x65.2.Closed, .int .i64 x65.2.Rest.Low, .int .i64 x65.2.Rest.High, .int .i64 x65.2.Lift.Low, .int .i64 x65.2.Lift.High]], 1⟩]) (loc2 := [⟨3, 1, Zt (Zu .i64) o27.1, 0⟩, ⟨31, 4, [.agg [.nils, .nils, .nils, .nils]], 0⟩, ⟨62, 2, [.agg [.nils, .nils]], 0⟩, ⟨64, 2, [.agg [.nils, .nils]], 0⟩, ⟨31, 4, [.agg [.sl (n + 6) 0 0 (s60.2.1.Mine.Places).length, .sl (n + 7) 0 0 (s60.2.1.Mine.Roads).length, .nils, .nils]], 0⟩, ⟨64, 2, [.agg [.sl (n + 8) 0 0 (s60.2.2.1.Pressures).length, .sl (n + 9) 0 0 (s60.2.2.1.Flows).length]], 0⟩, ⟨48, 2, Zt T_Place.enc s60.2.1.Mine.Places, 0⟩, ⟨46, 10, Zt T_Road.enc s60.2.1.Mine.Roads, 0⟩, ⟨3, 1, Zt (Zu .i64) s60.2.2.1.Pressures, 0⟩, ⟨3, 1, Zt (Zu .i64) s60.2.2.1.Flows, 0⟩, ⟨46, 10, [.agg [.int .i64 x65.2.From, .int .i64 x65.2.To, .int .i64 x65.2.Length, .int .i64 x65.2.Area, .bool x65.2.Walk, .bool x65.2.Closed, .int .i64 x65.2.Rest.Low, .int .i64 x65.2.Rest.High, .int .i64 x65.2.Lift.Low, .int .i64 x65.2.Lift.High]], 1⟩]) rfl Try.call25 (F_draw_Codes_One_ok h70 (nd1 na0 nd0) (Zb hB rfl 0 rfl) (Xq (Vo hn) rfl)) (Yn (ps0' := [(q0, ⟨88, 2, [.agg [.vs 1 (Zt (Zu .u8) x69.1.l), .int .i64 x69.1.at_]], w0⟩)]) hB rfl 0 rfl (Yi hn ⟨Vn ⟨.vs _ _, .int _ _, trivial⟩, trivial⟩) rfl Xj) rfl) rfl ?_
        refine Ve ?_
        obtain ⟨o71, ho71, hF⟩ := Yb hF
        refine Vr (Q' := (fun o71 => OnlyE .normal (fun E' lw lc => Xt E' lw lc [(0, .ptr q0 w0 0 0), (2, .ptr (n + 2) 0 0 0), (3, .ptr (n + 3) 0 0 0), (4, .ptr (n + 4) 0 0 0), (5, .ptr (n + 5) 0 0 0), (6, .int .i64 ((o3).length : Int)), (8, .int .i64 ((o10.1).length : Int)), (9, .ptr (n + 6) 0 0 0), (11, .sl (n + 0) 0 0 (o27.1).length), (16, .int .i64 s60.1), (17, .ptr (n + 1) 0 0 0), (18, .int .i64 o71.1)] (setL low0 [(q0, ⟨88, 2, [.agg [.vs 1 (Zt (Zu .u8) x69.1.l), .int .i64 x69.1.at_]], w0⟩)]) [⟨3, 1, Zt (Zu .i64) o27.1, 0⟩, ⟨46, 10, [.agg [.int .i64 o71.2.1.From, .int .i64 o71.2.1.To, .int .i64 o71.2.1.Length, .int .i64 o71.2.1.Area, .bool o71.2.1.Walk, .bool o71.2.1.Closed, .int .i64 o71.2.1.Rest.Low, .int .i64 o71.2.1.Rest.High, .int .i64 o71.2.1.Lift.Low, .int .i64 o71.2.1.Lift.High]], 0⟩, ⟨31, 4, [.agg [.nils, .nils, .nils, .nils]], 0⟩, ⟨62, 2, [.agg [.nils, .nils]], 0⟩, ⟨64, 2, [.agg [.nils, .nils]], 0⟩, ⟨31, 4, [.agg [.sl (n + 7) 0 0 (o71.2.2.1.Mine.Places).length, .sl (n + 8) 0 0 (o71.2.2.1.Mine.Roads).length, .nils, .nils]], 0⟩, ⟨64, 2, [.agg [.sl (n + 9) 0 0 (o71.2.2.2.Pressures).length, .sl (n + 10) 0 0 (o71.2.2.2.Flows).length]], 0⟩, ⟨48, 2, Zt T_Place.enc o71.2.2.1.Mine.Places, 0⟩, ⟨46, 10, Zt T_Road.enc o71.2.2.1.Mine.Roads, 0⟩, ⟨3, 1, Zt (Zu .i64) o71.2.2.2.Pressures, 0⟩, ⟨3, 1, Zt (Zu .i64) o71.2.2.2.Flows, 0⟩])) o71) ?_ ?_
        ·replace hF := ho71
         refine Xd rfl (fun c72 => ?_) (fun c72 => ?_)
         ·have hF := Ys c72 hF
          refine Vc ?_
          refine Va (Vb rfl tf_46_1 ts_3 (by decide)) rfl ?_
          refine Va (Vj rfl (Vg (Vo hn) rfl) rfl ta_3 rfl) rfl ?_
          refine Va (Vb rfl tf_46_0 ts_3 (by decide)) rfl ?_
          refine Va (Vj rfl (Vg (Vo hn) rfl) rfl ta_3 rfl) rfl ?_
          refine Va (Vk rfl) rfl ?_
          refine Va (rd_neg rfl rfl) rfl ?_
          refine Va (Vb rfl tf_46_0 ts_3 (by decide)) rfl ?_
          refine Vi (Vv (p := .int .i64 x65.2.To) (e' := .agg [.int .i64 x65.2.To, .int .i64 x65.2.To, .int .i64 x65.2.Length, .int .i64 x65.2.Area, .bool x65.2.Walk, .bool x65.2.Closed, .int .i64 x65.2.Rest.Low, .int .i64 x65.2.Rest.High, .int .i64 x65.2.Lift.Low, .int .i64 x65.2.Lift.High]) rfl (Vg (Vo hn) rfl) rfl rfl ts_3 rfl (Yc rfl) rfl (Zx rfl) rfl (Xg (Vo hn) rfl)) rfl ?_
          refine Va (Vb rfl tf_46_1 ts_3 (by decide)) rfl ?_
          refine Vi (Vv (p := .int .i64 x65.2.From) (e' := .agg [.int .i64 x65.2.To, .int .i64 x65.2.From, .int .i64 x65.2.Length, .int .i64 x65.2.Area, .bool x65.2.Walk, .bool x65.2.Closed, .int .i64 x65.2.Rest.Low, .int .i64 x65.2.Rest.High, .int .i64 x65.2.Lift.Low, .int .i64 x65.2.Lift.High]) rfl (Vg (Vo hn) rfl) rfl rfl ts_3 rfl (Yc rfl) rfl (Zx rfl) rfl (Xg (Vo hn) rfl)) rfl ?_
          refine Va (Xo rfl) rfl ?_
          refine Ve ?_
          obtain rfl := Zw hF
          refine Vz ?_
          exact Vm (Vo hn) [(0, 0), (10, 1), (1, 0), (2, 0), (3, 0), (4, 0), (5, 0), (6, 0), (7, 0), (8, 0), (9, 0)] (by decide) ⟨Vh rfl (.ptr _ _ _ _ hq0), Vs 2 1 rfl rfl, Vs 3 2 rfl rfl, Vs 4 3 rfl rfl, Vs 5 4 rfl rfl, Vh rfl (.int _ _), Vh rfl (.int _ _), Vs 6 5 rfl rfl, Xu 0 0 rfl rfl, Vh rfl (.int _ _), Vs 1 10 rfl rfl, Vh rfl (.int _ _), trivial⟩ ⟨⟨_, rfl, rfl, .same _ _ _ _ (Vq (fun _ => .int _ _))⟩, ⟨_, rfl, rfl, .same _ _ _ _ (Vl ⟨Vn ⟨.int _ _, .int _ _, .int _ _, .int _ _, .bool _, .bool _, .int _ _, .int _ _, .int _ _, .int _ _, trivial⟩, trivial⟩)⟩, ⟨_, rfl, rfl, .same _ _ _ _ (Vl ⟨Vn ⟨.nils, .nils, .nils, .nils, trivial⟩, trivial⟩)⟩, ⟨_, rfl, rfl, .same _ _ _ _ (Vl ⟨Vn ⟨.nils, .nils, trivial⟩, trivial⟩)⟩, ⟨_, rfl, rfl, .same _ _ _ _ (Vl ⟨Vn ⟨.nils, .nils, trivial⟩, trivial⟩)⟩, ⟨_, rfl, rfl, .agg _ _ _ _ _ ⟨Xu 7 6 rfl rfl, Xu 8 7 rfl rfl, Vh rfl (.nils), Vh rfl (.nils), trivial⟩⟩, ⟨_, rfl, rfl, .agg _ _ _ _ _ ⟨Xu 9 8 rfl rfl, Xu 10 9 rfl rfl, trivial⟩⟩, ⟨_, rfl, rfl, .same _ _ _ _ (Vq T_Place.enc_lt)⟩, ⟨_, rfl, rfl, .same _ _ _ _ (Vq T_Road.enc_lt)⟩, ⟨_, rfl, rfl, .same _ _ _ _ (Vq (fun _ => .int _ _))⟩, ⟨_, rfl, rfl, .same _ _ _ _ (Vq (fun _ => .int _ _))⟩, trivial⟩
         ·have hF := Yt c72 hF
          refine Xf ?_
          obtain rfl := Zw hF
          refine Vz ?_
          exact Vm (Vo hn) [(0, 0), (10, 1), (1, 0), (2, 0), (3, 0), (4, 0), (5, 0), (6, 0), (7, 0), (8, 0), (9, 0)] (by decide) ⟨Vh rfl (.ptr _ _ _ _ hq0), Vs 2 1 rfl rfl, Vs 3 2 rfl rfl, Vs 4 3 rfl rfl, Vs 5 4 rfl rfl, Vh rfl (.int _ _), Vh rfl (.int _ _), Vs 6 5 rfl rfl, Xu 0 0 rfl rfl, Vh rfl (.int _ _), Vs 1 10 rfl rfl, Vh rfl (.int _ _), trivial⟩ ⟨⟨_, rfl, rfl, .same _ _ _ _ (Vq (fun _ => .int _ _))⟩, ⟨_, rfl, rfl, .same _ _ _ _ (Vl ⟨Vn ⟨.int _ _, .int _ _, .int _ _, .int _ _, .bool _, .bool _, .int _ _, .int _ _, .int _ _, .int _ _, trivial⟩, trivial⟩)⟩, ⟨_, rfl, rfl, .same _ _ _ _ (Vl ⟨Vn ⟨.nils, .nils, .nils, .nils, trivial⟩, trivial⟩)⟩, ⟨_, rfl, rfl, .same _ _ _ _ (Vl ⟨Vn ⟨.nils, .nils, trivial⟩, trivial⟩)⟩, ⟨_, rfl, rfl, .same _ _ _ _ (Vl ⟨Vn ⟨.nils, .nils, trivial⟩, trivial⟩)⟩, ⟨_, rfl, rfl, .agg _ _ _ _ _ ⟨Xu 7 6 rfl rfl, Xu 8 7 rfl rfl, Vh rfl (.nils), Vh rfl (.nils), trivial⟩⟩, ⟨_, rfl, rfl, .agg _ _ _ _ _ ⟨Xu 9 8 rfl rfl, Xu 10 9 rfl rfl, trivial⟩⟩, ⟨_, rfl, rfl, .same _ _ _ _ (Vq T_Place.enc_lt)⟩, ⟨_, rfl, rfl, .same _ _ _ _ (Vq T_Road.enc_lt)⟩, ⟨_, rfl, rfl, .same _ _ _ _ (Vq (fun _ => .int _ _))⟩, ⟨_, rfl, rfl, .same _ _ _ _ (Vq (fun _ => .int _ _))⟩, trivial⟩
        ·rintro _ _ _ _ ⟨rfl, hw⟩
         refine ⟨_, _, _, hw, ?_⟩
         obtain ⟨x73, h74, hF⟩ := Yb hF
         obtain ⟨x75, h76, hF⟩ := Yb hF
         refine Zh [[], [0], [0, 1], [], [3], [0, 1, 2, 3, 4], [], [6], [], [8], [0, 1, 2, 3, 4, 5, 6, 7, 8, 9], [0, 1, 2, 3, 4, 5, 6, 7, 8, 9, 10], [0, 1, 2, 3, 4, 5, 6, 7, 8, 9, 10, 11], [0, 1, 2, 3, 4, 5, 6, 7, 8, 9, 10, 11, 12], [0, 1, 2, 3, 4, 5, 6, 7, 8, 9, 10, 11, 12, 13], [0, 1, 2, 3, 4, 5, 6, 7, 8, 9, 10, 11, 12, 13, 14]] [false, false, false, false, false, true, false, false, false, false, true, false, false, true, false, true] [((setL low0 [(q0, ⟨88, 2, [.agg [.vs 1 (Zt (Zu .u8) x69.1.l), .int .i64 x69.1.at_]], w0⟩)]), [⟨3, 1, Zt (Zu .i64) o27.1, 0⟩, ⟨46, 10, [.agg [.int .i64 o71.2.1.From, .int .i64 o71.2.1.To, .int .i64 o71.2.1.Length, .int .i64 o71.2.1.Area, .bool o71.2.1.Walk, .bool o71.2.1.Closed, .int .i64 o71.2.1.Rest.Low, .int .i64 o71.2.1.Rest.High, .int .i64 o71.2.1.Lift.Low, .int .i64 o71.2.1.Lift.High]], 0⟩, ⟨31, 4, [.agg [.nils, .nils, .nils, .nils]], 0⟩, ⟨62, 2, [.agg [.nils, .nils]], 0⟩, ⟨64, 2, [.agg [.nils, .nils]], 0⟩, ⟨31, 4, [.agg [.sl (n + 7) 0 0 (o71.2.2.1.Mine.Places).length, .sl (n + 8) 0 0 (o71.2.2.1.Mine.Roads).length, .nils, .nils]], 0⟩, ⟨64, 2, [.agg [.sl (n + 9) 0 0 (o71.2.2.2.Pressures).length, .sl (n + 10) 0 0 (o71.2.2.2.Flows).length]], 0⟩, ⟨48, 2, Zt T_Place.enc o71.2.2.1.Mine.Places, 0⟩, ⟨46, 10, Zt T_Road.enc o71.2.2.1.Mine.Roads, 0⟩, ⟨3, 1, Zt (Zu .i64) o71.2.2.2.Pressures, 0⟩, ⟨3, 1, Zt (Zu .i64) o71.2.2.2.Flows, 0⟩]), ((setL low0 [(q0, ⟨88, 2, [.agg [.vs 1 (Zt (Zu .u8) x69.1.l), .int .i64 x69.1.at_]], w0⟩)]), [⟨3, 1, Zt (Zu .i64) o27.1, 0⟩, ⟨46, 10, [.agg [.int .i64 o71.2.1.From, .int .i64 o71.2.1.To, .int .i64 o71.2.1.Length, .int .i64 o71.2.1.Area, .bool o71.2.1.Walk, .bool o71.2.1.Closed, .int .i64 o71.2.1.Rest.Low, .int .i64 o71.2.1.Rest.High, .int .i64 o71.2.1.Lift.Low, .int .i64 o71.2.1.Lift.High]], 0⟩, ⟨31, 4, [.agg [.nils, .nils, .nils, .nils]], 0⟩, ⟨62, 2, [.agg [.nils, .nils]], 0⟩, ⟨64, 2, [.agg [.nils, .nils]], 0⟩, ⟨31, 4, [.agg [.sl (n + 7) 0 0 (o71.2.2.1.Mine.Places).length, .sl (n + 8) 0 0 (o71.2.2.1.Mine.Roads).length, .nils, .nils]], 0⟩, ⟨64, 2, [.agg [.sl (n + 9) 0 0 (o71.2.2.2.Pressures).length, .sl (n + 10) 0 0 (o71.2.2.2.Flows).length]], 0⟩, ⟨48, 2, Zt T_Place.enc o71.2.2.1.Mine.Places, 0⟩, ⟨46, 10, Zt T_Road.enc x73, 0 + 1⟩, ⟨3, 1, Zt (Zu .i64) o71.2.2.2.Pressures, 0⟩, ⟨3, 1, Zt (Zu .i64) o71.2.2.2.Flows, 0⟩]), ((setL low0 [(q0, ⟨88, 2, [.agg [.vs 1 (Zt (Zu .u8) x69.1.l), .int .i64 x69.1.at_]], w0⟩)]), [⟨3, 1, Zt (Zu .i64) o27.1, 0⟩, ⟨46, 10, [.agg [.int .i64 o71.2.1.From, .int .i64 o71.2.1.To, .int .i64 o71.2.1.Length, .int .i64 o71.2.1.Area, .bool o71.2.1.Walk, .bool o71.2.1.Closed, .int .i64 o71.2.1.Rest.Low, .int .i64 o71.2.1.Rest.High, .int .i64 o71.2.1.Lift.Low, .int .i64 o71.2.1.Lift.High]], 0⟩, ⟨31, 4, [.agg [.nils, .nils, .nils, .nils]], 0⟩, ⟨62, 2, [.agg [.nils, .nils]], 0⟩, ⟨64, 2, [.agg [.nils, .nils]], 0⟩, ⟨31, 4, [.agg [.sl (n + 7) 0 0 (o71.2.2.1.Mine.Places).length, .sl (n + 8) 0 0 (o71.2.2.1.Mine.Roads).length, .nils, .nils]], 0⟩, ⟨64, 2, [.agg [.sl (n + 9) 0 0 (o71.2.2.2.Pressures).length, .sl (n + 10) 0 0 (o71.2.2.2.Flows).length]], 0⟩, ⟨48, 2, Zt T_Place.enc o71.2.2.1.Mine.Places, 0⟩, ⟨46, 10, Zt T_Road.enc x73, 0 + 1⟩, ⟨3, 1, Zt (Zu .i64) o71.2.2.2.Pressures, 0⟩, ⟨3, 1, Zt (Zu .i64) x75, 0 + 1⟩]), ((setL low0 [(q0, ⟨88, 2, [.agg [.vs 1 (Zt (Zu .u8) x69.1.l), .int .i64 x69.1.at_]], w0⟩)]), [⟨3, 1, Zt (Zu .i64) o27.1, 0⟩, ⟨46, 10, [.agg [.int .i64 o71.2.1.From, .int .i64 o71.2.1.To, .int .i64 o71.2.1.Length, .int .i64 o71.2.1.Area, .bool o71.2.1.Walk, .bool o71.2.1.Closed, .int .i64 o71.2.1.Rest.Low, .int .i64 o71.2.1.Rest.High, .int .i64 o71.2.1.Lift.Low, .int .i64 o71.2.1.Lift.High]], 0⟩, ⟨31, 4, [.agg [.nils, .nils, .nils, .nils]], 0⟩, ⟨62, 2, [.agg [.nils, .nils]], 0⟩, ⟨64, 2, [.agg [.nils, .nils]], 0⟩, ⟨31, 4, [.agg [.sl (n + 7) 0 0 (o71.2.2.1.Mine.Places).length, .sl (n + 8) (0 + 1) 0 (x73).length, .nils, .nils]], 0⟩, ⟨64, 2, [.agg [.sl (n + 9) 0 0 (o71.2.2.2.Pressures).length, .sl (n + 10) 0 0 (o71.2.2.2.Flows).length]], 0⟩, ⟨48, 2, Zt T_Place.enc o71.2.2.1.Mine.Places, 0⟩, ⟨46, 10, Zt T_Road.enc x73, 0 + 1⟩, ⟨3, 1, Zt (Zu .i64) o71.2.2.2.Pressures, 0⟩, ⟨3, 1, Zt (Zu .i64) x75, 0 + 1⟩]), ((setL low0 [(q0, ⟨88, 2, [.agg [.vs 1 (Zt (Zu .u8) x69.1.l), .int .i64 x69.1.at_]], w0⟩)]), [⟨3, 1, Zt (Zu .i64) o27.1, 0⟩, ⟨46, 10, [.agg [.int .i64 o71.2.1.From, .int .i64 o71.2.1.To, .int .i64 o71.2.1.Length, .int .i64 o71.2.1.Area, .bool o71.2.1.Walk, .bool o71.2.1.Closed, .int .i64 o71.2.1.Rest.Low, .int .i64 o71.2.1.Rest.High, .int .i64 o71.2.1.Lift.Low, .int .i64 o71.2.1.Lift.High]], 0⟩, ⟨31, 4, [.agg [.nils, .nils, .nils, .nils]], 0⟩, ⟨62, 2, [.agg [.nils, .nils]], 0⟩, ⟨64, 2, [.agg [.nils, .nils]], 0⟩, ⟨31, 4, [.agg [.sl (n + 7) 0 0 (o71.2.2.1.Mine.Places).length, .sl (n + 8) (0 + 1) 0 (x73).length, .nils, .nils]], 0⟩, ⟨64, 2, [.agg [.sl (n + 9) 0 0 (o71.2.2.2.Pressures).length, .sl (n + 10) (0 + 1) 0 (x75).length]], 0⟩, ⟨48, 2, Zt T_Place.enc o71.2.2.1.Mine.Places, 0⟩, ⟨46, 10, Zt T_Road.enc x73, 0 + 1⟩, ⟨3, 1, Zt (Zu .i64) o71.2.2.2.Pressures, 0⟩, ⟨3, 1, Zt (Zu .i64) x75, 0 + 1⟩])] mixed (by kernel_rfl) rfl (lenAll (Vu Xi (Vu Xi (Vu Xi (Vu Xi (Vu Xi Yq)))))) rfl _ rfl rfl ?_
         refine Xx rfl rfl (Vb rfl tf_31_0 ts_27 (by decide)) ?_
         refine Xx rfl rfl (Vb rfl tf_27_1 ts_25 (by decide)) ?_
         refine Xx rfl rfl (Vj rfl (Vg (Vo hn) rfl) rfl ta_25 rfl) ?_
         refine Xx rfl rfl (Xe (ds := [.int .i64 o71.2.1.From, .int .i64 o71.2.1.To, .int .i64 o71.2.1.Length, .int .i64 o71.2.1.Area, .bool o71.2.1.Walk, .bool o71.2.1.Closed, .int .i64 o71.2.1.Rest.Low, .int .i64 o71.2.1.Rest.High, .int .i64 o71.2.1.Lift.Low, .int .i64 o71.2.1.Lift.High]) rfl (Vg (Vo hn) rfl) rfl ta_46 ts_46 rfl rfl rfl) ?_
         refine dn1 rfl rfl (nt_of (Ym (es := Zt T_Road.enc [o71.2.1]) ⟨rfl, rfl, trivial⟩ rfl rfl (Zg rfl) te_25 ts_46 tz_46 rfl rfl (Zy _) (by decide) (Yh T_Road.enc_lt))) ?_
         refine Xv rfl rfl rfl (Zq (f := T_Road.enc) (l := o71.2.2.1.Mine.Roads) (ys := [o71.2.1]) rfl rfl (Vg (Vo hn) rfl) rfl (src_vs rfl) te_25 ts_46 tb_46 (by decide) tz_46 rfl h74 (Xg (Vo hn) rfl)) ?_
         refine Vw _ rfl rfl (Vu (VRd.ntl (Vb rfl tf_64_1 ts_32 (by decide))) (Vu (VRd.ntl (Vb rfl tf_64_1 ts_32 (by decide))) Yq)) ?_
         refine Vw _ rfl rfl (Vu (VRd.ntl (Vj rfl (Vg (Vo hn) rfl) rfl ta_32 rfl)) (Vu (VRd.ntl (Vj rfl (Vg (Vo hn) rfl) rfl ta_32 rfl)) Yq)) ?_
         refine Vw _ rfl rfl (Vu (VRd.ntl (Vk rfl)) (Vu (VRd.ntl (Vk rfl)) Yq)) ?_
         refine Vw _ rfl rfl (Vu (nt_of (Ym (es := Zt (Zu .i64) [o71.1]) ⟨rfl, rfl, trivial⟩ rfl rfl (Zg rfl) te_32 ts_3 tz_3 rfl rfl (Zy _) (by decide) (Yh (fun _ => .int _ _)))) (Vu (nt_of (Ym (es := Zt (Zu .i64) [o71.1]) ⟨rfl, rfl, trivial⟩ rfl rfl (Zg rfl) te_32 ts_3 tz_3 rfl rfl (Zy _) (by decide) (Yh (fun _ => .int _ _)))) Yq)) ?_
         refine Xv rfl rfl rfl (Zq (f := (Zu .i64)) (l := o71.2.2.2.Flows) (ys := [o71.1]) rfl rfl (Vg (Vo hn) rfl) rfl (src_vs rfl) te_32 ts_3 tb_3 (by decide) tz_3 rfl h76 (Xg (Vo hn) rfl)) ?_
         refine Xx rfl rfl (Vb rfl tf_31_0 ts_27 (by decide)) ?_
         refine Xx rfl rfl (Vb rfl tf_27_1 ts_25 (by decide)) ?_
         refine Xv rfl rfl rfl (Vv (p := .sl (n + 8) (0 + 1) 0 (x73).length) (e' := .agg [.sl (n + 7) 0 0 (o71.2.2.1.Mine.Places).length, .sl (n + 8) (0 + 1) 0 (x73).length, .nils, .nils]) rfl (Vg (Vo hn) rfl) rfl rfl ts_25 rfl (Yc rfl) rfl (Zx rfl) rfl (Xg (Vo hn) rfl)) ?_
         refine Xx rfl rfl (Vb rfl tf_64_1 ts_32 (by decide)) ?_
         refine Xv rfl rfl rfl (Vv (p := .sl (n + 10) (0 + 1) 0 (x75).length) (e' := .agg [.sl (n + 9) 0 0 (o71.2.2.2.Pressures).length, .sl (n + 10) (0 + 1) 0 (x75).length]) rfl (Vg (Vo hn) rfl) rfl rfl ts_32 rfl (Yc rfl) rfl (Zx rfl) rfl (Xg (Vo hn) rfl)) ?_
         refine Yk ?_
         refine Vc ?_
         refine Va (Vk rfl) rfl ?_
         refine Va (Yv rfl rfl rfl) rfl ?_
         refine Va (Xo rfl) rfl ?_
         refine Ve ?_
         obtain rfl := Zw hF
         refine Vz ?_
         exact Vm (Vo hn) [(0, 0), (2, 0), (3, 0), (4, 0), (5, 0), (6, 0), (7, 0), (8, 0 + 1), (9, 0), (10, 0 + 1)] (by decide) ⟨Vh rfl (.ptr _ _ _ _ hq0), Vs 1 2 rfl rfl, Vs 2 3 rfl rfl, Vs 3 4 rfl rfl, Vs 4 5 rfl rfl, Vh rfl (.int _ _), Vh rfl (.int _ _), Vs 5 6 rfl rfl, Xu 0 0 rfl rfl, Vh rfl (.int _ _), trivial⟩ ⟨⟨_, rfl, rfl, .same _ _ _ _ (Vq (fun _ => .int _ _))⟩, ⟨_, rfl, rfl, .same _ _ _ _ (Vl ⟨Vn ⟨.nils, .nils, .nils, .nils, trivial⟩, trivial⟩)⟩, ⟨_, rfl, rfl, .same _ _ _ _ (Vl ⟨Vn ⟨.nils, .nils, trivial⟩, trivial⟩)⟩, ⟨_, rfl, rfl, .same _ _ _ _ (Vl ⟨Vn ⟨.nils, .nils, trivial⟩, trivial⟩)⟩, ⟨_, rfl, rfl, .agg _ _ _ _ _ ⟨Xu 6 7 rfl rfl, Xu 7 8 rfl rfl, Vh rfl (.nils), Vh rfl (.nils), trivial⟩⟩, ⟨_, rfl, rfl, .agg _ _ _ _ _ ⟨Xu 8 9 rfl rfl, Xu 9 10 rfl rfl, trivial⟩⟩, ⟨_, rfl, rfl, .same _ _ _ _ (Vq T_Place.enc_lt)⟩, ⟨_, rfl, rfl, .same _ _ _ _ (Vq T_Road.enc_lt)⟩, ⟨_, rfl, rfl, .same _ _ _ _ (Vq (fun _ => .int _ _))⟩, ⟨_, rfl, rfl, .same _ _ _ _ (Vq (fun _ => .int _ _))⟩, trivial⟩
       ·have hF := Yt c62 hF
        refine Yu ?_
        obtain rfl := Zw hF
        refine Vz ?_
        exact Vm (Vo hn) [(1, 0), (2, 0), (3, 0), (4, 0), (5, 0), (6, 0), (7, 0), (8, 0), (9, 0)] (by decide) ⟨Vh rfl (.ptr _ _ _ _ hq0), Vs 0 1 rfl rfl, Vs 1 2 rfl rfl, Vs 2 3 rfl rfl, Vs 3 4 rfl rfl, Vs 4 5 rfl rfl, trivial⟩ ⟨⟨_, rfl, rfl, .same _ _ _ _ (Vl ⟨Vn ⟨.nils, .nils, .nils, .nils, trivial⟩, trivial⟩)⟩, ⟨_, rfl, rfl, .same _ _ _ _ (Vl ⟨Vn ⟨.nils, .nils, trivial⟩, trivial⟩)⟩, ⟨_, rfl, rfl, .same _ _ _ _ (Vl ⟨Vn ⟨.nils, .nils, trivial⟩, trivial⟩)⟩, ⟨_, rfl, rfl, .agg _ _ _ _ _ ⟨Xu 5 6 rfl rfl, Xu 6 7 rfl rfl, Vh rfl (.nils), Vh rfl (.nils), trivial⟩⟩, ⟨_, rfl, rfl, .agg _ _ _ _ _ ⟨Xu 7 8 rfl rfl, Xu 8 9 rfl rfl, trivial⟩⟩, ⟨_, rfl, rfl, .same _ _ _ _ (Vq T_Place.enc_lt)⟩, ⟨_, rfl, rfl, .same _ _ _ _ (Vq T_Road.enc_lt)⟩, ⟨_, rfl, rfl, .same _ _ _ _ (Vq (fun _ => .int _ _))⟩, ⟨_, rfl, rfl, .same _ _ _ _ (Vq (fun _ => .int _ _))⟩, trivial⟩
      ·rintro _ _ _ _ ⟨rfl, hw⟩
       refine ⟨_, _, _, hw, ?_⟩
       refine Vf ?_
       refine Vc ?_
       obtain ⟨x77, h78, hF⟩ := Yb hF
       refine Va (Xb rfl) rfl ?_
       refine vops_weak (weak_nil (E' := [(0, .ptr q0 w0 0 0), (2, .ptr (n + 0) 0 0 0), (3, .ptr (n + 1) 0 0 0), (4, .ptr (n + 2) 0 0 0), (5, .ptr (n + 3) 0 0 0), (9, .ptr (n + 4) 0 0 0), (177, .ptr q0 w0 0 0)]) (loc1 := [⟨31, 4, [.agg [.nils, .nils, .nils, .nils]], 0⟩, ⟨62, 2, [.agg [.nils, .nils]], 0⟩, ⟨64, 2, [.agg [.nils, .nils]], 0⟩, ⟨31, 4, [.agg [.sl (n + 5) 0 0 (o61.1.Mine.Places).length, .sl (n + 6) 0 0 (o61.1.Mine.Roads).length, .sl (n + 9) 0 0 (([] : List T_Fan)).length, .nils]], 0⟩, ⟨64, 2, [.agg [.sl (n + 7) 0 0 (o61.2.1.Pressures).length, .sl (n + 8) 0 0 (o61.2.1.Flows).length]], 0⟩, ⟨48, 2, Zt T_Place.enc o61.1.Mine.Places, 0⟩, ⟨46, 10, Zt T_Road.enc o61.1.Mine.Roads, 0⟩, ⟨3, 1, Zt (Zu .i64) o61.2.1.Pressures, 0⟩, ⟨3, 1, Zt (Zu .i64) o61.2.1.Flows, 0⟩]) (Vo hn) rfl 72 4 (Zy _) ⟨Vy rfl, Vy rfl, Vy rfl, Vy rfl, Vy rfl, Vy rfl, Vy rfl, trivial⟩ ⟨.same _, .same _, .same _, .agg _ _ _ _ _ ⟨Vy rfl, Vy rfl, nn_nil rfl, Vy rfl, trivial⟩, .same _, .same _, .same _, .same _, .same _, trivial⟩) ?_
       refine vops_weak (weak_nil (E' := [(0, .ptr q0 w0 0 0), (2, .ptr (n + 0) 0 0 0), (3, .ptr (n + 1) 0 0 0), (4, .ptr (n + 2) 0 0 0), (5, .ptr (n + 3) 0 0 0), (9, .ptr (n + 4) 0 0 0), (177, .ptr q0 w0 0 0)]) (loc1 := [⟨31, 4, [.agg [.nils, .nils, .nils, .nils]], 0⟩, ⟨62, 2, [.agg [.nils, .nils]], 0⟩, ⟨64, 2, [.agg [.nils, .nils]], 0⟩, ⟨31, 4, [.agg [.sl (n + 5) 0 0 (o61.1.Mine.Places).length, .sl (n + 6) 0 0 (o61.1.Mine.Roads).length, .sl (n + 9) 0 0 (([] : List T_Fan)).length, .sl (n + 10) 0 0 (([] : List T_Door)).length]], 0⟩, ⟨64, 2, [.agg [.sl (n + 7) 0 0 (o61.2.1.Pressures).length, .sl (n + 8) 0 0 (o61.2.1.Flows).length]], 0⟩, ⟨48, 2, Zt T_Place.enc o61.1.Mine.Places, 0⟩, ⟨46, 10, Zt T_Road.enc o61.1.Mine.Roads, 0⟩, ⟨3, 1, Zt (Zu .i64) o61.2.1.Pressures, 0⟩, ⟨3, 1, Zt (Zu .i64) o61.2.1.Flows, 0⟩, ⟨72, 4, Zt T_Fan.enc ([] : List T_Fan), 0⟩]) (Vo hn) rfl 99 3 (Zy _) ⟨Vy rfl, Vy rfl, Vy rfl, Vy rfl, Vy rfl, Vy rfl, Vy rfl, trivial⟩ ⟨.same _, .same _, .same _, .agg _ _ _ _ _ ⟨Vy rfl, Vy rfl, Vy rfl, nn_nil rfl, trivial⟩, .same _, .same _, .same _, .same _, .same _, .same _, trivial⟩) ?_
       refine vops_weak (Yo (E' := [(0, .ptr q0 w0 0 0), (2, .ptr (n + 0) 0 0 0), (3, .ptr (n + 1) 0 0 0), (4, .ptr (n + 2) 0 0 0), (5, .ptr (n + 3) 0 0 0), (9, .ptr (n + 4) 0 0 0), (177, .ptr q0 w0 0 0)]) (loc1 := [⟨31, 4, [.agg [.nils, .nils, .nils, .nils]], 0⟩, ⟨62, 2, [.agg [.nils, .nils]], 0⟩, ⟨64, 2, [.agg [.nils, .nils]], 0⟩, ⟨31, 4, [.agg [.vs 2 (Zt T_Place.enc o61.1.Mine.Places), .sl (n + 6) 0 0 (o61.1.Mine.Roads).length, .sl (n + 9) 0 0 (([] : List T_Fan)).length, .sl (n + 10) 0 0 (([] : List T_Door)).length]], 0⟩, ⟨64, 2, [.agg [.sl (n + 7) 0 0 (o61.2.1.Pressures).length, .sl (n + 8) 0 0 (o61.2.1.Flows).length]], 0⟩, ⟨48, 2, [], 0 + 1⟩, ⟨46, 10, Zt T_Road.enc o61.1.Mine.Roads, 0⟩, ⟨3, 1, Zt (Zu .i64) o61.2.1.Pressures, 0⟩, ⟨3, 1, Zt (Zu .i64) o61.2.1.Flows, 0⟩, ⟨72, 4, Zt T_Fan.enc ([] : List T_Fan), 0⟩, ⟨99, 3, Zt T_Door.enc ([] : List T_Door), 0⟩]) (Vo hn) 5 rfl (Yh T_Place.enc_lt) ⟨Vt rfl, Vt rfl, Vt rfl, Vt rfl, Vt rfl, Vt rfl, Vt rfl, trivial⟩ ⟨.refl _, .refl _, .refl _, cvo_agg ⟨cv_sl rfl rfl rfl (Zd rfl), Vt rfl, Vt rfl, Vt rfl, trivial⟩, .refl _, .refl _, .refl _, .refl _, .refl _, .refl _, .refl _, trivial⟩) ?_
       refine Vi (Xc (ps := [(q0, ⟨88, 2, [.agg [.vs 1 (Zt (Zu .u8) x77.1.l), .int .i64 x77.1.at_]], w0⟩), ((n + 3), ⟨31, 4, [.agg [.vs 2 (Zt T_Place.enc x77.2.1.Mine.Places), .sl (n + 6) 0 0 (o61.1.Mine.Roads).length, .sl (n + 9) (0 + 1) 0 (x77.2.1.Fans).length, .sl (n + 10) (0 + 1) 0 (x77.2.1.Doors).length]], 0⟩), ((n + 6), ⟨46, 10, Zt T_Road.enc x77.2.1.Mine.Roads, 0⟩), ((n + 9), ⟨72, 4, Zt T_Fan.enc x77.2.1.Fans, 0 + 1⟩), ((n + 10), ⟨99, 3, Zt T_Door.enc x77.2.1.Doors, 0 + 1⟩)]) (r := .agg [.sl (n + 11) 0 0 (x77.2.2.Fans).length, .sl (n + 12) 0 0 (x77.2.2.Doors).length]) (os := [⟨3, 1, Zt (Zu .i64) x77.2.2.Fans, 0⟩, ⟨3, 1, Zt (Zu .i64) x77.2.2.Doors, 0⟩]) (low1 := (setL low0 [(q0, ⟨88, 2, [.agg [.vs 1 (Zt (Zu .u8) x77.1.l), .int .i64 x77.1.at_]], w0⟩)])) (loc1 := [⟨31, 4, [.agg [.nils, .nils, .nils, .nils]], 0⟩, ⟨62, 2, [.agg [.nils, .nils]], 0⟩, ⟨64, 2, [.agg [.nils, .nils]], 0⟩, ⟨31, 4, [.agg [.vs 2 (Zt T_Place.enc x77.2.1.Mine.Places), .sl (n + 6) 0 0 (o61.1.Mine.Roads).length, .sl (n + 9) (0 + 1) 0 (x77.2.1.Fans).length, .sl (n + 10) (0 + 1) 0 (x77.2.1.Doors).length]], 0⟩, ⟨64, 2, [.agg [.sl (n + 7) 0 0 (o61.2.1.Pressures).length, .sl (n + 8) 0 0 (o61.2.1.Flows).length]], 0⟩, ⟨48, 2, [], 0 + 1⟩, ⟨46, 10, Zt T_Road.enc x77.2.1.Mine.Roads, 0⟩, ⟨3, 1, Zt (Zu .i64) o61.2.1.Pressures, 0⟩, ⟨3, 1, Zt (Zu .i64) o61.2.1.Flows, 0⟩, ⟨72, 4, Zt T_Fan.enc x77.2.1.Fans, 0 + 1⟩, ⟨99, 3, Zt T_Door.enc x77.2.1.Doors, 0 + 1⟩]) (loc2 := [⟨31, 4, [.agg [.nils, .nils, .nils, .nils]], 0⟩, ⟨62, 2, [.agg [.nils, .nils]], 0⟩, ⟨64, 2, [.agg [.nils, .nils]], 0⟩, ⟨31, 4, [.agg [.vs 2 (Zt T_Place.enc x77.2.1.Mine.Places), .sl (n + 6) 0 0 (o61.1.Mine.Roads).length, .sl (n + 9) (0 + 1) 0 (x77.2.1.Fans).length, .sl (n + 10) (0 + 1) 0 (x77.2.1.Doors).length]], 0⟩, ⟨64, 2, [.agg [.sl (n + 7) 0 0 (o61.2.1.Pressures).length, .sl (n + 8) 0 0 (o61.2.1.Flows).length]], 0⟩, ⟨48, 2, [], 0 + 1⟩, ⟨46, 10, Zt T_Road.enc x77.2.1.Mine.Roads, 0⟩, ⟨3, 1, Zt (Zu .i64) o61.2.1.Pressures, 0⟩, ⟨3, 1, Zt (Zu .i64) o61.2.1.Flows, 0⟩, ⟨72, 4, Zt T_Fan.enc x77.2.1.Fans, 0 + 1⟩, ⟨99, 3, Zt T_Door.enc x77.2.1.Doors, 0 + 1⟩, ⟨3, 1, Zt (Zu .i64) x77.2.2.Fans, 0⟩, ⟨3, 1, Zt (Zu .i64) x77.2.2.Doors, 0⟩]) rfl Try.call38 (F_draw_Codes_equipped_ok h78 (nd1 (na1 (ne_low hq0) (na1 (ne_low hq0) (na1 (ne_low hq0) (na1 (ne_low hq0) na0)))) (nd1 (na1 (ne_own rfl) (na1 (ne_own rfl) (na1 (ne_own rfl) na0))) (nd1 (na1 (ne_own rfl) (na1 (ne_own rfl) na0)) (nd1 (na1 (ne_own rfl) na0) (nd1 na0 nd0))))) (rfl : (o61.1.Mine.Roads).length = _) (rfl : (([] : List T_Fan)).length = _) (rfl : (([] : List T_Door)).length = _) (Zb hB rfl 0 rfl) (get_N (Vo hn) rfl) (get_N (Vo hn) rfl) (get_N (Vo hn) rfl) (get_N (Vo hn) rfl) (Xq (Vo hn) rfl)) (Yn (ps0' := [(q0, ⟨88, 2, [.agg [.vs 1 (Zt (Zu .u8) x77.1.l), .int .i64 x77.1.at_]], w0⟩)]) hB rfl 0 rfl (Yi hn ⟨Vn ⟨.vs _ _, .int _ _, trivial⟩, trivial⟩) rfl (sets_own (loc2 := [⟨31, 4, [.agg [.nils, .nils, .nils, .nils]], 0⟩, ⟨62, 2, [.agg [.nils, .nils]], 0⟩, ⟨64, 2, [.agg [.nils, .nils]], 0⟩, ⟨31, 4, [.agg [.vs 2 (Zt T_Place.enc x77.2.1.Mine.Places), .sl (n + 6) 0 0 (o61.1.Mine.Roads).length, .sl (n + 9) (0 + 1) 0 (x77.2.1.Fans).length, .sl (n + 10) (0 + 1) 0 (x77.2.1.Doors).length]], 0⟩, ⟨64, 2, [.agg [.sl (n + 7) 0 0 (o61.2.1.Pressures).length, .sl (n + 8) 0 0 (o61.2.1.Flows).length]], 0⟩, ⟨48, 2, [], 0 + 1⟩, ⟨46, 10, Zt T_Road.enc o61.1.Mine.Roads, 0⟩, ⟨3, 1, Zt (Zu .i64) o61.2.1.Pressures, 0⟩, ⟨3, 1, Zt (Zu .i64) o61.2.1.Flows, 0⟩, ⟨72, 4, Zt T_Fan.enc ([] : List T_Fan), 0⟩, ⟨99, 3, Zt T_Door.enc ([] : List T_Door), 0⟩]) (Vo hn) 3 rfl (sets_own (loc2 := [⟨31, 4, [.agg [.nils, .nils, .nils, .nils]], 0⟩, ⟨62, 2, [.agg [.nils, .nils]], 0⟩, ⟨64, 2, [.agg [.nils, .nils]], 0⟩, ⟨31, 4, [.agg [.vs 2 (Zt T_Place.enc x77.2.1.Mine.Places), .sl (n + 6) 0 0 (o61.1.Mine.Roads).length, .sl (n + 9) (0 + 1) 0 (x77.2.1.Fans).length, .sl (n + 10) (0 + 1) 0 (x77.2.1.Doors).length]], 0⟩, ⟨64, 2, [.agg [.sl (n + 7) 0 0 (o61.2.1.Pressures).length, .sl (n + 8) 0 0 (o61.2.1.Flows).length]], 0⟩, ⟨48, 2, [], 0 + 1⟩, ⟨46, 10, Zt T_Road.enc x77.2.1.Mine.Roads, 0⟩, ⟨3, 1, Zt (Zu .i64) o61.2.1.Pressures, 0⟩, ⟨3, 1, Zt (Zu .i64) o61.2.1.Flows, 0⟩, ⟨72, 4, Zt T_Fan.enc ([] : List T_Fan), 0⟩, ⟨99, 3, Zt T_Door.enc ([] : List T_Door), 0⟩]) (Vo hn) 6 rfl (sets_own (loc2 := [⟨31, 4, [.agg [.nils, .nils, .nils, .nils]], 0⟩, ⟨62, 2, [.agg [.nils, .nils]], 0⟩, ⟨64, 2, [.agg [.nils, .nils]], 0⟩, ⟨31, 4, [.agg [.vs 2 (Zt T_Place.enc x77.2.1.Mine.Places), .sl (n + 6) 0 0 (o61.1.Mine.Roads).length, .sl (n + 9) (0 + 1) 0 (x77.2.1.Fans).length, .sl (n + 10) (0 + 1) 0 (x77.2.1.Doors).length]], 0⟩, ⟨64, 2, [.agg [.sl (n + 7) 0 0 (o61.2.1.Pressures).length, .sl (n + 8) 0 0 (o61.2.1.Flows).length]], 0⟩, ⟨48, 2, [], 0 + 1⟩, ⟨46, 10, Zt T_Road.enc x77.2.1.Mine.Roads, 0⟩, ⟨3, 1, Zt (Zu .i64) o61.2.1.Pressures, 0⟩, ⟨3, 1, Zt (Zu .i64) o61.2.1.Flows, 0⟩, ⟨72, 4, Zt T_Fan.enc x77.2.1.Fans, 0 + 1⟩, ⟨99, 3, Zt T_Door.enc ([] : List T_Door), 0⟩]) (Vo hn) 9 rfl (sets_own (loc2 := [⟨31, 4, [.agg [.nils, .nils, .nils, .nils]], 0⟩, ⟨62, 2, [.agg [.nils, .nils]], 0⟩, ⟨64, 2, [.agg [.nils, .nils]], 0⟩, ⟨31, 4, [.agg [.vs 2 (Zt T_Place.enc x77.2.1.Mine.Places), .sl (n + 6) 0 0 (o61.1.Mine.Roads).length, .sl (n + 9) (0 + 1) 0 (x77.2.1.Fans).length, .sl (n + 10) (0 + 1) 0 (x77.2.1.Doors).length]], 0⟩, ⟨64, 2, [.agg [.sl (n + 7) 0 0 (o61.2.1.Pressures).length, .sl (n + 8) 0 0 (o61.2.1.Flows).length]], 0⟩, ⟨48, 2, [], 0 + 1⟩, ⟨46, 10, Zt T_Road.enc x77.2.1.Mine.Roads, 0⟩, ⟨3, 1, Zt (Zu .i64) o61.2.1.Pressures, 0⟩, ⟨3, 1, Zt (Zu .i64) o61.2.1.Flows, 0⟩, ⟨72, 4, Zt T_Fan.enc x77.2.1.Fans, 0 + 1⟩, ⟨99, 3, Zt T_Door.enc x77.2.1.Doors, 0 + 1⟩]) (Vo hn) 10 rfl Xj))))) rfl) rfl ?_
       refine Vi (Xh (Vo hn) rfl tz_62 rfl rfl (Zy _) rfl) rfl ?_
       refine Vi (Vv (p := .agg [.sl (n + 11) 0 0 (x77.2.2.Fans).length, .sl (n + 12) 0 0 (x77.2.2.Doors).length]) (e' := .agg [.sl (n + 11) 0 0 (x77.2.2.Fans).length, .sl (n + 12) 0 0 (x77.2.2.Doors).length]) rfl (Vg (Vo hn) rfl) rfl rfl ts_62 rfl (Yc rfl) rfl (Zx rfl) rfl (Xg (Vo hn) rfl)) rfl ?_
       refine Ve ?_
       refine Vf ?_
       refine Vc ?_
       obtain ⟨x79, h80, hF⟩ := Yb hF
       refine Va (Xb rfl) rfl ?_
       refine Va (Xe (ds := [.sl (n + 11) 0 0 (x77.2.2.Fans).length, .sl (n + 12) 0 0 (x77.2.2.Doors).length]) rfl (Vg (Vo hn) rfl) rfl ta_62 ts_62 rfl rfl rfl) rfl ?_
       refine Va (Xe (ds := [.sl (n + 7) 0 0 (o61.2.1.Pressures).length, .sl (n + 8) 0 0 (o61.2.1.Flows).length]) rfl (Vg (Vo hn) rfl) rfl ta_64 ts_64 rfl rfl rfl) rfl ?_
       refine vops_weak (Yo (E' := [(0, .ptr q0 w0 0 0), (2, .ptr (n + 0) 0 0 0), (3, .ptr (n + 1) 0 0 0), (4, .ptr (n + 2) 0 0 0), (5, .ptr (n + 3) 0 0 0), (9, .ptr (n + 4) 0 0 0), (19, .ptr (n + 13) 0 0 0), (179, .ptr q0 w0 0 0), (180, .agg [.vs 1 (Zt (Zu .i64) x77.2.2.Fans), .sl (n + 12) 0 0 (x77.2.2.Doors).length]), (181, .agg [.sl (n + 7) 0 0 (o61.2.1.Pressures).length, .sl (n + 8) 0 0 (o61.2.1.Flows).length])]) (loc1 := [⟨31, 4, [.agg [.nils, .nils, .nils, .nils]], 0⟩, ⟨62, 2, [.agg [.nils, .nils]], 0⟩, ⟨64, 2, [.agg [.nils, .nils]], 0⟩, ⟨31, 4, [.agg [.vs 2 (Zt T_Place.enc x77.2.1.Mine.Places), .sl (n + 6) 0 0 (o61.1.Mine.Roads).length, .sl (n + 9) (0 + 1) 0 (x77.2.1.Fans).length, .sl (n + 10) (0 + 1) 0 (x77.2.1.Doors).length]], 0⟩, ⟨64, 2, [.agg [.sl (n + 7) 0 0 (o61.2.1.Pressures).length, .sl (n + 8) 0 0 (o61.2.1.Flows).length]], 0⟩, ⟨48, 2, [], 0 + 1⟩, ⟨46, 10, Zt T_Road.enc x77.2.1.Mine.Roads, 0⟩, ⟨3, 1, Zt (Zu .i64) o61.2.1.Pressures, 0⟩, ⟨3, 1, Zt (Zu .i64) o61.2.1.Flows, 0⟩, ⟨72, 4, Zt T_Fan.enc x77.2.1.Fans, 0 + 1⟩, ⟨99, 3, Zt T_Door.enc x77.2.1.Doors, 0 + 1⟩, ⟨3, 1, [], 0 + 1⟩, ⟨3, 1, Zt (Zu .i64) x77.2.2.Doors, 0⟩, ⟨62, 2, [.agg [.vs 1 (Zt (Zu .i64) x77.2.2.Fans), .sl (n + 12) 0 0 (x77.2.2.Doors).length]], 0⟩]) (Vo hn) 11 rfl (Yh (fun _ => .int _ _)) ⟨Vt rfl, Vt rfl, Vt rfl, Vt rfl, Vt rfl, Vt rfl, Vt rfl, Vt rfl, cv_agg rfl ⟨cv_sl rfl rfl rfl (Zd rfl), Vt rfl, trivial⟩, Vt rfl, trivial⟩ ⟨.refl _, .refl _, .refl _, .refl _, .refl _, .refl _, .refl _, .refl _, .refl _, .refl _, .refl _, .refl _, .refl _, cvo_agg ⟨cv_sl rfl rfl rfl (Zd rfl), Vt rfl, trivial⟩, trivial⟩) ?_
       refine vops_weak (Yo (E' := [(0, .ptr q0 w0 0 0), (2, .ptr (n + 0) 0 0 0), (3, .ptr (n + 1) 0 0 0), (4, .ptr (n + 2) 0 0 0), (5, .ptr (n + 3) 0 0 0), (9, .ptr (n + 4) 0 0 0), (19, .ptr (n + 13) 0 0 0), (179, .ptr q0 w0 0 0), (180, .agg [.vs 1 (Zt (Zu .i64) x77.2.2.Fans), .vs 1 (Zt (Zu .i64) x77.2.2.Doors)]), (181, .agg [.sl (n + 7) 0 0 (o61.2.1.Pressures).length, .sl (n + 8) 0 0 (o61.2.1.Flows).length])]) (loc1 := [⟨31, 4, [.agg [.nils, .nils, .nils, .nils]], 0⟩, ⟨62, 2, [.agg [.nils, .nils]], 0⟩, ⟨64, 2, [.agg [.nils, .nils]], 0⟩, ⟨31, 4, [.agg [.vs 2 (Zt T_Place.enc x77.2.1.Mine.Places), .sl (n + 6) 0 0 (o61.1.Mine.Roads).length, .sl (n + 9) (0 + 1) 0 (x77.2.1.Fans).length, .sl (n + 10) (0 + 1) 0 (x77.2.1.Doors).length]], 0⟩, ⟨64, 2, [.agg [.sl (n + 7) 0 0 (o61.2.1.Pressures).length, .sl (n + 8) 0 0 (o61.2.1.Flows).length]], 0⟩, ⟨48, 2, [], 0 + 1⟩, ⟨46, 10, Zt T_Road.enc x77.2.1.Mine.Roads, 0⟩, ⟨3, 1, Zt (Zu .i64) o61.2.1.Pressures, 0⟩, ⟨3, 1, Zt (Zu .i64) o61.2.1.Flows, 0⟩, ⟨72, 4, Zt T_Fan.enc x77.2.1.Fans, 0 + 1⟩, ⟨99, 3, Zt T_Door.enc x77.2.1.Doors, 0 + 1⟩, ⟨3, 1, [], 0 + 1⟩, ⟨3, 1, [], 0 + 1⟩, ⟨62, 2, [.agg [.vs 1 (Zt (Zu .i64) x77.2.2.Fans), .vs 1 (Zt (Zu .i64) x77.2.2.Doors)]], 0⟩]) (Vo hn) 12 rfl (Yh (fun _ => .int _ _)) ⟨Vt rfl, Vt rfl, Vt rfl, Vt rfl, Vt rfl, Vt rfl, Vt rfl, Vt rfl, cv_agg rfl ⟨Vt rfl, cv_sl rfl rfl rfl (Zd rfl), trivial⟩, Vt rfl, trivial⟩ ⟨.refl _, .refl _, .refl _, .refl _, .refl _, .refl _, .refl _, .refl _, .refl _, .refl _, .refl _, .refl _, .refl _, cvo_agg ⟨Vt rfl, cv_sl rfl rfl rfl (Zd rfl), trivial⟩, trivial⟩) ?_
       refine vops_weak (Yo (E' := [(0, .ptr q0 w0 0 0), (2, .ptr (n + 0) 0 0 0), (3, .ptr (n + 1) 0 0 0), (4, .ptr (n + 2) 0 0 0), (5, .ptr (n + 3) 0 0 0), (9, .ptr (n + 4) 0 0 0), (19, .ptr (n + 13) 0 0 0), (179, .ptr q0 w0 0 0), (180, .agg [.vs 1 (Zt (Zu .i64) x77.2.2.Fans), .vs 1 (Zt (Zu .i64) x77.2.2.Doors)]), (181, .agg [.vs 1 (Zt (Zu .i64) o61.2.1.Pressures), .sl (n + 8) 0 0 (o61.2.1.Flows).length])]) (loc1 := [⟨31, 4, [.agg [.nils, .nils, .nils, .nils]], 0⟩, ⟨62, 2, [.agg [.nils, .nils]], 0⟩, ⟨64, 2, [.agg [.nils, .nils]], 0⟩, ⟨31, 4, [.agg [.vs 2 (Zt T_Place.enc x77.2.1.Mine.Places), .sl (n + 6) 0 0 (o61.1.Mine.Roads).length, .sl (n + 9) (0 + 1) 0 (x77.2.1.Fans).length, .sl (n + 10) (0 + 1) 0 (x77.2.1.Doors).length]], 0⟩, ⟨64, 2, [.agg [.vs 1 (Zt (Zu .i64) o61.2.1.Pressures), .sl (n + 8) 0 0 (o61.2.1.Flows).length]], 0⟩, ⟨48, 2, [], 0 + 1⟩, ⟨46, 10, Zt T_Road.enc x77.2.1.Mine.Roads, 0⟩, ⟨3, 1, [], 0 + 1⟩, ⟨3, 1, Zt (Zu .i64) o61.2.1.Flows, 0⟩, ⟨72, 4, Zt T_Fan.enc x77.2.1.Fans, 0 + 1⟩, ⟨99, 3, Zt T_Door.enc x77.2.1.Doors, 0 + 1⟩, ⟨3, 1, [], 0 + 1⟩, ⟨3, 1, [], 0 + 1⟩, ⟨62, 2, [.agg [.vs 1 (Zt (Zu .i64) x77.2.2.Fans), .vs 1 (Zt (Zu .i64) x77.2.2.Doors)]], 0⟩]) (Vo hn) 7 rfl (Yh (fun _ => .int _ _)) ⟨Vt rfl, Vt rfl, Vt rfl, Vt rfl, Vt rfl, Vt rfl, Vt rfl, Vt rfl, Vt rfl, cv_agg rfl ⟨cv_sl rfl rfl rfl (Zd rfl), Vt rfl, trivial⟩, trivial⟩ ⟨.refl _, .refl _, .refl _, .refl _, cvo_agg ⟨cv_sl rfl rfl rfl (Zd rfl), Vt rfl, trivial⟩, .refl _, .refl _, .refl _, .refl _, .refl _, .refl _, .refl _, .refl _, .refl _, trivial⟩) ?_
       refine vops_weak (Yo (E' := [(0, .ptr q0 w0 0 0), (2, .ptr (n + 0) 0 0 0), (3, .ptr (n + 1) 0 0 0), (4, .ptr (n + 2) 0 0 0), (5, .ptr (n + 3) 0 0 0), (9, .ptr (n + 4) 0 0 0), (19, .ptr (n + 13) 0 0 0), (179, .ptr q0 w0 0 0), (180, .agg [.vs 1 (Zt (Zu .i64) x77.2.2.Fans), .vs 1 (Zt (Zu .i64) x77.2.2.Doors)]), (181, .agg [.vs 1 (Zt (Zu .i64) o61.2.1.Pressures), .vs 1 (Zt (Zu .i64) o61.2.1.Flows)])]) (loc1 := [⟨31, 4, [.agg [.nils, .nils, .nils, .nils]], 0⟩, ⟨62, 2, [.agg [.nils, .nils]], 0⟩, ⟨64, 2, [.agg [.nils, .nils]], 0⟩, ⟨31, 4, [.agg [.vs 2 (Zt T_Place.enc x77.2.1.Mine.Places), .sl (n + 6) 0 0 (o61.1.Mine.Roads).length, .sl (n + 9) (0 + 1) 0 (x77.2.1.Fans).length, .sl (n + 10) (0 + 1) 0 (x77.2.1.Doors).length]], 0⟩, ⟨64, 2, [.agg [.vs 1 (Zt (Zu .i64) o61.2.1.Pressures), .vs 1 (Zt (Zu .i64) o61.2.1.Flows)]], 0⟩, ⟨48, 2, [], 0 + 1⟩, ⟨46, 10, Zt T_Road.enc x77.2.1.Mine.Roads, 0⟩, ⟨3, 1, [], 0 + 1⟩, ⟨3, 1, [], 0 + 1⟩, ⟨72, 4, Zt T_Fan.enc x77.2.1.Fans, 0 + 1⟩, ⟨99, 3, Zt T_Door.enc x77.2.1.Doors, 0 + 1⟩, ⟨3, 1, [], 0 + 1⟩, ⟨3, 1, [], 0 + 1⟩, ⟨62, 2, [.agg [.vs 1 (Zt (Zu .i64) x77.2.2.Fans), .vs 1 (Zt (Zu .i64) x77.2.2.Doors)]], 0⟩]) (Vo hn) 8 rfl (Yh (fun _ => .int _ _)) ⟨Vt rfl, Vt rfl, Vt rfl, Vt rfl, Vt rfl, Vt rfl, Vt rfl, Vt rfl, Vt rfl, cv_agg rfl ⟨Vt rfl, cv_sl rfl rfl rfl (Zd rfl), trivial⟩, trivial⟩ ⟨.refl _, .refl _, .refl _, .refl _, cvo_agg ⟨Vt rfl, cv_sl rfl rfl rfl (Zd rfl), trivial⟩, .refl _, .refl _, .refl _, .refl _, .refl _, .refl _, .refl _, .refl _, .refl _, trivial⟩) ?_
       refine Vi (Xc (ps := [(q0, ⟨88, 2, [.agg [.vs 1 (Zt (Zu .u8) x79.1.l), .int .i64 x79.1.at_]], w0⟩), ((n + 3), ⟨31, 4, [.agg [.vs 2 (Zt T_Place.enc x79.2.Mine.Places), .sl (n + 6) 0 0 (o61.1.Mine.Roads).length, .sl (n + 9) (0 + 1) 0 (x77.2.1.Fans).length, .sl (n + 10) (0 + 1) 0 (x77.2.1.Doors).length]], 0⟩), ((n + 6), ⟨46, 10, Zt T_Road.enc x79.2.Mine.Roads, 0⟩), ((n + 9), ⟨72, 4, Zt T_Fan.enc x79.2.Fans, 0 + 1⟩), ((n + 10), ⟨99, 3, Zt T_Door.enc x79.2.Doors, 0 + 1⟩)]) (r := .tup []) (os := []) (low1 := (setL low0 [(q0, ⟨88, 2, [.agg [.vs 1 (Zt (Zu .u8) x79.1.l), .int .i64 x79.1.at_]], w0⟩)])) (loc1 := [⟨31, 4, [.agg [.nils, .nils, .nils, .nils]], 0⟩, ⟨62, 2, [.agg [.nils, .nils]], 0⟩, ⟨64, 2, [.agg [.nils, .nils]], 0⟩, ⟨31, 4, [.agg [.vs 2 (Zt T_Place.enc x79.2.Mine.Places), .sl (n + 6) 0 0 (o61.1.Mine.Roads).length, .sl (n + 9) (0 + 1) 0 (x77.2.1.Fans).length, .sl (n + 10) (0 + 1) 0 (x77.2.1.Doors).length]], 0⟩, ⟨64, 2, [.agg [.vs 1 (Zt (Zu .i64) o61.2.1.Pressures), .vs 1 (Zt (Zu .i64) o61.2.1.Flows)]], 0⟩, ⟨48, 2, [], 0 + 1⟩, ⟨46, 10, Zt T_Road.enc x79.2.Mine.Roads, 0⟩, ⟨3, 1, [], 0 + 1⟩, ⟨3, 1, [], 0 + 1⟩, ⟨72, 4, Zt T_Fan.enc x79.2.Fans, 0 + 1⟩, ⟨99, 3, Zt T_Door.enc x79.2.Doors, 0 + 1⟩, ⟨3, 1, [], 0 + 1⟩, ⟨3, 1, [], 0 + 1⟩, ⟨62, 2, [.agg [.vs 1 (Zt (Zu .i64) x77.2.2.Fans), .vs 1 (Zt (Zu .i64) x77.2.2.Doors)]], 0⟩]) (loc2 := [⟨31, 4, [.agg [.nils, .nils, .nils, .nils]], 0⟩, ⟨62, 2, [.agg [.nils, .nils]], 0⟩, ⟨64, 2, [.agg [.nils, .nils]], 0⟩, ⟨31, 4, [.agg [.vs 2 (Zt T_Place.enc x79.2.Mine.Places), .sl (n + 6) 0 0 (o61.1.Mine.Roads).length, .sl (n + 9) (0 + 1) 0 (x77.2.1.Fans).length, .sl (n + 10) (0 + 1) 0 (x77.2.1.Doors).length]], 0⟩, ⟨64, 2, [.agg [.vs 1 (Zt (Zu .i64) o61.2.1.Pressures), .vs 1 (Zt (Zu .i64) o61.2.1.Flows)]], 0⟩, ⟨48, 2, [], 0 + 1⟩, ⟨46, 10, Zt T_Road.enc x79.2.Mine.Roads, 0⟩, ⟨3, 1, [], 0 + 1⟩, ⟨3, 1, [], 0 + 1⟩, ⟨72, 4, Zt T_Fan.enc x79.2.Fans, 0 + 1⟩, ⟨99, 3, Zt T_Door.enc x79.2.Doors, 0 + 1⟩, ⟨3, 1, [], 0 + 1⟩, ⟨3, 1, [], 0 + 1⟩, ⟨62, 2, [.agg [.vs 1 (Zt (Zu .i64) x77.2.2.Fans), .vs 1 (Zt (Zu .i64) x77.2.2.Doors)]], 0⟩]) rfl Try.call39 (F_draw_Codes_fit_ok h80 (nd1 (na1 (ne_low hq0) (na1 (ne_low hq0) (na1 (ne_low hq0) (na1 (ne_low hq0) na0)))) (nd1 (na1 (ne_own rfl) (na1 (ne_own rfl) (na1 (ne_own rfl) na0))) (nd1 (na1 (ne_own rfl) (na1 (ne_own rfl) na0)) (nd1 (na1 (ne_own rfl) na0) (nd1 na0 nd0))))) (F_draw_Codes_equipped_len h78 (rfl : (o61.1.Mine.Roads).length = _) (rfl : (([] : List T_Fan)).length = _) (rfl : (([] : List T_Door)).length = _)).1 (rfl : (x77.2.1.Fans).length = _) (rfl : (x77.2.1.Doors).length = _) (Zb hB rfl 0 rfl) (get_N (Vo hn) rfl) (get_N (Vo hn) rfl) (get_N (Vo hn) rfl) (get_N (Vo hn) rfl) (Xq (Vo hn) rfl)) (Yn (ps0' := [(q0, ⟨88, 2, [.agg [.vs 1 (Zt (Zu .u8) x79.1.l), .int .i64 x79.1.at_]], w0⟩)]) hB rfl 0 rfl (Yi hn ⟨Vn ⟨.vs _ _, .int _ _, trivial⟩, trivial⟩) rfl (sets_own (loc2 := [⟨31, 4, [.agg [.nils, .nils, .nils, .nils]], 0⟩, ⟨62, 2, [.agg [.nils, .nils]], 0⟩, ⟨64, 2, [.agg [.nils, .nils]], 0⟩, ⟨31, 4, [.agg [.vs 2 (Zt T_Place.enc x79.2.Mine.Places), .sl (n + 6) 0 0 (o61.1.Mine.Roads).length, .sl (n + 9) (0 + 1) 0 (x77.2.1.Fans).length, .sl (n + 10) (0 + 1) 0 (x77.2.1.Doors).length]], 0⟩, ⟨64, 2, [.agg [.vs 1 (Zt (Zu .i64) o61.2.1.Pressures), .vs 1 (Zt (Zu .i64) o61.2.1.Flows)]], 0⟩, ⟨48, 2, [], 0 + 1⟩, ⟨46, 10, Zt T_Road.enc x77.2.1.Mine.Roads, 0⟩, ⟨3, 1, [], 0 + 1⟩, ⟨3, 1, [], 0 + 1⟩, ⟨72, 4, Zt T_Fan.enc x77.2.1.Fans, 0 + 1⟩, ⟨99, 3, Zt T_Door.enc x77.2.1.Doors, 0 + 1⟩, ⟨3, 1, [], 0 + 1⟩, ⟨3, 1, [], 0 + 1⟩, ⟨62, 2, [.agg [.vs 1 (Zt (Zu .i64) x77.2.2.Fans), .vs 1 (Zt (Zu .i64) x77.2.2.Doors)]], 0⟩]) (Vo hn) 3 rfl (sets_own (loc2 := [⟨31, 4, [.agg [.nils, .nils, .nils, .nils]], 0⟩, ⟨62, 2, [.agg [.nils, .nils]], 0⟩, ⟨64, 2, [.agg [.nils, .nils]], 0⟩, ⟨31, 4, [.agg [.vs 2 (Zt T_Place.enc x79.2.Mine.Places), .sl (n + 6) 0 0 (o61.1.Mine.Roads).length, .sl (n + 9) (0 + 1) 0 (x77.2.1.Fans).length, .sl (n + 10) (0 + 1) 0 (x77.2.1.Doors).length]], 0⟩, ⟨64, 2, [.agg [.vs 1 (Zt (Zu .i64) o61.2.1.Pressures), .vs 1 (Zt (Zu .i64) o61.2.1.Flows)]], 0⟩, ⟨48, 2, [], 0 + 1⟩, ⟨46, 10, Zt T_Road.enc x79.2.Mine.Roads, 0⟩, ⟨3, 1, [], 0 + 1⟩, ⟨3, 1, [], 0 + 1⟩, ⟨72, 4, Zt T_Fan.enc x77.2.1.Fans, 0 + 1⟩, ⟨99, 3, Zt T_Door.enc x77.2.1.Doors, 0 + 1⟩, ⟨3, 1, [], 0 + 1⟩, ⟨3, 1, [], 0 + 1⟩, ⟨62, 2, [.agg [.vs 1 (Zt (Zu .i64) x77.2.2.Fans), .vs 1 (Zt (Zu .i64) x77.2.2.Doors)]], 0⟩]) (Vo hn) 6 rfl (sets_own (loc2 := [⟨31, 4, [.agg [.nils, .nils, .nils, .nils]], 0⟩, ⟨62, 2, [.agg [.nils, .nils]], 0⟩, ⟨64, 2, [.agg [.nils, .nils]], 0⟩, ⟨31, 4, [.agg [.vs 2 (Zt T_Place.enc x79.2.Mine.Places), .sl (n + 6) 0 0 (o61.1.Mine.Roads).length, .sl (n + 9) (0 + 1) 0 (x77.2.1.Fans).length, .sl (n + 10) (0 + 1) 0 (x77.2.1.Doors).length]], 0⟩, ⟨64, 2, [.agg [.vs 1 (Zt (Zu .i64) o61.2.1.Pressures), .vs 1 (Zt (Zu .i64) o61.2.1.Flows)]], 0⟩, ⟨48, 2, [], 0 + 1⟩, ⟨46, 10, Zt T_Road.enc x79.2.Mine.Roads, 0⟩, ⟨3, 1, [], 0 + 1⟩, ⟨3, 1, [], 0 + 1⟩, ⟨72, 4, Zt T_Fan.enc x79.2.Fans, 0 + 1⟩, ⟨99, 3, Zt T_Door.enc x77.2.1.Doors, 0 + 1⟩, ⟨3, 1, [], 0 + 1⟩, ⟨3, 1, [], 0 + 1⟩, ⟨62, 2, [.agg [.vs 1 (Zt (Zu .i64) x77.2.2.Fans), .vs 1 (Zt (Zu .i64) x77.2.2.Doors)]], 0⟩]) (Vo hn) 9 rfl (sets_own (loc2 := [⟨31, 4, [.agg [.nils, .nils, .nils, .nils]], 0⟩, ⟨62, 2, [.agg [.nils, .nils]], 0⟩, ⟨64, 2, [.agg [.nils, .nils]], 0⟩, ⟨31, 4, [.agg [.vs 2 (Zt T_Place.enc x79.2.Mine.Places), .sl (n + 6) 0 0 (o61.1.Mine.Roads).length, .sl (n + 9) (0 + 1) 0 (x77.2.1.Fans).length, .sl (n + 10) (0 + 1) 0 (x77.2.1.Doors).length]], 0⟩, ⟨64, 2, [.agg [.vs 1 (Zt (Zu .i64) o61.2.1.Pressures), .vs 1 (Zt (Zu .i64) o61.2.1.Flows)]], 0⟩, ⟨48, 2, [], 0 + 1⟩, ⟨46, 10, Zt T_Road.enc x79.2.Mine.Roads, 0⟩, ⟨3, 1, [], 0 + 1⟩, ⟨3, 1, [], 0 + 1⟩, ⟨72, 4, Zt T_Fan.enc x79.2.Fans, 0 + 1⟩, ⟨99, 3, Zt T_Door.enc x79.2.Doors, 0 + 1⟩, ⟨3, 1, [], 0 + 1⟩, ⟨3, 1, [], 0 + 1⟩, ⟨62, 2, [.agg [.vs 1 (Zt (Zu .i64) x77.2.2.Fans), .vs 1 (Zt (Zu .i64) x77.2.2.Doors)]], 0⟩]) (Vo hn) 10 rfl Xj))))) rfl) rfl ?_
       refine Ve ?_
       refine Vf ?_
       refine Yg (Yo (E' := [(0, .ptr q0 w0 0 0), (2, .ptr (n + 0) 0 0 0), (3, .ptr (n + 1) 0 0 0), (4, .ptr (n + 2) 0 0 0), (5, .ptr (n + 3) 0 0 0), (9, .ptr (n + 4) 0 0 0), (19, .ptr (n + 13) 0 0 0)]) (loc1 := [⟨31, 4, [.agg [.nils, .nils, .nils, .nils]], 0⟩, ⟨62, 2, [.agg [.nils, .nils]], 0⟩, ⟨64, 2, [.agg [.nils, .nils]], 0⟩, ⟨31, 4, [.agg [.vs 2 (Zt T_Place.enc x79.2.Mine.Places), .vs 10 (Zt T_Road.enc x79.2.Mine.Roads), .sl (n + 9) (0 + 1) 0 (x77.2.1.Fans).length, .sl (n + 10) (0 + 1) 0 (x77.2.1.Doors).length]], 0⟩, ⟨64, 2, [.agg [.vs 1 (Zt (Zu .i64) o61.2.1.Pressures), .vs 1 (Zt (Zu .i64) o61.2.1.Flows)]], 0⟩, ⟨48, 2, [], 0 + 1⟩, ⟨46, 10, [], 0 + 1⟩, ⟨3, 1, [], 0 + 1⟩, ⟨3, 1, [], 0 + 1⟩, ⟨72, 4, Zt T_Fan.enc x79.2.Fans, 0 + 1⟩, ⟨99, 3, Zt T_Door.enc x79.2.Doors, 0 + 1⟩, ⟨3, 1, [], 0 + 1⟩, ⟨3, 1, [], 0 + 1⟩, ⟨62, 2, [.agg [.vs 1 (Zt (Zu .i64) x77.2.2.Fans), .vs 1 (Zt (Zu .i64) x77.2.2.Doors)]], 0⟩]) (Vo hn) 6 rfl (Yh T_Road.enc_lt) ⟨Vt rfl, Vt rfl, Vt rfl, Vt rfl, Vt rfl, Vt rfl, Vt rfl, trivial⟩ ⟨.refl _, .refl _, .refl _, cvo_agg ⟨Vt rfl, cv_sl rfl rfl rfl (Zd (F_draw_Codes_fit_len h80 (F_draw_Codes_equipped_len h78 (rfl : (o61.1.Mine.Roads).length = _) (rfl : (([] : List T_Fan)).length = _) (rfl : (([] : List T_Door)).length = _)).1 (rfl : (x77.2.1.Fans).length = _) (rfl : (x77.2.1.Doors).length = _)).1), Vt rfl, Vt rfl, trivial⟩, .refl _, .refl _, .refl _, .refl _, .refl _, .refl _, .refl _, .refl _, .refl _, .refl _, trivial⟩) ?_
       refine Yg (Yo (E' := [(0, .ptr q0 w0 0 0), (2, .ptr (n + 0) 0 0 0), (3, .ptr (n + 1) 0 0 0), (4, .ptr (n + 2) 0 0 0), (5, .ptr (n + 3) 0 0 0), (9, .ptr (n + 4) 0 0 0), (19, .ptr (n + 13) 0 0 0)]) (loc1 := [⟨31, 4, [.agg [.nils, .nils, .nils, .nils]], 0⟩, ⟨62, 2, [.agg [.nils, .nils]], 0⟩, ⟨64, 2, [.agg [.nils, .nils]], 0⟩, ⟨31, 4, [.agg [.vs 2 (Zt T_Place.enc x79.2.Mine.Places), .vs 10 (Zt T_Road.enc x79.2.Mine.Roads), .vs 4 (Zt T_Fan.enc x79.2.Fans), .sl (n + 10) (0 + 1) 0 (x77.2.1.Doors).length]], 0⟩, ⟨64, 2, [.agg [.vs 1 (Zt (Zu .i64) o61.2.1.Pressures), .vs 1 (Zt (Zu .i64) o61.2.1.Flows)]], 0⟩, ⟨48, 2, [], 0 + 1⟩, ⟨46, 10, [], 0 + 1⟩, ⟨3, 1, [], 0 + 1⟩, ⟨3, 1, [], 0 + 1⟩, ⟨72, 4, [], (0 + 1) + 1⟩, ⟨99, 3, Zt T_Door.enc x79.2.Doors, 0 + 1⟩, ⟨3, 1, [], 0 + 1⟩, ⟨3, 1, [], 0 + 1⟩, ⟨62, 2, [.agg [.vs 1 (Zt (Zu .i64) x77.2.2.Fans), .vs 1 (Zt (Zu .i64) x77.2.2.Doors)]], 0⟩]) (Vo hn) 9 rfl (Yh T_Fan.enc_lt) ⟨Vt rfl, Vt rfl, Vt rfl, Vt rfl, Vt rfl, Vt rfl, Vt rfl, trivial⟩ ⟨.refl _, .refl _, .refl _, cvo_agg ⟨Vt rfl, Vt rfl, cv_sl rfl rfl rfl (Zd (F_draw_Codes_fit_len h80 (F_draw_Codes_equipped_len h78 (rfl : (o61.1.Mine.Roads).length = _) (rfl : (([] : List T_Fan)).length = _) (rfl : (([] : List T_Door)).length = _)).1 (rfl : (x77.2.1.Fans).length = _) (rfl : (x77.2.1.Doors).length = _)).2.1), Vt rfl, trivial⟩, .refl _, .refl _, .refl _, .refl _, .refl _, .refl _, .refl _, .refl _, .refl _, .refl _, trivial⟩) ?_
       refine Yg (Yo (E' := [(0, .ptr q0 w0 0 0), (2, .ptr (n + 0) 0 0 0), (3, .ptr (n + 1) 0 0 0), (4, .ptr (n + 2) 0 0 0), (5, .ptr (n + 3) 0 0 0), (9, .ptr (n + 4) 0 0 0), (19, .ptr (n + 13) 0 0 0)]) (loc1 := [⟨31, 4, [.agg [.nils, .nils, .nils, .nils]], 0⟩, ⟨62, 2, [.agg [.nils, .nils]], 0⟩, ⟨64, 2, [.agg [.nils, .nils]], 0⟩, ⟨31, 4, [.agg [.vs 2 (Zt T_Place.enc x79.2.Mine.Places), .vs 10 (Zt T_Road.enc x79.2.Mine.Roads), .vs 4 (Zt T_Fan.enc x79.2.Fans), .vs 3 (Zt T_Door.enc x79.2.Doors)]], 0⟩, ⟨64, 2, [.agg [.vs 1 (Zt (Zu .i64) o61.2.1.Pressures), .vs 1 (Zt (Zu .i64) o61.2.1.Flows)]], 0⟩, ⟨48, 2, [], 0 + 1⟩, ⟨46, 10, [], 0 + 1⟩, ⟨3, 1, [], 0 + 1⟩, ⟨3, 1, [], 0 + 1⟩, ⟨72, 4, [], (0 + 1) + 1⟩, ⟨99, 3, [], (0 + 1) + 1⟩, ⟨3, 1, [], 0 + 1⟩, ⟨3, 1, [], 0 + 1⟩, ⟨62, 2, [.agg [.vs 1 (Zt (Zu .i64) x77.2.2.Fans), .vs 1 (Zt (Zu .i64) x77.2.2.Doors)]], 0⟩]) (Vo hn) 10 rfl (Yh T_Door.enc_lt) ⟨Vt rfl, Vt rfl, Vt rfl, Vt rfl, Vt rfl, Vt rfl, Vt rfl, trivial⟩ ⟨.refl _, .refl _, .refl _, cvo_agg ⟨Vt rfl, Vt rfl, Vt rfl, cv_sl rfl rfl rfl (Zd (F_draw_Codes_fit_len h80 (F_draw_Codes_equipped_len h78 (rfl : (o61.1.Mine.Roads).length = _) (rfl : (([] : List T_Fan)).length = _) (rfl : (([] : List T_Door)).length = _)).1 (rfl : (x77.2.1.Fans).length = _) (rfl : (x77.2.1.Doors).length = _)).2.2.1), trivial⟩, .refl _, .refl _, .refl _, .refl _, .refl _, .refl _, .refl _, .refl _, .refl _, .refl _, trivial⟩) ?_
       obtain ⟨x81, h82, hF⟩ := Yb hF
       refine Zh [[], [], [], [], [1, 2, 3], [], [0, 1, 2, 3, 4], [0, 1, 2, 3, 4, 6], [0, 1, 2, 3, 4, 5, 6, 7]] [false, false, false, false, true, false, true, true, true] [((setL low0 [(q0, ⟨88, 2, [.agg [.vs 1 (Zt (Zu .u8) x79.1.l), .int .i64 x79.1.at_]], w0⟩)]), [⟨31, 4, [.agg [.nils, .nils, .nils, .nils]], 0⟩, ⟨62, 2, [.agg [.nils, .nils]], 0⟩, ⟨64, 2, [.agg [.nils, .nils]], 0⟩, ⟨31, 4, [.agg [.vs 2 (Zt T_Place.enc x79.2.Mine.Places), .vs 10 (Zt T_Road.enc x79.2.Mine.Roads), .vs 4 (Zt T_Fan.enc x79.2.Fans), .vs 3 (Zt T_Door.enc x79.2.Doors)]], 0⟩, ⟨64, 2, [.agg [.vs 1 (Zt (Zu .i64) o61.2.1.Pressures), .vs 1 (Zt (Zu .i64) o61.2.1.Flows)]], 0⟩, ⟨48, 2, [], 0 + 1⟩, ⟨46, 10, [], 0 + 1⟩, ⟨3, 1, [], 0 + 1⟩, ⟨3, 1, [], 0 + 1⟩, ⟨72, 4, [], (0 + 1) + 1⟩, ⟨99, 3, [], (0 + 1) + 1⟩, ⟨3, 1, [], 0 + 1⟩, ⟨3, 1, [], 0 + 1⟩, ⟨62, 2, [.agg [.vs 1 (Zt (Zu .i64) x77.2.2.Fans), .vs 1 (Zt (Zu .i64) x77.2.2.Doors)]], 0⟩]), ((setL low0 [(q0, ⟨88, 2, [.agg [.vs 1 (Zt (Zu .u8) x81.1.l), .int .i64 x81.1.at_]], w0⟩)]), [⟨31, 4, [.agg [.nils, .nils, .nils, .nils]], 0⟩, ⟨62, 2, [.agg [.nils, .nils]], 0⟩, ⟨64, 2, [.agg [.nils, .nils]], 0⟩, ⟨31, 4, [.agg [.vs 2 (Zt T_Place.enc x79.2.Mine.Places), .vs 10 (Zt T_Road.enc x79.2.Mine.Roads), .vs 4 (Zt T_Fan.enc x79.2.Fans), .vs 3 (Zt T_Door.enc x79.2.Doors)]], 0⟩, ⟨64, 2, [.agg [.vs 1 (Zt (Zu .i64) o61.2.1.Pressures), .vs 1 (Zt (Zu .i64) o61.2.1.Flows)]], 0⟩, ⟨48, 2, [], 0 + 1⟩, ⟨46, 10, [], 0 + 1⟩, ⟨3, 1, [], 0 + 1⟩, ⟨3, 1, [], 0 + 1⟩, ⟨72, 4, [], (0 + 1) + 1⟩, ⟨99, 3, [], (0 + 1) + 1⟩, ⟨3, 1, [], 0 + 1⟩, ⟨3, 1, [], 0 + 1⟩, ⟨62, 2, [.agg [.vs 1 (Zt (Zu .i64) x77.2.2.Fans), .vs 1 (Zt (Zu .i64) x77.2.2.Doors)]], 0⟩, ⟨3, 1, Zt (Zu .i64) x81.2.Fans, 0⟩, ⟨3, 1, Zt (Zu .i64) x81.2.Doors, 0⟩]), ((setL low0 [(q0, ⟨88, 2, [.agg [.vs 1 (Zt (Zu .u8) x81.1.l), .int .i64 x81.1.at_]], w0⟩)]), [⟨31, 4, [.agg [.vs 2 (Zt T_Place.enc x79.2.Mine.Places), .vs 10 (Zt T_Road.enc x79.2.Mine.Roads), .vs 4 (Zt T_Fan.enc x79.2.Fans), .vs 3 (Zt T_Door.enc x79.2.Doors)]], 0⟩, ⟨62, 2, [.agg [.nils, .nils]], 0⟩, ⟨64, 2, [.agg [.nils, .nils]], 0⟩, ⟨31, 4, [.agg [.vs 2 (Zt T_Place.enc x79.2.Mine.Places), .vs 10 (Zt T_Road.enc x79.2.Mine.Roads), .vs 4 (Zt T_Fan.enc x79.2.Fans), .vs 3 (Zt T_Door.enc x79.2.Doors)]], 0⟩, ⟨64, 2, [.agg [.vs 1 (Zt (Zu .i64) o61.2.1.Pressures), .vs 1 (Zt (Zu .i64) o61.2.1.Flows)]], 0⟩, ⟨48, 2, [], 0 + 1⟩, ⟨46, 10, [], 0 + 1⟩, ⟨3, 1, [], 0 + 1⟩, ⟨3, 1, [], 0 + 1⟩, ⟨72, 4, [], (0 + 1) + 1⟩, ⟨99, 3, [], (0 + 1) + 1⟩, ⟨3, 1, [], 0 + 1⟩, ⟨3, 1, [], 0 + 1⟩, ⟨62, 2, [.agg [.vs 1 (Zt (Zu .i64) x77.2.2.Fans), .vs 1 (Zt (Zu .i64) x77.2.2.Doors)]], 0⟩, ⟨3, 1, Zt (Zu .i64) x81.2.Fans, 0⟩, ⟨3, 1, Zt (Zu .i64) x81.2.Doors, 0⟩]), ((setL low0 [(q0, ⟨88, 2, [.agg [.vs 1 (Zt (Zu .u8) x81.1.l), .int .i64 x81.1.at_]], w0⟩)]), [⟨31, 4, [.agg [.vs 2 (Zt T_Place.enc x79.2.Mine.Places), .vs 10 (Zt T_Road.enc x79.2.Mine.Roads), .vs 4 (Zt T_Fan.enc x79.2.Fans), .vs 3 (Zt T_Door.enc x79.2.Doors)]], 0⟩, ⟨62, 2, [.agg [.sl (n + 14) 0 0 (x81.2.Fans).length, .sl (n + 15) 0 0 (x81.2.Doors).length]], 0⟩, ⟨64, 2, [.agg [.nils, .nils]], 0⟩, ⟨31, 4, [.agg [.vs 2 (Zt T_Place.enc x79.2.Mine.Places), .vs 10 (Zt T_Road.enc x79.2.Mine.Roads), .vs 4 (Zt T_Fan.enc x79.2.Fans), .vs 3 (Zt T_Door.enc x79.2.Doors)]], 0⟩, ⟨64, 2, [.agg [.vs 1 (Zt (Zu .i64) o61.2.1.Pressures), .vs 1 (Zt (Zu .i64) o61.2.1.Flows)]], 0⟩, ⟨48, 2, [], 0 + 1⟩, ⟨46, 10, [], 0 + 1⟩, ⟨3, 1, [], 0 + 1⟩, ⟨3, 1, [], 0 + 1⟩, ⟨72, 4, [], (0 + 1) + 1⟩, ⟨99, 3, [], (0 + 1) + 1⟩, ⟨3, 1, [], 0 + 1⟩, ⟨3, 1, [], 0 + 1⟩, ⟨62, 2, [.agg [.vs 1 (Zt (Zu .i64) x77.2.2.Fans), .vs 1 (Zt (Zu .i64) x77.2.2.Doors)]], 0⟩, ⟨3, 1, Zt (Zu .i64) x81.2.Fans, 0⟩, ⟨3, 1, Zt (Zu .i64) x81.2.Doors, 0⟩]), ((setL low0 [(q0, ⟨88, 2, [.agg [.vs 1 (Zt (Zu .u8) x81.1.l), .int .i64 x81.1.at_]], w0⟩)]), [⟨31, 4, [.agg [.vs 2 (Zt T_Place.enc x79.2.Mine.Places), .vs 10 (Zt T_Road.enc x79.2.Mine.Roads), .vs 4 (Zt T_Fan.enc x79.2.Fans), .vs 3 (Zt T_Door.enc x79.2.Doors)]], 0⟩, ⟨62, 2, [.agg [.sl (n + 14) 0 0 (x81.2.Fans).length, .sl (n + 15) 0 0 (x81.2.Doors).length]], 0⟩, ⟨64, 2, [.agg [.vs 1 (Zt (Zu .i64) o61.2.1.Pressures), .vs 1 (Zt (Zu .i64) o61.2.1.Flows)]], 0⟩, ⟨31, 4, [.agg [.vs 2 (Zt T_Place.enc x79.2.Mine.Places), .vs 10 (Zt T_Road.enc x79.2.Mine.Roads), .vs 4 (Zt T_Fan.enc x79.2.Fans), .vs 3 (Zt T_Door.enc x79.2.Doors)]], 0⟩, ⟨64, 2, [.agg [.vs 1 (Zt (Zu .i64) o61.2.1.Pressures), .vs 1 (Zt (Zu .i64) o61.2.1.Flows)]], 0⟩, ⟨48, 2, [], 0 + 1⟩, ⟨46, 10, [], 0 + 1⟩, ⟨3, 1, [], 0 + 1⟩, ⟨3, 1, [], 0 + 1⟩, ⟨72, 4, [], (0 + 1) + 1⟩, ⟨99, 3, [], (0 + 1) + 1⟩, ⟨3, 1, [], 0 + 1⟩, ⟨3, 1, [], 0 + 1⟩, ⟨62, 2, [.agg [.vs 1 (Zt (Zu .i64) x77.2.2.Fans), .vs 1 (Zt (Zu .i64) x77.2.2.Doors)]], 0⟩, ⟨3, 1, Zt (Zu .i64) x81.2.Fans, 0⟩, ⟨3, 1, Zt (Zu .i64) x81.2.Doors, 0⟩])] mixed (by kernel_rfl) rfl (lenAll (Vu Xi (Vu Xi (Vu Xi (Vu Xi (Vu Xi Yq)))))) rfl _ rfl rfl ?_
       refine Vw _ rfl rfl (Vu (VRd.ntl (Xe (ds := [.vs 2 (Zt T_Place.enc x79.2.Mine.Places), .vs 10 (Zt T_Road.enc x79.2.Mine.Roads), .vs 4 (Zt T_Fan.enc x79.2.Fans), .vs 3 (Zt T_Door.enc x79.2.Doors)]) rfl (Vg (Vo hn) rfl) rfl ta_31 ts_31 rfl rfl rfl)) (Vu (VRd.ntl (Xe (ds := [.vs 2 (Zt T_Place.enc x79.2.Mine.Places), .vs 10 (Zt T_Road.enc x79.2.Mine.Roads), .vs 4 (Zt T_Fan.enc x79.2.Fans), .vs 3 (Zt T_Door.enc x79.2.Doors)]) rfl (Vg (Vo hn) rfl) rfl ta_31 ts_31 rfl rfl rfl)) Yq)) ?_
       refine Xx rfl rfl (Xb rfl) ?_
       refine Xx rfl rfl (Xe (ds := [.vs 2 (Zt T_Place.enc x79.2.Mine.Places), .vs 10 (Zt T_Road.enc x79.2.Mine.Roads), .vs 4 (Zt T_Fan.enc x79.2.Fans), .vs 3 (Zt T_Door.enc x79.2.Doors)]) rfl (Vg (Vo hn) rfl) rfl ta_31 ts_31 rfl rfl rfl) ?_
       refine Xx rfl rfl (Xe (ds := [.vs 1 (Zt (Zu .i64) x77.2.2.Fans), .vs 1 (Zt (Zu .i64) x77.2.2.Doors)]) rfl (Vg (Vo hn) rfl) rfl ta_62 ts_62 rfl rfl rfl) ?_
       refine Xv rfl rfl rfl (Xc (ps := [(q0, ⟨88, 2, [.agg [.vs 1 (Zt (Zu .u8) x81.1.l), .int .i64 x81.1.at_]], w0⟩)]) (r := .agg [.sl (n + 14) 0 0 (x81.2.Fans).length, .sl (n + 15) 0 0 (x81.2.Doors).length]) (os := [⟨3, 1, Zt (Zu .i64) x81.2.Fans, 0⟩, ⟨3, 1, Zt (Zu .i64) x81.2.Doors, 0⟩]) (low1 := (setL low0 [(q0, ⟨88, 2, [.agg [.vs 1 (Zt (Zu .u8) x81.1.l), .int .i64 x81.1.at_]], w0⟩)])) (loc1 := [⟨31, 4, [.agg [.nils, .nils, .nils, .nils]], 0⟩, ⟨62, 2, [.agg [.nils, .nils]], 0⟩, ⟨64, 2, [.agg [.nils, .nils]], 0⟩, ⟨31, 4, [.agg [.vs 2 (Zt T_Place.enc x79.2.Mine.Places), .vs 10 (Zt T_Road.enc x79.2.Mine.Roads), .vs 4 (Zt T_Fan.enc x79.2.Fans), .vs 3 (Zt T_Door.enc x79.2.Doors)]], 0⟩, ⟨64, 2, [.agg [.vs 1 (Zt (Zu .i64) o61.2.1.Pressures), .vs 1 (Zt (Zu .i64) o61.2.1.Flows)]], 0⟩, ⟨48, 2, [], 0 + 1⟩, ⟨46, 10, [], 0 + 1⟩, ⟨3, 1, [], 0 + 1⟩, ⟨3, 1, [], 0 + 1⟩, ⟨72, 4, [], (0 + 1) + 1⟩, ⟨99, 3, [], (0 + 1) + 1⟩, ⟨3, 1, [], 0 + 1⟩, ⟨3, 1, [], 0 + 1⟩, ⟨62, 2, [.agg [.vs 1 (Zt (Zu .i64) x77.2.2.Fans), .vs 1 (Zt (Zu .i64) x77.2.2.Doors)]], 0⟩]) (loc2 := [⟨31, 4, [.agg [.nils, .nils, .nils, .nils]], 0⟩, ⟨62, 2, [.agg [.nils, .nils]], 0⟩, ⟨64, 2, [.agg [.nils, .nils]], 0⟩, ⟨31, 4, [.agg [.vs 2 (Zt T_Place.enc x79.2.Mine.Places), .vs 10 (Zt T_Road.enc x79.2.Mine.Roads), .vs 4 (Zt T_Fan.enc x79.2.Fans), .vs 3 (Zt T_Door.enc x79.2.Doors)]], 0⟩, ⟨64, 2, [.agg [.vs 1 (Zt (Zu .i64) o61.2.1.Pressures), .vs 1 (Zt (Zu .i64) o61.2.1.Flows)]], 0⟩, ⟨48, 2, [], 0 + 1⟩, ⟨46, 10, [], 0 + 1⟩, ⟨3, 1, [], 0 + 1⟩, ⟨3, 1, [], 0 + 1⟩, ⟨72, 4, [], (0 + 1) + 1⟩, ⟨99, 3, [], (0 + 1) + 1⟩, ⟨3, 1, [], 0 + 1⟩, ⟨3, 1, [], 0 + 1⟩, ⟨62, 2, [.agg [.vs 1 (Zt (Zu .i64) x77.2.2.Fans), .vs 1 (Zt (Zu .i64) x77.2.2.Doors)]], 0⟩, ⟨3, 1, Zt (Zu .i64) x81.2.Fans, 0⟩, ⟨3, 1, Zt (Zu .i64) x81.2.Doors, 0⟩]) rfl Try.call40 (F_draw_Codes_doubts_ok h82 (nd1 na0 nd0) (Zb hB rfl 0 rfl) (Xq (Vo hn) rfl)) (Yn (ps0' := [(q0, ⟨88, 2, [.agg [.vs 1 (Zt (Zu .u8) x81.1.l), .int .i64 x81.1.at_]], w0⟩)]) hB rfl 0 rfl (Yi hn ⟨Vn ⟨.vs _ _, .int _ _, trivial⟩, trivial⟩) rfl Xj) rfl) ?_
       refine Vw _ rfl rfl (Vu (VRd.ntl (Xe (ds := [.vs 1 (Zt (Zu .i64) o61.2.1.Pressures), .vs 1 (Zt (Zu .i64) o61.2.1.Flows)]) rfl (Vg (Vo hn) rfl) rfl ta_64 ts_64 rfl rfl rfl)) (Vu (VRd.ntl (Xe (ds := [.vs 1 (Zt (Zu .i64) o61.2.1.Pressures), .vs 1 (Zt (Zu .i64) o61.2.1.Flows)]) rfl (Vg (Vo hn) rfl) rfl ta_64 ts_64 rfl rfl rfl)) (Vu (VRd.ntl (Xe (ds := [.vs 1 (Zt (Zu .i64) o61.2.1.Pressures), .vs 1 (Zt (Zu .i64) o61.2.1.Flows)]) rfl (Vg (Vo hn) rfl) rfl ta_64 ts_64 rfl rfl rfl)) (Vu (VRd.ntl (Xe (ds := [.vs 1 (Zt (Zu .i64) o61.2.1.Pressures), .vs 1 (Zt (Zu .i64) o61.2.1.Flows)]) rfl (Vg (Vo hn) rfl) rfl ta_64 ts_64 rfl rfl rfl)) Yq)))) ?_
       refine Xv rfl rfl rfl (Vv (p := .agg [.vs 2 (Zt T_Place.enc x79.2.Mine.Places), .vs 10 (Zt T_Road.enc x79.2.Mine.Roads), .vs 4 (Zt T_Fan.enc x79.2.Fans), .vs 3 (Zt T_Door.enc x79.2.Doors)]) (e' := .agg [.vs 2 (Zt T_Place.enc x79.2.Mine.Places), .vs 10 (Zt T_Road.enc x79.2.Mine.Roads), .vs 4 (Zt T_Fan.enc x79.2.Fans), .vs 3 (Zt T_Door.enc x79.2.Doors)]) rfl (Vg (Vo hn) rfl) rfl rfl ts_31 rfl (Yc rfl) rfl (Zx rfl) rfl (Xg (Vo hn) rfl)) ?_
       refine Xv rfl rfl rfl (Vv (p := .agg [.sl (n + 14) 0 0 (x81.2.Fans).length, .sl (n + 15) 0 0 (x81.2.Doors).length]) (e' := .agg [.sl (n + 14) 0 0 (x81.2.Fans).length, .sl (n + 15) 0 0 (x81.2.Doors).length]) rfl (Vg (Vo hn) rfl) rfl rfl ts_62 rfl (Yc rfl) rfl (Zx rfl) rfl (Xg (Vo hn) rfl)) ?_
       refine Xv rfl rfl rfl (Vv (p := .agg [.vs 1 (Zt (Zu .i64) o61.2.1.Pressures), .vs 1 (Zt (Zu .i64) o61.2.1.Flows)]) (e' := .agg [.vs 1 (Zt (Zu .i64) o61.2.1.Pressures), .vs 1 (Zt (Zu .i64) o61.2.1.Flows)]) rfl (Vg (Vo hn) rfl) rfl rfl ts_64 rfl (Yc rfl) rfl (Zx rfl) rfl (Xg (Vo hn) rfl)) ?_
       refine Yk ?_
       refine Ya ?_
       obtain rfl := Zw hF
       refine fnR ?_
       refine Weak.trans (Yo (E' := [(2, .ptr (n + 0) 0 0 0), (3, .ptr (n + 1) 0 0 0), (4, .ptr (n + 2) 0 0 0)]) (loc1 := [⟨31, 4, [.agg [.vs 2 (Zt T_Place.enc x79.2.Mine.Places), .vs 10 (Zt T_Road.enc x79.2.Mine.Roads), .vs 4 (Zt T_Fan.enc x79.2.Fans), .vs 3 (Zt T_Door.enc x79.2.Doors)]], 0⟩, ⟨62, 2, [.agg [.vs 1 (Zt (Zu .i64) x81.2.Fans), .sl (n + 15) 0 0 (x81.2.Doors).length]], 0⟩, ⟨64, 2, [.agg [.vs 1 (Zt (Zu .i64) o61.2.1.Pressures), .vs 1 (Zt (Zu .i64) o61.2.1.Flows)]], 0⟩, ⟨31, 4, [.agg [.vs 2 (Zt T_Place.enc x79.2.Mine.Places), .vs 10 (Zt T_Road.enc x79.2.Mine.Roads), .vs 4 (Zt T_Fan.enc x79.2.Fans), .vs 3 (Zt T_Door.enc x79.2.Doors)]], 0⟩, ⟨64, 2, [.agg [.vs 1 (Zt (Zu .i64) o61.2.1.Pressures), .vs 1 (Zt (Zu .i64) o61.2.1.Flows)]], 0⟩, ⟨48, 2, [], 0 + 1⟩, ⟨46, 10, [], 0 + 1⟩, ⟨3, 1, [], 0 + 1⟩, ⟨3, 1, [], 0 + 1⟩, ⟨72, 4, [], (0 + 1) + 1⟩, ⟨99, 3, [], (0 + 1) + 1⟩, ⟨3, 1, [], 0 + 1⟩, ⟨3, 1, [], 0 + 1⟩, ⟨62, 2, [.agg [.vs 1 (Zt (Zu .i64) x77.2.2.Fans), .vs 1 (Zt (Zu .i64) x77.2.2.Doors)]], 0⟩, ⟨3, 1, [], 0 + 1⟩, ⟨3, 1, Zt (Zu .i64) x81.2.Doors, 0⟩]) (Vo hn) 14 rfl (Yh (fun _ => .int _ _)) ⟨Vt rfl, Vt rfl, Vt rfl, trivial⟩ ⟨.refl _, cvo_agg ⟨cv_sl rfl rfl rfl (Zd rfl), Vt rfl, trivial⟩, .refl _, .refl _, .refl _, .refl _, .refl _, .refl _, .refl _, .refl _, .refl _, .refl _, .refl _, .refl _, .refl _, .refl _, trivial⟩) ?_
       refine Weak.trans (Yo (E' := [(2, .ptr (n + 0) 0 0 0), (3, .ptr (n + 1) 0 0 0), (4, .ptr (n + 2) 0 0 0)]) (loc1 := [⟨31, 4, [.agg [.vs 2 (Zt T_Place.enc x79.2.Mine.Places), .vs 10 (Zt T_Road.enc x79.2.Mine.Roads), .vs 4 (Zt T_Fan.enc x79.2.Fans), .vs 3 (Zt T_Door.enc x79.2.Doors)]], 0⟩, ⟨62, 2, [.agg [.vs 1 (Zt (Zu .i64) x81.2.Fans), .vs 1 (Zt (Zu .i64) x81.2.Doors)]], 0⟩, ⟨64, 2, [.agg [.vs 1 (Zt (Zu .i64) o61.2.1.Pressures), .vs 1 (Zt (Zu .i64) o61.2.1.Flows)]], 0⟩, ⟨31, 4, [.agg [.vs 2 (Zt T_Place.enc x79.2.Mine.Places), .vs 10 (Zt T_Road.enc x79.2.Mine.Roads), .vs 4 (Zt T_Fan.enc x79.2.Fans), .vs 3 (Zt T_Door.enc x79.2.Doors)]], 0⟩, ⟨64, 2, [.agg [.vs 1 (Zt (Zu .i64) o61.2.1.Pressures), .vs 1 (Zt (Zu .i64) o61.2.1.Flows)]], 0⟩, ⟨48, 2, [], 0 + 1⟩, ⟨46, 10, [], 0 + 1⟩, ⟨3, 1, [], 0 + 1⟩, ⟨3, 1, [], 0 + 1⟩, ⟨72, 4, [], (0 + 1) + 1⟩, ⟨99, 3, [], (0 + 1) + 1⟩, ⟨3, 1, [], 0 + 1⟩, ⟨3, 1, [], 0 + 1⟩, ⟨62, 2, [.agg [.vs 1 (Zt (Zu .i64) x77.2.2.Fans), .vs 1 (Zt (Zu .i64) x77.2.2.Doors)]], 0⟩, ⟨3, 1, [], 0 + 1⟩, ⟨3, 1, [], 0 + 1⟩]) (Vo hn) 15 rfl (Yh (fun _ => .int _ _)) ⟨Vt rfl, Vt rfl, Vt rfl, trivial⟩ ⟨.refl _, cvo_agg ⟨Vt rfl, cv_sl rfl rfl rfl (Zd rfl), trivial⟩, .refl _, .refl _, .refl _, .refl _, .refl _, .refl _, .refl _, .refl _, .refl _, .refl _, .refl _, .refl _, .refl _, .refl _, trivial⟩) ?_
       exact Vm (Vo hn) [(0, 0), (1, 0), (2, 0)] (by decide) ⟨Vs 0 0 rfl rfl, Vs 1 1 rfl rfl, Vs 2 2 rfl rfl, trivial⟩ ⟨⟨_, rfl, rfl, .same _ _ _ _ (Vl ⟨Vn ⟨.vs _ _, .vs _ _, .vs _ _, .vs _ _, trivial⟩, trivial⟩)⟩, ⟨_, rfl, rfl, .same _ _ _ _ (Vl ⟨Vn ⟨.vs _ _, .vs _ _, trivial⟩, trivial⟩)⟩, ⟨_, rfl, rfl, .same _ _ _ _ (Vl ⟨Vn ⟨.vs _ _, .vs _ _, trivial⟩, trivial⟩)⟩, trivial⟩
 ·rintro _ _ _ _ ⟨he, hw⟩
  refine ⟨_, _, _, hw, ?_⟩
  exact bodyQ_some (Vo hn) 0 rfl (Zx rfl) he [.agg [.vs 2 (Zt T_Place.enc r.2.1.Mine.Places), .vs 10 (Zt T_Road.enc r.2.1.Mine.Roads), .vs 4 (Zt T_Fan.enc r.2.1.Fans), .vs 3 (Zt T_Door.enc r.2.1.Doors)], .agg [.vs 1 (Zt (Zu .i64) r.2.2.1.Fans), .vs 1 (Zt (Zu .i64) r.2.2.1.Doors)], .agg [.vs 1 (Zt (Zu .i64) r.2.2.2.Pressures), .vs 1 (Zt (Zu .i64) r.2.2.2.Flows)]] ⟨Xe rfl (Vg (Vo hn) rfl) rfl ta_31 ts_31 rfl rfl rfl, Xe rfl (Vg (Vo hn) rfl) rfl ta_62 ts_62 rfl rfl rfl, Xe rfl (Vg (Vo hn) rfl) rfl ta_64 ts_64 rfl rfl rfl, trivial⟩ ((lt_tup ⟨(Vn ⟨.vs _ _, .vs _ _, .vs _ _, .vs _ _, trivial⟩), (Vn ⟨.vs _ _, .vs _ _, trivial⟩), (Vn ⟨.vs _ _, .vs _ _, trivial⟩), trivial⟩)) trivial ⟨rfl, rfl⟩

theorem F_draw_Codes_Made_ok {p0 : T_draw_Codes} {r : T_draw_Codes × T_Air × T_Setting × T_State} (hF : F_draw_Codes_Made p0 = some r) {low : List AObj} {q0 w0 : Nat} (hnd : [q0].Nodup) (hq0 : low[q0]? = some ⟨88, 2, [.agg [.vs 1 (Zt (Zu .u8) p0.l), .int .i64 p0.at_]], w0⟩) {n : Nat} (hn : low.length = n) :
    Zf Try.prog 24 [.ptr q0 w0 0 0] low fun x low' => x = .tup [.agg [.vs 2 (Zt T_Place.enc r.2.1.Mine.Places), .vs 10 (Zt T_Road.enc r.2.1.Mine.Roads), .vs 4 (Zt T_Fan.enc r.2.1.Fans), .vs 3 (Zt T_Door.enc r.2.1.Doors)], .agg [.vs 1 (Zt (Zu .i64) r.2.2.1.Fans), .vs 1 (Zt (Zu .i64) r.2.2.1.Doors)], .agg [.vs 1 (Zt (Zu .i64) r.2.2.2.Pressures), .vs 1 (Zt (Zu .i64) r.2.2.2.Flows)]] ∧ low' = setL low [(q0, ⟨88, 2, [.agg [.vs 1 (Zt (Zu .u8) r.1.l), .int .i64 r.1.at_]], w0⟩)] ++ [] := by
  obtain ⟨h1, h2⟩ := bor_start (ps := [(q0, ⟨88, 2, [.agg [.vs 1 (Zt (Zu .u8) p0.l), .int .i64 p0.at_]], w0⟩)]) hnd (borC hq0 bor0)
  exact vcalls_low h1 (F_draw_Codes_Made_ok0 hF h2 hn)

end Go.Proofs.Ytaedmgkcmbhicaa
