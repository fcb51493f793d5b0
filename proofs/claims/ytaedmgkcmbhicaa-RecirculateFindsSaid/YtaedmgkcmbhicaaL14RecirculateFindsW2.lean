/- Printed by wip/lift/lift.py: the walks that show that the program computes them. -/
import Derived.Test.YtaedmgkcmbhicaaL14RecirculateFindsW1
namespace Go.Proofs.Ytaedmgkcmbhicaa
open Go Go.Aml Go.L
attribute [local irreducible] VRd VEf VOp VOps VWp DOps
set_option linter.unusedVariables false
open Go.Aml renaming vops_rd → Va, rd_fieldAddr → Vb, vops_skip → Vc, vwp_region → Vd, vops_nil → Ve, vwp_seq → Vf, getO_N → Vg, rn_low → Vh, vops_efE → Vi, rd_load1 → Vj, rd_mvI → Vk, lenS → Vl, weak_pick → Vm, ltObj_es → Vn, lt_agg → Vo, weak_sub → Vp, ltObj_map → Vq, rd_mvB → Vr, vwp_monoW → Vs, rn_ptr → Vt, cv_same → Vu, all1 → Vv, vef_store → Vw, dops_rdW → Vx, rd_pickF → Vy, vef_callS → Vz, rd_loadN → Xa, nn_same → Xb, rd_pickT → Xc, vt1 → Xd, rd_loadV1 → Xe, sets_nil → Xf, rd_mvP → Xg, vwp_block → Xh, vwp_cond → Xi, vwp_skip → Xj, onlyE → Xk, vops_take → Xl, vef_allocN → Xm, setO_N → Xn, rd_to → Xo, len_setL → Xp, rd_fieldVaddr → Xq, vcalls_of_body → Xr, len_app → Xs, Lift → Xt, rd_ixV → Xu, rd_asI → Xv, rd_mvV → Xw, vef_callP → Xx, VRd → Xy, Weak → Xz, dops_ef → Ya, vwp_ret → Yb, rn_sl → Yc, dr1 → Yd, rd_build → Ye, bnd → Yf, nt_ne → Yg, nt_all2 → Yh, getI_some → Yi, lp_bindE → Yj, sets_B → Yk, vwp_weak → Yl, lt_map → Ym, rd_mvL → Yn, ltObjN → Yo, rd_nilPtr → Yp, bifT → Yq, bifF → Yr, getO_B → Ys, vef_litF → Yt, rd_lenV → Yu, weak_freezeN → Yv, all0 → Yw, dops_nil → Yx, vwp_loopC → Yy, rd_lss → Yz, lp_some → Za, get_B → Zb, bodyQ_pure → Zc, vwp_exit → Zd, neF → Ze, rd_add → Zf, dops_skip → Zg, VCalls → Zh, rd_asB → Zi, full_take → Zj, rd_eql → Zk, vops_skipX → Zl, nt_all → Zm, vwp_drawn → Zn, rd_loadVN → Zo, rd_sub → Zp, rd_gtr → Zq, rd_ixS → Zr, rd_ldL1 → Zs, dopx_rd → Zt, rx1 → Zu, sets_own → Zv, vef_apL → Zw, vef_boxN → Zx, vwp_drawn0 → Zy, vcalls_low → Zz
open List renaming map → Wa
open Go.Aml.PV renaming int → Wb
open Go.Aml.PV renaming bool → Wc
open Option.some renaming inj → Wd
open Nat renaming le_of_ble_eq_true → We
open Nat renaming succ_pos → Wf
open Bool renaming eq_false_or_eq_true → Wg
open List renaming length_map → Wh
set_option maxHeartbeats 4000000

theorem F_draw_Codes_fit_ok0 {p0 : T_draw_Codes} {p1 : T_Air} {p2 : T_Setting} {p3 : T_State} {r : T_draw_Codes × T_Air} (hF : F_draw_Codes_fit p0 p1 p2 p3 = some r) {low0 : List AObj} {q0 q1 q2 q3 q4 w0 w1 w2 w3 w4 : Nat} (hB : Bor low0 [q0, q1, q2, q3, q4]) {m2 : Nat} (hm2 : m2 = (p1.Mine.Roads).length) {m3 : Nat} (hm3 : m3 = (p1.Fans).length) {m4 : Nat} (hm4 : m4 = (p1.Doors).length) {n : Nat} (hn : low0.length = n) :
    Zh Try.prog 39 [.ptr q0 w0 0 0, .ptr q1 w1 0 0, .agg [.vs 1 (Wa (Wb .i64) p2.Fans), .vs 1 (Wa (Wb .i64) p2.Doors)], .agg [.vs 1 (Wa (Wb .i64) p3.Pressures), .vs 1 (Wa (Wb .i64) p3.Flows)]] (setL low0 [(q0, ⟨88, 2, [.agg [.vs 1 (Wa (Wb .u8) p0.l), .int .i64 p0.at_]], w0⟩), (q1, ⟨31, 4, [.agg [.vs 2 (Wa T_Place.enc p1.Mine.Places), .sl q2 w2 0 m2, .sl q3 w3 0 m3, .sl q4 w4 0 m4]], w1⟩), (q2, ⟨46, 10, Wa T_Road.enc p1.Mine.Roads, w2⟩), (q3, ⟨72, 4, Wa T_Fan.enc p1.Fans, w3⟩), (q4, ⟨99, 3, Wa T_Door.enc p1.Doors, w4⟩)]) fun x low' => x = .tup [] ∧ low' = setL low0 [(q0, ⟨88, 2, [.agg [.vs 1 (Wa (Wb .u8) r.1.l), .int .i64 r.1.at_]], w0⟩), (q1, ⟨31, 4, [.agg [.vs 2 (Wa T_Place.enc r.2.Mine.Places), .sl q2 w2 0 m2, .sl q3 w3 0 m3, .sl q4 w4 0 m4]], w1⟩), (q2, ⟨46, 10, Wa T_Road.enc r.2.Mine.Roads, w2⟩), (q3, ⟨72, 4, Wa T_Fan.enc r.2.Fans, w3⟩), (q4, ⟨99, 3, Wa T_Door.enc r.2.Doors, w4⟩)] ++ [] := by
 refine Xr (nt := 166) (rs := []) Try.func39 rfl rfl (We rfl) rfl ?_
 have hq0 : q0 < n := hB.ltN hn 0 rfl
 have hq1 : q1 < n := hB.ltN hn 1 rfl
 have hq2 : q2 < n := hB.ltN hn 2 rfl
 have hq3 : q3 < n := hB.ltN hn 3 rfl
 have hq4 : q4 < n := hB.ltN hn 4 rfl
 refine Vs (Q' := FnE (fun E' lw lc => m2 = (r.2.Mine.Roads).length ∧ m3 = (r.2.Fans).length ∧ m4 = (r.2.Doors).length ∧ Xz E' lw lc [] (setL low0 [(q0, ⟨88, 2, [.agg [.vs 1 (Wa (Wb .u8) r.1.l), .int .i64 r.1.at_]], w0⟩), (q1, ⟨31, 4, [.agg [.vs 2 (Wa T_Place.enc r.2.Mine.Places), .sl q2 w2 0 m2, .sl q3 w3 0 m3, .sl q4 w4 0 m4]], w1⟩), (q2, ⟨46, 10, Wa T_Road.enc r.2.Mine.Roads, w2⟩), (q3, ⟨72, 4, Wa T_Fan.enc r.2.Fans, w3⟩), (q4, ⟨99, 3, Wa T_Door.enc r.2.Doors, w4⟩)]) [])) ?_ ?_
 ·unfold F_draw_Codes_fit at hF
  refine Vf ?_
  refine Vd ?_
  refine Vi (Zx (Vl hn) rfl (v := .agg [.vs 1 (Wa (Wb .i64) p2.Fans), .vs 1 (Wa (Wb .i64) p2.Doors)]) rfl rfl (Wf _) rfl rfl) rfl ?_
  refine Vi (Zx (Vl hn) rfl (v := .agg [.vs 1 (Wa (Wb .i64) p3.Pressures), .vs 1 (Wa (Wb .i64) p3.Flows)]) rfl rfl (Wf _) rfl rfl) rfl ?_
  refine Ve ?_
  refine Vf ?_
  refine Vd ?_
  refine Va (Xv rfl) rfl ?_
  refine Ve ?_
  refine Xh ?_
  obtain ⟨o5, ho5, hF⟩ := Yf hF
  refine Vs (Yy (F_draw_Codes_fit_L1 p1 p2 p3) (fun s4 E' lw lc => m2 = (s4.2.2).length ∧ Xz E' lw lc [(0, .ptr q0 w0 0 0), (1, .ptr q1 w1 0 0), (6, .ptr (n + 0) 0 0 0), (7, .ptr (n + 1) 0 0 0), (8, .int .i64 s4.1)] (setL low0 [(q0, ⟨88, 2, [.agg [.vs 1 (Wa (Wb .u8) s4.2.1.l), .int .i64 s4.2.1.at_]], w0⟩), (q1, ⟨31, 4, [.agg [.vs 2 (Wa T_Place.enc p1.Mine.Places), .sl q2 w2 0 m2, .sl q3 w3 0 m3, .sl q4 w4 0 m4]], w1⟩), (q2, ⟨46, 10, Wa T_Road.enc s4.2.2, w2⟩), (q3, ⟨72, 4, Wa T_Fan.enc p1.Fans, w3⟩), (q4, ⟨99, 3, Wa T_Door.enc p1.Doors, w4⟩)]) [⟨62, 2, [.agg [.vs 1 (Wa (Wb .i64) p2.Fans), .vs 1 (Wa (Wb .i64) p2.Doors)]], 0⟩, ⟨64, 2, [.agg [.vs 1 (Wa (Wb .i64) p3.Pressures), .vs 1 (Wa (Wb .i64) p3.Flows)]], 0⟩]) (fun o5 => OnlyE (.exit 0) (fun E' lw lc => m2 = (o5.2).length ∧ Xz E' lw lc [] (setL low0 [(q0, ⟨88, 2, [.agg [.vs 1 (Wa (Wb .u8) o5.1.l), .int .i64 o5.1.at_]], w0⟩), (q1, ⟨31, 4, [.agg [.vs 2 (Wa T_Place.enc p1.Mine.Places), .sl q2 w2 0 m2, .sl q3 w3 0 m3, .sl q4 w4 0 m4]], w1⟩), (q2, ⟨46, 10, Wa T_Road.enc o5.2, w2⟩), (q3, ⟨72, 4, Wa T_Fan.enc p1.Fans, w3⟩), (q4, ⟨99, 3, Wa T_Door.enc p1.Doors, w4⟩)]) [])) ho5 ⟨hm2, ?_⟩ (by rintro _ _ _ _ ⟨h, _⟩ <;> cases h) ?_) ?_
  ·exact Vp ⟨rfl, rfl, rfl, rfl, rfl, trivial⟩
  ·rintro s4 os4 _ _ _ hF ⟨hls4_0, hw⟩
   unfold F_draw_Codes_fit_L1 at hF
   refine Yl hw ?_
   refine Vf ?_
   refine Vf ?_
   refine Vd ?_
   refine Va (Vk rfl) rfl ?_
   refine Va (Xg rfl) rfl ?_
   refine Va (Yp rfl) rfl ?_
   refine Va (Vb rfl tf_31_0 ts_27 (by decide)) rfl ?_
   refine Va (Vb rfl tf_27_1 ts_25 (by decide)) rfl ?_
   refine Va (Vj rfl (Ys hB rfl 1 rfl) rfl ta_25 rfl) rfl ?_
   refine Va (Xo (rd_lenS rfl (Ys hB rfl 2 rfl) rfl rfl te_25) (congrArg (fun n : Nat => Wb .i64 (n : Int)) hls4_0)) rfl ?_
   refine Va (Yz rfl rfl) rfl ?_
   refine Ve ?_
   refine Xi rfl (fun c6 => ?_) (fun c6 => ?_)
   ·have hF := Yq c6 hF
    refine Xj ?_
    refine Vf ?_
    refine Xh ?_
    refine Vf ?_
    refine Vd ?_
    obtain ⟨x7, h8, hF⟩ := Yf hF
    refine Va (Xg rfl) rfl ?_
    refine Va (Yp rfl) rfl ?_
    refine Va (Vb rfl tf_31_0 ts_27 (by decide)) rfl ?_
    refine Va (Vb rfl tf_27_1 ts_25 (by decide)) rfl ?_
    refine Va (Vj rfl (Ys hB rfl 1 rfl) rfl ta_25 rfl) rfl ?_
    refine Va (Vk rfl) rfl ?_
    refine Va (Zr rfl hls4_0 rfl (Ys hB rfl 2 rfl) h8 te_25 ts_46) rfl ?_
    refine Va (rd_asP rfl) rfl ?_
    refine Ve ?_
    refine Vf ?_
    refine Vd ?_
    obtain ⟨x9, h10, hF⟩ := Yf hF
    refine Va (Vb rfl tf_64_1 ts_32 (by decide)) rfl ?_
    refine Va (Vj rfl (Vg (Vl hn) rfl) rfl ta_32 rfl) rfl ?_
    refine Va (Vk rfl) rfl ?_
    refine Va (Xo (Xu rfl rfl h10 te_32 ts_3) (v' := .vptr [.int .i64 x9] 0) rfl) rfl ?_
    refine Va (Xe rfl ta_3 rfl) rfl ?_
    refine Va (Xv rfl) rfl ?_
    refine Ve ?_
    refine Vf ?_
    obtain ⟨x11, h12, hF⟩ := Yf hF
    refine Zn [[], [0], [0, 1], [0, 1, 2], [0, 1, 2, 3], [], [], [6], [6, 7], [6, 7, 8], [6, 7, 8, 9], [], [11], [11, 12], [11, 12, 13], [11, 12, 13, 14], [6, 7, 8, 9, 10, 11, 12, 13, 14, 15], [6, 7, 8, 9, 10, 11, 12, 13, 14, 15, 16], [5, 6, 7, 8, 9, 10, 11, 12, 13, 14, 15, 16, 17], [0, 1, 2, 3, 4, 5, 6, 7, 8, 9, 10, 11, 12, 13, 14, 15, 16, 17, 18], [0, 1, 2, 3, 4, 5, 6, 7, 8, 9, 10, 11, 12, 13, 14, 15, 16, 17, 18, 19]] [false, false, false, false, false, false, false, false, false, false, false, false, false, false, false, false, false, false, true, false, false] [((setL low0 [(q0, ⟨88, 2, [.agg [.vs 1 (Wa (Wb .u8) s4.2.1.l), .int .i64 s4.2.1.at_]], w0⟩), (q1, ⟨31, 4, [.agg [.vs 2 (Wa T_Place.enc p1.Mine.Places), .sl q2 w2 0 m2, .sl q3 w3 0 m3, .sl q4 w4 0 m4]], w1⟩), (q2, ⟨46, 10, Wa T_Road.enc s4.2.2, w2⟩), (q3, ⟨72, 4, Wa T_Fan.enc p1.Fans, w3⟩), (q4, ⟨99, 3, Wa T_Door.enc p1.Doors, w4⟩)]), [⟨62, 2, [.agg [.vs 1 (Wa (Wb .i64) p2.Fans), .vs 1 (Wa (Wb .i64) p2.Doors)]], 0⟩, ⟨64, 2, [.agg [.vs 1 (Wa (Wb .i64) p3.Pressures), .vs 1 (Wa (Wb .i64) p3.Flows)]], 0⟩]), ((setL low0 [(q0, ⟨88, 2, [.agg [.vs 1 (Wa (Wb .u8) x11.1.l), .int .i64 x11.1.at_]], w0⟩), (q1, ⟨31, 4, [.agg [.vs 2 (Wa T_Place.enc p1.Mine.Places), .sl q2 w2 0 m2, .sl q3 w3 0 m3, .sl q4 w4 0 m4]], w1⟩), (q2, ⟨46, 10, Wa T_Road.enc s4.2.2, w2⟩), (q3, ⟨72, 4, Wa T_Fan.enc p1.Fans, w3⟩), (q4, ⟨99, 3, Wa T_Door.enc p1.Doors, w4⟩)]), [⟨62, 2, [.agg [.vs 1 (Wa (Wb .i64) p2.Fans), .vs 1 (Wa (Wb .i64) p2.Doors)]], 0⟩, ⟨64, 2, [.agg [.vs 1 (Wa (Wb .i64) p3.Pressures), .vs 1 (Wa (Wb .i64) p3.Flows)]], 0⟩])] mixed (by kernel_rfl) rfl (lenAll (Vv Xp (Vv Xp Yw))) rfl _ rfl rfl ?_
    refine Vx _ rfl rfl (Vv (VRd.ntl (Xg rfl)) (Vv (VRd.ntl (Xg rfl)) Yw)) ?_
    refine Vx _ rfl rfl (Vv (VRd.ntl (Yp rfl)) (Vv (VRd.ntl (Yp rfl)) Yw)) ?_
    refine Vx _ rfl rfl (Vv (VRd.ntl (Vb rfl tf_46_6 ts_44 (by decide))) (Vv (VRd.ntl (Vb rfl tf_46_6 ts_44 (by decide))) Yw)) ?_
    refine Vx _ rfl rfl (Vv (VRd.ntl (Vb rfl tf_44_0 ts_3 (by decide))) (Vv (VRd.ntl (Vb rfl tf_44_0 ts_3 (by decide))) Yw)) ?_
    refine Vx _ rfl rfl (Vv (VRd.ntl (Zs rfl (Ys hB rfl 2 rfl) (Yi h8).2 ta_3 rfl)) (Vv (VRd.ntl (Zs rfl (Ys hB rfl 2 rfl) (Yi h8).2 ta_3 rfl)) Yw)) ?_
    refine Yd rfl rfl (Xg rfl) ?_
    refine Yd rfl rfl (Xg rfl) ?_
    refine Yd rfl rfl (Yp rfl) ?_
    refine Yd rfl rfl (Vb rfl tf_46_6 ts_44 (by decide)) ?_
    refine Yd rfl rfl (Vb rfl tf_44_1 ts_3 (by decide)) ?_
    refine Yd rfl rfl (Zs rfl (Ys hB rfl 2 rfl) (Yi h8).2 ta_3 rfl) ?_
    refine Yd rfl rfl (Xg rfl) ?_
    refine Yd rfl rfl (Yp rfl) ?_
    refine Yd rfl rfl (Vb rfl tf_46_6 ts_44 (by decide)) ?_
    refine Yd rfl rfl (Vb rfl tf_44_0 ts_3 (by decide)) ?_
    refine Yd rfl rfl (Zs rfl (Ys hB rfl 2 rfl) (Yi h8).2 ta_3 rfl) ?_
    refine Yd rfl rfl (Zp rfl rfl rfl) ?_
    refine Yd rfl rfl (Zf rfl rfl rfl) ?_
    refine Ya rfl rfl rfl (Vz (ps := [(q0, ⟨88, 2, [.agg [.vs 1 (Wa (Wb .u8) x11.1.l), .int .i64 x11.1.at_]], w0⟩)]) (r := .int .i64 x11.2) (os := []) (low1 := (setL low0 [(q0, ⟨88, 2, [.agg [.vs 1 (Wa (Wb .u8) x11.1.l), .int .i64 x11.1.at_]], w0⟩), (q1, ⟨31, 4, [.agg [.vs 2 (Wa T_Place.enc p1.Mine.Places), .sl q2 w2 0 m2, .sl q3 w3 0 m3, .sl q4 w4 0 m4]], w1⟩), (q2, ⟨46, 10, Wa T_Road.enc s4.2.2, w2⟩), (q3, ⟨72, 4, Wa T_Fan.enc p1.Fans, w3⟩), (q4, ⟨99, 3, Wa T_Door.enc p1.Doors, w4⟩)])) (loc1 := [⟨62, 2, [.agg [.vs 1 (Wa (Wb .i64) p2.Fans), .vs 1 (Wa (Wb .i64) p2.Doors)]], 0⟩, ⟨64, 2, [.agg [.vs 1 (Wa (Wb .i64) p3.Pressures), .vs 1 (Wa (Wb .i64) p3.Flows)]], 0⟩]) (loc2 := [⟨62, 2, [.agg [.vs 1 (Wa (Wb .i64) p2.Fans), .vs 1 (Wa (Wb .i64) p2.Doors)]], 0⟩, ⟨64, 2, [.agg [.vs 1 (Wa (Wb .i64) p3.Pressures), .vs 1 (Wa (Wb .i64) p3.Flows)]], 0⟩]) rfl Try.call27 (F_draw_Codes_Next_ok h12 (nd1 na0 nd0) (Zb hB rfl 0 rfl) (Xs (Vl hn) rfl)) (Yk (ps0' := [(q0, ⟨88, 2, [.agg [.vs 1 (Wa (Wb .u8) x11.1.l), .int .i64 x11.1.at_]], w0⟩), (q1, ⟨31, 4, [.agg [.vs 2 (Wa T_Place.enc p1.Mine.Places), .sl q2 w2 0 m2, .sl q3 w3 0 m3, .sl q4 w4 0 m4]], w1⟩), (q2, ⟨46, 10, Wa T_Road.enc s4.2.2, w2⟩), (q3, ⟨72, 4, Wa T_Fan.enc p1.Fans, w3⟩), (q4, ⟨99, 3, Wa T_Door.enc p1.Doors, w4⟩)]) hB rfl 0 rfl (Yo hn ⟨Vo ⟨.vs _ _, .int _ _, trivial⟩, trivial⟩) rfl Xf) rfl) ?_
    refine Yd rfl rfl (Zf rfl rfl rfl) ?_
    refine Yd rfl rfl (Xv rfl) ?_
    refine Yx ?_
    refine Vf ?_
    refine Vf ?_
    refine Vd ?_
    refine Va (Xv rfl) rfl ?_
    refine Ve ?_
    refine Xh ?_
    obtain ⟨o14, ho14, hF⟩ := Yf hF
    refine Vs (Yy (F_draw_Codes_fit_L2 p1 p2 s4) (fun s13 E' lw lc => Xz E' lw lc [(0, .ptr q0 w0 0 0), (1, .ptr q1 w1 0 0), (6, .ptr (n + 0) 0 0 0), (7, .ptr (n + 1) 0 0 0), (8, .int .i64 s4.1), (9, .ptr q2 w2 ((s4.1).toNat) 0), (10, .int .i64 x9), (11, .int .i64 s13.1), (12, .int .i64 s13.2)] (setL low0 [(q0, ⟨88, 2, [.agg [.vs 1 (Wa (Wb .u8) x11.1.l), .int .i64 x11.1.at_]], w0⟩), (q1, ⟨31, 4, [.agg [.vs 2 (Wa T_Place.enc p1.Mine.Places), .sl q2 w2 0 m2, .sl q3 w3 0 m3, .sl q4 w4 0 m4]], w1⟩), (q2, ⟨46, 10, Wa T_Road.enc s4.2.2, w2⟩), (q3, ⟨72, 4, Wa T_Fan.enc p1.Fans, w3⟩), (q4, ⟨99, 3, Wa T_Door.enc p1.Doors, w4⟩)]) [⟨62, 2, [.agg [.vs 1 (Wa (Wb .i64) p2.Fans), .vs 1 (Wa (Wb .i64) p2.Doors)]], 0⟩, ⟨64, 2, [.agg [.vs 1 (Wa (Wb .i64) p3.Pressures), .vs 1 (Wa (Wb .i64) p3.Flows)]], 0⟩]) (fun o14 => OnlyE (.exit 2) (fun E' lw lc => Xz E' lw lc [(0, .ptr q0 w0 0 0), (1, .ptr q1 w1 0 0), (6, .ptr (n + 0) 0 0 0), (7, .ptr (n + 1) 0 0 0), (8, .int .i64 s4.1), (9, .ptr q2 w2 ((s4.1).toNat) 0), (10, .int .i64 x9), (11, .int .i64 o14)] (setL low0 [(q0, ⟨88, 2, [.agg [.vs 1 (Wa (Wb .u8) x11.1.l), .int .i64 x11.1.at_]], w0⟩), (q1, ⟨31, 4, [.agg [.vs 2 (Wa T_Place.enc p1.Mine.Places), .sl q2 w2 0 m2, .sl q3 w3 0 m3, .sl q4 w4 0 m4]], w1⟩), (q2, ⟨46, 10, Wa T_Road.enc s4.2.2, w2⟩), (q3, ⟨72, 4, Wa T_Fan.enc p1.Fans, w3⟩), (q4, ⟨99, 3, Wa T_Door.enc p1.Doors, w4⟩)]) [⟨62, 2, [.agg [.vs 1 (Wa (Wb .i64) p2.Fans), .vs 1 (Wa (Wb .i64) p2.Doors)]], 0⟩, ⟨64, 2, [.agg [.vs 1 (Wa (Wb .i64) p3.Pressures), .vs 1 (Wa (Wb .i64) p3.Flows)]], 0⟩])) ho14 ?_ (by rintro _ _ _ _ ⟨h, _⟩ <;> cases h) ?_) ?_
    ·exact Vp ⟨rfl, rfl, rfl, rfl, rfl, rfl, rfl, rfl, rfl, trivial⟩
    ·rintro s13 os13 _ _ _ hF hw
     unfold F_draw_Codes_fit_L2 at hF
     refine Yl hw ?_
     refine Vf ?_
     refine Vf ?_
     refine Vd ?_
     refine Va (Vk rfl) rfl ?_
     refine Va (Xg rfl) rfl ?_
     refine Va (Yp rfl) rfl ?_
     refine Va (Vb rfl tf_31_2 ts_29 (by decide)) rfl ?_
     refine Va (Vj rfl (Ys hB rfl 1 rfl) rfl ta_29 rfl) rfl ?_
     refine Va (Xo (rd_lenS rfl (Ys hB rfl 4 rfl) rfl rfl te_29) (congrArg (fun n : Nat => Wb .i64 (n : Int)) hm4)) rfl ?_
     refine Va (Yz rfl rfl) rfl ?_
     refine Ve ?_
     refine Xi rfl (fun c15 => ?_) (fun c15 => ?_)
     ·have hF := Yq c15 hF
      refine Xj ?_
      refine Vf ?_
      obtain ⟨o16, ho16, hF⟩ := Yf hF
      refine Vs (Q' := (fun o16 => OnlyE .normal (fun E' lw lc => Xz E' lw lc [(0, .ptr q0 w0 0 0), (1, .ptr q1 w1 0 0), (6, .ptr (n + 0) 0 0 0), (7, .ptr (n + 1) 0 0 0), (8, .int .i64 s4.1), (9, .ptr q2 w2 ((s4.1).toNat) 0), (10, .int .i64 x9), (11, .int .i64 o16), (12, .int .i64 s13.2)] (setL low0 [(q0, ⟨88, 2, [.agg [.vs 1 (Wa (Wb .u8) x11.1.l), .int .i64 x11.1.at_]], w0⟩), (q1, ⟨31, 4, [.agg [.vs 2 (Wa T_Place.enc p1.Mine.Places), .sl q2 w2 0 m2, .sl q3 w3 0 m3, .sl q4 w4 0 m4]], w1⟩), (q2, ⟨46, 10, Wa T_Road.enc s4.2.2, w2⟩), (q3, ⟨72, 4, Wa T_Fan.enc p1.Fans, w3⟩), (q4, ⟨99, 3, Wa T_Door.enc p1.Doors, w4⟩)]) [⟨62, 2, [.agg [.vs 1 (Wa (Wb .i64) p2.Fans), .vs 1 (Wa (Wb .i64) p2.Doors)]], 0⟩, ⟨64, 2, [.agg [.vs 1 (Wa (Wb .i64) p3.Pressures), .vs 1 (Wa (Wb .i64) p3.Flows)]], 0⟩])) o16) ?_ ?_
      ·replace hF := ho16
       refine Xh ?_
       refine Vf ?_
       refine Vd ?_
       obtain ⟨x17, h18, hF⟩ := Yf hF
       refine Va (Xg rfl) rfl ?_
       refine Va (Yp rfl) rfl ?_
       refine Va (Vb rfl tf_31_2 ts_29 (by decide)) rfl ?_
       refine Va (Vj rfl (Ys hB rfl 1 rfl) rfl ta_29 rfl) rfl ?_
       refine Va (Vk rfl) rfl ?_
       refine Va (Zr rfl hm4 rfl (Ys hB rfl 4 rfl) h18 te_29 ts_99) rfl ?_
       refine Va (Vb rfl tf_99_0 ts_3 (by decide)) rfl ?_
       refine Va (Zs rfl (Ys hB rfl 4 rfl) (Yi h18).2 ta_3 rfl) rfl ?_
       refine Va (Vk rfl) rfl ?_
       refine Va (Zk rfl rfl) rfl ?_
       refine Ve ?_
       refine Xi rfl (fun c19 => ?_) (fun c19 => ?_)
       ·have hF := Yq c19 hF
        obtain ⟨x20, h21, hF⟩ := Yf hF
        obtain ⟨x22, h23, hF⟩ := Yf hF
        obtain ⟨x24, h25, hF⟩ := Yf hF
        refine Zy [[], [], [1], [1, 2], [1, 2, 3], [], [1, 2, 3, 4, 5], [1, 2, 3, 4, 5, 6], [], [8], [], [8, 9, 10], [8, 9, 10, 11], [1, 2, 3, 4, 5, 6, 7, 8, 9, 10, 11, 12], [1, 2, 3, 4, 5, 6, 7, 8, 9, 10, 11, 12, 13], [0, 1, 2, 3, 4, 5, 6, 7, 8, 9, 10, 11, 12, 13, 14], [0, 1, 2, 3, 4, 5, 6, 7, 8, 9, 10, 11, 12, 13, 14, 15]] mixed (by kernel_rfl) rfl ?_
        refine Yd rfl rfl (Vk rfl) ?_
        refine Yd rfl rfl (Xg rfl) ?_
        refine Yd rfl rfl (Yp rfl) ?_
        refine Yd rfl rfl (Vb rfl tf_31_2 ts_29 (by decide)) ?_
        refine Yd rfl rfl (Vj rfl (Ys hB rfl 1 rfl) rfl ta_29 rfl) ?_
        refine Yd rfl rfl (Vk rfl) ?_
        refine Yd rfl rfl (Zr rfl hm4 rfl (Ys hB rfl 4 rfl) h21 te_29 ts_99) ?_
        refine Yd rfl rfl (rd_ldLN (ds := [.int .i64 x20.Road, .int .i64 x20.Other, .vs 1 (Wa (Wb .i64) x20.Rests)]) rfl (Ys hB rfl 4 rfl) (Yi h21).2 ta_99 ts_99 rfl rfl) ?_
        refine Yd rfl rfl (Vb rfl tf_62_1 ts_32 (by decide)) ?_
        refine Yd rfl rfl (Vj rfl (Vg (Vl hn) rfl) rfl ta_32 rfl) ?_
        refine Yd rfl rfl (Vk rfl) ?_
        refine Yd rfl rfl (Xo (Xu rfl rfl h23 te_32 ts_3) (v' := .vptr [.int .i64 x22] 0) rfl) ?_
        refine Yd rfl rfl (Xe rfl ta_3 rfl) ?_
        refine dn1 rfl rfl (nt_of (Xx rfl Try.call45 (F_ref08_Rest_ok h25 _))) ?_
        refine Yd rfl rfl (rd_field1 rfl tf_44_0 ta_3 rfl) ?_
        refine Yd rfl rfl (Zf rfl rfl rfl) ?_
        refine Yd rfl rfl (Xv rfl) ?_
        refine Yx ?_
        obtain rfl := Wd hF
        refine Xk ?_
        exact Vp ⟨rfl, rfl, rfl, rfl, rfl, rfl, rfl, rfl, rfl, trivial⟩
       ·have hF := Yr c19 hF
        refine Xj ?_
        obtain rfl := Wd hF
        refine Xk ?_
        exact Vp ⟨rfl, rfl, rfl, rfl, rfl, rfl, rfl, rfl, rfl, trivial⟩
      ·rintro _ _ _ _ ⟨rfl, hw⟩
       refine ⟨_, _, _, hw, ?_⟩
       refine Vd ?_
       refine Va (Vk rfl) rfl ?_
       refine Va (Zf rfl rfl rfl) rfl ?_
       refine Va (Xv rfl) rfl ?_
       refine Ve ?_
       obtain rfl := Wd hF
       refine Xk ?_
       exact Vp ⟨rfl, rfl, rfl, rfl, rfl, rfl, rfl, rfl, rfl, trivial⟩
     ·have hF := Yr c15 hF
      refine Zd ?_
      obtain rfl := Wd hF
      refine Xk ?_
      exact Vp ⟨rfl, rfl, rfl, rfl, rfl, rfl, rfl, rfl, trivial⟩
    ·rintro _ _ _ _ ⟨rfl, hw⟩
     refine ⟨_, _, _, hw, ?_⟩
     refine Vf ?_
     obtain ⟨x26, h27, hF⟩ := Yf hF
     obtain ⟨x28, h29, hF⟩ := Yf hF
     obtain ⟨x30, h31, hF⟩ := Yf hF
     refine Zy [[], [], [], [2], [1, 2, 3], [0, 1, 2, 3, 4], [], [0, 1, 2, 3, 4, 5, 6], [], [8], [], [10], [10, 11], [10, 11, 12], [8, 9, 10, 11, 12, 13], [8, 9, 10, 11, 12, 13, 14], [], [16], [], [18], [18, 19], [18, 19, 20], [16, 17, 18, 19, 20, 21], [16, 17, 18, 19, 20, 21, 22], [8, 9, 10, 11, 12, 13, 14, 15, 16, 17, 18, 19, 20, 21, 22, 23], [0, 1, 2, 3, 4, 5, 6, 7, 8, 9, 10, 11, 12, 13, 14, 15, 16, 17, 18, 19, 20, 21, 22, 23, 24], [0, 1, 2, 3, 4, 5, 6, 7, 8, 9, 10, 11, 12, 13, 14, 15, 16, 17, 18, 19, 20, 21, 22, 23, 24, 25]] mixed (by kernel_rfl) rfl ?_
     refine Yd rfl rfl (Vk rfl) ?_
     refine Yd rfl rfl (Vk rfl) ?_
     refine Yd rfl rfl (Vk rfl) ?_
     refine Yd rfl rfl (rd_neg rfl rfl) ?_
     refine Yd rfl rfl (rd_max rfl rfl) ?_
     refine Yd rfl rfl (rd_mul rfl rfl rfl) ?_
     refine Yd rfl rfl (Vk rfl) ?_
     refine Yd rfl rfl (rd_mul rfl rfl rfl) ?_
     refine Yd rfl rfl (Vb rfl tf_64_0 ts_32 (by decide)) ?_
     refine Yd rfl rfl (Vj rfl (Vg (Vl hn) rfl) rfl ta_32 rfl) ?_
     refine Yd rfl rfl (Xg rfl) ?_
     refine Yd rfl rfl (Yp rfl) ?_
     refine Yd rfl rfl (Vb rfl tf_46_0 ts_3 (by decide)) ?_
     refine Yd rfl rfl (Zs rfl (Ys hB rfl 2 rfl) h27 ta_3 rfl) ?_
     refine Yd rfl rfl (Xo (Xu rfl rfl h29 te_32 ts_3) (v' := .vptr [.int .i64 x28] 0) rfl) ?_
     refine Yd rfl rfl (Xe rfl ta_3 rfl) ?_
     refine Yd rfl rfl (Vb rfl tf_64_0 ts_32 (by decide)) ?_
     refine Yd rfl rfl (Vj rfl (Vg (Vl hn) rfl) rfl ta_32 rfl) ?_
     refine Yd rfl rfl (Xg rfl) ?_
     refine Yd rfl rfl (Yp rfl) ?_
     refine Yd rfl rfl (Vb rfl tf_46_1 ts_3 (by decide)) ?_
     refine Yd rfl rfl (Zs rfl (Ys hB rfl 2 rfl) h27 ta_3 rfl) ?_
     refine Yd rfl rfl (Xo (Xu rfl rfl h31 te_32 ts_3) (v' := .vptr [.int .i64 x30] 0) rfl) ?_
     refine Yd rfl rfl (Xe rfl ta_3 rfl) ?_
     refine Yd rfl rfl (Zp rfl rfl rfl) ?_
     refine Yd rfl rfl (Zp rfl rfl rfl) ?_
     refine Yd rfl rfl (Xv rfl) ?_
     refine Yx ?_
     refine Vf ?_
     refine Vf ?_
     refine Vd ?_
     refine Va (Xv rfl) rfl ?_
     refine Ve ?_
     refine Xh ?_
     obtain ⟨o33, ho33, hF⟩ := Yf hF
     refine Vs (Yy (F_draw_Codes_fit_L3 p1 p2 s4 x9) (fun s32 E' lw lc => Xz E' lw lc [(0, .ptr q0 w0 0 0), (1, .ptr q1 w1 0 0), (6, .ptr (n + 0) 0 0 0), (7, .ptr (n + 1) 0 0 0), (8, .int .i64 s4.1), (9, .ptr q2 w2 ((s4.1).toNat) 0), (10, .int .i64 x9), (13, .int .i64 s32.1), (14, .int .i64 s32.2)] (setL low0 [(q0, ⟨88, 2, [.agg [.vs 1 (Wa (Wb .u8) x11.1.l), .int .i64 x11.1.at_]], w0⟩), (q1, ⟨31, 4, [.agg [.vs 2 (Wa T_Place.enc p1.Mine.Places), .sl q2 w2 0 m2, .sl q3 w3 0 m3, .sl q4 w4 0 m4]], w1⟩), (q2, ⟨46, 10, Wa T_Road.enc s4.2.2, w2⟩), (q3, ⟨72, 4, Wa T_Fan.enc p1.Fans, w3⟩), (q4, ⟨99, 3, Wa T_Door.enc p1.Doors, w4⟩)]) [⟨62, 2, [.agg [.vs 1 (Wa (Wb .i64) p2.Fans), .vs 1 (Wa (Wb .i64) p2.Doors)]], 0⟩, ⟨64, 2, [.agg [.vs 1 (Wa (Wb .i64) p3.Pressures), .vs 1 (Wa (Wb .i64) p3.Flows)]], 0⟩]) (fun o33 => OnlyE (.exit 4) (fun E' lw lc => Xz E' lw lc [(0, .ptr q0 w0 0 0), (1, .ptr q1 w1 0 0), (6, .ptr (n + 0) 0 0 0), (7, .ptr (n + 1) 0 0 0), (8, .int .i64 s4.1), (9, .ptr q2 w2 ((s4.1).toNat) 0), (13, .int .i64 o33)] (setL low0 [(q0, ⟨88, 2, [.agg [.vs 1 (Wa (Wb .u8) x11.1.l), .int .i64 x11.1.at_]], w0⟩), (q1, ⟨31, 4, [.agg [.vs 2 (Wa T_Place.enc p1.Mine.Places), .sl q2 w2 0 m2, .sl q3 w3 0 m3, .sl q4 w4 0 m4]], w1⟩), (q2, ⟨46, 10, Wa T_Road.enc s4.2.2, w2⟩), (q3, ⟨72, 4, Wa T_Fan.enc p1.Fans, w3⟩), (q4, ⟨99, 3, Wa T_Door.enc p1.Doors, w4⟩)]) [⟨62, 2, [.agg [.vs 1 (Wa (Wb .i64) p2.Fans), .vs 1 (Wa (Wb .i64) p2.Doors)]], 0⟩, ⟨64, 2, [.agg [.vs 1 (Wa (Wb .i64) p3.Pressures), .vs 1 (Wa (Wb .i64) p3.Flows)]], 0⟩])) ho33 ?_ (by rintro _ _ _ _ ⟨h, _⟩ <;> cases h) ?_) ?_
     ·exact Vp ⟨rfl, rfl, rfl, rfl, rfl, rfl, rfl, rfl, rfl, trivial⟩
     ·rintro s32 os32 _ _ _ hF hw
      unfold F_draw_Codes_fit_L3 at hF
      refine Yl hw ?_
      refine Vf ?_
      refine Vf ?_
      refine Vd ?_
      refine Va (Vk rfl) rfl ?_
      refine Va (Xg rfl) rfl ?_
      refine Va (Yp rfl) rfl ?_
      refine Va (Vb rfl tf_31_1 ts_28 (by decide)) rfl ?_
      refine Va (Vj rfl (Ys hB rfl 1 rfl) rfl ta_28 rfl) rfl ?_
      refine Va (Xo (rd_lenS rfl (Ys hB rfl 3 rfl) rfl rfl te_28) (congrArg (fun n : Nat => Wb .i64 (n : Int)) hm3)) rfl ?_
      refine Va (Yz rfl rfl) rfl ?_
      refine Ve ?_
      refine Xi rfl (fun c34 => ?_) (fun c34 => ?_)
      ·have hF := Yq c34 hF
       refine Xj ?_
       refine Vf ?_
       obtain ⟨o35, ho35, hF⟩ := Yf hF
       refine Vs (Q' := (fun o35 => OnlyE .normal (fun E' lw lc => Xz E' lw lc [(0, .ptr q0 w0 0 0), (1, .ptr q1 w1 0 0), (6, .ptr (n + 0) 0 0 0), (7, .ptr (n + 1) 0 0 0), (8, .int .i64 s4.1), (9, .ptr q2 w2 ((s4.1).toNat) 0), (10, .int .i64 x9), (13, .int .i64 o35), (14, .int .i64 s32.2)] (setL low0 [(q0, ⟨88, 2, [.agg [.vs 1 (Wa (Wb .u8) x11.1.l), .int .i64 x11.1.at_]], w0⟩), (q1, ⟨31, 4, [.agg [.vs 2 (Wa T_Place.enc p1.Mine.Places), .sl q2 w2 0 m2, .sl q3 w3 0 m3, .sl q4 w4 0 m4]], w1⟩), (q2, ⟨46, 10, Wa T_Road.enc s4.2.2, w2⟩), (q3, ⟨72, 4, Wa T_Fan.enc p1.Fans, w3⟩), (q4, ⟨99, 3, Wa T_Door.enc p1.Doors, w4⟩)]) [⟨62, 2, [.agg [.vs 1 (Wa (Wb .i64) p2.Fans), .vs 1 (Wa (Wb .i64) p2.Doors)]], 0⟩, ⟨64, 2, [.agg [.vs 1 (Wa (Wb .i64) p3.Pressures), .vs 1 (Wa (Wb .i64) p3.Flows)]], 0⟩])) o35) ?_ ?_
       ·replace hF := ho35
        refine Xh ?_
        refine Vf ?_
        refine Vd ?_
        obtain ⟨x36, h37, hF⟩ := Yf hF
        refine Va (Xg rfl) rfl ?_
        refine Va (Yp rfl) rfl ?_
        refine Va (Vb rfl tf_31_1 ts_28 (by decide)) rfl ?_
        refine Va (Vj rfl (Ys hB rfl 1 rfl) rfl ta_28 rfl) rfl ?_
        refine Va (Vk rfl) rfl ?_
        refine Va (Zr rfl hm3 rfl (Ys hB rfl 3 rfl) h37 te_28 ts_72) rfl ?_
        refine Va (Vb rfl tf_72_0 ts_3 (by decide)) rfl ?_
        refine Va (Zs rfl (Ys hB rfl 3 rfl) (Yi h37).2 ta_3 rfl) rfl ?_
        refine Va (Vk rfl) rfl ?_
        refine Va (Zk rfl rfl) rfl ?_
        refine Ve ?_
        refine Xi rfl (fun c38 => ?_) (fun c38 => ?_)
        ·have hF := Yq c38 hF
         obtain ⟨x39, h40, hF⟩ := Yf hF
         obtain ⟨x41, h42, hF⟩ := Yf hF
         obtain ⟨x43, h44, hF⟩ := Yf hF
         refine Zy [[], [], [1], [1, 2], [1, 2, 3], [], [1, 2, 3, 4, 5], [1, 2, 3, 4, 5, 6], [], [8], [], [8, 9, 10], [8, 9, 10, 11], [], [1, 2, 3, 4, 5, 6, 7, 8, 9, 10, 11, 12, 13], [1, 2, 3, 4, 5, 6, 7, 8, 9, 10, 11, 12, 13, 14], [0, 1, 2, 3, 4, 5, 6, 7, 8, 9, 10, 11, 12, 13, 14, 15], [0, 1, 2, 3, 4, 5, 6, 7, 8, 9, 10, 11, 12, 13, 14, 15, 16]] mixed (by kernel_rfl) rfl ?_
         refine Yd rfl rfl (Vk rfl) ?_
         refine Yd rfl rfl (Xg rfl) ?_
         refine Yd rfl rfl (Yp rfl) ?_
         refine Yd rfl rfl (Vb rfl tf_31_1 ts_28 (by decide)) ?_
         refine Yd rfl rfl (Vj rfl (Ys hB rfl 1 rfl) rfl ta_28 rfl) ?_
         refine Yd rfl rfl (Vk rfl) ?_
         refine Yd rfl rfl (Zr rfl hm3 rfl (Ys hB rfl 3 rfl) h40 te_28 ts_72) ?_
         refine Yd rfl rfl (rd_ldLN (ds := [.int .i64 x39.Road, .bool x39.Back, .bool x39.Auxiliary, .vs 2 (Wa T_Point.enc x39.Curve)]) rfl (Ys hB rfl 3 rfl) (Yi h40).2 ta_72 ts_72 rfl rfl) ?_
         refine Yd rfl rfl (Vb rfl tf_62_0 ts_32 (by decide)) ?_
         refine Yd rfl rfl (Vj rfl (Vg (Vl hn) rfl) rfl ta_32 rfl) ?_
         refine Yd rfl rfl (Vk rfl) ?_
         refine Yd rfl rfl (Xo (Xu rfl rfl h42 te_32 ts_3) (v' := .vptr [.int .i64 x41] 0) rfl) ?_
         refine Yd rfl rfl (Xe rfl ta_3 rfl) ?_
         refine Yd rfl rfl (Vk rfl) ?_
         refine dn1 rfl rfl (nt_of (Xx rfl Try.call46 (F_ref07_State_ok h44 _))) ?_
         refine Yd rfl rfl (rd_field1 rfl tf_44_0 ta_3 rfl) ?_
         refine Yd rfl rfl (Zp rfl rfl rfl) ?_
         refine Yd rfl rfl (Xv rfl) ?_
         refine Yx ?_
         obtain rfl := Wd hF
         refine Xk ?_
         exact Vp ⟨rfl, rfl, rfl, rfl, rfl, rfl, rfl, rfl, rfl, trivial⟩
        ·have hF := Yr c38 hF
         refine Xj ?_
         obtain rfl := Wd hF
         refine Xk ?_
         exact Vp ⟨rfl, rfl, rfl, rfl, rfl, rfl, rfl, rfl, rfl, trivial⟩
       ·rintro _ _ _ _ ⟨rfl, hw⟩
        refine ⟨_, _, _, hw, ?_⟩
        refine Vd ?_
        refine Va (Vk rfl) rfl ?_
        refine Va (Zf rfl rfl rfl) rfl ?_
        refine Va (Xv rfl) rfl ?_
        refine Ve ?_
        obtain rfl := Wd hF
        refine Xk ?_
        exact Vp ⟨rfl, rfl, rfl, rfl, rfl, rfl, rfl, rfl, rfl, trivial⟩
      ·have hF := Yr c34 hF
       refine Zd ?_
       obtain rfl := Wd hF
       refine Xk ?_
       exact Vp ⟨rfl, rfl, rfl, rfl, rfl, rfl, rfl, trivial⟩
     ·rintro _ _ _ _ ⟨rfl, hw⟩
      refine ⟨_, _, _, hw, ?_⟩
      refine Vd ?_
      obtain ⟨x45, h46, hF⟩ := Yf hF
      obtain ⟨x47, h48, hF⟩ := Yf hF
      obtain ⟨x49, h50, hF⟩ := Yf hF
      refine Va (Xg rfl) rfl ?_
      refine Va (Vk rfl) rfl ?_
      refine Va (Xg rfl) rfl ?_
      refine Vi (Vz (ps := [(q0, ⟨88, 2, [.agg [.vs 1 (Wa (Wb .u8) x45.1.l), .int .i64 x45.1.at_]], w0⟩)]) (r := .int .i64 x45.2) (os := []) (low1 := (setL low0 [(q0, ⟨88, 2, [.agg [.vs 1 (Wa (Wb .u8) x45.1.l), .int .i64 x45.1.at_]], w0⟩), (q1, ⟨31, 4, [.agg [.vs 2 (Wa T_Place.enc p1.Mine.Places), .sl q2 w2 0 m2, .sl q3 w3 0 m3, .sl q4 w4 0 m4]], w1⟩), (q2, ⟨46, 10, Wa T_Road.enc s4.2.2, w2⟩), (q3, ⟨72, 4, Wa T_Fan.enc p1.Fans, w3⟩), (q4, ⟨99, 3, Wa T_Door.enc p1.Doors, w4⟩)])) (loc1 := [⟨62, 2, [.agg [.vs 1 (Wa (Wb .i64) p2.Fans), .vs 1 (Wa (Wb .i64) p2.Doors)]], 0⟩, ⟨64, 2, [.agg [.vs 1 (Wa (Wb .i64) p3.Pressures), .vs 1 (Wa (Wb .i64) p3.Flows)]], 0⟩]) (loc2 := [⟨62, 2, [.agg [.vs 1 (Wa (Wb .i64) p2.Fans), .vs 1 (Wa (Wb .i64) p2.Doors)]], 0⟩, ⟨64, 2, [.agg [.vs 1 (Wa (Wb .i64) p3.Pressures), .vs 1 (Wa (Wb .i64) p3.Flows)]], 0⟩]) rfl Try.call27 (F_draw_Codes_Next_ok h46 (nd1 na0 nd0) (Zb hB rfl 0 rfl) (Xs (Vl hn) rfl)) (Yk (ps0' := [(q0, ⟨88, 2, [.agg [.vs 1 (Wa (Wb .u8) x45.1.l), .int .i64 x45.1.at_]], w0⟩), (q1, ⟨31, 4, [.agg [.vs 2 (Wa T_Place.enc p1.Mine.Places), .sl q2 w2 0 m2, .sl q3 w3 0 m3, .sl q4 w4 0 m4]], w1⟩), (q2, ⟨46, 10, Wa T_Road.enc s4.2.2, w2⟩), (q3, ⟨72, 4, Wa T_Fan.enc p1.Fans, w3⟩), (q4, ⟨99, 3, Wa T_Door.enc p1.Doors, w4⟩)]) hB rfl 0 rfl (Yo hn ⟨Vo ⟨.vs _ _, .int _ _, trivial⟩, trivial⟩) rfl Xf) rfl) rfl ?_
      refine Va (Zp rfl rfl rfl) rfl ?_
      refine Va (Vk rfl) rfl ?_
      refine Va (Xg rfl) rfl ?_
      refine Vi (Vz (ps := [(q0, ⟨88, 2, [.agg [.vs 1 (Wa (Wb .u8) x47.1.l), .int .i64 x47.1.at_]], w0⟩)]) (r := .int .i64 x47.2) (os := []) (low1 := (setL low0 [(q0, ⟨88, 2, [.agg [.vs 1 (Wa (Wb .u8) x47.1.l), .int .i64 x47.1.at_]], w0⟩), (q1, ⟨31, 4, [.agg [.vs 2 (Wa T_Place.enc p1.Mine.Places), .sl q2 w2 0 m2, .sl q3 w3 0 m3, .sl q4 w4 0 m4]], w1⟩), (q2, ⟨46, 10, Wa T_Road.enc s4.2.2, w2⟩), (q3, ⟨72, 4, Wa T_Fan.enc p1.Fans, w3⟩), (q4, ⟨99, 3, Wa T_Door.enc p1.Doors, w4⟩)])) (loc1 := [⟨62, 2, [.agg [.vs 1 (Wa (Wb .i64) p2.Fans), .vs 1 (Wa (Wb .i64) p2.Doors)]], 0⟩, ⟨64, 2, [.agg [.vs 1 (Wa (Wb .i64) p3.Pressures), .vs 1 (Wa (Wb .i64) p3.Flows)]], 0⟩]) (loc2 := [⟨62, 2, [.agg [.vs 1 (Wa (Wb .i64) p2.Fans), .vs 1 (Wa (Wb .i64) p2.Doors)]], 0⟩, ⟨64, 2, [.agg [.vs 1 (Wa (Wb .i64) p3.Pressures), .vs 1 (Wa (Wb .i64) p3.Flows)]], 0⟩]) rfl Try.call27 (F_draw_Codes_Next_ok h48 (nd1 na0 nd0) (Zb hB rfl 0 rfl) (Xs (Vl hn) rfl)) (Yk (ps0' := [(q0, ⟨88, 2, [.agg [.vs 1 (Wa (Wb .u8) x47.1.l), .int .i64 x47.1.at_]], w0⟩), (q1, ⟨31, 4, [.agg [.vs 2 (Wa T_Place.enc p1.Mine.Places), .sl q2 w2 0 m2, .sl q3 w3 0 m3, .sl q4 w4 0 m4]], w1⟩), (q2, ⟨46, 10, Wa T_Road.enc s4.2.2, w2⟩), (q3, ⟨72, 4, Wa T_Fan.enc p1.Fans, w3⟩), (q4, ⟨99, 3, Wa T_Door.enc p1.Doors, w4⟩)]) hB rfl 0 rfl (Yo hn ⟨Vo ⟨.vs _ _, .int _ _, trivial⟩, trivial⟩) rfl Xf) rfl) rfl ?_
      refine Va (Zf rfl rfl rfl) rfl ?_
      refine Va (Ye (vs := [(0, .int .i64 (IntKind.i64.wrap (o33 - x45.2))), (1, .int .i64 (IntKind.i64.wrap (o33 + x47.2)))]) (ds := [.int .i64 (IntKind.i64.wrap (o33 - x45.2)), .int .i64 (IntKind.i64.wrap (o33 + x47.2))]) tz_44 rfl rfl tp_44 ⟨rfl, rfl, rfl, rfl, trivial⟩ (Yh rfl) rfl) rfl ?_
      refine Va (Yp rfl) rfl ?_
      refine Va (Vb rfl tf_46_7 ts_44 (by decide)) rfl ?_
      refine Vi (vef_stL (p := .agg [.int .i64 (IntKind.i64.wrap (o33 - x45.2)), .int .i64 (IntKind.i64.wrap (o33 + x47.2))]) (e' := (T_Road.mk x49.From x49.To x49.Length x49.Area x49.Walk x49.Closed x49.Rest (T_Span.mk (IntKind.i64.wrap (o33 - x45.2)) (IntKind.i64.wrap (o33 + x47.2))))) rfl (Ys hB rfl 2 rfl) h50 rfl ts_44 rfl (Yg rfl) (We rfl) rfl (setO_B hB rfl 2 rfl (Vq T_Road.enc_lt) rfl)) rfl ?_
      refine Ve ?_
      refine Vd ?_
      refine Va (Vk rfl) rfl ?_
      refine Va (Zf rfl rfl rfl) rfl ?_
      refine Va (Xv rfl) rfl ?_
      refine Ve ?_
      obtain rfl := Wd hF
      refine And.intro rfl (And.intro (Eq.trans hls4_0 List.length_set.symm) ?_)
      exact Vp ⟨rfl, rfl, rfl, rfl, rfl, trivial⟩
   ·have hF := Yr c6 hF
    refine Zd ?_
    obtain rfl := Wd hF
    refine And.intro rfl (And.intro hls4_0 ?_)
    exact Vm (Vl hn) [] (by decide) trivial trivial
  ·rintro _ _ _ _ ⟨rfl, hl51, hw⟩
   refine ⟨_, _, _, hw, ?_⟩
   obtain rfl := Wd hF
   refine And.intro (.inl rfl) (And.intro hl51 (And.intro hm3 (And.intro hm4 ?_)))
   exact Vp trivial
 ·rintro _ _ _ _ ⟨he, hl1, hl2, hl3, hw⟩
  refine ⟨_, _, _, hw, ?_⟩
  exact Zc he [] trivial ((lt_tup trivial)) ⟨rfl, (List.append_nil _).symm⟩

theorem F_draw_Codes_fit_len {p0 : T_draw_Codes} {p1 : T_Air} {p2 : T_Setting} {p3 : T_State} {r : T_draw_Codes × T_Air} (hF : F_draw_Codes_fit p0 p1 p2 p3 = some r) {m2 : Nat} (hm2 : m2 = (p1.Mine.Roads).length) {m3 : Nat} (hm3 : m3 = (p1.Fans).length) {m4 : Nat} (hm4 : m4 = (p1.Doors).length) : m2 = (r.2.Mine.Roads).length ∧ m3 = (r.2.Fans).length ∧ m4 = (r.2.Doors).length ∧ True := by
  have h : LP (F_draw_Codes_fit p0 p1 p2 p3) (fun r => m2 = (r.2.Mine.Roads).length ∧ m3 = (r.2.Fans).length ∧ m4 = (r.2.Doors).length ∧ True) := by
    unfold F_draw_Codes_fit
    exact (lp_bind (Q := fun o5 => m2 = (o5.2).length ∧ True) (lp_loop (fun s4 => m2 = (s4.2.2).length ∧ True) ⟨hm2, trivial⟩ (fun s4 ⟨hls4_0, _⟩ => by unfold F_draw_Codes_fit_L1; exact (lp_bif (fun c6 => Yj fun x7 h8 => Yj fun x9 h10 => Yj fun x11 h12 => lp_bind (Q := fun o14 => True) (lp_loop (fun s13 => True) trivial (fun s13 _ => by unfold F_draw_Codes_fit_L2; exact (lp_bif (fun c15 => lp_bind (Q := fun o16 => True) (Yj fun x17 h18 => lp_bif (fun c19 => Yj fun x20 h21 => Yj fun x22 h23 => Yj fun x24 h25 => Za trivial) (fun c19 => Za trivial)) (fun o16 _ => Za trivial)) (fun c15 => Za trivial)))) (fun o14 _ => Yj fun x26 h27 => Yj fun x28 h29 => Yj fun x30 h31 => lp_bind (Q := fun o33 => True) (lp_loop (fun s32 => True) trivial (fun s32 _ => by unfold F_draw_Codes_fit_L3; exact (lp_bif (fun c34 => lp_bind (Q := fun o35 => True) (Yj fun x36 h37 => lp_bif (fun c38 => Yj fun x39 h40 => Yj fun x41 h42 => Yj fun x43 h44 => Za trivial) (fun c38 => Za trivial)) (fun o35 _ => Za trivial)) (fun c34 => Za trivial)))) (fun o33 _ => Yj fun x45 h46 => Yj fun x47 h48 => Yj fun x49 h50 => Za ⟨(Eq.trans hls4_0 List.length_set.symm), trivial⟩))) (fun c6 => Za ⟨hls4_0, trivial⟩)))) (fun o5 ⟨hl51, _⟩ => Za ⟨hl51, hm3, hm4, trivial⟩))
  exact h r hF

theorem F_draw_Codes_fit_ok {p0 : T_draw_Codes} {p1 : T_Air} {p2 : T_Setting} {p3 : T_State} {r : T_draw_Codes × T_Air} (hF : F_draw_Codes_fit p0 p1 p2 p3 = some r) {low : List AObj} {q0 q1 q2 q3 q4 w0 w1 w2 w3 w4 : Nat} (hnd : [q0, q1, q2, q3, q4].Nodup) {m2 : Nat} (hm2 : m2 = (p1.Mine.Roads).length) {m3 : Nat} (hm3 : m3 = (p1.Fans).length) {m4 : Nat} (hm4 : m4 = (p1.Doors).length) (hq0 : low[q0]? = some ⟨88, 2, [.agg [.vs 1 (Wa (Wb .u8) p0.l), .int .i64 p0.at_]], w0⟩) (hq1 : low[q1]? = some ⟨31, 4, [.agg [.vs 2 (Wa T_Place.enc p1.Mine.Places), .sl q2 w2 0 m2, .sl q3 w3 0 m3, .sl q4 w4 0 m4]], w1⟩) (hq2 : low[q2]? = some ⟨46, 10, Wa T_Road.enc p1.Mine.Roads, w2⟩) (hq3 : low[q3]? = some ⟨72, 4, Wa T_Fan.enc p1.Fans, w3⟩) (hq4 : low[q4]? = some ⟨99, 3, Wa T_Door.enc p1.Doors, w4⟩) {n : Nat} (hn : low.length = n) :
    Zh Try.prog 39 [.ptr q0 w0 0 0, .ptr q1 w1 0 0, .agg [.vs 1 (Wa (Wb .i64) p2.Fans), .vs 1 (Wa (Wb .i64) p2.Doors)], .agg [.vs 1 (Wa (Wb .i64) p3.Pressures), .vs 1 (Wa (Wb .i64) p3.Flows)]] low fun x low' => x = .tup [] ∧ low' = setL low [(q0, ⟨88, 2, [.agg [.vs 1 (Wa (Wb .u8) r.1.l), .int .i64 r.1.at_]], w0⟩), (q1, ⟨31, 4, [.agg [.vs 2 (Wa T_Place.enc r.2.Mine.Places), .sl q2 w2 0 m2, .sl q3 w3 0 m3, .sl q4 w4 0 m4]], w1⟩), (q2, ⟨46, 10, Wa T_Road.enc r.2.Mine.Roads, w2⟩), (q3, ⟨72, 4, Wa T_Fan.enc r.2.Fans, w3⟩), (q4, ⟨99, 3, Wa T_Door.enc r.2.Doors, w4⟩)] ++ [] := by
  obtain ⟨h1, h2⟩ := bor_start (ps := [(q0, ⟨88, 2, [.agg [.vs 1 (Wa (Wb .u8) p0.l), .int .i64 p0.at_]], w0⟩), (q1, ⟨31, 4, [.agg [.vs 2 (Wa T_Place.enc p1.Mine.Places), .sl q2 w2 0 m2, .sl q3 w3 0 m3, .sl q4 w4 0 m4]], w1⟩), (q2, ⟨46, 10, Wa T_Road.enc p1.Mine.Roads, w2⟩), (q3, ⟨72, 4, Wa T_Fan.enc p1.Fans, w3⟩), (q4, ⟨99, 3, Wa T_Door.enc p1.Doors, w4⟩)]) hnd (borC hq0 (borC hq1 (borC hq2 (borC hq3 (borC hq4 bor0)))))
  exact Zz h1 (F_draw_Codes_fit_ok0 hF h2 hm2 hm3 hm4 hn)

theorem F_draw_Codes_doubts_ok0 {p0 : T_draw_Codes} {p1 : T_Air} {p2 : T_Setting} {r : T_draw_Codes × T_Setting} (hF : F_draw_Codes_doubts p0 p1 p2 = some r) {low0 : List AObj} {q0 w0 : Nat} (hB : Bor low0 [q0]) {n : Nat} (hn : low0.length = n) :
    Zh Try.prog 40 [.ptr q0 w0 0 0, .agg [.vs 2 (Wa T_Place.enc p1.Mine.Places), .vs 10 (Wa T_Road.enc p1.Mine.Roads), .vs 4 (Wa T_Fan.enc p1.Fans), .vs 3 (Wa T_Door.enc p1.Doors)], .agg [.vs 1 (Wa (Wb .i64) p2.Fans), .vs 1 (Wa (Wb .i64) p2.Doors)]] (setL low0 [(q0, ⟨88, 2, [.agg [.vs 1 (Wa (Wb .u8) p0.l), .int .i64 p0.at_]], w0⟩)]) fun x low' => x = .agg [.sl (n + 0) 0 0 (r.2.Fans).length, .sl (n + 1) 0 0 (r.2.Doors).length] ∧ low' = setL low0 [(q0, ⟨88, 2, [.agg [.vs 1 (Wa (Wb .u8) r.1.l), .int .i64 r.1.at_]], w0⟩)] ++ [⟨3, 1, Wa (Wb .i64) r.2.Fans, 0⟩, ⟨3, 1, Wa (Wb .i64) r.2.Doors, 0⟩] := by
 refine Xr (nt := 53) (rs := [.cell 6 62]) Try.func40 rfl rfl (We rfl) rfl ?_
 have hq0 : q0 < n := hB.ltN hn 0 rfl
 refine Vs (Q' := FnE (fun E' lw lc => Xz E' lw lc [(6, .ptr (n + 2) 0 0 0)] (setL low0 [(q0, ⟨88, 2, [.agg [.vs 1 (Wa (Wb .u8) r.1.l), .int .i64 r.1.at_]], w0⟩)]) [⟨3, 1, Wa (Wb .i64) r.2.Fans, 0⟩, ⟨3, 1, Wa (Wb .i64) r.2.Doors, 0⟩, ⟨62, 2, [.agg [.sl (n + 0) 0 0 (r.2.Fans).length, .sl (n + 1) 0 0 (r.2.Doors).length]], 0⟩])) ?_ ?_
 ·unfold F_draw_Codes_doubts at hF
  refine Vf ?_
  refine Vd ?_
  refine Vi (Zx (Vl hn) rfl (v := .agg [.vs 2 (Wa T_Place.enc p1.Mine.Places), .vs 10 (Wa T_Road.enc p1.Mine.Roads), .vs 4 (Wa T_Fan.enc p1.Fans), .vs 3 (Wa T_Door.enc p1.Doors)]) rfl rfl (Wf _) rfl rfl) rfl ?_
  refine Vi (Zx (Vl hn) rfl (v := .agg [.vs 1 (Wa (Wb .i64) p2.Fans), .vs 1 (Wa (Wb .i64) p2.Doors)]) rfl rfl (Wf _) rfl rfl) rfl ?_
  refine Vi (Xm (Vl hn) rfl tz_62 rfl rfl (Wf _) rfl) rfl ?_
  refine Ve ?_
  refine Vf ?_
  refine Vd ?_
  refine Vi (Xm (Vl hn) rfl tz_62 rfl rfl (Wf _) rfl) rfl ?_
  refine Ve ?_
  refine Vf ?_
  refine Vf ?_
  refine Vd ?_
  refine Va (Xv rfl) rfl ?_
  refine Ve ?_
  refine Xh ?_
  obtain ⟨o2, ho2, hF⟩ := Yf hF
  refine Vs (Yy (F_draw_Codes_doubts_L1 p2) (fun s1 E' lw lc => Xz E' lw lc [(0, .ptr q0 w0 0 0), (5, .ptr (n + 0) 0 0 0), (6, .ptr (n + 1) 0 0 0), (7, .ptr (n + 2) 0 0 0), (8, .int .i64 s1.1)] (setL low0 [(q0, ⟨88, 2, [.agg [.vs 1 (Wa (Wb .u8) s1.2.2.l), .int .i64 s1.2.2.at_]], w0⟩)]) [⟨62, 2, [.agg [.vs 1 (Wa (Wb .i64) p2.Fans), .vs 1 (Wa (Wb .i64) p2.Doors)]], 0⟩, ⟨62, 2, [.agg [.nils, .nils]], 0⟩, ⟨62, 2, [.agg [.sl (n + 3) 0 0 (s1.2.1).length, .nils]], 0⟩, ⟨3, 1, Wa (Wb .i64) s1.2.1, 0⟩]) (fun o2 => OnlyE (.exit 0) (fun E' lw lc => Xz E' lw lc [(0, .ptr q0 w0 0 0), (5, .ptr (n + 0) 0 0 0), (6, .ptr (n + 1) 0 0 0), (7, .ptr (n + 2) 0 0 0)] (setL low0 [(q0, ⟨88, 2, [.agg [.vs 1 (Wa (Wb .u8) o2.2.l), .int .i64 o2.2.at_]], w0⟩)]) [⟨62, 2, [.agg [.vs 1 (Wa (Wb .i64) p2.Fans), .vs 1 (Wa (Wb .i64) p2.Doors)]], 0⟩, ⟨62, 2, [.agg [.nils, .nils]], 0⟩, ⟨62, 2, [.agg [.sl (n + 3) 0 0 (o2.1).length, .nils]], 0⟩, ⟨3, 1, Wa (Wb .i64) o2.1, 0⟩])) ho2 ?_ (by rintro _ _ _ _ ⟨h, _⟩ <;> cases h) ?_) ?_
  ·refine Weak.trans (weak_nil (E' := [(0, .ptr q0 w0 0 0), (5, .ptr (n + 1) 0 0 0), (6, .ptr (n + 2) 0 0 0), (7, .ptr (n + 3) 0 0 0), (8, .int .i64 0)]) (loc1 := [⟨31, 4, [.agg [.vs 2 (Wa T_Place.enc p1.Mine.Places), .vs 10 (Wa T_Road.enc p1.Mine.Roads), .vs 4 (Wa T_Fan.enc p1.Fans), .vs 3 (Wa T_Door.enc p1.Doors)]], 0⟩, ⟨62, 2, [.agg [.vs 1 (Wa (Wb .i64) p2.Fans), .vs 1 (Wa (Wb .i64) p2.Doors)]], 0⟩, ⟨62, 2, [.agg [.nils, .nils]], 0⟩, ⟨62, 2, [.agg [.sl (n + 4) 0 0 (([] : List Int)).length, .nils]], 0⟩]) (Vl hn) rfl 3 1 (Wf _) ⟨Xb rfl, Xb rfl, Xb rfl, Xb rfl, Xb rfl, trivial⟩ ⟨.same _, .same _, .same _, .agg _ _ _ _ _ ⟨nn_nil rfl, Xb rfl, trivial⟩, trivial⟩) ?_
   exact Vm (Vl hn) [(1, 0), (2, 0), (3, 0), (4, 0)] (by decide) ⟨Vh rfl (.ptr _ _ _ _ hq0), Vt 0 1 rfl rfl, Vt 1 2 rfl rfl, Vt 2 3 rfl rfl, Vh rfl (.int _ _), trivial⟩ ⟨⟨_, rfl, rfl, .same _ _ _ _ (Vn ⟨Vo ⟨.vs _ _, .vs _ _, trivial⟩, trivial⟩)⟩, ⟨_, rfl, rfl, .same _ _ _ _ (Vn ⟨Vo ⟨.nils, .nils, trivial⟩, trivial⟩)⟩, ⟨_, rfl, rfl, .agg _ _ _ _ _ ⟨Yc 3 4 rfl rfl, Vh rfl (.nils), trivial⟩⟩, ⟨_, rfl, rfl, .same _ _ _ _ (Vn trivial)⟩, trivial⟩
  ·rintro s1 os1 _ _ _ hF hw
   unfold F_draw_Codes_doubts_L1 at hF
   refine Yl hw ?_
   refine Vf ?_
   refine Vf ?_
   refine Vd ?_
   refine Va (Vk rfl) rfl ?_
   refine Va (Vb rfl tf_62_0 ts_32 (by decide)) rfl ?_
   refine Va (Vj rfl (Vg (Vl hn) rfl) rfl ta_32 rfl) rfl ?_
   refine Va (Xo (Yu rfl rfl te_32) (congrArg (fun n : Nat => Wb .i64 (n : Int)) (Wh _))) rfl ?_
   refine Va (Yz rfl rfl) rfl ?_
   refine Ve ?_
   refine Xi rfl (fun c3 => ?_) (fun c3 => ?_)
   ·have hF := Yq c3 hF
    refine Xj ?_
    refine Vf ?_
    refine Xh ?_
    refine Vf ?_
    refine Vd ?_
    obtain ⟨x4, h5, hF⟩ := Yf hF
    refine Va (Vb rfl tf_62_0 ts_32 (by decide)) rfl ?_
    refine Va (Vj rfl (Vg (Vl hn) rfl) rfl ta_32 rfl) rfl ?_
    refine Va (Vk rfl) rfl ?_
    refine Va (Xo (Xu rfl rfl h5 te_32 ts_3) (v' := .vptr [.int .i64 x4] 0) rfl) rfl ?_
    refine Va (Xe rfl ta_3 rfl) rfl ?_
    refine Va (Xv rfl) rfl ?_
    refine Ve ?_
    refine Vf ?_
    refine Vf ?_
    refine Vd ?_
    obtain ⟨x6, h7, hF⟩ := Yf hF
    refine Va (Xg rfl) rfl ?_
    refine Vi (Vz (ps := [(q0, ⟨88, 2, [.agg [.vs 1 (Wa (Wb .u8) x6.1.l), .int .i64 x6.1.at_]], w0⟩)]) (r := .bool x6.2) (os := []) (low1 := (setL low0 [(q0, ⟨88, 2, [.agg [.vs 1 (Wa (Wb .u8) x6.1.l), .int .i64 x6.1.at_]], w0⟩)])) (loc1 := [⟨62, 2, [.agg [.vs 1 (Wa (Wb .i64) p2.Fans), .vs 1 (Wa (Wb .i64) p2.Doors)]], 0⟩, ⟨62, 2, [.agg [.nils, .nils]], 0⟩, ⟨62, 2, [.agg [.sl (n + 3) 0 0 (s1.2.1).length, .nils]], 0⟩, ⟨3, 1, Wa (Wb .i64) s1.2.1, 0⟩]) (loc2 := [⟨62, 2, [.agg [.vs 1 (Wa (Wb .i64) p2.Fans), .vs 1 (Wa (Wb .i64) p2.Doors)]], 0⟩, ⟨62, 2, [.agg [.nils, .nils]], 0⟩, ⟨62, 2, [.agg [.sl (n + 3) 0 0 (s1.2.1).length, .nils]], 0⟩, ⟨3, 1, Wa (Wb .i64) s1.2.1, 0⟩]) rfl Try.call25 (F_draw_Codes_One_ok h7 (nd1 na0 nd0) (Zb hB rfl 0 rfl) (Xs (Vl hn) rfl)) (Yk (ps0' := [(q0, ⟨88, 2, [.agg [.vs 1 (Wa (Wb .u8) x6.1.l), .int .i64 x6.1.at_]], w0⟩)]) hB rfl 0 rfl (Yo hn ⟨Vo ⟨.vs _ _, .int _ _, trivial⟩, trivial⟩) rfl Xf) rfl) rfl ?_
    refine Ve ?_
    obtain ⟨o8, ho8, hF⟩ := Yf hF
    refine Vs (Q' := (fun o8 => OnlyE .normal (fun E' lw lc => Xz E' lw lc [(0, .ptr q0 w0 0 0), (5, .ptr (n + 0) 0 0 0), (6, .ptr (n + 1) 0 0 0), (7, .ptr (n + 2) 0 0 0), (8, .int .i64 s1.1), (9, .int .i64 o8)] (setL low0 [(q0, ⟨88, 2, [.agg [.vs 1 (Wa (Wb .u8) x6.1.l), .int .i64 x6.1.at_]], w0⟩)]) [⟨62, 2, [.agg [.vs 1 (Wa (Wb .i64) p2.Fans), .vs 1 (Wa (Wb .i64) p2.Doors)]], 0⟩, ⟨62, 2, [.agg [.nils, .nils]], 0⟩, ⟨62, 2, [.agg [.sl (n + 3) 0 0 (s1.2.1).length, .nils]], 0⟩, ⟨3, 1, Wa (Wb .i64) s1.2.1, 0⟩])) o8) ?_ ?_
    ·replace hF := ho8
     refine Xi rfl (fun c9 => ?_) (fun c9 => ?_)
     ·have hF := Yq c9 hF
      refine Vd ?_
      refine Va (Xv rfl) rfl ?_
      refine Ve ?_
      obtain rfl := Wd hF
      refine Xk ?_
      exact Vp ⟨rfl, rfl, rfl, rfl, rfl, rfl, trivial⟩
     ·have hF := Yr c9 hF
      refine Xj ?_
      obtain rfl := Wd hF
      refine Xk ?_
      exact Vp ⟨rfl, rfl, rfl, rfl, rfl, rfl, trivial⟩
    ·rintro _ _ _ _ ⟨rfl, hw⟩
     refine ⟨_, _, _, hw, ?_⟩
     refine Vd ?_
     obtain ⟨x10, h11, hF⟩ := Yf hF
     refine Va (Vb rfl tf_62_0 ts_32 (by decide)) rfl ?_
     refine Va (Vj rfl (Vg (Vl hn) rfl) rfl ta_32 rfl) rfl ?_
     refine Va (Vk rfl) rfl ?_
     refine Vi (Yt (es := Wa (Wb .i64) [o8]) ⟨rfl, rfl, trivial⟩ rfl rfl (Zm rfl) te_32 ts_3 tz_3 rfl rfl (Wf _) (by decide) (Ym (fun _ => .int _ _))) rfl ?_
     refine Vi (Zw (f := (Wb .i64)) (l := s1.2.1) (ys := [o8]) rfl rfl (Vg (Vl hn) rfl) rfl (src_vs rfl) te_32 ts_3 tb_3 (by decide) tz_3 rfl h11 (Xn (Vl hn) rfl)) rfl ?_
     refine Va (Vb rfl tf_62_0 ts_32 (by decide)) rfl ?_
     refine Vi (Vw (p := .sl (n + 3) (0 + 1) 0 (x10).length) (e' := .agg [.sl (n + 3) (0 + 1) 0 (x10).length, .nils]) rfl (Vg (Vl hn) rfl) rfl rfl ts_32 rfl (Yg rfl) rfl (We rfl) rfl (Xn (Vl hn) rfl)) rfl ?_
     refine Ve ?_
     refine Vd ?_
     refine Va (Vk rfl) rfl ?_
     refine Va (Zf rfl rfl rfl) rfl ?_
     refine Va (Xv rfl) rfl ?_
     refine Ve ?_
     obtain rfl := Wd hF
     refine Xk ?_
     exact Vm (Vl hn) [(0, 0), (1, 0), (2, 0), (3, 0 + 1)] (by decide) ⟨Vh rfl (.ptr _ _ _ _ hq0), Vt 0 0 rfl rfl, Vt 1 1 rfl rfl, Vt 2 2 rfl rfl, Vh rfl (.int _ _), trivial⟩ ⟨⟨_, rfl, rfl, .same _ _ _ _ (Vn ⟨Vo ⟨.vs _ _, .vs _ _, trivial⟩, trivial⟩)⟩, ⟨_, rfl, rfl, .same _ _ _ _ (Vn ⟨Vo ⟨.nils, .nils, trivial⟩, trivial⟩)⟩, ⟨_, rfl, rfl, .agg _ _ _ _ _ ⟨Yc 3 3 rfl rfl, Vh rfl (.nils), trivial⟩⟩, ⟨_, rfl, rfl, .same _ _ _ _ (Vq (fun _ => .int _ _))⟩, trivial⟩
   ·have hF := Yr c3 hF
    refine Zd ?_
    obtain rfl := Wd hF
    refine Xk ?_
    exact Vp ⟨rfl, rfl, rfl, rfl, trivial⟩
  ·rintro _ _ _ _ ⟨rfl, hw⟩
   refine ⟨_, _, _, hw, ?_⟩
   refine Vf ?_
   refine Vf ?_
   refine Vd ?_
   refine Va (Xv rfl) rfl ?_
   refine Ve ?_
   refine Xh ?_
   obtain ⟨o13, ho13, hF⟩ := Yf hF
   refine Vs (Yy (F_draw_Codes_doubts_L2 p2) (fun s12 E' lw lc => Xz E' lw lc [(0, .ptr q0 w0 0 0), (5, .ptr (n + 0) 0 0 0), (6, .ptr (n + 1) 0 0 0), (7, .ptr (n + 2) 0 0 0), (10, .int .i64 s12.1)] (setL low0 [(q0, ⟨88, 2, [.agg [.vs 1 (Wa (Wb .u8) s12.2.2.l), .int .i64 s12.2.2.at_]], w0⟩)]) [⟨62, 2, [.agg [.vs 1 (Wa (Wb .i64) p2.Fans), .vs 1 (Wa (Wb .i64) p2.Doors)]], 0⟩, ⟨62, 2, [.agg [.nils, .nils]], 0⟩, ⟨62, 2, [.agg [.sl (n + 3) 0 0 (s12.2.1.Fans).length, .sl (n + 4) 0 0 (s12.2.1.Doors).length]], 0⟩, ⟨3, 1, Wa (Wb .i64) s12.2.1.Fans, 0⟩, ⟨3, 1, Wa (Wb .i64) s12.2.1.Doors, 0⟩]) (fun o13 => OnlyE (.exit 2) (fun E' lw lc => Xz E' lw lc [(6, .ptr (n + 0) 0 0 0), (7, .ptr (n + 1) 0 0 0)] (setL low0 [(q0, ⟨88, 2, [.agg [.vs 1 (Wa (Wb .u8) o13.2.l), .int .i64 o13.2.at_]], w0⟩)]) [⟨62, 2, [.agg [.nils, .nils]], 0⟩, ⟨62, 2, [.agg [.sl (n + 2) 0 0 (o13.1.Fans).length, .sl (n + 3) 0 0 (o13.1.Doors).length]], 0⟩, ⟨3, 1, Wa (Wb .i64) o13.1.Fans, 0⟩, ⟨3, 1, Wa (Wb .i64) o13.1.Doors, 0⟩])) ho13 ?_ (by rintro _ _ _ _ ⟨h, _⟩ <;> cases h) ?_) ?_
   ·refine Weak.trans (weak_nil (E' := [(0, .ptr q0 w0 0 0), (5, .ptr (n + 0) 0 0 0), (6, .ptr (n + 1) 0 0 0), (7, .ptr (n + 2) 0 0 0), (10, .int .i64 0)]) (loc1 := [⟨62, 2, [.agg [.vs 1 (Wa (Wb .i64) p2.Fans), .vs 1 (Wa (Wb .i64) p2.Doors)]], 0⟩, ⟨62, 2, [.agg [.nils, .nils]], 0⟩, ⟨62, 2, [.agg [.sl (n + 3) 0 0 (o2.1).length, .sl (n + 4) 0 0 (([] : List Int)).length]], 0⟩, ⟨3, 1, Wa (Wb .i64) o2.1, 0⟩]) (Vl hn) rfl 3 1 (Wf _) ⟨Xb rfl, Xb rfl, Xb rfl, Xb rfl, Xb rfl, trivial⟩ ⟨.same _, .same _, .agg _ _ _ _ _ ⟨Xb rfl, nn_nil rfl, trivial⟩, .same _, trivial⟩) ?_
    exact Vp ⟨rfl, rfl, rfl, rfl, rfl, trivial⟩
   ·rintro s12 os12 _ _ _ hF hw
    unfold F_draw_Codes_doubts_L2 at hF
    refine Yl hw ?_
    refine Vf ?_
    refine Vf ?_
    refine Vd ?_
    refine Va (Vk rfl) rfl ?_
    refine Va (Vb rfl tf_62_1 ts_32 (by decide)) rfl ?_
    refine Va (Vj rfl (Vg (Vl hn) rfl) rfl ta_32 rfl) rfl ?_
    refine Va (Xo (Yu rfl rfl te_32) (congrArg (fun n : Nat => Wb .i64 (n : Int)) (Wh _))) rfl ?_
    refine Va (Yz rfl rfl) rfl ?_
    refine Ve ?_
    refine Xi rfl (fun c14 => ?_) (fun c14 => ?_)
    ·have hF := Yq c14 hF
     refine Xj ?_
     refine Vf ?_
     refine Xh ?_
     refine Vf ?_
     refine Vd ?_
     obtain ⟨x15, h16, hF⟩ := Yf hF
     refine Va (Vb rfl tf_62_1 ts_32 (by decide)) rfl ?_
     refine Va (Vj rfl (Vg (Vl hn) rfl) rfl ta_32 rfl) rfl ?_
     refine Va (Vk rfl) rfl ?_
     refine Va (Xo (Xu rfl rfl h16 te_32 ts_3) (v' := .vptr [.int .i64 x15] 0) rfl) rfl ?_
     refine Va (Xe rfl ta_3 rfl) rfl ?_
     refine Va (Xv rfl) rfl ?_
     refine Ve ?_
     refine Vf ?_
     refine Vf ?_
     refine Vd ?_
     obtain ⟨x17, h18, hF⟩ := Yf hF
     refine Va (Xg rfl) rfl ?_
     refine Vi (Vz (ps := [(q0, ⟨88, 2, [.agg [.vs 1 (Wa (Wb .u8) x17.1.l), .int .i64 x17.1.at_]], w0⟩)]) (r := .bool x17.2) (os := []) (low1 := (setL low0 [(q0, ⟨88, 2, [.agg [.vs 1 (Wa (Wb .u8) x17.1.l), .int .i64 x17.1.at_]], w0⟩)])) (loc1 := [⟨62, 2, [.agg [.vs 1 (Wa (Wb .i64) p2.Fans), .vs 1 (Wa (Wb .i64) p2.Doors)]], 0⟩, ⟨62, 2, [.agg [.nils, .nils]], 0⟩, ⟨62, 2, [.agg [.sl (n + 3) 0 0 (s12.2.1.Fans).length, .sl (n + 4) 0 0 (s12.2.1.Doors).length]], 0⟩, ⟨3, 1, Wa (Wb .i64) s12.2.1.Fans, 0⟩, ⟨3, 1, Wa (Wb .i64) s12.2.1.Doors, 0⟩]) (loc2 := [⟨62, 2, [.agg [.vs 1 (Wa (Wb .i64) p2.Fans), .vs 1 (Wa (Wb .i64) p2.Doors)]], 0⟩, ⟨62, 2, [.agg [.nils, .nils]], 0⟩, ⟨62, 2, [.agg [.sl (n + 3) 0 0 (s12.2.1.Fans).length, .sl (n + 4) 0 0 (s12.2.1.Doors).length]], 0⟩, ⟨3, 1, Wa (Wb .i64) s12.2.1.Fans, 0⟩, ⟨3, 1, Wa (Wb .i64) s12.2.1.Doors, 0⟩]) rfl Try.call25 (F_draw_Codes_One_ok h18 (nd1 na0 nd0) (Zb hB rfl 0 rfl) (Xs (Vl hn) rfl)) (Yk (ps0' := [(q0, ⟨88, 2, [.agg [.vs 1 (Wa (Wb .u8) x17.1.l), .int .i64 x17.1.at_]], w0⟩)]) hB rfl 0 rfl (Yo hn ⟨Vo ⟨.vs _ _, .int _ _, trivial⟩, trivial⟩) rfl Xf) rfl) rfl ?_
     refine Ve ?_
     obtain ⟨o19, ho19, hF⟩ := Yf hF
     refine Vs (Q' := (fun o19 => OnlyE .normal (fun E' lw lc => Xz E' lw lc [(0, .ptr q0 w0 0 0), (5, .ptr (n + 0) 0 0 0), (6, .ptr (n + 1) 0 0 0), (7, .ptr (n + 2) 0 0 0), (10, .int .i64 s12.1), (11, .int .i64 o19.1)] (setL low0 [(q0, ⟨88, 2, [.agg [.vs 1 (Wa (Wb .u8) x17.1.l), .int .i64 x17.1.at_]], w0⟩)]) [⟨62, 2, [.agg [.vs 1 (Wa (Wb .i64) p2.Fans), .vs 1 (Wa (Wb .i64) p2.Doors)]], 0⟩, ⟨62, 2, [.agg [.nils, .nils]], 0⟩, ⟨62, 2, [.agg [.sl (n + 3) 0 0 (o19.2.Fans).length, .sl (n + 4) 0 0 (o19.2.Doors).length]], 0⟩, ⟨3, 1, Wa (Wb .i64) o19.2.Fans, 0⟩, ⟨3, 1, Wa (Wb .i64) o19.2.Doors, 0⟩])) o19) ?_ ?_
     ·replace hF := ho19
      refine Xi rfl (fun c20 => ?_) (fun c20 => ?_)
      ·have hF := Yq c20 hF
       refine Vd ?_
       refine Va (Xv rfl) rfl ?_
       refine Ve ?_
       obtain rfl := Wd hF
       refine Xk ?_
       exact Vp ⟨rfl, rfl, rfl, rfl, rfl, rfl, trivial⟩
      ·have hF := Yr c20 hF
       refine Xj ?_
       obtain rfl := Wd hF
       refine Xk ?_
       exact Vp ⟨rfl, rfl, rfl, rfl, rfl, rfl, trivial⟩
     ·rintro _ _ _ _ ⟨rfl, hw⟩
      refine ⟨_, _, _, hw, ?_⟩
      refine Vd ?_
      obtain ⟨x21, h22, hF⟩ := Yf hF
      refine Va (Vb rfl tf_62_1 ts_32 (by decide)) rfl ?_
      refine Va (Vj rfl (Vg (Vl hn) rfl) rfl ta_32 rfl) rfl ?_
      refine Va (Vk rfl) rfl ?_
      refine Vi (Yt (es := Wa (Wb .i64) [o19.1]) ⟨rfl, rfl, trivial⟩ rfl rfl (Zm rfl) te_32 ts_3 tz_3 rfl rfl (Wf _) (by decide) (Ym (fun _ => .int _ _))) rfl ?_
      refine Vi (Zw (f := (Wb .i64)) (l := o19.2.Doors) (ys := [o19.1]) rfl rfl (Vg (Vl hn) rfl) rfl (src_vs rfl) te_32 ts_3 tb_3 (by decide) tz_3 rfl h22 (Xn (Vl hn) rfl)) rfl ?_
      refine Va (Vb rfl tf_62_1 ts_32 (by decide)) rfl ?_
      refine Vi (Vw (p := .sl (n + 4) (0 + 1) 0 (x21).length) (e' := .agg [.sl (n + 3) 0 0 (o19.2.Fans).length, .sl (n + 4) (0 + 1) 0 (x21).length]) rfl (Vg (Vl hn) rfl) rfl rfl ts_32 rfl (Yg rfl) rfl (We rfl) rfl (Xn (Vl hn) rfl)) rfl ?_
      refine Ve ?_
      refine Vd ?_
      refine Va (Vk rfl) rfl ?_
      refine Va (Zf rfl rfl rfl) rfl ?_
      refine Va (Xv rfl) rfl ?_
      refine Ve ?_
      obtain rfl := Wd hF
      refine Xk ?_
      exact Vm (Vl hn) [(0, 0), (1, 0), (2, 0), (3, 0), (4, 0 + 1)] (by decide) ⟨Vh rfl (.ptr _ _ _ _ hq0), Vt 0 0 rfl rfl, Vt 1 1 rfl rfl, Vt 2 2 rfl rfl, Vh rfl (.int _ _), trivial⟩ ⟨⟨_, rfl, rfl, .same _ _ _ _ (Vn ⟨Vo ⟨.vs _ _, .vs _ _, trivial⟩, trivial⟩)⟩, ⟨_, rfl, rfl, .same _ _ _ _ (Vn ⟨Vo ⟨.nils, .nils, trivial⟩, trivial⟩)⟩, ⟨_, rfl, rfl, .agg _ _ _ _ _ ⟨Yc 3 3 rfl rfl, Yc 4 4 rfl rfl, trivial⟩⟩, ⟨_, rfl, rfl, .same _ _ _ _ (Vq (fun _ => .int _ _))⟩, ⟨_, rfl, rfl, .same _ _ _ _ (Vq (fun _ => .int _ _))⟩, trivial⟩
    ·have hF := Yr c14 hF
     refine Zd ?_
     obtain rfl := Wd hF
     refine Xk ?_
     exact Vm (Vl hn) [(1, 0), (2, 0), (3, 0), (4, 0)] (by decide) ⟨Vt 0 1 rfl rfl, Vt 1 2 rfl rfl, trivial⟩ ⟨⟨_, rfl, rfl, .same _ _ _ _ (Vn ⟨Vo ⟨.nils, .nils, trivial⟩, trivial⟩)⟩, ⟨_, rfl, rfl, .agg _ _ _ _ _ ⟨Yc 2 3 rfl rfl, Yc 3 4 rfl rfl, trivial⟩⟩, ⟨_, rfl, rfl, .same _ _ _ _ (Vq (fun _ => .int _ _))⟩, ⟨_, rfl, rfl, .same _ _ _ _ (Vq (fun _ => .int _ _))⟩, trivial⟩
   ·rintro _ _ _ _ ⟨rfl, hw⟩
    refine ⟨_, _, _, hw, ?_⟩
    refine Vf ?_
    refine Vd ?_
    refine Va (Xa (ds := [.sl (n + 2) 0 0 (o13.1.Fans).length, .sl (n + 3) 0 0 (o13.1.Doors).length]) rfl (Vg (Vl hn) rfl) rfl ta_62 ts_62 rfl rfl rfl) rfl ?_
    refine Vi (Vw (p := .agg [.sl (n + 2) 0 0 (o13.1.Fans).length, .sl (n + 3) 0 0 (o13.1.Doors).length]) (e' := .agg [.sl (n + 2) 0 0 (o13.1.Fans).length, .sl (n + 3) 0 0 (o13.1.Doors).length]) rfl (Vg (Vl hn) rfl) rfl rfl ts_62 rfl (Yg rfl) rfl (We rfl) rfl (Xn (Vl hn) rfl)) rfl ?_
    refine Ve ?_
    refine Yb ?_
    obtain rfl := Wd hF
    refine fnR ?_
    exact Vm (Vl hn) [(2, 0), (3, 0), (0, 0)] (by decide) ⟨Vt 2 0 rfl rfl, trivial⟩ ⟨⟨_, rfl, rfl, .same _ _ _ _ (Vq (fun _ => .int _ _))⟩, ⟨_, rfl, rfl, .same _ _ _ _ (Vq (fun _ => .int _ _))⟩, ⟨_, rfl, rfl, .agg _ _ _ _ _ ⟨Yc 0 2 rfl rfl, Yc 1 3 rfl rfl, trivial⟩⟩, trivial⟩
 ·rintro _ _ _ _ ⟨he, hw⟩
  refine ⟨_, _, _, hw, ?_⟩
  exact bodyQ_some (Vl hn) 2 rfl (We rfl) he [.agg [.sl (n + 0) 0 0 (r.2.Fans).length, .sl (n + 1) 0 0 (r.2.Doors).length]] ⟨Xa rfl (Vg (Vl hn) rfl) rfl ta_62 ts_62 rfl rfl rfl, trivial⟩ ((Vo ⟨.sl _ _ _ _ (lt_kk rfl), .sl _ _ _ _ (lt_kk rfl), trivial⟩)) ⟨Vq (fun _ => .int _ _), Vq (fun _ => .int _ _), trivial⟩ ⟨rfl, rfl⟩

theorem F_draw_Codes_doubts_ok {p0 : T_draw_Codes} {p1 : T_Air} {p2 : T_Setting} {r : T_draw_Codes × T_Setting} (hF : F_draw_Codes_doubts p0 p1 p2 = some r) {low : List AObj} {q0 w0 : Nat} (hnd : [q0].Nodup) (hq0 : low[q0]? = some ⟨88, 2, [.agg [.vs 1 (Wa (Wb .u8) p0.l), .int .i64 p0.at_]], w0⟩) {n : Nat} (hn : low.length = n) :
    Zh Try.prog 40 [.ptr q0 w0 0 0, .agg [.vs 2 (Wa T_Place.enc p1.Mine.Places), .vs 10 (Wa T_Road.enc p1.Mine.Roads), .vs 4 (Wa T_Fan.enc p1.Fans), .vs 3 (Wa T_Door.enc p1.Doors)], .agg [.vs 1 (Wa (Wb .i64) p2.Fans), .vs 1 (Wa (Wb .i64) p2.Doors)]] low fun x low' => x = .agg [.sl (n + 0) 0 0 (r.2.Fans).length, .sl (n + 1) 0 0 (r.2.Doors).length] ∧ low' = setL low [(q0, ⟨88, 2, [.agg [.vs 1 (Wa (Wb .u8) r.1.l), .int .i64 r.1.at_]], w0⟩)] ++ [⟨3, 1, Wa (Wb .i64) r.2.Fans, 0⟩, ⟨3, 1, Wa (Wb .i64) r.2.Doors, 0⟩] := by
  obtain ⟨h1, h2⟩ := bor_start (ps := [(q0, ⟨88, 2, [.agg [.vs 1 (Wa (Wb .u8) p0.l), .int .i64 p0.at_]], w0⟩)]) hnd (borC hq0 bor0)
  exact Zz h1 (F_draw_Codes_doubts_ok0 hF h2 hn)

theorem F_draw_Codes_Made_ok0 {p0 : T_draw_Codes} {r : T_draw_Codes × T_Air × T_Setting × T_State} (hF : F_draw_Codes_Made p0 = some r) {low0 : List AObj} {q0 w0 : Nat} (hB : Bor low0 [q0]) {n : Nat} (hn : low0.length = n) :
    Zh Try.prog 24 [.ptr q0 w0 0 0] (setL low0 [(q0, ⟨88, 2, [.agg [.vs 1 (Wa (Wb .u8) p0.l), .int .i64 p0.at_]], w0⟩)]) fun x low' => x = .tup [.agg [.vs 2 (Wa T_Place.enc r.2.1.Mine.Places), .vs 10 (Wa T_Road.enc r.2.1.Mine.Roads), .vs 4 (Wa T_Fan.enc r.2.1.Fans), .vs 3 (Wa T_Door.enc r.2.1.Doors)], .agg [.vs 1 (Wa (Wb .i64) r.2.2.1.Fans), .vs 1 (Wa (Wb .i64) r.2.2.1.Doors)], .agg [.vs 1 (Wa (Wb .i64) r.2.2.2.Pressures), .vs 1 (Wa (Wb .i64) r.2.2.2.Flows)]] ∧ low' = setL low0 [(q0, ⟨88, 2, [.agg [.vs 1 (Wa (Wb .u8) r.1.l), .int .i64 r.1.at_]], w0⟩)] ++ [] := by
 refine Xr (nt := 189) (rs := [.cell 2 31, .cell 3 62, .cell 4 64]) Try.func24 rfl rfl (We rfl) rfl ?_
 have hq0 : q0 < n := hB.ltN hn 0 rfl
 refine Vs (Q' := FnE (fun E' lw lc => Xz E' lw lc [(2, .ptr (n + 0) 0 0 0), (3, .ptr (n + 1) 0 0 0), (4, .ptr (n + 2) 0 0 0)] (setL low0 [(q0, ⟨88, 2, [.agg [.vs 1 (Wa (Wb .u8) r.1.l), .int .i64 r.1.at_]], w0⟩)]) [⟨31, 4, [.agg [.vs 2 (Wa T_Place.enc r.2.1.Mine.Places), .vs 10 (Wa T_Road.enc r.2.1.Mine.Roads), .vs 4 (Wa T_Fan.enc r.2.1.Fans), .vs 3 (Wa T_Door.enc r.2.1.Doors)]], 0⟩, ⟨62, 2, [.agg [.vs 1 (Wa (Wb .i64) r.2.2.1.Fans), .vs 1 (Wa (Wb .i64) r.2.2.1.Doors)]], 0⟩, ⟨64, 2, [.agg [.vs 1 (Wa (Wb .i64) r.2.2.2.Pressures), .vs 1 (Wa (Wb .i64) r.2.2.2.Flows)]], 0⟩])) ?_ ?_
 ·unfold F_draw_Codes_Made at hF
  refine Vf ?_
  refine Vd ?_
  refine Vi (Xm (Vl hn) rfl tz_31 rfl rfl (Wf _) rfl) rfl ?_
  refine Vi (Xm (Vl hn) rfl tz_62 rfl rfl (Wf _) rfl) rfl ?_
  refine Vi (Xm (Vl hn) rfl tz_64 rfl rfl (Wf _) rfl) rfl ?_
  refine Ve ?_
  refine Vf ?_
  refine Vd ?_
  refine Va (Ye (vs := [(1, .bool true)]) (ds := [.int .i64 0, .bool true]) tz_48 rfl rfl tp_48 ⟨rfl, rfl, trivial⟩ (Yh rfl) rfl) rfl ?_
  refine Vi (vef_litN (Vl hn) rfl (es := Wa T_Place.enc [(T_Place.mk 0 true)]) ⟨rfl, rfl, trivial⟩ rfl rfl (Zm rfl) te_24 ts_48 tz_48 rfl rfl (Wf _) (by decide)) rfl ?_
  refine Va (Ye (vs := [(0, .sl (n + 3) 0 0 ([(T_Place.mk 0 true)]).length)]) (ds := [.sl (n + 3) 0 0 ([(T_Place.mk 0 true)]).length, .nils]) tz_27 rfl rfl tp_27 ⟨rfl, rfl, trivial⟩ (Yh rfl) rfl) rfl ?_
  refine Va (Ye (vs := [(0, .agg [.sl (n + 3) 0 0 ([(T_Place.mk 0 true)]).length, .nils])]) (ds := [.sl (n + 3) 0 0 ([(T_Place.mk 0 true)]).length, .nils, .nils, .nils]) tz_31 rfl rfl tp_31 ⟨rfl, rfl, trivial⟩ (Yh rfl) rfl) rfl ?_
  refine Vi (Xm (Vl hn) rfl tz_31 rfl rfl (Wf _) rfl) rfl ?_
  refine Vi (Vw (p := .agg [.sl (n + 3) 0 0 ([(T_Place.mk 0 true)]).length, .nils, .nils, .nils]) (e' := .agg [.sl (n + 3) 0 0 ([(T_Place.mk 0 true)]).length, .nils, .nils, .nils]) rfl (Vg (Vl hn) rfl) rfl rfl ts_31 rfl (Yg rfl) rfl (We rfl) rfl (Xn (Vl hn) rfl)) rfl ?_
  refine Ve ?_
  refine Vf ?_
  refine Vf ?_
  refine Vd ?_
  obtain ⟨x1, h2, hF⟩ := Yf hF
  refine Va (Xg rfl) rfl ?_
  refine Vi (Vz (ps := [(q0, ⟨88, 2, [.agg [.vs 1 (Wa (Wb .u8) x1.1.l), .int .i64 x1.1.at_]], w0⟩)]) (r := .bool x1.2) (os := []) (low1 := (setL low0 [(q0, ⟨88, 2, [.agg [.vs 1 (Wa (Wb .u8) x1.1.l), .int .i64 x1.1.at_]], w0⟩)])) (loc1 := [⟨31, 4, [.agg [.nils, .nils, .nils, .nils]], 0⟩, ⟨62, 2, [.agg [.nils, .nils]], 0⟩, ⟨64, 2, [.agg [.nils, .nils]], 0⟩, ⟨48, 2, Wa T_Place.enc [(T_Place.mk 0 true)], 0⟩, ⟨31, 4, [.agg [.sl (n + 3) 0 0 ([(T_Place.mk 0 true)]).length, .nils, .nils, .nils]], 0⟩]) (loc2 := [⟨31, 4, [.agg [.nils, .nils, .nils, .nils]], 0⟩, ⟨62, 2, [.agg [.nils, .nils]], 0⟩, ⟨64, 2, [.agg [.nils, .nils]], 0⟩, ⟨48, 2, Wa T_Place.enc [(T_Place.mk 0 true)], 0⟩, ⟨31, 4, [.agg [.sl (n + 3) 0 0 ([(T_Place.mk 0 true)]).length, .nils, .nils, .nils]], 0⟩]) rfl Try.call25 (F_draw_Codes_One_ok h2 (nd1 na0 nd0) (Zb hB rfl 0 rfl) (Xs (Vl hn) rfl)) (Yk (ps0' := [(q0, ⟨88, 2, [.agg [.vs 1 (Wa (Wb .u8) x1.1.l), .int .i64 x1.1.at_]], w0⟩)]) hB rfl 0 rfl (Yo hn ⟨Vo ⟨.vs _ _, .int _ _, trivial⟩, trivial⟩) rfl Xf) rfl) rfl ?_
  refine Ve ?_
  obtain ⟨o3, ho3, hF⟩ := Yf hF
  refine Vs (Q' := (fun o3 => OnlyE .normal (fun E' lw lc => Xz E' lw lc [(0, .ptr q0 w0 0 0), (2, .ptr (n + 0) 0 0 0), (3, .ptr (n + 1) 0 0 0), (4, .ptr (n + 2) 0 0 0), (5, .ptr (n + 3) 0 0 0)] (setL low0 [(q0, ⟨88, 2, [.agg [.vs 1 (Wa (Wb .u8) x1.1.l), .int .i64 x1.1.at_]], w0⟩)]) [⟨31, 4, [.agg [.nils, .nils, .nils, .nils]], 0⟩, ⟨62, 2, [.agg [.nils, .nils]], 0⟩, ⟨64, 2, [.agg [.nils, .nils]], 0⟩, ⟨31, 4, [.agg [.sl (n + 4) 0 0 (o3).length, .nils, .nils, .nils]], 0⟩, ⟨48, 2, Wa T_Place.enc o3, 0⟩])) o3) ?_ ?_
  ·replace hF := ho3
   refine Xi rfl (fun c4 => ?_) (fun c4 => ?_)
   ·have hF := Yq c4 hF
    refine Vd ?_
    obtain ⟨x5, h6, hF⟩ := Yf hF
    refine Va (Vb rfl tf_31_0 ts_27 (by decide)) rfl ?_
    refine Va (Vb rfl tf_27_0 ts_24 (by decide)) rfl ?_
    refine Va (Vj rfl (Vg (Vl hn) rfl) rfl ta_24 rfl) rfl ?_
    refine Va (Ye (vs := [(1, .bool true), (0, .int .i64 10)]) (ds := [.int .i64 10, .bool true]) tz_48 rfl rfl tp_48 ⟨rfl, rfl, rfl, rfl, trivial⟩ (Yh rfl) rfl) rfl ?_
    refine Vi (Yt (es := Wa T_Place.enc [(T_Place.mk 10 true)]) ⟨rfl, rfl, trivial⟩ rfl rfl (Zm rfl) te_24 ts_48 tz_48 rfl rfl (Wf _) (by decide) (Ym T_Place.enc_lt)) rfl ?_
    refine Vi (Zw (f := T_Place.enc) (l := [(T_Place.mk 0 true)]) (ys := [(T_Place.mk 10 true)]) rfl rfl (Vg (Vl hn) rfl) rfl (src_vs rfl) te_24 ts_48 tb_48 (by decide) tz_48 rfl h6 (Xn (Vl hn) rfl)) rfl ?_
    refine Va (Vb rfl tf_31_0 ts_27 (by decide)) rfl ?_
    refine Va (Vb rfl tf_27_0 ts_24 (by decide)) rfl ?_
    refine Vi (Vw (p := .sl (n + 3) (0 + 1) 0 (x5).length) (e' := .agg [.sl (n + 3) (0 + 1) 0 (x5).length, .nils, .nils, .nils]) rfl (Vg (Vl hn) rfl) rfl rfl ts_24 rfl (Yg rfl) rfl (We rfl) rfl (Xn (Vl hn) rfl)) rfl ?_
    refine Ve ?_
    obtain rfl := Wd hF
    refine Xk ?_
    exact Vm (Vl hn) [(0, 0), (1, 0), (2, 0), (4, 0), (3, 0 + 1)] (by decide) ⟨Vh rfl (.ptr _ _ _ _ hq0), Vt 0 0 rfl rfl, Vt 1 1 rfl rfl, Vt 2 2 rfl rfl, Vt 3 4 rfl rfl, trivial⟩ ⟨⟨_, rfl, rfl, .same _ _ _ _ (Vn ⟨Vo ⟨.nils, .nils, .nils, .nils, trivial⟩, trivial⟩)⟩, ⟨_, rfl, rfl, .same _ _ _ _ (Vn ⟨Vo ⟨.nils, .nils, trivial⟩, trivial⟩)⟩, ⟨_, rfl, rfl, .same _ _ _ _ (Vn ⟨Vo ⟨.nils, .nils, trivial⟩, trivial⟩)⟩, ⟨_, rfl, rfl, .agg _ _ _ _ _ ⟨Yc 4 3 rfl rfl, Vh rfl (.nils), Vh rfl (.nils), Vh rfl (.nils), trivial⟩⟩, ⟨_, rfl, rfl, .same _ _ _ _ (Vq T_Place.enc_lt)⟩, trivial⟩
   ·have hF := Yr c4 hF
    refine Xj ?_
    obtain rfl := Wd hF
    refine Xk ?_
    exact Vm (Vl hn) [(0, 0), (1, 0), (2, 0), (4, 0), (3, 0)] (by decide) ⟨Vh rfl (.ptr _ _ _ _ hq0), Vt 0 0 rfl rfl, Vt 1 1 rfl rfl, Vt 2 2 rfl rfl, Vt 3 4 rfl rfl, trivial⟩ ⟨⟨_, rfl, rfl, .same _ _ _ _ (Vn ⟨Vo ⟨.nils, .nils, .nils, .nils, trivial⟩, trivial⟩)⟩, ⟨_, rfl, rfl, .same _ _ _ _ (Vn ⟨Vo ⟨.nils, .nils, trivial⟩, trivial⟩)⟩, ⟨_, rfl, rfl, .same _ _ _ _ (Vn ⟨Vo ⟨.nils, .nils, trivial⟩, trivial⟩)⟩, ⟨_, rfl, rfl, .agg _ _ _ _ _ ⟨Yc 4 3 rfl rfl, Vh rfl (.nils), Vh rfl (.nils), Vh rfl (.nils), trivial⟩⟩, ⟨_, rfl, rfl, .same _ _ _ _ (Vq T_Place.enc_lt)⟩, trivial⟩
  ·rintro _ _ _ _ ⟨rfl, hw⟩
   refine ⟨_, _, _, hw, ?_⟩
   refine Vf ?_
   refine Vd ?_
   refine Va (Vb rfl tf_31_0 ts_27 (by decide)) rfl ?_
   refine Va (Vb rfl tf_27_0 ts_24 (by decide)) rfl ?_
   refine Va (Vj rfl (Vg (Vl hn) rfl) rfl ta_24 rfl) rfl ?_
   refine Va (rd_lenS rfl (Vg (Vl hn) rfl) rfl rfl te_24) rfl ?_
   refine Va (Xv rfl) rfl ?_
   refine Ve ?_
   refine Vf ?_
   refine Vf ?_
   refine Vd ?_
   obtain ⟨x7, h8, hF⟩ := Yf hF
   refine Va (Xg rfl) rfl ?_
   refine Vi (Vz (ps := [(q0, ⟨88, 2, [.agg [.vs 1 (Wa (Wb .u8) x7.1.l), .int .i64 x7.1.at_]], w0⟩)]) (r := .int .i64 x7.2) (os := []) (low1 := (setL low0 [(q0, ⟨88, 2, [.agg [.vs 1 (Wa (Wb .u8) x7.1.l), .int .i64 x7.1.at_]], w0⟩)])) (loc1 := [⟨31, 4, [.agg [.nils, .nils, .nils, .nils]], 0⟩, ⟨62, 2, [.agg [.nils, .nils]], 0⟩, ⟨64, 2, [.agg [.nils, .nils]], 0⟩, ⟨31, 4, [.agg [.sl (n + 4) 0 0 (o3).length, .nils, .nils, .nils]], 0⟩, ⟨48, 2, Wa T_Place.enc o3, 0⟩]) (loc2 := [⟨31, 4, [.agg [.nils, .nils, .nils, .nils]], 0⟩, ⟨62, 2, [.agg [.nils, .nils]], 0⟩, ⟨64, 2, [.agg [.nils, .nils]], 0⟩, ⟨31, 4, [.agg [.sl (n + 4) 0 0 (o3).length, .nils, .nils, .nils]], 0⟩, ⟨48, 2, Wa T_Place.enc o3, 0⟩]) rfl Try.call27 (F_draw_Codes_Next_ok h8 (nd1 na0 nd0) (Zb hB rfl 0 rfl) (Xs (Vl hn) rfl)) (Yk (ps0' := [(q0, ⟨88, 2, [.agg [.vs 1 (Wa (Wb .u8) x7.1.l), .int .i64 x7.1.at_]], w0⟩)]) hB rfl 0 rfl (Yo hn ⟨Vo ⟨.vs _ _, .int _ _, trivial⟩, trivial⟩) rfl Xf) rfl) rfl ?_
   refine Va (Xv rfl) rfl ?_
   refine Ve ?_
   refine Xh ?_
   obtain ⟨o10, ho10, hF⟩ := Yf hF
   refine Vs (Yy F_draw_Codes_Made_L1 (fun s9 E' lw lc => Xz E' lw lc [(0, .ptr q0 w0 0 0), (2, .ptr (n + 0) 0 0 0), (3, .ptr (n + 1) 0 0 0), (4, .ptr (n + 2) 0 0 0), (5, .ptr (n + 3) 0 0 0), (6, .int .i64 ((o3).length : Int)), (7, .int .i64 s9.1)] (setL low0 [(q0, ⟨88, 2, [.agg [.vs 1 (Wa (Wb .u8) s9.2.2.l), .int .i64 s9.2.2.at_]], w0⟩)]) [⟨31, 4, [.agg [.nils, .nils, .nils, .nils]], 0⟩, ⟨62, 2, [.agg [.nils, .nils]], 0⟩, ⟨64, 2, [.agg [.nils, .nils]], 0⟩, ⟨31, 4, [.agg [.sl (n + 4) 0 0 (s9.2.1).length, .nils, .nils, .nils]], 0⟩, ⟨48, 2, Wa T_Place.enc s9.2.1, 0⟩]) (fun o10 => OnlyE (.exit 0) (fun E' lw lc => Xz E' lw lc [(0, .ptr q0 w0 0 0), (2, .ptr (n + 0) 0 0 0), (3, .ptr (n + 1) 0 0 0), (4, .ptr (n + 2) 0 0 0), (5, .ptr (n + 3) 0 0 0), (6, .int .i64 ((o3).length : Int))] (setL low0 [(q0, ⟨88, 2, [.agg [.vs 1 (Wa (Wb .u8) o10.2.l), .int .i64 o10.2.at_]], w0⟩)]) [⟨31, 4, [.agg [.nils, .nils, .nils, .nils]], 0⟩, ⟨62, 2, [.agg [.nils, .nils]], 0⟩, ⟨64, 2, [.agg [.nils, .nils]], 0⟩, ⟨31, 4, [.agg [.sl (n + 4) 0 0 (o10.1).length, .nils, .nils, .nils]], 0⟩, ⟨48, 2, Wa T_Place.enc o10.1, 0⟩])) ho10 ?_ (by rintro _ _ _ _ ⟨h, _⟩ <;> cases h) ?_) ?_
   ·exact Vp ⟨rfl, rfl, rfl, rfl, rfl, rfl, rfl, trivial⟩
   ·rintro s9 os9 _ _ _ hF hw
    unfold F_draw_Codes_Made_L1 at hF
    refine Yl hw ?_
    refine Vf ?_
    refine Vf ?_
    refine Vd ?_
    refine Va (Vk rfl) rfl ?_
    refine Va (Zq rfl rfl) rfl ?_
    refine Ve ?_
    refine Xi rfl (fun c11 => ?_) (fun c11 => ?_)
    ·have hF := Yq c11 hF
     refine Xj ?_
     refine Vf ?_
     refine Xh ?_
     obtain ⟨x12, h13, hF⟩ := Yf hF
     obtain ⟨x14, h15, hF⟩ := Yf hF
     refine Zn [[], [0], [0, 1], [], [3], [3, 4], [3, 4, 5], [3, 4, 5, 6], [0, 1, 2, 3, 4, 5, 6, 7], [0, 1, 2, 3, 4, 5, 6, 7, 8], [0, 1, 2, 3, 4, 5, 6, 7, 8, 9], [0, 1, 2, 3, 4, 5, 6, 7, 8, 9, 10]] [false, false, false, false, true, false, false, false, true, false, false, true] [((setL low0 [(q0, ⟨88, 2, [.agg [.vs 1 (Wa (Wb .u8) s9.2.2.l), .int .i64 s9.2.2.at_]], w0⟩)]), [⟨31, 4, [.agg [.nils, .nils, .nils, .nils]], 0⟩, ⟨62, 2, [.agg [.nils, .nils]], 0⟩, ⟨64, 2, [.agg [.nils, .nils]], 0⟩, ⟨31, 4, [.agg [.sl (n + 4) 0 0 (s9.2.1).length, .nils, .nils, .nils]], 0⟩, ⟨48, 2, Wa T_Place.enc s9.2.1, 0⟩]), ((setL low0 [(q0, ⟨88, 2, [.agg [.vs 1 (Wa (Wb .u8) x12.1.l), .int .i64 x12.1.at_]], w0⟩)]), [⟨31, 4, [.agg [.nils, .nils, .nils, .nils]], 0⟩, ⟨62, 2, [.agg [.nils, .nils]], 0⟩, ⟨64, 2, [.agg [.nils, .nils]], 0⟩, ⟨31, 4, [.agg [.sl (n + 4) 0 0 (s9.2.1).length, .nils, .nils, .nils]], 0⟩, ⟨48, 2, Wa T_Place.enc s9.2.1, 0⟩]), ((setL low0 [(q0, ⟨88, 2, [.agg [.vs 1 (Wa (Wb .u8) x12.1.l), .int .i64 x12.1.at_]], w0⟩)]), [⟨31, 4, [.agg [.nils, .nils, .nils, .nils]], 0⟩, ⟨62, 2, [.agg [.nils, .nils]], 0⟩, ⟨64, 2, [.agg [.nils, .nils]], 0⟩, ⟨31, 4, [.agg [.sl (n + 4) 0 0 (s9.2.1).length, .nils, .nils, .nils]], 0⟩, ⟨48, 2, Wa T_Place.enc x14, 0 + 1⟩]), ((setL low0 [(q0, ⟨88, 2, [.agg [.vs 1 (Wa (Wb .u8) x12.1.l), .int .i64 x12.1.at_]], w0⟩)]), [⟨31, 4, [.agg [.nils, .nils, .nils, .nils]], 0⟩, ⟨62, 2, [.agg [.nils, .nils]], 0⟩, ⟨64, 2, [.agg [.nils, .nils]], 0⟩, ⟨31, 4, [.agg [.sl (n + 4) (0 + 1) 0 (x14).length, .nils, .nils, .nils]], 0⟩, ⟨48, 2, Wa T_Place.enc x14, 0 + 1⟩])] mixed (by kernel_rfl) rfl (lenAll (Vv Xp (Vv Xp (Vv Xp (Vv Xp Yw))))) rfl _ rfl rfl ?_
     refine Vx _ rfl rfl (Vv (VRd.ntl (Vb rfl tf_31_0 ts_27 (by decide))) (Vv (VRd.ntl (Vb rfl tf_31_0 ts_27 (by decide))) Yw)) ?_
     refine Vx _ rfl rfl (Vv (VRd.ntl (Vb rfl tf_27_0 ts_24 (by decide))) (Vv (VRd.ntl (Vb rfl tf_27_0 ts_24 (by decide))) Yw)) ?_
     refine Vx _ rfl rfl (Vv (VRd.ntl (Vj rfl (Vg (Vl hn) rfl) rfl ta_24 rfl)) (Vv (VRd.ntl (Vj rfl (Vg (Vl hn) rfl) rfl ta_24 rfl)) Yw)) ?_
     refine Yd rfl rfl (Xg rfl) ?_
     refine Ya rfl rfl rfl (Vz (ps := [(q0, ⟨88, 2, [.agg [.vs 1 (Wa (Wb .u8) x12.1.l), .int .i64 x12.1.at_]], w0⟩)]) (r := .int .i64 x12.2) (os := []) (low1 := (setL low0 [(q0, ⟨88, 2, [.agg [.vs 1 (Wa (Wb .u8) x12.1.l), .int .i64 x12.1.at_]], w0⟩)])) (loc1 := [⟨31, 4, [.agg [.nils, .nils, .nils, .nils]], 0⟩, ⟨62, 2, [.agg [.nils, .nils]], 0⟩, ⟨64, 2, [.agg [.nils, .nils]], 0⟩, ⟨31, 4, [.agg [.sl (n + 4) 0 0 (s9.2.1).length, .nils, .nils, .nils]], 0⟩, ⟨48, 2, Wa T_Place.enc s9.2.1, 0⟩]) (loc2 := [⟨31, 4, [.agg [.nils, .nils, .nils, .nils]], 0⟩, ⟨62, 2, [.agg [.nils, .nils]], 0⟩, ⟨64, 2, [.agg [.nils, .nils]], 0⟩, ⟨31, 4, [.agg [.sl (n + 4) 0 0 (s9.2.1).length, .nils, .nils, .nils]], 0⟩, ⟨48, 2, Wa T_Place.enc s9.2.1, 0⟩]) rfl Try.call27 (F_draw_Codes_Next_ok h13 (nd1 na0 nd0) (Zb hB rfl 0 rfl) (Xs (Vl hn) rfl)) (Yk (ps0' := [(q0, ⟨88, 2, [.agg [.vs 1 (Wa (Wb .u8) x12.1.l), .int .i64 x12.1.at_]], w0⟩)]) hB rfl 0 rfl (Yo hn ⟨Vo ⟨.vs _ _, .int _ _, trivial⟩, trivial⟩) rfl Xf) rfl) ?_
     refine Yd rfl rfl (rd_neg rfl rfl) ?_
     refine Yd rfl rfl (Ye (vs := [(0, .int .i64 (IntKind.i64.wrap (0 - x12.2)))]) (ds := [.int .i64 (IntKind.i64.wrap (0 - x12.2)), .bool false]) tz_48 rfl rfl tp_48 ⟨rfl, rfl, trivial⟩ (Yh rfl) rfl) ?_
     refine dn1 rfl rfl (nt_of (Yt (es := Wa T_Place.enc [(T_Place.mk (IntKind.i64.wrap (0 - x12.2)) false)]) ⟨rfl, rfl, trivial⟩ rfl rfl (Zm rfl) te_24 ts_48 tz_48 rfl rfl (Wf _) (by decide) (Ym T_Place.enc_lt))) ?_
     refine Ya rfl rfl rfl (Zw (f := T_Place.enc) (l := s9.2.1) (ys := [(T_Place.mk (IntKind.i64.wrap (0 - x12.2)) false)]) rfl rfl (Vg (Vl hn) rfl) rfl (src_vs rfl) te_24 ts_48 tb_48 (by decide) tz_48 rfl h15 (Xn (Vl hn) rfl)) ?_
     refine Yd rfl rfl (Vb rfl tf_31_0 ts_27 (by decide)) ?_
     refine Yd rfl rfl (Vb rfl tf_27_0 ts_24 (by decide)) ?_
     refine Ya rfl rfl rfl (Vw (p := .sl (n + 4) (0 + 1) 0 (x14).length) (e' := .agg [.sl (n + 4) (0 + 1) 0 (x14).length, .nils, .nils, .nils]) rfl (Vg (Vl hn) rfl) rfl rfl ts_24 rfl (Yg rfl) rfl (We rfl) rfl (Xn (Vl hn) rfl)) ?_
     refine Yx ?_
     refine Vd ?_
     refine Va (Vk rfl) rfl ?_
     refine Va (Zp rfl rfl rfl) rfl ?_
     refine Va (Xv rfl) rfl ?_
     refine Ve ?_
     obtain rfl := Wd hF
     refine Xk ?_
     exact Vm (Vl hn) [(0, 0), (1, 0), (2, 0), (3, 0), (4, 0 + 1)] (by decide) ⟨Vh rfl (.ptr _ _ _ _ hq0), Vt 0 0 rfl rfl, Vt 1 1 rfl rfl, Vt 2 2 rfl rfl, Vt 3 3 rfl rfl, Vh rfl (.int _ _), Vh rfl (.int _ _), trivial⟩ ⟨⟨_, rfl, rfl, .same _ _ _ _ (Vn ⟨Vo ⟨.nils, .nils, .nils, .nils, trivial⟩, trivial⟩)⟩, ⟨_, rfl, rfl, .same _ _ _ _ (Vn ⟨Vo ⟨.nils, .nils, trivial⟩, trivial⟩)⟩, ⟨_, rfl, rfl, .same _ _ _ _ (Vn ⟨Vo ⟨.nils, .nils, trivial⟩, trivial⟩)⟩, ⟨_, rfl, rfl, .agg _ _ _ _ _ ⟨Yc 4 4 rfl rfl, Vh rfl (.nils), Vh rfl (.nils), Vh rfl (.nils), trivial⟩⟩, ⟨_, rfl, rfl, .same _ _ _ _ (Vq T_Place.enc_lt)⟩, trivial⟩
    ·have hF := Yr c11 hF
     refine Zd ?_
     obtain rfl := Wd hF
     refine Xk ?_
     exact Vp ⟨rfl, rfl, rfl, rfl, rfl, rfl, trivial⟩
   ·rintro _ _ _ _ ⟨rfl, hw⟩
    refine ⟨_, _, _, hw, ?_⟩
    refine Vf ?_
    refine Vd ?_
    refine Va (Vb rfl tf_31_0 ts_27 (by decide)) rfl ?_
    refine Va (Vb rfl tf_27_0 ts_24 (by decide)) rfl ?_
    refine Va (Vj rfl (Vg (Vl hn) rfl) rfl ta_24 rfl) rfl ?_
    refine Va (rd_lenS rfl (Vg (Vl hn) rfl) rfl rfl te_24) rfl ?_
    refine Va (Xv rfl) rfl ?_
    refine Ve ?_
    refine Vf ?_
    refine Vd ?_
    obtain ⟨x16, h17, hF⟩ := Yf hF
    refine Va (Vk rfl) rfl ?_
    refine Vi (vef_mkN (f := (Wb .i64)) (zz := 0) (Vl hn) rfl rfl rfl te_32 ts_3 tb_3 (by decide) tz_3 rfl rfl (Wf _) rfl h17) rfl ?_
    refine Va (Ye (vs := [(0, .sl (n + 5) 0 0 (x16).length)]) (ds := [.sl (n + 5) 0 0 (x16).length, .nils]) tz_64 rfl rfl tp_64 ⟨rfl, rfl, trivial⟩ (Yh rfl) rfl) rfl ?_
    refine Vi (Xm (Vl hn) rfl tz_64 rfl rfl (Wf _) rfl) rfl ?_
    refine Vi (Vw (p := .agg [.sl (n + 5) 0 0 (x16).length, .nils]) (e' := .agg [.sl (n + 5) 0 0 (x16).length, .nils]) rfl (Vg (Vl hn) rfl) rfl rfl ts_64 rfl (Yg rfl) rfl (We rfl) rfl (Xn (Vl hn) rfl)) rfl ?_
    refine Ve ?_
    refine Vf ?_
    refine Vf ?_
    refine Vd ?_
    refine Va (Vk rfl) rfl ?_
    refine Va (Xv rfl) rfl ?_
    refine Ve ?_
    refine Xh ?_
    obtain ⟨o19, ho19, hF⟩ := Yf hF
    refine Vs (Yy (F_draw_Codes_Made_L2 o10) (fun s18 E' lw lc => Xz E' lw lc [(0, .ptr q0 w0 0 0), (2, .ptr (n + 0) 0 0 0), (3, .ptr (n + 1) 0 0 0), (4, .ptr (n + 2) 0 0 0), (5, .ptr (n + 3) 0 0 0), (6, .int .i64 ((o3).length : Int)), (8, .int .i64 ((o10.1).length : Int)), (9, .ptr (n + 4) 0 0 0), (10, .int .i64 s18.1)] (setL low0 [(q0, ⟨88, 2, [.agg [.vs 1 (Wa (Wb .u8) s18.2.2.l), .int .i64 s18.2.2.at_]], w0⟩)]) [⟨31, 4, [.agg [.nils, .nils, .nils, .nils]], 0⟩, ⟨62, 2, [.agg [.nils, .nils]], 0⟩, ⟨64, 2, [.agg [.nils, .nils]], 0⟩, ⟨31, 4, [.agg [.sl (n + 5) 0 0 (o10.1).length, .nils, .nils, .nils]], 0⟩, ⟨64, 2, [.agg [.sl (n + 6) 0 0 (s18.2.1).length, .nils]], 0⟩, ⟨48, 2, Wa T_Place.enc o10.1, 0⟩, ⟨3, 1, Wa (Wb .i64) s18.2.1, 0⟩]) (fun o19 => OnlyE (.exit 2) (fun E' lw lc => Xz E' lw lc [(0, .ptr q0 w0 0 0), (2, .ptr (n + 0) 0 0 0), (3, .ptr (n + 1) 0 0 0), (4, .ptr (n + 2) 0 0 0), (5, .ptr (n + 3) 0 0 0), (6, .int .i64 ((o3).length : Int)), (8, .int .i64 ((o10.1).length : Int)), (9, .ptr (n + 4) 0 0 0)] (setL low0 [(q0, ⟨88, 2, [.agg [.vs 1 (Wa (Wb .u8) o19.2.l), .int .i64 o19.2.at_]], w0⟩)]) [⟨31, 4, [.agg [.nils, .nils, .nils, .nils]], 0⟩, ⟨62, 2, [.agg [.nils, .nils]], 0⟩, ⟨64, 2, [.agg [.nils, .nils]], 0⟩, ⟨31, 4, [.agg [.sl (n + 5) 0 0 (o10.1).length, .nils, .nils, .nils]], 0⟩, ⟨64, 2, [.agg [.sl (n + 6) 0 0 (o19.1).length, .nils]], 0⟩, ⟨48, 2, Wa T_Place.enc o10.1, 0⟩, ⟨3, 1, Wa (Wb .i64) o19.1, 0⟩])) ho19 ?_ (by rintro _ _ _ _ ⟨h, _⟩ <;> cases h) ?_) ?_
    ·exact Vm (Vl hn) [(0, 0), (1, 0), (2, 0), (3, 0), (6, 0), (4, 0), (5, 0)] (by decide) ⟨Vh rfl (.ptr _ _ _ _ hq0), Vt 0 0 rfl rfl, Vt 1 1 rfl rfl, Vt 2 2 rfl rfl, Vt 3 3 rfl rfl, Vh rfl (.int _ _), Vh rfl (.int _ _), Vt 4 6 rfl rfl, Vh rfl (.int _ _), trivial⟩ ⟨⟨_, rfl, rfl, .same _ _ _ _ (Vn ⟨Vo ⟨.nils, .nils, .nils, .nils, trivial⟩, trivial⟩)⟩, ⟨_, rfl, rfl, .same _ _ _ _ (Vn ⟨Vo ⟨.nils, .nils, trivial⟩, trivial⟩)⟩, ⟨_, rfl, rfl, .same _ _ _ _ (Vn ⟨Vo ⟨.nils, .nils, trivial⟩, trivial⟩)⟩, ⟨_, rfl, rfl, .agg _ _ _ _ _ ⟨Yc 5 4 rfl rfl, Vh rfl (.nils), Vh rfl (.nils), Vh rfl (.nils), trivial⟩⟩, ⟨_, rfl, rfl, .agg _ _ _ _ _ ⟨Yc 6 5 rfl rfl, Vh rfl (.nils), trivial⟩⟩, ⟨_, rfl, rfl, .same _ _ _ _ (Vq T_Place.enc_lt)⟩, ⟨_, rfl, rfl, .same _ _ _ _ (Vq (fun _ => .int _ _))⟩, trivial⟩
    ·rintro s18 os18 _ _ _ hF hw
     unfold F_draw_Codes_Made_L2 at hF
     refine Yl hw ?_
     refine Vf ?_
     refine Vf ?_
     refine Vd ?_
     refine Va (Vk rfl) rfl ?_
     refine Va (Vk rfl) rfl ?_
     refine Va (Yz rfl rfl) rfl ?_
     refine Ve ?_
     refine Xi rfl (fun c20 => ?_) (fun c20 => ?_)
     ·have hF := Yq c20 hF
      refine Xj ?_
      refine Vf ?_
      refine Xh ?_
      obtain ⟨x21, h22, hF⟩ := Yf hF
      obtain ⟨x23, h24, hF⟩ := Yf hF
      refine Zn [[], [0], [], [], [3], [0, 1, 2, 3, 4], [0, 1, 2, 3, 4, 5]] [false, false, false, false, true, false, true] [((setL low0 [(q0, ⟨88, 2, [.agg [.vs 1 (Wa (Wb .u8) s18.2.2.l), .int .i64 s18.2.2.at_]], w0⟩)]), [⟨31, 4, [.agg [.nils, .nils, .nils, .nils]], 0⟩, ⟨62, 2, [.agg [.nils, .nils]], 0⟩, ⟨64, 2, [.agg [.nils, .nils]], 0⟩, ⟨31, 4, [.agg [.sl (n + 5) 0 0 (o10.1).length, .nils, .nils, .nils]], 0⟩, ⟨64, 2, [.agg [.sl (n + 6) 0 0 (s18.2.1).length, .nils]], 0⟩, ⟨48, 2, Wa T_Place.enc o10.1, 0⟩, ⟨3, 1, Wa (Wb .i64) s18.2.1, 0⟩]), ((setL low0 [(q0, ⟨88, 2, [.agg [.vs 1 (Wa (Wb .u8) x21.1.l), .int .i64 x21.1.at_]], w0⟩)]), [⟨31, 4, [.agg [.nils, .nils, .nils, .nils]], 0⟩, ⟨62, 2, [.agg [.nils, .nils]], 0⟩, ⟨64, 2, [.agg [.nils, .nils]], 0⟩, ⟨31, 4, [.agg [.sl (n + 5) 0 0 (o10.1).length, .nils, .nils, .nils]], 0⟩, ⟨64, 2, [.agg [.sl (n + 6) 0 0 (s18.2.1).length, .nils]], 0⟩, ⟨48, 2, Wa T_Place.enc o10.1, 0⟩, ⟨3, 1, Wa (Wb .i64) s18.2.1, 0⟩]), ((setL low0 [(q0, ⟨88, 2, [.agg [.vs 1 (Wa (Wb .u8) x21.1.l), .int .i64 x21.1.at_]], w0⟩)]), [⟨31, 4, [.agg [.nils, .nils, .nils, .nils]], 0⟩, ⟨62, 2, [.agg [.nils, .nils]], 0⟩, ⟨64, 2, [.agg [.nils, .nils]], 0⟩, ⟨31, 4, [.agg [.sl (n + 5) 0 0 (o10.1).length, .nils, .nils, .nils]], 0⟩, ⟨64, 2, [.agg [.sl (n + 6) 0 0 (s18.2.1).length, .nils]], 0⟩, ⟨48, 2, Wa T_Place.enc o10.1, 0⟩, ⟨3, 1, Wa (Wb .i64) (s18.2.1.set ((s18.1).toNat) x21.2), 0⟩])] mixed (by kernel_rfl) rfl (lenAll (Vv Xp (Vv Xp (Vv Xp Yw)))) rfl _ rfl rfl ?_
      refine Vx _ rfl rfl (Vv (VRd.ntl (Vb rfl tf_64_0 ts_32 (by decide))) (Vv (VRd.ntl (Vb rfl tf_64_0 ts_32 (by decide))) Yw)) ?_
      refine Vx _ rfl rfl (Vv (VRd.ntl (Vj rfl (Vg (Vl hn) rfl) rfl ta_32 rfl)) (Vv (VRd.ntl (Vj rfl (Vg (Vl hn) rfl) rfl ta_32 rfl)) Yw)) ?_
      refine Vx _ rfl rfl (Vv (VRd.ntl (Vk rfl)) (Vv (VRd.ntl (Vk rfl)) Yw)) ?_
      refine Yd rfl rfl (Xg rfl) ?_
      refine Ya rfl rfl rfl (Vz (ps := [(q0, ⟨88, 2, [.agg [.vs 1 (Wa (Wb .u8) x21.1.l), .int .i64 x21.1.at_]], w0⟩)]) (r := .int .i64 x21.2) (os := []) (low1 := (setL low0 [(q0, ⟨88, 2, [.agg [.vs 1 (Wa (Wb .u8) x21.1.l), .int .i64 x21.1.at_]], w0⟩)])) (loc1 := [⟨31, 4, [.agg [.nils, .nils, .nils, .nils]], 0⟩, ⟨62, 2, [.agg [.nils, .nils]], 0⟩, ⟨64, 2, [.agg [.nils, .nils]], 0⟩, ⟨31, 4, [.agg [.sl (n + 5) 0 0 (o10.1).length, .nils, .nils, .nils]], 0⟩, ⟨64, 2, [.agg [.sl (n + 6) 0 0 (s18.2.1).length, .nils]], 0⟩, ⟨48, 2, Wa T_Place.enc o10.1, 0⟩, ⟨3, 1, Wa (Wb .i64) s18.2.1, 0⟩]) (loc2 := [⟨31, 4, [.agg [.nils, .nils, .nils, .nils]], 0⟩, ⟨62, 2, [.agg [.nils, .nils]], 0⟩, ⟨64, 2, [.agg [.nils, .nils]], 0⟩, ⟨31, 4, [.agg [.sl (n + 5) 0 0 (o10.1).length, .nils, .nils, .nils]], 0⟩, ⟨64, 2, [.agg [.sl (n + 6) 0 0 (s18.2.1).length, .nils]], 0⟩, ⟨48, 2, Wa T_Place.enc o10.1, 0⟩, ⟨3, 1, Wa (Wb .i64) s18.2.1, 0⟩]) rfl Try.call28 (F_draw_Codes_Range_ok h22 (nd1 na0 nd0) (Zb hB rfl 0 rfl) (Xs (Vl hn) rfl)) (Yk (ps0' := [(q0, ⟨88, 2, [.agg [.vs 1 (Wa (Wb .u8) x21.1.l), .int .i64 x21.1.at_]], w0⟩)]) hB rfl 0 rfl (Yo hn ⟨Vo ⟨.vs _ _, .int _ _, trivial⟩, trivial⟩) rfl Xf) rfl) ?_
      refine Yd rfl rfl (Zr rfl rfl rfl (Vg (Vl hn) rfl) h24 te_32 ts_3) ?_
      refine Ya rfl rfl rfl (vef_stL (p := .int .i64 x21.2) (e' := x21.2) rfl (Vg (Vl hn) rfl) (Yi h24).2 rfl ts_3 rfl (Yg rfl) (We rfl) rfl (Xn (Vl hn) rfl)) ?_
      refine Yx ?_
      refine Vd ?_
      refine Va (Vk rfl) rfl ?_
      refine Va (Zf rfl rfl rfl) rfl ?_
      refine Va (Xv rfl) rfl ?_
      refine Ve ?_
      obtain rfl := Wd hF
      refine Xk ?_
      exact Vm (Vl hn) [(0, 0), (1, 0), (2, 0), (3, 0), (4, 0), (5, 0), (6, 0)] (by decide) ⟨Vh rfl (.ptr _ _ _ _ hq0), Vt 0 0 rfl rfl, Vt 1 1 rfl rfl, Vt 2 2 rfl rfl, Vt 3 3 rfl rfl, Vh rfl (.int _ _), Vh rfl (.int _ _), Vt 4 4 rfl rfl, Vh rfl (.int _ _), trivial⟩ ⟨⟨_, rfl, rfl, .same _ _ _ _ (Vn ⟨Vo ⟨.nils, .nils, .nils, .nils, trivial⟩, trivial⟩)⟩, ⟨_, rfl, rfl, .same _ _ _ _ (Vn ⟨Vo ⟨.nils, .nils, trivial⟩, trivial⟩)⟩, ⟨_, rfl, rfl, .same _ _ _ _ (Vn ⟨Vo ⟨.nils, .nils, trivial⟩, trivial⟩)⟩, ⟨_, rfl, rfl, .agg _ _ _ _ _ ⟨Yc 5 5 rfl rfl, Vh rfl (.nils), Vh rfl (.nils), Vh rfl (.nils), trivial⟩⟩, ⟨_, rfl, rfl, .agg _ _ _ _ _ ⟨Yc 6 6 rfl (congrArg (PV.sl _ _ 0) (Eq.trans rfl List.length_set.symm)), Vh rfl (.nils), trivial⟩⟩, ⟨_, rfl, rfl, .same _ _ _ _ (Vq T_Place.enc_lt)⟩, ⟨_, rfl, rfl, .same _ _ _ _ (Vq (fun _ => .int _ _))⟩, trivial⟩
     ·have hF := Yr c20 hF
      refine Zd ?_
      obtain rfl := Wd hF
      refine Xk ?_
      exact Vp ⟨rfl, rfl, rfl, rfl, rfl, rfl, rfl, rfl, trivial⟩
    ·rintro _ _ _ _ ⟨rfl, hw⟩
     refine ⟨_, _, _, hw, ?_⟩
     refine Vf ?_
     refine Vd ?_
     obtain ⟨x25, h26, hF⟩ := Yf hF
     refine Va (Vk rfl) rfl ?_
     refine Vi (vef_mkN (f := (Wb .i64)) (zz := 0) (Vl hn) rfl rfl rfl te_32 ts_3 tb_3 (by decide) tz_3 rfl rfl (Wf _) rfl h26) rfl ?_
     refine Va (rd_asL rfl) rfl ?_
     refine Ve ?_
     refine Vf ?_
     refine Vf ?_
     refine Vd ?_
     refine Va (Vk rfl) rfl ?_
     refine Va (Zq rfl rfl) rfl ?_
     refine Ve ?_
     obtain ⟨o27, ho27, hF⟩ := Yf hF
     refine Vs (Q' := (fun o27 => OnlyE .normal (fun E' lw lc => Xz E' lw lc [(0, .ptr q0 w0 0 0), (2, .ptr (n + 1) 0 0 0), (3, .ptr (n + 2) 0 0 0), (4, .ptr (n + 3) 0 0 0), (5, .ptr (n + 4) 0 0 0), (6, .int .i64 ((o3).length : Int)), (8, .int .i64 ((o10.1).length : Int)), (9, .ptr (n + 5) 0 0 0), (11, .sl (n + 0) 0 0 (o27.1).length)] (setL low0 [(q0, ⟨88, 2, [.agg [.vs 1 (Wa (Wb .u8) o27.2.2.2.l), .int .i64 o27.2.2.2.at_]], w0⟩)]) [⟨3, 1, Wa (Wb .i64) o27.1, 0⟩, ⟨31, 4, [.agg [.nils, .nils, .nils, .nils]], 0⟩, ⟨62, 2, [.agg [.nils, .nils]], 0⟩, ⟨64, 2, [.agg [.nils, .nils]], 0⟩, ⟨31, 4, [.agg [.sl (n + 6) 0 0 (o27.2.1.Mine.Places).length, .sl (n + 7) 0 0 (o27.2.1.Mine.Roads).length, .nils, .nils]], 0⟩, ⟨64, 2, [.agg [.sl (n + 8) 0 0 (o27.2.2.1.Pressures).length, .sl (n + 9) 0 0 (o27.2.2.1.Flows).length]], 0⟩, ⟨48, 2, Wa T_Place.enc o27.2.1.Mine.Places, 0⟩, ⟨46, 10, Wa T_Road.enc o27.2.1.Mine.Roads, 0⟩, ⟨3, 1, Wa (Wb .i64) o27.2.2.1.Pressures, 0⟩, ⟨3, 1, Wa (Wb .i64) o27.2.2.1.Flows, 0⟩])) o27) ?_ ?_
     ·replace hF := ho27
      refine Xi rfl (fun c28 => ?_) (fun c28 => ?_)
      ·have hF := Yq c28 hF
       refine Vf ?_
       refine Vd ?_
       obtain ⟨x29, h30, hF⟩ := Yf hF
       refine Va (Xg rfl) rfl ?_
       refine Vi (Vz (ps := [(q0, ⟨88, 2, [.agg [.vs 1 (Wa (Wb .u8) x29.1.l), .int .i64 x29.1.at_]], w0⟩)]) (r := .int .i64 x29.2) (os := []) (low1 := (setL low0 [(q0, ⟨88, 2, [.agg [.vs 1 (Wa (Wb .u8) x29.1.l), .int .i64 x29.1.at_]], w0⟩)])) (loc1 := [⟨31, 4, [.agg [.nils, .nils, .nils, .nils]], 0⟩, ⟨62, 2, [.agg [.nils, .nils]], 0⟩, ⟨64, 2, [.agg [.nils, .nils]], 0⟩, ⟨31, 4, [.agg [.sl (n + 5) 0 0 (o10.1).length, .nils, .nils, .nils]], 0⟩, ⟨64, 2, [.agg [.sl (n + 6) 0 0 (o19.1).length, .nils]], 0⟩, ⟨48, 2, Wa T_Place.enc o10.1, 0⟩, ⟨3, 1, Wa (Wb .i64) o19.1, 0⟩, ⟨3, 1, Wa (Wb .i64) x25, 0⟩]) (loc2 := [⟨31, 4, [.agg [.nils, .nils, .nils, .nils]], 0⟩, ⟨62, 2, [.agg [.nils, .nils]], 0⟩, ⟨64, 2, [.agg [.nils, .nils]], 0⟩, ⟨31, 4, [.agg [.sl (n + 5) 0 0 (o10.1).length, .nils, .nils, .nils]], 0⟩, ⟨64, 2, [.agg [.sl (n + 6) 0 0 (o19.1).length, .nils]], 0⟩, ⟨48, 2, Wa T_Place.enc o10.1, 0⟩, ⟨3, 1, Wa (Wb .i64) o19.1, 0⟩, ⟨3, 1, Wa (Wb .i64) x25, 0⟩]) rfl Try.call27 (F_draw_Codes_Next_ok h30 (nd1 na0 nd0) (Zb hB rfl 0 rfl) (Xs (Vl hn) rfl)) (Yk (ps0' := [(q0, ⟨88, 2, [.agg [.vs 1 (Wa (Wb .u8) x29.1.l), .int .i64 x29.1.at_]], w0⟩)]) hB rfl 0 rfl (Yo hn ⟨Vo ⟨.vs _ _, .int _ _, trivial⟩, trivial⟩) rfl Xf) rfl) rfl ?_
       refine Va (Xv rfl) rfl ?_
       refine Ve ?_
       refine Xh ?_
       obtain ⟨o32, ho32, hF⟩ := Yf hF
       refine Vs (Yy (F_draw_Codes_Made_L3 o10) (fun s31 E' lw lc => Xz E' lw lc [(0, .ptr q0 w0 0 0), (2, .ptr (n + 1) 0 0 0), (3, .ptr (n + 2) 0 0 0), (4, .ptr (n + 3) 0 0 0), (5, .ptr (n + 4) 0 0 0), (6, .int .i64 ((o3).length : Int)), (8, .int .i64 ((o10.1).length : Int)), (9, .ptr (n + 5) 0 0 0), (11, .sl (n + 0) 0 0 (s31.2.1).length), (12, .int .i64 s31.1)] (setL low0 [(q0, ⟨88, 2, [.agg [.vs 1 (Wa (Wb .u8) s31.2.2.2.2.l), .int .i64 s31.2.2.2.2.at_]], w0⟩)]) [⟨3, 1, Wa (Wb .i64) s31.2.1, 0⟩, ⟨31, 4, [.agg [.nils, .nils, .nils, .nils]], 0⟩, ⟨62, 2, [.agg [.nils, .nils]], 0⟩, ⟨64, 2, [.agg [.nils, .nils]], 0⟩, ⟨31, 4, [.agg [.sl (n + 6) 0 0 (s31.2.2.1.Mine.Places).length, .sl (n + 7) 0 0 (s31.2.2.1.Mine.Roads).length, .nils, .nils]], 0⟩, ⟨64, 2, [.agg [.sl (n + 8) 0 0 (s31.2.2.2.1.Pressures).length, .sl (n + 9) 0 0 (s31.2.2.2.1.Flows).length]], 0⟩, ⟨48, 2, Wa T_Place.enc s31.2.2.1.Mine.Places, 0⟩, ⟨46, 10, Wa T_Road.enc s31.2.2.1.Mine.Roads, 0⟩, ⟨3, 1, Wa (Wb .i64) s31.2.2.2.1.Pressures, 0⟩, ⟨3, 1, Wa (Wb .i64) s31.2.2.2.1.Flows, 0⟩]) (fun o32 => OnlyE (.exit 4) (fun E' lw lc => Xz E' lw lc [(0, .ptr q0 w0 0 0), (2, .ptr (n + 1) 0 0 0), (3, .ptr (n + 2) 0 0 0), (4, .ptr (n + 3) 0 0 0), (5, .ptr (n + 4) 0 0 0), (6, .int .i64 ((o3).length : Int)), (8, .int .i64 ((o10.1).length : Int)), (9, .ptr (n + 5) 0 0 0), (11, .sl (n + 0) 0 0 (o32.1).length)] (setL low0 [(q0, ⟨88, 2, [.agg [.vs 1 (Wa (Wb .u8) o32.2.2.2.l), .int .i64 o32.2.2.2.at_]], w0⟩)]) [⟨3, 1, Wa (Wb .i64) o32.1, 0⟩, ⟨31, 4, [.agg [.nils, .nils, .nils, .nils]], 0⟩, ⟨62, 2, [.agg [.nils, .nils]], 0⟩, ⟨64, 2, [.agg [.nils, .nils]], 0⟩, ⟨31, 4, [.agg [.sl (n + 6) 0 0 (o32.2.1.Mine.Places).length, .sl (n + 7) 0 0 (o32.2.1.Mine.Roads).length, .nils, .nils]], 0⟩, ⟨64, 2, [.agg [.sl (n + 8) 0 0 (o32.2.2.1.Pressures).length, .sl (n + 9) 0 0 (o32.2.2.1.Flows).length]], 0⟩, ⟨48, 2, Wa T_Place.enc o32.2.1.Mine.Places, 0⟩, ⟨46, 10, Wa T_Road.enc o32.2.1.Mine.Roads, 0⟩, ⟨3, 1, Wa (Wb .i64) o32.2.2.1.Pressures, 0⟩, ⟨3, 1, Wa (Wb .i64) o32.2.2.1.Flows, 0⟩])) ho32 ?_ (by rintro _ _ _ _ ⟨h, _⟩ <;> cases h) ?_) ?_
       ·refine Weak.trans (weak_nil (E' := [(0, .ptr q0 w0 0 0), (2, .ptr (n + 0) 0 0 0), (3, .ptr (n + 1) 0 0 0), (4, .ptr (n + 2) 0 0 0), (5, .ptr (n + 3) 0 0 0), (6, .int .i64 ((o3).length : Int)), (8, .int .i64 ((o10.1).length : Int)), (9, .ptr (n + 4) 0 0 0), (11, .sl (n + 7) 0 0 (x25).length), (12, .int .i64 x29.2)]) (loc1 := [⟨31, 4, [.agg [.nils, .nils, .nils, .nils]], 0⟩, ⟨62, 2, [.agg [.nils, .nils]], 0⟩, ⟨64, 2, [.agg [.nils, .nils]], 0⟩, ⟨31, 4, [.agg [.sl (n + 5) 0 0 (o10.1).length, .sl (n + 8) 0 0 (([] : List T_Road)).length, .nils, .nils]], 0⟩, ⟨64, 2, [.agg [.sl (n + 6) 0 0 (o19.1).length, .nils]], 0⟩, ⟨48, 2, Wa T_Place.enc o10.1, 0⟩, ⟨3, 1, Wa (Wb .i64) o19.1, 0⟩, ⟨3, 1, Wa (Wb .i64) x25, 0⟩]) (Vl hn) rfl 46 10 (Wf _) ⟨Xb rfl, Xb rfl, Xb rfl, Xb rfl, Xb rfl, Xb rfl, Xb rfl, Xb rfl, Xb rfl, Xb rfl, trivial⟩ ⟨.same _, .same _, .same _, .agg _ _ _ _ _ ⟨Xb rfl, nn_nil rfl, Xb rfl, Xb rfl, trivial⟩, .same _, .same _, .same _, .same _, trivial⟩) ?_
        refine Weak.trans (weak_nil (E' := [(0, .ptr q0 w0 0 0), (2, .ptr (n + 0) 0 0 0), (3, .ptr (n + 1) 0 0 0), (4, .ptr (n + 2) 0 0 0), (5, .ptr (n + 3) 0 0 0), (6, .int .i64 ((o3).length : Int)), (8, .int .i64 ((o10.1).length : Int)), (9, .ptr (n + 4) 0 0 0), (11, .sl (n + 7) 0 0 (x25).length), (12, .int .i64 x29.2)]) (loc1 := [⟨31, 4, [.agg [.nils, .nils, .nils, .nils]], 0⟩, ⟨62, 2, [.agg [.nils, .nils]], 0⟩, ⟨64, 2, [.agg [.nils, .nils]], 0⟩, ⟨31, 4, [.agg [.sl (n + 5) 0 0 (o10.1).length, .sl (n + 8) 0 0 (([] : List T_Road)).length, .nils, .nils]], 0⟩, ⟨64, 2, [.agg [.sl (n + 6) 0 0 (o19.1).length, .sl (n + 9) 0 0 (([] : List Int)).length]], 0⟩, ⟨48, 2, Wa T_Place.enc o10.1, 0⟩, ⟨3, 1, Wa (Wb .i64) o19.1, 0⟩, ⟨3, 1, Wa (Wb .i64) x25, 0⟩, ⟨46, 10, Wa T_Road.enc ([] : List T_Road), 0⟩]) (Vl hn) rfl 3 1 (Wf _) ⟨Xb rfl, Xb rfl, Xb rfl, Xb rfl, Xb rfl, Xb rfl, Xb rfl, Xb rfl, Xb rfl, Xb rfl, trivial⟩ ⟨.same _, .same _, .same _, .same _, .agg _ _ _ _ _ ⟨Xb rfl, nn_nil rfl, trivial⟩, .same _, .same _, .same _, .same _, trivial⟩) ?_
        exact Vm (Vl hn) [(7, 0), (0, 0), (1, 0), (2, 0), (3, 0), (4, 0), (5, 0), (8, 0), (6, 0), (9, 0)] (by decide) ⟨Vh rfl (.ptr _ _ _ _ hq0), Vt 1 0 rfl rfl, Vt 2 1 rfl rfl, Vt 3 2 rfl rfl, Vt 4 3 rfl rfl, Vh rfl (.int _ _), Vh rfl (.int _ _), Vt 5 4 rfl rfl, Yc 0 7 rfl rfl, Vh rfl (.int _ _), trivial⟩ ⟨⟨_, rfl, rfl, .same _ _ _ _ (Vq (fun _ => .int _ _))⟩, ⟨_, rfl, rfl, .same _ _ _ _ (Vn ⟨Vo ⟨.nils, .nils, .nils, .nils, trivial⟩, trivial⟩)⟩, ⟨_, rfl, rfl, .same _ _ _ _ (Vn ⟨Vo ⟨.nils, .nils, trivial⟩, trivial⟩)⟩, ⟨_, rfl, rfl, .same _ _ _ _ (Vn ⟨Vo ⟨.nils, .nils, trivial⟩, trivial⟩)⟩, ⟨_, rfl, rfl, .agg _ _ _ _ _ ⟨Yc 6 5 rfl rfl, Yc 7 8 rfl rfl, Vh rfl (.nils), Vh rfl (.nils), trivial⟩⟩, ⟨_, rfl, rfl, .agg _ _ _ _ _ ⟨Yc 8 6 rfl rfl, Yc 9 9 rfl rfl, trivial⟩⟩, ⟨_, rfl, rfl, .same _ _ _ _ (Vq T_Place.enc_lt)⟩, ⟨_, rfl, rfl, .same _ _ _ _ (Vn trivial)⟩, ⟨_, rfl, rfl, .same _ _ _ _ (Vq (fun _ => .int _ _))⟩, ⟨_, rfl, rfl, .same _ _ _ _ (Vn trivial)⟩, trivial⟩
       ·rintro s31 os31 _ _ _ hF hw
        unfold F_draw_Codes_Made_L3 at hF
        refine Yl hw ?_
        refine Vf ?_
        refine Vf ?_
        refine Vd ?_
        refine Va (Vk rfl) rfl ?_
        refine Va (Zq rfl rfl) rfl ?_
        refine Ve ?_
        refine Xi rfl (fun c33 => ?_) (fun c33 => ?_)
        ·have hF := Yq c33 hF
         refine Xj ?_
         refine Vf ?_
         refine Xh ?_
         refine Vf ?_
         refine Vd ?_
         obtain ⟨x34, h35, hF⟩ := Yf hF
         refine Va (Xg rfl) rfl ?_
         refine Va (Vk rfl) rfl ?_
         refine Vi (Vz (ps := [(q0, ⟨88, 2, [.agg [.vs 1 (Wa (Wb .u8) x34.1.l), .int .i64 x34.1.at_]], w0⟩)]) (r := .int .i64 x34.2) (os := []) (low1 := (setL low0 [(q0, ⟨88, 2, [.agg [.vs 1 (Wa (Wb .u8) x34.1.l), .int .i64 x34.1.at_]], w0⟩)])) (loc1 := [⟨3, 1, Wa (Wb .i64) s31.2.1, 0⟩, ⟨31, 4, [.agg [.nils, .nils, .nils, .nils]], 0⟩, ⟨62, 2, [.agg [.nils, .nils]], 0⟩, ⟨64, 2, [.agg [.nils, .nils]], 0⟩, ⟨31, 4, [.agg [.sl (n + 6) 0 0 (s31.2.2.1.Mine.Places).length, .sl (n + 7) 0 0 (s31.2.2.1.Mine.Roads).length, .nils, .nils]], 0⟩, ⟨64, 2, [.agg [.sl (n + 8) 0 0 (s31.2.2.2.1.Pressures).length, .sl (n + 9) 0 0 (s31.2.2.2.1.Flows).length]], 0⟩, ⟨48, 2, Wa T_Place.enc s31.2.2.1.Mine.Places, 0⟩, ⟨46, 10, Wa T_Road.enc s31.2.2.1.Mine.Roads, 0⟩, ⟨3, 1, Wa (Wb .i64) s31.2.2.2.1.Pressures, 0⟩, ⟨3, 1, Wa (Wb .i64) s31.2.2.2.1.Flows, 0⟩]) (loc2 := [⟨3, 1, Wa (Wb .i64) s31.2.1, 0⟩, ⟨31, 4, [.agg [.nils, .nils, .nils, .nils]], 0⟩, ⟨62, 2, [.agg [.nils, .nils]], 0⟩, ⟨64, 2, [.agg [.nils, .nils]], 0⟩, ⟨31, 4, [.agg [.sl (n + 6) 0 0 (s31.2.2.1.Mine.Places).length, .sl (n + 7) 0 0 (s31.2.2.1.Mine.Roads).length, .nils, .nils]], 0⟩, ⟨64, 2, [.agg [.sl (n + 8) 0 0 (s31.2.2.2.1.Pressures).length, .sl (n + 9) 0 0 (s31.2.2.2.1.Flows).length]], 0⟩, ⟨48, 2, Wa T_Place.enc s31.2.2.1.Mine.Places, 0⟩, ⟨46, 10, Wa T_Road.enc s31.2.2.1.Mine.Roads, 0⟩, ⟨3, 1, Wa (Wb .i64) s31.2.2.2.1.Pressures, 0⟩, ⟨3, 1, Wa (Wb .i64) s31.2.2.2.1.Flows, 0⟩]) rfl Try.call27 (F_draw_Codes_Next_ok h35 (nd1 na0 nd0) (Zb hB rfl 0 rfl) (Xs (Vl hn) rfl)) (Yk (ps0' := [(q0, ⟨88, 2, [.agg [.vs 1 (Wa (Wb .u8) x34.1.l), .int .i64 x34.1.at_]], w0⟩)]) hB rfl 0 rfl (Yo hn ⟨Vo ⟨.vs _ _, .int _ _, trivial⟩, trivial⟩) rfl Xf) rfl) rfl ?_
         refine Va (Xv rfl) rfl ?_
         refine Ve ?_
         refine Vf ?_
         refine Vd ?_
         obtain ⟨x36, h37, hF⟩ := Yf hF
         obtain ⟨x38, h39, hF⟩ := Yf hF
         obtain ⟨x40, h41, hF⟩ := Yf hF
         refine Va (Xg rfl) rfl ?_
         refine Va (Vk rfl) rfl ?_
         refine Va (Vk rfl) rfl ?_
         refine Va (Zf rfl rfl rfl) rfl ?_
         refine Va (Xg rfl) rfl ?_
         refine Va (Vk rfl) rfl ?_
         refine Va (Zp rfl rfl rfl) rfl ?_
         refine Vi (Vz (ps := [(q0, ⟨88, 2, [.agg [.vs 1 (Wa (Wb .u8) x36.1.l), .int .i64 x36.1.at_]], w0⟩)]) (r := .int .i64 x36.2) (os := []) (low1 := (setL low0 [(q0, ⟨88, 2, [.agg [.vs 1 (Wa (Wb .u8) x36.1.l), .int .i64 x36.1.at_]], w0⟩)])) (loc1 := [⟨3, 1, Wa (Wb .i64) s31.2.1, 0⟩, ⟨31, 4, [.agg [.nils, .nils, .nils, .nils]], 0⟩, ⟨62, 2, [.agg [.nils, .nils]], 0⟩, ⟨64, 2, [.agg [.nils, .nils]], 0⟩, ⟨31, 4, [.agg [.sl (n + 6) 0 0 (s31.2.2.1.Mine.Places).length, .sl (n + 7) 0 0 (s31.2.2.1.Mine.Roads).length, .nils, .nils]], 0⟩, ⟨64, 2, [.agg [.sl (n + 8) 0 0 (s31.2.2.2.1.Pressures).length, .sl (n + 9) 0 0 (s31.2.2.2.1.Flows).length]], 0⟩, ⟨48, 2, Wa T_Place.enc s31.2.2.1.Mine.Places, 0⟩, ⟨46, 10, Wa T_Road.enc s31.2.2.1.Mine.Roads, 0⟩, ⟨3, 1, Wa (Wb .i64) s31.2.2.2.1.Pressures, 0⟩, ⟨3, 1, Wa (Wb .i64) s31.2.2.2.1.Flows, 0⟩]) (loc2 := [⟨3, 1, Wa (Wb .i64) s31.2.1, 0⟩, ⟨31, 4, [.agg [.nils, .nils, .nils, .nils]], 0⟩, ⟨62, 2, [.agg [.nils, .nils]], 0⟩, ⟨64, 2, [.agg [.nils, .nils]], 0⟩, ⟨31, 4, [.agg [.sl (n + 6) 0 0 (s31.2.2.1.Mine.Places).length, .sl (n + 7) 0 0 (s31.2.2.1.Mine.Roads).length, .nils, .nils]], 0⟩, ⟨64, 2, [.agg [.sl (n + 8) 0 0 (s31.2.2.2.1.Pressures).length, .sl (n + 9) 0 0 (s31.2.2.2.1.Flows).length]], 0⟩, ⟨48, 2, Wa T_Place.enc s31.2.2.1.Mine.Places, 0⟩, ⟨46, 10, Wa T_Road.enc s31.2.2.1.Mine.Roads, 0⟩, ⟨3, 1, Wa (Wb .i64) s31.2.2.2.1.Pressures, 0⟩, ⟨3, 1, Wa (Wb .i64) s31.2.2.2.1.Flows, 0⟩]) rfl Try.call27 (F_draw_Codes_Next_ok h37 (nd1 na0 nd0) (Zb hB rfl 0 rfl) (Xs (Vl hn) rfl)) (Yk (ps0' := [(q0, ⟨88, 2, [.agg [.vs 1 (Wa (Wb .u8) x36.1.l), .int .i64 x36.1.at_]], w0⟩)]) hB rfl 0 rfl (Yo hn ⟨Vo ⟨.vs _ _, .int _ _, trivial⟩, trivial⟩) rfl Xf) rfl) rfl ?_
         refine Va (Zf rfl rfl rfl) rfl ?_
         refine Va (Vk rfl) rfl ?_
         refine Va (rd_rem rfl rfl (remI_some h39).1 (remI_some h39).2) rfl ?_
         refine Vi (Vz (ps := [(q0, ⟨88, 2, [.agg [.vs 1 (Wa (Wb .u8) x40.1.l), .int .i64 x40.1.at_]], w0⟩)]) (r := .agg [.int .i64 x40.2.From, .int .i64 x40.2.To, .int .i64 x40.2.Length, .int .i64 x40.2.Area, .bool x40.2.Walk, .bool x40.2.Closed, .int .i64 x40.2.Rest.Low, .int .i64 x40.2.Rest.High, .int .i64 x40.2.Lift.Low, .int .i64 x40.2.Lift.High]) (os := []) (low1 := (setL low0 [(q0, ⟨88, 2, [.agg [.vs 1 (Wa (Wb .u8) x40.1.l), .int .i64 x40.1.at_]], w0⟩)])) (loc1 := [⟨3, 1, Wa (Wb .i64) s31.2.1, 0⟩, ⟨31, 4, [.agg [.nils, .nils, .nils, .nils]], 0⟩, ⟨62, 2, [.agg [.nils, .nils]], 0⟩, ⟨64, 2, [.agg [.nils, .nils]], 0⟩, ⟨31, 4, [.agg [.sl (n + 6) 0 0 (s31.2.2.1.Mine.Places).length, .sl (n + 7) 0 0 (s31.2.2.1.Mine.Roads).length, .nils, .nils]], 0⟩, ⟨64, 2, [.agg [.sl (n + 8) 0 0 (s31.2.2.2.1.Pressures).length, .sl (n + 9) 0 0 (s31.2.2.2.1.Flows).length]], 0⟩, ⟨48, 2, Wa T_Place.enc s31.2.2.1.Mine.Places, 0⟩, ⟨46, 10, Wa T_Road.enc s31.2.2.1.Mine.Roads, 0⟩, ⟨3, 1, Wa (Wb .i64) s31.2.2.2.1.Pressures, 0⟩, ⟨3, 1, Wa (Wb .i64) s31.2.2.2.1.Flows, 0⟩]) (loc2 := [⟨3, 1, Wa (Wb .i64) s31.2.1, 0⟩, ⟨31, 4, [.agg [.nils, .nils, .nils, .nils]], 0⟩, ⟨62, 2, [.agg [.nils, .nils]], 0⟩, ⟨64, 2, [.agg [.nils, .nils]], 0⟩, ⟨31, 4, [.agg [.sl (n + 6) 0 0 (s31.2.2.1.Mine.Places).length, .sl (n + 7) 0 0 (s31.2.2.1.Mine.Roads).length, .nils, .nils]], 0⟩, ⟨64, 2, [.agg [.sl (n + 8) 0 0 (s31.2.2.2.1.Pressures).length, .sl (n + 9) 0 0 (s31.2.2.2.1.Flows).length]], 0⟩, ⟨48, 2, Wa T_Place.enc s31.2.2.1.Mine.Places, 0⟩, ⟨46, 10, Wa T_Road.enc s31.2.2.1.Mine.Roads, 0⟩, ⟨3, 1, Wa (Wb .i64) s31.2.2.2.1.Pressures, 0⟩, ⟨3, 1, Wa (Wb .i64) s31.2.2.2.1.Flows, 0⟩]) rfl Try.call37 (F_draw_Codes_Road_ok h41 (nd1 na0 nd0) (Zb hB rfl 0 rfl) (Xs (Vl hn) rfl)) (Yk (ps0' := [(q0, ⟨88, 2, [.agg [.vs 1 (Wa (Wb .u8) x40.1.l), .int .i64 x40.1.at_]], w0⟩)]) hB rfl 0 rfl (Yo hn ⟨Vo ⟨.vs _ _, .int _ _, trivial⟩, trivial⟩) rfl Xf) rfl) rfl ?_
         refine Vi (Xm (Vl hn) rfl tz_46 rfl rfl (Wf _) rfl) rfl ?_
         refine Vi (Vw (p := .agg [.int .i64 x40.2.From, .int .i64 x40.2.To, .int .i64 x40.2.Length, .int .i64 x40.2.Area, .bool x40.2.Walk, .bool x40.2.Closed, .int .i64 x40.2.Rest.Low, .int .i64 x40.2.Rest.High, .int .i64 x40.2.Lift.Low, .int .i64 x40.2.Lift.High]) (e' := .agg [.int .i64 x40.2.From, .int .i64 x40.2.To, .int .i64 x40.2.Length, .int .i64 x40.2.Area, .bool x40.2.Walk, .bool x40.2.Closed, .int .i64 x40.2.Rest.Low, .int .i64 x40.2.Rest.High, .int .i64 x40.2.Lift.Low, .int .i64 x40.2.Lift.High]) rfl (Vg (Vl hn) rfl) rfl rfl ts_46 rfl (Yg rfl) rfl (We rfl) rfl (Xn (Vl hn) rfl)) rfl ?_
         refine Ve ?_
         refine Vf ?_
         refine Vd ?_
         obtain ⟨x42, h43, hF⟩ := Yf hF
         refine Va (Xg rfl) rfl ?_
         refine Vi (Vz (ps := [(q0, ⟨88, 2, [.agg [.vs 1 (Wa (Wb .u8) x42.1.l), .int .i64 x42.1.at_]], w0⟩)]) (r := .bool x42.2) (os := []) (low1 := (setL low0 [(q0, ⟨88, 2, [.agg [.vs 1 (Wa (Wb .u8) x42.1.l), .int .i64 x42.1.at_]], w0⟩)])) (loc1 := [⟨3, 1, Wa (Wb .i64) s31.2.1, 0⟩, ⟨31, 4, [.agg [.nils, .nils, .nils, .nils]], 0⟩, ⟨62, 2, [.agg [.nils, .nils]], 0⟩, ⟨64, 2, [.agg [.nils, .nils]], 0⟩, ⟨31, 4, [.agg [.sl (n + 6) 0 0 (s31.2.2.1.Mine.Places).length, .sl (n + 7) 0 0 (s31.2.2.1.Mine.Roads).length, .nils, .nils]], 0⟩, ⟨64, 2, [.agg [.sl (n + 8) 0 0 (s31.2.2.2.1.Pressures).length, .sl (n + 9) 0 0 (s31.2.2.2.1.Flows).length]], 0⟩, ⟨48, 2, Wa T_Place.enc s31.2.2.1.Mine.Places, 0⟩, ⟨46, 10, Wa T_Road.enc s31.2.2.1.Mine.Roads, 0⟩, ⟨3, 1, Wa (Wb .i64) s31.2.2.2.1.Pressures, 0⟩, ⟨3, 1, Wa (Wb .i64) s31.2.2.2.1.Flows, 0⟩, ⟨46, 10, [.agg [.int .i64 x40.2.From, .int .i64 x40.2.To, .int .i64 x40.2.Length, .int .i64 x40.2.Area, .bool x40.2.Walk, .bool x40.2.Closed, .int .i64 x40.2.Rest.Low, .int .i64 x40.2.Rest.High, .int .i64 x40.2.Lift.Low, .int .i64 x40.2.Lift.High]], 0⟩]) (loc2 := [⟨3, 1, Wa (Wb .i64) s31.2.1, 0⟩, ⟨31, 4, [.agg [.nils, .nils, .nils, .nils]], 0⟩, ⟨62, 2, [.agg [.nils, .nils]], 0⟩, ⟨64, 2, [.agg [.nils, .nils]], 0⟩, ⟨31, 4, [.agg [.sl (n + 6) 0 0 (s31.2.2.1.Mine.Places).length, .sl (n + 7) 0 0 (s31.2.2.1.Mine.Roads).length, .nils, .nils]], 0⟩, ⟨64, 2, [.agg [.sl (n + 8) 0 0 (s31.2.2.2.1.Pressures).length, .sl (n + 9) 0 0 (s31.2.2.2.1.Flows).length]], 0⟩, ⟨48, 2, Wa T_Place.enc s31.2.2.1.Mine.Places, 0⟩, ⟨46, 10, Wa T_Road.enc s31.2.2.1.Mine.Roads, 0⟩, ⟨3, 1, Wa (Wb .i64) s31.2.2.2.1.Pressures, 0⟩, ⟨3, 1, Wa (Wb .i64) s31.2.2.2.1.Flows, 0⟩, ⟨46, 10, [.agg [.int .i64 x40.2.From, .int .i64 x40.2.To, .int .i64 x40.2.Length, .int .i64 x40.2.Area, .bool x40.2.Walk, .bool x40.2.Closed, .int .i64 x40.2.Rest.Low, .int .i64 x40.2.Rest.High, .int .i64 x40.2.Lift.Low, .int .i64 x40.2.Lift.High]], 0⟩]) rfl Try.call25 (F_draw_Codes_One_ok h43 (nd1 na0 nd0) (Zb hB rfl 0 rfl) (Xs (Vl hn) rfl)) (Yk (ps0' := [(q0, ⟨88, 2, [.agg [.vs 1 (Wa (Wb .u8) x42.1.l), .int .i64 x42.1.at_]], w0⟩)]) hB rfl 0 rfl (Yo hn ⟨Vo ⟨.vs _ _, .int _ _, trivial⟩, trivial⟩) rfl Xf) rfl) rfl ?_
         refine Va (Vb rfl tf_46_5 ts_4 (by decide)) rfl ?_
         refine Vi (Vw (p := .bool x42.2) (e' := .agg [.int .i64 x40.2.From, .int .i64 x40.2.To, .int .i64 x40.2.Length, .int .i64 x40.2.Area, .bool x40.2.Walk, .bool x42.2, .int .i64 x40.2.Rest.Low, .int .i64 x40.2.Rest.High, .int .i64 x40.2.Lift.Low, .int .i64 x40.2.Lift.High]) rfl (Vg (Vl hn) rfl) rfl rfl ts_4 rfl (Yg rfl) rfl (We rfl) rfl (Xn (Vl hn) rfl)) rfl ?_
         refine Ve ?_
         refine Vf ?_
         refine Vd ?_
         obtain ⟨x44, h45, hF⟩ := Yf hF
         refine Va (Xg rfl) rfl ?_
         refine Vi (Vz (ps := [(q0, ⟨88, 2, [.agg [.vs 1 (Wa (Wb .u8) x44.1.l), .int .i64 x44.1.at_]], w0⟩)]) (r := .int .i64 x44.2) (os := []) (low1 := (setL low0 [(q0, ⟨88, 2, [.agg [.vs 1 (Wa (Wb .u8) x44.1.l), .int .i64 x44.1.at_]], w0⟩)])) (loc1 := [⟨3, 1, Wa (Wb .i64) s31.2.1, 0⟩, ⟨31, 4, [.agg [.nils, .nils, .nils, .nils]], 0⟩, ⟨62, 2, [.agg [.nils, .nils]], 0⟩, ⟨64, 2, [.agg [.nils, .nils]], 0⟩, ⟨31, 4, [.agg [.sl (n + 6) 0 0 (s31.2.2.1.Mine.Places).length, .sl (n + 7) 0 0 (s31.2.2.1.Mine.Roads).length, .nils, .nils]], 0⟩, ⟨64, 2, [.agg [.sl (n + 8) 0 0 (s31.2.2.2.1.Pressures).length, .sl (n + 9) 0 0 (s31.2.2.2.1.Flows).length]], 0⟩, ⟨48, 2, Wa T_Place.enc s31.2.2.1.Mine.Places, 0⟩, ⟨46, 10, Wa T_Road.enc s31.2.2.1.Mine.Roads, 0⟩, ⟨3, 1, Wa (Wb .i64) s31.2.2.2.1.Pressures, 0⟩, ⟨3, 1, Wa (Wb .i64) s31.2.2.2.1.Flows, 0⟩, ⟨46, 10, [.agg [.int .i64 x40.2.From, .int .i64 x40.2.To, .int .i64 x40.2.Length, .int .i64 x40.2.Area, .bool x40.2.Walk, .bool x42.2, .int .i64 x40.2.Rest.Low, .int .i64 x40.2.Rest.High, .int .i64 x40.2.Lift.Low, .int .i64 x40.2.Lift.High]], 0⟩]) (loc2 := [⟨3, 1, Wa (Wb .i64) s31.2.1, 0⟩, ⟨31, 4, [.agg [.nils, .nils, .nils, .nils]], 0⟩, ⟨62, 2, [.agg [.nils, .nils]], 0⟩, ⟨64, 2, [.agg [.nils, .nils]], 0⟩, ⟨31, 4, [.agg [.sl (n + 6) 0 0 (s31.2.2.1.Mine.Places).length, .sl (n + 7) 0 0 (s31.2.2.1.Mine.Roads).length, .nils, .nils]], 0⟩, ⟨64, 2, [.agg [.sl (n + 8) 0 0 (s31.2.2.2.1.Pressures).length, .sl (n + 9) 0 0 (s31.2.2.2.1.Flows).length]], 0⟩, ⟨48, 2, Wa T_Place.enc s31.2.2.1.Mine.Places, 0⟩, ⟨46, 10, Wa T_Road.enc s31.2.2.1.Mine.Roads, 0⟩, ⟨3, 1, Wa (Wb .i64) s31.2.2.2.1.Pressures, 0⟩, ⟨3, 1, Wa (Wb .i64) s31.2.2.2.1.Flows, 0⟩, ⟨46, 10, [.agg [.int .i64 x40.2.From, .int .i64 x40.2.To, .int .i64 x40.2.Length, .int .i64 x40.2.Area, .bool x40.2.Walk, .bool x42.2, .int .i64 x40.2.Rest.Low, .int .i64 x40.2.Rest.High, .int .i64 x40.2.Lift.Low, .int .i64 x40.2.Lift.High]], 0⟩]) rfl Try.call28 (F_draw_Codes_Range_ok h45 (nd1 na0 nd0) (Zb hB rfl 0 rfl) (Xs (Vl hn) rfl)) (Yk (ps0' := [(q0, ⟨88, 2, [.agg [.vs 1 (Wa (Wb .u8) x44.1.l), .int .i64 x44.1.at_]], w0⟩)]) hB rfl 0 rfl (Yo hn ⟨Vo ⟨.vs _ _, .int _ _, trivial⟩, trivial⟩) rfl Xf) rfl) rfl ?_
         refine Va (Xv rfl) rfl ?_
         refine Ve ?_
         refine Vf ?_
         refine Vf ?_
         refine Vd ?_
         refine Va (Vb rfl tf_46_5 ts_4 (by decide)) rfl ?_
         refine Va (Vj rfl (Vg (Vl hn) rfl) rfl ta_4 rfl) rfl ?_
         refine Ve ?_
         obtain ⟨o46, ho46, hF⟩ := Yf hF
         refine Vs (Q' := (fun o46 => OnlyE .normal (fun E' lw lc => Xz E' lw lc [(0, .ptr q0 w0 0 0), (2, .ptr (n + 2) 0 0 0), (3, .ptr (n + 3) 0 0 0), (4, .ptr (n + 4) 0 0 0), (5, .ptr (n + 5) 0 0 0), (6, .int .i64 ((o3).length : Int)), (8, .int .i64 ((o10.1).length : Int)), (9, .ptr (n + 6) 0 0 0), (11, .sl (n + 0) 0 0 (s31.2.1).length), (12, .int .i64 s31.1), (14, .ptr (n + 1) 0 0 0), (15, .int .i64 o46.1)] (setL low0 [(q0, ⟨88, 2, [.agg [.vs 1 (Wa (Wb .u8) x44.1.l), .int .i64 x44.1.at_]], w0⟩)]) [⟨3, 1, Wa (Wb .i64) s31.2.1, 0⟩, ⟨46, 10, [.agg [.int .i64 x40.2.From, .int .i64 x40.2.To, .int .i64 x40.2.Length, .int .i64 x40.2.Area, .bool x40.2.Walk, .bool x42.2, .int .i64 x40.2.Rest.Low, .int .i64 x40.2.Rest.High, .int .i64 x40.2.Lift.Low, .int .i64 x40.2.Lift.High]], 0⟩, ⟨31, 4, [.agg [.nils, .nils, .nils, .nils]], 0⟩, ⟨62, 2, [.agg [.nils, .nils]], 0⟩, ⟨64, 2, [.agg [.nils, .nils]], 0⟩, ⟨31, 4, [.agg [.sl (n + 7) 0 0 (o46.2.1.Mine.Places).length, .sl (n + 8) 0 0 (o46.2.1.Mine.Roads).length, .nils, .nils]], 0⟩, ⟨64, 2, [.agg [.sl (n + 9) 0 0 (o46.2.2.Pressures).length, .sl (n + 10) 0 0 (o46.2.2.Flows).length]], 0⟩, ⟨48, 2, Wa T_Place.enc o46.2.1.Mine.Places, 0⟩, ⟨46, 10, Wa T_Road.enc o46.2.1.Mine.Roads, 0⟩, ⟨3, 1, Wa (Wb .i64) o46.2.2.Pressures, 0⟩, ⟨3, 1, Wa (Wb .i64) o46.2.2.Flows, 0⟩])) o46) ?_ ?_
         ·replace hF := ho46
          refine Xi rfl (fun c47 => ?_) (fun c47 => ?_)
          ·have hF := Yq c47 hF
           refine Vd ?_
           refine Va (Xv rfl) rfl ?_
           refine Ve ?_
           obtain rfl := Wd hF
           refine Xk ?_
           exact Vm (Vl hn) [(0, 0), (10, 0), (1, 0), (2, 0), (3, 0), (4, 0), (5, 0), (6, 0), (7, 0), (8, 0), (9, 0)] (by decide) ⟨Vh rfl (.ptr _ _ _ _ hq0), Vt 2 1 rfl rfl, Vt 3 2 rfl rfl, Vt 4 3 rfl rfl, Vt 5 4 rfl rfl, Vh rfl (.int _ _), Vh rfl (.int _ _), Vt 6 5 rfl rfl, Yc 0 0 rfl rfl, Vh rfl (.int _ _), Vt 1 10 rfl rfl, Vh rfl (.int _ _), trivial⟩ ⟨⟨_, rfl, rfl, .same _ _ _ _ (Vq (fun _ => .int _ _))⟩, ⟨_, rfl, rfl, .same _ _ _ _ (Vn ⟨Vo ⟨.int _ _, .int _ _, .int _ _, .int _ _, .bool _, .bool _, .int _ _, .int _ _, .int _ _, .int _ _, trivial⟩, trivial⟩)⟩, ⟨_, rfl, rfl, .same _ _ _ _ (Vn ⟨Vo ⟨.nils, .nils, .nils, .nils, trivial⟩, trivial⟩)⟩, ⟨_, rfl, rfl, .same _ _ _ _ (Vn ⟨Vo ⟨.nils, .nils, trivial⟩, trivial⟩)⟩, ⟨_, rfl, rfl, .same _ _ _ _ (Vn ⟨Vo ⟨.nils, .nils, trivial⟩, trivial⟩)⟩, ⟨_, rfl, rfl, .agg _ _ _ _ _ ⟨Yc 7 6 rfl rfl, Yc 8 7 rfl rfl, Vh rfl (.nils), Vh rfl (.nils), trivial⟩⟩, ⟨_, rfl, rfl, .agg _ _ _ _ _ ⟨Yc 9 8 rfl rfl, Yc 10 9 rfl rfl, trivial⟩⟩, ⟨_, rfl, rfl, .same _ _ _ _ (Vq T_Place.enc_lt)⟩, ⟨_, rfl, rfl, .same _ _ _ _ (Vq T_Road.enc_lt)⟩, ⟨_, rfl, rfl, .same _ _ _ _ (Vq (fun _ => .int _ _))⟩, ⟨_, rfl, rfl, .same _ _ _ _ (Vq (fun _ => .int _ _))⟩, trivial⟩
          ·have hF := Yr c47 hF
           refine Xj ?_
           obtain rfl := Wd hF
           refine Xk ?_
           exact Vm (Vl hn) [(0, 0), (10, 0), (1, 0), (2, 0), (3, 0), (4, 0), (5, 0), (6, 0), (7, 0), (8, 0), (9, 0)] (by decide) ⟨Vh rfl (.ptr _ _ _ _ hq0), Vt 2 1 rfl rfl, Vt 3 2 rfl rfl, Vt 4 3 rfl rfl, Vt 5 4 rfl rfl, Vh rfl (.int _ _), Vh rfl (.int _ _), Vt 6 5 rfl rfl, Yc 0 0 rfl rfl, Vh rfl (.int _ _), Vt 1 10 rfl rfl, Vh rfl (.int _ _), trivial⟩ ⟨⟨_, rfl, rfl, .same _ _ _ _ (Vq (fun _ => .int _ _))⟩, ⟨_, rfl, rfl, .same _ _ _ _ (Vn ⟨Vo ⟨.int _ _, .int _ _, .int _ _, .int _ _, .bool _, .bool _, .int _ _, .int _ _, .int _ _, .int _ _, trivial⟩, trivial⟩)⟩, ⟨_, rfl, rfl, .same _ _ _ _ (Vn ⟨Vo ⟨.nils, .nils, .nils, .nils, trivial⟩, trivial⟩)⟩, ⟨_, rfl, rfl, .same _ _ _ _ (Vn ⟨Vo ⟨.nils, .nils, trivial⟩, trivial⟩)⟩, ⟨_, rfl, rfl, .same _ _ _ _ (Vn ⟨Vo ⟨.nils, .nils, trivial⟩, trivial⟩)⟩, ⟨_, rfl, rfl, .agg _ _ _ _ _ ⟨Yc 7 6 rfl rfl, Yc 8 7 rfl rfl, Vh rfl (.nils), Vh rfl (.nils), trivial⟩⟩, ⟨_, rfl, rfl, .agg _ _ _ _ _ ⟨Yc 9 8 rfl rfl, Yc 10 9 rfl rfl, trivial⟩⟩, ⟨_, rfl, rfl, .same _ _ _ _ (Vq T_Place.enc_lt)⟩, ⟨_, rfl, rfl, .same _ _ _ _ (Vq T_Road.enc_lt)⟩, ⟨_, rfl, rfl, .same _ _ _ _ (Vq (fun _ => .int _ _))⟩, ⟨_, rfl, rfl, .same _ _ _ _ (Vq (fun _ => .int _ _))⟩, trivial⟩
         ·rintro _ _ _ _ ⟨rfl, hw⟩
          refine ⟨_, _, _, hw, ?_⟩
          refine Vf ?_
          obtain ⟨x48, h49, hF⟩ := Yf hF
          obtain ⟨x50, h51, hF⟩ := Yf hF
          refine Zn [[], [0], [0, 1], [], [3], [0, 1, 2, 3, 4], [], [6], [], [8], [0, 1, 2, 3, 4, 5, 6, 7, 8, 9], [0, 1, 2, 3, 4, 5, 6, 7, 8, 9, 10], [0, 1, 2, 3, 4, 5, 6, 7, 8, 9, 10, 11], [0, 1, 2, 3, 4, 5, 6, 7, 8, 9, 10, 11, 12], [0, 1, 2, 3, 4, 5, 6, 7, 8, 9, 10, 11, 12, 13], [0, 1, 2, 3, 4, 5, 6, 7, 8, 9, 10, 11, 12, 13, 14]] [false, false, false, false, false, true, false, false, false, false, true, false, false, true, false, true] [((setL low0 [(q0, ⟨88, 2, [.agg [.vs 1 (Wa (Wb .u8) x44.1.l), .int .i64 x44.1.at_]], w0⟩)]), [⟨3, 1, Wa (Wb .i64) s31.2.1, 0⟩, ⟨46, 10, [.agg [.int .i64 x40.2.From, .int .i64 x40.2.To, .int .i64 x40.2.Length, .int .i64 x40.2.Area, .bool x40.2.Walk, .bool x42.2, .int .i64 x40.2.Rest.Low, .int .i64 x40.2.Rest.High, .int .i64 x40.2.Lift.Low, .int .i64 x40.2.Lift.High]], 0⟩, ⟨31, 4, [.agg [.nils, .nils, .nils, .nils]], 0⟩, ⟨62, 2, [.agg [.nils, .nils]], 0⟩, ⟨64, 2, [.agg [.nils, .nils]], 0⟩, ⟨31, 4, [.agg [.sl (n + 7) 0 0 (o46.2.1.Mine.Places).length, .sl (n + 8) 0 0 (o46.2.1.Mine.Roads).length, .nils, .nils]], 0⟩, ⟨64, 2, [.agg [.sl (n + 9) 0 0 (o46.2.2.Pressures).length, .sl (n + 10) 0 0 (o46.2.2.Flows).length]], 0⟩, ⟨48, 2, Wa T_Place.enc o46.2.1.Mine.Places, 0⟩, ⟨46, 10, Wa T_Road.enc o46.2.1.Mine.Roads, 0⟩, ⟨3, 1, Wa (Wb .i64) o46.2.2.Pressures, 0⟩, ⟨3, 1, Wa (Wb .i64) o46.2.2.Flows, 0⟩]), ((setL low0 [(q0, ⟨88, 2, [.agg [.vs 1 (Wa (Wb .u8) x44.1.l), .int .i64 x44.1.at_]], w0⟩)]), [⟨3, 1, Wa (Wb .i64) s31.2.1, 0⟩, ⟨46, 10, [.agg [.int .i64 x40.2.From, .int .i64 x40.2.To, .int .i64 x40.2.Length, .int .i64 x40.2.Area, .bool x40.2.Walk, .bool x42.2, .int .i64 x40.2.Rest.Low, .int .i64 x40.2.Rest.High, .int .i64 x40.2.Lift.Low, .int .i64 x40.2.Lift.High]], 0⟩, ⟨31, 4, [.agg [.nils, .nils, .nils, .nils]], 0⟩, ⟨62, 2, [.agg [.nils, .nils]], 0⟩, ⟨64, 2, [.agg [.nils, .nils]], 0⟩, ⟨31, 4, [.agg [.sl (n + 7) 0 0 (o46.2.1.Mine.Places).length, .sl (n + 8) 0 0 (o46.2.1.Mine.Roads).length, .nils, .nils]], 0⟩, ⟨64, 2, [.agg [.sl (n + 9) 0 0 (o46.2.2.Pressures).length, .sl (n + 10) 0 0 (o46.2.2.Flows).length]], 0⟩, ⟨48, 2, Wa T_Place.enc o46.2.1.Mine.Places, 0⟩, ⟨46, 10, Wa T_Road.enc x48, 0 + 1⟩, ⟨3, 1, Wa (Wb .i64) o46.2.2.Pressures, 0⟩, ⟨3, 1, Wa (Wb .i64) o46.2.2.Flows, 0⟩]), ((setL low0 [(q0, ⟨88, 2, [.agg [.vs 1 (Wa (Wb .u8) x44.1.l), .int .i64 x44.1.at_]], w0⟩)]), [⟨3, 1, Wa (Wb .i64) s31.2.1, 0⟩, ⟨46, 10, [.agg [.int .i64 x40.2.From, .int .i64 x40.2.To, .int .i64 x40.2.Length, .int .i64 x40.2.Area, .bool x40.2.Walk, .bool x42.2, .int .i64 x40.2.Rest.Low, .int .i64 x40.2.Rest.High, .int .i64 x40.2.Lift.Low, .int .i64 x40.2.Lift.High]], 0⟩, ⟨31, 4, [.agg [.nils, .nils, .nils, .nils]], 0⟩, ⟨62, 2, [.agg [.nils, .nils]], 0⟩, ⟨64, 2, [.agg [.nils, .nils]], 0⟩, ⟨31, 4, [.agg [.sl (n + 7) 0 0 (o46.2.1.Mine.Places).length, .sl (n + 8) 0 0 (o46.2.1.Mine.Roads).length, .nils, .nils]], 0⟩, ⟨64, 2, [.agg [.sl (n + 9) 0 0 (o46.2.2.Pressures).length, .sl (n + 10) 0 0 (o46.2.2.Flows).length]], 0⟩, ⟨48, 2, Wa T_Place.enc o46.2.1.Mine.Places, 0⟩, ⟨46, 10, Wa T_Road.enc x48, 0 + 1⟩, ⟨3, 1, Wa (Wb .i64) o46.2.2.Pressures, 0⟩, ⟨3, 1, Wa (Wb .i64) x50, 0 + 1⟩]), ((setL low0 [(q0, ⟨88, 2, [.agg [.vs 1 (Wa (Wb .u8) x44.1.l), .int .i64 x44.1.at_]], w0⟩)]), [⟨3, 1, Wa (Wb .i64) s31.2.1, 0⟩, ⟨46, 10, [.agg [.int .i64 x40.2.From, .int .i64 x40.2.To, .int .i64 x40.2.Length, .int .i64 x40.2.Area, .bool x40.2.Walk, .bool x42.2, .int .i64 x40.2.Rest.Low, .int .i64 x40.2.Rest.High, .int .i64 x40.2.Lift.Low, .int .i64 x40.2.Lift.High]], 0⟩, ⟨31, 4, [.agg [.nils, .nils, .nils, .nils]], 0⟩, ⟨62, 2, [.agg [.nils, .nils]], 0⟩, ⟨64, 2, [.agg [.nils, .nils]], 0⟩, ⟨31, 4, [.agg [.sl (n + 7) 0 0 (o46.2.1.Mine.Places).length, .sl (n + 8) (0 + 1) 0 (x48).length, .nils, .nils]], 0⟩, ⟨64, 2, [.agg [.sl (n + 9) 0 0 (o46.2.2.Pressures).length, .sl (n + 10) 0 0 (o46.2.2.Flows).length]], 0⟩, ⟨48, 2, Wa T_Place.enc o46.2.1.Mine.Places, 0⟩, ⟨46, 10, Wa T_Road.enc x48, 0 + 1⟩, ⟨3, 1, Wa (Wb .i64) o46.2.2.Pressures, 0⟩, ⟨3, 1, Wa (Wb .i64) x50, 0 + 1⟩]), ((setL low0 [(q0, ⟨88, 2, [.agg [.vs 1 (Wa (Wb .u8) x44.1.l), .int .i64 x44.1.at_]], w0⟩)]), [⟨3, 1, Wa (Wb .i64) s31.2.1, 0⟩, ⟨46, 10, [.agg [.int .i64 x40.2.From, .int .i64 x40.2.To, .int .i64 x40.2.Length, .int .i64 x40.2.Area, .bool x40.2.Walk, .bool x42.2, .int .i64 x40.2.Rest.Low, .int .i64 x40.2.Rest.High, .int .i64 x40.2.Lift.Low, .int .i64 x40.2.Lift.High]], 0⟩, ⟨31, 4, [.agg [.nils, .nils, .nils, .nils]], 0⟩, ⟨62, 2, [.agg [.nils, .nils]], 0⟩, ⟨64, 2, [.agg [.nils, .nils]], 0⟩, ⟨31, 4, [.agg [.sl (n + 7) 0 0 (o46.2.1.Mine.Places).length, .sl (n + 8) (0 + 1) 0 (x48).length, .nils, .nils]], 0⟩, ⟨64, 2, [.agg [.sl (n + 9) 0 0 (o46.2.2.Pressures).length, .sl (n + 10) (0 + 1) 0 (x50).length]], 0⟩, ⟨48, 2, Wa T_Place.enc o46.2.1.Mine.Places, 0⟩, ⟨46, 10, Wa T_Road.enc x48, 0 + 1⟩, ⟨3, 1, Wa (Wb .i64) o46.2.2.Pressures, 0⟩, ⟨3, 1, Wa (Wb .i64) x50, 0 + 1⟩])] mixed (by kernel_rfl) rfl (lenAll (Vv Xp (Vv Xp (Vv Xp (Vv Xp (Vv Xp Yw)))))) rfl _ rfl rfl ?_
          refine Yd rfl rfl (Vb rfl tf_31_0 ts_27 (by decide)) ?_
          refine Yd rfl rfl (Vb rfl tf_27_1 ts_25 (by decide)) ?_
          refine Yd rfl rfl (Vj rfl (Vg (Vl hn) rfl) rfl ta_25 rfl) ?_
          refine Yd rfl rfl (Xa (ds := [.int .i64 x40.2.From, .int .i64 x40.2.To, .int .i64 x40.2.Length, .int .i64 x40.2.Area, .bool x40.2.Walk, .bool x42.2, .int .i64 x40.2.Rest.Low, .int .i64 x40.2.Rest.High, .int .i64 x40.2.Lift.Low, .int .i64 x40.2.Lift.High]) rfl (Vg (Vl hn) rfl) rfl ta_46 ts_46 rfl rfl rfl) ?_
          refine dn1 rfl rfl (nt_of (Yt (es := Wa T_Road.enc [(T_Road.mk x40.2.From x40.2.To x40.2.Length x40.2.Area x40.2.Walk x42.2 x40.2.Rest x40.2.Lift)]) ⟨rfl, rfl, trivial⟩ rfl rfl (Zm rfl) te_25 ts_46 tz_46 rfl rfl (Wf _) (by decide) (Ym T_Road.enc_lt))) ?_
          refine Ya rfl rfl rfl (Zw (f := T_Road.enc) (l := o46.2.1.Mine.Roads) (ys := [(T_Road.mk x40.2.From x40.2.To x40.2.Length x40.2.Area x40.2.Walk x42.2 x40.2.Rest x40.2.Lift)]) rfl rfl (Vg (Vl hn) rfl) rfl (src_vs rfl) te_25 ts_46 tb_46 (by decide) tz_46 rfl h49 (Xn (Vl hn) rfl)) ?_
          refine Vx _ rfl rfl (Vv (VRd.ntl (Vb rfl tf_64_1 ts_32 (by decide))) (Vv (VRd.ntl (Vb rfl tf_64_1 ts_32 (by decide))) Yw)) ?_
          refine Vx _ rfl rfl (Vv (VRd.ntl (Vj rfl (Vg (Vl hn) rfl) rfl ta_32 rfl)) (Vv (VRd.ntl (Vj rfl (Vg (Vl hn) rfl) rfl ta_32 rfl)) Yw)) ?_
          refine Vx _ rfl rfl (Vv (VRd.ntl (Vk rfl)) (Vv (VRd.ntl (Vk rfl)) Yw)) ?_
          refine Vx _ rfl rfl (Vv (nt_of (Yt (es := Wa (Wb .i64) [o46.1]) ⟨rfl, rfl, trivial⟩ rfl rfl (Zm rfl) te_32 ts_3 tz_3 rfl rfl (Wf _) (by decide) (Ym (fun _ => .int _ _)))) (Vv (nt_of (Yt (es := Wa (Wb .i64) [o46.1]) ⟨rfl, rfl, trivial⟩ rfl rfl (Zm rfl) te_32 ts_3 tz_3 rfl rfl (Wf _) (by decide) (Ym (fun _ => .int _ _)))) Yw)) ?_
          refine Ya rfl rfl rfl (Zw (f := (Wb .i64)) (l := o46.2.2.Flows) (ys := [o46.1]) rfl rfl (Vg (Vl hn) rfl) rfl (src_vs rfl) te_32 ts_3 tb_3 (by decide) tz_3 rfl h51 (Xn (Vl hn) rfl)) ?_
          refine Yd rfl rfl (Vb rfl tf_31_0 ts_27 (by decide)) ?_
          refine Yd rfl rfl (Vb rfl tf_27_1 ts_25 (by decide)) ?_
          refine Ya rfl rfl rfl (Vw (p := .sl (n + 8) (0 + 1) 0 (x48).length) (e' := .agg [.sl (n + 7) 0 0 (o46.2.1.Mine.Places).length, .sl (n + 8) (0 + 1) 0 (x48).length, .nils, .nils]) rfl (Vg (Vl hn) rfl) rfl rfl ts_25 rfl (Yg rfl) rfl (We rfl) rfl (Xn (Vl hn) rfl)) ?_
          refine Yd rfl rfl (Vb rfl tf_64_1 ts_32 (by decide)) ?_
          refine Ya rfl rfl rfl (Vw (p := .sl (n + 10) (0 + 1) 0 (x50).length) (e' := .agg [.sl (n + 9) 0 0 (o46.2.2.Pressures).length, .sl (n + 10) (0 + 1) 0 (x50).length]) rfl (Vg (Vl hn) rfl) rfl rfl ts_32 rfl (Yg rfl) rfl (We rfl) rfl (Xn (Vl hn) rfl)) ?_
          refine Yx ?_
          refine Vf ?_
          refine Vd ?_
          obtain ⟨x52, h53, hF⟩ := Yf hF
          obtain ⟨x54, h55, hF⟩ := Yf hF
          refine Va (Yn rfl) rfl ?_
          refine Va (Vb rfl tf_46_0 ts_3 (by decide)) rfl ?_
          refine Va (Vj rfl (Vg (Vl hn) rfl) rfl ta_3 rfl) rfl ?_
          refine Va (Zr rfl rfl rfl (Vg (Vl hn) rfl) h53 te_32 ts_3) rfl ?_
          refine Va (Zs rfl (Vg (Vl hn) rfl) (Yi h53).2 ta_3 rfl) rfl ?_
          refine Va (Vk rfl) rfl ?_
          refine Va (Zf rfl rfl rfl) rfl ?_
          refine Va (Zr rfl rfl rfl (Vg (Vl hn) rfl) h55 te_32 ts_3) rfl ?_
          refine Vi (vef_stL (p := .int .i64 (IntKind.i64.wrap (x52 + o46.1))) (e' := (IntKind.i64.wrap (x52 + o46.1))) rfl (Vg (Vl hn) rfl) (Yi h55).2 rfl ts_3 rfl (Yg rfl) (We rfl) rfl (Xn (Vl hn) rfl)) rfl ?_
          refine Ve ?_
          refine Vd ?_
          obtain ⟨x56, h57, hF⟩ := Yf hF
          obtain ⟨x58, h59, hF⟩ := Yf hF
          refine Va (Yn rfl) rfl ?_
          refine Va (Vb rfl tf_46_1 ts_3 (by decide)) rfl ?_
          refine Va (Vj rfl (Vg (Vl hn) rfl) rfl ta_3 rfl) rfl ?_
          refine Va (Zr rfl (Eq.trans rfl List.length_set.symm) rfl (Vg (Vl hn) rfl) h57 te_32 ts_3) rfl ?_
          refine Va (Zs rfl (Vg (Vl hn) rfl) (Yi h57).2 ta_3 rfl) rfl ?_
          refine Va (Vk rfl) rfl ?_
          refine Va (Zp rfl rfl rfl) rfl ?_
          refine Va (Zr rfl (Eq.trans rfl List.length_set.symm) rfl (Vg (Vl hn) rfl) h59 te_32 ts_3) rfl ?_
          refine Vi (vef_stL (p := .int .i64 (IntKind.i64.wrap (x56 - o46.1))) (e' := (IntKind.i64.wrap (x56 - o46.1))) rfl (Vg (Vl hn) rfl) (Yi h59).2 rfl ts_3 rfl (Yg rfl) (We rfl) rfl (Xn (Vl hn) rfl)) rfl ?_
          refine Ve ?_
          refine Vd ?_
          refine Va (Vk rfl) rfl ?_
          refine Va (Zp rfl rfl rfl) rfl ?_
          refine Va (Xv rfl) rfl ?_
          refine Ve ?_
          obtain rfl := Wd hF
          refine Xk ?_
          exact Vm (Vl hn) [(0, 0), (2, 0), (3, 0), (4, 0), (5, 0), (6, 0), (7, 0), (8, 0 + 1), (9, 0), (10, 0 + 1)] (by decide) ⟨Vh rfl (.ptr _ _ _ _ hq0), Vt 1 2 rfl rfl, Vt 2 3 rfl rfl, Vt 3 4 rfl rfl, Vt 4 5 rfl rfl, Vh rfl (.int _ _), Vh rfl (.int _ _), Vt 5 6 rfl rfl, Yc 0 0 rfl (congrArg (PV.sl _ _ 0) (Eq.trans (Eq.trans rfl List.length_set.symm) List.length_set.symm)), Vh rfl (.int _ _), trivial⟩ ⟨⟨_, rfl, rfl, .same _ _ _ _ (Vq (fun _ => .int _ _))⟩, ⟨_, rfl, rfl, .same _ _ _ _ (Vn ⟨Vo ⟨.nils, .nils, .nils, .nils, trivial⟩, trivial⟩)⟩, ⟨_, rfl, rfl, .same _ _ _ _ (Vn ⟨Vo ⟨.nils, .nils, trivial⟩, trivial⟩)⟩, ⟨_, rfl, rfl, .same _ _ _ _ (Vn ⟨Vo ⟨.nils, .nils, trivial⟩, trivial⟩)⟩, ⟨_, rfl, rfl, .agg _ _ _ _ _ ⟨Yc 6 7 rfl rfl, Yc 7 8 rfl rfl, Vh rfl (.nils), Vh rfl (.nils), trivial⟩⟩, ⟨_, rfl, rfl, .agg _ _ _ _ _ ⟨Yc 8 9 rfl rfl, Yc 9 10 rfl rfl, trivial⟩⟩, ⟨_, rfl, rfl, .same _ _ _ _ (Vq T_Place.enc_lt)⟩, ⟨_, rfl, rfl, .same _ _ _ _ (Vq T_Road.enc_lt)⟩, ⟨_, rfl, rfl, .same _ _ _ _ (Vq (fun _ => .int _ _))⟩, ⟨_, rfl, rfl, .same _ _ _ _ (Vq (fun _ => .int _ _))⟩, trivial⟩
        ·have hF := Yr c33 hF
         refine Zd ?_
         obtain rfl := Wd hF
         refine Xk ?_
         exact Vp ⟨rfl, rfl, rfl, rfl, rfl, rfl, rfl, rfl, rfl, trivial⟩
       ·rintro _ _ _ _ ⟨rfl, hw⟩
        refine ⟨_, _, _, hw, ?_⟩
        obtain rfl := Wd hF
        refine Xk ?_
        exact Vp ⟨rfl, rfl, rfl, rfl, rfl, rfl, rfl, rfl, rfl, trivial⟩
      ·have hF := Yr c28 hF
       refine Xj ?_
       obtain rfl := Wd hF
       refine Xk ?_
       refine Weak.trans (weak_nil (E' := [(0, .ptr q0 w0 0 0), (2, .ptr (n + 0) 0 0 0), (3, .ptr (n + 1) 0 0 0), (4, .ptr (n + 2) 0 0 0), (5, .ptr (n + 3) 0 0 0), (6, .int .i64 ((o3).length : Int)), (8, .int .i64 ((o10.1).length : Int)), (9, .ptr (n + 4) 0 0 0), (11, .sl (n + 7) 0 0 (x25).length)]) (loc1 := [⟨31, 4, [.agg [.nils, .nils, .nils, .nils]], 0⟩, ⟨62, 2, [.agg [.nils, .nils]], 0⟩, ⟨64, 2, [.agg [.nils, .nils]], 0⟩, ⟨31, 4, [.agg [.sl (n + 5) 0 0 (o10.1).length, .sl (n + 8) 0 0 (([] : List T_Road)).length, .nils, .nils]], 0⟩, ⟨64, 2, [.agg [.sl (n + 6) 0 0 (o19.1).length, .nils]], 0⟩, ⟨48, 2, Wa T_Place.enc o10.1, 0⟩, ⟨3, 1, Wa (Wb .i64) o19.1, 0⟩, ⟨3, 1, Wa (Wb .i64) x25, 0⟩]) (Vl hn) rfl 46 10 (Wf _) ⟨Xb rfl, Xb rfl, Xb rfl, Xb rfl, Xb rfl, Xb rfl, Xb rfl, Xb rfl, Xb rfl, trivial⟩ ⟨.same _, .same _, .same _, .agg _ _ _ _ _ ⟨Xb rfl, nn_nil rfl, Xb rfl, Xb rfl, trivial⟩, .same _, .same _, .same _, .same _, trivial⟩) ?_
       refine Weak.trans (weak_nil (E' := [(0, .ptr q0 w0 0 0), (2, .ptr (n + 0) 0 0 0), (3, .ptr (n + 1) 0 0 0), (4, .ptr (n + 2) 0 0 0), (5, .ptr (n + 3) 0 0 0), (6, .int .i64 ((o3).length : Int)), (8, .int .i64 ((o10.1).length : Int)), (9, .ptr (n + 4) 0 0 0), (11, .sl (n + 7) 0 0 (x25).length)]) (loc1 := [⟨31, 4, [.agg [.nils, .nils, .nils, .nils]], 0⟩, ⟨62, 2, [.agg [.nils, .nils]], 0⟩, ⟨64, 2, [.agg [.nils, .nils]], 0⟩, ⟨31, 4, [.agg [.sl (n + 5) 0 0 (o10.1).length, .sl (n + 8) 0 0 (([] : List T_Road)).length, .nils, .nils]], 0⟩, ⟨64, 2, [.agg [.sl (n + 6) 0 0 (o19.1).length, .sl (n + 9) 0 0 (([] : List Int)).length]], 0⟩, ⟨48, 2, Wa T_Place.enc o10.1, 0⟩, ⟨3, 1, Wa (Wb .i64) o19.1, 0⟩, ⟨3, 1, Wa (Wb .i64) x25, 0⟩, ⟨46, 10, Wa T_Road.enc ([] : List T_Road), 0⟩]) (Vl hn) rfl 3 1 (Wf _) ⟨Xb rfl, Xb rfl, Xb rfl, Xb rfl, Xb rfl, Xb rfl, Xb rfl, Xb rfl, Xb rfl, trivial⟩ ⟨.same _, .same _, .same _, .same _, .agg _ _ _ _ _ ⟨Xb rfl, nn_nil rfl, trivial⟩, .same _, .same _, .same _, .same _, trivial⟩) ?_
       exact Vm (Vl hn) [(7, 0), (0, 0), (1, 0), (2, 0), (3, 0), (4, 0), (5, 0), (8, 0), (6, 0), (9, 0)] (by decide) ⟨Vh rfl (.ptr _ _ _ _ hq0), Vt 1 0 rfl rfl, Vt 2 1 rfl rfl, Vt 3 2 rfl rfl, Vt 4 3 rfl rfl, Vh rfl (.int _ _), Vh rfl (.int _ _), Vt 5 4 rfl rfl, Yc 0 7 rfl rfl, trivial⟩ ⟨⟨_, rfl, rfl, .same _ _ _ _ (Vq (fun _ => .int _ _))⟩, ⟨_, rfl, rfl, .same _ _ _ _ (Vn ⟨Vo ⟨.nils, .nils, .nils, .nils, trivial⟩, trivial⟩)⟩, ⟨_, rfl, rfl, .same _ _ _ _ (Vn ⟨Vo ⟨.nils, .nils, trivial⟩, trivial⟩)⟩, ⟨_, rfl, rfl, .same _ _ _ _ (Vn ⟨Vo ⟨.nils, .nils, trivial⟩, trivial⟩)⟩, ⟨_, rfl, rfl, .agg _ _ _ _ _ ⟨Yc 6 5 rfl rfl, Yc 7 8 rfl rfl, Vh rfl (.nils), Vh rfl (.nils), trivial⟩⟩, ⟨_, rfl, rfl, .agg _ _ _ _ _ ⟨Yc 8 6 rfl rfl, Yc 9 9 rfl rfl, trivial⟩⟩, ⟨_, rfl, rfl, .same _ _ _ _ (Vq T_Place.enc_lt)⟩, ⟨_, rfl, rfl, .same _ _ _ _ (Vn trivial)⟩, ⟨_, rfl, rfl, .same _ _ _ _ (Vq (fun _ => .int _ _))⟩, ⟨_, rfl, rfl, .same _ _ _ _ (Vn trivial)⟩, trivial⟩
     ·rintro _ _ _ _ ⟨rfl, hw⟩
      refine ⟨_, _, _, hw, ?_⟩
      refine Vf ?_
      refine Vf ?_
      refine Vd ?_
      refine Va (Vk rfl) rfl ?_
      refine Va (Xv rfl) rfl ?_
      refine Ve ?_
      refine Xh ?_
      obtain ⟨o61, ho61, hF⟩ := Yf hF
      refine Vs (Yy (F_draw_Codes_Made_L4 o3 o10 o27) (fun s60 E' lw lc => Xz E' lw lc [(0, .ptr q0 w0 0 0), (2, .ptr (n + 1) 0 0 0), (3, .ptr (n + 2) 0 0 0), (4, .ptr (n + 3) 0 0 0), (5, .ptr (n + 4) 0 0 0), (6, .int .i64 ((o3).length : Int)), (8, .int .i64 ((o10.1).length : Int)), (9, .ptr (n + 5) 0 0 0), (11, .sl (n + 0) 0 0 (o27.1).length), (16, .int .i64 s60.1)] (setL low0 [(q0, ⟨88, 2, [.agg [.vs 1 (Wa (Wb .u8) s60.2.2.2.l), .int .i64 s60.2.2.2.at_]], w0⟩)]) [⟨3, 1, Wa (Wb .i64) o27.1, 0⟩, ⟨31, 4, [.agg [.nils, .nils, .nils, .nils]], 0⟩, ⟨62, 2, [.agg [.nils, .nils]], 0⟩, ⟨64, 2, [.agg [.nils, .nils]], 0⟩, ⟨31, 4, [.agg [.sl (n + 6) 0 0 (s60.2.1.Mine.Places).length, .sl (n + 7) 0 0 (s60.2.1.Mine.Roads).length, .nils, .nils]], 0⟩, ⟨64, 2, [.agg [.sl (n + 8) 0 0 (s60.2.2.1.Pressures).length, .sl (n + 9) 0 0 (s60.2.2.1.Flows).length]], 0⟩, ⟨48, 2, Wa T_Place.enc s60.2.1.Mine.Places, 0⟩, ⟨46, 10, Wa T_Road.enc s60.2.1.Mine.Roads, 0⟩, ⟨3, 1, Wa (Wb .i64) s60.2.2.1.Pressures, 0⟩, ⟨3, 1, Wa (Wb .i64) s60.2.2.1.Flows, 0⟩]) (fun o61 => OnlyE (.exit 6) (fun E' lw lc => Xz E' lw lc [(0, .ptr q0 w0 0 0), (2, .ptr (n + 0) 0 0 0), (3, .ptr (n + 1) 0 0 0), (4, .ptr (n + 2) 0 0 0), (5, .ptr (n + 3) 0 0 0), (9, .ptr (n + 4) 0 0 0)] (setL low0 [(q0, ⟨88, 2, [.agg [.vs 1 (Wa (Wb .u8) o61.2.2.l), .int .i64 o61.2.2.at_]], w0⟩)]) [⟨31, 4, [.agg [.nils, .nils, .nils, .nils]], 0⟩, ⟨62, 2, [.agg [.nils, .nils]], 0⟩, ⟨64, 2, [.agg [.nils, .nils]], 0⟩, ⟨31, 4, [.agg [.sl (n + 5) 0 0 (o61.1.Mine.Places).length, .sl (n + 6) 0 0 (o61.1.Mine.Roads).length, .nils, .nils]], 0⟩, ⟨64, 2, [.agg [.sl (n + 7) 0 0 (o61.2.1.Pressures).length, .sl (n + 8) 0 0 (o61.2.1.Flows).length]], 0⟩, ⟨48, 2, Wa T_Place.enc o61.1.Mine.Places, 0⟩, ⟨46, 10, Wa T_Road.enc o61.1.Mine.Roads, 0⟩, ⟨3, 1, Wa (Wb .i64) o61.2.1.Pressures, 0⟩, ⟨3, 1, Wa (Wb .i64) o61.2.1.Flows, 0⟩])) ho61 ?_ (by rintro _ _ _ _ ⟨h, _⟩ <;> cases h) ?_) ?_
      ·exact Vp ⟨rfl, rfl, rfl, rfl, rfl, rfl, rfl, rfl, rfl, rfl, trivial⟩
      ·rintro s60 os60 _ _ _ hF hw
       unfold F_draw_Codes_Made_L4 at hF
       refine Yl hw ?_
       refine Vf ?_
       refine Vf ?_
       refine Vd ?_
       refine Va (Vk rfl) rfl ?_
       refine Va (Vk rfl) rfl ?_
       refine Va (Yz rfl rfl) rfl ?_
       refine Ve ?_
       refine Xi rfl (fun c62 => ?_) (fun c62 => ?_)
       ·have hF := Yq c62 hF
        refine Xj ?_
        refine Vf ?_
        refine Xh ?_
        refine Vf ?_
        obtain ⟨x63, h64, hF⟩ := Yf hF
        obtain ⟨x65, h66, hF⟩ := Yf hF
        obtain ⟨x67, h68, hF⟩ := Yf hF
        refine Yl (weak_room 46 10 (Wf _)) ?_
        refine vwp_drawnX [[], [], [], [], [2, 3], [0, 1, 2, 3, 4], [], [], [6, 7], [6, 7, 8], [6, 7, 8, 9], [], [0, 1, 2, 3, 4, 5, 11], [0, 1, 2, 3, 4, 5, 6, 7, 8, 9, 10, 11, 12]] [false, false, false, false, true, true, false, false, false, false, false, true, true, false] [([], (setL low0 [(q0, ⟨88, 2, [.agg [.vs 1 (Wa (Wb .u8) s60.2.2.2.l), .int .i64 s60.2.2.2.at_]], w0⟩)]), [⟨3, 1, Wa (Wb .i64) o27.1, 0⟩, ⟨31, 4, [.agg [.nils, .nils, .nils, .nils]], 0⟩, ⟨62, 2, [.agg [.nils, .nils]], 0⟩, ⟨64, 2, [.agg [.nils, .nils]], 0⟩, ⟨31, 4, [.agg [.sl (n + 6) 0 0 (s60.2.1.Mine.Places).length, .sl (n + 7) 0 0 (s60.2.1.Mine.Roads).length, .nils, .nils]], 0⟩, ⟨64, 2, [.agg [.sl (n + 8) 0 0 (s60.2.2.1.Pressures).length, .sl (n + 9) 0 0 (s60.2.2.1.Flows).length]], 0⟩, ⟨48, 2, Wa T_Place.enc s60.2.1.Mine.Places, 0⟩, ⟨46, 10, Wa T_Road.enc s60.2.1.Mine.Roads, 0⟩, ⟨3, 1, Wa (Wb .i64) s60.2.2.1.Pressures, 0⟩, ⟨3, 1, Wa (Wb .i64) s60.2.2.1.Flows, 0⟩, ⟨46, 10, [], 0⟩]), ([4], (setL low0 [(q0, ⟨88, 2, [.agg [.vs 1 (Wa (Wb .u8) x63.1.l), .int .i64 x63.1.at_]], w0⟩)]), [⟨3, 1, Wa (Wb .i64) o27.1, 0⟩, ⟨31, 4, [.agg [.nils, .nils, .nils, .nils]], 0⟩, ⟨62, 2, [.agg [.nils, .nils]], 0⟩, ⟨64, 2, [.agg [.nils, .nils]], 0⟩, ⟨31, 4, [.agg [.sl (n + 6) 0 0 (s60.2.1.Mine.Places).length, .sl (n + 7) 0 0 (s60.2.1.Mine.Roads).length, .nils, .nils]], 0⟩, ⟨64, 2, [.agg [.sl (n + 8) 0 0 (s60.2.2.1.Pressures).length, .sl (n + 9) 0 0 (s60.2.2.1.Flows).length]], 0⟩, ⟨48, 2, Wa T_Place.enc s60.2.1.Mine.Places, 0⟩, ⟨46, 10, Wa T_Road.enc s60.2.1.Mine.Roads, 0⟩, ⟨3, 1, Wa (Wb .i64) s60.2.2.1.Pressures, 0⟩, ⟨3, 1, Wa (Wb .i64) s60.2.2.1.Flows, 0⟩, ⟨46, 10, [], 0⟩]), ([11], (setL low0 [(q0, ⟨88, 2, [.agg [.vs 1 (Wa (Wb .u8) s60.2.2.2.l), .int .i64 s60.2.2.2.at_]], w0⟩)]), [⟨3, 1, Wa (Wb .i64) o27.1, 0⟩, ⟨31, 4, [.agg [.nils, .nils, .nils, .nils]], 0⟩, ⟨62, 2, [.agg [.nils, .nils]], 0⟩, ⟨64, 2, [.agg [.nils, .nils]], 0⟩, ⟨31, 4, [.agg [.sl (n + 6) 0 0 (s60.2.1.Mine.Places).length, .sl (n + 7) 0 0 (s60.2.1.Mine.Roads).length, .nils, .nils]], 0⟩, ⟨64, 2, [.agg [.sl (n + 8) 0 0 (s60.2.2.1.Pressures).length, .sl (n + 9) 0 0 (s60.2.2.1.Flows).length]], 0⟩, ⟨48, 2, Wa T_Place.enc s60.2.1.Mine.Places, 0⟩, ⟨46, 10, Wa T_Road.enc s60.2.1.Mine.Roads, 0⟩, ⟨3, 1, Wa (Wb .i64) s60.2.2.1.Pressures, 0⟩, ⟨3, 1, Wa (Wb .i64) s60.2.2.1.Flows, 0⟩, ⟨46, 10, [.agg [.int .i64 0, .int .i64 0, .int .i64 0, .int .i64 0, .bool false, .bool false, .int .i64 0, .int .i64 0, .int .i64 0, .int .i64 0]], 1⟩]), ([4, 5], (setL low0 [(q0, ⟨88, 2, [.agg [.vs 1 (Wa (Wb .u8) x65.1.l), .int .i64 x65.1.at_]], w0⟩)]), [⟨3, 1, Wa (Wb .i64) o27.1, 0⟩, ⟨31, 4, [.agg [.nils, .nils, .nils, .nils]], 0⟩, ⟨62, 2, [.agg [.nils, .nils]], 0⟩, ⟨64, 2, [.agg [.nils, .nils]], 0⟩, ⟨31, 4, [.agg [.sl (n + 6) 0 0 (s60.2.1.Mine.Places).length, .sl (n + 7) 0 0 (s60.2.1.Mine.Roads).length, .nils, .nils]], 0⟩, ⟨64, 2, [.agg [.sl (n + 8) 0 0 (s60.2.2.1.Pressures).length, .sl (n + 9) 0 0 (s60.2.2.1.Flows).length]], 0⟩, ⟨48, 2, Wa T_Place.enc s60.2.1.Mine.Places, 0⟩, ⟨46, 10, Wa T_Road.enc s60.2.1.Mine.Roads, 0⟩, ⟨3, 1, Wa (Wb .i64) s60.2.2.1.Pressures, 0⟩, ⟨3, 1, Wa (Wb .i64) s60.2.2.1.Flows, 0⟩, ⟨46, 10, [], 0⟩]), ([4, 11], (setL low0 [(q0, ⟨88, 2, [.agg [.vs 1 (Wa (Wb .u8) x63.1.l), .int .i64 x63.1.at_]], w0⟩)]), [⟨3, 1, Wa (Wb .i64) o27.1, 0⟩, ⟨31, 4, [.agg [.nils, .nils, .nils, .nils]], 0⟩, ⟨62, 2, [.agg [.nils, .nils]], 0⟩, ⟨64, 2, [.agg [.nils, .nils]], 0⟩, ⟨31, 4, [.agg [.sl (n + 6) 0 0 (s60.2.1.Mine.Places).length, .sl (n + 7) 0 0 (s60.2.1.Mine.Roads).length, .nils, .nils]], 0⟩, ⟨64, 2, [.agg [.sl (n + 8) 0 0 (s60.2.2.1.Pressures).length, .sl (n + 9) 0 0 (s60.2.2.1.Flows).length]], 0⟩, ⟨48, 2, Wa T_Place.enc s60.2.1.Mine.Places, 0⟩, ⟨46, 10, Wa T_Road.enc s60.2.1.Mine.Roads, 0⟩, ⟨3, 1, Wa (Wb .i64) s60.2.2.1.Pressures, 0⟩, ⟨3, 1, Wa (Wb .i64) s60.2.2.1.Flows, 0⟩, ⟨46, 10, [.agg [.int .i64 0, .int .i64 0, .int .i64 0, .int .i64 0, .bool false, .bool false, .int .i64 0, .int .i64 0, .int .i64 0, .int .i64 0]], 1⟩]), ([4, 5, 11], (setL low0 [(q0, ⟨88, 2, [.agg [.vs 1 (Wa (Wb .u8) x65.1.l), .int .i64 x65.1.at_]], w0⟩)]), [⟨3, 1, Wa (Wb .i64) o27.1, 0⟩, ⟨31, 4, [.agg [.nils, .nils, .nils, .nils]], 0⟩, ⟨62, 2, [.agg [.nils, .nils]], 0⟩, ⟨64, 2, [.agg [.nils, .nils]], 0⟩, ⟨31, 4, [.agg [.sl (n + 6) 0 0 (s60.2.1.Mine.Places).length, .sl (n + 7) 0 0 (s60.2.1.Mine.Roads).length, .nils, .nils]], 0⟩, ⟨64, 2, [.agg [.sl (n + 8) 0 0 (s60.2.2.1.Pressures).length, .sl (n + 9) 0 0 (s60.2.2.1.Flows).length]], 0⟩, ⟨48, 2, Wa T_Place.enc s60.2.1.Mine.Places, 0⟩, ⟨46, 10, Wa T_Road.enc s60.2.1.Mine.Roads, 0⟩, ⟨3, 1, Wa (Wb .i64) s60.2.2.1.Pressures, 0⟩, ⟨3, 1, Wa (Wb .i64) s60.2.2.1.Flows, 0⟩, ⟨46, 10, [.agg [.int .i64 0, .int .i64 0, .int .i64 0, .int .i64 0, .bool false, .bool false, .int .i64 0, .int .i64 0, .int .i64 0, .int .i64 0]], 1⟩]), ([4, 5, 11, 12], (setL low0 [(q0, ⟨88, 2, [.agg [.vs 1 (Wa (Wb .u8) x65.1.l), .int .i64 x65.1.at_]], w0⟩)]), [⟨3, 1, Wa (Wb .i64) o27.1, 0⟩, ⟨31, 4, [.agg [.nils, .nils, .nils, .nils]], 0⟩, ⟨62, 2, [.agg [.nils, .nils]], 0⟩, ⟨64, 2, [.agg [.nils, .nils]], 0⟩, ⟨31, 4, [.agg [.sl (n + 6) 0 0 (s60.2.1.Mine.Places).length, .sl (n + 7) 0 0 (s60.2.1.Mine.Roads).length, .nils, .nils]], 0⟩, ⟨64, 2, [.agg [.sl (n + 8) 0 0 (s60.2.2.1.Pressures).length, .sl (n + 9) 0 0 (s60.2.2.1.Flows).length]], 0⟩, ⟨48, 2, Wa T_Place.enc s60.2.1.Mine.Places, 0⟩, ⟨46, 10, Wa T_Road.enc s60.2.1.Mine.Roads, 0⟩, ⟨3, 1, Wa (Wb .i64) s60.2.2.1.Pressures, 0⟩, ⟨3, 1, Wa (Wb .i64) s60.2.2.1.Flows, 0⟩, ⟨46, 10, [.agg [.int .i64 x65.2.From, .int .i64 x65.2.To, .int .i64 x65.2.Length, .int .i64 x65.2.Area, .bool x65.2.Walk, .bool x65.2.Closed, .int .i64 x65.2.Rest.Low, .int .i64 x65.2.Rest.High, .int .i64 x65.2.Lift.Low, .int .i64 x65.2.Lift.High]], 1⟩])] mixed (by kernel_rfl) rfl (lenAllX (allx1 Xp (allx1 Xp (allx1 Xp (allx1 Xp (allx1 Xp (allx1 Xp (allx1 Xp allx0)))))))) rfl [4, 5, 11, 12] ((setL low0 [(q0, ⟨88, 2, [.agg [.vs 1 (Wa (Wb .u8) x65.1.l), .int .i64 x65.1.at_]], w0⟩)]), [⟨3, 1, Wa (Wb .i64) o27.1, 0⟩, ⟨31, 4, [.agg [.nils, .nils, .nils, .nils]], 0⟩, ⟨62, 2, [.agg [.nils, .nils]], 0⟩, ⟨64, 2, [.agg [.nils, .nils]], 0⟩, ⟨31, 4, [.agg [.sl (n + 6) 0 0 (s60.2.1.Mine.Places).length, .sl (n + 7) 0 0 (s60.2.1.Mine.Roads).length, .nils, .nils]], 0⟩, ⟨64, 2, [.agg [.sl (n + 8) 0 0 (s60.2.2.1.Pressures).length, .sl (n + 9) 0 0 (s60.2.2.1.Flows).length]], 0⟩, ⟨48, 2, Wa T_Place.enc s60.2.1.Mine.Places, 0⟩, ⟨46, 10, Wa T_Road.enc s60.2.1.Mine.Roads, 0⟩, ⟨3, 1, Wa (Wb .i64) s60.2.2.1.Pressures, 0⟩, ⟨3, 1, Wa (Wb .i64) s60.2.2.1.Flows, 0⟩, ⟨46, 10, [.agg [.int .i64 x65.2.From, .int .i64 x65.2.To, .int .i64 x65.2.Length, .int .i64 x65.2.Area, .bool x65.2.Walk, .bool x65.2.Closed, .int .i64 x65.2.Rest.Low, .int .i64 x65.2.Rest.High, .int .i64 x65.2.Lift.Low, .int .i64 x65.2.Lift.High]], 1⟩]) rfl rfl ?_
        refine Zt _ rfl rfl (Zu (VRd.ntl (Xg rfl)) (Zu (VRd.ntl (Xg rfl)) (Zu (VRd.ntl (Xg rfl)) (Zu (VRd.ntl (Xg rfl)) rx0)))) ?_
        refine Zt _ rfl rfl (Zu (VRd.ntl (Vk rfl)) (Zu (VRd.ntl (Vk rfl)) (Zu (VRd.ntl (Vk rfl)) (Zu (VRd.ntl (Vk rfl)) rx0)))) ?_
        refine Zt _ rfl rfl (Zu (VRd.ntl (Xg rfl)) (Zu (VRd.ntl (Xg rfl)) rx0)) ?_
        refine Zt _ rfl rfl (Zu (VRd.ntl (Vk rfl)) (Zu (VRd.ntl (Vk rfl)) rx0)) ?_
        refine dopx_ef _ rfl rfl (ex1 1 rfl (Vz (ps := [(q0, ⟨88, 2, [.agg [.vs 1 (Wa (Wb .u8) x63.1.l), .int .i64 x63.1.at_]], w0⟩)]) (r := .int .i64 x63.2) (os := []) (low1 := (setL low0 [(q0, ⟨88, 2, [.agg [.vs 1 (Wa (Wb .u8) x63.1.l), .int .i64 x63.1.at_]], w0⟩)])) (loc1 := [⟨3, 1, Wa (Wb .i64) o27.1, 0⟩, ⟨31, 4, [.agg [.nils, .nils, .nils, .nils]], 0⟩, ⟨62, 2, [.agg [.nils, .nils]], 0⟩, ⟨64, 2, [.agg [.nils, .nils]], 0⟩, ⟨31, 4, [.agg [.sl (n + 6) 0 0 (s60.2.1.Mine.Places).length, .sl (n + 7) 0 0 (s60.2.1.Mine.Roads).length, .nils, .nils]], 0⟩, ⟨64, 2, [.agg [.sl (n + 8) 0 0 (s60.2.2.1.Pressures).length, .sl (n + 9) 0 0 (s60.2.2.1.Flows).length]], 0⟩, ⟨48, 2, Wa T_Place.enc s60.2.1.Mine.Places, 0⟩, ⟨46, 10, Wa T_Road.enc s60.2.1.Mine.Roads, 0⟩, ⟨3, 1, Wa (Wb .i64) s60.2.2.1.Pressures, 0⟩, ⟨3, 1, Wa (Wb .i64) s60.2.2.1.Flows, 0⟩, ⟨46, 10, [], 0⟩]) (loc2 := [⟨3, 1, Wa (Wb .i64) o27.1, 0⟩, ⟨31, 4, [.agg [.nils, .nils, .nils, .nils]], 0⟩, ⟨62, 2, [.agg [.nils, .nils]], 0⟩, ⟨64, 2, [.agg [.nils, .nils]], 0⟩, ⟨31, 4, [.agg [.sl (n + 6) 0 0 (s60.2.1.Mine.Places).length, .sl (n + 7) 0 0 (s60.2.1.Mine.Roads).length, .nils, .nils]], 0⟩, ⟨64, 2, [.agg [.sl (n + 8) 0 0 (s60.2.2.1.Pressures).length, .sl (n + 9) 0 0 (s60.2.2.1.Flows).length]], 0⟩, ⟨48, 2, Wa T_Place.enc s60.2.1.Mine.Places, 0⟩, ⟨46, 10, Wa T_Road.enc s60.2.1.Mine.Roads, 0⟩, ⟨3, 1, Wa (Wb .i64) s60.2.2.1.Pressures, 0⟩, ⟨3, 1, Wa (Wb .i64) s60.2.2.1.Flows, 0⟩, ⟨46, 10, [], 0⟩]) rfl Try.call27 (F_draw_Codes_Next_ok h64 (nd1 na0 nd0) (Zb hB rfl 0 rfl) (Xs (Vl hn) rfl)) (Yk (ps0' := [(q0, ⟨88, 2, [.agg [.vs 1 (Wa (Wb .u8) x63.1.l), .int .i64 x63.1.at_]], w0⟩)]) hB rfl 0 rfl (Yo hn ⟨Vo ⟨.vs _ _, .int _ _, trivial⟩, trivial⟩) rfl Xf) rfl) (ex1 4 rfl (Vz (ps := [(q0, ⟨88, 2, [.agg [.vs 1 (Wa (Wb .u8) x63.1.l), .int .i64 x63.1.at_]], w0⟩)]) (r := .int .i64 x63.2) (os := []) (low1 := (setL low0 [(q0, ⟨88, 2, [.agg [.vs 1 (Wa (Wb .u8) x63.1.l), .int .i64 x63.1.at_]], w0⟩)])) (loc1 := [⟨3, 1, Wa (Wb .i64) o27.1, 0⟩, ⟨31, 4, [.agg [.nils, .nils, .nils, .nils]], 0⟩, ⟨62, 2, [.agg [.nils, .nils]], 0⟩, ⟨64, 2, [.agg [.nils, .nils]], 0⟩, ⟨31, 4, [.agg [.sl (n + 6) 0 0 (s60.2.1.Mine.Places).length, .sl (n + 7) 0 0 (s60.2.1.Mine.Roads).length, .nils, .nils]], 0⟩, ⟨64, 2, [.agg [.sl (n + 8) 0 0 (s60.2.2.1.Pressures).length, .sl (n + 9) 0 0 (s60.2.2.1.Flows).length]], 0⟩, ⟨48, 2, Wa T_Place.enc s60.2.1.Mine.Places, 0⟩, ⟨46, 10, Wa T_Road.enc s60.2.1.Mine.Roads, 0⟩, ⟨3, 1, Wa (Wb .i64) s60.2.2.1.Pressures, 0⟩, ⟨3, 1, Wa (Wb .i64) s60.2.2.1.Flows, 0⟩, ⟨46, 10, [.agg [.int .i64 0, .int .i64 0, .int .i64 0, .int .i64 0, .bool false, .bool false, .int .i64 0, .int .i64 0, .int .i64 0, .int .i64 0]], 1⟩]) (loc2 := [⟨3, 1, Wa (Wb .i64) o27.1, 0⟩, ⟨31, 4, [.agg [.nils, .nils, .nils, .nils]], 0⟩, ⟨62, 2, [.agg [.nils, .nils]], 0⟩, ⟨64, 2, [.agg [.nils, .nils]], 0⟩, ⟨31, 4, [.agg [.sl (n + 6) 0 0 (s60.2.1.Mine.Places).length, .sl (n + 7) 0 0 (s60.2.1.Mine.Roads).length, .nils, .nils]], 0⟩, ⟨64, 2, [.agg [.sl (n + 8) 0 0 (s60.2.2.1.Pressures).length, .sl (n + 9) 0 0 (s60.2.2.1.Flows).length]], 0⟩, ⟨48, 2, Wa T_Place.enc s60.2.1.Mine.Places, 0⟩, ⟨46, 10, Wa T_Road.enc s60.2.1.Mine.Roads, 0⟩, ⟨3, 1, Wa (Wb .i64) s60.2.2.1.Pressures, 0⟩, ⟨3, 1, Wa (Wb .i64) s60.2.2.1.Flows, 0⟩, ⟨46, 10, [.agg [.int .i64 0, .int .i64 0, .int .i64 0, .int .i64 0, .bool false, .bool false, .int .i64 0, .int .i64 0, .int .i64 0, .int .i64 0]], 1⟩]) rfl Try.call27 (F_draw_Codes_Next_ok h64 (nd1 na0 nd0) (Zb hB rfl 0 rfl) (Xs (Vl hn) rfl)) (Yk (ps0' := [(q0, ⟨88, 2, [.agg [.vs 1 (Wa (Wb .u8) x63.1.l), .int .i64 x63.1.at_]], w0⟩)]) hB rfl 0 rfl (Yo hn ⟨Vo ⟨.vs _ _, .int _ _, trivial⟩, trivial⟩) rfl Xf) rfl) ex0)) ?_
        refine dopx_ef _ rfl rfl (ex1 3 rfl (Vz (ps := [(q0, ⟨88, 2, [.agg [.vs 1 (Wa (Wb .u8) x65.1.l), .int .i64 x65.1.at_]], w0⟩)]) (r := .agg [.int .i64 x65.2.From, .int .i64 x65.2.To, .int .i64 x65.2.Length, .int .i64 x65.2.Area, .bool x65.2.Walk, .bool x65.2.Closed, .int .i64 x65.2.Rest.Low, .int .i64 x65.2.Rest.High, .int .i64 x65.2.Lift.Low, .int .i64 x65.2.Lift.High]) (os := []) (low1 := (setL low0 [(q0, ⟨88, 2, [.agg [.vs 1 (Wa (Wb .u8) x65.1.l), .int .i64 x65.1.at_]], w0⟩)])) (loc1 := [⟨3, 1, Wa (Wb .i64) o27.1, 0⟩, ⟨31, 4, [.agg [.nils, .nils, .nils, .nils]], 0⟩, ⟨62, 2, [.agg [.nils, .nils]], 0⟩, ⟨64, 2, [.agg [.nils, .nils]], 0⟩, ⟨31, 4, [.agg [.sl (n + 6) 0 0 (s60.2.1.Mine.Places).length, .sl (n + 7) 0 0 (s60.2.1.Mine.Roads).length, .nils, .nils]], 0⟩, ⟨64, 2, [.agg [.sl (n + 8) 0 0 (s60.2.2.1.Pressures).length, .sl (n + 9) 0 0 (s60.2.2.1.Flows).length]], 0⟩, ⟨48, 2, Wa T_Place.enc s60.2.1.Mine.Places, 0⟩, ⟨46, 10, Wa T_Road.enc s60.2.1.Mine.Roads, 0⟩, ⟨3, 1, Wa (Wb .i64) s60.2.2.1.Pressures, 0⟩, ⟨3, 1, Wa (Wb .i64) s60.2.2.1.Flows, 0⟩, ⟨46, 10, [], 0⟩]) (loc2 := [⟨3, 1, Wa (Wb .i64) o27.1, 0⟩, ⟨31, 4, [.agg [.nils, .nils, .nils, .nils]], 0⟩, ⟨62, 2, [.agg [.nils, .nils]], 0⟩, ⟨64, 2, [.agg [.nils, .nils]], 0⟩, ⟨31, 4, [.agg [.sl (n + 6) 0 0 (s60.2.1.Mine.Places).length, .sl (n + 7) 0 0 (s60.2.1.Mine.Roads).length, .nils, .nils]], 0⟩, ⟨64, 2, [.agg [.sl (n + 8) 0 0 (s60.2.2.1.Pressures).length, .sl (n + 9) 0 0 (s60.2.2.1.Flows).length]], 0⟩, ⟨48, 2, Wa T_Place.enc s60.2.1.Mine.Places, 0⟩, ⟨46, 10, Wa T_Road.enc s60.2.1.Mine.Roads, 0⟩, ⟨3, 1, Wa (Wb .i64) s60.2.2.1.Pressures, 0⟩, ⟨3, 1, Wa (Wb .i64) s60.2.2.1.Flows, 0⟩, ⟨46, 10, [], 0⟩]) rfl Try.call37 (F_draw_Codes_Road_ok h66 (nd1 na0 nd0) (Zb hB rfl 0 rfl) (Xs (Vl hn) rfl)) (Yk (ps0' := [(q0, ⟨88, 2, [.agg [.vs 1 (Wa (Wb .u8) x65.1.l), .int .i64 x65.1.at_]], w0⟩)]) hB rfl 0 rfl (Yo hn ⟨Vo ⟨.vs _ _, .int _ _, trivial⟩, trivial⟩) rfl Xf) rfl) (ex1 5 rfl (Vz (ps := [(q0, ⟨88, 2, [.agg [.vs 1 (Wa (Wb .u8) x65.1.l), .int .i64 x65.1.at_]], w0⟩)]) (r := .agg [.int .i64 x65.2.From, .int .i64 x65.2.To, .int .i64 x65.2.Length, .int .i64 x65.2.Area, .bool x65.2.Walk, .bool x65.2.Closed, .int .i64 x65.2.Rest.Low, .int .i64 x65.2.Rest.High, .int .i64 x65.2.Lift.Low, .int .i64 x65.2.Lift.High]) (os := []) (low1 := (setL low0 [(q0, ⟨88, 2, [.agg [.vs 1 (Wa (Wb .u8) x65.1.l), .int .i64 x65.1.at_]], w0⟩)])) (loc1 := [⟨3, 1, Wa (Wb .i64) o27.1, 0⟩, ⟨31, 4, [.agg [.nils, .nils, .nils, .nils]], 0⟩, ⟨62, 2, [.agg [.nils, .nils]], 0⟩, ⟨64, 2, [.agg [.nils, .nils]], 0⟩, ⟨31, 4, [.agg [.sl (n + 6) 0 0 (s60.2.1.Mine.Places).length, .sl (n + 7) 0 0 (s60.2.1.Mine.Roads).length, .nils, .nils]], 0⟩, ⟨64, 2, [.agg [.sl (n + 8) 0 0 (s60.2.2.1.Pressures).length, .sl (n + 9) 0 0 (s60.2.2.1.Flows).length]], 0⟩, ⟨48, 2, Wa T_Place.enc s60.2.1.Mine.Places, 0⟩, ⟨46, 10, Wa T_Road.enc s60.2.1.Mine.Roads, 0⟩, ⟨3, 1, Wa (Wb .i64) s60.2.2.1.Pressures, 0⟩, ⟨3, 1, Wa (Wb .i64) s60.2.2.1.Flows, 0⟩, ⟨46, 10, [.agg [.int .i64 0, .int .i64 0, .int .i64 0, .int .i64 0, .bool false, .bool false, .int .i64 0, .int .i64 0, .int .i64 0, .int .i64 0]], 1⟩]) (loc2 := [⟨3, 1, Wa (Wb .i64) o27.1, 0⟩, ⟨31, 4, [.agg [.nils, .nils, .nils, .nils]], 0⟩, ⟨62, 2, [.agg [.nils, .nils]], 0⟩, ⟨64, 2, [.agg [.nils, .nils]], 0⟩, ⟨31, 4, [.agg [.sl (n + 6) 0 0 (s60.2.1.Mine.Places).length, .sl (n + 7) 0 0 (s60.2.1.Mine.Roads).length, .nils, .nils]], 0⟩, ⟨64, 2, [.agg [.sl (n + 8) 0 0 (s60.2.2.1.Pressures).length, .sl (n + 9) 0 0 (s60.2.2.1.Flows).length]], 0⟩, ⟨48, 2, Wa T_Place.enc s60.2.1.Mine.Places, 0⟩, ⟨46, 10, Wa T_Road.enc s60.2.1.Mine.Roads, 0⟩, ⟨3, 1, Wa (Wb .i64) s60.2.2.1.Pressures, 0⟩, ⟨3, 1, Wa (Wb .i64) s60.2.2.1.Flows, 0⟩, ⟨46, 10, [.agg [.int .i64 0, .int .i64 0, .int .i64 0, .int .i64 0, .bool false, .bool false, .int .i64 0, .int .i64 0, .int .i64 0, .int .i64 0]], 1⟩]) rfl Try.call37 (F_draw_Codes_Road_ok h66 (nd1 na0 nd0) (Zb hB rfl 0 rfl) (Xs (Vl hn) rfl)) (Yk (ps0' := [(q0, ⟨88, 2, [.agg [.vs 1 (Wa (Wb .u8) x65.1.l), .int .i64 x65.1.at_]], w0⟩)]) hB rfl 0 rfl (Yo hn ⟨Vo ⟨.vs _ _, .int _ _, trivial⟩, trivial⟩) rfl Xf) rfl) ex0)) ?_
        refine Zt _ rfl rfl (Zu (VRd.ntl (Yn rfl)) (Zu (VRd.ntl (Yn rfl)) (Zu (VRd.ntl (Yn rfl)) (Zu (VRd.ntl (Yn rfl)) (Zu (VRd.ntl (Yn rfl)) (Zu (VRd.ntl (Yn rfl)) (Zu (VRd.ntl (Yn rfl)) rx0))))))) ?_
        refine Zt _ rfl rfl (Zu (VRd.ntl (Vk rfl)) (Zu (VRd.ntl (Vk rfl)) (Zu (VRd.ntl (Vk rfl)) (Zu (VRd.ntl (Vk rfl)) (Zu (VRd.ntl (Vk rfl)) (Zu (VRd.ntl (Vk rfl)) (Zu (VRd.ntl (Vk rfl)) rx0))))))) ?_
        refine Zt _ rfl rfl (Zu (VRd.ntl (Zr rfl rfl rfl (Vg (Vl hn) rfl) h68 te_32 ts_3)) (Zu (VRd.ntl (Zr rfl rfl rfl (Vg (Vl hn) rfl) h68 te_32 ts_3)) (Zu (VRd.ntl (Zr rfl rfl rfl (Vg (Vl hn) rfl) h68 te_32 ts_3)) (Zu (VRd.ntl (Zr rfl rfl rfl (Vg (Vl hn) rfl) h68 te_32 ts_3)) (Zu (VRd.ntl (Zr rfl rfl rfl (Vg (Vl hn) rfl) h68 te_32 ts_3)) (Zu (VRd.ntl (Zr rfl rfl rfl (Vg (Vl hn) rfl) h68 te_32 ts_3)) (Zu (VRd.ntl (Zr rfl rfl rfl (Vg (Vl hn) rfl) h68 te_32 ts_3)) rx0))))))) ?_
        refine Zt _ rfl rfl (Zu (VRd.ntl (Zs rfl (Vg (Vl hn) rfl) (Yi h68).2 ta_3 rfl)) (Zu (VRd.ntl (Zs rfl (Vg (Vl hn) rfl) (Yi h68).2 ta_3 rfl)) (Zu (VRd.ntl (Zs rfl (Vg (Vl hn) rfl) (Yi h68).2 ta_3 rfl)) (Zu (VRd.ntl (Zs rfl (Vg (Vl hn) rfl) (Yi h68).2 ta_3 rfl)) (Zu (VRd.ntl (Zs rfl (Vg (Vl hn) rfl) (Yi h68).2 ta_3 rfl)) (Zu (VRd.ntl (Zs rfl (Vg (Vl hn) rfl) (Yi h68).2 ta_3 rfl)) (Zu (VRd.ntl (Zs rfl (Vg (Vl hn) rfl) (Yi h68).2 ta_3 rfl)) rx0))))))) ?_
        refine Zt _ rfl rfl (Zu (VRd.ntl (rd_neg rfl rfl)) (Zu (VRd.ntl (rd_neg rfl rfl)) (Zu (VRd.ntl (rd_neg rfl rfl)) (Zu (VRd.ntl (rd_neg rfl rfl)) (Zu (VRd.ntl (rd_neg rfl rfl)) (Zu (VRd.ntl (rd_neg rfl rfl)) (Zu (VRd.ntl (rd_neg rfl rfl)) rx0))))))) ?_
        refine dopx_ef _ rfl rfl (ex1 2 rfl (vef_into (f := 11) (k := 10) (m := 1) (os := [⟨46, 10, [.agg [.int .i64 0, .int .i64 0, .int .i64 0, .int .i64 0, .bool false, .bool false, .int .i64 0, .int .i64 0, .int .i64 0, .int .i64 0]], 0⟩]) (os' := [⟨46, 10, [.agg [.int .i64 0, .int .i64 0, .int .i64 0, .int .i64 0, .bool false, .bool false, .int .i64 0, .int .i64 0, .int .i64 0, .int .i64 0]], 1⟩]) (v := .ptr (n + 11) 0 0 0) (Vl hn) rfl rfl ⟨⟨_, rfl, rfl⟩, trivial⟩ (Xm (Vl hn) rfl tz_46 rfl rfl (Wf _) rfl) (mv_ptr 0 rfl rfl rfl rfl) ⟨.same _ _ _ (Vn ⟨(Vo ⟨.int _ _, .int _ _, .int _ _, .int _ _, .bool _, .bool _, .int _ _, .int _ _, .int _ _, .int _ _, trivial⟩), trivial⟩), trivial⟩ rfl) (ex1 4 rfl (vef_into (f := 11) (k := 10) (m := 1) (os := [⟨46, 10, [.agg [.int .i64 0, .int .i64 0, .int .i64 0, .int .i64 0, .bool false, .bool false, .int .i64 0, .int .i64 0, .int .i64 0, .int .i64 0]], 0⟩]) (os' := [⟨46, 10, [.agg [.int .i64 0, .int .i64 0, .int .i64 0, .int .i64 0, .bool false, .bool false, .int .i64 0, .int .i64 0, .int .i64 0, .int .i64 0]], 1⟩]) (v := .ptr (n + 11) 0 0 0) (Vl hn) rfl rfl ⟨⟨_, rfl, rfl⟩, trivial⟩ (Xm (Vl hn) rfl tz_46 rfl rfl (Wf _) rfl) (mv_ptr 0 rfl rfl rfl rfl) ⟨.same _ _ _ (Vn ⟨(Vo ⟨.int _ _, .int _ _, .int _ _, .int _ _, .bool _, .bool _, .int _ _, .int _ _, .int _ _, .int _ _, trivial⟩), trivial⟩), trivial⟩ rfl) (ex1 5 rfl (vef_into (f := 11) (k := 10) (m := 1) (os := [⟨46, 10, [.agg [.int .i64 0, .int .i64 0, .int .i64 0, .int .i64 0, .bool false, .bool false, .int .i64 0, .int .i64 0, .int .i64 0, .int .i64 0]], 0⟩]) (os' := [⟨46, 10, [.agg [.int .i64 0, .int .i64 0, .int .i64 0, .int .i64 0, .bool false, .bool false, .int .i64 0, .int .i64 0, .int .i64 0, .int .i64 0]], 1⟩]) (v := .ptr (n + 11) 0 0 0) (Vl hn) rfl rfl ⟨⟨_, rfl, rfl⟩, trivial⟩ (Xm (Vl hn) rfl tz_46 rfl rfl (Wf _) rfl) (mv_ptr 0 rfl rfl rfl rfl) ⟨.same _ _ _ (Vn ⟨(Vo ⟨.int _ _, .int _ _, .int _ _, .int _ _, .bool _, .bool _, .int _ _, .int _ _, .int _ _, .int _ _, trivial⟩), trivial⟩), trivial⟩ rfl) ex0))) ?_
        refine dopx_ef _ rfl rfl (ex1 6 rfl (Vw (p := .agg [.int .i64 x65.2.From, .int .i64 x65.2.To, .int .i64 x65.2.Length, .int .i64 x65.2.Area, .bool x65.2.Walk, .bool x65.2.Closed, .int .i64 x65.2.Rest.Low, .int .i64 x65.2.Rest.High, .int .i64 x65.2.Lift.Low, .int .i64 x65.2.Lift.High]) (e' := .agg [.int .i64 x65.2.From, .int .i64 x65.2.To, .int .i64 x65.2.Length, .int .i64 x65.2.Area, .bool x65.2.Walk, .bool x65.2.Closed, .int .i64 x65.2.Rest.Low, .int .i64 x65.2.Rest.High, .int .i64 x65.2.Lift.Low, .int .i64 x65.2.Lift.High]) rfl (Vg (Vl hn) rfl) rfl rfl ts_46 rfl (Yg rfl) rfl (We rfl) rfl (Xn (Vl hn) rfl)) ex0) ?_
        refine Zt _ rfl rfl (Zu (VRd.ntl (Xv rfl)) rx0) ?_
        refine dopx_nil ?_
        refine Vf ?_
        refine Vf ?_
        refine Vd ?_
        obtain ⟨x69, h70, hF⟩ := Yf hF
        refine Va (Xg rfl) rfl ?_
        refine Vi (Vz (ps := [(q0, ⟨88, 2, [.agg [.vs 1 (Wa (Wb .u8) x69.1.l), .int .i64 x69.1.at_]], w0⟩)]) (r := .bool x69.2) (os := []) (low1 := (setL low0 [(q0, ⟨88, 2, [.agg [.vs 1 (Wa (Wb .u8) x69.1.l), .int .i64 x69.1.at_]], w0⟩)])) (loc1 := [⟨3, 1, Wa (Wb .i64) o27.1, 0⟩, ⟨31, 4, [.agg [.nils, .nils, .nils, .nils]], 0⟩, ⟨62, 2, [.agg [.nils, .nils]], 0⟩, ⟨64, 2, [.agg [.nils, .nils]], 0⟩, ⟨31, 4, [.agg [.sl (n + 6) 0 0 (s60.2.1.Mine.Places).length, .sl (n + 7) 0 0 (s60.2.1.Mine.Roads).length, .nils, .nils]], 0⟩, ⟨64, 2, [.agg [.sl (n + 8) 0 0 (s60.2.2.1.Pressures).length, .sl (n + 9) 0 0 (s60.2.2.1.Flows).length]], 0⟩, ⟨48, 2, Wa T_Place.enc s60.2.1.Mine.Places, 0⟩, ⟨46, 10, Wa T_Road.enc s60.2.1.Mine.Roads, 0⟩, ⟨3, 1, Wa (Wb .i64) s60.2.2.1.Pressures, 0⟩, ⟨3, 1, Wa (Wb .i64) s60.2.2.1.Flows, 0⟩, ⟨46, 10, [.agg [.int .i64 x65.2.From, .int .i64 x65.2.To, .int .i64 x65.2.Length, .int .i64 x65.2.Area, .bool x65.2.Walk, .bool x65.2.Closed, .int .i64 x65.2.Rest.Low, .int .i64 x65.2.Rest.High, .int .i64 x65.2.Lift.Low, .int .i64 x65.2.Lift.High]], 1⟩]) (loc2 := [⟨3, 1, Wa (Wb .i64) o27.1, 0⟩, ⟨31, 4, [.agg [.nils, .nils, .nils, .nils]], 0⟩, ⟨62, 2, [.agg [.nils, .nils]], 0⟩, ⟨64, 2, [.agg [.nils, .nils]], 0⟩, ⟨31, 4, [.agg [.sl (n + 6) 0 0 (s60.2.1.Mine.Places).length, .sl (n + 7) 0 0 (s60.2.1.Mine.Roads).length, .nils, .nils]], 0⟩, ⟨64, 2, [.agg [.sl (n + 8) 0 0 (s60.2.2.1.Pressures).length, .sl (n + 9) 0 0 (s60.2.2.1.Flows).length]], 0⟩, ⟨48, 2, Wa T_Place.enc s60.2.1.Mine.Places, 0⟩, ⟨46, 10, Wa T_Road.enc s60.2.1.Mine.Roads, 0⟩, ⟨3, 1, Wa (Wb .i64) s60.2.2.1.Pressures, 0⟩, ⟨3, 1, Wa (Wb .i64) s60.2.2.1.Flows, 0⟩, ⟨46, 10, [.agg [.int .i64 x65.2.From, .int .i64 x65.2.To, .int .i64 x65.2.Length, .int .i64 x65.2.Area, .bool x65.2.Walk, .bool x65.2.Closed, .int .i64 x65.2.Rest.Low, .int .i64 x65.2.Rest.High, .int .i64 x65.2.Lift.Low, .int .i64 x65.2.Lift.High]], 1⟩]) rfl Try.call25 (F_draw_Codes_One_ok h70 (nd1 na0 nd0) (Zb hB rfl 0 rfl) (Xs (Vl hn) rfl)) (Yk (ps0' := [(q0, ⟨88, 2, [.agg [.vs 1 (Wa (Wb .u8) x69.1.l), .int .i64 x69.1.at_]], w0⟩)]) hB rfl 0 rfl (Yo hn ⟨Vo ⟨.vs _ _, .int _ _, trivial⟩, trivial⟩) rfl Xf) rfl) rfl ?_
        refine Ve ?_
        obtain ⟨o71, ho71, hF⟩ := Yf hF
        refine Vs (Q' := (fun o71 => OnlyE .normal (fun E' lw lc => Xz E' lw lc [(0, .ptr q0 w0 0 0), (2, .ptr (n + 2) 0 0 0), (3, .ptr (n + 3) 0 0 0), (4, .ptr (n + 4) 0 0 0), (5, .ptr (n + 5) 0 0 0), (6, .int .i64 ((o3).length : Int)), (8, .int .i64 ((o10.1).length : Int)), (9, .ptr (n + 6) 0 0 0), (11, .sl (n + 0) 0 0 (o27.1).length), (16, .int .i64 s60.1), (17, .ptr (n + 1) 0 0 0), (18, .int .i64 o71.1)] (setL low0 [(q0, ⟨88, 2, [.agg [.vs 1 (Wa (Wb .u8) x69.1.l), .int .i64 x69.1.at_]], w0⟩)]) [⟨3, 1, Wa (Wb .i64) o27.1, 0⟩, ⟨46, 10, [.agg [.int .i64 o71.2.1.From, .int .i64 o71.2.1.To, .int .i64 o71.2.1.Length, .int .i64 o71.2.1.Area, .bool o71.2.1.Walk, .bool o71.2.1.Closed, .int .i64 o71.2.1.Rest.Low, .int .i64 o71.2.1.Rest.High, .int .i64 o71.2.1.Lift.Low, .int .i64 o71.2.1.Lift.High]], 0⟩, ⟨31, 4, [.agg [.nils, .nils, .nils, .nils]], 0⟩, ⟨62, 2, [.agg [.nils, .nils]], 0⟩, ⟨64, 2, [.agg [.nils, .nils]], 0⟩, ⟨31, 4, [.agg [.sl (n + 7) 0 0 (o71.2.2.1.Mine.Places).length, .sl (n + 8) 0 0 (o71.2.2.1.Mine.Roads).length, .nils, .nils]], 0⟩, ⟨64, 2, [.agg [.sl (n + 9) 0 0 (o71.2.2.2.Pressures).length, .sl (n + 10) 0 0 (o71.2.2.2.Flows).length]], 0⟩, ⟨48, 2, Wa T_Place.enc o71.2.2.1.Mine.Places, 0⟩, ⟨46, 10, Wa T_Road.enc o71.2.2.1.Mine.Roads, 0⟩, ⟨3, 1, Wa (Wb .i64) o71.2.2.2.Pressures, 0⟩, ⟨3, 1, Wa (Wb .i64) o71.2.2.2.Flows, 0⟩])) o71) ?_ ?_
        ·replace hF := ho71
         refine Xi rfl (fun c72 => ?_) (fun c72 => ?_)
         ·have hF := Yq c72 hF
          refine Vd ?_
          refine Va (Vb rfl tf_46_1 ts_3 (by decide)) rfl ?_
          refine Va (Vj rfl (Vg (Vl hn) rfl) rfl ta_3 rfl) rfl ?_
          refine Va (Vb rfl tf_46_0 ts_3 (by decide)) rfl ?_
          refine Va (Vj rfl (Vg (Vl hn) rfl) rfl ta_3 rfl) rfl ?_
          refine Va (Vk rfl) rfl ?_
          refine Va (rd_neg rfl rfl) rfl ?_
          refine Va (Vb rfl tf_46_0 ts_3 (by decide)) rfl ?_
          refine Vi (Vw (p := .int .i64 x65.2.To) (e' := .agg [.int .i64 x65.2.To, .int .i64 x65.2.To, .int .i64 x65.2.Length, .int .i64 x65.2.Area, .bool x65.2.Walk, .bool x65.2.Closed, .int .i64 x65.2.Rest.Low, .int .i64 x65.2.Rest.High, .int .i64 x65.2.Lift.Low, .int .i64 x65.2.Lift.High]) rfl (Vg (Vl hn) rfl) rfl rfl ts_3 rfl (Yg rfl) rfl (We rfl) rfl (Xn (Vl hn) rfl)) rfl ?_
          refine Va (Vb rfl tf_46_1 ts_3 (by decide)) rfl ?_
          refine Vi (Vw (p := .int .i64 x65.2.From) (e' := .agg [.int .i64 x65.2.To, .int .i64 x65.2.From, .int .i64 x65.2.Length, .int .i64 x65.2.Area, .bool x65.2.Walk, .bool x65.2.Closed, .int .i64 x65.2.Rest.Low, .int .i64 x65.2.Rest.High, .int .i64 x65.2.Lift.Low, .int .i64 x65.2.Lift.High]) rfl (Vg (Vl hn) rfl) rfl rfl ts_3 rfl (Yg rfl) rfl (We rfl) rfl (Xn (Vl hn) rfl)) rfl ?_
          refine Va (Xv rfl) rfl ?_
          refine Ve ?_
          obtain rfl := Wd hF
          refine Xk ?_
          exact Vm (Vl hn) [(0, 0), (10, 1), (1, 0), (2, 0), (3, 0), (4, 0), (5, 0), (6, 0), (7, 0), (8, 0), (9, 0)] (by decide) ⟨Vh rfl (.ptr _ _ _ _ hq0), Vt 2 1 rfl rfl, Vt 3 2 rfl rfl, Vt 4 3 rfl rfl, Vt 5 4 rfl rfl, Vh rfl (.int _ _), Vh rfl (.int _ _), Vt 6 5 rfl rfl, Yc 0 0 rfl rfl, Vh rfl (.int _ _), Vt 1 10 rfl rfl, Vh rfl (.int _ _), trivial⟩ ⟨⟨_, rfl, rfl, .same _ _ _ _ (Vq (fun _ => .int _ _))⟩, ⟨_, rfl, rfl, .same _ _ _ _ (Vn ⟨Vo ⟨.int _ _, .int _ _, .int _ _, .int _ _, .bool _, .bool _, .int _ _, .int _ _, .int _ _, .int _ _, trivial⟩, trivial⟩)⟩, ⟨_, rfl, rfl, .same _ _ _ _ (Vn ⟨Vo ⟨.nils, .nils, .nils, .nils, trivial⟩, trivial⟩)⟩, ⟨_, rfl, rfl, .same _ _ _ _ (Vn ⟨Vo ⟨.nils, .nils, trivial⟩, trivial⟩)⟩, ⟨_, rfl, rfl, .same _ _ _ _ (Vn ⟨Vo ⟨.nils, .nils, trivial⟩, trivial⟩)⟩, ⟨_, rfl, rfl, .agg _ _ _ _ _ ⟨Yc 7 6 rfl rfl, Yc 8 7 rfl rfl, Vh rfl (.nils), Vh rfl (.nils), trivial⟩⟩, ⟨_, rfl, rfl, .agg _ _ _ _ _ ⟨Yc 9 8 rfl rfl, Yc 10 9 rfl rfl, trivial⟩⟩, ⟨_, rfl, rfl, .same _ _ _ _ (Vq T_Place.enc_lt)⟩, ⟨_, rfl, rfl, .same _ _ _ _ (Vq T_Road.enc_lt)⟩, ⟨_, rfl, rfl, .same _ _ _ _ (Vq (fun _ => .int _ _))⟩, ⟨_, rfl, rfl, .same _ _ _ _ (Vq (fun _ => .int _ _))⟩, trivial⟩
         ·have hF := Yr c72 hF
          refine Xj ?_
          obtain rfl := Wd hF
          refine Xk ?_
          exact Vm (Vl hn) [(0, 0), (10, 1), (1, 0), (2, 0), (3, 0), (4, 0), (5, 0), (6, 0), (7, 0), (8, 0), (9, 0)] (by decide) ⟨Vh rfl (.ptr _ _ _ _ hq0), Vt 2 1 rfl rfl, Vt 3 2 rfl rfl, Vt 4 3 rfl rfl, Vt 5 4 rfl rfl, Vh rfl (.int _ _), Vh rfl (.int _ _), Vt 6 5 rfl rfl, Yc 0 0 rfl rfl, Vh rfl (.int _ _), Vt 1 10 rfl rfl, Vh rfl (.int _ _), trivial⟩ ⟨⟨_, rfl, rfl, .same _ _ _ _ (Vq (fun _ => .int _ _))⟩, ⟨_, rfl, rfl, .same _ _ _ _ (Vn ⟨Vo ⟨.int _ _, .int _ _, .int _ _, .int _ _, .bool _, .bool _, .int _ _, .int _ _, .int _ _, .int _ _, trivial⟩, trivial⟩)⟩, ⟨_, rfl, rfl, .same _ _ _ _ (Vn ⟨Vo ⟨.nils, .nils, .nils, .nils, trivial⟩, trivial⟩)⟩, ⟨_, rfl, rfl, .same _ _ _ _ (Vn ⟨Vo ⟨.nils, .nils, trivial⟩, trivial⟩)⟩, ⟨_, rfl, rfl, .same _ _ _ _ (Vn ⟨Vo ⟨.nils, .nils, trivial⟩, trivial⟩)⟩, ⟨_, rfl, rfl, .agg _ _ _ _ _ ⟨Yc 7 6 rfl rfl, Yc 8 7 rfl rfl, Vh rfl (.nils), Vh rfl (.nils), trivial⟩⟩, ⟨_, rfl, rfl, .agg _ _ _ _ _ ⟨Yc 9 8 rfl rfl, Yc 10 9 rfl rfl, trivial⟩⟩, ⟨_, rfl, rfl, .same _ _ _ _ (Vq T_Place.enc_lt)⟩, ⟨_, rfl, rfl, .same _ _ _ _ (Vq T_Road.enc_lt)⟩, ⟨_, rfl, rfl, .same _ _ _ _ (Vq (fun _ => .int _ _))⟩, ⟨_, rfl, rfl, .same _ _ _ _ (Vq (fun _ => .int _ _))⟩, trivial⟩
        ·rintro _ _ _ _ ⟨rfl, hw⟩
         refine ⟨_, _, _, hw, ?_⟩
         obtain ⟨x73, h74, hF⟩ := Yf hF
         obtain ⟨x75, h76, hF⟩ := Yf hF
         refine Zn [[], [0], [0, 1], [], [3], [0, 1, 2, 3, 4], [], [6], [], [8], [0, 1, 2, 3, 4, 5, 6, 7, 8, 9], [0, 1, 2, 3, 4, 5, 6, 7, 8, 9, 10], [0, 1, 2, 3, 4, 5, 6, 7, 8, 9, 10, 11], [0, 1, 2, 3, 4, 5, 6, 7, 8, 9, 10, 11, 12], [0, 1, 2, 3, 4, 5, 6, 7, 8, 9, 10, 11, 12, 13], [0, 1, 2, 3, 4, 5, 6, 7, 8, 9, 10, 11, 12, 13, 14]] [false, false, false, false, false, true, false, false, false, false, true, false, false, true, false, true] [((setL low0 [(q0, ⟨88, 2, [.agg [.vs 1 (Wa (Wb .u8) x69.1.l), .int .i64 x69.1.at_]], w0⟩)]), [⟨3, 1, Wa (Wb .i64) o27.1, 0⟩, ⟨46, 10, [.agg [.int .i64 o71.2.1.From, .int .i64 o71.2.1.To, .int .i64 o71.2.1.Length, .int .i64 o71.2.1.Area, .bool o71.2.1.Walk, .bool o71.2.1.Closed, .int .i64 o71.2.1.Rest.Low, .int .i64 o71.2.1.Rest.High, .int .i64 o71.2.1.Lift.Low, .int .i64 o71.2.1.Lift.High]], 0⟩, ⟨31, 4, [.agg [.nils, .nils, .nils, .nils]], 0⟩, ⟨62, 2, [.agg [.nils, .nils]], 0⟩, ⟨64, 2, [.agg [.nils, .nils]], 0⟩, ⟨31, 4, [.agg [.sl (n + 7) 0 0 (o71.2.2.1.Mine.Places).length, .sl (n + 8) 0 0 (o71.2.2.1.Mine.Roads).length, .nils, .nils]], 0⟩, ⟨64, 2, [.agg [.sl (n + 9) 0 0 (o71.2.2.2.Pressures).length, .sl (n + 10) 0 0 (o71.2.2.2.Flows).length]], 0⟩, ⟨48, 2, Wa T_Place.enc o71.2.2.1.Mine.Places, 0⟩, ⟨46, 10, Wa T_Road.enc o71.2.2.1.Mine.Roads, 0⟩, ⟨3, 1, Wa (Wb .i64) o71.2.2.2.Pressures, 0⟩, ⟨3, 1, Wa (Wb .i64) o71.2.2.2.Flows, 0⟩]), ((setL low0 [(q0, ⟨88, 2, [.agg [.vs 1 (Wa (Wb .u8) x69.1.l), .int .i64 x69.1.at_]], w0⟩)]), [⟨3, 1, Wa (Wb .i64) o27.1, 0⟩, ⟨46, 10, [.agg [.int .i64 o71.2.1.From, .int .i64 o71.2.1.To, .int .i64 o71.2.1.Length, .int .i64 o71.2.1.Area, .bool o71.2.1.Walk, .bool o71.2.1.Closed, .int .i64 o71.2.1.Rest.Low, .int .i64 o71.2.1.Rest.High, .int .i64 o71.2.1.Lift.Low, .int .i64 o71.2.1.Lift.High]], 0⟩, ⟨31, 4, [.agg [.nils, .nils, .nils, .nils]], 0⟩, ⟨62, 2, [.agg [.nils, .nils]], 0⟩, ⟨64, 2, [.agg [.nils, .nils]], 0⟩, ⟨31, 4, [.agg [.sl (n + 7) 0 0 (o71.2.2.1.Mine.Places).length, .sl (n + 8) 0 0 (o71.2.2.1.Mine.Roads).length, .nils, .nils]], 0⟩, ⟨64, 2, [.agg [.sl (n + 9) 0 0 (o71.2.2.2.Pressures).length, .sl (n + 10) 0 0 (o71.2.2.2.Flows).length]], 0⟩, ⟨48, 2, Wa T_Place.enc o71.2.2.1.Mine.Places, 0⟩, ⟨46, 10, Wa T_Road.enc x73, 0 + 1⟩, ⟨3, 1, Wa (Wb .i64) o71.2.2.2.Pressures, 0⟩, ⟨3, 1, Wa (Wb .i64) o71.2.2.2.Flows, 0⟩]), ((setL low0 [(q0, ⟨88, 2, [.agg [.vs 1 (Wa (Wb .u8) x69.1.l), .int .i64 x69.1.at_]], w0⟩)]), [⟨3, 1, Wa (Wb .i64) o27.1, 0⟩, ⟨46, 10, [.agg [.int .i64 o71.2.1.From, .int .i64 o71.2.1.To, .int .i64 o71.2.1.Length, .int .i64 o71.2.1.Area, .bool o71.2.1.Walk, .bool o71.2.1.Closed, .int .i64 o71.2.1.Rest.Low, .int .i64 o71.2.1.Rest.High, .int .i64 o71.2.1.Lift.Low, .int .i64 o71.2.1.Lift.High]], 0⟩, ⟨31, 4, [.agg [.nils, .nils, .nils, .nils]], 0⟩, ⟨62, 2, [.agg [.nils, .nils]], 0⟩, ⟨64, 2, [.agg [.nils, .nils]], 0⟩, ⟨31, 4, [.agg [.sl (n + 7) 0 0 (o71.2.2.1.Mine.Places).length, .sl (n + 8) 0 0 (o71.2.2.1.Mine.Roads).length, .nils, .nils]], 0⟩, ⟨64, 2, [.agg [.sl (n + 9) 0 0 (o71.2.2.2.Pressures).length, .sl (n + 10) 0 0 (o71.2.2.2.Flows).length]], 0⟩, ⟨48, 2, Wa T_Place.enc o71.2.2.1.Mine.Places, 0⟩, ⟨46, 10, Wa T_Road.enc x73, 0 + 1⟩, ⟨3, 1, Wa (Wb .i64) o71.2.2.2.Pressures, 0⟩, ⟨3, 1, Wa (Wb .i64) x75, 0 + 1⟩]), ((setL low0 [(q0, ⟨88, 2, [.agg [.vs 1 (Wa (Wb .u8) x69.1.l), .int .i64 x69.1.at_]], w0⟩)]), [⟨3, 1, Wa (Wb .i64) o27.1, 0⟩, ⟨46, 10, [.agg [.int .i64 o71.2.1.From, .int .i64 o71.2.1.To, .int .i64 o71.2.1.Length, .int .i64 o71.2.1.Area, .bool o71.2.1.Walk, .bool o71.2.1.Closed, .int .i64 o71.2.1.Rest.Low, .int .i64 o71.2.1.Rest.High, .int .i64 o71.2.1.Lift.Low, .int .i64 o71.2.1.Lift.High]], 0⟩, ⟨31, 4, [.agg [.nils, .nils, .nils, .nils]], 0⟩, ⟨62, 2, [.agg [.nils, .nils]], 0⟩, ⟨64, 2, [.agg [.nils, .nils]], 0⟩, ⟨31, 4, [.agg [.sl (n + 7) 0 0 (o71.2.2.1.Mine.Places).length, .sl (n + 8) (0 + 1) 0 (x73).length, .nils, .nils]], 0⟩, ⟨64, 2, [.agg [.sl (n + 9) 0 0 (o71.2.2.2.Pressures).length, .sl (n + 10) 0 0 (o71.2.2.2.Flows).length]], 0⟩, ⟨48, 2, Wa T_Place.enc o71.2.2.1.Mine.Places, 0⟩, ⟨46, 10, Wa T_Road.enc x73, 0 + 1⟩, ⟨3, 1, Wa (Wb .i64) o71.2.2.2.Pressures, 0⟩, ⟨3, 1, Wa (Wb .i64) x75, 0 + 1⟩]), ((setL low0 [(q0, ⟨88, 2, [.agg [.vs 1 (Wa (Wb .u8) x69.1.l), .int .i64 x69.1.at_]], w0⟩)]), [⟨3, 1, Wa (Wb .i64) o27.1, 0⟩, ⟨46, 10, [.agg [.int .i64 o71.2.1.From, .int .i64 o71.2.1.To, .int .i64 o71.2.1.Length, .int .i64 o71.2.1.Area, .bool o71.2.1.Walk, .bool o71.2.1.Closed, .int .i64 o71.2.1.Rest.Low, .int .i64 o71.2.1.Rest.High, .int .i64 o71.2.1.Lift.Low, .int .i64 o71.2.1.Lift.High]], 0⟩, ⟨31, 4, [.agg [.nils, .nils, .nils, .nils]], 0⟩, ⟨62, 2, [.agg [.nils, .nils]], 0⟩, ⟨64, 2, [.agg [.nils, .nils]], 0⟩, ⟨31, 4, [.agg [.sl (n + 7) 0 0 (o71.2.2.1.Mine.Places).length, .sl (n + 8) (0 + 1) 0 (x73).length, .nils, .nils]], 0⟩, ⟨64, 2, [.agg [.sl (n + 9) 0 0 (o71.2.2.2.Pressures).length, .sl (n + 10) (0 + 1) 0 (x75).length]], 0⟩, ⟨48, 2, Wa T_Place.enc o71.2.2.1.Mine.Places, 0⟩, ⟨46, 10, Wa T_Road.enc x73, 0 + 1⟩, ⟨3, 1, Wa (Wb .i64) o71.2.2.2.Pressures, 0⟩, ⟨3, 1, Wa (Wb .i64) x75, 0 + 1⟩])] mixed (by kernel_rfl) rfl (lenAll (Vv Xp (Vv Xp (Vv Xp (Vv Xp (Vv Xp Yw)))))) rfl _ rfl rfl ?_
         refine Yd rfl rfl (Vb rfl tf_31_0 ts_27 (by decide)) ?_
         refine Yd rfl rfl (Vb rfl tf_27_1 ts_25 (by decide)) ?_
         refine Yd rfl rfl (Vj rfl (Vg (Vl hn) rfl) rfl ta_25 rfl) ?_
         refine Yd rfl rfl (Xa (ds := [.int .i64 o71.2.1.From, .int .i64 o71.2.1.To, .int .i64 o71.2.1.Length, .int .i64 o71.2.1.Area, .bool o71.2.1.Walk, .bool o71.2.1.Closed, .int .i64 o71.2.1.Rest.Low, .int .i64 o71.2.1.Rest.High, .int .i64 o71.2.1.Lift.Low, .int .i64 o71.2.1.Lift.High]) rfl (Vg (Vl hn) rfl) rfl ta_46 ts_46 rfl rfl rfl) ?_
         refine dn1 rfl rfl (nt_of (Yt (es := Wa T_Road.enc [o71.2.1]) ⟨rfl, rfl, trivial⟩ rfl rfl (Zm rfl) te_25 ts_46 tz_46 rfl rfl (Wf _) (by decide) (Ym T_Road.enc_lt))) ?_
         refine Ya rfl rfl rfl (Zw (f := T_Road.enc) (l := o71.2.2.1.Mine.Roads) (ys := [o71.2.1]) rfl rfl (Vg (Vl hn) rfl) rfl (src_vs rfl) te_25 ts_46 tb_46 (by decide) tz_46 rfl h74 (Xn (Vl hn) rfl)) ?_
         refine Vx _ rfl rfl (Vv (VRd.ntl (Vb rfl tf_64_1 ts_32 (by decide))) (Vv (VRd.ntl (Vb rfl tf_64_1 ts_32 (by decide))) Yw)) ?_
         refine Vx _ rfl rfl (Vv (VRd.ntl (Vj rfl (Vg (Vl hn) rfl) rfl ta_32 rfl)) (Vv (VRd.ntl (Vj rfl (Vg (Vl hn) rfl) rfl ta_32 rfl)) Yw)) ?_
         refine Vx _ rfl rfl (Vv (VRd.ntl (Vk rfl)) (Vv (VRd.ntl (Vk rfl)) Yw)) ?_
         refine Vx _ rfl rfl (Vv (nt_of (Yt (es := Wa (Wb .i64) [o71.1]) ⟨rfl, rfl, trivial⟩ rfl rfl (Zm rfl) te_32 ts_3 tz_3 rfl rfl (Wf _) (by decide) (Ym (fun _ => .int _ _)))) (Vv (nt_of (Yt (es := Wa (Wb .i64) [o71.1]) ⟨rfl, rfl, trivial⟩ rfl rfl (Zm rfl) te_32 ts_3 tz_3 rfl rfl (Wf _) (by decide) (Ym (fun _ => .int _ _)))) Yw)) ?_
         refine Ya rfl rfl rfl (Zw (f := (Wb .i64)) (l := o71.2.2.2.Flows) (ys := [o71.1]) rfl rfl (Vg (Vl hn) rfl) rfl (src_vs rfl) te_32 ts_3 tb_3 (by decide) tz_3 rfl h76 (Xn (Vl hn) rfl)) ?_
         refine Yd rfl rfl (Vb rfl tf_31_0 ts_27 (by decide)) ?_
         refine Yd rfl rfl (Vb rfl tf_27_1 ts_25 (by decide)) ?_
         refine Ya rfl rfl rfl (Vw (p := .sl (n + 8) (0 + 1) 0 (x73).length) (e' := .agg [.sl (n + 7) 0 0 (o71.2.2.1.Mine.Places).length, .sl (n + 8) (0 + 1) 0 (x73).length, .nils, .nils]) rfl (Vg (Vl hn) rfl) rfl rfl ts_25 rfl (Yg rfl) rfl (We rfl) rfl (Xn (Vl hn) rfl)) ?_
         refine Yd rfl rfl (Vb rfl tf_64_1 ts_32 (by decide)) ?_
         refine Ya rfl rfl rfl (Vw (p := .sl (n + 10) (0 + 1) 0 (x75).length) (e' := .agg [.sl (n + 9) 0 0 (o71.2.2.2.Pressures).length, .sl (n + 10) (0 + 1) 0 (x75).length]) rfl (Vg (Vl hn) rfl) rfl rfl ts_32 rfl (Yg rfl) rfl (We rfl) rfl (Xn (Vl hn) rfl)) ?_
         refine Yx ?_
         refine Vd ?_
         refine Va (Vk rfl) rfl ?_
         refine Va (Zf rfl rfl rfl) rfl ?_
         refine Va (Xv rfl) rfl ?_
         refine Ve ?_
         obtain rfl := Wd hF
         refine Xk ?_
         exact Vm (Vl hn) [(0, 0), (2, 0), (3, 0), (4, 0), (5, 0), (6, 0), (7, 0), (8, 0 + 1), (9, 0), (10, 0 + 1)] (by decide) ⟨Vh rfl (.ptr _ _ _ _ hq0), Vt 1 2 rfl rfl, Vt 2 3 rfl rfl, Vt 3 4 rfl rfl, Vt 4 5 rfl rfl, Vh rfl (.int _ _), Vh rfl (.int _ _), Vt 5 6 rfl rfl, Yc 0 0 rfl rfl, Vh rfl (.int _ _), trivial⟩ ⟨⟨_, rfl, rfl, .same _ _ _ _ (Vq (fun _ => .int _ _))⟩, ⟨_, rfl, rfl, .same _ _ _ _ (Vn ⟨Vo ⟨.nils, .nils, .nils, .nils, trivial⟩, trivial⟩)⟩, ⟨_, rfl, rfl, .same _ _ _ _ (Vn ⟨Vo ⟨.nils, .nils, trivial⟩, trivial⟩)⟩, ⟨_, rfl, rfl, .same _ _ _ _ (Vn ⟨Vo ⟨.nils, .nils, trivial⟩, trivial⟩)⟩, ⟨_, rfl, rfl, .agg _ _ _ _ _ ⟨Yc 6 7 rfl rfl, Yc 7 8 rfl rfl, Vh rfl (.nils), Vh rfl (.nils), trivial⟩⟩, ⟨_, rfl, rfl, .agg _ _ _ _ _ ⟨Yc 8 9 rfl rfl, Yc 9 10 rfl rfl, trivial⟩⟩, ⟨_, rfl, rfl, .same _ _ _ _ (Vq T_Place.enc_lt)⟩, ⟨_, rfl, rfl, .same _ _ _ _ (Vq T_Road.enc_lt)⟩, ⟨_, rfl, rfl, .same _ _ _ _ (Vq (fun _ => .int _ _))⟩, ⟨_, rfl, rfl, .same _ _ _ _ (Vq (fun _ => .int _ _))⟩, trivial⟩
       ·have hF := Yr c62 hF
        refine Zd ?_
        obtain rfl := Wd hF
        refine Xk ?_
        exact Vm (Vl hn) [(1, 0), (2, 0), (3, 0), (4, 0), (5, 0), (6, 0), (7, 0), (8, 0), (9, 0)] (by decide) ⟨Vh rfl (.ptr _ _ _ _ hq0), Vt 0 1 rfl rfl, Vt 1 2 rfl rfl, Vt 2 3 rfl rfl, Vt 3 4 rfl rfl, Vt 4 5 rfl rfl, trivial⟩ ⟨⟨_, rfl, rfl, .same _ _ _ _ (Vn ⟨Vo ⟨.nils, .nils, .nils, .nils, trivial⟩, trivial⟩)⟩, ⟨_, rfl, rfl, .same _ _ _ _ (Vn ⟨Vo ⟨.nils, .nils, trivial⟩, trivial⟩)⟩, ⟨_, rfl, rfl, .same _ _ _ _ (Vn ⟨Vo ⟨.nils, .nils, trivial⟩, trivial⟩)⟩, ⟨_, rfl, rfl, .agg _ _ _ _ _ ⟨Yc 5 6 rfl rfl, Yc 6 7 rfl rfl, Vh rfl (.nils), Vh rfl (.nils), trivial⟩⟩, ⟨_, rfl, rfl, .agg _ _ _ _ _ ⟨Yc 7 8 rfl rfl, Yc 8 9 rfl rfl, trivial⟩⟩, ⟨_, rfl, rfl, .same _ _ _ _ (Vq T_Place.enc_lt)⟩, ⟨_, rfl, rfl, .same _ _ _ _ (Vq T_Road.enc_lt)⟩, ⟨_, rfl, rfl, .same _ _ _ _ (Vq (fun _ => .int _ _))⟩, ⟨_, rfl, rfl, .same _ _ _ _ (Vq (fun _ => .int _ _))⟩, trivial⟩
      ·rintro _ _ _ _ ⟨rfl, hw⟩
       refine ⟨_, _, _, hw, ?_⟩
       refine Vf ?_
       refine Vd ?_
       obtain ⟨x77, h78, hF⟩ := Yf hF
       refine Va (Xg rfl) rfl ?_
       refine vops_weak (weak_nil (E' := [(0, .ptr q0 w0 0 0), (2, .ptr (n + 0) 0 0 0), (3, .ptr (n + 1) 0 0 0), (4, .ptr (n + 2) 0 0 0), (5, .ptr (n + 3) 0 0 0), (9, .ptr (n + 4) 0 0 0), (177, .ptr q0 w0 0 0)]) (loc1 := [⟨31, 4, [.agg [.nils, .nils, .nils, .nils]], 0⟩, ⟨62, 2, [.agg [.nils, .nils]], 0⟩, ⟨64, 2, [.agg [.nils, .nils]], 0⟩, ⟨31, 4, [.agg [.sl (n + 5) 0 0 (o61.1.Mine.Places).length, .sl (n + 6) 0 0 (o61.1.Mine.Roads).length, .sl (n + 9) 0 0 (([] : List T_Fan)).length, .nils]], 0⟩, ⟨64, 2, [.agg [.sl (n + 7) 0 0 (o61.2.1.Pressures).length, .sl (n + 8) 0 0 (o61.2.1.Flows).length]], 0⟩, ⟨48, 2, Wa T_Place.enc o61.1.Mine.Places, 0⟩, ⟨46, 10, Wa T_Road.enc o61.1.Mine.Roads, 0⟩, ⟨3, 1, Wa (Wb .i64) o61.2.1.Pressures, 0⟩, ⟨3, 1, Wa (Wb .i64) o61.2.1.Flows, 0⟩]) (Vl hn) rfl 72 4 (Wf _) ⟨Xb rfl, Xb rfl, Xb rfl, Xb rfl, Xb rfl, Xb rfl, Xb rfl, trivial⟩ ⟨.same _, .same _, .same _, .agg _ _ _ _ _ ⟨Xb rfl, Xb rfl, nn_nil rfl, Xb rfl, trivial⟩, .same _, .same _, .same _, .same _, .same _, trivial⟩) ?_
       refine vops_weak (weak_nil (E' := [(0, .ptr q0 w0 0 0), (2, .ptr (n + 0) 0 0 0), (3, .ptr (n + 1) 0 0 0), (4, .ptr (n + 2) 0 0 0), (5, .ptr (n + 3) 0 0 0), (9, .ptr (n + 4) 0 0 0), (177, .ptr q0 w0 0 0)]) (loc1 := [⟨31, 4, [.agg [.nils, .nils, .nils, .nils]], 0⟩, ⟨62, 2, [.agg [.nils, .nils]], 0⟩, ⟨64, 2, [.agg [.nils, .nils]], 0⟩, ⟨31, 4, [.agg [.sl (n + 5) 0 0 (o61.1.Mine.Places).length, .sl (n + 6) 0 0 (o61.1.Mine.Roads).length, .sl (n + 9) 0 0 (([] : List T_Fan)).length, .sl (n + 10) 0 0 (([] : List T_Door)).length]], 0⟩, ⟨64, 2, [.agg [.sl (n + 7) 0 0 (o61.2.1.Pressures).length, .sl (n + 8) 0 0 (o61.2.1.Flows).length]], 0⟩, ⟨48, 2, Wa T_Place.enc o61.1.Mine.Places, 0⟩, ⟨46, 10, Wa T_Road.enc o61.1.Mine.Roads, 0⟩, ⟨3, 1, Wa (Wb .i64) o61.2.1.Pressures, 0⟩, ⟨3, 1, Wa (Wb .i64) o61.2.1.Flows, 0⟩, ⟨72, 4, Wa T_Fan.enc ([] : List T_Fan), 0⟩]) (Vl hn) rfl 99 3 (Wf _) ⟨Xb rfl, Xb rfl, Xb rfl, Xb rfl, Xb rfl, Xb rfl, Xb rfl, trivial⟩ ⟨.same _, .same _, .same _, .agg _ _ _ _ _ ⟨Xb rfl, Xb rfl, Xb rfl, nn_nil rfl, trivial⟩, .same _, .same _, .same _, .same _, .same _, .same _, trivial⟩) ?_
       refine vops_weak (Yv (E' := [(0, .ptr q0 w0 0 0), (2, .ptr (n + 0) 0 0 0), (3, .ptr (n + 1) 0 0 0), (4, .ptr (n + 2) 0 0 0), (5, .ptr (n + 3) 0 0 0), (9, .ptr (n + 4) 0 0 0), (177, .ptr q0 w0 0 0)]) (loc1 := [⟨31, 4, [.agg [.nils, .nils, .nils, .nils]], 0⟩, ⟨62, 2, [.agg [.nils, .nils]], 0⟩, ⟨64, 2, [.agg [.nils, .nils]], 0⟩, ⟨31, 4, [.agg [.vs 2 (Wa T_Place.enc o61.1.Mine.Places), .sl (n + 6) 0 0 (o61.1.Mine.Roads).length, .sl (n + 9) 0 0 (([] : List T_Fan)).length, .sl (n + 10) 0 0 (([] : List T_Door)).length]], 0⟩, ⟨64, 2, [.agg [.sl (n + 7) 0 0 (o61.2.1.Pressures).length, .sl (n + 8) 0 0 (o61.2.1.Flows).length]], 0⟩, ⟨48, 2, [], 0 + 1⟩, ⟨46, 10, Wa T_Road.enc o61.1.Mine.Roads, 0⟩, ⟨3, 1, Wa (Wb .i64) o61.2.1.Pressures, 0⟩, ⟨3, 1, Wa (Wb .i64) o61.2.1.Flows, 0⟩, ⟨72, 4, Wa T_Fan.enc ([] : List T_Fan), 0⟩, ⟨99, 3, Wa T_Door.enc ([] : List T_Door), 0⟩]) (Vl hn) 5 rfl (Ym T_Place.enc_lt) ⟨Vu rfl, Vu rfl, Vu rfl, Vu rfl, Vu rfl, Vu rfl, Vu rfl, trivial⟩ ⟨.refl _, .refl _, .refl _, cvo_agg ⟨cv_sl rfl rfl rfl (Zj rfl), Vu rfl, Vu rfl, Vu rfl, trivial⟩, .refl _, .refl _, .refl _, .refl _, .refl _, .refl _, .refl _, trivial⟩) ?_
       refine Vi (Vz (ps := [(q0, ⟨88, 2, [.agg [.vs 1 (Wa (Wb .u8) x77.1.l), .int .i64 x77.1.at_]], w0⟩), ((n + 3), ⟨31, 4, [.agg [.vs 2 (Wa T_Place.enc x77.2.1.Mine.Places), .sl (n + 6) 0 0 (o61.1.Mine.Roads).length, .sl (n + 9) (0 + 1) 0 (x77.2.1.Fans).length, .sl (n + 10) (0 + 1) 0 (x77.2.1.Doors).length]], 0⟩), ((n + 6), ⟨46, 10, Wa T_Road.enc x77.2.1.Mine.Roads, 0⟩), ((n + 9), ⟨72, 4, Wa T_Fan.enc x77.2.1.Fans, 0 + 1⟩), ((n + 10), ⟨99, 3, Wa T_Door.enc x77.2.1.Doors, 0 + 1⟩)]) (r := .agg [.sl (n + 11) 0 0 (x77.2.2.Fans).length, .sl (n + 12) 0 0 (x77.2.2.Doors).length]) (os := [⟨3, 1, Wa (Wb .i64) x77.2.2.Fans, 0⟩, ⟨3, 1, Wa (Wb .i64) x77.2.2.Doors, 0⟩]) (low1 := (setL low0 [(q0, ⟨88, 2, [.agg [.vs 1 (Wa (Wb .u8) x77.1.l), .int .i64 x77.1.at_]], w0⟩)])) (loc1 := [⟨31, 4, [.agg [.nils, .nils, .nils, .nils]], 0⟩, ⟨62, 2, [.agg [.nils, .nils]], 0⟩, ⟨64, 2, [.agg [.nils, .nils]], 0⟩, ⟨31, 4, [.agg [.vs 2 (Wa T_Place.enc x77.2.1.Mine.Places), .sl (n + 6) 0 0 (o61.1.Mine.Roads).length, .sl (n + 9) (0 + 1) 0 (x77.2.1.Fans).length, .sl (n + 10) (0 + 1) 0 (x77.2.1.Doors).length]], 0⟩, ⟨64, 2, [.agg [.sl (n + 7) 0 0 (o61.2.1.Pressures).length, .sl (n + 8) 0 0 (o61.2.1.Flows).length]], 0⟩, ⟨48, 2, [], 0 + 1⟩, ⟨46, 10, Wa T_Road.enc x77.2.1.Mine.Roads, 0⟩, ⟨3, 1, Wa (Wb .i64) o61.2.1.Pressures, 0⟩, ⟨3, 1, Wa (Wb .i64) o61.2.1.Flows, 0⟩, ⟨72, 4, Wa T_Fan.enc x77.2.1.Fans, 0 + 1⟩, ⟨99, 3, Wa T_Door.enc x77.2.1.Doors, 0 + 1⟩]) (loc2 := [⟨31, 4, [.agg [.nils, .nils, .nils, .nils]], 0⟩, ⟨62, 2, [.agg [.nils, .nils]], 0⟩, ⟨64, 2, [.agg [.nils, .nils]], 0⟩, ⟨31, 4, [.agg [.vs 2 (Wa T_Place.enc x77.2.1.Mine.Places), .sl (n + 6) 0 0 (o61.1.Mine.Roads).length, .sl (n + 9) (0 + 1) 0 (x77.2.1.Fans).length, .sl (n + 10) (0 + 1) 0 (x77.2.1.Doors).length]], 0⟩, ⟨64, 2, [.agg [.sl (n + 7) 0 0 (o61.2.1.Pressures).length, .sl (n + 8) 0 0 (o61.2.1.Flows).length]], 0⟩, ⟨48, 2, [], 0 + 1⟩, ⟨46, 10, Wa T_Road.enc x77.2.1.Mine.Roads, 0⟩, ⟨3, 1, Wa (Wb .i64) o61.2.1.Pressures, 0⟩, ⟨3, 1, Wa (Wb .i64) o61.2.1.Flows, 0⟩, ⟨72, 4, Wa T_Fan.enc x77.2.1.Fans, 0 + 1⟩, ⟨99, 3, Wa T_Door.enc x77.2.1.Doors, 0 + 1⟩, ⟨3, 1, Wa (Wb .i64) x77.2.2.Fans, 0⟩, ⟨3, 1, Wa (Wb .i64) x77.2.2.Doors, 0⟩]) rfl Try.call38 (F_draw_Codes_equipped_ok h78 (nd1 (na1 (ne_low hq0) (na1 (ne_low hq0) (na1 (ne_low hq0) (na1 (ne_low hq0) na0)))) (nd1 (na1 (ne_own rfl) (na1 (ne_own rfl) (na1 (ne_own rfl) na0))) (nd1 (na1 (ne_own rfl) (na1 (ne_own rfl) na0)) (nd1 (na1 (ne_own rfl) na0) (nd1 na0 nd0))))) (rfl : (o61.1.Mine.Roads).length = _) (rfl : (([] : List T_Fan)).length = _) (rfl : (([] : List T_Door)).length = _) (Zb hB rfl 0 rfl) (get_N (Vl hn) rfl) (get_N (Vl hn) rfl) (get_N (Vl hn) rfl) (get_N (Vl hn) rfl) (Xs (Vl hn) rfl)) (Yk (ps0' := [(q0, ⟨88, 2, [.agg [.vs 1 (Wa (Wb .u8) x77.1.l), .int .i64 x77.1.at_]], w0⟩)]) hB rfl 0 rfl (Yo hn ⟨Vo ⟨.vs _ _, .int _ _, trivial⟩, trivial⟩) rfl (Zv (loc2 := [⟨31, 4, [.agg [.nils, .nils, .nils, .nils]], 0⟩, ⟨62, 2, [.agg [.nils, .nils]], 0⟩, ⟨64, 2, [.agg [.nils, .nils]], 0⟩, ⟨31, 4, [.agg [.vs 2 (Wa T_Place.enc x77.2.1.Mine.Places), .sl (n + 6) 0 0 (o61.1.Mine.Roads).length, .sl (n + 9) (0 + 1) 0 (x77.2.1.Fans).length, .sl (n + 10) (0 + 1) 0 (x77.2.1.Doors).length]], 0⟩, ⟨64, 2, [.agg [.sl (n + 7) 0 0 (o61.2.1.Pressures).length, .sl (n + 8) 0 0 (o61.2.1.Flows).length]], 0⟩, ⟨48, 2, [], 0 + 1⟩, ⟨46, 10, Wa T_Road.enc o61.1.Mine.Roads, 0⟩, ⟨3, 1, Wa (Wb .i64) o61.2.1.Pressures, 0⟩, ⟨3, 1, Wa (Wb .i64) o61.2.1.Flows, 0⟩, ⟨72, 4, Wa T_Fan.enc ([] : List T_Fan), 0⟩, ⟨99, 3, Wa T_Door.enc ([] : List T_Door), 0⟩]) (Vl hn) 3 rfl (Zv (loc2 := [⟨31, 4, [.agg [.nils, .nils, .nils, .nils]], 0⟩, ⟨62, 2, [.agg [.nils, .nils]], 0⟩, ⟨64, 2, [.agg [.nils, .nils]], 0⟩, ⟨31, 4, [.agg [.vs 2 (Wa T_Place.enc x77.2.1.Mine.Places), .sl (n + 6) 0 0 (o61.1.Mine.Roads).length, .sl (n + 9) (0 + 1) 0 (x77.2.1.Fans).length, .sl (n + 10) (0 + 1) 0 (x77.2.1.Doors).length]], 0⟩, ⟨64, 2, [.agg [.sl (n + 7) 0 0 (o61.2.1.Pressures).length, .sl (n + 8) 0 0 (o61.2.1.Flows).length]], 0⟩, ⟨48, 2, [], 0 + 1⟩, ⟨46, 10, Wa T_Road.enc x77.2.1.Mine.Roads, 0⟩, ⟨3, 1, Wa (Wb .i64) o61.2.1.Pressures, 0⟩, ⟨3, 1, Wa (Wb .i64) o61.2.1.Flows, 0⟩, ⟨72, 4, Wa T_Fan.enc ([] : List T_Fan), 0⟩, ⟨99, 3, Wa T_Door.enc ([] : List T_Door), 0⟩]) (Vl hn) 6 rfl (Zv (loc2 := [⟨31, 4, [.agg [.nils, .nils, .nils, .nils]], 0⟩, ⟨62, 2, [.agg [.nils, .nils]], 0⟩, ⟨64, 2, [.agg [.nils, .nils]], 0⟩, ⟨31, 4, [.agg [.vs 2 (Wa T_Place.enc x77.2.1.Mine.Places), .sl (n + 6) 0 0 (o61.1.Mine.Roads).length, .sl (n + 9) (0 + 1) 0 (x77.2.1.Fans).length, .sl (n + 10) (0 + 1) 0 (x77.2.1.Doors).length]], 0⟩, ⟨64, 2, [.agg [.sl (n + 7) 0 0 (o61.2.1.Pressures).length, .sl (n + 8) 0 0 (o61.2.1.Flows).length]], 0⟩, ⟨48, 2, [], 0 + 1⟩, ⟨46, 10, Wa T_Road.enc x77.2.1.Mine.Roads, 0⟩, ⟨3, 1, Wa (Wb .i64) o61.2.1.Pressures, 0⟩, ⟨3, 1, Wa (Wb .i64) o61.2.1.Flows, 0⟩, ⟨72, 4, Wa T_Fan.enc x77.2.1.Fans, 0 + 1⟩, ⟨99, 3, Wa T_Door.enc ([] : List T_Door), 0⟩]) (Vl hn) 9 rfl (Zv (loc2 := [⟨31, 4, [.agg [.nils, .nils, .nils, .nils]], 0⟩, ⟨62, 2, [.agg [.nils, .nils]], 0⟩, ⟨64, 2, [.agg [.nils, .nils]], 0⟩, ⟨31, 4, [.agg [.vs 2 (Wa T_Place.enc x77.2.1.Mine.Places), .sl (n + 6) 0 0 (o61.1.Mine.Roads).length, .sl (n + 9) (0 + 1) 0 (x77.2.1.Fans).length, .sl (n + 10) (0 + 1) 0 (x77.2.1.Doors).length]], 0⟩, ⟨64, 2, [.agg [.sl (n + 7) 0 0 (o61.2.1.Pressures).length, .sl (n + 8) 0 0 (o61.2.1.Flows).length]], 0⟩, ⟨48, 2, [], 0 + 1⟩, ⟨46, 10, Wa T_Road.enc x77.2.1.Mine.Roads, 0⟩, ⟨3, 1, Wa (Wb .i64) o61.2.1.Pressures, 0⟩, ⟨3, 1, Wa (Wb .i64) o61.2.1.Flows, 0⟩, ⟨72, 4, Wa T_Fan.enc x77.2.1.Fans, 0 + 1⟩, ⟨99, 3, Wa T_Door.enc x77.2.1.Doors, 0 + 1⟩]) (Vl hn) 10 rfl Xf))))) rfl) rfl ?_
       refine Vi (Xm (Vl hn) rfl tz_62 rfl rfl (Wf _) rfl) rfl ?_
       refine Vi (Vw (p := .agg [.sl (n + 11) 0 0 (x77.2.2.Fans).length, .sl (n + 12) 0 0 (x77.2.2.Doors).length]) (e' := .agg [.sl (n + 11) 0 0 (x77.2.2.Fans).length, .sl (n + 12) 0 0 (x77.2.2.Doors).length]) rfl (Vg (Vl hn) rfl) rfl rfl ts_62 rfl (Yg rfl) rfl (We rfl) rfl (Xn (Vl hn) rfl)) rfl ?_
       refine Ve ?_
       refine Vf ?_
       refine Vd ?_
       obtain ⟨x79, h80, hF⟩ := Yf hF
       refine Va (Xg rfl) rfl ?_
       refine Va (Xa (ds := [.sl (n + 11) 0 0 (x77.2.2.Fans).length, .sl (n + 12) 0 0 (x77.2.2.Doors).length]) rfl (Vg (Vl hn) rfl) rfl ta_62 ts_62 rfl rfl rfl) rfl ?_
       refine Va (Xa (ds := [.sl (n + 7) 0 0 (o61.2.1.Pressures).length, .sl (n + 8) 0 0 (o61.2.1.Flows).length]) rfl (Vg (Vl hn) rfl) rfl ta_64 ts_64 rfl rfl rfl) rfl ?_
       refine vops_weak (Yv (E' := [(0, .ptr q0 w0 0 0), (2, .ptr (n + 0) 0 0 0), (3, .ptr (n + 1) 0 0 0), (4, .ptr (n + 2) 0 0 0), (5, .ptr (n + 3) 0 0 0), (9, .ptr (n + 4) 0 0 0), (19, .ptr (n + 13) 0 0 0), (179, .ptr q0 w0 0 0), (180, .agg [.vs 1 (Wa (Wb .i64) x77.2.2.Fans), .sl (n + 12) 0 0 (x77.2.2.Doors).length]), (181, .agg [.sl (n + 7) 0 0 (o61.2.1.Pressures).length, .sl (n + 8) 0 0 (o61.2.1.Flows).length])]) (loc1 := [⟨31, 4, [.agg [.nils, .nils, .nils, .nils]], 0⟩, ⟨62, 2, [.agg [.nils, .nils]], 0⟩, ⟨64, 2, [.agg [.nils, .nils]], 0⟩, ⟨31, 4, [.agg [.vs 2 (Wa T_Place.enc x77.2.1.Mine.Places), .sl (n + 6) 0 0 (o61.1.Mine.Roads).length, .sl (n + 9) (0 + 1) 0 (x77.2.1.Fans).length, .sl (n + 10) (0 + 1) 0 (x77.2.1.Doors).length]], 0⟩, ⟨64, 2, [.agg [.sl (n + 7) 0 0 (o61.2.1.Pressures).length, .sl (n + 8) 0 0 (o61.2.1.Flows).length]], 0⟩, ⟨48, 2, [], 0 + 1⟩, ⟨46, 10, Wa T_Road.enc x77.2.1.Mine.Roads, 0⟩, ⟨3, 1, Wa (Wb .i64) o61.2.1.Pressures, 0⟩, ⟨3, 1, Wa (Wb .i64) o61.2.1.Flows, 0⟩, ⟨72, 4, Wa T_Fan.enc x77.2.1.Fans, 0 + 1⟩, ⟨99, 3, Wa T_Door.enc x77.2.1.Doors, 0 + 1⟩, ⟨3, 1, [], 0 + 1⟩, ⟨3, 1, Wa (Wb .i64) x77.2.2.Doors, 0⟩, ⟨62, 2, [.agg [.vs 1 (Wa (Wb .i64) x77.2.2.Fans), .sl (n + 12) 0 0 (x77.2.2.Doors).length]], 0⟩]) (Vl hn) 11 rfl (Ym (fun _ => .int _ _)) ⟨Vu rfl, Vu rfl, Vu rfl, Vu rfl, Vu rfl, Vu rfl, Vu rfl, Vu rfl, cv_agg rfl ⟨cv_sl rfl rfl rfl (Zj rfl), Vu rfl, trivial⟩, Vu rfl, trivial⟩ ⟨.refl _, .refl _, .refl _, .refl _, .refl _, .refl _, .refl _, .refl _, .refl _, .refl _, .refl _, .refl _, .refl _, cvo_agg ⟨cv_sl rfl rfl rfl (Zj rfl), Vu rfl, trivial⟩, trivial⟩) ?_
       refine vops_weak (Yv (E' := [(0, .ptr q0 w0 0 0), (2, .ptr (n + 0) 0 0 0), (3, .ptr (n + 1) 0 0 0), (4, .ptr (n + 2) 0 0 0), (5, .ptr (n + 3) 0 0 0), (9, .ptr (n + 4) 0 0 0), (19, .ptr (n + 13) 0 0 0), (179, .ptr q0 w0 0 0), (180, .agg [.vs 1 (Wa (Wb .i64) x77.2.2.Fans), .vs 1 (Wa (Wb .i64) x77.2.2.Doors)]), (181, .agg [.sl (n + 7) 0 0 (o61.2.1.Pressures).length, .sl (n + 8) 0 0 (o61.2.1.Flows).length])]) (loc1 := [⟨31, 4, [.agg [.nils, .nils, .nils, .nils]], 0⟩, ⟨62, 2, [.agg [.nils, .nils]], 0⟩, ⟨64, 2, [.agg [.nils, .nils]], 0⟩, ⟨31, 4, [.agg [.vs 2 (Wa T_Place.enc x77.2.1.Mine.Places), .sl (n + 6) 0 0 (o61.1.Mine.Roads).length, .sl (n + 9) (0 + 1) 0 (x77.2.1.Fans).length, .sl (n + 10) (0 + 1) 0 (x77.2.1.Doors).length]], 0⟩, ⟨64, 2, [.agg [.sl (n + 7) 0 0 (o61.2.1.Pressures).length, .sl (n + 8) 0 0 (o61.2.1.Flows).length]], 0⟩, ⟨48, 2, [], 0 + 1⟩, ⟨46, 10, Wa T_Road.enc x77.2.1.Mine.Roads, 0⟩, ⟨3, 1, Wa (Wb .i64) o61.2.1.Pressures, 0⟩, ⟨3, 1, Wa (Wb .i64) o61.2.1.Flows, 0⟩, ⟨72, 4, Wa T_Fan.enc x77.2.1.Fans, 0 + 1⟩, ⟨99, 3, Wa T_Door.enc x77.2.1.Doors, 0 + 1⟩, ⟨3, 1, [], 0 + 1⟩, ⟨3, 1, [], 0 + 1⟩, ⟨62, 2, [.agg [.vs 1 (Wa (Wb .i64) x77.2.2.Fans), .vs 1 (Wa (Wb .i64) x77.2.2.Doors)]], 0⟩]) (Vl hn) 12 rfl (Ym (fun _ => .int _ _)) ⟨Vu rfl, Vu rfl, Vu rfl, Vu rfl, Vu rfl, Vu rfl, Vu rfl, Vu rfl, cv_agg rfl ⟨Vu rfl, cv_sl rfl rfl rfl (Zj rfl), trivial⟩, Vu rfl, trivial⟩ ⟨.refl _, .refl _, .refl _, .refl _, .refl _, .refl _, .refl _, .refl _, .refl _, .refl _, .refl _, .refl _, .refl _, cvo_agg ⟨Vu rfl, cv_sl rfl rfl rfl (Zj rfl), trivial⟩, trivial⟩) ?_
       refine vops_weak (Yv (E' := [(0, .ptr q0 w0 0 0), (2, .ptr (n + 0) 0 0 0), (3, .ptr (n + 1) 0 0 0), (4, .ptr (n + 2) 0 0 0), (5, .ptr (n + 3) 0 0 0), (9, .ptr (n + 4) 0 0 0), (19, .ptr (n + 13) 0 0 0), (179, .ptr q0 w0 0 0), (180, .agg [.vs 1 (Wa (Wb .i64) x77.2.2.Fans), .vs 1 (Wa (Wb .i64) x77.2.2.Doors)]), (181, .agg [.vs 1 (Wa (Wb .i64) o61.2.1.Pressures), .sl (n + 8) 0 0 (o61.2.1.Flows).length])]) (loc1 := [⟨31, 4, [.agg [.nils, .nils, .nils, .nils]], 0⟩, ⟨62, 2, [.agg [.nils, .nils]], 0⟩, ⟨64, 2, [.agg [.nils, .nils]], 0⟩, ⟨31, 4, [.agg [.vs 2 (Wa T_Place.enc x77.2.1.Mine.Places), .sl (n + 6) 0 0 (o61.1.Mine.Roads).length, .sl (n + 9) (0 + 1) 0 (x77.2.1.Fans).length, .sl (n + 10) (0 + 1) 0 (x77.2.1.Doors).length]], 0⟩, ⟨64, 2, [.agg [.vs 1 (Wa (Wb .i64) o61.2.1.Pressures), .sl (n + 8) 0 0 (o61.2.1.Flows).length]], 0⟩, ⟨48, 2, [], 0 + 1⟩, ⟨46, 10, Wa T_Road.enc x77.2.1.Mine.Roads, 0⟩, ⟨3, 1, [], 0 + 1⟩, ⟨3, 1, Wa (Wb .i64) o61.2.1.Flows, 0⟩, ⟨72, 4, Wa T_Fan.enc x77.2.1.Fans, 0 + 1⟩, ⟨99, 3, Wa T_Door.enc x77.2.1.Doors, 0 + 1⟩, ⟨3, 1, [], 0 + 1⟩, ⟨3, 1, [], 0 + 1⟩, ⟨62, 2, [.agg [.vs 1 (Wa (Wb .i64) x77.2.2.Fans), .vs 1 (Wa (Wb .i64) x77.2.2.Doors)]], 0⟩]) (Vl hn) 7 rfl (Ym (fun _ => .int _ _)) ⟨Vu rfl, Vu rfl, Vu rfl, Vu rfl, Vu rfl, Vu rfl, Vu rfl, Vu rfl, Vu rfl, cv_agg rfl ⟨cv_sl rfl rfl rfl (Zj rfl), Vu rfl, trivial⟩, trivial⟩ ⟨.refl _, .refl _, .refl _, .refl _, cvo_agg ⟨cv_sl rfl rfl rfl (Zj rfl), Vu rfl, trivial⟩, .refl _, .refl _, .refl _, .refl _, .refl _, .refl _, .refl _, .refl _, .refl _, trivial⟩) ?_
       refine vops_weak (Yv (E' := [(0, .ptr q0 w0 0 0), (2, .ptr (n + 0) 0 0 0), (3, .ptr (n + 1) 0 0 0), (4, .ptr (n + 2) 0 0 0), (5, .ptr (n + 3) 0 0 0), (9, .ptr (n + 4) 0 0 0), (19, .ptr (n + 13) 0 0 0), (179, .ptr q0 w0 0 0), (180, .agg [.vs 1 (Wa (Wb .i64) x77.2.2.Fans), .vs 1 (Wa (Wb .i64) x77.2.2.Doors)]), (181, .agg [.vs 1 (Wa (Wb .i64) o61.2.1.Pressures), .vs 1 (Wa (Wb .i64) o61.2.1.Flows)])]) (loc1 := [⟨31, 4, [.agg [.nils, .nils, .nils, .nils]], 0⟩, ⟨62, 2, [.agg [.nils, .nils]], 0⟩, ⟨64, 2, [.agg [.nils, .nils]], 0⟩, ⟨31, 4, [.agg [.vs 2 (Wa T_Place.enc x77.2.1.Mine.Places), .sl (n + 6) 0 0 (o61.1.Mine.Roads).length, .sl (n + 9) (0 + 1) 0 (x77.2.1.Fans).length, .sl (n + 10) (0 + 1) 0 (x77.2.1.Doors).length]], 0⟩, ⟨64, 2, [.agg [.vs 1 (Wa (Wb .i64) o61.2.1.Pressures), .vs 1 (Wa (Wb .i64) o61.2.1.Flows)]], 0⟩, ⟨48, 2, [], 0 + 1⟩, ⟨46, 10, Wa T_Road.enc x77.2.1.Mine.Roads, 0⟩, ⟨3, 1, [], 0 + 1⟩, ⟨3, 1, [], 0 + 1⟩, ⟨72, 4, Wa T_Fan.enc x77.2.1.Fans, 0 + 1⟩, ⟨99, 3, Wa T_Door.enc x77.2.1.Doors, 0 + 1⟩, ⟨3, 1, [], 0 + 1⟩, ⟨3, 1, [], 0 + 1⟩, ⟨62, 2, [.agg [.vs 1 (Wa (Wb .i64) x77.2.2.Fans), .vs 1 (Wa (Wb .i64) x77.2.2.Doors)]], 0⟩]) (Vl hn) 8 rfl (Ym (fun _ => .int _ _)) ⟨Vu rfl, Vu rfl, Vu rfl, Vu rfl, Vu rfl, Vu rfl, Vu rfl, Vu rfl, Vu rfl, cv_agg rfl ⟨Vu rfl, cv_sl rfl rfl rfl (Zj rfl), trivial⟩, trivial⟩ ⟨.refl _, .refl _, .refl _, .refl _, cvo_agg ⟨Vu rfl, cv_sl rfl rfl rfl (Zj rfl), trivial⟩, .refl _, .refl _, .refl _, .refl _, .refl _, .refl _, .refl _, .refl _, .refl _, trivial⟩) ?_
       refine Vi (Vz (ps := [(q0, ⟨88, 2, [.agg [.vs 1 (Wa (Wb .u8) x79.1.l), .int .i64 x79.1.at_]], w0⟩), ((n + 3), ⟨31, 4, [.agg [.vs 2 (Wa T_Place.enc x79.2.Mine.Places), .sl (n + 6) 0 0 (o61.1.Mine.Roads).length, .sl (n + 9) (0 + 1) 0 (x77.2.1.Fans).length, .sl (n + 10) (0 + 1) 0 (x77.2.1.Doors).length]], 0⟩), ((n + 6), ⟨46, 10, Wa T_Road.enc x79.2.Mine.Roads, 0⟩), ((n + 9), ⟨72, 4, Wa T_Fan.enc x79.2.Fans, 0 + 1⟩), ((n + 10), ⟨99, 3, Wa T_Door.enc x79.2.Doors, 0 + 1⟩)]) (r := .tup []) (os := []) (low1 := (setL low0 [(q0, ⟨88, 2, [.agg [.vs 1 (Wa (Wb .u8) x79.1.l), .int .i64 x79.1.at_]], w0⟩)])) (loc1 := [⟨31, 4, [.agg [.nils, .nils, .nils, .nils]], 0⟩, ⟨62, 2, [.agg [.nils, .nils]], 0⟩, ⟨64, 2, [.agg [.nils, .nils]], 0⟩, ⟨31, 4, [.agg [.vs 2 (Wa T_Place.enc x79.2.Mine.Places), .sl (n + 6) 0 0 (o61.1.Mine.Roads).length, .sl (n + 9) (0 + 1) 0 (x77.2.1.Fans).length, .sl (n + 10) (0 + 1) 0 (x77.2.1.Doors).length]], 0⟩, ⟨64, 2, [.agg [.vs 1 (Wa (Wb .i64) o61.2.1.Pressures), .vs 1 (Wa (Wb .i64) o61.2.1.Flows)]], 0⟩, ⟨48, 2, [], 0 + 1⟩, ⟨46, 10, Wa T_Road.enc x79.2.Mine.Roads, 0⟩, ⟨3, 1, [], 0 + 1⟩, ⟨3, 1, [], 0 + 1⟩, ⟨72, 4, Wa T_Fan.enc x79.2.Fans, 0 + 1⟩, ⟨99, 3, Wa T_Door.enc x79.2.Doors, 0 + 1⟩, ⟨3, 1, [], 0 + 1⟩, ⟨3, 1, [], 0 + 1⟩, ⟨62, 2, [.agg [.vs 1 (Wa (Wb .i64) x77.2.2.Fans), .vs 1 (Wa (Wb .i64) x77.2.2.Doors)]], 0⟩]) (loc2 := [⟨31, 4, [.agg [.nils, .nils, .nils, .nils]], 0⟩, ⟨62, 2, [.agg [.nils, .nils]], 0⟩, ⟨64, 2, [.agg [.nils, .nils]], 0⟩, ⟨31, 4, [.agg [.vs 2 (Wa T_Place.enc x79.2.Mine.Places), .sl (n + 6) 0 0 (o61.1.Mine.Roads).length, .sl (n + 9) (0 + 1) 0 (x77.2.1.Fans).length, .sl (n + 10) (0 + 1) 0 (x77.2.1.Doors).length]], 0⟩, ⟨64, 2, [.agg [.vs 1 (Wa (Wb .i64) o61.2.1.Pressures), .vs 1 (Wa (Wb .i64) o61.2.1.Flows)]], 0⟩, ⟨48, 2, [], 0 + 1⟩, ⟨46, 10, Wa T_Road.enc x79.2.Mine.Roads, 0⟩, ⟨3, 1, [], 0 + 1⟩, ⟨3, 1, [], 0 + 1⟩, ⟨72, 4, Wa T_Fan.enc x79.2.Fans, 0 + 1⟩, ⟨99, 3, Wa T_Door.enc x79.2.Doors, 0 + 1⟩, ⟨3, 1, [], 0 + 1⟩, ⟨3, 1, [], 0 + 1⟩, ⟨62, 2, [.agg [.vs 1 (Wa (Wb .i64) x77.2.2.Fans), .vs 1 (Wa (Wb .i64) x77.2.2.Doors)]], 0⟩]) rfl Try.call39 (F_draw_Codes_fit_ok h80 (nd1 (na1 (ne_low hq0) (na1 (ne_low hq0) (na1 (ne_low hq0) (na1 (ne_low hq0) na0)))) (nd1 (na1 (ne_own rfl) (na1 (ne_own rfl) (na1 (ne_own rfl) na0))) (nd1 (na1 (ne_own rfl) (na1 (ne_own rfl) na0)) (nd1 (na1 (ne_own rfl) na0) (nd1 na0 nd0))))) (F_draw_Codes_equipped_len h78 (rfl : (o61.1.Mine.Roads).length = _) (rfl : (([] : List T_Fan)).length = _) (rfl : (([] : List T_Door)).length = _)).1 (rfl : (x77.2.1.Fans).length = _) (rfl : (x77.2.1.Doors).length = _) (Zb hB rfl 0 rfl) (get_N (Vl hn) rfl) (get_N (Vl hn) rfl) (get_N (Vl hn) rfl) (get_N (Vl hn) rfl) (Xs (Vl hn) rfl)) (Yk (ps0' := [(q0, ⟨88, 2, [.agg [.vs 1 (Wa (Wb .u8) x79.1.l), .int .i64 x79.1.at_]], w0⟩)]) hB rfl 0 rfl (Yo hn ⟨Vo ⟨.vs _ _, .int _ _, trivial⟩, trivial⟩) rfl (Zv (loc2 := [⟨31, 4, [.agg [.nils, .nils, .nils, .nils]], 0⟩, ⟨62, 2, [.agg [.nils, .nils]], 0⟩, ⟨64, 2, [.agg [.nils, .nils]], 0⟩, ⟨31, 4, [.agg [.vs 2 (Wa T_Place.enc x79.2.Mine.Places), .sl (n + 6) 0 0 (o61.1.Mine.Roads).length, .sl (n + 9) (0 + 1) 0 (x77.2.1.Fans).length, .sl (n + 10) (0 + 1) 0 (x77.2.1.Doors).length]], 0⟩, ⟨64, 2, [.agg [.vs 1 (Wa (Wb .i64) o61.2.1.Pressures), .vs 1 (Wa (Wb .i64) o61.2.1.Flows)]], 0⟩, ⟨48, 2, [], 0 + 1⟩, ⟨46, 10, Wa T_Road.enc x77.2.1.Mine.Roads, 0⟩, ⟨3, 1, [], 0 + 1⟩, ⟨3, 1, [], 0 + 1⟩, ⟨72, 4, Wa T_Fan.enc x77.2.1.Fans, 0 + 1⟩, ⟨99, 3, Wa T_Door.enc x77.2.1.Doors, 0 + 1⟩, ⟨3, 1, [], 0 + 1⟩, ⟨3, 1, [], 0 + 1⟩, ⟨62, 2, [.agg [.vs 1 (Wa (Wb .i64) x77.2.2.Fans), .vs 1 (Wa (Wb .i64) x77.2.2.Doors)]], 0⟩]) (Vl hn) 3 rfl (Zv (loc2 := [⟨31, 4, [.agg [.nils, .nils, .nils, .nils]], 0⟩, ⟨62, 2, [.agg [.nils, .nils]], 0⟩, ⟨64, 2, [.agg [.nils, .nils]], 0⟩, ⟨31, 4, [.agg [.vs 2 (Wa T_Place.enc x79.2.Mine.Places), .sl (n + 6) 0 0 (o61.1.Mine.Roads).length, .sl (n + 9) (0 + 1) 0 (x77.2.1.Fans).length, .sl (n + 10) (0 + 1) 0 (x77.2.1.Doors).length]], 0⟩, ⟨64, 2, [.agg [.vs 1 (Wa (Wb .i64) o61.2.1.Pressures), .vs 1 (Wa (Wb .i64) o61.2.1.Flows)]], 0⟩, ⟨48, 2, [], 0 + 1⟩, ⟨46, 10, Wa T_Road.enc x79.2.Mine.Roads, 0⟩, ⟨3, 1, [], 0 + 1⟩, ⟨3, 1, [], 0 + 1⟩, ⟨72, 4, Wa T_Fan.enc x77.2.1.Fans, 0 + 1⟩, ⟨99, 3, Wa T_Door.enc x77.2.1.Doors, 0 + 1⟩, ⟨3, 1, [], 0 + 1⟩, ⟨3, 1, [], 0 + 1⟩, ⟨62, 2, [.agg [.vs 1 (Wa (Wb .i64) x77.2.2.Fans), .vs 1 (Wa (Wb .i64) x77.2.2.Doors)]], 0⟩]) (Vl hn) 6 rfl (Zv (loc2 := [⟨31, 4, [.agg [.nils, .nils, .nils, .nils]], 0⟩, ⟨62, 2, [.agg [.nils, .nils]], 0⟩, ⟨64, 2, [.agg [.nils, .nils]], 0⟩, ⟨31, 4, [.agg [.vs 2 (Wa T_Place.enc x79.2.Mine.Places), .sl (n + 6) 0 0 (o61.1.Mine.Roads).length, .sl (n + 9) (0 + 1) 0 (x77.2.1.Fans).length, .sl (n + 10) (0 + 1) 0 (x77.2.1.Doors).length]], 0⟩, ⟨64, 2, [.agg [.vs 1 (Wa (Wb .i64) o61.2.1.Pressures), .vs 1 (Wa (Wb .i64) o61.2.1.Flows)]], 0⟩, ⟨48, 2, [], 0 + 1⟩, ⟨46, 10, Wa T_Road.enc x79.2.Mine.Roads, 0⟩, ⟨3, 1, [], 0 + 1⟩, ⟨3, 1, [], 0 + 1⟩, ⟨72, 4, Wa T_Fan.enc x79.2.Fans, 0 + 1⟩, ⟨99, 3, Wa T_Door.enc x77.2.1.Doors, 0 + 1⟩, ⟨3, 1, [], 0 + 1⟩, ⟨3, 1, [], 0 + 1⟩, ⟨62, 2, [.agg [.vs 1 (Wa (Wb .i64) x77.2.2.Fans), .vs 1 (Wa (Wb .i64) x77.2.2.Doors)]], 0⟩]) (Vl hn) 9 rfl (Zv (loc2 := [⟨31, 4, [.agg [.nils, .nils, .nils, .nils]], 0⟩, ⟨62, 2, [.agg [.nils, .nils]], 0⟩, ⟨64, 2, [.agg [.nils, .nils]], 0⟩, ⟨31, 4, [.agg [.vs 2 (Wa T_Place.enc x79.2.Mine.Places), .sl (n + 6) 0 0 (o61.1.Mine.Roads).length, .sl (n + 9) (0 + 1) 0 (x77.2.1.Fans).length, .sl (n + 10) (0 + 1) 0 (x77.2.1.Doors).length]], 0⟩, ⟨64, 2, [.agg [.vs 1 (Wa (Wb .i64) o61.2.1.Pressures), .vs 1 (Wa (Wb .i64) o61.2.1.Flows)]], 0⟩, ⟨48, 2, [], 0 + 1⟩, ⟨46, 10, Wa T_Road.enc x79.2.Mine.Roads, 0⟩, ⟨3, 1, [], 0 + 1⟩, ⟨3, 1, [], 0 + 1⟩, ⟨72, 4, Wa T_Fan.enc x79.2.Fans, 0 + 1⟩, ⟨99, 3, Wa T_Door.enc x79.2.Doors, 0 + 1⟩, ⟨3, 1, [], 0 + 1⟩, ⟨3, 1, [], 0 + 1⟩, ⟨62, 2, [.agg [.vs 1 (Wa (Wb .i64) x77.2.2.Fans), .vs 1 (Wa (Wb .i64) x77.2.2.Doors)]], 0⟩]) (Vl hn) 10 rfl Xf))))) rfl) rfl ?_
       refine Ve ?_
       refine Vf ?_
       refine Yl (Yv (E' := [(0, .ptr q0 w0 0 0), (2, .ptr (n + 0) 0 0 0), (3, .ptr (n + 1) 0 0 0), (4, .ptr (n + 2) 0 0 0), (5, .ptr (n + 3) 0 0 0), (9, .ptr (n + 4) 0 0 0), (19, .ptr (n + 13) 0 0 0)]) (loc1 := [⟨31, 4, [.agg [.nils, .nils, .nils, .nils]], 0⟩, ⟨62, 2, [.agg [.nils, .nils]], 0⟩, ⟨64, 2, [.agg [.nils, .nils]], 0⟩, ⟨31, 4, [.agg [.vs 2 (Wa T_Place.enc x79.2.Mine.Places), .vs 10 (Wa T_Road.enc x79.2.Mine.Roads), .sl (n + 9) (0 + 1) 0 (x77.2.1.Fans).length, .sl (n + 10) (0 + 1) 0 (x77.2.1.Doors).length]], 0⟩, ⟨64, 2, [.agg [.vs 1 (Wa (Wb .i64) o61.2.1.Pressures), .vs 1 (Wa (Wb .i64) o61.2.1.Flows)]], 0⟩, ⟨48, 2, [], 0 + 1⟩, ⟨46, 10, [], 0 + 1⟩, ⟨3, 1, [], 0 + 1⟩, ⟨3, 1, [], 0 + 1⟩, ⟨72, 4, Wa T_Fan.enc x79.2.Fans, 0 + 1⟩, ⟨99, 3, Wa T_Door.enc x79.2.Doors, 0 + 1⟩, ⟨3, 1, [], 0 + 1⟩, ⟨3, 1, [], 0 + 1⟩, ⟨62, 2, [.agg [.vs 1 (Wa (Wb .i64) x77.2.2.Fans), .vs 1 (Wa (Wb .i64) x77.2.2.Doors)]], 0⟩]) (Vl hn) 6 rfl (Ym T_Road.enc_lt) ⟨Vu rfl, Vu rfl, Vu rfl, Vu rfl, Vu rfl, Vu rfl, Vu rfl, trivial⟩ ⟨.refl _, .refl _, .refl _, cvo_agg ⟨Vu rfl, cv_sl rfl rfl rfl (Zj (F_draw_Codes_fit_len h80 (F_draw_Codes_equipped_len h78 (rfl : (o61.1.Mine.Roads).length = _) (rfl : (([] : List T_Fan)).length = _) (rfl : (([] : List T_Door)).length = _)).1 (rfl : (x77.2.1.Fans).length = _) (rfl : (x77.2.1.Doors).length = _)).1), Vu rfl, Vu rfl, trivial⟩, .refl _, .refl _, .refl _, .refl _, .refl _, .refl _, .refl _, .refl _, .refl _, .refl _, trivial⟩) ?_
       refine Yl (Yv (E' := [(0, .ptr q0 w0 0 0), (2, .ptr (n + 0) 0 0 0), (3, .ptr (n + 1) 0 0 0), (4, .ptr (n + 2) 0 0 0), (5, .ptr (n + 3) 0 0 0), (9, .ptr (n + 4) 0 0 0), (19, .ptr (n + 13) 0 0 0)]) (loc1 := [⟨31, 4, [.agg [.nils, .nils, .nils, .nils]], 0⟩, ⟨62, 2, [.agg [.nils, .nils]], 0⟩, ⟨64, 2, [.agg [.nils, .nils]], 0⟩, ⟨31, 4, [.agg [.vs 2 (Wa T_Place.enc x79.2.Mine.Places), .vs 10 (Wa T_Road.enc x79.2.Mine.Roads), .vs 4 (Wa T_Fan.enc x79.2.Fans), .sl (n + 10) (0 + 1) 0 (x77.2.1.Doors).length]], 0⟩, ⟨64, 2, [.agg [.vs 1 (Wa (Wb .i64) o61.2.1.Pressures), .vs 1 (Wa (Wb .i64) o61.2.1.Flows)]], 0⟩, ⟨48, 2, [], 0 + 1⟩, ⟨46, 10, [], 0 + 1⟩, ⟨3, 1, [], 0 + 1⟩, ⟨3, 1, [], 0 + 1⟩, ⟨72, 4, [], (0 + 1) + 1⟩, ⟨99, 3, Wa T_Door.enc x79.2.Doors, 0 + 1⟩, ⟨3, 1, [], 0 + 1⟩, ⟨3, 1, [], 0 + 1⟩, ⟨62, 2, [.agg [.vs 1 (Wa (Wb .i64) x77.2.2.Fans), .vs 1 (Wa (Wb .i64) x77.2.2.Doors)]], 0⟩]) (Vl hn) 9 rfl (Ym T_Fan.enc_lt) ⟨Vu rfl, Vu rfl, Vu rfl, Vu rfl, Vu rfl, Vu rfl, Vu rfl, trivial⟩ ⟨.refl _, .refl _, .refl _, cvo_agg ⟨Vu rfl, Vu rfl, cv_sl rfl rfl rfl (Zj (F_draw_Codes_fit_len h80 (F_draw_Codes_equipped_len h78 (rfl : (o61.1.Mine.Roads).length = _) (rfl : (([] : List T_Fan)).length = _) (rfl : (([] : List T_Door)).length = _)).1 (rfl : (x77.2.1.Fans).length = _) (rfl : (x77.2.1.Doors).length = _)).2.1), Vu rfl, trivial⟩, .refl _, .refl _, .refl _, .refl _, .refl _, .refl _, .refl _, .refl _, .refl _, .refl _, trivial⟩) ?_
       refine Yl (Yv (E' := [(0, .ptr q0 w0 0 0), (2, .ptr (n + 0) 0 0 0), (3, .ptr (n + 1) 0 0 0), (4, .ptr (n + 2) 0 0 0), (5, .ptr (n + 3) 0 0 0), (9, .ptr (n + 4) 0 0 0), (19, .ptr (n + 13) 0 0 0)]) (loc1 := [⟨31, 4, [.agg [.nils, .nils, .nils, .nils]], 0⟩, ⟨62, 2, [.agg [.nils, .nils]], 0⟩, ⟨64, 2, [.agg [.nils, .nils]], 0⟩, ⟨31, 4, [.agg [.vs 2 (Wa T_Place.enc x79.2.Mine.Places), .vs 10 (Wa T_Road.enc x79.2.Mine.Roads), .vs 4 (Wa T_Fan.enc x79.2.Fans), .vs 3 (Wa T_Door.enc x79.2.Doors)]], 0⟩, ⟨64, 2, [.agg [.vs 1 (Wa (Wb .i64) o61.2.1.Pressures), .vs 1 (Wa (Wb .i64) o61.2.1.Flows)]], 0⟩, ⟨48, 2, [], 0 + 1⟩, ⟨46, 10, [], 0 + 1⟩, ⟨3, 1, [], 0 + 1⟩, ⟨3, 1, [], 0 + 1⟩, ⟨72, 4, [], (0 + 1) + 1⟩, ⟨99, 3, [], (0 + 1) + 1⟩, ⟨3, 1, [], 0 + 1⟩, ⟨3, 1, [], 0 + 1⟩, ⟨62, 2, [.agg [.vs 1 (Wa (Wb .i64) x77.2.2.Fans), .vs 1 (Wa (Wb .i64) x77.2.2.Doors)]], 0⟩]) (Vl hn) 10 rfl (Ym T_Door.enc_lt) ⟨Vu rfl, Vu rfl, Vu rfl, Vu rfl, Vu rfl, Vu rfl, Vu rfl, trivial⟩ ⟨.refl _, .refl _, .refl _, cvo_agg ⟨Vu rfl, Vu rfl, Vu rfl, cv_sl rfl rfl rfl (Zj (F_draw_Codes_fit_len h80 (F_draw_Codes_equipped_len h78 (rfl : (o61.1.Mine.Roads).length = _) (rfl : (([] : List T_Fan)).length = _) (rfl : (([] : List T_Door)).length = _)).1 (rfl : (x77.2.1.Fans).length = _) (rfl : (x77.2.1.Doors).length = _)).2.2.1), trivial⟩, .refl _, .refl _, .refl _, .refl _, .refl _, .refl _, .refl _, .refl _, .refl _, .refl _, trivial⟩) ?_
       obtain ⟨x81, h82, hF⟩ := Yf hF
       refine Zn [[], [], [], [], [1, 2, 3], [], [0, 1, 2, 3, 4], [0, 1, 2, 3, 4, 6], [0, 1, 2, 3, 4, 5, 6, 7]] [false, false, false, false, true, false, true, true, true] [((setL low0 [(q0, ⟨88, 2, [.agg [.vs 1 (Wa (Wb .u8) x79.1.l), .int .i64 x79.1.at_]], w0⟩)]), [⟨31, 4, [.agg [.nils, .nils, .nils, .nils]], 0⟩, ⟨62, 2, [.agg [.nils, .nils]], 0⟩, ⟨64, 2, [.agg [.nils, .nils]], 0⟩, ⟨31, 4, [.agg [.vs 2 (Wa T_Place.enc x79.2.Mine.Places), .vs 10 (Wa T_Road.enc x79.2.Mine.Roads), .vs 4 (Wa T_Fan.enc x79.2.Fans), .vs 3 (Wa T_Door.enc x79.2.Doors)]], 0⟩, ⟨64, 2, [.agg [.vs 1 (Wa (Wb .i64) o61.2.1.Pressures), .vs 1 (Wa (Wb .i64) o61.2.1.Flows)]], 0⟩, ⟨48, 2, [], 0 + 1⟩, ⟨46, 10, [], 0 + 1⟩, ⟨3, 1, [], 0 + 1⟩, ⟨3, 1, [], 0 + 1⟩, ⟨72, 4, [], (0 + 1) + 1⟩, ⟨99, 3, [], (0 + 1) + 1⟩, ⟨3, 1, [], 0 + 1⟩, ⟨3, 1, [], 0 + 1⟩, ⟨62, 2, [.agg [.vs 1 (Wa (Wb .i64) x77.2.2.Fans), .vs 1 (Wa (Wb .i64) x77.2.2.Doors)]], 0⟩]), ((setL low0 [(q0, ⟨88, 2, [.agg [.vs 1 (Wa (Wb .u8) x81.1.l), .int .i64 x81.1.at_]], w0⟩)]), [⟨31, 4, [.agg [.nils, .nils, .nils, .nils]], 0⟩, ⟨62, 2, [.agg [.nils, .nils]], 0⟩, ⟨64, 2, [.agg [.nils, .nils]], 0⟩, ⟨31, 4, [.agg [.vs 2 (Wa T_Place.enc x79.2.Mine.Places), .vs 10 (Wa T_Road.enc x79.2.Mine.Roads), .vs 4 (Wa T_Fan.enc x79.2.Fans), .vs 3 (Wa T_Door.enc x79.2.Doors)]], 0⟩, ⟨64, 2, [.agg [.vs 1 (Wa (Wb .i64) o61.2.1.Pressures), .vs 1 (Wa (Wb .i64) o61.2.1.Flows)]], 0⟩, ⟨48, 2, [], 0 + 1⟩, ⟨46, 10, [], 0 + 1⟩, ⟨3, 1, [], 0 + 1⟩, ⟨3, 1, [], 0 + 1⟩, ⟨72, 4, [], (0 + 1) + 1⟩, ⟨99, 3, [], (0 + 1) + 1⟩, ⟨3, 1, [], 0 + 1⟩, ⟨3, 1, [], 0 + 1⟩, ⟨62, 2, [.agg [.vs 1 (Wa (Wb .i64) x77.2.2.Fans), .vs 1 (Wa (Wb .i64) x77.2.2.Doors)]], 0⟩, ⟨3, 1, Wa (Wb .i64) x81.2.Fans, 0⟩, ⟨3, 1, Wa (Wb .i64) x81.2.Doors, 0⟩]), ((setL low0 [(q0, ⟨88, 2, [.agg [.vs 1 (Wa (Wb .u8) x81.1.l), .int .i64 x81.1.at_]], w0⟩)]), [⟨31, 4, [.agg [.vs 2 (Wa T_Place.enc x79.2.Mine.Places), .vs 10 (Wa T_Road.enc x79.2.Mine.Roads), .vs 4 (Wa T_Fan.enc x79.2.Fans), .vs 3 (Wa T_Door.enc x79.2.Doors)]], 0⟩, ⟨62, 2, [.agg [.nils, .nils]], 0⟩, ⟨64, 2, [.agg [.nils, .nils]], 0⟩, ⟨31, 4, [.agg [.vs 2 (Wa T_Place.enc x79.2.Mine.Places), .vs 10 (Wa T_Road.enc x79.2.Mine.Roads), .vs 4 (Wa T_Fan.enc x79.2.Fans), .vs 3 (Wa T_Door.enc x79.2.Doors)]], 0⟩, ⟨64, 2, [.agg [.vs 1 (Wa (Wb .i64) o61.2.1.Pressures), .vs 1 (Wa (Wb .i64) o61.2.1.Flows)]], 0⟩, ⟨48, 2, [], 0 + 1⟩, ⟨46, 10, [], 0 + 1⟩, ⟨3, 1, [], 0 + 1⟩, ⟨3, 1, [], 0 + 1⟩, ⟨72, 4, [], (0 + 1) + 1⟩, ⟨99, 3, [], (0 + 1) + 1⟩, ⟨3, 1, [], 0 + 1⟩, ⟨3, 1, [], 0 + 1⟩, ⟨62, 2, [.agg [.vs 1 (Wa (Wb .i64) x77.2.2.Fans), .vs 1 (Wa (Wb .i64) x77.2.2.Doors)]], 0⟩, ⟨3, 1, Wa (Wb .i64) x81.2.Fans, 0⟩, ⟨3, 1, Wa (Wb .i64) x81.2.Doors, 0⟩]), ((setL low0 [(q0, ⟨88, 2, [.agg [.vs 1 (Wa (Wb .u8) x81.1.l), .int .i64 x81.1.at_]], w0⟩)]), [⟨31, 4, [.agg [.vs 2 (Wa T_Place.enc x79.2.Mine.Places), .vs 10 (Wa T_Road.enc x79.2.Mine.Roads), .vs 4 (Wa T_Fan.enc x79.2.Fans), .vs 3 (Wa T_Door.enc x79.2.Doors)]], 0⟩, ⟨62, 2, [.agg [.sl (n + 14) 0 0 (x81.2.Fans).length, .sl (n + 15) 0 0 (x81.2.Doors).length]], 0⟩, ⟨64, 2, [.agg [.nils, .nils]], 0⟩, ⟨31, 4, [.agg [.vs 2 (Wa T_Place.enc x79.2.Mine.Places), .vs 10 (Wa T_Road.enc x79.2.Mine.Roads), .vs 4 (Wa T_Fan.enc x79.2.Fans), .vs 3 (Wa T_Door.enc x79.2.Doors)]], 0⟩, ⟨64, 2, [.agg [.vs 1 (Wa (Wb .i64) o61.2.1.Pressures), .vs 1 (Wa (Wb .i64) o61.2.1.Flows)]], 0⟩, ⟨48, 2, [], 0 + 1⟩, ⟨46, 10, [], 0 + 1⟩, ⟨3, 1, [], 0 + 1⟩, ⟨3, 1, [], 0 + 1⟩, ⟨72, 4, [], (0 + 1) + 1⟩, ⟨99, 3, [], (0 + 1) + 1⟩, ⟨3, 1, [], 0 + 1⟩, ⟨3, 1, [], 0 + 1⟩, ⟨62, 2, [.agg [.vs 1 (Wa (Wb .i64) x77.2.2.Fans), .vs 1 (Wa (Wb .i64) x77.2.2.Doors)]], 0⟩, ⟨3, 1, Wa (Wb .i64) x81.2.Fans, 0⟩, ⟨3, 1, Wa (Wb .i64) x81.2.Doors, 0⟩]), ((setL low0 [(q0, ⟨88, 2, [.agg [.vs 1 (Wa (Wb .u8) x81.1.l), .int .i64 x81.1.at_]], w0⟩)]), [⟨31, 4, [.agg [.vs 2 (Wa T_Place.enc x79.2.Mine.Places), .vs 10 (Wa T_Road.enc x79.2.Mine.Roads), .vs 4 (Wa T_Fan.enc x79.2.Fans), .vs 3 (Wa T_Door.enc x79.2.Doors)]], 0⟩, ⟨62, 2, [.agg [.sl (n + 14) 0 0 (x81.2.Fans).length, .sl (n + 15) 0 0 (x81.2.Doors).length]], 0⟩, ⟨64, 2, [.agg [.vs 1 (Wa (Wb .i64) o61.2.1.Pressures), .vs 1 (Wa (Wb .i64) o61.2.1.Flows)]], 0⟩, ⟨31, 4, [.agg [.vs 2 (Wa T_Place.enc x79.2.Mine.Places), .vs 10 (Wa T_Road.enc x79.2.Mine.Roads), .vs 4 (Wa T_Fan.enc x79.2.Fans), .vs 3 (Wa T_Door.enc x79.2.Doors)]], 0⟩, ⟨64, 2, [.agg [.vs 1 (Wa (Wb .i64) o61.2.1.Pressures), .vs 1 (Wa (Wb .i64) o61.2.1.Flows)]], 0⟩, ⟨48, 2, [], 0 + 1⟩, ⟨46, 10, [], 0 + 1⟩, ⟨3, 1, [], 0 + 1⟩, ⟨3, 1, [], 0 + 1⟩, ⟨72, 4, [], (0 + 1) + 1⟩, ⟨99, 3, [], (0 + 1) + 1⟩, ⟨3, 1, [], 0 + 1⟩, ⟨3, 1, [], 0 + 1⟩, ⟨62, 2, [.agg [.vs 1 (Wa (Wb .i64) x77.2.2.Fans), .vs 1 (Wa (Wb .i64) x77.2.2.Doors)]], 0⟩, ⟨3, 1, Wa (Wb .i64) x81.2.Fans, 0⟩, ⟨3, 1, Wa (Wb .i64) x81.2.Doors, 0⟩])] mixed (by kernel_rfl) rfl (lenAll (Vv Xp (Vv Xp (Vv Xp (Vv Xp (Vv Xp Yw)))))) rfl _ rfl rfl ?_
       refine Vx _ rfl rfl (Vv (VRd.ntl (Xa (ds := [.vs 2 (Wa T_Place.enc x79.2.Mine.Places), .vs 10 (Wa T_Road.enc x79.2.Mine.Roads), .vs 4 (Wa T_Fan.enc x79.2.Fans), .vs 3 (Wa T_Door.enc x79.2.Doors)]) rfl (Vg (Vl hn) rfl) rfl ta_31 ts_31 rfl rfl rfl)) (Vv (VRd.ntl (Xa (ds := [.vs 2 (Wa T_Place.enc x79.2.Mine.Places), .vs 10 (Wa T_Road.enc x79.2.Mine.Roads), .vs 4 (Wa T_Fan.enc x79.2.Fans), .vs 3 (Wa T_Door.enc x79.2.Doors)]) rfl (Vg (Vl hn) rfl) rfl ta_31 ts_31 rfl rfl rfl)) Yw)) ?_
       refine Yd rfl rfl (Xg rfl) ?_
       refine Yd rfl rfl (Xa (ds := [.vs 2 (Wa T_Place.enc x79.2.Mine.Places), .vs 10 (Wa T_Road.enc x79.2.Mine.Roads), .vs 4 (Wa T_Fan.enc x79.2.Fans), .vs 3 (Wa T_Door.enc x79.2.Doors)]) rfl (Vg (Vl hn) rfl) rfl ta_31 ts_31 rfl rfl rfl) ?_
       refine Yd rfl rfl (Xa (ds := [.vs 1 (Wa (Wb .i64) x77.2.2.Fans), .vs 1 (Wa (Wb .i64) x77.2.2.Doors)]) rfl (Vg (Vl hn) rfl) rfl ta_62 ts_62 rfl rfl rfl) ?_
       refine Ya rfl rfl rfl (Vz (ps := [(q0, ⟨88, 2, [.agg [.vs 1 (Wa (Wb .u8) x81.1.l), .int .i64 x81.1.at_]], w0⟩)]) (r := .agg [.sl (n + 14) 0 0 (x81.2.Fans).length, .sl (n + 15) 0 0 (x81.2.Doors).length]) (os := [⟨3, 1, Wa (Wb .i64) x81.2.Fans, 0⟩, ⟨3, 1, Wa (Wb .i64) x81.2.Doors, 0⟩]) (low1 := (setL low0 [(q0, ⟨88, 2, [.agg [.vs 1 (Wa (Wb .u8) x81.1.l), .int .i64 x81.1.at_]], w0⟩)])) (loc1 := [⟨31, 4, [.agg [.nils, .nils, .nils, .nils]], 0⟩, ⟨62, 2, [.agg [.nils, .nils]], 0⟩, ⟨64, 2, [.agg [.nils, .nils]], 0⟩, ⟨31, 4, [.agg [.vs 2 (Wa T_Place.enc x79.2.Mine.Places), .vs 10 (Wa T_Road.enc x79.2.Mine.Roads), .vs 4 (Wa T_Fan.enc x79.2.Fans), .vs 3 (Wa T_Door.enc x79.2.Doors)]], 0⟩, ⟨64, 2, [.agg [.vs 1 (Wa (Wb .i64) o61.2.1.Pressures), .vs 1 (Wa (Wb .i64) o61.2.1.Flows)]], 0⟩, ⟨48, 2, [], 0 + 1⟩, ⟨46, 10, [], 0 + 1⟩, ⟨3, 1, [], 0 + 1⟩, ⟨3, 1, [], 0 + 1⟩, ⟨72, 4, [], (0 + 1) + 1⟩, ⟨99, 3, [], (0 + 1) + 1⟩, ⟨3, 1, [], 0 + 1⟩, ⟨3, 1, [], 0 + 1⟩, ⟨62, 2, [.agg [.vs 1 (Wa (Wb .i64) x77.2.2.Fans), .vs 1 (Wa (Wb .i64) x77.2.2.Doors)]], 0⟩]) (loc2 := [⟨31, 4, [.agg [.nils, .nils, .nils, .nils]], 0⟩, ⟨62, 2, [.agg [.nils, .nils]], 0⟩, ⟨64, 2, [.agg [.nils, .nils]], 0⟩, ⟨31, 4, [.agg [.vs 2 (Wa T_Place.enc x79.2.Mine.Places), .vs 10 (Wa T_Road.enc x79.2.Mine.Roads), .vs 4 (Wa T_Fan.enc x79.2.Fans), .vs 3 (Wa T_Door.enc x79.2.Doors)]], 0⟩, ⟨64, 2, [.agg [.vs 1 (Wa (Wb .i64) o61.2.1.Pressures), .vs 1 (Wa (Wb .i64) o61.2.1.Flows)]], 0⟩, ⟨48, 2, [], 0 + 1⟩, ⟨46, 10, [], 0 + 1⟩, ⟨3, 1, [], 0 + 1⟩, ⟨3, 1, [], 0 + 1⟩, ⟨72, 4, [], (0 + 1) + 1⟩, ⟨99, 3, [], (0 + 1) + 1⟩, ⟨3, 1, [], 0 + 1⟩, ⟨3, 1, [], 0 + 1⟩, ⟨62, 2, [.agg [.vs 1 (Wa (Wb .i64) x77.2.2.Fans), .vs 1 (Wa (Wb .i64) x77.2.2.Doors)]], 0⟩, ⟨3, 1, Wa (Wb .i64) x81.2.Fans, 0⟩, ⟨3, 1, Wa (Wb .i64) x81.2.Doors, 0⟩]) rfl Try.call40 (F_draw_Codes_doubts_ok h82 (nd1 na0 nd0) (Zb hB rfl 0 rfl) (Xs (Vl hn) rfl)) (Yk (ps0' := [(q0, ⟨88, 2, [.agg [.vs 1 (Wa (Wb .u8) x81.1.l), .int .i64 x81.1.at_]], w0⟩)]) hB rfl 0 rfl (Yo hn ⟨Vo ⟨.vs _ _, .int _ _, trivial⟩, trivial⟩) rfl Xf) rfl) ?_
       refine Vx _ rfl rfl (Vv (VRd.ntl (Xa (ds := [.vs 1 (Wa (Wb .i64) o61.2.1.Pressures), .vs 1 (Wa (Wb .i64) o61.2.1.Flows)]) rfl (Vg (Vl hn) rfl) rfl ta_64 ts_64 rfl rfl rfl)) (Vv (VRd.ntl (Xa (ds := [.vs 1 (Wa (Wb .i64) o61.2.1.Pressures), .vs 1 (Wa (Wb .i64) o61.2.1.Flows)]) rfl (Vg (Vl hn) rfl) rfl ta_64 ts_64 rfl rfl rfl)) (Vv (VRd.ntl (Xa (ds := [.vs 1 (Wa (Wb .i64) o61.2.1.Pressures), .vs 1 (Wa (Wb .i64) o61.2.1.Flows)]) rfl (Vg (Vl hn) rfl) rfl ta_64 ts_64 rfl rfl rfl)) (Vv (VRd.ntl (Xa (ds := [.vs 1 (Wa (Wb .i64) o61.2.1.Pressures), .vs 1 (Wa (Wb .i64) o61.2.1.Flows)]) rfl (Vg (Vl hn) rfl) rfl ta_64 ts_64 rfl rfl rfl)) Yw)))) ?_
       refine Ya rfl rfl rfl (Vw (p := .agg [.vs 2 (Wa T_Place.enc x79.2.Mine.Places), .vs 10 (Wa T_Road.enc x79.2.Mine.Roads), .vs 4 (Wa T_Fan.enc x79.2.Fans), .vs 3 (Wa T_Door.enc x79.2.Doors)]) (e' := .agg [.vs 2 (Wa T_Place.enc x79.2.Mine.Places), .vs 10 (Wa T_Road.enc x79.2.Mine.Roads), .vs 4 (Wa T_Fan.enc x79.2.Fans), .vs 3 (Wa T_Door.enc x79.2.Doors)]) rfl (Vg (Vl hn) rfl) rfl rfl ts_31 rfl (Yg rfl) rfl (We rfl) rfl (Xn (Vl hn) rfl)) ?_
       refine Ya rfl rfl rfl (Vw (p := .agg [.sl (n + 14) 0 0 (x81.2.Fans).length, .sl (n + 15) 0 0 (x81.2.Doors).length]) (e' := .agg [.sl (n + 14) 0 0 (x81.2.Fans).length, .sl (n + 15) 0 0 (x81.2.Doors).length]) rfl (Vg (Vl hn) rfl) rfl rfl ts_62 rfl (Yg rfl) rfl (We rfl) rfl (Xn (Vl hn) rfl)) ?_
       refine Ya rfl rfl rfl (Vw (p := .agg [.vs 1 (Wa (Wb .i64) o61.2.1.Pressures), .vs 1 (Wa (Wb .i64) o61.2.1.Flows)]) (e' := .agg [.vs 1 (Wa (Wb .i64) o61.2.1.Pressures), .vs 1 (Wa (Wb .i64) o61.2.1.Flows)]) rfl (Vg (Vl hn) rfl) rfl rfl ts_64 rfl (Yg rfl) rfl (We rfl) rfl (Xn (Vl hn) rfl)) ?_
       refine Yx ?_
       refine Yb ?_
       obtain rfl := Wd hF
       refine fnR ?_
       refine Weak.trans (Yv (E' := [(2, .ptr (n + 0) 0 0 0), (3, .ptr (n + 1) 0 0 0), (4, .ptr (n + 2) 0 0 0)]) (loc1 := [⟨31, 4, [.agg [.vs 2 (Wa T_Place.enc x79.2.Mine.Places), .vs 10 (Wa T_Road.enc x79.2.Mine.Roads), .vs 4 (Wa T_Fan.enc x79.2.Fans), .vs 3 (Wa T_Door.enc x79.2.Doors)]], 0⟩, ⟨62, 2, [.agg [.vs 1 (Wa (Wb .i64) x81.2.Fans), .sl (n + 15) 0 0 (x81.2.Doors).length]], 0⟩, ⟨64, 2, [.agg [.vs 1 (Wa (Wb .i64) o61.2.1.Pressures), .vs 1 (Wa (Wb .i64) o61.2.1.Flows)]], 0⟩, ⟨31, 4, [.agg [.vs 2 (Wa T_Place.enc x79.2.Mine.Places), .vs 10 (Wa T_Road.enc x79.2.Mine.Roads), .vs 4 (Wa T_Fan.enc x79.2.Fans), .vs 3 (Wa T_Door.enc x79.2.Doors)]], 0⟩, ⟨64, 2, [.agg [.vs 1 (Wa (Wb .i64) o61.2.1.Pressures), .vs 1 (Wa (Wb .i64) o61.2.1.Flows)]], 0⟩, ⟨48, 2, [], 0 + 1⟩, ⟨46, 10, [], 0 + 1⟩, ⟨3, 1, [], 0 + 1⟩, ⟨3, 1, [], 0 + 1⟩, ⟨72, 4, [], (0 + 1) + 1⟩, ⟨99, 3, [], (0 + 1) + 1⟩, ⟨3, 1, [], 0 + 1⟩, ⟨3, 1, [], 0 + 1⟩, ⟨62, 2, [.agg [.vs 1 (Wa (Wb .i64) x77.2.2.Fans), .vs 1 (Wa (Wb .i64) x77.2.2.Doors)]], 0⟩, ⟨3, 1, [], 0 + 1⟩, ⟨3, 1, Wa (Wb .i64) x81.2.Doors, 0⟩]) (Vl hn) 14 rfl (Ym (fun _ => .int _ _)) ⟨Vu rfl, Vu rfl, Vu rfl, trivial⟩ ⟨.refl _, cvo_agg ⟨cv_sl rfl rfl rfl (Zj rfl), Vu rfl, trivial⟩, .refl _, .refl _, .refl _, .refl _, .refl _, .refl _, .refl _, .refl _, .refl _, .refl _, .refl _, .refl _, .refl _, .refl _, trivial⟩) ?_
       refine Weak.trans (Yv (E' := [(2, .ptr (n + 0) 0 0 0), (3, .ptr (n + 1) 0 0 0), (4, .ptr (n + 2) 0 0 0)]) (loc1 := [⟨31, 4, [.agg [.vs 2 (Wa T_Place.enc x79.2.Mine.Places), .vs 10 (Wa T_Road.enc x79.2.Mine.Roads), .vs 4 (Wa T_Fan.enc x79.2.Fans), .vs 3 (Wa T_Door.enc x79.2.Doors)]], 0⟩, ⟨62, 2, [.agg [.vs 1 (Wa (Wb .i64) x81.2.Fans), .vs 1 (Wa (Wb .i64) x81.2.Doors)]], 0⟩, ⟨64, 2, [.agg [.vs 1 (Wa (Wb .i64) o61.2.1.Pressures), .vs 1 (Wa (Wb .i64) o61.2.1.Flows)]], 0⟩, ⟨31, 4, [.agg [.vs 2 (Wa T_Place.enc x79.2.Mine.Places), .vs 10 (Wa T_Road.enc x79.2.Mine.Roads), .vs 4 (Wa T_Fan.enc x79.2.Fans), .vs 3 (Wa T_Door.enc x79.2.Doors)]], 0⟩, ⟨64, 2, [.agg [.vs 1 (Wa (Wb .i64) o61.2.1.Pressures), .vs 1 (Wa (Wb .i64) o61.2.1.Flows)]], 0⟩, ⟨48, 2, [], 0 + 1⟩, ⟨46, 10, [], 0 + 1⟩, ⟨3, 1, [], 0 + 1⟩, ⟨3, 1, [], 0 + 1⟩, ⟨72, 4, [], (0 + 1) + 1⟩, ⟨99, 3, [], (0 + 1) + 1⟩, ⟨3, 1, [], 0 + 1⟩, ⟨3, 1, [], 0 + 1⟩, ⟨62, 2, [.agg [.vs 1 (Wa (Wb .i64) x77.2.2.Fans), .vs 1 (Wa (Wb .i64) x77.2.2.Doors)]], 0⟩, ⟨3, 1, [], 0 + 1⟩, ⟨3, 1, [], 0 + 1⟩]) (Vl hn) 15 rfl (Ym (fun _ => .int _ _)) ⟨Vu rfl, Vu rfl, Vu rfl, trivial⟩ ⟨.refl _, cvo_agg ⟨Vu rfl, cv_sl rfl rfl rfl (Zj rfl), trivial⟩, .refl _, .refl _, .refl _, .refl _, .refl _, .refl _, .refl _, .refl _, .refl _, .refl _, .refl _, .refl _, .refl _, .refl _, trivial⟩) ?_
       exact Vm (Vl hn) [(0, 0), (1, 0), (2, 0)] (by decide) ⟨Vt 0 0 rfl rfl, Vt 1 1 rfl rfl, Vt 2 2 rfl rfl, trivial⟩ ⟨⟨_, rfl, rfl, .same _ _ _ _ (Vn ⟨Vo ⟨.vs _ _, .vs _ _, .vs _ _, .vs _ _, trivial⟩, trivial⟩)⟩, ⟨_, rfl, rfl, .same _ _ _ _ (Vn ⟨Vo ⟨.vs _ _, .vs _ _, trivial⟩, trivial⟩)⟩, ⟨_, rfl, rfl, .same _ _ _ _ (Vn ⟨Vo ⟨.vs _ _, .vs _ _, trivial⟩, trivial⟩)⟩, trivial⟩
 ·rintro _ _ _ _ ⟨he, hw⟩
  refine ⟨_, _, _, hw, ?_⟩
  exact bodyQ_some (Vl hn) 0 rfl (We rfl) he [.agg [.vs 2 (Wa T_Place.enc r.2.1.Mine.Places), .vs 10 (Wa T_Road.enc r.2.1.Mine.Roads), .vs 4 (Wa T_Fan.enc r.2.1.Fans), .vs 3 (Wa T_Door.enc r.2.1.Doors)], .agg [.vs 1 (Wa (Wb .i64) r.2.2.1.Fans), .vs 1 (Wa (Wb .i64) r.2.2.1.Doors)], .agg [.vs 1 (Wa (Wb .i64) r.2.2.2.Pressures), .vs 1 (Wa (Wb .i64) r.2.2.2.Flows)]] ⟨Xa rfl (Vg (Vl hn) rfl) rfl ta_31 ts_31 rfl rfl rfl, Xa rfl (Vg (Vl hn) rfl) rfl ta_62 ts_62 rfl rfl rfl, Xa rfl (Vg (Vl hn) rfl) rfl ta_64 ts_64 rfl rfl rfl, trivial⟩ ((lt_tup ⟨(Vo ⟨.vs _ _, .vs _ _, .vs _ _, .vs _ _, trivial⟩), (Vo ⟨.vs _ _, .vs _ _, trivial⟩), (Vo ⟨.vs _ _, .vs _ _, trivial⟩), trivial⟩)) trivial ⟨rfl, rfl⟩

theorem F_draw_Codes_Made_ok {p0 : T_draw_Codes} {r : T_draw_Codes × T_Air × T_Setting × T_State} (hF : F_draw_Codes_Made p0 = some r) {low : List AObj} {q0 w0 : Nat} (hnd : [q0].Nodup) (hq0 : low[q0]? = some ⟨88, 2, [.agg [.vs 1 (Wa (Wb .u8) p0.l), .int .i64 p0.at_]], w0⟩) {n : Nat} (hn : low.length = n) :
    Zh Try.prog 24 [.ptr q0 w0 0 0] low fun x low' => x = .tup [.agg [.vs 2 (Wa T_Place.enc r.2.1.Mine.Places), .vs 10 (Wa T_Road.enc r.2.1.Mine.Roads), .vs 4 (Wa T_Fan.enc r.2.1.Fans), .vs 3 (Wa T_Door.enc r.2.1.Doors)], .agg [.vs 1 (Wa (Wb .i64) r.2.2.1.Fans), .vs 1 (Wa (Wb .i64) r.2.2.1.Doors)], .agg [.vs 1 (Wa (Wb .i64) r.2.2.2.Pressures), .vs 1 (Wa (Wb .i64) r.2.2.2.Flows)]] ∧ low' = setL low [(q0, ⟨88, 2, [.agg [.vs 1 (Wa (Wb .u8) r.1.l), .int .i64 r.1.at_]], w0⟩)] ++ [] := by
  obtain ⟨h1, h2⟩ := bor_start (ps := [(q0, ⟨88, 2, [.agg [.vs 1 (Wa (Wb .u8) p0.l), .int .i64 p0.at_]], w0⟩)]) hnd (borC hq0 bor0)
  exact Zz h1 (F_draw_Codes_Made_ok0 hF h2 hn)

end Go.Proofs.Ytaedmgkcmbhicaa
