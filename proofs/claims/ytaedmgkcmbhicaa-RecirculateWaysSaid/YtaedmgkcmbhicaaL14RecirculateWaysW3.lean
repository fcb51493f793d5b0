/- Printed by wip/lift/lift.py: the walks that show that the program computes them. -/
import Derived.Test.YtaedmgkcmbhicaaL14RecirculateWaysW2
namespace Go.Proofs.Ytaedmgkcmbhicaa
open Go Go.Aml Go.L
attribute [local irreducible] VRd VEf VOp VOps VWp DOps
set_option linter.unusedVariables false
open Go.Aml renaming vops_rd → Va, rd_fieldAddr → Vb, vops_skip → Vc, vwp_region → Vd, vops_nil → Ve, vwp_seq → Vf, getO_N → Vg, rd_load1 → Vh, vops_efE → Vi, rn_low → Vj, rd_mvI → Vk, weak_sub → Vl, weak_pick → Vm, rd_mvB → Vn, vwp_monoW → Vo, lt_agg → Vp, ltObj_es → Vq, lenS → Vr, ltObj_map → Vs, cv_same → Vt, rn_ptr → Vu, all1 → Vv, rd_pickT → Vw, rd_pickF → Vx, rd_loadN → Vy, onlyE → Vz, vwp_block → Xa, vef_store → Xb, dops_rdW → Xc, vwp_cond → Xd, vwp_skip → Xe, nn_same → Xf, vef_callP → Xg, vcalls_of_body → Xh, rd_asI → Xi, rd_mvP → Xj, vef_callS → Xk, vt1 → Xl, rd_to → Xm, setO_N → Xn, len_setL → Xo, vef_allocN → Xp, sets_nil → Xq, Weak → Xr, rd_loadV1 → Xs, vwp_ret → Xt, dr1 → Xu, len_app → Xv, VRd → Xw, rn_sl → Xx, rd_lenV → Xy, rd_ixV → Xz, bnd → Ya, dops_ef → Yb, rd_mvV → Yc, vwp_weak → Yd, getI_some → Ye, rd_build → Yf, rd_fieldVaddr → Yg, rd_lss → Yh, bifT → Yi, bifF → Yj, vwp_loopC → Yk, nt_all2 → Yl, lt_map → Ym, nt_ne → Yn, dops_skip → Yo, Lift → Yp, dops_nil → Yq, vwp_exit → Yr, weak_freezeN → Ys, vef_litF → Yt, bodyQ_pure → Yu, ltObjN → Yv, rd_nilPtr → Yw, rd_mvL → Yx, all0 → Yy, sets_B → Yz, rd_add → Za, full_take → Zb, rd_asB → Zc, VCalls → Zd, getO_B → Ze, get_B → Zf, nt_all → Zg, lp_bindE → Zh, rd_loadVN → Zi, vwp_drawn → Zj, rd_ldL1 → Zk, rd_ixS → Zl, vwp_drawn0 → Zm, rd_eql → Zn, vef_boxN → Zo, rd_gtr → Zp, neT → Zq, rd_extract → Zr, rd_sub → Zs, dopx_rd → Zt, vef_apL → Zu, rx1 → Zv, neF → Zw, src_vs → Zx, rd_asL → Zy, nt_of → Zz
open List renaming map → Wa
open Go.Aml.PV renaming int → Wb
open Go.Aml.PV renaming bool → Wc
open Option.some renaming inj → Wd
open Nat renaming le_of_ble_eq_true → We
open Nat renaming succ_pos → Wf
open Bool renaming eq_false_or_eq_true → Wg
open List renaming length_map → Wh
set_option maxHeartbeats 4000000

theorem F_draw_Codes_Mine_ok0 {p0 : T_draw_Codes} {r : T_draw_Codes × T_Mine} (hF : F_draw_Codes_Mine p0 = some r) {low0 : List AObj} {q0 w0 : Nat} (hB : Bor low0 [q0]) {n : Nat} (hn : low0.length = n) :
    Zd Try.prog 26 [.ptr q0 w0 0 0] (setL low0 [(q0, ⟨88, 2, [.agg [.vs 1 (Wa (Wb .u8) p0.l), .int .i64 p0.at_]], w0⟩)]) fun x low' => x = .agg [.sl (n + 0) 0 0 (r.2.Places).length, .sl (n + 1) 0 0 (r.2.Roads).length] ∧ low' = setL low0 [(q0, ⟨88, 2, [.agg [.vs 1 (Wa (Wb .u8) r.1.l), .int .i64 r.1.at_]], w0⟩)] ++ [⟨48, 2, Wa T_Place.enc r.2.Places, 0⟩, ⟨46, 10, Wa T_Road.enc r.2.Roads, 0⟩] := by
 refine Xh (nt := 63) (rs := [.cell 2 27]) Try.func26 rfl rfl (We rfl) rfl ?_
 have hq0 : q0 < n := hB.ltN hn 0 rfl
 refine Vo (Q' := FnE (fun E' lw lc => Xr E' lw lc [(2, .ptr (n + 2) 0 0 0)] (setL low0 [(q0, ⟨88, 2, [.agg [.vs 1 (Wa (Wb .u8) r.1.l), .int .i64 r.1.at_]], w0⟩)]) [⟨48, 2, Wa T_Place.enc r.2.Places, 0⟩, ⟨46, 10, Wa T_Road.enc r.2.Roads, 0⟩, ⟨27, 2, [.agg [.sl (n + 0) 0 0 (r.2.Places).length, .sl (n + 1) 0 0 (r.2.Roads).length]], 0⟩])) ?_ ?_
 ·unfold F_draw_Codes_Mine at hF
  refine Vf ?_
  refine Vd ?_
  refine Vi (Xp (Vr hn) rfl tz_27 rfl rfl (Wf _) rfl) rfl ?_
  refine Ve ?_
  refine Vf ?_
  refine Vd ?_
  refine Va (Yf (vs := [(1, .bool true)]) (ds := [.int .i64 0, .bool true]) tz_48 rfl rfl tp_48 ⟨rfl, rfl, trivial⟩ (Yl rfl) rfl) rfl ?_
  refine Vi (vef_litN (Vr hn) rfl (es := Wa T_Place.enc [(T_Place.mk 0 true)]) ⟨rfl, rfl, trivial⟩ rfl rfl (Zg rfl) te_24 ts_48 tz_48 rfl rfl (Wf _) (by decide)) rfl ?_
  refine Va (Yf (vs := [(0, .sl (n + 1) 0 0 ([(T_Place.mk 0 true)]).length)]) (ds := [.sl (n + 1) 0 0 ([(T_Place.mk 0 true)]).length, .nils]) tz_27 rfl rfl tp_27 ⟨rfl, rfl, trivial⟩ (Yl rfl) rfl) rfl ?_
  refine Vi (Xp (Vr hn) rfl tz_27 rfl rfl (Wf _) rfl) rfl ?_
  refine Vi (Xb (p := .agg [.sl (n + 1) 0 0 ([(T_Place.mk 0 true)]).length, .nils]) (e' := .agg [.sl (n + 1) 0 0 ([(T_Place.mk 0 true)]).length, .nils]) rfl (Vg (Vr hn) rfl) rfl rfl ts_27 rfl (Yn rfl) rfl (We rfl) rfl (Xn (Vr hn) rfl)) rfl ?_
  refine Ve ?_
  refine Vf ?_
  refine Vf ?_
  refine Vd ?_
  obtain ⟨x1, h2, hF⟩ := Ya hF
  refine Va (Xj rfl) rfl ?_
  refine Vi (Xk (ps := [(q0, ⟨88, 2, [.agg [.vs 1 (Wa (Wb .u8) x1.1.l), .int .i64 x1.1.at_]], w0⟩)]) (r := .int .i64 x1.2) (os := []) (low1 := (setL low0 [(q0, ⟨88, 2, [.agg [.vs 1 (Wa (Wb .u8) x1.1.l), .int .i64 x1.1.at_]], w0⟩)])) (loc1 := [⟨27, 2, [.agg [.nils, .nils]], 0⟩, ⟨48, 2, Wa T_Place.enc [(T_Place.mk 0 true)], 0⟩, ⟨27, 2, [.agg [.sl (n + 1) 0 0 ([(T_Place.mk 0 true)]).length, .nils]], 0⟩]) (loc2 := [⟨27, 2, [.agg [.nils, .nils]], 0⟩, ⟨48, 2, Wa T_Place.enc [(T_Place.mk 0 true)], 0⟩, ⟨27, 2, [.agg [.sl (n + 1) 0 0 ([(T_Place.mk 0 true)]).length, .nils]], 0⟩]) rfl Try.call27 (F_draw_Codes_Next_ok h2 (nd1 na0 nd0) (Zf hB rfl 0 rfl) (Xv (Vr hn) rfl)) (Yz (ps0' := [(q0, ⟨88, 2, [.agg [.vs 1 (Wa (Wb .u8) x1.1.l), .int .i64 x1.1.at_]], w0⟩)]) hB rfl 0 rfl (Yv hn ⟨Vp ⟨.vs _ _, .int _ _, trivial⟩, trivial⟩) rfl Xq) rfl) rfl ?_
  refine Va (Za rfl rfl rfl) rfl ?_
  refine Va (Xi rfl) rfl ?_
  refine Ve ?_
  refine Xa ?_
  obtain ⟨o4, ho4, hF⟩ := Ya hF
  refine Vo (Yk F_draw_Codes_Mine_L1 (fun s3 E' lw lc => Xr E' lw lc [(0, .ptr q0 w0 0 0), (2, .ptr (n + 0) 0 0 0), (3, .ptr (n + 1) 0 0 0), (4, .int .i64 s3.1)] (setL low0 [(q0, ⟨88, 2, [.agg [.vs 1 (Wa (Wb .u8) s3.2.2.l), .int .i64 s3.2.2.at_]], w0⟩)]) [⟨27, 2, [.agg [.nils, .nils]], 0⟩, ⟨27, 2, [.agg [.sl (n + 2) 0 0 (s3.2.1).length, .nils]], 0⟩, ⟨48, 2, Wa T_Place.enc s3.2.1, 0⟩]) (fun o4 => OnlyE (.exit 0) (fun E' lw lc => Xr E' lw lc [(0, .ptr q0 w0 0 0), (2, .ptr (n + 0) 0 0 0), (3, .ptr (n + 1) 0 0 0)] (setL low0 [(q0, ⟨88, 2, [.agg [.vs 1 (Wa (Wb .u8) o4.2.l), .int .i64 o4.2.at_]], w0⟩)]) [⟨27, 2, [.agg [.nils, .nils]], 0⟩, ⟨27, 2, [.agg [.sl (n + 2) 0 0 (o4.1).length, .nils]], 0⟩, ⟨48, 2, Wa T_Place.enc o4.1, 0⟩])) ho4 ?_ (by rintro _ _ _ _ ⟨h, _⟩ <;> cases h) ?_) ?_
  ·exact Vm (Vr hn) [(0, 0), (2, 0), (1, 0)] (by decide) ⟨Vj rfl (.ptr _ _ _ _ hq0), Vu 0 0 rfl rfl, Vu 1 2 rfl rfl, Vj rfl (.int _ _), trivial⟩ ⟨⟨_, rfl, rfl, .same _ _ _ _ (Vq ⟨Vp ⟨.nils, .nils, trivial⟩, trivial⟩)⟩, ⟨_, rfl, rfl, .agg _ _ _ _ _ ⟨Xx 2 1 rfl rfl, Vj rfl (.nils), trivial⟩⟩, ⟨_, rfl, rfl, .same _ _ _ _ (Vs T_Place.enc_lt)⟩, trivial⟩
  ·rintro s3 os3 _ _ _ hF hw
   unfold F_draw_Codes_Mine_L1 at hF
   refine Yd hw ?_
   refine Vf ?_
   refine Vf ?_
   refine Vd ?_
   refine Va (Vk rfl) rfl ?_
   refine Va (Zp rfl rfl) rfl ?_
   refine Ve ?_
   refine Xd rfl (fun c5 => ?_) (fun c5 => ?_)
   ·have hF := Yi c5 hF
    refine Xe ?_
    refine Vf ?_
    refine Xa ?_
    obtain ⟨x6, h7, hF⟩ := Ya hF
    obtain ⟨x8, h9, hF⟩ := Ya hF
    obtain ⟨x10, h11, hF⟩ := Ya hF
    refine Zj [[], [0], [], [2], [], [2, 3, 4], [2, 3, 4, 5], [2, 3, 4, 5, 6], [0, 1, 2, 3, 4, 5, 6, 7], [0, 1, 2, 3, 4, 5, 6, 7, 8], [0, 1, 2, 3, 4, 5, 6, 7, 8, 9]] [false, false, false, true, false, true, false, false, true, false, true] [((setL low0 [(q0, ⟨88, 2, [.agg [.vs 1 (Wa (Wb .u8) s3.2.2.l), .int .i64 s3.2.2.at_]], w0⟩)]), [⟨27, 2, [.agg [.nils, .nils]], 0⟩, ⟨27, 2, [.agg [.sl (n + 2) 0 0 (s3.2.1).length, .nils]], 0⟩, ⟨48, 2, Wa T_Place.enc s3.2.1, 0⟩]), ((setL low0 [(q0, ⟨88, 2, [.agg [.vs 1 (Wa (Wb .u8) x6.1.l), .int .i64 x6.1.at_]], w0⟩)]), [⟨27, 2, [.agg [.nils, .nils]], 0⟩, ⟨27, 2, [.agg [.sl (n + 2) 0 0 (s3.2.1).length, .nils]], 0⟩, ⟨48, 2, Wa T_Place.enc s3.2.1, 0⟩]), ((setL low0 [(q0, ⟨88, 2, [.agg [.vs 1 (Wa (Wb .u8) x8.1.l), .int .i64 x8.1.at_]], w0⟩)]), [⟨27, 2, [.agg [.nils, .nils]], 0⟩, ⟨27, 2, [.agg [.sl (n + 2) 0 0 (s3.2.1).length, .nils]], 0⟩, ⟨48, 2, Wa T_Place.enc s3.2.1, 0⟩]), ((setL low0 [(q0, ⟨88, 2, [.agg [.vs 1 (Wa (Wb .u8) x8.1.l), .int .i64 x8.1.at_]], w0⟩)]), [⟨27, 2, [.agg [.nils, .nils]], 0⟩, ⟨27, 2, [.agg [.sl (n + 2) 0 0 (s3.2.1).length, .nils]], 0⟩, ⟨48, 2, Wa T_Place.enc x10, 0 + 1⟩]), ((setL low0 [(q0, ⟨88, 2, [.agg [.vs 1 (Wa (Wb .u8) x8.1.l), .int .i64 x8.1.at_]], w0⟩)]), [⟨27, 2, [.agg [.nils, .nils]], 0⟩, ⟨27, 2, [.agg [.sl (n + 2) (0 + 1) 0 (x10).length, .nils]], 0⟩, ⟨48, 2, Wa T_Place.enc x10, 0 + 1⟩])] mixed (by kernel_rfl) rfl (lenAll (Vv Xo (Vv Xo (Vv Xo (Vv Xo (Vv Xo Yy)))))) rfl _ rfl rfl ?_
    refine Xc _ rfl rfl (Vv (VRd.ntl (Vb rfl tf_27_0 ts_24 (by decide))) (Vv (VRd.ntl (Vb rfl tf_27_0 ts_24 (by decide))) (Vv (VRd.ntl (Vb rfl tf_27_0 ts_24 (by decide))) Yy))) ?_
    refine Xc _ rfl rfl (Vv (VRd.ntl (Vh rfl (Vg (Vr hn) rfl) rfl ta_24 rfl)) (Vv (VRd.ntl (Vh rfl (Vg (Vr hn) rfl) rfl ta_24 rfl)) (Vv (VRd.ntl (Vh rfl (Vg (Vr hn) rfl) rfl ta_24 rfl)) Yy))) ?_
    refine Xu rfl rfl (Xj rfl) ?_
    refine Yb rfl rfl rfl (Xk (ps := [(q0, ⟨88, 2, [.agg [.vs 1 (Wa (Wb .u8) x6.1.l), .int .i64 x6.1.at_]], w0⟩)]) (r := .int .i64 x6.2) (os := []) (low1 := (setL low0 [(q0, ⟨88, 2, [.agg [.vs 1 (Wa (Wb .u8) x6.1.l), .int .i64 x6.1.at_]], w0⟩)])) (loc1 := [⟨27, 2, [.agg [.nils, .nils]], 0⟩, ⟨27, 2, [.agg [.sl (n + 2) 0 0 (s3.2.1).length, .nils]], 0⟩, ⟨48, 2, Wa T_Place.enc s3.2.1, 0⟩]) (loc2 := [⟨27, 2, [.agg [.nils, .nils]], 0⟩, ⟨27, 2, [.agg [.sl (n + 2) 0 0 (s3.2.1).length, .nils]], 0⟩, ⟨48, 2, Wa T_Place.enc s3.2.1, 0⟩]) rfl Try.call28 (F_draw_Codes_Range_ok h7 (nd1 na0 nd0) (Zf hB rfl 0 rfl) (Xv (Vr hn) rfl)) (Yz (ps0' := [(q0, ⟨88, 2, [.agg [.vs 1 (Wa (Wb .u8) x6.1.l), .int .i64 x6.1.at_]], w0⟩)]) hB rfl 0 rfl (Yv hn ⟨Vp ⟨.vs _ _, .int _ _, trivial⟩, trivial⟩) rfl Xq) rfl) ?_
    refine Xc _ rfl rfl (Vv (VRd.ntl (Xj rfl)) (Vv (VRd.ntl (Xj rfl)) Yy)) ?_
    refine Yb rfl rfl rfl (Xk (ps := [(q0, ⟨88, 2, [.agg [.vs 1 (Wa (Wb .u8) x8.1.l), .int .i64 x8.1.at_]], w0⟩)]) (r := .bool x8.2) (os := []) (low1 := (setL low0 [(q0, ⟨88, 2, [.agg [.vs 1 (Wa (Wb .u8) x8.1.l), .int .i64 x8.1.at_]], w0⟩)])) (loc1 := [⟨27, 2, [.agg [.nils, .nils]], 0⟩, ⟨27, 2, [.agg [.sl (n + 2) 0 0 (s3.2.1).length, .nils]], 0⟩, ⟨48, 2, Wa T_Place.enc s3.2.1, 0⟩]) (loc2 := [⟨27, 2, [.agg [.nils, .nils]], 0⟩, ⟨27, 2, [.agg [.sl (n + 2) 0 0 (s3.2.1).length, .nils]], 0⟩, ⟨48, 2, Wa T_Place.enc s3.2.1, 0⟩]) rfl Try.call25 (F_draw_Codes_One_ok h9 (nd1 na0 nd0) (Zf hB rfl 0 rfl) (Xv (Vr hn) rfl)) (Yz (ps0' := [(q0, ⟨88, 2, [.agg [.vs 1 (Wa (Wb .u8) x8.1.l), .int .i64 x8.1.at_]], w0⟩)]) hB rfl 0 rfl (Yv hn ⟨Vp ⟨.vs _ _, .int _ _, trivial⟩, trivial⟩) rfl Xq) rfl) ?_
    refine Xu rfl rfl (Yf (vs := [(0, .int .i64 x6.2), (1, .bool x8.2)]) (ds := [.int .i64 x6.2, .bool x8.2]) tz_48 rfl rfl tp_48 ⟨rfl, rfl, rfl, rfl, trivial⟩ (Yl rfl) rfl) ?_
    refine dn1 rfl rfl (Zz (Yt (es := Wa T_Place.enc [(T_Place.mk x6.2 x8.2)]) ⟨rfl, rfl, trivial⟩ rfl rfl (Zg rfl) te_24 ts_48 tz_48 rfl rfl (Wf _) (by decide) (Ym T_Place.enc_lt))) ?_
    refine Yb rfl rfl rfl (Zu (f := T_Place.enc) (l := s3.2.1) (ys := [(T_Place.mk x6.2 x8.2)]) rfl rfl (Vg (Vr hn) rfl) rfl (Zx rfl) te_24 ts_48 tb_48 (by decide) tz_48 rfl h11 (Xn (Vr hn) rfl)) ?_
    refine Xu rfl rfl (Vb rfl tf_27_0 ts_24 (by decide)) ?_
    refine Yb rfl rfl rfl (Xb (p := .sl (n + 2) (0 + 1) 0 (x10).length) (e' := .agg [.sl (n + 2) (0 + 1) 0 (x10).length, .nils]) rfl (Vg (Vr hn) rfl) rfl rfl ts_24 rfl (Yn rfl) rfl (We rfl) rfl (Xn (Vr hn) rfl)) ?_
    refine Yq ?_
    refine Vd ?_
    refine Va (Vk rfl) rfl ?_
    refine Va (Zs rfl rfl rfl) rfl ?_
    refine Va (Xi rfl) rfl ?_
    refine Ve ?_
    obtain rfl := Wd hF
    refine Vz ?_
    exact Vm (Vr hn) [(0, 0), (1, 0), (2, 0 + 1)] (by decide) ⟨Vj rfl (.ptr _ _ _ _ hq0), Vu 0 0 rfl rfl, Vu 1 1 rfl rfl, Vj rfl (.int _ _), trivial⟩ ⟨⟨_, rfl, rfl, .same _ _ _ _ (Vq ⟨Vp ⟨.nils, .nils, trivial⟩, trivial⟩)⟩, ⟨_, rfl, rfl, .agg _ _ _ _ _ ⟨Xx 2 2 rfl rfl, Vj rfl (.nils), trivial⟩⟩, ⟨_, rfl, rfl, .same _ _ _ _ (Vs T_Place.enc_lt)⟩, trivial⟩
   ·have hF := Yj c5 hF
    refine Yr ?_
    obtain rfl := Wd hF
    refine Vz ?_
    exact Vl ⟨rfl, rfl, rfl, trivial⟩
  ·rintro _ _ _ _ ⟨rfl, hw⟩
   refine ⟨_, _, _, hw, ?_⟩
   refine Vf ?_
   refine Vd ?_
   refine Va (Vb rfl tf_27_0 ts_24 (by decide)) rfl ?_
   refine Va (Vh rfl (Vg (Vr hn) rfl) rfl ta_24 rfl) rfl ?_
   refine Va (rd_lenS rfl (Vg (Vr hn) rfl) rfl rfl te_24) rfl ?_
   refine Va (Xi rfl) rfl ?_
   refine Ve ?_
   refine Vf ?_
   refine Vf ?_
   refine Vd ?_
   obtain ⟨x12, h13, hF⟩ := Ya hF
   refine Va (Xj rfl) rfl ?_
   refine Vi (Xk (ps := [(q0, ⟨88, 2, [.agg [.vs 1 (Wa (Wb .u8) x12.1.l), .int .i64 x12.1.at_]], w0⟩)]) (r := .int .i64 x12.2) (os := []) (low1 := (setL low0 [(q0, ⟨88, 2, [.agg [.vs 1 (Wa (Wb .u8) x12.1.l), .int .i64 x12.1.at_]], w0⟩)])) (loc1 := [⟨27, 2, [.agg [.nils, .nils]], 0⟩, ⟨27, 2, [.agg [.sl (n + 2) 0 0 (o4.1).length, .nils]], 0⟩, ⟨48, 2, Wa T_Place.enc o4.1, 0⟩]) (loc2 := [⟨27, 2, [.agg [.nils, .nils]], 0⟩, ⟨27, 2, [.agg [.sl (n + 2) 0 0 (o4.1).length, .nils]], 0⟩, ⟨48, 2, Wa T_Place.enc o4.1, 0⟩]) rfl Try.call27 (F_draw_Codes_Next_ok h13 (nd1 na0 nd0) (Zf hB rfl 0 rfl) (Xv (Vr hn) rfl)) (Yz (ps0' := [(q0, ⟨88, 2, [.agg [.vs 1 (Wa (Wb .u8) x12.1.l), .int .i64 x12.1.at_]], w0⟩)]) hB rfl 0 rfl (Yv hn ⟨Vp ⟨.vs _ _, .int _ _, trivial⟩, trivial⟩) rfl Xq) rfl) rfl ?_
   refine Va (Xi rfl) rfl ?_
   refine Ve ?_
   refine Xa ?_
   obtain ⟨o15, ho15, hF⟩ := Ya hF
   refine Vo (Yk (F_draw_Codes_Mine_L2 o4) (fun s14 E' lw lc => Xr E' lw lc [(0, .ptr q0 w0 0 0), (2, .ptr (n + 0) 0 0 0), (3, .ptr (n + 1) 0 0 0), (5, .int .i64 ((o4.1).length : Int)), (6, .int .i64 s14.1)] (setL low0 [(q0, ⟨88, 2, [.agg [.vs 1 (Wa (Wb .u8) s14.2.2.l), .int .i64 s14.2.2.at_]], w0⟩)]) [⟨27, 2, [.agg [.nils, .nils]], 0⟩, ⟨27, 2, [.agg [.sl (n + 2) 0 0 (s14.2.1.Places).length, .sl (n + 3) 0 0 (s14.2.1.Roads).length]], 0⟩, ⟨48, 2, Wa T_Place.enc s14.2.1.Places, 0⟩, ⟨46, 10, Wa T_Road.enc s14.2.1.Roads, 0⟩]) (fun o15 => OnlyE (.exit 2) (fun E' lw lc => Xr E' lw lc [(2, .ptr (n + 0) 0 0 0), (3, .ptr (n + 1) 0 0 0)] (setL low0 [(q0, ⟨88, 2, [.agg [.vs 1 (Wa (Wb .u8) o15.2.l), .int .i64 o15.2.at_]], w0⟩)]) [⟨27, 2, [.agg [.nils, .nils]], 0⟩, ⟨27, 2, [.agg [.sl (n + 2) 0 0 (o15.1.Places).length, .sl (n + 3) 0 0 (o15.1.Roads).length]], 0⟩, ⟨48, 2, Wa T_Place.enc o15.1.Places, 0⟩, ⟨46, 10, Wa T_Road.enc o15.1.Roads, 0⟩])) ho15 ?_ (by rintro _ _ _ _ ⟨h, _⟩ <;> cases h) ?_) ?_
   ·refine Weak.trans (weak_nil (E' := [(0, .ptr q0 w0 0 0), (2, .ptr (n + 0) 0 0 0), (3, .ptr (n + 1) 0 0 0), (5, .int .i64 ((o4.1).length : Int)), (6, .int .i64 x12.2)]) (loc1 := [⟨27, 2, [.agg [.nils, .nils]], 0⟩, ⟨27, 2, [.agg [.sl (n + 2) 0 0 (o4.1).length, .sl (n + 3) 0 0 (([] : List T_Road)).length]], 0⟩, ⟨48, 2, Wa T_Place.enc o4.1, 0⟩]) (Vr hn) rfl 46 10 (Wf _) ⟨Xf rfl, Xf rfl, Xf rfl, Xf rfl, Xf rfl, trivial⟩ ⟨.same _, .agg _ _ _ _ _ ⟨Xf rfl, nn_nil rfl, trivial⟩, .same _, trivial⟩) ?_
    exact Vl ⟨rfl, rfl, rfl, rfl, rfl, trivial⟩
   ·rintro s14 os14 _ _ _ hF hw
    unfold F_draw_Codes_Mine_L2 at hF
    refine Yd hw ?_
    refine Vf ?_
    refine Vf ?_
    refine Vd ?_
    refine Va (Vk rfl) rfl ?_
    refine Va (Zp rfl rfl) rfl ?_
    refine Ve ?_
    refine Xd rfl (fun c16 => ?_) (fun c16 => ?_)
    ·have hF := Yi c16 hF
     refine Xe ?_
     refine Vf ?_
     refine Xa ?_
     refine Vf ?_
     refine Vd ?_
     obtain ⟨x17, h18, hF⟩ := Ya hF
     refine Va (Xj rfl) rfl ?_
     refine Va (Vk rfl) rfl ?_
     refine Vi (Xk (ps := [(q0, ⟨88, 2, [.agg [.vs 1 (Wa (Wb .u8) x17.1.l), .int .i64 x17.1.at_]], w0⟩)]) (r := .int .i64 x17.2) (os := []) (low1 := (setL low0 [(q0, ⟨88, 2, [.agg [.vs 1 (Wa (Wb .u8) x17.1.l), .int .i64 x17.1.at_]], w0⟩)])) (loc1 := [⟨27, 2, [.agg [.nils, .nils]], 0⟩, ⟨27, 2, [.agg [.sl (n + 2) 0 0 (s14.2.1.Places).length, .sl (n + 3) 0 0 (s14.2.1.Roads).length]], 0⟩, ⟨48, 2, Wa T_Place.enc s14.2.1.Places, 0⟩, ⟨46, 10, Wa T_Road.enc s14.2.1.Roads, 0⟩]) (loc2 := [⟨27, 2, [.agg [.nils, .nils]], 0⟩, ⟨27, 2, [.agg [.sl (n + 2) 0 0 (s14.2.1.Places).length, .sl (n + 3) 0 0 (s14.2.1.Roads).length]], 0⟩, ⟨48, 2, Wa T_Place.enc s14.2.1.Places, 0⟩, ⟨46, 10, Wa T_Road.enc s14.2.1.Roads, 0⟩]) rfl Try.call27 (F_draw_Codes_Next_ok h18 (nd1 na0 nd0) (Zf hB rfl 0 rfl) (Xv (Vr hn) rfl)) (Yz (ps0' := [(q0, ⟨88, 2, [.agg [.vs 1 (Wa (Wb .u8) x17.1.l), .int .i64 x17.1.at_]], w0⟩)]) hB rfl 0 rfl (Yv hn ⟨Vp ⟨.vs _ _, .int _ _, trivial⟩, trivial⟩) rfl Xq) rfl) rfl ?_
     refine Va (Xi rfl) rfl ?_
     refine Ve ?_
     refine Vf ?_
     refine Vd ?_
     obtain ⟨x19, h20, hF⟩ := Ya hF
     obtain ⟨x21, h22, hF⟩ := Ya hF
     obtain ⟨x23, h24, hF⟩ := Ya hF
     refine Va (Xj rfl) rfl ?_
     refine Va (Vk rfl) rfl ?_
     refine Va (Vk rfl) rfl ?_
     refine Va (Za rfl rfl rfl) rfl ?_
     refine Va (Xj rfl) rfl ?_
     refine Va (Vk rfl) rfl ?_
     refine Va (Zs rfl rfl rfl) rfl ?_
     refine Vi (Xk (ps := [(q0, ⟨88, 2, [.agg [.vs 1 (Wa (Wb .u8) x19.1.l), .int .i64 x19.1.at_]], w0⟩)]) (r := .int .i64 x19.2) (os := []) (low1 := (setL low0 [(q0, ⟨88, 2, [.agg [.vs 1 (Wa (Wb .u8) x19.1.l), .int .i64 x19.1.at_]], w0⟩)])) (loc1 := [⟨27, 2, [.agg [.nils, .nils]], 0⟩, ⟨27, 2, [.agg [.sl (n + 2) 0 0 (s14.2.1.Places).length, .sl (n + 3) 0 0 (s14.2.1.Roads).length]], 0⟩, ⟨48, 2, Wa T_Place.enc s14.2.1.Places, 0⟩, ⟨46, 10, Wa T_Road.enc s14.2.1.Roads, 0⟩]) (loc2 := [⟨27, 2, [.agg [.nils, .nils]], 0⟩, ⟨27, 2, [.agg [.sl (n + 2) 0 0 (s14.2.1.Places).length, .sl (n + 3) 0 0 (s14.2.1.Roads).length]], 0⟩, ⟨48, 2, Wa T_Place.enc s14.2.1.Places, 0⟩, ⟨46, 10, Wa T_Road.enc s14.2.1.Roads, 0⟩]) rfl Try.call27 (F_draw_Codes_Next_ok h20 (nd1 na0 nd0) (Zf hB rfl 0 rfl) (Xv (Vr hn) rfl)) (Yz (ps0' := [(q0, ⟨88, 2, [.agg [.vs 1 (Wa (Wb .u8) x19.1.l), .int .i64 x19.1.at_]], w0⟩)]) hB rfl 0 rfl (Yv hn ⟨Vp ⟨.vs _ _, .int _ _, trivial⟩, trivial⟩) rfl Xq) rfl) rfl ?_
     refine Va (Za rfl rfl rfl) rfl ?_
     refine Va (Vk rfl) rfl ?_
     refine Va (rd_rem rfl rfl (remI_some h22).1 (remI_some h22).2) rfl ?_
     refine Vi (Xk (ps := [(q0, ⟨88, 2, [.agg [.vs 1 (Wa (Wb .u8) x23.1.l), .int .i64 x23.1.at_]], w0⟩)]) (r := .agg [.int .i64 x23.2.From, .int .i64 x23.2.To, .int .i64 x23.2.Length, .int .i64 x23.2.Area, .bool x23.2.Walk, .bool x23.2.Closed, .int .i64 x23.2.Rest.Low, .int .i64 x23.2.Rest.High, .int .i64 x23.2.Lift.Low, .int .i64 x23.2.Lift.High]) (os := []) (low1 := (setL low0 [(q0, ⟨88, 2, [.agg [.vs 1 (Wa (Wb .u8) x23.1.l), .int .i64 x23.1.at_]], w0⟩)])) (loc1 := [⟨27, 2, [.agg [.nils, .nils]], 0⟩, ⟨27, 2, [.agg [.sl (n + 2) 0 0 (s14.2.1.Places).length, .sl (n + 3) 0 0 (s14.2.1.Roads).length]], 0⟩, ⟨48, 2, Wa T_Place.enc s14.2.1.Places, 0⟩, ⟨46, 10, Wa T_Road.enc s14.2.1.Roads, 0⟩]) (loc2 := [⟨27, 2, [.agg [.nils, .nils]], 0⟩, ⟨27, 2, [.agg [.sl (n + 2) 0 0 (s14.2.1.Places).length, .sl (n + 3) 0 0 (s14.2.1.Roads).length]], 0⟩, ⟨48, 2, Wa T_Place.enc s14.2.1.Places, 0⟩, ⟨46, 10, Wa T_Road.enc s14.2.1.Roads, 0⟩]) rfl Try.call37 (F_draw_Codes_Road_ok h24 (nd1 na0 nd0) (Zf hB rfl 0 rfl) (Xv (Vr hn) rfl)) (Yz (ps0' := [(q0, ⟨88, 2, [.agg [.vs 1 (Wa (Wb .u8) x23.1.l), .int .i64 x23.1.at_]], w0⟩)]) hB rfl 0 rfl (Yv hn ⟨Vp ⟨.vs _ _, .int _ _, trivial⟩, trivial⟩) rfl Xq) rfl) rfl ?_
     refine Vi (Xp (Vr hn) rfl tz_46 rfl rfl (Wf _) rfl) rfl ?_
     refine Vi (Xb (p := .agg [.int .i64 x23.2.From, .int .i64 x23.2.To, .int .i64 x23.2.Length, .int .i64 x23.2.Area, .bool x23.2.Walk, .bool x23.2.Closed, .int .i64 x23.2.Rest.Low, .int .i64 x23.2.Rest.High, .int .i64 x23.2.Lift.Low, .int .i64 x23.2.Lift.High]) (e' := .agg [.int .i64 x23.2.From, .int .i64 x23.2.To, .int .i64 x23.2.Length, .int .i64 x23.2.Area, .bool x23.2.Walk, .bool x23.2.Closed, .int .i64 x23.2.Rest.Low, .int .i64 x23.2.Rest.High, .int .i64 x23.2.Lift.Low, .int .i64 x23.2.Lift.High]) rfl (Vg (Vr hn) rfl) rfl rfl ts_46 rfl (Yn rfl) rfl (We rfl) rfl (Xn (Vr hn) rfl)) rfl ?_
     refine Ve ?_
     refine Vf ?_
     refine Vd ?_
     obtain ⟨x25, h26, hF⟩ := Ya hF
     refine Va (Xj rfl) rfl ?_
     refine Vi (Xk (ps := [(q0, ⟨88, 2, [.agg [.vs 1 (Wa (Wb .u8) x25.1.l), .int .i64 x25.1.at_]], w0⟩)]) (r := .bool x25.2) (os := []) (low1 := (setL low0 [(q0, ⟨88, 2, [.agg [.vs 1 (Wa (Wb .u8) x25.1.l), .int .i64 x25.1.at_]], w0⟩)])) (loc1 := [⟨27, 2, [.agg [.nils, .nils]], 0⟩, ⟨27, 2, [.agg [.sl (n + 2) 0 0 (s14.2.1.Places).length, .sl (n + 3) 0 0 (s14.2.1.Roads).length]], 0⟩, ⟨48, 2, Wa T_Place.enc s14.2.1.Places, 0⟩, ⟨46, 10, Wa T_Road.enc s14.2.1.Roads, 0⟩, ⟨46, 10, [.agg [.int .i64 x23.2.From, .int .i64 x23.2.To, .int .i64 x23.2.Length, .int .i64 x23.2.Area, .bool x23.2.Walk, .bool x23.2.Closed, .int .i64 x23.2.Rest.Low, .int .i64 x23.2.Rest.High, .int .i64 x23.2.Lift.Low, .int .i64 x23.2.Lift.High]], 0⟩]) (loc2 := [⟨27, 2, [.agg [.nils, .nils]], 0⟩, ⟨27, 2, [.agg [.sl (n + 2) 0 0 (s14.2.1.Places).length, .sl (n + 3) 0 0 (s14.2.1.Roads).length]], 0⟩, ⟨48, 2, Wa T_Place.enc s14.2.1.Places, 0⟩, ⟨46, 10, Wa T_Road.enc s14.2.1.Roads, 0⟩, ⟨46, 10, [.agg [.int .i64 x23.2.From, .int .i64 x23.2.To, .int .i64 x23.2.Length, .int .i64 x23.2.Area, .bool x23.2.Walk, .bool x23.2.Closed, .int .i64 x23.2.Rest.Low, .int .i64 x23.2.Rest.High, .int .i64 x23.2.Lift.Low, .int .i64 x23.2.Lift.High]], 0⟩]) rfl Try.call25 (F_draw_Codes_One_ok h26 (nd1 na0 nd0) (Zf hB rfl 0 rfl) (Xv (Vr hn) rfl)) (Yz (ps0' := [(q0, ⟨88, 2, [.agg [.vs 1 (Wa (Wb .u8) x25.1.l), .int .i64 x25.1.at_]], w0⟩)]) hB rfl 0 rfl (Yv hn ⟨Vp ⟨.vs _ _, .int _ _, trivial⟩, trivial⟩) rfl Xq) rfl) rfl ?_
     refine Va (Vb rfl tf_46_5 ts_4 (by decide)) rfl ?_
     refine Vi (Xb (p := .bool x25.2) (e' := .agg [.int .i64 x23.2.From, .int .i64 x23.2.To, .int .i64 x23.2.Length, .int .i64 x23.2.Area, .bool x23.2.Walk, .bool x25.2, .int .i64 x23.2.Rest.Low, .int .i64 x23.2.Rest.High, .int .i64 x23.2.Lift.Low, .int .i64 x23.2.Lift.High]) rfl (Vg (Vr hn) rfl) rfl rfl ts_4 rfl (Yn rfl) rfl (We rfl) rfl (Xn (Vr hn) rfl)) rfl ?_
     refine Ve ?_
     refine Vd ?_
     obtain ⟨x27, h28, hF⟩ := Ya hF
     refine Va (Vb rfl tf_27_1 ts_25 (by decide)) rfl ?_
     refine Va (Vh rfl (Vg (Vr hn) rfl) rfl ta_25 rfl) rfl ?_
     refine Va (Vy (ds := [.int .i64 x23.2.From, .int .i64 x23.2.To, .int .i64 x23.2.Length, .int .i64 x23.2.Area, .bool x23.2.Walk, .bool x25.2, .int .i64 x23.2.Rest.Low, .int .i64 x23.2.Rest.High, .int .i64 x23.2.Lift.Low, .int .i64 x23.2.Lift.High]) rfl (Vg (Vr hn) rfl) rfl ta_46 ts_46 rfl rfl rfl) rfl ?_
     refine Vi (Yt (es := Wa T_Road.enc [(T_Road.mk x23.2.From x23.2.To x23.2.Length x23.2.Area x23.2.Walk x25.2 x23.2.Rest x23.2.Lift)]) ⟨rfl, rfl, trivial⟩ rfl rfl (Zg rfl) te_25 ts_46 tz_46 rfl rfl (Wf _) (by decide) (Ym T_Road.enc_lt)) rfl ?_
     refine Vi (Zu (f := T_Road.enc) (l := s14.2.1.Roads) (ys := [(T_Road.mk x23.2.From x23.2.To x23.2.Length x23.2.Area x23.2.Walk x25.2 x23.2.Rest x23.2.Lift)]) rfl rfl (Vg (Vr hn) rfl) rfl (Zx rfl) te_25 ts_46 tb_46 (by decide) tz_46 rfl h28 (Xn (Vr hn) rfl)) rfl ?_
     refine Va (Vb rfl tf_27_1 ts_25 (by decide)) rfl ?_
     refine Vi (Xb (p := .sl (n + 3) (0 + 1) 0 (x27).length) (e' := .agg [.sl (n + 2) 0 0 (s14.2.1.Places).length, .sl (n + 3) (0 + 1) 0 (x27).length]) rfl (Vg (Vr hn) rfl) rfl rfl ts_25 rfl (Yn rfl) rfl (We rfl) rfl (Xn (Vr hn) rfl)) rfl ?_
     refine Ve ?_
     refine Vd ?_
     refine Va (Vk rfl) rfl ?_
     refine Va (Zs rfl rfl rfl) rfl ?_
     refine Va (Xi rfl) rfl ?_
     refine Ve ?_
     obtain rfl := Wd hF
     refine Vz ?_
     exact Vm (Vr hn) [(0, 0), (1, 0), (2, 0), (3, 0 + 1)] (by decide) ⟨Vj rfl (.ptr _ _ _ _ hq0), Vu 0 0 rfl rfl, Vu 1 1 rfl rfl, Vj rfl (.int _ _), Vj rfl (.int _ _), trivial⟩ ⟨⟨_, rfl, rfl, .same _ _ _ _ (Vq ⟨Vp ⟨.nils, .nils, trivial⟩, trivial⟩)⟩, ⟨_, rfl, rfl, .agg _ _ _ _ _ ⟨Xx 2 2 rfl rfl, Xx 3 3 rfl rfl, trivial⟩⟩, ⟨_, rfl, rfl, .same _ _ _ _ (Vs T_Place.enc_lt)⟩, ⟨_, rfl, rfl, .same _ _ _ _ (Vs T_Road.enc_lt)⟩, trivial⟩
    ·have hF := Yj c16 hF
     refine Yr ?_
     obtain rfl := Wd hF
     refine Vz ?_
     exact Vl ⟨rfl, rfl, trivial⟩
   ·rintro _ _ _ _ ⟨rfl, hw⟩
    refine ⟨_, _, _, hw, ?_⟩
    refine Vf ?_
    refine Vd ?_
    refine Va (Vy (ds := [.sl (n + 2) 0 0 (o15.1.Places).length, .sl (n + 3) 0 0 (o15.1.Roads).length]) rfl (Vg (Vr hn) rfl) rfl ta_27 ts_27 rfl rfl rfl) rfl ?_
    refine Vi (Xb (p := .agg [.sl (n + 2) 0 0 (o15.1.Places).length, .sl (n + 3) 0 0 (o15.1.Roads).length]) (e' := .agg [.sl (n + 2) 0 0 (o15.1.Places).length, .sl (n + 3) 0 0 (o15.1.Roads).length]) rfl (Vg (Vr hn) rfl) rfl rfl ts_27 rfl (Yn rfl) rfl (We rfl) rfl (Xn (Vr hn) rfl)) rfl ?_
    refine Ve ?_
    refine Xt ?_
    obtain rfl := Wd hF
    refine fnR ?_
    exact Vm (Vr hn) [(2, 0), (3, 0), (0, 0)] (by decide) ⟨Vu 2 0 rfl rfl, trivial⟩ ⟨⟨_, rfl, rfl, .same _ _ _ _ (Vs T_Place.enc_lt)⟩, ⟨_, rfl, rfl, .same _ _ _ _ (Vs T_Road.enc_lt)⟩, ⟨_, rfl, rfl, .agg _ _ _ _ _ ⟨Xx 0 2 rfl rfl, Xx 1 3 rfl rfl, trivial⟩⟩, trivial⟩
 ·rintro _ _ _ _ ⟨he, hw⟩
  refine ⟨_, _, _, hw, ?_⟩
  exact bodyQ_some (Vr hn) 2 rfl (We rfl) he [.agg [.sl (n + 0) 0 0 (r.2.Places).length, .sl (n + 1) 0 0 (r.2.Roads).length]] ⟨Vy rfl (Vg (Vr hn) rfl) rfl ta_27 ts_27 rfl rfl rfl, trivial⟩ ((Vp ⟨.sl _ _ _ _ (lt_kk rfl), .sl _ _ _ _ (lt_kk rfl), trivial⟩)) ⟨Vs T_Place.enc_lt, Vs T_Road.enc_lt, trivial⟩ ⟨rfl, rfl⟩

theorem F_draw_Codes_Mine_ok {p0 : T_draw_Codes} {r : T_draw_Codes × T_Mine} (hF : F_draw_Codes_Mine p0 = some r) {low : List AObj} {q0 w0 : Nat} (hnd : [q0].Nodup) (hq0 : low[q0]? = some ⟨88, 2, [.agg [.vs 1 (Wa (Wb .u8) p0.l), .int .i64 p0.at_]], w0⟩) {n : Nat} (hn : low.length = n) :
    Zd Try.prog 26 [.ptr q0 w0 0 0] low fun x low' => x = .agg [.sl (n + 0) 0 0 (r.2.Places).length, .sl (n + 1) 0 0 (r.2.Roads).length] ∧ low' = setL low [(q0, ⟨88, 2, [.agg [.vs 1 (Wa (Wb .u8) r.1.l), .int .i64 r.1.at_]], w0⟩)] ++ [⟨48, 2, Wa T_Place.enc r.2.Places, 0⟩, ⟨46, 10, Wa T_Road.enc r.2.Roads, 0⟩] := by
  obtain ⟨h1, h2⟩ := bor_start (ps := [(q0, ⟨88, 2, [.agg [.vs 1 (Wa (Wb .u8) p0.l), .int .i64 p0.at_]], w0⟩)]) hnd (borC hq0 bor0)
  exact vcalls_low h1 (F_draw_Codes_Mine_ok0 hF h2 hn)

theorem F_draw_Codes_Spans_ok0 {p0 : T_draw_Codes} {p1 : List Int} {r : T_draw_Codes × List T_Span} (hF : F_draw_Codes_Spans p0 p1 = some r) {low0 : List AObj} {q0 w0 : Nat} (hB : Bor low0 [q0]) {n : Nat} (hn : low0.length = n) :
    Zd Try.prog 29 [.ptr q0 w0 0 0, .vs 1 (Wa (Wb .i64) p1)] (setL low0 [(q0, ⟨88, 2, [.agg [.vs 1 (Wa (Wb .u8) p0.l), .int .i64 p0.at_]], w0⟩)]) fun x low' => x = .vs 2 (Wa T_Span.enc r.2) ∧ low' = setL low0 [(q0, ⟨88, 2, [.agg [.vs 1 (Wa (Wb .u8) r.1.l), .int .i64 r.1.at_]], w0⟩)] ++ [] := by
 refine Xh (nt := 32) (rs := [.tmp 4]) Try.func29 rfl rfl (We rfl) rfl ?_
 have hq0 : q0 < n := hB.ltN hn 0 rfl
 refine Vo (Q' := FnE (fun E' lw lc => Xr E' lw lc [(4, .vs 2 (Wa T_Span.enc r.2))] (setL low0 [(q0, ⟨88, 2, [.agg [.vs 1 (Wa (Wb .u8) r.1.l), .int .i64 r.1.at_]], w0⟩)]) [])) ?_ ?_
 ·unfold F_draw_Codes_Spans at hF
  refine Vf ?_
  refine Vd ?_
  refine Va (rd_nv (sz := 2) (rd_asN rfl)) rfl ?_
  refine Ve ?_
  refine Vf ?_
  refine Vd ?_
  refine Vi (vef_nilsN (Vr hn) rfl 44 2 (Wf _) (rd_asN rfl)) rfl ?_
  refine Ve ?_
  refine Vf ?_
  refine Vf ?_
  refine Vd ?_
  refine Va (Xi rfl) rfl ?_
  refine Ve ?_
  refine Xa ?_
  obtain ⟨o2, ho2, hF⟩ := Ya hF
  refine Vo (Yk (F_draw_Codes_Spans_L1 p1) (fun s1 E' lw lc => Xr E' lw lc [(0, .ptr q0 w0 0 0), (1, .vs 1 (Wa (Wb .i64) p1)), (5, .sl (n + 0) 0 0 (s1.2.1).length), (6, .int .i64 s1.1)] (setL low0 [(q0, ⟨88, 2, [.agg [.vs 1 (Wa (Wb .u8) s1.2.2.l), .int .i64 s1.2.2.at_]], w0⟩)]) [⟨44, 2, Wa T_Span.enc s1.2.1, 0⟩]) (fun o2 => OnlyE (.exit 0) (fun E' lw lc => Xr E' lw lc [(5, .sl (n + 0) 0 0 (o2.1).length)] (setL low0 [(q0, ⟨88, 2, [.agg [.vs 1 (Wa (Wb .u8) o2.2.l), .int .i64 o2.2.at_]], w0⟩)]) [⟨44, 2, Wa T_Span.enc o2.1, 0⟩])) ho2 ?_ (by rintro _ _ _ _ ⟨h, _⟩ <;> cases h) ?_) ?_
  ·exact Vl ⟨rfl, rfl, rfl, rfl, trivial⟩
  ·rintro s1 os1 _ _ _ hF hw
   unfold F_draw_Codes_Spans_L1 at hF
   refine Yd hw ?_
   refine Vf ?_
   refine Vf ?_
   refine Vd ?_
   refine Va (Vk rfl) rfl ?_
   refine Va (Yc rfl) rfl ?_
   refine Va (Xm (Xy rfl rfl te_32) (congrArg (fun n : Nat => Wb .i64 (n : Int)) (Wh _))) rfl ?_
   refine Va (Yh rfl rfl) rfl ?_
   refine Ve ?_
   refine Xd rfl (fun c3 => ?_) (fun c3 => ?_)
   ·have hF := Yi c3 hF
    refine Xe ?_
    refine Vf ?_
    refine Xa ?_
    obtain ⟨x4, h5, hF⟩ := Ya hF
    obtain ⟨x6, h7, hF⟩ := Ya hF
    obtain ⟨x8, h9, hF⟩ := Ya hF
    obtain ⟨x10, h11, hF⟩ := Ya hF
    obtain ⟨x12, h13, hF⟩ := Ya hF
    refine Zj [[], [], [], [1, 2], [1, 2, 3], [], [5], [1, 2, 3, 4, 5, 6], [], [], [8, 9], [8, 9, 10], [], [5, 6, 12], [5, 6, 8, 9, 10, 11, 12, 13], [1, 2, 3, 4, 5, 6, 7, 8, 9, 10, 11, 12, 13, 14], [1, 2, 3, 4, 5, 6, 7, 8, 9, 10, 11, 12, 13, 14, 15], [0, 1, 2, 3, 4, 5, 6, 7, 8, 9, 10, 11, 12, 13, 14, 15, 16], [0, 1, 2, 3, 4, 5, 6, 7, 8, 9, 10, 11, 12, 13, 14, 15, 16, 17]] [false, false, false, false, false, false, true, false, false, false, false, false, false, true, false, false, false, true, false] [((setL low0 [(q0, ⟨88, 2, [.agg [.vs 1 (Wa (Wb .u8) s1.2.2.l), .int .i64 s1.2.2.at_]], w0⟩)]), [⟨44, 2, Wa T_Span.enc s1.2.1, 0⟩]), ((setL low0 [(q0, ⟨88, 2, [.agg [.vs 1 (Wa (Wb .u8) x6.1.l), .int .i64 x6.1.at_]], w0⟩)]), [⟨44, 2, Wa T_Span.enc s1.2.1, 0⟩]), ((setL low0 [(q0, ⟨88, 2, [.agg [.vs 1 (Wa (Wb .u8) x10.1.l), .int .i64 x10.1.at_]], w0⟩)]), [⟨44, 2, Wa T_Span.enc s1.2.1, 0⟩]), ((setL low0 [(q0, ⟨88, 2, [.agg [.vs 1 (Wa (Wb .u8) x10.1.l), .int .i64 x10.1.at_]], w0⟩)]), [⟨44, 2, Wa T_Span.enc x12, 0 + 1⟩])] mixed (by kernel_rfl) rfl (lenAll (Vv Xo (Vv Xo (Vv Xo (Vv Xo Yy))))) rfl _ rfl rfl ?_
    refine Xc _ rfl rfl (Vv (VRd.ntl (Yx rfl)) (Vv (VRd.ntl (Yx rfl)) (Vv (VRd.ntl (Yx rfl)) Yy))) ?_
    refine Xc _ rfl rfl (Vv (VRd.ntl (Yc rfl)) (Vv (VRd.ntl (Yc rfl)) (Vv (VRd.ntl (Yc rfl)) Yy))) ?_
    refine Xc _ rfl rfl (Vv (VRd.ntl (Vk rfl)) (Vv (VRd.ntl (Vk rfl)) (Vv (VRd.ntl (Vk rfl)) Yy))) ?_
    refine Xc _ rfl rfl (Vv (VRd.ntl (Xm (Xz rfl rfl h5 te_32 ts_3) (v' := .vptr [.int .i64 x4] 0) rfl)) (Vv (VRd.ntl (Xm (Xz rfl rfl h5 te_32 ts_3) (v' := .vptr [.int .i64 x4] 0) rfl)) (Vv (VRd.ntl (Xm (Xz rfl rfl h5 te_32 ts_3) (v' := .vptr [.int .i64 x4] 0) rfl)) Yy))) ?_
    refine Xc _ rfl rfl (Vv (VRd.ntl (Xs rfl ta_3 rfl)) (Vv (VRd.ntl (Xs rfl ta_3 rfl)) (Vv (VRd.ntl (Xs rfl ta_3 rfl)) Yy))) ?_
    refine Xu rfl rfl (Xj rfl) ?_
    refine Yb rfl rfl rfl (Xk (ps := [(q0, ⟨88, 2, [.agg [.vs 1 (Wa (Wb .u8) x6.1.l), .int .i64 x6.1.at_]], w0⟩)]) (r := .int .i64 x6.2) (os := []) (low1 := (setL low0 [(q0, ⟨88, 2, [.agg [.vs 1 (Wa (Wb .u8) x6.1.l), .int .i64 x6.1.at_]], w0⟩)])) (loc1 := [⟨44, 2, Wa T_Span.enc s1.2.1, 0⟩]) (loc2 := [⟨44, 2, Wa T_Span.enc s1.2.1, 0⟩]) rfl Try.call27 (F_draw_Codes_Next_ok h7 (nd1 na0 nd0) (Zf hB rfl 0 rfl) (Xv (Vr hn) rfl)) (Yz (ps0' := [(q0, ⟨88, 2, [.agg [.vs 1 (Wa (Wb .u8) x6.1.l), .int .i64 x6.1.at_]], w0⟩)]) hB rfl 0 rfl (Yv hn ⟨Vp ⟨.vs _ _, .int _ _, trivial⟩, trivial⟩) rfl Xq) rfl) ?_
    refine Xc _ rfl rfl (Vv (VRd.ntl (Zs rfl rfl rfl)) (Vv (VRd.ntl (Zs rfl rfl rfl)) Yy)) ?_
    refine Xc _ rfl rfl (Vv (VRd.ntl (Yc rfl)) (Vv (VRd.ntl (Yc rfl)) (Vv (VRd.ntl (Yc rfl)) Yy))) ?_
    refine Xc _ rfl rfl (Vv (VRd.ntl (Vk rfl)) (Vv (VRd.ntl (Vk rfl)) (Vv (VRd.ntl (Vk rfl)) Yy))) ?_
    refine Xc _ rfl rfl (Vv (VRd.ntl (Xm (Xz rfl rfl h9 te_32 ts_3) (v' := .vptr [.int .i64 x8] 0) rfl)) (Vv (VRd.ntl (Xm (Xz rfl rfl h9 te_32 ts_3) (v' := .vptr [.int .i64 x8] 0) rfl)) (Vv (VRd.ntl (Xm (Xz rfl rfl h9 te_32 ts_3) (v' := .vptr [.int .i64 x8] 0) rfl)) Yy))) ?_
    refine Xc _ rfl rfl (Vv (VRd.ntl (Xs rfl ta_3 rfl)) (Vv (VRd.ntl (Xs rfl ta_3 rfl)) (Vv (VRd.ntl (Xs rfl ta_3 rfl)) Yy))) ?_
    refine Xc _ rfl rfl (Vv (VRd.ntl (Xj rfl)) (Vv (VRd.ntl (Xj rfl)) Yy)) ?_
    refine Yb rfl rfl rfl (Xk (ps := [(q0, ⟨88, 2, [.agg [.vs 1 (Wa (Wb .u8) x10.1.l), .int .i64 x10.1.at_]], w0⟩)]) (r := .int .i64 x10.2) (os := []) (low1 := (setL low0 [(q0, ⟨88, 2, [.agg [.vs 1 (Wa (Wb .u8) x10.1.l), .int .i64 x10.1.at_]], w0⟩)])) (loc1 := [⟨44, 2, Wa T_Span.enc s1.2.1, 0⟩]) (loc2 := [⟨44, 2, Wa T_Span.enc s1.2.1, 0⟩]) rfl Try.call27 (F_draw_Codes_Next_ok h11 (nd1 na0 nd0) (Zf hB rfl 0 rfl) (Xv (Vr hn) rfl)) (Yz (ps0' := [(q0, ⟨88, 2, [.agg [.vs 1 (Wa (Wb .u8) x10.1.l), .int .i64 x10.1.at_]], w0⟩)]) hB rfl 0 rfl (Yv hn ⟨Vp ⟨.vs _ _, .int _ _, trivial⟩, trivial⟩) rfl Xq) rfl) ?_
    refine Xu rfl rfl (Za rfl rfl rfl) ?_
    refine Xu rfl rfl (Yf (vs := [(0, .int .i64 (IntKind.i64.wrap (x4 - x6.2))), (1, .int .i64 (IntKind.i64.wrap (x8 + x10.2)))]) (ds := [.int .i64 (IntKind.i64.wrap (x4 - x6.2)), .int .i64 (IntKind.i64.wrap (x8 + x10.2))]) tz_44 rfl rfl tp_44 ⟨rfl, rfl, rfl, rfl, trivial⟩ (Yl rfl) rfl) ?_
    refine dn1 rfl rfl (Zz (Yt (es := Wa T_Span.enc [(T_Span.mk (IntKind.i64.wrap (x4 - x6.2)) (IntKind.i64.wrap (x8 + x10.2)))]) ⟨rfl, rfl, trivial⟩ rfl rfl (Zg rfl) te_23 ts_44 tz_44 rfl rfl (Wf _) (by decide) (Ym T_Span.enc_lt))) ?_
    refine Yb rfl rfl rfl (Zu (f := T_Span.enc) (l := s1.2.1) (ys := [(T_Span.mk (IntKind.i64.wrap (x4 - x6.2)) (IntKind.i64.wrap (x8 + x10.2)))]) rfl rfl (Vg (Vr hn) rfl) rfl (Zx rfl) te_23 ts_44 tb_44 (by decide) tz_44 rfl h13 (Xn (Vr hn) rfl)) ?_
    refine Xu rfl rfl (Zy rfl) ?_
    refine Yq ?_
    refine Vd ?_
    refine Va (Vk rfl) rfl ?_
    refine Va (Za rfl rfl rfl) rfl ?_
    refine Va (Xi rfl) rfl ?_
    refine Ve ?_
    obtain rfl := Wd hF
    refine Vz ?_
    exact Vm (Vr hn) [(0, 0 + 1)] (by decide) ⟨Vj rfl (.ptr _ _ _ _ hq0), Vj rfl (.vs _ _), Xx 0 0 rfl rfl, Vj rfl (.int _ _), trivial⟩ ⟨⟨_, rfl, rfl, .same _ _ _ _ (Vs T_Span.enc_lt)⟩, trivial⟩
   ·have hF := Yj c3 hF
    refine Yr ?_
    obtain rfl := Wd hF
    refine Vz ?_
    exact Vl ⟨rfl, trivial⟩
  ·rintro _ _ _ _ ⟨rfl, hw⟩
   refine ⟨_, _, _, hw, ?_⟩
   refine Vf ?_
   refine Vd ?_
   refine Va (Yx rfl) rfl ?_
   refine Va (Zy rfl) rfl ?_
   refine Ve ?_
   refine Xt ?_
   obtain rfl := Wd hF
   refine fnR ?_
   refine Weak.trans (Ys (E' := [(4, .vs 2 (Wa T_Span.enc o2.1))]) (loc1 := [⟨44, 2, [], 0 + 1⟩]) (Vr hn) 0 rfl (Ym T_Span.enc_lt) ⟨cv_sl rfl rfl rfl (Zb rfl), trivial⟩ ⟨.refl _, trivial⟩) ?_
   exact Vm (Vr hn) [] (by decide) ⟨Vj rfl (.vs _ _), trivial⟩ trivial
 ·rintro _ _ _ _ ⟨he, hw⟩
  refine ⟨_, _, _, hw, ?_⟩
  exact Yu he [.vs 2 (Wa T_Span.enc r.2)] ⟨rfl, trivial⟩ (.vs _ _) ⟨rfl, (List.append_nil _).symm⟩

theorem F_draw_Codes_Spans_ok {p0 : T_draw_Codes} {p1 : List Int} {r : T_draw_Codes × List T_Span} (hF : F_draw_Codes_Spans p0 p1 = some r) {low : List AObj} {q0 w0 : Nat} (hnd : [q0].Nodup) (hq0 : low[q0]? = some ⟨88, 2, [.agg [.vs 1 (Wa (Wb .u8) p0.l), .int .i64 p0.at_]], w0⟩) {n : Nat} (hn : low.length = n) :
    Zd Try.prog 29 [.ptr q0 w0 0 0, .vs 1 (Wa (Wb .i64) p1)] low fun x low' => x = .vs 2 (Wa T_Span.enc r.2) ∧ low' = setL low [(q0, ⟨88, 2, [.agg [.vs 1 (Wa (Wb .u8) r.1.l), .int .i64 r.1.at_]], w0⟩)] ++ [] := by
  obtain ⟨h1, h2⟩ := bor_start (ps := [(q0, ⟨88, 2, [.agg [.vs 1 (Wa (Wb .u8) p0.l), .int .i64 p0.at_]], w0⟩)]) hnd (borC hq0 bor0)
  exact vcalls_low h1 (F_draw_Codes_Spans_ok0 hF h2 hn)

theorem F_law14_air_ok {p0 : List Int} {r : T_Air × List T_Span × List Int} (hF : F_law14_air p0 = some r) (low : List AObj) {n : Nat} (hn : low.length = n) :
    Zd Try.prog 8 [.vs 1 (Wa (Wb .u8) p0)] low fun x low' => x = .tup [.agg [.vs 2 (Wa T_Place.enc r.1.Mine.Places), .vs 10 (Wa T_Road.enc r.1.Mine.Roads), .vs 4 (Wa T_Fan.enc r.1.Fans), .vs 3 (Wa T_Door.enc r.1.Doors)], .vs 2 (Wa T_Span.enc r.2.1), .vs 1 (Wa (Wb .i64) r.2.2)] ∧ low' = low ++ [] := by
 refine Xh (nt := 51) (rs := [.cell 2 31, .tmp 3, .tmp 4]) Try.func8 rfl rfl (We rfl) rfl ?_
 refine Vo (Q' := FnE (fun E' lw lc => Xr E' lw lc [(2, .ptr (n + 0) 0 0 0), (3, .vs 2 (Wa T_Span.enc r.2.1)), (4, .vs 1 (Wa (Wb .i64) r.2.2))] low [⟨31, 4, [.agg [.vs 2 (Wa T_Place.enc r.1.Mine.Places), .vs 10 (Wa T_Road.enc r.1.Mine.Roads), .vs 4 (Wa T_Fan.enc r.1.Fans), .vs 3 (Wa T_Door.enc r.1.Doors)]], 0⟩])) ?_ ?_
 ·unfold F_law14_air at hF
  refine Vf ?_
  refine Vd ?_
  refine Vi (Xp hn rfl tz_31 rfl rfl (Wf _) rfl) rfl ?_
  refine Va (rd_nv (sz := 2) (rd_asN rfl)) rfl ?_
  refine Va (rd_nv (sz := 1) (rd_asN rfl)) rfl ?_
  refine Ve ?_
  refine Vf ?_
  refine Vd ?_
  obtain ⟨x1, h2, hF⟩ := Ya hF
  refine Va (Yc rfl) rfl ?_
  refine Vi (vef_callN (r := .ptr (n + 1) 0 0 0) (os := [⟨88, 2, [.agg [.vs 1 (Wa (Wb .u8) x1.l), .int .i64 x1.at_]], 0⟩]) rfl Try.call23 (F_draw_New_ok h2 _ (Xv hn rfl))) rfl ?_
  refine Va (rd_asP rfl) rfl ?_
  refine Ve ?_
  refine Vf ?_
  refine Vd ?_
  obtain ⟨x3, h4, hF⟩ := Ya hF
  refine Va (Xj rfl) rfl ?_
  refine Vi (Xk (ps := [((n + 1), ⟨88, 2, [.agg [.vs 1 (Wa (Wb .u8) x3.1.l), .int .i64 x3.1.at_]], 0⟩)]) (r := .tup [.agg [.vs 2 (Wa T_Place.enc x3.2.1.Mine.Places), .vs 10 (Wa T_Road.enc x3.2.1.Mine.Roads), .vs 4 (Wa T_Fan.enc x3.2.1.Fans), .vs 3 (Wa T_Door.enc x3.2.1.Doors)], .agg [.vs 1 (Wa (Wb .i64) x3.2.2.1.Fans), .vs 1 (Wa (Wb .i64) x3.2.2.1.Doors)], .agg [.vs 1 (Wa (Wb .i64) x3.2.2.2.Pressures), .vs 1 (Wa (Wb .i64) x3.2.2.2.Flows)]]) (os := []) (low1 := low) (loc1 := [⟨31, 4, [.agg [.nils, .nils, .nils, .nils]], 0⟩, ⟨88, 2, [.agg [.vs 1 (Wa (Wb .u8) x3.1.l), .int .i64 x3.1.at_]], 0⟩]) (loc2 := [⟨31, 4, [.agg [.nils, .nils, .nils, .nils]], 0⟩, ⟨88, 2, [.agg [.vs 1 (Wa (Wb .u8) x3.1.l), .int .i64 x3.1.at_]], 0⟩]) rfl Try.call24 (F_draw_Codes_Made_ok h4 (nd1 na0 nd0) (get_N hn rfl) (Xv hn rfl)) (sets_own (loc2 := [⟨31, 4, [.agg [.nils, .nils, .nils, .nils]], 0⟩, ⟨88, 2, [.agg [.vs 1 (Wa (Wb .u8) x3.1.l), .int .i64 x3.1.at_]], 0⟩]) hn 1 rfl Xq) rfl) rfl ?_
  refine Va (rd_mvT rfl) rfl ?_
  refine Va (Zr rfl rfl) rfl ?_
  refine Va (Zr rfl rfl) rfl ?_
  refine Va (Zr rfl rfl) rfl ?_
  refine Vi (Xp hn rfl tz_31 rfl rfl (Wf _) rfl) rfl ?_
  refine Vi (Xp hn rfl tz_62 rfl rfl (Wf _) rfl) rfl ?_
  refine Vi (Xp hn rfl tz_64 rfl rfl (Wf _) rfl) rfl ?_
  refine Vi (Xb (p := .agg [.vs 2 (Wa T_Place.enc x3.2.1.Mine.Places), .vs 10 (Wa T_Road.enc x3.2.1.Mine.Roads), .vs 4 (Wa T_Fan.enc x3.2.1.Fans), .vs 3 (Wa T_Door.enc x3.2.1.Doors)]) (e' := .agg [.vs 2 (Wa T_Place.enc x3.2.1.Mine.Places), .vs 10 (Wa T_Road.enc x3.2.1.Mine.Roads), .vs 4 (Wa T_Fan.enc x3.2.1.Fans), .vs 3 (Wa T_Door.enc x3.2.1.Doors)]) rfl (Vg hn rfl) rfl rfl ts_31 rfl (Yn rfl) rfl (We rfl) rfl (Xn hn rfl)) rfl ?_
  refine Vi (Xb (p := .agg [.vs 1 (Wa (Wb .i64) x3.2.2.1.Fans), .vs 1 (Wa (Wb .i64) x3.2.2.1.Doors)]) (e' := .agg [.vs 1 (Wa (Wb .i64) x3.2.2.1.Fans), .vs 1 (Wa (Wb .i64) x3.2.2.1.Doors)]) rfl (Vg hn rfl) rfl rfl ts_62 rfl (Yn rfl) rfl (We rfl) rfl (Xn hn rfl)) rfl ?_
  refine Vi (Xb (p := .agg [.vs 1 (Wa (Wb .i64) x3.2.2.2.Pressures), .vs 1 (Wa (Wb .i64) x3.2.2.2.Flows)]) (e' := .agg [.vs 1 (Wa (Wb .i64) x3.2.2.2.Pressures), .vs 1 (Wa (Wb .i64) x3.2.2.2.Flows)]) rfl (Vg hn rfl) rfl rfl ts_64 rfl (Yn rfl) rfl (We rfl) rfl (Xn hn rfl)) rfl ?_
  refine Ve ?_
  refine Vf ?_
  refine Vf ?_
  refine Vd ?_
  obtain ⟨x5, h6, hF⟩ := Ya hF
  refine Va (Xj rfl) rfl ?_
  refine Vi (Xk (ps := [((n + 1), ⟨88, 2, [.agg [.vs 1 (Wa (Wb .u8) x5.1.l), .int .i64 x5.1.at_]], 0⟩)]) (r := .bool x5.2) (os := []) (low1 := low) (loc1 := [⟨31, 4, [.agg [.nils, .nils, .nils, .nils]], 0⟩, ⟨88, 2, [.agg [.vs 1 (Wa (Wb .u8) x5.1.l), .int .i64 x5.1.at_]], 0⟩, ⟨31, 4, [.agg [.vs 2 (Wa T_Place.enc x3.2.1.Mine.Places), .vs 10 (Wa T_Road.enc x3.2.1.Mine.Roads), .vs 4 (Wa T_Fan.enc x3.2.1.Fans), .vs 3 (Wa T_Door.enc x3.2.1.Doors)]], 0⟩, ⟨62, 2, [.agg [.vs 1 (Wa (Wb .i64) x3.2.2.1.Fans), .vs 1 (Wa (Wb .i64) x3.2.2.1.Doors)]], 0⟩, ⟨64, 2, [.agg [.vs 1 (Wa (Wb .i64) x3.2.2.2.Pressures), .vs 1 (Wa (Wb .i64) x3.2.2.2.Flows)]], 0⟩]) (loc2 := [⟨31, 4, [.agg [.nils, .nils, .nils, .nils]], 0⟩, ⟨88, 2, [.agg [.vs 1 (Wa (Wb .u8) x5.1.l), .int .i64 x5.1.at_]], 0⟩, ⟨31, 4, [.agg [.vs 2 (Wa T_Place.enc x3.2.1.Mine.Places), .vs 10 (Wa T_Road.enc x3.2.1.Mine.Roads), .vs 4 (Wa T_Fan.enc x3.2.1.Fans), .vs 3 (Wa T_Door.enc x3.2.1.Doors)]], 0⟩, ⟨62, 2, [.agg [.vs 1 (Wa (Wb .i64) x3.2.2.1.Fans), .vs 1 (Wa (Wb .i64) x3.2.2.1.Doors)]], 0⟩, ⟨64, 2, [.agg [.vs 1 (Wa (Wb .i64) x3.2.2.2.Pressures), .vs 1 (Wa (Wb .i64) x3.2.2.2.Flows)]], 0⟩]) rfl Try.call25 (F_draw_Codes_One_ok h6 (nd1 na0 nd0) (get_N hn rfl) (Xv hn rfl)) (sets_own (loc2 := [⟨31, 4, [.agg [.nils, .nils, .nils, .nils]], 0⟩, ⟨88, 2, [.agg [.vs 1 (Wa (Wb .u8) x5.1.l), .int .i64 x5.1.at_]], 0⟩, ⟨31, 4, [.agg [.vs 2 (Wa T_Place.enc x3.2.1.Mine.Places), .vs 10 (Wa T_Road.enc x3.2.1.Mine.Roads), .vs 4 (Wa T_Fan.enc x3.2.1.Fans), .vs 3 (Wa T_Door.enc x3.2.1.Doors)]], 0⟩, ⟨62, 2, [.agg [.vs 1 (Wa (Wb .i64) x3.2.2.1.Fans), .vs 1 (Wa (Wb .i64) x3.2.2.1.Doors)]], 0⟩, ⟨64, 2, [.agg [.vs 1 (Wa (Wb .i64) x3.2.2.2.Pressures), .vs 1 (Wa (Wb .i64) x3.2.2.2.Flows)]], 0⟩]) hn 1 rfl Xq) rfl) rfl ?_
  refine Ve ?_
  obtain ⟨o7, ho7, hF⟩ := Ya hF
  refine Vo (Q' := (fun o7 => OnlyE .normal (fun E' lw lc => Xr E' lw lc [(2, .ptr (n + 0) 0 0 0), (5, .ptr (n + 1) 0 0 0), (6, .ptr (n + 2) 0 0 0), (8, .ptr (n + 3) 0 0 0)] low [⟨31, 4, [.agg [.nils, .nils, .nils, .nils]], 0⟩, ⟨88, 2, [.agg [.vs 1 (Wa (Wb .u8) o7.1.l), .int .i64 o7.1.at_]], 0⟩, ⟨31, 4, [.agg [.vs 2 (Wa T_Place.enc o7.2.1.Mine.Places), .vs 10 (Wa T_Road.enc o7.2.1.Mine.Roads), .vs 4 (Wa T_Fan.enc o7.2.1.Fans), .vs 3 (Wa T_Door.enc o7.2.1.Doors)]], 0⟩, ⟨64, 2, [.agg [.vs 1 (Wa (Wb .i64) x3.2.2.2.Pressures), .vs 1 (Wa (Wb .i64) o7.2.2)]], 0⟩])) o7) ?_ ?_
  ·replace hF := ho7
   refine Xd rfl (fun c8 => ?_) (fun c8 => ?_)
   ·have hF := Yi c8 hF
    refine Vf ?_
    refine Vd ?_
    obtain ⟨x9, h10, hF⟩ := Ya hF
    obtain ⟨x11, h12, hF⟩ := Ya hF
    obtain ⟨x13, h14, hF⟩ := Ya hF
    refine Va (Xj rfl) rfl ?_
    refine Vi (Xk (ps := [((n + 1), ⟨88, 2, [.agg [.vs 1 (Wa (Wb .u8) x9.1.l), .int .i64 x9.1.at_]], 0⟩)]) (r := .agg [.sl (n + 5) 0 0 (x9.2.Places).length, .sl (n + 6) 0 0 (x9.2.Roads).length]) (os := [⟨48, 2, Wa T_Place.enc x9.2.Places, 0⟩, ⟨46, 10, Wa T_Road.enc x9.2.Roads, 0⟩]) (low1 := low) (loc1 := [⟨31, 4, [.agg [.nils, .nils, .nils, .nils]], 0⟩, ⟨88, 2, [.agg [.vs 1 (Wa (Wb .u8) x9.1.l), .int .i64 x9.1.at_]], 0⟩, ⟨31, 4, [.agg [.vs 2 (Wa T_Place.enc x3.2.1.Mine.Places), .vs 10 (Wa T_Road.enc x3.2.1.Mine.Roads), .vs 4 (Wa T_Fan.enc x3.2.1.Fans), .vs 3 (Wa T_Door.enc x3.2.1.Doors)]], 0⟩, ⟨62, 2, [.agg [.vs 1 (Wa (Wb .i64) x3.2.2.1.Fans), .vs 1 (Wa (Wb .i64) x3.2.2.1.Doors)]], 0⟩, ⟨64, 2, [.agg [.vs 1 (Wa (Wb .i64) x3.2.2.2.Pressures), .vs 1 (Wa (Wb .i64) x3.2.2.2.Flows)]], 0⟩]) (loc2 := [⟨31, 4, [.agg [.nils, .nils, .nils, .nils]], 0⟩, ⟨88, 2, [.agg [.vs 1 (Wa (Wb .u8) x9.1.l), .int .i64 x9.1.at_]], 0⟩, ⟨31, 4, [.agg [.vs 2 (Wa T_Place.enc x3.2.1.Mine.Places), .vs 10 (Wa T_Road.enc x3.2.1.Mine.Roads), .vs 4 (Wa T_Fan.enc x3.2.1.Fans), .vs 3 (Wa T_Door.enc x3.2.1.Doors)]], 0⟩, ⟨62, 2, [.agg [.vs 1 (Wa (Wb .i64) x3.2.2.1.Fans), .vs 1 (Wa (Wb .i64) x3.2.2.1.Doors)]], 0⟩, ⟨64, 2, [.agg [.vs 1 (Wa (Wb .i64) x3.2.2.2.Pressures), .vs 1 (Wa (Wb .i64) x3.2.2.2.Flows)]], 0⟩, ⟨48, 2, Wa T_Place.enc x9.2.Places, 0⟩, ⟨46, 10, Wa T_Road.enc x9.2.Roads, 0⟩]) rfl Try.call26 (F_draw_Codes_Mine_ok h10 (nd1 na0 nd0) (get_N hn rfl) (Xv hn rfl)) (sets_own (loc2 := [⟨31, 4, [.agg [.nils, .nils, .nils, .nils]], 0⟩, ⟨88, 2, [.agg [.vs 1 (Wa (Wb .u8) x9.1.l), .int .i64 x9.1.at_]], 0⟩, ⟨31, 4, [.agg [.vs 2 (Wa T_Place.enc x3.2.1.Mine.Places), .vs 10 (Wa T_Road.enc x3.2.1.Mine.Roads), .vs 4 (Wa T_Fan.enc x3.2.1.Fans), .vs 3 (Wa T_Door.enc x3.2.1.Doors)]], 0⟩, ⟨62, 2, [.agg [.vs 1 (Wa (Wb .i64) x3.2.2.1.Fans), .vs 1 (Wa (Wb .i64) x3.2.2.1.Doors)]], 0⟩, ⟨64, 2, [.agg [.vs 1 (Wa (Wb .i64) x3.2.2.2.Pressures), .vs 1 (Wa (Wb .i64) x3.2.2.2.Flows)]], 0⟩]) hn 1 rfl Xq) rfl) rfl ?_
    refine Va (Xj rfl) rfl ?_
    refine Vi (Xk (ps := [((n + 1), ⟨88, 2, [.agg [.vs 1 (Wa (Wb .u8) x11.1.l), .int .i64 x11.1.at_]], 0⟩)]) (r := .int .i64 x11.2) (os := []) (low1 := low) (loc1 := [⟨31, 4, [.agg [.nils, .nils, .nils, .nils]], 0⟩, ⟨88, 2, [.agg [.vs 1 (Wa (Wb .u8) x11.1.l), .int .i64 x11.1.at_]], 0⟩, ⟨31, 4, [.agg [.vs 2 (Wa T_Place.enc x3.2.1.Mine.Places), .vs 10 (Wa T_Road.enc x3.2.1.Mine.Roads), .vs 4 (Wa T_Fan.enc x3.2.1.Fans), .vs 3 (Wa T_Door.enc x3.2.1.Doors)]], 0⟩, ⟨62, 2, [.agg [.vs 1 (Wa (Wb .i64) x3.2.2.1.Fans), .vs 1 (Wa (Wb .i64) x3.2.2.1.Doors)]], 0⟩, ⟨64, 2, [.agg [.vs 1 (Wa (Wb .i64) x3.2.2.2.Pressures), .vs 1 (Wa (Wb .i64) x3.2.2.2.Flows)]], 0⟩, ⟨48, 2, Wa T_Place.enc x9.2.Places, 0⟩, ⟨46, 10, Wa T_Road.enc x9.2.Roads, 0⟩]) (loc2 := [⟨31, 4, [.agg [.nils, .nils, .nils, .nils]], 0⟩, ⟨88, 2, [.agg [.vs 1 (Wa (Wb .u8) x11.1.l), .int .i64 x11.1.at_]], 0⟩, ⟨31, 4, [.agg [.vs 2 (Wa T_Place.enc x3.2.1.Mine.Places), .vs 10 (Wa T_Road.enc x3.2.1.Mine.Roads), .vs 4 (Wa T_Fan.enc x3.2.1.Fans), .vs 3 (Wa T_Door.enc x3.2.1.Doors)]], 0⟩, ⟨62, 2, [.agg [.vs 1 (Wa (Wb .i64) x3.2.2.1.Fans), .vs 1 (Wa (Wb .i64) x3.2.2.1.Doors)]], 0⟩, ⟨64, 2, [.agg [.vs 1 (Wa (Wb .i64) x3.2.2.2.Pressures), .vs 1 (Wa (Wb .i64) x3.2.2.2.Flows)]], 0⟩, ⟨48, 2, Wa T_Place.enc x9.2.Places, 0⟩, ⟨46, 10, Wa T_Road.enc x9.2.Roads, 0⟩]) rfl Try.call27 (F_draw_Codes_Next_ok h12 (nd1 na0 nd0) (get_N hn rfl) (Xv hn rfl)) (sets_own (loc2 := [⟨31, 4, [.agg [.nils, .nils, .nils, .nils]], 0⟩, ⟨88, 2, [.agg [.vs 1 (Wa (Wb .u8) x11.1.l), .int .i64 x11.1.at_]], 0⟩, ⟨31, 4, [.agg [.vs 2 (Wa T_Place.enc x3.2.1.Mine.Places), .vs 10 (Wa T_Road.enc x3.2.1.Mine.Roads), .vs 4 (Wa T_Fan.enc x3.2.1.Fans), .vs 3 (Wa T_Door.enc x3.2.1.Doors)]], 0⟩, ⟨62, 2, [.agg [.vs 1 (Wa (Wb .i64) x3.2.2.1.Fans), .vs 1 (Wa (Wb .i64) x3.2.2.1.Doors)]], 0⟩, ⟨64, 2, [.agg [.vs 1 (Wa (Wb .i64) x3.2.2.2.Pressures), .vs 1 (Wa (Wb .i64) x3.2.2.2.Flows)]], 0⟩, ⟨48, 2, Wa T_Place.enc x9.2.Places, 0⟩, ⟨46, 10, Wa T_Road.enc x9.2.Roads, 0⟩]) hn 1 rfl Xq) rfl) rfl ?_
    refine Va (rd_nc (Yf (vs := [(0, .int .i64 x11.2), (2, .bool true)]) (ds := [.int .i64 x11.2, .bool false, .bool true, .nils]) tz_72 rfl rfl tp_72 ⟨rfl, rfl, rfl, rfl, trivial⟩ (Yl rfl) rfl) (nc_agg (cs := [.int .i64 x11.2, .bool false, .bool true, .nils]) (ds := [.int .i64 x11.2, .bool false, .bool true, .vs 2 (Wa T_Point.enc ([] : List T_Point))]) rfl rfl ⟨nc_eq rfl, nc_eq rfl, nc_eq rfl, nc_nil rfl rfl, trivial⟩)) rfl ?_
    refine Va (Xj rfl) rfl ?_
    refine Vi (Xk (ps := [((n + 1), ⟨88, 2, [.agg [.vs 1 (Wa (Wb .u8) x13.1.l), .int .i64 x13.1.at_]], 0⟩)]) (r := .int .i64 x13.2) (os := []) (low1 := low) (loc1 := [⟨31, 4, [.agg [.nils, .nils, .nils, .nils]], 0⟩, ⟨88, 2, [.agg [.vs 1 (Wa (Wb .u8) x13.1.l), .int .i64 x13.1.at_]], 0⟩, ⟨31, 4, [.agg [.vs 2 (Wa T_Place.enc x3.2.1.Mine.Places), .vs 10 (Wa T_Road.enc x3.2.1.Mine.Roads), .vs 4 (Wa T_Fan.enc x3.2.1.Fans), .vs 3 (Wa T_Door.enc x3.2.1.Doors)]], 0⟩, ⟨62, 2, [.agg [.vs 1 (Wa (Wb .i64) x3.2.2.1.Fans), .vs 1 (Wa (Wb .i64) x3.2.2.1.Doors)]], 0⟩, ⟨64, 2, [.agg [.vs 1 (Wa (Wb .i64) x3.2.2.2.Pressures), .vs 1 (Wa (Wb .i64) x3.2.2.2.Flows)]], 0⟩, ⟨48, 2, Wa T_Place.enc x9.2.Places, 0⟩, ⟨46, 10, Wa T_Road.enc x9.2.Roads, 0⟩]) (loc2 := [⟨31, 4, [.agg [.nils, .nils, .nils, .nils]], 0⟩, ⟨88, 2, [.agg [.vs 1 (Wa (Wb .u8) x13.1.l), .int .i64 x13.1.at_]], 0⟩, ⟨31, 4, [.agg [.vs 2 (Wa T_Place.enc x3.2.1.Mine.Places), .vs 10 (Wa T_Road.enc x3.2.1.Mine.Roads), .vs 4 (Wa T_Fan.enc x3.2.1.Fans), .vs 3 (Wa T_Door.enc x3.2.1.Doors)]], 0⟩, ⟨62, 2, [.agg [.vs 1 (Wa (Wb .i64) x3.2.2.1.Fans), .vs 1 (Wa (Wb .i64) x3.2.2.1.Doors)]], 0⟩, ⟨64, 2, [.agg [.vs 1 (Wa (Wb .i64) x3.2.2.2.Pressures), .vs 1 (Wa (Wb .i64) x3.2.2.2.Flows)]], 0⟩, ⟨48, 2, Wa T_Place.enc x9.2.Places, 0⟩, ⟨46, 10, Wa T_Road.enc x9.2.Roads, 0⟩]) rfl Try.call27 (F_draw_Codes_Next_ok h14 (nd1 na0 nd0) (get_N hn rfl) (Xv hn rfl)) (sets_own (loc2 := [⟨31, 4, [.agg [.nils, .nils, .nils, .nils]], 0⟩, ⟨88, 2, [.agg [.vs 1 (Wa (Wb .u8) x13.1.l), .int .i64 x13.1.at_]], 0⟩, ⟨31, 4, [.agg [.vs 2 (Wa T_Place.enc x3.2.1.Mine.Places), .vs 10 (Wa T_Road.enc x3.2.1.Mine.Roads), .vs 4 (Wa T_Fan.enc x3.2.1.Fans), .vs 3 (Wa T_Door.enc x3.2.1.Doors)]], 0⟩, ⟨62, 2, [.agg [.vs 1 (Wa (Wb .i64) x3.2.2.1.Fans), .vs 1 (Wa (Wb .i64) x3.2.2.1.Doors)]], 0⟩, ⟨64, 2, [.agg [.vs 1 (Wa (Wb .i64) x3.2.2.2.Pressures), .vs 1 (Wa (Wb .i64) x3.2.2.2.Flows)]], 0⟩, ⟨48, 2, Wa T_Place.enc x9.2.Places, 0⟩, ⟨46, 10, Wa T_Road.enc x9.2.Roads, 0⟩]) hn 1 rfl Xq) rfl) rfl ?_
    refine Va (rd_nc (Yf (vs := [(0, .int .i64 x13.2)]) (ds := [.int .i64 x13.2, .bool false, .bool false, .nils]) tz_72 rfl rfl tp_72 ⟨rfl, rfl, trivial⟩ (Yl rfl) rfl) (nc_agg (cs := [.int .i64 x13.2, .bool false, .bool false, .nils]) (ds := [.int .i64 x13.2, .bool false, .bool false, .vs 2 (Wa T_Point.enc ([] : List T_Point))]) rfl rfl ⟨nc_eq rfl, nc_eq rfl, nc_eq rfl, nc_nil rfl rfl, trivial⟩)) rfl ?_
    refine Vi (Yt (es := Wa T_Fan.enc [(T_Fan.mk x11.2 false true ([] : List T_Point)), (T_Fan.mk x13.2 false false ([] : List T_Point))]) ⟨rfl, rfl, rfl, rfl, trivial⟩ rfl rfl (Zg rfl) te_28 ts_72 tz_72 rfl rfl (Wf _) (by decide) (Ym T_Fan.enc_lt)) rfl ?_
    refine Va (rd_nc (Yf (vs := [(0, .agg [.sl (n + 5) 0 0 (x9.2.Places).length, .sl (n + 6) 0 0 (x9.2.Roads).length]), (1, .vs 4 (Wa T_Fan.enc [(T_Fan.mk x11.2 false true ([] : List T_Point)), (T_Fan.mk x13.2 false false ([] : List T_Point))]))]) (ds := [.sl (n + 5) 0 0 (x9.2.Places).length, .sl (n + 6) 0 0 (x9.2.Roads).length, .vs 4 (Wa T_Fan.enc [(T_Fan.mk x11.2 false true ([] : List T_Point)), (T_Fan.mk x13.2 false false ([] : List T_Point))]), .nils]) tz_31 rfl rfl tp_31 ⟨rfl, rfl, rfl, rfl, trivial⟩ (Yl rfl) rfl) (nc_agg (cs := [.sl (n + 5) 0 0 (x9.2.Places).length, .sl (n + 6) 0 0 (x9.2.Roads).length, .vs 4 (Wa T_Fan.enc [(T_Fan.mk x11.2 false true ([] : List T_Point)), (T_Fan.mk x13.2 false false ([] : List T_Point))]), .nils]) (ds := [.sl (n + 5) 0 0 (x9.2.Places).length, .sl (n + 6) 0 0 (x9.2.Roads).length, .vs 4 (Wa T_Fan.enc [(T_Fan.mk x11.2 false true ([] : List T_Point)), (T_Fan.mk x13.2 false false ([] : List T_Point))]), .vs 3 (Wa T_Door.enc ([] : List T_Door))]) rfl rfl ⟨nc_eq rfl, nc_eq rfl, nc_eq rfl, nc_nil rfl rfl, trivial⟩)) rfl ?_
    refine Vi (Xb (p := .agg [.sl (n + 5) 0 0 (x9.2.Places).length, .sl (n + 6) 0 0 (x9.2.Roads).length, .vs 4 (Wa T_Fan.enc [(T_Fan.mk x11.2 false true ([] : List T_Point)), (T_Fan.mk x13.2 false false ([] : List T_Point))]), .vs 3 (Wa T_Door.enc ([] : List T_Door))]) (e' := .agg [.sl (n + 5) 0 0 (x9.2.Places).length, .sl (n + 6) 0 0 (x9.2.Roads).length, .vs 4 (Wa T_Fan.enc [(T_Fan.mk x11.2 false true ([] : List T_Point)), (T_Fan.mk x13.2 false false ([] : List T_Point))]), .vs 3 (Wa T_Door.enc ([] : List T_Door))]) rfl (Vg hn rfl) rfl rfl ts_31 rfl (Yn rfl) rfl (We rfl) rfl (Xn hn rfl)) rfl ?_
    refine Ve ?_
    refine Vf ?_
    refine Vd ?_
    refine Va (Vb rfl tf_64_1 ts_32 (by decide)) rfl ?_
    refine Vi (Xb (p := .nils) (e' := .agg [.vs 1 (Wa (Wb .i64) x3.2.2.2.Pressures), .nils]) rfl (Vg hn rfl) rfl rfl ts_32 rfl (Yn rfl) rfl (We rfl) rfl (Xn hn rfl)) rfl ?_
    refine Ve ?_
    refine Vf ?_
    refine Vd ?_
    refine Va (Vb rfl tf_31_0 ts_27 (by decide)) rfl ?_
    refine Va (Vb rfl tf_27_1 ts_25 (by decide)) rfl ?_
    refine Va (Vh rfl (Vg hn rfl) rfl ta_25 rfl) rfl ?_
    refine Va (rd_lenS rfl (Vg hn rfl) rfl rfl te_25) rfl ?_
    refine Va (Vk rfl) rfl ?_
    refine Ve ?_
    refine Xa ?_
    obtain ⟨o16, ho16, hF⟩ := Ya hF
    refine Vo (Yk (F_law14_air_L1 x9) (fun s15 E' lw lc => Xr E' lw lc [(2, .ptr (n + 0) 0 0 0), (5, .ptr (n + 1) 0 0 0), (6, .ptr (n + 2) 0 0 0), (8, .ptr (n + 3) 0 0 0), (33, .int .i64 ((x9.2.Roads).length : Int)), (34, .int .i64 s15.1)] low [⟨31, 4, [.agg [.nils, .nils, .nils, .nils]], 0⟩, ⟨88, 2, [.agg [.vs 1 (Wa (Wb .u8) s15.2.1.l), .int .i64 s15.2.1.at_]], 0⟩, ⟨31, 4, [.agg [.vs 2 (Wa T_Place.enc s15.2.2.1.Mine.Places), .sl (n + 4) 0 0 (s15.2.2.1.Mine.Roads).length, .vs 4 (Wa T_Fan.enc s15.2.2.1.Fans), .vs 3 (Wa T_Door.enc s15.2.2.1.Doors)]], 0⟩, ⟨64, 2, [.agg [.vs 1 (Wa (Wb .i64) x3.2.2.2.Pressures), .sl (n + 5) 0 0 (s15.2.2.2).length]], 0⟩, ⟨46, 10, Wa T_Road.enc s15.2.2.1.Mine.Roads, 0⟩, ⟨3, 1, Wa (Wb .i64) s15.2.2.2, 0⟩]) (fun o16 => OnlyE (.exit 0) (fun E' lw lc => Xr E' lw lc [(2, .ptr (n + 0) 0 0 0), (5, .ptr (n + 1) 0 0 0), (6, .ptr (n + 2) 0 0 0), (8, .ptr (n + 3) 0 0 0)] low [⟨31, 4, [.agg [.nils, .nils, .nils, .nils]], 0⟩, ⟨88, 2, [.agg [.vs 1 (Wa (Wb .u8) o16.1.l), .int .i64 o16.1.at_]], 0⟩, ⟨31, 4, [.agg [.vs 2 (Wa T_Place.enc o16.2.1.Mine.Places), .sl (n + 4) 0 0 (o16.2.1.Mine.Roads).length, .vs 4 (Wa T_Fan.enc o16.2.1.Fans), .vs 3 (Wa T_Door.enc o16.2.1.Doors)]], 0⟩, ⟨64, 2, [.agg [.vs 1 (Wa (Wb .i64) x3.2.2.2.Pressures), .sl (n + 5) 0 0 (o16.2.2).length]], 0⟩, ⟨46, 10, Wa T_Road.enc o16.2.1.Mine.Roads, 0⟩, ⟨3, 1, Wa (Wb .i64) o16.2.2, 0⟩])) ho16 ?_ (by rintro _ _ _ _ ⟨h, _⟩ <;> cases h) ?_) ?_
    ·refine Weak.trans (weak_nil (E' := [(2, .ptr (n + 0) 0 0 0), (5, .ptr (n + 1) 0 0 0), (6, .ptr (n + 2) 0 0 0), (8, .ptr (n + 4) 0 0 0), (33, .int .i64 ((x9.2.Roads).length : Int)), (34, .int .i64 0)]) (loc1 := [⟨31, 4, [.agg [.nils, .nils, .nils, .nils]], 0⟩, ⟨88, 2, [.agg [.vs 1 (Wa (Wb .u8) x13.1.l), .int .i64 x13.1.at_]], 0⟩, ⟨31, 4, [.agg [.sl (n + 5) 0 0 (x9.2.Places).length, .sl (n + 6) 0 0 (x9.2.Roads).length, .vs 4 (Wa T_Fan.enc [(T_Fan.mk x11.2 false true ([] : List T_Point)), (T_Fan.mk x13.2 false false ([] : List T_Point))]), .vs 3 (Wa T_Door.enc ([] : List T_Door))]], 0⟩, ⟨62, 2, [.agg [.vs 1 (Wa (Wb .i64) x3.2.2.1.Fans), .vs 1 (Wa (Wb .i64) x3.2.2.1.Doors)]], 0⟩, ⟨64, 2, [.agg [.vs 1 (Wa (Wb .i64) x3.2.2.2.Pressures), .sl (n + 7) 0 0 (([] : List Int)).length]], 0⟩, ⟨48, 2, Wa T_Place.enc x9.2.Places, 0⟩, ⟨46, 10, Wa T_Road.enc x9.2.Roads, 0⟩]) hn rfl 3 1 (Wf _) ⟨Xf rfl, Xf rfl, Xf rfl, Xf rfl, Xf rfl, Xf rfl, trivial⟩ ⟨.same _, .same _, .same _, .same _, .agg _ _ _ _ _ ⟨Xf rfl, nn_nil rfl, trivial⟩, .same _, .same _, trivial⟩) ?_
     refine Weak.trans (Ys (E' := [(2, .ptr (n + 0) 0 0 0), (5, .ptr (n + 1) 0 0 0), (6, .ptr (n + 2) 0 0 0), (8, .ptr (n + 4) 0 0 0), (33, .int .i64 ((x9.2.Roads).length : Int)), (34, .int .i64 0)]) (loc1 := [⟨31, 4, [.agg [.nils, .nils, .nils, .nils]], 0⟩, ⟨88, 2, [.agg [.vs 1 (Wa (Wb .u8) x13.1.l), .int .i64 x13.1.at_]], 0⟩, ⟨31, 4, [.agg [.vs 2 (Wa T_Place.enc x9.2.Places), .sl (n + 6) 0 0 (x9.2.Roads).length, .vs 4 (Wa T_Fan.enc [(T_Fan.mk x11.2 false true ([] : List T_Point)), (T_Fan.mk x13.2 false false ([] : List T_Point))]), .vs 3 (Wa T_Door.enc ([] : List T_Door))]], 0⟩, ⟨62, 2, [.agg [.vs 1 (Wa (Wb .i64) x3.2.2.1.Fans), .vs 1 (Wa (Wb .i64) x3.2.2.1.Doors)]], 0⟩, ⟨64, 2, [.agg [.vs 1 (Wa (Wb .i64) x3.2.2.2.Pressures), .sl (n + 7) 0 0 (([] : List Int)).length]], 0⟩, ⟨48, 2, [], 0 + 1⟩, ⟨46, 10, Wa T_Road.enc x9.2.Roads, 0⟩, ⟨3, 1, Wa (Wb .i64) ([] : List Int), 0⟩]) hn 5 rfl (Ym T_Place.enc_lt) ⟨Vt rfl, Vt rfl, Vt rfl, Vt rfl, Vt rfl, Vt rfl, trivial⟩ ⟨.refl _, .refl _, cvo_agg ⟨cv_sl rfl rfl rfl (Zb rfl), Vt rfl, Vt rfl, Vt rfl, trivial⟩, .refl _, .refl _, .refl _, .refl _, .refl _, trivial⟩) ?_
     exact Vm hn [(0, 0), (1, 0), (2, 0), (4, 0), (6, 0), (7, 0)] (by decide) ⟨Vu 0 0 rfl rfl, Vu 1 1 rfl rfl, Vu 2 2 rfl rfl, Vu 3 4 rfl rfl, Vj rfl (.int _ _), Vj rfl (.int _ _), trivial⟩ ⟨⟨_, rfl, rfl, .same _ _ _ _ (Vq ⟨Vp ⟨.nils, .nils, .nils, .nils, trivial⟩, trivial⟩)⟩, ⟨_, rfl, rfl, .same _ _ _ _ (Vq ⟨Vp ⟨.vs _ _, .int _ _, trivial⟩, trivial⟩)⟩, ⟨_, rfl, rfl, .agg _ _ _ _ _ ⟨Vj rfl (.vs _ _), Xx 4 6 rfl rfl, Vj rfl (.vs _ _), Vj rfl (.vs _ _), trivial⟩⟩, ⟨_, rfl, rfl, .agg _ _ _ _ _ ⟨Vj rfl (.vs _ _), Xx 5 7 rfl rfl, trivial⟩⟩, ⟨_, rfl, rfl, .same _ _ _ _ (Vs T_Road.enc_lt)⟩, ⟨_, rfl, rfl, .same _ _ _ _ (Vq trivial)⟩, trivial⟩
    ·rintro s15 os15 _ _ _ hF hw
     unfold F_law14_air_L1 at hF
     refine Yd hw ?_
     refine Vf ?_
     refine Vd ?_
     refine Va (Yh rfl rfl) rfl ?_
     refine Ve ?_
     refine Vf ?_
     refine Xd rfl (fun c17 => ?_) (fun c17 => ?_)
     ·have hF := Yi c17 hF
      refine Xe ?_
      refine Vf ?_
      refine Xa ?_
      obtain ⟨x18, h19, hF⟩ := Ya hF
      obtain ⟨x20, h21, hF⟩ := Ya hF
      refine Zj [[], [0], [], [2], [2, 3], [0, 1, 2, 3, 4], [0, 1, 2, 3, 4, 5], [0, 1, 2, 3, 4, 5, 6]] [false, false, false, true, false, true, false, true] [(low, [⟨31, 4, [.agg [.nils, .nils, .nils, .nils]], 0⟩, ⟨88, 2, [.agg [.vs 1 (Wa (Wb .u8) s15.2.1.l), .int .i64 s15.2.1.at_]], 0⟩, ⟨31, 4, [.agg [.vs 2 (Wa T_Place.enc s15.2.2.1.Mine.Places), .sl (n + 4) 0 0 (s15.2.2.1.Mine.Roads).length, .vs 4 (Wa T_Fan.enc s15.2.2.1.Fans), .vs 3 (Wa T_Door.enc s15.2.2.1.Doors)]], 0⟩, ⟨64, 2, [.agg [.vs 1 (Wa (Wb .i64) x3.2.2.2.Pressures), .sl (n + 5) 0 0 (s15.2.2.2).length]], 0⟩, ⟨46, 10, Wa T_Road.enc s15.2.2.1.Mine.Roads, 0⟩, ⟨3, 1, Wa (Wb .i64) s15.2.2.2, 0⟩]), (low, [⟨31, 4, [.agg [.nils, .nils, .nils, .nils]], 0⟩, ⟨88, 2, [.agg [.vs 1 (Wa (Wb .u8) x18.1.l), .int .i64 x18.1.at_]], 0⟩, ⟨31, 4, [.agg [.vs 2 (Wa T_Place.enc s15.2.2.1.Mine.Places), .sl (n + 4) 0 0 (s15.2.2.1.Mine.Roads).length, .vs 4 (Wa T_Fan.enc s15.2.2.1.Fans), .vs 3 (Wa T_Door.enc s15.2.2.1.Doors)]], 0⟩, ⟨64, 2, [.agg [.vs 1 (Wa (Wb .i64) x3.2.2.2.Pressures), .sl (n + 5) 0 0 (s15.2.2.2).length]], 0⟩, ⟨46, 10, Wa T_Road.enc s15.2.2.1.Mine.Roads, 0⟩, ⟨3, 1, Wa (Wb .i64) s15.2.2.2, 0⟩]), (low, [⟨31, 4, [.agg [.nils, .nils, .nils, .nils]], 0⟩, ⟨88, 2, [.agg [.vs 1 (Wa (Wb .u8) x18.1.l), .int .i64 x18.1.at_]], 0⟩, ⟨31, 4, [.agg [.vs 2 (Wa T_Place.enc s15.2.2.1.Mine.Places), .sl (n + 4) 0 0 (s15.2.2.1.Mine.Roads).length, .vs 4 (Wa T_Fan.enc s15.2.2.1.Fans), .vs 3 (Wa T_Door.enc s15.2.2.1.Doors)]], 0⟩, ⟨64, 2, [.agg [.vs 1 (Wa (Wb .i64) x3.2.2.2.Pressures), .sl (n + 5) 0 0 (s15.2.2.2).length]], 0⟩, ⟨46, 10, Wa T_Road.enc s15.2.2.1.Mine.Roads, 0⟩, ⟨3, 1, Wa (Wb .i64) x20, 0 + 1⟩]), (low, [⟨31, 4, [.agg [.nils, .nils, .nils, .nils]], 0⟩, ⟨88, 2, [.agg [.vs 1 (Wa (Wb .u8) x18.1.l), .int .i64 x18.1.at_]], 0⟩, ⟨31, 4, [.agg [.vs 2 (Wa T_Place.enc s15.2.2.1.Mine.Places), .sl (n + 4) 0 0 (s15.2.2.1.Mine.Roads).length, .vs 4 (Wa T_Fan.enc s15.2.2.1.Fans), .vs 3 (Wa T_Door.enc s15.2.2.1.Doors)]], 0⟩, ⟨64, 2, [.agg [.vs 1 (Wa (Wb .i64) x3.2.2.2.Pressures), .sl (n + 5) (0 + 1) 0 (x20).length]], 0⟩, ⟨46, 10, Wa T_Road.enc s15.2.2.1.Mine.Roads, 0⟩, ⟨3, 1, Wa (Wb .i64) x20, 0 + 1⟩])] mixed (by kernel_rfl) rfl (lenAll (Vv rfl (Vv rfl (Vv rfl (Vv rfl Yy))))) rfl _ rfl rfl ?_
      refine Xc _ rfl rfl (Vv (VRd.ntl (Vb rfl tf_64_1 ts_32 (by decide))) (Vv (VRd.ntl (Vb rfl tf_64_1 ts_32 (by decide))) Yy)) ?_
      refine Xc _ rfl rfl (Vv (VRd.ntl (Vh rfl (Vg hn rfl) rfl ta_32 rfl)) (Vv (VRd.ntl (Vh rfl (Vg hn rfl) rfl ta_32 rfl)) Yy)) ?_
      refine Xu rfl rfl (Xj rfl) ?_
      refine Yb rfl rfl rfl (Xk (ps := [((n + 1), ⟨88, 2, [.agg [.vs 1 (Wa (Wb .u8) x18.1.l), .int .i64 x18.1.at_]], 0⟩)]) (r := .int .i64 x18.2) (os := []) (low1 := low) (loc1 := [⟨31, 4, [.agg [.nils, .nils, .nils, .nils]], 0⟩, ⟨88, 2, [.agg [.vs 1 (Wa (Wb .u8) x18.1.l), .int .i64 x18.1.at_]], 0⟩, ⟨31, 4, [.agg [.vs 2 (Wa T_Place.enc s15.2.2.1.Mine.Places), .sl (n + 4) 0 0 (s15.2.2.1.Mine.Roads).length, .vs 4 (Wa T_Fan.enc s15.2.2.1.Fans), .vs 3 (Wa T_Door.enc s15.2.2.1.Doors)]], 0⟩, ⟨64, 2, [.agg [.vs 1 (Wa (Wb .i64) x3.2.2.2.Pressures), .sl (n + 5) 0 0 (s15.2.2.2).length]], 0⟩, ⟨46, 10, Wa T_Road.enc s15.2.2.1.Mine.Roads, 0⟩, ⟨3, 1, Wa (Wb .i64) s15.2.2.2, 0⟩]) (loc2 := [⟨31, 4, [.agg [.nils, .nils, .nils, .nils]], 0⟩, ⟨88, 2, [.agg [.vs 1 (Wa (Wb .u8) x18.1.l), .int .i64 x18.1.at_]], 0⟩, ⟨31, 4, [.agg [.vs 2 (Wa T_Place.enc s15.2.2.1.Mine.Places), .sl (n + 4) 0 0 (s15.2.2.1.Mine.Roads).length, .vs 4 (Wa T_Fan.enc s15.2.2.1.Fans), .vs 3 (Wa T_Door.enc s15.2.2.1.Doors)]], 0⟩, ⟨64, 2, [.agg [.vs 1 (Wa (Wb .i64) x3.2.2.2.Pressures), .sl (n + 5) 0 0 (s15.2.2.2).length]], 0⟩, ⟨46, 10, Wa T_Road.enc s15.2.2.1.Mine.Roads, 0⟩, ⟨3, 1, Wa (Wb .i64) s15.2.2.2, 0⟩]) rfl Try.call28 (F_draw_Codes_Range_ok h19 (nd1 na0 nd0) (get_N hn rfl) (Xv hn rfl)) (sets_own (loc2 := [⟨31, 4, [.agg [.nils, .nils, .nils, .nils]], 0⟩, ⟨88, 2, [.agg [.vs 1 (Wa (Wb .u8) x18.1.l), .int .i64 x18.1.at_]], 0⟩, ⟨31, 4, [.agg [.vs 2 (Wa T_Place.enc s15.2.2.1.Mine.Places), .sl (n + 4) 0 0 (s15.2.2.1.Mine.Roads).length, .vs 4 (Wa T_Fan.enc s15.2.2.1.Fans), .vs 3 (Wa T_Door.enc s15.2.2.1.Doors)]], 0⟩, ⟨64, 2, [.agg [.vs 1 (Wa (Wb .i64) x3.2.2.2.Pressures), .sl (n + 5) 0 0 (s15.2.2.2).length]], 0⟩, ⟨46, 10, Wa T_Road.enc s15.2.2.1.Mine.Roads, 0⟩, ⟨3, 1, Wa (Wb .i64) s15.2.2.2, 0⟩]) hn 1 rfl Xq) rfl) ?_
      refine dn1 rfl rfl (Zz (Yt (es := Wa (Wb .i64) [x18.2]) ⟨rfl, rfl, trivial⟩ rfl rfl (Zg rfl) te_32 ts_3 tz_3 rfl rfl (Wf _) (by decide) (Ym (fun _ => .int _ _)))) ?_
      refine Yb rfl rfl rfl (Zu (f := (Wb .i64)) (l := s15.2.2.2) (ys := [x18.2]) rfl rfl (Vg hn rfl) rfl (Zx rfl) te_32 ts_3 tb_3 (by decide) tz_3 rfl h21 (Xn hn rfl)) ?_
      refine Xu rfl rfl (Vb rfl tf_64_1 ts_32 (by decide)) ?_
      refine Yb rfl rfl rfl (Xb (p := .sl (n + 5) (0 + 1) 0 (x20).length) (e' := .agg [.vs 1 (Wa (Wb .i64) x3.2.2.2.Pressures), .sl (n + 5) (0 + 1) 0 (x20).length]) rfl (Vg hn rfl) rfl rfl ts_32 rfl (Yn rfl) rfl (We rfl) rfl (Xn hn rfl)) ?_
      refine Yq ?_
      refine Vd ?_
      refine Va (Za rfl rfl rfl) rfl ?_
      refine Va (Vk rfl) rfl ?_
      refine Ve ?_
      obtain rfl := Wd hF
      refine Vz ?_
      exact Vm hn [(0, 0), (1, 0), (2, 0), (3, 0), (4, 0), (5, 0 + 1)] (by decide) ⟨Vu 0 0 rfl rfl, Vu 1 1 rfl rfl, Vu 2 2 rfl rfl, Vu 3 3 rfl rfl, Vj rfl (.int _ _), Vj rfl (.int _ _), trivial⟩ ⟨⟨_, rfl, rfl, .same _ _ _ _ (Vq ⟨Vp ⟨.nils, .nils, .nils, .nils, trivial⟩, trivial⟩)⟩, ⟨_, rfl, rfl, .same _ _ _ _ (Vq ⟨Vp ⟨.vs _ _, .int _ _, trivial⟩, trivial⟩)⟩, ⟨_, rfl, rfl, .agg _ _ _ _ _ ⟨Vj rfl (.vs _ _), Xx 4 4 rfl rfl, Vj rfl (.vs _ _), Vj rfl (.vs _ _), trivial⟩⟩, ⟨_, rfl, rfl, .agg _ _ _ _ _ ⟨Vj rfl (.vs _ _), Xx 5 5 rfl rfl, trivial⟩⟩, ⟨_, rfl, rfl, .same _ _ _ _ (Vs T_Road.enc_lt)⟩, ⟨_, rfl, rfl, .same _ _ _ _ (Vs (fun _ => .int _ _))⟩, trivial⟩
     ·have hF := Yj c17 hF
      refine Yr ?_
      obtain rfl := Wd hF
      refine Vz ?_
      exact Vl ⟨rfl, rfl, rfl, rfl, trivial⟩
    ·rintro _ _ _ _ ⟨rfl, hw⟩
     refine ⟨_, _, _, hw, ?_⟩
     obtain rfl := Wd hF
     refine Vz ?_
     refine Weak.trans (Ys (E' := [(2, .ptr (n + 0) 0 0 0), (5, .ptr (n + 1) 0 0 0), (6, .ptr (n + 2) 0 0 0), (8, .ptr (n + 3) 0 0 0)]) (loc1 := [⟨31, 4, [.agg [.nils, .nils, .nils, .nils]], 0⟩, ⟨88, 2, [.agg [.vs 1 (Wa (Wb .u8) o16.1.l), .int .i64 o16.1.at_]], 0⟩, ⟨31, 4, [.agg [.vs 2 (Wa T_Place.enc o16.2.1.Mine.Places), .vs 10 (Wa T_Road.enc o16.2.1.Mine.Roads), .vs 4 (Wa T_Fan.enc o16.2.1.Fans), .vs 3 (Wa T_Door.enc o16.2.1.Doors)]], 0⟩, ⟨64, 2, [.agg [.vs 1 (Wa (Wb .i64) x3.2.2.2.Pressures), .sl (n + 5) 0 0 (o16.2.2).length]], 0⟩, ⟨46, 10, [], 0 + 1⟩, ⟨3, 1, Wa (Wb .i64) o16.2.2, 0⟩]) hn 4 rfl (Ym T_Road.enc_lt) ⟨Vt rfl, Vt rfl, Vt rfl, Vt rfl, trivial⟩ ⟨.refl _, .refl _, cvo_agg ⟨Vt rfl, cv_sl rfl rfl rfl (Zb rfl), Vt rfl, Vt rfl, trivial⟩, .refl _, .refl _, .refl _, trivial⟩) ?_
     refine Weak.trans (Ys (E' := [(2, .ptr (n + 0) 0 0 0), (5, .ptr (n + 1) 0 0 0), (6, .ptr (n + 2) 0 0 0), (8, .ptr (n + 3) 0 0 0)]) (loc1 := [⟨31, 4, [.agg [.nils, .nils, .nils, .nils]], 0⟩, ⟨88, 2, [.agg [.vs 1 (Wa (Wb .u8) o16.1.l), .int .i64 o16.1.at_]], 0⟩, ⟨31, 4, [.agg [.vs 2 (Wa T_Place.enc o16.2.1.Mine.Places), .vs 10 (Wa T_Road.enc o16.2.1.Mine.Roads), .vs 4 (Wa T_Fan.enc o16.2.1.Fans), .vs 3 (Wa T_Door.enc o16.2.1.Doors)]], 0⟩, ⟨64, 2, [.agg [.vs 1 (Wa (Wb .i64) x3.2.2.2.Pressures), .vs 1 (Wa (Wb .i64) o16.2.2)]], 0⟩, ⟨46, 10, [], 0 + 1⟩, ⟨3, 1, [], 0 + 1⟩]) hn 5 rfl (Ym (fun _ => .int _ _)) ⟨Vt rfl, Vt rfl, Vt rfl, Vt rfl, trivial⟩ ⟨.refl _, .refl _, .refl _, cvo_agg ⟨Vt rfl, cv_sl rfl rfl rfl (Zb rfl), trivial⟩, .refl _, .refl _, trivial⟩) ?_
     exact Vm hn [(0, 0), (1, 0), (2, 0), (3, 0)] (by decide) ⟨Vu 0 0 rfl rfl, Vu 1 1 rfl rfl, Vu 2 2 rfl rfl, Vu 3 3 rfl rfl, trivial⟩ ⟨⟨_, rfl, rfl, .same _ _ _ _ (Vq ⟨Vp ⟨.nils, .nils, .nils, .nils, trivial⟩, trivial⟩)⟩, ⟨_, rfl, rfl, .same _ _ _ _ (Vq ⟨Vp ⟨.vs _ _, .int _ _, trivial⟩, trivial⟩)⟩, ⟨_, rfl, rfl, .agg _ _ _ _ _ ⟨Vj rfl (.vs _ _), Vj rfl (.vs _ _), Vj rfl (.vs _ _), Vj rfl (.vs _ _), trivial⟩⟩, ⟨_, rfl, rfl, .agg _ _ _ _ _ ⟨Vj rfl (.vs _ _), Vj rfl (.vs _ _), trivial⟩⟩, trivial⟩
   ·have hF := Yj c8 hF
    refine Xe ?_
    obtain rfl := Wd hF
    refine Vz ?_
    exact Vm hn [(0, 0), (1, 0), (2, 0), (4, 0)] (by decide) ⟨Vu 0 0 rfl rfl, Vu 1 1 rfl rfl, Vu 2 2 rfl rfl, Vu 3 4 rfl rfl, trivial⟩ ⟨⟨_, rfl, rfl, .same _ _ _ _ (Vq ⟨Vp ⟨.nils, .nils, .nils, .nils, trivial⟩, trivial⟩)⟩, ⟨_, rfl, rfl, .same _ _ _ _ (Vq ⟨Vp ⟨.vs _ _, .int _ _, trivial⟩, trivial⟩)⟩, ⟨_, rfl, rfl, .agg _ _ _ _ _ ⟨Vj rfl (.vs _ _), Vj rfl (.vs _ _), Vj rfl (.vs _ _), Vj rfl (.vs _ _), trivial⟩⟩, ⟨_, rfl, rfl, .agg _ _ _ _ _ ⟨Vj rfl (.vs _ _), Vj rfl (.vs _ _), trivial⟩⟩, trivial⟩
  ·rintro _ _ _ _ ⟨rfl, hw⟩
   refine ⟨_, _, _, hw, ?_⟩
   refine Vf ?_
   obtain ⟨x22, h23, hF⟩ := Ya hF
   refine Zj [[], [], [], [2], [1, 2, 3], [], [5], [0, 1, 2, 3, 4], [0, 1, 2, 3, 4, 7], [0, 1, 2, 3, 4, 5, 6, 7, 8]] [false, false, false, false, true, false, false, true, false, false] [(low, [⟨31, 4, [.agg [.nils, .nils, .nils, .nils]], 0⟩, ⟨88, 2, [.agg [.vs 1 (Wa (Wb .u8) o7.1.l), .int .i64 o7.1.at_]], 0⟩, ⟨31, 4, [.agg [.vs 2 (Wa T_Place.enc o7.2.1.Mine.Places), .vs 10 (Wa T_Road.enc o7.2.1.Mine.Roads), .vs 4 (Wa T_Fan.enc o7.2.1.Fans), .vs 3 (Wa T_Door.enc o7.2.1.Doors)]], 0⟩, ⟨64, 2, [.agg [.vs 1 (Wa (Wb .i64) x3.2.2.2.Pressures), .vs 1 (Wa (Wb .i64) o7.2.2)]], 0⟩]), (low, [⟨31, 4, [.agg [.nils, .nils, .nils, .nils]], 0⟩, ⟨88, 2, [.agg [.vs 1 (Wa (Wb .u8) x22.1.l), .int .i64 x22.1.at_]], 0⟩, ⟨31, 4, [.agg [.vs 2 (Wa T_Place.enc o7.2.1.Mine.Places), .vs 10 (Wa T_Road.enc o7.2.1.Mine.Roads), .vs 4 (Wa T_Fan.enc o7.2.1.Fans), .vs 3 (Wa T_Door.enc o7.2.1.Doors)]], 0⟩, ⟨64, 2, [.agg [.vs 1 (Wa (Wb .i64) x3.2.2.2.Pressures), .vs 1 (Wa (Wb .i64) o7.2.2)]], 0⟩]), (low, [⟨31, 4, [.agg [.vs 2 (Wa T_Place.enc o7.2.1.Mine.Places), .vs 10 (Wa T_Road.enc o7.2.1.Mine.Roads), .vs 4 (Wa T_Fan.enc o7.2.1.Fans), .vs 3 (Wa T_Door.enc o7.2.1.Doors)]], 0⟩, ⟨88, 2, [.agg [.vs 1 (Wa (Wb .u8) x22.1.l), .int .i64 x22.1.at_]], 0⟩, ⟨31, 4, [.agg [.vs 2 (Wa T_Place.enc o7.2.1.Mine.Places), .vs 10 (Wa T_Road.enc o7.2.1.Mine.Roads), .vs 4 (Wa T_Fan.enc o7.2.1.Fans), .vs 3 (Wa T_Door.enc o7.2.1.Doors)]], 0⟩, ⟨64, 2, [.agg [.vs 1 (Wa (Wb .i64) x3.2.2.2.Pressures), .vs 1 (Wa (Wb .i64) o7.2.2)]], 0⟩])] mixed (by kernel_rfl) rfl (lenAll (Vv rfl (Vv rfl (Vv rfl Yy)))) rfl _ rfl rfl ?_
   refine Xc _ rfl rfl (Vv (VRd.ntl (Vy (ds := [.vs 2 (Wa T_Place.enc o7.2.1.Mine.Places), .vs 10 (Wa T_Road.enc o7.2.1.Mine.Roads), .vs 4 (Wa T_Fan.enc o7.2.1.Fans), .vs 3 (Wa T_Door.enc o7.2.1.Doors)]) rfl (Vg hn rfl) rfl ta_31 ts_31 rfl rfl rfl)) (Vv (VRd.ntl (Vy (ds := [.vs 2 (Wa T_Place.enc o7.2.1.Mine.Places), .vs 10 (Wa T_Road.enc o7.2.1.Mine.Roads), .vs 4 (Wa T_Fan.enc o7.2.1.Fans), .vs 3 (Wa T_Door.enc o7.2.1.Doors)]) rfl (Vg hn rfl) rfl ta_31 ts_31 rfl rfl rfl)) Yy)) ?_
   refine Xu rfl rfl (Xj rfl) ?_
   refine Xu rfl rfl (Vb rfl tf_64_1 ts_32 (by decide)) ?_
   refine Xu rfl rfl (Vh rfl (Vg hn rfl) rfl ta_32 rfl) ?_
   refine Yb rfl rfl rfl (Xk (ps := [((n + 1), ⟨88, 2, [.agg [.vs 1 (Wa (Wb .u8) x22.1.l), .int .i64 x22.1.at_]], 0⟩)]) (r := .vs 2 (Wa T_Span.enc x22.2)) (os := []) (low1 := low) (loc1 := [⟨31, 4, [.agg [.nils, .nils, .nils, .nils]], 0⟩, ⟨88, 2, [.agg [.vs 1 (Wa (Wb .u8) x22.1.l), .int .i64 x22.1.at_]], 0⟩, ⟨31, 4, [.agg [.vs 2 (Wa T_Place.enc o7.2.1.Mine.Places), .vs 10 (Wa T_Road.enc o7.2.1.Mine.Roads), .vs 4 (Wa T_Fan.enc o7.2.1.Fans), .vs 3 (Wa T_Door.enc o7.2.1.Doors)]], 0⟩, ⟨64, 2, [.agg [.vs 1 (Wa (Wb .i64) x3.2.2.2.Pressures), .vs 1 (Wa (Wb .i64) o7.2.2)]], 0⟩]) (loc2 := [⟨31, 4, [.agg [.nils, .nils, .nils, .nils]], 0⟩, ⟨88, 2, [.agg [.vs 1 (Wa (Wb .u8) x22.1.l), .int .i64 x22.1.at_]], 0⟩, ⟨31, 4, [.agg [.vs 2 (Wa T_Place.enc o7.2.1.Mine.Places), .vs 10 (Wa T_Road.enc o7.2.1.Mine.Roads), .vs 4 (Wa T_Fan.enc o7.2.1.Fans), .vs 3 (Wa T_Door.enc o7.2.1.Doors)]], 0⟩, ⟨64, 2, [.agg [.vs 1 (Wa (Wb .i64) x3.2.2.2.Pressures), .vs 1 (Wa (Wb .i64) o7.2.2)]], 0⟩]) rfl Try.call29 (F_draw_Codes_Spans_ok h23 (nd1 na0 nd0) (get_N hn rfl) (Xv hn rfl)) (sets_own (loc2 := [⟨31, 4, [.agg [.nils, .nils, .nils, .nils]], 0⟩, ⟨88, 2, [.agg [.vs 1 (Wa (Wb .u8) x22.1.l), .int .i64 x22.1.at_]], 0⟩, ⟨31, 4, [.agg [.vs 2 (Wa T_Place.enc o7.2.1.Mine.Places), .vs 10 (Wa T_Road.enc o7.2.1.Mine.Roads), .vs 4 (Wa T_Fan.enc o7.2.1.Fans), .vs 3 (Wa T_Door.enc o7.2.1.Doors)]], 0⟩, ⟨64, 2, [.agg [.vs 1 (Wa (Wb .i64) x3.2.2.2.Pressures), .vs 1 (Wa (Wb .i64) o7.2.2)]], 0⟩]) hn 1 rfl Xq) rfl) ?_
   refine Xc _ rfl rfl (Vv (VRd.ntl (Vb rfl tf_64_1 ts_32 (by decide))) (Vv (VRd.ntl (Vb rfl tf_64_1 ts_32 (by decide))) (Vv (VRd.ntl (Vb rfl tf_64_1 ts_32 (by decide))) Yy))) ?_
   refine Xc _ rfl rfl (Vv (VRd.ntl (Vh rfl (Vg hn rfl) rfl ta_32 rfl)) (Vv (VRd.ntl (Vh rfl (Vg hn rfl) rfl ta_32 rfl)) (Vv (VRd.ntl (Vh rfl (Vg hn rfl) rfl ta_32 rfl)) Yy))) ?_
   refine Yb rfl rfl rfl (Xb (p := .agg [.vs 2 (Wa T_Place.enc o7.2.1.Mine.Places), .vs 10 (Wa T_Road.enc o7.2.1.Mine.Roads), .vs 4 (Wa T_Fan.enc o7.2.1.Fans), .vs 3 (Wa T_Door.enc o7.2.1.Doors)]) (e' := .agg [.vs 2 (Wa T_Place.enc o7.2.1.Mine.Places), .vs 10 (Wa T_Road.enc o7.2.1.Mine.Roads), .vs 4 (Wa T_Fan.enc o7.2.1.Fans), .vs 3 (Wa T_Door.enc o7.2.1.Doors)]) rfl (Vg hn rfl) rfl rfl ts_31 rfl (Yn rfl) rfl (We rfl) rfl (Xn hn rfl)) ?_
   refine Xu rfl rfl (rd_asV rfl) ?_
   refine Xu rfl rfl (rd_asV rfl) ?_
   refine Yq ?_
   refine Xt ?_
   obtain rfl := Wd hF
   refine fnR ?_
   exact Vm hn [(0, 0)] (by decide) ⟨Vu 0 0 rfl rfl, Vj rfl (.vs _ _), Vj rfl (.vs _ _), trivial⟩ ⟨⟨_, rfl, rfl, .same _ _ _ _ (Vq ⟨Vp ⟨.vs _ _, .vs _ _, .vs _ _, .vs _ _, trivial⟩, trivial⟩)⟩, trivial⟩
 ·rintro _ _ _ _ ⟨he, hw⟩
  refine ⟨_, _, _, hw, ?_⟩
  exact bodyQ_some hn 0 rfl (We rfl) he [.agg [.vs 2 (Wa T_Place.enc r.1.Mine.Places), .vs 10 (Wa T_Road.enc r.1.Mine.Roads), .vs 4 (Wa T_Fan.enc r.1.Fans), .vs 3 (Wa T_Door.enc r.1.Doors)], .vs 2 (Wa T_Span.enc r.2.1), .vs 1 (Wa (Wb .i64) r.2.2)] ⟨Vy rfl (Vg hn rfl) rfl ta_31 ts_31 rfl rfl rfl, rfl, rfl, trivial⟩ ((lt_tup ⟨(Vp ⟨.vs _ _, .vs _ _, .vs _ _, .vs _ _, trivial⟩), .vs _ _, .vs _ _, trivial⟩)) trivial ⟨rfl, rfl⟩

theorem F_plan_spanIn_ok {p0 : T_Span} {p1 : Int} {p2 : Int} {r : Bool} (hF : F_plan_spanIn p0 p1 p2 = some r) (low : List AObj) :
    Zd Try.prog 50 [.agg [.int .i64 p0.Low, .int .i64 p0.High], .int .i64 p1, .int .i64 p2] low fun x low' => x = .bool r ∧ low' = low := by
 refine Xh (nt := 24) (rs := [.tmp 6]) Try.func50 rfl rfl (We rfl) rfl ?_
 refine Vo (Q' := FnE (fun E' lw lc => Xr E' lw lc [(6, .bool r)] low [])) ?_ ?_
 ·unfold F_plan_spanIn at hF
  refine Vf ?_
  refine Vd ?_
  refine Vi (Zo rfl rfl (v := .agg [.int .i64 p0.Low, .int .i64 p0.High]) rfl rfl (Wf _) rfl rfl) rfl ?_
  refine Va (Zc rfl) rfl ?_
  refine Ve ?_
  refine Vf ?_
  refine Vd ?_
  rcases Wg (decide (p1 ≤ p0.Low)) with c1 | c1
  ·have hF := Yi c1 hF
   rcases Wg (decide (p0.Low ≤ p0.High)) with c2 | c2
   ·have hF := Yi c2 hF
    refine Va (Vk rfl) rfl ?_
    refine Va (Vb rfl tf_44_0 ts_3 (by decide)) rfl ?_
    refine Va (Vh rfl (Vg rfl rfl) rfl ta_3 rfl) rfl ?_
    refine Va (rd_leq rfl rfl) rfl ?_
    refine Va (Vn rfl) rfl ?_
    refine Xl rfl rfl c1 ?_
    refine Va (Vb rfl tf_44_0 ts_3 (by decide)) rfl ?_
    refine Xl rfl rfl c1 ?_
    refine Va (Vh rfl (Vg rfl rfl) rfl ta_3 rfl) rfl ?_
    refine Xl rfl rfl c1 ?_
    refine Va (Vb rfl tf_44_1 ts_3 (by decide)) rfl ?_
    refine Xl rfl rfl c1 ?_
    refine Va (Vh rfl (Vg rfl rfl) rfl ta_3 rfl) rfl ?_
    refine Xl rfl rfl c1 ?_
    refine Va (rd_leq rfl rfl) rfl ?_
    refine Va (Vw (congrArg Wc c1) rfl) rfl ?_
    refine Va (Vn rfl) rfl ?_
    refine Xl rfl rfl c2 ?_
    refine Va (Vb rfl tf_44_1 ts_3 (by decide)) rfl ?_
    refine Xl rfl rfl c2 ?_
    refine Va (Vh rfl (Vg rfl rfl) rfl ta_3 rfl) rfl ?_
    refine Xl rfl rfl c2 ?_
    refine Va (Vk rfl) rfl ?_
    refine Xl rfl rfl c2 ?_
    refine Va (rd_leq rfl rfl) rfl ?_
    refine Va (Vw (congrArg Wc c2) rfl) rfl ?_
    refine Va (Zc rfl) rfl ?_
    refine Ve ?_
    refine Xt ?_
    obtain rfl := Wd hF
    refine fnR ?_
    exact Vm rfl [] (by decide) ⟨Vj rfl (.bool _), trivial⟩ trivial
   ·have hF := Yj c2 hF
    refine Va (Vk rfl) rfl ?_
    refine Va (Vb rfl tf_44_0 ts_3 (by decide)) rfl ?_
    refine Va (Vh rfl (Vg rfl rfl) rfl ta_3 rfl) rfl ?_
    refine Va (rd_leq rfl rfl) rfl ?_
    refine Va (Vn rfl) rfl ?_
    refine Xl rfl rfl c1 ?_
    refine Va (Vb rfl tf_44_0 ts_3 (by decide)) rfl ?_
    refine Xl rfl rfl c1 ?_
    refine Va (Vh rfl (Vg rfl rfl) rfl ta_3 rfl) rfl ?_
    refine Xl rfl rfl c1 ?_
    refine Va (Vb rfl tf_44_1 ts_3 (by decide)) rfl ?_
    refine Xl rfl rfl c1 ?_
    refine Va (Vh rfl (Vg rfl rfl) rfl ta_3 rfl) rfl ?_
    refine Xl rfl rfl c1 ?_
    refine Va (rd_leq rfl rfl) rfl ?_
    refine Va (Vw (congrArg Wc c1) rfl) rfl ?_
    refine Va (Vn rfl) rfl ?_
    refine Vc rfl rfl (Zw c2) rfl ?_
    refine Vc rfl rfl (Zw c2) rfl ?_
    refine Vc rfl rfl (Zw c2) rfl ?_
    refine Vc rfl rfl (Zw c2) rfl ?_
    refine Va (Vx (congrArg Wc c2) rfl) rfl ?_
    refine Va (Zc rfl) rfl ?_
    refine Ve ?_
    refine Xt ?_
    obtain rfl := Wd hF
    refine fnR ?_
    exact Vm rfl [] (by decide) ⟨Vj rfl (.bool _), trivial⟩ trivial
  ·have hF := Yj c1 hF
   refine Va (Vk rfl) rfl ?_
   refine Va (Vb rfl tf_44_0 ts_3 (by decide)) rfl ?_
   refine Va (Vh rfl (Vg rfl rfl) rfl ta_3 rfl) rfl ?_
   refine Va (rd_leq rfl rfl) rfl ?_
   refine Va (Vn rfl) rfl ?_
   refine Vc rfl rfl (Zw c1) rfl ?_
   refine Vc rfl rfl (Zw c1) rfl ?_
   refine Vc rfl rfl (Zw c1) rfl ?_
   refine Vc rfl rfl (Zw c1) rfl ?_
   refine Vc rfl rfl (Zw c1) rfl ?_
   refine Va (Vx (congrArg Wc c1) rfl) rfl ?_
   refine Va (Vn rfl) rfl ?_
   refine Vc rfl rfl (by decide) rfl ?_
   refine Vc rfl rfl (by decide) rfl ?_
   refine Vc rfl rfl (by decide) rfl ?_
   refine Vc rfl rfl (by decide) rfl ?_
   refine Va (Vx rfl rfl) rfl ?_
   refine Va (Zc rfl) rfl ?_
   refine Ve ?_
   refine Xt ?_
   obtain rfl := Wd hF
   refine fnR ?_
   exact Vm rfl [] (by decide) ⟨Vj rfl (.bool _), trivial⟩ trivial
 ·rintro _ _ _ _ ⟨he, hw⟩
  refine ⟨_, _, _, hw, ?_⟩
  exact Yu he [.bool r] ⟨rfl, trivial⟩ (.bool _) ⟨rfl, rfl⟩

theorem F_plan_Check_ok {p0 : T_Mine} {r : Int} (hF : F_plan_Check p0 = some r) (low : List AObj) :
    Zd Try.prog 47 [.agg [.vs 2 (Wa T_Place.enc p0.Places), .vs 10 (Wa T_Road.enc p0.Roads)]] low fun x low' => x = .int .i64 r ∧ low' = low := by
 refine Xh (nt := 100) (rs := [.tmp 2]) Try.func47 rfl rfl (We rfl) rfl ?_
 refine Vo (Q' := FnE (fun E' lw lc => Xr E' lw lc [(2, .int .i64 r)] low [])) ?_ ?_
 ·unfold F_plan_Check at hF
  refine Vf ?_
  refine Vd ?_
  refine Vi (Zo rfl rfl (v := .agg [.vs 2 (Wa T_Place.enc p0.Places), .vs 10 (Wa T_Road.enc p0.Roads)]) rfl rfl (Wf _) rfl rfl) rfl ?_
  refine Va (Xi rfl) rfl ?_
  refine Ve ?_
  refine Vf ?_
  refine Vf ?_
  obtain ⟨o1, ho1, hF⟩ := Ya hF
  refine Vo (Q' := (fun o1 => OnlyE .normal (fun E' lw lc => Xr E' lw lc [(1, .ptr (low.length + 0) 0 0 0), (17, .bool o1)] low [⟨27, 2, [.agg [.vs 2 (Wa T_Place.enc p0.Places), .vs 10 (Wa T_Road.enc p0.Roads)]], 0⟩])) o1) ?_ ?_
  ·replace hF := ho1
   refine Vd ?_
   rcases Wg (decide (64 < ((p0.Places).length : Int))) with c2 | c2
   ·have hF := Yi c2 hF
    refine Va (Vb rfl tf_27_0 ts_24 (by decide)) rfl ?_
    refine Va (Vh rfl (Vg rfl rfl) rfl ta_24 rfl) rfl ?_
    refine Va (Xm (Xy rfl rfl te_24) (congrArg (fun n : Nat => Wb .i64 (n : Int)) (Wh _))) rfl ?_
    refine Va (Zp rfl rfl) rfl ?_
    refine Va (Vn rfl) rfl ?_
    refine Vc rfl rfl (Zq c2) rfl ?_
    refine Vc rfl rfl (Zq c2) rfl ?_
    refine Vc rfl rfl (Zq c2) rfl ?_
    refine Vc rfl rfl (Zq c2) rfl ?_
    refine Va (Vw (congrArg Wc c2) rfl) rfl ?_
    refine Ve ?_
    obtain rfl := Wd hF
    refine Vz ?_
    exact Vl ⟨rfl, rfl, trivial⟩
   ·have hF := Yj c2 hF
    refine Va (Vb rfl tf_27_0 ts_24 (by decide)) rfl ?_
    refine Va (Vh rfl (Vg rfl rfl) rfl ta_24 rfl) rfl ?_
    refine Va (Xm (Xy rfl rfl te_24) (congrArg (fun n : Nat => Wb .i64 (n : Int)) (Wh _))) rfl ?_
    refine Va (Zp rfl rfl) rfl ?_
    refine Va (Vn rfl) rfl ?_
    refine Xl rfl rfl c2 ?_
    refine Va (Vb rfl tf_27_1 ts_25 (by decide)) rfl ?_
    refine Xl rfl rfl c2 ?_
    refine Va (Vh rfl (Vg rfl rfl) rfl ta_25 rfl) rfl ?_
    refine Xl rfl rfl c2 ?_
    refine Va (Xm (Xy rfl rfl te_25) (congrArg (fun n : Nat => Wb .i64 (n : Int)) (Wh _))) rfl ?_
    refine Xl rfl rfl c2 ?_
    refine Va (Zp rfl rfl) rfl ?_
    refine Va (Vx (congrArg Wc c2) rfl) rfl ?_
    refine Ve ?_
    obtain rfl := Wd hF
    refine Vz ?_
    exact Vl ⟨rfl, rfl, trivial⟩
  ·rintro _ _ _ _ ⟨rfl, hw⟩
   refine ⟨_, _, _, hw, ?_⟩
   refine Xd rfl (fun c3 => ?_) (fun c3 => ?_)
   ·have hF := Yi c3 hF
    refine Vf ?_
    refine Vd ?_
    refine Va (Xi rfl) rfl ?_
    refine Ve ?_
    refine Xt ?_
    obtain rfl := Wd hF
    refine fnR ?_
    exact Vm rfl [] (by decide) ⟨Vj rfl (.int _ _), trivial⟩ trivial
   ·have hF := Yj c3 hF
    refine Xe ?_
    refine Vf ?_
    refine Vf ?_
    refine Vd ?_
    refine Va (Vb rfl tf_27_0 ts_24 (by decide)) rfl ?_
    refine Va (Vh rfl (Vg rfl rfl) rfl ta_24 rfl) rfl ?_
    refine Va (Xm (Xy rfl rfl te_24) (congrArg (fun n : Nat => Wb .i64 (n : Int)) (Wh _))) rfl ?_
    refine Va (Vk rfl) rfl ?_
    refine Ve ?_
    refine Xa ?_
    obtain ⟨o5, ho5, hF⟩ := Ya hF
    refine Vo (Yk (F_plan_Check_L1 p0) (fun s4 E' lw lc => Xr E' lw lc [(1, .ptr (low.length + 0) 0 0 0), (19, .vs 2 (Wa T_Place.enc p0.Places)), (20, .int .i64 ((p0.Places).length : Int)), (21, .int .i64 s4)] low [⟨27, 2, [.agg [.vs 2 (Wa T_Place.enc p0.Places), .vs 10 (Wa T_Road.enc p0.Roads)]], 0⟩]) (Sum.elim (fun j6 => OnlyE .ret (fun E' lw lc => Xr E' lw lc [(2, .int .i64 1)] low [])) (fun j7 => OnlyE (.exit 0) (fun E' lw lc => Xr E' lw lc [(1, .ptr (low.length + 0) 0 0 0)] low [⟨27, 2, [.agg [.vs 2 (Wa T_Place.enc p0.Places), .vs 10 (Wa T_Road.enc p0.Roads)]], 0⟩]))) ho5 ?_ (by rintro (_|_) _ _ _ ⟨h, _⟩ <;> cases h) ?_) ?_
    ·exact Vl ⟨rfl, rfl, rfl, rfl, trivial⟩
    ·rintro s4 os4 _ _ _ hF hw
     unfold F_plan_Check_L1 at hF
     refine Yd hw ?_
     refine Vf ?_
     refine Vd ?_
     refine Va (Yh rfl rfl) rfl ?_
     refine Ve ?_
     refine Vf ?_
     refine Xd rfl (fun c8 => ?_) (fun c8 => ?_)
     ·have hF := Yi c8 hF
      refine Xe ?_
      refine Vf ?_
      refine Xa ?_
      refine Vf ?_
      refine Vd ?_
      obtain ⟨x9, h10, hF⟩ := Ya hF
      refine Va (Xm (Xz rfl rfl h10 te_24 ts_48) (v' := .vptr [.int .i64 x9.Height, .bool x9.Surface] 0) rfl) rfl ?_
      refine Va (Zi (ds := [.int .i64 x9.Height, .bool x9.Surface]) rfl ta_48 ts_48 rfl rfl) rfl ?_
      refine Vi (Xp rfl rfl tz_48 rfl rfl (Wf _) rfl) rfl ?_
      refine Vi (Xb (p := .agg [.int .i64 x9.Height, .bool x9.Surface]) (e' := .agg [.int .i64 x9.Height, .bool x9.Surface]) rfl (Vg rfl rfl) rfl rfl ts_48 rfl (Yn rfl) rfl (We rfl) rfl (Xn rfl rfl)) rfl ?_
      refine Ve ?_
      refine Vf ?_
      obtain ⟨o11, ho11, hF⟩ := Ya hF
      refine Vo (Q' := (fun o11 => OnlyE .normal (fun E' lw lc => Xr E' lw lc [(1, .ptr (low.length + 0) 0 0 0), (19, .vs 2 (Wa T_Place.enc p0.Places)), (20, .int .i64 ((p0.Places).length : Int)), (21, .int .i64 s4), (32, .bool o11)] low [⟨27, 2, [.agg [.vs 2 (Wa T_Place.enc p0.Places), .vs 10 (Wa T_Road.enc p0.Roads)]], 0⟩])) o11) ?_ ?_
      ·replace hF := ho11
       refine Vd ?_
       rcases Wg (decide (x9.Height < (-10000))) with c12 | c12
       ·have hF := Yi c12 hF
        refine Va (Vb rfl tf_48_0 ts_3 (by decide)) rfl ?_
        refine Va (Vh rfl (Vg rfl rfl) rfl ta_3 rfl) rfl ?_
        refine Va (Yh rfl rfl) rfl ?_
        refine Va (Vn rfl) rfl ?_
        refine Vc rfl rfl (Zq c12) rfl ?_
        refine Vc rfl rfl (Zq c12) rfl ?_
        refine Vc rfl rfl (Zq c12) rfl ?_
        refine Va (Vw (congrArg Wc c12) rfl) rfl ?_
        refine Ve ?_
        obtain rfl := Wd hF
        refine Vz ?_
        exact Vm rfl [(0, 0)] (by decide) ⟨Vu 0 0 rfl rfl, Vj rfl (.vs _ _), Vj rfl (.int _ _), Vj rfl (.int _ _), Vj rfl (.bool _), trivial⟩ ⟨⟨_, rfl, rfl, .same _ _ _ _ (Vq ⟨Vp ⟨.vs _ _, .vs _ _, trivial⟩, trivial⟩)⟩, trivial⟩
       ·have hF := Yj c12 hF
        refine Va (Vb rfl tf_48_0 ts_3 (by decide)) rfl ?_
        refine Va (Vh rfl (Vg rfl rfl) rfl ta_3 rfl) rfl ?_
        refine Va (Yh rfl rfl) rfl ?_
        refine Va (Vn rfl) rfl ?_
        refine Xl rfl rfl c12 ?_
        refine Va (Vb rfl tf_48_0 ts_3 (by decide)) rfl ?_
        refine Xl rfl rfl c12 ?_
        refine Va (Vh rfl (Vg rfl rfl) rfl ta_3 rfl) rfl ?_
        refine Xl rfl rfl c12 ?_
        refine Va (Zp rfl rfl) rfl ?_
        refine Va (Vx (congrArg Wc c12) rfl) rfl ?_
        refine Ve ?_
        obtain rfl := Wd hF
        refine Vz ?_
        exact Vm rfl [(0, 0)] (by decide) ⟨Vu 0 0 rfl rfl, Vj rfl (.vs _ _), Vj rfl (.int _ _), Vj rfl (.int _ _), Vj rfl (.bool _), trivial⟩ ⟨⟨_, rfl, rfl, .same _ _ _ _ (Vq ⟨Vp ⟨.vs _ _, .vs _ _, trivial⟩, trivial⟩)⟩, trivial⟩
      ·rintro _ _ _ _ ⟨rfl, hw⟩
       refine ⟨_, _, _, hw, ?_⟩
       refine Xd rfl (fun c13 => ?_) (fun c13 => ?_)
       ·have hF := Yi c13 hF
        refine Vf ?_
        refine Vd ?_
        refine Va (Xi rfl) rfl ?_
        refine Ve ?_
        refine Xt ?_
        obtain rfl := Wd hF
        refine Vz ?_
        exact Vm rfl [] (by decide) ⟨Vj rfl (.int _ _), trivial⟩ trivial
       ·have hF := Yj c13 hF
        refine Xe ?_
        refine Vd ?_
        refine Va (Za rfl rfl rfl) rfl ?_
        refine Va (Vk rfl) rfl ?_
        refine Ve ?_
        obtain rfl := Wd hF
        refine Vz ?_
        exact Vl ⟨rfl, rfl, rfl, rfl, trivial⟩
     ·have hF := Yj c8 hF
      refine Yr ?_
      obtain rfl := Wd hF
      refine Vz ?_
      exact Vl ⟨rfl, trivial⟩
    ·rcases o5 with j6 | j7
     ·replace hF := elimL hF
      rintro _ _ _ _ ⟨rfl, hw⟩
      refine ⟨_, _, _, hw, ?_⟩
      obtain rfl := Wd hF
      refine fnR ?_
      exact Vl ⟨rfl, trivial⟩
     ·replace hF := elimR hF
      rintro _ _ _ _ ⟨rfl, hw⟩
      refine ⟨_, _, _, hw, ?_⟩
      refine Vf ?_
      refine Vd ?_
      refine Va (Vb rfl tf_27_0 ts_24 (by decide)) rfl ?_
      refine Va (Vh rfl (Vg rfl rfl) rfl ta_24 rfl) rfl ?_
      refine Va (Xm (Xy rfl rfl te_24) (congrArg (fun n : Nat => Wb .i64 (n : Int)) (Wh _))) rfl ?_
      refine Va (Xi rfl) rfl ?_
      refine Ve ?_
      refine Vf ?_
      refine Vf ?_
      refine Vd ?_
      refine Va (Vb rfl tf_27_1 ts_25 (by decide)) rfl ?_
      refine Va (Vh rfl (Vg rfl rfl) rfl ta_25 rfl) rfl ?_
      refine Va (Xm (Xy rfl rfl te_25) (congrArg (fun n : Nat => Wb .i64 (n : Int)) (Wh _))) rfl ?_
      refine Va (Vk rfl) rfl ?_
      refine Ve ?_
      refine Xa ?_
      obtain ⟨o15, ho15, hF⟩ := Ya hF
      refine Vo (Yk (F_plan_Check_L2 p0) (fun s14 E' lw lc => Xr E' lw lc [(5, .int .i64 ((p0.Places).length : Int)), (38, .vs 10 (Wa T_Road.enc p0.Roads)), (39, .int .i64 ((p0.Roads).length : Int)), (40, .int .i64 s14)] low []) (Sum.elim (fun j16 => OnlyE .ret (fun E' lw lc => Xr E' lw lc [(2, .int .i64 j16)] low [])) (fun j17 => OnlyE (.exit 2) (fun E' lw lc => Xr E' lw lc [] low []))) ho15 ?_ (by rintro (_|_) _ _ _ ⟨h, _⟩ <;> cases h) ?_) ?_
      ·exact Vm rfl [] (by decide) ⟨Vj rfl (.int _ _), Vj rfl (.vs _ _), Vj rfl (.int _ _), Vj rfl (.int _ _), trivial⟩ trivial
      ·rintro s14 os14 _ _ _ hF hw
       unfold F_plan_Check_L2 at hF
       refine Yd hw ?_
       refine Vf ?_
       refine Vd ?_
       refine Va (Yh rfl rfl) rfl ?_
       refine Ve ?_
       refine Vf ?_
       refine Xd rfl (fun c18 => ?_) (fun c18 => ?_)
       ·have hF := Yi c18 hF
        refine Xe ?_
        refine Vf ?_
        refine Xa ?_
        refine Vf ?_
        refine Vd ?_
        obtain ⟨x19, h20, hF⟩ := Ya hF
        refine Va (Xm (Xz rfl rfl h20 te_25 ts_46) (v' := .vptr [.int .i64 x19.From, .int .i64 x19.To, .int .i64 x19.Length, .int .i64 x19.Area, .bool x19.Walk, .bool x19.Closed, .int .i64 x19.Rest.Low, .int .i64 x19.Rest.High, .int .i64 x19.Lift.Low, .int .i64 x19.Lift.High] 0) rfl) rfl ?_
        refine Va (Zi (ds := [.int .i64 x19.From, .int .i64 x19.To, .int .i64 x19.Length, .int .i64 x19.Area, .bool x19.Walk, .bool x19.Closed, .int .i64 x19.Rest.Low, .int .i64 x19.Rest.High, .int .i64 x19.Lift.Low, .int .i64 x19.Lift.High]) rfl ta_46 ts_46 rfl rfl) rfl ?_
        refine Vi (Xp rfl rfl tz_46 rfl rfl (Wf _) rfl) rfl ?_
        refine Vi (Xb (p := .agg [.int .i64 x19.From, .int .i64 x19.To, .int .i64 x19.Length, .int .i64 x19.Area, .bool x19.Walk, .bool x19.Closed, .int .i64 x19.Rest.Low, .int .i64 x19.Rest.High, .int .i64 x19.Lift.Low, .int .i64 x19.Lift.High]) (e' := .agg [.int .i64 x19.From, .int .i64 x19.To, .int .i64 x19.Length, .int .i64 x19.Area, .bool x19.Walk, .bool x19.Closed, .int .i64 x19.Rest.Low, .int .i64 x19.Rest.High, .int .i64 x19.Lift.Low, .int .i64 x19.Lift.High]) rfl (Vg rfl rfl) rfl rfl ts_46 rfl (Yn rfl) rfl (We rfl) rfl (Xn rfl rfl)) rfl ?_
        refine Ve ?_
        refine Vf ?_
        refine Vf ?_
        obtain ⟨o21, ho21, hF⟩ := Ya hF
        refine Vo (Q' := (fun o21 => OnlyE .normal (fun E' lw lc => Xr E' lw lc [(5, .int .i64 ((p0.Places).length : Int)), (7, .ptr (low.length + 0) 0 0 0), (38, .vs 10 (Wa T_Road.enc p0.Roads)), (39, .int .i64 ((p0.Roads).length : Int)), (40, .int .i64 s14), (70, .bool o21)] low [⟨46, 10, [.agg [.int .i64 x19.From, .int .i64 x19.To, .int .i64 x19.Length, .int .i64 x19.Area, .bool x19.Walk, .bool x19.Closed, .int .i64 x19.Rest.Low, .int .i64 x19.Rest.High, .int .i64 x19.Lift.Low, .int .i64 x19.Lift.High]], 0⟩])) o21) ?_ ?_
        ·replace hF := ho21
         refine Vd ?_
         rcases Wg (decide (x19.From < 0)) with c22 | c22
         ·have hF := Yi c22 hF
          refine Va (Vb rfl tf_46_0 ts_3 (by decide)) rfl ?_
          refine Va (Vh rfl (Vg rfl rfl) rfl ta_3 rfl) rfl ?_
          refine Va (Yh rfl rfl) rfl ?_
          refine Va (Vn rfl) rfl ?_
          refine Vc rfl rfl (Zq c22) rfl ?_
          refine Vc rfl rfl (Zq c22) rfl ?_
          refine Vc rfl rfl (Zq c22) rfl ?_
          refine Vc rfl rfl (Zq c22) rfl ?_
          refine Va (Vw (congrArg Wc c22) rfl) rfl ?_
          refine Va (Vn rfl) rfl ?_
          refine Vc rfl rfl (by decide) rfl ?_
          refine Vc rfl rfl (by decide) rfl ?_
          refine Vc rfl rfl (by decide) rfl ?_
          refine Va (Vw rfl rfl) rfl ?_
          refine Va (Vn rfl) rfl ?_
          refine Vc rfl rfl (by decide) rfl ?_
          refine Vc rfl rfl (by decide) rfl ?_
          refine Vc rfl rfl (by decide) rfl ?_
          refine Vc rfl rfl (by decide) rfl ?_
          refine Va (Vw rfl rfl) rfl ?_
          refine Va (Vn rfl) rfl ?_
          refine Vc rfl rfl (by decide) rfl ?_
          refine Vc rfl rfl (by decide) rfl ?_
          refine Vc rfl rfl (by decide) rfl ?_
          refine Vc rfl rfl (by decide) rfl ?_
          refine Vc rfl rfl (by decide) rfl ?_
          refine Va (Vw rfl rfl) rfl ?_
          refine Ve ?_
          obtain rfl := Wd hF
          refine Vz ?_
          exact Vl ⟨rfl, rfl, rfl, rfl, rfl, rfl, trivial⟩
         ·have hF := Yj c22 hF
          rcases Wg (decide (((p0.Places).length : Int) ≤ x19.From)) with c23 | c23
          ·have hF := Yi c23 hF
           refine Va (Vb rfl tf_46_0 ts_3 (by decide)) rfl ?_
           refine Va (Vh rfl (Vg rfl rfl) rfl ta_3 rfl) rfl ?_
           refine Va (Yh rfl rfl) rfl ?_
           refine Va (Vn rfl) rfl ?_
           refine Xl rfl rfl c22 ?_
           refine Va (Vb rfl tf_46_0 ts_3 (by decide)) rfl ?_
           refine Xl rfl rfl c22 ?_
           refine Va (Vh rfl (Vg rfl rfl) rfl ta_3 rfl) rfl ?_
           refine Xl rfl rfl c22 ?_
           refine Va (Vk rfl) rfl ?_
           refine Xl rfl rfl c22 ?_
           refine Va (rd_geq rfl rfl) rfl ?_
           refine Va (Vx (congrArg Wc c22) rfl) rfl ?_
           refine Va (Vn rfl) rfl ?_
           refine Vc rfl rfl (Zq c23) rfl ?_
           refine Vc rfl rfl (Zq c23) rfl ?_
           refine Vc rfl rfl (Zq c23) rfl ?_
           refine Va (Vw (congrArg Wc c23) rfl) rfl ?_
           refine Va (Vn rfl) rfl ?_
           refine Vc rfl rfl (by decide) rfl ?_
           refine Vc rfl rfl (by decide) rfl ?_
           refine Vc rfl rfl (by decide) rfl ?_
           refine Vc rfl rfl (by decide) rfl ?_
           refine Va (Vw rfl rfl) rfl ?_
           refine Va (Vn rfl) rfl ?_
           refine Vc rfl rfl (by decide) rfl ?_
           refine Vc rfl rfl (by decide) rfl ?_
           refine Vc rfl rfl (by decide) rfl ?_
           refine Vc rfl rfl (by decide) rfl ?_
           refine Vc rfl rfl (by decide) rfl ?_
           refine Va (Vw rfl rfl) rfl ?_
           refine Ve ?_
           obtain rfl := Wd hF
           refine Vz ?_
           exact Vl ⟨rfl, rfl, rfl, rfl, rfl, rfl, trivial⟩
          ·have hF := Yj c23 hF
           rcases Wg (decide (x19.To < 0)) with c24 | c24
           ·have hF := Yi c24 hF
            refine Va (Vb rfl tf_46_0 ts_3 (by decide)) rfl ?_
            refine Va (Vh rfl (Vg rfl rfl) rfl ta_3 rfl) rfl ?_
            refine Va (Yh rfl rfl) rfl ?_
            refine Va (Vn rfl) rfl ?_
            refine Xl rfl rfl c22 ?_
            refine Va (Vb rfl tf_46_0 ts_3 (by decide)) rfl ?_
            refine Xl rfl rfl c22 ?_
            refine Va (Vh rfl (Vg rfl rfl) rfl ta_3 rfl) rfl ?_
            refine Xl rfl rfl c22 ?_
            refine Va (Vk rfl) rfl ?_
            refine Xl rfl rfl c22 ?_
            refine Va (rd_geq rfl rfl) rfl ?_
            refine Va (Vx (congrArg Wc c22) rfl) rfl ?_
            refine Va (Vn rfl) rfl ?_
            refine Xl rfl rfl c23 ?_
            refine Va (Vb rfl tf_46_1 ts_3 (by decide)) rfl ?_
            refine Xl rfl rfl c23 ?_
            refine Va (Vh rfl (Vg rfl rfl) rfl ta_3 rfl) rfl ?_
            refine Xl rfl rfl c23 ?_
            refine Va (Yh rfl rfl) rfl ?_
            refine Va (Vx (congrArg Wc c23) rfl) rfl ?_
            refine Va (Vn rfl) rfl ?_
            refine Vc rfl rfl (Zq c24) rfl ?_
            refine Vc rfl rfl (Zq c24) rfl ?_
            refine Vc rfl rfl (Zq c24) rfl ?_
            refine Vc rfl rfl (Zq c24) rfl ?_
            refine Va (Vw (congrArg Wc c24) rfl) rfl ?_
            refine Va (Vn rfl) rfl ?_
            refine Vc rfl rfl (by decide) rfl ?_
            refine Vc rfl rfl (by decide) rfl ?_
            refine Vc rfl rfl (by decide) rfl ?_
            refine Vc rfl rfl (by decide) rfl ?_
            refine Vc rfl rfl (by decide) rfl ?_
            refine Va (Vw rfl rfl) rfl ?_
            refine Ve ?_
            obtain rfl := Wd hF
            refine Vz ?_
            exact Vl ⟨rfl, rfl, rfl, rfl, rfl, rfl, trivial⟩
           ·have hF := Yj c24 hF
            rcases Wg (decide (((p0.Places).length : Int) ≤ x19.To)) with c25 | c25
            ·have hF := Yi c25 hF
             refine Va (Vb rfl tf_46_0 ts_3 (by decide)) rfl ?_
             refine Va (Vh rfl (Vg rfl rfl) rfl ta_3 rfl) rfl ?_
             refine Va (Yh rfl rfl) rfl ?_
             refine Va (Vn rfl) rfl ?_
             refine Xl rfl rfl c22 ?_
             refine Va (Vb rfl tf_46_0 ts_3 (by decide)) rfl ?_
             refine Xl rfl rfl c22 ?_
             refine Va (Vh rfl (Vg rfl rfl) rfl ta_3 rfl) rfl ?_
             refine Xl rfl rfl c22 ?_
             refine Va (Vk rfl) rfl ?_
             refine Xl rfl rfl c22 ?_
             refine Va (rd_geq rfl rfl) rfl ?_
             refine Va (Vx (congrArg Wc c22) rfl) rfl ?_
             refine Va (Vn rfl) rfl ?_
             refine Xl rfl rfl c23 ?_
             refine Va (Vb rfl tf_46_1 ts_3 (by decide)) rfl ?_
             refine Xl rfl rfl c23 ?_
             refine Va (Vh rfl (Vg rfl rfl) rfl ta_3 rfl) rfl ?_
             refine Xl rfl rfl c23 ?_
             refine Va (Yh rfl rfl) rfl ?_
             refine Va (Vx (congrArg Wc c23) rfl) rfl ?_
             refine Va (Vn rfl) rfl ?_
             refine Xl rfl rfl c24 ?_
             refine Va (Vb rfl tf_46_1 ts_3 (by decide)) rfl ?_
             refine Xl rfl rfl c24 ?_
             refine Va (Vh rfl (Vg rfl rfl) rfl ta_3 rfl) rfl ?_
             refine Xl rfl rfl c24 ?_
             refine Va (Vk rfl) rfl ?_
             refine Xl rfl rfl c24 ?_
             refine Va (rd_geq rfl rfl) rfl ?_
             refine Va (Vx (congrArg Wc c24) rfl) rfl ?_
             refine Va (Vn rfl) rfl ?_
             refine Vc rfl rfl (Zq c25) rfl ?_
             refine Vc rfl rfl (Zq c25) rfl ?_
             refine Vc rfl rfl (Zq c25) rfl ?_
             refine Vc rfl rfl (Zq c25) rfl ?_
             refine Vc rfl rfl (Zq c25) rfl ?_
             refine Va (Vw (congrArg Wc c25) rfl) rfl ?_
             refine Ve ?_
             obtain rfl := Wd hF
             refine Vz ?_
             exact Vl ⟨rfl, rfl, rfl, rfl, rfl, rfl, trivial⟩
            ·have hF := Yj c25 hF
             refine Va (Vb rfl tf_46_0 ts_3 (by decide)) rfl ?_
             refine Va (Vh rfl (Vg rfl rfl) rfl ta_3 rfl) rfl ?_
             refine Va (Yh rfl rfl) rfl ?_
             refine Va (Vn rfl) rfl ?_
             refine Xl rfl rfl c22 ?_
             refine Va (Vb rfl tf_46_0 ts_3 (by decide)) rfl ?_
             refine Xl rfl rfl c22 ?_
             refine Va (Vh rfl (Vg rfl rfl) rfl ta_3 rfl) rfl ?_
             refine Xl rfl rfl c22 ?_
             refine Va (Vk rfl) rfl ?_
             refine Xl rfl rfl c22 ?_
             refine Va (rd_geq rfl rfl) rfl ?_
             refine Va (Vx (congrArg Wc c22) rfl) rfl ?_
             refine Va (Vn rfl) rfl ?_
             refine Xl rfl rfl c23 ?_
             refine Va (Vb rfl tf_46_1 ts_3 (by decide)) rfl ?_
             refine Xl rfl rfl c23 ?_
             refine Va (Vh rfl (Vg rfl rfl) rfl ta_3 rfl) rfl ?_
             refine Xl rfl rfl c23 ?_
             refine Va (Yh rfl rfl) rfl ?_
             refine Va (Vx (congrArg Wc c23) rfl) rfl ?_
             refine Va (Vn rfl) rfl ?_
             refine Xl rfl rfl c24 ?_
             refine Va (Vb rfl tf_46_1 ts_3 (by decide)) rfl ?_
             refine Xl rfl rfl c24 ?_
             refine Va (Vh rfl (Vg rfl rfl) rfl ta_3 rfl) rfl ?_
             refine Xl rfl rfl c24 ?_
             refine Va (Vk rfl) rfl ?_
             refine Xl rfl rfl c24 ?_
             refine Va (rd_geq rfl rfl) rfl ?_
             refine Va (Vx (congrArg Wc c24) rfl) rfl ?_
             refine Va (Vn rfl) rfl ?_
             refine Xl rfl rfl c25 ?_
             refine Va (Vb rfl tf_46_0 ts_3 (by decide)) rfl ?_
             refine Xl rfl rfl c25 ?_
             refine Va (Vh rfl (Vg rfl rfl) rfl ta_3 rfl) rfl ?_
             refine Xl rfl rfl c25 ?_
             refine Va (Vb rfl tf_46_1 ts_3 (by decide)) rfl ?_
             refine Xl rfl rfl c25 ?_
             refine Va (Vh rfl (Vg rfl rfl) rfl ta_3 rfl) rfl ?_
             refine Xl rfl rfl c25 ?_
             refine Va (Zn rfl rfl) rfl ?_
             refine Va (Vx (congrArg Wc c25) rfl) rfl ?_
             refine Ve ?_
             obtain rfl := Wd hF
             refine Vz ?_
             exact Vl ⟨rfl, rfl, rfl, rfl, rfl, rfl, trivial⟩
        ·rintro _ _ _ _ ⟨rfl, hw⟩
         refine ⟨_, _, _, hw, ?_⟩
         refine Xd rfl (fun c26 => ?_) (fun c26 => ?_)
         ·have hF := Yi c26 hF
          refine Vf ?_
          refine Vd ?_
          refine Va (Xi rfl) rfl ?_
          refine Ve ?_
          refine Xt ?_
          obtain rfl := Wd hF
          refine Vz ?_
          exact Vm rfl [] (by decide) ⟨Vj rfl (.int _ _), trivial⟩ trivial
         ·have hF := Yj c26 hF
          refine Xe ?_
          refine Vf ?_
          refine Vf ?_
          obtain ⟨o27, ho27, hF⟩ := Ya hF
          refine Vo (Q' := (fun o27 => OnlyE .normal (fun E' lw lc => Xr E' lw lc [(5, .int .i64 ((p0.Places).length : Int)), (7, .ptr (low.length + 0) 0 0 0), (38, .vs 10 (Wa T_Road.enc p0.Roads)), (39, .int .i64 ((p0.Roads).length : Int)), (40, .int .i64 s14), (88, .bool o27)] low [⟨46, 10, [.agg [.int .i64 x19.From, .int .i64 x19.To, .int .i64 x19.Length, .int .i64 x19.Area, .bool x19.Walk, .bool x19.Closed, .int .i64 x19.Rest.Low, .int .i64 x19.Rest.High, .int .i64 x19.Lift.Low, .int .i64 x19.Lift.High]], 0⟩])) o27) ?_ ?_
          ·replace hF := ho27
           refine Vd ?_
           rcases Wg (decide (x19.Length < 1)) with c28 | c28
           ·have hF := Yi c28 hF
            refine Va (Vb rfl tf_46_2 ts_3 (by decide)) rfl ?_
            refine Va (Vh rfl (Vg rfl rfl) rfl ta_3 rfl) rfl ?_
            refine Va (Yh rfl rfl) rfl ?_
            refine Va (Vn rfl) rfl ?_
            refine Vc rfl rfl (Zq c28) rfl ?_
            refine Vc rfl rfl (Zq c28) rfl ?_
            refine Vc rfl rfl (Zq c28) rfl ?_
            refine Va (Vw (congrArg Wc c28) rfl) rfl ?_
            refine Va (Vn rfl) rfl ?_
            refine Vc rfl rfl (by decide) rfl ?_
            refine Vc rfl rfl (by decide) rfl ?_
            refine Vc rfl rfl (by decide) rfl ?_
            refine Va (Vw rfl rfl) rfl ?_
            refine Va (Vn rfl) rfl ?_
            refine Vc rfl rfl (by decide) rfl ?_
            refine Vc rfl rfl (by decide) rfl ?_
            refine Vc rfl rfl (by decide) rfl ?_
            refine Va (Vw rfl rfl) rfl ?_
            refine Ve ?_
            obtain rfl := Wd hF
            refine Vz ?_
            exact Vl ⟨rfl, rfl, rfl, rfl, rfl, rfl, trivial⟩
           ·have hF := Yj c28 hF
            rcases Wg (decide (100000 < x19.Length)) with c29 | c29
            ·have hF := Yi c29 hF
             refine Va (Vb rfl tf_46_2 ts_3 (by decide)) rfl ?_
             refine Va (Vh rfl (Vg rfl rfl) rfl ta_3 rfl) rfl ?_
             refine Va (Yh rfl rfl) rfl ?_
             refine Va (Vn rfl) rfl ?_
             refine Xl rfl rfl c28 ?_
             refine Va (Vb rfl tf_46_2 ts_3 (by decide)) rfl ?_
             refine Xl rfl rfl c28 ?_
             refine Va (Vh rfl (Vg rfl rfl) rfl ta_3 rfl) rfl ?_
             refine Xl rfl rfl c28 ?_
             refine Va (Zp rfl rfl) rfl ?_
             refine Va (Vx (congrArg Wc c28) rfl) rfl ?_
             refine Va (Vn rfl) rfl ?_
             refine Vc rfl rfl (Zq c29) rfl ?_
             refine Vc rfl rfl (Zq c29) rfl ?_
             refine Vc rfl rfl (Zq c29) rfl ?_
             refine Va (Vw (congrArg Wc c29) rfl) rfl ?_
             refine Va (Vn rfl) rfl ?_
             refine Vc rfl rfl (by decide) rfl ?_
             refine Vc rfl rfl (by decide) rfl ?_
             refine Vc rfl rfl (by decide) rfl ?_
             refine Va (Vw rfl rfl) rfl ?_
             refine Ve ?_
             obtain rfl := Wd hF
             refine Vz ?_
             exact Vl ⟨rfl, rfl, rfl, rfl, rfl, rfl, trivial⟩
            ·have hF := Yj c29 hF
             rcases Wg (decide (x19.Area < 1)) with c30 | c30
             ·have hF := Yi c30 hF
              refine Va (Vb rfl tf_46_2 ts_3 (by decide)) rfl ?_
              refine Va (Vh rfl (Vg rfl rfl) rfl ta_3 rfl) rfl ?_
              refine Va (Yh rfl rfl) rfl ?_
              refine Va (Vn rfl) rfl ?_
              refine Xl rfl rfl c28 ?_
              refine Va (Vb rfl tf_46_2 ts_3 (by decide)) rfl ?_
              refine Xl rfl rfl c28 ?_
              refine Va (Vh rfl (Vg rfl rfl) rfl ta_3 rfl) rfl ?_
              refine Xl rfl rfl c28 ?_
              refine Va (Zp rfl rfl) rfl ?_
              refine Va (Vx (congrArg Wc c28) rfl) rfl ?_
              refine Va (Vn rfl) rfl ?_
              refine Xl rfl rfl c29 ?_
              refine Va (Vb rfl tf_46_3 ts_3 (by decide)) rfl ?_
              refine Xl rfl rfl c29 ?_
              refine Va (Vh rfl (Vg rfl rfl) rfl ta_3 rfl) rfl ?_
              refine Xl rfl rfl c29 ?_
              refine Va (Yh rfl rfl) rfl ?_
              refine Va (Vx (congrArg Wc c29) rfl) rfl ?_
              refine Va (Vn rfl) rfl ?_
              refine Vc rfl rfl (Zq c30) rfl ?_
              refine Vc rfl rfl (Zq c30) rfl ?_
              refine Vc rfl rfl (Zq c30) rfl ?_
              refine Va (Vw (congrArg Wc c30) rfl) rfl ?_
              refine Ve ?_
              obtain rfl := Wd hF
              refine Vz ?_
              exact Vl ⟨rfl, rfl, rfl, rfl, rfl, rfl, trivial⟩
             ·have hF := Yj c30 hF
              refine Va (Vb rfl tf_46_2 ts_3 (by decide)) rfl ?_
              refine Va (Vh rfl (Vg rfl rfl) rfl ta_3 rfl) rfl ?_
              refine Va (Yh rfl rfl) rfl ?_
              refine Va (Vn rfl) rfl ?_
              refine Xl rfl rfl c28 ?_
              refine Va (Vb rfl tf_46_2 ts_3 (by decide)) rfl ?_
              refine Xl rfl rfl c28 ?_
              refine Va (Vh rfl (Vg rfl rfl) rfl ta_3 rfl) rfl ?_
              refine Xl rfl rfl c28 ?_
              refine Va (Zp rfl rfl) rfl ?_
              refine Va (Vx (congrArg Wc c28) rfl) rfl ?_
              refine Va (Vn rfl) rfl ?_
              refine Xl rfl rfl c29 ?_
              refine Va (Vb rfl tf_46_3 ts_3 (by decide)) rfl ?_
              refine Xl rfl rfl c29 ?_
              refine Va (Vh rfl (Vg rfl rfl) rfl ta_3 rfl) rfl ?_
              refine Xl rfl rfl c29 ?_
              refine Va (Yh rfl rfl) rfl ?_
              refine Va (Vx (congrArg Wc c29) rfl) rfl ?_
              refine Va (Vn rfl) rfl ?_
              refine Xl rfl rfl c30 ?_
              refine Va (Vb rfl tf_46_3 ts_3 (by decide)) rfl ?_
              refine Xl rfl rfl c30 ?_
              refine Va (Vh rfl (Vg rfl rfl) rfl ta_3 rfl) rfl ?_
              refine Xl rfl rfl c30 ?_
              refine Va (Zp rfl rfl) rfl ?_
              refine Va (Vx (congrArg Wc c30) rfl) rfl ?_
              refine Ve ?_
              obtain rfl := Wd hF
              refine Vz ?_
              exact Vl ⟨rfl, rfl, rfl, rfl, rfl, rfl, trivial⟩
          ·rintro _ _ _ _ ⟨rfl, hw⟩
           refine ⟨_, _, _, hw, ?_⟩
           refine Xd rfl (fun c31 => ?_) (fun c31 => ?_)
           ·have hF := Yi c31 hF
            refine Vf ?_
            refine Vd ?_
            refine Va (Xi rfl) rfl ?_
            refine Ve ?_
            refine Xt ?_
            obtain rfl := Wd hF
            refine Vz ?_
            exact Vm rfl [] (by decide) ⟨Vj rfl (.int _ _), trivial⟩ trivial
           ·have hF := Yj c31 hF
            refine Xe ?_
            refine Vf ?_
            obtain ⟨o32, ho32, hF⟩ := Ya hF
            refine Vo (Q' := (fun o32 => OnlyE .normal (fun E' lw lc => Xr E' lw lc [(5, .int .i64 ((p0.Places).length : Int)), (38, .vs 10 (Wa T_Road.enc p0.Roads)), (39, .int .i64 ((p0.Roads).length : Int)), (40, .int .i64 s14), (98, .bool o32)] low [])) o32) ?_ ?_
            ·replace hF := ho32
             refine Vd ?_
             obtain ⟨x33, h34, hF⟩ := Ya hF
             rcases Wg (!x33) with c35 | c35
             ·have hF := Yi c35 hF
              refine Va (Vb rfl tf_46_6 ts_44 (by decide)) rfl ?_
              refine Va (Vy (ds := [.int .i64 x19.Rest.Low, .int .i64 x19.Rest.High]) rfl (Vg rfl rfl) rfl ta_44 ts_44 rfl rfl rfl) rfl ?_
              refine Vi (Xg rfl Try.call50 (F_plan_spanIn_ok h34 _)) rfl ?_
              refine Va (rd_not rfl) rfl ?_
              refine Va (Vn rfl) rfl ?_
              refine Vc rfl rfl (Zq c35) rfl ?_
              refine Vc rfl rfl (Zq c35) rfl ?_
              refine Vc rfl rfl (Zq c35) rfl ?_
              refine Vc rfl rfl (Zq c35) rfl ?_
              refine Va (Vw (congrArg Wc c35) rfl) rfl ?_
              refine Ve ?_
              obtain rfl := Wd hF
              refine Vz ?_
              exact Vm rfl [] (by decide) ⟨Vj rfl (.int _ _), Vj rfl (.vs _ _), Vj rfl (.int _ _), Vj rfl (.int _ _), Vj rfl (.bool _), trivial⟩ trivial
             ·have hF := Yj c35 hF
              obtain ⟨x36, h37, hF⟩ := Ya hF
              refine Va (Vb rfl tf_46_6 ts_44 (by decide)) rfl ?_
              refine Va (Vy (ds := [.int .i64 x19.Rest.Low, .int .i64 x19.Rest.High]) rfl (Vg rfl rfl) rfl ta_44 ts_44 rfl rfl rfl) rfl ?_
              refine Vi (Xg rfl Try.call50 (F_plan_spanIn_ok h34 _)) rfl ?_
              refine Va (rd_not rfl) rfl ?_
              refine Va (Vn rfl) rfl ?_
              refine Xl rfl rfl c35 ?_
              refine Va (Vb rfl tf_46_7 ts_44 (by decide)) rfl ?_
              refine Xl rfl rfl c35 ?_
              refine Va (Vy (ds := [.int .i64 x19.Lift.Low, .int .i64 x19.Lift.High]) rfl (Vg rfl rfl) rfl ta_44 ts_44 rfl rfl rfl) rfl ?_
              refine Xl rfl rfl c35 ?_
              refine Vi (Xg rfl Try.call50 (F_plan_spanIn_ok h37 _)) rfl ?_
              refine Xl rfl rfl c35 ?_
              refine Va (rd_not rfl) rfl ?_
              refine Va (Vx (congrArg Wc c35) rfl) rfl ?_
              refine Ve ?_
              obtain rfl := Wd hF
              refine Vz ?_
              exact Vm rfl [] (by decide) ⟨Vj rfl (.int _ _), Vj rfl (.vs _ _), Vj rfl (.int _ _), Vj rfl (.int _ _), Vj rfl (.bool _), trivial⟩ trivial
            ·rintro _ _ _ _ ⟨rfl, hw⟩
             refine ⟨_, _, _, hw, ?_⟩
             refine Xd rfl (fun c38 => ?_) (fun c38 => ?_)
             ·have hF := Yi c38 hF
              refine Vf ?_
              refine Vd ?_
              refine Va (Xi rfl) rfl ?_
              refine Ve ?_
              refine Xt ?_
              obtain rfl := Wd hF
              refine Vz ?_
              exact Vl ⟨rfl, trivial⟩
             ·have hF := Yj c38 hF
              refine Xe ?_
              refine Vd ?_
              refine Va (Za rfl rfl rfl) rfl ?_
              refine Va (Vk rfl) rfl ?_
              refine Ve ?_
              obtain rfl := Wd hF
              refine Vz ?_
              exact Vl ⟨rfl, rfl, rfl, rfl, trivial⟩
       ·have hF := Yj c18 hF
        refine Yr ?_
        obtain rfl := Wd hF
        refine Vz ?_
        exact Vl trivial
      ·rcases o15 with j16 | j17
       ·replace hF := elimL hF
        rintro _ _ _ _ ⟨rfl, hw⟩
        refine ⟨_, _, _, hw, ?_⟩
        obtain rfl := Wd hF
        refine fnR ?_
        exact Vl ⟨rfl, trivial⟩
       ·replace hF := elimR hF
        rintro _ _ _ _ ⟨rfl, hw⟩
        refine ⟨_, _, _, hw, ?_⟩
        refine Vf ?_
        refine Vd ?_
        refine Va (Xi rfl) rfl ?_
        refine Ve ?_
        refine Xt ?_
        obtain rfl := Wd hF
        refine fnR ?_
        exact Vl ⟨rfl, trivial⟩
 ·rintro _ _ _ _ ⟨he, hw⟩
  refine ⟨_, _, _, hw, ?_⟩
  exact Yu he [.int .i64 r] ⟨rfl, trivial⟩ (.int _ _) ⟨rfl, rfl⟩

theorem F_plan_Valid_ok {p0 : T_Mine} {r : Bool} (hF : F_plan_Valid p0 = some r) (low : List AObj) :
    Zd Try.prog 41 [.agg [.vs 2 (Wa T_Place.enc p0.Places), .vs 10 (Wa T_Road.enc p0.Roads)]] low fun x low' => x = .bool r ∧ low' = low := by
 refine Xh (nt := 6) (rs := [.tmp 2]) Try.func41 rfl rfl (We rfl) rfl ?_
 refine Vo (Q' := FnE (fun E' lw lc => Xr E' lw lc [(2, .bool r)] low [])) ?_ ?_
 ·unfold F_plan_Valid at hF
  refine Vf ?_
  refine Vd ?_
  refine Vi (Zo rfl rfl (v := .agg [.vs 2 (Wa T_Place.enc p0.Places), .vs 10 (Wa T_Road.enc p0.Roads)]) rfl rfl (Wf _) rfl rfl) rfl ?_
  refine Va (Zc rfl) rfl ?_
  refine Ve ?_
  refine Vf ?_
  refine Vd ?_
  obtain ⟨x1, h2, hF⟩ := Ya hF
  refine Va (Vy (ds := [.vs 2 (Wa T_Place.enc p0.Places), .vs 10 (Wa T_Road.enc p0.Roads)]) rfl (Vg rfl rfl) rfl ta_27 ts_27 rfl rfl rfl) rfl ?_
  refine Vi (Xg rfl Try.call47 (F_plan_Check_ok h2 _)) rfl ?_
  refine Va (Zn rfl rfl) rfl ?_
  refine Va (Zc rfl) rfl ?_
  refine Ve ?_
  refine Xt ?_
  obtain rfl := Wd hF
  refine fnR ?_
  exact Vm rfl [] (by decide) ⟨Vj rfl (.bool _), trivial⟩ trivial
 ·rintro _ _ _ _ ⟨he, hw⟩
  refine ⟨_, _, _, hw, ?_⟩
  exact Yu he [.bool r] ⟨rfl, trivial⟩ (.bool _) ⟨rfl, rfl⟩

theorem F_recirculate_arcs_ok {p0 : T_Mine} {p1 : List T_Span} {r : List T_recirculate_arc × Bool} (hF : F_recirculate_arcs p0 p1 = some r) (low : List AObj) :
    Zd Try.prog 30 [.agg [.vs 2 (Wa T_Place.enc p0.Places), .vs 10 (Wa T_Road.enc p0.Roads)], .vs 2 (Wa T_Span.enc p1)] low fun x low' => x = .tup [.vs 3 (Wa T_recirculate_arc.enc r.1), .bool r.2] ∧ low' = low := by
 refine Xh (nt := 62) (rs := [.tmp 4, .tmp 5]) Try.func30 rfl rfl (We rfl) rfl ?_
 refine Vo (Q' := FnE (fun E' lw lc => Xr E' lw lc [(4, .vs 3 (Wa T_recirculate_arc.enc r.1)), (5, .bool r.2)] low [])) ?_ ?_
 ·unfold F_recirculate_arcs at hF
  refine Vf ?_
  refine Vd ?_
  refine Vi (Zo rfl rfl (v := .agg [.vs 2 (Wa T_Place.enc p0.Places), .vs 10 (Wa T_Road.enc p0.Roads)]) rfl rfl (Wf _) rfl rfl) rfl ?_
  refine Va (rd_nv (sz := 3) (rd_asN rfl)) rfl ?_
  refine Va (Zc rfl) rfl ?_
  refine Ve ?_
  refine Vf ?_
  refine Vf ?_
  obtain ⟨o1, ho1, hF⟩ := Ya hF
  refine Vo (Q' := (fun o1 => OnlyE .normal (fun E' lw lc => Xr E' lw lc [(1, .vs 2 (Wa T_Span.enc p1)), (2, .ptr (low.length + 0) 0 0 0), (19, .bool o1)] low [⟨27, 2, [.agg [.vs 2 (Wa T_Place.enc p0.Places), .vs 10 (Wa T_Road.enc p0.Roads)]], 0⟩])) o1) ?_ ?_
  ·replace hF := ho1
   refine Vd ?_
   obtain ⟨x2, h3, hF⟩ := Ya hF
   rcases Wg (!x2) with c4 | c4
   ·have hF := Yi c4 hF
    refine Va (Vy (ds := [.vs 2 (Wa T_Place.enc p0.Places), .vs 10 (Wa T_Road.enc p0.Roads)]) rfl (Vg rfl rfl) rfl ta_27 ts_27 rfl rfl rfl) rfl ?_
    refine Vi (Xg rfl Try.call41 (F_plan_Valid_ok h3 _)) rfl ?_
    refine Va (rd_not rfl) rfl ?_
    refine Va (Vn rfl) rfl ?_
    refine Vc rfl rfl (Zq c4) rfl ?_
    refine Vc rfl rfl (Zq c4) rfl ?_
    refine Vc rfl rfl (Zq c4) rfl ?_
    refine Vc rfl rfl (Zq c4) rfl ?_
    refine Vc rfl rfl (Zq c4) rfl ?_
    refine Vc rfl rfl (Zq c4) rfl ?_
    refine Va (Vw (congrArg Wc c4) rfl) rfl ?_
    refine Ve ?_
    obtain rfl := Wd hF
    refine Vz ?_
    exact Vl ⟨rfl, rfl, rfl, trivial⟩
   ·have hF := Yj c4 hF
    refine Va (Vy (ds := [.vs 2 (Wa T_Place.enc p0.Places), .vs 10 (Wa T_Road.enc p0.Roads)]) rfl (Vg rfl rfl) rfl ta_27 ts_27 rfl rfl rfl) rfl ?_
    refine Vi (Xg rfl Try.call41 (F_plan_Valid_ok h3 _)) rfl ?_
    refine Va (rd_not rfl) rfl ?_
    refine Va (Vn rfl) rfl ?_
    refine Xl rfl rfl c4 ?_
    refine Va (Yc rfl) rfl ?_
    refine Xl rfl rfl c4 ?_
    refine Va (Xm (Xy rfl rfl te_23) (congrArg (fun n : Nat => Wb .i64 (n : Int)) (Wh _))) rfl ?_
    refine Xl rfl rfl c4 ?_
    refine Va (Vb rfl tf_27_1 ts_25 (by decide)) rfl ?_
    refine Xl rfl rfl c4 ?_
    refine Va (Vh rfl (Vg rfl rfl) rfl ta_25 rfl) rfl ?_
    refine Xl rfl rfl c4 ?_
    refine Va (Xm (Xy rfl rfl te_25) (congrArg (fun n : Nat => Wb .i64 (n : Int)) (Wh _))) rfl ?_
    refine Xl rfl rfl c4 ?_
    refine Va (rd_neq rfl rfl) rfl ?_
    refine Va (Vx (congrArg Wc c4) rfl) rfl ?_
    refine Ve ?_
    obtain rfl := Wd hF
    refine Vz ?_
    exact Vl ⟨rfl, rfl, rfl, trivial⟩
  ·rintro _ _ _ _ ⟨rfl, hw⟩
   refine ⟨_, _, _, hw, ?_⟩
   refine Xd rfl (fun c5 => ?_) (fun c5 => ?_)
   ·have hF := Yi c5 hF
    refine Vf ?_
    refine Vd ?_
    refine Va (rd_nv (sz := 3) (rd_asN rfl)) rfl ?_
    refine Va (Zc rfl) rfl ?_
    refine Ve ?_
    refine Xt ?_
    obtain rfl := Wd hF
    refine fnR ?_
    exact Vm rfl [] (by decide) ⟨Vj rfl (.vs _ _), Vj rfl (.bool _), trivial⟩ trivial
   ·have hF := Yj c5 hF
    refine Xe ?_
    refine Vf ?_
    refine Vd ?_
    refine Vi (vef_nilsN rfl rfl 78 3 (Wf _) (rd_asN rfl)) rfl ?_
    refine Ve ?_
    refine Vf ?_
    refine Vf ?_
    refine Vd ?_
    refine Va (Vb rfl tf_27_1 ts_25 (by decide)) rfl ?_
    refine Va (Vh rfl (Vg rfl rfl) rfl ta_25 rfl) rfl ?_
    refine Va (Xm (Xy rfl rfl te_25) (congrArg (fun n : Nat => Wb .i64 (n : Int)) (Wh _))) rfl ?_
    refine Va (Vk rfl) rfl ?_
    refine Ve ?_
    refine Xa ?_
    obtain ⟨o7, ho7, hF⟩ := Ya hF
    refine Vo (Yk (F_recirculate_arcs_L1 p0 p1) (fun s6 E' lw lc => Xr E' lw lc [(1, .vs 2 (Wa T_Span.enc p1)), (6, .sl (low.length + 0) 0 0 (s6.2).length), (21, .vs 10 (Wa T_Road.enc p0.Roads)), (22, .int .i64 ((p0.Roads).length : Int)), (23, .int .i64 s6.1)] low [⟨78, 3, Wa T_recirculate_arc.enc s6.2, 0⟩]) (fun o7 => OnlyE (.exit 0) (fun E' lw lc => Xr E' lw lc [(6, .sl (low.length + 0) 0 0 (o7).length)] low [⟨78, 3, Wa T_recirculate_arc.enc o7, 0⟩])) ho7 ?_ (by rintro _ _ _ _ ⟨h, _⟩ <;> cases h) ?_) ?_
    ·exact Vm rfl [(1, 0)] (by decide) ⟨Vj rfl (.vs _ _), Xx 0 1 rfl rfl, Vj rfl (.vs _ _), Vj rfl (.int _ _), Vj rfl (.int _ _), trivial⟩ ⟨⟨_, rfl, rfl, .same _ _ _ _ (Vq trivial)⟩, trivial⟩
    ·rintro s6 os6 _ _ _ hF hw
     unfold F_recirculate_arcs_L1 at hF
     refine Yd hw ?_
     refine Vf ?_
     refine Vd ?_
     refine Va (Yh rfl rfl) rfl ?_
     refine Ve ?_
     refine Vf ?_
     refine Xd rfl (fun c8 => ?_) (fun c8 => ?_)
     ·have hF := Yi c8 hF
      refine Xe ?_
      refine Vf ?_
      obtain ⟨o9, ho9, hF⟩ := Ya hF
      refine Vo (Q' := (fun o9 => OnlyE .normal (fun E' lw lc => Xr E' lw lc [(1, .vs 2 (Wa T_Span.enc p1)), (6, .sl (low.length + 0) 0 0 (o9).length), (21, .vs 10 (Wa T_Road.enc p0.Roads)), (22, .int .i64 ((p0.Roads).length : Int)), (23, .int .i64 s6.1)] low [⟨78, 3, Wa T_recirculate_arc.enc o9, 0⟩])) o9) ?_ ?_
      ·replace hF := ho9
       refine Xa ?_
       refine Vf ?_
       refine Vd ?_
       obtain ⟨x10, h11, hF⟩ := Ya hF
       refine Va (Vk rfl) rfl ?_
       refine Va (Xm (Xz rfl rfl h11 te_25 ts_46) (v' := .vptr [.int .i64 x10.From, .int .i64 x10.To, .int .i64 x10.Length, .int .i64 x10.Area, .bool x10.Walk, .bool x10.Closed, .int .i64 x10.Rest.Low, .int .i64 x10.Rest.High, .int .i64 x10.Lift.Low, .int .i64 x10.Lift.High] 0) rfl) rfl ?_
       refine Va (Zi (ds := [.int .i64 x10.From, .int .i64 x10.To, .int .i64 x10.Length, .int .i64 x10.Area, .bool x10.Walk, .bool x10.Closed, .int .i64 x10.Rest.Low, .int .i64 x10.Rest.High, .int .i64 x10.Lift.Low, .int .i64 x10.Lift.High]) rfl ta_46 ts_46 rfl rfl) rfl ?_
       refine Vi (Xp rfl rfl tz_46 rfl rfl (Wf _) rfl) rfl ?_
       refine Va (Xi rfl) rfl ?_
       refine Vi (Xb (p := .agg [.int .i64 x10.From, .int .i64 x10.To, .int .i64 x10.Length, .int .i64 x10.Area, .bool x10.Walk, .bool x10.Closed, .int .i64 x10.Rest.Low, .int .i64 x10.Rest.High, .int .i64 x10.Lift.Low, .int .i64 x10.Lift.High]) (e' := .agg [.int .i64 x10.From, .int .i64 x10.To, .int .i64 x10.Length, .int .i64 x10.Area, .bool x10.Walk, .bool x10.Closed, .int .i64 x10.Rest.Low, .int .i64 x10.Rest.High, .int .i64 x10.Lift.Low, .int .i64 x10.Lift.High]) rfl (Vg rfl rfl) rfl rfl ts_46 rfl (Yn rfl) rfl (We rfl) rfl (Xn rfl rfl)) rfl ?_
       refine Ve ?_
       refine Vf ?_
       refine Vf ?_
       refine Vd ?_
       refine Va (Vb rfl tf_46_5 ts_4 (by decide)) rfl ?_
       refine Va (Vh rfl (Vg rfl rfl) rfl ta_4 rfl) rfl ?_
       refine Ve ?_
       refine Xd rfl (fun c12 => ?_) (fun c12 => ?_)
       ·have hF := Yi c12 hF
        refine Yr ?_
        obtain rfl := Wd hF
        refine Vz ?_
        exact Vm rfl [(0, 0)] (by decide) ⟨Vj rfl (.vs _ _), Xx 0 0 rfl rfl, Vj rfl (.vs _ _), Vj rfl (.int _ _), Vj rfl (.int _ _), trivial⟩ ⟨⟨_, rfl, rfl, .same _ _ _ _ (Vs T_recirculate_arc.enc_lt)⟩, trivial⟩
       ·have hF := Yj c12 hF
        refine Xe ?_
        refine Vf ?_
        refine Vf ?_
        refine Vd ?_
        obtain ⟨x13, h14, hF⟩ := Ya hF
        refine Va (Yc rfl) rfl ?_
        refine Va (Vk rfl) rfl ?_
        refine Va (Xm (Xz rfl rfl h14 te_23 ts_44) (v' := .vptr [.int .i64 x13.Low, .int .i64 x13.High] 0) rfl) rfl ?_
        refine Va (Yg rfl tf_44_1 ts_3 (by decide)) rfl ?_
        refine Va (Xs rfl ta_3 rfl) rfl ?_
        refine Va (Zp rfl rfl) rfl ?_
        refine Ve ?_
        obtain ⟨o15, ho15, hF⟩ := Ya hF
        refine Vo (Q' := (fun o15 => OnlyE .normal (fun E' lw lc => Xr E' lw lc [(1, .vs 2 (Wa T_Span.enc p1)), (6, .sl (low.length + 0) 0 0 (o15).length), (7, .int .i64 s6.1), (8, .ptr (low.length + 1) 0 0 0), (21, .vs 10 (Wa T_Road.enc p0.Roads)), (22, .int .i64 ((p0.Roads).length : Int)), (23, .int .i64 s6.1)] low [⟨78, 3, Wa T_recirculate_arc.enc o15, 0⟩, ⟨46, 10, [.agg [.int .i64 x10.From, .int .i64 x10.To, .int .i64 x10.Length, .int .i64 x10.Area, .bool x10.Walk, .bool x10.Closed, .int .i64 x10.Rest.Low, .int .i64 x10.Rest.High, .int .i64 x10.Lift.Low, .int .i64 x10.Lift.High]], 0⟩])) o15) ?_ ?_
        ·replace hF := ho15
         refine Xd rfl (fun c16 => ?_) (fun c16 => ?_)
         ·have hF := Yi c16 hF
          refine Vd ?_
          obtain ⟨x17, h18, hF⟩ := Ya hF
          refine Va (Yx rfl) rfl ?_
          refine Va (Vk rfl) rfl ?_
          refine Va (Vb rfl tf_46_0 ts_3 (by decide)) rfl ?_
          refine Va (Vh rfl (Vg rfl rfl) rfl ta_3 rfl) rfl ?_
          refine Va (Vb rfl tf_46_1 ts_3 (by decide)) rfl ?_
          refine Va (Vh rfl (Vg rfl rfl) rfl ta_3 rfl) rfl ?_
          refine Va (Yf (vs := [(0, .int .i64 s6.1), (1, .int .i64 x10.From), (2, .int .i64 x10.To)]) (ds := [.int .i64 s6.1, .int .i64 x10.From, .int .i64 x10.To]) tz_78 rfl rfl tp_78 ⟨rfl, rfl, rfl, rfl, rfl, rfl, trivial⟩ (Yl rfl) rfl) rfl ?_
          refine Vi (Yt (es := Wa T_recirculate_arc.enc [(T_recirculate_arc.mk s6.1 x10.From x10.To)]) ⟨rfl, rfl, trivial⟩ rfl rfl (Zg rfl) te_74 ts_78 tz_78 rfl rfl (Wf _) (by decide) (Ym T_recirculate_arc.enc_lt)) rfl ?_
          refine Vi (Zu (f := T_recirculate_arc.enc) (l := s6.2) (ys := [(T_recirculate_arc.mk s6.1 x10.From x10.To)]) rfl rfl (Vg rfl rfl) rfl (Zx rfl) te_74 ts_78 tb_78 (by decide) tz_78 rfl h18 (Xn rfl rfl)) rfl ?_
          refine Va (Zy rfl) rfl ?_
          refine Ve ?_
          obtain rfl := Wd hF
          refine Vz ?_
          exact Vm rfl [(0, 0 + 1), (1, 0)] (by decide) ⟨Vj rfl (.vs _ _), Xx 0 0 rfl rfl, Vj rfl (.int _ _), Vu 1 1 rfl rfl, Vj rfl (.vs _ _), Vj rfl (.int _ _), Vj rfl (.int _ _), trivial⟩ ⟨⟨_, rfl, rfl, .same _ _ _ _ (Vs T_recirculate_arc.enc_lt)⟩, ⟨_, rfl, rfl, .same _ _ _ _ (Vq ⟨Vp ⟨.int _ _, .int _ _, .int _ _, .int _ _, .bool _, .bool _, .int _ _, .int _ _, .int _ _, .int _ _, trivial⟩, trivial⟩)⟩, trivial⟩
         ·have hF := Yj c16 hF
          refine Xe ?_
          obtain rfl := Wd hF
          refine Vz ?_
          exact Vl ⟨rfl, rfl, rfl, rfl, rfl, rfl, rfl, trivial⟩
        ·rintro _ _ _ _ ⟨rfl, hw⟩
         refine ⟨_, _, _, hw, ?_⟩
         refine Vf ?_
         refine Vd ?_
         obtain ⟨x19, h20, hF⟩ := Ya hF
         refine Va (Yc rfl) rfl ?_
         refine Va (Vk rfl) rfl ?_
         refine Va (Xm (Xz rfl rfl h20 te_23 ts_44) (v' := .vptr [.int .i64 x19.Low, .int .i64 x19.High] 0) rfl) rfl ?_
         refine Va (Yg rfl tf_44_0 ts_3 (by decide)) rfl ?_
         refine Va (Xs rfl ta_3 rfl) rfl ?_
         refine Va (Yh rfl rfl) rfl ?_
         refine Ve ?_
         refine Xd rfl (fun c21 => ?_) (fun c21 => ?_)
         ·have hF := Yi c21 hF
          refine Vd ?_
          obtain ⟨x22, h23, hF⟩ := Ya hF
          refine Va (Yx rfl) rfl ?_
          refine Va (Vk rfl) rfl ?_
          refine Va (Vb rfl tf_46_1 ts_3 (by decide)) rfl ?_
          refine Va (Vh rfl (Vg rfl rfl) rfl ta_3 rfl) rfl ?_
          refine Va (Vb rfl tf_46_0 ts_3 (by decide)) rfl ?_
          refine Va (Vh rfl (Vg rfl rfl) rfl ta_3 rfl) rfl ?_
          refine Va (Yf (vs := [(0, .int .i64 s6.1), (1, .int .i64 x10.To), (2, .int .i64 x10.From)]) (ds := [.int .i64 s6.1, .int .i64 x10.To, .int .i64 x10.From]) tz_78 rfl rfl tp_78 ⟨rfl, rfl, rfl, rfl, rfl, rfl, trivial⟩ (Yl rfl) rfl) rfl ?_
          refine Vi (Yt (es := Wa T_recirculate_arc.enc [(T_recirculate_arc.mk s6.1 x10.To x10.From)]) ⟨rfl, rfl, trivial⟩ rfl rfl (Zg rfl) te_74 ts_78 tz_78 rfl rfl (Wf _) (by decide) (Ym T_recirculate_arc.enc_lt)) rfl ?_
          refine Vi (Zu (f := T_recirculate_arc.enc) (l := o15) (ys := [(T_recirculate_arc.mk s6.1 x10.To x10.From)]) rfl rfl (Vg rfl rfl) rfl (Zx rfl) te_74 ts_78 tb_78 (by decide) tz_78 rfl h23 (Xn rfl rfl)) rfl ?_
          refine Va (Zy rfl) rfl ?_
          refine Ve ?_
          obtain rfl := Wd hF
          refine Vz ?_
          exact Vm rfl [(0, 0 + 1)] (by decide) ⟨Vj rfl (.vs _ _), Xx 0 0 rfl rfl, Vj rfl (.vs _ _), Vj rfl (.int _ _), Vj rfl (.int _ _), trivial⟩ ⟨⟨_, rfl, rfl, .same _ _ _ _ (Vs T_recirculate_arc.enc_lt)⟩, trivial⟩
         ·have hF := Yj c21 hF
          refine Xe ?_
          obtain rfl := Wd hF
          refine Vz ?_
          exact Vm rfl [(0, 0)] (by decide) ⟨Vj rfl (.vs _ _), Xx 0 0 rfl rfl, Vj rfl (.vs _ _), Vj rfl (.int _ _), Vj rfl (.int _ _), trivial⟩ ⟨⟨_, rfl, rfl, .same _ _ _ _ (Vs T_recirculate_arc.enc_lt)⟩, trivial⟩
      ·rintro _ _ _ _ ⟨rfl, hw⟩
       refine ⟨_, _, _, hw, ?_⟩
       refine Vd ?_
       refine Va (Za rfl rfl rfl) rfl ?_
       refine Va (Vk rfl) rfl ?_
       refine Ve ?_
       obtain rfl := Wd hF
       refine Vz ?_
       exact Vl ⟨rfl, rfl, rfl, rfl, rfl, trivial⟩
     ·have hF := Yj c8 hF
      refine Yr ?_
      obtain rfl := Wd hF
      refine Vz ?_
      exact Vl ⟨rfl, trivial⟩
    ·rintro _ _ _ _ ⟨rfl, hw⟩
     refine ⟨_, _, _, hw, ?_⟩
     refine Vf ?_
     refine Vd ?_
     refine Va (Yx rfl) rfl ?_
     refine Va (Zy rfl) rfl ?_
     refine Va (Zc rfl) rfl ?_
     refine Ve ?_
     refine Xt ?_
     obtain rfl := Wd hF
     refine fnR ?_
     refine Weak.trans (Ys (E' := [(4, .vs 3 (Wa T_recirculate_arc.enc o7)), (5, .bool true)]) (loc1 := [⟨78, 3, [], 0 + 1⟩]) rfl 0 rfl (Ym T_recirculate_arc.enc_lt) ⟨cv_sl rfl rfl rfl (Zb rfl), Vt rfl, trivial⟩ ⟨.refl _, trivial⟩) ?_
     exact Vm rfl [] (by decide) ⟨Vj rfl (.vs _ _), Vj rfl (.bool _), trivial⟩ trivial
 ·rintro _ _ _ _ ⟨he, hw⟩
  refine ⟨_, _, _, hw, ?_⟩
  exact Yu he [.vs 3 (Wa T_recirculate_arc.enc r.1), .bool r.2] ⟨rfl, rfl, trivial⟩ ((lt_tup ⟨.vs _ _, .bool _, trivial⟩)) ⟨rfl, rfl⟩

theorem F_recirculate_Ways_ok {p0 : T_Mine} {p1 : List T_Span} {r : List A2_Int} (hF : F_recirculate_Ways p0 p1 = some r) (low : List AObj) :
    Zd Try.prog 9 [.agg [.vs 2 (Wa T_Place.enc p0.Places), .vs 10 (Wa T_Road.enc p0.Roads)], .vs 2 (Wa T_Span.enc p1)] low fun x low' => x = .vs 2 (Wa A2_Int.enc r) ∧ low' = low := by
 refine Xh (nt := 32) (rs := [.tmp 4]) Try.func9 rfl rfl (We rfl) rfl ?_
 refine Vo (Q' := FnE (fun E' lw lc => Xr E' lw lc [(4, .vs 2 (Wa A2_Int.enc r))] low [])) ?_ ?_
 ·unfold F_recirculate_Ways at hF
  refine Vf ?_
  refine Vd ?_
  refine Vi (Zo rfl rfl (v := .agg [.vs 2 (Wa T_Place.enc p0.Places), .vs 10 (Wa T_Road.enc p0.Roads)]) rfl rfl (Wf _) rfl rfl) rfl ?_
  refine Va (rd_nv (sz := 2) (rd_asN rfl)) rfl ?_
  refine Ve ?_
  refine Vf ?_
  refine Vd ?_
  obtain ⟨x1, h2, hF⟩ := Ya hF
  refine Va (Vy (ds := [.vs 2 (Wa T_Place.enc p0.Places), .vs 10 (Wa T_Road.enc p0.Roads)]) rfl (Vg rfl rfl) rfl ta_27 ts_27 rfl rfl rfl) rfl ?_
  refine Va (Yc rfl) rfl ?_
  refine Vi (Xg rfl Try.call30 (F_recirculate_arcs_ok h2 _)) rfl ?_
  refine Va (rd_mvT rfl) rfl ?_
  refine Va (Zr rfl rfl) rfl ?_
  refine Va (Zr rfl rfl) rfl ?_
  refine Va (rd_asV rfl) rfl ?_
  refine Va (Zc rfl) rfl ?_
  refine Ve ?_
  refine Vf ?_
  refine Vd ?_
  refine Vi (vef_nilsN rfl rfl 40 2 (Wf _) (rd_asN rfl)) rfl ?_
  refine Ve ?_
  refine Vf ?_
  refine Vf ?_
  refine Vd ?_
  refine Va (Yc rfl) rfl ?_
  refine Va (Xm (Xy rfl rfl te_74) (congrArg (fun n : Nat => Wb .i64 (n : Int)) (Wh _))) rfl ?_
  refine Va (Vk rfl) rfl ?_
  refine Ve ?_
  refine Xa ?_
  obtain ⟨o4, ho4, hF⟩ := Ya hF
  refine Vo (Yk (F_recirculate_Ways_L1 x1) (fun s3 E' lw lc => Xr E' lw lc [(7, .sl (low.length + 0) 0 0 (s3.2).length), (16, .vs 3 (Wa T_recirculate_arc.enc x1.1)), (17, .int .i64 ((x1.1).length : Int)), (18, .int .i64 s3.1)] low [⟨40, 2, Wa A2_Int.enc s3.2, 0⟩]) (fun o4 => OnlyE (.exit 0) (fun E' lw lc => Xr E' lw lc [(7, .sl (low.length + 0) 0 0 (o4).length)] low [⟨40, 2, Wa A2_Int.enc o4, 0⟩])) ho4 ?_ (by rintro _ _ _ _ ⟨h, _⟩ <;> cases h) ?_) ?_
  ·exact Vm rfl [(1, 0)] (by decide) ⟨Xx 0 1 rfl rfl, Vj rfl (.vs _ _), Vj rfl (.int _ _), Vj rfl (.int _ _), trivial⟩ ⟨⟨_, rfl, rfl, .same _ _ _ _ (Vq trivial)⟩, trivial⟩
  ·rintro s3 os3 _ _ _ hF hw
   unfold F_recirculate_Ways_L1 at hF
   refine Yd hw ?_
   refine Vf ?_
   refine Vd ?_
   refine Va (Yh rfl rfl) rfl ?_
   refine Ve ?_
   refine Vf ?_
   refine Xd rfl (fun c5 => ?_) (fun c5 => ?_)
   ·have hF := Yi c5 hF
    refine Xe ?_
    refine Vf ?_
    refine Xa ?_
    refine Vf ?_
    refine Vd ?_
    obtain ⟨x6, h7, hF⟩ := Ya hF
    refine Va (Xm (Xz rfl rfl h7 te_74 ts_78) (v' := .vptr [.int .i64 x6.road, .int .i64 x6.from_, .int .i64 x6.to_] 0) rfl) rfl ?_
    refine Va (Zi (ds := [.int .i64 x6.road, .int .i64 x6.from_, .int .i64 x6.to_]) rfl ta_78 ts_78 rfl rfl) rfl ?_
    refine Vi (Xp rfl rfl tz_78 rfl rfl (Wf _) rfl) rfl ?_
    refine Vi (Xb (p := .agg [.int .i64 x6.road, .int .i64 x6.from_, .int .i64 x6.to_]) (e' := .agg [.int .i64 x6.road, .int .i64 x6.from_, .int .i64 x6.to_]) rfl (Vg rfl rfl) rfl rfl ts_78 rfl (Yn rfl) rfl (We rfl) rfl (Xn rfl rfl)) rfl ?_
    refine Ve ?_
    refine Vd ?_
    obtain ⟨x8, h9, hF⟩ := Ya hF
    refine Va (Yx rfl) rfl ?_
    refine Va (Vb rfl tf_78_1 ts_3 (by decide)) rfl ?_
    refine Va (Vh rfl (Vg rfl rfl) rfl ta_3 rfl) rfl ?_
    refine Va (Vb rfl tf_78_2 ts_3 (by decide)) rfl ?_
    refine Va (Vh rfl (Vg rfl rfl) rfl ta_3 rfl) rfl ?_
    refine Va (rd_buildA (vs := [(0, .int .i64 x6.from_), (1, .int .i64 x6.to_)]) (ds := [.int .i64 x6.from_, .int .i64 x6.to_]) tz_40 rfl rfl tr_40 ts_3 ⟨rfl, rfl, rfl, rfl, trivial⟩ (Yl rfl) rfl) rfl ?_
    refine Vi (Yt (es := Wa A2_Int.enc [(A2_Int.mk x6.from_ x6.to_)]) ⟨rfl, rfl, trivial⟩ rfl rfl (Zg rfl) te_36 ts_40 tz_40 rfl rfl (Wf _) (by decide) (Ym A2_Int.enc_lt)) rfl ?_
    refine Vi (Zu (f := A2_Int.enc) (l := s3.2) (ys := [(A2_Int.mk x6.from_ x6.to_)]) rfl rfl (Vg rfl rfl) rfl (Zx rfl) te_36 ts_40 tb_40 (by decide) tz_40 rfl h9 (Xn rfl rfl)) rfl ?_
    refine Va (Zy rfl) rfl ?_
    refine Ve ?_
    refine Vd ?_
    refine Va (Za rfl rfl rfl) rfl ?_
    refine Va (Vk rfl) rfl ?_
    refine Ve ?_
    obtain rfl := Wd hF
    refine Vz ?_
    exact Vm rfl [(0, 0 + 1)] (by decide) ⟨Xx 0 0 rfl rfl, Vj rfl (.vs _ _), Vj rfl (.int _ _), Vj rfl (.int _ _), trivial⟩ ⟨⟨_, rfl, rfl, .same _ _ _ _ (Vs A2_Int.enc_lt)⟩, trivial⟩
   ·have hF := Yj c5 hF
    refine Yr ?_
    obtain rfl := Wd hF
    refine Vz ?_
    exact Vl ⟨rfl, trivial⟩
  ·rintro _ _ _ _ ⟨rfl, hw⟩
   refine ⟨_, _, _, hw, ?_⟩
   refine Vf ?_
   refine Vd ?_
   refine Va (Yx rfl) rfl ?_
   refine Va (Zy rfl) rfl ?_
   refine Ve ?_
   refine Xt ?_
   obtain rfl := Wd hF
   refine fnR ?_
   refine Weak.trans (Ys (E' := [(4, .vs 2 (Wa A2_Int.enc o4))]) (loc1 := [⟨40, 2, [], 0 + 1⟩]) rfl 0 rfl (Ym A2_Int.enc_lt) ⟨cv_sl rfl rfl rfl (Zb rfl), trivial⟩ ⟨.refl _, trivial⟩) ?_
   exact Vm rfl [] (by decide) ⟨Vj rfl (.vs _ _), trivial⟩ trivial
 ·rintro _ _ _ _ ⟨he, hw⟩
  refine ⟨_, _, _, hw, ?_⟩
  exact Yu he [.vs 2 (Wa A2_Int.enc r)] ⟨rfl, trivial⟩ (.vs _ _) ⟨rfl, rfl⟩

theorem F_ref01_Span_ok {p0 : T_Span} {p1 : Int} {p2 : Int} {r : Bool} (hF : F_ref01_Span p0 p1 p2 = some r) (low : List AObj) :
    Zd Try.prog 48 [.agg [.int .i64 p0.Low, .int .i64 p0.High], .int .i64 p1, .int .i64 p2] low fun x low' => x = .bool r ∧ low' = low := by
 refine Xh (nt := 24) (rs := [.tmp 6]) Try.func48 rfl rfl (We rfl) rfl ?_
 refine Vo (Q' := FnE (fun E' lw lc => Xr E' lw lc [(6, .bool r)] low [])) ?_ ?_
 ·unfold F_ref01_Span at hF
  refine Vf ?_
  refine Vd ?_
  refine Vi (Zo rfl rfl (v := .agg [.int .i64 p0.Low, .int .i64 p0.High]) rfl rfl (Wf _) rfl rfl) rfl ?_
  refine Va (Zc rfl) rfl ?_
  refine Ve ?_
  refine Vf ?_
  refine Vd ?_
  rcases Wg (decide (p1 ≤ p0.Low)) with c1 | c1
  ·have hF := Yi c1 hF
   rcases Wg (decide (p0.Low ≤ p0.High)) with c2 | c2
   ·have hF := Yi c2 hF
    refine Va (Vk rfl) rfl ?_
    refine Va (Vb rfl tf_44_0 ts_3 (by decide)) rfl ?_
    refine Va (Vh rfl (Vg rfl rfl) rfl ta_3 rfl) rfl ?_
    refine Va (rd_leq rfl rfl) rfl ?_
    refine Va (Vn rfl) rfl ?_
    refine Xl rfl rfl c1 ?_
    refine Va (Vb rfl tf_44_0 ts_3 (by decide)) rfl ?_
    refine Xl rfl rfl c1 ?_
    refine Va (Vh rfl (Vg rfl rfl) rfl ta_3 rfl) rfl ?_
    refine Xl rfl rfl c1 ?_
    refine Va (Vb rfl tf_44_1 ts_3 (by decide)) rfl ?_
    refine Xl rfl rfl c1 ?_
    refine Va (Vh rfl (Vg rfl rfl) rfl ta_3 rfl) rfl ?_
    refine Xl rfl rfl c1 ?_
    refine Va (rd_leq rfl rfl) rfl ?_
    refine Va (Vw (congrArg Wc c1) rfl) rfl ?_
    refine Va (Vn rfl) rfl ?_
    refine Xl rfl rfl c2 ?_
    refine Va (Vb rfl tf_44_1 ts_3 (by decide)) rfl ?_
    refine Xl rfl rfl c2 ?_
    refine Va (Vh rfl (Vg rfl rfl) rfl ta_3 rfl) rfl ?_
    refine Xl rfl rfl c2 ?_
    refine Va (Vk rfl) rfl ?_
    refine Xl rfl rfl c2 ?_
    refine Va (rd_leq rfl rfl) rfl ?_
    refine Va (Vw (congrArg Wc c2) rfl) rfl ?_
    refine Va (Zc rfl) rfl ?_
    refine Ve ?_
    refine Xt ?_
    obtain rfl := Wd hF
    refine fnR ?_
    exact Vm rfl [] (by decide) ⟨Vj rfl (.bool _), trivial⟩ trivial
   ·have hF := Yj c2 hF
    refine Va (Vk rfl) rfl ?_
    refine Va (Vb rfl tf_44_0 ts_3 (by decide)) rfl ?_
    refine Va (Vh rfl (Vg rfl rfl) rfl ta_3 rfl) rfl ?_
    refine Va (rd_leq rfl rfl) rfl ?_
    refine Va (Vn rfl) rfl ?_
    refine Xl rfl rfl c1 ?_
    refine Va (Vb rfl tf_44_0 ts_3 (by decide)) rfl ?_
    refine Xl rfl rfl c1 ?_
    refine Va (Vh rfl (Vg rfl rfl) rfl ta_3 rfl) rfl ?_
    refine Xl rfl rfl c1 ?_
    refine Va (Vb rfl tf_44_1 ts_3 (by decide)) rfl ?_
    refine Xl rfl rfl c1 ?_
    refine Va (Vh rfl (Vg rfl rfl) rfl ta_3 rfl) rfl ?_
    refine Xl rfl rfl c1 ?_
    refine Va (rd_leq rfl rfl) rfl ?_
    refine Va (Vw (congrArg Wc c1) rfl) rfl ?_
    refine Va (Vn rfl) rfl ?_
    refine Vc rfl rfl (Zw c2) rfl ?_
    refine Vc rfl rfl (Zw c2) rfl ?_
    refine Vc rfl rfl (Zw c2) rfl ?_
    refine Vc rfl rfl (Zw c2) rfl ?_
    refine Va (Vx (congrArg Wc c2) rfl) rfl ?_
    refine Va (Zc rfl) rfl ?_
    refine Ve ?_
    refine Xt ?_
    obtain rfl := Wd hF
    refine fnR ?_
    exact Vm rfl [] (by decide) ⟨Vj rfl (.bool _), trivial⟩ trivial
  ·have hF := Yj c1 hF
   refine Va (Vk rfl) rfl ?_
   refine Va (Vb rfl tf_44_0 ts_3 (by decide)) rfl ?_
   refine Va (Vh rfl (Vg rfl rfl) rfl ta_3 rfl) rfl ?_
   refine Va (rd_leq rfl rfl) rfl ?_
   refine Va (Vn rfl) rfl ?_
   refine Vc rfl rfl (Zw c1) rfl ?_
   refine Vc rfl rfl (Zw c1) rfl ?_
   refine Vc rfl rfl (Zw c1) rfl ?_
   refine Vc rfl rfl (Zw c1) rfl ?_
   refine Vc rfl rfl (Zw c1) rfl ?_
   refine Va (Vx (congrArg Wc c1) rfl) rfl ?_
   refine Va (Vn rfl) rfl ?_
   refine Vc rfl rfl (by decide) rfl ?_
   refine Vc rfl rfl (by decide) rfl ?_
   refine Vc rfl rfl (by decide) rfl ?_
   refine Vc rfl rfl (by decide) rfl ?_
   refine Va (Vx rfl rfl) rfl ?_
   refine Va (Zc rfl) rfl ?_
   refine Ve ?_
   refine Xt ?_
   obtain rfl := Wd hF
   refine fnR ?_
   exact Vm rfl [] (by decide) ⟨Vj rfl (.bool _), trivial⟩ trivial
 ·rintro _ _ _ _ ⟨he, hw⟩
  refine ⟨_, _, _, hw, ?_⟩
  exact Yu he [.bool r] ⟨rfl, trivial⟩ (.bool _) ⟨rfl, rfl⟩

theorem F_ref01_Check_ok {p0 : T_Mine} {r : Int} (hF : F_ref01_Check p0 = some r) (low : List AObj) :
    Zd Try.prog 42 [.agg [.vs 2 (Wa T_Place.enc p0.Places), .vs 10 (Wa T_Road.enc p0.Roads)]] low fun x low' => x = .int .i64 r ∧ low' = low := by
 refine Xh (nt := 109) (rs := [.tmp 2]) Try.func42 rfl rfl (We rfl) rfl ?_
 refine Vo (Q' := FnE (fun E' lw lc => Xr E' lw lc [(2, .int .i64 r)] low [])) ?_ ?_
 ·unfold F_ref01_Check at hF
  refine Vf ?_
  refine Vd ?_
  refine Vi (Zo rfl rfl (v := .agg [.vs 2 (Wa T_Place.enc p0.Places), .vs 10 (Wa T_Road.enc p0.Roads)]) rfl rfl (Wf _) rfl rfl) rfl ?_
  refine Va (Xi rfl) rfl ?_
  refine Ve ?_
  refine Vf ?_
  refine Vf ?_
  obtain ⟨o1, ho1, hF⟩ := Ya hF
  refine Vo (Q' := (fun o1 => OnlyE .normal (fun E' lw lc => Xr E' lw lc [(1, .ptr (low.length + 0) 0 0 0), (16, .bool o1)] low [⟨27, 2, [.agg [.vs 2 (Wa T_Place.enc p0.Places), .vs 10 (Wa T_Road.enc p0.Roads)]], 0⟩])) o1) ?_ ?_
  ·replace hF := ho1
   refine Vd ?_
   rcases Wg (decide (64 < ((p0.Places).length : Int))) with c2 | c2
   ·have hF := Yi c2 hF
    refine Va (Vb rfl tf_27_0 ts_24 (by decide)) rfl ?_
    refine Va (Vh rfl (Vg rfl rfl) rfl ta_24 rfl) rfl ?_
    refine Va (Xm (Xy rfl rfl te_24) (congrArg (fun n : Nat => Wb .i64 (n : Int)) (Wh _))) rfl ?_
    refine Va (Zp rfl rfl) rfl ?_
    refine Va (Vn rfl) rfl ?_
    refine Vc rfl rfl (Zq c2) rfl ?_
    refine Vc rfl rfl (Zq c2) rfl ?_
    refine Vc rfl rfl (Zq c2) rfl ?_
    refine Vc rfl rfl (Zq c2) rfl ?_
    refine Va (Vw (congrArg Wc c2) rfl) rfl ?_
    refine Ve ?_
    obtain rfl := Wd hF
    refine Vz ?_
    exact Vl ⟨rfl, rfl, trivial⟩
   ·have hF := Yj c2 hF
    refine Va (Vb rfl tf_27_0 ts_24 (by decide)) rfl ?_
    refine Va (Vh rfl (Vg rfl rfl) rfl ta_24 rfl) rfl ?_
    refine Va (Xm (Xy rfl rfl te_24) (congrArg (fun n : Nat => Wb .i64 (n : Int)) (Wh _))) rfl ?_
    refine Va (Zp rfl rfl) rfl ?_
    refine Va (Vn rfl) rfl ?_
    refine Xl rfl rfl c2 ?_
    refine Va (Vb rfl tf_27_1 ts_25 (by decide)) rfl ?_
    refine Xl rfl rfl c2 ?_
    refine Va (Vh rfl (Vg rfl rfl) rfl ta_25 rfl) rfl ?_
    refine Xl rfl rfl c2 ?_
    refine Va (Xm (Xy rfl rfl te_25) (congrArg (fun n : Nat => Wb .i64 (n : Int)) (Wh _))) rfl ?_
    refine Xl rfl rfl c2 ?_
    refine Va (Zp rfl rfl) rfl ?_
    refine Va (Vx (congrArg Wc c2) rfl) rfl ?_
    refine Ve ?_
    obtain rfl := Wd hF
    refine Vz ?_
    exact Vl ⟨rfl, rfl, trivial⟩
  ·rintro _ _ _ _ ⟨rfl, hw⟩
   refine ⟨_, _, _, hw, ?_⟩
   refine Xd rfl (fun c3 => ?_) (fun c3 => ?_)
   ·have hF := Yi c3 hF
    refine Vf ?_
    refine Vd ?_
    refine Va (Xi rfl) rfl ?_
    refine Ve ?_
    refine Xt ?_
    obtain rfl := Wd hF
    refine fnR ?_
    exact Vm rfl [] (by decide) ⟨Vj rfl (.int _ _), trivial⟩ trivial
   ·have hF := Yj c3 hF
    refine Xe ?_
    refine Vf ?_
    refine Vf ?_
    refine Vd ?_
    refine Va (Xi rfl) rfl ?_
    refine Ve ?_
    refine Xa ?_
    obtain ⟨o5, ho5, hF⟩ := Ya hF
    refine Vo (Yk (F_ref01_Check_L1 p0) (fun s4 E' lw lc => Xr E' lw lc [(1, .ptr (low.length + 0) 0 0 0), (3, .int .i64 s4)] low [⟨27, 2, [.agg [.vs 2 (Wa T_Place.enc p0.Places), .vs 10 (Wa T_Road.enc p0.Roads)]], 0⟩]) (Sum.elim (fun j6 => OnlyE .ret (fun E' lw lc => Xr E' lw lc [(2, .int .i64 1)] low [])) (fun j7 => OnlyE (.exit 0) (fun E' lw lc => Xr E' lw lc [(1, .ptr (low.length + 0) 0 0 0)] low [⟨27, 2, [.agg [.vs 2 (Wa T_Place.enc p0.Places), .vs 10 (Wa T_Road.enc p0.Roads)]], 0⟩]))) ho5 ?_ (by rintro (_|_) _ _ _ ⟨h, _⟩ <;> cases h) ?_) ?_
    ·exact Vl ⟨rfl, rfl, trivial⟩
    ·rintro s4 os4 _ _ _ hF hw
     unfold F_ref01_Check_L1 at hF
     refine Yd hw ?_
     refine Vf ?_
     refine Vf ?_
     refine Vd ?_
     refine Va (Vk rfl) rfl ?_
     refine Va (Vb rfl tf_27_0 ts_24 (by decide)) rfl ?_
     refine Va (Vh rfl (Vg rfl rfl) rfl ta_24 rfl) rfl ?_
     refine Va (Xm (Xy rfl rfl te_24) (congrArg (fun n : Nat => Wb .i64 (n : Int)) (Wh _))) rfl ?_
     refine Va (Yh rfl rfl) rfl ?_
     refine Ve ?_
     refine Xd rfl (fun c8 => ?_) (fun c8 => ?_)
     ·have hF := Yi c8 hF
      refine Xe ?_
      refine Vf ?_
      refine Xa ?_
      refine Vf ?_
      refine Vd ?_
      obtain ⟨x9, h10, hF⟩ := Ya hF
      refine Va (Vb rfl tf_27_0 ts_24 (by decide)) rfl ?_
      refine Va (Vh rfl (Vg rfl rfl) rfl ta_24 rfl) rfl ?_
      refine Va (Vk rfl) rfl ?_
      refine Va (Xm (Xz rfl rfl h10 te_24 ts_48) (v' := .vptr [.int .i64 x9.Height, .bool x9.Surface] 0) rfl) rfl ?_
      refine Va (Yg rfl tf_48_0 ts_3 (by decide)) rfl ?_
      refine Va (Xs rfl ta_3 rfl) rfl ?_
      refine Va (Xi rfl) rfl ?_
      refine Ve ?_
      refine Vf ?_
      obtain ⟨o11, ho11, hF⟩ := Ya hF
      refine Vo (Q' := (fun o11 => OnlyE .normal (fun E' lw lc => Xr E' lw lc [(1, .ptr (low.length + 0) 0 0 0), (3, .int .i64 s4), (35, .bool o11)] low [⟨27, 2, [.agg [.vs 2 (Wa T_Place.enc p0.Places), .vs 10 (Wa T_Road.enc p0.Roads)]], 0⟩])) o11) ?_ ?_
      ·replace hF := ho11
       refine Vd ?_
       rcases Wg (decide (x9.Height < (-10000))) with c12 | c12
       ·have hF := Yi c12 hF
        refine Va (Vk rfl) rfl ?_
        refine Va (Yh rfl rfl) rfl ?_
        refine Va (Vn rfl) rfl ?_
        refine Vc rfl rfl (Zq c12) rfl ?_
        refine Vc rfl rfl (Zq c12) rfl ?_
        refine Va (Vw (congrArg Wc c12) rfl) rfl ?_
        refine Ve ?_
        obtain rfl := Wd hF
        refine Vz ?_
        exact Vl ⟨rfl, rfl, rfl, trivial⟩
       ·have hF := Yj c12 hF
        refine Va (Vk rfl) rfl ?_
        refine Va (Yh rfl rfl) rfl ?_
        refine Va (Vn rfl) rfl ?_
        refine Xl rfl rfl c12 ?_
        refine Va (Vk rfl) rfl ?_
        refine Xl rfl rfl c12 ?_
        refine Va (Zp rfl rfl) rfl ?_
        refine Va (Vx (congrArg Wc c12) rfl) rfl ?_
        refine Ve ?_
        obtain rfl := Wd hF
        refine Vz ?_
        exact Vl ⟨rfl, rfl, rfl, trivial⟩
      ·rintro _ _ _ _ ⟨rfl, hw⟩
       refine ⟨_, _, _, hw, ?_⟩
       refine Xd rfl (fun c13 => ?_) (fun c13 => ?_)
       ·have hF := Yi c13 hF
        refine Vf ?_
        refine Vd ?_
        refine Va (Xi rfl) rfl ?_
        refine Ve ?_
        refine Xt ?_
        obtain rfl := Wd hF
        refine Vz ?_
        exact Vm rfl [] (by decide) ⟨Vj rfl (.int _ _), trivial⟩ trivial
       ·have hF := Yj c13 hF
        refine Xe ?_
        refine Vd ?_
        refine Va (Vk rfl) rfl ?_
        refine Va (Za rfl rfl rfl) rfl ?_
        refine Va (Xi rfl) rfl ?_
        refine Ve ?_
        obtain rfl := Wd hF
        refine Vz ?_
        exact Vl ⟨rfl, rfl, trivial⟩
     ·have hF := Yj c8 hF
      refine Yr ?_
      obtain rfl := Wd hF
      refine Vz ?_
      exact Vl ⟨rfl, trivial⟩
    ·rcases o5 with j6 | j7
     ·replace hF := elimL hF
      rintro _ _ _ _ ⟨rfl, hw⟩
      refine ⟨_, _, _, hw, ?_⟩
      obtain rfl := Wd hF
      refine fnR ?_
      exact Vl ⟨rfl, trivial⟩
     ·replace hF := elimR hF
      rintro _ _ _ _ ⟨rfl, hw⟩
      refine ⟨_, _, _, hw, ?_⟩
      refine Vf ?_
      refine Vf ?_
      refine Vd ?_
      refine Va (Xi rfl) rfl ?_
      refine Ve ?_
      refine Xa ?_
      obtain ⟨o15, ho15, hF⟩ := Ya hF
      refine Vo (Yk (F_ref01_Check_L2 p0) (fun s14 E' lw lc => Xr E' lw lc [(1, .ptr (low.length + 0) 0 0 0), (5, .int .i64 s14)] low [⟨27, 2, [.agg [.vs 2 (Wa T_Place.enc p0.Places), .vs 10 (Wa T_Road.enc p0.Roads)]], 0⟩]) (Sum.elim (fun j16 => OnlyE .ret (fun E' lw lc => Xr E' lw lc [(2, .int .i64 j16)] low [])) (fun j17 => OnlyE (.exit 2) (fun E' lw lc => Xr E' lw lc [] low []))) ho15 ?_ (by rintro (_|_) _ _ _ ⟨h, _⟩ <;> cases h) ?_) ?_
      ·exact Vl ⟨rfl, rfl, trivial⟩
      ·rintro s14 os14 _ _ _ hF hw
       unfold F_ref01_Check_L2 at hF
       refine Yd hw ?_
       refine Vf ?_
       refine Vf ?_
       refine Vd ?_
       refine Va (Vk rfl) rfl ?_
       refine Va (Vb rfl tf_27_1 ts_25 (by decide)) rfl ?_
       refine Va (Vh rfl (Vg rfl rfl) rfl ta_25 rfl) rfl ?_
       refine Va (Xm (Xy rfl rfl te_25) (congrArg (fun n : Nat => Wb .i64 (n : Int)) (Wh _))) rfl ?_
       refine Va (Yh rfl rfl) rfl ?_
       refine Ve ?_
       refine Xd rfl (fun c18 => ?_) (fun c18 => ?_)
       ·have hF := Yi c18 hF
        refine Xe ?_
        refine Vf ?_
        refine Xa ?_
        refine Vf ?_
        refine Vd ?_
        obtain ⟨x19, h20, hF⟩ := Ya hF
        refine Va (Vb rfl tf_27_1 ts_25 (by decide)) rfl ?_
        refine Va (Vh rfl (Vg rfl rfl) rfl ta_25 rfl) rfl ?_
        refine Va (Vk rfl) rfl ?_
        refine Va (Xm (Xz rfl rfl h20 te_25 ts_46) (v' := .vptr [.int .i64 x19.From, .int .i64 x19.To, .int .i64 x19.Length, .int .i64 x19.Area, .bool x19.Walk, .bool x19.Closed, .int .i64 x19.Rest.Low, .int .i64 x19.Rest.High, .int .i64 x19.Lift.Low, .int .i64 x19.Lift.High] 0) rfl) rfl ?_
        refine Va (Zi (ds := [.int .i64 x19.From, .int .i64 x19.To, .int .i64 x19.Length, .int .i64 x19.Area, .bool x19.Walk, .bool x19.Closed, .int .i64 x19.Rest.Low, .int .i64 x19.Rest.High, .int .i64 x19.Lift.Low, .int .i64 x19.Lift.High]) rfl ta_46 ts_46 rfl rfl) rfl ?_
        refine Vi (Xp rfl rfl tz_46 rfl rfl (Wf _) rfl) rfl ?_
        refine Vi (Xb (p := .agg [.int .i64 x19.From, .int .i64 x19.To, .int .i64 x19.Length, .int .i64 x19.Area, .bool x19.Walk, .bool x19.Closed, .int .i64 x19.Rest.Low, .int .i64 x19.Rest.High, .int .i64 x19.Lift.Low, .int .i64 x19.Lift.High]) (e' := .agg [.int .i64 x19.From, .int .i64 x19.To, .int .i64 x19.Length, .int .i64 x19.Area, .bool x19.Walk, .bool x19.Closed, .int .i64 x19.Rest.Low, .int .i64 x19.Rest.High, .int .i64 x19.Lift.Low, .int .i64 x19.Lift.High]) rfl (Vg rfl rfl) rfl rfl ts_46 rfl (Yn rfl) rfl (We rfl) rfl (Xn rfl rfl)) rfl ?_
        refine Ve ?_
        refine Vf ?_
        refine Vf ?_
        obtain ⟨o21, ho21, hF⟩ := Ya hF
        refine Vo (Q' := (fun o21 => OnlyE .normal (fun E' lw lc => Xr E' lw lc [(1, .ptr (low.length + 0) 0 0 0), (5, .int .i64 s14), (6, .ptr (low.length + 1) 0 0 0), (78, .bool o21)] low [⟨27, 2, [.agg [.vs 2 (Wa T_Place.enc p0.Places), .vs 10 (Wa T_Road.enc p0.Roads)]], 0⟩, ⟨46, 10, [.agg [.int .i64 x19.From, .int .i64 x19.To, .int .i64 x19.Length, .int .i64 x19.Area, .bool x19.Walk, .bool x19.Closed, .int .i64 x19.Rest.Low, .int .i64 x19.Rest.High, .int .i64 x19.Lift.Low, .int .i64 x19.Lift.High]], 0⟩])) o21) ?_ ?_
        ·replace hF := ho21
         refine Vd ?_
         rcases Wg (decide (x19.From < 0)) with c22 | c22
         ·have hF := Yi c22 hF
          refine Va (Vb rfl tf_46_0 ts_3 (by decide)) rfl ?_
          refine Va (Vh rfl (Vg rfl rfl) rfl ta_3 rfl) rfl ?_
          refine Va (Yh rfl rfl) rfl ?_
          refine Va (Vn rfl) rfl ?_
          refine Vc rfl rfl (Zq c22) rfl ?_
          refine Vc rfl rfl (Zq c22) rfl ?_
          refine Vc rfl rfl (Zq c22) rfl ?_
          refine Vc rfl rfl (Zq c22) rfl ?_
          refine Vc rfl rfl (Zq c22) rfl ?_
          refine Vc rfl rfl (Zq c22) rfl ?_
          refine Va (Vw (congrArg Wc c22) rfl) rfl ?_
          refine Va (Vn rfl) rfl ?_
          refine Vc rfl rfl (by decide) rfl ?_
          refine Vc rfl rfl (by decide) rfl ?_
          refine Vc rfl rfl (by decide) rfl ?_
          refine Va (Vw rfl rfl) rfl ?_
          refine Va (Vn rfl) rfl ?_
          refine Vc rfl rfl (by decide) rfl ?_
          refine Vc rfl rfl (by decide) rfl ?_
          refine Vc rfl rfl (by decide) rfl ?_
          refine Vc rfl rfl (by decide) rfl ?_
          refine Vc rfl rfl (by decide) rfl ?_
          refine Vc rfl rfl (by decide) rfl ?_
          refine Va (Vw rfl rfl) rfl ?_
          refine Va (Vn rfl) rfl ?_
          refine Vc rfl rfl (by decide) rfl ?_
          refine Vc rfl rfl (by decide) rfl ?_
          refine Vc rfl rfl (by decide) rfl ?_
          refine Vc rfl rfl (by decide) rfl ?_
          refine Vc rfl rfl (by decide) rfl ?_
          refine Va (Vw rfl rfl) rfl ?_
          refine Ve ?_
          obtain rfl := Wd hF
          refine Vz ?_
          exact Vl ⟨rfl, rfl, rfl, rfl, trivial⟩
         ·have hF := Yj c22 hF
          rcases Wg (decide (((p0.Places).length : Int) ≤ x19.From)) with c23 | c23
          ·have hF := Yi c23 hF
           refine Va (Vb rfl tf_46_0 ts_3 (by decide)) rfl ?_
           refine Va (Vh rfl (Vg rfl rfl) rfl ta_3 rfl) rfl ?_
           refine Va (Yh rfl rfl) rfl ?_
           refine Va (Vn rfl) rfl ?_
           refine Xl rfl rfl c22 ?_
           refine Va (Vb rfl tf_46_0 ts_3 (by decide)) rfl ?_
           refine Xl rfl rfl c22 ?_
           refine Va (Vh rfl (Vg rfl rfl) rfl ta_3 rfl) rfl ?_
           refine Xl rfl rfl c22 ?_
           refine Va (Vb rfl tf_27_0 ts_24 (by decide)) rfl ?_
           refine Xl rfl rfl c22 ?_
           refine Va (Vh rfl (Vg rfl rfl) rfl ta_24 rfl) rfl ?_
           refine Xl rfl rfl c22 ?_
           refine Va (Xm (Xy rfl rfl te_24) (congrArg (fun n : Nat => Wb .i64 (n : Int)) (Wh _))) rfl ?_
           refine Xl rfl rfl c22 ?_
           refine Va (rd_geq rfl rfl) rfl ?_
           refine Va (Vx (congrArg Wc c22) rfl) rfl ?_
           refine Va (Vn rfl) rfl ?_
           refine Vc rfl rfl (Zq c23) rfl ?_
           refine Vc rfl rfl (Zq c23) rfl ?_
           refine Vc rfl rfl (Zq c23) rfl ?_
           refine Va (Vw (congrArg Wc c23) rfl) rfl ?_
           refine Va (Vn rfl) rfl ?_
           refine Vc rfl rfl (by decide) rfl ?_
           refine Vc rfl rfl (by decide) rfl ?_
           refine Vc rfl rfl (by decide) rfl ?_
           refine Vc rfl rfl (by decide) rfl ?_
           refine Vc rfl rfl (by decide) rfl ?_
           refine Vc rfl rfl (by decide) rfl ?_
           refine Va (Vw rfl rfl) rfl ?_
           refine Va (Vn rfl) rfl ?_
           refine Vc rfl rfl (by decide) rfl ?_
           refine Vc rfl rfl (by decide) rfl ?_
           refine Vc rfl rfl (by decide) rfl ?_
           refine Vc rfl rfl (by decide) rfl ?_
           refine Vc rfl rfl (by decide) rfl ?_
           refine Va (Vw rfl rfl) rfl ?_
           refine Ve ?_
           obtain rfl := Wd hF
           refine Vz ?_
           exact Vl ⟨rfl, rfl, rfl, rfl, trivial⟩
          ·have hF := Yj c23 hF
           rcases Wg (decide (x19.To < 0)) with c24 | c24
           ·have hF := Yi c24 hF
            refine Va (Vb rfl tf_46_0 ts_3 (by decide)) rfl ?_
            refine Va (Vh rfl (Vg rfl rfl) rfl ta_3 rfl) rfl ?_
            refine Va (Yh rfl rfl) rfl ?_
            refine Va (Vn rfl) rfl ?_
            refine Xl rfl rfl c22 ?_
            refine Va (Vb rfl tf_46_0 ts_3 (by decide)) rfl ?_
            refine Xl rfl rfl c22 ?_
            refine Va (Vh rfl (Vg rfl rfl) rfl ta_3 rfl) rfl ?_
            refine Xl rfl rfl c22 ?_
            refine Va (Vb rfl tf_27_0 ts_24 (by decide)) rfl ?_
            refine Xl rfl rfl c22 ?_
            refine Va (Vh rfl (Vg rfl rfl) rfl ta_24 rfl) rfl ?_
            refine Xl rfl rfl c22 ?_
            refine Va (Xm (Xy rfl rfl te_24) (congrArg (fun n : Nat => Wb .i64 (n : Int)) (Wh _))) rfl ?_
            refine Xl rfl rfl c22 ?_
            refine Va (rd_geq rfl rfl) rfl ?_
            refine Va (Vx (congrArg Wc c22) rfl) rfl ?_
            refine Va (Vn rfl) rfl ?_
            refine Xl rfl rfl c23 ?_
            refine Va (Vb rfl tf_46_1 ts_3 (by decide)) rfl ?_
            refine Xl rfl rfl c23 ?_
            refine Va (Vh rfl (Vg rfl rfl) rfl ta_3 rfl) rfl ?_
            refine Xl rfl rfl c23 ?_
            refine Va (Yh rfl rfl) rfl ?_
            refine Va (Vx (congrArg Wc c23) rfl) rfl ?_
            refine Va (Vn rfl) rfl ?_
            refine Vc rfl rfl (Zq c24) rfl ?_
            refine Vc rfl rfl (Zq c24) rfl ?_
            refine Vc rfl rfl (Zq c24) rfl ?_
            refine Vc rfl rfl (Zq c24) rfl ?_
            refine Vc rfl rfl (Zq c24) rfl ?_
            refine Vc rfl rfl (Zq c24) rfl ?_
            refine Va (Vw (congrArg Wc c24) rfl) rfl ?_
            refine Va (Vn rfl) rfl ?_
            refine Vc rfl rfl (by decide) rfl ?_
            refine Vc rfl rfl (by decide) rfl ?_
            refine Vc rfl rfl (by decide) rfl ?_
            refine Vc rfl rfl (by decide) rfl ?_
            refine Vc rfl rfl (by decide) rfl ?_
            refine Va (Vw rfl rfl) rfl ?_
            refine Ve ?_
            obtain rfl := Wd hF
            refine Vz ?_
            exact Vl ⟨rfl, rfl, rfl, rfl, trivial⟩
           ·have hF := Yj c24 hF
            rcases Wg (decide (((p0.Places).length : Int) ≤ x19.To)) with c25 | c25
            ·have hF := Yi c25 hF
             refine Va (Vb rfl tf_46_0 ts_3 (by decide)) rfl ?_
             refine Va (Vh rfl (Vg rfl rfl) rfl ta_3 rfl) rfl ?_
             refine Va (Yh rfl rfl) rfl ?_
             refine Va (Vn rfl) rfl ?_
             refine Xl rfl rfl c22 ?_
             refine Va (Vb rfl tf_46_0 ts_3 (by decide)) rfl ?_
             refine Xl rfl rfl c22 ?_
             refine Va (Vh rfl (Vg rfl rfl) rfl ta_3 rfl) rfl ?_
             refine Xl rfl rfl c22 ?_
             refine Va (Vb rfl tf_27_0 ts_24 (by decide)) rfl ?_
             refine Xl rfl rfl c22 ?_
             refine Va (Vh rfl (Vg rfl rfl) rfl ta_24 rfl) rfl ?_
             refine Xl rfl rfl c22 ?_
             refine Va (Xm (Xy rfl rfl te_24) (congrArg (fun n : Nat => Wb .i64 (n : Int)) (Wh _))) rfl ?_
             refine Xl rfl rfl c22 ?_
             refine Va (rd_geq rfl rfl) rfl ?_
             refine Va (Vx (congrArg Wc c22) rfl) rfl ?_
             refine Va (Vn rfl) rfl ?_
             refine Xl rfl rfl c23 ?_
             refine Va (Vb rfl tf_46_1 ts_3 (by decide)) rfl ?_
             refine Xl rfl rfl c23 ?_
             refine Va (Vh rfl (Vg rfl rfl) rfl ta_3 rfl) rfl ?_
             refine Xl rfl rfl c23 ?_
             refine Va (Yh rfl rfl) rfl ?_
             refine Va (Vx (congrArg Wc c23) rfl) rfl ?_
             refine Va (Vn rfl) rfl ?_
             refine Xl rfl rfl c24 ?_
             refine Va (Vb rfl tf_46_1 ts_3 (by decide)) rfl ?_
             refine Xl rfl rfl c24 ?_
             refine Va (Vh rfl (Vg rfl rfl) rfl ta_3 rfl) rfl ?_
             refine Xl rfl rfl c24 ?_
             refine Va (Vb rfl tf_27_0 ts_24 (by decide)) rfl ?_
             refine Xl rfl rfl c24 ?_
             refine Va (Vh rfl (Vg rfl rfl) rfl ta_24 rfl) rfl ?_
             refine Xl rfl rfl c24 ?_
             refine Va (Xm (Xy rfl rfl te_24) (congrArg (fun n : Nat => Wb .i64 (n : Int)) (Wh _))) rfl ?_
             refine Xl rfl rfl c24 ?_
             refine Va (rd_geq rfl rfl) rfl ?_
             refine Va (Vx (congrArg Wc c24) rfl) rfl ?_
             refine Va (Vn rfl) rfl ?_
             refine Vc rfl rfl (Zq c25) rfl ?_
             refine Vc rfl rfl (Zq c25) rfl ?_
             refine Vc rfl rfl (Zq c25) rfl ?_
             refine Vc rfl rfl (Zq c25) rfl ?_
             refine Vc rfl rfl (Zq c25) rfl ?_
             refine Va (Vw (congrArg Wc c25) rfl) rfl ?_
             refine Ve ?_
             obtain rfl := Wd hF
             refine Vz ?_
             exact Vl ⟨rfl, rfl, rfl, rfl, trivial⟩
            ·have hF := Yj c25 hF
             refine Va (Vb rfl tf_46_0 ts_3 (by decide)) rfl ?_
             refine Va (Vh rfl (Vg rfl rfl) rfl ta_3 rfl) rfl ?_
             refine Va (Yh rfl rfl) rfl ?_
             refine Va (Vn rfl) rfl ?_
             refine Xl rfl rfl c22 ?_
             refine Va (Vb rfl tf_46_0 ts_3 (by decide)) rfl ?_
             refine Xl rfl rfl c22 ?_
             refine Va (Vh rfl (Vg rfl rfl) rfl ta_3 rfl) rfl ?_
             refine Xl rfl rfl c22 ?_
             refine Va (Vb rfl tf_27_0 ts_24 (by decide)) rfl ?_
             refine Xl rfl rfl c22 ?_
             refine Va (Vh rfl (Vg rfl rfl) rfl ta_24 rfl) rfl ?_
             refine Xl rfl rfl c22 ?_
             refine Va (Xm (Xy rfl rfl te_24) (congrArg (fun n : Nat => Wb .i64 (n : Int)) (Wh _))) rfl ?_
             refine Xl rfl rfl c22 ?_
             refine Va (rd_geq rfl rfl) rfl ?_
             refine Va (Vx (congrArg Wc c22) rfl) rfl ?_
             refine Va (Vn rfl) rfl ?_
             refine Xl rfl rfl c23 ?_
             refine Va (Vb rfl tf_46_1 ts_3 (by decide)) rfl ?_
             refine Xl rfl rfl c23 ?_
             refine Va (Vh rfl (Vg rfl rfl) rfl ta_3 rfl) rfl ?_
             refine Xl rfl rfl c23 ?_
             refine Va (Yh rfl rfl) rfl ?_
             refine Va (Vx (congrArg Wc c23) rfl) rfl ?_
             refine Va (Vn rfl) rfl ?_
             refine Xl rfl rfl c24 ?_
             refine Va (Vb rfl tf_46_1 ts_3 (by decide)) rfl ?_
             refine Xl rfl rfl c24 ?_
             refine Va (Vh rfl (Vg rfl rfl) rfl ta_3 rfl) rfl ?_
             refine Xl rfl rfl c24 ?_
             refine Va (Vb rfl tf_27_0 ts_24 (by decide)) rfl ?_
             refine Xl rfl rfl c24 ?_
             refine Va (Vh rfl (Vg rfl rfl) rfl ta_24 rfl) rfl ?_
             refine Xl rfl rfl c24 ?_
             refine Va (Xm (Xy rfl rfl te_24) (congrArg (fun n : Nat => Wb .i64 (n : Int)) (Wh _))) rfl ?_
             refine Xl rfl rfl c24 ?_
             refine Va (rd_geq rfl rfl) rfl ?_
             refine Va (Vx (congrArg Wc c24) rfl) rfl ?_
             refine Va (Vn rfl) rfl ?_
             refine Xl rfl rfl c25 ?_
             refine Va (Vb rfl tf_46_0 ts_3 (by decide)) rfl ?_
             refine Xl rfl rfl c25 ?_
             refine Va (Vh rfl (Vg rfl rfl) rfl ta_3 rfl) rfl ?_
             refine Xl rfl rfl c25 ?_
             refine Va (Vb rfl tf_46_1 ts_3 (by decide)) rfl ?_
             refine Xl rfl rfl c25 ?_
             refine Va (Vh rfl (Vg rfl rfl) rfl ta_3 rfl) rfl ?_
             refine Xl rfl rfl c25 ?_
             refine Va (Zn rfl rfl) rfl ?_
             refine Va (Vx (congrArg Wc c25) rfl) rfl ?_
             refine Ve ?_
             obtain rfl := Wd hF
             refine Vz ?_
             exact Vl ⟨rfl, rfl, rfl, rfl, trivial⟩
        ·rintro _ _ _ _ ⟨rfl, hw⟩
         refine ⟨_, _, _, hw, ?_⟩
         refine Xd rfl (fun c26 => ?_) (fun c26 => ?_)
         ·have hF := Yi c26 hF
          refine Vf ?_
          refine Vd ?_
          refine Va (Xi rfl) rfl ?_
          refine Ve ?_
          refine Xt ?_
          obtain rfl := Wd hF
          refine Vz ?_
          exact Vm rfl [] (by decide) ⟨Vj rfl (.int _ _), trivial⟩ trivial
         ·have hF := Yj c26 hF
          refine Xe ?_
          refine Vf ?_
          obtain ⟨o27, ho27, hF⟩ := Ya hF
          refine Vo (Q' := (fun o27 => OnlyE .normal (fun E' lw lc => Xr E' lw lc [(1, .ptr (low.length + 0) 0 0 0), (5, .int .i64 s14), (108, .bool o27)] low [⟨27, 2, [.agg [.vs 2 (Wa T_Place.enc p0.Places), .vs 10 (Wa T_Road.enc p0.Roads)]], 0⟩])) o27) ?_ ?_
          ·replace hF := ho27
           refine Vd ?_
           rcases Wg (decide (x19.Length < 1)) with c28 | c28
           ·have hF := Yi c28 hF
            refine Va (Vb rfl tf_46_2 ts_3 (by decide)) rfl ?_
            refine Va (Vh rfl (Vg rfl rfl) rfl ta_3 rfl) rfl ?_
            refine Va (Yh rfl rfl) rfl ?_
            refine Va (Vn rfl) rfl ?_
            refine Vc rfl rfl (Zq c28) rfl ?_
            refine Vc rfl rfl (Zq c28) rfl ?_
            refine Vc rfl rfl (Zq c28) rfl ?_
            refine Va (Vw (congrArg Wc c28) rfl) rfl ?_
            refine Va (Vn rfl) rfl ?_
            refine Vc rfl rfl (by decide) rfl ?_
            refine Vc rfl rfl (by decide) rfl ?_
            refine Vc rfl rfl (by decide) rfl ?_
            refine Va (Vw rfl rfl) rfl ?_
            refine Va (Vn rfl) rfl ?_
            refine Vc rfl rfl (by decide) rfl ?_
            refine Vc rfl rfl (by decide) rfl ?_
            refine Vc rfl rfl (by decide) rfl ?_
            refine Va (Vw rfl rfl) rfl ?_
            refine Va (Vn rfl) rfl ?_
            refine Vc rfl rfl (by decide) rfl ?_
            refine Vc rfl rfl (by decide) rfl ?_
            refine Vc rfl rfl (by decide) rfl ?_
            refine Vc rfl rfl (by decide) rfl ?_
            refine Va (Vw rfl rfl) rfl ?_
            refine Va (Vn rfl) rfl ?_
            refine Vc rfl rfl (by decide) rfl ?_
            refine Vc rfl rfl (by decide) rfl ?_
            refine Vc rfl rfl (by decide) rfl ?_
            refine Vc rfl rfl (by decide) rfl ?_
            refine Va (Vw rfl rfl) rfl ?_
            refine Ve ?_
            obtain rfl := Wd hF
            refine Vz ?_
            exact Vm rfl [(0, 0)] (by decide) ⟨Vu 0 0 rfl rfl, Vj rfl (.int _ _), Vj rfl (.bool _), trivial⟩ ⟨⟨_, rfl, rfl, .same _ _ _ _ (Vq ⟨Vp ⟨.vs _ _, .vs _ _, trivial⟩, trivial⟩)⟩, trivial⟩
           ·have hF := Yj c28 hF
            rcases Wg (decide (100000 < x19.Length)) with c29 | c29
            ·have hF := Yi c29 hF
             refine Va (Vb rfl tf_46_2 ts_3 (by decide)) rfl ?_
             refine Va (Vh rfl (Vg rfl rfl) rfl ta_3 rfl) rfl ?_
             refine Va (Yh rfl rfl) rfl ?_
             refine Va (Vn rfl) rfl ?_
             refine Xl rfl rfl c28 ?_
             refine Va (Vb rfl tf_46_2 ts_3 (by decide)) rfl ?_
             refine Xl rfl rfl c28 ?_
             refine Va (Vh rfl (Vg rfl rfl) rfl ta_3 rfl) rfl ?_
             refine Xl rfl rfl c28 ?_
             refine Va (Zp rfl rfl) rfl ?_
             refine Va (Vx (congrArg Wc c28) rfl) rfl ?_
             refine Va (Vn rfl) rfl ?_
             refine Vc rfl rfl (Zq c29) rfl ?_
             refine Vc rfl rfl (Zq c29) rfl ?_
             refine Vc rfl rfl (Zq c29) rfl ?_
             refine Va (Vw (congrArg Wc c29) rfl) rfl ?_
             refine Va (Vn rfl) rfl ?_
             refine Vc rfl rfl (by decide) rfl ?_
             refine Vc rfl rfl (by decide) rfl ?_
             refine Vc rfl rfl (by decide) rfl ?_
             refine Va (Vw rfl rfl) rfl ?_
             refine Va (Vn rfl) rfl ?_
             refine Vc rfl rfl (by decide) rfl ?_
             refine Vc rfl rfl (by decide) rfl ?_
             refine Vc rfl rfl (by decide) rfl ?_
             refine Vc rfl rfl (by decide) rfl ?_
             refine Va (Vw rfl rfl) rfl ?_
             refine Va (Vn rfl) rfl ?_
             refine Vc rfl rfl (by decide) rfl ?_
             refine Vc rfl rfl (by decide) rfl ?_
             refine Vc rfl rfl (by decide) rfl ?_
             refine Vc rfl rfl (by decide) rfl ?_
             refine Va (Vw rfl rfl) rfl ?_
             refine Ve ?_
             obtain rfl := Wd hF
             refine Vz ?_
             exact Vm rfl [(0, 0)] (by decide) ⟨Vu 0 0 rfl rfl, Vj rfl (.int _ _), Vj rfl (.bool _), trivial⟩ ⟨⟨_, rfl, rfl, .same _ _ _ _ (Vq ⟨Vp ⟨.vs _ _, .vs _ _, trivial⟩, trivial⟩)⟩, trivial⟩
            ·have hF := Yj c29 hF
             rcases Wg (decide (x19.Area < 1)) with c30 | c30
             ·have hF := Yi c30 hF
              refine Va (Vb rfl tf_46_2 ts_3 (by decide)) rfl ?_
              refine Va (Vh rfl (Vg rfl rfl) rfl ta_3 rfl) rfl ?_
              refine Va (Yh rfl rfl) rfl ?_
              refine Va (Vn rfl) rfl ?_
              refine Xl rfl rfl c28 ?_
              refine Va (Vb rfl tf_46_2 ts_3 (by decide)) rfl ?_
              refine Xl rfl rfl c28 ?_
              refine Va (Vh rfl (Vg rfl rfl) rfl ta_3 rfl) rfl ?_
              refine Xl rfl rfl c28 ?_
              refine Va (Zp rfl rfl) rfl ?_
              refine Va (Vx (congrArg Wc c28) rfl) rfl ?_
              refine Va (Vn rfl) rfl ?_
              refine Xl rfl rfl c29 ?_
              refine Va (Vb rfl tf_46_3 ts_3 (by decide)) rfl ?_
              refine Xl rfl rfl c29 ?_
              refine Va (Vh rfl (Vg rfl rfl) rfl ta_3 rfl) rfl ?_
              refine Xl rfl rfl c29 ?_
              refine Va (Yh rfl rfl) rfl ?_
              refine Va (Vx (congrArg Wc c29) rfl) rfl ?_
              refine Va (Vn rfl) rfl ?_
              refine Vc rfl rfl (Zq c30) rfl ?_
              refine Vc rfl rfl (Zq c30) rfl ?_
              refine Vc rfl rfl (Zq c30) rfl ?_
              refine Va (Vw (congrArg Wc c30) rfl) rfl ?_
              refine Va (Vn rfl) rfl ?_
              refine Vc rfl rfl (by decide) rfl ?_
              refine Vc rfl rfl (by decide) rfl ?_
              refine Vc rfl rfl (by decide) rfl ?_
              refine Vc rfl rfl (by decide) rfl ?_
              refine Va (Vw rfl rfl) rfl ?_
              refine Va (Vn rfl) rfl ?_
              refine Vc rfl rfl (by decide) rfl ?_
              refine Vc rfl rfl (by decide) rfl ?_
              refine Vc rfl rfl (by decide) rfl ?_
              refine Vc rfl rfl (by decide) rfl ?_
              refine Va (Vw rfl rfl) rfl ?_
              refine Ve ?_
              obtain rfl := Wd hF
              refine Vz ?_
              exact Vm rfl [(0, 0)] (by decide) ⟨Vu 0 0 rfl rfl, Vj rfl (.int _ _), Vj rfl (.bool _), trivial⟩ ⟨⟨_, rfl, rfl, .same _ _ _ _ (Vq ⟨Vp ⟨.vs _ _, .vs _ _, trivial⟩, trivial⟩)⟩, trivial⟩
             ·have hF := Yj c30 hF
              rcases Wg (decide (1000 < x19.Area)) with c31 | c31
              ·have hF := Yi c31 hF
               refine Va (Vb rfl tf_46_2 ts_3 (by decide)) rfl ?_
               refine Va (Vh rfl (Vg rfl rfl) rfl ta_3 rfl) rfl ?_
               refine Va (Yh rfl rfl) rfl ?_
               refine Va (Vn rfl) rfl ?_
               refine Xl rfl rfl c28 ?_
               refine Va (Vb rfl tf_46_2 ts_3 (by decide)) rfl ?_
               refine Xl rfl rfl c28 ?_
               refine Va (Vh rfl (Vg rfl rfl) rfl ta_3 rfl) rfl ?_
               refine Xl rfl rfl c28 ?_
               refine Va (Zp rfl rfl) rfl ?_
               refine Va (Vx (congrArg Wc c28) rfl) rfl ?_
               refine Va (Vn rfl) rfl ?_
               refine Xl rfl rfl c29 ?_
               refine Va (Vb rfl tf_46_3 ts_3 (by decide)) rfl ?_
               refine Xl rfl rfl c29 ?_
               refine Va (Vh rfl (Vg rfl rfl) rfl ta_3 rfl) rfl ?_
               refine Xl rfl rfl c29 ?_
               refine Va (Yh rfl rfl) rfl ?_
               refine Va (Vx (congrArg Wc c29) rfl) rfl ?_
               refine Va (Vn rfl) rfl ?_
               refine Xl rfl rfl c30 ?_
               refine Va (Vb rfl tf_46_3 ts_3 (by decide)) rfl ?_
               refine Xl rfl rfl c30 ?_
               refine Va (Vh rfl (Vg rfl rfl) rfl ta_3 rfl) rfl ?_
               refine Xl rfl rfl c30 ?_
               refine Va (Zp rfl rfl) rfl ?_
               refine Va (Vx (congrArg Wc c30) rfl) rfl ?_
               refine Va (Vn rfl) rfl ?_
               refine Vc rfl rfl (Zq c31) rfl ?_
               refine Vc rfl rfl (Zq c31) rfl ?_
               refine Vc rfl rfl (Zq c31) rfl ?_
               refine Vc rfl rfl (Zq c31) rfl ?_
               refine Va (Vw (congrArg Wc c31) rfl) rfl ?_
               refine Va (Vn rfl) rfl ?_
               refine Vc rfl rfl (by decide) rfl ?_
               refine Vc rfl rfl (by decide) rfl ?_
               refine Vc rfl rfl (by decide) rfl ?_
               refine Vc rfl rfl (by decide) rfl ?_
               refine Va (Vw rfl rfl) rfl ?_
               refine Ve ?_
               obtain rfl := Wd hF
               refine Vz ?_
               exact Vm rfl [(0, 0)] (by decide) ⟨Vu 0 0 rfl rfl, Vj rfl (.int _ _), Vj rfl (.bool _), trivial⟩ ⟨⟨_, rfl, rfl, .same _ _ _ _ (Vq ⟨Vp ⟨.vs _ _, .vs _ _, trivial⟩, trivial⟩)⟩, trivial⟩
              ·have hF := Yj c31 hF
               obtain ⟨x32, h33, hF⟩ := Ya hF
               rcases Wg (!x32) with c34 | c34
               ·have hF := Yi c34 hF
                refine Va (Vb rfl tf_46_2 ts_3 (by decide)) rfl ?_
                refine Va (Vh rfl (Vg rfl rfl) rfl ta_3 rfl) rfl ?_
                refine Va (Yh rfl rfl) rfl ?_
                refine Va (Vn rfl) rfl ?_
                refine Xl rfl rfl c28 ?_
                refine Va (Vb rfl tf_46_2 ts_3 (by decide)) rfl ?_
                refine Xl rfl rfl c28 ?_
                refine Va (Vh rfl (Vg rfl rfl) rfl ta_3 rfl) rfl ?_
                refine Xl rfl rfl c28 ?_
                refine Va (Zp rfl rfl) rfl ?_
                refine Va (Vx (congrArg Wc c28) rfl) rfl ?_
                refine Va (Vn rfl) rfl ?_
                refine Xl rfl rfl c29 ?_
                refine Va (Vb rfl tf_46_3 ts_3 (by decide)) rfl ?_
                refine Xl rfl rfl c29 ?_
                refine Va (Vh rfl (Vg rfl rfl) rfl ta_3 rfl) rfl ?_
                refine Xl rfl rfl c29 ?_
                refine Va (Yh rfl rfl) rfl ?_
                refine Va (Vx (congrArg Wc c29) rfl) rfl ?_
                refine Va (Vn rfl) rfl ?_
                refine Xl rfl rfl c30 ?_
                refine Va (Vb rfl tf_46_3 ts_3 (by decide)) rfl ?_
                refine Xl rfl rfl c30 ?_
                refine Va (Vh rfl (Vg rfl rfl) rfl ta_3 rfl) rfl ?_
                refine Xl rfl rfl c30 ?_
                refine Va (Zp rfl rfl) rfl ?_
                refine Va (Vx (congrArg Wc c30) rfl) rfl ?_
                refine Va (Vn rfl) rfl ?_
                refine Xl rfl rfl c31 ?_
                refine Va (Vb rfl tf_46_6 ts_44 (by decide)) rfl ?_
                refine Xl rfl rfl c31 ?_
                refine Va (Vy (ds := [.int .i64 x19.Rest.Low, .int .i64 x19.Rest.High]) rfl (Vg rfl rfl) rfl ta_44 ts_44 rfl rfl rfl) rfl ?_
                refine Xl rfl rfl c31 ?_
                refine Vi (Xg rfl Try.call48 (F_ref01_Span_ok h33 _)) rfl ?_
                refine Xl rfl rfl c31 ?_
                refine Va (rd_not rfl) rfl ?_
                refine Va (Vx (congrArg Wc c31) rfl) rfl ?_
                refine Va (Vn rfl) rfl ?_
                refine Vc rfl rfl (Zq c34) rfl ?_
                refine Vc rfl rfl (Zq c34) rfl ?_
                refine Vc rfl rfl (Zq c34) rfl ?_
                refine Vc rfl rfl (Zq c34) rfl ?_
                refine Va (Vw (congrArg Wc c34) rfl) rfl ?_
                refine Ve ?_
                obtain rfl := Wd hF
                refine Vz ?_
                exact Vm rfl [(0, 0)] (by decide) ⟨Vu 0 0 rfl rfl, Vj rfl (.int _ _), Vj rfl (.bool _), trivial⟩ ⟨⟨_, rfl, rfl, .same _ _ _ _ (Vq ⟨Vp ⟨.vs _ _, .vs _ _, trivial⟩, trivial⟩)⟩, trivial⟩
               ·have hF := Yj c34 hF
                obtain ⟨x35, h36, hF⟩ := Ya hF
                refine Va (Vb rfl tf_46_2 ts_3 (by decide)) rfl ?_
                refine Va (Vh rfl (Vg rfl rfl) rfl ta_3 rfl) rfl ?_
                refine Va (Yh rfl rfl) rfl ?_
                refine Va (Vn rfl) rfl ?_
                refine Xl rfl rfl c28 ?_
                refine Va (Vb rfl tf_46_2 ts_3 (by decide)) rfl ?_
                refine Xl rfl rfl c28 ?_
                refine Va (Vh rfl (Vg rfl rfl) rfl ta_3 rfl) rfl ?_
                refine Xl rfl rfl c28 ?_
                refine Va (Zp rfl rfl) rfl ?_
                refine Va (Vx (congrArg Wc c28) rfl) rfl ?_
                refine Va (Vn rfl) rfl ?_
                refine Xl rfl rfl c29 ?_
                refine Va (Vb rfl tf_46_3 ts_3 (by decide)) rfl ?_
                refine Xl rfl rfl c29 ?_
                refine Va (Vh rfl (Vg rfl rfl) rfl ta_3 rfl) rfl ?_
                refine Xl rfl rfl c29 ?_
                refine Va (Yh rfl rfl) rfl ?_
                refine Va (Vx (congrArg Wc c29) rfl) rfl ?_
                refine Va (Vn rfl) rfl ?_
                refine Xl rfl rfl c30 ?_
                refine Va (Vb rfl tf_46_3 ts_3 (by decide)) rfl ?_
                refine Xl rfl rfl c30 ?_
                refine Va (Vh rfl (Vg rfl rfl) rfl ta_3 rfl) rfl ?_
                refine Xl rfl rfl c30 ?_
                refine Va (Zp rfl rfl) rfl ?_
                refine Va (Vx (congrArg Wc c30) rfl) rfl ?_
                refine Va (Vn rfl) rfl ?_
                refine Xl rfl rfl c31 ?_
                refine Va (Vb rfl tf_46_6 ts_44 (by decide)) rfl ?_
                refine Xl rfl rfl c31 ?_
                refine Va (Vy (ds := [.int .i64 x19.Rest.Low, .int .i64 x19.Rest.High]) rfl (Vg rfl rfl) rfl ta_44 ts_44 rfl rfl rfl) rfl ?_
                refine Xl rfl rfl c31 ?_
                refine Vi (Xg rfl Try.call48 (F_ref01_Span_ok h33 _)) rfl ?_
                refine Xl rfl rfl c31 ?_
                refine Va (rd_not rfl) rfl ?_
                refine Va (Vx (congrArg Wc c31) rfl) rfl ?_
                refine Va (Vn rfl) rfl ?_
                refine Xl rfl rfl c34 ?_
                refine Va (Vb rfl tf_46_7 ts_44 (by decide)) rfl ?_
                refine Xl rfl rfl c34 ?_
                refine Va (Vy (ds := [.int .i64 x19.Lift.Low, .int .i64 x19.Lift.High]) rfl (Vg rfl rfl) rfl ta_44 ts_44 rfl rfl rfl) rfl ?_
                refine Xl rfl rfl c34 ?_
                refine Vi (Xg rfl Try.call48 (F_ref01_Span_ok h36 _)) rfl ?_
                refine Xl rfl rfl c34 ?_
                refine Va (rd_not rfl) rfl ?_
                refine Va (Vx (congrArg Wc c34) rfl) rfl ?_
                refine Ve ?_
                obtain rfl := Wd hF
                refine Vz ?_
                exact Vm rfl [(0, 0)] (by decide) ⟨Vu 0 0 rfl rfl, Vj rfl (.int _ _), Vj rfl (.bool _), trivial⟩ ⟨⟨_, rfl, rfl, .same _ _ _ _ (Vq ⟨Vp ⟨.vs _ _, .vs _ _, trivial⟩, trivial⟩)⟩, trivial⟩
          ·rintro _ _ _ _ ⟨rfl, hw⟩
           refine ⟨_, _, _, hw, ?_⟩
           refine Xd rfl (fun c37 => ?_) (fun c37 => ?_)
           ·have hF := Yi c37 hF
            refine Vf ?_
            refine Vd ?_
            refine Va (Xi rfl) rfl ?_
            refine Ve ?_
            refine Xt ?_
            obtain rfl := Wd hF
            refine Vz ?_
            exact Vm rfl [] (by decide) ⟨Vj rfl (.int _ _), trivial⟩ trivial
           ·have hF := Yj c37 hF
            refine Xe ?_
            refine Vd ?_
            refine Va (Vk rfl) rfl ?_
            refine Va (Za rfl rfl rfl) rfl ?_
            refine Va (Xi rfl) rfl ?_
            refine Ve ?_
            obtain rfl := Wd hF
            refine Vz ?_
            exact Vl ⟨rfl, rfl, trivial⟩
       ·have hF := Yj c18 hF
        refine Yr ?_
        obtain rfl := Wd hF
        refine Vz ?_
        exact Vm rfl [] (by decide) trivial trivial
      ·rcases o15 with j16 | j17
       ·replace hF := elimL hF
        rintro _ _ _ _ ⟨rfl, hw⟩
        refine ⟨_, _, _, hw, ?_⟩
        obtain rfl := Wd hF
        refine fnR ?_
        exact Vl ⟨rfl, trivial⟩
       ·replace hF := elimR hF
        rintro _ _ _ _ ⟨rfl, hw⟩
        refine ⟨_, _, _, hw, ?_⟩
        refine Vf ?_
        refine Vd ?_
        refine Va (Xi rfl) rfl ?_
        refine Ve ?_
        refine Xt ?_
        obtain rfl := Wd hF
        refine fnR ?_
        exact Vl ⟨rfl, trivial⟩
 ·rintro _ _ _ _ ⟨he, hw⟩
  refine ⟨_, _, _, hw, ?_⟩
  exact Yu he [.int .i64 r] ⟨rfl, trivial⟩ (.int _ _) ⟨rfl, rfl⟩

theorem F_ref14_right_ok {p0 : T_Mine} {p1 : List T_Span} {r : Bool} (hF : F_ref14_right p0 p1 = some r) (low : List AObj) :
    Zd Try.prog 31 [.agg [.vs 2 (Wa T_Place.enc p0.Places), .vs 10 (Wa T_Road.enc p0.Roads)], .vs 2 (Wa T_Span.enc p1)] low fun x low' => x = .bool r ∧ low' = low := by
 refine Xh (nt := 16) (rs := [.tmp 4]) Try.func31 rfl rfl (We rfl) rfl ?_
 refine Vo (Q' := FnE (fun E' lw lc => Xr E' lw lc [(4, .bool r)] low [])) ?_ ?_
 ·unfold F_ref14_right at hF
  refine Vf ?_
  refine Vd ?_
  refine Vi (Zo rfl rfl (v := .agg [.vs 2 (Wa T_Place.enc p0.Places), .vs 10 (Wa T_Road.enc p0.Roads)]) rfl rfl (Wf _) rfl rfl) rfl ?_
  refine Va (Zc rfl) rfl ?_
  refine Ve ?_
  refine Vf ?_
  refine Vd ?_
  obtain ⟨x1, h2, hF⟩ := Ya hF
  rcases Wg (decide (x1 = 0)) with c3 | c3
  ·have hF := Yi c3 hF
   refine Va (Vy (ds := [.vs 2 (Wa T_Place.enc p0.Places), .vs 10 (Wa T_Road.enc p0.Roads)]) rfl (Vg rfl rfl) rfl ta_27 ts_27 rfl rfl rfl) rfl ?_
   refine Vi (Xg rfl Try.call42 (F_ref01_Check_ok h2 _)) rfl ?_
   refine Va (Zn rfl rfl) rfl ?_
   refine Va (Vn rfl) rfl ?_
   refine Xl rfl rfl c3 ?_
   refine Va (Yc rfl) rfl ?_
   refine Xl rfl rfl c3 ?_
   refine Va (Xm (Xy rfl rfl te_23) (congrArg (fun n : Nat => Wb .i64 (n : Int)) (Wh _))) rfl ?_
   refine Xl rfl rfl c3 ?_
   refine Va (Vb rfl tf_27_1 ts_25 (by decide)) rfl ?_
   refine Xl rfl rfl c3 ?_
   refine Va (Vh rfl (Vg rfl rfl) rfl ta_25 rfl) rfl ?_
   refine Xl rfl rfl c3 ?_
   refine Va (Xm (Xy rfl rfl te_25) (congrArg (fun n : Nat => Wb .i64 (n : Int)) (Wh _))) rfl ?_
   refine Xl rfl rfl c3 ?_
   refine Va (Zn rfl rfl) rfl ?_
   refine Va (Vw (congrArg Wc c3) rfl) rfl ?_
   refine Va (Zc rfl) rfl ?_
   refine Ve ?_
   refine Xt ?_
   obtain rfl := Wd hF
   refine fnR ?_
   exact Vm rfl [] (by decide) ⟨Vj rfl (.bool _), trivial⟩ trivial
  ·have hF := Yj c3 hF
   refine Va (Vy (ds := [.vs 2 (Wa T_Place.enc p0.Places), .vs 10 (Wa T_Road.enc p0.Roads)]) rfl (Vg rfl rfl) rfl ta_27 ts_27 rfl rfl rfl) rfl ?_
   refine Vi (Xg rfl Try.call42 (F_ref01_Check_ok h2 _)) rfl ?_
   refine Va (Zn rfl rfl) rfl ?_
   refine Va (Vn rfl) rfl ?_
   refine Vc rfl rfl (Zw c3) rfl ?_
   refine Vc rfl rfl (Zw c3) rfl ?_
   refine Vc rfl rfl (Zw c3) rfl ?_
   refine Vc rfl rfl (Zw c3) rfl ?_
   refine Vc rfl rfl (Zw c3) rfl ?_
   refine Vc rfl rfl (Zw c3) rfl ?_
   refine Va (Vx (congrArg Wc c3) rfl) rfl ?_
   refine Va (Zc rfl) rfl ?_
   refine Ve ?_
   refine Xt ?_
   obtain rfl := Wd hF
   refine fnR ?_
   exact Vm rfl [] (by decide) ⟨Vj rfl (.bool _), trivial⟩ trivial
 ·rintro _ _ _ _ ⟨he, hw⟩
  refine ⟨_, _, _, hw, ?_⟩
  exact Yu he [.bool r] ⟨rfl, trivial⟩ (.bool _) ⟨rfl, rfl⟩

theorem F_ref14_Can_ok {p0 : T_Mine} {p1 : List T_Span} {p2 : Int} {p3 : Bool} {r : Bool} (hF : F_ref14_Can p0 p1 p2 p3 = some r) (low : List AObj) :
    Zd Try.prog 32 [.agg [.vs 2 (Wa T_Place.enc p0.Places), .vs 10 (Wa T_Road.enc p0.Roads)], .vs 2 (Wa T_Span.enc p1), .int .i64 p2, .bool p3] low fun x low' => x = .bool r ∧ low' = low := by
 refine Xh (nt := 28) (rs := [.tmp 8]) Try.func32 rfl rfl (We rfl) rfl ?_
 refine Vo (Q' := FnE (fun E' lw lc => Xr E' lw lc [(8, .bool r)] low [])) ?_ ?_
 ·unfold F_ref14_Can at hF
  refine Vf ?_
  refine Vd ?_
  refine Vi (Zo rfl rfl (v := .agg [.vs 2 (Wa T_Place.enc p0.Places), .vs 10 (Wa T_Road.enc p0.Roads)]) rfl rfl (Wf _) rfl rfl) rfl ?_
  refine Va (Zc rfl) rfl ?_
  refine Ve ?_
  refine Vf ?_
  refine Vf ?_
  refine Vd ?_
  obtain ⟨x1, h2, hF⟩ := Ya hF
  refine Va (Vb rfl tf_27_1 ts_25 (by decide)) rfl ?_
  refine Va (Vh rfl (Vg rfl rfl) rfl ta_25 rfl) rfl ?_
  refine Va (Vk rfl) rfl ?_
  refine Va (Xm (Xz rfl rfl h2 te_25 ts_46) (v' := .vptr [.int .i64 x1.From, .int .i64 x1.To, .int .i64 x1.Length, .int .i64 x1.Area, .bool x1.Walk, .bool x1.Closed, .int .i64 x1.Rest.Low, .int .i64 x1.Rest.High, .int .i64 x1.Lift.Low, .int .i64 x1.Lift.High] 0) rfl) rfl ?_
  refine Va (Yg rfl tf_46_5 ts_4 (by decide)) rfl ?_
  refine Va (Xs rfl ta_4 rfl) rfl ?_
  refine Ve ?_
  refine Xd rfl (fun c3 => ?_) (fun c3 => ?_)
  ·have hF := Yi c3 hF
   refine Vf ?_
   refine Vd ?_
   refine Va (Zc rfl) rfl ?_
   refine Ve ?_
   refine Xt ?_
   obtain rfl := Wd hF
   refine fnR ?_
   exact Vm rfl [] (by decide) ⟨Vj rfl (.bool _), trivial⟩ trivial
  ·have hF := Yj c3 hF
   refine Xe ?_
   refine Vf ?_
   refine Vf ?_
   refine Vd ?_
   refine Va (Vn rfl) rfl ?_
   refine Ve ?_
   refine Xd rfl (fun c4 => ?_) (fun c4 => ?_)
   ·have hF := Yi c4 hF
    refine Vf ?_
    refine Vd ?_
    obtain ⟨x5, h6, hF⟩ := Ya hF
    refine Va (Yc rfl) rfl ?_
    refine Va (Vk rfl) rfl ?_
    refine Va (Xm (Xz rfl rfl h6 te_23 ts_44) (v' := .vptr [.int .i64 x5.Low, .int .i64 x5.High] 0) rfl) rfl ?_
    refine Va (Yg rfl tf_44_0 ts_3 (by decide)) rfl ?_
    refine Va (Xs rfl ta_3 rfl) rfl ?_
    refine Va (Yh rfl rfl) rfl ?_
    refine Va (Zc rfl) rfl ?_
    refine Ve ?_
    refine Xt ?_
    obtain rfl := Wd hF
    refine fnR ?_
    exact Vm rfl [] (by decide) ⟨Vj rfl (.bool _), trivial⟩ trivial
   ·have hF := Yj c4 hF
    refine Xe ?_
    refine Vf ?_
    refine Vd ?_
    obtain ⟨x7, h8, hF⟩ := Ya hF
    refine Va (Yc rfl) rfl ?_
    refine Va (Vk rfl) rfl ?_
    refine Va (Xm (Xz rfl rfl h8 te_23 ts_44) (v' := .vptr [.int .i64 x7.Low, .int .i64 x7.High] 0) rfl) rfl ?_
    refine Va (Yg rfl tf_44_1 ts_3 (by decide)) rfl ?_
    refine Va (Xs rfl ta_3 rfl) rfl ?_
    refine Va (Zp rfl rfl) rfl ?_
    refine Va (Zc rfl) rfl ?_
    refine Ve ?_
    refine Xt ?_
    obtain rfl := Wd hF
    refine fnR ?_
    exact Vm rfl [] (by decide) ⟨Vj rfl (.bool _), trivial⟩ trivial
 ·rintro _ _ _ _ ⟨he, hw⟩
  refine ⟨_, _, _, hw, ?_⟩
  exact Yu he [.bool r] ⟨rfl, trivial⟩ (.bool _) ⟨rfl, rfl⟩

theorem F_ref14_Ends_ok {p0 : T_Mine} {p1 : Int} {p2 : Bool} {r : Int × Int} (hF : F_ref14_Ends p0 p1 p2 = some r) (low : List AObj) :
    Zd Try.prog 33 [.agg [.vs 2 (Wa T_Place.enc p0.Places), .vs 10 (Wa T_Road.enc p0.Roads)], .int .i64 p1, .bool p2] low fun x low' => x = .tup [.int .i64 r.1, .int .i64 r.2] ∧ low' = low := by
 refine Xh (nt := 33) (rs := [.tmp 6, .tmp 7]) Try.func33 rfl rfl (We rfl) rfl ?_
 refine Vo (Q' := FnE (fun E' lw lc => Xr E' lw lc [(6, .int .i64 r.1), (7, .int .i64 r.2)] low [])) ?_ ?_
 ·unfold F_ref14_Ends at hF
  refine Vf ?_
  refine Vd ?_
  refine Vi (Zo rfl rfl (v := .agg [.vs 2 (Wa T_Place.enc p0.Places), .vs 10 (Wa T_Road.enc p0.Roads)]) rfl rfl (Wf _) rfl rfl) rfl ?_
  refine Va (Xi rfl) rfl ?_
  refine Va (Xi rfl) rfl ?_
  refine Ve ?_
  refine Vf ?_
  refine Vf ?_
  refine Vd ?_
  refine Va (Vn rfl) rfl ?_
  refine Ve ?_
  refine Xd rfl (fun c1 => ?_) (fun c1 => ?_)
  ·have hF := Yi c1 hF
   refine Vf ?_
   obtain ⟨x2, h3, hF⟩ := Ya hF
   obtain ⟨x4, h5, hF⟩ := Ya hF
   refine Zm [[], [0], [], [0, 1, 2], [0, 1, 2, 3], [0, 1, 2, 3, 4], [], [6], [], [6, 7, 8], [6, 7, 8, 9], [6, 7, 8, 9, 10], [0, 1, 2, 3, 4, 5], [0, 1, 2, 3, 4, 5, 6, 7, 8, 9, 10, 11, 12]] mixed (by kernel_rfl) rfl ?_
   refine Xu rfl rfl (Vb rfl tf_27_1 ts_25 (by decide)) ?_
   refine Xu rfl rfl (Vh rfl (Vg rfl rfl) rfl ta_25 rfl) ?_
   refine Xu rfl rfl (Vk rfl) ?_
   refine Xu rfl rfl (Xm (Xz rfl rfl h3 te_25 ts_46) (v' := .vptr [.int .i64 x2.From, .int .i64 x2.To, .int .i64 x2.Length, .int .i64 x2.Area, .bool x2.Walk, .bool x2.Closed, .int .i64 x2.Rest.Low, .int .i64 x2.Rest.High, .int .i64 x2.Lift.Low, .int .i64 x2.Lift.High] 0) rfl) ?_
   refine Xu rfl rfl (Yg rfl tf_46_1 ts_3 (by decide)) ?_
   refine Xu rfl rfl (Xs rfl ta_3 rfl) ?_
   refine Xu rfl rfl (Vb rfl tf_27_1 ts_25 (by decide)) ?_
   refine Xu rfl rfl (Vh rfl (Vg rfl rfl) rfl ta_25 rfl) ?_
   refine Xu rfl rfl (Vk rfl) ?_
   refine Xu rfl rfl (Xm (Xz rfl rfl h5 te_25 ts_46) (v' := .vptr [.int .i64 x4.From, .int .i64 x4.To, .int .i64 x4.Length, .int .i64 x4.Area, .bool x4.Walk, .bool x4.Closed, .int .i64 x4.Rest.Low, .int .i64 x4.Rest.High, .int .i64 x4.Lift.Low, .int .i64 x4.Lift.High] 0) rfl) ?_
   refine Xu rfl rfl (Yg rfl tf_46_0 ts_3 (by decide)) ?_
   refine Xu rfl rfl (Xs rfl ta_3 rfl) ?_
   refine Xu rfl rfl (Xi rfl) ?_
   refine Xu rfl rfl (Xi rfl) ?_
   refine Yq ?_
   refine Xt ?_
   obtain rfl := Wd hF
   refine fnR ?_
   exact Vm rfl [] (by decide) ⟨Vj rfl (.int _ _), Vj rfl (.int _ _), trivial⟩ trivial
  ·have hF := Yj c1 hF
   refine Xe ?_
   refine Vf ?_
   obtain ⟨x6, h7, hF⟩ := Ya hF
   obtain ⟨x8, h9, hF⟩ := Ya hF
   refine Zm [[], [0], [], [0, 1, 2], [0, 1, 2, 3], [0, 1, 2, 3, 4], [], [6], [], [6, 7, 8], [6, 7, 8, 9], [6, 7, 8, 9, 10], [0, 1, 2, 3, 4, 5], [0, 1, 2, 3, 4, 5, 6, 7, 8, 9, 10, 11, 12]] mixed (by kernel_rfl) rfl ?_
   refine Xu rfl rfl (Vb rfl tf_27_1 ts_25 (by decide)) ?_
   refine Xu rfl rfl (Vh rfl (Vg rfl rfl) rfl ta_25 rfl) ?_
   refine Xu rfl rfl (Vk rfl) ?_
   refine Xu rfl rfl (Xm (Xz rfl rfl h7 te_25 ts_46) (v' := .vptr [.int .i64 x6.From, .int .i64 x6.To, .int .i64 x6.Length, .int .i64 x6.Area, .bool x6.Walk, .bool x6.Closed, .int .i64 x6.Rest.Low, .int .i64 x6.Rest.High, .int .i64 x6.Lift.Low, .int .i64 x6.Lift.High] 0) rfl) ?_
   refine Xu rfl rfl (Yg rfl tf_46_0 ts_3 (by decide)) ?_
   refine Xu rfl rfl (Xs rfl ta_3 rfl) ?_
   refine Xu rfl rfl (Vb rfl tf_27_1 ts_25 (by decide)) ?_
   refine Xu rfl rfl (Vh rfl (Vg rfl rfl) rfl ta_25 rfl) ?_
   refine Xu rfl rfl (Vk rfl) ?_
   refine Xu rfl rfl (Xm (Xz rfl rfl h9 te_25 ts_46) (v' := .vptr [.int .i64 x8.From, .int .i64 x8.To, .int .i64 x8.Length, .int .i64 x8.Area, .bool x8.Walk, .bool x8.Closed, .int .i64 x8.Rest.Low, .int .i64 x8.Rest.High, .int .i64 x8.Lift.Low, .int .i64 x8.Lift.High] 0) rfl) ?_
   refine Xu rfl rfl (Yg rfl tf_46_1 ts_3 (by decide)) ?_
   refine Xu rfl rfl (Xs rfl ta_3 rfl) ?_
   refine Xu rfl rfl (Xi rfl) ?_
   refine Xu rfl rfl (Xi rfl) ?_
   refine Yq ?_
   refine Xt ?_
   obtain rfl := Wd hF
   refine fnR ?_
   exact Vm rfl [] (by decide) ⟨Vj rfl (.int _ _), Vj rfl (.int _ _), trivial⟩ trivial
 ·rintro _ _ _ _ ⟨he, hw⟩
  refine ⟨_, _, _, hw, ?_⟩
  exact Yu he [.int .i64 r.1, .int .i64 r.2] ⟨rfl, rfl, trivial⟩ ((lt_tup ⟨.int _ _, .int _ _, trivial⟩)) ⟨rfl, rfl⟩

theorem F_ref14_Ways_ok {p0 : T_Mine} {p1 : List T_Span} {r : List A2_Int} (hF : F_ref14_Ways p0 p1 = some r) (low : List AObj) :
    Zd Try.prog 10 [.agg [.vs 2 (Wa T_Place.enc p0.Places), .vs 10 (Wa T_Road.enc p0.Roads)], .vs 2 (Wa T_Span.enc p1)] low fun x low' => x = .vs 2 (Wa A2_Int.enc r) ∧ low' = low := by
 refine Xh (nt := 46) (rs := [.tmp 4]) Try.func10 rfl rfl (We rfl) rfl ?_
 refine Vo (Q' := FnE (fun E' lw lc => Xr E' lw lc [(4, .vs 2 (Wa A2_Int.enc r))] low [])) ?_ ?_
 ·unfold F_ref14_Ways at hF
  refine Vf ?_
  refine Vd ?_
  refine Vi (Zo rfl rfl (v := .agg [.vs 2 (Wa T_Place.enc p0.Places), .vs 10 (Wa T_Road.enc p0.Roads)]) rfl rfl (Wf _) rfl rfl) rfl ?_
  refine Va (rd_nv (sz := 2) (rd_asN rfl)) rfl ?_
  refine Ve ?_
  refine Vf ?_
  refine Vf ?_
  refine Vd ?_
  obtain ⟨x1, h2, hF⟩ := Ya hF
  refine Va (Vy (ds := [.vs 2 (Wa T_Place.enc p0.Places), .vs 10 (Wa T_Road.enc p0.Roads)]) rfl (Vg rfl rfl) rfl ta_27 ts_27 rfl rfl rfl) rfl ?_
  refine Va (Yc rfl) rfl ?_
  refine Vi (Xg rfl Try.call31 (F_ref14_right_ok h2 _)) rfl ?_
  refine Va (rd_not rfl) rfl ?_
  refine Ve ?_
  refine Xd rfl (fun c3 => ?_) (fun c3 => ?_)
  ·have hF := Yi c3 hF
   refine Vf ?_
   refine Vd ?_
   refine Va (rd_nv (sz := 2) (rd_asN rfl)) rfl ?_
   refine Ve ?_
   refine Xt ?_
   obtain rfl := Wd hF
   refine fnR ?_
   exact Vm rfl [] (by decide) ⟨Vj rfl (.vs _ _), trivial⟩ trivial
  ·have hF := Yj c3 hF
   refine Xe ?_
   refine Vf ?_
   refine Vd ?_
   refine Vi (vef_nilsN rfl rfl 40 2 (Wf _) (rd_asN rfl)) rfl ?_
   refine Ve ?_
   refine Vf ?_
   refine Vf ?_
   refine Vd ?_
   refine Va (Xi rfl) rfl ?_
   refine Ve ?_
   refine Xa ?_
   obtain ⟨o5, ho5, hF⟩ := Ya hF
   refine Vo (Yk (F_ref14_Ways_L1 p0 p1) (fun s4 E' lw lc => Xr E' lw lc [(1, .vs 2 (Wa T_Span.enc p1)), (2, .ptr (low.length + 0) 0 0 0), (5, .sl (low.length + 1) 0 0 (s4.2).length), (6, .int .i64 s4.1)] low [⟨27, 2, [.agg [.vs 2 (Wa T_Place.enc p0.Places), .vs 10 (Wa T_Road.enc p0.Roads)]], 0⟩, ⟨40, 2, Wa A2_Int.enc s4.2, 0⟩]) (fun o5 => OnlyE (.exit 0) (fun E' lw lc => Xr E' lw lc [(5, .sl (low.length + 0) 0 0 (o5).length)] low [⟨40, 2, Wa A2_Int.enc o5, 0⟩])) ho5 ?_ (by rintro _ _ _ _ ⟨h, _⟩ <;> cases h) ?_) ?_
   ·exact Vl ⟨rfl, rfl, rfl, rfl, trivial⟩
   ·rintro s4 os4 _ _ _ hF hw
    unfold F_ref14_Ways_L1 at hF
    refine Yd hw ?_
    refine Vf ?_
    refine Vf ?_
    refine Vd ?_
    refine Va (Vk rfl) rfl ?_
    refine Va (Vb rfl tf_27_1 ts_25 (by decide)) rfl ?_
    refine Va (Vh rfl (Vg rfl rfl) rfl ta_25 rfl) rfl ?_
    refine Va (Xm (Xy rfl rfl te_25) (congrArg (fun n : Nat => Wb .i64 (n : Int)) (Wh _))) rfl ?_
    refine Va (Yh rfl rfl) rfl ?_
    refine Ve ?_
    refine Xd rfl (fun c6 => ?_) (fun c6 => ?_)
    ·have hF := Yi c6 hF
     refine Xe ?_
     refine Vf ?_
     refine Xa ?_
     refine Vf ?_
     refine Vd ?_
     refine Va (Xi rfl) rfl ?_
     refine Ve ?_
     refine Xa ?_
     obtain ⟨o8, ho8, hF⟩ := Ya hF
     refine Vo (Yk (F_ref14_Ways_L2 p0 p1 s4) (fun s7 E' lw lc => Xr E' lw lc [(1, .vs 2 (Wa T_Span.enc p1)), (2, .ptr (low.length + 0) 0 0 0), (5, .sl (low.length + 1) 0 0 (s7.2).length), (6, .int .i64 s4.1), (7, .int .i64 s7.1)] low [⟨27, 2, [.agg [.vs 2 (Wa T_Place.enc p0.Places), .vs 10 (Wa T_Road.enc p0.Roads)]], 0⟩, ⟨40, 2, Wa A2_Int.enc s7.2, 0⟩]) (fun o8 => OnlyE (.exit 2) (fun E' lw lc => Xr E' lw lc [(1, .vs 2 (Wa T_Span.enc p1)), (2, .ptr (low.length + 0) 0 0 0), (5, .sl (low.length + 1) 0 0 (o8).length), (6, .int .i64 s4.1)] low [⟨27, 2, [.agg [.vs 2 (Wa T_Place.enc p0.Places), .vs 10 (Wa T_Road.enc p0.Roads)]], 0⟩, ⟨40, 2, Wa A2_Int.enc o8, 0⟩])) ho8 ?_ (by rintro _ _ _ _ ⟨h, _⟩ <;> cases h) ?_) ?_
     ·exact Vl ⟨rfl, rfl, rfl, rfl, rfl, trivial⟩
     ·rintro s7 os7 _ _ _ hF hw
      unfold F_ref14_Ways_L2 at hF
      refine Yd hw ?_
      refine Vf ?_
      refine Vf ?_
      refine Vd ?_
      refine Va (Vk rfl) rfl ?_
      refine Va (Yh rfl rfl) rfl ?_
      refine Ve ?_
      refine Xd rfl (fun c9 => ?_) (fun c9 => ?_)
      ·have hF := Yi c9 hF
       refine Xe ?_
       refine Vf ?_
       obtain ⟨o10, ho10, hF⟩ := Ya hF
       refine Vo (Q' := (fun o10 => OnlyE .normal (fun E' lw lc => Xr E' lw lc [(1, .vs 2 (Wa T_Span.enc p1)), (2, .ptr (low.length + 0) 0 0 0), (5, .sl (low.length + 1) 0 0 (o10).length), (6, .int .i64 s4.1), (7, .int .i64 s7.1)] low [⟨27, 2, [.agg [.vs 2 (Wa T_Place.enc p0.Places), .vs 10 (Wa T_Road.enc p0.Roads)]], 0⟩, ⟨40, 2, Wa A2_Int.enc o10, 0⟩])) o10) ?_ ?_
       ·replace hF := ho10
        refine Xa ?_
        refine Vf ?_
        refine Vd ?_
        obtain ⟨x11, h12, hF⟩ := Ya hF
        refine Va (Vy (ds := [.vs 2 (Wa T_Place.enc p0.Places), .vs 10 (Wa T_Road.enc p0.Roads)]) rfl (Vg rfl rfl) rfl ta_27 ts_27 rfl rfl rfl) rfl ?_
        refine Va (Yc rfl) rfl ?_
        refine Va (Vk rfl) rfl ?_
        refine Va (Vk rfl) rfl ?_
        refine Va (Zn rfl rfl) rfl ?_
        refine Vi (Xg rfl Try.call32 (F_ref14_Can_ok h12 _)) rfl ?_
        refine Ve ?_
        refine Xd rfl (fun c13 => ?_) (fun c13 => ?_)
        ·have hF := Yi c13 hF
         refine Vf ?_
         refine Vd ?_
         obtain ⟨x14, h15, hF⟩ := Ya hF
         refine Va (Vy (ds := [.vs 2 (Wa T_Place.enc p0.Places), .vs 10 (Wa T_Road.enc p0.Roads)]) rfl (Vg rfl rfl) rfl ta_27 ts_27 rfl rfl rfl) rfl ?_
         refine Va (Vk rfl) rfl ?_
         refine Va (Vk rfl) rfl ?_
         refine Va (Zn rfl rfl) rfl ?_
         refine Vi (Xg rfl Try.call33 (F_ref14_Ends_ok h15 _)) rfl ?_
         refine Va (rd_mvT rfl) rfl ?_
         refine Va (Zr rfl rfl) rfl ?_
         refine Va (Zr rfl rfl) rfl ?_
         refine Va (Xi rfl) rfl ?_
         refine Va (Xi rfl) rfl ?_
         refine Ve ?_
         refine Vd ?_
         obtain ⟨x16, h17, hF⟩ := Ya hF
         refine Va (Yx rfl) rfl ?_
         refine Va (Vk rfl) rfl ?_
         refine Va (Vk rfl) rfl ?_
         refine Va (rd_buildA (vs := [(0, .int .i64 x14.1), (1, .int .i64 x14.2)]) (ds := [.int .i64 x14.1, .int .i64 x14.2]) tz_40 rfl rfl tr_40 ts_3 ⟨rfl, rfl, rfl, rfl, trivial⟩ (Yl rfl) rfl) rfl ?_
         refine Vi (Yt (es := Wa A2_Int.enc [(A2_Int.mk x14.1 x14.2)]) ⟨rfl, rfl, trivial⟩ rfl rfl (Zg rfl) te_36 ts_40 tz_40 rfl rfl (Wf _) (by decide) (Ym A2_Int.enc_lt)) rfl ?_
         refine Vi (Zu (f := A2_Int.enc) (l := s7.2) (ys := [(A2_Int.mk x14.1 x14.2)]) rfl rfl (Vg rfl rfl) rfl (Zx rfl) te_36 ts_40 tb_40 (by decide) tz_40 rfl h17 (Xn rfl rfl)) rfl ?_
         refine Va (Zy rfl) rfl ?_
         refine Ve ?_
         obtain rfl := Wd hF
         refine Vz ?_
         exact Vm rfl [(0, 0), (1, 0 + 1)] (by decide) ⟨Vj rfl (.vs _ _), Vu 0 0 rfl rfl, Xx 1 1 rfl rfl, Vj rfl (.int _ _), Vj rfl (.int _ _), trivial⟩ ⟨⟨_, rfl, rfl, .same _ _ _ _ (Vq ⟨Vp ⟨.vs _ _, .vs _ _, trivial⟩, trivial⟩)⟩, ⟨_, rfl, rfl, .same _ _ _ _ (Vs A2_Int.enc_lt)⟩, trivial⟩
        ·have hF := Yj c13 hF
         refine Xe ?_
         obtain rfl := Wd hF
         refine Vz ?_
         exact Vl ⟨rfl, rfl, rfl, rfl, rfl, trivial⟩
       ·rintro _ _ _ _ ⟨rfl, hw⟩
        refine ⟨_, _, _, hw, ?_⟩
        refine Vd ?_
        refine Va (Vk rfl) rfl ?_
        refine Va (Za rfl rfl rfl) rfl ?_
        refine Va (Xi rfl) rfl ?_
        refine Ve ?_
        obtain rfl := Wd hF
        refine Vz ?_
        exact Vl ⟨rfl, rfl, rfl, rfl, rfl, trivial⟩
      ·have hF := Yj c9 hF
       refine Yr ?_
       obtain rfl := Wd hF
       refine Vz ?_
       exact Vl ⟨rfl, rfl, rfl, rfl, trivial⟩
     ·rintro _ _ _ _ ⟨rfl, hw⟩
      refine ⟨_, _, _, hw, ?_⟩
      refine Vd ?_
      refine Va (Vk rfl) rfl ?_
      refine Va (Za rfl rfl rfl) rfl ?_
      refine Va (Xi rfl) rfl ?_
      refine Ve ?_
      obtain rfl := Wd hF
      refine Vz ?_
      exact Vl ⟨rfl, rfl, rfl, rfl, trivial⟩
    ·have hF := Yj c6 hF
     refine Yr ?_
     obtain rfl := Wd hF
     refine Vz ?_
     exact Vm rfl [(1, 0)] (by decide) ⟨Xx 0 1 rfl rfl, trivial⟩ ⟨⟨_, rfl, rfl, .same _ _ _ _ (Vs A2_Int.enc_lt)⟩, trivial⟩
   ·rintro _ _ _ _ ⟨rfl, hw⟩
    refine ⟨_, _, _, hw, ?_⟩
    refine Vf ?_
    refine Vd ?_
    refine Va (Yx rfl) rfl ?_
    refine Va (Zy rfl) rfl ?_
    refine Ve ?_
    refine Xt ?_
    obtain rfl := Wd hF
    refine fnR ?_
    refine Weak.trans (Ys (E' := [(4, .vs 2 (Wa A2_Int.enc o5))]) (loc1 := [⟨40, 2, [], 0 + 1⟩]) rfl 0 rfl (Ym A2_Int.enc_lt) ⟨cv_sl rfl rfl rfl (Zb rfl), trivial⟩ ⟨.refl _, trivial⟩) ?_
    exact Vm rfl [] (by decide) ⟨Vj rfl (.vs _ _), trivial⟩ trivial
 ·rintro _ _ _ _ ⟨he, hw⟩
  refine ⟨_, _, _, hw, ?_⟩
  exact Yu he [.vs 2 (Wa A2_Int.enc r)] ⟨rfl, trivial⟩ (.vs _ _) ⟨rfl, rfl⟩

end Go.Proofs.Ytaedmgkcmbhicaa
