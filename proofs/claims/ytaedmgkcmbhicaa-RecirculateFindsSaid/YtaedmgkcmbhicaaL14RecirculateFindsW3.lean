/- Printed by wip/lift/lift.py: the walks that show that the program computes them. -/
import Derived.Test.YtaedmgkcmbhicaaL14RecirculateFindsW2
namespace Go.Proofs.Ytaedmgkcmbhicaa
open Go Go.Aml Go.L
attribute [local irreducible] VRd VEf VOp VOps VWp DOps
set_option linter.unusedVariables false
open Go.Aml renaming vops_rd → Va, rd_fieldAddr → Vb, vops_skip → Vc, vwp_region → Vd, vops_nil → Ve, vwp_seq → Vf, getO_N → Vg, rn_low → Vh, vops_efE → Vi, rd_load1 → Vj, rd_mvI → Vk, lenS → Vl, weak_pick → Vm, ltObj_es → Vn, lt_agg → Vo, weak_sub → Vp, ltObj_map → Vq, rd_mvB → Vr, vwp_monoW → Vs, rn_ptr → Vt, cv_same → Vu, all1 → Vv, vef_store → Vw, dops_rdW → Vx, rd_pickF → Vy, vef_callS → Vz, rd_loadN → Xa, nn_same → Xb, rd_pickT → Xc, vt1 → Xd, rd_loadV1 → Xe, sets_nil → Xf, rd_mvP → Xg, vwp_block → Xh, vwp_cond → Xi, vwp_skip → Xj, onlyE → Xk, vops_take → Xl, vef_allocN → Xm, setO_N → Xn, rd_to → Xo, len_setL → Xp, rd_fieldVaddr → Xq, vcalls_of_body → Xr, len_app → Xs, Lift → Xt, rd_ixV → Xu, rd_asI → Xv, rd_mvV → Xw, vef_callP → Xx, VRd → Xy, Weak → Xz, dops_ef → Ya, vwp_ret → Yb, rn_sl → Yc, dr1 → Yd, rd_build → Ye, bnd → Yf, nt_ne → Yg, nt_all2 → Yh, getI_some → Yi, lp_bindE → Yj, sets_B → Yk, vwp_weak → Yl, lt_map → Ym, rd_mvL → Yn, ltObjN → Yo, rd_nilPtr → Yp, bifT → Yq, bifF → Yr, getO_B → Ys, vef_litF → Yt, rd_lenV → Yu, weak_freezeN → Yv, all0 → Yw, dops_nil → Yx, vwp_loopC → Yy, rd_lss → Yz, lp_some → Za, get_B → Zb, bodyQ_pure → Zc, vwp_exit → Zd, neF → Ze, rd_add → Zf, dops_skip → Zg, VCalls → Zh, rd_asB → Zi, full_take → Zj, rd_eql → Zk, vops_skipX → Zl, nt_all → Zm, vwp_drawn → Zn, rd_loadVN → Zo, rd_sub → Zp, rd_gtr → Zq, rd_ixS → Zr, rd_ldL1 → Zs, dopx_rd → Zt, rx1 → Zu, sets_own → Zv, vef_apL → Zw, vef_boxN → Zx, vwp_drawn0 → Zy, vcalls_low → Zz
open List renaming map → Wa
open Go.Aml.PV renaming int → Wb
open Go.Aml.PV renaming bool → Wc
open Option.some renaming inj → Wd
open Nat renaming le_of_ble_eq_true → We
open Nat renaming succ_pos → Wf
open Bool renaming eq_false_or_eq_true → Wg
open List renaming length_map → Wh
set_option maxHeartbeats 4000000

theorem F_draw_Codes_Mine_ok0 {p0 : T_draw_Codes} {r : T_draw_Codes × T_Mine} (hF : F_draw_Codes_Mine p0 = some r) {low0 : List AObj} {q0 w0 : Nat} (hB : Bor low0 [q0]) {n : Nat} (hn : low0.length = n) :
    Zh Try.prog 26 [.ptr q0 w0 0 0] (setL low0 [(q0, ⟨88, 2, [.agg [.vs 1 (Wa (Wb .u8) p0.l), .int .i64 p0.at_]], w0⟩)]) fun x low' => x = .agg [.sl (n + 0) 0 0 (r.2.Places).length, .sl (n + 1) 0 0 (r.2.Roads).length] ∧ low' = setL low0 [(q0, ⟨88, 2, [.agg [.vs 1 (Wa (Wb .u8) r.1.l), .int .i64 r.1.at_]], w0⟩)] ++ [⟨48, 2, Wa T_Place.enc r.2.Places, 0⟩, ⟨46, 10, Wa T_Road.enc r.2.Roads, 0⟩] := by
 refine Xr (nt := 63) (rs := [.cell 2 27]) Try.func26 rfl rfl (We rfl) rfl ?_
 have hq0 : q0 < n := hB.ltN hn 0 rfl
 refine Vs (Q' := FnE (fun E' lw lc => Xz E' lw lc [(2, .ptr (n + 2) 0 0 0)] (setL low0 [(q0, ⟨88, 2, [.agg [.vs 1 (Wa (Wb .u8) r.1.l), .int .i64 r.1.at_]], w0⟩)]) [⟨48, 2, Wa T_Place.enc r.2.Places, 0⟩, ⟨46, 10, Wa T_Road.enc r.2.Roads, 0⟩, ⟨27, 2, [.agg [.sl (n + 0) 0 0 (r.2.Places).length, .sl (n + 1) 0 0 (r.2.Roads).length]], 0⟩])) ?_ ?_
 ·unfold F_draw_Codes_Mine at hF
  refine Vf ?_
  refine Vd ?_
  refine Vi (Xm (Vl hn) rfl tz_27 rfl rfl (Wf _) rfl) rfl ?_
  refine Ve ?_
  refine Vf ?_
  refine Vd ?_
  refine Va (Ye (vs := [(1, .bool true)]) (ds := [.int .i64 0, .bool true]) tz_48 rfl rfl tp_48 ⟨rfl, rfl, trivial⟩ (Yh rfl) rfl) rfl ?_
  refine Vi (vef_litN (Vl hn) rfl (es := Wa T_Place.enc [(T_Place.mk 0 true)]) ⟨rfl, rfl, trivial⟩ rfl rfl (Zm rfl) te_24 ts_48 tz_48 rfl rfl (Wf _) (by decide)) rfl ?_
  refine Va (Ye (vs := [(0, .sl (n + 1) 0 0 ([(T_Place.mk 0 true)]).length)]) (ds := [.sl (n + 1) 0 0 ([(T_Place.mk 0 true)]).length, .nils]) tz_27 rfl rfl tp_27 ⟨rfl, rfl, trivial⟩ (Yh rfl) rfl) rfl ?_
  refine Vi (Xm (Vl hn) rfl tz_27 rfl rfl (Wf _) rfl) rfl ?_
  refine Vi (Vw (p := .agg [.sl (n + 1) 0 0 ([(T_Place.mk 0 true)]).length, .nils]) (e' := .agg [.sl (n + 1) 0 0 ([(T_Place.mk 0 true)]).length, .nils]) rfl (Vg (Vl hn) rfl) rfl rfl ts_27 rfl (Yg rfl) rfl (We rfl) rfl (Xn (Vl hn) rfl)) rfl ?_
  refine Ve ?_
  refine Vf ?_
  refine Vf ?_
  refine Vd ?_
  obtain ⟨x1, h2, hF⟩ := Yf hF
  refine Va (Xg rfl) rfl ?_
  refine Vi (Vz (ps := [(q0, ⟨88, 2, [.agg [.vs 1 (Wa (Wb .u8) x1.1.l), .int .i64 x1.1.at_]], w0⟩)]) (r := .int .i64 x1.2) (os := []) (low1 := (setL low0 [(q0, ⟨88, 2, [.agg [.vs 1 (Wa (Wb .u8) x1.1.l), .int .i64 x1.1.at_]], w0⟩)])) (loc1 := [⟨27, 2, [.agg [.nils, .nils]], 0⟩, ⟨48, 2, Wa T_Place.enc [(T_Place.mk 0 true)], 0⟩, ⟨27, 2, [.agg [.sl (n + 1) 0 0 ([(T_Place.mk 0 true)]).length, .nils]], 0⟩]) (loc2 := [⟨27, 2, [.agg [.nils, .nils]], 0⟩, ⟨48, 2, Wa T_Place.enc [(T_Place.mk 0 true)], 0⟩, ⟨27, 2, [.agg [.sl (n + 1) 0 0 ([(T_Place.mk 0 true)]).length, .nils]], 0⟩]) rfl Try.call27 (F_draw_Codes_Next_ok h2 (nd1 na0 nd0) (Zb hB rfl 0 rfl) (Xs (Vl hn) rfl)) (Yk (ps0' := [(q0, ⟨88, 2, [.agg [.vs 1 (Wa (Wb .u8) x1.1.l), .int .i64 x1.1.at_]], w0⟩)]) hB rfl 0 rfl (Yo hn ⟨Vo ⟨.vs _ _, .int _ _, trivial⟩, trivial⟩) rfl Xf) rfl) rfl ?_
  refine Va (Zf rfl rfl rfl) rfl ?_
  refine Va (Xv rfl) rfl ?_
  refine Ve ?_
  refine Xh ?_
  obtain ⟨o4, ho4, hF⟩ := Yf hF
  refine Vs (Yy F_draw_Codes_Mine_L1 (fun s3 E' lw lc => Xz E' lw lc [(0, .ptr q0 w0 0 0), (2, .ptr (n + 0) 0 0 0), (3, .ptr (n + 1) 0 0 0), (4, .int .i64 s3.1)] (setL low0 [(q0, ⟨88, 2, [.agg [.vs 1 (Wa (Wb .u8) s3.2.2.l), .int .i64 s3.2.2.at_]], w0⟩)]) [⟨27, 2, [.agg [.nils, .nils]], 0⟩, ⟨27, 2, [.agg [.sl (n + 2) 0 0 (s3.2.1).length, .nils]], 0⟩, ⟨48, 2, Wa T_Place.enc s3.2.1, 0⟩]) (fun o4 => OnlyE (.exit 0) (fun E' lw lc => Xz E' lw lc [(0, .ptr q0 w0 0 0), (2, .ptr (n + 0) 0 0 0), (3, .ptr (n + 1) 0 0 0)] (setL low0 [(q0, ⟨88, 2, [.agg [.vs 1 (Wa (Wb .u8) o4.2.l), .int .i64 o4.2.at_]], w0⟩)]) [⟨27, 2, [.agg [.nils, .nils]], 0⟩, ⟨27, 2, [.agg [.sl (n + 2) 0 0 (o4.1).length, .nils]], 0⟩, ⟨48, 2, Wa T_Place.enc o4.1, 0⟩])) ho4 ?_ (by rintro _ _ _ _ ⟨h, _⟩ <;> cases h) ?_) ?_
  ·exact Vm (Vl hn) [(0, 0), (2, 0), (1, 0)] (by decide) ⟨Vh rfl (.ptr _ _ _ _ hq0), Vt 0 0 rfl rfl, Vt 1 2 rfl rfl, Vh rfl (.int _ _), trivial⟩ ⟨⟨_, rfl, rfl, .same _ _ _ _ (Vn ⟨Vo ⟨.nils, .nils, trivial⟩, trivial⟩)⟩, ⟨_, rfl, rfl, .agg _ _ _ _ _ ⟨Yc 2 1 rfl rfl, Vh rfl (.nils), trivial⟩⟩, ⟨_, rfl, rfl, .same _ _ _ _ (Vq T_Place.enc_lt)⟩, trivial⟩
  ·rintro s3 os3 _ _ _ hF hw
   unfold F_draw_Codes_Mine_L1 at hF
   refine Yl hw ?_
   refine Vf ?_
   refine Vf ?_
   refine Vd ?_
   refine Va (Vk rfl) rfl ?_
   refine Va (Zq rfl rfl) rfl ?_
   refine Ve ?_
   refine Xi rfl (fun c5 => ?_) (fun c5 => ?_)
   ·have hF := Yq c5 hF
    refine Xj ?_
    refine Vf ?_
    refine Xh ?_
    obtain ⟨x6, h7, hF⟩ := Yf hF
    obtain ⟨x8, h9, hF⟩ := Yf hF
    obtain ⟨x10, h11, hF⟩ := Yf hF
    refine Zn [[], [0], [], [2], [], [2, 3, 4], [2, 3, 4, 5], [2, 3, 4, 5, 6], [0, 1, 2, 3, 4, 5, 6, 7], [0, 1, 2, 3, 4, 5, 6, 7, 8], [0, 1, 2, 3, 4, 5, 6, 7, 8, 9]] [false, false, false, true, false, true, false, false, true, false, true] [((setL low0 [(q0, ⟨88, 2, [.agg [.vs 1 (Wa (Wb .u8) s3.2.2.l), .int .i64 s3.2.2.at_]], w0⟩)]), [⟨27, 2, [.agg [.nils, .nils]], 0⟩, ⟨27, 2, [.agg [.sl (n + 2) 0 0 (s3.2.1).length, .nils]], 0⟩, ⟨48, 2, Wa T_Place.enc s3.2.1, 0⟩]), ((setL low0 [(q0, ⟨88, 2, [.agg [.vs 1 (Wa (Wb .u8) x6.1.l), .int .i64 x6.1.at_]], w0⟩)]), [⟨27, 2, [.agg [.nils, .nils]], 0⟩, ⟨27, 2, [.agg [.sl (n + 2) 0 0 (s3.2.1).length, .nils]], 0⟩, ⟨48, 2, Wa T_Place.enc s3.2.1, 0⟩]), ((setL low0 [(q0, ⟨88, 2, [.agg [.vs 1 (Wa (Wb .u8) x8.1.l), .int .i64 x8.1.at_]], w0⟩)]), [⟨27, 2, [.agg [.nils, .nils]], 0⟩, ⟨27, 2, [.agg [.sl (n + 2) 0 0 (s3.2.1).length, .nils]], 0⟩, ⟨48, 2, Wa T_Place.enc s3.2.1, 0⟩]), ((setL low0 [(q0, ⟨88, 2, [.agg [.vs 1 (Wa (Wb .u8) x8.1.l), .int .i64 x8.1.at_]], w0⟩)]), [⟨27, 2, [.agg [.nils, .nils]], 0⟩, ⟨27, 2, [.agg [.sl (n + 2) 0 0 (s3.2.1).length, .nils]], 0⟩, ⟨48, 2, Wa T_Place.enc x10, 0 + 1⟩]), ((setL low0 [(q0, ⟨88, 2, [.agg [.vs 1 (Wa (Wb .u8) x8.1.l), .int .i64 x8.1.at_]], w0⟩)]), [⟨27, 2, [.agg [.nils, .nils]], 0⟩, ⟨27, 2, [.agg [.sl (n + 2) (0 + 1) 0 (x10).length, .nils]], 0⟩, ⟨48, 2, Wa T_Place.enc x10, 0 + 1⟩])] mixed (by kernel_rfl) rfl (lenAll (Vv Xp (Vv Xp (Vv Xp (Vv Xp (Vv Xp Yw)))))) rfl _ rfl rfl ?_
    refine Vx _ rfl rfl (Vv (VRd.ntl (Vb rfl tf_27_0 ts_24 (by decide))) (Vv (VRd.ntl (Vb rfl tf_27_0 ts_24 (by decide))) (Vv (VRd.ntl (Vb rfl tf_27_0 ts_24 (by decide))) Yw))) ?_
    refine Vx _ rfl rfl (Vv (VRd.ntl (Vj rfl (Vg (Vl hn) rfl) rfl ta_24 rfl)) (Vv (VRd.ntl (Vj rfl (Vg (Vl hn) rfl) rfl ta_24 rfl)) (Vv (VRd.ntl (Vj rfl (Vg (Vl hn) rfl) rfl ta_24 rfl)) Yw))) ?_
    refine Yd rfl rfl (Xg rfl) ?_
    refine Ya rfl rfl rfl (Vz (ps := [(q0, ⟨88, 2, [.agg [.vs 1 (Wa (Wb .u8) x6.1.l), .int .i64 x6.1.at_]], w0⟩)]) (r := .int .i64 x6.2) (os := []) (low1 := (setL low0 [(q0, ⟨88, 2, [.agg [.vs 1 (Wa (Wb .u8) x6.1.l), .int .i64 x6.1.at_]], w0⟩)])) (loc1 := [⟨27, 2, [.agg [.nils, .nils]], 0⟩, ⟨27, 2, [.agg [.sl (n + 2) 0 0 (s3.2.1).length, .nils]], 0⟩, ⟨48, 2, Wa T_Place.enc s3.2.1, 0⟩]) (loc2 := [⟨27, 2, [.agg [.nils, .nils]], 0⟩, ⟨27, 2, [.agg [.sl (n + 2) 0 0 (s3.2.1).length, .nils]], 0⟩, ⟨48, 2, Wa T_Place.enc s3.2.1, 0⟩]) rfl Try.call28 (F_draw_Codes_Range_ok h7 (nd1 na0 nd0) (Zb hB rfl 0 rfl) (Xs (Vl hn) rfl)) (Yk (ps0' := [(q0, ⟨88, 2, [.agg [.vs 1 (Wa (Wb .u8) x6.1.l), .int .i64 x6.1.at_]], w0⟩)]) hB rfl 0 rfl (Yo hn ⟨Vo ⟨.vs _ _, .int _ _, trivial⟩, trivial⟩) rfl Xf) rfl) ?_
    refine Vx _ rfl rfl (Vv (VRd.ntl (Xg rfl)) (Vv (VRd.ntl (Xg rfl)) Yw)) ?_
    refine Ya rfl rfl rfl (Vz (ps := [(q0, ⟨88, 2, [.agg [.vs 1 (Wa (Wb .u8) x8.1.l), .int .i64 x8.1.at_]], w0⟩)]) (r := .bool x8.2) (os := []) (low1 := (setL low0 [(q0, ⟨88, 2, [.agg [.vs 1 (Wa (Wb .u8) x8.1.l), .int .i64 x8.1.at_]], w0⟩)])) (loc1 := [⟨27, 2, [.agg [.nils, .nils]], 0⟩, ⟨27, 2, [.agg [.sl (n + 2) 0 0 (s3.2.1).length, .nils]], 0⟩, ⟨48, 2, Wa T_Place.enc s3.2.1, 0⟩]) (loc2 := [⟨27, 2, [.agg [.nils, .nils]], 0⟩, ⟨27, 2, [.agg [.sl (n + 2) 0 0 (s3.2.1).length, .nils]], 0⟩, ⟨48, 2, Wa T_Place.enc s3.2.1, 0⟩]) rfl Try.call25 (F_draw_Codes_One_ok h9 (nd1 na0 nd0) (Zb hB rfl 0 rfl) (Xs (Vl hn) rfl)) (Yk (ps0' := [(q0, ⟨88, 2, [.agg [.vs 1 (Wa (Wb .u8) x8.1.l), .int .i64 x8.1.at_]], w0⟩)]) hB rfl 0 rfl (Yo hn ⟨Vo ⟨.vs _ _, .int _ _, trivial⟩, trivial⟩) rfl Xf) rfl) ?_
    refine Yd rfl rfl (Ye (vs := [(0, .int .i64 x6.2), (1, .bool x8.2)]) (ds := [.int .i64 x6.2, .bool x8.2]) tz_48 rfl rfl tp_48 ⟨rfl, rfl, rfl, rfl, trivial⟩ (Yh rfl) rfl) ?_
    refine dn1 rfl rfl (nt_of (Yt (es := Wa T_Place.enc [(T_Place.mk x6.2 x8.2)]) ⟨rfl, rfl, trivial⟩ rfl rfl (Zm rfl) te_24 ts_48 tz_48 rfl rfl (Wf _) (by decide) (Ym T_Place.enc_lt))) ?_
    refine Ya rfl rfl rfl (Zw (f := T_Place.enc) (l := s3.2.1) (ys := [(T_Place.mk x6.2 x8.2)]) rfl rfl (Vg (Vl hn) rfl) rfl (src_vs rfl) te_24 ts_48 tb_48 (by decide) tz_48 rfl h11 (Xn (Vl hn) rfl)) ?_
    refine Yd rfl rfl (Vb rfl tf_27_0 ts_24 (by decide)) ?_
    refine Ya rfl rfl rfl (Vw (p := .sl (n + 2) (0 + 1) 0 (x10).length) (e' := .agg [.sl (n + 2) (0 + 1) 0 (x10).length, .nils]) rfl (Vg (Vl hn) rfl) rfl rfl ts_24 rfl (Yg rfl) rfl (We rfl) rfl (Xn (Vl hn) rfl)) ?_
    refine Yx ?_
    refine Vd ?_
    refine Va (Vk rfl) rfl ?_
    refine Va (Zp rfl rfl rfl) rfl ?_
    refine Va (Xv rfl) rfl ?_
    refine Ve ?_
    obtain rfl := Wd hF
    refine Xk ?_
    exact Vm (Vl hn) [(0, 0), (1, 0), (2, 0 + 1)] (by decide) ⟨Vh rfl (.ptr _ _ _ _ hq0), Vt 0 0 rfl rfl, Vt 1 1 rfl rfl, Vh rfl (.int _ _), trivial⟩ ⟨⟨_, rfl, rfl, .same _ _ _ _ (Vn ⟨Vo ⟨.nils, .nils, trivial⟩, trivial⟩)⟩, ⟨_, rfl, rfl, .agg _ _ _ _ _ ⟨Yc 2 2 rfl rfl, Vh rfl (.nils), trivial⟩⟩, ⟨_, rfl, rfl, .same _ _ _ _ (Vq T_Place.enc_lt)⟩, trivial⟩
   ·have hF := Yr c5 hF
    refine Zd ?_
    obtain rfl := Wd hF
    refine Xk ?_
    exact Vp ⟨rfl, rfl, rfl, trivial⟩
  ·rintro _ _ _ _ ⟨rfl, hw⟩
   refine ⟨_, _, _, hw, ?_⟩
   refine Vf ?_
   refine Vd ?_
   refine Va (Vb rfl tf_27_0 ts_24 (by decide)) rfl ?_
   refine Va (Vj rfl (Vg (Vl hn) rfl) rfl ta_24 rfl) rfl ?_
   refine Va (rd_lenS rfl (Vg (Vl hn) rfl) rfl rfl te_24) rfl ?_
   refine Va (Xv rfl) rfl ?_
   refine Ve ?_
   refine Vf ?_
   refine Vf ?_
   refine Vd ?_
   obtain ⟨x12, h13, hF⟩ := Yf hF
   refine Va (Xg rfl) rfl ?_
   refine Vi (Vz (ps := [(q0, ⟨88, 2, [.agg [.vs 1 (Wa (Wb .u8) x12.1.l), .int .i64 x12.1.at_]], w0⟩)]) (r := .int .i64 x12.2) (os := []) (low1 := (setL low0 [(q0, ⟨88, 2, [.agg [.vs 1 (Wa (Wb .u8) x12.1.l), .int .i64 x12.1.at_]], w0⟩)])) (loc1 := [⟨27, 2, [.agg [.nils, .nils]], 0⟩, ⟨27, 2, [.agg [.sl (n + 2) 0 0 (o4.1).length, .nils]], 0⟩, ⟨48, 2, Wa T_Place.enc o4.1, 0⟩]) (loc2 := [⟨27, 2, [.agg [.nils, .nils]], 0⟩, ⟨27, 2, [.agg [.sl (n + 2) 0 0 (o4.1).length, .nils]], 0⟩, ⟨48, 2, Wa T_Place.enc o4.1, 0⟩]) rfl Try.call27 (F_draw_Codes_Next_ok h13 (nd1 na0 nd0) (Zb hB rfl 0 rfl) (Xs (Vl hn) rfl)) (Yk (ps0' := [(q0, ⟨88, 2, [.agg [.vs 1 (Wa (Wb .u8) x12.1.l), .int .i64 x12.1.at_]], w0⟩)]) hB rfl 0 rfl (Yo hn ⟨Vo ⟨.vs _ _, .int _ _, trivial⟩, trivial⟩) rfl Xf) rfl) rfl ?_
   refine Va (Xv rfl) rfl ?_
   refine Ve ?_
   refine Xh ?_
   obtain ⟨o15, ho15, hF⟩ := Yf hF
   refine Vs (Yy (F_draw_Codes_Mine_L2 o4) (fun s14 E' lw lc => Xz E' lw lc [(0, .ptr q0 w0 0 0), (2, .ptr (n + 0) 0 0 0), (3, .ptr (n + 1) 0 0 0), (5, .int .i64 ((o4.1).length : Int)), (6, .int .i64 s14.1)] (setL low0 [(q0, ⟨88, 2, [.agg [.vs 1 (Wa (Wb .u8) s14.2.2.l), .int .i64 s14.2.2.at_]], w0⟩)]) [⟨27, 2, [.agg [.nils, .nils]], 0⟩, ⟨27, 2, [.agg [.sl (n + 2) 0 0 (s14.2.1.Places).length, .sl (n + 3) 0 0 (s14.2.1.Roads).length]], 0⟩, ⟨48, 2, Wa T_Place.enc s14.2.1.Places, 0⟩, ⟨46, 10, Wa T_Road.enc s14.2.1.Roads, 0⟩]) (fun o15 => OnlyE (.exit 2) (fun E' lw lc => Xz E' lw lc [(2, .ptr (n + 0) 0 0 0), (3, .ptr (n + 1) 0 0 0)] (setL low0 [(q0, ⟨88, 2, [.agg [.vs 1 (Wa (Wb .u8) o15.2.l), .int .i64 o15.2.at_]], w0⟩)]) [⟨27, 2, [.agg [.nils, .nils]], 0⟩, ⟨27, 2, [.agg [.sl (n + 2) 0 0 (o15.1.Places).length, .sl (n + 3) 0 0 (o15.1.Roads).length]], 0⟩, ⟨48, 2, Wa T_Place.enc o15.1.Places, 0⟩, ⟨46, 10, Wa T_Road.enc o15.1.Roads, 0⟩])) ho15 ?_ (by rintro _ _ _ _ ⟨h, _⟩ <;> cases h) ?_) ?_
   ·refine Weak.trans (weak_nil (E' := [(0, .ptr q0 w0 0 0), (2, .ptr (n + 0) 0 0 0), (3, .ptr (n + 1) 0 0 0), (5, .int .i64 ((o4.1).length : Int)), (6, .int .i64 x12.2)]) (loc1 := [⟨27, 2, [.agg [.nils, .nils]], 0⟩, ⟨27, 2, [.agg [.sl (n + 2) 0 0 (o4.1).length, .sl (n + 3) 0 0 (([] : List T_Road)).length]], 0⟩, ⟨48, 2, Wa T_Place.enc o4.1, 0⟩]) (Vl hn) rfl 46 10 (Wf _) ⟨Xb rfl, Xb rfl, Xb rfl, Xb rfl, Xb rfl, trivial⟩ ⟨.same _, .agg _ _ _ _ _ ⟨Xb rfl, nn_nil rfl, trivial⟩, .same _, trivial⟩) ?_
    exact Vp ⟨rfl, rfl, rfl, rfl, rfl, trivial⟩
   ·rintro s14 os14 _ _ _ hF hw
    unfold F_draw_Codes_Mine_L2 at hF
    refine Yl hw ?_
    refine Vf ?_
    refine Vf ?_
    refine Vd ?_
    refine Va (Vk rfl) rfl ?_
    refine Va (Zq rfl rfl) rfl ?_
    refine Ve ?_
    refine Xi rfl (fun c16 => ?_) (fun c16 => ?_)
    ·have hF := Yq c16 hF
     refine Xj ?_
     refine Vf ?_
     refine Xh ?_
     refine Vf ?_
     refine Vd ?_
     obtain ⟨x17, h18, hF⟩ := Yf hF
     refine Va (Xg rfl) rfl ?_
     refine Va (Vk rfl) rfl ?_
     refine Vi (Vz (ps := [(q0, ⟨88, 2, [.agg [.vs 1 (Wa (Wb .u8) x17.1.l), .int .i64 x17.1.at_]], w0⟩)]) (r := .int .i64 x17.2) (os := []) (low1 := (setL low0 [(q0, ⟨88, 2, [.agg [.vs 1 (Wa (Wb .u8) x17.1.l), .int .i64 x17.1.at_]], w0⟩)])) (loc1 := [⟨27, 2, [.agg [.nils, .nils]], 0⟩, ⟨27, 2, [.agg [.sl (n + 2) 0 0 (s14.2.1.Places).length, .sl (n + 3) 0 0 (s14.2.1.Roads).length]], 0⟩, ⟨48, 2, Wa T_Place.enc s14.2.1.Places, 0⟩, ⟨46, 10, Wa T_Road.enc s14.2.1.Roads, 0⟩]) (loc2 := [⟨27, 2, [.agg [.nils, .nils]], 0⟩, ⟨27, 2, [.agg [.sl (n + 2) 0 0 (s14.2.1.Places).length, .sl (n + 3) 0 0 (s14.2.1.Roads).length]], 0⟩, ⟨48, 2, Wa T_Place.enc s14.2.1.Places, 0⟩, ⟨46, 10, Wa T_Road.enc s14.2.1.Roads, 0⟩]) rfl Try.call27 (F_draw_Codes_Next_ok h18 (nd1 na0 nd0) (Zb hB rfl 0 rfl) (Xs (Vl hn) rfl)) (Yk (ps0' := [(q0, ⟨88, 2, [.agg [.vs 1 (Wa (Wb .u8) x17.1.l), .int .i64 x17.1.at_]], w0⟩)]) hB rfl 0 rfl (Yo hn ⟨Vo ⟨.vs _ _, .int _ _, trivial⟩, trivial⟩) rfl Xf) rfl) rfl ?_
     refine Va (Xv rfl) rfl ?_
     refine Ve ?_
     refine Vf ?_
     refine Vd ?_
     obtain ⟨x19, h20, hF⟩ := Yf hF
     obtain ⟨x21, h22, hF⟩ := Yf hF
     obtain ⟨x23, h24, hF⟩ := Yf hF
     refine Va (Xg rfl) rfl ?_
     refine Va (Vk rfl) rfl ?_
     refine Va (Vk rfl) rfl ?_
     refine Va (Zf rfl rfl rfl) rfl ?_
     refine Va (Xg rfl) rfl ?_
     refine Va (Vk rfl) rfl ?_
     refine Va (Zp rfl rfl rfl) rfl ?_
     refine Vi (Vz (ps := [(q0, ⟨88, 2, [.agg [.vs 1 (Wa (Wb .u8) x19.1.l), .int .i64 x19.1.at_]], w0⟩)]) (r := .int .i64 x19.2) (os := []) (low1 := (setL low0 [(q0, ⟨88, 2, [.agg [.vs 1 (Wa (Wb .u8) x19.1.l), .int .i64 x19.1.at_]], w0⟩)])) (loc1 := [⟨27, 2, [.agg [.nils, .nils]], 0⟩, ⟨27, 2, [.agg [.sl (n + 2) 0 0 (s14.2.1.Places).length, .sl (n + 3) 0 0 (s14.2.1.Roads).length]], 0⟩, ⟨48, 2, Wa T_Place.enc s14.2.1.Places, 0⟩, ⟨46, 10, Wa T_Road.enc s14.2.1.Roads, 0⟩]) (loc2 := [⟨27, 2, [.agg [.nils, .nils]], 0⟩, ⟨27, 2, [.agg [.sl (n + 2) 0 0 (s14.2.1.Places).length, .sl (n + 3) 0 0 (s14.2.1.Roads).length]], 0⟩, ⟨48, 2, Wa T_Place.enc s14.2.1.Places, 0⟩, ⟨46, 10, Wa T_Road.enc s14.2.1.Roads, 0⟩]) rfl Try.call27 (F_draw_Codes_Next_ok h20 (nd1 na0 nd0) (Zb hB rfl 0 rfl) (Xs (Vl hn) rfl)) (Yk (ps0' := [(q0, ⟨88, 2, [.agg [.vs 1 (Wa (Wb .u8) x19.1.l), .int .i64 x19.1.at_]], w0⟩)]) hB rfl 0 rfl (Yo hn ⟨Vo ⟨.vs _ _, .int _ _, trivial⟩, trivial⟩) rfl Xf) rfl) rfl ?_
     refine Va (Zf rfl rfl rfl) rfl ?_
     refine Va (Vk rfl) rfl ?_
     refine Va (rd_rem rfl rfl (remI_some h22).1 (remI_some h22).2) rfl ?_
     refine Vi (Vz (ps := [(q0, ⟨88, 2, [.agg [.vs 1 (Wa (Wb .u8) x23.1.l), .int .i64 x23.1.at_]], w0⟩)]) (r := .agg [.int .i64 x23.2.From, .int .i64 x23.2.To, .int .i64 x23.2.Length, .int .i64 x23.2.Area, .bool x23.2.Walk, .bool x23.2.Closed, .int .i64 x23.2.Rest.Low, .int .i64 x23.2.Rest.High, .int .i64 x23.2.Lift.Low, .int .i64 x23.2.Lift.High]) (os := []) (low1 := (setL low0 [(q0, ⟨88, 2, [.agg [.vs 1 (Wa (Wb .u8) x23.1.l), .int .i64 x23.1.at_]], w0⟩)])) (loc1 := [⟨27, 2, [.agg [.nils, .nils]], 0⟩, ⟨27, 2, [.agg [.sl (n + 2) 0 0 (s14.2.1.Places).length, .sl (n + 3) 0 0 (s14.2.1.Roads).length]], 0⟩, ⟨48, 2, Wa T_Place.enc s14.2.1.Places, 0⟩, ⟨46, 10, Wa T_Road.enc s14.2.1.Roads, 0⟩]) (loc2 := [⟨27, 2, [.agg [.nils, .nils]], 0⟩, ⟨27, 2, [.agg [.sl (n + 2) 0 0 (s14.2.1.Places).length, .sl (n + 3) 0 0 (s14.2.1.Roads).length]], 0⟩, ⟨48, 2, Wa T_Place.enc s14.2.1.Places, 0⟩, ⟨46, 10, Wa T_Road.enc s14.2.1.Roads, 0⟩]) rfl Try.call37 (F_draw_Codes_Road_ok h24 (nd1 na0 nd0) (Zb hB rfl 0 rfl) (Xs (Vl hn) rfl)) (Yk (ps0' := [(q0, ⟨88, 2, [.agg [.vs 1 (Wa (Wb .u8) x23.1.l), .int .i64 x23.1.at_]], w0⟩)]) hB rfl 0 rfl (Yo hn ⟨Vo ⟨.vs _ _, .int _ _, trivial⟩, trivial⟩) rfl Xf) rfl) rfl ?_
     refine Vi (Xm (Vl hn) rfl tz_46 rfl rfl (Wf _) rfl) rfl ?_
     refine Vi (Vw (p := .agg [.int .i64 x23.2.From, .int .i64 x23.2.To, .int .i64 x23.2.Length, .int .i64 x23.2.Area, .bool x23.2.Walk, .bool x23.2.Closed, .int .i64 x23.2.Rest.Low, .int .i64 x23.2.Rest.High, .int .i64 x23.2.Lift.Low, .int .i64 x23.2.Lift.High]) (e' := .agg [.int .i64 x23.2.From, .int .i64 x23.2.To, .int .i64 x23.2.Length, .int .i64 x23.2.Area, .bool x23.2.Walk, .bool x23.2.Closed, .int .i64 x23.2.Rest.Low, .int .i64 x23.2.Rest.High, .int .i64 x23.2.Lift.Low, .int .i64 x23.2.Lift.High]) rfl (Vg (Vl hn) rfl) rfl rfl ts_46 rfl (Yg rfl) rfl (We rfl) rfl (Xn (Vl hn) rfl)) rfl ?_
     refine Ve ?_
     refine Vf ?_
     refine Vd ?_
     obtain ⟨x25, h26, hF⟩ := Yf hF
     refine Va (Xg rfl) rfl ?_
     refine Vi (Vz (ps := [(q0, ⟨88, 2, [.agg [.vs 1 (Wa (Wb .u8) x25.1.l), .int .i64 x25.1.at_]], w0⟩)]) (r := .bool x25.2) (os := []) (low1 := (setL low0 [(q0, ⟨88, 2, [.agg [.vs 1 (Wa (Wb .u8) x25.1.l), .int .i64 x25.1.at_]], w0⟩)])) (loc1 := [⟨27, 2, [.agg [.nils, .nils]], 0⟩, ⟨27, 2, [.agg [.sl (n + 2) 0 0 (s14.2.1.Places).length, .sl (n + 3) 0 0 (s14.2.1.Roads).length]], 0⟩, ⟨48, 2, Wa T_Place.enc s14.2.1.Places, 0⟩, ⟨46, 10, Wa T_Road.enc s14.2.1.Roads, 0⟩, ⟨46, 10, [.agg [.int .i64 x23.2.From, .int .i64 x23.2.To, .int .i64 x23.2.Length, .int .i64 x23.2.Area, .bool x23.2.Walk, .bool x23.2.Closed, .int .i64 x23.2.Rest.Low, .int .i64 x23.2.Rest.High, .int .i64 x23.2.Lift.Low, .int .i64 x23.2.Lift.High]], 0⟩]) (loc2 := [⟨27, 2, [.agg [.nils, .nils]], 0⟩, ⟨27, 2, [.agg [.sl (n + 2) 0 0 (s14.2.1.Places).length, .sl (n + 3) 0 0 (s14.2.1.Roads).length]], 0⟩, ⟨48, 2, Wa T_Place.enc s14.2.1.Places, 0⟩, ⟨46, 10, Wa T_Road.enc s14.2.1.Roads, 0⟩, ⟨46, 10, [.agg [.int .i64 x23.2.From, .int .i64 x23.2.To, .int .i64 x23.2.Length, .int .i64 x23.2.Area, .bool x23.2.Walk, .bool x23.2.Closed, .int .i64 x23.2.Rest.Low, .int .i64 x23.2.Rest.High, .int .i64 x23.2.Lift.Low, .int .i64 x23.2.Lift.High]], 0⟩]) rfl Try.call25 (F_draw_Codes_One_ok h26 (nd1 na0 nd0) (Zb hB rfl 0 rfl) (Xs (Vl hn) rfl)) (Yk (ps0' := [(q0, ⟨88, 2, [.agg [.vs 1 (Wa (Wb .u8) x25.1.l), .int .i64 x25.1.at_]], w0⟩)]) hB rfl 0 rfl (Yo hn ⟨Vo ⟨.vs _ _, .int _ _, trivial⟩, trivial⟩) rfl Xf) rfl) rfl ?_
     refine Va (Vb rfl tf_46_5 ts_4 (by decide)) rfl ?_
     refine Vi (Vw (p := .bool x25.2) (e' := .agg [.int .i64 x23.2.From, .int .i64 x23.2.To, .int .i64 x23.2.Length, .int .i64 x23.2.Area, .bool x23.2.Walk, .bool x25.2, .int .i64 x23.2.Rest.Low, .int .i64 x23.2.Rest.High, .int .i64 x23.2.Lift.Low, .int .i64 x23.2.Lift.High]) rfl (Vg (Vl hn) rfl) rfl rfl ts_4 rfl (Yg rfl) rfl (We rfl) rfl (Xn (Vl hn) rfl)) rfl ?_
     refine Ve ?_
     refine Vd ?_
     obtain ⟨x27, h28, hF⟩ := Yf hF
     refine Va (Vb rfl tf_27_1 ts_25 (by decide)) rfl ?_
     refine Va (Vj rfl (Vg (Vl hn) rfl) rfl ta_25 rfl) rfl ?_
     refine Va (Xa (ds := [.int .i64 x23.2.From, .int .i64 x23.2.To, .int .i64 x23.2.Length, .int .i64 x23.2.Area, .bool x23.2.Walk, .bool x25.2, .int .i64 x23.2.Rest.Low, .int .i64 x23.2.Rest.High, .int .i64 x23.2.Lift.Low, .int .i64 x23.2.Lift.High]) rfl (Vg (Vl hn) rfl) rfl ta_46 ts_46 rfl rfl rfl) rfl ?_
     refine Vi (Yt (es := Wa T_Road.enc [(T_Road.mk x23.2.From x23.2.To x23.2.Length x23.2.Area x23.2.Walk x25.2 x23.2.Rest x23.2.Lift)]) ⟨rfl, rfl, trivial⟩ rfl rfl (Zm rfl) te_25 ts_46 tz_46 rfl rfl (Wf _) (by decide) (Ym T_Road.enc_lt)) rfl ?_
     refine Vi (Zw (f := T_Road.enc) (l := s14.2.1.Roads) (ys := [(T_Road.mk x23.2.From x23.2.To x23.2.Length x23.2.Area x23.2.Walk x25.2 x23.2.Rest x23.2.Lift)]) rfl rfl (Vg (Vl hn) rfl) rfl (src_vs rfl) te_25 ts_46 tb_46 (by decide) tz_46 rfl h28 (Xn (Vl hn) rfl)) rfl ?_
     refine Va (Vb rfl tf_27_1 ts_25 (by decide)) rfl ?_
     refine Vi (Vw (p := .sl (n + 3) (0 + 1) 0 (x27).length) (e' := .agg [.sl (n + 2) 0 0 (s14.2.1.Places).length, .sl (n + 3) (0 + 1) 0 (x27).length]) rfl (Vg (Vl hn) rfl) rfl rfl ts_25 rfl (Yg rfl) rfl (We rfl) rfl (Xn (Vl hn) rfl)) rfl ?_
     refine Ve ?_
     refine Vd ?_
     refine Va (Vk rfl) rfl ?_
     refine Va (Zp rfl rfl rfl) rfl ?_
     refine Va (Xv rfl) rfl ?_
     refine Ve ?_
     obtain rfl := Wd hF
     refine Xk ?_
     exact Vm (Vl hn) [(0, 0), (1, 0), (2, 0), (3, 0 + 1)] (by decide) ⟨Vh rfl (.ptr _ _ _ _ hq0), Vt 0 0 rfl rfl, Vt 1 1 rfl rfl, Vh rfl (.int _ _), Vh rfl (.int _ _), trivial⟩ ⟨⟨_, rfl, rfl, .same _ _ _ _ (Vn ⟨Vo ⟨.nils, .nils, trivial⟩, trivial⟩)⟩, ⟨_, rfl, rfl, .agg _ _ _ _ _ ⟨Yc 2 2 rfl rfl, Yc 3 3 rfl rfl, trivial⟩⟩, ⟨_, rfl, rfl, .same _ _ _ _ (Vq T_Place.enc_lt)⟩, ⟨_, rfl, rfl, .same _ _ _ _ (Vq T_Road.enc_lt)⟩, trivial⟩
    ·have hF := Yr c16 hF
     refine Zd ?_
     obtain rfl := Wd hF
     refine Xk ?_
     exact Vp ⟨rfl, rfl, trivial⟩
   ·rintro _ _ _ _ ⟨rfl, hw⟩
    refine ⟨_, _, _, hw, ?_⟩
    refine Vf ?_
    refine Vd ?_
    refine Va (Xa (ds := [.sl (n + 2) 0 0 (o15.1.Places).length, .sl (n + 3) 0 0 (o15.1.Roads).length]) rfl (Vg (Vl hn) rfl) rfl ta_27 ts_27 rfl rfl rfl) rfl ?_
    refine Vi (Vw (p := .agg [.sl (n + 2) 0 0 (o15.1.Places).length, .sl (n + 3) 0 0 (o15.1.Roads).length]) (e' := .agg [.sl (n + 2) 0 0 (o15.1.Places).length, .sl (n + 3) 0 0 (o15.1.Roads).length]) rfl (Vg (Vl hn) rfl) rfl rfl ts_27 rfl (Yg rfl) rfl (We rfl) rfl (Xn (Vl hn) rfl)) rfl ?_
    refine Ve ?_
    refine Yb ?_
    obtain rfl := Wd hF
    refine fnR ?_
    exact Vm (Vl hn) [(2, 0), (3, 0), (0, 0)] (by decide) ⟨Vt 2 0 rfl rfl, trivial⟩ ⟨⟨_, rfl, rfl, .same _ _ _ _ (Vq T_Place.enc_lt)⟩, ⟨_, rfl, rfl, .same _ _ _ _ (Vq T_Road.enc_lt)⟩, ⟨_, rfl, rfl, .agg _ _ _ _ _ ⟨Yc 0 2 rfl rfl, Yc 1 3 rfl rfl, trivial⟩⟩, trivial⟩
 ·rintro _ _ _ _ ⟨he, hw⟩
  refine ⟨_, _, _, hw, ?_⟩
  exact bodyQ_some (Vl hn) 2 rfl (We rfl) he [.agg [.sl (n + 0) 0 0 (r.2.Places).length, .sl (n + 1) 0 0 (r.2.Roads).length]] ⟨Xa rfl (Vg (Vl hn) rfl) rfl ta_27 ts_27 rfl rfl rfl, trivial⟩ ((Vo ⟨.sl _ _ _ _ (lt_kk rfl), .sl _ _ _ _ (lt_kk rfl), trivial⟩)) ⟨Vq T_Place.enc_lt, Vq T_Road.enc_lt, trivial⟩ ⟨rfl, rfl⟩

theorem F_draw_Codes_Mine_ok {p0 : T_draw_Codes} {r : T_draw_Codes × T_Mine} (hF : F_draw_Codes_Mine p0 = some r) {low : List AObj} {q0 w0 : Nat} (hnd : [q0].Nodup) (hq0 : low[q0]? = some ⟨88, 2, [.agg [.vs 1 (Wa (Wb .u8) p0.l), .int .i64 p0.at_]], w0⟩) {n : Nat} (hn : low.length = n) :
    Zh Try.prog 26 [.ptr q0 w0 0 0] low fun x low' => x = .agg [.sl (n + 0) 0 0 (r.2.Places).length, .sl (n + 1) 0 0 (r.2.Roads).length] ∧ low' = setL low [(q0, ⟨88, 2, [.agg [.vs 1 (Wa (Wb .u8) r.1.l), .int .i64 r.1.at_]], w0⟩)] ++ [⟨48, 2, Wa T_Place.enc r.2.Places, 0⟩, ⟨46, 10, Wa T_Road.enc r.2.Roads, 0⟩] := by
  obtain ⟨h1, h2⟩ := bor_start (ps := [(q0, ⟨88, 2, [.agg [.vs 1 (Wa (Wb .u8) p0.l), .int .i64 p0.at_]], w0⟩)]) hnd (borC hq0 bor0)
  exact Zz h1 (F_draw_Codes_Mine_ok0 hF h2 hn)

theorem F_draw_Codes_Spans_ok0 {p0 : T_draw_Codes} {p1 : List Int} {r : T_draw_Codes × List T_Span} (hF : F_draw_Codes_Spans p0 p1 = some r) {low0 : List AObj} {q0 w0 : Nat} (hB : Bor low0 [q0]) {n : Nat} (hn : low0.length = n) :
    Zh Try.prog 29 [.ptr q0 w0 0 0, .vs 1 (Wa (Wb .i64) p1)] (setL low0 [(q0, ⟨88, 2, [.agg [.vs 1 (Wa (Wb .u8) p0.l), .int .i64 p0.at_]], w0⟩)]) fun x low' => x = .vs 2 (Wa T_Span.enc r.2) ∧ low' = setL low0 [(q0, ⟨88, 2, [.agg [.vs 1 (Wa (Wb .u8) r.1.l), .int .i64 r.1.at_]], w0⟩)] ++ [] := by
 refine Xr (nt := 32) (rs := [.tmp 4]) Try.func29 rfl rfl (We rfl) rfl ?_
 have hq0 : q0 < n := hB.ltN hn 0 rfl
 refine Vs (Q' := FnE (fun E' lw lc => Xz E' lw lc [(4, .vs 2 (Wa T_Span.enc r.2))] (setL low0 [(q0, ⟨88, 2, [.agg [.vs 1 (Wa (Wb .u8) r.1.l), .int .i64 r.1.at_]], w0⟩)]) [])) ?_ ?_
 ·unfold F_draw_Codes_Spans at hF
  refine Vf ?_
  refine Vd ?_
  refine Va (rd_nv (sz := 2) (rd_asN rfl)) rfl ?_
  refine Ve ?_
  refine Vf ?_
  refine Vd ?_
  refine Vi (vef_nilsN (Vl hn) rfl 44 2 (Wf _) (rd_asN rfl)) rfl ?_
  refine Ve ?_
  refine Vf ?_
  refine Vf ?_
  refine Vd ?_
  refine Va (Xv rfl) rfl ?_
  refine Ve ?_
  refine Xh ?_
  obtain ⟨o2, ho2, hF⟩ := Yf hF
  refine Vs (Yy (F_draw_Codes_Spans_L1 p1) (fun s1 E' lw lc => Xz E' lw lc [(0, .ptr q0 w0 0 0), (1, .vs 1 (Wa (Wb .i64) p1)), (5, .sl (n + 0) 0 0 (s1.2.1).length), (6, .int .i64 s1.1)] (setL low0 [(q0, ⟨88, 2, [.agg [.vs 1 (Wa (Wb .u8) s1.2.2.l), .int .i64 s1.2.2.at_]], w0⟩)]) [⟨44, 2, Wa T_Span.enc s1.2.1, 0⟩]) (fun o2 => OnlyE (.exit 0) (fun E' lw lc => Xz E' lw lc [(5, .sl (n + 0) 0 0 (o2.1).length)] (setL low0 [(q0, ⟨88, 2, [.agg [.vs 1 (Wa (Wb .u8) o2.2.l), .int .i64 o2.2.at_]], w0⟩)]) [⟨44, 2, Wa T_Span.enc o2.1, 0⟩])) ho2 ?_ (by rintro _ _ _ _ ⟨h, _⟩ <;> cases h) ?_) ?_
  ·exact Vp ⟨rfl, rfl, rfl, rfl, trivial⟩
  ·rintro s1 os1 _ _ _ hF hw
   unfold F_draw_Codes_Spans_L1 at hF
   refine Yl hw ?_
   refine Vf ?_
   refine Vf ?_
   refine Vd ?_
   refine Va (Vk rfl) rfl ?_
   refine Va (Xw rfl) rfl ?_
   refine Va (Xo (Yu rfl rfl te_32) (congrArg (fun n : Nat => Wb .i64 (n : Int)) (Wh _))) rfl ?_
   refine Va (Yz rfl rfl) rfl ?_
   refine Ve ?_
   refine Xi rfl (fun c3 => ?_) (fun c3 => ?_)
   ·have hF := Yq c3 hF
    refine Xj ?_
    refine Vf ?_
    refine Xh ?_
    obtain ⟨x4, h5, hF⟩ := Yf hF
    obtain ⟨x6, h7, hF⟩ := Yf hF
    obtain ⟨x8, h9, hF⟩ := Yf hF
    obtain ⟨x10, h11, hF⟩ := Yf hF
    obtain ⟨x12, h13, hF⟩ := Yf hF
    refine Zn [[], [], [], [1, 2], [1, 2, 3], [], [5], [1, 2, 3, 4, 5, 6], [], [], [8, 9], [8, 9, 10], [], [5, 6, 12], [5, 6, 8, 9, 10, 11, 12, 13], [1, 2, 3, 4, 5, 6, 7, 8, 9, 10, 11, 12, 13, 14], [1, 2, 3, 4, 5, 6, 7, 8, 9, 10, 11, 12, 13, 14, 15], [0, 1, 2, 3, 4, 5, 6, 7, 8, 9, 10, 11, 12, 13, 14, 15, 16], [0, 1, 2, 3, 4, 5, 6, 7, 8, 9, 10, 11, 12, 13, 14, 15, 16, 17]] [false, false, false, false, false, false, true, false, false, false, false, false, false, true, false, false, false, true, false] [((setL low0 [(q0, ⟨88, 2, [.agg [.vs 1 (Wa (Wb .u8) s1.2.2.l), .int .i64 s1.2.2.at_]], w0⟩)]), [⟨44, 2, Wa T_Span.enc s1.2.1, 0⟩]), ((setL low0 [(q0, ⟨88, 2, [.agg [.vs 1 (Wa (Wb .u8) x6.1.l), .int .i64 x6.1.at_]], w0⟩)]), [⟨44, 2, Wa T_Span.enc s1.2.1, 0⟩]), ((setL low0 [(q0, ⟨88, 2, [.agg [.vs 1 (Wa (Wb .u8) x10.1.l), .int .i64 x10.1.at_]], w0⟩)]), [⟨44, 2, Wa T_Span.enc s1.2.1, 0⟩]), ((setL low0 [(q0, ⟨88, 2, [.agg [.vs 1 (Wa (Wb .u8) x10.1.l), .int .i64 x10.1.at_]], w0⟩)]), [⟨44, 2, Wa T_Span.enc x12, 0 + 1⟩])] mixed (by kernel_rfl) rfl (lenAll (Vv Xp (Vv Xp (Vv Xp (Vv Xp Yw))))) rfl _ rfl rfl ?_
    refine Vx _ rfl rfl (Vv (VRd.ntl (Yn rfl)) (Vv (VRd.ntl (Yn rfl)) (Vv (VRd.ntl (Yn rfl)) Yw))) ?_
    refine Vx _ rfl rfl (Vv (VRd.ntl (Xw rfl)) (Vv (VRd.ntl (Xw rfl)) (Vv (VRd.ntl (Xw rfl)) Yw))) ?_
    refine Vx _ rfl rfl (Vv (VRd.ntl (Vk rfl)) (Vv (VRd.ntl (Vk rfl)) (Vv (VRd.ntl (Vk rfl)) Yw))) ?_
    refine Vx _ rfl rfl (Vv (VRd.ntl (Xo (Xu rfl rfl h5 te_32 ts_3) (v' := .vptr [.int .i64 x4] 0) rfl)) (Vv (VRd.ntl (Xo (Xu rfl rfl h5 te_32 ts_3) (v' := .vptr [.int .i64 x4] 0) rfl)) (Vv (VRd.ntl (Xo (Xu rfl rfl h5 te_32 ts_3) (v' := .vptr [.int .i64 x4] 0) rfl)) Yw))) ?_
    refine Vx _ rfl rfl (Vv (VRd.ntl (Xe rfl ta_3 rfl)) (Vv (VRd.ntl (Xe rfl ta_3 rfl)) (Vv (VRd.ntl (Xe rfl ta_3 rfl)) Yw))) ?_
    refine Yd rfl rfl (Xg rfl) ?_
    refine Ya rfl rfl rfl (Vz (ps := [(q0, ⟨88, 2, [.agg [.vs 1 (Wa (Wb .u8) x6.1.l), .int .i64 x6.1.at_]], w0⟩)]) (r := .int .i64 x6.2) (os := []) (low1 := (setL low0 [(q0, ⟨88, 2, [.agg [.vs 1 (Wa (Wb .u8) x6.1.l), .int .i64 x6.1.at_]], w0⟩)])) (loc1 := [⟨44, 2, Wa T_Span.enc s1.2.1, 0⟩]) (loc2 := [⟨44, 2, Wa T_Span.enc s1.2.1, 0⟩]) rfl Try.call27 (F_draw_Codes_Next_ok h7 (nd1 na0 nd0) (Zb hB rfl 0 rfl) (Xs (Vl hn) rfl)) (Yk (ps0' := [(q0, ⟨88, 2, [.agg [.vs 1 (Wa (Wb .u8) x6.1.l), .int .i64 x6.1.at_]], w0⟩)]) hB rfl 0 rfl (Yo hn ⟨Vo ⟨.vs _ _, .int _ _, trivial⟩, trivial⟩) rfl Xf) rfl) ?_
    refine Vx _ rfl rfl (Vv (VRd.ntl (Zp rfl rfl rfl)) (Vv (VRd.ntl (Zp rfl rfl rfl)) Yw)) ?_
    refine Vx _ rfl rfl (Vv (VRd.ntl (Xw rfl)) (Vv (VRd.ntl (Xw rfl)) (Vv (VRd.ntl (Xw rfl)) Yw))) ?_
    refine Vx _ rfl rfl (Vv (VRd.ntl (Vk rfl)) (Vv (VRd.ntl (Vk rfl)) (Vv (VRd.ntl (Vk rfl)) Yw))) ?_
    refine Vx _ rfl rfl (Vv (VRd.ntl (Xo (Xu rfl rfl h9 te_32 ts_3) (v' := .vptr [.int .i64 x8] 0) rfl)) (Vv (VRd.ntl (Xo (Xu rfl rfl h9 te_32 ts_3) (v' := .vptr [.int .i64 x8] 0) rfl)) (Vv (VRd.ntl (Xo (Xu rfl rfl h9 te_32 ts_3) (v' := .vptr [.int .i64 x8] 0) rfl)) Yw))) ?_
    refine Vx _ rfl rfl (Vv (VRd.ntl (Xe rfl ta_3 rfl)) (Vv (VRd.ntl (Xe rfl ta_3 rfl)) (Vv (VRd.ntl (Xe rfl ta_3 rfl)) Yw))) ?_
    refine Vx _ rfl rfl (Vv (VRd.ntl (Xg rfl)) (Vv (VRd.ntl (Xg rfl)) Yw)) ?_
    refine Ya rfl rfl rfl (Vz (ps := [(q0, ⟨88, 2, [.agg [.vs 1 (Wa (Wb .u8) x10.1.l), .int .i64 x10.1.at_]], w0⟩)]) (r := .int .i64 x10.2) (os := []) (low1 := (setL low0 [(q0, ⟨88, 2, [.agg [.vs 1 (Wa (Wb .u8) x10.1.l), .int .i64 x10.1.at_]], w0⟩)])) (loc1 := [⟨44, 2, Wa T_Span.enc s1.2.1, 0⟩]) (loc2 := [⟨44, 2, Wa T_Span.enc s1.2.1, 0⟩]) rfl Try.call27 (F_draw_Codes_Next_ok h11 (nd1 na0 nd0) (Zb hB rfl 0 rfl) (Xs (Vl hn) rfl)) (Yk (ps0' := [(q0, ⟨88, 2, [.agg [.vs 1 (Wa (Wb .u8) x10.1.l), .int .i64 x10.1.at_]], w0⟩)]) hB rfl 0 rfl (Yo hn ⟨Vo ⟨.vs _ _, .int _ _, trivial⟩, trivial⟩) rfl Xf) rfl) ?_
    refine Yd rfl rfl (Zf rfl rfl rfl) ?_
    refine Yd rfl rfl (Ye (vs := [(0, .int .i64 (IntKind.i64.wrap (x4 - x6.2))), (1, .int .i64 (IntKind.i64.wrap (x8 + x10.2)))]) (ds := [.int .i64 (IntKind.i64.wrap (x4 - x6.2)), .int .i64 (IntKind.i64.wrap (x8 + x10.2))]) tz_44 rfl rfl tp_44 ⟨rfl, rfl, rfl, rfl, trivial⟩ (Yh rfl) rfl) ?_
    refine dn1 rfl rfl (nt_of (Yt (es := Wa T_Span.enc [(T_Span.mk (IntKind.i64.wrap (x4 - x6.2)) (IntKind.i64.wrap (x8 + x10.2)))]) ⟨rfl, rfl, trivial⟩ rfl rfl (Zm rfl) te_23 ts_44 tz_44 rfl rfl (Wf _) (by decide) (Ym T_Span.enc_lt))) ?_
    refine Ya rfl rfl rfl (Zw (f := T_Span.enc) (l := s1.2.1) (ys := [(T_Span.mk (IntKind.i64.wrap (x4 - x6.2)) (IntKind.i64.wrap (x8 + x10.2)))]) rfl rfl (Vg (Vl hn) rfl) rfl (src_vs rfl) te_23 ts_44 tb_44 (by decide) tz_44 rfl h13 (Xn (Vl hn) rfl)) ?_
    refine Yd rfl rfl (rd_asL rfl) ?_
    refine Yx ?_
    refine Vd ?_
    refine Va (Vk rfl) rfl ?_
    refine Va (Zf rfl rfl rfl) rfl ?_
    refine Va (Xv rfl) rfl ?_
    refine Ve ?_
    obtain rfl := Wd hF
    refine Xk ?_
    exact Vm (Vl hn) [(0, 0 + 1)] (by decide) ⟨Vh rfl (.ptr _ _ _ _ hq0), Vh rfl (.vs _ _), Yc 0 0 rfl rfl, Vh rfl (.int _ _), trivial⟩ ⟨⟨_, rfl, rfl, .same _ _ _ _ (Vq T_Span.enc_lt)⟩, trivial⟩
   ·have hF := Yr c3 hF
    refine Zd ?_
    obtain rfl := Wd hF
    refine Xk ?_
    exact Vp ⟨rfl, trivial⟩
  ·rintro _ _ _ _ ⟨rfl, hw⟩
   refine ⟨_, _, _, hw, ?_⟩
   refine Vf ?_
   refine Vd ?_
   refine Va (Yn rfl) rfl ?_
   refine Va (rd_asL rfl) rfl ?_
   refine Ve ?_
   refine Yb ?_
   obtain rfl := Wd hF
   refine fnR ?_
   refine Weak.trans (Yv (E' := [(4, .vs 2 (Wa T_Span.enc o2.1))]) (loc1 := [⟨44, 2, [], 0 + 1⟩]) (Vl hn) 0 rfl (Ym T_Span.enc_lt) ⟨cv_sl rfl rfl rfl (Zj rfl), trivial⟩ ⟨.refl _, trivial⟩) ?_
   exact Vm (Vl hn) [] (by decide) ⟨Vh rfl (.vs _ _), trivial⟩ trivial
 ·rintro _ _ _ _ ⟨he, hw⟩
  refine ⟨_, _, _, hw, ?_⟩
  exact Zc he [.vs 2 (Wa T_Span.enc r.2)] ⟨rfl, trivial⟩ (.vs _ _) ⟨rfl, (List.append_nil _).symm⟩

theorem F_draw_Codes_Spans_ok {p0 : T_draw_Codes} {p1 : List Int} {r : T_draw_Codes × List T_Span} (hF : F_draw_Codes_Spans p0 p1 = some r) {low : List AObj} {q0 w0 : Nat} (hnd : [q0].Nodup) (hq0 : low[q0]? = some ⟨88, 2, [.agg [.vs 1 (Wa (Wb .u8) p0.l), .int .i64 p0.at_]], w0⟩) {n : Nat} (hn : low.length = n) :
    Zh Try.prog 29 [.ptr q0 w0 0 0, .vs 1 (Wa (Wb .i64) p1)] low fun x low' => x = .vs 2 (Wa T_Span.enc r.2) ∧ low' = setL low [(q0, ⟨88, 2, [.agg [.vs 1 (Wa (Wb .u8) r.1.l), .int .i64 r.1.at_]], w0⟩)] ++ [] := by
  obtain ⟨h1, h2⟩ := bor_start (ps := [(q0, ⟨88, 2, [.agg [.vs 1 (Wa (Wb .u8) p0.l), .int .i64 p0.at_]], w0⟩)]) hnd (borC hq0 bor0)
  exact Zz h1 (F_draw_Codes_Spans_ok0 hF h2 hn)

theorem F_law14_air_ok {p0 : List Int} {r : T_Air × List T_Span × List Int} (hF : F_law14_air p0 = some r) (low : List AObj) {n : Nat} (hn : low.length = n) :
    Zh Try.prog 8 [.vs 1 (Wa (Wb .u8) p0)] low fun x low' => x = .tup [.agg [.vs 2 (Wa T_Place.enc r.1.Mine.Places), .vs 10 (Wa T_Road.enc r.1.Mine.Roads), .vs 4 (Wa T_Fan.enc r.1.Fans), .vs 3 (Wa T_Door.enc r.1.Doors)], .vs 2 (Wa T_Span.enc r.2.1), .vs 1 (Wa (Wb .i64) r.2.2)] ∧ low' = low ++ [] := by
 refine Xr (nt := 51) (rs := [.cell 2 31, .tmp 3, .tmp 4]) Try.func8 rfl rfl (We rfl) rfl ?_
 refine Vs (Q' := FnE (fun E' lw lc => Xz E' lw lc [(2, .ptr (n + 0) 0 0 0), (3, .vs 2 (Wa T_Span.enc r.2.1)), (4, .vs 1 (Wa (Wb .i64) r.2.2))] low [⟨31, 4, [.agg [.vs 2 (Wa T_Place.enc r.1.Mine.Places), .vs 10 (Wa T_Road.enc r.1.Mine.Roads), .vs 4 (Wa T_Fan.enc r.1.Fans), .vs 3 (Wa T_Door.enc r.1.Doors)]], 0⟩])) ?_ ?_
 ·unfold F_law14_air at hF
  refine Vf ?_
  refine Vd ?_
  refine Vi (Xm hn rfl tz_31 rfl rfl (Wf _) rfl) rfl ?_
  refine Va (rd_nv (sz := 2) (rd_asN rfl)) rfl ?_
  refine Va (rd_nv (sz := 1) (rd_asN rfl)) rfl ?_
  refine Ve ?_
  refine Vf ?_
  refine Vd ?_
  obtain ⟨x1, h2, hF⟩ := Yf hF
  refine Va (Xw rfl) rfl ?_
  refine Vi (vef_callN (r := .ptr (n + 1) 0 0 0) (os := [⟨88, 2, [.agg [.vs 1 (Wa (Wb .u8) x1.l), .int .i64 x1.at_]], 0⟩]) rfl Try.call23 (F_draw_New_ok h2 _ (Xs hn rfl))) rfl ?_
  refine Va (rd_asP rfl) rfl ?_
  refine Ve ?_
  refine Vf ?_
  refine Vd ?_
  obtain ⟨x3, h4, hF⟩ := Yf hF
  refine Va (Xg rfl) rfl ?_
  refine Vi (Vz (ps := [((n + 1), ⟨88, 2, [.agg [.vs 1 (Wa (Wb .u8) x3.1.l), .int .i64 x3.1.at_]], 0⟩)]) (r := .tup [.agg [.vs 2 (Wa T_Place.enc x3.2.1.Mine.Places), .vs 10 (Wa T_Road.enc x3.2.1.Mine.Roads), .vs 4 (Wa T_Fan.enc x3.2.1.Fans), .vs 3 (Wa T_Door.enc x3.2.1.Doors)], .agg [.vs 1 (Wa (Wb .i64) x3.2.2.1.Fans), .vs 1 (Wa (Wb .i64) x3.2.2.1.Doors)], .agg [.vs 1 (Wa (Wb .i64) x3.2.2.2.Pressures), .vs 1 (Wa (Wb .i64) x3.2.2.2.Flows)]]) (os := []) (low1 := low) (loc1 := [⟨31, 4, [.agg [.nils, .nils, .nils, .nils]], 0⟩, ⟨88, 2, [.agg [.vs 1 (Wa (Wb .u8) x3.1.l), .int .i64 x3.1.at_]], 0⟩]) (loc2 := [⟨31, 4, [.agg [.nils, .nils, .nils, .nils]], 0⟩, ⟨88, 2, [.agg [.vs 1 (Wa (Wb .u8) x3.1.l), .int .i64 x3.1.at_]], 0⟩]) rfl Try.call24 (F_draw_Codes_Made_ok h4 (nd1 na0 nd0) (get_N hn rfl) (Xs hn rfl)) (Zv (loc2 := [⟨31, 4, [.agg [.nils, .nils, .nils, .nils]], 0⟩, ⟨88, 2, [.agg [.vs 1 (Wa (Wb .u8) x3.1.l), .int .i64 x3.1.at_]], 0⟩]) hn 1 rfl Xf) rfl) rfl ?_
  refine Va (rd_mvT rfl) rfl ?_
  refine Va (rd_extract rfl rfl) rfl ?_
  refine Va (rd_extract rfl rfl) rfl ?_
  refine Va (rd_extract rfl rfl) rfl ?_
  refine Vi (Xm hn rfl tz_31 rfl rfl (Wf _) rfl) rfl ?_
  refine Vi (Xm hn rfl tz_62 rfl rfl (Wf _) rfl) rfl ?_
  refine Vi (Xm hn rfl tz_64 rfl rfl (Wf _) rfl) rfl ?_
  refine Vi (Vw (p := .agg [.vs 2 (Wa T_Place.enc x3.2.1.Mine.Places), .vs 10 (Wa T_Road.enc x3.2.1.Mine.Roads), .vs 4 (Wa T_Fan.enc x3.2.1.Fans), .vs 3 (Wa T_Door.enc x3.2.1.Doors)]) (e' := .agg [.vs 2 (Wa T_Place.enc x3.2.1.Mine.Places), .vs 10 (Wa T_Road.enc x3.2.1.Mine.Roads), .vs 4 (Wa T_Fan.enc x3.2.1.Fans), .vs 3 (Wa T_Door.enc x3.2.1.Doors)]) rfl (Vg hn rfl) rfl rfl ts_31 rfl (Yg rfl) rfl (We rfl) rfl (Xn hn rfl)) rfl ?_
  refine Vi (Vw (p := .agg [.vs 1 (Wa (Wb .i64) x3.2.2.1.Fans), .vs 1 (Wa (Wb .i64) x3.2.2.1.Doors)]) (e' := .agg [.vs 1 (Wa (Wb .i64) x3.2.2.1.Fans), .vs 1 (Wa (Wb .i64) x3.2.2.1.Doors)]) rfl (Vg hn rfl) rfl rfl ts_62 rfl (Yg rfl) rfl (We rfl) rfl (Xn hn rfl)) rfl ?_
  refine Vi (Vw (p := .agg [.vs 1 (Wa (Wb .i64) x3.2.2.2.Pressures), .vs 1 (Wa (Wb .i64) x3.2.2.2.Flows)]) (e' := .agg [.vs 1 (Wa (Wb .i64) x3.2.2.2.Pressures), .vs 1 (Wa (Wb .i64) x3.2.2.2.Flows)]) rfl (Vg hn rfl) rfl rfl ts_64 rfl (Yg rfl) rfl (We rfl) rfl (Xn hn rfl)) rfl ?_
  refine Ve ?_
  refine Vf ?_
  refine Vf ?_
  refine Vd ?_
  obtain ⟨x5, h6, hF⟩ := Yf hF
  refine Va (Xg rfl) rfl ?_
  refine Vi (Vz (ps := [((n + 1), ⟨88, 2, [.agg [.vs 1 (Wa (Wb .u8) x5.1.l), .int .i64 x5.1.at_]], 0⟩)]) (r := .bool x5.2) (os := []) (low1 := low) (loc1 := [⟨31, 4, [.agg [.nils, .nils, .nils, .nils]], 0⟩, ⟨88, 2, [.agg [.vs 1 (Wa (Wb .u8) x5.1.l), .int .i64 x5.1.at_]], 0⟩, ⟨31, 4, [.agg [.vs 2 (Wa T_Place.enc x3.2.1.Mine.Places), .vs 10 (Wa T_Road.enc x3.2.1.Mine.Roads), .vs 4 (Wa T_Fan.enc x3.2.1.Fans), .vs 3 (Wa T_Door.enc x3.2.1.Doors)]], 0⟩, ⟨62, 2, [.agg [.vs 1 (Wa (Wb .i64) x3.2.2.1.Fans), .vs 1 (Wa (Wb .i64) x3.2.2.1.Doors)]], 0⟩, ⟨64, 2, [.agg [.vs 1 (Wa (Wb .i64) x3.2.2.2.Pressures), .vs 1 (Wa (Wb .i64) x3.2.2.2.Flows)]], 0⟩]) (loc2 := [⟨31, 4, [.agg [.nils, .nils, .nils, .nils]], 0⟩, ⟨88, 2, [.agg [.vs 1 (Wa (Wb .u8) x5.1.l), .int .i64 x5.1.at_]], 0⟩, ⟨31, 4, [.agg [.vs 2 (Wa T_Place.enc x3.2.1.Mine.Places), .vs 10 (Wa T_Road.enc x3.2.1.Mine.Roads), .vs 4 (Wa T_Fan.enc x3.2.1.Fans), .vs 3 (Wa T_Door.enc x3.2.1.Doors)]], 0⟩, ⟨62, 2, [.agg [.vs 1 (Wa (Wb .i64) x3.2.2.1.Fans), .vs 1 (Wa (Wb .i64) x3.2.2.1.Doors)]], 0⟩, ⟨64, 2, [.agg [.vs 1 (Wa (Wb .i64) x3.2.2.2.Pressures), .vs 1 (Wa (Wb .i64) x3.2.2.2.Flows)]], 0⟩]) rfl Try.call25 (F_draw_Codes_One_ok h6 (nd1 na0 nd0) (get_N hn rfl) (Xs hn rfl)) (Zv (loc2 := [⟨31, 4, [.agg [.nils, .nils, .nils, .nils]], 0⟩, ⟨88, 2, [.agg [.vs 1 (Wa (Wb .u8) x5.1.l), .int .i64 x5.1.at_]], 0⟩, ⟨31, 4, [.agg [.vs 2 (Wa T_Place.enc x3.2.1.Mine.Places), .vs 10 (Wa T_Road.enc x3.2.1.Mine.Roads), .vs 4 (Wa T_Fan.enc x3.2.1.Fans), .vs 3 (Wa T_Door.enc x3.2.1.Doors)]], 0⟩, ⟨62, 2, [.agg [.vs 1 (Wa (Wb .i64) x3.2.2.1.Fans), .vs 1 (Wa (Wb .i64) x3.2.2.1.Doors)]], 0⟩, ⟨64, 2, [.agg [.vs 1 (Wa (Wb .i64) x3.2.2.2.Pressures), .vs 1 (Wa (Wb .i64) x3.2.2.2.Flows)]], 0⟩]) hn 1 rfl Xf) rfl) rfl ?_
  refine Ve ?_
  obtain ⟨o7, ho7, hF⟩ := Yf hF
  refine Vs (Q' := (fun o7 => OnlyE .normal (fun E' lw lc => Xz E' lw lc [(2, .ptr (n + 0) 0 0 0), (5, .ptr (n + 1) 0 0 0), (6, .ptr (n + 2) 0 0 0), (8, .ptr (n + 3) 0 0 0)] low [⟨31, 4, [.agg [.nils, .nils, .nils, .nils]], 0⟩, ⟨88, 2, [.agg [.vs 1 (Wa (Wb .u8) o7.1.l), .int .i64 o7.1.at_]], 0⟩, ⟨31, 4, [.agg [.vs 2 (Wa T_Place.enc o7.2.1.Mine.Places), .vs 10 (Wa T_Road.enc o7.2.1.Mine.Roads), .vs 4 (Wa T_Fan.enc o7.2.1.Fans), .vs 3 (Wa T_Door.enc o7.2.1.Doors)]], 0⟩, ⟨64, 2, [.agg [.vs 1 (Wa (Wb .i64) x3.2.2.2.Pressures), .vs 1 (Wa (Wb .i64) o7.2.2)]], 0⟩])) o7) ?_ ?_
  ·replace hF := ho7
   refine Xi rfl (fun c8 => ?_) (fun c8 => ?_)
   ·have hF := Yq c8 hF
    refine Vf ?_
    refine Vd ?_
    obtain ⟨x9, h10, hF⟩ := Yf hF
    obtain ⟨x11, h12, hF⟩ := Yf hF
    obtain ⟨x13, h14, hF⟩ := Yf hF
    refine Va (Xg rfl) rfl ?_
    refine Vi (Vz (ps := [((n + 1), ⟨88, 2, [.agg [.vs 1 (Wa (Wb .u8) x9.1.l), .int .i64 x9.1.at_]], 0⟩)]) (r := .agg [.sl (n + 5) 0 0 (x9.2.Places).length, .sl (n + 6) 0 0 (x9.2.Roads).length]) (os := [⟨48, 2, Wa T_Place.enc x9.2.Places, 0⟩, ⟨46, 10, Wa T_Road.enc x9.2.Roads, 0⟩]) (low1 := low) (loc1 := [⟨31, 4, [.agg [.nils, .nils, .nils, .nils]], 0⟩, ⟨88, 2, [.agg [.vs 1 (Wa (Wb .u8) x9.1.l), .int .i64 x9.1.at_]], 0⟩, ⟨31, 4, [.agg [.vs 2 (Wa T_Place.enc x3.2.1.Mine.Places), .vs 10 (Wa T_Road.enc x3.2.1.Mine.Roads), .vs 4 (Wa T_Fan.enc x3.2.1.Fans), .vs 3 (Wa T_Door.enc x3.2.1.Doors)]], 0⟩, ⟨62, 2, [.agg [.vs 1 (Wa (Wb .i64) x3.2.2.1.Fans), .vs 1 (Wa (Wb .i64) x3.2.2.1.Doors)]], 0⟩, ⟨64, 2, [.agg [.vs 1 (Wa (Wb .i64) x3.2.2.2.Pressures), .vs 1 (Wa (Wb .i64) x3.2.2.2.Flows)]], 0⟩]) (loc2 := [⟨31, 4, [.agg [.nils, .nils, .nils, .nils]], 0⟩, ⟨88, 2, [.agg [.vs 1 (Wa (Wb .u8) x9.1.l), .int .i64 x9.1.at_]], 0⟩, ⟨31, 4, [.agg [.vs 2 (Wa T_Place.enc x3.2.1.Mine.Places), .vs 10 (Wa T_Road.enc x3.2.1.Mine.Roads), .vs 4 (Wa T_Fan.enc x3.2.1.Fans), .vs 3 (Wa T_Door.enc x3.2.1.Doors)]], 0⟩, ⟨62, 2, [.agg [.vs 1 (Wa (Wb .i64) x3.2.2.1.Fans), .vs 1 (Wa (Wb .i64) x3.2.2.1.Doors)]], 0⟩, ⟨64, 2, [.agg [.vs 1 (Wa (Wb .i64) x3.2.2.2.Pressures), .vs 1 (Wa (Wb .i64) x3.2.2.2.Flows)]], 0⟩, ⟨48, 2, Wa T_Place.enc x9.2.Places, 0⟩, ⟨46, 10, Wa T_Road.enc x9.2.Roads, 0⟩]) rfl Try.call26 (F_draw_Codes_Mine_ok h10 (nd1 na0 nd0) (get_N hn rfl) (Xs hn rfl)) (Zv (loc2 := [⟨31, 4, [.agg [.nils, .nils, .nils, .nils]], 0⟩, ⟨88, 2, [.agg [.vs 1 (Wa (Wb .u8) x9.1.l), .int .i64 x9.1.at_]], 0⟩, ⟨31, 4, [.agg [.vs 2 (Wa T_Place.enc x3.2.1.Mine.Places), .vs 10 (Wa T_Road.enc x3.2.1.Mine.Roads), .vs 4 (Wa T_Fan.enc x3.2.1.Fans), .vs 3 (Wa T_Door.enc x3.2.1.Doors)]], 0⟩, ⟨62, 2, [.agg [.vs 1 (Wa (Wb .i64) x3.2.2.1.Fans), .vs 1 (Wa (Wb .i64) x3.2.2.1.Doors)]], 0⟩, ⟨64, 2, [.agg [.vs 1 (Wa (Wb .i64) x3.2.2.2.Pressures), .vs 1 (Wa (Wb .i64) x3.2.2.2.Flows)]], 0⟩]) hn 1 rfl Xf) rfl) rfl ?_
    refine Va (Xg rfl) rfl ?_
    refine Vi (Vz (ps := [((n + 1), ⟨88, 2, [.agg [.vs 1 (Wa (Wb .u8) x11.1.l), .int .i64 x11.1.at_]], 0⟩)]) (r := .int .i64 x11.2) (os := []) (low1 := low) (loc1 := [⟨31, 4, [.agg [.nils, .nils, .nils, .nils]], 0⟩, ⟨88, 2, [.agg [.vs 1 (Wa (Wb .u8) x11.1.l), .int .i64 x11.1.at_]], 0⟩, ⟨31, 4, [.agg [.vs 2 (Wa T_Place.enc x3.2.1.Mine.Places), .vs 10 (Wa T_Road.enc x3.2.1.Mine.Roads), .vs 4 (Wa T_Fan.enc x3.2.1.Fans), .vs 3 (Wa T_Door.enc x3.2.1.Doors)]], 0⟩, ⟨62, 2, [.agg [.vs 1 (Wa (Wb .i64) x3.2.2.1.Fans), .vs 1 (Wa (Wb .i64) x3.2.2.1.Doors)]], 0⟩, ⟨64, 2, [.agg [.vs 1 (Wa (Wb .i64) x3.2.2.2.Pressures), .vs 1 (Wa (Wb .i64) x3.2.2.2.Flows)]], 0⟩, ⟨48, 2, Wa T_Place.enc x9.2.Places, 0⟩, ⟨46, 10, Wa T_Road.enc x9.2.Roads, 0⟩]) (loc2 := [⟨31, 4, [.agg [.nils, .nils, .nils, .nils]], 0⟩, ⟨88, 2, [.agg [.vs 1 (Wa (Wb .u8) x11.1.l), .int .i64 x11.1.at_]], 0⟩, ⟨31, 4, [.agg [.vs 2 (Wa T_Place.enc x3.2.1.Mine.Places), .vs 10 (Wa T_Road.enc x3.2.1.Mine.Roads), .vs 4 (Wa T_Fan.enc x3.2.1.Fans), .vs 3 (Wa T_Door.enc x3.2.1.Doors)]], 0⟩, ⟨62, 2, [.agg [.vs 1 (Wa (Wb .i64) x3.2.2.1.Fans), .vs 1 (Wa (Wb .i64) x3.2.2.1.Doors)]], 0⟩, ⟨64, 2, [.agg [.vs 1 (Wa (Wb .i64) x3.2.2.2.Pressures), .vs 1 (Wa (Wb .i64) x3.2.2.2.Flows)]], 0⟩, ⟨48, 2, Wa T_Place.enc x9.2.Places, 0⟩, ⟨46, 10, Wa T_Road.enc x9.2.Roads, 0⟩]) rfl Try.call27 (F_draw_Codes_Next_ok h12 (nd1 na0 nd0) (get_N hn rfl) (Xs hn rfl)) (Zv (loc2 := [⟨31, 4, [.agg [.nils, .nils, .nils, .nils]], 0⟩, ⟨88, 2, [.agg [.vs 1 (Wa (Wb .u8) x11.1.l), .int .i64 x11.1.at_]], 0⟩, ⟨31, 4, [.agg [.vs 2 (Wa T_Place.enc x3.2.1.Mine.Places), .vs 10 (Wa T_Road.enc x3.2.1.Mine.Roads), .vs 4 (Wa T_Fan.enc x3.2.1.Fans), .vs 3 (Wa T_Door.enc x3.2.1.Doors)]], 0⟩, ⟨62, 2, [.agg [.vs 1 (Wa (Wb .i64) x3.2.2.1.Fans), .vs 1 (Wa (Wb .i64) x3.2.2.1.Doors)]], 0⟩, ⟨64, 2, [.agg [.vs 1 (Wa (Wb .i64) x3.2.2.2.Pressures), .vs 1 (Wa (Wb .i64) x3.2.2.2.Flows)]], 0⟩, ⟨48, 2, Wa T_Place.enc x9.2.Places, 0⟩, ⟨46, 10, Wa T_Road.enc x9.2.Roads, 0⟩]) hn 1 rfl Xf) rfl) rfl ?_
    refine Va (rd_nc (Ye (vs := [(0, .int .i64 x11.2), (2, .bool true)]) (ds := [.int .i64 x11.2, .bool false, .bool true, .nils]) tz_72 rfl rfl tp_72 ⟨rfl, rfl, rfl, rfl, trivial⟩ (Yh rfl) rfl) (nc_agg (cs := [.int .i64 x11.2, .bool false, .bool true, .nils]) (ds := [.int .i64 x11.2, .bool false, .bool true, .vs 2 (Wa T_Point.enc ([] : List T_Point))]) rfl rfl ⟨nc_eq rfl, nc_eq rfl, nc_eq rfl, nc_nil rfl rfl, trivial⟩)) rfl ?_
    refine Va (Xg rfl) rfl ?_
    refine Vi (Vz (ps := [((n + 1), ⟨88, 2, [.agg [.vs 1 (Wa (Wb .u8) x13.1.l), .int .i64 x13.1.at_]], 0⟩)]) (r := .int .i64 x13.2) (os := []) (low1 := low) (loc1 := [⟨31, 4, [.agg [.nils, .nils, .nils, .nils]], 0⟩, ⟨88, 2, [.agg [.vs 1 (Wa (Wb .u8) x13.1.l), .int .i64 x13.1.at_]], 0⟩, ⟨31, 4, [.agg [.vs 2 (Wa T_Place.enc x3.2.1.Mine.Places), .vs 10 (Wa T_Road.enc x3.2.1.Mine.Roads), .vs 4 (Wa T_Fan.enc x3.2.1.Fans), .vs 3 (Wa T_Door.enc x3.2.1.Doors)]], 0⟩, ⟨62, 2, [.agg [.vs 1 (Wa (Wb .i64) x3.2.2.1.Fans), .vs 1 (Wa (Wb .i64) x3.2.2.1.Doors)]], 0⟩, ⟨64, 2, [.agg [.vs 1 (Wa (Wb .i64) x3.2.2.2.Pressures), .vs 1 (Wa (Wb .i64) x3.2.2.2.Flows)]], 0⟩, ⟨48, 2, Wa T_Place.enc x9.2.Places, 0⟩, ⟨46, 10, Wa T_Road.enc x9.2.Roads, 0⟩]) (loc2 := [⟨31, 4, [.agg [.nils, .nils, .nils, .nils]], 0⟩, ⟨88, 2, [.agg [.vs 1 (Wa (Wb .u8) x13.1.l), .int .i64 x13.1.at_]], 0⟩, ⟨31, 4, [.agg [.vs 2 (Wa T_Place.enc x3.2.1.Mine.Places), .vs 10 (Wa T_Road.enc x3.2.1.Mine.Roads), .vs 4 (Wa T_Fan.enc x3.2.1.Fans), .vs 3 (Wa T_Door.enc x3.2.1.Doors)]], 0⟩, ⟨62, 2, [.agg [.vs 1 (Wa (Wb .i64) x3.2.2.1.Fans), .vs 1 (Wa (Wb .i64) x3.2.2.1.Doors)]], 0⟩, ⟨64, 2, [.agg [.vs 1 (Wa (Wb .i64) x3.2.2.2.Pressures), .vs 1 (Wa (Wb .i64) x3.2.2.2.Flows)]], 0⟩, ⟨48, 2, Wa T_Place.enc x9.2.Places, 0⟩, ⟨46, 10, Wa T_Road.enc x9.2.Roads, 0⟩]) rfl Try.call27 (F_draw_Codes_Next_ok h14 (nd1 na0 nd0) (get_N hn rfl) (Xs hn rfl)) (Zv (loc2 := [⟨31, 4, [.agg [.nils, .nils, .nils, .nils]], 0⟩, ⟨88, 2, [.agg [.vs 1 (Wa (Wb .u8) x13.1.l), .int .i64 x13.1.at_]], 0⟩, ⟨31, 4, [.agg [.vs 2 (Wa T_Place.enc x3.2.1.Mine.Places), .vs 10 (Wa T_Road.enc x3.2.1.Mine.Roads), .vs 4 (Wa T_Fan.enc x3.2.1.Fans), .vs 3 (Wa T_Door.enc x3.2.1.Doors)]], 0⟩, ⟨62, 2, [.agg [.vs 1 (Wa (Wb .i64) x3.2.2.1.Fans), .vs 1 (Wa (Wb .i64) x3.2.2.1.Doors)]], 0⟩, ⟨64, 2, [.agg [.vs 1 (Wa (Wb .i64) x3.2.2.2.Pressures), .vs 1 (Wa (Wb .i64) x3.2.2.2.Flows)]], 0⟩, ⟨48, 2, Wa T_Place.enc x9.2.Places, 0⟩, ⟨46, 10, Wa T_Road.enc x9.2.Roads, 0⟩]) hn 1 rfl Xf) rfl) rfl ?_
    refine Va (rd_nc (Ye (vs := [(0, .int .i64 x13.2)]) (ds := [.int .i64 x13.2, .bool false, .bool false, .nils]) tz_72 rfl rfl tp_72 ⟨rfl, rfl, trivial⟩ (Yh rfl) rfl) (nc_agg (cs := [.int .i64 x13.2, .bool false, .bool false, .nils]) (ds := [.int .i64 x13.2, .bool false, .bool false, .vs 2 (Wa T_Point.enc ([] : List T_Point))]) rfl rfl ⟨nc_eq rfl, nc_eq rfl, nc_eq rfl, nc_nil rfl rfl, trivial⟩)) rfl ?_
    refine Vi (Yt (es := Wa T_Fan.enc [(T_Fan.mk x11.2 false true ([] : List T_Point)), (T_Fan.mk x13.2 false false ([] : List T_Point))]) ⟨rfl, rfl, rfl, rfl, trivial⟩ rfl rfl (Zm rfl) te_28 ts_72 tz_72 rfl rfl (Wf _) (by decide) (Ym T_Fan.enc_lt)) rfl ?_
    refine Va (rd_nc (Ye (vs := [(0, .agg [.sl (n + 5) 0 0 (x9.2.Places).length, .sl (n + 6) 0 0 (x9.2.Roads).length]), (1, .vs 4 (Wa T_Fan.enc [(T_Fan.mk x11.2 false true ([] : List T_Point)), (T_Fan.mk x13.2 false false ([] : List T_Point))]))]) (ds := [.sl (n + 5) 0 0 (x9.2.Places).length, .sl (n + 6) 0 0 (x9.2.Roads).length, .vs 4 (Wa T_Fan.enc [(T_Fan.mk x11.2 false true ([] : List T_Point)), (T_Fan.mk x13.2 false false ([] : List T_Point))]), .nils]) tz_31 rfl rfl tp_31 ⟨rfl, rfl, rfl, rfl, trivial⟩ (Yh rfl) rfl) (nc_agg (cs := [.sl (n + 5) 0 0 (x9.2.Places).length, .sl (n + 6) 0 0 (x9.2.Roads).length, .vs 4 (Wa T_Fan.enc [(T_Fan.mk x11.2 false true ([] : List T_Point)), (T_Fan.mk x13.2 false false ([] : List T_Point))]), .nils]) (ds := [.sl (n + 5) 0 0 (x9.2.Places).length, .sl (n + 6) 0 0 (x9.2.Roads).length, .vs 4 (Wa T_Fan.enc [(T_Fan.mk x11.2 false true ([] : List T_Point)), (T_Fan.mk x13.2 false false ([] : List T_Point))]), .vs 3 (Wa T_Door.enc ([] : List T_Door))]) rfl rfl ⟨nc_eq rfl, nc_eq rfl, nc_eq rfl, nc_nil rfl rfl, trivial⟩)) rfl ?_
    refine Vi (Vw (p := .agg [.sl (n + 5) 0 0 (x9.2.Places).length, .sl (n + 6) 0 0 (x9.2.Roads).length, .vs 4 (Wa T_Fan.enc [(T_Fan.mk x11.2 false true ([] : List T_Point)), (T_Fan.mk x13.2 false false ([] : List T_Point))]), .vs 3 (Wa T_Door.enc ([] : List T_Door))]) (e' := .agg [.sl (n + 5) 0 0 (x9.2.Places).length, .sl (n + 6) 0 0 (x9.2.Roads).length, .vs 4 (Wa T_Fan.enc [(T_Fan.mk x11.2 false true ([] : List T_Point)), (T_Fan.mk x13.2 false false ([] : List T_Point))]), .vs 3 (Wa T_Door.enc ([] : List T_Door))]) rfl (Vg hn rfl) rfl rfl ts_31 rfl (Yg rfl) rfl (We rfl) rfl (Xn hn rfl)) rfl ?_
    refine Ve ?_
    refine Vf ?_
    refine Vd ?_
    refine Va (Vb rfl tf_64_1 ts_32 (by decide)) rfl ?_
    refine Vi (Vw (p := .nils) (e' := .agg [.vs 1 (Wa (Wb .i64) x3.2.2.2.Pressures), .nils]) rfl (Vg hn rfl) rfl rfl ts_32 rfl (Yg rfl) rfl (We rfl) rfl (Xn hn rfl)) rfl ?_
    refine Ve ?_
    refine Vf ?_
    refine Vd ?_
    refine Va (Vb rfl tf_31_0 ts_27 (by decide)) rfl ?_
    refine Va (Vb rfl tf_27_1 ts_25 (by decide)) rfl ?_
    refine Va (Vj rfl (Vg hn rfl) rfl ta_25 rfl) rfl ?_
    refine Va (rd_lenS rfl (Vg hn rfl) rfl rfl te_25) rfl ?_
    refine Va (Vk rfl) rfl ?_
    refine Ve ?_
    refine Xh ?_
    obtain ⟨o16, ho16, hF⟩ := Yf hF
    refine Vs (Yy (F_law14_air_L1 x9) (fun s15 E' lw lc => Xz E' lw lc [(2, .ptr (n + 0) 0 0 0), (5, .ptr (n + 1) 0 0 0), (6, .ptr (n + 2) 0 0 0), (8, .ptr (n + 3) 0 0 0), (33, .int .i64 ((x9.2.Roads).length : Int)), (34, .int .i64 s15.1)] low [⟨31, 4, [.agg [.nils, .nils, .nils, .nils]], 0⟩, ⟨88, 2, [.agg [.vs 1 (Wa (Wb .u8) s15.2.1.l), .int .i64 s15.2.1.at_]], 0⟩, ⟨31, 4, [.agg [.vs 2 (Wa T_Place.enc s15.2.2.1.Mine.Places), .sl (n + 4) 0 0 (s15.2.2.1.Mine.Roads).length, .vs 4 (Wa T_Fan.enc s15.2.2.1.Fans), .vs 3 (Wa T_Door.enc s15.2.2.1.Doors)]], 0⟩, ⟨64, 2, [.agg [.vs 1 (Wa (Wb .i64) x3.2.2.2.Pressures), .sl (n + 5) 0 0 (s15.2.2.2).length]], 0⟩, ⟨46, 10, Wa T_Road.enc s15.2.2.1.Mine.Roads, 0⟩, ⟨3, 1, Wa (Wb .i64) s15.2.2.2, 0⟩]) (fun o16 => OnlyE (.exit 0) (fun E' lw lc => Xz E' lw lc [(2, .ptr (n + 0) 0 0 0), (5, .ptr (n + 1) 0 0 0), (6, .ptr (n + 2) 0 0 0), (8, .ptr (n + 3) 0 0 0)] low [⟨31, 4, [.agg [.nils, .nils, .nils, .nils]], 0⟩, ⟨88, 2, [.agg [.vs 1 (Wa (Wb .u8) o16.1.l), .int .i64 o16.1.at_]], 0⟩, ⟨31, 4, [.agg [.vs 2 (Wa T_Place.enc o16.2.1.Mine.Places), .sl (n + 4) 0 0 (o16.2.1.Mine.Roads).length, .vs 4 (Wa T_Fan.enc o16.2.1.Fans), .vs 3 (Wa T_Door.enc o16.2.1.Doors)]], 0⟩, ⟨64, 2, [.agg [.vs 1 (Wa (Wb .i64) x3.2.2.2.Pressures), .sl (n + 5) 0 0 (o16.2.2).length]], 0⟩, ⟨46, 10, Wa T_Road.enc o16.2.1.Mine.Roads, 0⟩, ⟨3, 1, Wa (Wb .i64) o16.2.2, 0⟩])) ho16 ?_ (by rintro _ _ _ _ ⟨h, _⟩ <;> cases h) ?_) ?_
    ·refine Weak.trans (weak_nil (E' := [(2, .ptr (n + 0) 0 0 0), (5, .ptr (n + 1) 0 0 0), (6, .ptr (n + 2) 0 0 0), (8, .ptr (n + 4) 0 0 0), (33, .int .i64 ((x9.2.Roads).length : Int)), (34, .int .i64 0)]) (loc1 := [⟨31, 4, [.agg [.nils, .nils, .nils, .nils]], 0⟩, ⟨88, 2, [.agg [.vs 1 (Wa (Wb .u8) x13.1.l), .int .i64 x13.1.at_]], 0⟩, ⟨31, 4, [.agg [.sl (n + 5) 0 0 (x9.2.Places).length, .sl (n + 6) 0 0 (x9.2.Roads).length, .vs 4 (Wa T_Fan.enc [(T_Fan.mk x11.2 false true ([] : List T_Point)), (T_Fan.mk x13.2 false false ([] : List T_Point))]), .vs 3 (Wa T_Door.enc ([] : List T_Door))]], 0⟩, ⟨62, 2, [.agg [.vs 1 (Wa (Wb .i64) x3.2.2.1.Fans), .vs 1 (Wa (Wb .i64) x3.2.2.1.Doors)]], 0⟩, ⟨64, 2, [.agg [.vs 1 (Wa (Wb .i64) x3.2.2.2.Pressures), .sl (n + 7) 0 0 (([] : List Int)).length]], 0⟩, ⟨48, 2, Wa T_Place.enc x9.2.Places, 0⟩, ⟨46, 10, Wa T_Road.enc x9.2.Roads, 0⟩]) hn rfl 3 1 (Wf _) ⟨Xb rfl, Xb rfl, Xb rfl, Xb rfl, Xb rfl, Xb rfl, trivial⟩ ⟨.same _, .same _, .same _, .same _, .agg _ _ _ _ _ ⟨Xb rfl, nn_nil rfl, trivial⟩, .same _, .same _, trivial⟩) ?_
     refine Weak.trans (Yv (E' := [(2, .ptr (n + 0) 0 0 0), (5, .ptr (n + 1) 0 0 0), (6, .ptr (n + 2) 0 0 0), (8, .ptr (n + 4) 0 0 0), (33, .int .i64 ((x9.2.Roads).length : Int)), (34, .int .i64 0)]) (loc1 := [⟨31, 4, [.agg [.nils, .nils, .nils, .nils]], 0⟩, ⟨88, 2, [.agg [.vs 1 (Wa (Wb .u8) x13.1.l), .int .i64 x13.1.at_]], 0⟩, ⟨31, 4, [.agg [.vs 2 (Wa T_Place.enc x9.2.Places), .sl (n + 6) 0 0 (x9.2.Roads).length, .vs 4 (Wa T_Fan.enc [(T_Fan.mk x11.2 false true ([] : List T_Point)), (T_Fan.mk x13.2 false false ([] : List T_Point))]), .vs 3 (Wa T_Door.enc ([] : List T_Door))]], 0⟩, ⟨62, 2, [.agg [.vs 1 (Wa (Wb .i64) x3.2.2.1.Fans), .vs 1 (Wa (Wb .i64) x3.2.2.1.Doors)]], 0⟩, ⟨64, 2, [.agg [.vs 1 (Wa (Wb .i64) x3.2.2.2.Pressures), .sl (n + 7) 0 0 (([] : List Int)).length]], 0⟩, ⟨48, 2, [], 0 + 1⟩, ⟨46, 10, Wa T_Road.enc x9.2.Roads, 0⟩, ⟨3, 1, Wa (Wb .i64) ([] : List Int), 0⟩]) hn 5 rfl (Ym T_Place.enc_lt) ⟨Vu rfl, Vu rfl, Vu rfl, Vu rfl, Vu rfl, Vu rfl, trivial⟩ ⟨.refl _, .refl _, cvo_agg ⟨cv_sl rfl rfl rfl (Zj rfl), Vu rfl, Vu rfl, Vu rfl, trivial⟩, .refl _, .refl _, .refl _, .refl _, .refl _, trivial⟩) ?_
     exact Vm hn [(0, 0), (1, 0), (2, 0), (4, 0), (6, 0), (7, 0)] (by decide) ⟨Vt 0 0 rfl rfl, Vt 1 1 rfl rfl, Vt 2 2 rfl rfl, Vt 3 4 rfl rfl, Vh rfl (.int _ _), Vh rfl (.int _ _), trivial⟩ ⟨⟨_, rfl, rfl, .same _ _ _ _ (Vn ⟨Vo ⟨.nils, .nils, .nils, .nils, trivial⟩, trivial⟩)⟩, ⟨_, rfl, rfl, .same _ _ _ _ (Vn ⟨Vo ⟨.vs _ _, .int _ _, trivial⟩, trivial⟩)⟩, ⟨_, rfl, rfl, .agg _ _ _ _ _ ⟨Vh rfl (.vs _ _), Yc 4 6 rfl rfl, Vh rfl (.vs _ _), Vh rfl (.vs _ _), trivial⟩⟩, ⟨_, rfl, rfl, .agg _ _ _ _ _ ⟨Vh rfl (.vs _ _), Yc 5 7 rfl rfl, trivial⟩⟩, ⟨_, rfl, rfl, .same _ _ _ _ (Vq T_Road.enc_lt)⟩, ⟨_, rfl, rfl, .same _ _ _ _ (Vn trivial)⟩, trivial⟩
    ·rintro s15 os15 _ _ _ hF hw
     unfold F_law14_air_L1 at hF
     refine Yl hw ?_
     refine Vf ?_
     refine Vd ?_
     refine Va (Yz rfl rfl) rfl ?_
     refine Ve ?_
     refine Vf ?_
     refine Xi rfl (fun c17 => ?_) (fun c17 => ?_)
     ·have hF := Yq c17 hF
      refine Xj ?_
      refine Vf ?_
      refine Xh ?_
      obtain ⟨x18, h19, hF⟩ := Yf hF
      obtain ⟨x20, h21, hF⟩ := Yf hF
      refine Zn [[], [0], [], [2], [2, 3], [0, 1, 2, 3, 4], [0, 1, 2, 3, 4, 5], [0, 1, 2, 3, 4, 5, 6]] [false, false, false, true, false, true, false, true] [(low, [⟨31, 4, [.agg [.nils, .nils, .nils, .nils]], 0⟩, ⟨88, 2, [.agg [.vs 1 (Wa (Wb .u8) s15.2.1.l), .int .i64 s15.2.1.at_]], 0⟩, ⟨31, 4, [.agg [.vs 2 (Wa T_Place.enc s15.2.2.1.Mine.Places), .sl (n + 4) 0 0 (s15.2.2.1.Mine.Roads).length, .vs 4 (Wa T_Fan.enc s15.2.2.1.Fans), .vs 3 (Wa T_Door.enc s15.2.2.1.Doors)]], 0⟩, ⟨64, 2, [.agg [.vs 1 (Wa (Wb .i64) x3.2.2.2.Pressures), .sl (n + 5) 0 0 (s15.2.2.2).length]], 0⟩, ⟨46, 10, Wa T_Road.enc s15.2.2.1.Mine.Roads, 0⟩, ⟨3, 1, Wa (Wb .i64) s15.2.2.2, 0⟩]), (low, [⟨31, 4, [.agg [.nils, .nils, .nils, .nils]], 0⟩, ⟨88, 2, [.agg [.vs 1 (Wa (Wb .u8) x18.1.l), .int .i64 x18.1.at_]], 0⟩, ⟨31, 4, [.agg [.vs 2 (Wa T_Place.enc s15.2.2.1.Mine.Places), .sl (n + 4) 0 0 (s15.2.2.1.Mine.Roads).length, .vs 4 (Wa T_Fan.enc s15.2.2.1.Fans), .vs 3 (Wa T_Door.enc s15.2.2.1.Doors)]], 0⟩, ⟨64, 2, [.agg [.vs 1 (Wa (Wb .i64) x3.2.2.2.Pressures), .sl (n + 5) 0 0 (s15.2.2.2).length]], 0⟩, ⟨46, 10, Wa T_Road.enc s15.2.2.1.Mine.Roads, 0⟩, ⟨3, 1, Wa (Wb .i64) s15.2.2.2, 0⟩]), (low, [⟨31, 4, [.agg [.nils, .nils, .nils, .nils]], 0⟩, ⟨88, 2, [.agg [.vs 1 (Wa (Wb .u8) x18.1.l), .int .i64 x18.1.at_]], 0⟩, ⟨31, 4, [.agg [.vs 2 (Wa T_Place.enc s15.2.2.1.Mine.Places), .sl (n + 4) 0 0 (s15.2.2.1.Mine.Roads).length, .vs 4 (Wa T_Fan.enc s15.2.2.1.Fans), .vs 3 (Wa T_Door.enc s15.2.2.1.Doors)]], 0⟩, ⟨64, 2, [.agg [.vs 1 (Wa (Wb .i64) x3.2.2.2.Pressures), .sl (n + 5) 0 0 (s15.2.2.2).length]], 0⟩, ⟨46, 10, Wa T_Road.enc s15.2.2.1.Mine.Roads, 0⟩, ⟨3, 1, Wa (Wb .i64) x20, 0 + 1⟩]), (low, [⟨31, 4, [.agg [.nils, .nils, .nils, .nils]], 0⟩, ⟨88, 2, [.agg [.vs 1 (Wa (Wb .u8) x18.1.l), .int .i64 x18.1.at_]], 0⟩, ⟨31, 4, [.agg [.vs 2 (Wa T_Place.enc s15.2.2.1.Mine.Places), .sl (n + 4) 0 0 (s15.2.2.1.Mine.Roads).length, .vs 4 (Wa T_Fan.enc s15.2.2.1.Fans), .vs 3 (Wa T_Door.enc s15.2.2.1.Doors)]], 0⟩, ⟨64, 2, [.agg [.vs 1 (Wa (Wb .i64) x3.2.2.2.Pressures), .sl (n + 5) (0 + 1) 0 (x20).length]], 0⟩, ⟨46, 10, Wa T_Road.enc s15.2.2.1.Mine.Roads, 0⟩, ⟨3, 1, Wa (Wb .i64) x20, 0 + 1⟩])] mixed (by kernel_rfl) rfl (lenAll (Vv rfl (Vv rfl (Vv rfl (Vv rfl Yw))))) rfl _ rfl rfl ?_
      refine Vx _ rfl rfl (Vv (VRd.ntl (Vb rfl tf_64_1 ts_32 (by decide))) (Vv (VRd.ntl (Vb rfl tf_64_1 ts_32 (by decide))) Yw)) ?_
      refine Vx _ rfl rfl (Vv (VRd.ntl (Vj rfl (Vg hn rfl) rfl ta_32 rfl)) (Vv (VRd.ntl (Vj rfl (Vg hn rfl) rfl ta_32 rfl)) Yw)) ?_
      refine Yd rfl rfl (Xg rfl) ?_
      refine Ya rfl rfl rfl (Vz (ps := [((n + 1), ⟨88, 2, [.agg [.vs 1 (Wa (Wb .u8) x18.1.l), .int .i64 x18.1.at_]], 0⟩)]) (r := .int .i64 x18.2) (os := []) (low1 := low) (loc1 := [⟨31, 4, [.agg [.nils, .nils, .nils, .nils]], 0⟩, ⟨88, 2, [.agg [.vs 1 (Wa (Wb .u8) x18.1.l), .int .i64 x18.1.at_]], 0⟩, ⟨31, 4, [.agg [.vs 2 (Wa T_Place.enc s15.2.2.1.Mine.Places), .sl (n + 4) 0 0 (s15.2.2.1.Mine.Roads).length, .vs 4 (Wa T_Fan.enc s15.2.2.1.Fans), .vs 3 (Wa T_Door.enc s15.2.2.1.Doors)]], 0⟩, ⟨64, 2, [.agg [.vs 1 (Wa (Wb .i64) x3.2.2.2.Pressures), .sl (n + 5) 0 0 (s15.2.2.2).length]], 0⟩, ⟨46, 10, Wa T_Road.enc s15.2.2.1.Mine.Roads, 0⟩, ⟨3, 1, Wa (Wb .i64) s15.2.2.2, 0⟩]) (loc2 := [⟨31, 4, [.agg [.nils, .nils, .nils, .nils]], 0⟩, ⟨88, 2, [.agg [.vs 1 (Wa (Wb .u8) x18.1.l), .int .i64 x18.1.at_]], 0⟩, ⟨31, 4, [.agg [.vs 2 (Wa T_Place.enc s15.2.2.1.Mine.Places), .sl (n + 4) 0 0 (s15.2.2.1.Mine.Roads).length, .vs 4 (Wa T_Fan.enc s15.2.2.1.Fans), .vs 3 (Wa T_Door.enc s15.2.2.1.Doors)]], 0⟩, ⟨64, 2, [.agg [.vs 1 (Wa (Wb .i64) x3.2.2.2.Pressures), .sl (n + 5) 0 0 (s15.2.2.2).length]], 0⟩, ⟨46, 10, Wa T_Road.enc s15.2.2.1.Mine.Roads, 0⟩, ⟨3, 1, Wa (Wb .i64) s15.2.2.2, 0⟩]) rfl Try.call28 (F_draw_Codes_Range_ok h19 (nd1 na0 nd0) (get_N hn rfl) (Xs hn rfl)) (Zv (loc2 := [⟨31, 4, [.agg [.nils, .nils, .nils, .nils]], 0⟩, ⟨88, 2, [.agg [.vs 1 (Wa (Wb .u8) x18.1.l), .int .i64 x18.1.at_]], 0⟩, ⟨31, 4, [.agg [.vs 2 (Wa T_Place.enc s15.2.2.1.Mine.Places), .sl (n + 4) 0 0 (s15.2.2.1.Mine.Roads).length, .vs 4 (Wa T_Fan.enc s15.2.2.1.Fans), .vs 3 (Wa T_Door.enc s15.2.2.1.Doors)]], 0⟩, ⟨64, 2, [.agg [.vs 1 (Wa (Wb .i64) x3.2.2.2.Pressures), .sl (n + 5) 0 0 (s15.2.2.2).length]], 0⟩, ⟨46, 10, Wa T_Road.enc s15.2.2.1.Mine.Roads, 0⟩, ⟨3, 1, Wa (Wb .i64) s15.2.2.2, 0⟩]) hn 1 rfl Xf) rfl) ?_
      refine dn1 rfl rfl (nt_of (Yt (es := Wa (Wb .i64) [x18.2]) ⟨rfl, rfl, trivial⟩ rfl rfl (Zm rfl) te_32 ts_3 tz_3 rfl rfl (Wf _) (by decide) (Ym (fun _ => .int _ _)))) ?_
      refine Ya rfl rfl rfl (Zw (f := (Wb .i64)) (l := s15.2.2.2) (ys := [x18.2]) rfl rfl (Vg hn rfl) rfl (src_vs rfl) te_32 ts_3 tb_3 (by decide) tz_3 rfl h21 (Xn hn rfl)) ?_
      refine Yd rfl rfl (Vb rfl tf_64_1 ts_32 (by decide)) ?_
      refine Ya rfl rfl rfl (Vw (p := .sl (n + 5) (0 + 1) 0 (x20).length) (e' := .agg [.vs 1 (Wa (Wb .i64) x3.2.2.2.Pressures), .sl (n + 5) (0 + 1) 0 (x20).length]) rfl (Vg hn rfl) rfl rfl ts_32 rfl (Yg rfl) rfl (We rfl) rfl (Xn hn rfl)) ?_
      refine Yx ?_
      refine Vd ?_
      refine Va (Zf rfl rfl rfl) rfl ?_
      refine Va (Vk rfl) rfl ?_
      refine Ve ?_
      obtain rfl := Wd hF
      refine Xk ?_
      exact Vm hn [(0, 0), (1, 0), (2, 0), (3, 0), (4, 0), (5, 0 + 1)] (by decide) ⟨Vt 0 0 rfl rfl, Vt 1 1 rfl rfl, Vt 2 2 rfl rfl, Vt 3 3 rfl rfl, Vh rfl (.int _ _), Vh rfl (.int _ _), trivial⟩ ⟨⟨_, rfl, rfl, .same _ _ _ _ (Vn ⟨Vo ⟨.nils, .nils, .nils, .nils, trivial⟩, trivial⟩)⟩, ⟨_, rfl, rfl, .same _ _ _ _ (Vn ⟨Vo ⟨.vs _ _, .int _ _, trivial⟩, trivial⟩)⟩, ⟨_, rfl, rfl, .agg _ _ _ _ _ ⟨Vh rfl (.vs _ _), Yc 4 4 rfl rfl, Vh rfl (.vs _ _), Vh rfl (.vs _ _), trivial⟩⟩, ⟨_, rfl, rfl, .agg _ _ _ _ _ ⟨Vh rfl (.vs _ _), Yc 5 5 rfl rfl, trivial⟩⟩, ⟨_, rfl, rfl, .same _ _ _ _ (Vq T_Road.enc_lt)⟩, ⟨_, rfl, rfl, .same _ _ _ _ (Vq (fun _ => .int _ _))⟩, trivial⟩
     ·have hF := Yr c17 hF
      refine Zd ?_
      obtain rfl := Wd hF
      refine Xk ?_
      exact Vp ⟨rfl, rfl, rfl, rfl, trivial⟩
    ·rintro _ _ _ _ ⟨rfl, hw⟩
     refine ⟨_, _, _, hw, ?_⟩
     obtain rfl := Wd hF
     refine Xk ?_
     refine Weak.trans (Yv (E' := [(2, .ptr (n + 0) 0 0 0), (5, .ptr (n + 1) 0 0 0), (6, .ptr (n + 2) 0 0 0), (8, .ptr (n + 3) 0 0 0)]) (loc1 := [⟨31, 4, [.agg [.nils, .nils, .nils, .nils]], 0⟩, ⟨88, 2, [.agg [.vs 1 (Wa (Wb .u8) o16.1.l), .int .i64 o16.1.at_]], 0⟩, ⟨31, 4, [.agg [.vs 2 (Wa T_Place.enc o16.2.1.Mine.Places), .vs 10 (Wa T_Road.enc o16.2.1.Mine.Roads), .vs 4 (Wa T_Fan.enc o16.2.1.Fans), .vs 3 (Wa T_Door.enc o16.2.1.Doors)]], 0⟩, ⟨64, 2, [.agg [.vs 1 (Wa (Wb .i64) x3.2.2.2.Pressures), .sl (n + 5) 0 0 (o16.2.2).length]], 0⟩, ⟨46, 10, [], 0 + 1⟩, ⟨3, 1, Wa (Wb .i64) o16.2.2, 0⟩]) hn 4 rfl (Ym T_Road.enc_lt) ⟨Vu rfl, Vu rfl, Vu rfl, Vu rfl, trivial⟩ ⟨.refl _, .refl _, cvo_agg ⟨Vu rfl, cv_sl rfl rfl rfl (Zj rfl), Vu rfl, Vu rfl, trivial⟩, .refl _, .refl _, .refl _, trivial⟩) ?_
     refine Weak.trans (Yv (E' := [(2, .ptr (n + 0) 0 0 0), (5, .ptr (n + 1) 0 0 0), (6, .ptr (n + 2) 0 0 0), (8, .ptr (n + 3) 0 0 0)]) (loc1 := [⟨31, 4, [.agg [.nils, .nils, .nils, .nils]], 0⟩, ⟨88, 2, [.agg [.vs 1 (Wa (Wb .u8) o16.1.l), .int .i64 o16.1.at_]], 0⟩, ⟨31, 4, [.agg [.vs 2 (Wa T_Place.enc o16.2.1.Mine.Places), .vs 10 (Wa T_Road.enc o16.2.1.Mine.Roads), .vs 4 (Wa T_Fan.enc o16.2.1.Fans), .vs 3 (Wa T_Door.enc o16.2.1.Doors)]], 0⟩, ⟨64, 2, [.agg [.vs 1 (Wa (Wb .i64) x3.2.2.2.Pressures), .vs 1 (Wa (Wb .i64) o16.2.2)]], 0⟩, ⟨46, 10, [], 0 + 1⟩, ⟨3, 1, [], 0 + 1⟩]) hn 5 rfl (Ym (fun _ => .int _ _)) ⟨Vu rfl, Vu rfl, Vu rfl, Vu rfl, trivial⟩ ⟨.refl _, .refl _, .refl _, cvo_agg ⟨Vu rfl, cv_sl rfl rfl rfl (Zj rfl), trivial⟩, .refl _, .refl _, trivial⟩) ?_
     exact Vm hn [(0, 0), (1, 0), (2, 0), (3, 0)] (by decide) ⟨Vt 0 0 rfl rfl, Vt 1 1 rfl rfl, Vt 2 2 rfl rfl, Vt 3 3 rfl rfl, trivial⟩ ⟨⟨_, rfl, rfl, .same _ _ _ _ (Vn ⟨Vo ⟨.nils, .nils, .nils, .nils, trivial⟩, trivial⟩)⟩, ⟨_, rfl, rfl, .same _ _ _ _ (Vn ⟨Vo ⟨.vs _ _, .int _ _, trivial⟩, trivial⟩)⟩, ⟨_, rfl, rfl, .agg _ _ _ _ _ ⟨Vh rfl (.vs _ _), Vh rfl (.vs _ _), Vh rfl (.vs _ _), Vh rfl (.vs _ _), trivial⟩⟩, ⟨_, rfl, rfl, .agg _ _ _ _ _ ⟨Vh rfl (.vs _ _), Vh rfl (.vs _ _), trivial⟩⟩, trivial⟩
   ·have hF := Yr c8 hF
    refine Xj ?_
    obtain rfl := Wd hF
    refine Xk ?_
    exact Vm hn [(0, 0), (1, 0), (2, 0), (4, 0)] (by decide) ⟨Vt 0 0 rfl rfl, Vt 1 1 rfl rfl, Vt 2 2 rfl rfl, Vt 3 4 rfl rfl, trivial⟩ ⟨⟨_, rfl, rfl, .same _ _ _ _ (Vn ⟨Vo ⟨.nils, .nils, .nils, .nils, trivial⟩, trivial⟩)⟩, ⟨_, rfl, rfl, .same _ _ _ _ (Vn ⟨Vo ⟨.vs _ _, .int _ _, trivial⟩, trivial⟩)⟩, ⟨_, rfl, rfl, .agg _ _ _ _ _ ⟨Vh rfl (.vs _ _), Vh rfl (.vs _ _), Vh rfl (.vs _ _), Vh rfl (.vs _ _), trivial⟩⟩, ⟨_, rfl, rfl, .agg _ _ _ _ _ ⟨Vh rfl (.vs _ _), Vh rfl (.vs _ _), trivial⟩⟩, trivial⟩
  ·rintro _ _ _ _ ⟨rfl, hw⟩
   refine ⟨_, _, _, hw, ?_⟩
   refine Vf ?_
   obtain ⟨x22, h23, hF⟩ := Yf hF
   refine Zn [[], [], [], [2], [1, 2, 3], [], [5], [0, 1, 2, 3, 4], [0, 1, 2, 3, 4, 7], [0, 1, 2, 3, 4, 5, 6, 7, 8]] [false, false, false, false, true, false, false, true, false, false] [(low, [⟨31, 4, [.agg [.nils, .nils, .nils, .nils]], 0⟩, ⟨88, 2, [.agg [.vs 1 (Wa (Wb .u8) o7.1.l), .int .i64 o7.1.at_]], 0⟩, ⟨31, 4, [.agg [.vs 2 (Wa T_Place.enc o7.2.1.Mine.Places), .vs 10 (Wa T_Road.enc o7.2.1.Mine.Roads), .vs 4 (Wa T_Fan.enc o7.2.1.Fans), .vs 3 (Wa T_Door.enc o7.2.1.Doors)]], 0⟩, ⟨64, 2, [.agg [.vs 1 (Wa (Wb .i64) x3.2.2.2.Pressures), .vs 1 (Wa (Wb .i64) o7.2.2)]], 0⟩]), (low, [⟨31, 4, [.agg [.nils, .nils, .nils, .nils]], 0⟩, ⟨88, 2, [.agg [.vs 1 (Wa (Wb .u8) x22.1.l), .int .i64 x22.1.at_]], 0⟩, ⟨31, 4, [.agg [.vs 2 (Wa T_Place.enc o7.2.1.Mine.Places), .vs 10 (Wa T_Road.enc o7.2.1.Mine.Roads), .vs 4 (Wa T_Fan.enc o7.2.1.Fans), .vs 3 (Wa T_Door.enc o7.2.1.Doors)]], 0⟩, ⟨64, 2, [.agg [.vs 1 (Wa (Wb .i64) x3.2.2.2.Pressures), .vs 1 (Wa (Wb .i64) o7.2.2)]], 0⟩]), (low, [⟨31, 4, [.agg [.vs 2 (Wa T_Place.enc o7.2.1.Mine.Places), .vs 10 (Wa T_Road.enc o7.2.1.Mine.Roads), .vs 4 (Wa T_Fan.enc o7.2.1.Fans), .vs 3 (Wa T_Door.enc o7.2.1.Doors)]], 0⟩, ⟨88, 2, [.agg [.vs 1 (Wa (Wb .u8) x22.1.l), .int .i64 x22.1.at_]], 0⟩, ⟨31, 4, [.agg [.vs 2 (Wa T_Place.enc o7.2.1.Mine.Places), .vs 10 (Wa T_Road.enc o7.2.1.Mine.Roads), .vs 4 (Wa T_Fan.enc o7.2.1.Fans), .vs 3 (Wa T_Door.enc o7.2.1.Doors)]], 0⟩, ⟨64, 2, [.agg [.vs 1 (Wa (Wb .i64) x3.2.2.2.Pressures), .vs 1 (Wa (Wb .i64) o7.2.2)]], 0⟩])] mixed (by kernel_rfl) rfl (lenAll (Vv rfl (Vv rfl (Vv rfl Yw)))) rfl _ rfl rfl ?_
   refine Vx _ rfl rfl (Vv (VRd.ntl (Xa (ds := [.vs 2 (Wa T_Place.enc o7.2.1.Mine.Places), .vs 10 (Wa T_Road.enc o7.2.1.Mine.Roads), .vs 4 (Wa T_Fan.enc o7.2.1.Fans), .vs 3 (Wa T_Door.enc o7.2.1.Doors)]) rfl (Vg hn rfl) rfl ta_31 ts_31 rfl rfl rfl)) (Vv (VRd.ntl (Xa (ds := [.vs 2 (Wa T_Place.enc o7.2.1.Mine.Places), .vs 10 (Wa T_Road.enc o7.2.1.Mine.Roads), .vs 4 (Wa T_Fan.enc o7.2.1.Fans), .vs 3 (Wa T_Door.enc o7.2.1.Doors)]) rfl (Vg hn rfl) rfl ta_31 ts_31 rfl rfl rfl)) Yw)) ?_
   refine Yd rfl rfl (Xg rfl) ?_
   refine Yd rfl rfl (Vb rfl tf_64_1 ts_32 (by decide)) ?_
   refine Yd rfl rfl (Vj rfl (Vg hn rfl) rfl ta_32 rfl) ?_
   refine Ya rfl rfl rfl (Vz (ps := [((n + 1), ⟨88, 2, [.agg [.vs 1 (Wa (Wb .u8) x22.1.l), .int .i64 x22.1.at_]], 0⟩)]) (r := .vs 2 (Wa T_Span.enc x22.2)) (os := []) (low1 := low) (loc1 := [⟨31, 4, [.agg [.nils, .nils, .nils, .nils]], 0⟩, ⟨88, 2, [.agg [.vs 1 (Wa (Wb .u8) x22.1.l), .int .i64 x22.1.at_]], 0⟩, ⟨31, 4, [.agg [.vs 2 (Wa T_Place.enc o7.2.1.Mine.Places), .vs 10 (Wa T_Road.enc o7.2.1.Mine.Roads), .vs 4 (Wa T_Fan.enc o7.2.1.Fans), .vs 3 (Wa T_Door.enc o7.2.1.Doors)]], 0⟩, ⟨64, 2, [.agg [.vs 1 (Wa (Wb .i64) x3.2.2.2.Pressures), .vs 1 (Wa (Wb .i64) o7.2.2)]], 0⟩]) (loc2 := [⟨31, 4, [.agg [.nils, .nils, .nils, .nils]], 0⟩, ⟨88, 2, [.agg [.vs 1 (Wa (Wb .u8) x22.1.l), .int .i64 x22.1.at_]], 0⟩, ⟨31, 4, [.agg [.vs 2 (Wa T_Place.enc o7.2.1.Mine.Places), .vs 10 (Wa T_Road.enc o7.2.1.Mine.Roads), .vs 4 (Wa T_Fan.enc o7.2.1.Fans), .vs 3 (Wa T_Door.enc o7.2.1.Doors)]], 0⟩, ⟨64, 2, [.agg [.vs 1 (Wa (Wb .i64) x3.2.2.2.Pressures), .vs 1 (Wa (Wb .i64) o7.2.2)]], 0⟩]) rfl Try.call29 (F_draw_Codes_Spans_ok h23 (nd1 na0 nd0) (get_N hn rfl) (Xs hn rfl)) (Zv (loc2 := [⟨31, 4, [.agg [.nils, .nils, .nils, .nils]], 0⟩, ⟨88, 2, [.agg [.vs 1 (Wa (Wb .u8) x22.1.l), .int .i64 x22.1.at_]], 0⟩, ⟨31, 4, [.agg [.vs 2 (Wa T_Place.enc o7.2.1.Mine.Places), .vs 10 (Wa T_Road.enc o7.2.1.Mine.Roads), .vs 4 (Wa T_Fan.enc o7.2.1.Fans), .vs 3 (Wa T_Door.enc o7.2.1.Doors)]], 0⟩, ⟨64, 2, [.agg [.vs 1 (Wa (Wb .i64) x3.2.2.2.Pressures), .vs 1 (Wa (Wb .i64) o7.2.2)]], 0⟩]) hn 1 rfl Xf) rfl) ?_
   refine Vx _ rfl rfl (Vv (VRd.ntl (Vb rfl tf_64_1 ts_32 (by decide))) (Vv (VRd.ntl (Vb rfl tf_64_1 ts_32 (by decide))) (Vv (VRd.ntl (Vb rfl tf_64_1 ts_32 (by decide))) Yw))) ?_
   refine Vx _ rfl rfl (Vv (VRd.ntl (Vj rfl (Vg hn rfl) rfl ta_32 rfl)) (Vv (VRd.ntl (Vj rfl (Vg hn rfl) rfl ta_32 rfl)) (Vv (VRd.ntl (Vj rfl (Vg hn rfl) rfl ta_32 rfl)) Yw))) ?_
   refine Ya rfl rfl rfl (Vw (p := .agg [.vs 2 (Wa T_Place.enc o7.2.1.Mine.Places), .vs 10 (Wa T_Road.enc o7.2.1.Mine.Roads), .vs 4 (Wa T_Fan.enc o7.2.1.Fans), .vs 3 (Wa T_Door.enc o7.2.1.Doors)]) (e' := .agg [.vs 2 (Wa T_Place.enc o7.2.1.Mine.Places), .vs 10 (Wa T_Road.enc o7.2.1.Mine.Roads), .vs 4 (Wa T_Fan.enc o7.2.1.Fans), .vs 3 (Wa T_Door.enc o7.2.1.Doors)]) rfl (Vg hn rfl) rfl rfl ts_31 rfl (Yg rfl) rfl (We rfl) rfl (Xn hn rfl)) ?_
   refine Yd rfl rfl (rd_asV rfl) ?_
   refine Yd rfl rfl (rd_asV rfl) ?_
   refine Yx ?_
   refine Yb ?_
   obtain rfl := Wd hF
   refine fnR ?_
   exact Vm hn [(0, 0)] (by decide) ⟨Vt 0 0 rfl rfl, Vh rfl (.vs _ _), Vh rfl (.vs _ _), trivial⟩ ⟨⟨_, rfl, rfl, .same _ _ _ _ (Vn ⟨Vo ⟨.vs _ _, .vs _ _, .vs _ _, .vs _ _, trivial⟩, trivial⟩)⟩, trivial⟩
 ·rintro _ _ _ _ ⟨he, hw⟩
  refine ⟨_, _, _, hw, ?_⟩
  exact bodyQ_some hn 0 rfl (We rfl) he [.agg [.vs 2 (Wa T_Place.enc r.1.Mine.Places), .vs 10 (Wa T_Road.enc r.1.Mine.Roads), .vs 4 (Wa T_Fan.enc r.1.Fans), .vs 3 (Wa T_Door.enc r.1.Doors)], .vs 2 (Wa T_Span.enc r.2.1), .vs 1 (Wa (Wb .i64) r.2.2)] ⟨Xa rfl (Vg hn rfl) rfl ta_31 ts_31 rfl rfl rfl, rfl, rfl, trivial⟩ ((lt_tup ⟨(Vo ⟨.vs _ _, .vs _ _, .vs _ _, .vs _ _, trivial⟩), .vs _ _, .vs _ _, trivial⟩)) trivial ⟨rfl, rfl⟩

theorem F_plan_spanIn_ok {p0 : T_Span} {p1 : Int} {p2 : Int} {r : Bool} (hF : F_plan_spanIn p0 p1 p2 = some r) (low : List AObj) :
    Zh Try.prog 50 [.agg [.int .i64 p0.Low, .int .i64 p0.High], .int .i64 p1, .int .i64 p2] low fun x low' => x = .bool r ∧ low' = low := by
 refine Xr (nt := 24) (rs := [.tmp 6]) Try.func50 rfl rfl (We rfl) rfl ?_
 refine Vs (Q' := FnE (fun E' lw lc => Xz E' lw lc [(6, .bool r)] low [])) ?_ ?_
 ·unfold F_plan_spanIn at hF
  refine Vf ?_
  refine Vd ?_
  refine Vi (Zx rfl rfl (v := .agg [.int .i64 p0.Low, .int .i64 p0.High]) rfl rfl (Wf _) rfl rfl) rfl ?_
  refine Va (Zi rfl) rfl ?_
  refine Ve ?_
  refine Vf ?_
  refine Vd ?_
  rcases Wg (decide (p1 ≤ p0.Low)) with c1 | c1
  ·have hF := Yq c1 hF
   rcases Wg (decide (p0.Low ≤ p0.High)) with c2 | c2
   ·have hF := Yq c2 hF
    refine Va (Vk rfl) rfl ?_
    refine Va (Vb rfl tf_44_0 ts_3 (by decide)) rfl ?_
    refine Va (Vj rfl (Vg rfl rfl) rfl ta_3 rfl) rfl ?_
    refine Va (rd_leq rfl rfl) rfl ?_
    refine Va (Vr rfl) rfl ?_
    refine Xd rfl rfl c1 ?_
    refine Va (Vb rfl tf_44_0 ts_3 (by decide)) rfl ?_
    refine Xd rfl rfl c1 ?_
    refine Va (Vj rfl (Vg rfl rfl) rfl ta_3 rfl) rfl ?_
    refine Xd rfl rfl c1 ?_
    refine Va (Vb rfl tf_44_1 ts_3 (by decide)) rfl ?_
    refine Xd rfl rfl c1 ?_
    refine Va (Vj rfl (Vg rfl rfl) rfl ta_3 rfl) rfl ?_
    refine Xd rfl rfl c1 ?_
    refine Va (rd_leq rfl rfl) rfl ?_
    refine Va (Xc (congrArg Wc c1) rfl) rfl ?_
    refine Va (Vr rfl) rfl ?_
    refine Xd rfl rfl c2 ?_
    refine Va (Vb rfl tf_44_1 ts_3 (by decide)) rfl ?_
    refine Xd rfl rfl c2 ?_
    refine Va (Vj rfl (Vg rfl rfl) rfl ta_3 rfl) rfl ?_
    refine Xd rfl rfl c2 ?_
    refine Va (Vk rfl) rfl ?_
    refine Xd rfl rfl c2 ?_
    refine Va (rd_leq rfl rfl) rfl ?_
    refine Va (Xc (congrArg Wc c2) rfl) rfl ?_
    refine Va (Zi rfl) rfl ?_
    refine Ve ?_
    refine Yb ?_
    obtain rfl := Wd hF
    refine fnR ?_
    exact Vm rfl [] (by decide) ⟨Vh rfl (.bool _), trivial⟩ trivial
   ·have hF := Yr c2 hF
    refine Va (Vk rfl) rfl ?_
    refine Va (Vb rfl tf_44_0 ts_3 (by decide)) rfl ?_
    refine Va (Vj rfl (Vg rfl rfl) rfl ta_3 rfl) rfl ?_
    refine Va (rd_leq rfl rfl) rfl ?_
    refine Va (Vr rfl) rfl ?_
    refine Xd rfl rfl c1 ?_
    refine Va (Vb rfl tf_44_0 ts_3 (by decide)) rfl ?_
    refine Xd rfl rfl c1 ?_
    refine Va (Vj rfl (Vg rfl rfl) rfl ta_3 rfl) rfl ?_
    refine Xd rfl rfl c1 ?_
    refine Va (Vb rfl tf_44_1 ts_3 (by decide)) rfl ?_
    refine Xd rfl rfl c1 ?_
    refine Va (Vj rfl (Vg rfl rfl) rfl ta_3 rfl) rfl ?_
    refine Xd rfl rfl c1 ?_
    refine Va (rd_leq rfl rfl) rfl ?_
    refine Va (Xc (congrArg Wc c1) rfl) rfl ?_
    refine Va (Vr rfl) rfl ?_
    refine Vc rfl rfl (Ze c2) rfl ?_
    refine Vc rfl rfl (Ze c2) rfl ?_
    refine Vc rfl rfl (Ze c2) rfl ?_
    refine Vc rfl rfl (Ze c2) rfl ?_
    refine Va (Vy (congrArg Wc c2) rfl) rfl ?_
    refine Va (Zi rfl) rfl ?_
    refine Ve ?_
    refine Yb ?_
    obtain rfl := Wd hF
    refine fnR ?_
    exact Vm rfl [] (by decide) ⟨Vh rfl (.bool _), trivial⟩ trivial
  ·have hF := Yr c1 hF
   refine Va (Vk rfl) rfl ?_
   refine Va (Vb rfl tf_44_0 ts_3 (by decide)) rfl ?_
   refine Va (Vj rfl (Vg rfl rfl) rfl ta_3 rfl) rfl ?_
   refine Va (rd_leq rfl rfl) rfl ?_
   refine Va (Vr rfl) rfl ?_
   refine Vc rfl rfl (Ze c1) rfl ?_
   refine Vc rfl rfl (Ze c1) rfl ?_
   refine Vc rfl rfl (Ze c1) rfl ?_
   refine Vc rfl rfl (Ze c1) rfl ?_
   refine Vc rfl rfl (Ze c1) rfl ?_
   refine Va (Vy (congrArg Wc c1) rfl) rfl ?_
   refine Va (Vr rfl) rfl ?_
   refine Vc rfl rfl (by decide) rfl ?_
   refine Vc rfl rfl (by decide) rfl ?_
   refine Vc rfl rfl (by decide) rfl ?_
   refine Vc rfl rfl (by decide) rfl ?_
   refine Va (Vy rfl rfl) rfl ?_
   refine Va (Zi rfl) rfl ?_
   refine Ve ?_
   refine Yb ?_
   obtain rfl := Wd hF
   refine fnR ?_
   exact Vm rfl [] (by decide) ⟨Vh rfl (.bool _), trivial⟩ trivial
 ·rintro _ _ _ _ ⟨he, hw⟩
  refine ⟨_, _, _, hw, ?_⟩
  exact Zc he [.bool r] ⟨rfl, trivial⟩ (.bool _) ⟨rfl, rfl⟩

theorem F_plan_Check_ok {p0 : T_Mine} {r : Int} (hF : F_plan_Check p0 = some r) (low : List AObj) :
    Zh Try.prog 47 [.agg [.vs 2 (Wa T_Place.enc p0.Places), .vs 10 (Wa T_Road.enc p0.Roads)]] low fun x low' => x = .int .i64 r ∧ low' = low := by
 refine Xr (nt := 100) (rs := [.tmp 2]) Try.func47 rfl rfl (We rfl) rfl ?_
 refine Vs (Q' := FnE (fun E' lw lc => Xz E' lw lc [(2, .int .i64 r)] low [])) ?_ ?_
 ·unfold F_plan_Check at hF
  refine Vf ?_
  refine Vd ?_
  refine Vi (Zx rfl rfl (v := .agg [.vs 2 (Wa T_Place.enc p0.Places), .vs 10 (Wa T_Road.enc p0.Roads)]) rfl rfl (Wf _) rfl rfl) rfl ?_
  refine Va (Xv rfl) rfl ?_
  refine Ve ?_
  refine Vf ?_
  refine Vf ?_
  obtain ⟨o1, ho1, hF⟩ := Yf hF
  refine Vs (Q' := (fun o1 => OnlyE .normal (fun E' lw lc => Xz E' lw lc [(1, .ptr (low.length + 0) 0 0 0), (17, .bool o1)] low [⟨27, 2, [.agg [.vs 2 (Wa T_Place.enc p0.Places), .vs 10 (Wa T_Road.enc p0.Roads)]], 0⟩])) o1) ?_ ?_
  ·replace hF := ho1
   refine Vd ?_
   rcases Wg (decide (64 < ((p0.Places).length : Int))) with c2 | c2
   ·have hF := Yq c2 hF
    refine Va (Vb rfl tf_27_0 ts_24 (by decide)) rfl ?_
    refine Va (Vj rfl (Vg rfl rfl) rfl ta_24 rfl) rfl ?_
    refine Va (Xo (Yu rfl rfl te_24) (congrArg (fun n : Nat => Wb .i64 (n : Int)) (Wh _))) rfl ?_
    refine Va (Zq rfl rfl) rfl ?_
    refine Va (Vr rfl) rfl ?_
    refine Vc rfl rfl (neT c2) rfl ?_
    refine Vc rfl rfl (neT c2) rfl ?_
    refine Vc rfl rfl (neT c2) rfl ?_
    refine Vc rfl rfl (neT c2) rfl ?_
    refine Va (Xc (congrArg Wc c2) rfl) rfl ?_
    refine Ve ?_
    obtain rfl := Wd hF
    refine Xk ?_
    exact Vp ⟨rfl, rfl, trivial⟩
   ·have hF := Yr c2 hF
    refine Va (Vb rfl tf_27_0 ts_24 (by decide)) rfl ?_
    refine Va (Vj rfl (Vg rfl rfl) rfl ta_24 rfl) rfl ?_
    refine Va (Xo (Yu rfl rfl te_24) (congrArg (fun n : Nat => Wb .i64 (n : Int)) (Wh _))) rfl ?_
    refine Va (Zq rfl rfl) rfl ?_
    refine Va (Vr rfl) rfl ?_
    refine Xd rfl rfl c2 ?_
    refine Va (Vb rfl tf_27_1 ts_25 (by decide)) rfl ?_
    refine Xd rfl rfl c2 ?_
    refine Va (Vj rfl (Vg rfl rfl) rfl ta_25 rfl) rfl ?_
    refine Xd rfl rfl c2 ?_
    refine Va (Xo (Yu rfl rfl te_25) (congrArg (fun n : Nat => Wb .i64 (n : Int)) (Wh _))) rfl ?_
    refine Xd rfl rfl c2 ?_
    refine Va (Zq rfl rfl) rfl ?_
    refine Va (Vy (congrArg Wc c2) rfl) rfl ?_
    refine Ve ?_
    obtain rfl := Wd hF
    refine Xk ?_
    exact Vp ⟨rfl, rfl, trivial⟩
  ·rintro _ _ _ _ ⟨rfl, hw⟩
   refine ⟨_, _, _, hw, ?_⟩
   refine Xi rfl (fun c3 => ?_) (fun c3 => ?_)
   ·have hF := Yq c3 hF
    refine Vf ?_
    refine Vd ?_
    refine Va (Xv rfl) rfl ?_
    refine Ve ?_
    refine Yb ?_
    obtain rfl := Wd hF
    refine fnR ?_
    exact Vm rfl [] (by decide) ⟨Vh rfl (.int _ _), trivial⟩ trivial
   ·have hF := Yr c3 hF
    refine Xj ?_
    refine Vf ?_
    refine Vf ?_
    refine Vd ?_
    refine Va (Vb rfl tf_27_0 ts_24 (by decide)) rfl ?_
    refine Va (Vj rfl (Vg rfl rfl) rfl ta_24 rfl) rfl ?_
    refine Va (Xo (Yu rfl rfl te_24) (congrArg (fun n : Nat => Wb .i64 (n : Int)) (Wh _))) rfl ?_
    refine Va (Vk rfl) rfl ?_
    refine Ve ?_
    refine Xh ?_
    obtain ⟨o5, ho5, hF⟩ := Yf hF
    refine Vs (Yy (F_plan_Check_L1 p0) (fun s4 E' lw lc => Xz E' lw lc [(1, .ptr (low.length + 0) 0 0 0), (19, .vs 2 (Wa T_Place.enc p0.Places)), (20, .int .i64 ((p0.Places).length : Int)), (21, .int .i64 s4)] low [⟨27, 2, [.agg [.vs 2 (Wa T_Place.enc p0.Places), .vs 10 (Wa T_Road.enc p0.Roads)]], 0⟩]) (Sum.elim (fun j6 => OnlyE .ret (fun E' lw lc => Xz E' lw lc [(2, .int .i64 1)] low [])) (fun j7 => OnlyE (.exit 0) (fun E' lw lc => Xz E' lw lc [(1, .ptr (low.length + 0) 0 0 0)] low [⟨27, 2, [.agg [.vs 2 (Wa T_Place.enc p0.Places), .vs 10 (Wa T_Road.enc p0.Roads)]], 0⟩]))) ho5 ?_ (by rintro (_|_) _ _ _ ⟨h, _⟩ <;> cases h) ?_) ?_
    ·exact Vp ⟨rfl, rfl, rfl, rfl, trivial⟩
    ·rintro s4 os4 _ _ _ hF hw
     unfold F_plan_Check_L1 at hF
     refine Yl hw ?_
     refine Vf ?_
     refine Vd ?_
     refine Va (Yz rfl rfl) rfl ?_
     refine Ve ?_
     refine Vf ?_
     refine Xi rfl (fun c8 => ?_) (fun c8 => ?_)
     ·have hF := Yq c8 hF
      refine Xj ?_
      refine Vf ?_
      refine Xh ?_
      refine Vf ?_
      refine Vd ?_
      obtain ⟨x9, h10, hF⟩ := Yf hF
      refine Va (Xo (Xu rfl rfl h10 te_24 ts_48) (v' := .vptr [.int .i64 x9.Height, .bool x9.Surface] 0) rfl) rfl ?_
      refine Va (Zo (ds := [.int .i64 x9.Height, .bool x9.Surface]) rfl ta_48 ts_48 rfl rfl) rfl ?_
      refine Vi (Xm rfl rfl tz_48 rfl rfl (Wf _) rfl) rfl ?_
      refine Vi (Vw (p := .agg [.int .i64 x9.Height, .bool x9.Surface]) (e' := .agg [.int .i64 x9.Height, .bool x9.Surface]) rfl (Vg rfl rfl) rfl rfl ts_48 rfl (Yg rfl) rfl (We rfl) rfl (Xn rfl rfl)) rfl ?_
      refine Ve ?_
      refine Vf ?_
      obtain ⟨o11, ho11, hF⟩ := Yf hF
      refine Vs (Q' := (fun o11 => OnlyE .normal (fun E' lw lc => Xz E' lw lc [(1, .ptr (low.length + 0) 0 0 0), (19, .vs 2 (Wa T_Place.enc p0.Places)), (20, .int .i64 ((p0.Places).length : Int)), (21, .int .i64 s4), (32, .bool o11)] low [⟨27, 2, [.agg [.vs 2 (Wa T_Place.enc p0.Places), .vs 10 (Wa T_Road.enc p0.Roads)]], 0⟩])) o11) ?_ ?_
      ·replace hF := ho11
       refine Vd ?_
       rcases Wg (decide (x9.Height < (-10000))) with c12 | c12
       ·have hF := Yq c12 hF
        refine Va (Vb rfl tf_48_0 ts_3 (by decide)) rfl ?_
        refine Va (Vj rfl (Vg rfl rfl) rfl ta_3 rfl) rfl ?_
        refine Va (Yz rfl rfl) rfl ?_
        refine Va (Vr rfl) rfl ?_
        refine Vc rfl rfl (neT c12) rfl ?_
        refine Vc rfl rfl (neT c12) rfl ?_
        refine Vc rfl rfl (neT c12) rfl ?_
        refine Va (Xc (congrArg Wc c12) rfl) rfl ?_
        refine Ve ?_
        obtain rfl := Wd hF
        refine Xk ?_
        exact Vm rfl [(0, 0)] (by decide) ⟨Vt 0 0 rfl rfl, Vh rfl (.vs _ _), Vh rfl (.int _ _), Vh rfl (.int _ _), Vh rfl (.bool _), trivial⟩ ⟨⟨_, rfl, rfl, .same _ _ _ _ (Vn ⟨Vo ⟨.vs _ _, .vs _ _, trivial⟩, trivial⟩)⟩, trivial⟩
       ·have hF := Yr c12 hF
        refine Va (Vb rfl tf_48_0 ts_3 (by decide)) rfl ?_
        refine Va (Vj rfl (Vg rfl rfl) rfl ta_3 rfl) rfl ?_
        refine Va (Yz rfl rfl) rfl ?_
        refine Va (Vr rfl) rfl ?_
        refine Xd rfl rfl c12 ?_
        refine Va (Vb rfl tf_48_0 ts_3 (by decide)) rfl ?_
        refine Xd rfl rfl c12 ?_
        refine Va (Vj rfl (Vg rfl rfl) rfl ta_3 rfl) rfl ?_
        refine Xd rfl rfl c12 ?_
        refine Va (Zq rfl rfl) rfl ?_
        refine Va (Vy (congrArg Wc c12) rfl) rfl ?_
        refine Ve ?_
        obtain rfl := Wd hF
        refine Xk ?_
        exact Vm rfl [(0, 0)] (by decide) ⟨Vt 0 0 rfl rfl, Vh rfl (.vs _ _), Vh rfl (.int _ _), Vh rfl (.int _ _), Vh rfl (.bool _), trivial⟩ ⟨⟨_, rfl, rfl, .same _ _ _ _ (Vn ⟨Vo ⟨.vs _ _, .vs _ _, trivial⟩, trivial⟩)⟩, trivial⟩
      ·rintro _ _ _ _ ⟨rfl, hw⟩
       refine ⟨_, _, _, hw, ?_⟩
       refine Xi rfl (fun c13 => ?_) (fun c13 => ?_)
       ·have hF := Yq c13 hF
        refine Vf ?_
        refine Vd ?_
        refine Va (Xv rfl) rfl ?_
        refine Ve ?_
        refine Yb ?_
        obtain rfl := Wd hF
        refine Xk ?_
        exact Vm rfl [] (by decide) ⟨Vh rfl (.int _ _), trivial⟩ trivial
       ·have hF := Yr c13 hF
        refine Xj ?_
        refine Vd ?_
        refine Va (Zf rfl rfl rfl) rfl ?_
        refine Va (Vk rfl) rfl ?_
        refine Ve ?_
        obtain rfl := Wd hF
        refine Xk ?_
        exact Vp ⟨rfl, rfl, rfl, rfl, trivial⟩
     ·have hF := Yr c8 hF
      refine Zd ?_
      obtain rfl := Wd hF
      refine Xk ?_
      exact Vp ⟨rfl, trivial⟩
    ·rcases o5 with j6 | j7
     ·replace hF := elimL hF
      rintro _ _ _ _ ⟨rfl, hw⟩
      refine ⟨_, _, _, hw, ?_⟩
      obtain rfl := Wd hF
      refine fnR ?_
      exact Vp ⟨rfl, trivial⟩
     ·replace hF := elimR hF
      rintro _ _ _ _ ⟨rfl, hw⟩
      refine ⟨_, _, _, hw, ?_⟩
      refine Vf ?_
      refine Vd ?_
      refine Va (Vb rfl tf_27_0 ts_24 (by decide)) rfl ?_
      refine Va (Vj rfl (Vg rfl rfl) rfl ta_24 rfl) rfl ?_
      refine Va (Xo (Yu rfl rfl te_24) (congrArg (fun n : Nat => Wb .i64 (n : Int)) (Wh _))) rfl ?_
      refine Va (Xv rfl) rfl ?_
      refine Ve ?_
      refine Vf ?_
      refine Vf ?_
      refine Vd ?_
      refine Va (Vb rfl tf_27_1 ts_25 (by decide)) rfl ?_
      refine Va (Vj rfl (Vg rfl rfl) rfl ta_25 rfl) rfl ?_
      refine Va (Xo (Yu rfl rfl te_25) (congrArg (fun n : Nat => Wb .i64 (n : Int)) (Wh _))) rfl ?_
      refine Va (Vk rfl) rfl ?_
      refine Ve ?_
      refine Xh ?_
      obtain ⟨o15, ho15, hF⟩ := Yf hF
      refine Vs (Yy (F_plan_Check_L2 p0) (fun s14 E' lw lc => Xz E' lw lc [(5, .int .i64 ((p0.Places).length : Int)), (38, .vs 10 (Wa T_Road.enc p0.Roads)), (39, .int .i64 ((p0.Roads).length : Int)), (40, .int .i64 s14)] low []) (Sum.elim (fun j16 => OnlyE .ret (fun E' lw lc => Xz E' lw lc [(2, .int .i64 j16)] low [])) (fun j17 => OnlyE (.exit 2) (fun E' lw lc => Xz E' lw lc [] low []))) ho15 ?_ (by rintro (_|_) _ _ _ ⟨h, _⟩ <;> cases h) ?_) ?_
      ·exact Vm rfl [] (by decide) ⟨Vh rfl (.int _ _), Vh rfl (.vs _ _), Vh rfl (.int _ _), Vh rfl (.int _ _), trivial⟩ trivial
      ·rintro s14 os14 _ _ _ hF hw
       unfold F_plan_Check_L2 at hF
       refine Yl hw ?_
       refine Vf ?_
       refine Vd ?_
       refine Va (Yz rfl rfl) rfl ?_
       refine Ve ?_
       refine Vf ?_
       refine Xi rfl (fun c18 => ?_) (fun c18 => ?_)
       ·have hF := Yq c18 hF
        refine Xj ?_
        refine Vf ?_
        refine Xh ?_
        refine Vf ?_
        refine Vd ?_
        obtain ⟨x19, h20, hF⟩ := Yf hF
        refine Va (Xo (Xu rfl rfl h20 te_25 ts_46) (v' := .vptr [.int .i64 x19.From, .int .i64 x19.To, .int .i64 x19.Length, .int .i64 x19.Area, .bool x19.Walk, .bool x19.Closed, .int .i64 x19.Rest.Low, .int .i64 x19.Rest.High, .int .i64 x19.Lift.Low, .int .i64 x19.Lift.High] 0) rfl) rfl ?_
        refine Va (Zo (ds := [.int .i64 x19.From, .int .i64 x19.To, .int .i64 x19.Length, .int .i64 x19.Area, .bool x19.Walk, .bool x19.Closed, .int .i64 x19.Rest.Low, .int .i64 x19.Rest.High, .int .i64 x19.Lift.Low, .int .i64 x19.Lift.High]) rfl ta_46 ts_46 rfl rfl) rfl ?_
        refine Vi (Xm rfl rfl tz_46 rfl rfl (Wf _) rfl) rfl ?_
        refine Vi (Vw (p := .agg [.int .i64 x19.From, .int .i64 x19.To, .int .i64 x19.Length, .int .i64 x19.Area, .bool x19.Walk, .bool x19.Closed, .int .i64 x19.Rest.Low, .int .i64 x19.Rest.High, .int .i64 x19.Lift.Low, .int .i64 x19.Lift.High]) (e' := .agg [.int .i64 x19.From, .int .i64 x19.To, .int .i64 x19.Length, .int .i64 x19.Area, .bool x19.Walk, .bool x19.Closed, .int .i64 x19.Rest.Low, .int .i64 x19.Rest.High, .int .i64 x19.Lift.Low, .int .i64 x19.Lift.High]) rfl (Vg rfl rfl) rfl rfl ts_46 rfl (Yg rfl) rfl (We rfl) rfl (Xn rfl rfl)) rfl ?_
        refine Ve ?_
        refine Vf ?_
        refine Vf ?_
        obtain ⟨o21, ho21, hF⟩ := Yf hF
        refine Vs (Q' := (fun o21 => OnlyE .normal (fun E' lw lc => Xz E' lw lc [(5, .int .i64 ((p0.Places).length : Int)), (7, .ptr (low.length + 0) 0 0 0), (38, .vs 10 (Wa T_Road.enc p0.Roads)), (39, .int .i64 ((p0.Roads).length : Int)), (40, .int .i64 s14), (70, .bool o21)] low [⟨46, 10, [.agg [.int .i64 x19.From, .int .i64 x19.To, .int .i64 x19.Length, .int .i64 x19.Area, .bool x19.Walk, .bool x19.Closed, .int .i64 x19.Rest.Low, .int .i64 x19.Rest.High, .int .i64 x19.Lift.Low, .int .i64 x19.Lift.High]], 0⟩])) o21) ?_ ?_
        ·replace hF := ho21
         refine Vd ?_
         rcases Wg (decide (x19.From < 0)) with c22 | c22
         ·have hF := Yq c22 hF
          refine Va (Vb rfl tf_46_0 ts_3 (by decide)) rfl ?_
          refine Va (Vj rfl (Vg rfl rfl) rfl ta_3 rfl) rfl ?_
          refine Va (Yz rfl rfl) rfl ?_
          refine Va (Vr rfl) rfl ?_
          refine Vc rfl rfl (neT c22) rfl ?_
          refine Vc rfl rfl (neT c22) rfl ?_
          refine Vc rfl rfl (neT c22) rfl ?_
          refine Vc rfl rfl (neT c22) rfl ?_
          refine Va (Xc (congrArg Wc c22) rfl) rfl ?_
          refine Va (Vr rfl) rfl ?_
          refine Vc rfl rfl (by decide) rfl ?_
          refine Vc rfl rfl (by decide) rfl ?_
          refine Vc rfl rfl (by decide) rfl ?_
          refine Va (Xc rfl rfl) rfl ?_
          refine Va (Vr rfl) rfl ?_
          refine Vc rfl rfl (by decide) rfl ?_
          refine Vc rfl rfl (by decide) rfl ?_
          refine Vc rfl rfl (by decide) rfl ?_
          refine Vc rfl rfl (by decide) rfl ?_
          refine Va (Xc rfl rfl) rfl ?_
          refine Va (Vr rfl) rfl ?_
          refine Vc rfl rfl (by decide) rfl ?_
          refine Vc rfl rfl (by decide) rfl ?_
          refine Vc rfl rfl (by decide) rfl ?_
          refine Vc rfl rfl (by decide) rfl ?_
          refine Vc rfl rfl (by decide) rfl ?_
          refine Va (Xc rfl rfl) rfl ?_
          refine Ve ?_
          obtain rfl := Wd hF
          refine Xk ?_
          exact Vp ⟨rfl, rfl, rfl, rfl, rfl, rfl, trivial⟩
         ·have hF := Yr c22 hF
          rcases Wg (decide (((p0.Places).length : Int) ≤ x19.From)) with c23 | c23
          ·have hF := Yq c23 hF
           refine Va (Vb rfl tf_46_0 ts_3 (by decide)) rfl ?_
           refine Va (Vj rfl (Vg rfl rfl) rfl ta_3 rfl) rfl ?_
           refine Va (Yz rfl rfl) rfl ?_
           refine Va (Vr rfl) rfl ?_
           refine Xd rfl rfl c22 ?_
           refine Va (Vb rfl tf_46_0 ts_3 (by decide)) rfl ?_
           refine Xd rfl rfl c22 ?_
           refine Va (Vj rfl (Vg rfl rfl) rfl ta_3 rfl) rfl ?_
           refine Xd rfl rfl c22 ?_
           refine Va (Vk rfl) rfl ?_
           refine Xd rfl rfl c22 ?_
           refine Va (rd_geq rfl rfl) rfl ?_
           refine Va (Vy (congrArg Wc c22) rfl) rfl ?_
           refine Va (Vr rfl) rfl ?_
           refine Vc rfl rfl (neT c23) rfl ?_
           refine Vc rfl rfl (neT c23) rfl ?_
           refine Vc rfl rfl (neT c23) rfl ?_
           refine Va (Xc (congrArg Wc c23) rfl) rfl ?_
           refine Va (Vr rfl) rfl ?_
           refine Vc rfl rfl (by decide) rfl ?_
           refine Vc rfl rfl (by decide) rfl ?_
           refine Vc rfl rfl (by decide) rfl ?_
           refine Vc rfl rfl (by decide) rfl ?_
           refine Va (Xc rfl rfl) rfl ?_
           refine Va (Vr rfl) rfl ?_
           refine Vc rfl rfl (by decide) rfl ?_
           refine Vc rfl rfl (by decide) rfl ?_
           refine Vc rfl rfl (by decide) rfl ?_
           refine Vc rfl rfl (by decide) rfl ?_
           refine Vc rfl rfl (by decide) rfl ?_
           refine Va (Xc rfl rfl) rfl ?_
           refine Ve ?_
           obtain rfl := Wd hF
           refine Xk ?_
           exact Vp ⟨rfl, rfl, rfl, rfl, rfl, rfl, trivial⟩
          ·have hF := Yr c23 hF
           rcases Wg (decide (x19.To < 0)) with c24 | c24
           ·have hF := Yq c24 hF
            refine Va (Vb rfl tf_46_0 ts_3 (by decide)) rfl ?_
            refine Va (Vj rfl (Vg rfl rfl) rfl ta_3 rfl) rfl ?_
            refine Va (Yz rfl rfl) rfl ?_
            refine Va (Vr rfl) rfl ?_
            refine Xd rfl rfl c22 ?_
            refine Va (Vb rfl tf_46_0 ts_3 (by decide)) rfl ?_
            refine Xd rfl rfl c22 ?_
            refine Va (Vj rfl (Vg rfl rfl) rfl ta_3 rfl) rfl ?_
            refine Xd rfl rfl c22 ?_
            refine Va (Vk rfl) rfl ?_
            refine Xd rfl rfl c22 ?_
            refine Va (rd_geq rfl rfl) rfl ?_
            refine Va (Vy (congrArg Wc c22) rfl) rfl ?_
            refine Va (Vr rfl) rfl ?_
            refine Xd rfl rfl c23 ?_
            refine Va (Vb rfl tf_46_1 ts_3 (by decide)) rfl ?_
            refine Xd rfl rfl c23 ?_
            refine Va (Vj rfl (Vg rfl rfl) rfl ta_3 rfl) rfl ?_
            refine Xd rfl rfl c23 ?_
            refine Va (Yz rfl rfl) rfl ?_
            refine Va (Vy (congrArg Wc c23) rfl) rfl ?_
            refine Va (Vr rfl) rfl ?_
            refine Vc rfl rfl (neT c24) rfl ?_
            refine Vc rfl rfl (neT c24) rfl ?_
            refine Vc rfl rfl (neT c24) rfl ?_
            refine Vc rfl rfl (neT c24) rfl ?_
            refine Va (Xc (congrArg Wc c24) rfl) rfl ?_
            refine Va (Vr rfl) rfl ?_
            refine Vc rfl rfl (by decide) rfl ?_
            refine Vc rfl rfl (by decide) rfl ?_
            refine Vc rfl rfl (by decide) rfl ?_
            refine Vc rfl rfl (by decide) rfl ?_
            refine Vc rfl rfl (by decide) rfl ?_
            refine Va (Xc rfl rfl) rfl ?_
            refine Ve ?_
            obtain rfl := Wd hF
            refine Xk ?_
            exact Vp ⟨rfl, rfl, rfl, rfl, rfl, rfl, trivial⟩
           ·have hF := Yr c24 hF
            rcases Wg (decide (((p0.Places).length : Int) ≤ x19.To)) with c25 | c25
            ·have hF := Yq c25 hF
             refine Va (Vb rfl tf_46_0 ts_3 (by decide)) rfl ?_
             refine Va (Vj rfl (Vg rfl rfl) rfl ta_3 rfl) rfl ?_
             refine Va (Yz rfl rfl) rfl ?_
             refine Va (Vr rfl) rfl ?_
             refine Xd rfl rfl c22 ?_
             refine Va (Vb rfl tf_46_0 ts_3 (by decide)) rfl ?_
             refine Xd rfl rfl c22 ?_
             refine Va (Vj rfl (Vg rfl rfl) rfl ta_3 rfl) rfl ?_
             refine Xd rfl rfl c22 ?_
             refine Va (Vk rfl) rfl ?_
             refine Xd rfl rfl c22 ?_
             refine Va (rd_geq rfl rfl) rfl ?_
             refine Va (Vy (congrArg Wc c22) rfl) rfl ?_
             refine Va (Vr rfl) rfl ?_
             refine Xd rfl rfl c23 ?_
             refine Va (Vb rfl tf_46_1 ts_3 (by decide)) rfl ?_
             refine Xd rfl rfl c23 ?_
             refine Va (Vj rfl (Vg rfl rfl) rfl ta_3 rfl) rfl ?_
             refine Xd rfl rfl c23 ?_
             refine Va (Yz rfl rfl) rfl ?_
             refine Va (Vy (congrArg Wc c23) rfl) rfl ?_
             refine Va (Vr rfl) rfl ?_
             refine Xd rfl rfl c24 ?_
             refine Va (Vb rfl tf_46_1 ts_3 (by decide)) rfl ?_
             refine Xd rfl rfl c24 ?_
             refine Va (Vj rfl (Vg rfl rfl) rfl ta_3 rfl) rfl ?_
             refine Xd rfl rfl c24 ?_
             refine Va (Vk rfl) rfl ?_
             refine Xd rfl rfl c24 ?_
             refine Va (rd_geq rfl rfl) rfl ?_
             refine Va (Vy (congrArg Wc c24) rfl) rfl ?_
             refine Va (Vr rfl) rfl ?_
             refine Vc rfl rfl (neT c25) rfl ?_
             refine Vc rfl rfl (neT c25) rfl ?_
             refine Vc rfl rfl (neT c25) rfl ?_
             refine Vc rfl rfl (neT c25) rfl ?_
             refine Vc rfl rfl (neT c25) rfl ?_
             refine Va (Xc (congrArg Wc c25) rfl) rfl ?_
             refine Ve ?_
             obtain rfl := Wd hF
             refine Xk ?_
             exact Vp ⟨rfl, rfl, rfl, rfl, rfl, rfl, trivial⟩
            ·have hF := Yr c25 hF
             refine Va (Vb rfl tf_46_0 ts_3 (by decide)) rfl ?_
             refine Va (Vj rfl (Vg rfl rfl) rfl ta_3 rfl) rfl ?_
             refine Va (Yz rfl rfl) rfl ?_
             refine Va (Vr rfl) rfl ?_
             refine Xd rfl rfl c22 ?_
             refine Va (Vb rfl tf_46_0 ts_3 (by decide)) rfl ?_
             refine Xd rfl rfl c22 ?_
             refine Va (Vj rfl (Vg rfl rfl) rfl ta_3 rfl) rfl ?_
             refine Xd rfl rfl c22 ?_
             refine Va (Vk rfl) rfl ?_
             refine Xd rfl rfl c22 ?_
             refine Va (rd_geq rfl rfl) rfl ?_
             refine Va (Vy (congrArg Wc c22) rfl) rfl ?_
             refine Va (Vr rfl) rfl ?_
             refine Xd rfl rfl c23 ?_
             refine Va (Vb rfl tf_46_1 ts_3 (by decide)) rfl ?_
             refine Xd rfl rfl c23 ?_
             refine Va (Vj rfl (Vg rfl rfl) rfl ta_3 rfl) rfl ?_
             refine Xd rfl rfl c23 ?_
             refine Va (Yz rfl rfl) rfl ?_
             refine Va (Vy (congrArg Wc c23) rfl) rfl ?_
             refine Va (Vr rfl) rfl ?_
             refine Xd rfl rfl c24 ?_
             refine Va (Vb rfl tf_46_1 ts_3 (by decide)) rfl ?_
             refine Xd rfl rfl c24 ?_
             refine Va (Vj rfl (Vg rfl rfl) rfl ta_3 rfl) rfl ?_
             refine Xd rfl rfl c24 ?_
             refine Va (Vk rfl) rfl ?_
             refine Xd rfl rfl c24 ?_
             refine Va (rd_geq rfl rfl) rfl ?_
             refine Va (Vy (congrArg Wc c24) rfl) rfl ?_
             refine Va (Vr rfl) rfl ?_
             refine Xd rfl rfl c25 ?_
             refine Va (Vb rfl tf_46_0 ts_3 (by decide)) rfl ?_
             refine Xd rfl rfl c25 ?_
             refine Va (Vj rfl (Vg rfl rfl) rfl ta_3 rfl) rfl ?_
             refine Xd rfl rfl c25 ?_
             refine Va (Vb rfl tf_46_1 ts_3 (by decide)) rfl ?_
             refine Xd rfl rfl c25 ?_
             refine Va (Vj rfl (Vg rfl rfl) rfl ta_3 rfl) rfl ?_
             refine Xd rfl rfl c25 ?_
             refine Va (Zk rfl rfl) rfl ?_
             refine Va (Vy (congrArg Wc c25) rfl) rfl ?_
             refine Ve ?_
             obtain rfl := Wd hF
             refine Xk ?_
             exact Vp ⟨rfl, rfl, rfl, rfl, rfl, rfl, trivial⟩
        ·rintro _ _ _ _ ⟨rfl, hw⟩
         refine ⟨_, _, _, hw, ?_⟩
         refine Xi rfl (fun c26 => ?_) (fun c26 => ?_)
         ·have hF := Yq c26 hF
          refine Vf ?_
          refine Vd ?_
          refine Va (Xv rfl) rfl ?_
          refine Ve ?_
          refine Yb ?_
          obtain rfl := Wd hF
          refine Xk ?_
          exact Vm rfl [] (by decide) ⟨Vh rfl (.int _ _), trivial⟩ trivial
         ·have hF := Yr c26 hF
          refine Xj ?_
          refine Vf ?_
          refine Vf ?_
          obtain ⟨o27, ho27, hF⟩ := Yf hF
          refine Vs (Q' := (fun o27 => OnlyE .normal (fun E' lw lc => Xz E' lw lc [(5, .int .i64 ((p0.Places).length : Int)), (7, .ptr (low.length + 0) 0 0 0), (38, .vs 10 (Wa T_Road.enc p0.Roads)), (39, .int .i64 ((p0.Roads).length : Int)), (40, .int .i64 s14), (88, .bool o27)] low [⟨46, 10, [.agg [.int .i64 x19.From, .int .i64 x19.To, .int .i64 x19.Length, .int .i64 x19.Area, .bool x19.Walk, .bool x19.Closed, .int .i64 x19.Rest.Low, .int .i64 x19.Rest.High, .int .i64 x19.Lift.Low, .int .i64 x19.Lift.High]], 0⟩])) o27) ?_ ?_
          ·replace hF := ho27
           refine Vd ?_
           rcases Wg (decide (x19.Length < 1)) with c28 | c28
           ·have hF := Yq c28 hF
            refine Va (Vb rfl tf_46_2 ts_3 (by decide)) rfl ?_
            refine Va (Vj rfl (Vg rfl rfl) rfl ta_3 rfl) rfl ?_
            refine Va (Yz rfl rfl) rfl ?_
            refine Va (Vr rfl) rfl ?_
            refine Vc rfl rfl (neT c28) rfl ?_
            refine Vc rfl rfl (neT c28) rfl ?_
            refine Vc rfl rfl (neT c28) rfl ?_
            refine Va (Xc (congrArg Wc c28) rfl) rfl ?_
            refine Va (Vr rfl) rfl ?_
            refine Vc rfl rfl (by decide) rfl ?_
            refine Vc rfl rfl (by decide) rfl ?_
            refine Vc rfl rfl (by decide) rfl ?_
            refine Va (Xc rfl rfl) rfl ?_
            refine Va (Vr rfl) rfl ?_
            refine Vc rfl rfl (by decide) rfl ?_
            refine Vc rfl rfl (by decide) rfl ?_
            refine Vc rfl rfl (by decide) rfl ?_
            refine Va (Xc rfl rfl) rfl ?_
            refine Ve ?_
            obtain rfl := Wd hF
            refine Xk ?_
            exact Vp ⟨rfl, rfl, rfl, rfl, rfl, rfl, trivial⟩
           ·have hF := Yr c28 hF
            rcases Wg (decide (100000 < x19.Length)) with c29 | c29
            ·have hF := Yq c29 hF
             refine Va (Vb rfl tf_46_2 ts_3 (by decide)) rfl ?_
             refine Va (Vj rfl (Vg rfl rfl) rfl ta_3 rfl) rfl ?_
             refine Va (Yz rfl rfl) rfl ?_
             refine Va (Vr rfl) rfl ?_
             refine Xd rfl rfl c28 ?_
             refine Va (Vb rfl tf_46_2 ts_3 (by decide)) rfl ?_
             refine Xd rfl rfl c28 ?_
             refine Va (Vj rfl (Vg rfl rfl) rfl ta_3 rfl) rfl ?_
             refine Xd rfl rfl c28 ?_
             refine Va (Zq rfl rfl) rfl ?_
             refine Va (Vy (congrArg Wc c28) rfl) rfl ?_
             refine Va (Vr rfl) rfl ?_
             refine Vc rfl rfl (neT c29) rfl ?_
             refine Vc rfl rfl (neT c29) rfl ?_
             refine Vc rfl rfl (neT c29) rfl ?_
             refine Va (Xc (congrArg Wc c29) rfl) rfl ?_
             refine Va (Vr rfl) rfl ?_
             refine Vc rfl rfl (by decide) rfl ?_
             refine Vc rfl rfl (by decide) rfl ?_
             refine Vc rfl rfl (by decide) rfl ?_
             refine Va (Xc rfl rfl) rfl ?_
             refine Ve ?_
             obtain rfl := Wd hF
             refine Xk ?_
             exact Vp ⟨rfl, rfl, rfl, rfl, rfl, rfl, trivial⟩
            ·have hF := Yr c29 hF
             rcases Wg (decide (x19.Area < 1)) with c30 | c30
             ·have hF := Yq c30 hF
              refine Va (Vb rfl tf_46_2 ts_3 (by decide)) rfl ?_
              refine Va (Vj rfl (Vg rfl rfl) rfl ta_3 rfl) rfl ?_
              refine Va (Yz rfl rfl) rfl ?_
              refine Va (Vr rfl) rfl ?_
              refine Xd rfl rfl c28 ?_
              refine Va (Vb rfl tf_46_2 ts_3 (by decide)) rfl ?_
              refine Xd rfl rfl c28 ?_
              refine Va (Vj rfl (Vg rfl rfl) rfl ta_3 rfl) rfl ?_
              refine Xd rfl rfl c28 ?_
              refine Va (Zq rfl rfl) rfl ?_
              refine Va (Vy (congrArg Wc c28) rfl) rfl ?_
              refine Va (Vr rfl) rfl ?_
              refine Xd rfl rfl c29 ?_
              refine Va (Vb rfl tf_46_3 ts_3 (by decide)) rfl ?_
              refine Xd rfl rfl c29 ?_
              refine Va (Vj rfl (Vg rfl rfl) rfl ta_3 rfl) rfl ?_
              refine Xd rfl rfl c29 ?_
              refine Va (Yz rfl rfl) rfl ?_
              refine Va (Vy (congrArg Wc c29) rfl) rfl ?_
              refine Va (Vr rfl) rfl ?_
              refine Vc rfl rfl (neT c30) rfl ?_
              refine Vc rfl rfl (neT c30) rfl ?_
              refine Vc rfl rfl (neT c30) rfl ?_
              refine Va (Xc (congrArg Wc c30) rfl) rfl ?_
              refine Ve ?_
              obtain rfl := Wd hF
              refine Xk ?_
              exact Vp ⟨rfl, rfl, rfl, rfl, rfl, rfl, trivial⟩
             ·have hF := Yr c30 hF
              refine Va (Vb rfl tf_46_2 ts_3 (by decide)) rfl ?_
              refine Va (Vj rfl (Vg rfl rfl) rfl ta_3 rfl) rfl ?_
              refine Va (Yz rfl rfl) rfl ?_
              refine Va (Vr rfl) rfl ?_
              refine Xd rfl rfl c28 ?_
              refine Va (Vb rfl tf_46_2 ts_3 (by decide)) rfl ?_
              refine Xd rfl rfl c28 ?_
              refine Va (Vj rfl (Vg rfl rfl) rfl ta_3 rfl) rfl ?_
              refine Xd rfl rfl c28 ?_
              refine Va (Zq rfl rfl) rfl ?_
              refine Va (Vy (congrArg Wc c28) rfl) rfl ?_
              refine Va (Vr rfl) rfl ?_
              refine Xd rfl rfl c29 ?_
              refine Va (Vb rfl tf_46_3 ts_3 (by decide)) rfl ?_
              refine Xd rfl rfl c29 ?_
              refine Va (Vj rfl (Vg rfl rfl) rfl ta_3 rfl) rfl ?_
              refine Xd rfl rfl c29 ?_
              refine Va (Yz rfl rfl) rfl ?_
              refine Va (Vy (congrArg Wc c29) rfl) rfl ?_
              refine Va (Vr rfl) rfl ?_
              refine Xd rfl rfl c30 ?_
              refine Va (Vb rfl tf_46_3 ts_3 (by decide)) rfl ?_
              refine Xd rfl rfl c30 ?_
              refine Va (Vj rfl (Vg rfl rfl) rfl ta_3 rfl) rfl ?_
              refine Xd rfl rfl c30 ?_
              refine Va (Zq rfl rfl) rfl ?_
              refine Va (Vy (congrArg Wc c30) rfl) rfl ?_
              refine Ve ?_
              obtain rfl := Wd hF
              refine Xk ?_
              exact Vp ⟨rfl, rfl, rfl, rfl, rfl, rfl, trivial⟩
          ·rintro _ _ _ _ ⟨rfl, hw⟩
           refine ⟨_, _, _, hw, ?_⟩
           refine Xi rfl (fun c31 => ?_) (fun c31 => ?_)
           ·have hF := Yq c31 hF
            refine Vf ?_
            refine Vd ?_
            refine Va (Xv rfl) rfl ?_
            refine Ve ?_
            refine Yb ?_
            obtain rfl := Wd hF
            refine Xk ?_
            exact Vm rfl [] (by decide) ⟨Vh rfl (.int _ _), trivial⟩ trivial
           ·have hF := Yr c31 hF
            refine Xj ?_
            refine Vf ?_
            obtain ⟨o32, ho32, hF⟩ := Yf hF
            refine Vs (Q' := (fun o32 => OnlyE .normal (fun E' lw lc => Xz E' lw lc [(5, .int .i64 ((p0.Places).length : Int)), (38, .vs 10 (Wa T_Road.enc p0.Roads)), (39, .int .i64 ((p0.Roads).length : Int)), (40, .int .i64 s14), (98, .bool o32)] low [])) o32) ?_ ?_
            ·replace hF := ho32
             refine Vd ?_
             obtain ⟨x33, h34, hF⟩ := Yf hF
             rcases Wg (!x33) with c35 | c35
             ·have hF := Yq c35 hF
              refine Va (Vb rfl tf_46_6 ts_44 (by decide)) rfl ?_
              refine Va (Xa (ds := [.int .i64 x19.Rest.Low, .int .i64 x19.Rest.High]) rfl (Vg rfl rfl) rfl ta_44 ts_44 rfl rfl rfl) rfl ?_
              refine Vi (Xx rfl Try.call50 (F_plan_spanIn_ok h34 _)) rfl ?_
              refine Va (rd_not rfl) rfl ?_
              refine Va (Vr rfl) rfl ?_
              refine Vc rfl rfl (neT c35) rfl ?_
              refine Vc rfl rfl (neT c35) rfl ?_
              refine Vc rfl rfl (neT c35) rfl ?_
              refine Vc rfl rfl (neT c35) rfl ?_
              refine Va (Xc (congrArg Wc c35) rfl) rfl ?_
              refine Ve ?_
              obtain rfl := Wd hF
              refine Xk ?_
              exact Vm rfl [] (by decide) ⟨Vh rfl (.int _ _), Vh rfl (.vs _ _), Vh rfl (.int _ _), Vh rfl (.int _ _), Vh rfl (.bool _), trivial⟩ trivial
             ·have hF := Yr c35 hF
              obtain ⟨x36, h37, hF⟩ := Yf hF
              refine Va (Vb rfl tf_46_6 ts_44 (by decide)) rfl ?_
              refine Va (Xa (ds := [.int .i64 x19.Rest.Low, .int .i64 x19.Rest.High]) rfl (Vg rfl rfl) rfl ta_44 ts_44 rfl rfl rfl) rfl ?_
              refine Vi (Xx rfl Try.call50 (F_plan_spanIn_ok h34 _)) rfl ?_
              refine Va (rd_not rfl) rfl ?_
              refine Va (Vr rfl) rfl ?_
              refine Xd rfl rfl c35 ?_
              refine Va (Vb rfl tf_46_7 ts_44 (by decide)) rfl ?_
              refine Xd rfl rfl c35 ?_
              refine Va (Xa (ds := [.int .i64 x19.Lift.Low, .int .i64 x19.Lift.High]) rfl (Vg rfl rfl) rfl ta_44 ts_44 rfl rfl rfl) rfl ?_
              refine Xd rfl rfl c35 ?_
              refine Vi (Xx rfl Try.call50 (F_plan_spanIn_ok h37 _)) rfl ?_
              refine Xd rfl rfl c35 ?_
              refine Va (rd_not rfl) rfl ?_
              refine Va (Vy (congrArg Wc c35) rfl) rfl ?_
              refine Ve ?_
              obtain rfl := Wd hF
              refine Xk ?_
              exact Vm rfl [] (by decide) ⟨Vh rfl (.int _ _), Vh rfl (.vs _ _), Vh rfl (.int _ _), Vh rfl (.int _ _), Vh rfl (.bool _), trivial⟩ trivial
            ·rintro _ _ _ _ ⟨rfl, hw⟩
             refine ⟨_, _, _, hw, ?_⟩
             refine Xi rfl (fun c38 => ?_) (fun c38 => ?_)
             ·have hF := Yq c38 hF
              refine Vf ?_
              refine Vd ?_
              refine Va (Xv rfl) rfl ?_
              refine Ve ?_
              refine Yb ?_
              obtain rfl := Wd hF
              refine Xk ?_
              exact Vp ⟨rfl, trivial⟩
             ·have hF := Yr c38 hF
              refine Xj ?_
              refine Vd ?_
              refine Va (Zf rfl rfl rfl) rfl ?_
              refine Va (Vk rfl) rfl ?_
              refine Ve ?_
              obtain rfl := Wd hF
              refine Xk ?_
              exact Vp ⟨rfl, rfl, rfl, rfl, trivial⟩
       ·have hF := Yr c18 hF
        refine Zd ?_
        obtain rfl := Wd hF
        refine Xk ?_
        exact Vp trivial
      ·rcases o15 with j16 | j17
       ·replace hF := elimL hF
        rintro _ _ _ _ ⟨rfl, hw⟩
        refine ⟨_, _, _, hw, ?_⟩
        obtain rfl := Wd hF
        refine fnR ?_
        exact Vp ⟨rfl, trivial⟩
       ·replace hF := elimR hF
        rintro _ _ _ _ ⟨rfl, hw⟩
        refine ⟨_, _, _, hw, ?_⟩
        refine Vf ?_
        refine Vd ?_
        refine Va (Xv rfl) rfl ?_
        refine Ve ?_
        refine Yb ?_
        obtain rfl := Wd hF
        refine fnR ?_
        exact Vp ⟨rfl, trivial⟩
 ·rintro _ _ _ _ ⟨he, hw⟩
  refine ⟨_, _, _, hw, ?_⟩
  exact Zc he [.int .i64 r] ⟨rfl, trivial⟩ (.int _ _) ⟨rfl, rfl⟩

theorem F_plan_Valid_ok {p0 : T_Mine} {r : Bool} (hF : F_plan_Valid p0 = some r) (low : List AObj) :
    Zh Try.prog 41 [.agg [.vs 2 (Wa T_Place.enc p0.Places), .vs 10 (Wa T_Road.enc p0.Roads)]] low fun x low' => x = .bool r ∧ low' = low := by
 refine Xr (nt := 6) (rs := [.tmp 2]) Try.func41 rfl rfl (We rfl) rfl ?_
 refine Vs (Q' := FnE (fun E' lw lc => Xz E' lw lc [(2, .bool r)] low [])) ?_ ?_
 ·unfold F_plan_Valid at hF
  refine Vf ?_
  refine Vd ?_
  refine Vi (Zx rfl rfl (v := .agg [.vs 2 (Wa T_Place.enc p0.Places), .vs 10 (Wa T_Road.enc p0.Roads)]) rfl rfl (Wf _) rfl rfl) rfl ?_
  refine Va (Zi rfl) rfl ?_
  refine Ve ?_
  refine Vf ?_
  refine Vd ?_
  obtain ⟨x1, h2, hF⟩ := Yf hF
  refine Va (Xa (ds := [.vs 2 (Wa T_Place.enc p0.Places), .vs 10 (Wa T_Road.enc p0.Roads)]) rfl (Vg rfl rfl) rfl ta_27 ts_27 rfl rfl rfl) rfl ?_
  refine Vi (Xx rfl Try.call47 (F_plan_Check_ok h2 _)) rfl ?_
  refine Va (Zk rfl rfl) rfl ?_
  refine Va (Zi rfl) rfl ?_
  refine Ve ?_
  refine Yb ?_
  obtain rfl := Wd hF
  refine fnR ?_
  exact Vm rfl [] (by decide) ⟨Vh rfl (.bool _), trivial⟩ trivial
 ·rintro _ _ _ _ ⟨he, hw⟩
  refine ⟨_, _, _, hw, ?_⟩
  exact Zc he [.bool r] ⟨rfl, trivial⟩ (.bool _) ⟨rfl, rfl⟩

theorem F_recirculate_arcs_ok {p0 : T_Mine} {p1 : List T_Span} {r : List T_recirculate_arc × Bool} (hF : F_recirculate_arcs p0 p1 = some r) (low : List AObj) :
    Zh Try.prog 30 [.agg [.vs 2 (Wa T_Place.enc p0.Places), .vs 10 (Wa T_Road.enc p0.Roads)], .vs 2 (Wa T_Span.enc p1)] low fun x low' => x = .tup [.vs 3 (Wa T_recirculate_arc.enc r.1), .bool r.2] ∧ low' = low := by
 refine Xr (nt := 62) (rs := [.tmp 4, .tmp 5]) Try.func30 rfl rfl (We rfl) rfl ?_
 refine Vs (Q' := FnE (fun E' lw lc => Xz E' lw lc [(4, .vs 3 (Wa T_recirculate_arc.enc r.1)), (5, .bool r.2)] low [])) ?_ ?_
 ·unfold F_recirculate_arcs at hF
  refine Vf ?_
  refine Vd ?_
  refine Vi (Zx rfl rfl (v := .agg [.vs 2 (Wa T_Place.enc p0.Places), .vs 10 (Wa T_Road.enc p0.Roads)]) rfl rfl (Wf _) rfl rfl) rfl ?_
  refine Va (rd_nv (sz := 3) (rd_asN rfl)) rfl ?_
  refine Va (Zi rfl) rfl ?_
  refine Ve ?_
  refine Vf ?_
  refine Vf ?_
  obtain ⟨o1, ho1, hF⟩ := Yf hF
  refine Vs (Q' := (fun o1 => OnlyE .normal (fun E' lw lc => Xz E' lw lc [(1, .vs 2 (Wa T_Span.enc p1)), (2, .ptr (low.length + 0) 0 0 0), (19, .bool o1)] low [⟨27, 2, [.agg [.vs 2 (Wa T_Place.enc p0.Places), .vs 10 (Wa T_Road.enc p0.Roads)]], 0⟩])) o1) ?_ ?_
  ·replace hF := ho1
   refine Vd ?_
   obtain ⟨x2, h3, hF⟩ := Yf hF
   rcases Wg (!x2) with c4 | c4
   ·have hF := Yq c4 hF
    refine Va (Xa (ds := [.vs 2 (Wa T_Place.enc p0.Places), .vs 10 (Wa T_Road.enc p0.Roads)]) rfl (Vg rfl rfl) rfl ta_27 ts_27 rfl rfl rfl) rfl ?_
    refine Vi (Xx rfl Try.call41 (F_plan_Valid_ok h3 _)) rfl ?_
    refine Va (rd_not rfl) rfl ?_
    refine Va (Vr rfl) rfl ?_
    refine Vc rfl rfl (neT c4) rfl ?_
    refine Vc rfl rfl (neT c4) rfl ?_
    refine Vc rfl rfl (neT c4) rfl ?_
    refine Vc rfl rfl (neT c4) rfl ?_
    refine Vc rfl rfl (neT c4) rfl ?_
    refine Vc rfl rfl (neT c4) rfl ?_
    refine Va (Xc (congrArg Wc c4) rfl) rfl ?_
    refine Ve ?_
    obtain rfl := Wd hF
    refine Xk ?_
    exact Vp ⟨rfl, rfl, rfl, trivial⟩
   ·have hF := Yr c4 hF
    refine Va (Xa (ds := [.vs 2 (Wa T_Place.enc p0.Places), .vs 10 (Wa T_Road.enc p0.Roads)]) rfl (Vg rfl rfl) rfl ta_27 ts_27 rfl rfl rfl) rfl ?_
    refine Vi (Xx rfl Try.call41 (F_plan_Valid_ok h3 _)) rfl ?_
    refine Va (rd_not rfl) rfl ?_
    refine Va (Vr rfl) rfl ?_
    refine Xd rfl rfl c4 ?_
    refine Va (Xw rfl) rfl ?_
    refine Xd rfl rfl c4 ?_
    refine Va (Xo (Yu rfl rfl te_23) (congrArg (fun n : Nat => Wb .i64 (n : Int)) (Wh _))) rfl ?_
    refine Xd rfl rfl c4 ?_
    refine Va (Vb rfl tf_27_1 ts_25 (by decide)) rfl ?_
    refine Xd rfl rfl c4 ?_
    refine Va (Vj rfl (Vg rfl rfl) rfl ta_25 rfl) rfl ?_
    refine Xd rfl rfl c4 ?_
    refine Va (Xo (Yu rfl rfl te_25) (congrArg (fun n : Nat => Wb .i64 (n : Int)) (Wh _))) rfl ?_
    refine Xd rfl rfl c4 ?_
    refine Va (rd_neq rfl rfl) rfl ?_
    refine Va (Vy (congrArg Wc c4) rfl) rfl ?_
    refine Ve ?_
    obtain rfl := Wd hF
    refine Xk ?_
    exact Vp ⟨rfl, rfl, rfl, trivial⟩
  ·rintro _ _ _ _ ⟨rfl, hw⟩
   refine ⟨_, _, _, hw, ?_⟩
   refine Xi rfl (fun c5 => ?_) (fun c5 => ?_)
   ·have hF := Yq c5 hF
    refine Vf ?_
    refine Vd ?_
    refine Va (rd_nv (sz := 3) (rd_asN rfl)) rfl ?_
    refine Va (Zi rfl) rfl ?_
    refine Ve ?_
    refine Yb ?_
    obtain rfl := Wd hF
    refine fnR ?_
    exact Vm rfl [] (by decide) ⟨Vh rfl (.vs _ _), Vh rfl (.bool _), trivial⟩ trivial
   ·have hF := Yr c5 hF
    refine Xj ?_
    refine Vf ?_
    refine Vd ?_
    refine Vi (vef_nilsN rfl rfl 78 3 (Wf _) (rd_asN rfl)) rfl ?_
    refine Ve ?_
    refine Vf ?_
    refine Vf ?_
    refine Vd ?_
    refine Va (Vb rfl tf_27_1 ts_25 (by decide)) rfl ?_
    refine Va (Vj rfl (Vg rfl rfl) rfl ta_25 rfl) rfl ?_
    refine Va (Xo (Yu rfl rfl te_25) (congrArg (fun n : Nat => Wb .i64 (n : Int)) (Wh _))) rfl ?_
    refine Va (Vk rfl) rfl ?_
    refine Ve ?_
    refine Xh ?_
    obtain ⟨o7, ho7, hF⟩ := Yf hF
    refine Vs (Yy (F_recirculate_arcs_L1 p0 p1) (fun s6 E' lw lc => Xz E' lw lc [(1, .vs 2 (Wa T_Span.enc p1)), (6, .sl (low.length + 0) 0 0 (s6.2).length), (21, .vs 10 (Wa T_Road.enc p0.Roads)), (22, .int .i64 ((p0.Roads).length : Int)), (23, .int .i64 s6.1)] low [⟨78, 3, Wa T_recirculate_arc.enc s6.2, 0⟩]) (fun o7 => OnlyE (.exit 0) (fun E' lw lc => Xz E' lw lc [(6, .sl (low.length + 0) 0 0 (o7).length)] low [⟨78, 3, Wa T_recirculate_arc.enc o7, 0⟩])) ho7 ?_ (by rintro _ _ _ _ ⟨h, _⟩ <;> cases h) ?_) ?_
    ·exact Vm rfl [(1, 0)] (by decide) ⟨Vh rfl (.vs _ _), Yc 0 1 rfl rfl, Vh rfl (.vs _ _), Vh rfl (.int _ _), Vh rfl (.int _ _), trivial⟩ ⟨⟨_, rfl, rfl, .same _ _ _ _ (Vn trivial)⟩, trivial⟩
    ·rintro s6 os6 _ _ _ hF hw
     unfold F_recirculate_arcs_L1 at hF
     refine Yl hw ?_
     refine Vf ?_
     refine Vd ?_
     refine Va (Yz rfl rfl) rfl ?_
     refine Ve ?_
     refine Vf ?_
     refine Xi rfl (fun c8 => ?_) (fun c8 => ?_)
     ·have hF := Yq c8 hF
      refine Xj ?_
      refine Vf ?_
      obtain ⟨o9, ho9, hF⟩ := Yf hF
      refine Vs (Q' := (fun o9 => OnlyE .normal (fun E' lw lc => Xz E' lw lc [(1, .vs 2 (Wa T_Span.enc p1)), (6, .sl (low.length + 0) 0 0 (o9).length), (21, .vs 10 (Wa T_Road.enc p0.Roads)), (22, .int .i64 ((p0.Roads).length : Int)), (23, .int .i64 s6.1)] low [⟨78, 3, Wa T_recirculate_arc.enc o9, 0⟩])) o9) ?_ ?_
      ·replace hF := ho9
       refine Xh ?_
       refine Vf ?_
       refine Vd ?_
       obtain ⟨x10, h11, hF⟩ := Yf hF
       refine Va (Vk rfl) rfl ?_
       refine Va (Xo (Xu rfl rfl h11 te_25 ts_46) (v' := .vptr [.int .i64 x10.From, .int .i64 x10.To, .int .i64 x10.Length, .int .i64 x10.Area, .bool x10.Walk, .bool x10.Closed, .int .i64 x10.Rest.Low, .int .i64 x10.Rest.High, .int .i64 x10.Lift.Low, .int .i64 x10.Lift.High] 0) rfl) rfl ?_
       refine Va (Zo (ds := [.int .i64 x10.From, .int .i64 x10.To, .int .i64 x10.Length, .int .i64 x10.Area, .bool x10.Walk, .bool x10.Closed, .int .i64 x10.Rest.Low, .int .i64 x10.Rest.High, .int .i64 x10.Lift.Low, .int .i64 x10.Lift.High]) rfl ta_46 ts_46 rfl rfl) rfl ?_
       refine Vi (Xm rfl rfl tz_46 rfl rfl (Wf _) rfl) rfl ?_
       refine Va (Xv rfl) rfl ?_
       refine Vi (Vw (p := .agg [.int .i64 x10.From, .int .i64 x10.To, .int .i64 x10.Length, .int .i64 x10.Area, .bool x10.Walk, .bool x10.Closed, .int .i64 x10.Rest.Low, .int .i64 x10.Rest.High, .int .i64 x10.Lift.Low, .int .i64 x10.Lift.High]) (e' := .agg [.int .i64 x10.From, .int .i64 x10.To, .int .i64 x10.Length, .int .i64 x10.Area, .bool x10.Walk, .bool x10.Closed, .int .i64 x10.Rest.Low, .int .i64 x10.Rest.High, .int .i64 x10.Lift.Low, .int .i64 x10.Lift.High]) rfl (Vg rfl rfl) rfl rfl ts_46 rfl (Yg rfl) rfl (We rfl) rfl (Xn rfl rfl)) rfl ?_
       refine Ve ?_
       refine Vf ?_
       refine Vf ?_
       refine Vd ?_
       refine Va (Vb rfl tf_46_5 ts_4 (by decide)) rfl ?_
       refine Va (Vj rfl (Vg rfl rfl) rfl ta_4 rfl) rfl ?_
       refine Ve ?_
       refine Xi rfl (fun c12 => ?_) (fun c12 => ?_)
       ·have hF := Yq c12 hF
        refine Zd ?_
        obtain rfl := Wd hF
        refine Xk ?_
        exact Vm rfl [(0, 0)] (by decide) ⟨Vh rfl (.vs _ _), Yc 0 0 rfl rfl, Vh rfl (.vs _ _), Vh rfl (.int _ _), Vh rfl (.int _ _), trivial⟩ ⟨⟨_, rfl, rfl, .same _ _ _ _ (Vq T_recirculate_arc.enc_lt)⟩, trivial⟩
       ·have hF := Yr c12 hF
        refine Xj ?_
        refine Vf ?_
        refine Vf ?_
        refine Vd ?_
        obtain ⟨x13, h14, hF⟩ := Yf hF
        refine Va (Xw rfl) rfl ?_
        refine Va (Vk rfl) rfl ?_
        refine Va (Xo (Xu rfl rfl h14 te_23 ts_44) (v' := .vptr [.int .i64 x13.Low, .int .i64 x13.High] 0) rfl) rfl ?_
        refine Va (Xq rfl tf_44_1 ts_3 (by decide)) rfl ?_
        refine Va (Xe rfl ta_3 rfl) rfl ?_
        refine Va (Zq rfl rfl) rfl ?_
        refine Ve ?_
        obtain ⟨o15, ho15, hF⟩ := Yf hF
        refine Vs (Q' := (fun o15 => OnlyE .normal (fun E' lw lc => Xz E' lw lc [(1, .vs 2 (Wa T_Span.enc p1)), (6, .sl (low.length + 0) 0 0 (o15).length), (7, .int .i64 s6.1), (8, .ptr (low.length + 1) 0 0 0), (21, .vs 10 (Wa T_Road.enc p0.Roads)), (22, .int .i64 ((p0.Roads).length : Int)), (23, .int .i64 s6.1)] low [⟨78, 3, Wa T_recirculate_arc.enc o15, 0⟩, ⟨46, 10, [.agg [.int .i64 x10.From, .int .i64 x10.To, .int .i64 x10.Length, .int .i64 x10.Area, .bool x10.Walk, .bool x10.Closed, .int .i64 x10.Rest.Low, .int .i64 x10.Rest.High, .int .i64 x10.Lift.Low, .int .i64 x10.Lift.High]], 0⟩])) o15) ?_ ?_
        ·replace hF := ho15
         refine Xi rfl (fun c16 => ?_) (fun c16 => ?_)
         ·have hF := Yq c16 hF
          refine Vd ?_
          obtain ⟨x17, h18, hF⟩ := Yf hF
          refine Va (Yn rfl) rfl ?_
          refine Va (Vk rfl) rfl ?_
          refine Va (Vb rfl tf_46_0 ts_3 (by decide)) rfl ?_
          refine Va (Vj rfl (Vg rfl rfl) rfl ta_3 rfl) rfl ?_
          refine Va (Vb rfl tf_46_1 ts_3 (by decide)) rfl ?_
          refine Va (Vj rfl (Vg rfl rfl) rfl ta_3 rfl) rfl ?_
          refine Va (Ye (vs := [(0, .int .i64 s6.1), (1, .int .i64 x10.From), (2, .int .i64 x10.To)]) (ds := [.int .i64 s6.1, .int .i64 x10.From, .int .i64 x10.To]) tz_78 rfl rfl tp_78 ⟨rfl, rfl, rfl, rfl, rfl, rfl, trivial⟩ (Yh rfl) rfl) rfl ?_
          refine Vi (Yt (es := Wa T_recirculate_arc.enc [(T_recirculate_arc.mk s6.1 x10.From x10.To)]) ⟨rfl, rfl, trivial⟩ rfl rfl (Zm rfl) te_74 ts_78 tz_78 rfl rfl (Wf _) (by decide) (Ym T_recirculate_arc.enc_lt)) rfl ?_
          refine Vi (Zw (f := T_recirculate_arc.enc) (l := s6.2) (ys := [(T_recirculate_arc.mk s6.1 x10.From x10.To)]) rfl rfl (Vg rfl rfl) rfl (src_vs rfl) te_74 ts_78 tb_78 (by decide) tz_78 rfl h18 (Xn rfl rfl)) rfl ?_
          refine Va (rd_asL rfl) rfl ?_
          refine Ve ?_
          obtain rfl := Wd hF
          refine Xk ?_
          exact Vm rfl [(0, 0 + 1), (1, 0)] (by decide) ⟨Vh rfl (.vs _ _), Yc 0 0 rfl rfl, Vh rfl (.int _ _), Vt 1 1 rfl rfl, Vh rfl (.vs _ _), Vh rfl (.int _ _), Vh rfl (.int _ _), trivial⟩ ⟨⟨_, rfl, rfl, .same _ _ _ _ (Vq T_recirculate_arc.enc_lt)⟩, ⟨_, rfl, rfl, .same _ _ _ _ (Vn ⟨Vo ⟨.int _ _, .int _ _, .int _ _, .int _ _, .bool _, .bool _, .int _ _, .int _ _, .int _ _, .int _ _, trivial⟩, trivial⟩)⟩, trivial⟩
         ·have hF := Yr c16 hF
          refine Xj ?_
          obtain rfl := Wd hF
          refine Xk ?_
          exact Vp ⟨rfl, rfl, rfl, rfl, rfl, rfl, rfl, trivial⟩
        ·rintro _ _ _ _ ⟨rfl, hw⟩
         refine ⟨_, _, _, hw, ?_⟩
         refine Vf ?_
         refine Vd ?_
         obtain ⟨x19, h20, hF⟩ := Yf hF
         refine Va (Xw rfl) rfl ?_
         refine Va (Vk rfl) rfl ?_
         refine Va (Xo (Xu rfl rfl h20 te_23 ts_44) (v' := .vptr [.int .i64 x19.Low, .int .i64 x19.High] 0) rfl) rfl ?_
         refine Va (Xq rfl tf_44_0 ts_3 (by decide)) rfl ?_
         refine Va (Xe rfl ta_3 rfl) rfl ?_
         refine Va (Yz rfl rfl) rfl ?_
         refine Ve ?_
         refine Xi rfl (fun c21 => ?_) (fun c21 => ?_)
         ·have hF := Yq c21 hF
          refine Vd ?_
          obtain ⟨x22, h23, hF⟩ := Yf hF
          refine Va (Yn rfl) rfl ?_
          refine Va (Vk rfl) rfl ?_
          refine Va (Vb rfl tf_46_1 ts_3 (by decide)) rfl ?_
          refine Va (Vj rfl (Vg rfl rfl) rfl ta_3 rfl) rfl ?_
          refine Va (Vb rfl tf_46_0 ts_3 (by decide)) rfl ?_
          refine Va (Vj rfl (Vg rfl rfl) rfl ta_3 rfl) rfl ?_
          refine Va (Ye (vs := [(0, .int .i64 s6.1), (1, .int .i64 x10.To), (2, .int .i64 x10.From)]) (ds := [.int .i64 s6.1, .int .i64 x10.To, .int .i64 x10.From]) tz_78 rfl rfl tp_78 ⟨rfl, rfl, rfl, rfl, rfl, rfl, trivial⟩ (Yh rfl) rfl) rfl ?_
          refine Vi (Yt (es := Wa T_recirculate_arc.enc [(T_recirculate_arc.mk s6.1 x10.To x10.From)]) ⟨rfl, rfl, trivial⟩ rfl rfl (Zm rfl) te_74 ts_78 tz_78 rfl rfl (Wf _) (by decide) (Ym T_recirculate_arc.enc_lt)) rfl ?_
          refine Vi (Zw (f := T_recirculate_arc.enc) (l := o15) (ys := [(T_recirculate_arc.mk s6.1 x10.To x10.From)]) rfl rfl (Vg rfl rfl) rfl (src_vs rfl) te_74 ts_78 tb_78 (by decide) tz_78 rfl h23 (Xn rfl rfl)) rfl ?_
          refine Va (rd_asL rfl) rfl ?_
          refine Ve ?_
          obtain rfl := Wd hF
          refine Xk ?_
          exact Vm rfl [(0, 0 + 1)] (by decide) ⟨Vh rfl (.vs _ _), Yc 0 0 rfl rfl, Vh rfl (.vs _ _), Vh rfl (.int _ _), Vh rfl (.int _ _), trivial⟩ ⟨⟨_, rfl, rfl, .same _ _ _ _ (Vq T_recirculate_arc.enc_lt)⟩, trivial⟩
         ·have hF := Yr c21 hF
          refine Xj ?_
          obtain rfl := Wd hF
          refine Xk ?_
          exact Vm rfl [(0, 0)] (by decide) ⟨Vh rfl (.vs _ _), Yc 0 0 rfl rfl, Vh rfl (.vs _ _), Vh rfl (.int _ _), Vh rfl (.int _ _), trivial⟩ ⟨⟨_, rfl, rfl, .same _ _ _ _ (Vq T_recirculate_arc.enc_lt)⟩, trivial⟩
      ·rintro _ _ _ _ ⟨rfl, hw⟩
       refine ⟨_, _, _, hw, ?_⟩
       refine Vd ?_
       refine Va (Zf rfl rfl rfl) rfl ?_
       refine Va (Vk rfl) rfl ?_
       refine Ve ?_
       obtain rfl := Wd hF
       refine Xk ?_
       exact Vp ⟨rfl, rfl, rfl, rfl, rfl, trivial⟩
     ·have hF := Yr c8 hF
      refine Zd ?_
      obtain rfl := Wd hF
      refine Xk ?_
      exact Vp ⟨rfl, trivial⟩
    ·rintro _ _ _ _ ⟨rfl, hw⟩
     refine ⟨_, _, _, hw, ?_⟩
     refine Vf ?_
     refine Vd ?_
     refine Va (Yn rfl) rfl ?_
     refine Va (rd_asL rfl) rfl ?_
     refine Va (Zi rfl) rfl ?_
     refine Ve ?_
     refine Yb ?_
     obtain rfl := Wd hF
     refine fnR ?_
     refine Weak.trans (Yv (E' := [(4, .vs 3 (Wa T_recirculate_arc.enc o7)), (5, .bool true)]) (loc1 := [⟨78, 3, [], 0 + 1⟩]) rfl 0 rfl (Ym T_recirculate_arc.enc_lt) ⟨cv_sl rfl rfl rfl (Zj rfl), Vu rfl, trivial⟩ ⟨.refl _, trivial⟩) ?_
     exact Vm rfl [] (by decide) ⟨Vh rfl (.vs _ _), Vh rfl (.bool _), trivial⟩ trivial
 ·rintro _ _ _ _ ⟨he, hw⟩
  refine ⟨_, _, _, hw, ?_⟩
  exact Zc he [.vs 3 (Wa T_recirculate_arc.enc r.1), .bool r.2] ⟨rfl, rfl, trivial⟩ ((lt_tup ⟨.vs _ _, .bool _, trivial⟩)) ⟨rfl, rfl⟩

theorem F_recirculate_Ways_ok {p0 : T_Mine} {p1 : List T_Span} {r : List A2_Int} (hF : F_recirculate_Ways p0 p1 = some r) (low : List AObj) :
    Zh Try.prog 9 [.agg [.vs 2 (Wa T_Place.enc p0.Places), .vs 10 (Wa T_Road.enc p0.Roads)], .vs 2 (Wa T_Span.enc p1)] low fun x low' => x = .vs 2 (Wa A2_Int.enc r) ∧ low' = low := by
 refine Xr (nt := 32) (rs := [.tmp 4]) Try.func9 rfl rfl (We rfl) rfl ?_
 refine Vs (Q' := FnE (fun E' lw lc => Xz E' lw lc [(4, .vs 2 (Wa A2_Int.enc r))] low [])) ?_ ?_
 ·unfold F_recirculate_Ways at hF
  refine Vf ?_
  refine Vd ?_
  refine Vi (Zx rfl rfl (v := .agg [.vs 2 (Wa T_Place.enc p0.Places), .vs 10 (Wa T_Road.enc p0.Roads)]) rfl rfl (Wf _) rfl rfl) rfl ?_
  refine Va (rd_nv (sz := 2) (rd_asN rfl)) rfl ?_
  refine Ve ?_
  refine Vf ?_
  refine Vd ?_
  obtain ⟨x1, h2, hF⟩ := Yf hF
  refine Va (Xa (ds := [.vs 2 (Wa T_Place.enc p0.Places), .vs 10 (Wa T_Road.enc p0.Roads)]) rfl (Vg rfl rfl) rfl ta_27 ts_27 rfl rfl rfl) rfl ?_
  refine Va (Xw rfl) rfl ?_
  refine Vi (Xx rfl Try.call30 (F_recirculate_arcs_ok h2 _)) rfl ?_
  refine Va (rd_mvT rfl) rfl ?_
  refine Va (rd_extract rfl rfl) rfl ?_
  refine Va (rd_extract rfl rfl) rfl ?_
  refine Va (rd_asV rfl) rfl ?_
  refine Va (Zi rfl) rfl ?_
  refine Ve ?_
  refine Vf ?_
  refine Vd ?_
  refine Vi (vef_nilsN rfl rfl 40 2 (Wf _) (rd_asN rfl)) rfl ?_
  refine Ve ?_
  refine Vf ?_
  refine Vf ?_
  refine Vd ?_
  refine Va (Xw rfl) rfl ?_
  refine Va (Xo (Yu rfl rfl te_74) (congrArg (fun n : Nat => Wb .i64 (n : Int)) (Wh _))) rfl ?_
  refine Va (Vk rfl) rfl ?_
  refine Ve ?_
  refine Xh ?_
  obtain ⟨o4, ho4, hF⟩ := Yf hF
  refine Vs (Yy (F_recirculate_Ways_L1 x1) (fun s3 E' lw lc => Xz E' lw lc [(7, .sl (low.length + 0) 0 0 (s3.2).length), (16, .vs 3 (Wa T_recirculate_arc.enc x1.1)), (17, .int .i64 ((x1.1).length : Int)), (18, .int .i64 s3.1)] low [⟨40, 2, Wa A2_Int.enc s3.2, 0⟩]) (fun o4 => OnlyE (.exit 0) (fun E' lw lc => Xz E' lw lc [(7, .sl (low.length + 0) 0 0 (o4).length)] low [⟨40, 2, Wa A2_Int.enc o4, 0⟩])) ho4 ?_ (by rintro _ _ _ _ ⟨h, _⟩ <;> cases h) ?_) ?_
  ·exact Vm rfl [(1, 0)] (by decide) ⟨Yc 0 1 rfl rfl, Vh rfl (.vs _ _), Vh rfl (.int _ _), Vh rfl (.int _ _), trivial⟩ ⟨⟨_, rfl, rfl, .same _ _ _ _ (Vn trivial)⟩, trivial⟩
  ·rintro s3 os3 _ _ _ hF hw
   unfold F_recirculate_Ways_L1 at hF
   refine Yl hw ?_
   refine Vf ?_
   refine Vd ?_
   refine Va (Yz rfl rfl) rfl ?_
   refine Ve ?_
   refine Vf ?_
   refine Xi rfl (fun c5 => ?_) (fun c5 => ?_)
   ·have hF := Yq c5 hF
    refine Xj ?_
    refine Vf ?_
    refine Xh ?_
    refine Vf ?_
    refine Vd ?_
    obtain ⟨x6, h7, hF⟩ := Yf hF
    refine Va (Xo (Xu rfl rfl h7 te_74 ts_78) (v' := .vptr [.int .i64 x6.road, .int .i64 x6.from_, .int .i64 x6.to_] 0) rfl) rfl ?_
    refine Va (Zo (ds := [.int .i64 x6.road, .int .i64 x6.from_, .int .i64 x6.to_]) rfl ta_78 ts_78 rfl rfl) rfl ?_
    refine Vi (Xm rfl rfl tz_78 rfl rfl (Wf _) rfl) rfl ?_
    refine Vi (Vw (p := .agg [.int .i64 x6.road, .int .i64 x6.from_, .int .i64 x6.to_]) (e' := .agg [.int .i64 x6.road, .int .i64 x6.from_, .int .i64 x6.to_]) rfl (Vg rfl rfl) rfl rfl ts_78 rfl (Yg rfl) rfl (We rfl) rfl (Xn rfl rfl)) rfl ?_
    refine Ve ?_
    refine Vd ?_
    obtain ⟨x8, h9, hF⟩ := Yf hF
    refine Va (Yn rfl) rfl ?_
    refine Va (Vb rfl tf_78_1 ts_3 (by decide)) rfl ?_
    refine Va (Vj rfl (Vg rfl rfl) rfl ta_3 rfl) rfl ?_
    refine Va (Vb rfl tf_78_2 ts_3 (by decide)) rfl ?_
    refine Va (Vj rfl (Vg rfl rfl) rfl ta_3 rfl) rfl ?_
    refine Va (rd_buildA (vs := [(0, .int .i64 x6.from_), (1, .int .i64 x6.to_)]) (ds := [.int .i64 x6.from_, .int .i64 x6.to_]) tz_40 rfl rfl tr_40 ts_3 ⟨rfl, rfl, rfl, rfl, trivial⟩ (Yh rfl) rfl) rfl ?_
    refine Vi (Yt (es := Wa A2_Int.enc [(A2_Int.mk x6.from_ x6.to_)]) ⟨rfl, rfl, trivial⟩ rfl rfl (Zm rfl) te_36 ts_40 tz_40 rfl rfl (Wf _) (by decide) (Ym A2_Int.enc_lt)) rfl ?_
    refine Vi (Zw (f := A2_Int.enc) (l := s3.2) (ys := [(A2_Int.mk x6.from_ x6.to_)]) rfl rfl (Vg rfl rfl) rfl (src_vs rfl) te_36 ts_40 tb_40 (by decide) tz_40 rfl h9 (Xn rfl rfl)) rfl ?_
    refine Va (rd_asL rfl) rfl ?_
    refine Ve ?_
    refine Vd ?_
    refine Va (Zf rfl rfl rfl) rfl ?_
    refine Va (Vk rfl) rfl ?_
    refine Ve ?_
    obtain rfl := Wd hF
    refine Xk ?_
    exact Vm rfl [(0, 0 + 1)] (by decide) ⟨Yc 0 0 rfl rfl, Vh rfl (.vs _ _), Vh rfl (.int _ _), Vh rfl (.int _ _), trivial⟩ ⟨⟨_, rfl, rfl, .same _ _ _ _ (Vq A2_Int.enc_lt)⟩, trivial⟩
   ·have hF := Yr c5 hF
    refine Zd ?_
    obtain rfl := Wd hF
    refine Xk ?_
    exact Vp ⟨rfl, trivial⟩
  ·rintro _ _ _ _ ⟨rfl, hw⟩
   refine ⟨_, _, _, hw, ?_⟩
   refine Vf ?_
   refine Vd ?_
   refine Va (Yn rfl) rfl ?_
   refine Va (rd_asL rfl) rfl ?_
   refine Ve ?_
   refine Yb ?_
   obtain rfl := Wd hF
   refine fnR ?_
   refine Weak.trans (Yv (E' := [(4, .vs 2 (Wa A2_Int.enc o4))]) (loc1 := [⟨40, 2, [], 0 + 1⟩]) rfl 0 rfl (Ym A2_Int.enc_lt) ⟨cv_sl rfl rfl rfl (Zj rfl), trivial⟩ ⟨.refl _, trivial⟩) ?_
   exact Vm rfl [] (by decide) ⟨Vh rfl (.vs _ _), trivial⟩ trivial
 ·rintro _ _ _ _ ⟨he, hw⟩
  refine ⟨_, _, _, hw, ?_⟩
  exact Zc he [.vs 2 (Wa A2_Int.enc r)] ⟨rfl, trivial⟩ (.vs _ _) ⟨rfl, rfl⟩

theorem F_recirculate_spread_ok {p0 : T_Mine} {p1 : List T_recirculate_arc} {p2 : List Bool} {p3 : Int} {r : List Bool} (hF : F_recirculate_spread p0 p1 p2 p3 = some r) (low : List AObj) :
    Zh Try.prog 36 [.agg [.vs 2 (Wa T_Place.enc p0.Places), .vs 10 (Wa T_Road.enc p0.Roads)], .vs 3 (Wa T_recirculate_arc.enc p1), .vs 1 (Wa Wc p2), .int .i64 p3] low fun x low' => x = .vs 1 (Wa Wc r) ∧ low' = low := by
 refine Xr (nt := 57) (rs := [.tmp 8]) Try.func36 rfl rfl (We rfl) rfl ?_
 refine Vs (Q' := FnE (fun E' lw lc => Xz E' lw lc [(8, .vs 1 (Wa Wc r))] low [])) ?_ ?_
 ·unfold F_recirculate_spread at hF
  refine Vf ?_
  refine Vd ?_
  refine Vi (Zx rfl rfl (v := .agg [.vs 2 (Wa T_Place.enc p0.Places), .vs 10 (Wa T_Road.enc p0.Roads)]) rfl rfl (Wf _) rfl rfl) rfl ?_
  refine Va (rd_nv (sz := 1) (rd_asN rfl)) rfl ?_
  refine Ve ?_
  refine Vf ?_
  refine Vd ?_
  obtain ⟨x1, h2, hF⟩ := Yf hF
  refine Va (Xw rfl) rfl ?_
  refine Vi (vef_ap0N (f := Wc) (ys := p2) rfl rfl (.inl rfl) rfl (src_vs rfl) (Wf _) te_49 ts_4 tb_4 (by decide) tz_4 rfl h2) rfl ?_
  refine Va (rd_asL rfl) rfl ?_
  refine Ve ?_
  refine Vf ?_
  refine Vf ?_
  refine Vd ?_
  refine Va (Zi rfl) rfl ?_
  refine Ve ?_
  refine Xh ?_
  obtain ⟨o4, ho4, hF⟩ := Yf hF
  refine Vs (Yy (F_recirculate_spread_L1 p0 p1 p3) (fun s3 E' lw lc => Xz E' lw lc [(1, .vs 3 (Wa T_recirculate_arc.enc p1)), (3, .int .i64 p3), (4, .ptr (low.length + 0) 0 0 0), (9, .sl (low.length + 1) 0 0 (s3.2).length), (10, .bool s3.1)] low [⟨27, 2, [.agg [.vs 2 (Wa T_Place.enc p0.Places), .vs 10 (Wa T_Road.enc p0.Roads)]], 0⟩, ⟨4, 1, Wa Wc s3.2, 0⟩]) (fun o4 => OnlyE (.exit 0) (fun E' lw lc => Xz E' lw lc [(9, .sl (low.length + 0) 0 0 (o4).length)] low [⟨4, 1, Wa Wc o4, 0⟩])) ho4 ?_ (by rintro _ _ _ _ ⟨h, _⟩ <;> cases h) ?_) ?_
  ·exact Vp ⟨rfl, rfl, rfl, rfl, rfl, trivial⟩
  ·rintro s3 os3 _ _ _ hF hw
   unfold F_recirculate_spread_L1 at hF
   refine Yl hw ?_
   refine Vf ?_
   refine Vf ?_
   refine Vd ?_
   refine Va (Vr rfl) rfl ?_
   refine Ve ?_
   refine Xi rfl (fun c5 => ?_) (fun c5 => ?_)
   ·have hF := Yq c5 hF
    refine Xj ?_
    refine Xh ?_
    refine Vf ?_
    refine Vd ?_
    refine Va (Zi rfl) rfl ?_
    refine Ve ?_
    refine Vf ?_
    refine Vd ?_
    refine Va (Xw rfl) rfl ?_
    refine Va (Xo (Yu rfl rfl te_74) (congrArg (fun n : Nat => Wb .i64 (n : Int)) (Wh _))) rfl ?_
    refine Va (Vk rfl) rfl ?_
    refine Ve ?_
    refine Xh ?_
    obtain ⟨o7, ho7, hF⟩ := Yf hF
    refine Vs (Yy (F_recirculate_spread_L2 p0 p1 p3) (fun s6 E' lw lc => Xz E' lw lc [(1, .vs 3 (Wa T_recirculate_arc.enc p1)), (3, .int .i64 p3), (4, .ptr (low.length + 0) 0 0 0), (9, .sl (low.length + 1) 0 0 (s6.2.2).length), (10, .bool s6.1), (16, .vs 3 (Wa T_recirculate_arc.enc p1)), (17, .int .i64 ((p1).length : Int)), (18, .int .i64 s6.2.1)] low [⟨27, 2, [.agg [.vs 2 (Wa T_Place.enc p0.Places), .vs 10 (Wa T_Road.enc p0.Roads)]], 0⟩, ⟨4, 1, Wa Wc s6.2.2, 0⟩]) (fun o7 => OnlyE (.exit 2) (fun E' lw lc => Xz E' lw lc [(1, .vs 3 (Wa T_recirculate_arc.enc p1)), (3, .int .i64 p3), (4, .ptr (low.length + 0) 0 0 0), (9, .sl (low.length + 1) 0 0 (o7.2).length), (10, .bool o7.1)] low [⟨27, 2, [.agg [.vs 2 (Wa T_Place.enc p0.Places), .vs 10 (Wa T_Road.enc p0.Roads)]], 0⟩, ⟨4, 1, Wa Wc o7.2, 0⟩])) ho7 ?_ (by rintro _ _ _ _ ⟨h, _⟩ <;> cases h) ?_) ?_
    ·exact Vp ⟨rfl, rfl, rfl, rfl, rfl, rfl, rfl, rfl, trivial⟩
    ·rintro s6 os6 _ _ _ hF hw
     unfold F_recirculate_spread_L2 at hF
     refine Yl hw ?_
     refine Vf ?_
     refine Vd ?_
     refine Va (Yz rfl rfl) rfl ?_
     refine Ve ?_
     refine Vf ?_
     refine Xi rfl (fun c8 => ?_) (fun c8 => ?_)
     ·have hF := Yq c8 hF
      refine Xj ?_
      refine Vf ?_
      obtain ⟨o9, ho9, hF⟩ := Yf hF
      refine Vs (Q' := (fun o9 => OnlyE .normal (fun E' lw lc => Xz E' lw lc [(1, .vs 3 (Wa T_recirculate_arc.enc p1)), (3, .int .i64 p3), (4, .ptr (low.length + 0) 0 0 0), (9, .sl (low.length + 1) 0 0 (o9.2).length), (10, .bool o9.1), (16, .vs 3 (Wa T_recirculate_arc.enc p1)), (17, .int .i64 ((p1).length : Int)), (18, .int .i64 s6.2.1)] low [⟨27, 2, [.agg [.vs 2 (Wa T_Place.enc p0.Places), .vs 10 (Wa T_Road.enc p0.Roads)]], 0⟩, ⟨4, 1, Wa Wc o9.2, 0⟩])) o9) ?_ ?_
      ·replace hF := ho9
       refine Xh ?_
       refine Vf ?_
       refine Vd ?_
       obtain ⟨x10, h11, hF⟩ := Yf hF
       refine Va (Xo (Xu rfl rfl h11 te_74 ts_78) (v' := .vptr [.int .i64 x10.road, .int .i64 x10.from_, .int .i64 x10.to_] 0) rfl) rfl ?_
       refine Va (Zo (ds := [.int .i64 x10.road, .int .i64 x10.from_, .int .i64 x10.to_]) rfl ta_78 ts_78 rfl rfl) rfl ?_
       refine Vi (Xm rfl rfl tz_78 rfl rfl (Wf _) rfl) rfl ?_
       refine Vi (Vw (p := .agg [.int .i64 x10.road, .int .i64 x10.from_, .int .i64 x10.to_]) (e' := .agg [.int .i64 x10.road, .int .i64 x10.from_, .int .i64 x10.to_]) rfl (Vg rfl rfl) rfl rfl ts_78 rfl (Yg rfl) rfl (We rfl) rfl (Xn rfl rfl)) rfl ?_
       refine Ve ?_
       refine Vf ?_
       obtain ⟨o12, ho12, hF⟩ := Yf hF
       refine Vs (Q' := (fun o12 => OnlyE .normal (fun E' lw lc => Xz E' lw lc [(1, .vs 3 (Wa T_recirculate_arc.enc p1)), (3, .int .i64 p3), (4, .ptr (low.length + 1) 0 0 0), (9, .sl (low.length + 2) 0 0 (s6.2.2).length), (10, .bool s6.1), (12, .ptr (low.length + 0) 0 0 0), (16, .vs 3 (Wa T_recirculate_arc.enc p1)), (17, .int .i64 ((p1).length : Int)), (18, .int .i64 s6.2.1), (50, .bool o12)] low [⟨78, 3, [.agg [.int .i64 x10.road, .int .i64 x10.from_, .int .i64 x10.to_]], 0⟩, ⟨27, 2, [.agg [.vs 2 (Wa T_Place.enc p0.Places), .vs 10 (Wa T_Road.enc p0.Roads)]], 0⟩, ⟨4, 1, Wa Wc s6.2.2, 0⟩])) o12) ?_ ?_
       ·replace hF := ho12
        refine Vd ?_
        rcases Wg (decide (x10.road ≠ p3)) with c13 | c13
        ·have hF := Yq c13 hF
         obtain ⟨x14, h15, hF⟩ := Yf hF
         rcases Wg x14 with c16 | c16
         ·have hF := Yq c16 hF
          obtain ⟨x17, h18, hF⟩ := Yf hF
          rcases Wg (!x17) with c19 | c19
          ·have hF := Yq c19 hF
           obtain ⟨x20, h21, hF⟩ := Yf hF
           refine Va (Vb rfl tf_78_0 ts_3 (by decide)) rfl ?_
           refine Va (Vj rfl (Vg rfl rfl) rfl ta_3 rfl) rfl ?_
           refine Va (Vk rfl) rfl ?_
           refine Va (rd_neq rfl rfl) rfl ?_
           refine Va (Vr rfl) rfl ?_
           refine Xd rfl rfl c13 ?_
           refine Va (Yn rfl) rfl ?_
           refine Xd rfl rfl c13 ?_
           refine Va (Vb rfl tf_78_1 ts_3 (by decide)) rfl ?_
           refine Xd rfl rfl c13 ?_
           refine Va (Vj rfl (Vg rfl rfl) rfl ta_3 rfl) rfl ?_
           refine Xd rfl rfl c13 ?_
           refine Va (Zr rfl rfl rfl (Vg rfl rfl) h15 te_49 ts_4) rfl ?_
           refine Xd rfl rfl c13 ?_
           refine Va (Zs rfl (Vg rfl rfl) (Yi h15).2 ta_4 rfl) rfl ?_
           refine Va (Xc (congrArg Wc c13) rfl) rfl ?_
           refine Va (Vr rfl) rfl ?_
           refine Xd rfl rfl c16 ?_
           refine Va (Yn rfl) rfl ?_
           refine Xd rfl rfl c16 ?_
           refine Va (Vb rfl tf_78_2 ts_3 (by decide)) rfl ?_
           refine Xd rfl rfl c16 ?_
           refine Va (Vj rfl (Vg rfl rfl) rfl ta_3 rfl) rfl ?_
           refine Xd rfl rfl c16 ?_
           refine Va (Zr rfl rfl rfl (Vg rfl rfl) h18 te_49 ts_4) rfl ?_
           refine Xd rfl rfl c16 ?_
           refine Va (Zs rfl (Vg rfl rfl) (Yi h18).2 ta_4 rfl) rfl ?_
           refine Xd rfl rfl c16 ?_
           refine Va (rd_not rfl) rfl ?_
           refine Va (Xc (congrArg Wc c16) rfl) rfl ?_
           refine Va (Vr rfl) rfl ?_
           refine Xd rfl rfl c19 ?_
           refine Va (Vb rfl tf_27_0 ts_24 (by decide)) rfl ?_
           refine Xd rfl rfl c19 ?_
           refine Va (Vj rfl (Vg rfl rfl) rfl ta_24 rfl) rfl ?_
           refine Xd rfl rfl c19 ?_
           refine Va (Vb rfl tf_78_2 ts_3 (by decide)) rfl ?_
           refine Xd rfl rfl c19 ?_
           refine Va (Vj rfl (Vg rfl rfl) rfl ta_3 rfl) rfl ?_
           refine Xd rfl rfl c19 ?_
           refine Va (Xo (Xu rfl rfl h21 te_24 ts_48) (v' := .vptr [.int .i64 x20.Height, .bool x20.Surface] 0) rfl) rfl ?_
           refine Xd rfl rfl c19 ?_
           refine Va (Xq rfl tf_48_1 ts_4 (by decide)) rfl ?_
           refine Xd rfl rfl c19 ?_
           refine Va (Xe rfl ta_4 rfl) rfl ?_
           refine Xd rfl rfl c19 ?_
           refine Va (rd_not rfl) rfl ?_
           refine Va (Xc (congrArg Wc c19) rfl) rfl ?_
           refine Ve ?_
           obtain rfl := Wd hF
           refine Xk ?_
           exact Vm rfl [(2, 0), (0, 0), (1, 0)] (by decide) ⟨Vh rfl (.vs _ _), Vh rfl (.int _ _), Vt 1 0 rfl rfl, Yc 2 1 rfl rfl, Vh rfl (.bool _), Vt 0 2 rfl rfl, Vh rfl (.vs _ _), Vh rfl (.int _ _), Vh rfl (.int _ _), Vh rfl (.bool _), trivial⟩ ⟨⟨_, rfl, rfl, .same _ _ _ _ (Vn ⟨Vo ⟨.int _ _, .int _ _, .int _ _, trivial⟩, trivial⟩)⟩, ⟨_, rfl, rfl, .same _ _ _ _ (Vn ⟨Vo ⟨.vs _ _, .vs _ _, trivial⟩, trivial⟩)⟩, ⟨_, rfl, rfl, .same _ _ _ _ (Vq (fun _ => .bool _))⟩, trivial⟩
          ·have hF := Yr c19 hF
           refine Va (Vb rfl tf_78_0 ts_3 (by decide)) rfl ?_
           refine Va (Vj rfl (Vg rfl rfl) rfl ta_3 rfl) rfl ?_
           refine Va (Vk rfl) rfl ?_
           refine Va (rd_neq rfl rfl) rfl ?_
           refine Va (Vr rfl) rfl ?_
           refine Xd rfl rfl c13 ?_
           refine Va (Yn rfl) rfl ?_
           refine Xd rfl rfl c13 ?_
           refine Va (Vb rfl tf_78_1 ts_3 (by decide)) rfl ?_
           refine Xd rfl rfl c13 ?_
           refine Va (Vj rfl (Vg rfl rfl) rfl ta_3 rfl) rfl ?_
           refine Xd rfl rfl c13 ?_
           refine Va (Zr rfl rfl rfl (Vg rfl rfl) h15 te_49 ts_4) rfl ?_
           refine Xd rfl rfl c13 ?_
           refine Va (Zs rfl (Vg rfl rfl) (Yi h15).2 ta_4 rfl) rfl ?_
           refine Va (Xc (congrArg Wc c13) rfl) rfl ?_
           refine Va (Vr rfl) rfl ?_
           refine Xd rfl rfl c16 ?_
           refine Va (Yn rfl) rfl ?_
           refine Xd rfl rfl c16 ?_
           refine Va (Vb rfl tf_78_2 ts_3 (by decide)) rfl ?_
           refine Xd rfl rfl c16 ?_
           refine Va (Vj rfl (Vg rfl rfl) rfl ta_3 rfl) rfl ?_
           refine Xd rfl rfl c16 ?_
           refine Va (Zr rfl rfl rfl (Vg rfl rfl) h18 te_49 ts_4) rfl ?_
           refine Xd rfl rfl c16 ?_
           refine Va (Zs rfl (Vg rfl rfl) (Yi h18).2 ta_4 rfl) rfl ?_
           refine Xd rfl rfl c16 ?_
           refine Va (rd_not rfl) rfl ?_
           refine Va (Xc (congrArg Wc c16) rfl) rfl ?_
           refine Va (Vr rfl) rfl ?_
           refine Vc rfl rfl (Ze c19) rfl ?_
           refine Vc rfl rfl (Ze c19) rfl ?_
           refine Vc rfl rfl (Ze c19) rfl ?_
           refine Vc rfl rfl (Ze c19) rfl ?_
           refine Vc rfl rfl (Ze c19) rfl ?_
           refine Vc rfl rfl (Ze c19) rfl ?_
           refine Vc rfl rfl (Ze c19) rfl ?_
           refine Vc rfl rfl (Ze c19) rfl ?_
           refine Va (Vy (congrArg Wc c19) rfl) rfl ?_
           refine Ve ?_
           obtain rfl := Wd hF
           refine Xk ?_
           exact Vm rfl [(2, 0), (0, 0), (1, 0)] (by decide) ⟨Vh rfl (.vs _ _), Vh rfl (.int _ _), Vt 1 0 rfl rfl, Yc 2 1 rfl rfl, Vh rfl (.bool _), Vt 0 2 rfl rfl, Vh rfl (.vs _ _), Vh rfl (.int _ _), Vh rfl (.int _ _), Vh rfl (.bool _), trivial⟩ ⟨⟨_, rfl, rfl, .same _ _ _ _ (Vn ⟨Vo ⟨.int _ _, .int _ _, .int _ _, trivial⟩, trivial⟩)⟩, ⟨_, rfl, rfl, .same _ _ _ _ (Vn ⟨Vo ⟨.vs _ _, .vs _ _, trivial⟩, trivial⟩)⟩, ⟨_, rfl, rfl, .same _ _ _ _ (Vq (fun _ => .bool _))⟩, trivial⟩
         ·have hF := Yr c16 hF
          refine Va (Vb rfl tf_78_0 ts_3 (by decide)) rfl ?_
          refine Va (Vj rfl (Vg rfl rfl) rfl ta_3 rfl) rfl ?_
          refine Va (Vk rfl) rfl ?_
          refine Va (rd_neq rfl rfl) rfl ?_
          refine Va (Vr rfl) rfl ?_
          refine Xd rfl rfl c13 ?_
          refine Va (Yn rfl) rfl ?_
          refine Xd rfl rfl c13 ?_
          refine Va (Vb rfl tf_78_1 ts_3 (by decide)) rfl ?_
          refine Xd rfl rfl c13 ?_
          refine Va (Vj rfl (Vg rfl rfl) rfl ta_3 rfl) rfl ?_
          refine Xd rfl rfl c13 ?_
          refine Va (Zr rfl rfl rfl (Vg rfl rfl) h15 te_49 ts_4) rfl ?_
          refine Xd rfl rfl c13 ?_
          refine Va (Zs rfl (Vg rfl rfl) (Yi h15).2 ta_4 rfl) rfl ?_
          refine Va (Xc (congrArg Wc c13) rfl) rfl ?_
          refine Va (Vr rfl) rfl ?_
          refine Vc rfl rfl (Ze c16) rfl ?_
          refine Vc rfl rfl (Ze c16) rfl ?_
          refine Vc rfl rfl (Ze c16) rfl ?_
          refine Vc rfl rfl (Ze c16) rfl ?_
          refine Vc rfl rfl (Ze c16) rfl ?_
          refine Vc rfl rfl (Ze c16) rfl ?_
          refine Va (Vy (congrArg Wc c16) rfl) rfl ?_
          refine Va (Vr rfl) rfl ?_
          refine Vc rfl rfl (by decide) rfl ?_
          refine Vc rfl rfl (by decide) rfl ?_
          refine Vc rfl rfl (by decide) rfl ?_
          refine Vc rfl rfl (by decide) rfl ?_
          refine Vc rfl rfl (by decide) rfl ?_
          refine Vc rfl rfl (by decide) rfl ?_
          refine Vc rfl rfl (by decide) rfl ?_
          refine Vc rfl rfl (by decide) rfl ?_
          refine Va (Vy rfl rfl) rfl ?_
          refine Ve ?_
          obtain rfl := Wd hF
          refine Xk ?_
          exact Vm rfl [(2, 0), (0, 0), (1, 0)] (by decide) ⟨Vh rfl (.vs _ _), Vh rfl (.int _ _), Vt 1 0 rfl rfl, Yc 2 1 rfl rfl, Vh rfl (.bool _), Vt 0 2 rfl rfl, Vh rfl (.vs _ _), Vh rfl (.int _ _), Vh rfl (.int _ _), Vh rfl (.bool _), trivial⟩ ⟨⟨_, rfl, rfl, .same _ _ _ _ (Vn ⟨Vo ⟨.int _ _, .int _ _, .int _ _, trivial⟩, trivial⟩)⟩, ⟨_, rfl, rfl, .same _ _ _ _ (Vn ⟨Vo ⟨.vs _ _, .vs _ _, trivial⟩, trivial⟩)⟩, ⟨_, rfl, rfl, .same _ _ _ _ (Vq (fun _ => .bool _))⟩, trivial⟩
        ·have hF := Yr c13 hF
         refine Va (Vb rfl tf_78_0 ts_3 (by decide)) rfl ?_
         refine Va (Vj rfl (Vg rfl rfl) rfl ta_3 rfl) rfl ?_
         refine Va (Vk rfl) rfl ?_
         refine Va (rd_neq rfl rfl) rfl ?_
         refine Va (Vr rfl) rfl ?_
         refine Vc rfl rfl (Ze c13) rfl ?_
         refine Vc rfl rfl (Ze c13) rfl ?_
         refine Vc rfl rfl (Ze c13) rfl ?_
         refine Vc rfl rfl (Ze c13) rfl ?_
         refine Vc rfl rfl (Ze c13) rfl ?_
         refine Va (Vy (congrArg Wc c13) rfl) rfl ?_
         refine Va (Vr rfl) rfl ?_
         refine Vc rfl rfl (by decide) rfl ?_
         refine Vc rfl rfl (by decide) rfl ?_
         refine Vc rfl rfl (by decide) rfl ?_
         refine Vc rfl rfl (by decide) rfl ?_
         refine Vc rfl rfl (by decide) rfl ?_
         refine Vc rfl rfl (by decide) rfl ?_
         refine Va (Vy rfl rfl) rfl ?_
         refine Va (Vr rfl) rfl ?_
         refine Vc rfl rfl (by decide) rfl ?_
         refine Vc rfl rfl (by decide) rfl ?_
         refine Vc rfl rfl (by decide) rfl ?_
         refine Vc rfl rfl (by decide) rfl ?_
         refine Vc rfl rfl (by decide) rfl ?_
         refine Vc rfl rfl (by decide) rfl ?_
         refine Vc rfl rfl (by decide) rfl ?_
         refine Vc rfl rfl (by decide) rfl ?_
         refine Va (Vy rfl rfl) rfl ?_
         refine Ve ?_
         obtain rfl := Wd hF
         refine Xk ?_
         exact Vm rfl [(2, 0), (0, 0), (1, 0)] (by decide) ⟨Vh rfl (.vs _ _), Vh rfl (.int _ _), Vt 1 0 rfl rfl, Yc 2 1 rfl rfl, Vh rfl (.bool _), Vt 0 2 rfl rfl, Vh rfl (.vs _ _), Vh rfl (.int _ _), Vh rfl (.int _ _), Vh rfl (.bool _), trivial⟩ ⟨⟨_, rfl, rfl, .same _ _ _ _ (Vn ⟨Vo ⟨.int _ _, .int _ _, .int _ _, trivial⟩, trivial⟩)⟩, ⟨_, rfl, rfl, .same _ _ _ _ (Vn ⟨Vo ⟨.vs _ _, .vs _ _, trivial⟩, trivial⟩)⟩, ⟨_, rfl, rfl, .same _ _ _ _ (Vq (fun _ => .bool _))⟩, trivial⟩
       ·rintro _ _ _ _ ⟨rfl, hw⟩
        refine ⟨_, _, _, hw, ?_⟩
        refine Xi rfl (fun c22 => ?_) (fun c22 => ?_)
        ·have hF := Yq c22 hF
         refine Vd ?_
         obtain ⟨x23, h24, hF⟩ := Yf hF
         refine Va (Yn rfl) rfl ?_
         refine Va (Vb rfl tf_78_2 ts_3 (by decide)) rfl ?_
         refine Va (Vj rfl (Vg rfl rfl) rfl ta_3 rfl) rfl ?_
         refine Va (Zr rfl rfl rfl (Vg rfl rfl) h24 te_49 ts_4) rfl ?_
         refine Vi (vef_stL (p := .bool true) (e' := true) rfl (Vg rfl rfl) (Yi h24).2 rfl ts_4 rfl (Yg rfl) (We rfl) rfl (Xn rfl rfl)) rfl ?_
         refine Va (Zi rfl) rfl ?_
         refine Ve ?_
         obtain rfl := Wd hF
         refine Xk ?_
         exact Vm rfl [(1, 0), (2, 0)] (by decide) ⟨Vh rfl (.vs _ _), Vh rfl (.int _ _), Vt 0 1 rfl rfl, Yc 1 2 rfl (congrArg (PV.sl _ _ 0) (Eq.trans rfl List.length_set.symm)), Vh rfl (.bool _), Vh rfl (.vs _ _), Vh rfl (.int _ _), Vh rfl (.int _ _), trivial⟩ ⟨⟨_, rfl, rfl, .same _ _ _ _ (Vn ⟨Vo ⟨.vs _ _, .vs _ _, trivial⟩, trivial⟩)⟩, ⟨_, rfl, rfl, .same _ _ _ _ (Vq (fun _ => .bool _))⟩, trivial⟩
        ·have hF := Yr c22 hF
         refine Xj ?_
         obtain rfl := Wd hF
         refine Xk ?_
         exact Vm rfl [(1, 0), (2, 0)] (by decide) ⟨Vh rfl (.vs _ _), Vh rfl (.int _ _), Vt 0 1 rfl rfl, Yc 1 2 rfl rfl, Vh rfl (.bool _), Vh rfl (.vs _ _), Vh rfl (.int _ _), Vh rfl (.int _ _), trivial⟩ ⟨⟨_, rfl, rfl, .same _ _ _ _ (Vn ⟨Vo ⟨.vs _ _, .vs _ _, trivial⟩, trivial⟩)⟩, ⟨_, rfl, rfl, .same _ _ _ _ (Vq (fun _ => .bool _))⟩, trivial⟩
      ·rintro _ _ _ _ ⟨rfl, hw⟩
       refine ⟨_, _, _, hw, ?_⟩
       refine Vd ?_
       refine Va (Zf rfl rfl rfl) rfl ?_
       refine Va (Vk rfl) rfl ?_
       refine Ve ?_
       obtain rfl := Wd hF
       refine Xk ?_
       exact Vp ⟨rfl, rfl, rfl, rfl, rfl, rfl, rfl, rfl, trivial⟩
     ·have hF := Yr c8 hF
      refine Zd ?_
      obtain rfl := Wd hF
      refine Xk ?_
      exact Vp ⟨rfl, rfl, rfl, rfl, rfl, trivial⟩
    ·rintro _ _ _ _ ⟨rfl, hw⟩
     refine ⟨_, _, _, hw, ?_⟩
     obtain rfl := Wd hF
     refine Xk ?_
     exact Vp ⟨rfl, rfl, rfl, rfl, rfl, trivial⟩
   ·have hF := Yr c5 hF
    refine Zd ?_
    obtain rfl := Wd hF
    refine Xk ?_
    exact Vm rfl [(1, 0)] (by decide) ⟨Yc 0 1 rfl rfl, trivial⟩ ⟨⟨_, rfl, rfl, .same _ _ _ _ (Vq (fun _ => .bool _))⟩, trivial⟩
  ·rintro _ _ _ _ ⟨rfl, hw⟩
   refine ⟨_, _, _, hw, ?_⟩
   refine Vf ?_
   refine Vd ?_
   refine Va (Yn rfl) rfl ?_
   refine Va (rd_asL rfl) rfl ?_
   refine Ve ?_
   refine Yb ?_
   obtain rfl := Wd hF
   refine fnR ?_
   refine Weak.trans (Yv (E' := [(8, .vs 1 (Wa Wc o4))]) (loc1 := [⟨4, 1, [], 0 + 1⟩]) rfl 0 rfl (Ym (fun _ => .bool _)) ⟨cv_sl rfl rfl rfl (Zj rfl), trivial⟩ ⟨.refl _, trivial⟩) ?_
   exact Vm rfl [] (by decide) ⟨Vh rfl (.vs _ _), trivial⟩ trivial
 ·rintro _ _ _ _ ⟨he, hw⟩
  refine ⟨_, _, _, hw, ?_⟩
  exact Zc he [.vs 1 (Wa Wc r)] ⟨rfl, trivial⟩ (.vs _ _) ⟨rfl, rfl⟩

theorem F_recirculate_circles_ok {p0 : T_Mine} {p1 : List T_recirculate_arc} {r : List T_recirculate_arc} (hF : F_recirculate_circles p0 p1 = some r) (low : List AObj) :
    Zh Try.prog 34 [.agg [.vs 2 (Wa T_Place.enc p0.Places), .vs 10 (Wa T_Road.enc p0.Roads)], .vs 3 (Wa T_recirculate_arc.enc p1)] low fun x low' => x = .vs 3 (Wa T_recirculate_arc.enc r) ∧ low' = low := by
 refine Xr (nt := 55) (rs := [.tmp 4]) Try.func34 rfl rfl (We rfl) rfl ?_
 refine Vs (Q' := FnE (fun E' lw lc => Xz E' lw lc [(4, .vs 3 (Wa T_recirculate_arc.enc r))] low [])) ?_ ?_
 ·unfold F_recirculate_circles at hF
  refine Vf ?_
  refine Vd ?_
  refine Vi (Zx rfl rfl (v := .agg [.vs 2 (Wa T_Place.enc p0.Places), .vs 10 (Wa T_Road.enc p0.Roads)]) rfl rfl (Wf _) rfl rfl) rfl ?_
  refine Va (rd_nv (sz := 3) (rd_asN rfl)) rfl ?_
  refine Ve ?_
  refine Vf ?_
  refine Vd ?_
  refine Vi (vef_nilsN rfl rfl 78 3 (Wf _) (rd_asN rfl)) rfl ?_
  refine Ve ?_
  refine Vf ?_
  refine Vf ?_
  refine Vd ?_
  refine Va (Xw rfl) rfl ?_
  refine Va (Xo (Yu rfl rfl te_74) (congrArg (fun n : Nat => Wb .i64 (n : Int)) (Wh _))) rfl ?_
  refine Va (Vk rfl) rfl ?_
  refine Ve ?_
  refine Xh ?_
  obtain ⟨o2, ho2, hF⟩ := Yf hF
  refine Vs (Yy (F_recirculate_circles_L1 p0 p1) (fun s1 E' lw lc => Xz E' lw lc [(1, .vs 3 (Wa T_recirculate_arc.enc p1)), (2, .ptr (low.length + 0) 0 0 0), (5, .sl (low.length + 1) 0 0 (s1.2).length), (9, .vs 3 (Wa T_recirculate_arc.enc p1)), (10, .int .i64 ((p1).length : Int)), (11, .int .i64 s1.1)] low [⟨27, 2, [.agg [.vs 2 (Wa T_Place.enc p0.Places), .vs 10 (Wa T_Road.enc p0.Roads)]], 0⟩, ⟨78, 3, Wa T_recirculate_arc.enc s1.2, 0⟩]) (fun o2 => OnlyE (.exit 0) (fun E' lw lc => Xz E' lw lc [(5, .sl (low.length + 0) 0 0 (o2).length)] low [⟨78, 3, Wa T_recirculate_arc.enc o2, 0⟩])) ho2 ?_ (by rintro _ _ _ _ ⟨h, _⟩ <;> cases h) ?_) ?_
  ·exact Vp ⟨rfl, rfl, rfl, rfl, rfl, rfl, trivial⟩
  ·rintro s1 os1 _ _ _ hF hw
   unfold F_recirculate_circles_L1 at hF
   refine Yl hw ?_
   refine Vf ?_
   refine Vd ?_
   refine Va (Yz rfl rfl) rfl ?_
   refine Ve ?_
   refine Vf ?_
   refine Xi rfl (fun c3 => ?_) (fun c3 => ?_)
   ·have hF := Yq c3 hF
    refine Xj ?_
    refine Vf ?_
    obtain ⟨o4, ho4, hF⟩ := Yf hF
    refine Vs (Q' := (fun o4 => OnlyE .normal (fun E' lw lc => Xz E' lw lc [(1, .vs 3 (Wa T_recirculate_arc.enc p1)), (2, .ptr (low.length + 0) 0 0 0), (5, .sl (low.length + 1) 0 0 (o4).length), (9, .vs 3 (Wa T_recirculate_arc.enc p1)), (10, .int .i64 ((p1).length : Int)), (11, .int .i64 s1.1)] low [⟨27, 2, [.agg [.vs 2 (Wa T_Place.enc p0.Places), .vs 10 (Wa T_Road.enc p0.Roads)]], 0⟩, ⟨78, 3, Wa T_recirculate_arc.enc o4, 0⟩])) o4) ?_ ?_
    ·replace hF := ho4
     refine Xh ?_
     refine Vf ?_
     refine Vd ?_
     obtain ⟨x5, h6, hF⟩ := Yf hF
     refine Va (Xo (Xu rfl rfl h6 te_74 ts_78) (v' := .vptr [.int .i64 x5.road, .int .i64 x5.from_, .int .i64 x5.to_] 0) rfl) rfl ?_
     refine Va (Zo (ds := [.int .i64 x5.road, .int .i64 x5.from_, .int .i64 x5.to_]) rfl ta_78 ts_78 rfl rfl) rfl ?_
     refine Vi (Xm rfl rfl tz_78 rfl rfl (Wf _) rfl) rfl ?_
     refine Vi (Vw (p := .agg [.int .i64 x5.road, .int .i64 x5.from_, .int .i64 x5.to_]) (e' := .agg [.int .i64 x5.road, .int .i64 x5.from_, .int .i64 x5.to_]) rfl (Vg rfl rfl) rfl rfl ts_78 rfl (Yg rfl) rfl (We rfl) rfl (Xn rfl rfl)) rfl ?_
     refine Ve ?_
     refine Vf ?_
     refine Vf ?_
     obtain ⟨o7, ho7, hF⟩ := Yf hF
     refine Vs (Q' := (fun o7 => OnlyE .normal (fun E' lw lc => Xz E' lw lc [(1, .vs 3 (Wa T_recirculate_arc.enc p1)), (2, .ptr (low.length + 0) 0 0 0), (5, .sl (low.length + 1) 0 0 (s1.2).length), (7, .ptr (low.length + 2) 0 0 0), (9, .vs 3 (Wa T_recirculate_arc.enc p1)), (10, .int .i64 ((p1).length : Int)), (11, .int .i64 s1.1), (30, .bool o7)] low [⟨27, 2, [.agg [.vs 2 (Wa T_Place.enc p0.Places), .vs 10 (Wa T_Road.enc p0.Roads)]], 0⟩, ⟨78, 3, Wa T_recirculate_arc.enc s1.2, 0⟩, ⟨78, 3, [.agg [.int .i64 x5.road, .int .i64 x5.from_, .int .i64 x5.to_]], 0⟩])) o7) ?_ ?_
     ·replace hF := ho7
      refine Vd ?_
      obtain ⟨x8, h9, hF⟩ := Yf hF
      rcases Wg x8.Surface with c10 | c10
      ·have hF := Yq c10 hF
       refine Va (Vb rfl tf_27_0 ts_24 (by decide)) rfl ?_
       refine Va (Vj rfl (Vg rfl rfl) rfl ta_24 rfl) rfl ?_
       refine Va (Vb rfl tf_78_1 ts_3 (by decide)) rfl ?_
       refine Va (Vj rfl (Vg rfl rfl) rfl ta_3 rfl) rfl ?_
       refine Va (Xo (Xu rfl rfl h9 te_24 ts_48) (v' := .vptr [.int .i64 x8.Height, .bool x8.Surface] 0) rfl) rfl ?_
       refine Va (Xq rfl tf_48_1 ts_4 (by decide)) rfl ?_
       refine Va (Xe rfl ta_4 rfl) rfl ?_
       refine Va (Vr rfl) rfl ?_
       refine Vc rfl rfl (neT c10) rfl ?_
       refine Vc rfl rfl (neT c10) rfl ?_
       refine Vc rfl rfl (neT c10) rfl ?_
       refine Vc rfl rfl (neT c10) rfl ?_
       refine Vc rfl rfl (neT c10) rfl ?_
       refine Vc rfl rfl (neT c10) rfl ?_
       refine Vc rfl rfl (neT c10) rfl ?_
       refine Va (Xc (congrArg Wc c10) rfl) rfl ?_
       refine Ve ?_
       obtain rfl := Wd hF
       refine Xk ?_
       exact Vp ⟨rfl, rfl, rfl, rfl, rfl, rfl, rfl, rfl, trivial⟩
      ·have hF := Yr c10 hF
       obtain ⟨x11, h12, hF⟩ := Yf hF
       refine Va (Vb rfl tf_27_0 ts_24 (by decide)) rfl ?_
       refine Va (Vj rfl (Vg rfl rfl) rfl ta_24 rfl) rfl ?_
       refine Va (Vb rfl tf_78_1 ts_3 (by decide)) rfl ?_
       refine Va (Vj rfl (Vg rfl rfl) rfl ta_3 rfl) rfl ?_
       refine Va (Xo (Xu rfl rfl h9 te_24 ts_48) (v' := .vptr [.int .i64 x8.Height, .bool x8.Surface] 0) rfl) rfl ?_
       refine Va (Xq rfl tf_48_1 ts_4 (by decide)) rfl ?_
       refine Va (Xe rfl ta_4 rfl) rfl ?_
       refine Va (Vr rfl) rfl ?_
       refine Xd rfl rfl c10 ?_
       refine Va (Vb rfl tf_27_0 ts_24 (by decide)) rfl ?_
       refine Xd rfl rfl c10 ?_
       refine Va (Vj rfl (Vg rfl rfl) rfl ta_24 rfl) rfl ?_
       refine Xd rfl rfl c10 ?_
       refine Va (Vb rfl tf_78_2 ts_3 (by decide)) rfl ?_
       refine Xd rfl rfl c10 ?_
       refine Va (Vj rfl (Vg rfl rfl) rfl ta_3 rfl) rfl ?_
       refine Xd rfl rfl c10 ?_
       refine Va (Xo (Xu rfl rfl h12 te_24 ts_48) (v' := .vptr [.int .i64 x11.Height, .bool x11.Surface] 0) rfl) rfl ?_
       refine Xd rfl rfl c10 ?_
       refine Va (Xq rfl tf_48_1 ts_4 (by decide)) rfl ?_
       refine Xd rfl rfl c10 ?_
       refine Va (Xe rfl ta_4 rfl) rfl ?_
       refine Va (Vy (congrArg Wc c10) rfl) rfl ?_
       refine Ve ?_
       obtain rfl := Wd hF
       refine Xk ?_
       exact Vp ⟨rfl, rfl, rfl, rfl, rfl, rfl, rfl, rfl, trivial⟩
     ·rintro _ _ _ _ ⟨rfl, hw⟩
      refine ⟨_, _, _, hw, ?_⟩
      refine Xi rfl (fun c13 => ?_) (fun c13 => ?_)
      ·have hF := Yq c13 hF
       refine Zd ?_
       obtain rfl := Wd hF
       refine Xk ?_
       exact Vm rfl [(0, 0), (1, 0)] (by decide) ⟨Vh rfl (.vs _ _), Vt 0 0 rfl rfl, Yc 1 1 rfl rfl, Vh rfl (.vs _ _), Vh rfl (.int _ _), Vh rfl (.int _ _), trivial⟩ ⟨⟨_, rfl, rfl, .same _ _ _ _ (Vn ⟨Vo ⟨.vs _ _, .vs _ _, trivial⟩, trivial⟩)⟩, ⟨_, rfl, rfl, .same _ _ _ _ (Vq T_recirculate_arc.enc_lt)⟩, trivial⟩
      ·have hF := Yr c13 hF
       refine Xj ?_
       refine Vf ?_
       refine Vd ?_
       obtain ⟨x14, h15, hF⟩ := Yf hF
       refine Va (Vb rfl tf_27_0 ts_24 (by decide)) rfl ?_
       refine Va (Vj rfl (Vg rfl rfl) rfl ta_24 rfl) rfl ?_
       refine Va (Xo (Yu rfl rfl te_24) (congrArg (fun n : Nat => Wb .i64 (n : Int)) (Wh _))) rfl ?_
       refine Vi (vef_mkN (f := Wc) (zz := false) rfl rfl rfl rfl te_49 ts_4 tb_4 (by decide) tz_4 rfl rfl (Wf _) rfl h15) rfl ?_
       refine Va (rd_asL rfl) rfl ?_
       refine Ve ?_
       refine Vf ?_
       refine Vd ?_
       obtain ⟨x16, h17, hF⟩ := Yf hF
       refine Va (Yn rfl) rfl ?_
       refine Va (Vb rfl tf_78_2 ts_3 (by decide)) rfl ?_
       refine Va (Vj rfl (Vg rfl rfl) rfl ta_3 rfl) rfl ?_
       refine Va (Zr rfl rfl rfl (Vg rfl rfl) h17 te_49 ts_4) rfl ?_
       refine Vi (vef_stL (p := .bool true) (e' := true) rfl (Vg rfl rfl) (Yi h17).2 rfl ts_4 rfl (Yg rfl) (We rfl) rfl (Xn rfl rfl)) rfl ?_
       refine Ve ?_
       refine Vf ?_
       refine Yl (Yv (E' := [(1, .vs 3 (Wa T_recirculate_arc.enc p1)), (2, .ptr (low.length + 0) 0 0 0), (5, .sl (low.length + 1) 0 0 (s1.2).length), (7, .ptr (low.length + 2) 0 0 0), (8, .vs 1 (Wa Wc (x14.set ((x5.to_).toNat) true))), (9, .vs 3 (Wa T_recirculate_arc.enc p1)), (10, .int .i64 ((p1).length : Int)), (11, .int .i64 s1.1)]) (loc1 := [⟨27, 2, [.agg [.vs 2 (Wa T_Place.enc p0.Places), .vs 10 (Wa T_Road.enc p0.Roads)]], 0⟩, ⟨78, 3, Wa T_recirculate_arc.enc s1.2, 0⟩, ⟨78, 3, [.agg [.int .i64 x5.road, .int .i64 x5.from_, .int .i64 x5.to_]], 0⟩, ⟨4, 1, [], 0 + 1⟩]) rfl 3 rfl (Ym (fun _ => .bool _)) ⟨Vu rfl, Vu rfl, Vu rfl, Vu rfl, cv_sl rfl rfl rfl (Zj (Eq.trans rfl List.length_set.symm)), Vu rfl, Vu rfl, Vu rfl, trivial⟩ ⟨.refl _, .refl _, .refl _, .refl _, trivial⟩) ?_
       obtain ⟨x18, h19, hF⟩ := Yf hF
       obtain ⟨x20, h21, hF⟩ := Yf hF
       refine Zy [[], [], [], [], [3], [0, 1, 2, 3, 4], [], [6], [0, 1, 2, 3, 4, 5, 6, 7], [0, 1, 2, 3, 4, 5, 6, 7, 8]] mixed (by kernel_rfl) rfl ?_
       refine Yd rfl rfl (Xa (ds := [.vs 2 (Wa T_Place.enc p0.Places), .vs 10 (Wa T_Road.enc p0.Roads)]) rfl (Vg rfl rfl) rfl ta_27 ts_27 rfl rfl rfl) ?_
       refine Yd rfl rfl (Xw rfl) ?_
       refine Yd rfl rfl (Xw rfl) ?_
       refine Yd rfl rfl (Vb rfl tf_78_0 ts_3 (by decide)) ?_
       refine Yd rfl rfl (Vj rfl (Vg rfl rfl) rfl ta_3 rfl) ?_
       refine dn1 rfl rfl (nt_of (Xx rfl Try.call36 (F_recirculate_spread_ok h19 _))) ?_
       refine Yd rfl rfl (Vb rfl tf_78_1 ts_3 (by decide)) ?_
       refine Yd rfl rfl (Vj rfl (Vg rfl rfl) rfl ta_3 rfl) ?_
       refine Yd rfl rfl (Xo (Xu rfl rfl h21 te_49 ts_4) (v' := .vptr [.bool x20] 0) rfl) ?_
       refine Yd rfl rfl (Xe rfl ta_4 rfl) ?_
       refine Yx ?_
       refine Xi rfl (fun c22 => ?_) (fun c22 => ?_)
       ·have hF := Yq c22 hF
        refine Vd ?_
        obtain ⟨x23, h24, hF⟩ := Yf hF
        refine Va (Yn rfl) rfl ?_
        refine Va (Xa (ds := [.int .i64 x5.road, .int .i64 x5.from_, .int .i64 x5.to_]) rfl (Vg rfl rfl) rfl ta_78 ts_78 rfl rfl rfl) rfl ?_
        refine Vi (Yt (es := Wa T_recirculate_arc.enc [x5]) ⟨rfl, rfl, trivial⟩ rfl rfl (Zm rfl) te_74 ts_78 tz_78 rfl rfl (Wf _) (by decide) (Ym T_recirculate_arc.enc_lt)) rfl ?_
        refine Vi (Zw (f := T_recirculate_arc.enc) (l := s1.2) (ys := [x5]) rfl rfl (Vg rfl rfl) rfl (src_vs rfl) te_74 ts_78 tb_78 (by decide) tz_78 rfl h24 (Xn rfl rfl)) rfl ?_
        refine Va (rd_asL rfl) rfl ?_
        refine Ve ?_
        obtain rfl := Wd hF
        refine Xk ?_
        exact Vm rfl [(0, 0), (1, 0 + 1)] (by decide) ⟨Vh rfl (.vs _ _), Vt 0 0 rfl rfl, Yc 1 1 rfl rfl, Vh rfl (.vs _ _), Vh rfl (.int _ _), Vh rfl (.int _ _), trivial⟩ ⟨⟨_, rfl, rfl, .same _ _ _ _ (Vn ⟨Vo ⟨.vs _ _, .vs _ _, trivial⟩, trivial⟩)⟩, ⟨_, rfl, rfl, .same _ _ _ _ (Vq T_recirculate_arc.enc_lt)⟩, trivial⟩
       ·have hF := Yr c22 hF
        refine Xj ?_
        obtain rfl := Wd hF
        refine Xk ?_
        exact Vm rfl [(0, 0), (1, 0)] (by decide) ⟨Vh rfl (.vs _ _), Vt 0 0 rfl rfl, Yc 1 1 rfl rfl, Vh rfl (.vs _ _), Vh rfl (.int _ _), Vh rfl (.int _ _), trivial⟩ ⟨⟨_, rfl, rfl, .same _ _ _ _ (Vn ⟨Vo ⟨.vs _ _, .vs _ _, trivial⟩, trivial⟩)⟩, ⟨_, rfl, rfl, .same _ _ _ _ (Vq T_recirculate_arc.enc_lt)⟩, trivial⟩
    ·rintro _ _ _ _ ⟨rfl, hw⟩
     refine ⟨_, _, _, hw, ?_⟩
     refine Vd ?_
     refine Va (Zf rfl rfl rfl) rfl ?_
     refine Va (Vk rfl) rfl ?_
     refine Ve ?_
     obtain rfl := Wd hF
     refine Xk ?_
     exact Vp ⟨rfl, rfl, rfl, rfl, rfl, rfl, trivial⟩
   ·have hF := Yr c3 hF
    refine Zd ?_
    obtain rfl := Wd hF
    refine Xk ?_
    exact Vm rfl [(1, 0)] (by decide) ⟨Yc 0 1 rfl rfl, trivial⟩ ⟨⟨_, rfl, rfl, .same _ _ _ _ (Vq T_recirculate_arc.enc_lt)⟩, trivial⟩
  ·rintro _ _ _ _ ⟨rfl, hw⟩
   refine ⟨_, _, _, hw, ?_⟩
   refine Vf ?_
   refine Vd ?_
   refine Va (Yn rfl) rfl ?_
   refine Va (rd_asL rfl) rfl ?_
   refine Ve ?_
   refine Yb ?_
   obtain rfl := Wd hF
   refine fnR ?_
   refine Weak.trans (Yv (E' := [(4, .vs 3 (Wa T_recirculate_arc.enc o2))]) (loc1 := [⟨78, 3, [], 0 + 1⟩]) rfl 0 rfl (Ym T_recirculate_arc.enc_lt) ⟨cv_sl rfl rfl rfl (Zj rfl), trivial⟩ ⟨.refl _, trivial⟩) ?_
   exact Vm rfl [] (by decide) ⟨Vh rfl (.vs _ _), trivial⟩ trivial
 ·rintro _ _ _ _ ⟨he, hw⟩
  refine ⟨_, _, _, hw, ?_⟩
  exact Zc he [.vs 3 (Wa T_recirculate_arc.enc r)] ⟨rfl, trivial⟩ (.vs _ _) ⟨rfl, rfl⟩

theorem F_recirculate_Circles_ok {p0 : T_Mine} {p1 : List T_Span} {r : List Int} (hF : F_recirculate_Circles p0 p1 = some r) (low : List AObj) :
    Zh Try.prog 12 [.agg [.vs 2 (Wa T_Place.enc p0.Places), .vs 10 (Wa T_Road.enc p0.Roads)], .vs 2 (Wa T_Span.enc p1)] low fun x low' => x = .vs 1 (Wa (Wb .i64) r) ∧ low' = low := by
 refine Xr (nt := 45) (rs := [.tmp 4]) Try.func12 rfl rfl (We rfl) rfl ?_
 refine Vs (Q' := FnE (fun E' lw lc => Xz E' lw lc [(4, .vs 1 (Wa (Wb .i64) r))] low [])) ?_ ?_
 ·unfold F_recirculate_Circles at hF
  refine Vf ?_
  refine Vd ?_
  refine Vi (Zx rfl rfl (v := .agg [.vs 2 (Wa T_Place.enc p0.Places), .vs 10 (Wa T_Road.enc p0.Roads)]) rfl rfl (Wf _) rfl rfl) rfl ?_
  refine Va (rd_nv (sz := 1) (rd_asN rfl)) rfl ?_
  refine Ve ?_
  refine Vf ?_
  refine Vd ?_
  obtain ⟨x1, h2, hF⟩ := Yf hF
  refine Va (Xa (ds := [.vs 2 (Wa T_Place.enc p0.Places), .vs 10 (Wa T_Road.enc p0.Roads)]) rfl (Vg rfl rfl) rfl ta_27 ts_27 rfl rfl rfl) rfl ?_
  refine Va (Xw rfl) rfl ?_
  refine Vi (Xx rfl Try.call30 (F_recirculate_arcs_ok h2 _)) rfl ?_
  refine Va (rd_mvT rfl) rfl ?_
  refine Va (rd_extract rfl rfl) rfl ?_
  refine Va (rd_extract rfl rfl) rfl ?_
  refine Va (rd_asV rfl) rfl ?_
  refine Va (Zi rfl) rfl ?_
  refine Ve ?_
  refine Vf ?_
  refine Vd ?_
  refine Vi (vef_nilsN rfl rfl 3 1 (Wf _) (rd_asN rfl)) rfl ?_
  refine Ve ?_
  refine Vf ?_
  refine Vf ?_
  refine Vd ?_
  obtain ⟨x3, h4, hF⟩ := Yf hF
  refine Va (Xa (ds := [.vs 2 (Wa T_Place.enc p0.Places), .vs 10 (Wa T_Road.enc p0.Roads)]) rfl (Vg rfl rfl) rfl ta_27 ts_27 rfl rfl rfl) rfl ?_
  refine Va (Xw rfl) rfl ?_
  refine Vi (Xx rfl Try.call34 (F_recirculate_circles_ok h4 _)) rfl ?_
  refine Va (Xo (Yu rfl rfl te_74) (congrArg (fun n : Nat => Wb .i64 (n : Int)) (Wh _))) rfl ?_
  refine Va (Vk rfl) rfl ?_
  refine Ve ?_
  refine Xh ?_
  obtain ⟨o6, ho6, hF⟩ := Yf hF
  refine Vs (Yy (F_recirculate_Circles_L1 x3) (fun s5 E' lw lc => Xz E' lw lc [(7, .sl (low.length + 0) 0 0 (s5.2).length), (18, .vs 3 (Wa T_recirculate_arc.enc x3)), (19, .int .i64 ((x3).length : Int)), (20, .int .i64 s5.1)] low [⟨3, 1, Wa (Wb .i64) s5.2, 0⟩]) (fun o6 => OnlyE (.exit 0) (fun E' lw lc => Xz E' lw lc [(7, .sl (low.length + 0) 0 0 (o6).length)] low [⟨3, 1, Wa (Wb .i64) o6, 0⟩])) ho6 ?_ (by rintro _ _ _ _ ⟨h, _⟩ <;> cases h) ?_) ?_
  ·exact Vm rfl [(1, 0)] (by decide) ⟨Yc 0 1 rfl rfl, Vh rfl (.vs _ _), Vh rfl (.int _ _), Vh rfl (.int _ _), trivial⟩ ⟨⟨_, rfl, rfl, .same _ _ _ _ (Vn trivial)⟩, trivial⟩
  ·rintro s5 os5 _ _ _ hF hw
   unfold F_recirculate_Circles_L1 at hF
   refine Yl hw ?_
   refine Vf ?_
   refine Vd ?_
   refine Va (Yz rfl rfl) rfl ?_
   refine Ve ?_
   refine Vf ?_
   refine Xi rfl (fun c7 => ?_) (fun c7 => ?_)
   ·have hF := Yq c7 hF
    refine Xj ?_
    refine Vf ?_
    obtain ⟨o8, ho8, hF⟩ := Yf hF
    refine Vs (Q' := (fun o8 => OnlyE .normal (fun E' lw lc => Xz E' lw lc [(7, .sl (low.length + 0) 0 0 (o8).length), (18, .vs 3 (Wa T_recirculate_arc.enc x3)), (19, .int .i64 ((x3).length : Int)), (20, .int .i64 s5.1)] low [⟨3, 1, Wa (Wb .i64) o8, 0⟩])) o8) ?_ ?_
    ·replace hF := ho8
     refine Xh ?_
     refine Vf ?_
     refine Vd ?_
     obtain ⟨x9, h10, hF⟩ := Yf hF
     refine Va (Xo (Xu rfl rfl h10 te_74 ts_78) (v' := .vptr [.int .i64 x9.road, .int .i64 x9.from_, .int .i64 x9.to_] 0) rfl) rfl ?_
     refine Va (Zo (ds := [.int .i64 x9.road, .int .i64 x9.from_, .int .i64 x9.to_]) rfl ta_78 ts_78 rfl rfl) rfl ?_
     refine Vi (Xm rfl rfl tz_78 rfl rfl (Wf _) rfl) rfl ?_
     refine Vi (Vw (p := .agg [.int .i64 x9.road, .int .i64 x9.from_, .int .i64 x9.to_]) (e' := .agg [.int .i64 x9.road, .int .i64 x9.from_, .int .i64 x9.to_]) rfl (Vg rfl rfl) rfl rfl ts_78 rfl (Yg rfl) rfl (We rfl) rfl (Xn rfl rfl)) rfl ?_
     refine Ve ?_
     refine Vf ?_
     obtain ⟨o11, ho11, hF⟩ := Yf hF
     refine Vs (Q' := (fun o11 => OnlyE .normal (fun E' lw lc => Xz E' lw lc [(7, .sl (low.length + 0) 0 0 (s5.2).length), (9, .ptr (low.length + 1) 0 0 0), (18, .vs 3 (Wa T_recirculate_arc.enc x3)), (19, .int .i64 ((x3).length : Int)), (20, .int .i64 s5.1), (37, .bool o11)] low [⟨3, 1, Wa (Wb .i64) s5.2, 0⟩, ⟨78, 3, [.agg [.int .i64 x9.road, .int .i64 x9.from_, .int .i64 x9.to_]], 0⟩])) o11) ?_ ?_
     ·replace hF := ho11
      rcases Wg (decide (((s5.2).length : Int) = 0)) with c12 | c12
      ·have hF := Yq c12 hF
       refine Zy [[], [0], [0, 1], [0, 1, 2], [0, 1, 2, 3], [0, 1, 2, 3], [0, 1, 2, 3, 5], [0, 1, 2, 3, 5, 6], [0, 1, 2, 3, 4, 5, 6, 7], [0, 1, 2, 3, 4, 5, 6, 7, 8], [0, 1, 2, 3], [0, 1, 2, 3, 10], [0, 1, 2, 3, 4, 5, 6, 7, 8, 9, 10, 11], [0, 1, 2, 3, 4, 5, 6, 7, 8, 9, 10, 11, 12]] mixed (by kernel_rfl) rfl ?_
       refine Yd rfl rfl (Yn rfl) ?_
       refine Yd rfl rfl (rd_lenS rfl (Vg rfl rfl) rfl rfl te_32) ?_
       refine Yd rfl rfl (Zk rfl rfl) ?_
       refine Yd rfl rfl (Vr rfl) ?_
       refine Zg rfl rfl rfl (neT c12) ?_
       refine Zg rfl rfl rfl (neT c12) ?_
       refine Zg rfl rfl rfl (neT c12) ?_
       refine Zg rfl rfl rfl (neT c12) ?_
       refine Zg rfl rfl rfl (neT c12) ?_
       refine Zg rfl rfl rfl (neT c12) ?_
       refine Zg rfl rfl rfl (neT c12) ?_
       refine Zg rfl rfl rfl (neT c12) ?_
       refine Zg rfl rfl rfl (neT c12) ?_
       refine Yd rfl rfl (Xc (congrArg Wc c12) rfl) ?_
       refine Yx ?_
       obtain rfl := Wd hF
       refine Xk ?_
       exact Vp ⟨rfl, rfl, rfl, rfl, rfl, rfl, trivial⟩
      ·have hF := Yr c12 hF
       obtain ⟨x13, h14, hF⟩ := Yf hF
       refine Zy [[], [0], [0, 1], [0, 1, 2], [0, 1, 2, 3], [0, 1, 2, 3], [0, 1, 2, 3, 5], [0, 1, 2, 3, 5, 6], [0, 1, 2, 3, 4, 5, 6, 7], [0, 1, 2, 3, 4, 5, 6, 7, 8], [0, 1, 2, 3], [0, 1, 2, 3, 10], [0, 1, 2, 3, 4, 5, 6, 7, 8, 9, 10, 11], [0, 1, 2, 3, 4, 5, 6, 7, 8, 9, 10, 11, 12]] mixed (by kernel_rfl) rfl ?_
       refine Yd rfl rfl (Yn rfl) ?_
       refine Yd rfl rfl (rd_lenS rfl (Vg rfl rfl) rfl rfl te_32) ?_
       refine Yd rfl rfl (Zk rfl rfl) ?_
       refine Yd rfl rfl (Vr rfl) ?_
       refine dt1 rfl rfl rfl rfl c12 (Yn rfl) ?_
       refine dt1 rfl rfl rfl rfl c12 (Yn rfl) ?_
       refine dt1 rfl rfl rfl rfl c12 (rd_lenS rfl (Vg rfl rfl) rfl rfl te_32) ?_
       refine dt1 rfl rfl rfl rfl c12 (Zp rfl rfl rfl) ?_
       refine dt1 rfl rfl rfl rfl c12 (Zr rfl rfl rfl (Vg rfl rfl) h14 te_32 ts_3) ?_
       refine dt1 rfl rfl rfl rfl c12 (Zs rfl (Vg rfl rfl) (Yi h14).2 ta_3 rfl) ?_
       refine dt1 rfl rfl rfl rfl c12 (Vb rfl tf_78_0 ts_3 (by decide)) ?_
       refine dt1 rfl rfl rfl rfl c12 (Vj rfl (Vg rfl rfl) rfl ta_3 rfl) ?_
       refine dt1 rfl rfl rfl rfl c12 (rd_neq rfl rfl) ?_
       refine Yd rfl rfl (Vy (congrArg Wc c12) rfl) ?_
       refine Yx ?_
       obtain rfl := Wd hF
       refine Xk ?_
       exact Vp ⟨rfl, rfl, rfl, rfl, rfl, rfl, trivial⟩
     ·rintro _ _ _ _ ⟨rfl, hw⟩
      refine ⟨_, _, _, hw, ?_⟩
      refine Xi rfl (fun c15 => ?_) (fun c15 => ?_)
      ·have hF := Yq c15 hF
       refine Vd ?_
       obtain ⟨x16, h17, hF⟩ := Yf hF
       refine Va (Yn rfl) rfl ?_
       refine Va (Vb rfl tf_78_0 ts_3 (by decide)) rfl ?_
       refine Va (Vj rfl (Vg rfl rfl) rfl ta_3 rfl) rfl ?_
       refine Vi (Yt (es := Wa (Wb .i64) [x9.road]) ⟨rfl, rfl, trivial⟩ rfl rfl (Zm rfl) te_32 ts_3 tz_3 rfl rfl (Wf _) (by decide) (Ym (fun _ => .int _ _))) rfl ?_
       refine Vi (Zw (f := (Wb .i64)) (l := s5.2) (ys := [x9.road]) rfl rfl (Vg rfl rfl) rfl (src_vs rfl) te_32 ts_3 tb_3 (by decide) tz_3 rfl h17 (Xn rfl rfl)) rfl ?_
       refine Va (rd_asL rfl) rfl ?_
       refine Ve ?_
       obtain rfl := Wd hF
       refine Xk ?_
       exact Vm rfl [(0, 0 + 1)] (by decide) ⟨Yc 0 0 rfl rfl, Vh rfl (.vs _ _), Vh rfl (.int _ _), Vh rfl (.int _ _), trivial⟩ ⟨⟨_, rfl, rfl, .same _ _ _ _ (Vq (fun _ => .int _ _))⟩, trivial⟩
      ·have hF := Yr c15 hF
       refine Xj ?_
       obtain rfl := Wd hF
       refine Xk ?_
       exact Vm rfl [(0, 0)] (by decide) ⟨Yc 0 0 rfl rfl, Vh rfl (.vs _ _), Vh rfl (.int _ _), Vh rfl (.int _ _), trivial⟩ ⟨⟨_, rfl, rfl, .same _ _ _ _ (Vq (fun _ => .int _ _))⟩, trivial⟩
    ·rintro _ _ _ _ ⟨rfl, hw⟩
     refine ⟨_, _, _, hw, ?_⟩
     refine Vd ?_
     refine Va (Zf rfl rfl rfl) rfl ?_
     refine Va (Vk rfl) rfl ?_
     refine Ve ?_
     obtain rfl := Wd hF
     refine Xk ?_
     exact Vp ⟨rfl, rfl, rfl, rfl, trivial⟩
   ·have hF := Yr c7 hF
    refine Zd ?_
    obtain rfl := Wd hF
    refine Xk ?_
    exact Vp ⟨rfl, trivial⟩
  ·rintro _ _ _ _ ⟨rfl, hw⟩
   refine ⟨_, _, _, hw, ?_⟩
   refine Vf ?_
   refine Vd ?_
   refine Va (Yn rfl) rfl ?_
   refine Va (rd_asL rfl) rfl ?_
   refine Ve ?_
   refine Yb ?_
   obtain rfl := Wd hF
   refine fnR ?_
   refine Weak.trans (Yv (E' := [(4, .vs 1 (Wa (Wb .i64) o6))]) (loc1 := [⟨3, 1, [], 0 + 1⟩]) rfl 0 rfl (Ym (fun _ => .int _ _)) ⟨cv_sl rfl rfl rfl (Zj rfl), trivial⟩ ⟨.refl _, trivial⟩) ?_
   exact Vm rfl [] (by decide) ⟨Vh rfl (.vs _ _), trivial⟩ trivial
 ·rintro _ _ _ _ ⟨he, hw⟩
  refine ⟨_, _, _, hw, ?_⟩
  exact Zc he [.vs 1 (Wa (Wb .i64) r)] ⟨rfl, trivial⟩ (.vs _ _) ⟨rfl, rfl⟩

theorem F_ref01_Ints_ok {p0 : List Int} {p1 : List Int} {r : Bool} (hF : F_ref01_Ints p0 p1 = some r) (low : List AObj) :
    Zh Try.prog 11 [.vs 1 (Wa (Wb .i64) p0), .vs 1 (Wa (Wb .i64) p1)] low fun x low' => x = .bool r ∧ low' = low := by
 refine Xr (nt := 26) (rs := [.tmp 4]) Try.func11 rfl rfl (We rfl) rfl ?_
 refine Vs (Q' := FnE (fun E' lw lc => Xz E' lw lc [(4, .bool r)] low [])) ?_ ?_
 ·unfold F_ref01_Ints at hF
  refine Vf ?_
  refine Vd ?_
  refine Va (Zi rfl) rfl ?_
  refine Ve ?_
  refine Vf ?_
  refine Vf ?_
  refine Vd ?_
  refine Va (Xw rfl) rfl ?_
  refine Va (Xo (Yu rfl rfl te_32) (congrArg (fun n : Nat => Wb .i64 (n : Int)) (Wh _))) rfl ?_
  refine Va (Xw rfl) rfl ?_
  refine Va (Xo (Yu rfl rfl te_32) (congrArg (fun n : Nat => Wb .i64 (n : Int)) (Wh _))) rfl ?_
  refine Va (rd_neq rfl rfl) rfl ?_
  refine Ve ?_
  refine Xi rfl (fun c1 => ?_) (fun c1 => ?_)
  ·have hF := Yq c1 hF
   refine Vf ?_
   refine Vd ?_
   refine Va (Zi rfl) rfl ?_
   refine Ve ?_
   refine Yb ?_
   obtain rfl := Wd hF
   refine fnR ?_
   exact Vp ⟨rfl, trivial⟩
  ·have hF := Yr c1 hF
   refine Xj ?_
   refine Vf ?_
   refine Vf ?_
   refine Vd ?_
   refine Va (Xv rfl) rfl ?_
   refine Ve ?_
   refine Xh ?_
   obtain ⟨o3, ho3, hF⟩ := Yf hF
   refine Vs (Yy (F_ref01_Ints_L1 p0 p1) (fun s2 E' lw lc => Xz E' lw lc [(0, .vs 1 (Wa (Wb .i64) p0)), (1, .vs 1 (Wa (Wb .i64) p1)), (5, .int .i64 s2)] low []) (Sum.elim (fun j4 => OnlyE .ret (fun E' lw lc => Xz E' lw lc [(4, .bool false)] low [])) (fun j5 => OnlyE (.exit 0) (fun E' lw lc => Xz E' lw lc [] low []))) ho3 ?_ (by rintro (_|_) _ _ _ ⟨h, _⟩ <;> cases h) ?_) ?_
   ·exact Vp ⟨rfl, rfl, rfl, trivial⟩
   ·rintro s2 os2 _ _ _ hF hw
    unfold F_ref01_Ints_L1 at hF
    refine Yl hw ?_
    refine Vf ?_
    refine Vf ?_
    refine Vd ?_
    refine Va (Vk rfl) rfl ?_
    refine Va (Xw rfl) rfl ?_
    refine Va (Xo (Yu rfl rfl te_32) (congrArg (fun n : Nat => Wb .i64 (n : Int)) (Wh _))) rfl ?_
    refine Va (Yz rfl rfl) rfl ?_
    refine Ve ?_
    refine Xi rfl (fun c6 => ?_) (fun c6 => ?_)
    ·have hF := Yq c6 hF
     refine Xj ?_
     refine Vf ?_
     refine Xh ?_
     refine Vf ?_
     obtain ⟨x7, h8, hF⟩ := Yf hF
     obtain ⟨x9, h10, hF⟩ := Yf hF
     refine Zy [[], [], [0, 1], [0, 1, 2], [], [], [4, 5], [4, 5, 6], [0, 1, 2, 3, 4, 5, 6, 7]] mixed (by kernel_rfl) rfl ?_
     refine Yd rfl rfl (Xw rfl) ?_
     refine Yd rfl rfl (Vk rfl) ?_
     refine Yd rfl rfl (Xo (Xu rfl rfl h8 te_32 ts_3) (v' := .vptr [.int .i64 x7] 0) rfl) ?_
     refine Yd rfl rfl (Xe rfl ta_3 rfl) ?_
     refine Yd rfl rfl (Xw rfl) ?_
     refine Yd rfl rfl (Vk rfl) ?_
     refine Yd rfl rfl (Xo (Xu rfl rfl h10 te_32 ts_3) (v' := .vptr [.int .i64 x9] 0) rfl) ?_
     refine Yd rfl rfl (Xe rfl ta_3 rfl) ?_
     refine Yd rfl rfl (rd_neq rfl rfl) ?_
     refine Yx ?_
     refine Xi rfl (fun c11 => ?_) (fun c11 => ?_)
     ·have hF := Yq c11 hF
      refine Vf ?_
      refine Vd ?_
      refine Va (Zi rfl) rfl ?_
      refine Ve ?_
      refine Yb ?_
      obtain rfl := Wd hF
      refine Xk ?_
      exact Vp ⟨rfl, trivial⟩
     ·have hF := Yr c11 hF
      refine Xj ?_
      refine Vd ?_
      refine Va (Vk rfl) rfl ?_
      refine Va (Zf rfl rfl rfl) rfl ?_
      refine Va (Xv rfl) rfl ?_
      refine Ve ?_
      obtain rfl := Wd hF
      refine Xk ?_
      exact Vp ⟨rfl, rfl, rfl, trivial⟩
    ·have hF := Yr c6 hF
     refine Zd ?_
     obtain rfl := Wd hF
     refine Xk ?_
     exact Vp trivial
   ·rcases o3 with j4 | j5
    ·replace hF := elimL hF
     rintro _ _ _ _ ⟨rfl, hw⟩
     refine ⟨_, _, _, hw, ?_⟩
     obtain rfl := Wd hF
     refine fnR ?_
     exact Vp ⟨rfl, trivial⟩
    ·replace hF := elimR hF
     rintro _ _ _ _ ⟨rfl, hw⟩
     refine ⟨_, _, _, hw, ?_⟩
     refine Vf ?_
     refine Vd ?_
     refine Va (Zi rfl) rfl ?_
     refine Ve ?_
     refine Yb ?_
     obtain rfl := Wd hF
     refine fnR ?_
     exact Vp ⟨rfl, trivial⟩
 ·rintro _ _ _ _ ⟨he, hw⟩
  refine ⟨_, _, _, hw, ?_⟩
  exact Zc he [.bool r] ⟨rfl, trivial⟩ (.bool _) ⟨rfl, rfl⟩

theorem F_recirculate_Mixed_ok {p0 : T_Mine} {p1 : List T_Span} {r : List Int} (hF : F_recirculate_Mixed p0 p1 = some r) (low : List AObj) :
    Zh Try.prog 19 [.agg [.vs 2 (Wa T_Place.enc p0.Places), .vs 10 (Wa T_Road.enc p0.Roads)], .vs 2 (Wa T_Span.enc p1)] low fun x low' => x = .vs 1 (Wa (Wb .i64) r) ∧ low' = low := by
 refine Xr (nt := 59) (rs := [.tmp 4]) Try.func19 rfl rfl (We rfl) rfl ?_
 refine Vs (Q' := FnE (fun E' lw lc => Xz E' lw lc [(4, .vs 1 (Wa (Wb .i64) r))] low [])) ?_ ?_
 ·unfold F_recirculate_Mixed at hF
  refine Vf ?_
  refine Vd ?_
  refine Vi (Zx rfl rfl (v := .agg [.vs 2 (Wa T_Place.enc p0.Places), .vs 10 (Wa T_Road.enc p0.Roads)]) rfl rfl (Wf _) rfl rfl) rfl ?_
  refine Va (rd_nv (sz := 1) (rd_asN rfl)) rfl ?_
  refine Ve ?_
  refine Vf ?_
  refine Vd ?_
  obtain ⟨x1, h2, hF⟩ := Yf hF
  refine Va (Xa (ds := [.vs 2 (Wa T_Place.enc p0.Places), .vs 10 (Wa T_Road.enc p0.Roads)]) rfl (Vg rfl rfl) rfl ta_27 ts_27 rfl rfl rfl) rfl ?_
  refine Va (Xw rfl) rfl ?_
  refine Vi (Xx rfl Try.call30 (F_recirculate_arcs_ok h2 _)) rfl ?_
  refine Va (rd_mvT rfl) rfl ?_
  refine Va (rd_extract rfl rfl) rfl ?_
  refine Va (rd_extract rfl rfl) rfl ?_
  refine Va (rd_asV rfl) rfl ?_
  refine Va (Zi rfl) rfl ?_
  refine Ve ?_
  refine Vf ?_
  refine Vf ?_
  refine Vd ?_
  refine Va (Vr rfl) rfl ?_
  refine Va (rd_not rfl) rfl ?_
  refine Ve ?_
  refine Xi rfl (fun c3 => ?_) (fun c3 => ?_)
  ·have hF := Yq c3 hF
   refine Vf ?_
   refine Vd ?_
   refine Va (rd_nv (sz := 1) (rd_asN rfl)) rfl ?_
   refine Ve ?_
   refine Yb ?_
   obtain rfl := Wd hF
   refine fnR ?_
   exact Vm rfl [] (by decide) ⟨Vh rfl (.vs _ _), trivial⟩ trivial
  ·have hF := Yr c3 hF
   refine Xj ?_
   refine Vf ?_
   refine Vd ?_
   obtain ⟨x4, h5, hF⟩ := Yf hF
   refine Va (Vb rfl tf_27_0 ts_24 (by decide)) rfl ?_
   refine Va (Vj rfl (Vg rfl rfl) rfl ta_24 rfl) rfl ?_
   refine Va (Xo (Yu rfl rfl te_24) (congrArg (fun n : Nat => Wb .i64 (n : Int)) (Wh _))) rfl ?_
   refine Vi (vef_mkN (f := Wc) (zz := false) rfl rfl rfl rfl te_49 ts_4 tb_4 (by decide) tz_4 rfl rfl (Wf _) rfl h5) rfl ?_
   refine Va (rd_asL rfl) rfl ?_
   refine Ve ?_
   refine Vf ?_
   refine Vf ?_
   refine Vd ?_
   obtain ⟨x6, h7, hF⟩ := Yf hF
   refine Va (Xa (ds := [.vs 2 (Wa T_Place.enc p0.Places), .vs 10 (Wa T_Road.enc p0.Roads)]) rfl (Vg rfl rfl) rfl ta_27 ts_27 rfl rfl rfl) rfl ?_
   refine Va (Xw rfl) rfl ?_
   refine Vi (Xx rfl Try.call34 (F_recirculate_circles_ok h7 _)) rfl ?_
   refine Va (Xo (Yu rfl rfl te_74) (congrArg (fun n : Nat => Wb .i64 (n : Int)) (Wh _))) rfl ?_
   refine Va (Vk rfl) rfl ?_
   refine Ve ?_
   refine Xh ?_
   obtain ⟨o9, ho9, hF⟩ := Yf hF
   refine Vs (Yy (F_recirculate_Mixed_L1 x6) (fun s8 E' lw lc => Xz E' lw lc [(2, .ptr (low.length + 0) 0 0 0), (5, .vs 3 (Wa T_recirculate_arc.enc x1.1)), (7, .sl (low.length + 1) 0 0 (s8.2).length), (27, .vs 3 (Wa T_recirculate_arc.enc x6)), (28, .int .i64 ((x6).length : Int)), (29, .int .i64 s8.1)] low [⟨27, 2, [.agg [.vs 2 (Wa T_Place.enc p0.Places), .vs 10 (Wa T_Road.enc p0.Roads)]], 0⟩, ⟨4, 1, Wa Wc s8.2, 0⟩]) (fun o9 => OnlyE (.exit 0) (fun E' lw lc => Xz E' lw lc [(2, .ptr (low.length + 0) 0 0 0), (5, .vs 3 (Wa T_recirculate_arc.enc x1.1)), (7, .sl (low.length + 1) 0 0 (o9).length)] low [⟨27, 2, [.agg [.vs 2 (Wa T_Place.enc p0.Places), .vs 10 (Wa T_Road.enc p0.Roads)]], 0⟩, ⟨4, 1, Wa Wc o9, 0⟩])) ho9 ?_ (by rintro _ _ _ _ ⟨h, _⟩ <;> cases h) ?_) ?_
   ·exact Vp ⟨rfl, rfl, rfl, rfl, rfl, rfl, trivial⟩
   ·rintro s8 os8 _ _ _ hF hw
    unfold F_recirculate_Mixed_L1 at hF
    refine Yl hw ?_
    refine Vf ?_
    refine Vd ?_
    refine Va (Yz rfl rfl) rfl ?_
    refine Ve ?_
    refine Vf ?_
    refine Xi rfl (fun c10 => ?_) (fun c10 => ?_)
    ·have hF := Yq c10 hF
     refine Xj ?_
     refine Vf ?_
     refine Xh ?_
     refine Vf ?_
     refine Vd ?_
     obtain ⟨x11, h12, hF⟩ := Yf hF
     refine Va (Xo (Xu rfl rfl h12 te_74 ts_78) (v' := .vptr [.int .i64 x11.road, .int .i64 x11.from_, .int .i64 x11.to_] 0) rfl) rfl ?_
     refine Va (Zo (ds := [.int .i64 x11.road, .int .i64 x11.from_, .int .i64 x11.to_]) rfl ta_78 ts_78 rfl rfl) rfl ?_
     refine Vi (Xm rfl rfl tz_78 rfl rfl (Wf _) rfl) rfl ?_
     refine Vi (Vw (p := .agg [.int .i64 x11.road, .int .i64 x11.from_, .int .i64 x11.to_]) (e' := .agg [.int .i64 x11.road, .int .i64 x11.from_, .int .i64 x11.to_]) rfl (Vg rfl rfl) rfl rfl ts_78 rfl (Yg rfl) rfl (We rfl) rfl (Xn rfl rfl)) rfl ?_
     refine Ve ?_
     obtain ⟨x13, h14, hF⟩ := Yf hF
     obtain ⟨x15, h16, hF⟩ := Yf hF
     refine Zn [[], [], [1], [], [], [4], [0, 1, 2], [0, 1, 2, 6], [0, 1, 2, 3, 4, 5, 6, 7], [0, 1, 2, 3, 4, 5, 6, 7, 8]] [false, false, false, false, false, false, false, true, false, true] [(low, [⟨27, 2, [.agg [.vs 2 (Wa T_Place.enc p0.Places), .vs 10 (Wa T_Road.enc p0.Roads)]], 0⟩, ⟨4, 1, Wa Wc s8.2, 0⟩, ⟨78, 3, [.agg [.int .i64 x11.road, .int .i64 x11.from_, .int .i64 x11.to_]], 0⟩]), (low, [⟨27, 2, [.agg [.vs 2 (Wa T_Place.enc p0.Places), .vs 10 (Wa T_Road.enc p0.Roads)]], 0⟩, ⟨4, 1, Wa Wc (s8.2.set ((x11.from_).toNat) true), 0⟩, ⟨78, 3, [.agg [.int .i64 x11.road, .int .i64 x11.from_, .int .i64 x11.to_]], 0⟩]), (low, [⟨27, 2, [.agg [.vs 2 (Wa T_Place.enc p0.Places), .vs 10 (Wa T_Road.enc p0.Roads)]], 0⟩, ⟨4, 1, Wa Wc ((s8.2.set ((x11.from_).toNat) true).set ((x11.to_).toNat) true), 0⟩, ⟨78, 3, [.agg [.int .i64 x11.road, .int .i64 x11.from_, .int .i64 x11.to_]], 0⟩])] mixed (by kernel_rfl) rfl (lenAll (Vv rfl (Vv rfl (Vv rfl Yw)))) rfl _ rfl rfl ?_
     refine Yd rfl rfl (Yn rfl) ?_
     refine Yd rfl rfl (Vb rfl tf_78_1 ts_3 (by decide)) ?_
     refine Yd rfl rfl (Vj rfl (Vg rfl rfl) rfl ta_3 rfl) ?_
     refine Vx _ rfl rfl (Vv (VRd.ntl (Yn rfl)) (Vv (VRd.ntl (Yn rfl)) Yw)) ?_
     refine Vx _ rfl rfl (Vv (VRd.ntl (Vb rfl tf_78_2 ts_3 (by decide))) (Vv (VRd.ntl (Vb rfl tf_78_2 ts_3 (by decide))) Yw)) ?_
     refine Vx _ rfl rfl (Vv (VRd.ntl (Vj rfl (Vg rfl rfl) rfl ta_3 rfl)) (Vv (VRd.ntl (Vj rfl (Vg rfl rfl) rfl ta_3 rfl)) Yw)) ?_
     refine Yd rfl rfl (Zr rfl rfl rfl (Vg rfl rfl) h14 te_49 ts_4) ?_
     refine Ya rfl rfl rfl (vef_stL (p := .bool true) (e' := true) rfl (Vg rfl rfl) (Yi h14).2 rfl ts_4 rfl (Yg rfl) (We rfl) rfl (Xn rfl rfl)) ?_
     refine Yd rfl rfl (Zr rfl (Eq.trans rfl List.length_set.symm) rfl (Vg rfl rfl) h16 te_49 ts_4) ?_
     refine Ya rfl rfl rfl (vef_stL (p := .bool true) (e' := true) rfl (Vg rfl rfl) (Yi h16).2 rfl ts_4 rfl (Yg rfl) (We rfl) rfl (Xn rfl rfl)) ?_
     refine Yx ?_
     refine Vd ?_
     refine Va (Zf rfl rfl rfl) rfl ?_
     refine Va (Vk rfl) rfl ?_
     refine Ve ?_
     obtain rfl := Wd hF
     refine Xk ?_
     exact Vm rfl [(0, 0), (1, 0)] (by decide) ⟨Vt 0 0 rfl rfl, Vh rfl (.vs _ _), Yc 1 1 rfl (congrArg (PV.sl _ _ 0) (Eq.trans (Eq.trans rfl List.length_set.symm) List.length_set.symm)), Vh rfl (.vs _ _), Vh rfl (.int _ _), Vh rfl (.int _ _), trivial⟩ ⟨⟨_, rfl, rfl, .same _ _ _ _ (Vn ⟨Vo ⟨.vs _ _, .vs _ _, trivial⟩, trivial⟩)⟩, ⟨_, rfl, rfl, .same _ _ _ _ (Vq (fun _ => .bool _))⟩, trivial⟩
    ·have hF := Yr c10 hF
     refine Zd ?_
     obtain rfl := Wd hF
     refine Xk ?_
     exact Vp ⟨rfl, rfl, rfl, trivial⟩
   ·rintro _ _ _ _ ⟨rfl, hw⟩
    refine ⟨_, _, _, hw, ?_⟩
    refine Vf ?_
    refine Vd ?_
    refine Vi (vef_nilsN rfl rfl 3 1 (Wf _) (rd_asN rfl)) rfl ?_
    refine Ve ?_
    refine Vf ?_
    refine Vf ?_
    refine Vd ?_
    obtain ⟨x17, h18, hF⟩ := Yf hF
    refine Va (Xa (ds := [.vs 2 (Wa T_Place.enc p0.Places), .vs 10 (Wa T_Road.enc p0.Roads)]) rfl (Vg rfl rfl) rfl ta_27 ts_27 rfl rfl rfl) rfl ?_
    refine Va (Xw rfl) rfl ?_
    refine Va (Yn rfl) rfl ?_
    refine vops_weak (Yv (E' := [(10, .sl (low.length + 2) 0 0 (([] : List Int)).length), (42, .agg [.vs 2 (Wa T_Place.enc p0.Places), .vs 10 (Wa T_Road.enc p0.Roads)]), (43, .vs 3 (Wa T_recirculate_arc.enc x1.1)), (44, .vs 1 (Wa Wc o9))]) (loc1 := [⟨27, 2, [.agg [.vs 2 (Wa T_Place.enc p0.Places), .vs 10 (Wa T_Road.enc p0.Roads)]], 0⟩, ⟨4, 1, [], 0 + 1⟩, ⟨3, 1, Wa (Wb .i64) ([] : List Int), 0⟩]) rfl 1 rfl (Ym (fun _ => .bool _)) ⟨Vu rfl, Vu rfl, Vu rfl, cv_sl rfl rfl rfl (Zj rfl), trivial⟩ ⟨.refl _, .refl _, .refl _, trivial⟩) ?_
    refine Vi (Xx rfl Try.call36 (F_recirculate_spread_ok h18 _)) rfl ?_
    refine Va (Xo (Yu rfl rfl te_49) (congrArg (fun n : Nat => Wb .i64 (n : Int)) (Wh _))) rfl ?_
    refine Va (Vk rfl) rfl ?_
    refine Ve ?_
    refine Xh ?_
    obtain ⟨o20, ho20, hF⟩ := Yf hF
    refine Vs (Yy (F_recirculate_Mixed_L2 x17) (fun s19 E' lw lc => Xz E' lw lc [(10, .sl (low.length + 0) 0 0 (s19.2).length), (45, .vs 1 (Wa Wc x17)), (46, .int .i64 ((x17).length : Int)), (47, .int .i64 s19.1)] low [⟨3, 1, Wa (Wb .i64) s19.2, 0⟩]) (fun o20 => OnlyE (.exit 2) (fun E' lw lc => Xz E' lw lc [(10, .sl (low.length + 0) 0 0 (o20).length)] low [⟨3, 1, Wa (Wb .i64) o20, 0⟩])) ho20 ?_ (by rintro _ _ _ _ ⟨h, _⟩ <;> cases h) ?_) ?_
    ·exact Vm rfl [(2, 0)] (by decide) ⟨Yc 0 2 rfl rfl, Vh rfl (.vs _ _), Vh rfl (.int _ _), Vh rfl (.int _ _), trivial⟩ ⟨⟨_, rfl, rfl, .same _ _ _ _ (Vn trivial)⟩, trivial⟩
    ·rintro s19 os19 _ _ _ hF hw
     unfold F_recirculate_Mixed_L2 at hF
     refine Yl hw ?_
     refine Vf ?_
     refine Vd ?_
     refine Va (Yz rfl rfl) rfl ?_
     refine Ve ?_
     refine Vf ?_
     refine Xi rfl (fun c21 => ?_) (fun c21 => ?_)
     ·have hF := Yq c21 hF
      refine Xj ?_
      refine Vf ?_
      obtain ⟨o22, ho22, hF⟩ := Yf hF
      refine Vs (Q' := (fun o22 => OnlyE .normal (fun E' lw lc => Xz E' lw lc [(10, .sl (low.length + 0) 0 0 (o22).length), (45, .vs 1 (Wa Wc x17)), (46, .int .i64 ((x17).length : Int)), (47, .int .i64 s19.1)] low [⟨3, 1, Wa (Wb .i64) o22, 0⟩])) o22) ?_ ?_
      ·replace hF := ho22
       refine Xh ?_
       refine Vf ?_
       refine Vd ?_
       obtain ⟨x23, h24, hF⟩ := Yf hF
       refine Va (Vk rfl) rfl ?_
       refine Va (Xo (Xu rfl rfl h24 te_49 ts_4) (v' := .vptr [.bool x23] 0) rfl) rfl ?_
       refine Va (Xe rfl ta_4 rfl) rfl ?_
       refine Va (Xv rfl) rfl ?_
       refine Va (Zi rfl) rfl ?_
       refine Ve ?_
       refine Vf ?_
       refine Vd ?_
       refine Va (Vr rfl) rfl ?_
       refine Ve ?_
       refine Xi rfl (fun c25 => ?_) (fun c25 => ?_)
       ·have hF := Yq c25 hF
        refine Vd ?_
        obtain ⟨x26, h27, hF⟩ := Yf hF
        refine Va (Yn rfl) rfl ?_
        refine Va (Vk rfl) rfl ?_
        refine Vi (Yt (es := Wa (Wb .i64) [s19.1]) ⟨rfl, rfl, trivial⟩ rfl rfl (Zm rfl) te_32 ts_3 tz_3 rfl rfl (Wf _) (by decide) (Ym (fun _ => .int _ _))) rfl ?_
        refine Vi (Zw (f := (Wb .i64)) (l := s19.2) (ys := [s19.1]) rfl rfl (Vg rfl rfl) rfl (src_vs rfl) te_32 ts_3 tb_3 (by decide) tz_3 rfl h27 (Xn rfl rfl)) rfl ?_
        refine Va (rd_asL rfl) rfl ?_
        refine Ve ?_
        obtain rfl := Wd hF
        refine Xk ?_
        exact Vm rfl [(0, 0 + 1)] (by decide) ⟨Yc 0 0 rfl rfl, Vh rfl (.vs _ _), Vh rfl (.int _ _), Vh rfl (.int _ _), trivial⟩ ⟨⟨_, rfl, rfl, .same _ _ _ _ (Vq (fun _ => .int _ _))⟩, trivial⟩
       ·have hF := Yr c25 hF
        refine Xj ?_
        obtain rfl := Wd hF
        refine Xk ?_
        exact Vp ⟨rfl, rfl, rfl, rfl, trivial⟩
      ·rintro _ _ _ _ ⟨rfl, hw⟩
       refine ⟨_, _, _, hw, ?_⟩
       refine Vd ?_
       refine Va (Zf rfl rfl rfl) rfl ?_
       refine Va (Vk rfl) rfl ?_
       refine Ve ?_
       obtain rfl := Wd hF
       refine Xk ?_
       exact Vp ⟨rfl, rfl, rfl, rfl, trivial⟩
     ·have hF := Yr c21 hF
      refine Zd ?_
      obtain rfl := Wd hF
      refine Xk ?_
      exact Vp ⟨rfl, trivial⟩
    ·rintro _ _ _ _ ⟨rfl, hw⟩
     refine ⟨_, _, _, hw, ?_⟩
     refine Vf ?_
     refine Vd ?_
     refine Va (Yn rfl) rfl ?_
     refine Va (rd_asL rfl) rfl ?_
     refine Ve ?_
     refine Yb ?_
     obtain rfl := Wd hF
     refine fnR ?_
     refine Weak.trans (Yv (E' := [(4, .vs 1 (Wa (Wb .i64) o20))]) (loc1 := [⟨3, 1, [], 0 + 1⟩]) rfl 0 rfl (Ym (fun _ => .int _ _)) ⟨cv_sl rfl rfl rfl (Zj rfl), trivial⟩ ⟨.refl _, trivial⟩) ?_
     exact Vm rfl [] (by decide) ⟨Vh rfl (.vs _ _), trivial⟩ trivial
 ·rintro _ _ _ _ ⟨he, hw⟩
  refine ⟨_, _, _, hw, ?_⟩
  exact Zc he [.vs 1 (Wa (Wb .i64) r)] ⟨rfl, trivial⟩ (.vs _ _) ⟨rfl, rfl⟩

end Go.Proofs.Ytaedmgkcmbhicaa
