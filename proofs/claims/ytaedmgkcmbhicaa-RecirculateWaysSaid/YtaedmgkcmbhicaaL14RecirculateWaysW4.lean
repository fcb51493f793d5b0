/- Printed by wip/lift/lift.py: the walks that show that the program computes them. -/
import Derived.Test.YtaedmgkcmbhicaaL14RecirculateWaysW3
namespace Go.Proofs.Ytaedmgkcmbhicaa
open Go Go.Aml Go.L
attribute [local irreducible] VRd VEf VOp VOps VWp DOps
set_option linter.unusedVariables false
open Go.Aml renaming vops_rd → Va, rd_fieldAddr → Vb, vops_skip → Vc, vwp_region → Vd, vops_nil → Ve, vwp_seq → Vf, getO_N → Vg, rd_load1 → Vh, vops_efE → Vi, rn_low → Vj, rd_mvI → Vk, weak_sub → Vl, weak_pick → Vm, rd_mvB → Vn, vwp_monoW → Vo, lt_agg → Vp, ltObj_es → Vq, lenS → Vr, ltObj_map → Vs, cv_same → Vt, rn_ptr → Vu, all1 → Vv, rd_pickT → Vw, rd_pickF → Vx, rd_loadN → Vy, onlyE → Vz, vwp_block → Xa, vef_store → Xb, dops_rdW → Xc, vwp_cond → Xd, vwp_skip → Xe, nn_same → Xf, vef_callP → Xg, vcalls_of_body → Xh, rd_asI → Xi, rd_mvP → Xj, vef_callS → Xk, vt1 → Xl, rd_to → Xm, setO_N → Xn, len_setL → Xo, vef_allocN → Xp, sets_nil → Xq, Weak → Xr, rd_loadV1 → Xs, vwp_ret → Xt, dr1 → Xu, len_app → Xv, VRd → Xw, rn_sl → Xx, rd_lenV → Xy, rd_ixV → Xz, bnd → Ya, dops_ef → Yb, rd_mvV → Yc, vwp_weak → Yd, getI_some → Ye, rd_build → Yf, rd_fieldVaddr → Yg, rd_lss → Yh, bifT → Yi, bifF → Yj, vwp_loopC → Yk, nt_all2 → Yl, lt_map → Ym, nt_ne → Yn, dops_skip → Yo, Lift → Yp, dops_nil → Yq, vwp_exit → Yr, weak_freezeN → Ys, vef_litF → Yt, bodyQ_pure → Yu, ltObjN → Yv, rd_nilPtr → Yw, rd_mvL → Yx, all0 → Yy, sets_B → Yz, rd_add → Za, full_take → Zb, rd_asB → Zc, VCalls → Zd, getO_B → Ze, get_B → Zf, nt_all → Zg, lp_bindE → Zh, rd_loadVN → Zi, vwp_drawn → Zj, rd_ldL1 → Zk, rd_ixS → Zl, vwp_drawn0 → Zm, rd_eql → Zn, vef_boxN → Zo, rd_gtr → Zp, neT → Zq, rd_extract → Zr, rd_sub → Zs, dopx_rd → Zt, vef_apL → Zu, rx1 → Zv, neF → Zw, src_vs → Zx, rd_asL → Zy, nt_of → Zz
open List renaming map → Wa
open Go.Aml.PV renaming int → Wb
open Go.Aml.PV renaming bool → Wc
open Option.some renaming inj → Wd
open Nat renaming le_of_ble_eq_true → We
open Nat renaming succ_pos → Wf
open Bool renaming eq_false_or_eq_true → Wg
open List renaming length_map → Wh
set_option maxHeartbeats 4000000

theorem F_recirculate_spread_ok {p0 : T_Mine} {p1 : List T_recirculate_arc} {p2 : List Bool} {p3 : Int} {r : List Bool} (hF : F_recirculate_spread p0 p1 p2 p3 = some r) (low : List AObj) :
    Zd Try.prog 36 [.agg [.vs 2 (Wa T_Place.enc p0.Places), .vs 10 (Wa T_Road.enc p0.Roads)], .vs 3 (Wa T_recirculate_arc.enc p1), .vs 1 (Wa Wc p2), .int .i64 p3] low fun x low' => x = .vs 1 (Wa Wc r) ∧ low' = low := by
 refine Xh (nt := 57) (rs := [.tmp 8]) Try.func36 rfl rfl (We rfl) rfl ?_
 refine Vo (Q' := FnE (fun E' lw lc => Xr E' lw lc [(8, .vs 1 (Wa Wc r))] low [])) ?_ ?_
 ·unfold F_recirculate_spread at hF
  refine Vf ?_
  refine Vd ?_
  refine Vi (Zo rfl rfl (v := .agg [.vs 2 (Wa T_Place.enc p0.Places), .vs 10 (Wa T_Road.enc p0.Roads)]) rfl rfl (Wf _) rfl rfl) rfl ?_
  refine Va (rd_nv (sz := 1) (rd_asN rfl)) rfl ?_
  refine Ve ?_
  refine Vf ?_
  refine Vd ?_
  obtain ⟨x1, h2, hF⟩ := Ya hF
  refine Va (Yc rfl) rfl ?_
  refine Vi (vef_ap0N (f := Wc) (ys := p2) rfl rfl (.inl rfl) rfl (Zx rfl) (Wf _) te_49 ts_4 tb_4 (by decide) tz_4 rfl h2) rfl ?_
  refine Va (Zy rfl) rfl ?_
  refine Ve ?_
  refine Vf ?_
  refine Vf ?_
  refine Vd ?_
  refine Va (Zc rfl) rfl ?_
  refine Ve ?_
  refine Xa ?_
  obtain ⟨o4, ho4, hF⟩ := Ya hF
  refine Vo (Yk (F_recirculate_spread_L1 p0 p1 p3) (fun s3 E' lw lc => Xr E' lw lc [(1, .vs 3 (Wa T_recirculate_arc.enc p1)), (3, .int .i64 p3), (4, .ptr (low.length + 0) 0 0 0), (9, .sl (low.length + 1) 0 0 (s3.2).length), (10, .bool s3.1)] low [⟨27, 2, [.agg [.vs 2 (Wa T_Place.enc p0.Places), .vs 10 (Wa T_Road.enc p0.Roads)]], 0⟩, ⟨4, 1, Wa Wc s3.2, 0⟩]) (fun o4 => OnlyE (.exit 0) (fun E' lw lc => Xr E' lw lc [(9, .sl (low.length + 0) 0 0 (o4).length)] low [⟨4, 1, Wa Wc o4, 0⟩])) ho4 ?_ (by rintro _ _ _ _ ⟨h, _⟩ <;> cases h) ?_) ?_
  ·exact Vl ⟨rfl, rfl, rfl, rfl, rfl, trivial⟩
  ·rintro s3 os3 _ _ _ hF hw
   unfold F_recirculate_spread_L1 at hF
   refine Yd hw ?_
   refine Vf ?_
   refine Vf ?_
   refine Vd ?_
   refine Va (Vn rfl) rfl ?_
   refine Ve ?_
   refine Xd rfl (fun c5 => ?_) (fun c5 => ?_)
   ·have hF := Yi c5 hF
    refine Xe ?_
    refine Xa ?_
    refine Vf ?_
    refine Vd ?_
    refine Va (Zc rfl) rfl ?_
    refine Ve ?_
    refine Vf ?_
    refine Vd ?_
    refine Va (Yc rfl) rfl ?_
    refine Va (Xm (Xy rfl rfl te_74) (congrArg (fun n : Nat => Wb .i64 (n : Int)) (Wh _))) rfl ?_
    refine Va (Vk rfl) rfl ?_
    refine Ve ?_
    refine Xa ?_
    obtain ⟨o7, ho7, hF⟩ := Ya hF
    refine Vo (Yk (F_recirculate_spread_L2 p0 p1 p3) (fun s6 E' lw lc => Xr E' lw lc [(1, .vs 3 (Wa T_recirculate_arc.enc p1)), (3, .int .i64 p3), (4, .ptr (low.length + 0) 0 0 0), (9, .sl (low.length + 1) 0 0 (s6.2.2).length), (10, .bool s6.1), (16, .vs 3 (Wa T_recirculate_arc.enc p1)), (17, .int .i64 ((p1).length : Int)), (18, .int .i64 s6.2.1)] low [⟨27, 2, [.agg [.vs 2 (Wa T_Place.enc p0.Places), .vs 10 (Wa T_Road.enc p0.Roads)]], 0⟩, ⟨4, 1, Wa Wc s6.2.2, 0⟩]) (fun o7 => OnlyE (.exit 2) (fun E' lw lc => Xr E' lw lc [(1, .vs 3 (Wa T_recirculate_arc.enc p1)), (3, .int .i64 p3), (4, .ptr (low.length + 0) 0 0 0), (9, .sl (low.length + 1) 0 0 (o7.2).length), (10, .bool o7.1)] low [⟨27, 2, [.agg [.vs 2 (Wa T_Place.enc p0.Places), .vs 10 (Wa T_Road.enc p0.Roads)]], 0⟩, ⟨4, 1, Wa Wc o7.2, 0⟩])) ho7 ?_ (by rintro _ _ _ _ ⟨h, _⟩ <;> cases h) ?_) ?_
    ·exact Vl ⟨rfl, rfl, rfl, rfl, rfl, rfl, rfl, rfl, trivial⟩
    ·rintro s6 os6 _ _ _ hF hw
     unfold F_recirculate_spread_L2 at hF
     refine Yd hw ?_
     refine Vf ?_
     refine Vd ?_
     refine Va (Yh rfl rfl) rfl ?_
     refine Ve ?_
     refine Vf ?_
     refine Xd rfl (fun c8 => ?_) (fun c8 => ?_)
     ·have hF := Yi c8 hF
      refine Xe ?_
      refine Vf ?_
      obtain ⟨o9, ho9, hF⟩ := Ya hF
      refine Vo (Q' := (fun o9 => OnlyE .normal (fun E' lw lc => Xr E' lw lc [(1, .vs 3 (Wa T_recirculate_arc.enc p1)), (3, .int .i64 p3), (4, .ptr (low.length + 0) 0 0 0), (9, .sl (low.length + 1) 0 0 (o9.2).length), (10, .bool o9.1), (16, .vs 3 (Wa T_recirculate_arc.enc p1)), (17, .int .i64 ((p1).length : Int)), (18, .int .i64 s6.2.1)] low [⟨27, 2, [.agg [.vs 2 (Wa T_Place.enc p0.Places), .vs 10 (Wa T_Road.enc p0.Roads)]], 0⟩, ⟨4, 1, Wa Wc o9.2, 0⟩])) o9) ?_ ?_
      ·replace hF := ho9
       refine Xa ?_
       refine Vf ?_
       refine Vd ?_
       obtain ⟨x10, h11, hF⟩ := Ya hF
       refine Va (Xm (Xz rfl rfl h11 te_74 ts_78) (v' := .vptr [.int .i64 x10.road, .int .i64 x10.from_, .int .i64 x10.to_] 0) rfl) rfl ?_
       refine Va (Zi (ds := [.int .i64 x10.road, .int .i64 x10.from_, .int .i64 x10.to_]) rfl ta_78 ts_78 rfl rfl) rfl ?_
       refine Vi (Xp rfl rfl tz_78 rfl rfl (Wf _) rfl) rfl ?_
       refine Vi (Xb (p := .agg [.int .i64 x10.road, .int .i64 x10.from_, .int .i64 x10.to_]) (e' := .agg [.int .i64 x10.road, .int .i64 x10.from_, .int .i64 x10.to_]) rfl (Vg rfl rfl) rfl rfl ts_78 rfl (Yn rfl) rfl (We rfl) rfl (Xn rfl rfl)) rfl ?_
       refine Ve ?_
       refine Vf ?_
       obtain ⟨o12, ho12, hF⟩ := Ya hF
       refine Vo (Q' := (fun o12 => OnlyE .normal (fun E' lw lc => Xr E' lw lc [(1, .vs 3 (Wa T_recirculate_arc.enc p1)), (3, .int .i64 p3), (4, .ptr (low.length + 1) 0 0 0), (9, .sl (low.length + 2) 0 0 (s6.2.2).length), (10, .bool s6.1), (12, .ptr (low.length + 0) 0 0 0), (16, .vs 3 (Wa T_recirculate_arc.enc p1)), (17, .int .i64 ((p1).length : Int)), (18, .int .i64 s6.2.1), (50, .bool o12)] low [⟨78, 3, [.agg [.int .i64 x10.road, .int .i64 x10.from_, .int .i64 x10.to_]], 0⟩, ⟨27, 2, [.agg [.vs 2 (Wa T_Place.enc p0.Places), .vs 10 (Wa T_Road.enc p0.Roads)]], 0⟩, ⟨4, 1, Wa Wc s6.2.2, 0⟩])) o12) ?_ ?_
       ·replace hF := ho12
        refine Vd ?_
        rcases Wg (decide (x10.road ≠ p3)) with c13 | c13
        ·have hF := Yi c13 hF
         obtain ⟨x14, h15, hF⟩ := Ya hF
         rcases Wg x14 with c16 | c16
         ·have hF := Yi c16 hF
          obtain ⟨x17, h18, hF⟩ := Ya hF
          rcases Wg (!x17) with c19 | c19
          ·have hF := Yi c19 hF
           obtain ⟨x20, h21, hF⟩ := Ya hF
           refine Va (Vb rfl tf_78_0 ts_3 (by decide)) rfl ?_
           refine Va (Vh rfl (Vg rfl rfl) rfl ta_3 rfl) rfl ?_
           refine Va (Vk rfl) rfl ?_
           refine Va (rd_neq rfl rfl) rfl ?_
           refine Va (Vn rfl) rfl ?_
           refine Xl rfl rfl c13 ?_
           refine Va (Yx rfl) rfl ?_
           refine Xl rfl rfl c13 ?_
           refine Va (Vb rfl tf_78_1 ts_3 (by decide)) rfl ?_
           refine Xl rfl rfl c13 ?_
           refine Va (Vh rfl (Vg rfl rfl) rfl ta_3 rfl) rfl ?_
           refine Xl rfl rfl c13 ?_
           refine Va (Zl rfl rfl rfl (Vg rfl rfl) h15 te_49 ts_4) rfl ?_
           refine Xl rfl rfl c13 ?_
           refine Va (Zk rfl (Vg rfl rfl) (Ye h15).2 ta_4 rfl) rfl ?_
           refine Va (Vw (congrArg Wc c13) rfl) rfl ?_
           refine Va (Vn rfl) rfl ?_
           refine Xl rfl rfl c16 ?_
           refine Va (Yx rfl) rfl ?_
           refine Xl rfl rfl c16 ?_
           refine Va (Vb rfl tf_78_2 ts_3 (by decide)) rfl ?_
           refine Xl rfl rfl c16 ?_
           refine Va (Vh rfl (Vg rfl rfl) rfl ta_3 rfl) rfl ?_
           refine Xl rfl rfl c16 ?_
           refine Va (Zl rfl rfl rfl (Vg rfl rfl) h18 te_49 ts_4) rfl ?_
           refine Xl rfl rfl c16 ?_
           refine Va (Zk rfl (Vg rfl rfl) (Ye h18).2 ta_4 rfl) rfl ?_
           refine Xl rfl rfl c16 ?_
           refine Va (rd_not rfl) rfl ?_
           refine Va (Vw (congrArg Wc c16) rfl) rfl ?_
           refine Va (Vn rfl) rfl ?_
           refine Xl rfl rfl c19 ?_
           refine Va (Vb rfl tf_27_0 ts_24 (by decide)) rfl ?_
           refine Xl rfl rfl c19 ?_
           refine Va (Vh rfl (Vg rfl rfl) rfl ta_24 rfl) rfl ?_
           refine Xl rfl rfl c19 ?_
           refine Va (Vb rfl tf_78_2 ts_3 (by decide)) rfl ?_
           refine Xl rfl rfl c19 ?_
           refine Va (Vh rfl (Vg rfl rfl) rfl ta_3 rfl) rfl ?_
           refine Xl rfl rfl c19 ?_
           refine Va (Xm (Xz rfl rfl h21 te_24 ts_48) (v' := .vptr [.int .i64 x20.Height, .bool x20.Surface] 0) rfl) rfl ?_
           refine Xl rfl rfl c19 ?_
           refine Va (Yg rfl tf_48_1 ts_4 (by decide)) rfl ?_
           refine Xl rfl rfl c19 ?_
           refine Va (Xs rfl ta_4 rfl) rfl ?_
           refine Xl rfl rfl c19 ?_
           refine Va (rd_not rfl) rfl ?_
           refine Va (Vw (congrArg Wc c19) rfl) rfl ?_
           refine Ve ?_
           obtain rfl := Wd hF
           refine Vz ?_
           exact Vm rfl [(2, 0), (0, 0), (1, 0)] (by decide) ⟨Vj rfl (.vs _ _), Vj rfl (.int _ _), Vu 1 0 rfl rfl, Xx 2 1 rfl rfl, Vj rfl (.bool _), Vu 0 2 rfl rfl, Vj rfl (.vs _ _), Vj rfl (.int _ _), Vj rfl (.int _ _), Vj rfl (.bool _), trivial⟩ ⟨⟨_, rfl, rfl, .same _ _ _ _ (Vq ⟨Vp ⟨.int _ _, .int _ _, .int _ _, trivial⟩, trivial⟩)⟩, ⟨_, rfl, rfl, .same _ _ _ _ (Vq ⟨Vp ⟨.vs _ _, .vs _ _, trivial⟩, trivial⟩)⟩, ⟨_, rfl, rfl, .same _ _ _ _ (Vs (fun _ => .bool _))⟩, trivial⟩
          ·have hF := Yj c19 hF
           refine Va (Vb rfl tf_78_0 ts_3 (by decide)) rfl ?_
           refine Va (Vh rfl (Vg rfl rfl) rfl ta_3 rfl) rfl ?_
           refine Va (Vk rfl) rfl ?_
           refine Va (rd_neq rfl rfl) rfl ?_
           refine Va (Vn rfl) rfl ?_
           refine Xl rfl rfl c13 ?_
           refine Va (Yx rfl) rfl ?_
           refine Xl rfl rfl c13 ?_
           refine Va (Vb rfl tf_78_1 ts_3 (by decide)) rfl ?_
           refine Xl rfl rfl c13 ?_
           refine Va (Vh rfl (Vg rfl rfl) rfl ta_3 rfl) rfl ?_
           refine Xl rfl rfl c13 ?_
           refine Va (Zl rfl rfl rfl (Vg rfl rfl) h15 te_49 ts_4) rfl ?_
           refine Xl rfl rfl c13 ?_
           refine Va (Zk rfl (Vg rfl rfl) (Ye h15).2 ta_4 rfl) rfl ?_
           refine Va (Vw (congrArg Wc c13) rfl) rfl ?_
           refine Va (Vn rfl) rfl ?_
           refine Xl rfl rfl c16 ?_
           refine Va (Yx rfl) rfl ?_
           refine Xl rfl rfl c16 ?_
           refine Va (Vb rfl tf_78_2 ts_3 (by decide)) rfl ?_
           refine Xl rfl rfl c16 ?_
           refine Va (Vh rfl (Vg rfl rfl) rfl ta_3 rfl) rfl ?_
           refine Xl rfl rfl c16 ?_
           refine Va (Zl rfl rfl rfl (Vg rfl rfl) h18 te_49 ts_4) rfl ?_
           refine Xl rfl rfl c16 ?_
           refine Va (Zk rfl (Vg rfl rfl) (Ye h18).2 ta_4 rfl) rfl ?_
           refine Xl rfl rfl c16 ?_
           refine Va (rd_not rfl) rfl ?_
           refine Va (Vw (congrArg Wc c16) rfl) rfl ?_
           refine Va (Vn rfl) rfl ?_
           refine Vc rfl rfl (Zw c19) rfl ?_
           refine Vc rfl rfl (Zw c19) rfl ?_
           refine Vc rfl rfl (Zw c19) rfl ?_
           refine Vc rfl rfl (Zw c19) rfl ?_
           refine Vc rfl rfl (Zw c19) rfl ?_
           refine Vc rfl rfl (Zw c19) rfl ?_
           refine Vc rfl rfl (Zw c19) rfl ?_
           refine Vc rfl rfl (Zw c19) rfl ?_
           refine Va (Vx (congrArg Wc c19) rfl) rfl ?_
           refine Ve ?_
           obtain rfl := Wd hF
           refine Vz ?_
           exact Vm rfl [(2, 0), (0, 0), (1, 0)] (by decide) ⟨Vj rfl (.vs _ _), Vj rfl (.int _ _), Vu 1 0 rfl rfl, Xx 2 1 rfl rfl, Vj rfl (.bool _), Vu 0 2 rfl rfl, Vj rfl (.vs _ _), Vj rfl (.int _ _), Vj rfl (.int _ _), Vj rfl (.bool _), trivial⟩ ⟨⟨_, rfl, rfl, .same _ _ _ _ (Vq ⟨Vp ⟨.int _ _, .int _ _, .int _ _, trivial⟩, trivial⟩)⟩, ⟨_, rfl, rfl, .same _ _ _ _ (Vq ⟨Vp ⟨.vs _ _, .vs _ _, trivial⟩, trivial⟩)⟩, ⟨_, rfl, rfl, .same _ _ _ _ (Vs (fun _ => .bool _))⟩, trivial⟩
         ·have hF := Yj c16 hF
          refine Va (Vb rfl tf_78_0 ts_3 (by decide)) rfl ?_
          refine Va (Vh rfl (Vg rfl rfl) rfl ta_3 rfl) rfl ?_
          refine Va (Vk rfl) rfl ?_
          refine Va (rd_neq rfl rfl) rfl ?_
          refine Va (Vn rfl) rfl ?_
          refine Xl rfl rfl c13 ?_
          refine Va (Yx rfl) rfl ?_
          refine Xl rfl rfl c13 ?_
          refine Va (Vb rfl tf_78_1 ts_3 (by decide)) rfl ?_
          refine Xl rfl rfl c13 ?_
          refine Va (Vh rfl (Vg rfl rfl) rfl ta_3 rfl) rfl ?_
          refine Xl rfl rfl c13 ?_
          refine Va (Zl rfl rfl rfl (Vg rfl rfl) h15 te_49 ts_4) rfl ?_
          refine Xl rfl rfl c13 ?_
          refine Va (Zk rfl (Vg rfl rfl) (Ye h15).2 ta_4 rfl) rfl ?_
          refine Va (Vw (congrArg Wc c13) rfl) rfl ?_
          refine Va (Vn rfl) rfl ?_
          refine Vc rfl rfl (Zw c16) rfl ?_
          refine Vc rfl rfl (Zw c16) rfl ?_
          refine Vc rfl rfl (Zw c16) rfl ?_
          refine Vc rfl rfl (Zw c16) rfl ?_
          refine Vc rfl rfl (Zw c16) rfl ?_
          refine Vc rfl rfl (Zw c16) rfl ?_
          refine Va (Vx (congrArg Wc c16) rfl) rfl ?_
          refine Va (Vn rfl) rfl ?_
          refine Vc rfl rfl (by decide) rfl ?_
          refine Vc rfl rfl (by decide) rfl ?_
          refine Vc rfl rfl (by decide) rfl ?_
          refine Vc rfl rfl (by decide) rfl ?_
          refine Vc rfl rfl (by decide) rfl ?_
          refine Vc rfl rfl (by decide) rfl ?_
          refine Vc rfl rfl (by decide) rfl ?_
          refine Vc rfl rfl (by decide) rfl ?_
          refine Va (Vx rfl rfl) rfl ?_
          refine Ve ?_
          obtain rfl := Wd hF
          refine Vz ?_
          exact Vm rfl [(2, 0), (0, 0), (1, 0)] (by decide) ⟨Vj rfl (.vs _ _), Vj rfl (.int _ _), Vu 1 0 rfl rfl, Xx 2 1 rfl rfl, Vj rfl (.bool _), Vu 0 2 rfl rfl, Vj rfl (.vs _ _), Vj rfl (.int _ _), Vj rfl (.int _ _), Vj rfl (.bool _), trivial⟩ ⟨⟨_, rfl, rfl, .same _ _ _ _ (Vq ⟨Vp ⟨.int _ _, .int _ _, .int _ _, trivial⟩, trivial⟩)⟩, ⟨_, rfl, rfl, .same _ _ _ _ (Vq ⟨Vp ⟨.vs _ _, .vs _ _, trivial⟩, trivial⟩)⟩, ⟨_, rfl, rfl, .same _ _ _ _ (Vs (fun _ => .bool _))⟩, trivial⟩
        ·have hF := Yj c13 hF
         refine Va (Vb rfl tf_78_0 ts_3 (by decide)) rfl ?_
         refine Va (Vh rfl (Vg rfl rfl) rfl ta_3 rfl) rfl ?_
         refine Va (Vk rfl) rfl ?_
         refine Va (rd_neq rfl rfl) rfl ?_
         refine Va (Vn rfl) rfl ?_
         refine Vc rfl rfl (Zw c13) rfl ?_
         refine Vc rfl rfl (Zw c13) rfl ?_
         refine Vc rfl rfl (Zw c13) rfl ?_
         refine Vc rfl rfl (Zw c13) rfl ?_
         refine Vc rfl rfl (Zw c13) rfl ?_
         refine Va (Vx (congrArg Wc c13) rfl) rfl ?_
         refine Va (Vn rfl) rfl ?_
         refine Vc rfl rfl (by decide) rfl ?_
         refine Vc rfl rfl (by decide) rfl ?_
         refine Vc rfl rfl (by decide) rfl ?_
         refine Vc rfl rfl (by decide) rfl ?_
         refine Vc rfl rfl (by decide) rfl ?_
         refine Vc rfl rfl (by decide) rfl ?_
         refine Va (Vx rfl rfl) rfl ?_
         refine Va (Vn rfl) rfl ?_
         refine Vc rfl rfl (by decide) rfl ?_
         refine Vc rfl rfl (by decide) rfl ?_
         refine Vc rfl rfl (by decide) rfl ?_
         refine Vc rfl rfl (by decide) rfl ?_
         refine Vc rfl rfl (by decide) rfl ?_
         refine Vc rfl rfl (by decide) rfl ?_
         refine Vc rfl rfl (by decide) rfl ?_
         refine Vc rfl rfl (by decide) rfl ?_
         refine Va (Vx rfl rfl) rfl ?_
         refine Ve ?_
         obtain rfl := Wd hF
         refine Vz ?_
         exact Vm rfl [(2, 0), (0, 0), (1, 0)] (by decide) ⟨Vj rfl (.vs _ _), Vj rfl (.int _ _), Vu 1 0 rfl rfl, Xx 2 1 rfl rfl, Vj rfl (.bool _), Vu 0 2 rfl rfl, Vj rfl (.vs _ _), Vj rfl (.int _ _), Vj rfl (.int _ _), Vj rfl (.bool _), trivial⟩ ⟨⟨_, rfl, rfl, .same _ _ _ _ (Vq ⟨Vp ⟨.int _ _, .int _ _, .int _ _, trivial⟩, trivial⟩)⟩, ⟨_, rfl, rfl, .same _ _ _ _ (Vq ⟨Vp ⟨.vs _ _, .vs _ _, trivial⟩, trivial⟩)⟩, ⟨_, rfl, rfl, .same _ _ _ _ (Vs (fun _ => .bool _))⟩, trivial⟩
       ·rintro _ _ _ _ ⟨rfl, hw⟩
        refine ⟨_, _, _, hw, ?_⟩
        refine Xd rfl (fun c22 => ?_) (fun c22 => ?_)
        ·have hF := Yi c22 hF
         refine Vd ?_
         obtain ⟨x23, h24, hF⟩ := Ya hF
         refine Va (Yx rfl) rfl ?_
         refine Va (Vb rfl tf_78_2 ts_3 (by decide)) rfl ?_
         refine Va (Vh rfl (Vg rfl rfl) rfl ta_3 rfl) rfl ?_
         refine Va (Zl rfl rfl rfl (Vg rfl rfl) h24 te_49 ts_4) rfl ?_
         refine Vi (vef_stL (p := .bool true) (e' := true) rfl (Vg rfl rfl) (Ye h24).2 rfl ts_4 rfl (Yn rfl) (We rfl) rfl (Xn rfl rfl)) rfl ?_
         refine Va (Zc rfl) rfl ?_
         refine Ve ?_
         obtain rfl := Wd hF
         refine Vz ?_
         exact Vm rfl [(1, 0), (2, 0)] (by decide) ⟨Vj rfl (.vs _ _), Vj rfl (.int _ _), Vu 0 1 rfl rfl, Xx 1 2 rfl (congrArg (PV.sl _ _ 0) (Eq.trans rfl List.length_set.symm)), Vj rfl (.bool _), Vj rfl (.vs _ _), Vj rfl (.int _ _), Vj rfl (.int _ _), trivial⟩ ⟨⟨_, rfl, rfl, .same _ _ _ _ (Vq ⟨Vp ⟨.vs _ _, .vs _ _, trivial⟩, trivial⟩)⟩, ⟨_, rfl, rfl, .same _ _ _ _ (Vs (fun _ => .bool _))⟩, trivial⟩
        ·have hF := Yj c22 hF
         refine Xe ?_
         obtain rfl := Wd hF
         refine Vz ?_
         exact Vm rfl [(1, 0), (2, 0)] (by decide) ⟨Vj rfl (.vs _ _), Vj rfl (.int _ _), Vu 0 1 rfl rfl, Xx 1 2 rfl rfl, Vj rfl (.bool _), Vj rfl (.vs _ _), Vj rfl (.int _ _), Vj rfl (.int _ _), trivial⟩ ⟨⟨_, rfl, rfl, .same _ _ _ _ (Vq ⟨Vp ⟨.vs _ _, .vs _ _, trivial⟩, trivial⟩)⟩, ⟨_, rfl, rfl, .same _ _ _ _ (Vs (fun _ => .bool _))⟩, trivial⟩
      ·rintro _ _ _ _ ⟨rfl, hw⟩
       refine ⟨_, _, _, hw, ?_⟩
       refine Vd ?_
       refine Va (Za rfl rfl rfl) rfl ?_
       refine Va (Vk rfl) rfl ?_
       refine Ve ?_
       obtain rfl := Wd hF
       refine Vz ?_
       exact Vl ⟨rfl, rfl, rfl, rfl, rfl, rfl, rfl, rfl, trivial⟩
     ·have hF := Yj c8 hF
      refine Yr ?_
      obtain rfl := Wd hF
      refine Vz ?_
      exact Vl ⟨rfl, rfl, rfl, rfl, rfl, trivial⟩
    ·rintro _ _ _ _ ⟨rfl, hw⟩
     refine ⟨_, _, _, hw, ?_⟩
     obtain rfl := Wd hF
     refine Vz ?_
     exact Vl ⟨rfl, rfl, rfl, rfl, rfl, trivial⟩
   ·have hF := Yj c5 hF
    refine Yr ?_
    obtain rfl := Wd hF
    refine Vz ?_
    exact Vm rfl [(1, 0)] (by decide) ⟨Xx 0 1 rfl rfl, trivial⟩ ⟨⟨_, rfl, rfl, .same _ _ _ _ (Vs (fun _ => .bool _))⟩, trivial⟩
  ·rintro _ _ _ _ ⟨rfl, hw⟩
   refine ⟨_, _, _, hw, ?_⟩
   refine Vf ?_
   refine Vd ?_
   refine Va (Yx rfl) rfl ?_
   refine Va (Zy rfl) rfl ?_
   refine Ve ?_
   refine Xt ?_
   obtain rfl := Wd hF
   refine fnR ?_
   refine Weak.trans (Ys (E' := [(8, .vs 1 (Wa Wc o4))]) (loc1 := [⟨4, 1, [], 0 + 1⟩]) rfl 0 rfl (Ym (fun _ => .bool _)) ⟨cv_sl rfl rfl rfl (Zb rfl), trivial⟩ ⟨.refl _, trivial⟩) ?_
   exact Vm rfl [] (by decide) ⟨Vj rfl (.vs _ _), trivial⟩ trivial
 ·rintro _ _ _ _ ⟨he, hw⟩
  refine ⟨_, _, _, hw, ?_⟩
  exact Yu he [.vs 1 (Wa Wc r)] ⟨rfl, trivial⟩ (.vs _ _) ⟨rfl, rfl⟩

theorem F_recirculate_circles_ok {p0 : T_Mine} {p1 : List T_recirculate_arc} {r : List T_recirculate_arc} (hF : F_recirculate_circles p0 p1 = some r) (low : List AObj) :
    Zd Try.prog 34 [.agg [.vs 2 (Wa T_Place.enc p0.Places), .vs 10 (Wa T_Road.enc p0.Roads)], .vs 3 (Wa T_recirculate_arc.enc p1)] low fun x low' => x = .vs 3 (Wa T_recirculate_arc.enc r) ∧ low' = low := by
 refine Xh (nt := 55) (rs := [.tmp 4]) Try.func34 rfl rfl (We rfl) rfl ?_
 refine Vo (Q' := FnE (fun E' lw lc => Xr E' lw lc [(4, .vs 3 (Wa T_recirculate_arc.enc r))] low [])) ?_ ?_
 ·unfold F_recirculate_circles at hF
  refine Vf ?_
  refine Vd ?_
  refine Vi (Zo rfl rfl (v := .agg [.vs 2 (Wa T_Place.enc p0.Places), .vs 10 (Wa T_Road.enc p0.Roads)]) rfl rfl (Wf _) rfl rfl) rfl ?_
  refine Va (rd_nv (sz := 3) (rd_asN rfl)) rfl ?_
  refine Ve ?_
  refine Vf ?_
  refine Vd ?_
  refine Vi (vef_nilsN rfl rfl 78 3 (Wf _) (rd_asN rfl)) rfl ?_
  refine Ve ?_
  refine Vf ?_
  refine Vf ?_
  refine Vd ?_
  refine Va (Yc rfl) rfl ?_
  refine Va (Xm (Xy rfl rfl te_74) (congrArg (fun n : Nat => Wb .i64 (n : Int)) (Wh _))) rfl ?_
  refine Va (Vk rfl) rfl ?_
  refine Ve ?_
  refine Xa ?_
  obtain ⟨o2, ho2, hF⟩ := Ya hF
  refine Vo (Yk (F_recirculate_circles_L1 p0 p1) (fun s1 E' lw lc => Xr E' lw lc [(1, .vs 3 (Wa T_recirculate_arc.enc p1)), (2, .ptr (low.length + 0) 0 0 0), (5, .sl (low.length + 1) 0 0 (s1.2).length), (9, .vs 3 (Wa T_recirculate_arc.enc p1)), (10, .int .i64 ((p1).length : Int)), (11, .int .i64 s1.1)] low [⟨27, 2, [.agg [.vs 2 (Wa T_Place.enc p0.Places), .vs 10 (Wa T_Road.enc p0.Roads)]], 0⟩, ⟨78, 3, Wa T_recirculate_arc.enc s1.2, 0⟩]) (fun o2 => OnlyE (.exit 0) (fun E' lw lc => Xr E' lw lc [(5, .sl (low.length + 0) 0 0 (o2).length)] low [⟨78, 3, Wa T_recirculate_arc.enc o2, 0⟩])) ho2 ?_ (by rintro _ _ _ _ ⟨h, _⟩ <;> cases h) ?_) ?_
  ·exact Vl ⟨rfl, rfl, rfl, rfl, rfl, rfl, trivial⟩
  ·rintro s1 os1 _ _ _ hF hw
   unfold F_recirculate_circles_L1 at hF
   refine Yd hw ?_
   refine Vf ?_
   refine Vd ?_
   refine Va (Yh rfl rfl) rfl ?_
   refine Ve ?_
   refine Vf ?_
   refine Xd rfl (fun c3 => ?_) (fun c3 => ?_)
   ·have hF := Yi c3 hF
    refine Xe ?_
    refine Vf ?_
    obtain ⟨o4, ho4, hF⟩ := Ya hF
    refine Vo (Q' := (fun o4 => OnlyE .normal (fun E' lw lc => Xr E' lw lc [(1, .vs 3 (Wa T_recirculate_arc.enc p1)), (2, .ptr (low.length + 0) 0 0 0), (5, .sl (low.length + 1) 0 0 (o4).length), (9, .vs 3 (Wa T_recirculate_arc.enc p1)), (10, .int .i64 ((p1).length : Int)), (11, .int .i64 s1.1)] low [⟨27, 2, [.agg [.vs 2 (Wa T_Place.enc p0.Places), .vs 10 (Wa T_Road.enc p0.Roads)]], 0⟩, ⟨78, 3, Wa T_recirculate_arc.enc o4, 0⟩])) o4) ?_ ?_
    ·replace hF := ho4
     refine Xa ?_
     refine Vf ?_
     refine Vd ?_
     obtain ⟨x5, h6, hF⟩ := Ya hF
     refine Va (Xm (Xz rfl rfl h6 te_74 ts_78) (v' := .vptr [.int .i64 x5.road, .int .i64 x5.from_, .int .i64 x5.to_] 0) rfl) rfl ?_
     refine Va (Zi (ds := [.int .i64 x5.road, .int .i64 x5.from_, .int .i64 x5.to_]) rfl ta_78 ts_78 rfl rfl) rfl ?_
     refine Vi (Xp rfl rfl tz_78 rfl rfl (Wf _) rfl) rfl ?_
     refine Vi (Xb (p := .agg [.int .i64 x5.road, .int .i64 x5.from_, .int .i64 x5.to_]) (e' := .agg [.int .i64 x5.road, .int .i64 x5.from_, .int .i64 x5.to_]) rfl (Vg rfl rfl) rfl rfl ts_78 rfl (Yn rfl) rfl (We rfl) rfl (Xn rfl rfl)) rfl ?_
     refine Ve ?_
     refine Vf ?_
     refine Vf ?_
     obtain ⟨o7, ho7, hF⟩ := Ya hF
     refine Vo (Q' := (fun o7 => OnlyE .normal (fun E' lw lc => Xr E' lw lc [(1, .vs 3 (Wa T_recirculate_arc.enc p1)), (2, .ptr (low.length + 0) 0 0 0), (5, .sl (low.length + 1) 0 0 (s1.2).length), (7, .ptr (low.length + 2) 0 0 0), (9, .vs 3 (Wa T_recirculate_arc.enc p1)), (10, .int .i64 ((p1).length : Int)), (11, .int .i64 s1.1), (30, .bool o7)] low [⟨27, 2, [.agg [.vs 2 (Wa T_Place.enc p0.Places), .vs 10 (Wa T_Road.enc p0.Roads)]], 0⟩, ⟨78, 3, Wa T_recirculate_arc.enc s1.2, 0⟩, ⟨78, 3, [.agg [.int .i64 x5.road, .int .i64 x5.from_, .int .i64 x5.to_]], 0⟩])) o7) ?_ ?_
     ·replace hF := ho7
      refine Vd ?_
      obtain ⟨x8, h9, hF⟩ := Ya hF
      rcases Wg x8.Surface with c10 | c10
      ·have hF := Yi c10 hF
       refine Va (Vb rfl tf_27_0 ts_24 (by decide)) rfl ?_
       refine Va (Vh rfl (Vg rfl rfl) rfl ta_24 rfl) rfl ?_
       refine Va (Vb rfl tf_78_1 ts_3 (by decide)) rfl ?_
       refine Va (Vh rfl (Vg rfl rfl) rfl ta_3 rfl) rfl ?_
       refine Va (Xm (Xz rfl rfl h9 te_24 ts_48) (v' := .vptr [.int .i64 x8.Height, .bool x8.Surface] 0) rfl) rfl ?_
       refine Va (Yg rfl tf_48_1 ts_4 (by decide)) rfl ?_
       refine Va (Xs rfl ta_4 rfl) rfl ?_
       refine Va (Vn rfl) rfl ?_
       refine Vc rfl rfl (Zq c10) rfl ?_
       refine Vc rfl rfl (Zq c10) rfl ?_
       refine Vc rfl rfl (Zq c10) rfl ?_
       refine Vc rfl rfl (Zq c10) rfl ?_
       refine Vc rfl rfl (Zq c10) rfl ?_
       refine Vc rfl rfl (Zq c10) rfl ?_
       refine Vc rfl rfl (Zq c10) rfl ?_
       refine Va (Vw (congrArg Wc c10) rfl) rfl ?_
       refine Ve ?_
       obtain rfl := Wd hF
       refine Vz ?_
       exact Vl ⟨rfl, rfl, rfl, rfl, rfl, rfl, rfl, rfl, trivial⟩
      ·have hF := Yj c10 hF
       obtain ⟨x11, h12, hF⟩ := Ya hF
       refine Va (Vb rfl tf_27_0 ts_24 (by decide)) rfl ?_
       refine Va (Vh rfl (Vg rfl rfl) rfl ta_24 rfl) rfl ?_
       refine Va (Vb rfl tf_78_1 ts_3 (by decide)) rfl ?_
       refine Va (Vh rfl (Vg rfl rfl) rfl ta_3 rfl) rfl ?_
       refine Va (Xm (Xz rfl rfl h9 te_24 ts_48) (v' := .vptr [.int .i64 x8.Height, .bool x8.Surface] 0) rfl) rfl ?_
       refine Va (Yg rfl tf_48_1 ts_4 (by decide)) rfl ?_
       refine Va (Xs rfl ta_4 rfl) rfl ?_
       refine Va (Vn rfl) rfl ?_
       refine Xl rfl rfl c10 ?_
       refine Va (Vb rfl tf_27_0 ts_24 (by decide)) rfl ?_
       refine Xl rfl rfl c10 ?_
       refine Va (Vh rfl (Vg rfl rfl) rfl ta_24 rfl) rfl ?_
       refine Xl rfl rfl c10 ?_
       refine Va (Vb rfl tf_78_2 ts_3 (by decide)) rfl ?_
       refine Xl rfl rfl c10 ?_
       refine Va (Vh rfl (Vg rfl rfl) rfl ta_3 rfl) rfl ?_
       refine Xl rfl rfl c10 ?_
       refine Va (Xm (Xz rfl rfl h12 te_24 ts_48) (v' := .vptr [.int .i64 x11.Height, .bool x11.Surface] 0) rfl) rfl ?_
       refine Xl rfl rfl c10 ?_
       refine Va (Yg rfl tf_48_1 ts_4 (by decide)) rfl ?_
       refine Xl rfl rfl c10 ?_
       refine Va (Xs rfl ta_4 rfl) rfl ?_
       refine Va (Vx (congrArg Wc c10) rfl) rfl ?_
       refine Ve ?_
       obtain rfl := Wd hF
       refine Vz ?_
       exact Vl ⟨rfl, rfl, rfl, rfl, rfl, rfl, rfl, rfl, trivial⟩
     ·rintro _ _ _ _ ⟨rfl, hw⟩
      refine ⟨_, _, _, hw, ?_⟩
      refine Xd rfl (fun c13 => ?_) (fun c13 => ?_)
      ·have hF := Yi c13 hF
       refine Yr ?_
       obtain rfl := Wd hF
       refine Vz ?_
       exact Vm rfl [(0, 0), (1, 0)] (by decide) ⟨Vj rfl (.vs _ _), Vu 0 0 rfl rfl, Xx 1 1 rfl rfl, Vj rfl (.vs _ _), Vj rfl (.int _ _), Vj rfl (.int _ _), trivial⟩ ⟨⟨_, rfl, rfl, .same _ _ _ _ (Vq ⟨Vp ⟨.vs _ _, .vs _ _, trivial⟩, trivial⟩)⟩, ⟨_, rfl, rfl, .same _ _ _ _ (Vs T_recirculate_arc.enc_lt)⟩, trivial⟩
      ·have hF := Yj c13 hF
       refine Xe ?_
       refine Vf ?_
       refine Vd ?_
       obtain ⟨x14, h15, hF⟩ := Ya hF
       refine Va (Vb rfl tf_27_0 ts_24 (by decide)) rfl ?_
       refine Va (Vh rfl (Vg rfl rfl) rfl ta_24 rfl) rfl ?_
       refine Va (Xm (Xy rfl rfl te_24) (congrArg (fun n : Nat => Wb .i64 (n : Int)) (Wh _))) rfl ?_
       refine Vi (vef_mkN (f := Wc) (zz := false) rfl rfl rfl rfl te_49 ts_4 tb_4 (by decide) tz_4 rfl rfl (Wf _) rfl h15) rfl ?_
       refine Va (Zy rfl) rfl ?_
       refine Ve ?_
       refine Vf ?_
       refine Vd ?_
       obtain ⟨x16, h17, hF⟩ := Ya hF
       refine Va (Yx rfl) rfl ?_
       refine Va (Vb rfl tf_78_2 ts_3 (by decide)) rfl ?_
       refine Va (Vh rfl (Vg rfl rfl) rfl ta_3 rfl) rfl ?_
       refine Va (Zl rfl rfl rfl (Vg rfl rfl) h17 te_49 ts_4) rfl ?_
       refine Vi (vef_stL (p := .bool true) (e' := true) rfl (Vg rfl rfl) (Ye h17).2 rfl ts_4 rfl (Yn rfl) (We rfl) rfl (Xn rfl rfl)) rfl ?_
       refine Ve ?_
       refine Vf ?_
       refine Yd (Ys (E' := [(1, .vs 3 (Wa T_recirculate_arc.enc p1)), (2, .ptr (low.length + 0) 0 0 0), (5, .sl (low.length + 1) 0 0 (s1.2).length), (7, .ptr (low.length + 2) 0 0 0), (8, .vs 1 (Wa Wc (x14.set ((x5.to_).toNat) true))), (9, .vs 3 (Wa T_recirculate_arc.enc p1)), (10, .int .i64 ((p1).length : Int)), (11, .int .i64 s1.1)]) (loc1 := [⟨27, 2, [.agg [.vs 2 (Wa T_Place.enc p0.Places), .vs 10 (Wa T_Road.enc p0.Roads)]], 0⟩, ⟨78, 3, Wa T_recirculate_arc.enc s1.2, 0⟩, ⟨78, 3, [.agg [.int .i64 x5.road, .int .i64 x5.from_, .int .i64 x5.to_]], 0⟩, ⟨4, 1, [], 0 + 1⟩]) rfl 3 rfl (Ym (fun _ => .bool _)) ⟨Vt rfl, Vt rfl, Vt rfl, Vt rfl, cv_sl rfl rfl rfl (Zb (Eq.trans rfl List.length_set.symm)), Vt rfl, Vt rfl, Vt rfl, trivial⟩ ⟨.refl _, .refl _, .refl _, .refl _, trivial⟩) ?_
       obtain ⟨x18, h19, hF⟩ := Ya hF
       obtain ⟨x20, h21, hF⟩ := Ya hF
       refine Zm [[], [], [], [], [3], [0, 1, 2, 3, 4], [], [6], [0, 1, 2, 3, 4, 5, 6, 7], [0, 1, 2, 3, 4, 5, 6, 7, 8]] mixed (by kernel_rfl) rfl ?_
       refine Xu rfl rfl (Vy (ds := [.vs 2 (Wa T_Place.enc p0.Places), .vs 10 (Wa T_Road.enc p0.Roads)]) rfl (Vg rfl rfl) rfl ta_27 ts_27 rfl rfl rfl) ?_
       refine Xu rfl rfl (Yc rfl) ?_
       refine Xu rfl rfl (Yc rfl) ?_
       refine Xu rfl rfl (Vb rfl tf_78_0 ts_3 (by decide)) ?_
       refine Xu rfl rfl (Vh rfl (Vg rfl rfl) rfl ta_3 rfl) ?_
       refine dn1 rfl rfl (Zz (Xg rfl Try.call36 (F_recirculate_spread_ok h19 _))) ?_
       refine Xu rfl rfl (Vb rfl tf_78_1 ts_3 (by decide)) ?_
       refine Xu rfl rfl (Vh rfl (Vg rfl rfl) rfl ta_3 rfl) ?_
       refine Xu rfl rfl (Xm (Xz rfl rfl h21 te_49 ts_4) (v' := .vptr [.bool x20] 0) rfl) ?_
       refine Xu rfl rfl (Xs rfl ta_4 rfl) ?_
       refine Yq ?_
       refine Xd rfl (fun c22 => ?_) (fun c22 => ?_)
       ·have hF := Yi c22 hF
        refine Vd ?_
        obtain ⟨x23, h24, hF⟩ := Ya hF
        refine Va (Yx rfl) rfl ?_
        refine Va (Vy (ds := [.int .i64 x5.road, .int .i64 x5.from_, .int .i64 x5.to_]) rfl (Vg rfl rfl) rfl ta_78 ts_78 rfl rfl rfl) rfl ?_
        refine Vi (Yt (es := Wa T_recirculate_arc.enc [x5]) ⟨rfl, rfl, trivial⟩ rfl rfl (Zg rfl) te_74 ts_78 tz_78 rfl rfl (Wf _) (by decide) (Ym T_recirculate_arc.enc_lt)) rfl ?_
        refine Vi (Zu (f := T_recirculate_arc.enc) (l := s1.2) (ys := [x5]) rfl rfl (Vg rfl rfl) rfl (Zx rfl) te_74 ts_78 tb_78 (by decide) tz_78 rfl h24 (Xn rfl rfl)) rfl ?_
        refine Va (Zy rfl) rfl ?_
        refine Ve ?_
        obtain rfl := Wd hF
        refine Vz ?_
        exact Vm rfl [(0, 0), (1, 0 + 1)] (by decide) ⟨Vj rfl (.vs _ _), Vu 0 0 rfl rfl, Xx 1 1 rfl rfl, Vj rfl (.vs _ _), Vj rfl (.int _ _), Vj rfl (.int _ _), trivial⟩ ⟨⟨_, rfl, rfl, .same _ _ _ _ (Vq ⟨Vp ⟨.vs _ _, .vs _ _, trivial⟩, trivial⟩)⟩, ⟨_, rfl, rfl, .same _ _ _ _ (Vs T_recirculate_arc.enc_lt)⟩, trivial⟩
       ·have hF := Yj c22 hF
        refine Xe ?_
        obtain rfl := Wd hF
        refine Vz ?_
        exact Vm rfl [(0, 0), (1, 0)] (by decide) ⟨Vj rfl (.vs _ _), Vu 0 0 rfl rfl, Xx 1 1 rfl rfl, Vj rfl (.vs _ _), Vj rfl (.int _ _), Vj rfl (.int _ _), trivial⟩ ⟨⟨_, rfl, rfl, .same _ _ _ _ (Vq ⟨Vp ⟨.vs _ _, .vs _ _, trivial⟩, trivial⟩)⟩, ⟨_, rfl, rfl, .same _ _ _ _ (Vs T_recirculate_arc.enc_lt)⟩, trivial⟩
    ·rintro _ _ _ _ ⟨rfl, hw⟩
     refine ⟨_, _, _, hw, ?_⟩
     refine Vd ?_
     refine Va (Za rfl rfl rfl) rfl ?_
     refine Va (Vk rfl) rfl ?_
     refine Ve ?_
     obtain rfl := Wd hF
     refine Vz ?_
     exact Vl ⟨rfl, rfl, rfl, rfl, rfl, rfl, trivial⟩
   ·have hF := Yj c3 hF
    refine Yr ?_
    obtain rfl := Wd hF
    refine Vz ?_
    exact Vm rfl [(1, 0)] (by decide) ⟨Xx 0 1 rfl rfl, trivial⟩ ⟨⟨_, rfl, rfl, .same _ _ _ _ (Vs T_recirculate_arc.enc_lt)⟩, trivial⟩
  ·rintro _ _ _ _ ⟨rfl, hw⟩
   refine ⟨_, _, _, hw, ?_⟩
   refine Vf ?_
   refine Vd ?_
   refine Va (Yx rfl) rfl ?_
   refine Va (Zy rfl) rfl ?_
   refine Ve ?_
   refine Xt ?_
   obtain rfl := Wd hF
   refine fnR ?_
   refine Weak.trans (Ys (E' := [(4, .vs 3 (Wa T_recirculate_arc.enc o2))]) (loc1 := [⟨78, 3, [], 0 + 1⟩]) rfl 0 rfl (Ym T_recirculate_arc.enc_lt) ⟨cv_sl rfl rfl rfl (Zb rfl), trivial⟩ ⟨.refl _, trivial⟩) ?_
   exact Vm rfl [] (by decide) ⟨Vj rfl (.vs _ _), trivial⟩ trivial
 ·rintro _ _ _ _ ⟨he, hw⟩
  refine ⟨_, _, _, hw, ?_⟩
  exact Yu he [.vs 3 (Wa T_recirculate_arc.enc r)] ⟨rfl, trivial⟩ (.vs _ _) ⟨rfl, rfl⟩

theorem F_recirculate_Circles_ok {p0 : T_Mine} {p1 : List T_Span} {r : List Int} (hF : F_recirculate_Circles p0 p1 = some r) (low : List AObj) :
    Zd Try.prog 12 [.agg [.vs 2 (Wa T_Place.enc p0.Places), .vs 10 (Wa T_Road.enc p0.Roads)], .vs 2 (Wa T_Span.enc p1)] low fun x low' => x = .vs 1 (Wa (Wb .i64) r) ∧ low' = low := by
 refine Xh (nt := 45) (rs := [.tmp 4]) Try.func12 rfl rfl (We rfl) rfl ?_
 refine Vo (Q' := FnE (fun E' lw lc => Xr E' lw lc [(4, .vs 1 (Wa (Wb .i64) r))] low [])) ?_ ?_
 ·unfold F_recirculate_Circles at hF
  refine Vf ?_
  refine Vd ?_
  refine Vi (Zo rfl rfl (v := .agg [.vs 2 (Wa T_Place.enc p0.Places), .vs 10 (Wa T_Road.enc p0.Roads)]) rfl rfl (Wf _) rfl rfl) rfl ?_
  refine Va (rd_nv (sz := 1) (rd_asN rfl)) rfl ?_
  refine Ve ?_
  refine Vf ?_
  refine Vd ?_
  obtain ⟨x1, h2, hF⟩ := Ya hF
  refine Va (Vy (ds := [.vs 2 (Wa T_Place.enc p0.Places), .vs 10 (Wa T_Road.enc p0.Roads)]) rfl (Vg rfl rfl) rfl ta_27 ts_27 rfl rfl rfl) rfl ?_
  refine Va (Yc rfl) rfl ?_
  refine Vi (Xg rfl Try.call30 (F_recirculate_arcs_ok h2 _)) rfl ?_
  refine Va (rd_mvT rfl) rfl ?_
  refine Va (Zr rfl rfl) rfl ?_
  refine Va (Zr rfl rfl) rfl ?_
  refine Va (rd_asV rfl) rfl ?_
  refine Va (Zc rfl) rfl ?_
  refine Ve ?_
  refine Vf ?_
  refine Vd ?_
  refine Vi (vef_nilsN rfl rfl 3 1 (Wf _) (rd_asN rfl)) rfl ?_
  refine Ve ?_
  refine Vf ?_
  refine Vf ?_
  refine Vd ?_
  obtain ⟨x3, h4, hF⟩ := Ya hF
  refine Va (Vy (ds := [.vs 2 (Wa T_Place.enc p0.Places), .vs 10 (Wa T_Road.enc p0.Roads)]) rfl (Vg rfl rfl) rfl ta_27 ts_27 rfl rfl rfl) rfl ?_
  refine Va (Yc rfl) rfl ?_
  refine Vi (Xg rfl Try.call34 (F_recirculate_circles_ok h4 _)) rfl ?_
  refine Va (Xm (Xy rfl rfl te_74) (congrArg (fun n : Nat => Wb .i64 (n : Int)) (Wh _))) rfl ?_
  refine Va (Vk rfl) rfl ?_
  refine Ve ?_
  refine Xa ?_
  obtain ⟨o6, ho6, hF⟩ := Ya hF
  refine Vo (Yk (F_recirculate_Circles_L1 x3) (fun s5 E' lw lc => Xr E' lw lc [(7, .sl (low.length + 0) 0 0 (s5.2).length), (18, .vs 3 (Wa T_recirculate_arc.enc x3)), (19, .int .i64 ((x3).length : Int)), (20, .int .i64 s5.1)] low [⟨3, 1, Wa (Wb .i64) s5.2, 0⟩]) (fun o6 => OnlyE (.exit 0) (fun E' lw lc => Xr E' lw lc [(7, .sl (low.length + 0) 0 0 (o6).length)] low [⟨3, 1, Wa (Wb .i64) o6, 0⟩])) ho6 ?_ (by rintro _ _ _ _ ⟨h, _⟩ <;> cases h) ?_) ?_
  ·exact Vm rfl [(1, 0)] (by decide) ⟨Xx 0 1 rfl rfl, Vj rfl (.vs _ _), Vj rfl (.int _ _), Vj rfl (.int _ _), trivial⟩ ⟨⟨_, rfl, rfl, .same _ _ _ _ (Vq trivial)⟩, trivial⟩
  ·rintro s5 os5 _ _ _ hF hw
   unfold F_recirculate_Circles_L1 at hF
   refine Yd hw ?_
   refine Vf ?_
   refine Vd ?_
   refine Va (Yh rfl rfl) rfl ?_
   refine Ve ?_
   refine Vf ?_
   refine Xd rfl (fun c7 => ?_) (fun c7 => ?_)
   ·have hF := Yi c7 hF
    refine Xe ?_
    refine Vf ?_
    obtain ⟨o8, ho8, hF⟩ := Ya hF
    refine Vo (Q' := (fun o8 => OnlyE .normal (fun E' lw lc => Xr E' lw lc [(7, .sl (low.length + 0) 0 0 (o8).length), (18, .vs 3 (Wa T_recirculate_arc.enc x3)), (19, .int .i64 ((x3).length : Int)), (20, .int .i64 s5.1)] low [⟨3, 1, Wa (Wb .i64) o8, 0⟩])) o8) ?_ ?_
    ·replace hF := ho8
     refine Xa ?_
     refine Vf ?_
     refine Vd ?_
     obtain ⟨x9, h10, hF⟩ := Ya hF
     refine Va (Xm (Xz rfl rfl h10 te_74 ts_78) (v' := .vptr [.int .i64 x9.road, .int .i64 x9.from_, .int .i64 x9.to_] 0) rfl) rfl ?_
     refine Va (Zi (ds := [.int .i64 x9.road, .int .i64 x9.from_, .int .i64 x9.to_]) rfl ta_78 ts_78 rfl rfl) rfl ?_
     refine Vi (Xp rfl rfl tz_78 rfl rfl (Wf _) rfl) rfl ?_
     refine Vi (Xb (p := .agg [.int .i64 x9.road, .int .i64 x9.from_, .int .i64 x9.to_]) (e' := .agg [.int .i64 x9.road, .int .i64 x9.from_, .int .i64 x9.to_]) rfl (Vg rfl rfl) rfl rfl ts_78 rfl (Yn rfl) rfl (We rfl) rfl (Xn rfl rfl)) rfl ?_
     refine Ve ?_
     refine Vf ?_
     obtain ⟨o11, ho11, hF⟩ := Ya hF
     refine Vo (Q' := (fun o11 => OnlyE .normal (fun E' lw lc => Xr E' lw lc [(7, .sl (low.length + 0) 0 0 (s5.2).length), (9, .ptr (low.length + 1) 0 0 0), (18, .vs 3 (Wa T_recirculate_arc.enc x3)), (19, .int .i64 ((x3).length : Int)), (20, .int .i64 s5.1), (37, .bool o11)] low [⟨3, 1, Wa (Wb .i64) s5.2, 0⟩, ⟨78, 3, [.agg [.int .i64 x9.road, .int .i64 x9.from_, .int .i64 x9.to_]], 0⟩])) o11) ?_ ?_
     ·replace hF := ho11
      rcases Wg (decide (((s5.2).length : Int) = 0)) with c12 | c12
      ·have hF := Yi c12 hF
       refine Zm [[], [0], [0, 1], [0, 1, 2], [0, 1, 2, 3], [0, 1, 2, 3], [0, 1, 2, 3, 5], [0, 1, 2, 3, 5, 6], [0, 1, 2, 3, 4, 5, 6, 7], [0, 1, 2, 3, 4, 5, 6, 7, 8], [0, 1, 2, 3], [0, 1, 2, 3, 10], [0, 1, 2, 3, 4, 5, 6, 7, 8, 9, 10, 11], [0, 1, 2, 3, 4, 5, 6, 7, 8, 9, 10, 11, 12]] mixed (by kernel_rfl) rfl ?_
       refine Xu rfl rfl (Yx rfl) ?_
       refine Xu rfl rfl (rd_lenS rfl (Vg rfl rfl) rfl rfl te_32) ?_
       refine Xu rfl rfl (Zn rfl rfl) ?_
       refine Xu rfl rfl (Vn rfl) ?_
       refine Yo rfl rfl rfl (Zq c12) ?_
       refine Yo rfl rfl rfl (Zq c12) ?_
       refine Yo rfl rfl rfl (Zq c12) ?_
       refine Yo rfl rfl rfl (Zq c12) ?_
       refine Yo rfl rfl rfl (Zq c12) ?_
       refine Yo rfl rfl rfl (Zq c12) ?_
       refine Yo rfl rfl rfl (Zq c12) ?_
       refine Yo rfl rfl rfl (Zq c12) ?_
       refine Yo rfl rfl rfl (Zq c12) ?_
       refine Xu rfl rfl (Vw (congrArg Wc c12) rfl) ?_
       refine Yq ?_
       obtain rfl := Wd hF
       refine Vz ?_
       exact Vl ⟨rfl, rfl, rfl, rfl, rfl, rfl, trivial⟩
      ·have hF := Yj c12 hF
       obtain ⟨x13, h14, hF⟩ := Ya hF
       refine Zm [[], [0], [0, 1], [0, 1, 2], [0, 1, 2, 3], [0, 1, 2, 3], [0, 1, 2, 3, 5], [0, 1, 2, 3, 5, 6], [0, 1, 2, 3, 4, 5, 6, 7], [0, 1, 2, 3, 4, 5, 6, 7, 8], [0, 1, 2, 3], [0, 1, 2, 3, 10], [0, 1, 2, 3, 4, 5, 6, 7, 8, 9, 10, 11], [0, 1, 2, 3, 4, 5, 6, 7, 8, 9, 10, 11, 12]] mixed (by kernel_rfl) rfl ?_
       refine Xu rfl rfl (Yx rfl) ?_
       refine Xu rfl rfl (rd_lenS rfl (Vg rfl rfl) rfl rfl te_32) ?_
       refine Xu rfl rfl (Zn rfl rfl) ?_
       refine Xu rfl rfl (Vn rfl) ?_
       refine dt1 rfl rfl rfl rfl c12 (Yx rfl) ?_
       refine dt1 rfl rfl rfl rfl c12 (Yx rfl) ?_
       refine dt1 rfl rfl rfl rfl c12 (rd_lenS rfl (Vg rfl rfl) rfl rfl te_32) ?_
       refine dt1 rfl rfl rfl rfl c12 (Zs rfl rfl rfl) ?_
       refine dt1 rfl rfl rfl rfl c12 (Zl rfl rfl rfl (Vg rfl rfl) h14 te_32 ts_3) ?_
       refine dt1 rfl rfl rfl rfl c12 (Zk rfl (Vg rfl rfl) (Ye h14).2 ta_3 rfl) ?_
       refine dt1 rfl rfl rfl rfl c12 (Vb rfl tf_78_0 ts_3 (by decide)) ?_
       refine dt1 rfl rfl rfl rfl c12 (Vh rfl (Vg rfl rfl) rfl ta_3 rfl) ?_
       refine dt1 rfl rfl rfl rfl c12 (rd_neq rfl rfl) ?_
       refine Xu rfl rfl (Vx (congrArg Wc c12) rfl) ?_
       refine Yq ?_
       obtain rfl := Wd hF
       refine Vz ?_
       exact Vl ⟨rfl, rfl, rfl, rfl, rfl, rfl, trivial⟩
     ·rintro _ _ _ _ ⟨rfl, hw⟩
      refine ⟨_, _, _, hw, ?_⟩
      refine Xd rfl (fun c15 => ?_) (fun c15 => ?_)
      ·have hF := Yi c15 hF
       refine Vd ?_
       obtain ⟨x16, h17, hF⟩ := Ya hF
       refine Va (Yx rfl) rfl ?_
       refine Va (Vb rfl tf_78_0 ts_3 (by decide)) rfl ?_
       refine Va (Vh rfl (Vg rfl rfl) rfl ta_3 rfl) rfl ?_
       refine Vi (Yt (es := Wa (Wb .i64) [x9.road]) ⟨rfl, rfl, trivial⟩ rfl rfl (Zg rfl) te_32 ts_3 tz_3 rfl rfl (Wf _) (by decide) (Ym (fun _ => .int _ _))) rfl ?_
       refine Vi (Zu (f := (Wb .i64)) (l := s5.2) (ys := [x9.road]) rfl rfl (Vg rfl rfl) rfl (Zx rfl) te_32 ts_3 tb_3 (by decide) tz_3 rfl h17 (Xn rfl rfl)) rfl ?_
       refine Va (Zy rfl) rfl ?_
       refine Ve ?_
       obtain rfl := Wd hF
       refine Vz ?_
       exact Vm rfl [(0, 0 + 1)] (by decide) ⟨Xx 0 0 rfl rfl, Vj rfl (.vs _ _), Vj rfl (.int _ _), Vj rfl (.int _ _), trivial⟩ ⟨⟨_, rfl, rfl, .same _ _ _ _ (Vs (fun _ => .int _ _))⟩, trivial⟩
      ·have hF := Yj c15 hF
       refine Xe ?_
       obtain rfl := Wd hF
       refine Vz ?_
       exact Vm rfl [(0, 0)] (by decide) ⟨Xx 0 0 rfl rfl, Vj rfl (.vs _ _), Vj rfl (.int _ _), Vj rfl (.int _ _), trivial⟩ ⟨⟨_, rfl, rfl, .same _ _ _ _ (Vs (fun _ => .int _ _))⟩, trivial⟩
    ·rintro _ _ _ _ ⟨rfl, hw⟩
     refine ⟨_, _, _, hw, ?_⟩
     refine Vd ?_
     refine Va (Za rfl rfl rfl) rfl ?_
     refine Va (Vk rfl) rfl ?_
     refine Ve ?_
     obtain rfl := Wd hF
     refine Vz ?_
     exact Vl ⟨rfl, rfl, rfl, rfl, trivial⟩
   ·have hF := Yj c7 hF
    refine Yr ?_
    obtain rfl := Wd hF
    refine Vz ?_
    exact Vl ⟨rfl, trivial⟩
  ·rintro _ _ _ _ ⟨rfl, hw⟩
   refine ⟨_, _, _, hw, ?_⟩
   refine Vf ?_
   refine Vd ?_
   refine Va (Yx rfl) rfl ?_
   refine Va (Zy rfl) rfl ?_
   refine Ve ?_
   refine Xt ?_
   obtain rfl := Wd hF
   refine fnR ?_
   refine Weak.trans (Ys (E' := [(4, .vs 1 (Wa (Wb .i64) o6))]) (loc1 := [⟨3, 1, [], 0 + 1⟩]) rfl 0 rfl (Ym (fun _ => .int _ _)) ⟨cv_sl rfl rfl rfl (Zb rfl), trivial⟩ ⟨.refl _, trivial⟩) ?_
   exact Vm rfl [] (by decide) ⟨Vj rfl (.vs _ _), trivial⟩ trivial
 ·rintro _ _ _ _ ⟨he, hw⟩
  refine ⟨_, _, _, hw, ?_⟩
  exact Yu he [.vs 1 (Wa (Wb .i64) r)] ⟨rfl, trivial⟩ (.vs _ _) ⟨rfl, rfl⟩

theorem F_ref14_reach_ok {p0 : T_Mine} {p1 : List T_Span} {p2 : List Bool} {p3 : Int} {r : List Bool} (hF : F_ref14_reach p0 p1 p2 p3 = some r) (low : List AObj) {n : Nat} (hn : low.length = n) :
    Zd Try.prog 35 [.agg [.vs 2 (Wa T_Place.enc p0.Places), .vs 10 (Wa T_Road.enc p0.Roads)], .vs 2 (Wa T_Span.enc p1), .vs 1 (Wa Wc p2), .int .i64 p3] low fun x low' => x = .sl (n + 0) 0 0 (r).length ∧ low' = low ++ [⟨4, 1, Wa Wc r, 0⟩] := by
 refine Xh (nt := 83) (rs := [.tmp 8]) Try.func35 rfl rfl (We rfl) rfl ?_
 refine Vo (Q' := FnE (fun E' lw lc => Xr E' lw lc [(8, .sl (n + 0) 0 0 (r).length)] low [⟨4, 1, Wa Wc r, 0⟩])) ?_ ?_
 ·unfold F_ref14_reach at hF
  refine Vf ?_
  refine Vd ?_
  refine Vi (Zo hn rfl (v := .agg [.vs 2 (Wa T_Place.enc p0.Places), .vs 10 (Wa T_Road.enc p0.Roads)]) rfl rfl (Wf _) rfl rfl) rfl ?_
  refine Vi (vef_nilsN hn rfl 4 1 (Wf _) (rd_asN rfl)) rfl ?_
  refine Ve ?_
  refine Vf ?_
  refine Vd ?_
  obtain ⟨x1, h2, hF⟩ := Ya hF
  refine Va (Yc rfl) rfl ?_
  refine Vi (vef_ap0N (f := Wc) (ys := p2) hn rfl (.inl rfl) rfl (Zx rfl) (Wf _) te_49 ts_4 tb_4 (by decide) tz_4 rfl h2) rfl ?_
  refine Va (Zy rfl) rfl ?_
  refine Ve ?_
  refine Vf ?_
  refine Vf ?_
  refine Vd ?_
  refine Va (Zc rfl) rfl ?_
  refine Ve ?_
  refine Xa ?_
  obtain ⟨o4, ho4, hF⟩ := Ya hF
  refine Vo (Yk (F_ref14_reach_L1 p0 p1 p3) (fun s3 E' lw lc => Xr E' lw lc [(1, .vs 2 (Wa T_Span.enc p1)), (3, .int .i64 p3), (4, .ptr (n + 0) 0 0 0), (9, .sl (n + 1) 0 0 (s3.2).length), (10, .bool s3.1)] low [⟨27, 2, [.agg [.vs 2 (Wa T_Place.enc p0.Places), .vs 10 (Wa T_Road.enc p0.Roads)]], 0⟩, ⟨4, 1, Wa Wc s3.2, 0⟩]) (fun o4 => OnlyE (.exit 0) (fun E' lw lc => Xr E' lw lc [(9, .sl (n + 0) 0 0 (o4).length)] low [⟨4, 1, Wa Wc o4, 0⟩])) ho4 ?_ (by rintro _ _ _ _ ⟨h, _⟩ <;> cases h) ?_) ?_
  ·exact Vm hn [(0, 0), (2, 0)] (by decide) ⟨Vj rfl (.vs _ _), Vj rfl (.int _ _), Vu 0 0 rfl rfl, Xx 1 2 rfl rfl, Vj rfl (.bool _), trivial⟩ ⟨⟨_, rfl, rfl, .same _ _ _ _ (Vq ⟨Vp ⟨.vs _ _, .vs _ _, trivial⟩, trivial⟩)⟩, ⟨_, rfl, rfl, .same _ _ _ _ (Vs (fun _ => .bool _))⟩, trivial⟩
  ·rintro s3 os3 _ _ _ hF hw
   unfold F_ref14_reach_L1 at hF
   refine Yd hw ?_
   refine Vf ?_
   refine Vf ?_
   refine Vd ?_
   refine Va (Vn rfl) rfl ?_
   refine Ve ?_
   refine Xd rfl (fun c5 => ?_) (fun c5 => ?_)
   ·have hF := Yi c5 hF
    refine Xe ?_
    refine Xa ?_
    refine Vf ?_
    refine Vd ?_
    refine Va (Zc rfl) rfl ?_
    refine Ve ?_
    refine Vf ?_
    refine Vd ?_
    refine Va (Xi rfl) rfl ?_
    refine Ve ?_
    refine Xa ?_
    obtain ⟨o7, ho7, hF⟩ := Ya hF
    refine Vo (Yk (F_ref14_reach_L2 p0 p1 p3) (fun s6 E' lw lc => Xr E' lw lc [(1, .vs 2 (Wa T_Span.enc p1)), (3, .int .i64 p3), (4, .ptr (n + 0) 0 0 0), (9, .sl (n + 1) 0 0 (s6.2.2).length), (10, .bool s6.1), (11, .int .i64 s6.2.1)] low [⟨27, 2, [.agg [.vs 2 (Wa T_Place.enc p0.Places), .vs 10 (Wa T_Road.enc p0.Roads)]], 0⟩, ⟨4, 1, Wa Wc s6.2.2, 0⟩]) (fun o7 => OnlyE (.exit 2) (fun E' lw lc => Xr E' lw lc [(1, .vs 2 (Wa T_Span.enc p1)), (3, .int .i64 p3), (4, .ptr (n + 0) 0 0 0), (9, .sl (n + 1) 0 0 (o7.2).length), (10, .bool o7.1)] low [⟨27, 2, [.agg [.vs 2 (Wa T_Place.enc p0.Places), .vs 10 (Wa T_Road.enc p0.Roads)]], 0⟩, ⟨4, 1, Wa Wc o7.2, 0⟩])) ho7 ?_ (by rintro _ _ _ _ ⟨h, _⟩ <;> cases h) ?_) ?_
    ·exact Vl ⟨rfl, rfl, rfl, rfl, rfl, rfl, trivial⟩
    ·rintro s6 os6 _ _ _ hF hw
     unfold F_ref14_reach_L2 at hF
     refine Yd hw ?_
     refine Vf ?_
     refine Vf ?_
     refine Vd ?_
     refine Va (Vk rfl) rfl ?_
     refine Va (Vb rfl tf_27_1 ts_25 (by decide)) rfl ?_
     refine Va (Vh rfl (Vg hn rfl) rfl ta_25 rfl) rfl ?_
     refine Va (Xm (Xy rfl rfl te_25) (congrArg (fun n : Nat => Wb .i64 (n : Int)) (Wh _))) rfl ?_
     refine Va (Yh rfl rfl) rfl ?_
     refine Ve ?_
     refine Xd rfl (fun c8 => ?_) (fun c8 => ?_)
     ·have hF := Yi c8 hF
      refine Xe ?_
      refine Vf ?_
      refine Xa ?_
      refine Vf ?_
      refine Vd ?_
      refine Va (Xi rfl) rfl ?_
      refine Ve ?_
      refine Xa ?_
      obtain ⟨o10, ho10, hF⟩ := Ya hF
      refine Vo (Yk (F_ref14_reach_L3 p0 p1 p3 s6) (fun s9 E' lw lc => Xr E' lw lc [(1, .vs 2 (Wa T_Span.enc p1)), (3, .int .i64 p3), (4, .ptr (n + 0) 0 0 0), (9, .sl (n + 1) 0 0 (s9.2.2).length), (10, .bool s9.1), (11, .int .i64 s6.2.1), (12, .int .i64 s9.2.1)] low [⟨27, 2, [.agg [.vs 2 (Wa T_Place.enc p0.Places), .vs 10 (Wa T_Road.enc p0.Roads)]], 0⟩, ⟨4, 1, Wa Wc s9.2.2, 0⟩]) (fun o10 => OnlyE (.exit 4) (fun E' lw lc => Xr E' lw lc [(1, .vs 2 (Wa T_Span.enc p1)), (3, .int .i64 p3), (4, .ptr (n + 0) 0 0 0), (9, .sl (n + 1) 0 0 (o10.2).length), (10, .bool o10.1), (11, .int .i64 s6.2.1)] low [⟨27, 2, [.agg [.vs 2 (Wa T_Place.enc p0.Places), .vs 10 (Wa T_Road.enc p0.Roads)]], 0⟩, ⟨4, 1, Wa Wc o10.2, 0⟩])) ho10 ?_ (by rintro _ _ _ _ ⟨h, _⟩ <;> cases h) ?_) ?_
      ·exact Vl ⟨rfl, rfl, rfl, rfl, rfl, rfl, rfl, trivial⟩
      ·rintro s9 os9 _ _ _ hF hw
       unfold F_ref14_reach_L3 at hF
       refine Yd hw ?_
       refine Vf ?_
       refine Vf ?_
       refine Vd ?_
       refine Va (Vk rfl) rfl ?_
       refine Va (Yh rfl rfl) rfl ?_
       refine Ve ?_
       refine Xd rfl (fun c11 => ?_) (fun c11 => ?_)
       ·have hF := Yi c11 hF
        refine Xe ?_
        refine Vf ?_
        obtain ⟨o12, ho12, hF⟩ := Ya hF
        refine Vo (Q' := (fun o12 => OnlyE .normal (fun E' lw lc => Xr E' lw lc [(1, .vs 2 (Wa T_Span.enc p1)), (3, .int .i64 p3), (4, .ptr (n + 0) 0 0 0), (9, .sl (n + 1) 0 0 (o12.2).length), (10, .bool o12.1), (11, .int .i64 s6.2.1), (12, .int .i64 s9.2.1)] low [⟨27, 2, [.agg [.vs 2 (Wa T_Place.enc p0.Places), .vs 10 (Wa T_Road.enc p0.Roads)]], 0⟩, ⟨4, 1, Wa Wc o12.2, 0⟩])) o12) ?_ ?_
        ·replace hF := ho12
         refine Xa ?_
         refine Vf ?_
         refine Vd ?_
         obtain ⟨x13, h14, hF⟩ := Ya hF
         refine Va (Vy (ds := [.vs 2 (Wa T_Place.enc p0.Places), .vs 10 (Wa T_Road.enc p0.Roads)]) rfl (Vg hn rfl) rfl ta_27 ts_27 rfl rfl rfl) rfl ?_
         refine Va (Vk rfl) rfl ?_
         refine Va (Vk rfl) rfl ?_
         refine Va (Zn rfl rfl) rfl ?_
         refine Vi (Xg rfl Try.call33 (F_ref14_Ends_ok h14 _)) rfl ?_
         refine Va (rd_mvT rfl) rfl ?_
         refine Va (Zr rfl rfl) rfl ?_
         refine Va (Zr rfl rfl) rfl ?_
         refine Va (Xi rfl) rfl ?_
         refine Va (Xi rfl) rfl ?_
         refine Ve ?_
         refine Vf ?_
         obtain ⟨o15, ho15, hF⟩ := Ya hF
         refine Vo (Q' := (fun o15 => OnlyE .normal (fun E' lw lc => Xr E' lw lc [(1, .vs 2 (Wa T_Span.enc p1)), (3, .int .i64 p3), (4, .ptr (n + 0) 0 0 0), (9, .sl (n + 1) 0 0 (s9.2.2).length), (10, .bool s9.1), (11, .int .i64 s6.2.1), (12, .int .i64 s9.2.1), (14, .int .i64 x13.2), (78, .bool o15)] low [⟨27, 2, [.agg [.vs 2 (Wa T_Place.enc p0.Places), .vs 10 (Wa T_Road.enc p0.Roads)]], 0⟩, ⟨4, 1, Wa Wc s9.2.2, 0⟩])) o15) ?_ ?_
         ·replace hF := ho15
          refine Vd ?_
          rcases Wg (decide (s6.2.1 ≠ p3)) with c16 | c16
          ·have hF := Yi c16 hF
           obtain ⟨x17, h18, hF⟩ := Ya hF
           rcases Wg x17 with c19 | c19
           ·have hF := Yi c19 hF
            obtain ⟨x20, h21, hF⟩ := Ya hF
            rcases Wg x20 with c22 | c22
            ·have hF := Yi c22 hF
             obtain ⟨x23, h24, hF⟩ := Ya hF
             rcases Wg (!x23) with c25 | c25
             ·have hF := Yi c25 hF
              obtain ⟨x26, h27, hF⟩ := Ya hF
              rcases Wg (!x26.Surface) with c28 | c28
              ·have hF := Yi c28 hF
               obtain ⟨x29, h30, hF⟩ := Ya hF
               refine Va (Vk rfl) rfl ?_
               refine Va (Vk rfl) rfl ?_
               refine Va (rd_neq rfl rfl) rfl ?_
               refine Va (Vn rfl) rfl ?_
               refine Xl rfl rfl c16 ?_
               refine Va (Vy (ds := [.vs 2 (Wa T_Place.enc p0.Places), .vs 10 (Wa T_Road.enc p0.Roads)]) rfl (Vg hn rfl) rfl ta_27 ts_27 rfl rfl rfl) rfl ?_
               refine Xl rfl rfl c16 ?_
               refine Va (Yc rfl) rfl ?_
               refine Xl rfl rfl c16 ?_
               refine Va (Vk rfl) rfl ?_
               refine Xl rfl rfl c16 ?_
               refine Va (Vk rfl) rfl ?_
               refine Xl rfl rfl c16 ?_
               refine Va (Zn rfl rfl) rfl ?_
               refine Xl rfl rfl c16 ?_
               refine Vi (Xg rfl Try.call32 (F_ref14_Can_ok h18 _)) rfl ?_
               refine Va (Vw (congrArg Wc c16) rfl) rfl ?_
               refine Va (Vn rfl) rfl ?_
               refine Xl rfl rfl c19 ?_
               refine Va (Yx rfl) rfl ?_
               refine Xl rfl rfl c19 ?_
               refine Va (Vk rfl) rfl ?_
               refine Xl rfl rfl c19 ?_
               refine Va (Zl rfl rfl rfl (Vg hn rfl) h21 te_49 ts_4) rfl ?_
               refine Xl rfl rfl c19 ?_
               refine Va (Zk rfl (Vg hn rfl) (Ye h21).2 ta_4 rfl) rfl ?_
               refine Va (Vw (congrArg Wc c19) rfl) rfl ?_
               refine Va (Vn rfl) rfl ?_
               refine Xl rfl rfl c22 ?_
               refine Va (Yx rfl) rfl ?_
               refine Xl rfl rfl c22 ?_
               refine Va (Vk rfl) rfl ?_
               refine Xl rfl rfl c22 ?_
               refine Va (Zl rfl rfl rfl (Vg hn rfl) h24 te_49 ts_4) rfl ?_
               refine Xl rfl rfl c22 ?_
               refine Va (Zk rfl (Vg hn rfl) (Ye h24).2 ta_4 rfl) rfl ?_
               refine Xl rfl rfl c22 ?_
               refine Va (rd_not rfl) rfl ?_
               refine Va (Vw (congrArg Wc c22) rfl) rfl ?_
               refine Va (Vn rfl) rfl ?_
               refine Xl rfl rfl c25 ?_
               refine Va (Vb rfl tf_27_0 ts_24 (by decide)) rfl ?_
               refine Xl rfl rfl c25 ?_
               refine Va (Vh rfl (Vg hn rfl) rfl ta_24 rfl) rfl ?_
               refine Xl rfl rfl c25 ?_
               refine Va (Vk rfl) rfl ?_
               refine Xl rfl rfl c25 ?_
               refine Va (Xm (Xz rfl rfl h27 te_24 ts_48) (v' := .vptr [.int .i64 x26.Height, .bool x26.Surface] 0) rfl) rfl ?_
               refine Xl rfl rfl c25 ?_
               refine Va (Yg rfl tf_48_1 ts_4 (by decide)) rfl ?_
               refine Xl rfl rfl c25 ?_
               refine Va (Xs rfl ta_4 rfl) rfl ?_
               refine Xl rfl rfl c25 ?_
               refine Va (rd_not rfl) rfl ?_
               refine Va (Vw (congrArg Wc c25) rfl) rfl ?_
               refine Va (Vn rfl) rfl ?_
               refine Xl rfl rfl c28 ?_
               refine Va (Vb rfl tf_27_0 ts_24 (by decide)) rfl ?_
               refine Xl rfl rfl c28 ?_
               refine Va (Vh rfl (Vg hn rfl) rfl ta_24 rfl) rfl ?_
               refine Xl rfl rfl c28 ?_
               refine Va (Vk rfl) rfl ?_
               refine Xl rfl rfl c28 ?_
               refine Va (Xm (Xz rfl rfl h30 te_24 ts_48) (v' := .vptr [.int .i64 x29.Height, .bool x29.Surface] 0) rfl) rfl ?_
               refine Xl rfl rfl c28 ?_
               refine Va (Yg rfl tf_48_1 ts_4 (by decide)) rfl ?_
               refine Xl rfl rfl c28 ?_
               refine Va (Xs rfl ta_4 rfl) rfl ?_
               refine Xl rfl rfl c28 ?_
               refine Va (rd_not rfl) rfl ?_
               refine Va (Vw (congrArg Wc c28) rfl) rfl ?_
               refine Ve ?_
               obtain rfl := Wd hF
               refine Vz ?_
               exact Vl ⟨rfl, rfl, rfl, rfl, rfl, rfl, rfl, rfl, rfl, trivial⟩
              ·have hF := Yj c28 hF
               refine Va (Vk rfl) rfl ?_
               refine Va (Vk rfl) rfl ?_
               refine Va (rd_neq rfl rfl) rfl ?_
               refine Va (Vn rfl) rfl ?_
               refine Xl rfl rfl c16 ?_
               refine Va (Vy (ds := [.vs 2 (Wa T_Place.enc p0.Places), .vs 10 (Wa T_Road.enc p0.Roads)]) rfl (Vg hn rfl) rfl ta_27 ts_27 rfl rfl rfl) rfl ?_
               refine Xl rfl rfl c16 ?_
               refine Va (Yc rfl) rfl ?_
               refine Xl rfl rfl c16 ?_
               refine Va (Vk rfl) rfl ?_
               refine Xl rfl rfl c16 ?_
               refine Va (Vk rfl) rfl ?_
               refine Xl rfl rfl c16 ?_
               refine Va (Zn rfl rfl) rfl ?_
               refine Xl rfl rfl c16 ?_
               refine Vi (Xg rfl Try.call32 (F_ref14_Can_ok h18 _)) rfl ?_
               refine Va (Vw (congrArg Wc c16) rfl) rfl ?_
               refine Va (Vn rfl) rfl ?_
               refine Xl rfl rfl c19 ?_
               refine Va (Yx rfl) rfl ?_
               refine Xl rfl rfl c19 ?_
               refine Va (Vk rfl) rfl ?_
               refine Xl rfl rfl c19 ?_
               refine Va (Zl rfl rfl rfl (Vg hn rfl) h21 te_49 ts_4) rfl ?_
               refine Xl rfl rfl c19 ?_
               refine Va (Zk rfl (Vg hn rfl) (Ye h21).2 ta_4 rfl) rfl ?_
               refine Va (Vw (congrArg Wc c19) rfl) rfl ?_
               refine Va (Vn rfl) rfl ?_
               refine Xl rfl rfl c22 ?_
               refine Va (Yx rfl) rfl ?_
               refine Xl rfl rfl c22 ?_
               refine Va (Vk rfl) rfl ?_
               refine Xl rfl rfl c22 ?_
               refine Va (Zl rfl rfl rfl (Vg hn rfl) h24 te_49 ts_4) rfl ?_
               refine Xl rfl rfl c22 ?_
               refine Va (Zk rfl (Vg hn rfl) (Ye h24).2 ta_4 rfl) rfl ?_
               refine Xl rfl rfl c22 ?_
               refine Va (rd_not rfl) rfl ?_
               refine Va (Vw (congrArg Wc c22) rfl) rfl ?_
               refine Va (Vn rfl) rfl ?_
               refine Xl rfl rfl c25 ?_
               refine Va (Vb rfl tf_27_0 ts_24 (by decide)) rfl ?_
               refine Xl rfl rfl c25 ?_
               refine Va (Vh rfl (Vg hn rfl) rfl ta_24 rfl) rfl ?_
               refine Xl rfl rfl c25 ?_
               refine Va (Vk rfl) rfl ?_
               refine Xl rfl rfl c25 ?_
               refine Va (Xm (Xz rfl rfl h27 te_24 ts_48) (v' := .vptr [.int .i64 x26.Height, .bool x26.Surface] 0) rfl) rfl ?_
               refine Xl rfl rfl c25 ?_
               refine Va (Yg rfl tf_48_1 ts_4 (by decide)) rfl ?_
               refine Xl rfl rfl c25 ?_
               refine Va (Xs rfl ta_4 rfl) rfl ?_
               refine Xl rfl rfl c25 ?_
               refine Va (rd_not rfl) rfl ?_
               refine Va (Vw (congrArg Wc c25) rfl) rfl ?_
               refine Va (Vn rfl) rfl ?_
               refine Vc rfl rfl (Zw c28) rfl ?_
               refine Vc rfl rfl (Zw c28) rfl ?_
               refine Vc rfl rfl (Zw c28) rfl ?_
               refine Vc rfl rfl (Zw c28) rfl ?_
               refine Vc rfl rfl (Zw c28) rfl ?_
               refine Vc rfl rfl (Zw c28) rfl ?_
               refine Vc rfl rfl (Zw c28) rfl ?_
               refine Va (Vx (congrArg Wc c28) rfl) rfl ?_
               refine Ve ?_
               obtain rfl := Wd hF
               refine Vz ?_
               exact Vl ⟨rfl, rfl, rfl, rfl, rfl, rfl, rfl, rfl, rfl, trivial⟩
             ·have hF := Yj c25 hF
              refine Va (Vk rfl) rfl ?_
              refine Va (Vk rfl) rfl ?_
              refine Va (rd_neq rfl rfl) rfl ?_
              refine Va (Vn rfl) rfl ?_
              refine Xl rfl rfl c16 ?_
              refine Va (Vy (ds := [.vs 2 (Wa T_Place.enc p0.Places), .vs 10 (Wa T_Road.enc p0.Roads)]) rfl (Vg hn rfl) rfl ta_27 ts_27 rfl rfl rfl) rfl ?_
              refine Xl rfl rfl c16 ?_
              refine Va (Yc rfl) rfl ?_
              refine Xl rfl rfl c16 ?_
              refine Va (Vk rfl) rfl ?_
              refine Xl rfl rfl c16 ?_
              refine Va (Vk rfl) rfl ?_
              refine Xl rfl rfl c16 ?_
              refine Va (Zn rfl rfl) rfl ?_
              refine Xl rfl rfl c16 ?_
              refine Vi (Xg rfl Try.call32 (F_ref14_Can_ok h18 _)) rfl ?_
              refine Va (Vw (congrArg Wc c16) rfl) rfl ?_
              refine Va (Vn rfl) rfl ?_
              refine Xl rfl rfl c19 ?_
              refine Va (Yx rfl) rfl ?_
              refine Xl rfl rfl c19 ?_
              refine Va (Vk rfl) rfl ?_
              refine Xl rfl rfl c19 ?_
              refine Va (Zl rfl rfl rfl (Vg hn rfl) h21 te_49 ts_4) rfl ?_
              refine Xl rfl rfl c19 ?_
              refine Va (Zk rfl (Vg hn rfl) (Ye h21).2 ta_4 rfl) rfl ?_
              refine Va (Vw (congrArg Wc c19) rfl) rfl ?_
              refine Va (Vn rfl) rfl ?_
              refine Xl rfl rfl c22 ?_
              refine Va (Yx rfl) rfl ?_
              refine Xl rfl rfl c22 ?_
              refine Va (Vk rfl) rfl ?_
              refine Xl rfl rfl c22 ?_
              refine Va (Zl rfl rfl rfl (Vg hn rfl) h24 te_49 ts_4) rfl ?_
              refine Xl rfl rfl c22 ?_
              refine Va (Zk rfl (Vg hn rfl) (Ye h24).2 ta_4 rfl) rfl ?_
              refine Xl rfl rfl c22 ?_
              refine Va (rd_not rfl) rfl ?_
              refine Va (Vw (congrArg Wc c22) rfl) rfl ?_
              refine Va (Vn rfl) rfl ?_
              refine Vc rfl rfl (Zw c25) rfl ?_
              refine Vc rfl rfl (Zw c25) rfl ?_
              refine Vc rfl rfl (Zw c25) rfl ?_
              refine Vc rfl rfl (Zw c25) rfl ?_
              refine Vc rfl rfl (Zw c25) rfl ?_
              refine Vc rfl rfl (Zw c25) rfl ?_
              refine Vc rfl rfl (Zw c25) rfl ?_
              refine Va (Vx (congrArg Wc c25) rfl) rfl ?_
              refine Va (Vn rfl) rfl ?_
              refine Vc rfl rfl (by decide) rfl ?_
              refine Vc rfl rfl (by decide) rfl ?_
              refine Vc rfl rfl (by decide) rfl ?_
              refine Vc rfl rfl (by decide) rfl ?_
              refine Vc rfl rfl (by decide) rfl ?_
              refine Vc rfl rfl (by decide) rfl ?_
              refine Vc rfl rfl (by decide) rfl ?_
              refine Va (Vx rfl rfl) rfl ?_
              refine Ve ?_
              obtain rfl := Wd hF
              refine Vz ?_
              exact Vl ⟨rfl, rfl, rfl, rfl, rfl, rfl, rfl, rfl, rfl, trivial⟩
            ·have hF := Yj c22 hF
             refine Va (Vk rfl) rfl ?_
             refine Va (Vk rfl) rfl ?_
             refine Va (rd_neq rfl rfl) rfl ?_
             refine Va (Vn rfl) rfl ?_
             refine Xl rfl rfl c16 ?_
             refine Va (Vy (ds := [.vs 2 (Wa T_Place.enc p0.Places), .vs 10 (Wa T_Road.enc p0.Roads)]) rfl (Vg hn rfl) rfl ta_27 ts_27 rfl rfl rfl) rfl ?_
             refine Xl rfl rfl c16 ?_
             refine Va (Yc rfl) rfl ?_
             refine Xl rfl rfl c16 ?_
             refine Va (Vk rfl) rfl ?_
             refine Xl rfl rfl c16 ?_
             refine Va (Vk rfl) rfl ?_
             refine Xl rfl rfl c16 ?_
             refine Va (Zn rfl rfl) rfl ?_
             refine Xl rfl rfl c16 ?_
             refine Vi (Xg rfl Try.call32 (F_ref14_Can_ok h18 _)) rfl ?_
             refine Va (Vw (congrArg Wc c16) rfl) rfl ?_
             refine Va (Vn rfl) rfl ?_
             refine Xl rfl rfl c19 ?_
             refine Va (Yx rfl) rfl ?_
             refine Xl rfl rfl c19 ?_
             refine Va (Vk rfl) rfl ?_
             refine Xl rfl rfl c19 ?_
             refine Va (Zl rfl rfl rfl (Vg hn rfl) h21 te_49 ts_4) rfl ?_
             refine Xl rfl rfl c19 ?_
             refine Va (Zk rfl (Vg hn rfl) (Ye h21).2 ta_4 rfl) rfl ?_
             refine Va (Vw (congrArg Wc c19) rfl) rfl ?_
             refine Va (Vn rfl) rfl ?_
             refine Vc rfl rfl (Zw c22) rfl ?_
             refine Vc rfl rfl (Zw c22) rfl ?_
             refine Vc rfl rfl (Zw c22) rfl ?_
             refine Vc rfl rfl (Zw c22) rfl ?_
             refine Vc rfl rfl (Zw c22) rfl ?_
             refine Va (Vx (congrArg Wc c22) rfl) rfl ?_
             refine Va (Vn rfl) rfl ?_
             refine Vc rfl rfl (by decide) rfl ?_
             refine Vc rfl rfl (by decide) rfl ?_
             refine Vc rfl rfl (by decide) rfl ?_
             refine Vc rfl rfl (by decide) rfl ?_
             refine Vc rfl rfl (by decide) rfl ?_
             refine Vc rfl rfl (by decide) rfl ?_
             refine Vc rfl rfl (by decide) rfl ?_
             refine Va (Vx rfl rfl) rfl ?_
             refine Va (Vn rfl) rfl ?_
             refine Vc rfl rfl (by decide) rfl ?_
             refine Vc rfl rfl (by decide) rfl ?_
             refine Vc rfl rfl (by decide) rfl ?_
             refine Vc rfl rfl (by decide) rfl ?_
             refine Vc rfl rfl (by decide) rfl ?_
             refine Vc rfl rfl (by decide) rfl ?_
             refine Vc rfl rfl (by decide) rfl ?_
             refine Va (Vx rfl rfl) rfl ?_
             refine Ve ?_
             obtain rfl := Wd hF
             refine Vz ?_
             exact Vl ⟨rfl, rfl, rfl, rfl, rfl, rfl, rfl, rfl, rfl, trivial⟩
           ·have hF := Yj c19 hF
            refine Va (Vk rfl) rfl ?_
            refine Va (Vk rfl) rfl ?_
            refine Va (rd_neq rfl rfl) rfl ?_
            refine Va (Vn rfl) rfl ?_
            refine Xl rfl rfl c16 ?_
            refine Va (Vy (ds := [.vs 2 (Wa T_Place.enc p0.Places), .vs 10 (Wa T_Road.enc p0.Roads)]) rfl (Vg hn rfl) rfl ta_27 ts_27 rfl rfl rfl) rfl ?_
            refine Xl rfl rfl c16 ?_
            refine Va (Yc rfl) rfl ?_
            refine Xl rfl rfl c16 ?_
            refine Va (Vk rfl) rfl ?_
            refine Xl rfl rfl c16 ?_
            refine Va (Vk rfl) rfl ?_
            refine Xl rfl rfl c16 ?_
            refine Va (Zn rfl rfl) rfl ?_
            refine Xl rfl rfl c16 ?_
            refine Vi (Xg rfl Try.call32 (F_ref14_Can_ok h18 _)) rfl ?_
            refine Va (Vw (congrArg Wc c16) rfl) rfl ?_
            refine Va (Vn rfl) rfl ?_
            refine Vc rfl rfl (Zw c19) rfl ?_
            refine Vc rfl rfl (Zw c19) rfl ?_
            refine Vc rfl rfl (Zw c19) rfl ?_
            refine Vc rfl rfl (Zw c19) rfl ?_
            refine Va (Vx (congrArg Wc c19) rfl) rfl ?_
            refine Va (Vn rfl) rfl ?_
            refine Vc rfl rfl (by decide) rfl ?_
            refine Vc rfl rfl (by decide) rfl ?_
            refine Vc rfl rfl (by decide) rfl ?_
            refine Vc rfl rfl (by decide) rfl ?_
            refine Vc rfl rfl (by decide) rfl ?_
            refine Va (Vx rfl rfl) rfl ?_
            refine Va (Vn rfl) rfl ?_
            refine Vc rfl rfl (by decide) rfl ?_
            refine Vc rfl rfl (by decide) rfl ?_
            refine Vc rfl rfl (by decide) rfl ?_
            refine Vc rfl rfl (by decide) rfl ?_
            refine Vc rfl rfl (by decide) rfl ?_
            refine Vc rfl rfl (by decide) rfl ?_
            refine Vc rfl rfl (by decide) rfl ?_
            refine Va (Vx rfl rfl) rfl ?_
            refine Va (Vn rfl) rfl ?_
            refine Vc rfl rfl (by decide) rfl ?_
            refine Vc rfl rfl (by decide) rfl ?_
            refine Vc rfl rfl (by decide) rfl ?_
            refine Vc rfl rfl (by decide) rfl ?_
            refine Vc rfl rfl (by decide) rfl ?_
            refine Vc rfl rfl (by decide) rfl ?_
            refine Vc rfl rfl (by decide) rfl ?_
            refine Va (Vx rfl rfl) rfl ?_
            refine Ve ?_
            obtain rfl := Wd hF
            refine Vz ?_
            exact Vl ⟨rfl, rfl, rfl, rfl, rfl, rfl, rfl, rfl, rfl, trivial⟩
          ·have hF := Yj c16 hF
           refine Va (Vk rfl) rfl ?_
           refine Va (Vk rfl) rfl ?_
           refine Va (rd_neq rfl rfl) rfl ?_
           refine Va (Vn rfl) rfl ?_
           refine Vc rfl rfl (Zw c16) rfl ?_
           refine Vc rfl rfl (Zw c16) rfl ?_
           refine Vc rfl rfl (Zw c16) rfl ?_
           refine Vc rfl rfl (Zw c16) rfl ?_
           refine Vc rfl rfl (Zw c16) rfl ?_
           refine Vc rfl rfl (Zw c16) rfl ?_
           refine Va (Vx (congrArg Wc c16) rfl) rfl ?_
           refine Va (Vn rfl) rfl ?_
           refine Vc rfl rfl (by decide) rfl ?_
           refine Vc rfl rfl (by decide) rfl ?_
           refine Vc rfl rfl (by decide) rfl ?_
           refine Vc rfl rfl (by decide) rfl ?_
           refine Va (Vx rfl rfl) rfl ?_
           refine Va (Vn rfl) rfl ?_
           refine Vc rfl rfl (by decide) rfl ?_
           refine Vc rfl rfl (by decide) rfl ?_
           refine Vc rfl rfl (by decide) rfl ?_
           refine Vc rfl rfl (by decide) rfl ?_
           refine Vc rfl rfl (by decide) rfl ?_
           refine Va (Vx rfl rfl) rfl ?_
           refine Va (Vn rfl) rfl ?_
           refine Vc rfl rfl (by decide) rfl ?_
           refine Vc rfl rfl (by decide) rfl ?_
           refine Vc rfl rfl (by decide) rfl ?_
           refine Vc rfl rfl (by decide) rfl ?_
           refine Vc rfl rfl (by decide) rfl ?_
           refine Vc rfl rfl (by decide) rfl ?_
           refine Vc rfl rfl (by decide) rfl ?_
           refine Va (Vx rfl rfl) rfl ?_
           refine Va (Vn rfl) rfl ?_
           refine Vc rfl rfl (by decide) rfl ?_
           refine Vc rfl rfl (by decide) rfl ?_
           refine Vc rfl rfl (by decide) rfl ?_
           refine Vc rfl rfl (by decide) rfl ?_
           refine Vc rfl rfl (by decide) rfl ?_
           refine Vc rfl rfl (by decide) rfl ?_
           refine Vc rfl rfl (by decide) rfl ?_
           refine Va (Vx rfl rfl) rfl ?_
           refine Ve ?_
           obtain rfl := Wd hF
           refine Vz ?_
           exact Vl ⟨rfl, rfl, rfl, rfl, rfl, rfl, rfl, rfl, rfl, trivial⟩
         ·rintro _ _ _ _ ⟨rfl, hw⟩
          refine ⟨_, _, _, hw, ?_⟩
          refine Xd rfl (fun c31 => ?_) (fun c31 => ?_)
          ·have hF := Yi c31 hF
           refine Vd ?_
           obtain ⟨x32, h33, hF⟩ := Ya hF
           refine Va (Yx rfl) rfl ?_
           refine Va (Vk rfl) rfl ?_
           refine Va (Zl rfl rfl rfl (Vg hn rfl) h33 te_49 ts_4) rfl ?_
           refine Vi (vef_stL (p := .bool true) (e' := true) rfl (Vg hn rfl) (Ye h33).2 rfl ts_4 rfl (Yn rfl) (We rfl) rfl (Xn hn rfl)) rfl ?_
           refine Va (Zc rfl) rfl ?_
           refine Ve ?_
           obtain rfl := Wd hF
           refine Vz ?_
           exact Vm hn [(0, 0), (1, 0)] (by decide) ⟨Vj rfl (.vs _ _), Vj rfl (.int _ _), Vu 0 0 rfl rfl, Xx 1 1 rfl (congrArg (PV.sl _ _ 0) (Eq.trans rfl List.length_set.symm)), Vj rfl (.bool _), Vj rfl (.int _ _), Vj rfl (.int _ _), trivial⟩ ⟨⟨_, rfl, rfl, .same _ _ _ _ (Vq ⟨Vp ⟨.vs _ _, .vs _ _, trivial⟩, trivial⟩)⟩, ⟨_, rfl, rfl, .same _ _ _ _ (Vs (fun _ => .bool _))⟩, trivial⟩
          ·have hF := Yj c31 hF
           refine Xe ?_
           obtain rfl := Wd hF
           refine Vz ?_
           exact Vl ⟨rfl, rfl, rfl, rfl, rfl, rfl, rfl, trivial⟩
        ·rintro _ _ _ _ ⟨rfl, hw⟩
         refine ⟨_, _, _, hw, ?_⟩
         refine Vd ?_
         refine Va (Vk rfl) rfl ?_
         refine Va (Za rfl rfl rfl) rfl ?_
         refine Va (Xi rfl) rfl ?_
         refine Ve ?_
         obtain rfl := Wd hF
         refine Vz ?_
         exact Vl ⟨rfl, rfl, rfl, rfl, rfl, rfl, rfl, trivial⟩
       ·have hF := Yj c11 hF
        refine Yr ?_
        obtain rfl := Wd hF
        refine Vz ?_
        exact Vl ⟨rfl, rfl, rfl, rfl, rfl, rfl, trivial⟩
      ·rintro _ _ _ _ ⟨rfl, hw⟩
       refine ⟨_, _, _, hw, ?_⟩
       refine Vd ?_
       refine Va (Vk rfl) rfl ?_
       refine Va (Za rfl rfl rfl) rfl ?_
       refine Va (Xi rfl) rfl ?_
       refine Ve ?_
       obtain rfl := Wd hF
       refine Vz ?_
       exact Vl ⟨rfl, rfl, rfl, rfl, rfl, rfl, trivial⟩
     ·have hF := Yj c8 hF
      refine Yr ?_
      obtain rfl := Wd hF
      refine Vz ?_
      exact Vl ⟨rfl, rfl, rfl, rfl, rfl, trivial⟩
    ·rintro _ _ _ _ ⟨rfl, hw⟩
     refine ⟨_, _, _, hw, ?_⟩
     obtain rfl := Wd hF
     refine Vz ?_
     exact Vl ⟨rfl, rfl, rfl, rfl, rfl, trivial⟩
   ·have hF := Yj c5 hF
    refine Yr ?_
    obtain rfl := Wd hF
    refine Vz ?_
    exact Vm hn [(1, 0)] (by decide) ⟨Xx 0 1 rfl rfl, trivial⟩ ⟨⟨_, rfl, rfl, .same _ _ _ _ (Vs (fun _ => .bool _))⟩, trivial⟩
  ·rintro _ _ _ _ ⟨rfl, hw⟩
   refine ⟨_, _, _, hw, ?_⟩
   refine Vf ?_
   refine Vd ?_
   refine Va (Yx rfl) rfl ?_
   refine Va (Zy rfl) rfl ?_
   refine Ve ?_
   refine Xt ?_
   obtain rfl := Wd hF
   refine fnR ?_
   exact Vl ⟨rfl, trivial⟩
 ·rintro _ _ _ _ ⟨he, hw⟩
  refine ⟨_, _, _, hw, ?_⟩
  exact bodyQ_all he [.sl (n + 0) 0 0 (r).length] ⟨rfl, trivial⟩ ⟨rfl, rfl⟩

theorem F_ref14_Circles_ok {p0 : T_Mine} {p1 : List T_Span} {r : List Int} (hF : F_ref14_Circles p0 p1 = some r) (low : List AObj) :
    Zd Try.prog 13 [.agg [.vs 2 (Wa T_Place.enc p0.Places), .vs 10 (Wa T_Road.enc p0.Roads)], .vs 2 (Wa T_Span.enc p1)] low fun x low' => x = .vs 1 (Wa (Wb .i64) r) ∧ low' = low := by
 refine Xh (nt := 82) (rs := [.tmp 4]) Try.func13 rfl rfl (We rfl) rfl ?_
 refine Vo (Q' := FnE (fun E' lw lc => Xr E' lw lc [(4, .vs 1 (Wa (Wb .i64) r))] low [])) ?_ ?_
 ·unfold F_ref14_Circles at hF
  refine Vf ?_
  refine Vd ?_
  refine Vi (Zo rfl rfl (v := .agg [.vs 2 (Wa T_Place.enc p0.Places), .vs 10 (Wa T_Road.enc p0.Roads)]) rfl rfl (Wf _) rfl rfl) rfl ?_
  refine Va (rd_nv (sz := 1) (rd_asN rfl)) rfl ?_
  refine Ve ?_
  refine Vf ?_
  refine Vf ?_
  refine Vd ?_
  obtain ⟨x1, h2, hF⟩ := Ya hF
  refine Va (Vy (ds := [.vs 2 (Wa T_Place.enc p0.Places), .vs 10 (Wa T_Road.enc p0.Roads)]) rfl (Vg rfl rfl) rfl ta_27 ts_27 rfl rfl rfl) rfl ?_
  refine Va (Yc rfl) rfl ?_
  refine Vi (Xg rfl Try.call31 (F_ref14_right_ok h2 _)) rfl ?_
  refine Va (rd_not rfl) rfl ?_
  refine Ve ?_
  refine Xd rfl (fun c3 => ?_) (fun c3 => ?_)
  ·have hF := Yi c3 hF
   refine Vf ?_
   refine Vd ?_
   refine Va (rd_nv (sz := 1) (rd_asN rfl)) rfl ?_
   refine Ve ?_
   refine Xt ?_
   obtain rfl := Wd hF
   refine fnR ?_
   exact Vm rfl [] (by decide) ⟨Vj rfl (.vs _ _), trivial⟩ trivial
  ·have hF := Yj c3 hF
   refine Xe ?_
   refine Vf ?_
   refine Vd ?_
   refine Vi (vef_nilsN rfl rfl 3 1 (Wf _) (rd_asN rfl)) rfl ?_
   refine Ve ?_
   refine Vf ?_
   refine Vf ?_
   refine Vd ?_
   refine Va (Xi rfl) rfl ?_
   refine Ve ?_
   refine Xa ?_
   obtain ⟨o5, ho5, hF⟩ := Ya hF
   refine Vo (Yk (F_ref14_Circles_L1 p0 p1) (fun s4 E' lw lc => Xr E' lw lc [(1, .vs 2 (Wa T_Span.enc p1)), (2, .ptr (low.length + 0) 0 0 0), (5, .sl (low.length + 1) 0 0 (s4.2).length), (6, .int .i64 s4.1)] low [⟨27, 2, [.agg [.vs 2 (Wa T_Place.enc p0.Places), .vs 10 (Wa T_Road.enc p0.Roads)]], 0⟩, ⟨3, 1, Wa (Wb .i64) s4.2, 0⟩]) (fun o5 => OnlyE (.exit 0) (fun E' lw lc => Xr E' lw lc [(5, .sl (low.length + 0) 0 0 (o5).length)] low [⟨3, 1, Wa (Wb .i64) o5, 0⟩])) ho5 ?_ (by rintro _ _ _ _ ⟨h, _⟩ <;> cases h) ?_) ?_
   ·exact Vl ⟨rfl, rfl, rfl, rfl, trivial⟩
   ·rintro s4 os4 _ _ _ hF hw
    unfold F_ref14_Circles_L1 at hF
    refine Yd hw ?_
    refine Vf ?_
    refine Vf ?_
    refine Vd ?_
    refine Va (Vk rfl) rfl ?_
    refine Va (Vb rfl tf_27_1 ts_25 (by decide)) rfl ?_
    refine Va (Vh rfl (Vg rfl rfl) rfl ta_25 rfl) rfl ?_
    refine Va (Xm (Xy rfl rfl te_25) (congrArg (fun n : Nat => Wb .i64 (n : Int)) (Wh _))) rfl ?_
    refine Va (Yh rfl rfl) rfl ?_
    refine Ve ?_
    refine Xd rfl (fun c6 => ?_) (fun c6 => ?_)
    ·have hF := Yi c6 hF
     refine Xe ?_
     refine Vf ?_
     obtain ⟨o7, ho7, hF⟩ := Ya hF
     refine Vo (Q' := (fun o7 => OnlyE .normal (fun E' lw lc => Xr E' lw lc [(1, .vs 2 (Wa T_Span.enc p1)), (2, .ptr (low.length + 0) 0 0 0), (5, .sl (low.length + 1) 0 0 (o7).length), (6, .int .i64 s4.1)] low [⟨27, 2, [.agg [.vs 2 (Wa T_Place.enc p0.Places), .vs 10 (Wa T_Road.enc p0.Roads)]], 0⟩, ⟨3, 1, Wa (Wb .i64) o7, 0⟩])) o7) ?_ ?_
     ·replace hF := ho7
      refine Xa ?_
      refine Vf ?_
      refine Vd ?_
      refine Va (Zc rfl) rfl ?_
      refine Ve ?_
      refine Vf ?_
      refine Vf ?_
      refine Vd ?_
      refine Va (Xi rfl) rfl ?_
      refine Ve ?_
      refine Xa ?_
      obtain ⟨o9, ho9, hF⟩ := Ya hF
      refine Vo (Yk (F_ref14_Circles_L2 p0 p1 s4) (fun s8 E' lw lc => Xr E' lw lc [(1, .vs 2 (Wa T_Span.enc p1)), (2, .ptr (low.length + 0) 0 0 0), (5, .sl (low.length + 1) 0 0 (s4.2).length), (6, .int .i64 s4.1), (7, .bool s8.1), (8, .int .i64 s8.2)] low [⟨27, 2, [.agg [.vs 2 (Wa T_Place.enc p0.Places), .vs 10 (Wa T_Road.enc p0.Roads)]], 0⟩, ⟨3, 1, Wa (Wb .i64) s4.2, 0⟩]) (fun o9 => OnlyE (.exit 2) (fun E' lw lc => Xr E' lw lc [(1, .vs 2 (Wa T_Span.enc p1)), (2, .ptr (low.length + 0) 0 0 0), (5, .sl (low.length + 1) 0 0 (s4.2).length), (6, .int .i64 s4.1), (7, .bool o9)] low [⟨27, 2, [.agg [.vs 2 (Wa T_Place.enc p0.Places), .vs 10 (Wa T_Road.enc p0.Roads)]], 0⟩, ⟨3, 1, Wa (Wb .i64) s4.2, 0⟩])) ho9 ?_ (by rintro _ _ _ _ ⟨h, _⟩ <;> cases h) ?_) ?_
      ·exact Vl ⟨rfl, rfl, rfl, rfl, rfl, rfl, trivial⟩
      ·rintro s8 os8 _ _ _ hF hw
       unfold F_ref14_Circles_L2 at hF
       refine Yd hw ?_
       refine Vf ?_
       refine Vf ?_
       refine Vd ?_
       refine Va (Vk rfl) rfl ?_
       refine Va (Yh rfl rfl) rfl ?_
       refine Ve ?_
       refine Xd rfl (fun c10 => ?_) (fun c10 => ?_)
       ·have hF := Yi c10 hF
        refine Xe ?_
        refine Vf ?_
        obtain ⟨o11, ho11, hF⟩ := Ya hF
        refine Vo (Q' := (fun o11 => OnlyE .normal (fun E' lw lc => Xr E' lw lc [(1, .vs 2 (Wa T_Span.enc p1)), (2, .ptr (low.length + 0) 0 0 0), (5, .sl (low.length + 1) 0 0 (s4.2).length), (6, .int .i64 s4.1), (7, .bool o11), (8, .int .i64 s8.2)] low [⟨27, 2, [.agg [.vs 2 (Wa T_Place.enc p0.Places), .vs 10 (Wa T_Road.enc p0.Roads)]], 0⟩, ⟨3, 1, Wa (Wb .i64) s4.2, 0⟩])) o11) ?_ ?_
        ·replace hF := ho11
         refine Xa ?_
         refine Vf ?_
         refine Vd ?_
         obtain ⟨x12, h13, hF⟩ := Ya hF
         refine Va (Vy (ds := [.vs 2 (Wa T_Place.enc p0.Places), .vs 10 (Wa T_Road.enc p0.Roads)]) rfl (Vg rfl rfl) rfl ta_27 ts_27 rfl rfl rfl) rfl ?_
         refine Va (Vk rfl) rfl ?_
         refine Va (Vk rfl) rfl ?_
         refine Va (Zn rfl rfl) rfl ?_
         refine Vi (Xg rfl Try.call33 (F_ref14_Ends_ok h13 _)) rfl ?_
         refine Va (rd_mvT rfl) rfl ?_
         refine Va (Zr rfl rfl) rfl ?_
         refine Va (Zr rfl rfl) rfl ?_
         refine Va (Xi rfl) rfl ?_
         refine Va (Xi rfl) rfl ?_
         refine Ve ?_
         refine Vf ?_
         refine Vf ?_
         obtain ⟨o14, ho14, hF⟩ := Ya hF
         refine Vo (Q' := (fun o14 => OnlyE .normal (fun E' lw lc => Xr E' lw lc [(1, .vs 2 (Wa T_Span.enc p1)), (2, .ptr (low.length + 0) 0 0 0), (5, .sl (low.length + 1) 0 0 (s4.2).length), (6, .int .i64 s4.1), (7, .bool s8.1), (8, .int .i64 s8.2), (9, .int .i64 x12.1), (10, .int .i64 x12.2), (57, .bool o14)] low [⟨27, 2, [.agg [.vs 2 (Wa T_Place.enc p0.Places), .vs 10 (Wa T_Road.enc p0.Roads)]], 0⟩, ⟨3, 1, Wa (Wb .i64) s4.2, 0⟩])) o14) ?_ ?_
         ·replace hF := ho14
          refine Vd ?_
          obtain ⟨x15, h16, hF⟩ := Ya hF
          rcases Wg (!x15) with c17 | c17
          ·have hF := Yi c17 hF
           refine Va (Vy (ds := [.vs 2 (Wa T_Place.enc p0.Places), .vs 10 (Wa T_Road.enc p0.Roads)]) rfl (Vg rfl rfl) rfl ta_27 ts_27 rfl rfl rfl) rfl ?_
           refine Va (Yc rfl) rfl ?_
           refine Va (Vk rfl) rfl ?_
           refine Va (Vk rfl) rfl ?_
           refine Va (Zn rfl rfl) rfl ?_
           refine Vi (Xg rfl Try.call32 (F_ref14_Can_ok h16 _)) rfl ?_
           refine Va (rd_not rfl) rfl ?_
           refine Va (Vn rfl) rfl ?_
           refine Vc rfl rfl (Zq c17) rfl ?_
           refine Vc rfl rfl (Zq c17) rfl ?_
           refine Vc rfl rfl (Zq c17) rfl ?_
           refine Vc rfl rfl (Zq c17) rfl ?_
           refine Vc rfl rfl (Zq c17) rfl ?_
           refine Vc rfl rfl (Zq c17) rfl ?_
           refine Va (Vw (congrArg Wc c17) rfl) rfl ?_
           refine Va (Vn rfl) rfl ?_
           refine Vc rfl rfl (by decide) rfl ?_
           refine Vc rfl rfl (by decide) rfl ?_
           refine Vc rfl rfl (by decide) rfl ?_
           refine Vc rfl rfl (by decide) rfl ?_
           refine Vc rfl rfl (by decide) rfl ?_
           refine Vc rfl rfl (by decide) rfl ?_
           refine Va (Vw rfl rfl) rfl ?_
           refine Ve ?_
           obtain rfl := Wd hF
           refine Vz ?_
           exact Vl ⟨rfl, rfl, rfl, rfl, rfl, rfl, rfl, rfl, rfl, trivial⟩
          ·have hF := Yj c17 hF
           obtain ⟨x18, h19, hF⟩ := Ya hF
           rcases Wg x18.Surface with c20 | c20
           ·have hF := Yi c20 hF
            refine Va (Vy (ds := [.vs 2 (Wa T_Place.enc p0.Places), .vs 10 (Wa T_Road.enc p0.Roads)]) rfl (Vg rfl rfl) rfl ta_27 ts_27 rfl rfl rfl) rfl ?_
            refine Va (Yc rfl) rfl ?_
            refine Va (Vk rfl) rfl ?_
            refine Va (Vk rfl) rfl ?_
            refine Va (Zn rfl rfl) rfl ?_
            refine Vi (Xg rfl Try.call32 (F_ref14_Can_ok h16 _)) rfl ?_
            refine Va (rd_not rfl) rfl ?_
            refine Va (Vn rfl) rfl ?_
            refine Xl rfl rfl c17 ?_
            refine Va (Vb rfl tf_27_0 ts_24 (by decide)) rfl ?_
            refine Xl rfl rfl c17 ?_
            refine Va (Vh rfl (Vg rfl rfl) rfl ta_24 rfl) rfl ?_
            refine Xl rfl rfl c17 ?_
            refine Va (Vk rfl) rfl ?_
            refine Xl rfl rfl c17 ?_
            refine Va (Xm (Xz rfl rfl h19 te_24 ts_48) (v' := .vptr [.int .i64 x18.Height, .bool x18.Surface] 0) rfl) rfl ?_
            refine Xl rfl rfl c17 ?_
            refine Va (Yg rfl tf_48_1 ts_4 (by decide)) rfl ?_
            refine Xl rfl rfl c17 ?_
            refine Va (Xs rfl ta_4 rfl) rfl ?_
            refine Va (Vx (congrArg Wc c17) rfl) rfl ?_
            refine Va (Vn rfl) rfl ?_
            refine Vc rfl rfl (Zq c20) rfl ?_
            refine Vc rfl rfl (Zq c20) rfl ?_
            refine Vc rfl rfl (Zq c20) rfl ?_
            refine Vc rfl rfl (Zq c20) rfl ?_
            refine Vc rfl rfl (Zq c20) rfl ?_
            refine Vc rfl rfl (Zq c20) rfl ?_
            refine Va (Vw (congrArg Wc c20) rfl) rfl ?_
            refine Ve ?_
            obtain rfl := Wd hF
            refine Vz ?_
            exact Vl ⟨rfl, rfl, rfl, rfl, rfl, rfl, rfl, rfl, rfl, trivial⟩
           ·have hF := Yj c20 hF
            obtain ⟨x21, h22, hF⟩ := Ya hF
            refine Va (Vy (ds := [.vs 2 (Wa T_Place.enc p0.Places), .vs 10 (Wa T_Road.enc p0.Roads)]) rfl (Vg rfl rfl) rfl ta_27 ts_27 rfl rfl rfl) rfl ?_
            refine Va (Yc rfl) rfl ?_
            refine Va (Vk rfl) rfl ?_
            refine Va (Vk rfl) rfl ?_
            refine Va (Zn rfl rfl) rfl ?_
            refine Vi (Xg rfl Try.call32 (F_ref14_Can_ok h16 _)) rfl ?_
            refine Va (rd_not rfl) rfl ?_
            refine Va (Vn rfl) rfl ?_
            refine Xl rfl rfl c17 ?_
            refine Va (Vb rfl tf_27_0 ts_24 (by decide)) rfl ?_
            refine Xl rfl rfl c17 ?_
            refine Va (Vh rfl (Vg rfl rfl) rfl ta_24 rfl) rfl ?_
            refine Xl rfl rfl c17 ?_
            refine Va (Vk rfl) rfl ?_
            refine Xl rfl rfl c17 ?_
            refine Va (Xm (Xz rfl rfl h19 te_24 ts_48) (v' := .vptr [.int .i64 x18.Height, .bool x18.Surface] 0) rfl) rfl ?_
            refine Xl rfl rfl c17 ?_
            refine Va (Yg rfl tf_48_1 ts_4 (by decide)) rfl ?_
            refine Xl rfl rfl c17 ?_
            refine Va (Xs rfl ta_4 rfl) rfl ?_
            refine Va (Vx (congrArg Wc c17) rfl) rfl ?_
            refine Va (Vn rfl) rfl ?_
            refine Xl rfl rfl c20 ?_
            refine Va (Vb rfl tf_27_0 ts_24 (by decide)) rfl ?_
            refine Xl rfl rfl c20 ?_
            refine Va (Vh rfl (Vg rfl rfl) rfl ta_24 rfl) rfl ?_
            refine Xl rfl rfl c20 ?_
            refine Va (Vk rfl) rfl ?_
            refine Xl rfl rfl c20 ?_
            refine Va (Xm (Xz rfl rfl h22 te_24 ts_48) (v' := .vptr [.int .i64 x21.Height, .bool x21.Surface] 0) rfl) rfl ?_
            refine Xl rfl rfl c20 ?_
            refine Va (Yg rfl tf_48_1 ts_4 (by decide)) rfl ?_
            refine Xl rfl rfl c20 ?_
            refine Va (Xs rfl ta_4 rfl) rfl ?_
            refine Va (Vx (congrArg Wc c20) rfl) rfl ?_
            refine Ve ?_
            obtain rfl := Wd hF
            refine Vz ?_
            exact Vl ⟨rfl, rfl, rfl, rfl, rfl, rfl, rfl, rfl, rfl, trivial⟩
         ·rintro _ _ _ _ ⟨rfl, hw⟩
          refine ⟨_, _, _, hw, ?_⟩
          refine Xd rfl (fun c23 => ?_) (fun c23 => ?_)
          ·have hF := Yi c23 hF
           refine Yr ?_
           obtain rfl := Wd hF
           refine Vz ?_
           exact Vl ⟨rfl, rfl, rfl, rfl, rfl, rfl, trivial⟩
          ·have hF := Yj c23 hF
           refine Xe ?_
           refine Vf ?_
           refine Vd ?_
           obtain ⟨x24, h25, hF⟩ := Ya hF
           refine Va (Vb rfl tf_27_0 ts_24 (by decide)) rfl ?_
           refine Va (Vh rfl (Vg rfl rfl) rfl ta_24 rfl) rfl ?_
           refine Va (Xm (Xy rfl rfl te_24) (congrArg (fun n : Nat => Wb .i64 (n : Int)) (Wh _))) rfl ?_
           refine Vi (vef_mkN (f := Wc) (zz := false) rfl rfl rfl rfl te_49 ts_4 tb_4 (by decide) tz_4 rfl rfl (Wf _) rfl h25) rfl ?_
           refine Va (Zy rfl) rfl ?_
           refine Ve ?_
           refine Vf ?_
           refine Vd ?_
           obtain ⟨x26, h27, hF⟩ := Ya hF
           refine Va (Yx rfl) rfl ?_
           refine Va (Vk rfl) rfl ?_
           refine Va (Zl rfl rfl rfl (Vg rfl rfl) h27 te_49 ts_4) rfl ?_
           refine Vi (vef_stL (p := .bool true) (e' := true) rfl (Vg rfl rfl) (Ye h27).2 rfl ts_4 rfl (Yn rfl) (We rfl) rfl (Xn rfl rfl)) rfl ?_
           refine Ve ?_
           refine Vd ?_
           rcases Wg s8.1 with c28 | c28
           ·have hF := Yi c28 hF
            refine Va (Vn rfl) rfl ?_
            refine Va (Vn rfl) rfl ?_
            refine Vc rfl rfl (Zq c28) rfl ?_
            refine Vc rfl rfl (Zq c28) rfl ?_
            refine Vc rfl rfl (Zq c28) rfl ?_
            refine Vc rfl rfl (Zq c28) rfl ?_
            refine Vc rfl rfl (Zq c28) rfl ?_
            refine Vc rfl rfl (Zq c28) rfl ?_
            refine Vc rfl rfl (Zq c28) rfl ?_
            refine Vc rfl rfl (Zq c28) rfl ?_
            refine Va (Vw (congrArg Wc c28) rfl) rfl ?_
            refine Va (Zc rfl) rfl ?_
            refine Ve ?_
            obtain rfl := Wd hF
            refine Vz ?_
            exact Vm rfl [(0, 0), (1, 0)] (by decide) ⟨Vj rfl (.vs _ _), Vu 0 0 rfl rfl, Xx 1 1 rfl rfl, Vj rfl (.int _ _), Vj rfl (.bool _), Vj rfl (.int _ _), trivial⟩ ⟨⟨_, rfl, rfl, .same _ _ _ _ (Vq ⟨Vp ⟨.vs _ _, .vs _ _, trivial⟩, trivial⟩)⟩, ⟨_, rfl, rfl, .same _ _ _ _ (Vs (fun _ => .int _ _))⟩, trivial⟩
           ·have hF := Yj c28 hF
            obtain ⟨x29, h30, hF⟩ := Ya hF
            obtain ⟨x31, h32, hF⟩ := Ya hF
            refine Va (Vn rfl) rfl ?_
            refine Va (Vn rfl) rfl ?_
            refine Xl rfl rfl c28 ?_
            refine Va (Vy (ds := [.vs 2 (Wa T_Place.enc p0.Places), .vs 10 (Wa T_Road.enc p0.Roads)]) rfl (Vg rfl rfl) rfl ta_27 ts_27 rfl rfl rfl) rfl ?_
            refine Xl rfl rfl c28 ?_
            refine Va (Yc rfl) rfl ?_
            refine Xl rfl rfl c28 ?_
            refine Va (Yx rfl) rfl ?_
            refine Xl rfl rfl c28 ?_
            refine Va (Vk rfl) rfl ?_
            refine Xl rfl rfl c28 ?_
            refine Vi (vef_callBo (vs := [.agg [.vs 2 (Wa T_Place.enc p0.Places), .vs 10 (Wa T_Road.enc p0.Roads)], .vs 2 (Wa T_Span.enc p1), .vs 1 (Wa Wc (x24.set ((x12.2).toNat) true)), .int .i64 s4.1]) (r := .sl (0 + 0) 0 0 (x29).length) (r2 := .sl (low.length + 3) 0 0 (x29).length) (os := [⟨4, 1, Wa Wc x29, 0⟩]) (loc2 := [⟨27, 2, [.agg [.vs 2 (Wa T_Place.enc p0.Places), .vs 10 (Wa T_Road.enc p0.Roads)]], 0⟩, ⟨3, 1, Wa (Wb .i64) s4.2, 0⟩, ⟨4, 1, Wa Wc (x24.set ((x12.2).toNat) true), 0⟩, ⟨4, 1, Wa Wc x29, 0⟩]) rfl rfl rfl Try.call35 ⟨view_same rfl ((Vp ⟨.vs _ _, .vs _ _, trivial⟩)), view_same rfl (.vs _ _), view_sl rfl (Vg rfl rfl) rfl rfl (Ym (fun _ => .bool _)) (Zb (Eq.trans rfl List.length_set.symm)), view_same rfl (.int _ _), trivial⟩ (F_ref14_reach_ok h30 [] rfl) (scr_sl rfl rfl) ⟨sc_map (fun _ => .bool _), trivial⟩ rfl) rfl ?_
            refine Xl rfl rfl c28 ?_
            refine Va (Vk rfl) rfl ?_
            refine Xl rfl rfl c28 ?_
            refine Va (Zl rfl rfl rfl (Vg rfl rfl) h32 te_49 ts_4) rfl ?_
            refine Xl rfl rfl c28 ?_
            refine Va (Zk rfl (Vg rfl rfl) (Ye h32).2 ta_4 rfl) rfl ?_
            refine Va (Vx (congrArg Wc c28) rfl) rfl ?_
            refine Va (Zc rfl) rfl ?_
            refine Ve ?_
            obtain rfl := Wd hF
            refine Vz ?_
            exact Vm rfl [(0, 0), (1, 0)] (by decide) ⟨Vj rfl (.vs _ _), Vu 0 0 rfl rfl, Xx 1 1 rfl rfl, Vj rfl (.int _ _), Vj rfl (.bool _), Vj rfl (.int _ _), trivial⟩ ⟨⟨_, rfl, rfl, .same _ _ _ _ (Vq ⟨Vp ⟨.vs _ _, .vs _ _, trivial⟩, trivial⟩)⟩, ⟨_, rfl, rfl, .same _ _ _ _ (Vs (fun _ => .int _ _))⟩, trivial⟩
        ·rintro _ _ _ _ ⟨rfl, hw⟩
         refine ⟨_, _, _, hw, ?_⟩
         refine Vd ?_
         refine Va (Vk rfl) rfl ?_
         refine Va (Za rfl rfl rfl) rfl ?_
         refine Va (Xi rfl) rfl ?_
         refine Ve ?_
         obtain rfl := Wd hF
         refine Vz ?_
         exact Vl ⟨rfl, rfl, rfl, rfl, rfl, rfl, trivial⟩
       ·have hF := Yj c10 hF
        refine Yr ?_
        obtain rfl := Wd hF
        refine Vz ?_
        exact Vl ⟨rfl, rfl, rfl, rfl, rfl, trivial⟩
      ·rintro _ _ _ _ ⟨rfl, hw⟩
       refine ⟨_, _, _, hw, ?_⟩
       refine Vf ?_
       refine Vd ?_
       refine Va (Vn rfl) rfl ?_
       refine Ve ?_
       refine Xd rfl (fun c33 => ?_) (fun c33 => ?_)
       ·have hF := Yi c33 hF
        refine Vd ?_
        obtain ⟨x34, h35, hF⟩ := Ya hF
        refine Va (Yx rfl) rfl ?_
        refine Va (Vk rfl) rfl ?_
        refine Vi (Yt (es := Wa (Wb .i64) [s4.1]) ⟨rfl, rfl, trivial⟩ rfl rfl (Zg rfl) te_32 ts_3 tz_3 rfl rfl (Wf _) (by decide) (Ym (fun _ => .int _ _))) rfl ?_
        refine Vi (Zu (f := (Wb .i64)) (l := s4.2) (ys := [s4.1]) rfl rfl (Vg rfl rfl) rfl (Zx rfl) te_32 ts_3 tb_3 (by decide) tz_3 rfl h35 (Xn rfl rfl)) rfl ?_
        refine Va (Zy rfl) rfl ?_
        refine Ve ?_
        obtain rfl := Wd hF
        refine Vz ?_
        exact Vm rfl [(0, 0), (1, 0 + 1)] (by decide) ⟨Vj rfl (.vs _ _), Vu 0 0 rfl rfl, Xx 1 1 rfl rfl, Vj rfl (.int _ _), trivial⟩ ⟨⟨_, rfl, rfl, .same _ _ _ _ (Vq ⟨Vp ⟨.vs _ _, .vs _ _, trivial⟩, trivial⟩)⟩, ⟨_, rfl, rfl, .same _ _ _ _ (Vs (fun _ => .int _ _))⟩, trivial⟩
       ·have hF := Yj c33 hF
        refine Xe ?_
        obtain rfl := Wd hF
        refine Vz ?_
        exact Vl ⟨rfl, rfl, rfl, rfl, trivial⟩
     ·rintro _ _ _ _ ⟨rfl, hw⟩
      refine ⟨_, _, _, hw, ?_⟩
      refine Vd ?_
      refine Va (Vk rfl) rfl ?_
      refine Va (Za rfl rfl rfl) rfl ?_
      refine Va (Xi rfl) rfl ?_
      refine Ve ?_
      obtain rfl := Wd hF
      refine Vz ?_
      exact Vl ⟨rfl, rfl, rfl, rfl, trivial⟩
    ·have hF := Yj c6 hF
     refine Yr ?_
     obtain rfl := Wd hF
     refine Vz ?_
     exact Vm rfl [(1, 0)] (by decide) ⟨Xx 0 1 rfl rfl, trivial⟩ ⟨⟨_, rfl, rfl, .same _ _ _ _ (Vs (fun _ => .int _ _))⟩, trivial⟩
   ·rintro _ _ _ _ ⟨rfl, hw⟩
    refine ⟨_, _, _, hw, ?_⟩
    refine Vf ?_
    refine Vd ?_
    refine Va (Yx rfl) rfl ?_
    refine Va (Zy rfl) rfl ?_
    refine Ve ?_
    refine Xt ?_
    obtain rfl := Wd hF
    refine fnR ?_
    refine Weak.trans (Ys (E' := [(4, .vs 1 (Wa (Wb .i64) o5))]) (loc1 := [⟨3, 1, [], 0 + 1⟩]) rfl 0 rfl (Ym (fun _ => .int _ _)) ⟨cv_sl rfl rfl rfl (Zb rfl), trivial⟩ ⟨.refl _, trivial⟩) ?_
    exact Vm rfl [] (by decide) ⟨Vj rfl (.vs _ _), trivial⟩ trivial
 ·rintro _ _ _ _ ⟨he, hw⟩
  refine ⟨_, _, _, hw, ?_⟩
  exact Yu he [.vs 1 (Wa (Wb .i64) r)] ⟨rfl, trivial⟩ (.vs _ _) ⟨rfl, rfl⟩

theorem F_ref01_Ints_ok {p0 : List Int} {p1 : List Int} {r : Bool} (hF : F_ref01_Ints p0 p1 = some r) (low : List AObj) :
    Zd Try.prog 11 [.vs 1 (Wa (Wb .i64) p0), .vs 1 (Wa (Wb .i64) p1)] low fun x low' => x = .bool r ∧ low' = low := by
 refine Xh (nt := 26) (rs := [.tmp 4]) Try.func11 rfl rfl (We rfl) rfl ?_
 refine Vo (Q' := FnE (fun E' lw lc => Xr E' lw lc [(4, .bool r)] low [])) ?_ ?_
 ·unfold F_ref01_Ints at hF
  refine Vf ?_
  refine Vd ?_
  refine Va (Zc rfl) rfl ?_
  refine Ve ?_
  refine Vf ?_
  refine Vf ?_
  refine Vd ?_
  refine Va (Yc rfl) rfl ?_
  refine Va (Xm (Xy rfl rfl te_32) (congrArg (fun n : Nat => Wb .i64 (n : Int)) (Wh _))) rfl ?_
  refine Va (Yc rfl) rfl ?_
  refine Va (Xm (Xy rfl rfl te_32) (congrArg (fun n : Nat => Wb .i64 (n : Int)) (Wh _))) rfl ?_
  refine Va (rd_neq rfl rfl) rfl ?_
  refine Ve ?_
  refine Xd rfl (fun c1 => ?_) (fun c1 => ?_)
  ·have hF := Yi c1 hF
   refine Vf ?_
   refine Vd ?_
   refine Va (Zc rfl) rfl ?_
   refine Ve ?_
   refine Xt ?_
   obtain rfl := Wd hF
   refine fnR ?_
   exact Vl ⟨rfl, trivial⟩
  ·have hF := Yj c1 hF
   refine Xe ?_
   refine Vf ?_
   refine Vf ?_
   refine Vd ?_
   refine Va (Xi rfl) rfl ?_
   refine Ve ?_
   refine Xa ?_
   obtain ⟨o3, ho3, hF⟩ := Ya hF
   refine Vo (Yk (F_ref01_Ints_L1 p0 p1) (fun s2 E' lw lc => Xr E' lw lc [(0, .vs 1 (Wa (Wb .i64) p0)), (1, .vs 1 (Wa (Wb .i64) p1)), (5, .int .i64 s2)] low []) (Sum.elim (fun j4 => OnlyE .ret (fun E' lw lc => Xr E' lw lc [(4, .bool false)] low [])) (fun j5 => OnlyE (.exit 0) (fun E' lw lc => Xr E' lw lc [] low []))) ho3 ?_ (by rintro (_|_) _ _ _ ⟨h, _⟩ <;> cases h) ?_) ?_
   ·exact Vl ⟨rfl, rfl, rfl, trivial⟩
   ·rintro s2 os2 _ _ _ hF hw
    unfold F_ref01_Ints_L1 at hF
    refine Yd hw ?_
    refine Vf ?_
    refine Vf ?_
    refine Vd ?_
    refine Va (Vk rfl) rfl ?_
    refine Va (Yc rfl) rfl ?_
    refine Va (Xm (Xy rfl rfl te_32) (congrArg (fun n : Nat => Wb .i64 (n : Int)) (Wh _))) rfl ?_
    refine Va (Yh rfl rfl) rfl ?_
    refine Ve ?_
    refine Xd rfl (fun c6 => ?_) (fun c6 => ?_)
    ·have hF := Yi c6 hF
     refine Xe ?_
     refine Vf ?_
     refine Xa ?_
     refine Vf ?_
     obtain ⟨x7, h8, hF⟩ := Ya hF
     obtain ⟨x9, h10, hF⟩ := Ya hF
     refine Zm [[], [], [0, 1], [0, 1, 2], [], [], [4, 5], [4, 5, 6], [0, 1, 2, 3, 4, 5, 6, 7]] mixed (by kernel_rfl) rfl ?_
     refine Xu rfl rfl (Yc rfl) ?_
     refine Xu rfl rfl (Vk rfl) ?_
     refine Xu rfl rfl (Xm (Xz rfl rfl h8 te_32 ts_3) (v' := .vptr [.int .i64 x7] 0) rfl) ?_
     refine Xu rfl rfl (Xs rfl ta_3 rfl) ?_
     refine Xu rfl rfl (Yc rfl) ?_
     refine Xu rfl rfl (Vk rfl) ?_
     refine Xu rfl rfl (Xm (Xz rfl rfl h10 te_32 ts_3) (v' := .vptr [.int .i64 x9] 0) rfl) ?_
     refine Xu rfl rfl (Xs rfl ta_3 rfl) ?_
     refine Xu rfl rfl (rd_neq rfl rfl) ?_
     refine Yq ?_
     refine Xd rfl (fun c11 => ?_) (fun c11 => ?_)
     ·have hF := Yi c11 hF
      refine Vf ?_
      refine Vd ?_
      refine Va (Zc rfl) rfl ?_
      refine Ve ?_
      refine Xt ?_
      obtain rfl := Wd hF
      refine Vz ?_
      exact Vl ⟨rfl, trivial⟩
     ·have hF := Yj c11 hF
      refine Xe ?_
      refine Vd ?_
      refine Va (Vk rfl) rfl ?_
      refine Va (Za rfl rfl rfl) rfl ?_
      refine Va (Xi rfl) rfl ?_
      refine Ve ?_
      obtain rfl := Wd hF
      refine Vz ?_
      exact Vl ⟨rfl, rfl, rfl, trivial⟩
    ·have hF := Yj c6 hF
     refine Yr ?_
     obtain rfl := Wd hF
     refine Vz ?_
     exact Vl trivial
   ·rcases o3 with j4 | j5
    ·replace hF := elimL hF
     rintro _ _ _ _ ⟨rfl, hw⟩
     refine ⟨_, _, _, hw, ?_⟩
     obtain rfl := Wd hF
     refine fnR ?_
     exact Vl ⟨rfl, trivial⟩
    ·replace hF := elimR hF
     rintro _ _ _ _ ⟨rfl, hw⟩
     refine ⟨_, _, _, hw, ?_⟩
     refine Vf ?_
     refine Vd ?_
     refine Va (Zc rfl) rfl ?_
     refine Ve ?_
     refine Xt ?_
     obtain rfl := Wd hF
     refine fnR ?_
     exact Vl ⟨rfl, trivial⟩
 ·rintro _ _ _ _ ⟨he, hw⟩
  refine ⟨_, _, _, hw, ?_⟩
  exact Yu he [.bool r] ⟨rfl, trivial⟩ (.bool _) ⟨rfl, rfl⟩

theorem F_recirculate_Mixed_ok {p0 : T_Mine} {p1 : List T_Span} {r : List Int} (hF : F_recirculate_Mixed p0 p1 = some r) (low : List AObj) :
    Zd Try.prog 19 [.agg [.vs 2 (Wa T_Place.enc p0.Places), .vs 10 (Wa T_Road.enc p0.Roads)], .vs 2 (Wa T_Span.enc p1)] low fun x low' => x = .vs 1 (Wa (Wb .i64) r) ∧ low' = low := by
 refine Xh (nt := 59) (rs := [.tmp 4]) Try.func19 rfl rfl (We rfl) rfl ?_
 refine Vo (Q' := FnE (fun E' lw lc => Xr E' lw lc [(4, .vs 1 (Wa (Wb .i64) r))] low [])) ?_ ?_
 ·unfold F_recirculate_Mixed at hF
  refine Vf ?_
  refine Vd ?_
  refine Vi (Zo rfl rfl (v := .agg [.vs 2 (Wa T_Place.enc p0.Places), .vs 10 (Wa T_Road.enc p0.Roads)]) rfl rfl (Wf _) rfl rfl) rfl ?_
  refine Va (rd_nv (sz := 1) (rd_asN rfl)) rfl ?_
  refine Ve ?_
  refine Vf ?_
  refine Vd ?_
  obtain ⟨x1, h2, hF⟩ := Ya hF
  refine Va (Vy (ds := [.vs 2 (Wa T_Place.enc p0.Places), .vs 10 (Wa T_Road.enc p0.Roads)]) rfl (Vg rfl rfl) rfl ta_27 ts_27 rfl rfl rfl) rfl ?_
  refine Va (Yc rfl) rfl ?_
  refine Vi (Xg rfl Try.call30 (F_recirculate_arcs_ok h2 _)) rfl ?_
  refine Va (rd_mvT rfl) rfl ?_
  refine Va (Zr rfl rfl) rfl ?_
  refine Va (Zr rfl rfl) rfl ?_
  refine Va (rd_asV rfl) rfl ?_
  refine Va (Zc rfl) rfl ?_
  refine Ve ?_
  refine Vf ?_
  refine Vf ?_
  refine Vd ?_
  refine Va (Vn rfl) rfl ?_
  refine Va (rd_not rfl) rfl ?_
  refine Ve ?_
  refine Xd rfl (fun c3 => ?_) (fun c3 => ?_)
  ·have hF := Yi c3 hF
   refine Vf ?_
   refine Vd ?_
   refine Va (rd_nv (sz := 1) (rd_asN rfl)) rfl ?_
   refine Ve ?_
   refine Xt ?_
   obtain rfl := Wd hF
   refine fnR ?_
   exact Vm rfl [] (by decide) ⟨Vj rfl (.vs _ _), trivial⟩ trivial
  ·have hF := Yj c3 hF
   refine Xe ?_
   refine Vf ?_
   refine Vd ?_
   obtain ⟨x4, h5, hF⟩ := Ya hF
   refine Va (Vb rfl tf_27_0 ts_24 (by decide)) rfl ?_
   refine Va (Vh rfl (Vg rfl rfl) rfl ta_24 rfl) rfl ?_
   refine Va (Xm (Xy rfl rfl te_24) (congrArg (fun n : Nat => Wb .i64 (n : Int)) (Wh _))) rfl ?_
   refine Vi (vef_mkN (f := Wc) (zz := false) rfl rfl rfl rfl te_49 ts_4 tb_4 (by decide) tz_4 rfl rfl (Wf _) rfl h5) rfl ?_
   refine Va (Zy rfl) rfl ?_
   refine Ve ?_
   refine Vf ?_
   refine Vf ?_
   refine Vd ?_
   obtain ⟨x6, h7, hF⟩ := Ya hF
   refine Va (Vy (ds := [.vs 2 (Wa T_Place.enc p0.Places), .vs 10 (Wa T_Road.enc p0.Roads)]) rfl (Vg rfl rfl) rfl ta_27 ts_27 rfl rfl rfl) rfl ?_
   refine Va (Yc rfl) rfl ?_
   refine Vi (Xg rfl Try.call34 (F_recirculate_circles_ok h7 _)) rfl ?_
   refine Va (Xm (Xy rfl rfl te_74) (congrArg (fun n : Nat => Wb .i64 (n : Int)) (Wh _))) rfl ?_
   refine Va (Vk rfl) rfl ?_
   refine Ve ?_
   refine Xa ?_
   obtain ⟨o9, ho9, hF⟩ := Ya hF
   refine Vo (Yk (F_recirculate_Mixed_L1 x6) (fun s8 E' lw lc => Xr E' lw lc [(2, .ptr (low.length + 0) 0 0 0), (5, .vs 3 (Wa T_recirculate_arc.enc x1.1)), (7, .sl (low.length + 1) 0 0 (s8.2).length), (27, .vs 3 (Wa T_recirculate_arc.enc x6)), (28, .int .i64 ((x6).length : Int)), (29, .int .i64 s8.1)] low [⟨27, 2, [.agg [.vs 2 (Wa T_Place.enc p0.Places), .vs 10 (Wa T_Road.enc p0.Roads)]], 0⟩, ⟨4, 1, Wa Wc s8.2, 0⟩]) (fun o9 => OnlyE (.exit 0) (fun E' lw lc => Xr E' lw lc [(2, .ptr (low.length + 0) 0 0 0), (5, .vs 3 (Wa T_recirculate_arc.enc x1.1)), (7, .sl (low.length + 1) 0 0 (o9).length)] low [⟨27, 2, [.agg [.vs 2 (Wa T_Place.enc p0.Places), .vs 10 (Wa T_Road.enc p0.Roads)]], 0⟩, ⟨4, 1, Wa Wc o9, 0⟩])) ho9 ?_ (by rintro _ _ _ _ ⟨h, _⟩ <;> cases h) ?_) ?_
   ·exact Vl ⟨rfl, rfl, rfl, rfl, rfl, rfl, trivial⟩
   ·rintro s8 os8 _ _ _ hF hw
    unfold F_recirculate_Mixed_L1 at hF
    refine Yd hw ?_
    refine Vf ?_
    refine Vd ?_
    refine Va (Yh rfl rfl) rfl ?_
    refine Ve ?_
    refine Vf ?_
    refine Xd rfl (fun c10 => ?_) (fun c10 => ?_)
    ·have hF := Yi c10 hF
     refine Xe ?_
     refine Vf ?_
     refine Xa ?_
     refine Vf ?_
     refine Vd ?_
     obtain ⟨x11, h12, hF⟩ := Ya hF
     refine Va (Xm (Xz rfl rfl h12 te_74 ts_78) (v' := .vptr [.int .i64 x11.road, .int .i64 x11.from_, .int .i64 x11.to_] 0) rfl) rfl ?_
     refine Va (Zi (ds := [.int .i64 x11.road, .int .i64 x11.from_, .int .i64 x11.to_]) rfl ta_78 ts_78 rfl rfl) rfl ?_
     refine Vi (Xp rfl rfl tz_78 rfl rfl (Wf _) rfl) rfl ?_
     refine Vi (Xb (p := .agg [.int .i64 x11.road, .int .i64 x11.from_, .int .i64 x11.to_]) (e' := .agg [.int .i64 x11.road, .int .i64 x11.from_, .int .i64 x11.to_]) rfl (Vg rfl rfl) rfl rfl ts_78 rfl (Yn rfl) rfl (We rfl) rfl (Xn rfl rfl)) rfl ?_
     refine Ve ?_
     obtain ⟨x13, h14, hF⟩ := Ya hF
     obtain ⟨x15, h16, hF⟩ := Ya hF
     refine Zj [[], [], [1], [], [], [4], [0, 1, 2], [0, 1, 2, 6], [0, 1, 2, 3, 4, 5, 6, 7], [0, 1, 2, 3, 4, 5, 6, 7, 8]] [false, false, false, false, false, false, false, true, false, true] [(low, [⟨27, 2, [.agg [.vs 2 (Wa T_Place.enc p0.Places), .vs 10 (Wa T_Road.enc p0.Roads)]], 0⟩, ⟨4, 1, Wa Wc s8.2, 0⟩, ⟨78, 3, [.agg [.int .i64 x11.road, .int .i64 x11.from_, .int .i64 x11.to_]], 0⟩]), (low, [⟨27, 2, [.agg [.vs 2 (Wa T_Place.enc p0.Places), .vs 10 (Wa T_Road.enc p0.Roads)]], 0⟩, ⟨4, 1, Wa Wc (s8.2.set ((x11.from_).toNat) true), 0⟩, ⟨78, 3, [.agg [.int .i64 x11.road, .int .i64 x11.from_, .int .i64 x11.to_]], 0⟩]), (low, [⟨27, 2, [.agg [.vs 2 (Wa T_Place.enc p0.Places), .vs 10 (Wa T_Road.enc p0.Roads)]], 0⟩, ⟨4, 1, Wa Wc ((s8.2.set ((x11.from_).toNat) true).set ((x11.to_).toNat) true), 0⟩, ⟨78, 3, [.agg [.int .i64 x11.road, .int .i64 x11.from_, .int .i64 x11.to_]], 0⟩])] mixed (by kernel_rfl) rfl (lenAll (Vv rfl (Vv rfl (Vv rfl Yy)))) rfl _ rfl rfl ?_
     refine Xu rfl rfl (Yx rfl) ?_
     refine Xu rfl rfl (Vb rfl tf_78_1 ts_3 (by decide)) ?_
     refine Xu rfl rfl (Vh rfl (Vg rfl rfl) rfl ta_3 rfl) ?_
     refine Xc _ rfl rfl (Vv (VRd.ntl (Yx rfl)) (Vv (VRd.ntl (Yx rfl)) Yy)) ?_
     refine Xc _ rfl rfl (Vv (VRd.ntl (Vb rfl tf_78_2 ts_3 (by decide))) (Vv (VRd.ntl (Vb rfl tf_78_2 ts_3 (by decide))) Yy)) ?_
     refine Xc _ rfl rfl (Vv (VRd.ntl (Vh rfl (Vg rfl rfl) rfl ta_3 rfl)) (Vv (VRd.ntl (Vh rfl (Vg rfl rfl) rfl ta_3 rfl)) Yy)) ?_
     refine Xu rfl rfl (Zl rfl rfl rfl (Vg rfl rfl) h14 te_49 ts_4) ?_
     refine Yb rfl rfl rfl (vef_stL (p := .bool true) (e' := true) rfl (Vg rfl rfl) (Ye h14).2 rfl ts_4 rfl (Yn rfl) (We rfl) rfl (Xn rfl rfl)) ?_
     refine Xu rfl rfl (Zl rfl (Eq.trans rfl List.length_set.symm) rfl (Vg rfl rfl) h16 te_49 ts_4) ?_
     refine Yb rfl rfl rfl (vef_stL (p := .bool true) (e' := true) rfl (Vg rfl rfl) (Ye h16).2 rfl ts_4 rfl (Yn rfl) (We rfl) rfl (Xn rfl rfl)) ?_
     refine Yq ?_
     refine Vd ?_
     refine Va (Za rfl rfl rfl) rfl ?_
     refine Va (Vk rfl) rfl ?_
     refine Ve ?_
     obtain rfl := Wd hF
     refine Vz ?_
     exact Vm rfl [(0, 0), (1, 0)] (by decide) ⟨Vu 0 0 rfl rfl, Vj rfl (.vs _ _), Xx 1 1 rfl (congrArg (PV.sl _ _ 0) (Eq.trans (Eq.trans rfl List.length_set.symm) List.length_set.symm)), Vj rfl (.vs _ _), Vj rfl (.int _ _), Vj rfl (.int _ _), trivial⟩ ⟨⟨_, rfl, rfl, .same _ _ _ _ (Vq ⟨Vp ⟨.vs _ _, .vs _ _, trivial⟩, trivial⟩)⟩, ⟨_, rfl, rfl, .same _ _ _ _ (Vs (fun _ => .bool _))⟩, trivial⟩
    ·have hF := Yj c10 hF
     refine Yr ?_
     obtain rfl := Wd hF
     refine Vz ?_
     exact Vl ⟨rfl, rfl, rfl, trivial⟩
   ·rintro _ _ _ _ ⟨rfl, hw⟩
    refine ⟨_, _, _, hw, ?_⟩
    refine Vf ?_
    refine Vd ?_
    refine Vi (vef_nilsN rfl rfl 3 1 (Wf _) (rd_asN rfl)) rfl ?_
    refine Ve ?_
    refine Vf ?_
    refine Vf ?_
    refine Vd ?_
    obtain ⟨x17, h18, hF⟩ := Ya hF
    refine Va (Vy (ds := [.vs 2 (Wa T_Place.enc p0.Places), .vs 10 (Wa T_Road.enc p0.Roads)]) rfl (Vg rfl rfl) rfl ta_27 ts_27 rfl rfl rfl) rfl ?_
    refine Va (Yc rfl) rfl ?_
    refine Va (Yx rfl) rfl ?_
    refine vops_weak (Ys (E' := [(10, .sl (low.length + 2) 0 0 (([] : List Int)).length), (42, .agg [.vs 2 (Wa T_Place.enc p0.Places), .vs 10 (Wa T_Road.enc p0.Roads)]), (43, .vs 3 (Wa T_recirculate_arc.enc x1.1)), (44, .vs 1 (Wa Wc o9))]) (loc1 := [⟨27, 2, [.agg [.vs 2 (Wa T_Place.enc p0.Places), .vs 10 (Wa T_Road.enc p0.Roads)]], 0⟩, ⟨4, 1, [], 0 + 1⟩, ⟨3, 1, Wa (Wb .i64) ([] : List Int), 0⟩]) rfl 1 rfl (Ym (fun _ => .bool _)) ⟨Vt rfl, Vt rfl, Vt rfl, cv_sl rfl rfl rfl (Zb rfl), trivial⟩ ⟨.refl _, .refl _, .refl _, trivial⟩) ?_
    refine Vi (Xg rfl Try.call36 (F_recirculate_spread_ok h18 _)) rfl ?_
    refine Va (Xm (Xy rfl rfl te_49) (congrArg (fun n : Nat => Wb .i64 (n : Int)) (Wh _))) rfl ?_
    refine Va (Vk rfl) rfl ?_
    refine Ve ?_
    refine Xa ?_
    obtain ⟨o20, ho20, hF⟩ := Ya hF
    refine Vo (Yk (F_recirculate_Mixed_L2 x17) (fun s19 E' lw lc => Xr E' lw lc [(10, .sl (low.length + 0) 0 0 (s19.2).length), (45, .vs 1 (Wa Wc x17)), (46, .int .i64 ((x17).length : Int)), (47, .int .i64 s19.1)] low [⟨3, 1, Wa (Wb .i64) s19.2, 0⟩]) (fun o20 => OnlyE (.exit 2) (fun E' lw lc => Xr E' lw lc [(10, .sl (low.length + 0) 0 0 (o20).length)] low [⟨3, 1, Wa (Wb .i64) o20, 0⟩])) ho20 ?_ (by rintro _ _ _ _ ⟨h, _⟩ <;> cases h) ?_) ?_
    ·exact Vm rfl [(2, 0)] (by decide) ⟨Xx 0 2 rfl rfl, Vj rfl (.vs _ _), Vj rfl (.int _ _), Vj rfl (.int _ _), trivial⟩ ⟨⟨_, rfl, rfl, .same _ _ _ _ (Vq trivial)⟩, trivial⟩
    ·rintro s19 os19 _ _ _ hF hw
     unfold F_recirculate_Mixed_L2 at hF
     refine Yd hw ?_
     refine Vf ?_
     refine Vd ?_
     refine Va (Yh rfl rfl) rfl ?_
     refine Ve ?_
     refine Vf ?_
     refine Xd rfl (fun c21 => ?_) (fun c21 => ?_)
     ·have hF := Yi c21 hF
      refine Xe ?_
      refine Vf ?_
      obtain ⟨o22, ho22, hF⟩ := Ya hF
      refine Vo (Q' := (fun o22 => OnlyE .normal (fun E' lw lc => Xr E' lw lc [(10, .sl (low.length + 0) 0 0 (o22).length), (45, .vs 1 (Wa Wc x17)), (46, .int .i64 ((x17).length : Int)), (47, .int .i64 s19.1)] low [⟨3, 1, Wa (Wb .i64) o22, 0⟩])) o22) ?_ ?_
      ·replace hF := ho22
       refine Xa ?_
       refine Vf ?_
       refine Vd ?_
       obtain ⟨x23, h24, hF⟩ := Ya hF
       refine Va (Vk rfl) rfl ?_
       refine Va (Xm (Xz rfl rfl h24 te_49 ts_4) (v' := .vptr [.bool x23] 0) rfl) rfl ?_
       refine Va (Xs rfl ta_4 rfl) rfl ?_
       refine Va (Xi rfl) rfl ?_
       refine Va (Zc rfl) rfl ?_
       refine Ve ?_
       refine Vf ?_
       refine Vd ?_
       refine Va (Vn rfl) rfl ?_
       refine Ve ?_
       refine Xd rfl (fun c25 => ?_) (fun c25 => ?_)
       ·have hF := Yi c25 hF
        refine Vd ?_
        obtain ⟨x26, h27, hF⟩ := Ya hF
        refine Va (Yx rfl) rfl ?_
        refine Va (Vk rfl) rfl ?_
        refine Vi (Yt (es := Wa (Wb .i64) [s19.1]) ⟨rfl, rfl, trivial⟩ rfl rfl (Zg rfl) te_32 ts_3 tz_3 rfl rfl (Wf _) (by decide) (Ym (fun _ => .int _ _))) rfl ?_
        refine Vi (Zu (f := (Wb .i64)) (l := s19.2) (ys := [s19.1]) rfl rfl (Vg rfl rfl) rfl (Zx rfl) te_32 ts_3 tb_3 (by decide) tz_3 rfl h27 (Xn rfl rfl)) rfl ?_
        refine Va (Zy rfl) rfl ?_
        refine Ve ?_
        obtain rfl := Wd hF
        refine Vz ?_
        exact Vm rfl [(0, 0 + 1)] (by decide) ⟨Xx 0 0 rfl rfl, Vj rfl (.vs _ _), Vj rfl (.int _ _), Vj rfl (.int _ _), trivial⟩ ⟨⟨_, rfl, rfl, .same _ _ _ _ (Vs (fun _ => .int _ _))⟩, trivial⟩
       ·have hF := Yj c25 hF
        refine Xe ?_
        obtain rfl := Wd hF
        refine Vz ?_
        exact Vl ⟨rfl, rfl, rfl, rfl, trivial⟩
      ·rintro _ _ _ _ ⟨rfl, hw⟩
       refine ⟨_, _, _, hw, ?_⟩
       refine Vd ?_
       refine Va (Za rfl rfl rfl) rfl ?_
       refine Va (Vk rfl) rfl ?_
       refine Ve ?_
       obtain rfl := Wd hF
       refine Vz ?_
       exact Vl ⟨rfl, rfl, rfl, rfl, trivial⟩
     ·have hF := Yj c21 hF
      refine Yr ?_
      obtain rfl := Wd hF
      refine Vz ?_
      exact Vl ⟨rfl, trivial⟩
    ·rintro _ _ _ _ ⟨rfl, hw⟩
     refine ⟨_, _, _, hw, ?_⟩
     refine Vf ?_
     refine Vd ?_
     refine Va (Yx rfl) rfl ?_
     refine Va (Zy rfl) rfl ?_
     refine Ve ?_
     refine Xt ?_
     obtain rfl := Wd hF
     refine fnR ?_
     refine Weak.trans (Ys (E' := [(4, .vs 1 (Wa (Wb .i64) o20))]) (loc1 := [⟨3, 1, [], 0 + 1⟩]) rfl 0 rfl (Ym (fun _ => .int _ _)) ⟨cv_sl rfl rfl rfl (Zb rfl), trivial⟩ ⟨.refl _, trivial⟩) ?_
     exact Vm rfl [] (by decide) ⟨Vj rfl (.vs _ _), trivial⟩ trivial
 ·rintro _ _ _ _ ⟨he, hw⟩
  refine ⟨_, _, _, hw, ?_⟩
  exact Yu he [.vs 1 (Wa (Wb .i64) r)] ⟨rfl, trivial⟩ (.vs _ _) ⟨rfl, rfl⟩

theorem F_law14_awake_ok  {r : Bool} (hF : F_law14_awake = some r) (low : List AObj) :
    Zd Try.prog 14 [] low fun x low' => x = .bool r ∧ low' = low := by
 refine Xh (nt := 62) (rs := [.tmp 0]) Try.func14 rfl rfl (We rfl) rfl ?_
 refine Vo (Q' := FnE (fun E' lw lc => Xr E' lw lc [(0, .bool r)] low [])) ?_ ?_
 ·unfold F_law14_awake at hF
  refine Vf ?_
  refine Vd ?_
  refine Va (Zc rfl) rfl ?_
  refine Ve ?_
  refine Vf ?_
  refine Vd ?_
  refine Va (Yf (vs := [(0, .int .i64 1), (1, .int .i64 1)]) (ds := [.int .i64 1, .int .i64 1]) tz_44 rfl rfl tp_44 ⟨rfl, rfl, rfl, rfl, trivial⟩ (Yl rfl) rfl) rfl ?_
  refine Va (Yf (vs := [(0, .int .i64 0), (1, .int .i64 1), (2, .int .i64 1), (3, .int .i64 1), (6, .agg [.int .i64 1, .int .i64 1])]) (ds := [.int .i64 0, .int .i64 1, .int .i64 1, .int .i64 1, .bool false, .bool false, .int .i64 1, .int .i64 1, .int .i64 0, .int .i64 0]) tz_46 rfl rfl tp_46 ⟨rfl, rfl, rfl, rfl, rfl, rfl, rfl, rfl, rfl, rfl, trivial⟩ (Yl rfl) rfl) rfl ?_
  refine Vi (Xp rfl rfl tz_46 rfl rfl (Wf _) rfl) rfl ?_
  refine Vi (Xb (p := .agg [.int .i64 0, .int .i64 1, .int .i64 1, .int .i64 1, .bool false, .bool false, .int .i64 1, .int .i64 1, .int .i64 0, .int .i64 0]) (e' := .agg [.int .i64 0, .int .i64 1, .int .i64 1, .int .i64 1, .bool false, .bool false, .int .i64 1, .int .i64 1, .int .i64 0, .int .i64 0]) rfl (Vg rfl rfl) rfl rfl ts_46 rfl (Yn rfl) rfl (We rfl) rfl (Xn rfl rfl)) rfl ?_
  refine Ve ?_
  refine Vf ?_
  refine Vd ?_
  refine Va (Yf (vs := []) (ds := [.int .i64 0, .bool false]) tz_48 rfl rfl tp_48 trivial (Yl rfl) rfl) rfl ?_
  refine Va (Yf (vs := []) (ds := [.int .i64 0, .bool false]) tz_48 rfl rfl tp_48 trivial (Yl rfl) rfl) rfl ?_
  refine Vi (Yt (es := Wa T_Place.enc [(T_Place.mk 0 false), (T_Place.mk 0 false)]) ⟨rfl, rfl, rfl, rfl, trivial⟩ rfl rfl (Zg rfl) te_24 ts_48 tz_48 rfl rfl (Wf _) (by decide) (Ym T_Place.enc_lt)) rfl ?_
  refine Va (Vy (ds := [.int .i64 0, .int .i64 1, .int .i64 1, .int .i64 1, .bool false, .bool false, .int .i64 1, .int .i64 1, .int .i64 0, .int .i64 0]) rfl (Vg rfl rfl) rfl ta_46 ts_46 rfl rfl rfl) rfl ?_
  refine Va (Vy (ds := [.int .i64 0, .int .i64 1, .int .i64 1, .int .i64 1, .bool false, .bool false, .int .i64 1, .int .i64 1, .int .i64 0, .int .i64 0]) rfl (Vg rfl rfl) rfl ta_46 ts_46 rfl rfl rfl) rfl ?_
  refine Vi (Yt (es := Wa T_Road.enc [(T_Road.mk 0 1 1 1 false false (T_Span.mk 1 1) (T_Span.mk 0 0)), (T_Road.mk 0 1 1 1 false false (T_Span.mk 1 1) (T_Span.mk 0 0))]) ⟨rfl, rfl, rfl, rfl, trivial⟩ rfl rfl (Zg rfl) te_25 ts_46 tz_46 rfl rfl (Wf _) (by decide) (Ym T_Road.enc_lt)) rfl ?_
  refine Va (Yf (vs := [(0, .vs 2 (Wa T_Place.enc [(T_Place.mk 0 false), (T_Place.mk 0 false)])), (1, .vs 10 (Wa T_Road.enc [(T_Road.mk 0 1 1 1 false false (T_Span.mk 1 1) (T_Span.mk 0 0)), (T_Road.mk 0 1 1 1 false false (T_Span.mk 1 1) (T_Span.mk 0 0))]))]) (ds := [.vs 2 (Wa T_Place.enc [(T_Place.mk 0 false), (T_Place.mk 0 false)]), .vs 10 (Wa T_Road.enc [(T_Road.mk 0 1 1 1 false false (T_Span.mk 1 1) (T_Span.mk 0 0)), (T_Road.mk 0 1 1 1 false false (T_Span.mk 1 1) (T_Span.mk 0 0))])]) tz_27 rfl rfl tp_27 ⟨rfl, rfl, rfl, rfl, trivial⟩ (Yl rfl) rfl) rfl ?_
  refine Vi (Xp rfl rfl tz_27 rfl rfl (Wf _) rfl) rfl ?_
  refine Vi (Xb (p := .agg [.vs 2 (Wa T_Place.enc [(T_Place.mk 0 false), (T_Place.mk 0 false)]), .vs 10 (Wa T_Road.enc [(T_Road.mk 0 1 1 1 false false (T_Span.mk 1 1) (T_Span.mk 0 0)), (T_Road.mk 0 1 1 1 false false (T_Span.mk 1 1) (T_Span.mk 0 0))])]) (e' := .agg [.vs 2 (Wa T_Place.enc [(T_Place.mk 0 false), (T_Place.mk 0 false)]), .vs 10 (Wa T_Road.enc [(T_Road.mk 0 1 1 1 false false (T_Span.mk 1 1) (T_Span.mk 0 0)), (T_Road.mk 0 1 1 1 false false (T_Span.mk 1 1) (T_Span.mk 0 0))])]) rfl (Vg rfl rfl) rfl rfl ts_27 rfl (Yn rfl) rfl (We rfl) rfl (Xn rfl rfl)) rfl ?_
  refine Ve ?_
  refine Vf ?_
  refine Vd ?_
  refine Va (Yf (vs := [(0, .int .i64 1), (1, .int .i64 5)]) (ds := [.int .i64 1, .int .i64 5]) tz_44 rfl rfl tp_44 ⟨rfl, rfl, rfl, rfl, trivial⟩ (Yl rfl) rfl) rfl ?_
  refine Va (Yf (vs := [(0, .int .i64 (-5)), (1, .int .i64 (-1))]) (ds := [.int .i64 (-5), .int .i64 (-1)]) tz_44 rfl rfl tp_44 ⟨rfl, rfl, rfl, rfl, trivial⟩ (Yl rfl) rfl) rfl ?_
  refine Vi (Yt (es := Wa T_Span.enc [(T_Span.mk 1 5), (T_Span.mk (-5) (-1))]) ⟨rfl, rfl, rfl, rfl, trivial⟩ rfl rfl (Zg rfl) te_23 ts_44 tz_44 rfl rfl (Wf _) (by decide) (Ym T_Span.enc_lt)) rfl ?_
  refine Va (rd_asV rfl) rfl ?_
  refine Ve ?_
  refine Vf ?_
  refine Vd ?_
  obtain ⟨x1, h2, hF⟩ := Ya hF
  refine Va (Vy (ds := [.vs 2 (Wa T_Place.enc [(T_Place.mk 0 false), (T_Place.mk 0 false)]), .vs 10 (Wa T_Road.enc [(T_Road.mk 0 1 1 1 false false (T_Span.mk 1 1) (T_Span.mk 0 0)), (T_Road.mk 0 1 1 1 false false (T_Span.mk 1 1) (T_Span.mk 0 0))])]) rfl (Vg rfl rfl) rfl ta_27 ts_27 rfl rfl rfl) rfl ?_
  refine Va (Yc rfl) rfl ?_
  refine Vi (Xg rfl Try.call9 (F_recirculate_Ways_ok h2 _)) rfl ?_
  refine Va (rd_asV rfl) rfl ?_
  refine Ve ?_
  refine Vf ?_
  refine Vd ?_
  rcases Wg (decide (((x1).length : Int) = 2)) with c3 | c3
  ·have hF := Yi c3 hF
   obtain ⟨x4, h5, hF⟩ := Ya hF
   rcases Wg ((x4.a0 == 1) && ((x4.a1 == 0) && true)) with c6 | c6
   ·have hF := Yi c6 hF
    obtain ⟨x7, h8, hF⟩ := Ya hF
    obtain ⟨x9, h10, hF⟩ := Ya hF
    rcases Wg x9 with c11 | c11
    ·have hF := Yi c11 hF
     obtain ⟨x12, h13, hF⟩ := Ya hF
     rcases Wg (decide (((x12).length : Int) = 2)) with c14 | c14
     ·have hF := Yi c14 hF
      obtain ⟨x15, h16, hF⟩ := Ya hF
      rcases Wg (decide (((x15).length : Int) = 0)) with c17 | c17
      ·have hF := Yi c17 hF
       obtain ⟨x18, h19, hF⟩ := Ya hF
       obtain ⟨x20, h21, hF⟩ := Ya hF
       refine Va (Yc rfl) rfl ?_
       refine Va (Xm (Xy rfl rfl te_36) (congrArg (fun n : Nat => Wb .i64 (n : Int)) (Wh _))) rfl ?_
       refine Va (Zn rfl rfl) rfl ?_
       refine Va (Vn rfl) rfl ?_
       refine Xl rfl rfl c3 ?_
       refine Va (Yc rfl) rfl ?_
       refine Xl rfl rfl c3 ?_
       refine Va (Xm (Xz rfl rfl h5 te_36 ts_40) (v' := .vptr [.int .i64 x4.a0, .int .i64 x4.a1] 0) rfl) rfl ?_
       refine Xl rfl rfl c3 ?_
       refine Va (Zi (ds := [.int .i64 x4.a0, .int .i64 x4.a1]) rfl ta_40 ts_40 rfl rfl) rfl ?_
       refine Xl rfl rfl c3 ?_
       refine Va (rd_buildA (vs := [(0, .int .i64 1), (1, .int .i64 0)]) (ds := [.int .i64 1, .int .i64 0]) tz_40 rfl rfl tr_40 ts_3 ⟨rfl, rfl, rfl, rfl, trivial⟩ (Yl rfl) rfl) rfl ?_
       refine Xl rfl rfl c3 ?_
       refine Va (rd_eqlV (tab := eqTab) eqTab_ok rfl rfl eqg_40 rfl) rfl ?_
       refine Va (Vw (congrArg Wc c3) rfl) rfl ?_
       refine Va (Vn rfl) rfl ?_
       refine Xl rfl rfl c6 ?_
       refine Va (Vy (ds := [.vs 2 (Wa T_Place.enc [(T_Place.mk 0 false), (T_Place.mk 0 false)]), .vs 10 (Wa T_Road.enc [(T_Road.mk 0 1 1 1 false false (T_Span.mk 1 1) (T_Span.mk 0 0)), (T_Road.mk 0 1 1 1 false false (T_Span.mk 1 1) (T_Span.mk 0 0))])]) rfl (Vg rfl rfl) rfl ta_27 ts_27 rfl rfl rfl) rfl ?_
       refine Xl rfl rfl c6 ?_
       refine Va (Yc rfl) rfl ?_
       refine Xl rfl rfl c6 ?_
       refine Vi (Xg rfl Try.call12 (F_recirculate_Circles_ok h8 _)) rfl ?_
       refine Xl rfl rfl c6 ?_
       refine Vi (Yt (es := Wa (Wb .i64) [0, 1]) ⟨rfl, rfl, rfl, rfl, trivial⟩ rfl rfl (Zg rfl) te_32 ts_3 tz_3 rfl rfl (Wf _) (by decide) (Ym (fun _ => .int _ _))) rfl ?_
       refine Xl rfl rfl c6 ?_
       refine Vi (Xg rfl Try.call11 (F_ref01_Ints_ok h10 _)) rfl ?_
       refine Va (Vw (congrArg Wc c6) rfl) rfl ?_
       refine Va (Vn rfl) rfl ?_
       refine Xl rfl rfl c11 ?_
       refine Va (Vy (ds := [.vs 2 (Wa T_Place.enc [(T_Place.mk 0 false), (T_Place.mk 0 false)]), .vs 10 (Wa T_Road.enc [(T_Road.mk 0 1 1 1 false false (T_Span.mk 1 1) (T_Span.mk 0 0)), (T_Road.mk 0 1 1 1 false false (T_Span.mk 1 1) (T_Span.mk 0 0))])]) rfl (Vg rfl rfl) rfl ta_27 ts_27 rfl rfl rfl) rfl ?_
       refine Xl rfl rfl c11 ?_
       refine Va (Yf (vs := [(0, .int .i64 (-1)), (1, .int .i64 5)]) (ds := [.int .i64 (-1), .int .i64 5]) tz_44 rfl rfl tp_44 ⟨rfl, rfl, rfl, rfl, trivial⟩ (Yl rfl) rfl) rfl ?_
       refine Xl rfl rfl c11 ?_
       refine Va (Yf (vs := [(0, .int .i64 1), (1, .int .i64 5)]) (ds := [.int .i64 1, .int .i64 5]) tz_44 rfl rfl tp_44 ⟨rfl, rfl, rfl, rfl, trivial⟩ (Yl rfl) rfl) rfl ?_
       refine Xl rfl rfl c11 ?_
       refine Vi (Yt (es := Wa T_Span.enc [(T_Span.mk (-1) 5), (T_Span.mk 1 5)]) ⟨rfl, rfl, rfl, rfl, trivial⟩ rfl rfl (Zg rfl) te_23 ts_44 tz_44 rfl rfl (Wf _) (by decide) (Ym T_Span.enc_lt)) rfl ?_
       refine Xl rfl rfl c11 ?_
       refine Vi (Xg rfl Try.call12 (F_recirculate_Circles_ok h13 _)) rfl ?_
       refine Xl rfl rfl c11 ?_
       refine Va (Xm (Xy rfl rfl te_32) (congrArg (fun n : Nat => Wb .i64 (n : Int)) (Wh _))) rfl ?_
       refine Xl rfl rfl c11 ?_
       refine Va (Zn rfl rfl) rfl ?_
       refine Va (Vw (congrArg Wc c11) rfl) rfl ?_
       refine Va (Vn rfl) rfl ?_
       refine Xl rfl rfl c14 ?_
       refine Va (Vy (ds := [.vs 2 (Wa T_Place.enc [(T_Place.mk 0 false), (T_Place.mk 0 false)]), .vs 10 (Wa T_Road.enc [(T_Road.mk 0 1 1 1 false false (T_Span.mk 1 1) (T_Span.mk 0 0)), (T_Road.mk 0 1 1 1 false false (T_Span.mk 1 1) (T_Span.mk 0 0))])]) rfl (Vg rfl rfl) rfl ta_27 ts_27 rfl rfl rfl) rfl ?_
       refine Xl rfl rfl c14 ?_
       refine Va (Yf (vs := [(0, .int .i64 1), (1, .int .i64 5)]) (ds := [.int .i64 1, .int .i64 5]) tz_44 rfl rfl tp_44 ⟨rfl, rfl, rfl, rfl, trivial⟩ (Yl rfl) rfl) rfl ?_
       refine Xl rfl rfl c14 ?_
       refine Va (Yf (vs := [(0, .int .i64 1), (1, .int .i64 5)]) (ds := [.int .i64 1, .int .i64 5]) tz_44 rfl rfl tp_44 ⟨rfl, rfl, rfl, rfl, trivial⟩ (Yl rfl) rfl) rfl ?_
       refine Xl rfl rfl c14 ?_
       refine Vi (Yt (es := Wa T_Span.enc [(T_Span.mk 1 5), (T_Span.mk 1 5)]) ⟨rfl, rfl, rfl, rfl, trivial⟩ rfl rfl (Zg rfl) te_23 ts_44 tz_44 rfl rfl (Wf _) (by decide) (Ym T_Span.enc_lt)) rfl ?_
       refine Xl rfl rfl c14 ?_
       refine Vi (Xg rfl Try.call12 (F_recirculate_Circles_ok h16 _)) rfl ?_
       refine Xl rfl rfl c14 ?_
       refine Va (Xm (Xy rfl rfl te_32) (congrArg (fun n : Nat => Wb .i64 (n : Int)) (Wh _))) rfl ?_
       refine Xl rfl rfl c14 ?_
       refine Va (Zn rfl rfl) rfl ?_
       refine Va (Vw (congrArg Wc c14) rfl) rfl ?_
       refine Va (Vn rfl) rfl ?_
       refine Xl rfl rfl c17 ?_
       refine Va (Vy (ds := [.vs 2 (Wa T_Place.enc [(T_Place.mk 0 false), (T_Place.mk 0 false)]), .vs 10 (Wa T_Road.enc [(T_Road.mk 0 1 1 1 false false (T_Span.mk 1 1) (T_Span.mk 0 0)), (T_Road.mk 0 1 1 1 false false (T_Span.mk 1 1) (T_Span.mk 0 0))])]) rfl (Vg rfl rfl) rfl ta_27 ts_27 rfl rfl rfl) rfl ?_
       refine Xl rfl rfl c17 ?_
       refine Va (Yc rfl) rfl ?_
       refine Xl rfl rfl c17 ?_
       refine Vi (Xg rfl Try.call19 (F_recirculate_Mixed_ok h19 _)) rfl ?_
       refine Xl rfl rfl c17 ?_
       refine Vi (Yt (es := Wa (Wb .i64) [0, 1]) ⟨rfl, rfl, rfl, rfl, trivial⟩ rfl rfl (Zg rfl) te_32 ts_3 tz_3 rfl rfl (Wf _) (by decide) (Ym (fun _ => .int _ _))) rfl ?_
       refine Xl rfl rfl c17 ?_
       refine Vi (Xg rfl Try.call11 (F_ref01_Ints_ok h21 _)) rfl ?_
       refine Va (Vw (congrArg Wc c17) rfl) rfl ?_
       refine Va (Zc rfl) rfl ?_
       refine Ve ?_
       refine Xt ?_
       obtain rfl := Wd hF
       refine fnR ?_
       exact Vm rfl [] (by decide) ⟨Vj rfl (.bool _), trivial⟩ trivial
      ·have hF := Yj c17 hF
       refine Va (Yc rfl) rfl ?_
       refine Va (Xm (Xy rfl rfl te_36) (congrArg (fun n : Nat => Wb .i64 (n : Int)) (Wh _))) rfl ?_
       refine Va (Zn rfl rfl) rfl ?_
       refine Va (Vn rfl) rfl ?_
       refine Xl rfl rfl c3 ?_
       refine Va (Yc rfl) rfl ?_
       refine Xl rfl rfl c3 ?_
       refine Va (Xm (Xz rfl rfl h5 te_36 ts_40) (v' := .vptr [.int .i64 x4.a0, .int .i64 x4.a1] 0) rfl) rfl ?_
       refine Xl rfl rfl c3 ?_
       refine Va (Zi (ds := [.int .i64 x4.a0, .int .i64 x4.a1]) rfl ta_40 ts_40 rfl rfl) rfl ?_
       refine Xl rfl rfl c3 ?_
       refine Va (rd_buildA (vs := [(0, .int .i64 1), (1, .int .i64 0)]) (ds := [.int .i64 1, .int .i64 0]) tz_40 rfl rfl tr_40 ts_3 ⟨rfl, rfl, rfl, rfl, trivial⟩ (Yl rfl) rfl) rfl ?_
       refine Xl rfl rfl c3 ?_
       refine Va (rd_eqlV (tab := eqTab) eqTab_ok rfl rfl eqg_40 rfl) rfl ?_
       refine Va (Vw (congrArg Wc c3) rfl) rfl ?_
       refine Va (Vn rfl) rfl ?_
       refine Xl rfl rfl c6 ?_
       refine Va (Vy (ds := [.vs 2 (Wa T_Place.enc [(T_Place.mk 0 false), (T_Place.mk 0 false)]), .vs 10 (Wa T_Road.enc [(T_Road.mk 0 1 1 1 false false (T_Span.mk 1 1) (T_Span.mk 0 0)), (T_Road.mk 0 1 1 1 false false (T_Span.mk 1 1) (T_Span.mk 0 0))])]) rfl (Vg rfl rfl) rfl ta_27 ts_27 rfl rfl rfl) rfl ?_
       refine Xl rfl rfl c6 ?_
       refine Va (Yc rfl) rfl ?_
       refine Xl rfl rfl c6 ?_
       refine Vi (Xg rfl Try.call12 (F_recirculate_Circles_ok h8 _)) rfl ?_
       refine Xl rfl rfl c6 ?_
       refine Vi (Yt (es := Wa (Wb .i64) [0, 1]) ⟨rfl, rfl, rfl, rfl, trivial⟩ rfl rfl (Zg rfl) te_32 ts_3 tz_3 rfl rfl (Wf _) (by decide) (Ym (fun _ => .int _ _))) rfl ?_
       refine Xl rfl rfl c6 ?_
       refine Vi (Xg rfl Try.call11 (F_ref01_Ints_ok h10 _)) rfl ?_
       refine Va (Vw (congrArg Wc c6) rfl) rfl ?_
       refine Va (Vn rfl) rfl ?_
       refine Xl rfl rfl c11 ?_
       refine Va (Vy (ds := [.vs 2 (Wa T_Place.enc [(T_Place.mk 0 false), (T_Place.mk 0 false)]), .vs 10 (Wa T_Road.enc [(T_Road.mk 0 1 1 1 false false (T_Span.mk 1 1) (T_Span.mk 0 0)), (T_Road.mk 0 1 1 1 false false (T_Span.mk 1 1) (T_Span.mk 0 0))])]) rfl (Vg rfl rfl) rfl ta_27 ts_27 rfl rfl rfl) rfl ?_
       refine Xl rfl rfl c11 ?_
       refine Va (Yf (vs := [(0, .int .i64 (-1)), (1, .int .i64 5)]) (ds := [.int .i64 (-1), .int .i64 5]) tz_44 rfl rfl tp_44 ⟨rfl, rfl, rfl, rfl, trivial⟩ (Yl rfl) rfl) rfl ?_
       refine Xl rfl rfl c11 ?_
       refine Va (Yf (vs := [(0, .int .i64 1), (1, .int .i64 5)]) (ds := [.int .i64 1, .int .i64 5]) tz_44 rfl rfl tp_44 ⟨rfl, rfl, rfl, rfl, trivial⟩ (Yl rfl) rfl) rfl ?_
       refine Xl rfl rfl c11 ?_
       refine Vi (Yt (es := Wa T_Span.enc [(T_Span.mk (-1) 5), (T_Span.mk 1 5)]) ⟨rfl, rfl, rfl, rfl, trivial⟩ rfl rfl (Zg rfl) te_23 ts_44 tz_44 rfl rfl (Wf _) (by decide) (Ym T_Span.enc_lt)) rfl ?_
       refine Xl rfl rfl c11 ?_
       refine Vi (Xg rfl Try.call12 (F_recirculate_Circles_ok h13 _)) rfl ?_
       refine Xl rfl rfl c11 ?_
       refine Va (Xm (Xy rfl rfl te_32) (congrArg (fun n : Nat => Wb .i64 (n : Int)) (Wh _))) rfl ?_
       refine Xl rfl rfl c11 ?_
       refine Va (Zn rfl rfl) rfl ?_
       refine Va (Vw (congrArg Wc c11) rfl) rfl ?_
       refine Va (Vn rfl) rfl ?_
       refine Xl rfl rfl c14 ?_
       refine Va (Vy (ds := [.vs 2 (Wa T_Place.enc [(T_Place.mk 0 false), (T_Place.mk 0 false)]), .vs 10 (Wa T_Road.enc [(T_Road.mk 0 1 1 1 false false (T_Span.mk 1 1) (T_Span.mk 0 0)), (T_Road.mk 0 1 1 1 false false (T_Span.mk 1 1) (T_Span.mk 0 0))])]) rfl (Vg rfl rfl) rfl ta_27 ts_27 rfl rfl rfl) rfl ?_
       refine Xl rfl rfl c14 ?_
       refine Va (Yf (vs := [(0, .int .i64 1), (1, .int .i64 5)]) (ds := [.int .i64 1, .int .i64 5]) tz_44 rfl rfl tp_44 ⟨rfl, rfl, rfl, rfl, trivial⟩ (Yl rfl) rfl) rfl ?_
       refine Xl rfl rfl c14 ?_
       refine Va (Yf (vs := [(0, .int .i64 1), (1, .int .i64 5)]) (ds := [.int .i64 1, .int .i64 5]) tz_44 rfl rfl tp_44 ⟨rfl, rfl, rfl, rfl, trivial⟩ (Yl rfl) rfl) rfl ?_
       refine Xl rfl rfl c14 ?_
       refine Vi (Yt (es := Wa T_Span.enc [(T_Span.mk 1 5), (T_Span.mk 1 5)]) ⟨rfl, rfl, rfl, rfl, trivial⟩ rfl rfl (Zg rfl) te_23 ts_44 tz_44 rfl rfl (Wf _) (by decide) (Ym T_Span.enc_lt)) rfl ?_
       refine Xl rfl rfl c14 ?_
       refine Vi (Xg rfl Try.call12 (F_recirculate_Circles_ok h16 _)) rfl ?_
       refine Xl rfl rfl c14 ?_
       refine Va (Xm (Xy rfl rfl te_32) (congrArg (fun n : Nat => Wb .i64 (n : Int)) (Wh _))) rfl ?_
       refine Xl rfl rfl c14 ?_
       refine Va (Zn rfl rfl) rfl ?_
       refine Va (Vw (congrArg Wc c14) rfl) rfl ?_
       refine Va (Vn rfl) rfl ?_
       refine Vc rfl rfl (Zw c17) rfl ?_
       refine Vc rfl rfl (Zw c17) rfl ?_
       refine Vc rfl rfl (Zw c17) rfl ?_
       refine Vc rfl rfl (Zw c17) rfl ?_
       refine Vc rfl rfl (Zw c17) rfl ?_
       refine Va (Vx (congrArg Wc c17) rfl) rfl ?_
       refine Va (Zc rfl) rfl ?_
       refine Ve ?_
       refine Xt ?_
       obtain rfl := Wd hF
       refine fnR ?_
       exact Vm rfl [] (by decide) ⟨Vj rfl (.bool _), trivial⟩ trivial
     ·have hF := Yj c14 hF
      refine Va (Yc rfl) rfl ?_
      refine Va (Xm (Xy rfl rfl te_36) (congrArg (fun n : Nat => Wb .i64 (n : Int)) (Wh _))) rfl ?_
      refine Va (Zn rfl rfl) rfl ?_
      refine Va (Vn rfl) rfl ?_
      refine Xl rfl rfl c3 ?_
      refine Va (Yc rfl) rfl ?_
      refine Xl rfl rfl c3 ?_
      refine Va (Xm (Xz rfl rfl h5 te_36 ts_40) (v' := .vptr [.int .i64 x4.a0, .int .i64 x4.a1] 0) rfl) rfl ?_
      refine Xl rfl rfl c3 ?_
      refine Va (Zi (ds := [.int .i64 x4.a0, .int .i64 x4.a1]) rfl ta_40 ts_40 rfl rfl) rfl ?_
      refine Xl rfl rfl c3 ?_
      refine Va (rd_buildA (vs := [(0, .int .i64 1), (1, .int .i64 0)]) (ds := [.int .i64 1, .int .i64 0]) tz_40 rfl rfl tr_40 ts_3 ⟨rfl, rfl, rfl, rfl, trivial⟩ (Yl rfl) rfl) rfl ?_
      refine Xl rfl rfl c3 ?_
      refine Va (rd_eqlV (tab := eqTab) eqTab_ok rfl rfl eqg_40 rfl) rfl ?_
      refine Va (Vw (congrArg Wc c3) rfl) rfl ?_
      refine Va (Vn rfl) rfl ?_
      refine Xl rfl rfl c6 ?_
      refine Va (Vy (ds := [.vs 2 (Wa T_Place.enc [(T_Place.mk 0 false), (T_Place.mk 0 false)]), .vs 10 (Wa T_Road.enc [(T_Road.mk 0 1 1 1 false false (T_Span.mk 1 1) (T_Span.mk 0 0)), (T_Road.mk 0 1 1 1 false false (T_Span.mk 1 1) (T_Span.mk 0 0))])]) rfl (Vg rfl rfl) rfl ta_27 ts_27 rfl rfl rfl) rfl ?_
      refine Xl rfl rfl c6 ?_
      refine Va (Yc rfl) rfl ?_
      refine Xl rfl rfl c6 ?_
      refine Vi (Xg rfl Try.call12 (F_recirculate_Circles_ok h8 _)) rfl ?_
      refine Xl rfl rfl c6 ?_
      refine Vi (Yt (es := Wa (Wb .i64) [0, 1]) ⟨rfl, rfl, rfl, rfl, trivial⟩ rfl rfl (Zg rfl) te_32 ts_3 tz_3 rfl rfl (Wf _) (by decide) (Ym (fun _ => .int _ _))) rfl ?_
      refine Xl rfl rfl c6 ?_
      refine Vi (Xg rfl Try.call11 (F_ref01_Ints_ok h10 _)) rfl ?_
      refine Va (Vw (congrArg Wc c6) rfl) rfl ?_
      refine Va (Vn rfl) rfl ?_
      refine Xl rfl rfl c11 ?_
      refine Va (Vy (ds := [.vs 2 (Wa T_Place.enc [(T_Place.mk 0 false), (T_Place.mk 0 false)]), .vs 10 (Wa T_Road.enc [(T_Road.mk 0 1 1 1 false false (T_Span.mk 1 1) (T_Span.mk 0 0)), (T_Road.mk 0 1 1 1 false false (T_Span.mk 1 1) (T_Span.mk 0 0))])]) rfl (Vg rfl rfl) rfl ta_27 ts_27 rfl rfl rfl) rfl ?_
      refine Xl rfl rfl c11 ?_
      refine Va (Yf (vs := [(0, .int .i64 (-1)), (1, .int .i64 5)]) (ds := [.int .i64 (-1), .int .i64 5]) tz_44 rfl rfl tp_44 ⟨rfl, rfl, rfl, rfl, trivial⟩ (Yl rfl) rfl) rfl ?_
      refine Xl rfl rfl c11 ?_
      refine Va (Yf (vs := [(0, .int .i64 1), (1, .int .i64 5)]) (ds := [.int .i64 1, .int .i64 5]) tz_44 rfl rfl tp_44 ⟨rfl, rfl, rfl, rfl, trivial⟩ (Yl rfl) rfl) rfl ?_
      refine Xl rfl rfl c11 ?_
      refine Vi (Yt (es := Wa T_Span.enc [(T_Span.mk (-1) 5), (T_Span.mk 1 5)]) ⟨rfl, rfl, rfl, rfl, trivial⟩ rfl rfl (Zg rfl) te_23 ts_44 tz_44 rfl rfl (Wf _) (by decide) (Ym T_Span.enc_lt)) rfl ?_
      refine Xl rfl rfl c11 ?_
      refine Vi (Xg rfl Try.call12 (F_recirculate_Circles_ok h13 _)) rfl ?_
      refine Xl rfl rfl c11 ?_
      refine Va (Xm (Xy rfl rfl te_32) (congrArg (fun n : Nat => Wb .i64 (n : Int)) (Wh _))) rfl ?_
      refine Xl rfl rfl c11 ?_
      refine Va (Zn rfl rfl) rfl ?_
      refine Va (Vw (congrArg Wc c11) rfl) rfl ?_
      refine Va (Vn rfl) rfl ?_
      refine Vc rfl rfl (Zw c14) rfl ?_
      refine Vc rfl rfl (Zw c14) rfl ?_
      refine Vc rfl rfl (Zw c14) rfl ?_
      refine Vc rfl rfl (Zw c14) rfl ?_
      refine Vc rfl rfl (Zw c14) rfl ?_
      refine Vc rfl rfl (Zw c14) rfl ?_
      refine Vc rfl rfl (Zw c14) rfl ?_
      refine Va (Vx (congrArg Wc c14) rfl) rfl ?_
      refine Va (Vn rfl) rfl ?_
      refine Vc rfl rfl (by decide) rfl ?_
      refine Vc rfl rfl (by decide) rfl ?_
      refine Vc rfl rfl (by decide) rfl ?_
      refine Vc rfl rfl (by decide) rfl ?_
      refine Vc rfl rfl (by decide) rfl ?_
      refine Va (Vx rfl rfl) rfl ?_
      refine Va (Zc rfl) rfl ?_
      refine Ve ?_
      refine Xt ?_
      obtain rfl := Wd hF
      refine fnR ?_
      exact Vm rfl [] (by decide) ⟨Vj rfl (.bool _), trivial⟩ trivial
    ·have hF := Yj c11 hF
     refine Va (Yc rfl) rfl ?_
     refine Va (Xm (Xy rfl rfl te_36) (congrArg (fun n : Nat => Wb .i64 (n : Int)) (Wh _))) rfl ?_
     refine Va (Zn rfl rfl) rfl ?_
     refine Va (Vn rfl) rfl ?_
     refine Xl rfl rfl c3 ?_
     refine Va (Yc rfl) rfl ?_
     refine Xl rfl rfl c3 ?_
     refine Va (Xm (Xz rfl rfl h5 te_36 ts_40) (v' := .vptr [.int .i64 x4.a0, .int .i64 x4.a1] 0) rfl) rfl ?_
     refine Xl rfl rfl c3 ?_
     refine Va (Zi (ds := [.int .i64 x4.a0, .int .i64 x4.a1]) rfl ta_40 ts_40 rfl rfl) rfl ?_
     refine Xl rfl rfl c3 ?_
     refine Va (rd_buildA (vs := [(0, .int .i64 1), (1, .int .i64 0)]) (ds := [.int .i64 1, .int .i64 0]) tz_40 rfl rfl tr_40 ts_3 ⟨rfl, rfl, rfl, rfl, trivial⟩ (Yl rfl) rfl) rfl ?_
     refine Xl rfl rfl c3 ?_
     refine Va (rd_eqlV (tab := eqTab) eqTab_ok rfl rfl eqg_40 rfl) rfl ?_
     refine Va (Vw (congrArg Wc c3) rfl) rfl ?_
     refine Va (Vn rfl) rfl ?_
     refine Xl rfl rfl c6 ?_
     refine Va (Vy (ds := [.vs 2 (Wa T_Place.enc [(T_Place.mk 0 false), (T_Place.mk 0 false)]), .vs 10 (Wa T_Road.enc [(T_Road.mk 0 1 1 1 false false (T_Span.mk 1 1) (T_Span.mk 0 0)), (T_Road.mk 0 1 1 1 false false (T_Span.mk 1 1) (T_Span.mk 0 0))])]) rfl (Vg rfl rfl) rfl ta_27 ts_27 rfl rfl rfl) rfl ?_
     refine Xl rfl rfl c6 ?_
     refine Va (Yc rfl) rfl ?_
     refine Xl rfl rfl c6 ?_
     refine Vi (Xg rfl Try.call12 (F_recirculate_Circles_ok h8 _)) rfl ?_
     refine Xl rfl rfl c6 ?_
     refine Vi (Yt (es := Wa (Wb .i64) [0, 1]) ⟨rfl, rfl, rfl, rfl, trivial⟩ rfl rfl (Zg rfl) te_32 ts_3 tz_3 rfl rfl (Wf _) (by decide) (Ym (fun _ => .int _ _))) rfl ?_
     refine Xl rfl rfl c6 ?_
     refine Vi (Xg rfl Try.call11 (F_ref01_Ints_ok h10 _)) rfl ?_
     refine Va (Vw (congrArg Wc c6) rfl) rfl ?_
     refine Va (Vn rfl) rfl ?_
     refine Vc rfl rfl (Zw c11) rfl ?_
     refine Vc rfl rfl (Zw c11) rfl ?_
     refine Vc rfl rfl (Zw c11) rfl ?_
     refine Vc rfl rfl (Zw c11) rfl ?_
     refine Vc rfl rfl (Zw c11) rfl ?_
     refine Vc rfl rfl (Zw c11) rfl ?_
     refine Vc rfl rfl (Zw c11) rfl ?_
     refine Va (Vx (congrArg Wc c11) rfl) rfl ?_
     refine Va (Vn rfl) rfl ?_
     refine Vc rfl rfl (by decide) rfl ?_
     refine Vc rfl rfl (by decide) rfl ?_
     refine Vc rfl rfl (by decide) rfl ?_
     refine Vc rfl rfl (by decide) rfl ?_
     refine Vc rfl rfl (by decide) rfl ?_
     refine Vc rfl rfl (by decide) rfl ?_
     refine Vc rfl rfl (by decide) rfl ?_
     refine Va (Vx rfl rfl) rfl ?_
     refine Va (Vn rfl) rfl ?_
     refine Vc rfl rfl (by decide) rfl ?_
     refine Vc rfl rfl (by decide) rfl ?_
     refine Vc rfl rfl (by decide) rfl ?_
     refine Vc rfl rfl (by decide) rfl ?_
     refine Vc rfl rfl (by decide) rfl ?_
     refine Va (Vx rfl rfl) rfl ?_
     refine Va (Zc rfl) rfl ?_
     refine Ve ?_
     refine Xt ?_
     obtain rfl := Wd hF
     refine fnR ?_
     exact Vm rfl [] (by decide) ⟨Vj rfl (.bool _), trivial⟩ trivial
   ·have hF := Yj c6 hF
    refine Va (Yc rfl) rfl ?_
    refine Va (Xm (Xy rfl rfl te_36) (congrArg (fun n : Nat => Wb .i64 (n : Int)) (Wh _))) rfl ?_
    refine Va (Zn rfl rfl) rfl ?_
    refine Va (Vn rfl) rfl ?_
    refine Xl rfl rfl c3 ?_
    refine Va (Yc rfl) rfl ?_
    refine Xl rfl rfl c3 ?_
    refine Va (Xm (Xz rfl rfl h5 te_36 ts_40) (v' := .vptr [.int .i64 x4.a0, .int .i64 x4.a1] 0) rfl) rfl ?_
    refine Xl rfl rfl c3 ?_
    refine Va (Zi (ds := [.int .i64 x4.a0, .int .i64 x4.a1]) rfl ta_40 ts_40 rfl rfl) rfl ?_
    refine Xl rfl rfl c3 ?_
    refine Va (rd_buildA (vs := [(0, .int .i64 1), (1, .int .i64 0)]) (ds := [.int .i64 1, .int .i64 0]) tz_40 rfl rfl tr_40 ts_3 ⟨rfl, rfl, rfl, rfl, trivial⟩ (Yl rfl) rfl) rfl ?_
    refine Xl rfl rfl c3 ?_
    refine Va (rd_eqlV (tab := eqTab) eqTab_ok rfl rfl eqg_40 rfl) rfl ?_
    refine Va (Vw (congrArg Wc c3) rfl) rfl ?_
    refine Va (Vn rfl) rfl ?_
    refine Vc rfl rfl (Zw c6) rfl ?_
    refine Vc rfl rfl (Zw c6) rfl ?_
    refine Vc rfl rfl (Zw c6) rfl ?_
    refine Vc rfl rfl (Zw c6) rfl ?_
    refine Vc rfl rfl (Zw c6) rfl ?_
    refine Va (Vx (congrArg Wc c6) rfl) rfl ?_
    refine Va (Vn rfl) rfl ?_
    refine Vc rfl rfl (by decide) rfl ?_
    refine Vc rfl rfl (by decide) rfl ?_
    refine Vc rfl rfl (by decide) rfl ?_
    refine Vc rfl rfl (by decide) rfl ?_
    refine Vc rfl rfl (by decide) rfl ?_
    refine Vc rfl rfl (by decide) rfl ?_
    refine Vc rfl rfl (by decide) rfl ?_
    refine Va (Vx rfl rfl) rfl ?_
    refine Va (Vn rfl) rfl ?_
    refine Vc rfl rfl (by decide) rfl ?_
    refine Vc rfl rfl (by decide) rfl ?_
    refine Vc rfl rfl (by decide) rfl ?_
    refine Vc rfl rfl (by decide) rfl ?_
    refine Vc rfl rfl (by decide) rfl ?_
    refine Vc rfl rfl (by decide) rfl ?_
    refine Vc rfl rfl (by decide) rfl ?_
    refine Va (Vx rfl rfl) rfl ?_
    refine Va (Vn rfl) rfl ?_
    refine Vc rfl rfl (by decide) rfl ?_
    refine Vc rfl rfl (by decide) rfl ?_
    refine Vc rfl rfl (by decide) rfl ?_
    refine Vc rfl rfl (by decide) rfl ?_
    refine Vc rfl rfl (by decide) rfl ?_
    refine Va (Vx rfl rfl) rfl ?_
    refine Va (Zc rfl) rfl ?_
    refine Ve ?_
    refine Xt ?_
    obtain rfl := Wd hF
    refine fnR ?_
    exact Vm rfl [] (by decide) ⟨Vj rfl (.bool _), trivial⟩ trivial
  ·have hF := Yj c3 hF
   refine Va (Yc rfl) rfl ?_
   refine Va (Xm (Xy rfl rfl te_36) (congrArg (fun n : Nat => Wb .i64 (n : Int)) (Wh _))) rfl ?_
   refine Va (Zn rfl rfl) rfl ?_
   refine Va (Vn rfl) rfl ?_
   refine Vc rfl rfl (Zw c3) rfl ?_
   refine Vc rfl rfl (Zw c3) rfl ?_
   refine Vc rfl rfl (Zw c3) rfl ?_
   refine Vc rfl rfl (Zw c3) rfl ?_
   refine Vc rfl rfl (Zw c3) rfl ?_
   refine Va (Vx (congrArg Wc c3) rfl) rfl ?_
   refine Va (Vn rfl) rfl ?_
   refine Vc rfl rfl (by decide) rfl ?_
   refine Vc rfl rfl (by decide) rfl ?_
   refine Vc rfl rfl (by decide) rfl ?_
   refine Vc rfl rfl (by decide) rfl ?_
   refine Vc rfl rfl (by decide) rfl ?_
   refine Va (Vx rfl rfl) rfl ?_
   refine Va (Vn rfl) rfl ?_
   refine Vc rfl rfl (by decide) rfl ?_
   refine Vc rfl rfl (by decide) rfl ?_
   refine Vc rfl rfl (by decide) rfl ?_
   refine Vc rfl rfl (by decide) rfl ?_
   refine Vc rfl rfl (by decide) rfl ?_
   refine Vc rfl rfl (by decide) rfl ?_
   refine Vc rfl rfl (by decide) rfl ?_
   refine Va (Vx rfl rfl) rfl ?_
   refine Va (Vn rfl) rfl ?_
   refine Vc rfl rfl (by decide) rfl ?_
   refine Vc rfl rfl (by decide) rfl ?_
   refine Vc rfl rfl (by decide) rfl ?_
   refine Vc rfl rfl (by decide) rfl ?_
   refine Vc rfl rfl (by decide) rfl ?_
   refine Vc rfl rfl (by decide) rfl ?_
   refine Vc rfl rfl (by decide) rfl ?_
   refine Va (Vx rfl rfl) rfl ?_
   refine Va (Vn rfl) rfl ?_
   refine Vc rfl rfl (by decide) rfl ?_
   refine Vc rfl rfl (by decide) rfl ?_
   refine Vc rfl rfl (by decide) rfl ?_
   refine Vc rfl rfl (by decide) rfl ?_
   refine Vc rfl rfl (by decide) rfl ?_
   refine Va (Vx rfl rfl) rfl ?_
   refine Va (Zc rfl) rfl ?_
   refine Ve ?_
   refine Xt ?_
   obtain rfl := Wd hF
   refine fnR ?_
   exact Vm rfl [] (by decide) ⟨Vj rfl (.bool _), trivial⟩ trivial
 ·rintro _ _ _ _ ⟨he, hw⟩
  refine ⟨_, _, _, hw, ?_⟩
  exact Yu he [.bool r] ⟨rfl, trivial⟩ (.bool _) ⟨rfl, rfl⟩

theorem F_law14_RecirculateWays_ok {p0 : List Int} {p1 : List T_Span} {r : Bool} (hF : F_law14_RecirculateWays p0 p1 = some r) (low : List AObj) :
    Zd Try.prog 3 [.vs 1 (Wa (Wb .u8) p0), .vs 2 (Wa T_Span.enc p1)] low fun x low' => x = .bool r ∧ low' = low := by
 refine Xh (nt := 69) (rs := [.tmp 4]) Try.func3 rfl rfl (We rfl) rfl ?_
 refine Vo (Q' := FnE (fun E' lw lc => Xr E' lw lc [(4, .bool r)] low [])) ?_ ?_
 ·unfold F_law14_RecirculateWays at hF
  refine Vf ?_
  refine Vd ?_
  refine Va (Zc rfl) rfl ?_
  refine Ve ?_
  refine Vf ?_
  refine Vd ?_
  obtain ⟨x1, h2, hF⟩ := Ya hF
  refine Va (Yc rfl) rfl ?_
  refine Vi (vef_callN (r := .tup [.agg [.vs 2 (Wa T_Place.enc x1.1.Mine.Places), .vs 10 (Wa T_Road.enc x1.1.Mine.Roads), .vs 4 (Wa T_Fan.enc x1.1.Fans), .vs 3 (Wa T_Door.enc x1.1.Doors)], .vs 2 (Wa T_Span.enc x1.2.1), .vs 1 (Wa (Wb .i64) x1.2.2)]) (os := []) rfl Try.call8 (F_law14_air_ok h2 _ (Xv rfl rfl))) rfl ?_
  refine Va (rd_mvT rfl) rfl ?_
  refine Va (Zr rfl rfl) rfl ?_
  refine Va (Zr rfl rfl) rfl ?_
  refine Va (Zr rfl rfl) rfl ?_
  refine Vi (Xp rfl rfl tz_31 rfl rfl (Wf _) rfl) rfl ?_
  refine Vi (Xb (p := .agg [.vs 2 (Wa T_Place.enc x1.1.Mine.Places), .vs 10 (Wa T_Road.enc x1.1.Mine.Roads), .vs 4 (Wa T_Fan.enc x1.1.Fans), .vs 3 (Wa T_Door.enc x1.1.Doors)]) (e' := .agg [.vs 2 (Wa T_Place.enc x1.1.Mine.Places), .vs 10 (Wa T_Road.enc x1.1.Mine.Roads), .vs 4 (Wa T_Fan.enc x1.1.Fans), .vs 3 (Wa T_Door.enc x1.1.Doors)]) rfl (Vg rfl rfl) rfl rfl ts_31 rfl (Yn rfl) rfl (We rfl) rfl (Xn rfl rfl)) rfl ?_
  refine Va (rd_asV rfl) rfl ?_
  refine Va (rd_asV rfl) rfl ?_
  refine Ve ?_
  refine Vf ?_
  refine Vf ?_
  refine Vd ?_
  refine Va (Yc rfl) rfl ?_
  refine Va (Yc rfl) rfl ?_
  refine Vi (Yt (es := Wa (encS 2 T_Span.enc) [x1.2.1, p1]) ⟨rfl, rfl, rfl, rfl, trivial⟩ rfl rfl (Zg rfl) te_35 ts_23 tz_23 rfl rfl (Wf _) (by decide) (Ym (fun _ => .vs _ _))) rfl ?_
  refine Va (Xm (Xy rfl rfl te_35) (congrArg (fun n : Nat => Wb .i64 (n : Int)) (Wh _))) rfl ?_
  refine Va (Vk rfl) rfl ?_
  refine Ve ?_
  refine Xa ?_
  obtain ⟨o4, ho4, hF⟩ := Ya hF
  refine Vo (Yk (F_law14_RecirculateWays_L1 p1 x1) (fun s3 E' lw lc => Xr E' lw lc [(5, .ptr (low.length + 0) 0 0 0), (21, .vs 1 (Wa (encS 2 T_Span.enc) [x1.2.1, p1])), (22, .int .i64 (([x1.2.1, p1]).length : Int)), (23, .int .i64 s3)] low [⟨31, 4, [.agg [.vs 2 (Wa T_Place.enc x1.1.Mine.Places), .vs 10 (Wa T_Road.enc x1.1.Mine.Roads), .vs 4 (Wa T_Fan.enc x1.1.Fans), .vs 3 (Wa T_Door.enc x1.1.Doors)]], 0⟩]) (Sum.elim (fun j5 => OnlyE .ret (fun E' lw lc => Xr E' lw lc [(4, .bool false)] low [])) (fun j6 => OnlyE (.exit 0) (fun E' lw lc => Xr E' lw lc [] low []))) ho4 ?_ (by rintro (_|_) _ _ _ ⟨h, _⟩ <;> cases h) ?_) ?_
  ·exact Vl ⟨rfl, rfl, rfl, rfl, trivial⟩
  ·rintro s3 os3 _ _ _ hF hw
   unfold F_law14_RecirculateWays_L1 at hF
   refine Yd hw ?_
   refine Vf ?_
   refine Vd ?_
   refine Va (Yh rfl rfl) rfl ?_
   refine Ve ?_
   refine Vf ?_
   refine Xd rfl (fun c7 => ?_) (fun c7 => ?_)
   ·have hF := Yi c7 hF
    refine Xe ?_
    refine Vf ?_
    refine Xa ?_
    refine Vf ?_
    refine Vd ?_
    obtain ⟨x8, h9, hF⟩ := Ya hF
    refine Va (Xm (Xz rfl rfl h9 te_35 ts_23) (v' := .vptr [.vs 2 (Wa T_Span.enc x8)] 0) rfl) rfl ?_
    refine Va (Xs rfl ta_23 rfl) rfl ?_
    refine Va (rd_asV rfl) rfl ?_
    refine Ve ?_
    refine Vf ?_
    obtain ⟨x10, h11, hF⟩ := Ya hF
    obtain ⟨x12, h13, hF⟩ := Ya hF
    refine Zm [[], [0], [], [0, 1, 2], [], [4], [], [0, 1, 2, 3, 4, 5, 6], [0, 1, 2, 3, 4, 5, 6, 7], [0, 1, 2, 3, 4, 5, 6, 7, 8]] mixed (by kernel_rfl) rfl ?_
    refine Xu rfl rfl (Vb rfl tf_31_0 ts_27 (by decide)) ?_
    refine Xu rfl rfl (Vy (ds := [.vs 2 (Wa T_Place.enc x1.1.Mine.Places), .vs 10 (Wa T_Road.enc x1.1.Mine.Roads)]) rfl (Vg rfl rfl) rfl ta_27 ts_27 rfl rfl rfl) ?_
    refine Xu rfl rfl (Yc rfl) ?_
    refine dn1 rfl rfl (Zz (Xg rfl Try.call9 (F_recirculate_Ways_ok h11 _))) ?_
    refine Xu rfl rfl (Vb rfl tf_31_0 ts_27 (by decide)) ?_
    refine Xu rfl rfl (Vy (ds := [.vs 2 (Wa T_Place.enc x1.1.Mine.Places), .vs 10 (Wa T_Road.enc x1.1.Mine.Roads)]) rfl (Vg rfl rfl) rfl ta_27 ts_27 rfl rfl rfl) ?_
    refine Xu rfl rfl (Yc rfl) ?_
    refine dn1 rfl rfl (Zz (Xg rfl Try.call10 (F_ref14_Ways_ok h13 _))) ?_
    refine Xu rfl rfl (rd_asV rfl) ?_
    refine Xu rfl rfl (rd_asV rfl) ?_
    refine Yq ?_
    refine Vf ?_
    refine Vf ?_
    obtain ⟨o14, ho14, hF⟩ := Ya hF
    refine Vo (Q' := (fun o14 => OnlyE .normal (fun E' lw lc => Xr E' lw lc [(5, .ptr (low.length + 0) 0 0 0), (10, .vs 2 (Wa A2_Int.enc x10)), (11, .vs 2 (Wa A2_Int.enc x12)), (21, .vs 1 (Wa (encS 2 T_Span.enc) [x1.2.1, p1])), (22, .int .i64 (([x1.2.1, p1]).length : Int)), (23, .int .i64 s3), (51, .bool o14)] low [⟨31, 4, [.agg [.vs 2 (Wa T_Place.enc x1.1.Mine.Places), .vs 10 (Wa T_Road.enc x1.1.Mine.Roads), .vs 4 (Wa T_Fan.enc x1.1.Fans), .vs 3 (Wa T_Door.enc x1.1.Doors)]], 0⟩])) o14) ?_ ?_
    ·replace hF := ho14
     rcases Wg (decide (((x10).length : Int) ≠ ((x12).length : Int))) with c15 | c15
     ·have hF := Yi c15 hF
      refine Zm [[], [0], [], [2], [0, 1, 2, 3], [0, 1, 2, 3, 4], [0, 1, 2, 3, 4, 5], [0, 1, 2, 3, 4, 5, 6], [0, 1, 2, 3, 4, 5], [0, 1, 2, 3, 4, 5, 6, 7, 8], [0, 1, 2, 3, 4, 5], [0, 1, 2, 3, 4, 5, 10], [0, 1, 2, 3, 4, 5], [0, 1, 2, 3, 4, 5, 6, 7, 8, 9, 10, 11, 12], [0, 1, 2, 3, 4, 5, 6, 7, 8, 9, 10, 11, 12, 13], [0, 1, 2, 3, 4, 5, 6, 7, 8, 9, 10, 11, 12, 13, 14], [0, 1, 2, 3, 4, 5, 6, 7, 8, 9, 10, 11, 12, 13, 14, 15]] mixed (by kernel_rfl) rfl ?_
      refine Xu rfl rfl (Yc rfl) ?_
      refine Xu rfl rfl (Xm (Xy rfl rfl te_36) (congrArg (fun n : Nat => Wb .i64 (n : Int)) (Wh _))) ?_
      refine Xu rfl rfl (Yc rfl) ?_
      refine Xu rfl rfl (Xm (Xy rfl rfl te_36) (congrArg (fun n : Nat => Wb .i64 (n : Int)) (Wh _))) ?_
      refine Xu rfl rfl (rd_neq rfl rfl) ?_
      refine Xu rfl rfl (Vn rfl) ?_
      refine Yo rfl rfl rfl (Zq c15) ?_
      refine Yo rfl rfl rfl (Zq c15) ?_
      refine Yo rfl rfl rfl (Zq c15) ?_
      refine Yo rfl rfl rfl (Zq c15) ?_
      refine Yo rfl rfl rfl (Zq c15) ?_
      refine Yo rfl rfl rfl (Zq c15) ?_
      refine Yo rfl rfl rfl (Zq c15) ?_
      refine Yo rfl rfl rfl (Zq c15) ?_
      refine Yo rfl rfl rfl (Zq c15) ?_
      refine Yo rfl rfl rfl (Zq c15) ?_
      refine Xu rfl rfl (Vw (congrArg Wc c15) rfl) ?_
      refine Yq ?_
      obtain rfl := Wd hF
      refine Vz ?_
      exact Vl ⟨rfl, rfl, rfl, rfl, rfl, rfl, rfl, trivial⟩
     ·have hF := Yj c15 hF
      obtain ⟨x16, h17, hF⟩ := Ya hF
      obtain ⟨x18, h19, hF⟩ := Ya hF
      obtain ⟨x20, h21, hF⟩ := Ya hF
      refine Zm [[], [0], [], [2], [0, 1, 2, 3], [0, 1, 2, 3, 4], [0, 1, 2, 3, 4, 5], [0, 1, 2, 3, 4, 5, 6], [0, 1, 2, 3, 4, 5], [0, 1, 2, 3, 4, 5, 6, 7, 8], [0, 1, 2, 3, 4, 5], [0, 1, 2, 3, 4, 5, 10], [0, 1, 2, 3, 4, 5], [0, 1, 2, 3, 4, 5, 6, 7, 8, 9, 10, 11, 12], [0, 1, 2, 3, 4, 5, 6, 7, 8, 9, 10, 11, 12, 13], [0, 1, 2, 3, 4, 5, 6, 7, 8, 9, 10, 11, 12, 13, 14], [0, 1, 2, 3, 4, 5, 6, 7, 8, 9, 10, 11, 12, 13, 14, 15]] mixed (by kernel_rfl) rfl ?_
      refine Xu rfl rfl (Yc rfl) ?_
      refine Xu rfl rfl (Xm (Xy rfl rfl te_36) (congrArg (fun n : Nat => Wb .i64 (n : Int)) (Wh _))) ?_
      refine Xu rfl rfl (Yc rfl) ?_
      refine Xu rfl rfl (Xm (Xy rfl rfl te_36) (congrArg (fun n : Nat => Wb .i64 (n : Int)) (Wh _))) ?_
      refine Xu rfl rfl (rd_neq rfl rfl) ?_
      refine Xu rfl rfl (Vn rfl) ?_
      refine dt1 rfl rfl rfl rfl c15 (Vb rfl tf_31_0 ts_27 (by decide)) ?_
      refine dt1 rfl rfl rfl rfl c15 (Vy (ds := [.vs 2 (Wa T_Place.enc x1.1.Mine.Places), .vs 10 (Wa T_Road.enc x1.1.Mine.Roads)]) rfl (Vg rfl rfl) rfl ta_27 ts_27 rfl rfl rfl) ?_
      refine dt1 rfl rfl rfl rfl c15 (Yc rfl) ?_
      refine dops_takeW _ rfl rfl rfl (congrArg Wc c15) (Vv (Zz (Xg rfl Try.call12 (F_recirculate_Circles_ok h17 _))) Yy) ?_
      refine dt1 rfl rfl rfl rfl c15 (Vb rfl tf_31_0 ts_27 (by decide)) ?_
      refine dt1 rfl rfl rfl rfl c15 (Vy (ds := [.vs 2 (Wa T_Place.enc x1.1.Mine.Places), .vs 10 (Wa T_Road.enc x1.1.Mine.Roads)]) rfl (Vg rfl rfl) rfl ta_27 ts_27 rfl rfl rfl) ?_
      refine dt1 rfl rfl rfl rfl c15 (Yc rfl) ?_
      refine dops_takeW _ rfl rfl rfl (congrArg Wc c15) (Vv (Zz (Xg rfl Try.call13 (F_ref14_Circles_ok h19 _))) Yy) ?_
      refine dops_takeW _ rfl rfl rfl (congrArg Wc c15) (Vv (Zz (Xg rfl Try.call11 (F_ref01_Ints_ok h21 _))) Yy) ?_
      refine dt1 rfl rfl rfl rfl c15 (rd_not rfl) ?_
      refine Xu rfl rfl (Vx (congrArg Wc c15) rfl) ?_
      refine Yq ?_
      obtain rfl := Wd hF
      refine Vz ?_
      exact Vl ⟨rfl, rfl, rfl, rfl, rfl, rfl, rfl, trivial⟩
    ·rintro _ _ _ _ ⟨rfl, hw⟩
     refine ⟨_, _, _, hw, ?_⟩
     refine Xd rfl (fun c22 => ?_) (fun c22 => ?_)
     ·have hF := Yi c22 hF
      refine Vf ?_
      refine Vd ?_
      refine Va (Zc rfl) rfl ?_
      refine Ve ?_
      refine Xt ?_
      obtain rfl := Wd hF
      refine Vz ?_
      exact Vm rfl [] (by decide) ⟨Vj rfl (.bool _), trivial⟩ trivial
     ·have hF := Yj c22 hF
      refine Xe ?_
      refine Vf ?_
      refine Vd ?_
      refine Va (Yc rfl) rfl ?_
      refine Va (Xm (Xy rfl rfl te_36) (congrArg (fun n : Nat => Wb .i64 (n : Int)) (Wh _))) rfl ?_
      refine Va (Vk rfl) rfl ?_
      refine Ve ?_
      refine Xa ?_
      obtain ⟨o24, ho24, hF⟩ := Ya hF
      refine Vo (Yk (F_law14_RecirculateWays_L2 x10 x12) (fun s23 E' lw lc => Xr E' lw lc [(5, .ptr (low.length + 0) 0 0 0), (10, .vs 2 (Wa A2_Int.enc x10)), (11, .vs 2 (Wa A2_Int.enc x12)), (21, .vs 1 (Wa (encS 2 T_Span.enc) [x1.2.1, p1])), (22, .int .i64 (([x1.2.1, p1]).length : Int)), (23, .int .i64 s3), (53, .int .i64 ((x10).length : Int)), (54, .int .i64 s23)] low [⟨31, 4, [.agg [.vs 2 (Wa T_Place.enc x1.1.Mine.Places), .vs 10 (Wa T_Road.enc x1.1.Mine.Roads), .vs 4 (Wa T_Fan.enc x1.1.Fans), .vs 3 (Wa T_Door.enc x1.1.Doors)]], 0⟩]) (Sum.elim (fun j25 => OnlyE .ret (fun E' lw lc => Xr E' lw lc [(4, .bool false)] low [])) (fun j26 => OnlyE (.exit 2) (fun E' lw lc => Xr E' lw lc [(5, .ptr (low.length + 0) 0 0 0), (21, .vs 1 (Wa (encS 2 T_Span.enc) [x1.2.1, p1])), (22, .int .i64 (([x1.2.1, p1]).length : Int)), (23, .int .i64 s3)] low [⟨31, 4, [.agg [.vs 2 (Wa T_Place.enc x1.1.Mine.Places), .vs 10 (Wa T_Road.enc x1.1.Mine.Roads), .vs 4 (Wa T_Fan.enc x1.1.Fans), .vs 3 (Wa T_Door.enc x1.1.Doors)]], 0⟩]))) ho24 ?_ (by rintro (_|_) _ _ _ ⟨h, _⟩ <;> cases h) ?_) ?_
      ·exact Vl ⟨rfl, rfl, rfl, rfl, rfl, rfl, rfl, rfl, trivial⟩
      ·rintro s23 os23 _ _ _ hF hw
       unfold F_law14_RecirculateWays_L2 at hF
       refine Yd hw ?_
       refine Vf ?_
       refine Vd ?_
       refine Va (Yh rfl rfl) rfl ?_
       refine Ve ?_
       refine Vf ?_
       refine Xd rfl (fun c27 => ?_) (fun c27 => ?_)
       ·have hF := Yi c27 hF
        refine Xe ?_
        refine Vf ?_
        refine Xa ?_
        refine Vf ?_
        refine Vd ?_
        refine Va (Vk rfl) rfl ?_
        refine Va (Xi rfl) rfl ?_
        refine Ve ?_
        refine Vf ?_
        obtain ⟨x28, h29, hF⟩ := Ya hF
        obtain ⟨x30, h31, hF⟩ := Ya hF
        refine Zm [[], [], [0, 1], [0, 1, 2], [], [], [4, 5], [4, 5, 6], [0, 1, 2, 3, 4, 5, 6, 7]] mixed (by kernel_rfl) rfl ?_
        refine Xu rfl rfl (Yc rfl) ?_
        refine Xu rfl rfl (Vk rfl) ?_
        refine Xu rfl rfl (Xm (Xz rfl rfl h29 te_36 ts_40) (v' := .vptr [.int .i64 x28.a0, .int .i64 x28.a1] 0) rfl) ?_
        refine Xu rfl rfl (Zi (ds := [.int .i64 x28.a0, .int .i64 x28.a1]) rfl ta_40 ts_40 rfl rfl) ?_
        refine Xu rfl rfl (Yc rfl) ?_
        refine Xu rfl rfl (Vk rfl) ?_
        refine Xu rfl rfl (Xm (Xz rfl rfl h31 te_36 ts_40) (v' := .vptr [.int .i64 x30.a0, .int .i64 x30.a1] 0) rfl) ?_
        refine Xu rfl rfl (Zi (ds := [.int .i64 x30.a0, .int .i64 x30.a1]) rfl ta_40 ts_40 rfl rfl) ?_
        refine Xu rfl rfl (rd_neqV (tab := eqTab) eqTab_ok rfl rfl eqg_40 rfl) ?_
        refine Yq ?_
        refine Xd rfl (fun c32 => ?_) (fun c32 => ?_)
        ·have hF := Yi c32 hF
         refine Vf ?_
         refine Vd ?_
         refine Va (Zc rfl) rfl ?_
         refine Ve ?_
         refine Xt ?_
         obtain rfl := Wd hF
         refine Vz ?_
         exact Vm rfl [] (by decide) ⟨Vj rfl (.bool _), trivial⟩ trivial
        ·have hF := Yj c32 hF
         refine Xe ?_
         refine Vd ?_
         refine Va (Za rfl rfl rfl) rfl ?_
         refine Va (Vk rfl) rfl ?_
         refine Ve ?_
         obtain rfl := Wd hF
         refine Vz ?_
         exact Vl ⟨rfl, rfl, rfl, rfl, rfl, rfl, rfl, rfl, trivial⟩
       ·have hF := Yj c27 hF
        refine Yr ?_
        obtain rfl := Wd hF
        refine Vz ?_
        exact Vl ⟨rfl, rfl, rfl, rfl, trivial⟩
      ·rcases o24 with j25 | j26
       ·replace hF := elimL hF
        rintro _ _ _ _ ⟨rfl, hw⟩
        refine ⟨_, _, _, hw, ?_⟩
        obtain rfl := Wd hF
        refine Vz ?_
        exact Vl ⟨rfl, trivial⟩
       ·replace hF := elimR hF
        rintro _ _ _ _ ⟨rfl, hw⟩
        refine ⟨_, _, _, hw, ?_⟩
        refine Vd ?_
        refine Va (Za rfl rfl rfl) rfl ?_
        refine Va (Vk rfl) rfl ?_
        refine Ve ?_
        obtain rfl := Wd hF
        refine Vz ?_
        exact Vl ⟨rfl, rfl, rfl, rfl, trivial⟩
   ·have hF := Yj c7 hF
    refine Yr ?_
    obtain rfl := Wd hF
    refine Vz ?_
    exact Vm rfl [] (by decide) trivial trivial
  ·rcases o4 with j5 | j6
   ·replace hF := elimL hF
    rintro _ _ _ _ ⟨rfl, hw⟩
    refine ⟨_, _, _, hw, ?_⟩
    obtain rfl := Wd hF
    refine fnR ?_
    exact Vl ⟨rfl, trivial⟩
   ·replace hF := elimR hF
    rintro _ _ _ _ ⟨rfl, hw⟩
    refine ⟨_, _, _, hw, ?_⟩
    refine Vf ?_
    refine Vd ?_
    obtain ⟨x33, h34, hF⟩ := Ya hF
    refine Vi (Xg rfl Try.call14 (F_law14_awake_ok h34 _)) rfl ?_
    refine Va (Zc rfl) rfl ?_
    refine Ve ?_
    refine Xt ?_
    obtain rfl := Wd hF
    refine fnR ?_
    exact Vl ⟨rfl, trivial⟩
 ·rintro _ _ _ _ ⟨he, hw⟩
  refine ⟨_, _, _, hw, ?_⟩
  exact Yu he [.bool r] ⟨rfl, trivial⟩ (.bool _) ⟨rfl, rfl⟩

end Go.Proofs.Ytaedmgkcmbhicaa
