/- Printed by wip/lift/lift.py: the walks that show that the program computes them. -/
import Derived.Test.YtmomjhbinkmefaaR39T
import Derived.Test.YtmomjhbinkmefaaAmlDD
import Derived.Test.YtmomjhbinkmefaaL39D
namespace Go.Proofs.Ytmomjhbinkmefaa
open Go Go.Aml Go.L
attribute [local irreducible] VRd VEf VOp VOps VWp DOps
set_option linter.unusedVariables false
open Go.Aml renaming vops_rd → Va, vops_skip → Vb, rd_fieldAddr → Vc, getO_N → Vd, vwp_region → Ve, rd_load1 → Vf, vops_nil → Vg, ltObj_map → Vh, vwp_seq → Vi, rd_mvI → Vj, vops_efE → Vk, cv_same → Vl, rd_mvB → Vm, dops_skip → Vn, rd_pickF → Vo, rd_pickT → Vp, weak_sub → Vq, lenS → Vr, rn_low → Vs, vef_into → Vt, rd_loadN → Vu, weak_pick → Vv, vwp_monoW → Vw, vef_store → Vx, full_take → Vy, vt1 → Vz, rd_asI → Xa, vwp_ret → Xb, vcalls_of_body → Xc, rd_mvV → Xd, vef_allocN → Xe, vef_callN → Xf, rd_loadV1 → Xg, VRd → Xh, rd_to → Xi, vwp_cond → Xj, vef_callP → Xk, len_setL → Xl, rd_eql → Xm, len_app → Xn, rd_lenV → Xo, weak_freezeN → Xp, vwp_skip → Xq, setO_N → Xr, rx1 → Xs, ltObj_es → Xt, rn_sl → Xu, onlyE → Xv, dopx_rd → Xw, lt_agg → Xx, rd_asB → Xy, rd_extract → Xz, Weak → Ya, rd_fieldVaddr → Yb, nt_ne → Yc, dops_skipX → Yd, vwp_weak → Ye, mv_sl → Yf, all1 → Yg, lt_map → Yh, vef_mkN → Yi, rd_ixV → Yj, vwp_block → Yk, bifT → Yl, bifF → Ym, dr1 → Yn, rn_ptr → Yo, allx1 → Yp, cvo_agg → Yq, ne_low' → Yr, bnd → Ys, ne_own → Yt, weak_room → Yu, VCalls → Yv, vef_boxN → Yw, sets_own → Yx, dops_rdW → Yy, dops_nil → Yz, getO_B → Za, rd_neq → Zb, getI_some → Zc, dopx_ef → Zd, bodyQ_pure → Ze, vwp_drawn0 → Zf, view_same → Zg, neT → Zh, cv_sl → Zi, bodyQ_some → Zj, dt1 → Zk, view_sl → Zl, neF → Zm, rd_not → Zn, rd_lss → Zo, dops_ef → Zp, na1 → Zq, lt_kk → Zr, ex1 → Zs, all0 → Zt, vwp_loopC → Zu, rd_ixS → Zv, get_N → Zw, borC → Zx, fnR → Zy, vcalls_low → Zz, mv_ptr → Wa, vwp_drawn → Wb, vef_callS → Wc, rd_build → Wd, vwp_exit → We, dops_takeW → Wf, rd_nilPtr → Wg, sets_B → Wh, lp_some → Wi, lp_bindE → Wj, bor_start → Wk, sets_nil → Wl
set_option maxHeartbeats 4000000

theorem mixed : Try.prog.follows .mixedOrders = true := by kernel_rfl


theorem F_lists_In_ok {p0 : Int} {p1 : Int} {p2 : Int} {r : Bool} (hF : F_lists_In p0 p1 p2 = some r) (low : List AObj) :
    Yv Try.prog 33 [.int .i64 p0, .int .i64 p1, .int .i64 p2] low fun x low' => x = .bool r ∧ low' = low := by
 refine Xc (nt := 15) (rs := [.tmp 6]) Try.func33 rfl rfl (Nat.le_of_ble_eq_true rfl) rfl ?_
 refine Vw (Q' := FnE (fun E' lw lc => Ya E' lw lc [(6, .bool r)] low [])) ?_ ?_
 ·unfold F_lists_In at hF
  refine Vi ?_
  refine Ve ?_
  refine Va (Xy rfl) rfl ?_
  refine Vg ?_
  refine Vi ?_
  refine Ve ?_
  rcases Bool.eq_false_or_eq_true (decide (p1 ≤ p0)) with c1 | c1
  ·have hF := Yl c1 hF
   refine Va (Vj rfl) rfl ?_
   refine Va (Vj rfl) rfl ?_
   refine Va (rd_geq rfl rfl) rfl ?_
   refine Va (Vm rfl) rfl ?_
   refine Vz rfl rfl c1 ?_
   refine Va (Vj rfl) rfl ?_
   refine Vz rfl rfl c1 ?_
   refine Va (Vj rfl) rfl ?_
   refine Vz rfl rfl c1 ?_
   refine Va (rd_leq rfl rfl) rfl ?_
   refine Va (Vp (congrArg PV.bool c1) rfl) rfl ?_
   refine Va (Xy rfl) rfl ?_
   refine Vg ?_
   refine Xb ?_
   obtain rfl := Option.some.inj hF
   refine Zy ?_
   exact Vq ⟨rfl, trivial⟩
  ·have hF := Ym c1 hF
   refine Va (Vj rfl) rfl ?_
   refine Va (Vj rfl) rfl ?_
   refine Va (rd_geq rfl rfl) rfl ?_
   refine Va (Vm rfl) rfl ?_
   refine Vb rfl rfl (Zm c1) rfl ?_
   refine Vb rfl rfl (Zm c1) rfl ?_
   refine Vb rfl rfl (Zm c1) rfl ?_
   refine Va (Vo (congrArg PV.bool c1) rfl) rfl ?_
   refine Va (Xy rfl) rfl ?_
   refine Vg ?_
   refine Xb ?_
   obtain rfl := Option.some.inj hF
   refine Zy ?_
   exact Vq ⟨rfl, trivial⟩
 ·rintro _ _ _ _ ⟨he, hw⟩
  refine ⟨_, _, _, hw, ?_⟩
  exact Ze he [.bool r] ⟨rfl, trivial⟩ (.bool _) ⟨rfl, rfl⟩

theorem F_belts_sound_ok {p0 : List T_Belt} {r : Bool} (hF : F_belts_sound p0 = some r) (low : List AObj) :
    Yv Try.prog 29 [.vs 2 (List.map T_Belt.enc p0)] low fun x low' => x = .bool r ∧ low' = low := by
 refine Xc (nt := 59) (rs := [.tmp 2]) Try.func29 rfl rfl (Nat.le_of_ble_eq_true rfl) rfl ?_
 refine Vw (Q' := FnE (fun E' lw lc => Ya E' lw lc [(2, .bool r)] low [])) ?_ ?_
 ·unfold F_belts_sound at hF
  refine Vi ?_
  refine Ve ?_
  refine Va (Xy rfl) rfl ?_
  refine Vg ?_
  refine Vi ?_
  refine Vi ?_
  refine Ve ?_
  obtain ⟨x1, h2, hF⟩ := Ys hF
  refine Va (Xd rfl) rfl ?_
  refine Va (Xi (Xo rfl rfl te_27) (congrArg (fun n : Nat => PV.int .i64 (n : Int)) (List.length_map _))) rfl ?_
  refine Vk (Xk rfl Try.call33 (F_lists_In_ok h2 _)) rfl ?_
  refine Va (Zn rfl) rfl ?_
  refine Vg ?_
  refine Xj rfl (fun c3 => ?_) (fun c3 => ?_)
  ·have hF := Yl c3 hF
   refine Vi ?_
   refine Ve ?_
   refine Va (Xy rfl) rfl ?_
   refine Vg ?_
   refine Xb ?_
   obtain rfl := Option.some.inj hF
   refine Zy ?_
   exact Vq ⟨rfl, trivial⟩
  ·have hF := Ym c3 hF
   refine Xq ?_
   refine Vi ?_
   refine Vi ?_
   refine Ve ?_
   refine Va (Xd rfl) rfl ?_
   refine Va (Xi (Xo rfl rfl te_27) (congrArg (fun n : Nat => PV.int .i64 (n : Int)) (List.length_map _))) rfl ?_
   refine Va (Vj rfl) rfl ?_
   refine Vg ?_
   refine Yk ?_
   obtain ⟨o5, ho5, hF⟩ := Ys hF
   refine Vw (Zu (F_belts_sound_L1 p0) (fun s4 E' lw lc => Ya E' lw lc [(0, .vs 2 (List.map T_Belt.enc p0)), (12, .vs 2 (List.map T_Belt.enc p0)), (13, .int .i64 ((p0).length : Int)), (14, .int .i64 s4)] low []) (Sum.elim (fun j6 => OnlyE .ret (fun E' lw lc => Ya E' lw lc [(2, .bool false)] low [])) (fun j7 => OnlyE (.exit 0) (fun E' lw lc => Ya E' lw lc [(0, .vs 2 (List.map T_Belt.enc p0))] low []))) ho5 ?_ (by rintro (_|_) _ _ _ ⟨h, _⟩ <;> cases h) ?_) ?_
   ·exact Vq ⟨rfl, rfl, rfl, rfl, trivial⟩
   ·rintro s4 os4 _ _ _ hF hw
    unfold F_belts_sound_L1 at hF
    refine Ye hw ?_
    refine Vi ?_
    refine Ve ?_
    refine Va (Zo rfl rfl) rfl ?_
    refine Vg ?_
    refine Vi ?_
    refine Xj rfl (fun c8 => ?_) (fun c8 => ?_)
    ·have hF := Yl c8 hF
     refine Xq ?_
     refine Vi ?_
     refine Yk ?_
     refine Vi ?_
     refine Ve ?_
     obtain ⟨x9, h10, hF⟩ := Ys hF
     refine Va (Vj rfl) rfl ?_
     refine Va (Xi (Yj rfl rfl h10 te_27 ts_31) (v' := .vptr [.int .i64 x9.Onto, .int .i64 x9.Warn] 0) rfl) rfl ?_
     refine Va (rd_loadVN (ds := [.int .i64 x9.Onto, .int .i64 x9.Warn]) rfl ta_31 ts_31 rfl rfl) rfl ?_
     refine Vk (Xe rfl rfl tz_31 rfl rfl (Nat.succ_pos _) rfl) rfl ?_
     refine Va (Xa rfl) rfl ?_
     refine Vk (Vx (p := .agg [.int .i64 x9.Onto, .int .i64 x9.Warn]) (e' := .agg [.int .i64 x9.Onto, .int .i64 x9.Warn]) rfl (Vd rfl rfl) rfl rfl ts_31 rfl (Yc rfl) rfl (Nat.le_of_ble_eq_true rfl) rfl (Xr rfl rfl)) rfl ?_
     refine Vg ?_
     refine Vi ?_
     obtain ⟨o11, ho11, hF⟩ := Ys hF
     refine Vw (Q' := (fun o11 => OnlyE .normal (fun E' lw lc => Ya E' lw lc [(0, .vs 2 (List.map T_Belt.enc p0)), (12, .vs 2 (List.map T_Belt.enc p0)), (13, .int .i64 ((p0).length : Int)), (14, .int .i64 s4), (37, .bool o11)] low [])) o11) ?_ ?_
     ·replace hF := ho11
      refine Ve ?_
      obtain ⟨x12, h13, hF⟩ := Ys hF
      rcases Bool.eq_false_or_eq_true (!x12) with c14 | c14
      ·have hF := Yl c14 hF
       refine Va (Vc rfl tf_31_0 ts_3 (by decide)) rfl ?_
       refine Va (Vf rfl (Vd rfl rfl) rfl ta_3 rfl) rfl ?_
       refine Va (Xd rfl) rfl ?_
       refine Va (Xi (Xo rfl rfl te_27) (congrArg (fun n : Nat => PV.int .i64 (n : Int)) (List.length_map _))) rfl ?_
       refine Va (rd_sub rfl rfl rfl) rfl ?_
       refine Vk (Xk rfl Try.call33 (F_lists_In_ok h13 _)) rfl ?_
       refine Va (Zn rfl) rfl ?_
       refine Va (Vm rfl) rfl ?_
       refine Vb rfl rfl (Zh c14) rfl ?_
       refine Vb rfl rfl (Zh c14) rfl ?_
       refine Vb rfl rfl (Zh c14) rfl ?_
       refine Vb rfl rfl (Zh c14) rfl ?_
       refine Va (Vp (congrArg PV.bool c14) rfl) rfl ?_
       refine Va (Vm rfl) rfl ?_
       refine Vb rfl rfl (by decide) rfl ?_
       refine Vb rfl rfl (by decide) rfl ?_
       refine Vb rfl rfl (by decide) rfl ?_
       refine Vb rfl rfl (by decide) rfl ?_
       refine Va (Vp rfl rfl) rfl ?_
       refine Vg ?_
       obtain rfl := Option.some.inj hF
       refine Xv ?_
       exact Vv rfl [] (by decide) ⟨Vs rfl (.vs _ _), Vs rfl (.vs _ _), Vs rfl (.int _ _), Vs rfl (.int _ _), Vs rfl (.bool _), trivial⟩ trivial
      ·have hF := Ym c14 hF
       obtain ⟨x15, h16, hF⟩ := Ys hF
       rcases Bool.eq_false_or_eq_true (!x15) with c17 | c17
       ·have hF := Yl c17 hF
        refine Va (Vc rfl tf_31_0 ts_3 (by decide)) rfl ?_
        refine Va (Vf rfl (Vd rfl rfl) rfl ta_3 rfl) rfl ?_
        refine Va (Xd rfl) rfl ?_
        refine Va (Xi (Xo rfl rfl te_27) (congrArg (fun n : Nat => PV.int .i64 (n : Int)) (List.length_map _))) rfl ?_
        refine Va (rd_sub rfl rfl rfl) rfl ?_
        refine Vk (Xk rfl Try.call33 (F_lists_In_ok h13 _)) rfl ?_
        refine Va (Zn rfl) rfl ?_
        refine Va (Vm rfl) rfl ?_
        refine Vz rfl rfl c14 ?_
        refine Va (Vc rfl tf_31_1 ts_3 (by decide)) rfl ?_
        refine Vz rfl rfl c14 ?_
        refine Va (Vf rfl (Vd rfl rfl) rfl ta_3 rfl) rfl ?_
        refine Vz rfl rfl c14 ?_
        refine Vk (Xk rfl Try.call33 (F_lists_In_ok h16 _)) rfl ?_
        refine Vz rfl rfl c14 ?_
        refine Va (Zn rfl) rfl ?_
        refine Va (Vo (congrArg PV.bool c14) rfl) rfl ?_
        refine Va (Vm rfl) rfl ?_
        refine Vb rfl rfl (Zh c17) rfl ?_
        refine Vb rfl rfl (Zh c17) rfl ?_
        refine Vb rfl rfl (Zh c17) rfl ?_
        refine Vb rfl rfl (Zh c17) rfl ?_
        refine Va (Vp (congrArg PV.bool c17) rfl) rfl ?_
        refine Vg ?_
        obtain rfl := Option.some.inj hF
        refine Xv ?_
        exact Vv rfl [] (by decide) ⟨Vs rfl (.vs _ _), Vs rfl (.vs _ _), Vs rfl (.int _ _), Vs rfl (.int _ _), Vs rfl (.bool _), trivial⟩ trivial
       ·have hF := Ym c17 hF
        refine Va (Vc rfl tf_31_0 ts_3 (by decide)) rfl ?_
        refine Va (Vf rfl (Vd rfl rfl) rfl ta_3 rfl) rfl ?_
        refine Va (Xd rfl) rfl ?_
        refine Va (Xi (Xo rfl rfl te_27) (congrArg (fun n : Nat => PV.int .i64 (n : Int)) (List.length_map _))) rfl ?_
        refine Va (rd_sub rfl rfl rfl) rfl ?_
        refine Vk (Xk rfl Try.call33 (F_lists_In_ok h13 _)) rfl ?_
        refine Va (Zn rfl) rfl ?_
        refine Va (Vm rfl) rfl ?_
        refine Vz rfl rfl c14 ?_
        refine Va (Vc rfl tf_31_1 ts_3 (by decide)) rfl ?_
        refine Vz rfl rfl c14 ?_
        refine Va (Vf rfl (Vd rfl rfl) rfl ta_3 rfl) rfl ?_
        refine Vz rfl rfl c14 ?_
        refine Vk (Xk rfl Try.call33 (F_lists_In_ok h16 _)) rfl ?_
        refine Vz rfl rfl c14 ?_
        refine Va (Zn rfl) rfl ?_
        refine Va (Vo (congrArg PV.bool c14) rfl) rfl ?_
        refine Va (Vm rfl) rfl ?_
        refine Vz rfl rfl c17 ?_
        refine Va (Vc rfl tf_31_0 ts_3 (by decide)) rfl ?_
        refine Vz rfl rfl c17 ?_
        refine Va (Vf rfl (Vd rfl rfl) rfl ta_3 rfl) rfl ?_
        refine Vz rfl rfl c17 ?_
        refine Va (Vj rfl) rfl ?_
        refine Vz rfl rfl c17 ?_
        refine Va (Xm rfl rfl) rfl ?_
        refine Va (Vo (congrArg PV.bool c17) rfl) rfl ?_
        refine Vg ?_
        obtain rfl := Option.some.inj hF
        refine Xv ?_
        exact Vv rfl [] (by decide) ⟨Vs rfl (.vs _ _), Vs rfl (.vs _ _), Vs rfl (.int _ _), Vs rfl (.int _ _), Vs rfl (.bool _), trivial⟩ trivial
     ·rintro _ _ _ _ ⟨rfl, hw⟩
      refine ⟨_, _, _, hw, ?_⟩
      refine Xj rfl (fun c18 => ?_) (fun c18 => ?_)
      ·have hF := Yl c18 hF
       refine Vi ?_
       refine Ve ?_
       refine Va (Xy rfl) rfl ?_
       refine Vg ?_
       refine Xb ?_
       obtain rfl := Option.some.inj hF
       refine Xv ?_
       exact Vq ⟨rfl, trivial⟩
      ·have hF := Ym c18 hF
       refine Xq ?_
       refine Ve ?_
       refine Va (rd_add rfl rfl rfl) rfl ?_
       refine Va (Vj rfl) rfl ?_
       refine Vg ?_
       obtain rfl := Option.some.inj hF
       refine Xv ?_
       exact Vq ⟨rfl, rfl, rfl, rfl, trivial⟩
    ·have hF := Ym c8 hF
     refine We ?_
     obtain rfl := Option.some.inj hF
     refine Xv ?_
     exact Vq ⟨rfl, trivial⟩
   ·rcases o5 with j6 | j7
    ·replace hF := elimL hF
     rintro _ _ _ _ ⟨rfl, hw⟩
     refine ⟨_, _, _, hw, ?_⟩
     obtain rfl := Option.some.inj hF
     refine Zy ?_
     exact Vq ⟨rfl, trivial⟩
    ·replace hF := elimR hF
     rintro _ _ _ _ ⟨rfl, hw⟩
     refine ⟨_, _, _, hw, ?_⟩
     refine Vi ?_
     refine Vi ?_
     refine Ve ?_
     refine Va (Xd rfl) rfl ?_
     refine Va (Xi (Xo rfl rfl te_27) (congrArg (fun n : Nat => PV.int .i64 (n : Int)) (List.length_map _))) rfl ?_
     refine Va (Vj rfl) rfl ?_
     refine Vg ?_
     refine Yk ?_
     obtain ⟨o20, ho20, hF⟩ := Ys hF
     refine Vw (Zu (F_belts_sound_L2 p0) (fun s19 E' lw lc => Ya E' lw lc [(0, .vs 2 (List.map T_Belt.enc p0)), (40, .int .i64 ((p0).length : Int)), (41, .int .i64 s19)] low []) (Sum.elim (fun j21 => OnlyE .ret (fun E' lw lc => Ya E' lw lc [(2, .bool false)] low [])) (fun j22 => OnlyE (.exit 2) (fun E' lw lc => Ya E' lw lc [] low []))) ho20 ?_ (by rintro (_|_) _ _ _ ⟨h, _⟩ <;> cases h) ?_) ?_
     ·exact Vq ⟨rfl, rfl, rfl, trivial⟩
     ·rintro s19 os19 _ _ _ hF hw
      unfold F_belts_sound_L2 at hF
      refine Ye hw ?_
      refine Vi ?_
      refine Ve ?_
      refine Va (Zo rfl rfl) rfl ?_
      refine Vg ?_
      refine Vi ?_
      refine Xj rfl (fun c23 => ?_) (fun c23 => ?_)
      ·have hF := Yl c23 hF
       refine Xq ?_
       refine Vi ?_
       refine Yk ?_
       refine Vi ?_
       refine Ve ?_
       refine Va (Vj rfl) rfl ?_
       refine Va (Xa rfl) rfl ?_
       refine Vg ?_
       refine Vi ?_
       refine Ve ?_
       refine Va (Xa rfl) rfl ?_
       refine Vg ?_
       refine Vi ?_
       refine Ve ?_
       refine Va (Vj rfl) rfl ?_
       refine Va (Xa rfl) rfl ?_
       refine Vg ?_
       refine Yk ?_
       obtain ⟨o25, ho25, hF⟩ := Ys hF
       refine Vw (Zu (F_belts_sound_L3 p0) (fun s24 E' lw lc => Ya E' lw lc [(0, .vs 2 (List.map T_Belt.enc p0)), (6, .int .i64 s24.1), (7, .int .i64 s24.2), (40, .int .i64 ((p0).length : Int)), (41, .int .i64 s19)] low []) (Sum.elim (fun j26 => OnlyE .ret (fun E' lw lc => Ya E' lw lc [(2, .bool false)] low [])) (fun j27 => OnlyE (.exit 4) (fun E' lw lc => Ya E' lw lc [(0, .vs 2 (List.map T_Belt.enc p0)), (40, .int .i64 ((p0).length : Int)), (41, .int .i64 s19)] low []))) ho25 ?_ (by rintro (_|_) _ _ _ ⟨h, _⟩ <;> cases h) ?_) ?_
       ·exact Vq ⟨rfl, rfl, rfl, rfl, rfl, trivial⟩
       ·rintro s24 os24 _ _ _ hF hw
        unfold F_belts_sound_L3 at hF
        refine Ye hw ?_
        refine Vi ?_
        refine Vi ?_
        refine Ve ?_
        refine Va (Vj rfl) rfl ?_
        refine Va (rd_geq rfl rfl) rfl ?_
        refine Vg ?_
        refine Xj rfl (fun c28 => ?_) (fun c28 => ?_)
        ·have hF := Yl c28 hF
         refine Xq ?_
         refine Vi ?_
         refine Yk ?_
         refine Vi ?_
         refine Ve ?_
         refine Va (Vj rfl) rfl ?_
         refine Va (rd_add rfl rfl rfl) rfl ?_
         refine Va (Xa rfl) rfl ?_
         refine Vg ?_
         refine Vi ?_
         refine Ve ?_
         refine Va (Vj rfl) rfl ?_
         refine Va (Xd rfl) rfl ?_
         refine Va (Xi (Xo rfl rfl te_27) (congrArg (fun n : Nat => PV.int .i64 (n : Int)) (List.length_map _))) rfl ?_
         refine Va (rd_gtr rfl rfl) rfl ?_
         refine Vg ?_
         refine Xj rfl (fun c29 => ?_) (fun c29 => ?_)
         ·have hF := Yl c29 hF
          refine Vi ?_
          refine Ve ?_
          refine Va (Xy rfl) rfl ?_
          refine Vg ?_
          refine Xb ?_
          obtain rfl := Option.some.inj hF
          refine Xv ?_
          exact Vq ⟨rfl, trivial⟩
         ·have hF := Ym c29 hF
          refine Xq ?_
          refine Ve ?_
          obtain ⟨x30, h31, hF⟩ := Ys hF
          refine Va (Xd rfl) rfl ?_
          refine Va (Vj rfl) rfl ?_
          refine Va (Xi (Yj rfl rfl h31 te_27 ts_31) (v' := .vptr [.int .i64 x30.Onto, .int .i64 x30.Warn] 0) rfl) rfl ?_
          refine Va (Yb rfl tf_31_0 ts_3 (by decide)) rfl ?_
          refine Va (Xg rfl ta_3 rfl) rfl ?_
          refine Va (Xa rfl) rfl ?_
          refine Vg ?_
          obtain rfl := Option.some.inj hF
          refine Xv ?_
          exact Vq ⟨rfl, rfl, rfl, rfl, rfl, trivial⟩
        ·have hF := Ym c28 hF
         refine We ?_
         obtain rfl := Option.some.inj hF
         refine Xv ?_
         exact Vq ⟨rfl, rfl, rfl, trivial⟩
       ·rcases o25 with j26 | j27
        ·replace hF := elimL hF
         rintro _ _ _ _ ⟨rfl, hw⟩
         refine ⟨_, _, _, hw, ?_⟩
         obtain rfl := Option.some.inj hF
         refine Xv ?_
         exact Vq ⟨rfl, trivial⟩
        ·replace hF := elimR hF
         rintro _ _ _ _ ⟨rfl, hw⟩
         refine ⟨_, _, _, hw, ?_⟩
         refine Ve ?_
         refine Va (rd_add rfl rfl rfl) rfl ?_
         refine Va (Vj rfl) rfl ?_
         refine Vg ?_
         obtain rfl := Option.some.inj hF
         refine Xv ?_
         exact Vq ⟨rfl, rfl, rfl, trivial⟩
      ·have hF := Ym c23 hF
       refine We ?_
       obtain rfl := Option.some.inj hF
       refine Xv ?_
       exact Vq trivial
     ·rcases o20 with j21 | j22
      ·replace hF := elimL hF
       rintro _ _ _ _ ⟨rfl, hw⟩
       refine ⟨_, _, _, hw, ?_⟩
       obtain rfl := Option.some.inj hF
       refine Zy ?_
       exact Vq ⟨rfl, trivial⟩
      ·replace hF := elimR hF
       rintro _ _ _ _ ⟨rfl, hw⟩
       refine ⟨_, _, _, hw, ?_⟩
       refine Vi ?_
       refine Ve ?_
       refine Va (Xy rfl) rfl ?_
       refine Vg ?_
       refine Xb ?_
       obtain rfl := Option.some.inj hF
       refine Zy ?_
       exact Vq ⟨rfl, trivial⟩
 ·rintro _ _ _ _ ⟨he, hw⟩
  refine ⟨_, _, _, hw, ?_⟩
  exact Ze he [.bool r] ⟨rfl, trivial⟩ (.bool _) ⟨rfl, rfl⟩

theorem F_belts_Make_ok {p0 : List T_Belt} {r : T_Line × Int} (hF : F_belts_Make p0 = some r) (low : List AObj) :
    Yv Try.prog 12 [.vs 2 (List.map T_Belt.enc p0)] low fun x low' => x = .tup [.agg [.int .i64 r.1.Time, .vs 1 (List.map (PV.int .i64) r.1.States), .vs 1 (List.map (PV.int .i64) r.1.Since), .vs 1 (List.map PV.bool r.1.Pulled), .vs 1 (List.map PV.bool r.1.Held)], .int .i64 r.2] ∧ low' = low := by
 refine Xc (nt := 20) (rs := [.cell 2 34, .tmp 3]) Try.func12 rfl rfl (Nat.le_of_ble_eq_true rfl) rfl ?_
 refine Vw (Q' := FnE (fun E' lw lc => Ya E' lw lc [(2, .ptr (low.length + 0) 0 0 0), (3, .int .i64 r.2)] low [⟨34, 5, [.agg [.int .i64 r.1.Time, .vs 1 (List.map (PV.int .i64) r.1.States), .vs 1 (List.map (PV.int .i64) r.1.Since), .vs 1 (List.map PV.bool r.1.Pulled), .vs 1 (List.map PV.bool r.1.Held)]], 0⟩])) ?_ ?_
 ·unfold F_belts_Make at hF
  refine Vi ?_
  refine Ve ?_
  refine Vk (Xe rfl rfl tz_34 rfl rfl (Nat.succ_pos _) rfl) rfl ?_
  refine Va (Xa rfl) rfl ?_
  refine Vg ?_
  refine Vi ?_
  refine Vi ?_
  refine Ve ?_
  obtain ⟨x1, h2, hF⟩ := Ys hF
  refine Va (Xd rfl) rfl ?_
  refine Vk (Xk rfl Try.call29 (F_belts_sound_ok h2 _)) rfl ?_
  refine Va (Zn rfl) rfl ?_
  refine Vg ?_
  refine Xj rfl (fun c3 => ?_) (fun c3 => ?_)
  ·have hF := Yl c3 hF
   refine Vi ?_
   refine Ve ?_
   refine Va (rd_nc (Wd (vs := []) (ds := [.int .i64 0, .nils, .nils, .nils, .nils]) tz_34 rfl rfl tp_34 trivial (nt_all2 rfl) rfl) (nc_agg (cs := [.int .i64 0, .nils, .nils, .nils, .nils]) (ds := [.int .i64 0, .vs 1 (List.map (PV.int .i64) ([] : List Int)), .vs 1 (List.map (PV.int .i64) ([] : List Int)), .vs 1 (List.map PV.bool ([] : List Bool)), .vs 1 (List.map PV.bool ([] : List Bool))]) rfl rfl ⟨nc_eq rfl, nc_nil rfl rfl, nc_nil rfl rfl, nc_nil rfl rfl, nc_nil rfl rfl, trivial⟩)) rfl ?_
   refine Vk (Vx (p := .agg [.int .i64 0, .vs 1 (List.map (PV.int .i64) ([] : List Int)), .vs 1 (List.map (PV.int .i64) ([] : List Int)), .vs 1 (List.map PV.bool ([] : List Bool)), .vs 1 (List.map PV.bool ([] : List Bool))]) (e' := .agg [.int .i64 0, .vs 1 (List.map (PV.int .i64) ([] : List Int)), .vs 1 (List.map (PV.int .i64) ([] : List Int)), .vs 1 (List.map PV.bool ([] : List Bool)), .vs 1 (List.map PV.bool ([] : List Bool))]) rfl (Vd rfl rfl) rfl rfl ts_34 rfl (Yc rfl) rfl (Nat.le_of_ble_eq_true rfl) rfl (Xr rfl rfl)) rfl ?_
   refine Va (Xa rfl) rfl ?_
   refine Vg ?_
   refine Xb ?_
   obtain rfl := Option.some.inj hF
   refine Zy ?_
   exact Vq ⟨rfl, rfl, trivial⟩
  ·have hF := Ym c3 hF
   refine Xq ?_
   refine Vi ?_
   refine Ve ?_
   refine Va (Xd rfl) rfl ?_
   refine Va (Xi (Xo rfl rfl te_27) (congrArg (fun n : Nat => PV.int .i64 (n : Int)) (List.length_map _))) rfl ?_
   refine Va (Xa rfl) rfl ?_
   refine Vg ?_
   refine Vi ?_
   obtain ⟨x4, h5, hF⟩ := Ys hF
   obtain ⟨x6, h7, hF⟩ := Ys hF
   obtain ⟨x8, h9, hF⟩ := Ys hF
   obtain ⟨x10, h11, hF⟩ := Ys hF
   refine Ye (Yu 3 1 (Nat.succ_pos _)) ?_
   refine Ye (Yu 3 1 (Nat.succ_pos _)) ?_
   refine Ye (Yu 4 1 (Nat.succ_pos _)) ?_
   refine Ye (Yu 4 1 (Nat.succ_pos _)) ?_
   refine vwp_drawnX [[], [0], [], [2], [], [4], [], [6], [0, 1, 2, 3, 4, 5, 6, 7], [0, 1, 2, 3, 4, 5, 6, 7, 8], [0, 1, 2, 3, 4, 5, 6, 7, 8, 9]] [false, true, false, true, false, true, false, true, false, true, false] [([], low, [⟨34, 5, [.agg [.int .i64 0, .nils, .nils, .nils, .nils]], 0⟩, ⟨3, 1, [], 0⟩, ⟨3, 1, [], 0⟩, ⟨4, 1, [], 0⟩, ⟨4, 1, [], 0⟩]), ([1], low, [⟨34, 5, [.agg [.int .i64 0, .nils, .nils, .nils, .nils]], 0⟩, ⟨3, 1, List.map (PV.int .i64) x4, 1⟩, ⟨3, 1, [], 0⟩, ⟨4, 1, [], 0⟩, ⟨4, 1, [], 0⟩]), ([3], low, [⟨34, 5, [.agg [.int .i64 0, .nils, .nils, .nils, .nils]], 0⟩, ⟨3, 1, [], 0⟩, ⟨3, 1, List.map (PV.int .i64) x6, 1⟩, ⟨4, 1, [], 0⟩, ⟨4, 1, [], 0⟩]), ([5], low, [⟨34, 5, [.agg [.int .i64 0, .nils, .nils, .nils, .nils]], 0⟩, ⟨3, 1, [], 0⟩, ⟨3, 1, [], 0⟩, ⟨4, 1, List.map PV.bool x8, 1⟩, ⟨4, 1, [], 0⟩]), ([7], low, [⟨34, 5, [.agg [.int .i64 0, .nils, .nils, .nils, .nils]], 0⟩, ⟨3, 1, [], 0⟩, ⟨3, 1, [], 0⟩, ⟨4, 1, [], 0⟩, ⟨4, 1, List.map PV.bool x10, 1⟩]), ([1, 3], low, [⟨34, 5, [.agg [.int .i64 0, .nils, .nils, .nils, .nils]], 0⟩, ⟨3, 1, List.map (PV.int .i64) x4, 1⟩, ⟨3, 1, List.map (PV.int .i64) x6, 1⟩, ⟨4, 1, [], 0⟩, ⟨4, 1, [], 0⟩]), ([1, 5], low, [⟨34, 5, [.agg [.int .i64 0, .nils, .nils, .nils, .nils]], 0⟩, ⟨3, 1, List.map (PV.int .i64) x4, 1⟩, ⟨3, 1, [], 0⟩, ⟨4, 1, List.map PV.bool x8, 1⟩, ⟨4, 1, [], 0⟩]), ([1, 7], low, [⟨34, 5, [.agg [.int .i64 0, .nils, .nils, .nils, .nils]], 0⟩, ⟨3, 1, List.map (PV.int .i64) x4, 1⟩, ⟨3, 1, [], 0⟩, ⟨4, 1, [], 0⟩, ⟨4, 1, List.map PV.bool x10, 1⟩]), ([3, 5], low, [⟨34, 5, [.agg [.int .i64 0, .nils, .nils, .nils, .nils]], 0⟩, ⟨3, 1, [], 0⟩, ⟨3, 1, List.map (PV.int .i64) x6, 1⟩, ⟨4, 1, List.map PV.bool x8, 1⟩, ⟨4, 1, [], 0⟩]), ([3, 7], low, [⟨34, 5, [.agg [.int .i64 0, .nils, .nils, .nils, .nils]], 0⟩, ⟨3, 1, [], 0⟩, ⟨3, 1, List.map (PV.int .i64) x6, 1⟩, ⟨4, 1, [], 0⟩, ⟨4, 1, List.map PV.bool x10, 1⟩]), ([5, 7], low, [⟨34, 5, [.agg [.int .i64 0, .nils, .nils, .nils, .nils]], 0⟩, ⟨3, 1, [], 0⟩, ⟨3, 1, [], 0⟩, ⟨4, 1, List.map PV.bool x8, 1⟩, ⟨4, 1, List.map PV.bool x10, 1⟩]), ([1, 3, 5], low, [⟨34, 5, [.agg [.int .i64 0, .nils, .nils, .nils, .nils]], 0⟩, ⟨3, 1, List.map (PV.int .i64) x4, 1⟩, ⟨3, 1, List.map (PV.int .i64) x6, 1⟩, ⟨4, 1, List.map PV.bool x8, 1⟩, ⟨4, 1, [], 0⟩]), ([1, 3, 7], low, [⟨34, 5, [.agg [.int .i64 0, .nils, .nils, .nils, .nils]], 0⟩, ⟨3, 1, List.map (PV.int .i64) x4, 1⟩, ⟨3, 1, List.map (PV.int .i64) x6, 1⟩, ⟨4, 1, [], 0⟩, ⟨4, 1, List.map PV.bool x10, 1⟩]), ([1, 5, 7], low, [⟨34, 5, [.agg [.int .i64 0, .nils, .nils, .nils, .nils]], 0⟩, ⟨3, 1, List.map (PV.int .i64) x4, 1⟩, ⟨3, 1, [], 0⟩, ⟨4, 1, List.map PV.bool x8, 1⟩, ⟨4, 1, List.map PV.bool x10, 1⟩]), ([3, 5, 7], low, [⟨34, 5, [.agg [.int .i64 0, .nils, .nils, .nils, .nils]], 0⟩, ⟨3, 1, [], 0⟩, ⟨3, 1, List.map (PV.int .i64) x6, 1⟩, ⟨4, 1, List.map PV.bool x8, 1⟩, ⟨4, 1, List.map PV.bool x10, 1⟩]), ([1, 3, 5, 7], low, [⟨34, 5, [.agg [.int .i64 0, .nils, .nils, .nils, .nils]], 0⟩, ⟨3, 1, List.map (PV.int .i64) x4, 1⟩, ⟨3, 1, List.map (PV.int .i64) x6, 1⟩, ⟨4, 1, List.map PV.bool x8, 1⟩, ⟨4, 1, List.map PV.bool x10, 1⟩]), ([1, 3, 5, 7, 9], low, [⟨34, 5, [.agg [.int .i64 0, .sl (low.length + 1) 1 0 (x4).length, .sl (low.length + 2) 1 0 (x6).length, .sl (low.length + 3) 1 0 (x8).length, .sl (low.length + 4) 1 0 (x10).length]], 0⟩, ⟨3, 1, List.map (PV.int .i64) x4, 1⟩, ⟨3, 1, List.map (PV.int .i64) x6, 1⟩, ⟨4, 1, List.map PV.bool x8, 1⟩, ⟨4, 1, List.map PV.bool x10, 1⟩])] mixed (by kernel_rfl) rfl (lenAllX (Yp rfl (Yp rfl (Yp rfl (Yp rfl (Yp rfl (Yp rfl (Yp rfl (Yp rfl (Yp rfl (Yp rfl (Yp rfl (Yp rfl (Yp rfl (Yp rfl (Yp rfl (Yp rfl (Yp rfl allx0)))))))))))))))))) rfl [1, 3, 5, 7, 9] (low, [⟨34, 5, [.agg [.int .i64 0, .sl (low.length + 1) 1 0 (x4).length, .sl (low.length + 2) 1 0 (x6).length, .sl (low.length + 3) 1 0 (x8).length, .sl (low.length + 4) 1 0 (x10).length]], 0⟩, ⟨3, 1, List.map (PV.int .i64) x4, 1⟩, ⟨3, 1, List.map (PV.int .i64) x6, 1⟩, ⟨4, 1, List.map PV.bool x8, 1⟩, ⟨4, 1, List.map PV.bool x10, 1⟩]) rfl rfl ?_
   refine Xw _ rfl rfl (Xs (Xh.ntl (Vj rfl)) (Xs (Xh.ntl (Vj rfl)) (Xs (Xh.ntl (Vj rfl)) (Xs (Xh.ntl (Vj rfl)) (Xs (Xh.ntl (Vj rfl)) (Xs (Xh.ntl (Vj rfl)) (Xs (Xh.ntl (Vj rfl)) (Xs (Xh.ntl (Vj rfl)) rx0)))))))) ?_
   refine Zd _ rfl rfl (Zs 1 rfl (Vt (f := 5) (k := 1) (m := 1) (os := [⟨3, 1, List.map (PV.int .i64) x4, 0⟩]) (os' := [⟨3, 1, List.map (PV.int .i64) x4, 1⟩]) (v := .sl (low.length + 5) 0 0 (x4).length) rfl rfl rfl ⟨⟨_, rfl, rfl⟩, trivial⟩ (Yi (f := (PV.int .i64)) (zz := 0) rfl rfl rfl rfl te_22 ts_3 tb_3 (by decide) tz_3 rfl rfl (Nat.succ_pos _) rfl h5) (Yf 0 rfl rfl rfl rfl) ⟨.same _ _ _ (Vh (fun _ => .int _ _)), trivial⟩ rfl) (Zs 5 rfl (Vt (f := 5) (k := 1) (m := 1) (os := [⟨3, 1, List.map (PV.int .i64) x4, 0⟩]) (os' := [⟨3, 1, List.map (PV.int .i64) x4, 1⟩]) (v := .sl (low.length + 5) 0 0 (x4).length) rfl rfl rfl ⟨⟨_, rfl, rfl⟩, trivial⟩ (Yi (f := (PV.int .i64)) (zz := 0) rfl rfl rfl rfl te_22 ts_3 tb_3 (by decide) tz_3 rfl rfl (Nat.succ_pos _) rfl h5) (Yf 0 rfl rfl rfl rfl) ⟨.same _ _ _ (Vh (fun _ => .int _ _)), trivial⟩ rfl) (Zs 6 rfl (Vt (f := 5) (k := 1) (m := 1) (os := [⟨3, 1, List.map (PV.int .i64) x4, 0⟩]) (os' := [⟨3, 1, List.map (PV.int .i64) x4, 1⟩]) (v := .sl (low.length + 5) 0 0 (x4).length) rfl rfl rfl ⟨⟨_, rfl, rfl⟩, trivial⟩ (Yi (f := (PV.int .i64)) (zz := 0) rfl rfl rfl rfl te_22 ts_3 tb_3 (by decide) tz_3 rfl rfl (Nat.succ_pos _) rfl h5) (Yf 0 rfl rfl rfl rfl) ⟨.same _ _ _ (Vh (fun _ => .int _ _)), trivial⟩ rfl) (Zs 7 rfl (Vt (f := 5) (k := 1) (m := 1) (os := [⟨3, 1, List.map (PV.int .i64) x4, 0⟩]) (os' := [⟨3, 1, List.map (PV.int .i64) x4, 1⟩]) (v := .sl (low.length + 5) 0 0 (x4).length) rfl rfl rfl ⟨⟨_, rfl, rfl⟩, trivial⟩ (Yi (f := (PV.int .i64)) (zz := 0) rfl rfl rfl rfl te_22 ts_3 tb_3 (by decide) tz_3 rfl rfl (Nat.succ_pos _) rfl h5) (Yf 0 rfl rfl rfl rfl) ⟨.same _ _ _ (Vh (fun _ => .int _ _)), trivial⟩ rfl) (Zs 11 rfl (Vt (f := 5) (k := 1) (m := 1) (os := [⟨3, 1, List.map (PV.int .i64) x4, 0⟩]) (os' := [⟨3, 1, List.map (PV.int .i64) x4, 1⟩]) (v := .sl (low.length + 5) 0 0 (x4).length) rfl rfl rfl ⟨⟨_, rfl, rfl⟩, trivial⟩ (Yi (f := (PV.int .i64)) (zz := 0) rfl rfl rfl rfl te_22 ts_3 tb_3 (by decide) tz_3 rfl rfl (Nat.succ_pos _) rfl h5) (Yf 0 rfl rfl rfl rfl) ⟨.same _ _ _ (Vh (fun _ => .int _ _)), trivial⟩ rfl) (Zs 12 rfl (Vt (f := 5) (k := 1) (m := 1) (os := [⟨3, 1, List.map (PV.int .i64) x4, 0⟩]) (os' := [⟨3, 1, List.map (PV.int .i64) x4, 1⟩]) (v := .sl (low.length + 5) 0 0 (x4).length) rfl rfl rfl ⟨⟨_, rfl, rfl⟩, trivial⟩ (Yi (f := (PV.int .i64)) (zz := 0) rfl rfl rfl rfl te_22 ts_3 tb_3 (by decide) tz_3 rfl rfl (Nat.succ_pos _) rfl h5) (Yf 0 rfl rfl rfl rfl) ⟨.same _ _ _ (Vh (fun _ => .int _ _)), trivial⟩ rfl) (Zs 13 rfl (Vt (f := 5) (k := 1) (m := 1) (os := [⟨3, 1, List.map (PV.int .i64) x4, 0⟩]) (os' := [⟨3, 1, List.map (PV.int .i64) x4, 1⟩]) (v := .sl (low.length + 5) 0 0 (x4).length) rfl rfl rfl ⟨⟨_, rfl, rfl⟩, trivial⟩ (Yi (f := (PV.int .i64)) (zz := 0) rfl rfl rfl rfl te_22 ts_3 tb_3 (by decide) tz_3 rfl rfl (Nat.succ_pos _) rfl h5) (Yf 0 rfl rfl rfl rfl) ⟨.same _ _ _ (Vh (fun _ => .int _ _)), trivial⟩ rfl) (Zs 15 rfl (Vt (f := 5) (k := 1) (m := 1) (os := [⟨3, 1, List.map (PV.int .i64) x4, 0⟩]) (os' := [⟨3, 1, List.map (PV.int .i64) x4, 1⟩]) (v := .sl (low.length + 5) 0 0 (x4).length) rfl rfl rfl ⟨⟨_, rfl, rfl⟩, trivial⟩ (Yi (f := (PV.int .i64)) (zz := 0) rfl rfl rfl rfl te_22 ts_3 tb_3 (by decide) tz_3 rfl rfl (Nat.succ_pos _) rfl h5) (Yf 0 rfl rfl rfl rfl) ⟨.same _ _ _ (Vh (fun _ => .int _ _)), trivial⟩ rfl) ex0)))))))) ?_
   refine Xw _ rfl rfl (Xs (Xh.ntl (Vj rfl)) (Xs (Xh.ntl (Vj rfl)) (Xs (Xh.ntl (Vj rfl)) (Xs (Xh.ntl (Vj rfl)) (Xs (Xh.ntl (Vj rfl)) (Xs (Xh.ntl (Vj rfl)) (Xs (Xh.ntl (Vj rfl)) (Xs (Xh.ntl (Vj rfl)) rx0)))))))) ?_
   refine Zd _ rfl rfl (Zs 2 rfl (Vt (f := 5) (k := 2) (m := 1) (os := [⟨3, 1, List.map (PV.int .i64) x6, 0⟩]) (os' := [⟨3, 1, List.map (PV.int .i64) x6, 1⟩]) (v := .sl (low.length + 5) 0 0 (x6).length) rfl rfl rfl ⟨⟨_, rfl, rfl⟩, trivial⟩ (Yi (f := (PV.int .i64)) (zz := 0) rfl rfl rfl rfl te_22 ts_3 tb_3 (by decide) tz_3 rfl rfl (Nat.succ_pos _) rfl h7) (Yf 0 rfl rfl rfl rfl) ⟨.same _ _ _ (Vh (fun _ => .int _ _)), trivial⟩ rfl) (Zs 5 rfl (Vt (f := 5) (k := 2) (m := 1) (os := [⟨3, 1, List.map (PV.int .i64) x6, 0⟩]) (os' := [⟨3, 1, List.map (PV.int .i64) x6, 1⟩]) (v := .sl (low.length + 5) 0 0 (x6).length) rfl rfl rfl ⟨⟨_, rfl, rfl⟩, trivial⟩ (Yi (f := (PV.int .i64)) (zz := 0) rfl rfl rfl rfl te_22 ts_3 tb_3 (by decide) tz_3 rfl rfl (Nat.succ_pos _) rfl h7) (Yf 0 rfl rfl rfl rfl) ⟨.same _ _ _ (Vh (fun _ => .int _ _)), trivial⟩ rfl) (Zs 8 rfl (Vt (f := 5) (k := 2) (m := 1) (os := [⟨3, 1, List.map (PV.int .i64) x6, 0⟩]) (os' := [⟨3, 1, List.map (PV.int .i64) x6, 1⟩]) (v := .sl (low.length + 5) 0 0 (x6).length) rfl rfl rfl ⟨⟨_, rfl, rfl⟩, trivial⟩ (Yi (f := (PV.int .i64)) (zz := 0) rfl rfl rfl rfl te_22 ts_3 tb_3 (by decide) tz_3 rfl rfl (Nat.succ_pos _) rfl h7) (Yf 0 rfl rfl rfl rfl) ⟨.same _ _ _ (Vh (fun _ => .int _ _)), trivial⟩ rfl) (Zs 9 rfl (Vt (f := 5) (k := 2) (m := 1) (os := [⟨3, 1, List.map (PV.int .i64) x6, 0⟩]) (os' := [⟨3, 1, List.map (PV.int .i64) x6, 1⟩]) (v := .sl (low.length + 5) 0 0 (x6).length) rfl rfl rfl ⟨⟨_, rfl, rfl⟩, trivial⟩ (Yi (f := (PV.int .i64)) (zz := 0) rfl rfl rfl rfl te_22 ts_3 tb_3 (by decide) tz_3 rfl rfl (Nat.succ_pos _) rfl h7) (Yf 0 rfl rfl rfl rfl) ⟨.same _ _ _ (Vh (fun _ => .int _ _)), trivial⟩ rfl) (Zs 11 rfl (Vt (f := 5) (k := 2) (m := 1) (os := [⟨3, 1, List.map (PV.int .i64) x6, 0⟩]) (os' := [⟨3, 1, List.map (PV.int .i64) x6, 1⟩]) (v := .sl (low.length + 5) 0 0 (x6).length) rfl rfl rfl ⟨⟨_, rfl, rfl⟩, trivial⟩ (Yi (f := (PV.int .i64)) (zz := 0) rfl rfl rfl rfl te_22 ts_3 tb_3 (by decide) tz_3 rfl rfl (Nat.succ_pos _) rfl h7) (Yf 0 rfl rfl rfl rfl) ⟨.same _ _ _ (Vh (fun _ => .int _ _)), trivial⟩ rfl) (Zs 12 rfl (Vt (f := 5) (k := 2) (m := 1) (os := [⟨3, 1, List.map (PV.int .i64) x6, 0⟩]) (os' := [⟨3, 1, List.map (PV.int .i64) x6, 1⟩]) (v := .sl (low.length + 5) 0 0 (x6).length) rfl rfl rfl ⟨⟨_, rfl, rfl⟩, trivial⟩ (Yi (f := (PV.int .i64)) (zz := 0) rfl rfl rfl rfl te_22 ts_3 tb_3 (by decide) tz_3 rfl rfl (Nat.succ_pos _) rfl h7) (Yf 0 rfl rfl rfl rfl) ⟨.same _ _ _ (Vh (fun _ => .int _ _)), trivial⟩ rfl) (Zs 14 rfl (Vt (f := 5) (k := 2) (m := 1) (os := [⟨3, 1, List.map (PV.int .i64) x6, 0⟩]) (os' := [⟨3, 1, List.map (PV.int .i64) x6, 1⟩]) (v := .sl (low.length + 5) 0 0 (x6).length) rfl rfl rfl ⟨⟨_, rfl, rfl⟩, trivial⟩ (Yi (f := (PV.int .i64)) (zz := 0) rfl rfl rfl rfl te_22 ts_3 tb_3 (by decide) tz_3 rfl rfl (Nat.succ_pos _) rfl h7) (Yf 0 rfl rfl rfl rfl) ⟨.same _ _ _ (Vh (fun _ => .int _ _)), trivial⟩ rfl) (Zs 15 rfl (Vt (f := 5) (k := 2) (m := 1) (os := [⟨3, 1, List.map (PV.int .i64) x6, 0⟩]) (os' := [⟨3, 1, List.map (PV.int .i64) x6, 1⟩]) (v := .sl (low.length + 5) 0 0 (x6).length) rfl rfl rfl ⟨⟨_, rfl, rfl⟩, trivial⟩ (Yi (f := (PV.int .i64)) (zz := 0) rfl rfl rfl rfl te_22 ts_3 tb_3 (by decide) tz_3 rfl rfl (Nat.succ_pos _) rfl h7) (Yf 0 rfl rfl rfl rfl) ⟨.same _ _ _ (Vh (fun _ => .int _ _)), trivial⟩ rfl) ex0)))))))) ?_
   refine Xw _ rfl rfl (Xs (Xh.ntl (Vj rfl)) (Xs (Xh.ntl (Vj rfl)) (Xs (Xh.ntl (Vj rfl)) (Xs (Xh.ntl (Vj rfl)) (Xs (Xh.ntl (Vj rfl)) (Xs (Xh.ntl (Vj rfl)) (Xs (Xh.ntl (Vj rfl)) (Xs (Xh.ntl (Vj rfl)) rx0)))))))) ?_
   refine Zd _ rfl rfl (Zs 3 rfl (Vt (f := 5) (k := 3) (m := 1) (os := [⟨4, 1, List.map PV.bool x8, 0⟩]) (os' := [⟨4, 1, List.map PV.bool x8, 1⟩]) (v := .sl (low.length + 5) 0 0 (x8).length) rfl rfl rfl ⟨⟨_, rfl, rfl⟩, trivial⟩ (Yi (f := PV.bool) (zz := false) rfl rfl rfl rfl te_32 ts_4 tb_4 (by decide) tz_4 rfl rfl (Nat.succ_pos _) rfl h9) (Yf 0 rfl rfl rfl rfl) ⟨.same _ _ _ (Vh (fun _ => .bool _)), trivial⟩ rfl) (Zs 6 rfl (Vt (f := 5) (k := 3) (m := 1) (os := [⟨4, 1, List.map PV.bool x8, 0⟩]) (os' := [⟨4, 1, List.map PV.bool x8, 1⟩]) (v := .sl (low.length + 5) 0 0 (x8).length) rfl rfl rfl ⟨⟨_, rfl, rfl⟩, trivial⟩ (Yi (f := PV.bool) (zz := false) rfl rfl rfl rfl te_32 ts_4 tb_4 (by decide) tz_4 rfl rfl (Nat.succ_pos _) rfl h9) (Yf 0 rfl rfl rfl rfl) ⟨.same _ _ _ (Vh (fun _ => .bool _)), trivial⟩ rfl) (Zs 8 rfl (Vt (f := 5) (k := 3) (m := 1) (os := [⟨4, 1, List.map PV.bool x8, 0⟩]) (os' := [⟨4, 1, List.map PV.bool x8, 1⟩]) (v := .sl (low.length + 5) 0 0 (x8).length) rfl rfl rfl ⟨⟨_, rfl, rfl⟩, trivial⟩ (Yi (f := PV.bool) (zz := false) rfl rfl rfl rfl te_32 ts_4 tb_4 (by decide) tz_4 rfl rfl (Nat.succ_pos _) rfl h9) (Yf 0 rfl rfl rfl rfl) ⟨.same _ _ _ (Vh (fun _ => .bool _)), trivial⟩ rfl) (Zs 10 rfl (Vt (f := 5) (k := 3) (m := 1) (os := [⟨4, 1, List.map PV.bool x8, 0⟩]) (os' := [⟨4, 1, List.map PV.bool x8, 1⟩]) (v := .sl (low.length + 5) 0 0 (x8).length) rfl rfl rfl ⟨⟨_, rfl, rfl⟩, trivial⟩ (Yi (f := PV.bool) (zz := false) rfl rfl rfl rfl te_32 ts_4 tb_4 (by decide) tz_4 rfl rfl (Nat.succ_pos _) rfl h9) (Yf 0 rfl rfl rfl rfl) ⟨.same _ _ _ (Vh (fun _ => .bool _)), trivial⟩ rfl) (Zs 11 rfl (Vt (f := 5) (k := 3) (m := 1) (os := [⟨4, 1, List.map PV.bool x8, 0⟩]) (os' := [⟨4, 1, List.map PV.bool x8, 1⟩]) (v := .sl (low.length + 5) 0 0 (x8).length) rfl rfl rfl ⟨⟨_, rfl, rfl⟩, trivial⟩ (Yi (f := PV.bool) (zz := false) rfl rfl rfl rfl te_32 ts_4 tb_4 (by decide) tz_4 rfl rfl (Nat.succ_pos _) rfl h9) (Yf 0 rfl rfl rfl rfl) ⟨.same _ _ _ (Vh (fun _ => .bool _)), trivial⟩ rfl) (Zs 13 rfl (Vt (f := 5) (k := 3) (m := 1) (os := [⟨4, 1, List.map PV.bool x8, 0⟩]) (os' := [⟨4, 1, List.map PV.bool x8, 1⟩]) (v := .sl (low.length + 5) 0 0 (x8).length) rfl rfl rfl ⟨⟨_, rfl, rfl⟩, trivial⟩ (Yi (f := PV.bool) (zz := false) rfl rfl rfl rfl te_32 ts_4 tb_4 (by decide) tz_4 rfl rfl (Nat.succ_pos _) rfl h9) (Yf 0 rfl rfl rfl rfl) ⟨.same _ _ _ (Vh (fun _ => .bool _)), trivial⟩ rfl) (Zs 14 rfl (Vt (f := 5) (k := 3) (m := 1) (os := [⟨4, 1, List.map PV.bool x8, 0⟩]) (os' := [⟨4, 1, List.map PV.bool x8, 1⟩]) (v := .sl (low.length + 5) 0 0 (x8).length) rfl rfl rfl ⟨⟨_, rfl, rfl⟩, trivial⟩ (Yi (f := PV.bool) (zz := false) rfl rfl rfl rfl te_32 ts_4 tb_4 (by decide) tz_4 rfl rfl (Nat.succ_pos _) rfl h9) (Yf 0 rfl rfl rfl rfl) ⟨.same _ _ _ (Vh (fun _ => .bool _)), trivial⟩ rfl) (Zs 15 rfl (Vt (f := 5) (k := 3) (m := 1) (os := [⟨4, 1, List.map PV.bool x8, 0⟩]) (os' := [⟨4, 1, List.map PV.bool x8, 1⟩]) (v := .sl (low.length + 5) 0 0 (x8).length) rfl rfl rfl ⟨⟨_, rfl, rfl⟩, trivial⟩ (Yi (f := PV.bool) (zz := false) rfl rfl rfl rfl te_32 ts_4 tb_4 (by decide) tz_4 rfl rfl (Nat.succ_pos _) rfl h9) (Yf 0 rfl rfl rfl rfl) ⟨.same _ _ _ (Vh (fun _ => .bool _)), trivial⟩ rfl) ex0)))))))) ?_
   refine Xw _ rfl rfl (Xs (Xh.ntl (Vj rfl)) (Xs (Xh.ntl (Vj rfl)) (Xs (Xh.ntl (Vj rfl)) (Xs (Xh.ntl (Vj rfl)) (Xs (Xh.ntl (Vj rfl)) (Xs (Xh.ntl (Vj rfl)) (Xs (Xh.ntl (Vj rfl)) (Xs (Xh.ntl (Vj rfl)) rx0)))))))) ?_
   refine Zd _ rfl rfl (Zs 4 rfl (Vt (f := 5) (k := 4) (m := 1) (os := [⟨4, 1, List.map PV.bool x10, 0⟩]) (os' := [⟨4, 1, List.map PV.bool x10, 1⟩]) (v := .sl (low.length + 5) 0 0 (x10).length) rfl rfl rfl ⟨⟨_, rfl, rfl⟩, trivial⟩ (Yi (f := PV.bool) (zz := false) rfl rfl rfl rfl te_32 ts_4 tb_4 (by decide) tz_4 rfl rfl (Nat.succ_pos _) rfl h11) (Yf 0 rfl rfl rfl rfl) ⟨.same _ _ _ (Vh (fun _ => .bool _)), trivial⟩ rfl) (Zs 7 rfl (Vt (f := 5) (k := 4) (m := 1) (os := [⟨4, 1, List.map PV.bool x10, 0⟩]) (os' := [⟨4, 1, List.map PV.bool x10, 1⟩]) (v := .sl (low.length + 5) 0 0 (x10).length) rfl rfl rfl ⟨⟨_, rfl, rfl⟩, trivial⟩ (Yi (f := PV.bool) (zz := false) rfl rfl rfl rfl te_32 ts_4 tb_4 (by decide) tz_4 rfl rfl (Nat.succ_pos _) rfl h11) (Yf 0 rfl rfl rfl rfl) ⟨.same _ _ _ (Vh (fun _ => .bool _)), trivial⟩ rfl) (Zs 9 rfl (Vt (f := 5) (k := 4) (m := 1) (os := [⟨4, 1, List.map PV.bool x10, 0⟩]) (os' := [⟨4, 1, List.map PV.bool x10, 1⟩]) (v := .sl (low.length + 5) 0 0 (x10).length) rfl rfl rfl ⟨⟨_, rfl, rfl⟩, trivial⟩ (Yi (f := PV.bool) (zz := false) rfl rfl rfl rfl te_32 ts_4 tb_4 (by decide) tz_4 rfl rfl (Nat.succ_pos _) rfl h11) (Yf 0 rfl rfl rfl rfl) ⟨.same _ _ _ (Vh (fun _ => .bool _)), trivial⟩ rfl) (Zs 10 rfl (Vt (f := 5) (k := 4) (m := 1) (os := [⟨4, 1, List.map PV.bool x10, 0⟩]) (os' := [⟨4, 1, List.map PV.bool x10, 1⟩]) (v := .sl (low.length + 5) 0 0 (x10).length) rfl rfl rfl ⟨⟨_, rfl, rfl⟩, trivial⟩ (Yi (f := PV.bool) (zz := false) rfl rfl rfl rfl te_32 ts_4 tb_4 (by decide) tz_4 rfl rfl (Nat.succ_pos _) rfl h11) (Yf 0 rfl rfl rfl rfl) ⟨.same _ _ _ (Vh (fun _ => .bool _)), trivial⟩ rfl) (Zs 12 rfl (Vt (f := 5) (k := 4) (m := 1) (os := [⟨4, 1, List.map PV.bool x10, 0⟩]) (os' := [⟨4, 1, List.map PV.bool x10, 1⟩]) (v := .sl (low.length + 5) 0 0 (x10).length) rfl rfl rfl ⟨⟨_, rfl, rfl⟩, trivial⟩ (Yi (f := PV.bool) (zz := false) rfl rfl rfl rfl te_32 ts_4 tb_4 (by decide) tz_4 rfl rfl (Nat.succ_pos _) rfl h11) (Yf 0 rfl rfl rfl rfl) ⟨.same _ _ _ (Vh (fun _ => .bool _)), trivial⟩ rfl) (Zs 13 rfl (Vt (f := 5) (k := 4) (m := 1) (os := [⟨4, 1, List.map PV.bool x10, 0⟩]) (os' := [⟨4, 1, List.map PV.bool x10, 1⟩]) (v := .sl (low.length + 5) 0 0 (x10).length) rfl rfl rfl ⟨⟨_, rfl, rfl⟩, trivial⟩ (Yi (f := PV.bool) (zz := false) rfl rfl rfl rfl te_32 ts_4 tb_4 (by decide) tz_4 rfl rfl (Nat.succ_pos _) rfl h11) (Yf 0 rfl rfl rfl rfl) ⟨.same _ _ _ (Vh (fun _ => .bool _)), trivial⟩ rfl) (Zs 14 rfl (Vt (f := 5) (k := 4) (m := 1) (os := [⟨4, 1, List.map PV.bool x10, 0⟩]) (os' := [⟨4, 1, List.map PV.bool x10, 1⟩]) (v := .sl (low.length + 5) 0 0 (x10).length) rfl rfl rfl ⟨⟨_, rfl, rfl⟩, trivial⟩ (Yi (f := PV.bool) (zz := false) rfl rfl rfl rfl te_32 ts_4 tb_4 (by decide) tz_4 rfl rfl (Nat.succ_pos _) rfl h11) (Yf 0 rfl rfl rfl rfl) ⟨.same _ _ _ (Vh (fun _ => .bool _)), trivial⟩ rfl) (Zs 15 rfl (Vt (f := 5) (k := 4) (m := 1) (os := [⟨4, 1, List.map PV.bool x10, 0⟩]) (os' := [⟨4, 1, List.map PV.bool x10, 1⟩]) (v := .sl (low.length + 5) 0 0 (x10).length) rfl rfl rfl ⟨⟨_, rfl, rfl⟩, trivial⟩ (Yi (f := PV.bool) (zz := false) rfl rfl rfl rfl te_32 ts_4 tb_4 (by decide) tz_4 rfl rfl (Nat.succ_pos _) rfl h11) (Yf 0 rfl rfl rfl rfl) ⟨.same _ _ _ (Vh (fun _ => .bool _)), trivial⟩ rfl) ex0)))))))) ?_
   refine Xw _ rfl rfl (Xs (Xh.ntl (Wd (vs := [(1, .sl (low.length + 1) 1 0 (x4).length), (2, .sl (low.length + 2) 1 0 (x6).length), (3, .sl (low.length + 3) 1 0 (x8).length), (4, .sl (low.length + 4) 1 0 (x10).length)]) (ds := [.int .i64 0, .sl (low.length + 1) 1 0 (x4).length, .sl (low.length + 2) 1 0 (x6).length, .sl (low.length + 3) 1 0 (x8).length, .sl (low.length + 4) 1 0 (x10).length]) tz_34 rfl rfl tp_34 ⟨rfl, rfl, rfl, rfl, rfl, rfl, rfl, rfl, trivial⟩ (nt_all2 rfl) rfl)) rx0) ?_
   refine Zd _ rfl rfl (Zs 16 rfl (Vx (p := .agg [.int .i64 0, .sl (low.length + 1) 1 0 (x4).length, .sl (low.length + 2) 1 0 (x6).length, .sl (low.length + 3) 1 0 (x8).length, .sl (low.length + 4) 1 0 (x10).length]) (e' := .agg [.int .i64 0, .sl (low.length + 1) 1 0 (x4).length, .sl (low.length + 2) 1 0 (x6).length, .sl (low.length + 3) 1 0 (x8).length, .sl (low.length + 4) 1 0 (x10).length]) rfl (Vd rfl rfl) rfl rfl ts_34 rfl (Yc rfl) rfl (Nat.le_of_ble_eq_true rfl) rfl (Xr rfl rfl)) ex0) ?_
   refine Xw _ rfl rfl (Xs (Xh.ntl (Xa rfl)) rx0) ?_
   refine dopx_nil ?_
   refine Xb ?_
   obtain rfl := Option.some.inj hF
   refine Zy ?_
   refine Ya.trans (Xp (E' := [(2, .ptr (low.length + 0) 0 0 0), (3, .int .i64 0)]) (loc1 := [⟨34, 5, [.agg [.int .i64 0, .vs 1 (List.map (PV.int .i64) x4), .sl (low.length + 2) 1 0 (x6).length, .sl (low.length + 3) 1 0 (x8).length, .sl (low.length + 4) 1 0 (x10).length]], 0⟩, ⟨3, 1, [], 1 + 1⟩, ⟨3, 1, List.map (PV.int .i64) x6, 1⟩, ⟨4, 1, List.map PV.bool x8, 1⟩, ⟨4, 1, List.map PV.bool x10, 1⟩]) rfl 1 rfl (Yh (fun _ => .int _ _)) ⟨Vl rfl, Vl rfl, trivial⟩ ⟨Yq ⟨Vl rfl, Zi rfl rfl rfl (Vy rfl), Vl rfl, Vl rfl, Vl rfl, trivial⟩, .refl _, .refl _, .refl _, .refl _, trivial⟩) ?_
   refine Ya.trans (Xp (E' := [(2, .ptr (low.length + 0) 0 0 0), (3, .int .i64 0)]) (loc1 := [⟨34, 5, [.agg [.int .i64 0, .vs 1 (List.map (PV.int .i64) x4), .vs 1 (List.map (PV.int .i64) x6), .sl (low.length + 3) 1 0 (x8).length, .sl (low.length + 4) 1 0 (x10).length]], 0⟩, ⟨3, 1, [], 1 + 1⟩, ⟨3, 1, [], 1 + 1⟩, ⟨4, 1, List.map PV.bool x8, 1⟩, ⟨4, 1, List.map PV.bool x10, 1⟩]) rfl 2 rfl (Yh (fun _ => .int _ _)) ⟨Vl rfl, Vl rfl, trivial⟩ ⟨Yq ⟨Vl rfl, Vl rfl, Zi rfl rfl rfl (Vy rfl), Vl rfl, Vl rfl, trivial⟩, .refl _, .refl _, .refl _, .refl _, trivial⟩) ?_
   refine Ya.trans (Xp (E' := [(2, .ptr (low.length + 0) 0 0 0), (3, .int .i64 0)]) (loc1 := [⟨34, 5, [.agg [.int .i64 0, .vs 1 (List.map (PV.int .i64) x4), .vs 1 (List.map (PV.int .i64) x6), .vs 1 (List.map PV.bool x8), .sl (low.length + 4) 1 0 (x10).length]], 0⟩, ⟨3, 1, [], 1 + 1⟩, ⟨3, 1, [], 1 + 1⟩, ⟨4, 1, [], 1 + 1⟩, ⟨4, 1, List.map PV.bool x10, 1⟩]) rfl 3 rfl (Yh (fun _ => .bool _)) ⟨Vl rfl, Vl rfl, trivial⟩ ⟨Yq ⟨Vl rfl, Vl rfl, Vl rfl, Zi rfl rfl rfl (Vy rfl), Vl rfl, trivial⟩, .refl _, .refl _, .refl _, .refl _, trivial⟩) ?_
   refine Ya.trans (Xp (E' := [(2, .ptr (low.length + 0) 0 0 0), (3, .int .i64 0)]) (loc1 := [⟨34, 5, [.agg [.int .i64 0, .vs 1 (List.map (PV.int .i64) x4), .vs 1 (List.map (PV.int .i64) x6), .vs 1 (List.map PV.bool x8), .vs 1 (List.map PV.bool x10)]], 0⟩, ⟨3, 1, [], 1 + 1⟩, ⟨3, 1, [], 1 + 1⟩, ⟨4, 1, [], 1 + 1⟩, ⟨4, 1, [], 1 + 1⟩]) rfl 4 rfl (Yh (fun _ => .bool _)) ⟨Vl rfl, Vl rfl, trivial⟩ ⟨Yq ⟨Vl rfl, Vl rfl, Vl rfl, Vl rfl, Zi rfl rfl rfl (Vy rfl), trivial⟩, .refl _, .refl _, .refl _, .refl _, trivial⟩) ?_
   exact Vv rfl [(0, 0)] (by decide) ⟨Yo 0 0 rfl rfl, Vs rfl (.int _ _), trivial⟩ ⟨⟨_, rfl, rfl, .same _ _ _ _ (Xt ⟨Xx ⟨.int _ _, .vs _ _, .vs _ _, .vs _ _, .vs _ _, trivial⟩, trivial⟩)⟩, trivial⟩
 ·rintro _ _ _ _ ⟨he, hw⟩
  refine ⟨_, _, _, hw, ?_⟩
  exact Ze he [.agg [.int .i64 r.1.Time, .vs 1 (List.map (PV.int .i64) r.1.States), .vs 1 (List.map (PV.int .i64) r.1.Since), .vs 1 (List.map PV.bool r.1.Pulled), .vs 1 (List.map PV.bool r.1.Held)], .int .i64 r.2] ⟨Vu rfl (Vd rfl rfl) rfl ta_34 ts_34 rfl rfl rfl, rfl, trivial⟩ ((lt_tup ⟨(Xx ⟨.int _ _, .vs _ _, .vs _ _, .vs _ _, .vs _ _, trivial⟩), .int _ _, trivial⟩)) ⟨rfl, rfl⟩

theorem F_belts_Valid_ok {p0 : List T_Belt} {p1 : T_Line} {r : Bool} (hF : F_belts_Valid p0 p1 = some r) (low : List AObj) :
    Yv Try.prog 28 [.vs 2 (List.map T_Belt.enc p0), .agg [.int .i64 p1.Time, .vs 1 (List.map (PV.int .i64) p1.States), .vs 1 (List.map (PV.int .i64) p1.Since), .vs 1 (List.map PV.bool p1.Pulled), .vs 1 (List.map PV.bool p1.Held)]] low fun x low' => x = .bool r ∧ low' = low := by
 refine Xc (nt := 105) (rs := [.tmp 4]) Try.func28 rfl rfl (Nat.le_of_ble_eq_true rfl) rfl ?_
 refine Vw (Q' := FnE (fun E' lw lc => Ya E' lw lc [(4, .bool r)] low [])) ?_ ?_
 ·unfold F_belts_Valid at hF
  refine Vi ?_
  refine Ve ?_
  refine Vk (Yw rfl rfl (v := .agg [.int .i64 p1.Time, .vs 1 (List.map (PV.int .i64) p1.States), .vs 1 (List.map (PV.int .i64) p1.Since), .vs 1 (List.map PV.bool p1.Pulled), .vs 1 (List.map PV.bool p1.Held)]) rfl rfl (Nat.succ_pos _) rfl rfl) rfl ?_
  refine Va (Xy rfl) rfl ?_
  refine Vg ?_
  refine Vi ?_
  refine Ve ?_
  refine Va (Xd rfl) rfl ?_
  refine Va (Xi (Xo rfl rfl te_27) (congrArg (fun n : Nat => PV.int .i64 (n : Int)) (List.length_map _))) rfl ?_
  refine Va (Xa rfl) rfl ?_
  refine Vg ?_
  refine Vi ?_
  refine Vi ?_
  obtain ⟨o1, ho1, hF⟩ := Ys hF
  refine Vw (Q' := (fun o1 => OnlyE .normal (fun E' lw lc => Ya E' lw lc [(0, .vs 2 (List.map T_Belt.enc p0)), (3, .ptr (low.length + 0) 0 0 0), (47, .bool o1)] low [⟨34, 5, [.agg [.int .i64 p1.Time, .vs 1 (List.map (PV.int .i64) p1.States), .vs 1 (List.map (PV.int .i64) p1.Since), .vs 1 (List.map PV.bool p1.Pulled), .vs 1 (List.map PV.bool p1.Held)]], 0⟩])) o1) ?_ ?_
  ·replace hF := ho1
   refine Ve ?_
   obtain ⟨x2, h3, hF⟩ := Ys hF
   rcases Bool.eq_false_or_eq_true (!x2) with c4 | c4
   ·have hF := Yl c4 hF
    refine Va (Xd rfl) rfl ?_
    refine Vk (Xk rfl Try.call29 (F_belts_sound_ok h3 _)) rfl ?_
    refine Va (Zn rfl) rfl ?_
    refine Va (Vm rfl) rfl ?_
    refine Vb rfl rfl (Zh c4) rfl ?_
    refine Vb rfl rfl (Zh c4) rfl ?_
    refine Vb rfl rfl (Zh c4) rfl ?_
    refine Vb rfl rfl (Zh c4) rfl ?_
    refine Vb rfl rfl (Zh c4) rfl ?_
    refine Va (Vp (congrArg PV.bool c4) rfl) rfl ?_
    refine Va (Vm rfl) rfl ?_
    refine Vb rfl rfl (by decide) rfl ?_
    refine Vb rfl rfl (by decide) rfl ?_
    refine Vb rfl rfl (by decide) rfl ?_
    refine Vb rfl rfl (by decide) rfl ?_
    refine Vb rfl rfl (by decide) rfl ?_
    refine Va (Vp rfl rfl) rfl ?_
    refine Va (Vm rfl) rfl ?_
    refine Vb rfl rfl (by decide) rfl ?_
    refine Vb rfl rfl (by decide) rfl ?_
    refine Vb rfl rfl (by decide) rfl ?_
    refine Vb rfl rfl (by decide) rfl ?_
    refine Vb rfl rfl (by decide) rfl ?_
    refine Va (Vp rfl rfl) rfl ?_
    refine Va (Vm rfl) rfl ?_
    refine Vb rfl rfl (by decide) rfl ?_
    refine Vb rfl rfl (by decide) rfl ?_
    refine Vb rfl rfl (by decide) rfl ?_
    refine Vb rfl rfl (by decide) rfl ?_
    refine Vb rfl rfl (by decide) rfl ?_
    refine Va (Vp rfl rfl) rfl ?_
    refine Va (Vm rfl) rfl ?_
    refine Vb rfl rfl (by decide) rfl ?_
    refine Vb rfl rfl (by decide) rfl ?_
    refine Vb rfl rfl (by decide) rfl ?_
    refine Vb rfl rfl (by decide) rfl ?_
    refine Va (Vp rfl rfl) rfl ?_
    refine Vg ?_
    obtain rfl := Option.some.inj hF
    refine Xv ?_
    exact Vq ⟨rfl, rfl, rfl, trivial⟩
   ·have hF := Ym c4 hF
    rcases Bool.eq_false_or_eq_true (decide (((p1.States).length : Int) ≠ ((p0).length : Int))) with c5 | c5
    ·have hF := Yl c5 hF
     refine Va (Xd rfl) rfl ?_
     refine Vk (Xk rfl Try.call29 (F_belts_sound_ok h3 _)) rfl ?_
     refine Va (Zn rfl) rfl ?_
     refine Va (Vm rfl) rfl ?_
     refine Vz rfl rfl c4 ?_
     refine Va (Vc rfl tf_34_1 ts_22 (by decide)) rfl ?_
     refine Vz rfl rfl c4 ?_
     refine Va (Vf rfl (Vd rfl rfl) rfl ta_22 rfl) rfl ?_
     refine Vz rfl rfl c4 ?_
     refine Va (Xi (Xo rfl rfl te_22) (congrArg (fun n : Nat => PV.int .i64 (n : Int)) (List.length_map _))) rfl ?_
     refine Vz rfl rfl c4 ?_
     refine Va (Vj rfl) rfl ?_
     refine Vz rfl rfl c4 ?_
     refine Va (Zb rfl rfl) rfl ?_
     refine Va (Vo (congrArg PV.bool c4) rfl) rfl ?_
     refine Va (Vm rfl) rfl ?_
     refine Vb rfl rfl (Zh c5) rfl ?_
     refine Vb rfl rfl (Zh c5) rfl ?_
     refine Vb rfl rfl (Zh c5) rfl ?_
     refine Vb rfl rfl (Zh c5) rfl ?_
     refine Vb rfl rfl (Zh c5) rfl ?_
     refine Va (Vp (congrArg PV.bool c5) rfl) rfl ?_
     refine Va (Vm rfl) rfl ?_
     refine Vb rfl rfl (by decide) rfl ?_
     refine Vb rfl rfl (by decide) rfl ?_
     refine Vb rfl rfl (by decide) rfl ?_
     refine Vb rfl rfl (by decide) rfl ?_
     refine Vb rfl rfl (by decide) rfl ?_
     refine Va (Vp rfl rfl) rfl ?_
     refine Va (Vm rfl) rfl ?_
     refine Vb rfl rfl (by decide) rfl ?_
     refine Vb rfl rfl (by decide) rfl ?_
     refine Vb rfl rfl (by decide) rfl ?_
     refine Vb rfl rfl (by decide) rfl ?_
     refine Vb rfl rfl (by decide) rfl ?_
     refine Va (Vp rfl rfl) rfl ?_
     refine Va (Vm rfl) rfl ?_
     refine Vb rfl rfl (by decide) rfl ?_
     refine Vb rfl rfl (by decide) rfl ?_
     refine Vb rfl rfl (by decide) rfl ?_
     refine Vb rfl rfl (by decide) rfl ?_
     refine Va (Vp rfl rfl) rfl ?_
     refine Vg ?_
     obtain rfl := Option.some.inj hF
     refine Xv ?_
     exact Vq ⟨rfl, rfl, rfl, trivial⟩
    ·have hF := Ym c5 hF
     rcases Bool.eq_false_or_eq_true (decide (((p1.Since).length : Int) ≠ ((p0).length : Int))) with c6 | c6
     ·have hF := Yl c6 hF
      refine Va (Xd rfl) rfl ?_
      refine Vk (Xk rfl Try.call29 (F_belts_sound_ok h3 _)) rfl ?_
      refine Va (Zn rfl) rfl ?_
      refine Va (Vm rfl) rfl ?_
      refine Vz rfl rfl c4 ?_
      refine Va (Vc rfl tf_34_1 ts_22 (by decide)) rfl ?_
      refine Vz rfl rfl c4 ?_
      refine Va (Vf rfl (Vd rfl rfl) rfl ta_22 rfl) rfl ?_
      refine Vz rfl rfl c4 ?_
      refine Va (Xi (Xo rfl rfl te_22) (congrArg (fun n : Nat => PV.int .i64 (n : Int)) (List.length_map _))) rfl ?_
      refine Vz rfl rfl c4 ?_
      refine Va (Vj rfl) rfl ?_
      refine Vz rfl rfl c4 ?_
      refine Va (Zb rfl rfl) rfl ?_
      refine Va (Vo (congrArg PV.bool c4) rfl) rfl ?_
      refine Va (Vm rfl) rfl ?_
      refine Vz rfl rfl c5 ?_
      refine Va (Vc rfl tf_34_2 ts_22 (by decide)) rfl ?_
      refine Vz rfl rfl c5 ?_
      refine Va (Vf rfl (Vd rfl rfl) rfl ta_22 rfl) rfl ?_
      refine Vz rfl rfl c5 ?_
      refine Va (Xi (Xo rfl rfl te_22) (congrArg (fun n : Nat => PV.int .i64 (n : Int)) (List.length_map _))) rfl ?_
      refine Vz rfl rfl c5 ?_
      refine Va (Vj rfl) rfl ?_
      refine Vz rfl rfl c5 ?_
      refine Va (Zb rfl rfl) rfl ?_
      refine Va (Vo (congrArg PV.bool c5) rfl) rfl ?_
      refine Va (Vm rfl) rfl ?_
      refine Vb rfl rfl (Zh c6) rfl ?_
      refine Vb rfl rfl (Zh c6) rfl ?_
      refine Vb rfl rfl (Zh c6) rfl ?_
      refine Vb rfl rfl (Zh c6) rfl ?_
      refine Vb rfl rfl (Zh c6) rfl ?_
      refine Va (Vp (congrArg PV.bool c6) rfl) rfl ?_
      refine Va (Vm rfl) rfl ?_
      refine Vb rfl rfl (by decide) rfl ?_
      refine Vb rfl rfl (by decide) rfl ?_
      refine Vb rfl rfl (by decide) rfl ?_
      refine Vb rfl rfl (by decide) rfl ?_
      refine Vb rfl rfl (by decide) rfl ?_
      refine Va (Vp rfl rfl) rfl ?_
      refine Va (Vm rfl) rfl ?_
      refine Vb rfl rfl (by decide) rfl ?_
      refine Vb rfl rfl (by decide) rfl ?_
      refine Vb rfl rfl (by decide) rfl ?_
      refine Vb rfl rfl (by decide) rfl ?_
      refine Va (Vp rfl rfl) rfl ?_
      refine Vg ?_
      obtain rfl := Option.some.inj hF
      refine Xv ?_
      exact Vq ⟨rfl, rfl, rfl, trivial⟩
     ·have hF := Ym c6 hF
      rcases Bool.eq_false_or_eq_true (decide (((p1.Pulled).length : Int) ≠ ((p0).length : Int))) with c7 | c7
      ·have hF := Yl c7 hF
       refine Va (Xd rfl) rfl ?_
       refine Vk (Xk rfl Try.call29 (F_belts_sound_ok h3 _)) rfl ?_
       refine Va (Zn rfl) rfl ?_
       refine Va (Vm rfl) rfl ?_
       refine Vz rfl rfl c4 ?_
       refine Va (Vc rfl tf_34_1 ts_22 (by decide)) rfl ?_
       refine Vz rfl rfl c4 ?_
       refine Va (Vf rfl (Vd rfl rfl) rfl ta_22 rfl) rfl ?_
       refine Vz rfl rfl c4 ?_
       refine Va (Xi (Xo rfl rfl te_22) (congrArg (fun n : Nat => PV.int .i64 (n : Int)) (List.length_map _))) rfl ?_
       refine Vz rfl rfl c4 ?_
       refine Va (Vj rfl) rfl ?_
       refine Vz rfl rfl c4 ?_
       refine Va (Zb rfl rfl) rfl ?_
       refine Va (Vo (congrArg PV.bool c4) rfl) rfl ?_
       refine Va (Vm rfl) rfl ?_
       refine Vz rfl rfl c5 ?_
       refine Va (Vc rfl tf_34_2 ts_22 (by decide)) rfl ?_
       refine Vz rfl rfl c5 ?_
       refine Va (Vf rfl (Vd rfl rfl) rfl ta_22 rfl) rfl ?_
       refine Vz rfl rfl c5 ?_
       refine Va (Xi (Xo rfl rfl te_22) (congrArg (fun n : Nat => PV.int .i64 (n : Int)) (List.length_map _))) rfl ?_
       refine Vz rfl rfl c5 ?_
       refine Va (Vj rfl) rfl ?_
       refine Vz rfl rfl c5 ?_
       refine Va (Zb rfl rfl) rfl ?_
       refine Va (Vo (congrArg PV.bool c5) rfl) rfl ?_
       refine Va (Vm rfl) rfl ?_
       refine Vz rfl rfl c6 ?_
       refine Va (Vc rfl tf_34_3 ts_32 (by decide)) rfl ?_
       refine Vz rfl rfl c6 ?_
       refine Va (Vf rfl (Vd rfl rfl) rfl ta_32 rfl) rfl ?_
       refine Vz rfl rfl c6 ?_
       refine Va (Xi (Xo rfl rfl te_32) (congrArg (fun n : Nat => PV.int .i64 (n : Int)) (List.length_map _))) rfl ?_
       refine Vz rfl rfl c6 ?_
       refine Va (Vj rfl) rfl ?_
       refine Vz rfl rfl c6 ?_
       refine Va (Zb rfl rfl) rfl ?_
       refine Va (Vo (congrArg PV.bool c6) rfl) rfl ?_
       refine Va (Vm rfl) rfl ?_
       refine Vb rfl rfl (Zh c7) rfl ?_
       refine Vb rfl rfl (Zh c7) rfl ?_
       refine Vb rfl rfl (Zh c7) rfl ?_
       refine Vb rfl rfl (Zh c7) rfl ?_
       refine Vb rfl rfl (Zh c7) rfl ?_
       refine Va (Vp (congrArg PV.bool c7) rfl) rfl ?_
       refine Va (Vm rfl) rfl ?_
       refine Vb rfl rfl (by decide) rfl ?_
       refine Vb rfl rfl (by decide) rfl ?_
       refine Vb rfl rfl (by decide) rfl ?_
       refine Vb rfl rfl (by decide) rfl ?_
       refine Va (Vp rfl rfl) rfl ?_
       refine Vg ?_
       obtain rfl := Option.some.inj hF
       refine Xv ?_
       exact Vq ⟨rfl, rfl, rfl, trivial⟩
      ·have hF := Ym c7 hF
       rcases Bool.eq_false_or_eq_true (decide (((p1.Held).length : Int) ≠ ((p0).length : Int))) with c8 | c8
       ·have hF := Yl c8 hF
        refine Va (Xd rfl) rfl ?_
        refine Vk (Xk rfl Try.call29 (F_belts_sound_ok h3 _)) rfl ?_
        refine Va (Zn rfl) rfl ?_
        refine Va (Vm rfl) rfl ?_
        refine Vz rfl rfl c4 ?_
        refine Va (Vc rfl tf_34_1 ts_22 (by decide)) rfl ?_
        refine Vz rfl rfl c4 ?_
        refine Va (Vf rfl (Vd rfl rfl) rfl ta_22 rfl) rfl ?_
        refine Vz rfl rfl c4 ?_
        refine Va (Xi (Xo rfl rfl te_22) (congrArg (fun n : Nat => PV.int .i64 (n : Int)) (List.length_map _))) rfl ?_
        refine Vz rfl rfl c4 ?_
        refine Va (Vj rfl) rfl ?_
        refine Vz rfl rfl c4 ?_
        refine Va (Zb rfl rfl) rfl ?_
        refine Va (Vo (congrArg PV.bool c4) rfl) rfl ?_
        refine Va (Vm rfl) rfl ?_
        refine Vz rfl rfl c5 ?_
        refine Va (Vc rfl tf_34_2 ts_22 (by decide)) rfl ?_
        refine Vz rfl rfl c5 ?_
        refine Va (Vf rfl (Vd rfl rfl) rfl ta_22 rfl) rfl ?_
        refine Vz rfl rfl c5 ?_
        refine Va (Xi (Xo rfl rfl te_22) (congrArg (fun n : Nat => PV.int .i64 (n : Int)) (List.length_map _))) rfl ?_
        refine Vz rfl rfl c5 ?_
        refine Va (Vj rfl) rfl ?_
        refine Vz rfl rfl c5 ?_
        refine Va (Zb rfl rfl) rfl ?_
        refine Va (Vo (congrArg PV.bool c5) rfl) rfl ?_
        refine Va (Vm rfl) rfl ?_
        refine Vz rfl rfl c6 ?_
        refine Va (Vc rfl tf_34_3 ts_32 (by decide)) rfl ?_
        refine Vz rfl rfl c6 ?_
        refine Va (Vf rfl (Vd rfl rfl) rfl ta_32 rfl) rfl ?_
        refine Vz rfl rfl c6 ?_
        refine Va (Xi (Xo rfl rfl te_32) (congrArg (fun n : Nat => PV.int .i64 (n : Int)) (List.length_map _))) rfl ?_
        refine Vz rfl rfl c6 ?_
        refine Va (Vj rfl) rfl ?_
        refine Vz rfl rfl c6 ?_
        refine Va (Zb rfl rfl) rfl ?_
        refine Va (Vo (congrArg PV.bool c6) rfl) rfl ?_
        refine Va (Vm rfl) rfl ?_
        refine Vz rfl rfl c7 ?_
        refine Va (Vc rfl tf_34_4 ts_32 (by decide)) rfl ?_
        refine Vz rfl rfl c7 ?_
        refine Va (Vf rfl (Vd rfl rfl) rfl ta_32 rfl) rfl ?_
        refine Vz rfl rfl c7 ?_
        refine Va (Xi (Xo rfl rfl te_32) (congrArg (fun n : Nat => PV.int .i64 (n : Int)) (List.length_map _))) rfl ?_
        refine Vz rfl rfl c7 ?_
        refine Va (Vj rfl) rfl ?_
        refine Vz rfl rfl c7 ?_
        refine Va (Zb rfl rfl) rfl ?_
        refine Va (Vo (congrArg PV.bool c7) rfl) rfl ?_
        refine Va (Vm rfl) rfl ?_
        refine Vb rfl rfl (Zh c8) rfl ?_
        refine Vb rfl rfl (Zh c8) rfl ?_
        refine Vb rfl rfl (Zh c8) rfl ?_
        refine Vb rfl rfl (Zh c8) rfl ?_
        refine Va (Vp (congrArg PV.bool c8) rfl) rfl ?_
        refine Vg ?_
        obtain rfl := Option.some.inj hF
        refine Xv ?_
        exact Vq ⟨rfl, rfl, rfl, trivial⟩
       ·have hF := Ym c8 hF
        obtain ⟨x9, h10, hF⟩ := Ys hF
        refine Va (Xd rfl) rfl ?_
        refine Vk (Xk rfl Try.call29 (F_belts_sound_ok h3 _)) rfl ?_
        refine Va (Zn rfl) rfl ?_
        refine Va (Vm rfl) rfl ?_
        refine Vz rfl rfl c4 ?_
        refine Va (Vc rfl tf_34_1 ts_22 (by decide)) rfl ?_
        refine Vz rfl rfl c4 ?_
        refine Va (Vf rfl (Vd rfl rfl) rfl ta_22 rfl) rfl ?_
        refine Vz rfl rfl c4 ?_
        refine Va (Xi (Xo rfl rfl te_22) (congrArg (fun n : Nat => PV.int .i64 (n : Int)) (List.length_map _))) rfl ?_
        refine Vz rfl rfl c4 ?_
        refine Va (Vj rfl) rfl ?_
        refine Vz rfl rfl c4 ?_
        refine Va (Zb rfl rfl) rfl ?_
        refine Va (Vo (congrArg PV.bool c4) rfl) rfl ?_
        refine Va (Vm rfl) rfl ?_
        refine Vz rfl rfl c5 ?_
        refine Va (Vc rfl tf_34_2 ts_22 (by decide)) rfl ?_
        refine Vz rfl rfl c5 ?_
        refine Va (Vf rfl (Vd rfl rfl) rfl ta_22 rfl) rfl ?_
        refine Vz rfl rfl c5 ?_
        refine Va (Xi (Xo rfl rfl te_22) (congrArg (fun n : Nat => PV.int .i64 (n : Int)) (List.length_map _))) rfl ?_
        refine Vz rfl rfl c5 ?_
        refine Va (Vj rfl) rfl ?_
        refine Vz rfl rfl c5 ?_
        refine Va (Zb rfl rfl) rfl ?_
        refine Va (Vo (congrArg PV.bool c5) rfl) rfl ?_
        refine Va (Vm rfl) rfl ?_
        refine Vz rfl rfl c6 ?_
        refine Va (Vc rfl tf_34_3 ts_32 (by decide)) rfl ?_
        refine Vz rfl rfl c6 ?_
        refine Va (Vf rfl (Vd rfl rfl) rfl ta_32 rfl) rfl ?_
        refine Vz rfl rfl c6 ?_
        refine Va (Xi (Xo rfl rfl te_32) (congrArg (fun n : Nat => PV.int .i64 (n : Int)) (List.length_map _))) rfl ?_
        refine Vz rfl rfl c6 ?_
        refine Va (Vj rfl) rfl ?_
        refine Vz rfl rfl c6 ?_
        refine Va (Zb rfl rfl) rfl ?_
        refine Va (Vo (congrArg PV.bool c6) rfl) rfl ?_
        refine Va (Vm rfl) rfl ?_
        refine Vz rfl rfl c7 ?_
        refine Va (Vc rfl tf_34_4 ts_32 (by decide)) rfl ?_
        refine Vz rfl rfl c7 ?_
        refine Va (Vf rfl (Vd rfl rfl) rfl ta_32 rfl) rfl ?_
        refine Vz rfl rfl c7 ?_
        refine Va (Xi (Xo rfl rfl te_32) (congrArg (fun n : Nat => PV.int .i64 (n : Int)) (List.length_map _))) rfl ?_
        refine Vz rfl rfl c7 ?_
        refine Va (Vj rfl) rfl ?_
        refine Vz rfl rfl c7 ?_
        refine Va (Zb rfl rfl) rfl ?_
        refine Va (Vo (congrArg PV.bool c7) rfl) rfl ?_
        refine Va (Vm rfl) rfl ?_
        refine Vz rfl rfl c8 ?_
        refine Va (Vc rfl tf_34_0 ts_3 (by decide)) rfl ?_
        refine Vz rfl rfl c8 ?_
        refine Va (Vf rfl (Vd rfl rfl) rfl ta_3 rfl) rfl ?_
        refine Vz rfl rfl c8 ?_
        refine Vk (Xk rfl Try.call33 (F_lists_In_ok h10 _)) rfl ?_
        refine Vz rfl rfl c8 ?_
        refine Va (Zn rfl) rfl ?_
        refine Va (Vo (congrArg PV.bool c8) rfl) rfl ?_
        refine Vg ?_
        obtain rfl := Option.some.inj hF
        refine Xv ?_
        exact Vq ⟨rfl, rfl, rfl, trivial⟩
  ·rintro _ _ _ _ ⟨rfl, hw⟩
   refine ⟨_, _, _, hw, ?_⟩
   refine Xj rfl (fun c11 => ?_) (fun c11 => ?_)
   ·have hF := Yl c11 hF
    refine Vi ?_
    refine Ve ?_
    refine Va (Xy rfl) rfl ?_
    refine Vg ?_
    refine Xb ?_
    obtain rfl := Option.some.inj hF
    refine Zy ?_
    exact Vv rfl [] (by decide) ⟨Vs rfl (.bool _), trivial⟩ trivial
   ·have hF := Ym c11 hF
    refine Xq ?_
    refine Vi ?_
    refine Vi ?_
    refine Ve ?_
    refine Va (Vc rfl tf_34_1 ts_22 (by decide)) rfl ?_
    refine Va (Vf rfl (Vd rfl rfl) rfl ta_22 rfl) rfl ?_
    refine Va (Xi (Xo rfl rfl te_22) (congrArg (fun n : Nat => PV.int .i64 (n : Int)) (List.length_map _))) rfl ?_
    refine Va (Vj rfl) rfl ?_
    refine Vg ?_
    refine Yk ?_
    obtain ⟨o13, ho13, hF⟩ := Ys hF
    refine Vw (Zu (F_belts_Valid_L1 p0 p1) (fun s12 E' lw lc => Ya E' lw lc [(0, .vs 2 (List.map T_Belt.enc p0)), (3, .ptr (low.length + 0) 0 0 0), (49, .vs 1 (List.map (PV.int .i64) p1.States)), (50, .int .i64 ((p1.States).length : Int)), (51, .int .i64 s12)] low [⟨34, 5, [.agg [.int .i64 p1.Time, .vs 1 (List.map (PV.int .i64) p1.States), .vs 1 (List.map (PV.int .i64) p1.Since), .vs 1 (List.map PV.bool p1.Pulled), .vs 1 (List.map PV.bool p1.Held)]], 0⟩]) (Sum.elim (fun j14 => OnlyE .ret (fun E' lw lc => Ya E' lw lc [(4, .bool false)] low [])) (fun j15 => OnlyE (.exit 0) (fun E' lw lc => Ya E' lw lc [] low []))) ho13 ?_ (by rintro (_|_) _ _ _ ⟨h, _⟩ <;> cases h) ?_) ?_
    ·exact Vq ⟨rfl, rfl, rfl, rfl, rfl, trivial⟩
    ·rintro s12 os12 _ _ _ hF hw
     unfold F_belts_Valid_L1 at hF
     refine Ye hw ?_
     refine Vi ?_
     refine Ve ?_
     refine Va (Zo rfl rfl) rfl ?_
     refine Vg ?_
     refine Vi ?_
     refine Xj rfl (fun c16 => ?_) (fun c16 => ?_)
     ·have hF := Yl c16 hF
      refine Xq ?_
      refine Vi ?_
      obtain ⟨o17, ho17, hF⟩ := Ys hF
      refine Vw (Q' := Sum.elim (fun j18 => OnlyE .ret (fun E' lw lc => Ya E' lw lc [(4, .bool false)] low [])) (fun j19 => OnlyE .normal (fun E' lw lc => Ya E' lw lc [(0, .vs 2 (List.map T_Belt.enc p0)), (3, .ptr (low.length + 0) 0 0 0), (49, .vs 1 (List.map (PV.int .i64) p1.States)), (50, .int .i64 ((p1.States).length : Int)), (51, .int .i64 s12)] low [⟨34, 5, [.agg [.int .i64 p1.Time, .vs 1 (List.map (PV.int .i64) p1.States), .vs 1 (List.map (PV.int .i64) p1.Since), .vs 1 (List.map PV.bool p1.Pulled), .vs 1 (List.map PV.bool p1.Held)]], 0⟩])) o17) ?_ ?_
      ·replace hF := ho17
       refine Yk ?_
       refine Vi ?_
       refine Ve ?_
       obtain ⟨x20, h21, hF⟩ := Ys hF
       refine Va (Vj rfl) rfl ?_
       refine Va (Xi (Yj rfl rfl h21 te_22 ts_3) (v' := .vptr [.int .i64 x20] 0) rfl) rfl ?_
       refine Va (Xg rfl ta_3 rfl) rfl ?_
       refine Va (Xa rfl) rfl ?_
       refine Va (Xa rfl) rfl ?_
       refine Vg ?_
       refine Vi ?_
       refine Ve ?_
       obtain ⟨x22, h23, hF⟩ := Ys hF
       refine Va (Xd rfl) rfl ?_
       refine Va (Vj rfl) rfl ?_
       refine Va (Xi (Yj rfl rfl h23 te_27 ts_31) (v' := .vptr [.int .i64 x22.Onto, .int .i64 x22.Warn] 0) rfl) rfl ?_
       refine Va (Yb rfl tf_31_0 ts_3 (by decide)) rfl ?_
       refine Va (Xg rfl ta_3 rfl) rfl ?_
       refine Va (Xa rfl) rfl ?_
       refine Vg ?_
       refine Yk ?_
       refine Vi ?_
       obtain ⟨o24, ho24, hF⟩ := Ys hF
       refine Vw (Q' := (fun o24 => OnlyE .normal (fun E' lw lc => Ya E' lw lc [(0, .vs 2 (List.map T_Belt.enc p0)), (3, .ptr (low.length + 0) 0 0 0), (6, .int .i64 s12), (7, .int .i64 x20), (8, .int .i64 x22.Onto), (49, .vs 1 (List.map (PV.int .i64) p1.States)), (50, .int .i64 ((p1.States).length : Int)), (51, .int .i64 s12), (61, .bool o24)] low [⟨34, 5, [.agg [.int .i64 p1.Time, .vs 1 (List.map (PV.int .i64) p1.States), .vs 1 (List.map (PV.int .i64) p1.Since), .vs 1 (List.map PV.bool p1.Pulled), .vs 1 (List.map PV.bool p1.Held)]], 0⟩])) o24) ?_ ?_
       ·replace hF := ho24
        obtain ⟨x25, h26, hF⟩ := Ys hF
        rcases Bool.eq_false_or_eq_true (!x25) with c27 | c27
        ·have hF := Yl c27 hF
         refine Zf [[], [0], [0, 1], [0, 1, 2], [0, 1, 2, 3], [0, 1, 2, 3, 4], [0, 1, 2, 3], [0, 1, 2, 3, 4, 5, 6], [0, 1, 2, 3, 4, 5, 6, 7], [0, 1, 2, 3], [0, 1, 2, 3, 9], [0, 1, 2, 3, 4, 5, 6, 7, 8, 9, 10], [0, 1, 2, 3, 4, 5, 6, 7, 8, 9, 10, 11], [0, 1, 2, 3, 4, 5, 6, 7, 8, 9, 10, 11, 12], [0, 1, 2, 3, 4, 5, 6, 7, 8, 9, 10, 11, 12, 13]] mixed (by kernel_rfl) rfl ?_
         refine Yn rfl rfl (Vj rfl) ?_
         refine dn1 rfl rfl (nt_of (Xk rfl Try.call33 (F_lists_In_ok h26 _))) ?_
         refine Yn rfl rfl (Zn rfl) ?_
         refine Yn rfl rfl (Vm rfl) ?_
         refine Vn rfl rfl rfl (Zh c27) ?_
         refine Vn rfl rfl rfl (Zh c27) ?_
         refine Vn rfl rfl rfl (Zh c27) ?_
         refine Vn rfl rfl rfl (Zh c27) ?_
         refine Vn rfl rfl rfl (Zh c27) ?_
         refine Vn rfl rfl rfl (Zh c27) ?_
         refine Vn rfl rfl rfl (Zh c27) ?_
         refine Vn rfl rfl rfl (Zh c27) ?_
         refine Vn rfl rfl rfl (Zh c27) ?_
         refine Yn rfl rfl (Vp (congrArg PV.bool c27) rfl) ?_
         refine Yn rfl rfl (Xy rfl) ?_
         refine Yz ?_
         obtain rfl := Option.some.inj hF
         refine Xv ?_
         exact Vq ⟨rfl, rfl, rfl, rfl, rfl, rfl, rfl, rfl, rfl, trivial⟩
        ·have hF := Ym c27 hF
         obtain ⟨x28, h29, hF⟩ := Ys hF
         obtain ⟨x30, h31, hF⟩ := Ys hF
         refine Zf [[], [0], [0, 1], [0, 1, 2], [0, 1, 2, 3], [0, 1, 2, 3, 4], [0, 1, 2, 3], [0, 1, 2, 3, 4, 5, 6], [0, 1, 2, 3, 4, 5, 6, 7], [0, 1, 2, 3], [0, 1, 2, 3, 9], [0, 1, 2, 3, 4, 5, 6, 7, 8, 9, 10], [0, 1, 2, 3, 4, 5, 6, 7, 8, 9, 10, 11], [0, 1, 2, 3, 4, 5, 6, 7, 8, 9, 10, 11, 12], [0, 1, 2, 3, 4, 5, 6, 7, 8, 9, 10, 11, 12, 13]] mixed (by kernel_rfl) rfl ?_
         refine Yn rfl rfl (Vj rfl) ?_
         refine dn1 rfl rfl (nt_of (Xk rfl Try.call33 (F_lists_In_ok h26 _))) ?_
         refine Yn rfl rfl (Zn rfl) ?_
         refine Yn rfl rfl (Vm rfl) ?_
         refine Zk rfl rfl rfl rfl c27 (Vc rfl tf_34_2 ts_22 (by decide)) ?_
         refine Zk rfl rfl rfl rfl c27 (Vf rfl (Vd rfl rfl) rfl ta_22 rfl) ?_
         refine Zk rfl rfl rfl rfl c27 (Vj rfl) ?_
         refine Zk rfl rfl rfl rfl c27 (Xi (Yj rfl rfl h29 te_22 ts_3) (v' := .vptr [.int .i64 x28] 0) rfl) ?_
         refine Zk rfl rfl rfl rfl c27 (Xg rfl ta_3 rfl) ?_
         refine Zk rfl rfl rfl rfl c27 (Vc rfl tf_34_0 ts_3 (by decide)) ?_
         refine Zk rfl rfl rfl rfl c27 (Vf rfl (Vd rfl rfl) rfl ta_3 rfl) ?_
         refine Wf _ rfl rfl rfl (congrArg PV.bool c27) (Yg (nt_of (Xk rfl Try.call33 (F_lists_In_ok h31 _))) Zt) ?_
         refine Zk rfl rfl rfl rfl c27 (Zn rfl) ?_
         refine Yn rfl rfl (Vo (congrArg PV.bool c27) rfl) ?_
         refine Yn rfl rfl (Xy rfl) ?_
         refine Yz ?_
         obtain rfl := Option.some.inj hF
         refine Xv ?_
         exact Vq ⟨rfl, rfl, rfl, rfl, rfl, rfl, rfl, rfl, rfl, trivial⟩
       ·rintro _ _ _ _ ⟨rfl, hw⟩
        refine ⟨_, _, _, hw, ?_⟩
        refine Xj rfl (fun c32 => ?_) (fun c32 => ?_)
        ·have hF := Yl c32 hF
         refine Vi ?_
         refine Ve ?_
         refine Va (Xy rfl) rfl ?_
         refine Vg ?_
         refine Xb ?_
         obtain rfl := Option.some.inj hF
         refine Xv ?_
         exact Vv rfl [] (by decide) ⟨Vs rfl (.bool _), trivial⟩ trivial
        ·have hF := Ym c32 hF
         refine Vi ?_
         refine Ve ?_
         refine Va (Vj rfl) rfl ?_
         refine Va (Xm rfl rfl) rfl ?_
         refine Va (Xy rfl) rfl ?_
         refine Vg ?_
         refine Xj rfl (fun c33 => ?_) (fun c33 => ?_)
         ·have hF := Yl c33 hF
          refine Xq ?_
          obtain rfl := Option.some.inj hF
          refine Xv ?_
          exact Vq ⟨rfl, rfl, rfl, rfl, rfl, trivial⟩
         ·have hF := Ym c33 hF
          refine Vi ?_
          obtain ⟨o34, ho34, hF⟩ := Ys hF
          refine Vw (Q' := (fun o34 => OnlyE .normal (fun E' lw lc => Ya E' lw lc [(0, .vs 2 (List.map T_Belt.enc p0)), (3, .ptr (low.length + 0) 0 0 0), (49, .vs 1 (List.map (PV.int .i64) p1.States)), (50, .int .i64 ((p1.States).length : Int)), (51, .int .i64 s12), (79, .bool o34)] low [⟨34, 5, [.agg [.int .i64 p1.Time, .vs 1 (List.map (PV.int .i64) p1.States), .vs 1 (List.map (PV.int .i64) p1.Since), .vs 1 (List.map PV.bool p1.Pulled), .vs 1 (List.map PV.bool p1.Held)]], 0⟩])) o34) ?_ ?_
          ·replace hF := ho34
           refine Ve ?_
           obtain ⟨x35, h36, hF⟩ := Ys hF
           rcases Bool.eq_false_or_eq_true x35 with c37 | c37
           ·have hF := Yl c37 hF
            refine Va (Vc rfl tf_34_3 ts_32 (by decide)) rfl ?_
            refine Va (Vf rfl (Vd rfl rfl) rfl ta_32 rfl) rfl ?_
            refine Va (Vj rfl) rfl ?_
            refine Va (Xi (Yj rfl rfl h36 te_32 ts_4) (v' := .vptr [.bool x35] 0) rfl) rfl ?_
            refine Va (Xg rfl ta_4 rfl) rfl ?_
            refine Va (Vm rfl) rfl ?_
            refine Vb rfl rfl (Zh c37) rfl ?_
            refine Vb rfl rfl (Zh c37) rfl ?_
            refine Vb rfl rfl (Zh c37) rfl ?_
            refine Vb rfl rfl (Zh c37) rfl ?_
            refine Vb rfl rfl (Zh c37) rfl ?_
            refine Va (Vp (congrArg PV.bool c37) rfl) rfl ?_
            refine Va (Vm rfl) rfl ?_
            refine Vb rfl rfl (by decide) rfl ?_
            refine Vb rfl rfl (by decide) rfl ?_
            refine Vb rfl rfl (by decide) rfl ?_
            refine vops_skipX rfl rfl rfl ?_
            refine vops_skipX rfl rfl rfl ?_
            refine vops_skipX rfl rfl rfl ?_
            refine vops_skipX rfl rfl rfl ?_
            refine vops_skipX rfl rfl rfl ?_
            refine vops_skipX rfl rfl rfl ?_
            refine Vb rfl rfl (by decide) rfl ?_
            refine Va (Vp rfl rfl) rfl ?_
            refine Va (Xy rfl) rfl ?_
            refine Vg ?_
            obtain rfl := Option.some.inj hF
            refine Xv ?_
            exact Vq ⟨rfl, rfl, rfl, rfl, rfl, rfl, trivial⟩
           ·have hF := Ym c37 hF
            obtain ⟨x38, h39, hF⟩ := Ys hF
            rcases Bool.eq_false_or_eq_true x38 with c40 | c40
            ·have hF := Yl c40 hF
             refine Va (Vc rfl tf_34_3 ts_32 (by decide)) rfl ?_
             refine Va (Vf rfl (Vd rfl rfl) rfl ta_32 rfl) rfl ?_
             refine Va (Vj rfl) rfl ?_
             refine Va (Xi (Yj rfl rfl h36 te_32 ts_4) (v' := .vptr [.bool x35] 0) rfl) rfl ?_
             refine Va (Xg rfl ta_4 rfl) rfl ?_
             refine Va (Vm rfl) rfl ?_
             refine Vz rfl rfl c37 ?_
             refine Va (Vc rfl tf_34_4 ts_32 (by decide)) rfl ?_
             refine Vz rfl rfl c37 ?_
             refine Va (Vf rfl (Vd rfl rfl) rfl ta_32 rfl) rfl ?_
             refine Vz rfl rfl c37 ?_
             refine Va (Vj rfl) rfl ?_
             refine Vz rfl rfl c37 ?_
             refine Va (Xi (Yj rfl rfl h39 te_32 ts_4) (v' := .vptr [.bool x38] 0) rfl) rfl ?_
             refine Vz rfl rfl c37 ?_
             refine Va (Xg rfl ta_4 rfl) rfl ?_
             refine Va (Vo (congrArg PV.bool c37) rfl) rfl ?_
             refine Va (Vm rfl) rfl ?_
             refine Vb rfl rfl (Zh c40) rfl ?_
             refine Vb rfl rfl (Zh c40) rfl ?_
             refine Vb rfl rfl (Zh c40) rfl ?_
             refine vops_skipX rfl rfl rfl ?_
             refine vops_skipX rfl rfl rfl ?_
             refine vops_skipX rfl rfl rfl ?_
             refine vops_skipX rfl rfl rfl ?_
             refine vops_skipX rfl rfl rfl ?_
             refine vops_skipX rfl rfl rfl ?_
             refine Vb rfl rfl (Zh c40) rfl ?_
             refine Va (Vp (congrArg PV.bool c40) rfl) rfl ?_
             refine Va (Xy rfl) rfl ?_
             refine Vg ?_
             obtain rfl := Option.some.inj hF
             refine Xv ?_
             exact Vq ⟨rfl, rfl, rfl, rfl, rfl, rfl, trivial⟩
            ·have hF := Ym c40 hF
             rcases Bool.eq_false_or_eq_true (decide (0 ≤ x22.Onto)) with c41 | c41
             ·have hF := Yl c41 hF
              obtain ⟨x42, h43, hF⟩ := Ys hF
              refine Va (Vc rfl tf_34_3 ts_32 (by decide)) rfl ?_
              refine Va (Vf rfl (Vd rfl rfl) rfl ta_32 rfl) rfl ?_
              refine Va (Vj rfl) rfl ?_
              refine Va (Xi (Yj rfl rfl h36 te_32 ts_4) (v' := .vptr [.bool x35] 0) rfl) rfl ?_
              refine Va (Xg rfl ta_4 rfl) rfl ?_
              refine Va (Vm rfl) rfl ?_
              refine Vz rfl rfl c37 ?_
              refine Va (Vc rfl tf_34_4 ts_32 (by decide)) rfl ?_
              refine Vz rfl rfl c37 ?_
              refine Va (Vf rfl (Vd rfl rfl) rfl ta_32 rfl) rfl ?_
              refine Vz rfl rfl c37 ?_
              refine Va (Vj rfl) rfl ?_
              refine Vz rfl rfl c37 ?_
              refine Va (Xi (Yj rfl rfl h39 te_32 ts_4) (v' := .vptr [.bool x38] 0) rfl) rfl ?_
              refine Vz rfl rfl c37 ?_
              refine Va (Xg rfl ta_4 rfl) rfl ?_
              refine Va (Vo (congrArg PV.bool c37) rfl) rfl ?_
              refine Va (Vm rfl) rfl ?_
              refine Vz rfl rfl c40 ?_
              refine Va (Vj rfl) rfl ?_
              refine Vz rfl rfl c40 ?_
              refine Va (rd_geq rfl rfl) rfl ?_
              refine Vz rfl rfl c40 ?_
              refine Va (Vm rfl) rfl ?_
              refine Vz rfl rfl c41 ?_
              refine Va (Vc rfl tf_34_1 ts_22 (by decide)) rfl ?_
              refine Vz rfl rfl c41 ?_
              refine Va (Vf rfl (Vd rfl rfl) rfl ta_22 rfl) rfl ?_
              refine Vz rfl rfl c41 ?_
              refine Va (Vj rfl) rfl ?_
              refine Vz rfl rfl c41 ?_
              refine Va (Xi (Yj rfl rfl h43 te_22 ts_3) (v' := .vptr [.int .i64 x42] 0) rfl) rfl ?_
              refine Vz rfl rfl c41 ?_
              refine Va (Xg rfl ta_3 rfl) rfl ?_
              refine Vz rfl rfl c41 ?_
              refine Va (Zb rfl rfl) rfl ?_
              refine Vz rfl rfl c40 ?_
              refine Va (Vp (congrArg PV.bool c41) rfl) rfl ?_
              refine Va (Vo (congrArg PV.bool c40) rfl) rfl ?_
              refine Va (Xy rfl) rfl ?_
              refine Vg ?_
              obtain rfl := Option.some.inj hF
              refine Xv ?_
              exact Vq ⟨rfl, rfl, rfl, rfl, rfl, rfl, trivial⟩
             ·have hF := Ym c41 hF
              refine Va (Vc rfl tf_34_3 ts_32 (by decide)) rfl ?_
              refine Va (Vf rfl (Vd rfl rfl) rfl ta_32 rfl) rfl ?_
              refine Va (Vj rfl) rfl ?_
              refine Va (Xi (Yj rfl rfl h36 te_32 ts_4) (v' := .vptr [.bool x35] 0) rfl) rfl ?_
              refine Va (Xg rfl ta_4 rfl) rfl ?_
              refine Va (Vm rfl) rfl ?_
              refine Vz rfl rfl c37 ?_
              refine Va (Vc rfl tf_34_4 ts_32 (by decide)) rfl ?_
              refine Vz rfl rfl c37 ?_
              refine Va (Vf rfl (Vd rfl rfl) rfl ta_32 rfl) rfl ?_
              refine Vz rfl rfl c37 ?_
              refine Va (Vj rfl) rfl ?_
              refine Vz rfl rfl c37 ?_
              refine Va (Xi (Yj rfl rfl h39 te_32 ts_4) (v' := .vptr [.bool x38] 0) rfl) rfl ?_
              refine Vz rfl rfl c37 ?_
              refine Va (Xg rfl ta_4 rfl) rfl ?_
              refine Va (Vo (congrArg PV.bool c37) rfl) rfl ?_
              refine Va (Vm rfl) rfl ?_
              refine Vz rfl rfl c40 ?_
              refine Va (Vj rfl) rfl ?_
              refine Vz rfl rfl c40 ?_
              refine Va (rd_geq rfl rfl) rfl ?_
              refine Vz rfl rfl c40 ?_
              refine Va (Vm rfl) rfl ?_
              refine Vb rfl rfl (Zm c41) rfl ?_
              refine Vb rfl rfl (Zm c41) rfl ?_
              refine Vb rfl rfl (Zm c41) rfl ?_
              refine Vb rfl rfl (Zm c41) rfl ?_
              refine Vb rfl rfl (Zm c41) rfl ?_
              refine Vb rfl rfl (Zm c41) rfl ?_
              refine Vz rfl rfl c40 ?_
              refine Va (Vo (congrArg PV.bool c41) rfl) rfl ?_
              refine Va (Vo (congrArg PV.bool c40) rfl) rfl ?_
              refine Va (Xy rfl) rfl ?_
              refine Vg ?_
              obtain rfl := Option.some.inj hF
              refine Xv ?_
              exact Vq ⟨rfl, rfl, rfl, rfl, rfl, rfl, trivial⟩
          ·rintro _ _ _ _ ⟨rfl, hw⟩
           refine ⟨_, _, _, hw, ?_⟩
           refine Xj rfl (fun c44 => ?_) (fun c44 => ?_)
           ·have hF := Yl c44 hF
            refine Vi ?_
            refine Ve ?_
            refine Va (Xy rfl) rfl ?_
            refine Vg ?_
            refine Xb ?_
            obtain rfl := Option.some.inj hF
            refine Xv ?_
            exact Vv rfl [] (by decide) ⟨Vs rfl (.bool _), trivial⟩ trivial
           ·have hF := Ym c44 hF
            refine Xq ?_
            obtain rfl := Option.some.inj hF
            refine Xv ?_
            exact Vq ⟨rfl, rfl, rfl, rfl, rfl, trivial⟩
      ·rcases o17 with j18 | j19
       ·replace hF := elimL hF
        rintro _ _ _ _ ⟨rfl, hw⟩
        refine ⟨_, _, _, hw, ?_⟩
        obtain rfl := Option.some.inj hF
        refine Xv ?_
        exact Vq ⟨rfl, trivial⟩
       ·replace hF := elimR hF
        rintro _ _ _ _ ⟨rfl, hw⟩
        refine ⟨_, _, _, hw, ?_⟩
        refine Ve ?_
        refine Va (rd_add rfl rfl rfl) rfl ?_
        refine Va (Vj rfl) rfl ?_
        refine Vg ?_
        obtain rfl := Option.some.inj hF
        refine Xv ?_
        exact Vq ⟨rfl, rfl, rfl, rfl, rfl, trivial⟩
     ·have hF := Ym c16 hF
      refine We ?_
      obtain rfl := Option.some.inj hF
      refine Xv ?_
      exact Vv rfl [] (by decide) trivial trivial
    ·rcases o13 with j14 | j15
     ·replace hF := elimL hF
      rintro _ _ _ _ ⟨rfl, hw⟩
      refine ⟨_, _, _, hw, ?_⟩
      obtain rfl := Option.some.inj hF
      refine Zy ?_
      exact Vq ⟨rfl, trivial⟩
     ·replace hF := elimR hF
      rintro _ _ _ _ ⟨rfl, hw⟩
      refine ⟨_, _, _, hw, ?_⟩
      refine Vi ?_
      refine Ve ?_
      refine Va (Xy rfl) rfl ?_
      refine Vg ?_
      refine Xb ?_
      obtain rfl := Option.some.inj hF
      refine Zy ?_
      exact Vq ⟨rfl, trivial⟩
 ·rintro _ _ _ _ ⟨he, hw⟩
  refine ⟨_, _, _, hw, ?_⟩
  exact Ze he [.bool r] ⟨rfl, trivial⟩ (.bool _) ⟨rfl, rfl⟩

theorem F_belts_checked_ok {p0 : List T_Belt} {p1 : T_Line} {p2 : Int} {r : Int} (hF : F_belts_checked p0 p1 p2 = some r) (low : List AObj) :
    Yv Try.prog 30 [.vs 2 (List.map T_Belt.enc p0), .agg [.int .i64 p1.Time, .vs 1 (List.map (PV.int .i64) p1.States), .vs 1 (List.map (PV.int .i64) p1.Since), .vs 1 (List.map PV.bool p1.Pulled), .vs 1 (List.map PV.bool p1.Held)], .int .i64 p2] low fun x low' => x = .int .i64 r ∧ low' = low := by
 refine Xc (nt := 19) (rs := [.tmp 6]) Try.func30 rfl rfl (Nat.le_of_ble_eq_true rfl) rfl ?_
 refine Vw (Q' := FnE (fun E' lw lc => Ya E' lw lc [(6, .int .i64 r)] low [])) ?_ ?_
 ·unfold F_belts_checked at hF
  refine Vi ?_
  refine Ve ?_
  refine Vk (Yw rfl rfl (v := .agg [.int .i64 p1.Time, .vs 1 (List.map (PV.int .i64) p1.States), .vs 1 (List.map (PV.int .i64) p1.Since), .vs 1 (List.map PV.bool p1.Pulled), .vs 1 (List.map PV.bool p1.Held)]) rfl rfl (Nat.succ_pos _) rfl rfl) rfl ?_
  refine Va (Xa rfl) rfl ?_
  refine Vg ?_
  refine Vi ?_
  refine Yk ?_
  refine Vi ?_
  refine Ve ?_
  obtain ⟨x1, h2, hF⟩ := Ys hF
  refine Va (Xd rfl) rfl ?_
  refine Va (Vu (ds := [.int .i64 p1.Time, .vs 1 (List.map (PV.int .i64) p1.States), .vs 1 (List.map (PV.int .i64) p1.Since), .vs 1 (List.map PV.bool p1.Pulled), .vs 1 (List.map PV.bool p1.Held)]) rfl (Vd rfl rfl) rfl ta_34 ts_34 rfl rfl rfl) rfl ?_
  refine Vk (Xk rfl Try.call28 (F_belts_Valid_ok h2 _)) rfl ?_
  refine Va (Zn rfl) rfl ?_
  refine Va (Xy rfl) rfl ?_
  refine Vg ?_
  refine Xj rfl (fun c3 => ?_) (fun c3 => ?_)
  ·have hF := Yl c3 hF
   refine Vi ?_
   refine Ve ?_
   refine Va (Xa rfl) rfl ?_
   refine Vg ?_
   refine Xb ?_
   obtain rfl := Option.some.inj hF
   refine Zy ?_
   exact Vv rfl [] (by decide) ⟨Vs rfl (.int _ _), trivial⟩ trivial
  ·have hF := Ym c3 hF
   refine Vi ?_
   refine Ve ?_
   obtain ⟨x4, h5, hF⟩ := Ys hF
   refine Va (Vj rfl) rfl ?_
   refine Va (Xd rfl) rfl ?_
   refine Va (Xi (Xo rfl rfl te_27) (congrArg (fun n : Nat => PV.int .i64 (n : Int)) (List.length_map _))) rfl ?_
   refine Va (rd_sub rfl rfl rfl) rfl ?_
   refine Vk (Xk rfl Try.call33 (F_lists_In_ok h5 _)) rfl ?_
   refine Va (Zn rfl) rfl ?_
   refine Va (Xy rfl) rfl ?_
   refine Vg ?_
   refine Xj rfl (fun c6 => ?_) (fun c6 => ?_)
   ·have hF := Yl c6 hF
    refine Vi ?_
    refine Ve ?_
    refine Va (Xa rfl) rfl ?_
    refine Vg ?_
    refine Xb ?_
    obtain rfl := Option.some.inj hF
    refine Zy ?_
    exact Vv rfl [] (by decide) ⟨Vs rfl (.int _ _), trivial⟩ trivial
   ·have hF := Ym c6 hF
    refine Xq ?_
    refine Vi ?_
    refine Ve ?_
    refine Va (Xa rfl) rfl ?_
    refine Vg ?_
    refine Xb ?_
    obtain rfl := Option.some.inj hF
    refine Zy ?_
    exact Vv rfl [] (by decide) ⟨Vs rfl (.int _ _), trivial⟩ trivial
 ·rintro _ _ _ _ ⟨he, hw⟩
  refine ⟨_, _, _, hw, ?_⟩
  exact Ze he [.int .i64 r] ⟨rfl, trivial⟩ (.int _ _) ⟨rfl, rfl⟩

theorem F_belts_Start_1_ok0 {p0 : T_Line} {p1 : Int} {r : T_Line} (hF : F_belts_Start_1 p0 p1 = some r) {low0 : List AObj} {q0 q1 q2 q3 q4 q5 w0 w1 w2 w3 w4 w5 : Nat} (hB : Bor low0 [q0, q1, q2, q3, q4, q5]) {m1 : Nat} (hm1 : m1 = (p0.States).length) {m2 : Nat} (hm2 : m2 = (p0.Since).length) {m3 : Nat} (hm3 : m3 = (p0.Pulled).length) {m4 : Nat} (hm4 : m4 = (p0.Held).length) {n : Nat} (hn : low0.length = n) :
    Yv Try.prog 32 [.ptr q0 w0 0 0, .ptr q5 w5 0 0] (setL low0 [(q0, ⟨34, 5, [.agg [.int .i64 p0.Time, .sl q1 w1 0 m1, .sl q2 w2 0 m2, .sl q3 w3 0 m3, .sl q4 w4 0 m4]], w0⟩), (q1, ⟨3, 1, List.map (PV.int .i64) p0.States, w1⟩), (q2, ⟨3, 1, List.map (PV.int .i64) p0.Since, w2⟩), (q3, ⟨4, 1, List.map PV.bool p0.Pulled, w3⟩), (q4, ⟨4, 1, List.map PV.bool p0.Held, w4⟩), (q5, ⟨3, 1, [.int .i64 p1], w5⟩)]) fun x low' => x = .tup [] ∧ low' = setL low0 [(q0, ⟨34, 5, [.agg [.int .i64 r.Time, .sl q1 w1 0 m1, .sl q2 w2 0 m2, .sl q3 w3 0 m3, .sl q4 w4 0 m4]], w0⟩), (q1, ⟨3, 1, List.map (PV.int .i64) r.States, w1⟩), (q2, ⟨3, 1, List.map (PV.int .i64) r.Since, w2⟩), (q3, ⟨4, 1, List.map PV.bool r.Pulled, w3⟩), (q4, ⟨4, 1, List.map PV.bool r.Held, w4⟩), (q5, ⟨3, 1, [.int .i64 p1], w5⟩)] ++ [] := by
 refine Xc (nt := 19) (rs := []) Try.func32 rfl rfl (Nat.le_of_ble_eq_true rfl) rfl ?_
 have hq0 : q0 < n := hB.ltN hn 0 rfl
 have hq1 : q1 < n := hB.ltN hn 1 rfl
 have hq2 : q2 < n := hB.ltN hn 2 rfl
 have hq3 : q3 < n := hB.ltN hn 3 rfl
 have hq4 : q4 < n := hB.ltN hn 4 rfl
 have hq5 : q5 < n := hB.ltN hn 5 rfl
 refine Vw (Q' := FnE (fun E' lw lc => m1 = (r.States).length ∧ m2 = (r.Since).length ∧ m3 = (r.Pulled).length ∧ m4 = (r.Held).length ∧ Ya E' lw lc [] (setL low0 [(q0, ⟨34, 5, [.agg [.int .i64 r.Time, .sl q1 w1 0 m1, .sl q2 w2 0 m2, .sl q3 w3 0 m3, .sl q4 w4 0 m4]], w0⟩), (q1, ⟨3, 1, List.map (PV.int .i64) r.States, w1⟩), (q2, ⟨3, 1, List.map (PV.int .i64) r.Since, w2⟩), (q3, ⟨4, 1, List.map PV.bool r.Pulled, w3⟩), (q4, ⟨4, 1, List.map PV.bool r.Held, w4⟩), (q5, ⟨3, 1, [.int .i64 p1], w5⟩)]) [])) ?_ ?_
 ·unfold F_belts_Start_1 at hF
  obtain ⟨x5, h6, hF⟩ := Ys hF
  obtain ⟨x7, h8, hF⟩ := Ys hF
  refine Wb [[], [0], [0, 1], [0, 1, 2], [], [], [5], [5, 6], [5, 6, 7], [], [], [10], [10, 11], [10, 11, 12], [0, 1, 2, 3, 4, 5, 6, 7, 8, 10, 11, 12, 13], [0, 1, 2, 3, 4, 5, 6, 7, 8, 10, 11, 12, 13, 14], [0, 1, 2, 3, 4, 5, 6, 7, 8, 9, 10, 11, 12, 13, 14, 15], [0, 1, 2, 3, 4, 5, 6, 7, 8, 9, 10, 11, 12, 13, 14, 15, 16]] [false, false, false, false, false, false, false, false, false, false, false, false, false, false, false, true, false, true] [((setL low0 [(q0, ⟨34, 5, [.agg [.int .i64 p0.Time, .sl q1 w1 0 m1, .sl q2 w2 0 m2, .sl q3 w3 0 m3, .sl q4 w4 0 m4]], w0⟩), (q1, ⟨3, 1, List.map (PV.int .i64) p0.States, w1⟩), (q2, ⟨3, 1, List.map (PV.int .i64) p0.Since, w2⟩), (q3, ⟨4, 1, List.map PV.bool p0.Pulled, w3⟩), (q4, ⟨4, 1, List.map PV.bool p0.Held, w4⟩), (q5, ⟨3, 1, [.int .i64 p1], w5⟩)]), []), ((setL low0 [(q0, ⟨34, 5, [.agg [.int .i64 p0.Time, .sl q1 w1 0 m1, .sl q2 w2 0 m2, .sl q3 w3 0 m3, .sl q4 w4 0 m4]], w0⟩), (q1, ⟨3, 1, List.map (PV.int .i64) (p0.States.set ((p1).toNat) 1), w1⟩), (q2, ⟨3, 1, List.map (PV.int .i64) p0.Since, w2⟩), (q3, ⟨4, 1, List.map PV.bool p0.Pulled, w3⟩), (q4, ⟨4, 1, List.map PV.bool p0.Held, w4⟩), (q5, ⟨3, 1, [.int .i64 p1], w5⟩)]), []), ((setL low0 [(q0, ⟨34, 5, [.agg [.int .i64 p0.Time, .sl q1 w1 0 m1, .sl q2 w2 0 m2, .sl q3 w3 0 m3, .sl q4 w4 0 m4]], w0⟩), (q1, ⟨3, 1, List.map (PV.int .i64) (p0.States.set ((p1).toNat) 1), w1⟩), (q2, ⟨3, 1, List.map (PV.int .i64) (p0.Since.set ((p1).toNat) p0.Time), w2⟩), (q3, ⟨4, 1, List.map PV.bool p0.Pulled, w3⟩), (q4, ⟨4, 1, List.map PV.bool p0.Held, w4⟩), (q5, ⟨3, 1, [.int .i64 p1], w5⟩)]), [])] mixed (by kernel_rfl) rfl (lenAll (Yg Xl (Yg Xl (Yg Xl Zt)))) rfl _ rfl rfl ?_
  refine Yn rfl rfl (rd_mvP rfl) ?_
  refine Yn rfl rfl (Wg rfl) ?_
  refine Yn rfl rfl (Vc rfl tf_34_1 ts_22 (by decide)) ?_
  refine Yn rfl rfl (Vf rfl (Za hB rfl 0 rfl) rfl ta_22 rfl) ?_
  refine Yn rfl rfl (Vf rfl (Za hB rfl 5 rfl) rfl ta_3 rfl) ?_
  refine Yn rfl rfl (rd_mvP rfl) ?_
  refine Yn rfl rfl (Wg rfl) ?_
  refine Yn rfl rfl (Vc rfl tf_34_2 ts_22 (by decide)) ?_
  refine Yn rfl rfl (Vf rfl (Za hB rfl 0 rfl) rfl ta_22 rfl) ?_
  refine Yy _ rfl rfl (Yg (Xh.ntl (Vf rfl (Za hB rfl 5 rfl) rfl ta_3 rfl)) (Yg (Xh.ntl (Vf rfl (Za hB rfl 5 rfl) rfl ta_3 rfl)) Zt)) ?_
  refine Yn rfl rfl (rd_mvP rfl) ?_
  refine Yn rfl rfl (Wg rfl) ?_
  refine Yn rfl rfl (Vc rfl tf_34_0 ts_3 (by decide)) ?_
  refine Yn rfl rfl (Vf rfl (Za hB rfl 0 rfl) rfl ta_3 rfl) ?_
  refine Yn rfl rfl (Zv rfl hm1 rfl (Za hB rfl 1 rfl) h6 te_22 ts_3) ?_
  refine Zp rfl rfl rfl (vef_stL (p := .int .i64 1) (e' := 1) rfl (Za hB rfl 1 rfl) (Zc h6).2 rfl ts_3 rfl (Yc rfl) (Nat.le_of_ble_eq_true rfl) rfl (setO_B hB rfl 1 rfl (Vh (fun _ => .int _ _)) rfl)) ?_
  refine Yn rfl rfl (Zv rfl hm2 rfl (Za hB rfl 2 rfl) h8 te_22 ts_3) ?_
  refine Zp rfl rfl rfl (vef_stL (p := .int .i64 p0.Time) (e' := p0.Time) rfl (Za hB rfl 2 rfl) (Zc h8).2 rfl ts_3 rfl (Yc rfl) (Nat.le_of_ble_eq_true rfl) rfl (setO_B hB rfl 2 rfl (Vh (fun _ => .int _ _)) rfl)) ?_
  refine Yz ?_
  obtain rfl := Option.some.inj hF
  refine And.intro (.inl rfl) (And.intro (Eq.trans hm1 List.length_set.symm) (And.intro (Eq.trans hm2 List.length_set.symm) (And.intro hm3 (And.intro hm4 ?_))))
  exact Vq trivial
 ·rintro _ _ _ _ ⟨he, hl1, hl2, hl3, hl4, hw⟩
  refine ⟨_, _, _, hw, ?_⟩
  exact Ze he [] trivial ((lt_tup trivial)) ⟨rfl, (List.append_nil _).symm⟩

theorem F_belts_Start_1_len {p0 : T_Line} {p1 : Int} {r : T_Line} (hF : F_belts_Start_1 p0 p1 = some r) {m1 : Nat} (hm1 : m1 = (p0.States).length) {m2 : Nat} (hm2 : m2 = (p0.Since).length) {m3 : Nat} (hm3 : m3 = (p0.Pulled).length) {m4 : Nat} (hm4 : m4 = (p0.Held).length) : m1 = (r.States).length ∧ m2 = (r.Since).length ∧ m3 = (r.Pulled).length ∧ m4 = (r.Held).length ∧ True := by
  have h : LP (F_belts_Start_1 p0 p1) (fun r => m1 = (r.States).length ∧ m2 = (r.Since).length ∧ m3 = (r.Pulled).length ∧ m4 = (r.Held).length ∧ True) := by
    unfold F_belts_Start_1
    exact (Wj fun x5 h6 => Wj fun x7 h8 => Wi ⟨(Eq.trans hm1 List.length_set.symm), (Eq.trans hm2 List.length_set.symm), hm3, hm4, trivial⟩)
  exact h r hF

theorem F_belts_Start_1_ok {p0 : T_Line} {p1 : Int} {r : T_Line} (hF : F_belts_Start_1 p0 p1 = some r) {low : List AObj} {q0 q1 q2 q3 q4 q5 w0 w1 w2 w3 w4 w5 : Nat} (hnd : [q0, q1, q2, q3, q4, q5].Nodup) {m1 : Nat} (hm1 : m1 = (p0.States).length) {m2 : Nat} (hm2 : m2 = (p0.Since).length) {m3 : Nat} (hm3 : m3 = (p0.Pulled).length) {m4 : Nat} (hm4 : m4 = (p0.Held).length) (hq0 : low[q0]? = some ⟨34, 5, [.agg [.int .i64 p0.Time, .sl q1 w1 0 m1, .sl q2 w2 0 m2, .sl q3 w3 0 m3, .sl q4 w4 0 m4]], w0⟩) (hq1 : low[q1]? = some ⟨3, 1, List.map (PV.int .i64) p0.States, w1⟩) (hq2 : low[q2]? = some ⟨3, 1, List.map (PV.int .i64) p0.Since, w2⟩) (hq3 : low[q3]? = some ⟨4, 1, List.map PV.bool p0.Pulled, w3⟩) (hq4 : low[q4]? = some ⟨4, 1, List.map PV.bool p0.Held, w4⟩) (hq5 : low[q5]? = some ⟨3, 1, [.int .i64 p1], w5⟩) {n : Nat} (hn : low.length = n) :
    Yv Try.prog 32 [.ptr q0 w0 0 0, .ptr q5 w5 0 0] low fun x low' => x = .tup [] ∧ low' = setL low [(q0, ⟨34, 5, [.agg [.int .i64 r.Time, .sl q1 w1 0 m1, .sl q2 w2 0 m2, .sl q3 w3 0 m3, .sl q4 w4 0 m4]], w0⟩), (q1, ⟨3, 1, List.map (PV.int .i64) r.States, w1⟩), (q2, ⟨3, 1, List.map (PV.int .i64) r.Since, w2⟩), (q3, ⟨4, 1, List.map PV.bool r.Pulled, w3⟩), (q4, ⟨4, 1, List.map PV.bool r.Held, w4⟩), (q5, ⟨3, 1, [.int .i64 p1], w5⟩)] ++ [] := by
  obtain ⟨h1, h2⟩ := Wk (ps := [(q0, ⟨34, 5, [.agg [.int .i64 p0.Time, .sl q1 w1 0 m1, .sl q2 w2 0 m2, .sl q3 w3 0 m3, .sl q4 w4 0 m4]], w0⟩), (q1, ⟨3, 1, List.map (PV.int .i64) p0.States, w1⟩), (q2, ⟨3, 1, List.map (PV.int .i64) p0.Since, w2⟩), (q3, ⟨4, 1, List.map PV.bool p0.Pulled, w3⟩), (q4, ⟨4, 1, List.map PV.bool p0.Held, w4⟩), (q5, ⟨3, 1, [.int .i64 p1], w5⟩)]) hnd (Zx hq0 (Zx hq1 (Zx hq2 (Zx hq3 (Zx hq4 (Zx hq5 bor0))))))
  exact Zz h1 (F_belts_Start_1_ok0 hF h2 hm1 hm2 hm3 hm4 hn)

theorem F_slices_Clone___int_int__ok {p0 : List Int} {r : List Int} (hF : F_slices_Clone___int_int_ p0 = some r) (low : List AObj) {n : Nat} (hn : low.length = n) :
    Yv Try.prog 54 [.vs 1 (List.map (PV.int .i64) p0)] low fun x low' => x = .sl (n + 0) 0 0 (r).length ∧ low' = low ++ [⟨3, 1, List.map (PV.int .i64) r, 0⟩] := by
 refine Xc (nt := 8) (rs := [.tmp 2]) Try.func54 rfl rfl (Nat.le_of_ble_eq_true rfl) rfl ?_
 refine Vw (Q' := FnE (fun E' lw lc => Ya E' lw lc [(2, .sl (n + 0) 0 0 (r).length)] low [⟨3, 1, List.map (PV.int .i64) r, 0⟩])) ?_ ?_
 ·unfold F_slices_Clone___int_int_ at hF
  refine Vi ?_
  refine Ve ?_
  refine Vk (vef_nilsN hn rfl 3 1 (Nat.succ_pos _) (rd_asN rfl)) rfl ?_
  refine Vg ?_
  refine Vi ?_
  refine Vi ?_
  refine Ve ?_
  refine Va (Xd rfl) rfl ?_
  refine vops_nilq rfl (nilq_vs rfl) rfl te_22 rfl ?_
  intro b1 hb1
  refine Vg ?_
  refine Xj rfl (fun c2 => ?_) (fun c2 => ?_)
  ·have hF : (some ([] : List Int)) = some _ := (show ((appI 8 ([] : List Int) p0).bind fun x3 => some x3) = (some ([] : List Int)) from by have he : p0 = [] := map_nil (hb1 c2); first | (rw [he]; rfl) | simp [he, appI]).symm.trans hF
   refine Vi ?_
   refine Ve ?_
   refine Vk (vef_nilsN hn rfl 3 1 (Nat.succ_pos _) (rd_asN rfl)) rfl ?_
   refine Vg ?_
   refine Xb ?_
   obtain rfl := Option.some.inj hF
   refine Zy ?_
   exact Vv hn [(1, 0)] (by decide) ⟨Xu 0 1 rfl rfl, trivial⟩ ⟨⟨_, rfl, rfl, .same _ _ _ _ (Xt trivial)⟩, trivial⟩
  ·skip
   refine Xq ?_
   refine Vi ?_
   refine Ve ?_
   obtain ⟨x3, h4, hF⟩ := Ys hF
   refine Vk (vef_litN hn rfl (es := List.map (PV.int .i64) ([] : List Int)) trivial rfl rfl (nt_all rfl) te_22 ts_3 tz_3 rfl rfl (Nat.succ_pos _) (by decide)) rfl ?_
   refine Va (Xd rfl) rfl ?_
   refine Vk (vef_apL (f := (PV.int .i64)) (l := ([] : List Int)) (ys := p0) rfl rfl (Vd hn rfl) rfl (src_vs rfl) te_22 ts_3 tb_3 (by decide) tz_3 rfl h4 (Xr hn rfl)) rfl ?_
   refine Va (rd_asL rfl) rfl ?_
   refine Vg ?_
   refine Xb ?_
   obtain rfl := Option.some.inj hF
   refine Zy ?_
   exact Vv hn [(1, 0 + 1)] (by decide) ⟨Xu 0 1 rfl rfl, trivial⟩ ⟨⟨_, rfl, rfl, .same _ _ _ _ (Vh (fun _ => .int _ _))⟩, trivial⟩
 ·rintro _ _ _ _ ⟨he, hw⟩
  refine ⟨_, _, _, hw, ?_⟩
  exact bodyQ_all he [.sl (n + 0) 0 0 (r).length] ⟨rfl, trivial⟩ ⟨rfl, rfl⟩

theorem F_slices_Clone___bool_bool__ok {p0 : List Bool} {r : List Bool} (hF : F_slices_Clone___bool_bool_ p0 = some r) (low : List AObj) {n : Nat} (hn : low.length = n) :
    Yv Try.prog 55 [.vs 1 (List.map PV.bool p0)] low fun x low' => x = .sl (n + 0) 0 0 (r).length ∧ low' = low ++ [⟨4, 1, List.map PV.bool r, 0⟩] := by
 refine Xc (nt := 8) (rs := [.tmp 2]) Try.func55 rfl rfl (Nat.le_of_ble_eq_true rfl) rfl ?_
 refine Vw (Q' := FnE (fun E' lw lc => Ya E' lw lc [(2, .sl (n + 0) 0 0 (r).length)] low [⟨4, 1, List.map PV.bool r, 0⟩])) ?_ ?_
 ·unfold F_slices_Clone___bool_bool_ at hF
  refine Vi ?_
  refine Ve ?_
  refine Vk (vef_nilsN hn rfl 4 1 (Nat.succ_pos _) (rd_asN rfl)) rfl ?_
  refine Vg ?_
  refine Vi ?_
  refine Vi ?_
  refine Ve ?_
  refine Va (Xd rfl) rfl ?_
  refine vops_nilq rfl (nilq_vs rfl) rfl te_32 rfl ?_
  intro b1 hb1
  refine Vg ?_
  refine Xj rfl (fun c2 => ?_) (fun c2 => ?_)
  ·have hF : (some ([] : List Bool)) = some _ := (show ((appI 1 ([] : List Bool) p0).bind fun x3 => some x3) = (some ([] : List Bool)) from by have he : p0 = [] := map_nil (hb1 c2); first | (rw [he]; rfl) | simp [he, appI]).symm.trans hF
   refine Vi ?_
   refine Ve ?_
   refine Vk (vef_nilsN hn rfl 4 1 (Nat.succ_pos _) (rd_asN rfl)) rfl ?_
   refine Vg ?_
   refine Xb ?_
   obtain rfl := Option.some.inj hF
   refine Zy ?_
   exact Vv hn [(1, 0)] (by decide) ⟨Xu 0 1 rfl rfl, trivial⟩ ⟨⟨_, rfl, rfl, .same _ _ _ _ (Xt trivial)⟩, trivial⟩
  ·skip
   refine Xq ?_
   refine Vi ?_
   refine Ve ?_
   obtain ⟨x3, h4, hF⟩ := Ys hF
   refine Vk (vef_litN hn rfl (es := List.map PV.bool ([] : List Bool)) trivial rfl rfl (nt_all rfl) te_32 ts_4 tz_4 rfl rfl (Nat.succ_pos _) (by decide)) rfl ?_
   refine Va (Xd rfl) rfl ?_
   refine Vk (vef_apL (f := PV.bool) (l := ([] : List Bool)) (ys := p0) rfl rfl (Vd hn rfl) rfl (src_vs rfl) te_32 ts_4 tb_4 (by decide) tz_4 rfl h4 (Xr hn rfl)) rfl ?_
   refine Va (rd_asL rfl) rfl ?_
   refine Vg ?_
   refine Xb ?_
   obtain rfl := Option.some.inj hF
   refine Zy ?_
   exact Vv hn [(1, 0 + 1)] (by decide) ⟨Xu 0 1 rfl rfl, trivial⟩ ⟨⟨_, rfl, rfl, .same _ _ _ _ (Vh (fun _ => .bool _))⟩, trivial⟩
 ·rintro _ _ _ _ ⟨he, hw⟩
  refine ⟨_, _, _, hw, ?_⟩
  exact bodyQ_all he [.sl (n + 0) 0 0 (r).length] ⟨rfl, trivial⟩ ⟨rfl, rfl⟩

theorem F_belts_done__belts_Start_1_ok0 {p0 : T_Line} {pc10 : Int} {r : T_Line} (hF : F_belts_done__belts_Start_1 p0 pc10 = some r) {low0 : List AObj} {q0 w0 : Nat} (hB : Bor low0 [q0]) {n : Nat} (hn : low0.length = n) :
    Yv Try.prog 31 [.agg [.int .i64 p0.Time, .vs 1 (List.map (PV.int .i64) p0.States), .vs 1 (List.map (PV.int .i64) p0.Since), .vs 1 (List.map PV.bool p0.Pulled), .vs 1 (List.map PV.bool p0.Held)], .fn 32 [] [.ptr q0 w0 0 0]] (setL low0 [(q0, ⟨3, 1, [.int .i64 pc10], w0⟩)]) fun x low' => x = .agg [.int .i64 r.Time, .sl (n + 0) 0 0 (r.States).length, .sl (n + 1) 0 0 (r.Since).length, .sl (n + 2) 0 0 (r.Pulled).length, .vs 1 (List.map PV.bool r.Held)] ∧ low' = setL low0 [(q0, ⟨3, 1, [.int .i64 pc10], w0⟩)] ++ [⟨3, 1, List.map (PV.int .i64) r.States, 0⟩, ⟨3, 1, List.map (PV.int .i64) r.Since, 0⟩, ⟨4, 1, List.map PV.bool r.Pulled, 0⟩] := by
 refine Xc (nt := 24) (rs := [.cell 4 34]) Try.func31 rfl rfl (Nat.le_of_ble_eq_true rfl) rfl ?_
 have hq0 : q0 < n := hB.ltN hn 0 rfl
 refine Vw (Q' := FnE (fun E' lw lc => Ya E' lw lc [(4, .ptr (n + 3) 0 0 0)] (setL low0 [(q0, ⟨3, 1, [.int .i64 pc10], w0⟩)]) [⟨3, 1, List.map (PV.int .i64) r.States, 0⟩, ⟨3, 1, List.map (PV.int .i64) r.Since, 0⟩, ⟨4, 1, List.map PV.bool r.Pulled, 0⟩, ⟨34, 5, [.agg [.int .i64 r.Time, .sl (n + 0) 0 0 (r.States).length, .sl (n + 1) 0 0 (r.Since).length, .sl (n + 2) 0 0 (r.Pulled).length, .vs 1 (List.map PV.bool r.Held)]], 0⟩])) ?_ ?_
 ·unfold F_belts_done__belts_Start_1 at hF
  refine Vi ?_
  refine Ve ?_
  refine Vk (Yw (Vr hn) rfl (v := .agg [.int .i64 p0.Time, .vs 1 (List.map (PV.int .i64) p0.States), .vs 1 (List.map (PV.int .i64) p0.Since), .vs 1 (List.map PV.bool p0.Pulled), .vs 1 (List.map PV.bool p0.Held)]) rfl rfl (Nat.succ_pos _) rfl rfl) rfl ?_
  refine Vk (Xe (Vr hn) rfl tz_34 rfl rfl (Nat.succ_pos _) rfl) rfl ?_
  refine Vg ?_
  refine Vi ?_
  obtain ⟨x1, h2, hF⟩ := Ys hF
  obtain ⟨x3, h4, hF⟩ := Ys hF
  obtain ⟨x5, h6, hF⟩ := Ys hF
  obtain ⟨x7, h8, hF⟩ := Ys hF
  refine Ye (Yu 3 1 (Nat.succ_pos _)) ?_
  refine Ye (Yu 3 1 (Nat.succ_pos _)) ?_
  refine Ye (Yu 4 1 (Nat.succ_pos _)) ?_
  refine Ye (Yu 4 1 (Nat.succ_pos _)) ?_
  refine Ye (Yu 34 5 (Nat.succ_pos _)) ?_
  refine vwp_drawnX [[], [0], [], [2], [2, 3], [], [5], [2, 3, 4, 5, 6], [], [8], [2, 3, 4, 5, 6, 7, 8, 9], [], [11], [2, 3, 4, 5, 6, 7, 8, 9, 10, 11, 12], [0, 1, 2, 3, 4, 5, 6, 7, 8, 9, 10, 11, 12, 13], [], [0, 1, 2, 3, 4, 5, 6, 7, 8, 9, 10, 11, 12, 13, 14, 15]] [false, false, false, false, true, false, false, true, false, false, true, false, false, true, false, true, true] [([], (setL low0 [(q0, ⟨3, 1, [.int .i64 pc10], w0⟩)]), [⟨34, 5, [.agg [.int .i64 p0.Time, .vs 1 (List.map (PV.int .i64) p0.States), .vs 1 (List.map (PV.int .i64) p0.Since), .vs 1 (List.map PV.bool p0.Pulled), .vs 1 (List.map PV.bool p0.Held)]], 0⟩, ⟨34, 5, [.agg [.int .i64 0, .nils, .nils, .nils, .nils]], 0⟩, ⟨3, 1, [], 0⟩, ⟨3, 1, [], 0⟩, ⟨4, 1, [], 0⟩, ⟨4, 1, [], 0⟩, ⟨34, 5, [], 0⟩]), ([4], (setL low0 [(q0, ⟨3, 1, [.int .i64 pc10], w0⟩)]), [⟨34, 5, [.agg [.int .i64 p0.Time, .vs 1 (List.map (PV.int .i64) p0.States), .vs 1 (List.map (PV.int .i64) p0.Since), .vs 1 (List.map PV.bool p0.Pulled), .vs 1 (List.map PV.bool p0.Held)]], 0⟩, ⟨34, 5, [.agg [.int .i64 0, .nils, .nils, .nils, .nils]], 0⟩, ⟨3, 1, List.map (PV.int .i64) x1, 1⟩, ⟨3, 1, [], 0⟩, ⟨4, 1, [], 0⟩, ⟨4, 1, [], 0⟩, ⟨34, 5, [], 0⟩]), ([15], (setL low0 [(q0, ⟨3, 1, [.int .i64 pc10], w0⟩)]), [⟨34, 5, [.agg [.int .i64 p0.Time, .vs 1 (List.map (PV.int .i64) p0.States), .vs 1 (List.map (PV.int .i64) p0.Since), .vs 1 (List.map PV.bool p0.Pulled), .vs 1 (List.map PV.bool p0.Held)]], 0⟩, ⟨34, 5, [.agg [.int .i64 0, .nils, .nils, .nils, .nils]], 0⟩, ⟨3, 1, [], 0⟩, ⟨3, 1, [], 0⟩, ⟨4, 1, [], 0⟩, ⟨4, 1, [], 0⟩, ⟨34, 5, [.agg [.int .i64 0, .nils, .nils, .nils, .nils]], 1⟩]), ([4, 7], (setL low0 [(q0, ⟨3, 1, [.int .i64 pc10], w0⟩)]), [⟨34, 5, [.agg [.int .i64 p0.Time, .vs 1 (List.map (PV.int .i64) p0.States), .vs 1 (List.map (PV.int .i64) p0.Since), .vs 1 (List.map PV.bool p0.Pulled), .vs 1 (List.map PV.bool p0.Held)]], 0⟩, ⟨34, 5, [.agg [.int .i64 0, .nils, .nils, .nils, .nils]], 0⟩, ⟨3, 1, List.map (PV.int .i64) x1, 1⟩, ⟨3, 1, List.map (PV.int .i64) x3, 1⟩, ⟨4, 1, [], 0⟩, ⟨4, 1, [], 0⟩, ⟨34, 5, [], 0⟩]), ([4, 15], (setL low0 [(q0, ⟨3, 1, [.int .i64 pc10], w0⟩)]), [⟨34, 5, [.agg [.int .i64 p0.Time, .vs 1 (List.map (PV.int .i64) p0.States), .vs 1 (List.map (PV.int .i64) p0.Since), .vs 1 (List.map PV.bool p0.Pulled), .vs 1 (List.map PV.bool p0.Held)]], 0⟩, ⟨34, 5, [.agg [.int .i64 0, .nils, .nils, .nils, .nils]], 0⟩, ⟨3, 1, List.map (PV.int .i64) x1, 1⟩, ⟨3, 1, [], 0⟩, ⟨4, 1, [], 0⟩, ⟨4, 1, [], 0⟩, ⟨34, 5, [.agg [.int .i64 0, .nils, .nils, .nils, .nils]], 1⟩]), ([4, 7, 10], (setL low0 [(q0, ⟨3, 1, [.int .i64 pc10], w0⟩)]), [⟨34, 5, [.agg [.int .i64 p0.Time, .vs 1 (List.map (PV.int .i64) p0.States), .vs 1 (List.map (PV.int .i64) p0.Since), .vs 1 (List.map PV.bool p0.Pulled), .vs 1 (List.map PV.bool p0.Held)]], 0⟩, ⟨34, 5, [.agg [.int .i64 0, .nils, .nils, .nils, .nils]], 0⟩, ⟨3, 1, List.map (PV.int .i64) x1, 1⟩, ⟨3, 1, List.map (PV.int .i64) x3, 1⟩, ⟨4, 1, List.map PV.bool x5, 1⟩, ⟨4, 1, [], 0⟩, ⟨34, 5, [], 0⟩]), ([4, 7, 15], (setL low0 [(q0, ⟨3, 1, [.int .i64 pc10], w0⟩)]), [⟨34, 5, [.agg [.int .i64 p0.Time, .vs 1 (List.map (PV.int .i64) p0.States), .vs 1 (List.map (PV.int .i64) p0.Since), .vs 1 (List.map PV.bool p0.Pulled), .vs 1 (List.map PV.bool p0.Held)]], 0⟩, ⟨34, 5, [.agg [.int .i64 0, .nils, .nils, .nils, .nils]], 0⟩, ⟨3, 1, List.map (PV.int .i64) x1, 1⟩, ⟨3, 1, List.map (PV.int .i64) x3, 1⟩, ⟨4, 1, [], 0⟩, ⟨4, 1, [], 0⟩, ⟨34, 5, [.agg [.int .i64 0, .nils, .nils, .nils, .nils]], 1⟩]), ([4, 7, 10, 13], (setL low0 [(q0, ⟨3, 1, [.int .i64 pc10], w0⟩)]), [⟨34, 5, [.agg [.int .i64 p0.Time, .vs 1 (List.map (PV.int .i64) p0.States), .vs 1 (List.map (PV.int .i64) p0.Since), .vs 1 (List.map PV.bool p0.Pulled), .vs 1 (List.map PV.bool p0.Held)]], 0⟩, ⟨34, 5, [.agg [.int .i64 0, .nils, .nils, .nils, .nils]], 0⟩, ⟨3, 1, List.map (PV.int .i64) x1, 1⟩, ⟨3, 1, List.map (PV.int .i64) x3, 1⟩, ⟨4, 1, List.map PV.bool x5, 1⟩, ⟨4, 1, List.map PV.bool x7, 1⟩, ⟨34, 5, [], 0⟩]), ([4, 7, 10, 15], (setL low0 [(q0, ⟨3, 1, [.int .i64 pc10], w0⟩)]), [⟨34, 5, [.agg [.int .i64 p0.Time, .vs 1 (List.map (PV.int .i64) p0.States), .vs 1 (List.map (PV.int .i64) p0.Since), .vs 1 (List.map PV.bool p0.Pulled), .vs 1 (List.map PV.bool p0.Held)]], 0⟩, ⟨34, 5, [.agg [.int .i64 0, .nils, .nils, .nils, .nils]], 0⟩, ⟨3, 1, List.map (PV.int .i64) x1, 1⟩, ⟨3, 1, List.map (PV.int .i64) x3, 1⟩, ⟨4, 1, List.map PV.bool x5, 1⟩, ⟨4, 1, [], 0⟩, ⟨34, 5, [.agg [.int .i64 0, .nils, .nils, .nils, .nils]], 1⟩]), ([4, 7, 10, 13, 15], (setL low0 [(q0, ⟨3, 1, [.int .i64 pc10], w0⟩)]), [⟨34, 5, [.agg [.int .i64 p0.Time, .vs 1 (List.map (PV.int .i64) p0.States), .vs 1 (List.map (PV.int .i64) p0.Since), .vs 1 (List.map PV.bool p0.Pulled), .vs 1 (List.map PV.bool p0.Held)]], 0⟩, ⟨34, 5, [.agg [.int .i64 0, .nils, .nils, .nils, .nils]], 0⟩, ⟨3, 1, List.map (PV.int .i64) x1, 1⟩, ⟨3, 1, List.map (PV.int .i64) x3, 1⟩, ⟨4, 1, List.map PV.bool x5, 1⟩, ⟨4, 1, List.map PV.bool x7, 1⟩, ⟨34, 5, [.agg [.int .i64 0, .nils, .nils, .nils, .nils]], 1⟩]), ([4, 7, 10, 13, 15, 16], (setL low0 [(q0, ⟨3, 1, [.int .i64 pc10], w0⟩)]), [⟨34, 5, [.agg [.int .i64 p0.Time, .vs 1 (List.map (PV.int .i64) p0.States), .vs 1 (List.map (PV.int .i64) p0.Since), .vs 1 (List.map PV.bool p0.Pulled), .vs 1 (List.map PV.bool p0.Held)]], 0⟩, ⟨34, 5, [.agg [.int .i64 0, .nils, .nils, .nils, .nils]], 0⟩, ⟨3, 1, List.map (PV.int .i64) x1, 1⟩, ⟨3, 1, List.map (PV.int .i64) x3, 1⟩, ⟨4, 1, List.map PV.bool x5, 1⟩, ⟨4, 1, List.map PV.bool x7, 1⟩, ⟨34, 5, [.agg [.int .i64 p0.Time, .sl (n + 2) 1 0 (x1).length, .sl (n + 3) 1 0 (x3).length, .sl (n + 4) 1 0 (x5).length, .sl (n + 5) 1 0 (x7).length]], 1⟩])] mixed (by kernel_rfl) rfl (lenAllX (Yp Xl (Yp Xl (Yp Xl (Yp Xl (Yp Xl (Yp Xl (Yp Xl (Yp Xl (Yp Xl (Yp Xl (Yp Xl allx0)))))))))))) rfl [4, 7, 10, 13, 15, 16] ((setL low0 [(q0, ⟨3, 1, [.int .i64 pc10], w0⟩)]), [⟨34, 5, [.agg [.int .i64 p0.Time, .vs 1 (List.map (PV.int .i64) p0.States), .vs 1 (List.map (PV.int .i64) p0.Since), .vs 1 (List.map PV.bool p0.Pulled), .vs 1 (List.map PV.bool p0.Held)]], 0⟩, ⟨34, 5, [.agg [.int .i64 0, .nils, .nils, .nils, .nils]], 0⟩, ⟨3, 1, List.map (PV.int .i64) x1, 1⟩, ⟨3, 1, List.map (PV.int .i64) x3, 1⟩, ⟨4, 1, List.map PV.bool x5, 1⟩, ⟨4, 1, List.map PV.bool x7, 1⟩, ⟨34, 5, [.agg [.int .i64 p0.Time, .sl (n + 2) 1 0 (x1).length, .sl (n + 3) 1 0 (x3).length, .sl (n + 4) 1 0 (x5).length, .sl (n + 5) 1 0 (x7).length]], 1⟩]) rfl rfl ?_
  refine Xw _ rfl rfl (Xs (Xh.ntl (Vc rfl tf_34_0 ts_3 (by decide))) (Xs (Xh.ntl (Vc rfl tf_34_0 ts_3 (by decide))) (Xs (Xh.ntl (Vc rfl tf_34_0 ts_3 (by decide))) (Xs (Xh.ntl (Vc rfl tf_34_0 ts_3 (by decide))) (Xs (Xh.ntl (Vc rfl tf_34_0 ts_3 (by decide))) (Xs (Xh.ntl (Vc rfl tf_34_0 ts_3 (by decide))) (Xs (Xh.ntl (Vc rfl tf_34_0 ts_3 (by decide))) (Xs (Xh.ntl (Vc rfl tf_34_0 ts_3 (by decide))) (Xs (Xh.ntl (Vc rfl tf_34_0 ts_3 (by decide))) (Xs (Xh.ntl (Vc rfl tf_34_0 ts_3 (by decide))) rx0)))))))))) ?_
  refine Xw _ rfl rfl (Xs (Xh.ntl (Vf rfl (Vd (Vr hn) rfl) rfl ta_3 rfl)) (Xs (Xh.ntl (Vf rfl (Vd (Vr hn) rfl) rfl ta_3 rfl)) (Xs (Xh.ntl (Vf rfl (Vd (Vr hn) rfl) rfl ta_3 rfl)) (Xs (Xh.ntl (Vf rfl (Vd (Vr hn) rfl) rfl ta_3 rfl)) (Xs (Xh.ntl (Vf rfl (Vd (Vr hn) rfl) rfl ta_3 rfl)) (Xs (Xh.ntl (Vf rfl (Vd (Vr hn) rfl) rfl ta_3 rfl)) (Xs (Xh.ntl (Vf rfl (Vd (Vr hn) rfl) rfl ta_3 rfl)) (Xs (Xh.ntl (Vf rfl (Vd (Vr hn) rfl) rfl ta_3 rfl)) (Xs (Xh.ntl (Vf rfl (Vd (Vr hn) rfl) rfl ta_3 rfl)) (Xs (Xh.ntl (Vf rfl (Vd (Vr hn) rfl) rfl ta_3 rfl)) rx0)))))))))) ?_
  refine Xw _ rfl rfl (Xs (Xh.ntl (Vc rfl tf_34_1 ts_22 (by decide))) (Xs (Xh.ntl (Vc rfl tf_34_1 ts_22 (by decide))) rx0)) ?_
  refine Xw _ rfl rfl (Xs (Xh.ntl (Vf rfl (Vd (Vr hn) rfl) rfl ta_22 rfl)) (Xs (Xh.ntl (Vf rfl (Vd (Vr hn) rfl) rfl ta_22 rfl)) rx0)) ?_
  refine Zd _ rfl rfl (Zs 1 rfl (Vt (f := 7) (k := 2) (m := 1) (os := [⟨3, 1, List.map (PV.int .i64) x1, 0⟩]) (os' := [⟨3, 1, List.map (PV.int .i64) x1, 1⟩]) (v := .sl (n + 7) 0 0 (x1).length) (Vr hn) rfl rfl ⟨⟨_, rfl, rfl⟩, trivial⟩ (Xf (r := .sl (n + 7) 0 0 (x1).length) (os := [⟨3, 1, List.map (PV.int .i64) x1, 0⟩]) rfl Try.call54 (F_slices_Clone___int_int__ok h2 _ (Xn (Vr hn) rfl))) (Yf 0 rfl rfl rfl rfl) ⟨.same _ _ _ (Vh (fun _ => .int _ _)), trivial⟩ rfl) (Zs 4 rfl (Vt (f := 7) (k := 2) (m := 1) (os := [⟨3, 1, List.map (PV.int .i64) x1, 0⟩]) (os' := [⟨3, 1, List.map (PV.int .i64) x1, 1⟩]) (v := .sl (n + 7) 0 0 (x1).length) (Vr hn) rfl rfl ⟨⟨_, rfl, rfl⟩, trivial⟩ (Xf (r := .sl (n + 7) 0 0 (x1).length) (os := [⟨3, 1, List.map (PV.int .i64) x1, 0⟩]) rfl Try.call54 (F_slices_Clone___int_int__ok h2 _ (Xn (Vr hn) rfl))) (Yf 0 rfl rfl rfl rfl) ⟨.same _ _ _ (Vh (fun _ => .int _ _)), trivial⟩ rfl) ex0)) ?_
  refine Xw _ rfl rfl (Xs (Xh.ntl (Vc rfl tf_34_2 ts_22 (by decide))) (Xs (Xh.ntl (Vc rfl tf_34_2 ts_22 (by decide))) (Xs (Xh.ntl (Vc rfl tf_34_2 ts_22 (by decide))) (Xs (Xh.ntl (Vc rfl tf_34_2 ts_22 (by decide))) rx0)))) ?_
  refine Xw _ rfl rfl (Xs (Xh.ntl (Vf rfl (Vd (Vr hn) rfl) rfl ta_22 rfl)) (Xs (Xh.ntl (Vf rfl (Vd (Vr hn) rfl) rfl ta_22 rfl)) (Xs (Xh.ntl (Vf rfl (Vd (Vr hn) rfl) rfl ta_22 rfl)) (Xs (Xh.ntl (Vf rfl (Vd (Vr hn) rfl) rfl ta_22 rfl)) rx0)))) ?_
  refine Zd _ rfl rfl (Zs 3 rfl (Vt (f := 7) (k := 3) (m := 1) (os := [⟨3, 1, List.map (PV.int .i64) x3, 0⟩]) (os' := [⟨3, 1, List.map (PV.int .i64) x3, 1⟩]) (v := .sl (n + 7) 0 0 (x3).length) (Vr hn) rfl rfl ⟨⟨_, rfl, rfl⟩, trivial⟩ (Xf (r := .sl (n + 7) 0 0 (x3).length) (os := [⟨3, 1, List.map (PV.int .i64) x3, 0⟩]) rfl Try.call54 (F_slices_Clone___int_int__ok h4 _ (Xn (Vr hn) rfl))) (Yf 0 rfl rfl rfl rfl) ⟨.same _ _ _ (Vh (fun _ => .int _ _)), trivial⟩ rfl) (Zs 6 rfl (Vt (f := 7) (k := 3) (m := 1) (os := [⟨3, 1, List.map (PV.int .i64) x3, 0⟩]) (os' := [⟨3, 1, List.map (PV.int .i64) x3, 1⟩]) (v := .sl (n + 7) 0 0 (x3).length) (Vr hn) rfl rfl ⟨⟨_, rfl, rfl⟩, trivial⟩ (Xf (r := .sl (n + 7) 0 0 (x3).length) (os := [⟨3, 1, List.map (PV.int .i64) x3, 0⟩]) rfl Try.call54 (F_slices_Clone___int_int__ok h4 _ (Xn (Vr hn) rfl))) (Yf 0 rfl rfl rfl rfl) ⟨.same _ _ _ (Vh (fun _ => .int _ _)), trivial⟩ rfl) ex0)) ?_
  refine Xw _ rfl rfl (Xs (Xh.ntl (Vc rfl tf_34_3 ts_32 (by decide))) (Xs (Xh.ntl (Vc rfl tf_34_3 ts_32 (by decide))) (Xs (Xh.ntl (Vc rfl tf_34_3 ts_32 (by decide))) (Xs (Xh.ntl (Vc rfl tf_34_3 ts_32 (by decide))) (Xs (Xh.ntl (Vc rfl tf_34_3 ts_32 (by decide))) (Xs (Xh.ntl (Vc rfl tf_34_3 ts_32 (by decide))) rx0)))))) ?_
  refine Xw _ rfl rfl (Xs (Xh.ntl (Vf rfl (Vd (Vr hn) rfl) rfl ta_32 rfl)) (Xs (Xh.ntl (Vf rfl (Vd (Vr hn) rfl) rfl ta_32 rfl)) (Xs (Xh.ntl (Vf rfl (Vd (Vr hn) rfl) rfl ta_32 rfl)) (Xs (Xh.ntl (Vf rfl (Vd (Vr hn) rfl) rfl ta_32 rfl)) (Xs (Xh.ntl (Vf rfl (Vd (Vr hn) rfl) rfl ta_32 rfl)) (Xs (Xh.ntl (Vf rfl (Vd (Vr hn) rfl) rfl ta_32 rfl)) rx0)))))) ?_
  refine Zd _ rfl rfl (Zs 5 rfl (Vt (f := 7) (k := 4) (m := 1) (os := [⟨4, 1, List.map PV.bool x5, 0⟩]) (os' := [⟨4, 1, List.map PV.bool x5, 1⟩]) (v := .sl (n + 7) 0 0 (x5).length) (Vr hn) rfl rfl ⟨⟨_, rfl, rfl⟩, trivial⟩ (Xf (r := .sl (n + 7) 0 0 (x5).length) (os := [⟨4, 1, List.map PV.bool x5, 0⟩]) rfl Try.call55 (F_slices_Clone___bool_bool__ok h6 _ (Xn (Vr hn) rfl))) (Yf 0 rfl rfl rfl rfl) ⟨.same _ _ _ (Vh (fun _ => .bool _)), trivial⟩ rfl) (Zs 8 rfl (Vt (f := 7) (k := 4) (m := 1) (os := [⟨4, 1, List.map PV.bool x5, 0⟩]) (os' := [⟨4, 1, List.map PV.bool x5, 1⟩]) (v := .sl (n + 7) 0 0 (x5).length) (Vr hn) rfl rfl ⟨⟨_, rfl, rfl⟩, trivial⟩ (Xf (r := .sl (n + 7) 0 0 (x5).length) (os := [⟨4, 1, List.map PV.bool x5, 0⟩]) rfl Try.call55 (F_slices_Clone___bool_bool__ok h6 _ (Xn (Vr hn) rfl))) (Yf 0 rfl rfl rfl rfl) ⟨.same _ _ _ (Vh (fun _ => .bool _)), trivial⟩ rfl) ex0)) ?_
  refine Xw _ rfl rfl (Xs (Xh.ntl (Vc rfl tf_34_4 ts_32 (by decide))) (Xs (Xh.ntl (Vc rfl tf_34_4 ts_32 (by decide))) (Xs (Xh.ntl (Vc rfl tf_34_4 ts_32 (by decide))) (Xs (Xh.ntl (Vc rfl tf_34_4 ts_32 (by decide))) (Xs (Xh.ntl (Vc rfl tf_34_4 ts_32 (by decide))) (Xs (Xh.ntl (Vc rfl tf_34_4 ts_32 (by decide))) (Xs (Xh.ntl (Vc rfl tf_34_4 ts_32 (by decide))) (Xs (Xh.ntl (Vc rfl tf_34_4 ts_32 (by decide))) rx0)))))))) ?_
  refine Xw _ rfl rfl (Xs (Xh.ntl (Vf rfl (Vd (Vr hn) rfl) rfl ta_32 rfl)) (Xs (Xh.ntl (Vf rfl (Vd (Vr hn) rfl) rfl ta_32 rfl)) (Xs (Xh.ntl (Vf rfl (Vd (Vr hn) rfl) rfl ta_32 rfl)) (Xs (Xh.ntl (Vf rfl (Vd (Vr hn) rfl) rfl ta_32 rfl)) (Xs (Xh.ntl (Vf rfl (Vd (Vr hn) rfl) rfl ta_32 rfl)) (Xs (Xh.ntl (Vf rfl (Vd (Vr hn) rfl) rfl ta_32 rfl)) (Xs (Xh.ntl (Vf rfl (Vd (Vr hn) rfl) rfl ta_32 rfl)) (Xs (Xh.ntl (Vf rfl (Vd (Vr hn) rfl) rfl ta_32 rfl)) rx0)))))))) ?_
  refine Zd _ rfl rfl (Zs 7 rfl (Vt (f := 7) (k := 5) (m := 1) (os := [⟨4, 1, List.map PV.bool x7, 0⟩]) (os' := [⟨4, 1, List.map PV.bool x7, 1⟩]) (v := .sl (n + 7) 0 0 (x7).length) (Vr hn) rfl rfl ⟨⟨_, rfl, rfl⟩, trivial⟩ (Xf (r := .sl (n + 7) 0 0 (x7).length) (os := [⟨4, 1, List.map PV.bool x7, 0⟩]) rfl Try.call55 (F_slices_Clone___bool_bool__ok h8 _ (Xn (Vr hn) rfl))) (Yf 0 rfl rfl rfl rfl) ⟨.same _ _ _ (Vh (fun _ => .bool _)), trivial⟩ rfl) (Zs 9 rfl (Vt (f := 7) (k := 5) (m := 1) (os := [⟨4, 1, List.map PV.bool x7, 0⟩]) (os' := [⟨4, 1, List.map PV.bool x7, 1⟩]) (v := .sl (n + 7) 0 0 (x7).length) (Vr hn) rfl rfl ⟨⟨_, rfl, rfl⟩, trivial⟩ (Xf (r := .sl (n + 7) 0 0 (x7).length) (os := [⟨4, 1, List.map PV.bool x7, 0⟩]) rfl Try.call55 (F_slices_Clone___bool_bool__ok h8 _ (Xn (Vr hn) rfl))) (Yf 0 rfl rfl rfl rfl) ⟨.same _ _ _ (Vh (fun _ => .bool _)), trivial⟩ rfl) ex0)) ?_
  refine Xw _ rfl rfl (Xs (Xh.ntl (Wd (vs := [(0, .int .i64 p0.Time), (1, .sl (n + 2) 1 0 (x1).length), (2, .sl (n + 3) 1 0 (x3).length), (3, .sl (n + 4) 1 0 (x5).length), (4, .sl (n + 5) 1 0 (x7).length)]) (ds := [.int .i64 p0.Time, .sl (n + 2) 1 0 (x1).length, .sl (n + 3) 1 0 (x3).length, .sl (n + 4) 1 0 (x5).length, .sl (n + 5) 1 0 (x7).length]) tz_34 rfl rfl tp_34 ⟨rfl, rfl, rfl, rfl, rfl, rfl, rfl, rfl, rfl, rfl, trivial⟩ (nt_all2 rfl) rfl)) (Xs (Xh.ntl (Wd (vs := [(0, .int .i64 p0.Time), (1, .sl (n + 2) 1 0 (x1).length), (2, .sl (n + 3) 1 0 (x3).length), (3, .sl (n + 4) 1 0 (x5).length), (4, .sl (n + 5) 1 0 (x7).length)]) (ds := [.int .i64 p0.Time, .sl (n + 2) 1 0 (x1).length, .sl (n + 3) 1 0 (x3).length, .sl (n + 4) 1 0 (x5).length, .sl (n + 5) 1 0 (x7).length]) tz_34 rfl rfl tp_34 ⟨rfl, rfl, rfl, rfl, rfl, rfl, rfl, rfl, rfl, rfl, trivial⟩ (nt_all2 rfl) rfl)) rx0)) ?_
  refine Zd _ rfl rfl (Zs 2 rfl (Vt (f := 7) (k := 6) (m := 1) (os := [⟨34, 5, [.agg [.int .i64 0, .nils, .nils, .nils, .nils]], 0⟩]) (os' := [⟨34, 5, [.agg [.int .i64 0, .nils, .nils, .nils, .nils]], 1⟩]) (v := .ptr (n + 7) 0 0 0) (Vr hn) rfl rfl ⟨⟨_, rfl, rfl⟩, trivial⟩ (Xe (Vr hn) rfl tz_34 rfl rfl (Nat.succ_pos _) rfl) (Wa 0 rfl rfl rfl rfl) ⟨.same _ _ _ (Xt ⟨(Xx ⟨.int _ _, .nils, .nils, .nils, .nils, trivial⟩), trivial⟩), trivial⟩ rfl) (Zs 4 rfl (Vt (f := 7) (k := 6) (m := 1) (os := [⟨34, 5, [.agg [.int .i64 0, .nils, .nils, .nils, .nils]], 0⟩]) (os' := [⟨34, 5, [.agg [.int .i64 0, .nils, .nils, .nils, .nils]], 1⟩]) (v := .ptr (n + 7) 0 0 0) (Vr hn) rfl rfl ⟨⟨_, rfl, rfl⟩, trivial⟩ (Xe (Vr hn) rfl tz_34 rfl rfl (Nat.succ_pos _) rfl) (Wa 0 rfl rfl rfl rfl) ⟨.same _ _ _ (Xt ⟨(Xx ⟨.int _ _, .nils, .nils, .nils, .nils, trivial⟩), trivial⟩), trivial⟩ rfl) (Zs 6 rfl (Vt (f := 7) (k := 6) (m := 1) (os := [⟨34, 5, [.agg [.int .i64 0, .nils, .nils, .nils, .nils]], 0⟩]) (os' := [⟨34, 5, [.agg [.int .i64 0, .nils, .nils, .nils, .nils]], 1⟩]) (v := .ptr (n + 7) 0 0 0) (Vr hn) rfl rfl ⟨⟨_, rfl, rfl⟩, trivial⟩ (Xe (Vr hn) rfl tz_34 rfl rfl (Nat.succ_pos _) rfl) (Wa 0 rfl rfl rfl rfl) ⟨.same _ _ _ (Xt ⟨(Xx ⟨.int _ _, .nils, .nils, .nils, .nils, trivial⟩), trivial⟩), trivial⟩ rfl) (Zs 8 rfl (Vt (f := 7) (k := 6) (m := 1) (os := [⟨34, 5, [.agg [.int .i64 0, .nils, .nils, .nils, .nils]], 0⟩]) (os' := [⟨34, 5, [.agg [.int .i64 0, .nils, .nils, .nils, .nils]], 1⟩]) (v := .ptr (n + 7) 0 0 0) (Vr hn) rfl rfl ⟨⟨_, rfl, rfl⟩, trivial⟩ (Xe (Vr hn) rfl tz_34 rfl rfl (Nat.succ_pos _) rfl) (Wa 0 rfl rfl rfl rfl) ⟨.same _ _ _ (Xt ⟨(Xx ⟨.int _ _, .nils, .nils, .nils, .nils, trivial⟩), trivial⟩), trivial⟩ rfl) (Zs 9 rfl (Vt (f := 7) (k := 6) (m := 1) (os := [⟨34, 5, [.agg [.int .i64 0, .nils, .nils, .nils, .nils]], 0⟩]) (os' := [⟨34, 5, [.agg [.int .i64 0, .nils, .nils, .nils, .nils]], 1⟩]) (v := .ptr (n + 7) 0 0 0) (Vr hn) rfl rfl ⟨⟨_, rfl, rfl⟩, trivial⟩ (Xe (Vr hn) rfl tz_34 rfl rfl (Nat.succ_pos _) rfl) (Wa 0 rfl rfl rfl rfl) ⟨.same _ _ _ (Xt ⟨(Xx ⟨.int _ _, .nils, .nils, .nils, .nils, trivial⟩), trivial⟩), trivial⟩ rfl) ex0))))) ?_
  refine Zd _ rfl rfl (Zs 10 rfl (Vx (p := .agg [.int .i64 p0.Time, .sl (n + 2) 1 0 (x1).length, .sl (n + 3) 1 0 (x3).length, .sl (n + 4) 1 0 (x5).length, .sl (n + 5) 1 0 (x7).length]) (e' := .agg [.int .i64 p0.Time, .sl (n + 2) 1 0 (x1).length, .sl (n + 3) 1 0 (x3).length, .sl (n + 4) 1 0 (x5).length, .sl (n + 5) 1 0 (x7).length]) rfl (Vd (Vr hn) rfl) rfl rfl ts_34 rfl (Yc rfl) rfl (Nat.le_of_ble_eq_true rfl) rfl (Xr (Vr hn) rfl)) ex0) ?_
  refine dopx_nil ?_
  refine Vi ?_
  refine Ve ?_
  obtain ⟨x9, h10, hF⟩ := Ys hF
  refine Va (rd_mvF rfl) rfl ?_
  refine Vk (Wc (ps := [((n + 6), ⟨34, 5, [.agg [.int .i64 x9.Time, .sl (n + 2) 1 0 (x1).length, .sl (n + 3) 1 0 (x3).length, .sl (n + 4) 1 0 (x5).length, .sl (n + 5) 1 0 (x7).length]], 1⟩), ((n + 2), ⟨3, 1, List.map (PV.int .i64) x9.States, 1⟩), ((n + 3), ⟨3, 1, List.map (PV.int .i64) x9.Since, 1⟩), ((n + 4), ⟨4, 1, List.map PV.bool x9.Pulled, 1⟩), ((n + 5), ⟨4, 1, List.map PV.bool x9.Held, 1⟩), (q0, ⟨3, 1, [.int .i64 pc10], w0⟩)]) (r := .tup []) (os := []) (low1 := (setL low0 [(q0, ⟨3, 1, [.int .i64 pc10], w0⟩)])) (loc1 := [⟨34, 5, [.agg [.int .i64 p0.Time, .vs 1 (List.map (PV.int .i64) p0.States), .vs 1 (List.map (PV.int .i64) p0.Since), .vs 1 (List.map PV.bool p0.Pulled), .vs 1 (List.map PV.bool p0.Held)]], 0⟩, ⟨34, 5, [.agg [.int .i64 0, .nils, .nils, .nils, .nils]], 0⟩, ⟨3, 1, List.map (PV.int .i64) x9.States, 1⟩, ⟨3, 1, List.map (PV.int .i64) x9.Since, 1⟩, ⟨4, 1, List.map PV.bool x9.Pulled, 1⟩, ⟨4, 1, List.map PV.bool x9.Held, 1⟩, ⟨34, 5, [.agg [.int .i64 x9.Time, .sl (n + 2) 1 0 (x1).length, .sl (n + 3) 1 0 (x3).length, .sl (n + 4) 1 0 (x5).length, .sl (n + 5) 1 0 (x7).length]], 1⟩]) (loc2 := [⟨34, 5, [.agg [.int .i64 p0.Time, .vs 1 (List.map (PV.int .i64) p0.States), .vs 1 (List.map (PV.int .i64) p0.Since), .vs 1 (List.map PV.bool p0.Pulled), .vs 1 (List.map PV.bool p0.Held)]], 0⟩, ⟨34, 5, [.agg [.int .i64 0, .nils, .nils, .nils, .nils]], 0⟩, ⟨3, 1, List.map (PV.int .i64) x9.States, 1⟩, ⟨3, 1, List.map (PV.int .i64) x9.Since, 1⟩, ⟨4, 1, List.map PV.bool x9.Pulled, 1⟩, ⟨4, 1, List.map PV.bool x9.Held, 1⟩, ⟨34, 5, [.agg [.int .i64 x9.Time, .sl (n + 2) 1 0 (x1).length, .sl (n + 3) 1 0 (x3).length, .sl (n + 4) 1 0 (x5).length, .sl (n + 5) 1 0 (x7).length]], 1⟩]) rfl Try.call32 (F_belts_Start_1_ok h10 (nd1 (Zq (Yt rfl) (Zq (Yt rfl) (Zq (Yt rfl) (Zq (Yt rfl) (Zq (Yr hq0) na0))))) (nd1 (Zq (Yt rfl) (Zq (Yt rfl) (Zq (Yt rfl) (Zq (Yr hq0) na0)))) (nd1 (Zq (Yt rfl) (Zq (Yt rfl) (Zq (Yr hq0) na0))) (nd1 (Zq (Yt rfl) (Zq (Yr hq0) na0)) (nd1 (Zq (Yr hq0) na0) (nd1 na0 nd0)))))) (rfl : (x1).length = _) (rfl : (x3).length = _) (rfl : (x5).length = _) (rfl : (x7).length = _) (Zw (Vr hn) rfl) (Zw (Vr hn) rfl) (Zw (Vr hn) rfl) (Zw (Vr hn) rfl) (Zw (Vr hn) rfl) (get_B hB rfl 0 rfl) (Xn (Vr hn) rfl)) (Yx (loc2 := [⟨34, 5, [.agg [.int .i64 p0.Time, .vs 1 (List.map (PV.int .i64) p0.States), .vs 1 (List.map (PV.int .i64) p0.Since), .vs 1 (List.map PV.bool p0.Pulled), .vs 1 (List.map PV.bool p0.Held)]], 0⟩, ⟨34, 5, [.agg [.int .i64 0, .nils, .nils, .nils, .nils]], 0⟩, ⟨3, 1, List.map (PV.int .i64) x1, 1⟩, ⟨3, 1, List.map (PV.int .i64) x3, 1⟩, ⟨4, 1, List.map PV.bool x5, 1⟩, ⟨4, 1, List.map PV.bool x7, 1⟩, ⟨34, 5, [.agg [.int .i64 x9.Time, .sl (n + 2) 1 0 (x1).length, .sl (n + 3) 1 0 (x3).length, .sl (n + 4) 1 0 (x5).length, .sl (n + 5) 1 0 (x7).length]], 1⟩]) (Vr hn) 6 rfl (Yx (loc2 := [⟨34, 5, [.agg [.int .i64 p0.Time, .vs 1 (List.map (PV.int .i64) p0.States), .vs 1 (List.map (PV.int .i64) p0.Since), .vs 1 (List.map PV.bool p0.Pulled), .vs 1 (List.map PV.bool p0.Held)]], 0⟩, ⟨34, 5, [.agg [.int .i64 0, .nils, .nils, .nils, .nils]], 0⟩, ⟨3, 1, List.map (PV.int .i64) x9.States, 1⟩, ⟨3, 1, List.map (PV.int .i64) x3, 1⟩, ⟨4, 1, List.map PV.bool x5, 1⟩, ⟨4, 1, List.map PV.bool x7, 1⟩, ⟨34, 5, [.agg [.int .i64 x9.Time, .sl (n + 2) 1 0 (x1).length, .sl (n + 3) 1 0 (x3).length, .sl (n + 4) 1 0 (x5).length, .sl (n + 5) 1 0 (x7).length]], 1⟩]) (Vr hn) 2 rfl (Yx (loc2 := [⟨34, 5, [.agg [.int .i64 p0.Time, .vs 1 (List.map (PV.int .i64) p0.States), .vs 1 (List.map (PV.int .i64) p0.Since), .vs 1 (List.map PV.bool p0.Pulled), .vs 1 (List.map PV.bool p0.Held)]], 0⟩, ⟨34, 5, [.agg [.int .i64 0, .nils, .nils, .nils, .nils]], 0⟩, ⟨3, 1, List.map (PV.int .i64) x9.States, 1⟩, ⟨3, 1, List.map (PV.int .i64) x9.Since, 1⟩, ⟨4, 1, List.map PV.bool x5, 1⟩, ⟨4, 1, List.map PV.bool x7, 1⟩, ⟨34, 5, [.agg [.int .i64 x9.Time, .sl (n + 2) 1 0 (x1).length, .sl (n + 3) 1 0 (x3).length, .sl (n + 4) 1 0 (x5).length, .sl (n + 5) 1 0 (x7).length]], 1⟩]) (Vr hn) 3 rfl (Yx (loc2 := [⟨34, 5, [.agg [.int .i64 p0.Time, .vs 1 (List.map (PV.int .i64) p0.States), .vs 1 (List.map (PV.int .i64) p0.Since), .vs 1 (List.map PV.bool p0.Pulled), .vs 1 (List.map PV.bool p0.Held)]], 0⟩, ⟨34, 5, [.agg [.int .i64 0, .nils, .nils, .nils, .nils]], 0⟩, ⟨3, 1, List.map (PV.int .i64) x9.States, 1⟩, ⟨3, 1, List.map (PV.int .i64) x9.Since, 1⟩, ⟨4, 1, List.map PV.bool x9.Pulled, 1⟩, ⟨4, 1, List.map PV.bool x7, 1⟩, ⟨34, 5, [.agg [.int .i64 x9.Time, .sl (n + 2) 1 0 (x1).length, .sl (n + 3) 1 0 (x3).length, .sl (n + 4) 1 0 (x5).length, .sl (n + 5) 1 0 (x7).length]], 1⟩]) (Vr hn) 4 rfl (Yx (loc2 := [⟨34, 5, [.agg [.int .i64 p0.Time, .vs 1 (List.map (PV.int .i64) p0.States), .vs 1 (List.map (PV.int .i64) p0.Since), .vs 1 (List.map PV.bool p0.Pulled), .vs 1 (List.map PV.bool p0.Held)]], 0⟩, ⟨34, 5, [.agg [.int .i64 0, .nils, .nils, .nils, .nils]], 0⟩, ⟨3, 1, List.map (PV.int .i64) x9.States, 1⟩, ⟨3, 1, List.map (PV.int .i64) x9.Since, 1⟩, ⟨4, 1, List.map PV.bool x9.Pulled, 1⟩, ⟨4, 1, List.map PV.bool x9.Held, 1⟩, ⟨34, 5, [.agg [.int .i64 x9.Time, .sl (n + 2) 1 0 (x1).length, .sl (n + 3) 1 0 (x3).length, .sl (n + 4) 1 0 (x5).length, .sl (n + 5) 1 0 (x7).length]], 1⟩]) (Vr hn) 5 rfl (Wh (ps0' := [(q0, ⟨3, 1, [.int .i64 pc10], w0⟩)]) hB rfl 0 rfl (ltObjN hn ⟨.int _ _, trivial⟩) rfl Wl)))))) rfl) rfl ?_
  refine Vg ?_
  refine Vi ?_
  refine Ve ?_
  refine Va (Vu (ds := [.int .i64 x9.Time, .sl (n + 2) 1 0 (x1).length, .sl (n + 3) 1 0 (x3).length, .sl (n + 4) 1 0 (x5).length, .sl (n + 5) 1 0 (x7).length]) rfl (Vd (Vr hn) rfl) rfl ta_34 ts_34 rfl rfl rfl) rfl ?_
  refine Vk (Vx (p := .agg [.int .i64 x9.Time, .sl (n + 2) 1 0 (x1).length, .sl (n + 3) 1 0 (x3).length, .sl (n + 4) 1 0 (x5).length, .sl (n + 5) 1 0 (x7).length]) (e' := .agg [.int .i64 x9.Time, .sl (n + 2) 1 0 (x1).length, .sl (n + 3) 1 0 (x3).length, .sl (n + 4) 1 0 (x5).length, .sl (n + 5) 1 0 (x7).length]) rfl (Vd (Vr hn) rfl) rfl rfl ts_34 rfl (Yc rfl) rfl (Nat.le_of_ble_eq_true rfl) rfl (Xr (Vr hn) rfl)) rfl ?_
  refine Vg ?_
  refine Xb ?_
  obtain rfl := Option.some.inj hF
  refine Zy ?_
  refine Ya.trans (Xp (E' := [(4, .ptr (n + 1) 0 0 0)]) (loc1 := [⟨34, 5, [.agg [.int .i64 p0.Time, .vs 1 (List.map (PV.int .i64) p0.States), .vs 1 (List.map (PV.int .i64) p0.Since), .vs 1 (List.map PV.bool p0.Pulled), .vs 1 (List.map PV.bool p0.Held)]], 0⟩, ⟨34, 5, [.agg [.int .i64 x9.Time, .sl (n + 2) 1 0 (x1).length, .sl (n + 3) 1 0 (x3).length, .sl (n + 4) 1 0 (x5).length, .vs 1 (List.map PV.bool x9.Held)]], 0⟩, ⟨3, 1, List.map (PV.int .i64) x9.States, 1⟩, ⟨3, 1, List.map (PV.int .i64) x9.Since, 1⟩, ⟨4, 1, List.map PV.bool x9.Pulled, 1⟩, ⟨4, 1, [], 1 + 1⟩, ⟨34, 5, [.agg [.int .i64 x9.Time, .sl (n + 2) 1 0 (x1).length, .sl (n + 3) 1 0 (x3).length, .sl (n + 4) 1 0 (x5).length, .vs 1 (List.map PV.bool x9.Held)]], 1⟩]) (Vr hn) 5 rfl (Yh (fun _ => .bool _)) ⟨Vl rfl, trivial⟩ ⟨.refl _, Yq ⟨Vl rfl, Vl rfl, Vl rfl, Vl rfl, Zi rfl rfl rfl (Vy (F_belts_Start_1_len h10 (rfl : (x1).length = _) (rfl : (x3).length = _) (rfl : (x5).length = _) (rfl : (x7).length = _)).2.2.2.1), trivial⟩, .refl _, .refl _, .refl _, .refl _, Yq ⟨Vl rfl, Vl rfl, Vl rfl, Vl rfl, Zi rfl rfl rfl (Vy (F_belts_Start_1_len h10 (rfl : (x1).length = _) (rfl : (x3).length = _) (rfl : (x5).length = _) (rfl : (x7).length = _)).2.2.2.1), trivial⟩, trivial⟩) ?_
  exact Vv (Vr hn) [(2, 1), (3, 1), (4, 1), (1, 0)] (by decide) ⟨Yo 3 1 rfl rfl, trivial⟩ ⟨⟨_, rfl, rfl, .same _ _ _ _ (Vh (fun _ => .int _ _))⟩, ⟨_, rfl, rfl, .same _ _ _ _ (Vh (fun _ => .int _ _))⟩, ⟨_, rfl, rfl, .same _ _ _ _ (Vh (fun _ => .bool _))⟩, ⟨_, rfl, rfl, .agg _ _ _ _ _ ⟨Vs rfl (.int _ _), Xu 0 2 rfl (congrArg (PV.sl _ _ 0) (F_belts_Start_1_len h10 (rfl : (x1).length = _) (rfl : (x3).length = _) (rfl : (x5).length = _) (rfl : (x7).length = _)).1), Xu 1 3 rfl (congrArg (PV.sl _ _ 0) (F_belts_Start_1_len h10 (rfl : (x1).length = _) (rfl : (x3).length = _) (rfl : (x5).length = _) (rfl : (x7).length = _)).2.1), Xu 2 4 rfl (congrArg (PV.sl _ _ 0) (F_belts_Start_1_len h10 (rfl : (x1).length = _) (rfl : (x3).length = _) (rfl : (x5).length = _) (rfl : (x7).length = _)).2.2.1), Vs rfl (.vs _ _), trivial⟩⟩, trivial⟩
 ·rintro _ _ _ _ ⟨he, hw⟩
  refine ⟨_, _, _, hw, ?_⟩
  exact Zj (Vr hn) 3 rfl (Nat.le_of_ble_eq_true rfl) he [.agg [.int .i64 r.Time, .sl (n + 0) 0 0 (r.States).length, .sl (n + 1) 0 0 (r.Since).length, .sl (n + 2) 0 0 (r.Pulled).length, .vs 1 (List.map PV.bool r.Held)]] ⟨Vu rfl (Vd (Vr hn) rfl) rfl ta_34 ts_34 rfl rfl rfl, trivial⟩ ((Xx ⟨.int _ _, .sl _ _ _ _ (Zr rfl), .sl _ _ _ _ (Zr rfl), .sl _ _ _ _ (Zr rfl), .vs _ _, trivial⟩)) ⟨Vh (fun _ => .int _ _), Vh (fun _ => .int _ _), Vh (fun _ => .bool _), trivial⟩ ⟨rfl, rfl⟩

theorem F_belts_done__belts_Start_1_ok {p0 : T_Line} {pc10 : Int} {r : T_Line} (hF : F_belts_done__belts_Start_1 p0 pc10 = some r) {low : List AObj} {q0 w0 : Nat} (hnd : [q0].Nodup) (hq0 : low[q0]? = some ⟨3, 1, [.int .i64 pc10], w0⟩) {n : Nat} (hn : low.length = n) :
    Yv Try.prog 31 [.agg [.int .i64 p0.Time, .vs 1 (List.map (PV.int .i64) p0.States), .vs 1 (List.map (PV.int .i64) p0.Since), .vs 1 (List.map PV.bool p0.Pulled), .vs 1 (List.map PV.bool p0.Held)], .fn 32 [] [.ptr q0 w0 0 0]] low fun x low' => x = .agg [.int .i64 r.Time, .sl (n + 0) 0 0 (r.States).length, .sl (n + 1) 0 0 (r.Since).length, .sl (n + 2) 0 0 (r.Pulled).length, .vs 1 (List.map PV.bool r.Held)] ∧ low' = setL low [(q0, ⟨3, 1, [.int .i64 pc10], w0⟩)] ++ [⟨3, 1, List.map (PV.int .i64) r.States, 0⟩, ⟨3, 1, List.map (PV.int .i64) r.Since, 0⟩, ⟨4, 1, List.map PV.bool r.Pulled, 0⟩] := by
  obtain ⟨h1, h2⟩ := Wk (ps := [(q0, ⟨3, 1, [.int .i64 pc10], w0⟩)]) hnd (Zx hq0 bor0)
  exact Zz h1 (F_belts_done__belts_Start_1_ok0 hF h2 hn)

theorem F_belts_Start_ok {p0 : List T_Belt} {p1 : T_Line} {p2 : Int} {r : T_Line × Int} (hF : F_belts_Start p0 p1 p2 = some r) (low : List AObj) {n : Nat} (hn : low.length = n) :
    Yv Try.prog 13 [.vs 2 (List.map T_Belt.enc p0), .agg [.int .i64 p1.Time, .vs 1 (List.map (PV.int .i64) p1.States), .vs 1 (List.map (PV.int .i64) p1.Since), .vs 1 (List.map PV.bool p1.Pulled), .vs 1 (List.map PV.bool p1.Held)], .int .i64 p2] low fun x low' => x = .tup [.agg [.int .i64 r.1.Time, .vs 1 (List.map (PV.int .i64) r.1.States), .vs 1 (List.map (PV.int .i64) r.1.Since), .vs 1 (List.map PV.bool r.1.Pulled), .vs 1 (List.map PV.bool r.1.Held)], .int .i64 r.2] ∧ low' = low ++ [] := by
 refine Xc (nt := 60) (rs := [.cell 6 34, .tmp 7]) Try.func13 rfl rfl (Nat.le_of_ble_eq_true rfl) rfl ?_
 refine Vw (Q' := FnE (fun E' lw lc => Ya E' lw lc [(6, .ptr (n + 0) 0 0 0), (7, .int .i64 r.2)] low [⟨34, 5, [.agg [.int .i64 r.1.Time, .vs 1 (List.map (PV.int .i64) r.1.States), .vs 1 (List.map (PV.int .i64) r.1.Since), .vs 1 (List.map PV.bool r.1.Pulled), .vs 1 (List.map PV.bool r.1.Held)]], 0⟩])) ?_ ?_
 ·unfold F_belts_Start at hF
  refine Vi ?_
  refine Ve ?_
  refine Vk (Yw hn rfl (v := .agg [.int .i64 p1.Time, .vs 1 (List.map (PV.int .i64) p1.States), .vs 1 (List.map (PV.int .i64) p1.Since), .vs 1 (List.map PV.bool p1.Pulled), .vs 1 (List.map PV.bool p1.Held)]) rfl rfl (Nat.succ_pos _) rfl rfl) rfl ?_
  refine Vk (Yw hn rfl (v := .int .i64 p2) rfl rfl (Nat.succ_pos _) rfl rfl) rfl ?_
  refine Vk (Xe hn rfl tz_34 rfl rfl (Nat.succ_pos _) rfl) rfl ?_
  refine Va (Xa rfl) rfl ?_
  refine Vg ?_
  refine Vi ?_
  refine Vi ?_
  refine Ve ?_
  obtain ⟨x1, h2, hF⟩ := Ys hF
  refine Va (Xd rfl) rfl ?_
  refine Va (Vu (ds := [.int .i64 p1.Time, .vs 1 (List.map (PV.int .i64) p1.States), .vs 1 (List.map (PV.int .i64) p1.Since), .vs 1 (List.map PV.bool p1.Pulled), .vs 1 (List.map PV.bool p1.Held)]) rfl (Vd hn rfl) rfl ta_34 ts_34 rfl rfl rfl) rfl ?_
  refine Va (Vf rfl (Vd hn rfl) rfl ta_3 rfl) rfl ?_
  refine Vk (Xk rfl Try.call30 (F_belts_checked_ok h2 _)) rfl ?_
  refine Va (Xa rfl) rfl ?_
  refine Vg ?_
  refine Vi ?_
  refine Ve ?_
  refine Va (Vj rfl) rfl ?_
  refine Va (Zb rfl rfl) rfl ?_
  refine Vg ?_
  refine Xj rfl (fun c3 => ?_) (fun c3 => ?_)
  ·have hF := Yl c3 hF
   refine Vi ?_
   refine Ve ?_
   refine Va (Vu (ds := [.int .i64 p1.Time, .vs 1 (List.map (PV.int .i64) p1.States), .vs 1 (List.map (PV.int .i64) p1.Since), .vs 1 (List.map PV.bool p1.Pulled), .vs 1 (List.map PV.bool p1.Held)]) rfl (Vd hn rfl) rfl ta_34 ts_34 rfl rfl rfl) rfl ?_
   refine Va (Vj rfl) rfl ?_
   refine Vk (Vx (p := .agg [.int .i64 p1.Time, .vs 1 (List.map (PV.int .i64) p1.States), .vs 1 (List.map (PV.int .i64) p1.Since), .vs 1 (List.map PV.bool p1.Pulled), .vs 1 (List.map PV.bool p1.Held)]) (e' := .agg [.int .i64 p1.Time, .vs 1 (List.map (PV.int .i64) p1.States), .vs 1 (List.map (PV.int .i64) p1.Since), .vs 1 (List.map PV.bool p1.Pulled), .vs 1 (List.map PV.bool p1.Held)]) rfl (Vd hn rfl) rfl rfl ts_34 rfl (Yc rfl) rfl (Nat.le_of_ble_eq_true rfl) rfl (Xr hn rfl)) rfl ?_
   refine Va (Xa rfl) rfl ?_
   refine Vg ?_
   refine Xb ?_
   obtain rfl := Option.some.inj hF
   refine Zy ?_
   exact Vv hn [(2, 0)] (by decide) ⟨Yo 0 2 rfl rfl, Vs rfl (.int _ _), trivial⟩ ⟨⟨_, rfl, rfl, .same _ _ _ _ (Xt ⟨Xx ⟨.int _ _, .vs _ _, .vs _ _, .vs _ _, .vs _ _, trivial⟩, trivial⟩)⟩, trivial⟩
  ·have hF := Ym c3 hF
   refine Xq ?_
   refine Vi ?_
   refine Ve ?_
   obtain ⟨x4, h5, hF⟩ := Ys hF
   refine Va (Xd rfl) rfl ?_
   refine Va (Vf rfl (Vd hn rfl) rfl ta_3 rfl) rfl ?_
   refine Va (Xi (Yj rfl rfl h5 te_27 ts_31) (v' := .vptr [.int .i64 x4.Onto, .int .i64 x4.Warn] 0) rfl) rfl ?_
   refine Va (Yb rfl tf_31_0 ts_3 (by decide)) rfl ?_
   refine Va (Xg rfl ta_3 rfl) rfl ?_
   refine Va (Xa rfl) rfl ?_
   refine Vg ?_
   refine Vi ?_
   refine Yk ?_
   refine Vi ?_
   refine Ve ?_
   obtain ⟨x6, h7, hF⟩ := Ys hF
   refine Va (Vc rfl tf_34_1 ts_22 (by decide)) rfl ?_
   refine Va (Vf rfl (Vd hn rfl) rfl ta_22 rfl) rfl ?_
   refine Va (Vf rfl (Vd hn rfl) rfl ta_3 rfl) rfl ?_
   refine Va (Xi (Yj rfl rfl h7 te_22 ts_3) (v' := .vptr [.int .i64 x6] 0) rfl) rfl ?_
   refine Va (Xg rfl ta_3 rfl) rfl ?_
   refine Va (Zb rfl rfl) rfl ?_
   refine Va (Xy rfl) rfl ?_
   refine Vg ?_
   refine Xj rfl (fun c8 => ?_) (fun c8 => ?_)
   ·have hF := Yl c8 hF
    refine Vi ?_
    refine Ve ?_
    refine Va (Vu (ds := [.int .i64 p1.Time, .vs 1 (List.map (PV.int .i64) p1.States), .vs 1 (List.map (PV.int .i64) p1.Since), .vs 1 (List.map PV.bool p1.Pulled), .vs 1 (List.map PV.bool p1.Held)]) rfl (Vd hn rfl) rfl ta_34 ts_34 rfl rfl rfl) rfl ?_
    refine Vk (Vx (p := .agg [.int .i64 p1.Time, .vs 1 (List.map (PV.int .i64) p1.States), .vs 1 (List.map (PV.int .i64) p1.Since), .vs 1 (List.map PV.bool p1.Pulled), .vs 1 (List.map PV.bool p1.Held)]) (e' := .agg [.int .i64 p1.Time, .vs 1 (List.map (PV.int .i64) p1.States), .vs 1 (List.map (PV.int .i64) p1.Since), .vs 1 (List.map PV.bool p1.Pulled), .vs 1 (List.map PV.bool p1.Held)]) rfl (Vd hn rfl) rfl rfl ts_34 rfl (Yc rfl) rfl (Nat.le_of_ble_eq_true rfl) rfl (Xr hn rfl)) rfl ?_
    refine Va (Xa rfl) rfl ?_
    refine Vg ?_
    refine Xb ?_
    obtain rfl := Option.some.inj hF
    refine Zy ?_
    exact Vv hn [(2, 0)] (by decide) ⟨Yo 0 2 rfl rfl, Vs rfl (.int _ _), trivial⟩ ⟨⟨_, rfl, rfl, .same _ _ _ _ (Xt ⟨Xx ⟨.int _ _, .vs _ _, .vs _ _, .vs _ _, .vs _ _, trivial⟩, trivial⟩)⟩, trivial⟩
   ·have hF := Ym c8 hF
    refine Vi ?_
    obtain ⟨o9, ho9, hF⟩ := Ys hF
    refine Vw (Q' := (fun o9 => OnlyE .normal (fun E' lw lc => Ya E' lw lc [(4, .ptr (n + 0) 0 0 0), (5, .ptr (n + 1) 0 0 0), (6, .ptr (n + 2) 0 0 0), (9, .int .i64 x4.Onto), (31, .bool o9)] low [⟨34, 5, [.agg [.int .i64 p1.Time, .vs 1 (List.map (PV.int .i64) p1.States), .vs 1 (List.map (PV.int .i64) p1.Since), .vs 1 (List.map PV.bool p1.Pulled), .vs 1 (List.map PV.bool p1.Held)]], 0⟩, ⟨3, 1, [.int .i64 p2], 0⟩, ⟨34, 5, [.agg [.int .i64 0, .nils, .nils, .nils, .nils]], 0⟩])) o9) ?_ ?_
    ·replace hF := ho9
     refine Ve ?_
     obtain ⟨x10, h11, hF⟩ := Ys hF
     rcases Bool.eq_false_or_eq_true x10 with c12 | c12
     ·have hF := Yl c12 hF
      refine Va (Vc rfl tf_34_3 ts_32 (by decide)) rfl ?_
      refine Va (Vf rfl (Vd hn rfl) rfl ta_32 rfl) rfl ?_
      refine Va (Vf rfl (Vd hn rfl) rfl ta_3 rfl) rfl ?_
      refine Va (Xi (Yj rfl rfl h11 te_32 ts_4) (v' := .vptr [.bool x10] 0) rfl) rfl ?_
      refine Va (Xg rfl ta_4 rfl) rfl ?_
      refine Va (Vm rfl) rfl ?_
      refine Vb rfl rfl (Zh c12) rfl ?_
      refine Vb rfl rfl (Zh c12) rfl ?_
      refine Vb rfl rfl (Zh c12) rfl ?_
      refine Vb rfl rfl (Zh c12) rfl ?_
      refine Vb rfl rfl (Zh c12) rfl ?_
      refine Va (Vp (congrArg PV.bool c12) rfl) rfl ?_
      refine Va (Xy rfl) rfl ?_
      refine Vg ?_
      obtain rfl := Option.some.inj hF
      refine Xv ?_
      exact Vq ⟨rfl, rfl, rfl, rfl, rfl, trivial⟩
     ·have hF := Ym c12 hF
      obtain ⟨x13, h14, hF⟩ := Ys hF
      refine Va (Vc rfl tf_34_3 ts_32 (by decide)) rfl ?_
      refine Va (Vf rfl (Vd hn rfl) rfl ta_32 rfl) rfl ?_
      refine Va (Vf rfl (Vd hn rfl) rfl ta_3 rfl) rfl ?_
      refine Va (Xi (Yj rfl rfl h11 te_32 ts_4) (v' := .vptr [.bool x10] 0) rfl) rfl ?_
      refine Va (Xg rfl ta_4 rfl) rfl ?_
      refine Va (Vm rfl) rfl ?_
      refine Vz rfl rfl c12 ?_
      refine Va (Vc rfl tf_34_4 ts_32 (by decide)) rfl ?_
      refine Vz rfl rfl c12 ?_
      refine Va (Vf rfl (Vd hn rfl) rfl ta_32 rfl) rfl ?_
      refine Vz rfl rfl c12 ?_
      refine Va (Vf rfl (Vd hn rfl) rfl ta_3 rfl) rfl ?_
      refine Vz rfl rfl c12 ?_
      refine Va (Xi (Yj rfl rfl h14 te_32 ts_4) (v' := .vptr [.bool x13] 0) rfl) rfl ?_
      refine Vz rfl rfl c12 ?_
      refine Va (Xg rfl ta_4 rfl) rfl ?_
      refine Va (Vo (congrArg PV.bool c12) rfl) rfl ?_
      refine Va (Xy rfl) rfl ?_
      refine Vg ?_
      obtain rfl := Option.some.inj hF
      refine Xv ?_
      exact Vq ⟨rfl, rfl, rfl, rfl, rfl, trivial⟩
    ·rintro _ _ _ _ ⟨rfl, hw⟩
     refine ⟨_, _, _, hw, ?_⟩
     refine Xj rfl (fun c15 => ?_) (fun c15 => ?_)
     ·have hF := Yl c15 hF
      refine Vi ?_
      refine Ve ?_
      refine Va (Vu (ds := [.int .i64 p1.Time, .vs 1 (List.map (PV.int .i64) p1.States), .vs 1 (List.map (PV.int .i64) p1.Since), .vs 1 (List.map PV.bool p1.Pulled), .vs 1 (List.map PV.bool p1.Held)]) rfl (Vd hn rfl) rfl ta_34 ts_34 rfl rfl rfl) rfl ?_
      refine Vk (Vx (p := .agg [.int .i64 p1.Time, .vs 1 (List.map (PV.int .i64) p1.States), .vs 1 (List.map (PV.int .i64) p1.Since), .vs 1 (List.map PV.bool p1.Pulled), .vs 1 (List.map PV.bool p1.Held)]) (e' := .agg [.int .i64 p1.Time, .vs 1 (List.map (PV.int .i64) p1.States), .vs 1 (List.map (PV.int .i64) p1.Since), .vs 1 (List.map PV.bool p1.Pulled), .vs 1 (List.map PV.bool p1.Held)]) rfl (Vd hn rfl) rfl rfl ts_34 rfl (Yc rfl) rfl (Nat.le_of_ble_eq_true rfl) rfl (Xr hn rfl)) rfl ?_
      refine Va (Xa rfl) rfl ?_
      refine Vg ?_
      refine Xb ?_
      obtain rfl := Option.some.inj hF
      refine Zy ?_
      exact Vv hn [(2, 0)] (by decide) ⟨Yo 0 2 rfl rfl, Vs rfl (.int _ _), trivial⟩ ⟨⟨_, rfl, rfl, .same _ _ _ _ (Xt ⟨Xx ⟨.int _ _, .vs _ _, .vs _ _, .vs _ _, .vs _ _, trivial⟩, trivial⟩)⟩, trivial⟩
     ·have hF := Ym c15 hF
      refine Vi ?_
      obtain ⟨o16, ho16, hF⟩ := Ys hF
      refine Vw (Q' := (fun o16 => OnlyE .normal (fun E' lw lc => Ya E' lw lc [(4, .ptr (n + 0) 0 0 0), (5, .ptr (n + 1) 0 0 0), (6, .ptr (n + 2) 0 0 0), (45, .bool o16)] low [⟨34, 5, [.agg [.int .i64 p1.Time, .vs 1 (List.map (PV.int .i64) p1.States), .vs 1 (List.map (PV.int .i64) p1.Since), .vs 1 (List.map PV.bool p1.Pulled), .vs 1 (List.map PV.bool p1.Held)]], 0⟩, ⟨3, 1, [.int .i64 p2], 0⟩, ⟨34, 5, [.agg [.int .i64 0, .nils, .nils, .nils, .nils]], 0⟩])) o16) ?_ ?_
      ·replace hF := ho16
       refine Ve ?_
       rcases Bool.eq_false_or_eq_true (decide (0 ≤ x4.Onto)) with c17 | c17
       ·have hF := Yl c17 hF
        obtain ⟨x18, h19, hF⟩ := Ys hF
        refine Va (Vj rfl) rfl ?_
        refine Va (rd_geq rfl rfl) rfl ?_
        refine Va (Vm rfl) rfl ?_
        refine Vz rfl rfl c17 ?_
        refine Va (Vc rfl tf_34_1 ts_22 (by decide)) rfl ?_
        refine Vz rfl rfl c17 ?_
        refine Va (Vf rfl (Vd hn rfl) rfl ta_22 rfl) rfl ?_
        refine Vz rfl rfl c17 ?_
        refine Va (Vj rfl) rfl ?_
        refine Vz rfl rfl c17 ?_
        refine Va (Xi (Yj rfl rfl h19 te_22 ts_3) (v' := .vptr [.int .i64 x18] 0) rfl) rfl ?_
        refine Vz rfl rfl c17 ?_
        refine Va (Xg rfl ta_3 rfl) rfl ?_
        refine Vz rfl rfl c17 ?_
        refine Va (Zb rfl rfl) rfl ?_
        refine Va (Vp (congrArg PV.bool c17) rfl) rfl ?_
        refine Va (Xy rfl) rfl ?_
        refine Vg ?_
        obtain rfl := Option.some.inj hF
        refine Xv ?_
        exact Vq ⟨rfl, rfl, rfl, rfl, trivial⟩
       ·have hF := Ym c17 hF
        refine Va (Vj rfl) rfl ?_
        refine Va (rd_geq rfl rfl) rfl ?_
        refine Va (Vm rfl) rfl ?_
        refine Vb rfl rfl (Zm c17) rfl ?_
        refine Vb rfl rfl (Zm c17) rfl ?_
        refine Vb rfl rfl (Zm c17) rfl ?_
        refine Vb rfl rfl (Zm c17) rfl ?_
        refine Vb rfl rfl (Zm c17) rfl ?_
        refine Vb rfl rfl (Zm c17) rfl ?_
        refine Va (Vo (congrArg PV.bool c17) rfl) rfl ?_
        refine Va (Xy rfl) rfl ?_
        refine Vg ?_
        obtain rfl := Option.some.inj hF
        refine Xv ?_
        exact Vq ⟨rfl, rfl, rfl, rfl, trivial⟩
      ·rintro _ _ _ _ ⟨rfl, hw⟩
       refine ⟨_, _, _, hw, ?_⟩
       refine Xj rfl (fun c20 => ?_) (fun c20 => ?_)
       ·have hF := Yl c20 hF
        refine Vi ?_
        refine Ve ?_
        refine Va (Vu (ds := [.int .i64 p1.Time, .vs 1 (List.map (PV.int .i64) p1.States), .vs 1 (List.map (PV.int .i64) p1.Since), .vs 1 (List.map PV.bool p1.Pulled), .vs 1 (List.map PV.bool p1.Held)]) rfl (Vd hn rfl) rfl ta_34 ts_34 rfl rfl rfl) rfl ?_
        refine Vk (Vx (p := .agg [.int .i64 p1.Time, .vs 1 (List.map (PV.int .i64) p1.States), .vs 1 (List.map (PV.int .i64) p1.Since), .vs 1 (List.map PV.bool p1.Pulled), .vs 1 (List.map PV.bool p1.Held)]) (e' := .agg [.int .i64 p1.Time, .vs 1 (List.map (PV.int .i64) p1.States), .vs 1 (List.map (PV.int .i64) p1.Since), .vs 1 (List.map PV.bool p1.Pulled), .vs 1 (List.map PV.bool p1.Held)]) rfl (Vd hn rfl) rfl rfl ts_34 rfl (Yc rfl) rfl (Nat.le_of_ble_eq_true rfl) rfl (Xr hn rfl)) rfl ?_
        refine Va (Xa rfl) rfl ?_
        refine Vg ?_
        refine Xb ?_
        obtain rfl := Option.some.inj hF
        refine Zy ?_
        exact Vv hn [(2, 0)] (by decide) ⟨Yo 0 2 rfl rfl, Vs rfl (.int _ _), trivial⟩ ⟨⟨_, rfl, rfl, .same _ _ _ _ (Xt ⟨Xx ⟨.int _ _, .vs _ _, .vs _ _, .vs _ _, .vs _ _, trivial⟩, trivial⟩)⟩, trivial⟩
       ·have hF := Ym c20 hF
        refine Xq ?_
        refine Vi ?_
        refine Ve ?_
        obtain ⟨x21, h22, hF⟩ := Ys hF
        refine Va (Vu (ds := [.int .i64 p1.Time, .vs 1 (List.map (PV.int .i64) p1.States), .vs 1 (List.map (PV.int .i64) p1.Since), .vs 1 (List.map PV.bool p1.Pulled), .vs 1 (List.map PV.bool p1.Held)]) rfl (Vd hn rfl) rfl ta_34 ts_34 rfl rfl rfl) rfl ?_
        refine Va (rd_makeFn rfl) rfl ?_
        refine Vk (Wc (ps := [((n + 1), ⟨3, 1, [.int .i64 p2], 0⟩)]) (r := .agg [.int .i64 x21.Time, .sl (n + 3) 0 0 (x21.States).length, .sl (n + 4) 0 0 (x21.Since).length, .sl (n + 5) 0 0 (x21.Pulled).length, .vs 1 (List.map PV.bool x21.Held)]) (os := [⟨3, 1, List.map (PV.int .i64) x21.States, 0⟩, ⟨3, 1, List.map (PV.int .i64) x21.Since, 0⟩, ⟨4, 1, List.map PV.bool x21.Pulled, 0⟩]) (low1 := low) (loc1 := [⟨34, 5, [.agg [.int .i64 p1.Time, .vs 1 (List.map (PV.int .i64) p1.States), .vs 1 (List.map (PV.int .i64) p1.Since), .vs 1 (List.map PV.bool p1.Pulled), .vs 1 (List.map PV.bool p1.Held)]], 0⟩, ⟨3, 1, [.int .i64 p2], 0⟩, ⟨34, 5, [.agg [.int .i64 0, .nils, .nils, .nils, .nils]], 0⟩]) (loc2 := [⟨34, 5, [.agg [.int .i64 p1.Time, .vs 1 (List.map (PV.int .i64) p1.States), .vs 1 (List.map (PV.int .i64) p1.Since), .vs 1 (List.map PV.bool p1.Pulled), .vs 1 (List.map PV.bool p1.Held)]], 0⟩, ⟨3, 1, [.int .i64 p2], 0⟩, ⟨34, 5, [.agg [.int .i64 0, .nils, .nils, .nils, .nils]], 0⟩, ⟨3, 1, List.map (PV.int .i64) x21.States, 0⟩, ⟨3, 1, List.map (PV.int .i64) x21.Since, 0⟩, ⟨4, 1, List.map PV.bool x21.Pulled, 0⟩]) rfl Try.call31 (F_belts_done__belts_Start_1_ok h22 (nd1 na0 nd0) (Zw hn rfl) (Xn hn rfl)) (Yx (loc2 := [⟨34, 5, [.agg [.int .i64 p1.Time, .vs 1 (List.map (PV.int .i64) p1.States), .vs 1 (List.map (PV.int .i64) p1.Since), .vs 1 (List.map PV.bool p1.Pulled), .vs 1 (List.map PV.bool p1.Held)]], 0⟩, ⟨3, 1, [.int .i64 p2], 0⟩, ⟨34, 5, [.agg [.int .i64 0, .nils, .nils, .nils, .nils]], 0⟩]) hn 1 rfl Wl) rfl) rfl ?_
        refine Vk (Vx (p := .agg [.int .i64 x21.Time, .sl (n + 3) 0 0 (x21.States).length, .sl (n + 4) 0 0 (x21.Since).length, .sl (n + 5) 0 0 (x21.Pulled).length, .vs 1 (List.map PV.bool x21.Held)]) (e' := .agg [.int .i64 x21.Time, .sl (n + 3) 0 0 (x21.States).length, .sl (n + 4) 0 0 (x21.Since).length, .sl (n + 5) 0 0 (x21.Pulled).length, .vs 1 (List.map PV.bool x21.Held)]) rfl (Vd hn rfl) rfl rfl ts_34 rfl (Yc rfl) rfl (Nat.le_of_ble_eq_true rfl) rfl (Xr hn rfl)) rfl ?_
        refine Va (Xa rfl) rfl ?_
        refine Vg ?_
        refine Xb ?_
        obtain rfl := Option.some.inj hF
        refine Zy ?_
        refine Ya.trans (Xp (E' := [(6, .ptr (n + 2) 0 0 0), (7, .int .i64 0)]) (loc1 := [⟨34, 5, [.agg [.int .i64 p1.Time, .vs 1 (List.map (PV.int .i64) p1.States), .vs 1 (List.map (PV.int .i64) p1.Since), .vs 1 (List.map PV.bool p1.Pulled), .vs 1 (List.map PV.bool p1.Held)]], 0⟩, ⟨3, 1, [.int .i64 p2], 0⟩, ⟨34, 5, [.agg [.int .i64 x21.Time, .vs 1 (List.map (PV.int .i64) x21.States), .sl (n + 4) 0 0 (x21.Since).length, .sl (n + 5) 0 0 (x21.Pulled).length, .vs 1 (List.map PV.bool x21.Held)]], 0⟩, ⟨3, 1, [], 0 + 1⟩, ⟨3, 1, List.map (PV.int .i64) x21.Since, 0⟩, ⟨4, 1, List.map PV.bool x21.Pulled, 0⟩]) hn 3 rfl (Yh (fun _ => .int _ _)) ⟨Vl rfl, Vl rfl, trivial⟩ ⟨.refl _, .refl _, Yq ⟨Vl rfl, Zi rfl rfl rfl (Vy rfl), Vl rfl, Vl rfl, Vl rfl, trivial⟩, .refl _, .refl _, .refl _, trivial⟩) ?_
        refine Ya.trans (Xp (E' := [(6, .ptr (n + 2) 0 0 0), (7, .int .i64 0)]) (loc1 := [⟨34, 5, [.agg [.int .i64 p1.Time, .vs 1 (List.map (PV.int .i64) p1.States), .vs 1 (List.map (PV.int .i64) p1.Since), .vs 1 (List.map PV.bool p1.Pulled), .vs 1 (List.map PV.bool p1.Held)]], 0⟩, ⟨3, 1, [.int .i64 p2], 0⟩, ⟨34, 5, [.agg [.int .i64 x21.Time, .vs 1 (List.map (PV.int .i64) x21.States), .vs 1 (List.map (PV.int .i64) x21.Since), .sl (n + 5) 0 0 (x21.Pulled).length, .vs 1 (List.map PV.bool x21.Held)]], 0⟩, ⟨3, 1, [], 0 + 1⟩, ⟨3, 1, [], 0 + 1⟩, ⟨4, 1, List.map PV.bool x21.Pulled, 0⟩]) hn 4 rfl (Yh (fun _ => .int _ _)) ⟨Vl rfl, Vl rfl, trivial⟩ ⟨.refl _, .refl _, Yq ⟨Vl rfl, Vl rfl, Zi rfl rfl rfl (Vy rfl), Vl rfl, Vl rfl, trivial⟩, .refl _, .refl _, .refl _, trivial⟩) ?_
        refine Ya.trans (Xp (E' := [(6, .ptr (n + 2) 0 0 0), (7, .int .i64 0)]) (loc1 := [⟨34, 5, [.agg [.int .i64 p1.Time, .vs 1 (List.map (PV.int .i64) p1.States), .vs 1 (List.map (PV.int .i64) p1.Since), .vs 1 (List.map PV.bool p1.Pulled), .vs 1 (List.map PV.bool p1.Held)]], 0⟩, ⟨3, 1, [.int .i64 p2], 0⟩, ⟨34, 5, [.agg [.int .i64 x21.Time, .vs 1 (List.map (PV.int .i64) x21.States), .vs 1 (List.map (PV.int .i64) x21.Since), .vs 1 (List.map PV.bool x21.Pulled), .vs 1 (List.map PV.bool x21.Held)]], 0⟩, ⟨3, 1, [], 0 + 1⟩, ⟨3, 1, [], 0 + 1⟩, ⟨4, 1, [], 0 + 1⟩]) hn 5 rfl (Yh (fun _ => .bool _)) ⟨Vl rfl, Vl rfl, trivial⟩ ⟨.refl _, .refl _, Yq ⟨Vl rfl, Vl rfl, Vl rfl, Zi rfl rfl rfl (Vy rfl), Vl rfl, trivial⟩, .refl _, .refl _, .refl _, trivial⟩) ?_
        exact Vv hn [(2, 0)] (by decide) ⟨Yo 0 2 rfl rfl, Vs rfl (.int _ _), trivial⟩ ⟨⟨_, rfl, rfl, .same _ _ _ _ (Xt ⟨Xx ⟨.int _ _, .vs _ _, .vs _ _, .vs _ _, .vs _ _, trivial⟩, trivial⟩)⟩, trivial⟩
 ·rintro _ _ _ _ ⟨he, hw⟩
  refine ⟨_, _, _, hw, ?_⟩
  exact Zj hn 0 rfl (Nat.le_of_ble_eq_true rfl) he [.agg [.int .i64 r.1.Time, .vs 1 (List.map (PV.int .i64) r.1.States), .vs 1 (List.map (PV.int .i64) r.1.Since), .vs 1 (List.map PV.bool r.1.Pulled), .vs 1 (List.map PV.bool r.1.Held)], .int .i64 r.2] ⟨Vu rfl (Vd hn rfl) rfl ta_34 ts_34 rfl rfl rfl, rfl, trivial⟩ ((lt_tup ⟨(Xx ⟨.int _ _, .vs _ _, .vs _ _, .vs _ _, .vs _ _, trivial⟩), .int _ _, trivial⟩)) trivial ⟨rfl, rfl⟩

theorem F_belts_Wait_1_ok0 {p0 : T_Line} {p1 : Int} {p2 : List T_Belt} {r : T_Line} (hF : F_belts_Wait_1 p0 p1 p2 = some r) {low0 : List AObj} {q0 q1 q2 q3 q4 q5 q6 w0 w1 w2 w3 w4 w5 w6 : Nat} (hB : Bor low0 [q0, q1, q2, q3, q4, q5, q6]) {m1 : Nat} (hm1 : m1 = (p0.States).length) {m2 : Nat} (hm2 : m2 = (p0.Since).length) {m3 : Nat} (hm3 : m3 = (p0.Pulled).length) {m4 : Nat} (hm4 : m4 = (p0.Held).length) {n : Nat} (hn : low0.length = n) :
    Yv Try.prog 34 [.ptr q0 w0 0 0, .ptr q5 w5 0 0, .ptr q6 w6 0 0] (setL low0 [(q0, ⟨34, 5, [.agg [.int .i64 p0.Time, .sl q1 w1 0 m1, .sl q2 w2 0 m2, .sl q3 w3 0 m3, .sl q4 w4 0 m4]], w0⟩), (q1, ⟨3, 1, List.map (PV.int .i64) p0.States, w1⟩), (q2, ⟨3, 1, List.map (PV.int .i64) p0.Since, w2⟩), (q3, ⟨4, 1, List.map PV.bool p0.Pulled, w3⟩), (q4, ⟨4, 1, List.map PV.bool p0.Held, w4⟩), (q5, ⟨3, 1, [.int .i64 p1], w5⟩), (q6, ⟨27, 1, [.vs 2 (List.map T_Belt.enc p2)], w6⟩)]) fun x low' => x = .tup [] ∧ low' = setL low0 [(q0, ⟨34, 5, [.agg [.int .i64 r.Time, .sl q1 w1 0 m1, .sl q2 w2 0 m2, .sl q3 w3 0 m3, .sl q4 w4 0 m4]], w0⟩), (q1, ⟨3, 1, List.map (PV.int .i64) r.States, w1⟩), (q2, ⟨3, 1, List.map (PV.int .i64) r.Since, w2⟩), (q3, ⟨4, 1, List.map PV.bool r.Pulled, w3⟩), (q4, ⟨4, 1, List.map PV.bool r.Held, w4⟩), (q5, ⟨3, 1, [.int .i64 p1], w5⟩), (q6, ⟨27, 1, [.vs 2 (List.map T_Belt.enc p2)], w6⟩)] ++ [] := by
 refine Xc (nt := 55) (rs := []) Try.func34 rfl rfl (Nat.le_of_ble_eq_true rfl) rfl ?_
 have hq0 : q0 < n := hB.ltN hn 0 rfl
 have hq1 : q1 < n := hB.ltN hn 1 rfl
 have hq2 : q2 < n := hB.ltN hn 2 rfl
 have hq3 : q3 < n := hB.ltN hn 3 rfl
 have hq4 : q4 < n := hB.ltN hn 4 rfl
 have hq5 : q5 < n := hB.ltN hn 5 rfl
 have hq6 : q6 < n := hB.ltN hn 6 rfl
 refine Vw (Q' := FnE (fun E' lw lc => m1 = (r.States).length ∧ m2 = (r.Since).length ∧ m3 = (r.Pulled).length ∧ m4 = (r.Held).length ∧ Ya E' lw lc [] (setL low0 [(q0, ⟨34, 5, [.agg [.int .i64 r.Time, .sl q1 w1 0 m1, .sl q2 w2 0 m2, .sl q3 w3 0 m3, .sl q4 w4 0 m4]], w0⟩), (q1, ⟨3, 1, List.map (PV.int .i64) r.States, w1⟩), (q2, ⟨3, 1, List.map (PV.int .i64) r.Since, w2⟩), (q3, ⟨4, 1, List.map PV.bool r.Pulled, w3⟩), (q4, ⟨4, 1, List.map PV.bool r.Held, w4⟩), (q5, ⟨3, 1, [.int .i64 p1], w5⟩), (q6, ⟨27, 1, [.vs 2 (List.map T_Belt.enc p2)], w6⟩)]) [])) ?_ ?_
 ·unfold F_belts_Wait_1 at hF
  refine Vi ?_
  refine Ve ?_
  refine Va (rd_mvP rfl) rfl ?_
  refine Va (Vf rfl (Za hB rfl 5 rfl) rfl ta_3 rfl) rfl ?_
  refine Va (Wg rfl) rfl ?_
  refine Va (Vc rfl tf_34_0 ts_3 (by decide)) rfl ?_
  refine Vk (Vx (p := .int .i64 p1) (e' := .agg [.int .i64 p1, .sl q1 w1 0 m1, .sl q2 w2 0 m2, .sl q3 w3 0 m3, .sl q4 w4 0 m4]) rfl (Za hB rfl 0 rfl) rfl rfl ts_3 rfl (Yc rfl) rfl (Nat.le_of_ble_eq_true rfl) rfl (setO_B hB rfl 0 rfl (ltObjN hn ⟨Xx ⟨.int _ _, .sl _ _ _ _ hq1, .sl _ _ _ _ hq2, .sl _ _ _ _ hq3, .sl _ _ _ _ hq4, trivial⟩, trivial⟩) rfl)) rfl ?_
  refine Vg ?_
  refine Vi ?_
  refine Ve ?_
  refine Va (rd_mvP rfl) rfl ?_
  refine Va (Wg rfl) rfl ?_
  refine Va (Vc rfl tf_34_1 ts_22 (by decide)) rfl ?_
  refine Va (Vf rfl (Za hB rfl 0 rfl) rfl ta_22 rfl) rfl ?_
  refine Va (Xi (rd_lenS rfl (Za hB rfl 1 rfl) rfl rfl te_22) (congrArg (fun n : Nat => PV.int .i64 (n : Int)) hm1)) rfl ?_
  refine Va (Vj rfl) rfl ?_
  refine Vg ?_
  refine Yk ?_
  obtain ⟨o6, ho6, hF⟩ := Ys hF
  refine Vw (Zu (F_belts_Wait_1_L1 p0 p1 p2) (fun s5 E' lw lc => m1 = (s5.2.1).length ∧ m2 = (s5.2.2).length ∧ Ya E' lw lc [(0, .ptr q0 w0 0 0), (1, .ptr q5 w5 0 0), (2, .ptr q6 w6 0 0), (14, .sl q1 w1 0 m1), (15, .int .i64 ((p0.States).length : Int)), (16, .int .i64 s5.1)] (setL low0 [(q0, ⟨34, 5, [.agg [.int .i64 p1, .sl q1 w1 0 m1, .sl q2 w2 0 m2, .sl q3 w3 0 m3, .sl q4 w4 0 m4]], w0⟩), (q1, ⟨3, 1, List.map (PV.int .i64) s5.2.1, w1⟩), (q2, ⟨3, 1, List.map (PV.int .i64) s5.2.2, w2⟩), (q3, ⟨4, 1, List.map PV.bool p0.Pulled, w3⟩), (q4, ⟨4, 1, List.map PV.bool p0.Held, w4⟩), (q5, ⟨3, 1, [.int .i64 p1], w5⟩), (q6, ⟨27, 1, [.vs 2 (List.map T_Belt.enc p2)], w6⟩)]) []) (fun o6 => OnlyE (.exit 0) (fun E' lw lc => m1 = (o6.1).length ∧ m2 = (o6.2).length ∧ Ya E' lw lc [] (setL low0 [(q0, ⟨34, 5, [.agg [.int .i64 p1, .sl q1 w1 0 m1, .sl q2 w2 0 m2, .sl q3 w3 0 m3, .sl q4 w4 0 m4]], w0⟩), (q1, ⟨3, 1, List.map (PV.int .i64) o6.1, w1⟩), (q2, ⟨3, 1, List.map (PV.int .i64) o6.2, w2⟩), (q3, ⟨4, 1, List.map PV.bool p0.Pulled, w3⟩), (q4, ⟨4, 1, List.map PV.bool p0.Held, w4⟩), (q5, ⟨3, 1, [.int .i64 p1], w5⟩), (q6, ⟨27, 1, [.vs 2 (List.map T_Belt.enc p2)], w6⟩)]) [])) ho6 ⟨hm1, hm2, ?_⟩ (by rintro _ _ _ _ ⟨h, _⟩ <;> cases h) ?_) ?_
  ·exact Vq ⟨rfl, rfl, rfl, rfl, rfl, rfl, trivial⟩
  ·rintro s5 os5 _ _ _ hF ⟨hls5_0, hls5_1, hw⟩
   unfold F_belts_Wait_1_L1 at hF
   refine Ye hw ?_
   refine Vi ?_
   refine Ve ?_
   refine Va (Zo rfl rfl) rfl ?_
   refine Vg ?_
   refine Vi ?_
   refine Xj rfl (fun c7 => ?_) (fun c7 => ?_)
   ·have hF := Yl c7 hF
    refine Xq ?_
    refine Vi ?_
    obtain ⟨o8, ho8, hF⟩ := Ys hF
    refine Vw (Q' := (fun o8 => OnlyE .normal (fun E' lw lc => m1 = (o8.1).length ∧ m2 = (o8.2).length ∧ Ya E' lw lc [(0, .ptr q0 w0 0 0), (1, .ptr q5 w5 0 0), (2, .ptr q6 w6 0 0), (14, .sl q1 w1 0 m1), (15, .int .i64 ((p0.States).length : Int)), (16, .int .i64 s5.1)] (setL low0 [(q0, ⟨34, 5, [.agg [.int .i64 p1, .sl q1 w1 0 m1, .sl q2 w2 0 m2, .sl q3 w3 0 m3, .sl q4 w4 0 m4]], w0⟩), (q1, ⟨3, 1, List.map (PV.int .i64) o8.1, w1⟩), (q2, ⟨3, 1, List.map (PV.int .i64) o8.2, w2⟩), (q3, ⟨4, 1, List.map PV.bool p0.Pulled, w3⟩), (q4, ⟨4, 1, List.map PV.bool p0.Held, w4⟩), (q5, ⟨3, 1, [.int .i64 p1], w5⟩), (q6, ⟨27, 1, [.vs 2 (List.map T_Belt.enc p2)], w6⟩)]) [])) o8) ?_ ?_
    ·replace hF := ho8
     refine Yk ?_
     refine Vi ?_
     refine Ve ?_
     obtain ⟨x9, h10, hF⟩ := Ys hF
     refine Va (Vj rfl) rfl ?_
     refine Va (Zv rfl hls5_0 rfl (Za hB rfl 1 rfl) h10 te_22 ts_3) rfl ?_
     refine Va (rd_ldL1 rfl (Za hB rfl 1 rfl) (Zc h10).2 ta_3 rfl) rfl ?_
     refine Va (Xa rfl) rfl ?_
     refine Va (Xa rfl) rfl ?_
     refine Vg ?_
     refine Vi ?_
     obtain ⟨x11, h12, hF⟩ := Ys hF
     obtain ⟨x13, h14, hF⟩ := Ys hF
     refine Zf [[], [0], [0, 1], [0, 1, 2], [], [0, 1, 2, 3, 4], [0, 1, 2, 3, 4, 5], [], [], [7, 8], [7, 8, 9], [7, 8, 9, 10], [0, 1, 2, 3, 4, 5, 6, 7, 8, 9, 10, 11], [0, 1, 2, 3, 4, 5, 6, 7, 8, 9, 10, 11, 12]] mixed (by kernel_rfl) rfl ?_
     refine Yn rfl rfl (rd_mvP rfl) ?_
     refine Yn rfl rfl (Wg rfl) ?_
     refine Yn rfl rfl (Vc rfl tf_34_2 ts_22 (by decide)) ?_
     refine Yn rfl rfl (Vf rfl (Za hB rfl 0 rfl) rfl ta_22 rfl) ?_
     refine Yn rfl rfl (Vj rfl) ?_
     refine Yn rfl rfl (Zv rfl hls5_1 rfl (Za hB rfl 2 rfl) h12 te_22 ts_3) ?_
     refine Yn rfl rfl (rd_ldL1 rfl (Za hB rfl 2 rfl) (Zc h12).2 ta_3 rfl) ?_
     refine Yn rfl rfl (Vf rfl (Za hB rfl 6 rfl) rfl ta_27 rfl) ?_
     refine Yn rfl rfl (Vj rfl) ?_
     refine Yn rfl rfl (Xi (Yj rfl rfl h14 te_27 ts_31) (v' := .vptr [.int .i64 x13.Onto, .int .i64 x13.Warn] 0) rfl) ?_
     refine Yn rfl rfl (Yb rfl tf_31_1 ts_3 (by decide)) ?_
     refine Yn rfl rfl (Xg rfl ta_3 rfl) ?_
     refine Yn rfl rfl (rd_add rfl rfl rfl) ?_
     refine Yn rfl rfl (Xa rfl) ?_
     refine Yz ?_
     refine Vi ?_
     obtain ⟨o15, ho15, hF⟩ := Ys hF
     refine Vw (Q' := (fun o15 => OnlyE .normal (fun E' lw lc => Ya E' lw lc [(0, .ptr q0 w0 0 0), (1, .ptr q5 w5 0 0), (2, .ptr q6 w6 0 0), (4, .int .i64 s5.1), (6, .int .i64 (IntKind.i64.wrap (x11 + x13.Warn))), (14, .sl q1 w1 0 m1), (15, .int .i64 ((p0.States).length : Int)), (16, .int .i64 s5.1), (40, .bool o15)] (setL low0 [(q0, ⟨34, 5, [.agg [.int .i64 p1, .sl q1 w1 0 m1, .sl q2 w2 0 m2, .sl q3 w3 0 m3, .sl q4 w4 0 m4]], w0⟩), (q1, ⟨3, 1, List.map (PV.int .i64) s5.2.1, w1⟩), (q2, ⟨3, 1, List.map (PV.int .i64) s5.2.2, w2⟩), (q3, ⟨4, 1, List.map PV.bool p0.Pulled, w3⟩), (q4, ⟨4, 1, List.map PV.bool p0.Held, w4⟩), (q5, ⟨3, 1, [.int .i64 p1], w5⟩), (q6, ⟨27, 1, [.vs 2 (List.map T_Belt.enc p2)], w6⟩)]) [])) o15) ?_ ?_
     ·replace hF := ho15
      refine Ve ?_
      rcases Bool.eq_false_or_eq_true (decide (x9 = 1)) with c16 | c16
      ·have hF := Yl c16 hF
       refine Va (Vj rfl) rfl ?_
       refine Va (Xm rfl rfl) rfl ?_
       refine Va (Vm rfl) rfl ?_
       refine Vz rfl rfl c16 ?_
       refine Va (Vj rfl) rfl ?_
       refine Vz rfl rfl c16 ?_
       refine Va (Vf rfl (Za hB rfl 5 rfl) rfl ta_3 rfl) rfl ?_
       refine Vz rfl rfl c16 ?_
       refine Va (rd_leq rfl rfl) rfl ?_
       refine Va (Vp (congrArg PV.bool c16) rfl) rfl ?_
       refine Vg ?_
       obtain rfl := Option.some.inj hF
       refine Xv ?_
       exact Vq ⟨rfl, rfl, rfl, rfl, rfl, rfl, rfl, rfl, rfl, trivial⟩
      ·have hF := Ym c16 hF
       refine Va (Vj rfl) rfl ?_
       refine Va (Xm rfl rfl) rfl ?_
       refine Va (Vm rfl) rfl ?_
       refine Vb rfl rfl (Zm c16) rfl ?_
       refine Vb rfl rfl (Zm c16) rfl ?_
       refine Vb rfl rfl (Zm c16) rfl ?_
       refine Va (Vo (congrArg PV.bool c16) rfl) rfl ?_
       refine Vg ?_
       obtain rfl := Option.some.inj hF
       refine Xv ?_
       exact Vq ⟨rfl, rfl, rfl, rfl, rfl, rfl, rfl, rfl, rfl, trivial⟩
     ·rintro _ _ _ _ ⟨rfl, hw⟩
      refine ⟨_, _, _, hw, ?_⟩
      refine Xj rfl (fun c17 => ?_) (fun c17 => ?_)
      ·have hF := Yl c17 hF
       obtain ⟨x18, h19, hF⟩ := Ys hF
       obtain ⟨x20, h21, hF⟩ := Ys hF
       refine Wb [[], [0], [0, 1], [0, 1, 2], [], [], [5], [5, 6], [5, 6, 7], [], [], [0, 1, 2, 3, 4, 5, 6, 7, 8], [0, 1, 2, 3, 4, 5, 6, 7, 8, 11], [0, 1, 2, 3, 4, 5, 6, 7, 8, 9, 10, 11, 12], [0, 1, 2, 3, 4, 5, 6, 7, 8, 9, 10, 11, 12, 13]] [false, false, false, false, false, false, false, false, false, false, false, false, true, false, true] [((setL low0 [(q0, ⟨34, 5, [.agg [.int .i64 p1, .sl q1 w1 0 m1, .sl q2 w2 0 m2, .sl q3 w3 0 m3, .sl q4 w4 0 m4]], w0⟩), (q1, ⟨3, 1, List.map (PV.int .i64) s5.2.1, w1⟩), (q2, ⟨3, 1, List.map (PV.int .i64) s5.2.2, w2⟩), (q3, ⟨4, 1, List.map PV.bool p0.Pulled, w3⟩), (q4, ⟨4, 1, List.map PV.bool p0.Held, w4⟩), (q5, ⟨3, 1, [.int .i64 p1], w5⟩), (q6, ⟨27, 1, [.vs 2 (List.map T_Belt.enc p2)], w6⟩)]), []), ((setL low0 [(q0, ⟨34, 5, [.agg [.int .i64 p1, .sl q1 w1 0 m1, .sl q2 w2 0 m2, .sl q3 w3 0 m3, .sl q4 w4 0 m4]], w0⟩), (q1, ⟨3, 1, List.map (PV.int .i64) (s5.2.1.set ((s5.1).toNat) 2), w1⟩), (q2, ⟨3, 1, List.map (PV.int .i64) s5.2.2, w2⟩), (q3, ⟨4, 1, List.map PV.bool p0.Pulled, w3⟩), (q4, ⟨4, 1, List.map PV.bool p0.Held, w4⟩), (q5, ⟨3, 1, [.int .i64 p1], w5⟩), (q6, ⟨27, 1, [.vs 2 (List.map T_Belt.enc p2)], w6⟩)]), []), ((setL low0 [(q0, ⟨34, 5, [.agg [.int .i64 p1, .sl q1 w1 0 m1, .sl q2 w2 0 m2, .sl q3 w3 0 m3, .sl q4 w4 0 m4]], w0⟩), (q1, ⟨3, 1, List.map (PV.int .i64) (s5.2.1.set ((s5.1).toNat) 2), w1⟩), (q2, ⟨3, 1, List.map (PV.int .i64) (s5.2.2.set ((s5.1).toNat) (IntKind.i64.wrap (x11 + x13.Warn))), w2⟩), (q3, ⟨4, 1, List.map PV.bool p0.Pulled, w3⟩), (q4, ⟨4, 1, List.map PV.bool p0.Held, w4⟩), (q5, ⟨3, 1, [.int .i64 p1], w5⟩), (q6, ⟨27, 1, [.vs 2 (List.map T_Belt.enc p2)], w6⟩)]), [])] mixed (by kernel_rfl) rfl (lenAll (Yg Xl (Yg Xl (Yg Xl Zt)))) rfl _ rfl rfl ?_
       refine Yn rfl rfl (rd_mvP rfl) ?_
       refine Yn rfl rfl (Wg rfl) ?_
       refine Yn rfl rfl (Vc rfl tf_34_1 ts_22 (by decide)) ?_
       refine Yn rfl rfl (Vf rfl (Za hB rfl 0 rfl) rfl ta_22 rfl) ?_
       refine Yn rfl rfl (Vj rfl) ?_
       refine Yn rfl rfl (rd_mvP rfl) ?_
       refine Yn rfl rfl (Wg rfl) ?_
       refine Yn rfl rfl (Vc rfl tf_34_2 ts_22 (by decide)) ?_
       refine Yn rfl rfl (Vf rfl (Za hB rfl 0 rfl) rfl ta_22 rfl) ?_
       refine Yy _ rfl rfl (Yg (Xh.ntl (Vj rfl)) (Yg (Xh.ntl (Vj rfl)) Zt)) ?_
       refine Yy _ rfl rfl (Yg (Xh.ntl (Vj rfl)) (Yg (Xh.ntl (Vj rfl)) Zt)) ?_
       refine Yn rfl rfl (Zv rfl hls5_0 rfl (Za hB rfl 1 rfl) h19 te_22 ts_3) ?_
       refine Zp rfl rfl rfl (vef_stL (p := .int .i64 2) (e' := 2) rfl (Za hB rfl 1 rfl) (Zc h19).2 rfl ts_3 rfl (Yc rfl) (Nat.le_of_ble_eq_true rfl) rfl (setO_B hB rfl 1 rfl (Vh (fun _ => .int _ _)) rfl)) ?_
       refine Yn rfl rfl (Zv rfl hls5_1 rfl (Za hB rfl 2 rfl) h21 te_22 ts_3) ?_
       refine Zp rfl rfl rfl (vef_stL (p := .int .i64 (IntKind.i64.wrap (x11 + x13.Warn))) (e' := (IntKind.i64.wrap (x11 + x13.Warn))) rfl (Za hB rfl 2 rfl) (Zc h21).2 rfl ts_3 rfl (Yc rfl) (Nat.le_of_ble_eq_true rfl) rfl (setO_B hB rfl 2 rfl (Vh (fun _ => .int _ _)) rfl)) ?_
       refine Yz ?_
       obtain rfl := Option.some.inj hF
       refine And.intro rfl (And.intro (Eq.trans hls5_0 List.length_set.symm) (And.intro (Eq.trans hls5_1 List.length_set.symm) ?_))
       exact Vq ⟨rfl, rfl, rfl, rfl, rfl, rfl, trivial⟩
      ·have hF := Ym c17 hF
       refine Xq ?_
       obtain rfl := Option.some.inj hF
       refine And.intro rfl (And.intro hls5_0 (And.intro hls5_1 ?_))
       exact Vq ⟨rfl, rfl, rfl, rfl, rfl, rfl, trivial⟩
    ·rintro _ _ _ _ ⟨rfl, hl22, hl23, hw⟩
     refine ⟨_, _, _, hw, ?_⟩
     refine Ve ?_
     refine Va (rd_add rfl rfl rfl) rfl ?_
     refine Va (Vj rfl) rfl ?_
     refine Vg ?_
     obtain rfl := Option.some.inj hF
     refine And.intro rfl (And.intro hl22 (And.intro hl23 ?_))
     exact Vq ⟨rfl, rfl, rfl, rfl, rfl, rfl, trivial⟩
   ·have hF := Ym c7 hF
    refine We ?_
    obtain rfl := Option.some.inj hF
    refine And.intro rfl (And.intro hls5_0 (And.intro hls5_1 ?_))
    exact Vq trivial
  ·rintro _ _ _ _ ⟨rfl, hl24, hl25, hw⟩
   refine ⟨_, _, _, hw, ?_⟩
   obtain rfl := Option.some.inj hF
   refine And.intro (.inl rfl) (And.intro hl24 (And.intro hl25 (And.intro hm3 (And.intro hm4 ?_))))
   exact Vq trivial
 ·rintro _ _ _ _ ⟨he, hl1, hl2, hl3, hl4, hw⟩
  refine ⟨_, _, _, hw, ?_⟩
  exact Ze he [] trivial ((lt_tup trivial)) ⟨rfl, (List.append_nil _).symm⟩

theorem F_belts_Wait_1_len {p0 : T_Line} {p1 : Int} {p2 : List T_Belt} {r : T_Line} (hF : F_belts_Wait_1 p0 p1 p2 = some r) {m1 : Nat} (hm1 : m1 = (p0.States).length) {m2 : Nat} (hm2 : m2 = (p0.Since).length) {m3 : Nat} (hm3 : m3 = (p0.Pulled).length) {m4 : Nat} (hm4 : m4 = (p0.Held).length) : m1 = (r.States).length ∧ m2 = (r.Since).length ∧ m3 = (r.Pulled).length ∧ m4 = (r.Held).length ∧ True := by
  have h : LP (F_belts_Wait_1 p0 p1 p2) (fun r => m1 = (r.States).length ∧ m2 = (r.Since).length ∧ m3 = (r.Pulled).length ∧ m4 = (r.Held).length ∧ True) := by
    unfold F_belts_Wait_1
    exact (lp_bind (Q := fun o6 => m1 = (o6.1).length ∧ m2 = (o6.2).length ∧ True) (lp_loop (fun s5 => m1 = (s5.2.1).length ∧ m2 = (s5.2.2).length ∧ True) ⟨hm1, hm2, trivial⟩ (fun s5 ⟨hls5_0, hls5_1, _⟩ => by unfold F_belts_Wait_1_L1; exact (lp_bif (fun c7 => lp_bind (Q := fun o8 => m1 = (o8.1).length ∧ m2 = (o8.2).length ∧ True) (Wj fun x9 h10 => Wj fun x11 h12 => Wj fun x13 h14 => lp_bind (Q := fun o15 => True) (lp_bif (fun c16 => Wi trivial) (fun c16 => Wi trivial)) (fun o15 _ => lp_bif (fun c17 => Wj fun x18 h19 => Wj fun x20 h21 => Wi ⟨(Eq.trans hls5_0 List.length_set.symm), (Eq.trans hls5_1 List.length_set.symm), trivial⟩) (fun c17 => Wi ⟨hls5_0, hls5_1, trivial⟩))) (fun o8 ⟨hl22, hl23, _⟩ => Wi ⟨hl22, hl23, trivial⟩)) (fun c7 => Wi ⟨hls5_0, hls5_1, trivial⟩)))) (fun o6 ⟨hl24, hl25, _⟩ => Wi ⟨hl24, hl25, hm3, hm4, trivial⟩))
  exact h r hF

theorem F_belts_Wait_1_ok {p0 : T_Line} {p1 : Int} {p2 : List T_Belt} {r : T_Line} (hF : F_belts_Wait_1 p0 p1 p2 = some r) {low : List AObj} {q0 q1 q2 q3 q4 q5 q6 w0 w1 w2 w3 w4 w5 w6 : Nat} (hnd : [q0, q1, q2, q3, q4, q5, q6].Nodup) {m1 : Nat} (hm1 : m1 = (p0.States).length) {m2 : Nat} (hm2 : m2 = (p0.Since).length) {m3 : Nat} (hm3 : m3 = (p0.Pulled).length) {m4 : Nat} (hm4 : m4 = (p0.Held).length) (hq0 : low[q0]? = some ⟨34, 5, [.agg [.int .i64 p0.Time, .sl q1 w1 0 m1, .sl q2 w2 0 m2, .sl q3 w3 0 m3, .sl q4 w4 0 m4]], w0⟩) (hq1 : low[q1]? = some ⟨3, 1, List.map (PV.int .i64) p0.States, w1⟩) (hq2 : low[q2]? = some ⟨3, 1, List.map (PV.int .i64) p0.Since, w2⟩) (hq3 : low[q3]? = some ⟨4, 1, List.map PV.bool p0.Pulled, w3⟩) (hq4 : low[q4]? = some ⟨4, 1, List.map PV.bool p0.Held, w4⟩) (hq5 : low[q5]? = some ⟨3, 1, [.int .i64 p1], w5⟩) (hq6 : low[q6]? = some ⟨27, 1, [.vs 2 (List.map T_Belt.enc p2)], w6⟩) {n : Nat} (hn : low.length = n) :
    Yv Try.prog 34 [.ptr q0 w0 0 0, .ptr q5 w5 0 0, .ptr q6 w6 0 0] low fun x low' => x = .tup [] ∧ low' = setL low [(q0, ⟨34, 5, [.agg [.int .i64 r.Time, .sl q1 w1 0 m1, .sl q2 w2 0 m2, .sl q3 w3 0 m3, .sl q4 w4 0 m4]], w0⟩), (q1, ⟨3, 1, List.map (PV.int .i64) r.States, w1⟩), (q2, ⟨3, 1, List.map (PV.int .i64) r.Since, w2⟩), (q3, ⟨4, 1, List.map PV.bool r.Pulled, w3⟩), (q4, ⟨4, 1, List.map PV.bool r.Held, w4⟩), (q5, ⟨3, 1, [.int .i64 p1], w5⟩), (q6, ⟨27, 1, [.vs 2 (List.map T_Belt.enc p2)], w6⟩)] ++ [] := by
  obtain ⟨h1, h2⟩ := Wk (ps := [(q0, ⟨34, 5, [.agg [.int .i64 p0.Time, .sl q1 w1 0 m1, .sl q2 w2 0 m2, .sl q3 w3 0 m3, .sl q4 w4 0 m4]], w0⟩), (q1, ⟨3, 1, List.map (PV.int .i64) p0.States, w1⟩), (q2, ⟨3, 1, List.map (PV.int .i64) p0.Since, w2⟩), (q3, ⟨4, 1, List.map PV.bool p0.Pulled, w3⟩), (q4, ⟨4, 1, List.map PV.bool p0.Held, w4⟩), (q5, ⟨3, 1, [.int .i64 p1], w5⟩), (q6, ⟨27, 1, [.vs 2 (List.map T_Belt.enc p2)], w6⟩)]) hnd (Zx hq0 (Zx hq1 (Zx hq2 (Zx hq3 (Zx hq4 (Zx hq5 (Zx hq6 bor0)))))))
  exact Zz h1 (F_belts_Wait_1_ok0 hF h2 hm1 hm2 hm3 hm4 hn)

theorem F_belts_done__belts_Wait_1_ok0 {p0 : T_Line} {pc10 : Int} {pc11 : List T_Belt} {r : T_Line} (hF : F_belts_done__belts_Wait_1 p0 pc10 pc11 = some r) {low0 : List AObj} {q0 q1 w0 w1 : Nat} (hB : Bor low0 [q0, q1]) {n : Nat} (hn : low0.length = n) :
    Yv Try.prog 31 [.agg [.int .i64 p0.Time, .vs 1 (List.map (PV.int .i64) p0.States), .vs 1 (List.map (PV.int .i64) p0.Since), .vs 1 (List.map PV.bool p0.Pulled), .vs 1 (List.map PV.bool p0.Held)], .fn 34 [] [.ptr q0 w0 0 0, .ptr q1 w1 0 0]] (setL low0 [(q0, ⟨3, 1, [.int .i64 pc10], w0⟩), (q1, ⟨27, 1, [.vs 2 (List.map T_Belt.enc pc11)], w1⟩)]) fun x low' => x = .agg [.int .i64 r.Time, .sl (n + 0) 0 0 (r.States).length, .sl (n + 1) 0 0 (r.Since).length, .sl (n + 2) 0 0 (r.Pulled).length, .vs 1 (List.map PV.bool r.Held)] ∧ low' = setL low0 [(q0, ⟨3, 1, [.int .i64 pc10], w0⟩), (q1, ⟨27, 1, [.vs 2 (List.map T_Belt.enc pc11)], w1⟩)] ++ [⟨3, 1, List.map (PV.int .i64) r.States, 0⟩, ⟨3, 1, List.map (PV.int .i64) r.Since, 0⟩, ⟨4, 1, List.map PV.bool r.Pulled, 0⟩] := by
 refine Xc (nt := 24) (rs := [.cell 4 34]) Try.func31 rfl rfl (Nat.le_of_ble_eq_true rfl) rfl ?_
 have hq0 : q0 < n := hB.ltN hn 0 rfl
 have hq1 : q1 < n := hB.ltN hn 1 rfl
 refine Vw (Q' := FnE (fun E' lw lc => Ya E' lw lc [(4, .ptr (n + 3) 0 0 0)] (setL low0 [(q0, ⟨3, 1, [.int .i64 pc10], w0⟩), (q1, ⟨27, 1, [.vs 2 (List.map T_Belt.enc pc11)], w1⟩)]) [⟨3, 1, List.map (PV.int .i64) r.States, 0⟩, ⟨3, 1, List.map (PV.int .i64) r.Since, 0⟩, ⟨4, 1, List.map PV.bool r.Pulled, 0⟩, ⟨34, 5, [.agg [.int .i64 r.Time, .sl (n + 0) 0 0 (r.States).length, .sl (n + 1) 0 0 (r.Since).length, .sl (n + 2) 0 0 (r.Pulled).length, .vs 1 (List.map PV.bool r.Held)]], 0⟩])) ?_ ?_
 ·unfold F_belts_done__belts_Wait_1 at hF
  refine Vi ?_
  refine Ve ?_
  refine Vk (Yw (Vr hn) rfl (v := .agg [.int .i64 p0.Time, .vs 1 (List.map (PV.int .i64) p0.States), .vs 1 (List.map (PV.int .i64) p0.Since), .vs 1 (List.map PV.bool p0.Pulled), .vs 1 (List.map PV.bool p0.Held)]) rfl rfl (Nat.succ_pos _) rfl rfl) rfl ?_
  refine Vk (Xe (Vr hn) rfl tz_34 rfl rfl (Nat.succ_pos _) rfl) rfl ?_
  refine Vg ?_
  refine Vi ?_
  obtain ⟨x1, h2, hF⟩ := Ys hF
  obtain ⟨x3, h4, hF⟩ := Ys hF
  obtain ⟨x5, h6, hF⟩ := Ys hF
  obtain ⟨x7, h8, hF⟩ := Ys hF
  refine Ye (Yu 3 1 (Nat.succ_pos _)) ?_
  refine Ye (Yu 3 1 (Nat.succ_pos _)) ?_
  refine Ye (Yu 4 1 (Nat.succ_pos _)) ?_
  refine Ye (Yu 4 1 (Nat.succ_pos _)) ?_
  refine Ye (Yu 34 5 (Nat.succ_pos _)) ?_
  refine vwp_drawnX [[], [0], [], [2], [2, 3], [], [5], [2, 3, 4, 5, 6], [], [8], [2, 3, 4, 5, 6, 7, 8, 9], [], [11], [2, 3, 4, 5, 6, 7, 8, 9, 10, 11, 12], [0, 1, 2, 3, 4, 5, 6, 7, 8, 9, 10, 11, 12, 13], [], [0, 1, 2, 3, 4, 5, 6, 7, 8, 9, 10, 11, 12, 13, 14, 15]] [false, false, false, false, true, false, false, true, false, false, true, false, false, true, false, true, true] [([], (setL low0 [(q0, ⟨3, 1, [.int .i64 pc10], w0⟩), (q1, ⟨27, 1, [.vs 2 (List.map T_Belt.enc pc11)], w1⟩)]), [⟨34, 5, [.agg [.int .i64 p0.Time, .vs 1 (List.map (PV.int .i64) p0.States), .vs 1 (List.map (PV.int .i64) p0.Since), .vs 1 (List.map PV.bool p0.Pulled), .vs 1 (List.map PV.bool p0.Held)]], 0⟩, ⟨34, 5, [.agg [.int .i64 0, .nils, .nils, .nils, .nils]], 0⟩, ⟨3, 1, [], 0⟩, ⟨3, 1, [], 0⟩, ⟨4, 1, [], 0⟩, ⟨4, 1, [], 0⟩, ⟨34, 5, [], 0⟩]), ([4], (setL low0 [(q0, ⟨3, 1, [.int .i64 pc10], w0⟩), (q1, ⟨27, 1, [.vs 2 (List.map T_Belt.enc pc11)], w1⟩)]), [⟨34, 5, [.agg [.int .i64 p0.Time, .vs 1 (List.map (PV.int .i64) p0.States), .vs 1 (List.map (PV.int .i64) p0.Since), .vs 1 (List.map PV.bool p0.Pulled), .vs 1 (List.map PV.bool p0.Held)]], 0⟩, ⟨34, 5, [.agg [.int .i64 0, .nils, .nils, .nils, .nils]], 0⟩, ⟨3, 1, List.map (PV.int .i64) x1, 1⟩, ⟨3, 1, [], 0⟩, ⟨4, 1, [], 0⟩, ⟨4, 1, [], 0⟩, ⟨34, 5, [], 0⟩]), ([15], (setL low0 [(q0, ⟨3, 1, [.int .i64 pc10], w0⟩), (q1, ⟨27, 1, [.vs 2 (List.map T_Belt.enc pc11)], w1⟩)]), [⟨34, 5, [.agg [.int .i64 p0.Time, .vs 1 (List.map (PV.int .i64) p0.States), .vs 1 (List.map (PV.int .i64) p0.Since), .vs 1 (List.map PV.bool p0.Pulled), .vs 1 (List.map PV.bool p0.Held)]], 0⟩, ⟨34, 5, [.agg [.int .i64 0, .nils, .nils, .nils, .nils]], 0⟩, ⟨3, 1, [], 0⟩, ⟨3, 1, [], 0⟩, ⟨4, 1, [], 0⟩, ⟨4, 1, [], 0⟩, ⟨34, 5, [.agg [.int .i64 0, .nils, .nils, .nils, .nils]], 1⟩]), ([4, 7], (setL low0 [(q0, ⟨3, 1, [.int .i64 pc10], w0⟩), (q1, ⟨27, 1, [.vs 2 (List.map T_Belt.enc pc11)], w1⟩)]), [⟨34, 5, [.agg [.int .i64 p0.Time, .vs 1 (List.map (PV.int .i64) p0.States), .vs 1 (List.map (PV.int .i64) p0.Since), .vs 1 (List.map PV.bool p0.Pulled), .vs 1 (List.map PV.bool p0.Held)]], 0⟩, ⟨34, 5, [.agg [.int .i64 0, .nils, .nils, .nils, .nils]], 0⟩, ⟨3, 1, List.map (PV.int .i64) x1, 1⟩, ⟨3, 1, List.map (PV.int .i64) x3, 1⟩, ⟨4, 1, [], 0⟩, ⟨4, 1, [], 0⟩, ⟨34, 5, [], 0⟩]), ([4, 15], (setL low0 [(q0, ⟨3, 1, [.int .i64 pc10], w0⟩), (q1, ⟨27, 1, [.vs 2 (List.map T_Belt.enc pc11)], w1⟩)]), [⟨34, 5, [.agg [.int .i64 p0.Time, .vs 1 (List.map (PV.int .i64) p0.States), .vs 1 (List.map (PV.int .i64) p0.Since), .vs 1 (List.map PV.bool p0.Pulled), .vs 1 (List.map PV.bool p0.Held)]], 0⟩, ⟨34, 5, [.agg [.int .i64 0, .nils, .nils, .nils, .nils]], 0⟩, ⟨3, 1, List.map (PV.int .i64) x1, 1⟩, ⟨3, 1, [], 0⟩, ⟨4, 1, [], 0⟩, ⟨4, 1, [], 0⟩, ⟨34, 5, [.agg [.int .i64 0, .nils, .nils, .nils, .nils]], 1⟩]), ([4, 7, 10], (setL low0 [(q0, ⟨3, 1, [.int .i64 pc10], w0⟩), (q1, ⟨27, 1, [.vs 2 (List.map T_Belt.enc pc11)], w1⟩)]), [⟨34, 5, [.agg [.int .i64 p0.Time, .vs 1 (List.map (PV.int .i64) p0.States), .vs 1 (List.map (PV.int .i64) p0.Since), .vs 1 (List.map PV.bool p0.Pulled), .vs 1 (List.map PV.bool p0.Held)]], 0⟩, ⟨34, 5, [.agg [.int .i64 0, .nils, .nils, .nils, .nils]], 0⟩, ⟨3, 1, List.map (PV.int .i64) x1, 1⟩, ⟨3, 1, List.map (PV.int .i64) x3, 1⟩, ⟨4, 1, List.map PV.bool x5, 1⟩, ⟨4, 1, [], 0⟩, ⟨34, 5, [], 0⟩]), ([4, 7, 15], (setL low0 [(q0, ⟨3, 1, [.int .i64 pc10], w0⟩), (q1, ⟨27, 1, [.vs 2 (List.map T_Belt.enc pc11)], w1⟩)]), [⟨34, 5, [.agg [.int .i64 p0.Time, .vs 1 (List.map (PV.int .i64) p0.States), .vs 1 (List.map (PV.int .i64) p0.Since), .vs 1 (List.map PV.bool p0.Pulled), .vs 1 (List.map PV.bool p0.Held)]], 0⟩, ⟨34, 5, [.agg [.int .i64 0, .nils, .nils, .nils, .nils]], 0⟩, ⟨3, 1, List.map (PV.int .i64) x1, 1⟩, ⟨3, 1, List.map (PV.int .i64) x3, 1⟩, ⟨4, 1, [], 0⟩, ⟨4, 1, [], 0⟩, ⟨34, 5, [.agg [.int .i64 0, .nils, .nils, .nils, .nils]], 1⟩]), ([4, 7, 10, 13], (setL low0 [(q0, ⟨3, 1, [.int .i64 pc10], w0⟩), (q1, ⟨27, 1, [.vs 2 (List.map T_Belt.enc pc11)], w1⟩)]), [⟨34, 5, [.agg [.int .i64 p0.Time, .vs 1 (List.map (PV.int .i64) p0.States), .vs 1 (List.map (PV.int .i64) p0.Since), .vs 1 (List.map PV.bool p0.Pulled), .vs 1 (List.map PV.bool p0.Held)]], 0⟩, ⟨34, 5, [.agg [.int .i64 0, .nils, .nils, .nils, .nils]], 0⟩, ⟨3, 1, List.map (PV.int .i64) x1, 1⟩, ⟨3, 1, List.map (PV.int .i64) x3, 1⟩, ⟨4, 1, List.map PV.bool x5, 1⟩, ⟨4, 1, List.map PV.bool x7, 1⟩, ⟨34, 5, [], 0⟩]), ([4, 7, 10, 15], (setL low0 [(q0, ⟨3, 1, [.int .i64 pc10], w0⟩), (q1, ⟨27, 1, [.vs 2 (List.map T_Belt.enc pc11)], w1⟩)]), [⟨34, 5, [.agg [.int .i64 p0.Time, .vs 1 (List.map (PV.int .i64) p0.States), .vs 1 (List.map (PV.int .i64) p0.Since), .vs 1 (List.map PV.bool p0.Pulled), .vs 1 (List.map PV.bool p0.Held)]], 0⟩, ⟨34, 5, [.agg [.int .i64 0, .nils, .nils, .nils, .nils]], 0⟩, ⟨3, 1, List.map (PV.int .i64) x1, 1⟩, ⟨3, 1, List.map (PV.int .i64) x3, 1⟩, ⟨4, 1, List.map PV.bool x5, 1⟩, ⟨4, 1, [], 0⟩, ⟨34, 5, [.agg [.int .i64 0, .nils, .nils, .nils, .nils]], 1⟩]), ([4, 7, 10, 13, 15], (setL low0 [(q0, ⟨3, 1, [.int .i64 pc10], w0⟩), (q1, ⟨27, 1, [.vs 2 (List.map T_Belt.enc pc11)], w1⟩)]), [⟨34, 5, [.agg [.int .i64 p0.Time, .vs 1 (List.map (PV.int .i64) p0.States), .vs 1 (List.map (PV.int .i64) p0.Since), .vs 1 (List.map PV.bool p0.Pulled), .vs 1 (List.map PV.bool p0.Held)]], 0⟩, ⟨34, 5, [.agg [.int .i64 0, .nils, .nils, .nils, .nils]], 0⟩, ⟨3, 1, List.map (PV.int .i64) x1, 1⟩, ⟨3, 1, List.map (PV.int .i64) x3, 1⟩, ⟨4, 1, List.map PV.bool x5, 1⟩, ⟨4, 1, List.map PV.bool x7, 1⟩, ⟨34, 5, [.agg [.int .i64 0, .nils, .nils, .nils, .nils]], 1⟩]), ([4, 7, 10, 13, 15, 16], (setL low0 [(q0, ⟨3, 1, [.int .i64 pc10], w0⟩), (q1, ⟨27, 1, [.vs 2 (List.map T_Belt.enc pc11)], w1⟩)]), [⟨34, 5, [.agg [.int .i64 p0.Time, .vs 1 (List.map (PV.int .i64) p0.States), .vs 1 (List.map (PV.int .i64) p0.Since), .vs 1 (List.map PV.bool p0.Pulled), .vs 1 (List.map PV.bool p0.Held)]], 0⟩, ⟨34, 5, [.agg [.int .i64 0, .nils, .nils, .nils, .nils]], 0⟩, ⟨3, 1, List.map (PV.int .i64) x1, 1⟩, ⟨3, 1, List.map (PV.int .i64) x3, 1⟩, ⟨4, 1, List.map PV.bool x5, 1⟩, ⟨4, 1, List.map PV.bool x7, 1⟩, ⟨34, 5, [.agg [.int .i64 p0.Time, .sl (n + 2) 1 0 (x1).length, .sl (n + 3) 1 0 (x3).length, .sl (n + 4) 1 0 (x5).length, .sl (n + 5) 1 0 (x7).length]], 1⟩])] mixed (by kernel_rfl) rfl (lenAllX (Yp Xl (Yp Xl (Yp Xl (Yp Xl (Yp Xl (Yp Xl (Yp Xl (Yp Xl (Yp Xl (Yp Xl (Yp Xl allx0)))))))))))) rfl [4, 7, 10, 13, 15, 16] ((setL low0 [(q0, ⟨3, 1, [.int .i64 pc10], w0⟩), (q1, ⟨27, 1, [.vs 2 (List.map T_Belt.enc pc11)], w1⟩)]), [⟨34, 5, [.agg [.int .i64 p0.Time, .vs 1 (List.map (PV.int .i64) p0.States), .vs 1 (List.map (PV.int .i64) p0.Since), .vs 1 (List.map PV.bool p0.Pulled), .vs 1 (List.map PV.bool p0.Held)]], 0⟩, ⟨34, 5, [.agg [.int .i64 0, .nils, .nils, .nils, .nils]], 0⟩, ⟨3, 1, List.map (PV.int .i64) x1, 1⟩, ⟨3, 1, List.map (PV.int .i64) x3, 1⟩, ⟨4, 1, List.map PV.bool x5, 1⟩, ⟨4, 1, List.map PV.bool x7, 1⟩, ⟨34, 5, [.agg [.int .i64 p0.Time, .sl (n + 2) 1 0 (x1).length, .sl (n + 3) 1 0 (x3).length, .sl (n + 4) 1 0 (x5).length, .sl (n + 5) 1 0 (x7).length]], 1⟩]) rfl rfl ?_
  refine Xw _ rfl rfl (Xs (Xh.ntl (Vc rfl tf_34_0 ts_3 (by decide))) (Xs (Xh.ntl (Vc rfl tf_34_0 ts_3 (by decide))) (Xs (Xh.ntl (Vc rfl tf_34_0 ts_3 (by decide))) (Xs (Xh.ntl (Vc rfl tf_34_0 ts_3 (by decide))) (Xs (Xh.ntl (Vc rfl tf_34_0 ts_3 (by decide))) (Xs (Xh.ntl (Vc rfl tf_34_0 ts_3 (by decide))) (Xs (Xh.ntl (Vc rfl tf_34_0 ts_3 (by decide))) (Xs (Xh.ntl (Vc rfl tf_34_0 ts_3 (by decide))) (Xs (Xh.ntl (Vc rfl tf_34_0 ts_3 (by decide))) (Xs (Xh.ntl (Vc rfl tf_34_0 ts_3 (by decide))) rx0)))))))))) ?_
  refine Xw _ rfl rfl (Xs (Xh.ntl (Vf rfl (Vd (Vr hn) rfl) rfl ta_3 rfl)) (Xs (Xh.ntl (Vf rfl (Vd (Vr hn) rfl) rfl ta_3 rfl)) (Xs (Xh.ntl (Vf rfl (Vd (Vr hn) rfl) rfl ta_3 rfl)) (Xs (Xh.ntl (Vf rfl (Vd (Vr hn) rfl) rfl ta_3 rfl)) (Xs (Xh.ntl (Vf rfl (Vd (Vr hn) rfl) rfl ta_3 rfl)) (Xs (Xh.ntl (Vf rfl (Vd (Vr hn) rfl) rfl ta_3 rfl)) (Xs (Xh.ntl (Vf rfl (Vd (Vr hn) rfl) rfl ta_3 rfl)) (Xs (Xh.ntl (Vf rfl (Vd (Vr hn) rfl) rfl ta_3 rfl)) (Xs (Xh.ntl (Vf rfl (Vd (Vr hn) rfl) rfl ta_3 rfl)) (Xs (Xh.ntl (Vf rfl (Vd (Vr hn) rfl) rfl ta_3 rfl)) rx0)))))))))) ?_
  refine Xw _ rfl rfl (Xs (Xh.ntl (Vc rfl tf_34_1 ts_22 (by decide))) (Xs (Xh.ntl (Vc rfl tf_34_1 ts_22 (by decide))) rx0)) ?_
  refine Xw _ rfl rfl (Xs (Xh.ntl (Vf rfl (Vd (Vr hn) rfl) rfl ta_22 rfl)) (Xs (Xh.ntl (Vf rfl (Vd (Vr hn) rfl) rfl ta_22 rfl)) rx0)) ?_
  refine Zd _ rfl rfl (Zs 1 rfl (Vt (f := 7) (k := 2) (m := 1) (os := [⟨3, 1, List.map (PV.int .i64) x1, 0⟩]) (os' := [⟨3, 1, List.map (PV.int .i64) x1, 1⟩]) (v := .sl (n + 7) 0 0 (x1).length) (Vr hn) rfl rfl ⟨⟨_, rfl, rfl⟩, trivial⟩ (Xf (r := .sl (n + 7) 0 0 (x1).length) (os := [⟨3, 1, List.map (PV.int .i64) x1, 0⟩]) rfl Try.call54 (F_slices_Clone___int_int__ok h2 _ (Xn (Vr hn) rfl))) (Yf 0 rfl rfl rfl rfl) ⟨.same _ _ _ (Vh (fun _ => .int _ _)), trivial⟩ rfl) (Zs 4 rfl (Vt (f := 7) (k := 2) (m := 1) (os := [⟨3, 1, List.map (PV.int .i64) x1, 0⟩]) (os' := [⟨3, 1, List.map (PV.int .i64) x1, 1⟩]) (v := .sl (n + 7) 0 0 (x1).length) (Vr hn) rfl rfl ⟨⟨_, rfl, rfl⟩, trivial⟩ (Xf (r := .sl (n + 7) 0 0 (x1).length) (os := [⟨3, 1, List.map (PV.int .i64) x1, 0⟩]) rfl Try.call54 (F_slices_Clone___int_int__ok h2 _ (Xn (Vr hn) rfl))) (Yf 0 rfl rfl rfl rfl) ⟨.same _ _ _ (Vh (fun _ => .int _ _)), trivial⟩ rfl) ex0)) ?_
  refine Xw _ rfl rfl (Xs (Xh.ntl (Vc rfl tf_34_2 ts_22 (by decide))) (Xs (Xh.ntl (Vc rfl tf_34_2 ts_22 (by decide))) (Xs (Xh.ntl (Vc rfl tf_34_2 ts_22 (by decide))) (Xs (Xh.ntl (Vc rfl tf_34_2 ts_22 (by decide))) rx0)))) ?_
  refine Xw _ rfl rfl (Xs (Xh.ntl (Vf rfl (Vd (Vr hn) rfl) rfl ta_22 rfl)) (Xs (Xh.ntl (Vf rfl (Vd (Vr hn) rfl) rfl ta_22 rfl)) (Xs (Xh.ntl (Vf rfl (Vd (Vr hn) rfl) rfl ta_22 rfl)) (Xs (Xh.ntl (Vf rfl (Vd (Vr hn) rfl) rfl ta_22 rfl)) rx0)))) ?_
  refine Zd _ rfl rfl (Zs 3 rfl (Vt (f := 7) (k := 3) (m := 1) (os := [⟨3, 1, List.map (PV.int .i64) x3, 0⟩]) (os' := [⟨3, 1, List.map (PV.int .i64) x3, 1⟩]) (v := .sl (n + 7) 0 0 (x3).length) (Vr hn) rfl rfl ⟨⟨_, rfl, rfl⟩, trivial⟩ (Xf (r := .sl (n + 7) 0 0 (x3).length) (os := [⟨3, 1, List.map (PV.int .i64) x3, 0⟩]) rfl Try.call54 (F_slices_Clone___int_int__ok h4 _ (Xn (Vr hn) rfl))) (Yf 0 rfl rfl rfl rfl) ⟨.same _ _ _ (Vh (fun _ => .int _ _)), trivial⟩ rfl) (Zs 6 rfl (Vt (f := 7) (k := 3) (m := 1) (os := [⟨3, 1, List.map (PV.int .i64) x3, 0⟩]) (os' := [⟨3, 1, List.map (PV.int .i64) x3, 1⟩]) (v := .sl (n + 7) 0 0 (x3).length) (Vr hn) rfl rfl ⟨⟨_, rfl, rfl⟩, trivial⟩ (Xf (r := .sl (n + 7) 0 0 (x3).length) (os := [⟨3, 1, List.map (PV.int .i64) x3, 0⟩]) rfl Try.call54 (F_slices_Clone___int_int__ok h4 _ (Xn (Vr hn) rfl))) (Yf 0 rfl rfl rfl rfl) ⟨.same _ _ _ (Vh (fun _ => .int _ _)), trivial⟩ rfl) ex0)) ?_
  refine Xw _ rfl rfl (Xs (Xh.ntl (Vc rfl tf_34_3 ts_32 (by decide))) (Xs (Xh.ntl (Vc rfl tf_34_3 ts_32 (by decide))) (Xs (Xh.ntl (Vc rfl tf_34_3 ts_32 (by decide))) (Xs (Xh.ntl (Vc rfl tf_34_3 ts_32 (by decide))) (Xs (Xh.ntl (Vc rfl tf_34_3 ts_32 (by decide))) (Xs (Xh.ntl (Vc rfl tf_34_3 ts_32 (by decide))) rx0)))))) ?_
  refine Xw _ rfl rfl (Xs (Xh.ntl (Vf rfl (Vd (Vr hn) rfl) rfl ta_32 rfl)) (Xs (Xh.ntl (Vf rfl (Vd (Vr hn) rfl) rfl ta_32 rfl)) (Xs (Xh.ntl (Vf rfl (Vd (Vr hn) rfl) rfl ta_32 rfl)) (Xs (Xh.ntl (Vf rfl (Vd (Vr hn) rfl) rfl ta_32 rfl)) (Xs (Xh.ntl (Vf rfl (Vd (Vr hn) rfl) rfl ta_32 rfl)) (Xs (Xh.ntl (Vf rfl (Vd (Vr hn) rfl) rfl ta_32 rfl)) rx0)))))) ?_
  refine Zd _ rfl rfl (Zs 5 rfl (Vt (f := 7) (k := 4) (m := 1) (os := [⟨4, 1, List.map PV.bool x5, 0⟩]) (os' := [⟨4, 1, List.map PV.bool x5, 1⟩]) (v := .sl (n + 7) 0 0 (x5).length) (Vr hn) rfl rfl ⟨⟨_, rfl, rfl⟩, trivial⟩ (Xf (r := .sl (n + 7) 0 0 (x5).length) (os := [⟨4, 1, List.map PV.bool x5, 0⟩]) rfl Try.call55 (F_slices_Clone___bool_bool__ok h6 _ (Xn (Vr hn) rfl))) (Yf 0 rfl rfl rfl rfl) ⟨.same _ _ _ (Vh (fun _ => .bool _)), trivial⟩ rfl) (Zs 8 rfl (Vt (f := 7) (k := 4) (m := 1) (os := [⟨4, 1, List.map PV.bool x5, 0⟩]) (os' := [⟨4, 1, List.map PV.bool x5, 1⟩]) (v := .sl (n + 7) 0 0 (x5).length) (Vr hn) rfl rfl ⟨⟨_, rfl, rfl⟩, trivial⟩ (Xf (r := .sl (n + 7) 0 0 (x5).length) (os := [⟨4, 1, List.map PV.bool x5, 0⟩]) rfl Try.call55 (F_slices_Clone___bool_bool__ok h6 _ (Xn (Vr hn) rfl))) (Yf 0 rfl rfl rfl rfl) ⟨.same _ _ _ (Vh (fun _ => .bool _)), trivial⟩ rfl) ex0)) ?_
  refine Xw _ rfl rfl (Xs (Xh.ntl (Vc rfl tf_34_4 ts_32 (by decide))) (Xs (Xh.ntl (Vc rfl tf_34_4 ts_32 (by decide))) (Xs (Xh.ntl (Vc rfl tf_34_4 ts_32 (by decide))) (Xs (Xh.ntl (Vc rfl tf_34_4 ts_32 (by decide))) (Xs (Xh.ntl (Vc rfl tf_34_4 ts_32 (by decide))) (Xs (Xh.ntl (Vc rfl tf_34_4 ts_32 (by decide))) (Xs (Xh.ntl (Vc rfl tf_34_4 ts_32 (by decide))) (Xs (Xh.ntl (Vc rfl tf_34_4 ts_32 (by decide))) rx0)))))))) ?_
  refine Xw _ rfl rfl (Xs (Xh.ntl (Vf rfl (Vd (Vr hn) rfl) rfl ta_32 rfl)) (Xs (Xh.ntl (Vf rfl (Vd (Vr hn) rfl) rfl ta_32 rfl)) (Xs (Xh.ntl (Vf rfl (Vd (Vr hn) rfl) rfl ta_32 rfl)) (Xs (Xh.ntl (Vf rfl (Vd (Vr hn) rfl) rfl ta_32 rfl)) (Xs (Xh.ntl (Vf rfl (Vd (Vr hn) rfl) rfl ta_32 rfl)) (Xs (Xh.ntl (Vf rfl (Vd (Vr hn) rfl) rfl ta_32 rfl)) (Xs (Xh.ntl (Vf rfl (Vd (Vr hn) rfl) rfl ta_32 rfl)) (Xs (Xh.ntl (Vf rfl (Vd (Vr hn) rfl) rfl ta_32 rfl)) rx0)))))))) ?_
  refine Zd _ rfl rfl (Zs 7 rfl (Vt (f := 7) (k := 5) (m := 1) (os := [⟨4, 1, List.map PV.bool x7, 0⟩]) (os' := [⟨4, 1, List.map PV.bool x7, 1⟩]) (v := .sl (n + 7) 0 0 (x7).length) (Vr hn) rfl rfl ⟨⟨_, rfl, rfl⟩, trivial⟩ (Xf (r := .sl (n + 7) 0 0 (x7).length) (os := [⟨4, 1, List.map PV.bool x7, 0⟩]) rfl Try.call55 (F_slices_Clone___bool_bool__ok h8 _ (Xn (Vr hn) rfl))) (Yf 0 rfl rfl rfl rfl) ⟨.same _ _ _ (Vh (fun _ => .bool _)), trivial⟩ rfl) (Zs 9 rfl (Vt (f := 7) (k := 5) (m := 1) (os := [⟨4, 1, List.map PV.bool x7, 0⟩]) (os' := [⟨4, 1, List.map PV.bool x7, 1⟩]) (v := .sl (n + 7) 0 0 (x7).length) (Vr hn) rfl rfl ⟨⟨_, rfl, rfl⟩, trivial⟩ (Xf (r := .sl (n + 7) 0 0 (x7).length) (os := [⟨4, 1, List.map PV.bool x7, 0⟩]) rfl Try.call55 (F_slices_Clone___bool_bool__ok h8 _ (Xn (Vr hn) rfl))) (Yf 0 rfl rfl rfl rfl) ⟨.same _ _ _ (Vh (fun _ => .bool _)), trivial⟩ rfl) ex0)) ?_
  refine Xw _ rfl rfl (Xs (Xh.ntl (Wd (vs := [(0, .int .i64 p0.Time), (1, .sl (n + 2) 1 0 (x1).length), (2, .sl (n + 3) 1 0 (x3).length), (3, .sl (n + 4) 1 0 (x5).length), (4, .sl (n + 5) 1 0 (x7).length)]) (ds := [.int .i64 p0.Time, .sl (n + 2) 1 0 (x1).length, .sl (n + 3) 1 0 (x3).length, .sl (n + 4) 1 0 (x5).length, .sl (n + 5) 1 0 (x7).length]) tz_34 rfl rfl tp_34 ⟨rfl, rfl, rfl, rfl, rfl, rfl, rfl, rfl, rfl, rfl, trivial⟩ (nt_all2 rfl) rfl)) (Xs (Xh.ntl (Wd (vs := [(0, .int .i64 p0.Time), (1, .sl (n + 2) 1 0 (x1).length), (2, .sl (n + 3) 1 0 (x3).length), (3, .sl (n + 4) 1 0 (x5).length), (4, .sl (n + 5) 1 0 (x7).length)]) (ds := [.int .i64 p0.Time, .sl (n + 2) 1 0 (x1).length, .sl (n + 3) 1 0 (x3).length, .sl (n + 4) 1 0 (x5).length, .sl (n + 5) 1 0 (x7).length]) tz_34 rfl rfl tp_34 ⟨rfl, rfl, rfl, rfl, rfl, rfl, rfl, rfl, rfl, rfl, trivial⟩ (nt_all2 rfl) rfl)) rx0)) ?_
  refine Zd _ rfl rfl (Zs 2 rfl (Vt (f := 7) (k := 6) (m := 1) (os := [⟨34, 5, [.agg [.int .i64 0, .nils, .nils, .nils, .nils]], 0⟩]) (os' := [⟨34, 5, [.agg [.int .i64 0, .nils, .nils, .nils, .nils]], 1⟩]) (v := .ptr (n + 7) 0 0 0) (Vr hn) rfl rfl ⟨⟨_, rfl, rfl⟩, trivial⟩ (Xe (Vr hn) rfl tz_34 rfl rfl (Nat.succ_pos _) rfl) (Wa 0 rfl rfl rfl rfl) ⟨.same _ _ _ (Xt ⟨(Xx ⟨.int _ _, .nils, .nils, .nils, .nils, trivial⟩), trivial⟩), trivial⟩ rfl) (Zs 4 rfl (Vt (f := 7) (k := 6) (m := 1) (os := [⟨34, 5, [.agg [.int .i64 0, .nils, .nils, .nils, .nils]], 0⟩]) (os' := [⟨34, 5, [.agg [.int .i64 0, .nils, .nils, .nils, .nils]], 1⟩]) (v := .ptr (n + 7) 0 0 0) (Vr hn) rfl rfl ⟨⟨_, rfl, rfl⟩, trivial⟩ (Xe (Vr hn) rfl tz_34 rfl rfl (Nat.succ_pos _) rfl) (Wa 0 rfl rfl rfl rfl) ⟨.same _ _ _ (Xt ⟨(Xx ⟨.int _ _, .nils, .nils, .nils, .nils, trivial⟩), trivial⟩), trivial⟩ rfl) (Zs 6 rfl (Vt (f := 7) (k := 6) (m := 1) (os := [⟨34, 5, [.agg [.int .i64 0, .nils, .nils, .nils, .nils]], 0⟩]) (os' := [⟨34, 5, [.agg [.int .i64 0, .nils, .nils, .nils, .nils]], 1⟩]) (v := .ptr (n + 7) 0 0 0) (Vr hn) rfl rfl ⟨⟨_, rfl, rfl⟩, trivial⟩ (Xe (Vr hn) rfl tz_34 rfl rfl (Nat.succ_pos _) rfl) (Wa 0 rfl rfl rfl rfl) ⟨.same _ _ _ (Xt ⟨(Xx ⟨.int _ _, .nils, .nils, .nils, .nils, trivial⟩), trivial⟩), trivial⟩ rfl) (Zs 8 rfl (Vt (f := 7) (k := 6) (m := 1) (os := [⟨34, 5, [.agg [.int .i64 0, .nils, .nils, .nils, .nils]], 0⟩]) (os' := [⟨34, 5, [.agg [.int .i64 0, .nils, .nils, .nils, .nils]], 1⟩]) (v := .ptr (n + 7) 0 0 0) (Vr hn) rfl rfl ⟨⟨_, rfl, rfl⟩, trivial⟩ (Xe (Vr hn) rfl tz_34 rfl rfl (Nat.succ_pos _) rfl) (Wa 0 rfl rfl rfl rfl) ⟨.same _ _ _ (Xt ⟨(Xx ⟨.int _ _, .nils, .nils, .nils, .nils, trivial⟩), trivial⟩), trivial⟩ rfl) (Zs 9 rfl (Vt (f := 7) (k := 6) (m := 1) (os := [⟨34, 5, [.agg [.int .i64 0, .nils, .nils, .nils, .nils]], 0⟩]) (os' := [⟨34, 5, [.agg [.int .i64 0, .nils, .nils, .nils, .nils]], 1⟩]) (v := .ptr (n + 7) 0 0 0) (Vr hn) rfl rfl ⟨⟨_, rfl, rfl⟩, trivial⟩ (Xe (Vr hn) rfl tz_34 rfl rfl (Nat.succ_pos _) rfl) (Wa 0 rfl rfl rfl rfl) ⟨.same _ _ _ (Xt ⟨(Xx ⟨.int _ _, .nils, .nils, .nils, .nils, trivial⟩), trivial⟩), trivial⟩ rfl) ex0))))) ?_
  refine Zd _ rfl rfl (Zs 10 rfl (Vx (p := .agg [.int .i64 p0.Time, .sl (n + 2) 1 0 (x1).length, .sl (n + 3) 1 0 (x3).length, .sl (n + 4) 1 0 (x5).length, .sl (n + 5) 1 0 (x7).length]) (e' := .agg [.int .i64 p0.Time, .sl (n + 2) 1 0 (x1).length, .sl (n + 3) 1 0 (x3).length, .sl (n + 4) 1 0 (x5).length, .sl (n + 5) 1 0 (x7).length]) rfl (Vd (Vr hn) rfl) rfl rfl ts_34 rfl (Yc rfl) rfl (Nat.le_of_ble_eq_true rfl) rfl (Xr (Vr hn) rfl)) ex0) ?_
  refine dopx_nil ?_
  refine Vi ?_
  refine Ve ?_
  obtain ⟨x9, h10, hF⟩ := Ys hF
  refine Va (rd_mvF rfl) rfl ?_
  refine Vk (Wc (ps := [((n + 6), ⟨34, 5, [.agg [.int .i64 x9.Time, .sl (n + 2) 1 0 (x1).length, .sl (n + 3) 1 0 (x3).length, .sl (n + 4) 1 0 (x5).length, .sl (n + 5) 1 0 (x7).length]], 1⟩), ((n + 2), ⟨3, 1, List.map (PV.int .i64) x9.States, 1⟩), ((n + 3), ⟨3, 1, List.map (PV.int .i64) x9.Since, 1⟩), ((n + 4), ⟨4, 1, List.map PV.bool x9.Pulled, 1⟩), ((n + 5), ⟨4, 1, List.map PV.bool x9.Held, 1⟩), (q0, ⟨3, 1, [.int .i64 pc10], w0⟩), (q1, ⟨27, 1, [.vs 2 (List.map T_Belt.enc pc11)], w1⟩)]) (r := .tup []) (os := []) (low1 := (setL low0 [(q0, ⟨3, 1, [.int .i64 pc10], w0⟩), (q1, ⟨27, 1, [.vs 2 (List.map T_Belt.enc pc11)], w1⟩)])) (loc1 := [⟨34, 5, [.agg [.int .i64 p0.Time, .vs 1 (List.map (PV.int .i64) p0.States), .vs 1 (List.map (PV.int .i64) p0.Since), .vs 1 (List.map PV.bool p0.Pulled), .vs 1 (List.map PV.bool p0.Held)]], 0⟩, ⟨34, 5, [.agg [.int .i64 0, .nils, .nils, .nils, .nils]], 0⟩, ⟨3, 1, List.map (PV.int .i64) x9.States, 1⟩, ⟨3, 1, List.map (PV.int .i64) x9.Since, 1⟩, ⟨4, 1, List.map PV.bool x9.Pulled, 1⟩, ⟨4, 1, List.map PV.bool x9.Held, 1⟩, ⟨34, 5, [.agg [.int .i64 x9.Time, .sl (n + 2) 1 0 (x1).length, .sl (n + 3) 1 0 (x3).length, .sl (n + 4) 1 0 (x5).length, .sl (n + 5) 1 0 (x7).length]], 1⟩]) (loc2 := [⟨34, 5, [.agg [.int .i64 p0.Time, .vs 1 (List.map (PV.int .i64) p0.States), .vs 1 (List.map (PV.int .i64) p0.Since), .vs 1 (List.map PV.bool p0.Pulled), .vs 1 (List.map PV.bool p0.Held)]], 0⟩, ⟨34, 5, [.agg [.int .i64 0, .nils, .nils, .nils, .nils]], 0⟩, ⟨3, 1, List.map (PV.int .i64) x9.States, 1⟩, ⟨3, 1, List.map (PV.int .i64) x9.Since, 1⟩, ⟨4, 1, List.map PV.bool x9.Pulled, 1⟩, ⟨4, 1, List.map PV.bool x9.Held, 1⟩, ⟨34, 5, [.agg [.int .i64 x9.Time, .sl (n + 2) 1 0 (x1).length, .sl (n + 3) 1 0 (x3).length, .sl (n + 4) 1 0 (x5).length, .sl (n + 5) 1 0 (x7).length]], 1⟩]) rfl Try.call34 (F_belts_Wait_1_ok h10 (nd1 (Zq (Yt rfl) (Zq (Yt rfl) (Zq (Yt rfl) (Zq (Yt rfl) (Zq (Yr hq0) (Zq (Yr hq1) na0)))))) (nd1 (Zq (Yt rfl) (Zq (Yt rfl) (Zq (Yt rfl) (Zq (Yr hq0) (Zq (Yr hq1) na0))))) (nd1 (Zq (Yt rfl) (Zq (Yt rfl) (Zq (Yr hq0) (Zq (Yr hq1) na0)))) (nd1 (Zq (Yt rfl) (Zq (Yr hq0) (Zq (Yr hq1) na0))) (nd1 (Zq (Yr hq0) (Zq (Yr hq1) na0)) (nd1 (Zq (hB.ne 0 1 rfl rfl rfl) na0) (nd1 na0 nd0))))))) (rfl : (x1).length = _) (rfl : (x3).length = _) (rfl : (x5).length = _) (rfl : (x7).length = _) (Zw (Vr hn) rfl) (Zw (Vr hn) rfl) (Zw (Vr hn) rfl) (Zw (Vr hn) rfl) (Zw (Vr hn) rfl) (get_B hB rfl 0 rfl) (get_B hB rfl 1 rfl) (Xn (Vr hn) rfl)) (Yx (loc2 := [⟨34, 5, [.agg [.int .i64 p0.Time, .vs 1 (List.map (PV.int .i64) p0.States), .vs 1 (List.map (PV.int .i64) p0.Since), .vs 1 (List.map PV.bool p0.Pulled), .vs 1 (List.map PV.bool p0.Held)]], 0⟩, ⟨34, 5, [.agg [.int .i64 0, .nils, .nils, .nils, .nils]], 0⟩, ⟨3, 1, List.map (PV.int .i64) x1, 1⟩, ⟨3, 1, List.map (PV.int .i64) x3, 1⟩, ⟨4, 1, List.map PV.bool x5, 1⟩, ⟨4, 1, List.map PV.bool x7, 1⟩, ⟨34, 5, [.agg [.int .i64 x9.Time, .sl (n + 2) 1 0 (x1).length, .sl (n + 3) 1 0 (x3).length, .sl (n + 4) 1 0 (x5).length, .sl (n + 5) 1 0 (x7).length]], 1⟩]) (Vr hn) 6 rfl (Yx (loc2 := [⟨34, 5, [.agg [.int .i64 p0.Time, .vs 1 (List.map (PV.int .i64) p0.States), .vs 1 (List.map (PV.int .i64) p0.Since), .vs 1 (List.map PV.bool p0.Pulled), .vs 1 (List.map PV.bool p0.Held)]], 0⟩, ⟨34, 5, [.agg [.int .i64 0, .nils, .nils, .nils, .nils]], 0⟩, ⟨3, 1, List.map (PV.int .i64) x9.States, 1⟩, ⟨3, 1, List.map (PV.int .i64) x3, 1⟩, ⟨4, 1, List.map PV.bool x5, 1⟩, ⟨4, 1, List.map PV.bool x7, 1⟩, ⟨34, 5, [.agg [.int .i64 x9.Time, .sl (n + 2) 1 0 (x1).length, .sl (n + 3) 1 0 (x3).length, .sl (n + 4) 1 0 (x5).length, .sl (n + 5) 1 0 (x7).length]], 1⟩]) (Vr hn) 2 rfl (Yx (loc2 := [⟨34, 5, [.agg [.int .i64 p0.Time, .vs 1 (List.map (PV.int .i64) p0.States), .vs 1 (List.map (PV.int .i64) p0.Since), .vs 1 (List.map PV.bool p0.Pulled), .vs 1 (List.map PV.bool p0.Held)]], 0⟩, ⟨34, 5, [.agg [.int .i64 0, .nils, .nils, .nils, .nils]], 0⟩, ⟨3, 1, List.map (PV.int .i64) x9.States, 1⟩, ⟨3, 1, List.map (PV.int .i64) x9.Since, 1⟩, ⟨4, 1, List.map PV.bool x5, 1⟩, ⟨4, 1, List.map PV.bool x7, 1⟩, ⟨34, 5, [.agg [.int .i64 x9.Time, .sl (n + 2) 1 0 (x1).length, .sl (n + 3) 1 0 (x3).length, .sl (n + 4) 1 0 (x5).length, .sl (n + 5) 1 0 (x7).length]], 1⟩]) (Vr hn) 3 rfl (Yx (loc2 := [⟨34, 5, [.agg [.int .i64 p0.Time, .vs 1 (List.map (PV.int .i64) p0.States), .vs 1 (List.map (PV.int .i64) p0.Since), .vs 1 (List.map PV.bool p0.Pulled), .vs 1 (List.map PV.bool p0.Held)]], 0⟩, ⟨34, 5, [.agg [.int .i64 0, .nils, .nils, .nils, .nils]], 0⟩, ⟨3, 1, List.map (PV.int .i64) x9.States, 1⟩, ⟨3, 1, List.map (PV.int .i64) x9.Since, 1⟩, ⟨4, 1, List.map PV.bool x9.Pulled, 1⟩, ⟨4, 1, List.map PV.bool x7, 1⟩, ⟨34, 5, [.agg [.int .i64 x9.Time, .sl (n + 2) 1 0 (x1).length, .sl (n + 3) 1 0 (x3).length, .sl (n + 4) 1 0 (x5).length, .sl (n + 5) 1 0 (x7).length]], 1⟩]) (Vr hn) 4 rfl (Yx (loc2 := [⟨34, 5, [.agg [.int .i64 p0.Time, .vs 1 (List.map (PV.int .i64) p0.States), .vs 1 (List.map (PV.int .i64) p0.Since), .vs 1 (List.map PV.bool p0.Pulled), .vs 1 (List.map PV.bool p0.Held)]], 0⟩, ⟨34, 5, [.agg [.int .i64 0, .nils, .nils, .nils, .nils]], 0⟩, ⟨3, 1, List.map (PV.int .i64) x9.States, 1⟩, ⟨3, 1, List.map (PV.int .i64) x9.Since, 1⟩, ⟨4, 1, List.map PV.bool x9.Pulled, 1⟩, ⟨4, 1, List.map PV.bool x9.Held, 1⟩, ⟨34, 5, [.agg [.int .i64 x9.Time, .sl (n + 2) 1 0 (x1).length, .sl (n + 3) 1 0 (x3).length, .sl (n + 4) 1 0 (x5).length, .sl (n + 5) 1 0 (x7).length]], 1⟩]) (Vr hn) 5 rfl (Wh (ps0' := [(q0, ⟨3, 1, [.int .i64 pc10], w0⟩), (q1, ⟨27, 1, [.vs 2 (List.map T_Belt.enc pc11)], w1⟩)]) hB rfl 0 rfl (ltObjN hn ⟨.int _ _, trivial⟩) rfl (Wh (ps0' := [(q0, ⟨3, 1, [.int .i64 pc10], w0⟩), (q1, ⟨27, 1, [.vs 2 (List.map T_Belt.enc pc11)], w1⟩)]) hB rfl 1 rfl (ltObjN hn ⟨.vs _ _, trivial⟩) rfl Wl))))))) rfl) rfl ?_
  refine Vg ?_
  refine Vi ?_
  refine Ve ?_
  refine Va (Vu (ds := [.int .i64 x9.Time, .sl (n + 2) 1 0 (x1).length, .sl (n + 3) 1 0 (x3).length, .sl (n + 4) 1 0 (x5).length, .sl (n + 5) 1 0 (x7).length]) rfl (Vd (Vr hn) rfl) rfl ta_34 ts_34 rfl rfl rfl) rfl ?_
  refine Vk (Vx (p := .agg [.int .i64 x9.Time, .sl (n + 2) 1 0 (x1).length, .sl (n + 3) 1 0 (x3).length, .sl (n + 4) 1 0 (x5).length, .sl (n + 5) 1 0 (x7).length]) (e' := .agg [.int .i64 x9.Time, .sl (n + 2) 1 0 (x1).length, .sl (n + 3) 1 0 (x3).length, .sl (n + 4) 1 0 (x5).length, .sl (n + 5) 1 0 (x7).length]) rfl (Vd (Vr hn) rfl) rfl rfl ts_34 rfl (Yc rfl) rfl (Nat.le_of_ble_eq_true rfl) rfl (Xr (Vr hn) rfl)) rfl ?_
  refine Vg ?_
  refine Xb ?_
  obtain rfl := Option.some.inj hF
  refine Zy ?_
  refine Ya.trans (Xp (E' := [(4, .ptr (n + 1) 0 0 0)]) (loc1 := [⟨34, 5, [.agg [.int .i64 p0.Time, .vs 1 (List.map (PV.int .i64) p0.States), .vs 1 (List.map (PV.int .i64) p0.Since), .vs 1 (List.map PV.bool p0.Pulled), .vs 1 (List.map PV.bool p0.Held)]], 0⟩, ⟨34, 5, [.agg [.int .i64 x9.Time, .sl (n + 2) 1 0 (x1).length, .sl (n + 3) 1 0 (x3).length, .sl (n + 4) 1 0 (x5).length, .vs 1 (List.map PV.bool x9.Held)]], 0⟩, ⟨3, 1, List.map (PV.int .i64) x9.States, 1⟩, ⟨3, 1, List.map (PV.int .i64) x9.Since, 1⟩, ⟨4, 1, List.map PV.bool x9.Pulled, 1⟩, ⟨4, 1, [], 1 + 1⟩, ⟨34, 5, [.agg [.int .i64 x9.Time, .sl (n + 2) 1 0 (x1).length, .sl (n + 3) 1 0 (x3).length, .sl (n + 4) 1 0 (x5).length, .vs 1 (List.map PV.bool x9.Held)]], 1⟩]) (Vr hn) 5 rfl (Yh (fun _ => .bool _)) ⟨Vl rfl, trivial⟩ ⟨.refl _, Yq ⟨Vl rfl, Vl rfl, Vl rfl, Vl rfl, Zi rfl rfl rfl (Vy (F_belts_Wait_1_len h10 (rfl : (x1).length = _) (rfl : (x3).length = _) (rfl : (x5).length = _) (rfl : (x7).length = _)).2.2.2.1), trivial⟩, .refl _, .refl _, .refl _, .refl _, Yq ⟨Vl rfl, Vl rfl, Vl rfl, Vl rfl, Zi rfl rfl rfl (Vy (F_belts_Wait_1_len h10 (rfl : (x1).length = _) (rfl : (x3).length = _) (rfl : (x5).length = _) (rfl : (x7).length = _)).2.2.2.1), trivial⟩, trivial⟩) ?_
  exact Vv (Vr hn) [(2, 1), (3, 1), (4, 1), (1, 0)] (by decide) ⟨Yo 3 1 rfl rfl, trivial⟩ ⟨⟨_, rfl, rfl, .same _ _ _ _ (Vh (fun _ => .int _ _))⟩, ⟨_, rfl, rfl, .same _ _ _ _ (Vh (fun _ => .int _ _))⟩, ⟨_, rfl, rfl, .same _ _ _ _ (Vh (fun _ => .bool _))⟩, ⟨_, rfl, rfl, .agg _ _ _ _ _ ⟨Vs rfl (.int _ _), Xu 0 2 rfl (congrArg (PV.sl _ _ 0) (F_belts_Wait_1_len h10 (rfl : (x1).length = _) (rfl : (x3).length = _) (rfl : (x5).length = _) (rfl : (x7).length = _)).1), Xu 1 3 rfl (congrArg (PV.sl _ _ 0) (F_belts_Wait_1_len h10 (rfl : (x1).length = _) (rfl : (x3).length = _) (rfl : (x5).length = _) (rfl : (x7).length = _)).2.1), Xu 2 4 rfl (congrArg (PV.sl _ _ 0) (F_belts_Wait_1_len h10 (rfl : (x1).length = _) (rfl : (x3).length = _) (rfl : (x5).length = _) (rfl : (x7).length = _)).2.2.1), Vs rfl (.vs _ _), trivial⟩⟩, trivial⟩
 ·rintro _ _ _ _ ⟨he, hw⟩
  refine ⟨_, _, _, hw, ?_⟩
  exact Zj (Vr hn) 3 rfl (Nat.le_of_ble_eq_true rfl) he [.agg [.int .i64 r.Time, .sl (n + 0) 0 0 (r.States).length, .sl (n + 1) 0 0 (r.Since).length, .sl (n + 2) 0 0 (r.Pulled).length, .vs 1 (List.map PV.bool r.Held)]] ⟨Vu rfl (Vd (Vr hn) rfl) rfl ta_34 ts_34 rfl rfl rfl, trivial⟩ ((Xx ⟨.int _ _, .sl _ _ _ _ (Zr rfl), .sl _ _ _ _ (Zr rfl), .sl _ _ _ _ (Zr rfl), .vs _ _, trivial⟩)) ⟨Vh (fun _ => .int _ _), Vh (fun _ => .int _ _), Vh (fun _ => .bool _), trivial⟩ ⟨rfl, rfl⟩

theorem F_belts_done__belts_Wait_1_ok {p0 : T_Line} {pc10 : Int} {pc11 : List T_Belt} {r : T_Line} (hF : F_belts_done__belts_Wait_1 p0 pc10 pc11 = some r) {low : List AObj} {q0 q1 w0 w1 : Nat} (hnd : [q0, q1].Nodup) (hq0 : low[q0]? = some ⟨3, 1, [.int .i64 pc10], w0⟩) (hq1 : low[q1]? = some ⟨27, 1, [.vs 2 (List.map T_Belt.enc pc11)], w1⟩) {n : Nat} (hn : low.length = n) :
    Yv Try.prog 31 [.agg [.int .i64 p0.Time, .vs 1 (List.map (PV.int .i64) p0.States), .vs 1 (List.map (PV.int .i64) p0.Since), .vs 1 (List.map PV.bool p0.Pulled), .vs 1 (List.map PV.bool p0.Held)], .fn 34 [] [.ptr q0 w0 0 0, .ptr q1 w1 0 0]] low fun x low' => x = .agg [.int .i64 r.Time, .sl (n + 0) 0 0 (r.States).length, .sl (n + 1) 0 0 (r.Since).length, .sl (n + 2) 0 0 (r.Pulled).length, .vs 1 (List.map PV.bool r.Held)] ∧ low' = setL low [(q0, ⟨3, 1, [.int .i64 pc10], w0⟩), (q1, ⟨27, 1, [.vs 2 (List.map T_Belt.enc pc11)], w1⟩)] ++ [⟨3, 1, List.map (PV.int .i64) r.States, 0⟩, ⟨3, 1, List.map (PV.int .i64) r.Since, 0⟩, ⟨4, 1, List.map PV.bool r.Pulled, 0⟩] := by
  obtain ⟨h1, h2⟩ := Wk (ps := [(q0, ⟨3, 1, [.int .i64 pc10], w0⟩), (q1, ⟨27, 1, [.vs 2 (List.map T_Belt.enc pc11)], w1⟩)]) hnd (Zx hq0 (Zx hq1 bor0))
  exact Zz h1 (F_belts_done__belts_Wait_1_ok0 hF h2 hn)

theorem F_belts_Wait_ok {p0 : List T_Belt} {p1 : T_Line} {p2 : Int} {r : T_Line × Int} (hF : F_belts_Wait p0 p1 p2 = some r) (low : List AObj) {n : Nat} (hn : low.length = n) :
    Yv Try.prog 14 [.vs 2 (List.map T_Belt.enc p0), .agg [.int .i64 p1.Time, .vs 1 (List.map (PV.int .i64) p1.States), .vs 1 (List.map (PV.int .i64) p1.Since), .vs 1 (List.map PV.bool p1.Pulled), .vs 1 (List.map PV.bool p1.Held)], .int .i64 p2] low fun x low' => x = .tup [.agg [.int .i64 r.1.Time, .vs 1 (List.map (PV.int .i64) r.1.States), .vs 1 (List.map (PV.int .i64) r.1.Since), .vs 1 (List.map PV.bool r.1.Pulled), .vs 1 (List.map PV.bool r.1.Held)], .int .i64 r.2] ∧ low' = low ++ [] := by
 refine Xc (nt := 24) (rs := [.cell 6 34, .tmp 7]) Try.func14 rfl rfl (Nat.le_of_ble_eq_true rfl) rfl ?_
 refine Vw (Q' := FnE (fun E' lw lc => Ya E' lw lc [(6, .ptr (n + 0) 0 0 0), (7, .int .i64 r.2)] low [⟨34, 5, [.agg [.int .i64 r.1.Time, .vs 1 (List.map (PV.int .i64) r.1.States), .vs 1 (List.map (PV.int .i64) r.1.Since), .vs 1 (List.map PV.bool r.1.Pulled), .vs 1 (List.map PV.bool r.1.Held)]], 0⟩])) ?_ ?_
 ·unfold F_belts_Wait at hF
  refine Vi ?_
  refine Ve ?_
  refine Vk (Yw hn rfl (v := .vs 2 (List.map T_Belt.enc p0)) rfl rfl (Nat.succ_pos _) rfl rfl) rfl ?_
  refine Vk (Yw hn rfl (v := .agg [.int .i64 p1.Time, .vs 1 (List.map (PV.int .i64) p1.States), .vs 1 (List.map (PV.int .i64) p1.Since), .vs 1 (List.map PV.bool p1.Pulled), .vs 1 (List.map PV.bool p1.Held)]) rfl rfl (Nat.succ_pos _) rfl rfl) rfl ?_
  refine Vk (Yw hn rfl (v := .int .i64 p2) rfl rfl (Nat.succ_pos _) rfl rfl) rfl ?_
  refine Vk (Xe hn rfl tz_34 rfl rfl (Nat.succ_pos _) rfl) rfl ?_
  refine Va (Xa rfl) rfl ?_
  refine Vg ?_
  refine Vi ?_
  refine Yk ?_
  refine Vi ?_
  refine Ve ?_
  obtain ⟨x1, h2, hF⟩ := Ys hF
  refine Va (Vf rfl (Vd hn rfl) rfl ta_27 rfl) rfl ?_
  refine Va (Vu (ds := [.int .i64 p1.Time, .vs 1 (List.map (PV.int .i64) p1.States), .vs 1 (List.map (PV.int .i64) p1.Since), .vs 1 (List.map PV.bool p1.Pulled), .vs 1 (List.map PV.bool p1.Held)]) rfl (Vd hn rfl) rfl ta_34 ts_34 rfl rfl rfl) rfl ?_
  refine Vk (Xk rfl Try.call28 (F_belts_Valid_ok h2 _)) rfl ?_
  refine Va (Zn rfl) rfl ?_
  refine Va (Xy rfl) rfl ?_
  refine Vg ?_
  refine Xj rfl (fun c3 => ?_) (fun c3 => ?_)
  ·have hF := Yl c3 hF
   refine Vi ?_
   refine Ve ?_
   refine Va (Vu (ds := [.int .i64 p1.Time, .vs 1 (List.map (PV.int .i64) p1.States), .vs 1 (List.map (PV.int .i64) p1.Since), .vs 1 (List.map PV.bool p1.Pulled), .vs 1 (List.map PV.bool p1.Held)]) rfl (Vd hn rfl) rfl ta_34 ts_34 rfl rfl rfl) rfl ?_
   refine Vk (Vx (p := .agg [.int .i64 p1.Time, .vs 1 (List.map (PV.int .i64) p1.States), .vs 1 (List.map (PV.int .i64) p1.Since), .vs 1 (List.map PV.bool p1.Pulled), .vs 1 (List.map PV.bool p1.Held)]) (e' := .agg [.int .i64 p1.Time, .vs 1 (List.map (PV.int .i64) p1.States), .vs 1 (List.map (PV.int .i64) p1.Since), .vs 1 (List.map PV.bool p1.Pulled), .vs 1 (List.map PV.bool p1.Held)]) rfl (Vd hn rfl) rfl rfl ts_34 rfl (Yc rfl) rfl (Nat.le_of_ble_eq_true rfl) rfl (Xr hn rfl)) rfl ?_
   refine Va (Xa rfl) rfl ?_
   refine Vg ?_
   refine Xb ?_
   obtain rfl := Option.some.inj hF
   refine Zy ?_
   exact Vv hn [(3, 0)] (by decide) ⟨Yo 0 3 rfl rfl, Vs rfl (.int _ _), trivial⟩ ⟨⟨_, rfl, rfl, .same _ _ _ _ (Xt ⟨Xx ⟨.int _ _, .vs _ _, .vs _ _, .vs _ _, .vs _ _, trivial⟩, trivial⟩)⟩, trivial⟩
  ·have hF := Ym c3 hF
   refine Vi ?_
   refine Ve ?_
   obtain ⟨x4, h5, hF⟩ := Ys hF
   refine Va (Vf rfl (Vd hn rfl) rfl ta_3 rfl) rfl ?_
   refine Va (Vc rfl tf_34_0 ts_3 (by decide)) rfl ?_
   refine Va (Vf rfl (Vd hn rfl) rfl ta_3 rfl) rfl ?_
   refine Vk (Xk rfl Try.call33 (F_lists_In_ok h5 _)) rfl ?_
   refine Va (Zn rfl) rfl ?_
   refine Va (Xy rfl) rfl ?_
   refine Vg ?_
   refine Xj rfl (fun c6 => ?_) (fun c6 => ?_)
   ·have hF := Yl c6 hF
    refine Vi ?_
    refine Ve ?_
    refine Va (Vu (ds := [.int .i64 p1.Time, .vs 1 (List.map (PV.int .i64) p1.States), .vs 1 (List.map (PV.int .i64) p1.Since), .vs 1 (List.map PV.bool p1.Pulled), .vs 1 (List.map PV.bool p1.Held)]) rfl (Vd hn rfl) rfl ta_34 ts_34 rfl rfl rfl) rfl ?_
    refine Vk (Vx (p := .agg [.int .i64 p1.Time, .vs 1 (List.map (PV.int .i64) p1.States), .vs 1 (List.map (PV.int .i64) p1.Since), .vs 1 (List.map PV.bool p1.Pulled), .vs 1 (List.map PV.bool p1.Held)]) (e' := .agg [.int .i64 p1.Time, .vs 1 (List.map (PV.int .i64) p1.States), .vs 1 (List.map (PV.int .i64) p1.Since), .vs 1 (List.map PV.bool p1.Pulled), .vs 1 (List.map PV.bool p1.Held)]) rfl (Vd hn rfl) rfl rfl ts_34 rfl (Yc rfl) rfl (Nat.le_of_ble_eq_true rfl) rfl (Xr hn rfl)) rfl ?_
    refine Va (Xa rfl) rfl ?_
    refine Vg ?_
    refine Xb ?_
    obtain rfl := Option.some.inj hF
    refine Zy ?_
    exact Vv hn [(3, 0)] (by decide) ⟨Yo 0 3 rfl rfl, Vs rfl (.int _ _), trivial⟩ ⟨⟨_, rfl, rfl, .same _ _ _ _ (Xt ⟨Xx ⟨.int _ _, .vs _ _, .vs _ _, .vs _ _, .vs _ _, trivial⟩, trivial⟩)⟩, trivial⟩
   ·have hF := Ym c6 hF
    refine Xq ?_
    refine Vi ?_
    refine Ve ?_
    obtain ⟨x7, h8, hF⟩ := Ys hF
    refine Va (Vu (ds := [.int .i64 p1.Time, .vs 1 (List.map (PV.int .i64) p1.States), .vs 1 (List.map (PV.int .i64) p1.Since), .vs 1 (List.map PV.bool p1.Pulled), .vs 1 (List.map PV.bool p1.Held)]) rfl (Vd hn rfl) rfl ta_34 ts_34 rfl rfl rfl) rfl ?_
    refine Va (rd_makeFn rfl) rfl ?_
    refine Vk (Wc (ps := [((n + 2), ⟨3, 1, [.int .i64 p2], 0⟩), ((n + 0), ⟨27, 1, [.vs 2 (List.map T_Belt.enc p0)], 0⟩)]) (r := .agg [.int .i64 x7.Time, .sl (n + 4) 0 0 (x7.States).length, .sl (n + 5) 0 0 (x7.Since).length, .sl (n + 6) 0 0 (x7.Pulled).length, .vs 1 (List.map PV.bool x7.Held)]) (os := [⟨3, 1, List.map (PV.int .i64) x7.States, 0⟩, ⟨3, 1, List.map (PV.int .i64) x7.Since, 0⟩, ⟨4, 1, List.map PV.bool x7.Pulled, 0⟩]) (low1 := low) (loc1 := [⟨27, 1, [.vs 2 (List.map T_Belt.enc p0)], 0⟩, ⟨34, 5, [.agg [.int .i64 p1.Time, .vs 1 (List.map (PV.int .i64) p1.States), .vs 1 (List.map (PV.int .i64) p1.Since), .vs 1 (List.map PV.bool p1.Pulled), .vs 1 (List.map PV.bool p1.Held)]], 0⟩, ⟨3, 1, [.int .i64 p2], 0⟩, ⟨34, 5, [.agg [.int .i64 0, .nils, .nils, .nils, .nils]], 0⟩]) (loc2 := [⟨27, 1, [.vs 2 (List.map T_Belt.enc p0)], 0⟩, ⟨34, 5, [.agg [.int .i64 p1.Time, .vs 1 (List.map (PV.int .i64) p1.States), .vs 1 (List.map (PV.int .i64) p1.Since), .vs 1 (List.map PV.bool p1.Pulled), .vs 1 (List.map PV.bool p1.Held)]], 0⟩, ⟨3, 1, [.int .i64 p2], 0⟩, ⟨34, 5, [.agg [.int .i64 0, .nils, .nils, .nils, .nils]], 0⟩, ⟨3, 1, List.map (PV.int .i64) x7.States, 0⟩, ⟨3, 1, List.map (PV.int .i64) x7.Since, 0⟩, ⟨4, 1, List.map PV.bool x7.Pulled, 0⟩]) rfl Try.call31 (F_belts_done__belts_Wait_1_ok h8 (nd1 (Zq (Yt rfl) na0) (nd1 na0 nd0)) (Zw hn rfl) (Zw hn rfl) (Xn hn rfl)) (Yx (loc2 := [⟨27, 1, [.vs 2 (List.map T_Belt.enc p0)], 0⟩, ⟨34, 5, [.agg [.int .i64 p1.Time, .vs 1 (List.map (PV.int .i64) p1.States), .vs 1 (List.map (PV.int .i64) p1.Since), .vs 1 (List.map PV.bool p1.Pulled), .vs 1 (List.map PV.bool p1.Held)]], 0⟩, ⟨3, 1, [.int .i64 p2], 0⟩, ⟨34, 5, [.agg [.int .i64 0, .nils, .nils, .nils, .nils]], 0⟩]) hn 2 rfl (Yx (loc2 := [⟨27, 1, [.vs 2 (List.map T_Belt.enc p0)], 0⟩, ⟨34, 5, [.agg [.int .i64 p1.Time, .vs 1 (List.map (PV.int .i64) p1.States), .vs 1 (List.map (PV.int .i64) p1.Since), .vs 1 (List.map PV.bool p1.Pulled), .vs 1 (List.map PV.bool p1.Held)]], 0⟩, ⟨3, 1, [.int .i64 p2], 0⟩, ⟨34, 5, [.agg [.int .i64 0, .nils, .nils, .nils, .nils]], 0⟩]) hn 0 rfl Wl)) rfl) rfl ?_
    refine Vk (Vx (p := .agg [.int .i64 x7.Time, .sl (n + 4) 0 0 (x7.States).length, .sl (n + 5) 0 0 (x7.Since).length, .sl (n + 6) 0 0 (x7.Pulled).length, .vs 1 (List.map PV.bool x7.Held)]) (e' := .agg [.int .i64 x7.Time, .sl (n + 4) 0 0 (x7.States).length, .sl (n + 5) 0 0 (x7.Since).length, .sl (n + 6) 0 0 (x7.Pulled).length, .vs 1 (List.map PV.bool x7.Held)]) rfl (Vd hn rfl) rfl rfl ts_34 rfl (Yc rfl) rfl (Nat.le_of_ble_eq_true rfl) rfl (Xr hn rfl)) rfl ?_
    refine Va (Xa rfl) rfl ?_
    refine Vg ?_
    refine Xb ?_
    obtain rfl := Option.some.inj hF
    refine Zy ?_
    refine Ya.trans (Xp (E' := [(6, .ptr (n + 3) 0 0 0), (7, .int .i64 0)]) (loc1 := [⟨27, 1, [.vs 2 (List.map T_Belt.enc p0)], 0⟩, ⟨34, 5, [.agg [.int .i64 p1.Time, .vs 1 (List.map (PV.int .i64) p1.States), .vs 1 (List.map (PV.int .i64) p1.Since), .vs 1 (List.map PV.bool p1.Pulled), .vs 1 (List.map PV.bool p1.Held)]], 0⟩, ⟨3, 1, [.int .i64 p2], 0⟩, ⟨34, 5, [.agg [.int .i64 x7.Time, .vs 1 (List.map (PV.int .i64) x7.States), .sl (n + 5) 0 0 (x7.Since).length, .sl (n + 6) 0 0 (x7.Pulled).length, .vs 1 (List.map PV.bool x7.Held)]], 0⟩, ⟨3, 1, [], 0 + 1⟩, ⟨3, 1, List.map (PV.int .i64) x7.Since, 0⟩, ⟨4, 1, List.map PV.bool x7.Pulled, 0⟩]) hn 4 rfl (Yh (fun _ => .int _ _)) ⟨Vl rfl, Vl rfl, trivial⟩ ⟨.refl _, .refl _, .refl _, Yq ⟨Vl rfl, Zi rfl rfl rfl (Vy rfl), Vl rfl, Vl rfl, Vl rfl, trivial⟩, .refl _, .refl _, .refl _, trivial⟩) ?_
    refine Ya.trans (Xp (E' := [(6, .ptr (n + 3) 0 0 0), (7, .int .i64 0)]) (loc1 := [⟨27, 1, [.vs 2 (List.map T_Belt.enc p0)], 0⟩, ⟨34, 5, [.agg [.int .i64 p1.Time, .vs 1 (List.map (PV.int .i64) p1.States), .vs 1 (List.map (PV.int .i64) p1.Since), .vs 1 (List.map PV.bool p1.Pulled), .vs 1 (List.map PV.bool p1.Held)]], 0⟩, ⟨3, 1, [.int .i64 p2], 0⟩, ⟨34, 5, [.agg [.int .i64 x7.Time, .vs 1 (List.map (PV.int .i64) x7.States), .vs 1 (List.map (PV.int .i64) x7.Since), .sl (n + 6) 0 0 (x7.Pulled).length, .vs 1 (List.map PV.bool x7.Held)]], 0⟩, ⟨3, 1, [], 0 + 1⟩, ⟨3, 1, [], 0 + 1⟩, ⟨4, 1, List.map PV.bool x7.Pulled, 0⟩]) hn 5 rfl (Yh (fun _ => .int _ _)) ⟨Vl rfl, Vl rfl, trivial⟩ ⟨.refl _, .refl _, .refl _, Yq ⟨Vl rfl, Vl rfl, Zi rfl rfl rfl (Vy rfl), Vl rfl, Vl rfl, trivial⟩, .refl _, .refl _, .refl _, trivial⟩) ?_
    refine Ya.trans (Xp (E' := [(6, .ptr (n + 3) 0 0 0), (7, .int .i64 0)]) (loc1 := [⟨27, 1, [.vs 2 (List.map T_Belt.enc p0)], 0⟩, ⟨34, 5, [.agg [.int .i64 p1.Time, .vs 1 (List.map (PV.int .i64) p1.States), .vs 1 (List.map (PV.int .i64) p1.Since), .vs 1 (List.map PV.bool p1.Pulled), .vs 1 (List.map PV.bool p1.Held)]], 0⟩, ⟨3, 1, [.int .i64 p2], 0⟩, ⟨34, 5, [.agg [.int .i64 x7.Time, .vs 1 (List.map (PV.int .i64) x7.States), .vs 1 (List.map (PV.int .i64) x7.Since), .vs 1 (List.map PV.bool x7.Pulled), .vs 1 (List.map PV.bool x7.Held)]], 0⟩, ⟨3, 1, [], 0 + 1⟩, ⟨3, 1, [], 0 + 1⟩, ⟨4, 1, [], 0 + 1⟩]) hn 6 rfl (Yh (fun _ => .bool _)) ⟨Vl rfl, Vl rfl, trivial⟩ ⟨.refl _, .refl _, .refl _, Yq ⟨Vl rfl, Vl rfl, Vl rfl, Zi rfl rfl rfl (Vy rfl), Vl rfl, trivial⟩, .refl _, .refl _, .refl _, trivial⟩) ?_
    exact Vv hn [(3, 0)] (by decide) ⟨Yo 0 3 rfl rfl, Vs rfl (.int _ _), trivial⟩ ⟨⟨_, rfl, rfl, .same _ _ _ _ (Xt ⟨Xx ⟨.int _ _, .vs _ _, .vs _ _, .vs _ _, .vs _ _, trivial⟩, trivial⟩)⟩, trivial⟩
 ·rintro _ _ _ _ ⟨he, hw⟩
  refine ⟨_, _, _, hw, ?_⟩
  exact Zj hn 0 rfl (Nat.le_of_ble_eq_true rfl) he [.agg [.int .i64 r.1.Time, .vs 1 (List.map (PV.int .i64) r.1.States), .vs 1 (List.map (PV.int .i64) r.1.Since), .vs 1 (List.map PV.bool r.1.Pulled), .vs 1 (List.map PV.bool r.1.Held)], .int .i64 r.2] ⟨Vu rfl (Vd hn rfl) rfl ta_34 ts_34 rfl rfl rfl, rfl, trivial⟩ ((lt_tup ⟨(Xx ⟨.int _ _, .vs _ _, .vs _ _, .vs _ _, .vs _ _, trivial⟩), .int _ _, trivial⟩)) trivial ⟨rfl, rfl⟩

theorem F_belts_throws_ok {p0 : List T_Belt} {p1 : Int} {p2 : Int} {r : Bool} (hF : F_belts_throws p0 p1 p2 = some r) (low : List AObj) :
    Yv Try.prog 39 [.vs 2 (List.map T_Belt.enc p0), .int .i64 p1, .int .i64 p2] low fun x low' => x = .bool r ∧ low' = low := by
 refine Xc (nt := 23) (rs := [.tmp 6]) Try.func39 rfl rfl (Nat.le_of_ble_eq_true rfl) rfl ?_
 refine Vw (Q' := FnE (fun E' lw lc => Ya E' lw lc [(6, .bool r)] low [])) ?_ ?_
 ·unfold F_belts_throws at hF
  refine Vi ?_
  refine Ve ?_
  refine Va (Xy rfl) rfl ?_
  refine Vg ?_
  refine Vi ?_
  refine Vi ?_
  refine Ve ?_
  obtain ⟨x1, h2, hF⟩ := Ys hF
  refine Va (Xd rfl) rfl ?_
  refine Va (Vj rfl) rfl ?_
  refine Va (Xi (Yj rfl rfl h2 te_27 ts_31) (v' := .vptr [.int .i64 x1.Onto, .int .i64 x1.Warn] 0) rfl) rfl ?_
  refine Va (Yb rfl tf_31_0 ts_3 (by decide)) rfl ?_
  refine Va (Xg rfl ta_3 rfl) rfl ?_
  refine Va (Xa rfl) rfl ?_
  refine Vg ?_
  refine Yk ?_
  obtain ⟨o4, ho4, hF⟩ := Ys hF
  refine Vw (Zu (F_belts_throws_L1 p0 p2) (fun s3 E' lw lc => Ya E' lw lc [(0, .vs 2 (List.map T_Belt.enc p0)), (2, .int .i64 p2), (7, .int .i64 s3)] low []) (Sum.elim (fun j5 => OnlyE .ret (fun E' lw lc => Ya E' lw lc [(6, .bool true)] low [])) (fun j6 => OnlyE (.exit 0) (fun E' lw lc => Ya E' lw lc [] low []))) ho4 ?_ (by rintro (_|_) _ _ _ ⟨h, _⟩ <;> cases h) ?_) ?_
  ·exact Vq ⟨rfl, rfl, rfl, trivial⟩
  ·rintro s3 os3 _ _ _ hF hw
   unfold F_belts_throws_L1 at hF
   refine Ye hw ?_
   refine Vi ?_
   refine Vi ?_
   refine Ve ?_
   refine Va (Vj rfl) rfl ?_
   refine Va (rd_geq rfl rfl) rfl ?_
   refine Vg ?_
   refine Xj rfl (fun c7 => ?_) (fun c7 => ?_)
   ·have hF := Yl c7 hF
    refine Xq ?_
    refine Vi ?_
    refine Yk ?_
    refine Vi ?_
    refine Ve ?_
    refine Va (Vj rfl) rfl ?_
    refine Va (Vj rfl) rfl ?_
    refine Va (Xm rfl rfl) rfl ?_
    refine Vg ?_
    refine Xj rfl (fun c8 => ?_) (fun c8 => ?_)
    ·have hF := Yl c8 hF
     refine Vi ?_
     refine Ve ?_
     refine Va (Xy rfl) rfl ?_
     refine Vg ?_
     refine Xb ?_
     obtain rfl := Option.some.inj hF
     refine Xv ?_
     exact Vq ⟨rfl, trivial⟩
    ·have hF := Ym c8 hF
     refine Xq ?_
     refine Ve ?_
     obtain ⟨x9, h10, hF⟩ := Ys hF
     refine Va (Xd rfl) rfl ?_
     refine Va (Vj rfl) rfl ?_
     refine Va (Xi (Yj rfl rfl h10 te_27 ts_31) (v' := .vptr [.int .i64 x9.Onto, .int .i64 x9.Warn] 0) rfl) rfl ?_
     refine Va (Yb rfl tf_31_0 ts_3 (by decide)) rfl ?_
     refine Va (Xg rfl ta_3 rfl) rfl ?_
     refine Va (Xa rfl) rfl ?_
     refine Vg ?_
     obtain rfl := Option.some.inj hF
     refine Xv ?_
     exact Vq ⟨rfl, rfl, rfl, trivial⟩
   ·have hF := Ym c7 hF
    refine We ?_
    obtain rfl := Option.some.inj hF
    refine Xv ?_
    exact Vq trivial
  ·rcases o4 with j5 | j6
   ·replace hF := elimL hF
    rintro _ _ _ _ ⟨rfl, hw⟩
    refine ⟨_, _, _, hw, ?_⟩
    obtain rfl := Option.some.inj hF
    refine Zy ?_
    exact Vq ⟨rfl, trivial⟩
   ·replace hF := elimR hF
    rintro _ _ _ _ ⟨rfl, hw⟩
    refine ⟨_, _, _, hw, ?_⟩
    refine Vi ?_
    refine Ve ?_
    refine Va (Xy rfl) rfl ?_
    refine Vg ?_
    refine Xb ?_
    obtain rfl := Option.some.inj hF
    refine Zy ?_
    exact Vq ⟨rfl, trivial⟩
 ·rintro _ _ _ _ ⟨he, hw⟩
  refine ⟨_, _, _, hw, ?_⟩
  exact Ze he [.bool r] ⟨rfl, trivial⟩ (.bool _) ⟨rfl, rfl⟩

end Go.Proofs.Ytmomjhbinkmefaa
