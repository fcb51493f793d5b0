/- Printed by wip/lift/lift.py: the walks that show that the program computes them. -/
import Derived.Test.YtmomjhbinkmefaaL39BeltsMadeW4
namespace Go.Proofs.Ytmomjhbinkmefaa
open Go Go.Aml Go.L
attribute [local irreducible] VRd VEf VOp VOps VWp DOps
set_option linter.unusedVariables false
open Go.Aml renaming vops_rd → Va, vops_skip → Vb, rd_fieldAddr → Vc, vwp_region → Vd, getO_N → Ve, vops_nil → Vf, rd_load1 → Vg, ltObj_map → Vh, vwp_seq → Vi, vops_efE → Vj, rd_mvI → Vk, cv_same → Vl, rd_mvB → Vm, rd_pickF → Vn, rd_pickT → Vo, weak_sub → Vp, dops_skip → Vq, rn_low → Vr, lenS → Vs, weak_pick → Vt, vef_into → Vu, rd_loadN → Vv, vwp_monoW → Vw, full_take → Vx, vef_store → Vy, vcalls_of_body → Vz, rd_asI → Xa, vwp_ret → Xb, rd_mvV → Xc, vt1 → Xd, vef_allocN → Xe, VRd → Xf, vef_callN → Xg, vwp_cond → Xh, len_app → Xi, rd_loadV1 → Xj, rd_to → Xk, rd_eql → Xl, weak_freezeN → Xm, vwp_skip → Xn, len_setL → Xo, vef_callP → Xp, rn_sl → Xq, setO_N → Xr, rx1 → Xs, ltObj_es → Xt, rd_extract → Xu, rd_lenV → Xv, lt_agg → Xw, all1 → Xx, onlyE → Xy, rd_asB → Xz, lt_map → Ya, Weak → Yb, dopx_rd → Yc, vwp_weak → Yd, nt_ne → Ye, rd_fieldVaddr → Yf, dops_skipX → Yg, vwp_block → Yh, dops_rdW → Yi, rn_ptr → Yj, mv_sl → Yk, rd_ixV → Yl, dr1 → Ym, vef_mkN → Yn, bifT → Yo, bifF → Yp, sets_own → Yq, cvo_agg → Yr, VCalls → Ys, bnd → Yt, allx1 → Yu, ne_low' → Yv, getO_B → Yw, ne_own → Yx, weak_room → Yy, dops_nil → Yz, view_same → Za, getI_some → Zb, vef_boxN → Zc, bodyQ_pure → Zd, rd_neq → Ze, dopx_ef → Zf, vef_callS → Zg, dops_ef → Zh, view_sl → Zi, cv_sl → Zj, vwp_drawn0 → Zk, sets_nil → Zl, bodyQ_some → Zm, all0 → Zn, neT → Zo, rd_not → Zp, rd_mvP → Zq, rd_lss → Zr, na1 → Zs, get_N → Zt, dt1 → Zu, rd_nilPtr → Zv, lt_kk → Zw, vcalls_low → Zx, ex1 → Zy, neF → Zz, rd_ixS → Wa, vwp_loopC → Wb, vwp_drawn → Wc, sets_B → Wd, bor_start → We, borC → Wf, fnR → Wg, rd_build → Wh, vwp_exit → Wi, mv_ptr → Wj, rd_add → Wk, vef_stL → Wl, lp_some → Wm, lp_bindE → Wn, nt_all2 → Wo, get_B → Wp
open List renaming map → Wq
open Go.Aml.PV renaming int → Wr
open Go.Aml.PV renaming bool → Ws
open Option.some renaming inj → Wt
open Nat renaming le_of_ble_eq_true → Wu
open Nat renaming succ_pos → Wv
open Bool renaming eq_false_or_eq_true → Ww
open List renaming length_map → Wx
set_option maxHeartbeats 4000000

theorem F_ref39_Same_ok {p0 : T_Line} {p1 : T_Line} {r : Bool} (hF : F_ref39_Same p0 p1 = some r) (low : List AObj) :
    Ys Try.prog 40 [.agg [.int .i64 p0.Time, .vs 1 (Wq (Wr .i64) p0.States), .vs 1 (Wq (Wr .i64) p0.Since), .vs 1 (Wq Ws p0.Pulled), .vs 1 (Wq Ws p0.Held)], .agg [.int .i64 p1.Time, .vs 1 (Wq (Wr .i64) p1.States), .vs 1 (Wq (Wr .i64) p1.Since), .vs 1 (Wq Ws p1.Pulled), .vs 1 (Wq Ws p1.Held)]] low fun x low' => x = .bool r ∧ low' = low := by
 refine Vz (nt := 38) (rs := [.tmp 4]) Try.func40 rfl rfl (Wu rfl) rfl ?_
 refine Vw (Q' := FnE (fun E' lw lc => Yb E' lw lc [(4, .bool r)] low [])) ?_ ?_
 ·unfold F_ref39_Same at hF
  refine Vi ?_
  refine Vd ?_
  refine Vj (Zc rfl rfl (v := .agg [.int .i64 p0.Time, .vs 1 (Wq (Wr .i64) p0.States), .vs 1 (Wq (Wr .i64) p0.Since), .vs 1 (Wq Ws p0.Pulled), .vs 1 (Wq Ws p0.Held)]) rfl rfl (Wv _) rfl rfl) rfl ?_
  refine Vj (Zc rfl rfl (v := .agg [.int .i64 p1.Time, .vs 1 (Wq (Wr .i64) p1.States), .vs 1 (Wq (Wr .i64) p1.Since), .vs 1 (Wq Ws p1.Pulled), .vs 1 (Wq Ws p1.Held)]) rfl rfl (Wv _) rfl rfl) rfl ?_
  refine Va (Xz rfl) rfl ?_
  refine Vf ?_
  refine Vi ?_
  refine Vd ?_
  rcases Ww (decide (p0.Time = p1.Time)) with c1 | c1
  ·have hF := Yo c1 hF
   obtain ⟨x2, h3, hF⟩ := Yt hF
   rcases Ww x2 with c4 | c4
   ·have hF := Yo c4 hF
    obtain ⟨x5, h6, hF⟩ := Yt hF
    rcases Ww x5 with c7 | c7
    ·have hF := Yo c7 hF
     obtain ⟨x8, h9, hF⟩ := Yt hF
     rcases Ww x8 with c10 | c10
     ·have hF := Yo c10 hF
      obtain ⟨x11, h12, hF⟩ := Yt hF
      refine Va (Vc rfl tf_34_0 ts_3 (by decide)) rfl ?_
      refine Va (Vg rfl (Ve rfl rfl) rfl ta_3 rfl) rfl ?_
      refine Va (Vc rfl tf_34_0 ts_3 (by decide)) rfl ?_
      refine Va (Vg rfl (Ve rfl rfl) rfl ta_3 rfl) rfl ?_
      refine Va (Xl rfl rfl) rfl ?_
      refine Va (Vm rfl) rfl ?_
      refine Xd rfl rfl c1 ?_
      refine Va (Vc rfl tf_34_1 ts_22 (by decide)) rfl ?_
      refine Xd rfl rfl c1 ?_
      refine Va (Vg rfl (Ve rfl rfl) rfl ta_22 rfl) rfl ?_
      refine Xd rfl rfl c1 ?_
      refine Va (Vc rfl tf_34_1 ts_22 (by decide)) rfl ?_
      refine Xd rfl rfl c1 ?_
      refine Va (Vg rfl (Ve rfl rfl) rfl ta_22 rfl) rfl ?_
      refine Xd rfl rfl c1 ?_
      refine Vj (Xp rfl Try.call42 (F_ref23_SameInts_ok h3 _)) rfl ?_
      refine Va (Vo (congrArg Ws c1) rfl) rfl ?_
      refine Va (Vm rfl) rfl ?_
      refine Xd rfl rfl c4 ?_
      refine Va (Vc rfl tf_34_2 ts_22 (by decide)) rfl ?_
      refine Xd rfl rfl c4 ?_
      refine Va (Vg rfl (Ve rfl rfl) rfl ta_22 rfl) rfl ?_
      refine Xd rfl rfl c4 ?_
      refine Va (Vc rfl tf_34_2 ts_22 (by decide)) rfl ?_
      refine Xd rfl rfl c4 ?_
      refine Va (Vg rfl (Ve rfl rfl) rfl ta_22 rfl) rfl ?_
      refine Xd rfl rfl c4 ?_
      refine Vj (Xp rfl Try.call42 (F_ref23_SameInts_ok h6 _)) rfl ?_
      refine Va (Vo (congrArg Ws c4) rfl) rfl ?_
      refine Va (Vm rfl) rfl ?_
      refine Xd rfl rfl c7 ?_
      refine Va (Vc rfl tf_34_3 ts_32 (by decide)) rfl ?_
      refine Xd rfl rfl c7 ?_
      refine Va (Vg rfl (Ve rfl rfl) rfl ta_32 rfl) rfl ?_
      refine Xd rfl rfl c7 ?_
      refine Va (Vc rfl tf_34_3 ts_32 (by decide)) rfl ?_
      refine Xd rfl rfl c7 ?_
      refine Va (Vg rfl (Ve rfl rfl) rfl ta_32 rfl) rfl ?_
      refine Xd rfl rfl c7 ?_
      refine Vj (Xp rfl Try.call56 (F_ref39_sameBools_ok h9 _)) rfl ?_
      refine Va (Vo (congrArg Ws c7) rfl) rfl ?_
      refine Va (Vm rfl) rfl ?_
      refine Xd rfl rfl c10 ?_
      refine Va (Vc rfl tf_34_4 ts_32 (by decide)) rfl ?_
      refine Xd rfl rfl c10 ?_
      refine Va (Vg rfl (Ve rfl rfl) rfl ta_32 rfl) rfl ?_
      refine Xd rfl rfl c10 ?_
      refine Va (Vc rfl tf_34_4 ts_32 (by decide)) rfl ?_
      refine Xd rfl rfl c10 ?_
      refine Va (Vg rfl (Ve rfl rfl) rfl ta_32 rfl) rfl ?_
      refine Xd rfl rfl c10 ?_
      refine Vj (Xp rfl Try.call56 (F_ref39_sameBools_ok h12 _)) rfl ?_
      refine Va (Vo (congrArg Ws c10) rfl) rfl ?_
      refine Va (Xz rfl) rfl ?_
      refine Vf ?_
      refine Xb ?_
      obtain rfl := Wt hF
      refine Wg ?_
      exact Vt rfl [] (by decide) ⟨Vr rfl (.bool _), trivial⟩ trivial
     ·have hF := Yp c10 hF
      refine Va (Vc rfl tf_34_0 ts_3 (by decide)) rfl ?_
      refine Va (Vg rfl (Ve rfl rfl) rfl ta_3 rfl) rfl ?_
      refine Va (Vc rfl tf_34_0 ts_3 (by decide)) rfl ?_
      refine Va (Vg rfl (Ve rfl rfl) rfl ta_3 rfl) rfl ?_
      refine Va (Xl rfl rfl) rfl ?_
      refine Va (Vm rfl) rfl ?_
      refine Xd rfl rfl c1 ?_
      refine Va (Vc rfl tf_34_1 ts_22 (by decide)) rfl ?_
      refine Xd rfl rfl c1 ?_
      refine Va (Vg rfl (Ve rfl rfl) rfl ta_22 rfl) rfl ?_
      refine Xd rfl rfl c1 ?_
      refine Va (Vc rfl tf_34_1 ts_22 (by decide)) rfl ?_
      refine Xd rfl rfl c1 ?_
      refine Va (Vg rfl (Ve rfl rfl) rfl ta_22 rfl) rfl ?_
      refine Xd rfl rfl c1 ?_
      refine Vj (Xp rfl Try.call42 (F_ref23_SameInts_ok h3 _)) rfl ?_
      refine Va (Vo (congrArg Ws c1) rfl) rfl ?_
      refine Va (Vm rfl) rfl ?_
      refine Xd rfl rfl c4 ?_
      refine Va (Vc rfl tf_34_2 ts_22 (by decide)) rfl ?_
      refine Xd rfl rfl c4 ?_
      refine Va (Vg rfl (Ve rfl rfl) rfl ta_22 rfl) rfl ?_
      refine Xd rfl rfl c4 ?_
      refine Va (Vc rfl tf_34_2 ts_22 (by decide)) rfl ?_
      refine Xd rfl rfl c4 ?_
      refine Va (Vg rfl (Ve rfl rfl) rfl ta_22 rfl) rfl ?_
      refine Xd rfl rfl c4 ?_
      refine Vj (Xp rfl Try.call42 (F_ref23_SameInts_ok h6 _)) rfl ?_
      refine Va (Vo (congrArg Ws c4) rfl) rfl ?_
      refine Va (Vm rfl) rfl ?_
      refine Xd rfl rfl c7 ?_
      refine Va (Vc rfl tf_34_3 ts_32 (by decide)) rfl ?_
      refine Xd rfl rfl c7 ?_
      refine Va (Vg rfl (Ve rfl rfl) rfl ta_32 rfl) rfl ?_
      refine Xd rfl rfl c7 ?_
      refine Va (Vc rfl tf_34_3 ts_32 (by decide)) rfl ?_
      refine Xd rfl rfl c7 ?_
      refine Va (Vg rfl (Ve rfl rfl) rfl ta_32 rfl) rfl ?_
      refine Xd rfl rfl c7 ?_
      refine Vj (Xp rfl Try.call56 (F_ref39_sameBools_ok h9 _)) rfl ?_
      refine Va (Vo (congrArg Ws c7) rfl) rfl ?_
      refine Va (Vm rfl) rfl ?_
      refine Vb rfl rfl (Zz c10) rfl ?_
      refine Vb rfl rfl (Zz c10) rfl ?_
      refine Vb rfl rfl (Zz c10) rfl ?_
      refine Vb rfl rfl (Zz c10) rfl ?_
      refine Vb rfl rfl (Zz c10) rfl ?_
      refine Va (Vn (congrArg Ws c10) rfl) rfl ?_
      refine Va (Xz rfl) rfl ?_
      refine Vf ?_
      refine Xb ?_
      obtain rfl := Wt hF
      refine Wg ?_
      exact Vt rfl [] (by decide) ⟨Vr rfl (.bool _), trivial⟩ trivial
    ·have hF := Yp c7 hF
     refine Va (Vc rfl tf_34_0 ts_3 (by decide)) rfl ?_
     refine Va (Vg rfl (Ve rfl rfl) rfl ta_3 rfl) rfl ?_
     refine Va (Vc rfl tf_34_0 ts_3 (by decide)) rfl ?_
     refine Va (Vg rfl (Ve rfl rfl) rfl ta_3 rfl) rfl ?_
     refine Va (Xl rfl rfl) rfl ?_
     refine Va (Vm rfl) rfl ?_
     refine Xd rfl rfl c1 ?_
     refine Va (Vc rfl tf_34_1 ts_22 (by decide)) rfl ?_
     refine Xd rfl rfl c1 ?_
     refine Va (Vg rfl (Ve rfl rfl) rfl ta_22 rfl) rfl ?_
     refine Xd rfl rfl c1 ?_
     refine Va (Vc rfl tf_34_1 ts_22 (by decide)) rfl ?_
     refine Xd rfl rfl c1 ?_
     refine Va (Vg rfl (Ve rfl rfl) rfl ta_22 rfl) rfl ?_
     refine Xd rfl rfl c1 ?_
     refine Vj (Xp rfl Try.call42 (F_ref23_SameInts_ok h3 _)) rfl ?_
     refine Va (Vo (congrArg Ws c1) rfl) rfl ?_
     refine Va (Vm rfl) rfl ?_
     refine Xd rfl rfl c4 ?_
     refine Va (Vc rfl tf_34_2 ts_22 (by decide)) rfl ?_
     refine Xd rfl rfl c4 ?_
     refine Va (Vg rfl (Ve rfl rfl) rfl ta_22 rfl) rfl ?_
     refine Xd rfl rfl c4 ?_
     refine Va (Vc rfl tf_34_2 ts_22 (by decide)) rfl ?_
     refine Xd rfl rfl c4 ?_
     refine Va (Vg rfl (Ve rfl rfl) rfl ta_22 rfl) rfl ?_
     refine Xd rfl rfl c4 ?_
     refine Vj (Xp rfl Try.call42 (F_ref23_SameInts_ok h6 _)) rfl ?_
     refine Va (Vo (congrArg Ws c4) rfl) rfl ?_
     refine Va (Vm rfl) rfl ?_
     refine Vb rfl rfl (Zz c7) rfl ?_
     refine Vb rfl rfl (Zz c7) rfl ?_
     refine Vb rfl rfl (Zz c7) rfl ?_
     refine Vb rfl rfl (Zz c7) rfl ?_
     refine Vb rfl rfl (Zz c7) rfl ?_
     refine Va (Vn (congrArg Ws c7) rfl) rfl ?_
     refine Va (Vm rfl) rfl ?_
     refine Vb rfl rfl (by decide) rfl ?_
     refine Vb rfl rfl (by decide) rfl ?_
     refine Vb rfl rfl (by decide) rfl ?_
     refine Vb rfl rfl (by decide) rfl ?_
     refine Vb rfl rfl (by decide) rfl ?_
     refine Va (Vn rfl rfl) rfl ?_
     refine Va (Xz rfl) rfl ?_
     refine Vf ?_
     refine Xb ?_
     obtain rfl := Wt hF
     refine Wg ?_
     exact Vt rfl [] (by decide) ⟨Vr rfl (.bool _), trivial⟩ trivial
   ·have hF := Yp c4 hF
    refine Va (Vc rfl tf_34_0 ts_3 (by decide)) rfl ?_
    refine Va (Vg rfl (Ve rfl rfl) rfl ta_3 rfl) rfl ?_
    refine Va (Vc rfl tf_34_0 ts_3 (by decide)) rfl ?_
    refine Va (Vg rfl (Ve rfl rfl) rfl ta_3 rfl) rfl ?_
    refine Va (Xl rfl rfl) rfl ?_
    refine Va (Vm rfl) rfl ?_
    refine Xd rfl rfl c1 ?_
    refine Va (Vc rfl tf_34_1 ts_22 (by decide)) rfl ?_
    refine Xd rfl rfl c1 ?_
    refine Va (Vg rfl (Ve rfl rfl) rfl ta_22 rfl) rfl ?_
    refine Xd rfl rfl c1 ?_
    refine Va (Vc rfl tf_34_1 ts_22 (by decide)) rfl ?_
    refine Xd rfl rfl c1 ?_
    refine Va (Vg rfl (Ve rfl rfl) rfl ta_22 rfl) rfl ?_
    refine Xd rfl rfl c1 ?_
    refine Vj (Xp rfl Try.call42 (F_ref23_SameInts_ok h3 _)) rfl ?_
    refine Va (Vo (congrArg Ws c1) rfl) rfl ?_
    refine Va (Vm rfl) rfl ?_
    refine Vb rfl rfl (Zz c4) rfl ?_
    refine Vb rfl rfl (Zz c4) rfl ?_
    refine Vb rfl rfl (Zz c4) rfl ?_
    refine Vb rfl rfl (Zz c4) rfl ?_
    refine Vb rfl rfl (Zz c4) rfl ?_
    refine Va (Vn (congrArg Ws c4) rfl) rfl ?_
    refine Va (Vm rfl) rfl ?_
    refine Vb rfl rfl (by decide) rfl ?_
    refine Vb rfl rfl (by decide) rfl ?_
    refine Vb rfl rfl (by decide) rfl ?_
    refine Vb rfl rfl (by decide) rfl ?_
    refine Vb rfl rfl (by decide) rfl ?_
    refine Va (Vn rfl rfl) rfl ?_
    refine Va (Vm rfl) rfl ?_
    refine Vb rfl rfl (by decide) rfl ?_
    refine Vb rfl rfl (by decide) rfl ?_
    refine Vb rfl rfl (by decide) rfl ?_
    refine Vb rfl rfl (by decide) rfl ?_
    refine Vb rfl rfl (by decide) rfl ?_
    refine Va (Vn rfl rfl) rfl ?_
    refine Va (Xz rfl) rfl ?_
    refine Vf ?_
    refine Xb ?_
    obtain rfl := Wt hF
    refine Wg ?_
    exact Vt rfl [] (by decide) ⟨Vr rfl (.bool _), trivial⟩ trivial
  ·have hF := Yp c1 hF
   refine Va (Vc rfl tf_34_0 ts_3 (by decide)) rfl ?_
   refine Va (Vg rfl (Ve rfl rfl) rfl ta_3 rfl) rfl ?_
   refine Va (Vc rfl tf_34_0 ts_3 (by decide)) rfl ?_
   refine Va (Vg rfl (Ve rfl rfl) rfl ta_3 rfl) rfl ?_
   refine Va (Xl rfl rfl) rfl ?_
   refine Va (Vm rfl) rfl ?_
   refine Vb rfl rfl (Zz c1) rfl ?_
   refine Vb rfl rfl (Zz c1) rfl ?_
   refine Vb rfl rfl (Zz c1) rfl ?_
   refine Vb rfl rfl (Zz c1) rfl ?_
   refine Vb rfl rfl (Zz c1) rfl ?_
   refine Va (Vn (congrArg Ws c1) rfl) rfl ?_
   refine Va (Vm rfl) rfl ?_
   refine Vb rfl rfl (by decide) rfl ?_
   refine Vb rfl rfl (by decide) rfl ?_
   refine Vb rfl rfl (by decide) rfl ?_
   refine Vb rfl rfl (by decide) rfl ?_
   refine Vb rfl rfl (by decide) rfl ?_
   refine Va (Vn rfl rfl) rfl ?_
   refine Va (Vm rfl) rfl ?_
   refine Vb rfl rfl (by decide) rfl ?_
   refine Vb rfl rfl (by decide) rfl ?_
   refine Vb rfl rfl (by decide) rfl ?_
   refine Vb rfl rfl (by decide) rfl ?_
   refine Vb rfl rfl (by decide) rfl ?_
   refine Va (Vn rfl rfl) rfl ?_
   refine Va (Vm rfl) rfl ?_
   refine Vb rfl rfl (by decide) rfl ?_
   refine Vb rfl rfl (by decide) rfl ?_
   refine Vb rfl rfl (by decide) rfl ?_
   refine Vb rfl rfl (by decide) rfl ?_
   refine Vb rfl rfl (by decide) rfl ?_
   refine Va (Vn rfl rfl) rfl ?_
   refine Va (Xz rfl) rfl ?_
   refine Vf ?_
   refine Xb ?_
   obtain rfl := Wt hF
   refine Wg ?_
   exact Vt rfl [] (by decide) ⟨Vr rfl (.bool _), trivial⟩ trivial
 ·rintro _ _ _ _ ⟨he, hw⟩
  refine ⟨_, _, _, hw, ?_⟩
  exact Zd he [.bool r] ⟨rfl, trivial⟩ (.bool _) ⟨rfl, rfl⟩

theorem F_ref39_Make_ok {p0 : List T_Belt} {r : T_Line × Int} (hF : F_ref39_Make p0 = some r) (low : List AObj) {n : Nat} (hn : low.length = n) :
    Ys Try.prog 21 [.vs 2 (Wq T_Belt.enc p0)] low fun x low' => x = .tup [.agg [.int .i64 r.1.Time, .sl (n + 0) 0 0 (r.1.States).length, .sl (n + 1) 0 0 (r.1.Since).length, .sl (n + 2) 0 0 (r.1.Pulled).length, .vs 1 (Wq Ws r.1.Held)], .int .i64 r.2] ∧ low' = low ++ [⟨3, 1, Wq (Wr .i64) r.1.States, 0⟩, ⟨3, 1, Wq (Wr .i64) r.1.Since, 0⟩, ⟨4, 1, Wq Ws r.1.Pulled, 0⟩] := by
 refine Vz (nt := 20) (rs := [.cell 2 34, .tmp 3]) Try.func21 rfl rfl (Wu rfl) rfl ?_
 refine Vw (Q' := FnE (fun E' lw lc => Yb E' lw lc [(2, .ptr (n + 3) 0 0 0), (3, .int .i64 r.2)] low [⟨3, 1, Wq (Wr .i64) r.1.States, 0⟩, ⟨3, 1, Wq (Wr .i64) r.1.Since, 0⟩, ⟨4, 1, Wq Ws r.1.Pulled, 0⟩, ⟨34, 5, [.agg [.int .i64 r.1.Time, .sl (n + 0) 0 0 (r.1.States).length, .sl (n + 1) 0 0 (r.1.Since).length, .sl (n + 2) 0 0 (r.1.Pulled).length, .vs 1 (Wq Ws r.1.Held)]], 0⟩])) ?_ ?_
 ·unfold F_ref39_Make at hF
  refine Vi ?_
  refine Vd ?_
  refine Vj (Xe hn rfl tz_34 rfl rfl (Wv _) rfl) rfl ?_
  refine Va (Xa rfl) rfl ?_
  refine Vf ?_
  refine Vi ?_
  refine Vi ?_
  refine Vd ?_
  obtain ⟨x1, h2, hF⟩ := Yt hF
  refine Va (Xc rfl) rfl ?_
  refine Vj (Xp rfl Try.call44 (F_ref39_belts_ok h2 _)) rfl ?_
  refine Va (Zp rfl) rfl ?_
  refine Vf ?_
  refine Xh rfl (fun c3 => ?_) (fun c3 => ?_)
  ·have hF := Yo c3 hF
   refine Vi ?_
   refine Vd ?_
   refine Va (rd_nc (Wh (vs := []) (ds := [.int .i64 0, .nils, .nils, .nils, .nils]) tz_34 rfl rfl tp_34 trivial (Wo rfl) rfl) (nc_agg (cs := [.int .i64 0, .nils, .nils, .nils, .nils]) (ds := [.int .i64 0, .nils, .nils, .nils, .vs 1 (Wq Ws ([] : List Bool))]) rfl rfl ⟨nc_eq rfl, nc_eq rfl, nc_eq rfl, nc_eq rfl, nc_nil rfl rfl, trivial⟩)) rfl ?_
   refine Vj (Vy (p := .agg [.int .i64 0, .nils, .nils, .nils, .vs 1 (Wq Ws ([] : List Bool))]) (e' := .agg [.int .i64 0, .nils, .nils, .nils, .vs 1 (Wq Ws ([] : List Bool))]) rfl (Ve hn rfl) rfl rfl ts_34 rfl (Ye rfl) rfl (Wu rfl) rfl (Xr hn rfl)) rfl ?_
   refine Va (Xa rfl) rfl ?_
   refine Vf ?_
   refine Xb ?_
   obtain rfl := Wt hF
   refine Wg ?_
   refine Weak.trans (weak_nil (E' := [(2, .ptr (n + 0) 0 0 0), (3, .int .i64 6)]) (loc1 := [⟨34, 5, [.agg [.int .i64 0, .sl (n + 1) 0 0 (([] : List Int)).length, .nils, .nils, .vs 1 (Wq Ws ([] : List Bool))]], 0⟩]) hn rfl 3 1 (Wv _) ⟨nn_same rfl, nn_same rfl, trivial⟩ ⟨.agg _ _ _ _ _ ⟨nn_same rfl, nn_nil rfl, nn_same rfl, nn_same rfl, nn_same rfl, trivial⟩, trivial⟩) ?_
   refine Weak.trans (weak_nil (E' := [(2, .ptr (n + 0) 0 0 0), (3, .int .i64 6)]) (loc1 := [⟨34, 5, [.agg [.int .i64 0, .sl (n + 1) 0 0 (([] : List Int)).length, .sl (n + 2) 0 0 (([] : List Int)).length, .nils, .vs 1 (Wq Ws ([] : List Bool))]], 0⟩, ⟨3, 1, Wq (Wr .i64) ([] : List Int), 0⟩]) hn rfl 3 1 (Wv _) ⟨nn_same rfl, nn_same rfl, trivial⟩ ⟨.agg _ _ _ _ _ ⟨nn_same rfl, nn_same rfl, nn_nil rfl, nn_same rfl, nn_same rfl, trivial⟩, .same _, trivial⟩) ?_
   refine Weak.trans (weak_nil (E' := [(2, .ptr (n + 0) 0 0 0), (3, .int .i64 6)]) (loc1 := [⟨34, 5, [.agg [.int .i64 0, .sl (n + 1) 0 0 (([] : List Int)).length, .sl (n + 2) 0 0 (([] : List Int)).length, .sl (n + 3) 0 0 (([] : List Bool)).length, .vs 1 (Wq Ws ([] : List Bool))]], 0⟩, ⟨3, 1, Wq (Wr .i64) ([] : List Int), 0⟩, ⟨3, 1, Wq (Wr .i64) ([] : List Int), 0⟩]) hn rfl 4 1 (Wv _) ⟨nn_same rfl, nn_same rfl, trivial⟩ ⟨.agg _ _ _ _ _ ⟨nn_same rfl, nn_same rfl, nn_same rfl, nn_nil rfl, nn_same rfl, trivial⟩, .same _, .same _, trivial⟩) ?_
   exact Vt hn [(1, 0), (2, 0), (3, 0), (0, 0)] (by decide) ⟨Yj 3 0 rfl rfl, Vr rfl (.int _ _), trivial⟩ ⟨⟨_, rfl, rfl, .same _ _ _ _ (Xt trivial)⟩, ⟨_, rfl, rfl, .same _ _ _ _ (Xt trivial)⟩, ⟨_, rfl, rfl, .same _ _ _ _ (Xt trivial)⟩, ⟨_, rfl, rfl, .agg _ _ _ _ _ ⟨Vr rfl (.int _ _), Xq 0 1 rfl rfl, Xq 1 2 rfl rfl, Xq 2 3 rfl rfl, Vr rfl (.vs _ _), trivial⟩⟩, trivial⟩
  ·have hF := Yp c3 hF
   refine Xn ?_
   refine Vi ?_
   refine Vd ?_
   refine Va (Xc rfl) rfl ?_
   refine Va (Xk (Xv rfl rfl te_27) (congrArg (fun n : Nat => Wr .i64 (n : Int)) (Wx _))) rfl ?_
   refine Va (Xa rfl) rfl ?_
   refine Vf ?_
   refine Vi ?_
   obtain ⟨x4, h5, hF⟩ := Yt hF
   obtain ⟨x6, h7, hF⟩ := Yt hF
   obtain ⟨x8, h9, hF⟩ := Yt hF
   obtain ⟨x10, h11, hF⟩ := Yt hF
   refine Yd (Yy 3 1 (Wv _)) ?_
   refine Yd (Yy 3 1 (Wv _)) ?_
   refine Yd (Yy 4 1 (Wv _)) ?_
   refine Yd (Yy 4 1 (Wv _)) ?_
   refine vwp_drawnX [[], [0], [], [2], [], [4], [], [6], [0, 1, 2, 3, 4, 5, 6, 7], [0, 1, 2, 3, 4, 5, 6, 7, 8], [0, 1, 2, 3, 4, 5, 6, 7, 8, 9]] [false, true, false, true, false, true, false, true, false, true, false] [([], low, [⟨34, 5, [.agg [.int .i64 0, .nils, .nils, .nils, .nils]], 0⟩, ⟨3, 1, [], 0⟩, ⟨3, 1, [], 0⟩, ⟨4, 1, [], 0⟩, ⟨4, 1, [], 0⟩]), ([1], low, [⟨34, 5, [.agg [.int .i64 0, .nils, .nils, .nils, .nils]], 0⟩, ⟨3, 1, Wq (Wr .i64) x4, 1⟩, ⟨3, 1, [], 0⟩, ⟨4, 1, [], 0⟩, ⟨4, 1, [], 0⟩]), ([3], low, [⟨34, 5, [.agg [.int .i64 0, .nils, .nils, .nils, .nils]], 0⟩, ⟨3, 1, [], 0⟩, ⟨3, 1, Wq (Wr .i64) x6, 1⟩, ⟨4, 1, [], 0⟩, ⟨4, 1, [], 0⟩]), ([5], low, [⟨34, 5, [.agg [.int .i64 0, .nils, .nils, .nils, .nils]], 0⟩, ⟨3, 1, [], 0⟩, ⟨3, 1, [], 0⟩, ⟨4, 1, Wq Ws x8, 1⟩, ⟨4, 1, [], 0⟩]), ([7], low, [⟨34, 5, [.agg [.int .i64 0, .nils, .nils, .nils, .nils]], 0⟩, ⟨3, 1, [], 0⟩, ⟨3, 1, [], 0⟩, ⟨4, 1, [], 0⟩, ⟨4, 1, Wq Ws x10, 1⟩]), ([1, 3], low, [⟨34, 5, [.agg [.int .i64 0, .nils, .nils, .nils, .nils]], 0⟩, ⟨3, 1, Wq (Wr .i64) x4, 1⟩, ⟨3, 1, Wq (Wr .i64) x6, 1⟩, ⟨4, 1, [], 0⟩, ⟨4, 1, [], 0⟩]), ([1, 5], low, [⟨34, 5, [.agg [.int .i64 0, .nils, .nils, .nils, .nils]], 0⟩, ⟨3, 1, Wq (Wr .i64) x4, 1⟩, ⟨3, 1, [], 0⟩, ⟨4, 1, Wq Ws x8, 1⟩, ⟨4, 1, [], 0⟩]), ([1, 7], low, [⟨34, 5, [.agg [.int .i64 0, .nils, .nils, .nils, .nils]], 0⟩, ⟨3, 1, Wq (Wr .i64) x4, 1⟩, ⟨3, 1, [], 0⟩, ⟨4, 1, [], 0⟩, ⟨4, 1, Wq Ws x10, 1⟩]), ([3, 5], low, [⟨34, 5, [.agg [.int .i64 0, .nils, .nils, .nils, .nils]], 0⟩, ⟨3, 1, [], 0⟩, ⟨3, 1, Wq (Wr .i64) x6, 1⟩, ⟨4, 1, Wq Ws x8, 1⟩, ⟨4, 1, [], 0⟩]), ([3, 7], low, [⟨34, 5, [.agg [.int .i64 0, .nils, .nils, .nils, .nils]], 0⟩, ⟨3, 1, [], 0⟩, ⟨3, 1, Wq (Wr .i64) x6, 1⟩, ⟨4, 1, [], 0⟩, ⟨4, 1, Wq Ws x10, 1⟩]), ([5, 7], low, [⟨34, 5, [.agg [.int .i64 0, .nils, .nils, .nils, .nils]], 0⟩, ⟨3, 1, [], 0⟩, ⟨3, 1, [], 0⟩, ⟨4, 1, Wq Ws x8, 1⟩, ⟨4, 1, Wq Ws x10, 1⟩]), ([1, 3, 5], low, [⟨34, 5, [.agg [.int .i64 0, .nils, .nils, .nils, .nils]], 0⟩, ⟨3, 1, Wq (Wr .i64) x4, 1⟩, ⟨3, 1, Wq (Wr .i64) x6, 1⟩, ⟨4, 1, Wq Ws x8, 1⟩, ⟨4, 1, [], 0⟩]), ([1, 3, 7], low, [⟨34, 5, [.agg [.int .i64 0, .nils, .nils, .nils, .nils]], 0⟩, ⟨3, 1, Wq (Wr .i64) x4, 1⟩, ⟨3, 1, Wq (Wr .i64) x6, 1⟩, ⟨4, 1, [], 0⟩, ⟨4, 1, Wq Ws x10, 1⟩]), ([1, 5, 7], low, [⟨34, 5, [.agg [.int .i64 0, .nils, .nils, .nils, .nils]], 0⟩, ⟨3, 1, Wq (Wr .i64) x4, 1⟩, ⟨3, 1, [], 0⟩, ⟨4, 1, Wq Ws x8, 1⟩, ⟨4, 1, Wq Ws x10, 1⟩]), ([3, 5, 7], low, [⟨34, 5, [.agg [.int .i64 0, .nils, .nils, .nils, .nils]], 0⟩, ⟨3, 1, [], 0⟩, ⟨3, 1, Wq (Wr .i64) x6, 1⟩, ⟨4, 1, Wq Ws x8, 1⟩, ⟨4, 1, Wq Ws x10, 1⟩]), ([1, 3, 5, 7], low, [⟨34, 5, [.agg [.int .i64 0, .nils, .nils, .nils, .nils]], 0⟩, ⟨3, 1, Wq (Wr .i64) x4, 1⟩, ⟨3, 1, Wq (Wr .i64) x6, 1⟩, ⟨4, 1, Wq Ws x8, 1⟩, ⟨4, 1, Wq Ws x10, 1⟩]), ([1, 3, 5, 7, 9], low, [⟨34, 5, [.agg [.int .i64 0, .sl (n + 1) 1 0 (x4).length, .sl (n + 2) 1 0 (x6).length, .sl (n + 3) 1 0 (x8).length, .sl (n + 4) 1 0 (x10).length]], 0⟩, ⟨3, 1, Wq (Wr .i64) x4, 1⟩, ⟨3, 1, Wq (Wr .i64) x6, 1⟩, ⟨4, 1, Wq Ws x8, 1⟩, ⟨4, 1, Wq Ws x10, 1⟩])] mixed (by kernel_rfl) rfl (lenAllX (Yu rfl (Yu rfl (Yu rfl (Yu rfl (Yu rfl (Yu rfl (Yu rfl (Yu rfl (Yu rfl (Yu rfl (Yu rfl (Yu rfl (Yu rfl (Yu rfl (Yu rfl (Yu rfl (Yu rfl allx0)))))))))))))))))) rfl [1, 3, 5, 7, 9] (low, [⟨34, 5, [.agg [.int .i64 0, .sl (n + 1) 1 0 (x4).length, .sl (n + 2) 1 0 (x6).length, .sl (n + 3) 1 0 (x8).length, .sl (n + 4) 1 0 (x10).length]], 0⟩, ⟨3, 1, Wq (Wr .i64) x4, 1⟩, ⟨3, 1, Wq (Wr .i64) x6, 1⟩, ⟨4, 1, Wq Ws x8, 1⟩, ⟨4, 1, Wq Ws x10, 1⟩]) rfl rfl ?_
   refine Yc _ rfl rfl (Xs (VRd.ntl (Vk rfl)) (Xs (VRd.ntl (Vk rfl)) (Xs (VRd.ntl (Vk rfl)) (Xs (VRd.ntl (Vk rfl)) (Xs (VRd.ntl (Vk rfl)) (Xs (VRd.ntl (Vk rfl)) (Xs (VRd.ntl (Vk rfl)) (Xs (VRd.ntl (Vk rfl)) rx0)))))))) ?_
   refine Zf _ rfl rfl (Zy 1 rfl (Vu (f := 5) (k := 1) (m := 1) (os := [⟨3, 1, Wq (Wr .i64) x4, 0⟩]) (os' := [⟨3, 1, Wq (Wr .i64) x4, 1⟩]) (v := .sl (n + 5) 0 0 (x4).length) hn rfl rfl ⟨⟨_, rfl, rfl⟩, trivial⟩ (Yn (f := (Wr .i64)) (zz := 0) hn rfl rfl rfl te_22 ts_3 tb_3 (by decide) tz_3 rfl rfl (Wv _) rfl h5) (Yk 0 rfl rfl rfl rfl) ⟨.same _ _ _ (Vh (fun _ => .int _ _)), trivial⟩ rfl) (Zy 5 rfl (Vu (f := 5) (k := 1) (m := 1) (os := [⟨3, 1, Wq (Wr .i64) x4, 0⟩]) (os' := [⟨3, 1, Wq (Wr .i64) x4, 1⟩]) (v := .sl (n + 5) 0 0 (x4).length) hn rfl rfl ⟨⟨_, rfl, rfl⟩, trivial⟩ (Yn (f := (Wr .i64)) (zz := 0) hn rfl rfl rfl te_22 ts_3 tb_3 (by decide) tz_3 rfl rfl (Wv _) rfl h5) (Yk 0 rfl rfl rfl rfl) ⟨.same _ _ _ (Vh (fun _ => .int _ _)), trivial⟩ rfl) (Zy 6 rfl (Vu (f := 5) (k := 1) (m := 1) (os := [⟨3, 1, Wq (Wr .i64) x4, 0⟩]) (os' := [⟨3, 1, Wq (Wr .i64) x4, 1⟩]) (v := .sl (n + 5) 0 0 (x4).length) hn rfl rfl ⟨⟨_, rfl, rfl⟩, trivial⟩ (Yn (f := (Wr .i64)) (zz := 0) hn rfl rfl rfl te_22 ts_3 tb_3 (by decide) tz_3 rfl rfl (Wv _) rfl h5) (Yk 0 rfl rfl rfl rfl) ⟨.same _ _ _ (Vh (fun _ => .int _ _)), trivial⟩ rfl) (Zy 7 rfl (Vu (f := 5) (k := 1) (m := 1) (os := [⟨3, 1, Wq (Wr .i64) x4, 0⟩]) (os' := [⟨3, 1, Wq (Wr .i64) x4, 1⟩]) (v := .sl (n + 5) 0 0 (x4).length) hn rfl rfl ⟨⟨_, rfl, rfl⟩, trivial⟩ (Yn (f := (Wr .i64)) (zz := 0) hn rfl rfl rfl te_22 ts_3 tb_3 (by decide) tz_3 rfl rfl (Wv _) rfl h5) (Yk 0 rfl rfl rfl rfl) ⟨.same _ _ _ (Vh (fun _ => .int _ _)), trivial⟩ rfl) (Zy 11 rfl (Vu (f := 5) (k := 1) (m := 1) (os := [⟨3, 1, Wq (Wr .i64) x4, 0⟩]) (os' := [⟨3, 1, Wq (Wr .i64) x4, 1⟩]) (v := .sl (n + 5) 0 0 (x4).length) hn rfl rfl ⟨⟨_, rfl, rfl⟩, trivial⟩ (Yn (f := (Wr .i64)) (zz := 0) hn rfl rfl rfl te_22 ts_3 tb_3 (by decide) tz_3 rfl rfl (Wv _) rfl h5) (Yk 0 rfl rfl rfl rfl) ⟨.same _ _ _ (Vh (fun _ => .int _ _)), trivial⟩ rfl) (Zy 12 rfl (Vu (f := 5) (k := 1) (m := 1) (os := [⟨3, 1, Wq (Wr .i64) x4, 0⟩]) (os' := [⟨3, 1, Wq (Wr .i64) x4, 1⟩]) (v := .sl (n + 5) 0 0 (x4).length) hn rfl rfl ⟨⟨_, rfl, rfl⟩, trivial⟩ (Yn (f := (Wr .i64)) (zz := 0) hn rfl rfl rfl te_22 ts_3 tb_3 (by decide) tz_3 rfl rfl (Wv _) rfl h5) (Yk 0 rfl rfl rfl rfl) ⟨.same _ _ _ (Vh (fun _ => .int _ _)), trivial⟩ rfl) (Zy 13 rfl (Vu (f := 5) (k := 1) (m := 1) (os := [⟨3, 1, Wq (Wr .i64) x4, 0⟩]) (os' := [⟨3, 1, Wq (Wr .i64) x4, 1⟩]) (v := .sl (n + 5) 0 0 (x4).length) hn rfl rfl ⟨⟨_, rfl, rfl⟩, trivial⟩ (Yn (f := (Wr .i64)) (zz := 0) hn rfl rfl rfl te_22 ts_3 tb_3 (by decide) tz_3 rfl rfl (Wv _) rfl h5) (Yk 0 rfl rfl rfl rfl) ⟨.same _ _ _ (Vh (fun _ => .int _ _)), trivial⟩ rfl) (Zy 15 rfl (Vu (f := 5) (k := 1) (m := 1) (os := [⟨3, 1, Wq (Wr .i64) x4, 0⟩]) (os' := [⟨3, 1, Wq (Wr .i64) x4, 1⟩]) (v := .sl (n + 5) 0 0 (x4).length) hn rfl rfl ⟨⟨_, rfl, rfl⟩, trivial⟩ (Yn (f := (Wr .i64)) (zz := 0) hn rfl rfl rfl te_22 ts_3 tb_3 (by decide) tz_3 rfl rfl (Wv _) rfl h5) (Yk 0 rfl rfl rfl rfl) ⟨.same _ _ _ (Vh (fun _ => .int _ _)), trivial⟩ rfl) ex0)))))))) ?_
   refine Yc _ rfl rfl (Xs (VRd.ntl (Vk rfl)) (Xs (VRd.ntl (Vk rfl)) (Xs (VRd.ntl (Vk rfl)) (Xs (VRd.ntl (Vk rfl)) (Xs (VRd.ntl (Vk rfl)) (Xs (VRd.ntl (Vk rfl)) (Xs (VRd.ntl (Vk rfl)) (Xs (VRd.ntl (Vk rfl)) rx0)))))))) ?_
   refine Zf _ rfl rfl (Zy 2 rfl (Vu (f := 5) (k := 2) (m := 1) (os := [⟨3, 1, Wq (Wr .i64) x6, 0⟩]) (os' := [⟨3, 1, Wq (Wr .i64) x6, 1⟩]) (v := .sl (n + 5) 0 0 (x6).length) hn rfl rfl ⟨⟨_, rfl, rfl⟩, trivial⟩ (Yn (f := (Wr .i64)) (zz := 0) hn rfl rfl rfl te_22 ts_3 tb_3 (by decide) tz_3 rfl rfl (Wv _) rfl h7) (Yk 0 rfl rfl rfl rfl) ⟨.same _ _ _ (Vh (fun _ => .int _ _)), trivial⟩ rfl) (Zy 5 rfl (Vu (f := 5) (k := 2) (m := 1) (os := [⟨3, 1, Wq (Wr .i64) x6, 0⟩]) (os' := [⟨3, 1, Wq (Wr .i64) x6, 1⟩]) (v := .sl (n + 5) 0 0 (x6).length) hn rfl rfl ⟨⟨_, rfl, rfl⟩, trivial⟩ (Yn (f := (Wr .i64)) (zz := 0) hn rfl rfl rfl te_22 ts_3 tb_3 (by decide) tz_3 rfl rfl (Wv _) rfl h7) (Yk 0 rfl rfl rfl rfl) ⟨.same _ _ _ (Vh (fun _ => .int _ _)), trivial⟩ rfl) (Zy 8 rfl (Vu (f := 5) (k := 2) (m := 1) (os := [⟨3, 1, Wq (Wr .i64) x6, 0⟩]) (os' := [⟨3, 1, Wq (Wr .i64) x6, 1⟩]) (v := .sl (n + 5) 0 0 (x6).length) hn rfl rfl ⟨⟨_, rfl, rfl⟩, trivial⟩ (Yn (f := (Wr .i64)) (zz := 0) hn rfl rfl rfl te_22 ts_3 tb_3 (by decide) tz_3 rfl rfl (Wv _) rfl h7) (Yk 0 rfl rfl rfl rfl) ⟨.same _ _ _ (Vh (fun _ => .int _ _)), trivial⟩ rfl) (Zy 9 rfl (Vu (f := 5) (k := 2) (m := 1) (os := [⟨3, 1, Wq (Wr .i64) x6, 0⟩]) (os' := [⟨3, 1, Wq (Wr .i64) x6, 1⟩]) (v := .sl (n + 5) 0 0 (x6).length) hn rfl rfl ⟨⟨_, rfl, rfl⟩, trivial⟩ (Yn (f := (Wr .i64)) (zz := 0) hn rfl rfl rfl te_22 ts_3 tb_3 (by decide) tz_3 rfl rfl (Wv _) rfl h7) (Yk 0 rfl rfl rfl rfl) ⟨.same _ _ _ (Vh (fun _ => .int _ _)), trivial⟩ rfl) (Zy 11 rfl (Vu (f := 5) (k := 2) (m := 1) (os := [⟨3, 1, Wq (Wr .i64) x6, 0⟩]) (os' := [⟨3, 1, Wq (Wr .i64) x6, 1⟩]) (v := .sl (n + 5) 0 0 (x6).length) hn rfl rfl ⟨⟨_, rfl, rfl⟩, trivial⟩ (Yn (f := (Wr .i64)) (zz := 0) hn rfl rfl rfl te_22 ts_3 tb_3 (by decide) tz_3 rfl rfl (Wv _) rfl h7) (Yk 0 rfl rfl rfl rfl) ⟨.same _ _ _ (Vh (fun _ => .int _ _)), trivial⟩ rfl) (Zy 12 rfl (Vu (f := 5) (k := 2) (m := 1) (os := [⟨3, 1, Wq (Wr .i64) x6, 0⟩]) (os' := [⟨3, 1, Wq (Wr .i64) x6, 1⟩]) (v := .sl (n + 5) 0 0 (x6).length) hn rfl rfl ⟨⟨_, rfl, rfl⟩, trivial⟩ (Yn (f := (Wr .i64)) (zz := 0) hn rfl rfl rfl te_22 ts_3 tb_3 (by decide) tz_3 rfl rfl (Wv _) rfl h7) (Yk 0 rfl rfl rfl rfl) ⟨.same _ _ _ (Vh (fun _ => .int _ _)), trivial⟩ rfl) (Zy 14 rfl (Vu (f := 5) (k := 2) (m := 1) (os := [⟨3, 1, Wq (Wr .i64) x6, 0⟩]) (os' := [⟨3, 1, Wq (Wr .i64) x6, 1⟩]) (v := .sl (n + 5) 0 0 (x6).length) hn rfl rfl ⟨⟨_, rfl, rfl⟩, trivial⟩ (Yn (f := (Wr .i64)) (zz := 0) hn rfl rfl rfl te_22 ts_3 tb_3 (by decide) tz_3 rfl rfl (Wv _) rfl h7) (Yk 0 rfl rfl rfl rfl) ⟨.same _ _ _ (Vh (fun _ => .int _ _)), trivial⟩ rfl) (Zy 15 rfl (Vu (f := 5) (k := 2) (m := 1) (os := [⟨3, 1, Wq (Wr .i64) x6, 0⟩]) (os' := [⟨3, 1, Wq (Wr .i64) x6, 1⟩]) (v := .sl (n + 5) 0 0 (x6).length) hn rfl rfl ⟨⟨_, rfl, rfl⟩, trivial⟩ (Yn (f := (Wr .i64)) (zz := 0) hn rfl rfl rfl te_22 ts_3 tb_3 (by decide) tz_3 rfl rfl (Wv _) rfl h7) (Yk 0 rfl rfl rfl rfl) ⟨.same _ _ _ (Vh (fun _ => .int _ _)), trivial⟩ rfl) ex0)))))))) ?_
   refine Yc _ rfl rfl (Xs (VRd.ntl (Vk rfl)) (Xs (VRd.ntl (Vk rfl)) (Xs (VRd.ntl (Vk rfl)) (Xs (VRd.ntl (Vk rfl)) (Xs (VRd.ntl (Vk rfl)) (Xs (VRd.ntl (Vk rfl)) (Xs (VRd.ntl (Vk rfl)) (Xs (VRd.ntl (Vk rfl)) rx0)))))))) ?_
   refine Zf _ rfl rfl (Zy 3 rfl (Vu (f := 5) (k := 3) (m := 1) (os := [⟨4, 1, Wq Ws x8, 0⟩]) (os' := [⟨4, 1, Wq Ws x8, 1⟩]) (v := .sl (n + 5) 0 0 (x8).length) hn rfl rfl ⟨⟨_, rfl, rfl⟩, trivial⟩ (Yn (f := Ws) (zz := false) hn rfl rfl rfl te_32 ts_4 tb_4 (by decide) tz_4 rfl rfl (Wv _) rfl h9) (Yk 0 rfl rfl rfl rfl) ⟨.same _ _ _ (Vh (fun _ => .bool _)), trivial⟩ rfl) (Zy 6 rfl (Vu (f := 5) (k := 3) (m := 1) (os := [⟨4, 1, Wq Ws x8, 0⟩]) (os' := [⟨4, 1, Wq Ws x8, 1⟩]) (v := .sl (n + 5) 0 0 (x8).length) hn rfl rfl ⟨⟨_, rfl, rfl⟩, trivial⟩ (Yn (f := Ws) (zz := false) hn rfl rfl rfl te_32 ts_4 tb_4 (by decide) tz_4 rfl rfl (Wv _) rfl h9) (Yk 0 rfl rfl rfl rfl) ⟨.same _ _ _ (Vh (fun _ => .bool _)), trivial⟩ rfl) (Zy 8 rfl (Vu (f := 5) (k := 3) (m := 1) (os := [⟨4, 1, Wq Ws x8, 0⟩]) (os' := [⟨4, 1, Wq Ws x8, 1⟩]) (v := .sl (n + 5) 0 0 (x8).length) hn rfl rfl ⟨⟨_, rfl, rfl⟩, trivial⟩ (Yn (f := Ws) (zz := false) hn rfl rfl rfl te_32 ts_4 tb_4 (by decide) tz_4 rfl rfl (Wv _) rfl h9) (Yk 0 rfl rfl rfl rfl) ⟨.same _ _ _ (Vh (fun _ => .bool _)), trivial⟩ rfl) (Zy 10 rfl (Vu (f := 5) (k := 3) (m := 1) (os := [⟨4, 1, Wq Ws x8, 0⟩]) (os' := [⟨4, 1, Wq Ws x8, 1⟩]) (v := .sl (n + 5) 0 0 (x8).length) hn rfl rfl ⟨⟨_, rfl, rfl⟩, trivial⟩ (Yn (f := Ws) (zz := false) hn rfl rfl rfl te_32 ts_4 tb_4 (by decide) tz_4 rfl rfl (Wv _) rfl h9) (Yk 0 rfl rfl rfl rfl) ⟨.same _ _ _ (Vh (fun _ => .bool _)), trivial⟩ rfl) (Zy 11 rfl (Vu (f := 5) (k := 3) (m := 1) (os := [⟨4, 1, Wq Ws x8, 0⟩]) (os' := [⟨4, 1, Wq Ws x8, 1⟩]) (v := .sl (n + 5) 0 0 (x8).length) hn rfl rfl ⟨⟨_, rfl, rfl⟩, trivial⟩ (Yn (f := Ws) (zz := false) hn rfl rfl rfl te_32 ts_4 tb_4 (by decide) tz_4 rfl rfl (Wv _) rfl h9) (Yk 0 rfl rfl rfl rfl) ⟨.same _ _ _ (Vh (fun _ => .bool _)), trivial⟩ rfl) (Zy 13 rfl (Vu (f := 5) (k := 3) (m := 1) (os := [⟨4, 1, Wq Ws x8, 0⟩]) (os' := [⟨4, 1, Wq Ws x8, 1⟩]) (v := .sl (n + 5) 0 0 (x8).length) hn rfl rfl ⟨⟨_, rfl, rfl⟩, trivial⟩ (Yn (f := Ws) (zz := false) hn rfl rfl rfl te_32 ts_4 tb_4 (by decide) tz_4 rfl rfl (Wv _) rfl h9) (Yk 0 rfl rfl rfl rfl) ⟨.same _ _ _ (Vh (fun _ => .bool _)), trivial⟩ rfl) (Zy 14 rfl (Vu (f := 5) (k := 3) (m := 1) (os := [⟨4, 1, Wq Ws x8, 0⟩]) (os' := [⟨4, 1, Wq Ws x8, 1⟩]) (v := .sl (n + 5) 0 0 (x8).length) hn rfl rfl ⟨⟨_, rfl, rfl⟩, trivial⟩ (Yn (f := Ws) (zz := false) hn rfl rfl rfl te_32 ts_4 tb_4 (by decide) tz_4 rfl rfl (Wv _) rfl h9) (Yk 0 rfl rfl rfl rfl) ⟨.same _ _ _ (Vh (fun _ => .bool _)), trivial⟩ rfl) (Zy 15 rfl (Vu (f := 5) (k := 3) (m := 1) (os := [⟨4, 1, Wq Ws x8, 0⟩]) (os' := [⟨4, 1, Wq Ws x8, 1⟩]) (v := .sl (n + 5) 0 0 (x8).length) hn rfl rfl ⟨⟨_, rfl, rfl⟩, trivial⟩ (Yn (f := Ws) (zz := false) hn rfl rfl rfl te_32 ts_4 tb_4 (by decide) tz_4 rfl rfl (Wv _) rfl h9) (Yk 0 rfl rfl rfl rfl) ⟨.same _ _ _ (Vh (fun _ => .bool _)), trivial⟩ rfl) ex0)))))))) ?_
   refine Yc _ rfl rfl (Xs (VRd.ntl (Vk rfl)) (Xs (VRd.ntl (Vk rfl)) (Xs (VRd.ntl (Vk rfl)) (Xs (VRd.ntl (Vk rfl)) (Xs (VRd.ntl (Vk rfl)) (Xs (VRd.ntl (Vk rfl)) (Xs (VRd.ntl (Vk rfl)) (Xs (VRd.ntl (Vk rfl)) rx0)))))))) ?_
   refine Zf _ rfl rfl (Zy 4 rfl (Vu (f := 5) (k := 4) (m := 1) (os := [⟨4, 1, Wq Ws x10, 0⟩]) (os' := [⟨4, 1, Wq Ws x10, 1⟩]) (v := .sl (n + 5) 0 0 (x10).length) hn rfl rfl ⟨⟨_, rfl, rfl⟩, trivial⟩ (Yn (f := Ws) (zz := false) hn rfl rfl rfl te_32 ts_4 tb_4 (by decide) tz_4 rfl rfl (Wv _) rfl h11) (Yk 0 rfl rfl rfl rfl) ⟨.same _ _ _ (Vh (fun _ => .bool _)), trivial⟩ rfl) (Zy 7 rfl (Vu (f := 5) (k := 4) (m := 1) (os := [⟨4, 1, Wq Ws x10, 0⟩]) (os' := [⟨4, 1, Wq Ws x10, 1⟩]) (v := .sl (n + 5) 0 0 (x10).length) hn rfl rfl ⟨⟨_, rfl, rfl⟩, trivial⟩ (Yn (f := Ws) (zz := false) hn rfl rfl rfl te_32 ts_4 tb_4 (by decide) tz_4 rfl rfl (Wv _) rfl h11) (Yk 0 rfl rfl rfl rfl) ⟨.same _ _ _ (Vh (fun _ => .bool _)), trivial⟩ rfl) (Zy 9 rfl (Vu (f := 5) (k := 4) (m := 1) (os := [⟨4, 1, Wq Ws x10, 0⟩]) (os' := [⟨4, 1, Wq Ws x10, 1⟩]) (v := .sl (n + 5) 0 0 (x10).length) hn rfl rfl ⟨⟨_, rfl, rfl⟩, trivial⟩ (Yn (f := Ws) (zz := false) hn rfl rfl rfl te_32 ts_4 tb_4 (by decide) tz_4 rfl rfl (Wv _) rfl h11) (Yk 0 rfl rfl rfl rfl) ⟨.same _ _ _ (Vh (fun _ => .bool _)), trivial⟩ rfl) (Zy 10 rfl (Vu (f := 5) (k := 4) (m := 1) (os := [⟨4, 1, Wq Ws x10, 0⟩]) (os' := [⟨4, 1, Wq Ws x10, 1⟩]) (v := .sl (n + 5) 0 0 (x10).length) hn rfl rfl ⟨⟨_, rfl, rfl⟩, trivial⟩ (Yn (f := Ws) (zz := false) hn rfl rfl rfl te_32 ts_4 tb_4 (by decide) tz_4 rfl rfl (Wv _) rfl h11) (Yk 0 rfl rfl rfl rfl) ⟨.same _ _ _ (Vh (fun _ => .bool _)), trivial⟩ rfl) (Zy 12 rfl (Vu (f := 5) (k := 4) (m := 1) (os := [⟨4, 1, Wq Ws x10, 0⟩]) (os' := [⟨4, 1, Wq Ws x10, 1⟩]) (v := .sl (n + 5) 0 0 (x10).length) hn rfl rfl ⟨⟨_, rfl, rfl⟩, trivial⟩ (Yn (f := Ws) (zz := false) hn rfl rfl rfl te_32 ts_4 tb_4 (by decide) tz_4 rfl rfl (Wv _) rfl h11) (Yk 0 rfl rfl rfl rfl) ⟨.same _ _ _ (Vh (fun _ => .bool _)), trivial⟩ rfl) (Zy 13 rfl (Vu (f := 5) (k := 4) (m := 1) (os := [⟨4, 1, Wq Ws x10, 0⟩]) (os' := [⟨4, 1, Wq Ws x10, 1⟩]) (v := .sl (n + 5) 0 0 (x10).length) hn rfl rfl ⟨⟨_, rfl, rfl⟩, trivial⟩ (Yn (f := Ws) (zz := false) hn rfl rfl rfl te_32 ts_4 tb_4 (by decide) tz_4 rfl rfl (Wv _) rfl h11) (Yk 0 rfl rfl rfl rfl) ⟨.same _ _ _ (Vh (fun _ => .bool _)), trivial⟩ rfl) (Zy 14 rfl (Vu (f := 5) (k := 4) (m := 1) (os := [⟨4, 1, Wq Ws x10, 0⟩]) (os' := [⟨4, 1, Wq Ws x10, 1⟩]) (v := .sl (n + 5) 0 0 (x10).length) hn rfl rfl ⟨⟨_, rfl, rfl⟩, trivial⟩ (Yn (f := Ws) (zz := false) hn rfl rfl rfl te_32 ts_4 tb_4 (by decide) tz_4 rfl rfl (Wv _) rfl h11) (Yk 0 rfl rfl rfl rfl) ⟨.same _ _ _ (Vh (fun _ => .bool _)), trivial⟩ rfl) (Zy 15 rfl (Vu (f := 5) (k := 4) (m := 1) (os := [⟨4, 1, Wq Ws x10, 0⟩]) (os' := [⟨4, 1, Wq Ws x10, 1⟩]) (v := .sl (n + 5) 0 0 (x10).length) hn rfl rfl ⟨⟨_, rfl, rfl⟩, trivial⟩ (Yn (f := Ws) (zz := false) hn rfl rfl rfl te_32 ts_4 tb_4 (by decide) tz_4 rfl rfl (Wv _) rfl h11) (Yk 0 rfl rfl rfl rfl) ⟨.same _ _ _ (Vh (fun _ => .bool _)), trivial⟩ rfl) ex0)))))))) ?_
   refine Yc _ rfl rfl (Xs (VRd.ntl (Wh (vs := [(1, .sl (n + 1) 1 0 (x4).length), (2, .sl (n + 2) 1 0 (x6).length), (3, .sl (n + 3) 1 0 (x8).length), (4, .sl (n + 4) 1 0 (x10).length)]) (ds := [.int .i64 0, .sl (n + 1) 1 0 (x4).length, .sl (n + 2) 1 0 (x6).length, .sl (n + 3) 1 0 (x8).length, .sl (n + 4) 1 0 (x10).length]) tz_34 rfl rfl tp_34 ⟨rfl, rfl, rfl, rfl, rfl, rfl, rfl, rfl, trivial⟩ (Wo rfl) rfl)) rx0) ?_
   refine Zf _ rfl rfl (Zy 16 rfl (Vy (p := .agg [.int .i64 0, .sl (n + 1) 1 0 (x4).length, .sl (n + 2) 1 0 (x6).length, .sl (n + 3) 1 0 (x8).length, .sl (n + 4) 1 0 (x10).length]) (e' := .agg [.int .i64 0, .sl (n + 1) 1 0 (x4).length, .sl (n + 2) 1 0 (x6).length, .sl (n + 3) 1 0 (x8).length, .sl (n + 4) 1 0 (x10).length]) rfl (Ve hn rfl) rfl rfl ts_34 rfl (Ye rfl) rfl (Wu rfl) rfl (Xr hn rfl)) ex0) ?_
   refine Yc _ rfl rfl (Xs (VRd.ntl (Xa rfl)) rx0) ?_
   refine dopx_nil ?_
   refine Xb ?_
   obtain rfl := Wt hF
   refine Wg ?_
   refine Weak.trans (Xm (E' := [(2, .ptr (n + 0) 0 0 0), (3, .int .i64 0)]) (loc1 := [⟨34, 5, [.agg [.int .i64 0, .sl (n + 1) 1 0 (x4).length, .sl (n + 2) 1 0 (x6).length, .sl (n + 3) 1 0 (x8).length, .vs 1 (Wq Ws x10)]], 0⟩, ⟨3, 1, Wq (Wr .i64) x4, 1⟩, ⟨3, 1, Wq (Wr .i64) x6, 1⟩, ⟨4, 1, Wq Ws x8, 1⟩, ⟨4, 1, [], 1 + 1⟩]) hn 4 rfl (Ya (fun _ => .bool _)) ⟨Vl rfl, Vl rfl, trivial⟩ ⟨Yr ⟨Vl rfl, Vl rfl, Vl rfl, Vl rfl, Zj rfl rfl rfl (Vx rfl), trivial⟩, .refl _, .refl _, .refl _, .refl _, trivial⟩) ?_
   exact Vt hn [(1, 1), (2, 1), (3, 1), (0, 0)] (by decide) ⟨Yj 3 0 rfl rfl, Vr rfl (.int _ _), trivial⟩ ⟨⟨_, rfl, rfl, .same _ _ _ _ (Vh (fun _ => .int _ _))⟩, ⟨_, rfl, rfl, .same _ _ _ _ (Vh (fun _ => .int _ _))⟩, ⟨_, rfl, rfl, .same _ _ _ _ (Vh (fun _ => .bool _))⟩, ⟨_, rfl, rfl, .agg _ _ _ _ _ ⟨Vr rfl (.int _ _), Xq 0 1 rfl rfl, Xq 1 2 rfl rfl, Xq 2 3 rfl rfl, Vr rfl (.vs _ _), trivial⟩⟩, trivial⟩
 ·rintro _ _ _ _ ⟨he, hw⟩
  refine ⟨_, _, _, hw, ?_⟩
  exact Zm hn 3 rfl (Wu rfl) he [.agg [.int .i64 r.1.Time, .sl (n + 0) 0 0 (r.1.States).length, .sl (n + 1) 0 0 (r.1.Since).length, .sl (n + 2) 0 0 (r.1.Pulled).length, .vs 1 (Wq Ws r.1.Held)], .int .i64 r.2] ⟨Vv rfl (Ve hn rfl) rfl ta_34 ts_34 rfl rfl rfl, rfl, trivial⟩ ((lt_tup ⟨(Xw ⟨.int _ _, .sl _ _ _ _ (Zw rfl), .sl _ _ _ _ (Zw rfl), .sl _ _ _ _ (Zw rfl), .vs _ _, trivial⟩), .int _ _, trivial⟩)) ⟨Vh (fun _ => .int _ _), Vh (fun _ => .int _ _), Vh (fun _ => .bool _), trivial⟩ ⟨rfl, rfl⟩

theorem F_law39_agree_ok {p0 : List T_Belt} {p1 : T_Line} {p2 : Int} {p3 : Int} {r : Bool} (hF : F_law39_agree p0 p1 p2 p3 = some r) (low : List AObj) :
    Ys Try.prog 18 [.vs 2 (Wq T_Belt.enc p0), .agg [.int .i64 p1.Time, .vs 1 (Wq (Wr .i64) p1.States), .vs 1 (Wq (Wr .i64) p1.Since), .vs 1 (Wq Ws p1.Pulled), .vs 1 (Wq Ws p1.Held)], .int .i64 p2, .int .i64 p3] low fun x low' => x = .bool r ∧ low' = low := by
 refine Vz (nt := 78) (rs := [.tmp 8]) Try.func18 rfl rfl (Wu rfl) rfl ?_
 refine Vw (Q' := FnE (fun E' lw lc => Yb E' lw lc [(8, .bool r)] low [])) ?_ ?_
 ·unfold F_law39_agree at hF
  refine Vi ?_
  refine Vd ?_
  refine Vj (Zc rfl rfl (v := .agg [.int .i64 p1.Time, .vs 1 (Wq (Wr .i64) p1.States), .vs 1 (Wq (Wr .i64) p1.Since), .vs 1 (Wq Ws p1.Pulled), .vs 1 (Wq Ws p1.Held)]) rfl rfl (Wv _) rfl rfl) rfl ?_
  refine Va (Xz rfl) rfl ?_
  refine Vf ?_
  refine Vi ?_
  refine Vi ?_
  refine Vd ?_
  refine Va (Xa rfl) rfl ?_
  refine Vf ?_
  refine Yh ?_
  obtain ⟨o2, ho2, hF⟩ := Yt hF
  refine Vw (Wb (F_law39_agree_L1 p0 p1 p2 p3) (fun s1 E' lw lc => Yb E' lw lc [(0, .vs 2 (Wq T_Belt.enc p0)), (2, .int .i64 p2), (3, .int .i64 p3), (5, .ptr (low.length + 0) 0 0 0), (9, .int .i64 s1)] low [⟨34, 5, [.agg [.int .i64 p1.Time, .vs 1 (Wq (Wr .i64) p1.States), .vs 1 (Wq (Wr .i64) p1.Since), .vs 1 (Wq Ws p1.Pulled), .vs 1 (Wq Ws p1.Held)]], 0⟩]) (Sum.elim (fun j3 => OnlyE .ret (fun E' lw lc => Yb E' lw lc [(8, .bool false)] low [])) (fun j4 => OnlyE (.exit 0) (fun E' lw lc => Yb E' lw lc [(0, .vs 2 (Wq T_Belt.enc p0)), (2, .int .i64 p2), (5, .ptr (low.length + 0) 0 0 0)] low [⟨34, 5, [.agg [.int .i64 p1.Time, .vs 1 (Wq (Wr .i64) p1.States), .vs 1 (Wq (Wr .i64) p1.Since), .vs 1 (Wq Ws p1.Pulled), .vs 1 (Wq Ws p1.Held)]], 0⟩]))) ho2 ?_ (by rintro (_|_) _ _ _ ⟨h, _⟩ <;> cases h) ?_) ?_
  ·exact Vp ⟨rfl, rfl, rfl, rfl, rfl, trivial⟩
  ·rintro s1 os1 _ _ _ hF hw
   unfold F_law39_agree_L1 at hF
   refine Yd hw ?_
   refine Vi ?_
   refine Vi ?_
   refine Vd ?_
   refine Va (Vk rfl) rfl ?_
   refine Va (Zr rfl rfl) rfl ?_
   refine Vf ?_
   refine Xh rfl (fun c5 => ?_) (fun c5 => ?_)
   ·have hF := Yo c5 hF
    refine Xn ?_
    refine Vi ?_
    refine Yh ?_
    refine Vi ?_
    refine Vd ?_
    obtain ⟨x6, h7, hF⟩ := Yt hF
    refine Va (Xc rfl) rfl ?_
    refine Va (Vv (ds := [.int .i64 p1.Time, .vs 1 (Wq (Wr .i64) p1.States), .vs 1 (Wq (Wr .i64) p1.Since), .vs 1 (Wq Ws p1.Pulled), .vs 1 (Wq Ws p1.Held)]) rfl (Ve rfl rfl) rfl ta_34 ts_34 rfl rfl rfl) rfl ?_
    refine Va (Vk rfl) rfl ?_
    refine Va (Vk rfl) rfl ?_
    refine Va (Vk rfl) rfl ?_
    refine Vj (Xg (r := .tup [.agg [.int .i64 x6.1.Time, .vs 1 (Wq (Wr .i64) x6.1.States), .vs 1 (Wq (Wr .i64) x6.1.Since), .vs 1 (Wq Ws x6.1.Pulled), .vs 1 (Wq Ws x6.1.Held)], .int .i64 x6.2.1, .agg [.int .i64 x6.2.2.1.Time, .sl (low.length + 1) 0 0 (x6.2.2.1.States).length, .sl (low.length + 2) 0 0 (x6.2.2.1.Since).length, .sl (low.length + 3) 0 0 (x6.2.2.1.Pulled).length, .vs 1 (Wq Ws x6.2.2.1.Held)], .int .i64 x6.2.2.2]) (os := [⟨3, 1, Wq (Wr .i64) x6.2.2.1.States, 0⟩, ⟨3, 1, Wq (Wr .i64) x6.2.2.1.Since, 0⟩, ⟨4, 1, Wq Ws x6.2.2.1.Pulled, 0⟩]) rfl Try.call22 (F_law39_step_ok h7 _ (Xi rfl rfl))) rfl ?_
    refine Va (rd_mvT rfl) rfl ?_
    refine Va (Xu rfl rfl) rfl ?_
    refine Va (Xu rfl rfl) rfl ?_
    refine Va (Xu rfl rfl) rfl ?_
    refine Va (Xu rfl rfl) rfl ?_
    refine Vj (Xe rfl rfl tz_34 rfl rfl (Wv _) rfl) rfl ?_
    refine Vj (Xe rfl rfl tz_34 rfl rfl (Wv _) rfl) rfl ?_
    refine Vj (Vy (p := .agg [.int .i64 x6.1.Time, .vs 1 (Wq (Wr .i64) x6.1.States), .vs 1 (Wq (Wr .i64) x6.1.Since), .vs 1 (Wq Ws x6.1.Pulled), .vs 1 (Wq Ws x6.1.Held)]) (e' := .agg [.int .i64 x6.1.Time, .vs 1 (Wq (Wr .i64) x6.1.States), .vs 1 (Wq (Wr .i64) x6.1.Since), .vs 1 (Wq Ws x6.1.Pulled), .vs 1 (Wq Ws x6.1.Held)]) rfl (Ve rfl rfl) rfl rfl ts_34 rfl (Ye rfl) rfl (Wu rfl) rfl (Xr rfl rfl)) rfl ?_
    refine Va (Xa rfl) rfl ?_
    refine Vj (Vy (p := .agg [.int .i64 x6.2.2.1.Time, .sl (low.length + 1) 0 0 (x6.2.2.1.States).length, .sl (low.length + 2) 0 0 (x6.2.2.1.Since).length, .sl (low.length + 3) 0 0 (x6.2.2.1.Pulled).length, .vs 1 (Wq Ws x6.2.2.1.Held)]) (e' := .agg [.int .i64 x6.2.2.1.Time, .sl (low.length + 1) 0 0 (x6.2.2.1.States).length, .sl (low.length + 2) 0 0 (x6.2.2.1.Since).length, .sl (low.length + 3) 0 0 (x6.2.2.1.Pulled).length, .vs 1 (Wq Ws x6.2.2.1.Held)]) rfl (Ve rfl rfl) rfl rfl ts_34 rfl (Ye rfl) rfl (Wu rfl) rfl (Xr rfl rfl)) rfl ?_
    refine Va (Xa rfl) rfl ?_
    refine Vf ?_
    refine Vi ?_
    obtain ⟨o8, ho8, hF⟩ := Yt hF
    refine Vw (Q' := (fun o8 => OnlyE .normal (fun E' lw lc => Yb E' lw lc [(0, .vs 2 (Wq T_Belt.enc p0)), (2, .int .i64 p2), (3, .int .i64 p3), (5, .ptr (low.length + 0) 0 0 0), (9, .int .i64 s1), (41, .bool o8)] low [⟨34, 5, [.agg [.int .i64 p1.Time, .vs 1 (Wq (Wr .i64) p1.States), .vs 1 (Wq (Wr .i64) p1.Since), .vs 1 (Wq Ws p1.Pulled), .vs 1 (Wq Ws p1.Held)]], 0⟩])) o8) ?_ ?_
    ·replace hF := ho8
     refine Vd ?_
     rcases Ww (decide (x6.2.1 ≠ x6.2.2.2)) with c9 | c9
     ·have hF := Yo c9 hF
      refine Va (Vk rfl) rfl ?_
      refine Va (Vk rfl) rfl ?_
      refine Va (Ze rfl rfl) rfl ?_
      refine Va (Vm rfl) rfl ?_
      refine Vb rfl rfl (Zo c9) rfl ?_
      refine Vb rfl rfl (Zo c9) rfl ?_
      refine Vb rfl rfl (Zo c9) rfl ?_
      refine Vb rfl rfl (Zo c9) rfl ?_
      refine Va (Vo (congrArg Ws c9) rfl) rfl ?_
      refine Vf ?_
      obtain rfl := Wt hF
      refine Xy ?_
      exact Vt rfl [(0, 0)] (by decide) ⟨Vr rfl (.vs _ _), Vr rfl (.int _ _), Vr rfl (.int _ _), Yj 0 0 rfl rfl, Vr rfl (.int _ _), Vr rfl (.bool _), trivial⟩ ⟨⟨_, rfl, rfl, .same _ _ _ _ (Xt ⟨Xw ⟨.int _ _, .vs _ _, .vs _ _, .vs _ _, .vs _ _, trivial⟩, trivial⟩)⟩, trivial⟩
     ·have hF := Yp c9 hF
      obtain ⟨x10, h11, hF⟩ := Yt hF
      refine Va (Vk rfl) rfl ?_
      refine Va (Vk rfl) rfl ?_
      refine Va (Ze rfl rfl) rfl ?_
      refine Va (Vm rfl) rfl ?_
      refine Xd rfl rfl c9 ?_
      refine Va (Vv (ds := [.int .i64 x6.1.Time, .vs 1 (Wq (Wr .i64) x6.1.States), .vs 1 (Wq (Wr .i64) x6.1.Since), .vs 1 (Wq Ws x6.1.Pulled), .vs 1 (Wq Ws x6.1.Held)]) rfl (Ve rfl rfl) rfl ta_34 ts_34 rfl rfl rfl) rfl ?_
      refine Xd rfl rfl c9 ?_
      refine Va (Vv (ds := [.int .i64 x6.2.2.1.Time, .sl (low.length + 1) 0 0 (x6.2.2.1.States).length, .sl (low.length + 2) 0 0 (x6.2.2.1.Since).length, .sl (low.length + 3) 0 0 (x6.2.2.1.Pulled).length, .vs 1 (Wq Ws x6.2.2.1.Held)]) rfl (Ve rfl rfl) rfl ta_34 ts_34 rfl rfl rfl) rfl ?_
      refine Xd rfl rfl c9 ?_
      refine Vj (vef_callB (vs := [.agg [.int .i64 x6.1.Time, .vs 1 (Wq (Wr .i64) x6.1.States), .vs 1 (Wq (Wr .i64) x6.1.Since), .vs 1 (Wq Ws x6.1.Pulled), .vs 1 (Wq Ws x6.1.Held)], .agg [.int .i64 x6.2.2.1.Time, .vs 1 (Wq (Wr .i64) x6.2.2.1.States), .vs 1 (Wq (Wr .i64) x6.2.2.1.Since), .vs 1 (Wq Ws x6.2.2.1.Pulled), .vs 1 (Wq Ws x6.2.2.1.Held)]]) rfl Try.call40 ⟨Za rfl ((Xw ⟨.int _ _, .vs _ _, .vs _ _, .vs _ _, .vs _ _, trivial⟩)), view_agg rfl ⟨Za rfl (.int _ _), Zi rfl (Ve rfl rfl) rfl rfl (Ya (fun _ => .int _ _)) (Vx rfl), Zi rfl (Ve rfl rfl) rfl rfl (Ya (fun _ => .int _ _)) (Vx rfl), Zi rfl (Ve rfl rfl) rfl rfl (Ya (fun _ => .bool _)) (Vx rfl), Za rfl (.vs _ _), trivial⟩, trivial⟩ ((F_ref39_Same_ok h11 []).mono fun _ _ h => h.1) (.bool _)) rfl ?_
      refine Xd rfl rfl c9 ?_
      refine Va (Zp rfl) rfl ?_
      refine Va (Vn (congrArg Ws c9) rfl) rfl ?_
      refine Vf ?_
      obtain rfl := Wt hF
      refine Xy ?_
      exact Vt rfl [(0, 0)] (by decide) ⟨Vr rfl (.vs _ _), Vr rfl (.int _ _), Vr rfl (.int _ _), Yj 0 0 rfl rfl, Vr rfl (.int _ _), Vr rfl (.bool _), trivial⟩ ⟨⟨_, rfl, rfl, .same _ _ _ _ (Xt ⟨Xw ⟨.int _ _, .vs _ _, .vs _ _, .vs _ _, .vs _ _, trivial⟩, trivial⟩)⟩, trivial⟩
    ·rintro _ _ _ _ ⟨rfl, hw⟩
     refine ⟨_, _, _, hw, ?_⟩
     refine Xh rfl (fun c12 => ?_) (fun c12 => ?_)
     ·have hF := Yo c12 hF
      refine Vi ?_
      refine Vd ?_
      refine Va (Xz rfl) rfl ?_
      refine Vf ?_
      refine Xb ?_
      obtain rfl := Wt hF
      refine Xy ?_
      exact Vt rfl [] (by decide) ⟨Vr rfl (.bool _), trivial⟩ trivial
     ·have hF := Yp c12 hF
      refine Xn ?_
      refine Vd ?_
      refine Va (Vk rfl) rfl ?_
      refine Va (Wk rfl rfl rfl) rfl ?_
      refine Va (Xa rfl) rfl ?_
      refine Vf ?_
      obtain rfl := Wt hF
      refine Xy ?_
      exact Vp ⟨rfl, rfl, rfl, rfl, rfl, trivial⟩
   ·have hF := Yp c5 hF
    refine Wi ?_
    obtain rfl := Wt hF
    refine Xy ?_
    exact Vp ⟨rfl, rfl, rfl, trivial⟩
  ·rcases o2 with j3 | j4
   ·replace hF := elimL hF
    rintro _ _ _ _ ⟨rfl, hw⟩
    refine ⟨_, _, _, hw, ?_⟩
    obtain rfl := Wt hF
    refine Wg ?_
    exact Vp ⟨rfl, trivial⟩
   ·replace hF := elimR hF
    rintro _ _ _ _ ⟨rfl, hw⟩
    refine ⟨_, _, _, hw, ?_⟩
    refine Vi ?_
    refine Vd ?_
    obtain ⟨x13, h14, hF⟩ := Yt hF
    refine Va (Xc rfl) rfl ?_
    refine Vj (Xp rfl Try.call12 (F_belts_Make_ok h14 _)) rfl ?_
    refine Va (rd_mvT rfl) rfl ?_
    refine Va (Xu rfl rfl) rfl ?_
    refine Va (Xu rfl rfl) rfl ?_
    refine Vj (Xe rfl rfl tz_34 rfl rfl (Wv _) rfl) rfl ?_
    refine Vj (Vy (p := .agg [.int .i64 x13.1.Time, .vs 1 (Wq (Wr .i64) x13.1.States), .vs 1 (Wq (Wr .i64) x13.1.Since), .vs 1 (Wq Ws x13.1.Pulled), .vs 1 (Wq Ws x13.1.Held)]) (e' := .agg [.int .i64 x13.1.Time, .vs 1 (Wq (Wr .i64) x13.1.States), .vs 1 (Wq (Wr .i64) x13.1.Since), .vs 1 (Wq Ws x13.1.Pulled), .vs 1 (Wq Ws x13.1.Held)]) rfl (Ve rfl rfl) rfl rfl ts_34 rfl (Ye rfl) rfl (Wu rfl) rfl (Xr rfl rfl)) rfl ?_
    refine Va (Xa rfl) rfl ?_
    refine Vf ?_
    refine Vi ?_
    refine Vd ?_
    obtain ⟨x15, h16, hF⟩ := Yt hF
    refine Va (Xc rfl) rfl ?_
    refine Vj (Xg (r := .tup [.agg [.int .i64 x15.1.Time, .sl (low.length + 2) 0 0 (x15.1.States).length, .sl (low.length + 3) 0 0 (x15.1.Since).length, .sl (low.length + 4) 0 0 (x15.1.Pulled).length, .vs 1 (Wq Ws x15.1.Held)], .int .i64 x15.2]) (os := [⟨3, 1, Wq (Wr .i64) x15.1.States, 0⟩, ⟨3, 1, Wq (Wr .i64) x15.1.Since, 0⟩, ⟨4, 1, Wq Ws x15.1.Pulled, 0⟩]) rfl Try.call21 (F_ref39_Make_ok h16 _ (Xi rfl rfl))) rfl ?_
    refine Va (rd_mvT rfl) rfl ?_
    refine Va (Xu rfl rfl) rfl ?_
    refine Va (Xu rfl rfl) rfl ?_
    refine Vj (Xe rfl rfl tz_34 rfl rfl (Wv _) rfl) rfl ?_
    refine Vj (Vy (p := .agg [.int .i64 x15.1.Time, .sl (low.length + 2) 0 0 (x15.1.States).length, .sl (low.length + 3) 0 0 (x15.1.Since).length, .sl (low.length + 4) 0 0 (x15.1.Pulled).length, .vs 1 (Wq Ws x15.1.Held)]) (e' := .agg [.int .i64 x15.1.Time, .sl (low.length + 2) 0 0 (x15.1.States).length, .sl (low.length + 3) 0 0 (x15.1.Since).length, .sl (low.length + 4) 0 0 (x15.1.Pulled).length, .vs 1 (Wq Ws x15.1.Held)]) rfl (Ve rfl rfl) rfl rfl ts_34 rfl (Ye rfl) rfl (Wu rfl) rfl (Xr rfl rfl)) rfl ?_
    refine Va (Xa rfl) rfl ?_
    refine Vf ?_
    refine Vi ?_
    rcases Ww (decide (x13.2 = x15.2)) with c17 | c17
    ·have hF := Yo c17 hF
     obtain ⟨x18, h19, hF⟩ := Yt hF
     rcases Ww x18 with c20 | c20
     ·have hF := Yo c20 hF
      obtain ⟨x21, h22, hF⟩ := Yt hF
      obtain ⟨x23, h24, hF⟩ := Yt hF
      rcases Ww (x21 == x23) with c25 | c25
      ·have hF := Yo c25 hF
       obtain ⟨x26, h27, hF⟩ := Yt hF
       obtain ⟨x28, h29, hF⟩ := Yt hF
       obtain ⟨x30, h31, hF⟩ := Yt hF
       refine Wc [[], [], [0, 1], [0, 1, 2], [0, 1, 2, 3], [0, 1, 2, 3], [0, 1, 2, 3, 4, 5], [0, 1, 2, 3, 4, 5, 6], [0, 1, 2, 3, 4, 5, 6, 7], [0, 1, 2, 3, 4, 5, 6, 7, 8], [0, 1, 2, 3, 4, 5, 6, 7, 8], [0, 1, 2, 3, 4, 5, 6, 7, 8, 9, 10], [0, 1, 2, 3, 4, 5, 6, 7, 8], [0, 1, 2, 3, 4, 5, 6, 7, 8], [0, 1, 2, 3, 4, 5, 6, 7, 8, 9, 10, 11, 12, 13], [0, 1, 2, 3, 4, 5, 6, 7, 8, 9, 10, 11, 12, 13, 14], [0, 1, 2, 3, 4, 5, 6, 7, 8, 9, 10, 11, 12, 13, 14, 15], [0, 1, 2, 3, 4, 5, 6, 7, 8, 9, 10, 11, 12, 13, 14, 15, 16], [0, 1, 2, 3, 4, 5, 6, 7, 8, 9, 10, 11, 12, 13, 14, 15, 16, 17], [0, 1, 2, 3, 4, 5, 6, 7, 8, 9, 10, 11, 12, 13, 14, 15, 16, 17], [0, 1, 2, 3, 4, 5, 6, 7, 8, 9, 10, 11, 12, 13, 14, 15, 16, 17, 18, 19], [0, 1, 2, 3, 4, 5, 6, 7, 8, 9, 10, 11, 12, 13, 14, 15, 16, 17], [0, 1, 2, 3, 4, 5, 6, 7, 8, 9, 10, 11, 12, 13, 14, 15, 16, 17], [0, 1, 2, 3, 4, 5, 6, 7, 8, 9, 10, 11, 12, 13, 14, 15, 16, 17, 18, 19, 20, 21, 22], [0, 1, 2, 3, 4, 5, 6, 7, 8, 9, 10, 11, 12, 13, 14, 15, 16, 17, 18, 19, 20, 21, 22, 23], [0, 1, 2, 3, 4, 5, 6, 7, 8, 9, 10, 11, 12, 13, 14, 15, 16, 17, 18, 19, 20, 21, 22, 23, 24], [0, 1, 2, 3, 4, 5, 6, 7, 8, 9, 10, 11, 12, 13, 14, 15, 16, 17, 18, 19, 20, 21, 22, 23, 24, 25]] [false, false, false, false, false, false, false, false, false, false, false, false, false, false, false, false, false, false, false, false, false, false, false, true, false, false, false] [(low, [⟨34, 5, [.agg [.int .i64 p1.Time, .vs 1 (Wq (Wr .i64) p1.States), .vs 1 (Wq (Wr .i64) p1.Since), .vs 1 (Wq Ws p1.Pulled), .vs 1 (Wq Ws p1.Held)]], 0⟩, ⟨34, 5, [.agg [.int .i64 x13.1.Time, .vs 1 (Wq (Wr .i64) x13.1.States), .vs 1 (Wq (Wr .i64) x13.1.Since), .vs 1 (Wq Ws x13.1.Pulled), .vs 1 (Wq Ws x13.1.Held)]], 0⟩, ⟨3, 1, Wq (Wr .i64) x15.1.States, 0⟩, ⟨3, 1, Wq (Wr .i64) x15.1.Since, 0⟩, ⟨4, 1, Wq Ws x15.1.Pulled, 0⟩, ⟨34, 5, [.agg [.int .i64 x15.1.Time, .sl (low.length + 2) 0 0 (x15.1.States).length, .sl (low.length + 3) 0 0 (x15.1.Since).length, .sl (low.length + 4) 0 0 (x15.1.Pulled).length, .vs 1 (Wq Ws x15.1.Held)]], 0⟩]), (low, [⟨34, 5, [.agg [.int .i64 p1.Time, .vs 1 (Wq (Wr .i64) p1.States), .vs 1 (Wq (Wr .i64) p1.Since), .vs 1 (Wq Ws p1.Pulled), .vs 1 (Wq Ws p1.Held)]], 0⟩, ⟨34, 5, [.agg [.int .i64 x13.1.Time, .vs 1 (Wq (Wr .i64) x13.1.States), .vs 1 (Wq (Wr .i64) x13.1.Since), .vs 1 (Wq Ws x13.1.Pulled), .vs 1 (Wq Ws x13.1.Held)]], 0⟩, ⟨3, 1, Wq (Wr .i64) x15.1.States, 0⟩, ⟨3, 1, Wq (Wr .i64) x15.1.Since, 0⟩, ⟨4, 1, Wq Ws x15.1.Pulled, 0⟩, ⟨34, 5, [.agg [.int .i64 x15.1.Time, .sl (low.length + 2) 0 0 (x15.1.States).length, .sl (low.length + 3) 0 0 (x15.1.Since).length, .sl (low.length + 4) 0 0 (x15.1.Pulled).length, .vs 1 (Wq Ws x15.1.Held)]], 0⟩, ⟨3, 1, Wq (Wr .i64) x28, 0⟩])] mixed (by kernel_rfl) rfl (lenAll (Xx rfl (Xx rfl Zn))) rfl _ rfl rfl ?_
       refine Ym rfl rfl (Vk rfl) ?_
       refine Ym rfl rfl (Vk rfl) ?_
       refine Ym rfl rfl (Xl rfl rfl) ?_
       refine Ym rfl rfl (Vm rfl) ?_
       refine Zu rfl rfl rfl rfl c17 (Vv (ds := [.int .i64 x13.1.Time, .vs 1 (Wq (Wr .i64) x13.1.States), .vs 1 (Wq (Wr .i64) x13.1.Since), .vs 1 (Wq Ws x13.1.Pulled), .vs 1 (Wq Ws x13.1.Held)]) rfl (Ve rfl rfl) rfl ta_34 ts_34 rfl rfl rfl) ?_
       refine Zu rfl rfl rfl rfl c17 (Vv (ds := [.int .i64 x15.1.Time, .sl (low.length + 2) 0 0 (x15.1.States).length, .sl (low.length + 3) 0 0 (x15.1.Since).length, .sl (low.length + 4) 0 0 (x15.1.Pulled).length, .vs 1 (Wq Ws x15.1.Held)]) rfl (Ve rfl rfl) rfl ta_34 ts_34 rfl rfl rfl) ?_
       refine dops_takeW _ rfl rfl rfl (congrArg Ws c17) (Xx (nt_of (vef_callB (vs := [.agg [.int .i64 x13.1.Time, .vs 1 (Wq (Wr .i64) x13.1.States), .vs 1 (Wq (Wr .i64) x13.1.Since), .vs 1 (Wq Ws x13.1.Pulled), .vs 1 (Wq Ws x13.1.Held)], .agg [.int .i64 x15.1.Time, .vs 1 (Wq (Wr .i64) x15.1.States), .vs 1 (Wq (Wr .i64) x15.1.Since), .vs 1 (Wq Ws x15.1.Pulled), .vs 1 (Wq Ws x15.1.Held)]]) rfl Try.call40 ⟨Za rfl ((Xw ⟨.int _ _, .vs _ _, .vs _ _, .vs _ _, .vs _ _, trivial⟩)), view_agg rfl ⟨Za rfl (.int _ _), Zi rfl (Ve rfl rfl) rfl rfl (Ya (fun _ => .int _ _)) (Vx rfl), Zi rfl (Ve rfl rfl) rfl rfl (Ya (fun _ => .int _ _)) (Vx rfl), Zi rfl (Ve rfl rfl) rfl rfl (Ya (fun _ => .bool _)) (Vx rfl), Za rfl (.vs _ _), trivial⟩, trivial⟩ ((F_ref39_Same_ok h19 []).mono fun _ _ h => h.1) (.bool _))) Zn) ?_
       refine Ym rfl rfl (Vo (congrArg Ws c17) rfl) ?_
       refine Ym rfl rfl (Vm rfl) ?_
       refine Zu rfl rfl rfl rfl c20 (Xc rfl) ?_
       refine Zu rfl rfl rfl rfl c20 (Vv (ds := [.int .i64 p1.Time, .vs 1 (Wq (Wr .i64) p1.States), .vs 1 (Wq (Wr .i64) p1.Since), .vs 1 (Wq Ws p1.Pulled), .vs 1 (Wq Ws p1.Held)]) rfl (Ve rfl rfl) rfl ta_34 ts_34 rfl rfl rfl) ?_
       refine dops_takeW _ rfl rfl rfl (congrArg Ws c20) (Xx (nt_of (Xp rfl Try.call28 (F_belts_Valid_ok h22 _))) Zn) ?_
       refine Zu rfl rfl rfl rfl c20 (Xc rfl) ?_
       refine Zu rfl rfl rfl rfl c20 (Vv (ds := [.int .i64 p1.Time, .vs 1 (Wq (Wr .i64) p1.States), .vs 1 (Wq (Wr .i64) p1.Since), .vs 1 (Wq Ws p1.Pulled), .vs 1 (Wq Ws p1.Held)]) rfl (Ve rfl rfl) rfl ta_34 ts_34 rfl rfl rfl) ?_
       refine dops_takeW _ rfl rfl rfl (congrArg Ws c20) (Xx (nt_of (Xp rfl Try.call41 (F_ref39_Valid_ok h24 _))) Zn) ?_
       refine Zu rfl rfl rfl rfl c20 (rd_eqlB rfl rfl tbo_4) ?_
       refine Ym rfl rfl (Vo (congrArg Ws c20) rfl) ?_
       refine Ym rfl rfl (Vm rfl) ?_
       refine Zu rfl rfl rfl rfl c25 (Xc rfl) ?_
       refine Zu rfl rfl rfl rfl c25 (Vk rfl) ?_
       refine dops_takeW _ rfl rfl rfl (congrArg Ws c25) (Xx (nt_of (Xp rfl Try.call16 (F_belts_Above_ok h27 _))) Zn) ?_
       refine Zu rfl rfl rfl rfl c25 (Xc rfl) ?_
       refine Zu rfl rfl rfl rfl c25 (Vk rfl) ?_
       refine dops_efT rfl rfl (congrArg Ws c25) rfl rfl (Xg (r := .sl (low.length + 6) 0 0 (x28).length) (os := [⟨3, 1, Wq (Wr .i64) x28, 0⟩]) rfl Try.call43 (F_ref39_Above_ok h29 _ (Xi rfl rfl))) ?_
       refine dops_takeW _ rfl rfl rfl (congrArg Ws c25) (Xx (nt_of (vef_callB (vs := [.vs 1 (Wq (Wr .i64) x26), .vs 1 (Wq (Wr .i64) x28)]) rfl Try.call42 ⟨Za rfl (.vs _ _), Zi rfl (Ve rfl rfl) rfl rfl (Ya (fun _ => .int _ _)) (Vx rfl), trivial⟩ ((F_ref23_SameInts_ok h31 []).mono fun _ _ h => h.1) (.bool _))) Zn) ?_
       refine Ym rfl rfl (Vo (congrArg Ws c25) rfl) ?_
       refine Ym rfl rfl (Xz rfl) ?_
       refine Yz ?_
       refine Xb ?_
       obtain rfl := Wt hF
       refine Wg ?_
       exact Vt rfl [] (by decide) ⟨Vr rfl (.bool _), trivial⟩ trivial
      ·have hF := Yp c25 hF
       refine Zk [[], [], [0, 1], [0, 1, 2], [0, 1, 2, 3], [0, 1, 2, 3], [0, 1, 2, 3, 4, 5], [0, 1, 2, 3, 4, 5, 6], [0, 1, 2, 3, 4, 5, 6, 7], [0, 1, 2, 3, 4, 5, 6, 7, 8], [0, 1, 2, 3, 4, 5, 6, 7, 8], [0, 1, 2, 3, 4, 5, 6, 7, 8, 9, 10], [0, 1, 2, 3, 4, 5, 6, 7, 8], [0, 1, 2, 3, 4, 5, 6, 7, 8], [0, 1, 2, 3, 4, 5, 6, 7, 8, 9, 10, 11, 12, 13], [0, 1, 2, 3, 4, 5, 6, 7, 8, 9, 10, 11, 12, 13, 14], [0, 1, 2, 3, 4, 5, 6, 7, 8, 9, 10, 11, 12, 13, 14, 15], [0, 1, 2, 3, 4, 5, 6, 7, 8, 9, 10, 11, 12, 13, 14, 15, 16], [0, 1, 2, 3, 4, 5, 6, 7, 8, 9, 10, 11, 12, 13, 14, 15, 16, 17], [0, 1, 2, 3, 4, 5, 6, 7, 8, 9, 10, 11, 12, 13, 14, 15, 16, 17], [0, 1, 2, 3, 4, 5, 6, 7, 8, 9, 10, 11, 12, 13, 14, 15, 16, 17, 18, 19], [0, 1, 2, 3, 4, 5, 6, 7, 8, 9, 10, 11, 12, 13, 14, 15, 16, 17], [0, 1, 2, 3, 4, 5, 6, 7, 8, 9, 10, 11, 12, 13, 14, 15, 16, 17], [0, 1, 2, 3, 4, 5, 6, 7, 8, 9, 10, 11, 12, 13, 14, 15, 16, 17, 18, 19, 20, 21, 22], [0, 1, 2, 3, 4, 5, 6, 7, 8, 9, 10, 11, 12, 13, 14, 15, 16, 17, 18, 19, 20, 21, 22, 23], [0, 1, 2, 3, 4, 5, 6, 7, 8, 9, 10, 11, 12, 13, 14, 15, 16, 17, 18, 19, 20, 21, 22, 23, 24], [0, 1, 2, 3, 4, 5, 6, 7, 8, 9, 10, 11, 12, 13, 14, 15, 16, 17, 18, 19, 20, 21, 22, 23, 24, 25]] mixed (by kernel_rfl) rfl ?_
       refine Ym rfl rfl (Vk rfl) ?_
       refine Ym rfl rfl (Vk rfl) ?_
       refine Ym rfl rfl (Xl rfl rfl) ?_
       refine Ym rfl rfl (Vm rfl) ?_
       refine Zu rfl rfl rfl rfl c17 (Vv (ds := [.int .i64 x13.1.Time, .vs 1 (Wq (Wr .i64) x13.1.States), .vs 1 (Wq (Wr .i64) x13.1.Since), .vs 1 (Wq Ws x13.1.Pulled), .vs 1 (Wq Ws x13.1.Held)]) rfl (Ve rfl rfl) rfl ta_34 ts_34 rfl rfl rfl) ?_
       refine Zu rfl rfl rfl rfl c17 (Vv (ds := [.int .i64 x15.1.Time, .sl (low.length + 2) 0 0 (x15.1.States).length, .sl (low.length + 3) 0 0 (x15.1.Since).length, .sl (low.length + 4) 0 0 (x15.1.Pulled).length, .vs 1 (Wq Ws x15.1.Held)]) rfl (Ve rfl rfl) rfl ta_34 ts_34 rfl rfl rfl) ?_
       refine dops_takeW _ rfl rfl rfl (congrArg Ws c17) (Xx (nt_of (vef_callB (vs := [.agg [.int .i64 x13.1.Time, .vs 1 (Wq (Wr .i64) x13.1.States), .vs 1 (Wq (Wr .i64) x13.1.Since), .vs 1 (Wq Ws x13.1.Pulled), .vs 1 (Wq Ws x13.1.Held)], .agg [.int .i64 x15.1.Time, .vs 1 (Wq (Wr .i64) x15.1.States), .vs 1 (Wq (Wr .i64) x15.1.Since), .vs 1 (Wq Ws x15.1.Pulled), .vs 1 (Wq Ws x15.1.Held)]]) rfl Try.call40 ⟨Za rfl ((Xw ⟨.int _ _, .vs _ _, .vs _ _, .vs _ _, .vs _ _, trivial⟩)), view_agg rfl ⟨Za rfl (.int _ _), Zi rfl (Ve rfl rfl) rfl rfl (Ya (fun _ => .int _ _)) (Vx rfl), Zi rfl (Ve rfl rfl) rfl rfl (Ya (fun _ => .int _ _)) (Vx rfl), Zi rfl (Ve rfl rfl) rfl rfl (Ya (fun _ => .bool _)) (Vx rfl), Za rfl (.vs _ _), trivial⟩, trivial⟩ ((F_ref39_Same_ok h19 []).mono fun _ _ h => h.1) (.bool _))) Zn) ?_
       refine Ym rfl rfl (Vo (congrArg Ws c17) rfl) ?_
       refine Ym rfl rfl (Vm rfl) ?_
       refine Zu rfl rfl rfl rfl c20 (Xc rfl) ?_
       refine Zu rfl rfl rfl rfl c20 (Vv (ds := [.int .i64 p1.Time, .vs 1 (Wq (Wr .i64) p1.States), .vs 1 (Wq (Wr .i64) p1.Since), .vs 1 (Wq Ws p1.Pulled), .vs 1 (Wq Ws p1.Held)]) rfl (Ve rfl rfl) rfl ta_34 ts_34 rfl rfl rfl) ?_
       refine dops_takeW _ rfl rfl rfl (congrArg Ws c20) (Xx (nt_of (Xp rfl Try.call28 (F_belts_Valid_ok h22 _))) Zn) ?_
       refine Zu rfl rfl rfl rfl c20 (Xc rfl) ?_
       refine Zu rfl rfl rfl rfl c20 (Vv (ds := [.int .i64 p1.Time, .vs 1 (Wq (Wr .i64) p1.States), .vs 1 (Wq (Wr .i64) p1.Since), .vs 1 (Wq Ws p1.Pulled), .vs 1 (Wq Ws p1.Held)]) rfl (Ve rfl rfl) rfl ta_34 ts_34 rfl rfl rfl) ?_
       refine dops_takeW _ rfl rfl rfl (congrArg Ws c20) (Xx (nt_of (Xp rfl Try.call41 (F_ref39_Valid_ok h24 _))) Zn) ?_
       refine Zu rfl rfl rfl rfl c20 (rd_eqlB rfl rfl tbo_4) ?_
       refine Ym rfl rfl (Vo (congrArg Ws c20) rfl) ?_
       refine Ym rfl rfl (Vm rfl) ?_
       refine Vq rfl rfl rfl (Zz c25) ?_
       refine Vq rfl rfl rfl (Zz c25) ?_
       refine Vq rfl rfl rfl (Zz c25) ?_
       refine Vq rfl rfl rfl (Zz c25) ?_
       refine Vq rfl rfl rfl (Zz c25) ?_
       refine Vq rfl rfl rfl (Zz c25) ?_
       refine Vq rfl rfl rfl (Zz c25) ?_
       refine Ym rfl rfl (Vn (congrArg Ws c25) rfl) ?_
       refine Ym rfl rfl (Xz rfl) ?_
       refine Yz ?_
       refine Xb ?_
       obtain rfl := Wt hF
       refine Wg ?_
       exact Vt rfl [] (by decide) ⟨Vr rfl (.bool _), trivial⟩ trivial
     ·have hF := Yp c20 hF
      refine Zk [[], [], [0, 1], [0, 1, 2], [0, 1, 2, 3], [0, 1, 2, 3], [0, 1, 2, 3, 4, 5], [0, 1, 2, 3, 4, 5, 6], [0, 1, 2, 3, 4, 5, 6, 7], [0, 1, 2, 3, 4, 5, 6, 7, 8], [0, 1, 2, 3, 4, 5, 6, 7, 8], [0, 1, 2, 3, 4, 5, 6, 7, 8, 9, 10], [0, 1, 2, 3, 4, 5, 6, 7, 8], [0, 1, 2, 3, 4, 5, 6, 7, 8], [0, 1, 2, 3, 4, 5, 6, 7, 8, 9, 10, 11, 12, 13], [0, 1, 2, 3, 4, 5, 6, 7, 8, 9, 10, 11, 12, 13, 14], [0, 1, 2, 3, 4, 5, 6, 7, 8, 9, 10, 11, 12, 13, 14, 15], [0, 1, 2, 3, 4, 5, 6, 7, 8, 9, 10, 11, 12, 13, 14, 15, 16], [0, 1, 2, 3, 4, 5, 6, 7, 8, 9, 10, 11, 12, 13, 14, 15, 16, 17], [0, 1, 2, 3, 4, 5, 6, 7, 8, 9, 10, 11, 12, 13, 14, 15, 16, 17], [0, 1, 2, 3, 4, 5, 6, 7, 8, 9, 10, 11, 12, 13, 14, 15, 16, 17, 18, 19], [0, 1, 2, 3, 4, 5, 6, 7, 8, 9, 10, 11, 12, 13, 14, 15, 16, 17], [0, 1, 2, 3, 4, 5, 6, 7, 8, 9, 10, 11, 12, 13, 14, 15, 16, 17], [0, 1, 2, 3, 4, 5, 6, 7, 8, 9, 10, 11, 12, 13, 14, 15, 16, 17, 18, 19, 20, 21, 22], [0, 1, 2, 3, 4, 5, 6, 7, 8, 9, 10, 11, 12, 13, 14, 15, 16, 17, 18, 19, 20, 21, 22, 23], [0, 1, 2, 3, 4, 5, 6, 7, 8, 9, 10, 11, 12, 13, 14, 15, 16, 17, 18, 19, 20, 21, 22, 23, 24], [0, 1, 2, 3, 4, 5, 6, 7, 8, 9, 10, 11, 12, 13, 14, 15, 16, 17, 18, 19, 20, 21, 22, 23, 24, 25]] mixed (by kernel_rfl) rfl ?_
      refine Ym rfl rfl (Vk rfl) ?_
      refine Ym rfl rfl (Vk rfl) ?_
      refine Ym rfl rfl (Xl rfl rfl) ?_
      refine Ym rfl rfl (Vm rfl) ?_
      refine Zu rfl rfl rfl rfl c17 (Vv (ds := [.int .i64 x13.1.Time, .vs 1 (Wq (Wr .i64) x13.1.States), .vs 1 (Wq (Wr .i64) x13.1.Since), .vs 1 (Wq Ws x13.1.Pulled), .vs 1 (Wq Ws x13.1.Held)]) rfl (Ve rfl rfl) rfl ta_34 ts_34 rfl rfl rfl) ?_
      refine Zu rfl rfl rfl rfl c17 (Vv (ds := [.int .i64 x15.1.Time, .sl (low.length + 2) 0 0 (x15.1.States).length, .sl (low.length + 3) 0 0 (x15.1.Since).length, .sl (low.length + 4) 0 0 (x15.1.Pulled).length, .vs 1 (Wq Ws x15.1.Held)]) rfl (Ve rfl rfl) rfl ta_34 ts_34 rfl rfl rfl) ?_
      refine dops_takeW _ rfl rfl rfl (congrArg Ws c17) (Xx (nt_of (vef_callB (vs := [.agg [.int .i64 x13.1.Time, .vs 1 (Wq (Wr .i64) x13.1.States), .vs 1 (Wq (Wr .i64) x13.1.Since), .vs 1 (Wq Ws x13.1.Pulled), .vs 1 (Wq Ws x13.1.Held)], .agg [.int .i64 x15.1.Time, .vs 1 (Wq (Wr .i64) x15.1.States), .vs 1 (Wq (Wr .i64) x15.1.Since), .vs 1 (Wq Ws x15.1.Pulled), .vs 1 (Wq Ws x15.1.Held)]]) rfl Try.call40 ⟨Za rfl ((Xw ⟨.int _ _, .vs _ _, .vs _ _, .vs _ _, .vs _ _, trivial⟩)), view_agg rfl ⟨Za rfl (.int _ _), Zi rfl (Ve rfl rfl) rfl rfl (Ya (fun _ => .int _ _)) (Vx rfl), Zi rfl (Ve rfl rfl) rfl rfl (Ya (fun _ => .int _ _)) (Vx rfl), Zi rfl (Ve rfl rfl) rfl rfl (Ya (fun _ => .bool _)) (Vx rfl), Za rfl (.vs _ _), trivial⟩, trivial⟩ ((F_ref39_Same_ok h19 []).mono fun _ _ h => h.1) (.bool _))) Zn) ?_
      refine Ym rfl rfl (Vo (congrArg Ws c17) rfl) ?_
      refine Ym rfl rfl (Vm rfl) ?_
      refine Vq rfl rfl rfl (Zz c20) ?_
      refine Vq rfl rfl rfl (Zz c20) ?_
      refine Vq rfl rfl rfl (Zz c20) ?_
      refine Vq rfl rfl rfl (Zz c20) ?_
      refine Vq rfl rfl rfl (Zz c20) ?_
      refine Vq rfl rfl rfl (Zz c20) ?_
      refine Vq rfl rfl rfl (Zz c20) ?_
      refine Ym rfl rfl (Vn (congrArg Ws c20) rfl) ?_
      refine Ym rfl rfl (Vm rfl) ?_
      refine Vq rfl rfl rfl (by decide) ?_
      refine Vq rfl rfl rfl (by decide) ?_
      refine Vq rfl rfl rfl (by decide) ?_
      refine Vq rfl rfl rfl (by decide) ?_
      refine Vq rfl rfl rfl (by decide) ?_
      refine Vq rfl rfl rfl (by decide) ?_
      refine Vq rfl rfl rfl (by decide) ?_
      refine Ym rfl rfl (Vn rfl rfl) ?_
      refine Ym rfl rfl (Xz rfl) ?_
      refine Yz ?_
      refine Xb ?_
      obtain rfl := Wt hF
      refine Wg ?_
      exact Vt rfl [] (by decide) ⟨Vr rfl (.bool _), trivial⟩ trivial
    ·have hF := Yp c17 hF
     refine Zk [[], [], [0, 1], [0, 1, 2], [0, 1, 2, 3], [0, 1, 2, 3], [0, 1, 2, 3, 4, 5], [0, 1, 2, 3, 4, 5, 6], [0, 1, 2, 3, 4, 5, 6, 7], [0, 1, 2, 3, 4, 5, 6, 7, 8], [0, 1, 2, 3, 4, 5, 6, 7, 8], [0, 1, 2, 3, 4, 5, 6, 7, 8, 9, 10], [0, 1, 2, 3, 4, 5, 6, 7, 8], [0, 1, 2, 3, 4, 5, 6, 7, 8], [0, 1, 2, 3, 4, 5, 6, 7, 8, 9, 10, 11, 12, 13], [0, 1, 2, 3, 4, 5, 6, 7, 8, 9, 10, 11, 12, 13, 14], [0, 1, 2, 3, 4, 5, 6, 7, 8, 9, 10, 11, 12, 13, 14, 15], [0, 1, 2, 3, 4, 5, 6, 7, 8, 9, 10, 11, 12, 13, 14, 15, 16], [0, 1, 2, 3, 4, 5, 6, 7, 8, 9, 10, 11, 12, 13, 14, 15, 16, 17], [0, 1, 2, 3, 4, 5, 6, 7, 8, 9, 10, 11, 12, 13, 14, 15, 16, 17], [0, 1, 2, 3, 4, 5, 6, 7, 8, 9, 10, 11, 12, 13, 14, 15, 16, 17, 18, 19], [0, 1, 2, 3, 4, 5, 6, 7, 8, 9, 10, 11, 12, 13, 14, 15, 16, 17], [0, 1, 2, 3, 4, 5, 6, 7, 8, 9, 10, 11, 12, 13, 14, 15, 16, 17], [0, 1, 2, 3, 4, 5, 6, 7, 8, 9, 10, 11, 12, 13, 14, 15, 16, 17, 18, 19, 20, 21, 22], [0, 1, 2, 3, 4, 5, 6, 7, 8, 9, 10, 11, 12, 13, 14, 15, 16, 17, 18, 19, 20, 21, 22, 23], [0, 1, 2, 3, 4, 5, 6, 7, 8, 9, 10, 11, 12, 13, 14, 15, 16, 17, 18, 19, 20, 21, 22, 23, 24], [0, 1, 2, 3, 4, 5, 6, 7, 8, 9, 10, 11, 12, 13, 14, 15, 16, 17, 18, 19, 20, 21, 22, 23, 24, 25]] mixed (by kernel_rfl) rfl ?_
     refine Ym rfl rfl (Vk rfl) ?_
     refine Ym rfl rfl (Vk rfl) ?_
     refine Ym rfl rfl (Xl rfl rfl) ?_
     refine Ym rfl rfl (Vm rfl) ?_
     refine Vq rfl rfl rfl (Zz c17) ?_
     refine Vq rfl rfl rfl (Zz c17) ?_
     refine Vq rfl rfl rfl (Zz c17) ?_
     refine Ym rfl rfl (Vn (congrArg Ws c17) rfl) ?_
     refine Ym rfl rfl (Vm rfl) ?_
     refine Vq rfl rfl rfl (by decide) ?_
     refine Vq rfl rfl rfl (by decide) ?_
     refine Vq rfl rfl rfl (by decide) ?_
     refine Vq rfl rfl rfl (by decide) ?_
     refine Vq rfl rfl rfl (by decide) ?_
     refine Vq rfl rfl rfl (by decide) ?_
     refine Vq rfl rfl rfl (by decide) ?_
     refine Ym rfl rfl (Vn rfl rfl) ?_
     refine Ym rfl rfl (Vm rfl) ?_
     refine Vq rfl rfl rfl (by decide) ?_
     refine Vq rfl rfl rfl (by decide) ?_
     refine Vq rfl rfl rfl (by decide) ?_
     refine Vq rfl rfl rfl (by decide) ?_
     refine Vq rfl rfl rfl (by decide) ?_
     refine Vq rfl rfl rfl (by decide) ?_
     refine Vq rfl rfl rfl (by decide) ?_
     refine Ym rfl rfl (Vn rfl rfl) ?_
     refine Ym rfl rfl (Xz rfl) ?_
     refine Yz ?_
     refine Xb ?_
     obtain rfl := Wt hF
     refine Wg ?_
     exact Vt rfl [] (by decide) ⟨Vr rfl (.bool _), trivial⟩ trivial
 ·rintro _ _ _ _ ⟨he, hw⟩
  refine ⟨_, _, _, hw, ?_⟩
  exact Zd he [.bool r] ⟨rfl, trivial⟩ (.bool _) ⟨rfl, rfl⟩

theorem F_made_Dice_One_ok0 {p0 : T_made_Dice} {p1 : Int} {r : T_made_Dice × Bool} (hF : F_made_Dice_One p0 p1 = some r) {low0 : List AObj} {q0 w0 : Nat} (hB : Bor low0 [q0]) {n : Nat} (hn : low0.length = n) :
    Ys Try.prog 27 [.ptr q0 w0 0 0, .int .i64 p1] (setL low0 [(q0, ⟨53, 2, [.agg [.vs 1 (Wq (Wr .i64) p0.L), .int .i64 p0.At]], w0⟩)]) fun x low' => x = .bool r.2 ∧ low' = setL low0 [(q0, ⟨53, 2, [.agg [.vs 1 (Wq (Wr .i64) r.1.L), .int .i64 r.1.At]], w0⟩)] ++ [] := by
 refine Vz (nt := 11) (rs := [.tmp 4]) Try.func27 rfl rfl (Wu rfl) rfl ?_
 have hq0 : q0 < n := hB.ltN hn 0 rfl
 refine Vw (Q' := FnE (fun E' lw lc => Yb E' lw lc [(4, .bool r.2)] (setL low0 [(q0, ⟨53, 2, [.agg [.vs 1 (Wq (Wr .i64) r.1.L), .int .i64 r.1.At]], w0⟩)]) [])) ?_ ?_
 ·unfold F_made_Dice_One at hF
  refine Vi ?_
  refine Vd ?_
  refine Va (Xz rfl) rfl ?_
  refine Vf ?_
  refine Vi ?_
  refine Vd ?_
  obtain ⟨x1, h2, hF⟩ := Yt hF
  refine Va (Zq rfl) rfl ?_
  refine Va (Vk rfl) rfl ?_
  refine Vj (Zg (ps := [(q0, ⟨53, 2, [.agg [.vs 1 (Wq (Wr .i64) x1.1.L), .int .i64 x1.1.At]], w0⟩)]) (r := .int .i64 x1.2) (os := []) (low1 := (setL low0 [(q0, ⟨53, 2, [.agg [.vs 1 (Wq (Wr .i64) x1.1.L), .int .i64 x1.1.At]], w0⟩)])) (loc1 := []) (loc2 := []) rfl Try.call10 (F_made_Dice_Next_ok h2 (nd1 na0 nd0) (Wp hB rfl 0 rfl) (Xi (Vs hn) rfl)) (Wd (ps0' := [(q0, ⟨53, 2, [.agg [.vs 1 (Wq (Wr .i64) x1.1.L), .int .i64 x1.1.At]], w0⟩)]) hB rfl 0 rfl (ltObjN hn ⟨Xw ⟨.vs _ _, .int _ _, trivial⟩, trivial⟩) rfl Zl) rfl) rfl ?_
  refine Va (Vk rfl) rfl ?_
  refine Va (rd_sub rfl rfl rfl) rfl ?_
  refine Va (Xl rfl rfl) rfl ?_
  refine Va (Xz rfl) rfl ?_
  refine Vf ?_
  refine Xb ?_
  obtain rfl := Wt hF
  refine Wg ?_
  exact Vp ⟨rfl, trivial⟩
 ·rintro _ _ _ _ ⟨he, hw⟩
  refine ⟨_, _, _, hw, ?_⟩
  exact Zd he [.bool r.2] ⟨rfl, trivial⟩ (.bool _) ⟨rfl, (List.append_nil _).symm⟩

theorem F_made_Dice_One_ok {p0 : T_made_Dice} {p1 : Int} {r : T_made_Dice × Bool} (hF : F_made_Dice_One p0 p1 = some r) {low : List AObj} {q0 w0 : Nat} (hnd : [q0].Nodup) (hq0 : low[q0]? = some ⟨53, 2, [.agg [.vs 1 (Wq (Wr .i64) p0.L), .int .i64 p0.At]], w0⟩) {n : Nat} (hn : low.length = n) :
    Ys Try.prog 27 [.ptr q0 w0 0 0, .int .i64 p1] low fun x low' => x = .bool r.2 ∧ low' = setL low [(q0, ⟨53, 2, [.agg [.vs 1 (Wq (Wr .i64) r.1.L), .int .i64 r.1.At]], w0⟩)] ++ [] := by
  obtain ⟨h1, h2⟩ := We (ps := [(q0, ⟨53, 2, [.agg [.vs 1 (Wq (Wr .i64) p0.L), .int .i64 p0.At]], w0⟩)]) hnd (Wf hq0 bor0)
  exact Zx h1 (F_made_Dice_One_ok0 hF h2 hn)

theorem F_law39_some_ok0 {p0 : T_made_Dice} {r : T_made_Dice × List T_Belt} (hF : F_law39_some p0 = some r) {low0 : List AObj} {q0 w0 : Nat} (hB : Bor low0 [q0]) {n : Nat} (hn : low0.length = n) :
    Ys Try.prog 20 [.ptr q0 w0 0 0] (setL low0 [(q0, ⟨53, 2, [.agg [.vs 1 (Wq (Wr .i64) p0.L), .int .i64 p0.At]], w0⟩)]) fun x low' => x = .vs 2 (Wq T_Belt.enc r.2) ∧ low' = setL low0 [(q0, ⟨53, 2, [.agg [.vs 1 (Wq (Wr .i64) r.1.L), .int .i64 r.1.At]], w0⟩)] ++ [] := by
 refine Vz (nt := 34) (rs := [.tmp 2]) Try.func20 rfl rfl (Wu rfl) rfl ?_
 have hq0 : q0 < n := hB.ltN hn 0 rfl
 refine Vw (Q' := FnE (fun E' lw lc => Yb E' lw lc [(2, .vs 2 (Wq T_Belt.enc r.2))] (setL low0 [(q0, ⟨53, 2, [.agg [.vs 1 (Wq (Wr .i64) r.1.L), .int .i64 r.1.At]], w0⟩)]) [])) ?_ ?_
 ·unfold F_law39_some at hF
  refine Vi ?_
  refine Vd ?_
  refine Va (rd_nv (sz := 2) (rd_asN rfl)) rfl ?_
  refine Vf ?_
  refine Vi ?_
  refine Vd ?_
  refine Vj (vef_nilsN (Vs hn) rfl 31 2 (Wv _) (rd_asN rfl)) rfl ?_
  refine Vf ?_
  refine Vi ?_
  refine Vi ?_
  refine Vd ?_
  obtain ⟨x1, h2, hF⟩ := Yt hF
  refine Va (Zq rfl) rfl ?_
  refine Vj (Zg (ps := [(q0, ⟨53, 2, [.agg [.vs 1 (Wq (Wr .i64) x1.1.L), .int .i64 x1.1.At]], w0⟩)]) (r := .int .i64 x1.2) (os := []) (low1 := (setL low0 [(q0, ⟨53, 2, [.agg [.vs 1 (Wq (Wr .i64) x1.1.L), .int .i64 x1.1.At]], w0⟩)])) (loc1 := [⟨31, 2, Wq T_Belt.enc ([] : List T_Belt), 0⟩]) (loc2 := [⟨31, 2, Wq T_Belt.enc ([] : List T_Belt), 0⟩]) rfl Try.call10 (F_made_Dice_Next_ok h2 (nd1 na0 nd0) (Wp hB rfl 0 rfl) (Xi (Vs hn) rfl)) (Wd (ps0' := [(q0, ⟨53, 2, [.agg [.vs 1 (Wq (Wr .i64) x1.1.L), .int .i64 x1.1.At]], w0⟩)]) hB rfl 0 rfl (ltObjN hn ⟨Xw ⟨.vs _ _, .int _ _, trivial⟩, trivial⟩) rfl Zl) rfl) rfl ?_
  refine Va (Wk rfl rfl rfl) rfl ?_
  refine Va (Xa rfl) rfl ?_
  refine Vf ?_
  refine Yh ?_
  obtain ⟨o4, ho4, hF⟩ := Yt hF
  refine Vw (Wb F_law39_some_L1 (fun s3 E' lw lc => Yb E' lw lc [(0, .ptr q0 w0 0 0), (3, .sl (n + 0) 0 0 (s3.2.1).length), (4, .int .i64 s3.1)] (setL low0 [(q0, ⟨53, 2, [.agg [.vs 1 (Wq (Wr .i64) s3.2.2.L), .int .i64 s3.2.2.At]], w0⟩)]) [⟨31, 2, Wq T_Belt.enc s3.2.1, 0⟩]) (fun o4 => OnlyE (.exit 0) (fun E' lw lc => Yb E' lw lc [(0, .ptr q0 w0 0 0), (3, .sl (n + 0) 0 0 (o4.1).length)] (setL low0 [(q0, ⟨53, 2, [.agg [.vs 1 (Wq (Wr .i64) o4.2.L), .int .i64 o4.2.At]], w0⟩)]) [⟨31, 2, Wq T_Belt.enc o4.1, 0⟩])) ho4 ?_ (by rintro _ _ _ _ ⟨h, _⟩ <;> cases h) ?_) ?_
  ·exact Vp ⟨rfl, rfl, rfl, trivial⟩
  ·rintro s3 os3 _ _ _ hF hw
   unfold F_law39_some_L1 at hF
   refine Yd hw ?_
   refine Vi ?_
   refine Vi ?_
   refine Vd ?_
   refine Va (Vk rfl) rfl ?_
   refine Va (rd_gtr rfl rfl) rfl ?_
   refine Vf ?_
   refine Xh rfl (fun c5 => ?_) (fun c5 => ?_)
   ·have hF := Yo c5 hF
    refine Xn ?_
    refine Vi ?_
    refine Yh ?_
    refine Vd ?_
    obtain ⟨x6, h7, hF⟩ := Yt hF
    obtain ⟨x8, h9, hF⟩ := Yt hF
    obtain ⟨x10, h11, hF⟩ := Yt hF
    refine Va (rd_mvL rfl) rfl ?_
    refine Va (Zq rfl) rfl ?_
    refine Va (rd_mvL rfl) rfl ?_
    refine Va (rd_lenS rfl (Ve (Vs hn) rfl) rfl rfl te_27) rfl ?_
    refine Va (Wk rfl rfl rfl) rfl ?_
    refine Vj (Zg (ps := [(q0, ⟨53, 2, [.agg [.vs 1 (Wq (Wr .i64) x6.1.L), .int .i64 x6.1.At]], w0⟩)]) (r := .int .i64 x6.2) (os := []) (low1 := (setL low0 [(q0, ⟨53, 2, [.agg [.vs 1 (Wq (Wr .i64) x6.1.L), .int .i64 x6.1.At]], w0⟩)])) (loc1 := [⟨31, 2, Wq T_Belt.enc s3.2.1, 0⟩]) (loc2 := [⟨31, 2, Wq T_Belt.enc s3.2.1, 0⟩]) rfl Try.call10 (F_made_Dice_Next_ok h7 (nd1 na0 nd0) (Wp hB rfl 0 rfl) (Xi (Vs hn) rfl)) (Wd (ps0' := [(q0, ⟨53, 2, [.agg [.vs 1 (Wq (Wr .i64) x6.1.L), .int .i64 x6.1.At]], w0⟩)]) hB rfl 0 rfl (ltObjN hn ⟨Xw ⟨.vs _ _, .int _ _, trivial⟩, trivial⟩) rfl Zl) rfl) rfl ?_
    refine Va (rd_sub rfl rfl rfl) rfl ?_
    refine Va (Zq rfl) rfl ?_
    refine Vj (vef_litF (es := Wq (Wr .i64) [5, 0, 20]) ⟨rfl, rfl, rfl, rfl, rfl, rfl, trivial⟩ rfl rfl (nt_all rfl) te_22 ts_3 tz_3 rfl rfl (Wv _) (by decide) (Ya (fun _ => .int _ _))) rfl ?_
    refine Vj (Zg (ps := [(q0, ⟨53, 2, [.agg [.vs 1 (Wq (Wr .i64) x8.1.L), .int .i64 x8.1.At]], w0⟩)]) (r := .int .i64 x8.2) (os := []) (low1 := (setL low0 [(q0, ⟨53, 2, [.agg [.vs 1 (Wq (Wr .i64) x8.1.L), .int .i64 x8.1.At]], w0⟩)])) (loc1 := [⟨31, 2, Wq T_Belt.enc s3.2.1, 0⟩]) (loc2 := [⟨31, 2, Wq T_Belt.enc s3.2.1, 0⟩]) rfl Try.call11 (F_made_Dice_Of_ok h9 (nd1 na0 nd0) (Wp hB rfl 0 rfl) (Xi (Vs hn) rfl)) (Wd (ps0' := [(q0, ⟨53, 2, [.agg [.vs 1 (Wq (Wr .i64) x8.1.L), .int .i64 x8.1.At]], w0⟩)]) hB rfl 0 rfl (ltObjN hn ⟨Xw ⟨.vs _ _, .int _ _, trivial⟩, trivial⟩) rfl Zl) rfl) rfl ?_
    refine Va (Wh (vs := [(0, .int .i64 (IntKind.i64.wrap (x6.2 - 1))), (1, .int .i64 x8.2)]) (ds := [.int .i64 (IntKind.i64.wrap (x6.2 - 1)), .int .i64 x8.2]) tz_31 rfl rfl tp_31 ⟨rfl, rfl, rfl, rfl, trivial⟩ (Wo rfl) rfl) rfl ?_
    refine Vj (vef_litF (es := Wq T_Belt.enc [(T_Belt.mk (IntKind.i64.wrap (x6.2 - 1)) x8.2)]) ⟨rfl, rfl, trivial⟩ rfl rfl (nt_all rfl) te_27 ts_31 tz_31 rfl rfl (Wv _) (by decide) (Ya T_Belt.enc_lt)) rfl ?_
    refine Vj (vef_apL (f := T_Belt.enc) (l := s3.2.1) (ys := [(T_Belt.mk (IntKind.i64.wrap (x6.2 - 1)) x8.2)]) rfl rfl (Ve (Vs hn) rfl) rfl (src_vs rfl) te_27 ts_31 tb_31 (by decide) tz_31 rfl h11 (Xr (Vs hn) rfl)) rfl ?_
    refine Va (rd_asL rfl) rfl ?_
    refine Vf ?_
    refine Vd ?_
    refine Va (Vk rfl) rfl ?_
    refine Va (rd_sub rfl rfl rfl) rfl ?_
    refine Va (Xa rfl) rfl ?_
    refine Vf ?_
    obtain rfl := Wt hF
    refine Xy ?_
    exact Vt (Vs hn) [(0, 0 + 1)] (by decide) ⟨Vr rfl (.ptr _ _ _ _ hq0), Xq 0 0 rfl rfl, Vr rfl (.int _ _), trivial⟩ ⟨⟨_, rfl, rfl, .same _ _ _ _ (Vh T_Belt.enc_lt)⟩, trivial⟩
   ·have hF := Yp c5 hF
    refine Wi ?_
    obtain rfl := Wt hF
    refine Xy ?_
    exact Vp ⟨rfl, rfl, trivial⟩
  ·rintro _ _ _ _ ⟨rfl, hw⟩
   refine ⟨_, _, _, hw, ?_⟩
   refine Vi ?_
   refine Vi ?_
   refine Vd ?_
   obtain ⟨x12, h13, hF⟩ := Yt hF
   refine Va (Zq rfl) rfl ?_
   refine Vj (Zg (ps := [(q0, ⟨53, 2, [.agg [.vs 1 (Wq (Wr .i64) x12.1.L), .int .i64 x12.1.At]], w0⟩)]) (r := .bool x12.2) (os := []) (low1 := (setL low0 [(q0, ⟨53, 2, [.agg [.vs 1 (Wq (Wr .i64) x12.1.L), .int .i64 x12.1.At]], w0⟩)])) (loc1 := [⟨31, 2, Wq T_Belt.enc o4.1, 0⟩]) (loc2 := [⟨31, 2, Wq T_Belt.enc o4.1, 0⟩]) rfl Try.call27 (F_made_Dice_One_ok h13 (nd1 na0 nd0) (Wp hB rfl 0 rfl) (Xi (Vs hn) rfl)) (Wd (ps0' := [(q0, ⟨53, 2, [.agg [.vs 1 (Wq (Wr .i64) x12.1.L), .int .i64 x12.1.At]], w0⟩)]) hB rfl 0 rfl (ltObjN hn ⟨Xw ⟨.vs _ _, .int _ _, trivial⟩, trivial⟩) rfl Zl) rfl) rfl ?_
   refine Vf ?_
   obtain ⟨o14, ho14, hF⟩ := Yt hF
   refine Vw (Q' := (fun o14 => OnlyE .normal (fun E' lw lc => Yb E' lw lc [(3, .sl (n + 0) 0 0 (o14).length)] (setL low0 [(q0, ⟨53, 2, [.agg [.vs 1 (Wq (Wr .i64) x12.1.L), .int .i64 x12.1.At]], w0⟩)]) [⟨31, 2, Wq T_Belt.enc o14, 0⟩])) o14) ?_ ?_
   ·replace hF := ho14
    refine Xh rfl (fun c15 => ?_) (fun c15 => ?_)
    ·have hF := Yo c15 hF
     refine Vd ?_
     obtain ⟨x16, h17, hF⟩ := Yt hF
     refine Va (rd_mvL rfl) rfl ?_
     refine Va (rd_mvL rfl) rfl ?_
     refine Va (rd_lenS rfl (Ve (Vs hn) rfl) rfl rfl te_27) rfl ?_
     refine Va (rd_sub rfl rfl rfl) rfl ?_
     refine Va (Wa rfl rfl rfl (Ve (Vs hn) rfl) h17 te_27 ts_31) rfl ?_
     refine Va (Vc rfl tf_31_0 ts_3 (by decide)) rfl ?_
     refine Vj (Wl (p := .int .i64 (IntKind.i64.wrap (((o4.1).length : Int) - 1))) (e' := (T_Belt.mk (IntKind.i64.wrap (((o4.1).length : Int) - 1)) x16.Warn)) rfl (Ve (Vs hn) rfl) (Zb h17).2 rfl ts_3 rfl (Ye rfl) (Wu rfl) rfl (Xr (Vs hn) rfl)) rfl ?_
     refine Vf ?_
     obtain rfl := Wt hF
     refine Xy ?_
     exact Vt (Vs hn) [(0, 0)] (by decide) ⟨Xq 0 0 rfl (congrArg (PV.sl _ _ 0) (Eq.trans rfl List.length_set.symm)), trivial⟩ ⟨⟨_, rfl, rfl, .same _ _ _ _ (Vh T_Belt.enc_lt)⟩, trivial⟩
    ·have hF := Yp c15 hF
     refine Xn ?_
     obtain rfl := Wt hF
     refine Xy ?_
     exact Vp ⟨rfl, trivial⟩
   ·rintro _ _ _ _ ⟨rfl, hw⟩
    refine ⟨_, _, _, hw, ?_⟩
    refine Vi ?_
    refine Vd ?_
    refine Va (rd_mvL rfl) rfl ?_
    refine Va (rd_asL rfl) rfl ?_
    refine Vf ?_
    refine Xb ?_
    obtain rfl := Wt hF
    refine Wg ?_
    refine Weak.trans (Xm (E' := [(2, .vs 2 (Wq T_Belt.enc o14))]) (loc1 := [⟨31, 2, [], 0 + 1⟩]) (Vs hn) 0 rfl (Ya T_Belt.enc_lt) ⟨Zj rfl rfl rfl (Vx rfl), trivial⟩ ⟨.refl _, trivial⟩) ?_
    exact Vt (Vs hn) [] (by decide) ⟨Vr rfl (.vs _ _), trivial⟩ trivial
 ·rintro _ _ _ _ ⟨he, hw⟩
  refine ⟨_, _, _, hw, ?_⟩
  exact Zd he [.vs 2 (Wq T_Belt.enc r.2)] ⟨rfl, trivial⟩ (.vs _ _) ⟨rfl, (List.append_nil _).symm⟩

theorem F_law39_some_ok {p0 : T_made_Dice} {r : T_made_Dice × List T_Belt} (hF : F_law39_some p0 = some r) {low : List AObj} {q0 w0 : Nat} (hnd : [q0].Nodup) (hq0 : low[q0]? = some ⟨53, 2, [.agg [.vs 1 (Wq (Wr .i64) p0.L), .int .i64 p0.At]], w0⟩) {n : Nat} (hn : low.length = n) :
    Ys Try.prog 20 [.ptr q0 w0 0 0] low fun x low' => x = .vs 2 (Wq T_Belt.enc r.2) ∧ low' = setL low [(q0, ⟨53, 2, [.agg [.vs 1 (Wq (Wr .i64) r.1.L), .int .i64 r.1.At]], w0⟩)] ++ [] := by
  obtain ⟨h1, h2⟩ := We (ps := [(q0, ⟨53, 2, [.agg [.vs 1 (Wq (Wr .i64) p0.L), .int .i64 p0.At]], w0⟩)]) hnd (Wf hq0 bor0)
  exact Zx h1 (F_law39_some_ok0 hF h2 hn)

theorem F_law39_BeltsMade_ok {p0 : List Int} {r : Bool} (hF : F_law39_BeltsMade p0 = some r) (low : List AObj) :
    Ys Try.prog 5 [.vs 1 (Wq (Wr .i64) p0)] low fun x low' => x = .bool r ∧ low' = low := by
 refine Vz (nt := 110) (rs := [.tmp 2]) Try.func5 rfl rfl (Wu rfl) rfl ?_
 refine Vw (Q' := FnE (fun E' lw lc => Yb E' lw lc [(2, .bool r)] low [])) ?_ ?_
 ·unfold F_law39_BeltsMade at hF
  refine Vi ?_
  refine Vd ?_
  refine Va (Xz rfl) rfl ?_
  refine Vf ?_
  refine Vi ?_
  refine Vi ?_
  refine Vd ?_
  obtain ⟨x1, h2, hF⟩ := Yt hF
  refine Va (Xc rfl) rfl ?_
  refine Vj (Xp rfl Try.call7 (F_made_Light_ok h2 _)) rfl ?_
  refine Va (Zp rfl) rfl ?_
  refine Vf ?_
  refine Xh rfl (fun c3 => ?_) (fun c3 => ?_)
  ·have hF := Yo c3 hF
   refine Vi ?_
   refine Vd ?_
   obtain ⟨x4, h5, hF⟩ := Yt hF
   refine Vj (Xp rfl Try.call8 (F_law39_awake_ok h5 _)) rfl ?_
   refine Va (Xz rfl) rfl ?_
   refine Vf ?_
   refine Xb ?_
   obtain rfl := Wt hF
   refine Wg ?_
   exact Vp ⟨rfl, trivial⟩
  ·have hF := Yp c3 hF
   refine Xn ?_
   refine Vi ?_
   refine Vd ?_
   obtain ⟨x6, h7, hF⟩ := Yt hF
   refine Va (Xc rfl) rfl ?_
   refine Vj (Xg (r := .ptr (low.length + 0) 0 0 0) (os := [⟨53, 2, [.agg [.vs 1 (Wq (Wr .i64) x6.L), .int .i64 x6.At]], 0⟩]) rfl Try.call9 (F_made_Roll_ok h7 _ (Xi rfl rfl))) rfl ?_
   refine Va (rd_asP rfl) rfl ?_
   refine Vf ?_
   refine Vi ?_
   refine Vd ?_
   obtain ⟨x8, h9, hF⟩ := Yt hF
   refine Va (Zq rfl) rfl ?_
   refine Vj (Zg (ps := [((low.length + 0), ⟨53, 2, [.agg [.vs 1 (Wq (Wr .i64) x8.1.L), .int .i64 x8.1.At]], 0⟩)]) (r := .vs 2 (Wq T_Belt.enc x8.2)) (os := []) (low1 := low) (loc1 := [⟨53, 2, [.agg [.vs 1 (Wq (Wr .i64) x8.1.L), .int .i64 x8.1.At]], 0⟩]) (loc2 := [⟨53, 2, [.agg [.vs 1 (Wq (Wr .i64) x8.1.L), .int .i64 x8.1.At]], 0⟩]) rfl Try.call20 (F_law39_some_ok h9 (nd1 na0 nd0) (Zt rfl rfl) (Xi rfl rfl)) (Yq (loc2 := [⟨53, 2, [.agg [.vs 1 (Wq (Wr .i64) x8.1.L), .int .i64 x8.1.At]], 0⟩]) rfl 0 rfl Zl) rfl) rfl ?_
   refine Va (rd_asV rfl) rfl ?_
   refine Vf ?_
   refine Vi ?_
   refine Vd ?_
   obtain ⟨x10, h11, hF⟩ := Yt hF
   refine Va (Xc rfl) rfl ?_
   refine Vj (Xg (r := .tup [.agg [.int .i64 x10.1.Time, .sl (low.length + 1) 0 0 (x10.1.States).length, .sl (low.length + 2) 0 0 (x10.1.Since).length, .sl (low.length + 3) 0 0 (x10.1.Pulled).length, .vs 1 (Wq Ws x10.1.Held)], .int .i64 x10.2]) (os := [⟨3, 1, Wq (Wr .i64) x10.1.States, 0⟩, ⟨3, 1, Wq (Wr .i64) x10.1.Since, 0⟩, ⟨4, 1, Wq Ws x10.1.Pulled, 0⟩]) rfl Try.call21 (F_ref39_Make_ok h11 _ (Xi rfl rfl))) rfl ?_
   refine Va (rd_mvT rfl) rfl ?_
   refine Va (Xu rfl rfl) rfl ?_
   refine Va (Xu rfl rfl) rfl ?_
   refine Vj (Xe rfl rfl tz_34 rfl rfl (Wv _) rfl) rfl ?_
   refine Vj (Vy (p := .agg [.int .i64 x10.1.Time, .sl (low.length + 1) 0 0 (x10.1.States).length, .sl (low.length + 2) 0 0 (x10.1.Since).length, .sl (low.length + 3) 0 0 (x10.1.Pulled).length, .vs 1 (Wq Ws x10.1.Held)]) (e' := .agg [.int .i64 x10.1.Time, .sl (low.length + 1) 0 0 (x10.1.States).length, .sl (low.length + 2) 0 0 (x10.1.Since).length, .sl (low.length + 3) 0 0 (x10.1.Pulled).length, .vs 1 (Wq Ws x10.1.Held)]) rfl (Ve rfl rfl) rfl rfl ts_34 rfl (Ye rfl) rfl (Wu rfl) rfl (Xr rfl rfl)) rfl ?_
   refine Va (Xa rfl) rfl ?_
   refine Vf ?_
   refine Vi ?_
   refine Vi ?_
   refine Vd ?_
   obtain ⟨x12, h13, hF⟩ := Yt hF
   refine Va (Zq rfl) rfl ?_
   refine Vj (Zg (ps := [((low.length + 0), ⟨53, 2, [.agg [.vs 1 (Wq (Wr .i64) x12.1.L), .int .i64 x12.1.At]], 0⟩)]) (r := .int .i64 x12.2) (os := []) (low1 := low) (loc1 := [⟨53, 2, [.agg [.vs 1 (Wq (Wr .i64) x12.1.L), .int .i64 x12.1.At]], 0⟩, ⟨3, 1, Wq (Wr .i64) x10.1.States, 0⟩, ⟨3, 1, Wq (Wr .i64) x10.1.Since, 0⟩, ⟨4, 1, Wq Ws x10.1.Pulled, 0⟩, ⟨34, 5, [.agg [.int .i64 x10.1.Time, .sl (low.length + 1) 0 0 (x10.1.States).length, .sl (low.length + 2) 0 0 (x10.1.Since).length, .sl (low.length + 3) 0 0 (x10.1.Pulled).length, .vs 1 (Wq Ws x10.1.Held)]], 0⟩]) (loc2 := [⟨53, 2, [.agg [.vs 1 (Wq (Wr .i64) x12.1.L), .int .i64 x12.1.At]], 0⟩, ⟨3, 1, Wq (Wr .i64) x10.1.States, 0⟩, ⟨3, 1, Wq (Wr .i64) x10.1.Since, 0⟩, ⟨4, 1, Wq Ws x10.1.Pulled, 0⟩, ⟨34, 5, [.agg [.int .i64 x10.1.Time, .sl (low.length + 1) 0 0 (x10.1.States).length, .sl (low.length + 2) 0 0 (x10.1.Since).length, .sl (low.length + 3) 0 0 (x10.1.Pulled).length, .vs 1 (Wq Ws x10.1.Held)]], 0⟩]) rfl Try.call10 (F_made_Dice_Next_ok h13 (nd1 na0 nd0) (Zt rfl rfl) (Xi rfl rfl)) (Yq (loc2 := [⟨53, 2, [.agg [.vs 1 (Wq (Wr .i64) x12.1.L), .int .i64 x12.1.At]], 0⟩, ⟨3, 1, Wq (Wr .i64) x10.1.States, 0⟩, ⟨3, 1, Wq (Wr .i64) x10.1.Since, 0⟩, ⟨4, 1, Wq Ws x10.1.Pulled, 0⟩, ⟨34, 5, [.agg [.int .i64 x10.1.Time, .sl (low.length + 1) 0 0 (x10.1.States).length, .sl (low.length + 2) 0 0 (x10.1.Since).length, .sl (low.length + 3) 0 0 (x10.1.Pulled).length, .vs 1 (Wq Ws x10.1.Held)]], 0⟩]) rfl 0 rfl Zl) rfl) rfl ?_
   refine Va (Xa rfl) rfl ?_
   refine Vf ?_
   refine Yh ?_
   obtain ⟨o15, ho15, hF⟩ := Yt hF
   refine Vw (Wb (F_law39_BeltsMade_L1 x8) (fun s14 E' lw lc => Yb E' lw lc [(3, .ptr (low.length + 0) 0 0 0), (4, .vs 2 (Wq T_Belt.enc x8.2)), (5, .ptr (low.length + 1) 0 0 0), (7, .int .i64 s14.1)] low [⟨53, 2, [.agg [.vs 1 (Wq (Wr .i64) s14.2.1.L), .int .i64 s14.2.1.At]], 0⟩, ⟨34, 5, [.agg [.int .i64 s14.2.2.Time, .sl (low.length + 2) 0 0 (s14.2.2.States).length, .sl (low.length + 3) 0 0 (s14.2.2.Since).length, .sl (low.length + 4) 0 0 (s14.2.2.Pulled).length, .vs 1 (Wq Ws s14.2.2.Held)]], 0⟩, ⟨3, 1, Wq (Wr .i64) s14.2.2.States, 0⟩, ⟨3, 1, Wq (Wr .i64) s14.2.2.Since, 0⟩, ⟨4, 1, Wq Ws s14.2.2.Pulled, 0⟩]) (Sum.elim (fun j16 => OnlyE .ret (fun E' lw lc => Yb E' lw lc [(2, .bool false)] low [])) (fun j17 => OnlyE (.exit 0) (fun E' lw lc => Yb E' lw lc [(3, .ptr (low.length + 0) 0 0 0), (4, .vs 2 (Wq T_Belt.enc x8.2)), (5, .ptr (low.length + 1) 0 0 0)] low [⟨53, 2, [.agg [.vs 1 (Wq (Wr .i64) j17.1.L), .int .i64 j17.1.At]], 0⟩, ⟨34, 5, [.agg [.int .i64 j17.2.Time, .sl (low.length + 2) 0 0 (j17.2.States).length, .sl (low.length + 3) 0 0 (j17.2.Since).length, .sl (low.length + 4) 0 0 (j17.2.Pulled).length, .vs 1 (Wq Ws j17.2.Held)]], 0⟩, ⟨3, 1, Wq (Wr .i64) j17.2.States, 0⟩, ⟨3, 1, Wq (Wr .i64) j17.2.Since, 0⟩, ⟨4, 1, Wq Ws j17.2.Pulled, 0⟩]))) ho15 ?_ (by rintro (_|_) _ _ _ ⟨h, _⟩ <;> cases h) ?_) ?_
   ·exact Vt rfl [(0, 0), (4, 0), (1, 0), (2, 0), (3, 0)] (by decide) ⟨Yj 0 0 rfl rfl, Vr rfl (.vs _ _), Yj 1 4 rfl rfl, Vr rfl (.int _ _), trivial⟩ ⟨⟨_, rfl, rfl, .same _ _ _ _ (Xt ⟨Xw ⟨.vs _ _, .int _ _, trivial⟩, trivial⟩)⟩, ⟨_, rfl, rfl, .agg _ _ _ _ _ ⟨Vr rfl (.int _ _), Xq 2 1 rfl rfl, Xq 3 2 rfl rfl, Xq 4 3 rfl rfl, Vr rfl (.vs _ _), trivial⟩⟩, ⟨_, rfl, rfl, .same _ _ _ _ (Vh (fun _ => .int _ _))⟩, ⟨_, rfl, rfl, .same _ _ _ _ (Vh (fun _ => .int _ _))⟩, ⟨_, rfl, rfl, .same _ _ _ _ (Vh (fun _ => .bool _))⟩, trivial⟩
   ·rintro s14 os14 _ _ _ hF hw
    unfold F_law39_BeltsMade_L1 at hF
    refine Yd hw ?_
    refine Vi ?_
    refine Vi ?_
    refine Vd ?_
    refine Va (Vk rfl) rfl ?_
    refine Va (rd_gtr rfl rfl) rfl ?_
    refine Vf ?_
    refine Xh rfl (fun c18 => ?_) (fun c18 => ?_)
    ·have hF := Yo c18 hF
     refine Xn ?_
     refine Vi ?_
     refine Yh ?_
     refine Vi ?_
     obtain ⟨x19, h20, hF⟩ := Yt hF
     obtain ⟨x21, h22, hF⟩ := Yt hF
     obtain ⟨x23, h24, hF⟩ := Yt hF
     refine Wc [[], [], [1], [1, 2], [0, 1, 2, 3], [], [0, 1, 2, 3, 4, 5], [0, 1, 2, 3, 4, 5, 6], [], [8], [], [], [0, 1, 2, 3, 4, 5, 6, 10, 11], [0, 1, 2, 3, 4, 5, 6, 8, 9, 10, 11, 12], [0, 1, 2, 3, 4, 5, 6, 7, 10, 11, 12], [0, 1, 2, 3, 4, 5, 6, 7, 8, 9, 10, 11, 12, 13, 14]] [false, false, false, false, true, false, true, false, false, false, false, false, true, false, false, false] [(low, [⟨53, 2, [.agg [.vs 1 (Wq (Wr .i64) s14.2.1.L), .int .i64 s14.2.1.At]], 0⟩, ⟨34, 5, [.agg [.int .i64 s14.2.2.Time, .sl (low.length + 2) 0 0 (s14.2.2.States).length, .sl (low.length + 3) 0 0 (s14.2.2.Since).length, .sl (low.length + 4) 0 0 (s14.2.2.Pulled).length, .vs 1 (Wq Ws s14.2.2.Held)]], 0⟩, ⟨3, 1, Wq (Wr .i64) s14.2.2.States, 0⟩, ⟨3, 1, Wq (Wr .i64) s14.2.2.Since, 0⟩, ⟨4, 1, Wq Ws s14.2.2.Pulled, 0⟩]), (low, [⟨53, 2, [.agg [.vs 1 (Wq (Wr .i64) x19.1.L), .int .i64 x19.1.At]], 0⟩, ⟨34, 5, [.agg [.int .i64 s14.2.2.Time, .sl (low.length + 2) 0 0 (s14.2.2.States).length, .sl (low.length + 3) 0 0 (s14.2.2.Since).length, .sl (low.length + 4) 0 0 (s14.2.2.Pulled).length, .vs 1 (Wq Ws s14.2.2.Held)]], 0⟩, ⟨3, 1, Wq (Wr .i64) s14.2.2.States, 0⟩, ⟨3, 1, Wq (Wr .i64) s14.2.2.Since, 0⟩, ⟨4, 1, Wq Ws s14.2.2.Pulled, 0⟩]), (low, [⟨53, 2, [.agg [.vs 1 (Wq (Wr .i64) x21.1.L), .int .i64 x21.1.At]], 0⟩, ⟨34, 5, [.agg [.int .i64 s14.2.2.Time, .sl (low.length + 2) 0 0 (s14.2.2.States).length, .sl (low.length + 3) 0 0 (s14.2.2.Since).length, .sl (low.length + 4) 0 0 (s14.2.2.Pulled).length, .vs 1 (Wq Ws s14.2.2.Held)]], 0⟩, ⟨3, 1, Wq (Wr .i64) s14.2.2.States, 0⟩, ⟨3, 1, Wq (Wr .i64) s14.2.2.Since, 0⟩, ⟨4, 1, Wq Ws s14.2.2.Pulled, 0⟩]), (low, [⟨53, 2, [.agg [.vs 1 (Wq (Wr .i64) x23.1.L), .int .i64 x23.1.At]], 0⟩, ⟨34, 5, [.agg [.int .i64 s14.2.2.Time, .sl (low.length + 2) 0 0 (s14.2.2.States).length, .sl (low.length + 3) 0 0 (s14.2.2.Since).length, .sl (low.length + 4) 0 0 (s14.2.2.Pulled).length, .vs 1 (Wq Ws s14.2.2.Held)]], 0⟩, ⟨3, 1, Wq (Wr .i64) s14.2.2.States, 0⟩, ⟨3, 1, Wq (Wr .i64) s14.2.2.Since, 0⟩, ⟨4, 1, Wq Ws s14.2.2.Pulled, 0⟩])] mixed (by kernel_rfl) rfl (lenAll (Xx rfl (Xx rfl (Xx rfl (Xx rfl Zn))))) rfl _ rfl rfl ?_
     refine Ym rfl rfl (Zq rfl) ?_
     refine Ym rfl rfl (Xc rfl) ?_
     refine Ym rfl rfl (Xk (Xv rfl rfl te_27) (congrArg (fun n : Nat => Wr .i64 (n : Int)) (Wx _))) ?_
     refine Ym rfl rfl (Wk rfl rfl rfl) ?_
     refine Zh rfl rfl rfl (Zg (ps := [((low.length + 0), ⟨53, 2, [.agg [.vs 1 (Wq (Wr .i64) x19.1.L), .int .i64 x19.1.At]], 0⟩)]) (r := .int .i64 x19.2) (os := []) (low1 := low) (loc1 := [⟨53, 2, [.agg [.vs 1 (Wq (Wr .i64) x19.1.L), .int .i64 x19.1.At]], 0⟩, ⟨34, 5, [.agg [.int .i64 s14.2.2.Time, .sl (low.length + 2) 0 0 (s14.2.2.States).length, .sl (low.length + 3) 0 0 (s14.2.2.Since).length, .sl (low.length + 4) 0 0 (s14.2.2.Pulled).length, .vs 1 (Wq Ws s14.2.2.Held)]], 0⟩, ⟨3, 1, Wq (Wr .i64) s14.2.2.States, 0⟩, ⟨3, 1, Wq (Wr .i64) s14.2.2.Since, 0⟩, ⟨4, 1, Wq Ws s14.2.2.Pulled, 0⟩]) (loc2 := [⟨53, 2, [.agg [.vs 1 (Wq (Wr .i64) x19.1.L), .int .i64 x19.1.At]], 0⟩, ⟨34, 5, [.agg [.int .i64 s14.2.2.Time, .sl (low.length + 2) 0 0 (s14.2.2.States).length, .sl (low.length + 3) 0 0 (s14.2.2.Since).length, .sl (low.length + 4) 0 0 (s14.2.2.Pulled).length, .vs 1 (Wq Ws s14.2.2.Held)]], 0⟩, ⟨3, 1, Wq (Wr .i64) s14.2.2.States, 0⟩, ⟨3, 1, Wq (Wr .i64) s14.2.2.Since, 0⟩, ⟨4, 1, Wq Ws s14.2.2.Pulled, 0⟩]) rfl Try.call10 (F_made_Dice_Next_ok h20 (nd1 na0 nd0) (Zt rfl rfl) (Xi rfl rfl)) (Yq (loc2 := [⟨53, 2, [.agg [.vs 1 (Wq (Wr .i64) x19.1.L), .int .i64 x19.1.At]], 0⟩, ⟨34, 5, [.agg [.int .i64 s14.2.2.Time, .sl (low.length + 2) 0 0 (s14.2.2.States).length, .sl (low.length + 3) 0 0 (s14.2.2.Since).length, .sl (low.length + 4) 0 0 (s14.2.2.Pulled).length, .vs 1 (Wq Ws s14.2.2.Held)]], 0⟩, ⟨3, 1, Wq (Wr .i64) s14.2.2.States, 0⟩, ⟨3, 1, Wq (Wr .i64) s14.2.2.Since, 0⟩, ⟨4, 1, Wq Ws s14.2.2.Pulled, 0⟩]) rfl 0 rfl Zl) rfl) ?_
     refine Yi _ rfl rfl (Xx (VRd.ntl (Zq rfl)) (Xx (VRd.ntl (Zq rfl)) Zn)) ?_
     refine Zh rfl rfl rfl (Zg (ps := [((low.length + 0), ⟨53, 2, [.agg [.vs 1 (Wq (Wr .i64) x21.1.L), .int .i64 x21.1.At]], 0⟩)]) (r := .int .i64 x21.2) (os := []) (low1 := low) (loc1 := [⟨53, 2, [.agg [.vs 1 (Wq (Wr .i64) x21.1.L), .int .i64 x21.1.At]], 0⟩, ⟨34, 5, [.agg [.int .i64 s14.2.2.Time, .sl (low.length + 2) 0 0 (s14.2.2.States).length, .sl (low.length + 3) 0 0 (s14.2.2.Since).length, .sl (low.length + 4) 0 0 (s14.2.2.Pulled).length, .vs 1 (Wq Ws s14.2.2.Held)]], 0⟩, ⟨3, 1, Wq (Wr .i64) s14.2.2.States, 0⟩, ⟨3, 1, Wq (Wr .i64) s14.2.2.Since, 0⟩, ⟨4, 1, Wq Ws s14.2.2.Pulled, 0⟩]) (loc2 := [⟨53, 2, [.agg [.vs 1 (Wq (Wr .i64) x21.1.L), .int .i64 x21.1.At]], 0⟩, ⟨34, 5, [.agg [.int .i64 s14.2.2.Time, .sl (low.length + 2) 0 0 (s14.2.2.States).length, .sl (low.length + 3) 0 0 (s14.2.2.Since).length, .sl (low.length + 4) 0 0 (s14.2.2.Pulled).length, .vs 1 (Wq Ws s14.2.2.Held)]], 0⟩, ⟨3, 1, Wq (Wr .i64) s14.2.2.States, 0⟩, ⟨3, 1, Wq (Wr .i64) s14.2.2.Since, 0⟩, ⟨4, 1, Wq Ws s14.2.2.Pulled, 0⟩]) rfl Try.call10 (F_made_Dice_Next_ok h22 (nd1 na0 nd0) (Zt rfl rfl) (Xi rfl rfl)) (Yq (loc2 := [⟨53, 2, [.agg [.vs 1 (Wq (Wr .i64) x21.1.L), .int .i64 x21.1.At]], 0⟩, ⟨34, 5, [.agg [.int .i64 s14.2.2.Time, .sl (low.length + 2) 0 0 (s14.2.2.States).length, .sl (low.length + 3) 0 0 (s14.2.2.Since).length, .sl (low.length + 4) 0 0 (s14.2.2.Pulled).length, .vs 1 (Wq Ws s14.2.2.Held)]], 0⟩, ⟨3, 1, Wq (Wr .i64) s14.2.2.States, 0⟩, ⟨3, 1, Wq (Wr .i64) s14.2.2.Since, 0⟩, ⟨4, 1, Wq Ws s14.2.2.Pulled, 0⟩]) rfl 0 rfl Zl) rfl) ?_
     refine Yi _ rfl rfl (Xx (VRd.ntl (rd_sub rfl rfl rfl)) (Xx (VRd.ntl (rd_sub rfl rfl rfl)) Zn)) ?_
     refine Yi _ rfl rfl (Xx (VRd.ntl (Vc rfl tf_34_0 ts_3 (by decide))) (Xx (VRd.ntl (Vc rfl tf_34_0 ts_3 (by decide))) (Xx (VRd.ntl (Vc rfl tf_34_0 ts_3 (by decide))) (Xx (VRd.ntl (Vc rfl tf_34_0 ts_3 (by decide))) Zn)))) ?_
     refine Yi _ rfl rfl (Xx (VRd.ntl (Vg rfl (Ve rfl rfl) rfl ta_3 rfl)) (Xx (VRd.ntl (Vg rfl (Ve rfl rfl) rfl ta_3 rfl)) (Xx (VRd.ntl (Vg rfl (Ve rfl rfl) rfl ta_3 rfl)) (Xx (VRd.ntl (Vg rfl (Ve rfl rfl) rfl ta_3 rfl)) Zn)))) ?_
     refine Yi _ rfl rfl (Xx (VRd.ntl (Zq rfl)) (Xx (VRd.ntl (Zq rfl)) (Xx (VRd.ntl (Zq rfl)) Zn))) ?_
     refine Yi _ rfl rfl (Xx (nt_of (vef_litF (es := Wq (Wr .i64) [5, 0, 3, 20, (-1)]) ⟨rfl, rfl, rfl, rfl, rfl, rfl, rfl, rfl, rfl, rfl, trivial⟩ rfl rfl (nt_all rfl) te_22 ts_3 tz_3 rfl rfl (Wv _) (by decide) (Ya (fun _ => .int _ _)))) (Xx (nt_of (vef_litF (es := Wq (Wr .i64) [5, 0, 3, 20, (-1)]) ⟨rfl, rfl, rfl, rfl, rfl, rfl, rfl, rfl, rfl, rfl, trivial⟩ rfl rfl (nt_all rfl) te_22 ts_3 tz_3 rfl rfl (Wv _) (by decide) (Ya (fun _ => .int _ _)))) (Xx (nt_of (vef_litF (es := Wq (Wr .i64) [5, 0, 3, 20, (-1)]) ⟨rfl, rfl, rfl, rfl, rfl, rfl, rfl, rfl, rfl, rfl, trivial⟩ rfl rfl (nt_all rfl) te_22 ts_3 tz_3 rfl rfl (Wv _) (by decide) (Ya (fun _ => .int _ _)))) Zn))) ?_
     refine Zh rfl rfl rfl (Zg (ps := [((low.length + 0), ⟨53, 2, [.agg [.vs 1 (Wq (Wr .i64) x23.1.L), .int .i64 x23.1.At]], 0⟩)]) (r := .int .i64 x23.2) (os := []) (low1 := low) (loc1 := [⟨53, 2, [.agg [.vs 1 (Wq (Wr .i64) x23.1.L), .int .i64 x23.1.At]], 0⟩, ⟨34, 5, [.agg [.int .i64 s14.2.2.Time, .sl (low.length + 2) 0 0 (s14.2.2.States).length, .sl (low.length + 3) 0 0 (s14.2.2.Since).length, .sl (low.length + 4) 0 0 (s14.2.2.Pulled).length, .vs 1 (Wq Ws s14.2.2.Held)]], 0⟩, ⟨3, 1, Wq (Wr .i64) s14.2.2.States, 0⟩, ⟨3, 1, Wq (Wr .i64) s14.2.2.Since, 0⟩, ⟨4, 1, Wq Ws s14.2.2.Pulled, 0⟩]) (loc2 := [⟨53, 2, [.agg [.vs 1 (Wq (Wr .i64) x23.1.L), .int .i64 x23.1.At]], 0⟩, ⟨34, 5, [.agg [.int .i64 s14.2.2.Time, .sl (low.length + 2) 0 0 (s14.2.2.States).length, .sl (low.length + 3) 0 0 (s14.2.2.Since).length, .sl (low.length + 4) 0 0 (s14.2.2.Pulled).length, .vs 1 (Wq Ws s14.2.2.Held)]], 0⟩, ⟨3, 1, Wq (Wr .i64) s14.2.2.States, 0⟩, ⟨3, 1, Wq (Wr .i64) s14.2.2.Since, 0⟩, ⟨4, 1, Wq Ws s14.2.2.Pulled, 0⟩]) rfl Try.call11 (F_made_Dice_Of_ok h24 (nd1 na0 nd0) (Zt rfl rfl) (Xi rfl rfl)) (Yq (loc2 := [⟨53, 2, [.agg [.vs 1 (Wq (Wr .i64) x23.1.L), .int .i64 x23.1.At]], 0⟩, ⟨34, 5, [.agg [.int .i64 s14.2.2.Time, .sl (low.length + 2) 0 0 (s14.2.2.States).length, .sl (low.length + 3) 0 0 (s14.2.2.Since).length, .sl (low.length + 4) 0 0 (s14.2.2.Pulled).length, .vs 1 (Wq Ws s14.2.2.Held)]], 0⟩, ⟨3, 1, Wq (Wr .i64) s14.2.2.States, 0⟩, ⟨3, 1, Wq (Wr .i64) s14.2.2.Since, 0⟩, ⟨4, 1, Wq Ws s14.2.2.Pulled, 0⟩]) rfl 0 rfl Zl) rfl) ?_
     refine Ym rfl rfl (Wk rfl rfl rfl) ?_
     refine Ym rfl rfl (Xa rfl) ?_
     refine Ym rfl rfl (Xa rfl) ?_
     refine Yz ?_
     refine Vi ?_
     refine Vi ?_
     refine Vd ?_
     obtain ⟨x25, h26, hF⟩ := Yt hF
     refine Va (Xc rfl) rfl ?_
     refine Va (Vv (ds := [.int .i64 s14.2.2.Time, .sl (low.length + 2) 0 0 (s14.2.2.States).length, .sl (low.length + 3) 0 0 (s14.2.2.Since).length, .sl (low.length + 4) 0 0 (s14.2.2.Pulled).length, .vs 1 (Wq Ws s14.2.2.Held)]) rfl (Ve rfl rfl) rfl ta_34 ts_34 rfl rfl rfl) rfl ?_
     refine Va (Vk rfl) rfl ?_
     refine Va (Vk rfl) rfl ?_
     refine Vj (vef_callB (vs := [.vs 2 (Wq T_Belt.enc x8.2), .agg [.int .i64 s14.2.2.Time, .vs 1 (Wq (Wr .i64) s14.2.2.States), .vs 1 (Wq (Wr .i64) s14.2.2.Since), .vs 1 (Wq Ws s14.2.2.Pulled), .vs 1 (Wq Ws s14.2.2.Held)], .int .i64 (IntKind.i64.wrap (x19.2 - x21.2)), .int .i64 (IntKind.i64.wrap (s14.2.2.Time + x23.2))]) rfl Try.call18 ⟨Za rfl (.vs _ _), view_agg rfl ⟨Za rfl (.int _ _), Zi rfl (Ve rfl rfl) rfl rfl (Ya (fun _ => .int _ _)) (Vx rfl), Zi rfl (Ve rfl rfl) rfl rfl (Ya (fun _ => .int _ _)) (Vx rfl), Zi rfl (Ve rfl rfl) rfl rfl (Ya (fun _ => .bool _)) (Vx rfl), Za rfl (.vs _ _), trivial⟩, Za rfl (.int _ _), Za rfl (.int _ _), trivial⟩ ((F_law39_agree_ok h26 []).mono fun _ _ h => h.1) (.bool _)) rfl ?_
     refine Va (Zp rfl) rfl ?_
     refine Vf ?_
     refine Xh rfl (fun c27 => ?_) (fun c27 => ?_)
     ·have hF := Yo c27 hF
      refine Vi ?_
      refine Vd ?_
      refine Va (Xz rfl) rfl ?_
      refine Vf ?_
      refine Xb ?_
      obtain rfl := Wt hF
      refine Xy ?_
      exact Vt rfl [] (by decide) ⟨Vr rfl (.bool _), trivial⟩ trivial
     ·have hF := Yp c27 hF
      refine Xn ?_
      refine Yd (Xm (E' := [(3, .ptr (low.length + 0) 0 0 0), (4, .vs 2 (Wq T_Belt.enc x8.2)), (5, .ptr (low.length + 1) 0 0 0), (7, .int .i64 s14.1), (8, .int .i64 (IntKind.i64.wrap (x19.2 - x21.2))), (9, .int .i64 (IntKind.i64.wrap (s14.2.2.Time + x23.2)))]) (loc1 := [⟨53, 2, [.agg [.vs 1 (Wq (Wr .i64) x23.1.L), .int .i64 x23.1.At]], 0⟩, ⟨34, 5, [.agg [.int .i64 s14.2.2.Time, .vs 1 (Wq (Wr .i64) s14.2.2.States), .sl (low.length + 3) 0 0 (s14.2.2.Since).length, .sl (low.length + 4) 0 0 (s14.2.2.Pulled).length, .vs 1 (Wq Ws s14.2.2.Held)]], 0⟩, ⟨3, 1, [], 0 + 1⟩, ⟨3, 1, Wq (Wr .i64) s14.2.2.Since, 0⟩, ⟨4, 1, Wq Ws s14.2.2.Pulled, 0⟩]) rfl 2 rfl (Ya (fun _ => .int _ _)) ⟨Vl rfl, Vl rfl, Vl rfl, Vl rfl, Vl rfl, Vl rfl, trivial⟩ ⟨.refl _, Yr ⟨Vl rfl, Zj rfl rfl rfl (Vx rfl), Vl rfl, Vl rfl, Vl rfl, trivial⟩, .refl _, .refl _, .refl _, trivial⟩) ?_
      refine Yd (Xm (E' := [(3, .ptr (low.length + 0) 0 0 0), (4, .vs 2 (Wq T_Belt.enc x8.2)), (5, .ptr (low.length + 1) 0 0 0), (7, .int .i64 s14.1), (8, .int .i64 (IntKind.i64.wrap (x19.2 - x21.2))), (9, .int .i64 (IntKind.i64.wrap (s14.2.2.Time + x23.2)))]) (loc1 := [⟨53, 2, [.agg [.vs 1 (Wq (Wr .i64) x23.1.L), .int .i64 x23.1.At]], 0⟩, ⟨34, 5, [.agg [.int .i64 s14.2.2.Time, .vs 1 (Wq (Wr .i64) s14.2.2.States), .vs 1 (Wq (Wr .i64) s14.2.2.Since), .sl (low.length + 4) 0 0 (s14.2.2.Pulled).length, .vs 1 (Wq Ws s14.2.2.Held)]], 0⟩, ⟨3, 1, [], 0 + 1⟩, ⟨3, 1, [], 0 + 1⟩, ⟨4, 1, Wq Ws s14.2.2.Pulled, 0⟩]) rfl 3 rfl (Ya (fun _ => .int _ _)) ⟨Vl rfl, Vl rfl, Vl rfl, Vl rfl, Vl rfl, Vl rfl, trivial⟩ ⟨.refl _, Yr ⟨Vl rfl, Vl rfl, Zj rfl rfl rfl (Vx rfl), Vl rfl, Vl rfl, trivial⟩, .refl _, .refl _, .refl _, trivial⟩) ?_
      refine Yd (Xm (E' := [(3, .ptr (low.length + 0) 0 0 0), (4, .vs 2 (Wq T_Belt.enc x8.2)), (5, .ptr (low.length + 1) 0 0 0), (7, .int .i64 s14.1), (8, .int .i64 (IntKind.i64.wrap (x19.2 - x21.2))), (9, .int .i64 (IntKind.i64.wrap (s14.2.2.Time + x23.2)))]) (loc1 := [⟨53, 2, [.agg [.vs 1 (Wq (Wr .i64) x23.1.L), .int .i64 x23.1.At]], 0⟩, ⟨34, 5, [.agg [.int .i64 s14.2.2.Time, .vs 1 (Wq (Wr .i64) s14.2.2.States), .vs 1 (Wq (Wr .i64) s14.2.2.Since), .vs 1 (Wq Ws s14.2.2.Pulled), .vs 1 (Wq Ws s14.2.2.Held)]], 0⟩, ⟨3, 1, [], 0 + 1⟩, ⟨3, 1, [], 0 + 1⟩, ⟨4, 1, [], 0 + 1⟩]) rfl 4 rfl (Ya (fun _ => .bool _)) ⟨Vl rfl, Vl rfl, Vl rfl, Vl rfl, Vl rfl, Vl rfl, trivial⟩ ⟨.refl _, Yr ⟨Vl rfl, Vl rfl, Vl rfl, Zj rfl rfl rfl (Vx rfl), Vl rfl, trivial⟩, .refl _, .refl _, .refl _, trivial⟩) ?_
      obtain ⟨x28, h29, hF⟩ := Yt hF
      obtain ⟨x30, h31, hF⟩ := Yt hF
      refine Wc [[], [], [], [], [2, 3], [], [], [0, 1, 2, 3, 4, 5, 6], [0, 1, 2, 3, 4, 5, 6, 7], [0, 1, 2, 3, 4, 5, 6, 7, 8], [0, 1, 2, 3, 4, 5, 6, 7, 8], [0, 1, 2, 3, 4, 5, 6, 7, 8], [0, 1, 2, 3, 4, 5, 6, 7, 8], [0, 1, 2, 3, 4, 5, 6, 7, 8, 9, 10, 11]] [false, false, false, false, true, false, false, true, false, false, false, false, false, true] [(low, [⟨53, 2, [.agg [.vs 1 (Wq (Wr .i64) x23.1.L), .int .i64 x23.1.At]], 0⟩, ⟨34, 5, [.agg [.int .i64 s14.2.2.Time, .vs 1 (Wq (Wr .i64) s14.2.2.States), .vs 1 (Wq (Wr .i64) s14.2.2.Since), .vs 1 (Wq Ws s14.2.2.Pulled), .vs 1 (Wq Ws s14.2.2.Held)]], 0⟩, ⟨3, 1, [], 0 + 1⟩, ⟨3, 1, [], 0 + 1⟩, ⟨4, 1, [], 0 + 1⟩]), (low, [⟨53, 2, [.agg [.vs 1 (Wq (Wr .i64) x28.1.L), .int .i64 x28.1.At]], 0⟩, ⟨34, 5, [.agg [.int .i64 s14.2.2.Time, .vs 1 (Wq (Wr .i64) s14.2.2.States), .vs 1 (Wq (Wr .i64) s14.2.2.Since), .vs 1 (Wq Ws s14.2.2.Pulled), .vs 1 (Wq Ws s14.2.2.Held)]], 0⟩, ⟨3, 1, [], 0 + 1⟩, ⟨3, 1, [], 0 + 1⟩, ⟨4, 1, [], 0 + 1⟩]), (low, [⟨53, 2, [.agg [.vs 1 (Wq (Wr .i64) x28.1.L), .int .i64 x28.1.At]], 0⟩, ⟨34, 5, [.agg [.int .i64 s14.2.2.Time, .vs 1 (Wq (Wr .i64) s14.2.2.States), .vs 1 (Wq (Wr .i64) s14.2.2.Since), .vs 1 (Wq Ws s14.2.2.Pulled), .vs 1 (Wq Ws s14.2.2.Held)]], 0⟩, ⟨3, 1, [], 0 + 1⟩, ⟨3, 1, [], 0 + 1⟩, ⟨4, 1, [], 0 + 1⟩, ⟨3, 1, Wq (Wr .i64) x30.2.2.1.States, 0⟩, ⟨3, 1, Wq (Wr .i64) x30.2.2.1.Since, 0⟩, ⟨4, 1, Wq Ws x30.2.2.1.Pulled, 0⟩]), (low, [⟨53, 2, [.agg [.vs 1 (Wq (Wr .i64) x28.1.L), .int .i64 x28.1.At]], 0⟩, ⟨34, 5, [.agg [.int .i64 x30.2.2.1.Time, .sl (low.length + 5) 0 0 (x30.2.2.1.States).length, .sl (low.length + 6) 0 0 (x30.2.2.1.Since).length, .sl (low.length + 7) 0 0 (x30.2.2.1.Pulled).length, .vs 1 (Wq Ws x30.2.2.1.Held)]], 0⟩, ⟨3, 1, [], 0 + 1⟩, ⟨3, 1, [], 0 + 1⟩, ⟨4, 1, [], 0 + 1⟩, ⟨3, 1, Wq (Wr .i64) x30.2.2.1.States, 0⟩, ⟨3, 1, Wq (Wr .i64) x30.2.2.1.Since, 0⟩, ⟨4, 1, Wq Ws x30.2.2.1.Pulled, 0⟩])] mixed (by kernel_rfl) rfl (lenAll (Xx rfl (Xx rfl (Xx rfl (Xx rfl Zn))))) rfl _ rfl rfl ?_
      refine Yi _ rfl rfl (Xx (VRd.ntl (Xc rfl)) (Xx (VRd.ntl (Xc rfl)) Zn)) ?_
      refine Yi _ rfl rfl (Xx (VRd.ntl (Vv (ds := [.int .i64 s14.2.2.Time, .vs 1 (Wq (Wr .i64) s14.2.2.States), .vs 1 (Wq (Wr .i64) s14.2.2.Since), .vs 1 (Wq Ws s14.2.2.Pulled), .vs 1 (Wq Ws s14.2.2.Held)]) rfl (Ve rfl rfl) rfl ta_34 ts_34 rfl rfl rfl)) (Xx (VRd.ntl (Vv (ds := [.int .i64 s14.2.2.Time, .vs 1 (Wq (Wr .i64) s14.2.2.States), .vs 1 (Wq (Wr .i64) s14.2.2.Since), .vs 1 (Wq Ws s14.2.2.Pulled), .vs 1 (Wq Ws s14.2.2.Held)]) rfl (Ve rfl rfl) rfl ta_34 ts_34 rfl rfl rfl)) Zn)) ?_
      refine Ym rfl rfl (Zq rfl) ?_
      refine dn1 rfl rfl (nt_of (vef_litF (es := Wq (Wr .i64) [0, 0, 1, 1, 2, 3, 4, 5]) ⟨rfl, rfl, rfl, rfl, rfl, rfl, rfl, rfl, rfl, rfl, rfl, rfl, rfl, rfl, rfl, rfl, trivial⟩ rfl rfl (nt_all rfl) te_22 ts_3 tz_3 rfl rfl (Wv _) (by decide) (Ya (fun _ => .int _ _)))) ?_
      refine Zh rfl rfl rfl (Zg (ps := [((low.length + 0), ⟨53, 2, [.agg [.vs 1 (Wq (Wr .i64) x28.1.L), .int .i64 x28.1.At]], 0⟩)]) (r := .int .i64 x28.2) (os := []) (low1 := low) (loc1 := [⟨53, 2, [.agg [.vs 1 (Wq (Wr .i64) x28.1.L), .int .i64 x28.1.At]], 0⟩, ⟨34, 5, [.agg [.int .i64 s14.2.2.Time, .vs 1 (Wq (Wr .i64) s14.2.2.States), .vs 1 (Wq (Wr .i64) s14.2.2.Since), .vs 1 (Wq Ws s14.2.2.Pulled), .vs 1 (Wq Ws s14.2.2.Held)]], 0⟩, ⟨3, 1, [], 0 + 1⟩, ⟨3, 1, [], 0 + 1⟩, ⟨4, 1, [], 0 + 1⟩]) (loc2 := [⟨53, 2, [.agg [.vs 1 (Wq (Wr .i64) x28.1.L), .int .i64 x28.1.At]], 0⟩, ⟨34, 5, [.agg [.int .i64 s14.2.2.Time, .vs 1 (Wq (Wr .i64) s14.2.2.States), .vs 1 (Wq (Wr .i64) s14.2.2.Since), .vs 1 (Wq Ws s14.2.2.Pulled), .vs 1 (Wq Ws s14.2.2.Held)]], 0⟩, ⟨3, 1, [], 0 + 1⟩, ⟨3, 1, [], 0 + 1⟩, ⟨4, 1, [], 0 + 1⟩]) rfl Try.call11 (F_made_Dice_Of_ok h29 (nd1 na0 nd0) (Zt rfl rfl) (Xi rfl rfl)) (Yq (loc2 := [⟨53, 2, [.agg [.vs 1 (Wq (Wr .i64) x28.1.L), .int .i64 x28.1.At]], 0⟩, ⟨34, 5, [.agg [.int .i64 s14.2.2.Time, .vs 1 (Wq (Wr .i64) s14.2.2.States), .vs 1 (Wq (Wr .i64) s14.2.2.Since), .vs 1 (Wq Ws s14.2.2.Pulled), .vs 1 (Wq Ws s14.2.2.Held)]], 0⟩, ⟨3, 1, [], 0 + 1⟩, ⟨3, 1, [], 0 + 1⟩, ⟨4, 1, [], 0 + 1⟩]) rfl 0 rfl Zl) rfl) ?_
      refine Yi _ rfl rfl (Xx (VRd.ntl (Vk rfl)) (Xx (VRd.ntl (Vk rfl)) Zn)) ?_
      refine Yi _ rfl rfl (Xx (VRd.ntl (Vk rfl)) (Xx (VRd.ntl (Vk rfl)) Zn)) ?_
      refine Zh rfl rfl rfl (Xg (r := .tup [.agg [.int .i64 x30.1.Time, .vs 1 (Wq (Wr .i64) x30.1.States), .vs 1 (Wq (Wr .i64) x30.1.Since), .vs 1 (Wq Ws x30.1.Pulled), .vs 1 (Wq Ws x30.1.Held)], .int .i64 x30.2.1, .agg [.int .i64 x30.2.2.1.Time, .sl (low.length + 5) 0 0 (x30.2.2.1.States).length, .sl (low.length + 6) 0 0 (x30.2.2.1.Since).length, .sl (low.length + 7) 0 0 (x30.2.2.1.Pulled).length, .vs 1 (Wq Ws x30.2.2.1.Held)], .int .i64 x30.2.2.2]) (os := [⟨3, 1, Wq (Wr .i64) x30.2.2.1.States, 0⟩, ⟨3, 1, Wq (Wr .i64) x30.2.2.1.Since, 0⟩, ⟨4, 1, Wq Ws x30.2.2.1.Pulled, 0⟩]) rfl Try.call22 (F_law39_step_ok h31 _ (Xi rfl rfl))) ?_
      refine Ym rfl rfl (rd_mvT rfl) ?_
      refine Ym rfl rfl (Xu rfl rfl) ?_
      refine Ym rfl rfl (Xu rfl rfl) ?_
      refine Ym rfl rfl (Xu rfl rfl) ?_
      refine Yi _ rfl rfl (Xx (VRd.ntl (Xu rfl rfl)) (Xx (VRd.ntl (Xu rfl rfl)) Zn)) ?_
      refine Zh rfl rfl rfl (Vy (p := .agg [.int .i64 x30.2.2.1.Time, .sl (low.length + 5) 0 0 (x30.2.2.1.States).length, .sl (low.length + 6) 0 0 (x30.2.2.1.Since).length, .sl (low.length + 7) 0 0 (x30.2.2.1.Pulled).length, .vs 1 (Wq Ws x30.2.2.1.Held)]) (e' := .agg [.int .i64 x30.2.2.1.Time, .sl (low.length + 5) 0 0 (x30.2.2.1.States).length, .sl (low.length + 6) 0 0 (x30.2.2.1.Since).length, .sl (low.length + 7) 0 0 (x30.2.2.1.Pulled).length, .vs 1 (Wq Ws x30.2.2.1.Held)]) rfl (Ve rfl rfl) rfl rfl ts_34 rfl (Ye rfl) rfl (Wu rfl) rfl (Xr rfl rfl)) ?_
      refine Yz ?_
      refine Vd ?_
      refine Va (Vk rfl) rfl ?_
      refine Va (rd_sub rfl rfl rfl) rfl ?_
      refine Va (Xa rfl) rfl ?_
      refine Vf ?_
      obtain rfl := Wt hF
      refine Xy ?_
      exact Vt rfl [(0, 0), (1, 0), (5, 0), (6, 0), (7, 0)] (by decide) ⟨Yj 0 0 rfl rfl, Vr rfl (.vs _ _), Yj 1 1 rfl rfl, Vr rfl (.int _ _), trivial⟩ ⟨⟨_, rfl, rfl, .same _ _ _ _ (Xt ⟨Xw ⟨.vs _ _, .int _ _, trivial⟩, trivial⟩)⟩, ⟨_, rfl, rfl, .agg _ _ _ _ _ ⟨Vr rfl (.int _ _), Xq 2 5 rfl rfl, Xq 3 6 rfl rfl, Xq 4 7 rfl rfl, Vr rfl (.vs _ _), trivial⟩⟩, ⟨_, rfl, rfl, .same _ _ _ _ (Vh (fun _ => .int _ _))⟩, ⟨_, rfl, rfl, .same _ _ _ _ (Vh (fun _ => .int _ _))⟩, ⟨_, rfl, rfl, .same _ _ _ _ (Vh (fun _ => .bool _))⟩, trivial⟩
    ·have hF := Yp c18 hF
     refine Wi ?_
     obtain rfl := Wt hF
     refine Xy ?_
     exact Vp ⟨rfl, rfl, rfl, trivial⟩
   ·rcases o15 with j16 | j17
    ·replace hF := elimL hF
     rintro _ _ _ _ ⟨rfl, hw⟩
     refine ⟨_, _, _, hw, ?_⟩
     obtain rfl := Wt hF
     refine Wg ?_
     exact Vp ⟨rfl, trivial⟩
    ·replace hF := elimR hF
     rintro _ _ _ _ ⟨rfl, hw⟩
     refine ⟨_, _, _, hw, ?_⟩
     refine Vi ?_
     refine Vi ?_
     refine Vd ?_
     refine Va (Vc rfl tf_34_1 ts_22 (by decide)) rfl ?_
     refine Va (Vg rfl (Ve rfl rfl) rfl ta_22 rfl) rfl ?_
     refine Va (rd_lenS rfl (Ve rfl rfl) rfl rfl te_22) rfl ?_
     refine Va (rd_gtr rfl rfl) rfl ?_
     refine Vf ?_
     obtain ⟨o32, ho32, hF⟩ := Yt hF
     refine Vw (Q' := (fun o32 => OnlyE .normal (fun E' lw lc => Yb E' lw lc [(4, .vs 2 (Wq T_Belt.enc x8.2)), (5, .ptr (low.length + 0) 0 0 0)] low [⟨34, 5, [.agg [.int .i64 o32.Time, .sl (low.length + 1) 0 0 (o32.States).length, .sl (low.length + 2) 0 0 (o32.Since).length, .sl (low.length + 3) 0 0 (o32.Pulled).length, .vs 1 (Wq Ws o32.Held)]], 0⟩, ⟨3, 1, Wq (Wr .i64) o32.States, 0⟩, ⟨3, 1, Wq (Wr .i64) o32.Since, 0⟩, ⟨4, 1, Wq Ws o32.Pulled, 0⟩])) o32) ?_ ?_
     ·replace hF := ho32
      refine Xh rfl (fun c33 => ?_) (fun c33 => ?_)
      ·have hF := Yo c33 hF
       refine Vi ?_
       refine Vd ?_
       obtain ⟨x34, h35, hF⟩ := Yt hF
       refine Va (Zq rfl) rfl ?_
       refine Va (Xc rfl) rfl ?_
       refine Va (Xk (Xv rfl rfl te_27) (congrArg (fun n : Nat => Wr .i64 (n : Int)) (Wx _))) rfl ?_
       refine Vj (Zg (ps := [((low.length + 0), ⟨53, 2, [.agg [.vs 1 (Wq (Wr .i64) x34.1.L), .int .i64 x34.1.At]], 0⟩)]) (r := .int .i64 x34.2) (os := []) (low1 := low) (loc1 := [⟨53, 2, [.agg [.vs 1 (Wq (Wr .i64) x34.1.L), .int .i64 x34.1.At]], 0⟩, ⟨34, 5, [.agg [.int .i64 j17.2.Time, .sl (low.length + 2) 0 0 (j17.2.States).length, .sl (low.length + 3) 0 0 (j17.2.Since).length, .sl (low.length + 4) 0 0 (j17.2.Pulled).length, .vs 1 (Wq Ws j17.2.Held)]], 0⟩, ⟨3, 1, Wq (Wr .i64) j17.2.States, 0⟩, ⟨3, 1, Wq (Wr .i64) j17.2.Since, 0⟩, ⟨4, 1, Wq Ws j17.2.Pulled, 0⟩]) (loc2 := [⟨53, 2, [.agg [.vs 1 (Wq (Wr .i64) x34.1.L), .int .i64 x34.1.At]], 0⟩, ⟨34, 5, [.agg [.int .i64 j17.2.Time, .sl (low.length + 2) 0 0 (j17.2.States).length, .sl (low.length + 3) 0 0 (j17.2.Since).length, .sl (low.length + 4) 0 0 (j17.2.Pulled).length, .vs 1 (Wq Ws j17.2.Held)]], 0⟩, ⟨3, 1, Wq (Wr .i64) j17.2.States, 0⟩, ⟨3, 1, Wq (Wr .i64) j17.2.Since, 0⟩, ⟨4, 1, Wq Ws j17.2.Pulled, 0⟩]) rfl Try.call10 (F_made_Dice_Next_ok h35 (nd1 na0 nd0) (Zt rfl rfl) (Xi rfl rfl)) (Yq (loc2 := [⟨53, 2, [.agg [.vs 1 (Wq (Wr .i64) x34.1.L), .int .i64 x34.1.At]], 0⟩, ⟨34, 5, [.agg [.int .i64 j17.2.Time, .sl (low.length + 2) 0 0 (j17.2.States).length, .sl (low.length + 3) 0 0 (j17.2.Since).length, .sl (low.length + 4) 0 0 (j17.2.Pulled).length, .vs 1 (Wq Ws j17.2.Held)]], 0⟩, ⟨3, 1, Wq (Wr .i64) j17.2.States, 0⟩, ⟨3, 1, Wq (Wr .i64) j17.2.Since, 0⟩, ⟨4, 1, Wq Ws j17.2.Pulled, 0⟩]) rfl 0 rfl Zl) rfl) rfl ?_
       refine Va (Xa rfl) rfl ?_
       refine Vf ?_
       refine Vi ?_
       refine Vd ?_
       obtain ⟨x36, h37, hF⟩ := Yt hF
       refine Va (Zq rfl) rfl ?_
       refine Vj (Zg (ps := [((low.length + 0), ⟨53, 2, [.agg [.vs 1 (Wq (Wr .i64) x36.1.L), .int .i64 x36.1.At]], 0⟩)]) (r := .int .i64 x36.2) (os := []) (low1 := low) (loc1 := [⟨53, 2, [.agg [.vs 1 (Wq (Wr .i64) x36.1.L), .int .i64 x36.1.At]], 0⟩, ⟨34, 5, [.agg [.int .i64 j17.2.Time, .sl (low.length + 2) 0 0 (j17.2.States).length, .sl (low.length + 3) 0 0 (j17.2.Since).length, .sl (low.length + 4) 0 0 (j17.2.Pulled).length, .vs 1 (Wq Ws j17.2.Held)]], 0⟩, ⟨3, 1, Wq (Wr .i64) j17.2.States, 0⟩, ⟨3, 1, Wq (Wr .i64) j17.2.Since, 0⟩, ⟨4, 1, Wq Ws j17.2.Pulled, 0⟩]) (loc2 := [⟨53, 2, [.agg [.vs 1 (Wq (Wr .i64) x36.1.L), .int .i64 x36.1.At]], 0⟩, ⟨34, 5, [.agg [.int .i64 j17.2.Time, .sl (low.length + 2) 0 0 (j17.2.States).length, .sl (low.length + 3) 0 0 (j17.2.Since).length, .sl (low.length + 4) 0 0 (j17.2.Pulled).length, .vs 1 (Wq Ws j17.2.Held)]], 0⟩, ⟨3, 1, Wq (Wr .i64) j17.2.States, 0⟩, ⟨3, 1, Wq (Wr .i64) j17.2.Since, 0⟩, ⟨4, 1, Wq Ws j17.2.Pulled, 0⟩]) rfl Try.call10 (F_made_Dice_Next_ok h37 (nd1 na0 nd0) (Zt rfl rfl) (Xi rfl rfl)) (Yq (loc2 := [⟨53, 2, [.agg [.vs 1 (Wq (Wr .i64) x36.1.L), .int .i64 x36.1.At]], 0⟩, ⟨34, 5, [.agg [.int .i64 j17.2.Time, .sl (low.length + 2) 0 0 (j17.2.States).length, .sl (low.length + 3) 0 0 (j17.2.Since).length, .sl (low.length + 4) 0 0 (j17.2.Pulled).length, .vs 1 (Wq Ws j17.2.Held)]], 0⟩, ⟨3, 1, Wq (Wr .i64) j17.2.States, 0⟩, ⟨3, 1, Wq (Wr .i64) j17.2.Since, 0⟩, ⟨4, 1, Wq Ws j17.2.Pulled, 0⟩]) rfl 0 rfl Zl) rfl) rfl ?_
       refine Vf ?_
       refine Yh ?_
       refine Vi ?_
       refine Vd ?_
       refine Va (Xl rfl rfl) rfl ?_
       refine Va (Xz rfl) rfl ?_
       refine Vf ?_
       refine Xh rfl (fun c38 => ?_) (fun c38 => ?_)
       ·have hF := Yo c38 hF
        obtain ⟨x39, h40, hF⟩ := Yt hF
        obtain ⟨x41, h42, hF⟩ := Yt hF
        refine Wc [[], [0], [], [], [], [3, 4], [0, 1, 2, 3, 4, 5], [0, 1, 2, 3, 4, 5, 6]] [false, false, false, false, false, true, false, true] [(low, [⟨53, 2, [.agg [.vs 1 (Wq (Wr .i64) x36.1.L), .int .i64 x36.1.At]], 0⟩, ⟨34, 5, [.agg [.int .i64 j17.2.Time, .sl (low.length + 2) 0 0 (j17.2.States).length, .sl (low.length + 3) 0 0 (j17.2.Since).length, .sl (low.length + 4) 0 0 (j17.2.Pulled).length, .vs 1 (Wq Ws j17.2.Held)]], 0⟩, ⟨3, 1, Wq (Wr .i64) j17.2.States, 0⟩, ⟨3, 1, Wq (Wr .i64) j17.2.Since, 0⟩, ⟨4, 1, Wq Ws j17.2.Pulled, 0⟩]), (low, [⟨53, 2, [.agg [.vs 1 (Wq (Wr .i64) x39.1.L), .int .i64 x39.1.At]], 0⟩, ⟨34, 5, [.agg [.int .i64 j17.2.Time, .sl (low.length + 2) 0 0 (j17.2.States).length, .sl (low.length + 3) 0 0 (j17.2.Since).length, .sl (low.length + 4) 0 0 (j17.2.Pulled).length, .vs 1 (Wq Ws j17.2.Held)]], 0⟩, ⟨3, 1, Wq (Wr .i64) j17.2.States, 0⟩, ⟨3, 1, Wq (Wr .i64) j17.2.Since, 0⟩, ⟨4, 1, Wq Ws j17.2.Pulled, 0⟩]), (low, [⟨53, 2, [.agg [.vs 1 (Wq (Wr .i64) x39.1.L), .int .i64 x39.1.At]], 0⟩, ⟨34, 5, [.agg [.int .i64 j17.2.Time, .sl (low.length + 2) 0 0 (j17.2.States).length, .sl (low.length + 3) 0 0 (j17.2.Since).length, .sl (low.length + 4) 0 0 (j17.2.Pulled).length, .vs 1 (Wq Ws j17.2.Held)]], 0⟩, ⟨3, 1, Wq (Wr .i64) (j17.2.States.set ((x34.2).toNat) x39.2), 0⟩, ⟨3, 1, Wq (Wr .i64) j17.2.Since, 0⟩, ⟨4, 1, Wq Ws j17.2.Pulled, 0⟩])] mixed (by kernel_rfl) rfl (lenAll (Xx rfl (Xx rfl (Xx rfl Zn)))) rfl _ rfl rfl ?_
        refine Yi _ rfl rfl (Xx (VRd.ntl (Vc rfl tf_34_1 ts_22 (by decide))) (Xx (VRd.ntl (Vc rfl tf_34_1 ts_22 (by decide))) Zn)) ?_
        refine Yi _ rfl rfl (Xx (VRd.ntl (Vg rfl (Ve rfl rfl) rfl ta_22 rfl)) (Xx (VRd.ntl (Vg rfl (Ve rfl rfl) rfl ta_22 rfl)) Zn)) ?_
        refine Yi _ rfl rfl (Xx (VRd.ntl (Vk rfl)) (Xx (VRd.ntl (Vk rfl)) Zn)) ?_
        refine Ym rfl rfl (Zq rfl) ?_
        refine dn1 rfl rfl (nt_of (vef_litF (es := Wq (Wr .i64) [2, 3, (-1)]) ⟨rfl, rfl, rfl, rfl, rfl, rfl, trivial⟩ rfl rfl (nt_all rfl) te_22 ts_3 tz_3 rfl rfl (Wv _) (by decide) (Ya (fun _ => .int _ _)))) ?_
        refine Zh rfl rfl rfl (Zg (ps := [((low.length + 0), ⟨53, 2, [.agg [.vs 1 (Wq (Wr .i64) x39.1.L), .int .i64 x39.1.At]], 0⟩)]) (r := .int .i64 x39.2) (os := []) (low1 := low) (loc1 := [⟨53, 2, [.agg [.vs 1 (Wq (Wr .i64) x39.1.L), .int .i64 x39.1.At]], 0⟩, ⟨34, 5, [.agg [.int .i64 j17.2.Time, .sl (low.length + 2) 0 0 (j17.2.States).length, .sl (low.length + 3) 0 0 (j17.2.Since).length, .sl (low.length + 4) 0 0 (j17.2.Pulled).length, .vs 1 (Wq Ws j17.2.Held)]], 0⟩, ⟨3, 1, Wq (Wr .i64) j17.2.States, 0⟩, ⟨3, 1, Wq (Wr .i64) j17.2.Since, 0⟩, ⟨4, 1, Wq Ws j17.2.Pulled, 0⟩]) (loc2 := [⟨53, 2, [.agg [.vs 1 (Wq (Wr .i64) x39.1.L), .int .i64 x39.1.At]], 0⟩, ⟨34, 5, [.agg [.int .i64 j17.2.Time, .sl (low.length + 2) 0 0 (j17.2.States).length, .sl (low.length + 3) 0 0 (j17.2.Since).length, .sl (low.length + 4) 0 0 (j17.2.Pulled).length, .vs 1 (Wq Ws j17.2.Held)]], 0⟩, ⟨3, 1, Wq (Wr .i64) j17.2.States, 0⟩, ⟨3, 1, Wq (Wr .i64) j17.2.Since, 0⟩, ⟨4, 1, Wq Ws j17.2.Pulled, 0⟩]) rfl Try.call11 (F_made_Dice_Of_ok h40 (nd1 na0 nd0) (Zt rfl rfl) (Xi rfl rfl)) (Yq (loc2 := [⟨53, 2, [.agg [.vs 1 (Wq (Wr .i64) x39.1.L), .int .i64 x39.1.At]], 0⟩, ⟨34, 5, [.agg [.int .i64 j17.2.Time, .sl (low.length + 2) 0 0 (j17.2.States).length, .sl (low.length + 3) 0 0 (j17.2.Since).length, .sl (low.length + 4) 0 0 (j17.2.Pulled).length, .vs 1 (Wq Ws j17.2.Held)]], 0⟩, ⟨3, 1, Wq (Wr .i64) j17.2.States, 0⟩, ⟨3, 1, Wq (Wr .i64) j17.2.Since, 0⟩, ⟨4, 1, Wq Ws j17.2.Pulled, 0⟩]) rfl 0 rfl Zl) rfl) ?_
        refine Ym rfl rfl (Wa rfl rfl rfl (Ve rfl rfl) h42 te_22 ts_3) ?_
        refine Zh rfl rfl rfl (Wl (p := .int .i64 x39.2) (e' := x39.2) rfl (Ve rfl rfl) (Zb h42).2 rfl ts_3 rfl (Ye rfl) (Wu rfl) rfl (Xr rfl rfl)) ?_
        refine Yz ?_
        obtain rfl := Wt hF
        refine Xy ?_
        exact Vt rfl [(1, 0), (2, 0), (3, 0), (4, 0)] (by decide) ⟨Vr rfl (.vs _ _), Yj 0 1 rfl rfl, trivial⟩ ⟨⟨_, rfl, rfl, .agg _ _ _ _ _ ⟨Vr rfl (.int _ _), Xq 1 2 rfl (congrArg (PV.sl _ _ 0) (Eq.trans rfl List.length_set.symm)), Xq 2 3 rfl rfl, Xq 3 4 rfl rfl, Vr rfl (.vs _ _), trivial⟩⟩, ⟨_, rfl, rfl, .same _ _ _ _ (Vh (fun _ => .int _ _))⟩, ⟨_, rfl, rfl, .same _ _ _ _ (Vh (fun _ => .int _ _))⟩, ⟨_, rfl, rfl, .same _ _ _ _ (Vh (fun _ => .bool _))⟩, trivial⟩
       ·have hF := Yp c38 hF
        refine Vi ?_
        refine Vd ?_
        refine Va (Xl rfl rfl) rfl ?_
        refine Va (Xz rfl) rfl ?_
        refine Vf ?_
        refine Xh rfl (fun c43 => ?_) (fun c43 => ?_)
        ·have hF := Yo c43 hF
         refine Vd ?_
         obtain ⟨x44, h45, hF⟩ := Yt hF
         refine Va (Vc rfl tf_34_2 ts_22 (by decide)) rfl ?_
         refine Va (Vg rfl (Ve rfl rfl) rfl ta_22 rfl) rfl ?_
         refine Va (Vk rfl) rfl ?_
         refine Va (Vc rfl tf_34_0 ts_3 (by decide)) rfl ?_
         refine Va (Vg rfl (Ve rfl rfl) rfl ta_3 rfl) rfl ?_
         refine Va (Wk rfl rfl rfl) rfl ?_
         refine Va (Wa rfl rfl rfl (Ve rfl rfl) h45 te_22 ts_3) rfl ?_
         refine Vj (Wl (p := .int .i64 (IntKind.i64.wrap (j17.2.Time + 1))) (e' := (IntKind.i64.wrap (j17.2.Time + 1))) rfl (Ve rfl rfl) (Zb h45).2 rfl ts_3 rfl (Ye rfl) (Wu rfl) rfl (Xr rfl rfl)) rfl ?_
         refine Vf ?_
         obtain rfl := Wt hF
         refine Xy ?_
         exact Vt rfl [(1, 0), (2, 0), (3, 0), (4, 0)] (by decide) ⟨Vr rfl (.vs _ _), Yj 0 1 rfl rfl, trivial⟩ ⟨⟨_, rfl, rfl, .agg _ _ _ _ _ ⟨Vr rfl (.int _ _), Xq 1 2 rfl rfl, Xq 2 3 rfl (congrArg (PV.sl _ _ 0) (Eq.trans rfl List.length_set.symm)), Xq 3 4 rfl rfl, Vr rfl (.vs _ _), trivial⟩⟩, ⟨_, rfl, rfl, .same _ _ _ _ (Vh (fun _ => .int _ _))⟩, ⟨_, rfl, rfl, .same _ _ _ _ (Vh (fun _ => .int _ _))⟩, ⟨_, rfl, rfl, .same _ _ _ _ (Vh (fun _ => .bool _))⟩, trivial⟩
        ·have hF := Yp c43 hF
         refine Vi ?_
         refine Vd ?_
         refine Va (Xl rfl rfl) rfl ?_
         refine Va (Xz rfl) rfl ?_
         refine Vf ?_
         refine Xh rfl (fun c46 => ?_) (fun c46 => ?_)
         ·have hF := Yo c46 hF
          refine Vd ?_
          obtain ⟨x47, h48, hF⟩ := Yt hF
          refine Va (Vc rfl tf_34_3 ts_32 (by decide)) rfl ?_
          refine Va (Vg rfl (Ve rfl rfl) rfl ta_32 rfl) rfl ?_
          refine Va (Vk rfl) rfl ?_
          refine Va (Wa rfl rfl rfl (Ve rfl rfl) h48 te_32 ts_4) rfl ?_
          refine Vj (Wl (p := .bool true) (e' := true) rfl (Ve rfl rfl) (Zb h48).2 rfl ts_4 rfl (Ye rfl) (Wu rfl) rfl (Xr rfl rfl)) rfl ?_
          refine Vf ?_
          obtain rfl := Wt hF
          refine Xy ?_
          exact Vt rfl [(1, 0), (2, 0), (3, 0), (4, 0)] (by decide) ⟨Vr rfl (.vs _ _), Yj 0 1 rfl rfl, trivial⟩ ⟨⟨_, rfl, rfl, .agg _ _ _ _ _ ⟨Vr rfl (.int _ _), Xq 1 2 rfl rfl, Xq 2 3 rfl rfl, Xq 3 4 rfl (congrArg (PV.sl _ _ 0) (Eq.trans rfl List.length_set.symm)), Vr rfl (.vs _ _), trivial⟩⟩, ⟨_, rfl, rfl, .same _ _ _ _ (Vh (fun _ => .int _ _))⟩, ⟨_, rfl, rfl, .same _ _ _ _ (Vh (fun _ => .int _ _))⟩, ⟨_, rfl, rfl, .same _ _ _ _ (Vh (fun _ => .bool _))⟩, trivial⟩
         ·have hF := Yp c46 hF
          refine Vd ?_
          obtain ⟨x49, h50, hF⟩ := Yt hF
          refine Va (Vc rfl tf_34_4 ts_32 (by decide)) rfl ?_
          refine Va (Vg rfl (Ve rfl rfl) rfl ta_32 rfl) rfl ?_
          refine Va (rd_slV rfl te_32 ts_4 ⟨_, rfl⟩ rfl h50) rfl ?_
          refine Va (Vc rfl tf_34_4 ts_32 (by decide)) rfl ?_
          refine Vj (Vy (p := .vs 1 (Wq Ws x49)) (e' := .agg [.int .i64 j17.2.Time, .sl (low.length + 2) 0 0 (j17.2.States).length, .sl (low.length + 3) 0 0 (j17.2.Since).length, .sl (low.length + 4) 0 0 (j17.2.Pulled).length, .vs 1 (Wq Ws x49)]) rfl (Ve rfl rfl) rfl rfl ts_32 rfl (Ye rfl) rfl (Wu rfl) rfl (Xr rfl rfl)) rfl ?_
          refine Vf ?_
          obtain rfl := Wt hF
          refine Xy ?_
          exact Vt rfl [(1, 0), (2, 0), (3, 0), (4, 0)] (by decide) ⟨Vr rfl (.vs _ _), Yj 0 1 rfl rfl, trivial⟩ ⟨⟨_, rfl, rfl, .agg _ _ _ _ _ ⟨Vr rfl (.int _ _), Xq 1 2 rfl rfl, Xq 2 3 rfl rfl, Xq 3 4 rfl rfl, Vr rfl (.vs _ _), trivial⟩⟩, ⟨_, rfl, rfl, .same _ _ _ _ (Vh (fun _ => .int _ _))⟩, ⟨_, rfl, rfl, .same _ _ _ _ (Vh (fun _ => .int _ _))⟩, ⟨_, rfl, rfl, .same _ _ _ _ (Vh (fun _ => .bool _))⟩, trivial⟩
      ·have hF := Yp c33 hF
       refine Xn ?_
       obtain rfl := Wt hF
       refine Xy ?_
       exact Vt rfl [(1, 0), (2, 0), (3, 0), (4, 0)] (by decide) ⟨Vr rfl (.vs _ _), Yj 0 1 rfl rfl, trivial⟩ ⟨⟨_, rfl, rfl, .agg _ _ _ _ _ ⟨Vr rfl (.int _ _), Xq 1 2 rfl rfl, Xq 2 3 rfl rfl, Xq 3 4 rfl rfl, Vr rfl (.vs _ _), trivial⟩⟩, ⟨_, rfl, rfl, .same _ _ _ _ (Vh (fun _ => .int _ _))⟩, ⟨_, rfl, rfl, .same _ _ _ _ (Vh (fun _ => .int _ _))⟩, ⟨_, rfl, rfl, .same _ _ _ _ (Vh (fun _ => .bool _))⟩, trivial⟩
     ·rintro _ _ _ _ ⟨rfl, hw⟩
      refine ⟨_, _, _, hw, ?_⟩
      refine Vi ?_
      refine Vd ?_
      obtain ⟨x51, h52, hF⟩ := Yt hF
      rcases Ww x51 with c53 | c53
      ·have hF := Yo c53 hF
       obtain ⟨x54, h55, hF⟩ := Yt hF
       refine Vj (Xp rfl Try.call8 (F_law39_awake_ok h52 _)) rfl ?_
       refine Va (Vm rfl) rfl ?_
       refine Xd rfl rfl c53 ?_
       refine Va (Xc rfl) rfl ?_
       refine Xd rfl rfl c53 ?_
       refine Va (Vv (ds := [.int .i64 o32.Time, .sl (low.length + 1) 0 0 (o32.States).length, .sl (low.length + 2) 0 0 (o32.Since).length, .sl (low.length + 3) 0 0 (o32.Pulled).length, .vs 1 (Wq Ws o32.Held)]) rfl (Ve rfl rfl) rfl ta_34 ts_34 rfl rfl rfl) rfl ?_
       refine Xd rfl rfl c53 ?_
       refine Va (Vc rfl tf_34_0 ts_3 (by decide)) rfl ?_
       refine Xd rfl rfl c53 ?_
       refine Va (Vg rfl (Ve rfl rfl) rfl ta_3 rfl) rfl ?_
       refine Xd rfl rfl c53 ?_
       refine Va (Wk rfl rfl rfl) rfl ?_
       refine Xd rfl rfl c53 ?_
       refine Vj (vef_callB (vs := [.vs 2 (Wq T_Belt.enc x8.2), .agg [.int .i64 o32.Time, .vs 1 (Wq (Wr .i64) o32.States), .vs 1 (Wq (Wr .i64) o32.Since), .vs 1 (Wq Ws o32.Pulled), .vs 1 (Wq Ws o32.Held)], .int .i64 0, .int .i64 (IntKind.i64.wrap (o32.Time + 5))]) rfl Try.call18 ⟨Za rfl (.vs _ _), view_agg rfl ⟨Za rfl (.int _ _), Zi rfl (Ve rfl rfl) rfl rfl (Ya (fun _ => .int _ _)) (Vx rfl), Zi rfl (Ve rfl rfl) rfl rfl (Ya (fun _ => .int _ _)) (Vx rfl), Zi rfl (Ve rfl rfl) rfl rfl (Ya (fun _ => .bool _)) (Vx rfl), Za rfl (.vs _ _), trivial⟩, Za rfl (.int _ _), Za rfl (.int _ _), trivial⟩ ((F_law39_agree_ok h55 []).mono fun _ _ h => h.1) (.bool _)) rfl ?_
       refine Va (Vo (congrArg Ws c53) rfl) rfl ?_
       refine Va (Xz rfl) rfl ?_
       refine Vf ?_
       refine Xb ?_
       obtain rfl := Wt hF
       refine Wg ?_
       exact Vt rfl [] (by decide) ⟨Vr rfl (.bool _), trivial⟩ trivial
      ·have hF := Yp c53 hF
       refine Vj (Xp rfl Try.call8 (F_law39_awake_ok h52 _)) rfl ?_
       refine Va (Vm rfl) rfl ?_
       refine Vb rfl rfl (Zz c53) rfl ?_
       refine Vb rfl rfl (Zz c53) rfl ?_
       refine Vb rfl rfl (Zz c53) rfl ?_
       refine Vb rfl rfl (Zz c53) rfl ?_
       refine Vb rfl rfl (Zz c53) rfl ?_
       refine Vb rfl rfl (Zz c53) rfl ?_
       refine Va (Vn (congrArg Ws c53) rfl) rfl ?_
       refine Va (Xz rfl) rfl ?_
       refine Vf ?_
       refine Xb ?_
       obtain rfl := Wt hF
       refine Wg ?_
       exact Vt rfl [] (by decide) ⟨Vr rfl (.bool _), trivial⟩ trivial
 ·rintro _ _ _ _ ⟨he, hw⟩
  refine ⟨_, _, _, hw, ?_⟩
  exact Zd he [.bool r] ⟨rfl, trivial⟩ (.bool _) ⟨rfl, rfl⟩

end Go.Proofs.Ytmomjhbinkmefaa
