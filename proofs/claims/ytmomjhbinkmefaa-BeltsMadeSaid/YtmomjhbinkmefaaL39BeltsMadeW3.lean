/- Printed by wip/lift/lift.py: the walks that show that the program computes them. -/
import Derived.Test.YtmomjhbinkmefaaL39BeltsMadeW2
namespace Go.Proofs.Ytmomjhbinkmefaa
open Go Go.Aml Go.L
attribute [local irreducible] VRd VEf VOp VOps VWp DOps
set_option linter.unusedVariables false
open Go.Aml renaming vops_rd → Va, vops_skip → Vb, rd_fieldAddr → Vc, vwp_region → Vd, getO_N → Ve, vops_nil → Vf, rd_load1 → Vg, ltObj_map → Vh, vwp_seq → Vi, vops_efE → Vj, rd_mvI → Vk, cv_same → Vl, rd_mvB → Vm, rd_pickF → Vn, rd_pickT → Vo, weak_sub → Vp, dops_skip → Vq, rn_low → Vr, lenS → Vs, weak_pick → Vt, vef_into → Vu, rd_loadN → Vv, vwp_monoW → Vw, full_take → Vx, vef_store → Vy, vcalls_of_body → Vz, rd_asI → Xa, vwp_ret → Xb, rd_mvV → Xc, vt1 → Xd, vef_allocN → Xe, VRd → Xf, vef_callN → Xg, vwp_cond → Xh, len_app → Xi, rd_loadV1 → Xj, rd_to → Xk, rd_eql → Xl, weak_freezeN → Xm, vwp_skip → Xn, len_setL → Xo, vef_callP → Xp, rn_sl → Xq, setO_N → Xr, rx1 → Xs, ltObj_es → Xt, rd_extract → Xu, rd_lenV → Xv, lt_agg → Xw, all1 → Xx, onlyE → Xy, rd_asB → Xz, lt_map → Ya, Weak → Yb, dopx_rd → Yc, vwp_weak → Yd, nt_ne → Ye, rd_fieldVaddr → Yf, dops_skipX → Yg, vwp_block → Yh, dops_rdW → Yi, rn_ptr → Yj, mv_sl → Yk, rd_ixV → Yl, dr1 → Ym, vef_mkN → Yn, bifT → Yo, bifF → Yp, sets_own → Yq, cvo_agg → Yr, VCalls → Ys, bnd → Yt, allx1 → Yu, ne_low' → Yv, getO_B → Yw, ne_own → Yx, weak_room → Yy, dops_nil → Yz, view_same → Za, getI_some → Zb, vef_boxN → Zc, bodyQ_pure → Zd, rd_neq → Ze, dopx_ef → Zf, vef_callS → Zg, dops_ef → Zh, view_sl → Zi, cv_sl → Zj, vwp_drawn0 → Zk, sets_nil → Zl, bodyQ_some → Zm, all0 → Zn, neT → Zo, rd_not → Zp, rd_mvP → Zq, rd_lss → Zr, na1 → Zs, get_N → Zt, dt1 → Zu, rd_nilPtr → Zv, lt_kk → Zw, vcalls_low → Zx, ex1 → Zy, neF → Zz, rd_ixS → Wa, vwp_loopC → Wb, vwp_drawn → Wc, sets_B → Wd, bor_start → We, borC → Wf, fnR → Wg, rd_build → Wh, vwp_exit → Wi, mv_ptr → Wj, rd_add → Wk, vef_stL → Wl, lp_some → Wm, lp_bindE → Wn, nt_all2 → Wo, get_B → Wp
open List renaming map → Wq
open Go.Aml.PV renaming int → Wr
open Go.Aml.PV renaming bool → Ws
open Option.some renaming inj → Wt
open Nat renaming le_of_ble_eq_true → Wu
open Nat renaming succ_pos → Wv
open Bool renaming eq_false_or_eq_true → Ww
open List renaming length_map → Wx
set_option maxHeartbeats 4000000

theorem F_ref39_Valid_ok {p0 : List T_Belt} {p1 : T_Line} {r : Bool} (hF : F_ref39_Valid p0 p1 = some r) (low : List AObj) :
    Ys Try.prog 41 [.vs 2 (Wq T_Belt.enc p0), .agg [.int .i64 p1.Time, .vs 1 (Wq (Wr .i64) p1.States), .vs 1 (Wq (Wr .i64) p1.Since), .vs 1 (Wq Ws p1.Pulled), .vs 1 (Wq Ws p1.Held)]] low fun x low' => x = .bool r ∧ low' = low := by
 refine Vz (nt := 121) (rs := [.tmp 4]) Try.func41 rfl rfl (Wu rfl) rfl ?_
 refine Vw (Q' := FnE (fun E' lw lc => Yb E' lw lc [(4, .bool r)] low [])) ?_ ?_
 ·unfold F_ref39_Valid at hF
  refine Vi ?_
  refine Vd ?_
  refine Vj (Zc rfl rfl (v := .agg [.int .i64 p1.Time, .vs 1 (Wq (Wr .i64) p1.States), .vs 1 (Wq (Wr .i64) p1.Since), .vs 1 (Wq Ws p1.Pulled), .vs 1 (Wq Ws p1.Held)]) rfl rfl (Wv _) rfl rfl) rfl ?_
  refine Va (Xz rfl) rfl ?_
  refine Vf ?_
  refine Vi ?_
  refine Vd ?_
  refine Va (Xc rfl) rfl ?_
  refine Va (Xk (Xv rfl rfl te_27) (congrArg (fun n : Nat => Wr .i64 (n : Int)) (Wx _))) rfl ?_
  refine Va (Xa rfl) rfl ?_
  refine Vf ?_
  refine Vi ?_
  refine Vi ?_
  obtain ⟨o1, ho1, hF⟩ := Yt hF
  refine Vw (Q' := (fun o1 => OnlyE .normal (fun E' lw lc => Yb E' lw lc [(0, .vs 2 (Wq T_Belt.enc p0)), (3, .ptr (low.length + 0) 0 0 0), (5, .int .i64 ((p0).length : Int)), (50, .bool o1)] low [⟨34, 5, [.agg [.int .i64 p1.Time, .vs 1 (Wq (Wr .i64) p1.States), .vs 1 (Wq (Wr .i64) p1.Since), .vs 1 (Wq Ws p1.Pulled), .vs 1 (Wq Ws p1.Held)]], 0⟩])) o1) ?_ ?_
  ·replace hF := ho1
   refine Vd ?_
   obtain ⟨x2, h3, hF⟩ := Yt hF
   rcases Ww (!x2) with c4 | c4
   ·have hF := Yo c4 hF
    refine Va (Xc rfl) rfl ?_
    refine Vj (Xp rfl Try.call44 (F_ref39_belts_ok h3 _)) rfl ?_
    refine Va (Zp rfl) rfl ?_
    refine Va (Vm rfl) rfl ?_
    refine Vb rfl rfl (Zo c4) rfl ?_
    refine Vb rfl rfl (Zo c4) rfl ?_
    refine Vb rfl rfl (Zo c4) rfl ?_
    refine Vb rfl rfl (Zo c4) rfl ?_
    refine Vb rfl rfl (Zo c4) rfl ?_
    refine Va (Vo (congrArg Ws c4) rfl) rfl ?_
    refine Va (Vm rfl) rfl ?_
    refine Vb rfl rfl (by decide) rfl ?_
    refine Vb rfl rfl (by decide) rfl ?_
    refine Vb rfl rfl (by decide) rfl ?_
    refine Vb rfl rfl (by decide) rfl ?_
    refine Vb rfl rfl (by decide) rfl ?_
    refine Va (Vo rfl rfl) rfl ?_
    refine Va (Vm rfl) rfl ?_
    refine Vb rfl rfl (by decide) rfl ?_
    refine Vb rfl rfl (by decide) rfl ?_
    refine Vb rfl rfl (by decide) rfl ?_
    refine Vb rfl rfl (by decide) rfl ?_
    refine Vb rfl rfl (by decide) rfl ?_
    refine Va (Vo rfl rfl) rfl ?_
    refine Va (Vm rfl) rfl ?_
    refine Vb rfl rfl (by decide) rfl ?_
    refine Vb rfl rfl (by decide) rfl ?_
    refine Vb rfl rfl (by decide) rfl ?_
    refine Vb rfl rfl (by decide) rfl ?_
    refine Vb rfl rfl (by decide) rfl ?_
    refine Va (Vo rfl rfl) rfl ?_
    refine Va (Vm rfl) rfl ?_
    refine Vb rfl rfl (by decide) rfl ?_
    refine Vb rfl rfl (by decide) rfl ?_
    refine Vb rfl rfl (by decide) rfl ?_
    refine Va (Vo rfl rfl) rfl ?_
    refine Va (Vm rfl) rfl ?_
    refine Vb rfl rfl (by decide) rfl ?_
    refine Vb rfl rfl (by decide) rfl ?_
    refine Vb rfl rfl (by decide) rfl ?_
    refine Va (Vo rfl rfl) rfl ?_
    refine Vf ?_
    obtain rfl := Wt hF
    refine Xy ?_
    exact Vp ⟨rfl, rfl, rfl, rfl, trivial⟩
   ·have hF := Yp c4 hF
    rcases Ww (decide (((p1.States).length : Int) ≠ ((p0).length : Int))) with c5 | c5
    ·have hF := Yo c5 hF
     refine Va (Xc rfl) rfl ?_
     refine Vj (Xp rfl Try.call44 (F_ref39_belts_ok h3 _)) rfl ?_
     refine Va (Zp rfl) rfl ?_
     refine Va (Vm rfl) rfl ?_
     refine Xd rfl rfl c4 ?_
     refine Va (Vc rfl tf_34_1 ts_22 (by decide)) rfl ?_
     refine Xd rfl rfl c4 ?_
     refine Va (Vg rfl (Ve rfl rfl) rfl ta_22 rfl) rfl ?_
     refine Xd rfl rfl c4 ?_
     refine Va (Xk (Xv rfl rfl te_22) (congrArg (fun n : Nat => Wr .i64 (n : Int)) (Wx _))) rfl ?_
     refine Xd rfl rfl c4 ?_
     refine Va (Vk rfl) rfl ?_
     refine Xd rfl rfl c4 ?_
     refine Va (Ze rfl rfl) rfl ?_
     refine Va (Vn (congrArg Ws c4) rfl) rfl ?_
     refine Va (Vm rfl) rfl ?_
     refine Vb rfl rfl (Zo c5) rfl ?_
     refine Vb rfl rfl (Zo c5) rfl ?_
     refine Vb rfl rfl (Zo c5) rfl ?_
     refine Vb rfl rfl (Zo c5) rfl ?_
     refine Vb rfl rfl (Zo c5) rfl ?_
     refine Va (Vo (congrArg Ws c5) rfl) rfl ?_
     refine Va (Vm rfl) rfl ?_
     refine Vb rfl rfl (by decide) rfl ?_
     refine Vb rfl rfl (by decide) rfl ?_
     refine Vb rfl rfl (by decide) rfl ?_
     refine Vb rfl rfl (by decide) rfl ?_
     refine Vb rfl rfl (by decide) rfl ?_
     refine Va (Vo rfl rfl) rfl ?_
     refine Va (Vm rfl) rfl ?_
     refine Vb rfl rfl (by decide) rfl ?_
     refine Vb rfl rfl (by decide) rfl ?_
     refine Vb rfl rfl (by decide) rfl ?_
     refine Vb rfl rfl (by decide) rfl ?_
     refine Vb rfl rfl (by decide) rfl ?_
     refine Va (Vo rfl rfl) rfl ?_
     refine Va (Vm rfl) rfl ?_
     refine Vb rfl rfl (by decide) rfl ?_
     refine Vb rfl rfl (by decide) rfl ?_
     refine Vb rfl rfl (by decide) rfl ?_
     refine Va (Vo rfl rfl) rfl ?_
     refine Va (Vm rfl) rfl ?_
     refine Vb rfl rfl (by decide) rfl ?_
     refine Vb rfl rfl (by decide) rfl ?_
     refine Vb rfl rfl (by decide) rfl ?_
     refine Va (Vo rfl rfl) rfl ?_
     refine Vf ?_
     obtain rfl := Wt hF
     refine Xy ?_
     exact Vp ⟨rfl, rfl, rfl, rfl, trivial⟩
    ·have hF := Yp c5 hF
     rcases Ww (decide (((p1.Since).length : Int) ≠ ((p0).length : Int))) with c6 | c6
     ·have hF := Yo c6 hF
      refine Va (Xc rfl) rfl ?_
      refine Vj (Xp rfl Try.call44 (F_ref39_belts_ok h3 _)) rfl ?_
      refine Va (Zp rfl) rfl ?_
      refine Va (Vm rfl) rfl ?_
      refine Xd rfl rfl c4 ?_
      refine Va (Vc rfl tf_34_1 ts_22 (by decide)) rfl ?_
      refine Xd rfl rfl c4 ?_
      refine Va (Vg rfl (Ve rfl rfl) rfl ta_22 rfl) rfl ?_
      refine Xd rfl rfl c4 ?_
      refine Va (Xk (Xv rfl rfl te_22) (congrArg (fun n : Nat => Wr .i64 (n : Int)) (Wx _))) rfl ?_
      refine Xd rfl rfl c4 ?_
      refine Va (Vk rfl) rfl ?_
      refine Xd rfl rfl c4 ?_
      refine Va (Ze rfl rfl) rfl ?_
      refine Va (Vn (congrArg Ws c4) rfl) rfl ?_
      refine Va (Vm rfl) rfl ?_
      refine Xd rfl rfl c5 ?_
      refine Va (Vc rfl tf_34_2 ts_22 (by decide)) rfl ?_
      refine Xd rfl rfl c5 ?_
      refine Va (Vg rfl (Ve rfl rfl) rfl ta_22 rfl) rfl ?_
      refine Xd rfl rfl c5 ?_
      refine Va (Xk (Xv rfl rfl te_22) (congrArg (fun n : Nat => Wr .i64 (n : Int)) (Wx _))) rfl ?_
      refine Xd rfl rfl c5 ?_
      refine Va (Vk rfl) rfl ?_
      refine Xd rfl rfl c5 ?_
      refine Va (Ze rfl rfl) rfl ?_
      refine Va (Vn (congrArg Ws c5) rfl) rfl ?_
      refine Va (Vm rfl) rfl ?_
      refine Vb rfl rfl (Zo c6) rfl ?_
      refine Vb rfl rfl (Zo c6) rfl ?_
      refine Vb rfl rfl (Zo c6) rfl ?_
      refine Vb rfl rfl (Zo c6) rfl ?_
      refine Vb rfl rfl (Zo c6) rfl ?_
      refine Va (Vo (congrArg Ws c6) rfl) rfl ?_
      refine Va (Vm rfl) rfl ?_
      refine Vb rfl rfl (by decide) rfl ?_
      refine Vb rfl rfl (by decide) rfl ?_
      refine Vb rfl rfl (by decide) rfl ?_
      refine Vb rfl rfl (by decide) rfl ?_
      refine Vb rfl rfl (by decide) rfl ?_
      refine Va (Vo rfl rfl) rfl ?_
      refine Va (Vm rfl) rfl ?_
      refine Vb rfl rfl (by decide) rfl ?_
      refine Vb rfl rfl (by decide) rfl ?_
      refine Vb rfl rfl (by decide) rfl ?_
      refine Va (Vo rfl rfl) rfl ?_
      refine Va (Vm rfl) rfl ?_
      refine Vb rfl rfl (by decide) rfl ?_
      refine Vb rfl rfl (by decide) rfl ?_
      refine Vb rfl rfl (by decide) rfl ?_
      refine Va (Vo rfl rfl) rfl ?_
      refine Vf ?_
      obtain rfl := Wt hF
      refine Xy ?_
      exact Vp ⟨rfl, rfl, rfl, rfl, trivial⟩
     ·have hF := Yp c6 hF
      rcases Ww (decide (((p1.Pulled).length : Int) ≠ ((p0).length : Int))) with c7 | c7
      ·have hF := Yo c7 hF
       refine Va (Xc rfl) rfl ?_
       refine Vj (Xp rfl Try.call44 (F_ref39_belts_ok h3 _)) rfl ?_
       refine Va (Zp rfl) rfl ?_
       refine Va (Vm rfl) rfl ?_
       refine Xd rfl rfl c4 ?_
       refine Va (Vc rfl tf_34_1 ts_22 (by decide)) rfl ?_
       refine Xd rfl rfl c4 ?_
       refine Va (Vg rfl (Ve rfl rfl) rfl ta_22 rfl) rfl ?_
       refine Xd rfl rfl c4 ?_
       refine Va (Xk (Xv rfl rfl te_22) (congrArg (fun n : Nat => Wr .i64 (n : Int)) (Wx _))) rfl ?_
       refine Xd rfl rfl c4 ?_
       refine Va (Vk rfl) rfl ?_
       refine Xd rfl rfl c4 ?_
       refine Va (Ze rfl rfl) rfl ?_
       refine Va (Vn (congrArg Ws c4) rfl) rfl ?_
       refine Va (Vm rfl) rfl ?_
       refine Xd rfl rfl c5 ?_
       refine Va (Vc rfl tf_34_2 ts_22 (by decide)) rfl ?_
       refine Xd rfl rfl c5 ?_
       refine Va (Vg rfl (Ve rfl rfl) rfl ta_22 rfl) rfl ?_
       refine Xd rfl rfl c5 ?_
       refine Va (Xk (Xv rfl rfl te_22) (congrArg (fun n : Nat => Wr .i64 (n : Int)) (Wx _))) rfl ?_
       refine Xd rfl rfl c5 ?_
       refine Va (Vk rfl) rfl ?_
       refine Xd rfl rfl c5 ?_
       refine Va (Ze rfl rfl) rfl ?_
       refine Va (Vn (congrArg Ws c5) rfl) rfl ?_
       refine Va (Vm rfl) rfl ?_
       refine Xd rfl rfl c6 ?_
       refine Va (Vc rfl tf_34_3 ts_32 (by decide)) rfl ?_
       refine Xd rfl rfl c6 ?_
       refine Va (Vg rfl (Ve rfl rfl) rfl ta_32 rfl) rfl ?_
       refine Xd rfl rfl c6 ?_
       refine Va (Xk (Xv rfl rfl te_32) (congrArg (fun n : Nat => Wr .i64 (n : Int)) (Wx _))) rfl ?_
       refine Xd rfl rfl c6 ?_
       refine Va (Vk rfl) rfl ?_
       refine Xd rfl rfl c6 ?_
       refine Va (Ze rfl rfl) rfl ?_
       refine Va (Vn (congrArg Ws c6) rfl) rfl ?_
       refine Va (Vm rfl) rfl ?_
       refine Vb rfl rfl (Zo c7) rfl ?_
       refine Vb rfl rfl (Zo c7) rfl ?_
       refine Vb rfl rfl (Zo c7) rfl ?_
       refine Vb rfl rfl (Zo c7) rfl ?_
       refine Vb rfl rfl (Zo c7) rfl ?_
       refine Va (Vo (congrArg Ws c7) rfl) rfl ?_
       refine Va (Vm rfl) rfl ?_
       refine Vb rfl rfl (by decide) rfl ?_
       refine Vb rfl rfl (by decide) rfl ?_
       refine Vb rfl rfl (by decide) rfl ?_
       refine Va (Vo rfl rfl) rfl ?_
       refine Va (Vm rfl) rfl ?_
       refine Vb rfl rfl (by decide) rfl ?_
       refine Vb rfl rfl (by decide) rfl ?_
       refine Vb rfl rfl (by decide) rfl ?_
       refine Va (Vo rfl rfl) rfl ?_
       refine Vf ?_
       obtain rfl := Wt hF
       refine Xy ?_
       exact Vp ⟨rfl, rfl, rfl, rfl, trivial⟩
      ·have hF := Yp c7 hF
       rcases Ww (decide (((p1.Held).length : Int) ≠ ((p0).length : Int))) with c8 | c8
       ·have hF := Yo c8 hF
        refine Va (Xc rfl) rfl ?_
        refine Vj (Xp rfl Try.call44 (F_ref39_belts_ok h3 _)) rfl ?_
        refine Va (Zp rfl) rfl ?_
        refine Va (Vm rfl) rfl ?_
        refine Xd rfl rfl c4 ?_
        refine Va (Vc rfl tf_34_1 ts_22 (by decide)) rfl ?_
        refine Xd rfl rfl c4 ?_
        refine Va (Vg rfl (Ve rfl rfl) rfl ta_22 rfl) rfl ?_
        refine Xd rfl rfl c4 ?_
        refine Va (Xk (Xv rfl rfl te_22) (congrArg (fun n : Nat => Wr .i64 (n : Int)) (Wx _))) rfl ?_
        refine Xd rfl rfl c4 ?_
        refine Va (Vk rfl) rfl ?_
        refine Xd rfl rfl c4 ?_
        refine Va (Ze rfl rfl) rfl ?_
        refine Va (Vn (congrArg Ws c4) rfl) rfl ?_
        refine Va (Vm rfl) rfl ?_
        refine Xd rfl rfl c5 ?_
        refine Va (Vc rfl tf_34_2 ts_22 (by decide)) rfl ?_
        refine Xd rfl rfl c5 ?_
        refine Va (Vg rfl (Ve rfl rfl) rfl ta_22 rfl) rfl ?_
        refine Xd rfl rfl c5 ?_
        refine Va (Xk (Xv rfl rfl te_22) (congrArg (fun n : Nat => Wr .i64 (n : Int)) (Wx _))) rfl ?_
        refine Xd rfl rfl c5 ?_
        refine Va (Vk rfl) rfl ?_
        refine Xd rfl rfl c5 ?_
        refine Va (Ze rfl rfl) rfl ?_
        refine Va (Vn (congrArg Ws c5) rfl) rfl ?_
        refine Va (Vm rfl) rfl ?_
        refine Xd rfl rfl c6 ?_
        refine Va (Vc rfl tf_34_3 ts_32 (by decide)) rfl ?_
        refine Xd rfl rfl c6 ?_
        refine Va (Vg rfl (Ve rfl rfl) rfl ta_32 rfl) rfl ?_
        refine Xd rfl rfl c6 ?_
        refine Va (Xk (Xv rfl rfl te_32) (congrArg (fun n : Nat => Wr .i64 (n : Int)) (Wx _))) rfl ?_
        refine Xd rfl rfl c6 ?_
        refine Va (Vk rfl) rfl ?_
        refine Xd rfl rfl c6 ?_
        refine Va (Ze rfl rfl) rfl ?_
        refine Va (Vn (congrArg Ws c6) rfl) rfl ?_
        refine Va (Vm rfl) rfl ?_
        refine Xd rfl rfl c7 ?_
        refine Va (Vc rfl tf_34_4 ts_32 (by decide)) rfl ?_
        refine Xd rfl rfl c7 ?_
        refine Va (Vg rfl (Ve rfl rfl) rfl ta_32 rfl) rfl ?_
        refine Xd rfl rfl c7 ?_
        refine Va (Xk (Xv rfl rfl te_32) (congrArg (fun n : Nat => Wr .i64 (n : Int)) (Wx _))) rfl ?_
        refine Xd rfl rfl c7 ?_
        refine Va (Vk rfl) rfl ?_
        refine Xd rfl rfl c7 ?_
        refine Va (Ze rfl rfl) rfl ?_
        refine Va (Vn (congrArg Ws c7) rfl) rfl ?_
        refine Va (Vm rfl) rfl ?_
        refine Vb rfl rfl (Zo c8) rfl ?_
        refine Vb rfl rfl (Zo c8) rfl ?_
        refine Vb rfl rfl (Zo c8) rfl ?_
        refine Va (Vo (congrArg Ws c8) rfl) rfl ?_
        refine Va (Vm rfl) rfl ?_
        refine Vb rfl rfl (by decide) rfl ?_
        refine Vb rfl rfl (by decide) rfl ?_
        refine Vb rfl rfl (by decide) rfl ?_
        refine Va (Vo rfl rfl) rfl ?_
        refine Vf ?_
        obtain rfl := Wt hF
        refine Xy ?_
        exact Vp ⟨rfl, rfl, rfl, rfl, trivial⟩
       ·have hF := Yp c8 hF
        rcases Ww (decide (p1.Time < 0)) with c9 | c9
        ·have hF := Yo c9 hF
         refine Va (Xc rfl) rfl ?_
         refine Vj (Xp rfl Try.call44 (F_ref39_belts_ok h3 _)) rfl ?_
         refine Va (Zp rfl) rfl ?_
         refine Va (Vm rfl) rfl ?_
         refine Xd rfl rfl c4 ?_
         refine Va (Vc rfl tf_34_1 ts_22 (by decide)) rfl ?_
         refine Xd rfl rfl c4 ?_
         refine Va (Vg rfl (Ve rfl rfl) rfl ta_22 rfl) rfl ?_
         refine Xd rfl rfl c4 ?_
         refine Va (Xk (Xv rfl rfl te_22) (congrArg (fun n : Nat => Wr .i64 (n : Int)) (Wx _))) rfl ?_
         refine Xd rfl rfl c4 ?_
         refine Va (Vk rfl) rfl ?_
         refine Xd rfl rfl c4 ?_
         refine Va (Ze rfl rfl) rfl ?_
         refine Va (Vn (congrArg Ws c4) rfl) rfl ?_
         refine Va (Vm rfl) rfl ?_
         refine Xd rfl rfl c5 ?_
         refine Va (Vc rfl tf_34_2 ts_22 (by decide)) rfl ?_
         refine Xd rfl rfl c5 ?_
         refine Va (Vg rfl (Ve rfl rfl) rfl ta_22 rfl) rfl ?_
         refine Xd rfl rfl c5 ?_
         refine Va (Xk (Xv rfl rfl te_22) (congrArg (fun n : Nat => Wr .i64 (n : Int)) (Wx _))) rfl ?_
         refine Xd rfl rfl c5 ?_
         refine Va (Vk rfl) rfl ?_
         refine Xd rfl rfl c5 ?_
         refine Va (Ze rfl rfl) rfl ?_
         refine Va (Vn (congrArg Ws c5) rfl) rfl ?_
         refine Va (Vm rfl) rfl ?_
         refine Xd rfl rfl c6 ?_
         refine Va (Vc rfl tf_34_3 ts_32 (by decide)) rfl ?_
         refine Xd rfl rfl c6 ?_
         refine Va (Vg rfl (Ve rfl rfl) rfl ta_32 rfl) rfl ?_
         refine Xd rfl rfl c6 ?_
         refine Va (Xk (Xv rfl rfl te_32) (congrArg (fun n : Nat => Wr .i64 (n : Int)) (Wx _))) rfl ?_
         refine Xd rfl rfl c6 ?_
         refine Va (Vk rfl) rfl ?_
         refine Xd rfl rfl c6 ?_
         refine Va (Ze rfl rfl) rfl ?_
         refine Va (Vn (congrArg Ws c6) rfl) rfl ?_
         refine Va (Vm rfl) rfl ?_
         refine Xd rfl rfl c7 ?_
         refine Va (Vc rfl tf_34_4 ts_32 (by decide)) rfl ?_
         refine Xd rfl rfl c7 ?_
         refine Va (Vg rfl (Ve rfl rfl) rfl ta_32 rfl) rfl ?_
         refine Xd rfl rfl c7 ?_
         refine Va (Xk (Xv rfl rfl te_32) (congrArg (fun n : Nat => Wr .i64 (n : Int)) (Wx _))) rfl ?_
         refine Xd rfl rfl c7 ?_
         refine Va (Vk rfl) rfl ?_
         refine Xd rfl rfl c7 ?_
         refine Va (Ze rfl rfl) rfl ?_
         refine Va (Vn (congrArg Ws c7) rfl) rfl ?_
         refine Va (Vm rfl) rfl ?_
         refine Xd rfl rfl c8 ?_
         refine Va (Vc rfl tf_34_0 ts_3 (by decide)) rfl ?_
         refine Xd rfl rfl c8 ?_
         refine Va (Vg rfl (Ve rfl rfl) rfl ta_3 rfl) rfl ?_
         refine Xd rfl rfl c8 ?_
         refine Va (Zr rfl rfl) rfl ?_
         refine Va (Vn (congrArg Ws c8) rfl) rfl ?_
         refine Va (Vm rfl) rfl ?_
         refine Vb rfl rfl (Zo c9) rfl ?_
         refine Vb rfl rfl (Zo c9) rfl ?_
         refine Vb rfl rfl (Zo c9) rfl ?_
         refine Va (Vo (congrArg Ws c9) rfl) rfl ?_
         refine Vf ?_
         obtain rfl := Wt hF
         refine Xy ?_
         exact Vp ⟨rfl, rfl, rfl, rfl, trivial⟩
        ·have hF := Yp c9 hF
         refine Va (Xc rfl) rfl ?_
         refine Vj (Xp rfl Try.call44 (F_ref39_belts_ok h3 _)) rfl ?_
         refine Va (Zp rfl) rfl ?_
         refine Va (Vm rfl) rfl ?_
         refine Xd rfl rfl c4 ?_
         refine Va (Vc rfl tf_34_1 ts_22 (by decide)) rfl ?_
         refine Xd rfl rfl c4 ?_
         refine Va (Vg rfl (Ve rfl rfl) rfl ta_22 rfl) rfl ?_
         refine Xd rfl rfl c4 ?_
         refine Va (Xk (Xv rfl rfl te_22) (congrArg (fun n : Nat => Wr .i64 (n : Int)) (Wx _))) rfl ?_
         refine Xd rfl rfl c4 ?_
         refine Va (Vk rfl) rfl ?_
         refine Xd rfl rfl c4 ?_
         refine Va (Ze rfl rfl) rfl ?_
         refine Va (Vn (congrArg Ws c4) rfl) rfl ?_
         refine Va (Vm rfl) rfl ?_
         refine Xd rfl rfl c5 ?_
         refine Va (Vc rfl tf_34_2 ts_22 (by decide)) rfl ?_
         refine Xd rfl rfl c5 ?_
         refine Va (Vg rfl (Ve rfl rfl) rfl ta_22 rfl) rfl ?_
         refine Xd rfl rfl c5 ?_
         refine Va (Xk (Xv rfl rfl te_22) (congrArg (fun n : Nat => Wr .i64 (n : Int)) (Wx _))) rfl ?_
         refine Xd rfl rfl c5 ?_
         refine Va (Vk rfl) rfl ?_
         refine Xd rfl rfl c5 ?_
         refine Va (Ze rfl rfl) rfl ?_
         refine Va (Vn (congrArg Ws c5) rfl) rfl ?_
         refine Va (Vm rfl) rfl ?_
         refine Xd rfl rfl c6 ?_
         refine Va (Vc rfl tf_34_3 ts_32 (by decide)) rfl ?_
         refine Xd rfl rfl c6 ?_
         refine Va (Vg rfl (Ve rfl rfl) rfl ta_32 rfl) rfl ?_
         refine Xd rfl rfl c6 ?_
         refine Va (Xk (Xv rfl rfl te_32) (congrArg (fun n : Nat => Wr .i64 (n : Int)) (Wx _))) rfl ?_
         refine Xd rfl rfl c6 ?_
         refine Va (Vk rfl) rfl ?_
         refine Xd rfl rfl c6 ?_
         refine Va (Ze rfl rfl) rfl ?_
         refine Va (Vn (congrArg Ws c6) rfl) rfl ?_
         refine Va (Vm rfl) rfl ?_
         refine Xd rfl rfl c7 ?_
         refine Va (Vc rfl tf_34_4 ts_32 (by decide)) rfl ?_
         refine Xd rfl rfl c7 ?_
         refine Va (Vg rfl (Ve rfl rfl) rfl ta_32 rfl) rfl ?_
         refine Xd rfl rfl c7 ?_
         refine Va (Xk (Xv rfl rfl te_32) (congrArg (fun n : Nat => Wr .i64 (n : Int)) (Wx _))) rfl ?_
         refine Xd rfl rfl c7 ?_
         refine Va (Vk rfl) rfl ?_
         refine Xd rfl rfl c7 ?_
         refine Va (Ze rfl rfl) rfl ?_
         refine Va (Vn (congrArg Ws c7) rfl) rfl ?_
         refine Va (Vm rfl) rfl ?_
         refine Xd rfl rfl c8 ?_
         refine Va (Vc rfl tf_34_0 ts_3 (by decide)) rfl ?_
         refine Xd rfl rfl c8 ?_
         refine Va (Vg rfl (Ve rfl rfl) rfl ta_3 rfl) rfl ?_
         refine Xd rfl rfl c8 ?_
         refine Va (Zr rfl rfl) rfl ?_
         refine Va (Vn (congrArg Ws c8) rfl) rfl ?_
         refine Va (Vm rfl) rfl ?_
         refine Xd rfl rfl c9 ?_
         refine Va (Vc rfl tf_34_0 ts_3 (by decide)) rfl ?_
         refine Xd rfl rfl c9 ?_
         refine Va (Vg rfl (Ve rfl rfl) rfl ta_3 rfl) rfl ?_
         refine Xd rfl rfl c9 ?_
         refine Va (rd_gtr rfl rfl) rfl ?_
         refine Va (Vn (congrArg Ws c9) rfl) rfl ?_
         refine Vf ?_
         obtain rfl := Wt hF
         refine Xy ?_
         exact Vp ⟨rfl, rfl, rfl, rfl, trivial⟩
  ·rintro _ _ _ _ ⟨rfl, hw⟩
   refine ⟨_, _, _, hw, ?_⟩
   refine Xh rfl (fun c10 => ?_) (fun c10 => ?_)
   ·have hF := Yo c10 hF
    refine Vi ?_
    refine Vd ?_
    refine Va (Xz rfl) rfl ?_
    refine Vf ?_
    refine Xb ?_
    obtain rfl := Wt hF
    refine Wg ?_
    exact Vt rfl [] (by decide) ⟨Vr rfl (.bool _), trivial⟩ trivial
   ·have hF := Yp c10 hF
    refine Xn ?_
    refine Vi ?_
    refine Vi ?_
    refine Vd ?_
    refine Va (Xa rfl) rfl ?_
    refine Vf ?_
    refine Yh ?_
    obtain ⟨o12, ho12, hF⟩ := Yt hF
    refine Vw (Wb (F_ref39_Valid_L1 p0 p1) (fun s11 E' lw lc => Yb E' lw lc [(0, .vs 2 (Wq T_Belt.enc p0)), (3, .ptr (low.length + 0) 0 0 0), (5, .int .i64 ((p0).length : Int)), (6, .int .i64 s11)] low [⟨34, 5, [.agg [.int .i64 p1.Time, .vs 1 (Wq (Wr .i64) p1.States), .vs 1 (Wq (Wr .i64) p1.Since), .vs 1 (Wq Ws p1.Pulled), .vs 1 (Wq Ws p1.Held)]], 0⟩]) (Sum.elim (fun j13 => OnlyE .ret (fun E' lw lc => Yb E' lw lc [(4, .bool false)] low [])) (fun j14 => OnlyE (.exit 0) (fun E' lw lc => Yb E' lw lc [] low []))) ho12 ?_ (by rintro (_|_) _ _ _ ⟨h, _⟩ <;> cases h) ?_) ?_
    ·exact Vp ⟨rfl, rfl, rfl, rfl, trivial⟩
    ·rintro s11 os11 _ _ _ hF hw
     unfold F_ref39_Valid_L1 at hF
     refine Yd hw ?_
     refine Vi ?_
     refine Vi ?_
     refine Vd ?_
     refine Va (Vk rfl) rfl ?_
     refine Va (Vk rfl) rfl ?_
     refine Va (Zr rfl rfl) rfl ?_
     refine Vf ?_
     refine Xh rfl (fun c15 => ?_) (fun c15 => ?_)
     ·have hF := Yo c15 hF
      refine Xn ?_
      refine Vi ?_
      refine Yh ?_
      refine Vi ?_
      refine Vd ?_
      obtain ⟨x16, h17, hF⟩ := Yt hF
      refine Va (Vc rfl tf_34_1 ts_22 (by decide)) rfl ?_
      refine Va (Vg rfl (Ve rfl rfl) rfl ta_22 rfl) rfl ?_
      refine Va (Vk rfl) rfl ?_
      refine Va (Xk (Yl rfl rfl h17 te_22 ts_3) (v' := .vptr [.int .i64 x16] 0) rfl) rfl ?_
      refine Va (Xj rfl ta_3 rfl) rfl ?_
      refine Va (Xa rfl) rfl ?_
      refine Vf ?_
      refine Vi ?_
      refine Vi ?_
      obtain ⟨o18, ho18, hF⟩ := Yt hF
      refine Vw (Q' := (fun o18 => OnlyE .normal (fun E' lw lc => Yb E' lw lc [(0, .vs 2 (Wq T_Belt.enc p0)), (3, .ptr (low.length + 0) 0 0 0), (5, .int .i64 ((p0).length : Int)), (6, .int .i64 s11), (7, .int .i64 x16), (84, .bool o18)] low [⟨34, 5, [.agg [.int .i64 p1.Time, .vs 1 (Wq (Wr .i64) p1.States), .vs 1 (Wq (Wr .i64) p1.Since), .vs 1 (Wq Ws p1.Pulled), .vs 1 (Wq Ws p1.Held)]], 0⟩])) o18) ?_ ?_
      ·replace hF := ho18
       rcases Ww (decide (x16 < 0)) with c19 | c19
       ·have hF := Yo c19 hF
        refine Zk [[], [0], [0, 1], [0, 1, 2], [0, 1, 2, 3], [0, 1, 2, 3, 4], [0, 1, 2, 3, 4, 5], [0, 1, 2, 3, 4, 5, 6], [0, 1, 2, 3, 4, 5, 6, 7], [0, 1, 2, 3, 4, 5, 6], [0, 1, 2, 3, 4, 5, 6, 7, 8, 9], [0, 1, 2, 3, 4, 5, 6, 7, 8, 9, 10], [0, 1, 2, 3, 4, 5, 6, 7, 8, 9, 10, 11], [0, 1, 2, 3, 4, 5, 6, 7, 8, 9, 10, 11, 12], [0, 1, 2, 3, 4, 5, 6, 7, 8, 9, 10, 11, 12, 13], [0, 1, 2, 3, 4, 5, 6, 7, 8, 9, 10, 11, 12, 13, 14], [0, 1, 2, 3, 4, 5, 6, 7, 8, 9, 10, 11, 12, 13, 14, 15], [0, 1, 2, 3, 4, 5, 6, 7, 8, 9, 10, 11, 12, 13, 14], [0, 1, 2, 3, 4, 5, 6, 7, 8, 9, 10, 11, 12, 13, 14, 15, 16, 17], [0, 1, 2, 3, 4, 5, 6, 7, 8, 9, 10, 11, 12, 13, 14, 15, 16, 17, 18], [0, 1, 2, 3, 4, 5, 6, 7, 8, 9, 10, 11, 12, 13, 14], [0, 1, 2, 3, 4, 5, 6, 7, 8, 9, 10, 11, 12, 13, 14, 20], [0, 1, 2, 3, 4, 5, 6, 7, 8, 9, 10, 11, 12, 13, 14, 15, 16, 17, 18, 19, 20, 21], [0, 1, 2, 3, 4, 5, 6, 7, 8, 9, 10, 11, 12, 13, 14, 15, 16, 17, 18, 19, 20, 21, 22]] mixed (by kernel_rfl) rfl ?_
        refine Ym rfl rfl (Vk rfl) ?_
        refine Ym rfl rfl (Zr rfl rfl) ?_
        refine Ym rfl rfl (Vm rfl) ?_
        refine Vq rfl rfl rfl (Zo c19) ?_
        refine Vq rfl rfl rfl (Zo c19) ?_
        refine Ym rfl rfl (Vo (congrArg Ws c19) rfl) ?_
        refine Ym rfl rfl (Vm rfl) ?_
        refine Vq rfl rfl rfl (by decide) ?_
        refine Vq rfl rfl rfl (by decide) ?_
        refine Vq rfl rfl rfl (by decide) ?_
        refine Vq rfl rfl rfl (by decide) ?_
        refine Vq rfl rfl rfl (by decide) ?_
        refine Vq rfl rfl rfl (by decide) ?_
        refine Ym rfl rfl (Vo rfl rfl) ?_
        refine Ym rfl rfl (Vm rfl) ?_
        refine Vq rfl rfl rfl (by decide) ?_
        refine Vq rfl rfl rfl (by decide) ?_
        refine Vq rfl rfl rfl (by decide) ?_
        refine Vq rfl rfl rfl (by decide) ?_
        refine Vq rfl rfl rfl (by decide) ?_
        refine Vq rfl rfl rfl (by decide) ?_
        refine Vq rfl rfl rfl (by decide) ?_
        refine Vq rfl rfl rfl (by decide) ?_
        refine Ym rfl rfl (Vo rfl rfl) ?_
        refine Yz ?_
        obtain rfl := Wt hF
        refine Xy ?_
        exact Vp ⟨rfl, rfl, rfl, rfl, rfl, rfl, trivial⟩
       ·have hF := Yp c19 hF
        rcases Ww (decide (2 < x16)) with c20 | c20
        ·have hF := Yo c20 hF
         refine Zk [[], [0], [0, 1], [0, 1, 2], [0, 1, 2, 3], [0, 1, 2, 3, 4], [0, 1, 2, 3, 4, 5], [0, 1, 2, 3, 4, 5, 6], [0, 1, 2, 3, 4, 5, 6, 7], [0, 1, 2, 3, 4, 5, 6], [0, 1, 2, 3, 4, 5, 6, 7, 8, 9], [0, 1, 2, 3, 4, 5, 6, 7, 8, 9, 10], [0, 1, 2, 3, 4, 5, 6, 7, 8, 9, 10, 11], [0, 1, 2, 3, 4, 5, 6, 7, 8, 9, 10, 11, 12], [0, 1, 2, 3, 4, 5, 6, 7, 8, 9, 10, 11, 12, 13], [0, 1, 2, 3, 4, 5, 6, 7, 8, 9, 10, 11, 12, 13, 14], [0, 1, 2, 3, 4, 5, 6, 7, 8, 9, 10, 11, 12, 13, 14, 15], [0, 1, 2, 3, 4, 5, 6, 7, 8, 9, 10, 11, 12, 13, 14], [0, 1, 2, 3, 4, 5, 6, 7, 8, 9, 10, 11, 12, 13, 14, 15, 16, 17], [0, 1, 2, 3, 4, 5, 6, 7, 8, 9, 10, 11, 12, 13, 14, 15, 16, 17, 18], [0, 1, 2, 3, 4, 5, 6, 7, 8, 9, 10, 11, 12, 13, 14], [0, 1, 2, 3, 4, 5, 6, 7, 8, 9, 10, 11, 12, 13, 14, 20], [0, 1, 2, 3, 4, 5, 6, 7, 8, 9, 10, 11, 12, 13, 14, 15, 16, 17, 18, 19, 20, 21], [0, 1, 2, 3, 4, 5, 6, 7, 8, 9, 10, 11, 12, 13, 14, 15, 16, 17, 18, 19, 20, 21, 22]] mixed (by kernel_rfl) rfl ?_
         refine Ym rfl rfl (Vk rfl) ?_
         refine Ym rfl rfl (Zr rfl rfl) ?_
         refine Ym rfl rfl (Vm rfl) ?_
         refine Zu rfl rfl rfl rfl c19 (Vk rfl) ?_
         refine Zu rfl rfl rfl rfl c19 (rd_gtr rfl rfl) ?_
         refine Ym rfl rfl (Vn (congrArg Ws c19) rfl) ?_
         refine Ym rfl rfl (Vm rfl) ?_
         refine Vq rfl rfl rfl (Zo c20) ?_
         refine Vq rfl rfl rfl (Zo c20) ?_
         refine Vq rfl rfl rfl (Zo c20) ?_
         refine Vq rfl rfl rfl (Zo c20) ?_
         refine Vq rfl rfl rfl (Zo c20) ?_
         refine Vq rfl rfl rfl (Zo c20) ?_
         refine Ym rfl rfl (Vo (congrArg Ws c20) rfl) ?_
         refine Ym rfl rfl (Vm rfl) ?_
         refine Vq rfl rfl rfl (by decide) ?_
         refine Vq rfl rfl rfl (by decide) ?_
         refine Vq rfl rfl rfl (by decide) ?_
         refine Vq rfl rfl rfl (by decide) ?_
         refine Vq rfl rfl rfl (by decide) ?_
         refine Vq rfl rfl rfl (by decide) ?_
         refine Vq rfl rfl rfl (by decide) ?_
         refine Vq rfl rfl rfl (by decide) ?_
         refine Ym rfl rfl (Vo rfl rfl) ?_
         refine Yz ?_
         obtain rfl := Wt hF
         refine Xy ?_
         exact Vp ⟨rfl, rfl, rfl, rfl, rfl, rfl, trivial⟩
        ·have hF := Yp c20 hF
         obtain ⟨x21, h22, hF⟩ := Yt hF
         rcases Ww (decide (x21 < 0)) with c23 | c23
         ·have hF := Yo c23 hF
          refine Zk [[], [0], [0, 1], [0, 1, 2], [0, 1, 2, 3], [0, 1, 2, 3, 4], [0, 1, 2, 3, 4, 5], [0, 1, 2, 3, 4, 5, 6], [0, 1, 2, 3, 4, 5, 6, 7], [0, 1, 2, 3, 4, 5, 6], [0, 1, 2, 3, 4, 5, 6, 7, 8, 9], [0, 1, 2, 3, 4, 5, 6, 7, 8, 9, 10], [0, 1, 2, 3, 4, 5, 6, 7, 8, 9, 10, 11], [0, 1, 2, 3, 4, 5, 6, 7, 8, 9, 10, 11, 12], [0, 1, 2, 3, 4, 5, 6, 7, 8, 9, 10, 11, 12, 13], [0, 1, 2, 3, 4, 5, 6, 7, 8, 9, 10, 11, 12, 13, 14], [0, 1, 2, 3, 4, 5, 6, 7, 8, 9, 10, 11, 12, 13, 14, 15], [0, 1, 2, 3, 4, 5, 6, 7, 8, 9, 10, 11, 12, 13, 14], [0, 1, 2, 3, 4, 5, 6, 7, 8, 9, 10, 11, 12, 13, 14, 15, 16, 17], [0, 1, 2, 3, 4, 5, 6, 7, 8, 9, 10, 11, 12, 13, 14, 15, 16, 17, 18], [0, 1, 2, 3, 4, 5, 6, 7, 8, 9, 10, 11, 12, 13, 14], [0, 1, 2, 3, 4, 5, 6, 7, 8, 9, 10, 11, 12, 13, 14, 20], [0, 1, 2, 3, 4, 5, 6, 7, 8, 9, 10, 11, 12, 13, 14, 15, 16, 17, 18, 19, 20, 21], [0, 1, 2, 3, 4, 5, 6, 7, 8, 9, 10, 11, 12, 13, 14, 15, 16, 17, 18, 19, 20, 21, 22]] mixed (by kernel_rfl) rfl ?_
          refine Ym rfl rfl (Vk rfl) ?_
          refine Ym rfl rfl (Zr rfl rfl) ?_
          refine Ym rfl rfl (Vm rfl) ?_
          refine Zu rfl rfl rfl rfl c19 (Vk rfl) ?_
          refine Zu rfl rfl rfl rfl c19 (rd_gtr rfl rfl) ?_
          refine Ym rfl rfl (Vn (congrArg Ws c19) rfl) ?_
          refine Ym rfl rfl (Vm rfl) ?_
          refine Zu rfl rfl rfl rfl c20 (Vc rfl tf_34_2 ts_22 (by decide)) ?_
          refine Zu rfl rfl rfl rfl c20 (Vg rfl (Ve rfl rfl) rfl ta_22 rfl) ?_
          refine Zu rfl rfl rfl rfl c20 (Vk rfl) ?_
          refine Zu rfl rfl rfl rfl c20 (Xk (Yl rfl rfl h22 te_22 ts_3) (v' := .vptr [.int .i64 x21] 0) rfl) ?_
          refine Zu rfl rfl rfl rfl c20 (Xj rfl ta_3 rfl) ?_
          refine Zu rfl rfl rfl rfl c20 (Zr rfl rfl) ?_
          refine Ym rfl rfl (Vn (congrArg Ws c20) rfl) ?_
          refine Ym rfl rfl (Vm rfl) ?_
          refine Vq rfl rfl rfl (Zo c23) ?_
          refine Vq rfl rfl rfl (Zo c23) ?_
          refine Vq rfl rfl rfl (Zo c23) ?_
          refine Vq rfl rfl rfl (Zo c23) ?_
          refine Vq rfl rfl rfl (Zo c23) ?_
          refine Vq rfl rfl rfl (Zo c23) ?_
          refine Vq rfl rfl rfl (Zo c23) ?_
          refine Vq rfl rfl rfl (Zo c23) ?_
          refine Ym rfl rfl (Vo (congrArg Ws c23) rfl) ?_
          refine Yz ?_
          obtain rfl := Wt hF
          refine Xy ?_
          exact Vp ⟨rfl, rfl, rfl, rfl, rfl, rfl, trivial⟩
         ·have hF := Yp c23 hF
          obtain ⟨x24, h25, hF⟩ := Yt hF
          refine Zk [[], [0], [0, 1], [0, 1, 2], [0, 1, 2, 3], [0, 1, 2, 3, 4], [0, 1, 2, 3, 4, 5], [0, 1, 2, 3, 4, 5, 6], [0, 1, 2, 3, 4, 5, 6, 7], [0, 1, 2, 3, 4, 5, 6], [0, 1, 2, 3, 4, 5, 6, 7, 8, 9], [0, 1, 2, 3, 4, 5, 6, 7, 8, 9, 10], [0, 1, 2, 3, 4, 5, 6, 7, 8, 9, 10, 11], [0, 1, 2, 3, 4, 5, 6, 7, 8, 9, 10, 11, 12], [0, 1, 2, 3, 4, 5, 6, 7, 8, 9, 10, 11, 12, 13], [0, 1, 2, 3, 4, 5, 6, 7, 8, 9, 10, 11, 12, 13, 14], [0, 1, 2, 3, 4, 5, 6, 7, 8, 9, 10, 11, 12, 13, 14, 15], [0, 1, 2, 3, 4, 5, 6, 7, 8, 9, 10, 11, 12, 13, 14], [0, 1, 2, 3, 4, 5, 6, 7, 8, 9, 10, 11, 12, 13, 14, 15, 16, 17], [0, 1, 2, 3, 4, 5, 6, 7, 8, 9, 10, 11, 12, 13, 14, 15, 16, 17, 18], [0, 1, 2, 3, 4, 5, 6, 7, 8, 9, 10, 11, 12, 13, 14], [0, 1, 2, 3, 4, 5, 6, 7, 8, 9, 10, 11, 12, 13, 14, 20], [0, 1, 2, 3, 4, 5, 6, 7, 8, 9, 10, 11, 12, 13, 14, 15, 16, 17, 18, 19, 20, 21], [0, 1, 2, 3, 4, 5, 6, 7, 8, 9, 10, 11, 12, 13, 14, 15, 16, 17, 18, 19, 20, 21, 22]] mixed (by kernel_rfl) rfl ?_
          refine Ym rfl rfl (Vk rfl) ?_
          refine Ym rfl rfl (Zr rfl rfl) ?_
          refine Ym rfl rfl (Vm rfl) ?_
          refine Zu rfl rfl rfl rfl c19 (Vk rfl) ?_
          refine Zu rfl rfl rfl rfl c19 (rd_gtr rfl rfl) ?_
          refine Ym rfl rfl (Vn (congrArg Ws c19) rfl) ?_
          refine Ym rfl rfl (Vm rfl) ?_
          refine Zu rfl rfl rfl rfl c20 (Vc rfl tf_34_2 ts_22 (by decide)) ?_
          refine Zu rfl rfl rfl rfl c20 (Vg rfl (Ve rfl rfl) rfl ta_22 rfl) ?_
          refine Zu rfl rfl rfl rfl c20 (Vk rfl) ?_
          refine Zu rfl rfl rfl rfl c20 (Xk (Yl rfl rfl h22 te_22 ts_3) (v' := .vptr [.int .i64 x21] 0) rfl) ?_
          refine Zu rfl rfl rfl rfl c20 (Xj rfl ta_3 rfl) ?_
          refine Zu rfl rfl rfl rfl c20 (Zr rfl rfl) ?_
          refine Ym rfl rfl (Vn (congrArg Ws c20) rfl) ?_
          refine Ym rfl rfl (Vm rfl) ?_
          refine Zu rfl rfl rfl rfl c23 (Vc rfl tf_34_2 ts_22 (by decide)) ?_
          refine Zu rfl rfl rfl rfl c23 (Vg rfl (Ve rfl rfl) rfl ta_22 rfl) ?_
          refine Zu rfl rfl rfl rfl c23 (Vk rfl) ?_
          refine Zu rfl rfl rfl rfl c23 (Xk (Yl rfl rfl h25 te_22 ts_3) (v' := .vptr [.int .i64 x24] 0) rfl) ?_
          refine Zu rfl rfl rfl rfl c23 (Xj rfl ta_3 rfl) ?_
          refine Zu rfl rfl rfl rfl c23 (Vc rfl tf_34_0 ts_3 (by decide)) ?_
          refine Zu rfl rfl rfl rfl c23 (Vg rfl (Ve rfl rfl) rfl ta_3 rfl) ?_
          refine Zu rfl rfl rfl rfl c23 (rd_gtr rfl rfl) ?_
          refine Ym rfl rfl (Vn (congrArg Ws c23) rfl) ?_
          refine Yz ?_
          obtain rfl := Wt hF
          refine Xy ?_
          exact Vp ⟨rfl, rfl, rfl, rfl, rfl, rfl, trivial⟩
      ·rintro _ _ _ _ ⟨rfl, hw⟩
       refine ⟨_, _, _, hw, ?_⟩
       refine Xh rfl (fun c26 => ?_) (fun c26 => ?_)
       ·have hF := Yo c26 hF
        refine Vi ?_
        refine Vd ?_
        refine Va (Xz rfl) rfl ?_
        refine Vf ?_
        refine Xb ?_
        obtain rfl := Wt hF
        refine Xy ?_
        exact Vt rfl [] (by decide) ⟨Vr rfl (.bool _), trivial⟩ trivial
       ·have hF := Yp c26 hF
        refine Xn ?_
        refine Vi ?_
        obtain ⟨o27, ho27, hF⟩ := Yt hF
        refine Vw (Q' := (fun o27 => OnlyE .normal (fun E' lw lc => Yb E' lw lc [(0, .vs 2 (Wq T_Belt.enc p0)), (3, .ptr (low.length + 0) 0 0 0), (5, .int .i64 ((p0).length : Int)), (6, .int .i64 s11), (120, .bool o27)] low [⟨34, 5, [.agg [.int .i64 p1.Time, .vs 1 (Wq (Wr .i64) p1.States), .vs 1 (Wq (Wr .i64) p1.Since), .vs 1 (Wq Ws p1.Pulled), .vs 1 (Wq Ws p1.Held)]], 0⟩])) o27) ?_ ?_
        ·replace hF := ho27
         rcases Ww (decide (x16 ≠ 0)) with c28 | c28
         ·have hF := Yo c28 hF
          obtain ⟨x29, h30, hF⟩ := Yt hF
          rcases Ww x29 with c31 | c31
          ·have hF := Yo c31 hF
           refine Zk [[], [0], [0, 1], [0, 1, 2], [0, 1, 2, 3], [0, 1, 2], [0, 1, 2, 3, 4, 5], [0, 1, 2, 3, 4, 5, 6], [0, 1, 2, 3, 4, 5, 6, 7], [0, 1, 2, 3, 4, 5, 6, 7, 8], [0, 1, 2, 3, 4, 5, 6, 7, 8, 9], [0, 1, 2, 3, 4, 5, 6, 7, 8], [0, 1, 2, 3, 4, 5, 6, 7, 8, 9, 10, 11], [0, 1, 2, 3, 4, 5, 6, 7, 8, 9, 10, 11, 12], [0, 1, 2, 3, 4, 5, 6, 7, 8, 9, 10, 11, 12, 13], [0, 1, 2, 3, 4, 5, 6, 7, 8, 9, 10, 11, 12, 13, 14], [0, 1, 2, 3, 4, 5, 6, 7, 8, 9, 10, 11, 12, 13, 14, 15], [0, 1, 2, 3, 4, 5, 6, 7, 8, 9, 10, 11, 12, 13, 14, 15], [0, 1, 2, 3, 4, 5, 6, 7, 8, 9, 10, 11, 12, 13, 14, 15, 16, 17], [0, 1, 2, 3, 4, 5, 6, 7, 8, 9, 10, 11, 12, 13, 14, 15, 16, 17, 18], [0, 1, 2, 3, 4, 5, 6, 7, 8, 9, 10, 11, 12, 13, 14, 15, 16, 17, 18, 19], [0, 1, 2, 3, 4, 5, 6, 7, 8, 9, 10, 11, 12, 13, 14, 15, 16, 17, 18, 19, 20], [0, 1, 2, 3, 4, 5, 6, 7, 8, 9, 10, 11, 12, 13, 14, 15, 16, 17, 18, 19, 20, 21], [0, 1, 2, 3, 4, 5, 6, 7, 8, 9, 10, 11, 12, 13, 14, 15, 16, 17, 18, 19, 20, 21, 22], [0, 1, 2, 3, 4, 5, 6, 7, 8, 9, 10, 11, 12, 13, 14, 15, 16, 17, 18, 19, 20, 21, 22, 23], [0, 1, 2, 3, 4, 5, 6, 7, 8, 9, 10, 11, 12, 13, 14, 15, 16, 17, 18, 19, 20, 21, 22], [0, 1, 2, 3, 4, 5, 6, 7, 8, 9, 10, 11, 12, 13, 14, 15, 16, 17, 18, 19, 20, 21, 22], [0, 1, 2, 3, 4, 5, 6, 7, 8, 9, 10, 11, 12, 13, 14, 15, 16, 17, 18, 19, 20, 21, 22, 25, 26], [0, 1, 2, 3, 4, 5, 6, 7, 8, 9, 10, 11, 12, 13, 14, 15, 16, 17, 18, 19, 20, 21, 22, 25, 26, 27], [0, 1, 2, 3, 4, 5, 6, 7, 8, 9, 10, 11, 12, 13, 14, 15, 16, 17, 18, 19, 20, 21, 22, 25, 26, 27, 28], [0, 1, 2, 3, 4, 5, 6, 7, 8, 9, 10, 11, 12, 13, 14, 15, 16, 17, 18, 19, 20, 21, 22, 23, 24, 25, 26, 27, 28, 29], [0, 1, 2, 3, 4, 5, 6, 7, 8, 9, 10, 11, 12, 13, 14, 15, 16, 17, 18, 19, 20, 21, 22, 23, 24, 25, 26, 27, 28, 29, 30], [0, 1, 2, 3, 4, 5, 6, 7, 8, 9, 10, 11, 12, 13, 14, 15, 16, 17, 18, 19, 20, 21, 22, 23, 24, 25, 26, 27, 28, 29, 30, 31], [0, 1, 2, 3, 4, 5, 6, 7, 8, 9, 10, 11, 12, 13, 14, 15, 16, 17, 18, 19, 20, 21, 22, 23, 24, 25, 26, 27, 28, 29, 30, 31, 32], [0, 1, 2, 3, 4, 5, 6, 7, 8, 9, 10, 11, 12, 13, 14, 15, 16, 17, 18, 19, 20, 21, 22, 23, 24, 25, 26, 27, 28, 29, 30, 31, 32, 33], [0, 1, 2, 3, 4, 5, 6, 7, 8, 9, 10, 11, 12, 13, 14, 15, 16, 17, 18, 19, 20, 21, 22, 23, 24, 25, 26, 27, 28, 29, 30, 31, 32, 33, 34]] mixed (by kernel_rfl) rfl ?_
           refine Ym rfl rfl (Vk rfl) ?_
           refine Ym rfl rfl (Ze rfl rfl) ?_
           refine Ym rfl rfl (Vm rfl) ?_
           refine Zu rfl rfl rfl rfl c28 (Vc rfl tf_34_3 ts_32 (by decide)) ?_
           refine Zu rfl rfl rfl rfl c28 (Vg rfl (Ve rfl rfl) rfl ta_32 rfl) ?_
           refine Zu rfl rfl rfl rfl c28 (Vk rfl) ?_
           refine Zu rfl rfl rfl rfl c28 (Xk (Yl rfl rfl h30 te_32 ts_4) (v' := .vptr [.bool x29] 0) rfl) ?_
           refine Zu rfl rfl rfl rfl c28 (Xj rfl ta_4 rfl) ?_
           refine Zu rfl rfl rfl rfl c28 (Vm rfl) ?_
           refine Vq rfl rfl rfl (Zo c31) ?_
           refine Vq rfl rfl rfl (Zo c31) ?_
           refine Vq rfl rfl rfl (Zo c31) ?_
           refine Vq rfl rfl rfl (Zo c31) ?_
           refine Vq rfl rfl rfl (Zo c31) ?_
           refine Zu rfl rfl rfl rfl c28 (Vo (congrArg Ws c31) rfl) ?_
           refine Zu rfl rfl rfl rfl c28 (Vm rfl) ?_
           refine Vq rfl rfl rfl (by decide) ?_
           refine Vq rfl rfl rfl (by decide) ?_
           refine Vq rfl rfl rfl (by decide) ?_
           refine Vq rfl rfl rfl (by decide) ?_
           refine Vq rfl rfl rfl (by decide) ?_
           refine Vq rfl rfl rfl (by decide) ?_
           refine Vq rfl rfl rfl (by decide) ?_
           refine Yg rfl rfl rfl ?_
           refine Yg rfl rfl rfl ?_
           refine Yg rfl rfl rfl ?_
           refine Yg rfl rfl rfl ?_
           refine Yg rfl rfl rfl ?_
           refine Yg rfl rfl rfl ?_
           refine Yg rfl rfl rfl ?_
           refine Yg rfl rfl rfl ?_
           refine Yg rfl rfl rfl ?_
           refine Yg rfl rfl rfl ?_
           refine Vq rfl rfl rfl (by decide) ?_
           refine Zu rfl rfl rfl rfl c28 (Vo rfl rfl) ?_
           refine Ym rfl rfl (Vo (congrArg Ws c28) rfl) ?_
           refine Yz ?_
           obtain rfl := Wt hF
           refine Xy ?_
           exact Vp ⟨rfl, rfl, rfl, rfl, rfl, trivial⟩
          ·have hF := Yp c31 hF
           obtain ⟨x32, h33, hF⟩ := Yt hF
           rcases Ww x32 with c34 | c34
           ·have hF := Yo c34 hF
            refine Zk [[], [0], [0, 1], [0, 1, 2], [0, 1, 2, 3], [0, 1, 2], [0, 1, 2, 3, 4, 5], [0, 1, 2, 3, 4, 5, 6], [0, 1, 2, 3, 4, 5, 6, 7], [0, 1, 2, 3, 4, 5, 6, 7, 8], [0, 1, 2, 3, 4, 5, 6, 7, 8, 9], [0, 1, 2, 3, 4, 5, 6, 7, 8], [0, 1, 2, 3, 4, 5, 6, 7, 8, 9, 10, 11], [0, 1, 2, 3, 4, 5, 6, 7, 8, 9, 10, 11, 12], [0, 1, 2, 3, 4, 5, 6, 7, 8, 9, 10, 11, 12, 13], [0, 1, 2, 3, 4, 5, 6, 7, 8, 9, 10, 11, 12, 13, 14], [0, 1, 2, 3, 4, 5, 6, 7, 8, 9, 10, 11, 12, 13, 14, 15], [0, 1, 2, 3, 4, 5, 6, 7, 8, 9, 10, 11, 12, 13, 14, 15], [0, 1, 2, 3, 4, 5, 6, 7, 8, 9, 10, 11, 12, 13, 14, 15, 16, 17], [0, 1, 2, 3, 4, 5, 6, 7, 8, 9, 10, 11, 12, 13, 14, 15, 16, 17, 18], [0, 1, 2, 3, 4, 5, 6, 7, 8, 9, 10, 11, 12, 13, 14, 15, 16, 17, 18, 19], [0, 1, 2, 3, 4, 5, 6, 7, 8, 9, 10, 11, 12, 13, 14, 15, 16, 17, 18, 19, 20], [0, 1, 2, 3, 4, 5, 6, 7, 8, 9, 10, 11, 12, 13, 14, 15, 16, 17, 18, 19, 20, 21], [0, 1, 2, 3, 4, 5, 6, 7, 8, 9, 10, 11, 12, 13, 14, 15, 16, 17, 18, 19, 20, 21, 22], [0, 1, 2, 3, 4, 5, 6, 7, 8, 9, 10, 11, 12, 13, 14, 15, 16, 17, 18, 19, 20, 21, 22, 23], [0, 1, 2, 3, 4, 5, 6, 7, 8, 9, 10, 11, 12, 13, 14, 15, 16, 17, 18, 19, 20, 21, 22], [0, 1, 2, 3, 4, 5, 6, 7, 8, 9, 10, 11, 12, 13, 14, 15, 16, 17, 18, 19, 20, 21, 22], [0, 1, 2, 3, 4, 5, 6, 7, 8, 9, 10, 11, 12, 13, 14, 15, 16, 17, 18, 19, 20, 21, 22, 25, 26], [0, 1, 2, 3, 4, 5, 6, 7, 8, 9, 10, 11, 12, 13, 14, 15, 16, 17, 18, 19, 20, 21, 22, 25, 26, 27], [0, 1, 2, 3, 4, 5, 6, 7, 8, 9, 10, 11, 12, 13, 14, 15, 16, 17, 18, 19, 20, 21, 22, 25, 26, 27, 28], [0, 1, 2, 3, 4, 5, 6, 7, 8, 9, 10, 11, 12, 13, 14, 15, 16, 17, 18, 19, 20, 21, 22, 23, 24, 25, 26, 27, 28, 29], [0, 1, 2, 3, 4, 5, 6, 7, 8, 9, 10, 11, 12, 13, 14, 15, 16, 17, 18, 19, 20, 21, 22, 23, 24, 25, 26, 27, 28, 29, 30], [0, 1, 2, 3, 4, 5, 6, 7, 8, 9, 10, 11, 12, 13, 14, 15, 16, 17, 18, 19, 20, 21, 22, 23, 24, 25, 26, 27, 28, 29, 30, 31], [0, 1, 2, 3, 4, 5, 6, 7, 8, 9, 10, 11, 12, 13, 14, 15, 16, 17, 18, 19, 20, 21, 22, 23, 24, 25, 26, 27, 28, 29, 30, 31, 32], [0, 1, 2, 3, 4, 5, 6, 7, 8, 9, 10, 11, 12, 13, 14, 15, 16, 17, 18, 19, 20, 21, 22, 23, 24, 25, 26, 27, 28, 29, 30, 31, 32, 33], [0, 1, 2, 3, 4, 5, 6, 7, 8, 9, 10, 11, 12, 13, 14, 15, 16, 17, 18, 19, 20, 21, 22, 23, 24, 25, 26, 27, 28, 29, 30, 31, 32, 33, 34]] mixed (by kernel_rfl) rfl ?_
            refine Ym rfl rfl (Vk rfl) ?_
            refine Ym rfl rfl (Ze rfl rfl) ?_
            refine Ym rfl rfl (Vm rfl) ?_
            refine Zu rfl rfl rfl rfl c28 (Vc rfl tf_34_3 ts_32 (by decide)) ?_
            refine Zu rfl rfl rfl rfl c28 (Vg rfl (Ve rfl rfl) rfl ta_32 rfl) ?_
            refine Zu rfl rfl rfl rfl c28 (Vk rfl) ?_
            refine Zu rfl rfl rfl rfl c28 (Xk (Yl rfl rfl h30 te_32 ts_4) (v' := .vptr [.bool x29] 0) rfl) ?_
            refine Zu rfl rfl rfl rfl c28 (Xj rfl ta_4 rfl) ?_
            refine Zu rfl rfl rfl rfl c28 (Vm rfl) ?_
            refine Zu rfl rfl rfl rfl c31 (Vc rfl tf_34_4 ts_32 (by decide)) ?_
            refine Zu rfl rfl rfl rfl c31 (Vg rfl (Ve rfl rfl) rfl ta_32 rfl) ?_
            refine Zu rfl rfl rfl rfl c31 (Vk rfl) ?_
            refine Zu rfl rfl rfl rfl c31 (Xk (Yl rfl rfl h33 te_32 ts_4) (v' := .vptr [.bool x32] 0) rfl) ?_
            refine Zu rfl rfl rfl rfl c31 (Xj rfl ta_4 rfl) ?_
            refine Zu rfl rfl rfl rfl c28 (Vn (congrArg Ws c31) rfl) ?_
            refine Zu rfl rfl rfl rfl c28 (Vm rfl) ?_
            refine Vq rfl rfl rfl (Zo c34) ?_
            refine Vq rfl rfl rfl (Zo c34) ?_
            refine Vq rfl rfl rfl (Zo c34) ?_
            refine Vq rfl rfl rfl (Zo c34) ?_
            refine Vq rfl rfl rfl (Zo c34) ?_
            refine Vq rfl rfl rfl (Zo c34) ?_
            refine Vq rfl rfl rfl (Zo c34) ?_
            refine Yg rfl rfl rfl ?_
            refine Yg rfl rfl rfl ?_
            refine Yg rfl rfl rfl ?_
            refine Yg rfl rfl rfl ?_
            refine Yg rfl rfl rfl ?_
            refine Yg rfl rfl rfl ?_
            refine Yg rfl rfl rfl ?_
            refine Yg rfl rfl rfl ?_
            refine Yg rfl rfl rfl ?_
            refine Yg rfl rfl rfl ?_
            refine Vq rfl rfl rfl (Zo c34) ?_
            refine Zu rfl rfl rfl rfl c28 (Vo (congrArg Ws c34) rfl) ?_
            refine Ym rfl rfl (Vo (congrArg Ws c28) rfl) ?_
            refine Yz ?_
            obtain rfl := Wt hF
            refine Xy ?_
            exact Vp ⟨rfl, rfl, rfl, rfl, rfl, trivial⟩
           ·have hF := Yp c34 hF
            obtain ⟨x35, h36, hF⟩ := Yt hF
            rcases Ww (decide (0 ≤ x35.Onto)) with c37 | c37
            ·have hF := Yo c37 hF
             obtain ⟨x38, h39, hF⟩ := Yt hF
             obtain ⟨x40, h41, hF⟩ := Yt hF
             refine Zk [[], [0], [0, 1], [0, 1, 2], [0, 1, 2, 3], [0, 1, 2], [0, 1, 2, 3, 4, 5], [0, 1, 2, 3, 4, 5, 6], [0, 1, 2, 3, 4, 5, 6, 7], [0, 1, 2, 3, 4, 5, 6, 7, 8], [0, 1, 2, 3, 4, 5, 6, 7, 8, 9], [0, 1, 2, 3, 4, 5, 6, 7, 8], [0, 1, 2, 3, 4, 5, 6, 7, 8, 9, 10, 11], [0, 1, 2, 3, 4, 5, 6, 7, 8, 9, 10, 11, 12], [0, 1, 2, 3, 4, 5, 6, 7, 8, 9, 10, 11, 12, 13], [0, 1, 2, 3, 4, 5, 6, 7, 8, 9, 10, 11, 12, 13, 14], [0, 1, 2, 3, 4, 5, 6, 7, 8, 9, 10, 11, 12, 13, 14, 15], [0, 1, 2, 3, 4, 5, 6, 7, 8, 9, 10, 11, 12, 13, 14, 15], [0, 1, 2, 3, 4, 5, 6, 7, 8, 9, 10, 11, 12, 13, 14, 15, 16, 17], [0, 1, 2, 3, 4, 5, 6, 7, 8, 9, 10, 11, 12, 13, 14, 15, 16, 17, 18], [0, 1, 2, 3, 4, 5, 6, 7, 8, 9, 10, 11, 12, 13, 14, 15, 16, 17, 18, 19], [0, 1, 2, 3, 4, 5, 6, 7, 8, 9, 10, 11, 12, 13, 14, 15, 16, 17, 18, 19, 20], [0, 1, 2, 3, 4, 5, 6, 7, 8, 9, 10, 11, 12, 13, 14, 15, 16, 17, 18, 19, 20, 21], [0, 1, 2, 3, 4, 5, 6, 7, 8, 9, 10, 11, 12, 13, 14, 15, 16, 17, 18, 19, 20, 21, 22], [0, 1, 2, 3, 4, 5, 6, 7, 8, 9, 10, 11, 12, 13, 14, 15, 16, 17, 18, 19, 20, 21, 22, 23], [0, 1, 2, 3, 4, 5, 6, 7, 8, 9, 10, 11, 12, 13, 14, 15, 16, 17, 18, 19, 20, 21, 22], [0, 1, 2, 3, 4, 5, 6, 7, 8, 9, 10, 11, 12, 13, 14, 15, 16, 17, 18, 19, 20, 21, 22], [0, 1, 2, 3, 4, 5, 6, 7, 8, 9, 10, 11, 12, 13, 14, 15, 16, 17, 18, 19, 20, 21, 22, 25, 26], [0, 1, 2, 3, 4, 5, 6, 7, 8, 9, 10, 11, 12, 13, 14, 15, 16, 17, 18, 19, 20, 21, 22, 25, 26, 27], [0, 1, 2, 3, 4, 5, 6, 7, 8, 9, 10, 11, 12, 13, 14, 15, 16, 17, 18, 19, 20, 21, 22, 25, 26, 27, 28], [0, 1, 2, 3, 4, 5, 6, 7, 8, 9, 10, 11, 12, 13, 14, 15, 16, 17, 18, 19, 20, 21, 22, 23, 24, 25, 26, 27, 28, 29], [0, 1, 2, 3, 4, 5, 6, 7, 8, 9, 10, 11, 12, 13, 14, 15, 16, 17, 18, 19, 20, 21, 22, 23, 24, 25, 26, 27, 28, 29, 30], [0, 1, 2, 3, 4, 5, 6, 7, 8, 9, 10, 11, 12, 13, 14, 15, 16, 17, 18, 19, 20, 21, 22, 23, 24, 25, 26, 27, 28, 29, 30, 31], [0, 1, 2, 3, 4, 5, 6, 7, 8, 9, 10, 11, 12, 13, 14, 15, 16, 17, 18, 19, 20, 21, 22, 23, 24, 25, 26, 27, 28, 29, 30, 31, 32], [0, 1, 2, 3, 4, 5, 6, 7, 8, 9, 10, 11, 12, 13, 14, 15, 16, 17, 18, 19, 20, 21, 22, 23, 24, 25, 26, 27, 28, 29, 30, 31, 32, 33], [0, 1, 2, 3, 4, 5, 6, 7, 8, 9, 10, 11, 12, 13, 14, 15, 16, 17, 18, 19, 20, 21, 22, 23, 24, 25, 26, 27, 28, 29, 30, 31, 32, 33, 34]] mixed (by kernel_rfl) rfl ?_
             refine Ym rfl rfl (Vk rfl) ?_
             refine Ym rfl rfl (Ze rfl rfl) ?_
             refine Ym rfl rfl (Vm rfl) ?_
             refine Zu rfl rfl rfl rfl c28 (Vc rfl tf_34_3 ts_32 (by decide)) ?_
             refine Zu rfl rfl rfl rfl c28 (Vg rfl (Ve rfl rfl) rfl ta_32 rfl) ?_
             refine Zu rfl rfl rfl rfl c28 (Vk rfl) ?_
             refine Zu rfl rfl rfl rfl c28 (Xk (Yl rfl rfl h30 te_32 ts_4) (v' := .vptr [.bool x29] 0) rfl) ?_
             refine Zu rfl rfl rfl rfl c28 (Xj rfl ta_4 rfl) ?_
             refine Zu rfl rfl rfl rfl c28 (Vm rfl) ?_
             refine Zu rfl rfl rfl rfl c31 (Vc rfl tf_34_4 ts_32 (by decide)) ?_
             refine Zu rfl rfl rfl rfl c31 (Vg rfl (Ve rfl rfl) rfl ta_32 rfl) ?_
             refine Zu rfl rfl rfl rfl c31 (Vk rfl) ?_
             refine Zu rfl rfl rfl rfl c31 (Xk (Yl rfl rfl h33 te_32 ts_4) (v' := .vptr [.bool x32] 0) rfl) ?_
             refine Zu rfl rfl rfl rfl c31 (Xj rfl ta_4 rfl) ?_
             refine Zu rfl rfl rfl rfl c28 (Vn (congrArg Ws c31) rfl) ?_
             refine Zu rfl rfl rfl rfl c28 (Vm rfl) ?_
             refine Zu rfl rfl rfl rfl c34 (Xc rfl) ?_
             refine Zu rfl rfl rfl rfl c34 (Vk rfl) ?_
             refine Zu rfl rfl rfl rfl c34 (Xk (Yl rfl rfl h36 te_27 ts_31) (v' := .vptr [.int .i64 x35.Onto, .int .i64 x35.Warn] 0) rfl) ?_
             refine Zu rfl rfl rfl rfl c34 (Yf rfl tf_31_0 ts_3 (by decide)) ?_
             refine Zu rfl rfl rfl rfl c34 (Xj rfl ta_3 rfl) ?_
             refine Zu rfl rfl rfl rfl c34 (rd_geq rfl rfl) ?_
             refine Zu rfl rfl rfl rfl c34 (Vm rfl) ?_
             refine Zu rfl rfl rfl rfl c37 (Vc rfl tf_34_1 ts_22 (by decide)) ?_
             refine Zu rfl rfl rfl rfl c37 (Vg rfl (Ve rfl rfl) rfl ta_22 rfl) ?_
             refine Zu rfl rfl rfl rfl c37 (Xc rfl) ?_
             refine Zu rfl rfl rfl rfl c37 (Vk rfl) ?_
             refine Zu rfl rfl rfl rfl c37 (Xk (Yl rfl rfl h39 te_27 ts_31) (v' := .vptr [.int .i64 x38.Onto, .int .i64 x38.Warn] 0) rfl) ?_
             refine Zu rfl rfl rfl rfl c37 (Yf rfl tf_31_0 ts_3 (by decide)) ?_
             refine Zu rfl rfl rfl rfl c37 (Xj rfl ta_3 rfl) ?_
             refine Zu rfl rfl rfl rfl c37 (Xk (Yl rfl rfl h41 te_22 ts_3) (v' := .vptr [.int .i64 x40] 0) rfl) ?_
             refine Zu rfl rfl rfl rfl c37 (Xj rfl ta_3 rfl) ?_
             refine Zu rfl rfl rfl rfl c37 (Ze rfl rfl) ?_
             refine Zu rfl rfl rfl rfl c34 (Vo (congrArg Ws c37) rfl) ?_
             refine Zu rfl rfl rfl rfl c28 (Vn (congrArg Ws c34) rfl) ?_
             refine Ym rfl rfl (Vo (congrArg Ws c28) rfl) ?_
             refine Yz ?_
             obtain rfl := Wt hF
             refine Xy ?_
             exact Vp ⟨rfl, rfl, rfl, rfl, rfl, trivial⟩
            ·have hF := Yp c37 hF
             refine Zk [[], [0], [0, 1], [0, 1, 2], [0, 1, 2, 3], [0, 1, 2], [0, 1, 2, 3, 4, 5], [0, 1, 2, 3, 4, 5, 6], [0, 1, 2, 3, 4, 5, 6, 7], [0, 1, 2, 3, 4, 5, 6, 7, 8], [0, 1, 2, 3, 4, 5, 6, 7, 8, 9], [0, 1, 2, 3, 4, 5, 6, 7, 8], [0, 1, 2, 3, 4, 5, 6, 7, 8, 9, 10, 11], [0, 1, 2, 3, 4, 5, 6, 7, 8, 9, 10, 11, 12], [0, 1, 2, 3, 4, 5, 6, 7, 8, 9, 10, 11, 12, 13], [0, 1, 2, 3, 4, 5, 6, 7, 8, 9, 10, 11, 12, 13, 14], [0, 1, 2, 3, 4, 5, 6, 7, 8, 9, 10, 11, 12, 13, 14, 15], [0, 1, 2, 3, 4, 5, 6, 7, 8, 9, 10, 11, 12, 13, 14, 15], [0, 1, 2, 3, 4, 5, 6, 7, 8, 9, 10, 11, 12, 13, 14, 15, 16, 17], [0, 1, 2, 3, 4, 5, 6, 7, 8, 9, 10, 11, 12, 13, 14, 15, 16, 17, 18], [0, 1, 2, 3, 4, 5, 6, 7, 8, 9, 10, 11, 12, 13, 14, 15, 16, 17, 18, 19], [0, 1, 2, 3, 4, 5, 6, 7, 8, 9, 10, 11, 12, 13, 14, 15, 16, 17, 18, 19, 20], [0, 1, 2, 3, 4, 5, 6, 7, 8, 9, 10, 11, 12, 13, 14, 15, 16, 17, 18, 19, 20, 21], [0, 1, 2, 3, 4, 5, 6, 7, 8, 9, 10, 11, 12, 13, 14, 15, 16, 17, 18, 19, 20, 21, 22], [0, 1, 2, 3, 4, 5, 6, 7, 8, 9, 10, 11, 12, 13, 14, 15, 16, 17, 18, 19, 20, 21, 22, 23], [0, 1, 2, 3, 4, 5, 6, 7, 8, 9, 10, 11, 12, 13, 14, 15, 16, 17, 18, 19, 20, 21, 22], [0, 1, 2, 3, 4, 5, 6, 7, 8, 9, 10, 11, 12, 13, 14, 15, 16, 17, 18, 19, 20, 21, 22], [0, 1, 2, 3, 4, 5, 6, 7, 8, 9, 10, 11, 12, 13, 14, 15, 16, 17, 18, 19, 20, 21, 22, 25, 26], [0, 1, 2, 3, 4, 5, 6, 7, 8, 9, 10, 11, 12, 13, 14, 15, 16, 17, 18, 19, 20, 21, 22, 25, 26, 27], [0, 1, 2, 3, 4, 5, 6, 7, 8, 9, 10, 11, 12, 13, 14, 15, 16, 17, 18, 19, 20, 21, 22, 25, 26, 27, 28], [0, 1, 2, 3, 4, 5, 6, 7, 8, 9, 10, 11, 12, 13, 14, 15, 16, 17, 18, 19, 20, 21, 22, 23, 24, 25, 26, 27, 28, 29], [0, 1, 2, 3, 4, 5, 6, 7, 8, 9, 10, 11, 12, 13, 14, 15, 16, 17, 18, 19, 20, 21, 22, 23, 24, 25, 26, 27, 28, 29, 30], [0, 1, 2, 3, 4, 5, 6, 7, 8, 9, 10, 11, 12, 13, 14, 15, 16, 17, 18, 19, 20, 21, 22, 23, 24, 25, 26, 27, 28, 29, 30, 31], [0, 1, 2, 3, 4, 5, 6, 7, 8, 9, 10, 11, 12, 13, 14, 15, 16, 17, 18, 19, 20, 21, 22, 23, 24, 25, 26, 27, 28, 29, 30, 31, 32], [0, 1, 2, 3, 4, 5, 6, 7, 8, 9, 10, 11, 12, 13, 14, 15, 16, 17, 18, 19, 20, 21, 22, 23, 24, 25, 26, 27, 28, 29, 30, 31, 32, 33], [0, 1, 2, 3, 4, 5, 6, 7, 8, 9, 10, 11, 12, 13, 14, 15, 16, 17, 18, 19, 20, 21, 22, 23, 24, 25, 26, 27, 28, 29, 30, 31, 32, 33, 34]] mixed (by kernel_rfl) rfl ?_
             refine Ym rfl rfl (Vk rfl) ?_
             refine Ym rfl rfl (Ze rfl rfl) ?_
             refine Ym rfl rfl (Vm rfl) ?_
             refine Zu rfl rfl rfl rfl c28 (Vc rfl tf_34_3 ts_32 (by decide)) ?_
             refine Zu rfl rfl rfl rfl c28 (Vg rfl (Ve rfl rfl) rfl ta_32 rfl) ?_
             refine Zu rfl rfl rfl rfl c28 (Vk rfl) ?_
             refine Zu rfl rfl rfl rfl c28 (Xk (Yl rfl rfl h30 te_32 ts_4) (v' := .vptr [.bool x29] 0) rfl) ?_
             refine Zu rfl rfl rfl rfl c28 (Xj rfl ta_4 rfl) ?_
             refine Zu rfl rfl rfl rfl c28 (Vm rfl) ?_
             refine Zu rfl rfl rfl rfl c31 (Vc rfl tf_34_4 ts_32 (by decide)) ?_
             refine Zu rfl rfl rfl rfl c31 (Vg rfl (Ve rfl rfl) rfl ta_32 rfl) ?_
             refine Zu rfl rfl rfl rfl c31 (Vk rfl) ?_
             refine Zu rfl rfl rfl rfl c31 (Xk (Yl rfl rfl h33 te_32 ts_4) (v' := .vptr [.bool x32] 0) rfl) ?_
             refine Zu rfl rfl rfl rfl c31 (Xj rfl ta_4 rfl) ?_
             refine Zu rfl rfl rfl rfl c28 (Vn (congrArg Ws c31) rfl) ?_
             refine Zu rfl rfl rfl rfl c28 (Vm rfl) ?_
             refine Zu rfl rfl rfl rfl c34 (Xc rfl) ?_
             refine Zu rfl rfl rfl rfl c34 (Vk rfl) ?_
             refine Zu rfl rfl rfl rfl c34 (Xk (Yl rfl rfl h36 te_27 ts_31) (v' := .vptr [.int .i64 x35.Onto, .int .i64 x35.Warn] 0) rfl) ?_
             refine Zu rfl rfl rfl rfl c34 (Yf rfl tf_31_0 ts_3 (by decide)) ?_
             refine Zu rfl rfl rfl rfl c34 (Xj rfl ta_3 rfl) ?_
             refine Zu rfl rfl rfl rfl c34 (rd_geq rfl rfl) ?_
             refine Zu rfl rfl rfl rfl c34 (Vm rfl) ?_
             refine Vq rfl rfl rfl (Zz c37) ?_
             refine Vq rfl rfl rfl (Zz c37) ?_
             refine Vq rfl rfl rfl (Zz c37) ?_
             refine Vq rfl rfl rfl (Zz c37) ?_
             refine Vq rfl rfl rfl (Zz c37) ?_
             refine Vq rfl rfl rfl (Zz c37) ?_
             refine Vq rfl rfl rfl (Zz c37) ?_
             refine Vq rfl rfl rfl (Zz c37) ?_
             refine Vq rfl rfl rfl (Zz c37) ?_
             refine Vq rfl rfl rfl (Zz c37) ?_
             refine Zu rfl rfl rfl rfl c34 (Vn (congrArg Ws c37) rfl) ?_
             refine Zu rfl rfl rfl rfl c28 (Vn (congrArg Ws c34) rfl) ?_
             refine Ym rfl rfl (Vo (congrArg Ws c28) rfl) ?_
             refine Yz ?_
             obtain rfl := Wt hF
             refine Xy ?_
             exact Vp ⟨rfl, rfl, rfl, rfl, rfl, trivial⟩
         ·have hF := Yp c28 hF
          refine Zk [[], [0], [0, 1], [0, 1, 2], [0, 1, 2, 3], [0, 1, 2], [0, 1, 2, 3, 4, 5], [0, 1, 2, 3, 4, 5, 6], [0, 1, 2, 3, 4, 5, 6, 7], [0, 1, 2, 3, 4, 5, 6, 7, 8], [0, 1, 2, 3, 4, 5, 6, 7, 8, 9], [0, 1, 2, 3, 4, 5, 6, 7, 8], [0, 1, 2, 3, 4, 5, 6, 7, 8, 9, 10, 11], [0, 1, 2, 3, 4, 5, 6, 7, 8, 9, 10, 11, 12], [0, 1, 2, 3, 4, 5, 6, 7, 8, 9, 10, 11, 12, 13], [0, 1, 2, 3, 4, 5, 6, 7, 8, 9, 10, 11, 12, 13, 14], [0, 1, 2, 3, 4, 5, 6, 7, 8, 9, 10, 11, 12, 13, 14, 15], [0, 1, 2, 3, 4, 5, 6, 7, 8, 9, 10, 11, 12, 13, 14, 15], [0, 1, 2, 3, 4, 5, 6, 7, 8, 9, 10, 11, 12, 13, 14, 15, 16, 17], [0, 1, 2, 3, 4, 5, 6, 7, 8, 9, 10, 11, 12, 13, 14, 15, 16, 17, 18], [0, 1, 2, 3, 4, 5, 6, 7, 8, 9, 10, 11, 12, 13, 14, 15, 16, 17, 18, 19], [0, 1, 2, 3, 4, 5, 6, 7, 8, 9, 10, 11, 12, 13, 14, 15, 16, 17, 18, 19, 20], [0, 1, 2, 3, 4, 5, 6, 7, 8, 9, 10, 11, 12, 13, 14, 15, 16, 17, 18, 19, 20, 21], [0, 1, 2, 3, 4, 5, 6, 7, 8, 9, 10, 11, 12, 13, 14, 15, 16, 17, 18, 19, 20, 21, 22], [0, 1, 2, 3, 4, 5, 6, 7, 8, 9, 10, 11, 12, 13, 14, 15, 16, 17, 18, 19, 20, 21, 22, 23], [0, 1, 2, 3, 4, 5, 6, 7, 8, 9, 10, 11, 12, 13, 14, 15, 16, 17, 18, 19, 20, 21, 22], [0, 1, 2, 3, 4, 5, 6, 7, 8, 9, 10, 11, 12, 13, 14, 15, 16, 17, 18, 19, 20, 21, 22], [0, 1, 2, 3, 4, 5, 6, 7, 8, 9, 10, 11, 12, 13, 14, 15, 16, 17, 18, 19, 20, 21, 22, 25, 26], [0, 1, 2, 3, 4, 5, 6, 7, 8, 9, 10, 11, 12, 13, 14, 15, 16, 17, 18, 19, 20, 21, 22, 25, 26, 27], [0, 1, 2, 3, 4, 5, 6, 7, 8, 9, 10, 11, 12, 13, 14, 15, 16, 17, 18, 19, 20, 21, 22, 25, 26, 27, 28], [0, 1, 2, 3, 4, 5, 6, 7, 8, 9, 10, 11, 12, 13, 14, 15, 16, 17, 18, 19, 20, 21, 22, 23, 24, 25, 26, 27, 28, 29], [0, 1, 2, 3, 4, 5, 6, 7, 8, 9, 10, 11, 12, 13, 14, 15, 16, 17, 18, 19, 20, 21, 22, 23, 24, 25, 26, 27, 28, 29, 30], [0, 1, 2, 3, 4, 5, 6, 7, 8, 9, 10, 11, 12, 13, 14, 15, 16, 17, 18, 19, 20, 21, 22, 23, 24, 25, 26, 27, 28, 29, 30, 31], [0, 1, 2, 3, 4, 5, 6, 7, 8, 9, 10, 11, 12, 13, 14, 15, 16, 17, 18, 19, 20, 21, 22, 23, 24, 25, 26, 27, 28, 29, 30, 31, 32], [0, 1, 2, 3, 4, 5, 6, 7, 8, 9, 10, 11, 12, 13, 14, 15, 16, 17, 18, 19, 20, 21, 22, 23, 24, 25, 26, 27, 28, 29, 30, 31, 32, 33], [0, 1, 2, 3, 4, 5, 6, 7, 8, 9, 10, 11, 12, 13, 14, 15, 16, 17, 18, 19, 20, 21, 22, 23, 24, 25, 26, 27, 28, 29, 30, 31, 32, 33, 34]] mixed (by kernel_rfl) rfl ?_
          refine Ym rfl rfl (Vk rfl) ?_
          refine Ym rfl rfl (Ze rfl rfl) ?_
          refine Ym rfl rfl (Vm rfl) ?_
          refine Vq rfl rfl rfl (Zz c28) ?_
          refine Vq rfl rfl rfl (Zz c28) ?_
          refine Vq rfl rfl rfl (Zz c28) ?_
          refine Vq rfl rfl rfl (Zz c28) ?_
          refine Vq rfl rfl rfl (Zz c28) ?_
          refine Vq rfl rfl rfl (Zz c28) ?_
          refine Yg rfl rfl rfl ?_
          refine Yg rfl rfl rfl ?_
          refine Yg rfl rfl rfl ?_
          refine Yg rfl rfl rfl ?_
          refine Yg rfl rfl rfl ?_
          refine Vq rfl rfl rfl (Zz c28) ?_
          refine Vq rfl rfl rfl (Zz c28) ?_
          refine Yg rfl rfl rfl ?_
          refine Yg rfl rfl rfl ?_
          refine Yg rfl rfl rfl ?_
          refine Yg rfl rfl rfl ?_
          refine Yg rfl rfl rfl ?_
          refine Yg rfl rfl rfl ?_
          refine Yg rfl rfl rfl ?_
          refine Yg rfl rfl rfl ?_
          refine Yg rfl rfl rfl ?_
          refine Yg rfl rfl rfl ?_
          refine Yg rfl rfl rfl ?_
          refine Yg rfl rfl rfl ?_
          refine Yg rfl rfl rfl ?_
          refine Yg rfl rfl rfl ?_
          refine Yg rfl rfl rfl ?_
          refine Yg rfl rfl rfl ?_
          refine Yg rfl rfl rfl ?_
          refine Yg rfl rfl rfl ?_
          refine Vq rfl rfl rfl (Zz c28) ?_
          refine Ym rfl rfl (Vn (congrArg Ws c28) rfl) ?_
          refine Yz ?_
          obtain rfl := Wt hF
          refine Xy ?_
          exact Vp ⟨rfl, rfl, rfl, rfl, rfl, trivial⟩
        ·rintro _ _ _ _ ⟨rfl, hw⟩
         refine ⟨_, _, _, hw, ?_⟩
         refine Xh rfl (fun c42 => ?_) (fun c42 => ?_)
         ·have hF := Yo c42 hF
          refine Vi ?_
          refine Vd ?_
          refine Va (Xz rfl) rfl ?_
          refine Vf ?_
          refine Xb ?_
          obtain rfl := Wt hF
          refine Xy ?_
          exact Vt rfl [] (by decide) ⟨Vr rfl (.bool _), trivial⟩ trivial
         ·have hF := Yp c42 hF
          refine Xn ?_
          refine Vd ?_
          refine Va (Vk rfl) rfl ?_
          refine Va (Wk rfl rfl rfl) rfl ?_
          refine Va (Xa rfl) rfl ?_
          refine Vf ?_
          obtain rfl := Wt hF
          refine Xy ?_
          exact Vp ⟨rfl, rfl, rfl, rfl, trivial⟩
     ·have hF := Yp c15 hF
      refine Wi ?_
      obtain rfl := Wt hF
      refine Xy ?_
      exact Vt rfl [] (by decide) trivial trivial
    ·rcases o12 with j13 | j14
     ·replace hF := elimL hF
      rintro _ _ _ _ ⟨rfl, hw⟩
      refine ⟨_, _, _, hw, ?_⟩
      obtain rfl := Wt hF
      refine Wg ?_
      exact Vp ⟨rfl, trivial⟩
     ·replace hF := elimR hF
      rintro _ _ _ _ ⟨rfl, hw⟩
      refine ⟨_, _, _, hw, ?_⟩
      refine Vi ?_
      refine Vd ?_
      refine Va (Xz rfl) rfl ?_
      refine Vf ?_
      refine Xb ?_
      obtain rfl := Wt hF
      refine Wg ?_
      exact Vp ⟨rfl, trivial⟩
 ·rintro _ _ _ _ ⟨he, hw⟩
  refine ⟨_, _, _, hw, ?_⟩
  exact Zd he [.bool r] ⟨rfl, trivial⟩ (.bool _) ⟨rfl, rfl⟩

theorem F_ref39_check_ok {p0 : List T_Belt} {p1 : T_Line} {p2 : Int} {r : Int} (hF : F_ref39_check p0 p1 p2 = some r) (low : List AObj) :
    Ys Try.prog 57 [.vs 2 (Wq T_Belt.enc p0), .agg [.int .i64 p1.Time, .vs 1 (Wq (Wr .i64) p1.States), .vs 1 (Wq (Wr .i64) p1.Since), .vs 1 (Wq Ws p1.Pulled), .vs 1 (Wq Ws p1.Held)], .int .i64 p2] low fun x low' => x = .int .i64 r ∧ low' = low := by
 refine Vz (nt := 19) (rs := [.tmp 6]) Try.func57 rfl rfl (Wu rfl) rfl ?_
 refine Vw (Q' := FnE (fun E' lw lc => Yb E' lw lc [(6, .int .i64 r)] low [])) ?_ ?_
 ·unfold F_ref39_check at hF
  refine Vi ?_
  refine Vd ?_
  refine Vj (Zc rfl rfl (v := .agg [.int .i64 p1.Time, .vs 1 (Wq (Wr .i64) p1.States), .vs 1 (Wq (Wr .i64) p1.Since), .vs 1 (Wq Ws p1.Pulled), .vs 1 (Wq Ws p1.Held)]) rfl rfl (Wv _) rfl rfl) rfl ?_
  refine Va (Xa rfl) rfl ?_
  refine Vf ?_
  refine Vi ?_
  refine Vi ?_
  refine Vd ?_
  obtain ⟨x1, h2, hF⟩ := Yt hF
  refine Va (Xc rfl) rfl ?_
  refine Va (Vv (ds := [.int .i64 p1.Time, .vs 1 (Wq (Wr .i64) p1.States), .vs 1 (Wq (Wr .i64) p1.Since), .vs 1 (Wq Ws p1.Pulled), .vs 1 (Wq Ws p1.Held)]) rfl (Ve rfl rfl) rfl ta_34 ts_34 rfl rfl rfl) rfl ?_
  refine Vj (Xp rfl Try.call41 (F_ref39_Valid_ok h2 _)) rfl ?_
  refine Va (Zp rfl) rfl ?_
  refine Vf ?_
  refine Xh rfl (fun c3 => ?_) (fun c3 => ?_)
  ·have hF := Yo c3 hF
   refine Vi ?_
   refine Vd ?_
   refine Va (Xa rfl) rfl ?_
   refine Vf ?_
   refine Xb ?_
   obtain rfl := Wt hF
   refine Wg ?_
   exact Vt rfl [] (by decide) ⟨Vr rfl (.int _ _), trivial⟩ trivial
  ·have hF := Yp c3 hF
   refine Xn ?_
   refine Vi ?_
   refine Vi ?_
   obtain ⟨o4, ho4, hF⟩ := Yt hF
   refine Vw (Q' := (fun o4 => OnlyE .normal (fun E' lw lc => Yb E' lw lc [(18, .bool o4)] low [])) o4) ?_ ?_
   ·replace hF := ho4
    refine Vd ?_
    rcases Ww (decide (p2 < 0)) with c5 | c5
    ·have hF := Yo c5 hF
     refine Va (Vk rfl) rfl ?_
     refine Va (Zr rfl rfl) rfl ?_
     refine Va (Vm rfl) rfl ?_
     refine Vb rfl rfl (Zo c5) rfl ?_
     refine Vb rfl rfl (Zo c5) rfl ?_
     refine Vb rfl rfl (Zo c5) rfl ?_
     refine Vb rfl rfl (Zo c5) rfl ?_
     refine Va (Vo (congrArg Ws c5) rfl) rfl ?_
     refine Vf ?_
     obtain rfl := Wt hF
     refine Xy ?_
     exact Vt rfl [] (by decide) ⟨Vr rfl (.bool _), trivial⟩ trivial
    ·have hF := Yp c5 hF
     refine Va (Vk rfl) rfl ?_
     refine Va (Zr rfl rfl) rfl ?_
     refine Va (Vm rfl) rfl ?_
     refine Xd rfl rfl c5 ?_
     refine Va (Vk rfl) rfl ?_
     refine Xd rfl rfl c5 ?_
     refine Va (Xc rfl) rfl ?_
     refine Xd rfl rfl c5 ?_
     refine Va (Xk (Xv rfl rfl te_27) (congrArg (fun n : Nat => Wr .i64 (n : Int)) (Wx _))) rfl ?_
     refine Xd rfl rfl c5 ?_
     refine Va (rd_geq rfl rfl) rfl ?_
     refine Va (Vn (congrArg Ws c5) rfl) rfl ?_
     refine Vf ?_
     obtain rfl := Wt hF
     refine Xy ?_
     exact Vt rfl [] (by decide) ⟨Vr rfl (.bool _), trivial⟩ trivial
   ·rintro _ _ _ _ ⟨rfl, hw⟩
    refine ⟨_, _, _, hw, ?_⟩
    refine Xh rfl (fun c6 => ?_) (fun c6 => ?_)
    ·have hF := Yo c6 hF
     refine Vi ?_
     refine Vd ?_
     refine Va (Xa rfl) rfl ?_
     refine Vf ?_
     refine Xb ?_
     obtain rfl := Wt hF
     refine Wg ?_
     exact Vp ⟨rfl, trivial⟩
    ·have hF := Yp c6 hF
     refine Xn ?_
     refine Vi ?_
     refine Vd ?_
     refine Va (Xa rfl) rfl ?_
     refine Vf ?_
     refine Xb ?_
     obtain rfl := Wt hF
     refine Wg ?_
     exact Vp ⟨rfl, trivial⟩
 ·rintro _ _ _ _ ⟨he, hw⟩
  refine ⟨_, _, _, hw, ?_⟩
  exact Zd he [.int .i64 r] ⟨rfl, trivial⟩ (.int _ _) ⟨rfl, rfl⟩

theorem F_ref39_Start_ok {p0 : List T_Belt} {p1 : T_Line} {p2 : Int} {r : T_Line × Int} (hF : F_ref39_Start p0 p1 p2 = some r) (low : List AObj) {n : Nat} (hn : low.length = n) :
    Ys Try.prog 45 [.vs 2 (Wq T_Belt.enc p0), .agg [.int .i64 p1.Time, .vs 1 (Wq (Wr .i64) p1.States), .vs 1 (Wq (Wr .i64) p1.Since), .vs 1 (Wq Ws p1.Pulled), .vs 1 (Wq Ws p1.Held)], .int .i64 p2] low fun x low' => x = .tup [.agg [.int .i64 r.1.Time, .sl (n + 0) 0 0 (r.1.States).length, .sl (n + 1) 0 0 (r.1.Since).length, .sl (n + 2) 0 0 (r.1.Pulled).length, .vs 1 (Wq Ws r.1.Held)], .int .i64 r.2] ∧ low' = low ++ [⟨3, 1, Wq (Wr .i64) r.1.States, 0⟩, ⟨3, 1, Wq (Wr .i64) r.1.Since, 0⟩, ⟨4, 1, Wq Ws r.1.Pulled, 0⟩] := by
 refine Vz (nt := 72) (rs := [.cell 6 34, .tmp 7]) Try.func45 rfl rfl (Wu rfl) rfl ?_
 refine Vw (Q' := FnE (fun E' lw lc => Yb E' lw lc [(6, .ptr (n + 3) 0 0 0), (7, .int .i64 r.2)] low [⟨3, 1, Wq (Wr .i64) r.1.States, 0⟩, ⟨3, 1, Wq (Wr .i64) r.1.Since, 0⟩, ⟨4, 1, Wq Ws r.1.Pulled, 0⟩, ⟨34, 5, [.agg [.int .i64 r.1.Time, .sl (n + 0) 0 0 (r.1.States).length, .sl (n + 1) 0 0 (r.1.Since).length, .sl (n + 2) 0 0 (r.1.Pulled).length, .vs 1 (Wq Ws r.1.Held)]], 0⟩])) ?_ ?_
 ·unfold F_ref39_Start at hF
  refine Vi ?_
  refine Vd ?_
  refine Vj (Zc hn rfl (v := .agg [.int .i64 p1.Time, .vs 1 (Wq (Wr .i64) p1.States), .vs 1 (Wq (Wr .i64) p1.Since), .vs 1 (Wq Ws p1.Pulled), .vs 1 (Wq Ws p1.Held)]) rfl rfl (Wv _) rfl rfl) rfl ?_
  refine Vj (Xe hn rfl tz_34 rfl rfl (Wv _) rfl) rfl ?_
  refine Va (Xa rfl) rfl ?_
  refine Vf ?_
  refine Vi ?_
  refine Vd ?_
  obtain ⟨x1, h2, hF⟩ := Yt hF
  refine Va (Vv (ds := [.int .i64 p1.Time, .vs 1 (Wq (Wr .i64) p1.States), .vs 1 (Wq (Wr .i64) p1.Since), .vs 1 (Wq Ws p1.Pulled), .vs 1 (Wq Ws p1.Held)]) rfl (Ve hn rfl) rfl ta_34 ts_34 rfl rfl rfl) rfl ?_
  refine Vj (Xg (r := .agg [.int .i64 x1.Time, .sl (n + 2) 0 0 (x1.States).length, .sl (n + 3) 0 0 (x1.Since).length, .sl (n + 4) 0 0 (x1.Pulled).length, .sl (n + 5) 0 0 (x1.Held).length]) (os := [⟨3, 1, Wq (Wr .i64) x1.States, 0⟩, ⟨3, 1, Wq (Wr .i64) x1.Since, 0⟩, ⟨4, 1, Wq Ws x1.Pulled, 0⟩, ⟨4, 1, Wq Ws x1.Held, 0⟩]) rfl Try.call23 (F_ref39_Copy_ok h2 _ (Xi hn rfl))) rfl ?_
  refine Vj (Vy (p := .agg [.int .i64 x1.Time, .sl (n + 2) 0 0 (x1.States).length, .sl (n + 3) 0 0 (x1.Since).length, .sl (n + 4) 0 0 (x1.Pulled).length, .sl (n + 5) 0 0 (x1.Held).length]) (e' := .agg [.int .i64 x1.Time, .sl (n + 2) 0 0 (x1.States).length, .sl (n + 3) 0 0 (x1.Since).length, .sl (n + 4) 0 0 (x1.Pulled).length, .sl (n + 5) 0 0 (x1.Held).length]) rfl (Ve hn rfl) rfl rfl ts_34 rfl (Ye rfl) rfl (Wu rfl) rfl (Xr hn rfl)) rfl ?_
  refine Vf ?_
  refine Vi ?_
  refine Vi ?_
  refine Vd ?_
  obtain ⟨x3, h4, hF⟩ := Yt hF
  refine Va (Xc rfl) rfl ?_
  refine Va (Vv (ds := [.int .i64 x1.Time, .sl (n + 2) 0 0 (x1.States).length, .sl (n + 3) 0 0 (x1.Since).length, .sl (n + 4) 0 0 (x1.Pulled).length, .sl (n + 5) 0 0 (x1.Held).length]) rfl (Ve hn rfl) rfl ta_34 ts_34 rfl rfl rfl) rfl ?_
  refine Va (Vk rfl) rfl ?_
  refine Vj (vef_callB (vs := [.vs 2 (Wq T_Belt.enc p0), .agg [.int .i64 x1.Time, .vs 1 (Wq (Wr .i64) x1.States), .vs 1 (Wq (Wr .i64) x1.Since), .vs 1 (Wq Ws x1.Pulled), .vs 1 (Wq Ws x1.Held)], .int .i64 p2]) rfl Try.call57 ⟨Za rfl (.vs _ _), view_agg rfl ⟨Za rfl (.int _ _), Zi rfl (Ve hn rfl) rfl rfl (Ya (fun _ => .int _ _)) (Vx rfl), Zi rfl (Ve hn rfl) rfl rfl (Ya (fun _ => .int _ _)) (Vx rfl), Zi rfl (Ve hn rfl) rfl rfl (Ya (fun _ => .bool _)) (Vx rfl), Zi rfl (Ve hn rfl) rfl rfl (Ya (fun _ => .bool _)) (Vx rfl), trivial⟩, Za rfl (.int _ _), trivial⟩ ((F_ref39_check_ok h4 []).mono fun _ _ h => h.1) (.int _ _)) rfl ?_
  refine Va (Xa rfl) rfl ?_
  refine Vf ?_
  refine Vi ?_
  refine Vd ?_
  refine Va (Vk rfl) rfl ?_
  refine Va (Ze rfl rfl) rfl ?_
  refine Vf ?_
  refine Xh rfl (fun c5 => ?_) (fun c5 => ?_)
  ·have hF := Yo c5 hF
   refine Vi ?_
   refine Vd ?_
   refine Va (Vv (ds := [.int .i64 x1.Time, .sl (n + 2) 0 0 (x1.States).length, .sl (n + 3) 0 0 (x1.Since).length, .sl (n + 4) 0 0 (x1.Pulled).length, .sl (n + 5) 0 0 (x1.Held).length]) rfl (Ve hn rfl) rfl ta_34 ts_34 rfl rfl rfl) rfl ?_
   refine Va (Vk rfl) rfl ?_
   refine Vj (Vy (p := .agg [.int .i64 x1.Time, .sl (n + 2) 0 0 (x1.States).length, .sl (n + 3) 0 0 (x1.Since).length, .sl (n + 4) 0 0 (x1.Pulled).length, .sl (n + 5) 0 0 (x1.Held).length]) (e' := .agg [.int .i64 x1.Time, .sl (n + 2) 0 0 (x1.States).length, .sl (n + 3) 0 0 (x1.Since).length, .sl (n + 4) 0 0 (x1.Pulled).length, .sl (n + 5) 0 0 (x1.Held).length]) rfl (Ve hn rfl) rfl rfl ts_34 rfl (Ye rfl) rfl (Wu rfl) rfl (Xr hn rfl)) rfl ?_
   refine Va (Xa rfl) rfl ?_
   refine Vf ?_
   refine Xb ?_
   obtain rfl := Wt hF
   refine Wg ?_
   refine Weak.trans (Xm (E' := [(6, .ptr (n + 1) 0 0 0), (7, .int .i64 x3)]) (loc1 := [⟨34, 5, [.agg [.int .i64 x1.Time, .sl (n + 2) 0 0 (x1.States).length, .sl (n + 3) 0 0 (x1.Since).length, .sl (n + 4) 0 0 (x1.Pulled).length, .vs 1 (Wq Ws x1.Held)]], 0⟩, ⟨34, 5, [.agg [.int .i64 x1.Time, .sl (n + 2) 0 0 (x1.States).length, .sl (n + 3) 0 0 (x1.Since).length, .sl (n + 4) 0 0 (x1.Pulled).length, .vs 1 (Wq Ws x1.Held)]], 0⟩, ⟨3, 1, Wq (Wr .i64) x1.States, 0⟩, ⟨3, 1, Wq (Wr .i64) x1.Since, 0⟩, ⟨4, 1, Wq Ws x1.Pulled, 0⟩, ⟨4, 1, [], 0 + 1⟩]) hn 5 rfl (Ya (fun _ => .bool _)) ⟨Vl rfl, Vl rfl, trivial⟩ ⟨Yr ⟨Vl rfl, Vl rfl, Vl rfl, Vl rfl, Zj rfl rfl rfl (Vx rfl), trivial⟩, Yr ⟨Vl rfl, Vl rfl, Vl rfl, Vl rfl, Zj rfl rfl rfl (Vx rfl), trivial⟩, .refl _, .refl _, .refl _, .refl _, trivial⟩) ?_
   exact Vt hn [(2, 0), (3, 0), (4, 0), (1, 0)] (by decide) ⟨Yj 3 1 rfl rfl, Vr rfl (.int _ _), trivial⟩ ⟨⟨_, rfl, rfl, .same _ _ _ _ (Vh (fun _ => .int _ _))⟩, ⟨_, rfl, rfl, .same _ _ _ _ (Vh (fun _ => .int _ _))⟩, ⟨_, rfl, rfl, .same _ _ _ _ (Vh (fun _ => .bool _))⟩, ⟨_, rfl, rfl, .agg _ _ _ _ _ ⟨Vr rfl (.int _ _), Xq 0 2 rfl rfl, Xq 1 3 rfl rfl, Xq 2 4 rfl rfl, Vr rfl (.vs _ _), trivial⟩⟩, trivial⟩
  ·have hF := Yp c5 hF
   refine Xn ?_
   refine Vi ?_
   refine Yh ?_
   refine Vi ?_
   refine Vd ?_
   obtain ⟨x6, h7, hF⟩ := Yt hF
   refine Va (Vc rfl tf_34_1 ts_22 (by decide)) rfl ?_
   refine Va (Vg rfl (Ve hn rfl) rfl ta_22 rfl) rfl ?_
   refine Va (Vk rfl) rfl ?_
   refine Va (Wa rfl rfl rfl (Ve hn rfl) h7 te_22 ts_3) rfl ?_
   refine Va (rd_ldL1 rfl (Ve hn rfl) (Zb h7).2 ta_3 rfl) rfl ?_
   refine Va (Ze rfl rfl) rfl ?_
   refine Va (Xz rfl) rfl ?_
   refine Vf ?_
   refine Xh rfl (fun c8 => ?_) (fun c8 => ?_)
   ·have hF := Yo c8 hF
    refine Vi ?_
    refine Vd ?_
    refine Va (Vv (ds := [.int .i64 x1.Time, .sl (n + 2) 0 0 (x1.States).length, .sl (n + 3) 0 0 (x1.Since).length, .sl (n + 4) 0 0 (x1.Pulled).length, .sl (n + 5) 0 0 (x1.Held).length]) rfl (Ve hn rfl) rfl ta_34 ts_34 rfl rfl rfl) rfl ?_
    refine Vj (Vy (p := .agg [.int .i64 x1.Time, .sl (n + 2) 0 0 (x1.States).length, .sl (n + 3) 0 0 (x1.Since).length, .sl (n + 4) 0 0 (x1.Pulled).length, .sl (n + 5) 0 0 (x1.Held).length]) (e' := .agg [.int .i64 x1.Time, .sl (n + 2) 0 0 (x1.States).length, .sl (n + 3) 0 0 (x1.Since).length, .sl (n + 4) 0 0 (x1.Pulled).length, .sl (n + 5) 0 0 (x1.Held).length]) rfl (Ve hn rfl) rfl rfl ts_34 rfl (Ye rfl) rfl (Wu rfl) rfl (Xr hn rfl)) rfl ?_
    refine Va (Xa rfl) rfl ?_
    refine Vf ?_
    refine Xb ?_
    obtain rfl := Wt hF
    refine Wg ?_
    refine Weak.trans (Xm (E' := [(6, .ptr (n + 1) 0 0 0), (7, .int .i64 10)]) (loc1 := [⟨34, 5, [.agg [.int .i64 x1.Time, .sl (n + 2) 0 0 (x1.States).length, .sl (n + 3) 0 0 (x1.Since).length, .sl (n + 4) 0 0 (x1.Pulled).length, .vs 1 (Wq Ws x1.Held)]], 0⟩, ⟨34, 5, [.agg [.int .i64 x1.Time, .sl (n + 2) 0 0 (x1.States).length, .sl (n + 3) 0 0 (x1.Since).length, .sl (n + 4) 0 0 (x1.Pulled).length, .vs 1 (Wq Ws x1.Held)]], 0⟩, ⟨3, 1, Wq (Wr .i64) x1.States, 0⟩, ⟨3, 1, Wq (Wr .i64) x1.Since, 0⟩, ⟨4, 1, Wq Ws x1.Pulled, 0⟩, ⟨4, 1, [], 0 + 1⟩]) hn 5 rfl (Ya (fun _ => .bool _)) ⟨Vl rfl, Vl rfl, trivial⟩ ⟨Yr ⟨Vl rfl, Vl rfl, Vl rfl, Vl rfl, Zj rfl rfl rfl (Vx rfl), trivial⟩, Yr ⟨Vl rfl, Vl rfl, Vl rfl, Vl rfl, Zj rfl rfl rfl (Vx rfl), trivial⟩, .refl _, .refl _, .refl _, .refl _, trivial⟩) ?_
    exact Vt hn [(2, 0), (3, 0), (4, 0), (1, 0)] (by decide) ⟨Yj 3 1 rfl rfl, Vr rfl (.int _ _), trivial⟩ ⟨⟨_, rfl, rfl, .same _ _ _ _ (Vh (fun _ => .int _ _))⟩, ⟨_, rfl, rfl, .same _ _ _ _ (Vh (fun _ => .int _ _))⟩, ⟨_, rfl, rfl, .same _ _ _ _ (Vh (fun _ => .bool _))⟩, ⟨_, rfl, rfl, .agg _ _ _ _ _ ⟨Vr rfl (.int _ _), Xq 0 2 rfl rfl, Xq 1 3 rfl rfl, Xq 2 4 rfl rfl, Vr rfl (.vs _ _), trivial⟩⟩, trivial⟩
   ·have hF := Yp c8 hF
    refine Vi ?_
    obtain ⟨o9, ho9, hF⟩ := Yt hF
    refine Vw (Q' := (fun o9 => OnlyE .normal (fun E' lw lc => Yb E' lw lc [(0, .vs 2 (Wq T_Belt.enc p0)), (2, .int .i64 p2), (4, .ptr (n + 0) 0 0 0), (6, .ptr (n + 1) 0 0 0), (27, .bool o9.1)] low [⟨34, 5, [.agg [.int .i64 o9.2.Time, .sl (n + 2) 0 0 (o9.2.States).length, .sl (n + 3) 0 0 (o9.2.Since).length, .sl (n + 4) 0 0 (o9.2.Pulled).length, .vs 1 (Wq Ws o9.2.Held)]], 0⟩, ⟨34, 5, [.agg [.int .i64 0, .nils, .nils, .nils, .nils]], 0⟩, ⟨3, 1, Wq (Wr .i64) o9.2.States, 0⟩, ⟨3, 1, Wq (Wr .i64) o9.2.Since, 0⟩, ⟨4, 1, Wq Ws o9.2.Pulled, 0⟩])) o9) ?_ ?_
    ·replace hF := ho9
     refine Vd ?_
     obtain ⟨x10, h11, hF⟩ := Yt hF
     rcases Ww x10 with c12 | c12
     ·have hF := Yo c12 hF
      refine Va (Vc rfl tf_34_3 ts_32 (by decide)) rfl ?_
      refine Va (Vg rfl (Ve hn rfl) rfl ta_32 rfl) rfl ?_
      refine Va (Vk rfl) rfl ?_
      refine Va (Wa rfl rfl rfl (Ve hn rfl) h11 te_32 ts_4) rfl ?_
      refine Va (rd_ldL1 rfl (Ve hn rfl) (Zb h11).2 ta_4 rfl) rfl ?_
      refine Va (Vm rfl) rfl ?_
      refine Vb rfl rfl (Zo c12) rfl ?_
      refine Vb rfl rfl (Zo c12) rfl ?_
      refine Vb rfl rfl (Zo c12) rfl ?_
      refine Vb rfl rfl (Zo c12) rfl ?_
      refine Vb rfl rfl (Zo c12) rfl ?_
      refine Va (Vo (congrArg Ws c12) rfl) rfl ?_
      refine Va (Xz rfl) rfl ?_
      refine Vf ?_
      obtain rfl := Wt hF
      refine Xy ?_
      refine Weak.trans (Xm (E' := [(0, .vs 2 (Wq T_Belt.enc p0)), (2, .int .i64 p2), (4, .ptr (n + 0) 0 0 0), (6, .ptr (n + 1) 0 0 0), (27, .bool true)]) (loc1 := [⟨34, 5, [.agg [.int .i64 x1.Time, .sl (n + 2) 0 0 (x1.States).length, .sl (n + 3) 0 0 (x1.Since).length, .sl (n + 4) 0 0 (x1.Pulled).length, .vs 1 (Wq Ws x1.Held)]], 0⟩, ⟨34, 5, [.agg [.int .i64 0, .nils, .nils, .nils, .nils]], 0⟩, ⟨3, 1, Wq (Wr .i64) x1.States, 0⟩, ⟨3, 1, Wq (Wr .i64) x1.Since, 0⟩, ⟨4, 1, Wq Ws x1.Pulled, 0⟩, ⟨4, 1, [], 0 + 1⟩]) hn 5 rfl (Ya (fun _ => .bool _)) ⟨Vl rfl, Vl rfl, Vl rfl, Vl rfl, Vl rfl, trivial⟩ ⟨Yr ⟨Vl rfl, Vl rfl, Vl rfl, Vl rfl, Zj rfl rfl rfl (Vx rfl), trivial⟩, .refl _, .refl _, .refl _, .refl _, .refl _, trivial⟩) ?_
      exact Vt hn [(0, 0), (1, 0), (2, 0), (3, 0), (4, 0)] (by decide) ⟨Vr rfl (.vs _ _), Vr rfl (.int _ _), Yj 0 0 rfl rfl, Yj 1 1 rfl rfl, Vr rfl (.bool _), trivial⟩ ⟨⟨_, rfl, rfl, .agg _ _ _ _ _ ⟨Vr rfl (.int _ _), Xq 2 2 rfl rfl, Xq 3 3 rfl rfl, Xq 4 4 rfl rfl, Vr rfl (.vs _ _), trivial⟩⟩, ⟨_, rfl, rfl, .same _ _ _ _ (Xt ⟨Xw ⟨.int _ _, .nils, .nils, .nils, .nils, trivial⟩, trivial⟩)⟩, ⟨_, rfl, rfl, .same _ _ _ _ (Vh (fun _ => .int _ _))⟩, ⟨_, rfl, rfl, .same _ _ _ _ (Vh (fun _ => .int _ _))⟩, ⟨_, rfl, rfl, .same _ _ _ _ (Vh (fun _ => .bool _))⟩, trivial⟩
     ·have hF := Yp c12 hF
      obtain ⟨x13, h14, hF⟩ := Yt hF
      refine Va (Vc rfl tf_34_3 ts_32 (by decide)) rfl ?_
      refine Va (Vg rfl (Ve hn rfl) rfl ta_32 rfl) rfl ?_
      refine Va (Vk rfl) rfl ?_
      refine Va (Wa rfl rfl rfl (Ve hn rfl) h11 te_32 ts_4) rfl ?_
      refine Va (rd_ldL1 rfl (Ve hn rfl) (Zb h11).2 ta_4 rfl) rfl ?_
      refine Va (Vm rfl) rfl ?_
      refine Xd rfl rfl c12 ?_
      refine Va (Vc rfl tf_34_4 ts_32 (by decide)) rfl ?_
      refine Xd rfl rfl c12 ?_
      refine Va (Vg rfl (Ve hn rfl) rfl ta_32 rfl) rfl ?_
      refine Xd rfl rfl c12 ?_
      refine Va (Vk rfl) rfl ?_
      refine Xd rfl rfl c12 ?_
      refine Va (Wa rfl rfl rfl (Ve hn rfl) h14 te_32 ts_4) rfl ?_
      refine Xd rfl rfl c12 ?_
      refine Va (rd_ldL1 rfl (Ve hn rfl) (Zb h14).2 ta_4 rfl) rfl ?_
      refine Va (Vn (congrArg Ws c12) rfl) rfl ?_
      refine Va (Xz rfl) rfl ?_
      refine Vf ?_
      obtain rfl := Wt hF
      refine Xy ?_
      refine Weak.trans (Xm (E' := [(0, .vs 2 (Wq T_Belt.enc p0)), (2, .int .i64 p2), (4, .ptr (n + 0) 0 0 0), (6, .ptr (n + 1) 0 0 0), (27, .bool x13)]) (loc1 := [⟨34, 5, [.agg [.int .i64 x1.Time, .sl (n + 2) 0 0 (x1.States).length, .sl (n + 3) 0 0 (x1.Since).length, .sl (n + 4) 0 0 (x1.Pulled).length, .vs 1 (Wq Ws x1.Held)]], 0⟩, ⟨34, 5, [.agg [.int .i64 0, .nils, .nils, .nils, .nils]], 0⟩, ⟨3, 1, Wq (Wr .i64) x1.States, 0⟩, ⟨3, 1, Wq (Wr .i64) x1.Since, 0⟩, ⟨4, 1, Wq Ws x1.Pulled, 0⟩, ⟨4, 1, [], 0 + 1⟩]) hn 5 rfl (Ya (fun _ => .bool _)) ⟨Vl rfl, Vl rfl, Vl rfl, Vl rfl, Vl rfl, trivial⟩ ⟨Yr ⟨Vl rfl, Vl rfl, Vl rfl, Vl rfl, Zj rfl rfl rfl (Vx rfl), trivial⟩, .refl _, .refl _, .refl _, .refl _, .refl _, trivial⟩) ?_
      exact Vt hn [(0, 0), (1, 0), (2, 0), (3, 0), (4, 0)] (by decide) ⟨Vr rfl (.vs _ _), Vr rfl (.int _ _), Yj 0 0 rfl rfl, Yj 1 1 rfl rfl, Vr rfl (.bool _), trivial⟩ ⟨⟨_, rfl, rfl, .agg _ _ _ _ _ ⟨Vr rfl (.int _ _), Xq 2 2 rfl rfl, Xq 3 3 rfl rfl, Xq 4 4 rfl rfl, Vr rfl (.vs _ _), trivial⟩⟩, ⟨_, rfl, rfl, .same _ _ _ _ (Xt ⟨Xw ⟨.int _ _, .nils, .nils, .nils, .nils, trivial⟩, trivial⟩)⟩, ⟨_, rfl, rfl, .same _ _ _ _ (Vh (fun _ => .int _ _))⟩, ⟨_, rfl, rfl, .same _ _ _ _ (Vh (fun _ => .int _ _))⟩, ⟨_, rfl, rfl, .same _ _ _ _ (Vh (fun _ => .bool _))⟩, trivial⟩
    ·rintro _ _ _ _ ⟨rfl, hw⟩
     refine ⟨_, _, _, hw, ?_⟩
     refine Xh rfl (fun c15 => ?_) (fun c15 => ?_)
     ·have hF := Yo c15 hF
      refine Vi ?_
      refine Vd ?_
      refine Va (Vv (ds := [.int .i64 o9.2.Time, .sl (n + 2) 0 0 (o9.2.States).length, .sl (n + 3) 0 0 (o9.2.Since).length, .sl (n + 4) 0 0 (o9.2.Pulled).length, .vs 1 (Wq Ws o9.2.Held)]) rfl (Ve hn rfl) rfl ta_34 ts_34 rfl rfl rfl) rfl ?_
      refine Vj (Vy (p := .agg [.int .i64 o9.2.Time, .sl (n + 2) 0 0 (o9.2.States).length, .sl (n + 3) 0 0 (o9.2.Since).length, .sl (n + 4) 0 0 (o9.2.Pulled).length, .vs 1 (Wq Ws o9.2.Held)]) (e' := .agg [.int .i64 o9.2.Time, .sl (n + 2) 0 0 (o9.2.States).length, .sl (n + 3) 0 0 (o9.2.Since).length, .sl (n + 4) 0 0 (o9.2.Pulled).length, .vs 1 (Wq Ws o9.2.Held)]) rfl (Ve hn rfl) rfl rfl ts_34 rfl (Ye rfl) rfl (Wu rfl) rfl (Xr hn rfl)) rfl ?_
      refine Va (Xa rfl) rfl ?_
      refine Vf ?_
      refine Xb ?_
      obtain rfl := Wt hF
      refine Wg ?_
      exact Vt hn [(2, 0), (3, 0), (4, 0), (1, 0)] (by decide) ⟨Yj 3 1 rfl rfl, Vr rfl (.int _ _), trivial⟩ ⟨⟨_, rfl, rfl, .same _ _ _ _ (Vh (fun _ => .int _ _))⟩, ⟨_, rfl, rfl, .same _ _ _ _ (Vh (fun _ => .int _ _))⟩, ⟨_, rfl, rfl, .same _ _ _ _ (Vh (fun _ => .bool _))⟩, ⟨_, rfl, rfl, .agg _ _ _ _ _ ⟨Vr rfl (.int _ _), Xq 0 2 rfl rfl, Xq 1 3 rfl rfl, Xq 2 4 rfl rfl, Vr rfl (.vs _ _), trivial⟩⟩, trivial⟩
     ·have hF := Yp c15 hF
      refine Vi ?_
      obtain ⟨o16, ho16, hF⟩ := Yt hF
      refine Vw (Q' := (fun o16 => OnlyE .normal (fun E' lw lc => Yb E' lw lc [(2, .int .i64 p2), (4, .ptr (n + 0) 0 0 0), (6, .ptr (n + 1) 0 0 0), (41, .bool o16.1)] low [⟨34, 5, [.agg [.int .i64 o16.2.Time, .sl (n + 2) 0 0 (o16.2.States).length, .sl (n + 3) 0 0 (o16.2.Since).length, .sl (n + 4) 0 0 (o16.2.Pulled).length, .vs 1 (Wq Ws o16.2.Held)]], 0⟩, ⟨34, 5, [.agg [.int .i64 0, .nils, .nils, .nils, .nils]], 0⟩, ⟨3, 1, Wq (Wr .i64) o16.2.States, 0⟩, ⟨3, 1, Wq (Wr .i64) o16.2.Since, 0⟩, ⟨4, 1, Wq Ws o16.2.Pulled, 0⟩])) o16) ?_ ?_
      ·replace hF := ho16
       obtain ⟨x17, h18, hF⟩ := Yt hF
       rcases Ww (decide (0 ≤ x17.Onto)) with c19 | c19
       ·have hF := Yo c19 hF
        obtain ⟨x20, h21, hF⟩ := Yt hF
        obtain ⟨x22, h23, hF⟩ := Yt hF
        refine Zk [[], [], [0, 1], [0, 1, 2], [0, 1, 2, 3], [0, 1, 2, 3, 4], [0, 1, 2, 3, 4, 5], [0, 1, 2, 3, 4, 5, 6], [0, 1, 2, 3, 4, 5, 6, 7], [0, 1, 2, 3, 4, 5, 6], [0, 1, 2, 3, 4, 5, 6], [0, 1, 2, 3, 4, 5, 6, 9, 10], [0, 1, 2, 3, 4, 5, 6, 9, 10, 11], [0, 1, 2, 3, 4, 5, 6, 9, 10, 11, 12], [0, 1, 2, 3, 4, 5, 6, 7, 8, 9, 10, 11, 12, 13], [0, 1, 2, 3, 4, 5, 6, 7, 8, 9, 10, 11, 12, 13, 14], [0, 1, 2, 3, 4, 5, 6, 7, 8, 9, 10, 11, 12, 13, 14, 15], [0, 1, 2, 3, 4, 5, 6, 7, 8, 9, 10, 11, 12, 13, 14, 15, 16], [0, 1, 2, 3, 4, 5, 6, 7, 8, 9, 10, 11, 12, 13, 14, 15, 16, 17]] mixed (by kernel_rfl) rfl ?_
        refine Ym rfl rfl (Xc rfl) ?_
        refine Ym rfl rfl (Vk rfl) ?_
        refine Ym rfl rfl (Xk (Yl rfl rfl h18 te_27 ts_31) (v' := .vptr [.int .i64 x17.Onto, .int .i64 x17.Warn] 0) rfl) ?_
        refine Ym rfl rfl (Yf rfl tf_31_0 ts_3 (by decide)) ?_
        refine Ym rfl rfl (Xj rfl ta_3 rfl) ?_
        refine Ym rfl rfl (rd_geq rfl rfl) ?_
        refine Ym rfl rfl (Vm rfl) ?_
        refine Zu rfl rfl rfl rfl c19 (Vc rfl tf_34_1 ts_22 (by decide)) ?_
        refine Zu rfl rfl rfl rfl c19 (Vg rfl (Ve hn rfl) rfl ta_22 rfl) ?_
        refine Zu rfl rfl rfl rfl c19 (Xc rfl) ?_
        refine Zu rfl rfl rfl rfl c19 (Vk rfl) ?_
        refine Zu rfl rfl rfl rfl c19 (Xk (Yl rfl rfl h21 te_27 ts_31) (v' := .vptr [.int .i64 x20.Onto, .int .i64 x20.Warn] 0) rfl) ?_
        refine Zu rfl rfl rfl rfl c19 (Yf rfl tf_31_0 ts_3 (by decide)) ?_
        refine Zu rfl rfl rfl rfl c19 (Xj rfl ta_3 rfl) ?_
        refine Zu rfl rfl rfl rfl c19 (Wa rfl rfl rfl (Ve hn rfl) h23 te_22 ts_3) ?_
        refine Zu rfl rfl rfl rfl c19 (rd_ldL1 rfl (Ve hn rfl) (Zb h23).2 ta_3 rfl) ?_
        refine Zu rfl rfl rfl rfl c19 (Ze rfl rfl) ?_
        refine Ym rfl rfl (Vo (congrArg Ws c19) rfl) ?_
        refine Ym rfl rfl (Xz rfl) ?_
        refine Yz ?_
        obtain rfl := Wt hF
        refine Xy ?_
        exact Vp ⟨rfl, rfl, rfl, rfl, trivial⟩
       ·have hF := Yp c19 hF
        refine Zk [[], [], [0, 1], [0, 1, 2], [0, 1, 2, 3], [0, 1, 2, 3, 4], [0, 1, 2, 3, 4, 5], [0, 1, 2, 3, 4, 5, 6], [0, 1, 2, 3, 4, 5, 6, 7], [0, 1, 2, 3, 4, 5, 6], [0, 1, 2, 3, 4, 5, 6], [0, 1, 2, 3, 4, 5, 6, 9, 10], [0, 1, 2, 3, 4, 5, 6, 9, 10, 11], [0, 1, 2, 3, 4, 5, 6, 9, 10, 11, 12], [0, 1, 2, 3, 4, 5, 6, 7, 8, 9, 10, 11, 12, 13], [0, 1, 2, 3, 4, 5, 6, 7, 8, 9, 10, 11, 12, 13, 14], [0, 1, 2, 3, 4, 5, 6, 7, 8, 9, 10, 11, 12, 13, 14, 15], [0, 1, 2, 3, 4, 5, 6, 7, 8, 9, 10, 11, 12, 13, 14, 15, 16], [0, 1, 2, 3, 4, 5, 6, 7, 8, 9, 10, 11, 12, 13, 14, 15, 16, 17]] mixed (by kernel_rfl) rfl ?_
        refine Ym rfl rfl (Xc rfl) ?_
        refine Ym rfl rfl (Vk rfl) ?_
        refine Ym rfl rfl (Xk (Yl rfl rfl h18 te_27 ts_31) (v' := .vptr [.int .i64 x17.Onto, .int .i64 x17.Warn] 0) rfl) ?_
        refine Ym rfl rfl (Yf rfl tf_31_0 ts_3 (by decide)) ?_
        refine Ym rfl rfl (Xj rfl ta_3 rfl) ?_
        refine Ym rfl rfl (rd_geq rfl rfl) ?_
        refine Ym rfl rfl (Vm rfl) ?_
        refine Vq rfl rfl rfl (Zz c19) ?_
        refine Vq rfl rfl rfl (Zz c19) ?_
        refine Vq rfl rfl rfl (Zz c19) ?_
        refine Vq rfl rfl rfl (Zz c19) ?_
        refine Vq rfl rfl rfl (Zz c19) ?_
        refine Vq rfl rfl rfl (Zz c19) ?_
        refine Vq rfl rfl rfl (Zz c19) ?_
        refine Vq rfl rfl rfl (Zz c19) ?_
        refine Vq rfl rfl rfl (Zz c19) ?_
        refine Vq rfl rfl rfl (Zz c19) ?_
        refine Ym rfl rfl (Vn (congrArg Ws c19) rfl) ?_
        refine Ym rfl rfl (Xz rfl) ?_
        refine Yz ?_
        obtain rfl := Wt hF
        refine Xy ?_
        exact Vp ⟨rfl, rfl, rfl, rfl, trivial⟩
      ·rintro _ _ _ _ ⟨rfl, hw⟩
       refine ⟨_, _, _, hw, ?_⟩
       refine Xh rfl (fun c24 => ?_) (fun c24 => ?_)
       ·have hF := Yo c24 hF
        refine Vi ?_
        refine Vd ?_
        refine Va (Vv (ds := [.int .i64 o16.2.Time, .sl (n + 2) 0 0 (o16.2.States).length, .sl (n + 3) 0 0 (o16.2.Since).length, .sl (n + 4) 0 0 (o16.2.Pulled).length, .vs 1 (Wq Ws o16.2.Held)]) rfl (Ve hn rfl) rfl ta_34 ts_34 rfl rfl rfl) rfl ?_
        refine Vj (Vy (p := .agg [.int .i64 o16.2.Time, .sl (n + 2) 0 0 (o16.2.States).length, .sl (n + 3) 0 0 (o16.2.Since).length, .sl (n + 4) 0 0 (o16.2.Pulled).length, .vs 1 (Wq Ws o16.2.Held)]) (e' := .agg [.int .i64 o16.2.Time, .sl (n + 2) 0 0 (o16.2.States).length, .sl (n + 3) 0 0 (o16.2.Since).length, .sl (n + 4) 0 0 (o16.2.Pulled).length, .vs 1 (Wq Ws o16.2.Held)]) rfl (Ve hn rfl) rfl rfl ts_34 rfl (Ye rfl) rfl (Wu rfl) rfl (Xr hn rfl)) rfl ?_
        refine Va (Xa rfl) rfl ?_
        refine Vf ?_
        refine Xb ?_
        obtain rfl := Wt hF
        refine Wg ?_
        exact Vt hn [(2, 0), (3, 0), (4, 0), (1, 0)] (by decide) ⟨Yj 3 1 rfl rfl, Vr rfl (.int _ _), trivial⟩ ⟨⟨_, rfl, rfl, .same _ _ _ _ (Vh (fun _ => .int _ _))⟩, ⟨_, rfl, rfl, .same _ _ _ _ (Vh (fun _ => .int _ _))⟩, ⟨_, rfl, rfl, .same _ _ _ _ (Vh (fun _ => .bool _))⟩, ⟨_, rfl, rfl, .agg _ _ _ _ _ ⟨Vr rfl (.int _ _), Xq 0 2 rfl rfl, Xq 1 3 rfl rfl, Xq 2 4 rfl rfl, Vr rfl (.vs _ _), trivial⟩⟩, trivial⟩
       ·have hF := Yp c24 hF
        refine Xn ?_
        refine Vi ?_
        obtain ⟨x25, h26, hF⟩ := Yt hF
        obtain ⟨x27, h28, hF⟩ := Yt hF
        refine Wc [[], [0], [], [], [3], [], [], [6], [0, 1, 2], [0, 1, 2, 8], [0, 1, 2, 3, 4, 5, 6, 7, 8, 9], [0, 1, 2, 3, 4, 5, 6, 7, 8, 9, 10]] [false, false, false, false, false, false, false, false, false, true, false, true] [(low, [⟨34, 5, [.agg [.int .i64 o16.2.Time, .sl (n + 2) 0 0 (o16.2.States).length, .sl (n + 3) 0 0 (o16.2.Since).length, .sl (n + 4) 0 0 (o16.2.Pulled).length, .vs 1 (Wq Ws o16.2.Held)]], 0⟩, ⟨34, 5, [.agg [.int .i64 0, .nils, .nils, .nils, .nils]], 0⟩, ⟨3, 1, Wq (Wr .i64) o16.2.States, 0⟩, ⟨3, 1, Wq (Wr .i64) o16.2.Since, 0⟩, ⟨4, 1, Wq Ws o16.2.Pulled, 0⟩]), (low, [⟨34, 5, [.agg [.int .i64 o16.2.Time, .sl (n + 2) 0 0 (o16.2.States).length, .sl (n + 3) 0 0 (o16.2.Since).length, .sl (n + 4) 0 0 (o16.2.Pulled).length, .vs 1 (Wq Ws o16.2.Held)]], 0⟩, ⟨34, 5, [.agg [.int .i64 0, .nils, .nils, .nils, .nils]], 0⟩, ⟨3, 1, Wq (Wr .i64) (o16.2.States.set ((p2).toNat) 1), 0⟩, ⟨3, 1, Wq (Wr .i64) o16.2.Since, 0⟩, ⟨4, 1, Wq Ws o16.2.Pulled, 0⟩]), (low, [⟨34, 5, [.agg [.int .i64 o16.2.Time, .sl (n + 2) 0 0 (o16.2.States).length, .sl (n + 3) 0 0 (o16.2.Since).length, .sl (n + 4) 0 0 (o16.2.Pulled).length, .vs 1 (Wq Ws o16.2.Held)]], 0⟩, ⟨34, 5, [.agg [.int .i64 0, .nils, .nils, .nils, .nils]], 0⟩, ⟨3, 1, Wq (Wr .i64) (o16.2.States.set ((p2).toNat) 1), 0⟩, ⟨3, 1, Wq (Wr .i64) (o16.2.Since.set ((p2).toNat) o16.2.Time), 0⟩, ⟨4, 1, Wq Ws o16.2.Pulled, 0⟩])] mixed (by kernel_rfl) rfl (lenAll (Xx rfl (Xx rfl (Xx rfl Zn)))) rfl _ rfl rfl ?_
        refine Ym rfl rfl (Vc rfl tf_34_1 ts_22 (by decide)) ?_
        refine Ym rfl rfl (Vg rfl (Ve hn rfl) rfl ta_22 rfl) ?_
        refine Ym rfl rfl (Vk rfl) ?_
        refine Yi _ rfl rfl (Xx (VRd.ntl (Vc rfl tf_34_2 ts_22 (by decide))) (Xx (VRd.ntl (Vc rfl tf_34_2 ts_22 (by decide))) Zn)) ?_
        refine Yi _ rfl rfl (Xx (VRd.ntl (Vg rfl (Ve hn rfl) rfl ta_22 rfl)) (Xx (VRd.ntl (Vg rfl (Ve hn rfl) rfl ta_22 rfl)) Zn)) ?_
        refine Yi _ rfl rfl (Xx (VRd.ntl (Vk rfl)) (Xx (VRd.ntl (Vk rfl)) Zn)) ?_
        refine Yi _ rfl rfl (Xx (VRd.ntl (Vc rfl tf_34_0 ts_3 (by decide))) (Xx (VRd.ntl (Vc rfl tf_34_0 ts_3 (by decide))) Zn)) ?_
        refine Yi _ rfl rfl (Xx (VRd.ntl (Vg rfl (Ve hn rfl) rfl ta_3 rfl)) (Xx (VRd.ntl (Vg rfl (Ve hn rfl) rfl ta_3 rfl)) Zn)) ?_
        refine Ym rfl rfl (Wa rfl rfl rfl (Ve hn rfl) h26 te_22 ts_3) ?_
        refine Zh rfl rfl rfl (Wl (p := .int .i64 1) (e' := 1) rfl (Ve hn rfl) (Zb h26).2 rfl ts_3 rfl (Ye rfl) (Wu rfl) rfl (Xr hn rfl)) ?_
        refine Ym rfl rfl (Wa rfl rfl rfl (Ve hn rfl) h28 te_22 ts_3) ?_
        refine Zh rfl rfl rfl (Wl (p := .int .i64 o16.2.Time) (e' := o16.2.Time) rfl (Ve hn rfl) (Zb h28).2 rfl ts_3 rfl (Ye rfl) (Wu rfl) rfl (Xr hn rfl)) ?_
        refine Yz ?_
        refine Vi ?_
        refine Vd ?_
        refine Va (Vv (ds := [.int .i64 o16.2.Time, .sl (n + 2) 0 0 (o16.2.States).length, .sl (n + 3) 0 0 (o16.2.Since).length, .sl (n + 4) 0 0 (o16.2.Pulled).length, .vs 1 (Wq Ws o16.2.Held)]) rfl (Ve hn rfl) rfl ta_34 ts_34 rfl rfl rfl) rfl ?_
        refine Vj (Vy (p := .agg [.int .i64 o16.2.Time, .sl (n + 2) 0 0 (o16.2.States).length, .sl (n + 3) 0 0 (o16.2.Since).length, .sl (n + 4) 0 0 (o16.2.Pulled).length, .vs 1 (Wq Ws o16.2.Held)]) (e' := .agg [.int .i64 o16.2.Time, .sl (n + 2) 0 0 (o16.2.States).length, .sl (n + 3) 0 0 (o16.2.Since).length, .sl (n + 4) 0 0 (o16.2.Pulled).length, .vs 1 (Wq Ws o16.2.Held)]) rfl (Ve hn rfl) rfl rfl ts_34 rfl (Ye rfl) rfl (Wu rfl) rfl (Xr hn rfl)) rfl ?_
        refine Va (Xa rfl) rfl ?_
        refine Vf ?_
        refine Xb ?_
        obtain rfl := Wt hF
        refine Wg ?_
        exact Vt hn [(2, 0), (3, 0), (4, 0), (1, 0)] (by decide) ⟨Yj 3 1 rfl rfl, Vr rfl (.int _ _), trivial⟩ ⟨⟨_, rfl, rfl, .same _ _ _ _ (Vh (fun _ => .int _ _))⟩, ⟨_, rfl, rfl, .same _ _ _ _ (Vh (fun _ => .int _ _))⟩, ⟨_, rfl, rfl, .same _ _ _ _ (Vh (fun _ => .bool _))⟩, ⟨_, rfl, rfl, .agg _ _ _ _ _ ⟨Vr rfl (.int _ _), Xq 0 2 rfl (congrArg (PV.sl _ _ 0) (Eq.trans rfl List.length_set.symm)), Xq 1 3 rfl (congrArg (PV.sl _ _ 0) (Eq.trans rfl List.length_set.symm)), Xq 2 4 rfl rfl, Vr rfl (.vs _ _), trivial⟩⟩, trivial⟩
 ·rintro _ _ _ _ ⟨he, hw⟩
  refine ⟨_, _, _, hw, ?_⟩
  exact Zm hn 3 rfl (Wu rfl) he [.agg [.int .i64 r.1.Time, .sl (n + 0) 0 0 (r.1.States).length, .sl (n + 1) 0 0 (r.1.Since).length, .sl (n + 2) 0 0 (r.1.Pulled).length, .vs 1 (Wq Ws r.1.Held)], .int .i64 r.2] ⟨Vv rfl (Ve hn rfl) rfl ta_34 ts_34 rfl rfl rfl, rfl, trivial⟩ ((lt_tup ⟨(Xw ⟨.int _ _, .sl _ _ _ _ (Zw rfl), .sl _ _ _ _ (Zw rfl), .sl _ _ _ _ (Zw rfl), .vs _ _, trivial⟩), .int _ _, trivial⟩)) ⟨Vh (fun _ => .int _ _), Vh (fun _ => .int _ _), Vh (fun _ => .bool _), trivial⟩ ⟨rfl, rfl⟩

theorem F_ref39_Wait_ok {p0 : List T_Belt} {p1 : T_Line} {p2 : Int} {r : T_Line × Int} (hF : F_ref39_Wait p0 p1 p2 = some r) (low : List AObj) {n : Nat} (hn : low.length = n) :
    Ys Try.prog 46 [.vs 2 (Wq T_Belt.enc p0), .agg [.int .i64 p1.Time, .vs 1 (Wq (Wr .i64) p1.States), .vs 1 (Wq (Wr .i64) p1.Since), .vs 1 (Wq Ws p1.Pulled), .vs 1 (Wq Ws p1.Held)], .int .i64 p2] low fun x low' => x = .tup [.agg [.int .i64 r.1.Time, .sl (n + 0) 0 0 (r.1.States).length, .sl (n + 1) 0 0 (r.1.Since).length, .sl (n + 2) 0 0 (r.1.Pulled).length, .vs 1 (Wq Ws r.1.Held)], .int .i64 r.2] ∧ low' = low ++ [⟨3, 1, Wq (Wr .i64) r.1.States, 0⟩, ⟨3, 1, Wq (Wr .i64) r.1.Since, 0⟩, ⟨4, 1, Wq Ws r.1.Pulled, 0⟩] := by
 refine Vz (nt := 74) (rs := [.cell 6 34, .tmp 7]) Try.func46 rfl rfl (Wu rfl) rfl ?_
 refine Vw (Q' := FnE (fun E' lw lc => Yb E' lw lc [(6, .ptr (n + 3) 0 0 0), (7, .int .i64 r.2)] low [⟨3, 1, Wq (Wr .i64) r.1.States, 0⟩, ⟨3, 1, Wq (Wr .i64) r.1.Since, 0⟩, ⟨4, 1, Wq Ws r.1.Pulled, 0⟩, ⟨34, 5, [.agg [.int .i64 r.1.Time, .sl (n + 0) 0 0 (r.1.States).length, .sl (n + 1) 0 0 (r.1.Since).length, .sl (n + 2) 0 0 (r.1.Pulled).length, .vs 1 (Wq Ws r.1.Held)]], 0⟩])) ?_ ?_
 ·unfold F_ref39_Wait at hF
  refine Vi ?_
  refine Vd ?_
  refine Vj (Zc hn rfl (v := .agg [.int .i64 p1.Time, .vs 1 (Wq (Wr .i64) p1.States), .vs 1 (Wq (Wr .i64) p1.Since), .vs 1 (Wq Ws p1.Pulled), .vs 1 (Wq Ws p1.Held)]) rfl rfl (Wv _) rfl rfl) rfl ?_
  refine Vj (Xe hn rfl tz_34 rfl rfl (Wv _) rfl) rfl ?_
  refine Va (Xa rfl) rfl ?_
  refine Vf ?_
  refine Vi ?_
  refine Vd ?_
  obtain ⟨x1, h2, hF⟩ := Yt hF
  refine Va (Vv (ds := [.int .i64 p1.Time, .vs 1 (Wq (Wr .i64) p1.States), .vs 1 (Wq (Wr .i64) p1.Since), .vs 1 (Wq Ws p1.Pulled), .vs 1 (Wq Ws p1.Held)]) rfl (Ve hn rfl) rfl ta_34 ts_34 rfl rfl rfl) rfl ?_
  refine Vj (Xg (r := .agg [.int .i64 x1.Time, .sl (n + 2) 0 0 (x1.States).length, .sl (n + 3) 0 0 (x1.Since).length, .sl (n + 4) 0 0 (x1.Pulled).length, .sl (n + 5) 0 0 (x1.Held).length]) (os := [⟨3, 1, Wq (Wr .i64) x1.States, 0⟩, ⟨3, 1, Wq (Wr .i64) x1.Since, 0⟩, ⟨4, 1, Wq Ws x1.Pulled, 0⟩, ⟨4, 1, Wq Ws x1.Held, 0⟩]) rfl Try.call23 (F_ref39_Copy_ok h2 _ (Xi hn rfl))) rfl ?_
  refine Vj (Vy (p := .agg [.int .i64 x1.Time, .sl (n + 2) 0 0 (x1.States).length, .sl (n + 3) 0 0 (x1.Since).length, .sl (n + 4) 0 0 (x1.Pulled).length, .sl (n + 5) 0 0 (x1.Held).length]) (e' := .agg [.int .i64 x1.Time, .sl (n + 2) 0 0 (x1.States).length, .sl (n + 3) 0 0 (x1.Since).length, .sl (n + 4) 0 0 (x1.Pulled).length, .sl (n + 5) 0 0 (x1.Held).length]) rfl (Ve hn rfl) rfl rfl ts_34 rfl (Ye rfl) rfl (Wu rfl) rfl (Xr hn rfl)) rfl ?_
  refine Vf ?_
  refine Vi ?_
  refine Vi ?_
  refine Vd ?_
  obtain ⟨x3, h4, hF⟩ := Yt hF
  refine Va (Xc rfl) rfl ?_
  refine Va (Vv (ds := [.int .i64 x1.Time, .sl (n + 2) 0 0 (x1.States).length, .sl (n + 3) 0 0 (x1.Since).length, .sl (n + 4) 0 0 (x1.Pulled).length, .sl (n + 5) 0 0 (x1.Held).length]) rfl (Ve hn rfl) rfl ta_34 ts_34 rfl rfl rfl) rfl ?_
  refine Vj (vef_callB (vs := [.vs 2 (Wq T_Belt.enc p0), .agg [.int .i64 x1.Time, .vs 1 (Wq (Wr .i64) x1.States), .vs 1 (Wq (Wr .i64) x1.Since), .vs 1 (Wq Ws x1.Pulled), .vs 1 (Wq Ws x1.Held)]]) rfl Try.call41 ⟨Za rfl (.vs _ _), view_agg rfl ⟨Za rfl (.int _ _), Zi rfl (Ve hn rfl) rfl rfl (Ya (fun _ => .int _ _)) (Vx rfl), Zi rfl (Ve hn rfl) rfl rfl (Ya (fun _ => .int _ _)) (Vx rfl), Zi rfl (Ve hn rfl) rfl rfl (Ya (fun _ => .bool _)) (Vx rfl), Zi rfl (Ve hn rfl) rfl rfl (Ya (fun _ => .bool _)) (Vx rfl), trivial⟩, trivial⟩ ((F_ref39_Valid_ok h4 []).mono fun _ _ h => h.1) (.bool _)) rfl ?_
  refine Va (Zp rfl) rfl ?_
  refine Vf ?_
  refine Xh rfl (fun c5 => ?_) (fun c5 => ?_)
  ·have hF := Yo c5 hF
   refine Vi ?_
   refine Vd ?_
   refine Va (Vv (ds := [.int .i64 x1.Time, .sl (n + 2) 0 0 (x1.States).length, .sl (n + 3) 0 0 (x1.Since).length, .sl (n + 4) 0 0 (x1.Pulled).length, .sl (n + 5) 0 0 (x1.Held).length]) rfl (Ve hn rfl) rfl ta_34 ts_34 rfl rfl rfl) rfl ?_
   refine Vj (Vy (p := .agg [.int .i64 x1.Time, .sl (n + 2) 0 0 (x1.States).length, .sl (n + 3) 0 0 (x1.Since).length, .sl (n + 4) 0 0 (x1.Pulled).length, .sl (n + 5) 0 0 (x1.Held).length]) (e' := .agg [.int .i64 x1.Time, .sl (n + 2) 0 0 (x1.States).length, .sl (n + 3) 0 0 (x1.Since).length, .sl (n + 4) 0 0 (x1.Pulled).length, .sl (n + 5) 0 0 (x1.Held).length]) rfl (Ve hn rfl) rfl rfl ts_34 rfl (Ye rfl) rfl (Wu rfl) rfl (Xr hn rfl)) rfl ?_
   refine Va (Xa rfl) rfl ?_
   refine Vf ?_
   refine Xb ?_
   obtain rfl := Wt hF
   refine Wg ?_
   refine Weak.trans (Xm (E' := [(6, .ptr (n + 1) 0 0 0), (7, .int .i64 6)]) (loc1 := [⟨34, 5, [.agg [.int .i64 x1.Time, .sl (n + 2) 0 0 (x1.States).length, .sl (n + 3) 0 0 (x1.Since).length, .sl (n + 4) 0 0 (x1.Pulled).length, .vs 1 (Wq Ws x1.Held)]], 0⟩, ⟨34, 5, [.agg [.int .i64 x1.Time, .sl (n + 2) 0 0 (x1.States).length, .sl (n + 3) 0 0 (x1.Since).length, .sl (n + 4) 0 0 (x1.Pulled).length, .vs 1 (Wq Ws x1.Held)]], 0⟩, ⟨3, 1, Wq (Wr .i64) x1.States, 0⟩, ⟨3, 1, Wq (Wr .i64) x1.Since, 0⟩, ⟨4, 1, Wq Ws x1.Pulled, 0⟩, ⟨4, 1, [], 0 + 1⟩]) hn 5 rfl (Ya (fun _ => .bool _)) ⟨Vl rfl, Vl rfl, trivial⟩ ⟨Yr ⟨Vl rfl, Vl rfl, Vl rfl, Vl rfl, Zj rfl rfl rfl (Vx rfl), trivial⟩, Yr ⟨Vl rfl, Vl rfl, Vl rfl, Vl rfl, Zj rfl rfl rfl (Vx rfl), trivial⟩, .refl _, .refl _, .refl _, .refl _, trivial⟩) ?_
   exact Vt hn [(2, 0), (3, 0), (4, 0), (1, 0)] (by decide) ⟨Yj 3 1 rfl rfl, Vr rfl (.int _ _), trivial⟩ ⟨⟨_, rfl, rfl, .same _ _ _ _ (Vh (fun _ => .int _ _))⟩, ⟨_, rfl, rfl, .same _ _ _ _ (Vh (fun _ => .int _ _))⟩, ⟨_, rfl, rfl, .same _ _ _ _ (Vh (fun _ => .bool _))⟩, ⟨_, rfl, rfl, .agg _ _ _ _ _ ⟨Vr rfl (.int _ _), Xq 0 2 rfl rfl, Xq 1 3 rfl rfl, Xq 2 4 rfl rfl, Vr rfl (.vs _ _), trivial⟩⟩, trivial⟩
  ·have hF := Yp c5 hF
   refine Xn ?_
   refine Vi ?_
   refine Vi ?_
   obtain ⟨o6, ho6, hF⟩ := Yt hF
   refine Vw (Q' := (fun o6 => OnlyE .normal (fun E' lw lc => Yb E' lw lc [(0, .vs 2 (Wq T_Belt.enc p0)), (2, .int .i64 p2), (4, .ptr (n + 0) 0 0 0), (6, .ptr (n + 1) 0 0 0), (23, .bool o6.1)] low [⟨34, 5, [.agg [.int .i64 o6.2.Time, .sl (n + 2) 0 0 (o6.2.States).length, .sl (n + 3) 0 0 (o6.2.Since).length, .sl (n + 4) 0 0 (o6.2.Pulled).length, .vs 1 (Wq Ws o6.2.Held)]], 0⟩, ⟨34, 5, [.agg [.int .i64 0, .nils, .nils, .nils, .nils]], 0⟩, ⟨3, 1, Wq (Wr .i64) o6.2.States, 0⟩, ⟨3, 1, Wq (Wr .i64) o6.2.Since, 0⟩, ⟨4, 1, Wq Ws o6.2.Pulled, 0⟩])) o6) ?_ ?_
   ·replace hF := ho6
    refine Vd ?_
    rcases Ww (decide (p2 < x1.Time)) with c7 | c7
    ·have hF := Yo c7 hF
     refine Va (Vk rfl) rfl ?_
     refine Va (Vc rfl tf_34_0 ts_3 (by decide)) rfl ?_
     refine Va (Vg rfl (Ve hn rfl) rfl ta_3 rfl) rfl ?_
     refine Va (Zr rfl rfl) rfl ?_
     refine Va (Vm rfl) rfl ?_
     refine Vb rfl rfl (Zo c7) rfl ?_
     refine Vb rfl rfl (Zo c7) rfl ?_
     refine Va (Vo (congrArg Ws c7) rfl) rfl ?_
     refine Vf ?_
     obtain rfl := Wt hF
     refine Xy ?_
     refine Weak.trans (Xm (E' := [(0, .vs 2 (Wq T_Belt.enc p0)), (2, .int .i64 p2), (4, .ptr (n + 0) 0 0 0), (6, .ptr (n + 1) 0 0 0), (23, .bool true)]) (loc1 := [⟨34, 5, [.agg [.int .i64 x1.Time, .sl (n + 2) 0 0 (x1.States).length, .sl (n + 3) 0 0 (x1.Since).length, .sl (n + 4) 0 0 (x1.Pulled).length, .vs 1 (Wq Ws x1.Held)]], 0⟩, ⟨34, 5, [.agg [.int .i64 0, .nils, .nils, .nils, .nils]], 0⟩, ⟨3, 1, Wq (Wr .i64) x1.States, 0⟩, ⟨3, 1, Wq (Wr .i64) x1.Since, 0⟩, ⟨4, 1, Wq Ws x1.Pulled, 0⟩, ⟨4, 1, [], 0 + 1⟩]) hn 5 rfl (Ya (fun _ => .bool _)) ⟨Vl rfl, Vl rfl, Vl rfl, Vl rfl, Vl rfl, trivial⟩ ⟨Yr ⟨Vl rfl, Vl rfl, Vl rfl, Vl rfl, Zj rfl rfl rfl (Vx rfl), trivial⟩, .refl _, .refl _, .refl _, .refl _, .refl _, trivial⟩) ?_
     exact Vt hn [(0, 0), (1, 0), (2, 0), (3, 0), (4, 0)] (by decide) ⟨Vr rfl (.vs _ _), Vr rfl (.int _ _), Yj 0 0 rfl rfl, Yj 1 1 rfl rfl, Vr rfl (.bool _), trivial⟩ ⟨⟨_, rfl, rfl, .agg _ _ _ _ _ ⟨Vr rfl (.int _ _), Xq 2 2 rfl rfl, Xq 3 3 rfl rfl, Xq 4 4 rfl rfl, Vr rfl (.vs _ _), trivial⟩⟩, ⟨_, rfl, rfl, .same _ _ _ _ (Xt ⟨Xw ⟨.int _ _, .nils, .nils, .nils, .nils, trivial⟩, trivial⟩)⟩, ⟨_, rfl, rfl, .same _ _ _ _ (Vh (fun _ => .int _ _))⟩, ⟨_, rfl, rfl, .same _ _ _ _ (Vh (fun _ => .int _ _))⟩, ⟨_, rfl, rfl, .same _ _ _ _ (Vh (fun _ => .bool _))⟩, trivial⟩
    ·have hF := Yp c7 hF
     refine Va (Vk rfl) rfl ?_
     refine Va (Vc rfl tf_34_0 ts_3 (by decide)) rfl ?_
     refine Va (Vg rfl (Ve hn rfl) rfl ta_3 rfl) rfl ?_
     refine Va (Zr rfl rfl) rfl ?_
     refine Va (Vm rfl) rfl ?_
     refine Xd rfl rfl c7 ?_
     refine Va (Vk rfl) rfl ?_
     refine Xd rfl rfl c7 ?_
     refine Va (rd_gtr rfl rfl) rfl ?_
     refine Va (Vn (congrArg Ws c7) rfl) rfl ?_
     refine Vf ?_
     obtain rfl := Wt hF
     refine Xy ?_
     refine Weak.trans (Xm (E' := [(0, .vs 2 (Wq T_Belt.enc p0)), (2, .int .i64 p2), (4, .ptr (n + 0) 0 0 0), (6, .ptr (n + 1) 0 0 0), (23, .bool (decide (2147483648 < p2)))]) (loc1 := [⟨34, 5, [.agg [.int .i64 x1.Time, .sl (n + 2) 0 0 (x1.States).length, .sl (n + 3) 0 0 (x1.Since).length, .sl (n + 4) 0 0 (x1.Pulled).length, .vs 1 (Wq Ws x1.Held)]], 0⟩, ⟨34, 5, [.agg [.int .i64 0, .nils, .nils, .nils, .nils]], 0⟩, ⟨3, 1, Wq (Wr .i64) x1.States, 0⟩, ⟨3, 1, Wq (Wr .i64) x1.Since, 0⟩, ⟨4, 1, Wq Ws x1.Pulled, 0⟩, ⟨4, 1, [], 0 + 1⟩]) hn 5 rfl (Ya (fun _ => .bool _)) ⟨Vl rfl, Vl rfl, Vl rfl, Vl rfl, Vl rfl, trivial⟩ ⟨Yr ⟨Vl rfl, Vl rfl, Vl rfl, Vl rfl, Zj rfl rfl rfl (Vx rfl), trivial⟩, .refl _, .refl _, .refl _, .refl _, .refl _, trivial⟩) ?_
     exact Vt hn [(0, 0), (1, 0), (2, 0), (3, 0), (4, 0)] (by decide) ⟨Vr rfl (.vs _ _), Vr rfl (.int _ _), Yj 0 0 rfl rfl, Yj 1 1 rfl rfl, Vr rfl (.bool _), trivial⟩ ⟨⟨_, rfl, rfl, .agg _ _ _ _ _ ⟨Vr rfl (.int _ _), Xq 2 2 rfl rfl, Xq 3 3 rfl rfl, Xq 4 4 rfl rfl, Vr rfl (.vs _ _), trivial⟩⟩, ⟨_, rfl, rfl, .same _ _ _ _ (Xt ⟨Xw ⟨.int _ _, .nils, .nils, .nils, .nils, trivial⟩, trivial⟩)⟩, ⟨_, rfl, rfl, .same _ _ _ _ (Vh (fun _ => .int _ _))⟩, ⟨_, rfl, rfl, .same _ _ _ _ (Vh (fun _ => .int _ _))⟩, ⟨_, rfl, rfl, .same _ _ _ _ (Vh (fun _ => .bool _))⟩, trivial⟩
   ·rintro _ _ _ _ ⟨rfl, hw⟩
    refine ⟨_, _, _, hw, ?_⟩
    refine Xh rfl (fun c8 => ?_) (fun c8 => ?_)
    ·have hF := Yo c8 hF
     refine Vi ?_
     refine Vd ?_
     refine Va (Vv (ds := [.int .i64 o6.2.Time, .sl (n + 2) 0 0 (o6.2.States).length, .sl (n + 3) 0 0 (o6.2.Since).length, .sl (n + 4) 0 0 (o6.2.Pulled).length, .vs 1 (Wq Ws o6.2.Held)]) rfl (Ve hn rfl) rfl ta_34 ts_34 rfl rfl rfl) rfl ?_
     refine Vj (Vy (p := .agg [.int .i64 o6.2.Time, .sl (n + 2) 0 0 (o6.2.States).length, .sl (n + 3) 0 0 (o6.2.Since).length, .sl (n + 4) 0 0 (o6.2.Pulled).length, .vs 1 (Wq Ws o6.2.Held)]) (e' := .agg [.int .i64 o6.2.Time, .sl (n + 2) 0 0 (o6.2.States).length, .sl (n + 3) 0 0 (o6.2.Since).length, .sl (n + 4) 0 0 (o6.2.Pulled).length, .vs 1 (Wq Ws o6.2.Held)]) rfl (Ve hn rfl) rfl rfl ts_34 rfl (Ye rfl) rfl (Wu rfl) rfl (Xr hn rfl)) rfl ?_
     refine Va (Xa rfl) rfl ?_
     refine Vf ?_
     refine Xb ?_
     obtain rfl := Wt hF
     refine Wg ?_
     exact Vt hn [(2, 0), (3, 0), (4, 0), (1, 0)] (by decide) ⟨Yj 3 1 rfl rfl, Vr rfl (.int _ _), trivial⟩ ⟨⟨_, rfl, rfl, .same _ _ _ _ (Vh (fun _ => .int _ _))⟩, ⟨_, rfl, rfl, .same _ _ _ _ (Vh (fun _ => .int _ _))⟩, ⟨_, rfl, rfl, .same _ _ _ _ (Vh (fun _ => .bool _))⟩, ⟨_, rfl, rfl, .agg _ _ _ _ _ ⟨Vr rfl (.int _ _), Xq 0 2 rfl rfl, Xq 1 3 rfl rfl, Xq 2 4 rfl rfl, Vr rfl (.vs _ _), trivial⟩⟩, trivial⟩
    ·have hF := Yp c8 hF
     refine Xn ?_
     refine Vi ?_
     refine Vi ?_
     refine Vd ?_
     refine Va (Xa rfl) rfl ?_
     refine Vf ?_
     refine Yh ?_
     obtain ⟨o10, ho10, hF⟩ := Yt hF
     refine Vw (Wb (F_ref39_Wait_L1 p0 p2) (fun s9 E' lw lc => Yb E' lw lc [(0, .vs 2 (Wq T_Belt.enc p0)), (2, .int .i64 p2), (4, .ptr (n + 0) 0 0 0), (6, .ptr (n + 1) 0 0 0), (8, .int .i64 s9.1)] low [⟨34, 5, [.agg [.int .i64 s9.2.Time, .sl (n + 2) 0 0 (s9.2.States).length, .sl (n + 3) 0 0 (s9.2.Since).length, .sl (n + 4) 0 0 (s9.2.Pulled).length, .vs 1 (Wq Ws s9.2.Held)]], 0⟩, ⟨34, 5, [.agg [.int .i64 0, .nils, .nils, .nils, .nils]], 0⟩, ⟨3, 1, Wq (Wr .i64) s9.2.States, 0⟩, ⟨3, 1, Wq (Wr .i64) s9.2.Since, 0⟩, ⟨4, 1, Wq Ws s9.2.Pulled, 0⟩]) (fun o10 => OnlyE (.exit 0) (fun E' lw lc => Yb E' lw lc [(2, .int .i64 p2), (4, .ptr (n + 0) 0 0 0), (6, .ptr (n + 1) 0 0 0)] low [⟨34, 5, [.agg [.int .i64 o10.Time, .sl (n + 2) 0 0 (o10.States).length, .sl (n + 3) 0 0 (o10.Since).length, .sl (n + 4) 0 0 (o10.Pulled).length, .vs 1 (Wq Ws o10.Held)]], 0⟩, ⟨34, 5, [.agg [.int .i64 0, .nils, .nils, .nils, .nils]], 0⟩, ⟨3, 1, Wq (Wr .i64) o10.States, 0⟩, ⟨3, 1, Wq (Wr .i64) o10.Since, 0⟩, ⟨4, 1, Wq Ws o10.Pulled, 0⟩])) ho10 ?_ (by rintro _ _ _ _ ⟨h, _⟩ <;> cases h) ?_) ?_
     ·exact Vp ⟨rfl, rfl, rfl, rfl, rfl, trivial⟩
     ·rintro s9 os9 _ _ _ hF hw
      unfold F_ref39_Wait_L1 at hF
      refine Yd hw ?_
      refine Vi ?_
      refine Vi ?_
      refine Vd ?_
      refine Va (Vk rfl) rfl ?_
      refine Va (Xc rfl) rfl ?_
      refine Va (Xk (Xv rfl rfl te_27) (congrArg (fun n : Nat => Wr .i64 (n : Int)) (Wx _))) rfl ?_
      refine Va (Zr rfl rfl) rfl ?_
      refine Vf ?_
      refine Xh rfl (fun c11 => ?_) (fun c11 => ?_)
      ·have hF := Yo c11 hF
       refine Xn ?_
       refine Vi ?_
       obtain ⟨o12, ho12, hF⟩ := Yt hF
       refine Vw (Q' := (fun o12 => OnlyE .normal (fun E' lw lc => Yb E' lw lc [(0, .vs 2 (Wq T_Belt.enc p0)), (2, .int .i64 p2), (4, .ptr (n + 0) 0 0 0), (6, .ptr (n + 1) 0 0 0), (8, .int .i64 s9.1)] low [⟨34, 5, [.agg [.int .i64 o12.Time, .sl (n + 2) 0 0 (o12.States).length, .sl (n + 3) 0 0 (o12.Since).length, .sl (n + 4) 0 0 (o12.Pulled).length, .vs 1 (Wq Ws o12.Held)]], 0⟩, ⟨34, 5, [.agg [.int .i64 0, .nils, .nils, .nils, .nils]], 0⟩, ⟨3, 1, Wq (Wr .i64) o12.States, 0⟩, ⟨3, 1, Wq (Wr .i64) o12.Since, 0⟩, ⟨4, 1, Wq Ws o12.Pulled, 0⟩])) o12) ?_ ?_
       ·replace hF := ho12
        refine Yh ?_
        refine Vi ?_
        obtain ⟨o13, ho13, hF⟩ := Yt hF
        refine Vw (Q' := (fun o13 => OnlyE .normal (fun E' lw lc => Yb E' lw lc [(0, .vs 2 (Wq T_Belt.enc p0)), (2, .int .i64 p2), (4, .ptr (n + 0) 0 0 0), (6, .ptr (n + 1) 0 0 0), (8, .int .i64 s9.1), (51, .bool o13.1)] low [⟨34, 5, [.agg [.int .i64 o13.2.Time, .sl (n + 2) 0 0 (o13.2.States).length, .sl (n + 3) 0 0 (o13.2.Since).length, .sl (n + 4) 0 0 (o13.2.Pulled).length, .vs 1 (Wq Ws o13.2.Held)]], 0⟩, ⟨34, 5, [.agg [.int .i64 0, .nils, .nils, .nils, .nils]], 0⟩, ⟨3, 1, Wq (Wr .i64) o13.2.States, 0⟩, ⟨3, 1, Wq (Wr .i64) o13.2.Since, 0⟩, ⟨4, 1, Wq Ws o13.2.Pulled, 0⟩])) o13) ?_ ?_
        ·replace hF := ho13
         obtain ⟨x14, h15, hF⟩ := Yt hF
         rcases Ww (decide (x14 = 1)) with c16 | c16
         ·have hF := Yo c16 hF
          obtain ⟨x17, h18, hF⟩ := Yt hF
          obtain ⟨x19, h20, hF⟩ := Yt hF
          refine Zk [[], [0], [], [0, 1, 2], [0, 1, 2, 3], [0, 1, 2, 3, 4], [0, 1, 2, 3, 4, 5], [0, 1, 2, 3, 4, 5, 6], [0, 1, 2, 3, 4, 5, 6, 7], [0, 1, 2, 3, 4, 5, 6], [0, 1, 2, 3, 4, 5, 6, 7, 8, 9], [0, 1, 2, 3, 4, 5, 6, 7, 8, 9, 10], [0, 1, 2, 3, 4, 5, 6], [0, 1, 2, 3, 4, 5, 6], [0, 1, 2, 3, 4, 5, 6, 12, 13], [0, 1, 2, 3, 4, 5, 6, 12, 13, 14], [0, 1, 2, 3, 4, 5, 6, 12, 13, 14, 15], [0, 1, 2, 3, 4, 5, 6, 7, 8, 9, 10, 11, 12, 13, 14, 15, 16], [0, 1, 2, 3, 4, 5, 6], [0, 1, 2, 3, 4, 5, 6, 7, 8, 9, 10, 11, 12, 13, 14, 15, 16, 17, 18], [0, 1, 2, 3, 4, 5, 6, 7, 8, 9, 10, 11, 12, 13, 14, 15, 16, 17, 18, 19]] mixed (by kernel_rfl) rfl ?_
          refine Ym rfl rfl (Vc rfl tf_34_1 ts_22 (by decide)) ?_
          refine Ym rfl rfl (Vg rfl (Ve hn rfl) rfl ta_22 rfl) ?_
          refine Ym rfl rfl (Vk rfl) ?_
          refine Ym rfl rfl (Wa rfl rfl rfl (Ve hn rfl) h15 te_22 ts_3) ?_
          refine Ym rfl rfl (rd_ldL1 rfl (Ve hn rfl) (Zb h15).2 ta_3 rfl) ?_
          refine Ym rfl rfl (Xl rfl rfl) ?_
          refine Ym rfl rfl (Vm rfl) ?_
          refine Zu rfl rfl rfl rfl c16 (Vc rfl tf_34_2 ts_22 (by decide)) ?_
          refine Zu rfl rfl rfl rfl c16 (Vg rfl (Ve hn rfl) rfl ta_22 rfl) ?_
          refine Zu rfl rfl rfl rfl c16 (Vk rfl) ?_
          refine Zu rfl rfl rfl rfl c16 (Wa rfl rfl rfl (Ve hn rfl) h18 te_22 ts_3) ?_
          refine Zu rfl rfl rfl rfl c16 (rd_ldL1 rfl (Ve hn rfl) (Zb h18).2 ta_3 rfl) ?_
          refine Zu rfl rfl rfl rfl c16 (Xc rfl) ?_
          refine Zu rfl rfl rfl rfl c16 (Vk rfl) ?_
          refine Zu rfl rfl rfl rfl c16 (Xk (Yl rfl rfl h20 te_27 ts_31) (v' := .vptr [.int .i64 x19.Onto, .int .i64 x19.Warn] 0) rfl) ?_
          refine Zu rfl rfl rfl rfl c16 (Yf rfl tf_31_1 ts_3 (by decide)) ?_
          refine Zu rfl rfl rfl rfl c16 (Xj rfl ta_3 rfl) ?_
          refine Zu rfl rfl rfl rfl c16 (Wk rfl rfl rfl) ?_
          refine Zu rfl rfl rfl rfl c16 (Vk rfl) ?_
          refine Zu rfl rfl rfl rfl c16 (rd_leq rfl rfl) ?_
          refine Ym rfl rfl (Vo (congrArg Ws c16) rfl) ?_
          refine Yz ?_
          obtain rfl := Wt hF
          refine Xy ?_
          exact Vp ⟨rfl, rfl, rfl, rfl, rfl, rfl, trivial⟩
         ·have hF := Yp c16 hF
          refine Zk [[], [0], [], [0, 1, 2], [0, 1, 2, 3], [0, 1, 2, 3, 4], [0, 1, 2, 3, 4, 5], [0, 1, 2, 3, 4, 5, 6], [0, 1, 2, 3, 4, 5, 6, 7], [0, 1, 2, 3, 4, 5, 6], [0, 1, 2, 3, 4, 5, 6, 7, 8, 9], [0, 1, 2, 3, 4, 5, 6, 7, 8, 9, 10], [0, 1, 2, 3, 4, 5, 6], [0, 1, 2, 3, 4, 5, 6], [0, 1, 2, 3, 4, 5, 6, 12, 13], [0, 1, 2, 3, 4, 5, 6, 12, 13, 14], [0, 1, 2, 3, 4, 5, 6, 12, 13, 14, 15], [0, 1, 2, 3, 4, 5, 6, 7, 8, 9, 10, 11, 12, 13, 14, 15, 16], [0, 1, 2, 3, 4, 5, 6], [0, 1, 2, 3, 4, 5, 6, 7, 8, 9, 10, 11, 12, 13, 14, 15, 16, 17, 18], [0, 1, 2, 3, 4, 5, 6, 7, 8, 9, 10, 11, 12, 13, 14, 15, 16, 17, 18, 19]] mixed (by kernel_rfl) rfl ?_
          refine Ym rfl rfl (Vc rfl tf_34_1 ts_22 (by decide)) ?_
          refine Ym rfl rfl (Vg rfl (Ve hn rfl) rfl ta_22 rfl) ?_
          refine Ym rfl rfl (Vk rfl) ?_
          refine Ym rfl rfl (Wa rfl rfl rfl (Ve hn rfl) h15 te_22 ts_3) ?_
          refine Ym rfl rfl (rd_ldL1 rfl (Ve hn rfl) (Zb h15).2 ta_3 rfl) ?_
          refine Ym rfl rfl (Xl rfl rfl) ?_
          refine Ym rfl rfl (Vm rfl) ?_
          refine Vq rfl rfl rfl (Zz c16) ?_
          refine Vq rfl rfl rfl (Zz c16) ?_
          refine Vq rfl rfl rfl (Zz c16) ?_
          refine Vq rfl rfl rfl (Zz c16) ?_
          refine Vq rfl rfl rfl (Zz c16) ?_
          refine Vq rfl rfl rfl (Zz c16) ?_
          refine Vq rfl rfl rfl (Zz c16) ?_
          refine Vq rfl rfl rfl (Zz c16) ?_
          refine Vq rfl rfl rfl (Zz c16) ?_
          refine Vq rfl rfl rfl (Zz c16) ?_
          refine Vq rfl rfl rfl (Zz c16) ?_
          refine Vq rfl rfl rfl (Zz c16) ?_
          refine Vq rfl rfl rfl (Zz c16) ?_
          refine Ym rfl rfl (Vn (congrArg Ws c16) rfl) ?_
          refine Yz ?_
          obtain rfl := Wt hF
          refine Xy ?_
          exact Vp ⟨rfl, rfl, rfl, rfl, rfl, rfl, trivial⟩
        ·rintro _ _ _ _ ⟨rfl, hw⟩
         refine ⟨_, _, _, hw, ?_⟩
         refine Xh rfl (fun c21 => ?_) (fun c21 => ?_)
         ·have hF := Yo c21 hF
          obtain ⟨x22, h23, hF⟩ := Yt hF
          obtain ⟨x24, h25, hF⟩ := Yt hF
          obtain ⟨x26, h27, hF⟩ := Yt hF
          obtain ⟨x28, h29, hF⟩ := Yt hF
          refine Wc [[], [0], [], [], [3], [], [], [6], [], [6, 7, 8], [6, 7, 8, 9], [], [], [11, 12], [11, 12, 13], [11, 12, 13, 14], [6, 7, 8, 9, 10, 11, 12, 13, 14, 15], [0, 1, 2, 6, 7, 8, 9, 10, 11, 12, 13, 14, 15], [0, 1, 2, 6, 7, 8, 9, 10, 11, 12, 13, 14, 15, 17], [0, 1, 2, 3, 4, 5, 6, 7, 8, 9, 10, 11, 12, 13, 14, 15, 16, 17, 18], [0, 1, 2, 3, 4, 5, 6, 7, 8, 9, 10, 11, 12, 13, 14, 15, 16, 17, 18, 19]] [false, false, false, false, false, false, false, false, false, false, false, false, false, false, false, false, false, false, true, false, true] [(low, [⟨34, 5, [.agg [.int .i64 o13.2.Time, .sl (n + 2) 0 0 (o13.2.States).length, .sl (n + 3) 0 0 (o13.2.Since).length, .sl (n + 4) 0 0 (o13.2.Pulled).length, .vs 1 (Wq Ws o13.2.Held)]], 0⟩, ⟨34, 5, [.agg [.int .i64 0, .nils, .nils, .nils, .nils]], 0⟩, ⟨3, 1, Wq (Wr .i64) o13.2.States, 0⟩, ⟨3, 1, Wq (Wr .i64) o13.2.Since, 0⟩, ⟨4, 1, Wq Ws o13.2.Pulled, 0⟩]), (low, [⟨34, 5, [.agg [.int .i64 o13.2.Time, .sl (n + 2) 0 0 (o13.2.States).length, .sl (n + 3) 0 0 (o13.2.Since).length, .sl (n + 4) 0 0 (o13.2.Pulled).length, .vs 1 (Wq Ws o13.2.Held)]], 0⟩, ⟨34, 5, [.agg [.int .i64 0, .nils, .nils, .nils, .nils]], 0⟩, ⟨3, 1, Wq (Wr .i64) (o13.2.States.set ((s9.1).toNat) 2), 0⟩, ⟨3, 1, Wq (Wr .i64) o13.2.Since, 0⟩, ⟨4, 1, Wq Ws o13.2.Pulled, 0⟩]), (low, [⟨34, 5, [.agg [.int .i64 o13.2.Time, .sl (n + 2) 0 0 (o13.2.States).length, .sl (n + 3) 0 0 (o13.2.Since).length, .sl (n + 4) 0 0 (o13.2.Pulled).length, .vs 1 (Wq Ws o13.2.Held)]], 0⟩, ⟨34, 5, [.agg [.int .i64 0, .nils, .nils, .nils, .nils]], 0⟩, ⟨3, 1, Wq (Wr .i64) (o13.2.States.set ((s9.1).toNat) 2), 0⟩, ⟨3, 1, Wq (Wr .i64) (o13.2.Since.set ((s9.1).toNat) (IntKind.i64.wrap (x22 + x24.Warn))), 0⟩, ⟨4, 1, Wq Ws o13.2.Pulled, 0⟩])] mixed (by kernel_rfl) rfl (lenAll (Xx rfl (Xx rfl (Xx rfl Zn)))) rfl _ rfl rfl ?_
          refine Ym rfl rfl (Vc rfl tf_34_1 ts_22 (by decide)) ?_
          refine Ym rfl rfl (Vg rfl (Ve hn rfl) rfl ta_22 rfl) ?_
          refine Ym rfl rfl (Vk rfl) ?_
          refine Yi _ rfl rfl (Xx (VRd.ntl (Vc rfl tf_34_2 ts_22 (by decide))) (Xx (VRd.ntl (Vc rfl tf_34_2 ts_22 (by decide))) Zn)) ?_
          refine Yi _ rfl rfl (Xx (VRd.ntl (Vg rfl (Ve hn rfl) rfl ta_22 rfl)) (Xx (VRd.ntl (Vg rfl (Ve hn rfl) rfl ta_22 rfl)) Zn)) ?_
          refine Yi _ rfl rfl (Xx (VRd.ntl (Vk rfl)) (Xx (VRd.ntl (Vk rfl)) Zn)) ?_
          refine Ym rfl rfl (Vc rfl tf_34_2 ts_22 (by decide)) ?_
          refine Ym rfl rfl (Vg rfl (Ve hn rfl) rfl ta_22 rfl) ?_
          refine Ym rfl rfl (Vk rfl) ?_
          refine Ym rfl rfl (Wa rfl rfl rfl (Ve hn rfl) h23 te_22 ts_3) ?_
          refine Ym rfl rfl (rd_ldL1 rfl (Ve hn rfl) (Zb h23).2 ta_3 rfl) ?_
          refine Ym rfl rfl (Xc rfl) ?_
          refine Ym rfl rfl (Vk rfl) ?_
          refine Ym rfl rfl (Xk (Yl rfl rfl h25 te_27 ts_31) (v' := .vptr [.int .i64 x24.Onto, .int .i64 x24.Warn] 0) rfl) ?_
          refine Ym rfl rfl (Yf rfl tf_31_1 ts_3 (by decide)) ?_
          refine Ym rfl rfl (Xj rfl ta_3 rfl) ?_
          refine Yi _ rfl rfl (Xx (VRd.ntl (Wk rfl rfl rfl)) (Xx (VRd.ntl (Wk rfl rfl rfl)) Zn)) ?_
          refine Ym rfl rfl (Wa rfl rfl rfl (Ve hn rfl) h27 te_22 ts_3) ?_
          refine Zh rfl rfl rfl (Wl (p := .int .i64 2) (e' := 2) rfl (Ve hn rfl) (Zb h27).2 rfl ts_3 rfl (Ye rfl) (Wu rfl) rfl (Xr hn rfl)) ?_
          refine Ym rfl rfl (Wa rfl rfl rfl (Ve hn rfl) h29 te_22 ts_3) ?_
          refine Zh rfl rfl rfl (Wl (p := .int .i64 (IntKind.i64.wrap (x22 + x24.Warn))) (e' := (IntKind.i64.wrap (x22 + x24.Warn))) rfl (Ve hn rfl) (Zb h29).2 rfl ts_3 rfl (Ye rfl) (Wu rfl) rfl (Xr hn rfl)) ?_
          refine Yz ?_
          obtain rfl := Wt hF
          refine Xy ?_
          exact Vt hn [(0, 0), (1, 0), (2, 0), (3, 0), (4, 0)] (by decide) ⟨Vr rfl (.vs _ _), Vr rfl (.int _ _), Yj 0 0 rfl rfl, Yj 1 1 rfl rfl, Vr rfl (.int _ _), trivial⟩ ⟨⟨_, rfl, rfl, .agg _ _ _ _ _ ⟨Vr rfl (.int _ _), Xq 2 2 rfl (congrArg (PV.sl _ _ 0) (Eq.trans rfl List.length_set.symm)), Xq 3 3 rfl (congrArg (PV.sl _ _ 0) (Eq.trans rfl List.length_set.symm)), Xq 4 4 rfl rfl, Vr rfl (.vs _ _), trivial⟩⟩, ⟨_, rfl, rfl, .same _ _ _ _ (Xt ⟨Xw ⟨.int _ _, .nils, .nils, .nils, .nils, trivial⟩, trivial⟩)⟩, ⟨_, rfl, rfl, .same _ _ _ _ (Vh (fun _ => .int _ _))⟩, ⟨_, rfl, rfl, .same _ _ _ _ (Vh (fun _ => .int _ _))⟩, ⟨_, rfl, rfl, .same _ _ _ _ (Vh (fun _ => .bool _))⟩, trivial⟩
         ·have hF := Yp c21 hF
          refine Xn ?_
          obtain rfl := Wt hF
          refine Xy ?_
          exact Vp ⟨rfl, rfl, rfl, rfl, rfl, trivial⟩
       ·rintro _ _ _ _ ⟨rfl, hw⟩
        refine ⟨_, _, _, hw, ?_⟩
        refine Vd ?_
        refine Va (Vk rfl) rfl ?_
        refine Va (Wk rfl rfl rfl) rfl ?_
        refine Va (Xa rfl) rfl ?_
        refine Vf ?_
        obtain rfl := Wt hF
        refine Xy ?_
        exact Vp ⟨rfl, rfl, rfl, rfl, rfl, trivial⟩
      ·have hF := Yp c11 hF
       refine Wi ?_
       obtain rfl := Wt hF
       refine Xy ?_
       exact Vp ⟨rfl, rfl, rfl, trivial⟩
     ·rintro _ _ _ _ ⟨rfl, hw⟩
      refine ⟨_, _, _, hw, ?_⟩
      refine Vi ?_
      refine Vd ?_
      refine Va (Vk rfl) rfl ?_
      refine Va (Vc rfl tf_34_0 ts_3 (by decide)) rfl ?_
      refine Vj (Vy (p := .int .i64 p2) (e' := .agg [.int .i64 p2, .sl (n + 2) 0 0 (o10.States).length, .sl (n + 3) 0 0 (o10.Since).length, .sl (n + 4) 0 0 (o10.Pulled).length, .vs 1 (Wq Ws o10.Held)]) rfl (Ve hn rfl) rfl rfl ts_3 rfl (Ye rfl) rfl (Wu rfl) rfl (Xr hn rfl)) rfl ?_
      refine Vf ?_
      refine Vi ?_
      refine Vd ?_
      refine Va (Vv (ds := [.int .i64 p2, .sl (n + 2) 0 0 (o10.States).length, .sl (n + 3) 0 0 (o10.Since).length, .sl (n + 4) 0 0 (o10.Pulled).length, .vs 1 (Wq Ws o10.Held)]) rfl (Ve hn rfl) rfl ta_34 ts_34 rfl rfl rfl) rfl ?_
      refine Vj (Vy (p := .agg [.int .i64 p2, .sl (n + 2) 0 0 (o10.States).length, .sl (n + 3) 0 0 (o10.Since).length, .sl (n + 4) 0 0 (o10.Pulled).length, .vs 1 (Wq Ws o10.Held)]) (e' := .agg [.int .i64 p2, .sl (n + 2) 0 0 (o10.States).length, .sl (n + 3) 0 0 (o10.Since).length, .sl (n + 4) 0 0 (o10.Pulled).length, .vs 1 (Wq Ws o10.Held)]) rfl (Ve hn rfl) rfl rfl ts_34 rfl (Ye rfl) rfl (Wu rfl) rfl (Xr hn rfl)) rfl ?_
      refine Va (Xa rfl) rfl ?_
      refine Vf ?_
      refine Xb ?_
      obtain rfl := Wt hF
      refine Wg ?_
      exact Vt hn [(2, 0), (3, 0), (4, 0), (1, 0)] (by decide) ⟨Yj 3 1 rfl rfl, Vr rfl (.int _ _), trivial⟩ ⟨⟨_, rfl, rfl, .same _ _ _ _ (Vh (fun _ => .int _ _))⟩, ⟨_, rfl, rfl, .same _ _ _ _ (Vh (fun _ => .int _ _))⟩, ⟨_, rfl, rfl, .same _ _ _ _ (Vh (fun _ => .bool _))⟩, ⟨_, rfl, rfl, .agg _ _ _ _ _ ⟨Vr rfl (.int _ _), Xq 0 2 rfl rfl, Xq 1 3 rfl rfl, Xq 2 4 rfl rfl, Vr rfl (.vs _ _), trivial⟩⟩, trivial⟩
 ·rintro _ _ _ _ ⟨he, hw⟩
  refine ⟨_, _, _, hw, ?_⟩
  exact Zm hn 3 rfl (Wu rfl) he [.agg [.int .i64 r.1.Time, .sl (n + 0) 0 0 (r.1.States).length, .sl (n + 1) 0 0 (r.1.Since).length, .sl (n + 2) 0 0 (r.1.Pulled).length, .vs 1 (Wq Ws r.1.Held)], .int .i64 r.2] ⟨Vv rfl (Ve hn rfl) rfl ta_34 ts_34 rfl rfl rfl, rfl, trivial⟩ ((lt_tup ⟨(Xw ⟨.int _ _, .sl _ _ _ _ (Zw rfl), .sl _ _ _ _ (Zw rfl), .sl _ _ _ _ (Zw rfl), .vs _ _, trivial⟩), .int _ _, trivial⟩)) ⟨Vh (fun _ => .int _ _), Vh (fun _ => .int _ _), Vh (fun _ => .bool _), trivial⟩ ⟨rfl, rfl⟩

theorem F_belts_Stop_1_ok0 {p0 : T_Line} {p1 : List T_Belt} {p2 : Int} {r : T_Line} (hF : F_belts_Stop_1 p0 p1 p2 = some r) {low0 : List AObj} {q0 q1 q2 q3 q4 q5 q6 w0 w1 w2 w3 w4 w5 w6 : Nat} (hB : Bor low0 [q0, q1, q2, q3, q4, q5, q6]) {m1 : Nat} (hm1 : m1 = (p0.States).length) {m2 : Nat} (hm2 : m2 = (p0.Since).length) {m3 : Nat} (hm3 : m3 = (p0.Pulled).length) {m4 : Nat} (hm4 : m4 = (p0.Held).length) {n : Nat} (hn : low0.length = n) :
    Ys Try.prog 51 [.ptr q0 w0 0 0, .ptr q5 w5 0 0, .ptr q6 w6 0 0] (setL low0 [(q0, ⟨34, 5, [.agg [.int .i64 p0.Time, .sl q1 w1 0 m1, .sl q2 w2 0 m2, .sl q3 w3 0 m3, .sl q4 w4 0 m4]], w0⟩), (q1, ⟨3, 1, Wq (Wr .i64) p0.States, w1⟩), (q2, ⟨3, 1, Wq (Wr .i64) p0.Since, w2⟩), (q3, ⟨4, 1, Wq Ws p0.Pulled, w3⟩), (q4, ⟨4, 1, Wq Ws p0.Held, w4⟩), (q5, ⟨27, 1, [.vs 2 (Wq T_Belt.enc p1)], w5⟩), (q6, ⟨3, 1, [.int .i64 p2], w6⟩)]) fun x low' => x = .tup [] ∧ low' = setL low0 [(q0, ⟨34, 5, [.agg [.int .i64 r.Time, .sl q1 w1 0 m1, .sl q2 w2 0 m2, .sl q3 w3 0 m3, .sl q4 w4 0 m4]], w0⟩), (q1, ⟨3, 1, Wq (Wr .i64) r.States, w1⟩), (q2, ⟨3, 1, Wq (Wr .i64) r.Since, w2⟩), (q3, ⟨4, 1, Wq Ws r.Pulled, w3⟩), (q4, ⟨4, 1, Wq Ws r.Held, w4⟩), (q5, ⟨27, 1, [.vs 2 (Wq T_Belt.enc p1)], w5⟩), (q6, ⟨3, 1, [.int .i64 p2], w6⟩)] ++ [] := by
 refine Vz (nt := 8) (rs := []) Try.func51 rfl rfl (Wu rfl) rfl ?_
 have hq0 : q0 < n := hB.ltN hn 0 rfl
 have hq1 : q1 < n := hB.ltN hn 1 rfl
 have hq2 : q2 < n := hB.ltN hn 2 rfl
 have hq3 : q3 < n := hB.ltN hn 3 rfl
 have hq4 : q4 < n := hB.ltN hn 4 rfl
 have hq5 : q5 < n := hB.ltN hn 5 rfl
 have hq6 : q6 < n := hB.ltN hn 6 rfl
 refine Vw (Q' := FnE (fun E' lw lc => m1 = (r.States).length ∧ m2 = (r.Since).length ∧ m3 = (r.Pulled).length ∧ m4 = (r.Held).length ∧ Yb E' lw lc [] (setL low0 [(q0, ⟨34, 5, [.agg [.int .i64 r.Time, .sl q1 w1 0 m1, .sl q2 w2 0 m2, .sl q3 w3 0 m3, .sl q4 w4 0 m4]], w0⟩), (q1, ⟨3, 1, Wq (Wr .i64) r.States, w1⟩), (q2, ⟨3, 1, Wq (Wr .i64) r.Since, w2⟩), (q3, ⟨4, 1, Wq Ws r.Pulled, w3⟩), (q4, ⟨4, 1, Wq Ws r.Held, w4⟩), (q5, ⟨27, 1, [.vs 2 (Wq T_Belt.enc p1)], w5⟩), (q6, ⟨3, 1, [.int .i64 p2], w6⟩)]) [])) ?_ ?_
 ·unfold F_belts_Stop_1 at hF
  refine Vd ?_
  obtain ⟨x5, h6, hF⟩ := Yt hF
  refine Va (Vg rfl (Yw hB rfl 5 rfl) rfl ta_27 rfl) rfl ?_
  refine Va (Zq rfl) rfl ?_
  refine Va (Vg rfl (Yw hB rfl 6 rfl) rfl ta_3 rfl) rfl ?_
  refine Vj (Zg (ps := [(q0, ⟨34, 5, [.agg [.int .i64 x5.Time, .sl q1 w1 0 m1, .sl q2 w2 0 m2, .sl q3 w3 0 m3, .sl q4 w4 0 m4]], w0⟩), (q1, ⟨3, 1, Wq (Wr .i64) x5.States, w1⟩), (q2, ⟨3, 1, Wq (Wr .i64) x5.Since, w2⟩), (q3, ⟨4, 1, Wq Ws x5.Pulled, w3⟩), (q4, ⟨4, 1, Wq Ws x5.Held, w4⟩)]) (r := .tup []) (os := []) (low1 := (setL low0 [(q0, ⟨34, 5, [.agg [.int .i64 x5.Time, .sl q1 w1 0 m1, .sl q2 w2 0 m2, .sl q3 w3 0 m3, .sl q4 w4 0 m4]], w0⟩), (q1, ⟨3, 1, Wq (Wr .i64) x5.States, w1⟩), (q2, ⟨3, 1, Wq (Wr .i64) x5.Since, w2⟩), (q3, ⟨4, 1, Wq Ws x5.Pulled, w3⟩), (q4, ⟨4, 1, Wq Ws x5.Held, w4⟩), (q5, ⟨27, 1, [.vs 2 (Wq T_Belt.enc p1)], w5⟩), (q6, ⟨3, 1, [.int .i64 p2], w6⟩)])) (loc1 := []) (loc2 := []) rfl Try.call36 (F_belts_stop_ok h6 (nd1 (Zs (hB.ne 0 1 rfl rfl rfl) (Zs (hB.ne 0 2 rfl rfl rfl) (Zs (hB.ne 0 3 rfl rfl rfl) (Zs (hB.ne 0 4 rfl rfl rfl) na0)))) (nd1 (Zs (hB.ne 1 2 rfl rfl rfl) (Zs (hB.ne 1 3 rfl rfl rfl) (Zs (hB.ne 1 4 rfl rfl rfl) na0))) (nd1 (Zs (hB.ne 2 3 rfl rfl rfl) (Zs (hB.ne 2 4 rfl rfl rfl) na0)) (nd1 (Zs (hB.ne 3 4 rfl rfl rfl) na0) (nd1 na0 nd0))))) hm1 hm2 hm3 hm4 (Wp hB rfl 0 rfl) (Wp hB rfl 1 rfl) (Wp hB rfl 2 rfl) (Wp hB rfl 3 rfl) (Wp hB rfl 4 rfl) (Xi (Vs hn) rfl)) (Wd (ps0' := [(q0, ⟨34, 5, [.agg [.int .i64 x5.Time, .sl q1 w1 0 m1, .sl q2 w2 0 m2, .sl q3 w3 0 m3, .sl q4 w4 0 m4]], w0⟩), (q1, ⟨3, 1, Wq (Wr .i64) p0.States, w1⟩), (q2, ⟨3, 1, Wq (Wr .i64) p0.Since, w2⟩), (q3, ⟨4, 1, Wq Ws p0.Pulled, w3⟩), (q4, ⟨4, 1, Wq Ws p0.Held, w4⟩), (q5, ⟨27, 1, [.vs 2 (Wq T_Belt.enc p1)], w5⟩), (q6, ⟨3, 1, [.int .i64 p2], w6⟩)]) hB rfl 0 rfl (ltObjN hn ⟨Xw ⟨.int _ _, .sl _ _ _ _ hq1, .sl _ _ _ _ hq2, .sl _ _ _ _ hq3, .sl _ _ _ _ hq4, trivial⟩, trivial⟩) rfl (Wd (ps0' := [(q0, ⟨34, 5, [.agg [.int .i64 x5.Time, .sl q1 w1 0 m1, .sl q2 w2 0 m2, .sl q3 w3 0 m3, .sl q4 w4 0 m4]], w0⟩), (q1, ⟨3, 1, Wq (Wr .i64) x5.States, w1⟩), (q2, ⟨3, 1, Wq (Wr .i64) p0.Since, w2⟩), (q3, ⟨4, 1, Wq Ws p0.Pulled, w3⟩), (q4, ⟨4, 1, Wq Ws p0.Held, w4⟩), (q5, ⟨27, 1, [.vs 2 (Wq T_Belt.enc p1)], w5⟩), (q6, ⟨3, 1, [.int .i64 p2], w6⟩)]) hB rfl 1 rfl (Vh (fun _ => .int _ _)) rfl (Wd (ps0' := [(q0, ⟨34, 5, [.agg [.int .i64 x5.Time, .sl q1 w1 0 m1, .sl q2 w2 0 m2, .sl q3 w3 0 m3, .sl q4 w4 0 m4]], w0⟩), (q1, ⟨3, 1, Wq (Wr .i64) x5.States, w1⟩), (q2, ⟨3, 1, Wq (Wr .i64) x5.Since, w2⟩), (q3, ⟨4, 1, Wq Ws p0.Pulled, w3⟩), (q4, ⟨4, 1, Wq Ws p0.Held, w4⟩), (q5, ⟨27, 1, [.vs 2 (Wq T_Belt.enc p1)], w5⟩), (q6, ⟨3, 1, [.int .i64 p2], w6⟩)]) hB rfl 2 rfl (Vh (fun _ => .int _ _)) rfl (Wd (ps0' := [(q0, ⟨34, 5, [.agg [.int .i64 x5.Time, .sl q1 w1 0 m1, .sl q2 w2 0 m2, .sl q3 w3 0 m3, .sl q4 w4 0 m4]], w0⟩), (q1, ⟨3, 1, Wq (Wr .i64) x5.States, w1⟩), (q2, ⟨3, 1, Wq (Wr .i64) x5.Since, w2⟩), (q3, ⟨4, 1, Wq Ws x5.Pulled, w3⟩), (q4, ⟨4, 1, Wq Ws p0.Held, w4⟩), (q5, ⟨27, 1, [.vs 2 (Wq T_Belt.enc p1)], w5⟩), (q6, ⟨3, 1, [.int .i64 p2], w6⟩)]) hB rfl 3 rfl (Vh (fun _ => .bool _)) rfl (Wd (ps0' := [(q0, ⟨34, 5, [.agg [.int .i64 x5.Time, .sl q1 w1 0 m1, .sl q2 w2 0 m2, .sl q3 w3 0 m3, .sl q4 w4 0 m4]], w0⟩), (q1, ⟨3, 1, Wq (Wr .i64) x5.States, w1⟩), (q2, ⟨3, 1, Wq (Wr .i64) x5.Since, w2⟩), (q3, ⟨4, 1, Wq Ws x5.Pulled, w3⟩), (q4, ⟨4, 1, Wq Ws x5.Held, w4⟩), (q5, ⟨27, 1, [.vs 2 (Wq T_Belt.enc p1)], w5⟩), (q6, ⟨3, 1, [.int .i64 p2], w6⟩)]) hB rfl 4 rfl (Vh (fun _ => .bool _)) rfl Zl))))) rfl) rfl ?_
  refine Vf ?_
  obtain rfl := Wt hF
  refine And.intro (.inl rfl) (And.intro ((F_belts_stop_len h6 hm1 hm2 hm3 hm4).1) (And.intro ((F_belts_stop_len h6 hm1 hm2 hm3 hm4).2.1) (And.intro ((F_belts_stop_len h6 hm1 hm2 hm3 hm4).2.2.1) (And.intro ((F_belts_stop_len h6 hm1 hm2 hm3 hm4).2.2.2.1) ?_))))
  exact Vp trivial
 ·rintro _ _ _ _ ⟨he, hl1, hl2, hl3, hl4, hw⟩
  refine ⟨_, _, _, hw, ?_⟩
  exact Zd he [] trivial ((lt_tup trivial)) ⟨rfl, (List.append_nil _).symm⟩

theorem F_belts_Stop_1_len {p0 : T_Line} {p1 : List T_Belt} {p2 : Int} {r : T_Line} (hF : F_belts_Stop_1 p0 p1 p2 = some r) {m1 : Nat} (hm1 : m1 = (p0.States).length) {m2 : Nat} (hm2 : m2 = (p0.Since).length) {m3 : Nat} (hm3 : m3 = (p0.Pulled).length) {m4 : Nat} (hm4 : m4 = (p0.Held).length) : m1 = (r.States).length ∧ m2 = (r.Since).length ∧ m3 = (r.Pulled).length ∧ m4 = (r.Held).length ∧ True := by
  have h : LP (F_belts_Stop_1 p0 p1 p2) (fun r => m1 = (r.States).length ∧ m2 = (r.Since).length ∧ m3 = (r.Pulled).length ∧ m4 = (r.Held).length ∧ True) := by
    unfold F_belts_Stop_1
    exact (Wn fun x5 h6 => Wm ⟨(F_belts_stop_len h6 hm1 hm2 hm3 hm4).1, (F_belts_stop_len h6 hm1 hm2 hm3 hm4).2.1, (F_belts_stop_len h6 hm1 hm2 hm3 hm4).2.2.1, (F_belts_stop_len h6 hm1 hm2 hm3 hm4).2.2.2.1, trivial⟩)
  exact h r hF

theorem F_belts_Stop_1_ok {p0 : T_Line} {p1 : List T_Belt} {p2 : Int} {r : T_Line} (hF : F_belts_Stop_1 p0 p1 p2 = some r) {low : List AObj} {q0 q1 q2 q3 q4 q5 q6 w0 w1 w2 w3 w4 w5 w6 : Nat} (hnd : [q0, q1, q2, q3, q4, q5, q6].Nodup) {m1 : Nat} (hm1 : m1 = (p0.States).length) {m2 : Nat} (hm2 : m2 = (p0.Since).length) {m3 : Nat} (hm3 : m3 = (p0.Pulled).length) {m4 : Nat} (hm4 : m4 = (p0.Held).length) (hq0 : low[q0]? = some ⟨34, 5, [.agg [.int .i64 p0.Time, .sl q1 w1 0 m1, .sl q2 w2 0 m2, .sl q3 w3 0 m3, .sl q4 w4 0 m4]], w0⟩) (hq1 : low[q1]? = some ⟨3, 1, Wq (Wr .i64) p0.States, w1⟩) (hq2 : low[q2]? = some ⟨3, 1, Wq (Wr .i64) p0.Since, w2⟩) (hq3 : low[q3]? = some ⟨4, 1, Wq Ws p0.Pulled, w3⟩) (hq4 : low[q4]? = some ⟨4, 1, Wq Ws p0.Held, w4⟩) (hq5 : low[q5]? = some ⟨27, 1, [.vs 2 (Wq T_Belt.enc p1)], w5⟩) (hq6 : low[q6]? = some ⟨3, 1, [.int .i64 p2], w6⟩) {n : Nat} (hn : low.length = n) :
    Ys Try.prog 51 [.ptr q0 w0 0 0, .ptr q5 w5 0 0, .ptr q6 w6 0 0] low fun x low' => x = .tup [] ∧ low' = setL low [(q0, ⟨34, 5, [.agg [.int .i64 r.Time, .sl q1 w1 0 m1, .sl q2 w2 0 m2, .sl q3 w3 0 m3, .sl q4 w4 0 m4]], w0⟩), (q1, ⟨3, 1, Wq (Wr .i64) r.States, w1⟩), (q2, ⟨3, 1, Wq (Wr .i64) r.Since, w2⟩), (q3, ⟨4, 1, Wq Ws r.Pulled, w3⟩), (q4, ⟨4, 1, Wq Ws r.Held, w4⟩), (q5, ⟨27, 1, [.vs 2 (Wq T_Belt.enc p1)], w5⟩), (q6, ⟨3, 1, [.int .i64 p2], w6⟩)] ++ [] := by
  obtain ⟨h1, h2⟩ := We (ps := [(q0, ⟨34, 5, [.agg [.int .i64 p0.Time, .sl q1 w1 0 m1, .sl q2 w2 0 m2, .sl q3 w3 0 m3, .sl q4 w4 0 m4]], w0⟩), (q1, ⟨3, 1, Wq (Wr .i64) p0.States, w1⟩), (q2, ⟨3, 1, Wq (Wr .i64) p0.Since, w2⟩), (q3, ⟨4, 1, Wq Ws p0.Pulled, w3⟩), (q4, ⟨4, 1, Wq Ws p0.Held, w4⟩), (q5, ⟨27, 1, [.vs 2 (Wq T_Belt.enc p1)], w5⟩), (q6, ⟨3, 1, [.int .i64 p2], w6⟩)]) hnd (Wf hq0 (Wf hq1 (Wf hq2 (Wf hq3 (Wf hq4 (Wf hq5 (Wf hq6 bor0)))))))
  exact Zx h1 (F_belts_Stop_1_ok0 hF h2 hm1 hm2 hm3 hm4 hn)

theorem F_belts_done__belts_Stop_1_ok0 {p0 : T_Line} {pc10 : List T_Belt} {pc11 : Int} {r : T_Line} (hF : F_belts_done__belts_Stop_1 p0 pc10 pc11 = some r) {low0 : List AObj} {q0 q1 w0 w1 : Nat} (hB : Bor low0 [q0, q1]) {n : Nat} (hn : low0.length = n) :
    Ys Try.prog 31 [.agg [.int .i64 p0.Time, .vs 1 (Wq (Wr .i64) p0.States), .vs 1 (Wq (Wr .i64) p0.Since), .vs 1 (Wq Ws p0.Pulled), .vs 1 (Wq Ws p0.Held)], .fn 51 [] [.ptr q0 w0 0 0, .ptr q1 w1 0 0]] (setL low0 [(q0, ⟨27, 1, [.vs 2 (Wq T_Belt.enc pc10)], w0⟩), (q1, ⟨3, 1, [.int .i64 pc11], w1⟩)]) fun x low' => x = .agg [.int .i64 r.Time, .sl (n + 0) 0 0 (r.States).length, .sl (n + 1) 0 0 (r.Since).length, .sl (n + 2) 0 0 (r.Pulled).length, .vs 1 (Wq Ws r.Held)] ∧ low' = setL low0 [(q0, ⟨27, 1, [.vs 2 (Wq T_Belt.enc pc10)], w0⟩), (q1, ⟨3, 1, [.int .i64 pc11], w1⟩)] ++ [⟨3, 1, Wq (Wr .i64) r.States, 0⟩, ⟨3, 1, Wq (Wr .i64) r.Since, 0⟩, ⟨4, 1, Wq Ws r.Pulled, 0⟩] := by
 refine Vz (nt := 24) (rs := [.cell 4 34]) Try.func31 rfl rfl (Wu rfl) rfl ?_
 have hq0 : q0 < n := hB.ltN hn 0 rfl
 have hq1 : q1 < n := hB.ltN hn 1 rfl
 refine Vw (Q' := FnE (fun E' lw lc => Yb E' lw lc [(4, .ptr (n + 3) 0 0 0)] (setL low0 [(q0, ⟨27, 1, [.vs 2 (Wq T_Belt.enc pc10)], w0⟩), (q1, ⟨3, 1, [.int .i64 pc11], w1⟩)]) [⟨3, 1, Wq (Wr .i64) r.States, 0⟩, ⟨3, 1, Wq (Wr .i64) r.Since, 0⟩, ⟨4, 1, Wq Ws r.Pulled, 0⟩, ⟨34, 5, [.agg [.int .i64 r.Time, .sl (n + 0) 0 0 (r.States).length, .sl (n + 1) 0 0 (r.Since).length, .sl (n + 2) 0 0 (r.Pulled).length, .vs 1 (Wq Ws r.Held)]], 0⟩])) ?_ ?_
 ·unfold F_belts_done__belts_Stop_1 at hF
  refine Vi ?_
  refine Vd ?_
  refine Vj (Zc (Vs hn) rfl (v := .agg [.int .i64 p0.Time, .vs 1 (Wq (Wr .i64) p0.States), .vs 1 (Wq (Wr .i64) p0.Since), .vs 1 (Wq Ws p0.Pulled), .vs 1 (Wq Ws p0.Held)]) rfl rfl (Wv _) rfl rfl) rfl ?_
  refine Vj (Xe (Vs hn) rfl tz_34 rfl rfl (Wv _) rfl) rfl ?_
  refine Vf ?_
  refine Vi ?_
  obtain ⟨x1, h2, hF⟩ := Yt hF
  obtain ⟨x3, h4, hF⟩ := Yt hF
  obtain ⟨x5, h6, hF⟩ := Yt hF
  obtain ⟨x7, h8, hF⟩ := Yt hF
  refine Yd (Yy 3 1 (Wv _)) ?_
  refine Yd (Yy 3 1 (Wv _)) ?_
  refine Yd (Yy 4 1 (Wv _)) ?_
  refine Yd (Yy 4 1 (Wv _)) ?_
  refine Yd (Yy 34 5 (Wv _)) ?_
  refine vwp_drawnX [[], [0], [], [2], [2, 3], [], [5], [2, 3, 4, 5, 6], [], [8], [2, 3, 4, 5, 6, 7, 8, 9], [], [11], [2, 3, 4, 5, 6, 7, 8, 9, 10, 11, 12], [0, 1, 2, 3, 4, 5, 6, 7, 8, 9, 10, 11, 12, 13], [], [0, 1, 2, 3, 4, 5, 6, 7, 8, 9, 10, 11, 12, 13, 14, 15]] [false, false, false, false, true, false, false, true, false, false, true, false, false, true, false, true, true] [([], (setL low0 [(q0, ⟨27, 1, [.vs 2 (Wq T_Belt.enc pc10)], w0⟩), (q1, ⟨3, 1, [.int .i64 pc11], w1⟩)]), [⟨34, 5, [.agg [.int .i64 p0.Time, .vs 1 (Wq (Wr .i64) p0.States), .vs 1 (Wq (Wr .i64) p0.Since), .vs 1 (Wq Ws p0.Pulled), .vs 1 (Wq Ws p0.Held)]], 0⟩, ⟨34, 5, [.agg [.int .i64 0, .nils, .nils, .nils, .nils]], 0⟩, ⟨3, 1, [], 0⟩, ⟨3, 1, [], 0⟩, ⟨4, 1, [], 0⟩, ⟨4, 1, [], 0⟩, ⟨34, 5, [], 0⟩]), ([4], (setL low0 [(q0, ⟨27, 1, [.vs 2 (Wq T_Belt.enc pc10)], w0⟩), (q1, ⟨3, 1, [.int .i64 pc11], w1⟩)]), [⟨34, 5, [.agg [.int .i64 p0.Time, .vs 1 (Wq (Wr .i64) p0.States), .vs 1 (Wq (Wr .i64) p0.Since), .vs 1 (Wq Ws p0.Pulled), .vs 1 (Wq Ws p0.Held)]], 0⟩, ⟨34, 5, [.agg [.int .i64 0, .nils, .nils, .nils, .nils]], 0⟩, ⟨3, 1, Wq (Wr .i64) x1, 1⟩, ⟨3, 1, [], 0⟩, ⟨4, 1, [], 0⟩, ⟨4, 1, [], 0⟩, ⟨34, 5, [], 0⟩]), ([15], (setL low0 [(q0, ⟨27, 1, [.vs 2 (Wq T_Belt.enc pc10)], w0⟩), (q1, ⟨3, 1, [.int .i64 pc11], w1⟩)]), [⟨34, 5, [.agg [.int .i64 p0.Time, .vs 1 (Wq (Wr .i64) p0.States), .vs 1 (Wq (Wr .i64) p0.Since), .vs 1 (Wq Ws p0.Pulled), .vs 1 (Wq Ws p0.Held)]], 0⟩, ⟨34, 5, [.agg [.int .i64 0, .nils, .nils, .nils, .nils]], 0⟩, ⟨3, 1, [], 0⟩, ⟨3, 1, [], 0⟩, ⟨4, 1, [], 0⟩, ⟨4, 1, [], 0⟩, ⟨34, 5, [.agg [.int .i64 0, .nils, .nils, .nils, .nils]], 1⟩]), ([4, 7], (setL low0 [(q0, ⟨27, 1, [.vs 2 (Wq T_Belt.enc pc10)], w0⟩), (q1, ⟨3, 1, [.int .i64 pc11], w1⟩)]), [⟨34, 5, [.agg [.int .i64 p0.Time, .vs 1 (Wq (Wr .i64) p0.States), .vs 1 (Wq (Wr .i64) p0.Since), .vs 1 (Wq Ws p0.Pulled), .vs 1 (Wq Ws p0.Held)]], 0⟩, ⟨34, 5, [.agg [.int .i64 0, .nils, .nils, .nils, .nils]], 0⟩, ⟨3, 1, Wq (Wr .i64) x1, 1⟩, ⟨3, 1, Wq (Wr .i64) x3, 1⟩, ⟨4, 1, [], 0⟩, ⟨4, 1, [], 0⟩, ⟨34, 5, [], 0⟩]), ([4, 15], (setL low0 [(q0, ⟨27, 1, [.vs 2 (Wq T_Belt.enc pc10)], w0⟩), (q1, ⟨3, 1, [.int .i64 pc11], w1⟩)]), [⟨34, 5, [.agg [.int .i64 p0.Time, .vs 1 (Wq (Wr .i64) p0.States), .vs 1 (Wq (Wr .i64) p0.Since), .vs 1 (Wq Ws p0.Pulled), .vs 1 (Wq Ws p0.Held)]], 0⟩, ⟨34, 5, [.agg [.int .i64 0, .nils, .nils, .nils, .nils]], 0⟩, ⟨3, 1, Wq (Wr .i64) x1, 1⟩, ⟨3, 1, [], 0⟩, ⟨4, 1, [], 0⟩, ⟨4, 1, [], 0⟩, ⟨34, 5, [.agg [.int .i64 0, .nils, .nils, .nils, .nils]], 1⟩]), ([4, 7, 10], (setL low0 [(q0, ⟨27, 1, [.vs 2 (Wq T_Belt.enc pc10)], w0⟩), (q1, ⟨3, 1, [.int .i64 pc11], w1⟩)]), [⟨34, 5, [.agg [.int .i64 p0.Time, .vs 1 (Wq (Wr .i64) p0.States), .vs 1 (Wq (Wr .i64) p0.Since), .vs 1 (Wq Ws p0.Pulled), .vs 1 (Wq Ws p0.Held)]], 0⟩, ⟨34, 5, [.agg [.int .i64 0, .nils, .nils, .nils, .nils]], 0⟩, ⟨3, 1, Wq (Wr .i64) x1, 1⟩, ⟨3, 1, Wq (Wr .i64) x3, 1⟩, ⟨4, 1, Wq Ws x5, 1⟩, ⟨4, 1, [], 0⟩, ⟨34, 5, [], 0⟩]), ([4, 7, 15], (setL low0 [(q0, ⟨27, 1, [.vs 2 (Wq T_Belt.enc pc10)], w0⟩), (q1, ⟨3, 1, [.int .i64 pc11], w1⟩)]), [⟨34, 5, [.agg [.int .i64 p0.Time, .vs 1 (Wq (Wr .i64) p0.States), .vs 1 (Wq (Wr .i64) p0.Since), .vs 1 (Wq Ws p0.Pulled), .vs 1 (Wq Ws p0.Held)]], 0⟩, ⟨34, 5, [.agg [.int .i64 0, .nils, .nils, .nils, .nils]], 0⟩, ⟨3, 1, Wq (Wr .i64) x1, 1⟩, ⟨3, 1, Wq (Wr .i64) x3, 1⟩, ⟨4, 1, [], 0⟩, ⟨4, 1, [], 0⟩, ⟨34, 5, [.agg [.int .i64 0, .nils, .nils, .nils, .nils]], 1⟩]), ([4, 7, 10, 13], (setL low0 [(q0, ⟨27, 1, [.vs 2 (Wq T_Belt.enc pc10)], w0⟩), (q1, ⟨3, 1, [.int .i64 pc11], w1⟩)]), [⟨34, 5, [.agg [.int .i64 p0.Time, .vs 1 (Wq (Wr .i64) p0.States), .vs 1 (Wq (Wr .i64) p0.Since), .vs 1 (Wq Ws p0.Pulled), .vs 1 (Wq Ws p0.Held)]], 0⟩, ⟨34, 5, [.agg [.int .i64 0, .nils, .nils, .nils, .nils]], 0⟩, ⟨3, 1, Wq (Wr .i64) x1, 1⟩, ⟨3, 1, Wq (Wr .i64) x3, 1⟩, ⟨4, 1, Wq Ws x5, 1⟩, ⟨4, 1, Wq Ws x7, 1⟩, ⟨34, 5, [], 0⟩]), ([4, 7, 10, 15], (setL low0 [(q0, ⟨27, 1, [.vs 2 (Wq T_Belt.enc pc10)], w0⟩), (q1, ⟨3, 1, [.int .i64 pc11], w1⟩)]), [⟨34, 5, [.agg [.int .i64 p0.Time, .vs 1 (Wq (Wr .i64) p0.States), .vs 1 (Wq (Wr .i64) p0.Since), .vs 1 (Wq Ws p0.Pulled), .vs 1 (Wq Ws p0.Held)]], 0⟩, ⟨34, 5, [.agg [.int .i64 0, .nils, .nils, .nils, .nils]], 0⟩, ⟨3, 1, Wq (Wr .i64) x1, 1⟩, ⟨3, 1, Wq (Wr .i64) x3, 1⟩, ⟨4, 1, Wq Ws x5, 1⟩, ⟨4, 1, [], 0⟩, ⟨34, 5, [.agg [.int .i64 0, .nils, .nils, .nils, .nils]], 1⟩]), ([4, 7, 10, 13, 15], (setL low0 [(q0, ⟨27, 1, [.vs 2 (Wq T_Belt.enc pc10)], w0⟩), (q1, ⟨3, 1, [.int .i64 pc11], w1⟩)]), [⟨34, 5, [.agg [.int .i64 p0.Time, .vs 1 (Wq (Wr .i64) p0.States), .vs 1 (Wq (Wr .i64) p0.Since), .vs 1 (Wq Ws p0.Pulled), .vs 1 (Wq Ws p0.Held)]], 0⟩, ⟨34, 5, [.agg [.int .i64 0, .nils, .nils, .nils, .nils]], 0⟩, ⟨3, 1, Wq (Wr .i64) x1, 1⟩, ⟨3, 1, Wq (Wr .i64) x3, 1⟩, ⟨4, 1, Wq Ws x5, 1⟩, ⟨4, 1, Wq Ws x7, 1⟩, ⟨34, 5, [.agg [.int .i64 0, .nils, .nils, .nils, .nils]], 1⟩]), ([4, 7, 10, 13, 15, 16], (setL low0 [(q0, ⟨27, 1, [.vs 2 (Wq T_Belt.enc pc10)], w0⟩), (q1, ⟨3, 1, [.int .i64 pc11], w1⟩)]), [⟨34, 5, [.agg [.int .i64 p0.Time, .vs 1 (Wq (Wr .i64) p0.States), .vs 1 (Wq (Wr .i64) p0.Since), .vs 1 (Wq Ws p0.Pulled), .vs 1 (Wq Ws p0.Held)]], 0⟩, ⟨34, 5, [.agg [.int .i64 0, .nils, .nils, .nils, .nils]], 0⟩, ⟨3, 1, Wq (Wr .i64) x1, 1⟩, ⟨3, 1, Wq (Wr .i64) x3, 1⟩, ⟨4, 1, Wq Ws x5, 1⟩, ⟨4, 1, Wq Ws x7, 1⟩, ⟨34, 5, [.agg [.int .i64 p0.Time, .sl (n + 2) 1 0 (x1).length, .sl (n + 3) 1 0 (x3).length, .sl (n + 4) 1 0 (x5).length, .sl (n + 5) 1 0 (x7).length]], 1⟩])] mixed (by kernel_rfl) rfl (lenAllX (Yu Xo (Yu Xo (Yu Xo (Yu Xo (Yu Xo (Yu Xo (Yu Xo (Yu Xo (Yu Xo (Yu Xo (Yu Xo allx0)))))))))))) rfl [4, 7, 10, 13, 15, 16] ((setL low0 [(q0, ⟨27, 1, [.vs 2 (Wq T_Belt.enc pc10)], w0⟩), (q1, ⟨3, 1, [.int .i64 pc11], w1⟩)]), [⟨34, 5, [.agg [.int .i64 p0.Time, .vs 1 (Wq (Wr .i64) p0.States), .vs 1 (Wq (Wr .i64) p0.Since), .vs 1 (Wq Ws p0.Pulled), .vs 1 (Wq Ws p0.Held)]], 0⟩, ⟨34, 5, [.agg [.int .i64 0, .nils, .nils, .nils, .nils]], 0⟩, ⟨3, 1, Wq (Wr .i64) x1, 1⟩, ⟨3, 1, Wq (Wr .i64) x3, 1⟩, ⟨4, 1, Wq Ws x5, 1⟩, ⟨4, 1, Wq Ws x7, 1⟩, ⟨34, 5, [.agg [.int .i64 p0.Time, .sl (n + 2) 1 0 (x1).length, .sl (n + 3) 1 0 (x3).length, .sl (n + 4) 1 0 (x5).length, .sl (n + 5) 1 0 (x7).length]], 1⟩]) rfl rfl ?_
  refine Yc _ rfl rfl (Xs (VRd.ntl (Vc rfl tf_34_0 ts_3 (by decide))) (Xs (VRd.ntl (Vc rfl tf_34_0 ts_3 (by decide))) (Xs (VRd.ntl (Vc rfl tf_34_0 ts_3 (by decide))) (Xs (VRd.ntl (Vc rfl tf_34_0 ts_3 (by decide))) (Xs (VRd.ntl (Vc rfl tf_34_0 ts_3 (by decide))) (Xs (VRd.ntl (Vc rfl tf_34_0 ts_3 (by decide))) (Xs (VRd.ntl (Vc rfl tf_34_0 ts_3 (by decide))) (Xs (VRd.ntl (Vc rfl tf_34_0 ts_3 (by decide))) (Xs (VRd.ntl (Vc rfl tf_34_0 ts_3 (by decide))) (Xs (VRd.ntl (Vc rfl tf_34_0 ts_3 (by decide))) rx0)))))))))) ?_
  refine Yc _ rfl rfl (Xs (VRd.ntl (Vg rfl (Ve (Vs hn) rfl) rfl ta_3 rfl)) (Xs (VRd.ntl (Vg rfl (Ve (Vs hn) rfl) rfl ta_3 rfl)) (Xs (VRd.ntl (Vg rfl (Ve (Vs hn) rfl) rfl ta_3 rfl)) (Xs (VRd.ntl (Vg rfl (Ve (Vs hn) rfl) rfl ta_3 rfl)) (Xs (VRd.ntl (Vg rfl (Ve (Vs hn) rfl) rfl ta_3 rfl)) (Xs (VRd.ntl (Vg rfl (Ve (Vs hn) rfl) rfl ta_3 rfl)) (Xs (VRd.ntl (Vg rfl (Ve (Vs hn) rfl) rfl ta_3 rfl)) (Xs (VRd.ntl (Vg rfl (Ve (Vs hn) rfl) rfl ta_3 rfl)) (Xs (VRd.ntl (Vg rfl (Ve (Vs hn) rfl) rfl ta_3 rfl)) (Xs (VRd.ntl (Vg rfl (Ve (Vs hn) rfl) rfl ta_3 rfl)) rx0)))))))))) ?_
  refine Yc _ rfl rfl (Xs (VRd.ntl (Vc rfl tf_34_1 ts_22 (by decide))) (Xs (VRd.ntl (Vc rfl tf_34_1 ts_22 (by decide))) rx0)) ?_
  refine Yc _ rfl rfl (Xs (VRd.ntl (Vg rfl (Ve (Vs hn) rfl) rfl ta_22 rfl)) (Xs (VRd.ntl (Vg rfl (Ve (Vs hn) rfl) rfl ta_22 rfl)) rx0)) ?_
  refine Zf _ rfl rfl (Zy 1 rfl (Vu (f := 7) (k := 2) (m := 1) (os := [⟨3, 1, Wq (Wr .i64) x1, 0⟩]) (os' := [⟨3, 1, Wq (Wr .i64) x1, 1⟩]) (v := .sl (n + 7) 0 0 (x1).length) (Vs hn) rfl rfl ⟨⟨_, rfl, rfl⟩, trivial⟩ (Xg (r := .sl (n + 7) 0 0 (x1).length) (os := [⟨3, 1, Wq (Wr .i64) x1, 0⟩]) rfl Try.call54 (F_slices_Clone___int_int__ok h2 _ (Xi (Vs hn) rfl))) (Yk 0 rfl rfl rfl rfl) ⟨.same _ _ _ (Vh (fun _ => .int _ _)), trivial⟩ rfl) (Zy 4 rfl (Vu (f := 7) (k := 2) (m := 1) (os := [⟨3, 1, Wq (Wr .i64) x1, 0⟩]) (os' := [⟨3, 1, Wq (Wr .i64) x1, 1⟩]) (v := .sl (n + 7) 0 0 (x1).length) (Vs hn) rfl rfl ⟨⟨_, rfl, rfl⟩, trivial⟩ (Xg (r := .sl (n + 7) 0 0 (x1).length) (os := [⟨3, 1, Wq (Wr .i64) x1, 0⟩]) rfl Try.call54 (F_slices_Clone___int_int__ok h2 _ (Xi (Vs hn) rfl))) (Yk 0 rfl rfl rfl rfl) ⟨.same _ _ _ (Vh (fun _ => .int _ _)), trivial⟩ rfl) ex0)) ?_
  refine Yc _ rfl rfl (Xs (VRd.ntl (Vc rfl tf_34_2 ts_22 (by decide))) (Xs (VRd.ntl (Vc rfl tf_34_2 ts_22 (by decide))) (Xs (VRd.ntl (Vc rfl tf_34_2 ts_22 (by decide))) (Xs (VRd.ntl (Vc rfl tf_34_2 ts_22 (by decide))) rx0)))) ?_
  refine Yc _ rfl rfl (Xs (VRd.ntl (Vg rfl (Ve (Vs hn) rfl) rfl ta_22 rfl)) (Xs (VRd.ntl (Vg rfl (Ve (Vs hn) rfl) rfl ta_22 rfl)) (Xs (VRd.ntl (Vg rfl (Ve (Vs hn) rfl) rfl ta_22 rfl)) (Xs (VRd.ntl (Vg rfl (Ve (Vs hn) rfl) rfl ta_22 rfl)) rx0)))) ?_
  refine Zf _ rfl rfl (Zy 3 rfl (Vu (f := 7) (k := 3) (m := 1) (os := [⟨3, 1, Wq (Wr .i64) x3, 0⟩]) (os' := [⟨3, 1, Wq (Wr .i64) x3, 1⟩]) (v := .sl (n + 7) 0 0 (x3).length) (Vs hn) rfl rfl ⟨⟨_, rfl, rfl⟩, trivial⟩ (Xg (r := .sl (n + 7) 0 0 (x3).length) (os := [⟨3, 1, Wq (Wr .i64) x3, 0⟩]) rfl Try.call54 (F_slices_Clone___int_int__ok h4 _ (Xi (Vs hn) rfl))) (Yk 0 rfl rfl rfl rfl) ⟨.same _ _ _ (Vh (fun _ => .int _ _)), trivial⟩ rfl) (Zy 6 rfl (Vu (f := 7) (k := 3) (m := 1) (os := [⟨3, 1, Wq (Wr .i64) x3, 0⟩]) (os' := [⟨3, 1, Wq (Wr .i64) x3, 1⟩]) (v := .sl (n + 7) 0 0 (x3).length) (Vs hn) rfl rfl ⟨⟨_, rfl, rfl⟩, trivial⟩ (Xg (r := .sl (n + 7) 0 0 (x3).length) (os := [⟨3, 1, Wq (Wr .i64) x3, 0⟩]) rfl Try.call54 (F_slices_Clone___int_int__ok h4 _ (Xi (Vs hn) rfl))) (Yk 0 rfl rfl rfl rfl) ⟨.same _ _ _ (Vh (fun _ => .int _ _)), trivial⟩ rfl) ex0)) ?_
  refine Yc _ rfl rfl (Xs (VRd.ntl (Vc rfl tf_34_3 ts_32 (by decide))) (Xs (VRd.ntl (Vc rfl tf_34_3 ts_32 (by decide))) (Xs (VRd.ntl (Vc rfl tf_34_3 ts_32 (by decide))) (Xs (VRd.ntl (Vc rfl tf_34_3 ts_32 (by decide))) (Xs (VRd.ntl (Vc rfl tf_34_3 ts_32 (by decide))) (Xs (VRd.ntl (Vc rfl tf_34_3 ts_32 (by decide))) rx0)))))) ?_
  refine Yc _ rfl rfl (Xs (VRd.ntl (Vg rfl (Ve (Vs hn) rfl) rfl ta_32 rfl)) (Xs (VRd.ntl (Vg rfl (Ve (Vs hn) rfl) rfl ta_32 rfl)) (Xs (VRd.ntl (Vg rfl (Ve (Vs hn) rfl) rfl ta_32 rfl)) (Xs (VRd.ntl (Vg rfl (Ve (Vs hn) rfl) rfl ta_32 rfl)) (Xs (VRd.ntl (Vg rfl (Ve (Vs hn) rfl) rfl ta_32 rfl)) (Xs (VRd.ntl (Vg rfl (Ve (Vs hn) rfl) rfl ta_32 rfl)) rx0)))))) ?_
  refine Zf _ rfl rfl (Zy 5 rfl (Vu (f := 7) (k := 4) (m := 1) (os := [⟨4, 1, Wq Ws x5, 0⟩]) (os' := [⟨4, 1, Wq Ws x5, 1⟩]) (v := .sl (n + 7) 0 0 (x5).length) (Vs hn) rfl rfl ⟨⟨_, rfl, rfl⟩, trivial⟩ (Xg (r := .sl (n + 7) 0 0 (x5).length) (os := [⟨4, 1, Wq Ws x5, 0⟩]) rfl Try.call55 (F_slices_Clone___bool_bool__ok h6 _ (Xi (Vs hn) rfl))) (Yk 0 rfl rfl rfl rfl) ⟨.same _ _ _ (Vh (fun _ => .bool _)), trivial⟩ rfl) (Zy 8 rfl (Vu (f := 7) (k := 4) (m := 1) (os := [⟨4, 1, Wq Ws x5, 0⟩]) (os' := [⟨4, 1, Wq Ws x5, 1⟩]) (v := .sl (n + 7) 0 0 (x5).length) (Vs hn) rfl rfl ⟨⟨_, rfl, rfl⟩, trivial⟩ (Xg (r := .sl (n + 7) 0 0 (x5).length) (os := [⟨4, 1, Wq Ws x5, 0⟩]) rfl Try.call55 (F_slices_Clone___bool_bool__ok h6 _ (Xi (Vs hn) rfl))) (Yk 0 rfl rfl rfl rfl) ⟨.same _ _ _ (Vh (fun _ => .bool _)), trivial⟩ rfl) ex0)) ?_
  refine Yc _ rfl rfl (Xs (VRd.ntl (Vc rfl tf_34_4 ts_32 (by decide))) (Xs (VRd.ntl (Vc rfl tf_34_4 ts_32 (by decide))) (Xs (VRd.ntl (Vc rfl tf_34_4 ts_32 (by decide))) (Xs (VRd.ntl (Vc rfl tf_34_4 ts_32 (by decide))) (Xs (VRd.ntl (Vc rfl tf_34_4 ts_32 (by decide))) (Xs (VRd.ntl (Vc rfl tf_34_4 ts_32 (by decide))) (Xs (VRd.ntl (Vc rfl tf_34_4 ts_32 (by decide))) (Xs (VRd.ntl (Vc rfl tf_34_4 ts_32 (by decide))) rx0)))))))) ?_
  refine Yc _ rfl rfl (Xs (VRd.ntl (Vg rfl (Ve (Vs hn) rfl) rfl ta_32 rfl)) (Xs (VRd.ntl (Vg rfl (Ve (Vs hn) rfl) rfl ta_32 rfl)) (Xs (VRd.ntl (Vg rfl (Ve (Vs hn) rfl) rfl ta_32 rfl)) (Xs (VRd.ntl (Vg rfl (Ve (Vs hn) rfl) rfl ta_32 rfl)) (Xs (VRd.ntl (Vg rfl (Ve (Vs hn) rfl) rfl ta_32 rfl)) (Xs (VRd.ntl (Vg rfl (Ve (Vs hn) rfl) rfl ta_32 rfl)) (Xs (VRd.ntl (Vg rfl (Ve (Vs hn) rfl) rfl ta_32 rfl)) (Xs (VRd.ntl (Vg rfl (Ve (Vs hn) rfl) rfl ta_32 rfl)) rx0)))))))) ?_
  refine Zf _ rfl rfl (Zy 7 rfl (Vu (f := 7) (k := 5) (m := 1) (os := [⟨4, 1, Wq Ws x7, 0⟩]) (os' := [⟨4, 1, Wq Ws x7, 1⟩]) (v := .sl (n + 7) 0 0 (x7).length) (Vs hn) rfl rfl ⟨⟨_, rfl, rfl⟩, trivial⟩ (Xg (r := .sl (n + 7) 0 0 (x7).length) (os := [⟨4, 1, Wq Ws x7, 0⟩]) rfl Try.call55 (F_slices_Clone___bool_bool__ok h8 _ (Xi (Vs hn) rfl))) (Yk 0 rfl rfl rfl rfl) ⟨.same _ _ _ (Vh (fun _ => .bool _)), trivial⟩ rfl) (Zy 9 rfl (Vu (f := 7) (k := 5) (m := 1) (os := [⟨4, 1, Wq Ws x7, 0⟩]) (os' := [⟨4, 1, Wq Ws x7, 1⟩]) (v := .sl (n + 7) 0 0 (x7).length) (Vs hn) rfl rfl ⟨⟨_, rfl, rfl⟩, trivial⟩ (Xg (r := .sl (n + 7) 0 0 (x7).length) (os := [⟨4, 1, Wq Ws x7, 0⟩]) rfl Try.call55 (F_slices_Clone___bool_bool__ok h8 _ (Xi (Vs hn) rfl))) (Yk 0 rfl rfl rfl rfl) ⟨.same _ _ _ (Vh (fun _ => .bool _)), trivial⟩ rfl) ex0)) ?_
  refine Yc _ rfl rfl (Xs (VRd.ntl (Wh (vs := [(0, .int .i64 p0.Time), (1, .sl (n + 2) 1 0 (x1).length), (2, .sl (n + 3) 1 0 (x3).length), (3, .sl (n + 4) 1 0 (x5).length), (4, .sl (n + 5) 1 0 (x7).length)]) (ds := [.int .i64 p0.Time, .sl (n + 2) 1 0 (x1).length, .sl (n + 3) 1 0 (x3).length, .sl (n + 4) 1 0 (x5).length, .sl (n + 5) 1 0 (x7).length]) tz_34 rfl rfl tp_34 ⟨rfl, rfl, rfl, rfl, rfl, rfl, rfl, rfl, rfl, rfl, trivial⟩ (Wo rfl) rfl)) (Xs (VRd.ntl (Wh (vs := [(0, .int .i64 p0.Time), (1, .sl (n + 2) 1 0 (x1).length), (2, .sl (n + 3) 1 0 (x3).length), (3, .sl (n + 4) 1 0 (x5).length), (4, .sl (n + 5) 1 0 (x7).length)]) (ds := [.int .i64 p0.Time, .sl (n + 2) 1 0 (x1).length, .sl (n + 3) 1 0 (x3).length, .sl (n + 4) 1 0 (x5).length, .sl (n + 5) 1 0 (x7).length]) tz_34 rfl rfl tp_34 ⟨rfl, rfl, rfl, rfl, rfl, rfl, rfl, rfl, rfl, rfl, trivial⟩ (Wo rfl) rfl)) rx0)) ?_
  refine Zf _ rfl rfl (Zy 2 rfl (Vu (f := 7) (k := 6) (m := 1) (os := [⟨34, 5, [.agg [.int .i64 0, .nils, .nils, .nils, .nils]], 0⟩]) (os' := [⟨34, 5, [.agg [.int .i64 0, .nils, .nils, .nils, .nils]], 1⟩]) (v := .ptr (n + 7) 0 0 0) (Vs hn) rfl rfl ⟨⟨_, rfl, rfl⟩, trivial⟩ (Xe (Vs hn) rfl tz_34 rfl rfl (Wv _) rfl) (Wj 0 rfl rfl rfl rfl) ⟨.same _ _ _ (Xt ⟨(Xw ⟨.int _ _, .nils, .nils, .nils, .nils, trivial⟩), trivial⟩), trivial⟩ rfl) (Zy 4 rfl (Vu (f := 7) (k := 6) (m := 1) (os := [⟨34, 5, [.agg [.int .i64 0, .nils, .nils, .nils, .nils]], 0⟩]) (os' := [⟨34, 5, [.agg [.int .i64 0, .nils, .nils, .nils, .nils]], 1⟩]) (v := .ptr (n + 7) 0 0 0) (Vs hn) rfl rfl ⟨⟨_, rfl, rfl⟩, trivial⟩ (Xe (Vs hn) rfl tz_34 rfl rfl (Wv _) rfl) (Wj 0 rfl rfl rfl rfl) ⟨.same _ _ _ (Xt ⟨(Xw ⟨.int _ _, .nils, .nils, .nils, .nils, trivial⟩), trivial⟩), trivial⟩ rfl) (Zy 6 rfl (Vu (f := 7) (k := 6) (m := 1) (os := [⟨34, 5, [.agg [.int .i64 0, .nils, .nils, .nils, .nils]], 0⟩]) (os' := [⟨34, 5, [.agg [.int .i64 0, .nils, .nils, .nils, .nils]], 1⟩]) (v := .ptr (n + 7) 0 0 0) (Vs hn) rfl rfl ⟨⟨_, rfl, rfl⟩, trivial⟩ (Xe (Vs hn) rfl tz_34 rfl rfl (Wv _) rfl) (Wj 0 rfl rfl rfl rfl) ⟨.same _ _ _ (Xt ⟨(Xw ⟨.int _ _, .nils, .nils, .nils, .nils, trivial⟩), trivial⟩), trivial⟩ rfl) (Zy 8 rfl (Vu (f := 7) (k := 6) (m := 1) (os := [⟨34, 5, [.agg [.int .i64 0, .nils, .nils, .nils, .nils]], 0⟩]) (os' := [⟨34, 5, [.agg [.int .i64 0, .nils, .nils, .nils, .nils]], 1⟩]) (v := .ptr (n + 7) 0 0 0) (Vs hn) rfl rfl ⟨⟨_, rfl, rfl⟩, trivial⟩ (Xe (Vs hn) rfl tz_34 rfl rfl (Wv _) rfl) (Wj 0 rfl rfl rfl rfl) ⟨.same _ _ _ (Xt ⟨(Xw ⟨.int _ _, .nils, .nils, .nils, .nils, trivial⟩), trivial⟩), trivial⟩ rfl) (Zy 9 rfl (Vu (f := 7) (k := 6) (m := 1) (os := [⟨34, 5, [.agg [.int .i64 0, .nils, .nils, .nils, .nils]], 0⟩]) (os' := [⟨34, 5, [.agg [.int .i64 0, .nils, .nils, .nils, .nils]], 1⟩]) (v := .ptr (n + 7) 0 0 0) (Vs hn) rfl rfl ⟨⟨_, rfl, rfl⟩, trivial⟩ (Xe (Vs hn) rfl tz_34 rfl rfl (Wv _) rfl) (Wj 0 rfl rfl rfl rfl) ⟨.same _ _ _ (Xt ⟨(Xw ⟨.int _ _, .nils, .nils, .nils, .nils, trivial⟩), trivial⟩), trivial⟩ rfl) ex0))))) ?_
  refine Zf _ rfl rfl (Zy 10 rfl (Vy (p := .agg [.int .i64 p0.Time, .sl (n + 2) 1 0 (x1).length, .sl (n + 3) 1 0 (x3).length, .sl (n + 4) 1 0 (x5).length, .sl (n + 5) 1 0 (x7).length]) (e' := .agg [.int .i64 p0.Time, .sl (n + 2) 1 0 (x1).length, .sl (n + 3) 1 0 (x3).length, .sl (n + 4) 1 0 (x5).length, .sl (n + 5) 1 0 (x7).length]) rfl (Ve (Vs hn) rfl) rfl rfl ts_34 rfl (Ye rfl) rfl (Wu rfl) rfl (Xr (Vs hn) rfl)) ex0) ?_
  refine dopx_nil ?_
  refine Vi ?_
  refine Vd ?_
  obtain ⟨x9, h10, hF⟩ := Yt hF
  refine Va (rd_mvF rfl) rfl ?_
  refine Vj (Zg (ps := [((n + 6), ⟨34, 5, [.agg [.int .i64 x9.Time, .sl (n + 2) 1 0 (x1).length, .sl (n + 3) 1 0 (x3).length, .sl (n + 4) 1 0 (x5).length, .sl (n + 5) 1 0 (x7).length]], 1⟩), ((n + 2), ⟨3, 1, Wq (Wr .i64) x9.States, 1⟩), ((n + 3), ⟨3, 1, Wq (Wr .i64) x9.Since, 1⟩), ((n + 4), ⟨4, 1, Wq Ws x9.Pulled, 1⟩), ((n + 5), ⟨4, 1, Wq Ws x9.Held, 1⟩), (q0, ⟨27, 1, [.vs 2 (Wq T_Belt.enc pc10)], w0⟩), (q1, ⟨3, 1, [.int .i64 pc11], w1⟩)]) (r := .tup []) (os := []) (low1 := (setL low0 [(q0, ⟨27, 1, [.vs 2 (Wq T_Belt.enc pc10)], w0⟩), (q1, ⟨3, 1, [.int .i64 pc11], w1⟩)])) (loc1 := [⟨34, 5, [.agg [.int .i64 p0.Time, .vs 1 (Wq (Wr .i64) p0.States), .vs 1 (Wq (Wr .i64) p0.Since), .vs 1 (Wq Ws p0.Pulled), .vs 1 (Wq Ws p0.Held)]], 0⟩, ⟨34, 5, [.agg [.int .i64 0, .nils, .nils, .nils, .nils]], 0⟩, ⟨3, 1, Wq (Wr .i64) x9.States, 1⟩, ⟨3, 1, Wq (Wr .i64) x9.Since, 1⟩, ⟨4, 1, Wq Ws x9.Pulled, 1⟩, ⟨4, 1, Wq Ws x9.Held, 1⟩, ⟨34, 5, [.agg [.int .i64 x9.Time, .sl (n + 2) 1 0 (x1).length, .sl (n + 3) 1 0 (x3).length, .sl (n + 4) 1 0 (x5).length, .sl (n + 5) 1 0 (x7).length]], 1⟩]) (loc2 := [⟨34, 5, [.agg [.int .i64 p0.Time, .vs 1 (Wq (Wr .i64) p0.States), .vs 1 (Wq (Wr .i64) p0.Since), .vs 1 (Wq Ws p0.Pulled), .vs 1 (Wq Ws p0.Held)]], 0⟩, ⟨34, 5, [.agg [.int .i64 0, .nils, .nils, .nils, .nils]], 0⟩, ⟨3, 1, Wq (Wr .i64) x9.States, 1⟩, ⟨3, 1, Wq (Wr .i64) x9.Since, 1⟩, ⟨4, 1, Wq Ws x9.Pulled, 1⟩, ⟨4, 1, Wq Ws x9.Held, 1⟩, ⟨34, 5, [.agg [.int .i64 x9.Time, .sl (n + 2) 1 0 (x1).length, .sl (n + 3) 1 0 (x3).length, .sl (n + 4) 1 0 (x5).length, .sl (n + 5) 1 0 (x7).length]], 1⟩]) rfl Try.call51 (F_belts_Stop_1_ok h10 (nd1 (Zs (Yx rfl) (Zs (Yx rfl) (Zs (Yx rfl) (Zs (Yx rfl) (Zs (Yv hq0) (Zs (Yv hq1) na0)))))) (nd1 (Zs (Yx rfl) (Zs (Yx rfl) (Zs (Yx rfl) (Zs (Yv hq0) (Zs (Yv hq1) na0))))) (nd1 (Zs (Yx rfl) (Zs (Yx rfl) (Zs (Yv hq0) (Zs (Yv hq1) na0)))) (nd1 (Zs (Yx rfl) (Zs (Yv hq0) (Zs (Yv hq1) na0))) (nd1 (Zs (Yv hq0) (Zs (Yv hq1) na0)) (nd1 (Zs (hB.ne 0 1 rfl rfl rfl) na0) (nd1 na0 nd0))))))) (rfl : (x1).length = _) (rfl : (x3).length = _) (rfl : (x5).length = _) (rfl : (x7).length = _) (Zt (Vs hn) rfl) (Zt (Vs hn) rfl) (Zt (Vs hn) rfl) (Zt (Vs hn) rfl) (Zt (Vs hn) rfl) (Wp hB rfl 0 rfl) (Wp hB rfl 1 rfl) (Xi (Vs hn) rfl)) (Yq (loc2 := [⟨34, 5, [.agg [.int .i64 p0.Time, .vs 1 (Wq (Wr .i64) p0.States), .vs 1 (Wq (Wr .i64) p0.Since), .vs 1 (Wq Ws p0.Pulled), .vs 1 (Wq Ws p0.Held)]], 0⟩, ⟨34, 5, [.agg [.int .i64 0, .nils, .nils, .nils, .nils]], 0⟩, ⟨3, 1, Wq (Wr .i64) x1, 1⟩, ⟨3, 1, Wq (Wr .i64) x3, 1⟩, ⟨4, 1, Wq Ws x5, 1⟩, ⟨4, 1, Wq Ws x7, 1⟩, ⟨34, 5, [.agg [.int .i64 x9.Time, .sl (n + 2) 1 0 (x1).length, .sl (n + 3) 1 0 (x3).length, .sl (n + 4) 1 0 (x5).length, .sl (n + 5) 1 0 (x7).length]], 1⟩]) (Vs hn) 6 rfl (Yq (loc2 := [⟨34, 5, [.agg [.int .i64 p0.Time, .vs 1 (Wq (Wr .i64) p0.States), .vs 1 (Wq (Wr .i64) p0.Since), .vs 1 (Wq Ws p0.Pulled), .vs 1 (Wq Ws p0.Held)]], 0⟩, ⟨34, 5, [.agg [.int .i64 0, .nils, .nils, .nils, .nils]], 0⟩, ⟨3, 1, Wq (Wr .i64) x9.States, 1⟩, ⟨3, 1, Wq (Wr .i64) x3, 1⟩, ⟨4, 1, Wq Ws x5, 1⟩, ⟨4, 1, Wq Ws x7, 1⟩, ⟨34, 5, [.agg [.int .i64 x9.Time, .sl (n + 2) 1 0 (x1).length, .sl (n + 3) 1 0 (x3).length, .sl (n + 4) 1 0 (x5).length, .sl (n + 5) 1 0 (x7).length]], 1⟩]) (Vs hn) 2 rfl (Yq (loc2 := [⟨34, 5, [.agg [.int .i64 p0.Time, .vs 1 (Wq (Wr .i64) p0.States), .vs 1 (Wq (Wr .i64) p0.Since), .vs 1 (Wq Ws p0.Pulled), .vs 1 (Wq Ws p0.Held)]], 0⟩, ⟨34, 5, [.agg [.int .i64 0, .nils, .nils, .nils, .nils]], 0⟩, ⟨3, 1, Wq (Wr .i64) x9.States, 1⟩, ⟨3, 1, Wq (Wr .i64) x9.Since, 1⟩, ⟨4, 1, Wq Ws x5, 1⟩, ⟨4, 1, Wq Ws x7, 1⟩, ⟨34, 5, [.agg [.int .i64 x9.Time, .sl (n + 2) 1 0 (x1).length, .sl (n + 3) 1 0 (x3).length, .sl (n + 4) 1 0 (x5).length, .sl (n + 5) 1 0 (x7).length]], 1⟩]) (Vs hn) 3 rfl (Yq (loc2 := [⟨34, 5, [.agg [.int .i64 p0.Time, .vs 1 (Wq (Wr .i64) p0.States), .vs 1 (Wq (Wr .i64) p0.Since), .vs 1 (Wq Ws p0.Pulled), .vs 1 (Wq Ws p0.Held)]], 0⟩, ⟨34, 5, [.agg [.int .i64 0, .nils, .nils, .nils, .nils]], 0⟩, ⟨3, 1, Wq (Wr .i64) x9.States, 1⟩, ⟨3, 1, Wq (Wr .i64) x9.Since, 1⟩, ⟨4, 1, Wq Ws x9.Pulled, 1⟩, ⟨4, 1, Wq Ws x7, 1⟩, ⟨34, 5, [.agg [.int .i64 x9.Time, .sl (n + 2) 1 0 (x1).length, .sl (n + 3) 1 0 (x3).length, .sl (n + 4) 1 0 (x5).length, .sl (n + 5) 1 0 (x7).length]], 1⟩]) (Vs hn) 4 rfl (Yq (loc2 := [⟨34, 5, [.agg [.int .i64 p0.Time, .vs 1 (Wq (Wr .i64) p0.States), .vs 1 (Wq (Wr .i64) p0.Since), .vs 1 (Wq Ws p0.Pulled), .vs 1 (Wq Ws p0.Held)]], 0⟩, ⟨34, 5, [.agg [.int .i64 0, .nils, .nils, .nils, .nils]], 0⟩, ⟨3, 1, Wq (Wr .i64) x9.States, 1⟩, ⟨3, 1, Wq (Wr .i64) x9.Since, 1⟩, ⟨4, 1, Wq Ws x9.Pulled, 1⟩, ⟨4, 1, Wq Ws x9.Held, 1⟩, ⟨34, 5, [.agg [.int .i64 x9.Time, .sl (n + 2) 1 0 (x1).length, .sl (n + 3) 1 0 (x3).length, .sl (n + 4) 1 0 (x5).length, .sl (n + 5) 1 0 (x7).length]], 1⟩]) (Vs hn) 5 rfl (Wd (ps0' := [(q0, ⟨27, 1, [.vs 2 (Wq T_Belt.enc pc10)], w0⟩), (q1, ⟨3, 1, [.int .i64 pc11], w1⟩)]) hB rfl 0 rfl (ltObjN hn ⟨.vs _ _, trivial⟩) rfl (Wd (ps0' := [(q0, ⟨27, 1, [.vs 2 (Wq T_Belt.enc pc10)], w0⟩), (q1, ⟨3, 1, [.int .i64 pc11], w1⟩)]) hB rfl 1 rfl (ltObjN hn ⟨.int _ _, trivial⟩) rfl Zl))))))) rfl) rfl ?_
  refine Vf ?_
  refine Vi ?_
  refine Vd ?_
  refine Va (Vv (ds := [.int .i64 x9.Time, .sl (n + 2) 1 0 (x1).length, .sl (n + 3) 1 0 (x3).length, .sl (n + 4) 1 0 (x5).length, .sl (n + 5) 1 0 (x7).length]) rfl (Ve (Vs hn) rfl) rfl ta_34 ts_34 rfl rfl rfl) rfl ?_
  refine Vj (Vy (p := .agg [.int .i64 x9.Time, .sl (n + 2) 1 0 (x1).length, .sl (n + 3) 1 0 (x3).length, .sl (n + 4) 1 0 (x5).length, .sl (n + 5) 1 0 (x7).length]) (e' := .agg [.int .i64 x9.Time, .sl (n + 2) 1 0 (x1).length, .sl (n + 3) 1 0 (x3).length, .sl (n + 4) 1 0 (x5).length, .sl (n + 5) 1 0 (x7).length]) rfl (Ve (Vs hn) rfl) rfl rfl ts_34 rfl (Ye rfl) rfl (Wu rfl) rfl (Xr (Vs hn) rfl)) rfl ?_
  refine Vf ?_
  refine Xb ?_
  obtain rfl := Wt hF
  refine Wg ?_
  refine Weak.trans (Xm (E' := [(4, .ptr (n + 1) 0 0 0)]) (loc1 := [⟨34, 5, [.agg [.int .i64 p0.Time, .vs 1 (Wq (Wr .i64) p0.States), .vs 1 (Wq (Wr .i64) p0.Since), .vs 1 (Wq Ws p0.Pulled), .vs 1 (Wq Ws p0.Held)]], 0⟩, ⟨34, 5, [.agg [.int .i64 x9.Time, .sl (n + 2) 1 0 (x1).length, .sl (n + 3) 1 0 (x3).length, .sl (n + 4) 1 0 (x5).length, .vs 1 (Wq Ws x9.Held)]], 0⟩, ⟨3, 1, Wq (Wr .i64) x9.States, 1⟩, ⟨3, 1, Wq (Wr .i64) x9.Since, 1⟩, ⟨4, 1, Wq Ws x9.Pulled, 1⟩, ⟨4, 1, [], 1 + 1⟩, ⟨34, 5, [.agg [.int .i64 x9.Time, .sl (n + 2) 1 0 (x1).length, .sl (n + 3) 1 0 (x3).length, .sl (n + 4) 1 0 (x5).length, .vs 1 (Wq Ws x9.Held)]], 1⟩]) (Vs hn) 5 rfl (Ya (fun _ => .bool _)) ⟨Vl rfl, trivial⟩ ⟨.refl _, Yr ⟨Vl rfl, Vl rfl, Vl rfl, Vl rfl, Zj rfl rfl rfl (Vx (F_belts_Stop_1_len h10 (rfl : (x1).length = _) (rfl : (x3).length = _) (rfl : (x5).length = _) (rfl : (x7).length = _)).2.2.2.1), trivial⟩, .refl _, .refl _, .refl _, .refl _, Yr ⟨Vl rfl, Vl rfl, Vl rfl, Vl rfl, Zj rfl rfl rfl (Vx (F_belts_Stop_1_len h10 (rfl : (x1).length = _) (rfl : (x3).length = _) (rfl : (x5).length = _) (rfl : (x7).length = _)).2.2.2.1), trivial⟩, trivial⟩) ?_
  exact Vt (Vs hn) [(2, 1), (3, 1), (4, 1), (1, 0)] (by decide) ⟨Yj 3 1 rfl rfl, trivial⟩ ⟨⟨_, rfl, rfl, .same _ _ _ _ (Vh (fun _ => .int _ _))⟩, ⟨_, rfl, rfl, .same _ _ _ _ (Vh (fun _ => .int _ _))⟩, ⟨_, rfl, rfl, .same _ _ _ _ (Vh (fun _ => .bool _))⟩, ⟨_, rfl, rfl, .agg _ _ _ _ _ ⟨Vr rfl (.int _ _), Xq 0 2 rfl (congrArg (PV.sl _ _ 0) (F_belts_Stop_1_len h10 (rfl : (x1).length = _) (rfl : (x3).length = _) (rfl : (x5).length = _) (rfl : (x7).length = _)).1), Xq 1 3 rfl (congrArg (PV.sl _ _ 0) (F_belts_Stop_1_len h10 (rfl : (x1).length = _) (rfl : (x3).length = _) (rfl : (x5).length = _) (rfl : (x7).length = _)).2.1), Xq 2 4 rfl (congrArg (PV.sl _ _ 0) (F_belts_Stop_1_len h10 (rfl : (x1).length = _) (rfl : (x3).length = _) (rfl : (x5).length = _) (rfl : (x7).length = _)).2.2.1), Vr rfl (.vs _ _), trivial⟩⟩, trivial⟩
 ·rintro _ _ _ _ ⟨he, hw⟩
  refine ⟨_, _, _, hw, ?_⟩
  exact Zm (Vs hn) 3 rfl (Wu rfl) he [.agg [.int .i64 r.Time, .sl (n + 0) 0 0 (r.States).length, .sl (n + 1) 0 0 (r.Since).length, .sl (n + 2) 0 0 (r.Pulled).length, .vs 1 (Wq Ws r.Held)]] ⟨Vv rfl (Ve (Vs hn) rfl) rfl ta_34 ts_34 rfl rfl rfl, trivial⟩ ((Xw ⟨.int _ _, .sl _ _ _ _ (Zw rfl), .sl _ _ _ _ (Zw rfl), .sl _ _ _ _ (Zw rfl), .vs _ _, trivial⟩)) ⟨Vh (fun _ => .int _ _), Vh (fun _ => .int _ _), Vh (fun _ => .bool _), trivial⟩ ⟨rfl, rfl⟩

theorem F_belts_done__belts_Stop_1_ok {p0 : T_Line} {pc10 : List T_Belt} {pc11 : Int} {r : T_Line} (hF : F_belts_done__belts_Stop_1 p0 pc10 pc11 = some r) {low : List AObj} {q0 q1 w0 w1 : Nat} (hnd : [q0, q1].Nodup) (hq0 : low[q0]? = some ⟨27, 1, [.vs 2 (Wq T_Belt.enc pc10)], w0⟩) (hq1 : low[q1]? = some ⟨3, 1, [.int .i64 pc11], w1⟩) {n : Nat} (hn : low.length = n) :
    Ys Try.prog 31 [.agg [.int .i64 p0.Time, .vs 1 (Wq (Wr .i64) p0.States), .vs 1 (Wq (Wr .i64) p0.Since), .vs 1 (Wq Ws p0.Pulled), .vs 1 (Wq Ws p0.Held)], .fn 51 [] [.ptr q0 w0 0 0, .ptr q1 w1 0 0]] low fun x low' => x = .agg [.int .i64 r.Time, .sl (n + 0) 0 0 (r.States).length, .sl (n + 1) 0 0 (r.Since).length, .sl (n + 2) 0 0 (r.Pulled).length, .vs 1 (Wq Ws r.Held)] ∧ low' = setL low [(q0, ⟨27, 1, [.vs 2 (Wq T_Belt.enc pc10)], w0⟩), (q1, ⟨3, 1, [.int .i64 pc11], w1⟩)] ++ [⟨3, 1, Wq (Wr .i64) r.States, 0⟩, ⟨3, 1, Wq (Wr .i64) r.Since, 0⟩, ⟨4, 1, Wq Ws r.Pulled, 0⟩] := by
  obtain ⟨h1, h2⟩ := We (ps := [(q0, ⟨27, 1, [.vs 2 (Wq T_Belt.enc pc10)], w0⟩), (q1, ⟨3, 1, [.int .i64 pc11], w1⟩)]) hnd (Wf hq0 (Wf hq1 bor0))
  exact Zx h1 (F_belts_done__belts_Stop_1_ok0 hF h2 hn)

theorem F_belts_Stop_ok {p0 : List T_Belt} {p1 : T_Line} {p2 : Int} {r : T_Line × Int} (hF : F_belts_Stop p0 p1 p2 = some r) (low : List AObj) {n : Nat} (hn : low.length = n) :
    Ys Try.prog 24 [.vs 2 (Wq T_Belt.enc p0), .agg [.int .i64 p1.Time, .vs 1 (Wq (Wr .i64) p1.States), .vs 1 (Wq (Wr .i64) p1.Since), .vs 1 (Wq Ws p1.Pulled), .vs 1 (Wq Ws p1.Held)], .int .i64 p2] low fun x low' => x = .tup [.agg [.int .i64 r.1.Time, .vs 1 (Wq (Wr .i64) r.1.States), .vs 1 (Wq (Wr .i64) r.1.Since), .vs 1 (Wq Ws r.1.Pulled), .vs 1 (Wq Ws r.1.Held)], .int .i64 r.2] ∧ low' = low ++ [] := by
 refine Vz (nt := 20) (rs := [.cell 6 34, .tmp 7]) Try.func24 rfl rfl (Wu rfl) rfl ?_
 refine Vw (Q' := FnE (fun E' lw lc => Yb E' lw lc [(6, .ptr (n + 0) 0 0 0), (7, .int .i64 r.2)] low [⟨34, 5, [.agg [.int .i64 r.1.Time, .vs 1 (Wq (Wr .i64) r.1.States), .vs 1 (Wq (Wr .i64) r.1.Since), .vs 1 (Wq Ws r.1.Pulled), .vs 1 (Wq Ws r.1.Held)]], 0⟩])) ?_ ?_
 ·unfold F_belts_Stop at hF
  refine Vi ?_
  refine Vd ?_
  refine Vj (Zc hn rfl (v := .vs 2 (Wq T_Belt.enc p0)) rfl rfl (Wv _) rfl rfl) rfl ?_
  refine Vj (Zc hn rfl (v := .agg [.int .i64 p1.Time, .vs 1 (Wq (Wr .i64) p1.States), .vs 1 (Wq (Wr .i64) p1.Since), .vs 1 (Wq Ws p1.Pulled), .vs 1 (Wq Ws p1.Held)]) rfl rfl (Wv _) rfl rfl) rfl ?_
  refine Vj (Zc hn rfl (v := .int .i64 p2) rfl rfl (Wv _) rfl rfl) rfl ?_
  refine Vj (Xe hn rfl tz_34 rfl rfl (Wv _) rfl) rfl ?_
  refine Va (Xa rfl) rfl ?_
  refine Vf ?_
  refine Vi ?_
  refine Vi ?_
  refine Vd ?_
  obtain ⟨x1, h2, hF⟩ := Yt hF
  refine Va (Vg rfl (Ve hn rfl) rfl ta_27 rfl) rfl ?_
  refine Va (Vv (ds := [.int .i64 p1.Time, .vs 1 (Wq (Wr .i64) p1.States), .vs 1 (Wq (Wr .i64) p1.Since), .vs 1 (Wq Ws p1.Pulled), .vs 1 (Wq Ws p1.Held)]) rfl (Ve hn rfl) rfl ta_34 ts_34 rfl rfl rfl) rfl ?_
  refine Va (Vg rfl (Ve hn rfl) rfl ta_3 rfl) rfl ?_
  refine Vj (Xp rfl Try.call30 (F_belts_checked_ok h2 _)) rfl ?_
  refine Va (Xa rfl) rfl ?_
  refine Vf ?_
  refine Vi ?_
  refine Vd ?_
  refine Va (Vk rfl) rfl ?_
  refine Va (Ze rfl rfl) rfl ?_
  refine Vf ?_
  refine Xh rfl (fun c3 => ?_) (fun c3 => ?_)
  ·have hF := Yo c3 hF
   refine Vi ?_
   refine Vd ?_
   refine Va (Vv (ds := [.int .i64 p1.Time, .vs 1 (Wq (Wr .i64) p1.States), .vs 1 (Wq (Wr .i64) p1.Since), .vs 1 (Wq Ws p1.Pulled), .vs 1 (Wq Ws p1.Held)]) rfl (Ve hn rfl) rfl ta_34 ts_34 rfl rfl rfl) rfl ?_
   refine Va (Vk rfl) rfl ?_
   refine Vj (Vy (p := .agg [.int .i64 p1.Time, .vs 1 (Wq (Wr .i64) p1.States), .vs 1 (Wq (Wr .i64) p1.Since), .vs 1 (Wq Ws p1.Pulled), .vs 1 (Wq Ws p1.Held)]) (e' := .agg [.int .i64 p1.Time, .vs 1 (Wq (Wr .i64) p1.States), .vs 1 (Wq (Wr .i64) p1.Since), .vs 1 (Wq Ws p1.Pulled), .vs 1 (Wq Ws p1.Held)]) rfl (Ve hn rfl) rfl rfl ts_34 rfl (Ye rfl) rfl (Wu rfl) rfl (Xr hn rfl)) rfl ?_
   refine Va (Xa rfl) rfl ?_
   refine Vf ?_
   refine Xb ?_
   obtain rfl := Wt hF
   refine Wg ?_
   exact Vt hn [(3, 0)] (by decide) ⟨Yj 0 3 rfl rfl, Vr rfl (.int _ _), trivial⟩ ⟨⟨_, rfl, rfl, .same _ _ _ _ (Xt ⟨Xw ⟨.int _ _, .vs _ _, .vs _ _, .vs _ _, .vs _ _, trivial⟩, trivial⟩)⟩, trivial⟩
  ·have hF := Yp c3 hF
   refine Xn ?_
   refine Vi ?_
   refine Vd ?_
   obtain ⟨x4, h5, hF⟩ := Yt hF
   refine Va (Vv (ds := [.int .i64 p1.Time, .vs 1 (Wq (Wr .i64) p1.States), .vs 1 (Wq (Wr .i64) p1.Since), .vs 1 (Wq Ws p1.Pulled), .vs 1 (Wq Ws p1.Held)]) rfl (Ve hn rfl) rfl ta_34 ts_34 rfl rfl rfl) rfl ?_
   refine Va (rd_makeFn rfl) rfl ?_
   refine Vj (Zg (ps := [((n + 0), ⟨27, 1, [.vs 2 (Wq T_Belt.enc p0)], 0⟩), ((n + 2), ⟨3, 1, [.int .i64 p2], 0⟩)]) (r := .agg [.int .i64 x4.Time, .sl (n + 4) 0 0 (x4.States).length, .sl (n + 5) 0 0 (x4.Since).length, .sl (n + 6) 0 0 (x4.Pulled).length, .vs 1 (Wq Ws x4.Held)]) (os := [⟨3, 1, Wq (Wr .i64) x4.States, 0⟩, ⟨3, 1, Wq (Wr .i64) x4.Since, 0⟩, ⟨4, 1, Wq Ws x4.Pulled, 0⟩]) (low1 := low) (loc1 := [⟨27, 1, [.vs 2 (Wq T_Belt.enc p0)], 0⟩, ⟨34, 5, [.agg [.int .i64 p1.Time, .vs 1 (Wq (Wr .i64) p1.States), .vs 1 (Wq (Wr .i64) p1.Since), .vs 1 (Wq Ws p1.Pulled), .vs 1 (Wq Ws p1.Held)]], 0⟩, ⟨3, 1, [.int .i64 p2], 0⟩, ⟨34, 5, [.agg [.int .i64 0, .nils, .nils, .nils, .nils]], 0⟩]) (loc2 := [⟨27, 1, [.vs 2 (Wq T_Belt.enc p0)], 0⟩, ⟨34, 5, [.agg [.int .i64 p1.Time, .vs 1 (Wq (Wr .i64) p1.States), .vs 1 (Wq (Wr .i64) p1.Since), .vs 1 (Wq Ws p1.Pulled), .vs 1 (Wq Ws p1.Held)]], 0⟩, ⟨3, 1, [.int .i64 p2], 0⟩, ⟨34, 5, [.agg [.int .i64 0, .nils, .nils, .nils, .nils]], 0⟩, ⟨3, 1, Wq (Wr .i64) x4.States, 0⟩, ⟨3, 1, Wq (Wr .i64) x4.Since, 0⟩, ⟨4, 1, Wq Ws x4.Pulled, 0⟩]) rfl Try.call31 (F_belts_done__belts_Stop_1_ok h5 (nd1 (Zs (Yx rfl) na0) (nd1 na0 nd0)) (Zt hn rfl) (Zt hn rfl) (Xi hn rfl)) (Yq (loc2 := [⟨27, 1, [.vs 2 (Wq T_Belt.enc p0)], 0⟩, ⟨34, 5, [.agg [.int .i64 p1.Time, .vs 1 (Wq (Wr .i64) p1.States), .vs 1 (Wq (Wr .i64) p1.Since), .vs 1 (Wq Ws p1.Pulled), .vs 1 (Wq Ws p1.Held)]], 0⟩, ⟨3, 1, [.int .i64 p2], 0⟩, ⟨34, 5, [.agg [.int .i64 0, .nils, .nils, .nils, .nils]], 0⟩]) hn 0 rfl (Yq (loc2 := [⟨27, 1, [.vs 2 (Wq T_Belt.enc p0)], 0⟩, ⟨34, 5, [.agg [.int .i64 p1.Time, .vs 1 (Wq (Wr .i64) p1.States), .vs 1 (Wq (Wr .i64) p1.Since), .vs 1 (Wq Ws p1.Pulled), .vs 1 (Wq Ws p1.Held)]], 0⟩, ⟨3, 1, [.int .i64 p2], 0⟩, ⟨34, 5, [.agg [.int .i64 0, .nils, .nils, .nils, .nils]], 0⟩]) hn 2 rfl Zl)) rfl) rfl ?_
   refine Vj (Vy (p := .agg [.int .i64 x4.Time, .sl (n + 4) 0 0 (x4.States).length, .sl (n + 5) 0 0 (x4.Since).length, .sl (n + 6) 0 0 (x4.Pulled).length, .vs 1 (Wq Ws x4.Held)]) (e' := .agg [.int .i64 x4.Time, .sl (n + 4) 0 0 (x4.States).length, .sl (n + 5) 0 0 (x4.Since).length, .sl (n + 6) 0 0 (x4.Pulled).length, .vs 1 (Wq Ws x4.Held)]) rfl (Ve hn rfl) rfl rfl ts_34 rfl (Ye rfl) rfl (Wu rfl) rfl (Xr hn rfl)) rfl ?_
   refine Va (Xa rfl) rfl ?_
   refine Vf ?_
   refine Xb ?_
   obtain rfl := Wt hF
   refine Wg ?_
   refine Weak.trans (Xm (E' := [(6, .ptr (n + 3) 0 0 0), (7, .int .i64 0)]) (loc1 := [⟨27, 1, [.vs 2 (Wq T_Belt.enc p0)], 0⟩, ⟨34, 5, [.agg [.int .i64 p1.Time, .vs 1 (Wq (Wr .i64) p1.States), .vs 1 (Wq (Wr .i64) p1.Since), .vs 1 (Wq Ws p1.Pulled), .vs 1 (Wq Ws p1.Held)]], 0⟩, ⟨3, 1, [.int .i64 p2], 0⟩, ⟨34, 5, [.agg [.int .i64 x4.Time, .vs 1 (Wq (Wr .i64) x4.States), .sl (n + 5) 0 0 (x4.Since).length, .sl (n + 6) 0 0 (x4.Pulled).length, .vs 1 (Wq Ws x4.Held)]], 0⟩, ⟨3, 1, [], 0 + 1⟩, ⟨3, 1, Wq (Wr .i64) x4.Since, 0⟩, ⟨4, 1, Wq Ws x4.Pulled, 0⟩]) hn 4 rfl (Ya (fun _ => .int _ _)) ⟨Vl rfl, Vl rfl, trivial⟩ ⟨.refl _, .refl _, .refl _, Yr ⟨Vl rfl, Zj rfl rfl rfl (Vx rfl), Vl rfl, Vl rfl, Vl rfl, trivial⟩, .refl _, .refl _, .refl _, trivial⟩) ?_
   refine Weak.trans (Xm (E' := [(6, .ptr (n + 3) 0 0 0), (7, .int .i64 0)]) (loc1 := [⟨27, 1, [.vs 2 (Wq T_Belt.enc p0)], 0⟩, ⟨34, 5, [.agg [.int .i64 p1.Time, .vs 1 (Wq (Wr .i64) p1.States), .vs 1 (Wq (Wr .i64) p1.Since), .vs 1 (Wq Ws p1.Pulled), .vs 1 (Wq Ws p1.Held)]], 0⟩, ⟨3, 1, [.int .i64 p2], 0⟩, ⟨34, 5, [.agg [.int .i64 x4.Time, .vs 1 (Wq (Wr .i64) x4.States), .vs 1 (Wq (Wr .i64) x4.Since), .sl (n + 6) 0 0 (x4.Pulled).length, .vs 1 (Wq Ws x4.Held)]], 0⟩, ⟨3, 1, [], 0 + 1⟩, ⟨3, 1, [], 0 + 1⟩, ⟨4, 1, Wq Ws x4.Pulled, 0⟩]) hn 5 rfl (Ya (fun _ => .int _ _)) ⟨Vl rfl, Vl rfl, trivial⟩ ⟨.refl _, .refl _, .refl _, Yr ⟨Vl rfl, Vl rfl, Zj rfl rfl rfl (Vx rfl), Vl rfl, Vl rfl, trivial⟩, .refl _, .refl _, .refl _, trivial⟩) ?_
   refine Weak.trans (Xm (E' := [(6, .ptr (n + 3) 0 0 0), (7, .int .i64 0)]) (loc1 := [⟨27, 1, [.vs 2 (Wq T_Belt.enc p0)], 0⟩, ⟨34, 5, [.agg [.int .i64 p1.Time, .vs 1 (Wq (Wr .i64) p1.States), .vs 1 (Wq (Wr .i64) p1.Since), .vs 1 (Wq Ws p1.Pulled), .vs 1 (Wq Ws p1.Held)]], 0⟩, ⟨3, 1, [.int .i64 p2], 0⟩, ⟨34, 5, [.agg [.int .i64 x4.Time, .vs 1 (Wq (Wr .i64) x4.States), .vs 1 (Wq (Wr .i64) x4.Since), .vs 1 (Wq Ws x4.Pulled), .vs 1 (Wq Ws x4.Held)]], 0⟩, ⟨3, 1, [], 0 + 1⟩, ⟨3, 1, [], 0 + 1⟩, ⟨4, 1, [], 0 + 1⟩]) hn 6 rfl (Ya (fun _ => .bool _)) ⟨Vl rfl, Vl rfl, trivial⟩ ⟨.refl _, .refl _, .refl _, Yr ⟨Vl rfl, Vl rfl, Vl rfl, Zj rfl rfl rfl (Vx rfl), Vl rfl, trivial⟩, .refl _, .refl _, .refl _, trivial⟩) ?_
   exact Vt hn [(3, 0)] (by decide) ⟨Yj 0 3 rfl rfl, Vr rfl (.int _ _), trivial⟩ ⟨⟨_, rfl, rfl, .same _ _ _ _ (Xt ⟨Xw ⟨.int _ _, .vs _ _, .vs _ _, .vs _ _, .vs _ _, trivial⟩, trivial⟩)⟩, trivial⟩
 ·rintro _ _ _ _ ⟨he, hw⟩
  refine ⟨_, _, _, hw, ?_⟩
  exact Zm hn 0 rfl (Wu rfl) he [.agg [.int .i64 r.1.Time, .vs 1 (Wq (Wr .i64) r.1.States), .vs 1 (Wq (Wr .i64) r.1.Since), .vs 1 (Wq Ws r.1.Pulled), .vs 1 (Wq Ws r.1.Held)], .int .i64 r.2] ⟨Vv rfl (Ve hn rfl) rfl ta_34 ts_34 rfl rfl rfl, rfl, trivial⟩ ((lt_tup ⟨(Xw ⟨.int _ _, .vs _ _, .vs _ _, .vs _ _, .vs _ _, trivial⟩), .int _ _, trivial⟩)) trivial ⟨rfl, rfl⟩

theorem F_ref39_Above_ok {p0 : List T_Belt} {p1 : Int} {r : List Int} (hF : F_ref39_Above p0 p1 = some r) (low : List AObj) {n : Nat} (hn : low.length = n) :
    Ys Try.prog 43 [.vs 2 (Wq T_Belt.enc p0), .int .i64 p1] low fun x low' => x = .sl (n + 0) 0 0 (r).length ∧ low' = low ++ [⟨3, 1, Wq (Wr .i64) r, 0⟩] := by
 refine Vz (nt := 47) (rs := [.tmp 4]) Try.func43 rfl rfl (Wu rfl) rfl ?_
 refine Vw (Q' := FnE (fun E' lw lc => Yb E' lw lc [(4, .sl (n + 0) 0 0 (r).length)] low [⟨3, 1, Wq (Wr .i64) r, 0⟩])) ?_ ?_
 ·unfold F_ref39_Above at hF
  refine Vi ?_
  refine Vd ?_
  refine Vj (vef_nilsN hn rfl 3 1 (Wv _) (rd_asN rfl)) rfl ?_
  refine Vf ?_
  refine Vi ?_
  refine Vi ?_
  obtain ⟨o1, ho1, hF⟩ := Yt hF
  refine Vw (Q' := (fun o1 => OnlyE .normal (fun E' lw lc => Yb E' lw lc [(0, .vs 2 (Wq T_Belt.enc p0)), (1, .int .i64 p1), (20, .bool o1)] low [])) o1) ?_ ?_
  ·replace hF := ho1
   refine Vd ?_
   obtain ⟨x2, h3, hF⟩ := Yt hF
   rcases Ww (!x2) with c4 | c4
   ·have hF := Yo c4 hF
    refine Va (Xc rfl) rfl ?_
    refine Vj (Xp rfl Try.call44 (F_ref39_belts_ok h3 _)) rfl ?_
    refine Va (Zp rfl) rfl ?_
    refine Va (Vm rfl) rfl ?_
    refine Vb rfl rfl (Zo c4) rfl ?_
    refine Vb rfl rfl (Zo c4) rfl ?_
    refine Va (Vo (congrArg Ws c4) rfl) rfl ?_
    refine Va (Vm rfl) rfl ?_
    refine Vb rfl rfl (by decide) rfl ?_
    refine Vb rfl rfl (by decide) rfl ?_
    refine Vb rfl rfl (by decide) rfl ?_
    refine Vb rfl rfl (by decide) rfl ?_
    refine Va (Vo rfl rfl) rfl ?_
    refine Vf ?_
    obtain rfl := Wt hF
    refine Xy ?_
    exact Vt hn [] (by decide) ⟨Vr rfl (.vs _ _), Vr rfl (.int _ _), Vr rfl (.bool _), trivial⟩ trivial
   ·have hF := Yp c4 hF
    rcases Ww (decide (p1 < 0)) with c5 | c5
    ·have hF := Yo c5 hF
     refine Va (Xc rfl) rfl ?_
     refine Vj (Xp rfl Try.call44 (F_ref39_belts_ok h3 _)) rfl ?_
     refine Va (Zp rfl) rfl ?_
     refine Va (Vm rfl) rfl ?_
     refine Xd rfl rfl c4 ?_
     refine Va (Vk rfl) rfl ?_
     refine Xd rfl rfl c4 ?_
     refine Va (Zr rfl rfl) rfl ?_
     refine Va (Vn (congrArg Ws c4) rfl) rfl ?_
     refine Va (Vm rfl) rfl ?_
     refine Vb rfl rfl (Zo c5) rfl ?_
     refine Vb rfl rfl (Zo c5) rfl ?_
     refine Vb rfl rfl (Zo c5) rfl ?_
     refine Vb rfl rfl (Zo c5) rfl ?_
     refine Va (Vo (congrArg Ws c5) rfl) rfl ?_
     refine Vf ?_
     obtain rfl := Wt hF
     refine Xy ?_
     exact Vt hn [] (by decide) ⟨Vr rfl (.vs _ _), Vr rfl (.int _ _), Vr rfl (.bool _), trivial⟩ trivial
    ·have hF := Yp c5 hF
     refine Va (Xc rfl) rfl ?_
     refine Vj (Xp rfl Try.call44 (F_ref39_belts_ok h3 _)) rfl ?_
     refine Va (Zp rfl) rfl ?_
     refine Va (Vm rfl) rfl ?_
     refine Xd rfl rfl c4 ?_
     refine Va (Vk rfl) rfl ?_
     refine Xd rfl rfl c4 ?_
     refine Va (Zr rfl rfl) rfl ?_
     refine Va (Vn (congrArg Ws c4) rfl) rfl ?_
     refine Va (Vm rfl) rfl ?_
     refine Xd rfl rfl c5 ?_
     refine Va (Vk rfl) rfl ?_
     refine Xd rfl rfl c5 ?_
     refine Va (Xc rfl) rfl ?_
     refine Xd rfl rfl c5 ?_
     refine Va (Xk (Xv rfl rfl te_27) (congrArg (fun n : Nat => Wr .i64 (n : Int)) (Wx _))) rfl ?_
     refine Xd rfl rfl c5 ?_
     refine Va (rd_geq rfl rfl) rfl ?_
     refine Va (Vn (congrArg Ws c5) rfl) rfl ?_
     refine Vf ?_
     obtain rfl := Wt hF
     refine Xy ?_
     exact Vt hn [] (by decide) ⟨Vr rfl (.vs _ _), Vr rfl (.int _ _), Vr rfl (.bool _), trivial⟩ trivial
  ·rintro _ _ _ _ ⟨rfl, hw⟩
   refine ⟨_, _, _, hw, ?_⟩
   refine Xh rfl (fun c6 => ?_) (fun c6 => ?_)
   ·have hF := Yo c6 hF
    refine Vi ?_
    refine Vd ?_
    refine Vj (vef_nilsN hn rfl 3 1 (Wv _) (rd_asN rfl)) rfl ?_
    refine Vf ?_
    refine Xb ?_
    obtain rfl := Wt hF
    refine Wg ?_
    exact Vp ⟨rfl, trivial⟩
   ·have hF := Yp c6 hF
    refine Xn ?_
    refine Vi ?_
    refine Vd ?_
    refine Vj (vef_nilsN hn rfl 3 1 (Wv _) (rd_asN rfl)) rfl ?_
    refine Vf ?_
    refine Vi ?_
    refine Vi ?_
    refine Vd ?_
    refine Va (Xa rfl) rfl ?_
    refine Vf ?_
    refine Yh ?_
    obtain ⟨o8, ho8, hF⟩ := Yt hF
    refine Vw (Wb (F_ref39_Above_L1 p0 p1) (fun s7 E' lw lc => Yb E' lw lc [(0, .vs 2 (Wq T_Belt.enc p0)), (1, .int .i64 p1), (5, .sl (n + 0) 0 0 (s7.2).length), (6, .int .i64 s7.1)] low [⟨3, 1, Wq (Wr .i64) s7.2, 0⟩]) (fun o8 => OnlyE (.exit 0) (fun E' lw lc => Yb E' lw lc [(5, .sl (n + 0) 0 0 (o8).length)] low [⟨3, 1, Wq (Wr .i64) o8, 0⟩])) ho8 ?_ (by rintro _ _ _ _ ⟨h, _⟩ <;> cases h) ?_) ?_
    ·exact Vp ⟨rfl, rfl, rfl, rfl, trivial⟩
    ·rintro s7 os7 _ _ _ hF hw
     unfold F_ref39_Above_L1 at hF
     refine Yd hw ?_
     refine Vi ?_
     refine Vi ?_
     refine Vd ?_
     refine Va (Vk rfl) rfl ?_
     refine Va (Xc rfl) rfl ?_
     refine Va (Xk (Xv rfl rfl te_27) (congrArg (fun n : Nat => Wr .i64 (n : Int)) (Wx _))) rfl ?_
     refine Va (Zr rfl rfl) rfl ?_
     refine Vf ?_
     refine Xh rfl (fun c9 => ?_) (fun c9 => ?_)
     ·have hF := Yo c9 hF
      refine Xn ?_
      refine Vi ?_
      refine Yh ?_
      refine Vi ?_
      refine Vd ?_
      obtain ⟨x10, h11, hF⟩ := Yt hF
      refine Va (Xc rfl) rfl ?_
      refine Va (Vk rfl) rfl ?_
      refine Va (Xk (Yl rfl rfl h11 te_27 ts_31) (v' := .vptr [.int .i64 x10.Onto, .int .i64 x10.Warn] 0) rfl) rfl ?_
      refine Va (Yf rfl tf_31_0 ts_3 (by decide)) rfl ?_
      refine Va (Xj rfl ta_3 rfl) rfl ?_
      refine Va (Xa rfl) rfl ?_
      refine Vf ?_
      refine Yh ?_
      obtain ⟨o13, ho13, hF⟩ := Yt hF
      refine Vw (Wb (F_ref39_Above_L2 p0 p1 s7) (fun s12 E' lw lc => Yb E' lw lc [(0, .vs 2 (Wq T_Belt.enc p0)), (1, .int .i64 p1), (5, .sl (n + 0) 0 0 (s12.2).length), (6, .int .i64 s7.1), (7, .int .i64 s12.1)] low [⟨3, 1, Wq (Wr .i64) s12.2, 0⟩]) (fun o13 => OnlyE (.exit 2) (fun E' lw lc => Yb E' lw lc [(0, .vs 2 (Wq T_Belt.enc p0)), (1, .int .i64 p1), (5, .sl (n + 0) 0 0 (o13).length), (6, .int .i64 s7.1)] low [⟨3, 1, Wq (Wr .i64) o13, 0⟩])) ho13 ?_ (by rintro _ _ _ _ ⟨h, _⟩ <;> cases h) ?_) ?_
      ·exact Vp ⟨rfl, rfl, rfl, rfl, rfl, trivial⟩
      ·rintro s12 os12 _ _ _ hF hw
       unfold F_ref39_Above_L2 at hF
       refine Yd hw ?_
       refine Vi ?_
       refine Vi ?_
       refine Vd ?_
       refine Va (Vk rfl) rfl ?_
       refine Va (rd_geq rfl rfl) rfl ?_
       refine Vf ?_
       refine Xh rfl (fun c14 => ?_) (fun c14 => ?_)
       ·have hF := Yo c14 hF
        refine Xn ?_
        refine Vi ?_
        obtain ⟨o15, ho15, hF⟩ := Yt hF
        refine Vw (Q' := (fun o15 => OnlyE .normal (fun E' lw lc => Yb E' lw lc [(0, .vs 2 (Wq T_Belt.enc p0)), (1, .int .i64 p1), (5, .sl (n + 0) 0 0 (o15).length), (6, .int .i64 s7.1), (7, .int .i64 s12.1)] low [⟨3, 1, Wq (Wr .i64) o15, 0⟩])) o15) ?_ ?_
        ·replace hF := ho15
         refine Yh ?_
         refine Vi ?_
         refine Vd ?_
         refine Va (Vk rfl) rfl ?_
         refine Va (Vk rfl) rfl ?_
         refine Va (Xl rfl rfl) rfl ?_
         refine Vf ?_
         refine Xh rfl (fun c16 => ?_) (fun c16 => ?_)
         ·have hF := Yo c16 hF
          refine Vd ?_
          obtain ⟨x17, h18, hF⟩ := Yt hF
          refine Va (rd_mvL rfl) rfl ?_
          refine Va (Vk rfl) rfl ?_
          refine Vj (vef_litF (es := Wq (Wr .i64) [s7.1]) ⟨rfl, rfl, trivial⟩ rfl rfl (nt_all rfl) te_22 ts_3 tz_3 rfl rfl (Wv _) (by decide) (Ya (fun _ => .int _ _))) rfl ?_
          refine Vj (vef_apL (f := (Wr .i64)) (l := s12.2) (ys := [s7.1]) rfl rfl (Ve hn rfl) rfl (src_vs rfl) te_22 ts_3 tb_3 (by decide) tz_3 rfl h18 (Xr hn rfl)) rfl ?_
          refine Va (rd_asL rfl) rfl ?_
          refine Vf ?_
          obtain rfl := Wt hF
          refine Xy ?_
          exact Vt hn [(0, 0 + 1)] (by decide) ⟨Vr rfl (.vs _ _), Vr rfl (.int _ _), Xq 0 0 rfl rfl, Vr rfl (.int _ _), Vr rfl (.int _ _), trivial⟩ ⟨⟨_, rfl, rfl, .same _ _ _ _ (Vh (fun _ => .int _ _))⟩, trivial⟩
         ·have hF := Yp c16 hF
          refine Xn ?_
          obtain rfl := Wt hF
          refine Xy ?_
          exact Vp ⟨rfl, rfl, rfl, rfl, rfl, trivial⟩
        ·rintro _ _ _ _ ⟨rfl, hw⟩
         refine ⟨_, _, _, hw, ?_⟩
         refine Vd ?_
         obtain ⟨x19, h20, hF⟩ := Yt hF
         refine Va (Xc rfl) rfl ?_
         refine Va (Vk rfl) rfl ?_
         refine Va (Xk (Yl rfl rfl h20 te_27 ts_31) (v' := .vptr [.int .i64 x19.Onto, .int .i64 x19.Warn] 0) rfl) rfl ?_
         refine Va (Yf rfl tf_31_0 ts_3 (by decide)) rfl ?_
         refine Va (Xj rfl ta_3 rfl) rfl ?_
         refine Va (Xa rfl) rfl ?_
         refine Vf ?_
         obtain rfl := Wt hF
         refine Xy ?_
         exact Vp ⟨rfl, rfl, rfl, rfl, rfl, trivial⟩
       ·have hF := Yp c14 hF
        refine Wi ?_
        obtain rfl := Wt hF
        refine Xy ?_
        exact Vp ⟨rfl, rfl, rfl, rfl, trivial⟩
      ·rintro _ _ _ _ ⟨rfl, hw⟩
       refine ⟨_, _, _, hw, ?_⟩
       refine Vd ?_
       refine Va (Vk rfl) rfl ?_
       refine Va (Wk rfl rfl rfl) rfl ?_
       refine Va (Xa rfl) rfl ?_
       refine Vf ?_
       obtain rfl := Wt hF
       refine Xy ?_
       exact Vp ⟨rfl, rfl, rfl, rfl, trivial⟩
     ·have hF := Yp c9 hF
      refine Wi ?_
      obtain rfl := Wt hF
      refine Xy ?_
      exact Vp ⟨rfl, trivial⟩
    ·rintro _ _ _ _ ⟨rfl, hw⟩
     refine ⟨_, _, _, hw, ?_⟩
     refine Vi ?_
     refine Vd ?_
     refine Va (rd_mvL rfl) rfl ?_
     refine Va (rd_asL rfl) rfl ?_
     refine Vf ?_
     refine Xb ?_
     obtain rfl := Wt hF
     refine Wg ?_
     exact Vp ⟨rfl, trivial⟩
 ·rintro _ _ _ _ ⟨he, hw⟩
  refine ⟨_, _, _, hw, ?_⟩
  exact bodyQ_all he [.sl (n + 0) 0 0 (r).length] ⟨rfl, trivial⟩ ⟨rfl, rfl⟩

theorem F_ref39_stop_ok {p0 : List T_Belt} {p1 : T_Line} {p2 : Int} {r : T_Line} (hF : F_ref39_stop p0 p1 p2 = some r) (low : List AObj) {n : Nat} (hn : low.length = n) :
    Ys Try.prog 58 [.vs 2 (Wq T_Belt.enc p0), .agg [.int .i64 p1.Time, .vs 1 (Wq (Wr .i64) p1.States), .vs 1 (Wq (Wr .i64) p1.Since), .vs 1 (Wq Ws p1.Pulled), .vs 1 (Wq Ws p1.Held)], .int .i64 p2] low fun x low' => x = .agg [.int .i64 r.Time, .sl (n + 0) 0 0 (r.States).length, .sl (n + 1) 0 0 (r.Since).length, .sl (n + 2) 0 0 (r.Pulled).length, .sl (n + 3) 0 0 (r.Held).length] ∧ low' = low ++ [⟨3, 1, Wq (Wr .i64) r.States, 0⟩, ⟨3, 1, Wq (Wr .i64) r.Since, 0⟩, ⟨4, 1, Wq Ws r.Pulled, 0⟩, ⟨4, 1, Wq Ws r.Held, 0⟩] := by
 refine Vz (nt := 49) (rs := [.cell 6 34]) Try.func58 rfl rfl (Wu rfl) rfl ?_
 refine Vw (Q' := FnE (fun E' lw lc => Yb E' lw lc [(6, .ptr (n + 4) 0 0 0)] low [⟨3, 1, Wq (Wr .i64) r.States, 0⟩, ⟨3, 1, Wq (Wr .i64) r.Since, 0⟩, ⟨4, 1, Wq Ws r.Pulled, 0⟩, ⟨4, 1, Wq Ws r.Held, 0⟩, ⟨34, 5, [.agg [.int .i64 r.Time, .sl (n + 0) 0 0 (r.States).length, .sl (n + 1) 0 0 (r.Since).length, .sl (n + 2) 0 0 (r.Pulled).length, .sl (n + 3) 0 0 (r.Held).length]], 0⟩])) ?_ ?_
 ·unfold F_ref39_stop at hF
  refine Vi ?_
  refine Vd ?_
  refine Vj (Zc hn rfl (v := .agg [.int .i64 p1.Time, .vs 1 (Wq (Wr .i64) p1.States), .vs 1 (Wq (Wr .i64) p1.Since), .vs 1 (Wq Ws p1.Pulled), .vs 1 (Wq Ws p1.Held)]) rfl rfl (Wv _) rfl rfl) rfl ?_
  refine Vj (Xe hn rfl tz_34 rfl rfl (Wv _) rfl) rfl ?_
  refine Vf ?_
  refine Vi ?_
  refine Vd ?_
  obtain ⟨x1, h2, hF⟩ := Yt hF
  refine Va (Vv (ds := [.int .i64 p1.Time, .vs 1 (Wq (Wr .i64) p1.States), .vs 1 (Wq (Wr .i64) p1.Since), .vs 1 (Wq Ws p1.Pulled), .vs 1 (Wq Ws p1.Held)]) rfl (Ve hn rfl) rfl ta_34 ts_34 rfl rfl rfl) rfl ?_
  refine Vj (Xg (r := .agg [.int .i64 x1.Time, .sl (n + 2) 0 0 (x1.States).length, .sl (n + 3) 0 0 (x1.Since).length, .sl (n + 4) 0 0 (x1.Pulled).length, .sl (n + 5) 0 0 (x1.Held).length]) (os := [⟨3, 1, Wq (Wr .i64) x1.States, 0⟩, ⟨3, 1, Wq (Wr .i64) x1.Since, 0⟩, ⟨4, 1, Wq Ws x1.Pulled, 0⟩, ⟨4, 1, Wq Ws x1.Held, 0⟩]) rfl Try.call23 (F_ref39_Copy_ok h2 _ (Xi hn rfl))) rfl ?_
  refine Vj (Vy (p := .agg [.int .i64 x1.Time, .sl (n + 2) 0 0 (x1.States).length, .sl (n + 3) 0 0 (x1.Since).length, .sl (n + 4) 0 0 (x1.Pulled).length, .sl (n + 5) 0 0 (x1.Held).length]) (e' := .agg [.int .i64 x1.Time, .sl (n + 2) 0 0 (x1.States).length, .sl (n + 3) 0 0 (x1.Since).length, .sl (n + 4) 0 0 (x1.Pulled).length, .sl (n + 5) 0 0 (x1.Held).length]) rfl (Ve hn rfl) rfl rfl ts_34 rfl (Ye rfl) rfl (Wu rfl) rfl (Xr hn rfl)) rfl ?_
  refine Vf ?_
  refine Vi ?_
  refine Vd ?_
  obtain ⟨x3, h4, hF⟩ := Yt hF
  obtain ⟨x5, h6, hF⟩ := Yt hF
  refine Va (Xc rfl) rfl ?_
  refine Va (Vk rfl) rfl ?_
  refine Vj (Xg (r := .sl (n + 6) 0 0 (x3).length) (os := [⟨3, 1, Wq (Wr .i64) x3, 0⟩]) rfl Try.call43 (F_ref39_Above_ok h4 _ (Xi hn rfl))) rfl ?_
  refine Va (Vk rfl) rfl ?_
  refine Vj (vef_litF (es := Wq (Wr .i64) [p2]) ⟨rfl, rfl, trivial⟩ rfl rfl (nt_all rfl) te_22 ts_3 tz_3 rfl rfl (Wv _) (by decide) (Ya (fun _ => .int _ _))) rfl ?_
  refine Vj (vef_apL (f := (Wr .i64)) (l := x3) (ys := [p2]) rfl rfl (Ve hn rfl) rfl (src_vs rfl) te_22 ts_3 tb_3 (by decide) tz_3 rfl h6 (Xr hn rfl)) rfl ?_
  refine Va (rd_asL rfl) rfl ?_
  refine Vf ?_
  refine Vi ?_
  refine Vi ?_
  refine Vd ?_
  refine Va (Xa rfl) rfl ?_
  refine Vf ?_
  refine Yh ?_
  obtain ⟨o8, ho8, hF⟩ := Yt hF
  refine Vw (Wb F_ref39_stop_L1 (fun s7 E' lw lc => Yb E' lw lc [(4, .ptr (n + 0) 0 0 0), (6, .ptr (n + 1) 0 0 0), (7, .vs 1 (Wq (Wr .i64) s7.1)), (8, .int .i64 s7.2.1)] low [⟨34, 5, [.agg [.int .i64 s7.2.2.Time, .sl (n + 2) 0 0 (s7.2.2.States).length, .sl (n + 3) 0 0 (s7.2.2.Since).length, .sl (n + 4) 0 0 (s7.2.2.Pulled).length, .sl (n + 5) 0 0 (s7.2.2.Held).length]], 0⟩, ⟨34, 5, [.agg [.int .i64 0, .nils, .nils, .nils, .nils]], 0⟩, ⟨3, 1, Wq (Wr .i64) s7.2.2.States, 0⟩, ⟨3, 1, Wq (Wr .i64) s7.2.2.Since, 0⟩, ⟨4, 1, Wq Ws s7.2.2.Pulled, 0⟩, ⟨4, 1, Wq Ws s7.2.2.Held, 0⟩]) (fun o8 => OnlyE (.exit 0) (fun E' lw lc => Yb E' lw lc [(4, .ptr (n + 0) 0 0 0), (6, .ptr (n + 1) 0 0 0)] low [⟨34, 5, [.agg [.int .i64 o8.Time, .sl (n + 2) 0 0 (o8.States).length, .sl (n + 3) 0 0 (o8.Since).length, .sl (n + 4) 0 0 (o8.Pulled).length, .sl (n + 5) 0 0 (o8.Held).length]], 0⟩, ⟨34, 5, [.agg [.int .i64 0, .nils, .nils, .nils, .nils]], 0⟩, ⟨3, 1, Wq (Wr .i64) o8.States, 0⟩, ⟨3, 1, Wq (Wr .i64) o8.Since, 0⟩, ⟨4, 1, Wq Ws o8.Pulled, 0⟩, ⟨4, 1, Wq Ws o8.Held, 0⟩])) ho8 ?_ (by rintro _ _ _ _ ⟨h, _⟩ <;> cases h) ?_) ?_
  ·refine Weak.trans (Xm (E' := [(4, .ptr (n + 0) 0 0 0), (6, .ptr (n + 1) 0 0 0), (7, .vs 1 (Wq (Wr .i64) x5)), (8, .int .i64 0)]) (loc1 := [⟨34, 5, [.agg [.int .i64 x1.Time, .sl (n + 2) 0 0 (x1.States).length, .sl (n + 3) 0 0 (x1.Since).length, .sl (n + 4) 0 0 (x1.Pulled).length, .sl (n + 5) 0 0 (x1.Held).length]], 0⟩, ⟨34, 5, [.agg [.int .i64 0, .nils, .nils, .nils, .nils]], 0⟩, ⟨3, 1, Wq (Wr .i64) x1.States, 0⟩, ⟨3, 1, Wq (Wr .i64) x1.Since, 0⟩, ⟨4, 1, Wq Ws x1.Pulled, 0⟩, ⟨4, 1, Wq Ws x1.Held, 0⟩, ⟨3, 1, [], (0 + 1) + 1⟩]) hn 6 rfl (Ya (fun _ => .int _ _)) ⟨Vl rfl, Vl rfl, Zj rfl rfl rfl (Vx rfl), Vl rfl, trivial⟩ ⟨.refl _, .refl _, .refl _, .refl _, .refl _, .refl _, .refl _, trivial⟩) ?_
   exact Vt hn [(0, 0), (1, 0), (2, 0), (3, 0), (4, 0), (5, 0)] (by decide) ⟨Yj 0 0 rfl rfl, Yj 1 1 rfl rfl, Vr rfl (.vs _ _), Vr rfl (.int _ _), trivial⟩ ⟨⟨_, rfl, rfl, .agg _ _ _ _ _ ⟨Vr rfl (.int _ _), Xq 2 2 rfl rfl, Xq 3 3 rfl rfl, Xq 4 4 rfl rfl, Xq 5 5 rfl rfl, trivial⟩⟩, ⟨_, rfl, rfl, .same _ _ _ _ (Xt ⟨Xw ⟨.int _ _, .nils, .nils, .nils, .nils, trivial⟩, trivial⟩)⟩, ⟨_, rfl, rfl, .same _ _ _ _ (Vh (fun _ => .int _ _))⟩, ⟨_, rfl, rfl, .same _ _ _ _ (Vh (fun _ => .int _ _))⟩, ⟨_, rfl, rfl, .same _ _ _ _ (Vh (fun _ => .bool _))⟩, ⟨_, rfl, rfl, .same _ _ _ _ (Vh (fun _ => .bool _))⟩, trivial⟩
  ·rintro s7 os7 _ _ _ hF hw
   unfold F_ref39_stop_L1 at hF
   refine Yd hw ?_
   refine Vi ?_
   refine Vi ?_
   refine Vd ?_
   refine Va (Vk rfl) rfl ?_
   refine Va (Xc rfl) rfl ?_
   refine Va (Xk (Xv rfl rfl te_22) (congrArg (fun n : Nat => Wr .i64 (n : Int)) (Wx _))) rfl ?_
   refine Va (Zr rfl rfl) rfl ?_
   refine Vf ?_
   refine Xh rfl (fun c9 => ?_) (fun c9 => ?_)
   ·have hF := Yo c9 hF
    refine Xn ?_
    refine Vi ?_
    obtain ⟨o10, ho10, hF⟩ := Yt hF
    refine Vw (Q' := (fun o10 => OnlyE .normal (fun E' lw lc => Yb E' lw lc [(4, .ptr (n + 0) 0 0 0), (6, .ptr (n + 1) 0 0 0), (7, .vs 1 (Wq (Wr .i64) s7.1)), (8, .int .i64 s7.2.1)] low [⟨34, 5, [.agg [.int .i64 o10.Time, .sl (n + 2) 0 0 (o10.States).length, .sl (n + 3) 0 0 (o10.Since).length, .sl (n + 4) 0 0 (o10.Pulled).length, .sl (n + 5) 0 0 (o10.Held).length]], 0⟩, ⟨34, 5, [.agg [.int .i64 0, .nils, .nils, .nils, .nils]], 0⟩, ⟨3, 1, Wq (Wr .i64) o10.States, 0⟩, ⟨3, 1, Wq (Wr .i64) o10.Since, 0⟩, ⟨4, 1, Wq Ws o10.Pulled, 0⟩, ⟨4, 1, Wq Ws o10.Held, 0⟩])) o10) ?_ ?_
    ·replace hF := ho10
     refine Yh ?_
     refine Vi ?_
     obtain ⟨x11, h12, hF⟩ := Yt hF
     obtain ⟨x13, h14, hF⟩ := Yt hF
     refine Zk [[], [0], [], [], [2, 3], [2, 3, 4], [0, 1, 2, 3, 4, 5], [0, 1, 2, 3, 4, 5, 6], [0, 1, 2, 3, 4, 5, 6, 7]] mixed (by kernel_rfl) rfl ?_
     refine Ym rfl rfl (Vc rfl tf_34_1 ts_22 (by decide)) ?_
     refine Ym rfl rfl (Vg rfl (Ve hn rfl) rfl ta_22 rfl) ?_
     refine Ym rfl rfl (Xc rfl) ?_
     refine Ym rfl rfl (Vk rfl) ?_
     refine Ym rfl rfl (Xk (Yl rfl rfl h12 te_22 ts_3) (v' := .vptr [.int .i64 x11] 0) rfl) ?_
     refine Ym rfl rfl (Xj rfl ta_3 rfl) ?_
     refine Ym rfl rfl (Wa rfl rfl rfl (Ve hn rfl) h14 te_22 ts_3) ?_
     refine Ym rfl rfl (rd_ldL1 rfl (Ve hn rfl) (Zb h14).2 ta_3 rfl) ?_
     refine Ym rfl rfl (Ze rfl rfl) ?_
     refine Yz ?_
     refine Xh rfl (fun c15 => ?_) (fun c15 => ?_)
     ·have hF := Yo c15 hF
      obtain ⟨x16, h17, hF⟩ := Yt hF
      obtain ⟨x18, h19, hF⟩ := Yt hF
      obtain ⟨x20, h21, hF⟩ := Yt hF
      obtain ⟨x22, h23, hF⟩ := Yt hF
      refine Wc [[], [0], [], [], [2, 3], [2, 3, 4], [], [6], [], [], [8, 9], [8, 9, 10], [], [12], [0, 1, 2, 3, 4, 5, 8, 9, 10, 11], [0, 1, 2, 3, 4, 5, 8, 9, 10, 11, 14], [0, 1, 2, 3, 4, 5, 6, 7, 8, 9, 10, 11, 12, 13, 14, 15], [0, 1, 2, 3, 4, 5, 6, 7, 8, 9, 10, 11, 12, 13, 14, 15, 16]] [false, false, false, false, false, false, false, false, false, false, false, false, false, false, false, true, false, true] [(low, [⟨34, 5, [.agg [.int .i64 s7.2.2.Time, .sl (n + 2) 0 0 (s7.2.2.States).length, .sl (n + 3) 0 0 (s7.2.2.Since).length, .sl (n + 4) 0 0 (s7.2.2.Pulled).length, .sl (n + 5) 0 0 (s7.2.2.Held).length]], 0⟩, ⟨34, 5, [.agg [.int .i64 0, .nils, .nils, .nils, .nils]], 0⟩, ⟨3, 1, Wq (Wr .i64) s7.2.2.States, 0⟩, ⟨3, 1, Wq (Wr .i64) s7.2.2.Since, 0⟩, ⟨4, 1, Wq Ws s7.2.2.Pulled, 0⟩, ⟨4, 1, Wq Ws s7.2.2.Held, 0⟩]), (low, [⟨34, 5, [.agg [.int .i64 s7.2.2.Time, .sl (n + 2) 0 0 (s7.2.2.States).length, .sl (n + 3) 0 0 (s7.2.2.Since).length, .sl (n + 4) 0 0 (s7.2.2.Pulled).length, .sl (n + 5) 0 0 (s7.2.2.Held).length]], 0⟩, ⟨34, 5, [.agg [.int .i64 0, .nils, .nils, .nils, .nils]], 0⟩, ⟨3, 1, Wq (Wr .i64) (s7.2.2.States.set ((x16).toNat) 0), 0⟩, ⟨3, 1, Wq (Wr .i64) s7.2.2.Since, 0⟩, ⟨4, 1, Wq Ws s7.2.2.Pulled, 0⟩, ⟨4, 1, Wq Ws s7.2.2.Held, 0⟩]), (low, [⟨34, 5, [.agg [.int .i64 s7.2.2.Time, .sl (n + 2) 0 0 (s7.2.2.States).length, .sl (n + 3) 0 0 (s7.2.2.Since).length, .sl (n + 4) 0 0 (s7.2.2.Pulled).length, .sl (n + 5) 0 0 (s7.2.2.Held).length]], 0⟩, ⟨34, 5, [.agg [.int .i64 0, .nils, .nils, .nils, .nils]], 0⟩, ⟨3, 1, Wq (Wr .i64) (s7.2.2.States.set ((x16).toNat) 0), 0⟩, ⟨3, 1, Wq (Wr .i64) (s7.2.2.Since.set ((x18).toNat) s7.2.2.Time), 0⟩, ⟨4, 1, Wq Ws s7.2.2.Pulled, 0⟩, ⟨4, 1, Wq Ws s7.2.2.Held, 0⟩])] mixed (by kernel_rfl) rfl (lenAll (Xx rfl (Xx rfl (Xx rfl Zn)))) rfl _ rfl rfl ?_
      refine Ym rfl rfl (Vc rfl tf_34_1 ts_22 (by decide)) ?_
      refine Ym rfl rfl (Vg rfl (Ve hn rfl) rfl ta_22 rfl) ?_
      refine Ym rfl rfl (Xc rfl) ?_
      refine Ym rfl rfl (Vk rfl) ?_
      refine Ym rfl rfl (Xk (Yl rfl rfl h17 te_22 ts_3) (v' := .vptr [.int .i64 x16] 0) rfl) ?_
      refine Ym rfl rfl (Xj rfl ta_3 rfl) ?_
      refine Yi _ rfl rfl (Xx (VRd.ntl (Vc rfl tf_34_2 ts_22 (by decide))) (Xx (VRd.ntl (Vc rfl tf_34_2 ts_22 (by decide))) Zn)) ?_
      refine Yi _ rfl rfl (Xx (VRd.ntl (Vg rfl (Ve hn rfl) rfl ta_22 rfl)) (Xx (VRd.ntl (Vg rfl (Ve hn rfl) rfl ta_22 rfl)) Zn)) ?_
      refine Ym rfl rfl (Xc rfl) ?_
      refine Ym rfl rfl (Vk rfl) ?_
      refine Ym rfl rfl (Xk (Yl rfl rfl h19 te_22 ts_3) (v' := .vptr [.int .i64 x18] 0) rfl) ?_
      refine Ym rfl rfl (Xj rfl ta_3 rfl) ?_
      refine Yi _ rfl rfl (Xx (VRd.ntl (Vc rfl tf_34_0 ts_3 (by decide))) (Xx (VRd.ntl (Vc rfl tf_34_0 ts_3 (by decide))) Zn)) ?_
      refine Yi _ rfl rfl (Xx (VRd.ntl (Vg rfl (Ve hn rfl) rfl ta_3 rfl)) (Xx (VRd.ntl (Vg rfl (Ve hn rfl) rfl ta_3 rfl)) Zn)) ?_
      refine Ym rfl rfl (Wa rfl rfl rfl (Ve hn rfl) h21 te_22 ts_3) ?_
      refine Zh rfl rfl rfl (Wl (p := .int .i64 0) (e' := 0) rfl (Ve hn rfl) (Zb h21).2 rfl ts_3 rfl (Ye rfl) (Wu rfl) rfl (Xr hn rfl)) ?_
      refine Ym rfl rfl (Wa rfl rfl rfl (Ve hn rfl) h23 te_22 ts_3) ?_
      refine Zh rfl rfl rfl (Wl (p := .int .i64 s7.2.2.Time) (e' := s7.2.2.Time) rfl (Ve hn rfl) (Zb h23).2 rfl ts_3 rfl (Ye rfl) (Wu rfl) rfl (Xr hn rfl)) ?_
      refine Yz ?_
      obtain rfl := Wt hF
      refine Xy ?_
      exact Vt hn [(0, 0), (1, 0), (2, 0), (3, 0), (4, 0), (5, 0)] (by decide) ⟨Yj 0 0 rfl rfl, Yj 1 1 rfl rfl, Vr rfl (.vs _ _), Vr rfl (.int _ _), trivial⟩ ⟨⟨_, rfl, rfl, .agg _ _ _ _ _ ⟨Vr rfl (.int _ _), Xq 2 2 rfl (congrArg (PV.sl _ _ 0) (Eq.trans rfl List.length_set.symm)), Xq 3 3 rfl (congrArg (PV.sl _ _ 0) (Eq.trans rfl List.length_set.symm)), Xq 4 4 rfl rfl, Xq 5 5 rfl rfl, trivial⟩⟩, ⟨_, rfl, rfl, .same _ _ _ _ (Xt ⟨Xw ⟨.int _ _, .nils, .nils, .nils, .nils, trivial⟩, trivial⟩)⟩, ⟨_, rfl, rfl, .same _ _ _ _ (Vh (fun _ => .int _ _))⟩, ⟨_, rfl, rfl, .same _ _ _ _ (Vh (fun _ => .int _ _))⟩, ⟨_, rfl, rfl, .same _ _ _ _ (Vh (fun _ => .bool _))⟩, ⟨_, rfl, rfl, .same _ _ _ _ (Vh (fun _ => .bool _))⟩, trivial⟩
     ·have hF := Yp c15 hF
      refine Xn ?_
      obtain rfl := Wt hF
      refine Xy ?_
      exact Vp ⟨rfl, rfl, rfl, rfl, trivial⟩
    ·rintro _ _ _ _ ⟨rfl, hw⟩
     refine ⟨_, _, _, hw, ?_⟩
     refine Vd ?_
     refine Va (Vk rfl) rfl ?_
     refine Va (Wk rfl rfl rfl) rfl ?_
     refine Va (Xa rfl) rfl ?_
     refine Vf ?_
     obtain rfl := Wt hF
     refine Xy ?_
     exact Vp ⟨rfl, rfl, rfl, rfl, trivial⟩
   ·have hF := Yp c9 hF
    refine Wi ?_
    obtain rfl := Wt hF
    refine Xy ?_
    exact Vp ⟨rfl, rfl, trivial⟩
  ·rintro _ _ _ _ ⟨rfl, hw⟩
   refine ⟨_, _, _, hw, ?_⟩
   refine Vi ?_
   refine Vd ?_
   refine Va (Vv (ds := [.int .i64 o8.Time, .sl (n + 2) 0 0 (o8.States).length, .sl (n + 3) 0 0 (o8.Since).length, .sl (n + 4) 0 0 (o8.Pulled).length, .sl (n + 5) 0 0 (o8.Held).length]) rfl (Ve hn rfl) rfl ta_34 ts_34 rfl rfl rfl) rfl ?_
   refine Vj (Vy (p := .agg [.int .i64 o8.Time, .sl (n + 2) 0 0 (o8.States).length, .sl (n + 3) 0 0 (o8.Since).length, .sl (n + 4) 0 0 (o8.Pulled).length, .sl (n + 5) 0 0 (o8.Held).length]) (e' := .agg [.int .i64 o8.Time, .sl (n + 2) 0 0 (o8.States).length, .sl (n + 3) 0 0 (o8.Since).length, .sl (n + 4) 0 0 (o8.Pulled).length, .sl (n + 5) 0 0 (o8.Held).length]) rfl (Ve hn rfl) rfl rfl ts_34 rfl (Ye rfl) rfl (Wu rfl) rfl (Xr hn rfl)) rfl ?_
   refine Vf ?_
   refine Xb ?_
   obtain rfl := Wt hF
   refine Wg ?_
   exact Vt hn [(2, 0), (3, 0), (4, 0), (5, 0), (1, 0)] (by decide) ⟨Yj 4 1 rfl rfl, trivial⟩ ⟨⟨_, rfl, rfl, .same _ _ _ _ (Vh (fun _ => .int _ _))⟩, ⟨_, rfl, rfl, .same _ _ _ _ (Vh (fun _ => .int _ _))⟩, ⟨_, rfl, rfl, .same _ _ _ _ (Vh (fun _ => .bool _))⟩, ⟨_, rfl, rfl, .same _ _ _ _ (Vh (fun _ => .bool _))⟩, ⟨_, rfl, rfl, .agg _ _ _ _ _ ⟨Vr rfl (.int _ _), Xq 0 2 rfl rfl, Xq 1 3 rfl rfl, Xq 2 4 rfl rfl, Xq 3 5 rfl rfl, trivial⟩⟩, trivial⟩
 ·rintro _ _ _ _ ⟨he, hw⟩
  refine ⟨_, _, _, hw, ?_⟩
  exact Zm hn 4 rfl (Wu rfl) he [.agg [.int .i64 r.Time, .sl (n + 0) 0 0 (r.States).length, .sl (n + 1) 0 0 (r.Since).length, .sl (n + 2) 0 0 (r.Pulled).length, .sl (n + 3) 0 0 (r.Held).length]] ⟨Vv rfl (Ve hn rfl) rfl ta_34 ts_34 rfl rfl rfl, trivial⟩ ((Xw ⟨.int _ _, .sl _ _ _ _ (Zw rfl), .sl _ _ _ _ (Zw rfl), .sl _ _ _ _ (Zw rfl), .sl _ _ _ _ (Zw rfl), trivial⟩)) ⟨Vh (fun _ => .int _ _), Vh (fun _ => .int _ _), Vh (fun _ => .bool _), Vh (fun _ => .bool _), trivial⟩ ⟨rfl, rfl⟩

theorem F_ref39_Stop_ok {p0 : List T_Belt} {p1 : T_Line} {p2 : Int} {r : T_Line × Int} (hF : F_ref39_Stop p0 p1 p2 = some r) (low : List AObj) {n : Nat} (hn : low.length = n) :
    Ys Try.prog 47 [.vs 2 (Wq T_Belt.enc p0), .agg [.int .i64 p1.Time, .vs 1 (Wq (Wr .i64) p1.States), .vs 1 (Wq (Wr .i64) p1.Since), .vs 1 (Wq Ws p1.Pulled), .vs 1 (Wq Ws p1.Held)], .int .i64 p2] low fun x low' => x = .tup [.agg [.int .i64 r.1.Time, .sl (n + 0) 0 0 (r.1.States).length, .sl (n + 1) 0 0 (r.1.Since).length, .sl (n + 2) 0 0 (r.1.Pulled).length, .vs 1 (Wq Ws r.1.Held)], .int .i64 r.2] ∧ low' = low ++ [⟨3, 1, Wq (Wr .i64) r.1.States, 0⟩, ⟨3, 1, Wq (Wr .i64) r.1.Since, 0⟩, ⟨4, 1, Wq Ws r.1.Pulled, 0⟩] := by
 refine Vz (nt := 22) (rs := [.cell 6 34, .tmp 7]) Try.func47 rfl rfl (Wu rfl) rfl ?_
 refine Vw (Q' := FnE (fun E' lw lc => Yb E' lw lc [(6, .ptr (n + 3) 0 0 0), (7, .int .i64 r.2)] low [⟨3, 1, Wq (Wr .i64) r.1.States, 0⟩, ⟨3, 1, Wq (Wr .i64) r.1.Since, 0⟩, ⟨4, 1, Wq Ws r.1.Pulled, 0⟩, ⟨34, 5, [.agg [.int .i64 r.1.Time, .sl (n + 0) 0 0 (r.1.States).length, .sl (n + 1) 0 0 (r.1.Since).length, .sl (n + 2) 0 0 (r.1.Pulled).length, .vs 1 (Wq Ws r.1.Held)]], 0⟩])) ?_ ?_
 ·unfold F_ref39_Stop at hF
  refine Vi ?_
  refine Vd ?_
  refine Vj (Zc hn rfl (v := .agg [.int .i64 p1.Time, .vs 1 (Wq (Wr .i64) p1.States), .vs 1 (Wq (Wr .i64) p1.Since), .vs 1 (Wq Ws p1.Pulled), .vs 1 (Wq Ws p1.Held)]) rfl rfl (Wv _) rfl rfl) rfl ?_
  refine Vj (Xe hn rfl tz_34 rfl rfl (Wv _) rfl) rfl ?_
  refine Va (Xa rfl) rfl ?_
  refine Vf ?_
  refine Vi ?_
  refine Vi ?_
  refine Vd ?_
  obtain ⟨x1, h2, hF⟩ := Yt hF
  refine Va (Xc rfl) rfl ?_
  refine Va (Vv (ds := [.int .i64 p1.Time, .vs 1 (Wq (Wr .i64) p1.States), .vs 1 (Wq (Wr .i64) p1.Since), .vs 1 (Wq Ws p1.Pulled), .vs 1 (Wq Ws p1.Held)]) rfl (Ve hn rfl) rfl ta_34 ts_34 rfl rfl rfl) rfl ?_
  refine Va (Vk rfl) rfl ?_
  refine Vj (Xp rfl Try.call57 (F_ref39_check_ok h2 _)) rfl ?_
  refine Va (Xa rfl) rfl ?_
  refine Vf ?_
  refine Vi ?_
  refine Vd ?_
  refine Va (Vk rfl) rfl ?_
  refine Va (Ze rfl rfl) rfl ?_
  refine Vf ?_
  refine Xh rfl (fun c3 => ?_) (fun c3 => ?_)
  ·have hF := Yo c3 hF
   refine Vi ?_
   refine Vd ?_
   obtain ⟨x4, h5, hF⟩ := Yt hF
   refine Va (Vv (ds := [.int .i64 p1.Time, .vs 1 (Wq (Wr .i64) p1.States), .vs 1 (Wq (Wr .i64) p1.Since), .vs 1 (Wq Ws p1.Pulled), .vs 1 (Wq Ws p1.Held)]) rfl (Ve hn rfl) rfl ta_34 ts_34 rfl rfl rfl) rfl ?_
   refine Vj (Xg (r := .agg [.int .i64 x4.Time, .sl (n + 2) 0 0 (x4.States).length, .sl (n + 3) 0 0 (x4.Since).length, .sl (n + 4) 0 0 (x4.Pulled).length, .sl (n + 5) 0 0 (x4.Held).length]) (os := [⟨3, 1, Wq (Wr .i64) x4.States, 0⟩, ⟨3, 1, Wq (Wr .i64) x4.Since, 0⟩, ⟨4, 1, Wq Ws x4.Pulled, 0⟩, ⟨4, 1, Wq Ws x4.Held, 0⟩]) rfl Try.call23 (F_ref39_Copy_ok h5 _ (Xi hn rfl))) rfl ?_
   refine Va (Vk rfl) rfl ?_
   refine Vj (Vy (p := .agg [.int .i64 x4.Time, .sl (n + 2) 0 0 (x4.States).length, .sl (n + 3) 0 0 (x4.Since).length, .sl (n + 4) 0 0 (x4.Pulled).length, .sl (n + 5) 0 0 (x4.Held).length]) (e' := .agg [.int .i64 x4.Time, .sl (n + 2) 0 0 (x4.States).length, .sl (n + 3) 0 0 (x4.Since).length, .sl (n + 4) 0 0 (x4.Pulled).length, .sl (n + 5) 0 0 (x4.Held).length]) rfl (Ve hn rfl) rfl rfl ts_34 rfl (Ye rfl) rfl (Wu rfl) rfl (Xr hn rfl)) rfl ?_
   refine Va (Xa rfl) rfl ?_
   refine Vf ?_
   refine Xb ?_
   obtain rfl := Wt hF
   refine Wg ?_
   refine Weak.trans (Xm (E' := [(6, .ptr (n + 1) 0 0 0), (7, .int .i64 x1)]) (loc1 := [⟨34, 5, [.agg [.int .i64 p1.Time, .vs 1 (Wq (Wr .i64) p1.States), .vs 1 (Wq (Wr .i64) p1.Since), .vs 1 (Wq Ws p1.Pulled), .vs 1 (Wq Ws p1.Held)]], 0⟩, ⟨34, 5, [.agg [.int .i64 x4.Time, .sl (n + 2) 0 0 (x4.States).length, .sl (n + 3) 0 0 (x4.Since).length, .sl (n + 4) 0 0 (x4.Pulled).length, .vs 1 (Wq Ws x4.Held)]], 0⟩, ⟨3, 1, Wq (Wr .i64) x4.States, 0⟩, ⟨3, 1, Wq (Wr .i64) x4.Since, 0⟩, ⟨4, 1, Wq Ws x4.Pulled, 0⟩, ⟨4, 1, [], 0 + 1⟩]) hn 5 rfl (Ya (fun _ => .bool _)) ⟨Vl rfl, Vl rfl, trivial⟩ ⟨.refl _, Yr ⟨Vl rfl, Vl rfl, Vl rfl, Vl rfl, Zj rfl rfl rfl (Vx rfl), trivial⟩, .refl _, .refl _, .refl _, .refl _, trivial⟩) ?_
   exact Vt hn [(2, 0), (3, 0), (4, 0), (1, 0)] (by decide) ⟨Yj 3 1 rfl rfl, Vr rfl (.int _ _), trivial⟩ ⟨⟨_, rfl, rfl, .same _ _ _ _ (Vh (fun _ => .int _ _))⟩, ⟨_, rfl, rfl, .same _ _ _ _ (Vh (fun _ => .int _ _))⟩, ⟨_, rfl, rfl, .same _ _ _ _ (Vh (fun _ => .bool _))⟩, ⟨_, rfl, rfl, .agg _ _ _ _ _ ⟨Vr rfl (.int _ _), Xq 0 2 rfl rfl, Xq 1 3 rfl rfl, Xq 2 4 rfl rfl, Vr rfl (.vs _ _), trivial⟩⟩, trivial⟩
  ·have hF := Yp c3 hF
   refine Xn ?_
   refine Vi ?_
   refine Vd ?_
   obtain ⟨x6, h7, hF⟩ := Yt hF
   refine Va (Xc rfl) rfl ?_
   refine Va (Vv (ds := [.int .i64 p1.Time, .vs 1 (Wq (Wr .i64) p1.States), .vs 1 (Wq (Wr .i64) p1.Since), .vs 1 (Wq Ws p1.Pulled), .vs 1 (Wq Ws p1.Held)]) rfl (Ve hn rfl) rfl ta_34 ts_34 rfl rfl rfl) rfl ?_
   refine Va (Vk rfl) rfl ?_
   refine Vj (Xg (r := .agg [.int .i64 x6.Time, .sl (n + 2) 0 0 (x6.States).length, .sl (n + 3) 0 0 (x6.Since).length, .sl (n + 4) 0 0 (x6.Pulled).length, .sl (n + 5) 0 0 (x6.Held).length]) (os := [⟨3, 1, Wq (Wr .i64) x6.States, 0⟩, ⟨3, 1, Wq (Wr .i64) x6.Since, 0⟩, ⟨4, 1, Wq Ws x6.Pulled, 0⟩, ⟨4, 1, Wq Ws x6.Held, 0⟩]) rfl Try.call58 (F_ref39_stop_ok h7 _ (Xi hn rfl))) rfl ?_
   refine Vj (Vy (p := .agg [.int .i64 x6.Time, .sl (n + 2) 0 0 (x6.States).length, .sl (n + 3) 0 0 (x6.Since).length, .sl (n + 4) 0 0 (x6.Pulled).length, .sl (n + 5) 0 0 (x6.Held).length]) (e' := .agg [.int .i64 x6.Time, .sl (n + 2) 0 0 (x6.States).length, .sl (n + 3) 0 0 (x6.Since).length, .sl (n + 4) 0 0 (x6.Pulled).length, .sl (n + 5) 0 0 (x6.Held).length]) rfl (Ve hn rfl) rfl rfl ts_34 rfl (Ye rfl) rfl (Wu rfl) rfl (Xr hn rfl)) rfl ?_
   refine Va (Xa rfl) rfl ?_
   refine Vf ?_
   refine Xb ?_
   obtain rfl := Wt hF
   refine Wg ?_
   refine Weak.trans (Xm (E' := [(6, .ptr (n + 1) 0 0 0), (7, .int .i64 0)]) (loc1 := [⟨34, 5, [.agg [.int .i64 p1.Time, .vs 1 (Wq (Wr .i64) p1.States), .vs 1 (Wq (Wr .i64) p1.Since), .vs 1 (Wq Ws p1.Pulled), .vs 1 (Wq Ws p1.Held)]], 0⟩, ⟨34, 5, [.agg [.int .i64 x6.Time, .sl (n + 2) 0 0 (x6.States).length, .sl (n + 3) 0 0 (x6.Since).length, .sl (n + 4) 0 0 (x6.Pulled).length, .vs 1 (Wq Ws x6.Held)]], 0⟩, ⟨3, 1, Wq (Wr .i64) x6.States, 0⟩, ⟨3, 1, Wq (Wr .i64) x6.Since, 0⟩, ⟨4, 1, Wq Ws x6.Pulled, 0⟩, ⟨4, 1, [], 0 + 1⟩]) hn 5 rfl (Ya (fun _ => .bool _)) ⟨Vl rfl, Vl rfl, trivial⟩ ⟨.refl _, Yr ⟨Vl rfl, Vl rfl, Vl rfl, Vl rfl, Zj rfl rfl rfl (Vx rfl), trivial⟩, .refl _, .refl _, .refl _, .refl _, trivial⟩) ?_
   exact Vt hn [(2, 0), (3, 0), (4, 0), (1, 0)] (by decide) ⟨Yj 3 1 rfl rfl, Vr rfl (.int _ _), trivial⟩ ⟨⟨_, rfl, rfl, .same _ _ _ _ (Vh (fun _ => .int _ _))⟩, ⟨_, rfl, rfl, .same _ _ _ _ (Vh (fun _ => .int _ _))⟩, ⟨_, rfl, rfl, .same _ _ _ _ (Vh (fun _ => .bool _))⟩, ⟨_, rfl, rfl, .agg _ _ _ _ _ ⟨Vr rfl (.int _ _), Xq 0 2 rfl rfl, Xq 1 3 rfl rfl, Xq 2 4 rfl rfl, Vr rfl (.vs _ _), trivial⟩⟩, trivial⟩
 ·rintro _ _ _ _ ⟨he, hw⟩
  refine ⟨_, _, _, hw, ?_⟩
  exact Zm hn 3 rfl (Wu rfl) he [.agg [.int .i64 r.1.Time, .sl (n + 0) 0 0 (r.1.States).length, .sl (n + 1) 0 0 (r.1.Since).length, .sl (n + 2) 0 0 (r.1.Pulled).length, .vs 1 (Wq Ws r.1.Held)], .int .i64 r.2] ⟨Vv rfl (Ve hn rfl) rfl ta_34 ts_34 rfl rfl rfl, rfl, trivial⟩ ((lt_tup ⟨(Xw ⟨.int _ _, .sl _ _ _ _ (Zw rfl), .sl _ _ _ _ (Zw rfl), .sl _ _ _ _ (Zw rfl), .vs _ _, trivial⟩), .int _ _, trivial⟩)) ⟨Vh (fun _ => .int _ _), Vh (fun _ => .int _ _), Vh (fun _ => .bool _), trivial⟩ ⟨rfl, rfl⟩

end Go.Proofs.Ytmomjhbinkmefaa
