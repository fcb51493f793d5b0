/- Printed by wip/lift/lift.py: the walks that show that the program computes them. -/
import Derived.Test.YtmomjhbinkmefaaR39T
import Derived.Test.YtmomjhbinkmefaaAmlDE
import Derived.Test.YtmomjhbinkmefaaL39D
namespace Go.Proofs.Ytmomjhbinkmefaa
open Go Go.Aml Go.L
attribute [local irreducible] VRd VEf VOp VOps VWp DOps
set_option linter.unusedVariables false
open Go.Aml renaming vops_rd → Va, vops_skip → Vb, rd_fieldAddr → Vc, vwp_region → Vd, getO_N → Ve, vops_nil → Vf, rd_load1 → Vg, ltObj_map → Vh, vwp_seq → Vi, vops_efE → Vj, rd_mvI → Vk, cv_same → Vl, rd_mvB → Vm, rd_pickF → Vn, rd_pickT → Vo, weak_sub → Vp, dops_skip → Vq, rn_low → Vr, lenS → Vs, weak_pick → Vt, vef_into → Vu, rd_loadN → Vv, vwp_monoW → Vw, full_take → Vx, vef_store → Vy, vcalls_of_body → Vz, rd_asI → Xa, vwp_ret → Xb, rd_mvV → Xc, vt1 → Xd, vef_allocN → Xe, VRd → Xf, vef_callN → Xg, vwp_cond → Xh, len_app → Xi, rd_loadV1 → Xj, rd_to → Xk, rd_eql → Xl, weak_freezeN → Xm, vwp_skip → Xn, len_setL → Xo, vef_callP → Xp, rn_sl → Xq, setO_N → Xr, rx1 → Xs, ltObj_es → Xt, rd_extract → Xu, rd_lenV → Xv, lt_agg → Xw, all1 → Xx, onlyE → Xy, rd_asB → Xz, lt_map → Ya, Weak → Yb, dopx_rd → Yc, vwp_weak → Yd, nt_ne → Ye, rd_fieldVaddr → Yf, dops_skipX → Yg, vwp_block → Yh, dops_rdW → Yi, rn_ptr → Yj, mv_sl → Yk, rd_ixV → Yl, dr1 → Ym, vef_mkN → Yn, bifT → Yo, bifF → Yp, sets_own → Yq, cvo_agg → Yr, VCalls → Ys, bnd → Yt, allx1 → Yu, ne_low' → Yv, getO_B → Yw, ne_own → Yx, weak_room → Yy, dops_nil → Yz, view_same → Za, getI_some → Zb, vef_boxN → Zc, bodyQ_pure → Zd, rd_neq → Ze, dopx_ef → Zf, vef_callS → Zg, dops_ef → Zh, view_sl → Zi, cv_sl → Zj, vwp_drawn0 → Zk, sets_nil → Zl, bodyQ_some → Zm, all0 → Zn, neT → Zo, rd_not → Zp, rd_mvP → Zq, rd_lss → Zr, na1 → Zs, get_N → Zt, dt1 → Zu, rd_nilPtr → Zv, lt_kk → Zw, vcalls_low → Zx, ex1 → Zy, neF → Zz, rd_ixS → Wa, vwp_loopC → Wb, vwp_drawn → Wc, sets_B → Wd, bor_start → We, borC → Wf, fnR → Wg, rd_build → Wh, vwp_exit → Wi, mv_ptr → Wj, rd_add → Wk, vef_stL → Wl, lp_some → Wm, lp_bindE → Wn, nt_all2 → Wo, get_B → Wp
open List renaming map → Wq
open Go.Aml.PV renaming int → Wr
open Go.Aml.PV renaming bool → Ws
open Option.some renaming inj → Wt
open Nat renaming le_of_ble_eq_true → Wu
open Nat renaming succ_pos → Wv
open Bool renaming eq_false_or_eq_true → Ww
open List renaming length_map → Wx
set_option maxHeartbeats 4000000

theorem mixed : Try.prog.follows .mixedOrders = true := by kernel_rfl


theorem F_made_Light_ok {p0 : List Int} {r : Bool} (hF : F_made_Light p0 = some r) (low : List AObj) :
    Ys Try.prog 7 [.vs 1 (Wq (Wr .i64) p0)] low fun x low' => x = .bool r ∧ low' = low := by
 refine Vz (nt := 6) (rs := [.tmp 2]) Try.func7 rfl rfl (Wu rfl) rfl ?_
 refine Vw (Q' := FnE (fun E' lw lc => Yb E' lw lc [(2, .bool r)] low [])) ?_ ?_
 ·unfold F_made_Light at hF
  refine Vi ?_
  refine Vd ?_
  refine Va (Xz rfl) rfl ?_
  refine Vf ?_
  refine Vi ?_
  refine Vd ?_
  refine Va (Xc rfl) rfl ?_
  refine Va (Xk (Xv rfl rfl te_22) (congrArg (fun n : Nat => Wr .i64 (n : Int)) (Wx _))) rfl ?_
  refine Va (rd_leq rfl rfl) rfl ?_
  refine Va (Xz rfl) rfl ?_
  refine Vf ?_
  refine Xb ?_
  obtain rfl := Wt hF
  refine Wg ?_
  exact Vp ⟨rfl, trivial⟩
 ·rintro _ _ _ _ ⟨he, hw⟩
  refine ⟨_, _, _, hw, ?_⟩
  exact Zd he [.bool r] ⟨rfl, trivial⟩ (.bool _) ⟨rfl, rfl⟩

theorem F_lists_In_ok {p0 : Int} {p1 : Int} {p2 : Int} {r : Bool} (hF : F_lists_In p0 p1 p2 = some r) (low : List AObj) :
    Ys Try.prog 33 [.int .i64 p0, .int .i64 p1, .int .i64 p2] low fun x low' => x = .bool r ∧ low' = low := by
 refine Vz (nt := 15) (rs := [.tmp 6]) Try.func33 rfl rfl (Wu rfl) rfl ?_
 refine Vw (Q' := FnE (fun E' lw lc => Yb E' lw lc [(6, .bool r)] low [])) ?_ ?_
 ·unfold F_lists_In at hF
  refine Vi ?_
  refine Vd ?_
  refine Va (Xz rfl) rfl ?_
  refine Vf ?_
  refine Vi ?_
  refine Vd ?_
  rcases Ww (decide (p1 ≤ p0)) with c1 | c1
  ·have hF := Yo c1 hF
   refine Va (Vk rfl) rfl ?_
   refine Va (Vk rfl) rfl ?_
   refine Va (rd_geq rfl rfl) rfl ?_
   refine Va (Vm rfl) rfl ?_
   refine Xd rfl rfl c1 ?_
   refine Va (Vk rfl) rfl ?_
   refine Xd rfl rfl c1 ?_
   refine Va (Vk rfl) rfl ?_
   refine Xd rfl rfl c1 ?_
   refine Va (rd_leq rfl rfl) rfl ?_
   refine Va (Vo (congrArg Ws c1) rfl) rfl ?_
   refine Va (Xz rfl) rfl ?_
   refine Vf ?_
   refine Xb ?_
   obtain rfl := Wt hF
   refine Wg ?_
   exact Vp ⟨rfl, trivial⟩
  ·have hF := Yp c1 hF
   refine Va (Vk rfl) rfl ?_
   refine Va (Vk rfl) rfl ?_
   refine Va (rd_geq rfl rfl) rfl ?_
   refine Va (Vm rfl) rfl ?_
   refine Vb rfl rfl (Zz c1) rfl ?_
   refine Vb rfl rfl (Zz c1) rfl ?_
   refine Vb rfl rfl (Zz c1) rfl ?_
   refine Va (Vn (congrArg Ws c1) rfl) rfl ?_
   refine Va (Xz rfl) rfl ?_
   refine Vf ?_
   refine Xb ?_
   obtain rfl := Wt hF
   refine Wg ?_
   exact Vp ⟨rfl, trivial⟩
 ·rintro _ _ _ _ ⟨he, hw⟩
  refine ⟨_, _, _, hw, ?_⟩
  exact Zd he [.bool r] ⟨rfl, trivial⟩ (.bool _) ⟨rfl, rfl⟩

theorem F_belts_sound_ok {p0 : List T_Belt} {r : Bool} (hF : F_belts_sound p0 = some r) (low : List AObj) :
    Ys Try.prog 29 [.vs 2 (Wq T_Belt.enc p0)] low fun x low' => x = .bool r ∧ low' = low := by
 refine Vz (nt := 59) (rs := [.tmp 2]) Try.func29 rfl rfl (Wu rfl) rfl ?_
 refine Vw (Q' := FnE (fun E' lw lc => Yb E' lw lc [(2, .bool r)] low [])) ?_ ?_
 ·unfold F_belts_sound at hF
  refine Vi ?_
  refine Vd ?_
  refine Va (Xz rfl) rfl ?_
  refine Vf ?_
  refine Vi ?_
  refine Vi ?_
  refine Vd ?_
  obtain ⟨x1, h2, hF⟩ := Yt hF
  refine Va (Xc rfl) rfl ?_
  refine Va (Xk (Xv rfl rfl te_27) (congrArg (fun n : Nat => Wr .i64 (n : Int)) (Wx _))) rfl ?_
  refine Vj (Xp rfl Try.call33 (F_lists_In_ok h2 _)) rfl ?_
  refine Va (Zp rfl) rfl ?_
  refine Vf ?_
  refine Xh rfl (fun c3 => ?_) (fun c3 => ?_)
  ·have hF := Yo c3 hF
   refine Vi ?_
   refine Vd ?_
   refine Va (Xz rfl) rfl ?_
   refine Vf ?_
   refine Xb ?_
   obtain rfl := Wt hF
   refine Wg ?_
   exact Vp ⟨rfl, trivial⟩
  ·have hF := Yp c3 hF
   refine Xn ?_
   refine Vi ?_
   refine Vi ?_
   refine Vd ?_
   refine Va (Xc rfl) rfl ?_
   refine Va (Xk (Xv rfl rfl te_27) (congrArg (fun n : Nat => Wr .i64 (n : Int)) (Wx _))) rfl ?_
   refine Va (Vk rfl) rfl ?_
   refine Vf ?_
   refine Yh ?_
   obtain ⟨o5, ho5, hF⟩ := Yt hF
   refine Vw (Wb (F_belts_sound_L1 p0) (fun s4 E' lw lc => Yb E' lw lc [(0, .vs 2 (Wq T_Belt.enc p0)), (12, .vs 2 (Wq T_Belt.enc p0)), (13, .int .i64 ((p0).length : Int)), (14, .int .i64 s4)] low []) (Sum.elim (fun j6 => OnlyE .ret (fun E' lw lc => Yb E' lw lc [(2, .bool false)] low [])) (fun j7 => OnlyE (.exit 0) (fun E' lw lc => Yb E' lw lc [(0, .vs 2 (Wq T_Belt.enc p0))] low []))) ho5 ?_ (by rintro (_|_) _ _ _ ⟨h, _⟩ <;> cases h) ?_) ?_
   ·exact Vp ⟨rfl, rfl, rfl, rfl, trivial⟩
   ·rintro s4 os4 _ _ _ hF hw
    unfold F_belts_sound_L1 at hF
    refine Yd hw ?_
    refine Vi ?_
    refine Vd ?_
    refine Va (Zr rfl rfl) rfl ?_
    refine Vf ?_
    refine Vi ?_
    refine Xh rfl (fun c8 => ?_) (fun c8 => ?_)
    ·have hF := Yo c8 hF
     refine Xn ?_
     refine Vi ?_
     refine Yh ?_
     refine Vi ?_
     refine Vd ?_
     obtain ⟨x9, h10, hF⟩ := Yt hF
     refine Va (Vk rfl) rfl ?_
     refine Va (Xk (Yl rfl rfl h10 te_27 ts_31) (v' := .vptr [.int .i64 x9.Onto, .int .i64 x9.Warn] 0) rfl) rfl ?_
     refine Va (rd_loadVN (ds := [.int .i64 x9.Onto, .int .i64 x9.Warn]) rfl ta_31 ts_31 rfl rfl) rfl ?_
     refine Vj (Xe rfl rfl tz_31 rfl rfl (Wv _) rfl) rfl ?_
     refine Va (Xa rfl) rfl ?_
     refine Vj (Vy (p := .agg [.int .i64 x9.Onto, .int .i64 x9.Warn]) (e' := .agg [.int .i64 x9.Onto, .int .i64 x9.Warn]) rfl (Ve rfl rfl) rfl rfl ts_31 rfl (Ye rfl) rfl (Wu rfl) rfl (Xr rfl rfl)) rfl ?_
     refine Vf ?_
     refine Vi ?_
     obtain ⟨o11, ho11, hF⟩ := Yt hF
     refine Vw (Q' := (fun o11 => OnlyE .normal (fun E' lw lc => Yb E' lw lc [(0, .vs 2 (Wq T_Belt.enc p0)), (12, .vs 2 (Wq T_Belt.enc p0)), (13, .int .i64 ((p0).length : Int)), (14, .int .i64 s4), (37, .bool o11)] low [])) o11) ?_ ?_
     ·replace hF := ho11
      refine Vd ?_
      obtain ⟨x12, h13, hF⟩ := Yt hF
      rcases Ww (!x12) with c14 | c14
      ·have hF := Yo c14 hF
       refine Va (Vc rfl tf_31_0 ts_3 (by decide)) rfl ?_
       refine Va (Vg rfl (Ve rfl rfl) rfl ta_3 rfl) rfl ?_
       refine Va (Xc rfl) rfl ?_
       refine Va (Xk (Xv rfl rfl te_27) (congrArg (fun n : Nat => Wr .i64 (n : Int)) (Wx _))) rfl ?_
       refine Va (rd_sub rfl rfl rfl) rfl ?_
       refine Vj (Xp rfl Try.call33 (F_lists_In_ok h13 _)) rfl ?_
       refine Va (Zp rfl) rfl ?_
       refine Va (Vm rfl) rfl ?_
       refine Vb rfl rfl (Zo c14) rfl ?_
       refine Vb rfl rfl (Zo c14) rfl ?_
       refine Vb rfl rfl (Zo c14) rfl ?_
       refine Vb rfl rfl (Zo c14) rfl ?_
       refine Va (Vo (congrArg Ws c14) rfl) rfl ?_
       refine Va (Vm rfl) rfl ?_
       refine Vb rfl rfl (by decide) rfl ?_
       refine Vb rfl rfl (by decide) rfl ?_
       refine Vb rfl rfl (by decide) rfl ?_
       refine Vb rfl rfl (by decide) rfl ?_
       refine Va (Vo rfl rfl) rfl ?_
       refine Vf ?_
       obtain rfl := Wt hF
       refine Xy ?_
       exact Vt rfl [] (by decide) ⟨Vr rfl (.vs _ _), Vr rfl (.vs _ _), Vr rfl (.int _ _), Vr rfl (.int _ _), Vr rfl (.bool _), trivial⟩ trivial
      ·have hF := Yp c14 hF
       obtain ⟨x15, h16, hF⟩ := Yt hF
       rcases Ww (!x15) with c17 | c17
       ·have hF := Yo c17 hF
        refine Va (Vc rfl tf_31_0 ts_3 (by decide)) rfl ?_
        refine Va (Vg rfl (Ve rfl rfl) rfl ta_3 rfl) rfl ?_
        refine Va (Xc rfl) rfl ?_
        refine Va (Xk (Xv rfl rfl te_27) (congrArg (fun n : Nat => Wr .i64 (n : Int)) (Wx _))) rfl ?_
        refine Va (rd_sub rfl rfl rfl) rfl ?_
        refine Vj (Xp rfl Try.call33 (F_lists_In_ok h13 _)) rfl ?_
        refine Va (Zp rfl) rfl ?_
        refine Va (Vm rfl) rfl ?_
        refine Xd rfl rfl c14 ?_
        refine Va (Vc rfl tf_31_1 ts_3 (by decide)) rfl ?_
        refine Xd rfl rfl c14 ?_
        refine Va (Vg rfl (Ve rfl rfl) rfl ta_3 rfl) rfl ?_
        refine Xd rfl rfl c14 ?_
        refine Vj (Xp rfl Try.call33 (F_lists_In_ok h16 _)) rfl ?_
        refine Xd rfl rfl c14 ?_
        refine Va (Zp rfl) rfl ?_
        refine Va (Vn (congrArg Ws c14) rfl) rfl ?_
        refine Va (Vm rfl) rfl ?_
        refine Vb rfl rfl (Zo c17) rfl ?_
        refine Vb rfl rfl (Zo c17) rfl ?_
        refine Vb rfl rfl (Zo c17) rfl ?_
        refine Vb rfl rfl (Zo c17) rfl ?_
        refine Va (Vo (congrArg Ws c17) rfl) rfl ?_
        refine Vf ?_
        obtain rfl := Wt hF
        refine Xy ?_
        exact Vt rfl [] (by decide) ⟨Vr rfl (.vs _ _), Vr rfl (.vs _ _), Vr rfl (.int _ _), Vr rfl (.int _ _), Vr rfl (.bool _), trivial⟩ trivial
       ·have hF := Yp c17 hF
        refine Va (Vc rfl tf_31_0 ts_3 (by decide)) rfl ?_
        refine Va (Vg rfl (Ve rfl rfl) rfl ta_3 rfl) rfl ?_
        refine Va (Xc rfl) rfl ?_
        refine Va (Xk (Xv rfl rfl te_27) (congrArg (fun n : Nat => Wr .i64 (n : Int)) (Wx _))) rfl ?_
        refine Va (rd_sub rfl rfl rfl) rfl ?_
        refine Vj (Xp rfl Try.call33 (F_lists_In_ok h13 _)) rfl ?_
        refine Va (Zp rfl) rfl ?_
        refine Va (Vm rfl) rfl ?_
        refine Xd rfl rfl c14 ?_
        refine Va (Vc rfl tf_31_1 ts_3 (by decide)) rfl ?_
        refine Xd rfl rfl c14 ?_
        refine Va (Vg rfl (Ve rfl rfl) rfl ta_3 rfl) rfl ?_
        refine Xd rfl rfl c14 ?_
        refine Vj (Xp rfl Try.call33 (F_lists_In_ok h16 _)) rfl ?_
        refine Xd rfl rfl c14 ?_
        refine Va (Zp rfl) rfl ?_
        refine Va (Vn (congrArg Ws c14) rfl) rfl ?_
        refine Va (Vm rfl) rfl ?_
        refine Xd rfl rfl c17 ?_
        refine Va (Vc rfl tf_31_0 ts_3 (by decide)) rfl ?_
        refine Xd rfl rfl c17 ?_
        refine Va (Vg rfl (Ve rfl rfl) rfl ta_3 rfl) rfl ?_
        refine Xd rfl rfl c17 ?_
        refine Va (Vk rfl) rfl ?_
        refine Xd rfl rfl c17 ?_
        refine Va (Xl rfl rfl) rfl ?_
        refine Va (Vn (congrArg Ws c17) rfl) rfl ?_
        refine Vf ?_
        obtain rfl := Wt hF
        refine Xy ?_
        exact Vt rfl [] (by decide) ⟨Vr rfl (.vs _ _), Vr rfl (.vs _ _), Vr rfl (.int _ _), Vr rfl (.int _ _), Vr rfl (.bool _), trivial⟩ trivial
     ·rintro _ _ _ _ ⟨rfl, hw⟩
      refine ⟨_, _, _, hw, ?_⟩
      refine Xh rfl (fun c18 => ?_) (fun c18 => ?_)
      ·have hF := Yo c18 hF
       refine Vi ?_
       refine Vd ?_
       refine Va (Xz rfl) rfl ?_
       refine Vf ?_
       refine Xb ?_
       obtain rfl := Wt hF
       refine Xy ?_
       exact Vp ⟨rfl, trivial⟩
      ·have hF := Yp c18 hF
       refine Xn ?_
       refine Vd ?_
       refine Va (Wk rfl rfl rfl) rfl ?_
       refine Va (Vk rfl) rfl ?_
       refine Vf ?_
       obtain rfl := Wt hF
       refine Xy ?_
       exact Vp ⟨rfl, rfl, rfl, rfl, trivial⟩
    ·have hF := Yp c8 hF
     refine Wi ?_
     obtain rfl := Wt hF
     refine Xy ?_
     exact Vp ⟨rfl, trivial⟩
   ·rcases o5 with j6 | j7
    ·replace hF := elimL hF
     rintro _ _ _ _ ⟨rfl, hw⟩
     refine ⟨_, _, _, hw, ?_⟩
     obtain rfl := Wt hF
     refine Wg ?_
     exact Vp ⟨rfl, trivial⟩
    ·replace hF := elimR hF
     rintro _ _ _ _ ⟨rfl, hw⟩
     refine ⟨_, _, _, hw, ?_⟩
     refine Vi ?_
     refine Vi ?_
     refine Vd ?_
     refine Va (Xc rfl) rfl ?_
     refine Va (Xk (Xv rfl rfl te_27) (congrArg (fun n : Nat => Wr .i64 (n : Int)) (Wx _))) rfl ?_
     refine Va (Vk rfl) rfl ?_
     refine Vf ?_
     refine Yh ?_
     obtain ⟨o20, ho20, hF⟩ := Yt hF
     refine Vw (Wb (F_belts_sound_L2 p0) (fun s19 E' lw lc => Yb E' lw lc [(0, .vs 2 (Wq T_Belt.enc p0)), (40, .int .i64 ((p0).length : Int)), (41, .int .i64 s19)] low []) (Sum.elim (fun j21 => OnlyE .ret (fun E' lw lc => Yb E' lw lc [(2, .bool false)] low [])) (fun j22 => OnlyE (.exit 2) (fun E' lw lc => Yb E' lw lc [] low []))) ho20 ?_ (by rintro (_|_) _ _ _ ⟨h, _⟩ <;> cases h) ?_) ?_
     ·exact Vp ⟨rfl, rfl, rfl, trivial⟩
     ·rintro s19 os19 _ _ _ hF hw
      unfold F_belts_sound_L2 at hF
      refine Yd hw ?_
      refine Vi ?_
      refine Vd ?_
      refine Va (Zr rfl rfl) rfl ?_
      refine Vf ?_
      refine Vi ?_
      refine Xh rfl (fun c23 => ?_) (fun c23 => ?_)
      ·have hF := Yo c23 hF
       refine Xn ?_
       refine Vi ?_
       refine Yh ?_
       refine Vi ?_
       refine Vd ?_
       refine Va (Vk rfl) rfl ?_
       refine Va (Xa rfl) rfl ?_
       refine Vf ?_
       refine Vi ?_
       refine Vd ?_
       refine Va (Xa rfl) rfl ?_
       refine Vf ?_
       refine Vi ?_
       refine Vd ?_
       refine Va (Vk rfl) rfl ?_
       refine Va (Xa rfl) rfl ?_
       refine Vf ?_
       refine Yh ?_
       obtain ⟨o25, ho25, hF⟩ := Yt hF
       refine Vw (Wb (F_belts_sound_L3 p0) (fun s24 E' lw lc => Yb E' lw lc [(0, .vs 2 (Wq T_Belt.enc p0)), (6, .int .i64 s24.1), (7, .int .i64 s24.2), (40, .int .i64 ((p0).length : Int)), (41, .int .i64 s19)] low []) (Sum.elim (fun j26 => OnlyE .ret (fun E' lw lc => Yb E' lw lc [(2, .bool false)] low [])) (fun j27 => OnlyE (.exit 4) (fun E' lw lc => Yb E' lw lc [(0, .vs 2 (Wq T_Belt.enc p0)), (40, .int .i64 ((p0).length : Int)), (41, .int .i64 s19)] low []))) ho25 ?_ (by rintro (_|_) _ _ _ ⟨h, _⟩ <;> cases h) ?_) ?_
       ·exact Vp ⟨rfl, rfl, rfl, rfl, rfl, trivial⟩
       ·rintro s24 os24 _ _ _ hF hw
        unfold F_belts_sound_L3 at hF
        refine Yd hw ?_
        refine Vi ?_
        refine Vi ?_
        refine Vd ?_
        refine Va (Vk rfl) rfl ?_
        refine Va (rd_geq rfl rfl) rfl ?_
        refine Vf ?_
        refine Xh rfl (fun c28 => ?_) (fun c28 => ?_)
        ·have hF := Yo c28 hF
         refine Xn ?_
         refine Vi ?_
         refine Yh ?_
         refine Vi ?_
         refine Vd ?_
         refine Va (Vk rfl) rfl ?_
         refine Va (Wk rfl rfl rfl) rfl ?_
         refine Va (Xa rfl) rfl ?_
         refine Vf ?_
         refine Vi ?_
         refine Vd ?_
         refine Va (Vk rfl) rfl ?_
         refine Va (Xc rfl) rfl ?_
         refine Va (Xk (Xv rfl rfl te_27) (congrArg (fun n : Nat => Wr .i64 (n : Int)) (Wx _))) rfl ?_
         refine Va (rd_gtr rfl rfl) rfl ?_
         refine Vf ?_
         refine Xh rfl (fun c29 => ?_) (fun c29 => ?_)
         ·have hF := Yo c29 hF
          refine Vi ?_
          refine Vd ?_
          refine Va (Xz rfl) rfl ?_
          refine Vf ?_
          refine Xb ?_
          obtain rfl := Wt hF
          refine Xy ?_
          exact Vp ⟨rfl, trivial⟩
         ·have hF := Yp c29 hF
          refine Xn ?_
          refine Vd ?_
          obtain ⟨x30, h31, hF⟩ := Yt hF
          refine Va (Xc rfl) rfl ?_
          refine Va (Vk rfl) rfl ?_
          refine Va (Xk (Yl rfl rfl h31 te_27 ts_31) (v' := .vptr [.int .i64 x30.Onto, .int .i64 x30.Warn] 0) rfl) rfl ?_
          refine Va (Yf rfl tf_31_0 ts_3 (by decide)) rfl ?_
          refine Va (Xj rfl ta_3 rfl) rfl ?_
          refine Va (Xa rfl) rfl ?_
          refine Vf ?_
          obtain rfl := Wt hF
          refine Xy ?_
          exact Vp ⟨rfl, rfl, rfl, rfl, rfl, trivial⟩
        ·have hF := Yp c28 hF
         refine Wi ?_
         obtain rfl := Wt hF
         refine Xy ?_
         exact Vp ⟨rfl, rfl, rfl, trivial⟩
       ·rcases o25 with j26 | j27
        ·replace hF := elimL hF
         rintro _ _ _ _ ⟨rfl, hw⟩
         refine ⟨_, _, _, hw, ?_⟩
         obtain rfl := Wt hF
         refine Xy ?_
         exact Vp ⟨rfl, trivial⟩
        ·replace hF := elimR hF
         rintro _ _ _ _ ⟨rfl, hw⟩
         refine ⟨_, _, _, hw, ?_⟩
         refine Vd ?_
         refine Va (Wk rfl rfl rfl) rfl ?_
         refine Va (Vk rfl) rfl ?_
         refine Vf ?_
         obtain rfl := Wt hF
         refine Xy ?_
         exact Vp ⟨rfl, rfl, rfl, trivial⟩
      ·have hF := Yp c23 hF
       refine Wi ?_
       obtain rfl := Wt hF
       refine Xy ?_
       exact Vp trivial
     ·rcases o20 with j21 | j22
      ·replace hF := elimL hF
       rintro _ _ _ _ ⟨rfl, hw⟩
       refine ⟨_, _, _, hw, ?_⟩
       obtain rfl := Wt hF
       refine Wg ?_
       exact Vp ⟨rfl, trivial⟩
      ·replace hF := elimR hF
       rintro _ _ _ _ ⟨rfl, hw⟩
       refine ⟨_, _, _, hw, ?_⟩
       refine Vi ?_
       refine Vd ?_
       refine Va (Xz rfl) rfl ?_
       refine Vf ?_
       refine Xb ?_
       obtain rfl := Wt hF
       refine Wg ?_
       exact Vp ⟨rfl, trivial⟩
 ·rintro _ _ _ _ ⟨he, hw⟩
  refine ⟨_, _, _, hw, ?_⟩
  exact Zd he [.bool r] ⟨rfl, trivial⟩ (.bool _) ⟨rfl, rfl⟩

theorem F_belts_Make_ok {p0 : List T_Belt} {r : T_Line × Int} (hF : F_belts_Make p0 = some r) (low : List AObj) :
    Ys Try.prog 12 [.vs 2 (Wq T_Belt.enc p0)] low fun x low' => x = .tup [.agg [.int .i64 r.1.Time, .vs 1 (Wq (Wr .i64) r.1.States), .vs 1 (Wq (Wr .i64) r.1.Since), .vs 1 (Wq Ws r.1.Pulled), .vs 1 (Wq Ws r.1.Held)], .int .i64 r.2] ∧ low' = low := by
 refine Vz (nt := 20) (rs := [.cell 2 34, .tmp 3]) Try.func12 rfl rfl (Wu rfl) rfl ?_
 refine Vw (Q' := FnE (fun E' lw lc => Yb E' lw lc [(2, .ptr (low.length + 0) 0 0 0), (3, .int .i64 r.2)] low [⟨34, 5, [.agg [.int .i64 r.1.Time, .vs 1 (Wq (Wr .i64) r.1.States), .vs 1 (Wq (Wr .i64) r.1.Since), .vs 1 (Wq Ws r.1.Pulled), .vs 1 (Wq Ws r.1.Held)]], 0⟩])) ?_ ?_
 ·unfold F_belts_Make at hF
  refine Vi ?_
  refine Vd ?_
  refine Vj (Xe rfl rfl tz_34 rfl rfl (Wv _) rfl) rfl ?_
  refine Va (Xa rfl) rfl ?_
  refine Vf ?_
  refine Vi ?_
  refine Vi ?_
  refine Vd ?_
  obtain ⟨x1, h2, hF⟩ := Yt hF
  refine Va (Xc rfl) rfl ?_
  refine Vj (Xp rfl Try.call29 (F_belts_sound_ok h2 _)) rfl ?_
  refine Va (Zp rfl) rfl ?_
  refine Vf ?_
  refine Xh rfl (fun c3 => ?_) (fun c3 => ?_)
  ·have hF := Yo c3 hF
   refine Vi ?_
   refine Vd ?_
   refine Va (rd_nc (Wh (vs := []) (ds := [.int .i64 0, .nils, .nils, .nils, .nils]) tz_34 rfl rfl tp_34 trivial (Wo rfl) rfl) (nc_agg (cs := [.int .i64 0, .nils, .nils, .nils, .nils]) (ds := [.int .i64 0, .vs 1 (Wq (Wr .i64) ([] : List Int)), .vs 1 (Wq (Wr .i64) ([] : List Int)), .vs 1 (Wq Ws ([] : List Bool)), .vs 1 (Wq Ws ([] : List Bool))]) rfl rfl ⟨nc_eq rfl, nc_nil rfl rfl, nc_nil rfl rfl, nc_nil rfl rfl, nc_nil rfl rfl, trivial⟩)) rfl ?_
   refine Vj (Vy (p := .agg [.int .i64 0, .vs 1 (Wq (Wr .i64) ([] : List Int)), .vs 1 (Wq (Wr .i64) ([] : List Int)), .vs 1 (Wq Ws ([] : List Bool)), .vs 1 (Wq Ws ([] : List Bool))]) (e' := .agg [.int .i64 0, .vs 1 (Wq (Wr .i64) ([] : List Int)), .vs 1 (Wq (Wr .i64) ([] : List Int)), .vs 1 (Wq Ws ([] : List Bool)), .vs 1 (Wq Ws ([] : List Bool))]) rfl (Ve rfl rfl) rfl rfl ts_34 rfl (Ye rfl) rfl (Wu rfl) rfl (Xr rfl rfl)) rfl ?_
   refine Va (Xa rfl) rfl ?_
   refine Vf ?_
   refine Xb ?_
   obtain rfl := Wt hF
   refine Wg ?_
   exact Vp ⟨rfl, rfl, trivial⟩
  ·have hF := Yp c3 hF
   refine Xn ?_
   refine Vi ?_
   refine Vd ?_
   refine Va (Xc rfl) rfl ?_
   refine Va (Xk (Xv rfl rfl te_27) (congrArg (fun n : Nat => Wr .i64 (n : Int)) (Wx _))) rfl ?_
   refine Va (Xa rfl) rfl ?_
   refine Vf ?_
   refine Vi ?_
   obtain ⟨x4, h5, hF⟩ := Yt hF
   obtain ⟨x6, h7, hF⟩ := Yt hF
   obtain ⟨x8, h9, hF⟩ := Yt hF
   obtain ⟨x10, h11, hF⟩ := Yt hF
   refine Yd (Yy 3 1 (Wv _)) ?_
   refine Yd (Yy 3 1 (Wv _)) ?_
   refine Yd (Yy 4 1 (Wv _)) ?_
   refine Yd (Yy 4 1 (Wv _)) ?_
   refine vwp_drawnX [[], [0], [], [2], [], [4], [], [6], [0, 1, 2, 3, 4, 5, 6, 7], [0, 1, 2, 3, 4, 5, 6, 7, 8], [0, 1, 2, 3, 4, 5, 6, 7, 8, 9]] [false, true, false, true, false, true, false, true, false, true, false] [([], low, [⟨34, 5, [.agg [.int .i64 0, .nils, .nils, .nils, .nils]], 0⟩, ⟨3, 1, [], 0⟩, ⟨3, 1, [], 0⟩, ⟨4, 1, [], 0⟩, ⟨4, 1, [], 0⟩]), ([1], low, [⟨34, 5, [.agg [.int .i64 0, .nils, .nils, .nils, .nils]], 0⟩, ⟨3, 1, Wq (Wr .i64) x4, 1⟩, ⟨3, 1, [], 0⟩, ⟨4, 1, [], 0⟩, ⟨4, 1, [], 0⟩]), ([3], low, [⟨34, 5, [.agg [.int .i64 0, .nils, .nils, .nils, .nils]], 0⟩, ⟨3, 1, [], 0⟩, ⟨3, 1, Wq (Wr .i64) x6, 1⟩, ⟨4, 1, [], 0⟩, ⟨4, 1, [], 0⟩]), ([5], low, [⟨34, 5, [.agg [.int .i64 0, .nils, .nils, .nils, .nils]], 0⟩, ⟨3, 1, [], 0⟩, ⟨3, 1, [], 0⟩, ⟨4, 1, Wq Ws x8, 1⟩, ⟨4, 1, [], 0⟩]), ([7], low, [⟨34, 5, [.agg [.int .i64 0, .nils, .nils, .nils, .nils]], 0⟩, ⟨3, 1, [], 0⟩, ⟨3, 1, [], 0⟩, ⟨4, 1, [], 0⟩, ⟨4, 1, Wq Ws x10, 1⟩]), ([1, 3], low, [⟨34, 5, [.agg [.int .i64 0, .nils, .nils, .nils, .nils]], 0⟩, ⟨3, 1, Wq (Wr .i64) x4, 1⟩, ⟨3, 1, Wq (Wr .i64) x6, 1⟩, ⟨4, 1, [], 0⟩, ⟨4, 1, [], 0⟩]), ([1, 5], low, [⟨34, 5, [.agg [.int .i64 0, .nils, .nils, .nils, .nils]], 0⟩, ⟨3, 1, Wq (Wr .i64) x4, 1⟩, ⟨3, 1, [], 0⟩, ⟨4, 1, Wq Ws x8, 1⟩, ⟨4, 1, [], 0⟩]), ([1, 7], low, [⟨34, 5, [.agg [.int .i64 0, .nils, .nils, .nils, .nils]], 0⟩, ⟨3, 1, Wq (Wr .i64) x4, 1⟩, ⟨3, 1, [], 0⟩, ⟨4, 1, [], 0⟩, ⟨4, 1, Wq Ws x10, 1⟩]), ([3, 5], low, [⟨34, 5, [.agg [.int .i64 0, .nils, .nils, .nils, .nils]], 0⟩, ⟨3, 1, [], 0⟩, ⟨3, 1, Wq (Wr .i64) x6, 1⟩, ⟨4, 1, Wq Ws x8, 1⟩, ⟨4, 1, [], 0⟩]), ([3, 7], low, [⟨34, 5, [.agg [.int .i64 0, .nils, .nils, .nils, .nils]], 0⟩, ⟨3, 1, [], 0⟩, ⟨3, 1, Wq (Wr .i64) x6, 1⟩, ⟨4, 1, [], 0⟩, ⟨4, 1, Wq Ws x10, 1⟩]), ([5, 7], low, [⟨34, 5, [.agg [.int .i64 0, .nils, .nils, .nils, .nils]], 0⟩, ⟨3, 1, [], 0⟩, ⟨3, 1, [], 0⟩, ⟨4, 1, Wq Ws x8, 1⟩, ⟨4, 1, Wq Ws x10, 1⟩]), ([1, 3, 5], low, [⟨34, 5, [.agg [.int .i64 0, .nils, .nils, .nils, .nils]], 0⟩, ⟨3, 1, Wq (Wr .i64) x4, 1⟩, ⟨3, 1, Wq (Wr .i64) x6, 1⟩, ⟨4, 1, Wq Ws x8, 1⟩, ⟨4, 1, [], 0⟩]), ([1, 3, 7], low, [⟨34, 5, [.agg [.int .i64 0, .nils, .nils, .nils, .nils]], 0⟩, ⟨3, 1, Wq (Wr .i64) x4, 1⟩, ⟨3, 1, Wq (Wr .i64) x6, 1⟩, ⟨4, 1, [], 0⟩, ⟨4, 1, Wq Ws x10, 1⟩]), ([1, 5, 7], low, [⟨34, 5, [.agg [.int .i64 0, .nils, .nils, .nils, .nils]], 0⟩, ⟨3, 1, Wq (Wr .i64) x4, 1⟩, ⟨3, 1, [], 0⟩, ⟨4, 1, Wq Ws x8, 1⟩, ⟨4, 1, Wq Ws x10, 1⟩]), ([3, 5, 7], low, [⟨34, 5, [.agg [.int .i64 0, .nils, .nils, .nils, .nils]], 0⟩, ⟨3, 1, [], 0⟩, ⟨3, 1, Wq (Wr .i64) x6, 1⟩, ⟨4, 1, Wq Ws x8, 1⟩, ⟨4, 1, Wq Ws x10, 1⟩]), ([1, 3, 5, 7], low, [⟨34, 5, [.agg [.int .i64 0, .nils, .nils, .nils, .nils]], 0⟩, ⟨3, 1, Wq (Wr .i64) x4, 1⟩, ⟨3, 1, Wq (Wr .i64) x6, 1⟩, ⟨4, 1, Wq Ws x8, 1⟩, ⟨4, 1, Wq Ws x10, 1⟩]), ([1, 3, 5, 7, 9], low, [⟨34, 5, [.agg [.int .i64 0, .sl (low.length + 1) 1 0 (x4).length, .sl (low.length + 2) 1 0 (x6).length, .sl (low.length + 3) 1 0 (x8).length, .sl (low.length + 4) 1 0 (x10).length]], 0⟩, ⟨3, 1, Wq (Wr .i64) x4, 1⟩, ⟨3, 1, Wq (Wr .i64) x6, 1⟩, ⟨4, 1, Wq Ws x8, 1⟩, ⟨4, 1, Wq Ws x10, 1⟩])] mixed (by kernel_rfl) rfl (lenAllX (Yu rfl (Yu rfl (Yu rfl (Yu rfl (Yu rfl (Yu rfl (Yu rfl (Yu rfl (Yu rfl (Yu rfl (Yu rfl (Yu rfl (Yu rfl (Yu rfl (Yu rfl (Yu rfl (Yu rfl allx0)))))))))))))))))) rfl [1, 3, 5, 7, 9] (low, [⟨34, 5, [.agg [.int .i64 0, .sl (low.length + 1) 1 0 (x4).length, .sl (low.length + 2) 1 0 (x6).length, .sl (low.length + 3) 1 0 (x8).length, .sl (low.length + 4) 1 0 (x10).length]], 0⟩, ⟨3, 1, Wq (Wr .i64) x4, 1⟩, ⟨3, 1, Wq (Wr .i64) x6, 1⟩, ⟨4, 1, Wq Ws x8, 1⟩, ⟨4, 1, Wq Ws x10, 1⟩]) rfl rfl ?_
   refine Yc _ rfl rfl (Xs (VRd.ntl (Vk rfl)) (Xs (VRd.ntl (Vk rfl)) (Xs (VRd.ntl (Vk rfl)) (Xs (VRd.ntl (Vk rfl)) (Xs (VRd.ntl (Vk rfl)) (Xs (VRd.ntl (Vk rfl)) (Xs (VRd.ntl (Vk rfl)) (Xs (VRd.ntl (Vk rfl)) rx0)))))))) ?_
   refine Zf _ rfl rfl (Zy 1 rfl (Vu (f := 5) (k := 1) (m := 1) (os := [⟨3, 1, Wq (Wr .i64) x4, 0⟩]) (os' := [⟨3, 1, Wq (Wr .i64) x4, 1⟩]) (v := .sl (low.length + 5) 0 0 (x4).length) rfl rfl rfl ⟨⟨_, rfl, rfl⟩, trivial⟩ (Yn (f := (Wr .i64)) (zz := 0) rfl rfl rfl rfl te_22 ts_3 tb_3 (by decide) tz_3 rfl rfl (Wv _) rfl h5) (Yk 0 rfl rfl rfl rfl) ⟨.same _ _ _ (Vh (fun _ => .int _ _)), trivial⟩ rfl) (Zy 5 rfl (Vu (f := 5) (k := 1) (m := 1) (os := [⟨3, 1, Wq (Wr .i64) x4, 0⟩]) (os' := [⟨3, 1, Wq (Wr .i64) x4, 1⟩]) (v := .sl (low.length + 5) 0 0 (x4).length) rfl rfl rfl ⟨⟨_, rfl, rfl⟩, trivial⟩ (Yn (f := (Wr .i64)) (zz := 0) rfl rfl rfl rfl te_22 ts_3 tb_3 (by decide) tz_3 rfl rfl (Wv _) rfl h5) (Yk 0 rfl rfl rfl rfl) ⟨.same _ _ _ (Vh (fun _ => .int _ _)), trivial⟩ rfl) (Zy 6 rfl (Vu (f := 5) (k := 1) (m := 1) (os := [⟨3, 1, Wq (Wr .i64) x4, 0⟩]) (os' := [⟨3, 1, Wq (Wr .i64) x4, 1⟩]) (v := .sl (low.length + 5) 0 0 (x4).length) rfl rfl rfl ⟨⟨_, rfl, rfl⟩, trivial⟩ (Yn (f := (Wr .i64)) (zz := 0) rfl rfl rfl rfl te_22 ts_3 tb_3 (by decide) tz_3 rfl rfl (Wv _) rfl h5) (Yk 0 rfl rfl rfl rfl) ⟨.same _ _ _ (Vh (fun _ => .int _ _)), trivial⟩ rfl) (Zy 7 rfl (Vu (f := 5) (k := 1) (m := 1) (os := [⟨3, 1, Wq (Wr .i64) x4, 0⟩]) (os' := [⟨3, 1, Wq (Wr .i64) x4, 1⟩]) (v := .sl (low.length + 5) 0 0 (x4).length) rfl rfl rfl ⟨⟨_, rfl, rfl⟩, trivial⟩ (Yn (f := (Wr .i64)) (zz := 0) rfl rfl rfl rfl te_22 ts_3 tb_3 (by decide) tz_3 rfl rfl (Wv _) rfl h5) (Yk 0 rfl rfl rfl rfl) ⟨.same _ _ _ (Vh (fun _ => .int _ _)), trivial⟩ rfl) (Zy 11 rfl (Vu (f := 5) (k := 1) (m := 1) (os := [⟨3, 1, Wq (Wr .i64) x4, 0⟩]) (os' := [⟨3, 1, Wq (Wr .i64) x4, 1⟩]) (v := .sl (low.length + 5) 0 0 (x4).length) rfl rfl rfl ⟨⟨_, rfl, rfl⟩, trivial⟩ (Yn (f := (Wr .i64)) (zz := 0) rfl rfl rfl rfl te_22 ts_3 tb_3 (by decide) tz_3 rfl rfl (Wv _) rfl h5) (Yk 0 rfl rfl rfl rfl) ⟨.same _ _ _ (Vh (fun _ => .int _ _)), trivial⟩ rfl) (Zy 12 rfl (Vu (f := 5) (k := 1) (m := 1) (os := [⟨3, 1, Wq (Wr .i64) x4, 0⟩]) (os' := [⟨3, 1, Wq (Wr .i64) x4, 1⟩]) (v := .sl (low.length + 5) 0 0 (x4).length) rfl rfl rfl ⟨⟨_, rfl, rfl⟩, trivial⟩ (Yn (f := (Wr .i64)) (zz := 0) rfl rfl rfl rfl te_22 ts_3 tb_3 (by decide) tz_3 rfl rfl (Wv _) rfl h5) (Yk 0 rfl rfl rfl rfl) ⟨.same _ _ _ (Vh (fun _ => .int _ _)), trivial⟩ rfl) (Zy 13 rfl (Vu (f := 5) (k := 1) (m := 1) (os := [⟨3, 1, Wq (Wr .i64) x4, 0⟩]) (os' := [⟨3, 1, Wq (Wr .i64) x4, 1⟩]) (v := .sl (low.length + 5) 0 0 (x4).length) rfl rfl rfl ⟨⟨_, rfl, rfl⟩, trivial⟩ (Yn (f := (Wr .i64)) (zz := 0) rfl rfl rfl rfl te_22 ts_3 tb_3 (by decide) tz_3 rfl rfl (Wv _) rfl h5) (Yk 0 rfl rfl rfl rfl) ⟨.same _ _ _ (Vh (fun _ => .int _ _)), trivial⟩ rfl) (Zy 15 rfl (Vu (f := 5) (k := 1) (m := 1) (os := [⟨3, 1, Wq (Wr .i64) x4, 0⟩]) (os' := [⟨3, 1, Wq (Wr .i64) x4, 1⟩]) (v := .sl (low.length + 5) 0 0 (x4).length) rfl rfl rfl ⟨⟨_, rfl, rfl⟩, trivial⟩ (Yn (f := (Wr .i64)) (zz := 0) rfl rfl rfl rfl te_22 ts_3 tb_3 (by decide) tz_3 rfl rfl (Wv _) rfl h5) (Yk 0 rfl rfl rfl rfl) ⟨.same _ _ _ (Vh (fun _ => .int _ _)), trivial⟩ rfl) ex0)))))))) ?_
   refine Yc _ rfl rfl (Xs (VRd.ntl (Vk rfl)) (Xs (VRd.ntl (Vk rfl)) (Xs (VRd.ntl (Vk rfl)) (Xs (VRd.ntl (Vk rfl)) (Xs (VRd.ntl (Vk rfl)) (Xs (VRd.ntl (Vk rfl)) (Xs (VRd.ntl (Vk rfl)) (Xs (VRd.ntl (Vk rfl)) rx0)))))))) ?_
   refine Zf _ rfl rfl (Zy 2 rfl (Vu (f := 5) (k := 2) (m := 1) (os := [⟨3, 1, Wq (Wr .i64) x6, 0⟩]) (os' := [⟨3, 1, Wq (Wr .i64) x6, 1⟩]) (v := .sl (low.length + 5) 0 0 (x6).length) rfl rfl rfl ⟨⟨_, rfl, rfl⟩, trivial⟩ (Yn (f := (Wr .i64)) (zz := 0) rfl rfl rfl rfl te_22 ts_3 tb_3 (by decide) tz_3 rfl rfl (Wv _) rfl h7) (Yk 0 rfl rfl rfl rfl) ⟨.same _ _ _ (Vh (fun _ => .int _ _)), trivial⟩ rfl) (Zy 5 rfl (Vu (f := 5) (k := 2) (m := 1) (os := [⟨3, 1, Wq (Wr .i64) x6, 0⟩]) (os' := [⟨3, 1, Wq (Wr .i64) x6, 1⟩]) (v := .sl (low.length + 5) 0 0 (x6).length) rfl rfl rfl ⟨⟨_, rfl, rfl⟩, trivial⟩ (Yn (f := (Wr .i64)) (zz := 0) rfl rfl rfl rfl te_22 ts_3 tb_3 (by decide) tz_3 rfl rfl (Wv _) rfl h7) (Yk 0 rfl rfl rfl rfl) ⟨.same _ _ _ (Vh (fun _ => .int _ _)), trivial⟩ rfl) (Zy 8 rfl (Vu (f := 5) (k := 2) (m := 1) (os := [⟨3, 1, Wq (Wr .i64) x6, 0⟩]) (os' := [⟨3, 1, Wq (Wr .i64) x6, 1⟩]) (v := .sl (low.length + 5) 0 0 (x6).length) rfl rfl rfl ⟨⟨_, rfl, rfl⟩, trivial⟩ (Yn (f := (Wr .i64)) (zz := 0) rfl rfl rfl rfl te_22 ts_3 tb_3 (by decide) tz_3 rfl rfl (Wv _) rfl h7) (Yk 0 rfl rfl rfl rfl) ⟨.same _ _ _ (Vh (fun _ => .int _ _)), trivial⟩ rfl) (Zy 9 rfl (Vu (f := 5) (k := 2) (m := 1) (os := [⟨3, 1, Wq (Wr .i64) x6, 0⟩]) (os' := [⟨3, 1, Wq (Wr .i64) x6, 1⟩]) (v := .sl (low.length + 5) 0 0 (x6).length) rfl rfl rfl ⟨⟨_, rfl, rfl⟩, trivial⟩ (Yn (f := (Wr .i64)) (zz := 0) rfl rfl rfl rfl te_22 ts_3 tb_3 (by decide) tz_3 rfl rfl (Wv _) rfl h7) (Yk 0 rfl rfl rfl rfl) ⟨.same _ _ _ (Vh (fun _ => .int _ _)), trivial⟩ rfl) (Zy 11 rfl (Vu (f := 5) (k := 2) (m := 1) (os := [⟨3, 1, Wq (Wr .i64) x6, 0⟩]) (os' := [⟨3, 1, Wq (Wr .i64) x6, 1⟩]) (v := .sl (low.length + 5) 0 0 (x6).length) rfl rfl rfl ⟨⟨_, rfl, rfl⟩, trivial⟩ (Yn (f := (Wr .i64)) (zz := 0) rfl rfl rfl rfl te_22 ts_3 tb_3 (by decide) tz_3 rfl rfl (Wv _) rfl h7) (Yk 0 rfl rfl rfl rfl) ⟨.same _ _ _ (Vh (fun _ => .int _ _)), trivial⟩ rfl) (Zy 12 rfl (Vu (f := 5) (k := 2) (m := 1) (os := [⟨3, 1, Wq (Wr .i64) x6, 0⟩]) (os' := [⟨3, 1, Wq (Wr .i64) x6, 1⟩]) (v := .sl (low.length + 5) 0 0 (x6).length) rfl rfl rfl ⟨⟨_, rfl, rfl⟩, trivial⟩ (Yn (f := (Wr .i64)) (zz := 0) rfl rfl rfl rfl te_22 ts_3 tb_3 (by decide) tz_3 rfl rfl (Wv _) rfl h7) (Yk 0 rfl rfl rfl rfl) ⟨.same _ _ _ (Vh (fun _ => .int _ _)), trivial⟩ rfl) (Zy 14 rfl (Vu (f := 5) (k := 2) (m := 1) (os := [⟨3, 1, Wq (Wr .i64) x6, 0⟩]) (os' := [⟨3, 1, Wq (Wr .i64) x6, 1⟩]) (v := .sl (low.length + 5) 0 0 (x6).length) rfl rfl rfl ⟨⟨_, rfl, rfl⟩, trivial⟩ (Yn (f := (Wr .i64)) (zz := 0) rfl rfl rfl rfl te_22 ts_3 tb_3 (by decide) tz_3 rfl rfl (Wv _) rfl h7) (Yk 0 rfl rfl rfl rfl) ⟨.same _ _ _ (Vh (fun _ => .int _ _)), trivial⟩ rfl) (Zy 15 rfl (Vu (f := 5) (k := 2) (m := 1) (os := [⟨3, 1, Wq (Wr .i64) x6, 0⟩]) (os' := [⟨3, 1, Wq (Wr .i64) x6, 1⟩]) (v := .sl (low.length + 5) 0 0 (x6).length) rfl rfl rfl ⟨⟨_, rfl, rfl⟩, trivial⟩ (Yn (f := (Wr .i64)) (zz := 0) rfl rfl rfl rfl te_22 ts_3 tb_3 (by decide) tz_3 rfl rfl (Wv _) rfl h7) (Yk 0 rfl rfl rfl rfl) ⟨.same _ _ _ (Vh (fun _ => .int _ _)), trivial⟩ rfl) ex0)))))))) ?_
   refine Yc _ rfl rfl (Xs (VRd.ntl (Vk rfl)) (Xs (VRd.ntl (Vk rfl)) (Xs (VRd.ntl (Vk rfl)) (Xs (VRd.ntl (Vk rfl)) (Xs (VRd.ntl (Vk rfl)) (Xs (VRd.ntl (Vk rfl)) (Xs (VRd.ntl (Vk rfl)) (Xs (VRd.ntl (Vk rfl)) rx0)))))))) ?_
   refine Zf _ rfl rfl (Zy 3 rfl (Vu (f := 5) (k := 3) (m := 1) (os := [⟨4, 1, Wq Ws x8, 0⟩]) (os' := [⟨4, 1, Wq Ws x8, 1⟩]) (v := .sl (low.length + 5) 0 0 (x8).length) rfl rfl rfl ⟨⟨_, rfl, rfl⟩, trivial⟩ (Yn (f := Ws) (zz := false) rfl rfl rfl rfl te_32 ts_4 tb_4 (by decide) tz_4 rfl rfl (Wv _) rfl h9) (Yk 0 rfl rfl rfl rfl) ⟨.same _ _ _ (Vh (fun _ => .bool _)), trivial⟩ rfl) (Zy 6 rfl (Vu (f := 5) (k := 3) (m := 1) (os := [⟨4, 1, Wq Ws x8, 0⟩]) (os' := [⟨4, 1, Wq Ws x8, 1⟩]) (v := .sl (low.length + 5) 0 0 (x8).length) rfl rfl rfl ⟨⟨_, rfl, rfl⟩, trivial⟩ (Yn (f := Ws) (zz := false) rfl rfl rfl rfl te_32 ts_4 tb_4 (by decide) tz_4 rfl rfl (Wv _) rfl h9) (Yk 0 rfl rfl rfl rfl) ⟨.same _ _ _ (Vh (fun _ => .bool _)), trivial⟩ rfl) (Zy 8 rfl (Vu (f := 5) (k := 3) (m := 1) (os := [⟨4, 1, Wq Ws x8, 0⟩]) (os' := [⟨4, 1, Wq Ws x8, 1⟩]) (v := .sl (low.length + 5) 0 0 (x8).length) rfl rfl rfl ⟨⟨_, rfl, rfl⟩, trivial⟩ (Yn (f := Ws) (zz := false) rfl rfl rfl rfl te_32 ts_4 tb_4 (by decide) tz_4 rfl rfl (Wv _) rfl h9) (Yk 0 rfl rfl rfl rfl) ⟨.same _ _ _ (Vh (fun _ => .bool _)), trivial⟩ rfl) (Zy 10 rfl (Vu (f := 5) (k := 3) (m := 1) (os := [⟨4, 1, Wq Ws x8, 0⟩]) (os' := [⟨4, 1, Wq Ws x8, 1⟩]) (v := .sl (low.length + 5) 0 0 (x8).length) rfl rfl rfl ⟨⟨_, rfl, rfl⟩, trivial⟩ (Yn (f := Ws) (zz := false) rfl rfl rfl rfl te_32 ts_4 tb_4 (by decide) tz_4 rfl rfl (Wv _) rfl h9) (Yk 0 rfl rfl rfl rfl) ⟨.same _ _ _ (Vh (fun _ => .bool _)), trivial⟩ rfl) (Zy 11 rfl (Vu (f := 5) (k := 3) (m := 1) (os := [⟨4, 1, Wq Ws x8, 0⟩]) (os' := [⟨4, 1, Wq Ws x8, 1⟩]) (v := .sl (low.length + 5) 0 0 (x8).length) rfl rfl rfl ⟨⟨_, rfl, rfl⟩, trivial⟩ (Yn (f := Ws) (zz := false) rfl rfl rfl rfl te_32 ts_4 tb_4 (by decide) tz_4 rfl rfl (Wv _) rfl h9) (Yk 0 rfl rfl rfl rfl) ⟨.same _ _ _ (Vh (fun _ => .bool _)), trivial⟩ rfl) (Zy 13 rfl (Vu (f := 5) (k := 3) (m := 1) (os := [⟨4, 1, Wq Ws x8, 0⟩]) (os' := [⟨4, 1, Wq Ws x8, 1⟩]) (v := .sl (low.length + 5) 0 0 (x8).length) rfl rfl rfl ⟨⟨_, rfl, rfl⟩, trivial⟩ (Yn (f := Ws) (zz := false) rfl rfl rfl rfl te_32 ts_4 tb_4 (by decide) tz_4 rfl rfl (Wv _) rfl h9) (Yk 0 rfl rfl rfl rfl) ⟨.same _ _ _ (Vh (fun _ => .bool _)), trivial⟩ rfl) (Zy 14 rfl (Vu (f := 5) (k := 3) (m := 1) (os := [⟨4, 1, Wq Ws x8, 0⟩]) (os' := [⟨4, 1, Wq Ws x8, 1⟩]) (v := .sl (low.length + 5) 0 0 (x8).length) rfl rfl rfl ⟨⟨_, rfl, rfl⟩, trivial⟩ (Yn (f := Ws) (zz := false) rfl rfl rfl rfl te_32 ts_4 tb_4 (by decide) tz_4 rfl rfl (Wv _) rfl h9) (Yk 0 rfl rfl rfl rfl) ⟨.same _ _ _ (Vh (fun _ => .bool _)), trivial⟩ rfl) (Zy 15 rfl (Vu (f := 5) (k := 3) (m := 1) (os := [⟨4, 1, Wq Ws x8, 0⟩]) (os' := [⟨4, 1, Wq Ws x8, 1⟩]) (v := .sl (low.length + 5) 0 0 (x8).length) rfl rfl rfl ⟨⟨_, rfl, rfl⟩, trivial⟩ (Yn (f := Ws) (zz := false) rfl rfl rfl rfl te_32 ts_4 tb_4 (by decide) tz_4 rfl rfl (Wv _) rfl h9) (Yk 0 rfl rfl rfl rfl) ⟨.same _ _ _ (Vh (fun _ => .bool _)), trivial⟩ rfl) ex0)))))))) ?_
   refine Yc _ rfl rfl (Xs (VRd.ntl (Vk rfl)) (Xs (VRd.ntl (Vk rfl)) (Xs (VRd.ntl (Vk rfl)) (Xs (VRd.ntl (Vk rfl)) (Xs (VRd.ntl (Vk rfl)) (Xs (VRd.ntl (Vk rfl)) (Xs (VRd.ntl (Vk rfl)) (Xs (VRd.ntl (Vk rfl)) rx0)))))))) ?_
   refine Zf _ rfl rfl (Zy 4 rfl (Vu (f := 5) (k := 4) (m := 1) (os := [⟨4, 1, Wq Ws x10, 0⟩]) (os' := [⟨4, 1, Wq Ws x10, 1⟩]) (v := .sl (low.length + 5) 0 0 (x10).length) rfl rfl rfl ⟨⟨_, rfl, rfl⟩, trivial⟩ (Yn (f := Ws) (zz := false) rfl rfl rfl rfl te_32 ts_4 tb_4 (by decide) tz_4 rfl rfl (Wv _) rfl h11) (Yk 0 rfl rfl rfl rfl) ⟨.same _ _ _ (Vh (fun _ => .bool _)), trivial⟩ rfl) (Zy 7 rfl (Vu (f := 5) (k := 4) (m := 1) (os := [⟨4, 1, Wq Ws x10, 0⟩]) (os' := [⟨4, 1, Wq Ws x10, 1⟩]) (v := .sl (low.length + 5) 0 0 (x10).length) rfl rfl rfl ⟨⟨_, rfl, rfl⟩, trivial⟩ (Yn (f := Ws) (zz := false) rfl rfl rfl rfl te_32 ts_4 tb_4 (by decide) tz_4 rfl rfl (Wv _) rfl h11) (Yk 0 rfl rfl rfl rfl) ⟨.same _ _ _ (Vh (fun _ => .bool _)), trivial⟩ rfl) (Zy 9 rfl (Vu (f := 5) (k := 4) (m := 1) (os := [⟨4, 1, Wq Ws x10, 0⟩]) (os' := [⟨4, 1, Wq Ws x10, 1⟩]) (v := .sl (low.length + 5) 0 0 (x10).length) rfl rfl rfl ⟨⟨_, rfl, rfl⟩, trivial⟩ (Yn (f := Ws) (zz := false) rfl rfl rfl rfl te_32 ts_4 tb_4 (by decide) tz_4 rfl rfl (Wv _) rfl h11) (Yk 0 rfl rfl rfl rfl) ⟨.same _ _ _ (Vh (fun _ => .bool _)), trivial⟩ rfl) (Zy 10 rfl (Vu (f := 5) (k := 4) (m := 1) (os := [⟨4, 1, Wq Ws x10, 0⟩]) (os' := [⟨4, 1, Wq Ws x10, 1⟩]) (v := .sl (low.length + 5) 0 0 (x10).length) rfl rfl rfl ⟨⟨_, rfl, rfl⟩, trivial⟩ (Yn (f := Ws) (zz := false) rfl rfl rfl rfl te_32 ts_4 tb_4 (by decide) tz_4 rfl rfl (Wv _) rfl h11) (Yk 0 rfl rfl rfl rfl) ⟨.same _ _ _ (Vh (fun _ => .bool _)), trivial⟩ rfl) (Zy 12 rfl (Vu (f := 5) (k := 4) (m := 1) (os := [⟨4, 1, Wq Ws x10, 0⟩]) (os' := [⟨4, 1, Wq Ws x10, 1⟩]) (v := .sl (low.length + 5) 0 0 (x10).length) rfl rfl rfl ⟨⟨_, rfl, rfl⟩, trivial⟩ (Yn (f := Ws) (zz := false) rfl rfl rfl rfl te_32 ts_4 tb_4 (by decide) tz_4 rfl rfl (Wv _) rfl h11) (Yk 0 rfl rfl rfl rfl) ⟨.same _ _ _ (Vh (fun _ => .bool _)), trivial⟩ rfl) (Zy 13 rfl (Vu (f := 5) (k := 4) (m := 1) (os := [⟨4, 1, Wq Ws x10, 0⟩]) (os' := [⟨4, 1, Wq Ws x10, 1⟩]) (v := .sl (low.length + 5) 0 0 (x10).length) rfl rfl rfl ⟨⟨_, rfl, rfl⟩, trivial⟩ (Yn (f := Ws) (zz := false) rfl rfl rfl rfl te_32 ts_4 tb_4 (by decide) tz_4 rfl rfl (Wv _) rfl h11) (Yk 0 rfl rfl rfl rfl) ⟨.same _ _ _ (Vh (fun _ => .bool _)), trivial⟩ rfl) (Zy 14 rfl (Vu (f := 5) (k := 4) (m := 1) (os := [⟨4, 1, Wq Ws x10, 0⟩]) (os' := [⟨4, 1, Wq Ws x10, 1⟩]) (v := .sl (low.length + 5) 0 0 (x10).length) rfl rfl rfl ⟨⟨_, rfl, rfl⟩, trivial⟩ (Yn (f := Ws) (zz := false) rfl rfl rfl rfl te_32 ts_4 tb_4 (by decide) tz_4 rfl rfl (Wv _) rfl h11) (Yk 0 rfl rfl rfl rfl) ⟨.same _ _ _ (Vh (fun _ => .bool _)), trivial⟩ rfl) (Zy 15 rfl (Vu (f := 5) (k := 4) (m := 1) (os := [⟨4, 1, Wq Ws x10, 0⟩]) (os' := [⟨4, 1, Wq Ws x10, 1⟩]) (v := .sl (low.length + 5) 0 0 (x10).length) rfl rfl rfl ⟨⟨_, rfl, rfl⟩, trivial⟩ (Yn (f := Ws) (zz := false) rfl rfl rfl rfl te_32 ts_4 tb_4 (by decide) tz_4 rfl rfl (Wv _) rfl h11) (Yk 0 rfl rfl rfl rfl) ⟨.same _ _ _ (Vh (fun _ => .bool _)), trivial⟩ rfl) ex0)))))))) ?_
   refine Yc _ rfl rfl (Xs (VRd.ntl (Wh (vs := [(1, .sl (low.length + 1) 1 0 (x4).length), (2, .sl (low.length + 2) 1 0 (x6).length), (3, .sl (low.length + 3) 1 0 (x8).length), (4, .sl (low.length + 4) 1 0 (x10).length)]) (ds := [.int .i64 0, .sl (low.length + 1) 1 0 (x4).length, .sl (low.length + 2) 1 0 (x6).length, .sl (low.length + 3) 1 0 (x8).length, .sl (low.length + 4) 1 0 (x10).length]) tz_34 rfl rfl tp_34 ⟨rfl, rfl, rfl, rfl, rfl, rfl, rfl, rfl, trivial⟩ (Wo rfl) rfl)) rx0) ?_
   refine Zf _ rfl rfl (Zy 16 rfl (Vy (p := .agg [.int .i64 0, .sl (low.length + 1) 1 0 (x4).length, .sl (low.length + 2) 1 0 (x6).length, .sl (low.length + 3) 1 0 (x8).length, .sl (low.length + 4) 1 0 (x10).length]) (e' := .agg [.int .i64 0, .sl (low.length + 1) 1 0 (x4).length, .sl (low.length + 2) 1 0 (x6).length, .sl (low.length + 3) 1 0 (x8).length, .sl (low.length + 4) 1 0 (x10).length]) rfl (Ve rfl rfl) rfl rfl ts_34 rfl (Ye rfl) rfl (Wu rfl) rfl (Xr rfl rfl)) ex0) ?_
   refine Yc _ rfl rfl (Xs (VRd.ntl (Xa rfl)) rx0) ?_
   refine dopx_nil ?_
   refine Xb ?_
   obtain rfl := Wt hF
   refine Wg ?_
   refine Weak.trans (Xm (E' := [(2, .ptr (low.length + 0) 0 0 0), (3, .int .i64 0)]) (loc1 := [⟨34, 5, [.agg [.int .i64 0, .vs 1 (Wq (Wr .i64) x4), .sl (low.length + 2) 1 0 (x6).length, .sl (low.length + 3) 1 0 (x8).length, .sl (low.length + 4) 1 0 (x10).length]], 0⟩, ⟨3, 1, [], 1 + 1⟩, ⟨3, 1, Wq (Wr .i64) x6, 1⟩, ⟨4, 1, Wq Ws x8, 1⟩, ⟨4, 1, Wq Ws x10, 1⟩]) rfl 1 rfl (Ya (fun _ => .int _ _)) ⟨Vl rfl, Vl rfl, trivial⟩ ⟨Yr ⟨Vl rfl, Zj rfl rfl rfl (Vx rfl), Vl rfl, Vl rfl, Vl rfl, trivial⟩, .refl _, .refl _, .refl _, .refl _, trivial⟩) ?_
   refine Weak.trans (Xm (E' := [(2, .ptr (low.length + 0) 0 0 0), (3, .int .i64 0)]) (loc1 := [⟨34, 5, [.agg [.int .i64 0, .vs 1 (Wq (Wr .i64) x4), .vs 1 (Wq (Wr .i64) x6), .sl (low.length + 3) 1 0 (x8).length, .sl (low.length + 4) 1 0 (x10).length]], 0⟩, ⟨3, 1, [], 1 + 1⟩, ⟨3, 1, [], 1 + 1⟩, ⟨4, 1, Wq Ws x8, 1⟩, ⟨4, 1, Wq Ws x10, 1⟩]) rfl 2 rfl (Ya (fun _ => .int _ _)) ⟨Vl rfl, Vl rfl, trivial⟩ ⟨Yr ⟨Vl rfl, Vl rfl, Zj rfl rfl rfl (Vx rfl), Vl rfl, Vl rfl, trivial⟩, .refl _, .refl _, .refl _, .refl _, trivial⟩) ?_
   refine Weak.trans (Xm (E' := [(2, .ptr (low.length + 0) 0 0 0), (3, .int .i64 0)]) (loc1 := [⟨34, 5, [.agg [.int .i64 0, .vs 1 (Wq (Wr .i64) x4), .vs 1 (Wq (Wr .i64) x6), .vs 1 (Wq Ws x8), .sl (low.length + 4) 1 0 (x10).length]], 0⟩, ⟨3, 1, [], 1 + 1⟩, ⟨3, 1, [], 1 + 1⟩, ⟨4, 1, [], 1 + 1⟩, ⟨4, 1, Wq Ws x10, 1⟩]) rfl 3 rfl (Ya (fun _ => .bool _)) ⟨Vl rfl, Vl rfl, trivial⟩ ⟨Yr ⟨Vl rfl, Vl rfl, Vl rfl, Zj rfl rfl rfl (Vx rfl), Vl rfl, trivial⟩, .refl _, .refl _, .refl _, .refl _, trivial⟩) ?_
   refine Weak.trans (Xm (E' := [(2, .ptr (low.length + 0) 0 0 0), (3, .int .i64 0)]) (loc1 := [⟨34, 5, [.agg [.int .i64 0, .vs 1 (Wq (Wr .i64) x4), .vs 1 (Wq (Wr .i64) x6), .vs 1 (Wq Ws x8), .vs 1 (Wq Ws x10)]], 0⟩, ⟨3, 1, [], 1 + 1⟩, ⟨3, 1, [], 1 + 1⟩, ⟨4, 1, [], 1 + 1⟩, ⟨4, 1, [], 1 + 1⟩]) rfl 4 rfl (Ya (fun _ => .bool _)) ⟨Vl rfl, Vl rfl, trivial⟩ ⟨Yr ⟨Vl rfl, Vl rfl, Vl rfl, Vl rfl, Zj rfl rfl rfl (Vx rfl), trivial⟩, .refl _, .refl _, .refl _, .refl _, trivial⟩) ?_
   exact Vt rfl [(0, 0)] (by decide) ⟨Yj 0 0 rfl rfl, Vr rfl (.int _ _), trivial⟩ ⟨⟨_, rfl, rfl, .same _ _ _ _ (Xt ⟨Xw ⟨.int _ _, .vs _ _, .vs _ _, .vs _ _, .vs _ _, trivial⟩, trivial⟩)⟩, trivial⟩
 ·rintro _ _ _ _ ⟨he, hw⟩
  refine ⟨_, _, _, hw, ?_⟩
  exact Zd he [.agg [.int .i64 r.1.Time, .vs 1 (Wq (Wr .i64) r.1.States), .vs 1 (Wq (Wr .i64) r.1.Since), .vs 1 (Wq Ws r.1.Pulled), .vs 1 (Wq Ws r.1.Held)], .int .i64 r.2] ⟨Vv rfl (Ve rfl rfl) rfl ta_34 ts_34 rfl rfl rfl, rfl, trivial⟩ ((lt_tup ⟨(Xw ⟨.int _ _, .vs _ _, .vs _ _, .vs _ _, .vs _ _, trivial⟩), .int _ _, trivial⟩)) ⟨rfl, rfl⟩

theorem F_belts_Valid_ok {p0 : List T_Belt} {p1 : T_Line} {r : Bool} (hF : F_belts_Valid p0 p1 = some r) (low : List AObj) :
    Ys Try.prog 28 [.vs 2 (Wq T_Belt.enc p0), .agg [.int .i64 p1.Time, .vs 1 (Wq (Wr .i64) p1.States), .vs 1 (Wq (Wr .i64) p1.Since), .vs 1 (Wq Ws p1.Pulled), .vs 1 (Wq Ws p1.Held)]] low fun x low' => x = .bool r ∧ low' = low := by
 refine Vz (nt := 105) (rs := [.tmp 4]) Try.func28 rfl rfl (Wu rfl) rfl ?_
 refine Vw (Q' := FnE (fun E' lw lc => Yb E' lw lc [(4, .bool r)] low [])) ?_ ?_
 ·unfold F_belts_Valid at hF
  refine Vi ?_
  refine Vd ?_
  refine Vj (Zc rfl rfl (v := .agg [.int .i64 p1.Time, .vs 1 (Wq (Wr .i64) p1.States), .vs 1 (Wq (Wr .i64) p1.Since), .vs 1 (Wq Ws p1.Pulled), .vs 1 (Wq Ws p1.Held)]) rfl rfl (Wv _) rfl rfl) rfl ?_
  refine Va (Xz rfl) rfl ?_
  refine Vf ?_
  refine Vi ?_
  refine Vd ?_
  refine Va (Xc rfl) rfl ?_
  refine Va (Xk (Xv rfl rfl te_27) (congrArg (fun n : Nat => Wr .i64 (n : Int)) (Wx _))) rfl ?_
  refine Va (Xa rfl) rfl ?_
  refine Vf ?_
  refine Vi ?_
  refine Vi ?_
  obtain ⟨o1, ho1, hF⟩ := Yt hF
  refine Vw (Q' := (fun o1 => OnlyE .normal (fun E' lw lc => Yb E' lw lc [(0, .vs 2 (Wq T_Belt.enc p0)), (3, .ptr (low.length + 0) 0 0 0), (47, .bool o1)] low [⟨34, 5, [.agg [.int .i64 p1.Time, .vs 1 (Wq (Wr .i64) p1.States), .vs 1 (Wq (Wr .i64) p1.Since), .vs 1 (Wq Ws p1.Pulled), .vs 1 (Wq Ws p1.Held)]], 0⟩])) o1) ?_ ?_
  ·replace hF := ho1
   refine Vd ?_
   obtain ⟨x2, h3, hF⟩ := Yt hF
   rcases Ww (!x2) with c4 | c4
   ·have hF := Yo c4 hF
    refine Va (Xc rfl) rfl ?_
    refine Vj (Xp rfl Try.call29 (F_belts_sound_ok h3 _)) rfl ?_
    refine Va (Zp rfl) rfl ?_
    refine Va (Vm rfl) rfl ?_
    refine Vb rfl rfl (Zo c4) rfl ?_
    refine Vb rfl rfl (Zo c4) rfl ?_
    refine Vb rfl rfl (Zo c4) rfl ?_
    refine Vb rfl rfl (Zo c4) rfl ?_
    refine Vb rfl rfl (Zo c4) rfl ?_
    refine Va (Vo (congrArg Ws c4) rfl) rfl ?_
    refine Va (Vm rfl) rfl ?_
    refine Vb rfl rfl (by decide) rfl ?_
    refine Vb rfl rfl (by decide) rfl ?_
    refine Vb rfl rfl (by decide) rfl ?_
    refine Vb rfl rfl (by decide) rfl ?_
    refine Vb rfl rfl (by decide) rfl ?_
    refine Va (Vo rfl rfl) rfl ?_
    refine Va (Vm rfl) rfl ?_
    refine Vb rfl rfl (by decide) rfl ?_
    refine Vb rfl rfl (by decide) rfl ?_
    refine Vb rfl rfl (by decide) rfl ?_
    refine Vb rfl rfl (by decide) rfl ?_
    refine Vb rfl rfl (by decide) rfl ?_
    refine Va (Vo rfl rfl) rfl ?_
    refine Va (Vm rfl) rfl ?_
    refine Vb rfl rfl (by decide) rfl ?_
    refine Vb rfl rfl (by decide) rfl ?_
    refine Vb rfl rfl (by decide) rfl ?_
    refine Vb rfl rfl (by decide) rfl ?_
    refine Vb rfl rfl (by decide) rfl ?_
    refine Va (Vo rfl rfl) rfl ?_
    refine Va (Vm rfl) rfl ?_
    refine Vb rfl rfl (by decide) rfl ?_
    refine Vb rfl rfl (by decide) rfl ?_
    refine Vb rfl rfl (by decide) rfl ?_
    refine Vb rfl rfl (by decide) rfl ?_
    refine Va (Vo rfl rfl) rfl ?_
    refine Vf ?_
    obtain rfl := Wt hF
    refine Xy ?_
    exact Vp ⟨rfl, rfl, rfl, trivial⟩
   ·have hF := Yp c4 hF
    rcases Ww (decide (((p1.States).length : Int) ≠ ((p0).length : Int))) with c5 | c5
    ·have hF := Yo c5 hF
     refine Va (Xc rfl) rfl ?_
     refine Vj (Xp rfl Try.call29 (F_belts_sound_ok h3 _)) rfl ?_
     refine Va (Zp rfl) rfl ?_
     refine Va (Vm rfl) rfl ?_
     refine Xd rfl rfl c4 ?_
     refine Va (Vc rfl tf_34_1 ts_22 (by decide)) rfl ?_
     refine Xd rfl rfl c4 ?_
     refine Va (Vg rfl (Ve rfl rfl) rfl ta_22 rfl) rfl ?_
     refine Xd rfl rfl c4 ?_
     refine Va (Xk (Xv rfl rfl te_22) (congrArg (fun n : Nat => Wr .i64 (n : Int)) (Wx _))) rfl ?_
     refine Xd rfl rfl c4 ?_
     refine Va (Vk rfl) rfl ?_
     refine Xd rfl rfl c4 ?_
     refine Va (Ze rfl rfl) rfl ?_
     refine Va (Vn (congrArg Ws c4) rfl) rfl ?_
     refine Va (Vm rfl) rfl ?_
     refine Vb rfl rfl (Zo c5) rfl ?_
     refine Vb rfl rfl (Zo c5) rfl ?_
     refine Vb rfl rfl (Zo c5) rfl ?_
     refine Vb rfl rfl (Zo c5) rfl ?_
     refine Vb rfl rfl (Zo c5) rfl ?_
     refine Va (Vo (congrArg Ws c5) rfl) rfl ?_
     refine Va (Vm rfl) rfl ?_
     refine Vb rfl rfl (by decide) rfl ?_
     refine Vb rfl rfl (by decide) rfl ?_
     refine Vb rfl rfl (by decide) rfl ?_
     refine Vb rfl rfl (by decide) rfl ?_
     refine Vb rfl rfl (by decide) rfl ?_
     refine Va (Vo rfl rfl) rfl ?_
     refine Va (Vm rfl) rfl ?_
     refine Vb rfl rfl (by decide) rfl ?_
     refine Vb rfl rfl (by decide) rfl ?_
     refine Vb rfl rfl (by decide) rfl ?_
     refine Vb rfl rfl (by decide) rfl ?_
     refine Vb rfl rfl (by decide) rfl ?_
     refine Va (Vo rfl rfl) rfl ?_
     refine Va (Vm rfl) rfl ?_
     refine Vb rfl rfl (by decide) rfl ?_
     refine Vb rfl rfl (by decide) rfl ?_
     refine Vb rfl rfl (by decide) rfl ?_
     refine Vb rfl rfl (by decide) rfl ?_
     refine Va (Vo rfl rfl) rfl ?_
     refine Vf ?_
     obtain rfl := Wt hF
     refine Xy ?_
     exact Vp ⟨rfl, rfl, rfl, trivial⟩
    ·have hF := Yp c5 hF
     rcases Ww (decide (((p1.Since).length : Int) ≠ ((p0).length : Int))) with c6 | c6
     ·have hF := Yo c6 hF
      refine Va (Xc rfl) rfl ?_
      refine Vj (Xp rfl Try.call29 (F_belts_sound_ok h3 _)) rfl ?_
      refine Va (Zp rfl) rfl ?_
      refine Va (Vm rfl) rfl ?_
      refine Xd rfl rfl c4 ?_
      refine Va (Vc rfl tf_34_1 ts_22 (by decide)) rfl ?_
      refine Xd rfl rfl c4 ?_
      refine Va (Vg rfl (Ve rfl rfl) rfl ta_22 rfl) rfl ?_
      refine Xd rfl rfl c4 ?_
      refine Va (Xk (Xv rfl rfl te_22) (congrArg (fun n : Nat => Wr .i64 (n : Int)) (Wx _))) rfl ?_
      refine Xd rfl rfl c4 ?_
      refine Va (Vk rfl) rfl ?_
      refine Xd rfl rfl c4 ?_
      refine Va (Ze rfl rfl) rfl ?_
      refine Va (Vn (congrArg Ws c4) rfl) rfl ?_
      refine Va (Vm rfl) rfl ?_
      refine Xd rfl rfl c5 ?_
      refine Va (Vc rfl tf_34_2 ts_22 (by decide)) rfl ?_
      refine Xd rfl rfl c5 ?_
      refine Va (Vg rfl (Ve rfl rfl) rfl ta_22 rfl) rfl ?_
      refine Xd rfl rfl c5 ?_
      refine Va (Xk (Xv rfl rfl te_22) (congrArg (fun n : Nat => Wr .i64 (n : Int)) (Wx _))) rfl ?_
      refine Xd rfl rfl c5 ?_
      refine Va (Vk rfl) rfl ?_
      refine Xd rfl rfl c5 ?_
      refine Va (Ze rfl rfl) rfl ?_
      refine Va (Vn (congrArg Ws c5) rfl) rfl ?_
      refine Va (Vm rfl) rfl ?_
      refine Vb rfl rfl (Zo c6) rfl ?_
      refine Vb rfl rfl (Zo c6) rfl ?_
      refine Vb rfl rfl (Zo c6) rfl ?_
      refine Vb rfl rfl (Zo c6) rfl ?_
      refine Vb rfl rfl (Zo c6) rfl ?_
      refine Va (Vo (congrArg Ws c6) rfl) rfl ?_
      refine Va (Vm rfl) rfl ?_
      refine Vb rfl rfl (by decide) rfl ?_
      refine Vb rfl rfl (by decide) rfl ?_
      refine Vb rfl rfl (by decide) rfl ?_
      refine Vb rfl rfl (by decide) rfl ?_
      refine Vb rfl rfl (by decide) rfl ?_
      refine Va (Vo rfl rfl) rfl ?_
      refine Va (Vm rfl) rfl ?_
      refine Vb rfl rfl (by decide) rfl ?_
      refine Vb rfl rfl (by decide) rfl ?_
      refine Vb rfl rfl (by decide) rfl ?_
      refine Vb rfl rfl (by decide) rfl ?_
      refine Va (Vo rfl rfl) rfl ?_
      refine Vf ?_
      obtain rfl := Wt hF
      refine Xy ?_
      exact Vp ⟨rfl, rfl, rfl, trivial⟩
     ·have hF := Yp c6 hF
      rcases Ww (decide (((p1.Pulled).length : Int) ≠ ((p0).length : Int))) with c7 | c7
      ·have hF := Yo c7 hF
       refine Va (Xc rfl) rfl ?_
       refine Vj (Xp rfl Try.call29 (F_belts_sound_ok h3 _)) rfl ?_
       refine Va (Zp rfl) rfl ?_
       refine Va (Vm rfl) rfl ?_
       refine Xd rfl rfl c4 ?_
       refine Va (Vc rfl tf_34_1 ts_22 (by decide)) rfl ?_
       refine Xd rfl rfl c4 ?_
       refine Va (Vg rfl (Ve rfl rfl) rfl ta_22 rfl) rfl ?_
       refine Xd rfl rfl c4 ?_
       refine Va (Xk (Xv rfl rfl te_22) (congrArg (fun n : Nat => Wr .i64 (n : Int)) (Wx _))) rfl ?_
       refine Xd rfl rfl c4 ?_
       refine Va (Vk rfl) rfl ?_
       refine Xd rfl rfl c4 ?_
       refine Va (Ze rfl rfl) rfl ?_
       refine Va (Vn (congrArg Ws c4) rfl) rfl ?_
       refine Va (Vm rfl) rfl ?_
       refine Xd rfl rfl c5 ?_
       refine Va (Vc rfl tf_34_2 ts_22 (by decide)) rfl ?_
       refine Xd rfl rfl c5 ?_
       refine Va (Vg rfl (Ve rfl rfl) rfl ta_22 rfl) rfl ?_
       refine Xd rfl rfl c5 ?_
       refine Va (Xk (Xv rfl rfl te_22) (congrArg (fun n : Nat => Wr .i64 (n : Int)) (Wx _))) rfl ?_
       refine Xd rfl rfl c5 ?_
       refine Va (Vk rfl) rfl ?_
       refine Xd rfl rfl c5 ?_
       refine Va (Ze rfl rfl) rfl ?_
       refine Va (Vn (congrArg Ws c5) rfl) rfl ?_
       refine Va (Vm rfl) rfl ?_
       refine Xd rfl rfl c6 ?_
       refine Va (Vc rfl tf_34_3 ts_32 (by decide)) rfl ?_
       refine Xd rfl rfl c6 ?_
       refine Va (Vg rfl (Ve rfl rfl) rfl ta_32 rfl) rfl ?_
       refine Xd rfl rfl c6 ?_
       refine Va (Xk (Xv rfl rfl te_32) (congrArg (fun n : Nat => Wr .i64 (n : Int)) (Wx _))) rfl ?_
       refine Xd rfl rfl c6 ?_
       refine Va (Vk rfl) rfl ?_
       refine Xd rfl rfl c6 ?_
       refine Va (Ze rfl rfl) rfl ?_
       refine Va (Vn (congrArg Ws c6) rfl) rfl ?_
       refine Va (Vm rfl) rfl ?_
       refine Vb rfl rfl (Zo c7) rfl ?_
       refine Vb rfl rfl (Zo c7) rfl ?_
       refine Vb rfl rfl (Zo c7) rfl ?_
       refine Vb rfl rfl (Zo c7) rfl ?_
       refine Vb rfl rfl (Zo c7) rfl ?_
       refine Va (Vo (congrArg Ws c7) rfl) rfl ?_
       refine Va (Vm rfl) rfl ?_
       refine Vb rfl rfl (by decide) rfl ?_
       refine Vb rfl rfl (by decide) rfl ?_
       refine Vb rfl rfl (by decide) rfl ?_
       refine Vb rfl rfl (by decide) rfl ?_
       refine Va (Vo rfl rfl) rfl ?_
       refine Vf ?_
       obtain rfl := Wt hF
       refine Xy ?_
       exact Vp ⟨rfl, rfl, rfl, trivial⟩
      ·have hF := Yp c7 hF
       rcases Ww (decide (((p1.Held).length : Int) ≠ ((p0).length : Int))) with c8 | c8
       ·have hF := Yo c8 hF
        refine Va (Xc rfl) rfl ?_
        refine Vj (Xp rfl Try.call29 (F_belts_sound_ok h3 _)) rfl ?_
        refine Va (Zp rfl) rfl ?_
        refine Va (Vm rfl) rfl ?_
        refine Xd rfl rfl c4 ?_
        refine Va (Vc rfl tf_34_1 ts_22 (by decide)) rfl ?_
        refine Xd rfl rfl c4 ?_
        refine Va (Vg rfl (Ve rfl rfl) rfl ta_22 rfl) rfl ?_
        refine Xd rfl rfl c4 ?_
        refine Va (Xk (Xv rfl rfl te_22) (congrArg (fun n : Nat => Wr .i64 (n : Int)) (Wx _))) rfl ?_
        refine Xd rfl rfl c4 ?_
        refine Va (Vk rfl) rfl ?_
        refine Xd rfl rfl c4 ?_
        refine Va (Ze rfl rfl) rfl ?_
        refine Va (Vn (congrArg Ws c4) rfl) rfl ?_
        refine Va (Vm rfl) rfl ?_
        refine Xd rfl rfl c5 ?_
        refine Va (Vc rfl tf_34_2 ts_22 (by decide)) rfl ?_
        refine Xd rfl rfl c5 ?_
        refine Va (Vg rfl (Ve rfl rfl) rfl ta_22 rfl) rfl ?_
        refine Xd rfl rfl c5 ?_
        refine Va (Xk (Xv rfl rfl te_22) (congrArg (fun n : Nat => Wr .i64 (n : Int)) (Wx _))) rfl ?_
        refine Xd rfl rfl c5 ?_
        refine Va (Vk rfl) rfl ?_
        refine Xd rfl rfl c5 ?_
        refine Va (Ze rfl rfl) rfl ?_
        refine Va (Vn (congrArg Ws c5) rfl) rfl ?_
        refine Va (Vm rfl) rfl ?_
        refine Xd rfl rfl c6 ?_
        refine Va (Vc rfl tf_34_3 ts_32 (by decide)) rfl ?_
        refine Xd rfl rfl c6 ?_
        refine Va (Vg rfl (Ve rfl rfl) rfl ta_32 rfl) rfl ?_
        refine Xd rfl rfl c6 ?_
        refine Va (Xk (Xv rfl rfl te_32) (congrArg (fun n : Nat => Wr .i64 (n : Int)) (Wx _))) rfl ?_
        refine Xd rfl rfl c6 ?_
        refine Va (Vk rfl) rfl ?_
        refine Xd rfl rfl c6 ?_
        refine Va (Ze rfl rfl) rfl ?_
        refine Va (Vn (congrArg Ws c6) rfl) rfl ?_
        refine Va (Vm rfl) rfl ?_
        refine Xd rfl rfl c7 ?_
        refine Va (Vc rfl tf_34_4 ts_32 (by decide)) rfl ?_
        refine Xd rfl rfl c7 ?_
        refine Va (Vg rfl (Ve rfl rfl) rfl ta_32 rfl) rfl ?_
        refine Xd rfl rfl c7 ?_
        refine Va (Xk (Xv rfl rfl te_32) (congrArg (fun n : Nat => Wr .i64 (n : Int)) (Wx _))) rfl ?_
        refine Xd rfl rfl c7 ?_
        refine Va (Vk rfl) rfl ?_
        refine Xd rfl rfl c7 ?_
        refine Va (Ze rfl rfl) rfl ?_
        refine Va (Vn (congrArg Ws c7) rfl) rfl ?_
        refine Va (Vm rfl) rfl ?_
        refine Vb rfl rfl (Zo c8) rfl ?_
        refine Vb rfl rfl (Zo c8) rfl ?_
        refine Vb rfl rfl (Zo c8) rfl ?_
        refine Vb rfl rfl (Zo c8) rfl ?_
        refine Va (Vo (congrArg Ws c8) rfl) rfl ?_
        refine Vf ?_
        obtain rfl := Wt hF
        refine Xy ?_
        exact Vp ⟨rfl, rfl, rfl, trivial⟩
       ·have hF := Yp c8 hF
        obtain ⟨x9, h10, hF⟩ := Yt hF
        refine Va (Xc rfl) rfl ?_
        refine Vj (Xp rfl Try.call29 (F_belts_sound_ok h3 _)) rfl ?_
        refine Va (Zp rfl) rfl ?_
        refine Va (Vm rfl) rfl ?_
        refine Xd rfl rfl c4 ?_
        refine Va (Vc rfl tf_34_1 ts_22 (by decide)) rfl ?_
        refine Xd rfl rfl c4 ?_
        refine Va (Vg rfl (Ve rfl rfl) rfl ta_22 rfl) rfl ?_
        refine Xd rfl rfl c4 ?_
        refine Va (Xk (Xv rfl rfl te_22) (congrArg (fun n : Nat => Wr .i64 (n : Int)) (Wx _))) rfl ?_
        refine Xd rfl rfl c4 ?_
        refine Va (Vk rfl) rfl ?_
        refine Xd rfl rfl c4 ?_
        refine Va (Ze rfl rfl) rfl ?_
        refine Va (Vn (congrArg Ws c4) rfl) rfl ?_
        refine Va (Vm rfl) rfl ?_
        refine Xd rfl rfl c5 ?_
        refine Va (Vc rfl tf_34_2 ts_22 (by decide)) rfl ?_
        refine Xd rfl rfl c5 ?_
        refine Va (Vg rfl (Ve rfl rfl) rfl ta_22 rfl) rfl ?_
        refine Xd rfl rfl c5 ?_
        refine Va (Xk (Xv rfl rfl te_22) (congrArg (fun n : Nat => Wr .i64 (n : Int)) (Wx _))) rfl ?_
        refine Xd rfl rfl c5 ?_
        refine Va (Vk rfl) rfl ?_
        refine Xd rfl rfl c5 ?_
        refine Va (Ze rfl rfl) rfl ?_
        refine Va (Vn (congrArg Ws c5) rfl) rfl ?_
        refine Va (Vm rfl) rfl ?_
        refine Xd rfl rfl c6 ?_
        refine Va (Vc rfl tf_34_3 ts_32 (by decide)) rfl ?_
        refine Xd rfl rfl c6 ?_
        refine Va (Vg rfl (Ve rfl rfl) rfl ta_32 rfl) rfl ?_
        refine Xd rfl rfl c6 ?_
        refine Va (Xk (Xv rfl rfl te_32) (congrArg (fun n : Nat => Wr .i64 (n : Int)) (Wx _))) rfl ?_
        refine Xd rfl rfl c6 ?_
        refine Va (Vk rfl) rfl ?_
        refine Xd rfl rfl c6 ?_
        refine Va (Ze rfl rfl) rfl ?_
        refine Va (Vn (congrArg Ws c6) rfl) rfl ?_
        refine Va (Vm rfl) rfl ?_
        refine Xd rfl rfl c7 ?_
        refine Va (Vc rfl tf_34_4 ts_32 (by decide)) rfl ?_
        refine Xd rfl rfl c7 ?_
        refine Va (Vg rfl (Ve rfl rfl) rfl ta_32 rfl) rfl ?_
        refine Xd rfl rfl c7 ?_
        refine Va (Xk (Xv rfl rfl te_32) (congrArg (fun n : Nat => Wr .i64 (n : Int)) (Wx _))) rfl ?_
        refine Xd rfl rfl c7 ?_
        refine Va (Vk rfl) rfl ?_
        refine Xd rfl rfl c7 ?_
        refine Va (Ze rfl rfl) rfl ?_
        refine Va (Vn (congrArg Ws c7) rfl) rfl ?_
        refine Va (Vm rfl) rfl ?_
        refine Xd rfl rfl c8 ?_
        refine Va (Vc rfl tf_34_0 ts_3 (by decide)) rfl ?_
        refine Xd rfl rfl c8 ?_
        refine Va (Vg rfl (Ve rfl rfl) rfl ta_3 rfl) rfl ?_
        refine Xd rfl rfl c8 ?_
        refine Vj (Xp rfl Try.call33 (F_lists_In_ok h10 _)) rfl ?_
        refine Xd rfl rfl c8 ?_
        refine Va (Zp rfl) rfl ?_
        refine Va (Vn (congrArg Ws c8) rfl) rfl ?_
        refine Vf ?_
        obtain rfl := Wt hF
        refine Xy ?_
        exact Vp ⟨rfl, rfl, rfl, trivial⟩
  ·rintro _ _ _ _ ⟨rfl, hw⟩
   refine ⟨_, _, _, hw, ?_⟩
   refine Xh rfl (fun c11 => ?_) (fun c11 => ?_)
   ·have hF := Yo c11 hF
    refine Vi ?_
    refine Vd ?_
    refine Va (Xz rfl) rfl ?_
    refine Vf ?_
    refine Xb ?_
    obtain rfl := Wt hF
    refine Wg ?_
    exact Vt rfl [] (by decide) ⟨Vr rfl (.bool _), trivial⟩ trivial
   ·have hF := Yp c11 hF
    refine Xn ?_
    refine Vi ?_
    refine Vi ?_
    refine Vd ?_
    refine Va (Vc rfl tf_34_1 ts_22 (by decide)) rfl ?_
    refine Va (Vg rfl (Ve rfl rfl) rfl ta_22 rfl) rfl ?_
    refine Va (Xk (Xv rfl rfl te_22) (congrArg (fun n : Nat => Wr .i64 (n : Int)) (Wx _))) rfl ?_
    refine Va (Vk rfl) rfl ?_
    refine Vf ?_
    refine Yh ?_
    obtain ⟨o13, ho13, hF⟩ := Yt hF
    refine Vw (Wb (F_belts_Valid_L1 p0 p1) (fun s12 E' lw lc => Yb E' lw lc [(0, .vs 2 (Wq T_Belt.enc p0)), (3, .ptr (low.length + 0) 0 0 0), (49, .vs 1 (Wq (Wr .i64) p1.States)), (50, .int .i64 ((p1.States).length : Int)), (51, .int .i64 s12)] low [⟨34, 5, [.agg [.int .i64 p1.Time, .vs 1 (Wq (Wr .i64) p1.States), .vs 1 (Wq (Wr .i64) p1.Since), .vs 1 (Wq Ws p1.Pulled), .vs 1 (Wq Ws p1.Held)]], 0⟩]) (Sum.elim (fun j14 => OnlyE .ret (fun E' lw lc => Yb E' lw lc [(4, .bool false)] low [])) (fun j15 => OnlyE (.exit 0) (fun E' lw lc => Yb E' lw lc [] low []))) ho13 ?_ (by rintro (_|_) _ _ _ ⟨h, _⟩ <;> cases h) ?_) ?_
    ·exact Vp ⟨rfl, rfl, rfl, rfl, rfl, trivial⟩
    ·rintro s12 os12 _ _ _ hF hw
     unfold F_belts_Valid_L1 at hF
     refine Yd hw ?_
     refine Vi ?_
     refine Vd ?_
     refine Va (Zr rfl rfl) rfl ?_
     refine Vf ?_
     refine Vi ?_
     refine Xh rfl (fun c16 => ?_) (fun c16 => ?_)
     ·have hF := Yo c16 hF
      refine Xn ?_
      refine Vi ?_
      obtain ⟨o17, ho17, hF⟩ := Yt hF
      refine Vw (Q' := Sum.elim (fun j18 => OnlyE .ret (fun E' lw lc => Yb E' lw lc [(4, .bool false)] low [])) (fun j19 => OnlyE .normal (fun E' lw lc => Yb E' lw lc [(0, .vs 2 (Wq T_Belt.enc p0)), (3, .ptr (low.length + 0) 0 0 0), (49, .vs 1 (Wq (Wr .i64) p1.States)), (50, .int .i64 ((p1.States).length : Int)), (51, .int .i64 s12)] low [⟨34, 5, [.agg [.int .i64 p1.Time, .vs 1 (Wq (Wr .i64) p1.States), .vs 1 (Wq (Wr .i64) p1.Since), .vs 1 (Wq Ws p1.Pulled), .vs 1 (Wq Ws p1.Held)]], 0⟩])) o17) ?_ ?_
      ·replace hF := ho17
       refine Yh ?_
       refine Vi ?_
       refine Vd ?_
       obtain ⟨x20, h21, hF⟩ := Yt hF
       refine Va (Vk rfl) rfl ?_
       refine Va (Xk (Yl rfl rfl h21 te_22 ts_3) (v' := .vptr [.int .i64 x20] 0) rfl) rfl ?_
       refine Va (Xj rfl ta_3 rfl) rfl ?_
       refine Va (Xa rfl) rfl ?_
       refine Va (Xa rfl) rfl ?_
       refine Vf ?_
       refine Vi ?_
       refine Vd ?_
       obtain ⟨x22, h23, hF⟩ := Yt hF
       refine Va (Xc rfl) rfl ?_
       refine Va (Vk rfl) rfl ?_
       refine Va (Xk (Yl rfl rfl h23 te_27 ts_31) (v' := .vptr [.int .i64 x22.Onto, .int .i64 x22.Warn] 0) rfl) rfl ?_
       refine Va (Yf rfl tf_31_0 ts_3 (by decide)) rfl ?_
       refine Va (Xj rfl ta_3 rfl) rfl ?_
       refine Va (Xa rfl) rfl ?_
       refine Vf ?_
       refine Yh ?_
       refine Vi ?_
       obtain ⟨o24, ho24, hF⟩ := Yt hF
       refine Vw (Q' := (fun o24 => OnlyE .normal (fun E' lw lc => Yb E' lw lc [(0, .vs 2 (Wq T_Belt.enc p0)), (3, .ptr (low.length + 0) 0 0 0), (6, .int .i64 s12), (7, .int .i64 x20), (8, .int .i64 x22.Onto), (49, .vs 1 (Wq (Wr .i64) p1.States)), (50, .int .i64 ((p1.States).length : Int)), (51, .int .i64 s12), (61, .bool o24)] low [⟨34, 5, [.agg [.int .i64 p1.Time, .vs 1 (Wq (Wr .i64) p1.States), .vs 1 (Wq (Wr .i64) p1.Since), .vs 1 (Wq Ws p1.Pulled), .vs 1 (Wq Ws p1.Held)]], 0⟩])) o24) ?_ ?_
       ·replace hF := ho24
        obtain ⟨x25, h26, hF⟩ := Yt hF
        rcases Ww (!x25) with c27 | c27
        ·have hF := Yo c27 hF
         refine Zk [[], [0], [0, 1], [0, 1, 2], [0, 1, 2, 3], [0, 1, 2, 3, 4], [0, 1, 2, 3], [0, 1, 2, 3, 4, 5, 6], [0, 1, 2, 3, 4, 5, 6, 7], [0, 1, 2, 3], [0, 1, 2, 3, 9], [0, 1, 2, 3, 4, 5, 6, 7, 8, 9, 10], [0, 1, 2, 3, 4, 5, 6, 7, 8, 9, 10, 11], [0, 1, 2, 3, 4, 5, 6, 7, 8, 9, 10, 11, 12], [0, 1, 2, 3, 4, 5, 6, 7, 8, 9, 10, 11, 12, 13]] mixed (by kernel_rfl) rfl ?_
         refine Ym rfl rfl (Vk rfl) ?_
         refine dn1 rfl rfl (nt_of (Xp rfl Try.call33 (F_lists_In_ok h26 _))) ?_
         refine Ym rfl rfl (Zp rfl) ?_
         refine Ym rfl rfl (Vm rfl) ?_
         refine Vq rfl rfl rfl (Zo c27) ?_
         refine Vq rfl rfl rfl (Zo c27) ?_
         refine Vq rfl rfl rfl (Zo c27) ?_
         refine Vq rfl rfl rfl (Zo c27) ?_
         refine Vq rfl rfl rfl (Zo c27) ?_
         refine Vq rfl rfl rfl (Zo c27) ?_
         refine Vq rfl rfl rfl (Zo c27) ?_
         refine Vq rfl rfl rfl (Zo c27) ?_
         refine Vq rfl rfl rfl (Zo c27) ?_
         refine Ym rfl rfl (Vo (congrArg Ws c27) rfl) ?_
         refine Ym rfl rfl (Xz rfl) ?_
         refine Yz ?_
         obtain rfl := Wt hF
         refine Xy ?_
         exact Vp ⟨rfl, rfl, rfl, rfl, rfl, rfl, rfl, rfl, rfl, trivial⟩
        ·have hF := Yp c27 hF
         obtain ⟨x28, h29, hF⟩ := Yt hF
         obtain ⟨x30, h31, hF⟩ := Yt hF
         refine Zk [[], [0], [0, 1], [0, 1, 2], [0, 1, 2, 3], [0, 1, 2, 3, 4], [0, 1, 2, 3], [0, 1, 2, 3, 4, 5, 6], [0, 1, 2, 3, 4, 5, 6, 7], [0, 1, 2, 3], [0, 1, 2, 3, 9], [0, 1, 2, 3, 4, 5, 6, 7, 8, 9, 10], [0, 1, 2, 3, 4, 5, 6, 7, 8, 9, 10, 11], [0, 1, 2, 3, 4, 5, 6, 7, 8, 9, 10, 11, 12], [0, 1, 2, 3, 4, 5, 6, 7, 8, 9, 10, 11, 12, 13]] mixed (by kernel_rfl) rfl ?_
         refine Ym rfl rfl (Vk rfl) ?_
         refine dn1 rfl rfl (nt_of (Xp rfl Try.call33 (F_lists_In_ok h26 _))) ?_
         refine Ym rfl rfl (Zp rfl) ?_
         refine Ym rfl rfl (Vm rfl) ?_
         refine Zu rfl rfl rfl rfl c27 (Vc rfl tf_34_2 ts_22 (by decide)) ?_
         refine Zu rfl rfl rfl rfl c27 (Vg rfl (Ve rfl rfl) rfl ta_22 rfl) ?_
         refine Zu rfl rfl rfl rfl c27 (Vk rfl) ?_
         refine Zu rfl rfl rfl rfl c27 (Xk (Yl rfl rfl h29 te_22 ts_3) (v' := .vptr [.int .i64 x28] 0) rfl) ?_
         refine Zu rfl rfl rfl rfl c27 (Xj rfl ta_3 rfl) ?_
         refine Zu rfl rfl rfl rfl c27 (Vc rfl tf_34_0 ts_3 (by decide)) ?_
         refine Zu rfl rfl rfl rfl c27 (Vg rfl (Ve rfl rfl) rfl ta_3 rfl) ?_
         refine dops_takeW _ rfl rfl rfl (congrArg Ws c27) (Xx (nt_of (Xp rfl Try.call33 (F_lists_In_ok h31 _))) Zn) ?_
         refine Zu rfl rfl rfl rfl c27 (Zp rfl) ?_
         refine Ym rfl rfl (Vn (congrArg Ws c27) rfl) ?_
         refine Ym rfl rfl (Xz rfl) ?_
         refine Yz ?_
         obtain rfl := Wt hF
         refine Xy ?_
         exact Vp ⟨rfl, rfl, rfl, rfl, rfl, rfl, rfl, rfl, rfl, trivial⟩
       ·rintro _ _ _ _ ⟨rfl, hw⟩
        refine ⟨_, _, _, hw, ?_⟩
        refine Xh rfl (fun c32 => ?_) (fun c32 => ?_)
        ·have hF := Yo c32 hF
         refine Vi ?_
         refine Vd ?_
         refine Va (Xz rfl) rfl ?_
         refine Vf ?_
         refine Xb ?_
         obtain rfl := Wt hF
         refine Xy ?_
         exact Vt rfl [] (by decide) ⟨Vr rfl (.bool _), trivial⟩ trivial
        ·have hF := Yp c32 hF
         refine Vi ?_
         refine Vd ?_
         refine Va (Vk rfl) rfl ?_
         refine Va (Xl rfl rfl) rfl ?_
         refine Va (Xz rfl) rfl ?_
         refine Vf ?_
         refine Xh rfl (fun c33 => ?_) (fun c33 => ?_)
         ·have hF := Yo c33 hF
          refine Xn ?_
          obtain rfl := Wt hF
          refine Xy ?_
          exact Vp ⟨rfl, rfl, rfl, rfl, rfl, trivial⟩
         ·have hF := Yp c33 hF
          refine Vi ?_
          obtain ⟨o34, ho34, hF⟩ := Yt hF
          refine Vw (Q' := (fun o34 => OnlyE .normal (fun E' lw lc => Yb E' lw lc [(0, .vs 2 (Wq T_Belt.enc p0)), (3, .ptr (low.length + 0) 0 0 0), (49, .vs 1 (Wq (Wr .i64) p1.States)), (50, .int .i64 ((p1.States).length : Int)), (51, .int .i64 s12), (79, .bool o34)] low [⟨34, 5, [.agg [.int .i64 p1.Time, .vs 1 (Wq (Wr .i64) p1.States), .vs 1 (Wq (Wr .i64) p1.Since), .vs 1 (Wq Ws p1.Pulled), .vs 1 (Wq Ws p1.Held)]], 0⟩])) o34) ?_ ?_
          ·replace hF := ho34
           refine Vd ?_
           obtain ⟨x35, h36, hF⟩ := Yt hF
           rcases Ww x35 with c37 | c37
           ·have hF := Yo c37 hF
            refine Va (Vc rfl tf_34_3 ts_32 (by decide)) rfl ?_
            refine Va (Vg rfl (Ve rfl rfl) rfl ta_32 rfl) rfl ?_
            refine Va (Vk rfl) rfl ?_
            refine Va (Xk (Yl rfl rfl h36 te_32 ts_4) (v' := .vptr [.bool x35] 0) rfl) rfl ?_
            refine Va (Xj rfl ta_4 rfl) rfl ?_
            refine Va (Vm rfl) rfl ?_
            refine Vb rfl rfl (Zo c37) rfl ?_
            refine Vb rfl rfl (Zo c37) rfl ?_
            refine Vb rfl rfl (Zo c37) rfl ?_
            refine Vb rfl rfl (Zo c37) rfl ?_
            refine Vb rfl rfl (Zo c37) rfl ?_
            refine Va (Vo (congrArg Ws c37) rfl) rfl ?_
            refine Va (Vm rfl) rfl ?_
            refine Vb rfl rfl (by decide) rfl ?_
            refine Vb rfl rfl (by decide) rfl ?_
            refine Vb rfl rfl (by decide) rfl ?_
            refine vops_skipX rfl rfl rfl ?_
            refine vops_skipX rfl rfl rfl ?_
            refine vops_skipX rfl rfl rfl ?_
            refine vops_skipX rfl rfl rfl ?_
            refine vops_skipX rfl rfl rfl ?_
            refine vops_skipX rfl rfl rfl ?_
            refine Vb rfl rfl (by decide) rfl ?_
            refine Va (Vo rfl rfl) rfl ?_
            refine Va (Xz rfl) rfl ?_
            refine Vf ?_
            obtain rfl := Wt hF
            refine Xy ?_
            exact Vp ⟨rfl, rfl, rfl, rfl, rfl, rfl, trivial⟩
           ·have hF := Yp c37 hF
            obtain ⟨x38, h39, hF⟩ := Yt hF
            rcases Ww x38 with c40 | c40
            ·have hF := Yo c40 hF
             refine Va (Vc rfl tf_34_3 ts_32 (by decide)) rfl ?_
             refine Va (Vg rfl (Ve rfl rfl) rfl ta_32 rfl) rfl ?_
             refine Va (Vk rfl) rfl ?_
             refine Va (Xk (Yl rfl rfl h36 te_32 ts_4) (v' := .vptr [.bool x35] 0) rfl) rfl ?_
             refine Va (Xj rfl ta_4 rfl) rfl ?_
             refine Va (Vm rfl) rfl ?_
             refine Xd rfl rfl c37 ?_
             refine Va (Vc rfl tf_34_4 ts_32 (by decide)) rfl ?_
             refine Xd rfl rfl c37 ?_
             refine Va (Vg rfl (Ve rfl rfl) rfl ta_32 rfl) rfl ?_
             refine Xd rfl rfl c37 ?_
             refine Va (Vk rfl) rfl ?_
             refine Xd rfl rfl c37 ?_
             refine Va (Xk (Yl rfl rfl h39 te_32 ts_4) (v' := .vptr [.bool x38] 0) rfl) rfl ?_
             refine Xd rfl rfl c37 ?_
             refine Va (Xj rfl ta_4 rfl) rfl ?_
             refine Va (Vn (congrArg Ws c37) rfl) rfl ?_
             refine Va (Vm rfl) rfl ?_
             refine Vb rfl rfl (Zo c40) rfl ?_
             refine Vb rfl rfl (Zo c40) rfl ?_
             refine Vb rfl rfl (Zo c40) rfl ?_
             refine vops_skipX rfl rfl rfl ?_
             refine vops_skipX rfl rfl rfl ?_
             refine vops_skipX rfl rfl rfl ?_
             refine vops_skipX rfl rfl rfl ?_
             refine vops_skipX rfl rfl rfl ?_
             refine vops_skipX rfl rfl rfl ?_
             refine Vb rfl rfl (Zo c40) rfl ?_
             refine Va (Vo (congrArg Ws c40) rfl) rfl ?_
             refine Va (Xz rfl) rfl ?_
             refine Vf ?_
             obtain rfl := Wt hF
             refine Xy ?_
             exact Vp ⟨rfl, rfl, rfl, rfl, rfl, rfl, trivial⟩
            ·have hF := Yp c40 hF
             rcases Ww (decide (0 ≤ x22.Onto)) with c41 | c41
             ·have hF := Yo c41 hF
              obtain ⟨x42, h43, hF⟩ := Yt hF
              refine Va (Vc rfl tf_34_3 ts_32 (by decide)) rfl ?_
              refine Va (Vg rfl (Ve rfl rfl) rfl ta_32 rfl) rfl ?_
              refine Va (Vk rfl) rfl ?_
              refine Va (Xk (Yl rfl rfl h36 te_32 ts_4) (v' := .vptr [.bool x35] 0) rfl) rfl ?_
              refine Va (Xj rfl ta_4 rfl) rfl ?_
              refine Va (Vm rfl) rfl ?_
              refine Xd rfl rfl c37 ?_
              refine Va (Vc rfl tf_34_4 ts_32 (by decide)) rfl ?_
              refine Xd rfl rfl c37 ?_
              refine Va (Vg rfl (Ve rfl rfl) rfl ta_32 rfl) rfl ?_
              refine Xd rfl rfl c37 ?_
              refine Va (Vk rfl) rfl ?_
              refine Xd rfl rfl c37 ?_
              refine Va (Xk (Yl rfl rfl h39 te_32 ts_4) (v' := .vptr [.bool x38] 0) rfl) rfl ?_
              refine Xd rfl rfl c37 ?_
              refine Va (Xj rfl ta_4 rfl) rfl ?_
              refine Va (Vn (congrArg Ws c37) rfl) rfl ?_
              refine Va (Vm rfl) rfl ?_
              refine Xd rfl rfl c40 ?_
              refine Va (Vk rfl) rfl ?_
              refine Xd rfl rfl c40 ?_
              refine Va (rd_geq rfl rfl) rfl ?_
              refine Xd rfl rfl c40 ?_
              refine Va (Vm rfl) rfl ?_
              refine Xd rfl rfl c41 ?_
              refine Va (Vc rfl tf_34_1 ts_22 (by decide)) rfl ?_
              refine Xd rfl rfl c41 ?_
              refine Va (Vg rfl (Ve rfl rfl) rfl ta_22 rfl) rfl ?_
              refine Xd rfl rfl c41 ?_
              refine Va (Vk rfl) rfl ?_
              refine Xd rfl rfl c41 ?_
              refine Va (Xk (Yl rfl rfl h43 te_22 ts_3) (v' := .vptr [.int .i64 x42] 0) rfl) rfl ?_
              refine Xd rfl rfl c41 ?_
              refine Va (Xj rfl ta_3 rfl) rfl ?_
              refine Xd rfl rfl c41 ?_
              refine Va (Ze rfl rfl) rfl ?_
              refine Xd rfl rfl c40 ?_
              refine Va (Vo (congrArg Ws c41) rfl) rfl ?_
              refine Va (Vn (congrArg Ws c40) rfl) rfl ?_
              refine Va (Xz rfl) rfl ?_
              refine Vf ?_
              obtain rfl := Wt hF
              refine Xy ?_
              exact Vp ⟨rfl, rfl, rfl, rfl, rfl, rfl, trivial⟩
             ·have hF := Yp c41 hF
              refine Va (Vc rfl tf_34_3 ts_32 (by decide)) rfl ?_
              refine Va (Vg rfl (Ve rfl rfl) rfl ta_32 rfl) rfl ?_
              refine Va (Vk rfl) rfl ?_
              refine Va (Xk (Yl rfl rfl h36 te_32 ts_4) (v' := .vptr [.bool x35] 0) rfl) rfl ?_
              refine Va (Xj rfl ta_4 rfl) rfl ?_
              refine Va (Vm rfl) rfl ?_
              refine Xd rfl rfl c37 ?_
              refine Va (Vc rfl tf_34_4 ts_32 (by decide)) rfl ?_
              refine Xd rfl rfl c37 ?_
              refine Va (Vg rfl (Ve rfl rfl) rfl ta_32 rfl) rfl ?_
              refine Xd rfl rfl c37 ?_
              refine Va (Vk rfl) rfl ?_
              refine Xd rfl rfl c37 ?_
              refine Va (Xk (Yl rfl rfl h39 te_32 ts_4) (v' := .vptr [.bool x38] 0) rfl) rfl ?_
              refine Xd rfl rfl c37 ?_
              refine Va (Xj rfl ta_4 rfl) rfl ?_
              refine Va (Vn (congrArg Ws c37) rfl) rfl ?_
              refine Va (Vm rfl) rfl ?_
              refine Xd rfl rfl c40 ?_
              refine Va (Vk rfl) rfl ?_
              refine Xd rfl rfl c40 ?_
              refine Va (rd_geq rfl rfl) rfl ?_
              refine Xd rfl rfl c40 ?_
              refine Va (Vm rfl) rfl ?_
              refine Vb rfl rfl (Zz c41) rfl ?_
              refine Vb rfl rfl (Zz c41) rfl ?_
              refine Vb rfl rfl (Zz c41) rfl ?_
              refine Vb rfl rfl (Zz c41) rfl ?_
              refine Vb rfl rfl (Zz c41) rfl ?_
              refine Vb rfl rfl (Zz c41) rfl ?_
              refine Xd rfl rfl c40 ?_
              refine Va (Vn (congrArg Ws c41) rfl) rfl ?_
              refine Va (Vn (congrArg Ws c40) rfl) rfl ?_
              refine Va (Xz rfl) rfl ?_
              refine Vf ?_
              obtain rfl := Wt hF
              refine Xy ?_
              exact Vp ⟨rfl, rfl, rfl, rfl, rfl, rfl, trivial⟩
          ·rintro _ _ _ _ ⟨rfl, hw⟩
           refine ⟨_, _, _, hw, ?_⟩
           refine Xh rfl (fun c44 => ?_) (fun c44 => ?_)
           ·have hF := Yo c44 hF
            refine Vi ?_
            refine Vd ?_
            refine Va (Xz rfl) rfl ?_
            refine Vf ?_
            refine Xb ?_
            obtain rfl := Wt hF
            refine Xy ?_
            exact Vt rfl [] (by decide) ⟨Vr rfl (.bool _), trivial⟩ trivial
           ·have hF := Yp c44 hF
            refine Xn ?_
            obtain rfl := Wt hF
            refine Xy ?_
            exact Vp ⟨rfl, rfl, rfl, rfl, rfl, trivial⟩
      ·rcases o17 with j18 | j19
       ·replace hF := elimL hF
        rintro _ _ _ _ ⟨rfl, hw⟩
        refine ⟨_, _, _, hw, ?_⟩
        obtain rfl := Wt hF
        refine Xy ?_
        exact Vp ⟨rfl, trivial⟩
       ·replace hF := elimR hF
        rintro _ _ _ _ ⟨rfl, hw⟩
        refine ⟨_, _, _, hw, ?_⟩
        refine Vd ?_
        refine Va (Wk rfl rfl rfl) rfl ?_
        refine Va (Vk rfl) rfl ?_
        refine Vf ?_
        obtain rfl := Wt hF
        refine Xy ?_
        exact Vp ⟨rfl, rfl, rfl, rfl, rfl, trivial⟩
     ·have hF := Yp c16 hF
      refine Wi ?_
      obtain rfl := Wt hF
      refine Xy ?_
      exact Vt rfl [] (by decide) trivial trivial
    ·rcases o13 with j14 | j15
     ·replace hF := elimL hF
      rintro _ _ _ _ ⟨rfl, hw⟩
      refine ⟨_, _, _, hw, ?_⟩
      obtain rfl := Wt hF
      refine Wg ?_
      exact Vp ⟨rfl, trivial⟩
     ·replace hF := elimR hF
      rintro _ _ _ _ ⟨rfl, hw⟩
      refine ⟨_, _, _, hw, ?_⟩
      refine Vi ?_
      refine Vd ?_
      refine Va (Xz rfl) rfl ?_
      refine Vf ?_
      refine Xb ?_
      obtain rfl := Wt hF
      refine Wg ?_
      exact Vp ⟨rfl, trivial⟩
 ·rintro _ _ _ _ ⟨he, hw⟩
  refine ⟨_, _, _, hw, ?_⟩
  exact Zd he [.bool r] ⟨rfl, trivial⟩ (.bool _) ⟨rfl, rfl⟩

theorem F_belts_checked_ok {p0 : List T_Belt} {p1 : T_Line} {p2 : Int} {r : Int} (hF : F_belts_checked p0 p1 p2 = some r) (low : List AObj) :
    Ys Try.prog 30 [.vs 2 (Wq T_Belt.enc p0), .agg [.int .i64 p1.Time, .vs 1 (Wq (Wr .i64) p1.States), .vs 1 (Wq (Wr .i64) p1.Since), .vs 1 (Wq Ws p1.Pulled), .vs 1 (Wq Ws p1.Held)], .int .i64 p2] low fun x low' => x = .int .i64 r ∧ low' = low := by
 refine Vz (nt := 19) (rs := [.tmp 6]) Try.func30 rfl rfl (Wu rfl) rfl ?_
 refine Vw (Q' := FnE (fun E' lw lc => Yb E' lw lc [(6, .int .i64 r)] low [])) ?_ ?_
 ·unfold F_belts_checked at hF
  refine Vi ?_
  refine Vd ?_
  refine Vj (Zc rfl rfl (v := .agg [.int .i64 p1.Time, .vs 1 (Wq (Wr .i64) p1.States), .vs 1 (Wq (Wr .i64) p1.Since), .vs 1 (Wq Ws p1.Pulled), .vs 1 (Wq Ws p1.Held)]) rfl rfl (Wv _) rfl rfl) rfl ?_
  refine Va (Xa rfl) rfl ?_
  refine Vf ?_
  refine Vi ?_
  refine Yh ?_
  refine Vi ?_
  refine Vd ?_
  obtain ⟨x1, h2, hF⟩ := Yt hF
  refine Va (Xc rfl) rfl ?_
  refine Va (Vv (ds := [.int .i64 p1.Time, .vs 1 (Wq (Wr .i64) p1.States), .vs 1 (Wq (Wr .i64) p1.Since), .vs 1 (Wq Ws p1.Pulled), .vs 1 (Wq Ws p1.Held)]) rfl (Ve rfl rfl) rfl ta_34 ts_34 rfl rfl rfl) rfl ?_
  refine Vj (Xp rfl Try.call28 (F_belts_Valid_ok h2 _)) rfl ?_
  refine Va (Zp rfl) rfl ?_
  refine Va (Xz rfl) rfl ?_
  refine Vf ?_
  refine Xh rfl (fun c3 => ?_) (fun c3 => ?_)
  ·have hF := Yo c3 hF
   refine Vi ?_
   refine Vd ?_
   refine Va (Xa rfl) rfl ?_
   refine Vf ?_
   refine Xb ?_
   obtain rfl := Wt hF
   refine Wg ?_
   exact Vt rfl [] (by decide) ⟨Vr rfl (.int _ _), trivial⟩ trivial
  ·have hF := Yp c3 hF
   refine Vi ?_
   refine Vd ?_
   obtain ⟨x4, h5, hF⟩ := Yt hF
   refine Va (Vk rfl) rfl ?_
   refine Va (Xc rfl) rfl ?_
   refine Va (Xk (Xv rfl rfl te_27) (congrArg (fun n : Nat => Wr .i64 (n : Int)) (Wx _))) rfl ?_
   refine Va (rd_sub rfl rfl rfl) rfl ?_
   refine Vj (Xp rfl Try.call33 (F_lists_In_ok h5 _)) rfl ?_
   refine Va (Zp rfl) rfl ?_
   refine Va (Xz rfl) rfl ?_
   refine Vf ?_
   refine Xh rfl (fun c6 => ?_) (fun c6 => ?_)
   ·have hF := Yo c6 hF
    refine Vi ?_
    refine Vd ?_
    refine Va (Xa rfl) rfl ?_
    refine Vf ?_
    refine Xb ?_
    obtain rfl := Wt hF
    refine Wg ?_
    exact Vt rfl [] (by decide) ⟨Vr rfl (.int _ _), trivial⟩ trivial
   ·have hF := Yp c6 hF
    refine Xn ?_
    refine Vi ?_
    refine Vd ?_
    refine Va (Xa rfl) rfl ?_
    refine Vf ?_
    refine Xb ?_
    obtain rfl := Wt hF
    refine Wg ?_
    exact Vt rfl [] (by decide) ⟨Vr rfl (.int _ _), trivial⟩ trivial
 ·rintro _ _ _ _ ⟨he, hw⟩
  refine ⟨_, _, _, hw, ?_⟩
  exact Zd he [.int .i64 r] ⟨rfl, trivial⟩ (.int _ _) ⟨rfl, rfl⟩

theorem F_belts_Start_1_ok0 {p0 : T_Line} {p1 : Int} {r : T_Line} (hF : F_belts_Start_1 p0 p1 = some r) {low0 : List AObj} {q0 q1 q2 q3 q4 q5 w0 w1 w2 w3 w4 w5 : Nat} (hB : Bor low0 [q0, q1, q2, q3, q4, q5]) {m1 : Nat} (hm1 : m1 = (p0.States).length) {m2 : Nat} (hm2 : m2 = (p0.Since).length) {m3 : Nat} (hm3 : m3 = (p0.Pulled).length) {m4 : Nat} (hm4 : m4 = (p0.Held).length) {n : Nat} (hn : low0.length = n) :
    Ys Try.prog 32 [.ptr q0 w0 0 0, .ptr q5 w5 0 0] (setL low0 [(q0, ⟨34, 5, [.agg [.int .i64 p0.Time, .sl q1 w1 0 m1, .sl q2 w2 0 m2, .sl q3 w3 0 m3, .sl q4 w4 0 m4]], w0⟩), (q1, ⟨3, 1, Wq (Wr .i64) p0.States, w1⟩), (q2, ⟨3, 1, Wq (Wr .i64) p0.Since, w2⟩), (q3, ⟨4, 1, Wq Ws p0.Pulled, w3⟩), (q4, ⟨4, 1, Wq Ws p0.Held, w4⟩), (q5, ⟨3, 1, [.int .i64 p1], w5⟩)]) fun x low' => x = .tup [] ∧ low' = setL low0 [(q0, ⟨34, 5, [.agg [.int .i64 r.Time, .sl q1 w1 0 m1, .sl q2 w2 0 m2, .sl q3 w3 0 m3, .sl q4 w4 0 m4]], w0⟩), (q1, ⟨3, 1, Wq (Wr .i64) r.States, w1⟩), (q2, ⟨3, 1, Wq (Wr .i64) r.Since, w2⟩), (q3, ⟨4, 1, Wq Ws r.Pulled, w3⟩), (q4, ⟨4, 1, Wq Ws r.Held, w4⟩), (q5, ⟨3, 1, [.int .i64 p1], w5⟩)] ++ [] := by
 refine Vz (nt := 19) (rs := []) Try.func32 rfl rfl (Wu rfl) rfl ?_
 have hq0 : q0 < n := hB.ltN hn 0 rfl
 have hq1 : q1 < n := hB.ltN hn 1 rfl
 have hq2 : q2 < n := hB.ltN hn 2 rfl
 have hq3 : q3 < n := hB.ltN hn 3 rfl
 have hq4 : q4 < n := hB.ltN hn 4 rfl
 have hq5 : q5 < n := hB.ltN hn 5 rfl
 refine Vw (Q' := FnE (fun E' lw lc => m1 = (r.States).length ∧ m2 = (r.Since).length ∧ m3 = (r.Pulled).length ∧ m4 = (r.Held).length ∧ Yb E' lw lc [] (setL low0 [(q0, ⟨34, 5, [.agg [.int .i64 r.Time, .sl q1 w1 0 m1, .sl q2 w2 0 m2, .sl q3 w3 0 m3, .sl q4 w4 0 m4]], w0⟩), (q1, ⟨3, 1, Wq (Wr .i64) r.States, w1⟩), (q2, ⟨3, 1, Wq (Wr .i64) r.Since, w2⟩), (q3, ⟨4, 1, Wq Ws r.Pulled, w3⟩), (q4, ⟨4, 1, Wq Ws r.Held, w4⟩), (q5, ⟨3, 1, [.int .i64 p1], w5⟩)]) [])) ?_ ?_
 ·unfold F_belts_Start_1 at hF
  obtain ⟨x5, h6, hF⟩ := Yt hF
  obtain ⟨x7, h8, hF⟩ := Yt hF
  refine Wc [[], [0], [0, 1], [0, 1, 2], [], [], [5], [5, 6], [5, 6, 7], [], [], [10], [10, 11], [10, 11, 12], [0, 1, 2, 3, 4, 5, 6, 7, 8, 10, 11, 12, 13], [0, 1, 2, 3, 4, 5, 6, 7, 8, 10, 11, 12, 13, 14], [0, 1, 2, 3, 4, 5, 6, 7, 8, 9, 10, 11, 12, 13, 14, 15], [0, 1, 2, 3, 4, 5, 6, 7, 8, 9, 10, 11, 12, 13, 14, 15, 16]] [false, false, false, false, false, false, false, false, false, false, false, false, false, false, false, true, false, true] [((setL low0 [(q0, ⟨34, 5, [.agg [.int .i64 p0.Time, .sl q1 w1 0 m1, .sl q2 w2 0 m2, .sl q3 w3 0 m3, .sl q4 w4 0 m4]], w0⟩), (q1, ⟨3, 1, Wq (Wr .i64) p0.States, w1⟩), (q2, ⟨3, 1, Wq (Wr .i64) p0.Since, w2⟩), (q3, ⟨4, 1, Wq Ws p0.Pulled, w3⟩), (q4, ⟨4, 1, Wq Ws p0.Held, w4⟩), (q5, ⟨3, 1, [.int .i64 p1], w5⟩)]), []), ((setL low0 [(q0, ⟨34, 5, [.agg [.int .i64 p0.Time, .sl q1 w1 0 m1, .sl q2 w2 0 m2, .sl q3 w3 0 m3, .sl q4 w4 0 m4]], w0⟩), (q1, ⟨3, 1, Wq (Wr .i64) (p0.States.set ((p1).toNat) 1), w1⟩), (q2, ⟨3, 1, Wq (Wr .i64) p0.Since, w2⟩), (q3, ⟨4, 1, Wq Ws p0.Pulled, w3⟩), (q4, ⟨4, 1, Wq Ws p0.Held, w4⟩), (q5, ⟨3, 1, [.int .i64 p1], w5⟩)]), []), ((setL low0 [(q0, ⟨34, 5, [.agg [.int .i64 p0.Time, .sl q1 w1 0 m1, .sl q2 w2 0 m2, .sl q3 w3 0 m3, .sl q4 w4 0 m4]], w0⟩), (q1, ⟨3, 1, Wq (Wr .i64) (p0.States.set ((p1).toNat) 1), w1⟩), (q2, ⟨3, 1, Wq (Wr .i64) (p0.Since.set ((p1).toNat) p0.Time), w2⟩), (q3, ⟨4, 1, Wq Ws p0.Pulled, w3⟩), (q4, ⟨4, 1, Wq Ws p0.Held, w4⟩), (q5, ⟨3, 1, [.int .i64 p1], w5⟩)]), [])] mixed (by kernel_rfl) rfl (lenAll (Xx Xo (Xx Xo (Xx Xo Zn)))) rfl _ rfl rfl ?_
  refine Ym rfl rfl (Zq rfl) ?_
  refine Ym rfl rfl (Zv rfl) ?_
  refine Ym rfl rfl (Vc rfl tf_34_1 ts_22 (by decide)) ?_
  refine Ym rfl rfl (Vg rfl (Yw hB rfl 0 rfl) rfl ta_22 rfl) ?_
  refine Ym rfl rfl (Vg rfl (Yw hB rfl 5 rfl) rfl ta_3 rfl) ?_
  refine Ym rfl rfl (Zq rfl) ?_
  refine Ym rfl rfl (Zv rfl) ?_
  refine Ym rfl rfl (Vc rfl tf_34_2 ts_22 (by decide)) ?_
  refine Ym rfl rfl (Vg rfl (Yw hB rfl 0 rfl) rfl ta_22 rfl) ?_
  refine Yi _ rfl rfl (Xx (VRd.ntl (Vg rfl (Yw hB rfl 5 rfl) rfl ta_3 rfl)) (Xx (VRd.ntl (Vg rfl (Yw hB rfl 5 rfl) rfl ta_3 rfl)) Zn)) ?_
  refine Ym rfl rfl (Zq rfl) ?_
  refine Ym rfl rfl (Zv rfl) ?_
  refine Ym rfl rfl (Vc rfl tf_34_0 ts_3 (by decide)) ?_
  refine Ym rfl rfl (Vg rfl (Yw hB rfl 0 rfl) rfl ta_3 rfl) ?_
  refine Ym rfl rfl (Wa rfl hm1 rfl (Yw hB rfl 1 rfl) h6 te_22 ts_3) ?_
  refine Zh rfl rfl rfl (Wl (p := .int .i64 1) (e' := 1) rfl (Yw hB rfl 1 rfl) (Zb h6).2 rfl ts_3 rfl (Ye rfl) (Wu rfl) rfl (setO_B hB rfl 1 rfl (Vh (fun _ => .int _ _)) rfl)) ?_
  refine Ym rfl rfl (Wa rfl hm2 rfl (Yw hB rfl 2 rfl) h8 te_22 ts_3) ?_
  refine Zh rfl rfl rfl (Wl (p := .int .i64 p0.Time) (e' := p0.Time) rfl (Yw hB rfl 2 rfl) (Zb h8).2 rfl ts_3 rfl (Ye rfl) (Wu rfl) rfl (setO_B hB rfl 2 rfl (Vh (fun _ => .int _ _)) rfl)) ?_
  refine Yz ?_
  obtain rfl := Wt hF
  refine And.intro (.inl rfl) (And.intro (Eq.trans hm1 List.length_set.symm) (And.intro (Eq.trans hm2 List.length_set.symm) (And.intro hm3 (And.intro hm4 ?_))))
  exact Vp trivial
 ·rintro _ _ _ _ ⟨he, hl1, hl2, hl3, hl4, hw⟩
  refine ⟨_, _, _, hw, ?_⟩
  exact Zd he [] trivial ((lt_tup trivial)) ⟨rfl, (List.append_nil _).symm⟩

theorem F_belts_Start_1_len {p0 : T_Line} {p1 : Int} {r : T_Line} (hF : F_belts_Start_1 p0 p1 = some r) {m1 : Nat} (hm1 : m1 = (p0.States).length) {m2 : Nat} (hm2 : m2 = (p0.Since).length) {m3 : Nat} (hm3 : m3 = (p0.Pulled).length) {m4 : Nat} (hm4 : m4 = (p0.Held).length) : m1 = (r.States).length ∧ m2 = (r.Since).length ∧ m3 = (r.Pulled).length ∧ m4 = (r.Held).length ∧ True := by
  have h : LP (F_belts_Start_1 p0 p1) (fun r => m1 = (r.States).length ∧ m2 = (r.Since).length ∧ m3 = (r.Pulled).length ∧ m4 = (r.Held).length ∧ True) := by
    unfold F_belts_Start_1
    exact (Wn fun x5 h6 => Wn fun x7 h8 => Wm ⟨(Eq.trans hm1 List.length_set.symm), (Eq.trans hm2 List.length_set.symm), hm3, hm4, trivial⟩)
  exact h r hF

theorem F_belts_Start_1_ok {p0 : T_Line} {p1 : Int} {r : T_Line} (hF : F_belts_Start_1 p0 p1 = some r) {low : List AObj} {q0 q1 q2 q3 q4 q5 w0 w1 w2 w3 w4 w5 : Nat} (hnd : [q0, q1, q2, q3, q4, q5].Nodup) {m1 : Nat} (hm1 : m1 = (p0.States).length) {m2 : Nat} (hm2 : m2 = (p0.Since).length) {m3 : Nat} (hm3 : m3 = (p0.Pulled).length) {m4 : Nat} (hm4 : m4 = (p0.Held).length) (hq0 : low[q0]? = some ⟨34, 5, [.agg [.int .i64 p0.Time, .sl q1 w1 0 m1, .sl q2 w2 0 m2, .sl q3 w3 0 m3, .sl q4 w4 0 m4]], w0⟩) (hq1 : low[q1]? = some ⟨3, 1, Wq (Wr .i64) p0.States, w1⟩) (hq2 : low[q2]? = some ⟨3, 1, Wq (Wr .i64) p0.Since, w2⟩) (hq3 : low[q3]? = some ⟨4, 1, Wq Ws p0.Pulled, w3⟩) (hq4 : low[q4]? = some ⟨4, 1, Wq Ws p0.Held, w4⟩) (hq5 : low[q5]? = some ⟨3, 1, [.int .i64 p1], w5⟩) {n : Nat} (hn : low.length = n) :
    Ys Try.prog 32 [.ptr q0 w0 0 0, .ptr q5 w5 0 0] low fun x low' => x = .tup [] ∧ low' = setL low [(q0, ⟨34, 5, [.agg [.int .i64 r.Time, .sl q1 w1 0 m1, .sl q2 w2 0 m2, .sl q3 w3 0 m3, .sl q4 w4 0 m4]], w0⟩), (q1, ⟨3, 1, Wq (Wr .i64) r.States, w1⟩), (q2, ⟨3, 1, Wq (Wr .i64) r.Since, w2⟩), (q3, ⟨4, 1, Wq Ws r.Pulled, w3⟩), (q4, ⟨4, 1, Wq Ws r.Held, w4⟩), (q5, ⟨3, 1, [.int .i64 p1], w5⟩)] ++ [] := by
  obtain ⟨h1, h2⟩ := We (ps := [(q0, ⟨34, 5, [.agg [.int .i64 p0.Time, .sl q1 w1 0 m1, .sl q2 w2 0 m2, .sl q3 w3 0 m3, .sl q4 w4 0 m4]], w0⟩), (q1, ⟨3, 1, Wq (Wr .i64) p0.States, w1⟩), (q2, ⟨3, 1, Wq (Wr .i64) p0.Since, w2⟩), (q3, ⟨4, 1, Wq Ws p0.Pulled, w3⟩), (q4, ⟨4, 1, Wq Ws p0.Held, w4⟩), (q5, ⟨3, 1, [.int .i64 p1], w5⟩)]) hnd (Wf hq0 (Wf hq1 (Wf hq2 (Wf hq3 (Wf hq4 (Wf hq5 bor0))))))
  exact Zx h1 (F_belts_Start_1_ok0 hF h2 hm1 hm2 hm3 hm4 hn)

theorem F_slices_Clone___int_int__ok {p0 : List Int} {r : List Int} (hF : F_slices_Clone___int_int_ p0 = some r) (low : List AObj) {n : Nat} (hn : low.length = n) :
    Ys Try.prog 54 [.vs 1 (Wq (Wr .i64) p0)] low fun x low' => x = .sl (n + 0) 0 0 (r).length ∧ low' = low ++ [⟨3, 1, Wq (Wr .i64) r, 0⟩] := by
 refine Vz (nt := 8) (rs := [.tmp 2]) Try.func54 rfl rfl (Wu rfl) rfl ?_
 refine Vw (Q' := FnE (fun E' lw lc => Yb E' lw lc [(2, .sl (n + 0) 0 0 (r).length)] low [⟨3, 1, Wq (Wr .i64) r, 0⟩])) ?_ ?_
 ·unfold F_slices_Clone___int_int_ at hF
  refine Vi ?_
  refine Vd ?_
  refine Vj (vef_nilsN hn rfl 3 1 (Wv _) (rd_asN rfl)) rfl ?_
  refine Vf ?_
  refine Vi ?_
  refine Vi ?_
  refine Vd ?_
  refine Va (Xc rfl) rfl ?_
  refine vops_nilq rfl (nilq_vs rfl) rfl te_22 rfl ?_
  intro b1 hb1
  refine Vf ?_
  refine Xh rfl (fun c2 => ?_) (fun c2 => ?_)
  ·have hF : (some ([] : List Int)) = some _ := (show ((appI 8 ([] : List Int) p0).bind fun x3 => some x3) = (some ([] : List Int)) from by have he : p0 = [] := map_nil (hb1 c2); first | (rw [he]; rfl) | simp [he, appI]).symm.trans hF
   refine Vi ?_
   refine Vd ?_
   refine Vj (vef_nilsN hn rfl 3 1 (Wv _) (rd_asN rfl)) rfl ?_
   refine Vf ?_
   refine Xb ?_
   obtain rfl := Wt hF
   refine Wg ?_
   exact Vt hn [(1, 0)] (by decide) ⟨Xq 0 1 rfl rfl, trivial⟩ ⟨⟨_, rfl, rfl, .same _ _ _ _ (Xt trivial)⟩, trivial⟩
  ·skip
   refine Xn ?_
   refine Vi ?_
   refine Vd ?_
   obtain ⟨x3, h4, hF⟩ := Yt hF
   refine Vj (vef_litN hn rfl (es := Wq (Wr .i64) ([] : List Int)) trivial rfl rfl (nt_all rfl) te_22 ts_3 tz_3 rfl rfl (Wv _) (by decide)) rfl ?_
   refine Va (Xc rfl) rfl ?_
   refine Vj (vef_apL (f := (Wr .i64)) (l := ([] : List Int)) (ys := p0) rfl rfl (Ve hn rfl) rfl (src_vs rfl) te_22 ts_3 tb_3 (by decide) tz_3 rfl h4 (Xr hn rfl)) rfl ?_
   refine Va (rd_asL rfl) rfl ?_
   refine Vf ?_
   refine Xb ?_
   obtain rfl := Wt hF
   refine Wg ?_
   exact Vt hn [(1, 0 + 1)] (by decide) ⟨Xq 0 1 rfl rfl, trivial⟩ ⟨⟨_, rfl, rfl, .same _ _ _ _ (Vh (fun _ => .int _ _))⟩, trivial⟩
 ·rintro _ _ _ _ ⟨he, hw⟩
  refine ⟨_, _, _, hw, ?_⟩
  exact bodyQ_all he [.sl (n + 0) 0 0 (r).length] ⟨rfl, trivial⟩ ⟨rfl, rfl⟩

theorem F_slices_Clone___bool_bool__ok {p0 : List Bool} {r : List Bool} (hF : F_slices_Clone___bool_bool_ p0 = some r) (low : List AObj) {n : Nat} (hn : low.length = n) :
    Ys Try.prog 55 [.vs 1 (Wq Ws p0)] low fun x low' => x = .sl (n + 0) 0 0 (r).length ∧ low' = low ++ [⟨4, 1, Wq Ws r, 0⟩] := by
 refine Vz (nt := 8) (rs := [.tmp 2]) Try.func55 rfl rfl (Wu rfl) rfl ?_
 refine Vw (Q' := FnE (fun E' lw lc => Yb E' lw lc [(2, .sl (n + 0) 0 0 (r).length)] low [⟨4, 1, Wq Ws r, 0⟩])) ?_ ?_
 ·unfold F_slices_Clone___bool_bool_ at hF
  refine Vi ?_
  refine Vd ?_
  refine Vj (vef_nilsN hn rfl 4 1 (Wv _) (rd_asN rfl)) rfl ?_
  refine Vf ?_
  refine Vi ?_
  refine Vi ?_
  refine Vd ?_
  refine Va (Xc rfl) rfl ?_
  refine vops_nilq rfl (nilq_vs rfl) rfl te_32 rfl ?_
  intro b1 hb1
  refine Vf ?_
  refine Xh rfl (fun c2 => ?_) (fun c2 => ?_)
  ·have hF : (some ([] : List Bool)) = some _ := (show ((appI 1 ([] : List Bool) p0).bind fun x3 => some x3) = (some ([] : List Bool)) from by have he : p0 = [] := map_nil (hb1 c2); first | (rw [he]; rfl) | simp [he, appI]).symm.trans hF
   refine Vi ?_
   refine Vd ?_
   refine Vj (vef_nilsN hn rfl 4 1 (Wv _) (rd_asN rfl)) rfl ?_
   refine Vf ?_
   refine Xb ?_
   obtain rfl := Wt hF
   refine Wg ?_
   exact Vt hn [(1, 0)] (by decide) ⟨Xq 0 1 rfl rfl, trivial⟩ ⟨⟨_, rfl, rfl, .same _ _ _ _ (Xt trivial)⟩, trivial⟩
  ·skip
   refine Xn ?_
   refine Vi ?_
   refine Vd ?_
   obtain ⟨x3, h4, hF⟩ := Yt hF
   refine Vj (vef_litN hn rfl (es := Wq Ws ([] : List Bool)) trivial rfl rfl (nt_all rfl) te_32 ts_4 tz_4 rfl rfl (Wv _) (by decide)) rfl ?_
   refine Va (Xc rfl) rfl ?_
   refine Vj (vef_apL (f := Ws) (l := ([] : List Bool)) (ys := p0) rfl rfl (Ve hn rfl) rfl (src_vs rfl) te_32 ts_4 tb_4 (by decide) tz_4 rfl h4 (Xr hn rfl)) rfl ?_
   refine Va (rd_asL rfl) rfl ?_
   refine Vf ?_
   refine Xb ?_
   obtain rfl := Wt hF
   refine Wg ?_
   exact Vt hn [(1, 0 + 1)] (by decide) ⟨Xq 0 1 rfl rfl, trivial⟩ ⟨⟨_, rfl, rfl, .same _ _ _ _ (Vh (fun _ => .bool _))⟩, trivial⟩
 ·rintro _ _ _ _ ⟨he, hw⟩
  refine ⟨_, _, _, hw, ?_⟩
  exact bodyQ_all he [.sl (n + 0) 0 0 (r).length] ⟨rfl, trivial⟩ ⟨rfl, rfl⟩

theorem F_belts_done__belts_Start_1_ok0 {p0 : T_Line} {pc10 : Int} {r : T_Line} (hF : F_belts_done__belts_Start_1 p0 pc10 = some r) {low0 : List AObj} {q0 w0 : Nat} (hB : Bor low0 [q0]) {n : Nat} (hn : low0.length = n) :
    Ys Try.prog 31 [.agg [.int .i64 p0.Time, .vs 1 (Wq (Wr .i64) p0.States), .vs 1 (Wq (Wr .i64) p0.Since), .vs 1 (Wq Ws p0.Pulled), .vs 1 (Wq Ws p0.Held)], .fn 32 [] [.ptr q0 w0 0 0]] (setL low0 [(q0, ⟨3, 1, [.int .i64 pc10], w0⟩)]) fun x low' => x = .agg [.int .i64 r.Time, .sl (n + 0) 0 0 (r.States).length, .sl (n + 1) 0 0 (r.Since).length, .sl (n + 2) 0 0 (r.Pulled).length, .vs 1 (Wq Ws r.Held)] ∧ low' = setL low0 [(q0, ⟨3, 1, [.int .i64 pc10], w0⟩)] ++ [⟨3, 1, Wq (Wr .i64) r.States, 0⟩, ⟨3, 1, Wq (Wr .i64) r.Since, 0⟩, ⟨4, 1, Wq Ws r.Pulled, 0⟩] := by
 refine Vz (nt := 24) (rs := [.cell 4 34]) Try.func31 rfl rfl (Wu rfl) rfl ?_
 have hq0 : q0 < n := hB.ltN hn 0 rfl
 refine Vw (Q' := FnE (fun E' lw lc => Yb E' lw lc [(4, .ptr (n + 3) 0 0 0)] (setL low0 [(q0, ⟨3, 1, [.int .i64 pc10], w0⟩)]) [⟨3, 1, Wq (Wr .i64) r.States, 0⟩, ⟨3, 1, Wq (Wr .i64) r.Since, 0⟩, ⟨4, 1, Wq Ws r.Pulled, 0⟩, ⟨34, 5, [.agg [.int .i64 r.Time, .sl (n + 0) 0 0 (r.States).length, .sl (n + 1) 0 0 (r.Since).length, .sl (n + 2) 0 0 (r.Pulled).length, .vs 1 (Wq Ws r.Held)]], 0⟩])) ?_ ?_
 ·unfold F_belts_done__belts_Start_1 at hF
  refine Vi ?_
  refine Vd ?_
  refine Vj (Zc (Vs hn) rfl (v := .agg [.int .i64 p0.Time, .vs 1 (Wq (Wr .i64) p0.States), .vs 1 (Wq (Wr .i64) p0.Since), .vs 1 (Wq Ws p0.Pulled), .vs 1 (Wq Ws p0.Held)]) rfl rfl (Wv _) rfl rfl) rfl ?_
  refine Vj (Xe (Vs hn) rfl tz_34 rfl rfl (Wv _) rfl) rfl ?_
  refine Vf ?_
  refine Vi ?_
  obtain ⟨x1, h2, hF⟩ := Yt hF
  obtain ⟨x3, h4, hF⟩ := Yt hF
  obtain ⟨x5, h6, hF⟩ := Yt hF
  obtain ⟨x7, h8, hF⟩ := Yt hF
  refine Yd (Yy 3 1 (Wv _)) ?_
  refine Yd (Yy 3 1 (Wv _)) ?_
  refine Yd (Yy 4 1 (Wv _)) ?_
  refine Yd (Yy 4 1 (Wv _)) ?_
  refine Yd (Yy 34 5 (Wv _)) ?_
  refine vwp_drawnX [[], [0], [], [2], [2, 3], [], [5], [2, 3, 4, 5, 6], [], [8], [2, 3, 4, 5, 6, 7, 8, 9], [], [11], [2, 3, 4, 5, 6, 7, 8, 9, 10, 11, 12], [0, 1, 2, 3, 4, 5, 6, 7, 8, 9, 10, 11, 12, 13], [], [0, 1, 2, 3, 4, 5, 6, 7, 8, 9, 10, 11, 12, 13, 14, 15]] [false, false, false, false, true, false, false, true, false, false, true, false, false, true, false, true, true] [([], (setL low0 [(q0, ⟨3, 1, [.int .i64 pc10], w0⟩)]), [⟨34, 5, [.agg [.int .i64 p0.Time, .vs 1 (Wq (Wr .i64) p0.States), .vs 1 (Wq (Wr .i64) p0.Since), .vs 1 (Wq Ws p0.Pulled), .vs 1 (Wq Ws p0.Held)]], 0⟩, ⟨34, 5, [.agg [.int .i64 0, .nils, .nils, .nils, .nils]], 0⟩, ⟨3, 1, [], 0⟩, ⟨3, 1, [], 0⟩, ⟨4, 1, [], 0⟩, ⟨4, 1, [], 0⟩, ⟨34, 5, [], 0⟩]), ([4], (setL low0 [(q0, ⟨3, 1, [.int .i64 pc10], w0⟩)]), [⟨34, 5, [.agg [.int .i64 p0.Time, .vs 1 (Wq (Wr .i64) p0.States), .vs 1 (Wq (Wr .i64) p0.Since), .vs 1 (Wq Ws p0.Pulled), .vs 1 (Wq Ws p0.Held)]], 0⟩, ⟨34, 5, [.agg [.int .i64 0, .nils, .nils, .nils, .nils]], 0⟩, ⟨3, 1, Wq (Wr .i64) x1, 1⟩, ⟨3, 1, [], 0⟩, ⟨4, 1, [], 0⟩, ⟨4, 1, [], 0⟩, ⟨34, 5, [], 0⟩]), ([15], (setL low0 [(q0, ⟨3, 1, [.int .i64 pc10], w0⟩)]), [⟨34, 5, [.agg [.int .i64 p0.Time, .vs 1 (Wq (Wr .i64) p0.States), .vs 1 (Wq (Wr .i64) p0.Since), .vs 1 (Wq Ws p0.Pulled), .vs 1 (Wq Ws p0.Held)]], 0⟩, ⟨34, 5, [.agg [.int .i64 0, .nils, .nils, .nils, .nils]], 0⟩, ⟨3, 1, [], 0⟩, ⟨3, 1, [], 0⟩, ⟨4, 1, [], 0⟩, ⟨4, 1, [], 0⟩, ⟨34, 5, [.agg [.int .i64 0, .nils, .nils, .nils, .nils]], 1⟩]), ([4, 7], (setL low0 [(q0, ⟨3, 1, [.int .i64 pc10], w0⟩)]), [⟨34, 5, [.agg [.int .i64 p0.Time, .vs 1 (Wq (Wr .i64) p0.States), .vs 1 (Wq (Wr .i64) p0.Since), .vs 1 (Wq Ws p0.Pulled), .vs 1 (Wq Ws p0.Held)]], 0⟩, ⟨34, 5, [.agg [.int .i64 0, .nils, .nils, .nils, .nils]], 0⟩, ⟨3, 1, Wq (Wr .i64) x1, 1⟩, ⟨3, 1, Wq (Wr .i64) x3, 1⟩, ⟨4, 1, [], 0⟩, ⟨4, 1, [], 0⟩, ⟨34, 5, [], 0⟩]), ([4, 15], (setL low0 [(q0, ⟨3, 1, [.int .i64 pc10], w0⟩)]), [⟨34, 5, [.agg [.int .i64 p0.Time, .vs 1 (Wq (Wr .i64) p0.States), .vs 1 (Wq (Wr .i64) p0.Since), .vs 1 (Wq Ws p0.Pulled), .vs 1 (Wq Ws p0.Held)]], 0⟩, ⟨34, 5, [.agg [.int .i64 0, .nils, .nils, .nils, .nils]], 0⟩, ⟨3, 1, Wq (Wr .i64) x1, 1⟩, ⟨3, 1, [], 0⟩, ⟨4, 1, [], 0⟩, ⟨4, 1, [], 0⟩, ⟨34, 5, [.agg [.int .i64 0, .nils, .nils, .nils, .nils]], 1⟩]), ([4, 7, 10], (setL low0 [(q0, ⟨3, 1, [.int .i64 pc10], w0⟩)]), [⟨34, 5, [.agg [.int .i64 p0.Time, .vs 1 (Wq (Wr .i64) p0.States), .vs 1 (Wq (Wr .i64) p0.Since), .vs 1 (Wq Ws p0.Pulled), .vs 1 (Wq Ws p0.Held)]], 0⟩, ⟨34, 5, [.agg [.int .i64 0, .nils, .nils, .nils, .nils]], 0⟩, ⟨3, 1, Wq (Wr .i64) x1, 1⟩, ⟨3, 1, Wq (Wr .i64) x3, 1⟩, ⟨4, 1, Wq Ws x5, 1⟩, ⟨4, 1, [], 0⟩, ⟨34, 5, [], 0⟩]), ([4, 7, 15], (setL low0 [(q0, ⟨3, 1, [.int .i64 pc10], w0⟩)]), [⟨34, 5, [.agg [.int .i64 p0.Time, .vs 1 (Wq (Wr .i64) p0.States), .vs 1 (Wq (Wr .i64) p0.Since), .vs 1 (Wq Ws p0.Pulled), .vs 1 (Wq Ws p0.Held)]], 0⟩, ⟨34, 5, [.agg [.int .i64 0, .nils, .nils, .nils, .nils]], 0⟩, ⟨3, 1, Wq (Wr .i64) x1, 1⟩, ⟨3, 1, Wq (Wr .i64) x3, 1⟩, ⟨4, 1, [], 0⟩, ⟨4, 1, [], 0⟩, ⟨34, 5, [.agg [.int .i64 0, .nils, .nils, .nils, .nils]], 1⟩]), ([4, 7, 10, 13], (setL low0 [(q0, ⟨3, 1, [.int .i64 pc10], w0⟩)]), [⟨34, 5, [.agg [.int .i64 p0.Time, .vs 1 (Wq (Wr .i64) p0.States), .vs 1 (Wq (Wr .i64) p0.Since), .vs 1 (Wq Ws p0.Pulled), .vs 1 (Wq Ws p0.Held)]], 0⟩, ⟨34, 5, [.agg [.int .i64 0, .nils, .nils, .nils, .nils]], 0⟩, ⟨3, 1, Wq (Wr .i64) x1, 1⟩, ⟨3, 1, Wq (Wr .i64) x3, 1⟩, ⟨4, 1, Wq Ws x5, 1⟩, ⟨4, 1, Wq Ws x7, 1⟩, ⟨34, 5, [], 0⟩]), ([4, 7, 10, 15], (setL low0 [(q0, ⟨3, 1, [.int .i64 pc10], w0⟩)]), [⟨34, 5, [.agg [.int .i64 p0.Time, .vs 1 (Wq (Wr .i64) p0.States), .vs 1 (Wq (Wr .i64) p0.Since), .vs 1 (Wq Ws p0.Pulled), .vs 1 (Wq Ws p0.Held)]], 0⟩, ⟨34, 5, [.agg [.int .i64 0, .nils, .nils, .nils, .nils]], 0⟩, ⟨3, 1, Wq (Wr .i64) x1, 1⟩, ⟨3, 1, Wq (Wr .i64) x3, 1⟩, ⟨4, 1, Wq Ws x5, 1⟩, ⟨4, 1, [], 0⟩, ⟨34, 5, [.agg [.int .i64 0, .nils, .nils, .nils, .nils]], 1⟩]), ([4, 7, 10, 13, 15], (setL low0 [(q0, ⟨3, 1, [.int .i64 pc10], w0⟩)]), [⟨34, 5, [.agg [.int .i64 p0.Time, .vs 1 (Wq (Wr .i64) p0.States), .vs 1 (Wq (Wr .i64) p0.Since), .vs 1 (Wq Ws p0.Pulled), .vs 1 (Wq Ws p0.Held)]], 0⟩, ⟨34, 5, [.agg [.int .i64 0, .nils, .nils, .nils, .nils]], 0⟩, ⟨3, 1, Wq (Wr .i64) x1, 1⟩, ⟨3, 1, Wq (Wr .i64) x3, 1⟩, ⟨4, 1, Wq Ws x5, 1⟩, ⟨4, 1, Wq Ws x7, 1⟩, ⟨34, 5, [.agg [.int .i64 0, .nils, .nils, .nils, .nils]], 1⟩]), ([4, 7, 10, 13, 15, 16], (setL low0 [(q0, ⟨3, 1, [.int .i64 pc10], w0⟩)]), [⟨34, 5, [.agg [.int .i64 p0.Time, .vs 1 (Wq (Wr .i64) p0.States), .vs 1 (Wq (Wr .i64) p0.Since), .vs 1 (Wq Ws p0.Pulled), .vs 1 (Wq Ws p0.Held)]], 0⟩, ⟨34, 5, [.agg [.int .i64 0, .nils, .nils, .nils, .nils]], 0⟩, ⟨3, 1, Wq (Wr .i64) x1, 1⟩, ⟨3, 1, Wq (Wr .i64) x3, 1⟩, ⟨4, 1, Wq Ws x5, 1⟩, ⟨4, 1, Wq Ws x7, 1⟩, ⟨34, 5, [.agg [.int .i64 p0.Time, .sl (n + 2) 1 0 (x1).length, .sl (n + 3) 1 0 (x3).length, .sl (n + 4) 1 0 (x5).length, .sl (n + 5) 1 0 (x7).length]], 1⟩])] mixed (by kernel_rfl) rfl (lenAllX (Yu Xo (Yu Xo (Yu Xo (Yu Xo (Yu Xo (Yu Xo (Yu Xo (Yu Xo (Yu Xo (Yu Xo (Yu Xo allx0)))))))))))) rfl [4, 7, 10, 13, 15, 16] ((setL low0 [(q0, ⟨3, 1, [.int .i64 pc10], w0⟩)]), [⟨34, 5, [.agg [.int .i64 p0.Time, .vs 1 (Wq (Wr .i64) p0.States), .vs 1 (Wq (Wr .i64) p0.Since), .vs 1 (Wq Ws p0.Pulled), .vs 1 (Wq Ws p0.Held)]], 0⟩, ⟨34, 5, [.agg [.int .i64 0, .nils, .nils, .nils, .nils]], 0⟩, ⟨3, 1, Wq (Wr .i64) x1, 1⟩, ⟨3, 1, Wq (Wr .i64) x3, 1⟩, ⟨4, 1, Wq Ws x5, 1⟩, ⟨4, 1, Wq Ws x7, 1⟩, ⟨34, 5, [.agg [.int .i64 p0.Time, .sl (n + 2) 1 0 (x1).length, .sl (n + 3) 1 0 (x3).length, .sl (n + 4) 1 0 (x5).length, .sl (n + 5) 1 0 (x7).length]], 1⟩]) rfl rfl ?_
  refine Yc _ rfl rfl (Xs (VRd.ntl (Vc rfl tf_34_0 ts_3 (by decide))) (Xs (VRd.ntl (Vc rfl tf_34_0 ts_3 (by decide))) (Xs (VRd.ntl (Vc rfl tf_34_0 ts_3 (by decide))) (Xs (VRd.ntl (Vc rfl tf_34_0 ts_3 (by decide))) (Xs (VRd.ntl (Vc rfl tf_34_0 ts_3 (by decide))) (Xs (VRd.ntl (Vc rfl tf_34_0 ts_3 (by decide))) (Xs (VRd.ntl (Vc rfl tf_34_0 ts_3 (by decide))) (Xs (VRd.ntl (Vc rfl tf_34_0 ts_3 (by decide))) (Xs (VRd.ntl (Vc rfl tf_34_0 ts_3 (by decide))) (Xs (VRd.ntl (Vc rfl tf_34_0 ts_3 (by decide))) rx0)))))))))) ?_
  refine Yc _ rfl rfl (Xs (VRd.ntl (Vg rfl (Ve (Vs hn) rfl) rfl ta_3 rfl)) (Xs (VRd.ntl (Vg rfl (Ve (Vs hn) rfl) rfl ta_3 rfl)) (Xs (VRd.ntl (Vg rfl (Ve (Vs hn) rfl) rfl ta_3 rfl)) (Xs (VRd.ntl (Vg rfl (Ve (Vs hn) rfl) rfl ta_3 rfl)) (Xs (VRd.ntl (Vg rfl (Ve (Vs hn) rfl) rfl ta_3 rfl)) (Xs (VRd.ntl (Vg rfl (Ve (Vs hn) rfl) rfl ta_3 rfl)) (Xs (VRd.ntl (Vg rfl (Ve (Vs hn) rfl) rfl ta_3 rfl)) (Xs (VRd.ntl (Vg rfl (Ve (Vs hn) rfl) rfl ta_3 rfl)) (Xs (VRd.ntl (Vg rfl (Ve (Vs hn) rfl) rfl ta_3 rfl)) (Xs (VRd.ntl (Vg rfl (Ve (Vs hn) rfl) rfl ta_3 rfl)) rx0)))))))))) ?_
  refine Yc _ rfl rfl (Xs (VRd.ntl (Vc rfl tf_34_1 ts_22 (by decide))) (Xs (VRd.ntl (Vc rfl tf_34_1 ts_22 (by decide))) rx0)) ?_
  refine Yc _ rfl rfl (Xs (VRd.ntl (Vg rfl (Ve (Vs hn) rfl) rfl ta_22 rfl)) (Xs (VRd.ntl (Vg rfl (Ve (Vs hn) rfl) rfl ta_22 rfl)) rx0)) ?_
  refine Zf _ rfl rfl (Zy 1 rfl (Vu (f := 7) (k := 2) (m := 1) (os := [⟨3, 1, Wq (Wr .i64) x1, 0⟩]) (os' := [⟨3, 1, Wq (Wr .i64) x1, 1⟩]) (v := .sl (n + 7) 0 0 (x1).length) (Vs hn) rfl rfl ⟨⟨_, rfl, rfl⟩, trivial⟩ (Xg (r := .sl (n + 7) 0 0 (x1).length) (os := [⟨3, 1, Wq (Wr .i64) x1, 0⟩]) rfl Try.call54 (F_slices_Clone___int_int__ok h2 _ (Xi (Vs hn) rfl))) (Yk 0 rfl rfl rfl rfl) ⟨.same _ _ _ (Vh (fun _ => .int _ _)), trivial⟩ rfl) (Zy 4 rfl (Vu (f := 7) (k := 2) (m := 1) (os := [⟨3, 1, Wq (Wr .i64) x1, 0⟩]) (os' := [⟨3, 1, Wq (Wr .i64) x1, 1⟩]) (v := .sl (n + 7) 0 0 (x1).length) (Vs hn) rfl rfl ⟨⟨_, rfl, rfl⟩, trivial⟩ (Xg (r := .sl (n + 7) 0 0 (x1).length) (os := [⟨3, 1, Wq (Wr .i64) x1, 0⟩]) rfl Try.call54 (F_slices_Clone___int_int__ok h2 _ (Xi (Vs hn) rfl))) (Yk 0 rfl rfl rfl rfl) ⟨.same _ _ _ (Vh (fun _ => .int _ _)), trivial⟩ rfl) ex0)) ?_
  refine Yc _ rfl rfl (Xs (VRd.ntl (Vc rfl tf_34_2 ts_22 (by decide))) (Xs (VRd.ntl (Vc rfl tf_34_2 ts_22 (by decide))) (Xs (VRd.ntl (Vc rfl tf_34_2 ts_22 (by decide))) (Xs (VRd.ntl (Vc rfl tf_34_2 ts_22 (by decide))) rx0)))) ?_
  refine Yc _ rfl rfl (Xs (VRd.ntl (Vg rfl (Ve (Vs hn) rfl) rfl ta_22 rfl)) (Xs (VRd.ntl (Vg rfl (Ve (Vs hn) rfl) rfl ta_22 rfl)) (Xs (VRd.ntl (Vg rfl (Ve (Vs hn) rfl) rfl ta_22 rfl)) (Xs (VRd.ntl (Vg rfl (Ve (Vs hn) rfl) rfl ta_22 rfl)) rx0)))) ?_
  refine Zf _ rfl rfl (Zy 3 rfl (Vu (f := 7) (k := 3) (m := 1) (os := [⟨3, 1, Wq (Wr .i64) x3, 0⟩]) (os' := [⟨3, 1, Wq (Wr .i64) x3, 1⟩]) (v := .sl (n + 7) 0 0 (x3).length) (Vs hn) rfl rfl ⟨⟨_, rfl, rfl⟩, trivial⟩ (Xg (r := .sl (n + 7) 0 0 (x3).length) (os := [⟨3, 1, Wq (Wr .i64) x3, 0⟩]) rfl Try.call54 (F_slices_Clone___int_int__ok h4 _ (Xi (Vs hn) rfl))) (Yk 0 rfl rfl rfl rfl) ⟨.same _ _ _ (Vh (fun _ => .int _ _)), trivial⟩ rfl) (Zy 6 rfl (Vu (f := 7) (k := 3) (m := 1) (os := [⟨3, 1, Wq (Wr .i64) x3, 0⟩]) (os' := [⟨3, 1, Wq (Wr .i64) x3, 1⟩]) (v := .sl (n + 7) 0 0 (x3).length) (Vs hn) rfl rfl ⟨⟨_, rfl, rfl⟩, trivial⟩ (Xg (r := .sl (n + 7) 0 0 (x3).length) (os := [⟨3, 1, Wq (Wr .i64) x3, 0⟩]) rfl Try.call54 (F_slices_Clone___int_int__ok h4 _ (Xi (Vs hn) rfl))) (Yk 0 rfl rfl rfl rfl) ⟨.same _ _ _ (Vh (fun _ => .int _ _)), trivial⟩ rfl) ex0)) ?_
  refine Yc _ rfl rfl (Xs (VRd.ntl (Vc rfl tf_34_3 ts_32 (by decide))) (Xs (VRd.ntl (Vc rfl tf_34_3 ts_32 (by decide))) (Xs (VRd.ntl (Vc rfl tf_34_3 ts_32 (by decide))) (Xs (VRd.ntl (Vc rfl tf_34_3 ts_32 (by decide))) (Xs (VRd.ntl (Vc rfl tf_34_3 ts_32 (by decide))) (Xs (VRd.ntl (Vc rfl tf_34_3 ts_32 (by decide))) rx0)))))) ?_
  refine Yc _ rfl rfl (Xs (VRd.ntl (Vg rfl (Ve (Vs hn) rfl) rfl ta_32 rfl)) (Xs (VRd.ntl (Vg rfl (Ve (Vs hn) rfl) rfl ta_32 rfl)) (Xs (VRd.ntl (Vg rfl (Ve (Vs hn) rfl) rfl ta_32 rfl)) (Xs (VRd.ntl (Vg rfl (Ve (Vs hn) rfl) rfl ta_32 rfl)) (Xs (VRd.ntl (Vg rfl (Ve (Vs hn) rfl) rfl ta_32 rfl)) (Xs (VRd.ntl (Vg rfl (Ve (Vs hn) rfl) rfl ta_32 rfl)) rx0)))))) ?_
  refine Zf _ rfl rfl (Zy 5 rfl (Vu (f := 7) (k := 4) (m := 1) (os := [⟨4, 1, Wq Ws x5, 0⟩]) (os' := [⟨4, 1, Wq Ws x5, 1⟩]) (v := .sl (n + 7) 0 0 (x5).length) (Vs hn) rfl rfl ⟨⟨_, rfl, rfl⟩, trivial⟩ (Xg (r := .sl (n + 7) 0 0 (x5).length) (os := [⟨4, 1, Wq Ws x5, 0⟩]) rfl Try.call55 (F_slices_Clone___bool_bool__ok h6 _ (Xi (Vs hn) rfl))) (Yk 0 rfl rfl rfl rfl) ⟨.same _ _ _ (Vh (fun _ => .bool _)), trivial⟩ rfl) (Zy 8 rfl (Vu (f := 7) (k := 4) (m := 1) (os := [⟨4, 1, Wq Ws x5, 0⟩]) (os' := [⟨4, 1, Wq Ws x5, 1⟩]) (v := .sl (n + 7) 0 0 (x5).length) (Vs hn) rfl rfl ⟨⟨_, rfl, rfl⟩, trivial⟩ (Xg (r := .sl (n + 7) 0 0 (x5).length) (os := [⟨4, 1, Wq Ws x5, 0⟩]) rfl Try.call55 (F_slices_Clone___bool_bool__ok h6 _ (Xi (Vs hn) rfl))) (Yk 0 rfl rfl rfl rfl) ⟨.same _ _ _ (Vh (fun _ => .bool _)), trivial⟩ rfl) ex0)) ?_
  refine Yc _ rfl rfl (Xs (VRd.ntl (Vc rfl tf_34_4 ts_32 (by decide))) (Xs (VRd.ntl (Vc rfl tf_34_4 ts_32 (by decide))) (Xs (VRd.ntl (Vc rfl tf_34_4 ts_32 (by decide))) (Xs (VRd.ntl (Vc rfl tf_34_4 ts_32 (by decide))) (Xs (VRd.ntl (Vc rfl tf_34_4 ts_32 (by decide))) (Xs (VRd.ntl (Vc rfl tf_34_4 ts_32 (by decide))) (Xs (VRd.ntl (Vc rfl tf_34_4 ts_32 (by decide))) (Xs (VRd.ntl (Vc rfl tf_34_4 ts_32 (by decide))) rx0)))))))) ?_
  refine Yc _ rfl rfl (Xs (VRd.ntl (Vg rfl (Ve (Vs hn) rfl) rfl ta_32 rfl)) (Xs (VRd.ntl (Vg rfl (Ve (Vs hn) rfl) rfl ta_32 rfl)) (Xs (VRd.ntl (Vg rfl (Ve (Vs hn) rfl) rfl ta_32 rfl)) (Xs (VRd.ntl (Vg rfl (Ve (Vs hn) rfl) rfl ta_32 rfl)) (Xs (VRd.ntl (Vg rfl (Ve (Vs hn) rfl) rfl ta_32 rfl)) (Xs (VRd.ntl (Vg rfl (Ve (Vs hn) rfl) rfl ta_32 rfl)) (Xs (VRd.ntl (Vg rfl (Ve (Vs hn) rfl) rfl ta_32 rfl)) (Xs (VRd.ntl (Vg rfl (Ve (Vs hn) rfl) rfl ta_32 rfl)) rx0)))))))) ?_
  refine Zf _ rfl rfl (Zy 7 rfl (Vu (f := 7) (k := 5) (m := 1) (os := [⟨4, 1, Wq Ws x7, 0⟩]) (os' := [⟨4, 1, Wq Ws x7, 1⟩]) (v := .sl (n + 7) 0 0 (x7).length) (Vs hn) rfl rfl ⟨⟨_, rfl, rfl⟩, trivial⟩ (Xg (r := .sl (n + 7) 0 0 (x7).length) (os := [⟨4, 1, Wq Ws x7, 0⟩]) rfl Try.call55 (F_slices_Clone___bool_bool__ok h8 _ (Xi (Vs hn) rfl))) (Yk 0 rfl rfl rfl rfl) ⟨.same _ _ _ (Vh (fun _ => .bool _)), trivial⟩ rfl) (Zy 9 rfl (Vu (f := 7) (k := 5) (m := 1) (os := [⟨4, 1, Wq Ws x7, 0⟩]) (os' := [⟨4, 1, Wq Ws x7, 1⟩]) (v := .sl (n + 7) 0 0 (x7).length) (Vs hn) rfl rfl ⟨⟨_, rfl, rfl⟩, trivial⟩ (Xg (r := .sl (n + 7) 0 0 (x7).length) (os := [⟨4, 1, Wq Ws x7, 0⟩]) rfl Try.call55 (F_slices_Clone___bool_bool__ok h8 _ (Xi (Vs hn) rfl))) (Yk 0 rfl rfl rfl rfl) ⟨.same _ _ _ (Vh (fun _ => .bool _)), trivial⟩ rfl) ex0)) ?_
  refine Yc _ rfl rfl (Xs (VRd.ntl (Wh (vs := [(0, .int .i64 p0.Time), (1, .sl (n + 2) 1 0 (x1).length), (2, .sl (n + 3) 1 0 (x3).length), (3, .sl (n + 4) 1 0 (x5).length), (4, .sl (n + 5) 1 0 (x7).length)]) (ds := [.int .i64 p0.Time, .sl (n + 2) 1 0 (x1).length, .sl (n + 3) 1 0 (x3).length, .sl (n + 4) 1 0 (x5).length, .sl (n + 5) 1 0 (x7).length]) tz_34 rfl rfl tp_34 ⟨rfl, rfl, rfl, rfl, rfl, rfl, rfl, rfl, rfl, rfl, trivial⟩ (Wo rfl) rfl)) (Xs (VRd.ntl (Wh (vs := [(0, .int .i64 p0.Time), (1, .sl (n + 2) 1 0 (x1).length), (2, .sl (n + 3) 1 0 (x3).length), (3, .sl (n + 4) 1 0 (x5).length), (4, .sl (n + 5) 1 0 (x7).length)]) (ds := [.int .i64 p0.Time, .sl (n + 2) 1 0 (x1).length, .sl (n + 3) 1 0 (x3).length, .sl (n + 4) 1 0 (x5).length, .sl (n + 5) 1 0 (x7).length]) tz_34 rfl rfl tp_34 ⟨rfl, rfl, rfl, rfl, rfl, rfl, rfl, rfl, rfl, rfl, trivial⟩ (Wo rfl) rfl)) rx0)) ?_
  refine Zf _ rfl rfl (Zy 2 rfl (Vu (f := 7) (k := 6) (m := 1) (os := [⟨34, 5, [.agg [.int .i64 0, .nils, .nils, .nils, .nils]], 0⟩]) (os' := [⟨34, 5, [.agg [.int .i64 0, .nils, .nils, .nils, .nils]], 1⟩]) (v := .ptr (n + 7) 0 0 0) (Vs hn) rfl rfl ⟨⟨_, rfl, rfl⟩, trivial⟩ (Xe (Vs hn) rfl tz_34 rfl rfl (Wv _) rfl) (Wj 0 rfl rfl rfl rfl) ⟨.same _ _ _ (Xt ⟨(Xw ⟨.int _ _, .nils, .nils, .nils, .nils, trivial⟩), trivial⟩), trivial⟩ rfl) (Zy 4 rfl (Vu (f := 7) (k := 6) (m := 1) (os := [⟨34, 5, [.agg [.int .i64 0, .nils, .nils, .nils, .nils]], 0⟩]) (os' := [⟨34, 5, [.agg [.int .i64 0, .nils, .nils, .nils, .nils]], 1⟩]) (v := .ptr (n + 7) 0 0 0) (Vs hn) rfl rfl ⟨⟨_, rfl, rfl⟩, trivial⟩ (Xe (Vs hn) rfl tz_34 rfl rfl (Wv _) rfl) (Wj 0 rfl rfl rfl rfl) ⟨.same _ _ _ (Xt ⟨(Xw ⟨.int _ _, .nils, .nils, .nils, .nils, trivial⟩), trivial⟩), trivial⟩ rfl) (Zy 6 rfl (Vu (f := 7) (k := 6) (m := 1) (os := [⟨34, 5, [.agg [.int .i64 0, .nils, .nils, .nils, .nils]], 0⟩]) (os' := [⟨34, 5, [.agg [.int .i64 0, .nils, .nils, .nils, .nils]], 1⟩]) (v := .ptr (n + 7) 0 0 0) (Vs hn) rfl rfl ⟨⟨_, rfl, rfl⟩, trivial⟩ (Xe (Vs hn) rfl tz_34 rfl rfl (Wv _) rfl) (Wj 0 rfl rfl rfl rfl) ⟨.same _ _ _ (Xt ⟨(Xw ⟨.int _ _, .nils, .nils, .nils, .nils, trivial⟩), trivial⟩), trivial⟩ rfl) (Zy 8 rfl (Vu (f := 7) (k := 6) (m := 1) (os := [⟨34, 5, [.agg [.int .i64 0, .nils, .nils, .nils, .nils]], 0⟩]) (os' := [⟨34, 5, [.agg [.int .i64 0, .nils, .nils, .nils, .nils]], 1⟩]) (v := .ptr (n + 7) 0 0 0) (Vs hn) rfl rfl ⟨⟨_, rfl, rfl⟩, trivial⟩ (Xe (Vs hn) rfl tz_34 rfl rfl (Wv _) rfl) (Wj 0 rfl rfl rfl rfl) ⟨.same _ _ _ (Xt ⟨(Xw ⟨.int _ _, .nils, .nils, .nils, .nils, trivial⟩), trivial⟩), trivial⟩ rfl) (Zy 9 rfl (Vu (f := 7) (k := 6) (m := 1) (os := [⟨34, 5, [.agg [.int .i64 0, .nils, .nils, .nils, .nils]], 0⟩]) (os' := [⟨34, 5, [.agg [.int .i64 0, .nils, .nils, .nils, .nils]], 1⟩]) (v := .ptr (n + 7) 0 0 0) (Vs hn) rfl rfl ⟨⟨_, rfl, rfl⟩, trivial⟩ (Xe (Vs hn) rfl tz_34 rfl rfl (Wv _) rfl) (Wj 0 rfl rfl rfl rfl) ⟨.same _ _ _ (Xt ⟨(Xw ⟨.int _ _, .nils, .nils, .nils, .nils, trivial⟩), trivial⟩), trivial⟩ rfl) ex0))))) ?_
  refine Zf _ rfl rfl (Zy 10 rfl (Vy (p := .agg [.int .i64 p0.Time, .sl (n + 2) 1 0 (x1).length, .sl (n + 3) 1 0 (x3).length, .sl (n + 4) 1 0 (x5).length, .sl (n + 5) 1 0 (x7).length]) (e' := .agg [.int .i64 p0.Time, .sl (n + 2) 1 0 (x1).length, .sl (n + 3) 1 0 (x3).length, .sl (n + 4) 1 0 (x5).length, .sl (n + 5) 1 0 (x7).length]) rfl (Ve (Vs hn) rfl) rfl rfl ts_34 rfl (Ye rfl) rfl (Wu rfl) rfl (Xr (Vs hn) rfl)) ex0) ?_
  refine dopx_nil ?_
  refine Vi ?_
  refine Vd ?_
  obtain ⟨x9, h10, hF⟩ := Yt hF
  refine Va (rd_mvF rfl) rfl ?_
  refine Vj (Zg (ps := [((n + 6), ⟨34, 5, [.agg [.int .i64 x9.Time, .sl (n + 2) 1 0 (x1).length, .sl (n + 3) 1 0 (x3).length, .sl (n + 4) 1 0 (x5).length, .sl (n + 5) 1 0 (x7).length]], 1⟩), ((n + 2), ⟨3, 1, Wq (Wr .i64) x9.States, 1⟩), ((n + 3), ⟨3, 1, Wq (Wr .i64) x9.Since, 1⟩), ((n + 4), ⟨4, 1, Wq Ws x9.Pulled, 1⟩), ((n + 5), ⟨4, 1, Wq Ws x9.Held, 1⟩), (q0, ⟨3, 1, [.int .i64 pc10], w0⟩)]) (r := .tup []) (os := []) (low1 := (setL low0 [(q0, ⟨3, 1, [.int .i64 pc10], w0⟩)])) (loc1 := [⟨34, 5, [.agg [.int .i64 p0.Time, .vs 1 (Wq (Wr .i64) p0.States), .vs 1 (Wq (Wr .i64) p0.Since), .vs 1 (Wq Ws p0.Pulled), .vs 1 (Wq Ws p0.Held)]], 0⟩, ⟨34, 5, [.agg [.int .i64 0, .nils, .nils, .nils, .nils]], 0⟩, ⟨3, 1, Wq (Wr .i64) x9.States, 1⟩, ⟨3, 1, Wq (Wr .i64) x9.Since, 1⟩, ⟨4, 1, Wq Ws x9.Pulled, 1⟩, ⟨4, 1, Wq Ws x9.Held, 1⟩, ⟨34, 5, [.agg [.int .i64 x9.Time, .sl (n + 2) 1 0 (x1).length, .sl (n + 3) 1 0 (x3).length, .sl (n + 4) 1 0 (x5).length, .sl (n + 5) 1 0 (x7).length]], 1⟩]) (loc2 := [⟨34, 5, [.agg [.int .i64 p0.Time, .vs 1 (Wq (Wr .i64) p0.States), .vs 1 (Wq (Wr .i64) p0.Since), .vs 1 (Wq Ws p0.Pulled), .vs 1 (Wq Ws p0.Held)]], 0⟩, ⟨34, 5, [.agg [.int .i64 0, .nils, .nils, .nils, .nils]], 0⟩, ⟨3, 1, Wq (Wr .i64) x9.States, 1⟩, ⟨3, 1, Wq (Wr .i64) x9.Since, 1⟩, ⟨4, 1, Wq Ws x9.Pulled, 1⟩, ⟨4, 1, Wq Ws x9.Held, 1⟩, ⟨34, 5, [.agg [.int .i64 x9.Time, .sl (n + 2) 1 0 (x1).length, .sl (n + 3) 1 0 (x3).length, .sl (n + 4) 1 0 (x5).length, .sl (n + 5) 1 0 (x7).length]], 1⟩]) rfl Try.call32 (F_belts_Start_1_ok h10 (nd1 (Zs (Yx rfl) (Zs (Yx rfl) (Zs (Yx rfl) (Zs (Yx rfl) (Zs (Yv hq0) na0))))) (nd1 (Zs (Yx rfl) (Zs (Yx rfl) (Zs (Yx rfl) (Zs (Yv hq0) na0)))) (nd1 (Zs (Yx rfl) (Zs (Yx rfl) (Zs (Yv hq0) na0))) (nd1 (Zs (Yx rfl) (Zs (Yv hq0) na0)) (nd1 (Zs (Yv hq0) na0) (nd1 na0 nd0)))))) (rfl : (x1).length = _) (rfl : (x3).length = _) (rfl : (x5).length = _) (rfl : (x7).length = _) (Zt (Vs hn) rfl) (Zt (Vs hn) rfl) (Zt (Vs hn) rfl) (Zt (Vs hn) rfl) (Zt (Vs hn) rfl) (Wp hB rfl 0 rfl) (Xi (Vs hn) rfl)) (Yq (loc2 := [⟨34, 5, [.agg [.int .i64 p0.Time, .vs 1 (Wq (Wr .i64) p0.States), .vs 1 (Wq (Wr .i64) p0.Since), .vs 1 (Wq Ws p0.Pulled), .vs 1 (Wq Ws p0.Held)]], 0⟩, ⟨34, 5, [.agg [.int .i64 0, .nils, .nils, .nils, .nils]], 0⟩, ⟨3, 1, Wq (Wr .i64) x1, 1⟩, ⟨3, 1, Wq (Wr .i64) x3, 1⟩, ⟨4, 1, Wq Ws x5, 1⟩, ⟨4, 1, Wq Ws x7, 1⟩, ⟨34, 5, [.agg [.int .i64 x9.Time, .sl (n + 2) 1 0 (x1).length, .sl (n + 3) 1 0 (x3).length, .sl (n + 4) 1 0 (x5).length, .sl (n + 5) 1 0 (x7).length]], 1⟩]) (Vs hn) 6 rfl (Yq (loc2 := [⟨34, 5, [.agg [.int .i64 p0.Time, .vs 1 (Wq (Wr .i64) p0.States), .vs 1 (Wq (Wr .i64) p0.Since), .vs 1 (Wq Ws p0.Pulled), .vs 1 (Wq Ws p0.Held)]], 0⟩, ⟨34, 5, [.agg [.int .i64 0, .nils, .nils, .nils, .nils]], 0⟩, ⟨3, 1, Wq (Wr .i64) x9.States, 1⟩, ⟨3, 1, Wq (Wr .i64) x3, 1⟩, ⟨4, 1, Wq Ws x5, 1⟩, ⟨4, 1, Wq Ws x7, 1⟩, ⟨34, 5, [.agg [.int .i64 x9.Time, .sl (n + 2) 1 0 (x1).length, .sl (n + 3) 1 0 (x3).length, .sl (n + 4) 1 0 (x5).length, .sl (n + 5) 1 0 (x7).length]], 1⟩]) (Vs hn) 2 rfl (Yq (loc2 := [⟨34, 5, [.agg [.int .i64 p0.Time, .vs 1 (Wq (Wr .i64) p0.States), .vs 1 (Wq (Wr .i64) p0.Since), .vs 1 (Wq Ws p0.Pulled), .vs 1 (Wq Ws p0.Held)]], 0⟩, ⟨34, 5, [.agg [.int .i64 0, .nils, .nils, .nils, .nils]], 0⟩, ⟨3, 1, Wq (Wr .i64) x9.States, 1⟩, ⟨3, 1, Wq (Wr .i64) x9.Since, 1⟩, ⟨4, 1, Wq Ws x5, 1⟩, ⟨4, 1, Wq Ws x7, 1⟩, ⟨34, 5, [.agg [.int .i64 x9.Time, .sl (n + 2) 1 0 (x1).length, .sl (n + 3) 1 0 (x3).length, .sl (n + 4) 1 0 (x5).length, .sl (n + 5) 1 0 (x7).length]], 1⟩]) (Vs hn) 3 rfl (Yq (loc2 := [⟨34, 5, [.agg [.int .i64 p0.Time, .vs 1 (Wq (Wr .i64) p0.States), .vs 1 (Wq (Wr .i64) p0.Since), .vs 1 (Wq Ws p0.Pulled), .vs 1 (Wq Ws p0.Held)]], 0⟩, ⟨34, 5, [.agg [.int .i64 0, .nils, .nils, .nils, .nils]], 0⟩, ⟨3, 1, Wq (Wr .i64) x9.States, 1⟩, ⟨3, 1, Wq (Wr .i64) x9.Since, 1⟩, ⟨4, 1, Wq Ws x9.Pulled, 1⟩, ⟨4, 1, Wq Ws x7, 1⟩, ⟨34, 5, [.agg [.int .i64 x9.Time, .sl (n + 2) 1 0 (x1).length, .sl (n + 3) 1 0 (x3).length, .sl (n + 4) 1 0 (x5).length, .sl (n + 5) 1 0 (x7).length]], 1⟩]) (Vs hn) 4 rfl (Yq (loc2 := [⟨34, 5, [.agg [.int .i64 p0.Time, .vs 1 (Wq (Wr .i64) p0.States), .vs 1 (Wq (Wr .i64) p0.Since), .vs 1 (Wq Ws p0.Pulled), .vs 1 (Wq Ws p0.Held)]], 0⟩, ⟨34, 5, [.agg [.int .i64 0, .nils, .nils, .nils, .nils]], 0⟩, ⟨3, 1, Wq (Wr .i64) x9.States, 1⟩, ⟨3, 1, Wq (Wr .i64) x9.Since, 1⟩, ⟨4, 1, Wq Ws x9.Pulled, 1⟩, ⟨4, 1, Wq Ws x9.Held, 1⟩, ⟨34, 5, [.agg [.int .i64 x9.Time, .sl (n + 2) 1 0 (x1).length, .sl (n + 3) 1 0 (x3).length, .sl (n + 4) 1 0 (x5).length, .sl (n + 5) 1 0 (x7).length]], 1⟩]) (Vs hn) 5 rfl (Wd (ps0' := [(q0, ⟨3, 1, [.int .i64 pc10], w0⟩)]) hB rfl 0 rfl (ltObjN hn ⟨.int _ _, trivial⟩) rfl Zl)))))) rfl) rfl ?_
  refine Vf ?_
  refine Vi ?_
  refine Vd ?_
  refine Va (Vv (ds := [.int .i64 x9.Time, .sl (n + 2) 1 0 (x1).length, .sl (n + 3) 1 0 (x3).length, .sl (n + 4) 1 0 (x5).length, .sl (n + 5) 1 0 (x7).length]) rfl (Ve (Vs hn) rfl) rfl ta_34 ts_34 rfl rfl rfl) rfl ?_
  refine Vj (Vy (p := .agg [.int .i64 x9.Time, .sl (n + 2) 1 0 (x1).length, .sl (n + 3) 1 0 (x3).length, .sl (n + 4) 1 0 (x5).length, .sl (n + 5) 1 0 (x7).length]) (e' := .agg [.int .i64 x9.Time, .sl (n + 2) 1 0 (x1).length, .sl (n + 3) 1 0 (x3).length, .sl (n + 4) 1 0 (x5).length, .sl (n + 5) 1 0 (x7).length]) rfl (Ve (Vs hn) rfl) rfl rfl ts_34 rfl (Ye rfl) rfl (Wu rfl) rfl (Xr (Vs hn) rfl)) rfl ?_
  refine Vf ?_
  refine Xb ?_
  obtain rfl := Wt hF
  refine Wg ?_
  refine Weak.trans (Xm (E' := [(4, .ptr (n + 1) 0 0 0)]) (loc1 := [⟨34, 5, [.agg [.int .i64 p0.Time, .vs 1 (Wq (Wr .i64) p0.States), .vs 1 (Wq (Wr .i64) p0.Since), .vs 1 (Wq Ws p0.Pulled), .vs 1 (Wq Ws p0.Held)]], 0⟩, ⟨34, 5, [.agg [.int .i64 x9.Time, .sl (n + 2) 1 0 (x1).length, .sl (n + 3) 1 0 (x3).length, .sl (n + 4) 1 0 (x5).length, .vs 1 (Wq Ws x9.Held)]], 0⟩, ⟨3, 1, Wq (Wr .i64) x9.States, 1⟩, ⟨3, 1, Wq (Wr .i64) x9.Since, 1⟩, ⟨4, 1, Wq Ws x9.Pulled, 1⟩, ⟨4, 1, [], 1 + 1⟩, ⟨34, 5, [.agg [.int .i64 x9.Time, .sl (n + 2) 1 0 (x1).length, .sl (n + 3) 1 0 (x3).length, .sl (n + 4) 1 0 (x5).length, .vs 1 (Wq Ws x9.Held)]], 1⟩]) (Vs hn) 5 rfl (Ya (fun _ => .bool _)) ⟨Vl rfl, trivial⟩ ⟨.refl _, Yr ⟨Vl rfl, Vl rfl, Vl rfl, Vl rfl, Zj rfl rfl rfl (Vx (F_belts_Start_1_len h10 (rfl : (x1).length = _) (rfl : (x3).length = _) (rfl : (x5).length = _) (rfl : (x7).length = _)).2.2.2.1), trivial⟩, .refl _, .refl _, .refl _, .refl _, Yr ⟨Vl rfl, Vl rfl, Vl rfl, Vl rfl, Zj rfl rfl rfl (Vx (F_belts_Start_1_len h10 (rfl : (x1).length = _) (rfl : (x3).length = _) (rfl : (x5).length = _) (rfl : (x7).length = _)).2.2.2.1), trivial⟩, trivial⟩) ?_
  exact Vt (Vs hn) [(2, 1), (3, 1), (4, 1), (1, 0)] (by decide) ⟨Yj 3 1 rfl rfl, trivial⟩ ⟨⟨_, rfl, rfl, .same _ _ _ _ (Vh (fun _ => .int _ _))⟩, ⟨_, rfl, rfl, .same _ _ _ _ (Vh (fun _ => .int _ _))⟩, ⟨_, rfl, rfl, .same _ _ _ _ (Vh (fun _ => .bool _))⟩, ⟨_, rfl, rfl, .agg _ _ _ _ _ ⟨Vr rfl (.int _ _), Xq 0 2 rfl (congrArg (PV.sl _ _ 0) (F_belts_Start_1_len h10 (rfl : (x1).length = _) (rfl : (x3).length = _) (rfl : (x5).length = _) (rfl : (x7).length = _)).1), Xq 1 3 rfl (congrArg (PV.sl _ _ 0) (F_belts_Start_1_len h10 (rfl : (x1).length = _) (rfl : (x3).length = _) (rfl : (x5).length = _) (rfl : (x7).length = _)).2.1), Xq 2 4 rfl (congrArg (PV.sl _ _ 0) (F_belts_Start_1_len h10 (rfl : (x1).length = _) (rfl : (x3).length = _) (rfl : (x5).length = _) (rfl : (x7).length = _)).2.2.1), Vr rfl (.vs _ _), trivial⟩⟩, trivial⟩
 ·rintro _ _ _ _ ⟨he, hw⟩
  refine ⟨_, _, _, hw, ?_⟩
  exact Zm (Vs hn) 3 rfl (Wu rfl) he [.agg [.int .i64 r.Time, .sl (n + 0) 0 0 (r.States).length, .sl (n + 1) 0 0 (r.Since).length, .sl (n + 2) 0 0 (r.Pulled).length, .vs 1 (Wq Ws r.Held)]] ⟨Vv rfl (Ve (Vs hn) rfl) rfl ta_34 ts_34 rfl rfl rfl, trivial⟩ ((Xw ⟨.int _ _, .sl _ _ _ _ (Zw rfl), .sl _ _ _ _ (Zw rfl), .sl _ _ _ _ (Zw rfl), .vs _ _, trivial⟩)) ⟨Vh (fun _ => .int _ _), Vh (fun _ => .int _ _), Vh (fun _ => .bool _), trivial⟩ ⟨rfl, rfl⟩

theorem F_belts_done__belts_Start_1_ok {p0 : T_Line} {pc10 : Int} {r : T_Line} (hF : F_belts_done__belts_Start_1 p0 pc10 = some r) {low : List AObj} {q0 w0 : Nat} (hnd : [q0].Nodup) (hq0 : low[q0]? = some ⟨3, 1, [.int .i64 pc10], w0⟩) {n : Nat} (hn : low.length = n) :
    Ys Try.prog 31 [.agg [.int .i64 p0.Time, .vs 1 (Wq (Wr .i64) p0.States), .vs 1 (Wq (Wr .i64) p0.Since), .vs 1 (Wq Ws p0.Pulled), .vs 1 (Wq Ws p0.Held)], .fn 32 [] [.ptr q0 w0 0 0]] low fun x low' => x = .agg [.int .i64 r.Time, .sl (n + 0) 0 0 (r.States).length, .sl (n + 1) 0 0 (r.Since).length, .sl (n + 2) 0 0 (r.Pulled).length, .vs 1 (Wq Ws r.Held)] ∧ low' = setL low [(q0, ⟨3, 1, [.int .i64 pc10], w0⟩)] ++ [⟨3, 1, Wq (Wr .i64) r.States, 0⟩, ⟨3, 1, Wq (Wr .i64) r.Since, 0⟩, ⟨4, 1, Wq Ws r.Pulled, 0⟩] := by
  obtain ⟨h1, h2⟩ := We (ps := [(q0, ⟨3, 1, [.int .i64 pc10], w0⟩)]) hnd (Wf hq0 bor0)
  exact Zx h1 (F_belts_done__belts_Start_1_ok0 hF h2 hn)

theorem F_belts_Start_ok {p0 : List T_Belt} {p1 : T_Line} {p2 : Int} {r : T_Line × Int} (hF : F_belts_Start p0 p1 p2 = some r) (low : List AObj) {n : Nat} (hn : low.length = n) :
    Ys Try.prog 13 [.vs 2 (Wq T_Belt.enc p0), .agg [.int .i64 p1.Time, .vs 1 (Wq (Wr .i64) p1.States), .vs 1 (Wq (Wr .i64) p1.Since), .vs 1 (Wq Ws p1.Pulled), .vs 1 (Wq Ws p1.Held)], .int .i64 p2] low fun x low' => x = .tup [.agg [.int .i64 r.1.Time, .vs 1 (Wq (Wr .i64) r.1.States), .vs 1 (Wq (Wr .i64) r.1.Since), .vs 1 (Wq Ws r.1.Pulled), .vs 1 (Wq Ws r.1.Held)], .int .i64 r.2] ∧ low' = low ++ [] := by
 refine Vz (nt := 60) (rs := [.cell 6 34, .tmp 7]) Try.func13 rfl rfl (Wu rfl) rfl ?_
 refine Vw (Q' := FnE (fun E' lw lc => Yb E' lw lc [(6, .ptr (n + 0) 0 0 0), (7, .int .i64 r.2)] low [⟨34, 5, [.agg [.int .i64 r.1.Time, .vs 1 (Wq (Wr .i64) r.1.States), .vs 1 (Wq (Wr .i64) r.1.Since), .vs 1 (Wq Ws r.1.Pulled), .vs 1 (Wq Ws r.1.Held)]], 0⟩])) ?_ ?_
 ·unfold F_belts_Start at hF
  refine Vi ?_
  refine Vd ?_
  refine Vj (Zc hn rfl (v := .agg [.int .i64 p1.Time, .vs 1 (Wq (Wr .i64) p1.States), .vs 1 (Wq (Wr .i64) p1.Since), .vs 1 (Wq Ws p1.Pulled), .vs 1 (Wq Ws p1.Held)]) rfl rfl (Wv _) rfl rfl) rfl ?_
  refine Vj (Zc hn rfl (v := .int .i64 p2) rfl rfl (Wv _) rfl rfl) rfl ?_
  refine Vj (Xe hn rfl tz_34 rfl rfl (Wv _) rfl) rfl ?_
  refine Va (Xa rfl) rfl ?_
  refine Vf ?_
  refine Vi ?_
  refine Vi ?_
  refine Vd ?_
  obtain ⟨x1, h2, hF⟩ := Yt hF
  refine Va (Xc rfl) rfl ?_
  refine Va (Vv (ds := [.int .i64 p1.Time, .vs 1 (Wq (Wr .i64) p1.States), .vs 1 (Wq (Wr .i64) p1.Since), .vs 1 (Wq Ws p1.Pulled), .vs 1 (Wq Ws p1.Held)]) rfl (Ve hn rfl) rfl ta_34 ts_34 rfl rfl rfl) rfl ?_
  refine Va (Vg rfl (Ve hn rfl) rfl ta_3 rfl) rfl ?_
  refine Vj (Xp rfl Try.call30 (F_belts_checked_ok h2 _)) rfl ?_
  refine Va (Xa rfl) rfl ?_
  refine Vf ?_
  refine Vi ?_
  refine Vd ?_
  refine Va (Vk rfl) rfl ?_
  refine Va (Ze rfl rfl) rfl ?_
  refine Vf ?_
  refine Xh rfl (fun c3 => ?_) (fun c3 => ?_)
  ·have hF := Yo c3 hF
   refine Vi ?_
   refine Vd ?_
   refine Va (Vv (ds := [.int .i64 p1.Time, .vs 1 (Wq (Wr .i64) p1.States), .vs 1 (Wq (Wr .i64) p1.Since), .vs 1 (Wq Ws p1.Pulled), .vs 1 (Wq Ws p1.Held)]) rfl (Ve hn rfl) rfl ta_34 ts_34 rfl rfl rfl) rfl ?_
   refine Va (Vk rfl) rfl ?_
   refine Vj (Vy (p := .agg [.int .i64 p1.Time, .vs 1 (Wq (Wr .i64) p1.States), .vs 1 (Wq (Wr .i64) p1.Since), .vs 1 (Wq Ws p1.Pulled), .vs 1 (Wq Ws p1.Held)]) (e' := .agg [.int .i64 p1.Time, .vs 1 (Wq (Wr .i64) p1.States), .vs 1 (Wq (Wr .i64) p1.Since), .vs 1 (Wq Ws p1.Pulled), .vs 1 (Wq Ws p1.Held)]) rfl (Ve hn rfl) rfl rfl ts_34 rfl (Ye rfl) rfl (Wu rfl) rfl (Xr hn rfl)) rfl ?_
   refine Va (Xa rfl) rfl ?_
   refine Vf ?_
   refine Xb ?_
   obtain rfl := Wt hF
   refine Wg ?_
   exact Vt hn [(2, 0)] (by decide) ⟨Yj 0 2 rfl rfl, Vr rfl (.int _ _), trivial⟩ ⟨⟨_, rfl, rfl, .same _ _ _ _ (Xt ⟨Xw ⟨.int _ _, .vs _ _, .vs _ _, .vs _ _, .vs _ _, trivial⟩, trivial⟩)⟩, trivial⟩
  ·have hF := Yp c3 hF
   refine Xn ?_
   refine Vi ?_
   refine Vd ?_
   obtain ⟨x4, h5, hF⟩ := Yt hF
   refine Va (Xc rfl) rfl ?_
   refine Va (Vg rfl (Ve hn rfl) rfl ta_3 rfl) rfl ?_
   refine Va (Xk (Yl rfl rfl h5 te_27 ts_31) (v' := .vptr [.int .i64 x4.Onto, .int .i64 x4.Warn] 0) rfl) rfl ?_
   refine Va (Yf rfl tf_31_0 ts_3 (by decide)) rfl ?_
   refine Va (Xj rfl ta_3 rfl) rfl ?_
   refine Va (Xa rfl) rfl ?_
   refine Vf ?_
   refine Vi ?_
   refine Yh ?_
   refine Vi ?_
   refine Vd ?_
   obtain ⟨x6, h7, hF⟩ := Yt hF
   refine Va (Vc rfl tf_34_1 ts_22 (by decide)) rfl ?_
   refine Va (Vg rfl (Ve hn rfl) rfl ta_22 rfl) rfl ?_
   refine Va (Vg rfl (Ve hn rfl) rfl ta_3 rfl) rfl ?_
   refine Va (Xk (Yl rfl rfl h7 te_22 ts_3) (v' := .vptr [.int .i64 x6] 0) rfl) rfl ?_
   refine Va (Xj rfl ta_3 rfl) rfl ?_
   refine Va (Ze rfl rfl) rfl ?_
   refine Va (Xz rfl) rfl ?_
   refine Vf ?_
   refine Xh rfl (fun c8 => ?_) (fun c8 => ?_)
   ·have hF := Yo c8 hF
    refine Vi ?_
    refine Vd ?_
    refine Va (Vv (ds := [.int .i64 p1.Time, .vs 1 (Wq (Wr .i64) p1.States), .vs 1 (Wq (Wr .i64) p1.Since), .vs 1 (Wq Ws p1.Pulled), .vs 1 (Wq Ws p1.Held)]) rfl (Ve hn rfl) rfl ta_34 ts_34 rfl rfl rfl) rfl ?_
    refine Vj (Vy (p := .agg [.int .i64 p1.Time, .vs 1 (Wq (Wr .i64) p1.States), .vs 1 (Wq (Wr .i64) p1.Since), .vs 1 (Wq Ws p1.Pulled), .vs 1 (Wq Ws p1.Held)]) (e' := .agg [.int .i64 p1.Time, .vs 1 (Wq (Wr .i64) p1.States), .vs 1 (Wq (Wr .i64) p1.Since), .vs 1 (Wq Ws p1.Pulled), .vs 1 (Wq Ws p1.Held)]) rfl (Ve hn rfl) rfl rfl ts_34 rfl (Ye rfl) rfl (Wu rfl) rfl (Xr hn rfl)) rfl ?_
    refine Va (Xa rfl) rfl ?_
    refine Vf ?_
    refine Xb ?_
    obtain rfl := Wt hF
    refine Wg ?_
    exact Vt hn [(2, 0)] (by decide) ⟨Yj 0 2 rfl rfl, Vr rfl (.int _ _), trivial⟩ ⟨⟨_, rfl, rfl, .same _ _ _ _ (Xt ⟨Xw ⟨.int _ _, .vs _ _, .vs _ _, .vs _ _, .vs _ _, trivial⟩, trivial⟩)⟩, trivial⟩
   ·have hF := Yp c8 hF
    refine Vi ?_
    obtain ⟨o9, ho9, hF⟩ := Yt hF
    refine Vw (Q' := (fun o9 => OnlyE .normal (fun E' lw lc => Yb E' lw lc [(4, .ptr (n + 0) 0 0 0), (5, .ptr (n + 1) 0 0 0), (6, .ptr (n + 2) 0 0 0), (9, .int .i64 x4.Onto), (31, .bool o9)] low [⟨34, 5, [.agg [.int .i64 p1.Time, .vs 1 (Wq (Wr .i64) p1.States), .vs 1 (Wq (Wr .i64) p1.Since), .vs 1 (Wq Ws p1.Pulled), .vs 1 (Wq Ws p1.Held)]], 0⟩, ⟨3, 1, [.int .i64 p2], 0⟩, ⟨34, 5, [.agg [.int .i64 0, .nils, .nils, .nils, .nils]], 0⟩])) o9) ?_ ?_
    ·replace hF := ho9
     refine Vd ?_
     obtain ⟨x10, h11, hF⟩ := Yt hF
     rcases Ww x10 with c12 | c12
     ·have hF := Yo c12 hF
      refine Va (Vc rfl tf_34_3 ts_32 (by decide)) rfl ?_
      refine Va (Vg rfl (Ve hn rfl) rfl ta_32 rfl) rfl ?_
      refine Va (Vg rfl (Ve hn rfl) rfl ta_3 rfl) rfl ?_
      refine Va (Xk (Yl rfl rfl h11 te_32 ts_4) (v' := .vptr [.bool x10] 0) rfl) rfl ?_
      refine Va (Xj rfl ta_4 rfl) rfl ?_
      refine Va (Vm rfl) rfl ?_
      refine Vb rfl rfl (Zo c12) rfl ?_
      refine Vb rfl rfl (Zo c12) rfl ?_
      refine Vb rfl rfl (Zo c12) rfl ?_
      refine Vb rfl rfl (Zo c12) rfl ?_
      refine Vb rfl rfl (Zo c12) rfl ?_
      refine Va (Vo (congrArg Ws c12) rfl) rfl ?_
      refine Va (Xz rfl) rfl ?_
      refine Vf ?_
      obtain rfl := Wt hF
      refine Xy ?_
      exact Vp ⟨rfl, rfl, rfl, rfl, rfl, trivial⟩
     ·have hF := Yp c12 hF
      obtain ⟨x13, h14, hF⟩ := Yt hF
      refine Va (Vc rfl tf_34_3 ts_32 (by decide)) rfl ?_
      refine Va (Vg rfl (Ve hn rfl) rfl ta_32 rfl) rfl ?_
      refine Va (Vg rfl (Ve hn rfl) rfl ta_3 rfl) rfl ?_
      refine Va (Xk (Yl rfl rfl h11 te_32 ts_4) (v' := .vptr [.bool x10] 0) rfl) rfl ?_
      refine Va (Xj rfl ta_4 rfl) rfl ?_
      refine Va (Vm rfl) rfl ?_
      refine Xd rfl rfl c12 ?_
      refine Va (Vc rfl tf_34_4 ts_32 (by decide)) rfl ?_
      refine Xd rfl rfl c12 ?_
      refine Va (Vg rfl (Ve hn rfl) rfl ta_32 rfl) rfl ?_
      refine Xd rfl rfl c12 ?_
      refine Va (Vg rfl (Ve hn rfl) rfl ta_3 rfl) rfl ?_
      refine Xd rfl rfl c12 ?_
      refine Va (Xk (Yl rfl rfl h14 te_32 ts_4) (v' := .vptr [.bool x13] 0) rfl) rfl ?_
      refine Xd rfl rfl c12 ?_
      refine Va (Xj rfl ta_4 rfl) rfl ?_
      refine Va (Vn (congrArg Ws c12) rfl) rfl ?_
      refine Va (Xz rfl) rfl ?_
      refine Vf ?_
      obtain rfl := Wt hF
      refine Xy ?_
      exact Vp ⟨rfl, rfl, rfl, rfl, rfl, trivial⟩
    ·rintro _ _ _ _ ⟨rfl, hw⟩
     refine ⟨_, _, _, hw, ?_⟩
     refine Xh rfl (fun c15 => ?_) (fun c15 => ?_)
     ·have hF := Yo c15 hF
      refine Vi ?_
      refine Vd ?_
      refine Va (Vv (ds := [.int .i64 p1.Time, .vs 1 (Wq (Wr .i64) p1.States), .vs 1 (Wq (Wr .i64) p1.Since), .vs 1 (Wq Ws p1.Pulled), .vs 1 (Wq Ws p1.Held)]) rfl (Ve hn rfl) rfl ta_34 ts_34 rfl rfl rfl) rfl ?_
      refine Vj (Vy (p := .agg [.int .i64 p1.Time, .vs 1 (Wq (Wr .i64) p1.States), .vs 1 (Wq (Wr .i64) p1.Since), .vs 1 (Wq Ws p1.Pulled), .vs 1 (Wq Ws p1.Held)]) (e' := .agg [.int .i64 p1.Time, .vs 1 (Wq (Wr .i64) p1.States), .vs 1 (Wq (Wr .i64) p1.Since), .vs 1 (Wq Ws p1.Pulled), .vs 1 (Wq Ws p1.Held)]) rfl (Ve hn rfl) rfl rfl ts_34 rfl (Ye rfl) rfl (Wu rfl) rfl (Xr hn rfl)) rfl ?_
      refine Va (Xa rfl) rfl ?_
      refine Vf ?_
      refine Xb ?_
      obtain rfl := Wt hF
      refine Wg ?_
      exact Vt hn [(2, 0)] (by decide) ⟨Yj 0 2 rfl rfl, Vr rfl (.int _ _), trivial⟩ ⟨⟨_, rfl, rfl, .same _ _ _ _ (Xt ⟨Xw ⟨.int _ _, .vs _ _, .vs _ _, .vs _ _, .vs _ _, trivial⟩, trivial⟩)⟩, trivial⟩
     ·have hF := Yp c15 hF
      refine Vi ?_
      obtain ⟨o16, ho16, hF⟩ := Yt hF
      refine Vw (Q' := (fun o16 => OnlyE .normal (fun E' lw lc => Yb E' lw lc [(4, .ptr (n + 0) 0 0 0), (5, .ptr (n + 1) 0 0 0), (6, .ptr (n + 2) 0 0 0), (45, .bool o16)] low [⟨34, 5, [.agg [.int .i64 p1.Time, .vs 1 (Wq (Wr .i64) p1.States), .vs 1 (Wq (Wr .i64) p1.Since), .vs 1 (Wq Ws p1.Pulled), .vs 1 (Wq Ws p1.Held)]], 0⟩, ⟨3, 1, [.int .i64 p2], 0⟩, ⟨34, 5, [.agg [.int .i64 0, .nils, .nils, .nils, .nils]], 0⟩])) o16) ?_ ?_
      ·replace hF := ho16
       refine Vd ?_
       rcases Ww (decide (0 ≤ x4.Onto)) with c17 | c17
       ·have hF := Yo c17 hF
        obtain ⟨x18, h19, hF⟩ := Yt hF
        refine Va (Vk rfl) rfl ?_
        refine Va (rd_geq rfl rfl) rfl ?_
        refine Va (Vm rfl) rfl ?_
        refine Xd rfl rfl c17 ?_
        refine Va (Vc rfl tf_34_1 ts_22 (by decide)) rfl ?_
        refine Xd rfl rfl c17 ?_
        refine Va (Vg rfl (Ve hn rfl) rfl ta_22 rfl) rfl ?_
        refine Xd rfl rfl c17 ?_
        refine Va (Vk rfl) rfl ?_
        refine Xd rfl rfl c17 ?_
        refine Va (Xk (Yl rfl rfl h19 te_22 ts_3) (v' := .vptr [.int .i64 x18] 0) rfl) rfl ?_
        refine Xd rfl rfl c17 ?_
        refine Va (Xj rfl ta_3 rfl) rfl ?_
        refine Xd rfl rfl c17 ?_
        refine Va (Ze rfl rfl) rfl ?_
        refine Va (Vo (congrArg Ws c17) rfl) rfl ?_
        refine Va (Xz rfl) rfl ?_
        refine Vf ?_
        obtain rfl := Wt hF
        refine Xy ?_
        exact Vp ⟨rfl, rfl, rfl, rfl, trivial⟩
       ·have hF := Yp c17 hF
        refine Va (Vk rfl) rfl ?_
        refine Va (rd_geq rfl rfl) rfl ?_
        refine Va (Vm rfl) rfl ?_
        refine Vb rfl rfl (Zz c17) rfl ?_
        refine Vb rfl rfl (Zz c17) rfl ?_
        refine Vb rfl rfl (Zz c17) rfl ?_
        refine Vb rfl rfl (Zz c17) rfl ?_
        refine Vb rfl rfl (Zz c17) rfl ?_
        refine Vb rfl rfl (Zz c17) rfl ?_
        refine Va (Vn (congrArg Ws c17) rfl) rfl ?_
        refine Va (Xz rfl) rfl ?_
        refine Vf ?_
        obtain rfl := Wt hF
        refine Xy ?_
        exact Vp ⟨rfl, rfl, rfl, rfl, trivial⟩
      ·rintro _ _ _ _ ⟨rfl, hw⟩
       refine ⟨_, _, _, hw, ?_⟩
       refine Xh rfl (fun c20 => ?_) (fun c20 => ?_)
       ·have hF := Yo c20 hF
        refine Vi ?_
        refine Vd ?_
        refine Va (Vv (ds := [.int .i64 p1.Time, .vs 1 (Wq (Wr .i64) p1.States), .vs 1 (Wq (Wr .i64) p1.Since), .vs 1 (Wq Ws p1.Pulled), .vs 1 (Wq Ws p1.Held)]) rfl (Ve hn rfl) rfl ta_34 ts_34 rfl rfl rfl) rfl ?_
        refine Vj (Vy (p := .agg [.int .i64 p1.Time, .vs 1 (Wq (Wr .i64) p1.States), .vs 1 (Wq (Wr .i64) p1.Since), .vs 1 (Wq Ws p1.Pulled), .vs 1 (Wq Ws p1.Held)]) (e' := .agg [.int .i64 p1.Time, .vs 1 (Wq (Wr .i64) p1.States), .vs 1 (Wq (Wr .i64) p1.Since), .vs 1 (Wq Ws p1.Pulled), .vs 1 (Wq Ws p1.Held)]) rfl (Ve hn rfl) rfl rfl ts_34 rfl (Ye rfl) rfl (Wu rfl) rfl (Xr hn rfl)) rfl ?_
        refine Va (Xa rfl) rfl ?_
        refine Vf ?_
        refine Xb ?_
        obtain rfl := Wt hF
        refine Wg ?_
        exact Vt hn [(2, 0)] (by decide) ⟨Yj 0 2 rfl rfl, Vr rfl (.int _ _), trivial⟩ ⟨⟨_, rfl, rfl, .same _ _ _ _ (Xt ⟨Xw ⟨.int _ _, .vs _ _, .vs _ _, .vs _ _, .vs _ _, trivial⟩, trivial⟩)⟩, trivial⟩
       ·have hF := Yp c20 hF
        refine Xn ?_
        refine Vi ?_
        refine Vd ?_
        obtain ⟨x21, h22, hF⟩ := Yt hF
        refine Va (Vv (ds := [.int .i64 p1.Time, .vs 1 (Wq (Wr .i64) p1.States), .vs 1 (Wq (Wr .i64) p1.Since), .vs 1 (Wq Ws p1.Pulled), .vs 1 (Wq Ws p1.Held)]) rfl (Ve hn rfl) rfl ta_34 ts_34 rfl rfl rfl) rfl ?_
        refine Va (rd_makeFn rfl) rfl ?_
        refine Vj (Zg (ps := [((n + 1), ⟨3, 1, [.int .i64 p2], 0⟩)]) (r := .agg [.int .i64 x21.Time, .sl (n + 3) 0 0 (x21.States).length, .sl (n + 4) 0 0 (x21.Since).length, .sl (n + 5) 0 0 (x21.Pulled).length, .vs 1 (Wq Ws x21.Held)]) (os := [⟨3, 1, Wq (Wr .i64) x21.States, 0⟩, ⟨3, 1, Wq (Wr .i64) x21.Since, 0⟩, ⟨4, 1, Wq Ws x21.Pulled, 0⟩]) (low1 := low) (loc1 := [⟨34, 5, [.agg [.int .i64 p1.Time, .vs 1 (Wq (Wr .i64) p1.States), .vs 1 (Wq (Wr .i64) p1.Since), .vs 1 (Wq Ws p1.Pulled), .vs 1 (Wq Ws p1.Held)]], 0⟩, ⟨3, 1, [.int .i64 p2], 0⟩, ⟨34, 5, [.agg [.int .i64 0, .nils, .nils, .nils, .nils]], 0⟩]) (loc2 := [⟨34, 5, [.agg [.int .i64 p1.Time, .vs 1 (Wq (Wr .i64) p1.States), .vs 1 (Wq (Wr .i64) p1.Since), .vs 1 (Wq Ws p1.Pulled), .vs 1 (Wq Ws p1.Held)]], 0⟩, ⟨3, 1, [.int .i64 p2], 0⟩, ⟨34, 5, [.agg [.int .i64 0, .nils, .nils, .nils, .nils]], 0⟩, ⟨3, 1, Wq (Wr .i64) x21.States, 0⟩, ⟨3, 1, Wq (Wr .i64) x21.Since, 0⟩, ⟨4, 1, Wq Ws x21.Pulled, 0⟩]) rfl Try.call31 (F_belts_done__belts_Start_1_ok h22 (nd1 na0 nd0) (Zt hn rfl) (Xi hn rfl)) (Yq (loc2 := [⟨34, 5, [.agg [.int .i64 p1.Time, .vs 1 (Wq (Wr .i64) p1.States), .vs 1 (Wq (Wr .i64) p1.Since), .vs 1 (Wq Ws p1.Pulled), .vs 1 (Wq Ws p1.Held)]], 0⟩, ⟨3, 1, [.int .i64 p2], 0⟩, ⟨34, 5, [.agg [.int .i64 0, .nils, .nils, .nils, .nils]], 0⟩]) hn 1 rfl Zl) rfl) rfl ?_
        refine Vj (Vy (p := .agg [.int .i64 x21.Time, .sl (n + 3) 0 0 (x21.States).length, .sl (n + 4) 0 0 (x21.Since).length, .sl (n + 5) 0 0 (x21.Pulled).length, .vs 1 (Wq Ws x21.Held)]) (e' := .agg [.int .i64 x21.Time, .sl (n + 3) 0 0 (x21.States).length, .sl (n + 4) 0 0 (x21.Since).length, .sl (n + 5) 0 0 (x21.Pulled).length, .vs 1 (Wq Ws x21.Held)]) rfl (Ve hn rfl) rfl rfl ts_34 rfl (Ye rfl) rfl (Wu rfl) rfl (Xr hn rfl)) rfl ?_
        refine Va (Xa rfl) rfl ?_
        refine Vf ?_
        refine Xb ?_
        obtain rfl := Wt hF
        refine Wg ?_
        refine Weak.trans (Xm (E' := [(6, .ptr (n + 2) 0 0 0), (7, .int .i64 0)]) (loc1 := [⟨34, 5, [.agg [.int .i64 p1.Time, .vs 1 (Wq (Wr .i64) p1.States), .vs 1 (Wq (Wr .i64) p1.Since), .vs 1 (Wq Ws p1.Pulled), .vs 1 (Wq Ws p1.Held)]], 0⟩, ⟨3, 1, [.int .i64 p2], 0⟩, ⟨34, 5, [.agg [.int .i64 x21.Time, .vs 1 (Wq (Wr .i64) x21.States), .sl (n + 4) 0 0 (x21.Since).length, .sl (n + 5) 0 0 (x21.Pulled).length, .vs 1 (Wq Ws x21.Held)]], 0⟩, ⟨3, 1, [], 0 + 1⟩, ⟨3, 1, Wq (Wr .i64) x21.Since, 0⟩, ⟨4, 1, Wq Ws x21.Pulled, 0⟩]) hn 3 rfl (Ya (fun _ => .int _ _)) ⟨Vl rfl, Vl rfl, trivial⟩ ⟨.refl _, .refl _, Yr ⟨Vl rfl, Zj rfl rfl rfl (Vx rfl), Vl rfl, Vl rfl, Vl rfl, trivial⟩, .refl _, .refl _, .refl _, trivial⟩) ?_
        refine Weak.trans (Xm (E' := [(6, .ptr (n + 2) 0 0 0), (7, .int .i64 0)]) (loc1 := [⟨34, 5, [.agg [.int .i64 p1.Time, .vs 1 (Wq (Wr .i64) p1.States), .vs 1 (Wq (Wr .i64) p1.Since), .vs 1 (Wq Ws p1.Pulled), .vs 1 (Wq Ws p1.Held)]], 0⟩, ⟨3, 1, [.int .i64 p2], 0⟩, ⟨34, 5, [.agg [.int .i64 x21.Time, .vs 1 (Wq (Wr .i64) x21.States), .vs 1 (Wq (Wr .i64) x21.Since), .sl (n + 5) 0 0 (x21.Pulled).length, .vs 1 (Wq Ws x21.Held)]], 0⟩, ⟨3, 1, [], 0 + 1⟩, ⟨3, 1, [], 0 + 1⟩, ⟨4, 1, Wq Ws x21.Pulled, 0⟩]) hn 4 rfl (Ya (fun _ => .int _ _)) ⟨Vl rfl, Vl rfl, trivial⟩ ⟨.refl _, .refl _, Yr ⟨Vl rfl, Vl rfl, Zj rfl rfl rfl (Vx rfl), Vl rfl, Vl rfl, trivial⟩, .refl _, .refl _, .refl _, trivial⟩) ?_
        refine Weak.trans (Xm (E' := [(6, .ptr (n + 2) 0 0 0), (7, .int .i64 0)]) (loc1 := [⟨34, 5, [.agg [.int .i64 p1.Time, .vs 1 (Wq (Wr .i64) p1.States), .vs 1 (Wq (Wr .i64) p1.Since), .vs 1 (Wq Ws p1.Pulled), .vs 1 (Wq Ws p1.Held)]], 0⟩, ⟨3, 1, [.int .i64 p2], 0⟩, ⟨34, 5, [.agg [.int .i64 x21.Time, .vs 1 (Wq (Wr .i64) x21.States), .vs 1 (Wq (Wr .i64) x21.Since), .vs 1 (Wq Ws x21.Pulled), .vs 1 (Wq Ws x21.Held)]], 0⟩, ⟨3, 1, [], 0 + 1⟩, ⟨3, 1, [], 0 + 1⟩, ⟨4, 1, [], 0 + 1⟩]) hn 5 rfl (Ya (fun _ => .bool _)) ⟨Vl rfl, Vl rfl, trivial⟩ ⟨.refl _, .refl _, Yr ⟨Vl rfl, Vl rfl, Vl rfl, Zj rfl rfl rfl (Vx rfl), Vl rfl, trivial⟩, .refl _, .refl _, .refl _, trivial⟩) ?_
        exact Vt hn [(2, 0)] (by decide) ⟨Yj 0 2 rfl rfl, Vr rfl (.int _ _), trivial⟩ ⟨⟨_, rfl, rfl, .same _ _ _ _ (Xt ⟨Xw ⟨.int _ _, .vs _ _, .vs _ _, .vs _ _, .vs _ _, trivial⟩, trivial⟩)⟩, trivial⟩
 ·rintro _ _ _ _ ⟨he, hw⟩
  refine ⟨_, _, _, hw, ?_⟩
  exact Zm hn 0 rfl (Wu rfl) he [.agg [.int .i64 r.1.Time, .vs 1 (Wq (Wr .i64) r.1.States), .vs 1 (Wq (Wr .i64) r.1.Since), .vs 1 (Wq Ws r.1.Pulled), .vs 1 (Wq Ws r.1.Held)], .int .i64 r.2] ⟨Vv rfl (Ve hn rfl) rfl ta_34 ts_34 rfl rfl rfl, rfl, trivial⟩ ((lt_tup ⟨(Xw ⟨.int _ _, .vs _ _, .vs _ _, .vs _ _, .vs _ _, trivial⟩), .int _ _, trivial⟩)) trivial ⟨rfl, rfl⟩

theorem F_belts_Wait_1_ok0 {p0 : T_Line} {p1 : Int} {p2 : List T_Belt} {r : T_Line} (hF : F_belts_Wait_1 p0 p1 p2 = some r) {low0 : List AObj} {q0 q1 q2 q3 q4 q5 q6 w0 w1 w2 w3 w4 w5 w6 : Nat} (hB : Bor low0 [q0, q1, q2, q3, q4, q5, q6]) {m1 : Nat} (hm1 : m1 = (p0.States).length) {m2 : Nat} (hm2 : m2 = (p0.Since).length) {m3 : Nat} (hm3 : m3 = (p0.Pulled).length) {m4 : Nat} (hm4 : m4 = (p0.Held).length) {n : Nat} (hn : low0.length = n) :
    Ys Try.prog 34 [.ptr q0 w0 0 0, .ptr q5 w5 0 0, .ptr q6 w6 0 0] (setL low0 [(q0, ⟨34, 5, [.agg [.int .i64 p0.Time, .sl q1 w1 0 m1, .sl q2 w2 0 m2, .sl q3 w3 0 m3, .sl q4 w4 0 m4]], w0⟩), (q1, ⟨3, 1, Wq (Wr .i64) p0.States, w1⟩), (q2, ⟨3, 1, Wq (Wr .i64) p0.Since, w2⟩), (q3, ⟨4, 1, Wq Ws p0.Pulled, w3⟩), (q4, ⟨4, 1, Wq Ws p0.Held, w4⟩), (q5, ⟨3, 1, [.int .i64 p1], w5⟩), (q6, ⟨27, 1, [.vs 2 (Wq T_Belt.enc p2)], w6⟩)]) fun x low' => x = .tup [] ∧ low' = setL low0 [(q0, ⟨34, 5, [.agg [.int .i64 r.Time, .sl q1 w1 0 m1, .sl q2 w2 0 m2, .sl q3 w3 0 m3, .sl q4 w4 0 m4]], w0⟩), (q1, ⟨3, 1, Wq (Wr .i64) r.States, w1⟩), (q2, ⟨3, 1, Wq (Wr .i64) r.Since, w2⟩), (q3, ⟨4, 1, Wq Ws r.Pulled, w3⟩), (q4, ⟨4, 1, Wq Ws r.Held, w4⟩), (q5, ⟨3, 1, [.int .i64 p1], w5⟩), (q6, ⟨27, 1, [.vs 2 (Wq T_Belt.enc p2)], w6⟩)] ++ [] := by
 refine Vz (nt := 55) (rs := []) Try.func34 rfl rfl (Wu rfl) rfl ?_
 have hq0 : q0 < n := hB.ltN hn 0 rfl
 have hq1 : q1 < n := hB.ltN hn 1 rfl
 have hq2 : q2 < n := hB.ltN hn 2 rfl
 have hq3 : q3 < n := hB.ltN hn 3 rfl
 have hq4 : q4 < n := hB.ltN hn 4 rfl
 have hq5 : q5 < n := hB.ltN hn 5 rfl
 have hq6 : q6 < n := hB.ltN hn 6 rfl
 refine Vw (Q' := FnE (fun E' lw lc => m1 = (r.States).length ∧ m2 = (r.Since).length ∧ m3 = (r.Pulled).length ∧ m4 = (r.Held).length ∧ Yb E' lw lc [] (setL low0 [(q0, ⟨34, 5, [.agg [.int .i64 r.Time, .sl q1 w1 0 m1, .sl q2 w2 0 m2, .sl q3 w3 0 m3, .sl q4 w4 0 m4]], w0⟩), (q1, ⟨3, 1, Wq (Wr .i64) r.States, w1⟩), (q2, ⟨3, 1, Wq (Wr .i64) r.Since, w2⟩), (q3, ⟨4, 1, Wq Ws r.Pulled, w3⟩), (q4, ⟨4, 1, Wq Ws r.Held, w4⟩), (q5, ⟨3, 1, [.int .i64 p1], w5⟩), (q6, ⟨27, 1, [.vs 2 (Wq T_Belt.enc p2)], w6⟩)]) [])) ?_ ?_
 ·unfold F_belts_Wait_1 at hF
  refine Vi ?_
  refine Vd ?_
  refine Va (Zq rfl) rfl ?_
  refine Va (Vg rfl (Yw hB rfl 5 rfl) rfl ta_3 rfl) rfl ?_
  refine Va (Zv rfl) rfl ?_
  refine Va (Vc rfl tf_34_0 ts_3 (by decide)) rfl ?_
  refine Vj (Vy (p := .int .i64 p1) (e' := .agg [.int .i64 p1, .sl q1 w1 0 m1, .sl q2 w2 0 m2, .sl q3 w3 0 m3, .sl q4 w4 0 m4]) rfl (Yw hB rfl 0 rfl) rfl rfl ts_3 rfl (Ye rfl) rfl (Wu rfl) rfl (setO_B hB rfl 0 rfl (ltObjN hn ⟨Xw ⟨.int _ _, .sl _ _ _ _ hq1, .sl _ _ _ _ hq2, .sl _ _ _ _ hq3, .sl _ _ _ _ hq4, trivial⟩, trivial⟩) rfl)) rfl ?_
  refine Vf ?_
  refine Vi ?_
  refine Vd ?_
  refine Va (Zq rfl) rfl ?_
  refine Va (Zv rfl) rfl ?_
  refine Va (Vc rfl tf_34_1 ts_22 (by decide)) rfl ?_
  refine Va (Vg rfl (Yw hB rfl 0 rfl) rfl ta_22 rfl) rfl ?_
  refine Va (Xk (rd_lenS rfl (Yw hB rfl 1 rfl) rfl rfl te_22) (congrArg (fun n : Nat => Wr .i64 (n : Int)) hm1)) rfl ?_
  refine Va (Vk rfl) rfl ?_
  refine Vf ?_
  refine Yh ?_
  obtain ⟨o6, ho6, hF⟩ := Yt hF
  refine Vw (Wb (F_belts_Wait_1_L1 p0 p1 p2) (fun s5 E' lw lc => m1 = (s5.2.1).length ∧ m2 = (s5.2.2).length ∧ Yb E' lw lc [(0, .ptr q0 w0 0 0), (1, .ptr q5 w5 0 0), (2, .ptr q6 w6 0 0), (14, .sl q1 w1 0 m1), (15, .int .i64 ((p0.States).length : Int)), (16, .int .i64 s5.1)] (setL low0 [(q0, ⟨34, 5, [.agg [.int .i64 p1, .sl q1 w1 0 m1, .sl q2 w2 0 m2, .sl q3 w3 0 m3, .sl q4 w4 0 m4]], w0⟩), (q1, ⟨3, 1, Wq (Wr .i64) s5.2.1, w1⟩), (q2, ⟨3, 1, Wq (Wr .i64) s5.2.2, w2⟩), (q3, ⟨4, 1, Wq Ws p0.Pulled, w3⟩), (q4, ⟨4, 1, Wq Ws p0.Held, w4⟩), (q5, ⟨3, 1, [.int .i64 p1], w5⟩), (q6, ⟨27, 1, [.vs 2 (Wq T_Belt.enc p2)], w6⟩)]) []) (fun o6 => OnlyE (.exit 0) (fun E' lw lc => m1 = (o6.1).length ∧ m2 = (o6.2).length ∧ Yb E' lw lc [] (setL low0 [(q0, ⟨34, 5, [.agg [.int .i64 p1, .sl q1 w1 0 m1, .sl q2 w2 0 m2, .sl q3 w3 0 m3, .sl q4 w4 0 m4]], w0⟩), (q1, ⟨3, 1, Wq (Wr .i64) o6.1, w1⟩), (q2, ⟨3, 1, Wq (Wr .i64) o6.2, w2⟩), (q3, ⟨4, 1, Wq Ws p0.Pulled, w3⟩), (q4, ⟨4, 1, Wq Ws p0.Held, w4⟩), (q5, ⟨3, 1, [.int .i64 p1], w5⟩), (q6, ⟨27, 1, [.vs 2 (Wq T_Belt.enc p2)], w6⟩)]) [])) ho6 ⟨hm1, hm2, ?_⟩ (by rintro _ _ _ _ ⟨h, _⟩ <;> cases h) ?_) ?_
  ·exact Vp ⟨rfl, rfl, rfl, rfl, rfl, rfl, trivial⟩
  ·rintro s5 os5 _ _ _ hF ⟨hls5_0, hls5_1, hw⟩
   unfold F_belts_Wait_1_L1 at hF
   refine Yd hw ?_
   refine Vi ?_
   refine Vd ?_
   refine Va (Zr rfl rfl) rfl ?_
   refine Vf ?_
   refine Vi ?_
   refine Xh rfl (fun c7 => ?_) (fun c7 => ?_)
   ·have hF := Yo c7 hF
    refine Xn ?_
    refine Vi ?_
    obtain ⟨o8, ho8, hF⟩ := Yt hF
    refine Vw (Q' := (fun o8 => OnlyE .normal (fun E' lw lc => m1 = (o8.1).length ∧ m2 = (o8.2).length ∧ Yb E' lw lc [(0, .ptr q0 w0 0 0), (1, .ptr q5 w5 0 0), (2, .ptr q6 w6 0 0), (14, .sl q1 w1 0 m1), (15, .int .i64 ((p0.States).length : Int)), (16, .int .i64 s5.1)] (setL low0 [(q0, ⟨34, 5, [.agg [.int .i64 p1, .sl q1 w1 0 m1, .sl q2 w2 0 m2, .sl q3 w3 0 m3, .sl q4 w4 0 m4]], w0⟩), (q1, ⟨3, 1, Wq (Wr .i64) o8.1, w1⟩), (q2, ⟨3, 1, Wq (Wr .i64) o8.2, w2⟩), (q3, ⟨4, 1, Wq Ws p0.Pulled, w3⟩), (q4, ⟨4, 1, Wq Ws p0.Held, w4⟩), (q5, ⟨3, 1, [.int .i64 p1], w5⟩), (q6, ⟨27, 1, [.vs 2 (Wq T_Belt.enc p2)], w6⟩)]) [])) o8) ?_ ?_
    ·replace hF := ho8
     refine Yh ?_
     refine Vi ?_
     refine Vd ?_
     obtain ⟨x9, h10, hF⟩ := Yt hF
     refine Va (Vk rfl) rfl ?_
     refine Va (Wa rfl hls5_0 rfl (Yw hB rfl 1 rfl) h10 te_22 ts_3) rfl ?_
     refine Va (rd_ldL1 rfl (Yw hB rfl 1 rfl) (Zb h10).2 ta_3 rfl) rfl ?_
     refine Va (Xa rfl) rfl ?_
     refine Va (Xa rfl) rfl ?_
     refine Vf ?_
     refine Vi ?_
     obtain ⟨x11, h12, hF⟩ := Yt hF
     obtain ⟨x13, h14, hF⟩ := Yt hF
     refine Zk [[], [0], [0, 1], [0, 1, 2], [], [0, 1, 2, 3, 4], [0, 1, 2, 3, 4, 5], [], [], [7, 8], [7, 8, 9], [7, 8, 9, 10], [0, 1, 2, 3, 4, 5, 6, 7, 8, 9, 10, 11], [0, 1, 2, 3, 4, 5, 6, 7, 8, 9, 10, 11, 12]] mixed (by kernel_rfl) rfl ?_
     refine Ym rfl rfl (Zq rfl) ?_
     refine Ym rfl rfl (Zv rfl) ?_
     refine Ym rfl rfl (Vc rfl tf_34_2 ts_22 (by decide)) ?_
     refine Ym rfl rfl (Vg rfl (Yw hB rfl 0 rfl) rfl ta_22 rfl) ?_
     refine Ym rfl rfl (Vk rfl) ?_
     refine Ym rfl rfl (Wa rfl hls5_1 rfl (Yw hB rfl 2 rfl) h12 te_22 ts_3) ?_
     refine Ym rfl rfl (rd_ldL1 rfl (Yw hB rfl 2 rfl) (Zb h12).2 ta_3 rfl) ?_
     refine Ym rfl rfl (Vg rfl (Yw hB rfl 6 rfl) rfl ta_27 rfl) ?_
     refine Ym rfl rfl (Vk rfl) ?_
     refine Ym rfl rfl (Xk (Yl rfl rfl h14 te_27 ts_31) (v' := .vptr [.int .i64 x13.Onto, .int .i64 x13.Warn] 0) rfl) ?_
     refine Ym rfl rfl (Yf rfl tf_31_1 ts_3 (by decide)) ?_
     refine Ym rfl rfl (Xj rfl ta_3 rfl) ?_
     refine Ym rfl rfl (Wk rfl rfl rfl) ?_
     refine Ym rfl rfl (Xa rfl) ?_
     refine Yz ?_
     refine Vi ?_
     obtain ⟨o15, ho15, hF⟩ := Yt hF
     refine Vw (Q' := (fun o15 => OnlyE .normal (fun E' lw lc => Yb E' lw lc [(0, .ptr q0 w0 0 0), (1, .ptr q5 w5 0 0), (2, .ptr q6 w6 0 0), (4, .int .i64 s5.1), (6, .int .i64 (IntKind.i64.wrap (x11 + x13.Warn))), (14, .sl q1 w1 0 m1), (15, .int .i64 ((p0.States).length : Int)), (16, .int .i64 s5.1), (40, .bool o15)] (setL low0 [(q0, ⟨34, 5, [.agg [.int .i64 p1, .sl q1 w1 0 m1, .sl q2 w2 0 m2, .sl q3 w3 0 m3, .sl q4 w4 0 m4]], w0⟩), (q1, ⟨3, 1, Wq (Wr .i64) s5.2.1, w1⟩), (q2, ⟨3, 1, Wq (Wr .i64) s5.2.2, w2⟩), (q3, ⟨4, 1, Wq Ws p0.Pulled, w3⟩), (q4, ⟨4, 1, Wq Ws p0.Held, w4⟩), (q5, ⟨3, 1, [.int .i64 p1], w5⟩), (q6, ⟨27, 1, [.vs 2 (Wq T_Belt.enc p2)], w6⟩)]) [])) o15) ?_ ?_
     ·replace hF := ho15
      refine Vd ?_
      rcases Ww (decide (x9 = 1)) with c16 | c16
      ·have hF := Yo c16 hF
       refine Va (Vk rfl) rfl ?_
       refine Va (Xl rfl rfl) rfl ?_
       refine Va (Vm rfl) rfl ?_
       refine Xd rfl rfl c16 ?_
       refine Va (Vk rfl) rfl ?_
       refine Xd rfl rfl c16 ?_
       refine Va (Vg rfl (Yw hB rfl 5 rfl) rfl ta_3 rfl) rfl ?_
       refine Xd rfl rfl c16 ?_
       refine Va (rd_leq rfl rfl) rfl ?_
       refine Va (Vo (congrArg Ws c16) rfl) rfl ?_
       refine Vf ?_
       obtain rfl := Wt hF
       refine Xy ?_
       exact Vp ⟨rfl, rfl, rfl, rfl, rfl, rfl, rfl, rfl, rfl, trivial⟩
      ·have hF := Yp c16 hF
       refine Va (Vk rfl) rfl ?_
       refine Va (Xl rfl rfl) rfl ?_
       refine Va (Vm rfl) rfl ?_
       refine Vb rfl rfl (Zz c16) rfl ?_
       refine Vb rfl rfl (Zz c16) rfl ?_
       refine Vb rfl rfl (Zz c16) rfl ?_
       refine Va (Vn (congrArg Ws c16) rfl) rfl ?_
       refine Vf ?_
       obtain rfl := Wt hF
       refine Xy ?_
       exact Vp ⟨rfl, rfl, rfl, rfl, rfl, rfl, rfl, rfl, rfl, trivial⟩
     ·rintro _ _ _ _ ⟨rfl, hw⟩
      refine ⟨_, _, _, hw, ?_⟩
      refine Xh rfl (fun c17 => ?_) (fun c17 => ?_)
      ·have hF := Yo c17 hF
       obtain ⟨x18, h19, hF⟩ := Yt hF
       obtain ⟨x20, h21, hF⟩ := Yt hF
       refine Wc [[], [0], [0, 1], [0, 1, 2], [], [], [5], [5, 6], [5, 6, 7], [], [], [0, 1, 2, 3, 4, 5, 6, 7, 8], [0, 1, 2, 3, 4, 5, 6, 7, 8, 11], [0, 1, 2, 3, 4, 5, 6, 7, 8, 9, 10, 11, 12], [0, 1, 2, 3, 4, 5, 6, 7, 8, 9, 10, 11, 12, 13]] [false, false, false, false, false, false, false, false, false, false, false, false, true, false, true] [((setL low0 [(q0, ⟨34, 5, [.agg [.int .i64 p1, .sl q1 w1 0 m1, .sl q2 w2 0 m2, .sl q3 w3 0 m3, .sl q4 w4 0 m4]], w0⟩), (q1, ⟨3, 1, Wq (Wr .i64) s5.2.1, w1⟩), (q2, ⟨3, 1, Wq (Wr .i64) s5.2.2, w2⟩), (q3, ⟨4, 1, Wq Ws p0.Pulled, w3⟩), (q4, ⟨4, 1, Wq Ws p0.Held, w4⟩), (q5, ⟨3, 1, [.int .i64 p1], w5⟩), (q6, ⟨27, 1, [.vs 2 (Wq T_Belt.enc p2)], w6⟩)]), []), ((setL low0 [(q0, ⟨34, 5, [.agg [.int .i64 p1, .sl q1 w1 0 m1, .sl q2 w2 0 m2, .sl q3 w3 0 m3, .sl q4 w4 0 m4]], w0⟩), (q1, ⟨3, 1, Wq (Wr .i64) (s5.2.1.set ((s5.1).toNat) 2), w1⟩), (q2, ⟨3, 1, Wq (Wr .i64) s5.2.2, w2⟩), (q3, ⟨4, 1, Wq Ws p0.Pulled, w3⟩), (q4, ⟨4, 1, Wq Ws p0.Held, w4⟩), (q5, ⟨3, 1, [.int .i64 p1], w5⟩), (q6, ⟨27, 1, [.vs 2 (Wq T_Belt.enc p2)], w6⟩)]), []), ((setL low0 [(q0, ⟨34, 5, [.agg [.int .i64 p1, .sl q1 w1 0 m1, .sl q2 w2 0 m2, .sl q3 w3 0 m3, .sl q4 w4 0 m4]], w0⟩), (q1, ⟨3, 1, Wq (Wr .i64) (s5.2.1.set ((s5.1).toNat) 2), w1⟩), (q2, ⟨3, 1, Wq (Wr .i64) (s5.2.2.set ((s5.1).toNat) (IntKind.i64.wrap (x11 + x13.Warn))), w2⟩), (q3, ⟨4, 1, Wq Ws p0.Pulled, w3⟩), (q4, ⟨4, 1, Wq Ws p0.Held, w4⟩), (q5, ⟨3, 1, [.int .i64 p1], w5⟩), (q6, ⟨27, 1, [.vs 2 (Wq T_Belt.enc p2)], w6⟩)]), [])] mixed (by kernel_rfl) rfl (lenAll (Xx Xo (Xx Xo (Xx Xo Zn)))) rfl _ rfl rfl ?_
       refine Ym rfl rfl (Zq rfl) ?_
       refine Ym rfl rfl (Zv rfl) ?_
       refine Ym rfl rfl (Vc rfl tf_34_1 ts_22 (by decide)) ?_
       refine Ym rfl rfl (Vg rfl (Yw hB rfl 0 rfl) rfl ta_22 rfl) ?_
       refine Ym rfl rfl (Vk rfl) ?_
       refine Ym rfl rfl (Zq rfl) ?_
       refine Ym rfl rfl (Zv rfl) ?_
       refine Ym rfl rfl (Vc rfl tf_34_2 ts_22 (by decide)) ?_
       refine Ym rfl rfl (Vg rfl (Yw hB rfl 0 rfl) rfl ta_22 rfl) ?_
       refine Yi _ rfl rfl (Xx (VRd.ntl (Vk rfl)) (Xx (VRd.ntl (Vk rfl)) Zn)) ?_
       refine Yi _ rfl rfl (Xx (VRd.ntl (Vk rfl)) (Xx (VRd.ntl (Vk rfl)) Zn)) ?_
       refine Ym rfl rfl (Wa rfl hls5_0 rfl (Yw hB rfl 1 rfl) h19 te_22 ts_3) ?_
       refine Zh rfl rfl rfl (Wl (p := .int .i64 2) (e' := 2) rfl (Yw hB rfl 1 rfl) (Zb h19).2 rfl ts_3 rfl (Ye rfl) (Wu rfl) rfl (setO_B hB rfl 1 rfl (Vh (fun _ => .int _ _)) rfl)) ?_
       refine Ym rfl rfl (Wa rfl hls5_1 rfl (Yw hB rfl 2 rfl) h21 te_22 ts_3) ?_
       refine Zh rfl rfl rfl (Wl (p := .int .i64 (IntKind.i64.wrap (x11 + x13.Warn))) (e' := (IntKind.i64.wrap (x11 + x13.Warn))) rfl (Yw hB rfl 2 rfl) (Zb h21).2 rfl ts_3 rfl (Ye rfl) (Wu rfl) rfl (setO_B hB rfl 2 rfl (Vh (fun _ => .int _ _)) rfl)) ?_
       refine Yz ?_
       obtain rfl := Wt hF
       refine And.intro rfl (And.intro (Eq.trans hls5_0 List.length_set.symm) (And.intro (Eq.trans hls5_1 List.length_set.symm) ?_))
       exact Vp ⟨rfl, rfl, rfl, rfl, rfl, rfl, trivial⟩
      ·have hF := Yp c17 hF
       refine Xn ?_
       obtain rfl := Wt hF
       refine And.intro rfl (And.intro hls5_0 (And.intro hls5_1 ?_))
       exact Vp ⟨rfl, rfl, rfl, rfl, rfl, rfl, trivial⟩
    ·rintro _ _ _ _ ⟨rfl, hl22, hl23, hw⟩
     refine ⟨_, _, _, hw, ?_⟩
     refine Vd ?_
     refine Va (Wk rfl rfl rfl) rfl ?_
     refine Va (Vk rfl) rfl ?_
     refine Vf ?_
     obtain rfl := Wt hF
     refine And.intro rfl (And.intro hl22 (And.intro hl23 ?_))
     exact Vp ⟨rfl, rfl, rfl, rfl, rfl, rfl, trivial⟩
   ·have hF := Yp c7 hF
    refine Wi ?_
    obtain rfl := Wt hF
    refine And.intro rfl (And.intro hls5_0 (And.intro hls5_1 ?_))
    exact Vp trivial
  ·rintro _ _ _ _ ⟨rfl, hl24, hl25, hw⟩
   refine ⟨_, _, _, hw, ?_⟩
   obtain rfl := Wt hF
   refine And.intro (.inl rfl) (And.intro hl24 (And.intro hl25 (And.intro hm3 (And.intro hm4 ?_))))
   exact Vp trivial
 ·rintro _ _ _ _ ⟨he, hl1, hl2, hl3, hl4, hw⟩
  refine ⟨_, _, _, hw, ?_⟩
  exact Zd he [] trivial ((lt_tup trivial)) ⟨rfl, (List.append_nil _).symm⟩

theorem F_belts_Wait_1_len {p0 : T_Line} {p1 : Int} {p2 : List T_Belt} {r : T_Line} (hF : F_belts_Wait_1 p0 p1 p2 = some r) {m1 : Nat} (hm1 : m1 = (p0.States).length) {m2 : Nat} (hm2 : m2 = (p0.Since).length) {m3 : Nat} (hm3 : m3 = (p0.Pulled).length) {m4 : Nat} (hm4 : m4 = (p0.Held).length) : m1 = (r.States).length ∧ m2 = (r.Since).length ∧ m3 = (r.Pulled).length ∧ m4 = (r.Held).length ∧ True := by
  have h : LP (F_belts_Wait_1 p0 p1 p2) (fun r => m1 = (r.States).length ∧ m2 = (r.Since).length ∧ m3 = (r.Pulled).length ∧ m4 = (r.Held).length ∧ True) := by
    unfold F_belts_Wait_1
    exact (lp_bind (Q := fun o6 => m1 = (o6.1).length ∧ m2 = (o6.2).length ∧ True) (lp_loop (fun s5 => m1 = (s5.2.1).length ∧ m2 = (s5.2.2).length ∧ True) ⟨hm1, hm2, trivial⟩ (fun s5 ⟨hls5_0, hls5_1, _⟩ => by unfold F_belts_Wait_1_L1; exact (lp_bif (fun c7 => lp_bind (Q := fun o8 => m1 = (o8.1).length ∧ m2 = (o8.2).length ∧ True) (Wn fun x9 h10 => Wn fun x11 h12 => Wn fun x13 h14 => lp_bind (Q := fun o15 => True) (lp_bif (fun c16 => Wm trivial) (fun c16 => Wm trivial)) (fun o15 _ => lp_bif (fun c17 => Wn fun x18 h19 => Wn fun x20 h21 => Wm ⟨(Eq.trans hls5_0 List.length_set.symm), (Eq.trans hls5_1 List.length_set.symm), trivial⟩) (fun c17 => Wm ⟨hls5_0, hls5_1, trivial⟩))) (fun o8 ⟨hl22, hl23, _⟩ => Wm ⟨hl22, hl23, trivial⟩)) (fun c7 => Wm ⟨hls5_0, hls5_1, trivial⟩)))) (fun o6 ⟨hl24, hl25, _⟩ => Wm ⟨hl24, hl25, hm3, hm4, trivial⟩))
  exact h r hF

theorem F_belts_Wait_1_ok {p0 : T_Line} {p1 : Int} {p2 : List T_Belt} {r : T_Line} (hF : F_belts_Wait_1 p0 p1 p2 = some r) {low : List AObj} {q0 q1 q2 q3 q4 q5 q6 w0 w1 w2 w3 w4 w5 w6 : Nat} (hnd : [q0, q1, q2, q3, q4, q5, q6].Nodup) {m1 : Nat} (hm1 : m1 = (p0.States).length) {m2 : Nat} (hm2 : m2 = (p0.Since).length) {m3 : Nat} (hm3 : m3 = (p0.Pulled).length) {m4 : Nat} (hm4 : m4 = (p0.Held).length) (hq0 : low[q0]? = some ⟨34, 5, [.agg [.int .i64 p0.Time, .sl q1 w1 0 m1, .sl q2 w2 0 m2, .sl q3 w3 0 m3, .sl q4 w4 0 m4]], w0⟩) (hq1 : low[q1]? = some ⟨3, 1, Wq (Wr .i64) p0.States, w1⟩) (hq2 : low[q2]? = some ⟨3, 1, Wq (Wr .i64) p0.Since, w2⟩) (hq3 : low[q3]? = some ⟨4, 1, Wq Ws p0.Pulled, w3⟩) (hq4 : low[q4]? = some ⟨4, 1, Wq Ws p0.Held, w4⟩) (hq5 : low[q5]? = some ⟨3, 1, [.int .i64 p1], w5⟩) (hq6 : low[q6]? = some ⟨27, 1, [.vs 2 (Wq T_Belt.enc p2)], w6⟩) {n : Nat} (hn : low.length = n) :
    Ys Try.prog 34 [.ptr q0 w0 0 0, .ptr q5 w5 0 0, .ptr q6 w6 0 0] low fun x low' => x = .tup [] ∧ low' = setL low [(q0, ⟨34, 5, [.agg [.int .i64 r.Time, .sl q1 w1 0 m1, .sl q2 w2 0 m2, .sl q3 w3 0 m3, .sl q4 w4 0 m4]], w0⟩), (q1, ⟨3, 1, Wq (Wr .i64) r.States, w1⟩), (q2, ⟨3, 1, Wq (Wr .i64) r.Since, w2⟩), (q3, ⟨4, 1, Wq Ws r.Pulled, w3⟩), (q4, ⟨4, 1, Wq Ws r.Held, w4⟩), (q5, ⟨3, 1, [.int .i64 p1], w5⟩), (q6, ⟨27, 1, [.vs 2 (Wq T_Belt.enc p2)], w6⟩)] ++ [] := by
  obtain ⟨h1, h2⟩ := We (ps := [(q0, ⟨34, 5, [.agg [.int .i64 p0.Time, .sl q1 w1 0 m1, .sl q2 w2 0 m2, .sl q3 w3 0 m3, .sl q4 w4 0 m4]], w0⟩), (q1, ⟨3, 1, Wq (Wr .i64) p0.States, w1⟩), (q2, ⟨3, 1, Wq (Wr .i64) p0.Since, w2⟩), (q3, ⟨4, 1, Wq Ws p0.Pulled, w3⟩), (q4, ⟨4, 1, Wq Ws p0.Held, w4⟩), (q5, ⟨3, 1, [.int .i64 p1], w5⟩), (q6, ⟨27, 1, [.vs 2 (Wq T_Belt.enc p2)], w6⟩)]) hnd (Wf hq0 (Wf hq1 (Wf hq2 (Wf hq3 (Wf hq4 (Wf hq5 (Wf hq6 bor0)))))))
  exact Zx h1 (F_belts_Wait_1_ok0 hF h2 hm1 hm2 hm3 hm4 hn)

theorem F_belts_done__belts_Wait_1_ok0 {p0 : T_Line} {pc10 : Int} {pc11 : List T_Belt} {r : T_Line} (hF : F_belts_done__belts_Wait_1 p0 pc10 pc11 = some r) {low0 : List AObj} {q0 q1 w0 w1 : Nat} (hB : Bor low0 [q0, q1]) {n : Nat} (hn : low0.length = n) :
    Ys Try.prog 31 [.agg [.int .i64 p0.Time, .vs 1 (Wq (Wr .i64) p0.States), .vs 1 (Wq (Wr .i64) p0.Since), .vs 1 (Wq Ws p0.Pulled), .vs 1 (Wq Ws p0.Held)], .fn 34 [] [.ptr q0 w0 0 0, .ptr q1 w1 0 0]] (setL low0 [(q0, ⟨3, 1, [.int .i64 pc10], w0⟩), (q1, ⟨27, 1, [.vs 2 (Wq T_Belt.enc pc11)], w1⟩)]) fun x low' => x = .agg [.int .i64 r.Time, .sl (n + 0) 0 0 (r.States).length, .sl (n + 1) 0 0 (r.Since).length, .sl (n + 2) 0 0 (r.Pulled).length, .vs 1 (Wq Ws r.Held)] ∧ low' = setL low0 [(q0, ⟨3, 1, [.int .i64 pc10], w0⟩), (q1, ⟨27, 1, [.vs 2 (Wq T_Belt.enc pc11)], w1⟩)] ++ [⟨3, 1, Wq (Wr .i64) r.States, 0⟩, ⟨3, 1, Wq (Wr .i64) r.Since, 0⟩, ⟨4, 1, Wq Ws r.Pulled, 0⟩] := by
 refine Vz (nt := 24) (rs := [.cell 4 34]) Try.func31 rfl rfl (Wu rfl) rfl ?_
 have hq0 : q0 < n := hB.ltN hn 0 rfl
 have hq1 : q1 < n := hB.ltN hn 1 rfl
 refine Vw (Q' := FnE (fun E' lw lc => Yb E' lw lc [(4, .ptr (n + 3) 0 0 0)] (setL low0 [(q0, ⟨3, 1, [.int .i64 pc10], w0⟩), (q1, ⟨27, 1, [.vs 2 (Wq T_Belt.enc pc11)], w1⟩)]) [⟨3, 1, Wq (Wr .i64) r.States, 0⟩, ⟨3, 1, Wq (Wr .i64) r.Since, 0⟩, ⟨4, 1, Wq Ws r.Pulled, 0⟩, ⟨34, 5, [.agg [.int .i64 r.Time, .sl (n + 0) 0 0 (r.States).length, .sl (n + 1) 0 0 (r.Since).length, .sl (n + 2) 0 0 (r.Pulled).length, .vs 1 (Wq Ws r.Held)]], 0⟩])) ?_ ?_
 ·unfold F_belts_done__belts_Wait_1 at hF
  refine Vi ?_
  refine Vd ?_
  refine Vj (Zc (Vs hn) rfl (v := .agg [.int .i64 p0.Time, .vs 1 (Wq (Wr .i64) p0.States), .vs 1 (Wq (Wr .i64) p0.Since), .vs 1 (Wq Ws p0.Pulled), .vs 1 (Wq Ws p0.Held)]) rfl rfl (Wv _) rfl rfl) rfl ?_
  refine Vj (Xe (Vs hn) rfl tz_34 rfl rfl (Wv _) rfl) rfl ?_
  refine Vf ?_
  refine Vi ?_
  obtain ⟨x1, h2, hF⟩ := Yt hF
  obtain ⟨x3, h4, hF⟩ := Yt hF
  obtain ⟨x5, h6, hF⟩ := Yt hF
  obtain ⟨x7, h8, hF⟩ := Yt hF
  refine Yd (Yy 3 1 (Wv _)) ?_
  refine Yd (Yy 3 1 (Wv _)) ?_
  refine Yd (Yy 4 1 (Wv _)) ?_
  refine Yd (Yy 4 1 (Wv _)) ?_
  refine Yd (Yy 34 5 (Wv _)) ?_
  refine vwp_drawnX [[], [0], [], [2], [2, 3], [], [5], [2, 3, 4, 5, 6], [], [8], [2, 3, 4, 5, 6, 7, 8, 9], [], [11], [2, 3, 4, 5, 6, 7, 8, 9, 10, 11, 12], [0, 1, 2, 3, 4, 5, 6, 7, 8, 9, 10, 11, 12, 13], [], [0, 1, 2, 3, 4, 5, 6, 7, 8, 9, 10, 11, 12, 13, 14, 15]] [false, false, false, false, true, false, false, true, false, false, true, false, false, true, false, true, true] [([], (setL low0 [(q0, ⟨3, 1, [.int .i64 pc10], w0⟩), (q1, ⟨27, 1, [.vs 2 (Wq T_Belt.enc pc11)], w1⟩)]), [⟨34, 5, [.agg [.int .i64 p0.Time, .vs 1 (Wq (Wr .i64) p0.States), .vs 1 (Wq (Wr .i64) p0.Since), .vs 1 (Wq Ws p0.Pulled), .vs 1 (Wq Ws p0.Held)]], 0⟩, ⟨34, 5, [.agg [.int .i64 0, .nils, .nils, .nils, .nils]], 0⟩, ⟨3, 1, [], 0⟩, ⟨3, 1, [], 0⟩, ⟨4, 1, [], 0⟩, ⟨4, 1, [], 0⟩, ⟨34, 5, [], 0⟩]), ([4], (setL low0 [(q0, ⟨3, 1, [.int .i64 pc10], w0⟩), (q1, ⟨27, 1, [.vs 2 (Wq T_Belt.enc pc11)], w1⟩)]), [⟨34, 5, [.agg [.int .i64 p0.Time, .vs 1 (Wq (Wr .i64) p0.States), .vs 1 (Wq (Wr .i64) p0.Since), .vs 1 (Wq Ws p0.Pulled), .vs 1 (Wq Ws p0.Held)]], 0⟩, ⟨34, 5, [.agg [.int .i64 0, .nils, .nils, .nils, .nils]], 0⟩, ⟨3, 1, Wq (Wr .i64) x1, 1⟩, ⟨3, 1, [], 0⟩, ⟨4, 1, [], 0⟩, ⟨4, 1, [], 0⟩, ⟨34, 5, [], 0⟩]), ([15], (setL low0 [(q0, ⟨3, 1, [.int .i64 pc10], w0⟩), (q1, ⟨27, 1, [.vs 2 (Wq T_Belt.enc pc11)], w1⟩)]), [⟨34, 5, [.agg [.int .i64 p0.Time, .vs 1 (Wq (Wr .i64) p0.States), .vs 1 (Wq (Wr .i64) p0.Since), .vs 1 (Wq Ws p0.Pulled), .vs 1 (Wq Ws p0.Held)]], 0⟩, ⟨34, 5, [.agg [.int .i64 0, .nils, .nils, .nils, .nils]], 0⟩, ⟨3, 1, [], 0⟩, ⟨3, 1, [], 0⟩, ⟨4, 1, [], 0⟩, ⟨4, 1, [], 0⟩, ⟨34, 5, [.agg [.int .i64 0, .nils, .nils, .nils, .nils]], 1⟩]), ([4, 7], (setL low0 [(q0, ⟨3, 1, [.int .i64 pc10], w0⟩), (q1, ⟨27, 1, [.vs 2 (Wq T_Belt.enc pc11)], w1⟩)]), [⟨34, 5, [.agg [.int .i64 p0.Time, .vs 1 (Wq (Wr .i64) p0.States), .vs 1 (Wq (Wr .i64) p0.Since), .vs 1 (Wq Ws p0.Pulled), .vs 1 (Wq Ws p0.Held)]], 0⟩, ⟨34, 5, [.agg [.int .i64 0, .nils, .nils, .nils, .nils]], 0⟩, ⟨3, 1, Wq (Wr .i64) x1, 1⟩, ⟨3, 1, Wq (Wr .i64) x3, 1⟩, ⟨4, 1, [], 0⟩, ⟨4, 1, [], 0⟩, ⟨34, 5, [], 0⟩]), ([4, 15], (setL low0 [(q0, ⟨3, 1, [.int .i64 pc10], w0⟩), (q1, ⟨27, 1, [.vs 2 (Wq T_Belt.enc pc11)], w1⟩)]), [⟨34, 5, [.agg [.int .i64 p0.Time, .vs 1 (Wq (Wr .i64) p0.States), .vs 1 (Wq (Wr .i64) p0.Since), .vs 1 (Wq Ws p0.Pulled), .vs 1 (Wq Ws p0.Held)]], 0⟩, ⟨34, 5, [.agg [.int .i64 0, .nils, .nils, .nils, .nils]], 0⟩, ⟨3, 1, Wq (Wr .i64) x1, 1⟩, ⟨3, 1, [], 0⟩, ⟨4, 1, [], 0⟩, ⟨4, 1, [], 0⟩, ⟨34, 5, [.agg [.int .i64 0, .nils, .nils, .nils, .nils]], 1⟩]), ([4, 7, 10], (setL low0 [(q0, ⟨3, 1, [.int .i64 pc10], w0⟩), (q1, ⟨27, 1, [.vs 2 (Wq T_Belt.enc pc11)], w1⟩)]), [⟨34, 5, [.agg [.int .i64 p0.Time, .vs 1 (Wq (Wr .i64) p0.States), .vs 1 (Wq (Wr .i64) p0.Since), .vs 1 (Wq Ws p0.Pulled), .vs 1 (Wq Ws p0.Held)]], 0⟩, ⟨34, 5, [.agg [.int .i64 0, .nils, .nils, .nils, .nils]], 0⟩, ⟨3, 1, Wq (Wr .i64) x1, 1⟩, ⟨3, 1, Wq (Wr .i64) x3, 1⟩, ⟨4, 1, Wq Ws x5, 1⟩, ⟨4, 1, [], 0⟩, ⟨34, 5, [], 0⟩]), ([4, 7, 15], (setL low0 [(q0, ⟨3, 1, [.int .i64 pc10], w0⟩), (q1, ⟨27, 1, [.vs 2 (Wq T_Belt.enc pc11)], w1⟩)]), [⟨34, 5, [.agg [.int .i64 p0.Time, .vs 1 (Wq (Wr .i64) p0.States), .vs 1 (Wq (Wr .i64) p0.Since), .vs 1 (Wq Ws p0.Pulled), .vs 1 (Wq Ws p0.Held)]], 0⟩, ⟨34, 5, [.agg [.int .i64 0, .nils, .nils, .nils, .nils]], 0⟩, ⟨3, 1, Wq (Wr .i64) x1, 1⟩, ⟨3, 1, Wq (Wr .i64) x3, 1⟩, ⟨4, 1, [], 0⟩, ⟨4, 1, [], 0⟩, ⟨34, 5, [.agg [.int .i64 0, .nils, .nils, .nils, .nils]], 1⟩]), ([4, 7, 10, 13], (setL low0 [(q0, ⟨3, 1, [.int .i64 pc10], w0⟩), (q1, ⟨27, 1, [.vs 2 (Wq T_Belt.enc pc11)], w1⟩)]), [⟨34, 5, [.agg [.int .i64 p0.Time, .vs 1 (Wq (Wr .i64) p0.States), .vs 1 (Wq (Wr .i64) p0.Since), .vs 1 (Wq Ws p0.Pulled), .vs 1 (Wq Ws p0.Held)]], 0⟩, ⟨34, 5, [.agg [.int .i64 0, .nils, .nils, .nils, .nils]], 0⟩, ⟨3, 1, Wq (Wr .i64) x1, 1⟩, ⟨3, 1, Wq (Wr .i64) x3, 1⟩, ⟨4, 1, Wq Ws x5, 1⟩, ⟨4, 1, Wq Ws x7, 1⟩, ⟨34, 5, [], 0⟩]), ([4, 7, 10, 15], (setL low0 [(q0, ⟨3, 1, [.int .i64 pc10], w0⟩), (q1, ⟨27, 1, [.vs 2 (Wq T_Belt.enc pc11)], w1⟩)]), [⟨34, 5, [.agg [.int .i64 p0.Time, .vs 1 (Wq (Wr .i64) p0.States), .vs 1 (Wq (Wr .i64) p0.Since), .vs 1 (Wq Ws p0.Pulled), .vs 1 (Wq Ws p0.Held)]], 0⟩, ⟨34, 5, [.agg [.int .i64 0, .nils, .nils, .nils, .nils]], 0⟩, ⟨3, 1, Wq (Wr .i64) x1, 1⟩, ⟨3, 1, Wq (Wr .i64) x3, 1⟩, ⟨4, 1, Wq Ws x5, 1⟩, ⟨4, 1, [], 0⟩, ⟨34, 5, [.agg [.int .i64 0, .nils, .nils, .nils, .nils]], 1⟩]), ([4, 7, 10, 13, 15], (setL low0 [(q0, ⟨3, 1, [.int .i64 pc10], w0⟩), (q1, ⟨27, 1, [.vs 2 (Wq T_Belt.enc pc11)], w1⟩)]), [⟨34, 5, [.agg [.int .i64 p0.Time, .vs 1 (Wq (Wr .i64) p0.States), .vs 1 (Wq (Wr .i64) p0.Since), .vs 1 (Wq Ws p0.Pulled), .vs 1 (Wq Ws p0.Held)]], 0⟩, ⟨34, 5, [.agg [.int .i64 0, .nils, .nils, .nils, .nils]], 0⟩, ⟨3, 1, Wq (Wr .i64) x1, 1⟩, ⟨3, 1, Wq (Wr .i64) x3, 1⟩, ⟨4, 1, Wq Ws x5, 1⟩, ⟨4, 1, Wq Ws x7, 1⟩, ⟨34, 5, [.agg [.int .i64 0, .nils, .nils, .nils, .nils]], 1⟩]), ([4, 7, 10, 13, 15, 16], (setL low0 [(q0, ⟨3, 1, [.int .i64 pc10], w0⟩), (q1, ⟨27, 1, [.vs 2 (Wq T_Belt.enc pc11)], w1⟩)]), [⟨34, 5, [.agg [.int .i64 p0.Time, .vs 1 (Wq (Wr .i64) p0.States), .vs 1 (Wq (Wr .i64) p0.Since), .vs 1 (Wq Ws p0.Pulled), .vs 1 (Wq Ws p0.Held)]], 0⟩, ⟨34, 5, [.agg [.int .i64 0, .nils, .nils, .nils, .nils]], 0⟩, ⟨3, 1, Wq (Wr .i64) x1, 1⟩, ⟨3, 1, Wq (Wr .i64) x3, 1⟩, ⟨4, 1, Wq Ws x5, 1⟩, ⟨4, 1, Wq Ws x7, 1⟩, ⟨34, 5, [.agg [.int .i64 p0.Time, .sl (n + 2) 1 0 (x1).length, .sl (n + 3) 1 0 (x3).length, .sl (n + 4) 1 0 (x5).length, .sl (n + 5) 1 0 (x7).length]], 1⟩])] mixed (by kernel_rfl) rfl (lenAllX (Yu Xo (Yu Xo (Yu Xo (Yu Xo (Yu Xo (Yu Xo (Yu Xo (Yu Xo (Yu Xo (Yu Xo (Yu Xo allx0)))))))))))) rfl [4, 7, 10, 13, 15, 16] ((setL low0 [(q0, ⟨3, 1, [.int .i64 pc10], w0⟩), (q1, ⟨27, 1, [.vs 2 (Wq T_Belt.enc pc11)], w1⟩)]), [⟨34, 5, [.agg [.int .i64 p0.Time, .vs 1 (Wq (Wr .i64) p0.States), .vs 1 (Wq (Wr .i64) p0.Since), .vs 1 (Wq Ws p0.Pulled), .vs 1 (Wq Ws p0.Held)]], 0⟩, ⟨34, 5, [.agg [.int .i64 0, .nils, .nils, .nils, .nils]], 0⟩, ⟨3, 1, Wq (Wr .i64) x1, 1⟩, ⟨3, 1, Wq (Wr .i64) x3, 1⟩, ⟨4, 1, Wq Ws x5, 1⟩, ⟨4, 1, Wq Ws x7, 1⟩, ⟨34, 5, [.agg [.int .i64 p0.Time, .sl (n + 2) 1 0 (x1).length, .sl (n + 3) 1 0 (x3).length, .sl (n + 4) 1 0 (x5).length, .sl (n + 5) 1 0 (x7).length]], 1⟩]) rfl rfl ?_
  refine Yc _ rfl rfl (Xs (VRd.ntl (Vc rfl tf_34_0 ts_3 (by decide))) (Xs (VRd.ntl (Vc rfl tf_34_0 ts_3 (by decide))) (Xs (VRd.ntl (Vc rfl tf_34_0 ts_3 (by decide))) (Xs (VRd.ntl (Vc rfl tf_34_0 ts_3 (by decide))) (Xs (VRd.ntl (Vc rfl tf_34_0 ts_3 (by decide))) (Xs (VRd.ntl (Vc rfl tf_34_0 ts_3 (by decide))) (Xs (VRd.ntl (Vc rfl tf_34_0 ts_3 (by decide))) (Xs (VRd.ntl (Vc rfl tf_34_0 ts_3 (by decide))) (Xs (VRd.ntl (Vc rfl tf_34_0 ts_3 (by decide))) (Xs (VRd.ntl (Vc rfl tf_34_0 ts_3 (by decide))) rx0)))))))))) ?_
  refine Yc _ rfl rfl (Xs (VRd.ntl (Vg rfl (Ve (Vs hn) rfl) rfl ta_3 rfl)) (Xs (VRd.ntl (Vg rfl (Ve (Vs hn) rfl) rfl ta_3 rfl)) (Xs (VRd.ntl (Vg rfl (Ve (Vs hn) rfl) rfl ta_3 rfl)) (Xs (VRd.ntl (Vg rfl (Ve (Vs hn) rfl) rfl ta_3 rfl)) (Xs (VRd.ntl (Vg rfl (Ve (Vs hn) rfl) rfl ta_3 rfl)) (Xs (VRd.ntl (Vg rfl (Ve (Vs hn) rfl) rfl ta_3 rfl)) (Xs (VRd.ntl (Vg rfl (Ve (Vs hn) rfl) rfl ta_3 rfl)) (Xs (VRd.ntl (Vg rfl (Ve (Vs hn) rfl) rfl ta_3 rfl)) (Xs (VRd.ntl (Vg rfl (Ve (Vs hn) rfl) rfl ta_3 rfl)) (Xs (VRd.ntl (Vg rfl (Ve (Vs hn) rfl) rfl ta_3 rfl)) rx0)))))))))) ?_
  refine Yc _ rfl rfl (Xs (VRd.ntl (Vc rfl tf_34_1 ts_22 (by decide))) (Xs (VRd.ntl (Vc rfl tf_34_1 ts_22 (by decide))) rx0)) ?_
  refine Yc _ rfl rfl (Xs (VRd.ntl (Vg rfl (Ve (Vs hn) rfl) rfl ta_22 rfl)) (Xs (VRd.ntl (Vg rfl (Ve (Vs hn) rfl) rfl ta_22 rfl)) rx0)) ?_
  refine Zf _ rfl rfl (Zy 1 rfl (Vu (f := 7) (k := 2) (m := 1) (os := [⟨3, 1, Wq (Wr .i64) x1, 0⟩]) (os' := [⟨3, 1, Wq (Wr .i64) x1, 1⟩]) (v := .sl (n + 7) 0 0 (x1).length) (Vs hn) rfl rfl ⟨⟨_, rfl, rfl⟩, trivial⟩ (Xg (r := .sl (n + 7) 0 0 (x1).length) (os := [⟨3, 1, Wq (Wr .i64) x1, 0⟩]) rfl Try.call54 (F_slices_Clone___int_int__ok h2 _ (Xi (Vs hn) rfl))) (Yk 0 rfl rfl rfl rfl) ⟨.same _ _ _ (Vh (fun _ => .int _ _)), trivial⟩ rfl) (Zy 4 rfl (Vu (f := 7) (k := 2) (m := 1) (os := [⟨3, 1, Wq (Wr .i64) x1, 0⟩]) (os' := [⟨3, 1, Wq (Wr .i64) x1, 1⟩]) (v := .sl (n + 7) 0 0 (x1).length) (Vs hn) rfl rfl ⟨⟨_, rfl, rfl⟩, trivial⟩ (Xg (r := .sl (n + 7) 0 0 (x1).length) (os := [⟨3, 1, Wq (Wr .i64) x1, 0⟩]) rfl Try.call54 (F_slices_Clone___int_int__ok h2 _ (Xi (Vs hn) rfl))) (Yk 0 rfl rfl rfl rfl) ⟨.same _ _ _ (Vh (fun _ => .int _ _)), trivial⟩ rfl) ex0)) ?_
  refine Yc _ rfl rfl (Xs (VRd.ntl (Vc rfl tf_34_2 ts_22 (by decide))) (Xs (VRd.ntl (Vc rfl tf_34_2 ts_22 (by decide))) (Xs (VRd.ntl (Vc rfl tf_34_2 ts_22 (by decide))) (Xs (VRd.ntl (Vc rfl tf_34_2 ts_22 (by decide))) rx0)))) ?_
  refine Yc _ rfl rfl (Xs (VRd.ntl (Vg rfl (Ve (Vs hn) rfl) rfl ta_22 rfl)) (Xs (VRd.ntl (Vg rfl (Ve (Vs hn) rfl) rfl ta_22 rfl)) (Xs (VRd.ntl (Vg rfl (Ve (Vs hn) rfl) rfl ta_22 rfl)) (Xs (VRd.ntl (Vg rfl (Ve (Vs hn) rfl) rfl ta_22 rfl)) rx0)))) ?_
  refine Zf _ rfl rfl (Zy 3 rfl (Vu (f := 7) (k := 3) (m := 1) (os := [⟨3, 1, Wq (Wr .i64) x3, 0⟩]) (os' := [⟨3, 1, Wq (Wr .i64) x3, 1⟩]) (v := .sl (n + 7) 0 0 (x3).length) (Vs hn) rfl rfl ⟨⟨_, rfl, rfl⟩, trivial⟩ (Xg (r := .sl (n + 7) 0 0 (x3).length) (os := [⟨3, 1, Wq (Wr .i64) x3, 0⟩]) rfl Try.call54 (F_slices_Clone___int_int__ok h4 _ (Xi (Vs hn) rfl))) (Yk 0 rfl rfl rfl rfl) ⟨.same _ _ _ (Vh (fun _ => .int _ _)), trivial⟩ rfl) (Zy 6 rfl (Vu (f := 7) (k := 3) (m := 1) (os := [⟨3, 1, Wq (Wr .i64) x3, 0⟩]) (os' := [⟨3, 1, Wq (Wr .i64) x3, 1⟩]) (v := .sl (n + 7) 0 0 (x3).length) (Vs hn) rfl rfl ⟨⟨_, rfl, rfl⟩, trivial⟩ (Xg (r := .sl (n + 7) 0 0 (x3).length) (os := [⟨3, 1, Wq (Wr .i64) x3, 0⟩]) rfl Try.call54 (F_slices_Clone___int_int__ok h4 _ (Xi (Vs hn) rfl))) (Yk 0 rfl rfl rfl rfl) ⟨.same _ _ _ (Vh (fun _ => .int _ _)), trivial⟩ rfl) ex0)) ?_
  refine Yc _ rfl rfl (Xs (VRd.ntl (Vc rfl tf_34_3 ts_32 (by decide))) (Xs (VRd.ntl (Vc rfl tf_34_3 ts_32 (by decide))) (Xs (VRd.ntl (Vc rfl tf_34_3 ts_32 (by decide))) (Xs (VRd.ntl (Vc rfl tf_34_3 ts_32 (by decide))) (Xs (VRd.ntl (Vc rfl tf_34_3 ts_32 (by decide))) (Xs (VRd.ntl (Vc rfl tf_34_3 ts_32 (by decide))) rx0)))))) ?_
  refine Yc _ rfl rfl (Xs (VRd.ntl (Vg rfl (Ve (Vs hn) rfl) rfl ta_32 rfl)) (Xs (VRd.ntl (Vg rfl (Ve (Vs hn) rfl) rfl ta_32 rfl)) (Xs (VRd.ntl (Vg rfl (Ve (Vs hn) rfl) rfl ta_32 rfl)) (Xs (VRd.ntl (Vg rfl (Ve (Vs hn) rfl) rfl ta_32 rfl)) (Xs (VRd.ntl (Vg rfl (Ve (Vs hn) rfl) rfl ta_32 rfl)) (Xs (VRd.ntl (Vg rfl (Ve (Vs hn) rfl) rfl ta_32 rfl)) rx0)))))) ?_
  refine Zf _ rfl rfl (Zy 5 rfl (Vu (f := 7) (k := 4) (m := 1) (os := [⟨4, 1, Wq Ws x5, 0⟩]) (os' := [⟨4, 1, Wq Ws x5, 1⟩]) (v := .sl (n + 7) 0 0 (x5).length) (Vs hn) rfl rfl ⟨⟨_, rfl, rfl⟩, trivial⟩ (Xg (r := .sl (n + 7) 0 0 (x5).length) (os := [⟨4, 1, Wq Ws x5, 0⟩]) rfl Try.call55 (F_slices_Clone___bool_bool__ok h6 _ (Xi (Vs hn) rfl))) (Yk 0 rfl rfl rfl rfl) ⟨.same _ _ _ (Vh (fun _ => .bool _)), trivial⟩ rfl) (Zy 8 rfl (Vu (f := 7) (k := 4) (m := 1) (os := [⟨4, 1, Wq Ws x5, 0⟩]) (os' := [⟨4, 1, Wq Ws x5, 1⟩]) (v := .sl (n + 7) 0 0 (x5).length) (Vs hn) rfl rfl ⟨⟨_, rfl, rfl⟩, trivial⟩ (Xg (r := .sl (n + 7) 0 0 (x5).length) (os := [⟨4, 1, Wq Ws x5, 0⟩]) rfl Try.call55 (F_slices_Clone___bool_bool__ok h6 _ (Xi (Vs hn) rfl))) (Yk 0 rfl rfl rfl rfl) ⟨.same _ _ _ (Vh (fun _ => .bool _)), trivial⟩ rfl) ex0)) ?_
  refine Yc _ rfl rfl (Xs (VRd.ntl (Vc rfl tf_34_4 ts_32 (by decide))) (Xs (VRd.ntl (Vc rfl tf_34_4 ts_32 (by decide))) (Xs (VRd.ntl (Vc rfl tf_34_4 ts_32 (by decide))) (Xs (VRd.ntl (Vc rfl tf_34_4 ts_32 (by decide))) (Xs (VRd.ntl (Vc rfl tf_34_4 ts_32 (by decide))) (Xs (VRd.ntl (Vc rfl tf_34_4 ts_32 (by decide))) (Xs (VRd.ntl (Vc rfl tf_34_4 ts_32 (by decide))) (Xs (VRd.ntl (Vc rfl tf_34_4 ts_32 (by decide))) rx0)))))))) ?_
  refine Yc _ rfl rfl (Xs (VRd.ntl (Vg rfl (Ve (Vs hn) rfl) rfl ta_32 rfl)) (Xs (VRd.ntl (Vg rfl (Ve (Vs hn) rfl) rfl ta_32 rfl)) (Xs (VRd.ntl (Vg rfl (Ve (Vs hn) rfl) rfl ta_32 rfl)) (Xs (VRd.ntl (Vg rfl (Ve (Vs hn) rfl) rfl ta_32 rfl)) (Xs (VRd.ntl (Vg rfl (Ve (Vs hn) rfl) rfl ta_32 rfl)) (Xs (VRd.ntl (Vg rfl (Ve (Vs hn) rfl) rfl ta_32 rfl)) (Xs (VRd.ntl (Vg rfl (Ve (Vs hn) rfl) rfl ta_32 rfl)) (Xs (VRd.ntl (Vg rfl (Ve (Vs hn) rfl) rfl ta_32 rfl)) rx0)))))))) ?_
  refine Zf _ rfl rfl (Zy 7 rfl (Vu (f := 7) (k := 5) (m := 1) (os := [⟨4, 1, Wq Ws x7, 0⟩]) (os' := [⟨4, 1, Wq Ws x7, 1⟩]) (v := .sl (n + 7) 0 0 (x7).length) (Vs hn) rfl rfl ⟨⟨_, rfl, rfl⟩, trivial⟩ (Xg (r := .sl (n + 7) 0 0 (x7).length) (os := [⟨4, 1, Wq Ws x7, 0⟩]) rfl Try.call55 (F_slices_Clone___bool_bool__ok h8 _ (Xi (Vs hn) rfl))) (Yk 0 rfl rfl rfl rfl) ⟨.same _ _ _ (Vh (fun _ => .bool _)), trivial⟩ rfl) (Zy 9 rfl (Vu (f := 7) (k := 5) (m := 1) (os := [⟨4, 1, Wq Ws x7, 0⟩]) (os' := [⟨4, 1, Wq Ws x7, 1⟩]) (v := .sl (n + 7) 0 0 (x7).length) (Vs hn) rfl rfl ⟨⟨_, rfl, rfl⟩, trivial⟩ (Xg (r := .sl (n + 7) 0 0 (x7).length) (os := [⟨4, 1, Wq Ws x7, 0⟩]) rfl Try.call55 (F_slices_Clone___bool_bool__ok h8 _ (Xi (Vs hn) rfl))) (Yk 0 rfl rfl rfl rfl) ⟨.same _ _ _ (Vh (fun _ => .bool _)), trivial⟩ rfl) ex0)) ?_
  refine Yc _ rfl rfl (Xs (VRd.ntl (Wh (vs := [(0, .int .i64 p0.Time), (1, .sl (n + 2) 1 0 (x1).length), (2, .sl (n + 3) 1 0 (x3).length), (3, .sl (n + 4) 1 0 (x5).length), (4, .sl (n + 5) 1 0 (x7).length)]) (ds := [.int .i64 p0.Time, .sl (n + 2) 1 0 (x1).length, .sl (n + 3) 1 0 (x3).length, .sl (n + 4) 1 0 (x5).length, .sl (n + 5) 1 0 (x7).length]) tz_34 rfl rfl tp_34 ⟨rfl, rfl, rfl, rfl, rfl, rfl, rfl, rfl, rfl, rfl, trivial⟩ (Wo rfl) rfl)) (Xs (VRd.ntl (Wh (vs := [(0, .int .i64 p0.Time), (1, .sl (n + 2) 1 0 (x1).length), (2, .sl (n + 3) 1 0 (x3).length), (3, .sl (n + 4) 1 0 (x5).length), (4, .sl (n + 5) 1 0 (x7).length)]) (ds := [.int .i64 p0.Time, .sl (n + 2) 1 0 (x1).length, .sl (n + 3) 1 0 (x3).length, .sl (n + 4) 1 0 (x5).length, .sl (n + 5) 1 0 (x7).length]) tz_34 rfl rfl tp_34 ⟨rfl, rfl, rfl, rfl, rfl, rfl, rfl, rfl, rfl, rfl, trivial⟩ (Wo rfl) rfl)) rx0)) ?_
  refine Zf _ rfl rfl (Zy 2 rfl (Vu (f := 7) (k := 6) (m := 1) (os := [⟨34, 5, [.agg [.int .i64 0, .nils, .nils, .nils, .nils]], 0⟩]) (os' := [⟨34, 5, [.agg [.int .i64 0, .nils, .nils, .nils, .nils]], 1⟩]) (v := .ptr (n + 7) 0 0 0) (Vs hn) rfl rfl ⟨⟨_, rfl, rfl⟩, trivial⟩ (Xe (Vs hn) rfl tz_34 rfl rfl (Wv _) rfl) (Wj 0 rfl rfl rfl rfl) ⟨.same _ _ _ (Xt ⟨(Xw ⟨.int _ _, .nils, .nils, .nils, .nils, trivial⟩), trivial⟩), trivial⟩ rfl) (Zy 4 rfl (Vu (f := 7) (k := 6) (m := 1) (os := [⟨34, 5, [.agg [.int .i64 0, .nils, .nils, .nils, .nils]], 0⟩]) (os' := [⟨34, 5, [.agg [.int .i64 0, .nils, .nils, .nils, .nils]], 1⟩]) (v := .ptr (n + 7) 0 0 0) (Vs hn) rfl rfl ⟨⟨_, rfl, rfl⟩, trivial⟩ (Xe (Vs hn) rfl tz_34 rfl rfl (Wv _) rfl) (Wj 0 rfl rfl rfl rfl) ⟨.same _ _ _ (Xt ⟨(Xw ⟨.int _ _, .nils, .nils, .nils, .nils, trivial⟩), trivial⟩), trivial⟩ rfl) (Zy 6 rfl (Vu (f := 7) (k := 6) (m := 1) (os := [⟨34, 5, [.agg [.int .i64 0, .nils, .nils, .nils, .nils]], 0⟩]) (os' := [⟨34, 5, [.agg [.int .i64 0, .nils, .nils, .nils, .nils]], 1⟩]) (v := .ptr (n + 7) 0 0 0) (Vs hn) rfl rfl ⟨⟨_, rfl, rfl⟩, trivial⟩ (Xe (Vs hn) rfl tz_34 rfl rfl (Wv _) rfl) (Wj 0 rfl rfl rfl rfl) ⟨.same _ _ _ (Xt ⟨(Xw ⟨.int _ _, .nils, .nils, .nils, .nils, trivial⟩), trivial⟩), trivial⟩ rfl) (Zy 8 rfl (Vu (f := 7) (k := 6) (m := 1) (os := [⟨34, 5, [.agg [.int .i64 0, .nils, .nils, .nils, .nils]], 0⟩]) (os' := [⟨34, 5, [.agg [.int .i64 0, .nils, .nils, .nils, .nils]], 1⟩]) (v := .ptr (n + 7) 0 0 0) (Vs hn) rfl rfl ⟨⟨_, rfl, rfl⟩, trivial⟩ (Xe (Vs hn) rfl tz_34 rfl rfl (Wv _) rfl) (Wj 0 rfl rfl rfl rfl) ⟨.same _ _ _ (Xt ⟨(Xw ⟨.int _ _, .nils, .nils, .nils, .nils, trivial⟩), trivial⟩), trivial⟩ rfl) (Zy 9 rfl (Vu (f := 7) (k := 6) (m := 1) (os := [⟨34, 5, [.agg [.int .i64 0, .nils, .nils, .nils, .nils]], 0⟩]) (os' := [⟨34, 5, [.agg [.int .i64 0, .nils, .nils, .nils, .nils]], 1⟩]) (v := .ptr (n + 7) 0 0 0) (Vs hn) rfl rfl ⟨⟨_, rfl, rfl⟩, trivial⟩ (Xe (Vs hn) rfl tz_34 rfl rfl (Wv _) rfl) (Wj 0 rfl rfl rfl rfl) ⟨.same _ _ _ (Xt ⟨(Xw ⟨.int _ _, .nils, .nils, .nils, .nils, trivial⟩), trivial⟩), trivial⟩ rfl) ex0))))) ?_
  refine Zf _ rfl rfl (Zy 10 rfl (Vy (p := .agg [.int .i64 p0.Time, .sl (n + 2) 1 0 (x1).length, .sl (n + 3) 1 0 (x3).length, .sl (n + 4) 1 0 (x5).length, .sl (n + 5) 1 0 (x7).length]) (e' := .agg [.int .i64 p0.Time, .sl (n + 2) 1 0 (x1).length, .sl (n + 3) 1 0 (x3).length, .sl (n + 4) 1 0 (x5).length, .sl (n + 5) 1 0 (x7).length]) rfl (Ve (Vs hn) rfl) rfl rfl ts_34 rfl (Ye rfl) rfl (Wu rfl) rfl (Xr (Vs hn) rfl)) ex0) ?_
  refine dopx_nil ?_
  refine Vi ?_
  refine Vd ?_
  obtain ⟨x9, h10, hF⟩ := Yt hF
  refine Va (rd_mvF rfl) rfl ?_
  refine Vj (Zg (ps := [((n + 6), ⟨34, 5, [.agg [.int .i64 x9.Time, .sl (n + 2) 1 0 (x1).length, .sl (n + 3) 1 0 (x3).length, .sl (n + 4) 1 0 (x5).length, .sl (n + 5) 1 0 (x7).length]], 1⟩), ((n + 2), ⟨3, 1, Wq (Wr .i64) x9.States, 1⟩), ((n + 3), ⟨3, 1, Wq (Wr .i64) x9.Since, 1⟩), ((n + 4), ⟨4, 1, Wq Ws x9.Pulled, 1⟩), ((n + 5), ⟨4, 1, Wq Ws x9.Held, 1⟩), (q0, ⟨3, 1, [.int .i64 pc10], w0⟩), (q1, ⟨27, 1, [.vs 2 (Wq T_Belt.enc pc11)], w1⟩)]) (r := .tup []) (os := []) (low1 := (setL low0 [(q0, ⟨3, 1, [.int .i64 pc10], w0⟩), (q1, ⟨27, 1, [.vs 2 (Wq T_Belt.enc pc11)], w1⟩)])) (loc1 := [⟨34, 5, [.agg [.int .i64 p0.Time, .vs 1 (Wq (Wr .i64) p0.States), .vs 1 (Wq (Wr .i64) p0.Since), .vs 1 (Wq Ws p0.Pulled), .vs 1 (Wq Ws p0.Held)]], 0⟩, ⟨34, 5, [.agg [.int .i64 0, .nils, .nils, .nils, .nils]], 0⟩, ⟨3, 1, Wq (Wr .i64) x9.States, 1⟩, ⟨3, 1, Wq (Wr .i64) x9.Since, 1⟩, ⟨4, 1, Wq Ws x9.Pulled, 1⟩, ⟨4, 1, Wq Ws x9.Held, 1⟩, ⟨34, 5, [.agg [.int .i64 x9.Time, .sl (n + 2) 1 0 (x1).length, .sl (n + 3) 1 0 (x3).length, .sl (n + 4) 1 0 (x5).length, .sl (n + 5) 1 0 (x7).length]], 1⟩]) (loc2 := [⟨34, 5, [.agg [.int .i64 p0.Time, .vs 1 (Wq (Wr .i64) p0.States), .vs 1 (Wq (Wr .i64) p0.Since), .vs 1 (Wq Ws p0.Pulled), .vs 1 (Wq Ws p0.Held)]], 0⟩, ⟨34, 5, [.agg [.int .i64 0, .nils, .nils, .nils, .nils]], 0⟩, ⟨3, 1, Wq (Wr .i64) x9.States, 1⟩, ⟨3, 1, Wq (Wr .i64) x9.Since, 1⟩, ⟨4, 1, Wq Ws x9.Pulled, 1⟩, ⟨4, 1, Wq Ws x9.Held, 1⟩, ⟨34, 5, [.agg [.int .i64 x9.Time, .sl (n + 2) 1 0 (x1).length, .sl (n + 3) 1 0 (x3).length, .sl (n + 4) 1 0 (x5).length, .sl (n + 5) 1 0 (x7).length]], 1⟩]) rfl Try.call34 (F_belts_Wait_1_ok h10 (nd1 (Zs (Yx rfl) (Zs (Yx rfl) (Zs (Yx rfl) (Zs (Yx rfl) (Zs (Yv hq0) (Zs (Yv hq1) na0)))))) (nd1 (Zs (Yx rfl) (Zs (Yx rfl) (Zs (Yx rfl) (Zs (Yv hq0) (Zs (Yv hq1) na0))))) (nd1 (Zs (Yx rfl) (Zs (Yx rfl) (Zs (Yv hq0) (Zs (Yv hq1) na0)))) (nd1 (Zs (Yx rfl) (Zs (Yv hq0) (Zs (Yv hq1) na0))) (nd1 (Zs (Yv hq0) (Zs (Yv hq1) na0)) (nd1 (Zs (hB.ne 0 1 rfl rfl rfl) na0) (nd1 na0 nd0))))))) (rfl : (x1).length = _) (rfl : (x3).length = _) (rfl : (x5).length = _) (rfl : (x7).length = _) (Zt (Vs hn) rfl) (Zt (Vs hn) rfl) (Zt (Vs hn) rfl) (Zt (Vs hn) rfl) (Zt (Vs hn) rfl) (Wp hB rfl 0 rfl) (Wp hB rfl 1 rfl) (Xi (Vs hn) rfl)) (Yq (loc2 := [⟨34, 5, [.agg [.int .i64 p0.Time, .vs 1 (Wq (Wr .i64) p0.States), .vs 1 (Wq (Wr .i64) p0.Since), .vs 1 (Wq Ws p0.Pulled), .vs 1 (Wq Ws p0.Held)]], 0⟩, ⟨34, 5, [.agg [.int .i64 0, .nils, .nils, .nils, .nils]], 0⟩, ⟨3, 1, Wq (Wr .i64) x1, 1⟩, ⟨3, 1, Wq (Wr .i64) x3, 1⟩, ⟨4, 1, Wq Ws x5, 1⟩, ⟨4, 1, Wq Ws x7, 1⟩, ⟨34, 5, [.agg [.int .i64 x9.Time, .sl (n + 2) 1 0 (x1).length, .sl (n + 3) 1 0 (x3).length, .sl (n + 4) 1 0 (x5).length, .sl (n + 5) 1 0 (x7).length]], 1⟩]) (Vs hn) 6 rfl (Yq (loc2 := [⟨34, 5, [.agg [.int .i64 p0.Time, .vs 1 (Wq (Wr .i64) p0.States), .vs 1 (Wq (Wr .i64) p0.Since), .vs 1 (Wq Ws p0.Pulled), .vs 1 (Wq Ws p0.Held)]], 0⟩, ⟨34, 5, [.agg [.int .i64 0, .nils, .nils, .nils, .nils]], 0⟩, ⟨3, 1, Wq (Wr .i64) x9.States, 1⟩, ⟨3, 1, Wq (Wr .i64) x3, 1⟩, ⟨4, 1, Wq Ws x5, 1⟩, ⟨4, 1, Wq Ws x7, 1⟩, ⟨34, 5, [.agg [.int .i64 x9.Time, .sl (n + 2) 1 0 (x1).length, .sl (n + 3) 1 0 (x3).length, .sl (n + 4) 1 0 (x5).length, .sl (n + 5) 1 0 (x7).length]], 1⟩]) (Vs hn) 2 rfl (Yq (loc2 := [⟨34, 5, [.agg [.int .i64 p0.Time, .vs 1 (Wq (Wr .i64) p0.States), .vs 1 (Wq (Wr .i64) p0.Since), .vs 1 (Wq Ws p0.Pulled), .vs 1 (Wq Ws p0.Held)]], 0⟩, ⟨34, 5, [.agg [.int .i64 0, .nils, .nils, .nils, .nils]], 0⟩, ⟨3, 1, Wq (Wr .i64) x9.States, 1⟩, ⟨3, 1, Wq (Wr .i64) x9.Since, 1⟩, ⟨4, 1, Wq Ws x5, 1⟩, ⟨4, 1, Wq Ws x7, 1⟩, ⟨34, 5, [.agg [.int .i64 x9.Time, .sl (n + 2) 1 0 (x1).length, .sl (n + 3) 1 0 (x3).length, .sl (n + 4) 1 0 (x5).length, .sl (n + 5) 1 0 (x7).length]], 1⟩]) (Vs hn) 3 rfl (Yq (loc2 := [⟨34, 5, [.agg [.int .i64 p0.Time, .vs 1 (Wq (Wr .i64) p0.States), .vs 1 (Wq (Wr .i64) p0.Since), .vs 1 (Wq Ws p0.Pulled), .vs 1 (Wq Ws p0.Held)]], 0⟩, ⟨34, 5, [.agg [.int .i64 0, .nils, .nils, .nils, .nils]], 0⟩, ⟨3, 1, Wq (Wr .i64) x9.States, 1⟩, ⟨3, 1, Wq (Wr .i64) x9.Since, 1⟩, ⟨4, 1, Wq Ws x9.Pulled, 1⟩, ⟨4, 1, Wq Ws x7, 1⟩, ⟨34, 5, [.agg [.int .i64 x9.Time, .sl (n + 2) 1 0 (x1).length, .sl (n + 3) 1 0 (x3).length, .sl (n + 4) 1 0 (x5).length, .sl (n + 5) 1 0 (x7).length]], 1⟩]) (Vs hn) 4 rfl (Yq (loc2 := [⟨34, 5, [.agg [.int .i64 p0.Time, .vs 1 (Wq (Wr .i64) p0.States), .vs 1 (Wq (Wr .i64) p0.Since), .vs 1 (Wq Ws p0.Pulled), .vs 1 (Wq Ws p0.Held)]], 0⟩, ⟨34, 5, [.agg [.int .i64 0, .nils, .nils, .nils, .nils]], 0⟩, ⟨3, 1, Wq (Wr .i64) x9.States, 1⟩, ⟨3, 1, Wq (Wr .i64) x9.Since, 1⟩, ⟨4, 1, Wq Ws x9.Pulled, 1⟩, ⟨4, 1, Wq Ws x9.Held, 1⟩, ⟨34, 5, [.agg [.int .i64 x9.Time, .sl (n + 2) 1 0 (x1).length, .sl (n + 3) 1 0 (x3).length, .sl (n + 4) 1 0 (x5).length, .sl (n + 5) 1 0 (x7).length]], 1⟩]) (Vs hn) 5 rfl (Wd (ps0' := [(q0, ⟨3, 1, [.int .i64 pc10], w0⟩), (q1, ⟨27, 1, [.vs 2 (Wq T_Belt.enc pc11)], w1⟩)]) hB rfl 0 rfl (ltObjN hn ⟨.int _ _, trivial⟩) rfl (Wd (ps0' := [(q0, ⟨3, 1, [.int .i64 pc10], w0⟩), (q1, ⟨27, 1, [.vs 2 (Wq T_Belt.enc pc11)], w1⟩)]) hB rfl 1 rfl (ltObjN hn ⟨.vs _ _, trivial⟩) rfl Zl))))))) rfl) rfl ?_
  refine Vf ?_
  refine Vi ?_
  refine Vd ?_
  refine Va (Vv (ds := [.int .i64 x9.Time, .sl (n + 2) 1 0 (x1).length, .sl (n + 3) 1 0 (x3).length, .sl (n + 4) 1 0 (x5).length, .sl (n + 5) 1 0 (x7).length]) rfl (Ve (Vs hn) rfl) rfl ta_34 ts_34 rfl rfl rfl) rfl ?_
  refine Vj (Vy (p := .agg [.int .i64 x9.Time, .sl (n + 2) 1 0 (x1).length, .sl (n + 3) 1 0 (x3).length, .sl (n + 4) 1 0 (x5).length, .sl (n + 5) 1 0 (x7).length]) (e' := .agg [.int .i64 x9.Time, .sl (n + 2) 1 0 (x1).length, .sl (n + 3) 1 0 (x3).length, .sl (n + 4) 1 0 (x5).length, .sl (n + 5) 1 0 (x7).length]) rfl (Ve (Vs hn) rfl) rfl rfl ts_34 rfl (Ye rfl) rfl (Wu rfl) rfl (Xr (Vs hn) rfl)) rfl ?_
  refine Vf ?_
  refine Xb ?_
  obtain rfl := Wt hF
  refine Wg ?_
  refine Weak.trans (Xm (E' := [(4, .ptr (n + 1) 0 0 0)]) (loc1 := [⟨34, 5, [.agg [.int .i64 p0.Time, .vs 1 (Wq (Wr .i64) p0.States), .vs 1 (Wq (Wr .i64) p0.Since), .vs 1 (Wq Ws p0.Pulled), .vs 1 (Wq Ws p0.Held)]], 0⟩, ⟨34, 5, [.agg [.int .i64 x9.Time, .sl (n + 2) 1 0 (x1).length, .sl (n + 3) 1 0 (x3).length, .sl (n + 4) 1 0 (x5).length, .vs 1 (Wq Ws x9.Held)]], 0⟩, ⟨3, 1, Wq (Wr .i64) x9.States, 1⟩, ⟨3, 1, Wq (Wr .i64) x9.Since, 1⟩, ⟨4, 1, Wq Ws x9.Pulled, 1⟩, ⟨4, 1, [], 1 + 1⟩, ⟨34, 5, [.agg [.int .i64 x9.Time, .sl (n + 2) 1 0 (x1).length, .sl (n + 3) 1 0 (x3).length, .sl (n + 4) 1 0 (x5).length, .vs 1 (Wq Ws x9.Held)]], 1⟩]) (Vs hn) 5 rfl (Ya (fun _ => .bool _)) ⟨Vl rfl, trivial⟩ ⟨.refl _, Yr ⟨Vl rfl, Vl rfl, Vl rfl, Vl rfl, Zj rfl rfl rfl (Vx (F_belts_Wait_1_len h10 (rfl : (x1).length = _) (rfl : (x3).length = _) (rfl : (x5).length = _) (rfl : (x7).length = _)).2.2.2.1), trivial⟩, .refl _, .refl _, .refl _, .refl _, Yr ⟨Vl rfl, Vl rfl, Vl rfl, Vl rfl, Zj rfl rfl rfl (Vx (F_belts_Wait_1_len h10 (rfl : (x1).length = _) (rfl : (x3).length = _) (rfl : (x5).length = _) (rfl : (x7).length = _)).2.2.2.1), trivial⟩, trivial⟩) ?_
  exact Vt (Vs hn) [(2, 1), (3, 1), (4, 1), (1, 0)] (by decide) ⟨Yj 3 1 rfl rfl, trivial⟩ ⟨⟨_, rfl, rfl, .same _ _ _ _ (Vh (fun _ => .int _ _))⟩, ⟨_, rfl, rfl, .same _ _ _ _ (Vh (fun _ => .int _ _))⟩, ⟨_, rfl, rfl, .same _ _ _ _ (Vh (fun _ => .bool _))⟩, ⟨_, rfl, rfl, .agg _ _ _ _ _ ⟨Vr rfl (.int _ _), Xq 0 2 rfl (congrArg (PV.sl _ _ 0) (F_belts_Wait_1_len h10 (rfl : (x1).length = _) (rfl : (x3).length = _) (rfl : (x5).length = _) (rfl : (x7).length = _)).1), Xq 1 3 rfl (congrArg (PV.sl _ _ 0) (F_belts_Wait_1_len h10 (rfl : (x1).length = _) (rfl : (x3).length = _) (rfl : (x5).length = _) (rfl : (x7).length = _)).2.1), Xq 2 4 rfl (congrArg (PV.sl _ _ 0) (F_belts_Wait_1_len h10 (rfl : (x1).length = _) (rfl : (x3).length = _) (rfl : (x5).length = _) (rfl : (x7).length = _)).2.2.1), Vr rfl (.vs _ _), trivial⟩⟩, trivial⟩
 ·rintro _ _ _ _ ⟨he, hw⟩
  refine ⟨_, _, _, hw, ?_⟩
  exact Zm (Vs hn) 3 rfl (Wu rfl) he [.agg [.int .i64 r.Time, .sl (n + 0) 0 0 (r.States).length, .sl (n + 1) 0 0 (r.Since).length, .sl (n + 2) 0 0 (r.Pulled).length, .vs 1 (Wq Ws r.Held)]] ⟨Vv rfl (Ve (Vs hn) rfl) rfl ta_34 ts_34 rfl rfl rfl, trivial⟩ ((Xw ⟨.int _ _, .sl _ _ _ _ (Zw rfl), .sl _ _ _ _ (Zw rfl), .sl _ _ _ _ (Zw rfl), .vs _ _, trivial⟩)) ⟨Vh (fun _ => .int _ _), Vh (fun _ => .int _ _), Vh (fun _ => .bool _), trivial⟩ ⟨rfl, rfl⟩

theorem F_belts_done__belts_Wait_1_ok {p0 : T_Line} {pc10 : Int} {pc11 : List T_Belt} {r : T_Line} (hF : F_belts_done__belts_Wait_1 p0 pc10 pc11 = some r) {low : List AObj} {q0 q1 w0 w1 : Nat} (hnd : [q0, q1].Nodup) (hq0 : low[q0]? = some ⟨3, 1, [.int .i64 pc10], w0⟩) (hq1 : low[q1]? = some ⟨27, 1, [.vs 2 (Wq T_Belt.enc pc11)], w1⟩) {n : Nat} (hn : low.length = n) :
    Ys Try.prog 31 [.agg [.int .i64 p0.Time, .vs 1 (Wq (Wr .i64) p0.States), .vs 1 (Wq (Wr .i64) p0.Since), .vs 1 (Wq Ws p0.Pulled), .vs 1 (Wq Ws p0.Held)], .fn 34 [] [.ptr q0 w0 0 0, .ptr q1 w1 0 0]] low fun x low' => x = .agg [.int .i64 r.Time, .sl (n + 0) 0 0 (r.States).length, .sl (n + 1) 0 0 (r.Since).length, .sl (n + 2) 0 0 (r.Pulled).length, .vs 1 (Wq Ws r.Held)] ∧ low' = setL low [(q0, ⟨3, 1, [.int .i64 pc10], w0⟩), (q1, ⟨27, 1, [.vs 2 (Wq T_Belt.enc pc11)], w1⟩)] ++ [⟨3, 1, Wq (Wr .i64) r.States, 0⟩, ⟨3, 1, Wq (Wr .i64) r.Since, 0⟩, ⟨4, 1, Wq Ws r.Pulled, 0⟩] := by
  obtain ⟨h1, h2⟩ := We (ps := [(q0, ⟨3, 1, [.int .i64 pc10], w0⟩), (q1, ⟨27, 1, [.vs 2 (Wq T_Belt.enc pc11)], w1⟩)]) hnd (Wf hq0 (Wf hq1 bor0))
  exact Zx h1 (F_belts_done__belts_Wait_1_ok0 hF h2 hn)

theorem F_belts_Wait_ok {p0 : List T_Belt} {p1 : T_Line} {p2 : Int} {r : T_Line × Int} (hF : F_belts_Wait p0 p1 p2 = some r) (low : List AObj) {n : Nat} (hn : low.length = n) :
    Ys Try.prog 14 [.vs 2 (Wq T_Belt.enc p0), .agg [.int .i64 p1.Time, .vs 1 (Wq (Wr .i64) p1.States), .vs 1 (Wq (Wr .i64) p1.Since), .vs 1 (Wq Ws p1.Pulled), .vs 1 (Wq Ws p1.Held)], .int .i64 p2] low fun x low' => x = .tup [.agg [.int .i64 r.1.Time, .vs 1 (Wq (Wr .i64) r.1.States), .vs 1 (Wq (Wr .i64) r.1.Since), .vs 1 (Wq Ws r.1.Pulled), .vs 1 (Wq Ws r.1.Held)], .int .i64 r.2] ∧ low' = low ++ [] := by
 refine Vz (nt := 24) (rs := [.cell 6 34, .tmp 7]) Try.func14 rfl rfl (Wu rfl) rfl ?_
 refine Vw (Q' := FnE (fun E' lw lc => Yb E' lw lc [(6, .ptr (n + 0) 0 0 0), (7, .int .i64 r.2)] low [⟨34, 5, [.agg [.int .i64 r.1.Time, .vs 1 (Wq (Wr .i64) r.1.States), .vs 1 (Wq (Wr .i64) r.1.Since), .vs 1 (Wq Ws r.1.Pulled), .vs 1 (Wq Ws r.1.Held)]], 0⟩])) ?_ ?_
 ·unfold F_belts_Wait at hF
  refine Vi ?_
  refine Vd ?_
  refine Vj (Zc hn rfl (v := .vs 2 (Wq T_Belt.enc p0)) rfl rfl (Wv _) rfl rfl) rfl ?_
  refine Vj (Zc hn rfl (v := .agg [.int .i64 p1.Time, .vs 1 (Wq (Wr .i64) p1.States), .vs 1 (Wq (Wr .i64) p1.Since), .vs 1 (Wq Ws p1.Pulled), .vs 1 (Wq Ws p1.Held)]) rfl rfl (Wv _) rfl rfl) rfl ?_
  refine Vj (Zc hn rfl (v := .int .i64 p2) rfl rfl (Wv _) rfl rfl) rfl ?_
  refine Vj (Xe hn rfl tz_34 rfl rfl (Wv _) rfl) rfl ?_
  refine Va (Xa rfl) rfl ?_
  refine Vf ?_
  refine Vi ?_
  refine Yh ?_
  refine Vi ?_
  refine Vd ?_
  obtain ⟨x1, h2, hF⟩ := Yt hF
  refine Va (Vg rfl (Ve hn rfl) rfl ta_27 rfl) rfl ?_
  refine Va (Vv (ds := [.int .i64 p1.Time, .vs 1 (Wq (Wr .i64) p1.States), .vs 1 (Wq (Wr .i64) p1.Since), .vs 1 (Wq Ws p1.Pulled), .vs 1 (Wq Ws p1.Held)]) rfl (Ve hn rfl) rfl ta_34 ts_34 rfl rfl rfl) rfl ?_
  refine Vj (Xp rfl Try.call28 (F_belts_Valid_ok h2 _)) rfl ?_
  refine Va (Zp rfl) rfl ?_
  refine Va (Xz rfl) rfl ?_
  refine Vf ?_
  refine Xh rfl (fun c3 => ?_) (fun c3 => ?_)
  ·have hF := Yo c3 hF
   refine Vi ?_
   refine Vd ?_
   refine Va (Vv (ds := [.int .i64 p1.Time, .vs 1 (Wq (Wr .i64) p1.States), .vs 1 (Wq (Wr .i64) p1.Since), .vs 1 (Wq Ws p1.Pulled), .vs 1 (Wq Ws p1.Held)]) rfl (Ve hn rfl) rfl ta_34 ts_34 rfl rfl rfl) rfl ?_
   refine Vj (Vy (p := .agg [.int .i64 p1.Time, .vs 1 (Wq (Wr .i64) p1.States), .vs 1 (Wq (Wr .i64) p1.Since), .vs 1 (Wq Ws p1.Pulled), .vs 1 (Wq Ws p1.Held)]) (e' := .agg [.int .i64 p1.Time, .vs 1 (Wq (Wr .i64) p1.States), .vs 1 (Wq (Wr .i64) p1.Since), .vs 1 (Wq Ws p1.Pulled), .vs 1 (Wq Ws p1.Held)]) rfl (Ve hn rfl) rfl rfl ts_34 rfl (Ye rfl) rfl (Wu rfl) rfl (Xr hn rfl)) rfl ?_
   refine Va (Xa rfl) rfl ?_
   refine Vf ?_
   refine Xb ?_
   obtain rfl := Wt hF
   refine Wg ?_
   exact Vt hn [(3, 0)] (by decide) ⟨Yj 0 3 rfl rfl, Vr rfl (.int _ _), trivial⟩ ⟨⟨_, rfl, rfl, .same _ _ _ _ (Xt ⟨Xw ⟨.int _ _, .vs _ _, .vs _ _, .vs _ _, .vs _ _, trivial⟩, trivial⟩)⟩, trivial⟩
  ·have hF := Yp c3 hF
   refine Vi ?_
   refine Vd ?_
   obtain ⟨x4, h5, hF⟩ := Yt hF
   refine Va (Vg rfl (Ve hn rfl) rfl ta_3 rfl) rfl ?_
   refine Va (Vc rfl tf_34_0 ts_3 (by decide)) rfl ?_
   refine Va (Vg rfl (Ve hn rfl) rfl ta_3 rfl) rfl ?_
   refine Vj (Xp rfl Try.call33 (F_lists_In_ok h5 _)) rfl ?_
   refine Va (Zp rfl) rfl ?_
   refine Va (Xz rfl) rfl ?_
   refine Vf ?_
   refine Xh rfl (fun c6 => ?_) (fun c6 => ?_)
   ·have hF := Yo c6 hF
    refine Vi ?_
    refine Vd ?_
    refine Va (Vv (ds := [.int .i64 p1.Time, .vs 1 (Wq (Wr .i64) p1.States), .vs 1 (Wq (Wr .i64) p1.Since), .vs 1 (Wq Ws p1.Pulled), .vs 1 (Wq Ws p1.Held)]) rfl (Ve hn rfl) rfl ta_34 ts_34 rfl rfl rfl) rfl ?_
    refine Vj (Vy (p := .agg [.int .i64 p1.Time, .vs 1 (Wq (Wr .i64) p1.States), .vs 1 (Wq (Wr .i64) p1.Since), .vs 1 (Wq Ws p1.Pulled), .vs 1 (Wq Ws p1.Held)]) (e' := .agg [.int .i64 p1.Time, .vs 1 (Wq (Wr .i64) p1.States), .vs 1 (Wq (Wr .i64) p1.Since), .vs 1 (Wq Ws p1.Pulled), .vs 1 (Wq Ws p1.Held)]) rfl (Ve hn rfl) rfl rfl ts_34 rfl (Ye rfl) rfl (Wu rfl) rfl (Xr hn rfl)) rfl ?_
    refine Va (Xa rfl) rfl ?_
    refine Vf ?_
    refine Xb ?_
    obtain rfl := Wt hF
    refine Wg ?_
    exact Vt hn [(3, 0)] (by decide) ⟨Yj 0 3 rfl rfl, Vr rfl (.int _ _), trivial⟩ ⟨⟨_, rfl, rfl, .same _ _ _ _ (Xt ⟨Xw ⟨.int _ _, .vs _ _, .vs _ _, .vs _ _, .vs _ _, trivial⟩, trivial⟩)⟩, trivial⟩
   ·have hF := Yp c6 hF
    refine Xn ?_
    refine Vi ?_
    refine Vd ?_
    obtain ⟨x7, h8, hF⟩ := Yt hF
    refine Va (Vv (ds := [.int .i64 p1.Time, .vs 1 (Wq (Wr .i64) p1.States), .vs 1 (Wq (Wr .i64) p1.Since), .vs 1 (Wq Ws p1.Pulled), .vs 1 (Wq Ws p1.Held)]) rfl (Ve hn rfl) rfl ta_34 ts_34 rfl rfl rfl) rfl ?_
    refine Va (rd_makeFn rfl) rfl ?_
    refine Vj (Zg (ps := [((n + 2), ⟨3, 1, [.int .i64 p2], 0⟩), ((n + 0), ⟨27, 1, [.vs 2 (Wq T_Belt.enc p0)], 0⟩)]) (r := .agg [.int .i64 x7.Time, .sl (n + 4) 0 0 (x7.States).length, .sl (n + 5) 0 0 (x7.Since).length, .sl (n + 6) 0 0 (x7.Pulled).length, .vs 1 (Wq Ws x7.Held)]) (os := [⟨3, 1, Wq (Wr .i64) x7.States, 0⟩, ⟨3, 1, Wq (Wr .i64) x7.Since, 0⟩, ⟨4, 1, Wq Ws x7.Pulled, 0⟩]) (low1 := low) (loc1 := [⟨27, 1, [.vs 2 (Wq T_Belt.enc p0)], 0⟩, ⟨34, 5, [.agg [.int .i64 p1.Time, .vs 1 (Wq (Wr .i64) p1.States), .vs 1 (Wq (Wr .i64) p1.Since), .vs 1 (Wq Ws p1.Pulled), .vs 1 (Wq Ws p1.Held)]], 0⟩, ⟨3, 1, [.int .i64 p2], 0⟩, ⟨34, 5, [.agg [.int .i64 0, .nils, .nils, .nils, .nils]], 0⟩]) (loc2 := [⟨27, 1, [.vs 2 (Wq T_Belt.enc p0)], 0⟩, ⟨34, 5, [.agg [.int .i64 p1.Time, .vs 1 (Wq (Wr .i64) p1.States), .vs 1 (Wq (Wr .i64) p1.Since), .vs 1 (Wq Ws p1.Pulled), .vs 1 (Wq Ws p1.Held)]], 0⟩, ⟨3, 1, [.int .i64 p2], 0⟩, ⟨34, 5, [.agg [.int .i64 0, .nils, .nils, .nils, .nils]], 0⟩, ⟨3, 1, Wq (Wr .i64) x7.States, 0⟩, ⟨3, 1, Wq (Wr .i64) x7.Since, 0⟩, ⟨4, 1, Wq Ws x7.Pulled, 0⟩]) rfl Try.call31 (F_belts_done__belts_Wait_1_ok h8 (nd1 (Zs (Yx rfl) na0) (nd1 na0 nd0)) (Zt hn rfl) (Zt hn rfl) (Xi hn rfl)) (Yq (loc2 := [⟨27, 1, [.vs 2 (Wq T_Belt.enc p0)], 0⟩, ⟨34, 5, [.agg [.int .i64 p1.Time, .vs 1 (Wq (Wr .i64) p1.States), .vs 1 (Wq (Wr .i64) p1.Since), .vs 1 (Wq Ws p1.Pulled), .vs 1 (Wq Ws p1.Held)]], 0⟩, ⟨3, 1, [.int .i64 p2], 0⟩, ⟨34, 5, [.agg [.int .i64 0, .nils, .nils, .nils, .nils]], 0⟩]) hn 2 rfl (Yq (loc2 := [⟨27, 1, [.vs 2 (Wq T_Belt.enc p0)], 0⟩, ⟨34, 5, [.agg [.int .i64 p1.Time, .vs 1 (Wq (Wr .i64) p1.States), .vs 1 (Wq (Wr .i64) p1.Since), .vs 1 (Wq Ws p1.Pulled), .vs 1 (Wq Ws p1.Held)]], 0⟩, ⟨3, 1, [.int .i64 p2], 0⟩, ⟨34, 5, [.agg [.int .i64 0, .nils, .nils, .nils, .nils]], 0⟩]) hn 0 rfl Zl)) rfl) rfl ?_
    refine Vj (Vy (p := .agg [.int .i64 x7.Time, .sl (n + 4) 0 0 (x7.States).length, .sl (n + 5) 0 0 (x7.Since).length, .sl (n + 6) 0 0 (x7.Pulled).length, .vs 1 (Wq Ws x7.Held)]) (e' := .agg [.int .i64 x7.Time, .sl (n + 4) 0 0 (x7.States).length, .sl (n + 5) 0 0 (x7.Since).length, .sl (n + 6) 0 0 (x7.Pulled).length, .vs 1 (Wq Ws x7.Held)]) rfl (Ve hn rfl) rfl rfl ts_34 rfl (Ye rfl) rfl (Wu rfl) rfl (Xr hn rfl)) rfl ?_
    refine Va (Xa rfl) rfl ?_
    refine Vf ?_
    refine Xb ?_
    obtain rfl := Wt hF
    refine Wg ?_
    refine Weak.trans (Xm (E' := [(6, .ptr (n + 3) 0 0 0), (7, .int .i64 0)]) (loc1 := [⟨27, 1, [.vs 2 (Wq T_Belt.enc p0)], 0⟩, ⟨34, 5, [.agg [.int .i64 p1.Time, .vs 1 (Wq (Wr .i64) p1.States), .vs 1 (Wq (Wr .i64) p1.Since), .vs 1 (Wq Ws p1.Pulled), .vs 1 (Wq Ws p1.Held)]], 0⟩, ⟨3, 1, [.int .i64 p2], 0⟩, ⟨34, 5, [.agg [.int .i64 x7.Time, .vs 1 (Wq (Wr .i64) x7.States), .sl (n + 5) 0 0 (x7.Since).length, .sl (n + 6) 0 0 (x7.Pulled).length, .vs 1 (Wq Ws x7.Held)]], 0⟩, ⟨3, 1, [], 0 + 1⟩, ⟨3, 1, Wq (Wr .i64) x7.Since, 0⟩, ⟨4, 1, Wq Ws x7.Pulled, 0⟩]) hn 4 rfl (Ya (fun _ => .int _ _)) ⟨Vl rfl, Vl rfl, trivial⟩ ⟨.refl _, .refl _, .refl _, Yr ⟨Vl rfl, Zj rfl rfl rfl (Vx rfl), Vl rfl, Vl rfl, Vl rfl, trivial⟩, .refl _, .refl _, .refl _, trivial⟩) ?_
    refine Weak.trans (Xm (E' := [(6, .ptr (n + 3) 0 0 0), (7, .int .i64 0)]) (loc1 := [⟨27, 1, [.vs 2 (Wq T_Belt.enc p0)], 0⟩, ⟨34, 5, [.agg [.int .i64 p1.Time, .vs 1 (Wq (Wr .i64) p1.States), .vs 1 (Wq (Wr .i64) p1.Since), .vs 1 (Wq Ws p1.Pulled), .vs 1 (Wq Ws p1.Held)]], 0⟩, ⟨3, 1, [.int .i64 p2], 0⟩, ⟨34, 5, [.agg [.int .i64 x7.Time, .vs 1 (Wq (Wr .i64) x7.States), .vs 1 (Wq (Wr .i64) x7.Since), .sl (n + 6) 0 0 (x7.Pulled).length, .vs 1 (Wq Ws x7.Held)]], 0⟩, ⟨3, 1, [], 0 + 1⟩, ⟨3, 1, [], 0 + 1⟩, ⟨4, 1, Wq Ws x7.Pulled, 0⟩]) hn 5 rfl (Ya (fun _ => .int _ _)) ⟨Vl rfl, Vl rfl, trivial⟩ ⟨.refl _, .refl _, .refl _, Yr ⟨Vl rfl, Vl rfl, Zj rfl rfl rfl (Vx rfl), Vl rfl, Vl rfl, trivial⟩, .refl _, .refl _, .refl _, trivial⟩) ?_
    refine Weak.trans (Xm (E' := [(6, .ptr (n + 3) 0 0 0), (7, .int .i64 0)]) (loc1 := [⟨27, 1, [.vs 2 (Wq T_Belt.enc p0)], 0⟩, ⟨34, 5, [.agg [.int .i64 p1.Time, .vs 1 (Wq (Wr .i64) p1.States), .vs 1 (Wq (Wr .i64) p1.Since), .vs 1 (Wq Ws p1.Pulled), .vs 1 (Wq Ws p1.Held)]], 0⟩, ⟨3, 1, [.int .i64 p2], 0⟩, ⟨34, 5, [.agg [.int .i64 x7.Time, .vs 1 (Wq (Wr .i64) x7.States), .vs 1 (Wq (Wr .i64) x7.Since), .vs 1 (Wq Ws x7.Pulled), .vs 1 (Wq Ws x7.Held)]], 0⟩, ⟨3, 1, [], 0 + 1⟩, ⟨3, 1, [], 0 + 1⟩, ⟨4, 1, [], 0 + 1⟩]) hn 6 rfl (Ya (fun _ => .bool _)) ⟨Vl rfl, Vl rfl, trivial⟩ ⟨.refl _, .refl _, .refl _, Yr ⟨Vl rfl, Vl rfl, Vl rfl, Zj rfl rfl rfl (Vx rfl), Vl rfl, trivial⟩, .refl _, .refl _, .refl _, trivial⟩) ?_
    exact Vt hn [(3, 0)] (by decide) ⟨Yj 0 3 rfl rfl, Vr rfl (.int _ _), trivial⟩ ⟨⟨_, rfl, rfl, .same _ _ _ _ (Xt ⟨Xw ⟨.int _ _, .vs _ _, .vs _ _, .vs _ _, .vs _ _, trivial⟩, trivial⟩)⟩, trivial⟩
 ·rintro _ _ _ _ ⟨he, hw⟩
  refine ⟨_, _, _, hw, ?_⟩
  exact Zm hn 0 rfl (Wu rfl) he [.agg [.int .i64 r.1.Time, .vs 1 (Wq (Wr .i64) r.1.States), .vs 1 (Wq (Wr .i64) r.1.Since), .vs 1 (Wq Ws r.1.Pulled), .vs 1 (Wq Ws r.1.Held)], .int .i64 r.2] ⟨Vv rfl (Ve hn rfl) rfl ta_34 ts_34 rfl rfl rfl, rfl, trivial⟩ ((lt_tup ⟨(Xw ⟨.int _ _, .vs _ _, .vs _ _, .vs _ _, .vs _ _, trivial⟩), .int _ _, trivial⟩)) trivial ⟨rfl, rfl⟩

theorem F_belts_throws_ok {p0 : List T_Belt} {p1 : Int} {p2 : Int} {r : Bool} (hF : F_belts_throws p0 p1 p2 = some r) (low : List AObj) :
    Ys Try.prog 39 [.vs 2 (Wq T_Belt.enc p0), .int .i64 p1, .int .i64 p2] low fun x low' => x = .bool r ∧ low' = low := by
 refine Vz (nt := 23) (rs := [.tmp 6]) Try.func39 rfl rfl (Wu rfl) rfl ?_
 refine Vw (Q' := FnE (fun E' lw lc => Yb E' lw lc [(6, .bool r)] low [])) ?_ ?_
 ·unfold F_belts_throws at hF
  refine Vi ?_
  refine Vd ?_
  refine Va (Xz rfl) rfl ?_
  refine Vf ?_
  refine Vi ?_
  refine Vi ?_
  refine Vd ?_
  obtain ⟨x1, h2, hF⟩ := Yt hF
  refine Va (Xc rfl) rfl ?_
  refine Va (Vk rfl) rfl ?_
  refine Va (Xk (Yl rfl rfl h2 te_27 ts_31) (v' := .vptr [.int .i64 x1.Onto, .int .i64 x1.Warn] 0) rfl) rfl ?_
  refine Va (Yf rfl tf_31_0 ts_3 (by decide)) rfl ?_
  refine Va (Xj rfl ta_3 rfl) rfl ?_
  refine Va (Xa rfl) rfl ?_
  refine Vf ?_
  refine Yh ?_
  obtain ⟨o4, ho4, hF⟩ := Yt hF
  refine Vw (Wb (F_belts_throws_L1 p0 p2) (fun s3 E' lw lc => Yb E' lw lc [(0, .vs 2 (Wq T_Belt.enc p0)), (2, .int .i64 p2), (7, .int .i64 s3)] low []) (Sum.elim (fun j5 => OnlyE .ret (fun E' lw lc => Yb E' lw lc [(6, .bool true)] low [])) (fun j6 => OnlyE (.exit 0) (fun E' lw lc => Yb E' lw lc [] low []))) ho4 ?_ (by rintro (_|_) _ _ _ ⟨h, _⟩ <;> cases h) ?_) ?_
  ·exact Vp ⟨rfl, rfl, rfl, trivial⟩
  ·rintro s3 os3 _ _ _ hF hw
   unfold F_belts_throws_L1 at hF
   refine Yd hw ?_
   refine Vi ?_
   refine Vi ?_
   refine Vd ?_
   refine Va (Vk rfl) rfl ?_
   refine Va (rd_geq rfl rfl) rfl ?_
   refine Vf ?_
   refine Xh rfl (fun c7 => ?_) (fun c7 => ?_)
   ·have hF := Yo c7 hF
    refine Xn ?_
    refine Vi ?_
    refine Yh ?_
    refine Vi ?_
    refine Vd ?_
    refine Va (Vk rfl) rfl ?_
    refine Va (Vk rfl) rfl ?_
    refine Va (Xl rfl rfl) rfl ?_
    refine Vf ?_
    refine Xh rfl (fun c8 => ?_) (fun c8 => ?_)
    ·have hF := Yo c8 hF
     refine Vi ?_
     refine Vd ?_
     refine Va (Xz rfl) rfl ?_
     refine Vf ?_
     refine Xb ?_
     obtain rfl := Wt hF
     refine Xy ?_
     exact Vp ⟨rfl, trivial⟩
    ·have hF := Yp c8 hF
     refine Xn ?_
     refine Vd ?_
     obtain ⟨x9, h10, hF⟩ := Yt hF
     refine Va (Xc rfl) rfl ?_
     refine Va (Vk rfl) rfl ?_
     refine Va (Xk (Yl rfl rfl h10 te_27 ts_31) (v' := .vptr [.int .i64 x9.Onto, .int .i64 x9.Warn] 0) rfl) rfl ?_
     refine Va (Yf rfl tf_31_0 ts_3 (by decide)) rfl ?_
     refine Va (Xj rfl ta_3 rfl) rfl ?_
     refine Va (Xa rfl) rfl ?_
     refine Vf ?_
     obtain rfl := Wt hF
     refine Xy ?_
     exact Vp ⟨rfl, rfl, rfl, trivial⟩
   ·have hF := Yp c7 hF
    refine Wi ?_
    obtain rfl := Wt hF
    refine Xy ?_
    exact Vp trivial
  ·rcases o4 with j5 | j6
   ·replace hF := elimL hF
    rintro _ _ _ _ ⟨rfl, hw⟩
    refine ⟨_, _, _, hw, ?_⟩
    obtain rfl := Wt hF
    refine Wg ?_
    exact Vp ⟨rfl, trivial⟩
   ·replace hF := elimR hF
    rintro _ _ _ _ ⟨rfl, hw⟩
    refine ⟨_, _, _, hw, ?_⟩
    refine Vi ?_
    refine Vd ?_
    refine Va (Xz rfl) rfl ?_
    refine Vf ?_
    refine Xb ?_
    obtain rfl := Wt hF
    refine Wg ?_
    exact Vp ⟨rfl, trivial⟩
 ·rintro _ _ _ _ ⟨he, hw⟩
  refine ⟨_, _, _, hw, ?_⟩
  exact Zd he [.bool r] ⟨rfl, trivial⟩ (.bool _) ⟨rfl, rfl⟩

end Go.Proofs.Ytmomjhbinkmefaa
