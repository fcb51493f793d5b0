/- Printed by wip/lift/lift.py: the walks that show that the program computes them. -/
import Derived.Test.YtmomjhbinkmefaaR39T
import Derived.Test.YtmomjhbinkmefaaAmlDD
import Derived.Test.YtmomjhbinkmefaaL39D
namespace Go.Proofs.Ytmomjhbinkmefaa
open Go Go.Aml Go.L
attribute [local irreducible] VRd VEf VOp VOps VWp DOps
set_option linter.unusedVariables false
open Go.Aml renaming vops_rd → Va, vops_skip → Vb, rd_fieldAddr → Vc, cv_same → Vd, rd_load1 → Ve, vwp_region → Vf, getO_N → Vg, vops_nil → Vh, vwp_seq → Vi, vops_efE → Vj, ltObj_map → Vk, rd_mvB → Vl, rd_mvI → Vm, lenS → Vn, rd_pickT → Vo, rd_pickF → Vp, weak_sub → Vq, vef_into → Vr, rn_low → Vs, weak_freezeN → Vt, dops_skip → Vu, dops_skipX → Vv, weak_pick → Vw, vwp_monoW → Vx, len_setL → Vy, vcalls_of_body → Vz, VRd → Xa, full_take → Xb, len_app → Xc, ltObj_es → Xd, rd_eql → Xe, vef_callN → Xf, rx1 → Xg, vt1 → Xh, vef_allocN → Xi, vwp_ret → Xj, rd_loadN → Xk, lt_agg → Xl, rd_loadV1 → Xm, dopx_rd → Xn, vef_store → Xo, rd_to → Xp, vwp_cond → Xq, rd_asI → Xr, cvo_agg → Xs, vef_callP → Xt, sets_own → Xu, Weak → Xv, rd_mvV → Xw, rd_lenV → Xx, vwp_skip → Xy, vwp_weak → Xz, ne_low' → Ya, getO_B → Yb, ne_own → Yc, rd_asB → Yd, onlyE → Ye, lt_map → Yf, allx1 → Yg, rd_extract → Yh, mv_sl → Yi, weak_room → Yj, VCalls → Yk, rn_ptr → Yl, setO_N → Ym, rd_ixV → Yn, dopx_ef → Yo, vwp_block → Yp, cv_sl → Yq, bifT → Yr, bifF → Ys, bnd → Yt, vef_callS → Yu, nt_ne → Yv, bodyQ_pure → Yw, vef_boxN → Yx, all1 → Yy, vef_mkN → Yz, sets_nil → Za, na1 → Zb, rd_nilPtr → Zc, get_N → Zd, dr1 → Ze, vcalls_low → Zf, rd_neq → Zg, dops_nil → Zh, rd_mvP → Zi, getI_some → Zj, dt1 → Zk, borC → Zl, dops_rdW → Zm, bor_start → Zn, rd_not → Zo, mv_ptr → Zp, sets_B → Zq, rn_sl → Zr, ex1 → Zs, rd_build → Zt, vwp_drawn0 → Zu, rd_fieldVaddr → Zv, lp_some → Zw, neT → Zx, lp_bindE → Zy, bodyQ_some → Zz
open List renaming map → Wa
open Go.Aml.PV renaming int → Wb
open Go.Aml.PV renaming bool → Wc
open Option.some renaming inj → Wd
open Nat renaming le_of_ble_eq_true → We
open Nat renaming succ_pos → Wf
open Bool renaming eq_false_or_eq_true → Wg
open List renaming length_map → Wh
set_option maxHeartbeats 4000000

theorem mixed : Try.prog.follows .mixedOrders = true := by kernel_rfl


theorem F_made_Light_ok {p0 : List Int} {r : Bool} (hF : F_made_Light p0 = some r) (low : List AObj) :
    Yk Try.prog 7 [.vs 1 (Wa (Wb .i64) p0)] low fun x low' => x = .bool r ∧ low' = low := by
 refine Vz (nt := 6) (rs := [.tmp 2]) Try.func7 rfl rfl (We rfl) rfl ?_
 refine Vx (Q' := FnE (fun E' lw lc => Xv E' lw lc [(2, .bool r)] low [])) ?_ ?_
 ·unfold F_made_Light at hF
  refine Vi ?_
  refine Vf ?_
  refine Va (Yd rfl) rfl ?_
  refine Vh ?_
  refine Vi ?_
  refine Vf ?_
  refine Va (Xw rfl) rfl ?_
  refine Va (Xp (Xx rfl rfl te_22) (congrArg (fun n : Nat => Wb .i64 (n : Int)) (Wh _))) rfl ?_
  refine Va (rd_leq rfl rfl) rfl ?_
  refine Va (Yd rfl) rfl ?_
  refine Vh ?_
  refine Xj ?_
  obtain rfl := Wd hF
  refine fnR ?_
  exact Vq ⟨rfl, trivial⟩
 ·rintro _ _ _ _ ⟨he, hw⟩
  refine ⟨_, _, _, hw, ?_⟩
  exact Yw he [.bool r] ⟨rfl, trivial⟩ (.bool _) ⟨rfl, rfl⟩

theorem F_lists_In_ok {p0 : Int} {p1 : Int} {p2 : Int} {r : Bool} (hF : F_lists_In p0 p1 p2 = some r) (low : List AObj) :
    Yk Try.prog 33 [.int .i64 p0, .int .i64 p1, .int .i64 p2] low fun x low' => x = .bool r ∧ low' = low := by
 refine Vz (nt := 15) (rs := [.tmp 6]) Try.func33 rfl rfl (We rfl) rfl ?_
 refine Vx (Q' := FnE (fun E' lw lc => Xv E' lw lc [(6, .bool r)] low [])) ?_ ?_
 ·unfold F_lists_In at hF
  refine Vi ?_
  refine Vf ?_
  refine Va (Yd rfl) rfl ?_
  refine Vh ?_
  refine Vi ?_
  refine Vf ?_
  rcases Wg (decide (p1 ≤ p0)) with c1 | c1
  ·have hF := Yr c1 hF
   refine Va (Vm rfl) rfl ?_
   refine Va (Vm rfl) rfl ?_
   refine Va (rd_geq rfl rfl) rfl ?_
   refine Va (Vl rfl) rfl ?_
   refine Xh rfl rfl c1 ?_
   refine Va (Vm rfl) rfl ?_
   refine Xh rfl rfl c1 ?_
   refine Va (Vm rfl) rfl ?_
   refine Xh rfl rfl c1 ?_
   refine Va (rd_leq rfl rfl) rfl ?_
   refine Va (Vo (congrArg Wc c1) rfl) rfl ?_
   refine Va (Yd rfl) rfl ?_
   refine Vh ?_
   refine Xj ?_
   obtain rfl := Wd hF
   refine fnR ?_
   exact Vq ⟨rfl, trivial⟩
  ·have hF := Ys c1 hF
   refine Va (Vm rfl) rfl ?_
   refine Va (Vm rfl) rfl ?_
   refine Va (rd_geq rfl rfl) rfl ?_
   refine Va (Vl rfl) rfl ?_
   refine Vb rfl rfl (neF c1) rfl ?_
   refine Vb rfl rfl (neF c1) rfl ?_
   refine Vb rfl rfl (neF c1) rfl ?_
   refine Va (Vp (congrArg Wc c1) rfl) rfl ?_
   refine Va (Yd rfl) rfl ?_
   refine Vh ?_
   refine Xj ?_
   obtain rfl := Wd hF
   refine fnR ?_
   exact Vq ⟨rfl, trivial⟩
 ·rintro _ _ _ _ ⟨he, hw⟩
  refine ⟨_, _, _, hw, ?_⟩
  exact Yw he [.bool r] ⟨rfl, trivial⟩ (.bool _) ⟨rfl, rfl⟩

theorem F_belts_sound_ok {p0 : List T_Belt} {r : Bool} (hF : F_belts_sound p0 = some r) (low : List AObj) :
    Yk Try.prog 29 [.vs 2 (Wa T_Belt.enc p0)] low fun x low' => x = .bool r ∧ low' = low := by
 refine Vz (nt := 59) (rs := [.tmp 2]) Try.func29 rfl rfl (We rfl) rfl ?_
 refine Vx (Q' := FnE (fun E' lw lc => Xv E' lw lc [(2, .bool r)] low [])) ?_ ?_
 ·unfold F_belts_sound at hF
  refine Vi ?_
  refine Vf ?_
  refine Va (Yd rfl) rfl ?_
  refine Vh ?_
  refine Vi ?_
  refine Vi ?_
  refine Vf ?_
  obtain ⟨x1, h2, hF⟩ := Yt hF
  refine Va (Xw rfl) rfl ?_
  refine Va (Xp (Xx rfl rfl te_27) (congrArg (fun n : Nat => Wb .i64 (n : Int)) (Wh _))) rfl ?_
  refine Vj (Xt rfl Try.call33 (F_lists_In_ok h2 _)) rfl ?_
  refine Va (Zo rfl) rfl ?_
  refine Vh ?_
  refine Xq rfl (fun c3 => ?_) (fun c3 => ?_)
  ·have hF := Yr c3 hF
   refine Vi ?_
   refine Vf ?_
   refine Va (Yd rfl) rfl ?_
   refine Vh ?_
   refine Xj ?_
   obtain rfl := Wd hF
   refine fnR ?_
   exact Vq ⟨rfl, trivial⟩
  ·have hF := Ys c3 hF
   refine Xy ?_
   refine Vi ?_
   refine Vi ?_
   refine Vf ?_
   refine Va (Xw rfl) rfl ?_
   refine Va (Xp (Xx rfl rfl te_27) (congrArg (fun n : Nat => Wb .i64 (n : Int)) (Wh _))) rfl ?_
   refine Va (Vm rfl) rfl ?_
   refine Vh ?_
   refine Yp ?_
   obtain ⟨o5, ho5, hF⟩ := Yt hF
   refine Vx (vwp_loopC (F_belts_sound_L1 p0) (fun s4 E' lw lc => Xv E' lw lc [(0, .vs 2 (Wa T_Belt.enc p0)), (12, .vs 2 (Wa T_Belt.enc p0)), (13, .int .i64 ((p0).length : Int)), (14, .int .i64 s4)] low []) (Sum.elim (fun j6 => OnlyE .ret (fun E' lw lc => Xv E' lw lc [(2, .bool false)] low [])) (fun j7 => OnlyE (.exit 0) (fun E' lw lc => Xv E' lw lc [(0, .vs 2 (Wa T_Belt.enc p0))] low []))) ho5 ?_ (by rintro (_|_) _ _ _ ⟨h, _⟩ <;> cases h) ?_) ?_
   ·exact Vq ⟨rfl, rfl, rfl, rfl, trivial⟩
   ·rintro s4 os4 _ _ _ hF hw
    unfold F_belts_sound_L1 at hF
    refine Xz hw ?_
    refine Vi ?_
    refine Vf ?_
    refine Va (rd_lss rfl rfl) rfl ?_
    refine Vh ?_
    refine Vi ?_
    refine Xq rfl (fun c8 => ?_) (fun c8 => ?_)
    ·have hF := Yr c8 hF
     refine Xy ?_
     refine Vi ?_
     refine Yp ?_
     refine Vi ?_
     refine Vf ?_
     obtain ⟨x9, h10, hF⟩ := Yt hF
     refine Va (Vm rfl) rfl ?_
     refine Va (Xp (Yn rfl rfl h10 te_27 ts_31) (v' := .vptr [.int .i64 x9.Onto, .int .i64 x9.Warn] 0) rfl) rfl ?_
     refine Va (rd_loadVN (ds := [.int .i64 x9.Onto, .int .i64 x9.Warn]) rfl ta_31 ts_31 rfl rfl) rfl ?_
     refine Vj (Xi rfl rfl tz_31 rfl rfl (Wf _) rfl) rfl ?_
     refine Va (Xr rfl) rfl ?_
     refine Vj (Xo (p := .agg [.int .i64 x9.Onto, .int .i64 x9.Warn]) (e' := .agg [.int .i64 x9.Onto, .int .i64 x9.Warn]) rfl (Vg rfl rfl) rfl rfl ts_31 rfl (Yv rfl) rfl (We rfl) rfl (Ym rfl rfl)) rfl ?_
     refine Vh ?_
     refine Vi ?_
     obtain ⟨o11, ho11, hF⟩ := Yt hF
     refine Vx (Q' := (fun o11 => OnlyE .normal (fun E' lw lc => Xv E' lw lc [(0, .vs 2 (Wa T_Belt.enc p0)), (12, .vs 2 (Wa T_Belt.enc p0)), (13, .int .i64 ((p0).length : Int)), (14, .int .i64 s4), (37, .bool o11)] low [])) o11) ?_ ?_
     ·replace hF := ho11
      refine Vf ?_
      obtain ⟨x12, h13, hF⟩ := Yt hF
      rcases Wg (!x12) with c14 | c14
      ·have hF := Yr c14 hF
       refine Va (Vc rfl tf_31_0 ts_3 (by decide)) rfl ?_
       refine Va (Ve rfl (Vg rfl rfl) rfl ta_3 rfl) rfl ?_
       refine Va (Xw rfl) rfl ?_
       refine Va (Xp (Xx rfl rfl te_27) (congrArg (fun n : Nat => Wb .i64 (n : Int)) (Wh _))) rfl ?_
       refine Va (rd_sub rfl rfl rfl) rfl ?_
       refine Vj (Xt rfl Try.call33 (F_lists_In_ok h13 _)) rfl ?_
       refine Va (Zo rfl) rfl ?_
       refine Va (Vl rfl) rfl ?_
       refine Vb rfl rfl (Zx c14) rfl ?_
       refine Vb rfl rfl (Zx c14) rfl ?_
       refine Vb rfl rfl (Zx c14) rfl ?_
       refine Vb rfl rfl (Zx c14) rfl ?_
       refine Va (Vo (congrArg Wc c14) rfl) rfl ?_
       refine Va (Vl rfl) rfl ?_
       refine Vb rfl rfl (by decide) rfl ?_
       refine Vb rfl rfl (by decide) rfl ?_
       refine Vb rfl rfl (by decide) rfl ?_
       refine Vb rfl rfl (by decide) rfl ?_
       refine Va (Vo rfl rfl) rfl ?_
       refine Vh ?_
       obtain rfl := Wd hF
       refine Ye ?_
       exact Vw rfl [] (by decide) ⟨Vs rfl (.vs _ _), Vs rfl (.vs _ _), Vs rfl (.int _ _), Vs rfl (.int _ _), Vs rfl (.bool _), trivial⟩ trivial
      ·have hF := Ys c14 hF
       obtain ⟨x15, h16, hF⟩ := Yt hF
       rcases Wg (!x15) with c17 | c17
       ·have hF := Yr c17 hF
        refine Va (Vc rfl tf_31_0 ts_3 (by decide)) rfl ?_
        refine Va (Ve rfl (Vg rfl rfl) rfl ta_3 rfl) rfl ?_
        refine Va (Xw rfl) rfl ?_
        refine Va (Xp (Xx rfl rfl te_27) (congrArg (fun n : Nat => Wb .i64 (n : Int)) (Wh _))) rfl ?_
        refine Va (rd_sub rfl rfl rfl) rfl ?_
        refine Vj (Xt rfl Try.call33 (F_lists_In_ok h13 _)) rfl ?_
        refine Va (Zo rfl) rfl ?_
        refine Va (Vl rfl) rfl ?_
        refine Xh rfl rfl c14 ?_
        refine Va (Vc rfl tf_31_1 ts_3 (by decide)) rfl ?_
        refine Xh rfl rfl c14 ?_
        refine Va (Ve rfl (Vg rfl rfl) rfl ta_3 rfl) rfl ?_
        refine Xh rfl rfl c14 ?_
        refine Vj (Xt rfl Try.call33 (F_lists_In_ok h16 _)) rfl ?_
        refine Xh rfl rfl c14 ?_
        refine Va (Zo rfl) rfl ?_
        refine Va (Vp (congrArg Wc c14) rfl) rfl ?_
        refine Va (Vl rfl) rfl ?_
        refine Vb rfl rfl (Zx c17) rfl ?_
        refine Vb rfl rfl (Zx c17) rfl ?_
        refine Vb rfl rfl (Zx c17) rfl ?_
        refine Vb rfl rfl (Zx c17) rfl ?_
        refine Va (Vo (congrArg Wc c17) rfl) rfl ?_
        refine Vh ?_
        obtain rfl := Wd hF
        refine Ye ?_
        exact Vw rfl [] (by decide) ⟨Vs rfl (.vs _ _), Vs rfl (.vs _ _), Vs rfl (.int _ _), Vs rfl (.int _ _), Vs rfl (.bool _), trivial⟩ trivial
       ·have hF := Ys c17 hF
        refine Va (Vc rfl tf_31_0 ts_3 (by decide)) rfl ?_
        refine Va (Ve rfl (Vg rfl rfl) rfl ta_3 rfl) rfl ?_
        refine Va (Xw rfl) rfl ?_
        refine Va (Xp (Xx rfl rfl te_27) (congrArg (fun n : Nat => Wb .i64 (n : Int)) (Wh _))) rfl ?_
        refine Va (rd_sub rfl rfl rfl) rfl ?_
        refine Vj (Xt rfl Try.call33 (F_lists_In_ok h13 _)) rfl ?_
        refine Va (Zo rfl) rfl ?_
        refine Va (Vl rfl) rfl ?_
        refine Xh rfl rfl c14 ?_
        refine Va (Vc rfl tf_31_1 ts_3 (by decide)) rfl ?_
        refine Xh rfl rfl c14 ?_
        refine Va (Ve rfl (Vg rfl rfl) rfl ta_3 rfl) rfl ?_
        refine Xh rfl rfl c14 ?_
        refine Vj (Xt rfl Try.call33 (F_lists_In_ok h16 _)) rfl ?_
        refine Xh rfl rfl c14 ?_
        refine Va (Zo rfl) rfl ?_
        refine Va (Vp (congrArg Wc c14) rfl) rfl ?_
        refine Va (Vl rfl) rfl ?_
        refine Xh rfl rfl c17 ?_
        refine Va (Vc rfl tf_31_0 ts_3 (by decide)) rfl ?_
        refine Xh rfl rfl c17 ?_
        refine Va (Ve rfl (Vg rfl rfl) rfl ta_3 rfl) rfl ?_
        refine Xh rfl rfl c17 ?_
        refine Va (Vm rfl) rfl ?_
        refine Xh rfl rfl c17 ?_
        refine Va (Xe rfl rfl) rfl ?_
        refine Va (Vp (congrArg Wc c17) rfl) rfl ?_
        refine Vh ?_
        obtain rfl := Wd hF
        refine Ye ?_
        exact Vw rfl [] (by decide) ⟨Vs rfl (.vs _ _), Vs rfl (.vs _ _), Vs rfl (.int _ _), Vs rfl (.int _ _), Vs rfl (.bool _), trivial⟩ trivial
     ·rintro _ _ _ _ ⟨rfl, hw⟩
      refine ⟨_, _, _, hw, ?_⟩
      refine Xq rfl (fun c18 => ?_) (fun c18 => ?_)
      ·have hF := Yr c18 hF
       refine Vi ?_
       refine Vf ?_
       refine Va (Yd rfl) rfl ?_
       refine Vh ?_
       refine Xj ?_
       obtain rfl := Wd hF
       refine Ye ?_
       exact Vq ⟨rfl, trivial⟩
      ·have hF := Ys c18 hF
       refine Xy ?_
       refine Vf ?_
       refine Va (rd_add rfl rfl rfl) rfl ?_
       refine Va (Vm rfl) rfl ?_
       refine Vh ?_
       obtain rfl := Wd hF
       refine Ye ?_
       exact Vq ⟨rfl, rfl, rfl, rfl, trivial⟩
    ·have hF := Ys c8 hF
     refine vwp_exit ?_
     obtain rfl := Wd hF
     refine Ye ?_
     exact Vq ⟨rfl, trivial⟩
   ·rcases o5 with j6 | j7
    ·replace hF := elimL hF
     rintro _ _ _ _ ⟨rfl, hw⟩
     refine ⟨_, _, _, hw, ?_⟩
     obtain rfl := Wd hF
     refine fnR ?_
     exact Vq ⟨rfl, trivial⟩
    ·replace hF := elimR hF
     rintro _ _ _ _ ⟨rfl, hw⟩
     refine ⟨_, _, _, hw, ?_⟩
     refine Vi ?_
     refine Vi ?_
     refine Vf ?_
     refine Va (Xw rfl) rfl ?_
     refine Va (Xp (Xx rfl rfl te_27) (congrArg (fun n : Nat => Wb .i64 (n : Int)) (Wh _))) rfl ?_
     refine Va (Vm rfl) rfl ?_
     refine Vh ?_
     refine Yp ?_
     obtain ⟨o20, ho20, hF⟩ := Yt hF
     refine Vx (vwp_loopC (F_belts_sound_L2 p0) (fun s19 E' lw lc => Xv E' lw lc [(0, .vs 2 (Wa T_Belt.enc p0)), (40, .int .i64 ((p0).length : Int)), (41, .int .i64 s19)] low []) (Sum.elim (fun j21 => OnlyE .ret (fun E' lw lc => Xv E' lw lc [(2, .bool false)] low [])) (fun j22 => OnlyE (.exit 2) (fun E' lw lc => Xv E' lw lc [] low []))) ho20 ?_ (by rintro (_|_) _ _ _ ⟨h, _⟩ <;> cases h) ?_) ?_
     ·exact Vq ⟨rfl, rfl, rfl, trivial⟩
     ·rintro s19 os19 _ _ _ hF hw
      unfold F_belts_sound_L2 at hF
      refine Xz hw ?_
      refine Vi ?_
      refine Vf ?_
      refine Va (rd_lss rfl rfl) rfl ?_
      refine Vh ?_
      refine Vi ?_
      refine Xq rfl (fun c23 => ?_) (fun c23 => ?_)
      ·have hF := Yr c23 hF
       refine Xy ?_
       refine Vi ?_
       refine Yp ?_
       refine Vi ?_
       refine Vf ?_
       refine Va (Vm rfl) rfl ?_
       refine Va (Xr rfl) rfl ?_
       refine Vh ?_
       refine Vi ?_
       refine Vf ?_
       refine Va (Xr rfl) rfl ?_
       refine Vh ?_
       refine Vi ?_
       refine Vf ?_
       refine Va (Vm rfl) rfl ?_
       refine Va (Xr rfl) rfl ?_
       refine Vh ?_
       refine Yp ?_
       obtain ⟨o25, ho25, hF⟩ := Yt hF
       refine Vx (vwp_loopC (F_belts_sound_L3 p0) (fun s24 E' lw lc => Xv E' lw lc [(0, .vs 2 (Wa T_Belt.enc p0)), (6, .int .i64 s24.1), (7, .int .i64 s24.2), (40, .int .i64 ((p0).length : Int)), (41, .int .i64 s19)] low []) (Sum.elim (fun j26 => OnlyE .ret (fun E' lw lc => Xv E' lw lc [(2, .bool false)] low [])) (fun j27 => OnlyE (.exit 4) (fun E' lw lc => Xv E' lw lc [(0, .vs 2 (Wa T_Belt.enc p0)), (40, .int .i64 ((p0).length : Int)), (41, .int .i64 s19)] low []))) ho25 ?_ (by rintro (_|_) _ _ _ ⟨h, _⟩ <;> cases h) ?_) ?_
       ·exact Vq ⟨rfl, rfl, rfl, rfl, rfl, trivial⟩
       ·rintro s24 os24 _ _ _ hF hw
        unfold F_belts_sound_L3 at hF
        refine Xz hw ?_
        refine Vi ?_
        refine Vi ?_
        refine Vf ?_
        refine Va (Vm rfl) rfl ?_
        refine Va (rd_geq rfl rfl) rfl ?_
        refine Vh ?_
        refine Xq rfl (fun c28 => ?_) (fun c28 => ?_)
        ·have hF := Yr c28 hF
         refine Xy ?_
         refine Vi ?_
         refine Yp ?_
         refine Vi ?_
         refine Vf ?_
         refine Va (Vm rfl) rfl ?_
         refine Va (rd_add rfl rfl rfl) rfl ?_
         refine Va (Xr rfl) rfl ?_
         refine Vh ?_
         refine Vi ?_
         refine Vf ?_
         refine Va (Vm rfl) rfl ?_
         refine Va (Xw rfl) rfl ?_
         refine Va (Xp (Xx rfl rfl te_27) (congrArg (fun n : Nat => Wb .i64 (n : Int)) (Wh _))) rfl ?_
         refine Va (rd_gtr rfl rfl) rfl ?_
         refine Vh ?_
         refine Xq rfl (fun c29 => ?_) (fun c29 => ?_)
         ·have hF := Yr c29 hF
          refine Vi ?_
          refine Vf ?_
          refine Va (Yd rfl) rfl ?_
          refine Vh ?_
          refine Xj ?_
          obtain rfl := Wd hF
          refine Ye ?_
          exact Vq ⟨rfl, trivial⟩
         ·have hF := Ys c29 hF
          refine Xy ?_
          refine Vf ?_
          obtain ⟨x30, h31, hF⟩ := Yt hF
          refine Va (Xw rfl) rfl ?_
          refine Va (Vm rfl) rfl ?_
          refine Va (Xp (Yn rfl rfl h31 te_27 ts_31) (v' := .vptr [.int .i64 x30.Onto, .int .i64 x30.Warn] 0) rfl) rfl ?_
          refine Va (Zv rfl tf_31_0 ts_3 (by decide)) rfl ?_
          refine Va (Xm rfl ta_3 rfl) rfl ?_
          refine Va (Xr rfl) rfl ?_
          refine Vh ?_
          obtain rfl := Wd hF
          refine Ye ?_
          exact Vq ⟨rfl, rfl, rfl, rfl, rfl, trivial⟩
        ·have hF := Ys c28 hF
         refine vwp_exit ?_
         obtain rfl := Wd hF
         refine Ye ?_
         exact Vq ⟨rfl, rfl, rfl, trivial⟩
       ·rcases o25 with j26 | j27
        ·replace hF := elimL hF
         rintro _ _ _ _ ⟨rfl, hw⟩
         refine ⟨_, _, _, hw, ?_⟩
         obtain rfl := Wd hF
         refine Ye ?_
         exact Vq ⟨rfl, trivial⟩
        ·replace hF := elimR hF
         rintro _ _ _ _ ⟨rfl, hw⟩
         refine ⟨_, _, _, hw, ?_⟩
         refine Vf ?_
         refine Va (rd_add rfl rfl rfl) rfl ?_
         refine Va (Vm rfl) rfl ?_
         refine Vh ?_
         obtain rfl := Wd hF
         refine Ye ?_
         exact Vq ⟨rfl, rfl, rfl, trivial⟩
      ·have hF := Ys c23 hF
       refine vwp_exit ?_
       obtain rfl := Wd hF
       refine Ye ?_
       exact Vq trivial
     ·rcases o20 with j21 | j22
      ·replace hF := elimL hF
       rintro _ _ _ _ ⟨rfl, hw⟩
       refine ⟨_, _, _, hw, ?_⟩
       obtain rfl := Wd hF
       refine fnR ?_
       exact Vq ⟨rfl, trivial⟩
      ·replace hF := elimR hF
       rintro _ _ _ _ ⟨rfl, hw⟩
       refine ⟨_, _, _, hw, ?_⟩
       refine Vi ?_
       refine Vf ?_
       refine Va (Yd rfl) rfl ?_
       refine Vh ?_
       refine Xj ?_
       obtain rfl := Wd hF
       refine fnR ?_
       exact Vq ⟨rfl, trivial⟩
 ·rintro _ _ _ _ ⟨he, hw⟩
  refine ⟨_, _, _, hw, ?_⟩
  exact Yw he [.bool r] ⟨rfl, trivial⟩ (.bool _) ⟨rfl, rfl⟩

theorem F_belts_Make_ok {p0 : List T_Belt} {r : T_Line × Int} (hF : F_belts_Make p0 = some r) (low : List AObj) :
    Yk Try.prog 12 [.vs 2 (Wa T_Belt.enc p0)] low fun x low' => x = .tup [.agg [.int .i64 r.1.Time, .vs 1 (Wa (Wb .i64) r.1.States), .vs 1 (Wa (Wb .i64) r.1.Since), .vs 1 (Wa Wc r.1.Pulled), .vs 1 (Wa Wc r.1.Held)], .int .i64 r.2] ∧ low' = low := by
 refine Vz (nt := 20) (rs := [.cell 2 34, .tmp 3]) Try.func12 rfl rfl (We rfl) rfl ?_
 refine Vx (Q' := FnE (fun E' lw lc => Xv E' lw lc [(2, .ptr (low.length + 0) 0 0 0), (3, .int .i64 r.2)] low [⟨34, 5, [.agg [.int .i64 r.1.Time, .vs 1 (Wa (Wb .i64) r.1.States), .vs 1 (Wa (Wb .i64) r.1.Since), .vs 1 (Wa Wc r.1.Pulled), .vs 1 (Wa Wc r.1.Held)]], 0⟩])) ?_ ?_
 ·unfold F_belts_Make at hF
  refine Vi ?_
  refine Vf ?_
  refine Vj (Xi rfl rfl tz_34 rfl rfl (Wf _) rfl) rfl ?_
  refine Va (Xr rfl) rfl ?_
  refine Vh ?_
  refine Vi ?_
  refine Vi ?_
  refine Vf ?_
  obtain ⟨x1, h2, hF⟩ := Yt hF
  refine Va (Xw rfl) rfl ?_
  refine Vj (Xt rfl Try.call29 (F_belts_sound_ok h2 _)) rfl ?_
  refine Va (Zo rfl) rfl ?_
  refine Vh ?_
  refine Xq rfl (fun c3 => ?_) (fun c3 => ?_)
  ·have hF := Yr c3 hF
   refine Vi ?_
   refine Vf ?_
   refine Va (rd_nc (Zt (vs := []) (ds := [.int .i64 0, .nils, .nils, .nils, .nils]) tz_34 rfl rfl tp_34 trivial (nt_all2 rfl) rfl) (nc_agg (cs := [.int .i64 0, .nils, .nils, .nils, .nils]) (ds := [.int .i64 0, .vs 1 (Wa (Wb .i64) ([] : List Int)), .vs 1 (Wa (Wb .i64) ([] : List Int)), .vs 1 (Wa Wc ([] : List Bool)), .vs 1 (Wa Wc ([] : List Bool))]) rfl rfl ⟨nc_eq rfl, nc_nil rfl rfl, nc_nil rfl rfl, nc_nil rfl rfl, nc_nil rfl rfl, trivial⟩)) rfl ?_
   refine Vj (Xo (p := .agg [.int .i64 0, .vs 1 (Wa (Wb .i64) ([] : List Int)), .vs 1 (Wa (Wb .i64) ([] : List Int)), .vs 1 (Wa Wc ([] : List Bool)), .vs 1 (Wa Wc ([] : List Bool))]) (e' := .agg [.int .i64 0, .vs 1 (Wa (Wb .i64) ([] : List Int)), .vs 1 (Wa (Wb .i64) ([] : List Int)), .vs 1 (Wa Wc ([] : List Bool)), .vs 1 (Wa Wc ([] : List Bool))]) rfl (Vg rfl rfl) rfl rfl ts_34 rfl (Yv rfl) rfl (We rfl) rfl (Ym rfl rfl)) rfl ?_
   refine Va (Xr rfl) rfl ?_
   refine Vh ?_
   refine Xj ?_
   obtain rfl := Wd hF
   refine fnR ?_
   exact Vq ⟨rfl, rfl, trivial⟩
  ·have hF := Ys c3 hF
   refine Xy ?_
   refine Vi ?_
   refine Vf ?_
   refine Va (Xw rfl) rfl ?_
   refine Va (Xp (Xx rfl rfl te_27) (congrArg (fun n : Nat => Wb .i64 (n : Int)) (Wh _))) rfl ?_
   refine Va (Xr rfl) rfl ?_
   refine Vh ?_
   refine Vi ?_
   obtain ⟨x4, h5, hF⟩ := Yt hF
   obtain ⟨x6, h7, hF⟩ := Yt hF
   obtain ⟨x8, h9, hF⟩ := Yt hF
   obtain ⟨x10, h11, hF⟩ := Yt hF
   refine Xz (Yj 3 1 (Wf _)) ?_
   refine Xz (Yj 3 1 (Wf _)) ?_
   refine Xz (Yj 4 1 (Wf _)) ?_
   refine Xz (Yj 4 1 (Wf _)) ?_
   refine vwp_drawnX [[], [0], [], [2], [], [4], [], [6], [0, 1, 2, 3, 4, 5, 6, 7], [0, 1, 2, 3, 4, 5, 6, 7, 8], [0, 1, 2, 3, 4, 5, 6, 7, 8, 9]] [false, true, false, true, false, true, false, true, false, true, false] [([], low, [⟨34, 5, [.agg [.int .i64 0, .nils, .nils, .nils, .nils]], 0⟩, ⟨3, 1, [], 0⟩, ⟨3, 1, [], 0⟩, ⟨4, 1, [], 0⟩, ⟨4, 1, [], 0⟩]), ([1], low, [⟨34, 5, [.agg [.int .i64 0, .nils, .nils, .nils, .nils]], 0⟩, ⟨3, 1, Wa (Wb .i64) x4, 1⟩, ⟨3, 1, [], 0⟩, ⟨4, 1, [], 0⟩, ⟨4, 1, [], 0⟩]), ([3], low, [⟨34, 5, [.agg [.int .i64 0, .nils, .nils, .nils, .nils]], 0⟩, ⟨3, 1, [], 0⟩, ⟨3, 1, Wa (Wb .i64) x6, 1⟩, ⟨4, 1, [], 0⟩, ⟨4, 1, [], 0⟩]), ([5], low, [⟨34, 5, [.agg [.int .i64 0, .nils, .nils, .nils, .nils]], 0⟩, ⟨3, 1, [], 0⟩, ⟨3, 1, [], 0⟩, ⟨4, 1, Wa Wc x8, 1⟩, ⟨4, 1, [], 0⟩]), ([7], low, [⟨34, 5, [.agg [.int .i64 0, .nils, .nils, .nils, .nils]], 0⟩, ⟨3, 1, [], 0⟩, ⟨3, 1, [], 0⟩, ⟨4, 1, [], 0⟩, ⟨4, 1, Wa Wc x10, 1⟩]), ([1, 3], low, [⟨34, 5, [.agg [.int .i64 0, .nils, .nils, .nils, .nils]], 0⟩, ⟨3, 1, Wa (Wb .i64) x4, 1⟩, ⟨3, 1, Wa (Wb .i64) x6, 1⟩, ⟨4, 1, [], 0⟩, ⟨4, 1, [], 0⟩]), ([1, 5], low, [⟨34, 5, [.agg [.int .i64 0, .nils, .nils, .nils, .nils]], 0⟩, ⟨3, 1, Wa (Wb .i64) x4, 1⟩, ⟨3, 1, [], 0⟩, ⟨4, 1, Wa Wc x8, 1⟩, ⟨4, 1, [], 0⟩]), ([1, 7], low, [⟨34, 5, [.agg [.int .i64 0, .nils, .nils, .nils, .nils]], 0⟩, ⟨3, 1, Wa (Wb .i64) x4, 1⟩, ⟨3, 1, [], 0⟩, ⟨4, 1, [], 0⟩, ⟨4, 1, Wa Wc x10, 1⟩]), ([3, 5], low, [⟨34, 5, [.agg [.int .i64 0, .nils, .nils, .nils, .nils]], 0⟩, ⟨3, 1, [], 0⟩, ⟨3, 1, Wa (Wb .i64) x6, 1⟩, ⟨4, 1, Wa Wc x8, 1⟩, ⟨4, 1, [], 0⟩]), ([3, 7], low, [⟨34, 5, [.agg [.int .i64 0, .nils, .nils, .nils, .nils]], 0⟩, ⟨3, 1, [], 0⟩, ⟨3, 1, Wa (Wb .i64) x6, 1⟩, ⟨4, 1, [], 0⟩, ⟨4, 1, Wa Wc x10, 1⟩]), ([5, 7], low, [⟨34, 5, [.agg [.int .i64 0, .nils, .nils, .nils, .nils]], 0⟩, ⟨3, 1, [], 0⟩, ⟨3, 1, [], 0⟩, ⟨4, 1, Wa Wc x8, 1⟩, ⟨4, 1, Wa Wc x10, 1⟩]), ([1, 3, 5], low, [⟨34, 5, [.agg [.int .i64 0, .nils, .nils, .nils, .nils]], 0⟩, ⟨3, 1, Wa (Wb .i64) x4, 1⟩, ⟨3, 1, Wa (Wb .i64) x6, 1⟩, ⟨4, 1, Wa Wc x8, 1⟩, ⟨4, 1, [], 0⟩]), ([1, 3, 7], low, [⟨34, 5, [.agg [.int .i64 0, .nils, .nils, .nils, .nils]], 0⟩, ⟨3, 1, Wa (Wb .i64) x4, 1⟩, ⟨3, 1, Wa (Wb .i64) x6, 1⟩, ⟨4, 1, [], 0⟩, ⟨4, 1, Wa Wc x10, 1⟩]), ([1, 5, 7], low, [⟨34, 5, [.agg [.int .i64 0, .nils, .nils, .nils, .nils]], 0⟩, ⟨3, 1, Wa (Wb .i64) x4, 1⟩, ⟨3, 1, [], 0⟩, ⟨4, 1, Wa Wc x8, 1⟩, ⟨4, 1, Wa Wc x10, 1⟩]), ([3, 5, 7], low, [⟨34, 5, [.agg [.int .i64 0, .nils, .nils, .nils, .nils]], 0⟩, ⟨3, 1, [], 0⟩, ⟨3, 1, Wa (Wb .i64) x6, 1⟩, ⟨4, 1, Wa Wc x8, 1⟩, ⟨4, 1, Wa Wc x10, 1⟩]), ([1, 3, 5, 7], low, [⟨34, 5, [.agg [.int .i64 0, .nils, .nils, .nils, .nils]], 0⟩, ⟨3, 1, Wa (Wb .i64) x4, 1⟩, ⟨3, 1, Wa (Wb .i64) x6, 1⟩, ⟨4, 1, Wa Wc x8, 1⟩, ⟨4, 1, Wa Wc x10, 1⟩]), ([1, 3, 5, 7, 9], low, [⟨34, 5, [.agg [.int .i64 0, .sl (low.length + 1) 1 0 (x4).length, .sl (low.length + 2) 1 0 (x6).length, .sl (low.length + 3) 1 0 (x8).length, .sl (low.length + 4) 1 0 (x10).length]], 0⟩, ⟨3, 1, Wa (Wb .i64) x4, 1⟩, ⟨3, 1, Wa (Wb .i64) x6, 1⟩, ⟨4, 1, Wa Wc x8, 1⟩, ⟨4, 1, Wa Wc x10, 1⟩])] mixed (by kernel_rfl) rfl (lenAllX (Yg rfl (Yg rfl (Yg rfl (Yg rfl (Yg rfl (Yg rfl (Yg rfl (Yg rfl (Yg rfl (Yg rfl (Yg rfl (Yg rfl (Yg rfl (Yg rfl (Yg rfl (Yg rfl (Yg rfl allx0)))))))))))))))))) rfl [1, 3, 5, 7, 9] (low, [⟨34, 5, [.agg [.int .i64 0, .sl (low.length + 1) 1 0 (x4).length, .sl (low.length + 2) 1 0 (x6).length, .sl (low.length + 3) 1 0 (x8).length, .sl (low.length + 4) 1 0 (x10).length]], 0⟩, ⟨3, 1, Wa (Wb .i64) x4, 1⟩, ⟨3, 1, Wa (Wb .i64) x6, 1⟩, ⟨4, 1, Wa Wc x8, 1⟩, ⟨4, 1, Wa Wc x10, 1⟩]) rfl rfl ?_
   refine Xn _ rfl rfl (Xg (VRd.ntl (Vm rfl)) (Xg (VRd.ntl (Vm rfl)) (Xg (VRd.ntl (Vm rfl)) (Xg (VRd.ntl (Vm rfl)) (Xg (VRd.ntl (Vm rfl)) (Xg (VRd.ntl (Vm rfl)) (Xg (VRd.ntl (Vm rfl)) (Xg (VRd.ntl (Vm rfl)) rx0)))))))) ?_
   refine Yo _ rfl rfl (Zs 1 rfl (Vr (f := 5) (k := 1) (m := 1) (os := [⟨3, 1, Wa (Wb .i64) x4, 0⟩]) (os' := [⟨3, 1, Wa (Wb .i64) x4, 1⟩]) (v := .sl (low.length + 5) 0 0 (x4).length) rfl rfl rfl ⟨⟨_, rfl, rfl⟩, trivial⟩ (Yz (f := (Wb .i64)) (zz := 0) rfl rfl rfl rfl te_22 ts_3 tb_3 (by decide) tz_3 rfl rfl (Wf _) rfl h5) (Yi 0 rfl rfl rfl rfl) ⟨.same _ _ _ (Vk (fun _ => .int _ _)), trivial⟩ rfl) (Zs 5 rfl (Vr (f := 5) (k := 1) (m := 1) (os := [⟨3, 1, Wa (Wb .i64) x4, 0⟩]) (os' := [⟨3, 1, Wa (Wb .i64) x4, 1⟩]) (v := .sl (low.length + 5) 0 0 (x4).length) rfl rfl rfl ⟨⟨_, rfl, rfl⟩, trivial⟩ (Yz (f := (Wb .i64)) (zz := 0) rfl rfl rfl rfl te_22 ts_3 tb_3 (by decide) tz_3 rfl rfl (Wf _) rfl h5) (Yi 0 rfl rfl rfl rfl) ⟨.same _ _ _ (Vk (fun _ => .int _ _)), trivial⟩ rfl) (Zs 6 rfl (Vr (f := 5) (k := 1) (m := 1) (os := [⟨3, 1, Wa (Wb .i64) x4, 0⟩]) (os' := [⟨3, 1, Wa (Wb .i64) x4, 1⟩]) (v := .sl (low.length + 5) 0 0 (x4).length) rfl rfl rfl ⟨⟨_, rfl, rfl⟩, trivial⟩ (Yz (f := (Wb .i64)) (zz := 0) rfl rfl rfl rfl te_22 ts_3 tb_3 (by decide) tz_3 rfl rfl (Wf _) rfl h5) (Yi 0 rfl rfl rfl rfl) ⟨.same _ _ _ (Vk (fun _ => .int _ _)), trivial⟩ rfl) (Zs 7 rfl (Vr (f := 5) (k := 1) (m := 1) (os := [⟨3, 1, Wa (Wb .i64) x4, 0⟩]) (os' := [⟨3, 1, Wa (Wb .i64) x4, 1⟩]) (v := .sl (low.length + 5) 0 0 (x4).length) rfl rfl rfl ⟨⟨_, rfl, rfl⟩, trivial⟩ (Yz (f := (Wb .i64)) (zz := 0) rfl rfl rfl rfl te_22 ts_3 tb_3 (by decide) tz_3 rfl rfl (Wf _) rfl h5) (Yi 0 rfl rfl rfl rfl) ⟨.same _ _ _ (Vk (fun _ => .int _ _)), trivial⟩ rfl) (Zs 11 rfl (Vr (f := 5) (k := 1) (m := 1) (os := [⟨3, 1, Wa (Wb .i64) x4, 0⟩]) (os' := [⟨3, 1, Wa (Wb .i64) x4, 1⟩]) (v := .sl (low.length + 5) 0 0 (x4).length) rfl rfl rfl ⟨⟨_, rfl, rfl⟩, trivial⟩ (Yz (f := (Wb .i64)) (zz := 0) rfl rfl rfl rfl te_22 ts_3 tb_3 (by decide) tz_3 rfl rfl (Wf _) rfl h5) (Yi 0 rfl rfl rfl rfl) ⟨.same _ _ _ (Vk (fun _ => .int _ _)), trivial⟩ rfl) (Zs 12 rfl (Vr (f := 5) (k := 1) (m := 1) (os := [⟨3, 1, Wa (Wb .i64) x4, 0⟩]) (os' := [⟨3, 1, Wa (Wb .i64) x4, 1⟩]) (v := .sl (low.length + 5) 0 0 (x4).length) rfl rfl rfl ⟨⟨_, rfl, rfl⟩, trivial⟩ (Yz (f := (Wb .i64)) (zz := 0) rfl rfl rfl rfl te_22 ts_3 tb_3 (by decide) tz_3 rfl rfl (Wf _) rfl h5) (Yi 0 rfl rfl rfl rfl) ⟨.same _ _ _ (Vk (fun _ => .int _ _)), trivial⟩ rfl) (Zs 13 rfl (Vr (f := 5) (k := 1) (m := 1) (os := [⟨3, 1, Wa (Wb .i64) x4, 0⟩]) (os' := [⟨3, 1, Wa (Wb .i64) x4, 1⟩]) (v := .sl (low.length + 5) 0 0 (x4).length) rfl rfl rfl ⟨⟨_, rfl, rfl⟩, trivial⟩ (Yz (f := (Wb .i64)) (zz := 0) rfl rfl rfl rfl te_22 ts_3 tb_3 (by decide) tz_3 rfl rfl (Wf _) rfl h5) (Yi 0 rfl rfl rfl rfl) ⟨.same _ _ _ (Vk (fun _ => .int _ _)), trivial⟩ rfl) (Zs 15 rfl (Vr (f := 5) (k := 1) (m := 1) (os := [⟨3, 1, Wa (Wb .i64) x4, 0⟩]) (os' := [⟨3, 1, Wa (Wb .i64) x4, 1⟩]) (v := .sl (low.length + 5) 0 0 (x4).length) rfl rfl rfl ⟨⟨_, rfl, rfl⟩, trivial⟩ (Yz (f := (Wb .i64)) (zz := 0) rfl rfl rfl rfl te_22 ts_3 tb_3 (by decide) tz_3 rfl rfl (Wf _) rfl h5) (Yi 0 rfl rfl rfl rfl) ⟨.same _ _ _ (Vk (fun _ => .int _ _)), trivial⟩ rfl) ex0)))))))) ?_
   refine Xn _ rfl rfl (Xg (VRd.ntl (Vm rfl)) (Xg (VRd.ntl (Vm rfl)) (Xg (VRd.ntl (Vm rfl)) (Xg (VRd.ntl (Vm rfl)) (Xg (VRd.ntl (Vm rfl)) (Xg (VRd.ntl (Vm rfl)) (Xg (VRd.ntl (Vm rfl)) (Xg (VRd.ntl (Vm rfl)) rx0)))))))) ?_
   refine Yo _ rfl rfl (Zs 2 rfl (Vr (f := 5) (k := 2) (m := 1) (os := [⟨3, 1, Wa (Wb .i64) x6, 0⟩]) (os' := [⟨3, 1, Wa (Wb .i64) x6, 1⟩]) (v := .sl (low.length + 5) 0 0 (x6).length) rfl rfl rfl ⟨⟨_, rfl, rfl⟩, trivial⟩ (Yz (f := (Wb .i64)) (zz := 0) rfl rfl rfl rfl te_22 ts_3 tb_3 (by decide) tz_3 rfl rfl (Wf _) rfl h7) (Yi 0 rfl rfl rfl rfl) ⟨.same _ _ _ (Vk (fun _ => .int _ _)), trivial⟩ rfl) (Zs 5 rfl (Vr (f := 5) (k := 2) (m := 1) (os := [⟨3, 1, Wa (Wb .i64) x6, 0⟩]) (os' := [⟨3, 1, Wa (Wb .i64) x6, 1⟩]) (v := .sl (low.length + 5) 0 0 (x6).length) rfl rfl rfl ⟨⟨_, rfl, rfl⟩, trivial⟩ (Yz (f := (Wb .i64)) (zz := 0) rfl rfl rfl rfl te_22 ts_3 tb_3 (by decide) tz_3 rfl rfl (Wf _) rfl h7) (Yi 0 rfl rfl rfl rfl) ⟨.same _ _ _ (Vk (fun _ => .int _ _)), trivial⟩ rfl) (Zs 8 rfl (Vr (f := 5) (k := 2) (m := 1) (os := [⟨3, 1, Wa (Wb .i64) x6, 0⟩]) (os' := [⟨3, 1, Wa (Wb .i64) x6, 1⟩]) (v := .sl (low.length + 5) 0 0 (x6).length) rfl rfl rfl ⟨⟨_, rfl, rfl⟩, trivial⟩ (Yz (f := (Wb .i64)) (zz := 0) rfl rfl rfl rfl te_22 ts_3 tb_3 (by decide) tz_3 rfl rfl (Wf _) rfl h7) (Yi 0 rfl rfl rfl rfl) ⟨.same _ _ _ (Vk (fun _ => .int _ _)), trivial⟩ rfl) (Zs 9 rfl (Vr (f := 5) (k := 2) (m := 1) (os := [⟨3, 1, Wa (Wb .i64) x6, 0⟩]) (os' := [⟨3, 1, Wa (Wb .i64) x6, 1⟩]) (v := .sl (low.length + 5) 0 0 (x6).length) rfl rfl rfl ⟨⟨_, rfl, rfl⟩, trivial⟩ (Yz (f := (Wb .i64)) (zz := 0) rfl rfl rfl rfl te_22 ts_3 tb_3 (by decide) tz_3 rfl rfl (Wf _) rfl h7) (Yi 0 rfl rfl rfl rfl) ⟨.same _ _ _ (Vk (fun _ => .int _ _)), trivial⟩ rfl) (Zs 11 rfl (Vr (f := 5) (k := 2) (m := 1) (os := [⟨3, 1, Wa (Wb .i64) x6, 0⟩]) (os' := [⟨3, 1, Wa (Wb .i64) x6, 1⟩]) (v := .sl (low.length + 5) 0 0 (x6).length) rfl rfl rfl ⟨⟨_, rfl, rfl⟩, trivial⟩ (Yz (f := (Wb .i64)) (zz := 0) rfl rfl rfl rfl te_22 ts_3 tb_3 (by decide) tz_3 rfl rfl (Wf _) rfl h7) (Yi 0 rfl rfl rfl rfl) ⟨.same _ _ _ (Vk (fun _ => .int _ _)), trivial⟩ rfl) (Zs 12 rfl (Vr (f := 5) (k := 2) (m := 1) (os := [⟨3, 1, Wa (Wb .i64) x6, 0⟩]) (os' := [⟨3, 1, Wa (Wb .i64) x6, 1⟩]) (v := .sl (low.length + 5) 0 0 (x6).length) rfl rfl rfl ⟨⟨_, rfl, rfl⟩, trivial⟩ (Yz (f := (Wb .i64)) (zz := 0) rfl rfl rfl rfl te_22 ts_3 tb_3 (by decide) tz_3 rfl rfl (Wf _) rfl h7) (Yi 0 rfl rfl rfl rfl) ⟨.same _ _ _ (Vk (fun _ => .int _ _)), trivial⟩ rfl) (Zs 14 rfl (Vr (f := 5) (k := 2) (m := 1) (os := [⟨3, 1, Wa (Wb .i64) x6, 0⟩]) (os' := [⟨3, 1, Wa (Wb .i64) x6, 1⟩]) (v := .sl (low.length + 5) 0 0 (x6).length) rfl rfl rfl ⟨⟨_, rfl, rfl⟩, trivial⟩ (Yz (f := (Wb .i64)) (zz := 0) rfl rfl rfl rfl te_22 ts_3 tb_3 (by decide) tz_3 rfl rfl (Wf _) rfl h7) (Yi 0 rfl rfl rfl rfl) ⟨.same _ _ _ (Vk (fun _ => .int _ _)), trivial⟩ rfl) (Zs 15 rfl (Vr (f := 5) (k := 2) (m := 1) (os := [⟨3, 1, Wa (Wb .i64) x6, 0⟩]) (os' := [⟨3, 1, Wa (Wb .i64) x6, 1⟩]) (v := .sl (low.length + 5) 0 0 (x6).length) rfl rfl rfl ⟨⟨_, rfl, rfl⟩, trivial⟩ (Yz (f := (Wb .i64)) (zz := 0) rfl rfl rfl rfl te_22 ts_3 tb_3 (by decide) tz_3 rfl rfl (Wf _) rfl h7) (Yi 0 rfl rfl rfl rfl) ⟨.same _ _ _ (Vk (fun _ => .int _ _)), trivial⟩ rfl) ex0)))))))) ?_
   refine Xn _ rfl rfl (Xg (VRd.ntl (Vm rfl)) (Xg (VRd.ntl (Vm rfl)) (Xg (VRd.ntl (Vm rfl)) (Xg (VRd.ntl (Vm rfl)) (Xg (VRd.ntl (Vm rfl)) (Xg (VRd.ntl (Vm rfl)) (Xg (VRd.ntl (Vm rfl)) (Xg (VRd.ntl (Vm rfl)) rx0)))))))) ?_
   refine Yo _ rfl rfl (Zs 3 rfl (Vr (f := 5) (k := 3) (m := 1) (os := [⟨4, 1, Wa Wc x8, 0⟩]) (os' := [⟨4, 1, Wa Wc x8, 1⟩]) (v := .sl (low.length + 5) 0 0 (x8).length) rfl rfl rfl ⟨⟨_, rfl, rfl⟩, trivial⟩ (Yz (f := Wc) (zz := false) rfl rfl rfl rfl te_32 ts_4 tb_4 (by decide) tz_4 rfl rfl (Wf _) rfl h9) (Yi 0 rfl rfl rfl rfl) ⟨.same _ _ _ (Vk (fun _ => .bool _)), trivial⟩ rfl) (Zs 6 rfl (Vr (f := 5) (k := 3) (m := 1) (os := [⟨4, 1, Wa Wc x8, 0⟩]) (os' := [⟨4, 1, Wa Wc x8, 1⟩]) (v := .sl (low.length + 5) 0 0 (x8).length) rfl rfl rfl ⟨⟨_, rfl, rfl⟩, trivial⟩ (Yz (f := Wc) (zz := false) rfl rfl rfl rfl te_32 ts_4 tb_4 (by decide) tz_4 rfl rfl (Wf _) rfl h9) (Yi 0 rfl rfl rfl rfl) ⟨.same _ _ _ (Vk (fun _ => .bool _)), trivial⟩ rfl) (Zs 8 rfl (Vr (f := 5) (k := 3) (m := 1) (os := [⟨4, 1, Wa Wc x8, 0⟩]) (os' := [⟨4, 1, Wa Wc x8, 1⟩]) (v := .sl (low.length + 5) 0 0 (x8).length) rfl rfl rfl ⟨⟨_, rfl, rfl⟩, trivial⟩ (Yz (f := Wc) (zz := false) rfl rfl rfl rfl te_32 ts_4 tb_4 (by decide) tz_4 rfl rfl (Wf _) rfl h9) (Yi 0 rfl rfl rfl rfl) ⟨.same _ _ _ (Vk (fun _ => .bool _)), trivial⟩ rfl) (Zs 10 rfl (Vr (f := 5) (k := 3) (m := 1) (os := [⟨4, 1, Wa Wc x8, 0⟩]) (os' := [⟨4, 1, Wa Wc x8, 1⟩]) (v := .sl (low.length + 5) 0 0 (x8).length) rfl rfl rfl ⟨⟨_, rfl, rfl⟩, trivial⟩ (Yz (f := Wc) (zz := false) rfl rfl rfl rfl te_32 ts_4 tb_4 (by decide) tz_4 rfl rfl (Wf _) rfl h9) (Yi 0 rfl rfl rfl rfl) ⟨.same _ _ _ (Vk (fun _ => .bool _)), trivial⟩ rfl) (Zs 11 rfl (Vr (f := 5) (k := 3) (m := 1) (os := [⟨4, 1, Wa Wc x8, 0⟩]) (os' := [⟨4, 1, Wa Wc x8, 1⟩]) (v := .sl (low.length + 5) 0 0 (x8).length) rfl rfl rfl ⟨⟨_, rfl, rfl⟩, trivial⟩ (Yz (f := Wc) (zz := false) rfl rfl rfl rfl te_32 ts_4 tb_4 (by decide) tz_4 rfl rfl (Wf _) rfl h9) (Yi 0 rfl rfl rfl rfl) ⟨.same _ _ _ (Vk (fun _ => .bool _)), trivial⟩ rfl) (Zs 13 rfl (Vr (f := 5) (k := 3) (m := 1) (os := [⟨4, 1, Wa Wc x8, 0⟩]) (os' := [⟨4, 1, Wa Wc x8, 1⟩]) (v := .sl (low.length + 5) 0 0 (x8).length) rfl rfl rfl ⟨⟨_, rfl, rfl⟩, trivial⟩ (Yz (f := Wc) (zz := false) rfl rfl rfl rfl te_32 ts_4 tb_4 (by decide) tz_4 rfl rfl (Wf _) rfl h9) (Yi 0 rfl rfl rfl rfl) ⟨.same _ _ _ (Vk (fun _ => .bool _)), trivial⟩ rfl) (Zs 14 rfl (Vr (f := 5) (k := 3) (m := 1) (os := [⟨4, 1, Wa Wc x8, 0⟩]) (os' := [⟨4, 1, Wa Wc x8, 1⟩]) (v := .sl (low.length + 5) 0 0 (x8).length) rfl rfl rfl ⟨⟨_, rfl, rfl⟩, trivial⟩ (Yz (f := Wc) (zz := false) rfl rfl rfl rfl te_32 ts_4 tb_4 (by decide) tz_4 rfl rfl (Wf _) rfl h9) (Yi 0 rfl rfl rfl rfl) ⟨.same _ _ _ (Vk (fun _ => .bool _)), trivial⟩ rfl) (Zs 15 rfl (Vr (f := 5) (k := 3) (m := 1) (os := [⟨4, 1, Wa Wc x8, 0⟩]) (os' := [⟨4, 1, Wa Wc x8, 1⟩]) (v := .sl (low.length + 5) 0 0 (x8).length) rfl rfl rfl ⟨⟨_, rfl, rfl⟩, trivial⟩ (Yz (f := Wc) (zz := false) rfl rfl rfl rfl te_32 ts_4 tb_4 (by decide) tz_4 rfl rfl (Wf _) rfl h9) (Yi 0 rfl rfl rfl rfl) ⟨.same _ _ _ (Vk (fun _ => .bool _)), trivial⟩ rfl) ex0)))))))) ?_
   refine Xn _ rfl rfl (Xg (VRd.ntl (Vm rfl)) (Xg (VRd.ntl (Vm rfl)) (Xg (VRd.ntl (Vm rfl)) (Xg (VRd.ntl (Vm rfl)) (Xg (VRd.ntl (Vm rfl)) (Xg (VRd.ntl (Vm rfl)) (Xg (VRd.ntl (Vm rfl)) (Xg (VRd.ntl (Vm rfl)) rx0)))))))) ?_
   refine Yo _ rfl rfl (Zs 4 rfl (Vr (f := 5) (k := 4) (m := 1) (os := [⟨4, 1, Wa Wc x10, 0⟩]) (os' := [⟨4, 1, Wa Wc x10, 1⟩]) (v := .sl (low.length + 5) 0 0 (x10).length) rfl rfl rfl ⟨⟨_, rfl, rfl⟩, trivial⟩ (Yz (f := Wc) (zz := false) rfl rfl rfl rfl te_32 ts_4 tb_4 (by decide) tz_4 rfl rfl (Wf _) rfl h11) (Yi 0 rfl rfl rfl rfl) ⟨.same _ _ _ (Vk (fun _ => .bool _)), trivial⟩ rfl) (Zs 7 rfl (Vr (f := 5) (k := 4) (m := 1) (os := [⟨4, 1, Wa Wc x10, 0⟩]) (os' := [⟨4, 1, Wa Wc x10, 1⟩]) (v := .sl (low.length + 5) 0 0 (x10).length) rfl rfl rfl ⟨⟨_, rfl, rfl⟩, trivial⟩ (Yz (f := Wc) (zz := false) rfl rfl rfl rfl te_32 ts_4 tb_4 (by decide) tz_4 rfl rfl (Wf _) rfl h11) (Yi 0 rfl rfl rfl rfl) ⟨.same _ _ _ (Vk (fun _ => .bool _)), trivial⟩ rfl) (Zs 9 rfl (Vr (f := 5) (k := 4) (m := 1) (os := [⟨4, 1, Wa Wc x10, 0⟩]) (os' := [⟨4, 1, Wa Wc x10, 1⟩]) (v := .sl (low.length + 5) 0 0 (x10).length) rfl rfl rfl ⟨⟨_, rfl, rfl⟩, trivial⟩ (Yz (f := Wc) (zz := false) rfl rfl rfl rfl te_32 ts_4 tb_4 (by decide) tz_4 rfl rfl (Wf _) rfl h11) (Yi 0 rfl rfl rfl rfl) ⟨.same _ _ _ (Vk (fun _ => .bool _)), trivial⟩ rfl) (Zs 10 rfl (Vr (f := 5) (k := 4) (m := 1) (os := [⟨4, 1, Wa Wc x10, 0⟩]) (os' := [⟨4, 1, Wa Wc x10, 1⟩]) (v := .sl (low.length + 5) 0 0 (x10).length) rfl rfl rfl ⟨⟨_, rfl, rfl⟩, trivial⟩ (Yz (f := Wc) (zz := false) rfl rfl rfl rfl te_32 ts_4 tb_4 (by decide) tz_4 rfl rfl (Wf _) rfl h11) (Yi 0 rfl rfl rfl rfl) ⟨.same _ _ _ (Vk (fun _ => .bool _)), trivial⟩ rfl) (Zs 12 rfl (Vr (f := 5) (k := 4) (m := 1) (os := [⟨4, 1, Wa Wc x10, 0⟩]) (os' := [⟨4, 1, Wa Wc x10, 1⟩]) (v := .sl (low.length + 5) 0 0 (x10).length) rfl rfl rfl ⟨⟨_, rfl, rfl⟩, trivial⟩ (Yz (f := Wc) (zz := false) rfl rfl rfl rfl te_32 ts_4 tb_4 (by decide) tz_4 rfl rfl (Wf _) rfl h11) (Yi 0 rfl rfl rfl rfl) ⟨.same _ _ _ (Vk (fun _ => .bool _)), trivial⟩ rfl) (Zs 13 rfl (Vr (f := 5) (k := 4) (m := 1) (os := [⟨4, 1, Wa Wc x10, 0⟩]) (os' := [⟨4, 1, Wa Wc x10, 1⟩]) (v := .sl (low.length + 5) 0 0 (x10).length) rfl rfl rfl ⟨⟨_, rfl, rfl⟩, trivial⟩ (Yz (f := Wc) (zz := false) rfl rfl rfl rfl te_32 ts_4 tb_4 (by decide) tz_4 rfl rfl (Wf _) rfl h11) (Yi 0 rfl rfl rfl rfl) ⟨.same _ _ _ (Vk (fun _ => .bool _)), trivial⟩ rfl) (Zs 14 rfl (Vr (f := 5) (k := 4) (m := 1) (os := [⟨4, 1, Wa Wc x10, 0⟩]) (os' := [⟨4, 1, Wa Wc x10, 1⟩]) (v := .sl (low.length + 5) 0 0 (x10).length) rfl rfl rfl ⟨⟨_, rfl, rfl⟩, trivial⟩ (Yz (f := Wc) (zz := false) rfl rfl rfl rfl te_32 ts_4 tb_4 (by decide) tz_4 rfl rfl (Wf _) rfl h11) (Yi 0 rfl rfl rfl rfl) ⟨.same _ _ _ (Vk (fun _ => .bool _)), trivial⟩ rfl) (Zs 15 rfl (Vr (f := 5) (k := 4) (m := 1) (os := [⟨4, 1, Wa Wc x10, 0⟩]) (os' := [⟨4, 1, Wa Wc x10, 1⟩]) (v := .sl (low.length + 5) 0 0 (x10).length) rfl rfl rfl ⟨⟨_, rfl, rfl⟩, trivial⟩ (Yz (f := Wc) (zz := false) rfl rfl rfl rfl te_32 ts_4 tb_4 (by decide) tz_4 rfl rfl (Wf _) rfl h11) (Yi 0 rfl rfl rfl rfl) ⟨.same _ _ _ (Vk (fun _ => .bool _)), trivial⟩ rfl) ex0)))))))) ?_
   refine Xn _ rfl rfl (Xg (VRd.ntl (Zt (vs := [(1, .sl (low.length + 1) 1 0 (x4).length), (2, .sl (low.length + 2) 1 0 (x6).length), (3, .sl (low.length + 3) 1 0 (x8).length), (4, .sl (low.length + 4) 1 0 (x10).length)]) (ds := [.int .i64 0, .sl (low.length + 1) 1 0 (x4).length, .sl (low.length + 2) 1 0 (x6).length, .sl (low.length + 3) 1 0 (x8).length, .sl (low.length + 4) 1 0 (x10).length]) tz_34 rfl rfl tp_34 ⟨rfl, rfl, rfl, rfl, rfl, rfl, rfl, rfl, trivial⟩ (nt_all2 rfl) rfl)) rx0) ?_
   refine Yo _ rfl rfl (Zs 16 rfl (Xo (p := .agg [.int .i64 0, .sl (low.length + 1) 1 0 (x4).length, .sl (low.length + 2) 1 0 (x6).length, .sl (low.length + 3) 1 0 (x8).length, .sl (low.length + 4) 1 0 (x10).length]) (e' := .agg [.int .i64 0, .sl (low.length + 1) 1 0 (x4).length, .sl (low.length + 2) 1 0 (x6).length, .sl (low.length + 3) 1 0 (x8).length, .sl (low.length + 4) 1 0 (x10).length]) rfl (Vg rfl rfl) rfl rfl ts_34 rfl (Yv rfl) rfl (We rfl) rfl (Ym rfl rfl)) ex0) ?_
   refine Xn _ rfl rfl (Xg (VRd.ntl (Xr rfl)) rx0) ?_
   refine dopx_nil ?_
   refine Xj ?_
   obtain rfl := Wd hF
   refine fnR ?_
   refine Weak.trans (Vt (E' := [(2, .ptr (low.length + 0) 0 0 0), (3, .int .i64 0)]) (loc1 := [⟨34, 5, [.agg [.int .i64 0, .vs 1 (Wa (Wb .i64) x4), .sl (low.length + 2) 1 0 (x6).length, .sl (low.length + 3) 1 0 (x8).length, .sl (low.length + 4) 1 0 (x10).length]], 0⟩, ⟨3, 1, [], 1 + 1⟩, ⟨3, 1, Wa (Wb .i64) x6, 1⟩, ⟨4, 1, Wa Wc x8, 1⟩, ⟨4, 1, Wa Wc x10, 1⟩]) rfl 1 rfl (Yf (fun _ => .int _ _)) ⟨Vd rfl, Vd rfl, trivial⟩ ⟨Xs ⟨Vd rfl, Yq rfl rfl rfl (Xb rfl), Vd rfl, Vd rfl, Vd rfl, trivial⟩, .refl _, .refl _, .refl _, .refl _, trivial⟩) ?_
   refine Weak.trans (Vt (E' := [(2, .ptr (low.length + 0) 0 0 0), (3, .int .i64 0)]) (loc1 := [⟨34, 5, [.agg [.int .i64 0, .vs 1 (Wa (Wb .i64) x4), .vs 1 (Wa (Wb .i64) x6), .sl (low.length + 3) 1 0 (x8).length, .sl (low.length + 4) 1 0 (x10).length]], 0⟩, ⟨3, 1, [], 1 + 1⟩, ⟨3, 1, [], 1 + 1⟩, ⟨4, 1, Wa Wc x8, 1⟩, ⟨4, 1, Wa Wc x10, 1⟩]) rfl 2 rfl (Yf (fun _ => .int _ _)) ⟨Vd rfl, Vd rfl, trivial⟩ ⟨Xs ⟨Vd rfl, Vd rfl, Yq rfl rfl rfl (Xb rfl), Vd rfl, Vd rfl, trivial⟩, .refl _, .refl _, .refl _, .refl _, trivial⟩) ?_
   refine Weak.trans (Vt (E' := [(2, .ptr (low.length + 0) 0 0 0), (3, .int .i64 0)]) (loc1 := [⟨34, 5, [.agg [.int .i64 0, .vs 1 (Wa (Wb .i64) x4), .vs 1 (Wa (Wb .i64) x6), .vs 1 (Wa Wc x8), .sl (low.length + 4) 1 0 (x10).length]], 0⟩, ⟨3, 1, [], 1 + 1⟩, ⟨3, 1, [], 1 + 1⟩, ⟨4, 1, [], 1 + 1⟩, ⟨4, 1, Wa Wc x10, 1⟩]) rfl 3 rfl (Yf (fun _ => .bool _)) ⟨Vd rfl, Vd rfl, trivial⟩ ⟨Xs ⟨Vd rfl, Vd rfl, Vd rfl, Yq rfl rfl rfl (Xb rfl), Vd rfl, trivial⟩, .refl _, .refl _, .refl _, .refl _, trivial⟩) ?_
   refine Weak.trans (Vt (E' := [(2, .ptr (low.length + 0) 0 0 0), (3, .int .i64 0)]) (loc1 := [⟨34, 5, [.agg [.int .i64 0, .vs 1 (Wa (Wb .i64) x4), .vs 1 (Wa (Wb .i64) x6), .vs 1 (Wa Wc x8), .vs 1 (Wa Wc x10)]], 0⟩, ⟨3, 1, [], 1 + 1⟩, ⟨3, 1, [], 1 + 1⟩, ⟨4, 1, [], 1 + 1⟩, ⟨4, 1, [], 1 + 1⟩]) rfl 4 rfl (Yf (fun _ => .bool _)) ⟨Vd rfl, Vd rfl, trivial⟩ ⟨Xs ⟨Vd rfl, Vd rfl, Vd rfl, Vd rfl, Yq rfl rfl rfl (Xb rfl), trivial⟩, .refl _, .refl _, .refl _, .refl _, trivial⟩) ?_
   exact Vw rfl [(0, 0)] (by decide) ⟨Yl 0 0 rfl rfl, Vs rfl (.int _ _), trivial⟩ ⟨⟨_, rfl, rfl, .same _ _ _ _ (Xd ⟨Xl ⟨.int _ _, .vs _ _, .vs _ _, .vs _ _, .vs _ _, trivial⟩, trivial⟩)⟩, trivial⟩
 ·rintro _ _ _ _ ⟨he, hw⟩
  refine ⟨_, _, _, hw, ?_⟩
  exact Yw he [.agg [.int .i64 r.1.Time, .vs 1 (Wa (Wb .i64) r.1.States), .vs 1 (Wa (Wb .i64) r.1.Since), .vs 1 (Wa Wc r.1.Pulled), .vs 1 (Wa Wc r.1.Held)], .int .i64 r.2] ⟨Xk rfl (Vg rfl rfl) rfl ta_34 ts_34 rfl rfl rfl, rfl, trivial⟩ ((lt_tup ⟨(Xl ⟨.int _ _, .vs _ _, .vs _ _, .vs _ _, .vs _ _, trivial⟩), .int _ _, trivial⟩)) ⟨rfl, rfl⟩

theorem F_belts_Valid_ok {p0 : List T_Belt} {p1 : T_Line} {r : Bool} (hF : F_belts_Valid p0 p1 = some r) (low : List AObj) :
    Yk Try.prog 28 [.vs 2 (Wa T_Belt.enc p0), .agg [.int .i64 p1.Time, .vs 1 (Wa (Wb .i64) p1.States), .vs 1 (Wa (Wb .i64) p1.Since), .vs 1 (Wa Wc p1.Pulled), .vs 1 (Wa Wc p1.Held)]] low fun x low' => x = .bool r ∧ low' = low := by
 refine Vz (nt := 105) (rs := [.tmp 4]) Try.func28 rfl rfl (We rfl) rfl ?_
 refine Vx (Q' := FnE (fun E' lw lc => Xv E' lw lc [(4, .bool r)] low [])) ?_ ?_
 ·unfold F_belts_Valid at hF
  refine Vi ?_
  refine Vf ?_
  refine Vj (Yx rfl rfl (v := .agg [.int .i64 p1.Time, .vs 1 (Wa (Wb .i64) p1.States), .vs 1 (Wa (Wb .i64) p1.Since), .vs 1 (Wa Wc p1.Pulled), .vs 1 (Wa Wc p1.Held)]) rfl rfl (Wf _) rfl rfl) rfl ?_
  refine Va (Yd rfl) rfl ?_
  refine Vh ?_
  refine Vi ?_
  refine Vf ?_
  refine Va (Xw rfl) rfl ?_
  refine Va (Xp (Xx rfl rfl te_27) (congrArg (fun n : Nat => Wb .i64 (n : Int)) (Wh _))) rfl ?_
  refine Va (Xr rfl) rfl ?_
  refine Vh ?_
  refine Vi ?_
  refine Vi ?_
  obtain ⟨o1, ho1, hF⟩ := Yt hF
  refine Vx (Q' := (fun o1 => OnlyE .normal (fun E' lw lc => Xv E' lw lc [(0, .vs 2 (Wa T_Belt.enc p0)), (3, .ptr (low.length + 0) 0 0 0), (47, .bool o1)] low [⟨34, 5, [.agg [.int .i64 p1.Time, .vs 1 (Wa (Wb .i64) p1.States), .vs 1 (Wa (Wb .i64) p1.Since), .vs 1 (Wa Wc p1.Pulled), .vs 1 (Wa Wc p1.Held)]], 0⟩])) o1) ?_ ?_
  ·replace hF := ho1
   refine Vf ?_
   obtain ⟨x2, h3, hF⟩ := Yt hF
   rcases Wg (!x2) with c4 | c4
   ·have hF := Yr c4 hF
    refine Va (Xw rfl) rfl ?_
    refine Vj (Xt rfl Try.call29 (F_belts_sound_ok h3 _)) rfl ?_
    refine Va (Zo rfl) rfl ?_
    refine Va (Vl rfl) rfl ?_
    refine Vb rfl rfl (Zx c4) rfl ?_
    refine Vb rfl rfl (Zx c4) rfl ?_
    refine Vb rfl rfl (Zx c4) rfl ?_
    refine Vb rfl rfl (Zx c4) rfl ?_
    refine Vb rfl rfl (Zx c4) rfl ?_
    refine Va (Vo (congrArg Wc c4) rfl) rfl ?_
    refine Va (Vl rfl) rfl ?_
    refine Vb rfl rfl (by decide) rfl ?_
    refine Vb rfl rfl (by decide) rfl ?_
    refine Vb rfl rfl (by decide) rfl ?_
    refine Vb rfl rfl (by decide) rfl ?_
    refine Vb rfl rfl (by decide) rfl ?_
    refine Va (Vo rfl rfl) rfl ?_
    refine Va (Vl rfl) rfl ?_
    refine Vb rfl rfl (by decide) rfl ?_
    refine Vb rfl rfl (by decide) rfl ?_
    refine Vb rfl rfl (by decide) rfl ?_
    refine Vb rfl rfl (by decide) rfl ?_
    refine Vb rfl rfl (by decide) rfl ?_
    refine Va (Vo rfl rfl) rfl ?_
    refine Va (Vl rfl) rfl ?_
    refine Vb rfl rfl (by decide) rfl ?_
    refine Vb rfl rfl (by decide) rfl ?_
    refine Vb rfl rfl (by decide) rfl ?_
    refine Vb rfl rfl (by decide) rfl ?_
    refine Vb rfl rfl (by decide) rfl ?_
    refine Va (Vo rfl rfl) rfl ?_
    refine Va (Vl rfl) rfl ?_
    refine Vb rfl rfl (by decide) rfl ?_
    refine Vb rfl rfl (by decide) rfl ?_
    refine Vb rfl rfl (by decide) rfl ?_
    refine Vb rfl rfl (by decide) rfl ?_
    refine Va (Vo rfl rfl) rfl ?_
    refine Vh ?_
    obtain rfl := Wd hF
    refine Ye ?_
    exact Vq ⟨rfl, rfl, rfl, trivial⟩
   ·have hF := Ys c4 hF
    rcases Wg (decide (((p1.States).length : Int) ≠ ((p0).length : Int))) with c5 | c5
    ·have hF := Yr c5 hF
     refine Va (Xw rfl) rfl ?_
     refine Vj (Xt rfl Try.call29 (F_belts_sound_ok h3 _)) rfl ?_
     refine Va (Zo rfl) rfl ?_
     refine Va (Vl rfl) rfl ?_
     refine Xh rfl rfl c4 ?_
     refine Va (Vc rfl tf_34_1 ts_22 (by decide)) rfl ?_
     refine Xh rfl rfl c4 ?_
     refine Va (Ve rfl (Vg rfl rfl) rfl ta_22 rfl) rfl ?_
     refine Xh rfl rfl c4 ?_
     refine Va (Xp (Xx rfl rfl te_22) (congrArg (fun n : Nat => Wb .i64 (n : Int)) (Wh _))) rfl ?_
     refine Xh rfl rfl c4 ?_
     refine Va (Vm rfl) rfl ?_
     refine Xh rfl rfl c4 ?_
     refine Va (Zg rfl rfl) rfl ?_
     refine Va (Vp (congrArg Wc c4) rfl) rfl ?_
     refine Va (Vl rfl) rfl ?_
     refine Vb rfl rfl (Zx c5) rfl ?_
     refine Vb rfl rfl (Zx c5) rfl ?_
     refine Vb rfl rfl (Zx c5) rfl ?_
     refine Vb rfl rfl (Zx c5) rfl ?_
     refine Vb rfl rfl (Zx c5) rfl ?_
     refine Va (Vo (congrArg Wc c5) rfl) rfl ?_
     refine Va (Vl rfl) rfl ?_
     refine Vb rfl rfl (by decide) rfl ?_
     refine Vb rfl rfl (by decide) rfl ?_
     refine Vb rfl rfl (by decide) rfl ?_
     refine Vb rfl rfl (by decide) rfl ?_
     refine Vb rfl rfl (by decide) rfl ?_
     refine Va (Vo rfl rfl) rfl ?_
     refine Va (Vl rfl) rfl ?_
     refine Vb rfl rfl (by decide) rfl ?_
     refine Vb rfl rfl (by decide) rfl ?_
     refine Vb rfl rfl (by decide) rfl ?_
     refine Vb rfl rfl (by decide) rfl ?_
     refine Vb rfl rfl (by decide) rfl ?_
     refine Va (Vo rfl rfl) rfl ?_
     refine Va (Vl rfl) rfl ?_
     refine Vb rfl rfl (by decide) rfl ?_
     refine Vb rfl rfl (by decide) rfl ?_
     refine Vb rfl rfl (by decide) rfl ?_
     refine Vb rfl rfl (by decide) rfl ?_
     refine Va (Vo rfl rfl) rfl ?_
     refine Vh ?_
     obtain rfl := Wd hF
     refine Ye ?_
     exact Vq ⟨rfl, rfl, rfl, trivial⟩
    ·have hF := Ys c5 hF
     rcases Wg (decide (((p1.Since).length : Int) ≠ ((p0).length : Int))) with c6 | c6
     ·have hF := Yr c6 hF
      refine Va (Xw rfl) rfl ?_
      refine Vj (Xt rfl Try.call29 (F_belts_sound_ok h3 _)) rfl ?_
      refine Va (Zo rfl) rfl ?_
      refine Va (Vl rfl) rfl ?_
      refine Xh rfl rfl c4 ?_
      refine Va (Vc rfl tf_34_1 ts_22 (by decide)) rfl ?_
      refine Xh rfl rfl c4 ?_
      refine Va (Ve rfl (Vg rfl rfl) rfl ta_22 rfl) rfl ?_
      refine Xh rfl rfl c4 ?_
      refine Va (Xp (Xx rfl rfl te_22) (congrArg (fun n : Nat => Wb .i64 (n : Int)) (Wh _))) rfl ?_
      refine Xh rfl rfl c4 ?_
      refine Va (Vm rfl) rfl ?_
      refine Xh rfl rfl c4 ?_
      refine Va (Zg rfl rfl) rfl ?_
      refine Va (Vp (congrArg Wc c4) rfl) rfl ?_
      refine Va (Vl rfl) rfl ?_
      refine Xh rfl rfl c5 ?_
      refine Va (Vc rfl tf_34_2 ts_22 (by decide)) rfl ?_
      refine Xh rfl rfl c5 ?_
      refine Va (Ve rfl (Vg rfl rfl) rfl ta_22 rfl) rfl ?_
      refine Xh rfl rfl c5 ?_
      refine Va (Xp (Xx rfl rfl te_22) (congrArg (fun n : Nat => Wb .i64 (n : Int)) (Wh _))) rfl ?_
      refine Xh rfl rfl c5 ?_
      refine Va (Vm rfl) rfl ?_
      refine Xh rfl rfl c5 ?_
      refine Va (Zg rfl rfl) rfl ?_
      refine Va (Vp (congrArg Wc c5) rfl) rfl ?_
      refine Va (Vl rfl) rfl ?_
      refine Vb rfl rfl (Zx c6) rfl ?_
      refine Vb rfl rfl (Zx c6) rfl ?_
      refine Vb rfl rfl (Zx c6) rfl ?_
      refine Vb rfl rfl (Zx c6) rfl ?_
      refine Vb rfl rfl (Zx c6) rfl ?_
      refine Va (Vo (congrArg Wc c6) rfl) rfl ?_
      refine Va (Vl rfl) rfl ?_
      refine Vb rfl rfl (by decide) rfl ?_
      refine Vb rfl rfl (by decide) rfl ?_
      refine Vb rfl rfl (by decide) rfl ?_
      refine Vb rfl rfl (by decide) rfl ?_
      refine Vb rfl rfl (by decide) rfl ?_
      refine Va (Vo rfl rfl) rfl ?_
      refine Va (Vl rfl) rfl ?_
      refine Vb rfl rfl (by decide) rfl ?_
      refine Vb rfl rfl (by decide) rfl ?_
      refine Vb rfl rfl (by decide) rfl ?_
      refine Vb rfl rfl (by decide) rfl ?_
      refine Va (Vo rfl rfl) rfl ?_
      refine Vh ?_
      obtain rfl := Wd hF
      refine Ye ?_
      exact Vq ⟨rfl, rfl, rfl, trivial⟩
     ·have hF := Ys c6 hF
      rcases Wg (decide (((p1.Pulled).length : Int) ≠ ((p0).length : Int))) with c7 | c7
      ·have hF := Yr c7 hF
       refine Va (Xw rfl) rfl ?_
       refine Vj (Xt rfl Try.call29 (F_belts_sound_ok h3 _)) rfl ?_
       refine Va (Zo rfl) rfl ?_
       refine Va (Vl rfl) rfl ?_
       refine Xh rfl rfl c4 ?_
       refine Va (Vc rfl tf_34_1 ts_22 (by decide)) rfl ?_
       refine Xh rfl rfl c4 ?_
       refine Va (Ve rfl (Vg rfl rfl) rfl ta_22 rfl) rfl ?_
       refine Xh rfl rfl c4 ?_
       refine Va (Xp (Xx rfl rfl te_22) (congrArg (fun n : Nat => Wb .i64 (n : Int)) (Wh _))) rfl ?_
       refine Xh rfl rfl c4 ?_
       refine Va (Vm rfl) rfl ?_
       refine Xh rfl rfl c4 ?_
       refine Va (Zg rfl rfl) rfl ?_
       refine Va (Vp (congrArg Wc c4) rfl) rfl ?_
       refine Va (Vl rfl) rfl ?_
       refine Xh rfl rfl c5 ?_
       refine Va (Vc rfl tf_34_2 ts_22 (by decide)) rfl ?_
       refine Xh rfl rfl c5 ?_
       refine Va (Ve rfl (Vg rfl rfl) rfl ta_22 rfl) rfl ?_
       refine Xh rfl rfl c5 ?_
       refine Va (Xp (Xx rfl rfl te_22) (congrArg (fun n : Nat => Wb .i64 (n : Int)) (Wh _))) rfl ?_
       refine Xh rfl rfl c5 ?_
       refine Va (Vm rfl) rfl ?_
       refine Xh rfl rfl c5 ?_
       refine Va (Zg rfl rfl) rfl ?_
       refine Va (Vp (congrArg Wc c5) rfl) rfl ?_
       refine Va (Vl rfl) rfl ?_
       refine Xh rfl rfl c6 ?_
       refine Va (Vc rfl tf_34_3 ts_32 (by decide)) rfl ?_
       refine Xh rfl rfl c6 ?_
       refine Va (Ve rfl (Vg rfl rfl) rfl ta_32 rfl) rfl ?_
       refine Xh rfl rfl c6 ?_
       refine Va (Xp (Xx rfl rfl te_32) (congrArg (fun n : Nat => Wb .i64 (n : Int)) (Wh _))) rfl ?_
       refine Xh rfl rfl c6 ?_
       refine Va (Vm rfl) rfl ?_
       refine Xh rfl rfl c6 ?_
       refine Va (Zg rfl rfl) rfl ?_
       refine Va (Vp (congrArg Wc c6) rfl) rfl ?_
       refine Va (Vl rfl) rfl ?_
       refine Vb rfl rfl (Zx c7) rfl ?_
       refine Vb rfl rfl (Zx c7) rfl ?_
       refine Vb rfl rfl (Zx c7) rfl ?_
       refine Vb rfl rfl (Zx c7) rfl ?_
       refine Vb rfl rfl (Zx c7) rfl ?_
       refine Va (Vo (congrArg Wc c7) rfl) rfl ?_
       refine Va (Vl rfl) rfl ?_
       refine Vb rfl rfl (by decide) rfl ?_
       refine Vb rfl rfl (by decide) rfl ?_
       refine Vb rfl rfl (by decide) rfl ?_
       refine Vb rfl rfl (by decide) rfl ?_
       refine Va (Vo rfl rfl) rfl ?_
       refine Vh ?_
       obtain rfl := Wd hF
       refine Ye ?_
       exact Vq ⟨rfl, rfl, rfl, trivial⟩
      ·have hF := Ys c7 hF
       rcases Wg (decide (((p1.Held).length : Int) ≠ ((p0).length : Int))) with c8 | c8
       ·have hF := Yr c8 hF
        refine Va (Xw rfl) rfl ?_
        refine Vj (Xt rfl Try.call29 (F_belts_sound_ok h3 _)) rfl ?_
        refine Va (Zo rfl) rfl ?_
        refine Va (Vl rfl) rfl ?_
        refine Xh rfl rfl c4 ?_
        refine Va (Vc rfl tf_34_1 ts_22 (by decide)) rfl ?_
        refine Xh rfl rfl c4 ?_
        refine Va (Ve rfl (Vg rfl rfl) rfl ta_22 rfl) rfl ?_
        refine Xh rfl rfl c4 ?_
        refine Va (Xp (Xx rfl rfl te_22) (congrArg (fun n : Nat => Wb .i64 (n : Int)) (Wh _))) rfl ?_
        refine Xh rfl rfl c4 ?_
        refine Va (Vm rfl) rfl ?_
        refine Xh rfl rfl c4 ?_
        refine Va (Zg rfl rfl) rfl ?_
        refine Va (Vp (congrArg Wc c4) rfl) rfl ?_
        refine Va (Vl rfl) rfl ?_
        refine Xh rfl rfl c5 ?_
        refine Va (Vc rfl tf_34_2 ts_22 (by decide)) rfl ?_
        refine Xh rfl rfl c5 ?_
        refine Va (Ve rfl (Vg rfl rfl) rfl ta_22 rfl) rfl ?_
        refine Xh rfl rfl c5 ?_
        refine Va (Xp (Xx rfl rfl te_22) (congrArg (fun n : Nat => Wb .i64 (n : Int)) (Wh _))) rfl ?_
        refine Xh rfl rfl c5 ?_
        refine Va (Vm rfl) rfl ?_
        refine Xh rfl rfl c5 ?_
        refine Va (Zg rfl rfl) rfl ?_
        refine Va (Vp (congrArg Wc c5) rfl) rfl ?_
        refine Va (Vl rfl) rfl ?_
        refine Xh rfl rfl c6 ?_
        refine Va (Vc rfl tf_34_3 ts_32 (by decide)) rfl ?_
        refine Xh rfl rfl c6 ?_
        refine Va (Ve rfl (Vg rfl rfl) rfl ta_32 rfl) rfl ?_
        refine Xh rfl rfl c6 ?_
        refine Va (Xp (Xx rfl rfl te_32) (congrArg (fun n : Nat => Wb .i64 (n : Int)) (Wh _))) rfl ?_
        refine Xh rfl rfl c6 ?_
        refine Va (Vm rfl) rfl ?_
        refine Xh rfl rfl c6 ?_
        refine Va (Zg rfl rfl) rfl ?_
        refine Va (Vp (congrArg Wc c6) rfl) rfl ?_
        refine Va (Vl rfl) rfl ?_
        refine Xh rfl rfl c7 ?_
        refine Va (Vc rfl tf_34_4 ts_32 (by decide)) rfl ?_
        refine Xh rfl rfl c7 ?_
        refine Va (Ve rfl (Vg rfl rfl) rfl ta_32 rfl) rfl ?_
        refine Xh rfl rfl c7 ?_
        refine Va (Xp (Xx rfl rfl te_32) (congrArg (fun n : Nat => Wb .i64 (n : Int)) (Wh _))) rfl ?_
        refine Xh rfl rfl c7 ?_
        refine Va (Vm rfl) rfl ?_
        refine Xh rfl rfl c7 ?_
        refine Va (Zg rfl rfl) rfl ?_
        refine Va (Vp (congrArg Wc c7) rfl) rfl ?_
        refine Va (Vl rfl) rfl ?_
        refine Vb rfl rfl (Zx c8) rfl ?_
        refine Vb rfl rfl (Zx c8) rfl ?_
        refine Vb rfl rfl (Zx c8) rfl ?_
        refine Vb rfl rfl (Zx c8) rfl ?_
        refine Va (Vo (congrArg Wc c8) rfl) rfl ?_
        refine Vh ?_
        obtain rfl := Wd hF
        refine Ye ?_
        exact Vq ⟨rfl, rfl, rfl, trivial⟩
       ·have hF := Ys c8 hF
        obtain ⟨x9, h10, hF⟩ := Yt hF
        refine Va (Xw rfl) rfl ?_
        refine Vj (Xt rfl Try.call29 (F_belts_sound_ok h3 _)) rfl ?_
        refine Va (Zo rfl) rfl ?_
        refine Va (Vl rfl) rfl ?_
        refine Xh rfl rfl c4 ?_
        refine Va (Vc rfl tf_34_1 ts_22 (by decide)) rfl ?_
        refine Xh rfl rfl c4 ?_
        refine Va (Ve rfl (Vg rfl rfl) rfl ta_22 rfl) rfl ?_
        refine Xh rfl rfl c4 ?_
        refine Va (Xp (Xx rfl rfl te_22) (congrArg (fun n : Nat => Wb .i64 (n : Int)) (Wh _))) rfl ?_
        refine Xh rfl rfl c4 ?_
        refine Va (Vm rfl) rfl ?_
        refine Xh rfl rfl c4 ?_
        refine Va (Zg rfl rfl) rfl ?_
        refine Va (Vp (congrArg Wc c4) rfl) rfl ?_
        refine Va (Vl rfl) rfl ?_
        refine Xh rfl rfl c5 ?_
        refine Va (Vc rfl tf_34_2 ts_22 (by decide)) rfl ?_
        refine Xh rfl rfl c5 ?_
        refine Va (Ve rfl (Vg rfl rfl) rfl ta_22 rfl) rfl ?_
        refine Xh rfl rfl c5 ?_
        refine Va (Xp (Xx rfl rfl te_22) (congrArg (fun n : Nat => Wb .i64 (n : Int)) (Wh _))) rfl ?_
        refine Xh rfl rfl c5 ?_
        refine Va (Vm rfl) rfl ?_
        refine Xh rfl rfl c5 ?_
        refine Va (Zg rfl rfl) rfl ?_
        refine Va (Vp (congrArg Wc c5) rfl) rfl ?_
        refine Va (Vl rfl) rfl ?_
        refine Xh rfl rfl c6 ?_
        refine Va (Vc rfl tf_34_3 ts_32 (by decide)) rfl ?_
        refine Xh rfl rfl c6 ?_
        refine Va (Ve rfl (Vg rfl rfl) rfl ta_32 rfl) rfl ?_
        refine Xh rfl rfl c6 ?_
        refine Va (Xp (Xx rfl rfl te_32) (congrArg (fun n : Nat => Wb .i64 (n : Int)) (Wh _))) rfl ?_
        refine Xh rfl rfl c6 ?_
        refine Va (Vm rfl) rfl ?_
        refine Xh rfl rfl c6 ?_
        refine Va (Zg rfl rfl) rfl ?_
        refine Va (Vp (congrArg Wc c6) rfl) rfl ?_
        refine Va (Vl rfl) rfl ?_
        refine Xh rfl rfl c7 ?_
        refine Va (Vc rfl tf_34_4 ts_32 (by decide)) rfl ?_
        refine Xh rfl rfl c7 ?_
        refine Va (Ve rfl (Vg rfl rfl) rfl ta_32 rfl) rfl ?_
        refine Xh rfl rfl c7 ?_
        refine Va (Xp (Xx rfl rfl te_32) (congrArg (fun n : Nat => Wb .i64 (n : Int)) (Wh _))) rfl ?_
        refine Xh rfl rfl c7 ?_
        refine Va (Vm rfl) rfl ?_
        refine Xh rfl rfl c7 ?_
        refine Va (Zg rfl rfl) rfl ?_
        refine Va (Vp (congrArg Wc c7) rfl) rfl ?_
        refine Va (Vl rfl) rfl ?_
        refine Xh rfl rfl c8 ?_
        refine Va (Vc rfl tf_34_0 ts_3 (by decide)) rfl ?_
        refine Xh rfl rfl c8 ?_
        refine Va (Ve rfl (Vg rfl rfl) rfl ta_3 rfl) rfl ?_
        refine Xh rfl rfl c8 ?_
        refine Vj (Xt rfl Try.call33 (F_lists_In_ok h10 _)) rfl ?_
        refine Xh rfl rfl c8 ?_
        refine Va (Zo rfl) rfl ?_
        refine Va (Vp (congrArg Wc c8) rfl) rfl ?_
        refine Vh ?_
        obtain rfl := Wd hF
        refine Ye ?_
        exact Vq ⟨rfl, rfl, rfl, trivial⟩
  ·rintro _ _ _ _ ⟨rfl, hw⟩
   refine ⟨_, _, _, hw, ?_⟩
   refine Xq rfl (fun c11 => ?_) (fun c11 => ?_)
   ·have hF := Yr c11 hF
    refine Vi ?_
    refine Vf ?_
    refine Va (Yd rfl) rfl ?_
    refine Vh ?_
    refine Xj ?_
    obtain rfl := Wd hF
    refine fnR ?_
    exact Vw rfl [] (by decide) ⟨Vs rfl (.bool _), trivial⟩ trivial
   ·have hF := Ys c11 hF
    refine Xy ?_
    refine Vi ?_
    refine Vi ?_
    refine Vf ?_
    refine Va (Vc rfl tf_34_1 ts_22 (by decide)) rfl ?_
    refine Va (Ve rfl (Vg rfl rfl) rfl ta_22 rfl) rfl ?_
    refine Va (Xp (Xx rfl rfl te_22) (congrArg (fun n : Nat => Wb .i64 (n : Int)) (Wh _))) rfl ?_
    refine Va (Vm rfl) rfl ?_
    refine Vh ?_
    refine Yp ?_
    obtain ⟨o13, ho13, hF⟩ := Yt hF
    refine Vx (vwp_loopC (F_belts_Valid_L1 p0 p1) (fun s12 E' lw lc => Xv E' lw lc [(0, .vs 2 (Wa T_Belt.enc p0)), (3, .ptr (low.length + 0) 0 0 0), (49, .vs 1 (Wa (Wb .i64) p1.States)), (50, .int .i64 ((p1.States).length : Int)), (51, .int .i64 s12)] low [⟨34, 5, [.agg [.int .i64 p1.Time, .vs 1 (Wa (Wb .i64) p1.States), .vs 1 (Wa (Wb .i64) p1.Since), .vs 1 (Wa Wc p1.Pulled), .vs 1 (Wa Wc p1.Held)]], 0⟩]) (Sum.elim (fun j14 => OnlyE .ret (fun E' lw lc => Xv E' lw lc [(4, .bool false)] low [])) (fun j15 => OnlyE (.exit 0) (fun E' lw lc => Xv E' lw lc [] low []))) ho13 ?_ (by rintro (_|_) _ _ _ ⟨h, _⟩ <;> cases h) ?_) ?_
    ·exact Vq ⟨rfl, rfl, rfl, rfl, rfl, trivial⟩
    ·rintro s12 os12 _ _ _ hF hw
     unfold F_belts_Valid_L1 at hF
     refine Xz hw ?_
     refine Vi ?_
     refine Vf ?_
     refine Va (rd_lss rfl rfl) rfl ?_
     refine Vh ?_
     refine Vi ?_
     refine Xq rfl (fun c16 => ?_) (fun c16 => ?_)
     ·have hF := Yr c16 hF
      refine Xy ?_
      refine Vi ?_
      obtain ⟨o17, ho17, hF⟩ := Yt hF
      refine Vx (Q' := Sum.elim (fun j18 => OnlyE .ret (fun E' lw lc => Xv E' lw lc [(4, .bool false)] low [])) (fun j19 => OnlyE .normal (fun E' lw lc => Xv E' lw lc [(0, .vs 2 (Wa T_Belt.enc p0)), (3, .ptr (low.length + 0) 0 0 0), (49, .vs 1 (Wa (Wb .i64) p1.States)), (50, .int .i64 ((p1.States).length : Int)), (51, .int .i64 s12)] low [⟨34, 5, [.agg [.int .i64 p1.Time, .vs 1 (Wa (Wb .i64) p1.States), .vs 1 (Wa (Wb .i64) p1.Since), .vs 1 (Wa Wc p1.Pulled), .vs 1 (Wa Wc p1.Held)]], 0⟩])) o17) ?_ ?_
      ·replace hF := ho17
       refine Yp ?_
       refine Vi ?_
       refine Vf ?_
       obtain ⟨x20, h21, hF⟩ := Yt hF
       refine Va (Vm rfl) rfl ?_
       refine Va (Xp (Yn rfl rfl h21 te_22 ts_3) (v' := .vptr [.int .i64 x20] 0) rfl) rfl ?_
       refine Va (Xm rfl ta_3 rfl) rfl ?_
       refine Va (Xr rfl) rfl ?_
       refine Va (Xr rfl) rfl ?_
       refine Vh ?_
       refine Vi ?_
       refine Vf ?_
       obtain ⟨x22, h23, hF⟩ := Yt hF
       refine Va (Xw rfl) rfl ?_
       refine Va (Vm rfl) rfl ?_
       refine Va (Xp (Yn rfl rfl h23 te_27 ts_31) (v' := .vptr [.int .i64 x22.Onto, .int .i64 x22.Warn] 0) rfl) rfl ?_
       refine Va (Zv rfl tf_31_0 ts_3 (by decide)) rfl ?_
       refine Va (Xm rfl ta_3 rfl) rfl ?_
       refine Va (Xr rfl) rfl ?_
       refine Vh ?_
       refine Yp ?_
       refine Vi ?_
       obtain ⟨o24, ho24, hF⟩ := Yt hF
       refine Vx (Q' := (fun o24 => OnlyE .normal (fun E' lw lc => Xv E' lw lc [(0, .vs 2 (Wa T_Belt.enc p0)), (3, .ptr (low.length + 0) 0 0 0), (6, .int .i64 s12), (7, .int .i64 x20), (8, .int .i64 x22.Onto), (49, .vs 1 (Wa (Wb .i64) p1.States)), (50, .int .i64 ((p1.States).length : Int)), (51, .int .i64 s12), (61, .bool o24)] low [⟨34, 5, [.agg [.int .i64 p1.Time, .vs 1 (Wa (Wb .i64) p1.States), .vs 1 (Wa (Wb .i64) p1.Since), .vs 1 (Wa Wc p1.Pulled), .vs 1 (Wa Wc p1.Held)]], 0⟩])) o24) ?_ ?_
       ·replace hF := ho24
        obtain ⟨x25, h26, hF⟩ := Yt hF
        rcases Wg (!x25) with c27 | c27
        ·have hF := Yr c27 hF
         refine Zu [[], [0], [0, 1], [0, 1, 2], [0, 1, 2, 3], [0, 1, 2, 3, 4], [0, 1, 2, 3], [0, 1, 2, 3, 4, 5, 6], [0, 1, 2, 3, 4, 5, 6, 7], [0, 1, 2, 3], [0, 1, 2, 3, 9], [0, 1, 2, 3, 4, 5, 6, 7, 8, 9, 10], [0, 1, 2, 3, 4, 5, 6, 7, 8, 9, 10, 11], [0, 1, 2, 3, 4, 5, 6, 7, 8, 9, 10, 11, 12], [0, 1, 2, 3, 4, 5, 6, 7, 8, 9, 10, 11, 12, 13]] mixed (by kernel_rfl) rfl ?_
         refine Ze rfl rfl (Vm rfl) ?_
         refine dn1 rfl rfl (nt_of (Xt rfl Try.call33 (F_lists_In_ok h26 _))) ?_
         refine Ze rfl rfl (Zo rfl) ?_
         refine Ze rfl rfl (Vl rfl) ?_
         refine Vu rfl rfl rfl (Zx c27) ?_
         refine Vu rfl rfl rfl (Zx c27) ?_
         refine Vu rfl rfl rfl (Zx c27) ?_
         refine Vu rfl rfl rfl (Zx c27) ?_
         refine Vu rfl rfl rfl (Zx c27) ?_
         refine Vu rfl rfl rfl (Zx c27) ?_
         refine Vu rfl rfl rfl (Zx c27) ?_
         refine Vu rfl rfl rfl (Zx c27) ?_
         refine Vu rfl rfl rfl (Zx c27) ?_
         refine Ze rfl rfl (Vo (congrArg Wc c27) rfl) ?_
         refine Ze rfl rfl (Yd rfl) ?_
         refine Zh ?_
         obtain rfl := Wd hF
         refine Ye ?_
         exact Vq ⟨rfl, rfl, rfl, rfl, rfl, rfl, rfl, rfl, rfl, trivial⟩
        ·have hF := Ys c27 hF
         obtain ⟨x28, h29, hF⟩ := Yt hF
         obtain ⟨x30, h31, hF⟩ := Yt hF
         refine Zu [[], [0], [0, 1], [0, 1, 2], [0, 1, 2, 3], [0, 1, 2, 3, 4], [0, 1, 2, 3], [0, 1, 2, 3, 4, 5, 6], [0, 1, 2, 3, 4, 5, 6, 7], [0, 1, 2, 3], [0, 1, 2, 3, 9], [0, 1, 2, 3, 4, 5, 6, 7, 8, 9, 10], [0, 1, 2, 3, 4, 5, 6, 7, 8, 9, 10, 11], [0, 1, 2, 3, 4, 5, 6, 7, 8, 9, 10, 11, 12], [0, 1, 2, 3, 4, 5, 6, 7, 8, 9, 10, 11, 12, 13]] mixed (by kernel_rfl) rfl ?_
         refine Ze rfl rfl (Vm rfl) ?_
         refine dn1 rfl rfl (nt_of (Xt rfl Try.call33 (F_lists_In_ok h26 _))) ?_
         refine Ze rfl rfl (Zo rfl) ?_
         refine Ze rfl rfl (Vl rfl) ?_
         refine Zk rfl rfl rfl rfl c27 (Vc rfl tf_34_2 ts_22 (by decide)) ?_
         refine Zk rfl rfl rfl rfl c27 (Ve rfl (Vg rfl rfl) rfl ta_22 rfl) ?_
         refine Zk rfl rfl rfl rfl c27 (Vm rfl) ?_
         refine Zk rfl rfl rfl rfl c27 (Xp (Yn rfl rfl h29 te_22 ts_3) (v' := .vptr [.int .i64 x28] 0) rfl) ?_
         refine Zk rfl rfl rfl rfl c27 (Xm rfl ta_3 rfl) ?_
         refine Zk rfl rfl rfl rfl c27 (Vc rfl tf_34_0 ts_3 (by decide)) ?_
         refine Zk rfl rfl rfl rfl c27 (Ve rfl (Vg rfl rfl) rfl ta_3 rfl) ?_
         refine dops_takeW _ rfl rfl rfl (congrArg Wc c27) (Yy (nt_of (Xt rfl Try.call33 (F_lists_In_ok h31 _))) all0) ?_
         refine Zk rfl rfl rfl rfl c27 (Zo rfl) ?_
         refine Ze rfl rfl (Vp (congrArg Wc c27) rfl) ?_
         refine Ze rfl rfl (Yd rfl) ?_
         refine Zh ?_
         obtain rfl := Wd hF
         refine Ye ?_
         exact Vq ⟨rfl, rfl, rfl, rfl, rfl, rfl, rfl, rfl, rfl, trivial⟩
       ·rintro _ _ _ _ ⟨rfl, hw⟩
        refine ⟨_, _, _, hw, ?_⟩
        refine Xq rfl (fun c32 => ?_) (fun c32 => ?_)
        ·have hF := Yr c32 hF
         refine Vi ?_
         refine Vf ?_
         refine Va (Yd rfl) rfl ?_
         refine Vh ?_
         refine Xj ?_
         obtain rfl := Wd hF
         refine Ye ?_
         exact Vw rfl [] (by decide) ⟨Vs rfl (.bool _), trivial⟩ trivial
        ·have hF := Ys c32 hF
         refine Vi ?_
         refine Vf ?_
         refine Va (Vm rfl) rfl ?_
         refine Va (Xe rfl rfl) rfl ?_
         refine Va (Yd rfl) rfl ?_
         refine Vh ?_
         refine Xq rfl (fun c33 => ?_) (fun c33 => ?_)
         ·have hF := Yr c33 hF
          refine Xy ?_
          obtain rfl := Wd hF
          refine Ye ?_
          exact Vq ⟨rfl, rfl, rfl, rfl, rfl, trivial⟩
         ·have hF := Ys c33 hF
          refine Vi ?_
          obtain ⟨o34, ho34, hF⟩ := Yt hF
          refine Vx (Q' := (fun o34 => OnlyE .normal (fun E' lw lc => Xv E' lw lc [(0, .vs 2 (Wa T_Belt.enc p0)), (3, .ptr (low.length + 0) 0 0 0), (49, .vs 1 (Wa (Wb .i64) p1.States)), (50, .int .i64 ((p1.States).length : Int)), (51, .int .i64 s12), (79, .bool o34)] low [⟨34, 5, [.agg [.int .i64 p1.Time, .vs 1 (Wa (Wb .i64) p1.States), .vs 1 (Wa (Wb .i64) p1.Since), .vs 1 (Wa Wc p1.Pulled), .vs 1 (Wa Wc p1.Held)]], 0⟩])) o34) ?_ ?_
          ·replace hF := ho34
           refine Vf ?_
           obtain ⟨x35, h36, hF⟩ := Yt hF
           rcases Wg x35 with c37 | c37
           ·have hF := Yr c37 hF
            refine Va (Vc rfl tf_34_3 ts_32 (by decide)) rfl ?_
            refine Va (Ve rfl (Vg rfl rfl) rfl ta_32 rfl) rfl ?_
            refine Va (Vm rfl) rfl ?_
            refine Va (Xp (Yn rfl rfl h36 te_32 ts_4) (v' := .vptr [.bool x35] 0) rfl) rfl ?_
            refine Va (Xm rfl ta_4 rfl) rfl ?_
            refine Va (Vl rfl) rfl ?_
            refine Vb rfl rfl (Zx c37) rfl ?_
            refine Vb rfl rfl (Zx c37) rfl ?_
            refine Vb rfl rfl (Zx c37) rfl ?_
            refine Vb rfl rfl (Zx c37) rfl ?_
            refine Vb rfl rfl (Zx c37) rfl ?_
            refine Va (Vo (congrArg Wc c37) rfl) rfl ?_
            refine Va (Vl rfl) rfl ?_
            refine Vb rfl rfl (by decide) rfl ?_
            refine Vb rfl rfl (by decide) rfl ?_
            refine Vb rfl rfl (by decide) rfl ?_
            refine vops_skipX rfl rfl rfl ?_
            refine vops_skipX rfl rfl rfl ?_
            refine vops_skipX rfl rfl rfl ?_
            refine vops_skipX rfl rfl rfl ?_
            refine vops_skipX rfl rfl rfl ?_
            refine vops_skipX rfl rfl rfl ?_
            refine Vb rfl rfl (by decide) rfl ?_
            refine Va (Vo rfl rfl) rfl ?_
            refine Va (Yd rfl) rfl ?_
            refine Vh ?_
            obtain rfl := Wd hF
            refine Ye ?_
            exact Vq ⟨rfl, rfl, rfl, rfl, rfl, rfl, trivial⟩
           ·have hF := Ys c37 hF
            obtain ⟨x38, h39, hF⟩ := Yt hF
            rcases Wg x38 with c40 | c40
            ·have hF := Yr c40 hF
             refine Va (Vc rfl tf_34_3 ts_32 (by decide)) rfl ?_
             refine Va (Ve rfl (Vg rfl rfl) rfl ta_32 rfl) rfl ?_
             refine Va (Vm rfl) rfl ?_
             refine Va (Xp (Yn rfl rfl h36 te_32 ts_4) (v' := .vptr [.bool x35] 0) rfl) rfl ?_
             refine Va (Xm rfl ta_4 rfl) rfl ?_
             refine Va (Vl rfl) rfl ?_
             refine Xh rfl rfl c37 ?_
             refine Va (Vc rfl tf_34_4 ts_32 (by decide)) rfl ?_
             refine Xh rfl rfl c37 ?_
             refine Va (Ve rfl (Vg rfl rfl) rfl ta_32 rfl) rfl ?_
             refine Xh rfl rfl c37 ?_
             refine Va (Vm rfl) rfl ?_
             refine Xh rfl rfl c37 ?_
             refine Va (Xp (Yn rfl rfl h39 te_32 ts_4) (v' := .vptr [.bool x38] 0) rfl) rfl ?_
             refine Xh rfl rfl c37 ?_
             refine Va (Xm rfl ta_4 rfl) rfl ?_
             refine Va (Vp (congrArg Wc c37) rfl) rfl ?_
             refine Va (Vl rfl) rfl ?_
             refine Vb rfl rfl (Zx c40) rfl ?_
             refine Vb rfl rfl (Zx c40) rfl ?_
             refine Vb rfl rfl (Zx c40) rfl ?_
             refine vops_skipX rfl rfl rfl ?_
             refine vops_skipX rfl rfl rfl ?_
             refine vops_skipX rfl rfl rfl ?_
             refine vops_skipX rfl rfl rfl ?_
             refine vops_skipX rfl rfl rfl ?_
             refine vops_skipX rfl rfl rfl ?_
             refine Vb rfl rfl (Zx c40) rfl ?_
             refine Va (Vo (congrArg Wc c40) rfl) rfl ?_
             refine Va (Yd rfl) rfl ?_
             refine Vh ?_
             obtain rfl := Wd hF
             refine Ye ?_
             exact Vq ⟨rfl, rfl, rfl, rfl, rfl, rfl, trivial⟩
            ·have hF := Ys c40 hF
             rcases Wg (decide (0 ≤ x22.Onto)) with c41 | c41
             ·have hF := Yr c41 hF
              obtain ⟨x42, h43, hF⟩ := Yt hF
              refine Va (Vc rfl tf_34_3 ts_32 (by decide)) rfl ?_
              refine Va (Ve rfl (Vg rfl rfl) rfl ta_32 rfl) rfl ?_
              refine Va (Vm rfl) rfl ?_
              refine Va (Xp (Yn rfl rfl h36 te_32 ts_4) (v' := .vptr [.bool x35] 0) rfl) rfl ?_
              refine Va (Xm rfl ta_4 rfl) rfl ?_
              refine Va (Vl rfl) rfl ?_
              refine Xh rfl rfl c37 ?_
              refine Va (Vc rfl tf_34_4 ts_32 (by decide)) rfl ?_
              refine Xh rfl rfl c37 ?_
              refine Va (Ve rfl (Vg rfl rfl) rfl ta_32 rfl) rfl ?_
              refine Xh rfl rfl c37 ?_
              refine Va (Vm rfl) rfl ?_
              refine Xh rfl rfl c37 ?_
              refine Va (Xp (Yn rfl rfl h39 te_32 ts_4) (v' := .vptr [.bool x38] 0) rfl) rfl ?_
              refine Xh rfl rfl c37 ?_
              refine Va (Xm rfl ta_4 rfl) rfl ?_
              refine Va (Vp (congrArg Wc c37) rfl) rfl ?_
              refine Va (Vl rfl) rfl ?_
              refine Xh rfl rfl c40 ?_
              refine Va (Vm rfl) rfl ?_
              refine Xh rfl rfl c40 ?_
              refine Va (rd_geq rfl rfl) rfl ?_
              refine Xh rfl rfl c40 ?_
              refine Va (Vl rfl) rfl ?_
              refine Xh rfl rfl c41 ?_
              refine Va (Vc rfl tf_34_1 ts_22 (by decide)) rfl ?_
              refine Xh rfl rfl c41 ?_
              refine Va (Ve rfl (Vg rfl rfl) rfl ta_22 rfl) rfl ?_
              refine Xh rfl rfl c41 ?_
              refine Va (Vm rfl) rfl ?_
              refine Xh rfl rfl c41 ?_
              refine Va (Xp (Yn rfl rfl h43 te_22 ts_3) (v' := .vptr [.int .i64 x42] 0) rfl) rfl ?_
              refine Xh rfl rfl c41 ?_
              refine Va (Xm rfl ta_3 rfl) rfl ?_
              refine Xh rfl rfl c41 ?_
              refine Va (Zg rfl rfl) rfl ?_
              refine Xh rfl rfl c40 ?_
              refine Va (Vo (congrArg Wc c41) rfl) rfl ?_
              refine Va (Vp (congrArg Wc c40) rfl) rfl ?_
              refine Va (Yd rfl) rfl ?_
              refine Vh ?_
              obtain rfl := Wd hF
              refine Ye ?_
              exact Vq ⟨rfl, rfl, rfl, rfl, rfl, rfl, trivial⟩
             ·have hF := Ys c41 hF
              refine Va (Vc rfl tf_34_3 ts_32 (by decide)) rfl ?_
              refine Va (Ve rfl (Vg rfl rfl) rfl ta_32 rfl) rfl ?_
              refine Va (Vm rfl) rfl ?_
              refine Va (Xp (Yn rfl rfl h36 te_32 ts_4) (v' := .vptr [.bool x35] 0) rfl) rfl ?_
              refine Va (Xm rfl ta_4 rfl) rfl ?_
              refine Va (Vl rfl) rfl ?_
              refine Xh rfl rfl c37 ?_
              refine Va (Vc rfl tf_34_4 ts_32 (by decide)) rfl ?_
              refine Xh rfl rfl c37 ?_
              refine Va (Ve rfl (Vg rfl rfl) rfl ta_32 rfl) rfl ?_
              refine Xh rfl rfl c37 ?_
              refine Va (Vm rfl) rfl ?_
              refine Xh rfl rfl c37 ?_
              refine Va (Xp (Yn rfl rfl h39 te_32 ts_4) (v' := .vptr [.bool x38] 0) rfl) rfl ?_
              refine Xh rfl rfl c37 ?_
              refine Va (Xm rfl ta_4 rfl) rfl ?_
              refine Va (Vp (congrArg Wc c37) rfl) rfl ?_
              refine Va (Vl rfl) rfl ?_
              refine Xh rfl rfl c40 ?_
              refine Va (Vm rfl) rfl ?_
              refine Xh rfl rfl c40 ?_
              refine Va (rd_geq rfl rfl) rfl ?_
              refine Xh rfl rfl c40 ?_
              refine Va (Vl rfl) rfl ?_
              refine Vb rfl rfl (neF c41) rfl ?_
              refine Vb rfl rfl (neF c41) rfl ?_
              refine Vb rfl rfl (neF c41) rfl ?_
              refine Vb rfl rfl (neF c41) rfl ?_
              refine Vb rfl rfl (neF c41) rfl ?_
              refine Vb rfl rfl (neF c41) rfl ?_
              refine Xh rfl rfl c40 ?_
              refine Va (Vp (congrArg Wc c41) rfl) rfl ?_
              refine Va (Vp (congrArg Wc c40) rfl) rfl ?_
              refine Va (Yd rfl) rfl ?_
              refine Vh ?_
              obtain rfl := Wd hF
              refine Ye ?_
              exact Vq ⟨rfl, rfl, rfl, rfl, rfl, rfl, trivial⟩
          ·rintro _ _ _ _ ⟨rfl, hw⟩
           refine ⟨_, _, _, hw, ?_⟩
           refine Xq rfl (fun c44 => ?_) (fun c44 => ?_)
           ·have hF := Yr c44 hF
            refine Vi ?_
            refine Vf ?_
            refine Va (Yd rfl) rfl ?_
            refine Vh ?_
            refine Xj ?_
            obtain rfl := Wd hF
            refine Ye ?_
            exact Vw rfl [] (by decide) ⟨Vs rfl (.bool _), trivial⟩ trivial
           ·have hF := Ys c44 hF
            refine Xy ?_
            obtain rfl := Wd hF
            refine Ye ?_
            exact Vq ⟨rfl, rfl, rfl, rfl, rfl, trivial⟩
      ·rcases o17 with j18 | j19
       ·replace hF := elimL hF
        rintro _ _ _ _ ⟨rfl, hw⟩
        refine ⟨_, _, _, hw, ?_⟩
        obtain rfl := Wd hF
        refine Ye ?_
        exact Vq ⟨rfl, trivial⟩
       ·replace hF := elimR hF
        rintro _ _ _ _ ⟨rfl, hw⟩
        refine ⟨_, _, _, hw, ?_⟩
        refine Vf ?_
        refine Va (rd_add rfl rfl rfl) rfl ?_
        refine Va (Vm rfl) rfl ?_
        refine Vh ?_
        obtain rfl := Wd hF
        refine Ye ?_
        exact Vq ⟨rfl, rfl, rfl, rfl, rfl, trivial⟩
     ·have hF := Ys c16 hF
      refine vwp_exit ?_
      obtain rfl := Wd hF
      refine Ye ?_
      exact Vw rfl [] (by decide) trivial trivial
    ·rcases o13 with j14 | j15
     ·replace hF := elimL hF
      rintro _ _ _ _ ⟨rfl, hw⟩
      refine ⟨_, _, _, hw, ?_⟩
      obtain rfl := Wd hF
      refine fnR ?_
      exact Vq ⟨rfl, trivial⟩
     ·replace hF := elimR hF
      rintro _ _ _ _ ⟨rfl, hw⟩
      refine ⟨_, _, _, hw, ?_⟩
      refine Vi ?_
      refine Vf ?_
      refine Va (Yd rfl) rfl ?_
      refine Vh ?_
      refine Xj ?_
      obtain rfl := Wd hF
      refine fnR ?_
      exact Vq ⟨rfl, trivial⟩
 ·rintro _ _ _ _ ⟨he, hw⟩
  refine ⟨_, _, _, hw, ?_⟩
  exact Yw he [.bool r] ⟨rfl, trivial⟩ (.bool _) ⟨rfl, rfl⟩

theorem F_belts_checked_ok {p0 : List T_Belt} {p1 : T_Line} {p2 : Int} {r : Int} (hF : F_belts_checked p0 p1 p2 = some r) (low : List AObj) :
    Yk Try.prog 30 [.vs 2 (Wa T_Belt.enc p0), .agg [.int .i64 p1.Time, .vs 1 (Wa (Wb .i64) p1.States), .vs 1 (Wa (Wb .i64) p1.Since), .vs 1 (Wa Wc p1.Pulled), .vs 1 (Wa Wc p1.Held)], .int .i64 p2] low fun x low' => x = .int .i64 r ∧ low' = low := by
 refine Vz (nt := 19) (rs := [.tmp 6]) Try.func30 rfl rfl (We rfl) rfl ?_
 refine Vx (Q' := FnE (fun E' lw lc => Xv E' lw lc [(6, .int .i64 r)] low [])) ?_ ?_
 ·unfold F_belts_checked at hF
  refine Vi ?_
  refine Vf ?_
  refine Vj (Yx rfl rfl (v := .agg [.int .i64 p1.Time, .vs 1 (Wa (Wb .i64) p1.States), .vs 1 (Wa (Wb .i64) p1.Since), .vs 1 (Wa Wc p1.Pulled), .vs 1 (Wa Wc p1.Held)]) rfl rfl (Wf _) rfl rfl) rfl ?_
  refine Va (Xr rfl) rfl ?_
  refine Vh ?_
  refine Vi ?_
  refine Yp ?_
  refine Vi ?_
  refine Vf ?_
  obtain ⟨x1, h2, hF⟩ := Yt hF
  refine Va (Xw rfl) rfl ?_
  refine Va (Xk (ds := [.int .i64 p1.Time, .vs 1 (Wa (Wb .i64) p1.States), .vs 1 (Wa (Wb .i64) p1.Since), .vs 1 (Wa Wc p1.Pulled), .vs 1 (Wa Wc p1.Held)]) rfl (Vg rfl rfl) rfl ta_34 ts_34 rfl rfl rfl) rfl ?_
  refine Vj (Xt rfl Try.call28 (F_belts_Valid_ok h2 _)) rfl ?_
  refine Va (Zo rfl) rfl ?_
  refine Va (Yd rfl) rfl ?_
  refine Vh ?_
  refine Xq rfl (fun c3 => ?_) (fun c3 => ?_)
  ·have hF := Yr c3 hF
   refine Vi ?_
   refine Vf ?_
   refine Va (Xr rfl) rfl ?_
   refine Vh ?_
   refine Xj ?_
   obtain rfl := Wd hF
   refine fnR ?_
   exact Vw rfl [] (by decide) ⟨Vs rfl (.int _ _), trivial⟩ trivial
  ·have hF := Ys c3 hF
   refine Vi ?_
   refine Vf ?_
   obtain ⟨x4, h5, hF⟩ := Yt hF
   refine Va (Vm rfl) rfl ?_
   refine Va (Xw rfl) rfl ?_
   refine Va (Xp (Xx rfl rfl te_27) (congrArg (fun n : Nat => Wb .i64 (n : Int)) (Wh _))) rfl ?_
   refine Va (rd_sub rfl rfl rfl) rfl ?_
   refine Vj (Xt rfl Try.call33 (F_lists_In_ok h5 _)) rfl ?_
   refine Va (Zo rfl) rfl ?_
   refine Va (Yd rfl) rfl ?_
   refine Vh ?_
   refine Xq rfl (fun c6 => ?_) (fun c6 => ?_)
   ·have hF := Yr c6 hF
    refine Vi ?_
    refine Vf ?_
    refine Va (Xr rfl) rfl ?_
    refine Vh ?_
    refine Xj ?_
    obtain rfl := Wd hF
    refine fnR ?_
    exact Vw rfl [] (by decide) ⟨Vs rfl (.int _ _), trivial⟩ trivial
   ·have hF := Ys c6 hF
    refine Xy ?_
    refine Vi ?_
    refine Vf ?_
    refine Va (Xr rfl) rfl ?_
    refine Vh ?_
    refine Xj ?_
    obtain rfl := Wd hF
    refine fnR ?_
    exact Vw rfl [] (by decide) ⟨Vs rfl (.int _ _), trivial⟩ trivial
 ·rintro _ _ _ _ ⟨he, hw⟩
  refine ⟨_, _, _, hw, ?_⟩
  exact Yw he [.int .i64 r] ⟨rfl, trivial⟩ (.int _ _) ⟨rfl, rfl⟩

theorem F_belts_Start_1_ok0 {p0 : T_Line} {p1 : Int} {r : T_Line} (hF : F_belts_Start_1 p0 p1 = some r) {low0 : List AObj} {q0 q1 q2 q3 q4 q5 w0 w1 w2 w3 w4 w5 : Nat} (hB : Bor low0 [q0, q1, q2, q3, q4, q5]) {m1 : Nat} (hm1 : m1 = (p0.States).length) {m2 : Nat} (hm2 : m2 = (p0.Since).length) {m3 : Nat} (hm3 : m3 = (p0.Pulled).length) {m4 : Nat} (hm4 : m4 = (p0.Held).length) {n : Nat} (hn : low0.length = n) :
    Yk Try.prog 32 [.ptr q0 w0 0 0, .ptr q5 w5 0 0] (setL low0 [(q0, ⟨34, 5, [.agg [.int .i64 p0.Time, .sl q1 w1 0 m1, .sl q2 w2 0 m2, .sl q3 w3 0 m3, .sl q4 w4 0 m4]], w0⟩), (q1, ⟨3, 1, Wa (Wb .i64) p0.States, w1⟩), (q2, ⟨3, 1, Wa (Wb .i64) p0.Since, w2⟩), (q3, ⟨4, 1, Wa Wc p0.Pulled, w3⟩), (q4, ⟨4, 1, Wa Wc p0.Held, w4⟩), (q5, ⟨3, 1, [.int .i64 p1], w5⟩)]) fun x low' => x = .tup [] ∧ low' = setL low0 [(q0, ⟨34, 5, [.agg [.int .i64 r.Time, .sl q1 w1 0 m1, .sl q2 w2 0 m2, .sl q3 w3 0 m3, .sl q4 w4 0 m4]], w0⟩), (q1, ⟨3, 1, Wa (Wb .i64) r.States, w1⟩), (q2, ⟨3, 1, Wa (Wb .i64) r.Since, w2⟩), (q3, ⟨4, 1, Wa Wc r.Pulled, w3⟩), (q4, ⟨4, 1, Wa Wc r.Held, w4⟩), (q5, ⟨3, 1, [.int .i64 p1], w5⟩)] ++ [] := by
 refine Vz (nt := 19) (rs := []) Try.func32 rfl rfl (We rfl) rfl ?_
 have hq0 : q0 < n := hB.ltN hn 0 rfl
 have hq1 : q1 < n := hB.ltN hn 1 rfl
 have hq2 : q2 < n := hB.ltN hn 2 rfl
 have hq3 : q3 < n := hB.ltN hn 3 rfl
 have hq4 : q4 < n := hB.ltN hn 4 rfl
 have hq5 : q5 < n := hB.ltN hn 5 rfl
 refine Vx (Q' := FnE (fun E' lw lc => m1 = (r.States).length ∧ m2 = (r.Since).length ∧ m3 = (r.Pulled).length ∧ m4 = (r.Held).length ∧ Xv E' lw lc [] (setL low0 [(q0, ⟨34, 5, [.agg [.int .i64 r.Time, .sl q1 w1 0 m1, .sl q2 w2 0 m2, .sl q3 w3 0 m3, .sl q4 w4 0 m4]], w0⟩), (q1, ⟨3, 1, Wa (Wb .i64) r.States, w1⟩), (q2, ⟨3, 1, Wa (Wb .i64) r.Since, w2⟩), (q3, ⟨4, 1, Wa Wc r.Pulled, w3⟩), (q4, ⟨4, 1, Wa Wc r.Held, w4⟩), (q5, ⟨3, 1, [.int .i64 p1], w5⟩)]) [])) ?_ ?_
 ·unfold F_belts_Start_1 at hF
  obtain ⟨x5, h6, hF⟩ := Yt hF
  obtain ⟨x7, h8, hF⟩ := Yt hF
  refine vwp_drawn [[], [0], [0, 1], [0, 1, 2], [], [], [5], [5, 6], [5, 6, 7], [], [], [10], [10, 11], [10, 11, 12], [0, 1, 2, 3, 4, 5, 6, 7, 8, 10, 11, 12, 13], [0, 1, 2, 3, 4, 5, 6, 7, 8, 10, 11, 12, 13, 14], [0, 1, 2, 3, 4, 5, 6, 7, 8, 9, 10, 11, 12, 13, 14, 15], [0, 1, 2, 3, 4, 5, 6, 7, 8, 9, 10, 11, 12, 13, 14, 15, 16]] [false, false, false, false, false, false, false, false, false, false, false, false, false, false, false, true, false, true] [((setL low0 [(q0, ⟨34, 5, [.agg [.int .i64 p0.Time, .sl q1 w1 0 m1, .sl q2 w2 0 m2, .sl q3 w3 0 m3, .sl q4 w4 0 m4]], w0⟩), (q1, ⟨3, 1, Wa (Wb .i64) p0.States, w1⟩), (q2, ⟨3, 1, Wa (Wb .i64) p0.Since, w2⟩), (q3, ⟨4, 1, Wa Wc p0.Pulled, w3⟩), (q4, ⟨4, 1, Wa Wc p0.Held, w4⟩), (q5, ⟨3, 1, [.int .i64 p1], w5⟩)]), []), ((setL low0 [(q0, ⟨34, 5, [.agg [.int .i64 p0.Time, .sl q1 w1 0 m1, .sl q2 w2 0 m2, .sl q3 w3 0 m3, .sl q4 w4 0 m4]], w0⟩), (q1, ⟨3, 1, Wa (Wb .i64) (p0.States.set ((p1).toNat) 1), w1⟩), (q2, ⟨3, 1, Wa (Wb .i64) p0.Since, w2⟩), (q3, ⟨4, 1, Wa Wc p0.Pulled, w3⟩), (q4, ⟨4, 1, Wa Wc p0.Held, w4⟩), (q5, ⟨3, 1, [.int .i64 p1], w5⟩)]), []), ((setL low0 [(q0, ⟨34, 5, [.agg [.int .i64 p0.Time, .sl q1 w1 0 m1, .sl q2 w2 0 m2, .sl q3 w3 0 m3, .sl q4 w4 0 m4]], w0⟩), (q1, ⟨3, 1, Wa (Wb .i64) (p0.States.set ((p1).toNat) 1), w1⟩), (q2, ⟨3, 1, Wa (Wb .i64) (p0.Since.set ((p1).toNat) p0.Time), w2⟩), (q3, ⟨4, 1, Wa Wc p0.Pulled, w3⟩), (q4, ⟨4, 1, Wa Wc p0.Held, w4⟩), (q5, ⟨3, 1, [.int .i64 p1], w5⟩)]), [])] mixed (by kernel_rfl) rfl (lenAll (Yy Vy (Yy Vy (Yy Vy all0)))) rfl _ rfl rfl ?_
  refine Ze rfl rfl (Zi rfl) ?_
  refine Ze rfl rfl (Zc rfl) ?_
  refine Ze rfl rfl (Vc rfl tf_34_1 ts_22 (by decide)) ?_
  refine Ze rfl rfl (Ve rfl (Yb hB rfl 0 rfl) rfl ta_22 rfl) ?_
  refine Ze rfl rfl (Ve rfl (Yb hB rfl 5 rfl) rfl ta_3 rfl) ?_
  refine Ze rfl rfl (Zi rfl) ?_
  refine Ze rfl rfl (Zc rfl) ?_
  refine Ze rfl rfl (Vc rfl tf_34_2 ts_22 (by decide)) ?_
  refine Ze rfl rfl (Ve rfl (Yb hB rfl 0 rfl) rfl ta_22 rfl) ?_
  refine Zm _ rfl rfl (Yy (VRd.ntl (Ve rfl (Yb hB rfl 5 rfl) rfl ta_3 rfl)) (Yy (VRd.ntl (Ve rfl (Yb hB rfl 5 rfl) rfl ta_3 rfl)) all0)) ?_
  refine Ze rfl rfl (Zi rfl) ?_
  refine Ze rfl rfl (Zc rfl) ?_
  refine Ze rfl rfl (Vc rfl tf_34_0 ts_3 (by decide)) ?_
  refine Ze rfl rfl (Ve rfl (Yb hB rfl 0 rfl) rfl ta_3 rfl) ?_
  refine Ze rfl rfl (rd_ixS rfl hm1 rfl (Yb hB rfl 1 rfl) h6 te_22 ts_3) ?_
  refine dops_ef rfl rfl rfl (vef_stL (p := .int .i64 1) (e' := 1) rfl (Yb hB rfl 1 rfl) (Zj h6).2 rfl ts_3 rfl (Yv rfl) (We rfl) rfl (setO_B hB rfl 1 rfl (Vk (fun _ => .int _ _)) rfl)) ?_
  refine Ze rfl rfl (rd_ixS rfl hm2 rfl (Yb hB rfl 2 rfl) h8 te_22 ts_3) ?_
  refine dops_ef rfl rfl rfl (vef_stL (p := .int .i64 p0.Time) (e' := p0.Time) rfl (Yb hB rfl 2 rfl) (Zj h8).2 rfl ts_3 rfl (Yv rfl) (We rfl) rfl (setO_B hB rfl 2 rfl (Vk (fun _ => .int _ _)) rfl)) ?_
  refine Zh ?_
  obtain rfl := Wd hF
  refine And.intro (.inl rfl) (And.intro (Eq.trans hm1 List.length_set.symm) (And.intro (Eq.trans hm2 List.length_set.symm) (And.intro hm3 (And.intro hm4 ?_))))
  exact Vq trivial
 ·rintro _ _ _ _ ⟨he, hl1, hl2, hl3, hl4, hw⟩
  refine ⟨_, _, _, hw, ?_⟩
  exact Yw he [] trivial ((lt_tup trivial)) ⟨rfl, (List.append_nil _).symm⟩

theorem F_belts_Start_1_len {p0 : T_Line} {p1 : Int} {r : T_Line} (hF : F_belts_Start_1 p0 p1 = some r) {m1 : Nat} (hm1 : m1 = (p0.States).length) {m2 : Nat} (hm2 : m2 = (p0.Since).length) {m3 : Nat} (hm3 : m3 = (p0.Pulled).length) {m4 : Nat} (hm4 : m4 = (p0.Held).length) : m1 = (r.States).length ∧ m2 = (r.Since).length ∧ m3 = (r.Pulled).length ∧ m4 = (r.Held).length ∧ True := by
  have h : LP (F_belts_Start_1 p0 p1) (fun r => m1 = (r.States).length ∧ m2 = (r.Since).length ∧ m3 = (r.Pulled).length ∧ m4 = (r.Held).length ∧ True) := by
    unfold F_belts_Start_1
    exact (Zy fun x5 h6 => Zy fun x7 h8 => Zw ⟨(Eq.trans hm1 List.length_set.symm), (Eq.trans hm2 List.length_set.symm), hm3, hm4, trivial⟩)
  exact h r hF

theorem F_belts_Start_1_ok {p0 : T_Line} {p1 : Int} {r : T_Line} (hF : F_belts_Start_1 p0 p1 = some r) {low : List AObj} {q0 q1 q2 q3 q4 q5 w0 w1 w2 w3 w4 w5 : Nat} (hnd : [q0, q1, q2, q3, q4, q5].Nodup) {m1 : Nat} (hm1 : m1 = (p0.States).length) {m2 : Nat} (hm2 : m2 = (p0.Since).length) {m3 : Nat} (hm3 : m3 = (p0.Pulled).length) {m4 : Nat} (hm4 : m4 = (p0.Held).length) (hq0 : low[q0]? = some ⟨34, 5, [.agg [.int .i64 p0.Time, .sl q1 w1 0 m1, .sl q2 w2 0 m2, .sl q3 w3 0 m3, .sl q4 w4 0 m4]], w0⟩) (hq1 : low[q1]? = some ⟨3, 1, Wa (Wb .i64) p0.States, w1⟩) (hq2 : low[q2]? = some ⟨3, 1, Wa (Wb .i64) p0.Since, w2⟩) (hq3 : low[q3]? = some ⟨4, 1, Wa Wc p0.Pulled, w3⟩) (hq4 : low[q4]? = some ⟨4, 1, Wa Wc p0.Held, w4⟩) (hq5 : low[q5]? = some ⟨3, 1, [.int .i64 p1], w5⟩) {n : Nat} (hn : low.length = n) :
    Yk Try.prog 32 [.ptr q0 w0 0 0, .ptr q5 w5 0 0] low fun x low' => x = .tup [] ∧ low' = setL low [(q0, ⟨34, 5, [.agg [.int .i64 r.Time, .sl q1 w1 0 m1, .sl q2 w2 0 m2, .sl q3 w3 0 m3, .sl q4 w4 0 m4]], w0⟩), (q1, ⟨3, 1, Wa (Wb .i64) r.States, w1⟩), (q2, ⟨3, 1, Wa (Wb .i64) r.Since, w2⟩), (q3, ⟨4, 1, Wa Wc r.Pulled, w3⟩), (q4, ⟨4, 1, Wa Wc r.Held, w4⟩), (q5, ⟨3, 1, [.int .i64 p1], w5⟩)] ++ [] := by
  obtain ⟨h1, h2⟩ := Zn (ps := [(q0, ⟨34, 5, [.agg [.int .i64 p0.Time, .sl q1 w1 0 m1, .sl q2 w2 0 m2, .sl q3 w3 0 m3, .sl q4 w4 0 m4]], w0⟩), (q1, ⟨3, 1, Wa (Wb .i64) p0.States, w1⟩), (q2, ⟨3, 1, Wa (Wb .i64) p0.Since, w2⟩), (q3, ⟨4, 1, Wa Wc p0.Pulled, w3⟩), (q4, ⟨4, 1, Wa Wc p0.Held, w4⟩), (q5, ⟨3, 1, [.int .i64 p1], w5⟩)]) hnd (Zl hq0 (Zl hq1 (Zl hq2 (Zl hq3 (Zl hq4 (Zl hq5 bor0))))))
  exact Zf h1 (F_belts_Start_1_ok0 hF h2 hm1 hm2 hm3 hm4 hn)

theorem F_slices_Clone___int_int__ok {p0 : List Int} {r : List Int} (hF : F_slices_Clone___int_int_ p0 = some r) (low : List AObj) {n : Nat} (hn : low.length = n) :
    Yk Try.prog 54 [.vs 1 (Wa (Wb .i64) p0)] low fun x low' => x = .sl (n + 0) 0 0 (r).length ∧ low' = low ++ [⟨3, 1, Wa (Wb .i64) r, 0⟩] := by
 refine Vz (nt := 8) (rs := [.tmp 2]) Try.func54 rfl rfl (We rfl) rfl ?_
 refine Vx (Q' := FnE (fun E' lw lc => Xv E' lw lc [(2, .sl (n + 0) 0 0 (r).length)] low [⟨3, 1, Wa (Wb .i64) r, 0⟩])) ?_ ?_
 ·unfold F_slices_Clone___int_int_ at hF
  refine Vi ?_
  refine Vf ?_
  refine Vj (vef_nilsN hn rfl 3 1 (Wf _) (rd_asN rfl)) rfl ?_
  refine Vh ?_
  refine Vi ?_
  refine Vi ?_
  refine Vf ?_
  refine Va (Xw rfl) rfl ?_
  refine vops_nilq rfl (nilq_vs rfl) rfl te_22 rfl ?_
  intro b1 hb1
  refine Vh ?_
  refine Xq rfl (fun c2 => ?_) (fun c2 => ?_)
  ·have hF : (some ([] : List Int)) = some _ := (show ((appI 8 ([] : List Int) p0).bind fun x3 => some x3) = (some ([] : List Int)) from by have he : p0 = [] := map_nil (hb1 c2); first | (rw [he]; rfl) | simp [he, appI]).symm.trans hF
   refine Vi ?_
   refine Vf ?_
   refine Vj (vef_nilsN hn rfl 3 1 (Wf _) (rd_asN rfl)) rfl ?_
   refine Vh ?_
   refine Xj ?_
   obtain rfl := Wd hF
   refine fnR ?_
   exact Vw hn [(1, 0)] (by decide) ⟨Zr 0 1 rfl rfl, trivial⟩ ⟨⟨_, rfl, rfl, .same _ _ _ _ (Xd trivial)⟩, trivial⟩
  ·skip
   refine Xy ?_
   refine Vi ?_
   refine Vf ?_
   obtain ⟨x3, h4, hF⟩ := Yt hF
   refine Vj (vef_litN hn rfl (es := Wa (Wb .i64) ([] : List Int)) trivial rfl rfl (nt_all rfl) te_22 ts_3 tz_3 rfl rfl (Wf _) (by decide)) rfl ?_
   refine Va (Xw rfl) rfl ?_
   refine Vj (vef_apL (f := (Wb .i64)) (l := ([] : List Int)) (ys := p0) rfl rfl (Vg hn rfl) rfl (src_vs rfl) te_22 ts_3 tb_3 (by decide) tz_3 rfl h4 (Ym hn rfl)) rfl ?_
   refine Va (rd_asL rfl) rfl ?_
   refine Vh ?_
   refine Xj ?_
   obtain rfl := Wd hF
   refine fnR ?_
   exact Vw hn [(1, 0 + 1)] (by decide) ⟨Zr 0 1 rfl rfl, trivial⟩ ⟨⟨_, rfl, rfl, .same _ _ _ _ (Vk (fun _ => .int _ _))⟩, trivial⟩
 ·rintro _ _ _ _ ⟨he, hw⟩
  refine ⟨_, _, _, hw, ?_⟩
  exact bodyQ_all he [.sl (n + 0) 0 0 (r).length] ⟨rfl, trivial⟩ ⟨rfl, rfl⟩

theorem F_slices_Clone___bool_bool__ok {p0 : List Bool} {r : List Bool} (hF : F_slices_Clone___bool_bool_ p0 = some r) (low : List AObj) {n : Nat} (hn : low.length = n) :
    Yk Try.prog 55 [.vs 1 (Wa Wc p0)] low fun x low' => x = .sl (n + 0) 0 0 (r).length ∧ low' = low ++ [⟨4, 1, Wa Wc r, 0⟩] := by
 refine Vz (nt := 8) (rs := [.tmp 2]) Try.func55 rfl rfl (We rfl) rfl ?_
 refine Vx (Q' := FnE (fun E' lw lc => Xv E' lw lc [(2, .sl (n + 0) 0 0 (r).length)] low [⟨4, 1, Wa Wc r, 0⟩])) ?_ ?_
 ·unfold F_slices_Clone___bool_bool_ at hF
  refine Vi ?_
  refine Vf ?_
  refine Vj (vef_nilsN hn rfl 4 1 (Wf _) (rd_asN rfl)) rfl ?_
  refine Vh ?_
  refine Vi ?_
  refine Vi ?_
  refine Vf ?_
  refine Va (Xw rfl) rfl ?_
  refine vops_nilq rfl (nilq_vs rfl) rfl te_32 rfl ?_
  intro b1 hb1
  refine Vh ?_
  refine Xq rfl (fun c2 => ?_) (fun c2 => ?_)
  ·have hF : (some ([] : List Bool)) = some _ := (show ((appI 1 ([] : List Bool) p0).bind fun x3 => some x3) = (some ([] : List Bool)) from by have he : p0 = [] := map_nil (hb1 c2); first | (rw [he]; rfl) | simp [he, appI]).symm.trans hF
   refine Vi ?_
   refine Vf ?_
   refine Vj (vef_nilsN hn rfl 4 1 (Wf _) (rd_asN rfl)) rfl ?_
   refine Vh ?_
   refine Xj ?_
   obtain rfl := Wd hF
   refine fnR ?_
   exact Vw hn [(1, 0)] (by decide) ⟨Zr 0 1 rfl rfl, trivial⟩ ⟨⟨_, rfl, rfl, .same _ _ _ _ (Xd trivial)⟩, trivial⟩
  ·skip
   refine Xy ?_
   refine Vi ?_
   refine Vf ?_
   obtain ⟨x3, h4, hF⟩ := Yt hF
   refine Vj (vef_litN hn rfl (es := Wa Wc ([] : List Bool)) trivial rfl rfl (nt_all rfl) te_32 ts_4 tz_4 rfl rfl (Wf _) (by decide)) rfl ?_
   refine Va (Xw rfl) rfl ?_
   refine Vj (vef_apL (f := Wc) (l := ([] : List Bool)) (ys := p0) rfl rfl (Vg hn rfl) rfl (src_vs rfl) te_32 ts_4 tb_4 (by decide) tz_4 rfl h4 (Ym hn rfl)) rfl ?_
   refine Va (rd_asL rfl) rfl ?_
   refine Vh ?_
   refine Xj ?_
   obtain rfl := Wd hF
   refine fnR ?_
   exact Vw hn [(1, 0 + 1)] (by decide) ⟨Zr 0 1 rfl rfl, trivial⟩ ⟨⟨_, rfl, rfl, .same _ _ _ _ (Vk (fun _ => .bool _))⟩, trivial⟩
 ·rintro _ _ _ _ ⟨he, hw⟩
  refine ⟨_, _, _, hw, ?_⟩
  exact bodyQ_all he [.sl (n + 0) 0 0 (r).length] ⟨rfl, trivial⟩ ⟨rfl, rfl⟩

theorem F_belts_done__belts_Start_1_ok0 {p0 : T_Line} {pc10 : Int} {r : T_Line} (hF : F_belts_done__belts_Start_1 p0 pc10 = some r) {low0 : List AObj} {q0 w0 : Nat} (hB : Bor low0 [q0]) {n : Nat} (hn : low0.length = n) :
    Yk Try.prog 31 [.agg [.int .i64 p0.Time, .vs 1 (Wa (Wb .i64) p0.States), .vs 1 (Wa (Wb .i64) p0.Since), .vs 1 (Wa Wc p0.Pulled), .vs 1 (Wa Wc p0.Held)], .fn 32 [] [.ptr q0 w0 0 0]] (setL low0 [(q0, ⟨3, 1, [.int .i64 pc10], w0⟩)]) fun x low' => x = .agg [.int .i64 r.Time, .sl (n + 0) 0 0 (r.States).length, .sl (n + 1) 0 0 (r.Since).length, .sl (n + 2) 0 0 (r.Pulled).length, .vs 1 (Wa Wc r.Held)] ∧ low' = setL low0 [(q0, ⟨3, 1, [.int .i64 pc10], w0⟩)] ++ [⟨3, 1, Wa (Wb .i64) r.States, 0⟩, ⟨3, 1, Wa (Wb .i64) r.Since, 0⟩, ⟨4, 1, Wa Wc r.Pulled, 0⟩] := by
 refine Vz (nt := 24) (rs := [.cell 4 34]) Try.func31 rfl rfl (We rfl) rfl ?_
 have hq0 : q0 < n := hB.ltN hn 0 rfl
 refine Vx (Q' := FnE (fun E' lw lc => Xv E' lw lc [(4, .ptr (n + 3) 0 0 0)] (setL low0 [(q0, ⟨3, 1, [.int .i64 pc10], w0⟩)]) [⟨3, 1, Wa (Wb .i64) r.States, 0⟩, ⟨3, 1, Wa (Wb .i64) r.Since, 0⟩, ⟨4, 1, Wa Wc r.Pulled, 0⟩, ⟨34, 5, [.agg [.int .i64 r.Time, .sl (n + 0) 0 0 (r.States).length, .sl (n + 1) 0 0 (r.Since).length, .sl (n + 2) 0 0 (r.Pulled).length, .vs 1 (Wa Wc r.Held)]], 0⟩])) ?_ ?_
 ·unfold F_belts_done__belts_Start_1 at hF
  refine Vi ?_
  refine Vf ?_
  refine Vj (Yx (Vn hn) rfl (v := .agg [.int .i64 p0.Time, .vs 1 (Wa (Wb .i64) p0.States), .vs 1 (Wa (Wb .i64) p0.Since), .vs 1 (Wa Wc p0.Pulled), .vs 1 (Wa Wc p0.Held)]) rfl rfl (Wf _) rfl rfl) rfl ?_
  refine Vj (Xi (Vn hn) rfl tz_34 rfl rfl (Wf _) rfl) rfl ?_
  refine Vh ?_
  refine Vi ?_
  obtain ⟨x1, h2, hF⟩ := Yt hF
  obtain ⟨x3, h4, hF⟩ := Yt hF
  obtain ⟨x5, h6, hF⟩ := Yt hF
  obtain ⟨x7, h8, hF⟩ := Yt hF
  refine Xz (Yj 3 1 (Wf _)) ?_
  refine Xz (Yj 3 1 (Wf _)) ?_
  refine Xz (Yj 4 1 (Wf _)) ?_
  refine Xz (Yj 4 1 (Wf _)) ?_
  refine Xz (Yj 34 5 (Wf _)) ?_
  refine vwp_drawnX [[], [0], [], [2], [2, 3], [], [5], [2, 3, 4, 5, 6], [], [8], [2, 3, 4, 5, 6, 7, 8, 9], [], [11], [2, 3, 4, 5, 6, 7, 8, 9, 10, 11, 12], [0, 1, 2, 3, 4, 5, 6, 7, 8, 9, 10, 11, 12, 13], [], [0, 1, 2, 3, 4, 5, 6, 7, 8, 9, 10, 11, 12, 13, 14, 15]] [false, false, false, false, true, false, false, true, false, false, true, false, false, true, false, true, true] [([], (setL low0 [(q0, ⟨3, 1, [.int .i64 pc10], w0⟩)]), [⟨34, 5, [.agg [.int .i64 p0.Time, .vs 1 (Wa (Wb .i64) p0.States), .vs 1 (Wa (Wb .i64) p0.Since), .vs 1 (Wa Wc p0.Pulled), .vs 1 (Wa Wc p0.Held)]], 0⟩, ⟨34, 5, [.agg [.int .i64 0, .nils, .nils, .nils, .nils]], 0⟩, ⟨3, 1, [], 0⟩, ⟨3, 1, [], 0⟩, ⟨4, 1, [], 0⟩, ⟨4, 1, [], 0⟩, ⟨34, 5, [], 0⟩]), ([4], (setL low0 [(q0, ⟨3, 1, [.int .i64 pc10], w0⟩)]), [⟨34, 5, [.agg [.int .i64 p0.Time, .vs 1 (Wa (Wb .i64) p0.States), .vs 1 (Wa (Wb .i64) p0.Since), .vs 1 (Wa Wc p0.Pulled), .vs 1 (Wa Wc p0.Held)]], 0⟩, ⟨34, 5, [.agg [.int .i64 0, .nils, .nils, .nils, .nils]], 0⟩, ⟨3, 1, Wa (Wb .i64) x1, 1⟩, ⟨3, 1, [], 0⟩, ⟨4, 1, [], 0⟩, ⟨4, 1, [], 0⟩, ⟨34, 5, [], 0⟩]), ([15], (setL low0 [(q0, ⟨3, 1, [.int .i64 pc10], w0⟩)]), [⟨34, 5, [.agg [.int .i64 p0.Time, .vs 1 (Wa (Wb .i64) p0.States), .vs 1 (Wa (Wb .i64) p0.Since), .vs 1 (Wa Wc p0.Pulled), .vs 1 (Wa Wc p0.Held)]], 0⟩, ⟨34, 5, [.agg [.int .i64 0, .nils, .nils, .nils, .nils]], 0⟩, ⟨3, 1, [], 0⟩, ⟨3, 1, [], 0⟩, ⟨4, 1, [], 0⟩, ⟨4, 1, [], 0⟩, ⟨34, 5, [.agg [.int .i64 0, .nils, .nils, .nils, .nils]], 1⟩]), ([4, 7], (setL low0 [(q0, ⟨3, 1, [.int .i64 pc10], w0⟩)]), [⟨34, 5, [.agg [.int .i64 p0.Time, .vs 1 (Wa (Wb .i64) p0.States), .vs 1 (Wa (Wb .i64) p0.Since), .vs 1 (Wa Wc p0.Pulled), .vs 1 (Wa Wc p0.Held)]], 0⟩, ⟨34, 5, [.agg [.int .i64 0, .nils, .nils, .nils, .nils]], 0⟩, ⟨3, 1, Wa (Wb .i64) x1, 1⟩, ⟨3, 1, Wa (Wb .i64) x3, 1⟩, ⟨4, 1, [], 0⟩, ⟨4, 1, [], 0⟩, ⟨34, 5, [], 0⟩]), ([4, 15], (setL low0 [(q0, ⟨3, 1, [.int .i64 pc10], w0⟩)]), [⟨34, 5, [.agg [.int .i64 p0.Time, .vs 1 (Wa (Wb .i64) p0.States), .vs 1 (Wa (Wb .i64) p0.Since), .vs 1 (Wa Wc p0.Pulled), .vs 1 (Wa Wc p0.Held)]], 0⟩, ⟨34, 5, [.agg [.int .i64 0, .nils, .nils, .nils, .nils]], 0⟩, ⟨3, 1, Wa (Wb .i64) x1, 1⟩, ⟨3, 1, [], 0⟩, ⟨4, 1, [], 0⟩, ⟨4, 1, [], 0⟩, ⟨34, 5, [.agg [.int .i64 0, .nils, .nils, .nils, .nils]], 1⟩]), ([4, 7, 10], (setL low0 [(q0, ⟨3, 1, [.int .i64 pc10], w0⟩)]), [⟨34, 5, [.agg [.int .i64 p0.Time, .vs 1 (Wa (Wb .i64) p0.States), .vs 1 (Wa (Wb .i64) p0.Since), .vs 1 (Wa Wc p0.Pulled), .vs 1 (Wa Wc p0.Held)]], 0⟩, ⟨34, 5, [.agg [.int .i64 0, .nils, .nils, .nils, .nils]], 0⟩, ⟨3, 1, Wa (Wb .i64) x1, 1⟩, ⟨3, 1, Wa (Wb .i64) x3, 1⟩, ⟨4, 1, Wa Wc x5, 1⟩, ⟨4, 1, [], 0⟩, ⟨34, 5, [], 0⟩]), ([4, 7, 15], (setL low0 [(q0, ⟨3, 1, [.int .i64 pc10], w0⟩)]), [⟨34, 5, [.agg [.int .i64 p0.Time, .vs 1 (Wa (Wb .i64) p0.States), .vs 1 (Wa (Wb .i64) p0.Since), .vs 1 (Wa Wc p0.Pulled), .vs 1 (Wa Wc p0.Held)]], 0⟩, ⟨34, 5, [.agg [.int .i64 0, .nils, .nils, .nils, .nils]], 0⟩, ⟨3, 1, Wa (Wb .i64) x1, 1⟩, ⟨3, 1, Wa (Wb .i64) x3, 1⟩, ⟨4, 1, [], 0⟩, ⟨4, 1, [], 0⟩, ⟨34, 5, [.agg [.int .i64 0, .nils, .nils, .nils, .nils]], 1⟩]), ([4, 7, 10, 13], (setL low0 [(q0, ⟨3, 1, [.int .i64 pc10], w0⟩)]), [⟨34, 5, [.agg [.int .i64 p0.Time, .vs 1 (Wa (Wb .i64) p0.States), .vs 1 (Wa (Wb .i64) p0.Since), .vs 1 (Wa Wc p0.Pulled), .vs 1 (Wa Wc p0.Held)]], 0⟩, ⟨34, 5, [.agg [.int .i64 0, .nils, .nils, .nils, .nils]], 0⟩, ⟨3, 1, Wa (Wb .i64) x1, 1⟩, ⟨3, 1, Wa (Wb .i64) x3, 1⟩, ⟨4, 1, Wa Wc x5, 1⟩, ⟨4, 1, Wa Wc x7, 1⟩, ⟨34, 5, [], 0⟩]), ([4, 7, 10, 15], (setL low0 [(q0, ⟨3, 1, [.int .i64 pc10], w0⟩)]), [⟨34, 5, [.agg [.int .i64 p0.Time, .vs 1 (Wa (Wb .i64) p0.States), .vs 1 (Wa (Wb .i64) p0.Since), .vs 1 (Wa Wc p0.Pulled), .vs 1 (Wa Wc p0.Held)]], 0⟩, ⟨34, 5, [.agg [.int .i64 0, .nils, .nils, .nils, .nils]], 0⟩, ⟨3, 1, Wa (Wb .i64) x1, 1⟩, ⟨3, 1, Wa (Wb .i64) x3, 1⟩, ⟨4, 1, Wa Wc x5, 1⟩, ⟨4, 1, [], 0⟩, ⟨34, 5, [.agg [.int .i64 0, .nils, .nils, .nils, .nils]], 1⟩]), ([4, 7, 10, 13, 15], (setL low0 [(q0, ⟨3, 1, [.int .i64 pc10], w0⟩)]), [⟨34, 5, [.agg [.int .i64 p0.Time, .vs 1 (Wa (Wb .i64) p0.States), .vs 1 (Wa (Wb .i64) p0.Since), .vs 1 (Wa Wc p0.Pulled), .vs 1 (Wa Wc p0.Held)]], 0⟩, ⟨34, 5, [.agg [.int .i64 0, .nils, .nils, .nils, .nils]], 0⟩, ⟨3, 1, Wa (Wb .i64) x1, 1⟩, ⟨3, 1, Wa (Wb .i64) x3, 1⟩, ⟨4, 1, Wa Wc x5, 1⟩, ⟨4, 1, Wa Wc x7, 1⟩, ⟨34, 5, [.agg [.int .i64 0, .nils, .nils, .nils, .nils]], 1⟩]), ([4, 7, 10, 13, 15, 16], (setL low0 [(q0, ⟨3, 1, [.int .i64 pc10], w0⟩)]), [⟨34, 5, [.agg [.int .i64 p0.Time, .vs 1 (Wa (Wb .i64) p0.States), .vs 1 (Wa (Wb .i64) p0.Since), .vs 1 (Wa Wc p0.Pulled), .vs 1 (Wa Wc p0.Held)]], 0⟩, ⟨34, 5, [.agg [.int .i64 0, .nils, .nils, .nils, .nils]], 0⟩, ⟨3, 1, Wa (Wb .i64) x1, 1⟩, ⟨3, 1, Wa (Wb .i64) x3, 1⟩, ⟨4, 1, Wa Wc x5, 1⟩, ⟨4, 1, Wa Wc x7, 1⟩, ⟨34, 5, [.agg [.int .i64 p0.Time, .sl (n + 2) 1 0 (x1).length, .sl (n + 3) 1 0 (x3).length, .sl (n + 4) 1 0 (x5).length, .sl (n + 5) 1 0 (x7).length]], 1⟩])] mixed (by kernel_rfl) rfl (lenAllX (Yg Vy (Yg Vy (Yg Vy (Yg Vy (Yg Vy (Yg Vy (Yg Vy (Yg Vy (Yg Vy (Yg Vy (Yg Vy allx0)))))))))))) rfl [4, 7, 10, 13, 15, 16] ((setL low0 [(q0, ⟨3, 1, [.int .i64 pc10], w0⟩)]), [⟨34, 5, [.agg [.int .i64 p0.Time, .vs 1 (Wa (Wb .i64) p0.States), .vs 1 (Wa (Wb .i64) p0.Since), .vs 1 (Wa Wc p0.Pulled), .vs 1 (Wa Wc p0.Held)]], 0⟩, ⟨34, 5, [.agg [.int .i64 0, .nils, .nils, .nils, .nils]], 0⟩, ⟨3, 1, Wa (Wb .i64) x1, 1⟩, ⟨3, 1, Wa (Wb .i64) x3, 1⟩, ⟨4, 1, Wa Wc x5, 1⟩, ⟨4, 1, Wa Wc x7, 1⟩, ⟨34, 5, [.agg [.int .i64 p0.Time, .sl (n + 2) 1 0 (x1).length, .sl (n + 3) 1 0 (x3).length, .sl (n + 4) 1 0 (x5).length, .sl (n + 5) 1 0 (x7).length]], 1⟩]) rfl rfl ?_
  refine Xn _ rfl rfl (Xg (VRd.ntl (Vc rfl tf_34_0 ts_3 (by decide))) (Xg (VRd.ntl (Vc rfl tf_34_0 ts_3 (by decide))) (Xg (VRd.ntl (Vc rfl tf_34_0 ts_3 (by decide))) (Xg (VRd.ntl (Vc rfl tf_34_0 ts_3 (by decide))) (Xg (VRd.ntl (Vc rfl tf_34_0 ts_3 (by decide))) (Xg (VRd.ntl (Vc rfl tf_34_0 ts_3 (by decide))) (Xg (VRd.ntl (Vc rfl tf_34_0 ts_3 (by decide))) (Xg (VRd.ntl (Vc rfl tf_34_0 ts_3 (by decide))) (Xg (VRd.ntl (Vc rfl tf_34_0 ts_3 (by decide))) (Xg (VRd.ntl (Vc rfl tf_34_0 ts_3 (by decide))) rx0)))))))))) ?_
  refine Xn _ rfl rfl (Xg (VRd.ntl (Ve rfl (Vg (Vn hn) rfl) rfl ta_3 rfl)) (Xg (VRd.ntl (Ve rfl (Vg (Vn hn) rfl) rfl ta_3 rfl)) (Xg (VRd.ntl (Ve rfl (Vg (Vn hn) rfl) rfl ta_3 rfl)) (Xg (VRd.ntl (Ve rfl (Vg (Vn hn) rfl) rfl ta_3 rfl)) (Xg (VRd.ntl (Ve rfl (Vg (Vn hn) rfl) rfl ta_3 rfl)) (Xg (VRd.ntl (Ve rfl (Vg (Vn hn) rfl) rfl ta_3 rfl)) (Xg (VRd.ntl (Ve rfl (Vg (Vn hn) rfl) rfl ta_3 rfl)) (Xg (VRd.ntl (Ve rfl (Vg (Vn hn) rfl) rfl ta_3 rfl)) (Xg (VRd.ntl (Ve rfl (Vg (Vn hn) rfl) rfl ta_3 rfl)) (Xg (VRd.ntl (Ve rfl (Vg (Vn hn) rfl) rfl ta_3 rfl)) rx0)))))))))) ?_
  refine Xn _ rfl rfl (Xg (VRd.ntl (Vc rfl tf_34_1 ts_22 (by decide))) (Xg (VRd.ntl (Vc rfl tf_34_1 ts_22 (by decide))) rx0)) ?_
  refine Xn _ rfl rfl (Xg (VRd.ntl (Ve rfl (Vg (Vn hn) rfl) rfl ta_22 rfl)) (Xg (VRd.ntl (Ve rfl (Vg (Vn hn) rfl) rfl ta_22 rfl)) rx0)) ?_
  refine Yo _ rfl rfl (Zs 1 rfl (Vr (f := 7) (k := 2) (m := 1) (os := [⟨3, 1, Wa (Wb .i64) x1, 0⟩]) (os' := [⟨3, 1, Wa (Wb .i64) x1, 1⟩]) (v := .sl (n + 7) 0 0 (x1).length) (Vn hn) rfl rfl ⟨⟨_, rfl, rfl⟩, trivial⟩ (Xf (r := .sl (n + 7) 0 0 (x1).length) (os := [⟨3, 1, Wa (Wb .i64) x1, 0⟩]) rfl Try.call54 (F_slices_Clone___int_int__ok h2 _ (Xc (Vn hn) rfl))) (Yi 0 rfl rfl rfl rfl) ⟨.same _ _ _ (Vk (fun _ => .int _ _)), trivial⟩ rfl) (Zs 4 rfl (Vr (f := 7) (k := 2) (m := 1) (os := [⟨3, 1, Wa (Wb .i64) x1, 0⟩]) (os' := [⟨3, 1, Wa (Wb .i64) x1, 1⟩]) (v := .sl (n + 7) 0 0 (x1).length) (Vn hn) rfl rfl ⟨⟨_, rfl, rfl⟩, trivial⟩ (Xf (r := .sl (n + 7) 0 0 (x1).length) (os := [⟨3, 1, Wa (Wb .i64) x1, 0⟩]) rfl Try.call54 (F_slices_Clone___int_int__ok h2 _ (Xc (Vn hn) rfl))) (Yi 0 rfl rfl rfl rfl) ⟨.same _ _ _ (Vk (fun _ => .int _ _)), trivial⟩ rfl) ex0)) ?_
  refine Xn _ rfl rfl (Xg (VRd.ntl (Vc rfl tf_34_2 ts_22 (by decide))) (Xg (VRd.ntl (Vc rfl tf_34_2 ts_22 (by decide))) (Xg (VRd.ntl (Vc rfl tf_34_2 ts_22 (by decide))) (Xg (VRd.ntl (Vc rfl tf_34_2 ts_22 (by decide))) rx0)))) ?_
  refine Xn _ rfl rfl (Xg (VRd.ntl (Ve rfl (Vg (Vn hn) rfl) rfl ta_22 rfl)) (Xg (VRd.ntl (Ve rfl (Vg (Vn hn) rfl) rfl ta_22 rfl)) (Xg (VRd.ntl (Ve rfl (Vg (Vn hn) rfl) rfl ta_22 rfl)) (Xg (VRd.ntl (Ve rfl (Vg (Vn hn) rfl) rfl ta_22 rfl)) rx0)))) ?_
  refine Yo _ rfl rfl (Zs 3 rfl (Vr (f := 7) (k := 3) (m := 1) (os := [⟨3, 1, Wa (Wb .i64) x3, 0⟩]) (os' := [⟨3, 1, Wa (Wb .i64) x3, 1⟩]) (v := .sl (n + 7) 0 0 (x3).length) (Vn hn) rfl rfl ⟨⟨_, rfl, rfl⟩, trivial⟩ (Xf (r := .sl (n + 7) 0 0 (x3).length) (os := [⟨3, 1, Wa (Wb .i64) x3, 0⟩]) rfl Try.call54 (F_slices_Clone___int_int__ok h4 _ (Xc (Vn hn) rfl))) (Yi 0 rfl rfl rfl rfl) ⟨.same _ _ _ (Vk (fun _ => .int _ _)), trivial⟩ rfl) (Zs 6 rfl (Vr (f := 7) (k := 3) (m := 1) (os := [⟨3, 1, Wa (Wb .i64) x3, 0⟩]) (os' := [⟨3, 1, Wa (Wb .i64) x3, 1⟩]) (v := .sl (n + 7) 0 0 (x3).length) (Vn hn) rfl rfl ⟨⟨_, rfl, rfl⟩, trivial⟩ (Xf (r := .sl (n + 7) 0 0 (x3).length) (os := [⟨3, 1, Wa (Wb .i64) x3, 0⟩]) rfl Try.call54 (F_slices_Clone___int_int__ok h4 _ (Xc (Vn hn) rfl))) (Yi 0 rfl rfl rfl rfl) ⟨.same _ _ _ (Vk (fun _ => .int _ _)), trivial⟩ rfl) ex0)) ?_
  refine Xn _ rfl rfl (Xg (VRd.ntl (Vc rfl tf_34_3 ts_32 (by decide))) (Xg (VRd.ntl (Vc rfl tf_34_3 ts_32 (by decide))) (Xg (VRd.ntl (Vc rfl tf_34_3 ts_32 (by decide))) (Xg (VRd.ntl (Vc rfl tf_34_3 ts_32 (by decide))) (Xg (VRd.ntl (Vc rfl tf_34_3 ts_32 (by decide))) (Xg (VRd.ntl (Vc rfl tf_34_3 ts_32 (by decide))) rx0)))))) ?_
  refine Xn _ rfl rfl (Xg (VRd.ntl (Ve rfl (Vg (Vn hn) rfl) rfl ta_32 rfl)) (Xg (VRd.ntl (Ve rfl (Vg (Vn hn) rfl) rfl ta_32 rfl)) (Xg (VRd.ntl (Ve rfl (Vg (Vn hn) rfl) rfl ta_32 rfl)) (Xg (VRd.ntl (Ve rfl (Vg (Vn hn) rfl) rfl ta_32 rfl)) (Xg (VRd.ntl (Ve rfl (Vg (Vn hn) rfl) rfl ta_32 rfl)) (Xg (VRd.ntl (Ve rfl (Vg (Vn hn) rfl) rfl ta_32 rfl)) rx0)))))) ?_
  refine Yo _ rfl rfl (Zs 5 rfl (Vr (f := 7) (k := 4) (m := 1) (os := [⟨4, 1, Wa Wc x5, 0⟩]) (os' := [⟨4, 1, Wa Wc x5, 1⟩]) (v := .sl (n + 7) 0 0 (x5).length) (Vn hn) rfl rfl ⟨⟨_, rfl, rfl⟩, trivial⟩ (Xf (r := .sl (n + 7) 0 0 (x5).length) (os := [⟨4, 1, Wa Wc x5, 0⟩]) rfl Try.call55 (F_slices_Clone___bool_bool__ok h6 _ (Xc (Vn hn) rfl))) (Yi 0 rfl rfl rfl rfl) ⟨.same _ _ _ (Vk (fun _ => .bool _)), trivial⟩ rfl) (Zs 8 rfl (Vr (f := 7) (k := 4) (m := 1) (os := [⟨4, 1, Wa Wc x5, 0⟩]) (os' := [⟨4, 1, Wa Wc x5, 1⟩]) (v := .sl (n + 7) 0 0 (x5).length) (Vn hn) rfl rfl ⟨⟨_, rfl, rfl⟩, trivial⟩ (Xf (r := .sl (n + 7) 0 0 (x5).length) (os := [⟨4, 1, Wa Wc x5, 0⟩]) rfl Try.call55 (F_slices_Clone___bool_bool__ok h6 _ (Xc (Vn hn) rfl))) (Yi 0 rfl rfl rfl rfl) ⟨.same _ _ _ (Vk (fun _ => .bool _)), trivial⟩ rfl) ex0)) ?_
  refine Xn _ rfl rfl (Xg (VRd.ntl (Vc rfl tf_34_4 ts_32 (by decide))) (Xg (VRd.ntl (Vc rfl tf_34_4 ts_32 (by decide))) (Xg (VRd.ntl (Vc rfl tf_34_4 ts_32 (by decide))) (Xg (VRd.ntl (Vc rfl tf_34_4 ts_32 (by decide))) (Xg (VRd.ntl (Vc rfl tf_34_4 ts_32 (by decide))) (Xg (VRd.ntl (Vc rfl tf_34_4 ts_32 (by decide))) (Xg (VRd.ntl (Vc rfl tf_34_4 ts_32 (by decide))) (Xg (VRd.ntl (Vc rfl tf_34_4 ts_32 (by decide))) rx0)))))))) ?_
  refine Xn _ rfl rfl (Xg (VRd.ntl (Ve rfl (Vg (Vn hn) rfl) rfl ta_32 rfl)) (Xg (VRd.ntl (Ve rfl (Vg (Vn hn) rfl) rfl ta_32 rfl)) (Xg (VRd.ntl (Ve rfl (Vg (Vn hn) rfl) rfl ta_32 rfl)) (Xg (VRd.ntl (Ve rfl (Vg (Vn hn) rfl) rfl ta_32 rfl)) (Xg (VRd.ntl (Ve rfl (Vg (Vn hn) rfl) rfl ta_32 rfl)) (Xg (VRd.ntl (Ve rfl (Vg (Vn hn) rfl) rfl ta_32 rfl)) (Xg (VRd.ntl (Ve rfl (Vg (Vn hn) rfl) rfl ta_32 rfl)) (Xg (VRd.ntl (Ve rfl (Vg (Vn hn) rfl) rfl ta_32 rfl)) rx0)))))))) ?_
  refine Yo _ rfl rfl (Zs 7 rfl (Vr (f := 7) (k := 5) (m := 1) (os := [⟨4, 1, Wa Wc x7, 0⟩]) (os' := [⟨4, 1, Wa Wc x7, 1⟩]) (v := .sl (n + 7) 0 0 (x7).length) (Vn hn) rfl rfl ⟨⟨_, rfl, rfl⟩, trivial⟩ (Xf (r := .sl (n + 7) 0 0 (x7).length) (os := [⟨4, 1, Wa Wc x7, 0⟩]) rfl Try.call55 (F_slices_Clone___bool_bool__ok h8 _ (Xc (Vn hn) rfl))) (Yi 0 rfl rfl rfl rfl) ⟨.same _ _ _ (Vk (fun _ => .bool _)), trivial⟩ rfl) (Zs 9 rfl (Vr (f := 7) (k := 5) (m := 1) (os := [⟨4, 1, Wa Wc x7, 0⟩]) (os' := [⟨4, 1, Wa Wc x7, 1⟩]) (v := .sl (n + 7) 0 0 (x7).length) (Vn hn) rfl rfl ⟨⟨_, rfl, rfl⟩, trivial⟩ (Xf (r := .sl (n + 7) 0 0 (x7).length) (os := [⟨4, 1, Wa Wc x7, 0⟩]) rfl Try.call55 (F_slices_Clone___bool_bool__ok h8 _ (Xc (Vn hn) rfl))) (Yi 0 rfl rfl rfl rfl) ⟨.same _ _ _ (Vk (fun _ => .bool _)), trivial⟩ rfl) ex0)) ?_
  refine Xn _ rfl rfl (Xg (VRd.ntl (Zt (vs := [(0, .int .i64 p0.Time), (1, .sl (n + 2) 1 0 (x1).length), (2, .sl (n + 3) 1 0 (x3).length), (3, .sl (n + 4) 1 0 (x5).length), (4, .sl (n + 5) 1 0 (x7).length)]) (ds := [.int .i64 p0.Time, .sl (n + 2) 1 0 (x1).length, .sl (n + 3) 1 0 (x3).length, .sl (n + 4) 1 0 (x5).length, .sl (n + 5) 1 0 (x7).length]) tz_34 rfl rfl tp_34 ⟨rfl, rfl, rfl, rfl, rfl, rfl, rfl, rfl, rfl, rfl, trivial⟩ (nt_all2 rfl) rfl)) (Xg (VRd.ntl (Zt (vs := [(0, .int .i64 p0.Time), (1, .sl (n + 2) 1 0 (x1).length), (2, .sl (n + 3) 1 0 (x3).length), (3, .sl (n + 4) 1 0 (x5).length), (4, .sl (n + 5) 1 0 (x7).length)]) (ds := [.int .i64 p0.Time, .sl (n + 2) 1 0 (x1).length, .sl (n + 3) 1 0 (x3).length, .sl (n + 4) 1 0 (x5).length, .sl (n + 5) 1 0 (x7).length]) tz_34 rfl rfl tp_34 ⟨rfl, rfl, rfl, rfl, rfl, rfl, rfl, rfl, rfl, rfl, trivial⟩ (nt_all2 rfl) rfl)) rx0)) ?_
  refine Yo _ rfl rfl (Zs 2 rfl (Vr (f := 7) (k := 6) (m := 1) (os := [⟨34, 5, [.agg [.int .i64 0, .nils, .nils, .nils, .nils]], 0⟩]) (os' := [⟨34, 5, [.agg [.int .i64 0, .nils, .nils, .nils, .nils]], 1⟩]) (v := .ptr (n + 7) 0 0 0) (Vn hn) rfl rfl ⟨⟨_, rfl, rfl⟩, trivial⟩ (Xi (Vn hn) rfl tz_34 rfl rfl (Wf _) rfl) (Zp 0 rfl rfl rfl rfl) ⟨.same _ _ _ (Xd ⟨(Xl ⟨.int _ _, .nils, .nils, .nils, .nils, trivial⟩), trivial⟩), trivial⟩ rfl) (Zs 4 rfl (Vr (f := 7) (k := 6) (m := 1) (os := [⟨34, 5, [.agg [.int .i64 0, .nils, .nils, .nils, .nils]], 0⟩]) (os' := [⟨34, 5, [.agg [.int .i64 0, .nils, .nils, .nils, .nils]], 1⟩]) (v := .ptr (n + 7) 0 0 0) (Vn hn) rfl rfl ⟨⟨_, rfl, rfl⟩, trivial⟩ (Xi (Vn hn) rfl tz_34 rfl rfl (Wf _) rfl) (Zp 0 rfl rfl rfl rfl) ⟨.same _ _ _ (Xd ⟨(Xl ⟨.int _ _, .nils, .nils, .nils, .nils, trivial⟩), trivial⟩), trivial⟩ rfl) (Zs 6 rfl (Vr (f := 7) (k := 6) (m := 1) (os := [⟨34, 5, [.agg [.int .i64 0, .nils, .nils, .nils, .nils]], 0⟩]) (os' := [⟨34, 5, [.agg [.int .i64 0, .nils, .nils, .nils, .nils]], 1⟩]) (v := .ptr (n + 7) 0 0 0) (Vn hn) rfl rfl ⟨⟨_, rfl, rfl⟩, trivial⟩ (Xi (Vn hn) rfl tz_34 rfl rfl (Wf _) rfl) (Zp 0 rfl rfl rfl rfl) ⟨.same _ _ _ (Xd ⟨(Xl ⟨.int _ _, .nils, .nils, .nils, .nils, trivial⟩), trivial⟩), trivial⟩ rfl) (Zs 8 rfl (Vr (f := 7) (k := 6) (m := 1) (os := [⟨34, 5, [.agg [.int .i64 0, .nils, .nils, .nils, .nils]], 0⟩]) (os' := [⟨34, 5, [.agg [.int .i64 0, .nils, .nils, .nils, .nils]], 1⟩]) (v := .ptr (n + 7) 0 0 0) (Vn hn) rfl rfl ⟨⟨_, rfl, rfl⟩, trivial⟩ (Xi (Vn hn) rfl tz_34 rfl rfl (Wf _) rfl) (Zp 0 rfl rfl rfl rfl) ⟨.same _ _ _ (Xd ⟨(Xl ⟨.int _ _, .nils, .nils, .nils, .nils, trivial⟩), trivial⟩), trivial⟩ rfl) (Zs 9 rfl (Vr (f := 7) (k := 6) (m := 1) (os := [⟨34, 5, [.agg [.int .i64 0, .nils, .nils, .nils, .nils]], 0⟩]) (os' := [⟨34, 5, [.agg [.int .i64 0, .nils, .nils, .nils, .nils]], 1⟩]) (v := .ptr (n + 7) 0 0 0) (Vn hn) rfl rfl ⟨⟨_, rfl, rfl⟩, trivial⟩ (Xi (Vn hn) rfl tz_34 rfl rfl (Wf _) rfl) (Zp 0 rfl rfl rfl rfl) ⟨.same _ _ _ (Xd ⟨(Xl ⟨.int _ _, .nils, .nils, .nils, .nils, trivial⟩), trivial⟩), trivial⟩ rfl) ex0))))) ?_
  refine Yo _ rfl rfl (Zs 10 rfl (Xo (p := .agg [.int .i64 p0.Time, .sl (n + 2) 1 0 (x1).length, .sl (n + 3) 1 0 (x3).length, .sl (n + 4) 1 0 (x5).length, .sl (n + 5) 1 0 (x7).length]) (e' := .agg [.int .i64 p0.Time, .sl (n + 2) 1 0 (x1).length, .sl (n + 3) 1 0 (x3).length, .sl (n + 4) 1 0 (x5).length, .sl (n + 5) 1 0 (x7).length]) rfl (Vg (Vn hn) rfl) rfl rfl ts_34 rfl (Yv rfl) rfl (We rfl) rfl (Ym (Vn hn) rfl)) ex0) ?_
  refine dopx_nil ?_
  refine Vi ?_
  refine Vf ?_
  obtain ⟨x9, h10, hF⟩ := Yt hF
  refine Va (rd_mvF rfl) rfl ?_
  refine Vj (Yu (ps := [((n + 6), ⟨34, 5, [.agg [.int .i64 x9.Time, .sl (n + 2) 1 0 (x1).length, .sl (n + 3) 1 0 (x3).length, .sl (n + 4) 1 0 (x5).length, .sl (n + 5) 1 0 (x7).length]], 1⟩), ((n + 2), ⟨3, 1, Wa (Wb .i64) x9.States, 1⟩), ((n + 3), ⟨3, 1, Wa (Wb .i64) x9.Since, 1⟩), ((n + 4), ⟨4, 1, Wa Wc x9.Pulled, 1⟩), ((n + 5), ⟨4, 1, Wa Wc x9.Held, 1⟩), (q0, ⟨3, 1, [.int .i64 pc10], w0⟩)]) (r := .tup []) (os := []) (low1 := (setL low0 [(q0, ⟨3, 1, [.int .i64 pc10], w0⟩)])) (loc1 := [⟨34, 5, [.agg [.int .i64 p0.Time, .vs 1 (Wa (Wb .i64) p0.States), .vs 1 (Wa (Wb .i64) p0.Since), .vs 1 (Wa Wc p0.Pulled), .vs 1 (Wa Wc p0.Held)]], 0⟩, ⟨34, 5, [.agg [.int .i64 0, .nils, .nils, .nils, .nils]], 0⟩, ⟨3, 1, Wa (Wb .i64) x9.States, 1⟩, ⟨3, 1, Wa (Wb .i64) x9.Since, 1⟩, ⟨4, 1, Wa Wc x9.Pulled, 1⟩, ⟨4, 1, Wa Wc x9.Held, 1⟩, ⟨34, 5, [.agg [.int .i64 x9.Time, .sl (n + 2) 1 0 (x1).length, .sl (n + 3) 1 0 (x3).length, .sl (n + 4) 1 0 (x5).length, .sl (n + 5) 1 0 (x7).length]], 1⟩]) (loc2 := [⟨34, 5, [.agg [.int .i64 p0.Time, .vs 1 (Wa (Wb .i64) p0.States), .vs 1 (Wa (Wb .i64) p0.Since), .vs 1 (Wa Wc p0.Pulled), .vs 1 (Wa Wc p0.Held)]], 0⟩, ⟨34, 5, [.agg [.int .i64 0, .nils, .nils, .nils, .nils]], 0⟩, ⟨3, 1, Wa (Wb .i64) x9.States, 1⟩, ⟨3, 1, Wa (Wb .i64) x9.Since, 1⟩, ⟨4, 1, Wa Wc x9.Pulled, 1⟩, ⟨4, 1, Wa Wc x9.Held, 1⟩, ⟨34, 5, [.agg [.int .i64 x9.Time, .sl (n + 2) 1 0 (x1).length, .sl (n + 3) 1 0 (x3).length, .sl (n + 4) 1 0 (x5).length, .sl (n + 5) 1 0 (x7).length]], 1⟩]) rfl Try.call32 (F_belts_Start_1_ok h10 (nd1 (Zb (Yc rfl) (Zb (Yc rfl) (Zb (Yc rfl) (Zb (Yc rfl) (Zb (Ya hq0) na0))))) (nd1 (Zb (Yc rfl) (Zb (Yc rfl) (Zb (Yc rfl) (Zb (Ya hq0) na0)))) (nd1 (Zb (Yc rfl) (Zb (Yc rfl) (Zb (Ya hq0) na0))) (nd1 (Zb (Yc rfl) (Zb (Ya hq0) na0)) (nd1 (Zb (Ya hq0) na0) (nd1 na0 nd0)))))) (rfl : (x1).length = _) (rfl : (x3).length = _) (rfl : (x5).length = _) (rfl : (x7).length = _) (Zd (Vn hn) rfl) (Zd (Vn hn) rfl) (Zd (Vn hn) rfl) (Zd (Vn hn) rfl) (Zd (Vn hn) rfl) (get_B hB rfl 0 rfl) (Xc (Vn hn) rfl)) (Xu (loc2 := [⟨34, 5, [.agg [.int .i64 p0.Time, .vs 1 (Wa (Wb .i64) p0.States), .vs 1 (Wa (Wb .i64) p0.Since), .vs 1 (Wa Wc p0.Pulled), .vs 1 (Wa Wc p0.Held)]], 0⟩, ⟨34, 5, [.agg [.int .i64 0, .nils, .nils, .nils, .nils]], 0⟩, ⟨3, 1, Wa (Wb .i64) x1, 1⟩, ⟨3, 1, Wa (Wb .i64) x3, 1⟩, ⟨4, 1, Wa Wc x5, 1⟩, ⟨4, 1, Wa Wc x7, 1⟩, ⟨34, 5, [.agg [.int .i64 x9.Time, .sl (n + 2) 1 0 (x1).length, .sl (n + 3) 1 0 (x3).length, .sl (n + 4) 1 0 (x5).length, .sl (n + 5) 1 0 (x7).length]], 1⟩]) (Vn hn) 6 rfl (Xu (loc2 := [⟨34, 5, [.agg [.int .i64 p0.Time, .vs 1 (Wa (Wb .i64) p0.States), .vs 1 (Wa (Wb .i64) p0.Since), .vs 1 (Wa Wc p0.Pulled), .vs 1 (Wa Wc p0.Held)]], 0⟩, ⟨34, 5, [.agg [.int .i64 0, .nils, .nils, .nils, .nils]], 0⟩, ⟨3, 1, Wa (Wb .i64) x9.States, 1⟩, ⟨3, 1, Wa (Wb .i64) x3, 1⟩, ⟨4, 1, Wa Wc x5, 1⟩, ⟨4, 1, Wa Wc x7, 1⟩, ⟨34, 5, [.agg [.int .i64 x9.Time, .sl (n + 2) 1 0 (x1).length, .sl (n + 3) 1 0 (x3).length, .sl (n + 4) 1 0 (x5).length, .sl (n + 5) 1 0 (x7).length]], 1⟩]) (Vn hn) 2 rfl (Xu (loc2 := [⟨34, 5, [.agg [.int .i64 p0.Time, .vs 1 (Wa (Wb .i64) p0.States), .vs 1 (Wa (Wb .i64) p0.Since), .vs 1 (Wa Wc p0.Pulled), .vs 1 (Wa Wc p0.Held)]], 0⟩, ⟨34, 5, [.agg [.int .i64 0, .nils, .nils, .nils, .nils]], 0⟩, ⟨3, 1, Wa (Wb .i64) x9.States, 1⟩, ⟨3, 1, Wa (Wb .i64) x9.Since, 1⟩, ⟨4, 1, Wa Wc x5, 1⟩, ⟨4, 1, Wa Wc x7, 1⟩, ⟨34, 5, [.agg [.int .i64 x9.Time, .sl (n + 2) 1 0 (x1).length, .sl (n + 3) 1 0 (x3).length, .sl (n + 4) 1 0 (x5).length, .sl (n + 5) 1 0 (x7).length]], 1⟩]) (Vn hn) 3 rfl (Xu (loc2 := [⟨34, 5, [.agg [.int .i64 p0.Time, .vs 1 (Wa (Wb .i64) p0.States), .vs 1 (Wa (Wb .i64) p0.Since), .vs 1 (Wa Wc p0.Pulled), .vs 1 (Wa Wc p0.Held)]], 0⟩, ⟨34, 5, [.agg [.int .i64 0, .nils, .nils, .nils, .nils]], 0⟩, ⟨3, 1, Wa (Wb .i64) x9.States, 1⟩, ⟨3, 1, Wa (Wb .i64) x9.Since, 1⟩, ⟨4, 1, Wa Wc x9.Pulled, 1⟩, ⟨4, 1, Wa Wc x7, 1⟩, ⟨34, 5, [.agg [.int .i64 x9.Time, .sl (n + 2) 1 0 (x1).length, .sl (n + 3) 1 0 (x3).length, .sl (n + 4) 1 0 (x5).length, .sl (n + 5) 1 0 (x7).length]], 1⟩]) (Vn hn) 4 rfl (Xu (loc2 := [⟨34, 5, [.agg [.int .i64 p0.Time, .vs 1 (Wa (Wb .i64) p0.States), .vs 1 (Wa (Wb .i64) p0.Since), .vs 1 (Wa Wc p0.Pulled), .vs 1 (Wa Wc p0.Held)]], 0⟩, ⟨34, 5, [.agg [.int .i64 0, .nils, .nils, .nils, .nils]], 0⟩, ⟨3, 1, Wa (Wb .i64) x9.States, 1⟩, ⟨3, 1, Wa (Wb .i64) x9.Since, 1⟩, ⟨4, 1, Wa Wc x9.Pulled, 1⟩, ⟨4, 1, Wa Wc x9.Held, 1⟩, ⟨34, 5, [.agg [.int .i64 x9.Time, .sl (n + 2) 1 0 (x1).length, .sl (n + 3) 1 0 (x3).length, .sl (n + 4) 1 0 (x5).length, .sl (n + 5) 1 0 (x7).length]], 1⟩]) (Vn hn) 5 rfl (Zq (ps0' := [(q0, ⟨3, 1, [.int .i64 pc10], w0⟩)]) hB rfl 0 rfl (ltObjN hn ⟨.int _ _, trivial⟩) rfl Za)))))) rfl) rfl ?_
  refine Vh ?_
  refine Vi ?_
  refine Vf ?_
  refine Va (Xk (ds := [.int .i64 x9.Time, .sl (n + 2) 1 0 (x1).length, .sl (n + 3) 1 0 (x3).length, .sl (n + 4) 1 0 (x5).length, .sl (n + 5) 1 0 (x7).length]) rfl (Vg (Vn hn) rfl) rfl ta_34 ts_34 rfl rfl rfl) rfl ?_
  refine Vj (Xo (p := .agg [.int .i64 x9.Time, .sl (n + 2) 1 0 (x1).length, .sl (n + 3) 1 0 (x3).length, .sl (n + 4) 1 0 (x5).length, .sl (n + 5) 1 0 (x7).length]) (e' := .agg [.int .i64 x9.Time, .sl (n + 2) 1 0 (x1).length, .sl (n + 3) 1 0 (x3).length, .sl (n + 4) 1 0 (x5).length, .sl (n + 5) 1 0 (x7).length]) rfl (Vg (Vn hn) rfl) rfl rfl ts_34 rfl (Yv rfl) rfl (We rfl) rfl (Ym (Vn hn) rfl)) rfl ?_
  refine Vh ?_
  refine Xj ?_
  obtain rfl := Wd hF
  refine fnR ?_
  refine Weak.trans (Vt (E' := [(4, .ptr (n + 1) 0 0 0)]) (loc1 := [⟨34, 5, [.agg [.int .i64 p0.Time, .vs 1 (Wa (Wb .i64) p0.States), .vs 1 (Wa (Wb .i64) p0.Since), .vs 1 (Wa Wc p0.Pulled), .vs 1 (Wa Wc p0.Held)]], 0⟩, ⟨34, 5, [.agg [.int .i64 x9.Time, .sl (n + 2) 1 0 (x1).length, .sl (n + 3) 1 0 (x3).length, .sl (n + 4) 1 0 (x5).length, .vs 1 (Wa Wc x9.Held)]], 0⟩, ⟨3, 1, Wa (Wb .i64) x9.States, 1⟩, ⟨3, 1, Wa (Wb .i64) x9.Since, 1⟩, ⟨4, 1, Wa Wc x9.Pulled, 1⟩, ⟨4, 1, [], 1 + 1⟩, ⟨34, 5, [.agg [.int .i64 x9.Time, .sl (n + 2) 1 0 (x1).length, .sl (n + 3) 1 0 (x3).length, .sl (n + 4) 1 0 (x5).length, .vs 1 (Wa Wc x9.Held)]], 1⟩]) (Vn hn) 5 rfl (Yf (fun _ => .bool _)) ⟨Vd rfl, trivial⟩ ⟨.refl _, Xs ⟨Vd rfl, Vd rfl, Vd rfl, Vd rfl, Yq rfl rfl rfl (Xb (F_belts_Start_1_len h10 (rfl : (x1).length = _) (rfl : (x3).length = _) (rfl : (x5).length = _) (rfl : (x7).length = _)).2.2.2.1), trivial⟩, .refl _, .refl _, .refl _, .refl _, Xs ⟨Vd rfl, Vd rfl, Vd rfl, Vd rfl, Yq rfl rfl rfl (Xb (F_belts_Start_1_len h10 (rfl : (x1).length = _) (rfl : (x3).length = _) (rfl : (x5).length = _) (rfl : (x7).length = _)).2.2.2.1), trivial⟩, trivial⟩) ?_
  exact Vw (Vn hn) [(2, 1), (3, 1), (4, 1), (1, 0)] (by decide) ⟨Yl 3 1 rfl rfl, trivial⟩ ⟨⟨_, rfl, rfl, .same _ _ _ _ (Vk (fun _ => .int _ _))⟩, ⟨_, rfl, rfl, .same _ _ _ _ (Vk (fun _ => .int _ _))⟩, ⟨_, rfl, rfl, .same _ _ _ _ (Vk (fun _ => .bool _))⟩, ⟨_, rfl, rfl, .agg _ _ _ _ _ ⟨Vs rfl (.int _ _), Zr 0 2 rfl (congrArg (PV.sl _ _ 0) (F_belts_Start_1_len h10 (rfl : (x1).length = _) (rfl : (x3).length = _) (rfl : (x5).length = _) (rfl : (x7).length = _)).1), Zr 1 3 rfl (congrArg (PV.sl _ _ 0) (F_belts_Start_1_len h10 (rfl : (x1).length = _) (rfl : (x3).length = _) (rfl : (x5).length = _) (rfl : (x7).length = _)).2.1), Zr 2 4 rfl (congrArg (PV.sl _ _ 0) (F_belts_Start_1_len h10 (rfl : (x1).length = _) (rfl : (x3).length = _) (rfl : (x5).length = _) (rfl : (x7).length = _)).2.2.1), Vs rfl (.vs _ _), trivial⟩⟩, trivial⟩
 ·rintro _ _ _ _ ⟨he, hw⟩
  refine ⟨_, _, _, hw, ?_⟩
  exact Zz (Vn hn) 3 rfl (We rfl) he [.agg [.int .i64 r.Time, .sl (n + 0) 0 0 (r.States).length, .sl (n + 1) 0 0 (r.Since).length, .sl (n + 2) 0 0 (r.Pulled).length, .vs 1 (Wa Wc r.Held)]] ⟨Xk rfl (Vg (Vn hn) rfl) rfl ta_34 ts_34 rfl rfl rfl, trivial⟩ ((Xl ⟨.int _ _, .sl _ _ _ _ (lt_kk rfl), .sl _ _ _ _ (lt_kk rfl), .sl _ _ _ _ (lt_kk rfl), .vs _ _, trivial⟩)) ⟨Vk (fun _ => .int _ _), Vk (fun _ => .int _ _), Vk (fun _ => .bool _), trivial⟩ ⟨rfl, rfl⟩

theorem F_belts_done__belts_Start_1_ok {p0 : T_Line} {pc10 : Int} {r : T_Line} (hF : F_belts_done__belts_Start_1 p0 pc10 = some r) {low : List AObj} {q0 w0 : Nat} (hnd : [q0].Nodup) (hq0 : low[q0]? = some ⟨3, 1, [.int .i64 pc10], w0⟩) {n : Nat} (hn : low.length = n) :
    Yk Try.prog 31 [.agg [.int .i64 p0.Time, .vs 1 (Wa (Wb .i64) p0.States), .vs 1 (Wa (Wb .i64) p0.Since), .vs 1 (Wa Wc p0.Pulled), .vs 1 (Wa Wc p0.Held)], .fn 32 [] [.ptr q0 w0 0 0]] low fun x low' => x = .agg [.int .i64 r.Time, .sl (n + 0) 0 0 (r.States).length, .sl (n + 1) 0 0 (r.Since).length, .sl (n + 2) 0 0 (r.Pulled).length, .vs 1 (Wa Wc r.Held)] ∧ low' = setL low [(q0, ⟨3, 1, [.int .i64 pc10], w0⟩)] ++ [⟨3, 1, Wa (Wb .i64) r.States, 0⟩, ⟨3, 1, Wa (Wb .i64) r.Since, 0⟩, ⟨4, 1, Wa Wc r.Pulled, 0⟩] := by
  obtain ⟨h1, h2⟩ := Zn (ps := [(q0, ⟨3, 1, [.int .i64 pc10], w0⟩)]) hnd (Zl hq0 bor0)
  exact Zf h1 (F_belts_done__belts_Start_1_ok0 hF h2 hn)

theorem F_belts_Start_ok {p0 : List T_Belt} {p1 : T_Line} {p2 : Int} {r : T_Line × Int} (hF : F_belts_Start p0 p1 p2 = some r) (low : List AObj) {n : Nat} (hn : low.length = n) :
    Yk Try.prog 13 [.vs 2 (Wa T_Belt.enc p0), .agg [.int .i64 p1.Time, .vs 1 (Wa (Wb .i64) p1.States), .vs 1 (Wa (Wb .i64) p1.Since), .vs 1 (Wa Wc p1.Pulled), .vs 1 (Wa Wc p1.Held)], .int .i64 p2] low fun x low' => x = .tup [.agg [.int .i64 r.1.Time, .vs 1 (Wa (Wb .i64) r.1.States), .vs 1 (Wa (Wb .i64) r.1.Since), .vs 1 (Wa Wc r.1.Pulled), .vs 1 (Wa Wc r.1.Held)], .int .i64 r.2] ∧ low' = low ++ [] := by
 refine Vz (nt := 60) (rs := [.cell 6 34, .tmp 7]) Try.func13 rfl rfl (We rfl) rfl ?_
 refine Vx (Q' := FnE (fun E' lw lc => Xv E' lw lc [(6, .ptr (n + 0) 0 0 0), (7, .int .i64 r.2)] low [⟨34, 5, [.agg [.int .i64 r.1.Time, .vs 1 (Wa (Wb .i64) r.1.States), .vs 1 (Wa (Wb .i64) r.1.Since), .vs 1 (Wa Wc r.1.Pulled), .vs 1 (Wa Wc r.1.Held)]], 0⟩])) ?_ ?_
 ·unfold F_belts_Start at hF
  refine Vi ?_
  refine Vf ?_
  refine Vj (Yx hn rfl (v := .agg [.int .i64 p1.Time, .vs 1 (Wa (Wb .i64) p1.States), .vs 1 (Wa (Wb .i64) p1.Since), .vs 1 (Wa Wc p1.Pulled), .vs 1 (Wa Wc p1.Held)]) rfl rfl (Wf _) rfl rfl) rfl ?_
  refine Vj (Yx hn rfl (v := .int .i64 p2) rfl rfl (Wf _) rfl rfl) rfl ?_
  refine Vj (Xi hn rfl tz_34 rfl rfl (Wf _) rfl) rfl ?_
  refine Va (Xr rfl) rfl ?_
  refine Vh ?_
  refine Vi ?_
  refine Vi ?_
  refine Vf ?_
  obtain ⟨x1, h2, hF⟩ := Yt hF
  refine Va (Xw rfl) rfl ?_
  refine Va (Xk (ds := [.int .i64 p1.Time, .vs 1 (Wa (Wb .i64) p1.States), .vs 1 (Wa (Wb .i64) p1.Since), .vs 1 (Wa Wc p1.Pulled), .vs 1 (Wa Wc p1.Held)]) rfl (Vg hn rfl) rfl ta_34 ts_34 rfl rfl rfl) rfl ?_
  refine Va (Ve rfl (Vg hn rfl) rfl ta_3 rfl) rfl ?_
  refine Vj (Xt rfl Try.call30 (F_belts_checked_ok h2 _)) rfl ?_
  refine Va (Xr rfl) rfl ?_
  refine Vh ?_
  refine Vi ?_
  refine Vf ?_
  refine Va (Vm rfl) rfl ?_
  refine Va (Zg rfl rfl) rfl ?_
  refine Vh ?_
  refine Xq rfl (fun c3 => ?_) (fun c3 => ?_)
  ·have hF := Yr c3 hF
   refine Vi ?_
   refine Vf ?_
   refine Va (Xk (ds := [.int .i64 p1.Time, .vs 1 (Wa (Wb .i64) p1.States), .vs 1 (Wa (Wb .i64) p1.Since), .vs 1 (Wa Wc p1.Pulled), .vs 1 (Wa Wc p1.Held)]) rfl (Vg hn rfl) rfl ta_34 ts_34 rfl rfl rfl) rfl ?_
   refine Va (Vm rfl) rfl ?_
   refine Vj (Xo (p := .agg [.int .i64 p1.Time, .vs 1 (Wa (Wb .i64) p1.States), .vs 1 (Wa (Wb .i64) p1.Since), .vs 1 (Wa Wc p1.Pulled), .vs 1 (Wa Wc p1.Held)]) (e' := .agg [.int .i64 p1.Time, .vs 1 (Wa (Wb .i64) p1.States), .vs 1 (Wa (Wb .i64) p1.Since), .vs 1 (Wa Wc p1.Pulled), .vs 1 (Wa Wc p1.Held)]) rfl (Vg hn rfl) rfl rfl ts_34 rfl (Yv rfl) rfl (We rfl) rfl (Ym hn rfl)) rfl ?_
   refine Va (Xr rfl) rfl ?_
   refine Vh ?_
   refine Xj ?_
   obtain rfl := Wd hF
   refine fnR ?_
   exact Vw hn [(2, 0)] (by decide) ⟨Yl 0 2 rfl rfl, Vs rfl (.int _ _), trivial⟩ ⟨⟨_, rfl, rfl, .same _ _ _ _ (Xd ⟨Xl ⟨.int _ _, .vs _ _, .vs _ _, .vs _ _, .vs _ _, trivial⟩, trivial⟩)⟩, trivial⟩
  ·have hF := Ys c3 hF
   refine Xy ?_
   refine Vi ?_
   refine Vf ?_
   obtain ⟨x4, h5, hF⟩ := Yt hF
   refine Va (Xw rfl) rfl ?_
   refine Va (Ve rfl (Vg hn rfl) rfl ta_3 rfl) rfl ?_
   refine Va (Xp (Yn rfl rfl h5 te_27 ts_31) (v' := .vptr [.int .i64 x4.Onto, .int .i64 x4.Warn] 0) rfl) rfl ?_
   refine Va (Zv rfl tf_31_0 ts_3 (by decide)) rfl ?_
   refine Va (Xm rfl ta_3 rfl) rfl ?_
   refine Va (Xr rfl) rfl ?_
   refine Vh ?_
   refine Vi ?_
   refine Yp ?_
   refine Vi ?_
   refine Vf ?_
   obtain ⟨x6, h7, hF⟩ := Yt hF
   refine Va (Vc rfl tf_34_1 ts_22 (by decide)) rfl ?_
   refine Va (Ve rfl (Vg hn rfl) rfl ta_22 rfl) rfl ?_
   refine Va (Ve rfl (Vg hn rfl) rfl ta_3 rfl) rfl ?_
   refine Va (Xp (Yn rfl rfl h7 te_22 ts_3) (v' := .vptr [.int .i64 x6] 0) rfl) rfl ?_
   refine Va (Xm rfl ta_3 rfl) rfl ?_
   refine Va (Zg rfl rfl) rfl ?_
   refine Va (Yd rfl) rfl ?_
   refine Vh ?_
   refine Xq rfl (fun c8 => ?_) (fun c8 => ?_)
   ·have hF := Yr c8 hF
    refine Vi ?_
    refine Vf ?_
    refine Va (Xk (ds := [.int .i64 p1.Time, .vs 1 (Wa (Wb .i64) p1.States), .vs 1 (Wa (Wb .i64) p1.Since), .vs 1 (Wa Wc p1.Pulled), .vs 1 (Wa Wc p1.Held)]) rfl (Vg hn rfl) rfl ta_34 ts_34 rfl rfl rfl) rfl ?_
    refine Vj (Xo (p := .agg [.int .i64 p1.Time, .vs 1 (Wa (Wb .i64) p1.States), .vs 1 (Wa (Wb .i64) p1.Since), .vs 1 (Wa Wc p1.Pulled), .vs 1 (Wa Wc p1.Held)]) (e' := .agg [.int .i64 p1.Time, .vs 1 (Wa (Wb .i64) p1.States), .vs 1 (Wa (Wb .i64) p1.Since), .vs 1 (Wa Wc p1.Pulled), .vs 1 (Wa Wc p1.Held)]) rfl (Vg hn rfl) rfl rfl ts_34 rfl (Yv rfl) rfl (We rfl) rfl (Ym hn rfl)) rfl ?_
    refine Va (Xr rfl) rfl ?_
    refine Vh ?_
    refine Xj ?_
    obtain rfl := Wd hF
    refine fnR ?_
    exact Vw hn [(2, 0)] (by decide) ⟨Yl 0 2 rfl rfl, Vs rfl (.int _ _), trivial⟩ ⟨⟨_, rfl, rfl, .same _ _ _ _ (Xd ⟨Xl ⟨.int _ _, .vs _ _, .vs _ _, .vs _ _, .vs _ _, trivial⟩, trivial⟩)⟩, trivial⟩
   ·have hF := Ys c8 hF
    refine Vi ?_
    obtain ⟨o9, ho9, hF⟩ := Yt hF
    refine Vx (Q' := (fun o9 => OnlyE .normal (fun E' lw lc => Xv E' lw lc [(4, .ptr (n + 0) 0 0 0), (5, .ptr (n + 1) 0 0 0), (6, .ptr (n + 2) 0 0 0), (9, .int .i64 x4.Onto), (31, .bool o9)] low [⟨34, 5, [.agg [.int .i64 p1.Time, .vs 1 (Wa (Wb .i64) p1.States), .vs 1 (Wa (Wb .i64) p1.Since), .vs 1 (Wa Wc p1.Pulled), .vs 1 (Wa Wc p1.Held)]], 0⟩, ⟨3, 1, [.int .i64 p2], 0⟩, ⟨34, 5, [.agg [.int .i64 0, .nils, .nils, .nils, .nils]], 0⟩])) o9) ?_ ?_
    ·replace hF := ho9
     refine Vf ?_
     obtain ⟨x10, h11, hF⟩ := Yt hF
     rcases Wg x10 with c12 | c12
     ·have hF := Yr c12 hF
      refine Va (Vc rfl tf_34_3 ts_32 (by decide)) rfl ?_
      refine Va (Ve rfl (Vg hn rfl) rfl ta_32 rfl) rfl ?_
      refine Va (Ve rfl (Vg hn rfl) rfl ta_3 rfl) rfl ?_
      refine Va (Xp (Yn rfl rfl h11 te_32 ts_4) (v' := .vptr [.bool x10] 0) rfl) rfl ?_
      refine Va (Xm rfl ta_4 rfl) rfl ?_
      refine Va (Vl rfl) rfl ?_
      refine Vb rfl rfl (Zx c12) rfl ?_
      refine Vb rfl rfl (Zx c12) rfl ?_
      refine Vb rfl rfl (Zx c12) rfl ?_
      refine Vb rfl rfl (Zx c12) rfl ?_
      refine Vb rfl rfl (Zx c12) rfl ?_
      refine Va (Vo (congrArg Wc c12) rfl) rfl ?_
      refine Va (Yd rfl) rfl ?_
      refine Vh ?_
      obtain rfl := Wd hF
      refine Ye ?_
      exact Vq ⟨rfl, rfl, rfl, rfl, rfl, trivial⟩
     ·have hF := Ys c12 hF
      obtain ⟨x13, h14, hF⟩ := Yt hF
      refine Va (Vc rfl tf_34_3 ts_32 (by decide)) rfl ?_
      refine Va (Ve rfl (Vg hn rfl) rfl ta_32 rfl) rfl ?_
      refine Va (Ve rfl (Vg hn rfl) rfl ta_3 rfl) rfl ?_
      refine Va (Xp (Yn rfl rfl h11 te_32 ts_4) (v' := .vptr [.bool x10] 0) rfl) rfl ?_
      refine Va (Xm rfl ta_4 rfl) rfl ?_
      refine Va (Vl rfl) rfl ?_
      refine Xh rfl rfl c12 ?_
      refine Va (Vc rfl tf_34_4 ts_32 (by decide)) rfl ?_
      refine Xh rfl rfl c12 ?_
      refine Va (Ve rfl (Vg hn rfl) rfl ta_32 rfl) rfl ?_
      refine Xh rfl rfl c12 ?_
      refine Va (Ve rfl (Vg hn rfl) rfl ta_3 rfl) rfl ?_
      refine Xh rfl rfl c12 ?_
      refine Va (Xp (Yn rfl rfl h14 te_32 ts_4) (v' := .vptr [.bool x13] 0) rfl) rfl ?_
      refine Xh rfl rfl c12 ?_
      refine Va (Xm rfl ta_4 rfl) rfl ?_
      refine Va (Vp (congrArg Wc c12) rfl) rfl ?_
      refine Va (Yd rfl) rfl ?_
      refine Vh ?_
      obtain rfl := Wd hF
      refine Ye ?_
      exact Vq ⟨rfl, rfl, rfl, rfl, rfl, trivial⟩
    ·rintro _ _ _ _ ⟨rfl, hw⟩
     refine ⟨_, _, _, hw, ?_⟩
     refine Xq rfl (fun c15 => ?_) (fun c15 => ?_)
     ·have hF := Yr c15 hF
      refine Vi ?_
      refine Vf ?_
      refine Va (Xk (ds := [.int .i64 p1.Time, .vs 1 (Wa (Wb .i64) p1.States), .vs 1 (Wa (Wb .i64) p1.Since), .vs 1 (Wa Wc p1.Pulled), .vs 1 (Wa Wc p1.Held)]) rfl (Vg hn rfl) rfl ta_34 ts_34 rfl rfl rfl) rfl ?_
      refine Vj (Xo (p := .agg [.int .i64 p1.Time, .vs 1 (Wa (Wb .i64) p1.States), .vs 1 (Wa (Wb .i64) p1.Since), .vs 1 (Wa Wc p1.Pulled), .vs 1 (Wa Wc p1.Held)]) (e' := .agg [.int .i64 p1.Time, .vs 1 (Wa (Wb .i64) p1.States), .vs 1 (Wa (Wb .i64) p1.Since), .vs 1 (Wa Wc p1.Pulled), .vs 1 (Wa Wc p1.Held)]) rfl (Vg hn rfl) rfl rfl ts_34 rfl (Yv rfl) rfl (We rfl) rfl (Ym hn rfl)) rfl ?_
      refine Va (Xr rfl) rfl ?_
      refine Vh ?_
      refine Xj ?_
      obtain rfl := Wd hF
      refine fnR ?_
      exact Vw hn [(2, 0)] (by decide) ⟨Yl 0 2 rfl rfl, Vs rfl (.int _ _), trivial⟩ ⟨⟨_, rfl, rfl, .same _ _ _ _ (Xd ⟨Xl ⟨.int _ _, .vs _ _, .vs _ _, .vs _ _, .vs _ _, trivial⟩, trivial⟩)⟩, trivial⟩
     ·have hF := Ys c15 hF
      refine Vi ?_
      obtain ⟨o16, ho16, hF⟩ := Yt hF
      refine Vx (Q' := (fun o16 => OnlyE .normal (fun E' lw lc => Xv E' lw lc [(4, .ptr (n + 0) 0 0 0), (5, .ptr (n + 1) 0 0 0), (6, .ptr (n + 2) 0 0 0), (45, .bool o16)] low [⟨34, 5, [.agg [.int .i64 p1.Time, .vs 1 (Wa (Wb .i64) p1.States), .vs 1 (Wa (Wb .i64) p1.Since), .vs 1 (Wa Wc p1.Pulled), .vs 1 (Wa Wc p1.Held)]], 0⟩, ⟨3, 1, [.int .i64 p2], 0⟩, ⟨34, 5, [.agg [.int .i64 0, .nils, .nils, .nils, .nils]], 0⟩])) o16) ?_ ?_
      ·replace hF := ho16
       refine Vf ?_
       rcases Wg (decide (0 ≤ x4.Onto)) with c17 | c17
       ·have hF := Yr c17 hF
        obtain ⟨x18, h19, hF⟩ := Yt hF
        refine Va (Vm rfl) rfl ?_
        refine Va (rd_geq rfl rfl) rfl ?_
        refine Va (Vl rfl) rfl ?_
        refine Xh rfl rfl c17 ?_
        refine Va (Vc rfl tf_34_1 ts_22 (by decide)) rfl ?_
        refine Xh rfl rfl c17 ?_
        refine Va (Ve rfl (Vg hn rfl) rfl ta_22 rfl) rfl ?_
        refine Xh rfl rfl c17 ?_
        refine Va (Vm rfl) rfl ?_
        refine Xh rfl rfl c17 ?_
        refine Va (Xp (Yn rfl rfl h19 te_22 ts_3) (v' := .vptr [.int .i64 x18] 0) rfl) rfl ?_
        refine Xh rfl rfl c17 ?_
        refine Va (Xm rfl ta_3 rfl) rfl ?_
        refine Xh rfl rfl c17 ?_
        refine Va (Zg rfl rfl) rfl ?_
        refine Va (Vo (congrArg Wc c17) rfl) rfl ?_
        refine Va (Yd rfl) rfl ?_
        refine Vh ?_
        obtain rfl := Wd hF
        refine Ye ?_
        exact Vq ⟨rfl, rfl, rfl, rfl, trivial⟩
       ·have hF := Ys c17 hF
        refine Va (Vm rfl) rfl ?_
        refine Va (rd_geq rfl rfl) rfl ?_
        refine Va (Vl rfl) rfl ?_
        refine Vb rfl rfl (neF c17) rfl ?_
        refine Vb rfl rfl (neF c17) rfl ?_
        refine Vb rfl rfl (neF c17) rfl ?_
        refine Vb rfl rfl (neF c17) rfl ?_
        refine Vb rfl rfl (neF c17) rfl ?_
        refine Vb rfl rfl (neF c17) rfl ?_
        refine Va (Vp (congrArg Wc c17) rfl) rfl ?_
        refine Va (Yd rfl) rfl ?_
        refine Vh ?_
        obtain rfl := Wd hF
        refine Ye ?_
        exact Vq ⟨rfl, rfl, rfl, rfl, trivial⟩
      ·rintro _ _ _ _ ⟨rfl, hw⟩
       refine ⟨_, _, _, hw, ?_⟩
       refine Xq rfl (fun c20 => ?_) (fun c20 => ?_)
       ·have hF := Yr c20 hF
        refine Vi ?_
        refine Vf ?_
        refine Va (Xk (ds := [.int .i64 p1.Time, .vs 1 (Wa (Wb .i64) p1.States), .vs 1 (Wa (Wb .i64) p1.Since), .vs 1 (Wa Wc p1.Pulled), .vs 1 (Wa Wc p1.Held)]) rfl (Vg hn rfl) rfl ta_34 ts_34 rfl rfl rfl) rfl ?_
        refine Vj (Xo (p := .agg [.int .i64 p1.Time, .vs 1 (Wa (Wb .i64) p1.States), .vs 1 (Wa (Wb .i64) p1.Since), .vs 1 (Wa Wc p1.Pulled), .vs 1 (Wa Wc p1.Held)]) (e' := .agg [.int .i64 p1.Time, .vs 1 (Wa (Wb .i64) p1.States), .vs 1 (Wa (Wb .i64) p1.Since), .vs 1 (Wa Wc p1.Pulled), .vs 1 (Wa Wc p1.Held)]) rfl (Vg hn rfl) rfl rfl ts_34 rfl (Yv rfl) rfl (We rfl) rfl (Ym hn rfl)) rfl ?_
        refine Va (Xr rfl) rfl ?_
        refine Vh ?_
        refine Xj ?_
        obtain rfl := Wd hF
        refine fnR ?_
        exact Vw hn [(2, 0)] (by decide) ⟨Yl 0 2 rfl rfl, Vs rfl (.int _ _), trivial⟩ ⟨⟨_, rfl, rfl, .same _ _ _ _ (Xd ⟨Xl ⟨.int _ _, .vs _ _, .vs _ _, .vs _ _, .vs _ _, trivial⟩, trivial⟩)⟩, trivial⟩
       ·have hF := Ys c20 hF
        refine Xy ?_
        refine Vi ?_
        refine Vf ?_
        obtain ⟨x21, h22, hF⟩ := Yt hF
        refine Va (Xk (ds := [.int .i64 p1.Time, .vs 1 (Wa (Wb .i64) p1.States), .vs 1 (Wa (Wb .i64) p1.Since), .vs 1 (Wa Wc p1.Pulled), .vs 1 (Wa Wc p1.Held)]) rfl (Vg hn rfl) rfl ta_34 ts_34 rfl rfl rfl) rfl ?_
        refine Va (rd_makeFn rfl) rfl ?_
        refine Vj (Yu (ps := [((n + 1), ⟨3, 1, [.int .i64 p2], 0⟩)]) (r := .agg [.int .i64 x21.Time, .sl (n + 3) 0 0 (x21.States).length, .sl (n + 4) 0 0 (x21.Since).length, .sl (n + 5) 0 0 (x21.Pulled).length, .vs 1 (Wa Wc x21.Held)]) (os := [⟨3, 1, Wa (Wb .i64) x21.States, 0⟩, ⟨3, 1, Wa (Wb .i64) x21.Since, 0⟩, ⟨4, 1, Wa Wc x21.Pulled, 0⟩]) (low1 := low) (loc1 := [⟨34, 5, [.agg [.int .i64 p1.Time, .vs 1 (Wa (Wb .i64) p1.States), .vs 1 (Wa (Wb .i64) p1.Since), .vs 1 (Wa Wc p1.Pulled), .vs 1 (Wa Wc p1.Held)]], 0⟩, ⟨3, 1, [.int .i64 p2], 0⟩, ⟨34, 5, [.agg [.int .i64 0, .nils, .nils, .nils, .nils]], 0⟩]) (loc2 := [⟨34, 5, [.agg [.int .i64 p1.Time, .vs 1 (Wa (Wb .i64) p1.States), .vs 1 (Wa (Wb .i64) p1.Since), .vs 1 (Wa Wc p1.Pulled), .vs 1 (Wa Wc p1.Held)]], 0⟩, ⟨3, 1, [.int .i64 p2], 0⟩, ⟨34, 5, [.agg [.int .i64 0, .nils, .nils, .nils, .nils]], 0⟩, ⟨3, 1, Wa (Wb .i64) x21.States, 0⟩, ⟨3, 1, Wa (Wb .i64) x21.Since, 0⟩, ⟨4, 1, Wa Wc x21.Pulled, 0⟩]) rfl Try.call31 (F_belts_done__belts_Start_1_ok h22 (nd1 na0 nd0) (Zd hn rfl) (Xc hn rfl)) (Xu (loc2 := [⟨34, 5, [.agg [.int .i64 p1.Time, .vs 1 (Wa (Wb .i64) p1.States), .vs 1 (Wa (Wb .i64) p1.Since), .vs 1 (Wa Wc p1.Pulled), .vs 1 (Wa Wc p1.Held)]], 0⟩, ⟨3, 1, [.int .i64 p2], 0⟩, ⟨34, 5, [.agg [.int .i64 0, .nils, .nils, .nils, .nils]], 0⟩]) hn 1 rfl Za) rfl) rfl ?_
        refine Vj (Xo (p := .agg [.int .i64 x21.Time, .sl (n + 3) 0 0 (x21.States).length, .sl (n + 4) 0 0 (x21.Since).length, .sl (n + 5) 0 0 (x21.Pulled).length, .vs 1 (Wa Wc x21.Held)]) (e' := .agg [.int .i64 x21.Time, .sl (n + 3) 0 0 (x21.States).length, .sl (n + 4) 0 0 (x21.Since).length, .sl (n + 5) 0 0 (x21.Pulled).length, .vs 1 (Wa Wc x21.Held)]) rfl (Vg hn rfl) rfl rfl ts_34 rfl (Yv rfl) rfl (We rfl) rfl (Ym hn rfl)) rfl ?_
        refine Va (Xr rfl) rfl ?_
        refine Vh ?_
        refine Xj ?_
        obtain rfl := Wd hF
        refine fnR ?_
        refine Weak.trans (Vt (E' := [(6, .ptr (n + 2) 0 0 0), (7, .int .i64 0)]) (loc1 := [⟨34, 5, [.agg [.int .i64 p1.Time, .vs 1 (Wa (Wb .i64) p1.States), .vs 1 (Wa (Wb .i64) p1.Since), .vs 1 (Wa Wc p1.Pulled), .vs 1 (Wa Wc p1.Held)]], 0⟩, ⟨3, 1, [.int .i64 p2], 0⟩, ⟨34, 5, [.agg [.int .i64 x21.Time, .vs 1 (Wa (Wb .i64) x21.States), .sl (n + 4) 0 0 (x21.Since).length, .sl (n + 5) 0 0 (x21.Pulled).length, .vs 1 (Wa Wc x21.Held)]], 0⟩, ⟨3, 1, [], 0 + 1⟩, ⟨3, 1, Wa (Wb .i64) x21.Since, 0⟩, ⟨4, 1, Wa Wc x21.Pulled, 0⟩]) hn 3 rfl (Yf (fun _ => .int _ _)) ⟨Vd rfl, Vd rfl, trivial⟩ ⟨.refl _, .refl _, Xs ⟨Vd rfl, Yq rfl rfl rfl (Xb rfl), Vd rfl, Vd rfl, Vd rfl, trivial⟩, .refl _, .refl _, .refl _, trivial⟩) ?_
        refine Weak.trans (Vt (E' := [(6, .ptr (n + 2) 0 0 0), (7, .int .i64 0)]) (loc1 := [⟨34, 5, [.agg [.int .i64 p1.Time, .vs 1 (Wa (Wb .i64) p1.States), .vs 1 (Wa (Wb .i64) p1.Since), .vs 1 (Wa Wc p1.Pulled), .vs 1 (Wa Wc p1.Held)]], 0⟩, ⟨3, 1, [.int .i64 p2], 0⟩, ⟨34, 5, [.agg [.int .i64 x21.Time, .vs 1 (Wa (Wb .i64) x21.States), .vs 1 (Wa (Wb .i64) x21.Since), .sl (n + 5) 0 0 (x21.Pulled).length, .vs 1 (Wa Wc x21.Held)]], 0⟩, ⟨3, 1, [], 0 + 1⟩, ⟨3, 1, [], 0 + 1⟩, ⟨4, 1, Wa Wc x21.Pulled, 0⟩]) hn 4 rfl (Yf (fun _ => .int _ _)) ⟨Vd rfl, Vd rfl, trivial⟩ ⟨.refl _, .refl _, Xs ⟨Vd rfl, Vd rfl, Yq rfl rfl rfl (Xb rfl), Vd rfl, Vd rfl, trivial⟩, .refl _, .refl _, .refl _, trivial⟩) ?_
        refine Weak.trans (Vt (E' := [(6, .ptr (n + 2) 0 0 0), (7, .int .i64 0)]) (loc1 := [⟨34, 5, [.agg [.int .i64 p1.Time, .vs 1 (Wa (Wb .i64) p1.States), .vs 1 (Wa (Wb .i64) p1.Since), .vs 1 (Wa Wc p1.Pulled), .vs 1 (Wa Wc p1.Held)]], 0⟩, ⟨3, 1, [.int .i64 p2], 0⟩, ⟨34, 5, [.agg [.int .i64 x21.Time, .vs 1 (Wa (Wb .i64) x21.States), .vs 1 (Wa (Wb .i64) x21.Since), .vs 1 (Wa Wc x21.Pulled), .vs 1 (Wa Wc x21.Held)]], 0⟩, ⟨3, 1, [], 0 + 1⟩, ⟨3, 1, [], 0 + 1⟩, ⟨4, 1, [], 0 + 1⟩]) hn 5 rfl (Yf (fun _ => .bool _)) ⟨Vd rfl, Vd rfl, trivial⟩ ⟨.refl _, .refl _, Xs ⟨Vd rfl, Vd rfl, Vd rfl, Yq rfl rfl rfl (Xb rfl), Vd rfl, trivial⟩, .refl _, .refl _, .refl _, trivial⟩) ?_
        exact Vw hn [(2, 0)] (by decide) ⟨Yl 0 2 rfl rfl, Vs rfl (.int _ _), trivial⟩ ⟨⟨_, rfl, rfl, .same _ _ _ _ (Xd ⟨Xl ⟨.int _ _, .vs _ _, .vs _ _, .vs _ _, .vs _ _, trivial⟩, trivial⟩)⟩, trivial⟩
 ·rintro _ _ _ _ ⟨he, hw⟩
  refine ⟨_, _, _, hw, ?_⟩
  exact Zz hn 0 rfl (We rfl) he [.agg [.int .i64 r.1.Time, .vs 1 (Wa (Wb .i64) r.1.States), .vs 1 (Wa (Wb .i64) r.1.Since), .vs 1 (Wa Wc r.1.Pulled), .vs 1 (Wa Wc r.1.Held)], .int .i64 r.2] ⟨Xk rfl (Vg hn rfl) rfl ta_34 ts_34 rfl rfl rfl, rfl, trivial⟩ ((lt_tup ⟨(Xl ⟨.int _ _, .vs _ _, .vs _ _, .vs _ _, .vs _ _, trivial⟩), .int _ _, trivial⟩)) trivial ⟨rfl, rfl⟩

theorem F_belts_Wait_1_ok0 {p0 : T_Line} {p1 : Int} {p2 : List T_Belt} {r : T_Line} (hF : F_belts_Wait_1 p0 p1 p2 = some r) {low0 : List AObj} {q0 q1 q2 q3 q4 q5 q6 w0 w1 w2 w3 w4 w5 w6 : Nat} (hB : Bor low0 [q0, q1, q2, q3, q4, q5, q6]) {m1 : Nat} (hm1 : m1 = (p0.States).length) {m2 : Nat} (hm2 : m2 = (p0.Since).length) {m3 : Nat} (hm3 : m3 = (p0.Pulled).length) {m4 : Nat} (hm4 : m4 = (p0.Held).length) {n : Nat} (hn : low0.length = n) :
    Yk Try.prog 34 [.ptr q0 w0 0 0, .ptr q5 w5 0 0, .ptr q6 w6 0 0] (setL low0 [(q0, ⟨34, 5, [.agg [.int .i64 p0.Time, .sl q1 w1 0 m1, .sl q2 w2 0 m2, .sl q3 w3 0 m3, .sl q4 w4 0 m4]], w0⟩), (q1, ⟨3, 1, Wa (Wb .i64) p0.States, w1⟩), (q2, ⟨3, 1, Wa (Wb .i64) p0.Since, w2⟩), (q3, ⟨4, 1, Wa Wc p0.Pulled, w3⟩), (q4, ⟨4, 1, Wa Wc p0.Held, w4⟩), (q5, ⟨3, 1, [.int .i64 p1], w5⟩), (q6, ⟨27, 1, [.vs 2 (Wa T_Belt.enc p2)], w6⟩)]) fun x low' => x = .tup [] ∧ low' = setL low0 [(q0, ⟨34, 5, [.agg [.int .i64 r.Time, .sl q1 w1 0 m1, .sl q2 w2 0 m2, .sl q3 w3 0 m3, .sl q4 w4 0 m4]], w0⟩), (q1, ⟨3, 1, Wa (Wb .i64) r.States, w1⟩), (q2, ⟨3, 1, Wa (Wb .i64) r.Since, w2⟩), (q3, ⟨4, 1, Wa Wc r.Pulled, w3⟩), (q4, ⟨4, 1, Wa Wc r.Held, w4⟩), (q5, ⟨3, 1, [.int .i64 p1], w5⟩), (q6, ⟨27, 1, [.vs 2 (Wa T_Belt.enc p2)], w6⟩)] ++ [] := by
 refine Vz (nt := 55) (rs := []) Try.func34 rfl rfl (We rfl) rfl ?_
 have hq0 : q0 < n := hB.ltN hn 0 rfl
 have hq1 : q1 < n := hB.ltN hn 1 rfl
 have hq2 : q2 < n := hB.ltN hn 2 rfl
 have hq3 : q3 < n := hB.ltN hn 3 rfl
 have hq4 : q4 < n := hB.ltN hn 4 rfl
 have hq5 : q5 < n := hB.ltN hn 5 rfl
 have hq6 : q6 < n := hB.ltN hn 6 rfl
 refine Vx (Q' := FnE (fun E' lw lc => m1 = (r.States).length ∧ m2 = (r.Since).length ∧ m3 = (r.Pulled).length ∧ m4 = (r.Held).length ∧ Xv E' lw lc [] (setL low0 [(q0, ⟨34, 5, [.agg [.int .i64 r.Time, .sl q1 w1 0 m1, .sl q2 w2 0 m2, .sl q3 w3 0 m3, .sl q4 w4 0 m4]], w0⟩), (q1, ⟨3, 1, Wa (Wb .i64) r.States, w1⟩), (q2, ⟨3, 1, Wa (Wb .i64) r.Since, w2⟩), (q3, ⟨4, 1, Wa Wc r.Pulled, w3⟩), (q4, ⟨4, 1, Wa Wc r.Held, w4⟩), (q5, ⟨3, 1, [.int .i64 p1], w5⟩), (q6, ⟨27, 1, [.vs 2 (Wa T_Belt.enc p2)], w6⟩)]) [])) ?_ ?_
 ·unfold F_belts_Wait_1 at hF
  refine Vi ?_
  refine Vf ?_
  refine Va (Zi rfl) rfl ?_
  refine Va (Ve rfl (Yb hB rfl 5 rfl) rfl ta_3 rfl) rfl ?_
  refine Va (Zc rfl) rfl ?_
  refine Va (Vc rfl tf_34_0 ts_3 (by decide)) rfl ?_
  refine Vj (Xo (p := .int .i64 p1) (e' := .agg [.int .i64 p1, .sl q1 w1 0 m1, .sl q2 w2 0 m2, .sl q3 w3 0 m3, .sl q4 w4 0 m4]) rfl (Yb hB rfl 0 rfl) rfl rfl ts_3 rfl (Yv rfl) rfl (We rfl) rfl (setO_B hB rfl 0 rfl (ltObjN hn ⟨Xl ⟨.int _ _, .sl _ _ _ _ hq1, .sl _ _ _ _ hq2, .sl _ _ _ _ hq3, .sl _ _ _ _ hq4, trivial⟩, trivial⟩) rfl)) rfl ?_
  refine Vh ?_
  refine Vi ?_
  refine Vf ?_
  refine Va (Zi rfl) rfl ?_
  refine Va (Zc rfl) rfl ?_
  refine Va (Vc rfl tf_34_1 ts_22 (by decide)) rfl ?_
  refine Va (Ve rfl (Yb hB rfl 0 rfl) rfl ta_22 rfl) rfl ?_
  refine Va (Xp (rd_lenS rfl (Yb hB rfl 1 rfl) rfl rfl te_22) (congrArg (fun n : Nat => Wb .i64 (n : Int)) hm1)) rfl ?_
  refine Va (Vm rfl) rfl ?_
  refine Vh ?_
  refine Yp ?_
  obtain ⟨o6, ho6, hF⟩ := Yt hF
  refine Vx (vwp_loopC (F_belts_Wait_1_L1 p0 p1 p2) (fun s5 E' lw lc => m1 = (s5.2.1).length ∧ m2 = (s5.2.2).length ∧ Xv E' lw lc [(0, .ptr q0 w0 0 0), (1, .ptr q5 w5 0 0), (2, .ptr q6 w6 0 0), (14, .sl q1 w1 0 m1), (15, .int .i64 ((p0.States).length : Int)), (16, .int .i64 s5.1)] (setL low0 [(q0, ⟨34, 5, [.agg [.int .i64 p1, .sl q1 w1 0 m1, .sl q2 w2 0 m2, .sl q3 w3 0 m3, .sl q4 w4 0 m4]], w0⟩), (q1, ⟨3, 1, Wa (Wb .i64) s5.2.1, w1⟩), (q2, ⟨3, 1, Wa (Wb .i64) s5.2.2, w2⟩), (q3, ⟨4, 1, Wa Wc p0.Pulled, w3⟩), (q4, ⟨4, 1, Wa Wc p0.Held, w4⟩), (q5, ⟨3, 1, [.int .i64 p1], w5⟩), (q6, ⟨27, 1, [.vs 2 (Wa T_Belt.enc p2)], w6⟩)]) []) (fun o6 => OnlyE (.exit 0) (fun E' lw lc => m1 = (o6.1).length ∧ m2 = (o6.2).length ∧ Xv E' lw lc [] (setL low0 [(q0, ⟨34, 5, [.agg [.int .i64 p1, .sl q1 w1 0 m1, .sl q2 w2 0 m2, .sl q3 w3 0 m3, .sl q4 w4 0 m4]], w0⟩), (q1, ⟨3, 1, Wa (Wb .i64) o6.1, w1⟩), (q2, ⟨3, 1, Wa (Wb .i64) o6.2, w2⟩), (q3, ⟨4, 1, Wa Wc p0.Pulled, w3⟩), (q4, ⟨4, 1, Wa Wc p0.Held, w4⟩), (q5, ⟨3, 1, [.int .i64 p1], w5⟩), (q6, ⟨27, 1, [.vs 2 (Wa T_Belt.enc p2)], w6⟩)]) [])) ho6 ⟨hm1, hm2, ?_⟩ (by rintro _ _ _ _ ⟨h, _⟩ <;> cases h) ?_) ?_
  ·exact Vq ⟨rfl, rfl, rfl, rfl, rfl, rfl, trivial⟩
  ·rintro s5 os5 _ _ _ hF ⟨hls5_0, hls5_1, hw⟩
   unfold F_belts_Wait_1_L1 at hF
   refine Xz hw ?_
   refine Vi ?_
   refine Vf ?_
   refine Va (rd_lss rfl rfl) rfl ?_
   refine Vh ?_
   refine Vi ?_
   refine Xq rfl (fun c7 => ?_) (fun c7 => ?_)
   ·have hF := Yr c7 hF
    refine Xy ?_
    refine Vi ?_
    obtain ⟨o8, ho8, hF⟩ := Yt hF
    refine Vx (Q' := (fun o8 => OnlyE .normal (fun E' lw lc => m1 = (o8.1).length ∧ m2 = (o8.2).length ∧ Xv E' lw lc [(0, .ptr q0 w0 0 0), (1, .ptr q5 w5 0 0), (2, .ptr q6 w6 0 0), (14, .sl q1 w1 0 m1), (15, .int .i64 ((p0.States).length : Int)), (16, .int .i64 s5.1)] (setL low0 [(q0, ⟨34, 5, [.agg [.int .i64 p1, .sl q1 w1 0 m1, .sl q2 w2 0 m2, .sl q3 w3 0 m3, .sl q4 w4 0 m4]], w0⟩), (q1, ⟨3, 1, Wa (Wb .i64) o8.1, w1⟩), (q2, ⟨3, 1, Wa (Wb .i64) o8.2, w2⟩), (q3, ⟨4, 1, Wa Wc p0.Pulled, w3⟩), (q4, ⟨4, 1, Wa Wc p0.Held, w4⟩), (q5, ⟨3, 1, [.int .i64 p1], w5⟩), (q6, ⟨27, 1, [.vs 2 (Wa T_Belt.enc p2)], w6⟩)]) [])) o8) ?_ ?_
    ·replace hF := ho8
     refine Yp ?_
     refine Vi ?_
     refine Vf ?_
     obtain ⟨x9, h10, hF⟩ := Yt hF
     refine Va (Vm rfl) rfl ?_
     refine Va (rd_ixS rfl hls5_0 rfl (Yb hB rfl 1 rfl) h10 te_22 ts_3) rfl ?_
     refine Va (rd_ldL1 rfl (Yb hB rfl 1 rfl) (Zj h10).2 ta_3 rfl) rfl ?_
     refine Va (Xr rfl) rfl ?_
     refine Va (Xr rfl) rfl ?_
     refine Vh ?_
     refine Vi ?_
     obtain ⟨x11, h12, hF⟩ := Yt hF
     obtain ⟨x13, h14, hF⟩ := Yt hF
     refine Zu [[], [0], [0, 1], [0, 1, 2], [], [0, 1, 2, 3, 4], [0, 1, 2, 3, 4, 5], [], [], [7, 8], [7, 8, 9], [7, 8, 9, 10], [0, 1, 2, 3, 4, 5, 6, 7, 8, 9, 10, 11], [0, 1, 2, 3, 4, 5, 6, 7, 8, 9, 10, 11, 12]] mixed (by kernel_rfl) rfl ?_
     refine Ze rfl rfl (Zi rfl) ?_
     refine Ze rfl rfl (Zc rfl) ?_
     refine Ze rfl rfl (Vc rfl tf_34_2 ts_22 (by decide)) ?_
     refine Ze rfl rfl (Ve rfl (Yb hB rfl 0 rfl) rfl ta_22 rfl) ?_
     refine Ze rfl rfl (Vm rfl) ?_
     refine Ze rfl rfl (rd_ixS rfl hls5_1 rfl (Yb hB rfl 2 rfl) h12 te_22 ts_3) ?_
     refine Ze rfl rfl (rd_ldL1 rfl (Yb hB rfl 2 rfl) (Zj h12).2 ta_3 rfl) ?_
     refine Ze rfl rfl (Ve rfl (Yb hB rfl 6 rfl) rfl ta_27 rfl) ?_
     refine Ze rfl rfl (Vm rfl) ?_
     refine Ze rfl rfl (Xp (Yn rfl rfl h14 te_27 ts_31) (v' := .vptr [.int .i64 x13.Onto, .int .i64 x13.Warn] 0) rfl) ?_
     refine Ze rfl rfl (Zv rfl tf_31_1 ts_3 (by decide)) ?_
     refine Ze rfl rfl (Xm rfl ta_3 rfl) ?_
     refine Ze rfl rfl (rd_add rfl rfl rfl) ?_
     refine Ze rfl rfl (Xr rfl) ?_
     refine Zh ?_
     refine Vi ?_
     obtain ⟨o15, ho15, hF⟩ := Yt hF
     refine Vx (Q' := (fun o15 => OnlyE .normal (fun E' lw lc => Xv E' lw lc [(0, .ptr q0 w0 0 0), (1, .ptr q5 w5 0 0), (2, .ptr q6 w6 0 0), (4, .int .i64 s5.1), (6, .int .i64 (IntKind.i64.wrap (x11 + x13.Warn))), (14, .sl q1 w1 0 m1), (15, .int .i64 ((p0.States).length : Int)), (16, .int .i64 s5.1), (40, .bool o15)] (setL low0 [(q0, ⟨34, 5, [.agg [.int .i64 p1, .sl q1 w1 0 m1, .sl q2 w2 0 m2, .sl q3 w3 0 m3, .sl q4 w4 0 m4]], w0⟩), (q1, ⟨3, 1, Wa (Wb .i64) s5.2.1, w1⟩), (q2, ⟨3, 1, Wa (Wb .i64) s5.2.2, w2⟩), (q3, ⟨4, 1, Wa Wc p0.Pulled, w3⟩), (q4, ⟨4, 1, Wa Wc p0.Held, w4⟩), (q5, ⟨3, 1, [.int .i64 p1], w5⟩), (q6, ⟨27, 1, [.vs 2 (Wa T_Belt.enc p2)], w6⟩)]) [])) o15) ?_ ?_
     ·replace hF := ho15
      refine Vf ?_
      rcases Wg (decide (x9 = 1)) with c16 | c16
      ·have hF := Yr c16 hF
       refine Va (Vm rfl) rfl ?_
       refine Va (Xe rfl rfl) rfl ?_
       refine Va (Vl rfl) rfl ?_
       refine Xh rfl rfl c16 ?_
       refine Va (Vm rfl) rfl ?_
       refine Xh rfl rfl c16 ?_
       refine Va (Ve rfl (Yb hB rfl 5 rfl) rfl ta_3 rfl) rfl ?_
       refine Xh rfl rfl c16 ?_
       refine Va (rd_leq rfl rfl) rfl ?_
       refine Va (Vo (congrArg Wc c16) rfl) rfl ?_
       refine Vh ?_
       obtain rfl := Wd hF
       refine Ye ?_
       exact Vq ⟨rfl, rfl, rfl, rfl, rfl, rfl, rfl, rfl, rfl, trivial⟩
      ·have hF := Ys c16 hF
       refine Va (Vm rfl) rfl ?_
       refine Va (Xe rfl rfl) rfl ?_
       refine Va (Vl rfl) rfl ?_
       refine Vb rfl rfl (neF c16) rfl ?_
       refine Vb rfl rfl (neF c16) rfl ?_
       refine Vb rfl rfl (neF c16) rfl ?_
       refine Va (Vp (congrArg Wc c16) rfl) rfl ?_
       refine Vh ?_
       obtain rfl := Wd hF
       refine Ye ?_
       exact Vq ⟨rfl, rfl, rfl, rfl, rfl, rfl, rfl, rfl, rfl, trivial⟩
     ·rintro _ _ _ _ ⟨rfl, hw⟩
      refine ⟨_, _, _, hw, ?_⟩
      refine Xq rfl (fun c17 => ?_) (fun c17 => ?_)
      ·have hF := Yr c17 hF
       obtain ⟨x18, h19, hF⟩ := Yt hF
       obtain ⟨x20, h21, hF⟩ := Yt hF
       refine vwp_drawn [[], [0], [0, 1], [0, 1, 2], [], [], [5], [5, 6], [5, 6, 7], [], [], [0, 1, 2, 3, 4, 5, 6, 7, 8], [0, 1, 2, 3, 4, 5, 6, 7, 8, 11], [0, 1, 2, 3, 4, 5, 6, 7, 8, 9, 10, 11, 12], [0, 1, 2, 3, 4, 5, 6, 7, 8, 9, 10, 11, 12, 13]] [false, false, false, false, false, false, false, false, false, false, false, false, true, false, true] [((setL low0 [(q0, ⟨34, 5, [.agg [.int .i64 p1, .sl q1 w1 0 m1, .sl q2 w2 0 m2, .sl q3 w3 0 m3, .sl q4 w4 0 m4]], w0⟩), (q1, ⟨3, 1, Wa (Wb .i64) s5.2.1, w1⟩), (q2, ⟨3, 1, Wa (Wb .i64) s5.2.2, w2⟩), (q3, ⟨4, 1, Wa Wc p0.Pulled, w3⟩), (q4, ⟨4, 1, Wa Wc p0.Held, w4⟩), (q5, ⟨3, 1, [.int .i64 p1], w5⟩), (q6, ⟨27, 1, [.vs 2 (Wa T_Belt.enc p2)], w6⟩)]), []), ((setL low0 [(q0, ⟨34, 5, [.agg [.int .i64 p1, .sl q1 w1 0 m1, .sl q2 w2 0 m2, .sl q3 w3 0 m3, .sl q4 w4 0 m4]], w0⟩), (q1, ⟨3, 1, Wa (Wb .i64) (s5.2.1.set ((s5.1).toNat) 2), w1⟩), (q2, ⟨3, 1, Wa (Wb .i64) s5.2.2, w2⟩), (q3, ⟨4, 1, Wa Wc p0.Pulled, w3⟩), (q4, ⟨4, 1, Wa Wc p0.Held, w4⟩), (q5, ⟨3, 1, [.int .i64 p1], w5⟩), (q6, ⟨27, 1, [.vs 2 (Wa T_Belt.enc p2)], w6⟩)]), []), ((setL low0 [(q0, ⟨34, 5, [.agg [.int .i64 p1, .sl q1 w1 0 m1, .sl q2 w2 0 m2, .sl q3 w3 0 m3, .sl q4 w4 0 m4]], w0⟩), (q1, ⟨3, 1, Wa (Wb .i64) (s5.2.1.set ((s5.1).toNat) 2), w1⟩), (q2, ⟨3, 1, Wa (Wb .i64) (s5.2.2.set ((s5.1).toNat) (IntKind.i64.wrap (x11 + x13.Warn))), w2⟩), (q3, ⟨4, 1, Wa Wc p0.Pulled, w3⟩), (q4, ⟨4, 1, Wa Wc p0.Held, w4⟩), (q5, ⟨3, 1, [.int .i64 p1], w5⟩), (q6, ⟨27, 1, [.vs 2 (Wa T_Belt.enc p2)], w6⟩)]), [])] mixed (by kernel_rfl) rfl (lenAll (Yy Vy (Yy Vy (Yy Vy all0)))) rfl _ rfl rfl ?_
       refine Ze rfl rfl (Zi rfl) ?_
       refine Ze rfl rfl (Zc rfl) ?_
       refine Ze rfl rfl (Vc rfl tf_34_1 ts_22 (by decide)) ?_
       refine Ze rfl rfl (Ve rfl (Yb hB rfl 0 rfl) rfl ta_22 rfl) ?_
       refine Ze rfl rfl (Vm rfl) ?_
       refine Ze rfl rfl (Zi rfl) ?_
       refine Ze rfl rfl (Zc rfl) ?_
       refine Ze rfl rfl (Vc rfl tf_34_2 ts_22 (by decide)) ?_
       refine Ze rfl rfl (Ve rfl (Yb hB rfl 0 rfl) rfl ta_22 rfl) ?_
       refine Zm _ rfl rfl (Yy (VRd.ntl (Vm rfl)) (Yy (VRd.ntl (Vm rfl)) all0)) ?_
       refine Zm _ rfl rfl (Yy (VRd.ntl (Vm rfl)) (Yy (VRd.ntl (Vm rfl)) all0)) ?_
       refine Ze rfl rfl (rd_ixS rfl hls5_0 rfl (Yb hB rfl 1 rfl) h19 te_22 ts_3) ?_
       refine dops_ef rfl rfl rfl (vef_stL (p := .int .i64 2) (e' := 2) rfl (Yb hB rfl 1 rfl) (Zj h19).2 rfl ts_3 rfl (Yv rfl) (We rfl) rfl (setO_B hB rfl 1 rfl (Vk (fun _ => .int _ _)) rfl)) ?_
       refine Ze rfl rfl (rd_ixS rfl hls5_1 rfl (Yb hB rfl 2 rfl) h21 te_22 ts_3) ?_
       refine dops_ef rfl rfl rfl (vef_stL (p := .int .i64 (IntKind.i64.wrap (x11 + x13.Warn))) (e' := (IntKind.i64.wrap (x11 + x13.Warn))) rfl (Yb hB rfl 2 rfl) (Zj h21).2 rfl ts_3 rfl (Yv rfl) (We rfl) rfl (setO_B hB rfl 2 rfl (Vk (fun _ => .int _ _)) rfl)) ?_
       refine Zh ?_
       obtain rfl := Wd hF
       refine And.intro rfl (And.intro (Eq.trans hls5_0 List.length_set.symm) (And.intro (Eq.trans hls5_1 List.length_set.symm) ?_))
       exact Vq ⟨rfl, rfl, rfl, rfl, rfl, rfl, trivial⟩
      ·have hF := Ys c17 hF
       refine Xy ?_
       obtain rfl := Wd hF
       refine And.intro rfl (And.intro hls5_0 (And.intro hls5_1 ?_))
       exact Vq ⟨rfl, rfl, rfl, rfl, rfl, rfl, trivial⟩
    ·rintro _ _ _ _ ⟨rfl, hl22, hl23, hw⟩
     refine ⟨_, _, _, hw, ?_⟩
     refine Vf ?_
     refine Va (rd_add rfl rfl rfl) rfl ?_
     refine Va (Vm rfl) rfl ?_
     refine Vh ?_
     obtain rfl := Wd hF
     refine And.intro rfl (And.intro hl22 (And.intro hl23 ?_))
     exact Vq ⟨rfl, rfl, rfl, rfl, rfl, rfl, trivial⟩
   ·have hF := Ys c7 hF
    refine vwp_exit ?_
    obtain rfl := Wd hF
    refine And.intro rfl (And.intro hls5_0 (And.intro hls5_1 ?_))
    exact Vq trivial
  ·rintro _ _ _ _ ⟨rfl, hl24, hl25, hw⟩
   refine ⟨_, _, _, hw, ?_⟩
   obtain rfl := Wd hF
   refine And.intro (.inl rfl) (And.intro hl24 (And.intro hl25 (And.intro hm3 (And.intro hm4 ?_))))
   exact Vq trivial
 ·rintro _ _ _ _ ⟨he, hl1, hl2, hl3, hl4, hw⟩
  refine ⟨_, _, _, hw, ?_⟩
  exact Yw he [] trivial ((lt_tup trivial)) ⟨rfl, (List.append_nil _).symm⟩

theorem F_belts_Wait_1_len {p0 : T_Line} {p1 : Int} {p2 : List T_Belt} {r : T_Line} (hF : F_belts_Wait_1 p0 p1 p2 = some r) {m1 : Nat} (hm1 : m1 = (p0.States).length) {m2 : Nat} (hm2 : m2 = (p0.Since).length) {m3 : Nat} (hm3 : m3 = (p0.Pulled).length) {m4 : Nat} (hm4 : m4 = (p0.Held).length) : m1 = (r.States).length ∧ m2 = (r.Since).length ∧ m3 = (r.Pulled).length ∧ m4 = (r.Held).length ∧ True := by
  have h : LP (F_belts_Wait_1 p0 p1 p2) (fun r => m1 = (r.States).length ∧ m2 = (r.Since).length ∧ m3 = (r.Pulled).length ∧ m4 = (r.Held).length ∧ True) := by
    unfold F_belts_Wait_1
    exact (lp_bind (Q := fun o6 => m1 = (o6.1).length ∧ m2 = (o6.2).length ∧ True) (lp_loop (fun s5 => m1 = (s5.2.1).length ∧ m2 = (s5.2.2).length ∧ True) ⟨hm1, hm2, trivial⟩ (fun s5 ⟨hls5_0, hls5_1, _⟩ => by unfold F_belts_Wait_1_L1; exact (lp_bif (fun c7 => lp_bind (Q := fun o8 => m1 = (o8.1).length ∧ m2 = (o8.2).length ∧ True) (Zy fun x9 h10 => Zy fun x11 h12 => Zy fun x13 h14 => lp_bind (Q := fun o15 => True) (lp_bif (fun c16 => Zw trivial) (fun c16 => Zw trivial)) (fun o15 _ => lp_bif (fun c17 => Zy fun x18 h19 => Zy fun x20 h21 => Zw ⟨(Eq.trans hls5_0 List.length_set.symm), (Eq.trans hls5_1 List.length_set.symm), trivial⟩) (fun c17 => Zw ⟨hls5_0, hls5_1, trivial⟩))) (fun o8 ⟨hl22, hl23, _⟩ => Zw ⟨hl22, hl23, trivial⟩)) (fun c7 => Zw ⟨hls5_0, hls5_1, trivial⟩)))) (fun o6 ⟨hl24, hl25, _⟩ => Zw ⟨hl24, hl25, hm3, hm4, trivial⟩))
  exact h r hF

theorem F_belts_Wait_1_ok {p0 : T_Line} {p1 : Int} {p2 : List T_Belt} {r : T_Line} (hF : F_belts_Wait_1 p0 p1 p2 = some r) {low : List AObj} {q0 q1 q2 q3 q4 q5 q6 w0 w1 w2 w3 w4 w5 w6 : Nat} (hnd : [q0, q1, q2, q3, q4, q5, q6].Nodup) {m1 : Nat} (hm1 : m1 = (p0.States).length) {m2 : Nat} (hm2 : m2 = (p0.Since).length) {m3 : Nat} (hm3 : m3 = (p0.Pulled).length) {m4 : Nat} (hm4 : m4 = (p0.Held).length) (hq0 : low[q0]? = some ⟨34, 5, [.agg [.int .i64 p0.Time, .sl q1 w1 0 m1, .sl q2 w2 0 m2, .sl q3 w3 0 m3, .sl q4 w4 0 m4]], w0⟩) (hq1 : low[q1]? = some ⟨3, 1, Wa (Wb .i64) p0.States, w1⟩) (hq2 : low[q2]? = some ⟨3, 1, Wa (Wb .i64) p0.Since, w2⟩) (hq3 : low[q3]? = some ⟨4, 1, Wa Wc p0.Pulled, w3⟩) (hq4 : low[q4]? = some ⟨4, 1, Wa Wc p0.Held, w4⟩) (hq5 : low[q5]? = some ⟨3, 1, [.int .i64 p1], w5⟩) (hq6 : low[q6]? = some ⟨27, 1, [.vs 2 (Wa T_Belt.enc p2)], w6⟩) {n : Nat} (hn : low.length = n) :
    Yk Try.prog 34 [.ptr q0 w0 0 0, .ptr q5 w5 0 0, .ptr q6 w6 0 0] low fun x low' => x = .tup [] ∧ low' = setL low [(q0, ⟨34, 5, [.agg [.int .i64 r.Time, .sl q1 w1 0 m1, .sl q2 w2 0 m2, .sl q3 w3 0 m3, .sl q4 w4 0 m4]], w0⟩), (q1, ⟨3, 1, Wa (Wb .i64) r.States, w1⟩), (q2, ⟨3, 1, Wa (Wb .i64) r.Since, w2⟩), (q3, ⟨4, 1, Wa Wc r.Pulled, w3⟩), (q4, ⟨4, 1, Wa Wc r.Held, w4⟩), (q5, ⟨3, 1, [.int .i64 p1], w5⟩), (q6, ⟨27, 1, [.vs 2 (Wa T_Belt.enc p2)], w6⟩)] ++ [] := by
  obtain ⟨h1, h2⟩ := Zn (ps := [(q0, ⟨34, 5, [.agg [.int .i64 p0.Time, .sl q1 w1 0 m1, .sl q2 w2 0 m2, .sl q3 w3 0 m3, .sl q4 w4 0 m4]], w0⟩), (q1, ⟨3, 1, Wa (Wb .i64) p0.States, w1⟩), (q2, ⟨3, 1, Wa (Wb .i64) p0.Since, w2⟩), (q3, ⟨4, 1, Wa Wc p0.Pulled, w3⟩), (q4, ⟨4, 1, Wa Wc p0.Held, w4⟩), (q5, ⟨3, 1, [.int .i64 p1], w5⟩), (q6, ⟨27, 1, [.vs 2 (Wa T_Belt.enc p2)], w6⟩)]) hnd (Zl hq0 (Zl hq1 (Zl hq2 (Zl hq3 (Zl hq4 (Zl hq5 (Zl hq6 bor0)))))))
  exact Zf h1 (F_belts_Wait_1_ok0 hF h2 hm1 hm2 hm3 hm4 hn)

theorem F_belts_done__belts_Wait_1_ok0 {p0 : T_Line} {pc10 : Int} {pc11 : List T_Belt} {r : T_Line} (hF : F_belts_done__belts_Wait_1 p0 pc10 pc11 = some r) {low0 : List AObj} {q0 q1 w0 w1 : Nat} (hB : Bor low0 [q0, q1]) {n : Nat} (hn : low0.length = n) :
    Yk Try.prog 31 [.agg [.int .i64 p0.Time, .vs 1 (Wa (Wb .i64) p0.States), .vs 1 (Wa (Wb .i64) p0.Since), .vs 1 (Wa Wc p0.Pulled), .vs 1 (Wa Wc p0.Held)], .fn 34 [] [.ptr q0 w0 0 0, .ptr q1 w1 0 0]] (setL low0 [(q0, ⟨3, 1, [.int .i64 pc10], w0⟩), (q1, ⟨27, 1, [.vs 2 (Wa T_Belt.enc pc11)], w1⟩)]) fun x low' => x = .agg [.int .i64 r.Time, .sl (n + 0) 0 0 (r.States).length, .sl (n + 1) 0 0 (r.Since).length, .sl (n + 2) 0 0 (r.Pulled).length, .vs 1 (Wa Wc r.Held)] ∧ low' = setL low0 [(q0, ⟨3, 1, [.int .i64 pc10], w0⟩), (q1, ⟨27, 1, [.vs 2 (Wa T_Belt.enc pc11)], w1⟩)] ++ [⟨3, 1, Wa (Wb .i64) r.States, 0⟩, ⟨3, 1, Wa (Wb .i64) r.Since, 0⟩, ⟨4, 1, Wa Wc r.Pulled, 0⟩] := by
 refine Vz (nt := 24) (rs := [.cell 4 34]) Try.func31 rfl rfl (We rfl) rfl ?_
 have hq0 : q0 < n := hB.ltN hn 0 rfl
 have hq1 : q1 < n := hB.ltN hn 1 rfl
 refine Vx (Q' := FnE (fun E' lw lc => Xv E' lw lc [(4, .ptr (n + 3) 0 0 0)] (setL low0 [(q0, ⟨3, 1, [.int .i64 pc10], w0⟩), (q1, ⟨27, 1, [.vs 2 (Wa T_Belt.enc pc11)], w1⟩)]) [⟨3, 1, Wa (Wb .i64) r.States, 0⟩, ⟨3, 1, Wa (Wb .i64) r.Since, 0⟩, ⟨4, 1, Wa Wc r.Pulled, 0⟩, ⟨34, 5, [.agg [.int .i64 r.Time, .sl (n + 0) 0 0 (r.States).length, .sl (n + 1) 0 0 (r.Since).length, .sl (n + 2) 0 0 (r.Pulled).length, .vs 1 (Wa Wc r.Held)]], 0⟩])) ?_ ?_
 ·unfold F_belts_done__belts_Wait_1 at hF
  refine Vi ?_
  refine Vf ?_
  refine Vj (Yx (Vn hn) rfl (v := .agg [.int .i64 p0.Time, .vs 1 (Wa (Wb .i64) p0.States), .vs 1 (Wa (Wb .i64) p0.Since), .vs 1 (Wa Wc p0.Pulled), .vs 1 (Wa Wc p0.Held)]) rfl rfl (Wf _) rfl rfl) rfl ?_
  refine Vj (Xi (Vn hn) rfl tz_34 rfl rfl (Wf _) rfl) rfl ?_
  refine Vh ?_
  refine Vi ?_
  obtain ⟨x1, h2, hF⟩ := Yt hF
  obtain ⟨x3, h4, hF⟩ := Yt hF
  obtain ⟨x5, h6, hF⟩ := Yt hF
  obtain ⟨x7, h8, hF⟩ := Yt hF
  refine Xz (Yj 3 1 (Wf _)) ?_
  refine Xz (Yj 3 1 (Wf _)) ?_
  refine Xz (Yj 4 1 (Wf _)) ?_
  refine Xz (Yj 4 1 (Wf _)) ?_
  refine Xz (Yj 34 5 (Wf _)) ?_
  refine vwp_drawnX [[], [0], [], [2], [2, 3], [], [5], [2, 3, 4, 5, 6], [], [8], [2, 3, 4, 5, 6, 7, 8, 9], [], [11], [2, 3, 4, 5, 6, 7, 8, 9, 10, 11, 12], [0, 1, 2, 3, 4, 5, 6, 7, 8, 9, 10, 11, 12, 13], [], [0, 1, 2, 3, 4, 5, 6, 7, 8, 9, 10, 11, 12, 13, 14, 15]] [false, false, false, false, true, false, false, true, false, false, true, false, false, true, false, true, true] [([], (setL low0 [(q0, ⟨3, 1, [.int .i64 pc10], w0⟩), (q1, ⟨27, 1, [.vs 2 (Wa T_Belt.enc pc11)], w1⟩)]), [⟨34, 5, [.agg [.int .i64 p0.Time, .vs 1 (Wa (Wb .i64) p0.States), .vs 1 (Wa (Wb .i64) p0.Since), .vs 1 (Wa Wc p0.Pulled), .vs 1 (Wa Wc p0.Held)]], 0⟩, ⟨34, 5, [.agg [.int .i64 0, .nils, .nils, .nils, .nils]], 0⟩, ⟨3, 1, [], 0⟩, ⟨3, 1, [], 0⟩, ⟨4, 1, [], 0⟩, ⟨4, 1, [], 0⟩, ⟨34, 5, [], 0⟩]), ([4], (setL low0 [(q0, ⟨3, 1, [.int .i64 pc10], w0⟩), (q1, ⟨27, 1, [.vs 2 (Wa T_Belt.enc pc11)], w1⟩)]), [⟨34, 5, [.agg [.int .i64 p0.Time, .vs 1 (Wa (Wb .i64) p0.States), .vs 1 (Wa (Wb .i64) p0.Since), .vs 1 (Wa Wc p0.Pulled), .vs 1 (Wa Wc p0.Held)]], 0⟩, ⟨34, 5, [.agg [.int .i64 0, .nils, .nils, .nils, .nils]], 0⟩, ⟨3, 1, Wa (Wb .i64) x1, 1⟩, ⟨3, 1, [], 0⟩, ⟨4, 1, [], 0⟩, ⟨4, 1, [], 0⟩, ⟨34, 5, [], 0⟩]), ([15], (setL low0 [(q0, ⟨3, 1, [.int .i64 pc10], w0⟩), (q1, ⟨27, 1, [.vs 2 (Wa T_Belt.enc pc11)], w1⟩)]), [⟨34, 5, [.agg [.int .i64 p0.Time, .vs 1 (Wa (Wb .i64) p0.States), .vs 1 (Wa (Wb .i64) p0.Since), .vs 1 (Wa Wc p0.Pulled), .vs 1 (Wa Wc p0.Held)]], 0⟩, ⟨34, 5, [.agg [.int .i64 0, .nils, .nils, .nils, .nils]], 0⟩, ⟨3, 1, [], 0⟩, ⟨3, 1, [], 0⟩, ⟨4, 1, [], 0⟩, ⟨4, 1, [], 0⟩, ⟨34, 5, [.agg [.int .i64 0, .nils, .nils, .nils, .nils]], 1⟩]), ([4, 7], (setL low0 [(q0, ⟨3, 1, [.int .i64 pc10], w0⟩), (q1, ⟨27, 1, [.vs 2 (Wa T_Belt.enc pc11)], w1⟩)]), [⟨34, 5, [.agg [.int .i64 p0.Time, .vs 1 (Wa (Wb .i64) p0.States), .vs 1 (Wa (Wb .i64) p0.Since), .vs 1 (Wa Wc p0.Pulled), .vs 1 (Wa Wc p0.Held)]], 0⟩, ⟨34, 5, [.agg [.int .i64 0, .nils, .nils, .nils, .nils]], 0⟩, ⟨3, 1, Wa (Wb .i64) x1, 1⟩, ⟨3, 1, Wa (Wb .i64) x3, 1⟩, ⟨4, 1, [], 0⟩, ⟨4, 1, [], 0⟩, ⟨34, 5, [], 0⟩]), ([4, 15], (setL low0 [(q0, ⟨3, 1, [.int .i64 pc10], w0⟩), (q1, ⟨27, 1, [.vs 2 (Wa T_Belt.enc pc11)], w1⟩)]), [⟨34, 5, [.agg [.int .i64 p0.Time, .vs 1 (Wa (Wb .i64) p0.States), .vs 1 (Wa (Wb .i64) p0.Since), .vs 1 (Wa Wc p0.Pulled), .vs 1 (Wa Wc p0.Held)]], 0⟩, ⟨34, 5, [.agg [.int .i64 0, .nils, .nils, .nils, .nils]], 0⟩, ⟨3, 1, Wa (Wb .i64) x1, 1⟩, ⟨3, 1, [], 0⟩, ⟨4, 1, [], 0⟩, ⟨4, 1, [], 0⟩, ⟨34, 5, [.agg [.int .i64 0, .nils, .nils, .nils, .nils]], 1⟩]), ([4, 7, 10], (setL low0 [(q0, ⟨3, 1, [.int .i64 pc10], w0⟩), (q1, ⟨27, 1, [.vs 2 (Wa T_Belt.enc pc11)], w1⟩)]), [⟨34, 5, [.agg [.int .i64 p0.Time, .vs 1 (Wa (Wb .i64) p0.States), .vs 1 (Wa (Wb .i64) p0.Since), .vs 1 (Wa Wc p0.Pulled), .vs 1 (Wa Wc p0.Held)]], 0⟩, ⟨34, 5, [.agg [.int .i64 0, .nils, .nils, .nils, .nils]], 0⟩, ⟨3, 1, Wa (Wb .i64) x1, 1⟩, ⟨3, 1, Wa (Wb .i64) x3, 1⟩, ⟨4, 1, Wa Wc x5, 1⟩, ⟨4, 1, [], 0⟩, ⟨34, 5, [], 0⟩]), ([4, 7, 15], (setL low0 [(q0, ⟨3, 1, [.int .i64 pc10], w0⟩), (q1, ⟨27, 1, [.vs 2 (Wa T_Belt.enc pc11)], w1⟩)]), [⟨34, 5, [.agg [.int .i64 p0.Time, .vs 1 (Wa (Wb .i64) p0.States), .vs 1 (Wa (Wb .i64) p0.Since), .vs 1 (Wa Wc p0.Pulled), .vs 1 (Wa Wc p0.Held)]], 0⟩, ⟨34, 5, [.agg [.int .i64 0, .nils, .nils, .nils, .nils]], 0⟩, ⟨3, 1, Wa (Wb .i64) x1, 1⟩, ⟨3, 1, Wa (Wb .i64) x3, 1⟩, ⟨4, 1, [], 0⟩, ⟨4, 1, [], 0⟩, ⟨34, 5, [.agg [.int .i64 0, .nils, .nils, .nils, .nils]], 1⟩]), ([4, 7, 10, 13], (setL low0 [(q0, ⟨3, 1, [.int .i64 pc10], w0⟩), (q1, ⟨27, 1, [.vs 2 (Wa T_Belt.enc pc11)], w1⟩)]), [⟨34, 5, [.agg [.int .i64 p0.Time, .vs 1 (Wa (Wb .i64) p0.States), .vs 1 (Wa (Wb .i64) p0.Since), .vs 1 (Wa Wc p0.Pulled), .vs 1 (Wa Wc p0.Held)]], 0⟩, ⟨34, 5, [.agg [.int .i64 0, .nils, .nils, .nils, .nils]], 0⟩, ⟨3, 1, Wa (Wb .i64) x1, 1⟩, ⟨3, 1, Wa (Wb .i64) x3, 1⟩, ⟨4, 1, Wa Wc x5, 1⟩, ⟨4, 1, Wa Wc x7, 1⟩, ⟨34, 5, [], 0⟩]), ([4, 7, 10, 15], (setL low0 [(q0, ⟨3, 1, [.int .i64 pc10], w0⟩), (q1, ⟨27, 1, [.vs 2 (Wa T_Belt.enc pc11)], w1⟩)]), [⟨34, 5, [.agg [.int .i64 p0.Time, .vs 1 (Wa (Wb .i64) p0.States), .vs 1 (Wa (Wb .i64) p0.Since), .vs 1 (Wa Wc p0.Pulled), .vs 1 (Wa Wc p0.Held)]], 0⟩, ⟨34, 5, [.agg [.int .i64 0, .nils, .nils, .nils, .nils]], 0⟩, ⟨3, 1, Wa (Wb .i64) x1, 1⟩, ⟨3, 1, Wa (Wb .i64) x3, 1⟩, ⟨4, 1, Wa Wc x5, 1⟩, ⟨4, 1, [], 0⟩, ⟨34, 5, [.agg [.int .i64 0, .nils, .nils, .nils, .nils]], 1⟩]), ([4, 7, 10, 13, 15], (setL low0 [(q0, ⟨3, 1, [.int .i64 pc10], w0⟩), (q1, ⟨27, 1, [.vs 2 (Wa T_Belt.enc pc11)], w1⟩)]), [⟨34, 5, [.agg [.int .i64 p0.Time, .vs 1 (Wa (Wb .i64) p0.States), .vs 1 (Wa (Wb .i64) p0.Since), .vs 1 (Wa Wc p0.Pulled), .vs 1 (Wa Wc p0.Held)]], 0⟩, ⟨34, 5, [.agg [.int .i64 0, .nils, .nils, .nils, .nils]], 0⟩, ⟨3, 1, Wa (Wb .i64) x1, 1⟩, ⟨3, 1, Wa (Wb .i64) x3, 1⟩, ⟨4, 1, Wa Wc x5, 1⟩, ⟨4, 1, Wa Wc x7, 1⟩, ⟨34, 5, [.agg [.int .i64 0, .nils, .nils, .nils, .nils]], 1⟩]), ([4, 7, 10, 13, 15, 16], (setL low0 [(q0, ⟨3, 1, [.int .i64 pc10], w0⟩), (q1, ⟨27, 1, [.vs 2 (Wa T_Belt.enc pc11)], w1⟩)]), [⟨34, 5, [.agg [.int .i64 p0.Time, .vs 1 (Wa (Wb .i64) p0.States), .vs 1 (Wa (Wb .i64) p0.Since), .vs 1 (Wa Wc p0.Pulled), .vs 1 (Wa Wc p0.Held)]], 0⟩, ⟨34, 5, [.agg [.int .i64 0, .nils, .nils, .nils, .nils]], 0⟩, ⟨3, 1, Wa (Wb .i64) x1, 1⟩, ⟨3, 1, Wa (Wb .i64) x3, 1⟩, ⟨4, 1, Wa Wc x5, 1⟩, ⟨4, 1, Wa Wc x7, 1⟩, ⟨34, 5, [.agg [.int .i64 p0.Time, .sl (n + 2) 1 0 (x1).length, .sl (n + 3) 1 0 (x3).length, .sl (n + 4) 1 0 (x5).length, .sl (n + 5) 1 0 (x7).length]], 1⟩])] mixed (by kernel_rfl) rfl (lenAllX (Yg Vy (Yg Vy (Yg Vy (Yg Vy (Yg Vy (Yg Vy (Yg Vy (Yg Vy (Yg Vy (Yg Vy (Yg Vy allx0)))))))))))) rfl [4, 7, 10, 13, 15, 16] ((setL low0 [(q0, ⟨3, 1, [.int .i64 pc10], w0⟩), (q1, ⟨27, 1, [.vs 2 (Wa T_Belt.enc pc11)], w1⟩)]), [⟨34, 5, [.agg [.int .i64 p0.Time, .vs 1 (Wa (Wb .i64) p0.States), .vs 1 (Wa (Wb .i64) p0.Since), .vs 1 (Wa Wc p0.Pulled), .vs 1 (Wa Wc p0.Held)]], 0⟩, ⟨34, 5, [.agg [.int .i64 0, .nils, .nils, .nils, .nils]], 0⟩, ⟨3, 1, Wa (Wb .i64) x1, 1⟩, ⟨3, 1, Wa (Wb .i64) x3, 1⟩, ⟨4, 1, Wa Wc x5, 1⟩, ⟨4, 1, Wa Wc x7, 1⟩, ⟨34, 5, [.agg [.int .i64 p0.Time, .sl (n + 2) 1 0 (x1).length, .sl (n + 3) 1 0 (x3).length, .sl (n + 4) 1 0 (x5).length, .sl (n + 5) 1 0 (x7).length]], 1⟩]) rfl rfl ?_
  refine Xn _ rfl rfl (Xg (VRd.ntl (Vc rfl tf_34_0 ts_3 (by decide))) (Xg (VRd.ntl (Vc rfl tf_34_0 ts_3 (by decide))) (Xg (VRd.ntl (Vc rfl tf_34_0 ts_3 (by decide))) (Xg (VRd.ntl (Vc rfl tf_34_0 ts_3 (by decide))) (Xg (VRd.ntl (Vc rfl tf_34_0 ts_3 (by decide))) (Xg (VRd.ntl (Vc rfl tf_34_0 ts_3 (by decide))) (Xg (VRd.ntl (Vc rfl tf_34_0 ts_3 (by decide))) (Xg (VRd.ntl (Vc rfl tf_34_0 ts_3 (by decide))) (Xg (VRd.ntl (Vc rfl tf_34_0 ts_3 (by decide))) (Xg (VRd.ntl (Vc rfl tf_34_0 ts_3 (by decide))) rx0)))))))))) ?_
  refine Xn _ rfl rfl (Xg (VRd.ntl (Ve rfl (Vg (Vn hn) rfl) rfl ta_3 rfl)) (Xg (VRd.ntl (Ve rfl (Vg (Vn hn) rfl) rfl ta_3 rfl)) (Xg (VRd.ntl (Ve rfl (Vg (Vn hn) rfl) rfl ta_3 rfl)) (Xg (VRd.ntl (Ve rfl (Vg (Vn hn) rfl) rfl ta_3 rfl)) (Xg (VRd.ntl (Ve rfl (Vg (Vn hn) rfl) rfl ta_3 rfl)) (Xg (VRd.ntl (Ve rfl (Vg (Vn hn) rfl) rfl ta_3 rfl)) (Xg (VRd.ntl (Ve rfl (Vg (Vn hn) rfl) rfl ta_3 rfl)) (Xg (VRd.ntl (Ve rfl (Vg (Vn hn) rfl) rfl ta_3 rfl)) (Xg (VRd.ntl (Ve rfl (Vg (Vn hn) rfl) rfl ta_3 rfl)) (Xg (VRd.ntl (Ve rfl (Vg (Vn hn) rfl) rfl ta_3 rfl)) rx0)))))))))) ?_
  refine Xn _ rfl rfl (Xg (VRd.ntl (Vc rfl tf_34_1 ts_22 (by decide))) (Xg (VRd.ntl (Vc rfl tf_34_1 ts_22 (by decide))) rx0)) ?_
  refine Xn _ rfl rfl (Xg (VRd.ntl (Ve rfl (Vg (Vn hn) rfl) rfl ta_22 rfl)) (Xg (VRd.ntl (Ve rfl (Vg (Vn hn) rfl) rfl ta_22 rfl)) rx0)) ?_
  refine Yo _ rfl rfl (Zs 1 rfl (Vr (f := 7) (k := 2) (m := 1) (os := [⟨3, 1, Wa (Wb .i64) x1, 0⟩]) (os' := [⟨3, 1, Wa (Wb .i64) x1, 1⟩]) (v := .sl (n + 7) 0 0 (x1).length) (Vn hn) rfl rfl ⟨⟨_, rfl, rfl⟩, trivial⟩ (Xf (r := .sl (n + 7) 0 0 (x1).length) (os := [⟨3, 1, Wa (Wb .i64) x1, 0⟩]) rfl Try.call54 (F_slices_Clone___int_int__ok h2 _ (Xc (Vn hn) rfl))) (Yi 0 rfl rfl rfl rfl) ⟨.same _ _ _ (Vk (fun _ => .int _ _)), trivial⟩ rfl) (Zs 4 rfl (Vr (f := 7) (k := 2) (m := 1) (os := [⟨3, 1, Wa (Wb .i64) x1, 0⟩]) (os' := [⟨3, 1, Wa (Wb .i64) x1, 1⟩]) (v := .sl (n + 7) 0 0 (x1).length) (Vn hn) rfl rfl ⟨⟨_, rfl, rfl⟩, trivial⟩ (Xf (r := .sl (n + 7) 0 0 (x1).length) (os := [⟨3, 1, Wa (Wb .i64) x1, 0⟩]) rfl Try.call54 (F_slices_Clone___int_int__ok h2 _ (Xc (Vn hn) rfl))) (Yi 0 rfl rfl rfl rfl) ⟨.same _ _ _ (Vk (fun _ => .int _ _)), trivial⟩ rfl) ex0)) ?_
  refine Xn _ rfl rfl (Xg (VRd.ntl (Vc rfl tf_34_2 ts_22 (by decide))) (Xg (VRd.ntl (Vc rfl tf_34_2 ts_22 (by decide))) (Xg (VRd.ntl (Vc rfl tf_34_2 ts_22 (by decide))) (Xg (VRd.ntl (Vc rfl tf_34_2 ts_22 (by decide))) rx0)))) ?_
  refine Xn _ rfl rfl (Xg (VRd.ntl (Ve rfl (Vg (Vn hn) rfl) rfl ta_22 rfl)) (Xg (VRd.ntl (Ve rfl (Vg (Vn hn) rfl) rfl ta_22 rfl)) (Xg (VRd.ntl (Ve rfl (Vg (Vn hn) rfl) rfl ta_22 rfl)) (Xg (VRd.ntl (Ve rfl (Vg (Vn hn) rfl) rfl ta_22 rfl)) rx0)))) ?_
  refine Yo _ rfl rfl (Zs 3 rfl (Vr (f := 7) (k := 3) (m := 1) (os := [⟨3, 1, Wa (Wb .i64) x3, 0⟩]) (os' := [⟨3, 1, Wa (Wb .i64) x3, 1⟩]) (v := .sl (n + 7) 0 0 (x3).length) (Vn hn) rfl rfl ⟨⟨_, rfl, rfl⟩, trivial⟩ (Xf (r := .sl (n + 7) 0 0 (x3).length) (os := [⟨3, 1, Wa (Wb .i64) x3, 0⟩]) rfl Try.call54 (F_slices_Clone___int_int__ok h4 _ (Xc (Vn hn) rfl))) (Yi 0 rfl rfl rfl rfl) ⟨.same _ _ _ (Vk (fun _ => .int _ _)), trivial⟩ rfl) (Zs 6 rfl (Vr (f := 7) (k := 3) (m := 1) (os := [⟨3, 1, Wa (Wb .i64) x3, 0⟩]) (os' := [⟨3, 1, Wa (Wb .i64) x3, 1⟩]) (v := .sl (n + 7) 0 0 (x3).length) (Vn hn) rfl rfl ⟨⟨_, rfl, rfl⟩, trivial⟩ (Xf (r := .sl (n + 7) 0 0 (x3).length) (os := [⟨3, 1, Wa (Wb .i64) x3, 0⟩]) rfl Try.call54 (F_slices_Clone___int_int__ok h4 _ (Xc (Vn hn) rfl))) (Yi 0 rfl rfl rfl rfl) ⟨.same _ _ _ (Vk (fun _ => .int _ _)), trivial⟩ rfl) ex0)) ?_
  refine Xn _ rfl rfl (Xg (VRd.ntl (Vc rfl tf_34_3 ts_32 (by decide))) (Xg (VRd.ntl (Vc rfl tf_34_3 ts_32 (by decide))) (Xg (VRd.ntl (Vc rfl tf_34_3 ts_32 (by decide))) (Xg (VRd.ntl (Vc rfl tf_34_3 ts_32 (by decide))) (Xg (VRd.ntl (Vc rfl tf_34_3 ts_32 (by decide))) (Xg (VRd.ntl (Vc rfl tf_34_3 ts_32 (by decide))) rx0)))))) ?_
  refine Xn _ rfl rfl (Xg (VRd.ntl (Ve rfl (Vg (Vn hn) rfl) rfl ta_32 rfl)) (Xg (VRd.ntl (Ve rfl (Vg (Vn hn) rfl) rfl ta_32 rfl)) (Xg (VRd.ntl (Ve rfl (Vg (Vn hn) rfl) rfl ta_32 rfl)) (Xg (VRd.ntl (Ve rfl (Vg (Vn hn) rfl) rfl ta_32 rfl)) (Xg (VRd.ntl (Ve rfl (Vg (Vn hn) rfl) rfl ta_32 rfl)) (Xg (VRd.ntl (Ve rfl (Vg (Vn hn) rfl) rfl ta_32 rfl)) rx0)))))) ?_
  refine Yo _ rfl rfl (Zs 5 rfl (Vr (f := 7) (k := 4) (m := 1) (os := [⟨4, 1, Wa Wc x5, 0⟩]) (os' := [⟨4, 1, Wa Wc x5, 1⟩]) (v := .sl (n + 7) 0 0 (x5).length) (Vn hn) rfl rfl ⟨⟨_, rfl, rfl⟩, trivial⟩ (Xf (r := .sl (n + 7) 0 0 (x5).length) (os := [⟨4, 1, Wa Wc x5, 0⟩]) rfl Try.call55 (F_slices_Clone___bool_bool__ok h6 _ (Xc (Vn hn) rfl))) (Yi 0 rfl rfl rfl rfl) ⟨.same _ _ _ (Vk (fun _ => .bool _)), trivial⟩ rfl) (Zs 8 rfl (Vr (f := 7) (k := 4) (m := 1) (os := [⟨4, 1, Wa Wc x5, 0⟩]) (os' := [⟨4, 1, Wa Wc x5, 1⟩]) (v := .sl (n + 7) 0 0 (x5).length) (Vn hn) rfl rfl ⟨⟨_, rfl, rfl⟩, trivial⟩ (Xf (r := .sl (n + 7) 0 0 (x5).length) (os := [⟨4, 1, Wa Wc x5, 0⟩]) rfl Try.call55 (F_slices_Clone___bool_bool__ok h6 _ (Xc (Vn hn) rfl))) (Yi 0 rfl rfl rfl rfl) ⟨.same _ _ _ (Vk (fun _ => .bool _)), trivial⟩ rfl) ex0)) ?_
  refine Xn _ rfl rfl (Xg (VRd.ntl (Vc rfl tf_34_4 ts_32 (by decide))) (Xg (VRd.ntl (Vc rfl tf_34_4 ts_32 (by decide))) (Xg (VRd.ntl (Vc rfl tf_34_4 ts_32 (by decide))) (Xg (VRd.ntl (Vc rfl tf_34_4 ts_32 (by decide))) (Xg (VRd.ntl (Vc rfl tf_34_4 ts_32 (by decide))) (Xg (VRd.ntl (Vc rfl tf_34_4 ts_32 (by decide))) (Xg (VRd.ntl (Vc rfl tf_34_4 ts_32 (by decide))) (Xg (VRd.ntl (Vc rfl tf_34_4 ts_32 (by decide))) rx0)))))))) ?_
  refine Xn _ rfl rfl (Xg (VRd.ntl (Ve rfl (Vg (Vn hn) rfl) rfl ta_32 rfl)) (Xg (VRd.ntl (Ve rfl (Vg (Vn hn) rfl) rfl ta_32 rfl)) (Xg (VRd.ntl (Ve rfl (Vg (Vn hn) rfl) rfl ta_32 rfl)) (Xg (VRd.ntl (Ve rfl (Vg (Vn hn) rfl) rfl ta_32 rfl)) (Xg (VRd.ntl (Ve rfl (Vg (Vn hn) rfl) rfl ta_32 rfl)) (Xg (VRd.ntl (Ve rfl (Vg (Vn hn) rfl) rfl ta_32 rfl)) (Xg (VRd.ntl (Ve rfl (Vg (Vn hn) rfl) rfl ta_32 rfl)) (Xg (VRd.ntl (Ve rfl (Vg (Vn hn) rfl) rfl ta_32 rfl)) rx0)))))))) ?_
  refine Yo _ rfl rfl (Zs 7 rfl (Vr (f := 7) (k := 5) (m := 1) (os := [⟨4, 1, Wa Wc x7, 0⟩]) (os' := [⟨4, 1, Wa Wc x7, 1⟩]) (v := .sl (n + 7) 0 0 (x7).length) (Vn hn) rfl rfl ⟨⟨_, rfl, rfl⟩, trivial⟩ (Xf (r := .sl (n + 7) 0 0 (x7).length) (os := [⟨4, 1, Wa Wc x7, 0⟩]) rfl Try.call55 (F_slices_Clone___bool_bool__ok h8 _ (Xc (Vn hn) rfl))) (Yi 0 rfl rfl rfl rfl) ⟨.same _ _ _ (Vk (fun _ => .bool _)), trivial⟩ rfl) (Zs 9 rfl (Vr (f := 7) (k := 5) (m := 1) (os := [⟨4, 1, Wa Wc x7, 0⟩]) (os' := [⟨4, 1, Wa Wc x7, 1⟩]) (v := .sl (n + 7) 0 0 (x7).length) (Vn hn) rfl rfl ⟨⟨_, rfl, rfl⟩, trivial⟩ (Xf (r := .sl (n + 7) 0 0 (x7).length) (os := [⟨4, 1, Wa Wc x7, 0⟩]) rfl Try.call55 (F_slices_Clone___bool_bool__ok h8 _ (Xc (Vn hn) rfl))) (Yi 0 rfl rfl rfl rfl) ⟨.same _ _ _ (Vk (fun _ => .bool _)), trivial⟩ rfl) ex0)) ?_
  refine Xn _ rfl rfl (Xg (VRd.ntl (Zt (vs := [(0, .int .i64 p0.Time), (1, .sl (n + 2) 1 0 (x1).length), (2, .sl (n + 3) 1 0 (x3).length), (3, .sl (n + 4) 1 0 (x5).length), (4, .sl (n + 5) 1 0 (x7).length)]) (ds := [.int .i64 p0.Time, .sl (n + 2) 1 0 (x1).length, .sl (n + 3) 1 0 (x3).length, .sl (n + 4) 1 0 (x5).length, .sl (n + 5) 1 0 (x7).length]) tz_34 rfl rfl tp_34 ⟨rfl, rfl, rfl, rfl, rfl, rfl, rfl, rfl, rfl, rfl, trivial⟩ (nt_all2 rfl) rfl)) (Xg (VRd.ntl (Zt (vs := [(0, .int .i64 p0.Time), (1, .sl (n + 2) 1 0 (x1).length), (2, .sl (n + 3) 1 0 (x3).length), (3, .sl (n + 4) 1 0 (x5).length), (4, .sl (n + 5) 1 0 (x7).length)]) (ds := [.int .i64 p0.Time, .sl (n + 2) 1 0 (x1).length, .sl (n + 3) 1 0 (x3).length, .sl (n + 4) 1 0 (x5).length, .sl (n + 5) 1 0 (x7).length]) tz_34 rfl rfl tp_34 ⟨rfl, rfl, rfl, rfl, rfl, rfl, rfl, rfl, rfl, rfl, trivial⟩ (nt_all2 rfl) rfl)) rx0)) ?_
  refine Yo _ rfl rfl (Zs 2 rfl (Vr (f := 7) (k := 6) (m := 1) (os := [⟨34, 5, [.agg [.int .i64 0, .nils, .nils, .nils, .nils]], 0⟩]) (os' := [⟨34, 5, [.agg [.int .i64 0, .nils, .nils, .nils, .nils]], 1⟩]) (v := .ptr (n + 7) 0 0 0) (Vn hn) rfl rfl ⟨⟨_, rfl, rfl⟩, trivial⟩ (Xi (Vn hn) rfl tz_34 rfl rfl (Wf _) rfl) (Zp 0 rfl rfl rfl rfl) ⟨.same _ _ _ (Xd ⟨(Xl ⟨.int _ _, .nils, .nils, .nils, .nils, trivial⟩), trivial⟩), trivial⟩ rfl) (Zs 4 rfl (Vr (f := 7) (k := 6) (m := 1) (os := [⟨34, 5, [.agg [.int .i64 0, .nils, .nils, .nils, .nils]], 0⟩]) (os' := [⟨34, 5, [.agg [.int .i64 0, .nils, .nils, .nils, .nils]], 1⟩]) (v := .ptr (n + 7) 0 0 0) (Vn hn) rfl rfl ⟨⟨_, rfl, rfl⟩, trivial⟩ (Xi (Vn hn) rfl tz_34 rfl rfl (Wf _) rfl) (Zp 0 rfl rfl rfl rfl) ⟨.same _ _ _ (Xd ⟨(Xl ⟨.int _ _, .nils, .nils, .nils, .nils, trivial⟩), trivial⟩), trivial⟩ rfl) (Zs 6 rfl (Vr (f := 7) (k := 6) (m := 1) (os := [⟨34, 5, [.agg [.int .i64 0, .nils, .nils, .nils, .nils]], 0⟩]) (os' := [⟨34, 5, [.agg [.int .i64 0, .nils, .nils, .nils, .nils]], 1⟩]) (v := .ptr (n + 7) 0 0 0) (Vn hn) rfl rfl ⟨⟨_, rfl, rfl⟩, trivial⟩ (Xi (Vn hn) rfl tz_34 rfl rfl (Wf _) rfl) (Zp 0 rfl rfl rfl rfl) ⟨.same _ _ _ (Xd ⟨(Xl ⟨.int _ _, .nils, .nils, .nils, .nils, trivial⟩), trivial⟩), trivial⟩ rfl) (Zs 8 rfl (Vr (f := 7) (k := 6) (m := 1) (os := [⟨34, 5, [.agg [.int .i64 0, .nils, .nils, .nils, .nils]], 0⟩]) (os' := [⟨34, 5, [.agg [.int .i64 0, .nils, .nils, .nils, .nils]], 1⟩]) (v := .ptr (n + 7) 0 0 0) (Vn hn) rfl rfl ⟨⟨_, rfl, rfl⟩, trivial⟩ (Xi (Vn hn) rfl tz_34 rfl rfl (Wf _) rfl) (Zp 0 rfl rfl rfl rfl) ⟨.same _ _ _ (Xd ⟨(Xl ⟨.int _ _, .nils, .nils, .nils, .nils, trivial⟩), trivial⟩), trivial⟩ rfl) (Zs 9 rfl (Vr (f := 7) (k := 6) (m := 1) (os := [⟨34, 5, [.agg [.int .i64 0, .nils, .nils, .nils, .nils]], 0⟩]) (os' := [⟨34, 5, [.agg [.int .i64 0, .nils, .nils, .nils, .nils]], 1⟩]) (v := .ptr (n + 7) 0 0 0) (Vn hn) rfl rfl ⟨⟨_, rfl, rfl⟩, trivial⟩ (Xi (Vn hn) rfl tz_34 rfl rfl (Wf _) rfl) (Zp 0 rfl rfl rfl rfl) ⟨.same _ _ _ (Xd ⟨(Xl ⟨.int _ _, .nils, .nils, .nils, .nils, trivial⟩), trivial⟩), trivial⟩ rfl) ex0))))) ?_
  refine Yo _ rfl rfl (Zs 10 rfl (Xo (p := .agg [.int .i64 p0.Time, .sl (n + 2) 1 0 (x1).length, .sl (n + 3) 1 0 (x3).length, .sl (n + 4) 1 0 (x5).length, .sl (n + 5) 1 0 (x7).length]) (e' := .agg [.int .i64 p0.Time, .sl (n + 2) 1 0 (x1).length, .sl (n + 3) 1 0 (x3).length, .sl (n + 4) 1 0 (x5).length, .sl (n + 5) 1 0 (x7).length]) rfl (Vg (Vn hn) rfl) rfl rfl ts_34 rfl (Yv rfl) rfl (We rfl) rfl (Ym (Vn hn) rfl)) ex0) ?_
  refine dopx_nil ?_
  refine Vi ?_
  refine Vf ?_
  obtain ⟨x9, h10, hF⟩ := Yt hF
  refine Va (rd_mvF rfl) rfl ?_
  refine Vj (Yu (ps := [((n + 6), ⟨34, 5, [.agg [.int .i64 x9.Time, .sl (n + 2) 1 0 (x1).length, .sl (n + 3) 1 0 (x3).length, .sl (n + 4) 1 0 (x5).length, .sl (n + 5) 1 0 (x7).length]], 1⟩), ((n + 2), ⟨3, 1, Wa (Wb .i64) x9.States, 1⟩), ((n + 3), ⟨3, 1, Wa (Wb .i64) x9.Since, 1⟩), ((n + 4), ⟨4, 1, Wa Wc x9.Pulled, 1⟩), ((n + 5), ⟨4, 1, Wa Wc x9.Held, 1⟩), (q0, ⟨3, 1, [.int .i64 pc10], w0⟩), (q1, ⟨27, 1, [.vs 2 (Wa T_Belt.enc pc11)], w1⟩)]) (r := .tup []) (os := []) (low1 := (setL low0 [(q0, ⟨3, 1, [.int .i64 pc10], w0⟩), (q1, ⟨27, 1, [.vs 2 (Wa T_Belt.enc pc11)], w1⟩)])) (loc1 := [⟨34, 5, [.agg [.int .i64 p0.Time, .vs 1 (Wa (Wb .i64) p0.States), .vs 1 (Wa (Wb .i64) p0.Since), .vs 1 (Wa Wc p0.Pulled), .vs 1 (Wa Wc p0.Held)]], 0⟩, ⟨34, 5, [.agg [.int .i64 0, .nils, .nils, .nils, .nils]], 0⟩, ⟨3, 1, Wa (Wb .i64) x9.States, 1⟩, ⟨3, 1, Wa (Wb .i64) x9.Since, 1⟩, ⟨4, 1, Wa Wc x9.Pulled, 1⟩, ⟨4, 1, Wa Wc x9.Held, 1⟩, ⟨34, 5, [.agg [.int .i64 x9.Time, .sl (n + 2) 1 0 (x1).length, .sl (n + 3) 1 0 (x3).length, .sl (n + 4) 1 0 (x5).length, .sl (n + 5) 1 0 (x7).length]], 1⟩]) (loc2 := [⟨34, 5, [.agg [.int .i64 p0.Time, .vs 1 (Wa (Wb .i64) p0.States), .vs 1 (Wa (Wb .i64) p0.Since), .vs 1 (Wa Wc p0.Pulled), .vs 1 (Wa Wc p0.Held)]], 0⟩, ⟨34, 5, [.agg [.int .i64 0, .nils, .nils, .nils, .nils]], 0⟩, ⟨3, 1, Wa (Wb .i64) x9.States, 1⟩, ⟨3, 1, Wa (Wb .i64) x9.Since, 1⟩, ⟨4, 1, Wa Wc x9.Pulled, 1⟩, ⟨4, 1, Wa Wc x9.Held, 1⟩, ⟨34, 5, [.agg [.int .i64 x9.Time, .sl (n + 2) 1 0 (x1).length, .sl (n + 3) 1 0 (x3).length, .sl (n + 4) 1 0 (x5).length, .sl (n + 5) 1 0 (x7).length]], 1⟩]) rfl Try.call34 (F_belts_Wait_1_ok h10 (nd1 (Zb (Yc rfl) (Zb (Yc rfl) (Zb (Yc rfl) (Zb (Yc rfl) (Zb (Ya hq0) (Zb (Ya hq1) na0)))))) (nd1 (Zb (Yc rfl) (Zb (Yc rfl) (Zb (Yc rfl) (Zb (Ya hq0) (Zb (Ya hq1) na0))))) (nd1 (Zb (Yc rfl) (Zb (Yc rfl) (Zb (Ya hq0) (Zb (Ya hq1) na0)))) (nd1 (Zb (Yc rfl) (Zb (Ya hq0) (Zb (Ya hq1) na0))) (nd1 (Zb (Ya hq0) (Zb (Ya hq1) na0)) (nd1 (Zb (hB.ne 0 1 rfl rfl rfl) na0) (nd1 na0 nd0))))))) (rfl : (x1).length = _) (rfl : (x3).length = _) (rfl : (x5).length = _) (rfl : (x7).length = _) (Zd (Vn hn) rfl) (Zd (Vn hn) rfl) (Zd (Vn hn) rfl) (Zd (Vn hn) rfl) (Zd (Vn hn) rfl) (get_B hB rfl 0 rfl) (get_B hB rfl 1 rfl) (Xc (Vn hn) rfl)) (Xu (loc2 := [⟨34, 5, [.agg [.int .i64 p0.Time, .vs 1 (Wa (Wb .i64) p0.States), .vs 1 (Wa (Wb .i64) p0.Since), .vs 1 (Wa Wc p0.Pulled), .vs 1 (Wa Wc p0.Held)]], 0⟩, ⟨34, 5, [.agg [.int .i64 0, .nils, .nils, .nils, .nils]], 0⟩, ⟨3, 1, Wa (Wb .i64) x1, 1⟩, ⟨3, 1, Wa (Wb .i64) x3, 1⟩, ⟨4, 1, Wa Wc x5, 1⟩, ⟨4, 1, Wa Wc x7, 1⟩, ⟨34, 5, [.agg [.int .i64 x9.Time, .sl (n + 2) 1 0 (x1).length, .sl (n + 3) 1 0 (x3).length, .sl (n + 4) 1 0 (x5).length, .sl (n + 5) 1 0 (x7).length]], 1⟩]) (Vn hn) 6 rfl (Xu (loc2 := [⟨34, 5, [.agg [.int .i64 p0.Time, .vs 1 (Wa (Wb .i64) p0.States), .vs 1 (Wa (Wb .i64) p0.Since), .vs 1 (Wa Wc p0.Pulled), .vs 1 (Wa Wc p0.Held)]], 0⟩, ⟨34, 5, [.agg [.int .i64 0, .nils, .nils, .nils, .nils]], 0⟩, ⟨3, 1, Wa (Wb .i64) x9.States, 1⟩, ⟨3, 1, Wa (Wb .i64) x3, 1⟩, ⟨4, 1, Wa Wc x5, 1⟩, ⟨4, 1, Wa Wc x7, 1⟩, ⟨34, 5, [.agg [.int .i64 x9.Time, .sl (n + 2) 1 0 (x1).length, .sl (n + 3) 1 0 (x3).length, .sl (n + 4) 1 0 (x5).length, .sl (n + 5) 1 0 (x7).length]], 1⟩]) (Vn hn) 2 rfl (Xu (loc2 := [⟨34, 5, [.agg [.int .i64 p0.Time, .vs 1 (Wa (Wb .i64) p0.States), .vs 1 (Wa (Wb .i64) p0.Since), .vs 1 (Wa Wc p0.Pulled), .vs 1 (Wa Wc p0.Held)]], 0⟩, ⟨34, 5, [.agg [.int .i64 0, .nils, .nils, .nils, .nils]], 0⟩, ⟨3, 1, Wa (Wb .i64) x9.States, 1⟩, ⟨3, 1, Wa (Wb .i64) x9.Since, 1⟩, ⟨4, 1, Wa Wc x5, 1⟩, ⟨4, 1, Wa Wc x7, 1⟩, ⟨34, 5, [.agg [.int .i64 x9.Time, .sl (n + 2) 1 0 (x1).length, .sl (n + 3) 1 0 (x3).length, .sl (n + 4) 1 0 (x5).length, .sl (n + 5) 1 0 (x7).length]], 1⟩]) (Vn hn) 3 rfl (Xu (loc2 := [⟨34, 5, [.agg [.int .i64 p0.Time, .vs 1 (Wa (Wb .i64) p0.States), .vs 1 (Wa (Wb .i64) p0.Since), .vs 1 (Wa Wc p0.Pulled), .vs 1 (Wa Wc p0.Held)]], 0⟩, ⟨34, 5, [.agg [.int .i64 0, .nils, .nils, .nils, .nils]], 0⟩, ⟨3, 1, Wa (Wb .i64) x9.States, 1⟩, ⟨3, 1, Wa (Wb .i64) x9.Since, 1⟩, ⟨4, 1, Wa Wc x9.Pulled, 1⟩, ⟨4, 1, Wa Wc x7, 1⟩, ⟨34, 5, [.agg [.int .i64 x9.Time, .sl (n + 2) 1 0 (x1).length, .sl (n + 3) 1 0 (x3).length, .sl (n + 4) 1 0 (x5).length, .sl (n + 5) 1 0 (x7).length]], 1⟩]) (Vn hn) 4 rfl (Xu (loc2 := [⟨34, 5, [.agg [.int .i64 p0.Time, .vs 1 (Wa (Wb .i64) p0.States), .vs 1 (Wa (Wb .i64) p0.Since), .vs 1 (Wa Wc p0.Pulled), .vs 1 (Wa Wc p0.Held)]], 0⟩, ⟨34, 5, [.agg [.int .i64 0, .nils, .nils, .nils, .nils]], 0⟩, ⟨3, 1, Wa (Wb .i64) x9.States, 1⟩, ⟨3, 1, Wa (Wb .i64) x9.Since, 1⟩, ⟨4, 1, Wa Wc x9.Pulled, 1⟩, ⟨4, 1, Wa Wc x9.Held, 1⟩, ⟨34, 5, [.agg [.int .i64 x9.Time, .sl (n + 2) 1 0 (x1).length, .sl (n + 3) 1 0 (x3).length, .sl (n + 4) 1 0 (x5).length, .sl (n + 5) 1 0 (x7).length]], 1⟩]) (Vn hn) 5 rfl (Zq (ps0' := [(q0, ⟨3, 1, [.int .i64 pc10], w0⟩), (q1, ⟨27, 1, [.vs 2 (Wa T_Belt.enc pc11)], w1⟩)]) hB rfl 0 rfl (ltObjN hn ⟨.int _ _, trivial⟩) rfl (Zq (ps0' := [(q0, ⟨3, 1, [.int .i64 pc10], w0⟩), (q1, ⟨27, 1, [.vs 2 (Wa T_Belt.enc pc11)], w1⟩)]) hB rfl 1 rfl (ltObjN hn ⟨.vs _ _, trivial⟩) rfl Za))))))) rfl) rfl ?_
  refine Vh ?_
  refine Vi ?_
  refine Vf ?_
  refine Va (Xk (ds := [.int .i64 x9.Time, .sl (n + 2) 1 0 (x1).length, .sl (n + 3) 1 0 (x3).length, .sl (n + 4) 1 0 (x5).length, .sl (n + 5) 1 0 (x7).length]) rfl (Vg (Vn hn) rfl) rfl ta_34 ts_34 rfl rfl rfl) rfl ?_
  refine Vj (Xo (p := .agg [.int .i64 x9.Time, .sl (n + 2) 1 0 (x1).length, .sl (n + 3) 1 0 (x3).length, .sl (n + 4) 1 0 (x5).length, .sl (n + 5) 1 0 (x7).length]) (e' := .agg [.int .i64 x9.Time, .sl (n + 2) 1 0 (x1).length, .sl (n + 3) 1 0 (x3).length, .sl (n + 4) 1 0 (x5).length, .sl (n + 5) 1 0 (x7).length]) rfl (Vg (Vn hn) rfl) rfl rfl ts_34 rfl (Yv rfl) rfl (We rfl) rfl (Ym (Vn hn) rfl)) rfl ?_
  refine Vh ?_
  refine Xj ?_
  obtain rfl := Wd hF
  refine fnR ?_
  refine Weak.trans (Vt (E' := [(4, .ptr (n + 1) 0 0 0)]) (loc1 := [⟨34, 5, [.agg [.int .i64 p0.Time, .vs 1 (Wa (Wb .i64) p0.States), .vs 1 (Wa (Wb .i64) p0.Since), .vs 1 (Wa Wc p0.Pulled), .vs 1 (Wa Wc p0.Held)]], 0⟩, ⟨34, 5, [.agg [.int .i64 x9.Time, .sl (n + 2) 1 0 (x1).length, .sl (n + 3) 1 0 (x3).length, .sl (n + 4) 1 0 (x5).length, .vs 1 (Wa Wc x9.Held)]], 0⟩, ⟨3, 1, Wa (Wb .i64) x9.States, 1⟩, ⟨3, 1, Wa (Wb .i64) x9.Since, 1⟩, ⟨4, 1, Wa Wc x9.Pulled, 1⟩, ⟨4, 1, [], 1 + 1⟩, ⟨34, 5, [.agg [.int .i64 x9.Time, .sl (n + 2) 1 0 (x1).length, .sl (n + 3) 1 0 (x3).length, .sl (n + 4) 1 0 (x5).length, .vs 1 (Wa Wc x9.Held)]], 1⟩]) (Vn hn) 5 rfl (Yf (fun _ => .bool _)) ⟨Vd rfl, trivial⟩ ⟨.refl _, Xs ⟨Vd rfl, Vd rfl, Vd rfl, Vd rfl, Yq rfl rfl rfl (Xb (F_belts_Wait_1_len h10 (rfl : (x1).length = _) (rfl : (x3).length = _) (rfl : (x5).length = _) (rfl : (x7).length = _)).2.2.2.1), trivial⟩, .refl _, .refl _, .refl _, .refl _, Xs ⟨Vd rfl, Vd rfl, Vd rfl, Vd rfl, Yq rfl rfl rfl (Xb (F_belts_Wait_1_len h10 (rfl : (x1).length = _) (rfl : (x3).length = _) (rfl : (x5).length = _) (rfl : (x7).length = _)).2.2.2.1), trivial⟩, trivial⟩) ?_
  exact Vw (Vn hn) [(2, 1), (3, 1), (4, 1), (1, 0)] (by decide) ⟨Yl 3 1 rfl rfl, trivial⟩ ⟨⟨_, rfl, rfl, .same _ _ _ _ (Vk (fun _ => .int _ _))⟩, ⟨_, rfl, rfl, .same _ _ _ _ (Vk (fun _ => .int _ _))⟩, ⟨_, rfl, rfl, .same _ _ _ _ (Vk (fun _ => .bool _))⟩, ⟨_, rfl, rfl, .agg _ _ _ _ _ ⟨Vs rfl (.int _ _), Zr 0 2 rfl (congrArg (PV.sl _ _ 0) (F_belts_Wait_1_len h10 (rfl : (x1).length = _) (rfl : (x3).length = _) (rfl : (x5).length = _) (rfl : (x7).length = _)).1), Zr 1 3 rfl (congrArg (PV.sl _ _ 0) (F_belts_Wait_1_len h10 (rfl : (x1).length = _) (rfl : (x3).length = _) (rfl : (x5).length = _) (rfl : (x7).length = _)).2.1), Zr 2 4 rfl (congrArg (PV.sl _ _ 0) (F_belts_Wait_1_len h10 (rfl : (x1).length = _) (rfl : (x3).length = _) (rfl : (x5).length = _) (rfl : (x7).length = _)).2.2.1), Vs rfl (.vs _ _), trivial⟩⟩, trivial⟩
 ·rintro _ _ _ _ ⟨he, hw⟩
  refine ⟨_, _, _, hw, ?_⟩
  exact Zz (Vn hn) 3 rfl (We rfl) he [.agg [.int .i64 r.Time, .sl (n + 0) 0 0 (r.States).length, .sl (n + 1) 0 0 (r.Since).length, .sl (n + 2) 0 0 (r.Pulled).length, .vs 1 (Wa Wc r.Held)]] ⟨Xk rfl (Vg (Vn hn) rfl) rfl ta_34 ts_34 rfl rfl rfl, trivial⟩ ((Xl ⟨.int _ _, .sl _ _ _ _ (lt_kk rfl), .sl _ _ _ _ (lt_kk rfl), .sl _ _ _ _ (lt_kk rfl), .vs _ _, trivial⟩)) ⟨Vk (fun _ => .int _ _), Vk (fun _ => .int _ _), Vk (fun _ => .bool _), trivial⟩ ⟨rfl, rfl⟩

theorem F_belts_done__belts_Wait_1_ok {p0 : T_Line} {pc10 : Int} {pc11 : List T_Belt} {r : T_Line} (hF : F_belts_done__belts_Wait_1 p0 pc10 pc11 = some r) {low : List AObj} {q0 q1 w0 w1 : Nat} (hnd : [q0, q1].Nodup) (hq0 : low[q0]? = some ⟨3, 1, [.int .i64 pc10], w0⟩) (hq1 : low[q1]? = some ⟨27, 1, [.vs 2 (Wa T_Belt.enc pc11)], w1⟩) {n : Nat} (hn : low.length = n) :
    Yk Try.prog 31 [.agg [.int .i64 p0.Time, .vs 1 (Wa (Wb .i64) p0.States), .vs 1 (Wa (Wb .i64) p0.Since), .vs 1 (Wa Wc p0.Pulled), .vs 1 (Wa Wc p0.Held)], .fn 34 [] [.ptr q0 w0 0 0, .ptr q1 w1 0 0]] low fun x low' => x = .agg [.int .i64 r.Time, .sl (n + 0) 0 0 (r.States).length, .sl (n + 1) 0 0 (r.Since).length, .sl (n + 2) 0 0 (r.Pulled).length, .vs 1 (Wa Wc r.Held)] ∧ low' = setL low [(q0, ⟨3, 1, [.int .i64 pc10], w0⟩), (q1, ⟨27, 1, [.vs 2 (Wa T_Belt.enc pc11)], w1⟩)] ++ [⟨3, 1, Wa (Wb .i64) r.States, 0⟩, ⟨3, 1, Wa (Wb .i64) r.Since, 0⟩, ⟨4, 1, Wa Wc r.Pulled, 0⟩] := by
  obtain ⟨h1, h2⟩ := Zn (ps := [(q0, ⟨3, 1, [.int .i64 pc10], w0⟩), (q1, ⟨27, 1, [.vs 2 (Wa T_Belt.enc pc11)], w1⟩)]) hnd (Zl hq0 (Zl hq1 bor0))
  exact Zf h1 (F_belts_done__belts_Wait_1_ok0 hF h2 hn)

theorem F_belts_Wait_ok {p0 : List T_Belt} {p1 : T_Line} {p2 : Int} {r : T_Line × Int} (hF : F_belts_Wait p0 p1 p2 = some r) (low : List AObj) {n : Nat} (hn : low.length = n) :
    Yk Try.prog 14 [.vs 2 (Wa T_Belt.enc p0), .agg [.int .i64 p1.Time, .vs 1 (Wa (Wb .i64) p1.States), .vs 1 (Wa (Wb .i64) p1.Since), .vs 1 (Wa Wc p1.Pulled), .vs 1 (Wa Wc p1.Held)], .int .i64 p2] low fun x low' => x = .tup [.agg [.int .i64 r.1.Time, .vs 1 (Wa (Wb .i64) r.1.States), .vs 1 (Wa (Wb .i64) r.1.Since), .vs 1 (Wa Wc r.1.Pulled), .vs 1 (Wa Wc r.1.Held)], .int .i64 r.2] ∧ low' = low ++ [] := by
 refine Vz (nt := 24) (rs := [.cell 6 34, .tmp 7]) Try.func14 rfl rfl (We rfl) rfl ?_
 refine Vx (Q' := FnE (fun E' lw lc => Xv E' lw lc [(6, .ptr (n + 0) 0 0 0), (7, .int .i64 r.2)] low [⟨34, 5, [.agg [.int .i64 r.1.Time, .vs 1 (Wa (Wb .i64) r.1.States), .vs 1 (Wa (Wb .i64) r.1.Since), .vs 1 (Wa Wc r.1.Pulled), .vs 1 (Wa Wc r.1.Held)]], 0⟩])) ?_ ?_
 ·unfold F_belts_Wait at hF
  refine Vi ?_
  refine Vf ?_
  refine Vj (Yx hn rfl (v := .vs 2 (Wa T_Belt.enc p0)) rfl rfl (Wf _) rfl rfl) rfl ?_
  refine Vj (Yx hn rfl (v := .agg [.int .i64 p1.Time, .vs 1 (Wa (Wb .i64) p1.States), .vs 1 (Wa (Wb .i64) p1.Since), .vs 1 (Wa Wc p1.Pulled), .vs 1 (Wa Wc p1.Held)]) rfl rfl (Wf _) rfl rfl) rfl ?_
  refine Vj (Yx hn rfl (v := .int .i64 p2) rfl rfl (Wf _) rfl rfl) rfl ?_
  refine Vj (Xi hn rfl tz_34 rfl rfl (Wf _) rfl) rfl ?_
  refine Va (Xr rfl) rfl ?_
  refine Vh ?_
  refine Vi ?_
  refine Yp ?_
  refine Vi ?_
  refine Vf ?_
  obtain ⟨x1, h2, hF⟩ := Yt hF
  refine Va (Ve rfl (Vg hn rfl) rfl ta_27 rfl) rfl ?_
  refine Va (Xk (ds := [.int .i64 p1.Time, .vs 1 (Wa (Wb .i64) p1.States), .vs 1 (Wa (Wb .i64) p1.Since), .vs 1 (Wa Wc p1.Pulled), .vs 1 (Wa Wc p1.Held)]) rfl (Vg hn rfl) rfl ta_34 ts_34 rfl rfl rfl) rfl ?_
  refine Vj (Xt rfl Try.call28 (F_belts_Valid_ok h2 _)) rfl ?_
  refine Va (Zo rfl) rfl ?_
  refine Va (Yd rfl) rfl ?_
  refine Vh ?_
  refine Xq rfl (fun c3 => ?_) (fun c3 => ?_)
  ·have hF := Yr c3 hF
   refine Vi ?_
   refine Vf ?_
   refine Va (Xk (ds := [.int .i64 p1.Time, .vs 1 (Wa (Wb .i64) p1.States), .vs 1 (Wa (Wb .i64) p1.Since), .vs 1 (Wa Wc p1.Pulled), .vs 1 (Wa Wc p1.Held)]) rfl (Vg hn rfl) rfl ta_34 ts_34 rfl rfl rfl) rfl ?_
   refine Vj (Xo (p := .agg [.int .i64 p1.Time, .vs 1 (Wa (Wb .i64) p1.States), .vs 1 (Wa (Wb .i64) p1.Since), .vs 1 (Wa Wc p1.Pulled), .vs 1 (Wa Wc p1.Held)]) (e' := .agg [.int .i64 p1.Time, .vs 1 (Wa (Wb .i64) p1.States), .vs 1 (Wa (Wb .i64) p1.Since), .vs 1 (Wa Wc p1.Pulled), .vs 1 (Wa Wc p1.Held)]) rfl (Vg hn rfl) rfl rfl ts_34 rfl (Yv rfl) rfl (We rfl) rfl (Ym hn rfl)) rfl ?_
   refine Va (Xr rfl) rfl ?_
   refine Vh ?_
   refine Xj ?_
   obtain rfl := Wd hF
   refine fnR ?_
   exact Vw hn [(3, 0)] (by decide) ⟨Yl 0 3 rfl rfl, Vs rfl (.int _ _), trivial⟩ ⟨⟨_, rfl, rfl, .same _ _ _ _ (Xd ⟨Xl ⟨.int _ _, .vs _ _, .vs _ _, .vs _ _, .vs _ _, trivial⟩, trivial⟩)⟩, trivial⟩
  ·have hF := Ys c3 hF
   refine Vi ?_
   refine Vf ?_
   obtain ⟨x4, h5, hF⟩ := Yt hF
   refine Va (Ve rfl (Vg hn rfl) rfl ta_3 rfl) rfl ?_
   refine Va (Vc rfl tf_34_0 ts_3 (by decide)) rfl ?_
   refine Va (Ve rfl (Vg hn rfl) rfl ta_3 rfl) rfl ?_
   refine Vj (Xt rfl Try.call33 (F_lists_In_ok h5 _)) rfl ?_
   refine Va (Zo rfl) rfl ?_
   refine Va (Yd rfl) rfl ?_
   refine Vh ?_
   refine Xq rfl (fun c6 => ?_) (fun c6 => ?_)
   ·have hF := Yr c6 hF
    refine Vi ?_
    refine Vf ?_
    refine Va (Xk (ds := [.int .i64 p1.Time, .vs 1 (Wa (Wb .i64) p1.States), .vs 1 (Wa (Wb .i64) p1.Since), .vs 1 (Wa Wc p1.Pulled), .vs 1 (Wa Wc p1.Held)]) rfl (Vg hn rfl) rfl ta_34 ts_34 rfl rfl rfl) rfl ?_
    refine Vj (Xo (p := .agg [.int .i64 p1.Time, .vs 1 (Wa (Wb .i64) p1.States), .vs 1 (Wa (Wb .i64) p1.Since), .vs 1 (Wa Wc p1.Pulled), .vs 1 (Wa Wc p1.Held)]) (e' := .agg [.int .i64 p1.Time, .vs 1 (Wa (Wb .i64) p1.States), .vs 1 (Wa (Wb .i64) p1.Since), .vs 1 (Wa Wc p1.Pulled), .vs 1 (Wa Wc p1.Held)]) rfl (Vg hn rfl) rfl rfl ts_34 rfl (Yv rfl) rfl (We rfl) rfl (Ym hn rfl)) rfl ?_
    refine Va (Xr rfl) rfl ?_
    refine Vh ?_
    refine Xj ?_
    obtain rfl := Wd hF
    refine fnR ?_
    exact Vw hn [(3, 0)] (by decide) ⟨Yl 0 3 rfl rfl, Vs rfl (.int _ _), trivial⟩ ⟨⟨_, rfl, rfl, .same _ _ _ _ (Xd ⟨Xl ⟨.int _ _, .vs _ _, .vs _ _, .vs _ _, .vs _ _, trivial⟩, trivial⟩)⟩, trivial⟩
   ·have hF := Ys c6 hF
    refine Xy ?_
    refine Vi ?_
    refine Vf ?_
    obtain ⟨x7, h8, hF⟩ := Yt hF
    refine Va (Xk (ds := [.int .i64 p1.Time, .vs 1 (Wa (Wb .i64) p1.States), .vs 1 (Wa (Wb .i64) p1.Since), .vs 1 (Wa Wc p1.Pulled), .vs 1 (Wa Wc p1.Held)]) rfl (Vg hn rfl) rfl ta_34 ts_34 rfl rfl rfl) rfl ?_
    refine Va (rd_makeFn rfl) rfl ?_
    refine Vj (Yu (ps := [((n + 2), ⟨3, 1, [.int .i64 p2], 0⟩), ((n + 0), ⟨27, 1, [.vs 2 (Wa T_Belt.enc p0)], 0⟩)]) (r := .agg [.int .i64 x7.Time, .sl (n + 4) 0 0 (x7.States).length, .sl (n + 5) 0 0 (x7.Since).length, .sl (n + 6) 0 0 (x7.Pulled).length, .vs 1 (Wa Wc x7.Held)]) (os := [⟨3, 1, Wa (Wb .i64) x7.States, 0⟩, ⟨3, 1, Wa (Wb .i64) x7.Since, 0⟩, ⟨4, 1, Wa Wc x7.Pulled, 0⟩]) (low1 := low) (loc1 := [⟨27, 1, [.vs 2 (Wa T_Belt.enc p0)], 0⟩, ⟨34, 5, [.agg [.int .i64 p1.Time, .vs 1 (Wa (Wb .i64) p1.States), .vs 1 (Wa (Wb .i64) p1.Since), .vs 1 (Wa Wc p1.Pulled), .vs 1 (Wa Wc p1.Held)]], 0⟩, ⟨3, 1, [.int .i64 p2], 0⟩, ⟨34, 5, [.agg [.int .i64 0, .nils, .nils, .nils, .nils]], 0⟩]) (loc2 := [⟨27, 1, [.vs 2 (Wa T_Belt.enc p0)], 0⟩, ⟨34, 5, [.agg [.int .i64 p1.Time, .vs 1 (Wa (Wb .i64) p1.States), .vs 1 (Wa (Wb .i64) p1.Since), .vs 1 (Wa Wc p1.Pulled), .vs 1 (Wa Wc p1.Held)]], 0⟩, ⟨3, 1, [.int .i64 p2], 0⟩, ⟨34, 5, [.agg [.int .i64 0, .nils, .nils, .nils, .nils]], 0⟩, ⟨3, 1, Wa (Wb .i64) x7.States, 0⟩, ⟨3, 1, Wa (Wb .i64) x7.Since, 0⟩, ⟨4, 1, Wa Wc x7.Pulled, 0⟩]) rfl Try.call31 (F_belts_done__belts_Wait_1_ok h8 (nd1 (Zb (Yc rfl) na0) (nd1 na0 nd0)) (Zd hn rfl) (Zd hn rfl) (Xc hn rfl)) (Xu (loc2 := [⟨27, 1, [.vs 2 (Wa T_Belt.enc p0)], 0⟩, ⟨34, 5, [.agg [.int .i64 p1.Time, .vs 1 (Wa (Wb .i64) p1.States), .vs 1 (Wa (Wb .i64) p1.Since), .vs 1 (Wa Wc p1.Pulled), .vs 1 (Wa Wc p1.Held)]], 0⟩, ⟨3, 1, [.int .i64 p2], 0⟩, ⟨34, 5, [.agg [.int .i64 0, .nils, .nils, .nils, .nils]], 0⟩]) hn 2 rfl (Xu (loc2 := [⟨27, 1, [.vs 2 (Wa T_Belt.enc p0)], 0⟩, ⟨34, 5, [.agg [.int .i64 p1.Time, .vs 1 (Wa (Wb .i64) p1.States), .vs 1 (Wa (Wb .i64) p1.Since), .vs 1 (Wa Wc p1.Pulled), .vs 1 (Wa Wc p1.Held)]], 0⟩, ⟨3, 1, [.int .i64 p2], 0⟩, ⟨34, 5, [.agg [.int .i64 0, .nils, .nils, .nils, .nils]], 0⟩]) hn 0 rfl Za)) rfl) rfl ?_
    refine Vj (Xo (p := .agg [.int .i64 x7.Time, .sl (n + 4) 0 0 (x7.States).length, .sl (n + 5) 0 0 (x7.Since).length, .sl (n + 6) 0 0 (x7.Pulled).length, .vs 1 (Wa Wc x7.Held)]) (e' := .agg [.int .i64 x7.Time, .sl (n + 4) 0 0 (x7.States).length, .sl (n + 5) 0 0 (x7.Since).length, .sl (n + 6) 0 0 (x7.Pulled).length, .vs 1 (Wa Wc x7.Held)]) rfl (Vg hn rfl) rfl rfl ts_34 rfl (Yv rfl) rfl (We rfl) rfl (Ym hn rfl)) rfl ?_
    refine Va (Xr rfl) rfl ?_
    refine Vh ?_
    refine Xj ?_
    obtain rfl := Wd hF
    refine fnR ?_
    refine Weak.trans (Vt (E' := [(6, .ptr (n + 3) 0 0 0), (7, .int .i64 0)]) (loc1 := [⟨27, 1, [.vs 2 (Wa T_Belt.enc p0)], 0⟩, ⟨34, 5, [.agg [.int .i64 p1.Time, .vs 1 (Wa (Wb .i64) p1.States), .vs 1 (Wa (Wb .i64) p1.Since), .vs 1 (Wa Wc p1.Pulled), .vs 1 (Wa Wc p1.Held)]], 0⟩, ⟨3, 1, [.int .i64 p2], 0⟩, ⟨34, 5, [.agg [.int .i64 x7.Time, .vs 1 (Wa (Wb .i64) x7.States), .sl (n + 5) 0 0 (x7.Since).length, .sl (n + 6) 0 0 (x7.Pulled).length, .vs 1 (Wa Wc x7.Held)]], 0⟩, ⟨3, 1, [], 0 + 1⟩, ⟨3, 1, Wa (Wb .i64) x7.Since, 0⟩, ⟨4, 1, Wa Wc x7.Pulled, 0⟩]) hn 4 rfl (Yf (fun _ => .int _ _)) ⟨Vd rfl, Vd rfl, trivial⟩ ⟨.refl _, .refl _, .refl _, Xs ⟨Vd rfl, Yq rfl rfl rfl (Xb rfl), Vd rfl, Vd rfl, Vd rfl, trivial⟩, .refl _, .refl _, .refl _, trivial⟩) ?_
    refine Weak.trans (Vt (E' := [(6, .ptr (n + 3) 0 0 0), (7, .int .i64 0)]) (loc1 := [⟨27, 1, [.vs 2 (Wa T_Belt.enc p0)], 0⟩, ⟨34, 5, [.agg [.int .i64 p1.Time, .vs 1 (Wa (Wb .i64) p1.States), .vs 1 (Wa (Wb .i64) p1.Since), .vs 1 (Wa Wc p1.Pulled), .vs 1 (Wa Wc p1.Held)]], 0⟩, ⟨3, 1, [.int .i64 p2], 0⟩, ⟨34, 5, [.agg [.int .i64 x7.Time, .vs 1 (Wa (Wb .i64) x7.States), .vs 1 (Wa (Wb .i64) x7.Since), .sl (n + 6) 0 0 (x7.Pulled).length, .vs 1 (Wa Wc x7.Held)]], 0⟩, ⟨3, 1, [], 0 + 1⟩, ⟨3, 1, [], 0 + 1⟩, ⟨4, 1, Wa Wc x7.Pulled, 0⟩]) hn 5 rfl (Yf (fun _ => .int _ _)) ⟨Vd rfl, Vd rfl, trivial⟩ ⟨.refl _, .refl _, .refl _, Xs ⟨Vd rfl, Vd rfl, Yq rfl rfl rfl (Xb rfl), Vd rfl, Vd rfl, trivial⟩, .refl _, .refl _, .refl _, trivial⟩) ?_
    refine Weak.trans (Vt (E' := [(6, .ptr (n + 3) 0 0 0), (7, .int .i64 0)]) (loc1 := [⟨27, 1, [.vs 2 (Wa T_Belt.enc p0)], 0⟩, ⟨34, 5, [.agg [.int .i64 p1.Time, .vs 1 (Wa (Wb .i64) p1.States), .vs 1 (Wa (Wb .i64) p1.Since), .vs 1 (Wa Wc p1.Pulled), .vs 1 (Wa Wc p1.Held)]], 0⟩, ⟨3, 1, [.int .i64 p2], 0⟩, ⟨34, 5, [.agg [.int .i64 x7.Time, .vs 1 (Wa (Wb .i64) x7.States), .vs 1 (Wa (Wb .i64) x7.Since), .vs 1 (Wa Wc x7.Pulled), .vs 1 (Wa Wc x7.Held)]], 0⟩, ⟨3, 1, [], 0 + 1⟩, ⟨3, 1, [], 0 + 1⟩, ⟨4, 1, [], 0 + 1⟩]) hn 6 rfl (Yf (fun _ => .bool _)) ⟨Vd rfl, Vd rfl, trivial⟩ ⟨.refl _, .refl _, .refl _, Xs ⟨Vd rfl, Vd rfl, Vd rfl, Yq rfl rfl rfl (Xb rfl), Vd rfl, trivial⟩, .refl _, .refl _, .refl _, trivial⟩) ?_
    exact Vw hn [(3, 0)] (by decide) ⟨Yl 0 3 rfl rfl, Vs rfl (.int _ _), trivial⟩ ⟨⟨_, rfl, rfl, .same _ _ _ _ (Xd ⟨Xl ⟨.int _ _, .vs _ _, .vs _ _, .vs _ _, .vs _ _, trivial⟩, trivial⟩)⟩, trivial⟩
 ·rintro _ _ _ _ ⟨he, hw⟩
  refine ⟨_, _, _, hw, ?_⟩
  exact Zz hn 0 rfl (We rfl) he [.agg [.int .i64 r.1.Time, .vs 1 (Wa (Wb .i64) r.1.States), .vs 1 (Wa (Wb .i64) r.1.Since), .vs 1 (Wa Wc r.1.Pulled), .vs 1 (Wa Wc r.1.Held)], .int .i64 r.2] ⟨Xk rfl (Vg hn rfl) rfl ta_34 ts_34 rfl rfl rfl, rfl, trivial⟩ ((lt_tup ⟨(Xl ⟨.int _ _, .vs _ _, .vs _ _, .vs _ _, .vs _ _, trivial⟩), .int _ _, trivial⟩)) trivial ⟨rfl, rfl⟩

theorem F_belts_throws_ok {p0 : List T_Belt} {p1 : Int} {p2 : Int} {r : Bool} (hF : F_belts_throws p0 p1 p2 = some r) (low : List AObj) :
    Yk Try.prog 39 [.vs 2 (Wa T_Belt.enc p0), .int .i64 p1, .int .i64 p2] low fun x low' => x = .bool r ∧ low' = low := by
 refine Vz (nt := 23) (rs := [.tmp 6]) Try.func39 rfl rfl (We rfl) rfl ?_
 refine Vx (Q' := FnE (fun E' lw lc => Xv E' lw lc [(6, .bool r)] low [])) ?_ ?_
 ·unfold F_belts_throws at hF
  refine Vi ?_
  refine Vf ?_
  refine Va (Yd rfl) rfl ?_
  refine Vh ?_
  refine Vi ?_
  refine Vi ?_
  refine Vf ?_
  obtain ⟨x1, h2, hF⟩ := Yt hF
  refine Va (Xw rfl) rfl ?_
  refine Va (Vm rfl) rfl ?_
  refine Va (Xp (Yn rfl rfl h2 te_27 ts_31) (v' := .vptr [.int .i64 x1.Onto, .int .i64 x1.Warn] 0) rfl) rfl ?_
  refine Va (Zv rfl tf_31_0 ts_3 (by decide)) rfl ?_
  refine Va (Xm rfl ta_3 rfl) rfl ?_
  refine Va (Xr rfl) rfl ?_
  refine Vh ?_
  refine Yp ?_
  obtain ⟨o4, ho4, hF⟩ := Yt hF
  refine Vx (vwp_loopC (F_belts_throws_L1 p0 p2) (fun s3 E' lw lc => Xv E' lw lc [(0, .vs 2 (Wa T_Belt.enc p0)), (2, .int .i64 p2), (7, .int .i64 s3)] low []) (Sum.elim (fun j5 => OnlyE .ret (fun E' lw lc => Xv E' lw lc [(6, .bool true)] low [])) (fun j6 => OnlyE (.exit 0) (fun E' lw lc => Xv E' lw lc [] low []))) ho4 ?_ (by rintro (_|_) _ _ _ ⟨h, _⟩ <;> cases h) ?_) ?_
  ·exact Vq ⟨rfl, rfl, rfl, trivial⟩
  ·rintro s3 os3 _ _ _ hF hw
   unfold F_belts_throws_L1 at hF
   refine Xz hw ?_
   refine Vi ?_
   refine Vi ?_
   refine Vf ?_
   refine Va (Vm rfl) rfl ?_
   refine Va (rd_geq rfl rfl) rfl ?_
   refine Vh ?_
   refine Xq rfl (fun c7 => ?_) (fun c7 => ?_)
   ·have hF := Yr c7 hF
    refine Xy ?_
    refine Vi ?_
    refine Yp ?_
    refine Vi ?_
    refine Vf ?_
    refine Va (Vm rfl) rfl ?_
    refine Va (Vm rfl) rfl ?_
    refine Va (Xe rfl rfl) rfl ?_
    refine Vh ?_
    refine Xq rfl (fun c8 => ?_) (fun c8 => ?_)
    ·have hF := Yr c8 hF
     refine Vi ?_
     refine Vf ?_
     refine Va (Yd rfl) rfl ?_
     refine Vh ?_
     refine Xj ?_
     obtain rfl := Wd hF
     refine Ye ?_
     exact Vq ⟨rfl, trivial⟩
    ·have hF := Ys c8 hF
     refine Xy ?_
     refine Vf ?_
     obtain ⟨x9, h10, hF⟩ := Yt hF
     refine Va (Xw rfl) rfl ?_
     refine Va (Vm rfl) rfl ?_
     refine Va (Xp (Yn rfl rfl h10 te_27 ts_31) (v' := .vptr [.int .i64 x9.Onto, .int .i64 x9.Warn] 0) rfl) rfl ?_
     refine Va (Zv rfl tf_31_0 ts_3 (by decide)) rfl ?_
     refine Va (Xm rfl ta_3 rfl) rfl ?_
     refine Va (Xr rfl) rfl ?_
     refine Vh ?_
     obtain rfl := Wd hF
     refine Ye ?_
     exact Vq ⟨rfl, rfl, rfl, trivial⟩
   ·have hF := Ys c7 hF
    refine vwp_exit ?_
    obtain rfl := Wd hF
    refine Ye ?_
    exact Vq trivial
  ·rcases o4 with j5 | j6
   ·replace hF := elimL hF
    rintro _ _ _ _ ⟨rfl, hw⟩
    refine ⟨_, _, _, hw, ?_⟩
    obtain rfl := Wd hF
    refine fnR ?_
    exact Vq ⟨rfl, trivial⟩
   ·replace hF := elimR hF
    rintro _ _ _ _ ⟨rfl, hw⟩
    refine ⟨_, _, _, hw, ?_⟩
    refine Vi ?_
    refine Vf ?_
    refine Va (Yd rfl) rfl ?_
    refine Vh ?_
    refine Xj ?_
    obtain rfl := Wd hF
    refine fnR ?_
    exact Vq ⟨rfl, trivial⟩
 ·rintro _ _ _ _ ⟨he, hw⟩
  refine ⟨_, _, _, hw, ?_⟩
  exact Yw he [.bool r] ⟨rfl, trivial⟩ (.bool _) ⟨rfl, rfl⟩

end Go.Proofs.Ytmomjhbinkmefaa
