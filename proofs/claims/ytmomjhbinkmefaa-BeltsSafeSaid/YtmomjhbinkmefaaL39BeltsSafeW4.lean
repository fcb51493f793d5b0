/- Printed by wip/lift/lift.py: the walks that show that the program computes them. -/
import Derived.Test.YtmomjhbinkmefaaL39BeltsSafeW3
namespace Go.Proofs.Ytmomjhbinkmefaa
open Go Go.Aml Go.L
attribute [local irreducible] VRd VEf VOp VOps VWp DOps
set_option linter.unusedVariables false
open Go.Aml renaming vops_rd → Va, vops_skip → Vb, rd_fieldAddr → Vc, cv_same → Vd, rd_load1 → Ve, vwp_region → Vf, getO_N → Vg, vops_nil → Vh, vwp_seq → Vi, vops_efE → Vj, ltObj_map → Vk, rd_mvB → Vl, rd_mvI → Vm, lenS → Vn, rd_pickT → Vo, rd_pickF → Vp, weak_sub → Vq, vef_into → Vr, rn_low → Vs, weak_freezeN → Vt, dops_skip → Vu, dops_skipX → Vv, weak_pick → Vw, vwp_monoW → Vx, len_setL → Vy, vcalls_of_body → Vz, VRd → Xa, full_take → Xb, len_app → Xc, ltObj_es → Xd, rd_eql → Xe, vef_callN → Xf, rx1 → Xg, vt1 → Xh, vef_allocN → Xi, vwp_ret → Xj, rd_loadN → Xk, lt_agg → Xl, rd_loadV1 → Xm, dopx_rd → Xn, vef_store → Xo, rd_to → Xp, vwp_cond → Xq, rd_asI → Xr, cvo_agg → Xs, vef_callP → Xt, sets_own → Xu, Weak → Xv, rd_mvV → Xw, rd_lenV → Xx, vwp_skip → Xy, vwp_weak → Xz, ne_low' → Ya, getO_B → Yb, ne_own → Yc, rd_asB → Yd, onlyE → Ye, lt_map → Yf, allx1 → Yg, rd_extract → Yh, mv_sl → Yi, weak_room → Yj, VCalls → Yk, rn_ptr → Yl, setO_N → Ym, rd_ixV → Yn, dopx_ef → Yo, vwp_block → Yp, cv_sl → Yq, bifT → Yr, bifF → Ys, bnd → Yt, vef_callS → Yu, nt_ne → Yv, bodyQ_pure → Yw, vef_boxN → Yx, all1 → Yy, vef_mkN → Yz, sets_nil → Za, na1 → Zb, rd_nilPtr → Zc, get_N → Zd, dr1 → Ze, vcalls_low → Zf, rd_neq → Zg, dops_nil → Zh, rd_mvP → Zi, getI_some → Zj, dt1 → Zk, borC → Zl, dops_rdW → Zm, bor_start → Zn, rd_not → Zo, mv_ptr → Zp, sets_B → Zq, rn_sl → Zr, ex1 → Zs, rd_build → Zt, vwp_drawn0 → Zu, rd_fieldVaddr → Zv, lp_some → Zw, neT → Zx, lp_bindE → Zy, bodyQ_some → Zz
open List renaming map → Wa
open Go.Aml.PV renaming int → Wb
open Go.Aml.PV renaming bool → Wc
open Option.some renaming inj → Wd
open Nat renaming le_of_ble_eq_true → We
open Nat renaming succ_pos → Wf
open Bool renaming eq_false_or_eq_true → Wg
open List renaming length_map → Wh
set_option maxHeartbeats 4000000

theorem F_law39_BeltsSafe_ok {p0 : List Int} {r : Bool} (hF : F_law39_BeltsSafe p0 = some r) (low : List AObj) :
    Yk Try.prog 6 [.vs 1 (Wa (Wb .i64) p0)] low fun x low' => x = .bool r ∧ low' = low := by
 refine Vz (nt := 270) (rs := [.tmp 2]) Try.func6 rfl rfl (We rfl) rfl ?_
 refine Vx (Q' := FnE (fun E' lw lc => Xv E' lw lc [(2, .bool r)] low [])) ?_ ?_
 ·unfold F_law39_BeltsSafe at hF
  refine Vi ?_
  refine Vf ?_
  refine Va (Yd rfl) rfl ?_
  refine Vh ?_
  refine Vi ?_
  refine Vi ?_
  refine Vf ?_
  obtain ⟨x1, h2, hF⟩ := Yt hF
  refine Va (Xw rfl) rfl ?_
  refine Vj (Xt rfl Try.call7 (F_made_Light_ok h2 _)) rfl ?_
  refine Va (Zo rfl) rfl ?_
  refine Vh ?_
  refine Xq rfl (fun c3 => ?_) (fun c3 => ?_)
  ·have hF := Yr c3 hF
   refine Vi ?_
   refine Vf ?_
   obtain ⟨x4, h5, hF⟩ := Yt hF
   refine Vj (Xt rfl Try.call8 (F_law39_awake_ok h5 _)) rfl ?_
   refine Va (Yd rfl) rfl ?_
   refine Vh ?_
   refine Xj ?_
   obtain rfl := Wd hF
   refine fnR ?_
   exact Vq ⟨rfl, trivial⟩
  ·have hF := Ys c3 hF
   refine Xy ?_
   refine Vi ?_
   refine Vf ?_
   obtain ⟨x6, h7, hF⟩ := Yt hF
   refine Va (Xw rfl) rfl ?_
   refine Vj (Xf (r := .ptr (low.length + 0) 0 0 0) (os := [⟨53, 2, [.agg [.vs 1 (Wa (Wb .i64) x6.L), .int .i64 x6.At]], 0⟩]) rfl Try.call9 (F_made_Roll_ok h7 _ (Xc rfl rfl))) rfl ?_
   refine Va (rd_asP rfl) rfl ?_
   refine Vh ?_
   refine Vi ?_
   refine Vf ?_
   refine Vj (vef_nilsN rfl rfl 31 2 (Wf _) (rd_asN rfl)) rfl ?_
   refine Vh ?_
   refine Vi ?_
   refine Vi ?_
   refine Vf ?_
   obtain ⟨x8, h9, hF⟩ := Yt hF
   refine Va (Zi rfl) rfl ?_
   refine Vj (Yu (ps := [((low.length + 0), ⟨53, 2, [.agg [.vs 1 (Wa (Wb .i64) x8.1.L), .int .i64 x8.1.At]], 0⟩)]) (r := .int .i64 x8.2) (os := []) (low1 := low) (loc1 := [⟨53, 2, [.agg [.vs 1 (Wa (Wb .i64) x8.1.L), .int .i64 x8.1.At]], 0⟩, ⟨31, 2, Wa T_Belt.enc ([] : List T_Belt), 0⟩]) (loc2 := [⟨53, 2, [.agg [.vs 1 (Wa (Wb .i64) x8.1.L), .int .i64 x8.1.At]], 0⟩, ⟨31, 2, Wa T_Belt.enc ([] : List T_Belt), 0⟩]) rfl Try.call10 (F_made_Dice_Next_ok h9 (nd1 na0 nd0) (Zd rfl rfl) (Xc rfl rfl)) (Xu (loc2 := [⟨53, 2, [.agg [.vs 1 (Wa (Wb .i64) x8.1.L), .int .i64 x8.1.At]], 0⟩, ⟨31, 2, Wa T_Belt.enc ([] : List T_Belt), 0⟩]) rfl 0 rfl Za) rfl) rfl ?_
   refine Va (rd_add rfl rfl rfl) rfl ?_
   refine Va (Xr rfl) rfl ?_
   refine Vh ?_
   refine Yp ?_
   obtain ⟨o11, ho11, hF⟩ := Yt hF
   refine Vx (vwp_loopC F_law39_BeltsSafe_L1 (fun s10 E' lw lc => Xv E' lw lc [(3, .ptr (low.length + 0) 0 0 0), (4, .sl (low.length + 1) 0 0 (s10.2.2).length), (5, .int .i64 s10.1)] low [⟨53, 2, [.agg [.vs 1 (Wa (Wb .i64) s10.2.1.L), .int .i64 s10.2.1.At]], 0⟩, ⟨31, 2, Wa T_Belt.enc s10.2.2, 0⟩]) (fun o11 => OnlyE (.exit 0) (fun E' lw lc => Xv E' lw lc [(3, .ptr (low.length + 0) 0 0 0), (4, .sl (low.length + 1) 0 0 (o11.2).length)] low [⟨53, 2, [.agg [.vs 1 (Wa (Wb .i64) o11.1.L), .int .i64 o11.1.At]], 0⟩, ⟨31, 2, Wa T_Belt.enc o11.2, 0⟩])) ho11 ?_ (by rintro _ _ _ _ ⟨h, _⟩ <;> cases h) ?_) ?_
   ·exact Vq ⟨rfl, rfl, rfl, trivial⟩
   ·rintro s10 os10 _ _ _ hF hw
    unfold F_law39_BeltsSafe_L1 at hF
    refine Xz hw ?_
    refine Vi ?_
    refine Vi ?_
    refine Vf ?_
    refine Va (Vm rfl) rfl ?_
    refine Va (rd_gtr rfl rfl) rfl ?_
    refine Vh ?_
    refine Xq rfl (fun c12 => ?_) (fun c12 => ?_)
    ·have hF := Yr c12 hF
     refine Xy ?_
     refine Vi ?_
     refine Yp ?_
     refine Vf ?_
     obtain ⟨x13, h14, hF⟩ := Yt hF
     obtain ⟨x15, h16, hF⟩ := Yt hF
     obtain ⟨x17, h18, hF⟩ := Yt hF
     refine Va (rd_mvL rfl) rfl ?_
     refine Va (Zi rfl) rfl ?_
     refine Va (rd_mvL rfl) rfl ?_
     refine Va (rd_lenS rfl (Vg rfl rfl) rfl rfl te_27) rfl ?_
     refine Va (rd_add rfl rfl rfl) rfl ?_
     refine Vj (Yu (ps := [((low.length + 0), ⟨53, 2, [.agg [.vs 1 (Wa (Wb .i64) x13.1.L), .int .i64 x13.1.At]], 0⟩)]) (r := .int .i64 x13.2) (os := []) (low1 := low) (loc1 := [⟨53, 2, [.agg [.vs 1 (Wa (Wb .i64) x13.1.L), .int .i64 x13.1.At]], 0⟩, ⟨31, 2, Wa T_Belt.enc s10.2.2, 0⟩]) (loc2 := [⟨53, 2, [.agg [.vs 1 (Wa (Wb .i64) x13.1.L), .int .i64 x13.1.At]], 0⟩, ⟨31, 2, Wa T_Belt.enc s10.2.2, 0⟩]) rfl Try.call10 (F_made_Dice_Next_ok h14 (nd1 na0 nd0) (Zd rfl rfl) (Xc rfl rfl)) (Xu (loc2 := [⟨53, 2, [.agg [.vs 1 (Wa (Wb .i64) x13.1.L), .int .i64 x13.1.At]], 0⟩, ⟨31, 2, Wa T_Belt.enc s10.2.2, 0⟩]) rfl 0 rfl Za) rfl) rfl ?_
     refine Va (rd_sub rfl rfl rfl) rfl ?_
     refine Va (Zi rfl) rfl ?_
     refine Vj (vef_litF (es := Wa (Wb .i64) [5, 0, 20]) ⟨rfl, rfl, rfl, rfl, rfl, rfl, trivial⟩ rfl rfl (nt_all rfl) te_22 ts_3 tz_3 rfl rfl (Wf _) (by decide) (Yf (fun _ => .int _ _))) rfl ?_
     refine Vj (Yu (ps := [((low.length + 0), ⟨53, 2, [.agg [.vs 1 (Wa (Wb .i64) x15.1.L), .int .i64 x15.1.At]], 0⟩)]) (r := .int .i64 x15.2) (os := []) (low1 := low) (loc1 := [⟨53, 2, [.agg [.vs 1 (Wa (Wb .i64) x15.1.L), .int .i64 x15.1.At]], 0⟩, ⟨31, 2, Wa T_Belt.enc s10.2.2, 0⟩]) (loc2 := [⟨53, 2, [.agg [.vs 1 (Wa (Wb .i64) x15.1.L), .int .i64 x15.1.At]], 0⟩, ⟨31, 2, Wa T_Belt.enc s10.2.2, 0⟩]) rfl Try.call11 (F_made_Dice_Of_ok h16 (nd1 na0 nd0) (Zd rfl rfl) (Xc rfl rfl)) (Xu (loc2 := [⟨53, 2, [.agg [.vs 1 (Wa (Wb .i64) x15.1.L), .int .i64 x15.1.At]], 0⟩, ⟨31, 2, Wa T_Belt.enc s10.2.2, 0⟩]) rfl 0 rfl Za) rfl) rfl ?_
     refine Va (Zt (vs := [(0, .int .i64 (IntKind.i64.wrap (x13.2 - 1))), (1, .int .i64 x15.2)]) (ds := [.int .i64 (IntKind.i64.wrap (x13.2 - 1)), .int .i64 x15.2]) tz_31 rfl rfl tp_31 ⟨rfl, rfl, rfl, rfl, trivial⟩ (nt_all2 rfl) rfl) rfl ?_
     refine Vj (vef_litF (es := Wa T_Belt.enc [(T_Belt.mk (IntKind.i64.wrap (x13.2 - 1)) x15.2)]) ⟨rfl, rfl, trivial⟩ rfl rfl (nt_all rfl) te_27 ts_31 tz_31 rfl rfl (Wf _) (by decide) (Yf T_Belt.enc_lt)) rfl ?_
     refine Vj (vef_apL (f := T_Belt.enc) (l := s10.2.2) (ys := [(T_Belt.mk (IntKind.i64.wrap (x13.2 - 1)) x15.2)]) rfl rfl (Vg rfl rfl) rfl (src_vs rfl) te_27 ts_31 tb_31 (by decide) tz_31 rfl h18 (Ym rfl rfl)) rfl ?_
     refine Va (rd_asL rfl) rfl ?_
     refine Vh ?_
     refine Vf ?_
     refine Va (Vm rfl) rfl ?_
     refine Va (rd_sub rfl rfl rfl) rfl ?_
     refine Va (Xr rfl) rfl ?_
     refine Vh ?_
     obtain rfl := Wd hF
     refine Ye ?_
     exact Vw rfl [(0, 0), (1, 0 + 1)] (by decide) ⟨Yl 0 0 rfl rfl, Zr 1 1 rfl rfl, Vs rfl (.int _ _), trivial⟩ ⟨⟨_, rfl, rfl, .same _ _ _ _ (Xd ⟨Xl ⟨.vs _ _, .int _ _, trivial⟩, trivial⟩)⟩, ⟨_, rfl, rfl, .same _ _ _ _ (Vk T_Belt.enc_lt)⟩, trivial⟩
    ·have hF := Ys c12 hF
     refine vwp_exit ?_
     obtain rfl := Wd hF
     refine Ye ?_
     exact Vq ⟨rfl, rfl, trivial⟩
   ·rintro _ _ _ _ ⟨rfl, hw⟩
    refine ⟨_, _, _, hw, ?_⟩
    refine Vi ?_
    refine Vf ?_
    obtain ⟨x19, h20, hF⟩ := Yt hF
    refine Va (rd_mvL rfl) rfl ?_
    refine vops_weak (Vt (E' := [(3, .ptr (low.length + 0) 0 0 0), (4, .vs 2 (Wa T_Belt.enc o11.2)), (43, .vs 2 (Wa T_Belt.enc o11.2))]) (loc1 := [⟨53, 2, [.agg [.vs 1 (Wa (Wb .i64) o11.1.L), .int .i64 o11.1.At]], 0⟩, ⟨31, 2, [], 0 + 1⟩]) rfl 1 rfl (Yf T_Belt.enc_lt) ⟨Vd rfl, Yq rfl rfl rfl (Xb rfl), Yq rfl rfl rfl (Xb rfl), trivial⟩ ⟨.refl _, .refl _, trivial⟩) ?_
    refine Vj (Xt rfl Try.call12 (F_belts_Make_ok h20 _)) rfl ?_
    refine Va (rd_mvT rfl) rfl ?_
    refine Va (Yh rfl rfl) rfl ?_
    refine Va (Yh rfl rfl) rfl ?_
    refine Vj (Xi rfl rfl tz_34 rfl rfl (Wf _) rfl) rfl ?_
    refine Vj (Xo (p := .agg [.int .i64 x19.1.Time, .vs 1 (Wa (Wb .i64) x19.1.States), .vs 1 (Wa (Wb .i64) x19.1.Since), .vs 1 (Wa Wc x19.1.Pulled), .vs 1 (Wa Wc x19.1.Held)]) (e' := .agg [.int .i64 x19.1.Time, .vs 1 (Wa (Wb .i64) x19.1.States), .vs 1 (Wa (Wb .i64) x19.1.Since), .vs 1 (Wa Wc x19.1.Pulled), .vs 1 (Wa Wc x19.1.Held)]) rfl (Vg rfl rfl) rfl rfl ts_34 rfl (Yv rfl) rfl (We rfl) rfl (Ym rfl rfl)) rfl ?_
    refine Va (Xr rfl) rfl ?_
    refine Vh ?_
    refine Vi ?_
    refine Vi ?_
    refine Vf ?_
    refine Va (Vc rfl tf_34_1 ts_22 (by decide)) rfl ?_
    refine Va (Ve rfl (Vg rfl rfl) rfl ta_22 rfl) rfl ?_
    refine Va (Xp (Xx rfl rfl te_22) (congrArg (fun n : Nat => Wb .i64 (n : Int)) (Wh _))) rfl ?_
    refine Va (Xw rfl) rfl ?_
    refine Va (Xp (Xx rfl rfl te_27) (congrArg (fun n : Nat => Wb .i64 (n : Int)) (Wh _))) rfl ?_
    refine Va (Zg rfl rfl) rfl ?_
    refine Vh ?_
    refine Xq rfl (fun c21 => ?_) (fun c21 => ?_)
    ·have hF := Yr c21 hF
     refine Vi ?_
     refine Vf ?_
     refine Va (Yd rfl) rfl ?_
     refine Vh ?_
     refine Xj ?_
     obtain rfl := Wd hF
     refine fnR ?_
     exact Vw rfl [] (by decide) ⟨Vs rfl (.bool _), trivial⟩ trivial
    ·have hF := Ys c21 hF
     refine Xy ?_
     refine Vi ?_
     refine Vf ?_
     obtain ⟨x22, h23, hF⟩ := Yt hF
     refine Va (Xw rfl) rfl ?_
     refine Va (Xp (Xx rfl rfl te_27) (congrArg (fun n : Nat => Wb .i64 (n : Int)) (Wh _))) rfl ?_
     refine Vj (Yz (f := (Wb .i64)) (zz := 0) rfl rfl rfl rfl te_22 ts_3 tb_3 (by decide) tz_3 rfl rfl (Wf _) rfl h23) rfl ?_
     refine Va (rd_asL rfl) rfl ?_
     refine Vh ?_
     refine Vi ?_
     refine Vi ?_
     refine Vf ?_
     refine Va (Xr rfl) rfl ?_
     refine Vh ?_
     refine Yp ?_
     obtain ⟨o25, ho25, hF⟩ := Yt hF
     refine Vx (vwp_loopC (F_law39_BeltsSafe_L2 o11) (fun s24 E' lw lc => Xv E' lw lc [(3, .ptr (low.length + 0) 0 0 0), (4, .vs 2 (Wa T_Belt.enc o11.2)), (6, .ptr (low.length + 1) 0 0 0), (7, .int .i64 x19.2), (8, .sl (low.length + 2) 0 0 (s24.2).length), (9, .int .i64 s24.1)] low [⟨53, 2, [.agg [.vs 1 (Wa (Wb .i64) o11.1.L), .int .i64 o11.1.At]], 0⟩, ⟨34, 5, [.agg [.int .i64 x19.1.Time, .vs 1 (Wa (Wb .i64) x19.1.States), .vs 1 (Wa (Wb .i64) x19.1.Since), .vs 1 (Wa Wc x19.1.Pulled), .vs 1 (Wa Wc x19.1.Held)]], 0⟩, ⟨3, 1, Wa (Wb .i64) s24.2, 0⟩]) (fun o25 => OnlyE (.exit 2) (fun E' lw lc => Xv E' lw lc [(3, .ptr (low.length + 0) 0 0 0), (4, .vs 2 (Wa T_Belt.enc o11.2)), (6, .ptr (low.length + 1) 0 0 0), (7, .int .i64 x19.2), (8, .sl (low.length + 2) 0 0 (o25).length)] low [⟨53, 2, [.agg [.vs 1 (Wa (Wb .i64) o11.1.L), .int .i64 o11.1.At]], 0⟩, ⟨34, 5, [.agg [.int .i64 x19.1.Time, .vs 1 (Wa (Wb .i64) x19.1.States), .vs 1 (Wa (Wb .i64) x19.1.Since), .vs 1 (Wa Wc x19.1.Pulled), .vs 1 (Wa Wc x19.1.Held)]], 0⟩, ⟨3, 1, Wa (Wb .i64) o25, 0⟩])) ho25 ?_ (by rintro _ _ _ _ ⟨h, _⟩ <;> cases h) ?_) ?_
     ·exact Vw rfl [(0, 0), (2, 0), (3, 0)] (by decide) ⟨Yl 0 0 rfl rfl, Vs rfl (.vs _ _), Yl 1 2 rfl rfl, Vs rfl (.int _ _), Zr 2 3 rfl rfl, Vs rfl (.int _ _), trivial⟩ ⟨⟨_, rfl, rfl, .same _ _ _ _ (Xd ⟨Xl ⟨.vs _ _, .int _ _, trivial⟩, trivial⟩)⟩, ⟨_, rfl, rfl, .same _ _ _ _ (Xd ⟨Xl ⟨.int _ _, .vs _ _, .vs _ _, .vs _ _, .vs _ _, trivial⟩, trivial⟩)⟩, ⟨_, rfl, rfl, .same _ _ _ _ (Vk (fun _ => .int _ _))⟩, trivial⟩
     ·rintro s24 os24 _ _ _ hF hw
      unfold F_law39_BeltsSafe_L2 at hF
      refine Xz hw ?_
      refine Vi ?_
      refine Vi ?_
      refine Vf ?_
      refine Va (Vm rfl) rfl ?_
      refine Va (Xw rfl) rfl ?_
      refine Va (Xp (Xx rfl rfl te_27) (congrArg (fun n : Nat => Wb .i64 (n : Int)) (Wh _))) rfl ?_
      refine Va (rd_lss rfl rfl) rfl ?_
      refine Vh ?_
      refine Xq rfl (fun c26 => ?_) (fun c26 => ?_)
      ·have hF := Yr c26 hF
       refine Xy ?_
       refine Vi ?_
       refine Yp ?_
       refine Vf ?_
       obtain ⟨x27, h28, hF⟩ := Yt hF
       refine Va (rd_mvL rfl) rfl ?_
       refine Va (Vm rfl) rfl ?_
       refine Va (rd_ixS rfl rfl rfl (Vg rfl rfl) h28 te_22 ts_3) rfl ?_
       refine Vj (vef_stL (p := .int .i64 (-1)) (e' := (-1)) rfl (Vg rfl rfl) (Zj h28).2 rfl ts_3 rfl (Yv rfl) (We rfl) rfl (Ym rfl rfl)) rfl ?_
       refine Vh ?_
       refine Vf ?_
       refine Va (Vm rfl) rfl ?_
       refine Va (rd_add rfl rfl rfl) rfl ?_
       refine Va (Xr rfl) rfl ?_
       refine Vh ?_
       obtain rfl := Wd hF
       refine Ye ?_
       exact Vw rfl [(0, 0), (1, 0), (2, 0)] (by decide) ⟨Yl 0 0 rfl rfl, Vs rfl (.vs _ _), Yl 1 1 rfl rfl, Vs rfl (.int _ _), Zr 2 2 rfl (congrArg (PV.sl _ _ 0) (Eq.trans rfl List.length_set.symm)), Vs rfl (.int _ _), trivial⟩ ⟨⟨_, rfl, rfl, .same _ _ _ _ (Xd ⟨Xl ⟨.vs _ _, .int _ _, trivial⟩, trivial⟩)⟩, ⟨_, rfl, rfl, .same _ _ _ _ (Xd ⟨Xl ⟨.int _ _, .vs _ _, .vs _ _, .vs _ _, .vs _ _, trivial⟩, trivial⟩)⟩, ⟨_, rfl, rfl, .same _ _ _ _ (Vk (fun _ => .int _ _))⟩, trivial⟩
      ·have hF := Ys c26 hF
       refine vwp_exit ?_
       obtain rfl := Wd hF
       refine Ye ?_
       exact Vq ⟨rfl, rfl, rfl, rfl, rfl, trivial⟩
     ·rintro _ _ _ _ ⟨rfl, hw⟩
      refine ⟨_, _, _, hw, ?_⟩
      refine Vi ?_
      refine Vi ?_
      refine Vf ?_
      obtain ⟨x29, h30, hF⟩ := Yt hF
      refine Va (Zi rfl) rfl ?_
      refine Vj (Yu (ps := [((low.length + 0), ⟨53, 2, [.agg [.vs 1 (Wa (Wb .i64) x29.1.L), .int .i64 x29.1.At]], 0⟩)]) (r := .int .i64 x29.2) (os := []) (low1 := low) (loc1 := [⟨53, 2, [.agg [.vs 1 (Wa (Wb .i64) x29.1.L), .int .i64 x29.1.At]], 0⟩, ⟨34, 5, [.agg [.int .i64 x19.1.Time, .vs 1 (Wa (Wb .i64) x19.1.States), .vs 1 (Wa (Wb .i64) x19.1.Since), .vs 1 (Wa Wc x19.1.Pulled), .vs 1 (Wa Wc x19.1.Held)]], 0⟩, ⟨3, 1, Wa (Wb .i64) o25, 0⟩]) (loc2 := [⟨53, 2, [.agg [.vs 1 (Wa (Wb .i64) x29.1.L), .int .i64 x29.1.At]], 0⟩, ⟨34, 5, [.agg [.int .i64 x19.1.Time, .vs 1 (Wa (Wb .i64) x19.1.States), .vs 1 (Wa (Wb .i64) x19.1.Since), .vs 1 (Wa Wc x19.1.Pulled), .vs 1 (Wa Wc x19.1.Held)]], 0⟩, ⟨3, 1, Wa (Wb .i64) o25, 0⟩]) rfl Try.call10 (F_made_Dice_Next_ok h30 (nd1 na0 nd0) (Zd rfl rfl) (Xc rfl rfl)) (Xu (loc2 := [⟨53, 2, [.agg [.vs 1 (Wa (Wb .i64) x29.1.L), .int .i64 x29.1.At]], 0⟩, ⟨34, 5, [.agg [.int .i64 x19.1.Time, .vs 1 (Wa (Wb .i64) x19.1.States), .vs 1 (Wa (Wb .i64) x19.1.Since), .vs 1 (Wa Wc x19.1.Pulled), .vs 1 (Wa Wc x19.1.Held)]], 0⟩, ⟨3, 1, Wa (Wb .i64) o25, 0⟩]) rfl 0 rfl Za) rfl) rfl ?_
      refine Va (Xr rfl) rfl ?_
      refine Vh ?_
      refine Yp ?_
      obtain ⟨o32, ho32, hF⟩ := Yt hF
      refine Vx (vwp_loopC (F_law39_BeltsSafe_L3 o11 x19) (fun s31 E' lw lc => Xv E' lw lc [(3, .ptr (low.length + 0) 0 0 0), (4, .vs 2 (Wa T_Belt.enc o11.2)), (6, .ptr (low.length + 1) 0 0 0), (7, .int .i64 x19.2), (8, .sl (low.length + 2) 0 0 (s31.2.2.2).length), (10, .int .i64 s31.1)] low [⟨53, 2, [.agg [.vs 1 (Wa (Wb .i64) s31.2.1.L), .int .i64 s31.2.1.At]], 0⟩, ⟨34, 5, [.agg [.int .i64 s31.2.2.1.Time, .vs 1 (Wa (Wb .i64) s31.2.2.1.States), .vs 1 (Wa (Wb .i64) s31.2.2.1.Since), .vs 1 (Wa Wc s31.2.2.1.Pulled), .vs 1 (Wa Wc s31.2.2.1.Held)]], 0⟩, ⟨3, 1, Wa (Wb .i64) s31.2.2.2, 0⟩]) (Sum.elim (fun j33 => OnlyE .ret (fun E' lw lc => Xv E' lw lc [(2, .bool false)] low [])) (fun j34 => OnlyE (.exit 4) (fun E' lw lc => Xv E' lw lc [(7, .int .i64 x19.2)] low []))) ho32 ?_ (by rintro (_|_) _ _ _ ⟨h, _⟩ <;> cases h) ?_) ?_
      ·exact Vq ⟨rfl, rfl, rfl, rfl, rfl, rfl, trivial⟩
      ·rintro s31 os31 _ _ _ hF hw
       unfold F_law39_BeltsSafe_L3 at hF
       refine Xz hw ?_
       refine Vi ?_
       refine Vi ?_
       obtain ⟨o35, ho35, hF⟩ := Yt hF
       refine Vx (Q' := (fun o35 => OnlyE .normal (fun E' lw lc => Xv E' lw lc [(3, .ptr (low.length + 0) 0 0 0), (4, .vs 2 (Wa T_Belt.enc o11.2)), (6, .ptr (low.length + 1) 0 0 0), (7, .int .i64 x19.2), (8, .sl (low.length + 2) 0 0 (s31.2.2.2).length), (10, .int .i64 s31.1), (72, .bool o35)] low [⟨53, 2, [.agg [.vs 1 (Wa (Wb .i64) s31.2.1.L), .int .i64 s31.2.1.At]], 0⟩, ⟨34, 5, [.agg [.int .i64 s31.2.2.1.Time, .vs 1 (Wa (Wb .i64) s31.2.2.1.States), .vs 1 (Wa (Wb .i64) s31.2.2.1.Since), .vs 1 (Wa Wc s31.2.2.1.Pulled), .vs 1 (Wa Wc s31.2.2.1.Held)]], 0⟩, ⟨3, 1, Wa (Wb .i64) s31.2.2.2, 0⟩])) o35) ?_ ?_
       ·replace hF := ho35
        refine Vf ?_
        rcases Wg (decide (0 < s31.1)) with c36 | c36
        ·have hF := Yr c36 hF
         refine Va (Vm rfl) rfl ?_
         refine Va (rd_gtr rfl rfl) rfl ?_
         refine Va (Vl rfl) rfl ?_
         refine Xh rfl rfl c36 ?_
         refine Va (Vm rfl) rfl ?_
         refine Xh rfl rfl c36 ?_
         refine Va (Xe rfl rfl) rfl ?_
         refine Va (Vo (congrArg Wc c36) rfl) rfl ?_
         refine Vh ?_
         obtain rfl := Wd hF
         refine Ye ?_
         exact Vq ⟨rfl, rfl, rfl, rfl, rfl, rfl, rfl, trivial⟩
        ·have hF := Ys c36 hF
         refine Va (Vm rfl) rfl ?_
         refine Va (rd_gtr rfl rfl) rfl ?_
         refine Va (Vl rfl) rfl ?_
         refine Vb rfl rfl (neF c36) rfl ?_
         refine Vb rfl rfl (neF c36) rfl ?_
         refine Va (Vp (congrArg Wc c36) rfl) rfl ?_
         refine Vh ?_
         obtain rfl := Wd hF
         refine Ye ?_
         exact Vq ⟨rfl, rfl, rfl, rfl, rfl, rfl, rfl, trivial⟩
       ·rintro _ _ _ _ ⟨rfl, hw⟩
        refine ⟨_, _, _, hw, ?_⟩
        refine Xq rfl (fun c37 => ?_) (fun c37 => ?_)
        ·have hF := Yr c37 hF
         refine Xy ?_
         refine Vi ?_
         refine Yp ?_
         refine Vi ?_
         refine Vf ?_
         obtain ⟨x38, h39, hF⟩ := Yt hF
         refine Va (Zi rfl) rfl ?_
         refine Va (Xw rfl) rfl ?_
         refine Va (Xp (Xx rfl rfl te_27) (congrArg (fun n : Nat => Wb .i64 (n : Int)) (Wh _))) rfl ?_
         refine Vj (Yu (ps := [((low.length + 0), ⟨53, 2, [.agg [.vs 1 (Wa (Wb .i64) x38.1.L), .int .i64 x38.1.At]], 0⟩)]) (r := .int .i64 x38.2) (os := []) (low1 := low) (loc1 := [⟨53, 2, [.agg [.vs 1 (Wa (Wb .i64) x38.1.L), .int .i64 x38.1.At]], 0⟩, ⟨34, 5, [.agg [.int .i64 s31.2.2.1.Time, .vs 1 (Wa (Wb .i64) s31.2.2.1.States), .vs 1 (Wa (Wb .i64) s31.2.2.1.Since), .vs 1 (Wa Wc s31.2.2.1.Pulled), .vs 1 (Wa Wc s31.2.2.1.Held)]], 0⟩, ⟨3, 1, Wa (Wb .i64) s31.2.2.2, 0⟩]) (loc2 := [⟨53, 2, [.agg [.vs 1 (Wa (Wb .i64) x38.1.L), .int .i64 x38.1.At]], 0⟩, ⟨34, 5, [.agg [.int .i64 s31.2.2.1.Time, .vs 1 (Wa (Wb .i64) s31.2.2.1.States), .vs 1 (Wa (Wb .i64) s31.2.2.1.Since), .vs 1 (Wa Wc s31.2.2.1.Pulled), .vs 1 (Wa Wc s31.2.2.1.Held)]], 0⟩, ⟨3, 1, Wa (Wb .i64) s31.2.2.2, 0⟩]) rfl Try.call10 (F_made_Dice_Next_ok h39 (nd1 na0 nd0) (Zd rfl rfl) (Xc rfl rfl)) (Xu (loc2 := [⟨53, 2, [.agg [.vs 1 (Wa (Wb .i64) x38.1.L), .int .i64 x38.1.At]], 0⟩, ⟨34, 5, [.agg [.int .i64 s31.2.2.1.Time, .vs 1 (Wa (Wb .i64) s31.2.2.1.States), .vs 1 (Wa (Wb .i64) s31.2.2.1.Since), .vs 1 (Wa Wc s31.2.2.1.Pulled), .vs 1 (Wa Wc s31.2.2.1.Held)]], 0⟩, ⟨3, 1, Wa (Wb .i64) s31.2.2.2, 0⟩]) rfl 0 rfl Za) rfl) rfl ?_
         refine Va (Xr rfl) rfl ?_
         refine Vh ?_
         refine Vi ?_
         refine Vf ?_
         obtain ⟨x40, h41, hF⟩ := Yt hF
         refine Va (Xk (ds := [.int .i64 s31.2.2.1.Time, .vs 1 (Wa (Wb .i64) s31.2.2.1.States), .vs 1 (Wa (Wb .i64) s31.2.2.1.Since), .vs 1 (Wa Wc s31.2.2.1.Pulled), .vs 1 (Wa Wc s31.2.2.1.Held)]) rfl (Vg rfl rfl) rfl ta_34 ts_34 rfl rfl rfl) rfl ?_
         refine Vj (Xf (r := .agg [.int .i64 x40.Time, .sl (low.length + 3) 0 0 (x40.States).length, .sl (low.length + 4) 0 0 (x40.Since).length, .sl (low.length + 5) 0 0 (x40.Pulled).length, .sl (low.length + 6) 0 0 (x40.Held).length]) (os := [⟨3, 1, Wa (Wb .i64) x40.States, 0⟩, ⟨3, 1, Wa (Wb .i64) x40.Since, 0⟩, ⟨4, 1, Wa Wc x40.Pulled, 0⟩, ⟨4, 1, Wa Wc x40.Held, 0⟩]) rfl Try.call23 (F_ref39_Copy_ok h41 _ (Xc rfl rfl))) rfl ?_
         refine Vj (Xi rfl rfl tz_34 rfl rfl (Wf _) rfl) rfl ?_
         refine Vj (Xo (p := .agg [.int .i64 x40.Time, .sl (low.length + 3) 0 0 (x40.States).length, .sl (low.length + 4) 0 0 (x40.Since).length, .sl (low.length + 5) 0 0 (x40.Pulled).length, .sl (low.length + 6) 0 0 (x40.Held).length]) (e' := .agg [.int .i64 x40.Time, .sl (low.length + 3) 0 0 (x40.States).length, .sl (low.length + 4) 0 0 (x40.Since).length, .sl (low.length + 5) 0 0 (x40.Pulled).length, .sl (low.length + 6) 0 0 (x40.Held).length]) rfl (Vg rfl rfl) rfl rfl ts_34 rfl (Yv rfl) rfl (We rfl) rfl (Ym rfl rfl)) rfl ?_
         refine Vh ?_
         refine Vi ?_
         refine Vi ?_
         refine Vf ?_
         obtain ⟨x42, h43, hF⟩ := Yt hF
         refine Va (Zi rfl) rfl ?_
         refine Vj (vef_litF (es := Wa (Wb .i64) [0, 0, 1, 1, 2, 3, 4, 5]) ⟨rfl, rfl, rfl, rfl, rfl, rfl, rfl, rfl, rfl, rfl, rfl, rfl, rfl, rfl, rfl, rfl, trivial⟩ rfl rfl (nt_all rfl) te_22 ts_3 tz_3 rfl rfl (Wf _) (by decide) (Yf (fun _ => .int _ _))) rfl ?_
         refine Vj (Yu (ps := [((low.length + 0), ⟨53, 2, [.agg [.vs 1 (Wa (Wb .i64) x42.1.L), .int .i64 x42.1.At]], 0⟩)]) (r := .int .i64 x42.2) (os := []) (low1 := low) (loc1 := [⟨53, 2, [.agg [.vs 1 (Wa (Wb .i64) x42.1.L), .int .i64 x42.1.At]], 0⟩, ⟨34, 5, [.agg [.int .i64 s31.2.2.1.Time, .vs 1 (Wa (Wb .i64) s31.2.2.1.States), .vs 1 (Wa (Wb .i64) s31.2.2.1.Since), .vs 1 (Wa Wc s31.2.2.1.Pulled), .vs 1 (Wa Wc s31.2.2.1.Held)]], 0⟩, ⟨3, 1, Wa (Wb .i64) s31.2.2.2, 0⟩, ⟨3, 1, Wa (Wb .i64) x40.States, 0⟩, ⟨3, 1, Wa (Wb .i64) x40.Since, 0⟩, ⟨4, 1, Wa Wc x40.Pulled, 0⟩, ⟨4, 1, Wa Wc x40.Held, 0⟩, ⟨34, 5, [.agg [.int .i64 x40.Time, .sl (low.length + 3) 0 0 (x40.States).length, .sl (low.length + 4) 0 0 (x40.Since).length, .sl (low.length + 5) 0 0 (x40.Pulled).length, .sl (low.length + 6) 0 0 (x40.Held).length]], 0⟩]) (loc2 := [⟨53, 2, [.agg [.vs 1 (Wa (Wb .i64) x42.1.L), .int .i64 x42.1.At]], 0⟩, ⟨34, 5, [.agg [.int .i64 s31.2.2.1.Time, .vs 1 (Wa (Wb .i64) s31.2.2.1.States), .vs 1 (Wa (Wb .i64) s31.2.2.1.Since), .vs 1 (Wa Wc s31.2.2.1.Pulled), .vs 1 (Wa Wc s31.2.2.1.Held)]], 0⟩, ⟨3, 1, Wa (Wb .i64) s31.2.2.2, 0⟩, ⟨3, 1, Wa (Wb .i64) x40.States, 0⟩, ⟨3, 1, Wa (Wb .i64) x40.Since, 0⟩, ⟨4, 1, Wa Wc x40.Pulled, 0⟩, ⟨4, 1, Wa Wc x40.Held, 0⟩, ⟨34, 5, [.agg [.int .i64 x40.Time, .sl (low.length + 3) 0 0 (x40.States).length, .sl (low.length + 4) 0 0 (x40.Since).length, .sl (low.length + 5) 0 0 (x40.Pulled).length, .sl (low.length + 6) 0 0 (x40.Held).length]], 0⟩]) rfl Try.call11 (F_made_Dice_Of_ok h43 (nd1 na0 nd0) (Zd rfl rfl) (Xc rfl rfl)) (Xu (loc2 := [⟨53, 2, [.agg [.vs 1 (Wa (Wb .i64) x42.1.L), .int .i64 x42.1.At]], 0⟩, ⟨34, 5, [.agg [.int .i64 s31.2.2.1.Time, .vs 1 (Wa (Wb .i64) s31.2.2.1.States), .vs 1 (Wa (Wb .i64) s31.2.2.1.Since), .vs 1 (Wa Wc s31.2.2.1.Pulled), .vs 1 (Wa Wc s31.2.2.1.Held)]], 0⟩, ⟨3, 1, Wa (Wb .i64) s31.2.2.2, 0⟩, ⟨3, 1, Wa (Wb .i64) x40.States, 0⟩, ⟨3, 1, Wa (Wb .i64) x40.Since, 0⟩, ⟨4, 1, Wa Wc x40.Pulled, 0⟩, ⟨4, 1, Wa Wc x40.Held, 0⟩, ⟨34, 5, [.agg [.int .i64 x40.Time, .sl (low.length + 3) 0 0 (x40.States).length, .sl (low.length + 4) 0 0 (x40.Since).length, .sl (low.length + 5) 0 0 (x40.Pulled).length, .sl (low.length + 6) 0 0 (x40.Held).length]], 0⟩]) rfl 0 rfl Za) rfl) rfl ?_
         refine Vh ?_
         obtain ⟨o44, ho44, hF⟩ := Yt hF
         refine Vx (Q' := (fun o44 => OnlyE .normal (fun E' lw lc => Xv E' lw lc [(3, .ptr (low.length + 1) 0 0 0), (4, .vs 2 (Wa T_Belt.enc o11.2)), (6, .ptr (low.length + 2) 0 0 0), (7, .int .i64 x19.2), (8, .sl (low.length + 3) 0 0 (o44.2.2.2).length), (10, .int .i64 s31.1), (12, .ptr (low.length + 0) 0 0 0)] low [⟨34, 5, [.agg [.int .i64 o44.1.Time, .vs 1 (Wa (Wb .i64) o44.1.States), .vs 1 (Wa (Wb .i64) o44.1.Since), .vs 1 (Wa Wc o44.1.Pulled), .vs 1 (Wa Wc o44.1.Held)]], 0⟩, ⟨53, 2, [.agg [.vs 1 (Wa (Wb .i64) o44.2.1.L), .int .i64 o44.2.1.At]], 0⟩, ⟨34, 5, [.agg [.int .i64 o44.2.2.1.Time, .vs 1 (Wa (Wb .i64) o44.2.2.1.States), .vs 1 (Wa (Wb .i64) o44.2.2.1.Since), .vs 1 (Wa Wc o44.2.2.1.Pulled), .vs 1 (Wa Wc o44.2.2.1.Held)]], 0⟩, ⟨3, 1, Wa (Wb .i64) o44.2.2.2, 0⟩])) o44) ?_ ?_
         ·replace hF := ho44
          refine Yp ?_
          refine Vi ?_
          refine Vf ?_
          refine Va (Xe rfl rfl) rfl ?_
          refine Va (Yd rfl) rfl ?_
          refine Vh ?_
          refine Xq rfl (fun c45 => ?_) (fun c45 => ?_)
          ·have hF := Yr c45 hF
           refine Vi ?_
           refine Vf ?_
           refine Va (Xr rfl) rfl ?_
           refine Vh ?_
           refine Vi ?_
           refine Vf ?_
           obtain ⟨x46, h47, hF⟩ := Yt hF
           refine Va (Xw rfl) rfl ?_
           refine Va (Xk (ds := [.int .i64 s31.2.2.1.Time, .vs 1 (Wa (Wb .i64) s31.2.2.1.States), .vs 1 (Wa (Wb .i64) s31.2.2.1.Since), .vs 1 (Wa Wc s31.2.2.1.Pulled), .vs 1 (Wa Wc s31.2.2.1.Held)]) rfl (Vg rfl rfl) rfl ta_34 ts_34 rfl rfl rfl) rfl ?_
           refine Va (Vm rfl) rfl ?_
           refine Vj (Xf (r := .tup [.agg [.int .i64 x46.1.Time, .vs 1 (Wa (Wb .i64) x46.1.States), .vs 1 (Wa (Wb .i64) x46.1.Since), .vs 1 (Wa Wc x46.1.Pulled), .vs 1 (Wa Wc x46.1.Held)], .int .i64 x46.2]) (os := []) rfl Try.call13 (F_belts_Start_ok h47 _ (Xc rfl rfl))) rfl ?_
           refine Va (rd_mvT rfl) rfl ?_
           refine Va (Yh rfl rfl) rfl ?_
           refine Va (Yh rfl rfl) rfl ?_
           refine Vj (Xo (p := .agg [.int .i64 x46.1.Time, .vs 1 (Wa (Wb .i64) x46.1.States), .vs 1 (Wa (Wb .i64) x46.1.Since), .vs 1 (Wa Wc x46.1.Pulled), .vs 1 (Wa Wc x46.1.Held)]) (e' := .agg [.int .i64 x46.1.Time, .vs 1 (Wa (Wb .i64) x46.1.States), .vs 1 (Wa (Wb .i64) x46.1.Since), .vs 1 (Wa Wc x46.1.Pulled), .vs 1 (Wa Wc x46.1.Held)]) rfl (Vg rfl rfl) rfl rfl ts_34 rfl (Yv rfl) rfl (We rfl) rfl (Ym rfl rfl)) rfl ?_
           refine Va (Xr rfl) rfl ?_
           refine Vh ?_
           refine Vi ?_
           refine Vf ?_
           refine Va (Vm rfl) rfl ?_
           refine Va (Xe rfl rfl) rfl ?_
           refine Vh ?_
           refine Xq rfl (fun c48 => ?_) (fun c48 => ?_)
           ·have hF := Yr c48 hF
            refine Vf ?_
            obtain ⟨x49, h50, hF⟩ := Yt hF
            refine Va (rd_mvL rfl) rfl ?_
            refine Va (Vm rfl) rfl ?_
            refine Va (Vc rfl tf_34_0 ts_3 (by decide)) rfl ?_
            refine Va (Ve rfl (Vg rfl rfl) rfl ta_3 rfl) rfl ?_
            refine Va (rd_ixS rfl rfl rfl (Vg rfl rfl) h50 te_22 ts_3) rfl ?_
            refine Vj (vef_stL (p := .int .i64 x46.1.Time) (e' := x46.1.Time) rfl (Vg rfl rfl) (Zj h50).2 rfl ts_3 rfl (Yv rfl) (We rfl) rfl (Ym rfl rfl)) rfl ?_
            refine Vh ?_
            obtain rfl := Wd hF
            refine Ye ?_
            refine Weak.trans (Vt (E' := [(3, .ptr (low.length + 0) 0 0 0), (4, .vs 2 (Wa T_Belt.enc o11.2)), (6, .ptr (low.length + 1) 0 0 0), (7, .int .i64 x19.2), (8, .sl (low.length + 2) 0 0 (s31.2.2.2).length), (10, .int .i64 s31.1), (12, .ptr (low.length + 7) 0 0 0)]) (loc1 := [⟨53, 2, [.agg [.vs 1 (Wa (Wb .i64) x42.1.L), .int .i64 x42.1.At]], 0⟩, ⟨34, 5, [.agg [.int .i64 x46.1.Time, .vs 1 (Wa (Wb .i64) x46.1.States), .vs 1 (Wa (Wb .i64) x46.1.Since), .vs 1 (Wa Wc x46.1.Pulled), .vs 1 (Wa Wc x46.1.Held)]], 0⟩, ⟨3, 1, Wa (Wb .i64) (s31.2.2.2.set ((x38.2).toNat) x46.1.Time), 0⟩, ⟨3, 1, [], 0 + 1⟩, ⟨3, 1, Wa (Wb .i64) x40.Since, 0⟩, ⟨4, 1, Wa Wc x40.Pulled, 0⟩, ⟨4, 1, Wa Wc x40.Held, 0⟩, ⟨34, 5, [.agg [.int .i64 x40.Time, .vs 1 (Wa (Wb .i64) x40.States), .sl (low.length + 4) 0 0 (x40.Since).length, .sl (low.length + 5) 0 0 (x40.Pulled).length, .sl (low.length + 6) 0 0 (x40.Held).length]], 0⟩]) rfl 3 rfl (Yf (fun _ => .int _ _)) ⟨Vd rfl, Vd rfl, Vd rfl, Vd rfl, Vd rfl, Vd rfl, Vd rfl, trivial⟩ ⟨.refl _, .refl _, .refl _, .refl _, .refl _, .refl _, .refl _, Xs ⟨Vd rfl, Yq rfl rfl rfl (Xb rfl), Vd rfl, Vd rfl, Vd rfl, trivial⟩, trivial⟩) ?_
            refine Weak.trans (Vt (E' := [(3, .ptr (low.length + 0) 0 0 0), (4, .vs 2 (Wa T_Belt.enc o11.2)), (6, .ptr (low.length + 1) 0 0 0), (7, .int .i64 x19.2), (8, .sl (low.length + 2) 0 0 (s31.2.2.2).length), (10, .int .i64 s31.1), (12, .ptr (low.length + 7) 0 0 0)]) (loc1 := [⟨53, 2, [.agg [.vs 1 (Wa (Wb .i64) x42.1.L), .int .i64 x42.1.At]], 0⟩, ⟨34, 5, [.agg [.int .i64 x46.1.Time, .vs 1 (Wa (Wb .i64) x46.1.States), .vs 1 (Wa (Wb .i64) x46.1.Since), .vs 1 (Wa Wc x46.1.Pulled), .vs 1 (Wa Wc x46.1.Held)]], 0⟩, ⟨3, 1, Wa (Wb .i64) (s31.2.2.2.set ((x38.2).toNat) x46.1.Time), 0⟩, ⟨3, 1, [], 0 + 1⟩, ⟨3, 1, [], 0 + 1⟩, ⟨4, 1, Wa Wc x40.Pulled, 0⟩, ⟨4, 1, Wa Wc x40.Held, 0⟩, ⟨34, 5, [.agg [.int .i64 x40.Time, .vs 1 (Wa (Wb .i64) x40.States), .vs 1 (Wa (Wb .i64) x40.Since), .sl (low.length + 5) 0 0 (x40.Pulled).length, .sl (low.length + 6) 0 0 (x40.Held).length]], 0⟩]) rfl 4 rfl (Yf (fun _ => .int _ _)) ⟨Vd rfl, Vd rfl, Vd rfl, Vd rfl, Vd rfl, Vd rfl, Vd rfl, trivial⟩ ⟨.refl _, .refl _, .refl _, .refl _, .refl _, .refl _, .refl _, Xs ⟨Vd rfl, Vd rfl, Yq rfl rfl rfl (Xb rfl), Vd rfl, Vd rfl, trivial⟩, trivial⟩) ?_
            refine Weak.trans (Vt (E' := [(3, .ptr (low.length + 0) 0 0 0), (4, .vs 2 (Wa T_Belt.enc o11.2)), (6, .ptr (low.length + 1) 0 0 0), (7, .int .i64 x19.2), (8, .sl (low.length + 2) 0 0 (s31.2.2.2).length), (10, .int .i64 s31.1), (12, .ptr (low.length + 7) 0 0 0)]) (loc1 := [⟨53, 2, [.agg [.vs 1 (Wa (Wb .i64) x42.1.L), .int .i64 x42.1.At]], 0⟩, ⟨34, 5, [.agg [.int .i64 x46.1.Time, .vs 1 (Wa (Wb .i64) x46.1.States), .vs 1 (Wa (Wb .i64) x46.1.Since), .vs 1 (Wa Wc x46.1.Pulled), .vs 1 (Wa Wc x46.1.Held)]], 0⟩, ⟨3, 1, Wa (Wb .i64) (s31.2.2.2.set ((x38.2).toNat) x46.1.Time), 0⟩, ⟨3, 1, [], 0 + 1⟩, ⟨3, 1, [], 0 + 1⟩, ⟨4, 1, [], 0 + 1⟩, ⟨4, 1, Wa Wc x40.Held, 0⟩, ⟨34, 5, [.agg [.int .i64 x40.Time, .vs 1 (Wa (Wb .i64) x40.States), .vs 1 (Wa (Wb .i64) x40.Since), .vs 1 (Wa Wc x40.Pulled), .sl (low.length + 6) 0 0 (x40.Held).length]], 0⟩]) rfl 5 rfl (Yf (fun _ => .bool _)) ⟨Vd rfl, Vd rfl, Vd rfl, Vd rfl, Vd rfl, Vd rfl, Vd rfl, trivial⟩ ⟨.refl _, .refl _, .refl _, .refl _, .refl _, .refl _, .refl _, Xs ⟨Vd rfl, Vd rfl, Vd rfl, Yq rfl rfl rfl (Xb rfl), Vd rfl, trivial⟩, trivial⟩) ?_
            refine Weak.trans (Vt (E' := [(3, .ptr (low.length + 0) 0 0 0), (4, .vs 2 (Wa T_Belt.enc o11.2)), (6, .ptr (low.length + 1) 0 0 0), (7, .int .i64 x19.2), (8, .sl (low.length + 2) 0 0 (s31.2.2.2).length), (10, .int .i64 s31.1), (12, .ptr (low.length + 7) 0 0 0)]) (loc1 := [⟨53, 2, [.agg [.vs 1 (Wa (Wb .i64) x42.1.L), .int .i64 x42.1.At]], 0⟩, ⟨34, 5, [.agg [.int .i64 x46.1.Time, .vs 1 (Wa (Wb .i64) x46.1.States), .vs 1 (Wa (Wb .i64) x46.1.Since), .vs 1 (Wa Wc x46.1.Pulled), .vs 1 (Wa Wc x46.1.Held)]], 0⟩, ⟨3, 1, Wa (Wb .i64) (s31.2.2.2.set ((x38.2).toNat) x46.1.Time), 0⟩, ⟨3, 1, [], 0 + 1⟩, ⟨3, 1, [], 0 + 1⟩, ⟨4, 1, [], 0 + 1⟩, ⟨4, 1, [], 0 + 1⟩, ⟨34, 5, [.agg [.int .i64 x40.Time, .vs 1 (Wa (Wb .i64) x40.States), .vs 1 (Wa (Wb .i64) x40.Since), .vs 1 (Wa Wc x40.Pulled), .vs 1 (Wa Wc x40.Held)]], 0⟩]) rfl 6 rfl (Yf (fun _ => .bool _)) ⟨Vd rfl, Vd rfl, Vd rfl, Vd rfl, Vd rfl, Vd rfl, Vd rfl, trivial⟩ ⟨.refl _, .refl _, .refl _, .refl _, .refl _, .refl _, .refl _, Xs ⟨Vd rfl, Vd rfl, Vd rfl, Vd rfl, Yq rfl rfl rfl (Xb rfl), trivial⟩, trivial⟩) ?_
            exact Vw rfl [(7, 0), (0, 0), (1, 0), (2, 0)] (by decide) ⟨Yl 1 0 rfl rfl, Vs rfl (.vs _ _), Yl 2 1 rfl rfl, Vs rfl (.int _ _), Zr 3 2 rfl (congrArg (PV.sl _ _ 0) (Eq.trans rfl List.length_set.symm)), Vs rfl (.int _ _), Yl 0 7 rfl rfl, trivial⟩ ⟨⟨_, rfl, rfl, .agg _ _ _ _ _ ⟨Vs rfl (.int _ _), Vs rfl (.vs _ _), Vs rfl (.vs _ _), Vs rfl (.vs _ _), Vs rfl (.vs _ _), trivial⟩⟩, ⟨_, rfl, rfl, .same _ _ _ _ (Xd ⟨Xl ⟨.vs _ _, .int _ _, trivial⟩, trivial⟩)⟩, ⟨_, rfl, rfl, .same _ _ _ _ (Xd ⟨Xl ⟨.int _ _, .vs _ _, .vs _ _, .vs _ _, .vs _ _, trivial⟩, trivial⟩)⟩, ⟨_, rfl, rfl, .same _ _ _ _ (Vk (fun _ => .int _ _))⟩, trivial⟩
           ·have hF := Ys c48 hF
            refine Xy ?_
            obtain rfl := Wd hF
            refine Ye ?_
            refine Weak.trans (Vt (E' := [(3, .ptr (low.length + 0) 0 0 0), (4, .vs 2 (Wa T_Belt.enc o11.2)), (6, .ptr (low.length + 1) 0 0 0), (7, .int .i64 x19.2), (8, .sl (low.length + 2) 0 0 (s31.2.2.2).length), (10, .int .i64 s31.1), (12, .ptr (low.length + 7) 0 0 0)]) (loc1 := [⟨53, 2, [.agg [.vs 1 (Wa (Wb .i64) x42.1.L), .int .i64 x42.1.At]], 0⟩, ⟨34, 5, [.agg [.int .i64 x46.1.Time, .vs 1 (Wa (Wb .i64) x46.1.States), .vs 1 (Wa (Wb .i64) x46.1.Since), .vs 1 (Wa Wc x46.1.Pulled), .vs 1 (Wa Wc x46.1.Held)]], 0⟩, ⟨3, 1, Wa (Wb .i64) s31.2.2.2, 0⟩, ⟨3, 1, [], 0 + 1⟩, ⟨3, 1, Wa (Wb .i64) x40.Since, 0⟩, ⟨4, 1, Wa Wc x40.Pulled, 0⟩, ⟨4, 1, Wa Wc x40.Held, 0⟩, ⟨34, 5, [.agg [.int .i64 x40.Time, .vs 1 (Wa (Wb .i64) x40.States), .sl (low.length + 4) 0 0 (x40.Since).length, .sl (low.length + 5) 0 0 (x40.Pulled).length, .sl (low.length + 6) 0 0 (x40.Held).length]], 0⟩]) rfl 3 rfl (Yf (fun _ => .int _ _)) ⟨Vd rfl, Vd rfl, Vd rfl, Vd rfl, Vd rfl, Vd rfl, Vd rfl, trivial⟩ ⟨.refl _, .refl _, .refl _, .refl _, .refl _, .refl _, .refl _, Xs ⟨Vd rfl, Yq rfl rfl rfl (Xb rfl), Vd rfl, Vd rfl, Vd rfl, trivial⟩, trivial⟩) ?_
            refine Weak.trans (Vt (E' := [(3, .ptr (low.length + 0) 0 0 0), (4, .vs 2 (Wa T_Belt.enc o11.2)), (6, .ptr (low.length + 1) 0 0 0), (7, .int .i64 x19.2), (8, .sl (low.length + 2) 0 0 (s31.2.2.2).length), (10, .int .i64 s31.1), (12, .ptr (low.length + 7) 0 0 0)]) (loc1 := [⟨53, 2, [.agg [.vs 1 (Wa (Wb .i64) x42.1.L), .int .i64 x42.1.At]], 0⟩, ⟨34, 5, [.agg [.int .i64 x46.1.Time, .vs 1 (Wa (Wb .i64) x46.1.States), .vs 1 (Wa (Wb .i64) x46.1.Since), .vs 1 (Wa Wc x46.1.Pulled), .vs 1 (Wa Wc x46.1.Held)]], 0⟩, ⟨3, 1, Wa (Wb .i64) s31.2.2.2, 0⟩, ⟨3, 1, [], 0 + 1⟩, ⟨3, 1, [], 0 + 1⟩, ⟨4, 1, Wa Wc x40.Pulled, 0⟩, ⟨4, 1, Wa Wc x40.Held, 0⟩, ⟨34, 5, [.agg [.int .i64 x40.Time, .vs 1 (Wa (Wb .i64) x40.States), .vs 1 (Wa (Wb .i64) x40.Since), .sl (low.length + 5) 0 0 (x40.Pulled).length, .sl (low.length + 6) 0 0 (x40.Held).length]], 0⟩]) rfl 4 rfl (Yf (fun _ => .int _ _)) ⟨Vd rfl, Vd rfl, Vd rfl, Vd rfl, Vd rfl, Vd rfl, Vd rfl, trivial⟩ ⟨.refl _, .refl _, .refl _, .refl _, .refl _, .refl _, .refl _, Xs ⟨Vd rfl, Vd rfl, Yq rfl rfl rfl (Xb rfl), Vd rfl, Vd rfl, trivial⟩, trivial⟩) ?_
            refine Weak.trans (Vt (E' := [(3, .ptr (low.length + 0) 0 0 0), (4, .vs 2 (Wa T_Belt.enc o11.2)), (6, .ptr (low.length + 1) 0 0 0), (7, .int .i64 x19.2), (8, .sl (low.length + 2) 0 0 (s31.2.2.2).length), (10, .int .i64 s31.1), (12, .ptr (low.length + 7) 0 0 0)]) (loc1 := [⟨53, 2, [.agg [.vs 1 (Wa (Wb .i64) x42.1.L), .int .i64 x42.1.At]], 0⟩, ⟨34, 5, [.agg [.int .i64 x46.1.Time, .vs 1 (Wa (Wb .i64) x46.1.States), .vs 1 (Wa (Wb .i64) x46.1.Since), .vs 1 (Wa Wc x46.1.Pulled), .vs 1 (Wa Wc x46.1.Held)]], 0⟩, ⟨3, 1, Wa (Wb .i64) s31.2.2.2, 0⟩, ⟨3, 1, [], 0 + 1⟩, ⟨3, 1, [], 0 + 1⟩, ⟨4, 1, [], 0 + 1⟩, ⟨4, 1, Wa Wc x40.Held, 0⟩, ⟨34, 5, [.agg [.int .i64 x40.Time, .vs 1 (Wa (Wb .i64) x40.States), .vs 1 (Wa (Wb .i64) x40.Since), .vs 1 (Wa Wc x40.Pulled), .sl (low.length + 6) 0 0 (x40.Held).length]], 0⟩]) rfl 5 rfl (Yf (fun _ => .bool _)) ⟨Vd rfl, Vd rfl, Vd rfl, Vd rfl, Vd rfl, Vd rfl, Vd rfl, trivial⟩ ⟨.refl _, .refl _, .refl _, .refl _, .refl _, .refl _, .refl _, Xs ⟨Vd rfl, Vd rfl, Vd rfl, Yq rfl rfl rfl (Xb rfl), Vd rfl, trivial⟩, trivial⟩) ?_
            refine Weak.trans (Vt (E' := [(3, .ptr (low.length + 0) 0 0 0), (4, .vs 2 (Wa T_Belt.enc o11.2)), (6, .ptr (low.length + 1) 0 0 0), (7, .int .i64 x19.2), (8, .sl (low.length + 2) 0 0 (s31.2.2.2).length), (10, .int .i64 s31.1), (12, .ptr (low.length + 7) 0 0 0)]) (loc1 := [⟨53, 2, [.agg [.vs 1 (Wa (Wb .i64) x42.1.L), .int .i64 x42.1.At]], 0⟩, ⟨34, 5, [.agg [.int .i64 x46.1.Time, .vs 1 (Wa (Wb .i64) x46.1.States), .vs 1 (Wa (Wb .i64) x46.1.Since), .vs 1 (Wa Wc x46.1.Pulled), .vs 1 (Wa Wc x46.1.Held)]], 0⟩, ⟨3, 1, Wa (Wb .i64) s31.2.2.2, 0⟩, ⟨3, 1, [], 0 + 1⟩, ⟨3, 1, [], 0 + 1⟩, ⟨4, 1, [], 0 + 1⟩, ⟨4, 1, [], 0 + 1⟩, ⟨34, 5, [.agg [.int .i64 x40.Time, .vs 1 (Wa (Wb .i64) x40.States), .vs 1 (Wa (Wb .i64) x40.Since), .vs 1 (Wa Wc x40.Pulled), .vs 1 (Wa Wc x40.Held)]], 0⟩]) rfl 6 rfl (Yf (fun _ => .bool _)) ⟨Vd rfl, Vd rfl, Vd rfl, Vd rfl, Vd rfl, Vd rfl, Vd rfl, trivial⟩ ⟨.refl _, .refl _, .refl _, .refl _, .refl _, .refl _, .refl _, Xs ⟨Vd rfl, Vd rfl, Vd rfl, Vd rfl, Yq rfl rfl rfl (Xb rfl), trivial⟩, trivial⟩) ?_
            exact Vw rfl [(7, 0), (0, 0), (1, 0), (2, 0)] (by decide) ⟨Yl 1 0 rfl rfl, Vs rfl (.vs _ _), Yl 2 1 rfl rfl, Vs rfl (.int _ _), Zr 3 2 rfl rfl, Vs rfl (.int _ _), Yl 0 7 rfl rfl, trivial⟩ ⟨⟨_, rfl, rfl, .agg _ _ _ _ _ ⟨Vs rfl (.int _ _), Vs rfl (.vs _ _), Vs rfl (.vs _ _), Vs rfl (.vs _ _), Vs rfl (.vs _ _), trivial⟩⟩, ⟨_, rfl, rfl, .same _ _ _ _ (Xd ⟨Xl ⟨.vs _ _, .int _ _, trivial⟩, trivial⟩)⟩, ⟨_, rfl, rfl, .same _ _ _ _ (Xd ⟨Xl ⟨.int _ _, .vs _ _, .vs _ _, .vs _ _, .vs _ _, trivial⟩, trivial⟩)⟩, ⟨_, rfl, rfl, .same _ _ _ _ (Vk (fun _ => .int _ _))⟩, trivial⟩
          ·have hF := Ys c45 hF
           refine Vi ?_
           refine Vf ?_
           refine Va (Xe rfl rfl) rfl ?_
           refine Va (Yd rfl) rfl ?_
           refine Vh ?_
           refine Xq rfl (fun c51 => ?_) (fun c51 => ?_)
           ·have hF := Yr c51 hF
            obtain ⟨x52, h53, hF⟩ := Yt hF
            obtain ⟨x54, h55, hF⟩ := Yt hF
            refine vwp_drawn [[], [], [], [2], [], [], [4, 5], [2, 3, 4, 5, 6], [0, 1, 2, 3, 4, 5, 6, 7], [0, 1, 2, 3, 4, 5, 6, 7, 8], [0, 1, 2, 3, 4, 5, 6, 7, 8, 9], [0, 1, 2, 3, 4, 5, 6, 7, 8, 9], [0, 1, 2, 3, 4, 5, 6, 7, 8, 9, 10]] [false, false, false, false, false, false, true, false, true, false, false, false, true] [(low, [⟨53, 2, [.agg [.vs 1 (Wa (Wb .i64) x42.1.L), .int .i64 x42.1.At]], 0⟩, ⟨34, 5, [.agg [.int .i64 s31.2.2.1.Time, .vs 1 (Wa (Wb .i64) s31.2.2.1.States), .vs 1 (Wa (Wb .i64) s31.2.2.1.Since), .vs 1 (Wa Wc s31.2.2.1.Pulled), .vs 1 (Wa Wc s31.2.2.1.Held)]], 0⟩, ⟨3, 1, Wa (Wb .i64) s31.2.2.2, 0⟩, ⟨3, 1, Wa (Wb .i64) x40.States, 0⟩, ⟨3, 1, Wa (Wb .i64) x40.Since, 0⟩, ⟨4, 1, Wa Wc x40.Pulled, 0⟩, ⟨4, 1, Wa Wc x40.Held, 0⟩, ⟨34, 5, [.agg [.int .i64 x40.Time, .sl (low.length + 3) 0 0 (x40.States).length, .sl (low.length + 4) 0 0 (x40.Since).length, .sl (low.length + 5) 0 0 (x40.Pulled).length, .sl (low.length + 6) 0 0 (x40.Held).length]], 0⟩]), (low, [⟨53, 2, [.agg [.vs 1 (Wa (Wb .i64) x52.1.L), .int .i64 x52.1.At]], 0⟩, ⟨34, 5, [.agg [.int .i64 s31.2.2.1.Time, .vs 1 (Wa (Wb .i64) s31.2.2.1.States), .vs 1 (Wa (Wb .i64) s31.2.2.1.Since), .vs 1 (Wa Wc s31.2.2.1.Pulled), .vs 1 (Wa Wc s31.2.2.1.Held)]], 0⟩, ⟨3, 1, Wa (Wb .i64) s31.2.2.2, 0⟩, ⟨3, 1, Wa (Wb .i64) x40.States, 0⟩, ⟨3, 1, Wa (Wb .i64) x40.Since, 0⟩, ⟨4, 1, Wa Wc x40.Pulled, 0⟩, ⟨4, 1, Wa Wc x40.Held, 0⟩, ⟨34, 5, [.agg [.int .i64 x40.Time, .sl (low.length + 3) 0 0 (x40.States).length, .sl (low.length + 4) 0 0 (x40.Since).length, .sl (low.length + 5) 0 0 (x40.Pulled).length, .sl (low.length + 6) 0 0 (x40.Held).length]], 0⟩]), (low, [⟨53, 2, [.agg [.vs 1 (Wa (Wb .i64) x52.1.L), .int .i64 x52.1.At]], 0⟩, ⟨34, 5, [.agg [.int .i64 s31.2.2.1.Time, .vs 1 (Wa (Wb .i64) s31.2.2.1.States), .vs 1 (Wa (Wb .i64) s31.2.2.1.Since), .vs 1 (Wa Wc s31.2.2.1.Pulled), .vs 1 (Wa Wc s31.2.2.1.Held)]], 0⟩, ⟨3, 1, Wa (Wb .i64) s31.2.2.2, 0⟩, ⟨3, 1, Wa (Wb .i64) x40.States, 0⟩, ⟨3, 1, Wa (Wb .i64) x40.Since, 0⟩, ⟨4, 1, Wa Wc x40.Pulled, 0⟩, ⟨4, 1, Wa Wc x40.Held, 0⟩, ⟨34, 5, [.agg [.int .i64 x40.Time, .sl (low.length + 3) 0 0 (x40.States).length, .sl (low.length + 4) 0 0 (x40.Since).length, .sl (low.length + 5) 0 0 (x40.Pulled).length, .sl (low.length + 6) 0 0 (x40.Held).length]], 0⟩]), (low, [⟨53, 2, [.agg [.vs 1 (Wa (Wb .i64) x52.1.L), .int .i64 x52.1.At]], 0⟩, ⟨34, 5, [.agg [.int .i64 x54.1.Time, .vs 1 (Wa (Wb .i64) x54.1.States), .vs 1 (Wa (Wb .i64) x54.1.Since), .vs 1 (Wa Wc x54.1.Pulled), .vs 1 (Wa Wc x54.1.Held)]], 0⟩, ⟨3, 1, Wa (Wb .i64) s31.2.2.2, 0⟩, ⟨3, 1, Wa (Wb .i64) x40.States, 0⟩, ⟨3, 1, Wa (Wb .i64) x40.Since, 0⟩, ⟨4, 1, Wa Wc x40.Pulled, 0⟩, ⟨4, 1, Wa Wc x40.Held, 0⟩, ⟨34, 5, [.agg [.int .i64 x40.Time, .sl (low.length + 3) 0 0 (x40.States).length, .sl (low.length + 4) 0 0 (x40.Since).length, .sl (low.length + 5) 0 0 (x40.Pulled).length, .sl (low.length + 6) 0 0 (x40.Held).length]], 0⟩])] mixed (by kernel_rfl) rfl (lenAll (Yy rfl (Yy rfl (Yy rfl (Yy rfl all0))))) rfl _ rfl rfl ?_
            refine Zm _ rfl rfl (Yy (VRd.ntl (Xw rfl)) (Yy (VRd.ntl (Xw rfl)) all0)) ?_
            refine Zm _ rfl rfl (Yy (VRd.ntl (Xk (ds := [.int .i64 s31.2.2.1.Time, .vs 1 (Wa (Wb .i64) s31.2.2.1.States), .vs 1 (Wa (Wb .i64) s31.2.2.1.Since), .vs 1 (Wa Wc s31.2.2.1.Pulled), .vs 1 (Wa Wc s31.2.2.1.Held)]) rfl (Vg rfl rfl) rfl ta_34 ts_34 rfl rfl rfl)) (Yy (VRd.ntl (Xk (ds := [.int .i64 s31.2.2.1.Time, .vs 1 (Wa (Wb .i64) s31.2.2.1.States), .vs 1 (Wa (Wb .i64) s31.2.2.1.Since), .vs 1 (Wa Wc s31.2.2.1.Pulled), .vs 1 (Wa Wc s31.2.2.1.Held)]) rfl (Vg rfl rfl) rfl ta_34 ts_34 rfl rfl rfl)) all0)) ?_
            refine Zm _ rfl rfl (Yy (VRd.ntl (Vc rfl tf_34_0 ts_3 (by decide))) (Yy (VRd.ntl (Vc rfl tf_34_0 ts_3 (by decide))) all0)) ?_
            refine Zm _ rfl rfl (Yy (VRd.ntl (Ve rfl (Vg rfl rfl) rfl ta_3 rfl)) (Yy (VRd.ntl (Ve rfl (Vg rfl rfl) rfl ta_3 rfl)) all0)) ?_
            refine Ze rfl rfl (Zi rfl) ?_
            refine dn1 rfl rfl (nt_of (vef_litF (es := Wa (Wb .i64) [5, 3, 20, 0]) ⟨rfl, rfl, rfl, rfl, rfl, rfl, rfl, rfl, trivial⟩ rfl rfl (nt_all rfl) te_22 ts_3 tz_3 rfl rfl (Wf _) (by decide) (Yf (fun _ => .int _ _)))) ?_
            refine dops_ef rfl rfl rfl (Yu (ps := [((low.length + 0), ⟨53, 2, [.agg [.vs 1 (Wa (Wb .i64) x52.1.L), .int .i64 x52.1.At]], 0⟩)]) (r := .int .i64 x52.2) (os := []) (low1 := low) (loc1 := [⟨53, 2, [.agg [.vs 1 (Wa (Wb .i64) x52.1.L), .int .i64 x52.1.At]], 0⟩, ⟨34, 5, [.agg [.int .i64 s31.2.2.1.Time, .vs 1 (Wa (Wb .i64) s31.2.2.1.States), .vs 1 (Wa (Wb .i64) s31.2.2.1.Since), .vs 1 (Wa Wc s31.2.2.1.Pulled), .vs 1 (Wa Wc s31.2.2.1.Held)]], 0⟩, ⟨3, 1, Wa (Wb .i64) s31.2.2.2, 0⟩, ⟨3, 1, Wa (Wb .i64) x40.States, 0⟩, ⟨3, 1, Wa (Wb .i64) x40.Since, 0⟩, ⟨4, 1, Wa Wc x40.Pulled, 0⟩, ⟨4, 1, Wa Wc x40.Held, 0⟩, ⟨34, 5, [.agg [.int .i64 x40.Time, .sl (low.length + 3) 0 0 (x40.States).length, .sl (low.length + 4) 0 0 (x40.Since).length, .sl (low.length + 5) 0 0 (x40.Pulled).length, .sl (low.length + 6) 0 0 (x40.Held).length]], 0⟩]) (loc2 := [⟨53, 2, [.agg [.vs 1 (Wa (Wb .i64) x52.1.L), .int .i64 x52.1.At]], 0⟩, ⟨34, 5, [.agg [.int .i64 s31.2.2.1.Time, .vs 1 (Wa (Wb .i64) s31.2.2.1.States), .vs 1 (Wa (Wb .i64) s31.2.2.1.Since), .vs 1 (Wa Wc s31.2.2.1.Pulled), .vs 1 (Wa Wc s31.2.2.1.Held)]], 0⟩, ⟨3, 1, Wa (Wb .i64) s31.2.2.2, 0⟩, ⟨3, 1, Wa (Wb .i64) x40.States, 0⟩, ⟨3, 1, Wa (Wb .i64) x40.Since, 0⟩, ⟨4, 1, Wa Wc x40.Pulled, 0⟩, ⟨4, 1, Wa Wc x40.Held, 0⟩, ⟨34, 5, [.agg [.int .i64 x40.Time, .sl (low.length + 3) 0 0 (x40.States).length, .sl (low.length + 4) 0 0 (x40.Since).length, .sl (low.length + 5) 0 0 (x40.Pulled).length, .sl (low.length + 6) 0 0 (x40.Held).length]], 0⟩]) rfl Try.call11 (F_made_Dice_Of_ok h53 (nd1 na0 nd0) (Zd rfl rfl) (Xc rfl rfl)) (Xu (loc2 := [⟨53, 2, [.agg [.vs 1 (Wa (Wb .i64) x52.1.L), .int .i64 x52.1.At]], 0⟩, ⟨34, 5, [.agg [.int .i64 s31.2.2.1.Time, .vs 1 (Wa (Wb .i64) s31.2.2.1.States), .vs 1 (Wa (Wb .i64) s31.2.2.1.Since), .vs 1 (Wa Wc s31.2.2.1.Pulled), .vs 1 (Wa Wc s31.2.2.1.Held)]], 0⟩, ⟨3, 1, Wa (Wb .i64) s31.2.2.2, 0⟩, ⟨3, 1, Wa (Wb .i64) x40.States, 0⟩, ⟨3, 1, Wa (Wb .i64) x40.Since, 0⟩, ⟨4, 1, Wa Wc x40.Pulled, 0⟩, ⟨4, 1, Wa Wc x40.Held, 0⟩, ⟨34, 5, [.agg [.int .i64 x40.Time, .sl (low.length + 3) 0 0 (x40.States).length, .sl (low.length + 4) 0 0 (x40.Since).length, .sl (low.length + 5) 0 0 (x40.Pulled).length, .sl (low.length + 6) 0 0 (x40.Held).length]], 0⟩]) rfl 0 rfl Za) rfl) ?_
            refine Ze rfl rfl (rd_add rfl rfl rfl) ?_
            refine dops_ef rfl rfl rfl (Xf (r := .tup [.agg [.int .i64 x54.1.Time, .vs 1 (Wa (Wb .i64) x54.1.States), .vs 1 (Wa (Wb .i64) x54.1.Since), .vs 1 (Wa Wc x54.1.Pulled), .vs 1 (Wa Wc x54.1.Held)], .int .i64 x54.2]) (os := []) rfl Try.call14 (F_belts_Wait_ok h55 _ (Xc rfl rfl))) ?_
            refine Ze rfl rfl (rd_mvT rfl) ?_
            refine Ze rfl rfl (Yh rfl rfl) ?_
            refine Zm _ rfl rfl (Yy (VRd.ntl (Yh rfl rfl)) (Yy (VRd.ntl (Yh rfl rfl)) all0)) ?_
            refine dops_ef rfl rfl rfl (Xo (p := .agg [.int .i64 x54.1.Time, .vs 1 (Wa (Wb .i64) x54.1.States), .vs 1 (Wa (Wb .i64) x54.1.Since), .vs 1 (Wa Wc x54.1.Pulled), .vs 1 (Wa Wc x54.1.Held)]) (e' := .agg [.int .i64 x54.1.Time, .vs 1 (Wa (Wb .i64) x54.1.States), .vs 1 (Wa (Wb .i64) x54.1.Since), .vs 1 (Wa Wc x54.1.Pulled), .vs 1 (Wa Wc x54.1.Held)]) rfl (Vg rfl rfl) rfl rfl ts_34 rfl (Yv rfl) rfl (We rfl) rfl (Ym rfl rfl)) ?_
            refine Zh ?_
            obtain rfl := Wd hF
            refine Ye ?_
            refine Weak.trans (Vt (E' := [(3, .ptr (low.length + 0) 0 0 0), (4, .vs 2 (Wa T_Belt.enc o11.2)), (6, .ptr (low.length + 1) 0 0 0), (7, .int .i64 x19.2), (8, .sl (low.length + 2) 0 0 (s31.2.2.2).length), (10, .int .i64 s31.1), (12, .ptr (low.length + 7) 0 0 0)]) (loc1 := [⟨53, 2, [.agg [.vs 1 (Wa (Wb .i64) x52.1.L), .int .i64 x52.1.At]], 0⟩, ⟨34, 5, [.agg [.int .i64 x54.1.Time, .vs 1 (Wa (Wb .i64) x54.1.States), .vs 1 (Wa (Wb .i64) x54.1.Since), .vs 1 (Wa Wc x54.1.Pulled), .vs 1 (Wa Wc x54.1.Held)]], 0⟩, ⟨3, 1, Wa (Wb .i64) s31.2.2.2, 0⟩, ⟨3, 1, [], 0 + 1⟩, ⟨3, 1, Wa (Wb .i64) x40.Since, 0⟩, ⟨4, 1, Wa Wc x40.Pulled, 0⟩, ⟨4, 1, Wa Wc x40.Held, 0⟩, ⟨34, 5, [.agg [.int .i64 x40.Time, .vs 1 (Wa (Wb .i64) x40.States), .sl (low.length + 4) 0 0 (x40.Since).length, .sl (low.length + 5) 0 0 (x40.Pulled).length, .sl (low.length + 6) 0 0 (x40.Held).length]], 0⟩]) rfl 3 rfl (Yf (fun _ => .int _ _)) ⟨Vd rfl, Vd rfl, Vd rfl, Vd rfl, Vd rfl, Vd rfl, Vd rfl, trivial⟩ ⟨.refl _, .refl _, .refl _, .refl _, .refl _, .refl _, .refl _, Xs ⟨Vd rfl, Yq rfl rfl rfl (Xb rfl), Vd rfl, Vd rfl, Vd rfl, trivial⟩, trivial⟩) ?_
            refine Weak.trans (Vt (E' := [(3, .ptr (low.length + 0) 0 0 0), (4, .vs 2 (Wa T_Belt.enc o11.2)), (6, .ptr (low.length + 1) 0 0 0), (7, .int .i64 x19.2), (8, .sl (low.length + 2) 0 0 (s31.2.2.2).length), (10, .int .i64 s31.1), (12, .ptr (low.length + 7) 0 0 0)]) (loc1 := [⟨53, 2, [.agg [.vs 1 (Wa (Wb .i64) x52.1.L), .int .i64 x52.1.At]], 0⟩, ⟨34, 5, [.agg [.int .i64 x54.1.Time, .vs 1 (Wa (Wb .i64) x54.1.States), .vs 1 (Wa (Wb .i64) x54.1.Since), .vs 1 (Wa Wc x54.1.Pulled), .vs 1 (Wa Wc x54.1.Held)]], 0⟩, ⟨3, 1, Wa (Wb .i64) s31.2.2.2, 0⟩, ⟨3, 1, [], 0 + 1⟩, ⟨3, 1, [], 0 + 1⟩, ⟨4, 1, Wa Wc x40.Pulled, 0⟩, ⟨4, 1, Wa Wc x40.Held, 0⟩, ⟨34, 5, [.agg [.int .i64 x40.Time, .vs 1 (Wa (Wb .i64) x40.States), .vs 1 (Wa (Wb .i64) x40.Since), .sl (low.length + 5) 0 0 (x40.Pulled).length, .sl (low.length + 6) 0 0 (x40.Held).length]], 0⟩]) rfl 4 rfl (Yf (fun _ => .int _ _)) ⟨Vd rfl, Vd rfl, Vd rfl, Vd rfl, Vd rfl, Vd rfl, Vd rfl, trivial⟩ ⟨.refl _, .refl _, .refl _, .refl _, .refl _, .refl _, .refl _, Xs ⟨Vd rfl, Vd rfl, Yq rfl rfl rfl (Xb rfl), Vd rfl, Vd rfl, trivial⟩, trivial⟩) ?_
            refine Weak.trans (Vt (E' := [(3, .ptr (low.length + 0) 0 0 0), (4, .vs 2 (Wa T_Belt.enc o11.2)), (6, .ptr (low.length + 1) 0 0 0), (7, .int .i64 x19.2), (8, .sl (low.length + 2) 0 0 (s31.2.2.2).length), (10, .int .i64 s31.1), (12, .ptr (low.length + 7) 0 0 0)]) (loc1 := [⟨53, 2, [.agg [.vs 1 (Wa (Wb .i64) x52.1.L), .int .i64 x52.1.At]], 0⟩, ⟨34, 5, [.agg [.int .i64 x54.1.Time, .vs 1 (Wa (Wb .i64) x54.1.States), .vs 1 (Wa (Wb .i64) x54.1.Since), .vs 1 (Wa Wc x54.1.Pulled), .vs 1 (Wa Wc x54.1.Held)]], 0⟩, ⟨3, 1, Wa (Wb .i64) s31.2.2.2, 0⟩, ⟨3, 1, [], 0 + 1⟩, ⟨3, 1, [], 0 + 1⟩, ⟨4, 1, [], 0 + 1⟩, ⟨4, 1, Wa Wc x40.Held, 0⟩, ⟨34, 5, [.agg [.int .i64 x40.Time, .vs 1 (Wa (Wb .i64) x40.States), .vs 1 (Wa (Wb .i64) x40.Since), .vs 1 (Wa Wc x40.Pulled), .sl (low.length + 6) 0 0 (x40.Held).length]], 0⟩]) rfl 5 rfl (Yf (fun _ => .bool _)) ⟨Vd rfl, Vd rfl, Vd rfl, Vd rfl, Vd rfl, Vd rfl, Vd rfl, trivial⟩ ⟨.refl _, .refl _, .refl _, .refl _, .refl _, .refl _, .refl _, Xs ⟨Vd rfl, Vd rfl, Vd rfl, Yq rfl rfl rfl (Xb rfl), Vd rfl, trivial⟩, trivial⟩) ?_
            refine Weak.trans (Vt (E' := [(3, .ptr (low.length + 0) 0 0 0), (4, .vs 2 (Wa T_Belt.enc o11.2)), (6, .ptr (low.length + 1) 0 0 0), (7, .int .i64 x19.2), (8, .sl (low.length + 2) 0 0 (s31.2.2.2).length), (10, .int .i64 s31.1), (12, .ptr (low.length + 7) 0 0 0)]) (loc1 := [⟨53, 2, [.agg [.vs 1 (Wa (Wb .i64) x52.1.L), .int .i64 x52.1.At]], 0⟩, ⟨34, 5, [.agg [.int .i64 x54.1.Time, .vs 1 (Wa (Wb .i64) x54.1.States), .vs 1 (Wa (Wb .i64) x54.1.Since), .vs 1 (Wa Wc x54.1.Pulled), .vs 1 (Wa Wc x54.1.Held)]], 0⟩, ⟨3, 1, Wa (Wb .i64) s31.2.2.2, 0⟩, ⟨3, 1, [], 0 + 1⟩, ⟨3, 1, [], 0 + 1⟩, ⟨4, 1, [], 0 + 1⟩, ⟨4, 1, [], 0 + 1⟩, ⟨34, 5, [.agg [.int .i64 x40.Time, .vs 1 (Wa (Wb .i64) x40.States), .vs 1 (Wa (Wb .i64) x40.Since), .vs 1 (Wa Wc x40.Pulled), .vs 1 (Wa Wc x40.Held)]], 0⟩]) rfl 6 rfl (Yf (fun _ => .bool _)) ⟨Vd rfl, Vd rfl, Vd rfl, Vd rfl, Vd rfl, Vd rfl, Vd rfl, trivial⟩ ⟨.refl _, .refl _, .refl _, .refl _, .refl _, .refl _, .refl _, Xs ⟨Vd rfl, Vd rfl, Vd rfl, Vd rfl, Yq rfl rfl rfl (Xb rfl), trivial⟩, trivial⟩) ?_
            exact Vw rfl [(7, 0), (0, 0), (1, 0), (2, 0)] (by decide) ⟨Yl 1 0 rfl rfl, Vs rfl (.vs _ _), Yl 2 1 rfl rfl, Vs rfl (.int _ _), Zr 3 2 rfl rfl, Vs rfl (.int _ _), Yl 0 7 rfl rfl, trivial⟩ ⟨⟨_, rfl, rfl, .agg _ _ _ _ _ ⟨Vs rfl (.int _ _), Vs rfl (.vs _ _), Vs rfl (.vs _ _), Vs rfl (.vs _ _), Vs rfl (.vs _ _), trivial⟩⟩, ⟨_, rfl, rfl, .same _ _ _ _ (Xd ⟨Xl ⟨.vs _ _, .int _ _, trivial⟩, trivial⟩)⟩, ⟨_, rfl, rfl, .same _ _ _ _ (Xd ⟨Xl ⟨.int _ _, .vs _ _, .vs _ _, .vs _ _, .vs _ _, trivial⟩, trivial⟩)⟩, ⟨_, rfl, rfl, .same _ _ _ _ (Vk (fun _ => .int _ _))⟩, trivial⟩
           ·have hF := Ys c51 hF
            refine Vi ?_
            refine Vf ?_
            refine Va (Xe rfl rfl) rfl ?_
            refine Va (Yd rfl) rfl ?_
            refine Vh ?_
            refine Xq rfl (fun c56 => ?_) (fun c56 => ?_)
            ·have hF := Yr c56 hF
             refine Vf ?_
             obtain ⟨x57, h58, hF⟩ := Yt hF
             refine Va (Xw rfl) rfl ?_
             refine Va (Xk (ds := [.int .i64 s31.2.2.1.Time, .vs 1 (Wa (Wb .i64) s31.2.2.1.States), .vs 1 (Wa (Wb .i64) s31.2.2.1.Since), .vs 1 (Wa Wc s31.2.2.1.Pulled), .vs 1 (Wa Wc s31.2.2.1.Held)]) rfl (Vg rfl rfl) rfl ta_34 ts_34 rfl rfl rfl) rfl ?_
             refine Va (Vm rfl) rfl ?_
             refine Vj (Xf (r := .tup [.agg [.int .i64 x57.1.Time, .vs 1 (Wa (Wb .i64) x57.1.States), .vs 1 (Wa (Wb .i64) x57.1.Since), .vs 1 (Wa Wc x57.1.Pulled), .vs 1 (Wa Wc x57.1.Held)], .int .i64 x57.2]) (os := []) rfl Try.call24 (F_belts_Stop_ok h58 _ (Xc rfl rfl))) rfl ?_
             refine Va (rd_mvT rfl) rfl ?_
             refine Va (Yh rfl rfl) rfl ?_
             refine Va (Yh rfl rfl) rfl ?_
             refine Vj (Xo (p := .agg [.int .i64 x57.1.Time, .vs 1 (Wa (Wb .i64) x57.1.States), .vs 1 (Wa (Wb .i64) x57.1.Since), .vs 1 (Wa Wc x57.1.Pulled), .vs 1 (Wa Wc x57.1.Held)]) (e' := .agg [.int .i64 x57.1.Time, .vs 1 (Wa (Wb .i64) x57.1.States), .vs 1 (Wa (Wb .i64) x57.1.Since), .vs 1 (Wa Wc x57.1.Pulled), .vs 1 (Wa Wc x57.1.Held)]) rfl (Vg rfl rfl) rfl rfl ts_34 rfl (Yv rfl) rfl (We rfl) rfl (Ym rfl rfl)) rfl ?_
             refine Vh ?_
             obtain rfl := Wd hF
             refine Ye ?_
             refine Weak.trans (Vt (E' := [(3, .ptr (low.length + 0) 0 0 0), (4, .vs 2 (Wa T_Belt.enc o11.2)), (6, .ptr (low.length + 1) 0 0 0), (7, .int .i64 x19.2), (8, .sl (low.length + 2) 0 0 (s31.2.2.2).length), (10, .int .i64 s31.1), (12, .ptr (low.length + 7) 0 0 0)]) (loc1 := [⟨53, 2, [.agg [.vs 1 (Wa (Wb .i64) x42.1.L), .int .i64 x42.1.At]], 0⟩, ⟨34, 5, [.agg [.int .i64 x57.1.Time, .vs 1 (Wa (Wb .i64) x57.1.States), .vs 1 (Wa (Wb .i64) x57.1.Since), .vs 1 (Wa Wc x57.1.Pulled), .vs 1 (Wa Wc x57.1.Held)]], 0⟩, ⟨3, 1, Wa (Wb .i64) s31.2.2.2, 0⟩, ⟨3, 1, [], 0 + 1⟩, ⟨3, 1, Wa (Wb .i64) x40.Since, 0⟩, ⟨4, 1, Wa Wc x40.Pulled, 0⟩, ⟨4, 1, Wa Wc x40.Held, 0⟩, ⟨34, 5, [.agg [.int .i64 x40.Time, .vs 1 (Wa (Wb .i64) x40.States), .sl (low.length + 4) 0 0 (x40.Since).length, .sl (low.length + 5) 0 0 (x40.Pulled).length, .sl (low.length + 6) 0 0 (x40.Held).length]], 0⟩]) rfl 3 rfl (Yf (fun _ => .int _ _)) ⟨Vd rfl, Vd rfl, Vd rfl, Vd rfl, Vd rfl, Vd rfl, Vd rfl, trivial⟩ ⟨.refl _, .refl _, .refl _, .refl _, .refl _, .refl _, .refl _, Xs ⟨Vd rfl, Yq rfl rfl rfl (Xb rfl), Vd rfl, Vd rfl, Vd rfl, trivial⟩, trivial⟩) ?_
             refine Weak.trans (Vt (E' := [(3, .ptr (low.length + 0) 0 0 0), (4, .vs 2 (Wa T_Belt.enc o11.2)), (6, .ptr (low.length + 1) 0 0 0), (7, .int .i64 x19.2), (8, .sl (low.length + 2) 0 0 (s31.2.2.2).length), (10, .int .i64 s31.1), (12, .ptr (low.length + 7) 0 0 0)]) (loc1 := [⟨53, 2, [.agg [.vs 1 (Wa (Wb .i64) x42.1.L), .int .i64 x42.1.At]], 0⟩, ⟨34, 5, [.agg [.int .i64 x57.1.Time, .vs 1 (Wa (Wb .i64) x57.1.States), .vs 1 (Wa (Wb .i64) x57.1.Since), .vs 1 (Wa Wc x57.1.Pulled), .vs 1 (Wa Wc x57.1.Held)]], 0⟩, ⟨3, 1, Wa (Wb .i64) s31.2.2.2, 0⟩, ⟨3, 1, [], 0 + 1⟩, ⟨3, 1, [], 0 + 1⟩, ⟨4, 1, Wa Wc x40.Pulled, 0⟩, ⟨4, 1, Wa Wc x40.Held, 0⟩, ⟨34, 5, [.agg [.int .i64 x40.Time, .vs 1 (Wa (Wb .i64) x40.States), .vs 1 (Wa (Wb .i64) x40.Since), .sl (low.length + 5) 0 0 (x40.Pulled).length, .sl (low.length + 6) 0 0 (x40.Held).length]], 0⟩]) rfl 4 rfl (Yf (fun _ => .int _ _)) ⟨Vd rfl, Vd rfl, Vd rfl, Vd rfl, Vd rfl, Vd rfl, Vd rfl, trivial⟩ ⟨.refl _, .refl _, .refl _, .refl _, .refl _, .refl _, .refl _, Xs ⟨Vd rfl, Vd rfl, Yq rfl rfl rfl (Xb rfl), Vd rfl, Vd rfl, trivial⟩, trivial⟩) ?_
             refine Weak.trans (Vt (E' := [(3, .ptr (low.length + 0) 0 0 0), (4, .vs 2 (Wa T_Belt.enc o11.2)), (6, .ptr (low.length + 1) 0 0 0), (7, .int .i64 x19.2), (8, .sl (low.length + 2) 0 0 (s31.2.2.2).length), (10, .int .i64 s31.1), (12, .ptr (low.length + 7) 0 0 0)]) (loc1 := [⟨53, 2, [.agg [.vs 1 (Wa (Wb .i64) x42.1.L), .int .i64 x42.1.At]], 0⟩, ⟨34, 5, [.agg [.int .i64 x57.1.Time, .vs 1 (Wa (Wb .i64) x57.1.States), .vs 1 (Wa (Wb .i64) x57.1.Since), .vs 1 (Wa Wc x57.1.Pulled), .vs 1 (Wa Wc x57.1.Held)]], 0⟩, ⟨3, 1, Wa (Wb .i64) s31.2.2.2, 0⟩, ⟨3, 1, [], 0 + 1⟩, ⟨3, 1, [], 0 + 1⟩, ⟨4, 1, [], 0 + 1⟩, ⟨4, 1, Wa Wc x40.Held, 0⟩, ⟨34, 5, [.agg [.int .i64 x40.Time, .vs 1 (Wa (Wb .i64) x40.States), .vs 1 (Wa (Wb .i64) x40.Since), .vs 1 (Wa Wc x40.Pulled), .sl (low.length + 6) 0 0 (x40.Held).length]], 0⟩]) rfl 5 rfl (Yf (fun _ => .bool _)) ⟨Vd rfl, Vd rfl, Vd rfl, Vd rfl, Vd rfl, Vd rfl, Vd rfl, trivial⟩ ⟨.refl _, .refl _, .refl _, .refl _, .refl _, .refl _, .refl _, Xs ⟨Vd rfl, Vd rfl, Vd rfl, Yq rfl rfl rfl (Xb rfl), Vd rfl, trivial⟩, trivial⟩) ?_
             refine Weak.trans (Vt (E' := [(3, .ptr (low.length + 0) 0 0 0), (4, .vs 2 (Wa T_Belt.enc o11.2)), (6, .ptr (low.length + 1) 0 0 0), (7, .int .i64 x19.2), (8, .sl (low.length + 2) 0 0 (s31.2.2.2).length), (10, .int .i64 s31.1), (12, .ptr (low.length + 7) 0 0 0)]) (loc1 := [⟨53, 2, [.agg [.vs 1 (Wa (Wb .i64) x42.1.L), .int .i64 x42.1.At]], 0⟩, ⟨34, 5, [.agg [.int .i64 x57.1.Time, .vs 1 (Wa (Wb .i64) x57.1.States), .vs 1 (Wa (Wb .i64) x57.1.Since), .vs 1 (Wa Wc x57.1.Pulled), .vs 1 (Wa Wc x57.1.Held)]], 0⟩, ⟨3, 1, Wa (Wb .i64) s31.2.2.2, 0⟩, ⟨3, 1, [], 0 + 1⟩, ⟨3, 1, [], 0 + 1⟩, ⟨4, 1, [], 0 + 1⟩, ⟨4, 1, [], 0 + 1⟩, ⟨34, 5, [.agg [.int .i64 x40.Time, .vs 1 (Wa (Wb .i64) x40.States), .vs 1 (Wa (Wb .i64) x40.Since), .vs 1 (Wa Wc x40.Pulled), .vs 1 (Wa Wc x40.Held)]], 0⟩]) rfl 6 rfl (Yf (fun _ => .bool _)) ⟨Vd rfl, Vd rfl, Vd rfl, Vd rfl, Vd rfl, Vd rfl, Vd rfl, trivial⟩ ⟨.refl _, .refl _, .refl _, .refl _, .refl _, .refl _, .refl _, Xs ⟨Vd rfl, Vd rfl, Vd rfl, Vd rfl, Yq rfl rfl rfl (Xb rfl), trivial⟩, trivial⟩) ?_
             exact Vw rfl [(7, 0), (0, 0), (1, 0), (2, 0)] (by decide) ⟨Yl 1 0 rfl rfl, Vs rfl (.vs _ _), Yl 2 1 rfl rfl, Vs rfl (.int _ _), Zr 3 2 rfl rfl, Vs rfl (.int _ _), Yl 0 7 rfl rfl, trivial⟩ ⟨⟨_, rfl, rfl, .agg _ _ _ _ _ ⟨Vs rfl (.int _ _), Vs rfl (.vs _ _), Vs rfl (.vs _ _), Vs rfl (.vs _ _), Vs rfl (.vs _ _), trivial⟩⟩, ⟨_, rfl, rfl, .same _ _ _ _ (Xd ⟨Xl ⟨.vs _ _, .int _ _, trivial⟩, trivial⟩)⟩, ⟨_, rfl, rfl, .same _ _ _ _ (Xd ⟨Xl ⟨.int _ _, .vs _ _, .vs _ _, .vs _ _, .vs _ _, trivial⟩, trivial⟩)⟩, ⟨_, rfl, rfl, .same _ _ _ _ (Vk (fun _ => .int _ _))⟩, trivial⟩
            ·have hF := Ys c56 hF
             refine Vi ?_
             refine Vf ?_
             refine Va (Xe rfl rfl) rfl ?_
             refine Va (Yd rfl) rfl ?_
             refine Vh ?_
             refine Xq rfl (fun c59 => ?_) (fun c59 => ?_)
             ·have hF := Yr c59 hF
              refine Vf ?_
              obtain ⟨x60, h61, hF⟩ := Yt hF
              refine Va (Xw rfl) rfl ?_
              refine Va (Xk (ds := [.int .i64 s31.2.2.1.Time, .vs 1 (Wa (Wb .i64) s31.2.2.1.States), .vs 1 (Wa (Wb .i64) s31.2.2.1.Since), .vs 1 (Wa Wc s31.2.2.1.Pulled), .vs 1 (Wa Wc s31.2.2.1.Held)]) rfl (Vg rfl rfl) rfl ta_34 ts_34 rfl rfl rfl) rfl ?_
              refine Va (Vm rfl) rfl ?_
              refine Vj (Xf (r := .tup [.agg [.int .i64 x60.1.Time, .vs 1 (Wa (Wb .i64) x60.1.States), .vs 1 (Wa (Wb .i64) x60.1.Since), .vs 1 (Wa Wc x60.1.Pulled), .vs 1 (Wa Wc x60.1.Held)], .int .i64 x60.2]) (os := []) rfl Try.call15 (F_belts_Pull_ok h61 _ (Xc rfl rfl))) rfl ?_
              refine Va (rd_mvT rfl) rfl ?_
              refine Va (Yh rfl rfl) rfl ?_
              refine Va (Yh rfl rfl) rfl ?_
              refine Vj (Xo (p := .agg [.int .i64 x60.1.Time, .vs 1 (Wa (Wb .i64) x60.1.States), .vs 1 (Wa (Wb .i64) x60.1.Since), .vs 1 (Wa Wc x60.1.Pulled), .vs 1 (Wa Wc x60.1.Held)]) (e' := .agg [.int .i64 x60.1.Time, .vs 1 (Wa (Wb .i64) x60.1.States), .vs 1 (Wa (Wb .i64) x60.1.Since), .vs 1 (Wa Wc x60.1.Pulled), .vs 1 (Wa Wc x60.1.Held)]) rfl (Vg rfl rfl) rfl rfl ts_34 rfl (Yv rfl) rfl (We rfl) rfl (Ym rfl rfl)) rfl ?_
              refine Vh ?_
              obtain rfl := Wd hF
              refine Ye ?_
              refine Weak.trans (Vt (E' := [(3, .ptr (low.length + 0) 0 0 0), (4, .vs 2 (Wa T_Belt.enc o11.2)), (6, .ptr (low.length + 1) 0 0 0), (7, .int .i64 x19.2), (8, .sl (low.length + 2) 0 0 (s31.2.2.2).length), (10, .int .i64 s31.1), (12, .ptr (low.length + 7) 0 0 0)]) (loc1 := [⟨53, 2, [.agg [.vs 1 (Wa (Wb .i64) x42.1.L), .int .i64 x42.1.At]], 0⟩, ⟨34, 5, [.agg [.int .i64 x60.1.Time, .vs 1 (Wa (Wb .i64) x60.1.States), .vs 1 (Wa (Wb .i64) x60.1.Since), .vs 1 (Wa Wc x60.1.Pulled), .vs 1 (Wa Wc x60.1.Held)]], 0⟩, ⟨3, 1, Wa (Wb .i64) s31.2.2.2, 0⟩, ⟨3, 1, [], 0 + 1⟩, ⟨3, 1, Wa (Wb .i64) x40.Since, 0⟩, ⟨4, 1, Wa Wc x40.Pulled, 0⟩, ⟨4, 1, Wa Wc x40.Held, 0⟩, ⟨34, 5, [.agg [.int .i64 x40.Time, .vs 1 (Wa (Wb .i64) x40.States), .sl (low.length + 4) 0 0 (x40.Since).length, .sl (low.length + 5) 0 0 (x40.Pulled).length, .sl (low.length + 6) 0 0 (x40.Held).length]], 0⟩]) rfl 3 rfl (Yf (fun _ => .int _ _)) ⟨Vd rfl, Vd rfl, Vd rfl, Vd rfl, Vd rfl, Vd rfl, Vd rfl, trivial⟩ ⟨.refl _, .refl _, .refl _, .refl _, .refl _, .refl _, .refl _, Xs ⟨Vd rfl, Yq rfl rfl rfl (Xb rfl), Vd rfl, Vd rfl, Vd rfl, trivial⟩, trivial⟩) ?_
              refine Weak.trans (Vt (E' := [(3, .ptr (low.length + 0) 0 0 0), (4, .vs 2 (Wa T_Belt.enc o11.2)), (6, .ptr (low.length + 1) 0 0 0), (7, .int .i64 x19.2), (8, .sl (low.length + 2) 0 0 (s31.2.2.2).length), (10, .int .i64 s31.1), (12, .ptr (low.length + 7) 0 0 0)]) (loc1 := [⟨53, 2, [.agg [.vs 1 (Wa (Wb .i64) x42.1.L), .int .i64 x42.1.At]], 0⟩, ⟨34, 5, [.agg [.int .i64 x60.1.Time, .vs 1 (Wa (Wb .i64) x60.1.States), .vs 1 (Wa (Wb .i64) x60.1.Since), .vs 1 (Wa Wc x60.1.Pulled), .vs 1 (Wa Wc x60.1.Held)]], 0⟩, ⟨3, 1, Wa (Wb .i64) s31.2.2.2, 0⟩, ⟨3, 1, [], 0 + 1⟩, ⟨3, 1, [], 0 + 1⟩, ⟨4, 1, Wa Wc x40.Pulled, 0⟩, ⟨4, 1, Wa Wc x40.Held, 0⟩, ⟨34, 5, [.agg [.int .i64 x40.Time, .vs 1 (Wa (Wb .i64) x40.States), .vs 1 (Wa (Wb .i64) x40.Since), .sl (low.length + 5) 0 0 (x40.Pulled).length, .sl (low.length + 6) 0 0 (x40.Held).length]], 0⟩]) rfl 4 rfl (Yf (fun _ => .int _ _)) ⟨Vd rfl, Vd rfl, Vd rfl, Vd rfl, Vd rfl, Vd rfl, Vd rfl, trivial⟩ ⟨.refl _, .refl _, .refl _, .refl _, .refl _, .refl _, .refl _, Xs ⟨Vd rfl, Vd rfl, Yq rfl rfl rfl (Xb rfl), Vd rfl, Vd rfl, trivial⟩, trivial⟩) ?_
              refine Weak.trans (Vt (E' := [(3, .ptr (low.length + 0) 0 0 0), (4, .vs 2 (Wa T_Belt.enc o11.2)), (6, .ptr (low.length + 1) 0 0 0), (7, .int .i64 x19.2), (8, .sl (low.length + 2) 0 0 (s31.2.2.2).length), (10, .int .i64 s31.1), (12, .ptr (low.length + 7) 0 0 0)]) (loc1 := [⟨53, 2, [.agg [.vs 1 (Wa (Wb .i64) x42.1.L), .int .i64 x42.1.At]], 0⟩, ⟨34, 5, [.agg [.int .i64 x60.1.Time, .vs 1 (Wa (Wb .i64) x60.1.States), .vs 1 (Wa (Wb .i64) x60.1.Since), .vs 1 (Wa Wc x60.1.Pulled), .vs 1 (Wa Wc x60.1.Held)]], 0⟩, ⟨3, 1, Wa (Wb .i64) s31.2.2.2, 0⟩, ⟨3, 1, [], 0 + 1⟩, ⟨3, 1, [], 0 + 1⟩, ⟨4, 1, [], 0 + 1⟩, ⟨4, 1, Wa Wc x40.Held, 0⟩, ⟨34, 5, [.agg [.int .i64 x40.Time, .vs 1 (Wa (Wb .i64) x40.States), .vs 1 (Wa (Wb .i64) x40.Since), .vs 1 (Wa Wc x40.Pulled), .sl (low.length + 6) 0 0 (x40.Held).length]], 0⟩]) rfl 5 rfl (Yf (fun _ => .bool _)) ⟨Vd rfl, Vd rfl, Vd rfl, Vd rfl, Vd rfl, Vd rfl, Vd rfl, trivial⟩ ⟨.refl _, .refl _, .refl _, .refl _, .refl _, .refl _, .refl _, Xs ⟨Vd rfl, Vd rfl, Vd rfl, Yq rfl rfl rfl (Xb rfl), Vd rfl, trivial⟩, trivial⟩) ?_
              refine Weak.trans (Vt (E' := [(3, .ptr (low.length + 0) 0 0 0), (4, .vs 2 (Wa T_Belt.enc o11.2)), (6, .ptr (low.length + 1) 0 0 0), (7, .int .i64 x19.2), (8, .sl (low.length + 2) 0 0 (s31.2.2.2).length), (10, .int .i64 s31.1), (12, .ptr (low.length + 7) 0 0 0)]) (loc1 := [⟨53, 2, [.agg [.vs 1 (Wa (Wb .i64) x42.1.L), .int .i64 x42.1.At]], 0⟩, ⟨34, 5, [.agg [.int .i64 x60.1.Time, .vs 1 (Wa (Wb .i64) x60.1.States), .vs 1 (Wa (Wb .i64) x60.1.Since), .vs 1 (Wa Wc x60.1.Pulled), .vs 1 (Wa Wc x60.1.Held)]], 0⟩, ⟨3, 1, Wa (Wb .i64) s31.2.2.2, 0⟩, ⟨3, 1, [], 0 + 1⟩, ⟨3, 1, [], 0 + 1⟩, ⟨4, 1, [], 0 + 1⟩, ⟨4, 1, [], 0 + 1⟩, ⟨34, 5, [.agg [.int .i64 x40.Time, .vs 1 (Wa (Wb .i64) x40.States), .vs 1 (Wa (Wb .i64) x40.Since), .vs 1 (Wa Wc x40.Pulled), .vs 1 (Wa Wc x40.Held)]], 0⟩]) rfl 6 rfl (Yf (fun _ => .bool _)) ⟨Vd rfl, Vd rfl, Vd rfl, Vd rfl, Vd rfl, Vd rfl, Vd rfl, trivial⟩ ⟨.refl _, .refl _, .refl _, .refl _, .refl _, .refl _, .refl _, Xs ⟨Vd rfl, Vd rfl, Vd rfl, Vd rfl, Yq rfl rfl rfl (Xb rfl), trivial⟩, trivial⟩) ?_
              exact Vw rfl [(7, 0), (0, 0), (1, 0), (2, 0)] (by decide) ⟨Yl 1 0 rfl rfl, Vs rfl (.vs _ _), Yl 2 1 rfl rfl, Vs rfl (.int _ _), Zr 3 2 rfl rfl, Vs rfl (.int _ _), Yl 0 7 rfl rfl, trivial⟩ ⟨⟨_, rfl, rfl, .agg _ _ _ _ _ ⟨Vs rfl (.int _ _), Vs rfl (.vs _ _), Vs rfl (.vs _ _), Vs rfl (.vs _ _), Vs rfl (.vs _ _), trivial⟩⟩, ⟨_, rfl, rfl, .same _ _ _ _ (Xd ⟨Xl ⟨.vs _ _, .int _ _, trivial⟩, trivial⟩)⟩, ⟨_, rfl, rfl, .same _ _ _ _ (Xd ⟨Xl ⟨.int _ _, .vs _ _, .vs _ _, .vs _ _, .vs _ _, trivial⟩, trivial⟩)⟩, ⟨_, rfl, rfl, .same _ _ _ _ (Vk (fun _ => .int _ _))⟩, trivial⟩
             ·have hF := Ys c59 hF
              refine Vi ?_
              refine Vf ?_
              refine Va (Xe rfl rfl) rfl ?_
              refine Va (Yd rfl) rfl ?_
              refine Vh ?_
              refine Xq rfl (fun c62 => ?_) (fun c62 => ?_)
              ·have hF := Yr c62 hF
               refine Vf ?_
               obtain ⟨x63, h64, hF⟩ := Yt hF
               refine Va (Xw rfl) rfl ?_
               refine Va (Xk (ds := [.int .i64 s31.2.2.1.Time, .vs 1 (Wa (Wb .i64) s31.2.2.1.States), .vs 1 (Wa (Wb .i64) s31.2.2.1.Since), .vs 1 (Wa Wc s31.2.2.1.Pulled), .vs 1 (Wa Wc s31.2.2.1.Held)]) rfl (Vg rfl rfl) rfl ta_34 ts_34 rfl rfl rfl) rfl ?_
               refine Va (Vm rfl) rfl ?_
               refine Vj (Xf (r := .tup [.agg [.int .i64 x63.1.Time, .vs 1 (Wa (Wb .i64) x63.1.States), .vs 1 (Wa (Wb .i64) x63.1.Since), .vs 1 (Wa Wc x63.1.Pulled), .vs 1 (Wa Wc x63.1.Held)], .int .i64 x63.2]) (os := []) rfl Try.call25 (F_belts_Restore_ok h64 _ (Xc rfl rfl))) rfl ?_
               refine Va (rd_mvT rfl) rfl ?_
               refine Va (Yh rfl rfl) rfl ?_
               refine Va (Yh rfl rfl) rfl ?_
               refine Vj (Xo (p := .agg [.int .i64 x63.1.Time, .vs 1 (Wa (Wb .i64) x63.1.States), .vs 1 (Wa (Wb .i64) x63.1.Since), .vs 1 (Wa Wc x63.1.Pulled), .vs 1 (Wa Wc x63.1.Held)]) (e' := .agg [.int .i64 x63.1.Time, .vs 1 (Wa (Wb .i64) x63.1.States), .vs 1 (Wa (Wb .i64) x63.1.Since), .vs 1 (Wa Wc x63.1.Pulled), .vs 1 (Wa Wc x63.1.Held)]) rfl (Vg rfl rfl) rfl rfl ts_34 rfl (Yv rfl) rfl (We rfl) rfl (Ym rfl rfl)) rfl ?_
               refine Vh ?_
               obtain rfl := Wd hF
               refine Ye ?_
               refine Weak.trans (Vt (E' := [(3, .ptr (low.length + 0) 0 0 0), (4, .vs 2 (Wa T_Belt.enc o11.2)), (6, .ptr (low.length + 1) 0 0 0), (7, .int .i64 x19.2), (8, .sl (low.length + 2) 0 0 (s31.2.2.2).length), (10, .int .i64 s31.1), (12, .ptr (low.length + 7) 0 0 0)]) (loc1 := [⟨53, 2, [.agg [.vs 1 (Wa (Wb .i64) x42.1.L), .int .i64 x42.1.At]], 0⟩, ⟨34, 5, [.agg [.int .i64 x63.1.Time, .vs 1 (Wa (Wb .i64) x63.1.States), .vs 1 (Wa (Wb .i64) x63.1.Since), .vs 1 (Wa Wc x63.1.Pulled), .vs 1 (Wa Wc x63.1.Held)]], 0⟩, ⟨3, 1, Wa (Wb .i64) s31.2.2.2, 0⟩, ⟨3, 1, [], 0 + 1⟩, ⟨3, 1, Wa (Wb .i64) x40.Since, 0⟩, ⟨4, 1, Wa Wc x40.Pulled, 0⟩, ⟨4, 1, Wa Wc x40.Held, 0⟩, ⟨34, 5, [.agg [.int .i64 x40.Time, .vs 1 (Wa (Wb .i64) x40.States), .sl (low.length + 4) 0 0 (x40.Since).length, .sl (low.length + 5) 0 0 (x40.Pulled).length, .sl (low.length + 6) 0 0 (x40.Held).length]], 0⟩]) rfl 3 rfl (Yf (fun _ => .int _ _)) ⟨Vd rfl, Vd rfl, Vd rfl, Vd rfl, Vd rfl, Vd rfl, Vd rfl, trivial⟩ ⟨.refl _, .refl _, .refl _, .refl _, .refl _, .refl _, .refl _, Xs ⟨Vd rfl, Yq rfl rfl rfl (Xb rfl), Vd rfl, Vd rfl, Vd rfl, trivial⟩, trivial⟩) ?_
               refine Weak.trans (Vt (E' := [(3, .ptr (low.length + 0) 0 0 0), (4, .vs 2 (Wa T_Belt.enc o11.2)), (6, .ptr (low.length + 1) 0 0 0), (7, .int .i64 x19.2), (8, .sl (low.length + 2) 0 0 (s31.2.2.2).length), (10, .int .i64 s31.1), (12, .ptr (low.length + 7) 0 0 0)]) (loc1 := [⟨53, 2, [.agg [.vs 1 (Wa (Wb .i64) x42.1.L), .int .i64 x42.1.At]], 0⟩, ⟨34, 5, [.agg [.int .i64 x63.1.Time, .vs 1 (Wa (Wb .i64) x63.1.States), .vs 1 (Wa (Wb .i64) x63.1.Since), .vs 1 (Wa Wc x63.1.Pulled), .vs 1 (Wa Wc x63.1.Held)]], 0⟩, ⟨3, 1, Wa (Wb .i64) s31.2.2.2, 0⟩, ⟨3, 1, [], 0 + 1⟩, ⟨3, 1, [], 0 + 1⟩, ⟨4, 1, Wa Wc x40.Pulled, 0⟩, ⟨4, 1, Wa Wc x40.Held, 0⟩, ⟨34, 5, [.agg [.int .i64 x40.Time, .vs 1 (Wa (Wb .i64) x40.States), .vs 1 (Wa (Wb .i64) x40.Since), .sl (low.length + 5) 0 0 (x40.Pulled).length, .sl (low.length + 6) 0 0 (x40.Held).length]], 0⟩]) rfl 4 rfl (Yf (fun _ => .int _ _)) ⟨Vd rfl, Vd rfl, Vd rfl, Vd rfl, Vd rfl, Vd rfl, Vd rfl, trivial⟩ ⟨.refl _, .refl _, .refl _, .refl _, .refl _, .refl _, .refl _, Xs ⟨Vd rfl, Vd rfl, Yq rfl rfl rfl (Xb rfl), Vd rfl, Vd rfl, trivial⟩, trivial⟩) ?_
               refine Weak.trans (Vt (E' := [(3, .ptr (low.length + 0) 0 0 0), (4, .vs 2 (Wa T_Belt.enc o11.2)), (6, .ptr (low.length + 1) 0 0 0), (7, .int .i64 x19.2), (8, .sl (low.length + 2) 0 0 (s31.2.2.2).length), (10, .int .i64 s31.1), (12, .ptr (low.length + 7) 0 0 0)]) (loc1 := [⟨53, 2, [.agg [.vs 1 (Wa (Wb .i64) x42.1.L), .int .i64 x42.1.At]], 0⟩, ⟨34, 5, [.agg [.int .i64 x63.1.Time, .vs 1 (Wa (Wb .i64) x63.1.States), .vs 1 (Wa (Wb .i64) x63.1.Since), .vs 1 (Wa Wc x63.1.Pulled), .vs 1 (Wa Wc x63.1.Held)]], 0⟩, ⟨3, 1, Wa (Wb .i64) s31.2.2.2, 0⟩, ⟨3, 1, [], 0 + 1⟩, ⟨3, 1, [], 0 + 1⟩, ⟨4, 1, [], 0 + 1⟩, ⟨4, 1, Wa Wc x40.Held, 0⟩, ⟨34, 5, [.agg [.int .i64 x40.Time, .vs 1 (Wa (Wb .i64) x40.States), .vs 1 (Wa (Wb .i64) x40.Since), .vs 1 (Wa Wc x40.Pulled), .sl (low.length + 6) 0 0 (x40.Held).length]], 0⟩]) rfl 5 rfl (Yf (fun _ => .bool _)) ⟨Vd rfl, Vd rfl, Vd rfl, Vd rfl, Vd rfl, Vd rfl, Vd rfl, trivial⟩ ⟨.refl _, .refl _, .refl _, .refl _, .refl _, .refl _, .refl _, Xs ⟨Vd rfl, Vd rfl, Vd rfl, Yq rfl rfl rfl (Xb rfl), Vd rfl, trivial⟩, trivial⟩) ?_
               refine Weak.trans (Vt (E' := [(3, .ptr (low.length + 0) 0 0 0), (4, .vs 2 (Wa T_Belt.enc o11.2)), (6, .ptr (low.length + 1) 0 0 0), (7, .int .i64 x19.2), (8, .sl (low.length + 2) 0 0 (s31.2.2.2).length), (10, .int .i64 s31.1), (12, .ptr (low.length + 7) 0 0 0)]) (loc1 := [⟨53, 2, [.agg [.vs 1 (Wa (Wb .i64) x42.1.L), .int .i64 x42.1.At]], 0⟩, ⟨34, 5, [.agg [.int .i64 x63.1.Time, .vs 1 (Wa (Wb .i64) x63.1.States), .vs 1 (Wa (Wb .i64) x63.1.Since), .vs 1 (Wa Wc x63.1.Pulled), .vs 1 (Wa Wc x63.1.Held)]], 0⟩, ⟨3, 1, Wa (Wb .i64) s31.2.2.2, 0⟩, ⟨3, 1, [], 0 + 1⟩, ⟨3, 1, [], 0 + 1⟩, ⟨4, 1, [], 0 + 1⟩, ⟨4, 1, [], 0 + 1⟩, ⟨34, 5, [.agg [.int .i64 x40.Time, .vs 1 (Wa (Wb .i64) x40.States), .vs 1 (Wa (Wb .i64) x40.Since), .vs 1 (Wa Wc x40.Pulled), .vs 1 (Wa Wc x40.Held)]], 0⟩]) rfl 6 rfl (Yf (fun _ => .bool _)) ⟨Vd rfl, Vd rfl, Vd rfl, Vd rfl, Vd rfl, Vd rfl, Vd rfl, trivial⟩ ⟨.refl _, .refl _, .refl _, .refl _, .refl _, .refl _, .refl _, Xs ⟨Vd rfl, Vd rfl, Vd rfl, Vd rfl, Yq rfl rfl rfl (Xb rfl), trivial⟩, trivial⟩) ?_
               exact Vw rfl [(7, 0), (0, 0), (1, 0), (2, 0)] (by decide) ⟨Yl 1 0 rfl rfl, Vs rfl (.vs _ _), Yl 2 1 rfl rfl, Vs rfl (.int _ _), Zr 3 2 rfl rfl, Vs rfl (.int _ _), Yl 0 7 rfl rfl, trivial⟩ ⟨⟨_, rfl, rfl, .agg _ _ _ _ _ ⟨Vs rfl (.int _ _), Vs rfl (.vs _ _), Vs rfl (.vs _ _), Vs rfl (.vs _ _), Vs rfl (.vs _ _), trivial⟩⟩, ⟨_, rfl, rfl, .same _ _ _ _ (Xd ⟨Xl ⟨.vs _ _, .int _ _, trivial⟩, trivial⟩)⟩, ⟨_, rfl, rfl, .same _ _ _ _ (Xd ⟨Xl ⟨.int _ _, .vs _ _, .vs _ _, .vs _ _, .vs _ _, trivial⟩, trivial⟩)⟩, ⟨_, rfl, rfl, .same _ _ _ _ (Vk (fun _ => .int _ _))⟩, trivial⟩
              ·have hF := Ys c62 hF
               obtain ⟨x65, h66, hF⟩ := Yt hF
               obtain ⟨x67, h68, hF⟩ := Yt hF
               refine vwp_drawn [[], [], [], [], [3], [0, 1, 2, 3, 4], [0, 1, 2, 3, 4, 5], [0, 1, 2, 3, 4, 5, 6], [0, 1, 2, 3, 4, 5, 6], [0, 1, 2, 3, 4, 5, 6, 7]] [false, false, false, false, true, true, false, false, false, true] [(low, [⟨53, 2, [.agg [.vs 1 (Wa (Wb .i64) x42.1.L), .int .i64 x42.1.At]], 0⟩, ⟨34, 5, [.agg [.int .i64 s31.2.2.1.Time, .vs 1 (Wa (Wb .i64) s31.2.2.1.States), .vs 1 (Wa (Wb .i64) s31.2.2.1.Since), .vs 1 (Wa Wc s31.2.2.1.Pulled), .vs 1 (Wa Wc s31.2.2.1.Held)]], 0⟩, ⟨3, 1, Wa (Wb .i64) s31.2.2.2, 0⟩, ⟨3, 1, Wa (Wb .i64) x40.States, 0⟩, ⟨3, 1, Wa (Wb .i64) x40.Since, 0⟩, ⟨4, 1, Wa Wc x40.Pulled, 0⟩, ⟨4, 1, Wa Wc x40.Held, 0⟩, ⟨34, 5, [.agg [.int .i64 x40.Time, .sl (low.length + 3) 0 0 (x40.States).length, .sl (low.length + 4) 0 0 (x40.Since).length, .sl (low.length + 5) 0 0 (x40.Pulled).length, .sl (low.length + 6) 0 0 (x40.Held).length]], 0⟩]), (low, [⟨53, 2, [.agg [.vs 1 (Wa (Wb .i64) x65.1.L), .int .i64 x65.1.At]], 0⟩, ⟨34, 5, [.agg [.int .i64 s31.2.2.1.Time, .vs 1 (Wa (Wb .i64) s31.2.2.1.States), .vs 1 (Wa (Wb .i64) s31.2.2.1.Since), .vs 1 (Wa Wc s31.2.2.1.Pulled), .vs 1 (Wa Wc s31.2.2.1.Held)]], 0⟩, ⟨3, 1, Wa (Wb .i64) s31.2.2.2, 0⟩, ⟨3, 1, Wa (Wb .i64) x40.States, 0⟩, ⟨3, 1, Wa (Wb .i64) x40.Since, 0⟩, ⟨4, 1, Wa Wc x40.Pulled, 0⟩, ⟨4, 1, Wa Wc x40.Held, 0⟩, ⟨34, 5, [.agg [.int .i64 x40.Time, .sl (low.length + 3) 0 0 (x40.States).length, .sl (low.length + 4) 0 0 (x40.Since).length, .sl (low.length + 5) 0 0 (x40.Pulled).length, .sl (low.length + 6) 0 0 (x40.Held).length]], 0⟩]), (low, [⟨53, 2, [.agg [.vs 1 (Wa (Wb .i64) x65.1.L), .int .i64 x65.1.At]], 0⟩, ⟨34, 5, [.agg [.int .i64 s31.2.2.1.Time, .vs 1 (Wa (Wb .i64) s31.2.2.1.States), .vs 1 (Wa (Wb .i64) s31.2.2.1.Since), .vs 1 (Wa Wc s31.2.2.1.Pulled), .vs 1 (Wa Wc s31.2.2.1.Held)]], 0⟩, ⟨3, 1, Wa (Wb .i64) s31.2.2.2, 0⟩, ⟨3, 1, Wa (Wb .i64) x40.States, 0⟩, ⟨3, 1, Wa (Wb .i64) x40.Since, 0⟩, ⟨4, 1, Wa Wc x40.Pulled, 0⟩, ⟨4, 1, Wa Wc x40.Held, 0⟩, ⟨34, 5, [.agg [.int .i64 x40.Time, .sl (low.length + 3) 0 0 (x40.States).length, .sl (low.length + 4) 0 0 (x40.Since).length, .sl (low.length + 5) 0 0 (x40.Pulled).length, .sl (low.length + 6) 0 0 (x40.Held).length]], 0⟩]), (low, [⟨53, 2, [.agg [.vs 1 (Wa (Wb .i64) x65.1.L), .int .i64 x65.1.At]], 0⟩, ⟨34, 5, [.agg [.int .i64 x67.1.Time, .vs 1 (Wa (Wb .i64) x67.1.States), .vs 1 (Wa (Wb .i64) x67.1.Since), .vs 1 (Wa Wc x67.1.Pulled), .vs 1 (Wa Wc x67.1.Held)]], 0⟩, ⟨3, 1, Wa (Wb .i64) s31.2.2.2, 0⟩, ⟨3, 1, Wa (Wb .i64) x40.States, 0⟩, ⟨3, 1, Wa (Wb .i64) x40.Since, 0⟩, ⟨4, 1, Wa Wc x40.Pulled, 0⟩, ⟨4, 1, Wa Wc x40.Held, 0⟩, ⟨34, 5, [.agg [.int .i64 x40.Time, .sl (low.length + 3) 0 0 (x40.States).length, .sl (low.length + 4) 0 0 (x40.Since).length, .sl (low.length + 5) 0 0 (x40.Pulled).length, .sl (low.length + 6) 0 0 (x40.Held).length]], 0⟩])] mixed (by kernel_rfl) rfl (lenAll (Yy rfl (Yy rfl (Yy rfl (Yy rfl all0))))) rfl _ rfl rfl ?_
               refine Zm _ rfl rfl (Yy (VRd.ntl (Xw rfl)) (Yy (VRd.ntl (Xw rfl)) all0)) ?_
               refine Zm _ rfl rfl (Yy (VRd.ntl (Xk (ds := [.int .i64 s31.2.2.1.Time, .vs 1 (Wa (Wb .i64) s31.2.2.1.States), .vs 1 (Wa (Wb .i64) s31.2.2.1.Since), .vs 1 (Wa Wc s31.2.2.1.Pulled), .vs 1 (Wa Wc s31.2.2.1.Held)]) rfl (Vg rfl rfl) rfl ta_34 ts_34 rfl rfl rfl)) (Yy (VRd.ntl (Xk (ds := [.int .i64 s31.2.2.1.Time, .vs 1 (Wa (Wb .i64) s31.2.2.1.States), .vs 1 (Wa (Wb .i64) s31.2.2.1.Since), .vs 1 (Wa Wc s31.2.2.1.Pulled), .vs 1 (Wa Wc s31.2.2.1.Held)]) rfl (Vg rfl rfl) rfl ta_34 ts_34 rfl rfl rfl)) all0)) ?_
               refine Zm _ rfl rfl (Yy (VRd.ntl (Vm rfl)) (Yy (VRd.ntl (Vm rfl)) all0)) ?_
               refine Ze rfl rfl (Zi rfl) ?_
               refine dops_ef rfl rfl rfl (Yu (ps := [((low.length + 0), ⟨53, 2, [.agg [.vs 1 (Wa (Wb .i64) x65.1.L), .int .i64 x65.1.At]], 0⟩)]) (r := .bool x65.2) (os := []) (low1 := low) (loc1 := [⟨53, 2, [.agg [.vs 1 (Wa (Wb .i64) x65.1.L), .int .i64 x65.1.At]], 0⟩, ⟨34, 5, [.agg [.int .i64 s31.2.2.1.Time, .vs 1 (Wa (Wb .i64) s31.2.2.1.States), .vs 1 (Wa (Wb .i64) s31.2.2.1.Since), .vs 1 (Wa Wc s31.2.2.1.Pulled), .vs 1 (Wa Wc s31.2.2.1.Held)]], 0⟩, ⟨3, 1, Wa (Wb .i64) s31.2.2.2, 0⟩, ⟨3, 1, Wa (Wb .i64) x40.States, 0⟩, ⟨3, 1, Wa (Wb .i64) x40.Since, 0⟩, ⟨4, 1, Wa Wc x40.Pulled, 0⟩, ⟨4, 1, Wa Wc x40.Held, 0⟩, ⟨34, 5, [.agg [.int .i64 x40.Time, .sl (low.length + 3) 0 0 (x40.States).length, .sl (low.length + 4) 0 0 (x40.Since).length, .sl (low.length + 5) 0 0 (x40.Pulled).length, .sl (low.length + 6) 0 0 (x40.Held).length]], 0⟩]) (loc2 := [⟨53, 2, [.agg [.vs 1 (Wa (Wb .i64) x65.1.L), .int .i64 x65.1.At]], 0⟩, ⟨34, 5, [.agg [.int .i64 s31.2.2.1.Time, .vs 1 (Wa (Wb .i64) s31.2.2.1.States), .vs 1 (Wa (Wb .i64) s31.2.2.1.Since), .vs 1 (Wa Wc s31.2.2.1.Pulled), .vs 1 (Wa Wc s31.2.2.1.Held)]], 0⟩, ⟨3, 1, Wa (Wb .i64) s31.2.2.2, 0⟩, ⟨3, 1, Wa (Wb .i64) x40.States, 0⟩, ⟨3, 1, Wa (Wb .i64) x40.Since, 0⟩, ⟨4, 1, Wa Wc x40.Pulled, 0⟩, ⟨4, 1, Wa Wc x40.Held, 0⟩, ⟨34, 5, [.agg [.int .i64 x40.Time, .sl (low.length + 3) 0 0 (x40.States).length, .sl (low.length + 4) 0 0 (x40.Since).length, .sl (low.length + 5) 0 0 (x40.Pulled).length, .sl (low.length + 6) 0 0 (x40.Held).length]], 0⟩]) rfl Try.call27 (F_made_Dice_One_ok h66 (nd1 na0 nd0) (Zd rfl rfl) (Xc rfl rfl)) (Xu (loc2 := [⟨53, 2, [.agg [.vs 1 (Wa (Wb .i64) x65.1.L), .int .i64 x65.1.At]], 0⟩, ⟨34, 5, [.agg [.int .i64 s31.2.2.1.Time, .vs 1 (Wa (Wb .i64) s31.2.2.1.States), .vs 1 (Wa (Wb .i64) s31.2.2.1.Since), .vs 1 (Wa Wc s31.2.2.1.Pulled), .vs 1 (Wa Wc s31.2.2.1.Held)]], 0⟩, ⟨3, 1, Wa (Wb .i64) s31.2.2.2, 0⟩, ⟨3, 1, Wa (Wb .i64) x40.States, 0⟩, ⟨3, 1, Wa (Wb .i64) x40.Since, 0⟩, ⟨4, 1, Wa Wc x40.Pulled, 0⟩, ⟨4, 1, Wa Wc x40.Held, 0⟩, ⟨34, 5, [.agg [.int .i64 x40.Time, .sl (low.length + 3) 0 0 (x40.States).length, .sl (low.length + 4) 0 0 (x40.Since).length, .sl (low.length + 5) 0 0 (x40.Pulled).length, .sl (low.length + 6) 0 0 (x40.Held).length]], 0⟩]) rfl 0 rfl Za) rfl) ?_
               refine dops_ef rfl rfl rfl (Xf (r := .tup [.agg [.int .i64 x67.1.Time, .vs 1 (Wa (Wb .i64) x67.1.States), .vs 1 (Wa (Wb .i64) x67.1.Since), .vs 1 (Wa Wc x67.1.Pulled), .vs 1 (Wa Wc x67.1.Held)], .int .i64 x67.2]) (os := []) rfl Try.call26 (F_belts_Hold_ok h68 _ (Xc rfl rfl))) ?_
               refine Ze rfl rfl (rd_mvT rfl) ?_
               refine Ze rfl rfl (Yh rfl rfl) ?_
               refine Zm _ rfl rfl (Yy (VRd.ntl (Yh rfl rfl)) (Yy (VRd.ntl (Yh rfl rfl)) all0)) ?_
               refine dops_ef rfl rfl rfl (Xo (p := .agg [.int .i64 x67.1.Time, .vs 1 (Wa (Wb .i64) x67.1.States), .vs 1 (Wa (Wb .i64) x67.1.Since), .vs 1 (Wa Wc x67.1.Pulled), .vs 1 (Wa Wc x67.1.Held)]) (e' := .agg [.int .i64 x67.1.Time, .vs 1 (Wa (Wb .i64) x67.1.States), .vs 1 (Wa (Wb .i64) x67.1.Since), .vs 1 (Wa Wc x67.1.Pulled), .vs 1 (Wa Wc x67.1.Held)]) rfl (Vg rfl rfl) rfl rfl ts_34 rfl (Yv rfl) rfl (We rfl) rfl (Ym rfl rfl)) ?_
               refine Zh ?_
               obtain rfl := Wd hF
               refine Ye ?_
               refine Weak.trans (Vt (E' := [(3, .ptr (low.length + 0) 0 0 0), (4, .vs 2 (Wa T_Belt.enc o11.2)), (6, .ptr (low.length + 1) 0 0 0), (7, .int .i64 x19.2), (8, .sl (low.length + 2) 0 0 (s31.2.2.2).length), (10, .int .i64 s31.1), (12, .ptr (low.length + 7) 0 0 0)]) (loc1 := [⟨53, 2, [.agg [.vs 1 (Wa (Wb .i64) x65.1.L), .int .i64 x65.1.At]], 0⟩, ⟨34, 5, [.agg [.int .i64 x67.1.Time, .vs 1 (Wa (Wb .i64) x67.1.States), .vs 1 (Wa (Wb .i64) x67.1.Since), .vs 1 (Wa Wc x67.1.Pulled), .vs 1 (Wa Wc x67.1.Held)]], 0⟩, ⟨3, 1, Wa (Wb .i64) s31.2.2.2, 0⟩, ⟨3, 1, [], 0 + 1⟩, ⟨3, 1, Wa (Wb .i64) x40.Since, 0⟩, ⟨4, 1, Wa Wc x40.Pulled, 0⟩, ⟨4, 1, Wa Wc x40.Held, 0⟩, ⟨34, 5, [.agg [.int .i64 x40.Time, .vs 1 (Wa (Wb .i64) x40.States), .sl (low.length + 4) 0 0 (x40.Since).length, .sl (low.length + 5) 0 0 (x40.Pulled).length, .sl (low.length + 6) 0 0 (x40.Held).length]], 0⟩]) rfl 3 rfl (Yf (fun _ => .int _ _)) ⟨Vd rfl, Vd rfl, Vd rfl, Vd rfl, Vd rfl, Vd rfl, Vd rfl, trivial⟩ ⟨.refl _, .refl _, .refl _, .refl _, .refl _, .refl _, .refl _, Xs ⟨Vd rfl, Yq rfl rfl rfl (Xb rfl), Vd rfl, Vd rfl, Vd rfl, trivial⟩, trivial⟩) ?_
               refine Weak.trans (Vt (E' := [(3, .ptr (low.length + 0) 0 0 0), (4, .vs 2 (Wa T_Belt.enc o11.2)), (6, .ptr (low.length + 1) 0 0 0), (7, .int .i64 x19.2), (8, .sl (low.length + 2) 0 0 (s31.2.2.2).length), (10, .int .i64 s31.1), (12, .ptr (low.length + 7) 0 0 0)]) (loc1 := [⟨53, 2, [.agg [.vs 1 (Wa (Wb .i64) x65.1.L), .int .i64 x65.1.At]], 0⟩, ⟨34, 5, [.agg [.int .i64 x67.1.Time, .vs 1 (Wa (Wb .i64) x67.1.States), .vs 1 (Wa (Wb .i64) x67.1.Since), .vs 1 (Wa Wc x67.1.Pulled), .vs 1 (Wa Wc x67.1.Held)]], 0⟩, ⟨3, 1, Wa (Wb .i64) s31.2.2.2, 0⟩, ⟨3, 1, [], 0 + 1⟩, ⟨3, 1, [], 0 + 1⟩, ⟨4, 1, Wa Wc x40.Pulled, 0⟩, ⟨4, 1, Wa Wc x40.Held, 0⟩, ⟨34, 5, [.agg [.int .i64 x40.Time, .vs 1 (Wa (Wb .i64) x40.States), .vs 1 (Wa (Wb .i64) x40.Since), .sl (low.length + 5) 0 0 (x40.Pulled).length, .sl (low.length + 6) 0 0 (x40.Held).length]], 0⟩]) rfl 4 rfl (Yf (fun _ => .int _ _)) ⟨Vd rfl, Vd rfl, Vd rfl, Vd rfl, Vd rfl, Vd rfl, Vd rfl, trivial⟩ ⟨.refl _, .refl _, .refl _, .refl _, .refl _, .refl _, .refl _, Xs ⟨Vd rfl, Vd rfl, Yq rfl rfl rfl (Xb rfl), Vd rfl, Vd rfl, trivial⟩, trivial⟩) ?_
               refine Weak.trans (Vt (E' := [(3, .ptr (low.length + 0) 0 0 0), (4, .vs 2 (Wa T_Belt.enc o11.2)), (6, .ptr (low.length + 1) 0 0 0), (7, .int .i64 x19.2), (8, .sl (low.length + 2) 0 0 (s31.2.2.2).length), (10, .int .i64 s31.1), (12, .ptr (low.length + 7) 0 0 0)]) (loc1 := [⟨53, 2, [.agg [.vs 1 (Wa (Wb .i64) x65.1.L), .int .i64 x65.1.At]], 0⟩, ⟨34, 5, [.agg [.int .i64 x67.1.Time, .vs 1 (Wa (Wb .i64) x67.1.States), .vs 1 (Wa (Wb .i64) x67.1.Since), .vs 1 (Wa Wc x67.1.Pulled), .vs 1 (Wa Wc x67.1.Held)]], 0⟩, ⟨3, 1, Wa (Wb .i64) s31.2.2.2, 0⟩, ⟨3, 1, [], 0 + 1⟩, ⟨3, 1, [], 0 + 1⟩, ⟨4, 1, [], 0 + 1⟩, ⟨4, 1, Wa Wc x40.Held, 0⟩, ⟨34, 5, [.agg [.int .i64 x40.Time, .vs 1 (Wa (Wb .i64) x40.States), .vs 1 (Wa (Wb .i64) x40.Since), .vs 1 (Wa Wc x40.Pulled), .sl (low.length + 6) 0 0 (x40.Held).length]], 0⟩]) rfl 5 rfl (Yf (fun _ => .bool _)) ⟨Vd rfl, Vd rfl, Vd rfl, Vd rfl, Vd rfl, Vd rfl, Vd rfl, trivial⟩ ⟨.refl _, .refl _, .refl _, .refl _, .refl _, .refl _, .refl _, Xs ⟨Vd rfl, Vd rfl, Vd rfl, Yq rfl rfl rfl (Xb rfl), Vd rfl, trivial⟩, trivial⟩) ?_
               refine Weak.trans (Vt (E' := [(3, .ptr (low.length + 0) 0 0 0), (4, .vs 2 (Wa T_Belt.enc o11.2)), (6, .ptr (low.length + 1) 0 0 0), (7, .int .i64 x19.2), (8, .sl (low.length + 2) 0 0 (s31.2.2.2).length), (10, .int .i64 s31.1), (12, .ptr (low.length + 7) 0 0 0)]) (loc1 := [⟨53, 2, [.agg [.vs 1 (Wa (Wb .i64) x65.1.L), .int .i64 x65.1.At]], 0⟩, ⟨34, 5, [.agg [.int .i64 x67.1.Time, .vs 1 (Wa (Wb .i64) x67.1.States), .vs 1 (Wa (Wb .i64) x67.1.Since), .vs 1 (Wa Wc x67.1.Pulled), .vs 1 (Wa Wc x67.1.Held)]], 0⟩, ⟨3, 1, Wa (Wb .i64) s31.2.2.2, 0⟩, ⟨3, 1, [], 0 + 1⟩, ⟨3, 1, [], 0 + 1⟩, ⟨4, 1, [], 0 + 1⟩, ⟨4, 1, [], 0 + 1⟩, ⟨34, 5, [.agg [.int .i64 x40.Time, .vs 1 (Wa (Wb .i64) x40.States), .vs 1 (Wa (Wb .i64) x40.Since), .vs 1 (Wa Wc x40.Pulled), .vs 1 (Wa Wc x40.Held)]], 0⟩]) rfl 6 rfl (Yf (fun _ => .bool _)) ⟨Vd rfl, Vd rfl, Vd rfl, Vd rfl, Vd rfl, Vd rfl, Vd rfl, trivial⟩ ⟨.refl _, .refl _, .refl _, .refl _, .refl _, .refl _, .refl _, Xs ⟨Vd rfl, Vd rfl, Vd rfl, Vd rfl, Yq rfl rfl rfl (Xb rfl), trivial⟩, trivial⟩) ?_
               exact Vw rfl [(7, 0), (0, 0), (1, 0), (2, 0)] (by decide) ⟨Yl 1 0 rfl rfl, Vs rfl (.vs _ _), Yl 2 1 rfl rfl, Vs rfl (.int _ _), Zr 3 2 rfl rfl, Vs rfl (.int _ _), Yl 0 7 rfl rfl, trivial⟩ ⟨⟨_, rfl, rfl, .agg _ _ _ _ _ ⟨Vs rfl (.int _ _), Vs rfl (.vs _ _), Vs rfl (.vs _ _), Vs rfl (.vs _ _), Vs rfl (.vs _ _), trivial⟩⟩, ⟨_, rfl, rfl, .same _ _ _ _ (Xd ⟨Xl ⟨.vs _ _, .int _ _, trivial⟩, trivial⟩)⟩, ⟨_, rfl, rfl, .same _ _ _ _ (Xd ⟨Xl ⟨.int _ _, .vs _ _, .vs _ _, .vs _ _, .vs _ _, trivial⟩, trivial⟩)⟩, ⟨_, rfl, rfl, .same _ _ _ _ (Vk (fun _ => .int _ _))⟩, trivial⟩
         ·rintro _ _ _ _ ⟨rfl, hw⟩
          refine ⟨_, _, _, hw, ?_⟩
          refine Vi ?_
          refine Vi ?_
          obtain ⟨o69, ho69, hF⟩ := Yt hF
          refine Vx (Q' := (fun o69 => OnlyE .normal (fun E' lw lc => Xv E' lw lc [(3, .ptr (low.length + 1) 0 0 0), (4, .vs 2 (Wa T_Belt.enc o11.2)), (6, .ptr (low.length + 2) 0 0 0), (7, .int .i64 x19.2), (8, .sl (low.length + 3) 0 0 (o44.2.2.2).length), (10, .int .i64 s31.1), (12, .ptr (low.length + 0) 0 0 0), (177, .bool o69)] low [⟨34, 5, [.agg [.int .i64 o44.1.Time, .vs 1 (Wa (Wb .i64) o44.1.States), .vs 1 (Wa (Wb .i64) o44.1.Since), .vs 1 (Wa Wc o44.1.Pulled), .vs 1 (Wa Wc o44.1.Held)]], 0⟩, ⟨53, 2, [.agg [.vs 1 (Wa (Wb .i64) o44.2.1.L), .int .i64 o44.2.1.At]], 0⟩, ⟨34, 5, [.agg [.int .i64 o44.2.2.1.Time, .vs 1 (Wa (Wb .i64) o44.2.2.1.States), .vs 1 (Wa (Wb .i64) o44.2.2.1.Since), .vs 1 (Wa Wc o44.2.2.1.Pulled), .vs 1 (Wa Wc o44.2.2.1.Held)]], 0⟩, ⟨3, 1, Wa (Wb .i64) o44.2.2.2, 0⟩])) o69) ?_ ?_
          ·replace hF := ho69
           refine Vf ?_
           obtain ⟨x70, h71, hF⟩ := Yt hF
           rcases Wg (!x70) with c72 | c72
           ·have hF := Yr c72 hF
            refine Va (Xw rfl) rfl ?_
            refine Va (Xk (ds := [.int .i64 o44.2.2.1.Time, .vs 1 (Wa (Wb .i64) o44.2.2.1.States), .vs 1 (Wa (Wb .i64) o44.2.2.1.Since), .vs 1 (Wa Wc o44.2.2.1.Pulled), .vs 1 (Wa Wc o44.2.2.1.Held)]) rfl (Vg rfl rfl) rfl ta_34 ts_34 rfl rfl rfl) rfl ?_
            refine Vj (Xt rfl Try.call28 (F_belts_Valid_ok h71 _)) rfl ?_
            refine Va (Zo rfl) rfl ?_
            refine Va (Vl rfl) rfl ?_
            refine Vb rfl rfl (Zx c72) rfl ?_
            refine Vb rfl rfl (Zx c72) rfl ?_
            refine Vb rfl rfl (Zx c72) rfl ?_
            refine Vb rfl rfl (Zx c72) rfl ?_
            refine Vb rfl rfl (Zx c72) rfl ?_
            refine Vb rfl rfl (Zx c72) rfl ?_
            refine Va (Vo (congrArg Wc c72) rfl) rfl ?_
            refine Va (Vl rfl) rfl ?_
            refine Vb rfl rfl (by decide) rfl ?_
            refine Vb rfl rfl (by decide) rfl ?_
            refine Vb rfl rfl (by decide) rfl ?_
            refine Vb rfl rfl (by decide) rfl ?_
            refine Vb rfl rfl (by decide) rfl ?_
            refine Vb rfl rfl (by decide) rfl ?_
            refine Va (Vo rfl rfl) rfl ?_
            refine Va (Vl rfl) rfl ?_
            refine Vb rfl rfl (by decide) rfl ?_
            refine Vb rfl rfl (by decide) rfl ?_
            refine Vb rfl rfl (by decide) rfl ?_
            refine Vb rfl rfl (by decide) rfl ?_
            refine Vb rfl rfl (by decide) rfl ?_
            refine Vb rfl rfl (by decide) rfl ?_
            refine Va (Vo rfl rfl) rfl ?_
            refine Vh ?_
            obtain rfl := Wd hF
            refine Ye ?_
            exact Vq ⟨rfl, rfl, rfl, rfl, rfl, rfl, rfl, rfl, trivial⟩
           ·have hF := Ys c72 hF
            rcases Wg (decide (((o44.2.2.1.States).length : Int) ≠ ((o11.2).length : Int))) with c73 | c73
            ·have hF := Yr c73 hF
             refine Va (Xw rfl) rfl ?_
             refine Va (Xk (ds := [.int .i64 o44.2.2.1.Time, .vs 1 (Wa (Wb .i64) o44.2.2.1.States), .vs 1 (Wa (Wb .i64) o44.2.2.1.Since), .vs 1 (Wa Wc o44.2.2.1.Pulled), .vs 1 (Wa Wc o44.2.2.1.Held)]) rfl (Vg rfl rfl) rfl ta_34 ts_34 rfl rfl rfl) rfl ?_
             refine Vj (Xt rfl Try.call28 (F_belts_Valid_ok h71 _)) rfl ?_
             refine Va (Zo rfl) rfl ?_
             refine Va (Vl rfl) rfl ?_
             refine Xh rfl rfl c72 ?_
             refine Va (Vc rfl tf_34_1 ts_22 (by decide)) rfl ?_
             refine Xh rfl rfl c72 ?_
             refine Va (Ve rfl (Vg rfl rfl) rfl ta_22 rfl) rfl ?_
             refine Xh rfl rfl c72 ?_
             refine Va (Xp (Xx rfl rfl te_22) (congrArg (fun n : Nat => Wb .i64 (n : Int)) (Wh _))) rfl ?_
             refine Xh rfl rfl c72 ?_
             refine Va (Xw rfl) rfl ?_
             refine Xh rfl rfl c72 ?_
             refine Va (Xp (Xx rfl rfl te_27) (congrArg (fun n : Nat => Wb .i64 (n : Int)) (Wh _))) rfl ?_
             refine Xh rfl rfl c72 ?_
             refine Va (Zg rfl rfl) rfl ?_
             refine Va (Vp (congrArg Wc c72) rfl) rfl ?_
             refine Va (Vl rfl) rfl ?_
             refine Vb rfl rfl (Zx c73) rfl ?_
             refine Vb rfl rfl (Zx c73) rfl ?_
             refine Vb rfl rfl (Zx c73) rfl ?_
             refine Vb rfl rfl (Zx c73) rfl ?_
             refine Vb rfl rfl (Zx c73) rfl ?_
             refine Vb rfl rfl (Zx c73) rfl ?_
             refine Va (Vo (congrArg Wc c73) rfl) rfl ?_
             refine Va (Vl rfl) rfl ?_
             refine Vb rfl rfl (by decide) rfl ?_
             refine Vb rfl rfl (by decide) rfl ?_
             refine Vb rfl rfl (by decide) rfl ?_
             refine Vb rfl rfl (by decide) rfl ?_
             refine Vb rfl rfl (by decide) rfl ?_
             refine Vb rfl rfl (by decide) rfl ?_
             refine Va (Vo rfl rfl) rfl ?_
             refine Vh ?_
             obtain rfl := Wd hF
             refine Ye ?_
             exact Vq ⟨rfl, rfl, rfl, rfl, rfl, rfl, rfl, rfl, trivial⟩
            ·have hF := Ys c73 hF
             rcases Wg (decide (((o44.2.2.1.Pulled).length : Int) ≠ ((o11.2).length : Int))) with c74 | c74
             ·have hF := Yr c74 hF
              refine Va (Xw rfl) rfl ?_
              refine Va (Xk (ds := [.int .i64 o44.2.2.1.Time, .vs 1 (Wa (Wb .i64) o44.2.2.1.States), .vs 1 (Wa (Wb .i64) o44.2.2.1.Since), .vs 1 (Wa Wc o44.2.2.1.Pulled), .vs 1 (Wa Wc o44.2.2.1.Held)]) rfl (Vg rfl rfl) rfl ta_34 ts_34 rfl rfl rfl) rfl ?_
              refine Vj (Xt rfl Try.call28 (F_belts_Valid_ok h71 _)) rfl ?_
              refine Va (Zo rfl) rfl ?_
              refine Va (Vl rfl) rfl ?_
              refine Xh rfl rfl c72 ?_
              refine Va (Vc rfl tf_34_1 ts_22 (by decide)) rfl ?_
              refine Xh rfl rfl c72 ?_
              refine Va (Ve rfl (Vg rfl rfl) rfl ta_22 rfl) rfl ?_
              refine Xh rfl rfl c72 ?_
              refine Va (Xp (Xx rfl rfl te_22) (congrArg (fun n : Nat => Wb .i64 (n : Int)) (Wh _))) rfl ?_
              refine Xh rfl rfl c72 ?_
              refine Va (Xw rfl) rfl ?_
              refine Xh rfl rfl c72 ?_
              refine Va (Xp (Xx rfl rfl te_27) (congrArg (fun n : Nat => Wb .i64 (n : Int)) (Wh _))) rfl ?_
              refine Xh rfl rfl c72 ?_
              refine Va (Zg rfl rfl) rfl ?_
              refine Va (Vp (congrArg Wc c72) rfl) rfl ?_
              refine Va (Vl rfl) rfl ?_
              refine Xh rfl rfl c73 ?_
              refine Va (Vc rfl tf_34_3 ts_32 (by decide)) rfl ?_
              refine Xh rfl rfl c73 ?_
              refine Va (Ve rfl (Vg rfl rfl) rfl ta_32 rfl) rfl ?_
              refine Xh rfl rfl c73 ?_
              refine Va (Xp (Xx rfl rfl te_32) (congrArg (fun n : Nat => Wb .i64 (n : Int)) (Wh _))) rfl ?_
              refine Xh rfl rfl c73 ?_
              refine Va (Xw rfl) rfl ?_
              refine Xh rfl rfl c73 ?_
              refine Va (Xp (Xx rfl rfl te_27) (congrArg (fun n : Nat => Wb .i64 (n : Int)) (Wh _))) rfl ?_
              refine Xh rfl rfl c73 ?_
              refine Va (Zg rfl rfl) rfl ?_
              refine Va (Vp (congrArg Wc c73) rfl) rfl ?_
              refine Va (Vl rfl) rfl ?_
              refine Vb rfl rfl (Zx c74) rfl ?_
              refine Vb rfl rfl (Zx c74) rfl ?_
              refine Vb rfl rfl (Zx c74) rfl ?_
              refine Vb rfl rfl (Zx c74) rfl ?_
              refine Vb rfl rfl (Zx c74) rfl ?_
              refine Vb rfl rfl (Zx c74) rfl ?_
              refine Va (Vo (congrArg Wc c74) rfl) rfl ?_
              refine Vh ?_
              obtain rfl := Wd hF
              refine Ye ?_
              exact Vq ⟨rfl, rfl, rfl, rfl, rfl, rfl, rfl, rfl, trivial⟩
             ·have hF := Ys c74 hF
              refine Va (Xw rfl) rfl ?_
              refine Va (Xk (ds := [.int .i64 o44.2.2.1.Time, .vs 1 (Wa (Wb .i64) o44.2.2.1.States), .vs 1 (Wa (Wb .i64) o44.2.2.1.Since), .vs 1 (Wa Wc o44.2.2.1.Pulled), .vs 1 (Wa Wc o44.2.2.1.Held)]) rfl (Vg rfl rfl) rfl ta_34 ts_34 rfl rfl rfl) rfl ?_
              refine Vj (Xt rfl Try.call28 (F_belts_Valid_ok h71 _)) rfl ?_
              refine Va (Zo rfl) rfl ?_
              refine Va (Vl rfl) rfl ?_
              refine Xh rfl rfl c72 ?_
              refine Va (Vc rfl tf_34_1 ts_22 (by decide)) rfl ?_
              refine Xh rfl rfl c72 ?_
              refine Va (Ve rfl (Vg rfl rfl) rfl ta_22 rfl) rfl ?_
              refine Xh rfl rfl c72 ?_
              refine Va (Xp (Xx rfl rfl te_22) (congrArg (fun n : Nat => Wb .i64 (n : Int)) (Wh _))) rfl ?_
              refine Xh rfl rfl c72 ?_
              refine Va (Xw rfl) rfl ?_
              refine Xh rfl rfl c72 ?_
              refine Va (Xp (Xx rfl rfl te_27) (congrArg (fun n : Nat => Wb .i64 (n : Int)) (Wh _))) rfl ?_
              refine Xh rfl rfl c72 ?_
              refine Va (Zg rfl rfl) rfl ?_
              refine Va (Vp (congrArg Wc c72) rfl) rfl ?_
              refine Va (Vl rfl) rfl ?_
              refine Xh rfl rfl c73 ?_
              refine Va (Vc rfl tf_34_3 ts_32 (by decide)) rfl ?_
              refine Xh rfl rfl c73 ?_
              refine Va (Ve rfl (Vg rfl rfl) rfl ta_32 rfl) rfl ?_
              refine Xh rfl rfl c73 ?_
              refine Va (Xp (Xx rfl rfl te_32) (congrArg (fun n : Nat => Wb .i64 (n : Int)) (Wh _))) rfl ?_
              refine Xh rfl rfl c73 ?_
              refine Va (Xw rfl) rfl ?_
              refine Xh rfl rfl c73 ?_
              refine Va (Xp (Xx rfl rfl te_27) (congrArg (fun n : Nat => Wb .i64 (n : Int)) (Wh _))) rfl ?_
              refine Xh rfl rfl c73 ?_
              refine Va (Zg rfl rfl) rfl ?_
              refine Va (Vp (congrArg Wc c73) rfl) rfl ?_
              refine Va (Vl rfl) rfl ?_
              refine Xh rfl rfl c74 ?_
              refine Va (Vc rfl tf_34_4 ts_32 (by decide)) rfl ?_
              refine Xh rfl rfl c74 ?_
              refine Va (Ve rfl (Vg rfl rfl) rfl ta_32 rfl) rfl ?_
              refine Xh rfl rfl c74 ?_
              refine Va (Xp (Xx rfl rfl te_32) (congrArg (fun n : Nat => Wb .i64 (n : Int)) (Wh _))) rfl ?_
              refine Xh rfl rfl c74 ?_
              refine Va (Xw rfl) rfl ?_
              refine Xh rfl rfl c74 ?_
              refine Va (Xp (Xx rfl rfl te_27) (congrArg (fun n : Nat => Wb .i64 (n : Int)) (Wh _))) rfl ?_
              refine Xh rfl rfl c74 ?_
              refine Va (Zg rfl rfl) rfl ?_
              refine Va (Vp (congrArg Wc c74) rfl) rfl ?_
              refine Vh ?_
              obtain rfl := Wd hF
              refine Ye ?_
              exact Vq ⟨rfl, rfl, rfl, rfl, rfl, rfl, rfl, rfl, trivial⟩
          ·rintro _ _ _ _ ⟨rfl, hw⟩
           refine ⟨_, _, _, hw, ?_⟩
           refine Xq rfl (fun c75 => ?_) (fun c75 => ?_)
           ·have hF := Yr c75 hF
            refine Vi ?_
            refine Vf ?_
            refine Va (Yd rfl) rfl ?_
            refine Vh ?_
            refine Xj ?_
            obtain rfl := Wd hF
            refine Ye ?_
            exact Vw rfl [] (by decide) ⟨Vs rfl (.bool _), trivial⟩ trivial
           ·have hF := Ys c75 hF
            refine Xy ?_
            refine Vi ?_
            refine Vf ?_
            refine Va (Xr rfl) rfl ?_
            refine Vh ?_
            refine Yp ?_
            obtain ⟨o77, ho77, hF⟩ := Yt hF
            refine Vx (vwp_loopC (F_law39_BeltsSafe_L4 o11 o44) (fun s76 E' lw lc => Xv E' lw lc [(3, .ptr (low.length + 1) 0 0 0), (4, .vs 2 (Wa T_Belt.enc o11.2)), (6, .ptr (low.length + 2) 0 0 0), (7, .int .i64 x19.2), (8, .sl (low.length + 3) 0 0 (s76.2).length), (10, .int .i64 s31.1), (12, .ptr (low.length + 0) 0 0 0), (14, .int .i64 s76.1)] low [⟨34, 5, [.agg [.int .i64 o44.1.Time, .vs 1 (Wa (Wb .i64) o44.1.States), .vs 1 (Wa (Wb .i64) o44.1.Since), .vs 1 (Wa Wc o44.1.Pulled), .vs 1 (Wa Wc o44.1.Held)]], 0⟩, ⟨53, 2, [.agg [.vs 1 (Wa (Wb .i64) o44.2.1.L), .int .i64 o44.2.1.At]], 0⟩, ⟨34, 5, [.agg [.int .i64 o44.2.2.1.Time, .vs 1 (Wa (Wb .i64) o44.2.2.1.States), .vs 1 (Wa (Wb .i64) o44.2.2.1.Since), .vs 1 (Wa Wc o44.2.2.1.Pulled), .vs 1 (Wa Wc o44.2.2.1.Held)]], 0⟩, ⟨3, 1, Wa (Wb .i64) s76.2, 0⟩]) (Sum.elim (fun j78 => OnlyE .ret (fun E' lw lc => Xv E' lw lc [(2, .bool false)] low [])) (fun j79 => OnlyE (.exit 7) (fun E' lw lc => Xv E' lw lc [(3, .ptr (low.length + 0) 0 0 0), (4, .vs 2 (Wa T_Belt.enc o11.2)), (6, .ptr (low.length + 1) 0 0 0), (7, .int .i64 x19.2), (8, .sl (low.length + 2) 0 0 (j79).length), (10, .int .i64 s31.1)] low [⟨53, 2, [.agg [.vs 1 (Wa (Wb .i64) o44.2.1.L), .int .i64 o44.2.1.At]], 0⟩, ⟨34, 5, [.agg [.int .i64 o44.2.2.1.Time, .vs 1 (Wa (Wb .i64) o44.2.2.1.States), .vs 1 (Wa (Wb .i64) o44.2.2.1.Since), .vs 1 (Wa Wc o44.2.2.1.Pulled), .vs 1 (Wa Wc o44.2.2.1.Held)]], 0⟩, ⟨3, 1, Wa (Wb .i64) j79, 0⟩]))) ho77 ?_ (by rintro (_|_) _ _ _ ⟨h, _⟩ <;> cases h) ?_) ?_
            ·exact Vq ⟨rfl, rfl, rfl, rfl, rfl, rfl, rfl, rfl, trivial⟩
            ·rintro s76 os76 _ _ _ hF hw
             unfold F_law39_BeltsSafe_L4 at hF
             refine Xz hw ?_
             refine Vi ?_
             refine Vi ?_
             refine Vf ?_
             refine Va (Vm rfl) rfl ?_
             refine Va (Xw rfl) rfl ?_
             refine Va (Xp (Xx rfl rfl te_27) (congrArg (fun n : Nat => Wb .i64 (n : Int)) (Wh _))) rfl ?_
             refine Va (rd_lss rfl rfl) rfl ?_
             refine Vh ?_
             refine Xq rfl (fun c80 => ?_) (fun c80 => ?_)
             ·have hF := Yr c80 hF
              refine Xy ?_
              refine Vi ?_
              obtain ⟨o81, ho81, hF⟩ := Yt hF
              refine Vx (Q' := Sum.elim (fun j82 => OnlyE .ret (fun E' lw lc => Xv E' lw lc [(2, .bool false)] low [])) (fun j83 => OnlyE .normal (fun E' lw lc => Xv E' lw lc [(3, .ptr (low.length + 1) 0 0 0), (4, .vs 2 (Wa T_Belt.enc o11.2)), (6, .ptr (low.length + 2) 0 0 0), (7, .int .i64 x19.2), (8, .sl (low.length + 3) 0 0 (j83).length), (10, .int .i64 s31.1), (12, .ptr (low.length + 0) 0 0 0), (14, .int .i64 s76.1)] low [⟨34, 5, [.agg [.int .i64 o44.1.Time, .vs 1 (Wa (Wb .i64) o44.1.States), .vs 1 (Wa (Wb .i64) o44.1.Since), .vs 1 (Wa Wc o44.1.Pulled), .vs 1 (Wa Wc o44.1.Held)]], 0⟩, ⟨53, 2, [.agg [.vs 1 (Wa (Wb .i64) o44.2.1.L), .int .i64 o44.2.1.At]], 0⟩, ⟨34, 5, [.agg [.int .i64 o44.2.2.1.Time, .vs 1 (Wa (Wb .i64) o44.2.2.1.States), .vs 1 (Wa (Wb .i64) o44.2.2.1.Since), .vs 1 (Wa Wc o44.2.2.1.Pulled), .vs 1 (Wa Wc o44.2.2.1.Held)]], 0⟩, ⟨3, 1, Wa (Wb .i64) j83, 0⟩])) o81) ?_ ?_
              ·replace hF := ho81
               refine Yp ?_
               refine Vi ?_
               refine Vf ?_
               obtain ⟨x84, h85, hF⟩ := Yt hF
               refine Va (Vc rfl tf_34_1 ts_22 (by decide)) rfl ?_
               refine Va (Ve rfl (Vg rfl rfl) rfl ta_22 rfl) rfl ?_
               refine Va (Vm rfl) rfl ?_
               refine Va (Xp (Yn rfl rfl h85 te_22 ts_3) (v' := .vptr [.int .i64 x84] 0) rfl) rfl ?_
               refine Va (Xm rfl ta_3 rfl) rfl ?_
               refine Va (Xe rfl rfl) rfl ?_
               refine Va (Yd rfl) rfl ?_
               refine Vh ?_
               refine Vi ?_
               refine Vi ?_
               obtain ⟨o86, ho86, hF⟩ := Yt hF
               refine Vx (Q' := (fun o86 => OnlyE .normal (fun E' lw lc => Xv E' lw lc [(3, .ptr (low.length + 1) 0 0 0), (4, .vs 2 (Wa T_Belt.enc o11.2)), (6, .ptr (low.length + 2) 0 0 0), (7, .int .i64 x19.2), (8, .sl (low.length + 3) 0 0 (s76.2).length), (10, .int .i64 s31.1), (12, .ptr (low.length + 0) 0 0 0), (14, .int .i64 s76.1), (15, .bool (decide (x84 = 2))), (224, .bool o86)] low [⟨34, 5, [.agg [.int .i64 o44.1.Time, .vs 1 (Wa (Wb .i64) o44.1.States), .vs 1 (Wa (Wb .i64) o44.1.Since), .vs 1 (Wa Wc o44.1.Pulled), .vs 1 (Wa Wc o44.1.Held)]], 0⟩, ⟨53, 2, [.agg [.vs 1 (Wa (Wb .i64) o44.2.1.L), .int .i64 o44.2.1.At]], 0⟩, ⟨34, 5, [.agg [.int .i64 o44.2.2.1.Time, .vs 1 (Wa (Wb .i64) o44.2.2.1.States), .vs 1 (Wa (Wb .i64) o44.2.2.1.Since), .vs 1 (Wa Wc o44.2.2.1.Pulled), .vs 1 (Wa Wc o44.2.2.1.Held)]], 0⟩, ⟨3, 1, Wa (Wb .i64) s76.2, 0⟩])) o86) ?_ ?_
               ·replace hF := ho86
                rcases Wg (decide (x84 = 2)) with c87 | c87
                ·have hF := Yr c87 hF
                 obtain ⟨x88, h89, hF⟩ := Yt hF
                 rcases Wg x88 with c90 | c90
                 ·have hF := Yr c90 hF
                  refine Zu [[], [0], [0, 1], [0, 1, 2], [0, 1], [0, 1, 2, 3, 4], [0, 1, 2, 3, 4, 5], [0, 1, 2, 3, 4, 5, 6], [0, 1, 2, 3, 4, 5, 6, 7], [0, 1, 2, 3, 4, 5, 6, 7, 8], [0, 1, 2, 3, 4, 5, 6, 7], [0, 1, 2, 3, 4, 5, 6, 7, 8, 9, 10], [0, 1, 2, 3, 4, 5, 6, 7, 8, 9, 10, 11], [0, 1, 2, 3, 4, 5, 6, 7, 8, 9, 10, 11, 12], [0, 1, 2, 3, 4, 5, 6, 7, 8, 9, 10, 11, 12, 13], [0, 1, 2, 3, 4, 5, 6, 7, 8, 9, 10, 11, 12, 13, 14], [0, 1, 2, 3, 4, 5, 6, 7, 8, 9, 10, 11, 12, 13, 14], [0, 1, 2, 3, 4, 5, 6, 7, 8, 9, 10, 11, 12, 13, 14, 15, 16], [0, 1, 2, 3, 4, 5, 6, 7, 8, 9, 10, 11, 12, 13, 14, 15, 16, 17], [0, 1, 2, 3, 4, 5, 6, 7, 8, 9, 10, 11, 12, 13, 14, 15, 16, 17, 18], [0, 1, 2, 3, 4, 5, 6, 7, 8, 9, 10, 11, 12, 13, 14, 15, 16, 17, 18, 19], [0, 1, 2, 3, 4, 5, 6, 7, 8, 9, 10, 11, 12, 13, 14, 15, 16, 17, 18, 19, 20], [0, 1, 2, 3, 4, 5, 6, 7, 8, 9, 10, 11, 12, 13, 14, 15, 16, 17, 18, 19, 20, 21], [0, 1, 2, 3, 4, 5, 6, 7, 8, 9, 10, 11, 12, 13, 14, 15, 16, 17, 18, 19, 20, 21, 22], [0, 1, 2, 3, 4, 5, 6, 7, 8, 9, 10, 11, 12, 13, 14, 15, 16, 17, 18, 19, 20, 21], [0, 1, 2, 3, 4, 5, 6, 7, 8, 9, 10, 11, 12, 13, 14, 15, 16, 17, 18, 19, 20, 21], [0, 1, 2, 3, 4, 5, 6, 7, 8, 9, 10, 11, 12, 13, 14, 15, 16, 17, 18, 19, 20, 21, 24, 25], [0, 1, 2, 3, 4, 5, 6, 7, 8, 9, 10, 11, 12, 13, 14, 15, 16, 17, 18, 19, 20, 21, 24, 25, 26], [0, 1, 2, 3, 4, 5, 6, 7, 8, 9, 10, 11, 12, 13, 14, 15, 16, 17, 18, 19, 20, 21, 24, 25, 26, 27], [0, 1, 2, 3, 4, 5, 6, 7, 8, 9, 10, 11, 12, 13, 14, 15, 16, 17, 18, 19, 20, 21, 22, 23, 24, 25, 26, 27, 28], [0, 1, 2, 3, 4, 5, 6, 7, 8, 9, 10, 11, 12, 13, 14, 15, 16, 17, 18, 19, 20, 21, 22, 23, 24, 25, 26, 27, 28, 29], [0, 1, 2, 3, 4, 5, 6, 7, 8, 9, 10, 11, 12, 13, 14, 15, 16, 17, 18, 19, 20, 21, 22, 23, 24, 25, 26, 27, 28, 29, 30], [0, 1, 2, 3, 4, 5, 6, 7, 8, 9, 10, 11, 12, 13, 14, 15, 16, 17, 18, 19, 20, 21, 22, 23, 24, 25, 26, 27, 28, 29, 30, 31], [0, 1, 2, 3, 4, 5, 6, 7, 8, 9, 10, 11, 12, 13, 14, 15, 16, 17, 18, 19, 20, 21, 22, 23, 24, 25, 26, 27, 28, 29, 30, 31, 32], [0, 1, 2, 3, 4, 5, 6, 7, 8, 9, 10, 11, 12, 13, 14, 15, 16, 17, 18, 19, 20, 21, 22, 23, 24, 25, 26, 27, 28, 29, 30, 31, 32, 33]] mixed (by kernel_rfl) rfl ?_
                  refine Ze rfl rfl (Vl rfl) ?_
                  refine Ze rfl rfl (Vl rfl) ?_
                  refine Zk rfl rfl rfl rfl c87 (Vc rfl tf_34_3 ts_32 (by decide)) ?_
                  refine Zk rfl rfl rfl rfl c87 (Ve rfl (Vg rfl rfl) rfl ta_32 rfl) ?_
                  refine Zk rfl rfl rfl rfl c87 (Vm rfl) ?_
                  refine Zk rfl rfl rfl rfl c87 (Xp (Yn rfl rfl h89 te_32 ts_4) (v' := .vptr [.bool x88] 0) rfl) ?_
                  refine Zk rfl rfl rfl rfl c87 (Xm rfl ta_4 rfl) ?_
                  refine Zk rfl rfl rfl rfl c87 (Vl rfl) ?_
                  refine Vu rfl rfl rfl (Zx c90) ?_
                  refine Vu rfl rfl rfl (Zx c90) ?_
                  refine Vu rfl rfl rfl (Zx c90) ?_
                  refine Vu rfl rfl rfl (Zx c90) ?_
                  refine Vu rfl rfl rfl (Zx c90) ?_
                  refine Zk rfl rfl rfl rfl c87 (Vo (congrArg Wc c90) rfl) ?_
                  refine Zk rfl rfl rfl rfl c87 (Vl rfl) ?_
                  refine Vu rfl rfl rfl (by decide) ?_
                  refine Vu rfl rfl rfl (by decide) ?_
                  refine Vu rfl rfl rfl (by decide) ?_
                  refine Vu rfl rfl rfl (by decide) ?_
                  refine Vu rfl rfl rfl (by decide) ?_
                  refine Vu rfl rfl rfl (by decide) ?_
                  refine Vu rfl rfl rfl (by decide) ?_
                  refine Vv rfl rfl rfl ?_
                  refine Vv rfl rfl rfl ?_
                  refine Vv rfl rfl rfl ?_
                  refine Vv rfl rfl rfl ?_
                  refine Vv rfl rfl rfl ?_
                  refine Vv rfl rfl rfl ?_
                  refine Vv rfl rfl rfl ?_
                  refine Vv rfl rfl rfl ?_
                  refine Vv rfl rfl rfl ?_
                  refine Vv rfl rfl rfl ?_
                  refine Vu rfl rfl rfl (by decide) ?_
                  refine Zk rfl rfl rfl rfl c87 (Vo rfl rfl) ?_
                  refine Ze rfl rfl (Vo (congrArg Wc c87) rfl) ?_
                  refine Zh ?_
                  obtain rfl := Wd hF
                  refine Ye ?_
                  exact Vq ⟨rfl, rfl, rfl, rfl, rfl, rfl, rfl, rfl, rfl, rfl, trivial⟩
                 ·have hF := Ys c90 hF
                  obtain ⟨x91, h92, hF⟩ := Yt hF
                  rcases Wg x91 with c93 | c93
                  ·have hF := Yr c93 hF
                   refine Zu [[], [0], [0, 1], [0, 1, 2], [0, 1], [0, 1, 2, 3, 4], [0, 1, 2, 3, 4, 5], [0, 1, 2, 3, 4, 5, 6], [0, 1, 2, 3, 4, 5, 6, 7], [0, 1, 2, 3, 4, 5, 6, 7, 8], [0, 1, 2, 3, 4, 5, 6, 7], [0, 1, 2, 3, 4, 5, 6, 7, 8, 9, 10], [0, 1, 2, 3, 4, 5, 6, 7, 8, 9, 10, 11], [0, 1, 2, 3, 4, 5, 6, 7, 8, 9, 10, 11, 12], [0, 1, 2, 3, 4, 5, 6, 7, 8, 9, 10, 11, 12, 13], [0, 1, 2, 3, 4, 5, 6, 7, 8, 9, 10, 11, 12, 13, 14], [0, 1, 2, 3, 4, 5, 6, 7, 8, 9, 10, 11, 12, 13, 14], [0, 1, 2, 3, 4, 5, 6, 7, 8, 9, 10, 11, 12, 13, 14, 15, 16], [0, 1, 2, 3, 4, 5, 6, 7, 8, 9, 10, 11, 12, 13, 14, 15, 16, 17], [0, 1, 2, 3, 4, 5, 6, 7, 8, 9, 10, 11, 12, 13, 14, 15, 16, 17, 18], [0, 1, 2, 3, 4, 5, 6, 7, 8, 9, 10, 11, 12, 13, 14, 15, 16, 17, 18, 19], [0, 1, 2, 3, 4, 5, 6, 7, 8, 9, 10, 11, 12, 13, 14, 15, 16, 17, 18, 19, 20], [0, 1, 2, 3, 4, 5, 6, 7, 8, 9, 10, 11, 12, 13, 14, 15, 16, 17, 18, 19, 20, 21], [0, 1, 2, 3, 4, 5, 6, 7, 8, 9, 10, 11, 12, 13, 14, 15, 16, 17, 18, 19, 20, 21, 22], [0, 1, 2, 3, 4, 5, 6, 7, 8, 9, 10, 11, 12, 13, 14, 15, 16, 17, 18, 19, 20, 21], [0, 1, 2, 3, 4, 5, 6, 7, 8, 9, 10, 11, 12, 13, 14, 15, 16, 17, 18, 19, 20, 21], [0, 1, 2, 3, 4, 5, 6, 7, 8, 9, 10, 11, 12, 13, 14, 15, 16, 17, 18, 19, 20, 21, 24, 25], [0, 1, 2, 3, 4, 5, 6, 7, 8, 9, 10, 11, 12, 13, 14, 15, 16, 17, 18, 19, 20, 21, 24, 25, 26], [0, 1, 2, 3, 4, 5, 6, 7, 8, 9, 10, 11, 12, 13, 14, 15, 16, 17, 18, 19, 20, 21, 24, 25, 26, 27], [0, 1, 2, 3, 4, 5, 6, 7, 8, 9, 10, 11, 12, 13, 14, 15, 16, 17, 18, 19, 20, 21, 22, 23, 24, 25, 26, 27, 28], [0, 1, 2, 3, 4, 5, 6, 7, 8, 9, 10, 11, 12, 13, 14, 15, 16, 17, 18, 19, 20, 21, 22, 23, 24, 25, 26, 27, 28, 29], [0, 1, 2, 3, 4, 5, 6, 7, 8, 9, 10, 11, 12, 13, 14, 15, 16, 17, 18, 19, 20, 21, 22, 23, 24, 25, 26, 27, 28, 29, 30], [0, 1, 2, 3, 4, 5, 6, 7, 8, 9, 10, 11, 12, 13, 14, 15, 16, 17, 18, 19, 20, 21, 22, 23, 24, 25, 26, 27, 28, 29, 30, 31], [0, 1, 2, 3, 4, 5, 6, 7, 8, 9, 10, 11, 12, 13, 14, 15, 16, 17, 18, 19, 20, 21, 22, 23, 24, 25, 26, 27, 28, 29, 30, 31, 32], [0, 1, 2, 3, 4, 5, 6, 7, 8, 9, 10, 11, 12, 13, 14, 15, 16, 17, 18, 19, 20, 21, 22, 23, 24, 25, 26, 27, 28, 29, 30, 31, 32, 33]] mixed (by kernel_rfl) rfl ?_
                   refine Ze rfl rfl (Vl rfl) ?_
                   refine Ze rfl rfl (Vl rfl) ?_
                   refine Zk rfl rfl rfl rfl c87 (Vc rfl tf_34_3 ts_32 (by decide)) ?_
                   refine Zk rfl rfl rfl rfl c87 (Ve rfl (Vg rfl rfl) rfl ta_32 rfl) ?_
                   refine Zk rfl rfl rfl rfl c87 (Vm rfl) ?_
                   refine Zk rfl rfl rfl rfl c87 (Xp (Yn rfl rfl h89 te_32 ts_4) (v' := .vptr [.bool x88] 0) rfl) ?_
                   refine Zk rfl rfl rfl rfl c87 (Xm rfl ta_4 rfl) ?_
                   refine Zk rfl rfl rfl rfl c87 (Vl rfl) ?_
                   refine Zk rfl rfl rfl rfl c90 (Vc rfl tf_34_4 ts_32 (by decide)) ?_
                   refine Zk rfl rfl rfl rfl c90 (Ve rfl (Vg rfl rfl) rfl ta_32 rfl) ?_
                   refine Zk rfl rfl rfl rfl c90 (Vm rfl) ?_
                   refine Zk rfl rfl rfl rfl c90 (Xp (Yn rfl rfl h92 te_32 ts_4) (v' := .vptr [.bool x91] 0) rfl) ?_
                   refine Zk rfl rfl rfl rfl c90 (Xm rfl ta_4 rfl) ?_
                   refine Zk rfl rfl rfl rfl c87 (Vp (congrArg Wc c90) rfl) ?_
                   refine Zk rfl rfl rfl rfl c87 (Vl rfl) ?_
                   refine Vu rfl rfl rfl (Zx c93) ?_
                   refine Vu rfl rfl rfl (Zx c93) ?_
                   refine Vu rfl rfl rfl (Zx c93) ?_
                   refine Vu rfl rfl rfl (Zx c93) ?_
                   refine Vu rfl rfl rfl (Zx c93) ?_
                   refine Vu rfl rfl rfl (Zx c93) ?_
                   refine Vu rfl rfl rfl (Zx c93) ?_
                   refine Vv rfl rfl rfl ?_
                   refine Vv rfl rfl rfl ?_
                   refine Vv rfl rfl rfl ?_
                   refine Vv rfl rfl rfl ?_
                   refine Vv rfl rfl rfl ?_
                   refine Vv rfl rfl rfl ?_
                   refine Vv rfl rfl rfl ?_
                   refine Vv rfl rfl rfl ?_
                   refine Vv rfl rfl rfl ?_
                   refine Vv rfl rfl rfl ?_
                   refine Vu rfl rfl rfl (Zx c93) ?_
                   refine Zk rfl rfl rfl rfl c87 (Vo (congrArg Wc c93) rfl) ?_
                   refine Ze rfl rfl (Vo (congrArg Wc c87) rfl) ?_
                   refine Zh ?_
                   obtain rfl := Wd hF
                   refine Ye ?_
                   exact Vq ⟨rfl, rfl, rfl, rfl, rfl, rfl, rfl, rfl, rfl, rfl, trivial⟩
                  ·have hF := Ys c93 hF
                   obtain ⟨x94, h95, hF⟩ := Yt hF
                   rcases Wg (decide (0 ≤ x94.Onto)) with c96 | c96
                   ·have hF := Yr c96 hF
                    obtain ⟨x97, h98, hF⟩ := Yt hF
                    obtain ⟨x99, h100, hF⟩ := Yt hF
                    refine Zu [[], [0], [0, 1], [0, 1, 2], [0, 1], [0, 1, 2, 3, 4], [0, 1, 2, 3, 4, 5], [0, 1, 2, 3, 4, 5, 6], [0, 1, 2, 3, 4, 5, 6, 7], [0, 1, 2, 3, 4, 5, 6, 7, 8], [0, 1, 2, 3, 4, 5, 6, 7], [0, 1, 2, 3, 4, 5, 6, 7, 8, 9, 10], [0, 1, 2, 3, 4, 5, 6, 7, 8, 9, 10, 11], [0, 1, 2, 3, 4, 5, 6, 7, 8, 9, 10, 11, 12], [0, 1, 2, 3, 4, 5, 6, 7, 8, 9, 10, 11, 12, 13], [0, 1, 2, 3, 4, 5, 6, 7, 8, 9, 10, 11, 12, 13, 14], [0, 1, 2, 3, 4, 5, 6, 7, 8, 9, 10, 11, 12, 13, 14], [0, 1, 2, 3, 4, 5, 6, 7, 8, 9, 10, 11, 12, 13, 14, 15, 16], [0, 1, 2, 3, 4, 5, 6, 7, 8, 9, 10, 11, 12, 13, 14, 15, 16, 17], [0, 1, 2, 3, 4, 5, 6, 7, 8, 9, 10, 11, 12, 13, 14, 15, 16, 17, 18], [0, 1, 2, 3, 4, 5, 6, 7, 8, 9, 10, 11, 12, 13, 14, 15, 16, 17, 18, 19], [0, 1, 2, 3, 4, 5, 6, 7, 8, 9, 10, 11, 12, 13, 14, 15, 16, 17, 18, 19, 20], [0, 1, 2, 3, 4, 5, 6, 7, 8, 9, 10, 11, 12, 13, 14, 15, 16, 17, 18, 19, 20, 21], [0, 1, 2, 3, 4, 5, 6, 7, 8, 9, 10, 11, 12, 13, 14, 15, 16, 17, 18, 19, 20, 21, 22], [0, 1, 2, 3, 4, 5, 6, 7, 8, 9, 10, 11, 12, 13, 14, 15, 16, 17, 18, 19, 20, 21], [0, 1, 2, 3, 4, 5, 6, 7, 8, 9, 10, 11, 12, 13, 14, 15, 16, 17, 18, 19, 20, 21], [0, 1, 2, 3, 4, 5, 6, 7, 8, 9, 10, 11, 12, 13, 14, 15, 16, 17, 18, 19, 20, 21, 24, 25], [0, 1, 2, 3, 4, 5, 6, 7, 8, 9, 10, 11, 12, 13, 14, 15, 16, 17, 18, 19, 20, 21, 24, 25, 26], [0, 1, 2, 3, 4, 5, 6, 7, 8, 9, 10, 11, 12, 13, 14, 15, 16, 17, 18, 19, 20, 21, 24, 25, 26, 27], [0, 1, 2, 3, 4, 5, 6, 7, 8, 9, 10, 11, 12, 13, 14, 15, 16, 17, 18, 19, 20, 21, 22, 23, 24, 25, 26, 27, 28], [0, 1, 2, 3, 4, 5, 6, 7, 8, 9, 10, 11, 12, 13, 14, 15, 16, 17, 18, 19, 20, 21, 22, 23, 24, 25, 26, 27, 28, 29], [0, 1, 2, 3, 4, 5, 6, 7, 8, 9, 10, 11, 12, 13, 14, 15, 16, 17, 18, 19, 20, 21, 22, 23, 24, 25, 26, 27, 28, 29, 30], [0, 1, 2, 3, 4, 5, 6, 7, 8, 9, 10, 11, 12, 13, 14, 15, 16, 17, 18, 19, 20, 21, 22, 23, 24, 25, 26, 27, 28, 29, 30, 31], [0, 1, 2, 3, 4, 5, 6, 7, 8, 9, 10, 11, 12, 13, 14, 15, 16, 17, 18, 19, 20, 21, 22, 23, 24, 25, 26, 27, 28, 29, 30, 31, 32], [0, 1, 2, 3, 4, 5, 6, 7, 8, 9, 10, 11, 12, 13, 14, 15, 16, 17, 18, 19, 20, 21, 22, 23, 24, 25, 26, 27, 28, 29, 30, 31, 32, 33]] mixed (by kernel_rfl) rfl ?_
                    refine Ze rfl rfl (Vl rfl) ?_
                    refine Ze rfl rfl (Vl rfl) ?_
                    refine Zk rfl rfl rfl rfl c87 (Vc rfl tf_34_3 ts_32 (by decide)) ?_
                    refine Zk rfl rfl rfl rfl c87 (Ve rfl (Vg rfl rfl) rfl ta_32 rfl) ?_
                    refine Zk rfl rfl rfl rfl c87 (Vm rfl) ?_
                    refine Zk rfl rfl rfl rfl c87 (Xp (Yn rfl rfl h89 te_32 ts_4) (v' := .vptr [.bool x88] 0) rfl) ?_
                    refine Zk rfl rfl rfl rfl c87 (Xm rfl ta_4 rfl) ?_
                    refine Zk rfl rfl rfl rfl c87 (Vl rfl) ?_
                    refine Zk rfl rfl rfl rfl c90 (Vc rfl tf_34_4 ts_32 (by decide)) ?_
                    refine Zk rfl rfl rfl rfl c90 (Ve rfl (Vg rfl rfl) rfl ta_32 rfl) ?_
                    refine Zk rfl rfl rfl rfl c90 (Vm rfl) ?_
                    refine Zk rfl rfl rfl rfl c90 (Xp (Yn rfl rfl h92 te_32 ts_4) (v' := .vptr [.bool x91] 0) rfl) ?_
                    refine Zk rfl rfl rfl rfl c90 (Xm rfl ta_4 rfl) ?_
                    refine Zk rfl rfl rfl rfl c87 (Vp (congrArg Wc c90) rfl) ?_
                    refine Zk rfl rfl rfl rfl c87 (Vl rfl) ?_
                    refine Zk rfl rfl rfl rfl c93 (Xw rfl) ?_
                    refine Zk rfl rfl rfl rfl c93 (Vm rfl) ?_
                    refine Zk rfl rfl rfl rfl c93 (Xp (Yn rfl rfl h95 te_27 ts_31) (v' := .vptr [.int .i64 x94.Onto, .int .i64 x94.Warn] 0) rfl) ?_
                    refine Zk rfl rfl rfl rfl c93 (Zv rfl tf_31_0 ts_3 (by decide)) ?_
                    refine Zk rfl rfl rfl rfl c93 (Xm rfl ta_3 rfl) ?_
                    refine Zk rfl rfl rfl rfl c93 (rd_geq rfl rfl) ?_
                    refine Zk rfl rfl rfl rfl c93 (Vl rfl) ?_
                    refine Zk rfl rfl rfl rfl c96 (Vc rfl tf_34_1 ts_22 (by decide)) ?_
                    refine Zk rfl rfl rfl rfl c96 (Ve rfl (Vg rfl rfl) rfl ta_22 rfl) ?_
                    refine Zk rfl rfl rfl rfl c96 (Xw rfl) ?_
                    refine Zk rfl rfl rfl rfl c96 (Vm rfl) ?_
                    refine Zk rfl rfl rfl rfl c96 (Xp (Yn rfl rfl h98 te_27 ts_31) (v' := .vptr [.int .i64 x97.Onto, .int .i64 x97.Warn] 0) rfl) ?_
                    refine Zk rfl rfl rfl rfl c96 (Zv rfl tf_31_0 ts_3 (by decide)) ?_
                    refine Zk rfl rfl rfl rfl c96 (Xm rfl ta_3 rfl) ?_
                    refine Zk rfl rfl rfl rfl c96 (Xp (Yn rfl rfl h100 te_22 ts_3) (v' := .vptr [.int .i64 x99] 0) rfl) ?_
                    refine Zk rfl rfl rfl rfl c96 (Xm rfl ta_3 rfl) ?_
                    refine Zk rfl rfl rfl rfl c96 (Zg rfl rfl) ?_
                    refine Zk rfl rfl rfl rfl c93 (Vo (congrArg Wc c96) rfl) ?_
                    refine Zk rfl rfl rfl rfl c87 (Vp (congrArg Wc c93) rfl) ?_
                    refine Ze rfl rfl (Vo (congrArg Wc c87) rfl) ?_
                    refine Zh ?_
                    obtain rfl := Wd hF
                    refine Ye ?_
                    exact Vq ⟨rfl, rfl, rfl, rfl, rfl, rfl, rfl, rfl, rfl, rfl, trivial⟩
                   ·have hF := Ys c96 hF
                    refine Zu [[], [0], [0, 1], [0, 1, 2], [0, 1], [0, 1, 2, 3, 4], [0, 1, 2, 3, 4, 5], [0, 1, 2, 3, 4, 5, 6], [0, 1, 2, 3, 4, 5, 6, 7], [0, 1, 2, 3, 4, 5, 6, 7, 8], [0, 1, 2, 3, 4, 5, 6, 7], [0, 1, 2, 3, 4, 5, 6, 7, 8, 9, 10], [0, 1, 2, 3, 4, 5, 6, 7, 8, 9, 10, 11], [0, 1, 2, 3, 4, 5, 6, 7, 8, 9, 10, 11, 12], [0, 1, 2, 3, 4, 5, 6, 7, 8, 9, 10, 11, 12, 13], [0, 1, 2, 3, 4, 5, 6, 7, 8, 9, 10, 11, 12, 13, 14], [0, 1, 2, 3, 4, 5, 6, 7, 8, 9, 10, 11, 12, 13, 14], [0, 1, 2, 3, 4, 5, 6, 7, 8, 9, 10, 11, 12, 13, 14, 15, 16], [0, 1, 2, 3, 4, 5, 6, 7, 8, 9, 10, 11, 12, 13, 14, 15, 16, 17], [0, 1, 2, 3, 4, 5, 6, 7, 8, 9, 10, 11, 12, 13, 14, 15, 16, 17, 18], [0, 1, 2, 3, 4, 5, 6, 7, 8, 9, 10, 11, 12, 13, 14, 15, 16, 17, 18, 19], [0, 1, 2, 3, 4, 5, 6, 7, 8, 9, 10, 11, 12, 13, 14, 15, 16, 17, 18, 19, 20], [0, 1, 2, 3, 4, 5, 6, 7, 8, 9, 10, 11, 12, 13, 14, 15, 16, 17, 18, 19, 20, 21], [0, 1, 2, 3, 4, 5, 6, 7, 8, 9, 10, 11, 12, 13, 14, 15, 16, 17, 18, 19, 20, 21, 22], [0, 1, 2, 3, 4, 5, 6, 7, 8, 9, 10, 11, 12, 13, 14, 15, 16, 17, 18, 19, 20, 21], [0, 1, 2, 3, 4, 5, 6, 7, 8, 9, 10, 11, 12, 13, 14, 15, 16, 17, 18, 19, 20, 21], [0, 1, 2, 3, 4, 5, 6, 7, 8, 9, 10, 11, 12, 13, 14, 15, 16, 17, 18, 19, 20, 21, 24, 25], [0, 1, 2, 3, 4, 5, 6, 7, 8, 9, 10, 11, 12, 13, 14, 15, 16, 17, 18, 19, 20, 21, 24, 25, 26], [0, 1, 2, 3, 4, 5, 6, 7, 8, 9, 10, 11, 12, 13, 14, 15, 16, 17, 18, 19, 20, 21, 24, 25, 26, 27], [0, 1, 2, 3, 4, 5, 6, 7, 8, 9, 10, 11, 12, 13, 14, 15, 16, 17, 18, 19, 20, 21, 22, 23, 24, 25, 26, 27, 28], [0, 1, 2, 3, 4, 5, 6, 7, 8, 9, 10, 11, 12, 13, 14, 15, 16, 17, 18, 19, 20, 21, 22, 23, 24, 25, 26, 27, 28, 29], [0, 1, 2, 3, 4, 5, 6, 7, 8, 9, 10, 11, 12, 13, 14, 15, 16, 17, 18, 19, 20, 21, 22, 23, 24, 25, 26, 27, 28, 29, 30], [0, 1, 2, 3, 4, 5, 6, 7, 8, 9, 10, 11, 12, 13, 14, 15, 16, 17, 18, 19, 20, 21, 22, 23, 24, 25, 26, 27, 28, 29, 30, 31], [0, 1, 2, 3, 4, 5, 6, 7, 8, 9, 10, 11, 12, 13, 14, 15, 16, 17, 18, 19, 20, 21, 22, 23, 24, 25, 26, 27, 28, 29, 30, 31, 32], [0, 1, 2, 3, 4, 5, 6, 7, 8, 9, 10, 11, 12, 13, 14, 15, 16, 17, 18, 19, 20, 21, 22, 23, 24, 25, 26, 27, 28, 29, 30, 31, 32, 33]] mixed (by kernel_rfl) rfl ?_
                    refine Ze rfl rfl (Vl rfl) ?_
                    refine Ze rfl rfl (Vl rfl) ?_
                    refine Zk rfl rfl rfl rfl c87 (Vc rfl tf_34_3 ts_32 (by decide)) ?_
                    refine Zk rfl rfl rfl rfl c87 (Ve rfl (Vg rfl rfl) rfl ta_32 rfl) ?_
                    refine Zk rfl rfl rfl rfl c87 (Vm rfl) ?_
                    refine Zk rfl rfl rfl rfl c87 (Xp (Yn rfl rfl h89 te_32 ts_4) (v' := .vptr [.bool x88] 0) rfl) ?_
                    refine Zk rfl rfl rfl rfl c87 (Xm rfl ta_4 rfl) ?_
                    refine Zk rfl rfl rfl rfl c87 (Vl rfl) ?_
                    refine Zk rfl rfl rfl rfl c90 (Vc rfl tf_34_4 ts_32 (by decide)) ?_
                    refine Zk rfl rfl rfl rfl c90 (Ve rfl (Vg rfl rfl) rfl ta_32 rfl) ?_
                    refine Zk rfl rfl rfl rfl c90 (Vm rfl) ?_
                    refine Zk rfl rfl rfl rfl c90 (Xp (Yn rfl rfl h92 te_32 ts_4) (v' := .vptr [.bool x91] 0) rfl) ?_
                    refine Zk rfl rfl rfl rfl c90 (Xm rfl ta_4 rfl) ?_
                    refine Zk rfl rfl rfl rfl c87 (Vp (congrArg Wc c90) rfl) ?_
                    refine Zk rfl rfl rfl rfl c87 (Vl rfl) ?_
                    refine Zk rfl rfl rfl rfl c93 (Xw rfl) ?_
                    refine Zk rfl rfl rfl rfl c93 (Vm rfl) ?_
                    refine Zk rfl rfl rfl rfl c93 (Xp (Yn rfl rfl h95 te_27 ts_31) (v' := .vptr [.int .i64 x94.Onto, .int .i64 x94.Warn] 0) rfl) ?_
                    refine Zk rfl rfl rfl rfl c93 (Zv rfl tf_31_0 ts_3 (by decide)) ?_
                    refine Zk rfl rfl rfl rfl c93 (Xm rfl ta_3 rfl) ?_
                    refine Zk rfl rfl rfl rfl c93 (rd_geq rfl rfl) ?_
                    refine Zk rfl rfl rfl rfl c93 (Vl rfl) ?_
                    refine Vu rfl rfl rfl (neF c96) ?_
                    refine Vu rfl rfl rfl (neF c96) ?_
                    refine Vu rfl rfl rfl (neF c96) ?_
                    refine Vu rfl rfl rfl (neF c96) ?_
                    refine Vu rfl rfl rfl (neF c96) ?_
                    refine Vu rfl rfl rfl (neF c96) ?_
                    refine Vu rfl rfl rfl (neF c96) ?_
                    refine Vu rfl rfl rfl (neF c96) ?_
                    refine Vu rfl rfl rfl (neF c96) ?_
                    refine Vu rfl rfl rfl (neF c96) ?_
                    refine Zk rfl rfl rfl rfl c93 (Vp (congrArg Wc c96) rfl) ?_
                    refine Zk rfl rfl rfl rfl c87 (Vp (congrArg Wc c93) rfl) ?_
                    refine Ze rfl rfl (Vo (congrArg Wc c87) rfl) ?_
                    refine Zh ?_
                    obtain rfl := Wd hF
                    refine Ye ?_
                    exact Vq ⟨rfl, rfl, rfl, rfl, rfl, rfl, rfl, rfl, rfl, rfl, trivial⟩
                ·have hF := Ys c87 hF
                 refine Zu [[], [0], [0, 1], [0, 1, 2], [0, 1], [0, 1, 2, 3, 4], [0, 1, 2, 3, 4, 5], [0, 1, 2, 3, 4, 5, 6], [0, 1, 2, 3, 4, 5, 6, 7], [0, 1, 2, 3, 4, 5, 6, 7, 8], [0, 1, 2, 3, 4, 5, 6, 7], [0, 1, 2, 3, 4, 5, 6, 7, 8, 9, 10], [0, 1, 2, 3, 4, 5, 6, 7, 8, 9, 10, 11], [0, 1, 2, 3, 4, 5, 6, 7, 8, 9, 10, 11, 12], [0, 1, 2, 3, 4, 5, 6, 7, 8, 9, 10, 11, 12, 13], [0, 1, 2, 3, 4, 5, 6, 7, 8, 9, 10, 11, 12, 13, 14], [0, 1, 2, 3, 4, 5, 6, 7, 8, 9, 10, 11, 12, 13, 14], [0, 1, 2, 3, 4, 5, 6, 7, 8, 9, 10, 11, 12, 13, 14, 15, 16], [0, 1, 2, 3, 4, 5, 6, 7, 8, 9, 10, 11, 12, 13, 14, 15, 16, 17], [0, 1, 2, 3, 4, 5, 6, 7, 8, 9, 10, 11, 12, 13, 14, 15, 16, 17, 18], [0, 1, 2, 3, 4, 5, 6, 7, 8, 9, 10, 11, 12, 13, 14, 15, 16, 17, 18, 19], [0, 1, 2, 3, 4, 5, 6, 7, 8, 9, 10, 11, 12, 13, 14, 15, 16, 17, 18, 19, 20], [0, 1, 2, 3, 4, 5, 6, 7, 8, 9, 10, 11, 12, 13, 14, 15, 16, 17, 18, 19, 20, 21], [0, 1, 2, 3, 4, 5, 6, 7, 8, 9, 10, 11, 12, 13, 14, 15, 16, 17, 18, 19, 20, 21, 22], [0, 1, 2, 3, 4, 5, 6, 7, 8, 9, 10, 11, 12, 13, 14, 15, 16, 17, 18, 19, 20, 21], [0, 1, 2, 3, 4, 5, 6, 7, 8, 9, 10, 11, 12, 13, 14, 15, 16, 17, 18, 19, 20, 21], [0, 1, 2, 3, 4, 5, 6, 7, 8, 9, 10, 11, 12, 13, 14, 15, 16, 17, 18, 19, 20, 21, 24, 25], [0, 1, 2, 3, 4, 5, 6, 7, 8, 9, 10, 11, 12, 13, 14, 15, 16, 17, 18, 19, 20, 21, 24, 25, 26], [0, 1, 2, 3, 4, 5, 6, 7, 8, 9, 10, 11, 12, 13, 14, 15, 16, 17, 18, 19, 20, 21, 24, 25, 26, 27], [0, 1, 2, 3, 4, 5, 6, 7, 8, 9, 10, 11, 12, 13, 14, 15, 16, 17, 18, 19, 20, 21, 22, 23, 24, 25, 26, 27, 28], [0, 1, 2, 3, 4, 5, 6, 7, 8, 9, 10, 11, 12, 13, 14, 15, 16, 17, 18, 19, 20, 21, 22, 23, 24, 25, 26, 27, 28, 29], [0, 1, 2, 3, 4, 5, 6, 7, 8, 9, 10, 11, 12, 13, 14, 15, 16, 17, 18, 19, 20, 21, 22, 23, 24, 25, 26, 27, 28, 29, 30], [0, 1, 2, 3, 4, 5, 6, 7, 8, 9, 10, 11, 12, 13, 14, 15, 16, 17, 18, 19, 20, 21, 22, 23, 24, 25, 26, 27, 28, 29, 30, 31], [0, 1, 2, 3, 4, 5, 6, 7, 8, 9, 10, 11, 12, 13, 14, 15, 16, 17, 18, 19, 20, 21, 22, 23, 24, 25, 26, 27, 28, 29, 30, 31, 32], [0, 1, 2, 3, 4, 5, 6, 7, 8, 9, 10, 11, 12, 13, 14, 15, 16, 17, 18, 19, 20, 21, 22, 23, 24, 25, 26, 27, 28, 29, 30, 31, 32, 33]] mixed (by kernel_rfl) rfl ?_
                 refine Ze rfl rfl (Vl rfl) ?_
                 refine Ze rfl rfl (Vl rfl) ?_
                 refine Vu rfl rfl rfl (neF c87) ?_
                 refine Vu rfl rfl rfl (neF c87) ?_
                 refine Vu rfl rfl rfl (neF c87) ?_
                 refine Vu rfl rfl rfl (neF c87) ?_
                 refine Vu rfl rfl rfl (neF c87) ?_
                 refine Vu rfl rfl rfl (neF c87) ?_
                 refine Vv rfl rfl rfl ?_
                 refine Vv rfl rfl rfl ?_
                 refine Vv rfl rfl rfl ?_
                 refine Vv rfl rfl rfl ?_
                 refine Vv rfl rfl rfl ?_
                 refine Vu rfl rfl rfl (neF c87) ?_
                 refine Vu rfl rfl rfl (neF c87) ?_
                 refine Vv rfl rfl rfl ?_
                 refine Vv rfl rfl rfl ?_
                 refine Vv rfl rfl rfl ?_
                 refine Vv rfl rfl rfl ?_
                 refine Vv rfl rfl rfl ?_
                 refine Vv rfl rfl rfl ?_
                 refine Vv rfl rfl rfl ?_
                 refine Vv rfl rfl rfl ?_
                 refine Vv rfl rfl rfl ?_
                 refine Vv rfl rfl rfl ?_
                 refine Vv rfl rfl rfl ?_
                 refine Vv rfl rfl rfl ?_
                 refine Vv rfl rfl rfl ?_
                 refine Vv rfl rfl rfl ?_
                 refine Vv rfl rfl rfl ?_
                 refine Vv rfl rfl rfl ?_
                 refine Vv rfl rfl rfl ?_
                 refine Vv rfl rfl rfl ?_
                 refine Vu rfl rfl rfl (neF c87) ?_
                 refine Ze rfl rfl (Vp (congrArg Wc c87) rfl) ?_
                 refine Zh ?_
                 obtain rfl := Wd hF
                 refine Ye ?_
                 exact Vq ⟨rfl, rfl, rfl, rfl, rfl, rfl, rfl, rfl, rfl, rfl, trivial⟩
               ·rintro _ _ _ _ ⟨rfl, hw⟩
                refine ⟨_, _, _, hw, ?_⟩
                refine Xq rfl (fun c101 => ?_) (fun c101 => ?_)
                ·have hF := Yr c101 hF
                 refine Vi ?_
                 refine Vf ?_
                 refine Va (Yd rfl) rfl ?_
                 refine Vh ?_
                 refine Xj ?_
                 obtain rfl := Wd hF
                 refine Ye ?_
                 exact Vw rfl [] (by decide) ⟨Vs rfl (.bool _), trivial⟩ trivial
                ·have hF := Ys c101 hF
                 refine Xy ?_
                 refine Vi ?_
                 refine Vi ?_
                 obtain ⟨o102, ho102, hF⟩ := Yt hF
                 refine Vx (Q' := (fun o102 => OnlyE .normal (fun E' lw lc => Xv E' lw lc [(3, .ptr (low.length + 1) 0 0 0), (4, .vs 2 (Wa T_Belt.enc o11.2)), (6, .ptr (low.length + 2) 0 0 0), (7, .int .i64 x19.2), (8, .sl (low.length + 3) 0 0 (s76.2).length), (10, .int .i64 s31.1), (12, .ptr (low.length + 0) 0 0 0), (14, .int .i64 s76.1), (255, .bool o102)] low [⟨34, 5, [.agg [.int .i64 o44.1.Time, .vs 1 (Wa (Wb .i64) o44.1.States), .vs 1 (Wa (Wb .i64) o44.1.Since), .vs 1 (Wa Wc o44.1.Pulled), .vs 1 (Wa Wc o44.1.Held)]], 0⟩, ⟨53, 2, [.agg [.vs 1 (Wa (Wb .i64) o44.2.1.L), .int .i64 o44.2.1.At]], 0⟩, ⟨34, 5, [.agg [.int .i64 o44.2.2.1.Time, .vs 1 (Wa (Wb .i64) o44.2.2.1.States), .vs 1 (Wa (Wb .i64) o44.2.2.1.Since), .vs 1 (Wa Wc o44.2.2.1.Pulled), .vs 1 (Wa Wc o44.2.2.1.Held)]], 0⟩, ⟨3, 1, Wa (Wb .i64) s76.2, 0⟩])) o102) ?_ ?_
                 ·replace hF := ho102
                  rcases Wg (decide (x84 = 2)) with c103 | c103
                  ·have hF := Yr c103 hF
                   obtain ⟨x104, h105, hF⟩ := Yt hF
                   rcases Wg (decide (x104 ≠ 2)) with c106 | c106
                   ·have hF := Yr c106 hF
                    obtain ⟨x107, h108, hF⟩ := Yt hF
                    rcases Wg (decide (x107 < 0)) with c109 | c109
                    ·have hF := Yr c109 hF
                     refine Zu [[], [0], [0, 1], [0, 1, 2], [0, 1], [0, 1, 2, 3, 4], [0, 1, 2, 3, 4, 5], [0, 1, 2, 3, 4, 5, 6], [0, 1, 2, 3, 4, 5, 6, 7], [0, 1, 2, 3, 4, 5, 6, 7, 8], [0, 1, 2, 3, 4, 5, 6, 7, 8, 9], [0, 1, 2, 3, 4, 5, 6, 7, 8, 9], [0, 1, 2, 3, 4, 5, 6, 7, 8, 9, 10, 11], [0, 1, 2, 3, 4, 5, 6, 7, 8, 9, 10, 11, 12], [0, 1, 2, 3, 4, 5, 6, 7, 8, 9, 10, 11, 12, 13], [0, 1, 2, 3, 4, 5, 6, 7, 8, 9, 10, 11, 12, 13, 14], [0, 1, 2, 3, 4, 5, 6, 7, 8, 9, 10, 11, 12, 13, 14, 15], [0, 1, 2, 3, 4, 5, 6, 7, 8, 9, 10, 11, 12, 13, 14, 15, 16], [0, 1, 2, 3, 4, 5, 6, 7, 8, 9, 10, 11, 12, 13, 14, 15], [0, 1, 2, 3, 4, 5, 6, 7, 8, 9, 10, 11, 12, 13, 14, 15], [0, 1, 2, 3, 4, 5, 6, 7, 8, 9, 10, 11, 12, 13, 14, 15, 18, 19], [0, 1, 2, 3, 4, 5, 6, 7, 8, 9, 10, 11, 12, 13, 14, 15, 18, 19, 20], [0, 1, 2, 3, 4, 5, 6, 7, 8, 9, 10, 11, 12, 13, 14, 15, 16, 17, 18, 19, 20, 21], [0, 1, 2, 3, 4, 5, 6, 7, 8, 9, 10, 11, 12, 13, 14, 15], [0, 1, 2, 3, 4, 5, 6, 7, 8, 9, 10, 11, 12, 13, 14, 15], [0, 1, 2, 3, 4, 5, 6, 7, 8, 9, 10, 11, 12, 13, 14, 15, 23, 24], [0, 1, 2, 3, 4, 5, 6, 7, 8, 9, 10, 11, 12, 13, 14, 15, 23, 24, 25], [0, 1, 2, 3, 4, 5, 6, 7, 8, 9, 10, 11, 12, 13, 14, 15, 23, 24, 25, 26], [0, 1, 2, 3, 4, 5, 6, 7, 8, 9, 10, 11, 12, 13, 14, 15, 16, 17, 18, 19, 20, 21, 22, 23, 24, 25, 26, 27], [0, 1, 2, 3, 4, 5, 6, 7, 8, 9, 10, 11, 12, 13, 14, 15, 16, 17, 18, 19, 20, 21, 22, 23, 24, 25, 26, 27, 28], [0, 1, 2, 3, 4, 5, 6, 7, 8, 9, 10, 11, 12, 13, 14, 15, 16, 17, 18, 19, 20, 21, 22, 23, 24, 25, 26, 27, 28, 29]] mixed (by kernel_rfl) rfl ?_
                     refine Ze rfl rfl (Vl rfl) ?_
                     refine Ze rfl rfl (Vl rfl) ?_
                     refine Zk rfl rfl rfl rfl c103 (Vc rfl tf_34_1 ts_22 (by decide)) ?_
                     refine Zk rfl rfl rfl rfl c103 (Ve rfl (Vg rfl rfl) rfl ta_22 rfl) ?_
                     refine Zk rfl rfl rfl rfl c103 (Vm rfl) ?_
                     refine Zk rfl rfl rfl rfl c103 (Xp (Yn rfl rfl h105 te_22 ts_3) (v' := .vptr [.int .i64 x104] 0) rfl) ?_
                     refine Zk rfl rfl rfl rfl c103 (Xm rfl ta_3 rfl) ?_
                     refine Zk rfl rfl rfl rfl c103 (Zg rfl rfl) ?_
                     refine Ze rfl rfl (Vo (congrArg Wc c103) rfl) ?_
                     refine Ze rfl rfl (Vl rfl) ?_
                     refine Zk rfl rfl rfl rfl c106 (rd_mvL rfl) ?_
                     refine Zk rfl rfl rfl rfl c106 (Vm rfl) ?_
                     refine Zk rfl rfl rfl rfl c106 (rd_ixS rfl rfl rfl (Vg rfl rfl) h108 te_22 ts_3) ?_
                     refine Zk rfl rfl rfl rfl c106 (rd_ldL1 rfl (Vg rfl rfl) (Zj h108).2 ta_3 rfl) ?_
                     refine Zk rfl rfl rfl rfl c106 (rd_lss rfl rfl) ?_
                     refine Zk rfl rfl rfl rfl c106 (Vl rfl) ?_
                     refine Vu rfl rfl rfl (Zx c109) ?_
                     refine Vu rfl rfl rfl (Zx c109) ?_
                     refine Vu rfl rfl rfl (Zx c109) ?_
                     refine Vu rfl rfl rfl (Zx c109) ?_
                     refine Vu rfl rfl rfl (Zx c109) ?_
                     refine Vu rfl rfl rfl (Zx c109) ?_
                     refine Vu rfl rfl rfl (Zx c109) ?_
                     refine Vu rfl rfl rfl (Zx c109) ?_
                     refine Vu rfl rfl rfl (Zx c109) ?_
                     refine Vu rfl rfl rfl (Zx c109) ?_
                     refine Vu rfl rfl rfl (Zx c109) ?_
                     refine Vu rfl rfl rfl (Zx c109) ?_
                     refine Vu rfl rfl rfl (Zx c109) ?_
                     refine Zk rfl rfl rfl rfl c106 (Vo (congrArg Wc c109) rfl) ?_
                     refine Ze rfl rfl (Vo (congrArg Wc c106) rfl) ?_
                     refine Zh ?_
                     obtain rfl := Wd hF
                     refine Ye ?_
                     exact Vq ⟨rfl, rfl, rfl, rfl, rfl, rfl, rfl, rfl, rfl, trivial⟩
                    ·have hF := Ys c109 hF
                     obtain ⟨x110, h111, hF⟩ := Yt hF
                     obtain ⟨x112, h113, hF⟩ := Yt hF
                     refine Zu [[], [0], [0, 1], [0, 1, 2], [0, 1], [0, 1, 2, 3, 4], [0, 1, 2, 3, 4, 5], [0, 1, 2, 3, 4, 5, 6], [0, 1, 2, 3, 4, 5, 6, 7], [0, 1, 2, 3, 4, 5, 6, 7, 8], [0, 1, 2, 3, 4, 5, 6, 7, 8, 9], [0, 1, 2, 3, 4, 5, 6, 7, 8, 9], [0, 1, 2, 3, 4, 5, 6, 7, 8, 9, 10, 11], [0, 1, 2, 3, 4, 5, 6, 7, 8, 9, 10, 11, 12], [0, 1, 2, 3, 4, 5, 6, 7, 8, 9, 10, 11, 12, 13], [0, 1, 2, 3, 4, 5, 6, 7, 8, 9, 10, 11, 12, 13, 14], [0, 1, 2, 3, 4, 5, 6, 7, 8, 9, 10, 11, 12, 13, 14, 15], [0, 1, 2, 3, 4, 5, 6, 7, 8, 9, 10, 11, 12, 13, 14, 15, 16], [0, 1, 2, 3, 4, 5, 6, 7, 8, 9, 10, 11, 12, 13, 14, 15], [0, 1, 2, 3, 4, 5, 6, 7, 8, 9, 10, 11, 12, 13, 14, 15], [0, 1, 2, 3, 4, 5, 6, 7, 8, 9, 10, 11, 12, 13, 14, 15, 18, 19], [0, 1, 2, 3, 4, 5, 6, 7, 8, 9, 10, 11, 12, 13, 14, 15, 18, 19, 20], [0, 1, 2, 3, 4, 5, 6, 7, 8, 9, 10, 11, 12, 13, 14, 15, 16, 17, 18, 19, 20, 21], [0, 1, 2, 3, 4, 5, 6, 7, 8, 9, 10, 11, 12, 13, 14, 15], [0, 1, 2, 3, 4, 5, 6, 7, 8, 9, 10, 11, 12, 13, 14, 15], [0, 1, 2, 3, 4, 5, 6, 7, 8, 9, 10, 11, 12, 13, 14, 15, 23, 24], [0, 1, 2, 3, 4, 5, 6, 7, 8, 9, 10, 11, 12, 13, 14, 15, 23, 24, 25], [0, 1, 2, 3, 4, 5, 6, 7, 8, 9, 10, 11, 12, 13, 14, 15, 23, 24, 25, 26], [0, 1, 2, 3, 4, 5, 6, 7, 8, 9, 10, 11, 12, 13, 14, 15, 16, 17, 18, 19, 20, 21, 22, 23, 24, 25, 26, 27], [0, 1, 2, 3, 4, 5, 6, 7, 8, 9, 10, 11, 12, 13, 14, 15, 16, 17, 18, 19, 20, 21, 22, 23, 24, 25, 26, 27, 28], [0, 1, 2, 3, 4, 5, 6, 7, 8, 9, 10, 11, 12, 13, 14, 15, 16, 17, 18, 19, 20, 21, 22, 23, 24, 25, 26, 27, 28, 29]] mixed (by kernel_rfl) rfl ?_
                     refine Ze rfl rfl (Vl rfl) ?_
                     refine Ze rfl rfl (Vl rfl) ?_
                     refine Zk rfl rfl rfl rfl c103 (Vc rfl tf_34_1 ts_22 (by decide)) ?_
                     refine Zk rfl rfl rfl rfl c103 (Ve rfl (Vg rfl rfl) rfl ta_22 rfl) ?_
                     refine Zk rfl rfl rfl rfl c103 (Vm rfl) ?_
                     refine Zk rfl rfl rfl rfl c103 (Xp (Yn rfl rfl h105 te_22 ts_3) (v' := .vptr [.int .i64 x104] 0) rfl) ?_
                     refine Zk rfl rfl rfl rfl c103 (Xm rfl ta_3 rfl) ?_
                     refine Zk rfl rfl rfl rfl c103 (Zg rfl rfl) ?_
                     refine Ze rfl rfl (Vo (congrArg Wc c103) rfl) ?_
                     refine Ze rfl rfl (Vl rfl) ?_
                     refine Zk rfl rfl rfl rfl c106 (rd_mvL rfl) ?_
                     refine Zk rfl rfl rfl rfl c106 (Vm rfl) ?_
                     refine Zk rfl rfl rfl rfl c106 (rd_ixS rfl rfl rfl (Vg rfl rfl) h108 te_22 ts_3) ?_
                     refine Zk rfl rfl rfl rfl c106 (rd_ldL1 rfl (Vg rfl rfl) (Zj h108).2 ta_3 rfl) ?_
                     refine Zk rfl rfl rfl rfl c106 (rd_lss rfl rfl) ?_
                     refine Zk rfl rfl rfl rfl c106 (Vl rfl) ?_
                     refine Zk rfl rfl rfl rfl c109 (Vc rfl tf_34_0 ts_3 (by decide)) ?_
                     refine Zk rfl rfl rfl rfl c109 (Ve rfl (Vg rfl rfl) rfl ta_3 rfl) ?_
                     refine Zk rfl rfl rfl rfl c109 (rd_mvL rfl) ?_
                     refine Zk rfl rfl rfl rfl c109 (Vm rfl) ?_
                     refine Zk rfl rfl rfl rfl c109 (rd_ixS rfl rfl rfl (Vg rfl rfl) h111 te_22 ts_3) ?_
                     refine Zk rfl rfl rfl rfl c109 (rd_ldL1 rfl (Vg rfl rfl) (Zj h111).2 ta_3 rfl) ?_
                     refine Zk rfl rfl rfl rfl c109 (rd_sub rfl rfl rfl) ?_
                     refine Zk rfl rfl rfl rfl c109 (Xw rfl) ?_
                     refine Zk rfl rfl rfl rfl c109 (Vm rfl) ?_
                     refine Zk rfl rfl rfl rfl c109 (Xp (Yn rfl rfl h113 te_27 ts_31) (v' := .vptr [.int .i64 x112.Onto, .int .i64 x112.Warn] 0) rfl) ?_
                     refine Zk rfl rfl rfl rfl c109 (Zv rfl tf_31_1 ts_3 (by decide)) ?_
                     refine Zk rfl rfl rfl rfl c109 (Xm rfl ta_3 rfl) ?_
                     refine Zk rfl rfl rfl rfl c109 (rd_lss rfl rfl) ?_
                     refine Zk rfl rfl rfl rfl c106 (Vp (congrArg Wc c109) rfl) ?_
                     refine Ze rfl rfl (Vo (congrArg Wc c106) rfl) ?_
                     refine Zh ?_
                     obtain rfl := Wd hF
                     refine Ye ?_
                     exact Vq ⟨rfl, rfl, rfl, rfl, rfl, rfl, rfl, rfl, rfl, trivial⟩
                   ·have hF := Ys c106 hF
                    refine Zu [[], [0], [0, 1], [0, 1, 2], [0, 1], [0, 1, 2, 3, 4], [0, 1, 2, 3, 4, 5], [0, 1, 2, 3, 4, 5, 6], [0, 1, 2, 3, 4, 5, 6, 7], [0, 1, 2, 3, 4, 5, 6, 7, 8], [0, 1, 2, 3, 4, 5, 6, 7, 8, 9], [0, 1, 2, 3, 4, 5, 6, 7, 8, 9], [0, 1, 2, 3, 4, 5, 6, 7, 8, 9, 10, 11], [0, 1, 2, 3, 4, 5, 6, 7, 8, 9, 10, 11, 12], [0, 1, 2, 3, 4, 5, 6, 7, 8, 9, 10, 11, 12, 13], [0, 1, 2, 3, 4, 5, 6, 7, 8, 9, 10, 11, 12, 13, 14], [0, 1, 2, 3, 4, 5, 6, 7, 8, 9, 10, 11, 12, 13, 14, 15], [0, 1, 2, 3, 4, 5, 6, 7, 8, 9, 10, 11, 12, 13, 14, 15, 16], [0, 1, 2, 3, 4, 5, 6, 7, 8, 9, 10, 11, 12, 13, 14, 15], [0, 1, 2, 3, 4, 5, 6, 7, 8, 9, 10, 11, 12, 13, 14, 15], [0, 1, 2, 3, 4, 5, 6, 7, 8, 9, 10, 11, 12, 13, 14, 15, 18, 19], [0, 1, 2, 3, 4, 5, 6, 7, 8, 9, 10, 11, 12, 13, 14, 15, 18, 19, 20], [0, 1, 2, 3, 4, 5, 6, 7, 8, 9, 10, 11, 12, 13, 14, 15, 16, 17, 18, 19, 20, 21], [0, 1, 2, 3, 4, 5, 6, 7, 8, 9, 10, 11, 12, 13, 14, 15], [0, 1, 2, 3, 4, 5, 6, 7, 8, 9, 10, 11, 12, 13, 14, 15], [0, 1, 2, 3, 4, 5, 6, 7, 8, 9, 10, 11, 12, 13, 14, 15, 23, 24], [0, 1, 2, 3, 4, 5, 6, 7, 8, 9, 10, 11, 12, 13, 14, 15, 23, 24, 25], [0, 1, 2, 3, 4, 5, 6, 7, 8, 9, 10, 11, 12, 13, 14, 15, 23, 24, 25, 26], [0, 1, 2, 3, 4, 5, 6, 7, 8, 9, 10, 11, 12, 13, 14, 15, 16, 17, 18, 19, 20, 21, 22, 23, 24, 25, 26, 27], [0, 1, 2, 3, 4, 5, 6, 7, 8, 9, 10, 11, 12, 13, 14, 15, 16, 17, 18, 19, 20, 21, 22, 23, 24, 25, 26, 27, 28], [0, 1, 2, 3, 4, 5, 6, 7, 8, 9, 10, 11, 12, 13, 14, 15, 16, 17, 18, 19, 20, 21, 22, 23, 24, 25, 26, 27, 28, 29]] mixed (by kernel_rfl) rfl ?_
                    refine Ze rfl rfl (Vl rfl) ?_
                    refine Ze rfl rfl (Vl rfl) ?_
                    refine Zk rfl rfl rfl rfl c103 (Vc rfl tf_34_1 ts_22 (by decide)) ?_
                    refine Zk rfl rfl rfl rfl c103 (Ve rfl (Vg rfl rfl) rfl ta_22 rfl) ?_
                    refine Zk rfl rfl rfl rfl c103 (Vm rfl) ?_
                    refine Zk rfl rfl rfl rfl c103 (Xp (Yn rfl rfl h105 te_22 ts_3) (v' := .vptr [.int .i64 x104] 0) rfl) ?_
                    refine Zk rfl rfl rfl rfl c103 (Xm rfl ta_3 rfl) ?_
                    refine Zk rfl rfl rfl rfl c103 (Zg rfl rfl) ?_
                    refine Ze rfl rfl (Vo (congrArg Wc c103) rfl) ?_
                    refine Ze rfl rfl (Vl rfl) ?_
                    refine Vu rfl rfl rfl (neF c106) ?_
                    refine Vu rfl rfl rfl (neF c106) ?_
                    refine Vu rfl rfl rfl (neF c106) ?_
                    refine Vu rfl rfl rfl (neF c106) ?_
                    refine Vu rfl rfl rfl (neF c106) ?_
                    refine Vu rfl rfl rfl (neF c106) ?_
                    refine Vv rfl rfl rfl ?_
                    refine Vv rfl rfl rfl ?_
                    refine Vv rfl rfl rfl ?_
                    refine Vv rfl rfl rfl ?_
                    refine Vv rfl rfl rfl ?_
                    refine Vv rfl rfl rfl ?_
                    refine Vv rfl rfl rfl ?_
                    refine Vv rfl rfl rfl ?_
                    refine Vv rfl rfl rfl ?_
                    refine Vv rfl rfl rfl ?_
                    refine Vv rfl rfl rfl ?_
                    refine Vv rfl rfl rfl ?_
                    refine Vv rfl rfl rfl ?_
                    refine Vu rfl rfl rfl (neF c106) ?_
                    refine Ze rfl rfl (Vp (congrArg Wc c106) rfl) ?_
                    refine Zh ?_
                    obtain rfl := Wd hF
                    refine Ye ?_
                    exact Vq ⟨rfl, rfl, rfl, rfl, rfl, rfl, rfl, rfl, rfl, trivial⟩
                  ·have hF := Ys c103 hF
                   refine Zu [[], [0], [0, 1], [0, 1, 2], [0, 1], [0, 1, 2, 3, 4], [0, 1, 2, 3, 4, 5], [0, 1, 2, 3, 4, 5, 6], [0, 1, 2, 3, 4, 5, 6, 7], [0, 1, 2, 3, 4, 5, 6, 7, 8], [0, 1, 2, 3, 4, 5, 6, 7, 8, 9], [0, 1, 2, 3, 4, 5, 6, 7, 8, 9], [0, 1, 2, 3, 4, 5, 6, 7, 8, 9, 10, 11], [0, 1, 2, 3, 4, 5, 6, 7, 8, 9, 10, 11, 12], [0, 1, 2, 3, 4, 5, 6, 7, 8, 9, 10, 11, 12, 13], [0, 1, 2, 3, 4, 5, 6, 7, 8, 9, 10, 11, 12, 13, 14], [0, 1, 2, 3, 4, 5, 6, 7, 8, 9, 10, 11, 12, 13, 14, 15], [0, 1, 2, 3, 4, 5, 6, 7, 8, 9, 10, 11, 12, 13, 14, 15, 16], [0, 1, 2, 3, 4, 5, 6, 7, 8, 9, 10, 11, 12, 13, 14, 15], [0, 1, 2, 3, 4, 5, 6, 7, 8, 9, 10, 11, 12, 13, 14, 15], [0, 1, 2, 3, 4, 5, 6, 7, 8, 9, 10, 11, 12, 13, 14, 15, 18, 19], [0, 1, 2, 3, 4, 5, 6, 7, 8, 9, 10, 11, 12, 13, 14, 15, 18, 19, 20], [0, 1, 2, 3, 4, 5, 6, 7, 8, 9, 10, 11, 12, 13, 14, 15, 16, 17, 18, 19, 20, 21], [0, 1, 2, 3, 4, 5, 6, 7, 8, 9, 10, 11, 12, 13, 14, 15], [0, 1, 2, 3, 4, 5, 6, 7, 8, 9, 10, 11, 12, 13, 14, 15], [0, 1, 2, 3, 4, 5, 6, 7, 8, 9, 10, 11, 12, 13, 14, 15, 23, 24], [0, 1, 2, 3, 4, 5, 6, 7, 8, 9, 10, 11, 12, 13, 14, 15, 23, 24, 25], [0, 1, 2, 3, 4, 5, 6, 7, 8, 9, 10, 11, 12, 13, 14, 15, 23, 24, 25, 26], [0, 1, 2, 3, 4, 5, 6, 7, 8, 9, 10, 11, 12, 13, 14, 15, 16, 17, 18, 19, 20, 21, 22, 23, 24, 25, 26, 27], [0, 1, 2, 3, 4, 5, 6, 7, 8, 9, 10, 11, 12, 13, 14, 15, 16, 17, 18, 19, 20, 21, 22, 23, 24, 25, 26, 27, 28], [0, 1, 2, 3, 4, 5, 6, 7, 8, 9, 10, 11, 12, 13, 14, 15, 16, 17, 18, 19, 20, 21, 22, 23, 24, 25, 26, 27, 28, 29]] mixed (by kernel_rfl) rfl ?_
                   refine Ze rfl rfl (Vl rfl) ?_
                   refine Ze rfl rfl (Vl rfl) ?_
                   refine Vu rfl rfl rfl (neF c103) ?_
                   refine Vu rfl rfl rfl (neF c103) ?_
                   refine Vu rfl rfl rfl (neF c103) ?_
                   refine Vu rfl rfl rfl (neF c103) ?_
                   refine Vu rfl rfl rfl (neF c103) ?_
                   refine Vu rfl rfl rfl (neF c103) ?_
                   refine Ze rfl rfl (Vp (congrArg Wc c103) rfl) ?_
                   refine Ze rfl rfl (Vl rfl) ?_
                   refine Vu rfl rfl rfl (by decide) ?_
                   refine Vu rfl rfl rfl (by decide) ?_
                   refine Vu rfl rfl rfl (by decide) ?_
                   refine Vu rfl rfl rfl (by decide) ?_
                   refine Vu rfl rfl rfl (by decide) ?_
                   refine Vu rfl rfl rfl (by decide) ?_
                   refine Vv rfl rfl rfl ?_
                   refine Vv rfl rfl rfl ?_
                   refine Vv rfl rfl rfl ?_
                   refine Vv rfl rfl rfl ?_
                   refine Vv rfl rfl rfl ?_
                   refine Vv rfl rfl rfl ?_
                   refine Vv rfl rfl rfl ?_
                   refine Vv rfl rfl rfl ?_
                   refine Vv rfl rfl rfl ?_
                   refine Vv rfl rfl rfl ?_
                   refine Vv rfl rfl rfl ?_
                   refine Vv rfl rfl rfl ?_
                   refine Vv rfl rfl rfl ?_
                   refine Vu rfl rfl rfl (by decide) ?_
                   refine Ze rfl rfl (Vp rfl rfl) ?_
                   refine Zh ?_
                   obtain rfl := Wd hF
                   refine Ye ?_
                   exact Vq ⟨rfl, rfl, rfl, rfl, rfl, rfl, rfl, rfl, rfl, trivial⟩
                 ·rintro _ _ _ _ ⟨rfl, hw⟩
                  refine ⟨_, _, _, hw, ?_⟩
                  refine Xq rfl (fun c114 => ?_) (fun c114 => ?_)
                  ·have hF := Yr c114 hF
                   refine Vi ?_
                   refine Vf ?_
                   refine Va (Yd rfl) rfl ?_
                   refine Vh ?_
                   refine Xj ?_
                   obtain rfl := Wd hF
                   refine Ye ?_
                   exact Vw rfl [] (by decide) ⟨Vs rfl (.bool _), trivial⟩ trivial
                  ·have hF := Ys c114 hF
                   refine Xy ?_
                   refine Vi ?_
                   refine Vf ?_
                   obtain ⟨x115, h116, hF⟩ := Yt hF
                   refine Va (Vc rfl tf_34_1 ts_22 (by decide)) rfl ?_
                   refine Va (Ve rfl (Vg rfl rfl) rfl ta_22 rfl) rfl ?_
                   refine Va (Vm rfl) rfl ?_
                   refine Va (Xp (Yn rfl rfl h116 te_22 ts_3) (v' := .vptr [.int .i64 x115] 0) rfl) rfl ?_
                   refine Va (Xm rfl ta_3 rfl) rfl ?_
                   refine Va (Xe rfl rfl) rfl ?_
                   refine Vh ?_
                   refine Xq rfl (fun c117 => ?_) (fun c117 => ?_)
                   ·have hF := Yr c117 hF
                    refine Vf ?_
                    obtain ⟨x118, h119, hF⟩ := Yt hF
                    refine Va (rd_mvL rfl) rfl ?_
                    refine Va (Vm rfl) rfl ?_
                    refine Va (rd_ixS rfl rfl rfl (Vg rfl rfl) h119 te_22 ts_3) rfl ?_
                    refine Vj (vef_stL (p := .int .i64 (-1)) (e' := (-1)) rfl (Vg rfl rfl) (Zj h119).2 rfl ts_3 rfl (Yv rfl) (We rfl) rfl (Ym rfl rfl)) rfl ?_
                    refine Vh ?_
                    obtain rfl := Wd hF
                    refine Ye ?_
                    exact Vw rfl [(0, 0), (1, 0), (2, 0), (3, 0)] (by decide) ⟨Yl 1 1 rfl rfl, Vs rfl (.vs _ _), Yl 2 2 rfl rfl, Vs rfl (.int _ _), Zr 3 3 rfl (congrArg (PV.sl _ _ 0) (Eq.trans rfl List.length_set.symm)), Vs rfl (.int _ _), Yl 0 0 rfl rfl, Vs rfl (.int _ _), trivial⟩ ⟨⟨_, rfl, rfl, .same _ _ _ _ (Xd ⟨Xl ⟨.int _ _, .vs _ _, .vs _ _, .vs _ _, .vs _ _, trivial⟩, trivial⟩)⟩, ⟨_, rfl, rfl, .same _ _ _ _ (Xd ⟨Xl ⟨.vs _ _, .int _ _, trivial⟩, trivial⟩)⟩, ⟨_, rfl, rfl, .same _ _ _ _ (Xd ⟨Xl ⟨.int _ _, .vs _ _, .vs _ _, .vs _ _, .vs _ _, trivial⟩, trivial⟩)⟩, ⟨_, rfl, rfl, .same _ _ _ _ (Vk (fun _ => .int _ _))⟩, trivial⟩
                   ·have hF := Ys c117 hF
                    refine Xy ?_
                    obtain rfl := Wd hF
                    refine Ye ?_
                    exact Vq ⟨rfl, rfl, rfl, rfl, rfl, rfl, rfl, rfl, trivial⟩
              ·rcases o81 with j82 | j83
               ·replace hF := elimL hF
                rintro _ _ _ _ ⟨rfl, hw⟩
                refine ⟨_, _, _, hw, ?_⟩
                obtain rfl := Wd hF
                refine Ye ?_
                exact Vq ⟨rfl, trivial⟩
               ·replace hF := elimR hF
                rintro _ _ _ _ ⟨rfl, hw⟩
                refine ⟨_, _, _, hw, ?_⟩
                refine Vf ?_
                refine Va (Vm rfl) rfl ?_
                refine Va (rd_add rfl rfl rfl) rfl ?_
                refine Va (Xr rfl) rfl ?_
                refine Vh ?_
                obtain rfl := Wd hF
                refine Ye ?_
                exact Vq ⟨rfl, rfl, rfl, rfl, rfl, rfl, rfl, rfl, trivial⟩
             ·have hF := Ys c80 hF
              refine vwp_exit ?_
              obtain rfl := Wd hF
              refine Ye ?_
              exact Vw rfl [(1, 0), (2, 0), (3, 0)] (by decide) ⟨Yl 0 1 rfl rfl, Vs rfl (.vs _ _), Yl 1 2 rfl rfl, Vs rfl (.int _ _), Zr 2 3 rfl rfl, Vs rfl (.int _ _), trivial⟩ ⟨⟨_, rfl, rfl, .same _ _ _ _ (Xd ⟨Xl ⟨.vs _ _, .int _ _, trivial⟩, trivial⟩)⟩, ⟨_, rfl, rfl, .same _ _ _ _ (Xd ⟨Xl ⟨.int _ _, .vs _ _, .vs _ _, .vs _ _, .vs _ _, trivial⟩, trivial⟩)⟩, ⟨_, rfl, rfl, .same _ _ _ _ (Vk (fun _ => .int _ _))⟩, trivial⟩
            ·rcases o77 with j78 | j79
             ·replace hF := elimL hF
              rintro _ _ _ _ ⟨rfl, hw⟩
              refine ⟨_, _, _, hw, ?_⟩
              obtain rfl := Wd hF
              refine Ye ?_
              exact Vq ⟨rfl, trivial⟩
             ·replace hF := elimR hF
              rintro _ _ _ _ ⟨rfl, hw⟩
              refine ⟨_, _, _, hw, ?_⟩
              refine Vf ?_
              refine Va (Vm rfl) rfl ?_
              refine Va (rd_sub rfl rfl rfl) rfl ?_
              refine Va (Xr rfl) rfl ?_
              refine Vh ?_
              obtain rfl := Wd hF
              refine Ye ?_
              exact Vq ⟨rfl, rfl, rfl, rfl, rfl, rfl, trivial⟩
        ·have hF := Ys c37 hF
         refine vwp_exit ?_
         obtain rfl := Wd hF
         refine Ye ?_
         exact Vw rfl [] (by decide) ⟨Vs rfl (.int _ _), trivial⟩ trivial
      ·rcases o32 with j33 | j34
       ·replace hF := elimL hF
        rintro _ _ _ _ ⟨rfl, hw⟩
        refine ⟨_, _, _, hw, ?_⟩
        obtain rfl := Wd hF
        refine fnR ?_
        exact Vq ⟨rfl, trivial⟩
       ·replace hF := elimR hF
        rintro _ _ _ _ ⟨rfl, hw⟩
        refine ⟨_, _, _, hw, ?_⟩
        refine Vi ?_
        refine Vf ?_
        obtain ⟨x120, h121, hF⟩ := Yt hF
        rcases Wg x120 with c122 | c122
        ·have hF := Yr c122 hF
         refine Vj (Xt rfl Try.call8 (F_law39_awake_ok h121 _)) rfl ?_
         refine Va (Vl rfl) rfl ?_
         refine Xh rfl rfl c122 ?_
         refine Va (Vm rfl) rfl ?_
         refine Xh rfl rfl c122 ?_
         refine Va (Xe rfl rfl) rfl ?_
         refine Va (Vo (congrArg Wc c122) rfl) rfl ?_
         refine Va (Yd rfl) rfl ?_
         refine Vh ?_
         refine Xj ?_
         obtain rfl := Wd hF
         refine fnR ?_
         exact Vq ⟨rfl, trivial⟩
        ·have hF := Ys c122 hF
         refine Vj (Xt rfl Try.call8 (F_law39_awake_ok h121 _)) rfl ?_
         refine Va (Vl rfl) rfl ?_
         refine Vb rfl rfl (neF c122) rfl ?_
         refine Vb rfl rfl (neF c122) rfl ?_
         refine Va (Vp (congrArg Wc c122) rfl) rfl ?_
         refine Va (Yd rfl) rfl ?_
         refine Vh ?_
         refine Xj ?_
         obtain rfl := Wd hF
         refine fnR ?_
         exact Vq ⟨rfl, trivial⟩
 ·rintro _ _ _ _ ⟨he, hw⟩
  refine ⟨_, _, _, hw, ?_⟩
  exact Yw he [.bool r] ⟨rfl, trivial⟩ (.bool _) ⟨rfl, rfl⟩

end Go.Proofs.Ytmomjhbinkmefaa
