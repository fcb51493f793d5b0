/- Printed by wip/lift/lift.py: the walks that show that the program computes them. -/
import Derived.Test.YtmomjhbinkmefaaR39T
import Derived.Test.YtmomjhbinkmefaaAmlDD
import Derived.Test.YtmomjhbinkmefaaL39D
namespace Go.Proofs.Ytmomjhbinkmefaa
open Go Go.Aml Go.L
attribute [local irreducible] VRd VEf VOp VOps VWp DOps
set_option linter.unusedVariables false
open Go.Aml renaming vops_rd → Va, vops_skip → Vb, rd_fieldAddr → Vc, vwp_region → Vd, vops_nil → Ve, rd_load1 → Vf, vwp_seq → Vg, rd_mvI → Vh, getO_N → Vi, rd_mvB → Vj, vops_efE → Vk, rd_pickF → Vl, rd_pickT → Vm, weak_sub → Vn, ltObj_map → Vo, cv_same → Vp, lenS → Vq, vef_into → Vr, rd_eql → Vs, vwp_monoW → Vt, weak_pick → Vu, vt1 → Vv, vcalls_of_body → Vw, vwp_ret → Vx, rn_low → Vy, rd_loadV1 → Vz, rd_asI → Xa, rd_to → Xb, vwp_cond → Xc, vef_callP → Xd, len_setL → Xe, rd_lenV → Xf, rd_mvV → Xg, vwp_skip → Xh, len_app → Xi, rd_asB → Xj, vef_callN → Xk, VRd → Xl, vef_allocN → Xm, vef_store → Xn, rx1 → Xo, getO_B → Xp, onlyE → Xq, ltObj_es → Xr, rd_loadN → Xs, vwp_block → Xt, dopx_rd → Xu, Weak → Xv, vwp_weak → Xw, rd_extract → Xx, weak_freezeN → Xy, lt_agg → Xz, mv_sl → Ya, rd_ixV → Yb, dops_skip → Yc, VCalls → Yd, bodyQ_pure → Ye, vef_mkN → Yf, bifT → Yg, bifF → Yh, sets_own → Yi, full_take → Yj, allx1 → Yk, rd_nilPtr → Yl, bnd → Ym, setO_N → Yn, weak_room → Yo, ne_own → Yp, dr1 → Yq, ne_low' → Yr, rd_neq → Ys, nt_ne → Yt, dopx_ef → Yu
open List renaming map → Yv
open Go.Aml.PV renaming int → Yw
open Go.Aml.PV renaming bool → Yx
open Option.some renaming inj → Yy
open Nat renaming le_of_ble_eq_true → Yz
open Nat renaming succ_pos → Za
open Bool renaming eq_false_or_eq_true → Zb
open List renaming length_map → Zc
set_option maxHeartbeats 4000000

theorem mixed : Try.prog.follows .mixedOrders = true := by kernel_rfl


theorem F_made_Light_ok {p0 : List Int} {r : Bool} (hF : F_made_Light p0 = some r) (low : List AObj) :
    Yd Try.prog 7 [.vs 1 (Yv (Yw .i64) p0)] low fun x low' => x = .bool r ∧ low' = low := by
 refine Vw (nt := 6) (rs := [.tmp 2]) Try.func7 rfl rfl (Yz rfl) rfl ?_
 refine Vt (Q' := FnE (fun E' lw lc => Xv E' lw lc [(2, .bool r)] low [])) ?_ ?_
 ·unfold F_made_Light at hF
  refine Vg ?_
  refine Vd ?_
  refine Va (Xj rfl) rfl ?_
  refine Ve ?_
  refine Vg ?_
  refine Vd ?_
  refine Va (Xg rfl) rfl ?_
  refine Va (Xb (Xf rfl rfl te_22) (congrArg (fun n : Nat => Yw .i64 (n : Int)) (Zc _))) rfl ?_
  refine Va (rd_leq rfl rfl) rfl ?_
  refine Va (Xj rfl) rfl ?_
  refine Ve ?_
  refine Vx ?_
  obtain rfl := Yy hF
  refine fnR ?_
  exact Vn ⟨rfl, trivial⟩
 ·rintro _ _ _ _ ⟨he, hw⟩
  refine ⟨_, _, _, hw, ?_⟩
  exact Ye he [.bool r] ⟨rfl, trivial⟩ (.bool _) ⟨rfl, rfl⟩

theorem F_lists_In_ok {p0 : Int} {p1 : Int} {p2 : Int} {r : Bool} (hF : F_lists_In p0 p1 p2 = some r) (low : List AObj) :
    Yd Try.prog 33 [.int .i64 p0, .int .i64 p1, .int .i64 p2] low fun x low' => x = .bool r ∧ low' = low := by
 refine Vw (nt := 15) (rs := [.tmp 6]) Try.func33 rfl rfl (Yz rfl) rfl ?_
 refine Vt (Q' := FnE (fun E' lw lc => Xv E' lw lc [(6, .bool r)] low [])) ?_ ?_
 ·unfold F_lists_In at hF
  refine Vg ?_
  refine Vd ?_
  refine Va (Xj rfl) rfl ?_
  refine Ve ?_
  refine Vg ?_
  refine Vd ?_
  rcases Zb (decide (p1 ≤ p0)) with c1 | c1
  ·have hF := Yg c1 hF
   refine Va (Vh rfl) rfl ?_
   refine Va (Vh rfl) rfl ?_
   refine Va (rd_geq rfl rfl) rfl ?_
   refine Va (Vj rfl) rfl ?_
   refine Vv rfl rfl c1 ?_
   refine Va (Vh rfl) rfl ?_
   refine Vv rfl rfl c1 ?_
   refine Va (Vh rfl) rfl ?_
   refine Vv rfl rfl c1 ?_
   refine Va (rd_leq rfl rfl) rfl ?_
   refine Va (Vm (congrArg Yx c1) rfl) rfl ?_
   refine Va (Xj rfl) rfl ?_
   refine Ve ?_
   refine Vx ?_
   obtain rfl := Yy hF
   refine fnR ?_
   exact Vn ⟨rfl, trivial⟩
  ·have hF := Yh c1 hF
   refine Va (Vh rfl) rfl ?_
   refine Va (Vh rfl) rfl ?_
   refine Va (rd_geq rfl rfl) rfl ?_
   refine Va (Vj rfl) rfl ?_
   refine Vb rfl rfl (neF c1) rfl ?_
   refine Vb rfl rfl (neF c1) rfl ?_
   refine Vb rfl rfl (neF c1) rfl ?_
   refine Va (Vl (congrArg Yx c1) rfl) rfl ?_
   refine Va (Xj rfl) rfl ?_
   refine Ve ?_
   refine Vx ?_
   obtain rfl := Yy hF
   refine fnR ?_
   exact Vn ⟨rfl, trivial⟩
 ·rintro _ _ _ _ ⟨he, hw⟩
  refine ⟨_, _, _, hw, ?_⟩
  exact Ye he [.bool r] ⟨rfl, trivial⟩ (.bool _) ⟨rfl, rfl⟩

theorem F_belts_sound_ok {p0 : List T_Belt} {r : Bool} (hF : F_belts_sound p0 = some r) (low : List AObj) :
    Yd Try.prog 29 [.vs 2 (Yv T_Belt.enc p0)] low fun x low' => x = .bool r ∧ low' = low := by
 refine Vw (nt := 59) (rs := [.tmp 2]) Try.func29 rfl rfl (Yz rfl) rfl ?_
 refine Vt (Q' := FnE (fun E' lw lc => Xv E' lw lc [(2, .bool r)] low [])) ?_ ?_
 ·unfold F_belts_sound at hF
  refine Vg ?_
  refine Vd ?_
  refine Va (Xj rfl) rfl ?_
  refine Ve ?_
  refine Vg ?_
  refine Vg ?_
  refine Vd ?_
  obtain ⟨x1, h2, hF⟩ := Ym hF
  refine Va (Xg rfl) rfl ?_
  refine Va (Xb (Xf rfl rfl te_27) (congrArg (fun n : Nat => Yw .i64 (n : Int)) (Zc _))) rfl ?_
  refine Vk (Xd rfl Try.call33 (F_lists_In_ok h2 _)) rfl ?_
  refine Va (rd_not rfl) rfl ?_
  refine Ve ?_
  refine Xc rfl (fun c3 => ?_) (fun c3 => ?_)
  ·have hF := Yg c3 hF
   refine Vg ?_
   refine Vd ?_
   refine Va (Xj rfl) rfl ?_
   refine Ve ?_
   refine Vx ?_
   obtain rfl := Yy hF
   refine fnR ?_
   exact Vn ⟨rfl, trivial⟩
  ·have hF := Yh c3 hF
   refine Xh ?_
   refine Vg ?_
   refine Vg ?_
   refine Vd ?_
   refine Va (Xg rfl) rfl ?_
   refine Va (Xb (Xf rfl rfl te_27) (congrArg (fun n : Nat => Yw .i64 (n : Int)) (Zc _))) rfl ?_
   refine Va (Vh rfl) rfl ?_
   refine Ve ?_
   refine Xt ?_
   obtain ⟨o5, ho5, hF⟩ := Ym hF
   refine Vt (vwp_loopC (F_belts_sound_L1 p0) (fun s4 E' lw lc => Xv E' lw lc [(0, .vs 2 (Yv T_Belt.enc p0)), (12, .vs 2 (Yv T_Belt.enc p0)), (13, .int .i64 ((p0).length : Int)), (14, .int .i64 s4)] low []) (Sum.elim (fun j6 => OnlyE .ret (fun E' lw lc => Xv E' lw lc [(2, .bool false)] low [])) (fun j7 => OnlyE (.exit 0) (fun E' lw lc => Xv E' lw lc [(0, .vs 2 (Yv T_Belt.enc p0))] low []))) ho5 ?_ (by rintro (_|_) _ _ _ ⟨h, _⟩ <;> cases h) ?_) ?_
   ·exact Vn ⟨rfl, rfl, rfl, rfl, trivial⟩
   ·rintro s4 os4 _ _ _ hF hw
    unfold F_belts_sound_L1 at hF
    refine Xw hw ?_
    refine Vg ?_
    refine Vd ?_
    refine Va (rd_lss rfl rfl) rfl ?_
    refine Ve ?_
    refine Vg ?_
    refine Xc rfl (fun c8 => ?_) (fun c8 => ?_)
    ·have hF := Yg c8 hF
     refine Xh ?_
     refine Vg ?_
     refine Xt ?_
     refine Vg ?_
     refine Vd ?_
     obtain ⟨x9, h10, hF⟩ := Ym hF
     refine Va (Vh rfl) rfl ?_
     refine Va (Xb (Yb rfl rfl h10 te_27 ts_31) (v' := .vptr [.int .i64 x9.Onto, .int .i64 x9.Warn] 0) rfl) rfl ?_
     refine Va (rd_loadVN (ds := [.int .i64 x9.Onto, .int .i64 x9.Warn]) rfl ta_31 ts_31 rfl rfl) rfl ?_
     refine Vk (Xm rfl rfl tz_31 rfl rfl (Za _) rfl) rfl ?_
     refine Va (Xa rfl) rfl ?_
     refine Vk (Xn (p := .agg [.int .i64 x9.Onto, .int .i64 x9.Warn]) (e' := .agg [.int .i64 x9.Onto, .int .i64 x9.Warn]) rfl (Vi rfl rfl) rfl rfl ts_31 rfl (Yt rfl) rfl (Yz rfl) rfl (Yn rfl rfl)) rfl ?_
     refine Ve ?_
     refine Vg ?_
     obtain ⟨o11, ho11, hF⟩ := Ym hF
     refine Vt (Q' := (fun o11 => OnlyE .normal (fun E' lw lc => Xv E' lw lc [(0, .vs 2 (Yv T_Belt.enc p0)), (12, .vs 2 (Yv T_Belt.enc p0)), (13, .int .i64 ((p0).length : Int)), (14, .int .i64 s4), (37, .bool o11)] low [])) o11) ?_ ?_
     ·replace hF := ho11
      refine Vd ?_
      obtain ⟨x12, h13, hF⟩ := Ym hF
      rcases Zb (!x12) with c14 | c14
      ·have hF := Yg c14 hF
       refine Va (Vc rfl tf_31_0 ts_3 (by decide)) rfl ?_
       refine Va (Vf rfl (Vi rfl rfl) rfl ta_3 rfl) rfl ?_
       refine Va (Xg rfl) rfl ?_
       refine Va (Xb (Xf rfl rfl te_27) (congrArg (fun n : Nat => Yw .i64 (n : Int)) (Zc _))) rfl ?_
       refine Va (rd_sub rfl rfl rfl) rfl ?_
       refine Vk (Xd rfl Try.call33 (F_lists_In_ok h13 _)) rfl ?_
       refine Va (rd_not rfl) rfl ?_
       refine Va (Vj rfl) rfl ?_
       refine Vb rfl rfl (neT c14) rfl ?_
       refine Vb rfl rfl (neT c14) rfl ?_
       refine Vb rfl rfl (neT c14) rfl ?_
       refine Vb rfl rfl (neT c14) rfl ?_
       refine Va (Vm (congrArg Yx c14) rfl) rfl ?_
       refine Va (Vj rfl) rfl ?_
       refine Vb rfl rfl (by decide) rfl ?_
       refine Vb rfl rfl (by decide) rfl ?_
       refine Vb rfl rfl (by decide) rfl ?_
       refine Vb rfl rfl (by decide) rfl ?_
       refine Va (Vm rfl rfl) rfl ?_
       refine Ve ?_
       obtain rfl := Yy hF
       refine Xq ?_
       exact Vu rfl [] (by decide) ⟨Vy rfl (.vs _ _), Vy rfl (.vs _ _), Vy rfl (.int _ _), Vy rfl (.int _ _), Vy rfl (.bool _), trivial⟩ trivial
      ·have hF := Yh c14 hF
       obtain ⟨x15, h16, hF⟩ := Ym hF
       rcases Zb (!x15) with c17 | c17
       ·have hF := Yg c17 hF
        refine Va (Vc rfl tf_31_0 ts_3 (by decide)) rfl ?_
        refine Va (Vf rfl (Vi rfl rfl) rfl ta_3 rfl) rfl ?_
        refine Va (Xg rfl) rfl ?_
        refine Va (Xb (Xf rfl rfl te_27) (congrArg (fun n : Nat => Yw .i64 (n : Int)) (Zc _))) rfl ?_
        refine Va (rd_sub rfl rfl rfl) rfl ?_
        refine Vk (Xd rfl Try.call33 (F_lists_In_ok h13 _)) rfl ?_
        refine Va (rd_not rfl) rfl ?_
        refine Va (Vj rfl) rfl ?_
        refine Vv rfl rfl c14 ?_
        refine Va (Vc rfl tf_31_1 ts_3 (by decide)) rfl ?_
        refine Vv rfl rfl c14 ?_
        refine Va (Vf rfl (Vi rfl rfl) rfl ta_3 rfl) rfl ?_
        refine Vv rfl rfl c14 ?_
        refine Vk (Xd rfl Try.call33 (F_lists_In_ok h16 _)) rfl ?_
        refine Vv rfl rfl c14 ?_
        refine Va (rd_not rfl) rfl ?_
        refine Va (Vl (congrArg Yx c14) rfl) rfl ?_
        refine Va (Vj rfl) rfl ?_
        refine Vb rfl rfl (neT c17) rfl ?_
        refine Vb rfl rfl (neT c17) rfl ?_
        refine Vb rfl rfl (neT c17) rfl ?_
        refine Vb rfl rfl (neT c17) rfl ?_
        refine Va (Vm (congrArg Yx c17) rfl) rfl ?_
        refine Ve ?_
        obtain rfl := Yy hF
        refine Xq ?_
        exact Vu rfl [] (by decide) ⟨Vy rfl (.vs _ _), Vy rfl (.vs _ _), Vy rfl (.int _ _), Vy rfl (.int _ _), Vy rfl (.bool _), trivial⟩ trivial
       ·have hF := Yh c17 hF
        refine Va (Vc rfl tf_31_0 ts_3 (by decide)) rfl ?_
        refine Va (Vf rfl (Vi rfl rfl) rfl ta_3 rfl) rfl ?_
        refine Va (Xg rfl) rfl ?_
        refine Va (Xb (Xf rfl rfl te_27) (congrArg (fun n : Nat => Yw .i64 (n : Int)) (Zc _))) rfl ?_
        refine Va (rd_sub rfl rfl rfl) rfl ?_
        refine Vk (Xd rfl Try.call33 (F_lists_In_ok h13 _)) rfl ?_
        refine Va (rd_not rfl) rfl ?_
        refine Va (Vj rfl) rfl ?_
        refine Vv rfl rfl c14 ?_
        refine Va (Vc rfl tf_31_1 ts_3 (by decide)) rfl ?_
        refine Vv rfl rfl c14 ?_
        refine Va (Vf rfl (Vi rfl rfl) rfl ta_3 rfl) rfl ?_
        refine Vv rfl rfl c14 ?_
        refine Vk (Xd rfl Try.call33 (F_lists_In_ok h16 _)) rfl ?_
        refine Vv rfl rfl c14 ?_
        refine Va (rd_not rfl) rfl ?_
        refine Va (Vl (congrArg Yx c14) rfl) rfl ?_
        refine Va (Vj rfl) rfl ?_
        refine Vv rfl rfl c17 ?_
        refine Va (Vc rfl tf_31_0 ts_3 (by decide)) rfl ?_
        refine Vv rfl rfl c17 ?_
        refine Va (Vf rfl (Vi rfl rfl) rfl ta_3 rfl) rfl ?_
        refine Vv rfl rfl c17 ?_
        refine Va (Vh rfl) rfl ?_
        refine Vv rfl rfl c17 ?_
        refine Va (Vs rfl rfl) rfl ?_
        refine Va (Vl (congrArg Yx c17) rfl) rfl ?_
        refine Ve ?_
        obtain rfl := Yy hF
        refine Xq ?_
        exact Vu rfl [] (by decide) ⟨Vy rfl (.vs _ _), Vy rfl (.vs _ _), Vy rfl (.int _ _), Vy rfl (.int _ _), Vy rfl (.bool _), trivial⟩ trivial
     ·rintro _ _ _ _ ⟨rfl, hw⟩
      refine ⟨_, _, _, hw, ?_⟩
      refine Xc rfl (fun c18 => ?_) (fun c18 => ?_)
      ·have hF := Yg c18 hF
       refine Vg ?_
       refine Vd ?_
       refine Va (Xj rfl) rfl ?_
       refine Ve ?_
       refine Vx ?_
       obtain rfl := Yy hF
       refine Xq ?_
       exact Vn ⟨rfl, trivial⟩
      ·have hF := Yh c18 hF
       refine Xh ?_
       refine Vd ?_
       refine Va (rd_add rfl rfl rfl) rfl ?_
       refine Va (Vh rfl) rfl ?_
       refine Ve ?_
       obtain rfl := Yy hF
       refine Xq ?_
       exact Vn ⟨rfl, rfl, rfl, rfl, trivial⟩
    ·have hF := Yh c8 hF
     refine vwp_exit ?_
     obtain rfl := Yy hF
     refine Xq ?_
     exact Vn ⟨rfl, trivial⟩
   ·rcases o5 with j6 | j7
    ·replace hF := elimL hF
     rintro _ _ _ _ ⟨rfl, hw⟩
     refine ⟨_, _, _, hw, ?_⟩
     obtain rfl := Yy hF
     refine fnR ?_
     exact Vn ⟨rfl, trivial⟩
    ·replace hF := elimR hF
     rintro _ _ _ _ ⟨rfl, hw⟩
     refine ⟨_, _, _, hw, ?_⟩
     refine Vg ?_
     refine Vg ?_
     refine Vd ?_
     refine Va (Xg rfl) rfl ?_
     refine Va (Xb (Xf rfl rfl te_27) (congrArg (fun n : Nat => Yw .i64 (n : Int)) (Zc _))) rfl ?_
     refine Va (Vh rfl) rfl ?_
     refine Ve ?_
     refine Xt ?_
     obtain ⟨o20, ho20, hF⟩ := Ym hF
     refine Vt (vwp_loopC (F_belts_sound_L2 p0) (fun s19 E' lw lc => Xv E' lw lc [(0, .vs 2 (Yv T_Belt.enc p0)), (40, .int .i64 ((p0).length : Int)), (41, .int .i64 s19)] low []) (Sum.elim (fun j21 => OnlyE .ret (fun E' lw lc => Xv E' lw lc [(2, .bool false)] low [])) (fun j22 => OnlyE (.exit 2) (fun E' lw lc => Xv E' lw lc [] low []))) ho20 ?_ (by rintro (_|_) _ _ _ ⟨h, _⟩ <;> cases h) ?_) ?_
     ·exact Vn ⟨rfl, rfl, rfl, trivial⟩
     ·rintro s19 os19 _ _ _ hF hw
      unfold F_belts_sound_L2 at hF
      refine Xw hw ?_
      refine Vg ?_
      refine Vd ?_
      refine Va (rd_lss rfl rfl) rfl ?_
      refine Ve ?_
      refine Vg ?_
      refine Xc rfl (fun c23 => ?_) (fun c23 => ?_)
      ·have hF := Yg c23 hF
       refine Xh ?_
       refine Vg ?_
       refine Xt ?_
       refine Vg ?_
       refine Vd ?_
       refine Va (Vh rfl) rfl ?_
       refine Va (Xa rfl) rfl ?_
       refine Ve ?_
       refine Vg ?_
       refine Vd ?_
       refine Va (Xa rfl) rfl ?_
       refine Ve ?_
       refine Vg ?_
       refine Vd ?_
       refine Va (Vh rfl) rfl ?_
       refine Va (Xa rfl) rfl ?_
       refine Ve ?_
       refine Xt ?_
       obtain ⟨o25, ho25, hF⟩ := Ym hF
       refine Vt (vwp_loopC (F_belts_sound_L3 p0) (fun s24 E' lw lc => Xv E' lw lc [(0, .vs 2 (Yv T_Belt.enc p0)), (6, .int .i64 s24.1), (7, .int .i64 s24.2), (40, .int .i64 ((p0).length : Int)), (41, .int .i64 s19)] low []) (Sum.elim (fun j26 => OnlyE .ret (fun E' lw lc => Xv E' lw lc [(2, .bool false)] low [])) (fun j27 => OnlyE (.exit 4) (fun E' lw lc => Xv E' lw lc [(0, .vs 2 (Yv T_Belt.enc p0)), (40, .int .i64 ((p0).length : Int)), (41, .int .i64 s19)] low []))) ho25 ?_ (by rintro (_|_) _ _ _ ⟨h, _⟩ <;> cases h) ?_) ?_
       ·exact Vn ⟨rfl, rfl, rfl, rfl, rfl, trivial⟩
       ·rintro s24 os24 _ _ _ hF hw
        unfold F_belts_sound_L3 at hF
        refine Xw hw ?_
        refine Vg ?_
        refine Vg ?_
        refine Vd ?_
        refine Va (Vh rfl) rfl ?_
        refine Va (rd_geq rfl rfl) rfl ?_
        refine Ve ?_
        refine Xc rfl (fun c28 => ?_) (fun c28 => ?_)
        ·have hF := Yg c28 hF
         refine Xh ?_
         refine Vg ?_
         refine Xt ?_
         refine Vg ?_
         refine Vd ?_
         refine Va (Vh rfl) rfl ?_
         refine Va (rd_add rfl rfl rfl) rfl ?_
         refine Va (Xa rfl) rfl ?_
         refine Ve ?_
         refine Vg ?_
         refine Vd ?_
         refine Va (Vh rfl) rfl ?_
         refine Va (Xg rfl) rfl ?_
         refine Va (Xb (Xf rfl rfl te_27) (congrArg (fun n : Nat => Yw .i64 (n : Int)) (Zc _))) rfl ?_
         refine Va (rd_gtr rfl rfl) rfl ?_
         refine Ve ?_
         refine Xc rfl (fun c29 => ?_) (fun c29 => ?_)
         ·have hF := Yg c29 hF
          refine Vg ?_
          refine Vd ?_
          refine Va (Xj rfl) rfl ?_
          refine Ve ?_
          refine Vx ?_
          obtain rfl := Yy hF
          refine Xq ?_
          exact Vn ⟨rfl, trivial⟩
         ·have hF := Yh c29 hF
          refine Xh ?_
          refine Vd ?_
          obtain ⟨x30, h31, hF⟩ := Ym hF
          refine Va (Xg rfl) rfl ?_
          refine Va (Vh rfl) rfl ?_
          refine Va (Xb (Yb rfl rfl h31 te_27 ts_31) (v' := .vptr [.int .i64 x30.Onto, .int .i64 x30.Warn] 0) rfl) rfl ?_
          refine Va (rd_fieldVaddr rfl tf_31_0 ts_3 (by decide)) rfl ?_
          refine Va (Vz rfl ta_3 rfl) rfl ?_
          refine Va (Xa rfl) rfl ?_
          refine Ve ?_
          obtain rfl := Yy hF
          refine Xq ?_
          exact Vn ⟨rfl, rfl, rfl, rfl, rfl, trivial⟩
        ·have hF := Yh c28 hF
         refine vwp_exit ?_
         obtain rfl := Yy hF
         refine Xq ?_
         exact Vn ⟨rfl, rfl, rfl, trivial⟩
       ·rcases o25 with j26 | j27
        ·replace hF := elimL hF
         rintro _ _ _ _ ⟨rfl, hw⟩
         refine ⟨_, _, _, hw, ?_⟩
         obtain rfl := Yy hF
         refine Xq ?_
         exact Vn ⟨rfl, trivial⟩
        ·replace hF := elimR hF
         rintro _ _ _ _ ⟨rfl, hw⟩
         refine ⟨_, _, _, hw, ?_⟩
         refine Vd ?_
         refine Va (rd_add rfl rfl rfl) rfl ?_
         refine Va (Vh rfl) rfl ?_
         refine Ve ?_
         obtain rfl := Yy hF
         refine Xq ?_
         exact Vn ⟨rfl, rfl, rfl, trivial⟩
      ·have hF := Yh c23 hF
       refine vwp_exit ?_
       obtain rfl := Yy hF
       refine Xq ?_
       exact Vn trivial
     ·rcases o20 with j21 | j22
      ·replace hF := elimL hF
       rintro _ _ _ _ ⟨rfl, hw⟩
       refine ⟨_, _, _, hw, ?_⟩
       obtain rfl := Yy hF
       refine fnR ?_
       exact Vn ⟨rfl, trivial⟩
      ·replace hF := elimR hF
       rintro _ _ _ _ ⟨rfl, hw⟩
       refine ⟨_, _, _, hw, ?_⟩
       refine Vg ?_
       refine Vd ?_
       refine Va (Xj rfl) rfl ?_
       refine Ve ?_
       refine Vx ?_
       obtain rfl := Yy hF
       refine fnR ?_
       exact Vn ⟨rfl, trivial⟩
 ·rintro _ _ _ _ ⟨he, hw⟩
  refine ⟨_, _, _, hw, ?_⟩
  exact Ye he [.bool r] ⟨rfl, trivial⟩ (.bool _) ⟨rfl, rfl⟩

theorem F_belts_Make_ok {p0 : List T_Belt} {r : T_Line × Int} (hF : F_belts_Make p0 = some r) (low : List AObj) :
    Yd Try.prog 12 [.vs 2 (Yv T_Belt.enc p0)] low fun x low' => x = .tup [.agg [.int .i64 r.1.Time, .vs 1 (Yv (Yw .i64) r.1.States), .vs 1 (Yv (Yw .i64) r.1.Since), .vs 1 (Yv Yx r.1.Pulled), .vs 1 (Yv Yx r.1.Held)], .int .i64 r.2] ∧ low' = low := by
 refine Vw (nt := 20) (rs := [.cell 2 34, .tmp 3]) Try.func12 rfl rfl (Yz rfl) rfl ?_
 refine Vt (Q' := FnE (fun E' lw lc => Xv E' lw lc [(2, .ptr (low.length + 0) 0 0 0), (3, .int .i64 r.2)] low [⟨34, 5, [.agg [.int .i64 r.1.Time, .vs 1 (Yv (Yw .i64) r.1.States), .vs 1 (Yv (Yw .i64) r.1.Since), .vs 1 (Yv Yx r.1.Pulled), .vs 1 (Yv Yx r.1.Held)]], 0⟩])) ?_ ?_
 ·unfold F_belts_Make at hF
  refine Vg ?_
  refine Vd ?_
  refine Vk (Xm rfl rfl tz_34 rfl rfl (Za _) rfl) rfl ?_
  refine Va (Xa rfl) rfl ?_
  refine Ve ?_
  refine Vg ?_
  refine Vg ?_
  refine Vd ?_
  obtain ⟨x1, h2, hF⟩ := Ym hF
  refine Va (Xg rfl) rfl ?_
  refine Vk (Xd rfl Try.call29 (F_belts_sound_ok h2 _)) rfl ?_
  refine Va (rd_not rfl) rfl ?_
  refine Ve ?_
  refine Xc rfl (fun c3 => ?_) (fun c3 => ?_)
  ·have hF := Yg c3 hF
   refine Vg ?_
   refine Vd ?_
   refine Va (rd_nc (rd_build (vs := []) (ds := [.int .i64 0, .nils, .nils, .nils, .nils]) tz_34 rfl rfl tp_34 trivial (nt_all2 rfl) rfl) (nc_agg (cs := [.int .i64 0, .nils, .nils, .nils, .nils]) (ds := [.int .i64 0, .vs 1 (Yv (Yw .i64) ([] : List Int)), .vs 1 (Yv (Yw .i64) ([] : List Int)), .vs 1 (Yv Yx ([] : List Bool)), .vs 1 (Yv Yx ([] : List Bool))]) rfl rfl ⟨nc_eq rfl, nc_nil rfl rfl, nc_nil rfl rfl, nc_nil rfl rfl, nc_nil rfl rfl, trivial⟩)) rfl ?_
   refine Vk (Xn (p := .agg [.int .i64 0, .vs 1 (Yv (Yw .i64) ([] : List Int)), .vs 1 (Yv (Yw .i64) ([] : List Int)), .vs 1 (Yv Yx ([] : List Bool)), .vs 1 (Yv Yx ([] : List Bool))]) (e' := .agg [.int .i64 0, .vs 1 (Yv (Yw .i64) ([] : List Int)), .vs 1 (Yv (Yw .i64) ([] : List Int)), .vs 1 (Yv Yx ([] : List Bool)), .vs 1 (Yv Yx ([] : List Bool))]) rfl (Vi rfl rfl) rfl rfl ts_34 rfl (Yt rfl) rfl (Yz rfl) rfl (Yn rfl rfl)) rfl ?_
   refine Va (Xa rfl) rfl ?_
   refine Ve ?_
   refine Vx ?_
   obtain rfl := Yy hF
   refine fnR ?_
   exact Vn ⟨rfl, rfl, trivial⟩
  ·have hF := Yh c3 hF
   refine Xh ?_
   refine Vg ?_
   refine Vd ?_
   refine Va (Xg rfl) rfl ?_
   refine Va (Xb (Xf rfl rfl te_27) (congrArg (fun n : Nat => Yw .i64 (n : Int)) (Zc _))) rfl ?_
   refine Va (Xa rfl) rfl ?_
   refine Ve ?_
   refine Vg ?_
   obtain ⟨x4, h5, hF⟩ := Ym hF
   obtain ⟨x6, h7, hF⟩ := Ym hF
   obtain ⟨x8, h9, hF⟩ := Ym hF
   obtain ⟨x10, h11, hF⟩ := Ym hF
   refine Xw (Yo 3 1 (Za _)) ?_
   refine Xw (Yo 3 1 (Za _)) ?_
   refine Xw (Yo 4 1 (Za _)) ?_
   refine Xw (Yo 4 1 (Za _)) ?_
   refine vwp_drawnX [[], [0], [], [2], [], [4], [], [6], [0, 1, 2, 3, 4, 5, 6, 7], [0, 1, 2, 3, 4, 5, 6, 7, 8], [0, 1, 2, 3, 4, 5, 6, 7, 8, 9]] [false, true, false, true, false, true, false, true, false, true, false] [([], low, [⟨34, 5, [.agg [.int .i64 0, .nils, .nils, .nils, .nils]], 0⟩, ⟨3, 1, [], 0⟩, ⟨3, 1, [], 0⟩, ⟨4, 1, [], 0⟩, ⟨4, 1, [], 0⟩]), ([1], low, [⟨34, 5, [.agg [.int .i64 0, .nils, .nils, .nils, .nils]], 0⟩, ⟨3, 1, Yv (Yw .i64) x4, 1⟩, ⟨3, 1, [], 0⟩, ⟨4, 1, [], 0⟩, ⟨4, 1, [], 0⟩]), ([3], low, [⟨34, 5, [.agg [.int .i64 0, .nils, .nils, .nils, .nils]], 0⟩, ⟨3, 1, [], 0⟩, ⟨3, 1, Yv (Yw .i64) x6, 1⟩, ⟨4, 1, [], 0⟩, ⟨4, 1, [], 0⟩]), ([5], low, [⟨34, 5, [.agg [.int .i64 0, .nils, .nils, .nils, .nils]], 0⟩, ⟨3, 1, [], 0⟩, ⟨3, 1, [], 0⟩, ⟨4, 1, Yv Yx x8, 1⟩, ⟨4, 1, [], 0⟩]), ([7], low, [⟨34, 5, [.agg [.int .i64 0, .nils, .nils, .nils, .nils]], 0⟩, ⟨3, 1, [], 0⟩, ⟨3, 1, [], 0⟩, ⟨4, 1, [], 0⟩, ⟨4, 1, Yv Yx x10, 1⟩]), ([1, 3], low, [⟨34, 5, [.agg [.int .i64 0, .nils, .nils, .nils, .nils]], 0⟩, ⟨3, 1, Yv (Yw .i64) x4, 1⟩, ⟨3, 1, Yv (Yw .i64) x6, 1⟩, ⟨4, 1, [], 0⟩, ⟨4, 1, [], 0⟩]), ([1, 5], low, [⟨34, 5, [.agg [.int .i64 0, .nils, .nils, .nils, .nils]], 0⟩, ⟨3, 1, Yv (Yw .i64) x4, 1⟩, ⟨3, 1, [], 0⟩, ⟨4, 1, Yv Yx x8, 1⟩, ⟨4, 1, [], 0⟩]), ([1, 7], low, [⟨34, 5, [.agg [.int .i64 0, .nils, .nils, .nils, .nils]], 0⟩, ⟨3, 1, Yv (Yw .i64) x4, 1⟩, ⟨3, 1, [], 0⟩, ⟨4, 1, [], 0⟩, ⟨4, 1, Yv Yx x10, 1⟩]), ([3, 5], low, [⟨34, 5, [.agg [.int .i64 0, .nils, .nils, .nils, .nils]], 0⟩, ⟨3, 1, [], 0⟩, ⟨3, 1, Yv (Yw .i64) x6, 1⟩, ⟨4, 1, Yv Yx x8, 1⟩, ⟨4, 1, [], 0⟩]), ([3, 7], low, [⟨34, 5, [.agg [.int .i64 0, .nils, .nils, .nils, .nils]], 0⟩, ⟨3, 1, [], 0⟩, ⟨3, 1, Yv (Yw .i64) x6, 1⟩, ⟨4, 1, [], 0⟩, ⟨4, 1, Yv Yx x10, 1⟩]), ([5, 7], low, [⟨34, 5, [.agg [.int .i64 0, .nils, .nils, .nils, .nils]], 0⟩, ⟨3, 1, [], 0⟩, ⟨3, 1, [], 0⟩, ⟨4, 1, Yv Yx x8, 1⟩, ⟨4, 1, Yv Yx x10, 1⟩]), ([1, 3, 5], low, [⟨34, 5, [.agg [.int .i64 0, .nils, .nils, .nils, .nils]], 0⟩, ⟨3, 1, Yv (Yw .i64) x4, 1⟩, ⟨3, 1, Yv (Yw .i64) x6, 1⟩, ⟨4, 1, Yv Yx x8, 1⟩, ⟨4, 1, [], 0⟩]), ([1, 3, 7], low, [⟨34, 5, [.agg [.int .i64 0, .nils, .nils, .nils, .nils]], 0⟩, ⟨3, 1, Yv (Yw .i64) x4, 1⟩, ⟨3, 1, Yv (Yw .i64) x6, 1⟩, ⟨4, 1, [], 0⟩, ⟨4, 1, Yv Yx x10, 1⟩]), ([1, 5, 7], low, [⟨34, 5, [.agg [.int .i64 0, .nils, .nils, .nils, .nils]], 0⟩, ⟨3, 1, Yv (Yw .i64) x4, 1⟩, ⟨3, 1, [], 0⟩, ⟨4, 1, Yv Yx x8, 1⟩, ⟨4, 1, Yv Yx x10, 1⟩]), ([3, 5, 7], low, [⟨34, 5, [.agg [.int .i64 0, .nils, .nils, .nils, .nils]], 0⟩, ⟨3, 1, [], 0⟩, ⟨3, 1, Yv (Yw .i64) x6, 1⟩, ⟨4, 1, Yv Yx x8, 1⟩, ⟨4, 1, Yv Yx x10, 1⟩]), ([1, 3, 5, 7], low, [⟨34, 5, [.agg [.int .i64 0, .nils, .nils, .nils, .nils]], 0⟩, ⟨3, 1, Yv (Yw .i64) x4, 1⟩, ⟨3, 1, Yv (Yw .i64) x6, 1⟩, ⟨4, 1, Yv Yx x8, 1⟩, ⟨4, 1, Yv Yx x10, 1⟩]), ([1, 3, 5, 7, 9], low, [⟨34, 5, [.agg [.int .i64 0, .sl (low.length + 1) 1 0 (x4).length, .sl (low.length + 2) 1 0 (x6).length, .sl (low.length + 3) 1 0 (x8).length, .sl (low.length + 4) 1 0 (x10).length]], 0⟩, ⟨3, 1, Yv (Yw .i64) x4, 1⟩, ⟨3, 1, Yv (Yw .i64) x6, 1⟩, ⟨4, 1, Yv Yx x8, 1⟩, ⟨4, 1, Yv Yx x10, 1⟩])] mixed (by kernel_rfl) rfl (lenAllX (Yk rfl (Yk rfl (Yk rfl (Yk rfl (Yk rfl (Yk rfl (Yk rfl (Yk rfl (Yk rfl (Yk rfl (Yk rfl (Yk rfl (Yk rfl (Yk rfl (Yk rfl (Yk rfl (Yk rfl allx0)))))))))))))))))) rfl [1, 3, 5, 7, 9] (low, [⟨34, 5, [.agg [.int .i64 0, .sl (low.length + 1) 1 0 (x4).length, .sl (low.length + 2) 1 0 (x6).length, .sl (low.length + 3) 1 0 (x8).length, .sl (low.length + 4) 1 0 (x10).length]], 0⟩, ⟨3, 1, Yv (Yw .i64) x4, 1⟩, ⟨3, 1, Yv (Yw .i64) x6, 1⟩, ⟨4, 1, Yv Yx x8, 1⟩, ⟨4, 1, Yv Yx x10, 1⟩]) rfl rfl ?_
   refine Xu _ rfl rfl (Xo (VRd.ntl (Vh rfl)) (Xo (VRd.ntl (Vh rfl)) (Xo (VRd.ntl (Vh rfl)) (Xo (VRd.ntl (Vh rfl)) (Xo (VRd.ntl (Vh rfl)) (Xo (VRd.ntl (Vh rfl)) (Xo (VRd.ntl (Vh rfl)) (Xo (VRd.ntl (Vh rfl)) rx0)))))))) ?_
   refine Yu _ rfl rfl (ex1 1 rfl (Vr (f := 5) (k := 1) (m := 1) (os := [⟨3, 1, Yv (Yw .i64) x4, 0⟩]) (os' := [⟨3, 1, Yv (Yw .i64) x4, 1⟩]) (v := .sl (low.length + 5) 0 0 (x4).length) rfl rfl rfl ⟨⟨_, rfl, rfl⟩, trivial⟩ (Yf (f := (Yw .i64)) (zz := 0) rfl rfl rfl rfl te_22 ts_3 tb_3 (by decide) tz_3 rfl rfl (Za _) rfl h5) (Ya 0 rfl rfl rfl rfl) ⟨.same _ _ _ (Vo (fun _ => .int _ _)), trivial⟩ rfl) (ex1 5 rfl (Vr (f := 5) (k := 1) (m := 1) (os := [⟨3, 1, Yv (Yw .i64) x4, 0⟩]) (os' := [⟨3, 1, Yv (Yw .i64) x4, 1⟩]) (v := .sl (low.length + 5) 0 0 (x4).length) rfl rfl rfl ⟨⟨_, rfl, rfl⟩, trivial⟩ (Yf (f := (Yw .i64)) (zz := 0) rfl rfl rfl rfl te_22 ts_3 tb_3 (by decide) tz_3 rfl rfl (Za _) rfl h5) (Ya 0 rfl rfl rfl rfl) ⟨.same _ _ _ (Vo (fun _ => .int _ _)), trivial⟩ rfl) (ex1 6 rfl (Vr (f := 5) (k := 1) (m := 1) (os := [⟨3, 1, Yv (Yw .i64) x4, 0⟩]) (os' := [⟨3, 1, Yv (Yw .i64) x4, 1⟩]) (v := .sl (low.length + 5) 0 0 (x4).length) rfl rfl rfl ⟨⟨_, rfl, rfl⟩, trivial⟩ (Yf (f := (Yw .i64)) (zz := 0) rfl rfl rfl rfl te_22 ts_3 tb_3 (by decide) tz_3 rfl rfl (Za _) rfl h5) (Ya 0 rfl rfl rfl rfl) ⟨.same _ _ _ (Vo (fun _ => .int _ _)), trivial⟩ rfl) (ex1 7 rfl (Vr (f := 5) (k := 1) (m := 1) (os := [⟨3, 1, Yv (Yw .i64) x4, 0⟩]) (os' := [⟨3, 1, Yv (Yw .i64) x4, 1⟩]) (v := .sl (low.length + 5) 0 0 (x4).length) rfl rfl rfl ⟨⟨_, rfl, rfl⟩, trivial⟩ (Yf (f := (Yw .i64)) (zz := 0) rfl rfl rfl rfl te_22 ts_3 tb_3 (by decide) tz_3 rfl rfl (Za _) rfl h5) (Ya 0 rfl rfl rfl rfl) ⟨.same _ _ _ (Vo (fun _ => .int _ _)), trivial⟩ rfl) (ex1 11 rfl (Vr (f := 5) (k := 1) (m := 1) (os := [⟨3, 1, Yv (Yw .i64) x4, 0⟩]) (os' := [⟨3, 1, Yv (Yw .i64) x4, 1⟩]) (v := .sl (low.length + 5) 0 0 (x4).length) rfl rfl rfl ⟨⟨_, rfl, rfl⟩, trivial⟩ (Yf (f := (Yw .i64)) (zz := 0) rfl rfl rfl rfl te_22 ts_3 tb_3 (by decide) tz_3 rfl rfl (Za _) rfl h5) (Ya 0 rfl rfl rfl rfl) ⟨.same _ _ _ (Vo (fun _ => .int _ _)), trivial⟩ rfl) (ex1 12 rfl (Vr (f := 5) (k := 1) (m := 1) (os := [⟨3, 1, Yv (Yw .i64) x4, 0⟩]) (os' := [⟨3, 1, Yv (Yw .i64) x4, 1⟩]) (v := .sl (low.length + 5) 0 0 (x4).length) rfl rfl rfl ⟨⟨_, rfl, rfl⟩, trivial⟩ (Yf (f := (Yw .i64)) (zz := 0) rfl rfl rfl rfl te_22 ts_3 tb_3 (by decide) tz_3 rfl rfl (Za _) rfl h5) (Ya 0 rfl rfl rfl rfl) ⟨.same _ _ _ (Vo (fun _ => .int _ _)), trivial⟩ rfl) (ex1 13 rfl (Vr (f := 5) (k := 1) (m := 1) (os := [⟨3, 1, Yv (Yw .i64) x4, 0⟩]) (os' := [⟨3, 1, Yv (Yw .i64) x4, 1⟩]) (v := .sl (low.length + 5) 0 0 (x4).length) rfl rfl rfl ⟨⟨_, rfl, rfl⟩, trivial⟩ (Yf (f := (Yw .i64)) (zz := 0) rfl rfl rfl rfl te_22 ts_3 tb_3 (by decide) tz_3 rfl rfl (Za _) rfl h5) (Ya 0 rfl rfl rfl rfl) ⟨.same _ _ _ (Vo (fun _ => .int _ _)), trivial⟩ rfl) (ex1 15 rfl (Vr (f := 5) (k := 1) (m := 1) (os := [⟨3, 1, Yv (Yw .i64) x4, 0⟩]) (os' := [⟨3, 1, Yv (Yw .i64) x4, 1⟩]) (v := .sl (low.length + 5) 0 0 (x4).length) rfl rfl rfl ⟨⟨_, rfl, rfl⟩, trivial⟩ (Yf (f := (Yw .i64)) (zz := 0) rfl rfl rfl rfl te_22 ts_3 tb_3 (by decide) tz_3 rfl rfl (Za _) rfl h5) (Ya 0 rfl rfl rfl rfl) ⟨.same _ _ _ (Vo (fun _ => .int _ _)), trivial⟩ rfl) ex0)))))))) ?_
   refine Xu _ rfl rfl (Xo (VRd.ntl (Vh rfl)) (Xo (VRd.ntl (Vh rfl)) (Xo (VRd.ntl (Vh rfl)) (Xo (VRd.ntl (Vh rfl)) (Xo (VRd.ntl (Vh rfl)) (Xo (VRd.ntl (Vh rfl)) (Xo (VRd.ntl (Vh rfl)) (Xo (VRd.ntl (Vh rfl)) rx0)))))))) ?_
   refine Yu _ rfl rfl (ex1 2 rfl (Vr (f := 5) (k := 2) (m := 1) (os := [⟨3, 1, Yv (Yw .i64) x6, 0⟩]) (os' := [⟨3, 1, Yv (Yw .i64) x6, 1⟩]) (v := .sl (low.length + 5) 0 0 (x6).length) rfl rfl rfl ⟨⟨_, rfl, rfl⟩, trivial⟩ (Yf (f := (Yw .i64)) (zz := 0) rfl rfl rfl rfl te_22 ts_3 tb_3 (by decide) tz_3 rfl rfl (Za _) rfl h7) (Ya 0 rfl rfl rfl rfl) ⟨.same _ _ _ (Vo (fun _ => .int _ _)), trivial⟩ rfl) (ex1 5 rfl (Vr (f := 5) (k := 2) (m := 1) (os := [⟨3, 1, Yv (Yw .i64) x6, 0⟩]) (os' := [⟨3, 1, Yv (Yw .i64) x6, 1⟩]) (v := .sl (low.length + 5) 0 0 (x6).length) rfl rfl rfl ⟨⟨_, rfl, rfl⟩, trivial⟩ (Yf (f := (Yw .i64)) (zz := 0) rfl rfl rfl rfl te_22 ts_3 tb_3 (by decide) tz_3 rfl rfl (Za _) rfl h7) (Ya 0 rfl rfl rfl rfl) ⟨.same _ _ _ (Vo (fun _ => .int _ _)), trivial⟩ rfl) (ex1 8 rfl (Vr (f := 5) (k := 2) (m := 1) (os := [⟨3, 1, Yv (Yw .i64) x6, 0⟩]) (os' := [⟨3, 1, Yv (Yw .i64) x6, 1⟩]) (v := .sl (low.length + 5) 0 0 (x6).length) rfl rfl rfl ⟨⟨_, rfl, rfl⟩, trivial⟩ (Yf (f := (Yw .i64)) (zz := 0) rfl rfl rfl rfl te_22 ts_3 tb_3 (by decide) tz_3 rfl rfl (Za _) rfl h7) (Ya 0 rfl rfl rfl rfl) ⟨.same _ _ _ (Vo (fun _ => .int _ _)), trivial⟩ rfl) (ex1 9 rfl (Vr (f := 5) (k := 2) (m := 1) (os := [⟨3, 1, Yv (Yw .i64) x6, 0⟩]) (os' := [⟨3, 1, Yv (Yw .i64) x6, 1⟩]) (v := .sl (low.length + 5) 0 0 (x6).length) rfl rfl rfl ⟨⟨_, rfl, rfl⟩, trivial⟩ (Yf (f := (Yw .i64)) (zz := 0) rfl rfl rfl rfl te_22 ts_3 tb_3 (by decide) tz_3 rfl rfl (Za _) rfl h7) (Ya 0 rfl rfl rfl rfl) ⟨.same _ _ _ (Vo (fun _ => .int _ _)), trivial⟩ rfl) (ex1 11 rfl (Vr (f := 5) (k := 2) (m := 1) (os := [⟨3, 1, Yv (Yw .i64) x6, 0⟩]) (os' := [⟨3, 1, Yv (Yw .i64) x6, 1⟩]) (v := .sl (low.length + 5) 0 0 (x6).length) rfl rfl rfl ⟨⟨_, rfl, rfl⟩, trivial⟩ (Yf (f := (Yw .i64)) (zz := 0) rfl rfl rfl rfl te_22 ts_3 tb_3 (by decide) tz_3 rfl rfl (Za _) rfl h7) (Ya 0 rfl rfl rfl rfl) ⟨.same _ _ _ (Vo (fun _ => .int _ _)), trivial⟩ rfl) (ex1 12 rfl (Vr (f := 5) (k := 2) (m := 1) (os := [⟨3, 1, Yv (Yw .i64) x6, 0⟩]) (os' := [⟨3, 1, Yv (Yw .i64) x6, 1⟩]) (v := .sl (low.length + 5) 0 0 (x6).length) rfl rfl rfl ⟨⟨_, rfl, rfl⟩, trivial⟩ (Yf (f := (Yw .i64)) (zz := 0) rfl rfl rfl rfl te_22 ts_3 tb_3 (by decide) tz_3 rfl rfl (Za _) rfl h7) (Ya 0 rfl rfl rfl rfl) ⟨.same _ _ _ (Vo (fun _ => .int _ _)), trivial⟩ rfl) (ex1 14 rfl (Vr (f := 5) (k := 2) (m := 1) (os := [⟨3, 1, Yv (Yw .i64) x6, 0⟩]) (os' := [⟨3, 1, Yv (Yw .i64) x6, 1⟩]) (v := .sl (low.length + 5) 0 0 (x6).length) rfl rfl rfl ⟨⟨_, rfl, rfl⟩, trivial⟩ (Yf (f := (Yw .i64)) (zz := 0) rfl rfl rfl rfl te_22 ts_3 tb_3 (by decide) tz_3 rfl rfl (Za _) rfl h7) (Ya 0 rfl rfl rfl rfl) ⟨.same _ _ _ (Vo (fun _ => .int _ _)), trivial⟩ rfl) (ex1 15 rfl (Vr (f := 5) (k := 2) (m := 1) (os := [⟨3, 1, Yv (Yw .i64) x6, 0⟩]) (os' := [⟨3, 1, Yv (Yw .i64) x6, 1⟩]) (v := .sl (low.length + 5) 0 0 (x6).length) rfl rfl rfl ⟨⟨_, rfl, rfl⟩, trivial⟩ (Yf (f := (Yw .i64)) (zz := 0) rfl rfl rfl rfl te_22 ts_3 tb_3 (by decide) tz_3 rfl rfl (Za _) rfl h7) (Ya 0 rfl rfl rfl rfl) ⟨.same _ _ _ (Vo (fun _ => .int _ _)), trivial⟩ rfl) ex0)))))))) ?_
   refine Xu _ rfl rfl (Xo (VRd.ntl (Vh rfl)) (Xo (VRd.ntl (Vh rfl)) (Xo (VRd.ntl (Vh rfl)) (Xo (VRd.ntl (Vh rfl)) (Xo (VRd.ntl (Vh rfl)) (Xo (VRd.ntl (Vh rfl)) (Xo (VRd.ntl (Vh rfl)) (Xo (VRd.ntl (Vh rfl)) rx0)))))))) ?_
   refine Yu _ rfl rfl (ex1 3 rfl (Vr (f := 5) (k := 3) (m := 1) (os := [⟨4, 1, Yv Yx x8, 0⟩]) (os' := [⟨4, 1, Yv Yx x8, 1⟩]) (v := .sl (low.length + 5) 0 0 (x8).length) rfl rfl rfl ⟨⟨_, rfl, rfl⟩, trivial⟩ (Yf (f := Yx) (zz := false) rfl rfl rfl rfl te_32 ts_4 tb_4 (by decide) tz_4 rfl rfl (Za _) rfl h9) (Ya 0 rfl rfl rfl rfl) ⟨.same _ _ _ (Vo (fun _ => .bool _)), trivial⟩ rfl) (ex1 6 rfl (Vr (f := 5) (k := 3) (m := 1) (os := [⟨4, 1, Yv Yx x8, 0⟩]) (os' := [⟨4, 1, Yv Yx x8, 1⟩]) (v := .sl (low.length + 5) 0 0 (x8).length) rfl rfl rfl ⟨⟨_, rfl, rfl⟩, trivial⟩ (Yf (f := Yx) (zz := false) rfl rfl rfl rfl te_32 ts_4 tb_4 (by decide) tz_4 rfl rfl (Za _) rfl h9) (Ya 0 rfl rfl rfl rfl) ⟨.same _ _ _ (Vo (fun _ => .bool _)), trivial⟩ rfl) (ex1 8 rfl (Vr (f := 5) (k := 3) (m := 1) (os := [⟨4, 1, Yv Yx x8, 0⟩]) (os' := [⟨4, 1, Yv Yx x8, 1⟩]) (v := .sl (low.length + 5) 0 0 (x8).length) rfl rfl rfl ⟨⟨_, rfl, rfl⟩, trivial⟩ (Yf (f := Yx) (zz := false) rfl rfl rfl rfl te_32 ts_4 tb_4 (by decide) tz_4 rfl rfl (Za _) rfl h9) (Ya 0 rfl rfl rfl rfl) ⟨.same _ _ _ (Vo (fun _ => .bool _)), trivial⟩ rfl) (ex1 10 rfl (Vr (f := 5) (k := 3) (m := 1) (os := [⟨4, 1, Yv Yx x8, 0⟩]) (os' := [⟨4, 1, Yv Yx x8, 1⟩]) (v := .sl (low.length + 5) 0 0 (x8).length) rfl rfl rfl ⟨⟨_, rfl, rfl⟩, trivial⟩ (Yf (f := Yx) (zz := false) rfl rfl rfl rfl te_32 ts_4 tb_4 (by decide) tz_4 rfl rfl (Za _) rfl h9) (Ya 0 rfl rfl rfl rfl) ⟨.same _ _ _ (Vo (fun _ => .bool _)), trivial⟩ rfl) (ex1 11 rfl (Vr (f := 5) (k := 3) (m := 1) (os := [⟨4, 1, Yv Yx x8, 0⟩]) (os' := [⟨4, 1, Yv Yx x8, 1⟩]) (v := .sl (low.length + 5) 0 0 (x8).length) rfl rfl rfl ⟨⟨_, rfl, rfl⟩, trivial⟩ (Yf (f := Yx) (zz := false) rfl rfl rfl rfl te_32 ts_4 tb_4 (by decide) tz_4 rfl rfl (Za _) rfl h9) (Ya 0 rfl rfl rfl rfl) ⟨.same _ _ _ (Vo (fun _ => .bool _)), trivial⟩ rfl) (ex1 13 rfl (Vr (f := 5) (k := 3) (m := 1) (os := [⟨4, 1, Yv Yx x8, 0⟩]) (os' := [⟨4, 1, Yv Yx x8, 1⟩]) (v := .sl (low.length + 5) 0 0 (x8).length) rfl rfl rfl ⟨⟨_, rfl, rfl⟩, trivial⟩ (Yf (f := Yx) (zz := false) rfl rfl rfl rfl te_32 ts_4 tb_4 (by decide) tz_4 rfl rfl (Za _) rfl h9) (Ya 0 rfl rfl rfl rfl) ⟨.same _ _ _ (Vo (fun _ => .bool _)), trivial⟩ rfl) (ex1 14 rfl (Vr (f := 5) (k := 3) (m := 1) (os := [⟨4, 1, Yv Yx x8, 0⟩]) (os' := [⟨4, 1, Yv Yx x8, 1⟩]) (v := .sl (low.length + 5) 0 0 (x8).length) rfl rfl rfl ⟨⟨_, rfl, rfl⟩, trivial⟩ (Yf (f := Yx) (zz := false) rfl rfl rfl rfl te_32 ts_4 tb_4 (by decide) tz_4 rfl rfl (Za _) rfl h9) (Ya 0 rfl rfl rfl rfl) ⟨.same _ _ _ (Vo (fun _ => .bool _)), trivial⟩ rfl) (ex1 15 rfl (Vr (f := 5) (k := 3) (m := 1) (os := [⟨4, 1, Yv Yx x8, 0⟩]) (os' := [⟨4, 1, Yv Yx x8, 1⟩]) (v := .sl (low.length + 5) 0 0 (x8).length) rfl rfl rfl ⟨⟨_, rfl, rfl⟩, trivial⟩ (Yf (f := Yx) (zz := false) rfl rfl rfl rfl te_32 ts_4 tb_4 (by decide) tz_4 rfl rfl (Za _) rfl h9) (Ya 0 rfl rfl rfl rfl) ⟨.same _ _ _ (Vo (fun _ => .bool _)), trivial⟩ rfl) ex0)))))))) ?_
   refine Xu _ rfl rfl (Xo (VRd.ntl (Vh rfl)) (Xo (VRd.ntl (Vh rfl)) (Xo (VRd.ntl (Vh rfl)) (Xo (VRd.ntl (Vh rfl)) (Xo (VRd.ntl (Vh rfl)) (Xo (VRd.ntl (Vh rfl)) (Xo (VRd.ntl (Vh rfl)) (Xo (VRd.ntl (Vh rfl)) rx0)))))))) ?_
   refine Yu _ rfl rfl (ex1 4 rfl (Vr (f := 5) (k := 4) (m := 1) (os := [⟨4, 1, Yv Yx x10, 0⟩]) (os' := [⟨4, 1, Yv Yx x10, 1⟩]) (v := .sl (low.length + 5) 0 0 (x10).length) rfl rfl rfl ⟨⟨_, rfl, rfl⟩, trivial⟩ (Yf (f := Yx) (zz := false) rfl rfl rfl rfl te_32 ts_4 tb_4 (by decide) tz_4 rfl rfl (Za _) rfl h11) (Ya 0 rfl rfl rfl rfl) ⟨.same _ _ _ (Vo (fun _ => .bool _)), trivial⟩ rfl) (ex1 7 rfl (Vr (f := 5) (k := 4) (m := 1) (os := [⟨4, 1, Yv Yx x10, 0⟩]) (os' := [⟨4, 1, Yv Yx x10, 1⟩]) (v := .sl (low.length + 5) 0 0 (x10).length) rfl rfl rfl ⟨⟨_, rfl, rfl⟩, trivial⟩ (Yf (f := Yx) (zz := false) rfl rfl rfl rfl te_32 ts_4 tb_4 (by decide) tz_4 rfl rfl (Za _) rfl h11) (Ya 0 rfl rfl rfl rfl) ⟨.same _ _ _ (Vo (fun _ => .bool _)), trivial⟩ rfl) (ex1 9 rfl (Vr (f := 5) (k := 4) (m := 1) (os := [⟨4, 1, Yv Yx x10, 0⟩]) (os' := [⟨4, 1, Yv Yx x10, 1⟩]) (v := .sl (low.length + 5) 0 0 (x10).length) rfl rfl rfl ⟨⟨_, rfl, rfl⟩, trivial⟩ (Yf (f := Yx) (zz := false) rfl rfl rfl rfl te_32 ts_4 tb_4 (by decide) tz_4 rfl rfl (Za _) rfl h11) (Ya 0 rfl rfl rfl rfl) ⟨.same _ _ _ (Vo (fun _ => .bool _)), trivial⟩ rfl) (ex1 10 rfl (Vr (f := 5) (k := 4) (m := 1) (os := [⟨4, 1, Yv Yx x10, 0⟩]) (os' := [⟨4, 1, Yv Yx x10, 1⟩]) (v := .sl (low.length + 5) 0 0 (x10).length) rfl rfl rfl ⟨⟨_, rfl, rfl⟩, trivial⟩ (Yf (f := Yx) (zz := false) rfl rfl rfl rfl te_32 ts_4 tb_4 (by decide) tz_4 rfl rfl (Za _) rfl h11) (Ya 0 rfl rfl rfl rfl) ⟨.same _ _ _ (Vo (fun _ => .bool _)), trivial⟩ rfl) (ex1 12 rfl (Vr (f := 5) (k := 4) (m := 1) (os := [⟨4, 1, Yv Yx x10, 0⟩]) (os' := [⟨4, 1, Yv Yx x10, 1⟩]) (v := .sl (low.length + 5) 0 0 (x10).length) rfl rfl rfl ⟨⟨_, rfl, rfl⟩, trivial⟩ (Yf (f := Yx) (zz := false) rfl rfl rfl rfl te_32 ts_4 tb_4 (by decide) tz_4 rfl rfl (Za _) rfl h11) (Ya 0 rfl rfl rfl rfl) ⟨.same _ _ _ (Vo (fun _ => .bool _)), trivial⟩ rfl) (ex1 13 rfl (Vr (f := 5) (k := 4) (m := 1) (os := [⟨4, 1, Yv Yx x10, 0⟩]) (os' := [⟨4, 1, Yv Yx x10, 1⟩]) (v := .sl (low.length + 5) 0 0 (x10).length) rfl rfl rfl ⟨⟨_, rfl, rfl⟩, trivial⟩ (Yf (f := Yx) (zz := false) rfl rfl rfl rfl te_32 ts_4 tb_4 (by decide) tz_4 rfl rfl (Za _) rfl h11) (Ya 0 rfl rfl rfl rfl) ⟨.same _ _ _ (Vo (fun _ => .bool _)), trivial⟩ rfl) (ex1 14 rfl (Vr (f := 5) (k := 4) (m := 1) (os := [⟨4, 1, Yv Yx x10, 0⟩]) (os' := [⟨4, 1, Yv Yx x10, 1⟩]) (v := .sl (low.length + 5) 0 0 (x10).length) rfl rfl rfl ⟨⟨_, rfl, rfl⟩, trivial⟩ (Yf (f := Yx) (zz := false) rfl rfl rfl rfl te_32 ts_4 tb_4 (by decide) tz_4 rfl rfl (Za _) rfl h11) (Ya 0 rfl rfl rfl rfl) ⟨.same _ _ _ (Vo (fun _ => .bool _)), trivial⟩ rfl) (ex1 15 rfl (Vr (f := 5) (k := 4) (m := 1) (os := [⟨4, 1, Yv Yx x10, 0⟩]) (os' := [⟨4, 1, Yv Yx x10, 1⟩]) (v := .sl (low.length + 5) 0 0 (x10).length) rfl rfl rfl ⟨⟨_, rfl, rfl⟩, trivial⟩ (Yf (f := Yx) (zz := false) rfl rfl rfl rfl te_32 ts_4 tb_4 (by decide) tz_4 rfl rfl (Za _) rfl h11) (Ya 0 rfl rfl rfl rfl) ⟨.same _ _ _ (Vo (fun _ => .bool _)), trivial⟩ rfl) ex0)))))))) ?_
   refine Xu _ rfl rfl (Xo (VRd.ntl (rd_build (vs := [(1, .sl (low.length + 1) 1 0 (x4).length), (2, .sl (low.length + 2) 1 0 (x6).length), (3, .sl (low.length + 3) 1 0 (x8).length), (4, .sl (low.length + 4) 1 0 (x10).length)]) (ds := [.int .i64 0, .sl (low.length + 1) 1 0 (x4).length, .sl (low.length + 2) 1 0 (x6).length, .sl (low.length + 3) 1 0 (x8).length, .sl (low.length + 4) 1 0 (x10).length]) tz_34 rfl rfl tp_34 ⟨rfl, rfl, rfl, rfl, rfl, rfl, rfl, rfl, trivial⟩ (nt_all2 rfl) rfl)) rx0) ?_
   refine Yu _ rfl rfl (ex1 16 rfl (Xn (p := .agg [.int .i64 0, .sl (low.length + 1) 1 0 (x4).length, .sl (low.length + 2) 1 0 (x6).length, .sl (low.length + 3) 1 0 (x8).length, .sl (low.length + 4) 1 0 (x10).length]) (e' := .agg [.int .i64 0, .sl (low.length + 1) 1 0 (x4).length, .sl (low.length + 2) 1 0 (x6).length, .sl (low.length + 3) 1 0 (x8).length, .sl (low.length + 4) 1 0 (x10).length]) rfl (Vi rfl rfl) rfl rfl ts_34 rfl (Yt rfl) rfl (Yz rfl) rfl (Yn rfl rfl)) ex0) ?_
   refine Xu _ rfl rfl (Xo (VRd.ntl (Xa rfl)) rx0) ?_
   refine dopx_nil ?_
   refine Vx ?_
   obtain rfl := Yy hF
   refine fnR ?_
   refine Weak.trans (Xy (E' := [(2, .ptr (low.length + 0) 0 0 0), (3, .int .i64 0)]) (loc1 := [⟨34, 5, [.agg [.int .i64 0, .vs 1 (Yv (Yw .i64) x4), .sl (low.length + 2) 1 0 (x6).length, .sl (low.length + 3) 1 0 (x8).length, .sl (low.length + 4) 1 0 (x10).length]], 0⟩, ⟨3, 1, [], 1 + 1⟩, ⟨3, 1, Yv (Yw .i64) x6, 1⟩, ⟨4, 1, Yv Yx x8, 1⟩, ⟨4, 1, Yv Yx x10, 1⟩]) rfl 1 rfl (lt_map (fun _ => .int _ _)) ⟨Vp rfl, Vp rfl, trivial⟩ ⟨cvo_agg ⟨Vp rfl, cv_sl rfl rfl rfl (Yj rfl), Vp rfl, Vp rfl, Vp rfl, trivial⟩, .refl _, .refl _, .refl _, .refl _, trivial⟩) ?_
   refine Weak.trans (Xy (E' := [(2, .ptr (low.length + 0) 0 0 0), (3, .int .i64 0)]) (loc1 := [⟨34, 5, [.agg [.int .i64 0, .vs 1 (Yv (Yw .i64) x4), .vs 1 (Yv (Yw .i64) x6), .sl (low.length + 3) 1 0 (x8).length, .sl (low.length + 4) 1 0 (x10).length]], 0⟩, ⟨3, 1, [], 1 + 1⟩, ⟨3, 1, [], 1 + 1⟩, ⟨4, 1, Yv Yx x8, 1⟩, ⟨4, 1, Yv Yx x10, 1⟩]) rfl 2 rfl (lt_map (fun _ => .int _ _)) ⟨Vp rfl, Vp rfl, trivial⟩ ⟨cvo_agg ⟨Vp rfl, Vp rfl, cv_sl rfl rfl rfl (Yj rfl), Vp rfl, Vp rfl, trivial⟩, .refl _, .refl _, .refl _, .refl _, trivial⟩) ?_
   refine Weak.trans (Xy (E' := [(2, .ptr (low.length + 0) 0 0 0), (3, .int .i64 0)]) (loc1 := [⟨34, 5, [.agg [.int .i64 0, .vs 1 (Yv (Yw .i64) x4), .vs 1 (Yv (Yw .i64) x6), .vs 1 (Yv Yx x8), .sl (low.length + 4) 1 0 (x10).length]], 0⟩, ⟨3, 1, [], 1 + 1⟩, ⟨3, 1, [], 1 + 1⟩, ⟨4, 1, [], 1 + 1⟩, ⟨4, 1, Yv Yx x10, 1⟩]) rfl 3 rfl (lt_map (fun _ => .bool _)) ⟨Vp rfl, Vp rfl, trivial⟩ ⟨cvo_agg ⟨Vp rfl, Vp rfl, Vp rfl, cv_sl rfl rfl rfl (Yj rfl), Vp rfl, trivial⟩, .refl _, .refl _, .refl _, .refl _, trivial⟩) ?_
   refine Weak.trans (Xy (E' := [(2, .ptr (low.length + 0) 0 0 0), (3, .int .i64 0)]) (loc1 := [⟨34, 5, [.agg [.int .i64 0, .vs 1 (Yv (Yw .i64) x4), .vs 1 (Yv (Yw .i64) x6), .vs 1 (Yv Yx x8), .vs 1 (Yv Yx x10)]], 0⟩, ⟨3, 1, [], 1 + 1⟩, ⟨3, 1, [], 1 + 1⟩, ⟨4, 1, [], 1 + 1⟩, ⟨4, 1, [], 1 + 1⟩]) rfl 4 rfl (lt_map (fun _ => .bool _)) ⟨Vp rfl, Vp rfl, trivial⟩ ⟨cvo_agg ⟨Vp rfl, Vp rfl, Vp rfl, Vp rfl, cv_sl rfl rfl rfl (Yj rfl), trivial⟩, .refl _, .refl _, .refl _, .refl _, trivial⟩) ?_
   exact Vu rfl [(0, 0)] (by decide) ⟨rn_ptr 0 0 rfl rfl, Vy rfl (.int _ _), trivial⟩ ⟨⟨_, rfl, rfl, .same _ _ _ _ (Xr ⟨Xz ⟨.int _ _, .vs _ _, .vs _ _, .vs _ _, .vs _ _, trivial⟩, trivial⟩)⟩, trivial⟩
 ·rintro _ _ _ _ ⟨he, hw⟩
  refine ⟨_, _, _, hw, ?_⟩
  exact Ye he [.agg [.int .i64 r.1.Time, .vs 1 (Yv (Yw .i64) r.1.States), .vs 1 (Yv (Yw .i64) r.1.Since), .vs 1 (Yv Yx r.1.Pulled), .vs 1 (Yv Yx r.1.Held)], .int .i64 r.2] ⟨Xs rfl (Vi rfl rfl) rfl ta_34 ts_34 rfl rfl rfl, rfl, trivial⟩ ((lt_tup ⟨(Xz ⟨.int _ _, .vs _ _, .vs _ _, .vs _ _, .vs _ _, trivial⟩), .int _ _, trivial⟩)) ⟨rfl, rfl⟩

theorem F_belts_Valid_ok {p0 : List T_Belt} {p1 : T_Line} {r : Bool} (hF : F_belts_Valid p0 p1 = some r) (low : List AObj) :
    Yd Try.prog 28 [.vs 2 (Yv T_Belt.enc p0), .agg [.int .i64 p1.Time, .vs 1 (Yv (Yw .i64) p1.States), .vs 1 (Yv (Yw .i64) p1.Since), .vs 1 (Yv Yx p1.Pulled), .vs 1 (Yv Yx p1.Held)]] low fun x low' => x = .bool r ∧ low' = low := by
 refine Vw (nt := 105) (rs := [.tmp 4]) Try.func28 rfl rfl (Yz rfl) rfl ?_
 refine Vt (Q' := FnE (fun E' lw lc => Xv E' lw lc [(4, .bool r)] low [])) ?_ ?_
 ·unfold F_belts_Valid at hF
  refine Vg ?_
  refine Vd ?_
  refine Vk (vef_boxN rfl rfl (v := .agg [.int .i64 p1.Time, .vs 1 (Yv (Yw .i64) p1.States), .vs 1 (Yv (Yw .i64) p1.Since), .vs 1 (Yv Yx p1.Pulled), .vs 1 (Yv Yx p1.Held)]) rfl rfl (Za _) rfl rfl) rfl ?_
  refine Va (Xj rfl) rfl ?_
  refine Ve ?_
  refine Vg ?_
  refine Vd ?_
  refine Va (Xg rfl) rfl ?_
  refine Va (Xb (Xf rfl rfl te_27) (congrArg (fun n : Nat => Yw .i64 (n : Int)) (Zc _))) rfl ?_
  refine Va (Xa rfl) rfl ?_
  refine Ve ?_
  refine Vg ?_
  refine Vg ?_
  obtain ⟨o1, ho1, hF⟩ := Ym hF
  refine Vt (Q' := (fun o1 => OnlyE .normal (fun E' lw lc => Xv E' lw lc [(0, .vs 2 (Yv T_Belt.enc p0)), (3, .ptr (low.length + 0) 0 0 0), (47, .bool o1)] low [⟨34, 5, [.agg [.int .i64 p1.Time, .vs 1 (Yv (Yw .i64) p1.States), .vs 1 (Yv (Yw .i64) p1.Since), .vs 1 (Yv Yx p1.Pulled), .vs 1 (Yv Yx p1.Held)]], 0⟩])) o1) ?_ ?_
  ·replace hF := ho1
   refine Vd ?_
   obtain ⟨x2, h3, hF⟩ := Ym hF
   rcases Zb (!x2) with c4 | c4
   ·have hF := Yg c4 hF
    refine Va (Xg rfl) rfl ?_
    refine Vk (Xd rfl Try.call29 (F_belts_sound_ok h3 _)) rfl ?_
    refine Va (rd_not rfl) rfl ?_
    refine Va (Vj rfl) rfl ?_
    refine Vb rfl rfl (neT c4) rfl ?_
    refine Vb rfl rfl (neT c4) rfl ?_
    refine Vb rfl rfl (neT c4) rfl ?_
    refine Vb rfl rfl (neT c4) rfl ?_
    refine Vb rfl rfl (neT c4) rfl ?_
    refine Va (Vm (congrArg Yx c4) rfl) rfl ?_
    refine Va (Vj rfl) rfl ?_
    refine Vb rfl rfl (by decide) rfl ?_
    refine Vb rfl rfl (by decide) rfl ?_
    refine Vb rfl rfl (by decide) rfl ?_
    refine Vb rfl rfl (by decide) rfl ?_
    refine Vb rfl rfl (by decide) rfl ?_
    refine Va (Vm rfl rfl) rfl ?_
    refine Va (Vj rfl) rfl ?_
    refine Vb rfl rfl (by decide) rfl ?_
    refine Vb rfl rfl (by decide) rfl ?_
    refine Vb rfl rfl (by decide) rfl ?_
    refine Vb rfl rfl (by decide) rfl ?_
    refine Vb rfl rfl (by decide) rfl ?_
    refine Va (Vm rfl rfl) rfl ?_
    refine Va (Vj rfl) rfl ?_
    refine Vb rfl rfl (by decide) rfl ?_
    refine Vb rfl rfl (by decide) rfl ?_
    refine Vb rfl rfl (by decide) rfl ?_
    refine Vb rfl rfl (by decide) rfl ?_
    refine Vb rfl rfl (by decide) rfl ?_
    refine Va (Vm rfl rfl) rfl ?_
    refine Va (Vj rfl) rfl ?_
    refine Vb rfl rfl (by decide) rfl ?_
    refine Vb rfl rfl (by decide) rfl ?_
    refine Vb rfl rfl (by decide) rfl ?_
    refine Vb rfl rfl (by decide) rfl ?_
    refine Va (Vm rfl rfl) rfl ?_
    refine Ve ?_
    obtain rfl := Yy hF
    refine Xq ?_
    exact Vn ⟨rfl, rfl, rfl, trivial⟩
   ·have hF := Yh c4 hF
    rcases Zb (decide (((p1.States).length : Int) ≠ ((p0).length : Int))) with c5 | c5
    ·have hF := Yg c5 hF
     refine Va (Xg rfl) rfl ?_
     refine Vk (Xd rfl Try.call29 (F_belts_sound_ok h3 _)) rfl ?_
     refine Va (rd_not rfl) rfl ?_
     refine Va (Vj rfl) rfl ?_
     refine Vv rfl rfl c4 ?_
     refine Va (Vc rfl tf_34_1 ts_22 (by decide)) rfl ?_
     refine Vv rfl rfl c4 ?_
     refine Va (Vf rfl (Vi rfl rfl) rfl ta_22 rfl) rfl ?_
     refine Vv rfl rfl c4 ?_
     refine Va (Xb (Xf rfl rfl te_22) (congrArg (fun n : Nat => Yw .i64 (n : Int)) (Zc _))) rfl ?_
     refine Vv rfl rfl c4 ?_
     refine Va (Vh rfl) rfl ?_
     refine Vv rfl rfl c4 ?_
     refine Va (Ys rfl rfl) rfl ?_
     refine Va (Vl (congrArg Yx c4) rfl) rfl ?_
     refine Va (Vj rfl) rfl ?_
     refine Vb rfl rfl (neT c5) rfl ?_
     refine Vb rfl rfl (neT c5) rfl ?_
     refine Vb rfl rfl (neT c5) rfl ?_
     refine Vb rfl rfl (neT c5) rfl ?_
     refine Vb rfl rfl (neT c5) rfl ?_
     refine Va (Vm (congrArg Yx c5) rfl) rfl ?_
     refine Va (Vj rfl) rfl ?_
     refine Vb rfl rfl (by decide) rfl ?_
     refine Vb rfl rfl (by decide) rfl ?_
     refine Vb rfl rfl (by decide) rfl ?_
     refine Vb rfl rfl (by decide) rfl ?_
     refine Vb rfl rfl (by decide) rfl ?_
     refine Va (Vm rfl rfl) rfl ?_
     refine Va (Vj rfl) rfl ?_
     refine Vb rfl rfl (by decide) rfl ?_
     refine Vb rfl rfl (by decide) rfl ?_
     refine Vb rfl rfl (by decide) rfl ?_
     refine Vb rfl rfl (by decide) rfl ?_
     refine Vb rfl rfl (by decide) rfl ?_
     refine Va (Vm rfl rfl) rfl ?_
     refine Va (Vj rfl) rfl ?_
     refine Vb rfl rfl (by decide) rfl ?_
     refine Vb rfl rfl (by decide) rfl ?_
     refine Vb rfl rfl (by decide) rfl ?_
     refine Vb rfl rfl (by decide) rfl ?_
     refine Va (Vm rfl rfl) rfl ?_
     refine Ve ?_
     obtain rfl := Yy hF
     refine Xq ?_
     exact Vn ⟨rfl, rfl, rfl, trivial⟩
    ·have hF := Yh c5 hF
     rcases Zb (decide (((p1.Since).length : Int) ≠ ((p0).length : Int))) with c6 | c6
     ·have hF := Yg c6 hF
      refine Va (Xg rfl) rfl ?_
      refine Vk (Xd rfl Try.call29 (F_belts_sound_ok h3 _)) rfl ?_
      refine Va (rd_not rfl) rfl ?_
      refine Va (Vj rfl) rfl ?_
      refine Vv rfl rfl c4 ?_
      refine Va (Vc rfl tf_34_1 ts_22 (by decide)) rfl ?_
      refine Vv rfl rfl c4 ?_
      refine Va (Vf rfl (Vi rfl rfl) rfl ta_22 rfl) rfl ?_
      refine Vv rfl rfl c4 ?_
      refine Va (Xb (Xf rfl rfl te_22) (congrArg (fun n : Nat => Yw .i64 (n : Int)) (Zc _))) rfl ?_
      refine Vv rfl rfl c4 ?_
      refine Va (Vh rfl) rfl ?_
      refine Vv rfl rfl c4 ?_
      refine Va (Ys rfl rfl) rfl ?_
      refine Va (Vl (congrArg Yx c4) rfl) rfl ?_
      refine Va (Vj rfl) rfl ?_
      refine Vv rfl rfl c5 ?_
      refine Va (Vc rfl tf_34_2 ts_22 (by decide)) rfl ?_
      refine Vv rfl rfl c5 ?_
      refine Va (Vf rfl (Vi rfl rfl) rfl ta_22 rfl) rfl ?_
      refine Vv rfl rfl c5 ?_
      refine Va (Xb (Xf rfl rfl te_22) (congrArg (fun n : Nat => Yw .i64 (n : Int)) (Zc _))) rfl ?_
      refine Vv rfl rfl c5 ?_
      refine Va (Vh rfl) rfl ?_
      refine Vv rfl rfl c5 ?_
      refine Va (Ys rfl rfl) rfl ?_
      refine Va (Vl (congrArg Yx c5) rfl) rfl ?_
      refine Va (Vj rfl) rfl ?_
      refine Vb rfl rfl (neT c6) rfl ?_
      refine Vb rfl rfl (neT c6) rfl ?_
      refine Vb rfl rfl (neT c6) rfl ?_
      refine Vb rfl rfl (neT c6) rfl ?_
      refine Vb rfl rfl (neT c6) rfl ?_
      refine Va (Vm (congrArg Yx c6) rfl) rfl ?_
      refine Va (Vj rfl) rfl ?_
      refine Vb rfl rfl (by decide) rfl ?_
      refine Vb rfl rfl (by decide) rfl ?_
      refine Vb rfl rfl (by decide) rfl ?_
      refine Vb rfl rfl (by decide) rfl ?_
      refine Vb rfl rfl (by decide) rfl ?_
      refine Va (Vm rfl rfl) rfl ?_
      refine Va (Vj rfl) rfl ?_
      refine Vb rfl rfl (by decide) rfl ?_
      refine Vb rfl rfl (by decide) rfl ?_
      refine Vb rfl rfl (by decide) rfl ?_
      refine Vb rfl rfl (by decide) rfl ?_
      refine Va (Vm rfl rfl) rfl ?_
      refine Ve ?_
      obtain rfl := Yy hF
      refine Xq ?_
      exact Vn ⟨rfl, rfl, rfl, trivial⟩
     ·have hF := Yh c6 hF
      rcases Zb (decide (((p1.Pulled).length : Int) ≠ ((p0).length : Int))) with c7 | c7
      ·have hF := Yg c7 hF
       refine Va (Xg rfl) rfl ?_
       refine Vk (Xd rfl Try.call29 (F_belts_sound_ok h3 _)) rfl ?_
       refine Va (rd_not rfl) rfl ?_
       refine Va (Vj rfl) rfl ?_
       refine Vv rfl rfl c4 ?_
       refine Va (Vc rfl tf_34_1 ts_22 (by decide)) rfl ?_
       refine Vv rfl rfl c4 ?_
       refine Va (Vf rfl (Vi rfl rfl) rfl ta_22 rfl) rfl ?_
       refine Vv rfl rfl c4 ?_
       refine Va (Xb (Xf rfl rfl te_22) (congrArg (fun n : Nat => Yw .i64 (n : Int)) (Zc _))) rfl ?_
       refine Vv rfl rfl c4 ?_
       refine Va (Vh rfl) rfl ?_
       refine Vv rfl rfl c4 ?_
       refine Va (Ys rfl rfl) rfl ?_
       refine Va (Vl (congrArg Yx c4) rfl) rfl ?_
       refine Va (Vj rfl) rfl ?_
       refine Vv rfl rfl c5 ?_
       refine Va (Vc rfl tf_34_2 ts_22 (by decide)) rfl ?_
       refine Vv rfl rfl c5 ?_
       refine Va (Vf rfl (Vi rfl rfl) rfl ta_22 rfl) rfl ?_
       refine Vv rfl rfl c5 ?_
       refine Va (Xb (Xf rfl rfl te_22) (congrArg (fun n : Nat => Yw .i64 (n : Int)) (Zc _))) rfl ?_
       refine Vv rfl rfl c5 ?_
       refine Va (Vh rfl) rfl ?_
       refine Vv rfl rfl c5 ?_
       refine Va (Ys rfl rfl) rfl ?_
       refine Va (Vl (congrArg Yx c5) rfl) rfl ?_
       refine Va (Vj rfl) rfl ?_
       refine Vv rfl rfl c6 ?_
       refine Va (Vc rfl tf_34_3 ts_32 (by decide)) rfl ?_
       refine Vv rfl rfl c6 ?_
       refine Va (Vf rfl (Vi rfl rfl) rfl ta_32 rfl) rfl ?_
       refine Vv rfl rfl c6 ?_
       refine Va (Xb (Xf rfl rfl te_32) (congrArg (fun n : Nat => Yw .i64 (n : Int)) (Zc _))) rfl ?_
       refine Vv rfl rfl c6 ?_
       refine Va (Vh rfl) rfl ?_
       refine Vv rfl rfl c6 ?_
       refine Va (Ys rfl rfl) rfl ?_
       refine Va (Vl (congrArg Yx c6) rfl) rfl ?_
       refine Va (Vj rfl) rfl ?_
       refine Vb rfl rfl (neT c7) rfl ?_
       refine Vb rfl rfl (neT c7) rfl ?_
       refine Vb rfl rfl (neT c7) rfl ?_
       refine Vb rfl rfl (neT c7) rfl ?_
       refine Vb rfl rfl (neT c7) rfl ?_
       refine Va (Vm (congrArg Yx c7) rfl) rfl ?_
       refine Va (Vj rfl) rfl ?_
       refine Vb rfl rfl (by decide) rfl ?_
       refine Vb rfl rfl (by decide) rfl ?_
       refine Vb rfl rfl (by decide) rfl ?_
       refine Vb rfl rfl (by decide) rfl ?_
       refine Va (Vm rfl rfl) rfl ?_
       refine Ve ?_
       obtain rfl := Yy hF
       refine Xq ?_
       exact Vn ⟨rfl, rfl, rfl, trivial⟩
      ·have hF := Yh c7 hF
       rcases Zb (decide (((p1.Held).length : Int) ≠ ((p0).length : Int))) with c8 | c8
       ·have hF := Yg c8 hF
        refine Va (Xg rfl) rfl ?_
        refine Vk (Xd rfl Try.call29 (F_belts_sound_ok h3 _)) rfl ?_
        refine Va (rd_not rfl) rfl ?_
        refine Va (Vj rfl) rfl ?_
        refine Vv rfl rfl c4 ?_
        refine Va (Vc rfl tf_34_1 ts_22 (by decide)) rfl ?_
        refine Vv rfl rfl c4 ?_
        refine Va (Vf rfl (Vi rfl rfl) rfl ta_22 rfl) rfl ?_
        refine Vv rfl rfl c4 ?_
        refine Va (Xb (Xf rfl rfl te_22) (congrArg (fun n : Nat => Yw .i64 (n : Int)) (Zc _))) rfl ?_
        refine Vv rfl rfl c4 ?_
        refine Va (Vh rfl) rfl ?_
        refine Vv rfl rfl c4 ?_
        refine Va (Ys rfl rfl) rfl ?_
        refine Va (Vl (congrArg Yx c4) rfl) rfl ?_
        refine Va (Vj rfl) rfl ?_
        refine Vv rfl rfl c5 ?_
        refine Va (Vc rfl tf_34_2 ts_22 (by decide)) rfl ?_
        refine Vv rfl rfl c5 ?_
        refine Va (Vf rfl (Vi rfl rfl) rfl ta_22 rfl) rfl ?_
        refine Vv rfl rfl c5 ?_
        refine Va (Xb (Xf rfl rfl te_22) (congrArg (fun n : Nat => Yw .i64 (n : Int)) (Zc _))) rfl ?_
        refine Vv rfl rfl c5 ?_
        refine Va (Vh rfl) rfl ?_
        refine Vv rfl rfl c5 ?_
        refine Va (Ys rfl rfl) rfl ?_
        refine Va (Vl (congrArg Yx c5) rfl) rfl ?_
        refine Va (Vj rfl) rfl ?_
        refine Vv rfl rfl c6 ?_
        refine Va (Vc rfl tf_34_3 ts_32 (by decide)) rfl ?_
        refine Vv rfl rfl c6 ?_
        refine Va (Vf rfl (Vi rfl rfl) rfl ta_32 rfl) rfl ?_
        refine Vv rfl rfl c6 ?_
        refine Va (Xb (Xf rfl rfl te_32) (congrArg (fun n : Nat => Yw .i64 (n : Int)) (Zc _))) rfl ?_
        refine Vv rfl rfl c6 ?_
        refine Va (Vh rfl) rfl ?_
        refine Vv rfl rfl c6 ?_
        refine Va (Ys rfl rfl) rfl ?_
        refine Va (Vl (congrArg Yx c6) rfl) rfl ?_
        refine Va (Vj rfl) rfl ?_
        refine Vv rfl rfl c7 ?_
        refine Va (Vc rfl tf_34_4 ts_32 (by decide)) rfl ?_
        refine Vv rfl rfl c7 ?_
        refine Va (Vf rfl (Vi rfl rfl) rfl ta_32 rfl) rfl ?_
        refine Vv rfl rfl c7 ?_
        refine Va (Xb (Xf rfl rfl te_32) (congrArg (fun n : Nat => Yw .i64 (n : Int)) (Zc _))) rfl ?_
        refine Vv rfl rfl c7 ?_
        refine Va (Vh rfl) rfl ?_
        refine Vv rfl rfl c7 ?_
        refine Va (Ys rfl rfl) rfl ?_
        refine Va (Vl (congrArg Yx c7) rfl) rfl ?_
        refine Va (Vj rfl) rfl ?_
        refine Vb rfl rfl (neT c8) rfl ?_
        refine Vb rfl rfl (neT c8) rfl ?_
        refine Vb rfl rfl (neT c8) rfl ?_
        refine Vb rfl rfl (neT c8) rfl ?_
        refine Va (Vm (congrArg Yx c8) rfl) rfl ?_
        refine Ve ?_
        obtain rfl := Yy hF
        refine Xq ?_
        exact Vn ⟨rfl, rfl, rfl, trivial⟩
       ·have hF := Yh c8 hF
        obtain ⟨x9, h10, hF⟩ := Ym hF
        refine Va (Xg rfl) rfl ?_
        refine Vk (Xd rfl Try.call29 (F_belts_sound_ok h3 _)) rfl ?_
        refine Va (rd_not rfl) rfl ?_
        refine Va (Vj rfl) rfl ?_
        refine Vv rfl rfl c4 ?_
        refine Va (Vc rfl tf_34_1 ts_22 (by decide)) rfl ?_
        refine Vv rfl rfl c4 ?_
        refine Va (Vf rfl (Vi rfl rfl) rfl ta_22 rfl) rfl ?_
        refine Vv rfl rfl c4 ?_
        refine Va (Xb (Xf rfl rfl te_22) (congrArg (fun n : Nat => Yw .i64 (n : Int)) (Zc _))) rfl ?_
        refine Vv rfl rfl c4 ?_
        refine Va (Vh rfl) rfl ?_
        refine Vv rfl rfl c4 ?_
        refine Va (Ys rfl rfl) rfl ?_
        refine Va (Vl (congrArg Yx c4) rfl) rfl ?_
        refine Va (Vj rfl) rfl ?_
        refine Vv rfl rfl c5 ?_
        refine Va (Vc rfl tf_34_2 ts_22 (by decide)) rfl ?_
        refine Vv rfl rfl c5 ?_
        refine Va (Vf rfl (Vi rfl rfl) rfl ta_22 rfl) rfl ?_
        refine Vv rfl rfl c5 ?_
        refine Va (Xb (Xf rfl rfl te_22) (congrArg (fun n : Nat => Yw .i64 (n : Int)) (Zc _))) rfl ?_
        refine Vv rfl rfl c5 ?_
        refine Va (Vh rfl) rfl ?_
        refine Vv rfl rfl c5 ?_
        refine Va (Ys rfl rfl) rfl ?_
        refine Va (Vl (congrArg Yx c5) rfl) rfl ?_
        refine Va (Vj rfl) rfl ?_
        refine Vv rfl rfl c6 ?_
        refine Va (Vc rfl tf_34_3 ts_32 (by decide)) rfl ?_
        refine Vv rfl rfl c6 ?_
        refine Va (Vf rfl (Vi rfl rfl) rfl ta_32 rfl) rfl ?_
        refine Vv rfl rfl c6 ?_
        refine Va (Xb (Xf rfl rfl te_32) (congrArg (fun n : Nat => Yw .i64 (n : Int)) (Zc _))) rfl ?_
        refine Vv rfl rfl c6 ?_
        refine Va (Vh rfl) rfl ?_
        refine Vv rfl rfl c6 ?_
        refine Va (Ys rfl rfl) rfl ?_
        refine Va (Vl (congrArg Yx c6) rfl) rfl ?_
        refine Va (Vj rfl) rfl ?_
        refine Vv rfl rfl c7 ?_
        refine Va (Vc rfl tf_34_4 ts_32 (by decide)) rfl ?_
        refine Vv rfl rfl c7 ?_
        refine Va (Vf rfl (Vi rfl rfl) rfl ta_32 rfl) rfl ?_
        refine Vv rfl rfl c7 ?_
        refine Va (Xb (Xf rfl rfl te_32) (congrArg (fun n : Nat => Yw .i64 (n : Int)) (Zc _))) rfl ?_
        refine Vv rfl rfl c7 ?_
        refine Va (Vh rfl) rfl ?_
        refine Vv rfl rfl c7 ?_
        refine Va (Ys rfl rfl) rfl ?_
        refine Va (Vl (congrArg Yx c7) rfl) rfl ?_
        refine Va (Vj rfl) rfl ?_
        refine Vv rfl rfl c8 ?_
        refine Va (Vc rfl tf_34_0 ts_3 (by decide)) rfl ?_
        refine Vv rfl rfl c8 ?_
        refine Va (Vf rfl (Vi rfl rfl) rfl ta_3 rfl) rfl ?_
        refine Vv rfl rfl c8 ?_
        refine Vk (Xd rfl Try.call33 (F_lists_In_ok h10 _)) rfl ?_
        refine Vv rfl rfl c8 ?_
        refine Va (rd_not rfl) rfl ?_
        refine Va (Vl (congrArg Yx c8) rfl) rfl ?_
        refine Ve ?_
        obtain rfl := Yy hF
        refine Xq ?_
        exact Vn ⟨rfl, rfl, rfl, trivial⟩
  ·rintro _ _ _ _ ⟨rfl, hw⟩
   refine ⟨_, _, _, hw, ?_⟩
   refine Xc rfl (fun c11 => ?_) (fun c11 => ?_)
   ·have hF := Yg c11 hF
    refine Vg ?_
    refine Vd ?_
    refine Va (Xj rfl) rfl ?_
    refine Ve ?_
    refine Vx ?_
    obtain rfl := Yy hF
    refine fnR ?_
    exact Vu rfl [] (by decide) ⟨Vy rfl (.bool _), trivial⟩ trivial
   ·have hF := Yh c11 hF
    refine Xh ?_
    refine Vg ?_
    refine Vg ?_
    refine Vd ?_
    refine Va (Vc rfl tf_34_1 ts_22 (by decide)) rfl ?_
    refine Va (Vf rfl (Vi rfl rfl) rfl ta_22 rfl) rfl ?_
    refine Va (Xb (Xf rfl rfl te_22) (congrArg (fun n : Nat => Yw .i64 (n : Int)) (Zc _))) rfl ?_
    refine Va (Vh rfl) rfl ?_
    refine Ve ?_
    refine Xt ?_
    obtain ⟨o13, ho13, hF⟩ := Ym hF
    refine Vt (vwp_loopC (F_belts_Valid_L1 p0 p1) (fun s12 E' lw lc => Xv E' lw lc [(0, .vs 2 (Yv T_Belt.enc p0)), (3, .ptr (low.length + 0) 0 0 0), (49, .vs 1 (Yv (Yw .i64) p1.States)), (50, .int .i64 ((p1.States).length : Int)), (51, .int .i64 s12)] low [⟨34, 5, [.agg [.int .i64 p1.Time, .vs 1 (Yv (Yw .i64) p1.States), .vs 1 (Yv (Yw .i64) p1.Since), .vs 1 (Yv Yx p1.Pulled), .vs 1 (Yv Yx p1.Held)]], 0⟩]) (Sum.elim (fun j14 => OnlyE .ret (fun E' lw lc => Xv E' lw lc [(4, .bool false)] low [])) (fun j15 => OnlyE (.exit 0) (fun E' lw lc => Xv E' lw lc [] low []))) ho13 ?_ (by rintro (_|_) _ _ _ ⟨h, _⟩ <;> cases h) ?_) ?_
    ·exact Vn ⟨rfl, rfl, rfl, rfl, rfl, trivial⟩
    ·rintro s12 os12 _ _ _ hF hw
     unfold F_belts_Valid_L1 at hF
     refine Xw hw ?_
     refine Vg ?_
     refine Vd ?_
     refine Va (rd_lss rfl rfl) rfl ?_
     refine Ve ?_
     refine Vg ?_
     refine Xc rfl (fun c16 => ?_) (fun c16 => ?_)
     ·have hF := Yg c16 hF
      refine Xh ?_
      refine Vg ?_
      obtain ⟨o17, ho17, hF⟩ := Ym hF
      refine Vt (Q' := Sum.elim (fun j18 => OnlyE .ret (fun E' lw lc => Xv E' lw lc [(4, .bool false)] low [])) (fun j19 => OnlyE .normal (fun E' lw lc => Xv E' lw lc [(0, .vs 2 (Yv T_Belt.enc p0)), (3, .ptr (low.length + 0) 0 0 0), (49, .vs 1 (Yv (Yw .i64) p1.States)), (50, .int .i64 ((p1.States).length : Int)), (51, .int .i64 s12)] low [⟨34, 5, [.agg [.int .i64 p1.Time, .vs 1 (Yv (Yw .i64) p1.States), .vs 1 (Yv (Yw .i64) p1.Since), .vs 1 (Yv Yx p1.Pulled), .vs 1 (Yv Yx p1.Held)]], 0⟩])) o17) ?_ ?_
      ·replace hF := ho17
       refine Xt ?_
       refine Vg ?_
       refine Vd ?_
       obtain ⟨x20, h21, hF⟩ := Ym hF
       refine Va (Vh rfl) rfl ?_
       refine Va (Xb (Yb rfl rfl h21 te_22 ts_3) (v' := .vptr [.int .i64 x20] 0) rfl) rfl ?_
       refine Va (Vz rfl ta_3 rfl) rfl ?_
       refine Va (Xa rfl) rfl ?_
       refine Va (Xa rfl) rfl ?_
       refine Ve ?_
       refine Vg ?_
       refine Vd ?_
       obtain ⟨x22, h23, hF⟩ := Ym hF
       refine Va (Xg rfl) rfl ?_
       refine Va (Vh rfl) rfl ?_
       refine Va (Xb (Yb rfl rfl h23 te_27 ts_31) (v' := .vptr [.int .i64 x22.Onto, .int .i64 x22.Warn] 0) rfl) rfl ?_
       refine Va (rd_fieldVaddr rfl tf_31_0 ts_3 (by decide)) rfl ?_
       refine Va (Vz rfl ta_3 rfl) rfl ?_
       refine Va (Xa rfl) rfl ?_
       refine Ve ?_
       refine Xt ?_
       refine Vg ?_
       obtain ⟨o24, ho24, hF⟩ := Ym hF
       refine Vt (Q' := (fun o24 => OnlyE .normal (fun E' lw lc => Xv E' lw lc [(0, .vs 2 (Yv T_Belt.enc p0)), (3, .ptr (low.length + 0) 0 0 0), (6, .int .i64 s12), (7, .int .i64 x20), (8, .int .i64 x22.Onto), (49, .vs 1 (Yv (Yw .i64) p1.States)), (50, .int .i64 ((p1.States).length : Int)), (51, .int .i64 s12), (61, .bool o24)] low [⟨34, 5, [.agg [.int .i64 p1.Time, .vs 1 (Yv (Yw .i64) p1.States), .vs 1 (Yv (Yw .i64) p1.Since), .vs 1 (Yv Yx p1.Pulled), .vs 1 (Yv Yx p1.Held)]], 0⟩])) o24) ?_ ?_
       ·replace hF := ho24
        obtain ⟨x25, h26, hF⟩ := Ym hF
        rcases Zb (!x25) with c27 | c27
        ·have hF := Yg c27 hF
         refine vwp_drawn0 [[], [0], [0, 1], [0, 1, 2], [0, 1, 2, 3], [0, 1, 2, 3, 4], [0, 1, 2, 3], [0, 1, 2, 3, 4, 5, 6], [0, 1, 2, 3, 4, 5, 6, 7], [0, 1, 2, 3], [0, 1, 2, 3, 9], [0, 1, 2, 3, 4, 5, 6, 7, 8, 9, 10], [0, 1, 2, 3, 4, 5, 6, 7, 8, 9, 10, 11], [0, 1, 2, 3, 4, 5, 6, 7, 8, 9, 10, 11, 12], [0, 1, 2, 3, 4, 5, 6, 7, 8, 9, 10, 11, 12, 13]] mixed (by kernel_rfl) rfl ?_
         refine Yq rfl rfl (Vh rfl) ?_
         refine dn1 rfl rfl (nt_of (Xd rfl Try.call33 (F_lists_In_ok h26 _))) ?_
         refine Yq rfl rfl (rd_not rfl) ?_
         refine Yq rfl rfl (Vj rfl) ?_
         refine Yc rfl rfl rfl (neT c27) ?_
         refine Yc rfl rfl rfl (neT c27) ?_
         refine Yc rfl rfl rfl (neT c27) ?_
         refine Yc rfl rfl rfl (neT c27) ?_
         refine Yc rfl rfl rfl (neT c27) ?_
         refine Yc rfl rfl rfl (neT c27) ?_
         refine Yc rfl rfl rfl (neT c27) ?_
         refine Yc rfl rfl rfl (neT c27) ?_
         refine Yc rfl rfl rfl (neT c27) ?_
         refine Yq rfl rfl (Vm (congrArg Yx c27) rfl) ?_
         refine Yq rfl rfl (Xj rfl) ?_
         refine dops_nil ?_
         obtain rfl := Yy hF
         refine Xq ?_
         exact Vn ⟨rfl, rfl, rfl, rfl, rfl, rfl, rfl, rfl, rfl, trivial⟩
        ·have hF := Yh c27 hF
         obtain ⟨x28, h29, hF⟩ := Ym hF
         obtain ⟨x30, h31, hF⟩ := Ym hF
         refine vwp_drawn0 [[], [0], [0, 1], [0, 1, 2], [0, 1, 2, 3], [0, 1, 2, 3, 4], [0, 1, 2, 3], [0, 1, 2, 3, 4, 5, 6], [0, 1, 2, 3, 4, 5, 6, 7], [0, 1, 2, 3], [0, 1, 2, 3, 9], [0, 1, 2, 3, 4, 5, 6, 7, 8, 9, 10], [0, 1, 2, 3, 4, 5, 6, 7, 8, 9, 10, 11], [0, 1, 2, 3, 4, 5, 6, 7, 8, 9, 10, 11, 12], [0, 1, 2, 3, 4, 5, 6, 7, 8, 9, 10, 11, 12, 13]] mixed (by kernel_rfl) rfl ?_
         refine Yq rfl rfl (Vh rfl) ?_
         refine dn1 rfl rfl (nt_of (Xd rfl Try.call33 (F_lists_In_ok h26 _))) ?_
         refine Yq rfl rfl (rd_not rfl) ?_
         refine Yq rfl rfl (Vj rfl) ?_
         refine dt1 rfl rfl rfl rfl c27 (Vc rfl tf_34_2 ts_22 (by decide)) ?_
         refine dt1 rfl rfl rfl rfl c27 (Vf rfl (Vi rfl rfl) rfl ta_22 rfl) ?_
         refine dt1 rfl rfl rfl rfl c27 (Vh rfl) ?_
         refine dt1 rfl rfl rfl rfl c27 (Xb (Yb rfl rfl h29 te_22 ts_3) (v' := .vptr [.int .i64 x28] 0) rfl) ?_
         refine dt1 rfl rfl rfl rfl c27 (Vz rfl ta_3 rfl) ?_
         refine dt1 rfl rfl rfl rfl c27 (Vc rfl tf_34_0 ts_3 (by decide)) ?_
         refine dt1 rfl rfl rfl rfl c27 (Vf rfl (Vi rfl rfl) rfl ta_3 rfl) ?_
         refine dops_takeW _ rfl rfl rfl (congrArg Yx c27) (all1 (nt_of (Xd rfl Try.call33 (F_lists_In_ok h31 _))) all0) ?_
         refine dt1 rfl rfl rfl rfl c27 (rd_not rfl) ?_
         refine Yq rfl rfl (Vl (congrArg Yx c27) rfl) ?_
         refine Yq rfl rfl (Xj rfl) ?_
         refine dops_nil ?_
         obtain rfl := Yy hF
         refine Xq ?_
         exact Vn ⟨rfl, rfl, rfl, rfl, rfl, rfl, rfl, rfl, rfl, trivial⟩
       ·rintro _ _ _ _ ⟨rfl, hw⟩
        refine ⟨_, _, _, hw, ?_⟩
        refine Xc rfl (fun c32 => ?_) (fun c32 => ?_)
        ·have hF := Yg c32 hF
         refine Vg ?_
         refine Vd ?_
         refine Va (Xj rfl) rfl ?_
         refine Ve ?_
         refine Vx ?_
         obtain rfl := Yy hF
         refine Xq ?_
         exact Vu rfl [] (by decide) ⟨Vy rfl (.bool _), trivial⟩ trivial
        ·have hF := Yh c32 hF
         refine Vg ?_
         refine Vd ?_
         refine Va (Vh rfl) rfl ?_
         refine Va (Vs rfl rfl) rfl ?_
         refine Va (Xj rfl) rfl ?_
         refine Ve ?_
         refine Xc rfl (fun c33 => ?_) (fun c33 => ?_)
         ·have hF := Yg c33 hF
          refine Xh ?_
          obtain rfl := Yy hF
          refine Xq ?_
          exact Vn ⟨rfl, rfl, rfl, rfl, rfl, trivial⟩
         ·have hF := Yh c33 hF
          refine Vg ?_
          obtain ⟨o34, ho34, hF⟩ := Ym hF
          refine Vt (Q' := (fun o34 => OnlyE .normal (fun E' lw lc => Xv E' lw lc [(0, .vs 2 (Yv T_Belt.enc p0)), (3, .ptr (low.length + 0) 0 0 0), (49, .vs 1 (Yv (Yw .i64) p1.States)), (50, .int .i64 ((p1.States).length : Int)), (51, .int .i64 s12), (79, .bool o34)] low [⟨34, 5, [.agg [.int .i64 p1.Time, .vs 1 (Yv (Yw .i64) p1.States), .vs 1 (Yv (Yw .i64) p1.Since), .vs 1 (Yv Yx p1.Pulled), .vs 1 (Yv Yx p1.Held)]], 0⟩])) o34) ?_ ?_
          ·replace hF := ho34
           refine Vd ?_
           obtain ⟨x35, h36, hF⟩ := Ym hF
           rcases Zb x35 with c37 | c37
           ·have hF := Yg c37 hF
            refine Va (Vc rfl tf_34_3 ts_32 (by decide)) rfl ?_
            refine Va (Vf rfl (Vi rfl rfl) rfl ta_32 rfl) rfl ?_
            refine Va (Vh rfl) rfl ?_
            refine Va (Xb (Yb rfl rfl h36 te_32 ts_4) (v' := .vptr [.bool x35] 0) rfl) rfl ?_
            refine Va (Vz rfl ta_4 rfl) rfl ?_
            refine Va (Vj rfl) rfl ?_
            refine Vb rfl rfl (neT c37) rfl ?_
            refine Vb rfl rfl (neT c37) rfl ?_
            refine Vb rfl rfl (neT c37) rfl ?_
            refine Vb rfl rfl (neT c37) rfl ?_
            refine Vb rfl rfl (neT c37) rfl ?_
            refine Va (Vm (congrArg Yx c37) rfl) rfl ?_
            refine Va (Vj rfl) rfl ?_
            refine Vb rfl rfl (by decide) rfl ?_
            refine Vb rfl rfl (by decide) rfl ?_
            refine Vb rfl rfl (by decide) rfl ?_
            refine vops_skipX rfl rfl rfl ?_
            refine vops_skipX rfl rfl rfl ?_
            refine vops_skipX rfl rfl rfl ?_
            refine vops_skipX rfl rfl rfl ?_
            refine vops_skipX rfl rfl rfl ?_
            refine vops_skipX rfl rfl rfl ?_
            refine Vb rfl rfl (by decide) rfl ?_
            refine Va (Vm rfl rfl) rfl ?_
            refine Va (Xj rfl) rfl ?_
            refine Ve ?_
            obtain rfl := Yy hF
            refine Xq ?_
            exact Vn ⟨rfl, rfl, rfl, rfl, rfl, rfl, trivial⟩
           ·have hF := Yh c37 hF
            obtain ⟨x38, h39, hF⟩ := Ym hF
            rcases Zb x38 with c40 | c40
            ·have hF := Yg c40 hF
             refine Va (Vc rfl tf_34_3 ts_32 (by decide)) rfl ?_
             refine Va (Vf rfl (Vi rfl rfl) rfl ta_32 rfl) rfl ?_
             refine Va (Vh rfl) rfl ?_
             refine Va (Xb (Yb rfl rfl h36 te_32 ts_4) (v' := .vptr [.bool x35] 0) rfl) rfl ?_
             refine Va (Vz rfl ta_4 rfl) rfl ?_
             refine Va (Vj rfl) rfl ?_
             refine Vv rfl rfl c37 ?_
             refine Va (Vc rfl tf_34_4 ts_32 (by decide)) rfl ?_
             refine Vv rfl rfl c37 ?_
             refine Va (Vf rfl (Vi rfl rfl) rfl ta_32 rfl) rfl ?_
             refine Vv rfl rfl c37 ?_
             refine Va (Vh rfl) rfl ?_
             refine Vv rfl rfl c37 ?_
             refine Va (Xb (Yb rfl rfl h39 te_32 ts_4) (v' := .vptr [.bool x38] 0) rfl) rfl ?_
             refine Vv rfl rfl c37 ?_
             refine Va (Vz rfl ta_4 rfl) rfl ?_
             refine Va (Vl (congrArg Yx c37) rfl) rfl ?_
             refine Va (Vj rfl) rfl ?_
             refine Vb rfl rfl (neT c40) rfl ?_
             refine Vb rfl rfl (neT c40) rfl ?_
             refine Vb rfl rfl (neT c40) rfl ?_
             refine vops_skipX rfl rfl rfl ?_
             refine vops_skipX rfl rfl rfl ?_
             refine vops_skipX rfl rfl rfl ?_
             refine vops_skipX rfl rfl rfl ?_
             refine vops_skipX rfl rfl rfl ?_
             refine vops_skipX rfl rfl rfl ?_
             refine Vb rfl rfl (neT c40) rfl ?_
             refine Va (Vm (congrArg Yx c40) rfl) rfl ?_
             refine Va (Xj rfl) rfl ?_
             refine Ve ?_
             obtain rfl := Yy hF
             refine Xq ?_
             exact Vn ⟨rfl, rfl, rfl, rfl, rfl, rfl, trivial⟩
            ·have hF := Yh c40 hF
             rcases Zb (decide (0 ≤ x22.Onto)) with c41 | c41
             ·have hF := Yg c41 hF
              obtain ⟨x42, h43, hF⟩ := Ym hF
              refine Va (Vc rfl tf_34_3 ts_32 (by decide)) rfl ?_
              refine Va (Vf rfl (Vi rfl rfl) rfl ta_32 rfl) rfl ?_
              refine Va (Vh rfl) rfl ?_
              refine Va (Xb (Yb rfl rfl h36 te_32 ts_4) (v' := .vptr [.bool x35] 0) rfl) rfl ?_
              refine Va (Vz rfl ta_4 rfl) rfl ?_
              refine Va (Vj rfl) rfl ?_
              refine Vv rfl rfl c37 ?_
              refine Va (Vc rfl tf_34_4 ts_32 (by decide)) rfl ?_
              refine Vv rfl rfl c37 ?_
              refine Va (Vf rfl (Vi rfl rfl) rfl ta_32 rfl) rfl ?_
              refine Vv rfl rfl c37 ?_
              refine Va (Vh rfl) rfl ?_
              refine Vv rfl rfl c37 ?_
              refine Va (Xb (Yb rfl rfl h39 te_32 ts_4) (v' := .vptr [.bool x38] 0) rfl) rfl ?_
              refine Vv rfl rfl c37 ?_
              refine Va (Vz rfl ta_4 rfl) rfl ?_
              refine Va (Vl (congrArg Yx c37) rfl) rfl ?_
              refine Va (Vj rfl) rfl ?_
              refine Vv rfl rfl c40 ?_
              refine Va (Vh rfl) rfl ?_
              refine Vv rfl rfl c40 ?_
              refine Va (rd_geq rfl rfl) rfl ?_
              refine Vv rfl rfl c40 ?_
              refine Va (Vj rfl) rfl ?_
              refine Vv rfl rfl c41 ?_
              refine Va (Vc rfl tf_34_1 ts_22 (by decide)) rfl ?_
              refine Vv rfl rfl c41 ?_
              refine Va (Vf rfl (Vi rfl rfl) rfl ta_22 rfl) rfl ?_
              refine Vv rfl rfl c41 ?_
              refine Va (Vh rfl) rfl ?_
              refine Vv rfl rfl c41 ?_
              refine Va (Xb (Yb rfl rfl h43 te_22 ts_3) (v' := .vptr [.int .i64 x42] 0) rfl) rfl ?_
              refine Vv rfl rfl c41 ?_
              refine Va (Vz rfl ta_3 rfl) rfl ?_
              refine Vv rfl rfl c41 ?_
              refine Va (Ys rfl rfl) rfl ?_
              refine Vv rfl rfl c40 ?_
              refine Va (Vm (congrArg Yx c41) rfl) rfl ?_
              refine Va (Vl (congrArg Yx c40) rfl) rfl ?_
              refine Va (Xj rfl) rfl ?_
              refine Ve ?_
              obtain rfl := Yy hF
              refine Xq ?_
              exact Vn ⟨rfl, rfl, rfl, rfl, rfl, rfl, trivial⟩
             ·have hF := Yh c41 hF
              refine Va (Vc rfl tf_34_3 ts_32 (by decide)) rfl ?_
              refine Va (Vf rfl (Vi rfl rfl) rfl ta_32 rfl) rfl ?_
              refine Va (Vh rfl) rfl ?_
              refine Va (Xb (Yb rfl rfl h36 te_32 ts_4) (v' := .vptr [.bool x35] 0) rfl) rfl ?_
              refine Va (Vz rfl ta_4 rfl) rfl ?_
              refine Va (Vj rfl) rfl ?_
              refine Vv rfl rfl c37 ?_
              refine Va (Vc rfl tf_34_4 ts_32 (by decide)) rfl ?_
              refine Vv rfl rfl c37 ?_
              refine Va (Vf rfl (Vi rfl rfl) rfl ta_32 rfl) rfl ?_
              refine Vv rfl rfl c37 ?_
              refine Va (Vh rfl) rfl ?_
              refine Vv rfl rfl c37 ?_
              refine Va (Xb (Yb rfl rfl h39 te_32 ts_4) (v' := .vptr [.bool x38] 0) rfl) rfl ?_
              refine Vv rfl rfl c37 ?_
              refine Va (Vz rfl ta_4 rfl) rfl ?_
              refine Va (Vl (congrArg Yx c37) rfl) rfl ?_
              refine Va (Vj rfl) rfl ?_
              refine Vv rfl rfl c40 ?_
              refine Va (Vh rfl) rfl ?_
              refine Vv rfl rfl c40 ?_
              refine Va (rd_geq rfl rfl) rfl ?_
              refine Vv rfl rfl c40 ?_
              refine Va (Vj rfl) rfl ?_
              refine Vb rfl rfl (neF c41) rfl ?_
              refine Vb rfl rfl (neF c41) rfl ?_
              refine Vb rfl rfl (neF c41) rfl ?_
              refine Vb rfl rfl (neF c41) rfl ?_
              refine Vb rfl rfl (neF c41) rfl ?_
              refine Vb rfl rfl (neF c41) rfl ?_
              refine Vv rfl rfl c40 ?_
              refine Va (Vl (congrArg Yx c41) rfl) rfl ?_
              refine Va (Vl (congrArg Yx c40) rfl) rfl ?_
              refine Va (Xj rfl) rfl ?_
              refine Ve ?_
              obtain rfl := Yy hF
              refine Xq ?_
              exact Vn ⟨rfl, rfl, rfl, rfl, rfl, rfl, trivial⟩
          ·rintro _ _ _ _ ⟨rfl, hw⟩
           refine ⟨_, _, _, hw, ?_⟩
           refine Xc rfl (fun c44 => ?_) (fun c44 => ?_)
           ·have hF := Yg c44 hF
            refine Vg ?_
            refine Vd ?_
            refine Va (Xj rfl) rfl ?_
            refine Ve ?_
            refine Vx ?_
            obtain rfl := Yy hF
            refine Xq ?_
            exact Vu rfl [] (by decide) ⟨Vy rfl (.bool _), trivial⟩ trivial
           ·have hF := Yh c44 hF
            refine Xh ?_
            obtain rfl := Yy hF
            refine Xq ?_
            exact Vn ⟨rfl, rfl, rfl, rfl, rfl, trivial⟩
      ·rcases o17 with j18 | j19
       ·replace hF := elimL hF
        rintro _ _ _ _ ⟨rfl, hw⟩
        refine ⟨_, _, _, hw, ?_⟩
        obtain rfl := Yy hF
        refine Xq ?_
        exact Vn ⟨rfl, trivial⟩
       ·replace hF := elimR hF
        rintro _ _ _ _ ⟨rfl, hw⟩
        refine ⟨_, _, _, hw, ?_⟩
        refine Vd ?_
        refine Va (rd_add rfl rfl rfl) rfl ?_
        refine Va (Vh rfl) rfl ?_
        refine Ve ?_
        obtain rfl := Yy hF
        refine Xq ?_
        exact Vn ⟨rfl, rfl, rfl, rfl, rfl, trivial⟩
     ·have hF := Yh c16 hF
      refine vwp_exit ?_
      obtain rfl := Yy hF
      refine Xq ?_
      exact Vu rfl [] (by decide) trivial trivial
    ·rcases o13 with j14 | j15
     ·replace hF := elimL hF
      rintro _ _ _ _ ⟨rfl, hw⟩
      refine ⟨_, _, _, hw, ?_⟩
      obtain rfl := Yy hF
      refine fnR ?_
      exact Vn ⟨rfl, trivial⟩
     ·replace hF := elimR hF
      rintro _ _ _ _ ⟨rfl, hw⟩
      refine ⟨_, _, _, hw, ?_⟩
      refine Vg ?_
      refine Vd ?_
      refine Va (Xj rfl) rfl ?_
      refine Ve ?_
      refine Vx ?_
      obtain rfl := Yy hF
      refine fnR ?_
      exact Vn ⟨rfl, trivial⟩
 ·rintro _ _ _ _ ⟨he, hw⟩
  refine ⟨_, _, _, hw, ?_⟩
  exact Ye he [.bool r] ⟨rfl, trivial⟩ (.bool _) ⟨rfl, rfl⟩

theorem F_belts_checked_ok {p0 : List T_Belt} {p1 : T_Line} {p2 : Int} {r : Int} (hF : F_belts_checked p0 p1 p2 = some r) (low : List AObj) :
    Yd Try.prog 30 [.vs 2 (Yv T_Belt.enc p0), .agg [.int .i64 p1.Time, .vs 1 (Yv (Yw .i64) p1.States), .vs 1 (Yv (Yw .i64) p1.Since), .vs 1 (Yv Yx p1.Pulled), .vs 1 (Yv Yx p1.Held)], .int .i64 p2] low fun x low' => x = .int .i64 r ∧ low' = low := by
 refine Vw (nt := 19) (rs := [.tmp 6]) Try.func30 rfl rfl (Yz rfl) rfl ?_
 refine Vt (Q' := FnE (fun E' lw lc => Xv E' lw lc [(6, .int .i64 r)] low [])) ?_ ?_
 ·unfold F_belts_checked at hF
  refine Vg ?_
  refine Vd ?_
  refine Vk (vef_boxN rfl rfl (v := .agg [.int .i64 p1.Time, .vs 1 (Yv (Yw .i64) p1.States), .vs 1 (Yv (Yw .i64) p1.Since), .vs 1 (Yv Yx p1.Pulled), .vs 1 (Yv Yx p1.Held)]) rfl rfl (Za _) rfl rfl) rfl ?_
  refine Va (Xa rfl) rfl ?_
  refine Ve ?_
  refine Vg ?_
  refine Xt ?_
  refine Vg ?_
  refine Vd ?_
  obtain ⟨x1, h2, hF⟩ := Ym hF
  refine Va (Xg rfl) rfl ?_
  refine Va (Xs (ds := [.int .i64 p1.Time, .vs 1 (Yv (Yw .i64) p1.States), .vs 1 (Yv (Yw .i64) p1.Since), .vs 1 (Yv Yx p1.Pulled), .vs 1 (Yv Yx p1.Held)]) rfl (Vi rfl rfl) rfl ta_34 ts_34 rfl rfl rfl) rfl ?_
  refine Vk (Xd rfl Try.call28 (F_belts_Valid_ok h2 _)) rfl ?_
  refine Va (rd_not rfl) rfl ?_
  refine Va (Xj rfl) rfl ?_
  refine Ve ?_
  refine Xc rfl (fun c3 => ?_) (fun c3 => ?_)
  ·have hF := Yg c3 hF
   refine Vg ?_
   refine Vd ?_
   refine Va (Xa rfl) rfl ?_
   refine Ve ?_
   refine Vx ?_
   obtain rfl := Yy hF
   refine fnR ?_
   exact Vu rfl [] (by decide) ⟨Vy rfl (.int _ _), trivial⟩ trivial
  ·have hF := Yh c3 hF
   refine Vg ?_
   refine Vd ?_
   obtain ⟨x4, h5, hF⟩ := Ym hF
   refine Va (Vh rfl) rfl ?_
   refine Va (Xg rfl) rfl ?_
   refine Va (Xb (Xf rfl rfl te_27) (congrArg (fun n : Nat => Yw .i64 (n : Int)) (Zc _))) rfl ?_
   refine Va (rd_sub rfl rfl rfl) rfl ?_
   refine Vk (Xd rfl Try.call33 (F_lists_In_ok h5 _)) rfl ?_
   refine Va (rd_not rfl) rfl ?_
   refine Va (Xj rfl) rfl ?_
   refine Ve ?_
   refine Xc rfl (fun c6 => ?_) (fun c6 => ?_)
   ·have hF := Yg c6 hF
    refine Vg ?_
    refine Vd ?_
    refine Va (Xa rfl) rfl ?_
    refine Ve ?_
    refine Vx ?_
    obtain rfl := Yy hF
    refine fnR ?_
    exact Vu rfl [] (by decide) ⟨Vy rfl (.int _ _), trivial⟩ trivial
   ·have hF := Yh c6 hF
    refine Xh ?_
    refine Vg ?_
    refine Vd ?_
    refine Va (Xa rfl) rfl ?_
    refine Ve ?_
    refine Vx ?_
    obtain rfl := Yy hF
    refine fnR ?_
    exact Vu rfl [] (by decide) ⟨Vy rfl (.int _ _), trivial⟩ trivial
 ·rintro _ _ _ _ ⟨he, hw⟩
  refine ⟨_, _, _, hw, ?_⟩
  exact Ye he [.int .i64 r] ⟨rfl, trivial⟩ (.int _ _) ⟨rfl, rfl⟩

theorem F_belts_Start_1_ok0 {p0 : T_Line} {p1 : Int} {r : T_Line} (hF : F_belts_Start_1 p0 p1 = some r) {low0 : List AObj} {q0 q1 q2 q3 q4 q5 w0 w1 w2 w3 w4 w5 : Nat} (hB : Bor low0 [q0, q1, q2, q3, q4, q5]) {m1 : Nat} (hm1 : m1 = (p0.States).length) {m2 : Nat} (hm2 : m2 = (p0.Since).length) {m3 : Nat} (hm3 : m3 = (p0.Pulled).length) {m4 : Nat} (hm4 : m4 = (p0.Held).length) {n : Nat} (hn : low0.length = n) :
    Yd Try.prog 32 [.ptr q0 w0 0 0, .ptr q5 w5 0 0] (setL low0 [(q0, ⟨34, 5, [.agg [.int .i64 p0.Time, .sl q1 w1 0 m1, .sl q2 w2 0 m2, .sl q3 w3 0 m3, .sl q4 w4 0 m4]], w0⟩), (q1, ⟨3, 1, Yv (Yw .i64) p0.States, w1⟩), (q2, ⟨3, 1, Yv (Yw .i64) p0.Since, w2⟩), (q3, ⟨4, 1, Yv Yx p0.Pulled, w3⟩), (q4, ⟨4, 1, Yv Yx p0.Held, w4⟩), (q5, ⟨3, 1, [.int .i64 p1], w5⟩)]) fun x low' => x = .tup [] ∧ low' = setL low0 [(q0, ⟨34, 5, [.agg [.int .i64 r.Time, .sl q1 w1 0 m1, .sl q2 w2 0 m2, .sl q3 w3 0 m3, .sl q4 w4 0 m4]], w0⟩), (q1, ⟨3, 1, Yv (Yw .i64) r.States, w1⟩), (q2, ⟨3, 1, Yv (Yw .i64) r.Since, w2⟩), (q3, ⟨4, 1, Yv Yx r.Pulled, w3⟩), (q4, ⟨4, 1, Yv Yx r.Held, w4⟩), (q5, ⟨3, 1, [.int .i64 p1], w5⟩)] ++ [] := by
 refine Vw (nt := 19) (rs := []) Try.func32 rfl rfl (Yz rfl) rfl ?_
 have hq0 : q0 < n := hB.ltN hn 0 rfl
 have hq1 : q1 < n := hB.ltN hn 1 rfl
 have hq2 : q2 < n := hB.ltN hn 2 rfl
 have hq3 : q3 < n := hB.ltN hn 3 rfl
 have hq4 : q4 < n := hB.ltN hn 4 rfl
 have hq5 : q5 < n := hB.ltN hn 5 rfl
 refine Vt (Q' := FnE (fun E' lw lc => m1 = (r.States).length ∧ m2 = (r.Since).length ∧ m3 = (r.Pulled).length ∧ m4 = (r.Held).length ∧ Xv E' lw lc [] (setL low0 [(q0, ⟨34, 5, [.agg [.int .i64 r.Time, .sl q1 w1 0 m1, .sl q2 w2 0 m2, .sl q3 w3 0 m3, .sl q4 w4 0 m4]], w0⟩), (q1, ⟨3, 1, Yv (Yw .i64) r.States, w1⟩), (q2, ⟨3, 1, Yv (Yw .i64) r.Since, w2⟩), (q3, ⟨4, 1, Yv Yx r.Pulled, w3⟩), (q4, ⟨4, 1, Yv Yx r.Held, w4⟩), (q5, ⟨3, 1, [.int .i64 p1], w5⟩)]) [])) ?_ ?_
 ·unfold F_belts_Start_1 at hF
  obtain ⟨x5, h6, hF⟩ := Ym hF
  obtain ⟨x7, h8, hF⟩ := Ym hF
  refine vwp_drawn [[], [0], [0, 1], [0, 1, 2], [], [], [5], [5, 6], [5, 6, 7], [], [], [10], [10, 11], [10, 11, 12], [0, 1, 2, 3, 4, 5, 6, 7, 8, 10, 11, 12, 13], [0, 1, 2, 3, 4, 5, 6, 7, 8, 10, 11, 12, 13, 14], [0, 1, 2, 3, 4, 5, 6, 7, 8, 9, 10, 11, 12, 13, 14, 15], [0, 1, 2, 3, 4, 5, 6, 7, 8, 9, 10, 11, 12, 13, 14, 15, 16]] [false, false, false, false, false, false, false, false, false, false, false, false, false, false, false, true, false, true] [((setL low0 [(q0, ⟨34, 5, [.agg [.int .i64 p0.Time, .sl q1 w1 0 m1, .sl q2 w2 0 m2, .sl q3 w3 0 m3, .sl q4 w4 0 m4]], w0⟩), (q1, ⟨3, 1, Yv (Yw .i64) p0.States, w1⟩), (q2, ⟨3, 1, Yv (Yw .i64) p0.Since, w2⟩), (q3, ⟨4, 1, Yv Yx p0.Pulled, w3⟩), (q4, ⟨4, 1, Yv Yx p0.Held, w4⟩), (q5, ⟨3, 1, [.int .i64 p1], w5⟩)]), []), ((setL low0 [(q0, ⟨34, 5, [.agg [.int .i64 p0.Time, .sl q1 w1 0 m1, .sl q2 w2 0 m2, .sl q3 w3 0 m3, .sl q4 w4 0 m4]], w0⟩), (q1, ⟨3, 1, Yv (Yw .i64) (p0.States.set ((p1).toNat) 1), w1⟩), (q2, ⟨3, 1, Yv (Yw .i64) p0.Since, w2⟩), (q3, ⟨4, 1, Yv Yx p0.Pulled, w3⟩), (q4, ⟨4, 1, Yv Yx p0.Held, w4⟩), (q5, ⟨3, 1, [.int .i64 p1], w5⟩)]), []), ((setL low0 [(q0, ⟨34, 5, [.agg [.int .i64 p0.Time, .sl q1 w1 0 m1, .sl q2 w2 0 m2, .sl q3 w3 0 m3, .sl q4 w4 0 m4]], w0⟩), (q1, ⟨3, 1, Yv (Yw .i64) (p0.States.set ((p1).toNat) 1), w1⟩), (q2, ⟨3, 1, Yv (Yw .i64) (p0.Since.set ((p1).toNat) p0.Time), w2⟩), (q3, ⟨4, 1, Yv Yx p0.Pulled, w3⟩), (q4, ⟨4, 1, Yv Yx p0.Held, w4⟩), (q5, ⟨3, 1, [.int .i64 p1], w5⟩)]), [])] mixed (by kernel_rfl) rfl (lenAll (all1 Xe (all1 Xe (all1 Xe all0)))) rfl _ rfl rfl ?_
  refine Yq rfl rfl (rd_mvP rfl) ?_
  refine Yq rfl rfl (Yl rfl) ?_
  refine Yq rfl rfl (Vc rfl tf_34_1 ts_22 (by decide)) ?_
  refine Yq rfl rfl (Vf rfl (Xp hB rfl 0 rfl) rfl ta_22 rfl) ?_
  refine Yq rfl rfl (Vf rfl (Xp hB rfl 5 rfl) rfl ta_3 rfl) ?_
  refine Yq rfl rfl (rd_mvP rfl) ?_
  refine Yq rfl rfl (Yl rfl) ?_
  refine Yq rfl rfl (Vc rfl tf_34_2 ts_22 (by decide)) ?_
  refine Yq rfl rfl (Vf rfl (Xp hB rfl 0 rfl) rfl ta_22 rfl) ?_
  refine dops_rdW _ rfl rfl (all1 (VRd.ntl (Vf rfl (Xp hB rfl 5 rfl) rfl ta_3 rfl)) (all1 (VRd.ntl (Vf rfl (Xp hB rfl 5 rfl) rfl ta_3 rfl)) all0)) ?_
  refine Yq rfl rfl (rd_mvP rfl) ?_
  refine Yq rfl rfl (Yl rfl) ?_
  refine Yq rfl rfl (Vc rfl tf_34_0 ts_3 (by decide)) ?_
  refine Yq rfl rfl (Vf rfl (Xp hB rfl 0 rfl) rfl ta_3 rfl) ?_
  refine Yq rfl rfl (rd_ixS rfl hm1 rfl (Xp hB rfl 1 rfl) h6 te_22 ts_3) ?_
  refine dops_ef rfl rfl rfl (vef_stL (p := .int .i64 1) (e' := 1) rfl (Xp hB rfl 1 rfl) (getI_some h6).2 rfl ts_3 rfl (Yt rfl) (Yz rfl) rfl (setO_B hB rfl 1 rfl (Vo (fun _ => .int _ _)) rfl)) ?_
  refine Yq rfl rfl (rd_ixS rfl hm2 rfl (Xp hB rfl 2 rfl) h8 te_22 ts_3) ?_
  refine dops_ef rfl rfl rfl (vef_stL (p := .int .i64 p0.Time) (e' := p0.Time) rfl (Xp hB rfl 2 rfl) (getI_some h8).2 rfl ts_3 rfl (Yt rfl) (Yz rfl) rfl (setO_B hB rfl 2 rfl (Vo (fun _ => .int _ _)) rfl)) ?_
  refine dops_nil ?_
  obtain rfl := Yy hF
  refine And.intro (.inl rfl) (And.intro (Eq.trans hm1 List.length_set.symm) (And.intro (Eq.trans hm2 List.length_set.symm) (And.intro hm3 (And.intro hm4 ?_))))
  exact Vn trivial
 ·rintro _ _ _ _ ⟨he, hl1, hl2, hl3, hl4, hw⟩
  refine ⟨_, _, _, hw, ?_⟩
  exact Ye he [] trivial ((lt_tup trivial)) ⟨rfl, (List.append_nil _).symm⟩

theorem F_belts_Start_1_len {p0 : T_Line} {p1 : Int} {r : T_Line} (hF : F_belts_Start_1 p0 p1 = some r) {m1 : Nat} (hm1 : m1 = (p0.States).length) {m2 : Nat} (hm2 : m2 = (p0.Since).length) {m3 : Nat} (hm3 : m3 = (p0.Pulled).length) {m4 : Nat} (hm4 : m4 = (p0.Held).length) : m1 = (r.States).length ∧ m2 = (r.Since).length ∧ m3 = (r.Pulled).length ∧ m4 = (r.Held).length ∧ True := by
  have h : LP (F_belts_Start_1 p0 p1) (fun r => m1 = (r.States).length ∧ m2 = (r.Since).length ∧ m3 = (r.Pulled).length ∧ m4 = (r.Held).length ∧ True) := by
    unfold F_belts_Start_1
    exact (lp_bindE fun x5 h6 => lp_bindE fun x7 h8 => lp_some ⟨(Eq.trans hm1 List.length_set.symm), (Eq.trans hm2 List.length_set.symm), hm3, hm4, trivial⟩)
  exact h r hF

theorem F_belts_Start_1_ok {p0 : T_Line} {p1 : Int} {r : T_Line} (hF : F_belts_Start_1 p0 p1 = some r) {low : List AObj} {q0 q1 q2 q3 q4 q5 w0 w1 w2 w3 w4 w5 : Nat} (hnd : [q0, q1, q2, q3, q4, q5].Nodup) {m1 : Nat} (hm1 : m1 = (p0.States).length) {m2 : Nat} (hm2 : m2 = (p0.Since).length) {m3 : Nat} (hm3 : m3 = (p0.Pulled).length) {m4 : Nat} (hm4 : m4 = (p0.Held).length) (hq0 : low[q0]? = some ⟨34, 5, [.agg [.int .i64 p0.Time, .sl q1 w1 0 m1, .sl q2 w2 0 m2, .sl q3 w3 0 m3, .sl q4 w4 0 m4]], w0⟩) (hq1 : low[q1]? = some ⟨3, 1, Yv (Yw .i64) p0.States, w1⟩) (hq2 : low[q2]? = some ⟨3, 1, Yv (Yw .i64) p0.Since, w2⟩) (hq3 : low[q3]? = some ⟨4, 1, Yv Yx p0.Pulled, w3⟩) (hq4 : low[q4]? = some ⟨4, 1, Yv Yx p0.Held, w4⟩) (hq5 : low[q5]? = some ⟨3, 1, [.int .i64 p1], w5⟩) {n : Nat} (hn : low.length = n) :
    Yd Try.prog 32 [.ptr q0 w0 0 0, .ptr q5 w5 0 0] low fun x low' => x = .tup [] ∧ low' = setL low [(q0, ⟨34, 5, [.agg [.int .i64 r.Time, .sl q1 w1 0 m1, .sl q2 w2 0 m2, .sl q3 w3 0 m3, .sl q4 w4 0 m4]], w0⟩), (q1, ⟨3, 1, Yv (Yw .i64) r.States, w1⟩), (q2, ⟨3, 1, Yv (Yw .i64) r.Since, w2⟩), (q3, ⟨4, 1, Yv Yx r.Pulled, w3⟩), (q4, ⟨4, 1, Yv Yx r.Held, w4⟩), (q5, ⟨3, 1, [.int .i64 p1], w5⟩)] ++ [] := by
  obtain ⟨h1, h2⟩ := bor_start (ps := [(q0, ⟨34, 5, [.agg [.int .i64 p0.Time, .sl q1 w1 0 m1, .sl q2 w2 0 m2, .sl q3 w3 0 m3, .sl q4 w4 0 m4]], w0⟩), (q1, ⟨3, 1, Yv (Yw .i64) p0.States, w1⟩), (q2, ⟨3, 1, Yv (Yw .i64) p0.Since, w2⟩), (q3, ⟨4, 1, Yv Yx p0.Pulled, w3⟩), (q4, ⟨4, 1, Yv Yx p0.Held, w4⟩), (q5, ⟨3, 1, [.int .i64 p1], w5⟩)]) hnd (borC hq0 (borC hq1 (borC hq2 (borC hq3 (borC hq4 (borC hq5 bor0))))))
  exact vcalls_low h1 (F_belts_Start_1_ok0 hF h2 hm1 hm2 hm3 hm4 hn)

theorem F_slices_Clone___int_int__ok {p0 : List Int} {r : List Int} (hF : F_slices_Clone___int_int_ p0 = some r) (low : List AObj) {n : Nat} (hn : low.length = n) :
    Yd Try.prog 54 [.vs 1 (Yv (Yw .i64) p0)] low fun x low' => x = .sl (n + 0) 0 0 (r).length ∧ low' = low ++ [⟨3, 1, Yv (Yw .i64) r, 0⟩] := by
 refine Vw (nt := 8) (rs := [.tmp 2]) Try.func54 rfl rfl (Yz rfl) rfl ?_
 refine Vt (Q' := FnE (fun E' lw lc => Xv E' lw lc [(2, .sl (n + 0) 0 0 (r).length)] low [⟨3, 1, Yv (Yw .i64) r, 0⟩])) ?_ ?_
 ·unfold F_slices_Clone___int_int_ at hF
  refine Vg ?_
  refine Vd ?_
  refine Vk (vef_nilsN hn rfl 3 1 (Za _) (rd_asN rfl)) rfl ?_
  refine Ve ?_
  refine Vg ?_
  refine Vg ?_
  refine Vd ?_
  refine Va (Xg rfl) rfl ?_
  refine vops_nilq rfl (nilq_vs rfl) rfl te_22 rfl ?_
  intro b1 hb1
  refine Ve ?_
  refine Xc rfl (fun c2 => ?_) (fun c2 => ?_)
  ·have hF : (some ([] : List Int)) = some _ := (show ((appI 8 ([] : List Int) p0).bind fun x3 => some x3) = (some ([] : List Int)) from by have he : p0 = [] := map_nil (hb1 c2); first | (rw [he]; rfl) | simp [he, appI]).symm.trans hF
   refine Vg ?_
   refine Vd ?_
   refine Vk (vef_nilsN hn rfl 3 1 (Za _) (rd_asN rfl)) rfl ?_
   refine Ve ?_
   refine Vx ?_
   obtain rfl := Yy hF
   refine fnR ?_
   exact Vu hn [(1, 0)] (by decide) ⟨rn_sl 0 1 rfl rfl, trivial⟩ ⟨⟨_, rfl, rfl, .same _ _ _ _ (Xr trivial)⟩, trivial⟩
  ·skip
   refine Xh ?_
   refine Vg ?_
   refine Vd ?_
   obtain ⟨x3, h4, hF⟩ := Ym hF
   refine Vk (vef_litN hn rfl (es := Yv (Yw .i64) ([] : List Int)) trivial rfl rfl (nt_all rfl) te_22 ts_3 tz_3 rfl rfl (Za _) (by decide)) rfl ?_
   refine Va (Xg rfl) rfl ?_
   refine Vk (vef_apL (f := (Yw .i64)) (l := ([] : List Int)) (ys := p0) rfl rfl (Vi hn rfl) rfl (src_vs rfl) te_22 ts_3 tb_3 (by decide) tz_3 rfl h4 (Yn hn rfl)) rfl ?_
   refine Va (rd_asL rfl) rfl ?_
   refine Ve ?_
   refine Vx ?_
   obtain rfl := Yy hF
   refine fnR ?_
   exact Vu hn [(1, 0 + 1)] (by decide) ⟨rn_sl 0 1 rfl rfl, trivial⟩ ⟨⟨_, rfl, rfl, .same _ _ _ _ (Vo (fun _ => .int _ _))⟩, trivial⟩
 ·rintro _ _ _ _ ⟨he, hw⟩
  refine ⟨_, _, _, hw, ?_⟩
  exact bodyQ_all he [.sl (n + 0) 0 0 (r).length] ⟨rfl, trivial⟩ ⟨rfl, rfl⟩

theorem F_slices_Clone___bool_bool__ok {p0 : List Bool} {r : List Bool} (hF : F_slices_Clone___bool_bool_ p0 = some r) (low : List AObj) {n : Nat} (hn : low.length = n) :
    Yd Try.prog 55 [.vs 1 (Yv Yx p0)] low fun x low' => x = .sl (n + 0) 0 0 (r).length ∧ low' = low ++ [⟨4, 1, Yv Yx r, 0⟩] := by
 refine Vw (nt := 8) (rs := [.tmp 2]) Try.func55 rfl rfl (Yz rfl) rfl ?_
 refine Vt (Q' := FnE (fun E' lw lc => Xv E' lw lc [(2, .sl (n + 0) 0 0 (r).length)] low [⟨4, 1, Yv Yx r, 0⟩])) ?_ ?_
 ·unfold F_slices_Clone___bool_bool_ at hF
  refine Vg ?_
  refine Vd ?_
  refine Vk (vef_nilsN hn rfl 4 1 (Za _) (rd_asN rfl)) rfl ?_
  refine Ve ?_
  refine Vg ?_
  refine Vg ?_
  refine Vd ?_
  refine Va (Xg rfl) rfl ?_
  refine vops_nilq rfl (nilq_vs rfl) rfl te_32 rfl ?_
  intro b1 hb1
  refine Ve ?_
  refine Xc rfl (fun c2 => ?_) (fun c2 => ?_)
  ·have hF : (some ([] : List Bool)) = some _ := (show ((appI 1 ([] : List Bool) p0).bind fun x3 => some x3) = (some ([] : List Bool)) from by have he : p0 = [] := map_nil (hb1 c2); first | (rw [he]; rfl) | simp [he, appI]).symm.trans hF
   refine Vg ?_
   refine Vd ?_
   refine Vk (vef_nilsN hn rfl 4 1 (Za _) (rd_asN rfl)) rfl ?_
   refine Ve ?_
   refine Vx ?_
   obtain rfl := Yy hF
   refine fnR ?_
   exact Vu hn [(1, 0)] (by decide) ⟨rn_sl 0 1 rfl rfl, trivial⟩ ⟨⟨_, rfl, rfl, .same _ _ _ _ (Xr trivial)⟩, trivial⟩
  ·skip
   refine Xh ?_
   refine Vg ?_
   refine Vd ?_
   obtain ⟨x3, h4, hF⟩ := Ym hF
   refine Vk (vef_litN hn rfl (es := Yv Yx ([] : List Bool)) trivial rfl rfl (nt_all rfl) te_32 ts_4 tz_4 rfl rfl (Za _) (by decide)) rfl ?_
   refine Va (Xg rfl) rfl ?_
   refine Vk (vef_apL (f := Yx) (l := ([] : List Bool)) (ys := p0) rfl rfl (Vi hn rfl) rfl (src_vs rfl) te_32 ts_4 tb_4 (by decide) tz_4 rfl h4 (Yn hn rfl)) rfl ?_
   refine Va (rd_asL rfl) rfl ?_
   refine Ve ?_
   refine Vx ?_
   obtain rfl := Yy hF
   refine fnR ?_
   exact Vu hn [(1, 0 + 1)] (by decide) ⟨rn_sl 0 1 rfl rfl, trivial⟩ ⟨⟨_, rfl, rfl, .same _ _ _ _ (Vo (fun _ => .bool _))⟩, trivial⟩
 ·rintro _ _ _ _ ⟨he, hw⟩
  refine ⟨_, _, _, hw, ?_⟩
  exact bodyQ_all he [.sl (n + 0) 0 0 (r).length] ⟨rfl, trivial⟩ ⟨rfl, rfl⟩

theorem F_belts_done__belts_Start_1_ok0 {p0 : T_Line} {pc10 : Int} {r : T_Line} (hF : F_belts_done__belts_Start_1 p0 pc10 = some r) {low0 : List AObj} {q0 w0 : Nat} (hB : Bor low0 [q0]) {n : Nat} (hn : low0.length = n) :
    Yd Try.prog 31 [.agg [.int .i64 p0.Time, .vs 1 (Yv (Yw .i64) p0.States), .vs 1 (Yv (Yw .i64) p0.Since), .vs 1 (Yv Yx p0.Pulled), .vs 1 (Yv Yx p0.Held)], .fn 32 [] [.ptr q0 w0 0 0]] (setL low0 [(q0, ⟨3, 1, [.int .i64 pc10], w0⟩)]) fun x low' => x = .agg [.int .i64 r.Time, .sl (n + 0) 0 0 (r.States).length, .sl (n + 1) 0 0 (r.Since).length, .sl (n + 2) 0 0 (r.Pulled).length, .vs 1 (Yv Yx r.Held)] ∧ low' = setL low0 [(q0, ⟨3, 1, [.int .i64 pc10], w0⟩)] ++ [⟨3, 1, Yv (Yw .i64) r.States, 0⟩, ⟨3, 1, Yv (Yw .i64) r.Since, 0⟩, ⟨4, 1, Yv Yx r.Pulled, 0⟩] := by
 refine Vw (nt := 24) (rs := [.cell 4 34]) Try.func31 rfl rfl (Yz rfl) rfl ?_
 have hq0 : q0 < n := hB.ltN hn 0 rfl
 refine Vt (Q' := FnE (fun E' lw lc => Xv E' lw lc [(4, .ptr (n + 3) 0 0 0)] (setL low0 [(q0, ⟨3, 1, [.int .i64 pc10], w0⟩)]) [⟨3, 1, Yv (Yw .i64) r.States, 0⟩, ⟨3, 1, Yv (Yw .i64) r.Since, 0⟩, ⟨4, 1, Yv Yx r.Pulled, 0⟩, ⟨34, 5, [.agg [.int .i64 r.Time, .sl (n + 0) 0 0 (r.States).length, .sl (n + 1) 0 0 (r.Since).length, .sl (n + 2) 0 0 (r.Pulled).length, .vs 1 (Yv Yx r.Held)]], 0⟩])) ?_ ?_
 ·unfold F_belts_done__belts_Start_1 at hF
  refine Vg ?_
  refine Vd ?_
  refine Vk (vef_boxN (Vq hn) rfl (v := .agg [.int .i64 p0.Time, .vs 1 (Yv (Yw .i64) p0.States), .vs 1 (Yv (Yw .i64) p0.Since), .vs 1 (Yv Yx p0.Pulled), .vs 1 (Yv Yx p0.Held)]) rfl rfl (Za _) rfl rfl) rfl ?_
  refine Vk (Xm (Vq hn) rfl tz_34 rfl rfl (Za _) rfl) rfl ?_
  refine Ve ?_
  refine Vg ?_
  obtain ⟨x1, h2, hF⟩ := Ym hF
  obtain ⟨x3, h4, hF⟩ := Ym hF
  obtain ⟨x5, h6, hF⟩ := Ym hF
  obtain ⟨x7, h8, hF⟩ := Ym hF
  refine Xw (Yo 3 1 (Za _)) ?_
  refine Xw (Yo 3 1 (Za _)) ?_
  refine Xw (Yo 4 1 (Za _)) ?_
  refine Xw (Yo 4 1 (Za _)) ?_
  refine Xw (Yo 34 5 (Za _)) ?_
  refine vwp_drawnX [[], [0], [], [2], [2, 3], [], [5], [2, 3, 4, 5, 6], [], [8], [2, 3, 4, 5, 6, 7, 8, 9], [], [11], [2, 3, 4, 5, 6, 7, 8, 9, 10, 11, 12], [0, 1, 2, 3, 4, 5, 6, 7, 8, 9, 10, 11, 12, 13], [], [0, 1, 2, 3, 4, 5, 6, 7, 8, 9, 10, 11, 12, 13, 14, 15]] [false, false, false, false, true, false, false, true, false, false, true, false, false, true, false, true, true] [([], (setL low0 [(q0, ⟨3, 1, [.int .i64 pc10], w0⟩)]), [⟨34, 5, [.agg [.int .i64 p0.Time, .vs 1 (Yv (Yw .i64) p0.States), .vs 1 (Yv (Yw .i64) p0.Since), .vs 1 (Yv Yx p0.Pulled), .vs 1 (Yv Yx p0.Held)]], 0⟩, ⟨34, 5, [.agg [.int .i64 0, .nils, .nils, .nils, .nils]], 0⟩, ⟨3, 1, [], 0⟩, ⟨3, 1, [], 0⟩, ⟨4, 1, [], 0⟩, ⟨4, 1, [], 0⟩, ⟨34, 5, [], 0⟩]), ([4], (setL low0 [(q0, ⟨3, 1, [.int .i64 pc10], w0⟩)]), [⟨34, 5, [.agg [.int .i64 p0.Time, .vs 1 (Yv (Yw .i64) p0.States), .vs 1 (Yv (Yw .i64) p0.Since), .vs 1 (Yv Yx p0.Pulled), .vs 1 (Yv Yx p0.Held)]], 0⟩, ⟨34, 5, [.agg [.int .i64 0, .nils, .nils, .nils, .nils]], 0⟩, ⟨3, 1, Yv (Yw .i64) x1, 1⟩, ⟨3, 1, [], 0⟩, ⟨4, 1, [], 0⟩, ⟨4, 1, [], 0⟩, ⟨34, 5, [], 0⟩]), ([15], (setL low0 [(q0, ⟨3, 1, [.int .i64 pc10], w0⟩)]), [⟨34, 5, [.agg [.int .i64 p0.Time, .vs 1 (Yv (Yw .i64) p0.States), .vs 1 (Yv (Yw .i64) p0.Since), .vs 1 (Yv Yx p0.Pulled), .vs 1 (Yv Yx p0.Held)]], 0⟩, ⟨34, 5, [.agg [.int .i64 0, .nils, .nils, .nils, .nils]], 0⟩, ⟨3, 1, [], 0⟩, ⟨3, 1, [], 0⟩, ⟨4, 1, [], 0⟩, ⟨4, 1, [], 0⟩, ⟨34, 5, [.agg [.int .i64 0, .nils, .nils, .nils, .nils]], 1⟩]), ([4, 7], (setL low0 [(q0, ⟨3, 1, [.int .i64 pc10], w0⟩)]), [⟨34, 5, [.agg [.int .i64 p0.Time, .vs 1 (Yv (Yw .i64) p0.States), .vs 1 (Yv (Yw .i64) p0.Since), .vs 1 (Yv Yx p0.Pulled), .vs 1 (Yv Yx p0.Held)]], 0⟩, ⟨34, 5, [.agg [.int .i64 0, .nils, .nils, .nils, .nils]], 0⟩, ⟨3, 1, Yv (Yw .i64) x1, 1⟩, ⟨3, 1, Yv (Yw .i64) x3, 1⟩, ⟨4, 1, [], 0⟩, ⟨4, 1, [], 0⟩, ⟨34, 5, [], 0⟩]), ([4, 15], (setL low0 [(q0, ⟨3, 1, [.int .i64 pc10], w0⟩)]), [⟨34, 5, [.agg [.int .i64 p0.Time, .vs 1 (Yv (Yw .i64) p0.States), .vs 1 (Yv (Yw .i64) p0.Since), .vs 1 (Yv Yx p0.Pulled), .vs 1 (Yv Yx p0.Held)]], 0⟩, ⟨34, 5, [.agg [.int .i64 0, .nils, .nils, .nils, .nils]], 0⟩, ⟨3, 1, Yv (Yw .i64) x1, 1⟩, ⟨3, 1, [], 0⟩, ⟨4, 1, [], 0⟩, ⟨4, 1, [], 0⟩, ⟨34, 5, [.agg [.int .i64 0, .nils, .nils, .nils, .nils]], 1⟩]), ([4, 7, 10], (setL low0 [(q0, ⟨3, 1, [.int .i64 pc10], w0⟩)]), [⟨34, 5, [.agg [.int .i64 p0.Time, .vs 1 (Yv (Yw .i64) p0.States), .vs 1 (Yv (Yw .i64) p0.Since), .vs 1 (Yv Yx p0.Pulled), .vs 1 (Yv Yx p0.Held)]], 0⟩, ⟨34, 5, [.agg [.int .i64 0, .nils, .nils, .nils, .nils]], 0⟩, ⟨3, 1, Yv (Yw .i64) x1, 1⟩, ⟨3, 1, Yv (Yw .i64) x3, 1⟩, ⟨4, 1, Yv Yx x5, 1⟩, ⟨4, 1, [], 0⟩, ⟨34, 5, [], 0⟩]), ([4, 7, 15], (setL low0 [(q0, ⟨3, 1, [.int .i64 pc10], w0⟩)]), [⟨34, 5, [.agg [.int .i64 p0.Time, .vs 1 (Yv (Yw .i64) p0.States), .vs 1 (Yv (Yw .i64) p0.Since), .vs 1 (Yv Yx p0.Pulled), .vs 1 (Yv Yx p0.Held)]], 0⟩, ⟨34, 5, [.agg [.int .i64 0, .nils, .nils, .nils, .nils]], 0⟩, ⟨3, 1, Yv (Yw .i64) x1, 1⟩, ⟨3, 1, Yv (Yw .i64) x3, 1⟩, ⟨4, 1, [], 0⟩, ⟨4, 1, [], 0⟩, ⟨34, 5, [.agg [.int .i64 0, .nils, .nils, .nils, .nils]], 1⟩]), ([4, 7, 10, 13], (setL low0 [(q0, ⟨3, 1, [.int .i64 pc10], w0⟩)]), [⟨34, 5, [.agg [.int .i64 p0.Time, .vs 1 (Yv (Yw .i64) p0.States), .vs 1 (Yv (Yw .i64) p0.Since), .vs 1 (Yv Yx p0.Pulled), .vs 1 (Yv Yx p0.Held)]], 0⟩, ⟨34, 5, [.agg [.int .i64 0, .nils, .nils, .nils, .nils]], 0⟩, ⟨3, 1, Yv (Yw .i64) x1, 1⟩, ⟨3, 1, Yv (Yw .i64) x3, 1⟩, ⟨4, 1, Yv Yx x5, 1⟩, ⟨4, 1, Yv Yx x7, 1⟩, ⟨34, 5, [], 0⟩]), ([4, 7, 10, 15], (setL low0 [(q0, ⟨3, 1, [.int .i64 pc10], w0⟩)]), [⟨34, 5, [.agg [.int .i64 p0.Time, .vs 1 (Yv (Yw .i64) p0.States), .vs 1 (Yv (Yw .i64) p0.Since), .vs 1 (Yv Yx p0.Pulled), .vs 1 (Yv Yx p0.Held)]], 0⟩, ⟨34, 5, [.agg [.int .i64 0, .nils, .nils, .nils, .nils]], 0⟩, ⟨3, 1, Yv (Yw .i64) x1, 1⟩, ⟨3, 1, Yv (Yw .i64) x3, 1⟩, ⟨4, 1, Yv Yx x5, 1⟩, ⟨4, 1, [], 0⟩, ⟨34, 5, [.agg [.int .i64 0, .nils, .nils, .nils, .nils]], 1⟩]), ([4, 7, 10, 13, 15], (setL low0 [(q0, ⟨3, 1, [.int .i64 pc10], w0⟩)]), [⟨34, 5, [.agg [.int .i64 p0.Time, .vs 1 (Yv (Yw .i64) p0.States), .vs 1 (Yv (Yw .i64) p0.Since), .vs 1 (Yv Yx p0.Pulled), .vs 1 (Yv Yx p0.Held)]], 0⟩, ⟨34, 5, [.agg [.int .i64 0, .nils, .nils, .nils, .nils]], 0⟩, ⟨3, 1, Yv (Yw .i64) x1, 1⟩, ⟨3, 1, Yv (Yw .i64) x3, 1⟩, ⟨4, 1, Yv Yx x5, 1⟩, ⟨4, 1, Yv Yx x7, 1⟩, ⟨34, 5, [.agg [.int .i64 0, .nils, .nils, .nils, .nils]], 1⟩]), ([4, 7, 10, 13, 15, 16], (setL low0 [(q0, ⟨3, 1, [.int .i64 pc10], w0⟩)]), [⟨34, 5, [.agg [.int .i64 p0.Time, .vs 1 (Yv (Yw .i64) p0.States), .vs 1 (Yv (Yw .i64) p0.Since), .vs 1 (Yv Yx p0.Pulled), .vs 1 (Yv Yx p0.Held)]], 0⟩, ⟨34, 5, [.agg [.int .i64 0, .nils, .nils, .nils, .nils]], 0⟩, ⟨3, 1, Yv (Yw .i64) x1, 1⟩, ⟨3, 1, Yv (Yw .i64) x3, 1⟩, ⟨4, 1, Yv Yx x5, 1⟩, ⟨4, 1, Yv Yx x7, 1⟩, ⟨34, 5, [.agg [.int .i64 p0.Time, .sl (n + 2) 1 0 (x1).length, .sl (n + 3) 1 0 (x3).length, .sl (n + 4) 1 0 (x5).length, .sl (n + 5) 1 0 (x7).length]], 1⟩])] mixed (by kernel_rfl) rfl (lenAllX (Yk Xe (Yk Xe (Yk Xe (Yk Xe (Yk Xe (Yk Xe (Yk Xe (Yk Xe (Yk Xe (Yk Xe (Yk Xe allx0)))))))))))) rfl [4, 7, 10, 13, 15, 16] ((setL low0 [(q0, ⟨3, 1, [.int .i64 pc10], w0⟩)]), [⟨34, 5, [.agg [.int .i64 p0.Time, .vs 1 (Yv (Yw .i64) p0.States), .vs 1 (Yv (Yw .i64) p0.Since), .vs 1 (Yv Yx p0.Pulled), .vs 1 (Yv Yx p0.Held)]], 0⟩, ⟨34, 5, [.agg [.int .i64 0, .nils, .nils, .nils, .nils]], 0⟩, ⟨3, 1, Yv (Yw .i64) x1, 1⟩, ⟨3, 1, Yv (Yw .i64) x3, 1⟩, ⟨4, 1, Yv Yx x5, 1⟩, ⟨4, 1, Yv Yx x7, 1⟩, ⟨34, 5, [.agg [.int .i64 p0.Time, .sl (n + 2) 1 0 (x1).length, .sl (n + 3) 1 0 (x3).length, .sl (n + 4) 1 0 (x5).length, .sl (n + 5) 1 0 (x7).length]], 1⟩]) rfl rfl ?_
  refine Xu _ rfl rfl (Xo (VRd.ntl (Vc rfl tf_34_0 ts_3 (by decide))) (Xo (VRd.ntl (Vc rfl tf_34_0 ts_3 (by decide))) (Xo (VRd.ntl (Vc rfl tf_34_0 ts_3 (by decide))) (Xo (VRd.ntl (Vc rfl tf_34_0 ts_3 (by decide))) (Xo (VRd.ntl (Vc rfl tf_34_0 ts_3 (by decide))) (Xo (VRd.ntl (Vc rfl tf_34_0 ts_3 (by decide))) (Xo (VRd.ntl (Vc rfl tf_34_0 ts_3 (by decide))) (Xo (VRd.ntl (Vc rfl tf_34_0 ts_3 (by decide))) (Xo (VRd.ntl (Vc rfl tf_34_0 ts_3 (by decide))) (Xo (VRd.ntl (Vc rfl tf_34_0 ts_3 (by decide))) rx0)))))))))) ?_
  refine Xu _ rfl rfl (Xo (VRd.ntl (Vf rfl (Vi (Vq hn) rfl) rfl ta_3 rfl)) (Xo (VRd.ntl (Vf rfl (Vi (Vq hn) rfl) rfl ta_3 rfl)) (Xo (VRd.ntl (Vf rfl (Vi (Vq hn) rfl) rfl ta_3 rfl)) (Xo (VRd.ntl (Vf rfl (Vi (Vq hn) rfl) rfl ta_3 rfl)) (Xo (VRd.ntl (Vf rfl (Vi (Vq hn) rfl) rfl ta_3 rfl)) (Xo (VRd.ntl (Vf rfl (Vi (Vq hn) rfl) rfl ta_3 rfl)) (Xo (VRd.ntl (Vf rfl (Vi (Vq hn) rfl) rfl ta_3 rfl)) (Xo (VRd.ntl (Vf rfl (Vi (Vq hn) rfl) rfl ta_3 rfl)) (Xo (VRd.ntl (Vf rfl (Vi (Vq hn) rfl) rfl ta_3 rfl)) (Xo (VRd.ntl (Vf rfl (Vi (Vq hn) rfl) rfl ta_3 rfl)) rx0)))))))))) ?_
  refine Xu _ rfl rfl (Xo (VRd.ntl (Vc rfl tf_34_1 ts_22 (by decide))) (Xo (VRd.ntl (Vc rfl tf_34_1 ts_22 (by decide))) rx0)) ?_
  refine Xu _ rfl rfl (Xo (VRd.ntl (Vf rfl (Vi (Vq hn) rfl) rfl ta_22 rfl)) (Xo (VRd.ntl (Vf rfl (Vi (Vq hn) rfl) rfl ta_22 rfl)) rx0)) ?_
  refine Yu _ rfl rfl (ex1 1 rfl (Vr (f := 7) (k := 2) (m := 1) (os := [⟨3, 1, Yv (Yw .i64) x1, 0⟩]) (os' := [⟨3, 1, Yv (Yw .i64) x1, 1⟩]) (v := .sl (n + 7) 0 0 (x1).length) (Vq hn) rfl rfl ⟨⟨_, rfl, rfl⟩, trivial⟩ (Xk (r := .sl (n + 7) 0 0 (x1).length) (os := [⟨3, 1, Yv (Yw .i64) x1, 0⟩]) rfl Try.call54 (F_slices_Clone___int_int__ok h2 _ (Xi (Vq hn) rfl))) (Ya 0 rfl rfl rfl rfl) ⟨.same _ _ _ (Vo (fun _ => .int _ _)), trivial⟩ rfl) (ex1 4 rfl (Vr (f := 7) (k := 2) (m := 1) (os := [⟨3, 1, Yv (Yw .i64) x1, 0⟩]) (os' := [⟨3, 1, Yv (Yw .i64) x1, 1⟩]) (v := .sl (n + 7) 0 0 (x1).length) (Vq hn) rfl rfl ⟨⟨_, rfl, rfl⟩, trivial⟩ (Xk (r := .sl (n + 7) 0 0 (x1).length) (os := [⟨3, 1, Yv (Yw .i64) x1, 0⟩]) rfl Try.call54 (F_slices_Clone___int_int__ok h2 _ (Xi (Vq hn) rfl))) (Ya 0 rfl rfl rfl rfl) ⟨.same _ _ _ (Vo (fun _ => .int _ _)), trivial⟩ rfl) ex0)) ?_
  refine Xu _ rfl rfl (Xo (VRd.ntl (Vc rfl tf_34_2 ts_22 (by decide))) (Xo (VRd.ntl (Vc rfl tf_34_2 ts_22 (by decide))) (Xo (VRd.ntl (Vc rfl tf_34_2 ts_22 (by decide))) (Xo (VRd.ntl (Vc rfl tf_34_2 ts_22 (by decide))) rx0)))) ?_
  refine Xu _ rfl rfl (Xo (VRd.ntl (Vf rfl (Vi (Vq hn) rfl) rfl ta_22 rfl)) (Xo (VRd.ntl (Vf rfl (Vi (Vq hn) rfl) rfl ta_22 rfl)) (Xo (VRd.ntl (Vf rfl (Vi (Vq hn) rfl) rfl ta_22 rfl)) (Xo (VRd.ntl (Vf rfl (Vi (Vq hn) rfl) rfl ta_22 rfl)) rx0)))) ?_
  refine Yu _ rfl rfl (ex1 3 rfl (Vr (f := 7) (k := 3) (m := 1) (os := [⟨3, 1, Yv (Yw .i64) x3, 0⟩]) (os' := [⟨3, 1, Yv (Yw .i64) x3, 1⟩]) (v := .sl (n + 7) 0 0 (x3).length) (Vq hn) rfl rfl ⟨⟨_, rfl, rfl⟩, trivial⟩ (Xk (r := .sl (n + 7) 0 0 (x3).length) (os := [⟨3, 1, Yv (Yw .i64) x3, 0⟩]) rfl Try.call54 (F_slices_Clone___int_int__ok h4 _ (Xi (Vq hn) rfl))) (Ya 0 rfl rfl rfl rfl) ⟨.same _ _ _ (Vo (fun _ => .int _ _)), trivial⟩ rfl) (ex1 6 rfl (Vr (f := 7) (k := 3) (m := 1) (os := [⟨3, 1, Yv (Yw .i64) x3, 0⟩]) (os' := [⟨3, 1, Yv (Yw .i64) x3, 1⟩]) (v := .sl (n + 7) 0 0 (x3).length) (Vq hn) rfl rfl ⟨⟨_, rfl, rfl⟩, trivial⟩ (Xk (r := .sl (n + 7) 0 0 (x3).length) (os := [⟨3, 1, Yv (Yw .i64) x3, 0⟩]) rfl Try.call54 (F_slices_Clone___int_int__ok h4 _ (Xi (Vq hn) rfl))) (Ya 0 rfl rfl rfl rfl) ⟨.same _ _ _ (Vo (fun _ => .int _ _)), trivial⟩ rfl) ex0)) ?_
  refine Xu _ rfl rfl (Xo (VRd.ntl (Vc rfl tf_34_3 ts_32 (by decide))) (Xo (VRd.ntl (Vc rfl tf_34_3 ts_32 (by decide))) (Xo (VRd.ntl (Vc rfl tf_34_3 ts_32 (by decide))) (Xo (VRd.ntl (Vc rfl tf_34_3 ts_32 (by decide))) (Xo (VRd.ntl (Vc rfl tf_34_3 ts_32 (by decide))) (Xo (VRd.ntl (Vc rfl tf_34_3 ts_32 (by decide))) rx0)))))) ?_
  refine Xu _ rfl rfl (Xo (VRd.ntl (Vf rfl (Vi (Vq hn) rfl) rfl ta_32 rfl)) (Xo (VRd.ntl (Vf rfl (Vi (Vq hn) rfl) rfl ta_32 rfl)) (Xo (VRd.ntl (Vf rfl (Vi (Vq hn) rfl) rfl ta_32 rfl)) (Xo (VRd.ntl (Vf rfl (Vi (Vq hn) rfl) rfl ta_32 rfl)) (Xo (VRd.ntl (Vf rfl (Vi (Vq hn) rfl) rfl ta_32 rfl)) (Xo (VRd.ntl (Vf rfl (Vi (Vq hn) rfl) rfl ta_32 rfl)) rx0)))))) ?_
  refine Yu _ rfl rfl (ex1 5 rfl (Vr (f := 7) (k := 4) (m := 1) (os := [⟨4, 1, Yv Yx x5, 0⟩]) (os' := [⟨4, 1, Yv Yx x5, 1⟩]) (v := .sl (n + 7) 0 0 (x5).length) (Vq hn) rfl rfl ⟨⟨_, rfl, rfl⟩, trivial⟩ (Xk (r := .sl (n + 7) 0 0 (x5).length) (os := [⟨4, 1, Yv Yx x5, 0⟩]) rfl Try.call55 (F_slices_Clone___bool_bool__ok h6 _ (Xi (Vq hn) rfl))) (Ya 0 rfl rfl rfl rfl) ⟨.same _ _ _ (Vo (fun _ => .bool _)), trivial⟩ rfl) (ex1 8 rfl (Vr (f := 7) (k := 4) (m := 1) (os := [⟨4, 1, Yv Yx x5, 0⟩]) (os' := [⟨4, 1, Yv Yx x5, 1⟩]) (v := .sl (n + 7) 0 0 (x5).length) (Vq hn) rfl rfl ⟨⟨_, rfl, rfl⟩, trivial⟩ (Xk (r := .sl (n + 7) 0 0 (x5).length) (os := [⟨4, 1, Yv Yx x5, 0⟩]) rfl Try.call55 (F_slices_Clone___bool_bool__ok h6 _ (Xi (Vq hn) rfl))) (Ya 0 rfl rfl rfl rfl) ⟨.same _ _ _ (Vo (fun _ => .bool _)), trivial⟩ rfl) ex0)) ?_
  refine Xu _ rfl rfl (Xo (VRd.ntl (Vc rfl tf_34_4 ts_32 (by decide))) (Xo (VRd.ntl (Vc rfl tf_34_4 ts_32 (by decide))) (Xo (VRd.ntl (Vc rfl tf_34_4 ts_32 (by decide))) (Xo (VRd.ntl (Vc rfl tf_34_4 ts_32 (by decide))) (Xo (VRd.ntl (Vc rfl tf_34_4 ts_32 (by decide))) (Xo (VRd.ntl (Vc rfl tf_34_4 ts_32 (by decide))) (Xo (VRd.ntl (Vc rfl tf_34_4 ts_32 (by decide))) (Xo (VRd.ntl (Vc rfl tf_34_4 ts_32 (by decide))) rx0)))))))) ?_
  refine Xu _ rfl rfl (Xo (VRd.ntl (Vf rfl (Vi (Vq hn) rfl) rfl ta_32 rfl)) (Xo (VRd.ntl (Vf rfl (Vi (Vq hn) rfl) rfl ta_32 rfl)) (Xo (VRd.ntl (Vf rfl (Vi (Vq hn) rfl) rfl ta_32 rfl)) (Xo (VRd.ntl (Vf rfl (Vi (Vq hn) rfl) rfl ta_32 rfl)) (Xo (VRd.ntl (Vf rfl (Vi (Vq hn) rfl) rfl ta_32 rfl)) (Xo (VRd.ntl (Vf rfl (Vi (Vq hn) rfl) rfl ta_32 rfl)) (Xo (VRd.ntl (Vf rfl (Vi (Vq hn) rfl) rfl ta_32 rfl)) (Xo (VRd.ntl (Vf rfl (Vi (Vq hn) rfl) rfl ta_32 rfl)) rx0)))))))) ?_
  refine Yu _ rfl rfl (ex1 7 rfl (Vr (f := 7) (k := 5) (m := 1) (os := [⟨4, 1, Yv Yx x7, 0⟩]) (os' := [⟨4, 1, Yv Yx x7, 1⟩]) (v := .sl (n + 7) 0 0 (x7).length) (Vq hn) rfl rfl ⟨⟨_, rfl, rfl⟩, trivial⟩ (Xk (r := .sl (n + 7) 0 0 (x7).length) (os := [⟨4, 1, Yv Yx x7, 0⟩]) rfl Try.call55 (F_slices_Clone___bool_bool__ok h8 _ (Xi (Vq hn) rfl))) (Ya 0 rfl rfl rfl rfl) ⟨.same _ _ _ (Vo (fun _ => .bool _)), trivial⟩ rfl) (ex1 9 rfl (Vr (f := 7) (k := 5) (m := 1) (os := [⟨4, 1, Yv Yx x7, 0⟩]) (os' := [⟨4, 1, Yv Yx x7, 1⟩]) (v := .sl (n + 7) 0 0 (x7).length) (Vq hn) rfl rfl ⟨⟨_, rfl, rfl⟩, trivial⟩ (Xk (r := .sl (n + 7) 0 0 (x7).length) (os := [⟨4, 1, Yv Yx x7, 0⟩]) rfl Try.call55 (F_slices_Clone___bool_bool__ok h8 _ (Xi (Vq hn) rfl))) (Ya 0 rfl rfl rfl rfl) ⟨.same _ _ _ (Vo (fun _ => .bool _)), trivial⟩ rfl) ex0)) ?_
  refine Xu _ rfl rfl (Xo (VRd.ntl (rd_build (vs := [(0, .int .i64 p0.Time), (1, .sl (n + 2) 1 0 (x1).length), (2, .sl (n + 3) 1 0 (x3).length), (3, .sl (n + 4) 1 0 (x5).length), (4, .sl (n + 5) 1 0 (x7).length)]) (ds := [.int .i64 p0.Time, .sl (n + 2) 1 0 (x1).length, .sl (n + 3) 1 0 (x3).length, .sl (n + 4) 1 0 (x5).length, .sl (n + 5) 1 0 (x7).length]) tz_34 rfl rfl tp_34 ⟨rfl, rfl, rfl, rfl, rfl, rfl, rfl, rfl, rfl, rfl, trivial⟩ (nt_all2 rfl) rfl)) (Xo (VRd.ntl (rd_build (vs := [(0, .int .i64 p0.Time), (1, .sl (n + 2) 1 0 (x1).length), (2, .sl (n + 3) 1 0 (x3).length), (3, .sl (n + 4) 1 0 (x5).length), (4, .sl (n + 5) 1 0 (x7).length)]) (ds := [.int .i64 p0.Time, .sl (n + 2) 1 0 (x1).length, .sl (n + 3) 1 0 (x3).length, .sl (n + 4) 1 0 (x5).length, .sl (n + 5) 1 0 (x7).length]) tz_34 rfl rfl tp_34 ⟨rfl, rfl, rfl, rfl, rfl, rfl, rfl, rfl, rfl, rfl, trivial⟩ (nt_all2 rfl) rfl)) rx0)) ?_
  refine Yu _ rfl rfl (ex1 2 rfl (Vr (f := 7) (k := 6) (m := 1) (os := [⟨34, 5, [.agg [.int .i64 0, .nils, .nils, .nils, .nils]], 0⟩]) (os' := [⟨34, 5, [.agg [.int .i64 0, .nils, .nils, .nils, .nils]], 1⟩]) (v := .ptr (n + 7) 0 0 0) (Vq hn) rfl rfl ⟨⟨_, rfl, rfl⟩, trivial⟩ (Xm (Vq hn) rfl tz_34 rfl rfl (Za _) rfl) (mv_ptr 0 rfl rfl rfl rfl) ⟨.same _ _ _ (Xr ⟨(Xz ⟨.int _ _, .nils, .nils, .nils, .nils, trivial⟩), trivial⟩), trivial⟩ rfl) (ex1 4 rfl (Vr (f := 7) (k := 6) (m := 1) (os := [⟨34, 5, [.agg [.int .i64 0, .nils, .nils, .nils, .nils]], 0⟩]) (os' := [⟨34, 5, [.agg [.int .i64 0, .nils, .nils, .nils, .nils]], 1⟩]) (v := .ptr (n + 7) 0 0 0) (Vq hn) rfl rfl ⟨⟨_, rfl, rfl⟩, trivial⟩ (Xm (Vq hn) rfl tz_34 rfl rfl (Za _) rfl) (mv_ptr 0 rfl rfl rfl rfl) ⟨.same _ _ _ (Xr ⟨(Xz ⟨.int _ _, .nils, .nils, .nils, .nils, trivial⟩), trivial⟩), trivial⟩ rfl) (ex1 6 rfl (Vr (f := 7) (k := 6) (m := 1) (os := [⟨34, 5, [.agg [.int .i64 0, .nils, .nils, .nils, .nils]], 0⟩]) (os' := [⟨34, 5, [.agg [.int .i64 0, .nils, .nils, .nils, .nils]], 1⟩]) (v := .ptr (n + 7) 0 0 0) (Vq hn) rfl rfl ⟨⟨_, rfl, rfl⟩, trivial⟩ (Xm (Vq hn) rfl tz_34 rfl rfl (Za _) rfl) (mv_ptr 0 rfl rfl rfl rfl) ⟨.same _ _ _ (Xr ⟨(Xz ⟨.int _ _, .nils, .nils, .nils, .nils, trivial⟩), trivial⟩), trivial⟩ rfl) (ex1 8 rfl (Vr (f := 7) (k := 6) (m := 1) (os := [⟨34, 5, [.agg [.int .i64 0, .nils, .nils, .nils, .nils]], 0⟩]) (os' := [⟨34, 5, [.agg [.int .i64 0, .nils, .nils, .nils, .nils]], 1⟩]) (v := .ptr (n + 7) 0 0 0) (Vq hn) rfl rfl ⟨⟨_, rfl, rfl⟩, trivial⟩ (Xm (Vq hn) rfl tz_34 rfl rfl (Za _) rfl) (mv_ptr 0 rfl rfl rfl rfl) ⟨.same _ _ _ (Xr ⟨(Xz ⟨.int _ _, .nils, .nils, .nils, .nils, trivial⟩), trivial⟩), trivial⟩ rfl) (ex1 9 rfl (Vr (f := 7) (k := 6) (m := 1) (os := [⟨34, 5, [.agg [.int .i64 0, .nils, .nils, .nils, .nils]], 0⟩]) (os' := [⟨34, 5, [.agg [.int .i64 0, .nils, .nils, .nils, .nils]], 1⟩]) (v := .ptr (n + 7) 0 0 0) (Vq hn) rfl rfl ⟨⟨_, rfl, rfl⟩, trivial⟩ (Xm (Vq hn) rfl tz_34 rfl rfl (Za _) rfl) (mv_ptr 0 rfl rfl rfl rfl) ⟨.same _ _ _ (Xr ⟨(Xz ⟨.int _ _, .nils, .nils, .nils, .nils, trivial⟩), trivial⟩), trivial⟩ rfl) ex0))))) ?_
  refine Yu _ rfl rfl (ex1 10 rfl (Xn (p := .agg [.int .i64 p0.Time, .sl (n + 2) 1 0 (x1).length, .sl (n + 3) 1 0 (x3).length, .sl (n + 4) 1 0 (x5).length, .sl (n + 5) 1 0 (x7).length]) (e' := .agg [.int .i64 p0.Time, .sl (n + 2) 1 0 (x1).length, .sl (n + 3) 1 0 (x3).length, .sl (n + 4) 1 0 (x5).length, .sl (n + 5) 1 0 (x7).length]) rfl (Vi (Vq hn) rfl) rfl rfl ts_34 rfl (Yt rfl) rfl (Yz rfl) rfl (Yn (Vq hn) rfl)) ex0) ?_
  refine dopx_nil ?_
  refine Vg ?_
  refine Vd ?_
  obtain ⟨x9, h10, hF⟩ := Ym hF
  refine Va (rd_mvF rfl) rfl ?_
  refine Vk (vef_callS (ps := [((n + 6), ⟨34, 5, [.agg [.int .i64 x9.Time, .sl (n + 2) 1 0 (x1).length, .sl (n + 3) 1 0 (x3).length, .sl (n + 4) 1 0 (x5).length, .sl (n + 5) 1 0 (x7).length]], 1⟩), ((n + 2), ⟨3, 1, Yv (Yw .i64) x9.States, 1⟩), ((n + 3), ⟨3, 1, Yv (Yw .i64) x9.Since, 1⟩), ((n + 4), ⟨4, 1, Yv Yx x9.Pulled, 1⟩), ((n + 5), ⟨4, 1, Yv Yx x9.Held, 1⟩), (q0, ⟨3, 1, [.int .i64 pc10], w0⟩)]) (r := .tup []) (os := []) (low1 := (setL low0 [(q0, ⟨3, 1, [.int .i64 pc10], w0⟩)])) (loc1 := [⟨34, 5, [.agg [.int .i64 p0.Time, .vs 1 (Yv (Yw .i64) p0.States), .vs 1 (Yv (Yw .i64) p0.Since), .vs 1 (Yv Yx p0.Pulled), .vs 1 (Yv Yx p0.Held)]], 0⟩, ⟨34, 5, [.agg [.int .i64 0, .nils, .nils, .nils, .nils]], 0⟩, ⟨3, 1, Yv (Yw .i64) x9.States, 1⟩, ⟨3, 1, Yv (Yw .i64) x9.Since, 1⟩, ⟨4, 1, Yv Yx x9.Pulled, 1⟩, ⟨4, 1, Yv Yx x9.Held, 1⟩, ⟨34, 5, [.agg [.int .i64 x9.Time, .sl (n + 2) 1 0 (x1).length, .sl (n + 3) 1 0 (x3).length, .sl (n + 4) 1 0 (x5).length, .sl (n + 5) 1 0 (x7).length]], 1⟩]) (loc2 := [⟨34, 5, [.agg [.int .i64 p0.Time, .vs 1 (Yv (Yw .i64) p0.States), .vs 1 (Yv (Yw .i64) p0.Since), .vs 1 (Yv Yx p0.Pulled), .vs 1 (Yv Yx p0.Held)]], 0⟩, ⟨34, 5, [.agg [.int .i64 0, .nils, .nils, .nils, .nils]], 0⟩, ⟨3, 1, Yv (Yw .i64) x9.States, 1⟩, ⟨3, 1, Yv (Yw .i64) x9.Since, 1⟩, ⟨4, 1, Yv Yx x9.Pulled, 1⟩, ⟨4, 1, Yv Yx x9.Held, 1⟩, ⟨34, 5, [.agg [.int .i64 x9.Time, .sl (n + 2) 1 0 (x1).length, .sl (n + 3) 1 0 (x3).length, .sl (n + 4) 1 0 (x5).length, .sl (n + 5) 1 0 (x7).length]], 1⟩]) rfl Try.call32 (F_belts_Start_1_ok h10 (nd1 (na1 (Yp rfl) (na1 (Yp rfl) (na1 (Yp rfl) (na1 (Yp rfl) (na1 (Yr hq0) na0))))) (nd1 (na1 (Yp rfl) (na1 (Yp rfl) (na1 (Yp rfl) (na1 (Yr hq0) na0)))) (nd1 (na1 (Yp rfl) (na1 (Yp rfl) (na1 (Yr hq0) na0))) (nd1 (na1 (Yp rfl) (na1 (Yr hq0) na0)) (nd1 (na1 (Yr hq0) na0) (nd1 na0 nd0)))))) (rfl : (x1).length = _) (rfl : (x3).length = _) (rfl : (x5).length = _) (rfl : (x7).length = _) (get_N (Vq hn) rfl) (get_N (Vq hn) rfl) (get_N (Vq hn) rfl) (get_N (Vq hn) rfl) (get_N (Vq hn) rfl) (get_B hB rfl 0 rfl) (Xi (Vq hn) rfl)) (Yi (loc2 := [⟨34, 5, [.agg [.int .i64 p0.Time, .vs 1 (Yv (Yw .i64) p0.States), .vs 1 (Yv (Yw .i64) p0.Since), .vs 1 (Yv Yx p0.Pulled), .vs 1 (Yv Yx p0.Held)]], 0⟩, ⟨34, 5, [.agg [.int .i64 0, .nils, .nils, .nils, .nils]], 0⟩, ⟨3, 1, Yv (Yw .i64) x1, 1⟩, ⟨3, 1, Yv (Yw .i64) x3, 1⟩, ⟨4, 1, Yv Yx x5, 1⟩, ⟨4, 1, Yv Yx x7, 1⟩, ⟨34, 5, [.agg [.int .i64 x9.Time, .sl (n + 2) 1 0 (x1).length, .sl (n + 3) 1 0 (x3).length, .sl (n + 4) 1 0 (x5).length, .sl (n + 5) 1 0 (x7).length]], 1⟩]) (Vq hn) 6 rfl (Yi (loc2 := [⟨34, 5, [.agg [.int .i64 p0.Time, .vs 1 (Yv (Yw .i64) p0.States), .vs 1 (Yv (Yw .i64) p0.Since), .vs 1 (Yv Yx p0.Pulled), .vs 1 (Yv Yx p0.Held)]], 0⟩, ⟨34, 5, [.agg [.int .i64 0, .nils, .nils, .nils, .nils]], 0⟩, ⟨3, 1, Yv (Yw .i64) x9.States, 1⟩, ⟨3, 1, Yv (Yw .i64) x3, 1⟩, ⟨4, 1, Yv Yx x5, 1⟩, ⟨4, 1, Yv Yx x7, 1⟩, ⟨34, 5, [.agg [.int .i64 x9.Time, .sl (n + 2) 1 0 (x1).length, .sl (n + 3) 1 0 (x3).length, .sl (n + 4) 1 0 (x5).length, .sl (n + 5) 1 0 (x7).length]], 1⟩]) (Vq hn) 2 rfl (Yi (loc2 := [⟨34, 5, [.agg [.int .i64 p0.Time, .vs 1 (Yv (Yw .i64) p0.States), .vs 1 (Yv (Yw .i64) p0.Since), .vs 1 (Yv Yx p0.Pulled), .vs 1 (Yv Yx p0.Held)]], 0⟩, ⟨34, 5, [.agg [.int .i64 0, .nils, .nils, .nils, .nils]], 0⟩, ⟨3, 1, Yv (Yw .i64) x9.States, 1⟩, ⟨3, 1, Yv (Yw .i64) x9.Since, 1⟩, ⟨4, 1, Yv Yx x5, 1⟩, ⟨4, 1, Yv Yx x7, 1⟩, ⟨34, 5, [.agg [.int .i64 x9.Time, .sl (n + 2) 1 0 (x1).length, .sl (n + 3) 1 0 (x3).length, .sl (n + 4) 1 0 (x5).length, .sl (n + 5) 1 0 (x7).length]], 1⟩]) (Vq hn) 3 rfl (Yi (loc2 := [⟨34, 5, [.agg [.int .i64 p0.Time, .vs 1 (Yv (Yw .i64) p0.States), .vs 1 (Yv (Yw .i64) p0.Since), .vs 1 (Yv Yx p0.Pulled), .vs 1 (Yv Yx p0.Held)]], 0⟩, ⟨34, 5, [.agg [.int .i64 0, .nils, .nils, .nils, .nils]], 0⟩, ⟨3, 1, Yv (Yw .i64) x9.States, 1⟩, ⟨3, 1, Yv (Yw .i64) x9.Since, 1⟩, ⟨4, 1, Yv Yx x9.Pulled, 1⟩, ⟨4, 1, Yv Yx x7, 1⟩, ⟨34, 5, [.agg [.int .i64 x9.Time, .sl (n + 2) 1 0 (x1).length, .sl (n + 3) 1 0 (x3).length, .sl (n + 4) 1 0 (x5).length, .sl (n + 5) 1 0 (x7).length]], 1⟩]) (Vq hn) 4 rfl (Yi (loc2 := [⟨34, 5, [.agg [.int .i64 p0.Time, .vs 1 (Yv (Yw .i64) p0.States), .vs 1 (Yv (Yw .i64) p0.Since), .vs 1 (Yv Yx p0.Pulled), .vs 1 (Yv Yx p0.Held)]], 0⟩, ⟨34, 5, [.agg [.int .i64 0, .nils, .nils, .nils, .nils]], 0⟩, ⟨3, 1, Yv (Yw .i64) x9.States, 1⟩, ⟨3, 1, Yv (Yw .i64) x9.Since, 1⟩, ⟨4, 1, Yv Yx x9.Pulled, 1⟩, ⟨4, 1, Yv Yx x9.Held, 1⟩, ⟨34, 5, [.agg [.int .i64 x9.Time, .sl (n + 2) 1 0 (x1).length, .sl (n + 3) 1 0 (x3).length, .sl (n + 4) 1 0 (x5).length, .sl (n + 5) 1 0 (x7).length]], 1⟩]) (Vq hn) 5 rfl (sets_B (ps0' := [(q0, ⟨3, 1, [.int .i64 pc10], w0⟩)]) hB rfl 0 rfl (ltObjN hn ⟨.int _ _, trivial⟩) rfl sets_nil)))))) rfl) rfl ?_
  refine Ve ?_
  refine Vg ?_
  refine Vd ?_
  refine Va (Xs (ds := [.int .i64 x9.Time, .sl (n + 2) 1 0 (x1).length, .sl (n + 3) 1 0 (x3).length, .sl (n + 4) 1 0 (x5).length, .sl (n + 5) 1 0 (x7).length]) rfl (Vi (Vq hn) rfl) rfl ta_34 ts_34 rfl rfl rfl) rfl ?_
  refine Vk (Xn (p := .agg [.int .i64 x9.Time, .sl (n + 2) 1 0 (x1).length, .sl (n + 3) 1 0 (x3).length, .sl (n + 4) 1 0 (x5).length, .sl (n + 5) 1 0 (x7).length]) (e' := .agg [.int .i64 x9.Time, .sl (n + 2) 1 0 (x1).length, .sl (n + 3) 1 0 (x3).length, .sl (n + 4) 1 0 (x5).length, .sl (n + 5) 1 0 (x7).length]) rfl (Vi (Vq hn) rfl) rfl rfl ts_34 rfl (Yt rfl) rfl (Yz rfl) rfl (Yn (Vq hn) rfl)) rfl ?_
  refine Ve ?_
  refine Vx ?_
  obtain rfl := Yy hF
  refine fnR ?_
  refine Weak.trans (Xy (E' := [(4, .ptr (n + 1) 0 0 0)]) (loc1 := [⟨34, 5, [.agg [.int .i64 p0.Time, .vs 1 (Yv (Yw .i64) p0.States), .vs 1 (Yv (Yw .i64) p0.Since), .vs 1 (Yv Yx p0.Pulled), .vs 1 (Yv Yx p0.Held)]], 0⟩, ⟨34, 5, [.agg [.int .i64 x9.Time, .sl (n + 2) 1 0 (x1).length, .sl (n + 3) 1 0 (x3).length, .sl (n + 4) 1 0 (x5).length, .vs 1 (Yv Yx x9.Held)]], 0⟩, ⟨3, 1, Yv (Yw .i64) x9.States, 1⟩, ⟨3, 1, Yv (Yw .i64) x9.Since, 1⟩, ⟨4, 1, Yv Yx x9.Pulled, 1⟩, ⟨4, 1, [], 1 + 1⟩, ⟨34, 5, [.agg [.int .i64 x9.Time, .sl (n + 2) 1 0 (x1).length, .sl (n + 3) 1 0 (x3).length, .sl (n + 4) 1 0 (x5).length, .vs 1 (Yv Yx x9.Held)]], 1⟩]) (Vq hn) 5 rfl (lt_map (fun _ => .bool _)) ⟨Vp rfl, trivial⟩ ⟨.refl _, cvo_agg ⟨Vp rfl, Vp rfl, Vp rfl, Vp rfl, cv_sl rfl rfl rfl (Yj (F_belts_Start_1_len h10 (rfl : (x1).length = _) (rfl : (x3).length = _) (rfl : (x5).length = _) (rfl : (x7).length = _)).2.2.2.1), trivial⟩, .refl _, .refl _, .refl _, .refl _, cvo_agg ⟨Vp rfl, Vp rfl, Vp rfl, Vp rfl, cv_sl rfl rfl rfl (Yj (F_belts_Start_1_len h10 (rfl : (x1).length = _) (rfl : (x3).length = _) (rfl : (x5).length = _) (rfl : (x7).length = _)).2.2.2.1), trivial⟩, trivial⟩) ?_
  exact Vu (Vq hn) [(2, 1), (3, 1), (4, 1), (1, 0)] (by decide) ⟨rn_ptr 3 1 rfl rfl, trivial⟩ ⟨⟨_, rfl, rfl, .same _ _ _ _ (Vo (fun _ => .int _ _))⟩, ⟨_, rfl, rfl, .same _ _ _ _ (Vo (fun _ => .int _ _))⟩, ⟨_, rfl, rfl, .same _ _ _ _ (Vo (fun _ => .bool _))⟩, ⟨_, rfl, rfl, .agg _ _ _ _ _ ⟨Vy rfl (.int _ _), rn_sl 0 2 rfl (congrArg (PV.sl _ _ 0) (F_belts_Start_1_len h10 (rfl : (x1).length = _) (rfl : (x3).length = _) (rfl : (x5).length = _) (rfl : (x7).length = _)).1), rn_sl 1 3 rfl (congrArg (PV.sl _ _ 0) (F_belts_Start_1_len h10 (rfl : (x1).length = _) (rfl : (x3).length = _) (rfl : (x5).length = _) (rfl : (x7).length = _)).2.1), rn_sl 2 4 rfl (congrArg (PV.sl _ _ 0) (F_belts_Start_1_len h10 (rfl : (x1).length = _) (rfl : (x3).length = _) (rfl : (x5).length = _) (rfl : (x7).length = _)).2.2.1), Vy rfl (.vs _ _), trivial⟩⟩, trivial⟩
 ·rintro _ _ _ _ ⟨he, hw⟩
  refine ⟨_, _, _, hw, ?_⟩
  exact bodyQ_some (Vq hn) 3 rfl (Yz rfl) he [.agg [.int .i64 r.Time, .sl (n + 0) 0 0 (r.States).length, .sl (n + 1) 0 0 (r.Since).length, .sl (n + 2) 0 0 (r.Pulled).length, .vs 1 (Yv Yx r.Held)]] ⟨Xs rfl (Vi (Vq hn) rfl) rfl ta_34 ts_34 rfl rfl rfl, trivial⟩ ((Xz ⟨.int _ _, .sl _ _ _ _ (lt_kk rfl), .sl _ _ _ _ (lt_kk rfl), .sl _ _ _ _ (lt_kk rfl), .vs _ _, trivial⟩)) ⟨Vo (fun _ => .int _ _), Vo (fun _ => .int _ _), Vo (fun _ => .bool _), trivial⟩ ⟨rfl, rfl⟩

theorem F_belts_done__belts_Start_1_ok {p0 : T_Line} {pc10 : Int} {r : T_Line} (hF : F_belts_done__belts_Start_1 p0 pc10 = some r) {low : List AObj} {q0 w0 : Nat} (hnd : [q0].Nodup) (hq0 : low[q0]? = some ⟨3, 1, [.int .i64 pc10], w0⟩) {n : Nat} (hn : low.length = n) :
    Yd Try.prog 31 [.agg [.int .i64 p0.Time, .vs 1 (Yv (Yw .i64) p0.States), .vs 1 (Yv (Yw .i64) p0.Since), .vs 1 (Yv Yx p0.Pulled), .vs 1 (Yv Yx p0.Held)], .fn 32 [] [.ptr q0 w0 0 0]] low fun x low' => x = .agg [.int .i64 r.Time, .sl (n + 0) 0 0 (r.States).length, .sl (n + 1) 0 0 (r.Since).length, .sl (n + 2) 0 0 (r.Pulled).length, .vs 1 (Yv Yx r.Held)] ∧ low' = setL low [(q0, ⟨3, 1, [.int .i64 pc10], w0⟩)] ++ [⟨3, 1, Yv (Yw .i64) r.States, 0⟩, ⟨3, 1, Yv (Yw .i64) r.Since, 0⟩, ⟨4, 1, Yv Yx r.Pulled, 0⟩] := by
  obtain ⟨h1, h2⟩ := bor_start (ps := [(q0, ⟨3, 1, [.int .i64 pc10], w0⟩)]) hnd (borC hq0 bor0)
  exact vcalls_low h1 (F_belts_done__belts_Start_1_ok0 hF h2 hn)

theorem F_belts_Start_ok {p0 : List T_Belt} {p1 : T_Line} {p2 : Int} {r : T_Line × Int} (hF : F_belts_Start p0 p1 p2 = some r) (low : List AObj) {n : Nat} (hn : low.length = n) :
    Yd Try.prog 13 [.vs 2 (Yv T_Belt.enc p0), .agg [.int .i64 p1.Time, .vs 1 (Yv (Yw .i64) p1.States), .vs 1 (Yv (Yw .i64) p1.Since), .vs 1 (Yv Yx p1.Pulled), .vs 1 (Yv Yx p1.Held)], .int .i64 p2] low fun x low' => x = .tup [.agg [.int .i64 r.1.Time, .vs 1 (Yv (Yw .i64) r.1.States), .vs 1 (Yv (Yw .i64) r.1.Since), .vs 1 (Yv Yx r.1.Pulled), .vs 1 (Yv Yx r.1.Held)], .int .i64 r.2] ∧ low' = low ++ [] := by
 refine Vw (nt := 60) (rs := [.cell 6 34, .tmp 7]) Try.func13 rfl rfl (Yz rfl) rfl ?_
 refine Vt (Q' := FnE (fun E' lw lc => Xv E' lw lc [(6, .ptr (n + 0) 0 0 0), (7, .int .i64 r.2)] low [⟨34, 5, [.agg [.int .i64 r.1.Time, .vs 1 (Yv (Yw .i64) r.1.States), .vs 1 (Yv (Yw .i64) r.1.Since), .vs 1 (Yv Yx r.1.Pulled), .vs 1 (Yv Yx r.1.Held)]], 0⟩])) ?_ ?_
 ·unfold F_belts_Start at hF
  refine Vg ?_
  refine Vd ?_
  refine Vk (vef_boxN hn rfl (v := .agg [.int .i64 p1.Time, .vs 1 (Yv (Yw .i64) p1.States), .vs 1 (Yv (Yw .i64) p1.Since), .vs 1 (Yv Yx p1.Pulled), .vs 1 (Yv Yx p1.Held)]) rfl rfl (Za _) rfl rfl) rfl ?_
  refine Vk (vef_boxN hn rfl (v := .int .i64 p2) rfl rfl (Za _) rfl rfl) rfl ?_
  refine Vk (Xm hn rfl tz_34 rfl rfl (Za _) rfl) rfl ?_
  refine Va (Xa rfl) rfl ?_
  refine Ve ?_
  refine Vg ?_
  refine Vg ?_
  refine Vd ?_
  obtain ⟨x1, h2, hF⟩ := Ym hF
  refine Va (Xg rfl) rfl ?_
  refine Va (Xs (ds := [.int .i64 p1.Time, .vs 1 (Yv (Yw .i64) p1.States), .vs 1 (Yv (Yw .i64) p1.Since), .vs 1 (Yv Yx p1.Pulled), .vs 1 (Yv Yx p1.Held)]) rfl (Vi hn rfl) rfl ta_34 ts_34 rfl rfl rfl) rfl ?_
  refine Va (Vf rfl (Vi hn rfl) rfl ta_3 rfl) rfl ?_
  refine Vk (Xd rfl Try.call30 (F_belts_checked_ok h2 _)) rfl ?_
  refine Va (Xa rfl) rfl ?_
  refine Ve ?_
  refine Vg ?_
  refine Vd ?_
  refine Va (Vh rfl) rfl ?_
  refine Va (Ys rfl rfl) rfl ?_
  refine Ve ?_
  refine Xc rfl (fun c3 => ?_) (fun c3 => ?_)
  ·have hF := Yg c3 hF
   refine Vg ?_
   refine Vd ?_
   refine Va (Xs (ds := [.int .i64 p1.Time, .vs 1 (Yv (Yw .i64) p1.States), .vs 1 (Yv (Yw .i64) p1.Since), .vs 1 (Yv Yx p1.Pulled), .vs 1 (Yv Yx p1.Held)]) rfl (Vi hn rfl) rfl ta_34 ts_34 rfl rfl rfl) rfl ?_
   refine Va (Vh rfl) rfl ?_
   refine Vk (Xn (p := .agg [.int .i64 p1.Time, .vs 1 (Yv (Yw .i64) p1.States), .vs 1 (Yv (Yw .i64) p1.Since), .vs 1 (Yv Yx p1.Pulled), .vs 1 (Yv Yx p1.Held)]) (e' := .agg [.int .i64 p1.Time, .vs 1 (Yv (Yw .i64) p1.States), .vs 1 (Yv (Yw .i64) p1.Since), .vs 1 (Yv Yx p1.Pulled), .vs 1 (Yv Yx p1.Held)]) rfl (Vi hn rfl) rfl rfl ts_34 rfl (Yt rfl) rfl (Yz rfl) rfl (Yn hn rfl)) rfl ?_
   refine Va (Xa rfl) rfl ?_
   refine Ve ?_
   refine Vx ?_
   obtain rfl := Yy hF
   refine fnR ?_
   exact Vu hn [(2, 0)] (by decide) ⟨rn_ptr 0 2 rfl rfl, Vy rfl (.int _ _), trivial⟩ ⟨⟨_, rfl, rfl, .same _ _ _ _ (Xr ⟨Xz ⟨.int _ _, .vs _ _, .vs _ _, .vs _ _, .vs _ _, trivial⟩, trivial⟩)⟩, trivial⟩
  ·have hF := Yh c3 hF
   refine Xh ?_
   refine Vg ?_
   refine Vd ?_
   obtain ⟨x4, h5, hF⟩ := Ym hF
   refine Va (Xg rfl) rfl ?_
   refine Va (Vf rfl (Vi hn rfl) rfl ta_3 rfl) rfl ?_
   refine Va (Xb (Yb rfl rfl h5 te_27 ts_31) (v' := .vptr [.int .i64 x4.Onto, .int .i64 x4.Warn] 0) rfl) rfl ?_
   refine Va (rd_fieldVaddr rfl tf_31_0 ts_3 (by decide)) rfl ?_
   refine Va (Vz rfl ta_3 rfl) rfl ?_
   refine Va (Xa rfl) rfl ?_
   refine Ve ?_
   refine Vg ?_
   refine Xt ?_
   refine Vg ?_
   refine Vd ?_
   obtain ⟨x6, h7, hF⟩ := Ym hF
   refine Va (Vc rfl tf_34_1 ts_22 (by decide)) rfl ?_
   refine Va (Vf rfl (Vi hn rfl) rfl ta_22 rfl) rfl ?_
   refine Va (Vf rfl (Vi hn rfl) rfl ta_3 rfl) rfl ?_
   refine Va (Xb (Yb rfl rfl h7 te_22 ts_3) (v' := .vptr [.int .i64 x6] 0) rfl) rfl ?_
   refine Va (Vz rfl ta_3 rfl) rfl ?_
   refine Va (Ys rfl rfl) rfl ?_
   refine Va (Xj rfl) rfl ?_
   refine Ve ?_
   refine Xc rfl (fun c8 => ?_) (fun c8 => ?_)
   ·have hF := Yg c8 hF
    refine Vg ?_
    refine Vd ?_
    refine Va (Xs (ds := [.int .i64 p1.Time, .vs 1 (Yv (Yw .i64) p1.States), .vs 1 (Yv (Yw .i64) p1.Since), .vs 1 (Yv Yx p1.Pulled), .vs 1 (Yv Yx p1.Held)]) rfl (Vi hn rfl) rfl ta_34 ts_34 rfl rfl rfl) rfl ?_
    refine Vk (Xn (p := .agg [.int .i64 p1.Time, .vs 1 (Yv (Yw .i64) p1.States), .vs 1 (Yv (Yw .i64) p1.Since), .vs 1 (Yv Yx p1.Pulled), .vs 1 (Yv Yx p1.Held)]) (e' := .agg [.int .i64 p1.Time, .vs 1 (Yv (Yw .i64) p1.States), .vs 1 (Yv (Yw .i64) p1.Since), .vs 1 (Yv Yx p1.Pulled), .vs 1 (Yv Yx p1.Held)]) rfl (Vi hn rfl) rfl rfl ts_34 rfl (Yt rfl) rfl (Yz rfl) rfl (Yn hn rfl)) rfl ?_
    refine Va (Xa rfl) rfl ?_
    refine Ve ?_
    refine Vx ?_
    obtain rfl := Yy hF
    refine fnR ?_
    exact Vu hn [(2, 0)] (by decide) ⟨rn_ptr 0 2 rfl rfl, Vy rfl (.int _ _), trivial⟩ ⟨⟨_, rfl, rfl, .same _ _ _ _ (Xr ⟨Xz ⟨.int _ _, .vs _ _, .vs _ _, .vs _ _, .vs _ _, trivial⟩, trivial⟩)⟩, trivial⟩
   ·have hF := Yh c8 hF
    refine Vg ?_
    obtain ⟨o9, ho9, hF⟩ := Ym hF
    refine Vt (Q' := (fun o9 => OnlyE .normal (fun E' lw lc => Xv E' lw lc [(4, .ptr (n + 0) 0 0 0), (5, .ptr (n + 1) 0 0 0), (6, .ptr (n + 2) 0 0 0), (9, .int .i64 x4.Onto), (31, .bool o9)] low [⟨34, 5, [.agg [.int .i64 p1.Time, .vs 1 (Yv (Yw .i64) p1.States), .vs 1 (Yv (Yw .i64) p1.Since), .vs 1 (Yv Yx p1.Pulled), .vs 1 (Yv Yx p1.Held)]], 0⟩, ⟨3, 1, [.int .i64 p2], 0⟩, ⟨34, 5, [.agg [.int .i64 0, .nils, .nils, .nils, .nils]], 0⟩])) o9) ?_ ?_
    ·replace hF := ho9
     refine Vd ?_
     obtain ⟨x10, h11, hF⟩ := Ym hF
     rcases Zb x10 with c12 | c12
     ·have hF := Yg c12 hF
      refine Va (Vc rfl tf_34_3 ts_32 (by decide)) rfl ?_
      refine Va (Vf rfl (Vi hn rfl) rfl ta_32 rfl) rfl ?_
      refine Va (Vf rfl (Vi hn rfl) rfl ta_3 rfl) rfl ?_
      refine Va (Xb (Yb rfl rfl h11 te_32 ts_4) (v' := .vptr [.bool x10] 0) rfl) rfl ?_
      refine Va (Vz rfl ta_4 rfl) rfl ?_
      refine Va (Vj rfl) rfl ?_
      refine Vb rfl rfl (neT c12) rfl ?_
      refine Vb rfl rfl (neT c12) rfl ?_
      refine Vb rfl rfl (neT c12) rfl ?_
      refine Vb rfl rfl (neT c12) rfl ?_
      refine Vb rfl rfl (neT c12) rfl ?_
      refine Va (Vm (congrArg Yx c12) rfl) rfl ?_
      refine Va (Xj rfl) rfl ?_
      refine Ve ?_
      obtain rfl := Yy hF
      refine Xq ?_
      exact Vn ⟨rfl, rfl, rfl, rfl, rfl, trivial⟩
     ·have hF := Yh c12 hF
      obtain ⟨x13, h14, hF⟩ := Ym hF
      refine Va (Vc rfl tf_34_3 ts_32 (by decide)) rfl ?_
      refine Va (Vf rfl (Vi hn rfl) rfl ta_32 rfl) rfl ?_
      refine Va (Vf rfl (Vi hn rfl) rfl ta_3 rfl) rfl ?_
      refine Va (Xb (Yb rfl rfl h11 te_32 ts_4) (v' := .vptr [.bool x10] 0) rfl) rfl ?_
      refine Va (Vz rfl ta_4 rfl) rfl ?_
      refine Va (Vj rfl) rfl ?_
      refine Vv rfl rfl c12 ?_
      refine Va (Vc rfl tf_34_4 ts_32 (by decide)) rfl ?_
      refine Vv rfl rfl c12 ?_
      refine Va (Vf rfl (Vi hn rfl) rfl ta_32 rfl) rfl ?_
      refine Vv rfl rfl c12 ?_
      refine Va (Vf rfl (Vi hn rfl) rfl ta_3 rfl) rfl ?_
      refine Vv rfl rfl c12 ?_
      refine Va (Xb (Yb rfl rfl h14 te_32 ts_4) (v' := .vptr [.bool x13] 0) rfl) rfl ?_
      refine Vv rfl rfl c12 ?_
      refine Va (Vz rfl ta_4 rfl) rfl ?_
      refine Va (Vl (congrArg Yx c12) rfl) rfl ?_
      refine Va (Xj rfl) rfl ?_
      refine Ve ?_
      obtain rfl := Yy hF
      refine Xq ?_
      exact Vn ⟨rfl, rfl, rfl, rfl, rfl, trivial⟩
    ·rintro _ _ _ _ ⟨rfl, hw⟩
     refine ⟨_, _, _, hw, ?_⟩
     refine Xc rfl (fun c15 => ?_) (fun c15 => ?_)
     ·have hF := Yg c15 hF
      refine Vg ?_
      refine Vd ?_
      refine Va (Xs (ds := [.int .i64 p1.Time, .vs 1 (Yv (Yw .i64) p1.States), .vs 1 (Yv (Yw .i64) p1.Since), .vs 1 (Yv Yx p1.Pulled), .vs 1 (Yv Yx p1.Held)]) rfl (Vi hn rfl) rfl ta_34 ts_34 rfl rfl rfl) rfl ?_
      refine Vk (Xn (p := .agg [.int .i64 p1.Time, .vs 1 (Yv (Yw .i64) p1.States), .vs 1 (Yv (Yw .i64) p1.Since), .vs 1 (Yv Yx p1.Pulled), .vs 1 (Yv Yx p1.Held)]) (e' := .agg [.int .i64 p1.Time, .vs 1 (Yv (Yw .i64) p1.States), .vs 1 (Yv (Yw .i64) p1.Since), .vs 1 (Yv Yx p1.Pulled), .vs 1 (Yv Yx p1.Held)]) rfl (Vi hn rfl) rfl rfl ts_34 rfl (Yt rfl) rfl (Yz rfl) rfl (Yn hn rfl)) rfl ?_
      refine Va (Xa rfl) rfl ?_
      refine Ve ?_
      refine Vx ?_
      obtain rfl := Yy hF
      refine fnR ?_
      exact Vu hn [(2, 0)] (by decide) ⟨rn_ptr 0 2 rfl rfl, Vy rfl (.int _ _), trivial⟩ ⟨⟨_, rfl, rfl, .same _ _ _ _ (Xr ⟨Xz ⟨.int _ _, .vs _ _, .vs _ _, .vs _ _, .vs _ _, trivial⟩, trivial⟩)⟩, trivial⟩
     ·have hF := Yh c15 hF
      refine Vg ?_
      obtain ⟨o16, ho16, hF⟩ := Ym hF
      refine Vt (Q' := (fun o16 => OnlyE .normal (fun E' lw lc => Xv E' lw lc [(4, .ptr (n + 0) 0 0 0), (5, .ptr (n + 1) 0 0 0), (6, .ptr (n + 2) 0 0 0), (45, .bool o16)] low [⟨34, 5, [.agg [.int .i64 p1.Time, .vs 1 (Yv (Yw .i64) p1.States), .vs 1 (Yv (Yw .i64) p1.Since), .vs 1 (Yv Yx p1.Pulled), .vs 1 (Yv Yx p1.Held)]], 0⟩, ⟨3, 1, [.int .i64 p2], 0⟩, ⟨34, 5, [.agg [.int .i64 0, .nils, .nils, .nils, .nils]], 0⟩])) o16) ?_ ?_
      ·replace hF := ho16
       refine Vd ?_
       rcases Zb (decide (0 ≤ x4.Onto)) with c17 | c17
       ·have hF := Yg c17 hF
        obtain ⟨x18, h19, hF⟩ := Ym hF
        refine Va (Vh rfl) rfl ?_
        refine Va (rd_geq rfl rfl) rfl ?_
        refine Va (Vj rfl) rfl ?_
        refine Vv rfl rfl c17 ?_
        refine Va (Vc rfl tf_34_1 ts_22 (by decide)) rfl ?_
        refine Vv rfl rfl c17 ?_
        refine Va (Vf rfl (Vi hn rfl) rfl ta_22 rfl) rfl ?_
        refine Vv rfl rfl c17 ?_
        refine Va (Vh rfl) rfl ?_
        refine Vv rfl rfl c17 ?_
        refine Va (Xb (Yb rfl rfl h19 te_22 ts_3) (v' := .vptr [.int .i64 x18] 0) rfl) rfl ?_
        refine Vv rfl rfl c17 ?_
        refine Va (Vz rfl ta_3 rfl) rfl ?_
        refine Vv rfl rfl c17 ?_
        refine Va (Ys rfl rfl) rfl ?_
        refine Va (Vm (congrArg Yx c17) rfl) rfl ?_
        refine Va (Xj rfl) rfl ?_
        refine Ve ?_
        obtain rfl := Yy hF
        refine Xq ?_
        exact Vn ⟨rfl, rfl, rfl, rfl, trivial⟩
       ·have hF := Yh c17 hF
        refine Va (Vh rfl) rfl ?_
        refine Va (rd_geq rfl rfl) rfl ?_
        refine Va (Vj rfl) rfl ?_
        refine Vb rfl rfl (neF c17) rfl ?_
        refine Vb rfl rfl (neF c17) rfl ?_
        refine Vb rfl rfl (neF c17) rfl ?_
        refine Vb rfl rfl (neF c17) rfl ?_
        refine Vb rfl rfl (neF c17) rfl ?_
        refine Vb rfl rfl (neF c17) rfl ?_
        refine Va (Vl (congrArg Yx c17) rfl) rfl ?_
        refine Va (Xj rfl) rfl ?_
        refine Ve ?_
        obtain rfl := Yy hF
        refine Xq ?_
        exact Vn ⟨rfl, rfl, rfl, rfl, trivial⟩
      ·rintro _ _ _ _ ⟨rfl, hw⟩
       refine ⟨_, _, _, hw, ?_⟩
       refine Xc rfl (fun c20 => ?_) (fun c20 => ?_)
       ·have hF := Yg c20 hF
        refine Vg ?_
        refine Vd ?_
        refine Va (Xs (ds := [.int .i64 p1.Time, .vs 1 (Yv (Yw .i64) p1.States), .vs 1 (Yv (Yw .i64) p1.Since), .vs 1 (Yv Yx p1.Pulled), .vs 1 (Yv Yx p1.Held)]) rfl (Vi hn rfl) rfl ta_34 ts_34 rfl rfl rfl) rfl ?_
        refine Vk (Xn (p := .agg [.int .i64 p1.Time, .vs 1 (Yv (Yw .i64) p1.States), .vs 1 (Yv (Yw .i64) p1.Since), .vs 1 (Yv Yx p1.Pulled), .vs 1 (Yv Yx p1.Held)]) (e' := .agg [.int .i64 p1.Time, .vs 1 (Yv (Yw .i64) p1.States), .vs 1 (Yv (Yw .i64) p1.Since), .vs 1 (Yv Yx p1.Pulled), .vs 1 (Yv Yx p1.Held)]) rfl (Vi hn rfl) rfl rfl ts_34 rfl (Yt rfl) rfl (Yz rfl) rfl (Yn hn rfl)) rfl ?_
        refine Va (Xa rfl) rfl ?_
        refine Ve ?_
        refine Vx ?_
        obtain rfl := Yy hF
        refine fnR ?_
        exact Vu hn [(2, 0)] (by decide) ⟨rn_ptr 0 2 rfl rfl, Vy rfl (.int _ _), trivial⟩ ⟨⟨_, rfl, rfl, .same _ _ _ _ (Xr ⟨Xz ⟨.int _ _, .vs _ _, .vs _ _, .vs _ _, .vs _ _, trivial⟩, trivial⟩)⟩, trivial⟩
       ·have hF := Yh c20 hF
        refine Xh ?_
        refine Vg ?_
        refine Vd ?_
        obtain ⟨x21, h22, hF⟩ := Ym hF
        refine Va (Xs (ds := [.int .i64 p1.Time, .vs 1 (Yv (Yw .i64) p1.States), .vs 1 (Yv (Yw .i64) p1.Since), .vs 1 (Yv Yx p1.Pulled), .vs 1 (Yv Yx p1.Held)]) rfl (Vi hn rfl) rfl ta_34 ts_34 rfl rfl rfl) rfl ?_
        refine Va (rd_makeFn rfl) rfl ?_
        refine Vk (vef_callS (ps := [((n + 1), ⟨3, 1, [.int .i64 p2], 0⟩)]) (r := .agg [.int .i64 x21.Time, .sl (n + 3) 0 0 (x21.States).length, .sl (n + 4) 0 0 (x21.Since).length, .sl (n + 5) 0 0 (x21.Pulled).length, .vs 1 (Yv Yx x21.Held)]) (os := [⟨3, 1, Yv (Yw .i64) x21.States, 0⟩, ⟨3, 1, Yv (Yw .i64) x21.Since, 0⟩, ⟨4, 1, Yv Yx x21.Pulled, 0⟩]) (low1 := low) (loc1 := [⟨34, 5, [.agg [.int .i64 p1.Time, .vs 1 (Yv (Yw .i64) p1.States), .vs 1 (Yv (Yw .i64) p1.Since), .vs 1 (Yv Yx p1.Pulled), .vs 1 (Yv Yx p1.Held)]], 0⟩, ⟨3, 1, [.int .i64 p2], 0⟩, ⟨34, 5, [.agg [.int .i64 0, .nils, .nils, .nils, .nils]], 0⟩]) (loc2 := [⟨34, 5, [.agg [.int .i64 p1.Time, .vs 1 (Yv (Yw .i64) p1.States), .vs 1 (Yv (Yw .i64) p1.Since), .vs 1 (Yv Yx p1.Pulled), .vs 1 (Yv Yx p1.Held)]], 0⟩, ⟨3, 1, [.int .i64 p2], 0⟩, ⟨34, 5, [.agg [.int .i64 0, .nils, .nils, .nils, .nils]], 0⟩, ⟨3, 1, Yv (Yw .i64) x21.States, 0⟩, ⟨3, 1, Yv (Yw .i64) x21.Since, 0⟩, ⟨4, 1, Yv Yx x21.Pulled, 0⟩]) rfl Try.call31 (F_belts_done__belts_Start_1_ok h22 (nd1 na0 nd0) (get_N hn rfl) (Xi hn rfl)) (Yi (loc2 := [⟨34, 5, [.agg [.int .i64 p1.Time, .vs 1 (Yv (Yw .i64) p1.States), .vs 1 (Yv (Yw .i64) p1.Since), .vs 1 (Yv Yx p1.Pulled), .vs 1 (Yv Yx p1.Held)]], 0⟩, ⟨3, 1, [.int .i64 p2], 0⟩, ⟨34, 5, [.agg [.int .i64 0, .nils, .nils, .nils, .nils]], 0⟩]) hn 1 rfl sets_nil) rfl) rfl ?_
        refine Vk (Xn (p := .agg [.int .i64 x21.Time, .sl (n + 3) 0 0 (x21.States).length, .sl (n + 4) 0 0 (x21.Since).length, .sl (n + 5) 0 0 (x21.Pulled).length, .vs 1 (Yv Yx x21.Held)]) (e' := .agg [.int .i64 x21.Time, .sl (n + 3) 0 0 (x21.States).length, .sl (n + 4) 0 0 (x21.Since).length, .sl (n + 5) 0 0 (x21.Pulled).length, .vs 1 (Yv Yx x21.Held)]) rfl (Vi hn rfl) rfl rfl ts_34 rfl (Yt rfl) rfl (Yz rfl) rfl (Yn hn rfl)) rfl ?_
        refine Va (Xa rfl) rfl ?_
        refine Ve ?_
        refine Vx ?_
        obtain rfl := Yy hF
        refine fnR ?_
        refine Weak.trans (Xy (E' := [(6, .ptr (n + 2) 0 0 0), (7, .int .i64 0)]) (loc1 := [⟨34, 5, [.agg [.int .i64 p1.Time, .vs 1 (Yv (Yw .i64) p1.States), .vs 1 (Yv (Yw .i64) p1.Since), .vs 1 (Yv Yx p1.Pulled), .vs 1 (Yv Yx p1.Held)]], 0⟩, ⟨3, 1, [.int .i64 p2], 0⟩, ⟨34, 5, [.agg [.int .i64 x21.Time, .vs 1 (Yv (Yw .i64) x21.States), .sl (n + 4) 0 0 (x21.Since).length, .sl (n + 5) 0 0 (x21.Pulled).length, .vs 1 (Yv Yx x21.Held)]], 0⟩, ⟨3, 1, [], 0 + 1⟩, ⟨3, 1, Yv (Yw .i64) x21.Since, 0⟩, ⟨4, 1, Yv Yx x21.Pulled, 0⟩]) hn 3 rfl (lt_map (fun _ => .int _ _)) ⟨Vp rfl, Vp rfl, trivial⟩ ⟨.refl _, .refl _, cvo_agg ⟨Vp rfl, cv_sl rfl rfl rfl (Yj rfl), Vp rfl, Vp rfl, Vp rfl, trivial⟩, .refl _, .refl _, .refl _, trivial⟩) ?_
        refine Weak.trans (Xy (E' := [(6, .ptr (n + 2) 0 0 0), (7, .int .i64 0)]) (loc1 := [⟨34, 5, [.agg [.int .i64 p1.Time, .vs 1 (Yv (Yw .i64) p1.States), .vs 1 (Yv (Yw .i64) p1.Since), .vs 1 (Yv Yx p1.Pulled), .vs 1 (Yv Yx p1.Held)]], 0⟩, ⟨3, 1, [.int .i64 p2], 0⟩, ⟨34, 5, [.agg [.int .i64 x21.Time, .vs 1 (Yv (Yw .i64) x21.States), .vs 1 (Yv (Yw .i64) x21.Since), .sl (n + 5) 0 0 (x21.Pulled).length, .vs 1 (Yv Yx x21.Held)]], 0⟩, ⟨3, 1, [], 0 + 1⟩, ⟨3, 1, [], 0 + 1⟩, ⟨4, 1, Yv Yx x21.Pulled, 0⟩]) hn 4 rfl (lt_map (fun _ => .int _ _)) ⟨Vp rfl, Vp rfl, trivial⟩ ⟨.refl _, .refl _, cvo_agg ⟨Vp rfl, Vp rfl, cv_sl rfl rfl rfl (Yj rfl), Vp rfl, Vp rfl, trivial⟩, .refl _, .refl _, .refl _, trivial⟩) ?_
        refine Weak.trans (Xy (E' := [(6, .ptr (n + 2) 0 0 0), (7, .int .i64 0)]) (loc1 := [⟨34, 5, [.agg [.int .i64 p1.Time, .vs 1 (Yv (Yw .i64) p1.States), .vs 1 (Yv (Yw .i64) p1.Since), .vs 1 (Yv Yx p1.Pulled), .vs 1 (Yv Yx p1.Held)]], 0⟩, ⟨3, 1, [.int .i64 p2], 0⟩, ⟨34, 5, [.agg [.int .i64 x21.Time, .vs 1 (Yv (Yw .i64) x21.States), .vs 1 (Yv (Yw .i64) x21.Since), .vs 1 (Yv Yx x21.Pulled), .vs 1 (Yv Yx x21.Held)]], 0⟩, ⟨3, 1, [], 0 + 1⟩, ⟨3, 1, [], 0 + 1⟩, ⟨4, 1, [], 0 + 1⟩]) hn 5 rfl (lt_map (fun _ => .bool _)) ⟨Vp rfl, Vp rfl, trivial⟩ ⟨.refl _, .refl _, cvo_agg ⟨Vp rfl, Vp rfl, Vp rfl, cv_sl rfl rfl rfl (Yj rfl), Vp rfl, trivial⟩, .refl _, .refl _, .refl _, trivial⟩) ?_
        exact Vu hn [(2, 0)] (by decide) ⟨rn_ptr 0 2 rfl rfl, Vy rfl (.int _ _), trivial⟩ ⟨⟨_, rfl, rfl, .same _ _ _ _ (Xr ⟨Xz ⟨.int _ _, .vs _ _, .vs _ _, .vs _ _, .vs _ _, trivial⟩, trivial⟩)⟩, trivial⟩
 ·rintro _ _ _ _ ⟨he, hw⟩
  refine ⟨_, _, _, hw, ?_⟩
  exact bodyQ_some hn 0 rfl (Yz rfl) he [.agg [.int .i64 r.1.Time, .vs 1 (Yv (Yw .i64) r.1.States), .vs 1 (Yv (Yw .i64) r.1.Since), .vs 1 (Yv Yx r.1.Pulled), .vs 1 (Yv Yx r.1.Held)], .int .i64 r.2] ⟨Xs rfl (Vi hn rfl) rfl ta_34 ts_34 rfl rfl rfl, rfl, trivial⟩ ((lt_tup ⟨(Xz ⟨.int _ _, .vs _ _, .vs _ _, .vs _ _, .vs _ _, trivial⟩), .int _ _, trivial⟩)) trivial ⟨rfl, rfl⟩

theorem F_belts_Wait_1_ok0 {p0 : T_Line} {p1 : Int} {p2 : List T_Belt} {r : T_Line} (hF : F_belts_Wait_1 p0 p1 p2 = some r) {low0 : List AObj} {q0 q1 q2 q3 q4 q5 q6 w0 w1 w2 w3 w4 w5 w6 : Nat} (hB : Bor low0 [q0, q1, q2, q3, q4, q5, q6]) {m1 : Nat} (hm1 : m1 = (p0.States).length) {m2 : Nat} (hm2 : m2 = (p0.Since).length) {m3 : Nat} (hm3 : m3 = (p0.Pulled).length) {m4 : Nat} (hm4 : m4 = (p0.Held).length) {n : Nat} (hn : low0.length = n) :
    Yd Try.prog 34 [.ptr q0 w0 0 0, .ptr q5 w5 0 0, .ptr q6 w6 0 0] (setL low0 [(q0, ⟨34, 5, [.agg [.int .i64 p0.Time, .sl q1 w1 0 m1, .sl q2 w2 0 m2, .sl q3 w3 0 m3, .sl q4 w4 0 m4]], w0⟩), (q1, ⟨3, 1, Yv (Yw .i64) p0.States, w1⟩), (q2, ⟨3, 1, Yv (Yw .i64) p0.Since, w2⟩), (q3, ⟨4, 1, Yv Yx p0.Pulled, w3⟩), (q4, ⟨4, 1, Yv Yx p0.Held, w4⟩), (q5, ⟨3, 1, [.int .i64 p1], w5⟩), (q6, ⟨27, 1, [.vs 2 (Yv T_Belt.enc p2)], w6⟩)]) fun x low' => x = .tup [] ∧ low' = setL low0 [(q0, ⟨34, 5, [.agg [.int .i64 r.Time, .sl q1 w1 0 m1, .sl q2 w2 0 m2, .sl q3 w3 0 m3, .sl q4 w4 0 m4]], w0⟩), (q1, ⟨3, 1, Yv (Yw .i64) r.States, w1⟩), (q2, ⟨3, 1, Yv (Yw .i64) r.Since, w2⟩), (q3, ⟨4, 1, Yv Yx r.Pulled, w3⟩), (q4, ⟨4, 1, Yv Yx r.Held, w4⟩), (q5, ⟨3, 1, [.int .i64 p1], w5⟩), (q6, ⟨27, 1, [.vs 2 (Yv T_Belt.enc p2)], w6⟩)] ++ [] := by
 refine Vw (nt := 55) (rs := []) Try.func34 rfl rfl (Yz rfl) rfl ?_
 have hq0 : q0 < n := hB.ltN hn 0 rfl
 have hq1 : q1 < n := hB.ltN hn 1 rfl
 have hq2 : q2 < n := hB.ltN hn 2 rfl
 have hq3 : q3 < n := hB.ltN hn 3 rfl
 have hq4 : q4 < n := hB.ltN hn 4 rfl
 have hq5 : q5 < n := hB.ltN hn 5 rfl
 have hq6 : q6 < n := hB.ltN hn 6 rfl
 refine Vt (Q' := FnE (fun E' lw lc => m1 = (r.States).length ∧ m2 = (r.Since).length ∧ m3 = (r.Pulled).length ∧ m4 = (r.Held).length ∧ Xv E' lw lc [] (setL low0 [(q0, ⟨34, 5, [.agg [.int .i64 r.Time, .sl q1 w1 0 m1, .sl q2 w2 0 m2, .sl q3 w3 0 m3, .sl q4 w4 0 m4]], w0⟩), (q1, ⟨3, 1, Yv (Yw .i64) r.States, w1⟩), (q2, ⟨3, 1, Yv (Yw .i64) r.Since, w2⟩), (q3, ⟨4, 1, Yv Yx r.Pulled, w3⟩), (q4, ⟨4, 1, Yv Yx r.Held, w4⟩), (q5, ⟨3, 1, [.int .i64 p1], w5⟩), (q6, ⟨27, 1, [.vs 2 (Yv T_Belt.enc p2)], w6⟩)]) [])) ?_ ?_
 ·unfold F_belts_Wait_1 at hF
  refine Vg ?_
  refine Vd ?_
  refine Va (rd_mvP rfl) rfl ?_
  refine Va (Vf rfl (Xp hB rfl 5 rfl) rfl ta_3 rfl) rfl ?_
  refine Va (Yl rfl) rfl ?_
  refine Va (Vc rfl tf_34_0 ts_3 (by decide)) rfl ?_
  refine Vk (Xn (p := .int .i64 p1) (e' := .agg [.int .i64 p1, .sl q1 w1 0 m1, .sl q2 w2 0 m2, .sl q3 w3 0 m3, .sl q4 w4 0 m4]) rfl (Xp hB rfl 0 rfl) rfl rfl ts_3 rfl (Yt rfl) rfl (Yz rfl) rfl (setO_B hB rfl 0 rfl (ltObjN hn ⟨Xz ⟨.int _ _, .sl _ _ _ _ hq1, .sl _ _ _ _ hq2, .sl _ _ _ _ hq3, .sl _ _ _ _ hq4, trivial⟩, trivial⟩) rfl)) rfl ?_
  refine Ve ?_
  refine Vg ?_
  refine Vd ?_
  refine Va (rd_mvP rfl) rfl ?_
  refine Va (Yl rfl) rfl ?_
  refine Va (Vc rfl tf_34_1 ts_22 (by decide)) rfl ?_
  refine Va (Vf rfl (Xp hB rfl 0 rfl) rfl ta_22 rfl) rfl ?_
  refine Va (Xb (rd_lenS rfl (Xp hB rfl 1 rfl) rfl rfl te_22) (congrArg (fun n : Nat => Yw .i64 (n : Int)) hm1)) rfl ?_
  refine Va (Vh rfl) rfl ?_
  refine Ve ?_
  refine Xt ?_
  obtain ⟨o6, ho6, hF⟩ := Ym hF
  refine Vt (vwp_loopC (F_belts_Wait_1_L1 p0 p1 p2) (fun s5 E' lw lc => m1 = (s5.2.1).length ∧ m2 = (s5.2.2).length ∧ Xv E' lw lc [(0, .ptr q0 w0 0 0), (1, .ptr q5 w5 0 0), (2, .ptr q6 w6 0 0), (14, .sl q1 w1 0 m1), (15, .int .i64 ((p0.States).length : Int)), (16, .int .i64 s5.1)] (setL low0 [(q0, ⟨34, 5, [.agg [.int .i64 p1, .sl q1 w1 0 m1, .sl q2 w2 0 m2, .sl q3 w3 0 m3, .sl q4 w4 0 m4]], w0⟩), (q1, ⟨3, 1, Yv (Yw .i64) s5.2.1, w1⟩), (q2, ⟨3, 1, Yv (Yw .i64) s5.2.2, w2⟩), (q3, ⟨4, 1, Yv Yx p0.Pulled, w3⟩), (q4, ⟨4, 1, Yv Yx p0.Held, w4⟩), (q5, ⟨3, 1, [.int .i64 p1], w5⟩), (q6, ⟨27, 1, [.vs 2 (Yv T_Belt.enc p2)], w6⟩)]) []) (fun o6 => OnlyE (.exit 0) (fun E' lw lc => m1 = (o6.1).length ∧ m2 = (o6.2).length ∧ Xv E' lw lc [] (setL low0 [(q0, ⟨34, 5, [.agg [.int .i64 p1, .sl q1 w1 0 m1, .sl q2 w2 0 m2, .sl q3 w3 0 m3, .sl q4 w4 0 m4]], w0⟩), (q1, ⟨3, 1, Yv (Yw .i64) o6.1, w1⟩), (q2, ⟨3, 1, Yv (Yw .i64) o6.2, w2⟩), (q3, ⟨4, 1, Yv Yx p0.Pulled, w3⟩), (q4, ⟨4, 1, Yv Yx p0.Held, w4⟩), (q5, ⟨3, 1, [.int .i64 p1], w5⟩), (q6, ⟨27, 1, [.vs 2 (Yv T_Belt.enc p2)], w6⟩)]) [])) ho6 ⟨hm1, hm2, ?_⟩ (by rintro _ _ _ _ ⟨h, _⟩ <;> cases h) ?_) ?_
  ·exact Vn ⟨rfl, rfl, rfl, rfl, rfl, rfl, trivial⟩
  ·rintro s5 os5 _ _ _ hF ⟨hls5_0, hls5_1, hw⟩
   unfold F_belts_Wait_1_L1 at hF
   refine Xw hw ?_
   refine Vg ?_
   refine Vd ?_
   refine Va (rd_lss rfl rfl) rfl ?_
   refine Ve ?_
   refine Vg ?_
   refine Xc rfl (fun c7 => ?_) (fun c7 => ?_)
   ·have hF := Yg c7 hF
    refine Xh ?_
    refine Vg ?_
    obtain ⟨o8, ho8, hF⟩ := Ym hF
    refine Vt (Q' := (fun o8 => OnlyE .normal (fun E' lw lc => m1 = (o8.1).length ∧ m2 = (o8.2).length ∧ Xv E' lw lc [(0, .ptr q0 w0 0 0), (1, .ptr q5 w5 0 0), (2, .ptr q6 w6 0 0), (14, .sl q1 w1 0 m1), (15, .int .i64 ((p0.States).length : Int)), (16, .int .i64 s5.1)] (setL low0 [(q0, ⟨34, 5, [.agg [.int .i64 p1, .sl q1 w1 0 m1, .sl q2 w2 0 m2, .sl q3 w3 0 m3, .sl q4 w4 0 m4]], w0⟩), (q1, ⟨3, 1, Yv (Yw .i64) o8.1, w1⟩), (q2, ⟨3, 1, Yv (Yw .i64) o8.2, w2⟩), (q3, ⟨4, 1, Yv Yx p0.Pulled, w3⟩), (q4, ⟨4, 1, Yv Yx p0.Held, w4⟩), (q5, ⟨3, 1, [.int .i64 p1], w5⟩), (q6, ⟨27, 1, [.vs 2 (Yv T_Belt.enc p2)], w6⟩)]) [])) o8) ?_ ?_
    ·replace hF := ho8
     refine Xt ?_
     refine Vg ?_
     refine Vd ?_
     obtain ⟨x9, h10, hF⟩ := Ym hF
     refine Va (Vh rfl) rfl ?_
     refine Va (rd_ixS rfl hls5_0 rfl (Xp hB rfl 1 rfl) h10 te_22 ts_3) rfl ?_
     refine Va (rd_ldL1 rfl (Xp hB rfl 1 rfl) (getI_some h10).2 ta_3 rfl) rfl ?_
     refine Va (Xa rfl) rfl ?_
     refine Va (Xa rfl) rfl ?_
     refine Ve ?_
     refine Vg ?_
     obtain ⟨x11, h12, hF⟩ := Ym hF
     obtain ⟨x13, h14, hF⟩ := Ym hF
     refine vwp_drawn0 [[], [0], [0, 1], [0, 1, 2], [], [0, 1, 2, 3, 4], [0, 1, 2, 3, 4, 5], [], [], [7, 8], [7, 8, 9], [7, 8, 9, 10], [0, 1, 2, 3, 4, 5, 6, 7, 8, 9, 10, 11], [0, 1, 2, 3, 4, 5, 6, 7, 8, 9, 10, 11, 12]] mixed (by kernel_rfl) rfl ?_
     refine Yq rfl rfl (rd_mvP rfl) ?_
     refine Yq rfl rfl (Yl rfl) ?_
     refine Yq rfl rfl (Vc rfl tf_34_2 ts_22 (by decide)) ?_
     refine Yq rfl rfl (Vf rfl (Xp hB rfl 0 rfl) rfl ta_22 rfl) ?_
     refine Yq rfl rfl (Vh rfl) ?_
     refine Yq rfl rfl (rd_ixS rfl hls5_1 rfl (Xp hB rfl 2 rfl) h12 te_22 ts_3) ?_
     refine Yq rfl rfl (rd_ldL1 rfl (Xp hB rfl 2 rfl) (getI_some h12).2 ta_3 rfl) ?_
     refine Yq rfl rfl (Vf rfl (Xp hB rfl 6 rfl) rfl ta_27 rfl) ?_
     refine Yq rfl rfl (Vh rfl) ?_
     refine Yq rfl rfl (Xb (Yb rfl rfl h14 te_27 ts_31) (v' := .vptr [.int .i64 x13.Onto, .int .i64 x13.Warn] 0) rfl) ?_
     refine Yq rfl rfl (rd_fieldVaddr rfl tf_31_1 ts_3 (by decide)) ?_
     refine Yq rfl rfl (Vz rfl ta_3 rfl) ?_
     refine Yq rfl rfl (rd_add rfl rfl rfl) ?_
     refine Yq rfl rfl (Xa rfl) ?_
     refine dops_nil ?_
     refine Vg ?_
     obtain ⟨o15, ho15, hF⟩ := Ym hF
     refine Vt (Q' := (fun o15 => OnlyE .normal (fun E' lw lc => Xv E' lw lc [(0, .ptr q0 w0 0 0), (1, .ptr q5 w5 0 0), (2, .ptr q6 w6 0 0), (4, .int .i64 s5.1), (6, .int .i64 (IntKind.i64.wrap (x11 + x13.Warn))), (14, .sl q1 w1 0 m1), (15, .int .i64 ((p0.States).length : Int)), (16, .int .i64 s5.1), (40, .bool o15)] (setL low0 [(q0, ⟨34, 5, [.agg [.int .i64 p1, .sl q1 w1 0 m1, .sl q2 w2 0 m2, .sl q3 w3 0 m3, .sl q4 w4 0 m4]], w0⟩), (q1, ⟨3, 1, Yv (Yw .i64) s5.2.1, w1⟩), (q2, ⟨3, 1, Yv (Yw .i64) s5.2.2, w2⟩), (q3, ⟨4, 1, Yv Yx p0.Pulled, w3⟩), (q4, ⟨4, 1, Yv Yx p0.Held, w4⟩), (q5, ⟨3, 1, [.int .i64 p1], w5⟩), (q6, ⟨27, 1, [.vs 2 (Yv T_Belt.enc p2)], w6⟩)]) [])) o15) ?_ ?_
     ·replace hF := ho15
      refine Vd ?_
      rcases Zb (decide (x9 = 1)) with c16 | c16
      ·have hF := Yg c16 hF
       refine Va (Vh rfl) rfl ?_
       refine Va (Vs rfl rfl) rfl ?_
       refine Va (Vj rfl) rfl ?_
       refine Vv rfl rfl c16 ?_
       refine Va (Vh rfl) rfl ?_
       refine Vv rfl rfl c16 ?_
       refine Va (Vf rfl (Xp hB rfl 5 rfl) rfl ta_3 rfl) rfl ?_
       refine Vv rfl rfl c16 ?_
       refine Va (rd_leq rfl rfl) rfl ?_
       refine Va (Vm (congrArg Yx c16) rfl) rfl ?_
       refine Ve ?_
       obtain rfl := Yy hF
       refine Xq ?_
       exact Vn ⟨rfl, rfl, rfl, rfl, rfl, rfl, rfl, rfl, rfl, trivial⟩
      ·have hF := Yh c16 hF
       refine Va (Vh rfl) rfl ?_
       refine Va (Vs rfl rfl) rfl ?_
       refine Va (Vj rfl) rfl ?_
       refine Vb rfl rfl (neF c16) rfl ?_
       refine Vb rfl rfl (neF c16) rfl ?_
       refine Vb rfl rfl (neF c16) rfl ?_
       refine Va (Vl (congrArg Yx c16) rfl) rfl ?_
       refine Ve ?_
       obtain rfl := Yy hF
       refine Xq ?_
       exact Vn ⟨rfl, rfl, rfl, rfl, rfl, rfl, rfl, rfl, rfl, trivial⟩
     ·rintro _ _ _ _ ⟨rfl, hw⟩
      refine ⟨_, _, _, hw, ?_⟩
      refine Xc rfl (fun c17 => ?_) (fun c17 => ?_)
      ·have hF := Yg c17 hF
       obtain ⟨x18, h19, hF⟩ := Ym hF
       obtain ⟨x20, h21, hF⟩ := Ym hF
       refine vwp_drawn [[], [0], [0, 1], [0, 1, 2], [], [], [5], [5, 6], [5, 6, 7], [], [], [0, 1, 2, 3, 4, 5, 6, 7, 8], [0, 1, 2, 3, 4, 5, 6, 7, 8, 11], [0, 1, 2, 3, 4, 5, 6, 7, 8, 9, 10, 11, 12], [0, 1, 2, 3, 4, 5, 6, 7, 8, 9, 10, 11, 12, 13]] [false, false, false, false, false, false, false, false, false, false, false, false, true, false, true] [((setL low0 [(q0, ⟨34, 5, [.agg [.int .i64 p1, .sl q1 w1 0 m1, .sl q2 w2 0 m2, .sl q3 w3 0 m3, .sl q4 w4 0 m4]], w0⟩), (q1, ⟨3, 1, Yv (Yw .i64) s5.2.1, w1⟩), (q2, ⟨3, 1, Yv (Yw .i64) s5.2.2, w2⟩), (q3, ⟨4, 1, Yv Yx p0.Pulled, w3⟩), (q4, ⟨4, 1, Yv Yx p0.Held, w4⟩), (q5, ⟨3, 1, [.int .i64 p1], w5⟩), (q6, ⟨27, 1, [.vs 2 (Yv T_Belt.enc p2)], w6⟩)]), []), ((setL low0 [(q0, ⟨34, 5, [.agg [.int .i64 p1, .sl q1 w1 0 m1, .sl q2 w2 0 m2, .sl q3 w3 0 m3, .sl q4 w4 0 m4]], w0⟩), (q1, ⟨3, 1, Yv (Yw .i64) (s5.2.1.set ((s5.1).toNat) 2), w1⟩), (q2, ⟨3, 1, Yv (Yw .i64) s5.2.2, w2⟩), (q3, ⟨4, 1, Yv Yx p0.Pulled, w3⟩), (q4, ⟨4, 1, Yv Yx p0.Held, w4⟩), (q5, ⟨3, 1, [.int .i64 p1], w5⟩), (q6, ⟨27, 1, [.vs 2 (Yv T_Belt.enc p2)], w6⟩)]), []), ((setL low0 [(q0, ⟨34, 5, [.agg [.int .i64 p1, .sl q1 w1 0 m1, .sl q2 w2 0 m2, .sl q3 w3 0 m3, .sl q4 w4 0 m4]], w0⟩), (q1, ⟨3, 1, Yv (Yw .i64) (s5.2.1.set ((s5.1).toNat) 2), w1⟩), (q2, ⟨3, 1, Yv (Yw .i64) (s5.2.2.set ((s5.1).toNat) (IntKind.i64.wrap (x11 + x13.Warn))), w2⟩), (q3, ⟨4, 1, Yv Yx p0.Pulled, w3⟩), (q4, ⟨4, 1, Yv Yx p0.Held, w4⟩), (q5, ⟨3, 1, [.int .i64 p1], w5⟩), (q6, ⟨27, 1, [.vs 2 (Yv T_Belt.enc p2)], w6⟩)]), [])] mixed (by kernel_rfl) rfl (lenAll (all1 Xe (all1 Xe (all1 Xe all0)))) rfl _ rfl rfl ?_
       refine Yq rfl rfl (rd_mvP rfl) ?_
       refine Yq rfl rfl (Yl rfl) ?_
       refine Yq rfl rfl (Vc rfl tf_34_1 ts_22 (by decide)) ?_
       refine Yq rfl rfl (Vf rfl (Xp hB rfl 0 rfl) rfl ta_22 rfl) ?_
       refine Yq rfl rfl (Vh rfl) ?_
       refine Yq rfl rfl (rd_mvP rfl) ?_
       refine Yq rfl rfl (Yl rfl) ?_
       refine Yq rfl rfl (Vc rfl tf_34_2 ts_22 (by decide)) ?_
       refine Yq rfl rfl (Vf rfl (Xp hB rfl 0 rfl) rfl ta_22 rfl) ?_
       refine dops_rdW _ rfl rfl (all1 (VRd.ntl (Vh rfl)) (all1 (VRd.ntl (Vh rfl)) all0)) ?_
       refine dops_rdW _ rfl rfl (all1 (VRd.ntl (Vh rfl)) (all1 (VRd.ntl (Vh rfl)) all0)) ?_
       refine Yq rfl rfl (rd_ixS rfl hls5_0 rfl (Xp hB rfl 1 rfl) h19 te_22 ts_3) ?_
       refine dops_ef rfl rfl rfl (vef_stL (p := .int .i64 2) (e' := 2) rfl (Xp hB rfl 1 rfl) (getI_some h19).2 rfl ts_3 rfl (Yt rfl) (Yz rfl) rfl (setO_B hB rfl 1 rfl (Vo (fun _ => .int _ _)) rfl)) ?_
       refine Yq rfl rfl (rd_ixS rfl hls5_1 rfl (Xp hB rfl 2 rfl) h21 te_22 ts_3) ?_
       refine dops_ef rfl rfl rfl (vef_stL (p := .int .i64 (IntKind.i64.wrap (x11 + x13.Warn))) (e' := (IntKind.i64.wrap (x11 + x13.Warn))) rfl (Xp hB rfl 2 rfl) (getI_some h21).2 rfl ts_3 rfl (Yt rfl) (Yz rfl) rfl (setO_B hB rfl 2 rfl (Vo (fun _ => .int _ _)) rfl)) ?_
       refine dops_nil ?_
       obtain rfl := Yy hF
       refine And.intro rfl (And.intro (Eq.trans hls5_0 List.length_set.symm) (And.intro (Eq.trans hls5_1 List.length_set.symm) ?_))
       exact Vn ⟨rfl, rfl, rfl, rfl, rfl, rfl, trivial⟩
      ·have hF := Yh c17 hF
       refine Xh ?_
       obtain rfl := Yy hF
       refine And.intro rfl (And.intro hls5_0 (And.intro hls5_1 ?_))
       exact Vn ⟨rfl, rfl, rfl, rfl, rfl, rfl, trivial⟩
    ·rintro _ _ _ _ ⟨rfl, hl22, hl23, hw⟩
     refine ⟨_, _, _, hw, ?_⟩
     refine Vd ?_
     refine Va (rd_add rfl rfl rfl) rfl ?_
     refine Va (Vh rfl) rfl ?_
     refine Ve ?_
     obtain rfl := Yy hF
     refine And.intro rfl (And.intro hl22 (And.intro hl23 ?_))
     exact Vn ⟨rfl, rfl, rfl, rfl, rfl, rfl, trivial⟩
   ·have hF := Yh c7 hF
    refine vwp_exit ?_
    obtain rfl := Yy hF
    refine And.intro rfl (And.intro hls5_0 (And.intro hls5_1 ?_))
    exact Vn trivial
  ·rintro _ _ _ _ ⟨rfl, hl24, hl25, hw⟩
   refine ⟨_, _, _, hw, ?_⟩
   obtain rfl := Yy hF
   refine And.intro (.inl rfl) (And.intro hl24 (And.intro hl25 (And.intro hm3 (And.intro hm4 ?_))))
   exact Vn trivial
 ·rintro _ _ _ _ ⟨he, hl1, hl2, hl3, hl4, hw⟩
  refine ⟨_, _, _, hw, ?_⟩
  exact Ye he [] trivial ((lt_tup trivial)) ⟨rfl, (List.append_nil _).symm⟩

theorem F_belts_Wait_1_len {p0 : T_Line} {p1 : Int} {p2 : List T_Belt} {r : T_Line} (hF : F_belts_Wait_1 p0 p1 p2 = some r) {m1 : Nat} (hm1 : m1 = (p0.States).length) {m2 : Nat} (hm2 : m2 = (p0.Since).length) {m3 : Nat} (hm3 : m3 = (p0.Pulled).length) {m4 : Nat} (hm4 : m4 = (p0.Held).length) : m1 = (r.States).length ∧ m2 = (r.Since).length ∧ m3 = (r.Pulled).length ∧ m4 = (r.Held).length ∧ True := by
  have h : LP (F_belts_Wait_1 p0 p1 p2) (fun r => m1 = (r.States).length ∧ m2 = (r.Since).length ∧ m3 = (r.Pulled).length ∧ m4 = (r.Held).length ∧ True) := by
    unfold F_belts_Wait_1
    exact (lp_bind (Q := fun o6 => m1 = (o6.1).length ∧ m2 = (o6.2).length ∧ True) (lp_loop (fun s5 => m1 = (s5.2.1).length ∧ m2 = (s5.2.2).length ∧ True) ⟨hm1, hm2, trivial⟩ (fun s5 ⟨hls5_0, hls5_1, _⟩ => by unfold F_belts_Wait_1_L1; exact (lp_bif (fun c7 => lp_bind (Q := fun o8 => m1 = (o8.1).length ∧ m2 = (o8.2).length ∧ True) (lp_bindE fun x9 h10 => lp_bindE fun x11 h12 => lp_bindE fun x13 h14 => lp_bind (Q := fun o15 => True) (lp_bif (fun c16 => lp_some trivial) (fun c16 => lp_some trivial)) (fun o15 _ => lp_bif (fun c17 => lp_bindE fun x18 h19 => lp_bindE fun x20 h21 => lp_some ⟨(Eq.trans hls5_0 List.length_set.symm), (Eq.trans hls5_1 List.length_set.symm), trivial⟩) (fun c17 => lp_some ⟨hls5_0, hls5_1, trivial⟩))) (fun o8 ⟨hl22, hl23, _⟩ => lp_some ⟨hl22, hl23, trivial⟩)) (fun c7 => lp_some ⟨hls5_0, hls5_1, trivial⟩)))) (fun o6 ⟨hl24, hl25, _⟩ => lp_some ⟨hl24, hl25, hm3, hm4, trivial⟩))
  exact h r hF

theorem F_belts_Wait_1_ok {p0 : T_Line} {p1 : Int} {p2 : List T_Belt} {r : T_Line} (hF : F_belts_Wait_1 p0 p1 p2 = some r) {low : List AObj} {q0 q1 q2 q3 q4 q5 q6 w0 w1 w2 w3 w4 w5 w6 : Nat} (hnd : [q0, q1, q2, q3, q4, q5, q6].Nodup) {m1 : Nat} (hm1 : m1 = (p0.States).length) {m2 : Nat} (hm2 : m2 = (p0.Since).length) {m3 : Nat} (hm3 : m3 = (p0.Pulled).length) {m4 : Nat} (hm4 : m4 = (p0.Held).length) (hq0 : low[q0]? = some ⟨34, 5, [.agg [.int .i64 p0.Time, .sl q1 w1 0 m1, .sl q2 w2 0 m2, .sl q3 w3 0 m3, .sl q4 w4 0 m4]], w0⟩) (hq1 : low[q1]? = some ⟨3, 1, Yv (Yw .i64) p0.States, w1⟩) (hq2 : low[q2]? = some ⟨3, 1, Yv (Yw .i64) p0.Since, w2⟩) (hq3 : low[q3]? = some ⟨4, 1, Yv Yx p0.Pulled, w3⟩) (hq4 : low[q4]? = some ⟨4, 1, Yv Yx p0.Held, w4⟩) (hq5 : low[q5]? = some ⟨3, 1, [.int .i64 p1], w5⟩) (hq6 : low[q6]? = some ⟨27, 1, [.vs 2 (Yv T_Belt.enc p2)], w6⟩) {n : Nat} (hn : low.length = n) :
    Yd Try.prog 34 [.ptr q0 w0 0 0, .ptr q5 w5 0 0, .ptr q6 w6 0 0] low fun x low' => x = .tup [] ∧ low' = setL low [(q0, ⟨34, 5, [.agg [.int .i64 r.Time, .sl q1 w1 0 m1, .sl q2 w2 0 m2, .sl q3 w3 0 m3, .sl q4 w4 0 m4]], w0⟩), (q1, ⟨3, 1, Yv (Yw .i64) r.States, w1⟩), (q2, ⟨3, 1, Yv (Yw .i64) r.Since, w2⟩), (q3, ⟨4, 1, Yv Yx r.Pulled, w3⟩), (q4, ⟨4, 1, Yv Yx r.Held, w4⟩), (q5, ⟨3, 1, [.int .i64 p1], w5⟩), (q6, ⟨27, 1, [.vs 2 (Yv T_Belt.enc p2)], w6⟩)] ++ [] := by
  obtain ⟨h1, h2⟩ := bor_start (ps := [(q0, ⟨34, 5, [.agg [.int .i64 p0.Time, .sl q1 w1 0 m1, .sl q2 w2 0 m2, .sl q3 w3 0 m3, .sl q4 w4 0 m4]], w0⟩), (q1, ⟨3, 1, Yv (Yw .i64) p0.States, w1⟩), (q2, ⟨3, 1, Yv (Yw .i64) p0.Since, w2⟩), (q3, ⟨4, 1, Yv Yx p0.Pulled, w3⟩), (q4, ⟨4, 1, Yv Yx p0.Held, w4⟩), (q5, ⟨3, 1, [.int .i64 p1], w5⟩), (q6, ⟨27, 1, [.vs 2 (Yv T_Belt.enc p2)], w6⟩)]) hnd (borC hq0 (borC hq1 (borC hq2 (borC hq3 (borC hq4 (borC hq5 (borC hq6 bor0)))))))
  exact vcalls_low h1 (F_belts_Wait_1_ok0 hF h2 hm1 hm2 hm3 hm4 hn)

theorem F_belts_done__belts_Wait_1_ok0 {p0 : T_Line} {pc10 : Int} {pc11 : List T_Belt} {r : T_Line} (hF : F_belts_done__belts_Wait_1 p0 pc10 pc11 = some r) {low0 : List AObj} {q0 q1 w0 w1 : Nat} (hB : Bor low0 [q0, q1]) {n : Nat} (hn : low0.length = n) :
    Yd Try.prog 31 [.agg [.int .i64 p0.Time, .vs 1 (Yv (Yw .i64) p0.States), .vs 1 (Yv (Yw .i64) p0.Since), .vs 1 (Yv Yx p0.Pulled), .vs 1 (Yv Yx p0.Held)], .fn 34 [] [.ptr q0 w0 0 0, .ptr q1 w1 0 0]] (setL low0 [(q0, ⟨3, 1, [.int .i64 pc10], w0⟩), (q1, ⟨27, 1, [.vs 2 (Yv T_Belt.enc pc11)], w1⟩)]) fun x low' => x = .agg [.int .i64 r.Time, .sl (n + 0) 0 0 (r.States).length, .sl (n + 1) 0 0 (r.Since).length, .sl (n + 2) 0 0 (r.Pulled).length, .vs 1 (Yv Yx r.Held)] ∧ low' = setL low0 [(q0, ⟨3, 1, [.int .i64 pc10], w0⟩), (q1, ⟨27, 1, [.vs 2 (Yv T_Belt.enc pc11)], w1⟩)] ++ [⟨3, 1, Yv (Yw .i64) r.States, 0⟩, ⟨3, 1, Yv (Yw .i64) r.Since, 0⟩, ⟨4, 1, Yv Yx r.Pulled, 0⟩] := by
 refine Vw (nt := 24) (rs := [.cell 4 34]) Try.func31 rfl rfl (Yz rfl) rfl ?_
 have hq0 : q0 < n := hB.ltN hn 0 rfl
 have hq1 : q1 < n := hB.ltN hn 1 rfl
 refine Vt (Q' := FnE (fun E' lw lc => Xv E' lw lc [(4, .ptr (n + 3) 0 0 0)] (setL low0 [(q0, ⟨3, 1, [.int .i64 pc10], w0⟩), (q1, ⟨27, 1, [.vs 2 (Yv T_Belt.enc pc11)], w1⟩)]) [⟨3, 1, Yv (Yw .i64) r.States, 0⟩, ⟨3, 1, Yv (Yw .i64) r.Since, 0⟩, ⟨4, 1, Yv Yx r.Pulled, 0⟩, ⟨34, 5, [.agg [.int .i64 r.Time, .sl (n + 0) 0 0 (r.States).length, .sl (n + 1) 0 0 (r.Since).length, .sl (n + 2) 0 0 (r.Pulled).length, .vs 1 (Yv Yx r.Held)]], 0⟩])) ?_ ?_
 ·unfold F_belts_done__belts_Wait_1 at hF
  refine Vg ?_
  refine Vd ?_
  refine Vk (vef_boxN (Vq hn) rfl (v := .agg [.int .i64 p0.Time, .vs 1 (Yv (Yw .i64) p0.States), .vs 1 (Yv (Yw .i64) p0.Since), .vs 1 (Yv Yx p0.Pulled), .vs 1 (Yv Yx p0.Held)]) rfl rfl (Za _) rfl rfl) rfl ?_
  refine Vk (Xm (Vq hn) rfl tz_34 rfl rfl (Za _) rfl) rfl ?_
  refine Ve ?_
  refine Vg ?_
  obtain ⟨x1, h2, hF⟩ := Ym hF
  obtain ⟨x3, h4, hF⟩ := Ym hF
  obtain ⟨x5, h6, hF⟩ := Ym hF
  obtain ⟨x7, h8, hF⟩ := Ym hF
  refine Xw (Yo 3 1 (Za _)) ?_
  refine Xw (Yo 3 1 (Za _)) ?_
  refine Xw (Yo 4 1 (Za _)) ?_
  refine Xw (Yo 4 1 (Za _)) ?_
  refine Xw (Yo 34 5 (Za _)) ?_
  refine vwp_drawnX [[], [0], [], [2], [2, 3], [], [5], [2, 3, 4, 5, 6], [], [8], [2, 3, 4, 5, 6, 7, 8, 9], [], [11], [2, 3, 4, 5, 6, 7, 8, 9, 10, 11, 12], [0, 1, 2, 3, 4, 5, 6, 7, 8, 9, 10, 11, 12, 13], [], [0, 1, 2, 3, 4, 5, 6, 7, 8, 9, 10, 11, 12, 13, 14, 15]] [false, false, false, false, true, false, false, true, false, false, true, false, false, true, false, true, true] [([], (setL low0 [(q0, ⟨3, 1, [.int .i64 pc10], w0⟩), (q1, ⟨27, 1, [.vs 2 (Yv T_Belt.enc pc11)], w1⟩)]), [⟨34, 5, [.agg [.int .i64 p0.Time, .vs 1 (Yv (Yw .i64) p0.States), .vs 1 (Yv (Yw .i64) p0.Since), .vs 1 (Yv Yx p0.Pulled), .vs 1 (Yv Yx p0.Held)]], 0⟩, ⟨34, 5, [.agg [.int .i64 0, .nils, .nils, .nils, .nils]], 0⟩, ⟨3, 1, [], 0⟩, ⟨3, 1, [], 0⟩, ⟨4, 1, [], 0⟩, ⟨4, 1, [], 0⟩, ⟨34, 5, [], 0⟩]), ([4], (setL low0 [(q0, ⟨3, 1, [.int .i64 pc10], w0⟩), (q1, ⟨27, 1, [.vs 2 (Yv T_Belt.enc pc11)], w1⟩)]), [⟨34, 5, [.agg [.int .i64 p0.Time, .vs 1 (Yv (Yw .i64) p0.States), .vs 1 (Yv (Yw .i64) p0.Since), .vs 1 (Yv Yx p0.Pulled), .vs 1 (Yv Yx p0.Held)]], 0⟩, ⟨34, 5, [.agg [.int .i64 0, .nils, .nils, .nils, .nils]], 0⟩, ⟨3, 1, Yv (Yw .i64) x1, 1⟩, ⟨3, 1, [], 0⟩, ⟨4, 1, [], 0⟩, ⟨4, 1, [], 0⟩, ⟨34, 5, [], 0⟩]), ([15], (setL low0 [(q0, ⟨3, 1, [.int .i64 pc10], w0⟩), (q1, ⟨27, 1, [.vs 2 (Yv T_Belt.enc pc11)], w1⟩)]), [⟨34, 5, [.agg [.int .i64 p0.Time, .vs 1 (Yv (Yw .i64) p0.States), .vs 1 (Yv (Yw .i64) p0.Since), .vs 1 (Yv Yx p0.Pulled), .vs 1 (Yv Yx p0.Held)]], 0⟩, ⟨34, 5, [.agg [.int .i64 0, .nils, .nils, .nils, .nils]], 0⟩, ⟨3, 1, [], 0⟩, ⟨3, 1, [], 0⟩, ⟨4, 1, [], 0⟩, ⟨4, 1, [], 0⟩, ⟨34, 5, [.agg [.int .i64 0, .nils, .nils, .nils, .nils]], 1⟩]), ([4, 7], (setL low0 [(q0, ⟨3, 1, [.int .i64 pc10], w0⟩), (q1, ⟨27, 1, [.vs 2 (Yv T_Belt.enc pc11)], w1⟩)]), [⟨34, 5, [.agg [.int .i64 p0.Time, .vs 1 (Yv (Yw .i64) p0.States), .vs 1 (Yv (Yw .i64) p0.Since), .vs 1 (Yv Yx p0.Pulled), .vs 1 (Yv Yx p0.Held)]], 0⟩, ⟨34, 5, [.agg [.int .i64 0, .nils, .nils, .nils, .nils]], 0⟩, ⟨3, 1, Yv (Yw .i64) x1, 1⟩, ⟨3, 1, Yv (Yw .i64) x3, 1⟩, ⟨4, 1, [], 0⟩, ⟨4, 1, [], 0⟩, ⟨34, 5, [], 0⟩]), ([4, 15], (setL low0 [(q0, ⟨3, 1, [.int .i64 pc10], w0⟩), (q1, ⟨27, 1, [.vs 2 (Yv T_Belt.enc pc11)], w1⟩)]), [⟨34, 5, [.agg [.int .i64 p0.Time, .vs 1 (Yv (Yw .i64) p0.States), .vs 1 (Yv (Yw .i64) p0.Since), .vs 1 (Yv Yx p0.Pulled), .vs 1 (Yv Yx p0.Held)]], 0⟩, ⟨34, 5, [.agg [.int .i64 0, .nils, .nils, .nils, .nils]], 0⟩, ⟨3, 1, Yv (Yw .i64) x1, 1⟩, ⟨3, 1, [], 0⟩, ⟨4, 1, [], 0⟩, ⟨4, 1, [], 0⟩, ⟨34, 5, [.agg [.int .i64 0, .nils, .nils, .nils, .nils]], 1⟩]), ([4, 7, 10], (setL low0 [(q0, ⟨3, 1, [.int .i64 pc10], w0⟩), (q1, ⟨27, 1, [.vs 2 (Yv T_Belt.enc pc11)], w1⟩)]), [⟨34, 5, [.agg [.int .i64 p0.Time, .vs 1 (Yv (Yw .i64) p0.States), .vs 1 (Yv (Yw .i64) p0.Since), .vs 1 (Yv Yx p0.Pulled), .vs 1 (Yv Yx p0.Held)]], 0⟩, ⟨34, 5, [.agg [.int .i64 0, .nils, .nils, .nils, .nils]], 0⟩, ⟨3, 1, Yv (Yw .i64) x1, 1⟩, ⟨3, 1, Yv (Yw .i64) x3, 1⟩, ⟨4, 1, Yv Yx x5, 1⟩, ⟨4, 1, [], 0⟩, ⟨34, 5, [], 0⟩]), ([4, 7, 15], (setL low0 [(q0, ⟨3, 1, [.int .i64 pc10], w0⟩), (q1, ⟨27, 1, [.vs 2 (Yv T_Belt.enc pc11)], w1⟩)]), [⟨34, 5, [.agg [.int .i64 p0.Time, .vs 1 (Yv (Yw .i64) p0.States), .vs 1 (Yv (Yw .i64) p0.Since), .vs 1 (Yv Yx p0.Pulled), .vs 1 (Yv Yx p0.Held)]], 0⟩, ⟨34, 5, [.agg [.int .i64 0, .nils, .nils, .nils, .nils]], 0⟩, ⟨3, 1, Yv (Yw .i64) x1, 1⟩, ⟨3, 1, Yv (Yw .i64) x3, 1⟩, ⟨4, 1, [], 0⟩, ⟨4, 1, [], 0⟩, ⟨34, 5, [.agg [.int .i64 0, .nils, .nils, .nils, .nils]], 1⟩]), ([4, 7, 10, 13], (setL low0 [(q0, ⟨3, 1, [.int .i64 pc10], w0⟩), (q1, ⟨27, 1, [.vs 2 (Yv T_Belt.enc pc11)], w1⟩)]), [⟨34, 5, [.agg [.int .i64 p0.Time, .vs 1 (Yv (Yw .i64) p0.States), .vs 1 (Yv (Yw .i64) p0.Since), .vs 1 (Yv Yx p0.Pulled), .vs 1 (Yv Yx p0.Held)]], 0⟩, ⟨34, 5, [.agg [.int .i64 0, .nils, .nils, .nils, .nils]], 0⟩, ⟨3, 1, Yv (Yw .i64) x1, 1⟩, ⟨3, 1, Yv (Yw .i64) x3, 1⟩, ⟨4, 1, Yv Yx x5, 1⟩, ⟨4, 1, Yv Yx x7, 1⟩, ⟨34, 5, [], 0⟩]), ([4, 7, 10, 15], (setL low0 [(q0, ⟨3, 1, [.int .i64 pc10], w0⟩), (q1, ⟨27, 1, [.vs 2 (Yv T_Belt.enc pc11)], w1⟩)]), [⟨34, 5, [.agg [.int .i64 p0.Time, .vs 1 (Yv (Yw .i64) p0.States), .vs 1 (Yv (Yw .i64) p0.Since), .vs 1 (Yv Yx p0.Pulled), .vs 1 (Yv Yx p0.Held)]], 0⟩, ⟨34, 5, [.agg [.int .i64 0, .nils, .nils, .nils, .nils]], 0⟩, ⟨3, 1, Yv (Yw .i64) x1, 1⟩, ⟨3, 1, Yv (Yw .i64) x3, 1⟩, ⟨4, 1, Yv Yx x5, 1⟩, ⟨4, 1, [], 0⟩, ⟨34, 5, [.agg [.int .i64 0, .nils, .nils, .nils, .nils]], 1⟩]), ([4, 7, 10, 13, 15], (setL low0 [(q0, ⟨3, 1, [.int .i64 pc10], w0⟩), (q1, ⟨27, 1, [.vs 2 (Yv T_Belt.enc pc11)], w1⟩)]), [⟨34, 5, [.agg [.int .i64 p0.Time, .vs 1 (Yv (Yw .i64) p0.States), .vs 1 (Yv (Yw .i64) p0.Since), .vs 1 (Yv Yx p0.Pulled), .vs 1 (Yv Yx p0.Held)]], 0⟩, ⟨34, 5, [.agg [.int .i64 0, .nils, .nils, .nils, .nils]], 0⟩, ⟨3, 1, Yv (Yw .i64) x1, 1⟩, ⟨3, 1, Yv (Yw .i64) x3, 1⟩, ⟨4, 1, Yv Yx x5, 1⟩, ⟨4, 1, Yv Yx x7, 1⟩, ⟨34, 5, [.agg [.int .i64 0, .nils, .nils, .nils, .nils]], 1⟩]), ([4, 7, 10, 13, 15, 16], (setL low0 [(q0, ⟨3, 1, [.int .i64 pc10], w0⟩), (q1, ⟨27, 1, [.vs 2 (Yv T_Belt.enc pc11)], w1⟩)]), [⟨34, 5, [.agg [.int .i64 p0.Time, .vs 1 (Yv (Yw .i64) p0.States), .vs 1 (Yv (Yw .i64) p0.Since), .vs 1 (Yv Yx p0.Pulled), .vs 1 (Yv Yx p0.Held)]], 0⟩, ⟨34, 5, [.agg [.int .i64 0, .nils, .nils, .nils, .nils]], 0⟩, ⟨3, 1, Yv (Yw .i64) x1, 1⟩, ⟨3, 1, Yv (Yw .i64) x3, 1⟩, ⟨4, 1, Yv Yx x5, 1⟩, ⟨4, 1, Yv Yx x7, 1⟩, ⟨34, 5, [.agg [.int .i64 p0.Time, .sl (n + 2) 1 0 (x1).length, .sl (n + 3) 1 0 (x3).length, .sl (n + 4) 1 0 (x5).length, .sl (n + 5) 1 0 (x7).length]], 1⟩])] mixed (by kernel_rfl) rfl (lenAllX (Yk Xe (Yk Xe (Yk Xe (Yk Xe (Yk Xe (Yk Xe (Yk Xe (Yk Xe (Yk Xe (Yk Xe (Yk Xe allx0)))))))))))) rfl [4, 7, 10, 13, 15, 16] ((setL low0 [(q0, ⟨3, 1, [.int .i64 pc10], w0⟩), (q1, ⟨27, 1, [.vs 2 (Yv T_Belt.enc pc11)], w1⟩)]), [⟨34, 5, [.agg [.int .i64 p0.Time, .vs 1 (Yv (Yw .i64) p0.States), .vs 1 (Yv (Yw .i64) p0.Since), .vs 1 (Yv Yx p0.Pulled), .vs 1 (Yv Yx p0.Held)]], 0⟩, ⟨34, 5, [.agg [.int .i64 0, .nils, .nils, .nils, .nils]], 0⟩, ⟨3, 1, Yv (Yw .i64) x1, 1⟩, ⟨3, 1, Yv (Yw .i64) x3, 1⟩, ⟨4, 1, Yv Yx x5, 1⟩, ⟨4, 1, Yv Yx x7, 1⟩, ⟨34, 5, [.agg [.int .i64 p0.Time, .sl (n + 2) 1 0 (x1).length, .sl (n + 3) 1 0 (x3).length, .sl (n + 4) 1 0 (x5).length, .sl (n + 5) 1 0 (x7).length]], 1⟩]) rfl rfl ?_
  refine Xu _ rfl rfl (Xo (VRd.ntl (Vc rfl tf_34_0 ts_3 (by decide))) (Xo (VRd.ntl (Vc rfl tf_34_0 ts_3 (by decide))) (Xo (VRd.ntl (Vc rfl tf_34_0 ts_3 (by decide))) (Xo (VRd.ntl (Vc rfl tf_34_0 ts_3 (by decide))) (Xo (VRd.ntl (Vc rfl tf_34_0 ts_3 (by decide))) (Xo (VRd.ntl (Vc rfl tf_34_0 ts_3 (by decide))) (Xo (VRd.ntl (Vc rfl tf_34_0 ts_3 (by decide))) (Xo (VRd.ntl (Vc rfl tf_34_0 ts_3 (by decide))) (Xo (VRd.ntl (Vc rfl tf_34_0 ts_3 (by decide))) (Xo (VRd.ntl (Vc rfl tf_34_0 ts_3 (by decide))) rx0)))))))))) ?_
  refine Xu _ rfl rfl (Xo (VRd.ntl (Vf rfl (Vi (Vq hn) rfl) rfl ta_3 rfl)) (Xo (VRd.ntl (Vf rfl (Vi (Vq hn) rfl) rfl ta_3 rfl)) (Xo (VRd.ntl (Vf rfl (Vi (Vq hn) rfl) rfl ta_3 rfl)) (Xo (VRd.ntl (Vf rfl (Vi (Vq hn) rfl) rfl ta_3 rfl)) (Xo (VRd.ntl (Vf rfl (Vi (Vq hn) rfl) rfl ta_3 rfl)) (Xo (VRd.ntl (Vf rfl (Vi (Vq hn) rfl) rfl ta_3 rfl)) (Xo (VRd.ntl (Vf rfl (Vi (Vq hn) rfl) rfl ta_3 rfl)) (Xo (VRd.ntl (Vf rfl (Vi (Vq hn) rfl) rfl ta_3 rfl)) (Xo (VRd.ntl (Vf rfl (Vi (Vq hn) rfl) rfl ta_3 rfl)) (Xo (VRd.ntl (Vf rfl (Vi (Vq hn) rfl) rfl ta_3 rfl)) rx0)))))))))) ?_
  refine Xu _ rfl rfl (Xo (VRd.ntl (Vc rfl tf_34_1 ts_22 (by decide))) (Xo (VRd.ntl (Vc rfl tf_34_1 ts_22 (by decide))) rx0)) ?_
  refine Xu _ rfl rfl (Xo (VRd.ntl (Vf rfl (Vi (Vq hn) rfl) rfl ta_22 rfl)) (Xo (VRd.ntl (Vf rfl (Vi (Vq hn) rfl) rfl ta_22 rfl)) rx0)) ?_
  refine Yu _ rfl rfl (ex1 1 rfl (Vr (f := 7) (k := 2) (m := 1) (os := [⟨3, 1, Yv (Yw .i64) x1, 0⟩]) (os' := [⟨3, 1, Yv (Yw .i64) x1, 1⟩]) (v := .sl (n + 7) 0 0 (x1).length) (Vq hn) rfl rfl ⟨⟨_, rfl, rfl⟩, trivial⟩ (Xk (r := .sl (n + 7) 0 0 (x1).length) (os := [⟨3, 1, Yv (Yw .i64) x1, 0⟩]) rfl Try.call54 (F_slices_Clone___int_int__ok h2 _ (Xi (Vq hn) rfl))) (Ya 0 rfl rfl rfl rfl) ⟨.same _ _ _ (Vo (fun _ => .int _ _)), trivial⟩ rfl) (ex1 4 rfl (Vr (f := 7) (k := 2) (m := 1) (os := [⟨3, 1, Yv (Yw .i64) x1, 0⟩]) (os' := [⟨3, 1, Yv (Yw .i64) x1, 1⟩]) (v := .sl (n + 7) 0 0 (x1).length) (Vq hn) rfl rfl ⟨⟨_, rfl, rfl⟩, trivial⟩ (Xk (r := .sl (n + 7) 0 0 (x1).length) (os := [⟨3, 1, Yv (Yw .i64) x1, 0⟩]) rfl Try.call54 (F_slices_Clone___int_int__ok h2 _ (Xi (Vq hn) rfl))) (Ya 0 rfl rfl rfl rfl) ⟨.same _ _ _ (Vo (fun _ => .int _ _)), trivial⟩ rfl) ex0)) ?_
  refine Xu _ rfl rfl (Xo (VRd.ntl (Vc rfl tf_34_2 ts_22 (by decide))) (Xo (VRd.ntl (Vc rfl tf_34_2 ts_22 (by decide))) (Xo (VRd.ntl (Vc rfl tf_34_2 ts_22 (by decide))) (Xo (VRd.ntl (Vc rfl tf_34_2 ts_22 (by decide))) rx0)))) ?_
  refine Xu _ rfl rfl (Xo (VRd.ntl (Vf rfl (Vi (Vq hn) rfl) rfl ta_22 rfl)) (Xo (VRd.ntl (Vf rfl (Vi (Vq hn) rfl) rfl ta_22 rfl)) (Xo (VRd.ntl (Vf rfl (Vi (Vq hn) rfl) rfl ta_22 rfl)) (Xo (VRd.ntl (Vf rfl (Vi (Vq hn) rfl) rfl ta_22 rfl)) rx0)))) ?_
  refine Yu _ rfl rfl (ex1 3 rfl (Vr (f := 7) (k := 3) (m := 1) (os := [⟨3, 1, Yv (Yw .i64) x3, 0⟩]) (os' := [⟨3, 1, Yv (Yw .i64) x3, 1⟩]) (v := .sl (n + 7) 0 0 (x3).length) (Vq hn) rfl rfl ⟨⟨_, rfl, rfl⟩, trivial⟩ (Xk (r := .sl (n + 7) 0 0 (x3).length) (os := [⟨3, 1, Yv (Yw .i64) x3, 0⟩]) rfl Try.call54 (F_slices_Clone___int_int__ok h4 _ (Xi (Vq hn) rfl))) (Ya 0 rfl rfl rfl rfl) ⟨.same _ _ _ (Vo (fun _ => .int _ _)), trivial⟩ rfl) (ex1 6 rfl (Vr (f := 7) (k := 3) (m := 1) (os := [⟨3, 1, Yv (Yw .i64) x3, 0⟩]) (os' := [⟨3, 1, Yv (Yw .i64) x3, 1⟩]) (v := .sl (n + 7) 0 0 (x3).length) (Vq hn) rfl rfl ⟨⟨_, rfl, rfl⟩, trivial⟩ (Xk (r := .sl (n + 7) 0 0 (x3).length) (os := [⟨3, 1, Yv (Yw .i64) x3, 0⟩]) rfl Try.call54 (F_slices_Clone___int_int__ok h4 _ (Xi (Vq hn) rfl))) (Ya 0 rfl rfl rfl rfl) ⟨.same _ _ _ (Vo (fun _ => .int _ _)), trivial⟩ rfl) ex0)) ?_
  refine Xu _ rfl rfl (Xo (VRd.ntl (Vc rfl tf_34_3 ts_32 (by decide))) (Xo (VRd.ntl (Vc rfl tf_34_3 ts_32 (by decide))) (Xo (VRd.ntl (Vc rfl tf_34_3 ts_32 (by decide))) (Xo (VRd.ntl (Vc rfl tf_34_3 ts_32 (by decide))) (Xo (VRd.ntl (Vc rfl tf_34_3 ts_32 (by decide))) (Xo (VRd.ntl (Vc rfl tf_34_3 ts_32 (by decide))) rx0)))))) ?_
  refine Xu _ rfl rfl (Xo (VRd.ntl (Vf rfl (Vi (Vq hn) rfl) rfl ta_32 rfl)) (Xo (VRd.ntl (Vf rfl (Vi (Vq hn) rfl) rfl ta_32 rfl)) (Xo (VRd.ntl (Vf rfl (Vi (Vq hn) rfl) rfl ta_32 rfl)) (Xo (VRd.ntl (Vf rfl (Vi (Vq hn) rfl) rfl ta_32 rfl)) (Xo (VRd.ntl (Vf rfl (Vi (Vq hn) rfl) rfl ta_32 rfl)) (Xo (VRd.ntl (Vf rfl (Vi (Vq hn) rfl) rfl ta_32 rfl)) rx0)))))) ?_
  refine Yu _ rfl rfl (ex1 5 rfl (Vr (f := 7) (k := 4) (m := 1) (os := [⟨4, 1, Yv Yx x5, 0⟩]) (os' := [⟨4, 1, Yv Yx x5, 1⟩]) (v := .sl (n + 7) 0 0 (x5).length) (Vq hn) rfl rfl ⟨⟨_, rfl, rfl⟩, trivial⟩ (Xk (r := .sl (n + 7) 0 0 (x5).length) (os := [⟨4, 1, Yv Yx x5, 0⟩]) rfl Try.call55 (F_slices_Clone___bool_bool__ok h6 _ (Xi (Vq hn) rfl))) (Ya 0 rfl rfl rfl rfl) ⟨.same _ _ _ (Vo (fun _ => .bool _)), trivial⟩ rfl) (ex1 8 rfl (Vr (f := 7) (k := 4) (m := 1) (os := [⟨4, 1, Yv Yx x5, 0⟩]) (os' := [⟨4, 1, Yv Yx x5, 1⟩]) (v := .sl (n + 7) 0 0 (x5).length) (Vq hn) rfl rfl ⟨⟨_, rfl, rfl⟩, trivial⟩ (Xk (r := .sl (n + 7) 0 0 (x5).length) (os := [⟨4, 1, Yv Yx x5, 0⟩]) rfl Try.call55 (F_slices_Clone___bool_bool__ok h6 _ (Xi (Vq hn) rfl))) (Ya 0 rfl rfl rfl rfl) ⟨.same _ _ _ (Vo (fun _ => .bool _)), trivial⟩ rfl) ex0)) ?_
  refine Xu _ rfl rfl (Xo (VRd.ntl (Vc rfl tf_34_4 ts_32 (by decide))) (Xo (VRd.ntl (Vc rfl tf_34_4 ts_32 (by decide))) (Xo (VRd.ntl (Vc rfl tf_34_4 ts_32 (by decide))) (Xo (VRd.ntl (Vc rfl tf_34_4 ts_32 (by decide))) (Xo (VRd.ntl (Vc rfl tf_34_4 ts_32 (by decide))) (Xo (VRd.ntl (Vc rfl tf_34_4 ts_32 (by decide))) (Xo (VRd.ntl (Vc rfl tf_34_4 ts_32 (by decide))) (Xo (VRd.ntl (Vc rfl tf_34_4 ts_32 (by decide))) rx0)))))))) ?_
  refine Xu _ rfl rfl (Xo (VRd.ntl (Vf rfl (Vi (Vq hn) rfl) rfl ta_32 rfl)) (Xo (VRd.ntl (Vf rfl (Vi (Vq hn) rfl) rfl ta_32 rfl)) (Xo (VRd.ntl (Vf rfl (Vi (Vq hn) rfl) rfl ta_32 rfl)) (Xo (VRd.ntl (Vf rfl (Vi (Vq hn) rfl) rfl ta_32 rfl)) (Xo (VRd.ntl (Vf rfl (Vi (Vq hn) rfl) rfl ta_32 rfl)) (Xo (VRd.ntl (Vf rfl (Vi (Vq hn) rfl) rfl ta_32 rfl)) (Xo (VRd.ntl (Vf rfl (Vi (Vq hn) rfl) rfl ta_32 rfl)) (Xo (VRd.ntl (Vf rfl (Vi (Vq hn) rfl) rfl ta_32 rfl)) rx0)))))))) ?_
  refine Yu _ rfl rfl (ex1 7 rfl (Vr (f := 7) (k := 5) (m := 1) (os := [⟨4, 1, Yv Yx x7, 0⟩]) (os' := [⟨4, 1, Yv Yx x7, 1⟩]) (v := .sl (n + 7) 0 0 (x7).length) (Vq hn) rfl rfl ⟨⟨_, rfl, rfl⟩, trivial⟩ (Xk (r := .sl (n + 7) 0 0 (x7).length) (os := [⟨4, 1, Yv Yx x7, 0⟩]) rfl Try.call55 (F_slices_Clone___bool_bool__ok h8 _ (Xi (Vq hn) rfl))) (Ya 0 rfl rfl rfl rfl) ⟨.same _ _ _ (Vo (fun _ => .bool _)), trivial⟩ rfl) (ex1 9 rfl (Vr (f := 7) (k := 5) (m := 1) (os := [⟨4, 1, Yv Yx x7, 0⟩]) (os' := [⟨4, 1, Yv Yx x7, 1⟩]) (v := .sl (n + 7) 0 0 (x7).length) (Vq hn) rfl rfl ⟨⟨_, rfl, rfl⟩, trivial⟩ (Xk (r := .sl (n + 7) 0 0 (x7).length) (os := [⟨4, 1, Yv Yx x7, 0⟩]) rfl Try.call55 (F_slices_Clone___bool_bool__ok h8 _ (Xi (Vq hn) rfl))) (Ya 0 rfl rfl rfl rfl) ⟨.same _ _ _ (Vo (fun _ => .bool _)), trivial⟩ rfl) ex0)) ?_
  refine Xu _ rfl rfl (Xo (VRd.ntl (rd_build (vs := [(0, .int .i64 p0.Time), (1, .sl (n + 2) 1 0 (x1).length), (2, .sl (n + 3) 1 0 (x3).length), (3, .sl (n + 4) 1 0 (x5).length), (4, .sl (n + 5) 1 0 (x7).length)]) (ds := [.int .i64 p0.Time, .sl (n + 2) 1 0 (x1).length, .sl (n + 3) 1 0 (x3).length, .sl (n + 4) 1 0 (x5).length, .sl (n + 5) 1 0 (x7).length]) tz_34 rfl rfl tp_34 ⟨rfl, rfl, rfl, rfl, rfl, rfl, rfl, rfl, rfl, rfl, trivial⟩ (nt_all2 rfl) rfl)) (Xo (VRd.ntl (rd_build (vs := [(0, .int .i64 p0.Time), (1, .sl (n + 2) 1 0 (x1).length), (2, .sl (n + 3) 1 0 (x3).length), (3, .sl (n + 4) 1 0 (x5).length), (4, .sl (n + 5) 1 0 (x7).length)]) (ds := [.int .i64 p0.Time, .sl (n + 2) 1 0 (x1).length, .sl (n + 3) 1 0 (x3).length, .sl (n + 4) 1 0 (x5).length, .sl (n + 5) 1 0 (x7).length]) tz_34 rfl rfl tp_34 ⟨rfl, rfl, rfl, rfl, rfl, rfl, rfl, rfl, rfl, rfl, trivial⟩ (nt_all2 rfl) rfl)) rx0)) ?_
  refine Yu _ rfl rfl (ex1 2 rfl (Vr (f := 7) (k := 6) (m := 1) (os := [⟨34, 5, [.agg [.int .i64 0, .nils, .nils, .nils, .nils]], 0⟩]) (os' := [⟨34, 5, [.agg [.int .i64 0, .nils, .nils, .nils, .nils]], 1⟩]) (v := .ptr (n + 7) 0 0 0) (Vq hn) rfl rfl ⟨⟨_, rfl, rfl⟩, trivial⟩ (Xm (Vq hn) rfl tz_34 rfl rfl (Za _) rfl) (mv_ptr 0 rfl rfl rfl rfl) ⟨.same _ _ _ (Xr ⟨(Xz ⟨.int _ _, .nils, .nils, .nils, .nils, trivial⟩), trivial⟩), trivial⟩ rfl) (ex1 4 rfl (Vr (f := 7) (k := 6) (m := 1) (os := [⟨34, 5, [.agg [.int .i64 0, .nils, .nils, .nils, .nils]], 0⟩]) (os' := [⟨34, 5, [.agg [.int .i64 0, .nils, .nils, .nils, .nils]], 1⟩]) (v := .ptr (n + 7) 0 0 0) (Vq hn) rfl rfl ⟨⟨_, rfl, rfl⟩, trivial⟩ (Xm (Vq hn) rfl tz_34 rfl rfl (Za _) rfl) (mv_ptr 0 rfl rfl rfl rfl) ⟨.same _ _ _ (Xr ⟨(Xz ⟨.int _ _, .nils, .nils, .nils, .nils, trivial⟩), trivial⟩), trivial⟩ rfl) (ex1 6 rfl (Vr (f := 7) (k := 6) (m := 1) (os := [⟨34, 5, [.agg [.int .i64 0, .nils, .nils, .nils, .nils]], 0⟩]) (os' := [⟨34, 5, [.agg [.int .i64 0, .nils, .nils, .nils, .nils]], 1⟩]) (v := .ptr (n + 7) 0 0 0) (Vq hn) rfl rfl ⟨⟨_, rfl, rfl⟩, trivial⟩ (Xm (Vq hn) rfl tz_34 rfl rfl (Za _) rfl) (mv_ptr 0 rfl rfl rfl rfl) ⟨.same _ _ _ (Xr ⟨(Xz ⟨.int _ _, .nils, .nils, .nils, .nils, trivial⟩), trivial⟩), trivial⟩ rfl) (ex1 8 rfl (Vr (f := 7) (k := 6) (m := 1) (os := [⟨34, 5, [.agg [.int .i64 0, .nils, .nils, .nils, .nils]], 0⟩]) (os' := [⟨34, 5, [.agg [.int .i64 0, .nils, .nils, .nils, .nils]], 1⟩]) (v := .ptr (n + 7) 0 0 0) (Vq hn) rfl rfl ⟨⟨_, rfl, rfl⟩, trivial⟩ (Xm (Vq hn) rfl tz_34 rfl rfl (Za _) rfl) (mv_ptr 0 rfl rfl rfl rfl) ⟨.same _ _ _ (Xr ⟨(Xz ⟨.int _ _, .nils, .nils, .nils, .nils, trivial⟩), trivial⟩), trivial⟩ rfl) (ex1 9 rfl (Vr (f := 7) (k := 6) (m := 1) (os := [⟨34, 5, [.agg [.int .i64 0, .nils, .nils, .nils, .nils]], 0⟩]) (os' := [⟨34, 5, [.agg [.int .i64 0, .nils, .nils, .nils, .nils]], 1⟩]) (v := .ptr (n + 7) 0 0 0) (Vq hn) rfl rfl ⟨⟨_, rfl, rfl⟩, trivial⟩ (Xm (Vq hn) rfl tz_34 rfl rfl (Za _) rfl) (mv_ptr 0 rfl rfl rfl rfl) ⟨.same _ _ _ (Xr ⟨(Xz ⟨.int _ _, .nils, .nils, .nils, .nils, trivial⟩), trivial⟩), trivial⟩ rfl) ex0))))) ?_
  refine Yu _ rfl rfl (ex1 10 rfl (Xn (p := .agg [.int .i64 p0.Time, .sl (n + 2) 1 0 (x1).length, .sl (n + 3) 1 0 (x3).length, .sl (n + 4) 1 0 (x5).length, .sl (n + 5) 1 0 (x7).length]) (e' := .agg [.int .i64 p0.Time, .sl (n + 2) 1 0 (x1).length, .sl (n + 3) 1 0 (x3).length, .sl (n + 4) 1 0 (x5).length, .sl (n + 5) 1 0 (x7).length]) rfl (Vi (Vq hn) rfl) rfl rfl ts_34 rfl (Yt rfl) rfl (Yz rfl) rfl (Yn (Vq hn) rfl)) ex0) ?_
  refine dopx_nil ?_
  refine Vg ?_
  refine Vd ?_
  obtain ⟨x9, h10, hF⟩ := Ym hF
  refine Va (rd_mvF rfl) rfl ?_
  refine Vk (vef_callS (ps := [((n + 6), ⟨34, 5, [.agg [.int .i64 x9.Time, .sl (n + 2) 1 0 (x1).length, .sl (n + 3) 1 0 (x3).length, .sl (n + 4) 1 0 (x5).length, .sl (n + 5) 1 0 (x7).length]], 1⟩), ((n + 2), ⟨3, 1, Yv (Yw .i64) x9.States, 1⟩), ((n + 3), ⟨3, 1, Yv (Yw .i64) x9.Since, 1⟩), ((n + 4), ⟨4, 1, Yv Yx x9.Pulled, 1⟩), ((n + 5), ⟨4, 1, Yv Yx x9.Held, 1⟩), (q0, ⟨3, 1, [.int .i64 pc10], w0⟩), (q1, ⟨27, 1, [.vs 2 (Yv T_Belt.enc pc11)], w1⟩)]) (r := .tup []) (os := []) (low1 := (setL low0 [(q0, ⟨3, 1, [.int .i64 pc10], w0⟩), (q1, ⟨27, 1, [.vs 2 (Yv T_Belt.enc pc11)], w1⟩)])) (loc1 := [⟨34, 5, [.agg [.int .i64 p0.Time, .vs 1 (Yv (Yw .i64) p0.States), .vs 1 (Yv (Yw .i64) p0.Since), .vs 1 (Yv Yx p0.Pulled), .vs 1 (Yv Yx p0.Held)]], 0⟩, ⟨34, 5, [.agg [.int .i64 0, .nils, .nils, .nils, .nils]], 0⟩, ⟨3, 1, Yv (Yw .i64) x9.States, 1⟩, ⟨3, 1, Yv (Yw .i64) x9.Since, 1⟩, ⟨4, 1, Yv Yx x9.Pulled, 1⟩, ⟨4, 1, Yv Yx x9.Held, 1⟩, ⟨34, 5, [.agg [.int .i64 x9.Time, .sl (n + 2) 1 0 (x1).length, .sl (n + 3) 1 0 (x3).length, .sl (n + 4) 1 0 (x5).length, .sl (n + 5) 1 0 (x7).length]], 1⟩]) (loc2 := [⟨34, 5, [.agg [.int .i64 p0.Time, .vs 1 (Yv (Yw .i64) p0.States), .vs 1 (Yv (Yw .i64) p0.Since), .vs 1 (Yv Yx p0.Pulled), .vs 1 (Yv Yx p0.Held)]], 0⟩, ⟨34, 5, [.agg [.int .i64 0, .nils, .nils, .nils, .nils]], 0⟩, ⟨3, 1, Yv (Yw .i64) x9.States, 1⟩, ⟨3, 1, Yv (Yw .i64) x9.Since, 1⟩, ⟨4, 1, Yv Yx x9.Pulled, 1⟩, ⟨4, 1, Yv Yx x9.Held, 1⟩, ⟨34, 5, [.agg [.int .i64 x9.Time, .sl (n + 2) 1 0 (x1).length, .sl (n + 3) 1 0 (x3).length, .sl (n + 4) 1 0 (x5).length, .sl (n + 5) 1 0 (x7).length]], 1⟩]) rfl Try.call34 (F_belts_Wait_1_ok h10 (nd1 (na1 (Yp rfl) (na1 (Yp rfl) (na1 (Yp rfl) (na1 (Yp rfl) (na1 (Yr hq0) (na1 (Yr hq1) na0)))))) (nd1 (na1 (Yp rfl) (na1 (Yp rfl) (na1 (Yp rfl) (na1 (Yr hq0) (na1 (Yr hq1) na0))))) (nd1 (na1 (Yp rfl) (na1 (Yp rfl) (na1 (Yr hq0) (na1 (Yr hq1) na0)))) (nd1 (na1 (Yp rfl) (na1 (Yr hq0) (na1 (Yr hq1) na0))) (nd1 (na1 (Yr hq0) (na1 (Yr hq1) na0)) (nd1 (na1 (hB.ne 0 1 rfl rfl rfl) na0) (nd1 na0 nd0))))))) (rfl : (x1).length = _) (rfl : (x3).length = _) (rfl : (x5).length = _) (rfl : (x7).length = _) (get_N (Vq hn) rfl) (get_N (Vq hn) rfl) (get_N (Vq hn) rfl) (get_N (Vq hn) rfl) (get_N (Vq hn) rfl) (get_B hB rfl 0 rfl) (get_B hB rfl 1 rfl) (Xi (Vq hn) rfl)) (Yi (loc2 := [⟨34, 5, [.agg [.int .i64 p0.Time, .vs 1 (Yv (Yw .i64) p0.States), .vs 1 (Yv (Yw .i64) p0.Since), .vs 1 (Yv Yx p0.Pulled), .vs 1 (Yv Yx p0.Held)]], 0⟩, ⟨34, 5, [.agg [.int .i64 0, .nils, .nils, .nils, .nils]], 0⟩, ⟨3, 1, Yv (Yw .i64) x1, 1⟩, ⟨3, 1, Yv (Yw .i64) x3, 1⟩, ⟨4, 1, Yv Yx x5, 1⟩, ⟨4, 1, Yv Yx x7, 1⟩, ⟨34, 5, [.agg [.int .i64 x9.Time, .sl (n + 2) 1 0 (x1).length, .sl (n + 3) 1 0 (x3).length, .sl (n + 4) 1 0 (x5).length, .sl (n + 5) 1 0 (x7).length]], 1⟩]) (Vq hn) 6 rfl (Yi (loc2 := [⟨34, 5, [.agg [.int .i64 p0.Time, .vs 1 (Yv (Yw .i64) p0.States), .vs 1 (Yv (Yw .i64) p0.Since), .vs 1 (Yv Yx p0.Pulled), .vs 1 (Yv Yx p0.Held)]], 0⟩, ⟨34, 5, [.agg [.int .i64 0, .nils, .nils, .nils, .nils]], 0⟩, ⟨3, 1, Yv (Yw .i64) x9.States, 1⟩, ⟨3, 1, Yv (Yw .i64) x3, 1⟩, ⟨4, 1, Yv Yx x5, 1⟩, ⟨4, 1, Yv Yx x7, 1⟩, ⟨34, 5, [.agg [.int .i64 x9.Time, .sl (n + 2) 1 0 (x1).length, .sl (n + 3) 1 0 (x3).length, .sl (n + 4) 1 0 (x5).length, .sl (n + 5) 1 0 (x7).length]], 1⟩]) (Vq hn) 2 rfl (Yi (loc2 := [⟨34, 5, [.agg [.int .i64 p0.Time, .vs 1 (Yv (Yw .i64) p0.States), .vs 1 (Yv (Yw .i64) p0.Since), .vs 1 (Yv Yx p0.Pulled), .vs 1 (Yv Yx p0.Held)]], 0⟩, ⟨34, 5, [.agg [.int .i64 0, .nils, .nils, .nils, .nils]], 0⟩, ⟨3, 1, Yv (Yw .i64) x9.States, 1⟩, ⟨3, 1, Yv (Yw .i64) x9.Since, 1⟩, ⟨4, 1, Yv Yx x5, 1⟩, ⟨4, 1, Yv Yx x7, 1⟩, ⟨34, 5, [.agg [.int .i64 x9.Time, .sl (n + 2) 1 0 (x1).length, .sl (n + 3) 1 0 (x3).length, .sl (n + 4) 1 0 (x5).length, .sl (n + 5) 1 0 (x7).length]], 1⟩]) (Vq hn) 3 rfl (Yi (loc2 := [⟨34, 5, [.agg [.int .i64 p0.Time, .vs 1 (Yv (Yw .i64) p0.States), .vs 1 (Yv (Yw .i64) p0.Since), .vs 1 (Yv Yx p0.Pulled), .vs 1 (Yv Yx p0.Held)]], 0⟩, ⟨34, 5, [.agg [.int .i64 0, .nils, .nils, .nils, .nils]], 0⟩, ⟨3, 1, Yv (Yw .i64) x9.States, 1⟩, ⟨3, 1, Yv (Yw .i64) x9.Since, 1⟩, ⟨4, 1, Yv Yx x9.Pulled, 1⟩, ⟨4, 1, Yv Yx x7, 1⟩, ⟨34, 5, [.agg [.int .i64 x9.Time, .sl (n + 2) 1 0 (x1).length, .sl (n + 3) 1 0 (x3).length, .sl (n + 4) 1 0 (x5).length, .sl (n + 5) 1 0 (x7).length]], 1⟩]) (Vq hn) 4 rfl (Yi (loc2 := [⟨34, 5, [.agg [.int .i64 p0.Time, .vs 1 (Yv (Yw .i64) p0.States), .vs 1 (Yv (Yw .i64) p0.Since), .vs 1 (Yv Yx p0.Pulled), .vs 1 (Yv Yx p0.Held)]], 0⟩, ⟨34, 5, [.agg [.int .i64 0, .nils, .nils, .nils, .nils]], 0⟩, ⟨3, 1, Yv (Yw .i64) x9.States, 1⟩, ⟨3, 1, Yv (Yw .i64) x9.Since, 1⟩, ⟨4, 1, Yv Yx x9.Pulled, 1⟩, ⟨4, 1, Yv Yx x9.Held, 1⟩, ⟨34, 5, [.agg [.int .i64 x9.Time, .sl (n + 2) 1 0 (x1).length, .sl (n + 3) 1 0 (x3).length, .sl (n + 4) 1 0 (x5).length, .sl (n + 5) 1 0 (x7).length]], 1⟩]) (Vq hn) 5 rfl (sets_B (ps0' := [(q0, ⟨3, 1, [.int .i64 pc10], w0⟩), (q1, ⟨27, 1, [.vs 2 (Yv T_Belt.enc pc11)], w1⟩)]) hB rfl 0 rfl (ltObjN hn ⟨.int _ _, trivial⟩) rfl (sets_B (ps0' := [(q0, ⟨3, 1, [.int .i64 pc10], w0⟩), (q1, ⟨27, 1, [.vs 2 (Yv T_Belt.enc pc11)], w1⟩)]) hB rfl 1 rfl (ltObjN hn ⟨.vs _ _, trivial⟩) rfl sets_nil))))))) rfl) rfl ?_
  refine Ve ?_
  refine Vg ?_
  refine Vd ?_
  refine Va (Xs (ds := [.int .i64 x9.Time, .sl (n + 2) 1 0 (x1).length, .sl (n + 3) 1 0 (x3).length, .sl (n + 4) 1 0 (x5).length, .sl (n + 5) 1 0 (x7).length]) rfl (Vi (Vq hn) rfl) rfl ta_34 ts_34 rfl rfl rfl) rfl ?_
  refine Vk (Xn (p := .agg [.int .i64 x9.Time, .sl (n + 2) 1 0 (x1).length, .sl (n + 3) 1 0 (x3).length, .sl (n + 4) 1 0 (x5).length, .sl (n + 5) 1 0 (x7).length]) (e' := .agg [.int .i64 x9.Time, .sl (n + 2) 1 0 (x1).length, .sl (n + 3) 1 0 (x3).length, .sl (n + 4) 1 0 (x5).length, .sl (n + 5) 1 0 (x7).length]) rfl (Vi (Vq hn) rfl) rfl rfl ts_34 rfl (Yt rfl) rfl (Yz rfl) rfl (Yn (Vq hn) rfl)) rfl ?_
  refine Ve ?_
  refine Vx ?_
  obtain rfl := Yy hF
  refine fnR ?_
  refine Weak.trans (Xy (E' := [(4, .ptr (n + 1) 0 0 0)]) (loc1 := [⟨34, 5, [.agg [.int .i64 p0.Time, .vs 1 (Yv (Yw .i64) p0.States), .vs 1 (Yv (Yw .i64) p0.Since), .vs 1 (Yv Yx p0.Pulled), .vs 1 (Yv Yx p0.Held)]], 0⟩, ⟨34, 5, [.agg [.int .i64 x9.Time, .sl (n + 2) 1 0 (x1).length, .sl (n + 3) 1 0 (x3).length, .sl (n + 4) 1 0 (x5).length, .vs 1 (Yv Yx x9.Held)]], 0⟩, ⟨3, 1, Yv (Yw .i64) x9.States, 1⟩, ⟨3, 1, Yv (Yw .i64) x9.Since, 1⟩, ⟨4, 1, Yv Yx x9.Pulled, 1⟩, ⟨4, 1, [], 1 + 1⟩, ⟨34, 5, [.agg [.int .i64 x9.Time, .sl (n + 2) 1 0 (x1).length, .sl (n + 3) 1 0 (x3).length, .sl (n + 4) 1 0 (x5).length, .vs 1 (Yv Yx x9.Held)]], 1⟩]) (Vq hn) 5 rfl (lt_map (fun _ => .bool _)) ⟨Vp rfl, trivial⟩ ⟨.refl _, cvo_agg ⟨Vp rfl, Vp rfl, Vp rfl, Vp rfl, cv_sl rfl rfl rfl (Yj (F_belts_Wait_1_len h10 (rfl : (x1).length = _) (rfl : (x3).length = _) (rfl : (x5).length = _) (rfl : (x7).length = _)).2.2.2.1), trivial⟩, .refl _, .refl _, .refl _, .refl _, cvo_agg ⟨Vp rfl, Vp rfl, Vp rfl, Vp rfl, cv_sl rfl rfl rfl (Yj (F_belts_Wait_1_len h10 (rfl : (x1).length = _) (rfl : (x3).length = _) (rfl : (x5).length = _) (rfl : (x7).length = _)).2.2.2.1), trivial⟩, trivial⟩) ?_
  exact Vu (Vq hn) [(2, 1), (3, 1), (4, 1), (1, 0)] (by decide) ⟨rn_ptr 3 1 rfl rfl, trivial⟩ ⟨⟨_, rfl, rfl, .same _ _ _ _ (Vo (fun _ => .int _ _))⟩, ⟨_, rfl, rfl, .same _ _ _ _ (Vo (fun _ => .int _ _))⟩, ⟨_, rfl, rfl, .same _ _ _ _ (Vo (fun _ => .bool _))⟩, ⟨_, rfl, rfl, .agg _ _ _ _ _ ⟨Vy rfl (.int _ _), rn_sl 0 2 rfl (congrArg (PV.sl _ _ 0) (F_belts_Wait_1_len h10 (rfl : (x1).length = _) (rfl : (x3).length = _) (rfl : (x5).length = _) (rfl : (x7).length = _)).1), rn_sl 1 3 rfl (congrArg (PV.sl _ _ 0) (F_belts_Wait_1_len h10 (rfl : (x1).length = _) (rfl : (x3).length = _) (rfl : (x5).length = _) (rfl : (x7).length = _)).2.1), rn_sl 2 4 rfl (congrArg (PV.sl _ _ 0) (F_belts_Wait_1_len h10 (rfl : (x1).length = _) (rfl : (x3).length = _) (rfl : (x5).length = _) (rfl : (x7).length = _)).2.2.1), Vy rfl (.vs _ _), trivial⟩⟩, trivial⟩
 ·rintro _ _ _ _ ⟨he, hw⟩
  refine ⟨_, _, _, hw, ?_⟩
  exact bodyQ_some (Vq hn) 3 rfl (Yz rfl) he [.agg [.int .i64 r.Time, .sl (n + 0) 0 0 (r.States).length, .sl (n + 1) 0 0 (r.Since).length, .sl (n + 2) 0 0 (r.Pulled).length, .vs 1 (Yv Yx r.Held)]] ⟨Xs rfl (Vi (Vq hn) rfl) rfl ta_34 ts_34 rfl rfl rfl, trivial⟩ ((Xz ⟨.int _ _, .sl _ _ _ _ (lt_kk rfl), .sl _ _ _ _ (lt_kk rfl), .sl _ _ _ _ (lt_kk rfl), .vs _ _, trivial⟩)) ⟨Vo (fun _ => .int _ _), Vo (fun _ => .int _ _), Vo (fun _ => .bool _), trivial⟩ ⟨rfl, rfl⟩

theorem F_belts_done__belts_Wait_1_ok {p0 : T_Line} {pc10 : Int} {pc11 : List T_Belt} {r : T_Line} (hF : F_belts_done__belts_Wait_1 p0 pc10 pc11 = some r) {low : List AObj} {q0 q1 w0 w1 : Nat} (hnd : [q0, q1].Nodup) (hq0 : low[q0]? = some ⟨3, 1, [.int .i64 pc10], w0⟩) (hq1 : low[q1]? = some ⟨27, 1, [.vs 2 (Yv T_Belt.enc pc11)], w1⟩) {n : Nat} (hn : low.length = n) :
    Yd Try.prog 31 [.agg [.int .i64 p0.Time, .vs 1 (Yv (Yw .i64) p0.States), .vs 1 (Yv (Yw .i64) p0.Since), .vs 1 (Yv Yx p0.Pulled), .vs 1 (Yv Yx p0.Held)], .fn 34 [] [.ptr q0 w0 0 0, .ptr q1 w1 0 0]] low fun x low' => x = .agg [.int .i64 r.Time, .sl (n + 0) 0 0 (r.States).length, .sl (n + 1) 0 0 (r.Since).length, .sl (n + 2) 0 0 (r.Pulled).length, .vs 1 (Yv Yx r.Held)] ∧ low' = setL low [(q0, ⟨3, 1, [.int .i64 pc10], w0⟩), (q1, ⟨27, 1, [.vs 2 (Yv T_Belt.enc pc11)], w1⟩)] ++ [⟨3, 1, Yv (Yw .i64) r.States, 0⟩, ⟨3, 1, Yv (Yw .i64) r.Since, 0⟩, ⟨4, 1, Yv Yx r.Pulled, 0⟩] := by
  obtain ⟨h1, h2⟩ := bor_start (ps := [(q0, ⟨3, 1, [.int .i64 pc10], w0⟩), (q1, ⟨27, 1, [.vs 2 (Yv T_Belt.enc pc11)], w1⟩)]) hnd (borC hq0 (borC hq1 bor0))
  exact vcalls_low h1 (F_belts_done__belts_Wait_1_ok0 hF h2 hn)

theorem F_belts_Wait_ok {p0 : List T_Belt} {p1 : T_Line} {p2 : Int} {r : T_Line × Int} (hF : F_belts_Wait p0 p1 p2 = some r) (low : List AObj) {n : Nat} (hn : low.length = n) :
    Yd Try.prog 14 [.vs 2 (Yv T_Belt.enc p0), .agg [.int .i64 p1.Time, .vs 1 (Yv (Yw .i64) p1.States), .vs 1 (Yv (Yw .i64) p1.Since), .vs 1 (Yv Yx p1.Pulled), .vs 1 (Yv Yx p1.Held)], .int .i64 p2] low fun x low' => x = .tup [.agg [.int .i64 r.1.Time, .vs 1 (Yv (Yw .i64) r.1.States), .vs 1 (Yv (Yw .i64) r.1.Since), .vs 1 (Yv Yx r.1.Pulled), .vs 1 (Yv Yx r.1.Held)], .int .i64 r.2] ∧ low' = low ++ [] := by
 refine Vw (nt := 24) (rs := [.cell 6 34, .tmp 7]) Try.func14 rfl rfl (Yz rfl) rfl ?_
 refine Vt (Q' := FnE (fun E' lw lc => Xv E' lw lc [(6, .ptr (n + 0) 0 0 0), (7, .int .i64 r.2)] low [⟨34, 5, [.agg [.int .i64 r.1.Time, .vs 1 (Yv (Yw .i64) r.1.States), .vs 1 (Yv (Yw .i64) r.1.Since), .vs 1 (Yv Yx r.1.Pulled), .vs 1 (Yv Yx r.1.Held)]], 0⟩])) ?_ ?_
 ·unfold F_belts_Wait at hF
  refine Vg ?_
  refine Vd ?_
  refine Vk (vef_boxN hn rfl (v := .vs 2 (Yv T_Belt.enc p0)) rfl rfl (Za _) rfl rfl) rfl ?_
  refine Vk (vef_boxN hn rfl (v := .agg [.int .i64 p1.Time, .vs 1 (Yv (Yw .i64) p1.States), .vs 1 (Yv (Yw .i64) p1.Since), .vs 1 (Yv Yx p1.Pulled), .vs 1 (Yv Yx p1.Held)]) rfl rfl (Za _) rfl rfl) rfl ?_
  refine Vk (vef_boxN hn rfl (v := .int .i64 p2) rfl rfl (Za _) rfl rfl) rfl ?_
  refine Vk (Xm hn rfl tz_34 rfl rfl (Za _) rfl) rfl ?_
  refine Va (Xa rfl) rfl ?_
  refine Ve ?_
  refine Vg ?_
  refine Xt ?_
  refine Vg ?_
  refine Vd ?_
  obtain ⟨x1, h2, hF⟩ := Ym hF
  refine Va (Vf rfl (Vi hn rfl) rfl ta_27 rfl) rfl ?_
  refine Va (Xs (ds := [.int .i64 p1.Time, .vs 1 (Yv (Yw .i64) p1.States), .vs 1 (Yv (Yw .i64) p1.Since), .vs 1 (Yv Yx p1.Pulled), .vs 1 (Yv Yx p1.Held)]) rfl (Vi hn rfl) rfl ta_34 ts_34 rfl rfl rfl) rfl ?_
  refine Vk (Xd rfl Try.call28 (F_belts_Valid_ok h2 _)) rfl ?_
  refine Va (rd_not rfl) rfl ?_
  refine Va (Xj rfl) rfl ?_
  refine Ve ?_
  refine Xc rfl (fun c3 => ?_) (fun c3 => ?_)
  ·have hF := Yg c3 hF
   refine Vg ?_
   refine Vd ?_
   refine Va (Xs (ds := [.int .i64 p1.Time, .vs 1 (Yv (Yw .i64) p1.States), .vs 1 (Yv (Yw .i64) p1.Since), .vs 1 (Yv Yx p1.Pulled), .vs 1 (Yv Yx p1.Held)]) rfl (Vi hn rfl) rfl ta_34 ts_34 rfl rfl rfl) rfl ?_
   refine Vk (Xn (p := .agg [.int .i64 p1.Time, .vs 1 (Yv (Yw .i64) p1.States), .vs 1 (Yv (Yw .i64) p1.Since), .vs 1 (Yv Yx p1.Pulled), .vs 1 (Yv Yx p1.Held)]) (e' := .agg [.int .i64 p1.Time, .vs 1 (Yv (Yw .i64) p1.States), .vs 1 (Yv (Yw .i64) p1.Since), .vs 1 (Yv Yx p1.Pulled), .vs 1 (Yv Yx p1.Held)]) rfl (Vi hn rfl) rfl rfl ts_34 rfl (Yt rfl) rfl (Yz rfl) rfl (Yn hn rfl)) rfl ?_
   refine Va (Xa rfl) rfl ?_
   refine Ve ?_
   refine Vx ?_
   obtain rfl := Yy hF
   refine fnR ?_
   exact Vu hn [(3, 0)] (by decide) ⟨rn_ptr 0 3 rfl rfl, Vy rfl (.int _ _), trivial⟩ ⟨⟨_, rfl, rfl, .same _ _ _ _ (Xr ⟨Xz ⟨.int _ _, .vs _ _, .vs _ _, .vs _ _, .vs _ _, trivial⟩, trivial⟩)⟩, trivial⟩
  ·have hF := Yh c3 hF
   refine Vg ?_
   refine Vd ?_
   obtain ⟨x4, h5, hF⟩ := Ym hF
   refine Va (Vf rfl (Vi hn rfl) rfl ta_3 rfl) rfl ?_
   refine Va (Vc rfl tf_34_0 ts_3 (by decide)) rfl ?_
   refine Va (Vf rfl (Vi hn rfl) rfl ta_3 rfl) rfl ?_
   refine Vk (Xd rfl Try.call33 (F_lists_In_ok h5 _)) rfl ?_
   refine Va (rd_not rfl) rfl ?_
   refine Va (Xj rfl) rfl ?_
   refine Ve ?_
   refine Xc rfl (fun c6 => ?_) (fun c6 => ?_)
   ·have hF := Yg c6 hF
    refine Vg ?_
    refine Vd ?_
    refine Va (Xs (ds := [.int .i64 p1.Time, .vs 1 (Yv (Yw .i64) p1.States), .vs 1 (Yv (Yw .i64) p1.Since), .vs 1 (Yv Yx p1.Pulled), .vs 1 (Yv Yx p1.Held)]) rfl (Vi hn rfl) rfl ta_34 ts_34 rfl rfl rfl) rfl ?_
    refine Vk (Xn (p := .agg [.int .i64 p1.Time, .vs 1 (Yv (Yw .i64) p1.States), .vs 1 (Yv (Yw .i64) p1.Since), .vs 1 (Yv Yx p1.Pulled), .vs 1 (Yv Yx p1.Held)]) (e' := .agg [.int .i64 p1.Time, .vs 1 (Yv (Yw .i64) p1.States), .vs 1 (Yv (Yw .i64) p1.Since), .vs 1 (Yv Yx p1.Pulled), .vs 1 (Yv Yx p1.Held)]) rfl (Vi hn rfl) rfl rfl ts_34 rfl (Yt rfl) rfl (Yz rfl) rfl (Yn hn rfl)) rfl ?_
    refine Va (Xa rfl) rfl ?_
    refine Ve ?_
    refine Vx ?_
    obtain rfl := Yy hF
    refine fnR ?_
    exact Vu hn [(3, 0)] (by decide) ⟨rn_ptr 0 3 rfl rfl, Vy rfl (.int _ _), trivial⟩ ⟨⟨_, rfl, rfl, .same _ _ _ _ (Xr ⟨Xz ⟨.int _ _, .vs _ _, .vs _ _, .vs _ _, .vs _ _, trivial⟩, trivial⟩)⟩, trivial⟩
   ·have hF := Yh c6 hF
    refine Xh ?_
    refine Vg ?_
    refine Vd ?_
    obtain ⟨x7, h8, hF⟩ := Ym hF
    refine Va (Xs (ds := [.int .i64 p1.Time, .vs 1 (Yv (Yw .i64) p1.States), .vs 1 (Yv (Yw .i64) p1.Since), .vs 1 (Yv Yx p1.Pulled), .vs 1 (Yv Yx p1.Held)]) rfl (Vi hn rfl) rfl ta_34 ts_34 rfl rfl rfl) rfl ?_
    refine Va (rd_makeFn rfl) rfl ?_
    refine Vk (vef_callS (ps := [((n + 2), ⟨3, 1, [.int .i64 p2], 0⟩), ((n + 0), ⟨27, 1, [.vs 2 (Yv T_Belt.enc p0)], 0⟩)]) (r := .agg [.int .i64 x7.Time, .sl (n + 4) 0 0 (x7.States).length, .sl (n + 5) 0 0 (x7.Since).length, .sl (n + 6) 0 0 (x7.Pulled).length, .vs 1 (Yv Yx x7.Held)]) (os := [⟨3, 1, Yv (Yw .i64) x7.States, 0⟩, ⟨3, 1, Yv (Yw .i64) x7.Since, 0⟩, ⟨4, 1, Yv Yx x7.Pulled, 0⟩]) (low1 := low) (loc1 := [⟨27, 1, [.vs 2 (Yv T_Belt.enc p0)], 0⟩, ⟨34, 5, [.agg [.int .i64 p1.Time, .vs 1 (Yv (Yw .i64) p1.States), .vs 1 (Yv (Yw .i64) p1.Since), .vs 1 (Yv Yx p1.Pulled), .vs 1 (Yv Yx p1.Held)]], 0⟩, ⟨3, 1, [.int .i64 p2], 0⟩, ⟨34, 5, [.agg [.int .i64 0, .nils, .nils, .nils, .nils]], 0⟩]) (loc2 := [⟨27, 1, [.vs 2 (Yv T_Belt.enc p0)], 0⟩, ⟨34, 5, [.agg [.int .i64 p1.Time, .vs 1 (Yv (Yw .i64) p1.States), .vs 1 (Yv (Yw .i64) p1.Since), .vs 1 (Yv Yx p1.Pulled), .vs 1 (Yv Yx p1.Held)]], 0⟩, ⟨3, 1, [.int .i64 p2], 0⟩, ⟨34, 5, [.agg [.int .i64 0, .nils, .nils, .nils, .nils]], 0⟩, ⟨3, 1, Yv (Yw .i64) x7.States, 0⟩, ⟨3, 1, Yv (Yw .i64) x7.Since, 0⟩, ⟨4, 1, Yv Yx x7.Pulled, 0⟩]) rfl Try.call31 (F_belts_done__belts_Wait_1_ok h8 (nd1 (na1 (Yp rfl) na0) (nd1 na0 nd0)) (get_N hn rfl) (get_N hn rfl) (Xi hn rfl)) (Yi (loc2 := [⟨27, 1, [.vs 2 (Yv T_Belt.enc p0)], 0⟩, ⟨34, 5, [.agg [.int .i64 p1.Time, .vs 1 (Yv (Yw .i64) p1.States), .vs 1 (Yv (Yw .i64) p1.Since), .vs 1 (Yv Yx p1.Pulled), .vs 1 (Yv Yx p1.Held)]], 0⟩, ⟨3, 1, [.int .i64 p2], 0⟩, ⟨34, 5, [.agg [.int .i64 0, .nils, .nils, .nils, .nils]], 0⟩]) hn 2 rfl (Yi (loc2 := [⟨27, 1, [.vs 2 (Yv T_Belt.enc p0)], 0⟩, ⟨34, 5, [.agg [.int .i64 p1.Time, .vs 1 (Yv (Yw .i64) p1.States), .vs 1 (Yv (Yw .i64) p1.Since), .vs 1 (Yv Yx p1.Pulled), .vs 1 (Yv Yx p1.Held)]], 0⟩, ⟨3, 1, [.int .i64 p2], 0⟩, ⟨34, 5, [.agg [.int .i64 0, .nils, .nils, .nils, .nils]], 0⟩]) hn 0 rfl sets_nil)) rfl) rfl ?_
    refine Vk (Xn (p := .agg [.int .i64 x7.Time, .sl (n + 4) 0 0 (x7.States).length, .sl (n + 5) 0 0 (x7.Since).length, .sl (n + 6) 0 0 (x7.Pulled).length, .vs 1 (Yv Yx x7.Held)]) (e' := .agg [.int .i64 x7.Time, .sl (n + 4) 0 0 (x7.States).length, .sl (n + 5) 0 0 (x7.Since).length, .sl (n + 6) 0 0 (x7.Pulled).length, .vs 1 (Yv Yx x7.Held)]) rfl (Vi hn rfl) rfl rfl ts_34 rfl (Yt rfl) rfl (Yz rfl) rfl (Yn hn rfl)) rfl ?_
    refine Va (Xa rfl) rfl ?_
    refine Ve ?_
    refine Vx ?_
    obtain rfl := Yy hF
    refine fnR ?_
    refine Weak.trans (Xy (E' := [(6, .ptr (n + 3) 0 0 0), (7, .int .i64 0)]) (loc1 := [⟨27, 1, [.vs 2 (Yv T_Belt.enc p0)], 0⟩, ⟨34, 5, [.agg [.int .i64 p1.Time, .vs 1 (Yv (Yw .i64) p1.States), .vs 1 (Yv (Yw .i64) p1.Since), .vs 1 (Yv Yx p1.Pulled), .vs 1 (Yv Yx p1.Held)]], 0⟩, ⟨3, 1, [.int .i64 p2], 0⟩, ⟨34, 5, [.agg [.int .i64 x7.Time, .vs 1 (Yv (Yw .i64) x7.States), .sl (n + 5) 0 0 (x7.Since).length, .sl (n + 6) 0 0 (x7.Pulled).length, .vs 1 (Yv Yx x7.Held)]], 0⟩, ⟨3, 1, [], 0 + 1⟩, ⟨3, 1, Yv (Yw .i64) x7.Since, 0⟩, ⟨4, 1, Yv Yx x7.Pulled, 0⟩]) hn 4 rfl (lt_map (fun _ => .int _ _)) ⟨Vp rfl, Vp rfl, trivial⟩ ⟨.refl _, .refl _, .refl _, cvo_agg ⟨Vp rfl, cv_sl rfl rfl rfl (Yj rfl), Vp rfl, Vp rfl, Vp rfl, trivial⟩, .refl _, .refl _, .refl _, trivial⟩) ?_
    refine Weak.trans (Xy (E' := [(6, .ptr (n + 3) 0 0 0), (7, .int .i64 0)]) (loc1 := [⟨27, 1, [.vs 2 (Yv T_Belt.enc p0)], 0⟩, ⟨34, 5, [.agg [.int .i64 p1.Time, .vs 1 (Yv (Yw .i64) p1.States), .vs 1 (Yv (Yw .i64) p1.Since), .vs 1 (Yv Yx p1.Pulled), .vs 1 (Yv Yx p1.Held)]], 0⟩, ⟨3, 1, [.int .i64 p2], 0⟩, ⟨34, 5, [.agg [.int .i64 x7.Time, .vs 1 (Yv (Yw .i64) x7.States), .vs 1 (Yv (Yw .i64) x7.Since), .sl (n + 6) 0 0 (x7.Pulled).length, .vs 1 (Yv Yx x7.Held)]], 0⟩, ⟨3, 1, [], 0 + 1⟩, ⟨3, 1, [], 0 + 1⟩, ⟨4, 1, Yv Yx x7.Pulled, 0⟩]) hn 5 rfl (lt_map (fun _ => .int _ _)) ⟨Vp rfl, Vp rfl, trivial⟩ ⟨.refl _, .refl _, .refl _, cvo_agg ⟨Vp rfl, Vp rfl, cv_sl rfl rfl rfl (Yj rfl), Vp rfl, Vp rfl, trivial⟩, .refl _, .refl _, .refl _, trivial⟩) ?_
    refine Weak.trans (Xy (E' := [(6, .ptr (n + 3) 0 0 0), (7, .int .i64 0)]) (loc1 := [⟨27, 1, [.vs 2 (Yv T_Belt.enc p0)], 0⟩, ⟨34, 5, [.agg [.int .i64 p1.Time, .vs 1 (Yv (Yw .i64) p1.States), .vs 1 (Yv (Yw .i64) p1.Since), .vs 1 (Yv Yx p1.Pulled), .vs 1 (Yv Yx p1.Held)]], 0⟩, ⟨3, 1, [.int .i64 p2], 0⟩, ⟨34, 5, [.agg [.int .i64 x7.Time, .vs 1 (Yv (Yw .i64) x7.States), .vs 1 (Yv (Yw .i64) x7.Since), .vs 1 (Yv Yx x7.Pulled), .vs 1 (Yv Yx x7.Held)]], 0⟩, ⟨3, 1, [], 0 + 1⟩, ⟨3, 1, [], 0 + 1⟩, ⟨4, 1, [], 0 + 1⟩]) hn 6 rfl (lt_map (fun _ => .bool _)) ⟨Vp rfl, Vp rfl, trivial⟩ ⟨.refl _, .refl _, .refl _, cvo_agg ⟨Vp rfl, Vp rfl, Vp rfl, cv_sl rfl rfl rfl (Yj rfl), Vp rfl, trivial⟩, .refl _, .refl _, .refl _, trivial⟩) ?_
    exact Vu hn [(3, 0)] (by decide) ⟨rn_ptr 0 3 rfl rfl, Vy rfl (.int _ _), trivial⟩ ⟨⟨_, rfl, rfl, .same _ _ _ _ (Xr ⟨Xz ⟨.int _ _, .vs _ _, .vs _ _, .vs _ _, .vs _ _, trivial⟩, trivial⟩)⟩, trivial⟩
 ·rintro _ _ _ _ ⟨he, hw⟩
  refine ⟨_, _, _, hw, ?_⟩
  exact bodyQ_some hn 0 rfl (Yz rfl) he [.agg [.int .i64 r.1.Time, .vs 1 (Yv (Yw .i64) r.1.States), .vs 1 (Yv (Yw .i64) r.1.Since), .vs 1 (Yv Yx r.1.Pulled), .vs 1 (Yv Yx r.1.Held)], .int .i64 r.2] ⟨Xs rfl (Vi hn rfl) rfl ta_34 ts_34 rfl rfl rfl, rfl, trivial⟩ ((lt_tup ⟨(Xz ⟨.int _ _, .vs _ _, .vs _ _, .vs _ _, .vs _ _, trivial⟩), .int _ _, trivial⟩)) trivial ⟨rfl, rfl⟩

theorem F_belts_throws_ok {p0 : List T_Belt} {p1 : Int} {p2 : Int} {r : Bool} (hF : F_belts_throws p0 p1 p2 = some r) (low : List AObj) :
    Yd Try.prog 39 [.vs 2 (Yv T_Belt.enc p0), .int .i64 p1, .int .i64 p2] low fun x low' => x = .bool r ∧ low' = low := by
 refine Vw (nt := 23) (rs := [.tmp 6]) Try.func39 rfl rfl (Yz rfl) rfl ?_
 refine Vt (Q' := FnE (fun E' lw lc => Xv E' lw lc [(6, .bool r)] low [])) ?_ ?_
 ·unfold F_belts_throws at hF
  refine Vg ?_
  refine Vd ?_
  refine Va (Xj rfl) rfl ?_
  refine Ve ?_
  refine Vg ?_
  refine Vg ?_
  refine Vd ?_
  obtain ⟨x1, h2, hF⟩ := Ym hF
  refine Va (Xg rfl) rfl ?_
  refine Va (Vh rfl) rfl ?_
  refine Va (Xb (Yb rfl rfl h2 te_27 ts_31) (v' := .vptr [.int .i64 x1.Onto, .int .i64 x1.Warn] 0) rfl) rfl ?_
  refine Va (rd_fieldVaddr rfl tf_31_0 ts_3 (by decide)) rfl ?_
  refine Va (Vz rfl ta_3 rfl) rfl ?_
  refine Va (Xa rfl) rfl ?_
  refine Ve ?_
  refine Xt ?_
  obtain ⟨o4, ho4, hF⟩ := Ym hF
  refine Vt (vwp_loopC (F_belts_throws_L1 p0 p2) (fun s3 E' lw lc => Xv E' lw lc [(0, .vs 2 (Yv T_Belt.enc p0)), (2, .int .i64 p2), (7, .int .i64 s3)] low []) (Sum.elim (fun j5 => OnlyE .ret (fun E' lw lc => Xv E' lw lc [(6, .bool true)] low [])) (fun j6 => OnlyE (.exit 0) (fun E' lw lc => Xv E' lw lc [] low []))) ho4 ?_ (by rintro (_|_) _ _ _ ⟨h, _⟩ <;> cases h) ?_) ?_
  ·exact Vn ⟨rfl, rfl, rfl, trivial⟩
  ·rintro s3 os3 _ _ _ hF hw
   unfold F_belts_throws_L1 at hF
   refine Xw hw ?_
   refine Vg ?_
   refine Vg ?_
   refine Vd ?_
   refine Va (Vh rfl) rfl ?_
   refine Va (rd_geq rfl rfl) rfl ?_
   refine Ve ?_
   refine Xc rfl (fun c7 => ?_) (fun c7 => ?_)
   ·have hF := Yg c7 hF
    refine Xh ?_
    refine Vg ?_
    refine Xt ?_
    refine Vg ?_
    refine Vd ?_
    refine Va (Vh rfl) rfl ?_
    refine Va (Vh rfl) rfl ?_
    refine Va (Vs rfl rfl) rfl ?_
    refine Ve ?_
    refine Xc rfl (fun c8 => ?_) (fun c8 => ?_)
    ·have hF := Yg c8 hF
     refine Vg ?_
     refine Vd ?_
     refine Va (Xj rfl) rfl ?_
     refine Ve ?_
     refine Vx ?_
     obtain rfl := Yy hF
     refine Xq ?_
     exact Vn ⟨rfl, trivial⟩
    ·have hF := Yh c8 hF
     refine Xh ?_
     refine Vd ?_
     obtain ⟨x9, h10, hF⟩ := Ym hF
     refine Va (Xg rfl) rfl ?_
     refine Va (Vh rfl) rfl ?_
     refine Va (Xb (Yb rfl rfl h10 te_27 ts_31) (v' := .vptr [.int .i64 x9.Onto, .int .i64 x9.Warn] 0) rfl) rfl ?_
     refine Va (rd_fieldVaddr rfl tf_31_0 ts_3 (by decide)) rfl ?_
     refine Va (Vz rfl ta_3 rfl) rfl ?_
     refine Va (Xa rfl) rfl ?_
     refine Ve ?_
     obtain rfl := Yy hF
     refine Xq ?_
     exact Vn ⟨rfl, rfl, rfl, trivial⟩
   ·have hF := Yh c7 hF
    refine vwp_exit ?_
    obtain rfl := Yy hF
    refine Xq ?_
    exact Vn trivial
  ·rcases o4 with j5 | j6
   ·replace hF := elimL hF
    rintro _ _ _ _ ⟨rfl, hw⟩
    refine ⟨_, _, _, hw, ?_⟩
    obtain rfl := Yy hF
    refine fnR ?_
    exact Vn ⟨rfl, trivial⟩
   ·replace hF := elimR hF
    rintro _ _ _ _ ⟨rfl, hw⟩
    refine ⟨_, _, _, hw, ?_⟩
    refine Vg ?_
    refine Vd ?_
    refine Va (Xj rfl) rfl ?_
    refine Ve ?_
    refine Vx ?_
    obtain rfl := Yy hF
    refine fnR ?_
    exact Vn ⟨rfl, trivial⟩
 ·rintro _ _ _ _ ⟨he, hw⟩
  refine ⟨_, _, _, hw, ?_⟩
  exact Ye he [.bool r] ⟨rfl, trivial⟩ (.bool _) ⟨rfl, rfl⟩

end Go.Proofs.Ytmomjhbinkmefaa
