/- Printed by wip/lift/lift.py: the walks that show that the program computes them. -/
import Derived.Test.YtnmimlcnifflbaaL08DoorChecksW1
namespace Go.Proofs.Ytnmimlcnifflbaa
open Go Go.Aml Go.L
attribute [local irreducible] VRd VEf VOp VOps VWp DOps
set_option linter.unusedVariables false
open Go.Aml renaming vops_rd → Va, vops_skip → Vb, vwp_region → Vc, vops_nil → Vd, vwp_seq → Ve, rd_fieldAddr → Vf, weak_sub → Vg, vops_efE → Vh, rd_mvI → Vi, getO_N → Vj, rd_load1 → Vk, rd_mvB → Vl, vwp_monoW → Vm, rn_low → Vn, rd_pickT → Vo, vwp_cond → Vp, vops_skipX → Vq, rd_pickF → Vr, rd_mvV → Vs, rd_asI → Vt, onlyE → Vu, vwp_skip → Vv, rd_to → Vw, vwp_ret → Vx, vt1 → Vy, weak_pick → Vz, vef_callP → Xa, vcalls_of_body → Xb, rd_loadV1 → Xc, rd_lenV → Xd, vwp_block → Xe, dops_skip → Xf, rd_ixV → Xg, rd_lss → Xh, Weak → Xi, bifT → Xj, bifF → Xk, vef_store → Xl, bodyQ_pure → Xm, dops_rdW → Xn, dr1 → Xo, all1 → Xp, rd_asB → Xq, bnd → Xr, lenS → Xs, setO_N → Xt, rd_mvP → Xu, vef_callS → Xv, rd_eql → Xw, getI_some → Xx, VCalls → Xy, neT → Xz, rd_neq → Ya, lt_agg → Yb, rd_nilPtr → Yc, sets_nil → Yd, vwp_loopC → Ye, dops_nil → Yf
open List renaming map → Yg
open Go.Aml.PV renaming int → Yh
open Go.Aml.PV renaming bool → Yi
open Option.some renaming inj → Yj
open Nat renaming le_of_ble_eq_true → Yk
open Nat renaming succ_pos → Yl
open Bool renaming eq_false_or_eq_true → Ym
open List renaming length_map → Yn
set_option maxHeartbeats 4000000

theorem F_ref08_Check_ok {p0 : List T_Door} {r : Int} (hF : F_ref08_Check p0 = some r) (low : List AObj) :
    Xy Try.prog 11 [.vs 3 (Yg T_Door.enc p0)] low fun x low' => x = .int .i64 r ∧ low' = low := by
 refine Xb (nt := 104) (rs := [.tmp 2]) Try.func11 rfl rfl (Yk rfl) rfl ?_
 refine Vm (Q' := FnE (fun E' lw lc => Xi E' lw lc [(2, .int .i64 r)] low [])) ?_ ?_
 ·unfold F_ref08_Check at hF
  refine Ve ?_
  refine Vc ?_
  refine Va (Vt rfl) rfl ?_
  refine Vd ?_
  refine Ve ?_
  refine Ve ?_
  refine Vc ?_
  refine Va (Vs rfl) rfl ?_
  refine Va (Vw (Xd rfl rfl te_23) (congrArg (fun n : Nat => Yh .i64 (n : Int)) (Yn _))) rfl ?_
  refine Va (rd_gtr rfl rfl) rfl ?_
  refine Vd ?_
  refine Vp rfl (fun c1 => ?_) (fun c1 => ?_)
  ·have hF := Xj c1 hF
   refine Ve ?_
   refine Vc ?_
   refine Va (Vt rfl) rfl ?_
   refine Vd ?_
   refine Vx ?_
   obtain rfl := Yj hF
   refine fnR ?_
   exact Vg ⟨rfl, trivial⟩
  ·have hF := Xk c1 hF
   refine Vv ?_
   refine Ve ?_
   refine Ve ?_
   refine Vc ?_
   refine Va (Vt rfl) rfl ?_
   refine Vd ?_
   refine Xe ?_
   obtain ⟨o3, ho3, hF⟩ := Xr hF
   refine Vm (Ye (F_ref08_Check_L1 p0) (fun s2 E' lw lc => Xi E' lw lc [(0, .vs 3 (Yg T_Door.enc p0)), (3, .int .i64 s2)] low []) (Sum.elim (fun j4 => OnlyE .ret (fun E' lw lc => Xi E' lw lc [(2, .int .i64 j4)] low [])) (fun j5 => OnlyE (.exit 0) (fun E' lw lc => Xi E' lw lc [] low []))) ho3 ?_ (by rintro (_|_) _ _ _ ⟨h, _⟩ <;> cases h) ?_) ?_
   ·exact Vg ⟨rfl, rfl, trivial⟩
   ·rintro s2 os2 _ _ _ hF hw
    unfold F_ref08_Check_L1 at hF
    refine vwp_weak hw ?_
    refine Ve ?_
    refine Ve ?_
    refine Vc ?_
    refine Va (Vi rfl) rfl ?_
    refine Va (Vs rfl) rfl ?_
    refine Va (Vw (Xd rfl rfl te_23) (congrArg (fun n : Nat => Yh .i64 (n : Int)) (Yn _))) rfl ?_
    refine Va (Xh rfl rfl) rfl ?_
    refine Vd ?_
    refine Vp rfl (fun c6 => ?_) (fun c6 => ?_)
    ·have hF := Xj c6 hF
     refine Vv ?_
     refine Ve ?_
     refine Xe ?_
     refine Ve ?_
     refine Vc ?_
     obtain ⟨x7, h8, hF⟩ := Xr hF
     refine Va (Vs rfl) rfl ?_
     refine Va (Vi rfl) rfl ?_
     refine Va (Vw (Xg rfl rfl h8 te_23 ts_36) (v' := .vptr [.int .i64 x7.Road, .int .i64 x7.Other, .vs 1 (Yg (Yh .i64) x7.Rests)] 0) rfl) rfl ?_
     refine Va (rd_loadVN (ds := [.int .i64 x7.Road, .int .i64 x7.Other, .vs 1 (Yg (Yh .i64) x7.Rests)]) rfl ta_36 ts_36 rfl rfl) rfl ?_
     refine Vh (vef_allocN rfl rfl tz_36 rfl rfl (Yl _) rfl) rfl ?_
     refine Vh (Xl (p := .agg [.int .i64 x7.Road, .int .i64 x7.Other, .vs 1 (Yg (Yh .i64) x7.Rests)]) (e' := .agg [.int .i64 x7.Road, .int .i64 x7.Other, .vs 1 (Yg (Yh .i64) x7.Rests)]) rfl (Vj rfl rfl) rfl rfl ts_36 rfl (nt_ne rfl) rfl (Yk rfl) rfl (Xt rfl rfl)) rfl ?_
     refine Vd ?_
     refine Ve ?_
     refine Ve ?_
     refine Vc ?_
     refine Va (Vf rfl tf_36_0 ts_3 (by decide)) rfl ?_
     refine Va (Vk rfl (Vj rfl rfl) rfl ta_3 rfl) rfl ?_
     refine Va (Xh rfl rfl) rfl ?_
     refine Vd ?_
     refine Vp rfl (fun c9 => ?_) (fun c9 => ?_)
     ·have hF := Xj c9 hF
      refine Ve ?_
      refine Vc ?_
      refine Va (Vt rfl) rfl ?_
      refine Vd ?_
      refine Vx ?_
      obtain rfl := Yj hF
      refine Vu ?_
      exact Vz rfl [] (by decide) ⟨Vn rfl (.int _ _), trivial⟩ trivial
     ·have hF := Xk c9 hF
      refine Vv ?_
      refine Ve ?_
      refine Ve ?_
      obtain ⟨o10, ho10, hF⟩ := Xr hF
      refine Vm (Q' := (fun o10 => OnlyE .normal (fun E' lw lc => Xi E' lw lc [(0, .vs 3 (Yg T_Door.enc p0)), (3, .int .i64 s2), (4, .ptr (low.length + 0) 0 0 0), (32, .bool o10)] low [⟨36, 3, [.agg [.int .i64 x7.Road, .int .i64 x7.Other, .vs 1 (Yg (Yh .i64) x7.Rests)]], 0⟩])) o10) ?_ ?_
      ·replace hF := ho10
       refine Vc ?_
       rcases Ym (decide (((x7.Rests).length : Int) < 2)) with c11 | c11
       ·have hF := Xj c11 hF
        refine Va (Vf rfl tf_36_2 ts_25 (by decide)) rfl ?_
        refine Va (Vk rfl (Vj rfl rfl) rfl ta_25 rfl) rfl ?_
        refine Va (Vw (Xd rfl rfl te_25) (congrArg (fun n : Nat => Yh .i64 (n : Int)) (Yn _))) rfl ?_
        refine Va (Xh rfl rfl) rfl ?_
        refine Va (Vl rfl) rfl ?_
        refine Vb rfl rfl (Xz c11) rfl ?_
        refine Vb rfl rfl (Xz c11) rfl ?_
        refine Vb rfl rfl (Xz c11) rfl ?_
        refine Vb rfl rfl (Xz c11) rfl ?_
        refine Va (Vo (congrArg Yi c11) rfl) rfl ?_
        refine Vd ?_
        obtain rfl := Yj hF
        refine Vu ?_
        exact Vg ⟨rfl, rfl, rfl, rfl, trivial⟩
       ·have hF := Xk c11 hF
        refine Va (Vf rfl tf_36_2 ts_25 (by decide)) rfl ?_
        refine Va (Vk rfl (Vj rfl rfl) rfl ta_25 rfl) rfl ?_
        refine Va (Vw (Xd rfl rfl te_25) (congrArg (fun n : Nat => Yh .i64 (n : Int)) (Yn _))) rfl ?_
        refine Va (Xh rfl rfl) rfl ?_
        refine Va (Vl rfl) rfl ?_
        refine Vy rfl rfl c11 ?_
        refine Va (Vf rfl tf_36_2 ts_25 (by decide)) rfl ?_
        refine Vy rfl rfl c11 ?_
        refine Va (Vk rfl (Vj rfl rfl) rfl ta_25 rfl) rfl ?_
        refine Vy rfl rfl c11 ?_
        refine Va (Vw (Xd rfl rfl te_25) (congrArg (fun n : Nat => Yh .i64 (n : Int)) (Yn _))) rfl ?_
        refine Vy rfl rfl c11 ?_
        refine Va (rd_gtr rfl rfl) rfl ?_
        refine Va (Vr (congrArg Yi c11) rfl) rfl ?_
        refine Vd ?_
        obtain rfl := Yj hF
        refine Vu ?_
        exact Vg ⟨rfl, rfl, rfl, rfl, trivial⟩
      ·rintro _ _ _ _ ⟨rfl, hw⟩
       refine ⟨_, _, _, hw, ?_⟩
       refine Vp rfl (fun c12 => ?_) (fun c12 => ?_)
       ·have hF := Xj c12 hF
        refine Ve ?_
        refine Vc ?_
        refine Va (Vt rfl) rfl ?_
        refine Vd ?_
        refine Vx ?_
        obtain rfl := Yj hF
        refine Vu ?_
        exact Vz rfl [] (by decide) ⟨Vn rfl (.int _ _), trivial⟩ trivial
       ·have hF := Xk c12 hF
        refine Vv ?_
        refine Ve ?_
        refine Ve ?_
        refine Vc ?_
        refine Va (Vt rfl) rfl ?_
        refine Vd ?_
        refine Xe ?_
        obtain ⟨o14, ho14, hF⟩ := Xr hF
        refine Vm (Ye (F_ref08_Check_L2 x7) (fun s13 E' lw lc => Xi E' lw lc [(0, .vs 3 (Yg T_Door.enc p0)), (3, .int .i64 s2), (4, .ptr (low.length + 0) 0 0 0), (5, .int .i64 s13)] low [⟨36, 3, [.agg [.int .i64 x7.Road, .int .i64 x7.Other, .vs 1 (Yg (Yh .i64) x7.Rests)]], 0⟩]) (Sum.elim (fun j15 => OnlyE .ret (fun E' lw lc => Xi E' lw lc [(2, .int .i64 1)] low [])) (fun j16 => OnlyE (.exit 2) (fun E' lw lc => Xi E' lw lc [(0, .vs 3 (Yg T_Door.enc p0)), (3, .int .i64 s2), (4, .ptr (low.length + 0) 0 0 0)] low [⟨36, 3, [.agg [.int .i64 x7.Road, .int .i64 x7.Other, .vs 1 (Yg (Yh .i64) x7.Rests)]], 0⟩]))) ho14 ?_ (by rintro (_|_) _ _ _ ⟨h, _⟩ <;> cases h) ?_) ?_
        ·exact Vg ⟨rfl, rfl, rfl, rfl, trivial⟩
        ·rintro s13 os13 _ _ _ hF hw
         unfold F_ref08_Check_L2 at hF
         refine vwp_weak hw ?_
         refine Ve ?_
         refine Ve ?_
         refine Vc ?_
         refine Va (Vi rfl) rfl ?_
         refine Va (Vf rfl tf_36_2 ts_25 (by decide)) rfl ?_
         refine Va (Vk rfl (Vj rfl rfl) rfl ta_25 rfl) rfl ?_
         refine Va (Vw (Xd rfl rfl te_25) (congrArg (fun n : Nat => Yh .i64 (n : Int)) (Yn _))) rfl ?_
         refine Va (Xh rfl rfl) rfl ?_
         refine Vd ?_
         refine Vp rfl (fun c17 => ?_) (fun c17 => ?_)
         ·have hF := Xj c17 hF
          refine Vv ?_
          refine Ve ?_
          refine Xe ?_
          refine Ve ?_
          obtain ⟨o18, ho18, hF⟩ := Xr hF
          refine Vm (Q' := (fun o18 => OnlyE .normal (fun E' lw lc => Xi E' lw lc [(0, .vs 3 (Yg T_Door.enc p0)), (3, .int .i64 s2), (4, .ptr (low.length + 0) 0 0 0), (5, .int .i64 s13), (53, .bool o18)] low [⟨36, 3, [.agg [.int .i64 x7.Road, .int .i64 x7.Other, .vs 1 (Yg (Yh .i64) x7.Rests)]], 0⟩])) o18) ?_ ?_
          ·replace hF := ho18
           refine Vc ?_
           obtain ⟨x19, h20, hF⟩ := Xr hF
           rcases Ym (decide (x19 < 0)) with c21 | c21
           ·have hF := Xj c21 hF
            refine Va (Vf rfl tf_36_2 ts_25 (by decide)) rfl ?_
            refine Va (Vk rfl (Vj rfl rfl) rfl ta_25 rfl) rfl ?_
            refine Va (Vi rfl) rfl ?_
            refine Va (Vw (Xg rfl rfl h20 te_25 ts_3) (v' := .vptr [.int .i64 x19] 0) rfl) rfl ?_
            refine Va (Xc rfl ta_3 rfl) rfl ?_
            refine Va (Xh rfl rfl) rfl ?_
            refine Va (Vl rfl) rfl ?_
            refine Vb rfl rfl (Xz c21) rfl ?_
            refine Vb rfl rfl (Xz c21) rfl ?_
            refine Vb rfl rfl (Xz c21) rfl ?_
            refine Vb rfl rfl (Xz c21) rfl ?_
            refine Vb rfl rfl (Xz c21) rfl ?_
            refine Vb rfl rfl (Xz c21) rfl ?_
            refine Va (Vo (congrArg Yi c21) rfl) rfl ?_
            refine Vd ?_
            obtain rfl := Yj hF
            refine Vu ?_
            exact Vg ⟨rfl, rfl, rfl, rfl, rfl, trivial⟩
           ·have hF := Xk c21 hF
            obtain ⟨x22, h23, hF⟩ := Xr hF
            refine Va (Vf rfl tf_36_2 ts_25 (by decide)) rfl ?_
            refine Va (Vk rfl (Vj rfl rfl) rfl ta_25 rfl) rfl ?_
            refine Va (Vi rfl) rfl ?_
            refine Va (Vw (Xg rfl rfl h20 te_25 ts_3) (v' := .vptr [.int .i64 x19] 0) rfl) rfl ?_
            refine Va (Xc rfl ta_3 rfl) rfl ?_
            refine Va (Xh rfl rfl) rfl ?_
            refine Va (Vl rfl) rfl ?_
            refine Vy rfl rfl c21 ?_
            refine Va (Vf rfl tf_36_2 ts_25 (by decide)) rfl ?_
            refine Vy rfl rfl c21 ?_
            refine Va (Vk rfl (Vj rfl rfl) rfl ta_25 rfl) rfl ?_
            refine Vy rfl rfl c21 ?_
            refine Va (Vi rfl) rfl ?_
            refine Vy rfl rfl c21 ?_
            refine Va (Vw (Xg rfl rfl h23 te_25 ts_3) (v' := .vptr [.int .i64 x22] 0) rfl) rfl ?_
            refine Vy rfl rfl c21 ?_
            refine Va (Xc rfl ta_3 rfl) rfl ?_
            refine Vy rfl rfl c21 ?_
            refine Va (rd_gtr rfl rfl) rfl ?_
            refine Va (Vr (congrArg Yi c21) rfl) rfl ?_
            refine Vd ?_
            obtain rfl := Yj hF
            refine Vu ?_
            exact Vg ⟨rfl, rfl, rfl, rfl, rfl, trivial⟩
          ·rintro _ _ _ _ ⟨rfl, hw⟩
           refine ⟨_, _, _, hw, ?_⟩
           refine Vp rfl (fun c24 => ?_) (fun c24 => ?_)
           ·have hF := Xj c24 hF
            refine Ve ?_
            refine Vc ?_
            refine Va (Vt rfl) rfl ?_
            refine Vd ?_
            refine Vx ?_
            obtain rfl := Yj hF
            refine Vu ?_
            exact Vz rfl [] (by decide) ⟨Vn rfl (.int _ _), trivial⟩ trivial
           ·have hF := Xk c24 hF
            refine Vv ?_
            refine Vc ?_
            refine Va (Vi rfl) rfl ?_
            refine Va (rd_add rfl rfl rfl) rfl ?_
            refine Va (Vt rfl) rfl ?_
            refine Vd ?_
            obtain rfl := Yj hF
            refine Vu ?_
            exact Vg ⟨rfl, rfl, rfl, rfl, trivial⟩
         ·have hF := Xk c17 hF
          refine vwp_exit ?_
          obtain rfl := Yj hF
          refine Vu ?_
          exact Vg ⟨rfl, rfl, rfl, trivial⟩
        ·rcases o14 with j15 | j16
         ·replace hF := elimL hF
          rintro _ _ _ _ ⟨rfl, hw⟩
          refine ⟨_, _, _, hw, ?_⟩
          obtain rfl := Yj hF
          refine Vu ?_
          exact Vg ⟨rfl, trivial⟩
         ·replace hF := elimR hF
          rintro _ _ _ _ ⟨rfl, hw⟩
          refine ⟨_, _, _, hw, ?_⟩
          refine Ve ?_
          refine Ve ?_
          refine Vc ?_
          refine Va (Vt rfl) rfl ?_
          refine Vd ?_
          refine Xe ?_
          obtain ⟨o26, ho26, hF⟩ := Xr hF
          refine Vm (Ye (F_ref08_Check_L3 x7) (fun s25 E' lw lc => Xi E' lw lc [(0, .vs 3 (Yg T_Door.enc p0)), (3, .int .i64 s2), (4, .ptr (low.length + 0) 0 0 0), (6, .int .i64 s25)] low [⟨36, 3, [.agg [.int .i64 x7.Road, .int .i64 x7.Other, .vs 1 (Yg (Yh .i64) x7.Rests)]], 0⟩]) (Sum.elim (fun j27 => OnlyE .ret (fun E' lw lc => Xi E' lw lc [(2, .int .i64 15)] low [])) (fun j28 => OnlyE (.exit 4) (fun E' lw lc => Xi E' lw lc [(0, .vs 3 (Yg T_Door.enc p0)), (3, .int .i64 s2), (4, .ptr (low.length + 0) 0 0 0)] low [⟨36, 3, [.agg [.int .i64 x7.Road, .int .i64 x7.Other, .vs 1 (Yg (Yh .i64) x7.Rests)]], 0⟩]))) ho26 ?_ (by rintro (_|_) _ _ _ ⟨h, _⟩ <;> cases h) ?_) ?_
          ·exact Vg ⟨rfl, rfl, rfl, rfl, trivial⟩
          ·rintro s25 os25 _ _ _ hF hw
           unfold F_ref08_Check_L3 at hF
           refine vwp_weak hw ?_
           refine Ve ?_
           refine Ve ?_
           refine Vc ?_
           refine Va (Vi rfl) rfl ?_
           refine Va (Vf rfl tf_36_2 ts_25 (by decide)) rfl ?_
           refine Va (Vk rfl (Vj rfl rfl) rfl ta_25 rfl) rfl ?_
           refine Va (Vw (Xd rfl rfl te_25) (congrArg (fun n : Nat => Yh .i64 (n : Int)) (Yn _))) rfl ?_
           refine Va (Xh rfl rfl) rfl ?_
           refine Vd ?_
           refine Vp rfl (fun c29 => ?_) (fun c29 => ?_)
           ·have hF := Xj c29 hF
            refine Vv ?_
            refine Ve ?_
            refine Xe ?_
            refine Ve ?_
            obtain ⟨x30, h31, hF⟩ := Xr hF
            obtain ⟨x32, h33, hF⟩ := Xr hF
            refine vwp_drawn0 [[], [0], [], [0, 1, 2], [0, 1, 2, 3], [], [5], [], [7], [5, 6, 7, 8], [5, 6, 7, 8, 9], [0, 1, 2, 3, 4, 5, 6, 7, 8, 9, 10]] mixed (by kernel_rfl) rfl ?_
            refine Xo rfl rfl (Vf rfl tf_36_2 ts_25 (by decide)) ?_
            refine Xo rfl rfl (Vk rfl (Vj rfl rfl) rfl ta_25 rfl) ?_
            refine Xo rfl rfl (Vi rfl) ?_
            refine Xo rfl rfl (Vw (Xg rfl rfl h31 te_25 ts_3) (v' := .vptr [.int .i64 x30] 0) rfl) ?_
            refine Xo rfl rfl (Xc rfl ta_3 rfl) ?_
            refine Xo rfl rfl (Vf rfl tf_36_2 ts_25 (by decide)) ?_
            refine Xo rfl rfl (Vk rfl (Vj rfl rfl) rfl ta_25 rfl) ?_
            refine Xo rfl rfl (Vi rfl) ?_
            refine Xo rfl rfl (rd_sub rfl rfl rfl) ?_
            refine Xo rfl rfl (Vw (Xg rfl rfl h33 te_25 ts_3) (v' := .vptr [.int .i64 x32] 0) rfl) ?_
            refine Xo rfl rfl (Xc rfl ta_3 rfl) ?_
            refine Xo rfl rfl (rd_geq rfl rfl) ?_
            refine Yf ?_
            refine Vp rfl (fun c34 => ?_) (fun c34 => ?_)
            ·have hF := Xj c34 hF
             refine Ve ?_
             refine Vc ?_
             refine Va (Vt rfl) rfl ?_
             refine Vd ?_
             refine Vx ?_
             obtain rfl := Yj hF
             refine Vu ?_
             exact Vz rfl [] (by decide) ⟨Vn rfl (.int _ _), trivial⟩ trivial
            ·have hF := Xk c34 hF
             refine Vv ?_
             refine Vc ?_
             refine Va (Vi rfl) rfl ?_
             refine Va (rd_add rfl rfl rfl) rfl ?_
             refine Va (Vt rfl) rfl ?_
             refine Vd ?_
             obtain rfl := Yj hF
             refine Vu ?_
             exact Vg ⟨rfl, rfl, rfl, rfl, trivial⟩
           ·have hF := Xk c29 hF
            refine vwp_exit ?_
            obtain rfl := Yj hF
            refine Vu ?_
            exact Vg ⟨rfl, rfl, rfl, trivial⟩
          ·rcases o26 with j27 | j28
           ·replace hF := elimL hF
            rintro _ _ _ _ ⟨rfl, hw⟩
            refine ⟨_, _, _, hw, ?_⟩
            obtain rfl := Yj hF
            refine Vu ?_
            exact Vg ⟨rfl, trivial⟩
           ·replace hF := elimR hF
            rintro _ _ _ _ ⟨rfl, hw⟩
            refine ⟨_, _, _, hw, ?_⟩
            refine Ve ?_
            obtain ⟨o35, ho35, hF⟩ := Xr hF
            refine Vm (Q' := (fun o35 => OnlyE .normal (fun E' lw lc => Xi E' lw lc [(0, .vs 3 (Yg T_Door.enc p0)), (3, .int .i64 s2), (103, .bool o35)] low [])) o35) ?_ ?_
            ·replace hF := ho35
             refine Vc ?_
             rcases Ym (decide (x7.Other ≠ (-1))) with c36 | c36
             ·have hF := Xj c36 hF
              rcases Ym (decide (x7.Other < 0)) with c37 | c37
              ·have hF := Xj c37 hF
               refine Va (Vf rfl tf_36_1 ts_3 (by decide)) rfl ?_
               refine Va (Vk rfl (Vj rfl rfl) rfl ta_3 rfl) rfl ?_
               refine Va (Ya rfl rfl) rfl ?_
               refine Va (Vl rfl) rfl ?_
               refine Vy rfl rfl c36 ?_
               refine Va (Vf rfl tf_36_1 ts_3 (by decide)) rfl ?_
               refine Vy rfl rfl c36 ?_
               refine Va (Vk rfl (Vj rfl rfl) rfl ta_3 rfl) rfl ?_
               refine Vy rfl rfl c36 ?_
               refine Va (Xh rfl rfl) rfl ?_
               refine Vy rfl rfl c36 ?_
               refine Va (Vl rfl) rfl ?_
               refine Vb rfl rfl (Xz c37) rfl ?_
               refine Vb rfl rfl (Xz c37) rfl ?_
               refine Vb rfl rfl (Xz c37) rfl ?_
               refine Vb rfl rfl (Xz c37) rfl ?_
               refine Vb rfl rfl (Xz c37) rfl ?_
               refine Vy rfl rfl c36 ?_
               refine Va (Vo (congrArg Yi c37) rfl) rfl ?_
               refine Vy rfl rfl c36 ?_
               refine Va (Vl rfl) rfl ?_
               refine Vb rfl rfl (by decide) rfl ?_
               refine Vb rfl rfl (by decide) rfl ?_
               refine Vb rfl rfl (by decide) rfl ?_
               refine Vb rfl rfl (by decide) rfl ?_
               refine Vy rfl rfl c36 ?_
               refine Va (Vo rfl rfl) rfl ?_
               refine Vy rfl rfl c36 ?_
               refine Va (Vl rfl) rfl ?_
               refine Vb rfl rfl (by decide) rfl ?_
               refine Vb rfl rfl (by decide) rfl ?_
               refine Vb rfl rfl (by decide) rfl ?_
               refine Vb rfl rfl (by decide) rfl ?_
               refine Vb rfl rfl (by decide) rfl ?_
               refine Vb rfl rfl (by decide) rfl ?_
               refine Vb rfl rfl (by decide) rfl ?_
               refine Vb rfl rfl (by decide) rfl ?_
               refine Vy rfl rfl c36 ?_
               refine Va (Vo rfl rfl) rfl ?_
               refine Va (Vo (congrArg Yi c36) rfl) rfl ?_
               refine Vd ?_
               obtain rfl := Yj hF
               refine Vu ?_
               exact Vz rfl [] (by decide) ⟨Vn rfl (.vs _ _), Vn rfl (.int _ _), Vn rfl (.bool _), trivial⟩ trivial
              ·have hF := Xk c37 hF
               rcases Ym (decide (((p0).length : Int) ≤ x7.Other)) with c38 | c38
               ·have hF := Xj c38 hF
                refine Va (Vf rfl tf_36_1 ts_3 (by decide)) rfl ?_
                refine Va (Vk rfl (Vj rfl rfl) rfl ta_3 rfl) rfl ?_
                refine Va (Ya rfl rfl) rfl ?_
                refine Va (Vl rfl) rfl ?_
                refine Vy rfl rfl c36 ?_
                refine Va (Vf rfl tf_36_1 ts_3 (by decide)) rfl ?_
                refine Vy rfl rfl c36 ?_
                refine Va (Vk rfl (Vj rfl rfl) rfl ta_3 rfl) rfl ?_
                refine Vy rfl rfl c36 ?_
                refine Va (Xh rfl rfl) rfl ?_
                refine Vy rfl rfl c36 ?_
                refine Va (Vl rfl) rfl ?_
                refine Vy rfl rfl c37 ?_
                refine Va (Vf rfl tf_36_1 ts_3 (by decide)) rfl ?_
                refine Vy rfl rfl c37 ?_
                refine Va (Vk rfl (Vj rfl rfl) rfl ta_3 rfl) rfl ?_
                refine Vy rfl rfl c37 ?_
                refine Va (Vs rfl) rfl ?_
                refine Vy rfl rfl c37 ?_
                refine Va (Vw (Xd rfl rfl te_23) (congrArg (fun n : Nat => Yh .i64 (n : Int)) (Yn _))) rfl ?_
                refine Vy rfl rfl c37 ?_
                refine Va (rd_geq rfl rfl) rfl ?_
                refine Vy rfl rfl c36 ?_
                refine Va (Vr (congrArg Yi c37) rfl) rfl ?_
                refine Vy rfl rfl c36 ?_
                refine Va (Vl rfl) rfl ?_
                refine Vb rfl rfl (Xz c38) rfl ?_
                refine Vb rfl rfl (Xz c38) rfl ?_
                refine Vb rfl rfl (Xz c38) rfl ?_
                refine Vb rfl rfl (Xz c38) rfl ?_
                refine Vy rfl rfl c36 ?_
                refine Va (Vo (congrArg Yi c38) rfl) rfl ?_
                refine Vy rfl rfl c36 ?_
                refine Va (Vl rfl) rfl ?_
                refine Vb rfl rfl (by decide) rfl ?_
                refine Vb rfl rfl (by decide) rfl ?_
                refine Vb rfl rfl (by decide) rfl ?_
                refine Vb rfl rfl (by decide) rfl ?_
                refine Vb rfl rfl (by decide) rfl ?_
                refine Vb rfl rfl (by decide) rfl ?_
                refine Vb rfl rfl (by decide) rfl ?_
                refine Vb rfl rfl (by decide) rfl ?_
                refine Vy rfl rfl c36 ?_
                refine Va (Vo rfl rfl) rfl ?_
                refine Va (Vo (congrArg Yi c36) rfl) rfl ?_
                refine Vd ?_
                obtain rfl := Yj hF
                refine Vu ?_
                exact Vz rfl [] (by decide) ⟨Vn rfl (.vs _ _), Vn rfl (.int _ _), Vn rfl (.bool _), trivial⟩ trivial
               ·have hF := Xk c38 hF
                rcases Ym (decide (x7.Other = s2)) with c39 | c39
                ·have hF := Xj c39 hF
                 refine Va (Vf rfl tf_36_1 ts_3 (by decide)) rfl ?_
                 refine Va (Vk rfl (Vj rfl rfl) rfl ta_3 rfl) rfl ?_
                 refine Va (Ya rfl rfl) rfl ?_
                 refine Va (Vl rfl) rfl ?_
                 refine Vy rfl rfl c36 ?_
                 refine Va (Vf rfl tf_36_1 ts_3 (by decide)) rfl ?_
                 refine Vy rfl rfl c36 ?_
                 refine Va (Vk rfl (Vj rfl rfl) rfl ta_3 rfl) rfl ?_
                 refine Vy rfl rfl c36 ?_
                 refine Va (Xh rfl rfl) rfl ?_
                 refine Vy rfl rfl c36 ?_
                 refine Va (Vl rfl) rfl ?_
                 refine Vy rfl rfl c37 ?_
                 refine Va (Vf rfl tf_36_1 ts_3 (by decide)) rfl ?_
                 refine Vy rfl rfl c37 ?_
                 refine Va (Vk rfl (Vj rfl rfl) rfl ta_3 rfl) rfl ?_
                 refine Vy rfl rfl c37 ?_
                 refine Va (Vs rfl) rfl ?_
                 refine Vy rfl rfl c37 ?_
                 refine Va (Vw (Xd rfl rfl te_23) (congrArg (fun n : Nat => Yh .i64 (n : Int)) (Yn _))) rfl ?_
                 refine Vy rfl rfl c37 ?_
                 refine Va (rd_geq rfl rfl) rfl ?_
                 refine Vy rfl rfl c36 ?_
                 refine Va (Vr (congrArg Yi c37) rfl) rfl ?_
                 refine Vy rfl rfl c36 ?_
                 refine Va (Vl rfl) rfl ?_
                 refine Vy rfl rfl c38 ?_
                 refine Va (Vf rfl tf_36_1 ts_3 (by decide)) rfl ?_
                 refine Vy rfl rfl c38 ?_
                 refine Va (Vk rfl (Vj rfl rfl) rfl ta_3 rfl) rfl ?_
                 refine Vy rfl rfl c38 ?_
                 refine Va (Vi rfl) rfl ?_
                 refine Vy rfl rfl c38 ?_
                 refine Va (Xw rfl rfl) rfl ?_
                 refine Vy rfl rfl c36 ?_
                 refine Va (Vr (congrArg Yi c38) rfl) rfl ?_
                 refine Vy rfl rfl c36 ?_
                 refine Va (Vl rfl) rfl ?_
                 refine Vb rfl rfl (Xz c39) rfl ?_
                 refine Vb rfl rfl (Xz c39) rfl ?_
                 refine Vb rfl rfl (Xz c39) rfl ?_
                 refine Vb rfl rfl (Xz c39) rfl ?_
                 refine Vb rfl rfl (Xz c39) rfl ?_
                 refine Vb rfl rfl (Xz c39) rfl ?_
                 refine Vb rfl rfl (Xz c39) rfl ?_
                 refine Vb rfl rfl (Xz c39) rfl ?_
                 refine Vy rfl rfl c36 ?_
                 refine Va (Vo (congrArg Yi c39) rfl) rfl ?_
                 refine Va (Vo (congrArg Yi c36) rfl) rfl ?_
                 refine Vd ?_
                 obtain rfl := Yj hF
                 refine Vu ?_
                 exact Vz rfl [] (by decide) ⟨Vn rfl (.vs _ _), Vn rfl (.int _ _), Vn rfl (.bool _), trivial⟩ trivial
                ·have hF := Xk c39 hF
                 obtain ⟨x40, h41, hF⟩ := Xr hF
                 refine Va (Vf rfl tf_36_1 ts_3 (by decide)) rfl ?_
                 refine Va (Vk rfl (Vj rfl rfl) rfl ta_3 rfl) rfl ?_
                 refine Va (Ya rfl rfl) rfl ?_
                 refine Va (Vl rfl) rfl ?_
                 refine Vy rfl rfl c36 ?_
                 refine Va (Vf rfl tf_36_1 ts_3 (by decide)) rfl ?_
                 refine Vy rfl rfl c36 ?_
                 refine Va (Vk rfl (Vj rfl rfl) rfl ta_3 rfl) rfl ?_
                 refine Vy rfl rfl c36 ?_
                 refine Va (Xh rfl rfl) rfl ?_
                 refine Vy rfl rfl c36 ?_
                 refine Va (Vl rfl) rfl ?_
                 refine Vy rfl rfl c37 ?_
                 refine Va (Vf rfl tf_36_1 ts_3 (by decide)) rfl ?_
                 refine Vy rfl rfl c37 ?_
                 refine Va (Vk rfl (Vj rfl rfl) rfl ta_3 rfl) rfl ?_
                 refine Vy rfl rfl c37 ?_
                 refine Va (Vs rfl) rfl ?_
                 refine Vy rfl rfl c37 ?_
                 refine Va (Vw (Xd rfl rfl te_23) (congrArg (fun n : Nat => Yh .i64 (n : Int)) (Yn _))) rfl ?_
                 refine Vy rfl rfl c37 ?_
                 refine Va (rd_geq rfl rfl) rfl ?_
                 refine Vy rfl rfl c36 ?_
                 refine Va (Vr (congrArg Yi c37) rfl) rfl ?_
                 refine Vy rfl rfl c36 ?_
                 refine Va (Vl rfl) rfl ?_
                 refine Vy rfl rfl c38 ?_
                 refine Va (Vf rfl tf_36_1 ts_3 (by decide)) rfl ?_
                 refine Vy rfl rfl c38 ?_
                 refine Va (Vk rfl (Vj rfl rfl) rfl ta_3 rfl) rfl ?_
                 refine Vy rfl rfl c38 ?_
                 refine Va (Vi rfl) rfl ?_
                 refine Vy rfl rfl c38 ?_
                 refine Va (Xw rfl rfl) rfl ?_
                 refine Vy rfl rfl c36 ?_
                 refine Va (Vr (congrArg Yi c38) rfl) rfl ?_
                 refine Vy rfl rfl c36 ?_
                 refine Va (Vl rfl) rfl ?_
                 refine Vy rfl rfl c39 ?_
                 refine Va (Vs rfl) rfl ?_
                 refine Vy rfl rfl c39 ?_
                 refine Va (Vf rfl tf_36_1 ts_3 (by decide)) rfl ?_
                 refine Vy rfl rfl c39 ?_
                 refine Va (Vk rfl (Vj rfl rfl) rfl ta_3 rfl) rfl ?_
                 refine Vy rfl rfl c39 ?_
                 refine Va (Vw (Xg rfl rfl h41 te_23 ts_36) (v' := .vptr [.int .i64 x40.Road, .int .i64 x40.Other, .vs 1 (Yg (Yh .i64) x40.Rests)] 0) rfl) rfl ?_
                 refine Vy rfl rfl c39 ?_
                 refine Va (rd_fieldVaddr rfl tf_36_1 ts_3 (by decide)) rfl ?_
                 refine Vy rfl rfl c39 ?_
                 refine Va (Xc rfl ta_3 rfl) rfl ?_
                 refine Vy rfl rfl c39 ?_
                 refine Va (Vi rfl) rfl ?_
                 refine Vy rfl rfl c39 ?_
                 refine Va (Ya rfl rfl) rfl ?_
                 refine Vy rfl rfl c36 ?_
                 refine Va (Vr (congrArg Yi c39) rfl) rfl ?_
                 refine Va (Vo (congrArg Yi c36) rfl) rfl ?_
                 refine Vd ?_
                 obtain rfl := Yj hF
                 refine Vu ?_
                 exact Vz rfl [] (by decide) ⟨Vn rfl (.vs _ _), Vn rfl (.int _ _), Vn rfl (.bool _), trivial⟩ trivial
             ·have hF := Xk c36 hF
              refine Va (Vf rfl tf_36_1 ts_3 (by decide)) rfl ?_
              refine Va (Vk rfl (Vj rfl rfl) rfl ta_3 rfl) rfl ?_
              refine Va (Ya rfl rfl) rfl ?_
              refine Va (Vl rfl) rfl ?_
              refine Vb rfl rfl (neF c36) rfl ?_
              refine Vb rfl rfl (neF c36) rfl ?_
              refine Vb rfl rfl (neF c36) rfl ?_
              refine Vb rfl rfl (neF c36) rfl ?_
              refine Vq rfl rfl rfl ?_
              refine Vq rfl rfl rfl ?_
              refine Vq rfl rfl rfl ?_
              refine Vq rfl rfl rfl ?_
              refine Vq rfl rfl rfl ?_
              refine Vb rfl rfl (neF c36) rfl ?_
              refine Vb rfl rfl (neF c36) rfl ?_
              refine Vq rfl rfl rfl ?_
              refine Vq rfl rfl rfl ?_
              refine Vq rfl rfl rfl ?_
              refine Vq rfl rfl rfl ?_
              refine Vb rfl rfl (neF c36) rfl ?_
              refine Vb rfl rfl (neF c36) rfl ?_
              refine Vq rfl rfl rfl ?_
              refine Vq rfl rfl rfl ?_
              refine Vq rfl rfl rfl ?_
              refine Vq rfl rfl rfl ?_
              refine Vq rfl rfl rfl ?_
              refine Vq rfl rfl rfl ?_
              refine Vq rfl rfl rfl ?_
              refine Vq rfl rfl rfl ?_
              refine Vb rfl rfl (neF c36) rfl ?_
              refine Va (Vr (congrArg Yi c36) rfl) rfl ?_
              refine Vd ?_
              obtain rfl := Yj hF
              refine Vu ?_
              exact Vz rfl [] (by decide) ⟨Vn rfl (.vs _ _), Vn rfl (.int _ _), Vn rfl (.bool _), trivial⟩ trivial
            ·rintro _ _ _ _ ⟨rfl, hw⟩
             refine ⟨_, _, _, hw, ?_⟩
             refine Vp rfl (fun c42 => ?_) (fun c42 => ?_)
             ·have hF := Xj c42 hF
              refine Ve ?_
              refine Vc ?_
              refine Va (Vt rfl) rfl ?_
              refine Vd ?_
              refine Vx ?_
              obtain rfl := Yj hF
              refine Vu ?_
              exact Vg ⟨rfl, trivial⟩
             ·have hF := Xk c42 hF
              refine Vv ?_
              refine Vc ?_
              refine Va (Vi rfl) rfl ?_
              refine Va (rd_add rfl rfl rfl) rfl ?_
              refine Va (Vt rfl) rfl ?_
              refine Vd ?_
              obtain rfl := Yj hF
              refine Vu ?_
              exact Vg ⟨rfl, rfl, trivial⟩
    ·have hF := Xk c6 hF
     refine vwp_exit ?_
     obtain rfl := Yj hF
     refine Vu ?_
     exact Vg trivial
   ·rcases o3 with j4 | j5
    ·replace hF := elimL hF
     rintro _ _ _ _ ⟨rfl, hw⟩
     refine ⟨_, _, _, hw, ?_⟩
     obtain rfl := Yj hF
     refine fnR ?_
     exact Vg ⟨rfl, trivial⟩
    ·replace hF := elimR hF
     rintro _ _ _ _ ⟨rfl, hw⟩
     refine ⟨_, _, _, hw, ?_⟩
     refine Ve ?_
     refine Vc ?_
     refine Va (Vt rfl) rfl ?_
     refine Vd ?_
     refine Vx ?_
     obtain rfl := Yj hF
     refine fnR ?_
     exact Vg ⟨rfl, trivial⟩
 ·rintro _ _ _ _ ⟨he, hw⟩
  refine ⟨_, _, _, hw, ?_⟩
  exact Xm he [.int .i64 r] ⟨rfl, trivial⟩ (.int _ _) ⟨rfl, rfl⟩

theorem F_ref08_Rest_ok {p0 : T_Door} {p1 : Int} {r : T_Span} (hF : F_ref08_Rest p0 p1 = some r) (low : List AObj) :
    Xy Try.prog 14 [.agg [.int .i64 p0.Road, .int .i64 p0.Other, .vs 1 (Yg (Yh .i64) p0.Rests)], .int .i64 p1] low fun x low' => x = .agg [.int .i64 r.Low, .int .i64 r.High] ∧ low' = low := by
 refine Xb (nt := 71) (rs := [.cell 4 33]) Try.func14 rfl rfl (Yk rfl) rfl ?_
 refine Vm (Q' := FnE (fun E' lw lc => Xi E' lw lc [(4, .ptr (low.length + 0) 0 0 0)] low [⟨33, 2, [.agg [.int .i64 r.Low, .int .i64 r.High]], 0⟩])) ?_ ?_
 ·unfold F_ref08_Rest at hF
  refine Ve ?_
  refine Vc ?_
  refine Vh (vef_boxN rfl rfl (v := .agg [.int .i64 p0.Road, .int .i64 p0.Other, .vs 1 (Yg (Yh .i64) p0.Rests)]) rfl rfl (Yl _) rfl rfl) rfl ?_
  refine Vh (vef_allocN rfl rfl tz_33 rfl rfl (Yl _) rfl) rfl ?_
  refine Vd ?_
  refine Ve ?_
  refine Ve ?_
  obtain ⟨o1, ho1, hF⟩ := Xr hF
  refine Vm (Q' := (fun o1 => OnlyE .normal (fun E' lw lc => Xi E' lw lc [(1, .int .i64 p1), (2, .ptr (low.length + 0) 0 0 0), (4, .ptr (low.length + 1) 0 0 0), (21, .bool o1)] low [⟨36, 3, [.agg [.int .i64 p0.Road, .int .i64 p0.Other, .vs 1 (Yg (Yh .i64) p0.Rests)]], 0⟩, ⟨33, 2, [.agg [.int .i64 0, .int .i64 0]], 0⟩])) o1) ?_ ?_
  ·replace hF := ho1
   refine Vc ?_
   rcases Ym (decide (((p0.Rests).length : Int) = 0)) with c2 | c2
   ·have hF := Xj c2 hF
    refine Va (Vf rfl tf_36_2 ts_25 (by decide)) rfl ?_
    refine Va (Vk rfl (Vj rfl rfl) rfl ta_25 rfl) rfl ?_
    refine Va (Vw (Xd rfl rfl te_25) (congrArg (fun n : Nat => Yh .i64 (n : Int)) (Yn _))) rfl ?_
    refine Va (Xw rfl rfl) rfl ?_
    refine Va (Vl rfl) rfl ?_
    refine Vb rfl rfl (Xz c2) rfl ?_
    refine Vb rfl rfl (Xz c2) rfl ?_
    refine Va (Vo (congrArg Yi c2) rfl) rfl ?_
    refine Va (Vl rfl) rfl ?_
    refine Vb rfl rfl (by decide) rfl ?_
    refine Vb rfl rfl (by decide) rfl ?_
    refine Vb rfl rfl (by decide) rfl ?_
    refine Vb rfl rfl (by decide) rfl ?_
    refine Vb rfl rfl (by decide) rfl ?_
    refine Va (Vo rfl rfl) rfl ?_
    refine Vd ?_
    obtain rfl := Yj hF
    refine Vu ?_
    exact Vg ⟨rfl, rfl, rfl, rfl, trivial⟩
   ·have hF := Xk c2 hF
    rcases Ym (decide (p1 < (-1))) with c3 | c3
    ·have hF := Xj c3 hF
     refine Va (Vf rfl tf_36_2 ts_25 (by decide)) rfl ?_
     refine Va (Vk rfl (Vj rfl rfl) rfl ta_25 rfl) rfl ?_
     refine Va (Vw (Xd rfl rfl te_25) (congrArg (fun n : Nat => Yh .i64 (n : Int)) (Yn _))) rfl ?_
     refine Va (Xw rfl rfl) rfl ?_
     refine Va (Vl rfl) rfl ?_
     refine Vy rfl rfl c2 ?_
     refine Va (Vi rfl) rfl ?_
     refine Vy rfl rfl c2 ?_
     refine Va (Xh rfl rfl) rfl ?_
     refine Va (Vr (congrArg Yi c2) rfl) rfl ?_
     refine Va (Vl rfl) rfl ?_
     refine Vb rfl rfl (Xz c3) rfl ?_
     refine Vb rfl rfl (Xz c3) rfl ?_
     refine Vb rfl rfl (Xz c3) rfl ?_
     refine Vb rfl rfl (Xz c3) rfl ?_
     refine Vb rfl rfl (Xz c3) rfl ?_
     refine Va (Vo (congrArg Yi c3) rfl) rfl ?_
     refine Vd ?_
     obtain rfl := Yj hF
     refine Vu ?_
     exact Vg ⟨rfl, rfl, rfl, rfl, trivial⟩
    ·have hF := Xk c3 hF
     refine Va (Vf rfl tf_36_2 ts_25 (by decide)) rfl ?_
     refine Va (Vk rfl (Vj rfl rfl) rfl ta_25 rfl) rfl ?_
     refine Va (Vw (Xd rfl rfl te_25) (congrArg (fun n : Nat => Yh .i64 (n : Int)) (Yn _))) rfl ?_
     refine Va (Xw rfl rfl) rfl ?_
     refine Va (Vl rfl) rfl ?_
     refine Vy rfl rfl c2 ?_
     refine Va (Vi rfl) rfl ?_
     refine Vy rfl rfl c2 ?_
     refine Va (Xh rfl rfl) rfl ?_
     refine Va (Vr (congrArg Yi c2) rfl) rfl ?_
     refine Va (Vl rfl) rfl ?_
     refine Vy rfl rfl c3 ?_
     refine Va (Vi rfl) rfl ?_
     refine Vy rfl rfl c3 ?_
     refine Va (Vf rfl tf_36_2 ts_25 (by decide)) rfl ?_
     refine Vy rfl rfl c3 ?_
     refine Va (Vk rfl (Vj rfl rfl) rfl ta_25 rfl) rfl ?_
     refine Vy rfl rfl c3 ?_
     refine Va (Vw (Xd rfl rfl te_25) (congrArg (fun n : Nat => Yh .i64 (n : Int)) (Yn _))) rfl ?_
     refine Vy rfl rfl c3 ?_
     refine Va (rd_geq rfl rfl) rfl ?_
     refine Va (Vr (congrArg Yi c3) rfl) rfl ?_
     refine Vd ?_
     obtain rfl := Yj hF
     refine Vu ?_
     exact Vg ⟨rfl, rfl, rfl, rfl, trivial⟩
  ·rintro _ _ _ _ ⟨rfl, hw⟩
   refine ⟨_, _, _, hw, ?_⟩
   refine Vp rfl (fun c4 => ?_) (fun c4 => ?_)
   ·have hF := Xj c4 hF
    refine Ve ?_
    refine Vc ?_
    refine Va (rd_build (vs := []) (ds := [.int .i64 0, .int .i64 0]) tz_33 rfl rfl tp_33 trivial (nt_all2 rfl) rfl) rfl ?_
    refine Vh (Xl (p := .agg [.int .i64 0, .int .i64 0]) (e' := .agg [.int .i64 0, .int .i64 0]) rfl (Vj rfl rfl) rfl rfl ts_33 rfl (nt_ne rfl) rfl (Yk rfl) rfl (Xt rfl rfl)) rfl ?_
    refine Vd ?_
    refine Vx ?_
    obtain rfl := Yj hF
    refine fnR ?_
    exact Vz rfl [(1, 0)] (by decide) ⟨rn_ptr 0 1 rfl rfl, trivial⟩ ⟨⟨_, rfl, rfl, .same _ _ _ _ (ltObj_es ⟨Yb ⟨.int _ _, .int _ _, trivial⟩, trivial⟩)⟩, trivial⟩
   ·have hF := Xk c4 hF
    refine Vv ?_
    refine Ve ?_
    refine Ve ?_
    refine Vc ?_
    refine Va (Vi rfl) rfl ?_
    refine Va (rd_geq rfl rfl) rfl ?_
    refine Vd ?_
    refine Vp rfl (fun c5 => ?_) (fun c5 => ?_)
    ·have hF := Xj c5 hF
     refine Ve ?_
     obtain ⟨x6, h7, hF⟩ := Xr hF
     obtain ⟨x8, h9, hF⟩ := Xr hF
     refine vwp_drawn [[], [0], [], [0, 1, 2], [0, 1, 2, 3], [], [5], [], [5, 6, 7], [5, 6, 7, 8], [0, 1, 2, 3, 4, 5, 6, 7, 8, 9], [0, 1, 2, 3, 4, 5, 6, 7, 8, 9, 10]] [false, false, false, false, false, false, false, false, false, false, false, true] [(low, [⟨36, 3, [.agg [.int .i64 p0.Road, .int .i64 p0.Other, .vs 1 (Yg (Yh .i64) p0.Rests)]], 0⟩, ⟨33, 2, [.agg [.int .i64 0, .int .i64 0]], 0⟩]), (low, [⟨36, 3, [.agg [.int .i64 p0.Road, .int .i64 p0.Other, .vs 1 (Yg (Yh .i64) p0.Rests)]], 0⟩, ⟨33, 2, [.agg [.int .i64 x6, .int .i64 x8]], 0⟩])] mixed (by kernel_rfl) rfl (lenAll (Xp rfl (Xp rfl all0))) rfl _ rfl rfl ?_
     refine Xo rfl rfl (Vf rfl tf_36_2 ts_25 (by decide)) ?_
     refine Xo rfl rfl (Vk rfl (Vj rfl rfl) rfl ta_25 rfl) ?_
     refine Xo rfl rfl (Vi rfl) ?_
     refine Xo rfl rfl (Vw (Xg rfl rfl h7 te_25 ts_3) (v' := .vptr [.int .i64 x6] 0) rfl) ?_
     refine Xo rfl rfl (Xc rfl ta_3 rfl) ?_
     refine Xo rfl rfl (Vf rfl tf_36_2 ts_25 (by decide)) ?_
     refine Xo rfl rfl (Vk rfl (Vj rfl rfl) rfl ta_25 rfl) ?_
     refine Xo rfl rfl (Vi rfl) ?_
     refine Xo rfl rfl (Vw (Xg rfl rfl h9 te_25 ts_3) (v' := .vptr [.int .i64 x8] 0) rfl) ?_
     refine Xo rfl rfl (Xc rfl ta_3 rfl) ?_
     refine Xo rfl rfl (rd_build (vs := [(0, .int .i64 x6), (1, .int .i64 x8)]) (ds := [.int .i64 x6, .int .i64 x8]) tz_33 rfl rfl tp_33 ⟨rfl, rfl, rfl, rfl, trivial⟩ (nt_all2 rfl) rfl) ?_
     refine dops_ef rfl rfl rfl (Xl (p := .agg [.int .i64 x6, .int .i64 x8]) (e' := .agg [.int .i64 x6, .int .i64 x8]) rfl (Vj rfl rfl) rfl rfl ts_33 rfl (nt_ne rfl) rfl (Yk rfl) rfl (Xt rfl rfl)) ?_
     refine Yf ?_
     refine Vx ?_
     obtain rfl := Yj hF
     refine fnR ?_
     exact Vz rfl [(1, 0)] (by decide) ⟨rn_ptr 0 1 rfl rfl, trivial⟩ ⟨⟨_, rfl, rfl, .same _ _ _ _ (ltObj_es ⟨Yb ⟨.int _ _, .int _ _, trivial⟩, trivial⟩)⟩, trivial⟩
    ·have hF := Xk c5 hF
     refine Vv ?_
     refine Ve ?_
     obtain ⟨x10, h11, hF⟩ := Xr hF
     obtain ⟨x12, h13, hF⟩ := Xr hF
     refine vwp_drawn [[], [0], [0, 1], [0, 1, 2], [], [4], [4, 5], [4, 5, 6], [0, 1, 2, 3, 4, 5, 6, 7], [], [0, 1, 2, 3, 4, 5, 6, 7, 8, 9]] [false, false, false, false, false, false, false, false, false, true, true] [(low, [⟨36, 3, [.agg [.int .i64 p0.Road, .int .i64 p0.Other, .vs 1 (Yg (Yh .i64) p0.Rests)]], 0⟩, ⟨33, 2, [.agg [.int .i64 0, .int .i64 0]], 0⟩]), (low, [⟨36, 3, [.agg [.int .i64 p0.Road, .int .i64 p0.Other, .vs 1 (Yg (Yh .i64) p0.Rests)]], 0⟩, ⟨33, 2, [.agg [.int .i64 0, .int .i64 0]], 0⟩, ⟨33, 2, [.agg [.int .i64 0, .int .i64 0]], 0⟩]), (low, [⟨36, 3, [.agg [.int .i64 p0.Road, .int .i64 p0.Other, .vs 1 (Yg (Yh .i64) p0.Rests)]], 0⟩, ⟨33, 2, [.agg [.int .i64 0, .int .i64 0]], 0⟩, ⟨33, 2, [.agg [.int .i64 x10, .int .i64 x12]], 0⟩])] mixed (by kernel_rfl) rfl (lenAll (Xp rfl (Xp rfl (Xp rfl all0)))) rfl _ rfl rfl ?_
     refine Xn _ rfl rfl (Xp (VRd.ntl (Vf rfl tf_36_2 ts_25 (by decide))) (Xp (VRd.ntl (Vf rfl tf_36_2 ts_25 (by decide))) all0)) ?_
     refine Xn _ rfl rfl (Xp (VRd.ntl (Vk rfl (Vj rfl rfl) rfl ta_25 rfl)) (Xp (VRd.ntl (Vk rfl (Vj rfl rfl) rfl ta_25 rfl)) all0)) ?_
     refine Xn _ rfl rfl (Xp (VRd.ntl (Vw (Xg rfl rfl h11 te_25 ts_3) (v' := .vptr [.int .i64 x10] 0) rfl)) (Xp (VRd.ntl (Vw (Xg rfl rfl h11 te_25 ts_3) (v' := .vptr [.int .i64 x10] 0) rfl)) all0)) ?_
     refine Xn _ rfl rfl (Xp (VRd.ntl (Xc rfl ta_3 rfl)) (Xp (VRd.ntl (Xc rfl ta_3 rfl)) all0)) ?_
     refine Xn _ rfl rfl (Xp (VRd.ntl (Vf rfl tf_36_2 ts_25 (by decide))) (Xp (VRd.ntl (Vf rfl tf_36_2 ts_25 (by decide))) all0)) ?_
     refine Xn _ rfl rfl (Xp (VRd.ntl (Vk rfl (Vj rfl rfl) rfl ta_25 rfl)) (Xp (VRd.ntl (Vk rfl (Vj rfl rfl) rfl ta_25 rfl)) all0)) ?_
     refine Xn _ rfl rfl (Xp (VRd.ntl (Vw (Xg rfl rfl h13 te_25 ts_3) (v' := .vptr [.int .i64 x12] 0) rfl)) (Xp (VRd.ntl (Vw (Xg rfl rfl h13 te_25 ts_3) (v' := .vptr [.int .i64 x12] 0) rfl)) all0)) ?_
     refine Xn _ rfl rfl (Xp (VRd.ntl (Xc rfl ta_3 rfl)) (Xp (VRd.ntl (Xc rfl ta_3 rfl)) all0)) ?_
     refine Xn _ rfl rfl (Xp (VRd.ntl (rd_build (vs := [(0, .int .i64 x10), (1, .int .i64 x12)]) (ds := [.int .i64 x10, .int .i64 x12]) tz_33 rfl rfl tp_33 ⟨rfl, rfl, rfl, rfl, trivial⟩ (nt_all2 rfl) rfl)) (Xp (VRd.ntl (rd_build (vs := [(0, .int .i64 x10), (1, .int .i64 x12)]) (ds := [.int .i64 x10, .int .i64 x12]) tz_33 rfl rfl tp_33 ⟨rfl, rfl, rfl, rfl, trivial⟩ (nt_all2 rfl) rfl)) all0)) ?_
     refine dops_ef rfl rfl rfl (vef_allocN rfl rfl tz_33 rfl rfl (Yl _) rfl) ?_
     refine dops_ef rfl rfl rfl (Xl (p := .agg [.int .i64 x10, .int .i64 x12]) (e' := .agg [.int .i64 x10, .int .i64 x12]) rfl (Vj rfl rfl) rfl rfl ts_33 rfl (nt_ne rfl) rfl (Yk rfl) rfl (Xt rfl rfl)) ?_
     refine Yf ?_
     refine Ve ?_
     refine Ve ?_
     refine Vc ?_
     refine Va (Vt rfl) rfl ?_
     refine Vd ?_
     refine Xe ?_
     obtain ⟨o15, ho15, hF⟩ := Xr hF
     refine Vm (Ye (F_ref08_Rest_L1 p0) (fun s14 E' lw lc => Xi E' lw lc [(2, .ptr (low.length + 0) 0 0 0), (4, .ptr (low.length + 1) 0 0 0), (5, .ptr (low.length + 2) 0 0 0), (6, .int .i64 s14.1)] low [⟨36, 3, [.agg [.int .i64 p0.Road, .int .i64 p0.Other, .vs 1 (Yg (Yh .i64) p0.Rests)]], 0⟩, ⟨33, 2, [.agg [.int .i64 0, .int .i64 0]], 0⟩, ⟨33, 2, [.agg [.int .i64 s14.2.Low, .int .i64 s14.2.High]], 0⟩]) (fun o15 => OnlyE (.exit 0) (fun E' lw lc => Xi E' lw lc [(4, .ptr (low.length + 0) 0 0 0), (5, .ptr (low.length + 1) 0 0 0)] low [⟨33, 2, [.agg [.int .i64 0, .int .i64 0]], 0⟩, ⟨33, 2, [.agg [.int .i64 o15.Low, .int .i64 o15.High]], 0⟩])) ho15 ?_ (by rintro _ _ _ _ ⟨h, _⟩ <;> cases h) ?_) ?_
     ·exact Vg ⟨rfl, rfl, rfl, rfl, trivial⟩
     ·rintro s14 os14 _ _ _ hF hw
      unfold F_ref08_Rest_L1 at hF
      refine vwp_weak hw ?_
      refine Ve ?_
      refine Ve ?_
      refine Vc ?_
      refine Va (Vi rfl) rfl ?_
      refine Va (Vf rfl tf_36_2 ts_25 (by decide)) rfl ?_
      refine Va (Vk rfl (Vj rfl rfl) rfl ta_25 rfl) rfl ?_
      refine Va (Vw (Xd rfl rfl te_25) (congrArg (fun n : Nat => Yh .i64 (n : Int)) (Yn _))) rfl ?_
      refine Va (Xh rfl rfl) rfl ?_
      refine Vd ?_
      refine Vp rfl (fun c16 => ?_) (fun c16 => ?_)
      ·have hF := Xj c16 hF
       refine Vv ?_
       refine Ve ?_
       refine Xe ?_
       obtain ⟨x17, h18, hF⟩ := Xr hF
       obtain ⟨x19, h20, hF⟩ := Xr hF
       refine vwp_drawn [[], [0], [], [2], [], [2, 3, 4], [2, 3, 4, 5], [0, 1, 2, 3, 4, 5, 6], [], [8], [], [10], [], [10, 11, 12], [10, 11, 12, 13], [8, 9, 10, 11, 12, 13, 14], [0, 1, 2, 3, 4, 5, 6, 7, 8, 9], [0, 1, 2, 3, 4, 5, 6, 7, 8, 9, 16], [0, 1, 2, 3, 4, 5, 6, 7, 8, 9, 10, 11, 12, 13, 14, 15, 16, 17], [0, 1, 2, 3, 4, 5, 6, 7, 8, 9, 10, 11, 12, 13, 14, 15, 16, 17, 18]] [false, false, false, false, false, false, false, false, false, false, false, false, false, false, false, false, false, true, false, true] [(low, [⟨36, 3, [.agg [.int .i64 p0.Road, .int .i64 p0.Other, .vs 1 (Yg (Yh .i64) p0.Rests)]], 0⟩, ⟨33, 2, [.agg [.int .i64 0, .int .i64 0]], 0⟩, ⟨33, 2, [.agg [.int .i64 s14.2.Low, .int .i64 s14.2.High]], 0⟩]), (low, [⟨36, 3, [.agg [.int .i64 p0.Road, .int .i64 p0.Other, .vs 1 (Yg (Yh .i64) p0.Rests)]], 0⟩, ⟨33, 2, [.agg [.int .i64 0, .int .i64 0]], 0⟩, ⟨33, 2, [.agg [.int .i64 (min s14.2.Low x17), .int .i64 s14.2.High]], 0⟩]), (low, [⟨36, 3, [.agg [.int .i64 p0.Road, .int .i64 p0.Other, .vs 1 (Yg (Yh .i64) p0.Rests)]], 0⟩, ⟨33, 2, [.agg [.int .i64 0, .int .i64 0]], 0⟩, ⟨33, 2, [.agg [.int .i64 (min s14.2.Low x17), .int .i64 (max s14.2.High x19)]], 0⟩])] mixed (by kernel_rfl) rfl (lenAll (Xp rfl (Xp rfl (Xp rfl all0)))) rfl _ rfl rfl ?_
       refine Xo rfl rfl (Vf rfl tf_33_0 ts_3 (by decide)) ?_
       refine Xo rfl rfl (Vk rfl (Vj rfl rfl) rfl ta_3 rfl) ?_
       refine Xo rfl rfl (Vf rfl tf_36_2 ts_25 (by decide)) ?_
       refine Xo rfl rfl (Vk rfl (Vj rfl rfl) rfl ta_25 rfl) ?_
       refine Xo rfl rfl (Vi rfl) ?_
       refine Xo rfl rfl (Vw (Xg rfl rfl h18 te_25 ts_3) (v' := .vptr [.int .i64 x17] 0) rfl) ?_
       refine Xo rfl rfl (Xc rfl ta_3 rfl) ?_
       refine Xo rfl rfl (rd_min rfl rfl) ?_
       refine Xo rfl rfl (Vf rfl tf_33_1 ts_3 (by decide)) ?_
       refine Xo rfl rfl (Vk rfl (Vj rfl rfl) rfl ta_3 rfl) ?_
       refine Xn _ rfl rfl (Xp (VRd.ntl (Vf rfl tf_36_2 ts_25 (by decide))) (Xp (VRd.ntl (Vf rfl tf_36_2 ts_25 (by decide))) all0)) ?_
       refine Xn _ rfl rfl (Xp (VRd.ntl (Vk rfl (Vj rfl rfl) rfl ta_25 rfl)) (Xp (VRd.ntl (Vk rfl (Vj rfl rfl) rfl ta_25 rfl)) all0)) ?_
       refine Xn _ rfl rfl (Xp (VRd.ntl (Vi rfl)) (Xp (VRd.ntl (Vi rfl)) all0)) ?_
       refine Xn _ rfl rfl (Xp (VRd.ntl (Vw (Xg rfl rfl h20 te_25 ts_3) (v' := .vptr [.int .i64 x19] 0) rfl)) (Xp (VRd.ntl (Vw (Xg rfl rfl h20 te_25 ts_3) (v' := .vptr [.int .i64 x19] 0) rfl)) all0)) ?_
       refine Xn _ rfl rfl (Xp (VRd.ntl (Xc rfl ta_3 rfl)) (Xp (VRd.ntl (Xc rfl ta_3 rfl)) all0)) ?_
       refine Xn _ rfl rfl (Xp (VRd.ntl (rd_max rfl rfl)) (Xp (VRd.ntl (rd_max rfl rfl)) all0)) ?_
       refine Xo rfl rfl (Vf rfl tf_33_0 ts_3 (by decide)) ?_
       refine dops_ef rfl rfl rfl (Xl (p := .int .i64 (min s14.2.Low x17)) (e' := .agg [.int .i64 (min s14.2.Low x17), .int .i64 s14.2.High]) rfl (Vj rfl rfl) rfl rfl ts_3 rfl (nt_ne rfl) rfl (Yk rfl) rfl (Xt rfl rfl)) ?_
       refine Xo rfl rfl (Vf rfl tf_33_1 ts_3 (by decide)) ?_
       refine dops_ef rfl rfl rfl (Xl (p := .int .i64 (max s14.2.High x19)) (e' := .agg [.int .i64 (min s14.2.Low x17), .int .i64 (max s14.2.High x19)]) rfl (Vj rfl rfl) rfl rfl ts_3 rfl (nt_ne rfl) rfl (Yk rfl) rfl (Xt rfl rfl)) ?_
       refine Yf ?_
       refine Vc ?_
       refine Va (Vi rfl) rfl ?_
       refine Va (rd_add rfl rfl rfl) rfl ?_
       refine Va (Vt rfl) rfl ?_
       refine Vd ?_
       obtain rfl := Yj hF
       refine Vu ?_
       exact Vg ⟨rfl, rfl, rfl, rfl, trivial⟩
      ·have hF := Xk c16 hF
       refine vwp_exit ?_
       obtain rfl := Yj hF
       refine Vu ?_
       exact Vz rfl [(1, 0), (2, 0)] (by decide) ⟨rn_ptr 0 1 rfl rfl, rn_ptr 1 2 rfl rfl, trivial⟩ ⟨⟨_, rfl, rfl, .same _ _ _ _ (ltObj_es ⟨Yb ⟨.int _ _, .int _ _, trivial⟩, trivial⟩)⟩, ⟨_, rfl, rfl, .same _ _ _ _ (ltObj_es ⟨Yb ⟨.int _ _, .int _ _, trivial⟩, trivial⟩)⟩, trivial⟩
     ·rintro _ _ _ _ ⟨rfl, hw⟩
      refine ⟨_, _, _, hw, ?_⟩
      refine Ve ?_
      refine Vc ?_
      refine Va (rd_loadN (ds := [.int .i64 o15.Low, .int .i64 o15.High]) rfl (Vj rfl rfl) rfl ta_33 ts_33 rfl rfl rfl) rfl ?_
      refine Vh (Xl (p := .agg [.int .i64 o15.Low, .int .i64 o15.High]) (e' := .agg [.int .i64 o15.Low, .int .i64 o15.High]) rfl (Vj rfl rfl) rfl rfl ts_33 rfl (nt_ne rfl) rfl (Yk rfl) rfl (Xt rfl rfl)) rfl ?_
      refine Vd ?_
      refine Vx ?_
      obtain rfl := Yj hF
      refine fnR ?_
      exact Vz rfl [(0, 0)] (by decide) ⟨rn_ptr 0 0 rfl rfl, trivial⟩ ⟨⟨_, rfl, rfl, .same _ _ _ _ (ltObj_es ⟨Yb ⟨.int _ _, .int _ _, trivial⟩, trivial⟩)⟩, trivial⟩
 ·rintro _ _ _ _ ⟨he, hw⟩
  refine ⟨_, _, _, hw, ?_⟩
  exact Xm he [.agg [.int .i64 r.Low, .int .i64 r.High]] ⟨rd_loadN rfl (Vj rfl rfl) rfl ta_33 ts_33 rfl rfl rfl, trivial⟩ ((Yb ⟨.int _ _, .int _ _, trivial⟩)) ⟨rfl, rfl⟩

theorem F_law08_DoorChecks_ok {p0 : List Int} {p1 : List T_Door} {p2 : Int} {p3 : Int} {p4 : Int} {r : Bool} (hF : F_law08_DoorChecks p0 p1 p2 p3 p4 = some r) (low : List AObj) :
    Xy Try.prog 3 [.vs 1 (Yg (Yh .u8) p0), .vs 3 (Yg T_Door.enc p1), .int .i64 p2, .int .i64 p3, .int .i64 p4] low fun x low' => x = .bool r ∧ low' = low := by
 refine Xb (nt := 80) (rs := [.tmp 10]) Try.func3 rfl rfl (Yk rfl) rfl ?_
 refine Vm (Q' := FnE (fun E' lw lc => Xi E' lw lc [(10, .bool r)] low [])) ?_ ?_
 ·unfold F_law08_DoorChecks at hF
  refine Ve ?_
  refine Vc ?_
  refine Va (Xq rfl) rfl ?_
  refine Vd ?_
  refine Ve ?_
  refine Ve ?_
  refine Vc ?_
  refine Va (Vs rfl) rfl ?_
  refine Va (Vw (Xd rfl rfl te_23) (congrArg (fun n : Nat => Yh .i64 (n : Int)) (Yn _))) rfl ?_
  refine Va (rd_gtr rfl rfl) rfl ?_
  refine Vd ?_
  refine Vp rfl (fun c1 => ?_) (fun c1 => ?_)
  ·have hF := Xj c1 hF
   refine Ve ?_
   refine Vc ?_
   obtain ⟨x2, h3, hF⟩ := Xr hF
   refine Vh (Xa rfl Try.call8 (F_law08_awake_ok h3 _)) rfl ?_
   refine Va (Xq rfl) rfl ?_
   refine Vd ?_
   refine Vx ?_
   obtain rfl := Yj hF
   refine fnR ?_
   exact Vg ⟨rfl, trivial⟩
  ·have hF := Xk c1 hF
   refine Vv ?_
   refine Ve ?_
   refine Vc ?_
   obtain ⟨x4, h5, hF⟩ := Xr hF
   refine Va (Vs rfl) rfl ?_
   refine Va (Vi rfl) rfl ?_
   refine Va (Vi rfl) rfl ?_
   refine Vh (Xa rfl Try.call9 (F_law08_doors_ok h5 _)) rfl ?_
   refine Va (rd_mvT rfl) rfl ?_
   refine Va (rd_extract rfl rfl) rfl ?_
   refine Va (rd_extract rfl rfl) rfl ?_
   refine Va (rd_asV rfl) rfl ?_
   refine Va (rd_asV rfl) rfl ?_
   refine Vd ?_
   refine Ve ?_
   refine Ve ?_
   refine Vc ?_
   refine Va (Vs rfl) rfl ?_
   refine Va (Vs rfl) rfl ?_
   refine Vh (vef_litF (es := Yg (encS 3 T_Door.enc) [x4.1, p1]) ⟨rfl, rfl, rfl, rfl, trivial⟩ rfl rfl (nt_all rfl) te_28 ts_23 tz_23 rfl rfl (Yl _) (by decide) (lt_map (fun _ => .vs _ _))) rfl ?_
   refine Va (Vw (Xd rfl rfl te_28) (congrArg (fun n : Nat => Yh .i64 (n : Int)) (Yn _))) rfl ?_
   refine Va (Vi rfl) rfl ?_
   refine Vd ?_
   refine Xe ?_
   obtain ⟨o7, ho7, hF⟩ := Xr hF
   refine Vm (Ye (F_law08_DoorChecks_L1 p1 p4 x4) (fun s6 E' lw lc => Xi E' lw lc [(4, .int .i64 p4), (30, .vs 1 (Yg (encS 3 T_Door.enc) [x4.1, p1])), (31, .int .i64 (([x4.1, p1]).length : Int)), (32, .int .i64 s6)] low []) (Sum.elim (fun j8 => OnlyE .ret (fun E' lw lc => Xi E' lw lc [(10, .bool false)] low [])) (fun j9 => OnlyE (.exit 0) (fun E' lw lc => Xi E' lw lc [] low []))) ho7 ?_ (by rintro (_|_) _ _ _ ⟨h, _⟩ <;> cases h) ?_) ?_
   ·exact Vg ⟨rfl, rfl, rfl, rfl, trivial⟩
   ·rintro s6 os6 _ _ _ hF hw
    unfold F_law08_DoorChecks_L1 at hF
    refine vwp_weak hw ?_
    refine Ve ?_
    refine Vc ?_
    refine Va (Xh rfl rfl) rfl ?_
    refine Vd ?_
    refine Ve ?_
    refine Vp rfl (fun c10 => ?_) (fun c10 => ?_)
    ·have hF := Xj c10 hF
     refine Vv ?_
     refine Ve ?_
     refine Xe ?_
     refine Ve ?_
     refine Vc ?_
     obtain ⟨x11, h12, hF⟩ := Xr hF
     refine Va (Vw (Xg rfl rfl h12 te_28 ts_23) (v' := .vptr [.vs 3 (Yg T_Door.enc x11)] 0) rfl) rfl ?_
     refine Va (Xc rfl ta_23 rfl) rfl ?_
     refine Va (rd_asV rfl) rfl ?_
     refine Vd ?_
     refine Ve ?_
     refine Ve ?_
     refine Vc ?_
     obtain ⟨x13, h14, hF⟩ := Xr hF
     obtain ⟨x15, h16, hF⟩ := Xr hF
     refine Va (Vs rfl) rfl ?_
     refine Vh (Xa rfl Try.call10 (F_door_Check_ok h14 _)) rfl ?_
     refine Va (Vs rfl) rfl ?_
     refine Vh (Xa rfl Try.call11 (F_ref08_Check_ok h16 _)) rfl ?_
     refine Va (Ya rfl rfl) rfl ?_
     refine Vd ?_
     refine Vp rfl (fun c17 => ?_) (fun c17 => ?_)
     ·have hF := Xj c17 hF
      refine Ve ?_
      refine Vc ?_
      refine Va (Xq rfl) rfl ?_
      refine Vd ?_
      refine Vx ?_
      obtain rfl := Yj hF
      refine Vu ?_
      exact Vg ⟨rfl, trivial⟩
     ·have hF := Xk c17 hF
      refine Vv ?_
      refine Ve ?_
      refine Vc ?_
      refine Va (Vt rfl) rfl ?_
      refine Vd ?_
      refine Xe ?_
      obtain ⟨o19, ho19, hF⟩ := Xr hF
      refine Vm (Ye (F_law08_DoorChecks_L2 p4 x11) (fun s18 E' lw lc => Xi E' lw lc [(4, .int .i64 p4), (14, .vs 3 (Yg T_Door.enc x11)), (15, .int .i64 s18), (30, .vs 1 (Yg (encS 3 T_Door.enc) [x4.1, p1])), (31, .int .i64 (([x4.1, p1]).length : Int)), (32, .int .i64 s6)] low []) (Sum.elim (fun j20 => OnlyE .ret (fun E' lw lc => Xi E' lw lc [(10, .bool false)] low [])) (fun j21 => OnlyE (.exit 2) (fun E' lw lc => Xi E' lw lc [(4, .int .i64 p4), (30, .vs 1 (Yg (encS 3 T_Door.enc) [x4.1, p1])), (31, .int .i64 (([x4.1, p1]).length : Int)), (32, .int .i64 s6)] low []))) ho19 ?_ (by rintro (_|_) _ _ _ ⟨h, _⟩ <;> cases h) ?_) ?_
      ·exact Vg ⟨rfl, rfl, rfl, rfl, rfl, rfl, trivial⟩
      ·rintro s18 os18 _ _ _ hF hw
       unfold F_law08_DoorChecks_L2 at hF
       refine vwp_weak hw ?_
       refine Ve ?_
       refine Ve ?_
       refine Vc ?_
       refine Va (Vi rfl) rfl ?_
       refine Va (Vs rfl) rfl ?_
       refine Va (Vw (Xd rfl rfl te_23) (congrArg (fun n : Nat => Yh .i64 (n : Int)) (Yn _))) rfl ?_
       refine Va (Xh rfl rfl) rfl ?_
       refine Vd ?_
       refine Vp rfl (fun c22 => ?_) (fun c22 => ?_)
       ·have hF := Xj c22 hF
        refine Vv ?_
        refine Ve ?_
        refine Xe ?_
        refine Ve ?_
        refine Vc ?_
        obtain ⟨x23, h24, hF⟩ := Xr hF
        refine Va (Vi rfl) rfl ?_
        refine Vh (Xa rfl Try.call12 (F_draw_Mod_ok h24 _)) rfl ?_
        refine Va (rd_sub rfl rfl rfl) rfl ?_
        refine Va (Vt rfl) rfl ?_
        refine Vd ?_
        refine Ve ?_
        obtain ⟨o25, ho25, hF⟩ := Xr hF
        refine Vm (Q' := (fun o25 => OnlyE .normal (fun E' lw lc => Xi E' lw lc [(4, .int .i64 p4), (14, .vs 3 (Yg T_Door.enc x11)), (15, .int .i64 s18), (30, .vs 1 (Yg (encS 3 T_Door.enc) [x4.1, p1])), (31, .int .i64 (([x4.1, p1]).length : Int)), (32, .int .i64 s6), (77, .bool o25)] low [])) o25) ?_ ?_
        ·replace hF := ho25
         obtain ⟨x26, h27, hF⟩ := Xr hF
         obtain ⟨x28, h29, hF⟩ := Xr hF
         obtain ⟨x30, h31, hF⟩ := Xr hF
         obtain ⟨x32, h33, hF⟩ := Xr hF
         rcases Ym (!((x28.Low == x32.Low) && ((x28.High == x32.High) && true))) with c34 | c34
         ·have hF := Xj c34 hF
          refine vwp_drawn0 [[], [], [0, 1], [0, 1, 2], [], [0, 1, 2, 3, 4], [], [], [6, 7], [6, 7, 8], [], [0, 1, 2, 3, 4, 5, 6, 7, 8, 9, 10], [0, 1, 2, 3, 4, 5, 6, 7, 8, 9, 10, 11], [0, 1, 2, 3, 4, 5, 6, 7, 8, 9, 10, 11, 12], [0, 1, 2, 3, 4, 5, 6, 7, 8, 9, 10, 11, 12, 13], [0, 1, 2, 3, 4, 5, 6, 7, 8, 9, 10, 11, 12, 13], [0, 1, 2, 3, 4, 5, 6, 7, 8, 9, 10, 11, 12, 13, 14, 15], [0, 1, 2, 3, 4, 5, 6, 7, 8, 9, 10, 11, 12, 13, 14, 15, 16], [0, 1, 2, 3, 4, 5, 6, 7, 8, 9, 10, 11, 12, 13], [0, 1, 2, 3, 4, 5, 6, 7, 8, 9, 10, 11, 12, 13, 14, 15, 16, 17, 18], [0, 1, 2, 3, 4, 5, 6, 7, 8, 9, 10, 11, 12, 13], [0, 1, 2, 3, 4, 5, 6, 7, 8, 9, 10, 11, 12, 13], [0, 1, 2, 3, 4, 5, 6, 7, 8, 9, 10, 11, 12, 13, 20, 21], [0, 1, 2, 3, 4, 5, 6, 7, 8, 9, 10, 11, 12, 13, 20, 21, 22], [0, 1, 2, 3, 4, 5, 6, 7, 8, 9, 10, 11, 12, 13], [0, 1, 2, 3, 4, 5, 6, 7, 8, 9, 10, 11, 12, 13, 14, 15, 16, 17, 18, 19, 20, 21, 22, 23, 24], [0, 1, 2, 3, 4, 5, 6, 7, 8, 9, 10, 11, 12, 13, 14, 15, 16, 17, 18, 19, 20, 21, 22, 23, 24, 25], [0, 1, 2, 3, 4, 5, 6, 7, 8, 9, 10, 11, 12, 13, 14, 15, 16, 17, 18, 19, 20, 21, 22, 23, 24, 25, 26]] mixed (by kernel_rfl) rfl ?_
          refine Xo rfl rfl (Vs rfl) ?_
          refine Xo rfl rfl (Vi rfl) ?_
          refine Xo rfl rfl (Vw (Xg rfl rfl h27 te_23 ts_36) (v' := .vptr [.int .i64 x26.Road, .int .i64 x26.Other, .vs 1 (Yg (Yh .i64) x26.Rests)] 0) rfl) ?_
          refine Xo rfl rfl (rd_loadVN (ds := [.int .i64 x26.Road, .int .i64 x26.Other, .vs 1 (Yg (Yh .i64) x26.Rests)]) rfl ta_36 ts_36 rfl rfl) ?_
          refine Xo rfl rfl (Vi rfl) ?_
          refine dn1 rfl rfl (nt_of (Xa rfl Try.call13 (F_door_Rest_ok h29 _))) ?_
          refine Xo rfl rfl (Vs rfl) ?_
          refine Xo rfl rfl (Vi rfl) ?_
          refine Xo rfl rfl (Vw (Xg rfl rfl h31 te_23 ts_36) (v' := .vptr [.int .i64 x30.Road, .int .i64 x30.Other, .vs 1 (Yg (Yh .i64) x30.Rests)] 0) rfl) ?_
          refine Xo rfl rfl (rd_loadVN (ds := [.int .i64 x30.Road, .int .i64 x30.Other, .vs 1 (Yg (Yh .i64) x30.Rests)]) rfl ta_36 ts_36 rfl rfl) ?_
          refine Xo rfl rfl (Vi rfl) ?_
          refine dn1 rfl rfl (nt_of (Xa rfl Try.call14 (F_ref08_Rest_ok h33 _))) ?_
          refine Xo rfl rfl (rd_neqV (tab := eqTab) eqTab_ok rfl rfl eqg_33 rfl) ?_
          refine Xo rfl rfl (Vl rfl) ?_
          refine Xf rfl rfl rfl (Xz c34) ?_
          refine Xf rfl rfl rfl (Xz c34) ?_
          refine Xf rfl rfl rfl (Xz c34) ?_
          refine Xf rfl rfl rfl (Xz c34) ?_
          refine Xf rfl rfl rfl (Xz c34) ?_
          refine Xf rfl rfl rfl (Xz c34) ?_
          refine Xf rfl rfl rfl (Xz c34) ?_
          refine Xf rfl rfl rfl (Xz c34) ?_
          refine Xf rfl rfl rfl (Xz c34) ?_
          refine Xf rfl rfl rfl (Xz c34) ?_
          refine Xf rfl rfl rfl (Xz c34) ?_
          refine Xf rfl rfl rfl (Xz c34) ?_
          refine Xf rfl rfl rfl (Xz c34) ?_
          refine Xo rfl rfl (Vo (congrArg Yi c34) rfl) ?_
          refine Yf ?_
          obtain rfl := Yj hF
          refine Vu ?_
          exact Vg ⟨rfl, rfl, rfl, rfl, rfl, rfl, rfl, trivial⟩
         ·have hF := Xk c34 hF
          obtain ⟨x35, h36, hF⟩ := Xr hF
          obtain ⟨x37, h38, hF⟩ := Xr hF
          obtain ⟨x39, h40, hF⟩ := Xr hF
          obtain ⟨x41, h42, hF⟩ := Xr hF
          refine vwp_drawn0 [[], [], [0, 1], [0, 1, 2], [], [0, 1, 2, 3, 4], [], [], [6, 7], [6, 7, 8], [], [0, 1, 2, 3, 4, 5, 6, 7, 8, 9, 10], [0, 1, 2, 3, 4, 5, 6, 7, 8, 9, 10, 11], [0, 1, 2, 3, 4, 5, 6, 7, 8, 9, 10, 11, 12], [0, 1, 2, 3, 4, 5, 6, 7, 8, 9, 10, 11, 12, 13], [0, 1, 2, 3, 4, 5, 6, 7, 8, 9, 10, 11, 12, 13], [0, 1, 2, 3, 4, 5, 6, 7, 8, 9, 10, 11, 12, 13, 14, 15], [0, 1, 2, 3, 4, 5, 6, 7, 8, 9, 10, 11, 12, 13, 14, 15, 16], [0, 1, 2, 3, 4, 5, 6, 7, 8, 9, 10, 11, 12, 13], [0, 1, 2, 3, 4, 5, 6, 7, 8, 9, 10, 11, 12, 13, 14, 15, 16, 17, 18], [0, 1, 2, 3, 4, 5, 6, 7, 8, 9, 10, 11, 12, 13], [0, 1, 2, 3, 4, 5, 6, 7, 8, 9, 10, 11, 12, 13], [0, 1, 2, 3, 4, 5, 6, 7, 8, 9, 10, 11, 12, 13, 20, 21], [0, 1, 2, 3, 4, 5, 6, 7, 8, 9, 10, 11, 12, 13, 20, 21, 22], [0, 1, 2, 3, 4, 5, 6, 7, 8, 9, 10, 11, 12, 13], [0, 1, 2, 3, 4, 5, 6, 7, 8, 9, 10, 11, 12, 13, 14, 15, 16, 17, 18, 19, 20, 21, 22, 23, 24], [0, 1, 2, 3, 4, 5, 6, 7, 8, 9, 10, 11, 12, 13, 14, 15, 16, 17, 18, 19, 20, 21, 22, 23, 24, 25], [0, 1, 2, 3, 4, 5, 6, 7, 8, 9, 10, 11, 12, 13, 14, 15, 16, 17, 18, 19, 20, 21, 22, 23, 24, 25, 26]] mixed (by kernel_rfl) rfl ?_
          refine Xo rfl rfl (Vs rfl) ?_
          refine Xo rfl rfl (Vi rfl) ?_
          refine Xo rfl rfl (Vw (Xg rfl rfl h27 te_23 ts_36) (v' := .vptr [.int .i64 x26.Road, .int .i64 x26.Other, .vs 1 (Yg (Yh .i64) x26.Rests)] 0) rfl) ?_
          refine Xo rfl rfl (rd_loadVN (ds := [.int .i64 x26.Road, .int .i64 x26.Other, .vs 1 (Yg (Yh .i64) x26.Rests)]) rfl ta_36 ts_36 rfl rfl) ?_
          refine Xo rfl rfl (Vi rfl) ?_
          refine dn1 rfl rfl (nt_of (Xa rfl Try.call13 (F_door_Rest_ok h29 _))) ?_
          refine Xo rfl rfl (Vs rfl) ?_
          refine Xo rfl rfl (Vi rfl) ?_
          refine Xo rfl rfl (Vw (Xg rfl rfl h31 te_23 ts_36) (v' := .vptr [.int .i64 x30.Road, .int .i64 x30.Other, .vs 1 (Yg (Yh .i64) x30.Rests)] 0) rfl) ?_
          refine Xo rfl rfl (rd_loadVN (ds := [.int .i64 x30.Road, .int .i64 x30.Other, .vs 1 (Yg (Yh .i64) x30.Rests)]) rfl ta_36 ts_36 rfl rfl) ?_
          refine Xo rfl rfl (Vi rfl) ?_
          refine dn1 rfl rfl (nt_of (Xa rfl Try.call14 (F_ref08_Rest_ok h33 _))) ?_
          refine Xo rfl rfl (rd_neqV (tab := eqTab) eqTab_ok rfl rfl eqg_33 rfl) ?_
          refine Xo rfl rfl (Vl rfl) ?_
          refine dt1 rfl rfl rfl rfl c34 (Vs rfl) ?_
          refine dt1 rfl rfl rfl rfl c34 (Vi rfl) ?_
          refine dt1 rfl rfl rfl rfl c34 (Vw (Xg rfl rfl h36 te_23 ts_36) (v' := .vptr [.int .i64 x35.Road, .int .i64 x35.Other, .vs 1 (Yg (Yh .i64) x35.Rests)] 0) rfl) ?_
          refine dt1 rfl rfl rfl rfl c34 (rd_loadVN (ds := [.int .i64 x35.Road, .int .i64 x35.Other, .vs 1 (Yg (Yh .i64) x35.Rests)]) rfl ta_36 ts_36 rfl rfl) ?_
          refine dt1 rfl rfl rfl rfl c34 (Vi rfl) ?_
          refine dops_takeW _ rfl rfl rfl (congrArg Yi c34) (Xp (nt_of (Xa rfl Try.call13 (F_door_Rest_ok h38 _))) all0) ?_
          refine dt1 rfl rfl rfl rfl c34 (Vs rfl) ?_
          refine dt1 rfl rfl rfl rfl c34 (Vi rfl) ?_
          refine dt1 rfl rfl rfl rfl c34 (Vw (Xg rfl rfl h40 te_23 ts_36) (v' := .vptr [.int .i64 x39.Road, .int .i64 x39.Other, .vs 1 (Yg (Yh .i64) x39.Rests)] 0) rfl) ?_
          refine dt1 rfl rfl rfl rfl c34 (rd_loadVN (ds := [.int .i64 x39.Road, .int .i64 x39.Other, .vs 1 (Yg (Yh .i64) x39.Rests)]) rfl ta_36 ts_36 rfl rfl) ?_
          refine dt1 rfl rfl rfl rfl c34 (Vi rfl) ?_
          refine dops_takeW _ rfl rfl rfl (congrArg Yi c34) (Xp (nt_of (Xa rfl Try.call14 (F_ref08_Rest_ok h42 _))) all0) ?_
          refine dt1 rfl rfl rfl rfl c34 (rd_neqV (tab := eqTab) eqTab_ok rfl rfl eqg_33 rfl) ?_
          refine Xo rfl rfl (Vr (congrArg Yi c34) rfl) ?_
          refine Yf ?_
          obtain rfl := Yj hF
          refine Vu ?_
          exact Vg ⟨rfl, rfl, rfl, rfl, rfl, rfl, rfl, trivial⟩
        ·rintro _ _ _ _ ⟨rfl, hw⟩
         refine ⟨_, _, _, hw, ?_⟩
         refine Vp rfl (fun c43 => ?_) (fun c43 => ?_)
         ·have hF := Xj c43 hF
          refine Ve ?_
          refine Vc ?_
          refine Va (Xq rfl) rfl ?_
          refine Vd ?_
          refine Vx ?_
          obtain rfl := Yj hF
          refine Vu ?_
          exact Vg ⟨rfl, trivial⟩
         ·have hF := Xk c43 hF
          refine Vv ?_
          refine Vc ?_
          refine Va (Vi rfl) rfl ?_
          refine Va (rd_add rfl rfl rfl) rfl ?_
          refine Va (Vt rfl) rfl ?_
          refine Vd ?_
          obtain rfl := Yj hF
          refine Vu ?_
          exact Vg ⟨rfl, rfl, rfl, rfl, rfl, rfl, trivial⟩
       ·have hF := Xk c22 hF
        refine vwp_exit ?_
        obtain rfl := Yj hF
        refine Vu ?_
        exact Vg ⟨rfl, rfl, rfl, rfl, trivial⟩
      ·rcases o19 with j20 | j21
       ·replace hF := elimL hF
        rintro _ _ _ _ ⟨rfl, hw⟩
        refine ⟨_, _, _, hw, ?_⟩
        obtain rfl := Yj hF
        refine Vu ?_
        exact Vg ⟨rfl, trivial⟩
       ·replace hF := elimR hF
        rintro _ _ _ _ ⟨rfl, hw⟩
        refine ⟨_, _, _, hw, ?_⟩
        refine Vc ?_
        refine Va (rd_add rfl rfl rfl) rfl ?_
        refine Va (Vi rfl) rfl ?_
        refine Vd ?_
        obtain rfl := Yj hF
        refine Vu ?_
        exact Vg ⟨rfl, rfl, rfl, rfl, trivial⟩
    ·have hF := Xk c10 hF
     refine vwp_exit ?_
     obtain rfl := Yj hF
     refine Vu ?_
     exact Vg trivial
   ·rcases o7 with j8 | j9
    ·replace hF := elimL hF
     rintro _ _ _ _ ⟨rfl, hw⟩
     refine ⟨_, _, _, hw, ?_⟩
     obtain rfl := Yj hF
     refine fnR ?_
     exact Vg ⟨rfl, trivial⟩
    ·replace hF := elimR hF
     rintro _ _ _ _ ⟨rfl, hw⟩
     refine ⟨_, _, _, hw, ?_⟩
     refine Ve ?_
     refine Vc ?_
     obtain ⟨x44, h45, hF⟩ := Xr hF
     refine Vh (Xa rfl Try.call8 (F_law08_awake_ok h45 _)) rfl ?_
     refine Va (Xq rfl) rfl ?_
     refine Vd ?_
     refine Vx ?_
     obtain rfl := Yj hF
     refine fnR ?_
     exact Vg ⟨rfl, trivial⟩
 ·rintro _ _ _ _ ⟨he, hw⟩
  refine ⟨_, _, _, hw, ?_⟩
  exact Xm he [.bool r] ⟨rfl, trivial⟩ (.bool _) ⟨rfl, rfl⟩

end Go.Proofs.Ytnmimlcnifflbaa
