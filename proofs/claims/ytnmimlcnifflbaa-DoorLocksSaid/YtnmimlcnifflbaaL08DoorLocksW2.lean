/- Printed by wip/lift/lift.py: the walks that show that the program computes them. -/
import Derived.Test.YtnmimlcnifflbaaL08DoorLocksW1
namespace Go.Proofs.Ytnmimlcnifflbaa
open Go Go.Aml Go.L
attribute [local irreducible] VRd VEf VOp VOps VWp DOps
set_option linter.unusedVariables false
open Go.Aml renaming vops_rd → Va, vops_skip → Vb, vwp_region → Vc, vops_nil → Vd, vwp_seq → Ve, rd_fieldAddr → Vf, weak_sub → Vg, vops_efE → Vh, rd_mvI → Vi, getO_N → Vj, rd_mvB → Vk, rd_load1 → Vl, vwp_monoW → Vm, rn_low → Vn, rd_pickT → Vo, vops_skipX → Vp, rd_mvV → Vq, vwp_cond → Vr, rd_pickF → Vs, rd_asI → Vt, onlyE → Vu, vt1 → Vv, vwp_skip → Vw, vwp_ret → Vx, vcalls_of_body → Vy, weak_pick → Vz, rd_to → Xa, rd_lenV → Xb, vef_callP → Xc, vwp_block → Xd, rd_loadV1 → Xe, Weak → Xf, rd_lss → Xg, bifT → Xh, bifF → Xi, bodyQ_pure → Xj, rd_ixV → Xk, dops_skip → Xl, rd_asB → Xm, lenS → Xn, vef_store → Xo, rd_neq → Xp, rd_mvP → Xq, vef_callS → Xr, bnd → Xs, getI_some → Xt, dr1 → Xu, rd_nilPtr → Xv, VCalls → Xw, rd_eql → Xx, sets_nil → Xy, setO_N → Xz
open List renaming map → Ya
open Go.Aml.PV renaming int → Yb
open Go.Aml.PV renaming bool → Yc
open Option.some renaming inj → Yd
open Nat renaming le_of_ble_eq_true → Ye
open Nat renaming succ_pos → Yf
open Bool renaming eq_false_or_eq_true → Yg
open List renaming length_map → Yh
set_option maxHeartbeats 4000000

theorem F_ref08_Check_ok {p0 : List T_Door} {r : Int} (hF : F_ref08_Check p0 = some r) (low : List AObj) :
    Xw Try.prog 11 [.vs 3 (Ya T_Door.enc p0)] low fun x low' => x = .int .i64 r ∧ low' = low := by
 refine Vy (nt := 104) (rs := [.tmp 2]) Try.func11 rfl rfl (Ye rfl) rfl ?_
 refine Vm (Q' := FnE (fun E' lw lc => Xf E' lw lc [(2, .int .i64 r)] low [])) ?_ ?_
 ·unfold F_ref08_Check at hF
  refine Ve ?_
  refine Vc ?_
  refine Va (Vt rfl) rfl ?_
  refine Vd ?_
  refine Ve ?_
  refine Ve ?_
  refine Vc ?_
  refine Va (Vq rfl) rfl ?_
  refine Va (Xa (Xb rfl rfl te_23) (congrArg (fun n : Nat => Yb .i64 (n : Int)) (Yh _))) rfl ?_
  refine Va (rd_gtr rfl rfl) rfl ?_
  refine Vd ?_
  refine Vr rfl (fun c1 => ?_) (fun c1 => ?_)
  ·have hF := Xh c1 hF
   refine Ve ?_
   refine Vc ?_
   refine Va (Vt rfl) rfl ?_
   refine Vd ?_
   refine Vx ?_
   obtain rfl := Yd hF
   refine fnR ?_
   exact Vg ⟨rfl, trivial⟩
  ·have hF := Xi c1 hF
   refine Vw ?_
   refine Ve ?_
   refine Ve ?_
   refine Vc ?_
   refine Va (Vt rfl) rfl ?_
   refine Vd ?_
   refine Xd ?_
   obtain ⟨o3, ho3, hF⟩ := Xs hF
   refine Vm (vwp_loopC (F_ref08_Check_L1 p0) (fun s2 E' lw lc => Xf E' lw lc [(0, .vs 3 (Ya T_Door.enc p0)), (3, .int .i64 s2)] low []) (Sum.elim (fun j4 => OnlyE .ret (fun E' lw lc => Xf E' lw lc [(2, .int .i64 j4)] low [])) (fun j5 => OnlyE (.exit 0) (fun E' lw lc => Xf E' lw lc [] low []))) ho3 ?_ (by rintro (_|_) _ _ _ ⟨h, _⟩ <;> cases h) ?_) ?_
   ·exact Vg ⟨rfl, rfl, trivial⟩
   ·rintro s2 os2 _ _ _ hF hw
    unfold F_ref08_Check_L1 at hF
    refine vwp_weak hw ?_
    refine Ve ?_
    refine Ve ?_
    refine Vc ?_
    refine Va (Vi rfl) rfl ?_
    refine Va (Vq rfl) rfl ?_
    refine Va (Xa (Xb rfl rfl te_23) (congrArg (fun n : Nat => Yb .i64 (n : Int)) (Yh _))) rfl ?_
    refine Va (Xg rfl rfl) rfl ?_
    refine Vd ?_
    refine Vr rfl (fun c6 => ?_) (fun c6 => ?_)
    ·have hF := Xh c6 hF
     refine Vw ?_
     refine Ve ?_
     refine Xd ?_
     refine Ve ?_
     refine Vc ?_
     obtain ⟨x7, h8, hF⟩ := Xs hF
     refine Va (Vq rfl) rfl ?_
     refine Va (Vi rfl) rfl ?_
     refine Va (Xa (Xk rfl rfl h8 te_23 ts_36) (v' := .vptr [.int .i64 x7.Road, .int .i64 x7.Other, .vs 1 (Ya (Yb .i64) x7.Rests)] 0) rfl) rfl ?_
     refine Va (rd_loadVN (ds := [.int .i64 x7.Road, .int .i64 x7.Other, .vs 1 (Ya (Yb .i64) x7.Rests)]) rfl ta_36 ts_36 rfl rfl) rfl ?_
     refine Vh (vef_allocN rfl rfl tz_36 rfl rfl (Yf _) rfl) rfl ?_
     refine Vh (Xo (p := .agg [.int .i64 x7.Road, .int .i64 x7.Other, .vs 1 (Ya (Yb .i64) x7.Rests)]) (e' := .agg [.int .i64 x7.Road, .int .i64 x7.Other, .vs 1 (Ya (Yb .i64) x7.Rests)]) rfl (Vj rfl rfl) rfl rfl ts_36 rfl (nt_ne rfl) rfl (Ye rfl) rfl (Xz rfl rfl)) rfl ?_
     refine Vd ?_
     refine Ve ?_
     refine Ve ?_
     refine Vc ?_
     refine Va (Vf rfl tf_36_0 ts_3 (by decide)) rfl ?_
     refine Va (Vl rfl (Vj rfl rfl) rfl ta_3 rfl) rfl ?_
     refine Va (Xg rfl rfl) rfl ?_
     refine Vd ?_
     refine Vr rfl (fun c9 => ?_) (fun c9 => ?_)
     ·have hF := Xh c9 hF
      refine Ve ?_
      refine Vc ?_
      refine Va (Vt rfl) rfl ?_
      refine Vd ?_
      refine Vx ?_
      obtain rfl := Yd hF
      refine Vu ?_
      exact Vz rfl [] (by decide) ⟨Vn rfl (.int _ _), trivial⟩ trivial
     ·have hF := Xi c9 hF
      refine Vw ?_
      refine Ve ?_
      refine Ve ?_
      obtain ⟨o10, ho10, hF⟩ := Xs hF
      refine Vm (Q' := (fun o10 => OnlyE .normal (fun E' lw lc => Xf E' lw lc [(0, .vs 3 (Ya T_Door.enc p0)), (3, .int .i64 s2), (4, .ptr (low.length + 0) 0 0 0), (32, .bool o10)] low [⟨36, 3, [.agg [.int .i64 x7.Road, .int .i64 x7.Other, .vs 1 (Ya (Yb .i64) x7.Rests)]], 0⟩])) o10) ?_ ?_
      ·replace hF := ho10
       refine Vc ?_
       rcases Yg (decide (((x7.Rests).length : Int) < 2)) with c11 | c11
       ·have hF := Xh c11 hF
        refine Va (Vf rfl tf_36_2 ts_25 (by decide)) rfl ?_
        refine Va (Vl rfl (Vj rfl rfl) rfl ta_25 rfl) rfl ?_
        refine Va (Xa (Xb rfl rfl te_25) (congrArg (fun n : Nat => Yb .i64 (n : Int)) (Yh _))) rfl ?_
        refine Va (Xg rfl rfl) rfl ?_
        refine Va (Vk rfl) rfl ?_
        refine Vb rfl rfl (neT c11) rfl ?_
        refine Vb rfl rfl (neT c11) rfl ?_
        refine Vb rfl rfl (neT c11) rfl ?_
        refine Vb rfl rfl (neT c11) rfl ?_
        refine Va (Vo (congrArg Yc c11) rfl) rfl ?_
        refine Vd ?_
        obtain rfl := Yd hF
        refine Vu ?_
        exact Vg ⟨rfl, rfl, rfl, rfl, trivial⟩
       ·have hF := Xi c11 hF
        refine Va (Vf rfl tf_36_2 ts_25 (by decide)) rfl ?_
        refine Va (Vl rfl (Vj rfl rfl) rfl ta_25 rfl) rfl ?_
        refine Va (Xa (Xb rfl rfl te_25) (congrArg (fun n : Nat => Yb .i64 (n : Int)) (Yh _))) rfl ?_
        refine Va (Xg rfl rfl) rfl ?_
        refine Va (Vk rfl) rfl ?_
        refine Vv rfl rfl c11 ?_
        refine Va (Vf rfl tf_36_2 ts_25 (by decide)) rfl ?_
        refine Vv rfl rfl c11 ?_
        refine Va (Vl rfl (Vj rfl rfl) rfl ta_25 rfl) rfl ?_
        refine Vv rfl rfl c11 ?_
        refine Va (Xa (Xb rfl rfl te_25) (congrArg (fun n : Nat => Yb .i64 (n : Int)) (Yh _))) rfl ?_
        refine Vv rfl rfl c11 ?_
        refine Va (rd_gtr rfl rfl) rfl ?_
        refine Va (Vs (congrArg Yc c11) rfl) rfl ?_
        refine Vd ?_
        obtain rfl := Yd hF
        refine Vu ?_
        exact Vg ⟨rfl, rfl, rfl, rfl, trivial⟩
      ·rintro _ _ _ _ ⟨rfl, hw⟩
       refine ⟨_, _, _, hw, ?_⟩
       refine Vr rfl (fun c12 => ?_) (fun c12 => ?_)
       ·have hF := Xh c12 hF
        refine Ve ?_
        refine Vc ?_
        refine Va (Vt rfl) rfl ?_
        refine Vd ?_
        refine Vx ?_
        obtain rfl := Yd hF
        refine Vu ?_
        exact Vz rfl [] (by decide) ⟨Vn rfl (.int _ _), trivial⟩ trivial
       ·have hF := Xi c12 hF
        refine Vw ?_
        refine Ve ?_
        refine Ve ?_
        refine Vc ?_
        refine Va (Vt rfl) rfl ?_
        refine Vd ?_
        refine Xd ?_
        obtain ⟨o14, ho14, hF⟩ := Xs hF
        refine Vm (vwp_loopC (F_ref08_Check_L2 x7) (fun s13 E' lw lc => Xf E' lw lc [(0, .vs 3 (Ya T_Door.enc p0)), (3, .int .i64 s2), (4, .ptr (low.length + 0) 0 0 0), (5, .int .i64 s13)] low [⟨36, 3, [.agg [.int .i64 x7.Road, .int .i64 x7.Other, .vs 1 (Ya (Yb .i64) x7.Rests)]], 0⟩]) (Sum.elim (fun j15 => OnlyE .ret (fun E' lw lc => Xf E' lw lc [(2, .int .i64 1)] low [])) (fun j16 => OnlyE (.exit 2) (fun E' lw lc => Xf E' lw lc [(0, .vs 3 (Ya T_Door.enc p0)), (3, .int .i64 s2), (4, .ptr (low.length + 0) 0 0 0)] low [⟨36, 3, [.agg [.int .i64 x7.Road, .int .i64 x7.Other, .vs 1 (Ya (Yb .i64) x7.Rests)]], 0⟩]))) ho14 ?_ (by rintro (_|_) _ _ _ ⟨h, _⟩ <;> cases h) ?_) ?_
        ·exact Vg ⟨rfl, rfl, rfl, rfl, trivial⟩
        ·rintro s13 os13 _ _ _ hF hw
         unfold F_ref08_Check_L2 at hF
         refine vwp_weak hw ?_
         refine Ve ?_
         refine Ve ?_
         refine Vc ?_
         refine Va (Vi rfl) rfl ?_
         refine Va (Vf rfl tf_36_2 ts_25 (by decide)) rfl ?_
         refine Va (Vl rfl (Vj rfl rfl) rfl ta_25 rfl) rfl ?_
         refine Va (Xa (Xb rfl rfl te_25) (congrArg (fun n : Nat => Yb .i64 (n : Int)) (Yh _))) rfl ?_
         refine Va (Xg rfl rfl) rfl ?_
         refine Vd ?_
         refine Vr rfl (fun c17 => ?_) (fun c17 => ?_)
         ·have hF := Xh c17 hF
          refine Vw ?_
          refine Ve ?_
          refine Xd ?_
          refine Ve ?_
          obtain ⟨o18, ho18, hF⟩ := Xs hF
          refine Vm (Q' := (fun o18 => OnlyE .normal (fun E' lw lc => Xf E' lw lc [(0, .vs 3 (Ya T_Door.enc p0)), (3, .int .i64 s2), (4, .ptr (low.length + 0) 0 0 0), (5, .int .i64 s13), (53, .bool o18)] low [⟨36, 3, [.agg [.int .i64 x7.Road, .int .i64 x7.Other, .vs 1 (Ya (Yb .i64) x7.Rests)]], 0⟩])) o18) ?_ ?_
          ·replace hF := ho18
           refine Vc ?_
           obtain ⟨x19, h20, hF⟩ := Xs hF
           rcases Yg (decide (x19 < 0)) with c21 | c21
           ·have hF := Xh c21 hF
            refine Va (Vf rfl tf_36_2 ts_25 (by decide)) rfl ?_
            refine Va (Vl rfl (Vj rfl rfl) rfl ta_25 rfl) rfl ?_
            refine Va (Vi rfl) rfl ?_
            refine Va (Xa (Xk rfl rfl h20 te_25 ts_3) (v' := .vptr [.int .i64 x19] 0) rfl) rfl ?_
            refine Va (Xe rfl ta_3 rfl) rfl ?_
            refine Va (Xg rfl rfl) rfl ?_
            refine Va (Vk rfl) rfl ?_
            refine Vb rfl rfl (neT c21) rfl ?_
            refine Vb rfl rfl (neT c21) rfl ?_
            refine Vb rfl rfl (neT c21) rfl ?_
            refine Vb rfl rfl (neT c21) rfl ?_
            refine Vb rfl rfl (neT c21) rfl ?_
            refine Vb rfl rfl (neT c21) rfl ?_
            refine Va (Vo (congrArg Yc c21) rfl) rfl ?_
            refine Vd ?_
            obtain rfl := Yd hF
            refine Vu ?_
            exact Vg ⟨rfl, rfl, rfl, rfl, rfl, trivial⟩
           ·have hF := Xi c21 hF
            obtain ⟨x22, h23, hF⟩ := Xs hF
            refine Va (Vf rfl tf_36_2 ts_25 (by decide)) rfl ?_
            refine Va (Vl rfl (Vj rfl rfl) rfl ta_25 rfl) rfl ?_
            refine Va (Vi rfl) rfl ?_
            refine Va (Xa (Xk rfl rfl h20 te_25 ts_3) (v' := .vptr [.int .i64 x19] 0) rfl) rfl ?_
            refine Va (Xe rfl ta_3 rfl) rfl ?_
            refine Va (Xg rfl rfl) rfl ?_
            refine Va (Vk rfl) rfl ?_
            refine Vv rfl rfl c21 ?_
            refine Va (Vf rfl tf_36_2 ts_25 (by decide)) rfl ?_
            refine Vv rfl rfl c21 ?_
            refine Va (Vl rfl (Vj rfl rfl) rfl ta_25 rfl) rfl ?_
            refine Vv rfl rfl c21 ?_
            refine Va (Vi rfl) rfl ?_
            refine Vv rfl rfl c21 ?_
            refine Va (Xa (Xk rfl rfl h23 te_25 ts_3) (v' := .vptr [.int .i64 x22] 0) rfl) rfl ?_
            refine Vv rfl rfl c21 ?_
            refine Va (Xe rfl ta_3 rfl) rfl ?_
            refine Vv rfl rfl c21 ?_
            refine Va (rd_gtr rfl rfl) rfl ?_
            refine Va (Vs (congrArg Yc c21) rfl) rfl ?_
            refine Vd ?_
            obtain rfl := Yd hF
            refine Vu ?_
            exact Vg ⟨rfl, rfl, rfl, rfl, rfl, trivial⟩
          ·rintro _ _ _ _ ⟨rfl, hw⟩
           refine ⟨_, _, _, hw, ?_⟩
           refine Vr rfl (fun c24 => ?_) (fun c24 => ?_)
           ·have hF := Xh c24 hF
            refine Ve ?_
            refine Vc ?_
            refine Va (Vt rfl) rfl ?_
            refine Vd ?_
            refine Vx ?_
            obtain rfl := Yd hF
            refine Vu ?_
            exact Vz rfl [] (by decide) ⟨Vn rfl (.int _ _), trivial⟩ trivial
           ·have hF := Xi c24 hF
            refine Vw ?_
            refine Vc ?_
            refine Va (Vi rfl) rfl ?_
            refine Va (rd_add rfl rfl rfl) rfl ?_
            refine Va (Vt rfl) rfl ?_
            refine Vd ?_
            obtain rfl := Yd hF
            refine Vu ?_
            exact Vg ⟨rfl, rfl, rfl, rfl, trivial⟩
         ·have hF := Xi c17 hF
          refine vwp_exit ?_
          obtain rfl := Yd hF
          refine Vu ?_
          exact Vg ⟨rfl, rfl, rfl, trivial⟩
        ·rcases o14 with j15 | j16
         ·replace hF := elimL hF
          rintro _ _ _ _ ⟨rfl, hw⟩
          refine ⟨_, _, _, hw, ?_⟩
          obtain rfl := Yd hF
          refine Vu ?_
          exact Vg ⟨rfl, trivial⟩
         ·replace hF := elimR hF
          rintro _ _ _ _ ⟨rfl, hw⟩
          refine ⟨_, _, _, hw, ?_⟩
          refine Ve ?_
          refine Ve ?_
          refine Vc ?_
          refine Va (Vt rfl) rfl ?_
          refine Vd ?_
          refine Xd ?_
          obtain ⟨o26, ho26, hF⟩ := Xs hF
          refine Vm (vwp_loopC (F_ref08_Check_L3 x7) (fun s25 E' lw lc => Xf E' lw lc [(0, .vs 3 (Ya T_Door.enc p0)), (3, .int .i64 s2), (4, .ptr (low.length + 0) 0 0 0), (6, .int .i64 s25)] low [⟨36, 3, [.agg [.int .i64 x7.Road, .int .i64 x7.Other, .vs 1 (Ya (Yb .i64) x7.Rests)]], 0⟩]) (Sum.elim (fun j27 => OnlyE .ret (fun E' lw lc => Xf E' lw lc [(2, .int .i64 15)] low [])) (fun j28 => OnlyE (.exit 4) (fun E' lw lc => Xf E' lw lc [(0, .vs 3 (Ya T_Door.enc p0)), (3, .int .i64 s2), (4, .ptr (low.length + 0) 0 0 0)] low [⟨36, 3, [.agg [.int .i64 x7.Road, .int .i64 x7.Other, .vs 1 (Ya (Yb .i64) x7.Rests)]], 0⟩]))) ho26 ?_ (by rintro (_|_) _ _ _ ⟨h, _⟩ <;> cases h) ?_) ?_
          ·exact Vg ⟨rfl, rfl, rfl, rfl, trivial⟩
          ·rintro s25 os25 _ _ _ hF hw
           unfold F_ref08_Check_L3 at hF
           refine vwp_weak hw ?_
           refine Ve ?_
           refine Ve ?_
           refine Vc ?_
           refine Va (Vi rfl) rfl ?_
           refine Va (Vf rfl tf_36_2 ts_25 (by decide)) rfl ?_
           refine Va (Vl rfl (Vj rfl rfl) rfl ta_25 rfl) rfl ?_
           refine Va (Xa (Xb rfl rfl te_25) (congrArg (fun n : Nat => Yb .i64 (n : Int)) (Yh _))) rfl ?_
           refine Va (Xg rfl rfl) rfl ?_
           refine Vd ?_
           refine Vr rfl (fun c29 => ?_) (fun c29 => ?_)
           ·have hF := Xh c29 hF
            refine Vw ?_
            refine Ve ?_
            refine Xd ?_
            refine Ve ?_
            obtain ⟨x30, h31, hF⟩ := Xs hF
            obtain ⟨x32, h33, hF⟩ := Xs hF
            refine vwp_drawn0 [[], [0], [], [0, 1, 2], [0, 1, 2, 3], [], [5], [], [7], [5, 6, 7, 8], [5, 6, 7, 8, 9], [0, 1, 2, 3, 4, 5, 6, 7, 8, 9, 10]] mixed (by kernel_rfl) rfl ?_
            refine Xu rfl rfl (Vf rfl tf_36_2 ts_25 (by decide)) ?_
            refine Xu rfl rfl (Vl rfl (Vj rfl rfl) rfl ta_25 rfl) ?_
            refine Xu rfl rfl (Vi rfl) ?_
            refine Xu rfl rfl (Xa (Xk rfl rfl h31 te_25 ts_3) (v' := .vptr [.int .i64 x30] 0) rfl) ?_
            refine Xu rfl rfl (Xe rfl ta_3 rfl) ?_
            refine Xu rfl rfl (Vf rfl tf_36_2 ts_25 (by decide)) ?_
            refine Xu rfl rfl (Vl rfl (Vj rfl rfl) rfl ta_25 rfl) ?_
            refine Xu rfl rfl (Vi rfl) ?_
            refine Xu rfl rfl (rd_sub rfl rfl rfl) ?_
            refine Xu rfl rfl (Xa (Xk rfl rfl h33 te_25 ts_3) (v' := .vptr [.int .i64 x32] 0) rfl) ?_
            refine Xu rfl rfl (Xe rfl ta_3 rfl) ?_
            refine Xu rfl rfl (rd_geq rfl rfl) ?_
            refine dops_nil ?_
            refine Vr rfl (fun c34 => ?_) (fun c34 => ?_)
            ·have hF := Xh c34 hF
             refine Ve ?_
             refine Vc ?_
             refine Va (Vt rfl) rfl ?_
             refine Vd ?_
             refine Vx ?_
             obtain rfl := Yd hF
             refine Vu ?_
             exact Vz rfl [] (by decide) ⟨Vn rfl (.int _ _), trivial⟩ trivial
            ·have hF := Xi c34 hF
             refine Vw ?_
             refine Vc ?_
             refine Va (Vi rfl) rfl ?_
             refine Va (rd_add rfl rfl rfl) rfl ?_
             refine Va (Vt rfl) rfl ?_
             refine Vd ?_
             obtain rfl := Yd hF
             refine Vu ?_
             exact Vg ⟨rfl, rfl, rfl, rfl, trivial⟩
           ·have hF := Xi c29 hF
            refine vwp_exit ?_
            obtain rfl := Yd hF
            refine Vu ?_
            exact Vg ⟨rfl, rfl, rfl, trivial⟩
          ·rcases o26 with j27 | j28
           ·replace hF := elimL hF
            rintro _ _ _ _ ⟨rfl, hw⟩
            refine ⟨_, _, _, hw, ?_⟩
            obtain rfl := Yd hF
            refine Vu ?_
            exact Vg ⟨rfl, trivial⟩
           ·replace hF := elimR hF
            rintro _ _ _ _ ⟨rfl, hw⟩
            refine ⟨_, _, _, hw, ?_⟩
            refine Ve ?_
            obtain ⟨o35, ho35, hF⟩ := Xs hF
            refine Vm (Q' := (fun o35 => OnlyE .normal (fun E' lw lc => Xf E' lw lc [(0, .vs 3 (Ya T_Door.enc p0)), (3, .int .i64 s2), (103, .bool o35)] low [])) o35) ?_ ?_
            ·replace hF := ho35
             refine Vc ?_
             rcases Yg (decide (x7.Other ≠ (-1))) with c36 | c36
             ·have hF := Xh c36 hF
              rcases Yg (decide (x7.Other < 0)) with c37 | c37
              ·have hF := Xh c37 hF
               refine Va (Vf rfl tf_36_1 ts_3 (by decide)) rfl ?_
               refine Va (Vl rfl (Vj rfl rfl) rfl ta_3 rfl) rfl ?_
               refine Va (Xp rfl rfl) rfl ?_
               refine Va (Vk rfl) rfl ?_
               refine Vv rfl rfl c36 ?_
               refine Va (Vf rfl tf_36_1 ts_3 (by decide)) rfl ?_
               refine Vv rfl rfl c36 ?_
               refine Va (Vl rfl (Vj rfl rfl) rfl ta_3 rfl) rfl ?_
               refine Vv rfl rfl c36 ?_
               refine Va (Xg rfl rfl) rfl ?_
               refine Vv rfl rfl c36 ?_
               refine Va (Vk rfl) rfl ?_
               refine Vb rfl rfl (neT c37) rfl ?_
               refine Vb rfl rfl (neT c37) rfl ?_
               refine Vb rfl rfl (neT c37) rfl ?_
               refine Vb rfl rfl (neT c37) rfl ?_
               refine Vb rfl rfl (neT c37) rfl ?_
               refine Vv rfl rfl c36 ?_
               refine Va (Vo (congrArg Yc c37) rfl) rfl ?_
               refine Vv rfl rfl c36 ?_
               refine Va (Vk rfl) rfl ?_
               refine Vb rfl rfl (by decide) rfl ?_
               refine Vb rfl rfl (by decide) rfl ?_
               refine Vb rfl rfl (by decide) rfl ?_
               refine Vb rfl rfl (by decide) rfl ?_
               refine Vv rfl rfl c36 ?_
               refine Va (Vo rfl rfl) rfl ?_
               refine Vv rfl rfl c36 ?_
               refine Va (Vk rfl) rfl ?_
               refine Vb rfl rfl (by decide) rfl ?_
               refine Vb rfl rfl (by decide) rfl ?_
               refine Vb rfl rfl (by decide) rfl ?_
               refine Vb rfl rfl (by decide) rfl ?_
               refine Vb rfl rfl (by decide) rfl ?_
               refine Vb rfl rfl (by decide) rfl ?_
               refine Vb rfl rfl (by decide) rfl ?_
               refine Vb rfl rfl (by decide) rfl ?_
               refine Vv rfl rfl c36 ?_
               refine Va (Vo rfl rfl) rfl ?_
               refine Va (Vo (congrArg Yc c36) rfl) rfl ?_
               refine Vd ?_
               obtain rfl := Yd hF
               refine Vu ?_
               exact Vz rfl [] (by decide) ⟨Vn rfl (.vs _ _), Vn rfl (.int _ _), Vn rfl (.bool _), trivial⟩ trivial
              ·have hF := Xi c37 hF
               rcases Yg (decide (((p0).length : Int) ≤ x7.Other)) with c38 | c38
               ·have hF := Xh c38 hF
                refine Va (Vf rfl tf_36_1 ts_3 (by decide)) rfl ?_
                refine Va (Vl rfl (Vj rfl rfl) rfl ta_3 rfl) rfl ?_
                refine Va (Xp rfl rfl) rfl ?_
                refine Va (Vk rfl) rfl ?_
                refine Vv rfl rfl c36 ?_
                refine Va (Vf rfl tf_36_1 ts_3 (by decide)) rfl ?_
                refine Vv rfl rfl c36 ?_
                refine Va (Vl rfl (Vj rfl rfl) rfl ta_3 rfl) rfl ?_
                refine Vv rfl rfl c36 ?_
                refine Va (Xg rfl rfl) rfl ?_
                refine Vv rfl rfl c36 ?_
                refine Va (Vk rfl) rfl ?_
                refine Vv rfl rfl c37 ?_
                refine Va (Vf rfl tf_36_1 ts_3 (by decide)) rfl ?_
                refine Vv rfl rfl c37 ?_
                refine Va (Vl rfl (Vj rfl rfl) rfl ta_3 rfl) rfl ?_
                refine Vv rfl rfl c37 ?_
                refine Va (Vq rfl) rfl ?_
                refine Vv rfl rfl c37 ?_
                refine Va (Xa (Xb rfl rfl te_23) (congrArg (fun n : Nat => Yb .i64 (n : Int)) (Yh _))) rfl ?_
                refine Vv rfl rfl c37 ?_
                refine Va (rd_geq rfl rfl) rfl ?_
                refine Vv rfl rfl c36 ?_
                refine Va (Vs (congrArg Yc c37) rfl) rfl ?_
                refine Vv rfl rfl c36 ?_
                refine Va (Vk rfl) rfl ?_
                refine Vb rfl rfl (neT c38) rfl ?_
                refine Vb rfl rfl (neT c38) rfl ?_
                refine Vb rfl rfl (neT c38) rfl ?_
                refine Vb rfl rfl (neT c38) rfl ?_
                refine Vv rfl rfl c36 ?_
                refine Va (Vo (congrArg Yc c38) rfl) rfl ?_
                refine Vv rfl rfl c36 ?_
                refine Va (Vk rfl) rfl ?_
                refine Vb rfl rfl (by decide) rfl ?_
                refine Vb rfl rfl (by decide) rfl ?_
                refine Vb rfl rfl (by decide) rfl ?_
                refine Vb rfl rfl (by decide) rfl ?_
                refine Vb rfl rfl (by decide) rfl ?_
                refine Vb rfl rfl (by decide) rfl ?_
                refine Vb rfl rfl (by decide) rfl ?_
                refine Vb rfl rfl (by decide) rfl ?_
                refine Vv rfl rfl c36 ?_
                refine Va (Vo rfl rfl) rfl ?_
                refine Va (Vo (congrArg Yc c36) rfl) rfl ?_
                refine Vd ?_
                obtain rfl := Yd hF
                refine Vu ?_
                exact Vz rfl [] (by decide) ⟨Vn rfl (.vs _ _), Vn rfl (.int _ _), Vn rfl (.bool _), trivial⟩ trivial
               ·have hF := Xi c38 hF
                rcases Yg (decide (x7.Other = s2)) with c39 | c39
                ·have hF := Xh c39 hF
                 refine Va (Vf rfl tf_36_1 ts_3 (by decide)) rfl ?_
                 refine Va (Vl rfl (Vj rfl rfl) rfl ta_3 rfl) rfl ?_
                 refine Va (Xp rfl rfl) rfl ?_
                 refine Va (Vk rfl) rfl ?_
                 refine Vv rfl rfl c36 ?_
                 refine Va (Vf rfl tf_36_1 ts_3 (by decide)) rfl ?_
                 refine Vv rfl rfl c36 ?_
                 refine Va (Vl rfl (Vj rfl rfl) rfl ta_3 rfl) rfl ?_
                 refine Vv rfl rfl c36 ?_
                 refine Va (Xg rfl rfl) rfl ?_
                 refine Vv rfl rfl c36 ?_
                 refine Va (Vk rfl) rfl ?_
                 refine Vv rfl rfl c37 ?_
                 refine Va (Vf rfl tf_36_1 ts_3 (by decide)) rfl ?_
                 refine Vv rfl rfl c37 ?_
                 refine Va (Vl rfl (Vj rfl rfl) rfl ta_3 rfl) rfl ?_
                 refine Vv rfl rfl c37 ?_
                 refine Va (Vq rfl) rfl ?_
                 refine Vv rfl rfl c37 ?_
                 refine Va (Xa (Xb rfl rfl te_23) (congrArg (fun n : Nat => Yb .i64 (n : Int)) (Yh _))) rfl ?_
                 refine Vv rfl rfl c37 ?_
                 refine Va (rd_geq rfl rfl) rfl ?_
                 refine Vv rfl rfl c36 ?_
                 refine Va (Vs (congrArg Yc c37) rfl) rfl ?_
                 refine Vv rfl rfl c36 ?_
                 refine Va (Vk rfl) rfl ?_
                 refine Vv rfl rfl c38 ?_
                 refine Va (Vf rfl tf_36_1 ts_3 (by decide)) rfl ?_
                 refine Vv rfl rfl c38 ?_
                 refine Va (Vl rfl (Vj rfl rfl) rfl ta_3 rfl) rfl ?_
                 refine Vv rfl rfl c38 ?_
                 refine Va (Vi rfl) rfl ?_
                 refine Vv rfl rfl c38 ?_
                 refine Va (Xx rfl rfl) rfl ?_
                 refine Vv rfl rfl c36 ?_
                 refine Va (Vs (congrArg Yc c38) rfl) rfl ?_
                 refine Vv rfl rfl c36 ?_
                 refine Va (Vk rfl) rfl ?_
                 refine Vb rfl rfl (neT c39) rfl ?_
                 refine Vb rfl rfl (neT c39) rfl ?_
                 refine Vb rfl rfl (neT c39) rfl ?_
                 refine Vb rfl rfl (neT c39) rfl ?_
                 refine Vb rfl rfl (neT c39) rfl ?_
                 refine Vb rfl rfl (neT c39) rfl ?_
                 refine Vb rfl rfl (neT c39) rfl ?_
                 refine Vb rfl rfl (neT c39) rfl ?_
                 refine Vv rfl rfl c36 ?_
                 refine Va (Vo (congrArg Yc c39) rfl) rfl ?_
                 refine Va (Vo (congrArg Yc c36) rfl) rfl ?_
                 refine Vd ?_
                 obtain rfl := Yd hF
                 refine Vu ?_
                 exact Vz rfl [] (by decide) ⟨Vn rfl (.vs _ _), Vn rfl (.int _ _), Vn rfl (.bool _), trivial⟩ trivial
                ·have hF := Xi c39 hF
                 obtain ⟨x40, h41, hF⟩ := Xs hF
                 refine Va (Vf rfl tf_36_1 ts_3 (by decide)) rfl ?_
                 refine Va (Vl rfl (Vj rfl rfl) rfl ta_3 rfl) rfl ?_
                 refine Va (Xp rfl rfl) rfl ?_
                 refine Va (Vk rfl) rfl ?_
                 refine Vv rfl rfl c36 ?_
                 refine Va (Vf rfl tf_36_1 ts_3 (by decide)) rfl ?_
                 refine Vv rfl rfl c36 ?_
                 refine Va (Vl rfl (Vj rfl rfl) rfl ta_3 rfl) rfl ?_
                 refine Vv rfl rfl c36 ?_
                 refine Va (Xg rfl rfl) rfl ?_
                 refine Vv rfl rfl c36 ?_
                 refine Va (Vk rfl) rfl ?_
                 refine Vv rfl rfl c37 ?_
                 refine Va (Vf rfl tf_36_1 ts_3 (by decide)) rfl ?_
                 refine Vv rfl rfl c37 ?_
                 refine Va (Vl rfl (Vj rfl rfl) rfl ta_3 rfl) rfl ?_
                 refine Vv rfl rfl c37 ?_
                 refine Va (Vq rfl) rfl ?_
                 refine Vv rfl rfl c37 ?_
                 refine Va (Xa (Xb rfl rfl te_23) (congrArg (fun n : Nat => Yb .i64 (n : Int)) (Yh _))) rfl ?_
                 refine Vv rfl rfl c37 ?_
                 refine Va (rd_geq rfl rfl) rfl ?_
                 refine Vv rfl rfl c36 ?_
                 refine Va (Vs (congrArg Yc c37) rfl) rfl ?_
                 refine Vv rfl rfl c36 ?_
                 refine Va (Vk rfl) rfl ?_
                 refine Vv rfl rfl c38 ?_
                 refine Va (Vf rfl tf_36_1 ts_3 (by decide)) rfl ?_
                 refine Vv rfl rfl c38 ?_
                 refine Va (Vl rfl (Vj rfl rfl) rfl ta_3 rfl) rfl ?_
                 refine Vv rfl rfl c38 ?_
                 refine Va (Vi rfl) rfl ?_
                 refine Vv rfl rfl c38 ?_
                 refine Va (Xx rfl rfl) rfl ?_
                 refine Vv rfl rfl c36 ?_
                 refine Va (Vs (congrArg Yc c38) rfl) rfl ?_
                 refine Vv rfl rfl c36 ?_
                 refine Va (Vk rfl) rfl ?_
                 refine Vv rfl rfl c39 ?_
                 refine Va (Vq rfl) rfl ?_
                 refine Vv rfl rfl c39 ?_
                 refine Va (Vf rfl tf_36_1 ts_3 (by decide)) rfl ?_
                 refine Vv rfl rfl c39 ?_
                 refine Va (Vl rfl (Vj rfl rfl) rfl ta_3 rfl) rfl ?_
                 refine Vv rfl rfl c39 ?_
                 refine Va (Xa (Xk rfl rfl h41 te_23 ts_36) (v' := .vptr [.int .i64 x40.Road, .int .i64 x40.Other, .vs 1 (Ya (Yb .i64) x40.Rests)] 0) rfl) rfl ?_
                 refine Vv rfl rfl c39 ?_
                 refine Va (rd_fieldVaddr rfl tf_36_1 ts_3 (by decide)) rfl ?_
                 refine Vv rfl rfl c39 ?_
                 refine Va (Xe rfl ta_3 rfl) rfl ?_
                 refine Vv rfl rfl c39 ?_
                 refine Va (Vi rfl) rfl ?_
                 refine Vv rfl rfl c39 ?_
                 refine Va (Xp rfl rfl) rfl ?_
                 refine Vv rfl rfl c36 ?_
                 refine Va (Vs (congrArg Yc c39) rfl) rfl ?_
                 refine Va (Vo (congrArg Yc c36) rfl) rfl ?_
                 refine Vd ?_
                 obtain rfl := Yd hF
                 refine Vu ?_
                 exact Vz rfl [] (by decide) ⟨Vn rfl (.vs _ _), Vn rfl (.int _ _), Vn rfl (.bool _), trivial⟩ trivial
             ·have hF := Xi c36 hF
              refine Va (Vf rfl tf_36_1 ts_3 (by decide)) rfl ?_
              refine Va (Vl rfl (Vj rfl rfl) rfl ta_3 rfl) rfl ?_
              refine Va (Xp rfl rfl) rfl ?_
              refine Va (Vk rfl) rfl ?_
              refine Vb rfl rfl (neF c36) rfl ?_
              refine Vb rfl rfl (neF c36) rfl ?_
              refine Vb rfl rfl (neF c36) rfl ?_
              refine Vb rfl rfl (neF c36) rfl ?_
              refine Vp rfl rfl rfl ?_
              refine Vp rfl rfl rfl ?_
              refine Vp rfl rfl rfl ?_
              refine Vp rfl rfl rfl ?_
              refine Vp rfl rfl rfl ?_
              refine Vb rfl rfl (neF c36) rfl ?_
              refine Vb rfl rfl (neF c36) rfl ?_
              refine Vp rfl rfl rfl ?_
              refine Vp rfl rfl rfl ?_
              refine Vp rfl rfl rfl ?_
              refine Vp rfl rfl rfl ?_
              refine Vb rfl rfl (neF c36) rfl ?_
              refine Vb rfl rfl (neF c36) rfl ?_
              refine Vp rfl rfl rfl ?_
              refine Vp rfl rfl rfl ?_
              refine Vp rfl rfl rfl ?_
              refine Vp rfl rfl rfl ?_
              refine Vp rfl rfl rfl ?_
              refine Vp rfl rfl rfl ?_
              refine Vp rfl rfl rfl ?_
              refine Vp rfl rfl rfl ?_
              refine Vb rfl rfl (neF c36) rfl ?_
              refine Va (Vs (congrArg Yc c36) rfl) rfl ?_
              refine Vd ?_
              obtain rfl := Yd hF
              refine Vu ?_
              exact Vz rfl [] (by decide) ⟨Vn rfl (.vs _ _), Vn rfl (.int _ _), Vn rfl (.bool _), trivial⟩ trivial
            ·rintro _ _ _ _ ⟨rfl, hw⟩
             refine ⟨_, _, _, hw, ?_⟩
             refine Vr rfl (fun c42 => ?_) (fun c42 => ?_)
             ·have hF := Xh c42 hF
              refine Ve ?_
              refine Vc ?_
              refine Va (Vt rfl) rfl ?_
              refine Vd ?_
              refine Vx ?_
              obtain rfl := Yd hF
              refine Vu ?_
              exact Vg ⟨rfl, trivial⟩
             ·have hF := Xi c42 hF
              refine Vw ?_
              refine Vc ?_
              refine Va (Vi rfl) rfl ?_
              refine Va (rd_add rfl rfl rfl) rfl ?_
              refine Va (Vt rfl) rfl ?_
              refine Vd ?_
              obtain rfl := Yd hF
              refine Vu ?_
              exact Vg ⟨rfl, rfl, trivial⟩
    ·have hF := Xi c6 hF
     refine vwp_exit ?_
     obtain rfl := Yd hF
     refine Vu ?_
     exact Vg trivial
   ·rcases o3 with j4 | j5
    ·replace hF := elimL hF
     rintro _ _ _ _ ⟨rfl, hw⟩
     refine ⟨_, _, _, hw, ?_⟩
     obtain rfl := Yd hF
     refine fnR ?_
     exact Vg ⟨rfl, trivial⟩
    ·replace hF := elimR hF
     rintro _ _ _ _ ⟨rfl, hw⟩
     refine ⟨_, _, _, hw, ?_⟩
     refine Ve ?_
     refine Vc ?_
     refine Va (Vt rfl) rfl ?_
     refine Vd ?_
     refine Vx ?_
     obtain rfl := Yd hF
     refine fnR ?_
     exact Vg ⟨rfl, trivial⟩
 ·rintro _ _ _ _ ⟨he, hw⟩
  refine ⟨_, _, _, hw, ?_⟩
  exact Xj he [.int .i64 r] ⟨rfl, trivial⟩ (.int _ _) ⟨rfl, rfl⟩

theorem F_law08_DoorLocks_ok {p0 : List Int} {p1 : List Int} {r : Bool} (hF : F_law08_DoorLocks p0 p1 = some r) (low : List AObj) :
    Xw Try.prog 5 [.vs 1 (Ya (Yb .u8) p0), .vs 1 (Ya (Yb .u16) p1)] low fun x low' => x = .bool r ∧ low' = low := by
 refine Vy (nt := 70) (rs := [.tmp 4]) Try.func5 rfl rfl (Ye rfl) rfl ?_
 refine Vm (Q' := FnE (fun E' lw lc => Xf E' lw lc [(4, .bool r)] low [])) ?_ ?_
 ·unfold F_law08_DoorLocks at hF
  refine Ve ?_
  refine Vc ?_
  refine Va (Xm rfl) rfl ?_
  refine Vd ?_
  refine Ve ?_
  refine Vc ?_
  obtain ⟨x1, h2, hF⟩ := Xs hF
  refine Va (Vq rfl) rfl ?_
  refine Vh (Xc rfl Try.call9 (F_law08_doors_ok h2 _)) rfl ?_
  refine Va (rd_mvT rfl) rfl ?_
  refine Va (rd_extract rfl rfl) rfl ?_
  refine Va (rd_extract rfl rfl) rfl ?_
  refine Va (rd_asV rfl) rfl ?_
  refine Va (rd_asV rfl) rfl ?_
  refine Vd ?_
  refine Ve ?_
  refine Ve ?_
  obtain ⟨o3, ho3, hF⟩ := Xs hF
  refine Vm (Q' := (fun o3 => OnlyE .normal (fun E' lw lc => Xf E' lw lc [(1, .vs 1 (Ya (Yb .u16) p1)), (5, .vs 3 (Ya T_Door.enc x1.1)), (23, .bool o3)] low [])) o3) ?_ ?_
  ·replace hF := ho3
   refine Vc ?_
   obtain ⟨x4, h5, hF⟩ := Xs hF
   rcases Yg (decide (x4 ≠ 0)) with c6 | c6
   ·have hF := Xh c6 hF
    refine Va (Vq rfl) rfl ?_
    refine Vh (Xc rfl Try.call11 (F_ref08_Check_ok h5 _)) rfl ?_
    refine Va (Xp rfl rfl) rfl ?_
    refine Va (Vk rfl) rfl ?_
    refine Vb rfl rfl (neT c6) rfl ?_
    refine Vb rfl rfl (neT c6) rfl ?_
    refine Vb rfl rfl (neT c6) rfl ?_
    refine Va (Vo (congrArg Yc c6) rfl) rfl ?_
    refine Vd ?_
    obtain rfl := Yd hF
    refine Vu ?_
    exact Vg ⟨rfl, rfl, rfl, trivial⟩
   ·have hF := Xi c6 hF
    refine Va (Vq rfl) rfl ?_
    refine Vh (Xc rfl Try.call11 (F_ref08_Check_ok h5 _)) rfl ?_
    refine Va (Xp rfl rfl) rfl ?_
    refine Va (Vk rfl) rfl ?_
    refine Vv rfl rfl c6 ?_
    refine Va (Vq rfl) rfl ?_
    refine Vv rfl rfl c6 ?_
    refine Va (Xa (Xb rfl rfl te_41) (congrArg (fun n : Nat => Yb .i64 (n : Int)) (Yh _))) rfl ?_
    refine Vv rfl rfl c6 ?_
    refine Va (rd_gtr rfl rfl) rfl ?_
    refine Va (Vs (congrArg Yc c6) rfl) rfl ?_
    refine Vd ?_
    obtain rfl := Yd hF
    refine Vu ?_
    exact Vg ⟨rfl, rfl, rfl, trivial⟩
  ·rintro _ _ _ _ ⟨rfl, hw⟩
   refine ⟨_, _, _, hw, ?_⟩
   refine Vr rfl (fun c7 => ?_) (fun c7 => ?_)
   ·have hF := Xh c7 hF
    refine Ve ?_
    refine Vc ?_
    obtain ⟨x8, h9, hF⟩ := Xs hF
    refine Vh (Xc rfl Try.call8 (F_law08_awake_ok h9 _)) rfl ?_
    refine Va (Xm rfl) rfl ?_
    refine Vd ?_
    refine Vx ?_
    obtain rfl := Yd hF
    refine fnR ?_
    exact Vg ⟨rfl, trivial⟩
   ·have hF := Xi c7 hF
    refine Vw ?_
    refine Ve ?_
    refine Vc ?_
    obtain ⟨x10, h11, hF⟩ := Xs hF
    refine Va (Vq rfl) rfl ?_
    refine Va (Xa (Xb rfl rfl te_23) (congrArg (fun n : Nat => Yb .i64 (n : Int)) (Yh _))) rfl ?_
    refine Vh (vef_mkN (f := (Yb .i64)) (zz := 0) rfl rfl rfl rfl te_25 ts_3 tb_3 (by decide) tz_3 rfl rfl (Yf _) rfl h11) rfl ?_
    refine Va (rd_asL rfl) rfl ?_
    refine Vd ?_
    refine Ve ?_
    refine Ve ?_
    refine Vc ?_
    refine Va (Vt rfl) rfl ?_
    refine Vd ?_
    refine Xd ?_
    obtain ⟨o13, ho13, hF⟩ := Xs hF
    refine Vm (vwp_loopC (F_law08_DoorLocks_L1 p1 x1) (fun s12 E' lw lc => Xf E' lw lc [(1, .vs 1 (Ya (Yb .u16) p1)), (5, .vs 3 (Ya T_Door.enc x1.1)), (7, .vs 1 (Ya (Yb .i64) s12.1)), (8, .int .i64 s12.2)] low []) (Sum.elim (fun j14 => OnlyE .ret (fun E' lw lc => Xf E' lw lc [(4, .bool false)] low [])) (fun j15 => OnlyE (.exit 0) (fun E' lw lc => Xf E' lw lc [] low []))) ho13 ?_ (by rintro (_|_) _ _ _ ⟨h, _⟩ <;> cases h) ?_) ?_
    ·refine Weak.trans (weak_freezeN (E' := [(1, .vs 1 (Ya (Yb .u16) p1)), (5, .vs 3 (Ya T_Door.enc x1.1)), (7, .vs 1 (Ya (Yb .i64) x10)), (8, .int .i64 0)]) (loc1 := [⟨3, 1, [], 0 + 1⟩]) rfl 0 rfl (lt_map (fun _ => .int _ _)) ⟨cv_same rfl, cv_same rfl, cv_sl rfl rfl rfl (full_take rfl), cv_same rfl, trivial⟩ ⟨.refl _, trivial⟩) ?_
     exact Vz rfl [] (by decide) ⟨Vn rfl (.vs _ _), Vn rfl (.vs _ _), Vn rfl (.vs _ _), Vn rfl (.int _ _), trivial⟩ trivial
    ·rintro s12 os12 _ _ _ hF hw
     unfold F_law08_DoorLocks_L1 at hF
     refine vwp_weak hw ?_
     refine Ve ?_
     refine Ve ?_
     refine Vc ?_
     refine Va (Vi rfl) rfl ?_
     refine Va (Vq rfl) rfl ?_
     refine Va (Xa (Xb rfl rfl te_41) (congrArg (fun n : Nat => Yb .i64 (n : Int)) (Yh _))) rfl ?_
     refine Va (Xg rfl rfl) rfl ?_
     refine Vd ?_
     refine Vr rfl (fun c16 => ?_) (fun c16 => ?_)
     ·have hF := Xh c16 hF
      refine Vw ?_
      refine Ve ?_
      obtain ⟨o17, ho17, hF⟩ := Xs hF
      refine Vm (Q' := Sum.elim (fun j18 => OnlyE .ret (fun E' lw lc => Xf E' lw lc [(4, .bool false)] low [])) (fun j19 => OnlyE .normal (fun E' lw lc => Xf E' lw lc [(1, .vs 1 (Ya (Yb .u16) p1)), (5, .vs 3 (Ya T_Door.enc x1.1)), (7, .vs 1 (Ya (Yb .i64) j19)), (8, .int .i64 s12.2)] low [])) o17) ?_ ?_
      ·replace hF := ho17
       refine Xd ?_
       refine Ve ?_
       obtain ⟨x20, h21, hF⟩ := Xs hF
       obtain ⟨x22, h23, hF⟩ := Xs hF
       obtain ⟨x24, h25, hF⟩ := Xs hF
       refine vwp_drawn0 [[], [], [], [], [2, 3], [2, 3, 4], [2, 3, 4, 5], [2, 3, 4, 5, 6], [], [], [8, 9], [8, 9, 10], [8, 9, 10, 11], [8, 9, 10, 11, 12], [8, 9, 10, 11, 12, 13], [8, 9, 10, 11, 12, 13, 14], [0, 1, 2, 3, 4, 5, 6, 7, 8, 9, 10, 11, 12, 13, 14, 15], [0, 1, 2, 3, 4, 5, 6, 7, 8, 9, 10, 11, 12, 13, 14, 15, 16], [0, 1, 2, 3, 4, 5, 6, 7, 8, 9, 10, 11, 12, 13, 14, 15, 16, 17], [0, 1, 2, 3, 4, 5, 6, 7, 8, 9, 10, 11, 12, 13, 14, 15, 16, 17], [0, 1, 2, 3, 4, 5, 6, 7, 8, 9, 10, 11, 12, 13, 14, 15, 16, 17, 18], [0, 1, 2, 3, 4, 5, 6, 7, 8, 9, 10, 11, 12, 13, 14, 15, 16, 17, 18, 19, 20]] mixed (by kernel_rfl) rfl ?_
       refine Xu rfl rfl (Vq rfl) ?_
       refine Xu rfl rfl (Vq rfl) ?_
       refine Xu rfl rfl (Vq rfl) ?_
       refine Xu rfl rfl (Vi rfl) ?_
       refine Xu rfl rfl (Xa (Xk rfl rfl h21 te_41 ts_44) (v' := .vptr [.int .u16 x20] 0) rfl) ?_
       refine Xu rfl rfl (Xe rfl ta_44 rfl) ?_
       refine Xu rfl rfl (rd_rem rfl rfl (by decide) rfl) ?_
       refine Xu rfl rfl (rd_conv rfl us_44 ti_3 rfl) ?_
       refine Xu rfl rfl (Vq rfl) ?_
       refine Xu rfl rfl (Vi rfl) ?_
       refine Xu rfl rfl (Xa (Xk rfl rfl h23 te_41 ts_44) (v' := .vptr [.int .u16 x22] 0) rfl) ?_
       refine Xu rfl rfl (Xe rfl ta_44 rfl) ?_
       refine Xu rfl rfl (rd_quo rfl rfl (by decide) rfl) ?_
       refine Xu rfl rfl (rd_rem rfl rfl (by decide) rfl) ?_
       refine Xu rfl rfl (rd_conv rfl us_44 ti_3 rfl) ?_
       refine Xu rfl rfl (rd_sub rfl rfl rfl) ?_
       refine dn1 rfl rfl (nt_of (Xc rfl Try.call18 (F_door_Command_ok h25 _))) ?_
       refine Xu rfl rfl (rd_mvT rfl) ?_
       refine Xu rfl rfl (rd_extract rfl rfl) ?_
       refine Xu rfl rfl (rd_extract rfl rfl) ?_
       refine Xu rfl rfl (rd_asV rfl) ?_
       refine Xu rfl rfl (Vt rfl) ?_
       refine dops_nil ?_
       refine Ve ?_
       refine Ve ?_
       refine Vc ?_
       refine Va (Vi rfl) rfl ?_
       refine Va (Xp rfl rfl) rfl ?_
       refine Vd ?_
       refine Vr rfl (fun c26 => ?_) (fun c26 => ?_)
       ·have hF := Xh c26 hF
        refine vwp_exit ?_
        obtain rfl := Yd hF
        refine Vu ?_
        exact Vg ⟨rfl, rfl, rfl, rfl, trivial⟩
       ·have hF := Xi c26 hF
        refine Vw ?_
        refine Ve ?_
        refine Vc ?_
        refine Va (Vq rfl) rfl ?_
        refine Va (rd_asV rfl) rfl ?_
        refine Vd ?_
        refine Ve ?_
        obtain ⟨o27, ho27, hF⟩ := Xs hF
        refine Vm (Q' := (fun o27 => OnlyE .normal (fun E' lw lc => Xf E' lw lc [(1, .vs 1 (Ya (Yb .u16) p1)), (5, .vs 3 (Ya T_Door.enc x1.1)), (7, .vs 1 (Ya (Yb .i64) x24.1)), (8, .int .i64 s12.2), (68, .bool o27)] low [])) o27) ?_ ?_
        ·replace hF := ho27
         refine Vc ?_
         rcases Yg (decide (((x24.1).length : Int) ≠ ((x1.1).length : Int))) with c28 | c28
         ·have hF := Xh c28 hF
          refine Va (Vq rfl) rfl ?_
          refine Va (Xa (Xb rfl rfl te_25) (congrArg (fun n : Nat => Yb .i64 (n : Int)) (Yh _))) rfl ?_
          refine Va (Vq rfl) rfl ?_
          refine Va (Xa (Xb rfl rfl te_23) (congrArg (fun n : Nat => Yb .i64 (n : Int)) (Yh _))) rfl ?_
          refine Va (Xp rfl rfl) rfl ?_
          refine Va (Vk rfl) rfl ?_
          refine Vb rfl rfl (neT c28) rfl ?_
          refine Vb rfl rfl (neT c28) rfl ?_
          refine Vb rfl rfl (neT c28) rfl ?_
          refine Vb rfl rfl (neT c28) rfl ?_
          refine Vb rfl rfl (neT c28) rfl ?_
          refine Va (Vo (congrArg Yc c28) rfl) rfl ?_
          refine Vd ?_
          obtain rfl := Yd hF
          refine Vu ?_
          exact Vg ⟨rfl, rfl, rfl, rfl, rfl, trivial⟩
         ·have hF := Xi c28 hF
          obtain ⟨x29, h30, hF⟩ := Xs hF
          refine Va (Vq rfl) rfl ?_
          refine Va (Xa (Xb rfl rfl te_25) (congrArg (fun n : Nat => Yb .i64 (n : Int)) (Yh _))) rfl ?_
          refine Va (Vq rfl) rfl ?_
          refine Va (Xa (Xb rfl rfl te_23) (congrArg (fun n : Nat => Yb .i64 (n : Int)) (Yh _))) rfl ?_
          refine Va (Xp rfl rfl) rfl ?_
          refine Va (Vk rfl) rfl ?_
          refine Vv rfl rfl c28 ?_
          refine Va (Vq rfl) rfl ?_
          refine Vv rfl rfl c28 ?_
          refine Va (Vq rfl) rfl ?_
          refine Vv rfl rfl c28 ?_
          refine Vh (Xc rfl Try.call16 (F_door_Open_ok h30 _)) rfl ?_
          refine Vv rfl rfl c28 ?_
          refine Va (Xa (Xb rfl rfl te_25) (congrArg (fun n : Nat => Yb .i64 (n : Int)) (Yh _))) rfl ?_
          refine Vv rfl rfl c28 ?_
          refine Va (rd_gtr rfl rfl) rfl ?_
          refine Va (Vs (congrArg Yc c28) rfl) rfl ?_
          refine Vd ?_
          obtain rfl := Yd hF
          refine Vu ?_
          exact Vg ⟨rfl, rfl, rfl, rfl, rfl, trivial⟩
        ·rintro _ _ _ _ ⟨rfl, hw⟩
         refine ⟨_, _, _, hw, ?_⟩
         refine Vr rfl (fun c31 => ?_) (fun c31 => ?_)
         ·have hF := Xh c31 hF
          refine Ve ?_
          refine Vc ?_
          refine Va (Xm rfl) rfl ?_
          refine Vd ?_
          refine Vx ?_
          obtain rfl := Yd hF
          refine Vu ?_
          exact Vg ⟨rfl, trivial⟩
         ·have hF := Xi c31 hF
          refine Vw ?_
          obtain rfl := Yd hF
          refine Vu ?_
          exact Vg ⟨rfl, rfl, rfl, rfl, trivial⟩
      ·rcases o17 with j18 | j19
       ·replace hF := elimL hF
        rintro _ _ _ _ ⟨rfl, hw⟩
        refine ⟨_, _, _, hw, ?_⟩
        obtain rfl := Yd hF
        refine Vu ?_
        exact Vg ⟨rfl, trivial⟩
       ·replace hF := elimR hF
        rintro _ _ _ _ ⟨rfl, hw⟩
        refine ⟨_, _, _, hw, ?_⟩
        refine Vc ?_
        refine Va (Vi rfl) rfl ?_
        refine Va (rd_add rfl rfl rfl) rfl ?_
        refine Va (Vt rfl) rfl ?_
        refine Vd ?_
        obtain rfl := Yd hF
        refine Vu ?_
        exact Vg ⟨rfl, rfl, rfl, rfl, trivial⟩
     ·have hF := Xi c16 hF
      refine vwp_exit ?_
      obtain rfl := Yd hF
      refine Vu ?_
      exact Vg trivial
    ·rcases o13 with j14 | j15
     ·replace hF := elimL hF
      rintro _ _ _ _ ⟨rfl, hw⟩
      refine ⟨_, _, _, hw, ?_⟩
      obtain rfl := Yd hF
      refine fnR ?_
      exact Vg ⟨rfl, trivial⟩
     ·replace hF := elimR hF
      rintro _ _ _ _ ⟨rfl, hw⟩
      refine ⟨_, _, _, hw, ?_⟩
      refine Ve ?_
      refine Vc ?_
      obtain ⟨x32, h33, hF⟩ := Xs hF
      refine Vh (Xc rfl Try.call8 (F_law08_awake_ok h33 _)) rfl ?_
      refine Va (Xm rfl) rfl ?_
      refine Vd ?_
      refine Vx ?_
      obtain rfl := Yd hF
      refine fnR ?_
      exact Vg ⟨rfl, trivial⟩
 ·rintro _ _ _ _ ⟨he, hw⟩
  refine ⟨_, _, _, hw, ?_⟩
  exact Xj he [.bool r] ⟨rfl, trivial⟩ (.bool _) ⟨rfl, rfl⟩

end Go.Proofs.Ytnmimlcnifflbaa
