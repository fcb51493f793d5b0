/- Printed by wip/lift/lift.py: the walks that show that the program computes them. -/
import Derived.Test.YtnmimlcnifflbaaL08DoorShutsW1
namespace Go.Proofs.Ytnmimlcnifflbaa
open Go Go.Aml Go.L
attribute [local irreducible] VRd VEf VOp VOps VWp DOps
set_option linter.unusedVariables false
open Go.Aml renaming vops_rd → Va, vops_skip → Vb, vwp_region → Vc, vops_nil → Vd, vwp_seq → Ve, rd_fieldAddr → Vf, weak_sub → Vg, vops_efE → Vh, rd_mvI → Vi, rd_load1 → Vj, getO_N → Vk, rd_mvB → Vl, rn_low → Vm, rd_pickT → Vn, vwp_monoW → Vo, rd_pickF → Vp, rd_mvV → Vq, dops_skip → Vr, vops_skipX → Vs, vwp_cond → Vt, rd_asI → Vu, onlyE → Vv, vt1 → Vw, weak_pick → Vx, rd_to → Vy, vwp_ret → Vz, vwp_skip → Xa, vef_callP → Xb, vcalls_of_body → Xc, rd_lenV → Xd, rd_loadV1 → Xe, vwp_block → Xf, rd_ixV → Xg, bifT → Xh, bifF → Xi, rd_lss → Xj, rd_neq → Xk, Weak → Xl, dr1 → Xm, vef_store → Xn, bodyQ_pure → Xo, rd_asB → Xp, lenS → Xq, bnd → Xr, rd_mvP → Xs, vef_callS → Xt, neT → Xu, getI_some → Xv, rd_eql → Xw, setO_N → Xx, rd_nilPtr → Xy, VCalls → Xz, sets_nil → Ya, lt_agg → Yb
open List renaming map → Yc
open Go.Aml.PV renaming int → Yd
open Go.Aml.PV renaming bool → Ye
open Option.some renaming inj → Yf
open Nat renaming le_of_ble_eq_true → Yg
open Nat renaming succ_pos → Yh
open Bool renaming eq_false_or_eq_true → Yi
open List renaming length_map → Yj
set_option maxHeartbeats 4000000

theorem F_ref08_Check_ok {p0 : List T_Door} {r : Int} (hF : F_ref08_Check p0 = some r) (low : List AObj) :
    Xz Try.prog 11 [.vs 3 (Yc T_Door.enc p0)] low fun x low' => x = .int .i64 r ∧ low' = low := by
 refine Xc (nt := 104) (rs := [.tmp 2]) Try.func11 rfl rfl (Yg rfl) rfl ?_
 refine Vo (Q' := FnE (fun E' lw lc => Xl E' lw lc [(2, .int .i64 r)] low [])) ?_ ?_
 ·unfold F_ref08_Check at hF
  refine Ve ?_
  refine Vc ?_
  refine Va (Vu rfl) rfl ?_
  refine Vd ?_
  refine Ve ?_
  refine Ve ?_
  refine Vc ?_
  refine Va (Vq rfl) rfl ?_
  refine Va (Vy (Xd rfl rfl te_23) (congrArg (fun n : Nat => Yd .i64 (n : Int)) (Yj _))) rfl ?_
  refine Va (rd_gtr rfl rfl) rfl ?_
  refine Vd ?_
  refine Vt rfl (fun c1 => ?_) (fun c1 => ?_)
  ·have hF := Xh c1 hF
   refine Ve ?_
   refine Vc ?_
   refine Va (Vu rfl) rfl ?_
   refine Vd ?_
   refine Vz ?_
   obtain rfl := Yf hF
   refine fnR ?_
   exact Vg ⟨rfl, trivial⟩
  ·have hF := Xi c1 hF
   refine Xa ?_
   refine Ve ?_
   refine Ve ?_
   refine Vc ?_
   refine Va (Vu rfl) rfl ?_
   refine Vd ?_
   refine Xf ?_
   obtain ⟨o3, ho3, hF⟩ := Xr hF
   refine Vo (vwp_loopC (F_ref08_Check_L1 p0) (fun s2 E' lw lc => Xl E' lw lc [(0, .vs 3 (Yc T_Door.enc p0)), (3, .int .i64 s2)] low []) (Sum.elim (fun j4 => OnlyE .ret (fun E' lw lc => Xl E' lw lc [(2, .int .i64 j4)] low [])) (fun j5 => OnlyE (.exit 0) (fun E' lw lc => Xl E' lw lc [] low []))) ho3 ?_ (by rintro (_|_) _ _ _ ⟨h, _⟩ <;> cases h) ?_) ?_
   ·exact Vg ⟨rfl, rfl, trivial⟩
   ·rintro s2 os2 _ _ _ hF hw
    unfold F_ref08_Check_L1 at hF
    refine vwp_weak hw ?_
    refine Ve ?_
    refine Ve ?_
    refine Vc ?_
    refine Va (Vi rfl) rfl ?_
    refine Va (Vq rfl) rfl ?_
    refine Va (Vy (Xd rfl rfl te_23) (congrArg (fun n : Nat => Yd .i64 (n : Int)) (Yj _))) rfl ?_
    refine Va (Xj rfl rfl) rfl ?_
    refine Vd ?_
    refine Vt rfl (fun c6 => ?_) (fun c6 => ?_)
    ·have hF := Xh c6 hF
     refine Xa ?_
     refine Ve ?_
     refine Xf ?_
     refine Ve ?_
     refine Vc ?_
     obtain ⟨x7, h8, hF⟩ := Xr hF
     refine Va (Vq rfl) rfl ?_
     refine Va (Vi rfl) rfl ?_
     refine Va (Vy (Xg rfl rfl h8 te_23 ts_36) (v' := .vptr [.int .i64 x7.Road, .int .i64 x7.Other, .vs 1 (Yc (Yd .i64) x7.Rests)] 0) rfl) rfl ?_
     refine Va (rd_loadVN (ds := [.int .i64 x7.Road, .int .i64 x7.Other, .vs 1 (Yc (Yd .i64) x7.Rests)]) rfl ta_36 ts_36 rfl rfl) rfl ?_
     refine Vh (vef_allocN rfl rfl tz_36 rfl rfl (Yh _) rfl) rfl ?_
     refine Vh (Xn (p := .agg [.int .i64 x7.Road, .int .i64 x7.Other, .vs 1 (Yc (Yd .i64) x7.Rests)]) (e' := .agg [.int .i64 x7.Road, .int .i64 x7.Other, .vs 1 (Yc (Yd .i64) x7.Rests)]) rfl (Vk rfl rfl) rfl rfl ts_36 rfl (nt_ne rfl) rfl (Yg rfl) rfl (Xx rfl rfl)) rfl ?_
     refine Vd ?_
     refine Ve ?_
     refine Ve ?_
     refine Vc ?_
     refine Va (Vf rfl tf_36_0 ts_3 (by decide)) rfl ?_
     refine Va (Vj rfl (Vk rfl rfl) rfl ta_3 rfl) rfl ?_
     refine Va (Xj rfl rfl) rfl ?_
     refine Vd ?_
     refine Vt rfl (fun c9 => ?_) (fun c9 => ?_)
     ·have hF := Xh c9 hF
      refine Ve ?_
      refine Vc ?_
      refine Va (Vu rfl) rfl ?_
      refine Vd ?_
      refine Vz ?_
      obtain rfl := Yf hF
      refine Vv ?_
      exact Vx rfl [] (by decide) ⟨Vm rfl (.int _ _), trivial⟩ trivial
     ·have hF := Xi c9 hF
      refine Xa ?_
      refine Ve ?_
      refine Ve ?_
      obtain ⟨o10, ho10, hF⟩ := Xr hF
      refine Vo (Q' := (fun o10 => OnlyE .normal (fun E' lw lc => Xl E' lw lc [(0, .vs 3 (Yc T_Door.enc p0)), (3, .int .i64 s2), (4, .ptr (low.length + 0) 0 0 0), (32, .bool o10)] low [⟨36, 3, [.agg [.int .i64 x7.Road, .int .i64 x7.Other, .vs 1 (Yc (Yd .i64) x7.Rests)]], 0⟩])) o10) ?_ ?_
      ·replace hF := ho10
       refine Vc ?_
       rcases Yi (decide (((x7.Rests).length : Int) < 2)) with c11 | c11
       ·have hF := Xh c11 hF
        refine Va (Vf rfl tf_36_2 ts_25 (by decide)) rfl ?_
        refine Va (Vj rfl (Vk rfl rfl) rfl ta_25 rfl) rfl ?_
        refine Va (Vy (Xd rfl rfl te_25) (congrArg (fun n : Nat => Yd .i64 (n : Int)) (Yj _))) rfl ?_
        refine Va (Xj rfl rfl) rfl ?_
        refine Va (Vl rfl) rfl ?_
        refine Vb rfl rfl (Xu c11) rfl ?_
        refine Vb rfl rfl (Xu c11) rfl ?_
        refine Vb rfl rfl (Xu c11) rfl ?_
        refine Vb rfl rfl (Xu c11) rfl ?_
        refine Va (Vn (congrArg Ye c11) rfl) rfl ?_
        refine Vd ?_
        obtain rfl := Yf hF
        refine Vv ?_
        exact Vg ⟨rfl, rfl, rfl, rfl, trivial⟩
       ·have hF := Xi c11 hF
        refine Va (Vf rfl tf_36_2 ts_25 (by decide)) rfl ?_
        refine Va (Vj rfl (Vk rfl rfl) rfl ta_25 rfl) rfl ?_
        refine Va (Vy (Xd rfl rfl te_25) (congrArg (fun n : Nat => Yd .i64 (n : Int)) (Yj _))) rfl ?_
        refine Va (Xj rfl rfl) rfl ?_
        refine Va (Vl rfl) rfl ?_
        refine Vw rfl rfl c11 ?_
        refine Va (Vf rfl tf_36_2 ts_25 (by decide)) rfl ?_
        refine Vw rfl rfl c11 ?_
        refine Va (Vj rfl (Vk rfl rfl) rfl ta_25 rfl) rfl ?_
        refine Vw rfl rfl c11 ?_
        refine Va (Vy (Xd rfl rfl te_25) (congrArg (fun n : Nat => Yd .i64 (n : Int)) (Yj _))) rfl ?_
        refine Vw rfl rfl c11 ?_
        refine Va (rd_gtr rfl rfl) rfl ?_
        refine Va (Vp (congrArg Ye c11) rfl) rfl ?_
        refine Vd ?_
        obtain rfl := Yf hF
        refine Vv ?_
        exact Vg ⟨rfl, rfl, rfl, rfl, trivial⟩
      ·rintro _ _ _ _ ⟨rfl, hw⟩
       refine ⟨_, _, _, hw, ?_⟩
       refine Vt rfl (fun c12 => ?_) (fun c12 => ?_)
       ·have hF := Xh c12 hF
        refine Ve ?_
        refine Vc ?_
        refine Va (Vu rfl) rfl ?_
        refine Vd ?_
        refine Vz ?_
        obtain rfl := Yf hF
        refine Vv ?_
        exact Vx rfl [] (by decide) ⟨Vm rfl (.int _ _), trivial⟩ trivial
       ·have hF := Xi c12 hF
        refine Xa ?_
        refine Ve ?_
        refine Ve ?_
        refine Vc ?_
        refine Va (Vu rfl) rfl ?_
        refine Vd ?_
        refine Xf ?_
        obtain ⟨o14, ho14, hF⟩ := Xr hF
        refine Vo (vwp_loopC (F_ref08_Check_L2 x7) (fun s13 E' lw lc => Xl E' lw lc [(0, .vs 3 (Yc T_Door.enc p0)), (3, .int .i64 s2), (4, .ptr (low.length + 0) 0 0 0), (5, .int .i64 s13)] low [⟨36, 3, [.agg [.int .i64 x7.Road, .int .i64 x7.Other, .vs 1 (Yc (Yd .i64) x7.Rests)]], 0⟩]) (Sum.elim (fun j15 => OnlyE .ret (fun E' lw lc => Xl E' lw lc [(2, .int .i64 1)] low [])) (fun j16 => OnlyE (.exit 2) (fun E' lw lc => Xl E' lw lc [(0, .vs 3 (Yc T_Door.enc p0)), (3, .int .i64 s2), (4, .ptr (low.length + 0) 0 0 0)] low [⟨36, 3, [.agg [.int .i64 x7.Road, .int .i64 x7.Other, .vs 1 (Yc (Yd .i64) x7.Rests)]], 0⟩]))) ho14 ?_ (by rintro (_|_) _ _ _ ⟨h, _⟩ <;> cases h) ?_) ?_
        ·exact Vg ⟨rfl, rfl, rfl, rfl, trivial⟩
        ·rintro s13 os13 _ _ _ hF hw
         unfold F_ref08_Check_L2 at hF
         refine vwp_weak hw ?_
         refine Ve ?_
         refine Ve ?_
         refine Vc ?_
         refine Va (Vi rfl) rfl ?_
         refine Va (Vf rfl tf_36_2 ts_25 (by decide)) rfl ?_
         refine Va (Vj rfl (Vk rfl rfl) rfl ta_25 rfl) rfl ?_
         refine Va (Vy (Xd rfl rfl te_25) (congrArg (fun n : Nat => Yd .i64 (n : Int)) (Yj _))) rfl ?_
         refine Va (Xj rfl rfl) rfl ?_
         refine Vd ?_
         refine Vt rfl (fun c17 => ?_) (fun c17 => ?_)
         ·have hF := Xh c17 hF
          refine Xa ?_
          refine Ve ?_
          refine Xf ?_
          refine Ve ?_
          obtain ⟨o18, ho18, hF⟩ := Xr hF
          refine Vo (Q' := (fun o18 => OnlyE .normal (fun E' lw lc => Xl E' lw lc [(0, .vs 3 (Yc T_Door.enc p0)), (3, .int .i64 s2), (4, .ptr (low.length + 0) 0 0 0), (5, .int .i64 s13), (53, .bool o18)] low [⟨36, 3, [.agg [.int .i64 x7.Road, .int .i64 x7.Other, .vs 1 (Yc (Yd .i64) x7.Rests)]], 0⟩])) o18) ?_ ?_
          ·replace hF := ho18
           refine Vc ?_
           obtain ⟨x19, h20, hF⟩ := Xr hF
           rcases Yi (decide (x19 < 0)) with c21 | c21
           ·have hF := Xh c21 hF
            refine Va (Vf rfl tf_36_2 ts_25 (by decide)) rfl ?_
            refine Va (Vj rfl (Vk rfl rfl) rfl ta_25 rfl) rfl ?_
            refine Va (Vi rfl) rfl ?_
            refine Va (Vy (Xg rfl rfl h20 te_25 ts_3) (v' := .vptr [.int .i64 x19] 0) rfl) rfl ?_
            refine Va (Xe rfl ta_3 rfl) rfl ?_
            refine Va (Xj rfl rfl) rfl ?_
            refine Va (Vl rfl) rfl ?_
            refine Vb rfl rfl (Xu c21) rfl ?_
            refine Vb rfl rfl (Xu c21) rfl ?_
            refine Vb rfl rfl (Xu c21) rfl ?_
            refine Vb rfl rfl (Xu c21) rfl ?_
            refine Vb rfl rfl (Xu c21) rfl ?_
            refine Vb rfl rfl (Xu c21) rfl ?_
            refine Va (Vn (congrArg Ye c21) rfl) rfl ?_
            refine Vd ?_
            obtain rfl := Yf hF
            refine Vv ?_
            exact Vg ⟨rfl, rfl, rfl, rfl, rfl, trivial⟩
           ·have hF := Xi c21 hF
            obtain ⟨x22, h23, hF⟩ := Xr hF
            refine Va (Vf rfl tf_36_2 ts_25 (by decide)) rfl ?_
            refine Va (Vj rfl (Vk rfl rfl) rfl ta_25 rfl) rfl ?_
            refine Va (Vi rfl) rfl ?_
            refine Va (Vy (Xg rfl rfl h20 te_25 ts_3) (v' := .vptr [.int .i64 x19] 0) rfl) rfl ?_
            refine Va (Xe rfl ta_3 rfl) rfl ?_
            refine Va (Xj rfl rfl) rfl ?_
            refine Va (Vl rfl) rfl ?_
            refine Vw rfl rfl c21 ?_
            refine Va (Vf rfl tf_36_2 ts_25 (by decide)) rfl ?_
            refine Vw rfl rfl c21 ?_
            refine Va (Vj rfl (Vk rfl rfl) rfl ta_25 rfl) rfl ?_
            refine Vw rfl rfl c21 ?_
            refine Va (Vi rfl) rfl ?_
            refine Vw rfl rfl c21 ?_
            refine Va (Vy (Xg rfl rfl h23 te_25 ts_3) (v' := .vptr [.int .i64 x22] 0) rfl) rfl ?_
            refine Vw rfl rfl c21 ?_
            refine Va (Xe rfl ta_3 rfl) rfl ?_
            refine Vw rfl rfl c21 ?_
            refine Va (rd_gtr rfl rfl) rfl ?_
            refine Va (Vp (congrArg Ye c21) rfl) rfl ?_
            refine Vd ?_
            obtain rfl := Yf hF
            refine Vv ?_
            exact Vg ⟨rfl, rfl, rfl, rfl, rfl, trivial⟩
          ·rintro _ _ _ _ ⟨rfl, hw⟩
           refine ⟨_, _, _, hw, ?_⟩
           refine Vt rfl (fun c24 => ?_) (fun c24 => ?_)
           ·have hF := Xh c24 hF
            refine Ve ?_
            refine Vc ?_
            refine Va (Vu rfl) rfl ?_
            refine Vd ?_
            refine Vz ?_
            obtain rfl := Yf hF
            refine Vv ?_
            exact Vx rfl [] (by decide) ⟨Vm rfl (.int _ _), trivial⟩ trivial
           ·have hF := Xi c24 hF
            refine Xa ?_
            refine Vc ?_
            refine Va (Vi rfl) rfl ?_
            refine Va (rd_add rfl rfl rfl) rfl ?_
            refine Va (Vu rfl) rfl ?_
            refine Vd ?_
            obtain rfl := Yf hF
            refine Vv ?_
            exact Vg ⟨rfl, rfl, rfl, rfl, trivial⟩
         ·have hF := Xi c17 hF
          refine vwp_exit ?_
          obtain rfl := Yf hF
          refine Vv ?_
          exact Vg ⟨rfl, rfl, rfl, trivial⟩
        ·rcases o14 with j15 | j16
         ·replace hF := elimL hF
          rintro _ _ _ _ ⟨rfl, hw⟩
          refine ⟨_, _, _, hw, ?_⟩
          obtain rfl := Yf hF
          refine Vv ?_
          exact Vg ⟨rfl, trivial⟩
         ·replace hF := elimR hF
          rintro _ _ _ _ ⟨rfl, hw⟩
          refine ⟨_, _, _, hw, ?_⟩
          refine Ve ?_
          refine Ve ?_
          refine Vc ?_
          refine Va (Vu rfl) rfl ?_
          refine Vd ?_
          refine Xf ?_
          obtain ⟨o26, ho26, hF⟩ := Xr hF
          refine Vo (vwp_loopC (F_ref08_Check_L3 x7) (fun s25 E' lw lc => Xl E' lw lc [(0, .vs 3 (Yc T_Door.enc p0)), (3, .int .i64 s2), (4, .ptr (low.length + 0) 0 0 0), (6, .int .i64 s25)] low [⟨36, 3, [.agg [.int .i64 x7.Road, .int .i64 x7.Other, .vs 1 (Yc (Yd .i64) x7.Rests)]], 0⟩]) (Sum.elim (fun j27 => OnlyE .ret (fun E' lw lc => Xl E' lw lc [(2, .int .i64 15)] low [])) (fun j28 => OnlyE (.exit 4) (fun E' lw lc => Xl E' lw lc [(0, .vs 3 (Yc T_Door.enc p0)), (3, .int .i64 s2), (4, .ptr (low.length + 0) 0 0 0)] low [⟨36, 3, [.agg [.int .i64 x7.Road, .int .i64 x7.Other, .vs 1 (Yc (Yd .i64) x7.Rests)]], 0⟩]))) ho26 ?_ (by rintro (_|_) _ _ _ ⟨h, _⟩ <;> cases h) ?_) ?_
          ·exact Vg ⟨rfl, rfl, rfl, rfl, trivial⟩
          ·rintro s25 os25 _ _ _ hF hw
           unfold F_ref08_Check_L3 at hF
           refine vwp_weak hw ?_
           refine Ve ?_
           refine Ve ?_
           refine Vc ?_
           refine Va (Vi rfl) rfl ?_
           refine Va (Vf rfl tf_36_2 ts_25 (by decide)) rfl ?_
           refine Va (Vj rfl (Vk rfl rfl) rfl ta_25 rfl) rfl ?_
           refine Va (Vy (Xd rfl rfl te_25) (congrArg (fun n : Nat => Yd .i64 (n : Int)) (Yj _))) rfl ?_
           refine Va (Xj rfl rfl) rfl ?_
           refine Vd ?_
           refine Vt rfl (fun c29 => ?_) (fun c29 => ?_)
           ·have hF := Xh c29 hF
            refine Xa ?_
            refine Ve ?_
            refine Xf ?_
            refine Ve ?_
            obtain ⟨x30, h31, hF⟩ := Xr hF
            obtain ⟨x32, h33, hF⟩ := Xr hF
            refine vwp_drawn0 [[], [0], [], [0, 1, 2], [0, 1, 2, 3], [], [5], [], [7], [5, 6, 7, 8], [5, 6, 7, 8, 9], [0, 1, 2, 3, 4, 5, 6, 7, 8, 9, 10]] mixed (by kernel_rfl) rfl ?_
            refine Xm rfl rfl (Vf rfl tf_36_2 ts_25 (by decide)) ?_
            refine Xm rfl rfl (Vj rfl (Vk rfl rfl) rfl ta_25 rfl) ?_
            refine Xm rfl rfl (Vi rfl) ?_
            refine Xm rfl rfl (Vy (Xg rfl rfl h31 te_25 ts_3) (v' := .vptr [.int .i64 x30] 0) rfl) ?_
            refine Xm rfl rfl (Xe rfl ta_3 rfl) ?_
            refine Xm rfl rfl (Vf rfl tf_36_2 ts_25 (by decide)) ?_
            refine Xm rfl rfl (Vj rfl (Vk rfl rfl) rfl ta_25 rfl) ?_
            refine Xm rfl rfl (Vi rfl) ?_
            refine Xm rfl rfl (rd_sub rfl rfl rfl) ?_
            refine Xm rfl rfl (Vy (Xg rfl rfl h33 te_25 ts_3) (v' := .vptr [.int .i64 x32] 0) rfl) ?_
            refine Xm rfl rfl (Xe rfl ta_3 rfl) ?_
            refine Xm rfl rfl (rd_geq rfl rfl) ?_
            refine dops_nil ?_
            refine Vt rfl (fun c34 => ?_) (fun c34 => ?_)
            ·have hF := Xh c34 hF
             refine Ve ?_
             refine Vc ?_
             refine Va (Vu rfl) rfl ?_
             refine Vd ?_
             refine Vz ?_
             obtain rfl := Yf hF
             refine Vv ?_
             exact Vx rfl [] (by decide) ⟨Vm rfl (.int _ _), trivial⟩ trivial
            ·have hF := Xi c34 hF
             refine Xa ?_
             refine Vc ?_
             refine Va (Vi rfl) rfl ?_
             refine Va (rd_add rfl rfl rfl) rfl ?_
             refine Va (Vu rfl) rfl ?_
             refine Vd ?_
             obtain rfl := Yf hF
             refine Vv ?_
             exact Vg ⟨rfl, rfl, rfl, rfl, trivial⟩
           ·have hF := Xi c29 hF
            refine vwp_exit ?_
            obtain rfl := Yf hF
            refine Vv ?_
            exact Vg ⟨rfl, rfl, rfl, trivial⟩
          ·rcases o26 with j27 | j28
           ·replace hF := elimL hF
            rintro _ _ _ _ ⟨rfl, hw⟩
            refine ⟨_, _, _, hw, ?_⟩
            obtain rfl := Yf hF
            refine Vv ?_
            exact Vg ⟨rfl, trivial⟩
           ·replace hF := elimR hF
            rintro _ _ _ _ ⟨rfl, hw⟩
            refine ⟨_, _, _, hw, ?_⟩
            refine Ve ?_
            obtain ⟨o35, ho35, hF⟩ := Xr hF
            refine Vo (Q' := (fun o35 => OnlyE .normal (fun E' lw lc => Xl E' lw lc [(0, .vs 3 (Yc T_Door.enc p0)), (3, .int .i64 s2), (103, .bool o35)] low [])) o35) ?_ ?_
            ·replace hF := ho35
             refine Vc ?_
             rcases Yi (decide (x7.Other ≠ (-1))) with c36 | c36
             ·have hF := Xh c36 hF
              rcases Yi (decide (x7.Other < 0)) with c37 | c37
              ·have hF := Xh c37 hF
               refine Va (Vf rfl tf_36_1 ts_3 (by decide)) rfl ?_
               refine Va (Vj rfl (Vk rfl rfl) rfl ta_3 rfl) rfl ?_
               refine Va (Xk rfl rfl) rfl ?_
               refine Va (Vl rfl) rfl ?_
               refine Vw rfl rfl c36 ?_
               refine Va (Vf rfl tf_36_1 ts_3 (by decide)) rfl ?_
               refine Vw rfl rfl c36 ?_
               refine Va (Vj rfl (Vk rfl rfl) rfl ta_3 rfl) rfl ?_
               refine Vw rfl rfl c36 ?_
               refine Va (Xj rfl rfl) rfl ?_
               refine Vw rfl rfl c36 ?_
               refine Va (Vl rfl) rfl ?_
               refine Vb rfl rfl (Xu c37) rfl ?_
               refine Vb rfl rfl (Xu c37) rfl ?_
               refine Vb rfl rfl (Xu c37) rfl ?_
               refine Vb rfl rfl (Xu c37) rfl ?_
               refine Vb rfl rfl (Xu c37) rfl ?_
               refine Vw rfl rfl c36 ?_
               refine Va (Vn (congrArg Ye c37) rfl) rfl ?_
               refine Vw rfl rfl c36 ?_
               refine Va (Vl rfl) rfl ?_
               refine Vb rfl rfl (by decide) rfl ?_
               refine Vb rfl rfl (by decide) rfl ?_
               refine Vb rfl rfl (by decide) rfl ?_
               refine Vb rfl rfl (by decide) rfl ?_
               refine Vw rfl rfl c36 ?_
               refine Va (Vn rfl rfl) rfl ?_
               refine Vw rfl rfl c36 ?_
               refine Va (Vl rfl) rfl ?_
               refine Vb rfl rfl (by decide) rfl ?_
               refine Vb rfl rfl (by decide) rfl ?_
               refine Vb rfl rfl (by decide) rfl ?_
               refine Vb rfl rfl (by decide) rfl ?_
               refine Vb rfl rfl (by decide) rfl ?_
               refine Vb rfl rfl (by decide) rfl ?_
               refine Vb rfl rfl (by decide) rfl ?_
               refine Vb rfl rfl (by decide) rfl ?_
               refine Vw rfl rfl c36 ?_
               refine Va (Vn rfl rfl) rfl ?_
               refine Va (Vn (congrArg Ye c36) rfl) rfl ?_
               refine Vd ?_
               obtain rfl := Yf hF
               refine Vv ?_
               exact Vx rfl [] (by decide) ⟨Vm rfl (.vs _ _), Vm rfl (.int _ _), Vm rfl (.bool _), trivial⟩ trivial
              ·have hF := Xi c37 hF
               rcases Yi (decide (((p0).length : Int) ≤ x7.Other)) with c38 | c38
               ·have hF := Xh c38 hF
                refine Va (Vf rfl tf_36_1 ts_3 (by decide)) rfl ?_
                refine Va (Vj rfl (Vk rfl rfl) rfl ta_3 rfl) rfl ?_
                refine Va (Xk rfl rfl) rfl ?_
                refine Va (Vl rfl) rfl ?_
                refine Vw rfl rfl c36 ?_
                refine Va (Vf rfl tf_36_1 ts_3 (by decide)) rfl ?_
                refine Vw rfl rfl c36 ?_
                refine Va (Vj rfl (Vk rfl rfl) rfl ta_3 rfl) rfl ?_
                refine Vw rfl rfl c36 ?_
                refine Va (Xj rfl rfl) rfl ?_
                refine Vw rfl rfl c36 ?_
                refine Va (Vl rfl) rfl ?_
                refine Vw rfl rfl c37 ?_
                refine Va (Vf rfl tf_36_1 ts_3 (by decide)) rfl ?_
                refine Vw rfl rfl c37 ?_
                refine Va (Vj rfl (Vk rfl rfl) rfl ta_3 rfl) rfl ?_
                refine Vw rfl rfl c37 ?_
                refine Va (Vq rfl) rfl ?_
                refine Vw rfl rfl c37 ?_
                refine Va (Vy (Xd rfl rfl te_23) (congrArg (fun n : Nat => Yd .i64 (n : Int)) (Yj _))) rfl ?_
                refine Vw rfl rfl c37 ?_
                refine Va (rd_geq rfl rfl) rfl ?_
                refine Vw rfl rfl c36 ?_
                refine Va (Vp (congrArg Ye c37) rfl) rfl ?_
                refine Vw rfl rfl c36 ?_
                refine Va (Vl rfl) rfl ?_
                refine Vb rfl rfl (Xu c38) rfl ?_
                refine Vb rfl rfl (Xu c38) rfl ?_
                refine Vb rfl rfl (Xu c38) rfl ?_
                refine Vb rfl rfl (Xu c38) rfl ?_
                refine Vw rfl rfl c36 ?_
                refine Va (Vn (congrArg Ye c38) rfl) rfl ?_
                refine Vw rfl rfl c36 ?_
                refine Va (Vl rfl) rfl ?_
                refine Vb rfl rfl (by decide) rfl ?_
                refine Vb rfl rfl (by decide) rfl ?_
                refine Vb rfl rfl (by decide) rfl ?_
                refine Vb rfl rfl (by decide) rfl ?_
                refine Vb rfl rfl (by decide) rfl ?_
                refine Vb rfl rfl (by decide) rfl ?_
                refine Vb rfl rfl (by decide) rfl ?_
                refine Vb rfl rfl (by decide) rfl ?_
                refine Vw rfl rfl c36 ?_
                refine Va (Vn rfl rfl) rfl ?_
                refine Va (Vn (congrArg Ye c36) rfl) rfl ?_
                refine Vd ?_
                obtain rfl := Yf hF
                refine Vv ?_
                exact Vx rfl [] (by decide) ⟨Vm rfl (.vs _ _), Vm rfl (.int _ _), Vm rfl (.bool _), trivial⟩ trivial
               ·have hF := Xi c38 hF
                rcases Yi (decide (x7.Other = s2)) with c39 | c39
                ·have hF := Xh c39 hF
                 refine Va (Vf rfl tf_36_1 ts_3 (by decide)) rfl ?_
                 refine Va (Vj rfl (Vk rfl rfl) rfl ta_3 rfl) rfl ?_
                 refine Va (Xk rfl rfl) rfl ?_
                 refine Va (Vl rfl) rfl ?_
                 refine Vw rfl rfl c36 ?_
                 refine Va (Vf rfl tf_36_1 ts_3 (by decide)) rfl ?_
                 refine Vw rfl rfl c36 ?_
                 refine Va (Vj rfl (Vk rfl rfl) rfl ta_3 rfl) rfl ?_
                 refine Vw rfl rfl c36 ?_
                 refine Va (Xj rfl rfl) rfl ?_
                 refine Vw rfl rfl c36 ?_
                 refine Va (Vl rfl) rfl ?_
                 refine Vw rfl rfl c37 ?_
                 refine Va (Vf rfl tf_36_1 ts_3 (by decide)) rfl ?_
                 refine Vw rfl rfl c37 ?_
                 refine Va (Vj rfl (Vk rfl rfl) rfl ta_3 rfl) rfl ?_
                 refine Vw rfl rfl c37 ?_
                 refine Va (Vq rfl) rfl ?_
                 refine Vw rfl rfl c37 ?_
                 refine Va (Vy (Xd rfl rfl te_23) (congrArg (fun n : Nat => Yd .i64 (n : Int)) (Yj _))) rfl ?_
                 refine Vw rfl rfl c37 ?_
                 refine Va (rd_geq rfl rfl) rfl ?_
                 refine Vw rfl rfl c36 ?_
                 refine Va (Vp (congrArg Ye c37) rfl) rfl ?_
                 refine Vw rfl rfl c36 ?_
                 refine Va (Vl rfl) rfl ?_
                 refine Vw rfl rfl c38 ?_
                 refine Va (Vf rfl tf_36_1 ts_3 (by decide)) rfl ?_
                 refine Vw rfl rfl c38 ?_
                 refine Va (Vj rfl (Vk rfl rfl) rfl ta_3 rfl) rfl ?_
                 refine Vw rfl rfl c38 ?_
                 refine Va (Vi rfl) rfl ?_
                 refine Vw rfl rfl c38 ?_
                 refine Va (Xw rfl rfl) rfl ?_
                 refine Vw rfl rfl c36 ?_
                 refine Va (Vp (congrArg Ye c38) rfl) rfl ?_
                 refine Vw rfl rfl c36 ?_
                 refine Va (Vl rfl) rfl ?_
                 refine Vb rfl rfl (Xu c39) rfl ?_
                 refine Vb rfl rfl (Xu c39) rfl ?_
                 refine Vb rfl rfl (Xu c39) rfl ?_
                 refine Vb rfl rfl (Xu c39) rfl ?_
                 refine Vb rfl rfl (Xu c39) rfl ?_
                 refine Vb rfl rfl (Xu c39) rfl ?_
                 refine Vb rfl rfl (Xu c39) rfl ?_
                 refine Vb rfl rfl (Xu c39) rfl ?_
                 refine Vw rfl rfl c36 ?_
                 refine Va (Vn (congrArg Ye c39) rfl) rfl ?_
                 refine Va (Vn (congrArg Ye c36) rfl) rfl ?_
                 refine Vd ?_
                 obtain rfl := Yf hF
                 refine Vv ?_
                 exact Vx rfl [] (by decide) ⟨Vm rfl (.vs _ _), Vm rfl (.int _ _), Vm rfl (.bool _), trivial⟩ trivial
                ·have hF := Xi c39 hF
                 obtain ⟨x40, h41, hF⟩ := Xr hF
                 refine Va (Vf rfl tf_36_1 ts_3 (by decide)) rfl ?_
                 refine Va (Vj rfl (Vk rfl rfl) rfl ta_3 rfl) rfl ?_
                 refine Va (Xk rfl rfl) rfl ?_
                 refine Va (Vl rfl) rfl ?_
                 refine Vw rfl rfl c36 ?_
                 refine Va (Vf rfl tf_36_1 ts_3 (by decide)) rfl ?_
                 refine Vw rfl rfl c36 ?_
                 refine Va (Vj rfl (Vk rfl rfl) rfl ta_3 rfl) rfl ?_
                 refine Vw rfl rfl c36 ?_
                 refine Va (Xj rfl rfl) rfl ?_
                 refine Vw rfl rfl c36 ?_
                 refine Va (Vl rfl) rfl ?_
                 refine Vw rfl rfl c37 ?_
                 refine Va (Vf rfl tf_36_1 ts_3 (by decide)) rfl ?_
                 refine Vw rfl rfl c37 ?_
                 refine Va (Vj rfl (Vk rfl rfl) rfl ta_3 rfl) rfl ?_
                 refine Vw rfl rfl c37 ?_
                 refine Va (Vq rfl) rfl ?_
                 refine Vw rfl rfl c37 ?_
                 refine Va (Vy (Xd rfl rfl te_23) (congrArg (fun n : Nat => Yd .i64 (n : Int)) (Yj _))) rfl ?_
                 refine Vw rfl rfl c37 ?_
                 refine Va (rd_geq rfl rfl) rfl ?_
                 refine Vw rfl rfl c36 ?_
                 refine Va (Vp (congrArg Ye c37) rfl) rfl ?_
                 refine Vw rfl rfl c36 ?_
                 refine Va (Vl rfl) rfl ?_
                 refine Vw rfl rfl c38 ?_
                 refine Va (Vf rfl tf_36_1 ts_3 (by decide)) rfl ?_
                 refine Vw rfl rfl c38 ?_
                 refine Va (Vj rfl (Vk rfl rfl) rfl ta_3 rfl) rfl ?_
                 refine Vw rfl rfl c38 ?_
                 refine Va (Vi rfl) rfl ?_
                 refine Vw rfl rfl c38 ?_
                 refine Va (Xw rfl rfl) rfl ?_
                 refine Vw rfl rfl c36 ?_
                 refine Va (Vp (congrArg Ye c38) rfl) rfl ?_
                 refine Vw rfl rfl c36 ?_
                 refine Va (Vl rfl) rfl ?_
                 refine Vw rfl rfl c39 ?_
                 refine Va (Vq rfl) rfl ?_
                 refine Vw rfl rfl c39 ?_
                 refine Va (Vf rfl tf_36_1 ts_3 (by decide)) rfl ?_
                 refine Vw rfl rfl c39 ?_
                 refine Va (Vj rfl (Vk rfl rfl) rfl ta_3 rfl) rfl ?_
                 refine Vw rfl rfl c39 ?_
                 refine Va (Vy (Xg rfl rfl h41 te_23 ts_36) (v' := .vptr [.int .i64 x40.Road, .int .i64 x40.Other, .vs 1 (Yc (Yd .i64) x40.Rests)] 0) rfl) rfl ?_
                 refine Vw rfl rfl c39 ?_
                 refine Va (rd_fieldVaddr rfl tf_36_1 ts_3 (by decide)) rfl ?_
                 refine Vw rfl rfl c39 ?_
                 refine Va (Xe rfl ta_3 rfl) rfl ?_
                 refine Vw rfl rfl c39 ?_
                 refine Va (Vi rfl) rfl ?_
                 refine Vw rfl rfl c39 ?_
                 refine Va (Xk rfl rfl) rfl ?_
                 refine Vw rfl rfl c36 ?_
                 refine Va (Vp (congrArg Ye c39) rfl) rfl ?_
                 refine Va (Vn (congrArg Ye c36) rfl) rfl ?_
                 refine Vd ?_
                 obtain rfl := Yf hF
                 refine Vv ?_
                 exact Vx rfl [] (by decide) ⟨Vm rfl (.vs _ _), Vm rfl (.int _ _), Vm rfl (.bool _), trivial⟩ trivial
             ·have hF := Xi c36 hF
              refine Va (Vf rfl tf_36_1 ts_3 (by decide)) rfl ?_
              refine Va (Vj rfl (Vk rfl rfl) rfl ta_3 rfl) rfl ?_
              refine Va (Xk rfl rfl) rfl ?_
              refine Va (Vl rfl) rfl ?_
              refine Vb rfl rfl (neF c36) rfl ?_
              refine Vb rfl rfl (neF c36) rfl ?_
              refine Vb rfl rfl (neF c36) rfl ?_
              refine Vb rfl rfl (neF c36) rfl ?_
              refine Vs rfl rfl rfl ?_
              refine Vs rfl rfl rfl ?_
              refine Vs rfl rfl rfl ?_
              refine Vs rfl rfl rfl ?_
              refine Vs rfl rfl rfl ?_
              refine Vb rfl rfl (neF c36) rfl ?_
              refine Vb rfl rfl (neF c36) rfl ?_
              refine Vs rfl rfl rfl ?_
              refine Vs rfl rfl rfl ?_
              refine Vs rfl rfl rfl ?_
              refine Vs rfl rfl rfl ?_
              refine Vb rfl rfl (neF c36) rfl ?_
              refine Vb rfl rfl (neF c36) rfl ?_
              refine Vs rfl rfl rfl ?_
              refine Vs rfl rfl rfl ?_
              refine Vs rfl rfl rfl ?_
              refine Vs rfl rfl rfl ?_
              refine Vs rfl rfl rfl ?_
              refine Vs rfl rfl rfl ?_
              refine Vs rfl rfl rfl ?_
              refine Vs rfl rfl rfl ?_
              refine Vb rfl rfl (neF c36) rfl ?_
              refine Va (Vp (congrArg Ye c36) rfl) rfl ?_
              refine Vd ?_
              obtain rfl := Yf hF
              refine Vv ?_
              exact Vx rfl [] (by decide) ⟨Vm rfl (.vs _ _), Vm rfl (.int _ _), Vm rfl (.bool _), trivial⟩ trivial
            ·rintro _ _ _ _ ⟨rfl, hw⟩
             refine ⟨_, _, _, hw, ?_⟩
             refine Vt rfl (fun c42 => ?_) (fun c42 => ?_)
             ·have hF := Xh c42 hF
              refine Ve ?_
              refine Vc ?_
              refine Va (Vu rfl) rfl ?_
              refine Vd ?_
              refine Vz ?_
              obtain rfl := Yf hF
              refine Vv ?_
              exact Vg ⟨rfl, trivial⟩
             ·have hF := Xi c42 hF
              refine Xa ?_
              refine Vc ?_
              refine Va (Vi rfl) rfl ?_
              refine Va (rd_add rfl rfl rfl) rfl ?_
              refine Va (Vu rfl) rfl ?_
              refine Vd ?_
              obtain rfl := Yf hF
              refine Vv ?_
              exact Vg ⟨rfl, rfl, trivial⟩
    ·have hF := Xi c6 hF
     refine vwp_exit ?_
     obtain rfl := Yf hF
     refine Vv ?_
     exact Vg trivial
   ·rcases o3 with j4 | j5
    ·replace hF := elimL hF
     rintro _ _ _ _ ⟨rfl, hw⟩
     refine ⟨_, _, _, hw, ?_⟩
     obtain rfl := Yf hF
     refine fnR ?_
     exact Vg ⟨rfl, trivial⟩
    ·replace hF := elimR hF
     rintro _ _ _ _ ⟨rfl, hw⟩
     refine ⟨_, _, _, hw, ?_⟩
     refine Ve ?_
     refine Vc ?_
     refine Va (Vu rfl) rfl ?_
     refine Vd ?_
     refine Vz ?_
     obtain rfl := Yf hF
     refine fnR ?_
     exact Vg ⟨rfl, trivial⟩
 ·rintro _ _ _ _ ⟨he, hw⟩
  refine ⟨_, _, _, hw, ?_⟩
  exact Xo he [.int .i64 r] ⟨rfl, trivial⟩ (.int _ _) ⟨rfl, rfl⟩

theorem F_law08_DoorShuts_ok {p0 : List Int} {p1 : Int} {r : Bool} (hF : F_law08_DoorShuts p0 p1 = some r) (low : List AObj) :
    Xz Try.prog 6 [.vs 1 (Yc (Yd .u8) p0), .int .i64 p1] low fun x low' => x = .bool r ∧ low' = low := by
 refine Xc (nt := 115) (rs := [.tmp 4]) Try.func6 rfl rfl (Yg rfl) rfl ?_
 refine Vo (Q' := FnE (fun E' lw lc => Xl E' lw lc [(4, .bool r)] low [])) ?_ ?_
 ·unfold F_law08_DoorShuts at hF
  refine Ve ?_
  refine Vc ?_
  refine Va (Xp rfl) rfl ?_
  refine Vd ?_
  refine Ve ?_
  refine Vc ?_
  obtain ⟨x1, h2, hF⟩ := Xr hF
  refine Va (Vq rfl) rfl ?_
  refine Vh (Xb rfl Try.call9 (F_law08_doors_ok h2 _)) rfl ?_
  refine Va (rd_mvT rfl) rfl ?_
  refine Va (rd_extract rfl rfl) rfl ?_
  refine Va (rd_extract rfl rfl) rfl ?_
  refine Va (rd_asV rfl) rfl ?_
  refine Va (rd_asV rfl) rfl ?_
  refine Vd ?_
  refine Ve ?_
  refine Ve ?_
  obtain ⟨o3, ho3, hF⟩ := Xr hF
  refine Vo (Q' := (fun o3 => OnlyE .normal (fun E' lw lc => Xl E' lw lc [(1, .int .i64 p1), (5, .vs 3 (Yc T_Door.enc x1.1)), (6, .vs 1 (Yc (Yd .i64) x1.2)), (32, .bool o3)] low [])) o3) ?_ ?_
  ·replace hF := ho3
   refine Vc ?_
   obtain ⟨x4, h5, hF⟩ := Xr hF
   rcases Yi (decide (x4 ≠ 0)) with c6 | c6
   ·have hF := Xh c6 hF
    refine Va (Vq rfl) rfl ?_
    refine Vh (Xb rfl Try.call11 (F_ref08_Check_ok h5 _)) rfl ?_
    refine Va (Xk rfl rfl) rfl ?_
    refine Va (Vl rfl) rfl ?_
    refine Vb rfl rfl (Xu c6) rfl ?_
    refine Vb rfl rfl (Xu c6) rfl ?_
    refine Vb rfl rfl (Xu c6) rfl ?_
    refine Va (Vn (congrArg Ye c6) rfl) rfl ?_
    refine Va (Vl rfl) rfl ?_
    refine Vb rfl rfl (by decide) rfl ?_
    refine Vb rfl rfl (by decide) rfl ?_
    refine Vb rfl rfl (by decide) rfl ?_
    refine Vb rfl rfl (by decide) rfl ?_
    refine Vb rfl rfl (by decide) rfl ?_
    refine Va (Vn rfl rfl) rfl ?_
    refine Vd ?_
    obtain rfl := Yf hF
    refine Vv ?_
    exact Vg ⟨rfl, rfl, rfl, rfl, trivial⟩
   ·have hF := Xi c6 hF
    rcases Yi (decide (((x1.1).length : Int) = 0)) with c7 | c7
    ·have hF := Xh c7 hF
     refine Va (Vq rfl) rfl ?_
     refine Vh (Xb rfl Try.call11 (F_ref08_Check_ok h5 _)) rfl ?_
     refine Va (Xk rfl rfl) rfl ?_
     refine Va (Vl rfl) rfl ?_
     refine Vw rfl rfl c6 ?_
     refine Va (Vq rfl) rfl ?_
     refine Vw rfl rfl c6 ?_
     refine Va (Vy (Xd rfl rfl te_23) (congrArg (fun n : Nat => Yd .i64 (n : Int)) (Yj _))) rfl ?_
     refine Vw rfl rfl c6 ?_
     refine Va (Xw rfl rfl) rfl ?_
     refine Va (Vp (congrArg Ye c6) rfl) rfl ?_
     refine Va (Vl rfl) rfl ?_
     refine Vb rfl rfl (Xu c7) rfl ?_
     refine Vb rfl rfl (Xu c7) rfl ?_
     refine Vb rfl rfl (Xu c7) rfl ?_
     refine Vb rfl rfl (Xu c7) rfl ?_
     refine Vb rfl rfl (Xu c7) rfl ?_
     refine Va (Vn (congrArg Ye c7) rfl) rfl ?_
     refine Vd ?_
     obtain rfl := Yf hF
     refine Vv ?_
     exact Vg ⟨rfl, rfl, rfl, rfl, trivial⟩
    ·have hF := Xi c7 hF
     refine Va (Vq rfl) rfl ?_
     refine Vh (Xb rfl Try.call11 (F_ref08_Check_ok h5 _)) rfl ?_
     refine Va (Xk rfl rfl) rfl ?_
     refine Va (Vl rfl) rfl ?_
     refine Vw rfl rfl c6 ?_
     refine Va (Vq rfl) rfl ?_
     refine Vw rfl rfl c6 ?_
     refine Va (Vy (Xd rfl rfl te_23) (congrArg (fun n : Nat => Yd .i64 (n : Int)) (Yj _))) rfl ?_
     refine Vw rfl rfl c6 ?_
     refine Va (Xw rfl rfl) rfl ?_
     refine Va (Vp (congrArg Ye c6) rfl) rfl ?_
     refine Va (Vl rfl) rfl ?_
     refine Vw rfl rfl c7 ?_
     refine Va (Vq rfl) rfl ?_
     refine Vw rfl rfl c7 ?_
     refine Va (Vy (Xd rfl rfl te_25) (congrArg (fun n : Nat => Yd .i64 (n : Int)) (Yj _))) rfl ?_
     refine Vw rfl rfl c7 ?_
     refine Va (Vq rfl) rfl ?_
     refine Vw rfl rfl c7 ?_
     refine Va (Vy (Xd rfl rfl te_23) (congrArg (fun n : Nat => Yd .i64 (n : Int)) (Yj _))) rfl ?_
     refine Vw rfl rfl c7 ?_
     refine Va (Xk rfl rfl) rfl ?_
     refine Va (Vp (congrArg Ye c7) rfl) rfl ?_
     refine Vd ?_
     obtain rfl := Yf hF
     refine Vv ?_
     exact Vg ⟨rfl, rfl, rfl, rfl, trivial⟩
  ·rintro _ _ _ _ ⟨rfl, hw⟩
   refine ⟨_, _, _, hw, ?_⟩
   refine Vt rfl (fun c8 => ?_) (fun c8 => ?_)
   ·have hF := Xh c8 hF
    refine Ve ?_
    refine Vc ?_
    obtain ⟨x9, h10, hF⟩ := Xr hF
    refine Vh (Xb rfl Try.call8 (F_law08_awake_ok h10 _)) rfl ?_
    refine Va (Xp rfl) rfl ?_
    refine Vd ?_
    refine Vz ?_
    obtain rfl := Yf hF
    refine fnR ?_
    exact Vg ⟨rfl, trivial⟩
   ·have hF := Xi c8 hF
    refine Xa ?_
    refine Ve ?_
    refine Vc ?_
    obtain ⟨x11, h12, hF⟩ := Xr hF
    refine Va (Vi rfl) rfl ?_
    refine Va (Vq rfl) rfl ?_
    refine Va (Vy (Xd rfl rfl te_23) (congrArg (fun n : Nat => Yd .i64 (n : Int)) (Yj _))) rfl ?_
    refine Vh (Xb rfl Try.call12 (F_draw_Mod_ok h12 _)) rfl ?_
    refine Va (Vu rfl) rfl ?_
    refine Vd ?_
    refine Ve ?_
    refine Vc ?_
    obtain ⟨x13, h14, hF⟩ := Xr hF
    refine Va (Vq rfl) rfl ?_
    refine Va (Vq rfl) rfl ?_
    refine Va (Vi rfl) rfl ?_
    refine Vh (Xb rfl Try.call18 (F_door_Command_ok h14 _)) rfl ?_
    refine Va (rd_mvT rfl) rfl ?_
    refine Va (rd_extract rfl rfl) rfl ?_
    refine Va (rd_extract rfl rfl) rfl ?_
    refine Va (rd_asV rfl) rfl ?_
    refine Va (Vu rfl) rfl ?_
    refine Vd ?_
    refine Ve ?_
    refine Ve ?_
    obtain ⟨o15, ho15, hF⟩ := Xr hF
    refine Vo (Q' := (fun o15 => OnlyE .normal (fun E' lw lc => Xl E' lw lc [(5, .vs 3 (Yc T_Door.enc x1.1)), (7, .int .i64 x11), (60, .bool o15)] low [])) o15) ?_ ?_
    ·replace hF := ho15
     refine Vc ?_
     rcases Yi (decide (x13.2 ≠ 0)) with c16 | c16
     ·have hF := Xh c16 hF
      refine Va (Vi rfl) rfl ?_
      refine Va (Xk rfl rfl) rfl ?_
      refine Va (Vl rfl) rfl ?_
      refine Vb rfl rfl (Xu c16) rfl ?_
      refine Vb rfl rfl (Xu c16) rfl ?_
      refine Vb rfl rfl (Xu c16) rfl ?_
      refine Vb rfl rfl (Xu c16) rfl ?_
      refine Vb rfl rfl (Xu c16) rfl ?_
      refine Va (Vn (congrArg Ye c16) rfl) rfl ?_
      refine Va (Vl rfl) rfl ?_
      refine Vb rfl rfl (by decide) rfl ?_
      refine Vb rfl rfl (by decide) rfl ?_
      refine Vb rfl rfl (by decide) rfl ?_
      refine Vb rfl rfl (by decide) rfl ?_
      refine Vb rfl rfl (by decide) rfl ?_
      refine Va (Vn rfl rfl) rfl ?_
      refine Vd ?_
      obtain rfl := Yf hF
      refine Vv ?_
      exact Vg ⟨rfl, rfl, rfl, trivial⟩
     ·have hF := Xi c16 hF
      rcases Yi (decide (((x13.1).length : Int) ≠ ((x1.1).length : Int))) with c17 | c17
      ·have hF := Xh c17 hF
       refine Va (Vi rfl) rfl ?_
       refine Va (Xk rfl rfl) rfl ?_
       refine Va (Vl rfl) rfl ?_
       refine Vw rfl rfl c16 ?_
       refine Va (Vq rfl) rfl ?_
       refine Vw rfl rfl c16 ?_
       refine Va (Vy (Xd rfl rfl te_25) (congrArg (fun n : Nat => Yd .i64 (n : Int)) (Yj _))) rfl ?_
       refine Vw rfl rfl c16 ?_
       refine Va (Vq rfl) rfl ?_
       refine Vw rfl rfl c16 ?_
       refine Va (Vy (Xd rfl rfl te_23) (congrArg (fun n : Nat => Yd .i64 (n : Int)) (Yj _))) rfl ?_
       refine Vw rfl rfl c16 ?_
       refine Va (Xk rfl rfl) rfl ?_
       refine Va (Vp (congrArg Ye c16) rfl) rfl ?_
       refine Va (Vl rfl) rfl ?_
       refine Vb rfl rfl (Xu c17) rfl ?_
       refine Vb rfl rfl (Xu c17) rfl ?_
       refine Vb rfl rfl (Xu c17) rfl ?_
       refine Vb rfl rfl (Xu c17) rfl ?_
       refine Vb rfl rfl (Xu c17) rfl ?_
       refine Va (Vn (congrArg Ye c17) rfl) rfl ?_
       refine Vd ?_
       obtain rfl := Yf hF
       refine Vv ?_
       exact Vg ⟨rfl, rfl, rfl, trivial⟩
      ·have hF := Xi c17 hF
       obtain ⟨x18, h19, hF⟩ := Xr hF
       refine Va (Vi rfl) rfl ?_
       refine Va (Xk rfl rfl) rfl ?_
       refine Va (Vl rfl) rfl ?_
       refine Vw rfl rfl c16 ?_
       refine Va (Vq rfl) rfl ?_
       refine Vw rfl rfl c16 ?_
       refine Va (Vy (Xd rfl rfl te_25) (congrArg (fun n : Nat => Yd .i64 (n : Int)) (Yj _))) rfl ?_
       refine Vw rfl rfl c16 ?_
       refine Va (Vq rfl) rfl ?_
       refine Vw rfl rfl c16 ?_
       refine Va (Vy (Xd rfl rfl te_23) (congrArg (fun n : Nat => Yd .i64 (n : Int)) (Yj _))) rfl ?_
       refine Vw rfl rfl c16 ?_
       refine Va (Xk rfl rfl) rfl ?_
       refine Va (Vp (congrArg Ye c16) rfl) rfl ?_
       refine Va (Vl rfl) rfl ?_
       refine Vw rfl rfl c17 ?_
       refine Va (Vq rfl) rfl ?_
       refine Vw rfl rfl c17 ?_
       refine Va (Vi rfl) rfl ?_
       refine Vw rfl rfl c17 ?_
       refine Va (Vy (Xg rfl rfl h19 te_25 ts_3) (v' := .vptr [.int .i64 x18] 0) rfl) rfl ?_
       refine Vw rfl rfl c17 ?_
       refine Va (Xe rfl ta_3 rfl) rfl ?_
       refine Vw rfl rfl c17 ?_
       refine Va (Xk rfl rfl) rfl ?_
       refine Va (Vp (congrArg Ye c17) rfl) rfl ?_
       refine Vd ?_
       obtain rfl := Yf hF
       refine Vv ?_
       exact Vg ⟨rfl, rfl, rfl, trivial⟩
    ·rintro _ _ _ _ ⟨rfl, hw⟩
     refine ⟨_, _, _, hw, ?_⟩
     refine Vt rfl (fun c20 => ?_) (fun c20 => ?_)
     ·have hF := Xh c20 hF
      refine Ve ?_
      refine Vc ?_
      refine Va (Xp rfl) rfl ?_
      refine Vd ?_
      refine Vz ?_
      obtain rfl := Yf hF
      refine fnR ?_
      exact Vg ⟨rfl, trivial⟩
     ·have hF := Xi c20 hF
      refine Xa ?_
      refine Ve ?_
      refine Vc ?_
      obtain ⟨x21, h22, hF⟩ := Xr hF
      obtain ⟨x23, h24, hF⟩ := Xr hF
      refine Va (Vq rfl) rfl ?_
      refine Va (Vi rfl) rfl ?_
      refine Va (Vy (Xg rfl rfl h22 te_23 ts_36) (v' := .vptr [.int .i64 x21.Road, .int .i64 x21.Other, .vs 1 (Yc (Yd .i64) x21.Rests)] 0) rfl) rfl ?_
      refine Va (rd_loadVN (ds := [.int .i64 x21.Road, .int .i64 x21.Other, .vs 1 (Yc (Yd .i64) x21.Rests)]) rfl ta_36 ts_36 rfl rfl) rfl ?_
      refine Vh (Xb rfl Try.call13 (F_door_Rest_ok h24 _)) rfl ?_
      refine Vh (vef_allocN rfl rfl tz_33 rfl rfl (Yh _) rfl) rfl ?_
      refine Vh (Xn (p := .agg [.int .i64 x23.Low, .int .i64 x23.High]) (e' := .agg [.int .i64 x23.Low, .int .i64 x23.High]) rfl (Vk rfl rfl) rfl rfl ts_33 rfl (nt_ne rfl) rfl (Yg rfl) rfl (Xx rfl rfl)) rfl ?_
      refine Vd ?_
      refine Ve ?_
      refine Ve ?_
      refine Vc ?_
      refine Va (Vu rfl) rfl ?_
      refine Vd ?_
      refine Xf ?_
      obtain ⟨o26, ho26, hF⟩ := Xr hF
      refine Vo (vwp_loopC (F_law08_DoorShuts_L1 x1 x11 x23) (fun s25 E' lw lc => Xl E' lw lc [(5, .vs 3 (Yc T_Door.enc x1.1)), (7, .int .i64 x11), (10, .ptr (low.length + 0) 0 0 0), (11, .int .i64 s25)] low [⟨33, 2, [.agg [.int .i64 x23.Low, .int .i64 x23.High]], 0⟩]) (Sum.elim (fun j27 => OnlyE .ret (fun E' lw lc => Xl E' lw lc [(4, .bool false)] low [])) (fun j28 => OnlyE (.exit 0) (fun E' lw lc => Xl E' lw lc [] low []))) ho26 ?_ (by rintro (_|_) _ _ _ ⟨h, _⟩ <;> cases h) ?_) ?_
      ·exact Vg ⟨rfl, rfl, rfl, rfl, trivial⟩
      ·rintro s25 os25 _ _ _ hF hw
       unfold F_law08_DoorShuts_L1 at hF
       refine vwp_weak hw ?_
       refine Ve ?_
       refine Ve ?_
       refine Vc ?_
       obtain ⟨x29, h30, hF⟩ := Xr hF
       refine Va (Vi rfl) rfl ?_
       refine Va (Vq rfl) rfl ?_
       refine Va (Vi rfl) rfl ?_
       refine Va (Vy (Xg rfl rfl h30 te_23 ts_36) (v' := .vptr [.int .i64 x29.Road, .int .i64 x29.Other, .vs 1 (Yc (Yd .i64) x29.Rests)] 0) rfl) rfl ?_
       refine Va (rd_fieldVaddr rfl tf_36_2 ts_25 (by decide)) rfl ?_
       refine Va (Xe rfl ta_25 rfl) rfl ?_
       refine Va (Vy (Xd rfl rfl te_25) (congrArg (fun n : Nat => Yd .i64 (n : Int)) (Yj _))) rfl ?_
       refine Va (Xj rfl rfl) rfl ?_
       refine Vd ?_
       refine Vt rfl (fun c31 => ?_) (fun c31 => ?_)
       ·have hF := Xh c31 hF
        refine Xa ?_
        refine Ve ?_
        refine Xf ?_
        refine Ve ?_
        refine Vc ?_
        obtain ⟨x32, h33, hF⟩ := Xr hF
        obtain ⟨x34, h35, hF⟩ := Xr hF
        refine Va (Vq rfl) rfl ?_
        refine Va (Vi rfl) rfl ?_
        refine Va (Vy (Xg rfl rfl h33 te_23 ts_36) (v' := .vptr [.int .i64 x32.Road, .int .i64 x32.Other, .vs 1 (Yc (Yd .i64) x32.Rests)] 0) rfl) rfl ?_
        refine Va (rd_loadVN (ds := [.int .i64 x32.Road, .int .i64 x32.Other, .vs 1 (Yc (Yd .i64) x32.Rests)]) rfl ta_36 ts_36 rfl rfl) rfl ?_
        refine Va (Vi rfl) rfl ?_
        refine Vh (Xb rfl Try.call13 (F_door_Rest_ok h35 _)) rfl ?_
        refine Vh (vef_allocN rfl rfl tz_33 rfl rfl (Yh _) rfl) rfl ?_
        refine Vh (Xn (p := .agg [.int .i64 x34.Low, .int .i64 x34.High]) (e' := .agg [.int .i64 x34.Low, .int .i64 x34.High]) rfl (Vk rfl rfl) rfl rfl ts_33 rfl (nt_ne rfl) rfl (Yg rfl) rfl (Xx rfl rfl)) rfl ?_
        refine Vd ?_
        refine Ve ?_
        obtain ⟨o36, ho36, hF⟩ := Xr hF
        refine Vo (Q' := (fun o36 => OnlyE .normal (fun E' lw lc => Xl E' lw lc [(5, .vs 3 (Yc T_Door.enc x1.1)), (7, .int .i64 x11), (10, .ptr (low.length + 0) 0 0 0), (11, .int .i64 s25), (113, .bool o36)] low [⟨33, 2, [.agg [.int .i64 x23.Low, .int .i64 x23.High]], 0⟩])) o36) ?_ ?_
        ·replace hF := ho36
         obtain ⟨x37, h38, hF⟩ := Xr hF
         obtain ⟨x39, h40, hF⟩ := Xr hF
         rcases Yi (decide (x34.Low ≠ x39)) with c41 | c41
         ·have hF := Xh c41 hF
          refine vwp_drawn0 [[], [0], [], [], [2, 3], [2, 3, 4], [2, 3, 4, 5], [], [2, 3, 4, 5, 6, 7], [2, 3, 4, 5, 6, 7, 8], [0, 1, 2, 3, 4, 5, 6, 7, 8, 9], [0, 1, 2, 3, 4, 5, 6, 7, 8, 9, 10], [0, 1, 2, 3, 4, 5, 6, 7, 8, 9, 10, 11], [0, 1, 2, 3, 4, 5, 6, 7, 8, 9, 10, 11, 12], [0, 1, 2, 3, 4, 5, 6, 7, 8, 9, 10, 11], [0, 1, 2, 3, 4, 5, 6, 7, 8, 9, 10, 11, 14], [0, 1, 2, 3, 4, 5, 6, 7, 8, 9, 10, 11, 12, 13, 14, 15], [0, 1, 2, 3, 4, 5, 6, 7, 8, 9, 10, 11, 12, 13, 14, 15, 16], [0, 1, 2, 3, 4, 5, 6, 7, 8, 9, 10, 11, 12, 13, 14, 15, 16, 17], [0, 1, 2, 3, 4, 5, 6, 7, 8, 9, 10, 11, 12, 13, 14, 15, 16, 17, 18], [0, 1, 2, 3, 4, 5, 6, 7, 8, 9, 10, 11, 12, 13, 14, 15, 16, 17, 18, 19], [0, 1, 2, 3, 4, 5, 6, 7, 8, 9, 10, 11, 12, 13, 14, 15, 16, 17, 18], [0, 1, 2, 3, 4, 5, 6, 7, 8, 9, 10, 11, 12, 13, 14, 15, 16, 17, 18, 21], [0, 1, 2, 3, 4, 5, 6, 7, 8, 9, 10, 11, 12, 13, 14, 15, 16, 17, 18, 19, 20, 21, 22], [0, 1, 2, 3, 4, 5, 6, 7, 8, 9, 10, 11, 12, 13, 14, 15, 16, 17, 18, 19, 20, 21, 22, 23], [0, 1, 2, 3, 4, 5, 6, 7, 8, 9, 10, 11, 12, 13, 14, 15, 16, 17, 18, 19, 20, 21, 22, 23, 24], [0, 1, 2, 3, 4, 5, 6, 7, 8, 9, 10, 11, 12, 13, 14, 15, 16, 17, 18, 19, 20, 21, 22, 23, 24, 25], [0, 1, 2, 3, 4, 5, 6, 7, 8, 9, 10, 11, 12, 13, 14, 15, 16, 17, 18, 19, 20, 21, 22, 23, 24, 25, 26], [0, 1, 2, 3, 4, 5, 6, 7, 8, 9, 10, 11, 12, 13, 14, 15, 16, 17, 18, 19, 20, 21, 22, 23, 24, 25], [0, 1, 2, 3, 4, 5, 6, 7, 8, 9, 10, 11, 12, 13, 14, 15, 16, 17, 18, 19, 20, 21, 22, 23, 24, 25, 28], [0, 1, 2, 3, 4, 5, 6, 7, 8, 9, 10, 11, 12, 13, 14, 15, 16, 17, 18, 19, 20, 21, 22, 23, 24, 25, 26, 27, 28, 29], [0, 1, 2, 3, 4, 5, 6, 7, 8, 9, 10, 11, 12, 13, 14, 15, 16, 17, 18, 19, 20, 21, 22, 23, 24, 25, 26, 27, 28, 29, 30]] mixed (by kernel_rfl) rfl ?_
          refine Xm rfl rfl (Vf rfl tf_33_0 ts_3 (by decide)) ?_
          refine Xm rfl rfl (Vj rfl (Vk rfl rfl) rfl ta_3 rfl) ?_
          refine Xm rfl rfl (Vq rfl) ?_
          refine Xm rfl rfl (Vi rfl) ?_
          refine Xm rfl rfl (Vy (Xg rfl rfl h38 te_23 ts_36) (v' := .vptr [.int .i64 x37.Road, .int .i64 x37.Other, .vs 1 (Yc (Yd .i64) x37.Rests)] 0) rfl) ?_
          refine Xm rfl rfl (rd_fieldVaddr rfl tf_36_2 ts_25 (by decide)) ?_
          refine Xm rfl rfl (Xe rfl ta_25 rfl) ?_
          refine Xm rfl rfl (Vi rfl) ?_
          refine Xm rfl rfl (Vy (Xg rfl rfl h40 te_25 ts_3) (v' := .vptr [.int .i64 x39] 0) rfl) ?_
          refine Xm rfl rfl (Xe rfl ta_3 rfl) ?_
          refine Xm rfl rfl (Xk rfl rfl) ?_
          refine Xm rfl rfl (Vl rfl) ?_
          refine Vr rfl rfl rfl (Xu c41) ?_
          refine Vr rfl rfl rfl (Xu c41) ?_
          refine Vr rfl rfl rfl (Xu c41) ?_
          refine Vr rfl rfl rfl (Xu c41) ?_
          refine Vr rfl rfl rfl (Xu c41) ?_
          refine Xm rfl rfl (Vn (congrArg Ye c41) rfl) ?_
          refine Xm rfl rfl (Vl rfl) ?_
          refine Vr rfl rfl rfl (by decide) ?_
          refine Vr rfl rfl rfl (by decide) ?_
          refine Vr rfl rfl rfl (by decide) ?_
          refine Vr rfl rfl rfl (by decide) ?_
          refine Vr rfl rfl rfl (by decide) ?_
          refine Xm rfl rfl (Vn rfl rfl) ?_
          refine Xm rfl rfl (Vl rfl) ?_
          refine Vr rfl rfl rfl (by decide) ?_
          refine Vr rfl rfl rfl (by decide) ?_
          refine Vr rfl rfl rfl (by decide) ?_
          refine Vr rfl rfl rfl (by decide) ?_
          refine Vr rfl rfl rfl (by decide) ?_
          refine Xm rfl rfl (Vn rfl rfl) ?_
          refine dops_nil ?_
          obtain rfl := Yf hF
          refine Vv ?_
          exact Vx rfl [(0, 0)] (by decide) ⟨Vm rfl (.vs _ _), Vm rfl (.int _ _), rn_ptr 0 0 rfl rfl, Vm rfl (.int _ _), Vm rfl (.bool _), trivial⟩ ⟨⟨_, rfl, rfl, .same _ _ _ _ (ltObj_es ⟨Yb ⟨.int _ _, .int _ _, trivial⟩, trivial⟩)⟩, trivial⟩
         ·have hF := Xi c41 hF
          rcases Yi (decide (x34.High ≠ x34.Low)) with c42 | c42
          ·have hF := Xh c42 hF
           refine vwp_drawn0 [[], [0], [], [], [2, 3], [2, 3, 4], [2, 3, 4, 5], [], [2, 3, 4, 5, 6, 7], [2, 3, 4, 5, 6, 7, 8], [0, 1, 2, 3, 4, 5, 6, 7, 8, 9], [0, 1, 2, 3, 4, 5, 6, 7, 8, 9, 10], [0, 1, 2, 3, 4, 5, 6, 7, 8, 9, 10, 11], [0, 1, 2, 3, 4, 5, 6, 7, 8, 9, 10, 11, 12], [0, 1, 2, 3, 4, 5, 6, 7, 8, 9, 10, 11], [0, 1, 2, 3, 4, 5, 6, 7, 8, 9, 10, 11, 14], [0, 1, 2, 3, 4, 5, 6, 7, 8, 9, 10, 11, 12, 13, 14, 15], [0, 1, 2, 3, 4, 5, 6, 7, 8, 9, 10, 11, 12, 13, 14, 15, 16], [0, 1, 2, 3, 4, 5, 6, 7, 8, 9, 10, 11, 12, 13, 14, 15, 16, 17], [0, 1, 2, 3, 4, 5, 6, 7, 8, 9, 10, 11, 12, 13, 14, 15, 16, 17, 18], [0, 1, 2, 3, 4, 5, 6, 7, 8, 9, 10, 11, 12, 13, 14, 15, 16, 17, 18, 19], [0, 1, 2, 3, 4, 5, 6, 7, 8, 9, 10, 11, 12, 13, 14, 15, 16, 17, 18], [0, 1, 2, 3, 4, 5, 6, 7, 8, 9, 10, 11, 12, 13, 14, 15, 16, 17, 18, 21], [0, 1, 2, 3, 4, 5, 6, 7, 8, 9, 10, 11, 12, 13, 14, 15, 16, 17, 18, 19, 20, 21, 22], [0, 1, 2, 3, 4, 5, 6, 7, 8, 9, 10, 11, 12, 13, 14, 15, 16, 17, 18, 19, 20, 21, 22, 23], [0, 1, 2, 3, 4, 5, 6, 7, 8, 9, 10, 11, 12, 13, 14, 15, 16, 17, 18, 19, 20, 21, 22, 23, 24], [0, 1, 2, 3, 4, 5, 6, 7, 8, 9, 10, 11, 12, 13, 14, 15, 16, 17, 18, 19, 20, 21, 22, 23, 24, 25], [0, 1, 2, 3, 4, 5, 6, 7, 8, 9, 10, 11, 12, 13, 14, 15, 16, 17, 18, 19, 20, 21, 22, 23, 24, 25, 26], [0, 1, 2, 3, 4, 5, 6, 7, 8, 9, 10, 11, 12, 13, 14, 15, 16, 17, 18, 19, 20, 21, 22, 23, 24, 25], [0, 1, 2, 3, 4, 5, 6, 7, 8, 9, 10, 11, 12, 13, 14, 15, 16, 17, 18, 19, 20, 21, 22, 23, 24, 25, 28], [0, 1, 2, 3, 4, 5, 6, 7, 8, 9, 10, 11, 12, 13, 14, 15, 16, 17, 18, 19, 20, 21, 22, 23, 24, 25, 26, 27, 28, 29], [0, 1, 2, 3, 4, 5, 6, 7, 8, 9, 10, 11, 12, 13, 14, 15, 16, 17, 18, 19, 20, 21, 22, 23, 24, 25, 26, 27, 28, 29, 30]] mixed (by kernel_rfl) rfl ?_
           refine Xm rfl rfl (Vf rfl tf_33_0 ts_3 (by decide)) ?_
           refine Xm rfl rfl (Vj rfl (Vk rfl rfl) rfl ta_3 rfl) ?_
           refine Xm rfl rfl (Vq rfl) ?_
           refine Xm rfl rfl (Vi rfl) ?_
           refine Xm rfl rfl (Vy (Xg rfl rfl h38 te_23 ts_36) (v' := .vptr [.int .i64 x37.Road, .int .i64 x37.Other, .vs 1 (Yc (Yd .i64) x37.Rests)] 0) rfl) ?_
           refine Xm rfl rfl (rd_fieldVaddr rfl tf_36_2 ts_25 (by decide)) ?_
           refine Xm rfl rfl (Xe rfl ta_25 rfl) ?_
           refine Xm rfl rfl (Vi rfl) ?_
           refine Xm rfl rfl (Vy (Xg rfl rfl h40 te_25 ts_3) (v' := .vptr [.int .i64 x39] 0) rfl) ?_
           refine Xm rfl rfl (Xe rfl ta_3 rfl) ?_
           refine Xm rfl rfl (Xk rfl rfl) ?_
           refine Xm rfl rfl (Vl rfl) ?_
           refine dt1 rfl rfl rfl rfl c41 (Vf rfl tf_33_1 ts_3 (by decide)) ?_
           refine dt1 rfl rfl rfl rfl c41 (Vj rfl (Vk rfl rfl) rfl ta_3 rfl) ?_
           refine dt1 rfl rfl rfl rfl c41 (Vf rfl tf_33_0 ts_3 (by decide)) ?_
           refine dt1 rfl rfl rfl rfl c41 (Vj rfl (Vk rfl rfl) rfl ta_3 rfl) ?_
           refine dt1 rfl rfl rfl rfl c41 (Xk rfl rfl) ?_
           refine Xm rfl rfl (Vp (congrArg Ye c41) rfl) ?_
           refine Xm rfl rfl (Vl rfl) ?_
           refine Vr rfl rfl rfl (Xu c42) ?_
           refine Vr rfl rfl rfl (Xu c42) ?_
           refine Vr rfl rfl rfl (Xu c42) ?_
           refine Vr rfl rfl rfl (Xu c42) ?_
           refine Vr rfl rfl rfl (Xu c42) ?_
           refine Xm rfl rfl (Vn (congrArg Ye c42) rfl) ?_
           refine Xm rfl rfl (Vl rfl) ?_
           refine Vr rfl rfl rfl (by decide) ?_
           refine Vr rfl rfl rfl (by decide) ?_
           refine Vr rfl rfl rfl (by decide) ?_
           refine Vr rfl rfl rfl (by decide) ?_
           refine Vr rfl rfl rfl (by decide) ?_
           refine Xm rfl rfl (Vn rfl rfl) ?_
           refine dops_nil ?_
           obtain rfl := Yf hF
           refine Vv ?_
           exact Vx rfl [(0, 0)] (by decide) ⟨Vm rfl (.vs _ _), Vm rfl (.int _ _), rn_ptr 0 0 rfl rfl, Vm rfl (.int _ _), Vm rfl (.bool _), trivial⟩ ⟨⟨_, rfl, rfl, .same _ _ _ _ (ltObj_es ⟨Yb ⟨.int _ _, .int _ _, trivial⟩, trivial⟩)⟩, trivial⟩
          ·have hF := Xi c42 hF
           rcases Yi (decide (x34.Low < x23.Low)) with c43 | c43
           ·have hF := Xh c43 hF
            refine vwp_drawn0 [[], [0], [], [], [2, 3], [2, 3, 4], [2, 3, 4, 5], [], [2, 3, 4, 5, 6, 7], [2, 3, 4, 5, 6, 7, 8], [0, 1, 2, 3, 4, 5, 6, 7, 8, 9], [0, 1, 2, 3, 4, 5, 6, 7, 8, 9, 10], [0, 1, 2, 3, 4, 5, 6, 7, 8, 9, 10, 11], [0, 1, 2, 3, 4, 5, 6, 7, 8, 9, 10, 11, 12], [0, 1, 2, 3, 4, 5, 6, 7, 8, 9, 10, 11], [0, 1, 2, 3, 4, 5, 6, 7, 8, 9, 10, 11, 14], [0, 1, 2, 3, 4, 5, 6, 7, 8, 9, 10, 11, 12, 13, 14, 15], [0, 1, 2, 3, 4, 5, 6, 7, 8, 9, 10, 11, 12, 13, 14, 15, 16], [0, 1, 2, 3, 4, 5, 6, 7, 8, 9, 10, 11, 12, 13, 14, 15, 16, 17], [0, 1, 2, 3, 4, 5, 6, 7, 8, 9, 10, 11, 12, 13, 14, 15, 16, 17, 18], [0, 1, 2, 3, 4, 5, 6, 7, 8, 9, 10, 11, 12, 13, 14, 15, 16, 17, 18, 19], [0, 1, 2, 3, 4, 5, 6, 7, 8, 9, 10, 11, 12, 13, 14, 15, 16, 17, 18], [0, 1, 2, 3, 4, 5, 6, 7, 8, 9, 10, 11, 12, 13, 14, 15, 16, 17, 18, 21], [0, 1, 2, 3, 4, 5, 6, 7, 8, 9, 10, 11, 12, 13, 14, 15, 16, 17, 18, 19, 20, 21, 22], [0, 1, 2, 3, 4, 5, 6, 7, 8, 9, 10, 11, 12, 13, 14, 15, 16, 17, 18, 19, 20, 21, 22, 23], [0, 1, 2, 3, 4, 5, 6, 7, 8, 9, 10, 11, 12, 13, 14, 15, 16, 17, 18, 19, 20, 21, 22, 23, 24], [0, 1, 2, 3, 4, 5, 6, 7, 8, 9, 10, 11, 12, 13, 14, 15, 16, 17, 18, 19, 20, 21, 22, 23, 24, 25], [0, 1, 2, 3, 4, 5, 6, 7, 8, 9, 10, 11, 12, 13, 14, 15, 16, 17, 18, 19, 20, 21, 22, 23, 24, 25, 26], [0, 1, 2, 3, 4, 5, 6, 7, 8, 9, 10, 11, 12, 13, 14, 15, 16, 17, 18, 19, 20, 21, 22, 23, 24, 25], [0, 1, 2, 3, 4, 5, 6, 7, 8, 9, 10, 11, 12, 13, 14, 15, 16, 17, 18, 19, 20, 21, 22, 23, 24, 25, 28], [0, 1, 2, 3, 4, 5, 6, 7, 8, 9, 10, 11, 12, 13, 14, 15, 16, 17, 18, 19, 20, 21, 22, 23, 24, 25, 26, 27, 28, 29], [0, 1, 2, 3, 4, 5, 6, 7, 8, 9, 10, 11, 12, 13, 14, 15, 16, 17, 18, 19, 20, 21, 22, 23, 24, 25, 26, 27, 28, 29, 30]] mixed (by kernel_rfl) rfl ?_
            refine Xm rfl rfl (Vf rfl tf_33_0 ts_3 (by decide)) ?_
            refine Xm rfl rfl (Vj rfl (Vk rfl rfl) rfl ta_3 rfl) ?_
            refine Xm rfl rfl (Vq rfl) ?_
            refine Xm rfl rfl (Vi rfl) ?_
            refine Xm rfl rfl (Vy (Xg rfl rfl h38 te_23 ts_36) (v' := .vptr [.int .i64 x37.Road, .int .i64 x37.Other, .vs 1 (Yc (Yd .i64) x37.Rests)] 0) rfl) ?_
            refine Xm rfl rfl (rd_fieldVaddr rfl tf_36_2 ts_25 (by decide)) ?_
            refine Xm rfl rfl (Xe rfl ta_25 rfl) ?_
            refine Xm rfl rfl (Vi rfl) ?_
            refine Xm rfl rfl (Vy (Xg rfl rfl h40 te_25 ts_3) (v' := .vptr [.int .i64 x39] 0) rfl) ?_
            refine Xm rfl rfl (Xe rfl ta_3 rfl) ?_
            refine Xm rfl rfl (Xk rfl rfl) ?_
            refine Xm rfl rfl (Vl rfl) ?_
            refine dt1 rfl rfl rfl rfl c41 (Vf rfl tf_33_1 ts_3 (by decide)) ?_
            refine dt1 rfl rfl rfl rfl c41 (Vj rfl (Vk rfl rfl) rfl ta_3 rfl) ?_
            refine dt1 rfl rfl rfl rfl c41 (Vf rfl tf_33_0 ts_3 (by decide)) ?_
            refine dt1 rfl rfl rfl rfl c41 (Vj rfl (Vk rfl rfl) rfl ta_3 rfl) ?_
            refine dt1 rfl rfl rfl rfl c41 (Xk rfl rfl) ?_
            refine Xm rfl rfl (Vp (congrArg Ye c41) rfl) ?_
            refine Xm rfl rfl (Vl rfl) ?_
            refine dt1 rfl rfl rfl rfl c42 (Vf rfl tf_33_0 ts_3 (by decide)) ?_
            refine dt1 rfl rfl rfl rfl c42 (Vj rfl (Vk rfl rfl) rfl ta_3 rfl) ?_
            refine dt1 rfl rfl rfl rfl c42 (Vf rfl tf_33_0 ts_3 (by decide)) ?_
            refine dt1 rfl rfl rfl rfl c42 (Vj rfl (Vk rfl rfl) rfl ta_3 rfl) ?_
            refine dt1 rfl rfl rfl rfl c42 (rd_gtr rfl rfl) ?_
            refine Xm rfl rfl (Vp (congrArg Ye c42) rfl) ?_
            refine Xm rfl rfl (Vl rfl) ?_
            refine Vr rfl rfl rfl (Xu c43) ?_
            refine Vr rfl rfl rfl (Xu c43) ?_
            refine Vr rfl rfl rfl (Xu c43) ?_
            refine Vr rfl rfl rfl (Xu c43) ?_
            refine Vr rfl rfl rfl (Xu c43) ?_
            refine Xm rfl rfl (Vn (congrArg Ye c43) rfl) ?_
            refine dops_nil ?_
            obtain rfl := Yf hF
            refine Vv ?_
            exact Vx rfl [(0, 0)] (by decide) ⟨Vm rfl (.vs _ _), Vm rfl (.int _ _), rn_ptr 0 0 rfl rfl, Vm rfl (.int _ _), Vm rfl (.bool _), trivial⟩ ⟨⟨_, rfl, rfl, .same _ _ _ _ (ltObj_es ⟨Yb ⟨.int _ _, .int _ _, trivial⟩, trivial⟩)⟩, trivial⟩
           ·have hF := Xi c43 hF
            refine vwp_drawn0 [[], [0], [], [], [2, 3], [2, 3, 4], [2, 3, 4, 5], [], [2, 3, 4, 5, 6, 7], [2, 3, 4, 5, 6, 7, 8], [0, 1, 2, 3, 4, 5, 6, 7, 8, 9], [0, 1, 2, 3, 4, 5, 6, 7, 8, 9, 10], [0, 1, 2, 3, 4, 5, 6, 7, 8, 9, 10, 11], [0, 1, 2, 3, 4, 5, 6, 7, 8, 9, 10, 11, 12], [0, 1, 2, 3, 4, 5, 6, 7, 8, 9, 10, 11], [0, 1, 2, 3, 4, 5, 6, 7, 8, 9, 10, 11, 14], [0, 1, 2, 3, 4, 5, 6, 7, 8, 9, 10, 11, 12, 13, 14, 15], [0, 1, 2, 3, 4, 5, 6, 7, 8, 9, 10, 11, 12, 13, 14, 15, 16], [0, 1, 2, 3, 4, 5, 6, 7, 8, 9, 10, 11, 12, 13, 14, 15, 16, 17], [0, 1, 2, 3, 4, 5, 6, 7, 8, 9, 10, 11, 12, 13, 14, 15, 16, 17, 18], [0, 1, 2, 3, 4, 5, 6, 7, 8, 9, 10, 11, 12, 13, 14, 15, 16, 17, 18, 19], [0, 1, 2, 3, 4, 5, 6, 7, 8, 9, 10, 11, 12, 13, 14, 15, 16, 17, 18], [0, 1, 2, 3, 4, 5, 6, 7, 8, 9, 10, 11, 12, 13, 14, 15, 16, 17, 18, 21], [0, 1, 2, 3, 4, 5, 6, 7, 8, 9, 10, 11, 12, 13, 14, 15, 16, 17, 18, 19, 20, 21, 22], [0, 1, 2, 3, 4, 5, 6, 7, 8, 9, 10, 11, 12, 13, 14, 15, 16, 17, 18, 19, 20, 21, 22, 23], [0, 1, 2, 3, 4, 5, 6, 7, 8, 9, 10, 11, 12, 13, 14, 15, 16, 17, 18, 19, 20, 21, 22, 23, 24], [0, 1, 2, 3, 4, 5, 6, 7, 8, 9, 10, 11, 12, 13, 14, 15, 16, 17, 18, 19, 20, 21, 22, 23, 24, 25], [0, 1, 2, 3, 4, 5, 6, 7, 8, 9, 10, 11, 12, 13, 14, 15, 16, 17, 18, 19, 20, 21, 22, 23, 24, 25, 26], [0, 1, 2, 3, 4, 5, 6, 7, 8, 9, 10, 11, 12, 13, 14, 15, 16, 17, 18, 19, 20, 21, 22, 23, 24, 25], [0, 1, 2, 3, 4, 5, 6, 7, 8, 9, 10, 11, 12, 13, 14, 15, 16, 17, 18, 19, 20, 21, 22, 23, 24, 25, 28], [0, 1, 2, 3, 4, 5, 6, 7, 8, 9, 10, 11, 12, 13, 14, 15, 16, 17, 18, 19, 20, 21, 22, 23, 24, 25, 26, 27, 28, 29], [0, 1, 2, 3, 4, 5, 6, 7, 8, 9, 10, 11, 12, 13, 14, 15, 16, 17, 18, 19, 20, 21, 22, 23, 24, 25, 26, 27, 28, 29, 30]] mixed (by kernel_rfl) rfl ?_
            refine Xm rfl rfl (Vf rfl tf_33_0 ts_3 (by decide)) ?_
            refine Xm rfl rfl (Vj rfl (Vk rfl rfl) rfl ta_3 rfl) ?_
            refine Xm rfl rfl (Vq rfl) ?_
            refine Xm rfl rfl (Vi rfl) ?_
            refine Xm rfl rfl (Vy (Xg rfl rfl h38 te_23 ts_36) (v' := .vptr [.int .i64 x37.Road, .int .i64 x37.Other, .vs 1 (Yc (Yd .i64) x37.Rests)] 0) rfl) ?_
            refine Xm rfl rfl (rd_fieldVaddr rfl tf_36_2 ts_25 (by decide)) ?_
            refine Xm rfl rfl (Xe rfl ta_25 rfl) ?_
            refine Xm rfl rfl (Vi rfl) ?_
            refine Xm rfl rfl (Vy (Xg rfl rfl h40 te_25 ts_3) (v' := .vptr [.int .i64 x39] 0) rfl) ?_
            refine Xm rfl rfl (Xe rfl ta_3 rfl) ?_
            refine Xm rfl rfl (Xk rfl rfl) ?_
            refine Xm rfl rfl (Vl rfl) ?_
            refine dt1 rfl rfl rfl rfl c41 (Vf rfl tf_33_1 ts_3 (by decide)) ?_
            refine dt1 rfl rfl rfl rfl c41 (Vj rfl (Vk rfl rfl) rfl ta_3 rfl) ?_
            refine dt1 rfl rfl rfl rfl c41 (Vf rfl tf_33_0 ts_3 (by decide)) ?_
            refine dt1 rfl rfl rfl rfl c41 (Vj rfl (Vk rfl rfl) rfl ta_3 rfl) ?_
            refine dt1 rfl rfl rfl rfl c41 (Xk rfl rfl) ?_
            refine Xm rfl rfl (Vp (congrArg Ye c41) rfl) ?_
            refine Xm rfl rfl (Vl rfl) ?_
            refine dt1 rfl rfl rfl rfl c42 (Vf rfl tf_33_0 ts_3 (by decide)) ?_
            refine dt1 rfl rfl rfl rfl c42 (Vj rfl (Vk rfl rfl) rfl ta_3 rfl) ?_
            refine dt1 rfl rfl rfl rfl c42 (Vf rfl tf_33_0 ts_3 (by decide)) ?_
            refine dt1 rfl rfl rfl rfl c42 (Vj rfl (Vk rfl rfl) rfl ta_3 rfl) ?_
            refine dt1 rfl rfl rfl rfl c42 (rd_gtr rfl rfl) ?_
            refine Xm rfl rfl (Vp (congrArg Ye c42) rfl) ?_
            refine Xm rfl rfl (Vl rfl) ?_
            refine dt1 rfl rfl rfl rfl c43 (Vf rfl tf_33_1 ts_3 (by decide)) ?_
            refine dt1 rfl rfl rfl rfl c43 (Vj rfl (Vk rfl rfl) rfl ta_3 rfl) ?_
            refine dt1 rfl rfl rfl rfl c43 (Vf rfl tf_33_1 ts_3 (by decide)) ?_
            refine dt1 rfl rfl rfl rfl c43 (Vj rfl (Vk rfl rfl) rfl ta_3 rfl) ?_
            refine dt1 rfl rfl rfl rfl c43 (Xj rfl rfl) ?_
            refine Xm rfl rfl (Vp (congrArg Ye c43) rfl) ?_
            refine dops_nil ?_
            obtain rfl := Yf hF
            refine Vv ?_
            exact Vx rfl [(0, 0)] (by decide) ⟨Vm rfl (.vs _ _), Vm rfl (.int _ _), rn_ptr 0 0 rfl rfl, Vm rfl (.int _ _), Vm rfl (.bool _), trivial⟩ ⟨⟨_, rfl, rfl, .same _ _ _ _ (ltObj_es ⟨Yb ⟨.int _ _, .int _ _, trivial⟩, trivial⟩)⟩, trivial⟩
        ·rintro _ _ _ _ ⟨rfl, hw⟩
         refine ⟨_, _, _, hw, ?_⟩
         refine Vt rfl (fun c44 => ?_) (fun c44 => ?_)
         ·have hF := Xh c44 hF
          refine Ve ?_
          refine Vc ?_
          refine Va (Xp rfl) rfl ?_
          refine Vd ?_
          refine Vz ?_
          obtain rfl := Yf hF
          refine Vv ?_
          exact Vx rfl [] (by decide) ⟨Vm rfl (.bool _), trivial⟩ trivial
         ·have hF := Xi c44 hF
          refine Xa ?_
          refine Vc ?_
          refine Va (Vi rfl) rfl ?_
          refine Va (rd_add rfl rfl rfl) rfl ?_
          refine Va (Vu rfl) rfl ?_
          refine Vd ?_
          obtain rfl := Yf hF
          refine Vv ?_
          exact Vg ⟨rfl, rfl, rfl, rfl, trivial⟩
       ·have hF := Xi c31 hF
        refine vwp_exit ?_
        obtain rfl := Yf hF
        refine Vv ?_
        exact Vx rfl [] (by decide) trivial trivial
      ·rcases o26 with j27 | j28
       ·replace hF := elimL hF
        rintro _ _ _ _ ⟨rfl, hw⟩
        refine ⟨_, _, _, hw, ?_⟩
        obtain rfl := Yf hF
        refine fnR ?_
        exact Vg ⟨rfl, trivial⟩
       ·replace hF := elimR hF
        rintro _ _ _ _ ⟨rfl, hw⟩
        refine ⟨_, _, _, hw, ?_⟩
        refine Ve ?_
        refine Vc ?_
        obtain ⟨x45, h46, hF⟩ := Xr hF
        refine Vh (Xb rfl Try.call8 (F_law08_awake_ok h46 _)) rfl ?_
        refine Va (Xp rfl) rfl ?_
        refine Vd ?_
        refine Vz ?_
        obtain rfl := Yf hF
        refine fnR ?_
        exact Vg ⟨rfl, trivial⟩
 ·rintro _ _ _ _ ⟨he, hw⟩
  refine ⟨_, _, _, hw, ?_⟩
  exact Xo he [.bool r] ⟨rfl, trivial⟩ (.bool _) ⟨rfl, rfl⟩

end Go.Proofs.Ytnmimlcnifflbaa
