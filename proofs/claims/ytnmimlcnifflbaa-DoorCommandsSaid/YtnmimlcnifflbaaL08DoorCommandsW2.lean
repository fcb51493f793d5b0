/- Printed by wip/lift/lift.py: the walks that show that the program computes them. -/
import Derived.Test.YtnmimlcnifflbaaL08DoorCommandsW1
namespace Go.Proofs.Ytnmimlcnifflbaa
open Go Go.Aml Go.L
attribute [local irreducible] VRd VEf VOp VOps VWp DOps
set_option linter.unusedVariables false
open Go.Aml renaming vops_rd → Va, vops_skip → Vb, vwp_region → Vc, vops_nil → Vd, vwp_seq → Ve, rd_fieldAddr → Vf, weak_sub → Vg, rd_mvI → Vh, vops_efE → Vi, rd_mvB → Vj, getO_N → Vk, rd_pickT → Vl, rd_load1 → Vm, vwp_monoW → Vn, rd_mvV → Vo, rd_pickF → Vp, rd_asI → Vq, rn_low → Vr, vops_skipX → Vs, vt1 → Vt, vwp_cond → Vu, vef_callP → Vv, vwp_ret → Vw, onlyE → Vx, vcalls_of_body → Vy, vwp_skip → Vz, rd_to → Xa, weak_pick → Xb, rd_lenV → Xc, rd_loadV1 → Xd, vwp_block → Xe, bifT → Xf, bifF → Xg, rd_lss → Xh, Weak → Xi, bodyQ_pure → Xj, rd_extract → Xk, rd_neq → Xl, rd_ixV → Xm, bnd → Xn, rd_asB → Xo, dops_skip → Xp, lenS → Xq, vef_store → Xr, rd_mvP → Xs, getI_some → Xt, vef_callS → Xu, VCalls → Xv, rd_eql → Xw, neT → Xx, rd_nilPtr → Xy, setO_N → Xz, sets_nil → Ya
open List renaming map → Yb
open Go.Aml.PV renaming int → Yc
open Go.Aml.PV renaming bool → Yd
open Option.some renaming inj → Ye
open Nat renaming le_of_ble_eq_true → Yf
open Nat renaming succ_pos → Yg
open Bool renaming eq_false_or_eq_true → Yh
open List renaming length_map → Yi
set_option maxHeartbeats 4000000

theorem F_ref08_Check_ok {p0 : List T_Door} {r : Int} (hF : F_ref08_Check p0 = some r) (low : List AObj) :
    Xv Try.prog 11 [.vs 3 (Yb T_Door.enc p0)] low fun x low' => x = .int .i64 r ∧ low' = low := by
 refine Vy (nt := 104) (rs := [.tmp 2]) Try.func11 rfl rfl (Yf rfl) rfl ?_
 refine Vn (Q' := FnE (fun E' lw lc => Xi E' lw lc [(2, .int .i64 r)] low [])) ?_ ?_
 ·unfold F_ref08_Check at hF
  refine Ve ?_
  refine Vc ?_
  refine Va (Vq rfl) rfl ?_
  refine Vd ?_
  refine Ve ?_
  refine Ve ?_
  refine Vc ?_
  refine Va (Vo rfl) rfl ?_
  refine Va (Xa (Xc rfl rfl te_23) (congrArg (fun n : Nat => Yc .i64 (n : Int)) (Yi _))) rfl ?_
  refine Va (rd_gtr rfl rfl) rfl ?_
  refine Vd ?_
  refine Vu rfl (fun c1 => ?_) (fun c1 => ?_)
  ·have hF := Xf c1 hF
   refine Ve ?_
   refine Vc ?_
   refine Va (Vq rfl) rfl ?_
   refine Vd ?_
   refine Vw ?_
   obtain rfl := Ye hF
   refine fnR ?_
   exact Vg ⟨rfl, trivial⟩
  ·have hF := Xg c1 hF
   refine Vz ?_
   refine Ve ?_
   refine Ve ?_
   refine Vc ?_
   refine Va (Vq rfl) rfl ?_
   refine Vd ?_
   refine Xe ?_
   obtain ⟨o3, ho3, hF⟩ := Xn hF
   refine Vn (vwp_loopC (F_ref08_Check_L1 p0) (fun s2 E' lw lc => Xi E' lw lc [(0, .vs 3 (Yb T_Door.enc p0)), (3, .int .i64 s2)] low []) (Sum.elim (fun j4 => OnlyE .ret (fun E' lw lc => Xi E' lw lc [(2, .int .i64 j4)] low [])) (fun j5 => OnlyE (.exit 0) (fun E' lw lc => Xi E' lw lc [] low []))) ho3 ?_ (by rintro (_|_) _ _ _ ⟨h, _⟩ <;> cases h) ?_) ?_
   ·exact Vg ⟨rfl, rfl, trivial⟩
   ·rintro s2 os2 _ _ _ hF hw
    unfold F_ref08_Check_L1 at hF
    refine vwp_weak hw ?_
    refine Ve ?_
    refine Ve ?_
    refine Vc ?_
    refine Va (Vh rfl) rfl ?_
    refine Va (Vo rfl) rfl ?_
    refine Va (Xa (Xc rfl rfl te_23) (congrArg (fun n : Nat => Yc .i64 (n : Int)) (Yi _))) rfl ?_
    refine Va (Xh rfl rfl) rfl ?_
    refine Vd ?_
    refine Vu rfl (fun c6 => ?_) (fun c6 => ?_)
    ·have hF := Xf c6 hF
     refine Vz ?_
     refine Ve ?_
     refine Xe ?_
     refine Ve ?_
     refine Vc ?_
     obtain ⟨x7, h8, hF⟩ := Xn hF
     refine Va (Vo rfl) rfl ?_
     refine Va (Vh rfl) rfl ?_
     refine Va (Xa (Xm rfl rfl h8 te_23 ts_36) (v' := .vptr [.int .i64 x7.Road, .int .i64 x7.Other, .vs 1 (Yb (Yc .i64) x7.Rests)] 0) rfl) rfl ?_
     refine Va (rd_loadVN (ds := [.int .i64 x7.Road, .int .i64 x7.Other, .vs 1 (Yb (Yc .i64) x7.Rests)]) rfl ta_36 ts_36 rfl rfl) rfl ?_
     refine Vi (vef_allocN rfl rfl tz_36 rfl rfl (Yg _) rfl) rfl ?_
     refine Vi (Xr (p := .agg [.int .i64 x7.Road, .int .i64 x7.Other, .vs 1 (Yb (Yc .i64) x7.Rests)]) (e' := .agg [.int .i64 x7.Road, .int .i64 x7.Other, .vs 1 (Yb (Yc .i64) x7.Rests)]) rfl (Vk rfl rfl) rfl rfl ts_36 rfl (nt_ne rfl) rfl (Yf rfl) rfl (Xz rfl rfl)) rfl ?_
     refine Vd ?_
     refine Ve ?_
     refine Ve ?_
     refine Vc ?_
     refine Va (Vf rfl tf_36_0 ts_3 (by decide)) rfl ?_
     refine Va (Vm rfl (Vk rfl rfl) rfl ta_3 rfl) rfl ?_
     refine Va (Xh rfl rfl) rfl ?_
     refine Vd ?_
     refine Vu rfl (fun c9 => ?_) (fun c9 => ?_)
     ·have hF := Xf c9 hF
      refine Ve ?_
      refine Vc ?_
      refine Va (Vq rfl) rfl ?_
      refine Vd ?_
      refine Vw ?_
      obtain rfl := Ye hF
      refine Vx ?_
      exact Xb rfl [] (by decide) ⟨Vr rfl (.int _ _), trivial⟩ trivial
     ·have hF := Xg c9 hF
      refine Vz ?_
      refine Ve ?_
      refine Ve ?_
      obtain ⟨o10, ho10, hF⟩ := Xn hF
      refine Vn (Q' := (fun o10 => OnlyE .normal (fun E' lw lc => Xi E' lw lc [(0, .vs 3 (Yb T_Door.enc p0)), (3, .int .i64 s2), (4, .ptr (low.length + 0) 0 0 0), (32, .bool o10)] low [⟨36, 3, [.agg [.int .i64 x7.Road, .int .i64 x7.Other, .vs 1 (Yb (Yc .i64) x7.Rests)]], 0⟩])) o10) ?_ ?_
      ·replace hF := ho10
       refine Vc ?_
       rcases Yh (decide (((x7.Rests).length : Int) < 2)) with c11 | c11
       ·have hF := Xf c11 hF
        refine Va (Vf rfl tf_36_2 ts_25 (by decide)) rfl ?_
        refine Va (Vm rfl (Vk rfl rfl) rfl ta_25 rfl) rfl ?_
        refine Va (Xa (Xc rfl rfl te_25) (congrArg (fun n : Nat => Yc .i64 (n : Int)) (Yi _))) rfl ?_
        refine Va (Xh rfl rfl) rfl ?_
        refine Va (Vj rfl) rfl ?_
        refine Vb rfl rfl (Xx c11) rfl ?_
        refine Vb rfl rfl (Xx c11) rfl ?_
        refine Vb rfl rfl (Xx c11) rfl ?_
        refine Vb rfl rfl (Xx c11) rfl ?_
        refine Va (Vl (congrArg Yd c11) rfl) rfl ?_
        refine Vd ?_
        obtain rfl := Ye hF
        refine Vx ?_
        exact Vg ⟨rfl, rfl, rfl, rfl, trivial⟩
       ·have hF := Xg c11 hF
        refine Va (Vf rfl tf_36_2 ts_25 (by decide)) rfl ?_
        refine Va (Vm rfl (Vk rfl rfl) rfl ta_25 rfl) rfl ?_
        refine Va (Xa (Xc rfl rfl te_25) (congrArg (fun n : Nat => Yc .i64 (n : Int)) (Yi _))) rfl ?_
        refine Va (Xh rfl rfl) rfl ?_
        refine Va (Vj rfl) rfl ?_
        refine Vt rfl rfl c11 ?_
        refine Va (Vf rfl tf_36_2 ts_25 (by decide)) rfl ?_
        refine Vt rfl rfl c11 ?_
        refine Va (Vm rfl (Vk rfl rfl) rfl ta_25 rfl) rfl ?_
        refine Vt rfl rfl c11 ?_
        refine Va (Xa (Xc rfl rfl te_25) (congrArg (fun n : Nat => Yc .i64 (n : Int)) (Yi _))) rfl ?_
        refine Vt rfl rfl c11 ?_
        refine Va (rd_gtr rfl rfl) rfl ?_
        refine Va (Vp (congrArg Yd c11) rfl) rfl ?_
        refine Vd ?_
        obtain rfl := Ye hF
        refine Vx ?_
        exact Vg ⟨rfl, rfl, rfl, rfl, trivial⟩
      ·rintro _ _ _ _ ⟨rfl, hw⟩
       refine ⟨_, _, _, hw, ?_⟩
       refine Vu rfl (fun c12 => ?_) (fun c12 => ?_)
       ·have hF := Xf c12 hF
        refine Ve ?_
        refine Vc ?_
        refine Va (Vq rfl) rfl ?_
        refine Vd ?_
        refine Vw ?_
        obtain rfl := Ye hF
        refine Vx ?_
        exact Xb rfl [] (by decide) ⟨Vr rfl (.int _ _), trivial⟩ trivial
       ·have hF := Xg c12 hF
        refine Vz ?_
        refine Ve ?_
        refine Ve ?_
        refine Vc ?_
        refine Va (Vq rfl) rfl ?_
        refine Vd ?_
        refine Xe ?_
        obtain ⟨o14, ho14, hF⟩ := Xn hF
        refine Vn (vwp_loopC (F_ref08_Check_L2 x7) (fun s13 E' lw lc => Xi E' lw lc [(0, .vs 3 (Yb T_Door.enc p0)), (3, .int .i64 s2), (4, .ptr (low.length + 0) 0 0 0), (5, .int .i64 s13)] low [⟨36, 3, [.agg [.int .i64 x7.Road, .int .i64 x7.Other, .vs 1 (Yb (Yc .i64) x7.Rests)]], 0⟩]) (Sum.elim (fun j15 => OnlyE .ret (fun E' lw lc => Xi E' lw lc [(2, .int .i64 1)] low [])) (fun j16 => OnlyE (.exit 2) (fun E' lw lc => Xi E' lw lc [(0, .vs 3 (Yb T_Door.enc p0)), (3, .int .i64 s2), (4, .ptr (low.length + 0) 0 0 0)] low [⟨36, 3, [.agg [.int .i64 x7.Road, .int .i64 x7.Other, .vs 1 (Yb (Yc .i64) x7.Rests)]], 0⟩]))) ho14 ?_ (by rintro (_|_) _ _ _ ⟨h, _⟩ <;> cases h) ?_) ?_
        ·exact Vg ⟨rfl, rfl, rfl, rfl, trivial⟩
        ·rintro s13 os13 _ _ _ hF hw
         unfold F_ref08_Check_L2 at hF
         refine vwp_weak hw ?_
         refine Ve ?_
         refine Ve ?_
         refine Vc ?_
         refine Va (Vh rfl) rfl ?_
         refine Va (Vf rfl tf_36_2 ts_25 (by decide)) rfl ?_
         refine Va (Vm rfl (Vk rfl rfl) rfl ta_25 rfl) rfl ?_
         refine Va (Xa (Xc rfl rfl te_25) (congrArg (fun n : Nat => Yc .i64 (n : Int)) (Yi _))) rfl ?_
         refine Va (Xh rfl rfl) rfl ?_
         refine Vd ?_
         refine Vu rfl (fun c17 => ?_) (fun c17 => ?_)
         ·have hF := Xf c17 hF
          refine Vz ?_
          refine Ve ?_
          refine Xe ?_
          refine Ve ?_
          obtain ⟨o18, ho18, hF⟩ := Xn hF
          refine Vn (Q' := (fun o18 => OnlyE .normal (fun E' lw lc => Xi E' lw lc [(0, .vs 3 (Yb T_Door.enc p0)), (3, .int .i64 s2), (4, .ptr (low.length + 0) 0 0 0), (5, .int .i64 s13), (53, .bool o18)] low [⟨36, 3, [.agg [.int .i64 x7.Road, .int .i64 x7.Other, .vs 1 (Yb (Yc .i64) x7.Rests)]], 0⟩])) o18) ?_ ?_
          ·replace hF := ho18
           refine Vc ?_
           obtain ⟨x19, h20, hF⟩ := Xn hF
           rcases Yh (decide (x19 < 0)) with c21 | c21
           ·have hF := Xf c21 hF
            refine Va (Vf rfl tf_36_2 ts_25 (by decide)) rfl ?_
            refine Va (Vm rfl (Vk rfl rfl) rfl ta_25 rfl) rfl ?_
            refine Va (Vh rfl) rfl ?_
            refine Va (Xa (Xm rfl rfl h20 te_25 ts_3) (v' := .vptr [.int .i64 x19] 0) rfl) rfl ?_
            refine Va (Xd rfl ta_3 rfl) rfl ?_
            refine Va (Xh rfl rfl) rfl ?_
            refine Va (Vj rfl) rfl ?_
            refine Vb rfl rfl (Xx c21) rfl ?_
            refine Vb rfl rfl (Xx c21) rfl ?_
            refine Vb rfl rfl (Xx c21) rfl ?_
            refine Vb rfl rfl (Xx c21) rfl ?_
            refine Vb rfl rfl (Xx c21) rfl ?_
            refine Vb rfl rfl (Xx c21) rfl ?_
            refine Va (Vl (congrArg Yd c21) rfl) rfl ?_
            refine Vd ?_
            obtain rfl := Ye hF
            refine Vx ?_
            exact Vg ⟨rfl, rfl, rfl, rfl, rfl, trivial⟩
           ·have hF := Xg c21 hF
            obtain ⟨x22, h23, hF⟩ := Xn hF
            refine Va (Vf rfl tf_36_2 ts_25 (by decide)) rfl ?_
            refine Va (Vm rfl (Vk rfl rfl) rfl ta_25 rfl) rfl ?_
            refine Va (Vh rfl) rfl ?_
            refine Va (Xa (Xm rfl rfl h20 te_25 ts_3) (v' := .vptr [.int .i64 x19] 0) rfl) rfl ?_
            refine Va (Xd rfl ta_3 rfl) rfl ?_
            refine Va (Xh rfl rfl) rfl ?_
            refine Va (Vj rfl) rfl ?_
            refine Vt rfl rfl c21 ?_
            refine Va (Vf rfl tf_36_2 ts_25 (by decide)) rfl ?_
            refine Vt rfl rfl c21 ?_
            refine Va (Vm rfl (Vk rfl rfl) rfl ta_25 rfl) rfl ?_
            refine Vt rfl rfl c21 ?_
            refine Va (Vh rfl) rfl ?_
            refine Vt rfl rfl c21 ?_
            refine Va (Xa (Xm rfl rfl h23 te_25 ts_3) (v' := .vptr [.int .i64 x22] 0) rfl) rfl ?_
            refine Vt rfl rfl c21 ?_
            refine Va (Xd rfl ta_3 rfl) rfl ?_
            refine Vt rfl rfl c21 ?_
            refine Va (rd_gtr rfl rfl) rfl ?_
            refine Va (Vp (congrArg Yd c21) rfl) rfl ?_
            refine Vd ?_
            obtain rfl := Ye hF
            refine Vx ?_
            exact Vg ⟨rfl, rfl, rfl, rfl, rfl, trivial⟩
          ·rintro _ _ _ _ ⟨rfl, hw⟩
           refine ⟨_, _, _, hw, ?_⟩
           refine Vu rfl (fun c24 => ?_) (fun c24 => ?_)
           ·have hF := Xf c24 hF
            refine Ve ?_
            refine Vc ?_
            refine Va (Vq rfl) rfl ?_
            refine Vd ?_
            refine Vw ?_
            obtain rfl := Ye hF
            refine Vx ?_
            exact Xb rfl [] (by decide) ⟨Vr rfl (.int _ _), trivial⟩ trivial
           ·have hF := Xg c24 hF
            refine Vz ?_
            refine Vc ?_
            refine Va (Vh rfl) rfl ?_
            refine Va (rd_add rfl rfl rfl) rfl ?_
            refine Va (Vq rfl) rfl ?_
            refine Vd ?_
            obtain rfl := Ye hF
            refine Vx ?_
            exact Vg ⟨rfl, rfl, rfl, rfl, trivial⟩
         ·have hF := Xg c17 hF
          refine vwp_exit ?_
          obtain rfl := Ye hF
          refine Vx ?_
          exact Vg ⟨rfl, rfl, rfl, trivial⟩
        ·rcases o14 with j15 | j16
         ·replace hF := elimL hF
          rintro _ _ _ _ ⟨rfl, hw⟩
          refine ⟨_, _, _, hw, ?_⟩
          obtain rfl := Ye hF
          refine Vx ?_
          exact Vg ⟨rfl, trivial⟩
         ·replace hF := elimR hF
          rintro _ _ _ _ ⟨rfl, hw⟩
          refine ⟨_, _, _, hw, ?_⟩
          refine Ve ?_
          refine Ve ?_
          refine Vc ?_
          refine Va (Vq rfl) rfl ?_
          refine Vd ?_
          refine Xe ?_
          obtain ⟨o26, ho26, hF⟩ := Xn hF
          refine Vn (vwp_loopC (F_ref08_Check_L3 x7) (fun s25 E' lw lc => Xi E' lw lc [(0, .vs 3 (Yb T_Door.enc p0)), (3, .int .i64 s2), (4, .ptr (low.length + 0) 0 0 0), (6, .int .i64 s25)] low [⟨36, 3, [.agg [.int .i64 x7.Road, .int .i64 x7.Other, .vs 1 (Yb (Yc .i64) x7.Rests)]], 0⟩]) (Sum.elim (fun j27 => OnlyE .ret (fun E' lw lc => Xi E' lw lc [(2, .int .i64 15)] low [])) (fun j28 => OnlyE (.exit 4) (fun E' lw lc => Xi E' lw lc [(0, .vs 3 (Yb T_Door.enc p0)), (3, .int .i64 s2), (4, .ptr (low.length + 0) 0 0 0)] low [⟨36, 3, [.agg [.int .i64 x7.Road, .int .i64 x7.Other, .vs 1 (Yb (Yc .i64) x7.Rests)]], 0⟩]))) ho26 ?_ (by rintro (_|_) _ _ _ ⟨h, _⟩ <;> cases h) ?_) ?_
          ·exact Vg ⟨rfl, rfl, rfl, rfl, trivial⟩
          ·rintro s25 os25 _ _ _ hF hw
           unfold F_ref08_Check_L3 at hF
           refine vwp_weak hw ?_
           refine Ve ?_
           refine Ve ?_
           refine Vc ?_
           refine Va (Vh rfl) rfl ?_
           refine Va (Vf rfl tf_36_2 ts_25 (by decide)) rfl ?_
           refine Va (Vm rfl (Vk rfl rfl) rfl ta_25 rfl) rfl ?_
           refine Va (Xa (Xc rfl rfl te_25) (congrArg (fun n : Nat => Yc .i64 (n : Int)) (Yi _))) rfl ?_
           refine Va (Xh rfl rfl) rfl ?_
           refine Vd ?_
           refine Vu rfl (fun c29 => ?_) (fun c29 => ?_)
           ·have hF := Xf c29 hF
            refine Vz ?_
            refine Ve ?_
            refine Xe ?_
            refine Ve ?_
            obtain ⟨x30, h31, hF⟩ := Xn hF
            obtain ⟨x32, h33, hF⟩ := Xn hF
            refine vwp_drawn0 [[], [0], [], [0, 1, 2], [0, 1, 2, 3], [], [5], [], [7], [5, 6, 7, 8], [5, 6, 7, 8, 9], [0, 1, 2, 3, 4, 5, 6, 7, 8, 9, 10]] mixed (by kernel_rfl) rfl ?_
            refine dr1 rfl rfl (Vf rfl tf_36_2 ts_25 (by decide)) ?_
            refine dr1 rfl rfl (Vm rfl (Vk rfl rfl) rfl ta_25 rfl) ?_
            refine dr1 rfl rfl (Vh rfl) ?_
            refine dr1 rfl rfl (Xa (Xm rfl rfl h31 te_25 ts_3) (v' := .vptr [.int .i64 x30] 0) rfl) ?_
            refine dr1 rfl rfl (Xd rfl ta_3 rfl) ?_
            refine dr1 rfl rfl (Vf rfl tf_36_2 ts_25 (by decide)) ?_
            refine dr1 rfl rfl (Vm rfl (Vk rfl rfl) rfl ta_25 rfl) ?_
            refine dr1 rfl rfl (Vh rfl) ?_
            refine dr1 rfl rfl (rd_sub rfl rfl rfl) ?_
            refine dr1 rfl rfl (Xa (Xm rfl rfl h33 te_25 ts_3) (v' := .vptr [.int .i64 x32] 0) rfl) ?_
            refine dr1 rfl rfl (Xd rfl ta_3 rfl) ?_
            refine dr1 rfl rfl (rd_geq rfl rfl) ?_
            refine dops_nil ?_
            refine Vu rfl (fun c34 => ?_) (fun c34 => ?_)
            ·have hF := Xf c34 hF
             refine Ve ?_
             refine Vc ?_
             refine Va (Vq rfl) rfl ?_
             refine Vd ?_
             refine Vw ?_
             obtain rfl := Ye hF
             refine Vx ?_
             exact Xb rfl [] (by decide) ⟨Vr rfl (.int _ _), trivial⟩ trivial
            ·have hF := Xg c34 hF
             refine Vz ?_
             refine Vc ?_
             refine Va (Vh rfl) rfl ?_
             refine Va (rd_add rfl rfl rfl) rfl ?_
             refine Va (Vq rfl) rfl ?_
             refine Vd ?_
             obtain rfl := Ye hF
             refine Vx ?_
             exact Vg ⟨rfl, rfl, rfl, rfl, trivial⟩
           ·have hF := Xg c29 hF
            refine vwp_exit ?_
            obtain rfl := Ye hF
            refine Vx ?_
            exact Vg ⟨rfl, rfl, rfl, trivial⟩
          ·rcases o26 with j27 | j28
           ·replace hF := elimL hF
            rintro _ _ _ _ ⟨rfl, hw⟩
            refine ⟨_, _, _, hw, ?_⟩
            obtain rfl := Ye hF
            refine Vx ?_
            exact Vg ⟨rfl, trivial⟩
           ·replace hF := elimR hF
            rintro _ _ _ _ ⟨rfl, hw⟩
            refine ⟨_, _, _, hw, ?_⟩
            refine Ve ?_
            obtain ⟨o35, ho35, hF⟩ := Xn hF
            refine Vn (Q' := (fun o35 => OnlyE .normal (fun E' lw lc => Xi E' lw lc [(0, .vs 3 (Yb T_Door.enc p0)), (3, .int .i64 s2), (103, .bool o35)] low [])) o35) ?_ ?_
            ·replace hF := ho35
             refine Vc ?_
             rcases Yh (decide (x7.Other ≠ (-1))) with c36 | c36
             ·have hF := Xf c36 hF
              rcases Yh (decide (x7.Other < 0)) with c37 | c37
              ·have hF := Xf c37 hF
               refine Va (Vf rfl tf_36_1 ts_3 (by decide)) rfl ?_
               refine Va (Vm rfl (Vk rfl rfl) rfl ta_3 rfl) rfl ?_
               refine Va (Xl rfl rfl) rfl ?_
               refine Va (Vj rfl) rfl ?_
               refine Vt rfl rfl c36 ?_
               refine Va (Vf rfl tf_36_1 ts_3 (by decide)) rfl ?_
               refine Vt rfl rfl c36 ?_
               refine Va (Vm rfl (Vk rfl rfl) rfl ta_3 rfl) rfl ?_
               refine Vt rfl rfl c36 ?_
               refine Va (Xh rfl rfl) rfl ?_
               refine Vt rfl rfl c36 ?_
               refine Va (Vj rfl) rfl ?_
               refine Vb rfl rfl (Xx c37) rfl ?_
               refine Vb rfl rfl (Xx c37) rfl ?_
               refine Vb rfl rfl (Xx c37) rfl ?_
               refine Vb rfl rfl (Xx c37) rfl ?_
               refine Vb rfl rfl (Xx c37) rfl ?_
               refine Vt rfl rfl c36 ?_
               refine Va (Vl (congrArg Yd c37) rfl) rfl ?_
               refine Vt rfl rfl c36 ?_
               refine Va (Vj rfl) rfl ?_
               refine Vb rfl rfl (by decide) rfl ?_
               refine Vb rfl rfl (by decide) rfl ?_
               refine Vb rfl rfl (by decide) rfl ?_
               refine Vb rfl rfl (by decide) rfl ?_
               refine Vt rfl rfl c36 ?_
               refine Va (Vl rfl rfl) rfl ?_
               refine Vt rfl rfl c36 ?_
               refine Va (Vj rfl) rfl ?_
               refine Vb rfl rfl (by decide) rfl ?_
               refine Vb rfl rfl (by decide) rfl ?_
               refine Vb rfl rfl (by decide) rfl ?_
               refine Vb rfl rfl (by decide) rfl ?_
               refine Vb rfl rfl (by decide) rfl ?_
               refine Vb rfl rfl (by decide) rfl ?_
               refine Vb rfl rfl (by decide) rfl ?_
               refine Vb rfl rfl (by decide) rfl ?_
               refine Vt rfl rfl c36 ?_
               refine Va (Vl rfl rfl) rfl ?_
               refine Va (Vl (congrArg Yd c36) rfl) rfl ?_
               refine Vd ?_
               obtain rfl := Ye hF
               refine Vx ?_
               exact Xb rfl [] (by decide) ⟨Vr rfl (.vs _ _), Vr rfl (.int _ _), Vr rfl (.bool _), trivial⟩ trivial
              ·have hF := Xg c37 hF
               rcases Yh (decide (((p0).length : Int) ≤ x7.Other)) with c38 | c38
               ·have hF := Xf c38 hF
                refine Va (Vf rfl tf_36_1 ts_3 (by decide)) rfl ?_
                refine Va (Vm rfl (Vk rfl rfl) rfl ta_3 rfl) rfl ?_
                refine Va (Xl rfl rfl) rfl ?_
                refine Va (Vj rfl) rfl ?_
                refine Vt rfl rfl c36 ?_
                refine Va (Vf rfl tf_36_1 ts_3 (by decide)) rfl ?_
                refine Vt rfl rfl c36 ?_
                refine Va (Vm rfl (Vk rfl rfl) rfl ta_3 rfl) rfl ?_
                refine Vt rfl rfl c36 ?_
                refine Va (Xh rfl rfl) rfl ?_
                refine Vt rfl rfl c36 ?_
                refine Va (Vj rfl) rfl ?_
                refine Vt rfl rfl c37 ?_
                refine Va (Vf rfl tf_36_1 ts_3 (by decide)) rfl ?_
                refine Vt rfl rfl c37 ?_
                refine Va (Vm rfl (Vk rfl rfl) rfl ta_3 rfl) rfl ?_
                refine Vt rfl rfl c37 ?_
                refine Va (Vo rfl) rfl ?_
                refine Vt rfl rfl c37 ?_
                refine Va (Xa (Xc rfl rfl te_23) (congrArg (fun n : Nat => Yc .i64 (n : Int)) (Yi _))) rfl ?_
                refine Vt rfl rfl c37 ?_
                refine Va (rd_geq rfl rfl) rfl ?_
                refine Vt rfl rfl c36 ?_
                refine Va (Vp (congrArg Yd c37) rfl) rfl ?_
                refine Vt rfl rfl c36 ?_
                refine Va (Vj rfl) rfl ?_
                refine Vb rfl rfl (Xx c38) rfl ?_
                refine Vb rfl rfl (Xx c38) rfl ?_
                refine Vb rfl rfl (Xx c38) rfl ?_
                refine Vb rfl rfl (Xx c38) rfl ?_
                refine Vt rfl rfl c36 ?_
                refine Va (Vl (congrArg Yd c38) rfl) rfl ?_
                refine Vt rfl rfl c36 ?_
                refine Va (Vj rfl) rfl ?_
                refine Vb rfl rfl (by decide) rfl ?_
                refine Vb rfl rfl (by decide) rfl ?_
                refine Vb rfl rfl (by decide) rfl ?_
                refine Vb rfl rfl (by decide) rfl ?_
                refine Vb rfl rfl (by decide) rfl ?_
                refine Vb rfl rfl (by decide) rfl ?_
                refine Vb rfl rfl (by decide) rfl ?_
                refine Vb rfl rfl (by decide) rfl ?_
                refine Vt rfl rfl c36 ?_
                refine Va (Vl rfl rfl) rfl ?_
                refine Va (Vl (congrArg Yd c36) rfl) rfl ?_
                refine Vd ?_
                obtain rfl := Ye hF
                refine Vx ?_
                exact Xb rfl [] (by decide) ⟨Vr rfl (.vs _ _), Vr rfl (.int _ _), Vr rfl (.bool _), trivial⟩ trivial
               ·have hF := Xg c38 hF
                rcases Yh (decide (x7.Other = s2)) with c39 | c39
                ·have hF := Xf c39 hF
                 refine Va (Vf rfl tf_36_1 ts_3 (by decide)) rfl ?_
                 refine Va (Vm rfl (Vk rfl rfl) rfl ta_3 rfl) rfl ?_
                 refine Va (Xl rfl rfl) rfl ?_
                 refine Va (Vj rfl) rfl ?_
                 refine Vt rfl rfl c36 ?_
                 refine Va (Vf rfl tf_36_1 ts_3 (by decide)) rfl ?_
                 refine Vt rfl rfl c36 ?_
                 refine Va (Vm rfl (Vk rfl rfl) rfl ta_3 rfl) rfl ?_
                 refine Vt rfl rfl c36 ?_
                 refine Va (Xh rfl rfl) rfl ?_
                 refine Vt rfl rfl c36 ?_
                 refine Va (Vj rfl) rfl ?_
                 refine Vt rfl rfl c37 ?_
                 refine Va (Vf rfl tf_36_1 ts_3 (by decide)) rfl ?_
                 refine Vt rfl rfl c37 ?_
                 refine Va (Vm rfl (Vk rfl rfl) rfl ta_3 rfl) rfl ?_
                 refine Vt rfl rfl c37 ?_
                 refine Va (Vo rfl) rfl ?_
                 refine Vt rfl rfl c37 ?_
                 refine Va (Xa (Xc rfl rfl te_23) (congrArg (fun n : Nat => Yc .i64 (n : Int)) (Yi _))) rfl ?_
                 refine Vt rfl rfl c37 ?_
                 refine Va (rd_geq rfl rfl) rfl ?_
                 refine Vt rfl rfl c36 ?_
                 refine Va (Vp (congrArg Yd c37) rfl) rfl ?_
                 refine Vt rfl rfl c36 ?_
                 refine Va (Vj rfl) rfl ?_
                 refine Vt rfl rfl c38 ?_
                 refine Va (Vf rfl tf_36_1 ts_3 (by decide)) rfl ?_
                 refine Vt rfl rfl c38 ?_
                 refine Va (Vm rfl (Vk rfl rfl) rfl ta_3 rfl) rfl ?_
                 refine Vt rfl rfl c38 ?_
                 refine Va (Vh rfl) rfl ?_
                 refine Vt rfl rfl c38 ?_
                 refine Va (Xw rfl rfl) rfl ?_
                 refine Vt rfl rfl c36 ?_
                 refine Va (Vp (congrArg Yd c38) rfl) rfl ?_
                 refine Vt rfl rfl c36 ?_
                 refine Va (Vj rfl) rfl ?_
                 refine Vb rfl rfl (Xx c39) rfl ?_
                 refine Vb rfl rfl (Xx c39) rfl ?_
                 refine Vb rfl rfl (Xx c39) rfl ?_
                 refine Vb rfl rfl (Xx c39) rfl ?_
                 refine Vb rfl rfl (Xx c39) rfl ?_
                 refine Vb rfl rfl (Xx c39) rfl ?_
                 refine Vb rfl rfl (Xx c39) rfl ?_
                 refine Vb rfl rfl (Xx c39) rfl ?_
                 refine Vt rfl rfl c36 ?_
                 refine Va (Vl (congrArg Yd c39) rfl) rfl ?_
                 refine Va (Vl (congrArg Yd c36) rfl) rfl ?_
                 refine Vd ?_
                 obtain rfl := Ye hF
                 refine Vx ?_
                 exact Xb rfl [] (by decide) ⟨Vr rfl (.vs _ _), Vr rfl (.int _ _), Vr rfl (.bool _), trivial⟩ trivial
                ·have hF := Xg c39 hF
                 obtain ⟨x40, h41, hF⟩ := Xn hF
                 refine Va (Vf rfl tf_36_1 ts_3 (by decide)) rfl ?_
                 refine Va (Vm rfl (Vk rfl rfl) rfl ta_3 rfl) rfl ?_
                 refine Va (Xl rfl rfl) rfl ?_
                 refine Va (Vj rfl) rfl ?_
                 refine Vt rfl rfl c36 ?_
                 refine Va (Vf rfl tf_36_1 ts_3 (by decide)) rfl ?_
                 refine Vt rfl rfl c36 ?_
                 refine Va (Vm rfl (Vk rfl rfl) rfl ta_3 rfl) rfl ?_
                 refine Vt rfl rfl c36 ?_
                 refine Va (Xh rfl rfl) rfl ?_
                 refine Vt rfl rfl c36 ?_
                 refine Va (Vj rfl) rfl ?_
                 refine Vt rfl rfl c37 ?_
                 refine Va (Vf rfl tf_36_1 ts_3 (by decide)) rfl ?_
                 refine Vt rfl rfl c37 ?_
                 refine Va (Vm rfl (Vk rfl rfl) rfl ta_3 rfl) rfl ?_
                 refine Vt rfl rfl c37 ?_
                 refine Va (Vo rfl) rfl ?_
                 refine Vt rfl rfl c37 ?_
                 refine Va (Xa (Xc rfl rfl te_23) (congrArg (fun n : Nat => Yc .i64 (n : Int)) (Yi _))) rfl ?_
                 refine Vt rfl rfl c37 ?_
                 refine Va (rd_geq rfl rfl) rfl ?_
                 refine Vt rfl rfl c36 ?_
                 refine Va (Vp (congrArg Yd c37) rfl) rfl ?_
                 refine Vt rfl rfl c36 ?_
                 refine Va (Vj rfl) rfl ?_
                 refine Vt rfl rfl c38 ?_
                 refine Va (Vf rfl tf_36_1 ts_3 (by decide)) rfl ?_
                 refine Vt rfl rfl c38 ?_
                 refine Va (Vm rfl (Vk rfl rfl) rfl ta_3 rfl) rfl ?_
                 refine Vt rfl rfl c38 ?_
                 refine Va (Vh rfl) rfl ?_
                 refine Vt rfl rfl c38 ?_
                 refine Va (Xw rfl rfl) rfl ?_
                 refine Vt rfl rfl c36 ?_
                 refine Va (Vp (congrArg Yd c38) rfl) rfl ?_
                 refine Vt rfl rfl c36 ?_
                 refine Va (Vj rfl) rfl ?_
                 refine Vt rfl rfl c39 ?_
                 refine Va (Vo rfl) rfl ?_
                 refine Vt rfl rfl c39 ?_
                 refine Va (Vf rfl tf_36_1 ts_3 (by decide)) rfl ?_
                 refine Vt rfl rfl c39 ?_
                 refine Va (Vm rfl (Vk rfl rfl) rfl ta_3 rfl) rfl ?_
                 refine Vt rfl rfl c39 ?_
                 refine Va (Xa (Xm rfl rfl h41 te_23 ts_36) (v' := .vptr [.int .i64 x40.Road, .int .i64 x40.Other, .vs 1 (Yb (Yc .i64) x40.Rests)] 0) rfl) rfl ?_
                 refine Vt rfl rfl c39 ?_
                 refine Va (rd_fieldVaddr rfl tf_36_1 ts_3 (by decide)) rfl ?_
                 refine Vt rfl rfl c39 ?_
                 refine Va (Xd rfl ta_3 rfl) rfl ?_
                 refine Vt rfl rfl c39 ?_
                 refine Va (Vh rfl) rfl ?_
                 refine Vt rfl rfl c39 ?_
                 refine Va (Xl rfl rfl) rfl ?_
                 refine Vt rfl rfl c36 ?_
                 refine Va (Vp (congrArg Yd c39) rfl) rfl ?_
                 refine Va (Vl (congrArg Yd c36) rfl) rfl ?_
                 refine Vd ?_
                 obtain rfl := Ye hF
                 refine Vx ?_
                 exact Xb rfl [] (by decide) ⟨Vr rfl (.vs _ _), Vr rfl (.int _ _), Vr rfl (.bool _), trivial⟩ trivial
             ·have hF := Xg c36 hF
              refine Va (Vf rfl tf_36_1 ts_3 (by decide)) rfl ?_
              refine Va (Vm rfl (Vk rfl rfl) rfl ta_3 rfl) rfl ?_
              refine Va (Xl rfl rfl) rfl ?_
              refine Va (Vj rfl) rfl ?_
              refine Vb rfl rfl (neF c36) rfl ?_
              refine Vb rfl rfl (neF c36) rfl ?_
              refine Vb rfl rfl (neF c36) rfl ?_
              refine Vb rfl rfl (neF c36) rfl ?_
              refine Vs rfl rfl rfl ?_
              refine Vs rfl rfl rfl ?_
              refine Vs rfl rfl rfl ?_
              refine Vs rfl rfl rfl ?_
              refine Vs rfl rfl rfl ?_
              refine Vb rfl rfl (neF c36) rfl ?_
              refine Vb rfl rfl (neF c36) rfl ?_
              refine Vs rfl rfl rfl ?_
              refine Vs rfl rfl rfl ?_
              refine Vs rfl rfl rfl ?_
              refine Vs rfl rfl rfl ?_
              refine Vb rfl rfl (neF c36) rfl ?_
              refine Vb rfl rfl (neF c36) rfl ?_
              refine Vs rfl rfl rfl ?_
              refine Vs rfl rfl rfl ?_
              refine Vs rfl rfl rfl ?_
              refine Vs rfl rfl rfl ?_
              refine Vs rfl rfl rfl ?_
              refine Vs rfl rfl rfl ?_
              refine Vs rfl rfl rfl ?_
              refine Vs rfl rfl rfl ?_
              refine Vb rfl rfl (neF c36) rfl ?_
              refine Va (Vp (congrArg Yd c36) rfl) rfl ?_
              refine Vd ?_
              obtain rfl := Ye hF
              refine Vx ?_
              exact Xb rfl [] (by decide) ⟨Vr rfl (.vs _ _), Vr rfl (.int _ _), Vr rfl (.bool _), trivial⟩ trivial
            ·rintro _ _ _ _ ⟨rfl, hw⟩
             refine ⟨_, _, _, hw, ?_⟩
             refine Vu rfl (fun c42 => ?_) (fun c42 => ?_)
             ·have hF := Xf c42 hF
              refine Ve ?_
              refine Vc ?_
              refine Va (Vq rfl) rfl ?_
              refine Vd ?_
              refine Vw ?_
              obtain rfl := Ye hF
              refine Vx ?_
              exact Vg ⟨rfl, trivial⟩
             ·have hF := Xg c42 hF
              refine Vz ?_
              refine Vc ?_
              refine Va (Vh rfl) rfl ?_
              refine Va (rd_add rfl rfl rfl) rfl ?_
              refine Va (Vq rfl) rfl ?_
              refine Vd ?_
              obtain rfl := Ye hF
              refine Vx ?_
              exact Vg ⟨rfl, rfl, trivial⟩
    ·have hF := Xg c6 hF
     refine vwp_exit ?_
     obtain rfl := Ye hF
     refine Vx ?_
     exact Vg trivial
   ·rcases o3 with j4 | j5
    ·replace hF := elimL hF
     rintro _ _ _ _ ⟨rfl, hw⟩
     refine ⟨_, _, _, hw, ?_⟩
     obtain rfl := Ye hF
     refine fnR ?_
     exact Vg ⟨rfl, trivial⟩
    ·replace hF := elimR hF
     rintro _ _ _ _ ⟨rfl, hw⟩
     refine ⟨_, _, _, hw, ?_⟩
     refine Ve ?_
     refine Vc ?_
     refine Va (Vq rfl) rfl ?_
     refine Vd ?_
     refine Vw ?_
     obtain rfl := Ye hF
     refine fnR ?_
     exact Vg ⟨rfl, trivial⟩
 ·rintro _ _ _ _ ⟨he, hw⟩
  refine ⟨_, _, _, hw, ?_⟩
  exact Xj he [.int .i64 r] ⟨rfl, trivial⟩ (.int _ _) ⟨rfl, rfl⟩

theorem F_ref08_set_ok {p0 : List T_Door} {p1 : List Int} {p2 : Int} {p3 : Int} {p4 : Bool} {r : List Int × Int} (hF : F_ref08_set p0 p1 p2 p3 p4 = some r) (low : List AObj) :
    Xv Try.prog 31 [.vs 3 (Yb T_Door.enc p0), .vs 1 (Yb (Yc .i64) p1), .int .i64 p2, .int .i64 p3, .bool p4] low fun x low' => x = .tup [.vs 1 (Yb (Yc .i64) r.1), .int .i64 r.2] ∧ low' = low := by
 refine Vy (nt := 80) (rs := [.tmp 10, .tmp 11]) Try.func31 rfl rfl (Yf rfl) rfl ?_
 refine Vn (Q' := FnE (fun E' lw lc => Xi E' lw lc [(10, .vs 1 (Yb (Yc .i64) r.1)), (11, .int .i64 r.2)] low [])) ?_ ?_
 ·unfold F_ref08_set at hF
  refine Ve ?_
  refine Vc ?_
  refine Va (rd_nv (sz := 1) (rd_asN rfl)) rfl ?_
  refine Va (Vq rfl) rfl ?_
  refine Vd ?_
  refine Ve ?_
  refine Ve ?_
  refine Vc ?_
  obtain ⟨x1, h2, hF⟩ := Xn hF
  refine Va (Vo rfl) rfl ?_
  refine Vi (Vv rfl Try.call11 (F_ref08_Check_ok h2 _)) rfl ?_
  refine Va (Vq rfl) rfl ?_
  refine Vd ?_
  refine Ve ?_
  refine Vc ?_
  refine Va (Vh rfl) rfl ?_
  refine Va (Xl rfl rfl) rfl ?_
  refine Vd ?_
  refine Vu rfl (fun c3 => ?_) (fun c3 => ?_)
  ·have hF := Xf c3 hF
   refine Ve ?_
   refine Vc ?_
   refine Va (Vh rfl) rfl ?_
   refine Va (rd_nv (sz := 1) (rd_asN rfl)) rfl ?_
   refine Va (Vq rfl) rfl ?_
   refine Vd ?_
   refine Vw ?_
   obtain rfl := Ye hF
   refine fnR ?_
   exact Vg ⟨rfl, rfl, trivial⟩
  ·have hF := Xg c3 hF
   refine Vz ?_
   refine Ve ?_
   refine Ve ?_
   refine Vc ?_
   refine Va (Vo rfl) rfl ?_
   refine Va (Xa (Xc rfl rfl te_25) (congrArg (fun n : Nat => Yc .i64 (n : Int)) (Yi _))) rfl ?_
   refine Va (Vo rfl) rfl ?_
   refine Va (Xa (Xc rfl rfl te_23) (congrArg (fun n : Nat => Yc .i64 (n : Int)) (Yi _))) rfl ?_
   refine Va (Xl rfl rfl) rfl ?_
   refine Vd ?_
   refine Vu rfl (fun c4 => ?_) (fun c4 => ?_)
   ·have hF := Xf c4 hF
    refine Ve ?_
    refine Vc ?_
    refine Va (rd_nv (sz := 1) (rd_asN rfl)) rfl ?_
    refine Va (Vq rfl) rfl ?_
    refine Vd ?_
    refine Vw ?_
    obtain rfl := Ye hF
    refine fnR ?_
    exact Vg ⟨rfl, rfl, trivial⟩
   ·have hF := Xg c4 hF
    refine Vz ?_
    refine Ve ?_
    refine Ve ?_
    obtain ⟨o5, ho5, hF⟩ := Xn hF
    refine Vn (Q' := (fun o5 => OnlyE .normal (fun E' lw lc => Xi E' lw lc [(0, .vs 3 (Yb T_Door.enc p0)), (1, .vs 1 (Yb (Yc .i64) p1)), (2, .int .i64 p2), (3, .int .i64 p3), (4, .bool p4), (32, .bool o5)] low [])) o5) ?_ ?_
    ·replace hF := ho5
     refine Vc ?_
     rcases Yh (decide (p2 < 0)) with c6 | c6
     ·have hF := Xf c6 hF
      refine Va (Vh rfl) rfl ?_
      refine Va (Xh rfl rfl) rfl ?_
      refine Va (Vj rfl) rfl ?_
      refine Vb rfl rfl (Xx c6) rfl ?_
      refine Vb rfl rfl (Xx c6) rfl ?_
      refine Vb rfl rfl (Xx c6) rfl ?_
      refine Vb rfl rfl (Xx c6) rfl ?_
      refine Va (Vl (congrArg Yd c6) rfl) rfl ?_
      refine Vd ?_
      obtain rfl := Ye hF
      refine Vx ?_
      exact Vg ⟨rfl, rfl, rfl, rfl, rfl, rfl, trivial⟩
     ·have hF := Xg c6 hF
      refine Va (Vh rfl) rfl ?_
      refine Va (Xh rfl rfl) rfl ?_
      refine Va (Vj rfl) rfl ?_
      refine Vt rfl rfl c6 ?_
      refine Va (Vh rfl) rfl ?_
      refine Vt rfl rfl c6 ?_
      refine Va (Vo rfl) rfl ?_
      refine Vt rfl rfl c6 ?_
      refine Va (Xa (Xc rfl rfl te_23) (congrArg (fun n : Nat => Yc .i64 (n : Int)) (Yi _))) rfl ?_
      refine Vt rfl rfl c6 ?_
      refine Va (rd_geq rfl rfl) rfl ?_
      refine Va (Vp (congrArg Yd c6) rfl) rfl ?_
      refine Vd ?_
      obtain rfl := Ye hF
      refine Vx ?_
      exact Vg ⟨rfl, rfl, rfl, rfl, rfl, rfl, trivial⟩
    ·rintro _ _ _ _ ⟨rfl, hw⟩
     refine ⟨_, _, _, hw, ?_⟩
     refine Vu rfl (fun c7 => ?_) (fun c7 => ?_)
     ·have hF := Xf c7 hF
      refine Ve ?_
      refine Vc ?_
      refine Va (rd_nv (sz := 1) (rd_asN rfl)) rfl ?_
      refine Va (Vq rfl) rfl ?_
      refine Vd ?_
      refine Vw ?_
      obtain rfl := Ye hF
      refine fnR ?_
      exact Vg ⟨rfl, rfl, trivial⟩
     ·have hF := Xg c7 hF
      refine Vz ?_
      refine Ve ?_
      refine Ve ?_
      obtain ⟨o8, ho8, hF⟩ := Xn hF
      refine Vn (Q' := (fun o8 => OnlyE .normal (fun E' lw lc => Xi E' lw lc [(0, .vs 3 (Yb T_Door.enc p0)), (1, .vs 1 (Yb (Yc .i64) p1)), (2, .int .i64 p2), (3, .int .i64 p3), (4, .bool p4), (51, .bool o8)] low [])) o8) ?_ ?_
      ·replace hF := ho8
       refine Vc ?_
       rcases Yh (decide (p3 < 0)) with c9 | c9
       ·have hF := Xf c9 hF
        rcases Yh p4 with c10 | c10
        ·have hF := Xf c10 hF
         refine Va (Vh rfl) rfl ?_
         refine Va (Xh rfl rfl) rfl ?_
         refine Va (Vj rfl) rfl ?_
         refine Vt rfl rfl c9 ?_
         refine Va (Vj rfl) rfl ?_
         refine Vt rfl rfl c9 ?_
         refine Va (Vj rfl) rfl ?_
         refine Vb rfl rfl (Xx c10) rfl ?_
         refine Vb rfl rfl (Xx c10) rfl ?_
         refine Vt rfl rfl c9 ?_
         refine Va (Vl (congrArg Yd c10) rfl) rfl ?_
         refine Va (Vl (congrArg Yd c9) rfl) rfl ?_
         refine Va (Vj rfl) rfl ?_
         refine Vb rfl rfl (by decide) rfl ?_
         refine Vb rfl rfl (by decide) rfl ?_
         refine Vb rfl rfl (by decide) rfl ?_
         refine Vb rfl rfl (by decide) rfl ?_
         refine Vb rfl rfl (by decide) rfl ?_
         refine Vb rfl rfl (by decide) rfl ?_
         refine Vb rfl rfl (by decide) rfl ?_
         refine Vb rfl rfl (by decide) rfl ?_
         refine Va (Vl rfl rfl) rfl ?_
         refine Vd ?_
         obtain rfl := Ye hF
         refine Vx ?_
         exact Vg ⟨rfl, rfl, rfl, rfl, rfl, rfl, trivial⟩
        ·have hF := Xg c10 hF
         rcases Yh (decide (p3 ≠ (-1))) with c11 | c11
         ·have hF := Xf c11 hF
          refine Va (Vh rfl) rfl ?_
          refine Va (Xh rfl rfl) rfl ?_
          refine Va (Vj rfl) rfl ?_
          refine Vt rfl rfl c9 ?_
          refine Va (Vj rfl) rfl ?_
          refine Vt rfl rfl c9 ?_
          refine Va (Vj rfl) rfl ?_
          refine Vt rfl rfl c10 ?_
          refine Va (Vh rfl) rfl ?_
          refine Vt rfl rfl c10 ?_
          refine Va (Xl rfl rfl) rfl ?_
          refine Vt rfl rfl c9 ?_
          refine Va (Vp (congrArg Yd c10) rfl) rfl ?_
          refine Va (Vl (congrArg Yd c9) rfl) rfl ?_
          refine Va (Vj rfl) rfl ?_
          refine Vb rfl rfl (Xx c11) rfl ?_
          refine Vb rfl rfl (Xx c11) rfl ?_
          refine Vb rfl rfl (Xx c11) rfl ?_
          refine Vb rfl rfl (Xx c11) rfl ?_
          refine Vb rfl rfl (Xx c11) rfl ?_
          refine Vb rfl rfl (Xx c11) rfl ?_
          refine Vb rfl rfl (Xx c11) rfl ?_
          refine Vb rfl rfl (Xx c11) rfl ?_
          refine Va (Vl (congrArg Yd c11) rfl) rfl ?_
          refine Vd ?_
          obtain rfl := Ye hF
          refine Vx ?_
          exact Vg ⟨rfl, rfl, rfl, rfl, rfl, rfl, trivial⟩
         ·have hF := Xg c11 hF
          obtain ⟨x12, h13, hF⟩ := Xn hF
          refine Va (Vh rfl) rfl ?_
          refine Va (Xh rfl rfl) rfl ?_
          refine Va (Vj rfl) rfl ?_
          refine Vt rfl rfl c9 ?_
          refine Va (Vj rfl) rfl ?_
          refine Vt rfl rfl c9 ?_
          refine Va (Vj rfl) rfl ?_
          refine Vt rfl rfl c10 ?_
          refine Va (Vh rfl) rfl ?_
          refine Vt rfl rfl c10 ?_
          refine Va (Xl rfl rfl) rfl ?_
          refine Vt rfl rfl c9 ?_
          refine Va (Vp (congrArg Yd c10) rfl) rfl ?_
          refine Va (Vl (congrArg Yd c9) rfl) rfl ?_
          refine Va (Vj rfl) rfl ?_
          refine Vt rfl rfl c11 ?_
          refine Va (Vh rfl) rfl ?_
          refine Vt rfl rfl c11 ?_
          refine Va (Vo rfl) rfl ?_
          refine Vt rfl rfl c11 ?_
          refine Va (Vh rfl) rfl ?_
          refine Vt rfl rfl c11 ?_
          refine Va (Xa (Xm rfl rfl h13 te_23 ts_36) (v' := .vptr [.int .i64 x12.Road, .int .i64 x12.Other, .vs 1 (Yb (Yc .i64) x12.Rests)] 0) rfl) rfl ?_
          refine Vt rfl rfl c11 ?_
          refine Va (rd_fieldVaddr rfl tf_36_2 ts_25 (by decide)) rfl ?_
          refine Vt rfl rfl c11 ?_
          refine Va (Xd rfl ta_25 rfl) rfl ?_
          refine Vt rfl rfl c11 ?_
          refine Va (Xa (Xc rfl rfl te_25) (congrArg (fun n : Nat => Yc .i64 (n : Int)) (Yi _))) rfl ?_
          refine Vt rfl rfl c11 ?_
          refine Va (rd_geq rfl rfl) rfl ?_
          refine Va (Vp (congrArg Yd c11) rfl) rfl ?_
          refine Vd ?_
          obtain rfl := Ye hF
          refine Vx ?_
          exact Vg ⟨rfl, rfl, rfl, rfl, rfl, rfl, trivial⟩
       ·have hF := Xg c9 hF
        obtain ⟨x14, h15, hF⟩ := Xn hF
        refine Va (Vh rfl) rfl ?_
        refine Va (Xh rfl rfl) rfl ?_
        refine Va (Vj rfl) rfl ?_
        refine Vb rfl rfl (neF c9) rfl ?_
        refine Vb rfl rfl (neF c9) rfl ?_
        refine Vs rfl rfl rfl ?_
        refine Vs rfl rfl rfl ?_
        refine Vb rfl rfl (neF c9) rfl ?_
        refine Va (Vp (congrArg Yd c9) rfl) rfl ?_
        refine Va (Vj rfl) rfl ?_
        refine vops_take rfl rfl ?_
        refine Va (Vh rfl) rfl ?_
        refine vops_take rfl rfl ?_
        refine Va (Vo rfl) rfl ?_
        refine vops_take rfl rfl ?_
        refine Va (Vh rfl) rfl ?_
        refine vops_take rfl rfl ?_
        refine Va (Xa (Xm rfl rfl h15 te_23 ts_36) (v' := .vptr [.int .i64 x14.Road, .int .i64 x14.Other, .vs 1 (Yb (Yc .i64) x14.Rests)] 0) rfl) rfl ?_
        refine vops_take rfl rfl ?_
        refine Va (rd_fieldVaddr rfl tf_36_2 ts_25 (by decide)) rfl ?_
        refine vops_take rfl rfl ?_
        refine Va (Xd rfl ta_25 rfl) rfl ?_
        refine vops_take rfl rfl ?_
        refine Va (Xa (Xc rfl rfl te_25) (congrArg (fun n : Nat => Yc .i64 (n : Int)) (Yi _))) rfl ?_
        refine vops_take rfl rfl ?_
        refine Va (rd_geq rfl rfl) rfl ?_
        refine Va (Vp rfl rfl) rfl ?_
        refine Vd ?_
        obtain rfl := Ye hF
        refine Vx ?_
        exact Vg ⟨rfl, rfl, rfl, rfl, rfl, rfl, trivial⟩
      ·rintro _ _ _ _ ⟨rfl, hw⟩
       refine ⟨_, _, _, hw, ?_⟩
       refine Vu rfl (fun c16 => ?_) (fun c16 => ?_)
       ·have hF := Xf c16 hF
        refine Ve ?_
        refine Vc ?_
        refine Va (rd_nv (sz := 1) (rd_asN rfl)) rfl ?_
        refine Va (Vq rfl) rfl ?_
        refine Vd ?_
        refine Vw ?_
        obtain rfl := Ye hF
        refine fnR ?_
        exact Vg ⟨rfl, rfl, trivial⟩
       ·have hF := Xg c16 hF
        refine Vz ?_
        refine Ve ?_
        refine Ve ?_
        refine Vc ?_
        obtain ⟨x17, h18, hF⟩ := Xn hF
        refine Va (Vo rfl) rfl ?_
        refine Va (Vh rfl) rfl ?_
        refine Va (Xa (Xm rfl rfl h18 te_23 ts_36) (v' := .vptr [.int .i64 x17.Road, .int .i64 x17.Other, .vs 1 (Yb (Yc .i64) x17.Rests)] 0) rfl) rfl ?_
        refine Va (rd_fieldVaddr rfl tf_36_1 ts_3 (by decide)) rfl ?_
        refine Va (Xd rfl ta_3 rfl) rfl ?_
        refine Va (Vq rfl) rfl ?_
        refine Vd ?_
        refine Ve ?_
        obtain ⟨o19, ho19, hF⟩ := Xn hF
        refine Vn (Q' := (fun o19 => OnlyE .normal (fun E' lw lc => Xi E' lw lc [(1, .vs 1 (Yb (Yc .i64) p1)), (2, .int .i64 p2), (3, .int .i64 p3), (72, .bool o19)] low [])) o19) ?_ ?_
        ·replace hF := ho19
         refine Vc ?_
         rcases Yh p4 with c20 | c20
         ·have hF := Xf c20 hF
          rcases Yh (decide (p3 ≠ 0)) with c21 | c21
          ·have hF := Xf c21 hF
           rcases Yh (decide (0 ≤ x17.Other)) with c22 | c22
           ·have hF := Xf c22 hF
            obtain ⟨x23, h24, hF⟩ := Xn hF
            refine Va (Vj rfl) rfl ?_
            refine Va (Vj rfl) rfl ?_
            refine Vt rfl rfl c20 ?_
            refine Va (Vh rfl) rfl ?_
            refine Vt rfl rfl c20 ?_
            refine Va (Xl rfl rfl) rfl ?_
            refine Va (Vl (congrArg Yd c20) rfl) rfl ?_
            refine Va (Vj rfl) rfl ?_
            refine Vt rfl rfl c21 ?_
            refine Va (Vh rfl) rfl ?_
            refine Vt rfl rfl c21 ?_
            refine Va (rd_geq rfl rfl) rfl ?_
            refine Va (Vl (congrArg Yd c21) rfl) rfl ?_
            refine Va (Vj rfl) rfl ?_
            refine Vt rfl rfl c22 ?_
            refine Va (Vo rfl) rfl ?_
            refine Vt rfl rfl c22 ?_
            refine Va (Vh rfl) rfl ?_
            refine Vt rfl rfl c22 ?_
            refine Va (Xa (Xm rfl rfl h24 te_25 ts_3) (v' := .vptr [.int .i64 x23] 0) rfl) rfl ?_
            refine Vt rfl rfl c22 ?_
            refine Va (Xd rfl ta_3 rfl) rfl ?_
            refine Vt rfl rfl c22 ?_
            refine Va (Xl rfl rfl) rfl ?_
            refine Va (Vl (congrArg Yd c22) rfl) rfl ?_
            refine Vd ?_
            obtain rfl := Ye hF
            refine Vx ?_
            exact Vg ⟨rfl, rfl, rfl, rfl, trivial⟩
           ·have hF := Xg c22 hF
            refine Va (Vj rfl) rfl ?_
            refine Va (Vj rfl) rfl ?_
            refine Vt rfl rfl c20 ?_
            refine Va (Vh rfl) rfl ?_
            refine Vt rfl rfl c20 ?_
            refine Va (Xl rfl rfl) rfl ?_
            refine Va (Vl (congrArg Yd c20) rfl) rfl ?_
            refine Va (Vj rfl) rfl ?_
            refine Vt rfl rfl c21 ?_
            refine Va (Vh rfl) rfl ?_
            refine Vt rfl rfl c21 ?_
            refine Va (rd_geq rfl rfl) rfl ?_
            refine Va (Vl (congrArg Yd c21) rfl) rfl ?_
            refine Va (Vj rfl) rfl ?_
            refine Vb rfl rfl (neF c22) rfl ?_
            refine Vb rfl rfl (neF c22) rfl ?_
            refine Vb rfl rfl (neF c22) rfl ?_
            refine Vb rfl rfl (neF c22) rfl ?_
            refine Vb rfl rfl (neF c22) rfl ?_
            refine Va (Vp (congrArg Yd c22) rfl) rfl ?_
            refine Vd ?_
            obtain rfl := Ye hF
            refine Vx ?_
            exact Vg ⟨rfl, rfl, rfl, rfl, trivial⟩
          ·have hF := Xg c21 hF
           refine Va (Vj rfl) rfl ?_
           refine Va (Vj rfl) rfl ?_
           refine Vt rfl rfl c20 ?_
           refine Va (Vh rfl) rfl ?_
           refine Vt rfl rfl c20 ?_
           refine Va (Xl rfl rfl) rfl ?_
           refine Va (Vl (congrArg Yd c20) rfl) rfl ?_
           refine Va (Vj rfl) rfl ?_
           refine Vb rfl rfl (neF c21) rfl ?_
           refine Vb rfl rfl (neF c21) rfl ?_
           refine Va (Vp (congrArg Yd c21) rfl) rfl ?_
           refine Va (Vj rfl) rfl ?_
           refine Vb rfl rfl (by decide) rfl ?_
           refine Vb rfl rfl (by decide) rfl ?_
           refine Vb rfl rfl (by decide) rfl ?_
           refine Vb rfl rfl (by decide) rfl ?_
           refine Vb rfl rfl (by decide) rfl ?_
           refine Va (Vp rfl rfl) rfl ?_
           refine Vd ?_
           obtain rfl := Ye hF
           refine Vx ?_
           exact Vg ⟨rfl, rfl, rfl, rfl, trivial⟩
         ·have hF := Xg c20 hF
          refine Va (Vj rfl) rfl ?_
          refine Va (Vj rfl) rfl ?_
          refine Vb rfl rfl (neF c20) rfl ?_
          refine Vb rfl rfl (neF c20) rfl ?_
          refine Va (Vp (congrArg Yd c20) rfl) rfl ?_
          refine Va (Vj rfl) rfl ?_
          refine Vb rfl rfl (by decide) rfl ?_
          refine Vb rfl rfl (by decide) rfl ?_
          refine Va (Vp rfl rfl) rfl ?_
          refine Va (Vj rfl) rfl ?_
          refine Vb rfl rfl (by decide) rfl ?_
          refine Vb rfl rfl (by decide) rfl ?_
          refine Vb rfl rfl (by decide) rfl ?_
          refine Vb rfl rfl (by decide) rfl ?_
          refine Vb rfl rfl (by decide) rfl ?_
          refine Va (Vp rfl rfl) rfl ?_
          refine Vd ?_
          obtain rfl := Ye hF
          refine Vx ?_
          exact Vg ⟨rfl, rfl, rfl, rfl, trivial⟩
        ·rintro _ _ _ _ ⟨rfl, hw⟩
         refine ⟨_, _, _, hw, ?_⟩
         refine Vu rfl (fun c25 => ?_) (fun c25 => ?_)
         ·have hF := Xf c25 hF
          refine Ve ?_
          refine Vc ?_
          refine Va (rd_nv (sz := 1) (rd_asN rfl)) rfl ?_
          refine Va (Vq rfl) rfl ?_
          refine Vd ?_
          refine Vw ?_
          obtain rfl := Ye hF
          refine fnR ?_
          exact Vg ⟨rfl, rfl, trivial⟩
         ·have hF := Xg c25 hF
          refine Vz ?_
          refine Ve ?_
          refine Vc ?_
          obtain ⟨x26, h27, hF⟩ := Xn hF
          refine Va (Vo rfl) rfl ?_
          refine Vi (vef_ap0N (f := (Yc .i64)) (ys := p1) rfl rfl (.inl rfl) rfl (src_vs rfl) (Yg _) te_25 ts_3 tb_3 (by decide) tz_3 rfl h27) rfl ?_
          refine Va (rd_asL rfl) rfl ?_
          refine Vd ?_
          refine Ve ?_
          refine Vc ?_
          obtain ⟨x28, h29, hF⟩ := Xn hF
          refine Va (rd_mvL rfl) rfl ?_
          refine Va (Vh rfl) rfl ?_
          refine Va (Vh rfl) rfl ?_
          refine Va (rd_ixS rfl rfl rfl (Vk rfl rfl) h29 te_25 ts_3) rfl ?_
          refine Vi (vef_stL (p := .int .i64 p3) (e' := p3) rfl (Vk rfl rfl) (Xt h29).2 rfl ts_3 rfl (nt_ne rfl) (Yf rfl) rfl (Xz rfl rfl)) rfl ?_
          refine Vd ?_
          refine Ve ?_
          refine Vc ?_
          refine Va (rd_mvL rfl) rfl ?_
          refine Va (rd_asL rfl) rfl ?_
          refine Va (Vq rfl) rfl ?_
          refine Vd ?_
          refine Vw ?_
          obtain rfl := Ye hF
          refine fnR ?_
          refine Weak.trans (weak_freezeN (E' := [(10, .vs 1 (Yb (Yc .i64) (x26.set ((p2).toNat) p3))), (11, .int .i64 0)]) (loc1 := [⟨3, 1, [], 0 + 1⟩]) rfl 0 rfl (lt_map (fun _ => .int _ _)) ⟨cv_sl rfl rfl rfl (full_take (Eq.trans rfl List.length_set.symm)), cv_same rfl, trivial⟩ ⟨.refl _, trivial⟩) ?_
          exact Xb rfl [] (by decide) ⟨Vr rfl (.vs _ _), Vr rfl (.int _ _), trivial⟩ trivial
 ·rintro _ _ _ _ ⟨he, hw⟩
  refine ⟨_, _, _, hw, ?_⟩
  exact Xj he [.vs 1 (Yb (Yc .i64) r.1), .int .i64 r.2] ⟨rfl, rfl, trivial⟩ ((lt_tup ⟨.vs _ _, .int _ _, trivial⟩)) ⟨rfl, rfl⟩

theorem F_ref08_Command_ok {p0 : List T_Door} {p1 : List Int} {p2 : Int} {p3 : Int} {r : List Int × Int} (hF : F_ref08_Command p0 p1 p2 p3 = some r) (low : List AObj) :
    Xv Try.prog 19 [.vs 3 (Yb T_Door.enc p0), .vs 1 (Yb (Yc .i64) p1), .int .i64 p2, .int .i64 p3] low fun x low' => x = .tup [.vs 1 (Yb (Yc .i64) r.1), .int .i64 r.2] ∧ low' = low := by
 refine Vy (nt := 17) (rs := [.tmp 8, .tmp 9]) Try.func19 rfl rfl (Yf rfl) rfl ?_
 refine Vn (Q' := FnE (fun E' lw lc => Xi E' lw lc [(8, .vs 1 (Yb (Yc .i64) r.1)), (9, .int .i64 r.2)] low [])) ?_ ?_
 ·unfold F_ref08_Command at hF
  refine Ve ?_
  refine Vc ?_
  refine Va (rd_nv (sz := 1) (rd_asN rfl)) rfl ?_
  refine Va (Vq rfl) rfl ?_
  refine Vd ?_
  refine Ve ?_
  refine Vc ?_
  obtain ⟨x1, h2, hF⟩ := Xn hF
  refine Va (Vo rfl) rfl ?_
  refine Va (Vo rfl) rfl ?_
  refine Va (Vh rfl) rfl ?_
  refine Va (Vh rfl) rfl ?_
  refine Vi (Vv rfl Try.call31 (F_ref08_set_ok h2 _)) rfl ?_
  refine Va (Xk rfl rfl) rfl ?_
  refine Va (Xk rfl rfl) rfl ?_
  refine Va (rd_asV rfl) rfl ?_
  refine Va (Vq rfl) rfl ?_
  refine Vd ?_
  refine Vw ?_
  obtain rfl := Ye hF
  refine fnR ?_
  exact Vg ⟨rfl, rfl, trivial⟩
 ·rintro _ _ _ _ ⟨he, hw⟩
  refine ⟨_, _, _, hw, ?_⟩
  exact Xj he [.vs 1 (Yb (Yc .i64) r.1), .int .i64 r.2] ⟨rfl, rfl, trivial⟩ ((lt_tup ⟨.vs _ _, .int _ _, trivial⟩)) ⟨rfl, rfl⟩

theorem F_door_Seen_ok {p0 : List T_Door} {p1 : List Int} {p2 : Int} {p3 : Int} {r : List Int × Int} (hF : F_door_Seen p0 p1 p2 p3 = some r) (low : List AObj) :
    Xv Try.prog 20 [.vs 3 (Yb T_Door.enc p0), .vs 1 (Yb (Yc .i64) p1), .int .i64 p2, .int .i64 p3] low fun x low' => x = .tup [.vs 1 (Yb (Yc .i64) r.1), .int .i64 r.2] ∧ low' = low := by
 refine Vy (nt := 23) (rs := [.tmp 8, .tmp 9]) Try.func20 rfl rfl (Yf rfl) rfl ?_
 refine Vn (Q' := FnE (fun E' lw lc => Xi E' lw lc [(8, .vs 1 (Yb (Yc .i64) r.1)), (9, .int .i64 r.2)] low [])) ?_ ?_
 ·unfold F_door_Seen at hF
  refine Ve ?_
  refine Vc ?_
  refine Va (rd_nv (sz := 1) (rd_asN rfl)) rfl ?_
  refine Va (Vq rfl) rfl ?_
  refine Vd ?_
  refine Ve ?_
  refine Ve ?_
  refine Vc ?_
  obtain ⟨x1, h2, hF⟩ := Xn hF
  refine Va (Vo rfl) rfl ?_
  refine Va (Vo rfl) rfl ?_
  refine Va (Vh rfl) rfl ?_
  refine Va (Vh rfl) rfl ?_
  refine Vi (Vv rfl Try.call29 (F_door_change_ok h2 _)) rfl ?_
  refine Va (Vq rfl) rfl ?_
  refine Vd ?_
  refine Ve ?_
  refine Vc ?_
  refine Va (Vh rfl) rfl ?_
  refine Va (Xl rfl rfl) rfl ?_
  refine Vd ?_
  refine Vu rfl (fun c3 => ?_) (fun c3 => ?_)
  ·have hF := Xf c3 hF
   refine Ve ?_
   refine Vc ?_
   refine Va (Vh rfl) rfl ?_
   refine Va (rd_nv (sz := 1) (rd_asN rfl)) rfl ?_
   refine Va (Vq rfl) rfl ?_
   refine Vd ?_
   refine Vw ?_
   obtain rfl := Ye hF
   refine fnR ?_
   exact Vg ⟨rfl, rfl, trivial⟩
  ·have hF := Xg c3 hF
   refine Vz ?_
   refine Ve ?_
   refine Vc ?_
   obtain ⟨x4, h5, hF⟩ := Xn hF
   refine Va (Vo rfl) rfl ?_
   refine Va (Vh rfl) rfl ?_
   refine Va (Vh rfl) rfl ?_
   refine Vi (Vv rfl Try.call30 (F_door_with_ok h5 _)) rfl ?_
   refine Va (rd_asV rfl) rfl ?_
   refine Va (Vq rfl) rfl ?_
   refine Vd ?_
   refine Vw ?_
   obtain rfl := Ye hF
   refine fnR ?_
   exact Vg ⟨rfl, rfl, trivial⟩
 ·rintro _ _ _ _ ⟨he, hw⟩
  refine ⟨_, _, _, hw, ?_⟩
  exact Xj he [.vs 1 (Yb (Yc .i64) r.1), .int .i64 r.2] ⟨rfl, rfl, trivial⟩ ((lt_tup ⟨.vs _ _, .int _ _, trivial⟩)) ⟨rfl, rfl⟩

theorem F_ref08_Seen_ok {p0 : List T_Door} {p1 : List Int} {p2 : Int} {p3 : Int} {r : List Int × Int} (hF : F_ref08_Seen p0 p1 p2 p3 = some r) (low : List AObj) :
    Xv Try.prog 21 [.vs 3 (Yb T_Door.enc p0), .vs 1 (Yb (Yc .i64) p1), .int .i64 p2, .int .i64 p3] low fun x low' => x = .tup [.vs 1 (Yb (Yc .i64) r.1), .int .i64 r.2] ∧ low' = low := by
 refine Vy (nt := 17) (rs := [.tmp 8, .tmp 9]) Try.func21 rfl rfl (Yf rfl) rfl ?_
 refine Vn (Q' := FnE (fun E' lw lc => Xi E' lw lc [(8, .vs 1 (Yb (Yc .i64) r.1)), (9, .int .i64 r.2)] low [])) ?_ ?_
 ·unfold F_ref08_Seen at hF
  refine Ve ?_
  refine Vc ?_
  refine Va (rd_nv (sz := 1) (rd_asN rfl)) rfl ?_
  refine Va (Vq rfl) rfl ?_
  refine Vd ?_
  refine Ve ?_
  refine Vc ?_
  obtain ⟨x1, h2, hF⟩ := Xn hF
  refine Va (Vo rfl) rfl ?_
  refine Va (Vo rfl) rfl ?_
  refine Va (Vh rfl) rfl ?_
  refine Va (Vh rfl) rfl ?_
  refine Vi (Vv rfl Try.call31 (F_ref08_set_ok h2 _)) rfl ?_
  refine Va (Xk rfl rfl) rfl ?_
  refine Va (Xk rfl rfl) rfl ?_
  refine Va (rd_asV rfl) rfl ?_
  refine Va (Vq rfl) rfl ?_
  refine Vd ?_
  refine Vw ?_
  obtain rfl := Ye hF
  refine fnR ?_
  exact Vg ⟨rfl, rfl, trivial⟩
 ·rintro _ _ _ _ ⟨he, hw⟩
  refine ⟨_, _, _, hw, ?_⟩
  exact Xj he [.vs 1 (Yb (Yc .i64) r.1), .int .i64 r.2] ⟨rfl, rfl, trivial⟩ ((lt_tup ⟨.vs _ _, .int _ _, trivial⟩)) ⟨rfl, rfl⟩

theorem F_law08_DoorCommands_ok {p0 : List Int} {p1 : List Int} {p2 : Int} {p3 : Int} {p4 : Int} {p5 : Int} {r : Bool} (hF : F_law08_DoorCommands p0 p1 p2 p3 p4 p5 = some r) (low : List AObj) :
    Xv Try.prog 7 [.vs 1 (Yb (Yc .u8) p0), .vs 1 (Yb (Yc .i64) p1), .int .i64 p2, .int .i64 p3, .int .i64 p4, .int .i64 p5] low fun x low' => x = .bool r ∧ low' = low := by
 refine Vy (nt := 134) (rs := [.tmp 12]) Try.func7 rfl rfl (Yf rfl) rfl ?_
 refine Vn (Q' := FnE (fun E' lw lc => Xi E' lw lc [(12, .bool r)] low [])) ?_ ?_
 ·unfold F_law08_DoorCommands at hF
  refine Ve ?_
  refine Vc ?_
  refine Va (Xo rfl) rfl ?_
  refine Vd ?_
  refine Ve ?_
  refine Vc ?_
  obtain ⟨x1, h2, hF⟩ := Xn hF
  refine Va (Vo rfl) rfl ?_
  refine Va (Vh rfl) rfl ?_
  refine Va (Vh rfl) rfl ?_
  refine Vi (Vv rfl Try.call9 (F_law08_doors_ok h2 _)) rfl ?_
  refine Va (rd_mvT rfl) rfl ?_
  refine Va (Xk rfl rfl) rfl ?_
  refine Va (Xk rfl rfl) rfl ?_
  refine Va (rd_asV rfl) rfl ?_
  refine Va (rd_asV rfl) rfl ?_
  refine Vd ?_
  refine Ve ?_
  refine Vc ?_
  obtain ⟨x3, h4, hF⟩ := Xn hF
  obtain ⟨x5, h6, hF⟩ := Xn hF
  refine Va (Vh rfl) rfl ?_
  refine Va (Vo rfl) rfl ?_
  refine Va (Xa (Xc rfl rfl te_23) (congrArg (fun n : Nat => Yc .i64 (n : Int)) (Yi _))) rfl ?_
  refine Va (rd_add rfl rfl rfl) rfl ?_
  refine Vi (Vv rfl Try.call12 (F_draw_Mod_ok h4 _)) rfl ?_
  refine Va (Vh rfl) rfl ?_
  refine Vi (Vv rfl Try.call12 (F_draw_Mod_ok h6 _)) rfl ?_
  refine Va (rd_sub rfl rfl rfl) rfl ?_
  refine Va (Vq rfl) rfl ?_
  refine Va (Vq rfl) rfl ?_
  refine Vd ?_
  refine Ve ?_
  refine Ve ?_
  refine Vc ?_
  refine Va (Vo rfl) rfl ?_
  refine Va (Vo rfl) rfl ?_
  refine Vi (vef_litF (es := Yb (encS 1 (Yc .i64)) [x1.2, p1]) ⟨rfl, rfl, rfl, rfl, trivial⟩ rfl rfl (nt_all rfl) te_47 ts_25 tz_25 rfl rfl (Yg _) (by decide) (lt_map (fun _ => .vs _ _))) rfl ?_
  refine Va (Xa (Xc rfl rfl te_47) (congrArg (fun n : Nat => Yc .i64 (n : Int)) (Yi _))) rfl ?_
  refine Va (Vh rfl) rfl ?_
  refine Vd ?_
  refine Xe ?_
  obtain ⟨o8, ho8, hF⟩ := Xn hF
  refine Vn (vwp_loopC (F_law08_DoorCommands_L1 p1 x1 x3 x5) (fun s7 E' lw lc => Xi E' lw lc [(4, .int .i64 p4), (5, .int .i64 p5), (13, .vs 3 (Yb T_Door.enc x1.1)), (14, .vs 1 (Yb (Yc .i64) x1.2)), (15, .int .i64 x3), (16, .int .i64 (IntKind.i64.wrap (x5 - 2))), (48, .vs 1 (Yb (encS 1 (Yc .i64)) [x1.2, p1])), (49, .int .i64 (([x1.2, p1]).length : Int)), (50, .int .i64 s7)] low []) (Sum.elim (fun j9 => OnlyE .ret (fun E' lw lc => Xi E' lw lc [(12, .bool false)] low [])) (fun j10 => OnlyE (.exit 0) (fun E' lw lc => Xi E' lw lc [(4, .int .i64 p4), (5, .int .i64 p5), (13, .vs 3 (Yb T_Door.enc x1.1)), (14, .vs 1 (Yb (Yc .i64) x1.2))] low []))) ho8 ?_ (by rintro (_|_) _ _ _ ⟨h, _⟩ <;> cases h) ?_) ?_
  ·exact Vg ⟨rfl, rfl, rfl, rfl, rfl, rfl, rfl, rfl, rfl, trivial⟩
  ·rintro s7 os7 _ _ _ hF hw
   unfold F_law08_DoorCommands_L1 at hF
   refine vwp_weak hw ?_
   refine Ve ?_
   refine Vc ?_
   refine Va (Xh rfl rfl) rfl ?_
   refine Vd ?_
   refine Ve ?_
   refine Vu rfl (fun c11 => ?_) (fun c11 => ?_)
   ·have hF := Xf c11 hF
    refine Vz ?_
    refine Ve ?_
    refine Xe ?_
    refine Ve ?_
    refine Vc ?_
    obtain ⟨x12, h13, hF⟩ := Xn hF
    refine Va (Xa (Xm rfl rfl h13 te_47 ts_25) (v' := .vptr [.vs 1 (Yb (Yc .i64) x12)] 0) rfl) rfl ?_
    refine Va (Xd rfl ta_25 rfl) rfl ?_
    refine Va (rd_asV rfl) rfl ?_
    refine Vd ?_
    refine Ve ?_
    refine Vc ?_
    obtain ⟨x14, h15, hF⟩ := Xn hF
    refine Va (Vo rfl) rfl ?_
    refine Va (Vo rfl) rfl ?_
    refine Va (Vh rfl) rfl ?_
    refine Va (Vh rfl) rfl ?_
    refine Vi (Vv rfl Try.call18 (F_door_Command_ok h15 _)) rfl ?_
    refine Va (rd_mvT rfl) rfl ?_
    refine Va (Xk rfl rfl) rfl ?_
    refine Va (Xk rfl rfl) rfl ?_
    refine Va (rd_asV rfl) rfl ?_
    refine Va (Vq rfl) rfl ?_
    refine Vd ?_
    refine Ve ?_
    refine Vc ?_
    obtain ⟨x16, h17, hF⟩ := Xn hF
    refine Va (Vo rfl) rfl ?_
    refine Va (Vo rfl) rfl ?_
    refine Va (Vh rfl) rfl ?_
    refine Va (Vh rfl) rfl ?_
    refine Vi (Vv rfl Try.call19 (F_ref08_Command_ok h17 _)) rfl ?_
    refine Va (rd_mvT rfl) rfl ?_
    refine Va (Xk rfl rfl) rfl ?_
    refine Va (Xk rfl rfl) rfl ?_
    refine Va (rd_asV rfl) rfl ?_
    refine Va (Vq rfl) rfl ?_
    refine Vd ?_
    refine Ve ?_
    refine Vc ?_
    obtain ⟨x18, h19, hF⟩ := Xn hF
    refine Va (Vo rfl) rfl ?_
    refine Va (Vo rfl) rfl ?_
    refine Va (Vh rfl) rfl ?_
    refine Va (Vh rfl) rfl ?_
    refine Vi (Vv rfl Try.call20 (F_door_Seen_ok h19 _)) rfl ?_
    refine Va (rd_mvT rfl) rfl ?_
    refine Va (Xk rfl rfl) rfl ?_
    refine Va (Xk rfl rfl) rfl ?_
    refine Va (rd_asV rfl) rfl ?_
    refine Va (Vq rfl) rfl ?_
    refine Vd ?_
    refine Ve ?_
    refine Vc ?_
    obtain ⟨x20, h21, hF⟩ := Xn hF
    refine Va (Vo rfl) rfl ?_
    refine Va (Vo rfl) rfl ?_
    refine Va (Vh rfl) rfl ?_
    refine Va (Vh rfl) rfl ?_
    refine Vi (Vv rfl Try.call21 (F_ref08_Seen_ok h21 _)) rfl ?_
    refine Va (rd_mvT rfl) rfl ?_
    refine Va (Xk rfl rfl) rfl ?_
    refine Va (Xk rfl rfl) rfl ?_
    refine Va (rd_asV rfl) rfl ?_
    refine Va (Vq rfl) rfl ?_
    refine Vd ?_
    refine Ve ?_
    obtain ⟨o22, ho22, hF⟩ := Xn hF
    refine Vn (Q' := (fun o22 => OnlyE .normal (fun E' lw lc => Xi E' lw lc [(4, .int .i64 p4), (5, .int .i64 p5), (13, .vs 3 (Yb T_Door.enc x1.1)), (14, .vs 1 (Yb (Yc .i64) x1.2)), (15, .int .i64 x3), (16, .int .i64 (IntKind.i64.wrap (x5 - 2))), (48, .vs 1 (Yb (encS 1 (Yc .i64)) [x1.2, p1])), (49, .int .i64 (([x1.2, p1]).length : Int)), (50, .int .i64 s7), (105, .bool o22)] low [])) o22) ?_ ?_
    ·replace hF := ho22
     refine Vc ?_
     rcases Yh (decide (x14.2 ≠ x16.2)) with c23 | c23
     ·have hF := Xf c23 hF
      refine Va (Vh rfl) rfl ?_
      refine Va (Vh rfl) rfl ?_
      refine Va (Xl rfl rfl) rfl ?_
      refine Va (Vj rfl) rfl ?_
      refine Vb rfl rfl (Xx c23) rfl ?_
      refine Vb rfl rfl (Xx c23) rfl ?_
      refine Vb rfl rfl (Xx c23) rfl ?_
      refine Va (Vl (congrArg Yd c23) rfl) rfl ?_
      refine Va (Vj rfl) rfl ?_
      refine Vb rfl rfl (by decide) rfl ?_
      refine Vb rfl rfl (by decide) rfl ?_
      refine Vb rfl rfl (by decide) rfl ?_
      refine Vb rfl rfl (by decide) rfl ?_
      refine Va (Vl rfl rfl) rfl ?_
      refine Va (Vj rfl) rfl ?_
      refine Vb rfl rfl (by decide) rfl ?_
      refine Vb rfl rfl (by decide) rfl ?_
      refine Vb rfl rfl (by decide) rfl ?_
      refine Vb rfl rfl (by decide) rfl ?_
      refine Va (Vl rfl rfl) rfl ?_
      refine Vd ?_
      obtain rfl := Ye hF
      refine Vx ?_
      exact Vg ⟨rfl, rfl, rfl, rfl, rfl, rfl, rfl, rfl, rfl, rfl, trivial⟩
     ·have hF := Xg c23 hF
      rcases Yh (decide (x18.2 ≠ x20.2)) with c24 | c24
      ·have hF := Xf c24 hF
       refine Va (Vh rfl) rfl ?_
       refine Va (Vh rfl) rfl ?_
       refine Va (Xl rfl rfl) rfl ?_
       refine Va (Vj rfl) rfl ?_
       refine Vt rfl rfl c23 ?_
       refine Va (Vh rfl) rfl ?_
       refine Vt rfl rfl c23 ?_
       refine Va (Vh rfl) rfl ?_
       refine Vt rfl rfl c23 ?_
       refine Va (Xl rfl rfl) rfl ?_
       refine Va (Vp (congrArg Yd c23) rfl) rfl ?_
       refine Va (Vj rfl) rfl ?_
       refine Vb rfl rfl (Xx c24) rfl ?_
       refine Vb rfl rfl (Xx c24) rfl ?_
       refine Vb rfl rfl (Xx c24) rfl ?_
       refine Vb rfl rfl (Xx c24) rfl ?_
       refine Va (Vl (congrArg Yd c24) rfl) rfl ?_
       refine Va (Vj rfl) rfl ?_
       refine Vb rfl rfl (by decide) rfl ?_
       refine Vb rfl rfl (by decide) rfl ?_
       refine Vb rfl rfl (by decide) rfl ?_
       refine Vb rfl rfl (by decide) rfl ?_
       refine Va (Vl rfl rfl) rfl ?_
       refine Vd ?_
       obtain rfl := Ye hF
       refine Vx ?_
       exact Vg ⟨rfl, rfl, rfl, rfl, rfl, rfl, rfl, rfl, rfl, rfl, trivial⟩
      ·have hF := Xg c24 hF
       obtain ⟨x25, h26, hF⟩ := Xn hF
       rcases Yh (!x25) with c27 | c27
       ·have hF := Xf c27 hF
        refine Va (Vh rfl) rfl ?_
        refine Va (Vh rfl) rfl ?_
        refine Va (Xl rfl rfl) rfl ?_
        refine Va (Vj rfl) rfl ?_
        refine Vt rfl rfl c23 ?_
        refine Va (Vh rfl) rfl ?_
        refine Vt rfl rfl c23 ?_
        refine Va (Vh rfl) rfl ?_
        refine Vt rfl rfl c23 ?_
        refine Va (Xl rfl rfl) rfl ?_
        refine Va (Vp (congrArg Yd c23) rfl) rfl ?_
        refine Va (Vj rfl) rfl ?_
        refine Vt rfl rfl c24 ?_
        refine Va (Vo rfl) rfl ?_
        refine Vt rfl rfl c24 ?_
        refine Va (Vo rfl) rfl ?_
        refine Vt rfl rfl c24 ?_
        refine Vi (Vv rfl Try.call15 (F_ref01_Ints_ok h26 _)) rfl ?_
        refine Vt rfl rfl c24 ?_
        refine Va (rd_not rfl) rfl ?_
        refine Va (Vp (congrArg Yd c24) rfl) rfl ?_
        refine Va (Vj rfl) rfl ?_
        refine Vb rfl rfl (Xx c27) rfl ?_
        refine Vb rfl rfl (Xx c27) rfl ?_
        refine Vb rfl rfl (Xx c27) rfl ?_
        refine Vb rfl rfl (Xx c27) rfl ?_
        refine Va (Vl (congrArg Yd c27) rfl) rfl ?_
        refine Vd ?_
        obtain rfl := Ye hF
        refine Vx ?_
        exact Vg ⟨rfl, rfl, rfl, rfl, rfl, rfl, rfl, rfl, rfl, rfl, trivial⟩
       ·have hF := Xg c27 hF
        obtain ⟨x28, h29, hF⟩ := Xn hF
        refine Va (Vh rfl) rfl ?_
        refine Va (Vh rfl) rfl ?_
        refine Va (Xl rfl rfl) rfl ?_
        refine Va (Vj rfl) rfl ?_
        refine Vt rfl rfl c23 ?_
        refine Va (Vh rfl) rfl ?_
        refine Vt rfl rfl c23 ?_
        refine Va (Vh rfl) rfl ?_
        refine Vt rfl rfl c23 ?_
        refine Va (Xl rfl rfl) rfl ?_
        refine Va (Vp (congrArg Yd c23) rfl) rfl ?_
        refine Va (Vj rfl) rfl ?_
        refine Vt rfl rfl c24 ?_
        refine Va (Vo rfl) rfl ?_
        refine Vt rfl rfl c24 ?_
        refine Va (Vo rfl) rfl ?_
        refine Vt rfl rfl c24 ?_
        refine Vi (Vv rfl Try.call15 (F_ref01_Ints_ok h26 _)) rfl ?_
        refine Vt rfl rfl c24 ?_
        refine Va (rd_not rfl) rfl ?_
        refine Va (Vp (congrArg Yd c24) rfl) rfl ?_
        refine Va (Vj rfl) rfl ?_
        refine Vt rfl rfl c27 ?_
        refine Va (Vo rfl) rfl ?_
        refine Vt rfl rfl c27 ?_
        refine Va (Vo rfl) rfl ?_
        refine Vt rfl rfl c27 ?_
        refine Vi (Vv rfl Try.call15 (F_ref01_Ints_ok h29 _)) rfl ?_
        refine Vt rfl rfl c27 ?_
        refine Va (rd_not rfl) rfl ?_
        refine Va (Vp (congrArg Yd c27) rfl) rfl ?_
        refine Vd ?_
        obtain rfl := Ye hF
        refine Vx ?_
        exact Vg ⟨rfl, rfl, rfl, rfl, rfl, rfl, rfl, rfl, rfl, rfl, trivial⟩
    ·rintro _ _ _ _ ⟨rfl, hw⟩
     refine ⟨_, _, _, hw, ?_⟩
     refine Vu rfl (fun c30 => ?_) (fun c30 => ?_)
     ·have hF := Xf c30 hF
      refine Ve ?_
      refine Vc ?_
      refine Va (Xo rfl) rfl ?_
      refine Vd ?_
      refine Vw ?_
      obtain rfl := Ye hF
      refine Vx ?_
      exact Vg ⟨rfl, trivial⟩
     ·have hF := Xg c30 hF
      refine Vz ?_
      refine Vc ?_
      refine Va (rd_add rfl rfl rfl) rfl ?_
      refine Va (Vh rfl) rfl ?_
      refine Vd ?_
      obtain rfl := Ye hF
      refine Vx ?_
      exact Vg ⟨rfl, rfl, rfl, rfl, rfl, rfl, rfl, rfl, rfl, trivial⟩
   ·have hF := Xg c11 hF
    refine vwp_exit ?_
    obtain rfl := Ye hF
    refine Vx ?_
    exact Vg ⟨rfl, rfl, rfl, rfl, trivial⟩
  ·rcases o8 with j9 | j10
   ·replace hF := elimL hF
    rintro _ _ _ _ ⟨rfl, hw⟩
    refine ⟨_, _, _, hw, ?_⟩
    obtain rfl := Ye hF
    refine fnR ?_
    exact Vg ⟨rfl, trivial⟩
   ·replace hF := elimR hF
    rintro _ _ _ _ ⟨rfl, hw⟩
    refine ⟨_, _, _, hw, ?_⟩
    refine Ve ?_
    refine Vc ?_
    obtain ⟨x31, h32, hF⟩ := Xn hF
    refine Va (Vo rfl) rfl ?_
    refine Va (Vo rfl) rfl ?_
    refine Va (Vh rfl) rfl ?_
    refine Va (Vh rfl) rfl ?_
    refine Vi (Vv rfl Try.call18 (F_door_Command_ok h32 _)) rfl ?_
    refine Va (rd_mvT rfl) rfl ?_
    refine Va (Xk rfl rfl) rfl ?_
    refine Va (Xk rfl rfl) rfl ?_
    refine Va (rd_asV rfl) rfl ?_
    refine Va (Vq rfl) rfl ?_
    refine Vd ?_
    refine Ve ?_
    refine Vc ?_
    obtain ⟨x33, h34, hF⟩ := Xn hF
    refine Va (Vo rfl) rfl ?_
    refine Va (Vo rfl) rfl ?_
    refine Va (Vh rfl) rfl ?_
    refine Va (Vh rfl) rfl ?_
    refine Vi (Vv rfl Try.call19 (F_ref08_Command_ok h34 _)) rfl ?_
    refine Va (rd_mvT rfl) rfl ?_
    refine Va (Xk rfl rfl) rfl ?_
    refine Va (Xk rfl rfl) rfl ?_
    refine Va (rd_asV rfl) rfl ?_
    refine Va (Vq rfl) rfl ?_
    refine Vd ?_
    refine Ve ?_
    refine Vc ?_
    rcases Yh (decide (x31.2 = x33.2)) with c35 | c35
    ·have hF := Xf c35 hF
     obtain ⟨x36, h37, hF⟩ := Xn hF
     rcases Yh x36 with c38 | c38
     ·have hF := Xf c38 hF
      obtain ⟨x39, h40, hF⟩ := Xn hF
      refine Va (Vh rfl) rfl ?_
      refine Va (Vh rfl) rfl ?_
      refine Va (Xw rfl rfl) rfl ?_
      refine Va (Vj rfl) rfl ?_
      refine Vt rfl rfl c35 ?_
      refine Va (Vo rfl) rfl ?_
      refine Vt rfl rfl c35 ?_
      refine Va (Vo rfl) rfl ?_
      refine Vt rfl rfl c35 ?_
      refine Vi (Vv rfl Try.call15 (F_ref01_Ints_ok h37 _)) rfl ?_
      refine Va (Vl (congrArg Yd c35) rfl) rfl ?_
      refine Va (Vj rfl) rfl ?_
      refine Vt rfl rfl c38 ?_
      refine Vi (Vv rfl Try.call8 (F_law08_awake_ok h40 _)) rfl ?_
      refine Va (Vl (congrArg Yd c38) rfl) rfl ?_
      refine Va (Xo rfl) rfl ?_
      refine Vd ?_
      refine Vw ?_
      obtain rfl := Ye hF
      refine fnR ?_
      exact Vg ⟨rfl, trivial⟩
     ·have hF := Xg c38 hF
      refine Va (Vh rfl) rfl ?_
      refine Va (Vh rfl) rfl ?_
      refine Va (Xw rfl rfl) rfl ?_
      refine Va (Vj rfl) rfl ?_
      refine Vt rfl rfl c35 ?_
      refine Va (Vo rfl) rfl ?_
      refine Vt rfl rfl c35 ?_
      refine Va (Vo rfl) rfl ?_
      refine Vt rfl rfl c35 ?_
      refine Vi (Vv rfl Try.call15 (F_ref01_Ints_ok h37 _)) rfl ?_
      refine Va (Vl (congrArg Yd c35) rfl) rfl ?_
      refine Va (Vj rfl) rfl ?_
      refine Vb rfl rfl (neF c38) rfl ?_
      refine Va (Vp (congrArg Yd c38) rfl) rfl ?_
      refine Va (Xo rfl) rfl ?_
      refine Vd ?_
      refine Vw ?_
      obtain rfl := Ye hF
      refine fnR ?_
      exact Vg ⟨rfl, trivial⟩
    ·have hF := Xg c35 hF
     refine Va (Vh rfl) rfl ?_
     refine Va (Vh rfl) rfl ?_
     refine Va (Xw rfl rfl) rfl ?_
     refine Va (Vj rfl) rfl ?_
     refine Vb rfl rfl (neF c35) rfl ?_
     refine Vb rfl rfl (neF c35) rfl ?_
     refine Vb rfl rfl (neF c35) rfl ?_
     refine Va (Vp (congrArg Yd c35) rfl) rfl ?_
     refine Va (Vj rfl) rfl ?_
     refine Vb rfl rfl (by decide) rfl ?_
     refine Va (Vp rfl rfl) rfl ?_
     refine Va (Xo rfl) rfl ?_
     refine Vd ?_
     refine Vw ?_
     obtain rfl := Ye hF
     refine fnR ?_
     exact Vg ⟨rfl, trivial⟩
 ·rintro _ _ _ _ ⟨he, hw⟩
  refine ⟨_, _, _, hw, ?_⟩
  exact Xj he [.bool r] ⟨rfl, trivial⟩ (.bool _) ⟨rfl, rfl⟩

end Go.Proofs.Ytnmimlcnifflbaa
