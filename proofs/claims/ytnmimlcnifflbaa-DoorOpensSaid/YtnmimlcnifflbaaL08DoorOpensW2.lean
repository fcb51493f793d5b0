/- Printed by wip/lift/lift.py: the walks that show that the program computes them. -/
import Derived.Test.YtnmimlcnifflbaaL08DoorOpensW1
namespace Go.Proofs.Ytnmimlcnifflbaa
open Go Go.Aml Go.L
attribute [local irreducible] VRd VEf VOp VOps VWp DOps
set_option linter.unusedVariables false
open Go.Aml renaming vops_rd → Va, vops_skip → Vb, vwp_region → Vc, vops_nil → Vd, vwp_seq → Ve, rd_fieldAddr → Vf, weak_sub → Vg, vops_efE → Vh, rd_mvI → Vi, rd_mvB → Vj, getO_N → Vk, rd_load1 → Vl, vwp_monoW → Vm, rn_low → Vn, rd_mvV → Vo, rd_pickT → Vp, rd_pickF → Vq, vops_skipX → Vr, vef_callP → Vs, vt1 → Vt, vwp_cond → Vu, rd_asI → Vv, onlyE → Vw, vwp_ret → Vx, vcalls_of_body → Vy, vwp_skip → Vz, weak_pick → Xa, rd_to → Xb, rd_lenV → Xc, vwp_block → Xd, rd_loadV1 → Xe, bifT → Xf, bifF → Xg, rd_lss → Xh, Weak → Xi, bodyQ_pure → Xj, rd_ixV → Xk, dops_skip → Xl, rd_asB → Xm, lenS → Xn, vef_store → Xo, rd_neq → Xp, rd_mvP → Xq, bnd → Xr, vef_callS → Xs, getI_some → Xt, VCalls → Xu, rd_nilPtr → Xv, setO_N → Xw, rd_eql → Xx, sets_nil → Xy
open List renaming map → Xz
open Go.Aml.PV renaming int → Ya
open Go.Aml.PV renaming bool → Yb
open Option.some renaming inj → Yc
open Nat renaming le_of_ble_eq_true → Yd
open Nat renaming succ_pos → Ye
open Bool renaming eq_false_or_eq_true → Yf
open List renaming length_map → Yg
set_option maxHeartbeats 4000000

theorem F_ref08_Check_ok {p0 : List T_Door} {r : Int} (hF : F_ref08_Check p0 = some r) (low : List AObj) :
    Xu Try.prog 11 [.vs 3 (Xz T_Door.enc p0)] low fun x low' => x = .int .i64 r ∧ low' = low := by
 refine Vy (nt := 104) (rs := [.tmp 2]) Try.func11 rfl rfl (Yd rfl) rfl ?_
 refine Vm (Q' := FnE (fun E' lw lc => Xi E' lw lc [(2, .int .i64 r)] low [])) ?_ ?_
 ·unfold F_ref08_Check at hF
  refine Ve ?_
  refine Vc ?_
  refine Va (Vv rfl) rfl ?_
  refine Vd ?_
  refine Ve ?_
  refine Ve ?_
  refine Vc ?_
  refine Va (Vo rfl) rfl ?_
  refine Va (Xb (Xc rfl rfl te_23) (congrArg (fun n : Nat => Ya .i64 (n : Int)) (Yg _))) rfl ?_
  refine Va (rd_gtr rfl rfl) rfl ?_
  refine Vd ?_
  refine Vu rfl (fun c1 => ?_) (fun c1 => ?_)
  ·have hF := Xf c1 hF
   refine Ve ?_
   refine Vc ?_
   refine Va (Vv rfl) rfl ?_
   refine Vd ?_
   refine Vx ?_
   obtain rfl := Yc hF
   refine fnR ?_
   exact Vg ⟨rfl, trivial⟩
  ·have hF := Xg c1 hF
   refine Vz ?_
   refine Ve ?_
   refine Ve ?_
   refine Vc ?_
   refine Va (Vv rfl) rfl ?_
   refine Vd ?_
   refine Xd ?_
   obtain ⟨o3, ho3, hF⟩ := Xr hF
   refine Vm (vwp_loopC (F_ref08_Check_L1 p0) (fun s2 E' lw lc => Xi E' lw lc [(0, .vs 3 (Xz T_Door.enc p0)), (3, .int .i64 s2)] low []) (Sum.elim (fun j4 => OnlyE .ret (fun E' lw lc => Xi E' lw lc [(2, .int .i64 j4)] low [])) (fun j5 => OnlyE (.exit 0) (fun E' lw lc => Xi E' lw lc [] low []))) ho3 ?_ (by rintro (_|_) _ _ _ ⟨h, _⟩ <;> cases h) ?_) ?_
   ·exact Vg ⟨rfl, rfl, trivial⟩
   ·rintro s2 os2 _ _ _ hF hw
    unfold F_ref08_Check_L1 at hF
    refine vwp_weak hw ?_
    refine Ve ?_
    refine Ve ?_
    refine Vc ?_
    refine Va (Vi rfl) rfl ?_
    refine Va (Vo rfl) rfl ?_
    refine Va (Xb (Xc rfl rfl te_23) (congrArg (fun n : Nat => Ya .i64 (n : Int)) (Yg _))) rfl ?_
    refine Va (Xh rfl rfl) rfl ?_
    refine Vd ?_
    refine Vu rfl (fun c6 => ?_) (fun c6 => ?_)
    ·have hF := Xf c6 hF
     refine Vz ?_
     refine Ve ?_
     refine Xd ?_
     refine Ve ?_
     refine Vc ?_
     obtain ⟨x7, h8, hF⟩ := Xr hF
     refine Va (Vo rfl) rfl ?_
     refine Va (Vi rfl) rfl ?_
     refine Va (Xb (Xk rfl rfl h8 te_23 ts_36) (v' := .vptr [.int .i64 x7.Road, .int .i64 x7.Other, .vs 1 (Xz (Ya .i64) x7.Rests)] 0) rfl) rfl ?_
     refine Va (rd_loadVN (ds := [.int .i64 x7.Road, .int .i64 x7.Other, .vs 1 (Xz (Ya .i64) x7.Rests)]) rfl ta_36 ts_36 rfl rfl) rfl ?_
     refine Vh (vef_allocN rfl rfl tz_36 rfl rfl (Ye _) rfl) rfl ?_
     refine Vh (Xo (p := .agg [.int .i64 x7.Road, .int .i64 x7.Other, .vs 1 (Xz (Ya .i64) x7.Rests)]) (e' := .agg [.int .i64 x7.Road, .int .i64 x7.Other, .vs 1 (Xz (Ya .i64) x7.Rests)]) rfl (Vk rfl rfl) rfl rfl ts_36 rfl (nt_ne rfl) rfl (Yd rfl) rfl (Xw rfl rfl)) rfl ?_
     refine Vd ?_
     refine Ve ?_
     refine Ve ?_
     refine Vc ?_
     refine Va (Vf rfl tf_36_0 ts_3 (by decide)) rfl ?_
     refine Va (Vl rfl (Vk rfl rfl) rfl ta_3 rfl) rfl ?_
     refine Va (Xh rfl rfl) rfl ?_
     refine Vd ?_
     refine Vu rfl (fun c9 => ?_) (fun c9 => ?_)
     ·have hF := Xf c9 hF
      refine Ve ?_
      refine Vc ?_
      refine Va (Vv rfl) rfl ?_
      refine Vd ?_
      refine Vx ?_
      obtain rfl := Yc hF
      refine Vw ?_
      exact Xa rfl [] (by decide) ⟨Vn rfl (.int _ _), trivial⟩ trivial
     ·have hF := Xg c9 hF
      refine Vz ?_
      refine Ve ?_
      refine Ve ?_
      obtain ⟨o10, ho10, hF⟩ := Xr hF
      refine Vm (Q' := (fun o10 => OnlyE .normal (fun E' lw lc => Xi E' lw lc [(0, .vs 3 (Xz T_Door.enc p0)), (3, .int .i64 s2), (4, .ptr (low.length + 0) 0 0 0), (32, .bool o10)] low [⟨36, 3, [.agg [.int .i64 x7.Road, .int .i64 x7.Other, .vs 1 (Xz (Ya .i64) x7.Rests)]], 0⟩])) o10) ?_ ?_
      ·replace hF := ho10
       refine Vc ?_
       rcases Yf (decide (((x7.Rests).length : Int) < 2)) with c11 | c11
       ·have hF := Xf c11 hF
        refine Va (Vf rfl tf_36_2 ts_25 (by decide)) rfl ?_
        refine Va (Vl rfl (Vk rfl rfl) rfl ta_25 rfl) rfl ?_
        refine Va (Xb (Xc rfl rfl te_25) (congrArg (fun n : Nat => Ya .i64 (n : Int)) (Yg _))) rfl ?_
        refine Va (Xh rfl rfl) rfl ?_
        refine Va (Vj rfl) rfl ?_
        refine Vb rfl rfl (neT c11) rfl ?_
        refine Vb rfl rfl (neT c11) rfl ?_
        refine Vb rfl rfl (neT c11) rfl ?_
        refine Vb rfl rfl (neT c11) rfl ?_
        refine Va (Vp (congrArg Yb c11) rfl) rfl ?_
        refine Vd ?_
        obtain rfl := Yc hF
        refine Vw ?_
        exact Vg ⟨rfl, rfl, rfl, rfl, trivial⟩
       ·have hF := Xg c11 hF
        refine Va (Vf rfl tf_36_2 ts_25 (by decide)) rfl ?_
        refine Va (Vl rfl (Vk rfl rfl) rfl ta_25 rfl) rfl ?_
        refine Va (Xb (Xc rfl rfl te_25) (congrArg (fun n : Nat => Ya .i64 (n : Int)) (Yg _))) rfl ?_
        refine Va (Xh rfl rfl) rfl ?_
        refine Va (Vj rfl) rfl ?_
        refine Vt rfl rfl c11 ?_
        refine Va (Vf rfl tf_36_2 ts_25 (by decide)) rfl ?_
        refine Vt rfl rfl c11 ?_
        refine Va (Vl rfl (Vk rfl rfl) rfl ta_25 rfl) rfl ?_
        refine Vt rfl rfl c11 ?_
        refine Va (Xb (Xc rfl rfl te_25) (congrArg (fun n : Nat => Ya .i64 (n : Int)) (Yg _))) rfl ?_
        refine Vt rfl rfl c11 ?_
        refine Va (rd_gtr rfl rfl) rfl ?_
        refine Va (Vq (congrArg Yb c11) rfl) rfl ?_
        refine Vd ?_
        obtain rfl := Yc hF
        refine Vw ?_
        exact Vg ⟨rfl, rfl, rfl, rfl, trivial⟩
      ·rintro _ _ _ _ ⟨rfl, hw⟩
       refine ⟨_, _, _, hw, ?_⟩
       refine Vu rfl (fun c12 => ?_) (fun c12 => ?_)
       ·have hF := Xf c12 hF
        refine Ve ?_
        refine Vc ?_
        refine Va (Vv rfl) rfl ?_
        refine Vd ?_
        refine Vx ?_
        obtain rfl := Yc hF
        refine Vw ?_
        exact Xa rfl [] (by decide) ⟨Vn rfl (.int _ _), trivial⟩ trivial
       ·have hF := Xg c12 hF
        refine Vz ?_
        refine Ve ?_
        refine Ve ?_
        refine Vc ?_
        refine Va (Vv rfl) rfl ?_
        refine Vd ?_
        refine Xd ?_
        obtain ⟨o14, ho14, hF⟩ := Xr hF
        refine Vm (vwp_loopC (F_ref08_Check_L2 x7) (fun s13 E' lw lc => Xi E' lw lc [(0, .vs 3 (Xz T_Door.enc p0)), (3, .int .i64 s2), (4, .ptr (low.length + 0) 0 0 0), (5, .int .i64 s13)] low [⟨36, 3, [.agg [.int .i64 x7.Road, .int .i64 x7.Other, .vs 1 (Xz (Ya .i64) x7.Rests)]], 0⟩]) (Sum.elim (fun j15 => OnlyE .ret (fun E' lw lc => Xi E' lw lc [(2, .int .i64 1)] low [])) (fun j16 => OnlyE (.exit 2) (fun E' lw lc => Xi E' lw lc [(0, .vs 3 (Xz T_Door.enc p0)), (3, .int .i64 s2), (4, .ptr (low.length + 0) 0 0 0)] low [⟨36, 3, [.agg [.int .i64 x7.Road, .int .i64 x7.Other, .vs 1 (Xz (Ya .i64) x7.Rests)]], 0⟩]))) ho14 ?_ (by rintro (_|_) _ _ _ ⟨h, _⟩ <;> cases h) ?_) ?_
        ·exact Vg ⟨rfl, rfl, rfl, rfl, trivial⟩
        ·rintro s13 os13 _ _ _ hF hw
         unfold F_ref08_Check_L2 at hF
         refine vwp_weak hw ?_
         refine Ve ?_
         refine Ve ?_
         refine Vc ?_
         refine Va (Vi rfl) rfl ?_
         refine Va (Vf rfl tf_36_2 ts_25 (by decide)) rfl ?_
         refine Va (Vl rfl (Vk rfl rfl) rfl ta_25 rfl) rfl ?_
         refine Va (Xb (Xc rfl rfl te_25) (congrArg (fun n : Nat => Ya .i64 (n : Int)) (Yg _))) rfl ?_
         refine Va (Xh rfl rfl) rfl ?_
         refine Vd ?_
         refine Vu rfl (fun c17 => ?_) (fun c17 => ?_)
         ·have hF := Xf c17 hF
          refine Vz ?_
          refine Ve ?_
          refine Xd ?_
          refine Ve ?_
          obtain ⟨o18, ho18, hF⟩ := Xr hF
          refine Vm (Q' := (fun o18 => OnlyE .normal (fun E' lw lc => Xi E' lw lc [(0, .vs 3 (Xz T_Door.enc p0)), (3, .int .i64 s2), (4, .ptr (low.length + 0) 0 0 0), (5, .int .i64 s13), (53, .bool o18)] low [⟨36, 3, [.agg [.int .i64 x7.Road, .int .i64 x7.Other, .vs 1 (Xz (Ya .i64) x7.Rests)]], 0⟩])) o18) ?_ ?_
          ·replace hF := ho18
           refine Vc ?_
           obtain ⟨x19, h20, hF⟩ := Xr hF
           rcases Yf (decide (x19 < 0)) with c21 | c21
           ·have hF := Xf c21 hF
            refine Va (Vf rfl tf_36_2 ts_25 (by decide)) rfl ?_
            refine Va (Vl rfl (Vk rfl rfl) rfl ta_25 rfl) rfl ?_
            refine Va (Vi rfl) rfl ?_
            refine Va (Xb (Xk rfl rfl h20 te_25 ts_3) (v' := .vptr [.int .i64 x19] 0) rfl) rfl ?_
            refine Va (Xe rfl ta_3 rfl) rfl ?_
            refine Va (Xh rfl rfl) rfl ?_
            refine Va (Vj rfl) rfl ?_
            refine Vb rfl rfl (neT c21) rfl ?_
            refine Vb rfl rfl (neT c21) rfl ?_
            refine Vb rfl rfl (neT c21) rfl ?_
            refine Vb rfl rfl (neT c21) rfl ?_
            refine Vb rfl rfl (neT c21) rfl ?_
            refine Vb rfl rfl (neT c21) rfl ?_
            refine Va (Vp (congrArg Yb c21) rfl) rfl ?_
            refine Vd ?_
            obtain rfl := Yc hF
            refine Vw ?_
            exact Vg ⟨rfl, rfl, rfl, rfl, rfl, trivial⟩
           ·have hF := Xg c21 hF
            obtain ⟨x22, h23, hF⟩ := Xr hF
            refine Va (Vf rfl tf_36_2 ts_25 (by decide)) rfl ?_
            refine Va (Vl rfl (Vk rfl rfl) rfl ta_25 rfl) rfl ?_
            refine Va (Vi rfl) rfl ?_
            refine Va (Xb (Xk rfl rfl h20 te_25 ts_3) (v' := .vptr [.int .i64 x19] 0) rfl) rfl ?_
            refine Va (Xe rfl ta_3 rfl) rfl ?_
            refine Va (Xh rfl rfl) rfl ?_
            refine Va (Vj rfl) rfl ?_
            refine Vt rfl rfl c21 ?_
            refine Va (Vf rfl tf_36_2 ts_25 (by decide)) rfl ?_
            refine Vt rfl rfl c21 ?_
            refine Va (Vl rfl (Vk rfl rfl) rfl ta_25 rfl) rfl ?_
            refine Vt rfl rfl c21 ?_
            refine Va (Vi rfl) rfl ?_
            refine Vt rfl rfl c21 ?_
            refine Va (Xb (Xk rfl rfl h23 te_25 ts_3) (v' := .vptr [.int .i64 x22] 0) rfl) rfl ?_
            refine Vt rfl rfl c21 ?_
            refine Va (Xe rfl ta_3 rfl) rfl ?_
            refine Vt rfl rfl c21 ?_
            refine Va (rd_gtr rfl rfl) rfl ?_
            refine Va (Vq (congrArg Yb c21) rfl) rfl ?_
            refine Vd ?_
            obtain rfl := Yc hF
            refine Vw ?_
            exact Vg ⟨rfl, rfl, rfl, rfl, rfl, trivial⟩
          ·rintro _ _ _ _ ⟨rfl, hw⟩
           refine ⟨_, _, _, hw, ?_⟩
           refine Vu rfl (fun c24 => ?_) (fun c24 => ?_)
           ·have hF := Xf c24 hF
            refine Ve ?_
            refine Vc ?_
            refine Va (Vv rfl) rfl ?_
            refine Vd ?_
            refine Vx ?_
            obtain rfl := Yc hF
            refine Vw ?_
            exact Xa rfl [] (by decide) ⟨Vn rfl (.int _ _), trivial⟩ trivial
           ·have hF := Xg c24 hF
            refine Vz ?_
            refine Vc ?_
            refine Va (Vi rfl) rfl ?_
            refine Va (rd_add rfl rfl rfl) rfl ?_
            refine Va (Vv rfl) rfl ?_
            refine Vd ?_
            obtain rfl := Yc hF
            refine Vw ?_
            exact Vg ⟨rfl, rfl, rfl, rfl, trivial⟩
         ·have hF := Xg c17 hF
          refine vwp_exit ?_
          obtain rfl := Yc hF
          refine Vw ?_
          exact Vg ⟨rfl, rfl, rfl, trivial⟩
        ·rcases o14 with j15 | j16
         ·replace hF := elimL hF
          rintro _ _ _ _ ⟨rfl, hw⟩
          refine ⟨_, _, _, hw, ?_⟩
          obtain rfl := Yc hF
          refine Vw ?_
          exact Vg ⟨rfl, trivial⟩
         ·replace hF := elimR hF
          rintro _ _ _ _ ⟨rfl, hw⟩
          refine ⟨_, _, _, hw, ?_⟩
          refine Ve ?_
          refine Ve ?_
          refine Vc ?_
          refine Va (Vv rfl) rfl ?_
          refine Vd ?_
          refine Xd ?_
          obtain ⟨o26, ho26, hF⟩ := Xr hF
          refine Vm (vwp_loopC (F_ref08_Check_L3 x7) (fun s25 E' lw lc => Xi E' lw lc [(0, .vs 3 (Xz T_Door.enc p0)), (3, .int .i64 s2), (4, .ptr (low.length + 0) 0 0 0), (6, .int .i64 s25)] low [⟨36, 3, [.agg [.int .i64 x7.Road, .int .i64 x7.Other, .vs 1 (Xz (Ya .i64) x7.Rests)]], 0⟩]) (Sum.elim (fun j27 => OnlyE .ret (fun E' lw lc => Xi E' lw lc [(2, .int .i64 15)] low [])) (fun j28 => OnlyE (.exit 4) (fun E' lw lc => Xi E' lw lc [(0, .vs 3 (Xz T_Door.enc p0)), (3, .int .i64 s2), (4, .ptr (low.length + 0) 0 0 0)] low [⟨36, 3, [.agg [.int .i64 x7.Road, .int .i64 x7.Other, .vs 1 (Xz (Ya .i64) x7.Rests)]], 0⟩]))) ho26 ?_ (by rintro (_|_) _ _ _ ⟨h, _⟩ <;> cases h) ?_) ?_
          ·exact Vg ⟨rfl, rfl, rfl, rfl, trivial⟩
          ·rintro s25 os25 _ _ _ hF hw
           unfold F_ref08_Check_L3 at hF
           refine vwp_weak hw ?_
           refine Ve ?_
           refine Ve ?_
           refine Vc ?_
           refine Va (Vi rfl) rfl ?_
           refine Va (Vf rfl tf_36_2 ts_25 (by decide)) rfl ?_
           refine Va (Vl rfl (Vk rfl rfl) rfl ta_25 rfl) rfl ?_
           refine Va (Xb (Xc rfl rfl te_25) (congrArg (fun n : Nat => Ya .i64 (n : Int)) (Yg _))) rfl ?_
           refine Va (Xh rfl rfl) rfl ?_
           refine Vd ?_
           refine Vu rfl (fun c29 => ?_) (fun c29 => ?_)
           ·have hF := Xf c29 hF
            refine Vz ?_
            refine Ve ?_
            refine Xd ?_
            refine Ve ?_
            obtain ⟨x30, h31, hF⟩ := Xr hF
            obtain ⟨x32, h33, hF⟩ := Xr hF
            refine vwp_drawn0 [[], [0], [], [0, 1, 2], [0, 1, 2, 3], [], [5], [], [7], [5, 6, 7, 8], [5, 6, 7, 8, 9], [0, 1, 2, 3, 4, 5, 6, 7, 8, 9, 10]] mixed (by kernel_rfl) rfl ?_
            refine dr1 rfl rfl (Vf rfl tf_36_2 ts_25 (by decide)) ?_
            refine dr1 rfl rfl (Vl rfl (Vk rfl rfl) rfl ta_25 rfl) ?_
            refine dr1 rfl rfl (Vi rfl) ?_
            refine dr1 rfl rfl (Xb (Xk rfl rfl h31 te_25 ts_3) (v' := .vptr [.int .i64 x30] 0) rfl) ?_
            refine dr1 rfl rfl (Xe rfl ta_3 rfl) ?_
            refine dr1 rfl rfl (Vf rfl tf_36_2 ts_25 (by decide)) ?_
            refine dr1 rfl rfl (Vl rfl (Vk rfl rfl) rfl ta_25 rfl) ?_
            refine dr1 rfl rfl (Vi rfl) ?_
            refine dr1 rfl rfl (rd_sub rfl rfl rfl) ?_
            refine dr1 rfl rfl (Xb (Xk rfl rfl h33 te_25 ts_3) (v' := .vptr [.int .i64 x32] 0) rfl) ?_
            refine dr1 rfl rfl (Xe rfl ta_3 rfl) ?_
            refine dr1 rfl rfl (rd_geq rfl rfl) ?_
            refine dops_nil ?_
            refine Vu rfl (fun c34 => ?_) (fun c34 => ?_)
            ·have hF := Xf c34 hF
             refine Ve ?_
             refine Vc ?_
             refine Va (Vv rfl) rfl ?_
             refine Vd ?_
             refine Vx ?_
             obtain rfl := Yc hF
             refine Vw ?_
             exact Xa rfl [] (by decide) ⟨Vn rfl (.int _ _), trivial⟩ trivial
            ·have hF := Xg c34 hF
             refine Vz ?_
             refine Vc ?_
             refine Va (Vi rfl) rfl ?_
             refine Va (rd_add rfl rfl rfl) rfl ?_
             refine Va (Vv rfl) rfl ?_
             refine Vd ?_
             obtain rfl := Yc hF
             refine Vw ?_
             exact Vg ⟨rfl, rfl, rfl, rfl, trivial⟩
           ·have hF := Xg c29 hF
            refine vwp_exit ?_
            obtain rfl := Yc hF
            refine Vw ?_
            exact Vg ⟨rfl, rfl, rfl, trivial⟩
          ·rcases o26 with j27 | j28
           ·replace hF := elimL hF
            rintro _ _ _ _ ⟨rfl, hw⟩
            refine ⟨_, _, _, hw, ?_⟩
            obtain rfl := Yc hF
            refine Vw ?_
            exact Vg ⟨rfl, trivial⟩
           ·replace hF := elimR hF
            rintro _ _ _ _ ⟨rfl, hw⟩
            refine ⟨_, _, _, hw, ?_⟩
            refine Ve ?_
            obtain ⟨o35, ho35, hF⟩ := Xr hF
            refine Vm (Q' := (fun o35 => OnlyE .normal (fun E' lw lc => Xi E' lw lc [(0, .vs 3 (Xz T_Door.enc p0)), (3, .int .i64 s2), (103, .bool o35)] low [])) o35) ?_ ?_
            ·replace hF := ho35
             refine Vc ?_
             rcases Yf (decide (x7.Other ≠ (-1))) with c36 | c36
             ·have hF := Xf c36 hF
              rcases Yf (decide (x7.Other < 0)) with c37 | c37
              ·have hF := Xf c37 hF
               refine Va (Vf rfl tf_36_1 ts_3 (by decide)) rfl ?_
               refine Va (Vl rfl (Vk rfl rfl) rfl ta_3 rfl) rfl ?_
               refine Va (Xp rfl rfl) rfl ?_
               refine Va (Vj rfl) rfl ?_
               refine Vt rfl rfl c36 ?_
               refine Va (Vf rfl tf_36_1 ts_3 (by decide)) rfl ?_
               refine Vt rfl rfl c36 ?_
               refine Va (Vl rfl (Vk rfl rfl) rfl ta_3 rfl) rfl ?_
               refine Vt rfl rfl c36 ?_
               refine Va (Xh rfl rfl) rfl ?_
               refine Vt rfl rfl c36 ?_
               refine Va (Vj rfl) rfl ?_
               refine Vb rfl rfl (neT c37) rfl ?_
               refine Vb rfl rfl (neT c37) rfl ?_
               refine Vb rfl rfl (neT c37) rfl ?_
               refine Vb rfl rfl (neT c37) rfl ?_
               refine Vb rfl rfl (neT c37) rfl ?_
               refine Vt rfl rfl c36 ?_
               refine Va (Vp (congrArg Yb c37) rfl) rfl ?_
               refine Vt rfl rfl c36 ?_
               refine Va (Vj rfl) rfl ?_
               refine Vb rfl rfl (by decide) rfl ?_
               refine Vb rfl rfl (by decide) rfl ?_
               refine Vb rfl rfl (by decide) rfl ?_
               refine Vb rfl rfl (by decide) rfl ?_
               refine Vt rfl rfl c36 ?_
               refine Va (Vp rfl rfl) rfl ?_
               refine Vt rfl rfl c36 ?_
               refine Va (Vj rfl) rfl ?_
               refine Vb rfl rfl (by decide) rfl ?_
               refine Vb rfl rfl (by decide) rfl ?_
               refine Vb rfl rfl (by decide) rfl ?_
               refine Vb rfl rfl (by decide) rfl ?_
               refine Vb rfl rfl (by decide) rfl ?_
               refine Vb rfl rfl (by decide) rfl ?_
               refine Vb rfl rfl (by decide) rfl ?_
               refine Vb rfl rfl (by decide) rfl ?_
               refine Vt rfl rfl c36 ?_
               refine Va (Vp rfl rfl) rfl ?_
               refine Va (Vp (congrArg Yb c36) rfl) rfl ?_
               refine Vd ?_
               obtain rfl := Yc hF
               refine Vw ?_
               exact Xa rfl [] (by decide) ⟨Vn rfl (.vs _ _), Vn rfl (.int _ _), Vn rfl (.bool _), trivial⟩ trivial
              ·have hF := Xg c37 hF
               rcases Yf (decide (((p0).length : Int) ≤ x7.Other)) with c38 | c38
               ·have hF := Xf c38 hF
                refine Va (Vf rfl tf_36_1 ts_3 (by decide)) rfl ?_
                refine Va (Vl rfl (Vk rfl rfl) rfl ta_3 rfl) rfl ?_
                refine Va (Xp rfl rfl) rfl ?_
                refine Va (Vj rfl) rfl ?_
                refine Vt rfl rfl c36 ?_
                refine Va (Vf rfl tf_36_1 ts_3 (by decide)) rfl ?_
                refine Vt rfl rfl c36 ?_
                refine Va (Vl rfl (Vk rfl rfl) rfl ta_3 rfl) rfl ?_
                refine Vt rfl rfl c36 ?_
                refine Va (Xh rfl rfl) rfl ?_
                refine Vt rfl rfl c36 ?_
                refine Va (Vj rfl) rfl ?_
                refine Vt rfl rfl c37 ?_
                refine Va (Vf rfl tf_36_1 ts_3 (by decide)) rfl ?_
                refine Vt rfl rfl c37 ?_
                refine Va (Vl rfl (Vk rfl rfl) rfl ta_3 rfl) rfl ?_
                refine Vt rfl rfl c37 ?_
                refine Va (Vo rfl) rfl ?_
                refine Vt rfl rfl c37 ?_
                refine Va (Xb (Xc rfl rfl te_23) (congrArg (fun n : Nat => Ya .i64 (n : Int)) (Yg _))) rfl ?_
                refine Vt rfl rfl c37 ?_
                refine Va (rd_geq rfl rfl) rfl ?_
                refine Vt rfl rfl c36 ?_
                refine Va (Vq (congrArg Yb c37) rfl) rfl ?_
                refine Vt rfl rfl c36 ?_
                refine Va (Vj rfl) rfl ?_
                refine Vb rfl rfl (neT c38) rfl ?_
                refine Vb rfl rfl (neT c38) rfl ?_
                refine Vb rfl rfl (neT c38) rfl ?_
                refine Vb rfl rfl (neT c38) rfl ?_
                refine Vt rfl rfl c36 ?_
                refine Va (Vp (congrArg Yb c38) rfl) rfl ?_
                refine Vt rfl rfl c36 ?_
                refine Va (Vj rfl) rfl ?_
                refine Vb rfl rfl (by decide) rfl ?_
                refine Vb rfl rfl (by decide) rfl ?_
                refine Vb rfl rfl (by decide) rfl ?_
                refine Vb rfl rfl (by decide) rfl ?_
                refine Vb rfl rfl (by decide) rfl ?_
                refine Vb rfl rfl (by decide) rfl ?_
                refine Vb rfl rfl (by decide) rfl ?_
                refine Vb rfl rfl (by decide) rfl ?_
                refine Vt rfl rfl c36 ?_
                refine Va (Vp rfl rfl) rfl ?_
                refine Va (Vp (congrArg Yb c36) rfl) rfl ?_
                refine Vd ?_
                obtain rfl := Yc hF
                refine Vw ?_
                exact Xa rfl [] (by decide) ⟨Vn rfl (.vs _ _), Vn rfl (.int _ _), Vn rfl (.bool _), trivial⟩ trivial
               ·have hF := Xg c38 hF
                rcases Yf (decide (x7.Other = s2)) with c39 | c39
                ·have hF := Xf c39 hF
                 refine Va (Vf rfl tf_36_1 ts_3 (by decide)) rfl ?_
                 refine Va (Vl rfl (Vk rfl rfl) rfl ta_3 rfl) rfl ?_
                 refine Va (Xp rfl rfl) rfl ?_
                 refine Va (Vj rfl) rfl ?_
                 refine Vt rfl rfl c36 ?_
                 refine Va (Vf rfl tf_36_1 ts_3 (by decide)) rfl ?_
                 refine Vt rfl rfl c36 ?_
                 refine Va (Vl rfl (Vk rfl rfl) rfl ta_3 rfl) rfl ?_
                 refine Vt rfl rfl c36 ?_
                 refine Va (Xh rfl rfl) rfl ?_
                 refine Vt rfl rfl c36 ?_
                 refine Va (Vj rfl) rfl ?_
                 refine Vt rfl rfl c37 ?_
                 refine Va (Vf rfl tf_36_1 ts_3 (by decide)) rfl ?_
                 refine Vt rfl rfl c37 ?_
                 refine Va (Vl rfl (Vk rfl rfl) rfl ta_3 rfl) rfl ?_
                 refine Vt rfl rfl c37 ?_
                 refine Va (Vo rfl) rfl ?_
                 refine Vt rfl rfl c37 ?_
                 refine Va (Xb (Xc rfl rfl te_23) (congrArg (fun n : Nat => Ya .i64 (n : Int)) (Yg _))) rfl ?_
                 refine Vt rfl rfl c37 ?_
                 refine Va (rd_geq rfl rfl) rfl ?_
                 refine Vt rfl rfl c36 ?_
                 refine Va (Vq (congrArg Yb c37) rfl) rfl ?_
                 refine Vt rfl rfl c36 ?_
                 refine Va (Vj rfl) rfl ?_
                 refine Vt rfl rfl c38 ?_
                 refine Va (Vf rfl tf_36_1 ts_3 (by decide)) rfl ?_
                 refine Vt rfl rfl c38 ?_
                 refine Va (Vl rfl (Vk rfl rfl) rfl ta_3 rfl) rfl ?_
                 refine Vt rfl rfl c38 ?_
                 refine Va (Vi rfl) rfl ?_
                 refine Vt rfl rfl c38 ?_
                 refine Va (Xx rfl rfl) rfl ?_
                 refine Vt rfl rfl c36 ?_
                 refine Va (Vq (congrArg Yb c38) rfl) rfl ?_
                 refine Vt rfl rfl c36 ?_
                 refine Va (Vj rfl) rfl ?_
                 refine Vb rfl rfl (neT c39) rfl ?_
                 refine Vb rfl rfl (neT c39) rfl ?_
                 refine Vb rfl rfl (neT c39) rfl ?_
                 refine Vb rfl rfl (neT c39) rfl ?_
                 refine Vb rfl rfl (neT c39) rfl ?_
                 refine Vb rfl rfl (neT c39) rfl ?_
                 refine Vb rfl rfl (neT c39) rfl ?_
                 refine Vb rfl rfl (neT c39) rfl ?_
                 refine Vt rfl rfl c36 ?_
                 refine Va (Vp (congrArg Yb c39) rfl) rfl ?_
                 refine Va (Vp (congrArg Yb c36) rfl) rfl ?_
                 refine Vd ?_
                 obtain rfl := Yc hF
                 refine Vw ?_
                 exact Xa rfl [] (by decide) ⟨Vn rfl (.vs _ _), Vn rfl (.int _ _), Vn rfl (.bool _), trivial⟩ trivial
                ·have hF := Xg c39 hF
                 obtain ⟨x40, h41, hF⟩ := Xr hF
                 refine Va (Vf rfl tf_36_1 ts_3 (by decide)) rfl ?_
                 refine Va (Vl rfl (Vk rfl rfl) rfl ta_3 rfl) rfl ?_
                 refine Va (Xp rfl rfl) rfl ?_
                 refine Va (Vj rfl) rfl ?_
                 refine Vt rfl rfl c36 ?_
                 refine Va (Vf rfl tf_36_1 ts_3 (by decide)) rfl ?_
                 refine Vt rfl rfl c36 ?_
                 refine Va (Vl rfl (Vk rfl rfl) rfl ta_3 rfl) rfl ?_
                 refine Vt rfl rfl c36 ?_
                 refine Va (Xh rfl rfl) rfl ?_
                 refine Vt rfl rfl c36 ?_
                 refine Va (Vj rfl) rfl ?_
                 refine Vt rfl rfl c37 ?_
                 refine Va (Vf rfl tf_36_1 ts_3 (by decide)) rfl ?_
                 refine Vt rfl rfl c37 ?_
                 refine Va (Vl rfl (Vk rfl rfl) rfl ta_3 rfl) rfl ?_
                 refine Vt rfl rfl c37 ?_
                 refine Va (Vo rfl) rfl ?_
                 refine Vt rfl rfl c37 ?_
                 refine Va (Xb (Xc rfl rfl te_23) (congrArg (fun n : Nat => Ya .i64 (n : Int)) (Yg _))) rfl ?_
                 refine Vt rfl rfl c37 ?_
                 refine Va (rd_geq rfl rfl) rfl ?_
                 refine Vt rfl rfl c36 ?_
                 refine Va (Vq (congrArg Yb c37) rfl) rfl ?_
                 refine Vt rfl rfl c36 ?_
                 refine Va (Vj rfl) rfl ?_
                 refine Vt rfl rfl c38 ?_
                 refine Va (Vf rfl tf_36_1 ts_3 (by decide)) rfl ?_
                 refine Vt rfl rfl c38 ?_
                 refine Va (Vl rfl (Vk rfl rfl) rfl ta_3 rfl) rfl ?_
                 refine Vt rfl rfl c38 ?_
                 refine Va (Vi rfl) rfl ?_
                 refine Vt rfl rfl c38 ?_
                 refine Va (Xx rfl rfl) rfl ?_
                 refine Vt rfl rfl c36 ?_
                 refine Va (Vq (congrArg Yb c38) rfl) rfl ?_
                 refine Vt rfl rfl c36 ?_
                 refine Va (Vj rfl) rfl ?_
                 refine Vt rfl rfl c39 ?_
                 refine Va (Vo rfl) rfl ?_
                 refine Vt rfl rfl c39 ?_
                 refine Va (Vf rfl tf_36_1 ts_3 (by decide)) rfl ?_
                 refine Vt rfl rfl c39 ?_
                 refine Va (Vl rfl (Vk rfl rfl) rfl ta_3 rfl) rfl ?_
                 refine Vt rfl rfl c39 ?_
                 refine Va (Xb (Xk rfl rfl h41 te_23 ts_36) (v' := .vptr [.int .i64 x40.Road, .int .i64 x40.Other, .vs 1 (Xz (Ya .i64) x40.Rests)] 0) rfl) rfl ?_
                 refine Vt rfl rfl c39 ?_
                 refine Va (rd_fieldVaddr rfl tf_36_1 ts_3 (by decide)) rfl ?_
                 refine Vt rfl rfl c39 ?_
                 refine Va (Xe rfl ta_3 rfl) rfl ?_
                 refine Vt rfl rfl c39 ?_
                 refine Va (Vi rfl) rfl ?_
                 refine Vt rfl rfl c39 ?_
                 refine Va (Xp rfl rfl) rfl ?_
                 refine Vt rfl rfl c36 ?_
                 refine Va (Vq (congrArg Yb c39) rfl) rfl ?_
                 refine Va (Vp (congrArg Yb c36) rfl) rfl ?_
                 refine Vd ?_
                 obtain rfl := Yc hF
                 refine Vw ?_
                 exact Xa rfl [] (by decide) ⟨Vn rfl (.vs _ _), Vn rfl (.int _ _), Vn rfl (.bool _), trivial⟩ trivial
             ·have hF := Xg c36 hF
              refine Va (Vf rfl tf_36_1 ts_3 (by decide)) rfl ?_
              refine Va (Vl rfl (Vk rfl rfl) rfl ta_3 rfl) rfl ?_
              refine Va (Xp rfl rfl) rfl ?_
              refine Va (Vj rfl) rfl ?_
              refine Vb rfl rfl (neF c36) rfl ?_
              refine Vb rfl rfl (neF c36) rfl ?_
              refine Vb rfl rfl (neF c36) rfl ?_
              refine Vb rfl rfl (neF c36) rfl ?_
              refine Vr rfl rfl rfl ?_
              refine Vr rfl rfl rfl ?_
              refine Vr rfl rfl rfl ?_
              refine Vr rfl rfl rfl ?_
              refine Vr rfl rfl rfl ?_
              refine Vb rfl rfl (neF c36) rfl ?_
              refine Vb rfl rfl (neF c36) rfl ?_
              refine Vr rfl rfl rfl ?_
              refine Vr rfl rfl rfl ?_
              refine Vr rfl rfl rfl ?_
              refine Vr rfl rfl rfl ?_
              refine Vb rfl rfl (neF c36) rfl ?_
              refine Vb rfl rfl (neF c36) rfl ?_
              refine Vr rfl rfl rfl ?_
              refine Vr rfl rfl rfl ?_
              refine Vr rfl rfl rfl ?_
              refine Vr rfl rfl rfl ?_
              refine Vr rfl rfl rfl ?_
              refine Vr rfl rfl rfl ?_
              refine Vr rfl rfl rfl ?_
              refine Vr rfl rfl rfl ?_
              refine Vb rfl rfl (neF c36) rfl ?_
              refine Va (Vq (congrArg Yb c36) rfl) rfl ?_
              refine Vd ?_
              obtain rfl := Yc hF
              refine Vw ?_
              exact Xa rfl [] (by decide) ⟨Vn rfl (.vs _ _), Vn rfl (.int _ _), Vn rfl (.bool _), trivial⟩ trivial
            ·rintro _ _ _ _ ⟨rfl, hw⟩
             refine ⟨_, _, _, hw, ?_⟩
             refine Vu rfl (fun c42 => ?_) (fun c42 => ?_)
             ·have hF := Xf c42 hF
              refine Ve ?_
              refine Vc ?_
              refine Va (Vv rfl) rfl ?_
              refine Vd ?_
              refine Vx ?_
              obtain rfl := Yc hF
              refine Vw ?_
              exact Vg ⟨rfl, trivial⟩
             ·have hF := Xg c42 hF
              refine Vz ?_
              refine Vc ?_
              refine Va (Vi rfl) rfl ?_
              refine Va (rd_add rfl rfl rfl) rfl ?_
              refine Va (Vv rfl) rfl ?_
              refine Vd ?_
              obtain rfl := Yc hF
              refine Vw ?_
              exact Vg ⟨rfl, rfl, trivial⟩
    ·have hF := Xg c6 hF
     refine vwp_exit ?_
     obtain rfl := Yc hF
     refine Vw ?_
     exact Vg trivial
   ·rcases o3 with j4 | j5
    ·replace hF := elimL hF
     rintro _ _ _ _ ⟨rfl, hw⟩
     refine ⟨_, _, _, hw, ?_⟩
     obtain rfl := Yc hF
     refine fnR ?_
     exact Vg ⟨rfl, trivial⟩
    ·replace hF := elimR hF
     rintro _ _ _ _ ⟨rfl, hw⟩
     refine ⟨_, _, _, hw, ?_⟩
     refine Ve ?_
     refine Vc ?_
     refine Va (Vv rfl) rfl ?_
     refine Vd ?_
     refine Vx ?_
     obtain rfl := Yc hF
     refine fnR ?_
     exact Vg ⟨rfl, trivial⟩
 ·rintro _ _ _ _ ⟨he, hw⟩
  refine ⟨_, _, _, hw, ?_⟩
  exact Xj he [.int .i64 r] ⟨rfl, trivial⟩ (.int _ _) ⟨rfl, rfl⟩

theorem F_ref08_Open_ok {p0 : List T_Door} {p1 : List Int} {r : List Int} (hF : F_ref08_Open p0 p1 = some r) (low : List AObj) :
    Xu Try.prog 17 [.vs 3 (Xz T_Door.enc p0), .vs 1 (Xz (Ya .i64) p1)] low fun x low' => x = .vs 1 (Xz (Ya .i64) r) ∧ low' = low := by
 refine Vy (nt := 50) (rs := [.tmp 4]) Try.func17 rfl rfl (Yd rfl) rfl ?_
 refine Vm (Q' := FnE (fun E' lw lc => Xi E' lw lc [(4, .vs 1 (Xz (Ya .i64) r))] low [])) ?_ ?_
 ·unfold F_ref08_Open at hF
  refine Ve ?_
  refine Vc ?_
  refine Va (rd_nv (sz := 1) (rd_asN rfl)) rfl ?_
  refine Vd ?_
  refine Ve ?_
  refine Ve ?_
  obtain ⟨o1, ho1, hF⟩ := Xr hF
  refine Vm (Q' := (fun o1 => OnlyE .normal (fun E' lw lc => Xi E' lw lc [(0, .vs 3 (Xz T_Door.enc p0)), (1, .vs 1 (Xz (Ya .i64) p1)), (17, .bool o1)] low [])) o1) ?_ ?_
  ·replace hF := ho1
   refine Vc ?_
   obtain ⟨x2, h3, hF⟩ := Xr hF
   rcases Yf (decide (x2 ≠ 0)) with c4 | c4
   ·have hF := Xf c4 hF
    refine Va (Vo rfl) rfl ?_
    refine Vh (Vs rfl Try.call11 (F_ref08_Check_ok h3 _)) rfl ?_
    refine Va (Xp rfl rfl) rfl ?_
    refine Va (Vj rfl) rfl ?_
    refine Vb rfl rfl (neT c4) rfl ?_
    refine Vb rfl rfl (neT c4) rfl ?_
    refine Vb rfl rfl (neT c4) rfl ?_
    refine Vb rfl rfl (neT c4) rfl ?_
    refine Vb rfl rfl (neT c4) rfl ?_
    refine Va (Vp (congrArg Yb c4) rfl) rfl ?_
    refine Vd ?_
    obtain rfl := Yc hF
    refine Vw ?_
    exact Vg ⟨rfl, rfl, rfl, trivial⟩
   ·have hF := Xg c4 hF
    refine Va (Vo rfl) rfl ?_
    refine Vh (Vs rfl Try.call11 (F_ref08_Check_ok h3 _)) rfl ?_
    refine Va (Xp rfl rfl) rfl ?_
    refine Va (Vj rfl) rfl ?_
    refine Vt rfl rfl c4 ?_
    refine Va (Vo rfl) rfl ?_
    refine Vt rfl rfl c4 ?_
    refine Va (Xb (Xc rfl rfl te_25) (congrArg (fun n : Nat => Ya .i64 (n : Int)) (Yg _))) rfl ?_
    refine Vt rfl rfl c4 ?_
    refine Va (Vo rfl) rfl ?_
    refine Vt rfl rfl c4 ?_
    refine Va (Xb (Xc rfl rfl te_23) (congrArg (fun n : Nat => Ya .i64 (n : Int)) (Yg _))) rfl ?_
    refine Vt rfl rfl c4 ?_
    refine Va (Xp rfl rfl) rfl ?_
    refine Va (Vq (congrArg Yb c4) rfl) rfl ?_
    refine Vd ?_
    obtain rfl := Yc hF
    refine Vw ?_
    exact Vg ⟨rfl, rfl, rfl, trivial⟩
  ·rintro _ _ _ _ ⟨rfl, hw⟩
   refine ⟨_, _, _, hw, ?_⟩
   refine Vu rfl (fun c5 => ?_) (fun c5 => ?_)
   ·have hF := Xf c5 hF
    refine Ve ?_
    refine Vc ?_
    refine Va (rd_nv (sz := 1) (rd_asN rfl)) rfl ?_
    refine Vd ?_
    refine Vx ?_
    obtain rfl := Yc hF
    refine fnR ?_
    exact Vg ⟨rfl, trivial⟩
   ·have hF := Xg c5 hF
    refine Vz ?_
    refine Ve ?_
    refine Vc ?_
    refine Vh (vef_nilsN rfl rfl 3 1 (Ye _) (rd_asN rfl)) rfl ?_
    refine Vd ?_
    refine Ve ?_
    refine Ve ?_
    refine Vc ?_
    refine Va (Vv rfl) rfl ?_
    refine Vd ?_
    refine Xd ?_
    obtain ⟨o7, ho7, hF⟩ := Xr hF
    refine Vm (vwp_loopC (F_ref08_Open_L1 p0 p1) (fun s6 E' lw lc => Xi E' lw lc [(0, .vs 3 (Xz T_Door.enc p0)), (1, .vs 1 (Xz (Ya .i64) p1)), (5, .sl (low.length + 0) 0 0 (s6.2).length), (6, .int .i64 s6.1)] low [⟨3, 1, Xz (Ya .i64) s6.2, 0⟩]) (fun o7 => OnlyE (.exit 0) (fun E' lw lc => Xi E' lw lc [(5, .sl (low.length + 0) 0 0 (o7).length)] low [⟨3, 1, Xz (Ya .i64) o7, 0⟩])) ho7 ?_ (by rintro _ _ _ _ ⟨h, _⟩ <;> cases h) ?_) ?_
    ·exact Vg ⟨rfl, rfl, rfl, rfl, trivial⟩
    ·rintro s6 os6 _ _ _ hF hw
     unfold F_ref08_Open_L1 at hF
     refine vwp_weak hw ?_
     refine Ve ?_
     refine Ve ?_
     refine Vc ?_
     refine Va (Vi rfl) rfl ?_
     refine Va (Vo rfl) rfl ?_
     refine Va (Xb (Xc rfl rfl te_23) (congrArg (fun n : Nat => Ya .i64 (n : Int)) (Yg _))) rfl ?_
     refine Va (Xh rfl rfl) rfl ?_
     refine Vd ?_
     refine Vu rfl (fun c8 => ?_) (fun c8 => ?_)
     ·have hF := Xf c8 hF
      refine Vz ?_
      refine Ve ?_
      obtain ⟨o9, ho9, hF⟩ := Xr hF
      refine Vm (Q' := (fun o9 => OnlyE .normal (fun E' lw lc => Xi E' lw lc [(0, .vs 3 (Xz T_Door.enc p0)), (1, .vs 1 (Xz (Ya .i64) p1)), (5, .sl (low.length + 0) 0 0 (o9).length), (6, .int .i64 s6.1)] low [⟨3, 1, Xz (Ya .i64) o9, 0⟩])) o9) ?_ ?_
      ·replace hF := ho9
       refine Xd ?_
       refine Ve ?_
       refine Vc ?_
       obtain ⟨x10, h11, hF⟩ := Xr hF
       refine Va (Vo rfl) rfl ?_
       refine Va (Vi rfl) rfl ?_
       refine Va (Xb (Xk rfl rfl h11 te_23 ts_36) (v' := .vptr [.int .i64 x10.Road, .int .i64 x10.Other, .vs 1 (Xz (Ya .i64) x10.Rests)] 0) rfl) rfl ?_
       refine Va (rd_fieldVaddr rfl tf_36_1 ts_3 (by decide)) rfl ?_
       refine Va (Xe rfl ta_3 rfl) rfl ?_
       refine Va (Vv rfl) rfl ?_
       refine Vd ?_
       refine Ve ?_
       obtain ⟨o12, ho12, hF⟩ := Xr hF
       refine Vm (Q' := (fun o12 => OnlyE .normal (fun E' lw lc => Xi E' lw lc [(0, .vs 3 (Xz T_Door.enc p0)), (1, .vs 1 (Xz (Ya .i64) p1)), (5, .sl (low.length + 0) 0 0 (s6.2).length), (6, .int .i64 s6.1), (44, .bool o12)] low [⟨3, 1, Xz (Ya .i64) s6.2, 0⟩])) o12) ?_ ?_
       ·replace hF := ho12
        refine Vc ?_
        rcases Yf (decide (0 ≤ x10.Other)) with c13 | c13
        ·have hF := Xf c13 hF
         obtain ⟨x14, h15, hF⟩ := Xr hF
         rcases Yf (decide (x14 ≠ 0)) with c16 | c16
         ·have hF := Xf c16 hF
          obtain ⟨x17, h18, hF⟩ := Xr hF
          refine Va (Vi rfl) rfl ?_
          refine Va (rd_geq rfl rfl) rfl ?_
          refine Va (Vj rfl) rfl ?_
          refine Vt rfl rfl c13 ?_
          refine Va (Vo rfl) rfl ?_
          refine Vt rfl rfl c13 ?_
          refine Va (Vi rfl) rfl ?_
          refine Vt rfl rfl c13 ?_
          refine Va (Xb (Xk rfl rfl h15 te_25 ts_3) (v' := .vptr [.int .i64 x14] 0) rfl) rfl ?_
          refine Vt rfl rfl c13 ?_
          refine Va (Xe rfl ta_3 rfl) rfl ?_
          refine Vt rfl rfl c13 ?_
          refine Va (Xp rfl rfl) rfl ?_
          refine Va (Vp (congrArg Yb c13) rfl) rfl ?_
          refine Va (Vj rfl) rfl ?_
          refine Vt rfl rfl c16 ?_
          refine Va (Vo rfl) rfl ?_
          refine Vt rfl rfl c16 ?_
          refine Va (Vi rfl) rfl ?_
          refine Vt rfl rfl c16 ?_
          refine Va (Xb (Xk rfl rfl h18 te_25 ts_3) (v' := .vptr [.int .i64 x17] 0) rfl) rfl ?_
          refine Vt rfl rfl c16 ?_
          refine Va (Xe rfl ta_3 rfl) rfl ?_
          refine Vt rfl rfl c16 ?_
          refine Va (Xp rfl rfl) rfl ?_
          refine Va (Vp (congrArg Yb c16) rfl) rfl ?_
          refine Vd ?_
          obtain rfl := Yc hF
          refine Vw ?_
          exact Vg ⟨rfl, rfl, rfl, rfl, rfl, trivial⟩
         ·have hF := Xg c16 hF
          refine Va (Vi rfl) rfl ?_
          refine Va (rd_geq rfl rfl) rfl ?_
          refine Va (Vj rfl) rfl ?_
          refine Vt rfl rfl c13 ?_
          refine Va (Vo rfl) rfl ?_
          refine Vt rfl rfl c13 ?_
          refine Va (Vi rfl) rfl ?_
          refine Vt rfl rfl c13 ?_
          refine Va (Xb (Xk rfl rfl h15 te_25 ts_3) (v' := .vptr [.int .i64 x14] 0) rfl) rfl ?_
          refine Vt rfl rfl c13 ?_
          refine Va (Xe rfl ta_3 rfl) rfl ?_
          refine Vt rfl rfl c13 ?_
          refine Va (Xp rfl rfl) rfl ?_
          refine Va (Vp (congrArg Yb c13) rfl) rfl ?_
          refine Va (Vj rfl) rfl ?_
          refine Vb rfl rfl (neF c16) rfl ?_
          refine Vb rfl rfl (neF c16) rfl ?_
          refine Vb rfl rfl (neF c16) rfl ?_
          refine Vb rfl rfl (neF c16) rfl ?_
          refine Vb rfl rfl (neF c16) rfl ?_
          refine Va (Vq (congrArg Yb c16) rfl) rfl ?_
          refine Vd ?_
          obtain rfl := Yc hF
          refine Vw ?_
          exact Vg ⟨rfl, rfl, rfl, rfl, rfl, trivial⟩
        ·have hF := Xg c13 hF
         refine Va (Vi rfl) rfl ?_
         refine Va (rd_geq rfl rfl) rfl ?_
         refine Va (Vj rfl) rfl ?_
         refine Vb rfl rfl (neF c13) rfl ?_
         refine Vb rfl rfl (neF c13) rfl ?_
         refine Vb rfl rfl (neF c13) rfl ?_
         refine Vb rfl rfl (neF c13) rfl ?_
         refine Vb rfl rfl (neF c13) rfl ?_
         refine Va (Vq (congrArg Yb c13) rfl) rfl ?_
         refine Va (Vj rfl) rfl ?_
         refine Vb rfl rfl (by decide) rfl ?_
         refine Vb rfl rfl (by decide) rfl ?_
         refine Vb rfl rfl (by decide) rfl ?_
         refine Vb rfl rfl (by decide) rfl ?_
         refine Vb rfl rfl (by decide) rfl ?_
         refine Va (Vq rfl rfl) rfl ?_
         refine Vd ?_
         obtain rfl := Yc hF
         refine Vw ?_
         exact Vg ⟨rfl, rfl, rfl, rfl, rfl, trivial⟩
       ·rintro _ _ _ _ ⟨rfl, hw⟩
        refine ⟨_, _, _, hw, ?_⟩
        refine Vu rfl (fun c19 => ?_) (fun c19 => ?_)
        ·have hF := Xf c19 hF
         refine Vc ?_
         obtain ⟨x20, h21, hF⟩ := Xr hF
         refine Va (rd_mvL rfl) rfl ?_
         refine Va (Vi rfl) rfl ?_
         refine Vh (vef_litF (es := Xz (Ya .i64) [s6.1]) ⟨rfl, rfl, trivial⟩ rfl rfl (nt_all rfl) te_25 ts_3 tz_3 rfl rfl (Ye _) (by decide) (lt_map (fun _ => .int _ _))) rfl ?_
         refine Vh (vef_apL (f := (Ya .i64)) (l := s6.2) (ys := [s6.1]) rfl rfl (Vk rfl rfl) rfl (src_vs rfl) te_25 ts_3 tb_3 (by decide) tz_3 rfl h21 (Xw rfl rfl)) rfl ?_
         refine Va (rd_asL rfl) rfl ?_
         refine Vd ?_
         obtain rfl := Yc hF
         refine Vw ?_
         exact Xa rfl [(0, 0 + 1)] (by decide) ⟨Vn rfl (.vs _ _), Vn rfl (.vs _ _), rn_sl 0 0 rfl rfl, Vn rfl (.int _ _), trivial⟩ ⟨⟨_, rfl, rfl, .same _ _ _ _ (ltObj_map (fun _ => .int _ _))⟩, trivial⟩
        ·have hF := Xg c19 hF
         refine Vz ?_
         obtain rfl := Yc hF
         refine Vw ?_
         exact Vg ⟨rfl, rfl, rfl, rfl, trivial⟩
      ·rintro _ _ _ _ ⟨rfl, hw⟩
       refine ⟨_, _, _, hw, ?_⟩
       refine Vc ?_
       refine Va (Vi rfl) rfl ?_
       refine Va (rd_add rfl rfl rfl) rfl ?_
       refine Va (Vv rfl) rfl ?_
       refine Vd ?_
       obtain rfl := Yc hF
       refine Vw ?_
       exact Vg ⟨rfl, rfl, rfl, rfl, trivial⟩
     ·have hF := Xg c8 hF
      refine vwp_exit ?_
      obtain rfl := Yc hF
      refine Vw ?_
      exact Vg ⟨rfl, trivial⟩
    ·rintro _ _ _ _ ⟨rfl, hw⟩
     refine ⟨_, _, _, hw, ?_⟩
     refine Ve ?_
     refine Vc ?_
     refine Va (rd_mvL rfl) rfl ?_
     refine Va (rd_asL rfl) rfl ?_
     refine Vd ?_
     refine Vx ?_
     obtain rfl := Yc hF
     refine fnR ?_
     refine Weak.trans (weak_freezeN (E' := [(4, .vs 1 (Xz (Ya .i64) o7))]) (loc1 := [⟨3, 1, [], 0 + 1⟩]) rfl 0 rfl (lt_map (fun _ => .int _ _)) ⟨cv_sl rfl rfl rfl (full_take rfl), trivial⟩ ⟨.refl _, trivial⟩) ?_
     exact Xa rfl [] (by decide) ⟨Vn rfl (.vs _ _), trivial⟩ trivial
 ·rintro _ _ _ _ ⟨he, hw⟩
  refine ⟨_, _, _, hw, ?_⟩
  exact Xj he [.vs 1 (Xz (Ya .i64) r)] ⟨rfl, trivial⟩ (.vs _ _) ⟨rfl, rfl⟩

theorem F_law08_DoorOpens_ok {p0 : List Int} {p1 : List Int} {p2 : Int} {p3 : Int} {r : Bool} (hF : F_law08_DoorOpens p0 p1 p2 p3 = some r) (low : List AObj) :
    Xu Try.prog 4 [.vs 1 (Xz (Ya .u8) p0), .vs 1 (Xz (Ya .i64) p1), .int .i64 p2, .int .i64 p3] low fun x low' => x = .bool r ∧ low' = low := by
 refine Vy (nt := 37) (rs := [.tmp 8]) Try.func4 rfl rfl (Yd rfl) rfl ?_
 refine Vm (Q' := FnE (fun E' lw lc => Xi E' lw lc [(8, .bool r)] low [])) ?_ ?_
 ·unfold F_law08_DoorOpens at hF
  refine Ve ?_
  refine Vc ?_
  refine Va (Xm rfl) rfl ?_
  refine Vd ?_
  refine Ve ?_
  refine Vc ?_
  obtain ⟨x1, h2, hF⟩ := Xr hF
  refine Va (Vo rfl) rfl ?_
  refine Va (Vi rfl) rfl ?_
  refine Va (Vi rfl) rfl ?_
  refine Vh (Vs rfl Try.call9 (F_law08_doors_ok h2 _)) rfl ?_
  refine Va (rd_mvT rfl) rfl ?_
  refine Va (rd_extract rfl rfl) rfl ?_
  refine Va (rd_extract rfl rfl) rfl ?_
  refine Va (rd_asV rfl) rfl ?_
  refine Va (rd_asV rfl) rfl ?_
  refine Vd ?_
  refine Ve ?_
  refine Vc ?_
  obtain ⟨x3, h4, hF⟩ := Xr hF
  obtain ⟨x5, h6, hF⟩ := Xr hF
  obtain ⟨x7, h8, hF⟩ := Xr hF
  rcases Yf x7 with c9 | c9
  ·have hF := Xf c9 hF
   obtain ⟨x10, h11, hF⟩ := Xr hF
   obtain ⟨x12, h13, hF⟩ := Xr hF
   obtain ⟨x14, h15, hF⟩ := Xr hF
   rcases Yf x14 with c16 | c16
   ·have hF := Xf c16 hF
    obtain ⟨x17, h18, hF⟩ := Xr hF
    refine Va (Vo rfl) rfl ?_
    refine Va (Vo rfl) rfl ?_
    refine Vh (Vs rfl Try.call16 (F_door_Open_ok h4 _)) rfl ?_
    refine Va (Vo rfl) rfl ?_
    refine Va (Vo rfl) rfl ?_
    refine Vh (Vs rfl Try.call17 (F_ref08_Open_ok h6 _)) rfl ?_
    refine Vh (Vs rfl Try.call15 (F_ref01_Ints_ok h8 _)) rfl ?_
    refine Va (Vj rfl) rfl ?_
    refine Vt rfl rfl c9 ?_
    refine Va (Vo rfl) rfl ?_
    refine Vt rfl rfl c9 ?_
    refine Va (Vo rfl) rfl ?_
    refine Vt rfl rfl c9 ?_
    refine Vh (Vs rfl Try.call16 (F_door_Open_ok h11 _)) rfl ?_
    refine Vt rfl rfl c9 ?_
    refine Va (Vo rfl) rfl ?_
    refine Vt rfl rfl c9 ?_
    refine Va (Vo rfl) rfl ?_
    refine Vt rfl rfl c9 ?_
    refine Vh (Vs rfl Try.call17 (F_ref08_Open_ok h13 _)) rfl ?_
    refine Vt rfl rfl c9 ?_
    refine Vh (Vs rfl Try.call15 (F_ref01_Ints_ok h15 _)) rfl ?_
    refine Va (Vp (congrArg Yb c9) rfl) rfl ?_
    refine Va (Vj rfl) rfl ?_
    refine Vt rfl rfl c16 ?_
    refine Vh (Vs rfl Try.call8 (F_law08_awake_ok h18 _)) rfl ?_
    refine Va (Vp (congrArg Yb c16) rfl) rfl ?_
    refine Va (Xm rfl) rfl ?_
    refine Vd ?_
    refine Vx ?_
    obtain rfl := Yc hF
    refine fnR ?_
    exact Vg ⟨rfl, trivial⟩
   ·have hF := Xg c16 hF
    refine Va (Vo rfl) rfl ?_
    refine Va (Vo rfl) rfl ?_
    refine Vh (Vs rfl Try.call16 (F_door_Open_ok h4 _)) rfl ?_
    refine Va (Vo rfl) rfl ?_
    refine Va (Vo rfl) rfl ?_
    refine Vh (Vs rfl Try.call17 (F_ref08_Open_ok h6 _)) rfl ?_
    refine Vh (Vs rfl Try.call15 (F_ref01_Ints_ok h8 _)) rfl ?_
    refine Va (Vj rfl) rfl ?_
    refine Vt rfl rfl c9 ?_
    refine Va (Vo rfl) rfl ?_
    refine Vt rfl rfl c9 ?_
    refine Va (Vo rfl) rfl ?_
    refine Vt rfl rfl c9 ?_
    refine Vh (Vs rfl Try.call16 (F_door_Open_ok h11 _)) rfl ?_
    refine Vt rfl rfl c9 ?_
    refine Va (Vo rfl) rfl ?_
    refine Vt rfl rfl c9 ?_
    refine Va (Vo rfl) rfl ?_
    refine Vt rfl rfl c9 ?_
    refine Vh (Vs rfl Try.call17 (F_ref08_Open_ok h13 _)) rfl ?_
    refine Vt rfl rfl c9 ?_
    refine Vh (Vs rfl Try.call15 (F_ref01_Ints_ok h15 _)) rfl ?_
    refine Va (Vp (congrArg Yb c9) rfl) rfl ?_
    refine Va (Vj rfl) rfl ?_
    refine Vb rfl rfl (neF c16) rfl ?_
    refine Va (Vq (congrArg Yb c16) rfl) rfl ?_
    refine Va (Xm rfl) rfl ?_
    refine Vd ?_
    refine Vx ?_
    obtain rfl := Yc hF
    refine fnR ?_
    exact Vg ⟨rfl, trivial⟩
  ·have hF := Xg c9 hF
   refine Va (Vo rfl) rfl ?_
   refine Va (Vo rfl) rfl ?_
   refine Vh (Vs rfl Try.call16 (F_door_Open_ok h4 _)) rfl ?_
   refine Va (Vo rfl) rfl ?_
   refine Va (Vo rfl) rfl ?_
   refine Vh (Vs rfl Try.call17 (F_ref08_Open_ok h6 _)) rfl ?_
   refine Vh (Vs rfl Try.call15 (F_ref01_Ints_ok h8 _)) rfl ?_
   refine Va (Vj rfl) rfl ?_
   refine Vb rfl rfl (neF c9) rfl ?_
   refine Vb rfl rfl (neF c9) rfl ?_
   refine Vb rfl rfl (neF c9) rfl ?_
   refine Vb rfl rfl (neF c9) rfl ?_
   refine Vb rfl rfl (neF c9) rfl ?_
   refine Vb rfl rfl (neF c9) rfl ?_
   refine Vb rfl rfl (neF c9) rfl ?_
   refine Va (Vq (congrArg Yb c9) rfl) rfl ?_
   refine Va (Vj rfl) rfl ?_
   refine Vb rfl rfl (by decide) rfl ?_
   refine Va (Vq rfl rfl) rfl ?_
   refine Va (Xm rfl) rfl ?_
   refine Vd ?_
   refine Vx ?_
   obtain rfl := Yc hF
   refine fnR ?_
   exact Vg ⟨rfl, trivial⟩
 ·rintro _ _ _ _ ⟨he, hw⟩
  refine ⟨_, _, _, hw, ?_⟩
  exact Xj he [.bool r] ⟨rfl, trivial⟩ (.bool _) ⟨rfl, rfl⟩

end Go.Proofs.Ytnmimlcnifflbaa
