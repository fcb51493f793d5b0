/- Printed by wip/lift/lift.py: the walks that show that the program computes them. -/
import Derived.Test.YtnmimlcnifflbaaR08T
import Derived.Test.YtnmimlcnifflbaaAmlDF
import Derived.Test.YtnmimlcnifflbaaL08D
namespace Go.Proofs.Ytnmimlcnifflbaa
open Go Go.Aml Go.L
attribute [local irreducible] VRd VEf VOp VOps VWp DOps
set_option linter.unusedVariables false
open Go.Aml renaming vops_rd → Va, vops_skip → Vb, vwp_region → Vc, vops_nil → Vd, vwp_seq → Ve, rd_fieldAddr → Vf, weak_sub → Vg, vops_efE → Vh, rd_mvI → Vi, rd_load1 → Vj, getO_N → Vk, rd_mvB → Vl, rn_low → Vm, rd_pickT → Vn, vwp_monoW → Vo, rd_pickF → Vp, rd_mvV → Vq, dops_skip → Vr, vops_skipX → Vs, vwp_cond → Vt, rd_asI → Vu, onlyE → Vv, vt1 → Vw, weak_pick → Vx, rd_to → Vy, vwp_ret → Vz, vwp_skip → Xa, vef_callP → Xb, vcalls_of_body → Xc, rd_lenV → Xd, rd_loadV1 → Xe, vwp_block → Xf, rd_ixV → Xg, bifT → Xh, bifF → Xi, rd_lss → Xj, rd_neq → Xk, Weak → Xl, dr1 → Xm, vef_store → Xn, bodyQ_pure → Xo, rd_asB → Xp, lenS → Xq, bnd → Xr, rd_mvP → Xs, vef_callS → Xt, neT → Xu, getI_some → Xv, rd_eql → Xw, setO_N → Xx, rd_nilPtr → Xy, VCalls → Xz, sets_nil → Ya, lt_agg → Yb
open List renaming map → Yc
open Go.Aml.PV renaming int → Yd
open Go.Aml.PV renaming bool → Ye
open Option.some renaming inj → Yf
open Nat renaming le_of_ble_eq_true → Yg
open Nat renaming succ_pos → Yh
open Bool renaming eq_false_or_eq_true → Yi
open List renaming length_map → Yj
set_option maxHeartbeats 4000000

theorem mixed : Try.prog.follows .mixedOrders = true := by kernel_rfl
def eqTab : EqTab := [(3, 1, []), (33, 3, [(0, 1, false, 3), (1, 1, false, 3)])]
theorem eqTab_ok : eqTabOk Try.prog eqTab = true := by kernel_rfl
theorem eqg_33 : Try.prog.eqGuardType Try.prog.depth 33 = false := by kernel_rfl

theorem F_door_Check_ok {p0 : List T_Door} {r : Int} (hF : F_door_Check p0 = some r) (low : List AObj) :
    Xz Try.prog 10 [.vs 3 (Yc T_Door.enc p0)] low fun x low' => x = .int .i64 r ∧ low' = low := by
 refine Xc (nt := 95) (rs := [.tmp 2]) Try.func10 rfl rfl (Yg rfl) rfl ?_
 refine Vo (Q' := FnE (fun E' lw lc => Xl E' lw lc [(2, .int .i64 r)] low [])) ?_ ?_
 ·unfold F_door_Check at hF
  refine Ve ?_
  refine Vc ?_
  refine Va (Vu rfl) rfl ?_
  refine Vd ?_
  refine Ve ?_
  refine Ve ?_
  refine Vc ?_
  refine Va (Vq rfl) rfl ?_
  refine Va (Vy (Xd rfl rfl te_23) (congrArg (fun n : Nat => Yd .i64 (n : Int)) (Yj _))) rfl ?_
  refine Va (rd_gtr rfl rfl) rfl ?_
  refine Vd ?_
  refine Vt rfl (fun c1 => ?_) (fun c1 => ?_)
  ·have hF := Xh c1 hF
   refine Ve ?_
   refine Vc ?_
   refine Va (Vu rfl) rfl ?_
   refine Vd ?_
   refine Vz ?_
   obtain rfl := Yf hF
   refine fnR ?_
   exact Vg ⟨rfl, trivial⟩
  ·have hF := Xi c1 hF
   refine Xa ?_
   refine Ve ?_
   refine Ve ?_
   refine Vc ?_
   refine Va (Vq rfl) rfl ?_
   refine Va (Vy (Xd rfl rfl te_23) (congrArg (fun n : Nat => Yd .i64 (n : Int)) (Yj _))) rfl ?_
   refine Va (Vi rfl) rfl ?_
   refine Vd ?_
   refine Xf ?_
   obtain ⟨o3, ho3, hF⟩ := Xr hF
   refine Vo (vwp_loopC (F_door_Check_L1 p0) (fun s2 E' lw lc => Xl E' lw lc [(0, .vs 3 (Yc T_Door.enc p0)), (11, .vs 3 (Yc T_Door.enc p0)), (12, .int .i64 ((p0).length : Int)), (13, .int .i64 s2)] low []) (Sum.elim (fun j4 => OnlyE .ret (fun E' lw lc => Xl E' lw lc [(2, .int .i64 j4)] low [])) (fun j5 => OnlyE (.exit 0) (fun E' lw lc => Xl E' lw lc [] low []))) ho3 ?_ (by rintro (_|_) _ _ _ ⟨h, _⟩ <;> cases h) ?_) ?_
   ·exact Vg ⟨rfl, rfl, rfl, rfl, trivial⟩
   ·rintro s2 os2 _ _ _ hF hw
    unfold F_door_Check_L1 at hF
    refine vwp_weak hw ?_
    refine Ve ?_
    refine Vc ?_
    refine Va (Xj rfl rfl) rfl ?_
    refine Vd ?_
    refine Ve ?_
    refine Vt rfl (fun c6 => ?_) (fun c6 => ?_)
    ·have hF := Xh c6 hF
     refine Xa ?_
     refine Ve ?_
     refine Xf ?_
     refine Ve ?_
     refine Vc ?_
     obtain ⟨x7, h8, hF⟩ := Xr hF
     refine Va (Vi rfl) rfl ?_
     refine Va (Vy (Xg rfl rfl h8 te_23 ts_36) (v' := .vptr [.int .i64 x7.Road, .int .i64 x7.Other, .vs 1 (Yc (Yd .i64) x7.Rests)] 0) rfl) rfl ?_
     refine Va (rd_loadVN (ds := [.int .i64 x7.Road, .int .i64 x7.Other, .vs 1 (Yc (Yd .i64) x7.Rests)]) rfl ta_36 ts_36 rfl rfl) rfl ?_
     refine Vh (vef_allocN rfl rfl tz_36 rfl rfl (Yh _) rfl) rfl ?_
     refine Va (Vu rfl) rfl ?_
     refine Vh (Xn (p := .agg [.int .i64 x7.Road, .int .i64 x7.Other, .vs 1 (Yc (Yd .i64) x7.Rests)]) (e' := .agg [.int .i64 x7.Road, .int .i64 x7.Other, .vs 1 (Yc (Yd .i64) x7.Rests)]) rfl (Vk rfl rfl) rfl rfl ts_36 rfl (nt_ne rfl) rfl (Yg rfl) rfl (Xx rfl rfl)) rfl ?_
     refine Vd ?_
     refine Ve ?_
     refine Ve ?_
     refine Vc ?_
     refine Va (Vf rfl tf_36_0 ts_3 (by decide)) rfl ?_
     refine Va (Vj rfl (Vk rfl rfl) rfl ta_3 rfl) rfl ?_
     refine Va (Xj rfl rfl) rfl ?_
     refine Vd ?_
     refine Vt rfl (fun c9 => ?_) (fun c9 => ?_)
     ·have hF := Xh c9 hF
      refine Ve ?_
      refine Vc ?_
      refine Va (Vu rfl) rfl ?_
      refine Vd ?_
      refine Vz ?_
      obtain rfl := Yf hF
      refine Vv ?_
      exact Vx rfl [] (by decide) ⟨Vm rfl (.int _ _), trivial⟩ trivial
     ·have hF := Xi c9 hF
      refine Xa ?_
      refine Ve ?_
      refine Ve ?_
      obtain ⟨o10, ho10, hF⟩ := Xr hF
      refine Vo (Q' := (fun o10 => OnlyE .normal (fun E' lw lc => Xl E' lw lc [(0, .vs 3 (Yc T_Door.enc p0)), (3, .int .i64 s2), (4, .ptr (low.length + 0) 0 0 0), (11, .vs 3 (Yc T_Door.enc p0)), (12, .int .i64 ((p0).length : Int)), (13, .int .i64 s2), (30, .bool o10)] low [⟨36, 3, [.agg [.int .i64 x7.Road, .int .i64 x7.Other, .vs 1 (Yc (Yd .i64) x7.Rests)]], 0⟩])) o10) ?_ ?_
      ·replace hF := ho10
       refine Vc ?_
       rcases Yi (decide (((x7.Rests).length : Int) < 2)) with c11 | c11
       ·have hF := Xh c11 hF
        refine Va (Vf rfl tf_36_2 ts_25 (by decide)) rfl ?_
        refine Va (Vj rfl (Vk rfl rfl) rfl ta_25 rfl) rfl ?_
        refine Va (Vy (Xd rfl rfl te_25) (congrArg (fun n : Nat => Yd .i64 (n : Int)) (Yj _))) rfl ?_
        refine Va (Xj rfl rfl) rfl ?_
        refine Va (Vl rfl) rfl ?_
        refine Vb rfl rfl (Xu c11) rfl ?_
        refine Vb rfl rfl (Xu c11) rfl ?_
        refine Vb rfl rfl (Xu c11) rfl ?_
        refine Vb rfl rfl (Xu c11) rfl ?_
        refine Va (Vn (congrArg Ye c11) rfl) rfl ?_
        refine Vd ?_
        obtain rfl := Yf hF
        refine Vv ?_
        exact Vg ⟨rfl, rfl, rfl, rfl, rfl, rfl, rfl, trivial⟩
       ·have hF := Xi c11 hF
        refine Va (Vf rfl tf_36_2 ts_25 (by decide)) rfl ?_
        refine Va (Vj rfl (Vk rfl rfl) rfl ta_25 rfl) rfl ?_
        refine Va (Vy (Xd rfl rfl te_25) (congrArg (fun n : Nat => Yd .i64 (n : Int)) (Yj _))) rfl ?_
        refine Va (Xj rfl rfl) rfl ?_
        refine Va (Vl rfl) rfl ?_
        refine Vw rfl rfl c11 ?_
        refine Va (Vf rfl tf_36_2 ts_25 (by decide)) rfl ?_
        refine Vw rfl rfl c11 ?_
        refine Va (Vj rfl (Vk rfl rfl) rfl ta_25 rfl) rfl ?_
        refine Vw rfl rfl c11 ?_
        refine Va (Vy (Xd rfl rfl te_25) (congrArg (fun n : Nat => Yd .i64 (n : Int)) (Yj _))) rfl ?_
        refine Vw rfl rfl c11 ?_
        refine Va (rd_gtr rfl rfl) rfl ?_
        refine Va (Vp (congrArg Ye c11) rfl) rfl ?_
        refine Vd ?_
        obtain rfl := Yf hF
        refine Vv ?_
        exact Vg ⟨rfl, rfl, rfl, rfl, rfl, rfl, rfl, trivial⟩
      ·rintro _ _ _ _ ⟨rfl, hw⟩
       refine ⟨_, _, _, hw, ?_⟩
       refine Vt rfl (fun c12 => ?_) (fun c12 => ?_)
       ·have hF := Xh c12 hF
        refine Ve ?_
        refine Vc ?_
        refine Va (Vu rfl) rfl ?_
        refine Vd ?_
        refine Vz ?_
        obtain rfl := Yf hF
        refine Vv ?_
        exact Vx rfl [] (by decide) ⟨Vm rfl (.int _ _), trivial⟩ trivial
       ·have hF := Xi c12 hF
        refine Xa ?_
        refine Ve ?_
        refine Vc ?_
        refine Va (Xp rfl) rfl ?_
        refine Vd ?_
        refine Ve ?_
        refine Ve ?_
        refine Vc ?_
        refine Va (Vf rfl tf_36_2 ts_25 (by decide)) rfl ?_
        refine Va (Vj rfl (Vk rfl rfl) rfl ta_25 rfl) rfl ?_
        refine Va (Vy (Xd rfl rfl te_25) (congrArg (fun n : Nat => Yd .i64 (n : Int)) (Yj _))) rfl ?_
        refine Va (Vi rfl) rfl ?_
        refine Vd ?_
        refine Xf ?_
        obtain ⟨o14, ho14, hF⟩ := Xr hF
        refine Vo (vwp_loopC (F_door_Check_L2 x7) (fun s13 E' lw lc => Xl E' lw lc [(0, .vs 3 (Yc T_Door.enc p0)), (3, .int .i64 s2), (4, .ptr (low.length + 0) 0 0 0), (5, .bool s13.2), (11, .vs 3 (Yc T_Door.enc p0)), (12, .int .i64 ((p0).length : Int)), (13, .int .i64 s2), (32, .vs 1 (Yc (Yd .i64) x7.Rests)), (33, .int .i64 ((x7.Rests).length : Int)), (34, .int .i64 s13.1)] low [⟨36, 3, [.agg [.int .i64 x7.Road, .int .i64 x7.Other, .vs 1 (Yc (Yd .i64) x7.Rests)]], 0⟩]) (Sum.elim (fun j15 => OnlyE .ret (fun E' lw lc => Xl E' lw lc [(2, .int .i64 1)] low [])) (fun j16 => OnlyE (.exit 2) (fun E' lw lc => Xl E' lw lc [(0, .vs 3 (Yc T_Door.enc p0)), (3, .int .i64 s2), (4, .ptr (low.length + 0) 0 0 0), (5, .bool j16), (11, .vs 3 (Yc T_Door.enc p0)), (12, .int .i64 ((p0).length : Int)), (13, .int .i64 s2)] low [⟨36, 3, [.agg [.int .i64 x7.Road, .int .i64 x7.Other, .vs 1 (Yc (Yd .i64) x7.Rests)]], 0⟩]))) ho14 ?_ (by rintro (_|_) _ _ _ ⟨h, _⟩ <;> cases h) ?_) ?_
        ·exact Vg ⟨rfl, rfl, rfl, rfl, rfl, rfl, rfl, rfl, rfl, rfl, trivial⟩
        ·rintro s13 os13 _ _ _ hF hw
         unfold F_door_Check_L2 at hF
         refine vwp_weak hw ?_
         refine Ve ?_
         refine Vc ?_
         refine Va (Xj rfl rfl) rfl ?_
         refine Vd ?_
         refine Ve ?_
         refine Vt rfl (fun c17 => ?_) (fun c17 => ?_)
         ·have hF := Xh c17 hF
          refine Xa ?_
          refine Ve ?_
          obtain ⟨o18, ho18, hF⟩ := Xr hF
          refine Vo (Q' := Sum.elim (fun j19 => OnlyE .ret (fun E' lw lc => Xl E' lw lc [(2, .int .i64 1)] low [])) (fun j20 => OnlyE .normal (fun E' lw lc => Xl E' lw lc [(0, .vs 3 (Yc T_Door.enc p0)), (3, .int .i64 s2), (4, .ptr (low.length + 0) 0 0 0), (5, .bool j20), (11, .vs 3 (Yc T_Door.enc p0)), (12, .int .i64 ((p0).length : Int)), (13, .int .i64 s2), (32, .vs 1 (Yc (Yd .i64) x7.Rests)), (33, .int .i64 ((x7.Rests).length : Int)), (34, .int .i64 s13.1)] low [⟨36, 3, [.agg [.int .i64 x7.Road, .int .i64 x7.Other, .vs 1 (Yc (Yd .i64) x7.Rests)]], 0⟩])) o18) ?_ ?_
          ·replace hF := ho18
           refine Xf ?_
           refine Ve ?_
           refine Vc ?_
           obtain ⟨x21, h22, hF⟩ := Xr hF
           refine Va (Vi rfl) rfl ?_
           refine Va (Vy (Xg rfl rfl h22 te_25 ts_3) (v' := .vptr [.int .i64 x21] 0) rfl) rfl ?_
           refine Va (Xe rfl ta_3 rfl) rfl ?_
           refine Va (Vu rfl) rfl ?_
           refine Va (Vu rfl) rfl ?_
           refine Vd ?_
           refine Ve ?_
           refine Ve ?_
           obtain ⟨o23, ho23, hF⟩ := Xr hF
           refine Vo (Q' := (fun o23 => OnlyE .normal (fun E' lw lc => Xl E' lw lc [(0, .vs 3 (Yc T_Door.enc p0)), (3, .int .i64 s2), (4, .ptr (low.length + 0) 0 0 0), (5, .bool s13.2), (6, .int .i64 s13.1), (7, .int .i64 x21), (11, .vs 3 (Yc T_Door.enc p0)), (12, .int .i64 ((p0).length : Int)), (13, .int .i64 s2), (32, .vs 1 (Yc (Yd .i64) x7.Rests)), (33, .int .i64 ((x7.Rests).length : Int)), (34, .int .i64 s13.1), (44, .bool o23)] low [⟨36, 3, [.agg [.int .i64 x7.Road, .int .i64 x7.Other, .vs 1 (Yc (Yd .i64) x7.Rests)]], 0⟩])) o23) ?_ ?_
           ·replace hF := ho23
            refine Vc ?_
            rcases Yi (decide (x21 < 0)) with c24 | c24
            ·have hF := Xh c24 hF
             refine Va (Vi rfl) rfl ?_
             refine Va (Xj rfl rfl) rfl ?_
             refine Va (Vl rfl) rfl ?_
             refine Vb rfl rfl (Xu c24) rfl ?_
             refine Vb rfl rfl (Xu c24) rfl ?_
             refine Va (Vn (congrArg Ye c24) rfl) rfl ?_
             refine Vd ?_
             obtain rfl := Yf hF
             refine Vv ?_
             exact Vg ⟨rfl, rfl, rfl, rfl, rfl, rfl, rfl, rfl, rfl, rfl, rfl, rfl, rfl, trivial⟩
            ·have hF := Xi c24 hF
             refine Va (Vi rfl) rfl ?_
             refine Va (Xj rfl rfl) rfl ?_
             refine Va (Vl rfl) rfl ?_
             refine Vw rfl rfl c24 ?_
             refine Va (Vi rfl) rfl ?_
             refine Vw rfl rfl c24 ?_
             refine Va (rd_gtr rfl rfl) rfl ?_
             refine Va (Vp (congrArg Ye c24) rfl) rfl ?_
             refine Vd ?_
             obtain rfl := Yf hF
             refine Vv ?_
             exact Vg ⟨rfl, rfl, rfl, rfl, rfl, rfl, rfl, rfl, rfl, rfl, rfl, rfl, rfl, trivial⟩
           ·rintro _ _ _ _ ⟨rfl, hw⟩
            refine ⟨_, _, _, hw, ?_⟩
            refine Vt rfl (fun c25 => ?_) (fun c25 => ?_)
            ·have hF := Xh c25 hF
             refine Ve ?_
             refine Vc ?_
             refine Va (Vu rfl) rfl ?_
             refine Vd ?_
             refine Vz ?_
             obtain rfl := Yf hF
             refine Vv ?_
             exact Vx rfl [] (by decide) ⟨Vm rfl (.int _ _), trivial⟩ trivial
            ·have hF := Xi c25 hF
             refine Xa ?_
             refine Vc ?_
             rcases Yi s13.2 with c26 | c26
             ·have hF := Xh c26 hF
              rcases Yi (decide (s13.1 = 0)) with c27 | c27
              ·have hF := Xh c27 hF
               refine Va (Vl rfl) rfl ?_
               refine Va (Vl rfl) rfl ?_
               refine Vw rfl rfl c26 ?_
               refine Va (Vi rfl) rfl ?_
               refine Vw rfl rfl c26 ?_
               refine Va (Xw rfl rfl) rfl ?_
               refine Vw rfl rfl c26 ?_
               refine Va (Vl rfl) rfl ?_
               refine Vb rfl rfl (Xu c27) rfl ?_
               refine Vb rfl rfl (Xu c27) rfl ?_
               refine Vb rfl rfl (Xu c27) rfl ?_
               refine Vb rfl rfl (Xu c27) rfl ?_
               refine Vb rfl rfl (Xu c27) rfl ?_
               refine Vb rfl rfl (Xu c27) rfl ?_
               refine Vb rfl rfl (Xu c27) rfl ?_
               refine Vb rfl rfl (Xu c27) rfl ?_
               refine Vw rfl rfl c26 ?_
               refine Va (Vn (congrArg Ye c27) rfl) rfl ?_
               refine Va (Vn (congrArg Ye c26) rfl) rfl ?_
               refine Va (Xp rfl) rfl ?_
               refine Vd ?_
               obtain rfl := Yf hF
               refine Vv ?_
               exact Vg ⟨rfl, rfl, rfl, rfl, rfl, rfl, rfl, rfl, rfl, rfl, trivial⟩
              ·have hF := Xi c27 hF
               obtain ⟨x28, h29, hF⟩ := Xr hF
               refine Va (Vl rfl) rfl ?_
               refine Va (Vl rfl) rfl ?_
               refine Vw rfl rfl c26 ?_
               refine Va (Vi rfl) rfl ?_
               refine Vw rfl rfl c26 ?_
               refine Va (Xw rfl rfl) rfl ?_
               refine Vw rfl rfl c26 ?_
               refine Va (Vl rfl) rfl ?_
               refine Vw rfl rfl c27 ?_
               refine Va (Vi rfl) rfl ?_
               refine Vw rfl rfl c27 ?_
               refine Va (Vf rfl tf_36_2 ts_25 (by decide)) rfl ?_
               refine Vw rfl rfl c27 ?_
               refine Va (Vj rfl (Vk rfl rfl) rfl ta_25 rfl) rfl ?_
               refine Vw rfl rfl c27 ?_
               refine Va (Vi rfl) rfl ?_
               refine Vw rfl rfl c27 ?_
               refine Va (rd_sub rfl rfl rfl) rfl ?_
               refine Vw rfl rfl c27 ?_
               refine Va (Vy (Xg rfl rfl h29 te_25 ts_3) (v' := .vptr [.int .i64 x28] 0) rfl) rfl ?_
               refine Vw rfl rfl c27 ?_
               refine Va (Xe rfl ta_3 rfl) rfl ?_
               refine Vw rfl rfl c27 ?_
               refine Va (Xj rfl rfl) rfl ?_
               refine Vw rfl rfl c26 ?_
               refine Va (Vp (congrArg Ye c27) rfl) rfl ?_
               refine Va (Vn (congrArg Ye c26) rfl) rfl ?_
               refine Va (Xp rfl) rfl ?_
               refine Vd ?_
               obtain rfl := Yf hF
               refine Vv ?_
               exact Vg ⟨rfl, rfl, rfl, rfl, rfl, rfl, rfl, rfl, rfl, rfl, trivial⟩
             ·have hF := Xi c26 hF
              refine Va (Vl rfl) rfl ?_
              refine Va (Vl rfl) rfl ?_
              refine Vb rfl rfl (neF c26) rfl ?_
              refine Vb rfl rfl (neF c26) rfl ?_
              refine Vb rfl rfl (neF c26) rfl ?_
              refine Vs rfl rfl rfl ?_
              refine Vs rfl rfl rfl ?_
              refine Vs rfl rfl rfl ?_
              refine Vs rfl rfl rfl ?_
              refine Vs rfl rfl rfl ?_
              refine Vs rfl rfl rfl ?_
              refine Vs rfl rfl rfl ?_
              refine Vs rfl rfl rfl ?_
              refine Vb rfl rfl (neF c26) rfl ?_
              refine Va (Vp (congrArg Ye c26) rfl) rfl ?_
              refine Va (Xp rfl) rfl ?_
              refine Vd ?_
              obtain rfl := Yf hF
              refine Vv ?_
              exact Vg ⟨rfl, rfl, rfl, rfl, rfl, rfl, rfl, rfl, rfl, rfl, trivial⟩
          ·rcases o18 with j19 | j20
           ·replace hF := elimL hF
            rintro _ _ _ _ ⟨rfl, hw⟩
            refine ⟨_, _, _, hw, ?_⟩
            obtain rfl := Yf hF
            refine Vv ?_
            exact Vg ⟨rfl, trivial⟩
           ·replace hF := elimR hF
            rintro _ _ _ _ ⟨rfl, hw⟩
            refine ⟨_, _, _, hw, ?_⟩
            refine Vc ?_
            refine Va (rd_add rfl rfl rfl) rfl ?_
            refine Va (Vi rfl) rfl ?_
            refine Vd ?_
            obtain rfl := Yf hF
            refine Vv ?_
            exact Vg ⟨rfl, rfl, rfl, rfl, rfl, rfl, rfl, rfl, rfl, rfl, trivial⟩
         ·have hF := Xi c17 hF
          refine vwp_exit ?_
          obtain rfl := Yf hF
          refine Vv ?_
          exact Vg ⟨rfl, rfl, rfl, rfl, rfl, rfl, rfl, trivial⟩
        ·rcases o14 with j15 | j16
         ·replace hF := elimL hF
          rintro _ _ _ _ ⟨rfl, hw⟩
          refine ⟨_, _, _, hw, ?_⟩
          obtain rfl := Yf hF
          refine Vv ?_
          exact Vg ⟨rfl, trivial⟩
         ·replace hF := elimR hF
          rintro _ _ _ _ ⟨rfl, hw⟩
          refine ⟨_, _, _, hw, ?_⟩
          refine Ve ?_
          refine Ve ?_
          refine Vc ?_
          refine Va (Vl rfl) rfl ?_
          refine Va (rd_not rfl) rfl ?_
          refine Vd ?_
          refine Vt rfl (fun c30 => ?_) (fun c30 => ?_)
          ·have hF := Xh c30 hF
           refine Ve ?_
           refine Vc ?_
           refine Va (Vu rfl) rfl ?_
           refine Vd ?_
           refine Vz ?_
           obtain rfl := Yf hF
           refine Vv ?_
           exact Vx rfl [] (by decide) ⟨Vm rfl (.int _ _), trivial⟩ trivial
          ·have hF := Xi c30 hF
           refine Xa ?_
           refine Ve ?_
           obtain ⟨o31, ho31, hF⟩ := Xr hF
           refine Vo (Q' := (fun o31 => OnlyE .normal (fun E' lw lc => Xl E' lw lc [(0, .vs 3 (Yc T_Door.enc p0)), (11, .vs 3 (Yc T_Door.enc p0)), (12, .int .i64 ((p0).length : Int)), (13, .int .i64 s2), (93, .bool o31)] low [])) o31) ?_ ?_
           ·replace hF := ho31
            refine Vc ?_
            rcases Yi (decide (x7.Other ≠ (-1))) with c32 | c32
            ·have hF := Xh c32 hF
             rcases Yi (decide (x7.Other < 0)) with c33 | c33
             ·have hF := Xh c33 hF
              refine Va (Vf rfl tf_36_1 ts_3 (by decide)) rfl ?_
              refine Va (Vj rfl (Vk rfl rfl) rfl ta_3 rfl) rfl ?_
              refine Va (Xk rfl rfl) rfl ?_
              refine Va (Vl rfl) rfl ?_
              refine Vw rfl rfl c32 ?_
              refine Va (Vf rfl tf_36_1 ts_3 (by decide)) rfl ?_
              refine Vw rfl rfl c32 ?_
              refine Va (Vj rfl (Vk rfl rfl) rfl ta_3 rfl) rfl ?_
              refine Vw rfl rfl c32 ?_
              refine Va (Xj rfl rfl) rfl ?_
              refine Vw rfl rfl c32 ?_
              refine Va (Vl rfl) rfl ?_
              refine Vb rfl rfl (Xu c33) rfl ?_
              refine Vb rfl rfl (Xu c33) rfl ?_
              refine Vb rfl rfl (Xu c33) rfl ?_
              refine Vb rfl rfl (Xu c33) rfl ?_
              refine Vb rfl rfl (Xu c33) rfl ?_
              refine Vw rfl rfl c32 ?_
              refine Va (Vn (congrArg Ye c33) rfl) rfl ?_
              refine Vw rfl rfl c32 ?_
              refine Va (Vl rfl) rfl ?_
              refine Vb rfl rfl (by decide) rfl ?_
              refine Vb rfl rfl (by decide) rfl ?_
              refine Vb rfl rfl (by decide) rfl ?_
              refine Vb rfl rfl (by decide) rfl ?_
              refine Vw rfl rfl c32 ?_
              refine Va (Vn rfl rfl) rfl ?_
              refine Vw rfl rfl c32 ?_
              refine Va (Vl rfl) rfl ?_
              refine Vb rfl rfl (by decide) rfl ?_
              refine Vb rfl rfl (by decide) rfl ?_
              refine Vb rfl rfl (by decide) rfl ?_
              refine Vb rfl rfl (by decide) rfl ?_
              refine Vb rfl rfl (by decide) rfl ?_
              refine Vb rfl rfl (by decide) rfl ?_
              refine Vb rfl rfl (by decide) rfl ?_
              refine Vb rfl rfl (by decide) rfl ?_
              refine Vw rfl rfl c32 ?_
              refine Va (Vn rfl rfl) rfl ?_
              refine Va (Vn (congrArg Ye c32) rfl) rfl ?_
              refine Vd ?_
              obtain rfl := Yf hF
              refine Vv ?_
              exact Vx rfl [] (by decide) ⟨Vm rfl (.vs _ _), Vm rfl (.vs _ _), Vm rfl (.int _ _), Vm rfl (.int _ _), Vm rfl (.bool _), trivial⟩ trivial
             ·have hF := Xi c33 hF
              rcases Yi (decide (((p0).length : Int) ≤ x7.Other)) with c34 | c34
              ·have hF := Xh c34 hF
               refine Va (Vf rfl tf_36_1 ts_3 (by decide)) rfl ?_
               refine Va (Vj rfl (Vk rfl rfl) rfl ta_3 rfl) rfl ?_
               refine Va (Xk rfl rfl) rfl ?_
               refine Va (Vl rfl) rfl ?_
               refine Vw rfl rfl c32 ?_
               refine Va (Vf rfl tf_36_1 ts_3 (by decide)) rfl ?_
               refine Vw rfl rfl c32 ?_
               refine Va (Vj rfl (Vk rfl rfl) rfl ta_3 rfl) rfl ?_
               refine Vw rfl rfl c32 ?_
               refine Va (Xj rfl rfl) rfl ?_
               refine Vw rfl rfl c32 ?_
               refine Va (Vl rfl) rfl ?_
               refine Vw rfl rfl c33 ?_
               refine Va (Vf rfl tf_36_1 ts_3 (by decide)) rfl ?_
               refine Vw rfl rfl c33 ?_
               refine Va (Vj rfl (Vk rfl rfl) rfl ta_3 rfl) rfl ?_
               refine Vw rfl rfl c33 ?_
               refine Va (Vq rfl) rfl ?_
               refine Vw rfl rfl c33 ?_
               refine Va (Vy (Xd rfl rfl te_23) (congrArg (fun n : Nat => Yd .i64 (n : Int)) (Yj _))) rfl ?_
               refine Vw rfl rfl c33 ?_
               refine Va (rd_geq rfl rfl) rfl ?_
               refine Vw rfl rfl c32 ?_
               refine Va (Vp (congrArg Ye c33) rfl) rfl ?_
               refine Vw rfl rfl c32 ?_
               refine Va (Vl rfl) rfl ?_
               refine Vb rfl rfl (Xu c34) rfl ?_
               refine Vb rfl rfl (Xu c34) rfl ?_
               refine Vb rfl rfl (Xu c34) rfl ?_
               refine Vb rfl rfl (Xu c34) rfl ?_
               refine Vw rfl rfl c32 ?_
               refine Va (Vn (congrArg Ye c34) rfl) rfl ?_
               refine Vw rfl rfl c32 ?_
               refine Va (Vl rfl) rfl ?_
               refine Vb rfl rfl (by decide) rfl ?_
               refine Vb rfl rfl (by decide) rfl ?_
               refine Vb rfl rfl (by decide) rfl ?_
               refine Vb rfl rfl (by decide) rfl ?_
               refine Vb rfl rfl (by decide) rfl ?_
               refine Vb rfl rfl (by decide) rfl ?_
               refine Vb rfl rfl (by decide) rfl ?_
               refine Vb rfl rfl (by decide) rfl ?_
               refine Vw rfl rfl c32 ?_
               refine Va (Vn rfl rfl) rfl ?_
               refine Va (Vn (congrArg Ye c32) rfl) rfl ?_
               refine Vd ?_
               obtain rfl := Yf hF
               refine Vv ?_
               exact Vx rfl [] (by decide) ⟨Vm rfl (.vs _ _), Vm rfl (.vs _ _), Vm rfl (.int _ _), Vm rfl (.int _ _), Vm rfl (.bool _), trivial⟩ trivial
              ·have hF := Xi c34 hF
               rcases Yi (decide (x7.Other = s2)) with c35 | c35
               ·have hF := Xh c35 hF
                refine Va (Vf rfl tf_36_1 ts_3 (by decide)) rfl ?_
                refine Va (Vj rfl (Vk rfl rfl) rfl ta_3 rfl) rfl ?_
                refine Va (Xk rfl rfl) rfl ?_
                refine Va (Vl rfl) rfl ?_
                refine Vw rfl rfl c32 ?_
                refine Va (Vf rfl tf_36_1 ts_3 (by decide)) rfl ?_
                refine Vw rfl rfl c32 ?_
                refine Va (Vj rfl (Vk rfl rfl) rfl ta_3 rfl) rfl ?_
                refine Vw rfl rfl c32 ?_
                refine Va (Xj rfl rfl) rfl ?_
                refine Vw rfl rfl c32 ?_
                refine Va (Vl rfl) rfl ?_
                refine Vw rfl rfl c33 ?_
                refine Va (Vf rfl tf_36_1 ts_3 (by decide)) rfl ?_
                refine Vw rfl rfl c33 ?_
                refine Va (Vj rfl (Vk rfl rfl) rfl ta_3 rfl) rfl ?_
                refine Vw rfl rfl c33 ?_
                refine Va (Vq rfl) rfl ?_
                refine Vw rfl rfl c33 ?_
                refine Va (Vy (Xd rfl rfl te_23) (congrArg (fun n : Nat => Yd .i64 (n : Int)) (Yj _))) rfl ?_
                refine Vw rfl rfl c33 ?_
                refine Va (rd_geq rfl rfl) rfl ?_
                refine Vw rfl rfl c32 ?_
                refine Va (Vp (congrArg Ye c33) rfl) rfl ?_
                refine Vw rfl rfl c32 ?_
                refine Va (Vl rfl) rfl ?_
                refine Vw rfl rfl c34 ?_
                refine Va (Vf rfl tf_36_1 ts_3 (by decide)) rfl ?_
                refine Vw rfl rfl c34 ?_
                refine Va (Vj rfl (Vk rfl rfl) rfl ta_3 rfl) rfl ?_
                refine Vw rfl rfl c34 ?_
                refine Va (Vi rfl) rfl ?_
                refine Vw rfl rfl c34 ?_
                refine Va (Xw rfl rfl) rfl ?_
                refine Vw rfl rfl c32 ?_
                refine Va (Vp (congrArg Ye c34) rfl) rfl ?_
                refine Vw rfl rfl c32 ?_
                refine Va (Vl rfl) rfl ?_
                refine Vb rfl rfl (Xu c35) rfl ?_
                refine Vb rfl rfl (Xu c35) rfl ?_
                refine Vb rfl rfl (Xu c35) rfl ?_
                refine Vb rfl rfl (Xu c35) rfl ?_
                refine Vb rfl rfl (Xu c35) rfl ?_
                refine Vb rfl rfl (Xu c35) rfl ?_
                refine Vb rfl rfl (Xu c35) rfl ?_
                refine Vb rfl rfl (Xu c35) rfl ?_
                refine Vw rfl rfl c32 ?_
                refine Va (Vn (congrArg Ye c35) rfl) rfl ?_
                refine Va (Vn (congrArg Ye c32) rfl) rfl ?_
                refine Vd ?_
                obtain rfl := Yf hF
                refine Vv ?_
                exact Vx rfl [] (by decide) ⟨Vm rfl (.vs _ _), Vm rfl (.vs _ _), Vm rfl (.int _ _), Vm rfl (.int _ _), Vm rfl (.bool _), trivial⟩ trivial
               ·have hF := Xi c35 hF
                obtain ⟨x36, h37, hF⟩ := Xr hF
                refine Va (Vf rfl tf_36_1 ts_3 (by decide)) rfl ?_
                refine Va (Vj rfl (Vk rfl rfl) rfl ta_3 rfl) rfl ?_
                refine Va (Xk rfl rfl) rfl ?_
                refine Va (Vl rfl) rfl ?_
                refine Vw rfl rfl c32 ?_
                refine Va (Vf rfl tf_36_1 ts_3 (by decide)) rfl ?_
                refine Vw rfl rfl c32 ?_
                refine Va (Vj rfl (Vk rfl rfl) rfl ta_3 rfl) rfl ?_
                refine Vw rfl rfl c32 ?_
                refine Va (Xj rfl rfl) rfl ?_
                refine Vw rfl rfl c32 ?_
                refine Va (Vl rfl) rfl ?_
                refine Vw rfl rfl c33 ?_
                refine Va (Vf rfl tf_36_1 ts_3 (by decide)) rfl ?_
                refine Vw rfl rfl c33 ?_
                refine Va (Vj rfl (Vk rfl rfl) rfl ta_3 rfl) rfl ?_
                refine Vw rfl rfl c33 ?_
                refine Va (Vq rfl) rfl ?_
                refine Vw rfl rfl c33 ?_
                refine Va (Vy (Xd rfl rfl te_23) (congrArg (fun n : Nat => Yd .i64 (n : Int)) (Yj _))) rfl ?_
                refine Vw rfl rfl c33 ?_
                refine Va (rd_geq rfl rfl) rfl ?_
                refine Vw rfl rfl c32 ?_
                refine Va (Vp (congrArg Ye c33) rfl) rfl ?_
                refine Vw rfl rfl c32 ?_
                refine Va (Vl rfl) rfl ?_
                refine Vw rfl rfl c34 ?_
                refine Va (Vf rfl tf_36_1 ts_3 (by decide)) rfl ?_
                refine Vw rfl rfl c34 ?_
                refine Va (Vj rfl (Vk rfl rfl) rfl ta_3 rfl) rfl ?_
                refine Vw rfl rfl c34 ?_
                refine Va (Vi rfl) rfl ?_
                refine Vw rfl rfl c34 ?_
                refine Va (Xw rfl rfl) rfl ?_
                refine Vw rfl rfl c32 ?_
                refine Va (Vp (congrArg Ye c34) rfl) rfl ?_
                refine Vw rfl rfl c32 ?_
                refine Va (Vl rfl) rfl ?_
                refine Vw rfl rfl c35 ?_
                refine Va (Vq rfl) rfl ?_
                refine Vw rfl rfl c35 ?_
                refine Va (Vf rfl tf_36_1 ts_3 (by decide)) rfl ?_
                refine Vw rfl rfl c35 ?_
                refine Va (Vj rfl (Vk rfl rfl) rfl ta_3 rfl) rfl ?_
                refine Vw rfl rfl c35 ?_
                refine Va (Vy (Xg rfl rfl h37 te_23 ts_36) (v' := .vptr [.int .i64 x36.Road, .int .i64 x36.Other, .vs 1 (Yc (Yd .i64) x36.Rests)] 0) rfl) rfl ?_
                refine Vw rfl rfl c35 ?_
                refine Va (rd_fieldVaddr rfl tf_36_1 ts_3 (by decide)) rfl ?_
                refine Vw rfl rfl c35 ?_
                refine Va (Xe rfl ta_3 rfl) rfl ?_
                refine Vw rfl rfl c35 ?_
                refine Va (Vi rfl) rfl ?_
                refine Vw rfl rfl c35 ?_
                refine Va (Xk rfl rfl) rfl ?_
                refine Vw rfl rfl c32 ?_
                refine Va (Vp (congrArg Ye c35) rfl) rfl ?_
                refine Va (Vn (congrArg Ye c32) rfl) rfl ?_
                refine Vd ?_
                obtain rfl := Yf hF
                refine Vv ?_
                exact Vx rfl [] (by decide) ⟨Vm rfl (.vs _ _), Vm rfl (.vs _ _), Vm rfl (.int _ _), Vm rfl (.int _ _), Vm rfl (.bool _), trivial⟩ trivial
            ·have hF := Xi c32 hF
             refine Va (Vf rfl tf_36_1 ts_3 (by decide)) rfl ?_
             refine Va (Vj rfl (Vk rfl rfl) rfl ta_3 rfl) rfl ?_
             refine Va (Xk rfl rfl) rfl ?_
             refine Va (Vl rfl) rfl ?_
             refine Vb rfl rfl (neF c32) rfl ?_
             refine Vb rfl rfl (neF c32) rfl ?_
             refine Vb rfl rfl (neF c32) rfl ?_
             refine Vb rfl rfl (neF c32) rfl ?_
             refine Vs rfl rfl rfl ?_
             refine Vs rfl rfl rfl ?_
             refine Vs rfl rfl rfl ?_
             refine Vs rfl rfl rfl ?_
             refine Vs rfl rfl rfl ?_
             refine Vb rfl rfl (neF c32) rfl ?_
             refine Vb rfl rfl (neF c32) rfl ?_
             refine Vs rfl rfl rfl ?_
             refine Vs rfl rfl rfl ?_
             refine Vs rfl rfl rfl ?_
             refine Vs rfl rfl rfl ?_
             refine Vb rfl rfl (neF c32) rfl ?_
             refine Vb rfl rfl (neF c32) rfl ?_
             refine Vs rfl rfl rfl ?_
             refine Vs rfl rfl rfl ?_
             refine Vs rfl rfl rfl ?_
             refine Vs rfl rfl rfl ?_
             refine Vs rfl rfl rfl ?_
             refine Vs rfl rfl rfl ?_
             refine Vs rfl rfl rfl ?_
             refine Vs rfl rfl rfl ?_
             refine Vb rfl rfl (neF c32) rfl ?_
             refine Va (Vp (congrArg Ye c32) rfl) rfl ?_
             refine Vd ?_
             obtain rfl := Yf hF
             refine Vv ?_
             exact Vx rfl [] (by decide) ⟨Vm rfl (.vs _ _), Vm rfl (.vs _ _), Vm rfl (.int _ _), Vm rfl (.int _ _), Vm rfl (.bool _), trivial⟩ trivial
           ·rintro _ _ _ _ ⟨rfl, hw⟩
            refine ⟨_, _, _, hw, ?_⟩
            refine Vt rfl (fun c38 => ?_) (fun c38 => ?_)
            ·have hF := Xh c38 hF
             refine Ve ?_
             refine Vc ?_
             refine Va (Vu rfl) rfl ?_
             refine Vd ?_
             refine Vz ?_
             obtain rfl := Yf hF
             refine Vv ?_
             exact Vg ⟨rfl, trivial⟩
            ·have hF := Xi c38 hF
             refine Xa ?_
             refine Vc ?_
             refine Va (rd_add rfl rfl rfl) rfl ?_
             refine Va (Vi rfl) rfl ?_
             refine Vd ?_
             obtain rfl := Yf hF
             refine Vv ?_
             exact Vg ⟨rfl, rfl, rfl, rfl, trivial⟩
    ·have hF := Xi c6 hF
     refine vwp_exit ?_
     obtain rfl := Yf hF
     refine Vv ?_
     exact Vg trivial
   ·rcases o3 with j4 | j5
    ·replace hF := elimL hF
     rintro _ _ _ _ ⟨rfl, hw⟩
     refine ⟨_, _, _, hw, ?_⟩
     obtain rfl := Yf hF
     refine fnR ?_
     exact Vg ⟨rfl, trivial⟩
    ·replace hF := elimR hF
     rintro _ _ _ _ ⟨rfl, hw⟩
     refine ⟨_, _, _, hw, ?_⟩
     refine Ve ?_
     refine Vc ?_
     refine Va (Vu rfl) rfl ?_
     refine Vd ?_
     refine Vz ?_
     obtain rfl := Yf hF
     refine fnR ?_
     exact Vg ⟨rfl, trivial⟩
 ·rintro _ _ _ _ ⟨he, hw⟩
  refine ⟨_, _, _, hw, ?_⟩
  exact Xo he [.int .i64 r] ⟨rfl, trivial⟩ (.int _ _) ⟨rfl, rfl⟩

theorem F_door_change_ok {p0 : List T_Door} {p1 : List Int} {p2 : Int} {p3 : Int} {p4 : Int} {r : Int} (hF : F_door_change p0 p1 p2 p3 p4 = some r) (low : List AObj) :
    Xz Try.prog 29 [.vs 3 (Yc T_Door.enc p0), .vs 1 (Yc (Yd .i64) p1), .int .i64 p2, .int .i64 p3, .int .i64 p4] low fun x low' => x = .int .i64 r ∧ low' = low := by
 refine Xc (nt := 46) (rs := [.tmp 10]) Try.func29 rfl rfl (Yg rfl) rfl ?_
 refine Vo (Q' := FnE (fun E' lw lc => Xl E' lw lc [(10, .int .i64 r)] low [])) ?_ ?_
 ·unfold F_door_change at hF
  refine Ve ?_
  refine Vc ?_
  refine Va (Vu rfl) rfl ?_
  refine Vd ?_
  refine Ve ?_
  refine Ve ?_
  refine Vc ?_
  obtain ⟨x1, h2, hF⟩ := Xr hF
  refine Va (Vq rfl) rfl ?_
  refine Vh (Xb rfl Try.call10 (F_door_Check_ok h2 _)) rfl ?_
  refine Va (Vu rfl) rfl ?_
  refine Vd ?_
  refine Ve ?_
  refine Vc ?_
  refine Va (Vi rfl) rfl ?_
  refine Va (Xk rfl rfl) rfl ?_
  refine Vd ?_
  refine Vt rfl (fun c3 => ?_) (fun c3 => ?_)
  ·have hF := Xh c3 hF
   refine Ve ?_
   refine Vc ?_
   refine Va (Vi rfl) rfl ?_
   refine Va (Vu rfl) rfl ?_
   refine Vd ?_
   refine Vz ?_
   obtain rfl := Yf hF
   refine fnR ?_
   exact Vg ⟨rfl, trivial⟩
  ·have hF := Xi c3 hF
   refine Xa ?_
   refine Ve ?_
   refine Xf ?_
   refine Ve ?_
   refine Vc ?_
   refine Va (Vq rfl) rfl ?_
   refine Va (Vy (Xd rfl rfl te_25) (congrArg (fun n : Nat => Yd .i64 (n : Int)) (Yj _))) rfl ?_
   refine Va (Vq rfl) rfl ?_
   refine Va (Vy (Xd rfl rfl te_23) (congrArg (fun n : Nat => Yd .i64 (n : Int)) (Yj _))) rfl ?_
   refine Va (Xk rfl rfl) rfl ?_
   refine Va (Xp rfl) rfl ?_
   refine Vd ?_
   refine Vt rfl (fun c4 => ?_) (fun c4 => ?_)
   ·have hF := Xh c4 hF
    refine Ve ?_
    refine Vc ?_
    refine Va (Vu rfl) rfl ?_
    refine Vd ?_
    refine Vz ?_
    obtain rfl := Yf hF
    refine fnR ?_
    exact Vg ⟨rfl, trivial⟩
   ·have hF := Xi c4 hF
    refine Ve ?_
    obtain ⟨o5, ho5, hF⟩ := Xr hF
    refine Vo (Q' := (fun o5 => OnlyE .normal (fun E' lw lc => Xl E' lw lc [(0, .vs 3 (Yc T_Door.enc p0)), (2, .int .i64 p2), (3, .int .i64 p3), (4, .int .i64 p4), (23, .bool o5)] low [])) o5) ?_ ?_
    ·replace hF := ho5
     refine Vc ?_
     rcases Yi (decide (p2 < 0)) with c6 | c6
     ·have hF := Xh c6 hF
      refine Va (Vi rfl) rfl ?_
      refine Va (Xj rfl rfl) rfl ?_
      refine Va (Vl rfl) rfl ?_
      refine Vb rfl rfl (Xu c6) rfl ?_
      refine Vb rfl rfl (Xu c6) rfl ?_
      refine Vb rfl rfl (Xu c6) rfl ?_
      refine Vb rfl rfl (Xu c6) rfl ?_
      refine Va (Vn (congrArg Ye c6) rfl) rfl ?_
      refine Va (Xp rfl) rfl ?_
      refine Vd ?_
      obtain rfl := Yf hF
      refine Vv ?_
      exact Vg ⟨rfl, rfl, rfl, rfl, rfl, trivial⟩
     ·have hF := Xi c6 hF
      refine Va (Vi rfl) rfl ?_
      refine Va (Xj rfl rfl) rfl ?_
      refine Va (Vl rfl) rfl ?_
      refine Vw rfl rfl c6 ?_
      refine Va (Vi rfl) rfl ?_
      refine Vw rfl rfl c6 ?_
      refine Va (Vq rfl) rfl ?_
      refine Vw rfl rfl c6 ?_
      refine Va (Vy (Xd rfl rfl te_23) (congrArg (fun n : Nat => Yd .i64 (n : Int)) (Yj _))) rfl ?_
      refine Vw rfl rfl c6 ?_
      refine Va (rd_geq rfl rfl) rfl ?_
      refine Va (Vp (congrArg Ye c6) rfl) rfl ?_
      refine Va (Xp rfl) rfl ?_
      refine Vd ?_
      obtain rfl := Yf hF
      refine Vv ?_
      exact Vg ⟨rfl, rfl, rfl, rfl, rfl, trivial⟩
    ·rintro _ _ _ _ ⟨rfl, hw⟩
     refine ⟨_, _, _, hw, ?_⟩
     refine Vt rfl (fun c7 => ?_) (fun c7 => ?_)
     ·have hF := Xh c7 hF
      refine Ve ?_
      refine Vc ?_
      refine Va (Vu rfl) rfl ?_
      refine Vd ?_
      refine Vz ?_
      obtain rfl := Yf hF
      refine fnR ?_
      exact Vg ⟨rfl, trivial⟩
     ·have hF := Xi c7 hF
      refine Ve ?_
      obtain ⟨o8, ho8, hF⟩ := Xr hF
      refine Vo (Q' := (fun o8 => OnlyE .normal (fun E' lw lc => Xl E' lw lc [(32, .bool o8)] low [])) o8) ?_ ?_
      ·replace hF := ho8
       refine Vc ?_
       rcases Yi (decide (p3 < p4)) with c9 | c9
       ·have hF := Xh c9 hF
        refine Va (Vi rfl) rfl ?_
        refine Va (Vi rfl) rfl ?_
        refine Va (Xj rfl rfl) rfl ?_
        refine Va (Vl rfl) rfl ?_
        refine Vb rfl rfl (Xu c9) rfl ?_
        refine Vb rfl rfl (Xu c9) rfl ?_
        refine Vb rfl rfl (Xu c9) rfl ?_
        refine Vb rfl rfl (Xu c9) rfl ?_
        refine Vb rfl rfl (Xu c9) rfl ?_
        refine Vb rfl rfl (Xu c9) rfl ?_
        refine Vb rfl rfl (Xu c9) rfl ?_
        refine Vb rfl rfl (Xu c9) rfl ?_
        refine Va (Vn (congrArg Ye c9) rfl) rfl ?_
        refine Va (Xp rfl) rfl ?_
        refine Vd ?_
        obtain rfl := Yf hF
        refine Vv ?_
        exact Vg ⟨rfl, trivial⟩
       ·have hF := Xi c9 hF
        obtain ⟨x10, h11, hF⟩ := Xr hF
        refine Va (Vi rfl) rfl ?_
        refine Va (Vi rfl) rfl ?_
        refine Va (Xj rfl rfl) rfl ?_
        refine Va (Vl rfl) rfl ?_
        refine Vw rfl rfl c9 ?_
        refine Va (Vi rfl) rfl ?_
        refine Vw rfl rfl c9 ?_
        refine Va (Vq rfl) rfl ?_
        refine Vw rfl rfl c9 ?_
        refine Va (Vi rfl) rfl ?_
        refine Vw rfl rfl c9 ?_
        refine Va (Vy (Xg rfl rfl h11 te_23 ts_36) (v' := .vptr [.int .i64 x10.Road, .int .i64 x10.Other, .vs 1 (Yc (Yd .i64) x10.Rests)] 0) rfl) rfl ?_
        refine Vw rfl rfl c9 ?_
        refine Va (rd_fieldVaddr rfl tf_36_2 ts_25 (by decide)) rfl ?_
        refine Vw rfl rfl c9 ?_
        refine Va (Xe rfl ta_25 rfl) rfl ?_
        refine Vw rfl rfl c9 ?_
        refine Va (Vy (Xd rfl rfl te_25) (congrArg (fun n : Nat => Yd .i64 (n : Int)) (Yj _))) rfl ?_
        refine Vw rfl rfl c9 ?_
        refine Va (rd_geq rfl rfl) rfl ?_
        refine Va (Vp (congrArg Ye c9) rfl) rfl ?_
        refine Va (Xp rfl) rfl ?_
        refine Vd ?_
        obtain rfl := Yf hF
        refine Vv ?_
        exact Vg ⟨rfl, trivial⟩
      ·rintro _ _ _ _ ⟨rfl, hw⟩
       refine ⟨_, _, _, hw, ?_⟩
       refine Vt rfl (fun c12 => ?_) (fun c12 => ?_)
       ·have hF := Xh c12 hF
        refine Ve ?_
        refine Vc ?_
        refine Va (Vu rfl) rfl ?_
        refine Vd ?_
        refine Vz ?_
        obtain rfl := Yf hF
        refine fnR ?_
        exact Vg ⟨rfl, trivial⟩
       ·have hF := Xi c12 hF
        refine Xa ?_
        refine Ve ?_
        refine Vc ?_
        refine Va (Vu rfl) rfl ?_
        refine Vd ?_
        refine Vz ?_
        obtain rfl := Yf hF
        refine fnR ?_
        exact Vg ⟨rfl, trivial⟩
 ·rintro _ _ _ _ ⟨he, hw⟩
  refine ⟨_, _, _, hw, ?_⟩
  exact Xo he [.int .i64 r] ⟨rfl, trivial⟩ (.int _ _) ⟨rfl, rfl⟩

theorem F_door_with_ok {p0 : List Int} {p1 : Int} {p2 : Int} {r : List Int} (hF : F_door_with p0 p1 p2 = some r) (low : List AObj) :
    Xz Try.prog 30 [.vs 1 (Yc (Yd .i64) p0), .int .i64 p1, .int .i64 p2] low fun x low' => x = .vs 1 (Yc (Yd .i64) r) ∧ low' = low := by
 refine Xc (nt := 15) (rs := [.tmp 6]) Try.func30 rfl rfl (Yg rfl) rfl ?_
 refine Vo (Q' := FnE (fun E' lw lc => Xl E' lw lc [(6, .vs 1 (Yc (Yd .i64) r))] low [])) ?_ ?_
 ·unfold F_door_with at hF
  refine Ve ?_
  refine Vc ?_
  refine Va (rd_nv (sz := 1) (rd_asN rfl)) rfl ?_
  refine Vd ?_
  refine Ve ?_
  refine Vc ?_
  obtain ⟨x1, h2, hF⟩ := Xr hF
  refine Va (Vq rfl) rfl ?_
  refine Vh (vef_ap0N (f := (Yd .i64)) (ys := p0) rfl rfl (.inl rfl) rfl (src_vs rfl) (Yh _) te_25 ts_3 tb_3 (by decide) tz_3 rfl h2) rfl ?_
  refine Va (rd_asL rfl) rfl ?_
  refine Vd ?_
  refine Ve ?_
  refine Vc ?_
  obtain ⟨x3, h4, hF⟩ := Xr hF
  refine Va (rd_mvL rfl) rfl ?_
  refine Va (Vi rfl) rfl ?_
  refine Va (Vi rfl) rfl ?_
  refine Va (rd_ixS rfl rfl rfl (Vk rfl rfl) h4 te_25 ts_3) rfl ?_
  refine Vh (vef_stL (p := .int .i64 p2) (e' := p2) rfl (Vk rfl rfl) (Xv h4).2 rfl ts_3 rfl (nt_ne rfl) (Yg rfl) rfl (Xx rfl rfl)) rfl ?_
  refine Vd ?_
  refine Ve ?_
  refine Vc ?_
  refine Va (rd_mvL rfl) rfl ?_
  refine Va (rd_asL rfl) rfl ?_
  refine Vd ?_
  refine Vz ?_
  obtain rfl := Yf hF
  refine fnR ?_
  refine Weak.trans (weak_freezeN (E' := [(6, .vs 1 (Yc (Yd .i64) (x1.set ((p1).toNat) p2)))]) (loc1 := [⟨3, 1, [], 0 + 1⟩]) rfl 0 rfl (lt_map (fun _ => .int _ _)) ⟨cv_sl rfl rfl rfl (full_take (Eq.trans rfl List.length_set.symm)), trivial⟩ ⟨.refl _, trivial⟩) ?_
  exact Vx rfl [] (by decide) ⟨Vm rfl (.vs _ _), trivial⟩ trivial
 ·rintro _ _ _ _ ⟨he, hw⟩
  refine ⟨_, _, _, hw, ?_⟩
  exact Xo he [.vs 1 (Yc (Yd .i64) r)] ⟨rfl, trivial⟩ (.vs _ _) ⟨rfl, rfl⟩

theorem F_door_Command_ok {p0 : List T_Door} {p1 : List Int} {p2 : Int} {p3 : Int} {r : List Int × Int} (hF : F_door_Command p0 p1 p2 p3 = some r) (low : List AObj) :
    Xz Try.prog 18 [.vs 3 (Yc T_Door.enc p0), .vs 1 (Yc (Yd .i64) p1), .int .i64 p2, .int .i64 p3] low fun x low' => x = .tup [.vs 1 (Yc (Yd .i64) r.1), .int .i64 r.2] ∧ low' = low := by
 refine Xc (nt := 42) (rs := [.tmp 8, .tmp 9]) Try.func18 rfl rfl (Yg rfl) rfl ?_
 refine Vo (Q' := FnE (fun E' lw lc => Xl E' lw lc [(8, .vs 1 (Yc (Yd .i64) r.1)), (9, .int .i64 r.2)] low [])) ?_ ?_
 ·unfold F_door_Command at hF
  refine Ve ?_
  refine Vc ?_
  refine Va (rd_nv (sz := 1) (rd_asN rfl)) rfl ?_
  refine Va (Vu rfl) rfl ?_
  refine Vd ?_
  refine Ve ?_
  refine Ve ?_
  refine Vc ?_
  obtain ⟨x1, h2, hF⟩ := Xr hF
  refine Va (Vq rfl) rfl ?_
  refine Va (Vq rfl) rfl ?_
  refine Va (Vi rfl) rfl ?_
  refine Va (Vi rfl) rfl ?_
  refine Vh (Xb rfl Try.call29 (F_door_change_ok h2 _)) rfl ?_
  refine Va (Vu rfl) rfl ?_
  refine Vd ?_
  refine Ve ?_
  refine Vc ?_
  refine Va (Vi rfl) rfl ?_
  refine Va (Xk rfl rfl) rfl ?_
  refine Vd ?_
  refine Vt rfl (fun c3 => ?_) (fun c3 => ?_)
  ·have hF := Xh c3 hF
   refine Ve ?_
   refine Vc ?_
   refine Va (Vi rfl) rfl ?_
   refine Va (rd_nv (sz := 1) (rd_asN rfl)) rfl ?_
   refine Va (Vu rfl) rfl ?_
   refine Vd ?_
   refine Vz ?_
   obtain rfl := Yf hF
   refine fnR ?_
   exact Vg ⟨rfl, rfl, trivial⟩
  ·have hF := Xi c3 hF
   refine Xa ?_
   refine Ve ?_
   refine Ve ?_
   refine Vc ?_
   obtain ⟨x4, h5, hF⟩ := Xr hF
   refine Va (Vq rfl) rfl ?_
   refine Va (Vi rfl) rfl ?_
   refine Va (Vy (Xg rfl rfl h5 te_23 ts_36) (v' := .vptr [.int .i64 x4.Road, .int .i64 x4.Other, .vs 1 (Yc (Yd .i64) x4.Rests)] 0) rfl) rfl ?_
   refine Va (rd_fieldVaddr rfl tf_36_1 ts_3 (by decide)) rfl ?_
   refine Va (Xe rfl ta_3 rfl) rfl ?_
   refine Va (Vu rfl) rfl ?_
   refine Vd ?_
   refine Ve ?_
   obtain ⟨o6, ho6, hF⟩ := Xr hF
   refine Vo (Q' := (fun o6 => OnlyE .normal (fun E' lw lc => Xl E' lw lc [(1, .vs 1 (Yc (Yd .i64) p1)), (2, .int .i64 p2), (3, .int .i64 p3), (37, .bool o6)] low [])) o6) ?_ ?_
   ·replace hF := ho6
    refine Vc ?_
    rcases Yi (decide (p3 ≠ 0)) with c7 | c7
    ·have hF := Xh c7 hF
     rcases Yi (decide (0 ≤ x4.Other)) with c8 | c8
     ·have hF := Xh c8 hF
      obtain ⟨x9, h10, hF⟩ := Xr hF
      refine Va (Vi rfl) rfl ?_
      refine Va (Xk rfl rfl) rfl ?_
      refine Va (Vl rfl) rfl ?_
      refine Vw rfl rfl c7 ?_
      refine Va (Vi rfl) rfl ?_
      refine Vw rfl rfl c7 ?_
      refine Va (rd_geq rfl rfl) rfl ?_
      refine Va (Vn (congrArg Ye c7) rfl) rfl ?_
      refine Va (Vl rfl) rfl ?_
      refine Vw rfl rfl c8 ?_
      refine Va (Vq rfl) rfl ?_
      refine Vw rfl rfl c8 ?_
      refine Va (Vi rfl) rfl ?_
      refine Vw rfl rfl c8 ?_
      refine Va (Vy (Xg rfl rfl h10 te_25 ts_3) (v' := .vptr [.int .i64 x9] 0) rfl) rfl ?_
      refine Vw rfl rfl c8 ?_
      refine Va (Xe rfl ta_3 rfl) rfl ?_
      refine Vw rfl rfl c8 ?_
      refine Va (Xk rfl rfl) rfl ?_
      refine Va (Vn (congrArg Ye c8) rfl) rfl ?_
      refine Vd ?_
      obtain rfl := Yf hF
      refine Vv ?_
      exact Vg ⟨rfl, rfl, rfl, rfl, trivial⟩
     ·have hF := Xi c8 hF
      refine Va (Vi rfl) rfl ?_
      refine Va (Xk rfl rfl) rfl ?_
      refine Va (Vl rfl) rfl ?_
      refine Vw rfl rfl c7 ?_
      refine Va (Vi rfl) rfl ?_
      refine Vw rfl rfl c7 ?_
      refine Va (rd_geq rfl rfl) rfl ?_
      refine Va (Vn (congrArg Ye c7) rfl) rfl ?_
      refine Va (Vl rfl) rfl ?_
      refine Vb rfl rfl (neF c8) rfl ?_
      refine Vb rfl rfl (neF c8) rfl ?_
      refine Vb rfl rfl (neF c8) rfl ?_
      refine Vb rfl rfl (neF c8) rfl ?_
      refine Vb rfl rfl (neF c8) rfl ?_
      refine Va (Vp (congrArg Ye c8) rfl) rfl ?_
      refine Vd ?_
      obtain rfl := Yf hF
      refine Vv ?_
      exact Vg ⟨rfl, rfl, rfl, rfl, trivial⟩
    ·have hF := Xi c7 hF
     refine Va (Vi rfl) rfl ?_
     refine Va (Xk rfl rfl) rfl ?_
     refine Va (Vl rfl) rfl ?_
     refine Vb rfl rfl (neF c7) rfl ?_
     refine Vb rfl rfl (neF c7) rfl ?_
     refine Va (Vp (congrArg Ye c7) rfl) rfl ?_
     refine Va (Vl rfl) rfl ?_
     refine Vb rfl rfl (by decide) rfl ?_
     refine Vb rfl rfl (by decide) rfl ?_
     refine Vb rfl rfl (by decide) rfl ?_
     refine Vb rfl rfl (by decide) rfl ?_
     refine Vb rfl rfl (by decide) rfl ?_
     refine Va (Vp rfl rfl) rfl ?_
     refine Vd ?_
     obtain rfl := Yf hF
     refine Vv ?_
     exact Vg ⟨rfl, rfl, rfl, rfl, trivial⟩
   ·rintro _ _ _ _ ⟨rfl, hw⟩
    refine ⟨_, _, _, hw, ?_⟩
    refine Vt rfl (fun c11 => ?_) (fun c11 => ?_)
    ·have hF := Xh c11 hF
     refine Ve ?_
     refine Vc ?_
     refine Va (rd_nv (sz := 1) (rd_asN rfl)) rfl ?_
     refine Va (Vu rfl) rfl ?_
     refine Vd ?_
     refine Vz ?_
     obtain rfl := Yf hF
     refine fnR ?_
     exact Vg ⟨rfl, rfl, trivial⟩
    ·have hF := Xi c11 hF
     refine Xa ?_
     refine Ve ?_
     refine Vc ?_
     obtain ⟨x12, h13, hF⟩ := Xr hF
     refine Va (Vq rfl) rfl ?_
     refine Va (Vi rfl) rfl ?_
     refine Va (Vi rfl) rfl ?_
     refine Vh (Xb rfl Try.call30 (F_door_with_ok h13 _)) rfl ?_
     refine Va (rd_asV rfl) rfl ?_
     refine Va (Vu rfl) rfl ?_
     refine Vd ?_
     refine Vz ?_
     obtain rfl := Yf hF
     refine fnR ?_
     exact Vg ⟨rfl, rfl, trivial⟩
 ·rintro _ _ _ _ ⟨he, hw⟩
  refine ⟨_, _, _, hw, ?_⟩
  exact Xo he [.vs 1 (Yc (Yd .i64) r.1), .int .i64 r.2] ⟨rfl, rfl, trivial⟩ ((lt_tup ⟨.vs _ _, .int _ _, trivial⟩)) ⟨rfl, rfl⟩

theorem F_slices_Min___int_int__ok {p0 : List Int} {r : Int} (hF : F_slices_Min___int_int_ p0 = some r) (low : List AObj) :
    Xz Try.prog 27 [.vs 1 (Yc (Yd .i64) p0)] low fun x low' => x = .int .i64 r ∧ low' = low := by
 refine Xc (nt := 25) (rs := [.tmp 2]) Try.func27 rfl rfl (Yg rfl) rfl ?_
 refine Vo (Q' := FnE (fun E' lw lc => Xl E' lw lc [(2, .int .i64 r)] low [])) ?_ ?_
 ·unfold F_slices_Min___int_int_ at hF
  refine Ve ?_
  refine Vc ?_
  refine Va (Vu rfl) rfl ?_
  refine Vd ?_
  refine Ve ?_
  refine Ve ?_
  refine Vc ?_
  refine Va (Vq rfl) rfl ?_
  refine Va (Vy (Xd rfl rfl te_25) (congrArg (fun n : Nat => Yd .i64 (n : Int)) (Yj _))) rfl ?_
  refine Va (Xj rfl rfl) rfl ?_
  refine Vd ?_
  refine Vt rfl (fun c1 => ?_) (fun c1 => ?_)
  ·have hF := Xh c1 hF
   refine Vc ?_
   exact none_absurd hF
  ·have hF := Xi c1 hF
   refine Xa ?_
   refine Ve ?_
   refine Vc ?_
   obtain ⟨x2, h3, hF⟩ := Xr hF
   refine Va (Vq rfl) rfl ?_
   refine Va (Vy (Xg rfl rfl h3 te_25 ts_3) (v' := .vptr [.int .i64 x2] 0) rfl) rfl ?_
   refine Va (Xe rfl ta_3 rfl) rfl ?_
   refine Va (Vu rfl) rfl ?_
   refine Vd ?_
   refine Ve ?_
   refine Ve ?_
   refine Vc ?_
   refine Va (Vu rfl) rfl ?_
   refine Vd ?_
   refine Xf ?_
   obtain ⟨o5, ho5, hF⟩ := Xr hF
   refine Vo (vwp_loopC (F_slices_Min___int_int__L1 p0) (fun s4 E' lw lc => Xl E' lw lc [(0, .vs 1 (Yc (Yd .i64) p0)), (3, .int .i64 s4.1), (4, .int .i64 s4.2)] low []) (fun o5 => OnlyE (.exit 0) (fun E' lw lc => Xl E' lw lc [(3, .int .i64 o5)] low [])) ho5 ?_ (by rintro _ _ _ _ ⟨h, _⟩ <;> cases h) ?_) ?_
   ·exact Vg ⟨rfl, rfl, rfl, trivial⟩
   ·rintro s4 os4 _ _ _ hF hw
    unfold F_slices_Min___int_int__L1 at hF
    refine vwp_weak hw ?_
    refine Ve ?_
    refine Ve ?_
    refine Vc ?_
    refine Va (Vi rfl) rfl ?_
    refine Va (Vq rfl) rfl ?_
    refine Va (Vy (Xd rfl rfl te_25) (congrArg (fun n : Nat => Yd .i64 (n : Int)) (Yj _))) rfl ?_
    refine Va (Xj rfl rfl) rfl ?_
    refine Vd ?_
    refine Vt rfl (fun c6 => ?_) (fun c6 => ?_)
    ·have hF := Xh c6 hF
     refine Xa ?_
     refine Ve ?_
     refine Xf ?_
     refine Vc ?_
     obtain ⟨x7, h8, hF⟩ := Xr hF
     refine Va (Vi rfl) rfl ?_
     refine Va (Vq rfl) rfl ?_
     refine Va (Vi rfl) rfl ?_
     refine Va (Vy (Xg rfl rfl h8 te_25 ts_3) (v' := .vptr [.int .i64 x7] 0) rfl) rfl ?_
     refine Va (Xe rfl ta_3 rfl) rfl ?_
     refine Va (rd_min rfl rfl) rfl ?_
     refine Va (Vu rfl) rfl ?_
     refine Vd ?_
     refine Vc ?_
     refine Va (Vi rfl) rfl ?_
     refine Va (rd_add rfl rfl rfl) rfl ?_
     refine Va (Vu rfl) rfl ?_
     refine Vd ?_
     obtain rfl := Yf hF
     refine Vv ?_
     exact Vg ⟨rfl, rfl, rfl, trivial⟩
    ·have hF := Xi c6 hF
     refine vwp_exit ?_
     obtain rfl := Yf hF
     refine Vv ?_
     exact Vg ⟨rfl, trivial⟩
   ·rintro _ _ _ _ ⟨rfl, hw⟩
    refine ⟨_, _, _, hw, ?_⟩
    refine Ve ?_
    refine Vc ?_
    refine Va (Vi rfl) rfl ?_
    refine Va (Vu rfl) rfl ?_
    refine Vd ?_
    refine Vz ?_
    obtain rfl := Yf hF
    refine fnR ?_
    exact Vg ⟨rfl, trivial⟩
 ·rintro _ _ _ _ ⟨he, hw⟩
  refine ⟨_, _, _, hw, ?_⟩
  exact Xo he [.int .i64 r] ⟨rfl, trivial⟩ (.int _ _) ⟨rfl, rfl⟩

theorem F_slices_Max___int_int__ok {p0 : List Int} {r : Int} (hF : F_slices_Max___int_int_ p0 = some r) (low : List AObj) :
    Xz Try.prog 28 [.vs 1 (Yc (Yd .i64) p0)] low fun x low' => x = .int .i64 r ∧ low' = low := by
 refine Xc (nt := 25) (rs := [.tmp 2]) Try.func28 rfl rfl (Yg rfl) rfl ?_
 refine Vo (Q' := FnE (fun E' lw lc => Xl E' lw lc [(2, .int .i64 r)] low [])) ?_ ?_
 ·unfold F_slices_Max___int_int_ at hF
  refine Ve ?_
  refine Vc ?_
  refine Va (Vu rfl) rfl ?_
  refine Vd ?_
  refine Ve ?_
  refine Ve ?_
  refine Vc ?_
  refine Va (Vq rfl) rfl ?_
  refine Va (Vy (Xd rfl rfl te_25) (congrArg (fun n : Nat => Yd .i64 (n : Int)) (Yj _))) rfl ?_
  refine Va (Xj rfl rfl) rfl ?_
  refine Vd ?_
  refine Vt rfl (fun c1 => ?_) (fun c1 => ?_)
  ·have hF := Xh c1 hF
   refine Vc ?_
   exact none_absurd hF
  ·have hF := Xi c1 hF
   refine Xa ?_
   refine Ve ?_
   refine Vc ?_
   obtain ⟨x2, h3, hF⟩ := Xr hF
   refine Va (Vq rfl) rfl ?_
   refine Va (Vy (Xg rfl rfl h3 te_25 ts_3) (v' := .vptr [.int .i64 x2] 0) rfl) rfl ?_
   refine Va (Xe rfl ta_3 rfl) rfl ?_
   refine Va (Vu rfl) rfl ?_
   refine Vd ?_
   refine Ve ?_
   refine Ve ?_
   refine Vc ?_
   refine Va (Vu rfl) rfl ?_
   refine Vd ?_
   refine Xf ?_
   obtain ⟨o5, ho5, hF⟩ := Xr hF
   refine Vo (vwp_loopC (F_slices_Max___int_int__L1 p0) (fun s4 E' lw lc => Xl E' lw lc [(0, .vs 1 (Yc (Yd .i64) p0)), (3, .int .i64 s4.1), (4, .int .i64 s4.2)] low []) (fun o5 => OnlyE (.exit 0) (fun E' lw lc => Xl E' lw lc [(3, .int .i64 o5)] low [])) ho5 ?_ (by rintro _ _ _ _ ⟨h, _⟩ <;> cases h) ?_) ?_
   ·exact Vg ⟨rfl, rfl, rfl, trivial⟩
   ·rintro s4 os4 _ _ _ hF hw
    unfold F_slices_Max___int_int__L1 at hF
    refine vwp_weak hw ?_
    refine Ve ?_
    refine Ve ?_
    refine Vc ?_
    refine Va (Vi rfl) rfl ?_
    refine Va (Vq rfl) rfl ?_
    refine Va (Vy (Xd rfl rfl te_25) (congrArg (fun n : Nat => Yd .i64 (n : Int)) (Yj _))) rfl ?_
    refine Va (Xj rfl rfl) rfl ?_
    refine Vd ?_
    refine Vt rfl (fun c6 => ?_) (fun c6 => ?_)
    ·have hF := Xh c6 hF
     refine Xa ?_
     refine Ve ?_
     refine Xf ?_
     refine Vc ?_
     obtain ⟨x7, h8, hF⟩ := Xr hF
     refine Va (Vi rfl) rfl ?_
     refine Va (Vq rfl) rfl ?_
     refine Va (Vi rfl) rfl ?_
     refine Va (Vy (Xg rfl rfl h8 te_25 ts_3) (v' := .vptr [.int .i64 x7] 0) rfl) rfl ?_
     refine Va (Xe rfl ta_3 rfl) rfl ?_
     refine Va (rd_max rfl rfl) rfl ?_
     refine Va (Vu rfl) rfl ?_
     refine Vd ?_
     refine Vc ?_
     refine Va (Vi rfl) rfl ?_
     refine Va (rd_add rfl rfl rfl) rfl ?_
     refine Va (Vu rfl) rfl ?_
     refine Vd ?_
     obtain rfl := Yf hF
     refine Vv ?_
     exact Vg ⟨rfl, rfl, rfl, trivial⟩
    ·have hF := Xi c6 hF
     refine vwp_exit ?_
     obtain rfl := Yf hF
     refine Vv ?_
     exact Vg ⟨rfl, trivial⟩
   ·rintro _ _ _ _ ⟨rfl, hw⟩
    refine ⟨_, _, _, hw, ?_⟩
    refine Ve ?_
    refine Vc ?_
    refine Va (Vi rfl) rfl ?_
    refine Va (Vu rfl) rfl ?_
    refine Vd ?_
    refine Vz ?_
    obtain rfl := Yf hF
    refine fnR ?_
    exact Vg ⟨rfl, trivial⟩
 ·rintro _ _ _ _ ⟨he, hw⟩
  refine ⟨_, _, _, hw, ?_⟩
  exact Xo he [.int .i64 r] ⟨rfl, trivial⟩ (.int _ _) ⟨rfl, rfl⟩

theorem F_door_Rest_ok {p0 : T_Door} {p1 : Int} {r : T_Span} (hF : F_door_Rest p0 p1 = some r) (low : List AObj) :
    Xz Try.prog 13 [.agg [.int .i64 p0.Road, .int .i64 p0.Other, .vs 1 (Yc (Yd .i64) p0.Rests)], .int .i64 p1] low fun x low' => x = .agg [.int .i64 r.Low, .int .i64 r.High] ∧ low' = low := by
 refine Xc (nt := 43) (rs := [.cell 4 33]) Try.func13 rfl rfl (Yg rfl) rfl ?_
 refine Vo (Q' := FnE (fun E' lw lc => Xl E' lw lc [(4, .ptr (low.length + 0) 0 0 0)] low [⟨33, 2, [.agg [.int .i64 r.Low, .int .i64 r.High]], 0⟩])) ?_ ?_
 ·unfold F_door_Rest at hF
  refine Ve ?_
  refine Vc ?_
  refine Vh (vef_boxN rfl rfl (v := .agg [.int .i64 p0.Road, .int .i64 p0.Other, .vs 1 (Yc (Yd .i64) p0.Rests)]) rfl rfl (Yh _) rfl rfl) rfl ?_
  refine Vh (vef_allocN rfl rfl tz_33 rfl rfl (Yh _) rfl) rfl ?_
  refine Vd ?_
  refine Ve ?_
  refine Xf ?_
  refine Ve ?_
  obtain ⟨o1, ho1, hF⟩ := Xr hF
  refine Vo (Q' := (fun o1 => OnlyE .normal (fun E' lw lc => Xl E' lw lc [(1, .int .i64 p1), (2, .ptr (low.length + 0) 0 0 0), (4, .ptr (low.length + 1) 0 0 0), (5, .bool o1)] low [⟨36, 3, [.agg [.int .i64 p0.Road, .int .i64 p0.Other, .vs 1 (Yc (Yd .i64) p0.Rests)]], 0⟩, ⟨33, 2, [.agg [.int .i64 0, .int .i64 0]], 0⟩])) o1) ?_ ?_
  ·replace hF := ho1
   refine Vc ?_
   rcases Yi (decide (((p0.Rests).length : Int) = 0)) with c2 | c2
   ·have hF := Xh c2 hF
    refine Va (Vf rfl tf_36_2 ts_25 (by decide)) rfl ?_
    refine Va (Vj rfl (Vk rfl rfl) rfl ta_25 rfl) rfl ?_
    refine Va (Vy (Xd rfl rfl te_25) (congrArg (fun n : Nat => Yd .i64 (n : Int)) (Yj _))) rfl ?_
    refine Va (Xw rfl rfl) rfl ?_
    refine Va (Vl rfl) rfl ?_
    refine Vb rfl rfl (Xu c2) rfl ?_
    refine Vb rfl rfl (Xu c2) rfl ?_
    refine Va (Vn (congrArg Ye c2) rfl) rfl ?_
    refine Va (Vl rfl) rfl ?_
    refine Vb rfl rfl (by decide) rfl ?_
    refine Vb rfl rfl (by decide) rfl ?_
    refine Vb rfl rfl (by decide) rfl ?_
    refine Vb rfl rfl (by decide) rfl ?_
    refine Vb rfl rfl (by decide) rfl ?_
    refine Va (Vn rfl rfl) rfl ?_
    refine Va (Xp rfl) rfl ?_
    refine Vd ?_
    obtain rfl := Yf hF
    refine Vv ?_
    exact Vg ⟨rfl, rfl, rfl, rfl, trivial⟩
   ·have hF := Xi c2 hF
    rcases Yi (decide (p1 < (-1))) with c3 | c3
    ·have hF := Xh c3 hF
     refine Va (Vf rfl tf_36_2 ts_25 (by decide)) rfl ?_
     refine Va (Vj rfl (Vk rfl rfl) rfl ta_25 rfl) rfl ?_
     refine Va (Vy (Xd rfl rfl te_25) (congrArg (fun n : Nat => Yd .i64 (n : Int)) (Yj _))) rfl ?_
     refine Va (Xw rfl rfl) rfl ?_
     refine Va (Vl rfl) rfl ?_
     refine Vw rfl rfl c2 ?_
     refine Va (Vi rfl) rfl ?_
     refine Vw rfl rfl c2 ?_
     refine Va (Xj rfl rfl) rfl ?_
     refine Va (Vp (congrArg Ye c2) rfl) rfl ?_
     refine Va (Vl rfl) rfl ?_
     refine Vb rfl rfl (Xu c3) rfl ?_
     refine Vb rfl rfl (Xu c3) rfl ?_
     refine Vb rfl rfl (Xu c3) rfl ?_
     refine Vb rfl rfl (Xu c3) rfl ?_
     refine Vb rfl rfl (Xu c3) rfl ?_
     refine Va (Vn (congrArg Ye c3) rfl) rfl ?_
     refine Va (Xp rfl) rfl ?_
     refine Vd ?_
     obtain rfl := Yf hF
     refine Vv ?_
     exact Vg ⟨rfl, rfl, rfl, rfl, trivial⟩
    ·have hF := Xi c3 hF
     refine Va (Vf rfl tf_36_2 ts_25 (by decide)) rfl ?_
     refine Va (Vj rfl (Vk rfl rfl) rfl ta_25 rfl) rfl ?_
     refine Va (Vy (Xd rfl rfl te_25) (congrArg (fun n : Nat => Yd .i64 (n : Int)) (Yj _))) rfl ?_
     refine Va (Xw rfl rfl) rfl ?_
     refine Va (Vl rfl) rfl ?_
     refine Vw rfl rfl c2 ?_
     refine Va (Vi rfl) rfl ?_
     refine Vw rfl rfl c2 ?_
     refine Va (Xj rfl rfl) rfl ?_
     refine Va (Vp (congrArg Ye c2) rfl) rfl ?_
     refine Va (Vl rfl) rfl ?_
     refine Vw rfl rfl c3 ?_
     refine Va (Vi rfl) rfl ?_
     refine Vw rfl rfl c3 ?_
     refine Va (Vf rfl tf_36_2 ts_25 (by decide)) rfl ?_
     refine Vw rfl rfl c3 ?_
     refine Va (Vj rfl (Vk rfl rfl) rfl ta_25 rfl) rfl ?_
     refine Vw rfl rfl c3 ?_
     refine Va (Vy (Xd rfl rfl te_25) (congrArg (fun n : Nat => Yd .i64 (n : Int)) (Yj _))) rfl ?_
     refine Vw rfl rfl c3 ?_
     refine Va (rd_geq rfl rfl) rfl ?_
     refine Va (Vp (congrArg Ye c3) rfl) rfl ?_
     refine Va (Xp rfl) rfl ?_
     refine Vd ?_
     obtain rfl := Yf hF
     refine Vv ?_
     exact Vg ⟨rfl, rfl, rfl, rfl, trivial⟩
  ·rintro _ _ _ _ ⟨rfl, hw⟩
   refine ⟨_, _, _, hw, ?_⟩
   refine Vt rfl (fun c4 => ?_) (fun c4 => ?_)
   ·have hF := Xh c4 hF
    refine Ve ?_
    refine Vc ?_
    refine Va (rd_build (vs := []) (ds := [.int .i64 0, .int .i64 0]) tz_33 rfl rfl tp_33 trivial (nt_all2 rfl) rfl) rfl ?_
    refine Vh (Xn (p := .agg [.int .i64 0, .int .i64 0]) (e' := .agg [.int .i64 0, .int .i64 0]) rfl (Vk rfl rfl) rfl rfl ts_33 rfl (nt_ne rfl) rfl (Yg rfl) rfl (Xx rfl rfl)) rfl ?_
    refine Vd ?_
    refine Vz ?_
    obtain rfl := Yf hF
    refine fnR ?_
    exact Vx rfl [(1, 0)] (by decide) ⟨rn_ptr 0 1 rfl rfl, trivial⟩ ⟨⟨_, rfl, rfl, .same _ _ _ _ (ltObj_es ⟨Yb ⟨.int _ _, .int _ _, trivial⟩, trivial⟩)⟩, trivial⟩
   ·have hF := Xi c4 hF
    refine Ve ?_
    refine Vc ?_
    refine Va (Vi rfl) rfl ?_
    refine Va (Xw rfl rfl) rfl ?_
    refine Va (Xp rfl) rfl ?_
    refine Vd ?_
    refine Vt rfl (fun c5 => ?_) (fun c5 => ?_)
    ·have hF := Xh c5 hF
     refine Ve ?_
     obtain ⟨x6, h7, hF⟩ := Xr hF
     obtain ⟨x8, h9, hF⟩ := Xr hF
     refine vwp_drawn [[], [0], [0, 1], [], [3], [0, 1, 2, 3, 4], [0, 1, 2, 3, 4, 5], [0, 1, 2, 3, 4, 5, 6]] [false, false, false, false, false, false, false, true] [(low, [⟨36, 3, [.agg [.int .i64 p0.Road, .int .i64 p0.Other, .vs 1 (Yc (Yd .i64) p0.Rests)]], 0⟩, ⟨33, 2, [.agg [.int .i64 0, .int .i64 0]], 0⟩]), (low, [⟨36, 3, [.agg [.int .i64 p0.Road, .int .i64 p0.Other, .vs 1 (Yc (Yd .i64) p0.Rests)]], 0⟩, ⟨33, 2, [.agg [.int .i64 x6, .int .i64 x8]], 0⟩])] mixed (by kernel_rfl) rfl (lenAll (all1 rfl (all1 rfl all0))) rfl _ rfl rfl ?_
     refine Xm rfl rfl (Vf rfl tf_36_2 ts_25 (by decide)) ?_
     refine Xm rfl rfl (Vj rfl (Vk rfl rfl) rfl ta_25 rfl) ?_
     refine dn1 rfl rfl (nt_of (Xb rfl Try.call27 (F_slices_Min___int_int__ok h7 _))) ?_
     refine Xm rfl rfl (Vf rfl tf_36_2 ts_25 (by decide)) ?_
     refine Xm rfl rfl (Vj rfl (Vk rfl rfl) rfl ta_25 rfl) ?_
     refine dn1 rfl rfl (nt_of (Xb rfl Try.call28 (F_slices_Max___int_int__ok h9 _))) ?_
     refine Xm rfl rfl (rd_build (vs := [(0, .int .i64 x6), (1, .int .i64 x8)]) (ds := [.int .i64 x6, .int .i64 x8]) tz_33 rfl rfl tp_33 ⟨rfl, rfl, rfl, rfl, trivial⟩ (nt_all2 rfl) rfl) ?_
     refine dops_ef rfl rfl rfl (Xn (p := .agg [.int .i64 x6, .int .i64 x8]) (e' := .agg [.int .i64 x6, .int .i64 x8]) rfl (Vk rfl rfl) rfl rfl ts_33 rfl (nt_ne rfl) rfl (Yg rfl) rfl (Xx rfl rfl)) ?_
     refine dops_nil ?_
     refine Vz ?_
     obtain rfl := Yf hF
     refine fnR ?_
     exact Vx rfl [(1, 0)] (by decide) ⟨rn_ptr 0 1 rfl rfl, trivial⟩ ⟨⟨_, rfl, rfl, .same _ _ _ _ (ltObj_es ⟨Yb ⟨.int _ _, .int _ _, trivial⟩, trivial⟩)⟩, trivial⟩
    ·have hF := Xi c5 hF
     refine Xa ?_
     refine Ve ?_
     obtain ⟨x10, h11, hF⟩ := Xr hF
     obtain ⟨x12, h13, hF⟩ := Xr hF
     refine vwp_drawn [[], [0], [], [0, 1, 2], [0, 1, 2, 3], [], [5], [], [5, 6, 7], [5, 6, 7, 8], [0, 1, 2, 3, 4, 5, 6, 7, 8, 9], [0, 1, 2, 3, 4, 5, 6, 7, 8, 9, 10]] [false, false, false, false, false, false, false, false, false, false, false, true] [(low, [⟨36, 3, [.agg [.int .i64 p0.Road, .int .i64 p0.Other, .vs 1 (Yc (Yd .i64) p0.Rests)]], 0⟩, ⟨33, 2, [.agg [.int .i64 0, .int .i64 0]], 0⟩]), (low, [⟨36, 3, [.agg [.int .i64 p0.Road, .int .i64 p0.Other, .vs 1 (Yc (Yd .i64) p0.Rests)]], 0⟩, ⟨33, 2, [.agg [.int .i64 x10, .int .i64 x12]], 0⟩])] mixed (by kernel_rfl) rfl (lenAll (all1 rfl (all1 rfl all0))) rfl _ rfl rfl ?_
     refine Xm rfl rfl (Vf rfl tf_36_2 ts_25 (by decide)) ?_
     refine Xm rfl rfl (Vj rfl (Vk rfl rfl) rfl ta_25 rfl) ?_
     refine Xm rfl rfl (Vi rfl) ?_
     refine Xm rfl rfl (Vy (Xg rfl rfl h11 te_25 ts_3) (v' := .vptr [.int .i64 x10] 0) rfl) ?_
     refine Xm rfl rfl (Xe rfl ta_3 rfl) ?_
     refine Xm rfl rfl (Vf rfl tf_36_2 ts_25 (by decide)) ?_
     refine Xm rfl rfl (Vj rfl (Vk rfl rfl) rfl ta_25 rfl) ?_
     refine Xm rfl rfl (Vi rfl) ?_
     refine Xm rfl rfl (Vy (Xg rfl rfl h13 te_25 ts_3) (v' := .vptr [.int .i64 x12] 0) rfl) ?_
     refine Xm rfl rfl (Xe rfl ta_3 rfl) ?_
     refine Xm rfl rfl (rd_build (vs := [(0, .int .i64 x10), (1, .int .i64 x12)]) (ds := [.int .i64 x10, .int .i64 x12]) tz_33 rfl rfl tp_33 ⟨rfl, rfl, rfl, rfl, trivial⟩ (nt_all2 rfl) rfl) ?_
     refine dops_ef rfl rfl rfl (Xn (p := .agg [.int .i64 x10, .int .i64 x12]) (e' := .agg [.int .i64 x10, .int .i64 x12]) rfl (Vk rfl rfl) rfl rfl ts_33 rfl (nt_ne rfl) rfl (Yg rfl) rfl (Xx rfl rfl)) ?_
     refine dops_nil ?_
     refine Vz ?_
     obtain rfl := Yf hF
     refine fnR ?_
     exact Vx rfl [(1, 0)] (by decide) ⟨rn_ptr 0 1 rfl rfl, trivial⟩ ⟨⟨_, rfl, rfl, .same _ _ _ _ (ltObj_es ⟨Yb ⟨.int _ _, .int _ _, trivial⟩, trivial⟩)⟩, trivial⟩
 ·rintro _ _ _ _ ⟨he, hw⟩
  refine ⟨_, _, _, hw, ?_⟩
  exact Xo he [.agg [.int .i64 r.Low, .int .i64 r.High]] ⟨rd_loadN rfl (Vk rfl rfl) rfl ta_33 ts_33 rfl rfl rfl, trivial⟩ ((Yb ⟨.int _ _, .int _ _, trivial⟩)) ⟨rfl, rfl⟩

theorem F_ref01_Ints_ok {p0 : List Int} {p1 : List Int} {r : Bool} (hF : F_ref01_Ints p0 p1 = some r) (low : List AObj) :
    Xz Try.prog 15 [.vs 1 (Yc (Yd .i64) p0), .vs 1 (Yc (Yd .i64) p1)] low fun x low' => x = .bool r ∧ low' = low := by
 refine Xc (nt := 26) (rs := [.tmp 4]) Try.func15 rfl rfl (Yg rfl) rfl ?_
 refine Vo (Q' := FnE (fun E' lw lc => Xl E' lw lc [(4, .bool r)] low [])) ?_ ?_
 ·unfold F_ref01_Ints at hF
  refine Ve ?_
  refine Vc ?_
  refine Va (Xp rfl) rfl ?_
  refine Vd ?_
  refine Ve ?_
  refine Ve ?_
  refine Vc ?_
  refine Va (Vq rfl) rfl ?_
  refine Va (Vy (Xd rfl rfl te_25) (congrArg (fun n : Nat => Yd .i64 (n : Int)) (Yj _))) rfl ?_
  refine Va (Vq rfl) rfl ?_
  refine Va (Vy (Xd rfl rfl te_25) (congrArg (fun n : Nat => Yd .i64 (n : Int)) (Yj _))) rfl ?_
  refine Va (Xk rfl rfl) rfl ?_
  refine Vd ?_
  refine Vt rfl (fun c1 => ?_) (fun c1 => ?_)
  ·have hF := Xh c1 hF
   refine Ve ?_
   refine Vc ?_
   refine Va (Xp rfl) rfl ?_
   refine Vd ?_
   refine Vz ?_
   obtain rfl := Yf hF
   refine fnR ?_
   exact Vg ⟨rfl, trivial⟩
  ·have hF := Xi c1 hF
   refine Xa ?_
   refine Ve ?_
   refine Ve ?_
   refine Vc ?_
   refine Va (Vu rfl) rfl ?_
   refine Vd ?_
   refine Xf ?_
   obtain ⟨o3, ho3, hF⟩ := Xr hF
   refine Vo (vwp_loopC (F_ref01_Ints_L1 p0 p1) (fun s2 E' lw lc => Xl E' lw lc [(0, .vs 1 (Yc (Yd .i64) p0)), (1, .vs 1 (Yc (Yd .i64) p1)), (5, .int .i64 s2)] low []) (Sum.elim (fun j4 => OnlyE .ret (fun E' lw lc => Xl E' lw lc [(4, .bool false)] low [])) (fun j5 => OnlyE (.exit 0) (fun E' lw lc => Xl E' lw lc [] low []))) ho3 ?_ (by rintro (_|_) _ _ _ ⟨h, _⟩ <;> cases h) ?_) ?_
   ·exact Vg ⟨rfl, rfl, rfl, trivial⟩
   ·rintro s2 os2 _ _ _ hF hw
    unfold F_ref01_Ints_L1 at hF
    refine vwp_weak hw ?_
    refine Ve ?_
    refine Ve ?_
    refine Vc ?_
    refine Va (Vi rfl) rfl ?_
    refine Va (Vq rfl) rfl ?_
    refine Va (Vy (Xd rfl rfl te_25) (congrArg (fun n : Nat => Yd .i64 (n : Int)) (Yj _))) rfl ?_
    refine Va (Xj rfl rfl) rfl ?_
    refine Vd ?_
    refine Vt rfl (fun c6 => ?_) (fun c6 => ?_)
    ·have hF := Xh c6 hF
     refine Xa ?_
     refine Ve ?_
     refine Xf ?_
     refine Ve ?_
     obtain ⟨x7, h8, hF⟩ := Xr hF
     obtain ⟨x9, h10, hF⟩ := Xr hF
     refine vwp_drawn0 [[], [], [0, 1], [0, 1, 2], [], [], [4, 5], [4, 5, 6], [0, 1, 2, 3, 4, 5, 6, 7]] mixed (by kernel_rfl) rfl ?_
     refine Xm rfl rfl (Vq rfl) ?_
     refine Xm rfl rfl (Vi rfl) ?_
     refine Xm rfl rfl (Vy (Xg rfl rfl h8 te_25 ts_3) (v' := .vptr [.int .i64 x7] 0) rfl) ?_
     refine Xm rfl rfl (Xe rfl ta_3 rfl) ?_
     refine Xm rfl rfl (Vq rfl) ?_
     refine Xm rfl rfl (Vi rfl) ?_
     refine Xm rfl rfl (Vy (Xg rfl rfl h10 te_25 ts_3) (v' := .vptr [.int .i64 x9] 0) rfl) ?_
     refine Xm rfl rfl (Xe rfl ta_3 rfl) ?_
     refine Xm rfl rfl (Xk rfl rfl) ?_
     refine dops_nil ?_
     refine Vt rfl (fun c11 => ?_) (fun c11 => ?_)
     ·have hF := Xh c11 hF
      refine Ve ?_
      refine Vc ?_
      refine Va (Xp rfl) rfl ?_
      refine Vd ?_
      refine Vz ?_
      obtain rfl := Yf hF
      refine Vv ?_
      exact Vg ⟨rfl, trivial⟩
     ·have hF := Xi c11 hF
      refine Xa ?_
      refine Vc ?_
      refine Va (Vi rfl) rfl ?_
      refine Va (rd_add rfl rfl rfl) rfl ?_
      refine Va (Vu rfl) rfl ?_
      refine Vd ?_
      obtain rfl := Yf hF
      refine Vv ?_
      exact Vg ⟨rfl, rfl, rfl, trivial⟩
    ·have hF := Xi c6 hF
     refine vwp_exit ?_
     obtain rfl := Yf hF
     refine Vv ?_
     exact Vg trivial
   ·rcases o3 with j4 | j5
    ·replace hF := elimL hF
     rintro _ _ _ _ ⟨rfl, hw⟩
     refine ⟨_, _, _, hw, ?_⟩
     obtain rfl := Yf hF
     refine fnR ?_
     exact Vg ⟨rfl, trivial⟩
    ·replace hF := elimR hF
     rintro _ _ _ _ ⟨rfl, hw⟩
     refine ⟨_, _, _, hw, ?_⟩
     refine Ve ?_
     refine Vc ?_
     refine Va (Xp rfl) rfl ?_
     refine Vd ?_
     refine Vz ?_
     obtain rfl := Yf hF
     refine fnR ?_
     exact Vg ⟨rfl, trivial⟩
 ·rintro _ _ _ _ ⟨he, hw⟩
  refine ⟨_, _, _, hw, ?_⟩
  exact Xo he [.bool r] ⟨rfl, trivial⟩ (.bool _) ⟨rfl, rfl⟩

theorem F_door_Open_ok {p0 : List T_Door} {p1 : List Int} {r : List Int} (hF : F_door_Open p0 p1 = some r) (low : List AObj) :
    Xz Try.prog 16 [.vs 3 (Yc T_Door.enc p0), .vs 1 (Yc (Yd .i64) p1)] low fun x low' => x = .vs 1 (Yc (Yd .i64) r) ∧ low' = low := by
 refine Xc (nt := 49) (rs := [.tmp 4]) Try.func16 rfl rfl (Yg rfl) rfl ?_
 refine Vo (Q' := FnE (fun E' lw lc => Xl E' lw lc [(4, .vs 1 (Yc (Yd .i64) r))] low [])) ?_ ?_
 ·unfold F_door_Open at hF
  refine Ve ?_
  refine Vc ?_
  refine Va (rd_nv (sz := 1) (rd_asN rfl)) rfl ?_
  refine Vd ?_
  refine Ve ?_
  refine Ve ?_
  obtain ⟨o1, ho1, hF⟩ := Xr hF
  refine Vo (Q' := (fun o1 => OnlyE .normal (fun E' lw lc => Xl E' lw lc [(0, .vs 3 (Yc T_Door.enc p0)), (1, .vs 1 (Yc (Yd .i64) p1)), (17, .bool o1)] low [])) o1) ?_ ?_
  ·replace hF := ho1
   refine Vc ?_
   obtain ⟨x2, h3, hF⟩ := Xr hF
   rcases Yi (decide (x2 ≠ 0)) with c4 | c4
   ·have hF := Xh c4 hF
    refine Va (Vq rfl) rfl ?_
    refine Vh (Xb rfl Try.call10 (F_door_Check_ok h3 _)) rfl ?_
    refine Va (Xk rfl rfl) rfl ?_
    refine Va (Vl rfl) rfl ?_
    refine Vb rfl rfl (Xu c4) rfl ?_
    refine Vb rfl rfl (Xu c4) rfl ?_
    refine Vb rfl rfl (Xu c4) rfl ?_
    refine Vb rfl rfl (Xu c4) rfl ?_
    refine Vb rfl rfl (Xu c4) rfl ?_
    refine Va (Vn (congrArg Ye c4) rfl) rfl ?_
    refine Vd ?_
    obtain rfl := Yf hF
    refine Vv ?_
    exact Vg ⟨rfl, rfl, rfl, trivial⟩
   ·have hF := Xi c4 hF
    refine Va (Vq rfl) rfl ?_
    refine Vh (Xb rfl Try.call10 (F_door_Check_ok h3 _)) rfl ?_
    refine Va (Xk rfl rfl) rfl ?_
    refine Va (Vl rfl) rfl ?_
    refine Vw rfl rfl c4 ?_
    refine Va (Vq rfl) rfl ?_
    refine Vw rfl rfl c4 ?_
    refine Va (Vy (Xd rfl rfl te_25) (congrArg (fun n : Nat => Yd .i64 (n : Int)) (Yj _))) rfl ?_
    refine Vw rfl rfl c4 ?_
    refine Va (Vq rfl) rfl ?_
    refine Vw rfl rfl c4 ?_
    refine Va (Vy (Xd rfl rfl te_23) (congrArg (fun n : Nat => Yd .i64 (n : Int)) (Yj _))) rfl ?_
    refine Vw rfl rfl c4 ?_
    refine Va (Xk rfl rfl) rfl ?_
    refine Va (Vp (congrArg Ye c4) rfl) rfl ?_
    refine Vd ?_
    obtain rfl := Yf hF
    refine Vv ?_
    exact Vg ⟨rfl, rfl, rfl, trivial⟩
  ·rintro _ _ _ _ ⟨rfl, hw⟩
   refine ⟨_, _, _, hw, ?_⟩
   refine Vt rfl (fun c5 => ?_) (fun c5 => ?_)
   ·have hF := Xh c5 hF
    refine Ve ?_
    refine Vc ?_
    refine Va (rd_nv (sz := 1) (rd_asN rfl)) rfl ?_
    refine Vd ?_
    refine Vz ?_
    obtain rfl := Yf hF
    refine fnR ?_
    exact Vg ⟨rfl, trivial⟩
   ·have hF := Xi c5 hF
    refine Xa ?_
    refine Ve ?_
    refine Vc ?_
    refine Vh (vef_nilsN rfl rfl 3 1 (Yh _) (rd_asN rfl)) rfl ?_
    refine Vd ?_
    refine Ve ?_
    refine Ve ?_
    refine Vc ?_
    refine Va (Vq rfl) rfl ?_
    refine Va (Vy (Xd rfl rfl te_23) (congrArg (fun n : Nat => Yd .i64 (n : Int)) (Yj _))) rfl ?_
    refine Va (Vi rfl) rfl ?_
    refine Vd ?_
    refine Xf ?_
    obtain ⟨o7, ho7, hF⟩ := Xr hF
    refine Vo (vwp_loopC (F_door_Open_L1 p0 p1) (fun s6 E' lw lc => Xl E' lw lc [(1, .vs 1 (Yc (Yd .i64) p1)), (5, .sl (low.length + 0) 0 0 (s6.2).length), (18, .vs 3 (Yc T_Door.enc p0)), (19, .int .i64 ((p0).length : Int)), (20, .int .i64 s6.1)] low [⟨3, 1, Yc (Yd .i64) s6.2, 0⟩]) (fun o7 => OnlyE (.exit 0) (fun E' lw lc => Xl E' lw lc [(5, .sl (low.length + 0) 0 0 (o7).length)] low [⟨3, 1, Yc (Yd .i64) o7, 0⟩])) ho7 ?_ (by rintro _ _ _ _ ⟨h, _⟩ <;> cases h) ?_) ?_
    ·exact Vg ⟨rfl, rfl, rfl, rfl, rfl, trivial⟩
    ·rintro s6 os6 _ _ _ hF hw
     unfold F_door_Open_L1 at hF
     refine vwp_weak hw ?_
     refine Ve ?_
     refine Vc ?_
     refine Va (Xj rfl rfl) rfl ?_
     refine Vd ?_
     refine Ve ?_
     refine Vt rfl (fun c8 => ?_) (fun c8 => ?_)
     ·have hF := Xh c8 hF
      refine Xa ?_
      refine Ve ?_
      obtain ⟨o9, ho9, hF⟩ := Xr hF
      refine Vo (Q' := (fun o9 => OnlyE .normal (fun E' lw lc => Xl E' lw lc [(1, .vs 1 (Yc (Yd .i64) p1)), (5, .sl (low.length + 0) 0 0 (o9).length), (18, .vs 3 (Yc T_Door.enc p0)), (19, .int .i64 ((p0).length : Int)), (20, .int .i64 s6.1)] low [⟨3, 1, Yc (Yd .i64) o9, 0⟩])) o9) ?_ ?_
      ·replace hF := ho9
       refine Xf ?_
       refine Ve ?_
       refine Vc ?_
       obtain ⟨x10, h11, hF⟩ := Xr hF
       refine Va (Vi rfl) rfl ?_
       refine Va (Vy (Xg rfl rfl h11 te_23 ts_36) (v' := .vptr [.int .i64 x10.Road, .int .i64 x10.Other, .vs 1 (Yc (Yd .i64) x10.Rests)] 0) rfl) rfl ?_
       refine Va (rd_loadVN (ds := [.int .i64 x10.Road, .int .i64 x10.Other, .vs 1 (Yc (Yd .i64) x10.Rests)]) rfl ta_36 ts_36 rfl rfl) rfl ?_
       refine Vh (vef_allocN rfl rfl tz_36 rfl rfl (Yh _) rfl) rfl ?_
       refine Va (Vu rfl) rfl ?_
       refine Vh (Xn (p := .agg [.int .i64 x10.Road, .int .i64 x10.Other, .vs 1 (Yc (Yd .i64) x10.Rests)]) (e' := .agg [.int .i64 x10.Road, .int .i64 x10.Other, .vs 1 (Yc (Yd .i64) x10.Rests)]) rfl (Vk rfl rfl) rfl rfl ts_36 rfl (nt_ne rfl) rfl (Yg rfl) rfl (Xx rfl rfl)) rfl ?_
       refine Vd ?_
       refine Ve ?_
       obtain ⟨o12, ho12, hF⟩ := Xr hF
       refine Vo (Q' := (fun o12 => OnlyE .normal (fun E' lw lc => Xl E' lw lc [(1, .vs 1 (Yc (Yd .i64) p1)), (5, .sl (low.length + 0) 0 0 (s6.2).length), (6, .int .i64 s6.1), (18, .vs 3 (Yc T_Door.enc p0)), (19, .int .i64 ((p0).length : Int)), (20, .int .i64 s6.1), (42, .bool o12)] low [⟨3, 1, Yc (Yd .i64) s6.2, 0⟩])) o12) ?_ ?_
       ·replace hF := ho12
        refine Vc ?_
        rcases Yi (decide (0 ≤ x10.Other)) with c13 | c13
        ·have hF := Xh c13 hF
         obtain ⟨x14, h15, hF⟩ := Xr hF
         rcases Yi (decide (x14 ≠ 0)) with c16 | c16
         ·have hF := Xh c16 hF
          obtain ⟨x17, h18, hF⟩ := Xr hF
          refine Va (Vf rfl tf_36_1 ts_3 (by decide)) rfl ?_
          refine Va (Vj rfl (Vk rfl rfl) rfl ta_3 rfl) rfl ?_
          refine Va (rd_geq rfl rfl) rfl ?_
          refine Va (Vl rfl) rfl ?_
          refine Vw rfl rfl c13 ?_
          refine Va (Vq rfl) rfl ?_
          refine Vw rfl rfl c13 ?_
          refine Va (Vi rfl) rfl ?_
          refine Vw rfl rfl c13 ?_
          refine Va (Vy (Xg rfl rfl h15 te_25 ts_3) (v' := .vptr [.int .i64 x14] 0) rfl) rfl ?_
          refine Vw rfl rfl c13 ?_
          refine Va (Xe rfl ta_3 rfl) rfl ?_
          refine Vw rfl rfl c13 ?_
          refine Va (Xk rfl rfl) rfl ?_
          refine Va (Vn (congrArg Ye c13) rfl) rfl ?_
          refine Va (Vl rfl) rfl ?_
          refine Vw rfl rfl c16 ?_
          refine Va (Vq rfl) rfl ?_
          refine Vw rfl rfl c16 ?_
          refine Va (Vf rfl tf_36_1 ts_3 (by decide)) rfl ?_
          refine Vw rfl rfl c16 ?_
          refine Va (Vj rfl (Vk rfl rfl) rfl ta_3 rfl) rfl ?_
          refine Vw rfl rfl c16 ?_
          refine Va (Vy (Xg rfl rfl h18 te_25 ts_3) (v' := .vptr [.int .i64 x17] 0) rfl) rfl ?_
          refine Vw rfl rfl c16 ?_
          refine Va (Xe rfl ta_3 rfl) rfl ?_
          refine Vw rfl rfl c16 ?_
          refine Va (Xk rfl rfl) rfl ?_
          refine Va (Vn (congrArg Ye c16) rfl) rfl ?_
          refine Vd ?_
          obtain rfl := Yf hF
          refine Vv ?_
          exact Vx rfl [(0, 0)] (by decide) ⟨Vm rfl (.vs _ _), rn_sl 0 0 rfl rfl, Vm rfl (.int _ _), Vm rfl (.vs _ _), Vm rfl (.int _ _), Vm rfl (.int _ _), Vm rfl (.bool _), trivial⟩ ⟨⟨_, rfl, rfl, .same _ _ _ _ (ltObj_map (fun _ => .int _ _))⟩, trivial⟩
         ·have hF := Xi c16 hF
          refine Va (Vf rfl tf_36_1 ts_3 (by decide)) rfl ?_
          refine Va (Vj rfl (Vk rfl rfl) rfl ta_3 rfl) rfl ?_
          refine Va (rd_geq rfl rfl) rfl ?_
          refine Va (Vl rfl) rfl ?_
          refine Vw rfl rfl c13 ?_
          refine Va (Vq rfl) rfl ?_
          refine Vw rfl rfl c13 ?_
          refine Va (Vi rfl) rfl ?_
          refine Vw rfl rfl c13 ?_
          refine Va (Vy (Xg rfl rfl h15 te_25 ts_3) (v' := .vptr [.int .i64 x14] 0) rfl) rfl ?_
          refine Vw rfl rfl c13 ?_
          refine Va (Xe rfl ta_3 rfl) rfl ?_
          refine Vw rfl rfl c13 ?_
          refine Va (Xk rfl rfl) rfl ?_
          refine Va (Vn (congrArg Ye c13) rfl) rfl ?_
          refine Va (Vl rfl) rfl ?_
          refine Vb rfl rfl (neF c16) rfl ?_
          refine Vb rfl rfl (neF c16) rfl ?_
          refine Vb rfl rfl (neF c16) rfl ?_
          refine Vb rfl rfl (neF c16) rfl ?_
          refine Vb rfl rfl (neF c16) rfl ?_
          refine Vb rfl rfl (neF c16) rfl ?_
          refine Va (Vp (congrArg Ye c16) rfl) rfl ?_
          refine Vd ?_
          obtain rfl := Yf hF
          refine Vv ?_
          exact Vx rfl [(0, 0)] (by decide) ⟨Vm rfl (.vs _ _), rn_sl 0 0 rfl rfl, Vm rfl (.int _ _), Vm rfl (.vs _ _), Vm rfl (.int _ _), Vm rfl (.int _ _), Vm rfl (.bool _), trivial⟩ ⟨⟨_, rfl, rfl, .same _ _ _ _ (ltObj_map (fun _ => .int _ _))⟩, trivial⟩
        ·have hF := Xi c13 hF
         refine Va (Vf rfl tf_36_1 ts_3 (by decide)) rfl ?_
         refine Va (Vj rfl (Vk rfl rfl) rfl ta_3 rfl) rfl ?_
         refine Va (rd_geq rfl rfl) rfl ?_
         refine Va (Vl rfl) rfl ?_
         refine Vb rfl rfl (neF c13) rfl ?_
         refine Vb rfl rfl (neF c13) rfl ?_
         refine Vb rfl rfl (neF c13) rfl ?_
         refine Vb rfl rfl (neF c13) rfl ?_
         refine Vb rfl rfl (neF c13) rfl ?_
         refine Va (Vp (congrArg Ye c13) rfl) rfl ?_
         refine Va (Vl rfl) rfl ?_
         refine Vb rfl rfl (by decide) rfl ?_
         refine Vb rfl rfl (by decide) rfl ?_
         refine Vb rfl rfl (by decide) rfl ?_
         refine Vb rfl rfl (by decide) rfl ?_
         refine Vb rfl rfl (by decide) rfl ?_
         refine Vb rfl rfl (by decide) rfl ?_
         refine Va (Vp rfl rfl) rfl ?_
         refine Vd ?_
         obtain rfl := Yf hF
         refine Vv ?_
         exact Vx rfl [(0, 0)] (by decide) ⟨Vm rfl (.vs _ _), rn_sl 0 0 rfl rfl, Vm rfl (.int _ _), Vm rfl (.vs _ _), Vm rfl (.int _ _), Vm rfl (.int _ _), Vm rfl (.bool _), trivial⟩ ⟨⟨_, rfl, rfl, .same _ _ _ _ (ltObj_map (fun _ => .int _ _))⟩, trivial⟩
       ·rintro _ _ _ _ ⟨rfl, hw⟩
        refine ⟨_, _, _, hw, ?_⟩
        refine Vt rfl (fun c19 => ?_) (fun c19 => ?_)
        ·have hF := Xh c19 hF
         refine Vc ?_
         obtain ⟨x20, h21, hF⟩ := Xr hF
         refine Va (rd_mvL rfl) rfl ?_
         refine Va (Vi rfl) rfl ?_
         refine Vh (vef_litF (es := Yc (Yd .i64) [s6.1]) ⟨rfl, rfl, trivial⟩ rfl rfl (nt_all rfl) te_25 ts_3 tz_3 rfl rfl (Yh _) (by decide) (lt_map (fun _ => .int _ _))) rfl ?_
         refine Vh (vef_apL (f := (Yd .i64)) (l := s6.2) (ys := [s6.1]) rfl rfl (Vk rfl rfl) rfl (src_vs rfl) te_25 ts_3 tb_3 (by decide) tz_3 rfl h21 (Xx rfl rfl)) rfl ?_
         refine Va (rd_asL rfl) rfl ?_
         refine Vd ?_
         obtain rfl := Yf hF
         refine Vv ?_
         exact Vx rfl [(0, 0 + 1)] (by decide) ⟨Vm rfl (.vs _ _), rn_sl 0 0 rfl rfl, Vm rfl (.vs _ _), Vm rfl (.int _ _), Vm rfl (.int _ _), trivial⟩ ⟨⟨_, rfl, rfl, .same _ _ _ _ (ltObj_map (fun _ => .int _ _))⟩, trivial⟩
        ·have hF := Xi c19 hF
         refine Xa ?_
         obtain rfl := Yf hF
         refine Vv ?_
         exact Vg ⟨rfl, rfl, rfl, rfl, rfl, trivial⟩
      ·rintro _ _ _ _ ⟨rfl, hw⟩
       refine ⟨_, _, _, hw, ?_⟩
       refine Vc ?_
       refine Va (rd_add rfl rfl rfl) rfl ?_
       refine Va (Vi rfl) rfl ?_
       refine Vd ?_
       obtain rfl := Yf hF
       refine Vv ?_
       exact Vg ⟨rfl, rfl, rfl, rfl, rfl, trivial⟩
     ·have hF := Xi c8 hF
      refine vwp_exit ?_
      obtain rfl := Yf hF
      refine Vv ?_
      exact Vg ⟨rfl, trivial⟩
    ·rintro _ _ _ _ ⟨rfl, hw⟩
     refine ⟨_, _, _, hw, ?_⟩
     refine Ve ?_
     refine Vc ?_
     refine Va (rd_mvL rfl) rfl ?_
     refine Va (rd_asL rfl) rfl ?_
     refine Vd ?_
     refine Vz ?_
     obtain rfl := Yf hF
     refine fnR ?_
     refine Weak.trans (weak_freezeN (E' := [(4, .vs 1 (Yc (Yd .i64) o7))]) (loc1 := [⟨3, 1, [], 0 + 1⟩]) rfl 0 rfl (lt_map (fun _ => .int _ _)) ⟨cv_sl rfl rfl rfl (full_take rfl), trivial⟩ ⟨.refl _, trivial⟩) ?_
     exact Vx rfl [] (by decide) ⟨Vm rfl (.vs _ _), trivial⟩ trivial
 ·rintro _ _ _ _ ⟨he, hw⟩
  refine ⟨_, _, _, hw, ?_⟩
  exact Xo he [.vs 1 (Yc (Yd .i64) r)] ⟨rfl, trivial⟩ (.vs _ _) ⟨rfl, rfl⟩

theorem F_law08_awake_ok  {r : Bool} (hF : F_law08_awake = some r) (low : List AObj) :
    Xz Try.prog 8 [] low fun x low' => x = .bool r ∧ low' = low := by
 refine Xc (nt := 54) (rs := [.tmp 0]) Try.func8 rfl rfl (Yg rfl) rfl ?_
 refine Vo (Q' := FnE (fun E' lw lc => Xl E' lw lc [(0, .bool r)] low [])) ?_ ?_
 ·unfold F_law08_awake at hF
  refine Ve ?_
  refine Vc ?_
  refine Va (Xp rfl) rfl ?_
  refine Vd ?_
  refine Ve ?_
  refine Vc ?_
  refine Vh (vef_litF (es := Yc (Yd .i64) [5000, 10]) ⟨rfl, rfl, rfl, rfl, trivial⟩ rfl rfl (nt_all rfl) te_25 ts_3 tz_3 rfl rfl (Yh _) (by decide) (lt_map (fun _ => .int _ _))) rfl ?_
  refine Va (rd_build (vs := [(1, .int .i64 1), (2, .vs 1 (Yc (Yd .i64) [5000, 10]))]) (ds := [.int .i64 0, .int .i64 1, .vs 1 (Yc (Yd .i64) [5000, 10])]) tz_36 rfl rfl tp_36 ⟨rfl, rfl, rfl, rfl, trivial⟩ (nt_all2 rfl) rfl) rfl ?_
  refine Vh (vef_litF (es := Yc (Yd .i64) [400, 2]) ⟨rfl, rfl, rfl, rfl, trivial⟩ rfl rfl (nt_all rfl) te_25 ts_3 tz_3 rfl rfl (Yh _) (by decide) (lt_map (fun _ => .int _ _))) rfl ?_
  refine Va (rd_build (vs := [(1, .int .i64 0), (2, .vs 1 (Yc (Yd .i64) [400, 2]))]) (ds := [.int .i64 0, .int .i64 0, .vs 1 (Yc (Yd .i64) [400, 2])]) tz_36 rfl rfl tp_36 ⟨rfl, rfl, rfl, rfl, trivial⟩ (nt_all2 rfl) rfl) rfl ?_
  refine Vh (vef_litF (es := Yc T_Door.enc [(T_Door.mk 0 1 [5000, 10]), (T_Door.mk 0 0 [400, 2])]) ⟨rfl, rfl, rfl, rfl, trivial⟩ rfl rfl (nt_all rfl) te_23 ts_36 tz_36 rfl rfl (Yh _) (by decide) (lt_map T_Door.enc_lt)) rfl ?_
  refine Va (rd_asV rfl) rfl ?_
  refine Vd ?_
  refine Ve ?_
  refine Vc ?_
  obtain ⟨x1, h2, hF⟩ := Xr hF
  refine Va (Vq rfl) rfl ?_
  refine Vh (vef_litF (es := Yc (Yd .i64) [0, 0]) ⟨rfl, rfl, rfl, rfl, trivial⟩ rfl rfl (nt_all rfl) te_25 ts_3 tz_3 rfl rfl (Yh _) (by decide) (lt_map (fun _ => .int _ _))) rfl ?_
  refine Vh (Xb rfl Try.call18 (F_door_Command_ok h2 _)) rfl ?_
  refine Va (rd_mvT rfl) rfl ?_
  refine Va (rd_extract rfl rfl) rfl ?_
  refine Va (rd_extract rfl rfl) rfl ?_
  refine Va (rd_asV rfl) rfl ?_
  refine Va (Vu rfl) rfl ?_
  refine Vd ?_
  refine Ve ?_
  refine Vc ?_
  obtain ⟨x3, h4, hF⟩ := Xr hF
  refine Va (Vq rfl) rfl ?_
  refine Vh (vef_litF (es := Yc (Yd .i64) [1, 0]) ⟨rfl, rfl, rfl, rfl, trivial⟩ rfl rfl (nt_all rfl) te_25 ts_3 tz_3 rfl rfl (Yh _) (by decide) (lt_map (fun _ => .int _ _))) rfl ?_
  refine Vh (Xb rfl Try.call18 (F_door_Command_ok h4 _)) rfl ?_
  refine Va (rd_mvT rfl) rfl ?_
  refine Va (rd_extract rfl rfl) rfl ?_
  refine Va (rd_extract rfl rfl) rfl ?_
  refine Va (rd_asV rfl) rfl ?_
  refine Va (Vu rfl) rfl ?_
  refine Vd ?_
  refine Ve ?_
  refine Vc ?_
  obtain ⟨x5, h6, hF⟩ := Xr hF
  rcases Yi (decide (x5 = 0)) with c7 | c7
  ·have hF := Xh c7 hF
   obtain ⟨x8, h9, hF⟩ := Xr hF
   obtain ⟨x10, h11, hF⟩ := Xr hF
   rcases Yi ((x10.Low == 10) && ((x10.High == 5000) && true)) with c12 | c12
   ·have hF := Xh c12 hF
    rcases Yi (decide (x1.2 = 0)) with c13 | c13
    ·have hF := Xh c13 hF
     obtain ⟨x14, h15, hF⟩ := Xr hF
     rcases Yi x14 with c16 | c16
     ·have hF := Xh c16 hF
      rcases Yi (decide (x3.2 = 10)) with c17 | c17
      ·have hF := Xh c17 hF
       obtain ⟨x18, h19, hF⟩ := Xr hF
       obtain ⟨x20, h21, hF⟩ := Xr hF
       refine Va (Vq rfl) rfl ?_
       refine Vh (Xb rfl Try.call10 (F_door_Check_ok h6 _)) rfl ?_
       refine Va (Xw rfl rfl) rfl ?_
       refine Va (Vl rfl) rfl ?_
       refine Vw rfl rfl c7 ?_
       refine Va (Vq rfl) rfl ?_
       refine Vw rfl rfl c7 ?_
       refine Va (Vy (Xg rfl rfl h9 te_23 ts_36) (v' := .vptr [.int .i64 x8.Road, .int .i64 x8.Other, .vs 1 (Yc (Yd .i64) x8.Rests)] 0) rfl) rfl ?_
       refine Vw rfl rfl c7 ?_
       refine Va (rd_loadVN (ds := [.int .i64 x8.Road, .int .i64 x8.Other, .vs 1 (Yc (Yd .i64) x8.Rests)]) rfl ta_36 ts_36 rfl rfl) rfl ?_
       refine Vw rfl rfl c7 ?_
       refine Vh (Xb rfl Try.call13 (F_door_Rest_ok h11 _)) rfl ?_
       refine Vw rfl rfl c7 ?_
       refine Va (rd_build (vs := [(0, .int .i64 10), (1, .int .i64 5000)]) (ds := [.int .i64 10, .int .i64 5000]) tz_33 rfl rfl tp_33 ⟨rfl, rfl, rfl, rfl, trivial⟩ (nt_all2 rfl) rfl) rfl ?_
       refine Vw rfl rfl c7 ?_
       refine Va (rd_eqlV (tab := eqTab) eqTab_ok rfl rfl eqg_33 rfl) rfl ?_
       refine Va (Vn (congrArg Ye c7) rfl) rfl ?_
       refine Va (Vl rfl) rfl ?_
       refine Vw rfl rfl c12 ?_
       refine Va (Vi rfl) rfl ?_
       refine Vw rfl rfl c12 ?_
       refine Va (Xw rfl rfl) rfl ?_
       refine Va (Vn (congrArg Ye c12) rfl) rfl ?_
       refine Va (Vl rfl) rfl ?_
       refine Vw rfl rfl c13 ?_
       refine Va (Vq rfl) rfl ?_
       refine Vw rfl rfl c13 ?_
       refine Vh (vef_litF (es := Yc (Yd .i64) [1, 0]) ⟨rfl, rfl, rfl, rfl, trivial⟩ rfl rfl (nt_all rfl) te_25 ts_3 tz_3 rfl rfl (Yh _) (by decide) (lt_map (fun _ => .int _ _))) rfl ?_
       refine Vw rfl rfl c13 ?_
       refine Vh (Xb rfl Try.call15 (F_ref01_Ints_ok h15 _)) rfl ?_
       refine Va (Vn (congrArg Ye c13) rfl) rfl ?_
       refine Va (Vl rfl) rfl ?_
       refine Vw rfl rfl c16 ?_
       refine Va (Vi rfl) rfl ?_
       refine Vw rfl rfl c16 ?_
       refine Va (Xw rfl rfl) rfl ?_
       refine Va (Vn (congrArg Ye c16) rfl) rfl ?_
       refine Va (Vl rfl) rfl ?_
       refine Vw rfl rfl c17 ?_
       refine Va (Vq rfl) rfl ?_
       refine Vw rfl rfl c17 ?_
       refine Vh (vef_litF (es := Yc (Yd .i64) [1, (-1)]) ⟨rfl, rfl, rfl, rfl, trivial⟩ rfl rfl (nt_all rfl) te_25 ts_3 tz_3 rfl rfl (Yh _) (by decide) (lt_map (fun _ => .int _ _))) rfl ?_
       refine Vw rfl rfl c17 ?_
       refine Vh (Xb rfl Try.call16 (F_door_Open_ok h19 _)) rfl ?_
       refine Vw rfl rfl c17 ?_
       refine Vh (vef_litF (es := Yc (Yd .i64) [0, 1]) ⟨rfl, rfl, rfl, rfl, trivial⟩ rfl rfl (nt_all rfl) te_25 ts_3 tz_3 rfl rfl (Yh _) (by decide) (lt_map (fun _ => .int _ _))) rfl ?_
       refine Vw rfl rfl c17 ?_
       refine Vh (Xb rfl Try.call15 (F_ref01_Ints_ok h21 _)) rfl ?_
       refine Va (Vn (congrArg Ye c17) rfl) rfl ?_
       refine Va (Xp rfl) rfl ?_
       refine Vd ?_
       refine Vz ?_
       obtain rfl := Yf hF
       refine fnR ?_
       exact Vg ⟨rfl, trivial⟩
      ·have hF := Xi c17 hF
       refine Va (Vq rfl) rfl ?_
       refine Vh (Xb rfl Try.call10 (F_door_Check_ok h6 _)) rfl ?_
       refine Va (Xw rfl rfl) rfl ?_
       refine Va (Vl rfl) rfl ?_
       refine Vw rfl rfl c7 ?_
       refine Va (Vq rfl) rfl ?_
       refine Vw rfl rfl c7 ?_
       refine Va (Vy (Xg rfl rfl h9 te_23 ts_36) (v' := .vptr [.int .i64 x8.Road, .int .i64 x8.Other, .vs 1 (Yc (Yd .i64) x8.Rests)] 0) rfl) rfl ?_
       refine Vw rfl rfl c7 ?_
       refine Va (rd_loadVN (ds := [.int .i64 x8.Road, .int .i64 x8.Other, .vs 1 (Yc (Yd .i64) x8.Rests)]) rfl ta_36 ts_36 rfl rfl) rfl ?_
       refine Vw rfl rfl c7 ?_
       refine Vh (Xb rfl Try.call13 (F_door_Rest_ok h11 _)) rfl ?_
       refine Vw rfl rfl c7 ?_
       refine Va (rd_build (vs := [(0, .int .i64 10), (1, .int .i64 5000)]) (ds := [.int .i64 10, .int .i64 5000]) tz_33 rfl rfl tp_33 ⟨rfl, rfl, rfl, rfl, trivial⟩ (nt_all2 rfl) rfl) rfl ?_
       refine Vw rfl rfl c7 ?_
       refine Va (rd_eqlV (tab := eqTab) eqTab_ok rfl rfl eqg_33 rfl) rfl ?_
       refine Va (Vn (congrArg Ye c7) rfl) rfl ?_
       refine Va (Vl rfl) rfl ?_
       refine Vw rfl rfl c12 ?_
       refine Va (Vi rfl) rfl ?_
       refine Vw rfl rfl c12 ?_
       refine Va (Xw rfl rfl) rfl ?_
       refine Va (Vn (congrArg Ye c12) rfl) rfl ?_
       refine Va (Vl rfl) rfl ?_
       refine Vw rfl rfl c13 ?_
       refine Va (Vq rfl) rfl ?_
       refine Vw rfl rfl c13 ?_
       refine Vh (vef_litF (es := Yc (Yd .i64) [1, 0]) ⟨rfl, rfl, rfl, rfl, trivial⟩ rfl rfl (nt_all rfl) te_25 ts_3 tz_3 rfl rfl (Yh _) (by decide) (lt_map (fun _ => .int _ _))) rfl ?_
       refine Vw rfl rfl c13 ?_
       refine Vh (Xb rfl Try.call15 (F_ref01_Ints_ok h15 _)) rfl ?_
       refine Va (Vn (congrArg Ye c13) rfl) rfl ?_
       refine Va (Vl rfl) rfl ?_
       refine Vw rfl rfl c16 ?_
       refine Va (Vi rfl) rfl ?_
       refine Vw rfl rfl c16 ?_
       refine Va (Xw rfl rfl) rfl ?_
       refine Va (Vn (congrArg Ye c16) rfl) rfl ?_
       refine Va (Vl rfl) rfl ?_
       refine Vb rfl rfl (neF c17) rfl ?_
       refine Vb rfl rfl (neF c17) rfl ?_
       refine Vb rfl rfl (neF c17) rfl ?_
       refine Vb rfl rfl (neF c17) rfl ?_
       refine Vb rfl rfl (neF c17) rfl ?_
       refine Va (Vp (congrArg Ye c17) rfl) rfl ?_
       refine Va (Xp rfl) rfl ?_
       refine Vd ?_
       refine Vz ?_
       obtain rfl := Yf hF
       refine fnR ?_
       exact Vg ⟨rfl, trivial⟩
     ·have hF := Xi c16 hF
      refine Va (Vq rfl) rfl ?_
      refine Vh (Xb rfl Try.call10 (F_door_Check_ok h6 _)) rfl ?_
      refine Va (Xw rfl rfl) rfl ?_
      refine Va (Vl rfl) rfl ?_
      refine Vw rfl rfl c7 ?_
      refine Va (Vq rfl) rfl ?_
      refine Vw rfl rfl c7 ?_
      refine Va (Vy (Xg rfl rfl h9 te_23 ts_36) (v' := .vptr [.int .i64 x8.Road, .int .i64 x8.Other, .vs 1 (Yc (Yd .i64) x8.Rests)] 0) rfl) rfl ?_
      refine Vw rfl rfl c7 ?_
      refine Va (rd_loadVN (ds := [.int .i64 x8.Road, .int .i64 x8.Other, .vs 1 (Yc (Yd .i64) x8.Rests)]) rfl ta_36 ts_36 rfl rfl) rfl ?_
      refine Vw rfl rfl c7 ?_
      refine Vh (Xb rfl Try.call13 (F_door_Rest_ok h11 _)) rfl ?_
      refine Vw rfl rfl c7 ?_
      refine Va (rd_build (vs := [(0, .int .i64 10), (1, .int .i64 5000)]) (ds := [.int .i64 10, .int .i64 5000]) tz_33 rfl rfl tp_33 ⟨rfl, rfl, rfl, rfl, trivial⟩ (nt_all2 rfl) rfl) rfl ?_
      refine Vw rfl rfl c7 ?_
      refine Va (rd_eqlV (tab := eqTab) eqTab_ok rfl rfl eqg_33 rfl) rfl ?_
      refine Va (Vn (congrArg Ye c7) rfl) rfl ?_
      refine Va (Vl rfl) rfl ?_
      refine Vw rfl rfl c12 ?_
      refine Va (Vi rfl) rfl ?_
      refine Vw rfl rfl c12 ?_
      refine Va (Xw rfl rfl) rfl ?_
      refine Va (Vn (congrArg Ye c12) rfl) rfl ?_
      refine Va (Vl rfl) rfl ?_
      refine Vw rfl rfl c13 ?_
      refine Va (Vq rfl) rfl ?_
      refine Vw rfl rfl c13 ?_
      refine Vh (vef_litF (es := Yc (Yd .i64) [1, 0]) ⟨rfl, rfl, rfl, rfl, trivial⟩ rfl rfl (nt_all rfl) te_25 ts_3 tz_3 rfl rfl (Yh _) (by decide) (lt_map (fun _ => .int _ _))) rfl ?_
      refine Vw rfl rfl c13 ?_
      refine Vh (Xb rfl Try.call15 (F_ref01_Ints_ok h15 _)) rfl ?_
      refine Va (Vn (congrArg Ye c13) rfl) rfl ?_
      refine Va (Vl rfl) rfl ?_
      refine Vb rfl rfl (neF c16) rfl ?_
      refine Vb rfl rfl (neF c16) rfl ?_
      refine Va (Vp (congrArg Ye c16) rfl) rfl ?_
      refine Va (Vl rfl) rfl ?_
      refine Vb rfl rfl (by decide) rfl ?_
      refine Vb rfl rfl (by decide) rfl ?_
      refine Vb rfl rfl (by decide) rfl ?_
      refine Vb rfl rfl (by decide) rfl ?_
      refine Vb rfl rfl (by decide) rfl ?_
      refine Va (Vp rfl rfl) rfl ?_
      refine Va (Xp rfl) rfl ?_
      refine Vd ?_
      refine Vz ?_
      obtain rfl := Yf hF
      refine fnR ?_
      exact Vg ⟨rfl, trivial⟩
    ·have hF := Xi c13 hF
     refine Va (Vq rfl) rfl ?_
     refine Vh (Xb rfl Try.call10 (F_door_Check_ok h6 _)) rfl ?_
     refine Va (Xw rfl rfl) rfl ?_
     refine Va (Vl rfl) rfl ?_
     refine Vw rfl rfl c7 ?_
     refine Va (Vq rfl) rfl ?_
     refine Vw rfl rfl c7 ?_
     refine Va (Vy (Xg rfl rfl h9 te_23 ts_36) (v' := .vptr [.int .i64 x8.Road, .int .i64 x8.Other, .vs 1 (Yc (Yd .i64) x8.Rests)] 0) rfl) rfl ?_
     refine Vw rfl rfl c7 ?_
     refine Va (rd_loadVN (ds := [.int .i64 x8.Road, .int .i64 x8.Other, .vs 1 (Yc (Yd .i64) x8.Rests)]) rfl ta_36 ts_36 rfl rfl) rfl ?_
     refine Vw rfl rfl c7 ?_
     refine Vh (Xb rfl Try.call13 (F_door_Rest_ok h11 _)) rfl ?_
     refine Vw rfl rfl c7 ?_
     refine Va (rd_build (vs := [(0, .int .i64 10), (1, .int .i64 5000)]) (ds := [.int .i64 10, .int .i64 5000]) tz_33 rfl rfl tp_33 ⟨rfl, rfl, rfl, rfl, trivial⟩ (nt_all2 rfl) rfl) rfl ?_
     refine Vw rfl rfl c7 ?_
     refine Va (rd_eqlV (tab := eqTab) eqTab_ok rfl rfl eqg_33 rfl) rfl ?_
     refine Va (Vn (congrArg Ye c7) rfl) rfl ?_
     refine Va (Vl rfl) rfl ?_
     refine Vw rfl rfl c12 ?_
     refine Va (Vi rfl) rfl ?_
     refine Vw rfl rfl c12 ?_
     refine Va (Xw rfl rfl) rfl ?_
     refine Va (Vn (congrArg Ye c12) rfl) rfl ?_
     refine Va (Vl rfl) rfl ?_
     refine Vb rfl rfl (neF c13) rfl ?_
     refine Vb rfl rfl (neF c13) rfl ?_
     refine Vb rfl rfl (neF c13) rfl ?_
     refine Va (Vp (congrArg Ye c13) rfl) rfl ?_
     refine Va (Vl rfl) rfl ?_
     refine Vb rfl rfl (by decide) rfl ?_
     refine Vb rfl rfl (by decide) rfl ?_
     refine Va (Vp rfl rfl) rfl ?_
     refine Va (Vl rfl) rfl ?_
     refine Vb rfl rfl (by decide) rfl ?_
     refine Vb rfl rfl (by decide) rfl ?_
     refine Vb rfl rfl (by decide) rfl ?_
     refine Vb rfl rfl (by decide) rfl ?_
     refine Vb rfl rfl (by decide) rfl ?_
     refine Va (Vp rfl rfl) rfl ?_
     refine Va (Xp rfl) rfl ?_
     refine Vd ?_
     refine Vz ?_
     obtain rfl := Yf hF
     refine fnR ?_
     exact Vg ⟨rfl, trivial⟩
   ·have hF := Xi c12 hF
    refine Va (Vq rfl) rfl ?_
    refine Vh (Xb rfl Try.call10 (F_door_Check_ok h6 _)) rfl ?_
    refine Va (Xw rfl rfl) rfl ?_
    refine Va (Vl rfl) rfl ?_
    refine Vw rfl rfl c7 ?_
    refine Va (Vq rfl) rfl ?_
    refine Vw rfl rfl c7 ?_
    refine Va (Vy (Xg rfl rfl h9 te_23 ts_36) (v' := .vptr [.int .i64 x8.Road, .int .i64 x8.Other, .vs 1 (Yc (Yd .i64) x8.Rests)] 0) rfl) rfl ?_
    refine Vw rfl rfl c7 ?_
    refine Va (rd_loadVN (ds := [.int .i64 x8.Road, .int .i64 x8.Other, .vs 1 (Yc (Yd .i64) x8.Rests)]) rfl ta_36 ts_36 rfl rfl) rfl ?_
    refine Vw rfl rfl c7 ?_
    refine Vh (Xb rfl Try.call13 (F_door_Rest_ok h11 _)) rfl ?_
    refine Vw rfl rfl c7 ?_
    refine Va (rd_build (vs := [(0, .int .i64 10), (1, .int .i64 5000)]) (ds := [.int .i64 10, .int .i64 5000]) tz_33 rfl rfl tp_33 ⟨rfl, rfl, rfl, rfl, trivial⟩ (nt_all2 rfl) rfl) rfl ?_
    refine Vw rfl rfl c7 ?_
    refine Va (rd_eqlV (tab := eqTab) eqTab_ok rfl rfl eqg_33 rfl) rfl ?_
    refine Va (Vn (congrArg Ye c7) rfl) rfl ?_
    refine Va (Vl rfl) rfl ?_
    refine Vb rfl rfl (neF c12) rfl ?_
    refine Vb rfl rfl (neF c12) rfl ?_
    refine Va (Vp (congrArg Ye c12) rfl) rfl ?_
    refine Va (Vl rfl) rfl ?_
    refine Vb rfl rfl (by decide) rfl ?_
    refine Vb rfl rfl (by decide) rfl ?_
    refine Vb rfl rfl (by decide) rfl ?_
    refine Va (Vp rfl rfl) rfl ?_
    refine Va (Vl rfl) rfl ?_
    refine Vb rfl rfl (by decide) rfl ?_
    refine Vb rfl rfl (by decide) rfl ?_
    refine Va (Vp rfl rfl) rfl ?_
    refine Va (Vl rfl) rfl ?_
    refine Vb rfl rfl (by decide) rfl ?_
    refine Vb rfl rfl (by decide) rfl ?_
    refine Vb rfl rfl (by decide) rfl ?_
    refine Vb rfl rfl (by decide) rfl ?_
    refine Vb rfl rfl (by decide) rfl ?_
    refine Va (Vp rfl rfl) rfl ?_
    refine Va (Xp rfl) rfl ?_
    refine Vd ?_
    refine Vz ?_
    obtain rfl := Yf hF
    refine fnR ?_
    exact Vg ⟨rfl, trivial⟩
  ·have hF := Xi c7 hF
   refine Va (Vq rfl) rfl ?_
   refine Vh (Xb rfl Try.call10 (F_door_Check_ok h6 _)) rfl ?_
   refine Va (Xw rfl rfl) rfl ?_
   refine Va (Vl rfl) rfl ?_
   refine Vb rfl rfl (neF c7) rfl ?_
   refine Vb rfl rfl (neF c7) rfl ?_
   refine Vb rfl rfl (neF c7) rfl ?_
   refine Vb rfl rfl (neF c7) rfl ?_
   refine Vb rfl rfl (neF c7) rfl ?_
   refine Vb rfl rfl (neF c7) rfl ?_
   refine Va (Vp (congrArg Ye c7) rfl) rfl ?_
   refine Va (Vl rfl) rfl ?_
   refine Vb rfl rfl (by decide) rfl ?_
   refine Vb rfl rfl (by decide) rfl ?_
   refine Va (Vp rfl rfl) rfl ?_
   refine Va (Vl rfl) rfl ?_
   refine Vb rfl rfl (by decide) rfl ?_
   refine Vb rfl rfl (by decide) rfl ?_
   refine Vb rfl rfl (by decide) rfl ?_
   refine Va (Vp rfl rfl) rfl ?_
   refine Va (Vl rfl) rfl ?_
   refine Vb rfl rfl (by decide) rfl ?_
   refine Vb rfl rfl (by decide) rfl ?_
   refine Va (Vp rfl rfl) rfl ?_
   refine Va (Vl rfl) rfl ?_
   refine Vb rfl rfl (by decide) rfl ?_
   refine Vb rfl rfl (by decide) rfl ?_
   refine Vb rfl rfl (by decide) rfl ?_
   refine Vb rfl rfl (by decide) rfl ?_
   refine Vb rfl rfl (by decide) rfl ?_
   refine Va (Vp rfl rfl) rfl ?_
   refine Va (Xp rfl) rfl ?_
   refine Vd ?_
   refine Vz ?_
   obtain rfl := Yf hF
   refine fnR ?_
   exact Vg ⟨rfl, trivial⟩
 ·rintro _ _ _ _ ⟨he, hw⟩
  refine ⟨_, _, _, hw, ?_⟩
  exact Xo he [.bool r] ⟨rfl, trivial⟩ (.bool _) ⟨rfl, rfl⟩

theorem F_draw_New_ok {p0 : List Int} {r : T_draw_Codes} (hF : F_draw_New p0 = some r) (low : List AObj) {n : Nat} (hn : low.length = n) :
    Xz Try.prog 22 [.vs 1 (Yc (Yd .u8) p0)] low fun x low' => x = .ptr (n + 0) 0 0 0 ∧ low' = low ++ [⟨61, 2, [.agg [.vs 1 (Yc (Yd .u8) r.l), .int .i64 r.at_]], 0⟩] := by
 refine Xc (nt := 10) (rs := [.tmp 2]) Try.func22 rfl rfl (Yg rfl) rfl ?_
 refine Vo (Q' := FnE (fun E' lw lc => Xl E' lw lc [(2, .ptr (n + 0) 0 0 0)] low [⟨61, 2, [.agg [.vs 1 (Yc (Yd .u8) r.l), .int .i64 r.at_]], 0⟩])) ?_ ?_
 ·unfold F_draw_New at hF
  refine Ve ?_
  refine Vc ?_
  refine Va (rd_asQ rfl) rfl ?_
  refine Vd ?_
  refine Ve ?_
  refine Vc ?_
  obtain ⟨x1, h2, hF⟩ := Xr hF
  refine Va (Vq rfl) rfl ?_
  refine Va (Vq rfl) rfl ?_
  refine Va (Vy (Xd rfl rfl te_22) (congrArg (fun n : Nat => Yd .i64 (n : Int)) (Yj _))) rfl ?_
  refine Va (rd_min rfl rfl) rfl ?_
  refine Va (rd_slV rfl te_22 ts_5 rfl ⟨_, rfl⟩ h2) rfl ?_
  refine Va (rd_build (vs := [(0, .vs 1 (Yc (Yd .u8) x1))]) (ds := [.vs 1 (Yc (Yd .u8) x1), .int .i64 0]) tz_61 rfl rfl tp_61 ⟨rfl, rfl, trivial⟩ (nt_all2 rfl) rfl) rfl ?_
  refine Vh (vef_boxN hn rfl (v := .agg [.vs 1 (Yc (Yd .u8) x1), .int .i64 0]) rfl rfl (Yh _) rfl rfl) rfl ?_
  refine Va (rd_asP rfl) rfl ?_
  refine Vd ?_
  refine Vz ?_
  obtain rfl := Yf hF
  refine fnR ?_
  exact Vg ⟨rfl, trivial⟩
 ·rintro _ _ _ _ ⟨he, hw⟩
  refine ⟨_, _, _, hw, ?_⟩
  exact bodyQ_all he [.ptr (n + 0) 0 0 0] ⟨rfl, trivial⟩ ⟨rfl, rfl⟩

theorem F_draw_Codes_Next_ok0 {p0 : T_draw_Codes} {p1 : Int} {r : T_draw_Codes × Int} (hF : F_draw_Codes_Next p0 p1 = some r) {low0 : List AObj} {q0 w0 : Nat} (hB : Bor low0 [q0]) {n : Nat} (hn : low0.length = n) :
    Xz Try.prog 23 [.ptr q0 w0 0 0, .int .i64 p1] (setL low0 [(q0, ⟨61, 2, [.agg [.vs 1 (Yc (Yd .u8) p0.l), .int .i64 p0.at_]], w0⟩)]) fun x low' => x = .int .i64 r.2 ∧ low' = setL low0 [(q0, ⟨61, 2, [.agg [.vs 1 (Yc (Yd .u8) r.1.l), .int .i64 r.1.at_]], w0⟩)] ++ [] := by
 refine Xc (nt := 77) (rs := [.tmp 4]) Try.func23 rfl rfl (Yg rfl) rfl ?_
 have hq0 : q0 < n := hB.ltN hn 0 rfl
 refine Vo (Q' := FnE (fun E' lw lc => Xl E' lw lc [(4, .int .i64 r.2)] (setL low0 [(q0, ⟨61, 2, [.agg [.vs 1 (Yc (Yd .u8) r.1.l), .int .i64 r.1.at_]], w0⟩)]) [])) ?_ ?_
 ·unfold F_draw_Codes_Next at hF
  refine Ve ?_
  refine Vc ?_
  refine Va (Vu rfl) rfl ?_
  refine Vd ?_
  refine Ve ?_
  refine Ve ?_
  obtain ⟨o1, ho1, hF⟩ := Xr hF
  refine Vo (Q' := (fun o1 => OnlyE .normal (fun E' lw lc => Xl E' lw lc [(0, .ptr q0 w0 0 0), (1, .int .i64 p1), (19, .bool o1)] (setL low0 [(q0, ⟨61, 2, [.agg [.vs 1 (Yc (Yd .u8) p0.l), .int .i64 p0.at_]], w0⟩)]) [])) o1) ?_ ?_
  ·replace hF := ho1
   rcases Yi (decide (p1 < 1)) with c2 | c2
   ·have hF := Xh c2 hF
    refine vwp_drawn0 [[], [0], [0, 1], [0, 1, 2], [0, 1, 2, 3], [0, 1, 2, 3, 4], [0, 1, 2, 3, 4, 5], [0, 1, 2], [0, 1, 2, 7], [0, 1, 2, 7, 8], [0, 1, 2, 7, 8, 9], [0, 1, 2, 7, 8, 9, 10], [0, 1, 2, 3, 4, 5, 6, 7, 8, 9, 10, 11], [0, 1, 2, 3, 4, 5, 6, 7, 8, 9, 10, 11, 12]] mixed (by kernel_rfl) rfl ?_
    refine Xm rfl rfl (Vi rfl) ?_
    refine Xm rfl rfl (Xj rfl rfl) ?_
    refine Xm rfl rfl (Vl rfl) ?_
    refine Vr rfl rfl rfl (Xu c2) ?_
    refine Vr rfl rfl rfl (Xu c2) ?_
    refine Vr rfl rfl rfl (Xu c2) ?_
    refine Vr rfl rfl rfl (Xu c2) ?_
    refine Vr rfl rfl rfl (Xu c2) ?_
    refine Vr rfl rfl rfl (Xu c2) ?_
    refine Vr rfl rfl rfl (Xu c2) ?_
    refine Vr rfl rfl rfl (Xu c2) ?_
    refine Vr rfl rfl rfl (Xu c2) ?_
    refine Vr rfl rfl rfl (Xu c2) ?_
    refine Xm rfl rfl (Vn (congrArg Ye c2) rfl) ?_
    refine dops_nil ?_
    obtain rfl := Yf hF
    refine Vv ?_
    exact Vg ⟨rfl, rfl, rfl, trivial⟩
   ·have hF := Xi c2 hF
    refine vwp_drawn0 [[], [0], [0, 1], [0, 1, 2], [0, 1, 2, 3], [0, 1, 2, 3, 4], [0, 1, 2, 3, 4, 5], [0, 1, 2], [0, 1, 2, 7], [0, 1, 2, 7, 8], [0, 1, 2, 7, 8, 9], [0, 1, 2, 7, 8, 9, 10], [0, 1, 2, 3, 4, 5, 6, 7, 8, 9, 10, 11], [0, 1, 2, 3, 4, 5, 6, 7, 8, 9, 10, 11, 12]] mixed (by kernel_rfl) rfl ?_
    refine Xm rfl rfl (Vi rfl) ?_
    refine Xm rfl rfl (Xj rfl rfl) ?_
    refine Xm rfl rfl (Vl rfl) ?_
    refine dt1 rfl rfl rfl rfl c2 (Xs rfl) ?_
    refine dt1 rfl rfl rfl rfl c2 (Xy rfl) ?_
    refine dt1 rfl rfl rfl rfl c2 (Vf rfl tf_61_1 ts_3 (by decide)) ?_
    refine dt1 rfl rfl rfl rfl c2 (Vj rfl (getO_B hB rfl 0 rfl) rfl ta_3 rfl) ?_
    refine dt1 rfl rfl rfl rfl c2 (Xs rfl) ?_
    refine dt1 rfl rfl rfl rfl c2 (Xy rfl) ?_
    refine dt1 rfl rfl rfl rfl c2 (Vf rfl tf_61_0 ts_22 (by decide)) ?_
    refine dt1 rfl rfl rfl rfl c2 (Vj rfl (getO_B hB rfl 0 rfl) rfl ta_22 rfl) ?_
    refine dt1 rfl rfl rfl rfl c2 (Vy (Xd rfl rfl te_22) (congrArg (fun n : Nat => Yd .i64 (n : Int)) (Yj _))) ?_
    refine dt1 rfl rfl rfl rfl c2 (rd_geq rfl rfl) ?_
    refine Xm rfl rfl (Vp (congrArg Ye c2) rfl) ?_
    refine dops_nil ?_
    obtain rfl := Yf hF
    refine Vv ?_
    exact Vg ⟨rfl, rfl, rfl, trivial⟩
  ·rintro _ _ _ _ ⟨rfl, hw⟩
   refine ⟨_, _, _, hw, ?_⟩
   refine Vt rfl (fun c3 => ?_) (fun c3 => ?_)
   ·have hF := Xh c3 hF
    refine Ve ?_
    refine Vc ?_
    refine Va (Vu rfl) rfl ?_
    refine Vd ?_
    refine Vz ?_
    obtain rfl := Yf hF
    refine fnR ?_
    exact Vg ⟨rfl, trivial⟩
   ·have hF := Xi c3 hF
    refine Xa ?_
    refine Ve ?_
    refine Vc ?_
    refine Va (Xs rfl) rfl ?_
    refine Va (Xy rfl) rfl ?_
    refine Va (Vf rfl tf_61_1 ts_3 (by decide)) rfl ?_
    refine Va (Vj rfl (getO_B hB rfl 0 rfl) rfl ta_3 rfl) rfl ?_
    refine Va (rd_add rfl rfl rfl) rfl ?_
    refine Va (Xy rfl) rfl ?_
    refine Va (Vf rfl tf_61_1 ts_3 (by decide)) rfl ?_
    refine Vh (Xn (p := .int .i64 (IntKind.i64.wrap (p0.at_ + 1))) (e' := .agg [.vs 1 (Yc (Yd .u8) p0.l), .int .i64 (IntKind.i64.wrap (p0.at_ + 1))]) rfl (getO_B hB rfl 0 rfl) rfl rfl ts_3 rfl (nt_ne rfl) rfl (Yg rfl) rfl (setO_B hB rfl 0 rfl (ltObjN hn ⟨Yb ⟨.vs _ _, .int _ _, trivial⟩, trivial⟩) rfl)) rfl ?_
    refine Vd ?_
    refine Ve ?_
    obtain ⟨x4, h5, hF⟩ := Xr hF
    refine vwp_drawn0 [[], [0], [0, 1], [0, 1, 2], [], [4], [4, 5], [4, 5, 6], [4, 5, 6, 7], [0, 1, 2, 3, 4, 5, 6, 7, 8], [0, 1, 2, 3, 4, 5, 6, 7, 8, 9], [0, 1, 2, 3, 4, 5, 6, 7, 8, 9, 10], [0, 1, 2, 3, 4, 5, 6, 7, 8, 9, 10, 11]] mixed (by kernel_rfl) rfl ?_
    refine Xm rfl rfl (Xs rfl) ?_
    refine Xm rfl rfl (Xy rfl) ?_
    refine Xm rfl rfl (Vf rfl tf_61_0 ts_22 (by decide)) ?_
    refine Xm rfl rfl (Vj rfl (getO_B hB rfl 0 rfl) rfl ta_22 rfl) ?_
    refine Xm rfl rfl (Xs rfl) ?_
    refine Xm rfl rfl (Xy rfl) ?_
    refine Xm rfl rfl (Vf rfl tf_61_1 ts_3 (by decide)) ?_
    refine Xm rfl rfl (Vj rfl (getO_B hB rfl 0 rfl) rfl ta_3 rfl) ?_
    refine Xm rfl rfl (rd_sub rfl rfl rfl) ?_
    refine Xm rfl rfl (Vy (Xg rfl rfl h5 te_22 ts_5) (v' := .vptr [.int .u8 x4] 0) rfl) ?_
    refine Xm rfl rfl (Xe rfl ta_5 rfl) ?_
    refine Xm rfl rfl (rd_conv rfl us_5 ti_3 rfl) ?_
    refine Xm rfl rfl (Vu rfl) ?_
    refine dops_nil ?_
    refine Ve ?_
    refine Ve ?_
    obtain ⟨o6, ho6, hF⟩ := Xr hF
    refine Vo (Q' := (fun o6 => OnlyE .normal (fun E' lw lc => Xl E' lw lc [(0, .ptr q0 w0 0 0), (1, .int .i64 p1), (5, .int .i64 (IntKind.i64.wrap x4)), (52, .bool o6)] (setL low0 [(q0, ⟨61, 2, [.agg [.vs 1 (Yc (Yd .u8) p0.l), .int .i64 (IntKind.i64.wrap (p0.at_ + 1))]], w0⟩)]) [])) o6) ?_ ?_
    ·replace hF := ho6
     rcases Yi (decide (256 < p1)) with c7 | c7
     ·have hF := Xh c7 hF
      refine vwp_drawn0 [[], [0], [0, 1], [0, 1, 2], [0, 1, 2, 3], [0, 1, 2, 3, 4], [0, 1, 2, 3, 4, 5], [0, 1, 2], [0, 1, 2, 7], [0, 1, 2, 7, 8], [0, 1, 2, 7, 8, 9], [0, 1, 2, 7, 8, 9, 10], [0, 1, 2, 3, 4, 5, 6, 7, 8, 9, 10, 11], [0, 1, 2, 3, 4, 5, 6, 7, 8, 9, 10, 11, 12]] mixed (by kernel_rfl) rfl ?_
      refine Xm rfl rfl (Vi rfl) ?_
      refine Xm rfl rfl (rd_gtr rfl rfl) ?_
      refine Xm rfl rfl (Vl rfl) ?_
      refine dt1 rfl rfl rfl rfl c7 (Xs rfl) ?_
      refine dt1 rfl rfl rfl rfl c7 (Xy rfl) ?_
      refine dt1 rfl rfl rfl rfl c7 (Vf rfl tf_61_1 ts_3 (by decide)) ?_
      refine dt1 rfl rfl rfl rfl c7 (Vj rfl (getO_B hB rfl 0 rfl) rfl ta_3 rfl) ?_
      refine dt1 rfl rfl rfl rfl c7 (Xs rfl) ?_
      refine dt1 rfl rfl rfl rfl c7 (Xy rfl) ?_
      refine dt1 rfl rfl rfl rfl c7 (Vf rfl tf_61_0 ts_22 (by decide)) ?_
      refine dt1 rfl rfl rfl rfl c7 (Vj rfl (getO_B hB rfl 0 rfl) rfl ta_22 rfl) ?_
      refine dt1 rfl rfl rfl rfl c7 (Vy (Xd rfl rfl te_22) (congrArg (fun n : Nat => Yd .i64 (n : Int)) (Yj _))) ?_
      refine dt1 rfl rfl rfl rfl c7 (Xj rfl rfl) ?_
      refine Xm rfl rfl (Vn (congrArg Ye c7) rfl) ?_
      refine dops_nil ?_
      obtain rfl := Yf hF
      refine Vv ?_
      exact Vg ⟨rfl, rfl, rfl, rfl, trivial⟩
     ·have hF := Xi c7 hF
      refine vwp_drawn0 [[], [0], [0, 1], [0, 1, 2], [0, 1, 2, 3], [0, 1, 2, 3, 4], [0, 1, 2, 3, 4, 5], [0, 1, 2], [0, 1, 2, 7], [0, 1, 2, 7, 8], [0, 1, 2, 7, 8, 9], [0, 1, 2, 7, 8, 9, 10], [0, 1, 2, 3, 4, 5, 6, 7, 8, 9, 10, 11], [0, 1, 2, 3, 4, 5, 6, 7, 8, 9, 10, 11, 12]] mixed (by kernel_rfl) rfl ?_
      refine Xm rfl rfl (Vi rfl) ?_
      refine Xm rfl rfl (rd_gtr rfl rfl) ?_
      refine Xm rfl rfl (Vl rfl) ?_
      refine Vr rfl rfl rfl (neF c7) ?_
      refine Vr rfl rfl rfl (neF c7) ?_
      refine Vr rfl rfl rfl (neF c7) ?_
      refine Vr rfl rfl rfl (neF c7) ?_
      refine Vr rfl rfl rfl (neF c7) ?_
      refine Vr rfl rfl rfl (neF c7) ?_
      refine Vr rfl rfl rfl (neF c7) ?_
      refine Vr rfl rfl rfl (neF c7) ?_
      refine Vr rfl rfl rfl (neF c7) ?_
      refine Vr rfl rfl rfl (neF c7) ?_
      refine Xm rfl rfl (Vp (congrArg Ye c7) rfl) ?_
      refine dops_nil ?_
      obtain rfl := Yf hF
      refine Vv ?_
      exact Vg ⟨rfl, rfl, rfl, rfl, trivial⟩
    ·rintro _ _ _ _ ⟨rfl, hw⟩
     refine ⟨_, _, _, hw, ?_⟩
     obtain ⟨o8, ho8, hF⟩ := Xr hF
     refine Vo (Q' := (fun o8 => OnlyE .normal (fun E' lw lc => Xl E' lw lc [(1, .int .i64 p1), (5, .int .i64 o8.1)] (setL low0 [(q0, ⟨61, 2, [.agg [.vs 1 (Yc (Yd .u8) p0.l), .int .i64 o8.2]], w0⟩)]) [])) o8) ?_ ?_
     ·replace hF := ho8
      refine Vt rfl (fun c9 => ?_) (fun c9 => ?_)
      ·have hF := Xh c9 hF
       refine Ve ?_
       obtain ⟨x10, h11, hF⟩ := Xr hF
       refine vwp_drawn0 [[], [0], [], [2], [2, 3], [2, 3, 4], [], [6], [6, 7], [6, 7, 8], [2, 3, 4, 5, 6, 7, 8, 9], [2, 3, 4, 5, 6, 7, 8, 9, 10], [2, 3, 4, 5, 6, 7, 8, 9, 10, 11], [0, 1, 2, 3, 4, 5, 6, 7, 8, 9, 10, 11, 12], [0, 1, 2, 3, 4, 5, 6, 7, 8, 9, 10, 11, 12, 13]] mixed (by kernel_rfl) rfl ?_
       refine Xm rfl rfl (Vi rfl) ?_
       refine Xm rfl rfl (rd_mul rfl rfl rfl) ?_
       refine Xm rfl rfl (Xs rfl) ?_
       refine Xm rfl rfl (Xy rfl) ?_
       refine Xm rfl rfl (Vf rfl tf_61_0 ts_22 (by decide)) ?_
       refine Xm rfl rfl (Vj rfl (getO_B hB rfl 0 rfl) rfl ta_22 rfl) ?_
       refine Xm rfl rfl (Xs rfl) ?_
       refine Xm rfl rfl (Xy rfl) ?_
       refine Xm rfl rfl (Vf rfl tf_61_1 ts_3 (by decide)) ?_
       refine Xm rfl rfl (Vj rfl (getO_B hB rfl 0 rfl) rfl ta_3 rfl) ?_
       refine Xm rfl rfl (Vy (Xg rfl rfl h11 te_22 ts_5) (v' := .vptr [.int .u8 x10] 0) rfl) ?_
       refine Xm rfl rfl (Xe rfl ta_5 rfl) ?_
       refine Xm rfl rfl (rd_conv rfl us_5 ti_3 rfl) ?_
       refine Xm rfl rfl (rd_add rfl rfl rfl) ?_
       refine Xm rfl rfl (Vu rfl) ?_
       refine dops_nil ?_
       refine Vc ?_
       refine Va (Xs rfl) rfl ?_
       refine Va (Xy rfl) rfl ?_
       refine Va (Vf rfl tf_61_1 ts_3 (by decide)) rfl ?_
       refine Va (Vj rfl (getO_B hB rfl 0 rfl) rfl ta_3 rfl) rfl ?_
       refine Va (rd_add rfl rfl rfl) rfl ?_
       refine Va (Xy rfl) rfl ?_
       refine Va (Vf rfl tf_61_1 ts_3 (by decide)) rfl ?_
       refine Vh (Xn (p := .int .i64 (IntKind.i64.wrap ((IntKind.i64.wrap (p0.at_ + 1)) + 1))) (e' := .agg [.vs 1 (Yc (Yd .u8) p0.l), .int .i64 (IntKind.i64.wrap ((IntKind.i64.wrap (p0.at_ + 1)) + 1))]) rfl (getO_B hB rfl 0 rfl) rfl rfl ts_3 rfl (nt_ne rfl) rfl (Yg rfl) rfl (setO_B hB rfl 0 rfl (ltObjN hn ⟨Yb ⟨.vs _ _, .int _ _, trivial⟩, trivial⟩) rfl)) rfl ?_
       refine Vd ?_
       obtain rfl := Yf hF
       refine Vv ?_
       exact Vg ⟨rfl, rfl, trivial⟩
      ·have hF := Xi c9 hF
       refine Xa ?_
       obtain rfl := Yf hF
       refine Vv ?_
       exact Vg ⟨rfl, rfl, trivial⟩
     ·rintro _ _ _ _ ⟨rfl, hw⟩
      refine ⟨_, _, _, hw, ?_⟩
      refine Ve ?_
      refine Vc ?_
      obtain ⟨x12, h13, hF⟩ := Xr hF
      refine Va (Vi rfl) rfl ?_
      refine Va (Vi rfl) rfl ?_
      refine Va (rd_rem rfl rfl (remI_some h13).1 (remI_some h13).2) rfl ?_
      refine Va (Vu rfl) rfl ?_
      refine Vd ?_
      refine Vz ?_
      obtain rfl := Yf hF
      refine fnR ?_
      exact Vg ⟨rfl, trivial⟩
 ·rintro _ _ _ _ ⟨he, hw⟩
  refine ⟨_, _, _, hw, ?_⟩
  exact Xo he [.int .i64 r.2] ⟨rfl, trivial⟩ (.int _ _) ⟨rfl, (List.append_nil _).symm⟩

theorem F_draw_Codes_Next_ok {p0 : T_draw_Codes} {p1 : Int} {r : T_draw_Codes × Int} (hF : F_draw_Codes_Next p0 p1 = some r) {low : List AObj} {q0 w0 : Nat} (hnd : [q0].Nodup) (hq0 : low[q0]? = some ⟨61, 2, [.agg [.vs 1 (Yc (Yd .u8) p0.l), .int .i64 p0.at_]], w0⟩) {n : Nat} (hn : low.length = n) :
    Xz Try.prog 23 [.ptr q0 w0 0 0, .int .i64 p1] low fun x low' => x = .int .i64 r.2 ∧ low' = setL low [(q0, ⟨61, 2, [.agg [.vs 1 (Yc (Yd .u8) r.1.l), .int .i64 r.1.at_]], w0⟩)] ++ [] := by
  obtain ⟨h1, h2⟩ := bor_start (ps := [(q0, ⟨61, 2, [.agg [.vs 1 (Yc (Yd .u8) p0.l), .int .i64 p0.at_]], w0⟩)]) hnd (borC hq0 bor0)
  exact vcalls_low h1 (F_draw_Codes_Next_ok0 hF h2 hn)

theorem F_draw_Codes_One_ok0 {p0 : T_draw_Codes} {p1 : Int} {r : T_draw_Codes × Bool} (hF : F_draw_Codes_One p0 p1 = some r) {low0 : List AObj} {q0 w0 : Nat} (hB : Bor low0 [q0]) {n : Nat} (hn : low0.length = n) :
    Xz Try.prog 24 [.ptr q0 w0 0 0, .int .i64 p1] (setL low0 [(q0, ⟨61, 2, [.agg [.vs 1 (Yc (Yd .u8) p0.l), .int .i64 p0.at_]], w0⟩)]) fun x low' => x = .bool r.2 ∧ low' = setL low0 [(q0, ⟨61, 2, [.agg [.vs 1 (Yc (Yd .u8) r.1.l), .int .i64 r.1.at_]], w0⟩)] ++ [] := by
 refine Xc (nt := 11) (rs := [.tmp 4]) Try.func24 rfl rfl (Yg rfl) rfl ?_
 have hq0 : q0 < n := hB.ltN hn 0 rfl
 refine Vo (Q' := FnE (fun E' lw lc => Xl E' lw lc [(4, .bool r.2)] (setL low0 [(q0, ⟨61, 2, [.agg [.vs 1 (Yc (Yd .u8) r.1.l), .int .i64 r.1.at_]], w0⟩)]) [])) ?_ ?_
 ·unfold F_draw_Codes_One at hF
  refine Ve ?_
  refine Vc ?_
  refine Va (Xp rfl) rfl ?_
  refine Vd ?_
  refine Ve ?_
  refine Vc ?_
  obtain ⟨x1, h2, hF⟩ := Xr hF
  refine Va (Xs rfl) rfl ?_
  refine Va (Vi rfl) rfl ?_
  refine Vh (Xt (ps := [(q0, ⟨61, 2, [.agg [.vs 1 (Yc (Yd .u8) x1.1.l), .int .i64 x1.1.at_]], w0⟩)]) (r := .int .i64 x1.2) (os := []) (low1 := (setL low0 [(q0, ⟨61, 2, [.agg [.vs 1 (Yc (Yd .u8) x1.1.l), .int .i64 x1.1.at_]], w0⟩)])) (loc1 := []) (loc2 := []) rfl Try.call23 (F_draw_Codes_Next_ok h2 (nd1 na0 nd0) (get_B hB rfl 0 rfl) (len_app (Xq hn) rfl)) (sets_B (ps0' := [(q0, ⟨61, 2, [.agg [.vs 1 (Yc (Yd .u8) x1.1.l), .int .i64 x1.1.at_]], w0⟩)]) hB rfl 0 rfl (ltObjN hn ⟨Yb ⟨.vs _ _, .int _ _, trivial⟩, trivial⟩) rfl Ya) rfl) rfl ?_
  refine Va (Vi rfl) rfl ?_
  refine Va (rd_sub rfl rfl rfl) rfl ?_
  refine Va (Xw rfl rfl) rfl ?_
  refine Va (Xp rfl) rfl ?_
  refine Vd ?_
  refine Vz ?_
  obtain rfl := Yf hF
  refine fnR ?_
  exact Vg ⟨rfl, trivial⟩
 ·rintro _ _ _ _ ⟨he, hw⟩
  refine ⟨_, _, _, hw, ?_⟩
  exact Xo he [.bool r.2] ⟨rfl, trivial⟩ (.bool _) ⟨rfl, (List.append_nil _).symm⟩

theorem F_draw_Codes_One_ok {p0 : T_draw_Codes} {p1 : Int} {r : T_draw_Codes × Bool} (hF : F_draw_Codes_One p0 p1 = some r) {low : List AObj} {q0 w0 : Nat} (hnd : [q0].Nodup) (hq0 : low[q0]? = some ⟨61, 2, [.agg [.vs 1 (Yc (Yd .u8) p0.l), .int .i64 p0.at_]], w0⟩) {n : Nat} (hn : low.length = n) :
    Xz Try.prog 24 [.ptr q0 w0 0 0, .int .i64 p1] low fun x low' => x = .bool r.2 ∧ low' = setL low [(q0, ⟨61, 2, [.agg [.vs 1 (Yc (Yd .u8) r.1.l), .int .i64 r.1.at_]], w0⟩)] ++ [] := by
  obtain ⟨h1, h2⟩ := bor_start (ps := [(q0, ⟨61, 2, [.agg [.vs 1 (Yc (Yd .u8) p0.l), .int .i64 p0.at_]], w0⟩)]) hnd (borC hq0 bor0)
  exact vcalls_low h1 (F_draw_Codes_One_ok0 hF h2 hn)

theorem F_draw_Codes_Range_ok0 {p0 : T_draw_Codes} {p1 : Int} {p2 : Int} {r : T_draw_Codes × Int} (hF : F_draw_Codes_Range p0 p1 p2 = some r) {low0 : List AObj} {q0 w0 : Nat} (hB : Bor low0 [q0]) {n : Nat} (hn : low0.length = n) :
    Xz Try.prog 32 [.ptr q0 w0 0 0, .int .i64 p1, .int .i64 p2] (setL low0 [(q0, ⟨61, 2, [.agg [.vs 1 (Yc (Yd .u8) p0.l), .int .i64 p0.at_]], w0⟩)]) fun x low' => x = .int .i64 r.2 ∧ low' = setL low0 [(q0, ⟨61, 2, [.agg [.vs 1 (Yc (Yd .u8) r.1.l), .int .i64 r.1.at_]], w0⟩)] ++ [] := by
 refine Xc (nt := 15) (rs := [.tmp 6]) Try.func32 rfl rfl (Yg rfl) rfl ?_
 have hq0 : q0 < n := hB.ltN hn 0 rfl
 refine Vo (Q' := FnE (fun E' lw lc => Xl E' lw lc [(6, .int .i64 r.2)] (setL low0 [(q0, ⟨61, 2, [.agg [.vs 1 (Yc (Yd .u8) r.1.l), .int .i64 r.1.at_]], w0⟩)]) [])) ?_ ?_
 ·unfold F_draw_Codes_Range at hF
  refine Ve ?_
  refine Vc ?_
  refine Va (Vu rfl) rfl ?_
  refine Vd ?_
  refine Ve ?_
  refine Vc ?_
  obtain ⟨x1, h2, hF⟩ := Xr hF
  refine Va (Vi rfl) rfl ?_
  refine Va (Xs rfl) rfl ?_
  refine Va (Vi rfl) rfl ?_
  refine Va (Vi rfl) rfl ?_
  refine Va (rd_sub rfl rfl rfl) rfl ?_
  refine Va (rd_add rfl rfl rfl) rfl ?_
  refine Vh (Xt (ps := [(q0, ⟨61, 2, [.agg [.vs 1 (Yc (Yd .u8) x1.1.l), .int .i64 x1.1.at_]], w0⟩)]) (r := .int .i64 x1.2) (os := []) (low1 := (setL low0 [(q0, ⟨61, 2, [.agg [.vs 1 (Yc (Yd .u8) x1.1.l), .int .i64 x1.1.at_]], w0⟩)])) (loc1 := []) (loc2 := []) rfl Try.call23 (F_draw_Codes_Next_ok h2 (nd1 na0 nd0) (get_B hB rfl 0 rfl) (len_app (Xq hn) rfl)) (sets_B (ps0' := [(q0, ⟨61, 2, [.agg [.vs 1 (Yc (Yd .u8) x1.1.l), .int .i64 x1.1.at_]], w0⟩)]) hB rfl 0 rfl (ltObjN hn ⟨Yb ⟨.vs _ _, .int _ _, trivial⟩, trivial⟩) rfl Ya) rfl) rfl ?_
  refine Va (rd_add rfl rfl rfl) rfl ?_
  refine Va (Vu rfl) rfl ?_
  refine Vd ?_
  refine Vz ?_
  obtain rfl := Yf hF
  refine fnR ?_
  exact Vg ⟨rfl, trivial⟩
 ·rintro _ _ _ _ ⟨he, hw⟩
  refine ⟨_, _, _, hw, ?_⟩
  exact Xo he [.int .i64 r.2] ⟨rfl, trivial⟩ (.int _ _) ⟨rfl, (List.append_nil _).symm⟩

theorem F_draw_Codes_Range_ok {p0 : T_draw_Codes} {p1 : Int} {p2 : Int} {r : T_draw_Codes × Int} (hF : F_draw_Codes_Range p0 p1 p2 = some r) {low : List AObj} {q0 w0 : Nat} (hnd : [q0].Nodup) (hq0 : low[q0]? = some ⟨61, 2, [.agg [.vs 1 (Yc (Yd .u8) p0.l), .int .i64 p0.at_]], w0⟩) {n : Nat} (hn : low.length = n) :
    Xz Try.prog 32 [.ptr q0 w0 0 0, .int .i64 p1, .int .i64 p2] low fun x low' => x = .int .i64 r.2 ∧ low' = setL low [(q0, ⟨61, 2, [.agg [.vs 1 (Yc (Yd .u8) r.1.l), .int .i64 r.1.at_]], w0⟩)] ++ [] := by
  obtain ⟨h1, h2⟩ := bor_start (ps := [(q0, ⟨61, 2, [.agg [.vs 1 (Yc (Yd .u8) p0.l), .int .i64 p0.at_]], w0⟩)]) hnd (borC hq0 bor0)
  exact vcalls_low h1 (F_draw_Codes_Range_ok0 hF h2 hn)

theorem F_draw_Codes_Door_ok0 {p0 : T_draw_Codes} {p1 : Int} {r : T_draw_Codes × T_Door} (hF : F_draw_Codes_Door p0 p1 = some r) {low0 : List AObj} {q0 w0 : Nat} (hB : Bor low0 [q0]) {n : Nat} (hn : low0.length = n) :
    Xz Try.prog 26 [.ptr q0 w0 0 0, .int .i64 p1] (setL low0 [(q0, ⟨61, 2, [.agg [.vs 1 (Yc (Yd .u8) p0.l), .int .i64 p0.at_]], w0⟩)]) fun x low' => x = .agg [.int .i64 r.2.Road, .int .i64 r.2.Other, .sl (n + 0) 0 0 (r.2.Rests).length] ∧ low' = setL low0 [(q0, ⟨61, 2, [.agg [.vs 1 (Yc (Yd .u8) r.1.l), .int .i64 r.1.at_]], w0⟩)] ++ [⟨3, 1, Yc (Yd .i64) r.2.Rests, 0⟩] := by
 refine Xc (nt := 36) (rs := [.cell 4 36]) Try.func26 rfl rfl (Yg rfl) rfl ?_
 have hq0 : q0 < n := hB.ltN hn 0 rfl
 refine Vo (Q' := FnE (fun E' lw lc => Xl E' lw lc [(4, .ptr (n + 1) 0 0 0)] (setL low0 [(q0, ⟨61, 2, [.agg [.vs 1 (Yc (Yd .u8) r.1.l), .int .i64 r.1.at_]], w0⟩)]) [⟨3, 1, Yc (Yd .i64) r.2.Rests, 0⟩, ⟨36, 3, [.agg [.int .i64 r.2.Road, .int .i64 r.2.Other, .sl (n + 0) 0 0 (r.2.Rests).length]], 0⟩])) ?_ ?_
 ·unfold F_draw_Codes_Door at hF
  refine Ve ?_
  refine Vc ?_
  refine Vh (vef_allocN (Xq hn) rfl tz_36 rfl rfl (Yh _) rfl) rfl ?_
  refine Vd ?_
  refine Ve ?_
  refine Vc ?_
  obtain ⟨x1, h2, hF⟩ := Xr hF
  refine Va (Vi rfl) rfl ?_
  refine Va (Xs rfl) rfl ?_
  refine Vh (Xt (ps := [(q0, ⟨61, 2, [.agg [.vs 1 (Yc (Yd .u8) x1.1.l), .int .i64 x1.1.at_]], w0⟩)]) (r := .int .i64 x1.2) (os := []) (low1 := (setL low0 [(q0, ⟨61, 2, [.agg [.vs 1 (Yc (Yd .u8) x1.1.l), .int .i64 x1.1.at_]], w0⟩)])) (loc1 := [⟨36, 3, [.agg [.int .i64 0, .int .i64 0, .nils]], 0⟩]) (loc2 := [⟨36, 3, [.agg [.int .i64 0, .int .i64 0, .nils]], 0⟩]) rfl Try.call32 (F_draw_Codes_Range_ok h2 (nd1 na0 nd0) (get_B hB rfl 0 rfl) (len_app (Xq hn) rfl)) (sets_B (ps0' := [(q0, ⟨61, 2, [.agg [.vs 1 (Yc (Yd .u8) x1.1.l), .int .i64 x1.1.at_]], w0⟩)]) hB rfl 0 rfl (ltObjN hn ⟨Yb ⟨.vs _ _, .int _ _, trivial⟩, trivial⟩) rfl Ya) rfl) rfl ?_
  refine Vh (vef_litN (Xq hn) rfl (es := Yc (Yd .i64) [x1.2]) ⟨rfl, rfl, trivial⟩ rfl rfl (nt_all rfl) te_25 ts_3 tz_3 rfl rfl (Yh _) (by decide)) rfl ?_
  refine Va (rd_build (vs := [(0, .int .i64 p1), (1, .int .i64 (-1)), (2, .sl (n + 1) 0 0 ([x1.2]).length)]) (ds := [.int .i64 p1, .int .i64 (-1), .sl (n + 1) 0 0 ([x1.2]).length]) tz_36 rfl rfl tp_36 ⟨rfl, rfl, rfl, rfl, rfl, rfl, trivial⟩ (nt_all2 rfl) rfl) rfl ?_
  refine Vh (vef_allocN (Xq hn) rfl tz_36 rfl rfl (Yh _) rfl) rfl ?_
  refine Vh (Xn (p := .agg [.int .i64 p1, .int .i64 (-1), .sl (n + 1) 0 0 ([x1.2]).length]) (e' := .agg [.int .i64 p1, .int .i64 (-1), .sl (n + 1) 0 0 ([x1.2]).length]) rfl (Vk (Xq hn) rfl) rfl rfl ts_36 rfl (nt_ne rfl) rfl (Yg rfl) rfl (Xx (Xq hn) rfl)) rfl ?_
  refine Vd ?_
  refine Ve ?_
  refine Ve ?_
  refine Vc ?_
  obtain ⟨x3, h4, hF⟩ := Xr hF
  refine Va (Xs rfl) rfl ?_
  refine Vh (Xt (ps := [(q0, ⟨61, 2, [.agg [.vs 1 (Yc (Yd .u8) x3.1.l), .int .i64 x3.1.at_]], w0⟩)]) (r := .int .i64 x3.2) (os := []) (low1 := (setL low0 [(q0, ⟨61, 2, [.agg [.vs 1 (Yc (Yd .u8) x3.1.l), .int .i64 x3.1.at_]], w0⟩)])) (loc1 := [⟨36, 3, [.agg [.int .i64 0, .int .i64 0, .nils]], 0⟩, ⟨3, 1, Yc (Yd .i64) [x1.2], 0⟩, ⟨36, 3, [.agg [.int .i64 p1, .int .i64 (-1), .sl (n + 1) 0 0 ([x1.2]).length]], 0⟩]) (loc2 := [⟨36, 3, [.agg [.int .i64 0, .int .i64 0, .nils]], 0⟩, ⟨3, 1, Yc (Yd .i64) [x1.2], 0⟩, ⟨36, 3, [.agg [.int .i64 p1, .int .i64 (-1), .sl (n + 1) 0 0 ([x1.2]).length]], 0⟩]) rfl Try.call32 (F_draw_Codes_Range_ok h4 (nd1 na0 nd0) (get_B hB rfl 0 rfl) (len_app (Xq hn) rfl)) (sets_B (ps0' := [(q0, ⟨61, 2, [.agg [.vs 1 (Yc (Yd .u8) x3.1.l), .int .i64 x3.1.at_]], w0⟩)]) hB rfl 0 rfl (ltObjN hn ⟨Yb ⟨.vs _ _, .int _ _, trivial⟩, trivial⟩) rfl Ya) rfl) rfl ?_
  refine Va (Vu rfl) rfl ?_
  refine Vd ?_
  refine Xf ?_
  obtain ⟨o6, ho6, hF⟩ := Xr hF
  refine Vo (vwp_loopC F_draw_Codes_Door_L1 (fun s5 E' lw lc => Xl E' lw lc [(0, .ptr q0 w0 0 0), (4, .ptr (n + 0) 0 0 0), (5, .ptr (n + 1) 0 0 0), (6, .int .i64 s5.1)] (setL low0 [(q0, ⟨61, 2, [.agg [.vs 1 (Yc (Yd .u8) s5.2.2.l), .int .i64 s5.2.2.at_]], w0⟩)]) [⟨36, 3, [.agg [.int .i64 0, .int .i64 0, .nils]], 0⟩, ⟨36, 3, [.agg [.int .i64 p1, .int .i64 (-1), .sl (n + 2) 0 0 (s5.2.1).length]], 0⟩, ⟨3, 1, Yc (Yd .i64) s5.2.1, 0⟩]) (fun o6 => OnlyE (.exit 0) (fun E' lw lc => Xl E' lw lc [(4, .ptr (n + 0) 0 0 0), (5, .ptr (n + 1) 0 0 0)] (setL low0 [(q0, ⟨61, 2, [.agg [.vs 1 (Yc (Yd .u8) o6.2.l), .int .i64 o6.2.at_]], w0⟩)]) [⟨36, 3, [.agg [.int .i64 0, .int .i64 0, .nils]], 0⟩, ⟨36, 3, [.agg [.int .i64 p1, .int .i64 (-1), .sl (n + 2) 0 0 (o6.1).length]], 0⟩, ⟨3, 1, Yc (Yd .i64) o6.1, 0⟩])) ho6 ?_ (by rintro _ _ _ _ ⟨h, _⟩ <;> cases h) ?_) ?_
  ·exact Vx (Xq hn) [(0, 0), (2, 0), (1, 0)] (by decide) ⟨Vm rfl (.ptr _ _ _ _ hq0), rn_ptr 0 0 rfl rfl, rn_ptr 1 2 rfl rfl, Vm rfl (.int _ _), trivial⟩ ⟨⟨_, rfl, rfl, .same _ _ _ _ (ltObj_es ⟨Yb ⟨.int _ _, .int _ _, .nils, trivial⟩, trivial⟩)⟩, ⟨_, rfl, rfl, .agg _ _ _ _ _ ⟨Vm rfl (.int _ _), Vm rfl (.int _ _), rn_sl 2 1 rfl rfl, trivial⟩⟩, ⟨_, rfl, rfl, .same _ _ _ _ (ltObj_map (fun _ => .int _ _))⟩, trivial⟩
  ·rintro s5 os5 _ _ _ hF hw
   unfold F_draw_Codes_Door_L1 at hF
   refine vwp_weak hw ?_
   refine Ve ?_
   refine Ve ?_
   refine Vc ?_
   refine Va (Vi rfl) rfl ?_
   refine Va (rd_gtr rfl rfl) rfl ?_
   refine Vd ?_
   refine Vt rfl (fun c7 => ?_) (fun c7 => ?_)
   ·have hF := Xh c7 hF
    refine Xa ?_
    refine Ve ?_
    refine Xf ?_
    obtain ⟨x8, h9, hF⟩ := Xr hF
    obtain ⟨x10, h11, hF⟩ := Xr hF
    obtain ⟨x12, h13, hF⟩ := Xr hF
    refine vwp_drawn [[], [0], [], [2], [], [4], [4, 5], [4, 5, 6], [2, 3, 4, 5, 6, 7], [2, 3, 4, 5, 6, 7, 8], [], [10], [2, 3, 4, 5, 6, 7, 8, 9, 10, 11], [2, 3, 4, 5, 6, 7, 8, 9, 10, 11, 12], [2, 3, 4, 5, 6, 7, 8, 9, 10, 11, 12, 13], [0, 1, 2, 3, 4, 5, 6, 7, 8, 9, 10, 11, 12, 13, 14], [0, 1, 2, 3, 4, 5, 6, 7, 8, 9, 10, 11, 12, 13, 14, 15], [0, 1, 2, 3, 4, 5, 6, 7, 8, 9, 10, 11, 12, 13, 14, 15, 16]] [false, false, false, false, false, false, false, false, false, false, false, true, false, false, false, true, false, true] [((setL low0 [(q0, ⟨61, 2, [.agg [.vs 1 (Yc (Yd .u8) s5.2.2.l), .int .i64 s5.2.2.at_]], w0⟩)]), [⟨36, 3, [.agg [.int .i64 0, .int .i64 0, .nils]], 0⟩, ⟨36, 3, [.agg [.int .i64 p1, .int .i64 (-1), .sl (n + 2) 0 0 (s5.2.1).length]], 0⟩, ⟨3, 1, Yc (Yd .i64) s5.2.1, 0⟩]), ((setL low0 [(q0, ⟨61, 2, [.agg [.vs 1 (Yc (Yd .u8) x10.1.l), .int .i64 x10.1.at_]], w0⟩)]), [⟨36, 3, [.agg [.int .i64 0, .int .i64 0, .nils]], 0⟩, ⟨36, 3, [.agg [.int .i64 p1, .int .i64 (-1), .sl (n + 2) 0 0 (s5.2.1).length]], 0⟩, ⟨3, 1, Yc (Yd .i64) s5.2.1, 0⟩]), ((setL low0 [(q0, ⟨61, 2, [.agg [.vs 1 (Yc (Yd .u8) x10.1.l), .int .i64 x10.1.at_]], w0⟩)]), [⟨36, 3, [.agg [.int .i64 0, .int .i64 0, .nils]], 0⟩, ⟨36, 3, [.agg [.int .i64 p1, .int .i64 (-1), .sl (n + 2) 0 0 (s5.2.1).length]], 0⟩, ⟨3, 1, Yc (Yd .i64) x12, 0 + 1⟩]), ((setL low0 [(q0, ⟨61, 2, [.agg [.vs 1 (Yc (Yd .u8) x10.1.l), .int .i64 x10.1.at_]], w0⟩)]), [⟨36, 3, [.agg [.int .i64 0, .int .i64 0, .nils]], 0⟩, ⟨36, 3, [.agg [.int .i64 p1, .int .i64 (-1), .sl (n + 2) (0 + 1) 0 (x12).length]], 0⟩, ⟨3, 1, Yc (Yd .i64) x12, 0 + 1⟩])] mixed (by kernel_rfl) rfl (lenAll (all1 len_setL (all1 len_setL (all1 len_setL (all1 len_setL all0))))) rfl _ rfl rfl ?_
    refine dops_rdW _ rfl rfl (all1 (VRd.ntl (Vf rfl tf_36_2 ts_25 (by decide))) (all1 (VRd.ntl (Vf rfl tf_36_2 ts_25 (by decide))) all0)) ?_
    refine dops_rdW _ rfl rfl (all1 (VRd.ntl (Vj rfl (Vk (Xq hn) rfl) rfl ta_25 rfl)) (all1 (VRd.ntl (Vj rfl (Vk (Xq hn) rfl) rfl ta_25 rfl)) all0)) ?_
    refine dops_rdW _ rfl rfl (all1 (VRd.ntl (Vf rfl tf_36_2 ts_25 (by decide))) (all1 (VRd.ntl (Vf rfl tf_36_2 ts_25 (by decide))) all0)) ?_
    refine dops_rdW _ rfl rfl (all1 (VRd.ntl (Vj rfl (Vk (Xq hn) rfl) rfl ta_25 rfl)) (all1 (VRd.ntl (Vj rfl (Vk (Xq hn) rfl) rfl ta_25 rfl)) all0)) ?_
    refine dops_rdW _ rfl rfl (all1 (VRd.ntl (Vf rfl tf_36_2 ts_25 (by decide))) (all1 (VRd.ntl (Vf rfl tf_36_2 ts_25 (by decide))) all0)) ?_
    refine dops_rdW _ rfl rfl (all1 (VRd.ntl (Vj rfl (Vk (Xq hn) rfl) rfl ta_25 rfl)) (all1 (VRd.ntl (Vj rfl (Vk (Xq hn) rfl) rfl ta_25 rfl)) all0)) ?_
    refine dops_rdW _ rfl rfl (all1 (VRd.ntl (rd_lenS rfl (Vk (Xq hn) rfl) rfl rfl te_25)) (all1 (VRd.ntl (rd_lenS rfl (Vk (Xq hn) rfl) rfl rfl te_25)) all0)) ?_
    refine dops_rdW _ rfl rfl (all1 (VRd.ntl (rd_sub rfl rfl rfl)) (all1 (VRd.ntl (rd_sub rfl rfl rfl)) all0)) ?_
    refine dops_rdW _ rfl rfl (all1 (VRd.ntl (rd_ixS rfl rfl rfl (Vk (Xq hn) rfl) h9 te_25 ts_3)) (all1 (VRd.ntl (rd_ixS rfl rfl rfl (Vk (Xq hn) rfl) h9 te_25 ts_3)) all0)) ?_
    refine dops_rdW _ rfl rfl (all1 (VRd.ntl (rd_ldL1 rfl (Vk (Xq hn) rfl) (Xv h9).2 ta_3 rfl)) (all1 (VRd.ntl (rd_ldL1 rfl (Vk (Xq hn) rfl) (Xv h9).2 ta_3 rfl)) all0)) ?_
    refine Xm rfl rfl (Xs rfl) ?_
    refine dops_ef rfl rfl rfl (Xt (ps := [(q0, ⟨61, 2, [.agg [.vs 1 (Yc (Yd .u8) x10.1.l), .int .i64 x10.1.at_]], w0⟩)]) (r := .int .i64 x10.2) (os := []) (low1 := (setL low0 [(q0, ⟨61, 2, [.agg [.vs 1 (Yc (Yd .u8) x10.1.l), .int .i64 x10.1.at_]], w0⟩)])) (loc1 := [⟨36, 3, [.agg [.int .i64 0, .int .i64 0, .nils]], 0⟩, ⟨36, 3, [.agg [.int .i64 p1, .int .i64 (-1), .sl (n + 2) 0 0 (s5.2.1).length]], 0⟩, ⟨3, 1, Yc (Yd .i64) s5.2.1, 0⟩]) (loc2 := [⟨36, 3, [.agg [.int .i64 0, .int .i64 0, .nils]], 0⟩, ⟨36, 3, [.agg [.int .i64 p1, .int .i64 (-1), .sl (n + 2) 0 0 (s5.2.1).length]], 0⟩, ⟨3, 1, Yc (Yd .i64) s5.2.1, 0⟩]) rfl Try.call32 (F_draw_Codes_Range_ok h11 (nd1 na0 nd0) (get_B hB rfl 0 rfl) (len_app (Xq hn) rfl)) (sets_B (ps0' := [(q0, ⟨61, 2, [.agg [.vs 1 (Yc (Yd .u8) x10.1.l), .int .i64 x10.1.at_]], w0⟩)]) hB rfl 0 rfl (ltObjN hn ⟨Yb ⟨.vs _ _, .int _ _, trivial⟩, trivial⟩) rfl Ya) rfl) ?_
    refine Xm rfl rfl (rd_sub rfl rfl rfl) ?_
    refine Xm rfl rfl (rd_max rfl rfl) ?_
    refine dn1 rfl rfl (nt_of (vef_litF (es := Yc (Yd .i64) [(max 0 (IntKind.i64.wrap (x8 - x10.2)))]) ⟨rfl, rfl, trivial⟩ rfl rfl (nt_all rfl) te_25 ts_3 tz_3 rfl rfl (Yh _) (by decide) (lt_map (fun _ => .int _ _)))) ?_
    refine dops_ef rfl rfl rfl (vef_apL (f := (Yd .i64)) (l := s5.2.1) (ys := [(max 0 (IntKind.i64.wrap (x8 - x10.2)))]) rfl rfl (Vk (Xq hn) rfl) rfl (src_vs rfl) te_25 ts_3 tb_3 (by decide) tz_3 rfl h13 (Xx (Xq hn) rfl)) ?_
    refine Xm rfl rfl (Vf rfl tf_36_2 ts_25 (by decide)) ?_
    refine dops_ef rfl rfl rfl (Xn (p := .sl (n + 2) (0 + 1) 0 (x12).length) (e' := .agg [.int .i64 p1, .int .i64 (-1), .sl (n + 2) (0 + 1) 0 (x12).length]) rfl (Vk (Xq hn) rfl) rfl rfl ts_25 rfl (nt_ne rfl) rfl (Yg rfl) rfl (Xx (Xq hn) rfl)) ?_
    refine dops_nil ?_
    refine Vc ?_
    refine Va (Vi rfl) rfl ?_
    refine Va (rd_sub rfl rfl rfl) rfl ?_
    refine Va (Vu rfl) rfl ?_
    refine Vd ?_
    obtain rfl := Yf hF
    refine Vv ?_
    exact Vx (Xq hn) [(0, 0), (1, 0), (2, 0 + 1)] (by decide) ⟨Vm rfl (.ptr _ _ _ _ hq0), rn_ptr 0 0 rfl rfl, rn_ptr 1 1 rfl rfl, Vm rfl (.int _ _), trivial⟩ ⟨⟨_, rfl, rfl, .same _ _ _ _ (ltObj_es ⟨Yb ⟨.int _ _, .int _ _, .nils, trivial⟩, trivial⟩)⟩, ⟨_, rfl, rfl, .agg _ _ _ _ _ ⟨Vm rfl (.int _ _), Vm rfl (.int _ _), rn_sl 2 2 rfl rfl, trivial⟩⟩, ⟨_, rfl, rfl, .same _ _ _ _ (ltObj_map (fun _ => .int _ _))⟩, trivial⟩
   ·have hF := Xi c7 hF
    refine vwp_exit ?_
    obtain rfl := Yf hF
    refine Vv ?_
    exact Vg ⟨rfl, rfl, trivial⟩
  ·rintro _ _ _ _ ⟨rfl, hw⟩
   refine ⟨_, _, _, hw, ?_⟩
   refine Ve ?_
   refine Vc ?_
   refine Va (rd_loadN (ds := [.int .i64 p1, .int .i64 (-1), .sl (n + 2) 0 0 (o6.1).length]) rfl (Vk (Xq hn) rfl) rfl ta_36 ts_36 rfl rfl rfl) rfl ?_
   refine Vh (Xn (p := .agg [.int .i64 p1, .int .i64 (-1), .sl (n + 2) 0 0 (o6.1).length]) (e' := .agg [.int .i64 p1, .int .i64 (-1), .sl (n + 2) 0 0 (o6.1).length]) rfl (Vk (Xq hn) rfl) rfl rfl ts_36 rfl (nt_ne rfl) rfl (Yg rfl) rfl (Xx (Xq hn) rfl)) rfl ?_
   refine Vd ?_
   refine Vz ?_
   obtain rfl := Yf hF
   refine fnR ?_
   exact Vx (Xq hn) [(2, 0), (0, 0)] (by decide) ⟨rn_ptr 1 0 rfl rfl, trivial⟩ ⟨⟨_, rfl, rfl, .same _ _ _ _ (ltObj_map (fun _ => .int _ _))⟩, ⟨_, rfl, rfl, .agg _ _ _ _ _ ⟨Vm rfl (.int _ _), Vm rfl (.int _ _), rn_sl 0 2 rfl rfl, trivial⟩⟩, trivial⟩
 ·rintro _ _ _ _ ⟨he, hw⟩
  refine ⟨_, _, _, hw, ?_⟩
  exact bodyQ_some (Xq hn) 1 rfl (Yg rfl) he [.agg [.int .i64 r.2.Road, .int .i64 r.2.Other, .sl (n + 0) 0 0 (r.2.Rests).length]] ⟨rd_loadN rfl (Vk (Xq hn) rfl) rfl ta_36 ts_36 rfl rfl rfl, trivial⟩ ((Yb ⟨.int _ _, .int _ _, .sl _ _ _ _ (lt_kk rfl), trivial⟩)) ⟨ltObj_map (fun _ => .int _ _), trivial⟩ ⟨rfl, rfl⟩

theorem F_draw_Codes_Door_ok {p0 : T_draw_Codes} {p1 : Int} {r : T_draw_Codes × T_Door} (hF : F_draw_Codes_Door p0 p1 = some r) {low : List AObj} {q0 w0 : Nat} (hnd : [q0].Nodup) (hq0 : low[q0]? = some ⟨61, 2, [.agg [.vs 1 (Yc (Yd .u8) p0.l), .int .i64 p0.at_]], w0⟩) {n : Nat} (hn : low.length = n) :
    Xz Try.prog 26 [.ptr q0 w0 0 0, .int .i64 p1] low fun x low' => x = .agg [.int .i64 r.2.Road, .int .i64 r.2.Other, .sl (n + 0) 0 0 (r.2.Rests).length] ∧ low' = setL low [(q0, ⟨61, 2, [.agg [.vs 1 (Yc (Yd .u8) r.1.l), .int .i64 r.1.at_]], w0⟩)] ++ [⟨3, 1, Yc (Yd .i64) r.2.Rests, 0⟩] := by
  obtain ⟨h1, h2⟩ := bor_start (ps := [(q0, ⟨61, 2, [.agg [.vs 1 (Yc (Yd .u8) p0.l), .int .i64 p0.at_]], w0⟩)]) hnd (borC hq0 bor0)
  exact vcalls_low h1 (F_draw_Codes_Door_ok0 hF h2 hn)

theorem F_draw_Codes_DoubleDoor_ok0 {p0 : T_draw_Codes} {p1 : Int} {p2 : Int} {p3 : Int} {r : T_draw_Codes × List T_Door} (hF : F_draw_Codes_DoubleDoor p0 p1 p2 p3 = some r) {low0 : List AObj} {q0 w0 : Nat} (hB : Bor low0 [q0]) {n : Nat} (hn : low0.length = n) :
    Xz Try.prog 25 [.ptr q0 w0 0 0, .int .i64 p1, .int .i64 p2, .int .i64 p3] (setL low0 [(q0, ⟨61, 2, [.agg [.vs 1 (Yc (Yd .u8) p0.l), .int .i64 p0.at_]], w0⟩)]) fun x low' => x = .vs 3 (Yc T_Door.enc r.2) ∧ low' = setL low0 [(q0, ⟨61, 2, [.agg [.vs 1 (Yc (Yd .u8) r.1.l), .int .i64 r.1.at_]], w0⟩)] ++ [] := by
 refine Xc (nt := 25) (rs := [.tmp 8]) Try.func25 rfl rfl (Yg rfl) rfl ?_
 have hq0 : q0 < n := hB.ltN hn 0 rfl
 refine Vo (Q' := FnE (fun E' lw lc => Xl E' lw lc [(8, .vs 3 (Yc T_Door.enc r.2))] (setL low0 [(q0, ⟨61, 2, [.agg [.vs 1 (Yc (Yd .u8) r.1.l), .int .i64 r.1.at_]], w0⟩)]) [])) ?_ ?_
 ·unfold F_draw_Codes_DoubleDoor at hF
  refine Ve ?_
  refine Vc ?_
  refine Va (rd_nv (sz := 3) (rd_asN rfl)) rfl ?_
  refine Vd ?_
  refine Ve ?_
  refine Vc ?_
  obtain ⟨x1, h2, hF⟩ := Xr hF
  obtain ⟨x3, h4, hF⟩ := Xr hF
  refine Va (Xs rfl) rfl ?_
  refine Va (Vi rfl) rfl ?_
  refine Vh (Xt (ps := [(q0, ⟨61, 2, [.agg [.vs 1 (Yc (Yd .u8) x1.1.l), .int .i64 x1.1.at_]], w0⟩)]) (r := .agg [.int .i64 x1.2.Road, .int .i64 x1.2.Other, .sl (n + 0) 0 0 (x1.2.Rests).length]) (os := [⟨3, 1, Yc (Yd .i64) x1.2.Rests, 0⟩]) (low1 := (setL low0 [(q0, ⟨61, 2, [.agg [.vs 1 (Yc (Yd .u8) x1.1.l), .int .i64 x1.1.at_]], w0⟩)])) (loc1 := []) (loc2 := [⟨3, 1, Yc (Yd .i64) x1.2.Rests, 0⟩]) rfl Try.call26 (F_draw_Codes_Door_ok h2 (nd1 na0 nd0) (get_B hB rfl 0 rfl) (len_app (Xq hn) rfl)) (sets_B (ps0' := [(q0, ⟨61, 2, [.agg [.vs 1 (Yc (Yd .u8) x1.1.l), .int .i64 x1.1.at_]], w0⟩)]) hB rfl 0 rfl (ltObjN hn ⟨Yb ⟨.vs _ _, .int _ _, trivial⟩, trivial⟩) rfl Ya) rfl) rfl ?_
  refine Va (Xs rfl) rfl ?_
  refine Va (Vi rfl) rfl ?_
  refine Vh (Xt (ps := [(q0, ⟨61, 2, [.agg [.vs 1 (Yc (Yd .u8) x3.1.l), .int .i64 x3.1.at_]], w0⟩)]) (r := .agg [.int .i64 x3.2.Road, .int .i64 x3.2.Other, .sl (n + 1) 0 0 (x3.2.Rests).length]) (os := [⟨3, 1, Yc (Yd .i64) x3.2.Rests, 0⟩]) (low1 := (setL low0 [(q0, ⟨61, 2, [.agg [.vs 1 (Yc (Yd .u8) x3.1.l), .int .i64 x3.1.at_]], w0⟩)])) (loc1 := [⟨3, 1, Yc (Yd .i64) x1.2.Rests, 0⟩]) (loc2 := [⟨3, 1, Yc (Yd .i64) x1.2.Rests, 0⟩, ⟨3, 1, Yc (Yd .i64) x3.2.Rests, 0⟩]) rfl Try.call26 (F_draw_Codes_Door_ok h4 (nd1 na0 nd0) (get_B hB rfl 0 rfl) (len_app (Xq hn) rfl)) (sets_B (ps0' := [(q0, ⟨61, 2, [.agg [.vs 1 (Yc (Yd .u8) x3.1.l), .int .i64 x3.1.at_]], w0⟩)]) hB rfl 0 rfl (ltObjN hn ⟨Yb ⟨.vs _ _, .int _ _, trivial⟩, trivial⟩) rfl Ya) rfl) rfl ?_
  refine Vh (vef_allocN (Xq hn) rfl tz_36 rfl rfl (Yh _) rfl) rfl ?_
  refine Vh (vef_allocN (Xq hn) rfl tz_36 rfl rfl (Yh _) rfl) rfl ?_
  refine Vh (Xn (p := .agg [.int .i64 x1.2.Road, .int .i64 x1.2.Other, .sl (n + 0) 0 0 (x1.2.Rests).length]) (e' := .agg [.int .i64 x1.2.Road, .int .i64 x1.2.Other, .sl (n + 0) 0 0 (x1.2.Rests).length]) rfl (Vk (Xq hn) rfl) rfl rfl ts_36 rfl (nt_ne rfl) rfl (Yg rfl) rfl (Xx (Xq hn) rfl)) rfl ?_
  refine Vh (Xn (p := .agg [.int .i64 x3.2.Road, .int .i64 x3.2.Other, .sl (n + 1) 0 0 (x3.2.Rests).length]) (e' := .agg [.int .i64 x3.2.Road, .int .i64 x3.2.Other, .sl (n + 1) 0 0 (x3.2.Rests).length]) rfl (Vk (Xq hn) rfl) rfl rfl ts_36 rfl (nt_ne rfl) rfl (Yg rfl) rfl (Xx (Xq hn) rfl)) rfl ?_
  refine Vd ?_
  refine Ve ?_
  refine Vc ?_
  refine Va (Vi rfl) rfl ?_
  refine Va (rd_add rfl rfl rfl) rfl ?_
  refine Va (Vi rfl) rfl ?_
  refine Va (Vf rfl tf_36_1 ts_3 (by decide)) rfl ?_
  refine Vh (Xn (p := .int .i64 (IntKind.i64.wrap (p1 + 1))) (e' := .agg [.int .i64 x1.2.Road, .int .i64 (IntKind.i64.wrap (p1 + 1)), .sl (n + 0) 0 0 (x1.2.Rests).length]) rfl (Vk (Xq hn) rfl) rfl rfl ts_3 rfl (nt_ne rfl) rfl (Yg rfl) rfl (Xx (Xq hn) rfl)) rfl ?_
  refine Va (Vf rfl tf_36_1 ts_3 (by decide)) rfl ?_
  refine Vh (Xn (p := .int .i64 p1) (e' := .agg [.int .i64 x3.2.Road, .int .i64 p1, .sl (n + 1) 0 0 (x3.2.Rests).length]) rfl (Vk (Xq hn) rfl) rfl rfl ts_3 rfl (nt_ne rfl) rfl (Yg rfl) rfl (Xx (Xq hn) rfl)) rfl ?_
  refine Vd ?_
  refine Ve ?_
  refine Vc ?_
  refine Va (rd_loadN (ds := [.int .i64 x1.2.Road, .int .i64 (IntKind.i64.wrap (p1 + 1)), .sl (n + 0) 0 0 (x1.2.Rests).length]) rfl (Vk (Xq hn) rfl) rfl ta_36 ts_36 rfl rfl rfl) rfl ?_
  refine Va (rd_loadN (ds := [.int .i64 x3.2.Road, .int .i64 p1, .sl (n + 1) 0 0 (x3.2.Rests).length]) rfl (Vk (Xq hn) rfl) rfl ta_36 ts_36 rfl rfl rfl) rfl ?_
  refine vops_weak (weak_freezeN (E' := [(22, .agg [.int .i64 x1.2.Road, .int .i64 (IntKind.i64.wrap (p1 + 1)), .vs 1 (Yc (Yd .i64) x1.2.Rests)]), (23, .agg [.int .i64 x3.2.Road, .int .i64 p1, .sl (n + 1) 0 0 (x3.2.Rests).length])]) (loc1 := [⟨3, 1, [], 0 + 1⟩, ⟨3, 1, Yc (Yd .i64) x3.2.Rests, 0⟩, ⟨36, 3, [.agg [.int .i64 x1.2.Road, .int .i64 (IntKind.i64.wrap (p1 + 1)), .vs 1 (Yc (Yd .i64) x1.2.Rests)]], 0⟩, ⟨36, 3, [.agg [.int .i64 x3.2.Road, .int .i64 p1, .sl (n + 1) 0 0 (x3.2.Rests).length]], 0⟩]) (Xq hn) 0 rfl (lt_map (fun _ => .int _ _)) ⟨cv_agg rfl ⟨cv_same rfl, cv_same rfl, cv_sl rfl rfl rfl (full_take rfl), trivial⟩, cv_same rfl, trivial⟩ ⟨.refl _, .refl _, cvo_agg ⟨cv_same rfl, cv_same rfl, cv_sl rfl rfl rfl (full_take rfl), trivial⟩, .refl _, trivial⟩) ?_
  refine vops_weak (weak_freezeN (E' := [(22, .agg [.int .i64 x1.2.Road, .int .i64 (IntKind.i64.wrap (p1 + 1)), .vs 1 (Yc (Yd .i64) x1.2.Rests)]), (23, .agg [.int .i64 x3.2.Road, .int .i64 p1, .vs 1 (Yc (Yd .i64) x3.2.Rests)])]) (loc1 := [⟨3, 1, [], 0 + 1⟩, ⟨3, 1, [], 0 + 1⟩, ⟨36, 3, [.agg [.int .i64 x1.2.Road, .int .i64 (IntKind.i64.wrap (p1 + 1)), .vs 1 (Yc (Yd .i64) x1.2.Rests)]], 0⟩, ⟨36, 3, [.agg [.int .i64 x3.2.Road, .int .i64 p1, .vs 1 (Yc (Yd .i64) x3.2.Rests)]], 0⟩]) (Xq hn) 1 rfl (lt_map (fun _ => .int _ _)) ⟨cv_same rfl, cv_agg rfl ⟨cv_same rfl, cv_same rfl, cv_sl rfl rfl rfl (full_take rfl), trivial⟩, trivial⟩ ⟨.refl _, .refl _, .refl _, cvo_agg ⟨cv_same rfl, cv_same rfl, cv_sl rfl rfl rfl (full_take rfl), trivial⟩, trivial⟩) ?_
  refine Vh (vef_litF (es := Yc T_Door.enc [(T_Door.mk x1.2.Road (IntKind.i64.wrap (p1 + 1)) x1.2.Rests), (T_Door.mk x3.2.Road p1 x3.2.Rests)]) ⟨rfl, rfl, rfl, rfl, trivial⟩ rfl rfl (nt_all rfl) te_23 ts_36 tz_36 rfl rfl (Yh _) (by decide) (lt_map T_Door.enc_lt)) rfl ?_
  refine Va (rd_asV rfl) rfl ?_
  refine Vd ?_
  refine Vz ?_
  obtain rfl := Yf hF
  refine fnR ?_
  exact Vx (Xq hn) [] (by decide) ⟨Vm rfl (.vs _ _), trivial⟩ trivial
 ·rintro _ _ _ _ ⟨he, hw⟩
  refine ⟨_, _, _, hw, ?_⟩
  exact Xo he [.vs 3 (Yc T_Door.enc r.2)] ⟨rfl, trivial⟩ (.vs _ _) ⟨rfl, (List.append_nil _).symm⟩

theorem F_draw_Codes_DoubleDoor_ok {p0 : T_draw_Codes} {p1 : Int} {p2 : Int} {p3 : Int} {r : T_draw_Codes × List T_Door} (hF : F_draw_Codes_DoubleDoor p0 p1 p2 p3 = some r) {low : List AObj} {q0 w0 : Nat} (hnd : [q0].Nodup) (hq0 : low[q0]? = some ⟨61, 2, [.agg [.vs 1 (Yc (Yd .u8) p0.l), .int .i64 p0.at_]], w0⟩) {n : Nat} (hn : low.length = n) :
    Xz Try.prog 25 [.ptr q0 w0 0 0, .int .i64 p1, .int .i64 p2, .int .i64 p3] low fun x low' => x = .vs 3 (Yc T_Door.enc r.2) ∧ low' = setL low [(q0, ⟨61, 2, [.agg [.vs 1 (Yc (Yd .u8) r.1.l), .int .i64 r.1.at_]], w0⟩)] ++ [] := by
  obtain ⟨h1, h2⟩ := bor_start (ps := [(q0, ⟨61, 2, [.agg [.vs 1 (Yc (Yd .u8) p0.l), .int .i64 p0.at_]], w0⟩)]) hnd (borC hq0 bor0)
  exact vcalls_low h1 (F_draw_Codes_DoubleDoor_ok0 hF h2 hn)

theorem F_draw_Mod_ok {p0 : Int} {p1 : Int} {r : Int} (hF : F_draw_Mod p0 p1 = some r) (low : List AObj) :
    Xz Try.prog 12 [.int .i64 p0, .int .i64 p1] low fun x low' => x = .int .i64 r ∧ low' = low := by
 refine Xc (nt := 16) (rs := [.tmp 4]) Try.func12 rfl rfl (Yg rfl) rfl ?_
 refine Vo (Q' := FnE (fun E' lw lc => Xl E' lw lc [(4, .int .i64 r)] low [])) ?_ ?_
 ·unfold F_draw_Mod at hF
  refine Ve ?_
  refine Vc ?_
  refine Va (Vu rfl) rfl ?_
  refine Vd ?_
  refine Ve ?_
  refine Ve ?_
  refine Vc ?_
  refine Va (Vi rfl) rfl ?_
  refine Va (Xj rfl rfl) rfl ?_
  refine Vd ?_
  refine Vt rfl (fun c1 => ?_) (fun c1 => ?_)
  ·have hF := Xh c1 hF
   refine Ve ?_
   refine Vc ?_
   refine Va (Vu rfl) rfl ?_
   refine Vd ?_
   refine Vz ?_
   obtain rfl := Yf hF
   refine fnR ?_
   exact Vg ⟨rfl, trivial⟩
  ·have hF := Xi c1 hF
   refine Xa ?_
   refine Ve ?_
   refine Vc ?_
   obtain ⟨x2, h3, hF⟩ := Xr hF
   refine Va (Vi rfl) rfl ?_
   refine Va (Vi rfl) rfl ?_
   refine Va (rd_rem rfl rfl (remI_some h3).1 (remI_some h3).2) rfl ?_
   refine Va (Vu rfl) rfl ?_
   refine Vd ?_
   refine Ve ?_
   refine Ve ?_
   refine Vc ?_
   refine Va (Vi rfl) rfl ?_
   refine Va (Xj rfl rfl) rfl ?_
   refine Vd ?_
   obtain ⟨o4, ho4, hF⟩ := Xr hF
   refine Vo (Q' := (fun o4 => OnlyE .normal (fun E' lw lc => Xl E' lw lc [(0, .int .i64 o4)] low [])) o4) ?_ ?_
   ·replace hF := ho4
    refine Vt rfl (fun c5 => ?_) (fun c5 => ?_)
    ·have hF := Xh c5 hF
     refine Vc ?_
     refine Va (Vi rfl) rfl ?_
     refine Va (Vi rfl) rfl ?_
     refine Va (rd_add rfl rfl rfl) rfl ?_
     refine Va (Vu rfl) rfl ?_
     refine Vd ?_
     obtain rfl := Yf hF
     refine Vv ?_
     exact Vg ⟨rfl, trivial⟩
    ·have hF := Xi c5 hF
     refine Xa ?_
     obtain rfl := Yf hF
     refine Vv ?_
     exact Vg ⟨rfl, trivial⟩
   ·rintro _ _ _ _ ⟨rfl, hw⟩
    refine ⟨_, _, _, hw, ?_⟩
    refine Ve ?_
    refine Vc ?_
    refine Va (Vi rfl) rfl ?_
    refine Va (Vu rfl) rfl ?_
    refine Vd ?_
    refine Vz ?_
    obtain rfl := Yf hF
    refine fnR ?_
    exact Vg ⟨rfl, trivial⟩
 ·rintro _ _ _ _ ⟨he, hw⟩
  refine ⟨_, _, _, hw, ?_⟩
  exact Xo he [.int .i64 r] ⟨rfl, trivial⟩ (.int _ _) ⟨rfl, rfl⟩

/-! ### law08.doors by hand: doors whose rows are objects of the function's own -/
abbrev sO (s : List Int) (v : Nat) : AObj := ⟨3, 1, Yc (Yd .i64) s, v⟩
abbrev cO (c : T_draw_Codes) : AObj := ⟨61, 2, [.agg [.vs 1 (Yc (Yd .u8) c.l), .int .i64 c.at_]], 0⟩
def dOwn (B : Nat) (p : T_Door × Nat) : PV := .agg [.int .i64 p.1.Road, .int .i64 p.1.Other, .sl (B + p.2) 0 0 p.1.Rests.length]
abbrev lO (B : Nat) (l : List T_Door) (v : Nat) : AObj := ⟨36, 3, Yc (dOwn B) l.zipIdx, v⟩
def dRows (l : List T_Door) : List AObj := l.map fun d => sO d.Rests 0
def dLoc (N : Nat) (s : List Int) (v1 : Nat) (c : T_draw_Codes) (l : List T_Door) (v2 : Nat) : List AObj := sO s v1 :: cO c :: lO (N + 3) l v2 :: dRows l

theorem dRows_len (l : List T_Door) : (dRows l).length = l.length := by unfold dRows; simp
theorem dLoc_len {N : Nat} {s : List Int} {v1 : Nat} {c : T_draw_Codes} {l : List T_Door} {v2 : Nat} : (dLoc N s v1 c l v2).length = 3 + l.length := by
  unfold dLoc; simp [dRows_len]; omega
theorem dRows_get {l : List T_Door} {k : Nat} {d : T_Door} (h : l[k]? = some d) : (dRows l)[k]? = some (sO d.Rests 0) := by
  unfold dRows; rw [List.getElem?_map, h]; rfl
theorem zip_get {l : List T_Door} {k : Nat} {d : T_Door} (h : l[k]? = some d) : l.zipIdx[k]? = some (d, k) := by
  rw [List.getElem?_zipIdx, h]; simp
theorem zip_getI {l : List T_Door} {i : Int} {d : T_Door} (h : getI l i = some d) : getI l.zipIdx i = some (d, i.toNat) := by
  obtain ⟨h1, h2⟩ := Xv h
  unfold getI
  rw [if_pos (by omega), zip_get h2]
theorem zip_set (l : List T_Door) (k : Nat) (d : T_Door) : (l.set k d).zipIdx = l.zipIdx.set k (d, k) := by
  refine List.ext_getElem? fun i => ?_
  rw [List.getElem?_zipIdx, List.getElem?_set, List.getElem?_set, List.getElem?_zipIdx]
  by_cases h : k = i
  · subst h
    by_cases hk : k < l.length
    · simp [hk]
    · simp [hk]
  · simp [h]
theorem zip_app (l m : List T_Door) : (l ++ m).zipIdx = l.zipIdx ++ m.zipIdx l.length := by rw [List.zipIdx_append]; simp
theorem zip_appI {by_ : Nat} {l m x : List T_Door} (h : appI by_ l m = some x) : appI by_ l.zipIdx (m.zipIdx l.length) = some x.zipIdx := by
  obtain ⟨h1, h2⟩ := appI_some h
  unfold appI
  rw [List.length_zipIdx, List.length_zipIdx, if_pos h1, ← h2, zip_app]
theorem dOwn_lt {N : Nat} {l : List T_Door} {n : Nat} (hn : N + 3 + l.length ≤ n) : ∀ e, e ∈ Yc (dOwn (N + 3)) l.zipIdx → LtN n e := fun e he => by
  obtain ⟨p, hp, rfl⟩ := List.mem_map.1 he
  obtain ⟨i, hi, he⟩ := List.getElem_of_mem hp
  have h2 := List.getElem?_eq_getElem hi
  rw [he, List.getElem?_zipIdx] at h2
  have hl : i < l.length := by simpa using hi
  rw [List.getElem?_eq_getElem hl] at h2
  simp at h2
  unfold dOwn
  refine Yb ⟨.int _ _, .int _ _, .sl _ _ _ _ ?_, trivial⟩
  rw [← h2]
  simp only
  omega
theorem dLoc_lt {N : Nat} {s : List Int} {v1 : Nat} {c : T_draw_Codes} {l : List T_Door} {v2 : Nat} {n : Nat} (hn : N + 3 + l.length ≤ n) : LtObjs n (dLoc N s v1 c l v2) := by
  refine ⟨ltObj_map (fun _ => .int _ _), ltObj_es ⟨Yb ⟨.vs _ _, .int _ _, trivial⟩, trivial⟩, dOwn_lt hn, ?_⟩
  unfold dRows
  induction l generalizing v2 with
  | nil => trivial
  | cons d l ih => exact ⟨ltObj_map (fun _ => .int _ _), ih (v2 := v2) (by simp at hn; omega)⟩
theorem dRows_app (l m : List T_Door) : dRows l ++ dRows m = dRows (l ++ m) := by unfold dRows; rw [List.map_append]
theorem dLoc_set {N : Nat} {s : List Int} {v1 : Nat} {c : T_draw_Codes} {l : List T_Door} {v2 : Nat} {k : Nat} {d d' : T_Door} (h : l[k]? = some d) (hd : d'.Rests = d.Rests) :
    (dLoc N s v1 c l v2).set 2 ⟨36, 3, Yc (dOwn (N + 3)) (l.zipIdx.set k (d', k)), v2⟩ = dLoc N s v1 c (l.set k d') v2 := by
  unfold dLoc
  show sO s v1 :: cO c :: _ :: dRows l = _
  have e : dRows (l.set k d') = dRows l := by
    unfold dRows
    rw [List.map_set, hd]
    refine List.ext_getElem? fun i => ?_
    rw [List.getElem?_set]
    by_cases hki : k = i
    · subst hki
      have hk := (List.getElem?_eq_some_iff.1 h).1
      simp [hk, h]
      rw [(List.getElem?_eq_some_iff.1 h).2]
    · simp [hki]
  rw [e, ← zip_set]
theorem dLoc_setR {N : Nat} {s : List Int} {v1 : Nat} {c : T_draw_Codes} {l : List T_Door} {v2 : Nat} {k j : Nat} {y : Int} {d : T_Door} (h : l[k]? = some d) :
    (dLoc N s v1 c l v2).set (3 + k) ⟨3, 1, Yc (Yd .i64) (d.Rests.set j y), 0⟩ = dLoc N s v1 c (l.set k (T_Door.mk d.Road d.Other (d.Rests.set j y))) v2 := by
  unfold dLoc
  rw [show 3 + k = k + 1 + 1 + 1 by omega, List.set_cons_succ, List.set_cons_succ, List.set_cons_succ]
  have e : Yc (dOwn (N + 3)) (l.set k (T_Door.mk d.Road d.Other (d.Rests.set j y))).zipIdx = Yc (dOwn (N + 3)) l.zipIdx := by
    rw [zip_set, List.map_set]
    refine List.ext_getElem? fun i => ?_
    rw [List.getElem?_set]
    by_cases hki : k = i
    · subst hki
      have hk := (List.getElem?_eq_some_iff.1 h).1
      rw [List.getElem?_map, zip_get h]
      simp [hk, dOwn]
    · simp [hki]
  have e2 : dRows (l.set k (T_Door.mk d.Road d.Other (d.Rests.set j y))) = (dRows l).set k (sO (d.Rests.set j y) 0) := by
    unfold dRows
    rw [List.map_set]
  rw [e2]
  unfold lO
  rw [e]
theorem dLoc_row {N : Nat} {s : List Int} {v1 : Nat} {c : T_draw_Codes} {l : List T_Door} {v2 : Nat} {k : Nat} {d : T_Door} {t : List AObj} (h : l[k]? = some d) : (dLoc N s v1 c l v2 ++ t)[3 + k]? = some (sO d.Rests 0) := by
  have hk := (List.getElem?_eq_some_iff.1 h).1
  rw [List.getElem?_append_left (by rw [dLoc_len]; omega)]
  unfold dLoc
  rw [show 3 + k = k + 1 + 1 + 1 by omega]
  exact dRows_get h
theorem dLoc_row0 {N : Nat} {s : List Int} {v1 : Nat} {c : T_draw_Codes} {l : List T_Door} {v2 : Nat} {k : Nat} {d : T_Door} (h : l[k]? = some d) : (dLoc N s v1 c l v2)[3 + k]? = some (sO d.Rests 0) := by
  have := dLoc_row (N := N) (s := s) (v1 := v1) (c := c) (v2 := v2) (t := []) h
  rwa [List.append_nil] at this
theorem getO_row {N : Nat} {s : List Int} {v1 : Nat} {c : T_draw_Codes} {l : List T_Door} {v2 : Nat} {k : Nat} {d : T_Door} {low : List AObj} (hN : low.length = N) (h : l[k]? = some d) : GetO low (dLoc N s v1 c l v2) (N + 3 + k) (sO d.Rests 0) := by
  rw [Nat.add_assoc]
  exact Vk hN (dLoc_row0 h)
theorem dLoc_new {N : Nat} {s : List Int} {v1 : Nat} {c : T_draw_Codes} {l : List T_Door} {v2 j : Nat} {t : List AObj} {o : AObj} (h : t[j]? = some o) : (dLoc N s v1 c l v2 ++ t)[3 + l.length + j]? = some o := by
  rw [List.getElem?_append_right (by rw [dLoc_len]; omega), dLoc_len, show 3 + l.length + j - (3 + l.length) = j by omega]
  exact h

/-- At the end: all rows, the states and the doors by value. -/
theorem endD {low : List AObj} {E : Env} {s s2 : List Int} {v1 v2 : Nat} {c : T_draw_Codes} {l : List T_Door} {off len : Nat} (h9 : Go.Aml.look E 9 = .sl (low.length + 2) v2 0 l.length) (h10 : Go.Aml.look E 10 = .sl (low.length + 0) v1 off len)
    (hv : ((Yc (Yd .i64) s).drop off).take len = Yc (Yd .i64) s2) :
    Xl E low (dLoc low.length s v1 c l v2) [(9, .sl (low.length + 0) 0 0 l.length), (10, .vs 1 (Yc (Yd .i64) s2))] low [⟨36, 3, Yc T_Door.enc l, 0⟩] := by
  refine Weak.trans (weak_fz (E' := [(9, .sl (low.length + 2) v2 0 l.length), (10, .sl (low.length + 0) v1 off len)]) (loc1 := [sO s v1, cO c, lO (low.length + 3) l v2]) (rows := dRows l) (loc2 := [sO s v1, cO c, ⟨36, 3, Yc T_Door.enc l, v2⟩]) rfl ?_ ?_ rfl ?_) ?_
  · intro o ho
    unfold dRows at ho
    obtain ⟨d, _, rfl⟩ := List.mem_map.1 ho
    exact lt_map (fun _ => .int _ _)
  · refine ⟨?_, ?_, trivial⟩
    · rw [h9]; exact .low _ (.sl _ _ _ _ (by simp))
    · rw [h10]; exact .low _ (.sl _ _ _ _ (by simp))
  · intro i a b ha hb
    match i, ha, hb with
    | 0, ha, hb =>
      simp at ha hb; subst ha; subst hb
      refine ⟨rfl, rfl, rfl, rfl, fun i c e hc he => ?_⟩
      have : c = e := by rw [hc] at he; injection he
      subst this
      exact ⟨.low _ (lt_0 (lt_map (fun _ => .int _ _) _ (List.mem_of_getElem? hc))), rfl⟩
    | 1, ha, hb =>
      generalize hcc : c = c' at ha hb
      simp at ha hb; subst ha; subst hb
      refine ⟨rfl, rfl, rfl, rfl, fun i y e hc he => ?_⟩
      have : y = e := by rw [hc] at he; injection he
      subst this
      exact ⟨.low _ ((show LtObj (low.length + [sO s v1, cO c, lO (low.length + 3) l v2].length) (cO c') from ltObj_es ⟨Yb ⟨.vs _ _, .int _ _, trivial⟩, trivial⟩) _ (List.mem_of_getElem? hc)), rfl⟩
    | 2, ha, hb =>
      simp at ha hb; subst ha; subst hb
      refine ⟨rfl, rfl, rfl, by simp, fun i c' e hc he => ?_⟩
      simp only [List.getElem?_map, List.getElem?_zipIdx] at hc he
      cases hl : l[i]? with
      | none => rw [hl] at he; simp at he
      | some d =>
        rw [hl] at hc he
        simp at hc he
        subst hc; subst he
        refine ⟨?_, rfl⟩
        unfold dOwn T_Door.enc
        refine .agg _ _ rfl fun j x y hx hy => ?_
        match j, hx, hy with
        | 0, hx, hy => simp at hx hy; subst hx; subst hy; exact .low _ (.int _ _)
        | 1, hx, hy => simp at hx hy; subst hx; subst hy; exact .low _ (.int _ _)
        | 2, hx, hy =>
          simp at hx hy; subst hx; subst hy
          exact .sl i 0 d.Rests.length (sO d.Rests 0) _ (dRows_get hl) (full_take rfl)
        | j + 3, hx, hy => simp at hx
    | i + 3, ha, hb => simp at ha
  · refine Weak.trans (weak_freezeN (E' := [(9, .sl (low.length + 2) v2 0 l.length), (10, .vs 1 (Yc (Yd .i64) s2))]) (loc1 := [⟨3, 1, [], v1 + 1⟩, cO c, ⟨36, 3, Yc T_Door.enc l, v2⟩]) rfl 0 rfl (lt_map (fun _ => .int _ _)) ⟨cv_same rfl, cv_sl rfl rfl rfl hv, trivial⟩ ⟨.refl _, .refl _, .refl _, trivial⟩) ?_
    exact Vx rfl [(2, v2)] (by simp) ⟨rn_sl 0 2 rfl rfl, Vm rfl (.vs _ _), trivial⟩ ⟨⟨_, rfl, rfl, .same _ _ _ _ (ltObj_map T_Door.enc_lt)⟩, trivial⟩

theorem F_draw_Codes_DoubleDoor_own0 {p0 : T_draw_Codes} {p1 : Int} {p2 : Int} {p3 : Int} {r : T_draw_Codes × List T_Door} (hF : F_draw_Codes_DoubleDoor p0 p1 p2 p3 = some r) {low0 : List AObj} {q0 w0 : Nat} (hB : Bor low0 [q0]) {n : Nat} (hn : low0.length = n) :
    Xz Try.prog 25 [.ptr q0 w0 0 0, .int .i64 p1, .int .i64 p2, .int .i64 p3] (setL low0 [(q0, ⟨61, 2, [.agg [.vs 1 (Yc (Yd .u8) p0.l), .int .i64 p0.at_]], w0⟩)]) fun x low' => ∃ d1 d2, r.2 = [d1, d2] ∧ x = .sl (n + 2) 0 0 2 ∧ low' = setL low0 [(q0, ⟨61, 2, [.agg [.vs 1 (Yc (Yd .u8) r.1.l), .int .i64 r.1.at_]], w0⟩)] ++ [sO d1.Rests 0, sO d2.Rests 0, ⟨36, 3, Yc (dOwn n) [(d1, 0), (d2, 1)], 0⟩] := by
 refine Xc (nt := 25) (rs := [.tmp 8]) Try.func25 rfl rfl (Yg rfl) rfl ?_
 have hq0 : q0 < n := hB.ltN hn 0 rfl
 refine Vo (Q' := FnE (fun E' lw lc => ∃ d1 d2, r.2 = [d1, d2] ∧ Xl E' lw lc [(8, .sl (n + 2) 0 0 2)] (setL low0 [(q0, ⟨61, 2, [.agg [.vs 1 (Yc (Yd .u8) r.1.l), .int .i64 r.1.at_]], w0⟩)]) [sO d1.Rests 0, sO d2.Rests 0, ⟨36, 3, Yc (dOwn n) [(d1, 0), (d2, 1)], 0⟩])) ?_ ?_
 ·unfold F_draw_Codes_DoubleDoor at hF
  refine Ve ?_
  refine Vc ?_
  refine Va (rd_asN rfl) rfl ?_
  refine Vd ?_
  refine Ve ?_
  refine Vc ?_
  obtain ⟨x1, h2, hF⟩ := Xr hF
  obtain ⟨x3, h4, hF⟩ := Xr hF
  refine Va (Xs rfl) rfl ?_
  refine Va (Vi rfl) rfl ?_
  refine Vh (Xt (ps := [(q0, ⟨61, 2, [.agg [.vs 1 (Yc (Yd .u8) x1.1.l), .int .i64 x1.1.at_]], w0⟩)]) (r := .agg [.int .i64 x1.2.Road, .int .i64 x1.2.Other, .sl (n + 0) 0 0 (x1.2.Rests).length]) (os := [⟨3, 1, Yc (Yd .i64) x1.2.Rests, 0⟩]) (low1 := (setL low0 [(q0, ⟨61, 2, [.agg [.vs 1 (Yc (Yd .u8) x1.1.l), .int .i64 x1.1.at_]], w0⟩)])) (loc1 := []) (loc2 := [⟨3, 1, Yc (Yd .i64) x1.2.Rests, 0⟩]) rfl Try.call26 (F_draw_Codes_Door_ok h2 (nd1 na0 nd0) (get_B hB rfl 0 rfl) (len_app (Xq hn) rfl)) (sets_B (ps0' := [(q0, ⟨61, 2, [.agg [.vs 1 (Yc (Yd .u8) x1.1.l), .int .i64 x1.1.at_]], w0⟩)]) hB rfl 0 rfl (ltObjN hn ⟨Yb ⟨.vs _ _, .int _ _, trivial⟩, trivial⟩) rfl Ya) rfl) rfl ?_
  refine Va (Xs rfl) rfl ?_
  refine Va (Vi rfl) rfl ?_
  refine Vh (Xt (ps := [(q0, ⟨61, 2, [.agg [.vs 1 (Yc (Yd .u8) x3.1.l), .int .i64 x3.1.at_]], w0⟩)]) (r := .agg [.int .i64 x3.2.Road, .int .i64 x3.2.Other, .sl (n + 1) 0 0 (x3.2.Rests).length]) (os := [⟨3, 1, Yc (Yd .i64) x3.2.Rests, 0⟩]) (low1 := (setL low0 [(q0, ⟨61, 2, [.agg [.vs 1 (Yc (Yd .u8) x3.1.l), .int .i64 x3.1.at_]], w0⟩)])) (loc1 := [⟨3, 1, Yc (Yd .i64) x1.2.Rests, 0⟩]) (loc2 := [⟨3, 1, Yc (Yd .i64) x1.2.Rests, 0⟩, ⟨3, 1, Yc (Yd .i64) x3.2.Rests, 0⟩]) rfl Try.call26 (F_draw_Codes_Door_ok h4 (nd1 na0 nd0) (get_B hB rfl 0 rfl) (len_app (Xq hn) rfl)) (sets_B (ps0' := [(q0, ⟨61, 2, [.agg [.vs 1 (Yc (Yd .u8) x3.1.l), .int .i64 x3.1.at_]], w0⟩)]) hB rfl 0 rfl (ltObjN hn ⟨Yb ⟨.vs _ _, .int _ _, trivial⟩, trivial⟩) rfl Ya) rfl) rfl ?_
  refine Vh (vef_allocN (Xq hn) rfl tz_36 rfl rfl (Yh _) rfl) rfl ?_
  refine Vh (vef_allocN (Xq hn) rfl tz_36 rfl rfl (Yh _) rfl) rfl ?_
  refine Vh (Xn (p := .agg [.int .i64 x1.2.Road, .int .i64 x1.2.Other, .sl (n + 0) 0 0 (x1.2.Rests).length]) (e' := .agg [.int .i64 x1.2.Road, .int .i64 x1.2.Other, .sl (n + 0) 0 0 (x1.2.Rests).length]) rfl (Vk (Xq hn) rfl) rfl rfl ts_36 rfl (nt_ne rfl) rfl (Yg rfl) rfl (Xx (Xq hn) rfl)) rfl ?_
  refine Vh (Xn (p := .agg [.int .i64 x3.2.Road, .int .i64 x3.2.Other, .sl (n + 1) 0 0 (x3.2.Rests).length]) (e' := .agg [.int .i64 x3.2.Road, .int .i64 x3.2.Other, .sl (n + 1) 0 0 (x3.2.Rests).length]) rfl (Vk (Xq hn) rfl) rfl rfl ts_36 rfl (nt_ne rfl) rfl (Yg rfl) rfl (Xx (Xq hn) rfl)) rfl ?_
  refine Vd ?_
  refine Ve ?_
  refine Vc ?_
  refine Va (Vi rfl) rfl ?_
  refine Va (rd_add rfl rfl rfl) rfl ?_
  refine Va (Vi rfl) rfl ?_
  refine Va (Vf rfl tf_36_1 ts_3 (by decide)) rfl ?_
  refine Vh (Xn (p := .int .i64 (IntKind.i64.wrap (p1 + 1))) (e' := .agg [.int .i64 x1.2.Road, .int .i64 (IntKind.i64.wrap (p1 + 1)), .sl (n + 0) 0 0 (x1.2.Rests).length]) rfl (Vk (Xq hn) rfl) rfl rfl ts_3 rfl (nt_ne rfl) rfl (Yg rfl) rfl (Xx (Xq hn) rfl)) rfl ?_
  refine Va (Vf rfl tf_36_1 ts_3 (by decide)) rfl ?_
  refine Vh (Xn (p := .int .i64 p1) (e' := .agg [.int .i64 x3.2.Road, .int .i64 p1, .sl (n + 1) 0 0 (x3.2.Rests).length]) rfl (Vk (Xq hn) rfl) rfl rfl ts_3 rfl (nt_ne rfl) rfl (Yg rfl) rfl (Xx (Xq hn) rfl)) rfl ?_
  refine Vd ?_
  refine Ve ?_
  refine Vc ?_
  refine Va (rd_loadN (ds := [.int .i64 x1.2.Road, .int .i64 (IntKind.i64.wrap (p1 + 1)), .sl (n + 0) 0 0 (x1.2.Rests).length]) rfl (Vk (Xq hn) rfl) rfl ta_36 ts_36 rfl rfl rfl) rfl ?_
  refine Va (rd_loadN (ds := [.int .i64 x3.2.Road, .int .i64 p1, .sl (n + 1) 0 0 (x3.2.Rests).length]) rfl (Vk (Xq hn) rfl) rfl ta_36 ts_36 rfl rfl rfl) rfl ?_
  refine vops_weak (Vx (Xq hn) (E' := [(22, .agg [.int .i64 x1.2.Road, .int .i64 (IntKind.i64.wrap (p1 + 1)), .sl (n + 0) 0 0 (x1.2.Rests).length]), (23, .agg [.int .i64 x3.2.Road, .int .i64 p1, .sl (n + 1) 0 0 (x3.2.Rests).length])]) [(0, 0), (1, 0)] (by decide) ⟨rn_agg rfl ⟨Vm rfl (.int _ _), Vm rfl (.int _ _), rn_sl 0 0 rfl rfl, trivial⟩, rn_agg rfl ⟨Vm rfl (.int _ _), Vm rfl (.int _ _), rn_sl 1 1 rfl rfl, trivial⟩, trivial⟩ (loc' := [sO x1.2.Rests 0, sO x3.2.Rests 0]) ⟨⟨_, rfl, rfl, .same _ _ _ _ (ltObj_map (fun _ => .int _ _))⟩, ⟨_, rfl, rfl, .same _ _ _ _ (ltObj_map (fun _ => .int _ _))⟩, trivial⟩) ?_
  refine Vh (vef_lit (es := [.agg [.int .i64 x1.2.Road, .int .i64 (IntKind.i64.wrap (p1 + 1)), .sl (n + 0) 0 0 (x1.2.Rests).length], .agg [.int .i64 x3.2.Road, .int .i64 p1, .sl (n + 1) 0 0 (x3.2.Rests).length]]) ⟨rfl, rfl, rfl, rfl, trivial⟩ rfl rfl (nt_all rfl) te_23 ts_36 tz_36 rfl rfl (Yh _) (by decide)) rfl ?_
  refine Va (rd_asL (show _ = PV.sl ((setL low0 _).length + 2) 0 0 2 from rfl)) rfl ?_
  refine Vd ?_
  refine Vz ?_
  obtain rfl := Yf hF
  refine fnR ?_
  exact ⟨_, _, rfl, Vg ⟨(by rw [← Xq hn]; rfl), trivial⟩⟩
 ·rintro _ _ _ _ ⟨he, d1, d2, hr, hw⟩
  refine ⟨_, _, _, hw, ?_⟩
  exact bodyQ_all he [.sl (n + 2) 0 0 2] ⟨rfl, trivial⟩ ⟨d1, d2, hr, rfl, rfl⟩


theorem F_draw_Codes_DoubleDoor_own {p0 : T_draw_Codes} {p1 : Int} {p2 : Int} {p3 : Int} {r : T_draw_Codes × List T_Door} (hF : F_draw_Codes_DoubleDoor p0 p1 p2 p3 = some r) : ∃ d1 d2, r.2 = [d1, d2] ∧ ∀ {low : List AObj} {q0 w0 : Nat} (hnd : [q0].Nodup) (hq0 : low[q0]? = some ⟨61, 2, [.agg [.vs 1 (Yc (Yd .u8) p0.l), .int .i64 p0.at_]], w0⟩) {n : Nat} (hn : low.length = n),
    Xz Try.prog 25 [.ptr q0 w0 0 0, .int .i64 p1, .int .i64 p2, .int .i64 p3] low fun x low' => x = .sl (n + 2) 0 0 2 ∧ low' = setL low [(q0, ⟨61, 2, [.agg [.vs 1 (Yc (Yd .u8) r.1.l), .int .i64 r.1.at_]], w0⟩)] ++ [sO d1.Rests 0, sO d2.Rests 0, ⟨36, 3, Yc (dOwn n) [(d1, 0), (d2, 1)], 0⟩] := by
  have h : ∃ d1 d2, r.2 = [d1, d2] := by
    have hF' := hF
    unfold F_draw_Codes_DoubleDoor at hF'
    obtain ⟨x1, h2, hF'⟩ := Xr hF'
    obtain ⟨x3, h4, hF'⟩ := Xr hF'
    obtain rfl := Yf hF'
    exact ⟨_, _, rfl⟩
  obtain ⟨d1, d2, hd⟩ := h
  refine ⟨d1, d2, hd, fun hnd hq0 n hn => ?_⟩
  obtain ⟨h1, h2⟩ := bor_start (ps := [(_, ⟨61, 2, [.agg [.vs 1 (Yc (Yd .u8) p0.l), .int .i64 p0.at_]], _⟩)]) hnd (borC hq0 bor0)
  refine (vcalls_low h1 (F_draw_Codes_DoubleDoor_own0 hF h2 hn)).mono ?_
  rintro x low' ⟨e1, e2, he, hx, hl⟩
  rw [hd] at he
  injection he with a1 a2
  injection a2 with a2 _
  subst a1; subst a2
  exact ⟨hx, hl⟩

theorem F_law08_doors_ok {p0 : List Int} {p1 : Int} {p2 : Int} {r : List T_Door × List Int} (hF : F_law08_doors p0 p1 p2 = some r) (low : List AObj) :
    Xz Try.prog 9 [.vs 1 (Yc (Yd .u8) p0), .int .i64 p1, .int .i64 p2] low fun x low' => x = .tup [.vs 3 (Yc T_Door.enc r.1), .vs 1 (Yc (Yd .i64) r.2)] ∧ low' = low := by
 refine Xc (nt := 104) (rs := [.tmp 6, .tmp 7]) Try.func9 rfl rfl (Yg rfl) rfl ?_
 refine Vo (Q' := FnE (fun E' lw lc => Xl E' lw lc [(6, .vs 3 (Yc T_Door.enc r.1)), (7, .vs 1 (Yc (Yd .i64) r.2))] low [])) ?_ ?_
 ·unfold F_law08_doors at hF
  refine Ve ?_
  refine Vc ?_
  refine Va (rd_nv (sz := 3) (rd_asN rfl)) rfl ?_
  refine Va (rd_nv (sz := 1) (rd_asN rfl)) rfl ?_
  refine Vd ?_
  refine Ve ?_
  refine Vc ?_
  obtain ⟨x1, h2, hF⟩ := Xr hF
  refine Va (Vq rfl) rfl ?_
  refine Vh (vef_callN (r := .ptr (low.length + 0) 0 0 0) (os := [⟨61, 2, [.agg [.vs 1 (Yc (Yd .u8) x1.l), .int .i64 x1.at_]], 0⟩]) rfl Try.call22 (F_draw_New_ok h2 _ (len_app rfl rfl))) rfl ?_
  refine Va (rd_asP rfl) rfl ?_
  refine Vd ?_
  refine Ve ?_
  refine Vc ?_
  refine Vh (vef_nilsN rfl rfl 36 3 (Yh _) (rd_asN rfl)) rfl ?_
  refine Vd ?_
  refine Ve ?_
  refine Vc ?_
  refine Vh (vef_nilsN rfl rfl 3 1 (Yh _) (rd_asN rfl)) rfl ?_
  refine Vd ?_
  refine Ve ?_
  refine Ve ?_
  refine Vc ?_
  obtain ⟨x3, h4, hF⟩ := Xr hF
  refine Va (Xs rfl) rfl ?_
  refine Vh (Xt (ps := [((low.length + 0), ⟨61, 2, [.agg [.vs 1 (Yc (Yd .u8) x3.1.l), .int .i64 x3.1.at_]], 0⟩)]) (r := .int .i64 x3.2) (os := []) (low1 := low) (loc1 := [⟨61, 2, [.agg [.vs 1 (Yc (Yd .u8) x3.1.l), .int .i64 x3.1.at_]], 0⟩, ⟨36, 3, Yc T_Door.enc ([] : List T_Door), 0⟩, ⟨3, 1, Yc (Yd .i64) ([] : List Int), 0⟩]) (loc2 := [⟨61, 2, [.agg [.vs 1 (Yc (Yd .u8) x3.1.l), .int .i64 x3.1.at_]], 0⟩, ⟨36, 3, Yc T_Door.enc ([] : List T_Door), 0⟩, ⟨3, 1, Yc (Yd .i64) ([] : List Int), 0⟩]) rfl Try.call23 (F_draw_Codes_Next_ok h4 (nd1 na0 nd0) (get_N rfl rfl) (len_app rfl rfl)) (sets_own (loc2 := [⟨61, 2, [.agg [.vs 1 (Yc (Yd .u8) x3.1.l), .int .i64 x3.1.at_]], 0⟩, ⟨36, 3, Yc T_Door.enc ([] : List T_Door), 0⟩, ⟨3, 1, Yc (Yd .i64) ([] : List Int), 0⟩]) rfl 0 rfl Ya) rfl) rfl ?_
  refine Va (Vu rfl) rfl ?_
  refine Vd ?_
  refine Xf ?_
  obtain ⟨o6, ho6, hF⟩ := Xr hF
  refine Vo (vwp_loopC F_law08_doors_L1 (fun s5 E' lw lc => ∃ vs vl, Xl E' lw lc [(1, .int .i64 p1), (2, .int .i64 p2), (8, .ptr (low.length + 1) 0 0 0), (9, .sl (low.length + 2) vl 0 (s5.2.2).length), (10, .sl (low.length + 0) vs 0 (([] : List Int)).length), (11, .int .i64 s5.1)] low (dLoc low.length ([] : List Int) vs s5.2.1 s5.2.2 vl)) (fun o6 => OnlyE (.exit 0) (fun E' lw lc => ∃ vs vl, Xl E' lw lc [(1, .int .i64 p1), (2, .int .i64 p2), (8, .ptr (low.length + 1) 0 0 0), (9, .sl (low.length + 2) vl 0 (o6.2).length), (10, .sl (low.length + 0) vs 0 (([] : List Int)).length)] low (dLoc low.length ([] : List Int) vs o6.1 o6.2 vl))) ho6 ?_ (by rintro _ _ _ _ ⟨h, _⟩ <;> cases h) ?_) ?_
  ·exact ⟨0, 0, Vx rfl [(2, 0), (0, 0), (1, 0)] (by decide) ⟨Vm rfl (.int _ _), Vm rfl (.int _ _), rn_ptr 1 0 rfl rfl, rn_sl 2 1 rfl rfl, rn_sl 0 2 rfl rfl, Vm rfl (.int _ _), trivial⟩ ⟨⟨_, rfl, rfl, .same _ _ _ _ (ltObj_es trivial)⟩, ⟨_, rfl, rfl, .same _ _ _ _ (ltObj_es ⟨Yb ⟨.vs _ _, .int _ _, trivial⟩, trivial⟩)⟩, ⟨_, rfl, rfl, .same _ _ _ _ (ltObj_es trivial)⟩, trivial⟩⟩
  ·rintro s5 os5 _ _ _ hF ⟨vs, vl, hw⟩
   unfold F_law08_doors_L1 at hF
   refine vwp_weak hw ?_
   refine Ve ?_
   refine Ve ?_
   refine Vc ?_
   refine Va (Vi rfl) rfl ?_
   refine Va (rd_gtr rfl rfl) rfl ?_
   refine Vd ?_
   refine Vt rfl (fun c7 => ?_) (fun c7 => ?_)
   ·have hF := Xh c7 hF
    refine Xa ?_
    refine Ve ?_
    obtain ⟨o8, ho8, hF⟩ := Xr hF
    refine Vo (Q' := (fun o8 => OnlyE .normal (fun E' lw lc => ∃ vs vl, Xl E' lw lc [(1, .int .i64 p1), (2, .int .i64 p2), (8, .ptr (low.length + 1) 0 0 0), (9, .sl (low.length + 2) vl 0 (o8.2).length), (10, .sl (low.length + 0) vs 0 (([] : List Int)).length), (11, .int .i64 s5.1)] low (dLoc low.length ([] : List Int) vs o8.1 o8.2 vl))) o8) ?_ ?_
    ·replace hF := ho8
     refine Xf ?_
     refine Ve ?_
     refine Vc ?_
     obtain ⟨x9, h10, hF⟩ := Xr hF
     refine Va (Xs rfl) rfl ?_
     refine Vh (Xt (ps := [((low.length + 1), ⟨61, 2, [.agg [.vs 1 (Yc (Yd .u8) x9.1.l), .int .i64 x9.1.at_]], 0⟩)]) (r := .bool x9.2) (os := []) (low1 := low) (loc1 := (dLoc low.length ([] : List Int) vs x9.1 s5.2.2 vl)) (loc2 := (dLoc low.length ([] : List Int) vs x9.1 s5.2.2 vl)) rfl Try.call24 (F_draw_Codes_One_ok h10 (nd1 na0 nd0) (get_N rfl (k := 1) rfl) (len_app rfl dLoc_len)) (sets_own (loc2 := (dLoc low.length ([] : List Int) vs x9.1 s5.2.2 vl)) rfl 1 rfl Ya) (List.append_nil _)) rfl ?_
     refine Vd ?_
     refine Vt rfl (fun c11 => ?_) (fun c11 => ?_)
     ·have hF := Xh c11 hF
      refine Vc ?_
      obtain ⟨x12, h13, hF⟩ := Xr hF
      obtain ⟨x14, h15, hF⟩ := Xr hF
      obtain ⟨x16, h17, hF⟩ := Xr hF
      obtain ⟨d1, d2, hd, h17o⟩ := F_draw_Codes_DoubleDoor_own h17
      obtain ⟨x18, h19, hF⟩ := Xr hF
      refine Va (rd_mvL rfl) rfl ?_
      refine Va (Xs rfl) rfl ?_
      refine Va (rd_mvL rfl) rfl ?_
      refine Va (rd_lenS rfl (Vk rfl (k := 2) rfl) rfl rfl te_23) rfl ?_
      refine Va (Xs rfl) rfl ?_
      refine Vh (Xt (ps := [((low.length + 1), ⟨61, 2, [.agg [.vs 1 (Yc (Yd .u8) x12.1.l), .int .i64 x12.1.at_]], 0⟩)]) (r := .int .i64 x12.2) (os := []) (low1 := low) (loc1 := (dLoc low.length ([] : List Int) vs x12.1 s5.2.2 vl)) (loc2 := (dLoc low.length ([] : List Int) vs x12.1 s5.2.2 vl)) rfl Try.call23 (F_draw_Codes_Next_ok h13 (nd1 na0 nd0) (get_N rfl (k := 1) rfl) (len_app rfl dLoc_len)) (sets_own (loc2 := (dLoc low.length ([] : List Int) vs x12.1 s5.2.2 vl)) rfl 1 rfl Ya) (List.append_nil _)) rfl ?_
      refine Va (Xs rfl) rfl ?_
      refine Vh (Xt (ps := [((low.length + 1), ⟨61, 2, [.agg [.vs 1 (Yc (Yd .u8) x14.1.l), .int .i64 x14.1.at_]], 0⟩)]) (r := .int .i64 x14.2) (os := []) (low1 := low) (loc1 := (dLoc low.length ([] : List Int) vs x14.1 s5.2.2 vl)) (loc2 := (dLoc low.length ([] : List Int) vs x14.1 s5.2.2 vl)) rfl Try.call23 (F_draw_Codes_Next_ok h15 (nd1 na0 nd0) (get_N rfl (k := 1) rfl) (len_app rfl dLoc_len)) (sets_own (loc2 := (dLoc low.length ([] : List Int) vs x14.1 s5.2.2 vl)) rfl 1 rfl Ya) (List.append_nil _)) rfl ?_
      refine Vh (Xt (ps := [((low.length + 1), ⟨61, 2, [.agg [.vs 1 (Yc (Yd .u8) x16.1.l), .int .i64 x16.1.at_]], 0⟩)]) (r := .sl (low.length + (3 + s5.2.2.length) + 2) 0 0 2) (os := [sO d1.Rests 0, sO d2.Rests 0, ⟨36, 3, Yc (dOwn (low.length + (3 + s5.2.2.length))) [(d1, 0), (d2, 1)], 0⟩]) (low1 := low) (loc1 := (dLoc low.length ([] : List Int) vs x16.1 s5.2.2 vl)) (loc2 := (dLoc low.length ([] : List Int) vs x16.1 s5.2.2 vl) ++ [sO d1.Rests 0, sO d2.Rests 0, ⟨36, 3, Yc (dOwn (low.length + (3 + s5.2.2.length))) [(d1, 0), (d2, 1)], 0⟩]) rfl Try.call25 (h17o (nd1 na0 nd0) (get_N rfl (k := 1) rfl) (len_app rfl dLoc_len)) (sets_own (loc2 := (dLoc low.length ([] : List Int) vs x16.1 s5.2.2 vl)) rfl 1 rfl Ya) rfl) rfl ?_
      refine Vh (vef_apL (f := dOwn (low.length + 3)) (l := s5.2.2.zipIdx) (ys := x16.2.zipIdx s5.2.2.length) rfl List.length_zipIdx.symm (Vk rfl (k := 2) rfl) rfl (.inr (.inr (.inr ⟨_, _, _, _, _, rfl, (by rw [Nat.add_assoc]; exact Vk rfl (dLoc_new rfl)), rfl, rfl, (by rw [hd]; simp [dOwn]; omega)⟩))) te_23 ts_36 tb_36 (by decide) tz_36 rfl (zip_appI h19) (Xx rfl (k := 2) rfl)) rfl ?_
      refine Va (rd_asL rfl) rfl ?_
      refine Vd ?_
      obtain rfl := Yf hF
      refine Vv ?_
      refine ⟨vs, vl + 1, weak_trunc (dLoc low.length ([] : List Int) vs x16.1 x18 (vl + 1)) (loc2 := [⟨36, 3, Yc (dOwn (low.length + (3 + s5.2.2.length))) [(d1, 0), (d2, 1)], 0⟩]) ?_ ⟨rfl, rfl, rfl, congrArg (PV.sl _ _ 0) List.length_zipIdx, rfl, rfl, trivial⟩ ⟨.int _ _, .int _ _, .ptr _ _ _ _ ?_, .sl _ _ _ _ ?_, .sl _ _ _ _ ?_, .int _ _, trivial⟩ (dLoc_lt (by rw [dLoc_len]; omega))⟩
      ·obtain ⟨_, e⟩ := appI_some h19
       rw [← e, hd]
       show sO _ _ :: cO _ :: _ :: (dRows s5.2.2 ++ [_, _, _]) = sO _ _ :: cO _ :: _ :: (dRows (s5.2.2 ++ [d1, d2]) ++ [_])
       rw [← dRows_app, List.append_assoc]
       rfl
      all_goals (rw [dLoc_len]; omega)
     ·have hF := Xi c11 hF
      refine Vc ?_
      obtain ⟨x20, h21, hF⟩ := Xr hF
      obtain ⟨x22, h23, hF⟩ := Xr hF
      obtain ⟨x24, h25, hF⟩ := Xr hF
      refine Va (rd_mvL rfl) rfl ?_
      refine Va (Xs rfl) rfl ?_
      refine Va (Xs rfl) rfl ?_
      refine Vh (Xt (ps := [((low.length + 1), ⟨61, 2, [.agg [.vs 1 (Yc (Yd .u8) x20.1.l), .int .i64 x20.1.at_]], 0⟩)]) (r := .int .i64 x20.2) (os := []) (low1 := low) (loc1 := (dLoc low.length ([] : List Int) vs x20.1 s5.2.2 vl)) (loc2 := (dLoc low.length ([] : List Int) vs x20.1 s5.2.2 vl)) rfl Try.call23 (F_draw_Codes_Next_ok h21 (nd1 na0 nd0) (get_N rfl (k := 1) rfl) (len_app rfl dLoc_len)) (sets_own (loc2 := (dLoc low.length ([] : List Int) vs x20.1 s5.2.2 vl)) rfl 1 rfl Ya) (List.append_nil _)) rfl ?_
      refine Vh (Xt (ps := [((low.length + 1), ⟨61, 2, [.agg [.vs 1 (Yc (Yd .u8) x22.1.l), .int .i64 x22.1.at_]], 0⟩)]) (r := .agg [.int .i64 x22.2.Road, .int .i64 x22.2.Other, .sl (low.length + (3 + s5.2.2.length) + 0) 0 0 (x22.2.Rests).length]) (os := [⟨3, 1, Yc (Yd .i64) x22.2.Rests, 0⟩]) (low1 := low) (loc1 := (dLoc low.length ([] : List Int) vs x22.1 s5.2.2 vl)) (loc2 := (dLoc low.length ([] : List Int) vs x22.1 s5.2.2 vl) ++ [sO x22.2.Rests 0]) rfl Try.call26 (F_draw_Codes_Door_ok h23 (nd1 na0 nd0) (get_N rfl (k := 1) rfl) (len_app rfl dLoc_len)) (sets_own (loc2 := (dLoc low.length ([] : List Int) vs x22.1 s5.2.2 vl)) rfl 1 rfl Ya) rfl) rfl ?_
      refine Vh (vef_lit (es := [.agg [.int .i64 x22.2.Road, .int .i64 x22.2.Other, .sl (low.length + (3 + s5.2.2.length) + 0) 0 0 (x22.2.Rests).length]]) ⟨rfl, rfl, trivial⟩ rfl rfl (nt_all rfl) te_23 ts_36 tz_36 rfl rfl (Yh _) (by decide)) rfl ?_
      refine Vh (vef_apL (f := dOwn (low.length + 3)) (l := s5.2.2.zipIdx) (ys := [x22.2].zipIdx s5.2.2.length) rfl List.length_zipIdx.symm (Vk rfl (k := 2) rfl) rfl (.inr (.inr (.inr ⟨_, _, _, _, _, rfl, (getO_loc (by rw [List.append_assoc, List.length_append, dLoc_len]; exact dLoc_new (j := 1) rfl)), rfl, rfl, (by simp [dOwn]; omega)⟩))) te_23 ts_36 tb_36 (by decide) tz_36 rfl (zip_appI h25) (Xx rfl (k := 2) rfl)) rfl ?_
      refine Va (rd_asL rfl) rfl ?_
      refine Vd ?_
      obtain rfl := Yf hF
      refine Vv ?_
      refine ⟨vs, vl + 1, weak_trunc (dLoc low.length ([] : List Int) vs x22.1 x24 (vl + 1)) (loc2 := [⟨36, 3, [.agg [.int .i64 x22.2.Road, .int .i64 x22.2.Other, .sl (low.length + (3 + s5.2.2.length) + 0) 0 0 (x22.2.Rests).length]], 0⟩]) ?_ ⟨rfl, rfl, rfl, congrArg (PV.sl _ _ 0) List.length_zipIdx, rfl, rfl, trivial⟩ ⟨.int _ _, .int _ _, .ptr _ _ _ _ ?_, .sl _ _ _ _ ?_, .sl _ _ _ _ ?_, .int _ _, trivial⟩ (dLoc_lt (by rw [dLoc_len]; omega))⟩
      ·obtain ⟨_, e⟩ := appI_some h25
       rw [← e]
       show sO _ _ :: cO _ :: _ :: ((dRows s5.2.2 ++ [_]) ++ [_]) = sO _ _ :: cO _ :: _ :: (dRows (s5.2.2 ++ [x22.2]) ++ [_])
       rw [← dRows_app]
       rfl
      all_goals (rw [dLoc_len]; omega)
    ·rintro _ _ _ _ ⟨rfl, vs, vl, hw⟩
     refine ⟨_, _, _, hw, ?_⟩
     refine Vc ?_
     refine Va (Vi rfl) rfl ?_
     refine Va (rd_sub rfl rfl rfl) rfl ?_
     refine Va (Vu rfl) rfl ?_
     refine Vd ?_
     obtain rfl := Yf hF
     refine And.intro rfl ?_
     exact ⟨_, _, Vg ⟨rfl, rfl, rfl, rfl, rfl, rfl, trivial⟩⟩
   ·have hF := Xi c7 hF
    refine vwp_exit ?_
    obtain rfl := Yf hF
    refine And.intro rfl ?_
    exact ⟨_, _, Vg ⟨rfl, rfl, rfl, rfl, rfl, trivial⟩⟩
  ·rintro _ _ _ _ ⟨rfl, vs, vl, hw⟩
   refine ⟨_, _, _, hw, ?_⟩
   refine Ve ?_
   refine Ve ?_
   refine Vc ?_
   refine Va (Vu rfl) rfl ?_
   refine Vd ?_
   refine Xf ?_
   obtain ⟨o27, ho27, hF⟩ := Xr hF
   refine Vo (vwp_loopC (F_law08_doors_L2 o6) (fun s26 E' lw lc => ∃ vs vl, Xl E' lw lc [(1, .int .i64 p1), (2, .int .i64 p2), (8, .ptr (low.length + 1) 0 0 0), (9, .sl (low.length + 2) vl 0 (o6.2).length), (10, .sl (low.length + 0) vs 0 (s26.2.1).length), (12, .int .i64 s26.1)] low (dLoc low.length s26.2.1 vs s26.2.2 o6.2 vl)) (fun o27 => OnlyE (.exit 2) (fun E' lw lc => ∃ vs vl, Xl E' lw lc [(1, .int .i64 p1), (2, .int .i64 p2), (8, .ptr (low.length + 1) 0 0 0), (9, .sl (low.length + 2) vl 0 (o6.2).length), (10, .sl (low.length + 0) vs 0 (o27.1).length)] low (dLoc low.length o27.1 vs o27.2 o6.2 vl))) ho27 ?_ (by rintro _ _ _ _ ⟨h, _⟩ <;> cases h) ?_) ?_
   ·exact ⟨_, _, Vg ⟨rfl, rfl, rfl, rfl, rfl, rfl, trivial⟩⟩
   ·rintro s26 os26 _ _ _ hF ⟨vs, vl, hw⟩
    unfold F_law08_doors_L2 at hF
    refine vwp_weak hw ?_
    refine Ve ?_
    refine Ve ?_
    refine Vc ?_
    refine Va (Vi rfl) rfl ?_
    refine Va (rd_mvL rfl) rfl ?_
    refine Va (rd_lenS rfl (Vk rfl (k := 2) rfl) rfl rfl te_23) rfl ?_
    refine Va (Xj rfl rfl) rfl ?_
    refine Vd ?_
    refine Vt rfl (fun c28 => ?_) (fun c28 => ?_)
    ·have hF := Xh c28 hF
     refine Xa ?_
     refine Ve ?_
     refine Xf ?_
     refine Vc ?_
     obtain ⟨x29, h30, hF⟩ := Xr hF
     obtain ⟨x31, h32, hF⟩ := Xr hF
     obtain ⟨x33, h34, hF⟩ := Xr hF
     refine Va (rd_mvL rfl) rfl ?_
     refine Va (Xs rfl) rfl ?_
     refine Va (rd_mvL rfl) rfl ?_
     refine Va (Vi rfl) rfl ?_
     refine Va (rd_ixS (f := dOwn (low.length + 3)) (l := o6.2.zipIdx) rfl List.length_zipIdx.symm rfl (Vk rfl (k := 2) rfl) (zip_getI h30) te_23 ts_36) rfl ?_
     refine Va (Vf rfl tf_36_2 ts_25 (by decide)) rfl ?_
     refine Va (rd_ldL1 (f := dOwn (low.length + 3)) (l := o6.2.zipIdx) rfl (Vk rfl (k := 2) rfl) (zip_get (Xv h30).2) ta_25 rfl) rfl ?_
     refine Va (rd_lenS rfl (getO_row rfl (Xv h30).2) rfl rfl te_25) rfl ?_
     refine Va (rd_add rfl rfl rfl) rfl ?_
     refine Vh (Xt (ps := [((low.length + 1), ⟨61, 2, [.agg [.vs 1 (Yc (Yd .u8) x31.1.l), .int .i64 x31.1.at_]], 0⟩)]) (r := .int .i64 x31.2) (os := []) (low1 := low) (loc1 := (dLoc low.length s26.2.1 vs x31.1 o6.2 vl)) (loc2 := (dLoc low.length s26.2.1 vs x31.1 o6.2 vl)) rfl Try.call23 (F_draw_Codes_Next_ok h32 (nd1 na0 nd0) (get_N rfl (k := 1) rfl) (len_app rfl dLoc_len)) (sets_own (loc2 := (dLoc low.length s26.2.1 vs x31.1 o6.2 vl)) rfl 1 rfl Ya) (List.append_nil _)) rfl ?_
     refine Va (rd_sub rfl rfl rfl) rfl ?_
     refine Vh (vef_litF (es := Yc (Yd .i64) [(IntKind.i64.wrap (x31.2 - 1))]) ⟨rfl, rfl, trivial⟩ rfl rfl (nt_all rfl) te_25 ts_3 tz_3 rfl rfl (Yh _) (by decide) (lt_map (fun _ => .int _ _))) rfl ?_
     refine Vh (vef_apL (f := (Yd .i64)) (l := s26.2.1) (ys := [(IntKind.i64.wrap (x31.2 - 1))]) rfl rfl (Vk rfl (k := 0) rfl) rfl (src_vs rfl) te_25 ts_3 tb_3 (by decide) tz_3 rfl h34 (Xx rfl (k := 0) rfl)) rfl ?_
     refine Va (rd_asL rfl) rfl ?_
     refine Vd ?_
     refine Vc ?_
     refine Va (Vi rfl) rfl ?_
     refine Va (rd_add rfl rfl rfl) rfl ?_
     refine Va (Vu rfl) rfl ?_
     refine Vd ?_
     obtain rfl := Yf hF
     refine And.intro rfl ?_
     exact ⟨vs + 1, vl, Vg ⟨rfl, rfl, rfl, rfl, rfl, rfl, trivial⟩⟩
    ·have hF := Xi c28 hF
     refine vwp_exit ?_
     obtain rfl := Yf hF
     refine And.intro rfl ?_
     exact ⟨_, _, Vg ⟨rfl, rfl, rfl, rfl, rfl, trivial⟩⟩
   ·rintro _ _ _ _ ⟨rfl, vs, vl, hw⟩
    refine ⟨_, _, _, hw, ?_⟩
    refine Ve ?_
    refine Ve ?_
    refine Vc ?_
    refine Va (rd_mvL rfl) rfl ?_
    refine Va (rd_lenS rfl (Vk rfl (k := 2) rfl) rfl rfl te_23) rfl ?_
    refine Va (rd_gtr rfl rfl) rfl ?_
    refine Vd ?_
    obtain ⟨o35, ho35, hF⟩ := Xr hF
    refine Vo (Q' := (fun o35 => OnlyE .normal (fun E' lw lc => Xl E' lw lc [(9, .sl (low.length + 0) 0 0 (o35.2).length), (10, .vs 1 (Yc (Yd .i64) o35.1))] low [⟨36, 3, Yc T_Door.enc o35.2, 0⟩])) o35) ?_ ?_
    ·replace hF := ho35
     refine Vt rfl (fun c36 => ?_) (fun c36 => ?_)
     ·have hF := Xh c36 hF
      refine Ve ?_
      refine Vc ?_
      obtain ⟨x37, h38, hF⟩ := Xr hF
      obtain ⟨x39, h40, hF⟩ := Xr hF
      refine Va (rd_mvL rfl) rfl ?_
      refine Va (Vi rfl) rfl ?_
      refine Va (rd_mvL rfl) rfl ?_
      refine Va (rd_lenS rfl (Vk rfl (k := 2) rfl) rfl rfl te_23) rfl ?_
      refine Vh (Xb rfl Try.call12 (F_draw_Mod_ok h38 _)) rfl ?_
      refine Va (rd_ixS (f := dOwn (low.length + 3)) (l := o6.2.zipIdx) rfl List.length_zipIdx.symm rfl (Vk rfl (k := 2) rfl) (zip_getI h40) te_23 ts_36) rfl ?_
      refine Va (rd_asP rfl) rfl ?_
      refine Vd ?_
      refine Ve ?_
      refine Vc ?_
      obtain ⟨x41, h42, hF⟩ := Xr hF
      refine Va (Xs rfl) rfl ?_
      refine Vh (Xt (ps := [((low.length + 1), ⟨61, 2, [.agg [.vs 1 (Yc (Yd .u8) x41.1.l), .int .i64 x41.1.at_]], 0⟩)]) (r := .int .i64 x41.2) (os := []) (low1 := low) (loc1 := (dLoc low.length o27.1 vs x41.1 o6.2 vl)) (loc2 := (dLoc low.length o27.1 vs x41.1 o6.2 vl)) rfl Try.call23 (F_draw_Codes_Next_ok h42 (nd1 na0 nd0) (get_N rfl (k := 1) rfl) (len_app rfl dLoc_len)) (sets_own (loc2 := (dLoc low.length o27.1 vs x41.1 o6.2 vl)) rfl 1 rfl Ya) (List.append_nil _)) rfl ?_
      refine Vd ?_
      refine Xf ?_
      refine Ve ?_
      refine Vc ?_
      refine Va (Xw rfl rfl) rfl ?_
      refine Va (Xp rfl) rfl ?_
      refine Vd ?_
      refine Vt rfl (fun c43 => ?_) (fun c43 => ?_)
      ·have hF := Xh c43 hF
       refine Vc ?_
       refine Va (Xs rfl) rfl ?_
       refine Va (Vi rfl) rfl ?_
       refine Va (Xy rfl) rfl ?_
       refine Va (Vf rfl tf_36_1 ts_3 (by decide)) rfl ?_
       refine Vh (vef_stL (f := dOwn (low.length + 3)) (l := o6.2.zipIdx) (e := (x39, x37.toNat)) (p := .int .i64 p2) (e' := ((T_Door.mk x39.Road p2 x39.Rests), x37.toNat)) rfl (Vk rfl (k := 2) rfl) (zip_get (Xv h40).2) rfl ts_3 rfl (nt_ne rfl) (Yg rfl) rfl (Xx rfl (k := 2) (dLoc_set (Xv h40).2 rfl))) rfl ?_
       refine Vd ?_
       obtain rfl := Yf hF
       refine Vv ?_
       exact endD (congrArg (PV.sl _ _ 0) List.length_set.symm) rfl (full_take rfl)
      ·have hF := Xi c43 hF
       refine Ve ?_
       refine Vc ?_
       refine Va (Xw rfl rfl) rfl ?_
       refine Va (Xp rfl) rfl ?_
       refine Vd ?_
       refine Vt rfl (fun c44 => ?_) (fun c44 => ?_)
       ·have hF := Xh c44 hF
        obtain ⟨x45, h46, hF⟩ := Xr hF
        obtain ⟨x47, h48, hF⟩ := Xr hF
        refine vwp_drawn [[], [0], [0, 1], [0, 1, 2], [], [], [5], [5, 6], [5, 6, 7], [5, 6, 7, 8], [4, 5, 6, 7, 8, 9], [], [0, 1, 2, 3, 4, 5, 6, 7, 8, 9, 10, 11], [0, 1, 2, 3, 4, 5, 6, 7, 8, 9, 10, 11, 12]] [false, false, false, false, false, false, false, false, false, false, false, false, false, true] [(low, (dLoc low.length o27.1 vs x41.1 o6.2 vl)), (low, (dLoc low.length o27.1 vs x41.1 (o6.2.set (x37.toNat) (T_Door.mk x39.Road x39.Other (x39.Rests.set (x45.toNat) p2))) vl))] mixed (by kernel_rfl) rfl (lenAll (all1 rfl (all1 rfl all0))) rfl _ rfl rfl ?_
        refine Xm rfl rfl (Xs rfl) ?_
        refine Xm rfl rfl (Xy rfl) ?_
        refine Xm rfl rfl (Vf rfl tf_36_2 ts_25 (by decide)) ?_
        refine Xm rfl rfl (rd_ldL1 (f := dOwn (low.length + 3)) (l := o6.2.zipIdx) rfl (Vk rfl (k := 2) rfl) (zip_get (Xv h40).2) ta_25 rfl) ?_
        refine Xm rfl rfl (Vi rfl) ?_
        refine Xm rfl rfl (Xs rfl) ?_
        refine Xm rfl rfl (Xy rfl) ?_
        refine Xm rfl rfl (Vf rfl tf_36_2 ts_25 (by decide)) ?_
        refine Xm rfl rfl (rd_ldL1 (f := dOwn (low.length + 3)) (l := o6.2.zipIdx) rfl (Vk rfl (k := 2) rfl) (zip_get (Xv h40).2) ta_25 rfl) ?_
        refine Xm rfl rfl (rd_lenS rfl (getO_row rfl (Xv h40).2) rfl rfl te_25) ?_
        refine dn1 rfl rfl (nt_of (Xb rfl Try.call12 (F_draw_Mod_ok h46 _))) ?_
        refine Xm rfl rfl (Vi rfl) ?_
        refine Xm rfl rfl (rd_ixS (f := (Yd .i64)) (l := x39.Rests) rfl rfl rfl (getO_row rfl (Xv h40).2) h48 te_25 ts_3) ?_
        refine dops_ef rfl rfl rfl (vef_stL (f := (Yd .i64)) (l := x39.Rests) (p := .int .i64 p2) (e' := p2) rfl (getO_row rfl (Xv h40).2) (Xv h48).2 rfl ts_3 rfl (nt_ne rfl) (Yg rfl) rfl (by rw [Nat.add_assoc]; exact Xx rfl (dLoc_setR (Xv h40).2))) ?_
        refine dops_nil ?_
        obtain rfl := Yf hF
        refine Vv ?_
        exact endD (congrArg (PV.sl _ _ 0) List.length_set.symm) rfl (full_take rfl)
       ·have hF := Xi c44 hF
        refine Ve ?_
        refine Vc ?_
        refine Va (Xw rfl rfl) rfl ?_
        refine Va (Xp rfl) rfl ?_
        refine Vd ?_
        refine Vt rfl (fun c49 => ?_) (fun c49 => ?_)
        ·have hF := Xh c49 hF
         refine Vc ?_
         refine Va (Xs rfl) rfl ?_
         refine Va (Vi rfl) rfl ?_
         refine Va (Xy rfl) rfl ?_
         refine Va (Vf rfl tf_36_0 ts_3 (by decide)) rfl ?_
         refine Vh (vef_stL (f := dOwn (low.length + 3)) (l := o6.2.zipIdx) (e := (x39, x37.toNat)) (p := .int .i64 p2) (e' := ((T_Door.mk p2 x39.Other x39.Rests), x37.toNat)) rfl (Vk rfl (k := 2) rfl) (zip_get (Xv h40).2) rfl ts_3 rfl (nt_ne rfl) (Yg rfl) rfl (Xx rfl (k := 2) (dLoc_set (Xv h40).2 rfl))) rfl ?_
         refine Vd ?_
         obtain rfl := Yf hF
         refine Vv ?_
         exact endD (congrArg (PV.sl _ _ 0) List.length_set.symm) rfl (full_take rfl)
        ·have hF := Xi c49 hF
         refine Ve ?_
         refine Vc ?_
         refine Va (Xw rfl rfl) rfl ?_
         refine Va (Xp rfl) rfl ?_
         refine Vd ?_
         refine Vt rfl (fun c50 => ?_) (fun c50 => ?_)
         ·have hF := Xh c50 hF
          refine Vc ?_
          obtain ⟨x51, h52, hF⟩ := Xr hF
          refine Va (rd_mvL rfl) rfl ?_
          refine Va (rd_slS rfl rfl (Vk rfl (k := 0) rfl) te_25 ts_3 ⟨_, rfl⟩ rfl h52) rfl ?_
          refine Va (rd_asL rfl) rfl ?_
          refine Vd ?_
          obtain rfl := Yf hF
          refine Vv ?_
          exact endD rfl rfl (sub_take h52)
         ·have hF := Xi c50 hF
          refine Xa ?_
          obtain rfl := Yf hF
          refine Vv ?_
          exact endD rfl rfl (full_take rfl)
     ·have hF := Xi c36 hF
      refine Xa ?_
      obtain rfl := Yf hF
      refine Vv ?_
      exact endD rfl rfl (full_take rfl)
    ·rintro _ _ _ _ ⟨rfl, hw⟩
     refine ⟨_, _, _, hw, ?_⟩
     refine Ve ?_
     refine Vc ?_
     refine Va (rd_mvL rfl) rfl ?_
     refine Va (Vq rfl) rfl ?_
     refine Va (rd_asL rfl) rfl ?_
     refine Va (rd_asV rfl) rfl ?_
     refine Vd ?_
     refine Vz ?_
     obtain rfl := Yf hF
     refine fnR ?_
     refine Weak.trans (weak_freezeN (E' := [(6, .vs 3 (Yc T_Door.enc o35.2)), (7, .vs 1 (Yc (Yd .i64) o35.1))]) (loc1 := [⟨36, 3, [], 0 + 1⟩]) rfl 0 rfl (lt_map T_Door.enc_lt) ⟨cv_sl rfl rfl rfl (full_take rfl), cv_same rfl, trivial⟩ ⟨.refl _, trivial⟩) ?_
     exact Vx rfl [] (by decide) ⟨Vm rfl (.vs _ _), Vm rfl (.vs _ _), trivial⟩ trivial
 ·rintro _ _ _ _ ⟨he, hw⟩
  refine ⟨_, _, _, hw, ?_⟩
  exact Xo he [.vs 3 (Yc T_Door.enc r.1), .vs 1 (Yc (Yd .i64) r.2)] ⟨rfl, rfl, trivial⟩ ((lt_tup ⟨.vs _ _, .vs _ _, trivial⟩)) ⟨rfl, rfl⟩

end Go.Proofs.Ytnmimlcnifflbaa
