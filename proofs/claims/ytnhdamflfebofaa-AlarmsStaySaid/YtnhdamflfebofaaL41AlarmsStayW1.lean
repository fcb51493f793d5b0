/- Printed by wip/lift/lift.py: the walks that show that the program computes them. -/
import Derived.Test.YtnhdamflfebofaaR41T
import Derived.Test.YtnhdamflfebofaaAmlEE
import Derived.Test.YtnhdamflfebofaaL41D
namespace Go.Proofs.Ytnhdamflfebofaa
open Go Go.Aml Go.L
attribute [local irreducible] VRd VEf VOp VOps VWp DOps
set_option linter.unusedVariables false
open Go.Aml renaming vops_rd → Va, vwp_region → Vb, vops_skip → Vc, vops_nil → Vd, vwp_seq → Ve, rd_mvI → Vf, weak_sub → Vg, rd_mvB → Vh, vops_efE → Vi, rd_pickF → Vj, rd_pickT → Vk, rd_fieldAddr → Vl, rd_asI → Vm, vwp_monoW → Vn, vef_callP → Vo, vwp_cond → Vp, vwp_ret → Vq, vcalls_of_body → Vr, vwp_skip → Vs, rd_eql → Vt, rd_mvV → Vu, weak_pick → Vv, rd_asB → Vw, getO_N → Vx, rn_low → Vy, dops_skip → Vz, rd_load1 → Xa, onlyE → Xb, rd_extract → Xc, bodyQ_pure → Xd, vt1 → Xe, vwp_block → Xf, bifT → Xg, bifF → Xh, vops_skipX → Xi, Weak → Xj, VCalls → Xk, rd_to → Xl, rd_lenV → Xm, rd_not → Xn, getO_B → Xo, bnd → Xp, rd_mvL → Xq, getI_some → Xr, dr1 → Xs
open List renaming map → Xt
open Go.Aml.PV renaming bool → Xu
open Option.some renaming inj → Xv
open Nat renaming le_of_ble_eq_true → Xw
open Nat renaming succ_pos → Xx
open Bool renaming eq_false_or_eq_true → Xy
open List renaming length_map → Xz
set_option maxHeartbeats 4000000

theorem mixed : Try.prog.follows .mixedOrders = true := by kernel_rfl
def eqTab : EqTab := [(3, 1, []), (4, 0, []), (32, 3, [(0, 1, false, 3), (1, 1, false, 3), (2, 1, false, 3), (3, 1, false, 3), (4, 1, false, 3), (5, 1, false, 4), (6, 1, false, 4), (7, 1, false, 3), (8, 1, false, 3)])]
theorem eqTab_ok : eqTabOk Try.prog eqTab = true := by kernel_rfl
theorem eqg_32 : Try.prog.eqGuardType Try.prog.depth 32 = false := by kernel_rfl

theorem F_made_Light_ok {p0 : List Int} {r : Bool} (hF : F_made_Light p0 = some r) (low : List AObj) :
    Xk Try.prog 8 [.vs 1 (Xt (PV.int .i64) p0)] low fun x low' => x = .bool r ∧ low' = low := by
 refine Vr (nt := 6) (rs := [.tmp 2]) Try.func8 rfl rfl (Xw rfl) rfl (Vn (Q' := FnE (fun E' lw lc => Xj E' lw lc [(2, .bool r)] low [])) ?_ ?_)
 ·unfold F_made_Light at hF; refine Ve (Vb (Va (Vw rfl) rfl (Vd (Ve (Vb (Va (Vu rfl) rfl (Va (Xl (Xm rfl rfl te_22) (congrArg (fun n : Nat => PV.int .i64 (n : Int)) (Xz _))) rfl (Va (rd_leq rfl rfl) rfl ?_)))))))); refine Va (Vw rfl) rfl (Vd (Vq ?_)); obtain rfl := Xv hF; refine fnR ?_; exact Vg ⟨rfl, trivial⟩
 ·rintro _ _ _ _ ⟨he, hw⟩; refine ⟨_, _, _, hw, ?_⟩; exact Xd he [.bool r] ⟨rfl, trivial⟩ (.bool _) ⟨rfl, rfl⟩

theorem F_lists_In_ok {p0 : Int} {p1 : Int} {p2 : Int} {r : Bool} (hF : F_lists_In p0 p1 p2 = some r) (low : List AObj) :
    Xk Try.prog 35 [.int .i64 p0, .int .i64 p1, .int .i64 p2] low fun x low' => x = .bool r ∧ low' = low := by
 refine Vr (nt := 15) (rs := [.tmp 6]) Try.func35 rfl rfl (Xw rfl) rfl (Vn (Q' := FnE (fun E' lw lc => Xj E' lw lc [(6, .bool r)] low [])) ?_ ?_)
 ·unfold F_lists_In at hF; refine Ve (Vb (Va (Vw rfl) rfl (Vd (Ve (Vb ?_)))))
  rcases Xy (decide (p1 ≤ p0)) with c1 | c1
  ·have hF := Xg c1 hF; refine Va (Vf rfl) rfl (Va (Vf rfl) rfl (Va (rd_geq rfl rfl) rfl (Va (Vh rfl) rfl (Xe rfl rfl c1 (Va (Vf rfl) rfl (Xe rfl rfl c1 (Va (Vf rfl) rfl (Xe rfl rfl c1 ?_)))))))); refine Va (rd_leq rfl rfl) rfl (Va (Vk (congrArg Xu c1) rfl) rfl (Va (Vw rfl) rfl (Vd (Vq ?_)))); obtain rfl := Xv hF; refine fnR ?_; exact Vg ⟨rfl, trivial⟩
  ·have hF := Xh c1 hF; refine Va (Vf rfl) rfl (Va (Vf rfl) rfl (Va (rd_geq rfl rfl) rfl (Va (Vh rfl) rfl (Vc rfl rfl (neF c1) rfl (Vc rfl rfl (neF c1) rfl (Vc rfl rfl (neF c1) rfl (Va (Vj (congrArg Xu c1) rfl) rfl (Va (Vw rfl) rfl ?_)))))))); refine Vd (Vq ?_); obtain rfl := Xv hF; refine fnR ?_; exact Vg ⟨rfl, trivial⟩
 ·rintro _ _ _ _ ⟨he, hw⟩; refine ⟨_, _, _, hw, ?_⟩; exact Xd he [.bool r] ⟨rfl, trivial⟩ (.bool _) ⟨rfl, rfl⟩

theorem F_alarms_right_ok {p0 : T_Alarm} {r : Bool} (hF : F_alarms_right p0 = some r) (low : List AObj) :
    Xk Try.prog 46 [.agg (zA p0)] low fun x low' => x = .bool r ∧ low' = low := by
 refine Vr (nt := 46) (rs := [.tmp 2]) Try.func46 rfl rfl (Xw rfl) rfl (Vn (Q' := FnE (fun E' lw lc => Xj E' lw lc [(2, .bool r)] low [])) ?_ ?_)
 ·unfold F_alarms_right at hF; refine Ve (Vb (Vi (vef_boxN rfl rfl (v := .agg (zA p0)) rfl rfl (Xx _) rfl rfl) rfl (Va (Vw rfl) rfl (Vd (Ve (Ve (Vb (Va (Vl rfl tf_32_0 ts_3 (by decide)) rfl ?_)))))))); refine Va (Xa rfl (Vx rfl rfl) rfl ta_3 rfl) rfl (Va (Vl rfl tf_32_1 ts_3 (by decide)) rfl (Va (Xa rfl (Vx rfl rfl) rfl ta_3 rfl) rfl (Va (Vl rfl tf_32_3 ts_3 (by decide)) rfl (Va (Xa rfl (Vx rfl rfl) rfl ta_3 rfl) rfl (Va (Vl rfl tf_32_7 ts_3 (by decide)) rfl (Va (Xa rfl (Vx rfl rfl) rfl ta_3 rfl) rfl (Va (rd_buildA (vs := [(0, .int .i64 p0.Kind), (1, .int .i64 p0.Subject), (2, .int .i64 p0.Raised), (3, .int .i64 p0.Hidden)]) (ds := [.int .i64 p0.Kind, .int .i64 p0.Subject, .int .i64 p0.Raised, .int .i64 p0.Hidden]) tz_39 rfl rfl tr_39 ts_3 ⟨rfl, rfl, rfl, rfl, rfl, rfl, rfl, rfl, trivial⟩ (nt_all2 rfl) rfl) rfl (Va (Vf rfl) rfl ?_)))))))); refine Vd (Xf ?_); obtain ⟨o2, ho2, hF⟩ := Xp hF; refine Vn (vwp_loopC (F_alarms_right_L1 p0) (fun s1 E' lw lc => Xj E' lw lc [(1, .ptr (low.length + 0) 0 0 0), (13, .agg [.int .i64 p0.Kind, .int .i64 p0.Subject, .int .i64 p0.Raised, .int .i64 p0.Hidden]), (14, .int .i64 s1)] low [(zB p0 0)]) (Sum.elim (fun j3 => OnlyE .ret (fun E' lw lc => Xj E' lw lc [(2, .bool false)] low [])) (fun j4 => OnlyE (.exit 0) (fun E' lw lc => Xj E' lw lc [(1, .ptr (low.length + 0) 0 0 0)] low [(zB p0 0)]))) ho2 ?_ (by rintro (_|_) _ _ _ ⟨h, _⟩ <;> cases h) ?_) ?_
  ·exact Vg ⟨rfl, rfl, rfl, trivial⟩
  ·rintro s1 os1 _ _ _ hF hw; unfold F_alarms_right_L1 at hF; refine vwp_weak hw (Ve (Vb (Va (rd_lss rfl rfl) rfl (Vd (Ve (Vp rfl (fun c5 => ?_) (fun c5 => ?_)))))))
   ·have hF := Xg c5 hF; refine Vs (Ve (Xf (Ve (Vb ?_)))); obtain ⟨x6, h7, hF⟩ := Xp hF; refine Va (rd_ixA (l := [p0.Kind, p0.Subject, p0.Raised, p0.Hidden]) (f := (PV.int .i64)) rfl rfl h7 rfl rfl tr_39 ts_3 ta_3) rfl (Va (Vm rfl) rfl (Vd (Ve (Vb ?_)))); obtain ⟨x8, h9, hF⟩ := Xp hF; refine Va (Vf rfl) rfl (Vi (Vo rfl Try.call35 (F_lists_In_ok h9 _)) rfl (Va (Xn rfl) rfl (Vd (Vp rfl (fun c10 => ?_) (fun c10 => ?_)))))
    ·have hF := Xg c10 hF; refine Ve (Vb (Va (Vw rfl) rfl (Vd (Vq ?_)))); obtain rfl := Xv hF; refine Xb ?_; exact Vv rfl [] (by decide) ⟨Vy rfl (.bool _), trivial⟩ trivial
    ·have hF := Xh c10 hF; refine Vs (Vb (Va (rd_add rfl rfl rfl) rfl (Va (Vf rfl) rfl (Vd ?_)))); obtain rfl := Xv hF; refine Xb ?_; exact Vg ⟨rfl, rfl, rfl, trivial⟩
   ·have hF := Xh c5 hF; refine vwp_exit ?_; obtain rfl := Xv hF; refine Xb ?_; exact Vg ⟨rfl, trivial⟩
  ·rcases o2 with j3 | j4
   ·replace hF := elimL hF; rintro _ _ _ _ ⟨rfl, hw⟩; refine ⟨_, _, _, hw, ?_⟩; obtain rfl := Xv hF; refine fnR ?_; exact Vg ⟨rfl, trivial⟩
   ·replace hF := elimR hF; rintro _ _ _ _ ⟨rfl, hw⟩; refine ⟨_, _, _, hw, ?_⟩; refine Ve (Ve ?_); obtain ⟨o11, ho11, hF⟩ := Xp hF; refine Vn (Q' := (fun o11 => OnlyE .normal (fun E' lw lc => Xj E' lw lc [(1, .ptr (low.length + 0) 0 0 0), (30, .bool o11)] low [(zB p0 0)])) o11) ?_ ?_
    ·replace hF := ho11; refine Vb ?_; obtain ⟨x12, h13, hF⟩ := Xp hF
     rcases Xy (!x12) with c14 | c14
     ·have hF := Xg c14 hF; refine Va (Vl rfl tf_32_2 ts_3 (by decide)) rfl (Va (Xa rfl (Vx rfl rfl) rfl ta_3 rfl) rfl (Vi (Vo rfl Try.call35 (F_lists_In_ok h13 _)) rfl (Va (Xn rfl) rfl (Va (Vh rfl) rfl (Vc rfl rfl (neT c14) rfl (Vc rfl rfl (neT c14) rfl (Vc rfl rfl (neT c14) rfl (Vc rfl rfl (neT c14) rfl ?_)))))))); refine Va (Vk (congrArg Xu c14) rfl) rfl (Vd ?_); obtain rfl := Xv hF; refine Xb ?_; exact Vg ⟨rfl, rfl, trivial⟩
     ·have hF := Xh c14 hF; obtain ⟨x15, h16, hF⟩ := Xp hF; refine Va (Vl rfl tf_32_2 ts_3 (by decide)) rfl (Va (Xa rfl (Vx rfl rfl) rfl ta_3 rfl) rfl (Vi (Vo rfl Try.call35 (F_lists_In_ok h13 _)) rfl (Va (Xn rfl) rfl (Va (Vh rfl) rfl (Xe rfl rfl c14 (Va (Vl rfl tf_32_8 ts_3 (by decide)) rfl (Xe rfl rfl c14 (Va (Xa rfl (Vx rfl rfl) rfl ta_3 rfl) rfl ?_)))))))); refine Xe rfl rfl c14 (Vi (Vo rfl Try.call35 (F_lists_In_ok h16 _)) rfl (Xe rfl rfl c14 (Va (Xn rfl) rfl (Va (Vj (congrArg Xu c14) rfl) rfl (Vd ?_))))); obtain rfl := Xv hF; refine Xb ?_; exact Vg ⟨rfl, rfl, trivial⟩
    ·rintro _ _ _ _ ⟨rfl, hw⟩; refine ⟨_, _, _, hw, ?_⟩; refine Vp rfl (fun c17 => ?_) (fun c17 => ?_)
     ·have hF := Xg c17 hF; refine Ve (Vb (Va (Vw rfl) rfl (Vd (Vq ?_)))); obtain rfl := Xv hF; refine fnR ?_; exact Vv rfl [] (by decide) ⟨Vy rfl (.bool _), trivial⟩ trivial
     ·have hF := Xh c17 hF; refine Vs (Ve (Ve (Vb (Va (Vl rfl tf_32_5 ts_4 (by decide)) rfl (Va (Xa rfl (Vx rfl rfl) rfl ta_4 rfl) rfl (Vd (Vp rfl (fun c18 => ?_) (fun c18 => ?_))))))))
      ·have hF := Xg c18 hF; refine Ve (Vb (Va (Vl rfl tf_32_4 ts_3 (by decide)) rfl (Va (Xa rfl (Vx rfl rfl) rfl ta_3 rfl) rfl (Va (Vt rfl rfl) rfl (Va (Vw rfl) rfl (Vd (Vq ?_))))))); obtain rfl := Xv hF; refine fnR ?_; exact Vv rfl [] (by decide) ⟨Vy rfl (.bool _), trivial⟩ trivial
      ·have hF := Xh c18 hF; refine Vs (Ve (Vb ?_)); obtain ⟨x19, h20, hF⟩ := Xp hF
       rcases Xy x19 with c21 | c21
       ·have hF := Xg c21 hF; refine Va (Vl rfl tf_32_4 ts_3 (by decide)) rfl (Va (Xa rfl (Vx rfl rfl) rfl ta_3 rfl) rfl (Va (Vl rfl tf_32_3 ts_3 (by decide)) rfl (Va (Xa rfl (Vx rfl rfl) rfl ta_3 rfl) rfl (Vi (Vo rfl Try.call35 (F_lists_In_ok h20 _)) rfl (Va (Vh rfl) rfl (Xe rfl rfl c21 (Va (Vl rfl tf_32_6 ts_4 (by decide)) rfl (Xe rfl rfl c21 ?_)))))))); refine Va (Xa rfl (Vx rfl rfl) rfl ta_4 rfl) rfl (Xe rfl rfl c21 (Va (Xn rfl) rfl (Va (Vk (congrArg Xu c21) rfl) rfl (Va (Vw rfl) rfl (Vd (Vq ?_)))))); obtain rfl := Xv hF; refine fnR ?_; exact Vv rfl [] (by decide) ⟨Vy rfl (.bool _), trivial⟩ trivial
       ·have hF := Xh c21 hF; refine Va (Vl rfl tf_32_4 ts_3 (by decide)) rfl (Va (Xa rfl (Vx rfl rfl) rfl ta_3 rfl) rfl (Va (Vl rfl tf_32_3 ts_3 (by decide)) rfl (Va (Xa rfl (Vx rfl rfl) rfl ta_3 rfl) rfl (Vi (Vo rfl Try.call35 (F_lists_In_ok h20 _)) rfl (Va (Vh rfl) rfl (Vc rfl rfl (neF c21) rfl (Vc rfl rfl (neF c21) rfl (Vc rfl rfl (neF c21) rfl ?_)))))))); refine Va (Vj (congrArg Xu c21) rfl) rfl (Va (Vw rfl) rfl (Vd (Vq ?_))); obtain rfl := Xv hF; refine fnR ?_; exact Vv rfl [] (by decide) ⟨Vy rfl (.bool _), trivial⟩ trivial
 ·rintro _ _ _ _ ⟨he, hw⟩; refine ⟨_, _, _, hw, ?_⟩; exact Xd he [.bool r] ⟨rfl, trivial⟩ (.bool _) ⟨rfl, rfl⟩

theorem F_cmp_isNaN_int__ok {p0 : Int} {r : Bool} (hF : F_cmp_isNaN_int_ p0 = some r) (low : List AObj) :
    Xk Try.prog 49 [.int .i64 p0] low fun x low' => x = .bool r ∧ low' = low := by
 refine Vr (nt := 6) (rs := [.tmp 2]) Try.func49 rfl rfl (Xw rfl) rfl (Vn (Q' := FnE (fun E' lw lc => Xj E' lw lc [(2, .bool r)] low [])) ?_ ?_)
 ·unfold F_cmp_isNaN_int_ at hF; refine Ve (Vb (Va (Vw rfl) rfl (Vd (Ve (Vb (Va (Vf rfl) rfl (Va (Vf rfl) rfl (Va (rd_neq rfl rfl) rfl ?_)))))))); refine Va (Vw rfl) rfl (Vd (Vq ?_)); obtain rfl := Xv hF; refine fnR ?_; exact Vg ⟨rfl, trivial⟩
 ·rintro _ _ _ _ ⟨he, hw⟩; refine ⟨_, _, _, hw, ?_⟩; exact Xd he [.bool r] ⟨rfl, trivial⟩ (.bool _) ⟨rfl, rfl⟩

theorem F_cmp_Compare_int__ok {p0 : Int} {p1 : Int} {r : Int} (hF : F_cmp_Compare_int_ p0 p1 = some r) (low : List AObj) :
    Xk Try.prog 34 [.int .i64 p0, .int .i64 p1] low fun x low' => x = .int .i64 r ∧ low' = low := by
 refine Vr (nt := 20) (rs := [.tmp 4]) Try.func34 rfl rfl (Xw rfl) rfl (Vn (Q' := FnE (fun E' lw lc => Xj E' lw lc [(4, .int .i64 r)] low [])) ?_ ?_)
 ·unfold F_cmp_Compare_int_ at hF; refine Ve (Vb (Va (Vm rfl) rfl (Vd (Ve (Vb ?_))))); obtain ⟨x1, h2, hF⟩ := Xp hF; refine Va (Vf rfl) rfl (Vi (Vo rfl Try.call49 (F_cmp_isNaN_int__ok h2 _)) rfl (Va (Vw rfl) rfl (Vd (Ve (Vb ?_))))); obtain ⟨x3, h4, hF⟩ := Xp hF; refine Va (Vf rfl) rfl (Vi (Vo rfl Try.call49 (F_cmp_isNaN_int__ok h4 _)) rfl (Va (Vw rfl) rfl (Vd (Ve (Ve (Vb (Va (Vh rfl) rfl (Vd ?_)))))))); refine Vp rfl (fun c5 => ?_) (fun c5 => ?_)
  ·have hF := Xg c5 hF; refine Ve (Ve (Vb (Va (Vh rfl) rfl (Vd (Vp rfl (fun c6 => ?_) (fun c6 => ?_))))))
   ·have hF := Xg c6 hF; refine Ve (Vb (Va (Vm rfl) rfl (Vd (Vq ?_)))); obtain rfl := Xv hF; refine fnR ?_; exact Vg ⟨rfl, trivial⟩
   ·have hF := Xh c6 hF; refine Vs (Ve (Vb (Va (Vm rfl) rfl (Vd (Vq ?_))))); obtain rfl := Xv hF; refine fnR ?_; exact Vg ⟨rfl, trivial⟩
  ·have hF := Xh c5 hF; refine Vs (Ve (Ve (Vb (Va (Vh rfl) rfl (Vd (Vp rfl (fun c7 => ?_) (fun c7 => ?_)))))))
   ·have hF := Xg c7 hF; refine Ve (Vb (Va (Vm rfl) rfl (Vd (Vq ?_)))); obtain rfl := Xv hF; refine fnR ?_; exact Vg ⟨rfl, trivial⟩
   ·have hF := Xh c7 hF; refine Vs (Ve (Ve (Vb (Va (Vf rfl) rfl (Va (Vf rfl) rfl (Va (rd_lss rfl rfl) rfl (Vd (Vp rfl (fun c8 => ?_) (fun c8 => ?_)))))))))
    ·have hF := Xg c8 hF; refine Ve (Vb (Va (Vm rfl) rfl (Vd (Vq ?_)))); obtain rfl := Xv hF; refine fnR ?_; exact Vg ⟨rfl, trivial⟩
    ·have hF := Xh c8 hF; refine Vs (Ve (Ve (Vb (Va (Vf rfl) rfl (Va (Vf rfl) rfl (Va (rd_gtr rfl rfl) rfl (Vd (Vp rfl (fun c9 => ?_) (fun c9 => ?_)))))))))
     ·have hF := Xg c9 hF; refine Ve (Vb (Va (Vm rfl) rfl (Vd (Vq ?_)))); obtain rfl := Xv hF; refine fnR ?_; exact Vg ⟨rfl, trivial⟩
     ·have hF := Xh c9 hF; refine Vs (Ve (Vb (Va (Vm rfl) rfl (Vd (Vq ?_))))); obtain rfl := Xv hF; refine fnR ?_; exact Vg ⟨rfl, trivial⟩
 ·rintro _ _ _ _ ⟨he, hw⟩; refine ⟨_, _, _, hw, ?_⟩; exact Xd he [.int .i64 r] ⟨rfl, trivial⟩ (.int _ _) ⟨rfl, rfl⟩

theorem F_cmp_Or_int__ok {p0 : List Int} {r : Int} (hF : F_cmp_Or_int_ p0 = some r) (low : List AObj) :
    Xk Try.prog 33 [.vs 1 (Xt (PV.int .i64) p0)] low fun x low' => x = .int .i64 r ∧ low' = low := by
 refine Vr (nt := 18) (rs := [.tmp 2]) Try.func33 rfl rfl (Xw rfl) rfl (Vn (Q' := FnE (fun E' lw lc => Xj E' lw lc [(2, .int .i64 r)] low [])) ?_ ?_)
 ·unfold F_cmp_Or_int_ at hF; refine Ve (Vb (Va (Vm rfl) rfl (Vd (Ve (Vb (Va (Vm rfl) rfl (Vd (Ve ?_)))))))); refine Ve (Vb (Va (Vu rfl) rfl (Va (Xl (Xm rfl rfl te_22) (congrArg (fun n : Nat => PV.int .i64 (n : Int)) (Xz _))) rfl (Va (Vf rfl) rfl (Vd (Xf ?_)))))); obtain ⟨o2, ho2, hF⟩ := Xp hF; refine Vn (vwp_loopC (F_cmp_Or_int__L1 p0) (fun s1 E' lw lc => Xj E' lw lc [(3, .int .i64 0), (6, .vs 1 (Xt (PV.int .i64) p0)), (7, .int .i64 ((p0).length : Int)), (8, .int .i64 s1)] low []) (Sum.elim (fun j3 => OnlyE .ret (fun E' lw lc => Xj E' lw lc [(2, .int .i64 j3)] low [])) (fun j4 => OnlyE (.exit 0) (fun E' lw lc => Xj E' lw lc [(3, .int .i64 0)] low []))) ho2 ?_ (by rintro (_|_) _ _ _ ⟨h, _⟩ <;> cases h) ?_) ?_
  ·exact Vg ⟨rfl, rfl, rfl, rfl, trivial⟩
  ·rintro s1 os1 _ _ _ hF hw; unfold F_cmp_Or_int__L1 at hF; refine vwp_weak hw (Ve (Vb (Va (rd_lss rfl rfl) rfl (Vd (Ve (Vp rfl (fun c5 => ?_) (fun c5 => ?_)))))))
   ·have hF := Xg c5 hF; refine Vs (Ve (Xf (Ve (Vb ?_)))); obtain ⟨x6, h7, hF⟩ := Xp hF; refine Va (Xl (rd_ixV rfl rfl h7 te_22 ts_3) (v' := .vptr [.int .i64 x6] 0) rfl) rfl (Va (rd_loadV1 rfl ta_3 rfl) rfl (Va (Vm rfl) rfl (Vd (Ve (Vb (Va (Vf rfl) rfl (Va (Vf rfl) rfl (Va (rd_neq rfl rfl) rfl ?_)))))))); refine Vd (Vp rfl (fun c8 => ?_) (fun c8 => ?_))
    ·have hF := Xg c8 hF; refine Ve (Vb (Va (Vf rfl) rfl (Va (Vm rfl) rfl (Vd (Vq ?_))))); obtain rfl := Xv hF; refine Xb ?_; exact Vg ⟨rfl, trivial⟩
    ·have hF := Xh c8 hF; refine Vs (Vb (Va (rd_add rfl rfl rfl) rfl (Va (Vf rfl) rfl (Vd ?_)))); obtain rfl := Xv hF; refine Xb ?_; exact Vg ⟨rfl, rfl, rfl, rfl, trivial⟩
   ·have hF := Xh c5 hF; refine vwp_exit ?_; obtain rfl := Xv hF; refine Xb ?_; exact Vg ⟨rfl, trivial⟩
  ·rcases o2 with j3 | j4
   ·replace hF := elimL hF; rintro _ _ _ _ ⟨rfl, hw⟩; refine ⟨_, _, _, hw, ?_⟩; obtain rfl := Xv hF; refine fnR ?_; exact Vg ⟨rfl, trivial⟩
   ·replace hF := elimR hF; rintro _ _ _ _ ⟨rfl, hw⟩; refine ⟨_, _, _, hw, ?_⟩; refine Ve (Vb (Va (Vf rfl) rfl (Va (Vm rfl) rfl (Vd (Vq ?_))))); obtain rfl := Xv hF; refine fnR ?_; exact Vg ⟨rfl, trivial⟩
 ·rintro _ _ _ _ ⟨he, hw⟩; refine ⟨_, _, _, hw, ?_⟩; exact Xd he [.int .i64 r] ⟨rfl, trivial⟩ (.int _ _) ⟨rfl, rfl⟩

theorem F_alarms_compare_ok {p0 : T_Alarm} {p1 : T_alarms_name} {r : Int} (hF : F_alarms_compare p0 p1 = some r) (low : List AObj) :
    Xk Try.prog 37 [.agg (zA p0), .agg (zE p1)] low fun x low' => x = .int .i64 r ∧ low' = low := by
 refine Vr (nt := 17) (rs := [.tmp 4]) Try.func37 rfl rfl (Xw rfl) rfl (Vn (Q' := FnE (fun E' lw lc => Xj E' lw lc [(4, .int .i64 r)] low [])) ?_ ?_)
 ·unfold F_alarms_compare at hF; refine Ve (Vb (Vi (vef_boxN rfl rfl (v := .agg (zA p0)) rfl rfl (Xx _) rfl rfl) rfl (Vi (vef_boxN rfl rfl (v := .agg (zE p1)) rfl rfl (Xx _) rfl rfl) rfl (Va (Vm rfl) rfl (Vd (Ve ?_)))))); obtain ⟨x1, h2, hF⟩ := Xp hF; obtain ⟨x3, h4, hF⟩ := Xp hF; obtain ⟨x5, h6, hF⟩ := Xp hF; refine vwp_drawn0 [[], [0], [], [2], [0, 1, 2, 3], [], [5], [], [7], (List.range 9), (List.range 10), (List.range 11), (List.range 12)] mixed (by kernel_rfl) rfl (Xs rfl rfl (Vl rfl tf_32_0 ts_3 (by decide)) (Xs rfl rfl (Xa rfl (Vx rfl rfl) rfl ta_3 rfl) (Xs rfl rfl (Vl rfl tf_59_0 ts_3 (by decide)) (Xs rfl rfl (Xa rfl (Vx rfl rfl) rfl ta_3 rfl) (dn1 rfl rfl (nt_of (Vo rfl Try.call34 (F_cmp_Compare_int__ok h2 _))) (Xs rfl rfl (Vl rfl tf_32_1 ts_3 (by decide)) (Xs rfl rfl (Xa rfl (Vx rfl rfl) rfl ta_3 rfl) (Xs rfl rfl (Vl rfl tf_59_1 ts_3 (by decide)) ?_)))))))); refine Xs rfl rfl (Xa rfl (Vx rfl rfl) rfl ta_3 rfl) (dn1 rfl rfl (nt_of (Vo rfl Try.call34 (F_cmp_Compare_int__ok h4 _))) (dn1 rfl rfl (nt_of (vef_litF (es := Xt (PV.int .i64) [x1, x3]) ⟨rfl, rfl, rfl, rfl, trivial⟩ rfl rfl (nt_all rfl) te_22 ts_3 tz_3 rfl rfl (Xx _) (by decide) (lt_map (fun _ => .int _ _)))) (dn1 rfl rfl (nt_of (Vo rfl Try.call33 (F_cmp_Or_int__ok h6 _))) (Xs rfl rfl (Vm rfl) (dops_nil (Vq ?_)))))); obtain rfl := Xv hF; refine fnR ?_; exact Vv rfl [] (by decide) ⟨Vy rfl (.int _ _), trivial⟩ trivial
 ·rintro _ _ _ _ ⟨he, hw⟩; refine ⟨_, _, _, hw, ?_⟩; exact Xd he [.int .i64 r] ⟨rfl, trivial⟩ (.int _ _) ⟨rfl, rfl⟩

theorem F_alarms_Valid_ok {p0 : List T_Alarm} {r : Bool} (hF : F_alarms_Valid p0 = some r) (low : List AObj) :
    Xk Try.prog 26 [.vs 9 (Xt T_Alarm.enc p0)] low fun x low' => x = .bool r ∧ low' = low := by
 refine Vr (nt := 37) (rs := [.tmp 2]) Try.func26 rfl rfl (Xw rfl) rfl (Vn (Q' := FnE (fun E' lw lc => Xj E' lw lc [(2, .bool r)] low [])) ?_ ?_)
 ·unfold F_alarms_Valid at hF; refine Ve (Vb (Va (Vw rfl) rfl (Vd (Ve (Ve (Vb (Va (Vu rfl) rfl (Va (Xl (Xm rfl rfl te_27) (congrArg (fun n : Nat => PV.int .i64 (n : Int)) (Xz _))) rfl ?_)))))))); refine Va (rd_gtr rfl rfl) rfl (Vd (Vp rfl (fun c1 => ?_) (fun c1 => ?_)))
  ·have hF := Xg c1 hF; refine Ve (Vb (Va (Vw rfl) rfl (Vd (Vq ?_)))); obtain rfl := Xv hF; refine fnR ?_; exact Vg ⟨rfl, trivial⟩
  ·have hF := Xh c1 hF; refine Vs (Ve (Ve (Vb (Va (Vu rfl) rfl (Va (Xl (Xm rfl rfl te_27) (congrArg (fun n : Nat => PV.int .i64 (n : Int)) (Xz _))) rfl (Va (Vf rfl) rfl (Vd (Xf ?_)))))))); obtain ⟨o3, ho3, hF⟩ := Xp hF; refine Vn (vwp_loopC (F_alarms_Valid_L1 p0) (fun s2 E' lw lc => Xj E' lw lc [(0, .vs 9 (Xt T_Alarm.enc p0)), (8, .vs 9 (Xt T_Alarm.enc p0)), (9, .int .i64 ((p0).length : Int)), (10, .int .i64 s2)] low []) (Sum.elim (fun j4 => OnlyE .ret (fun E' lw lc => Xj E' lw lc [(2, .bool false)] low [])) (fun j5 => OnlyE (.exit 0) (fun E' lw lc => Xj E' lw lc [] low []))) ho3 ?_ (by rintro (_|_) _ _ _ ⟨h, _⟩ <;> cases h) ?_) ?_
   ·exact Vg ⟨rfl, rfl, rfl, rfl, trivial⟩
   ·rintro s2 os2 _ _ _ hF hw; unfold F_alarms_Valid_L1 at hF; refine vwp_weak hw (Ve (Vb (Va (rd_lss rfl rfl) rfl (Vd (Ve (Vp rfl (fun c6 => ?_) (fun c6 => ?_)))))))
    ·have hF := Xg c6 hF; refine Vs (Ve (Xf (Ve (Vb ?_)))); obtain ⟨x7, h8, hF⟩ := Xp hF; refine Va (Vf rfl) rfl (Va (Xl (rd_ixV rfl rfl h8 te_27 ts_32) (v' := .vptr (zA x7) 0) rfl) rfl (Va (rd_loadVN (ds := (zA x7)) rfl ta_32 ts_32 rfl rfl) rfl (Vi (vef_allocN rfl rfl tz_32 rfl rfl (Xx _) rfl) rfl (Va (Vm rfl) rfl (Vi (vef_store (p := .agg (zA x7)) (e' := .agg (zA x7)) rfl (Vx rfl rfl) rfl rfl ts_32 rfl (nt_ne rfl) rfl (Xw rfl) rfl (setO_N rfl rfl)) rfl (Vd (Ve ?_))))))); obtain ⟨o9, ho9, hF⟩ := Xp hF; refine Vn (Q' := (fun o9 => OnlyE .normal (fun E' lw lc => Xj E' lw lc [(0, .vs 9 (Xt T_Alarm.enc p0)), (8, .vs 9 (Xt T_Alarm.enc p0)), (9, .int .i64 ((p0).length : Int)), (10, .int .i64 s2), (35, .bool o9)] low [])) o9) ?_ ?_
     ·replace hF := ho9; obtain ⟨x10, h11, hF⟩ := Xp hF
      rcases Xy (!x10) with c12 | c12
      ·have hF := Xg c12 hF; refine vwp_drawn0 [[], [0], [0, 1], [0, 1, 2], [0, 1, 2, 3], [0, 1, 2, 3, 4], [0, 1, 2, 3, 4, 5], (List.range 7), (List.range 7), [0, 1, 2, 3, 4, 5, 6, 8], (List.range 10), (List.range 11), (List.range 7), [0, 1, 2, 3, 4, 5, 6, 12], (List.range 7), [0, 1, 2, 3, 4, 5, 6, 14], [0, 1, 2, 3, 4, 5, 6, 12, 13, 14, 15], (List.range 17), (List.range 18), (List.range 19), (List.range 20)] mixed (by kernel_rfl) rfl (Xs rfl rfl (rd_loadN (ds := (zA x7)) rfl (Vx rfl rfl) rfl ta_32 ts_32 rfl rfl rfl) (dn1 rfl rfl (nt_of (Vo rfl Try.call46 (F_alarms_right_ok h11 _))) (Xs rfl rfl (Xn rfl) (Xs rfl rfl (Vh rfl) (Vz rfl rfl rfl (neT c12) (Vz rfl rfl rfl (neT c12) (Vz rfl rfl rfl (neT c12) (dops_skipX rfl rfl rfl ?_)))))))); refine dops_skipX rfl rfl rfl (dops_skipX rfl rfl rfl (dops_skipX rfl rfl rfl (dops_skipX rfl rfl rfl (dops_skipX rfl rfl rfl (dops_skipX rfl rfl rfl (dops_skipX rfl rfl rfl (dops_skipX rfl rfl rfl (dops_skipX rfl rfl rfl ?_)))))))); refine dops_skipX rfl rfl rfl (dops_skipX rfl rfl rfl (Vz rfl rfl rfl (neT c12) (Xs rfl rfl (Vk (congrArg Xu c12) rfl) (dops_nil ?_)))); obtain rfl := Xv hF; refine Xb ?_; exact Vv rfl [] (by decide) ⟨Vy rfl (.vs _ _), Vy rfl (.vs _ _), Vy rfl (.int _ _), Vy rfl (.int _ _), Vy rfl (.bool _), trivial⟩ trivial
      ·have hF := Xh c12 hF
       rcases Xy (decide (0 < s2)) with c13 | c13
       ·have hF := Xg c13 hF; obtain ⟨x14, h15, hF⟩ := Xp hF; obtain ⟨x16, h17, hF⟩ := Xp hF; refine vwp_drawn0 [[], [0], [0, 1], [0, 1, 2], [0, 1, 2, 3], [0, 1, 2, 3, 4], [0, 1, 2, 3, 4, 5], (List.range 7), (List.range 7), [0, 1, 2, 3, 4, 5, 6, 8], (List.range 10), (List.range 11), (List.range 7), [0, 1, 2, 3, 4, 5, 6, 12], (List.range 7), [0, 1, 2, 3, 4, 5, 6, 14], [0, 1, 2, 3, 4, 5, 6, 12, 13, 14, 15], (List.range 17), (List.range 18), (List.range 19), (List.range 20)] mixed (by kernel_rfl) rfl (Xs rfl rfl (rd_loadN (ds := (zA x7)) rfl (Vx rfl rfl) rfl ta_32 ts_32 rfl rfl rfl) (dn1 rfl rfl (nt_of (Vo rfl Try.call46 (F_alarms_right_ok h11 _))) (Xs rfl rfl (Xn rfl) (Xs rfl rfl (Vh rfl) (dt1 rfl rfl rfl rfl c12 (Vf rfl) (dt1 rfl rfl rfl rfl c12 (rd_gtr rfl rfl) (dt1 rfl rfl rfl rfl c12 (Vh rfl) (dt1 rfl rfl rfl rfl c13 (Vu rfl) ?_)))))))); refine dt1 rfl rfl rfl rfl c13 (Vf rfl) (dt1 rfl rfl rfl rfl c13 (rd_sub rfl rfl rfl) (dt1 rfl rfl rfl rfl c13 (Xl (rd_ixV rfl rfl h15 te_27 ts_32) (v' := .vptr (zA x14) 0) rfl) (dt1 rfl rfl rfl rfl c13 (rd_loadVN (ds := (zA x14)) rfl ta_32 ts_32 rfl rfl) (dt1 rfl rfl rfl rfl c13 (Vl rfl tf_32_0 ts_3 (by decide)) (dt1 rfl rfl rfl rfl c13 (Xa rfl (Vx rfl rfl) rfl ta_3 rfl) (dt1 rfl rfl rfl rfl c13 (Vl rfl tf_32_1 ts_3 (by decide)) (dt1 rfl rfl rfl rfl c13 (Xa rfl (Vx rfl rfl) rfl ta_3 rfl) (dt1 rfl rfl rfl rfl c13 (rd_build (vs := [(0, .int .i64 x7.Kind), (1, .int .i64 x7.Subject)]) (ds := [.int .i64 x7.Kind, .int .i64 x7.Subject]) tz_59 rfl rfl tp_59 ⟨rfl, rfl, rfl, rfl, trivial⟩ (nt_all2 rfl) rfl) ?_)))))))); refine dops_takeW _ rfl rfl rfl (congrArg Xu c13) (all1 (nt_of (Vo rfl Try.call37 (F_alarms_compare_ok h17 _))) all0) (dt1 rfl rfl rfl rfl c13 (rd_geq rfl rfl) (dt1 rfl rfl rfl rfl c12 (Vk (congrArg Xu c13) rfl) (Xs rfl rfl (Vj (congrArg Xu c12) rfl) (dops_nil ?_)))); obtain rfl := Xv hF; refine Xb ?_; exact Vv rfl [] (by decide) ⟨Vy rfl (.vs _ _), Vy rfl (.vs _ _), Vy rfl (.int _ _), Vy rfl (.int _ _), Vy rfl (.bool _), trivial⟩ trivial
       ·have hF := Xh c13 hF; refine vwp_drawn0 [[], [0], [0, 1], [0, 1, 2], [0, 1, 2, 3], [0, 1, 2, 3, 4], [0, 1, 2, 3, 4, 5], (List.range 7), (List.range 7), [0, 1, 2, 3, 4, 5, 6, 8], (List.range 10), (List.range 11), (List.range 7), [0, 1, 2, 3, 4, 5, 6, 12], (List.range 7), [0, 1, 2, 3, 4, 5, 6, 14], [0, 1, 2, 3, 4, 5, 6, 12, 13, 14, 15], (List.range 17), (List.range 18), (List.range 19), (List.range 20)] mixed (by kernel_rfl) rfl (Xs rfl rfl (rd_loadN (ds := (zA x7)) rfl (Vx rfl rfl) rfl ta_32 ts_32 rfl rfl rfl) (dn1 rfl rfl (nt_of (Vo rfl Try.call46 (F_alarms_right_ok h11 _))) (Xs rfl rfl (Xn rfl) (Xs rfl rfl (Vh rfl) (dt1 rfl rfl rfl rfl c12 (Vf rfl) (dt1 rfl rfl rfl rfl c12 (rd_gtr rfl rfl) (dt1 rfl rfl rfl rfl c12 (Vh rfl) (Vz rfl rfl rfl (neF c13) ?_)))))))); refine Vz rfl rfl rfl (neF c13) (Vz rfl rfl rfl (neF c13) (Vz rfl rfl rfl (neF c13) (Vz rfl rfl rfl (neF c13) (Vz rfl rfl rfl (neF c13) (Vz rfl rfl rfl (neF c13) (Vz rfl rfl rfl (neF c13) (Vz rfl rfl rfl (neF c13) (Vz rfl rfl rfl (neF c13) ?_)))))))); refine Vz rfl rfl rfl (neF c13) (Vz rfl rfl rfl (neF c13) (dt1 rfl rfl rfl rfl c12 (Vj (congrArg Xu c13) rfl) (Xs rfl rfl (Vj (congrArg Xu c12) rfl) (dops_nil ?_)))); obtain rfl := Xv hF; refine Xb ?_; exact Vv rfl [] (by decide) ⟨Vy rfl (.vs _ _), Vy rfl (.vs _ _), Vy rfl (.int _ _), Vy rfl (.int _ _), Vy rfl (.bool _), trivial⟩ trivial
     ·rintro _ _ _ _ ⟨rfl, hw⟩; refine ⟨_, _, _, hw, ?_⟩; refine Vp rfl (fun c18 => ?_) (fun c18 => ?_)
      ·have hF := Xg c18 hF; refine Ve (Vb (Va (Vw rfl) rfl (Vd (Vq ?_)))); obtain rfl := Xv hF; refine Xb ?_; exact Vg ⟨rfl, trivial⟩
      ·have hF := Xh c18 hF; refine Vs (Vb (Va (rd_add rfl rfl rfl) rfl (Va (Vf rfl) rfl (Vd ?_)))); obtain rfl := Xv hF; refine Xb ?_; exact Vg ⟨rfl, rfl, rfl, rfl, trivial⟩
    ·have hF := Xh c6 hF; refine vwp_exit ?_; obtain rfl := Xv hF; refine Xb ?_; exact Vg trivial
   ·rcases o3 with j4 | j5
    ·replace hF := elimL hF; rintro _ _ _ _ ⟨rfl, hw⟩; refine ⟨_, _, _, hw, ?_⟩; obtain rfl := Xv hF; refine fnR ?_; exact Vg ⟨rfl, trivial⟩
    ·replace hF := elimR hF; rintro _ _ _ _ ⟨rfl, hw⟩; refine ⟨_, _, _, hw, ?_⟩; refine Ve (Vb (Va (Vw rfl) rfl (Vd (Vq ?_)))); obtain rfl := Xv hF; refine fnR ?_; exact Vg ⟨rfl, trivial⟩
 ·rintro _ _ _ _ ⟨he, hw⟩; refine ⟨_, _, _, hw, ?_⟩; exact Xd he [.bool r] ⟨rfl, trivial⟩ (.bool _) ⟨rfl, rfl⟩

theorem F_slices_Clone___api_Alarm_api_Alarm__ok {p0 : List T_Alarm} {r : List T_Alarm} (hF : F_slices_Clone___api_Alarm_api_Alarm_ p0 = some r) (low : List AObj) {n : Nat} (hn : low.length = n) :
    Xk Try.prog 39 [.vs 9 (Xt T_Alarm.enc p0)] low fun x low' => x = .sl (n + 0) 0 0 (r).length ∧ low' = low ++ [⟨32, 9, Xt T_Alarm.enc r, 0⟩] := by
 refine Vr (nt := 8) (rs := [.tmp 2]) Try.func39 rfl rfl (Xw rfl) rfl (Vn (Q' := FnE (fun E' lw lc => Xj E' lw lc [(2, .sl (n + 0) 0 0 (r).length)] low [⟨32, 9, Xt T_Alarm.enc r, 0⟩])) ?_ ?_)
 ·unfold F_slices_Clone___api_Alarm_api_Alarm_ at hF; refine Ve (Vb (Vi (vef_nilsN hn rfl 32 9 (Xx _) (rd_asN rfl)) rfl (Vd (Ve (Ve (Vb (Va (Vu rfl) rfl (vops_nilq rfl (nilq_vs rfl) rfl te_27 rfl ?_))))))))
  intro b1 hb1
  refine Vd (Vp rfl (fun c2 => ?_) (fun c2 => ?_))
  ·have hF : (some ([] : List T_Alarm)) = some _ := (show ((appI 64 ([] : List T_Alarm) p0).bind fun x3 => some x3) = (some ([] : List T_Alarm)) from by have he : p0 = [] := map_nil (hb1 c2); first | (rw [he]; rfl) | simp [he, appI]).symm.trans hF
   refine Ve (Vb (Vi (vef_nilsN hn rfl 32 9 (Xx _) (rd_asN rfl)) rfl (Vd (Vq ?_)))); obtain rfl := Xv hF; refine fnR ?_; exact Vv hn [(1, 0)] (by decide) ⟨rn_sl 0 1 rfl rfl, trivial⟩ ⟨⟨_, rfl, rfl, .same _ _ _ _ (ltObj_es trivial)⟩, trivial⟩
  ·skip
   refine Vs (Ve (Vb ?_)); obtain ⟨x3, h4, hF⟩ := Xp hF; refine Vi (vef_litN hn rfl (es := Xt T_Alarm.enc ([] : List T_Alarm)) trivial rfl rfl (nt_all rfl) te_27 ts_32 tz_32 rfl rfl (Xx _) (by decide)) rfl (Va (Vu rfl) rfl (Vi (vef_apL (f := T_Alarm.enc) (l := ([] : List T_Alarm)) (ys := p0) rfl rfl (Vx hn rfl) rfl (src_vs rfl) te_27 ts_32 tb_32 (by decide) tz_32 rfl h4 (setO_N hn rfl)) rfl (Va (rd_asL rfl) rfl (Vd (Vq ?_))))); obtain rfl := Xv hF; refine fnR ?_; exact Vv hn [(1, 0 + 1)] (by decide) ⟨rn_sl 0 1 rfl rfl, trivial⟩ ⟨⟨_, rfl, rfl, .same _ _ _ _ (ltObj_map T_Alarm.enc_lt)⟩, trivial⟩
 ·rintro _ _ _ _ ⟨he, hw⟩; refine ⟨_, _, _, hw, ?_⟩; exact bodyQ_all he [.sl (n + 0) 0 0 (r).length] ⟨rfl, trivial⟩ ⟨rfl, rfl⟩

theorem F_slices_Reverse___api_Alarm_api_Alarm__ok0 {p0 : List T_Alarm} {r : List T_Alarm} (hF : F_slices_Reverse___api_Alarm_api_Alarm_ p0 = some r) {low0 : List AObj} {q0 w0 : Nat} (hB : Bor low0 [q0]) {m0 : Nat} (hm0 : m0 = (p0).length) {n : Nat} (hn : low0.length = n) :
    Xk Try.prog 58 [.sl q0 w0 0 m0] (setL low0 [(q0, ⟨32, 9, Xt T_Alarm.enc p0, w0⟩)]) fun x low' => x = .tup [] ∧ low' = setL low0 [(q0, ⟨32, 9, Xt T_Alarm.enc r, w0⟩)] ++ [] := by
 refine Vr (nt := 28) (rs := []) Try.func58 rfl rfl (Xw rfl) rfl ?_
 have hq0 : q0 < n := hB.ltN hn 0 rfl
 refine Vn (Q' := FnE (fun E' lw lc => m0 = (r).length ∧ Xj E' lw lc [] (setL low0 [(q0, ⟨32, 9, Xt T_Alarm.enc r, w0⟩)]) [])) ?_ ?_
 ·unfold F_slices_Reverse___api_Alarm_api_Alarm_ at hF; refine Ve (Vb (Va (Xq rfl) rfl (Va (Xl (rd_lenS rfl (Xo hB rfl 0 rfl) rfl rfl te_27) (v' := PV.int .i64 ((p0).length : Int)) (congrArg (fun n : Nat => PV.int .i64 (n : Int)) hm0)) rfl (Va (rd_sub rfl rfl rfl) rfl (Va (Vm rfl) rfl (Va (Vm rfl) rfl (Vd (Xf ?_)))))))); obtain ⟨o3, ho3, hF⟩ := Xp hF; refine Vn (vwp_loopC F_slices_Reverse___api_Alarm_api_Alarm__L1 (fun s2 E' lw lc => m0 = (s2.2.2).length ∧ Xj E' lw lc [(0, .sl q0 w0 0 m0), (2, .int .i64 s2.1), (3, .int .i64 s2.2.1)] (setL low0 [(q0, ⟨32, 9, Xt T_Alarm.enc s2.2.2, w0⟩)]) []) (fun o3 => OnlyE (.exit 0) (fun E' lw lc => m0 = (o3).length ∧ Xj E' lw lc [] (setL low0 [(q0, ⟨32, 9, Xt T_Alarm.enc o3, w0⟩)]) [])) ho3 ⟨hm0, ?_⟩ (by rintro _ _ _ _ ⟨h, _⟩ <;> cases h) ?_) ?_
  ·exact Vg ⟨rfl, rfl, rfl, trivial⟩
  ·rintro s2 os2 _ _ _ hF ⟨hls2_0, hw⟩; unfold F_slices_Reverse___api_Alarm_api_Alarm__L1 at hF; refine vwp_weak hw (Ve (Ve (Vb (Va (Vf rfl) rfl (Va (Vf rfl) rfl (Va (rd_lss rfl rfl) rfl (Vd (Vp rfl (fun c4 => ?_) (fun c4 => ?_)))))))))
   ·have hF := Xg c4 hF; refine Vs (Ve (Xf ?_)); obtain ⟨x5, h6, hF⟩ := Xp hF; obtain ⟨x7, h8, hF⟩ := Xp hF; obtain ⟨x9, h10, hF⟩ := Xp hF; obtain ⟨x11, h12, hF⟩ := Xp hF; refine vwp_drawn [[], [], [], [], [], [], [4, 5], [4, 5, 6], [], [], [8, 9], [8, 9, 10], [0, 1, 4, 5, 6, 7, 8, 9, 10, 11], [0, 1, 4, 5, 6, 7, 8, 9, 10, 11, 12], (List.range 14), (List.range 15)] [false, false, false, false, false, false, false, false, false, false, false, false, false, true, false, true] [((setL low0 [(q0, ⟨32, 9, Xt T_Alarm.enc s2.2.2, w0⟩)]), []), ((setL low0 [(q0, ⟨32, 9, Xt T_Alarm.enc (s2.2.2.set ((s2.1).toNat) x5), w0⟩)]), []), ((setL low0 [(q0, ⟨32, 9, Xt T_Alarm.enc ((s2.2.2.set ((s2.1).toNat) x5).set ((s2.2.1).toNat) x7), w0⟩)]), [])] mixed (by kernel_rfl) rfl (lenAll (all1 len_setL (all1 len_setL (all1 len_setL all0)))) rfl _ rfl rfl (Xs rfl rfl (Xq rfl) (Xs rfl rfl (Vf rfl) (dops_rdW _ rfl rfl (all1 (VRd.ntl (Xq rfl)) (all1 (VRd.ntl (Xq rfl)) all0)) (dops_rdW _ rfl rfl (all1 (VRd.ntl (Vf rfl)) (all1 (VRd.ntl (Vf rfl)) all0)) (Xs rfl rfl (Xq rfl) (Xs rfl rfl (Vf rfl) (Xs rfl rfl (rd_ixS rfl hls2_0 rfl (Xo hB rfl 0 rfl) h6 te_27 ts_32) (Xs rfl rfl (rd_ldLN (ds := (zA x5)) rfl (Xo hB rfl 0 rfl) (Xr h6).2 ta_32 ts_32 rfl rfl) ?_)))))))); refine Xs rfl rfl (Xq rfl) (Xs rfl rfl (Vf rfl) (Xs rfl rfl (rd_ixS rfl hls2_0 rfl (Xo hB rfl 0 rfl) h8 te_27 ts_32) (Xs rfl rfl (rd_ldLN (ds := (zA x7)) rfl (Xo hB rfl 0 rfl) (Xr h8).2 ta_32 ts_32 rfl rfl) (Xs rfl rfl (rd_ixS rfl hls2_0 rfl (Xo hB rfl 0 rfl) h10 te_27 ts_32) (dops_ef rfl rfl rfl (vef_stL (p := .agg (zA x5)) (e' := x5) rfl (Xo hB rfl 0 rfl) (Xr h10).2 rfl ts_32 rfl (nt_ne rfl) (Xw rfl) rfl (setO_B hB rfl 0 rfl (ltObj_map T_Alarm.enc_lt) rfl)) (Xs rfl rfl (rd_ixS rfl (Eq.trans hls2_0 List.length_set.symm) rfl (Xo hB rfl 0 rfl) h12 te_27 ts_32) (dops_ef rfl rfl rfl (vef_stL (p := .agg (zA x7)) (e' := x7) rfl (Xo hB rfl 0 rfl) (Xr h12).2 rfl ts_32 rfl (nt_ne rfl) (Xw rfl) rfl (setO_B hB rfl 0 rfl (ltObj_map T_Alarm.enc_lt) rfl)) (dops_nil ?_)))))))); refine Vb (Va (Vf rfl) rfl (Va (rd_add rfl rfl rfl) rfl (Va (Vf rfl) rfl (Va (rd_sub rfl rfl rfl) rfl (Va (Vm rfl) rfl (Va (Vm rfl) rfl (Vd ?_))))))); obtain rfl := Xv hF; refine And.intro rfl (And.intro (Eq.trans (Eq.trans hls2_0 List.length_set.symm) List.length_set.symm) ?_); exact Vg ⟨rfl, rfl, rfl, trivial⟩
   ·have hF := Xh c4 hF; refine vwp_exit ?_; obtain rfl := Xv hF; refine And.intro rfl (And.intro hls2_0 ?_); exact Vg trivial
  ·rintro _ _ _ _ ⟨rfl, hl13, hw⟩; refine ⟨_, _, _, hw, ?_⟩; obtain rfl := Xv hF; refine And.intro (.inl rfl) (And.intro hl13 ?_); exact Vg trivial
 ·rintro _ _ _ _ ⟨he, hl1, hw⟩; refine ⟨_, _, _, hw, ?_⟩; exact Xd he [] trivial ((lt_tup trivial)) ⟨rfl, (List.append_nil _).symm⟩

theorem F_slices_Reverse___api_Alarm_api_Alarm__len {p0 : List T_Alarm} {r : List T_Alarm} (hF : F_slices_Reverse___api_Alarm_api_Alarm_ p0 = some r) {m0 : Nat} (hm0 : m0 = (p0).length) : m0 = (r).length ∧ True := by
  have h : LP (F_slices_Reverse___api_Alarm_api_Alarm_ p0) (fun r => m0 = (r).length ∧ True) := by
    unfold F_slices_Reverse___api_Alarm_api_Alarm_; exact (lp_bind (Q := fun o3 => m0 = (o3).length ∧ True) (lp_loop (fun s2 => m0 = (s2.2.2).length ∧ True) ⟨hm0, trivial⟩ (fun s2 ⟨hls2_0, _⟩ => by unfold F_slices_Reverse___api_Alarm_api_Alarm__L1; exact (lp_bif (fun c4 => lp_bindE fun x5 h6 => lp_bindE fun x7 h8 => lp_bindE fun x9 h10 => lp_bindE fun x11 h12 => lp_some ⟨(Eq.trans (Eq.trans hls2_0 List.length_set.symm) List.length_set.symm), trivial⟩) (fun c4 => lp_some ⟨hls2_0, trivial⟩)))) (fun o3 ⟨hl13, _⟩ => lp_some ⟨hl13, trivial⟩))
  exact h r hF

theorem F_slices_Reverse___api_Alarm_api_Alarm__ok {p0 : List T_Alarm} {r : List T_Alarm} (hF : F_slices_Reverse___api_Alarm_api_Alarm_ p0 = some r) {low : List AObj} {q0 w0 : Nat} (hnd : [q0].Nodup) {m0 : Nat} (hm0 : m0 = (p0).length) (hq0 : low[q0]? = some ⟨32, 9, Xt T_Alarm.enc p0, w0⟩) {n : Nat} (hn : low.length = n) :
    Xk Try.prog 58 [.sl q0 w0 0 m0] low fun x low' => x = .tup [] ∧ low' = setL low [(q0, ⟨32, 9, Xt T_Alarm.enc r, w0⟩)] ++ [] := by
  obtain ⟨h1, h2⟩ := bor_start (ps := [(q0, ⟨32, 9, Xt T_Alarm.enc p0, w0⟩)]) hnd (borC hq0 bor0); exact vcalls_low h1 (F_slices_Reverse___api_Alarm_api_Alarm__ok0 hF h2 hm0 hn)

section
open Go.RowKit
set_option maxHeartbeats 4000000
set_option maxRecDepth 100000
theorem ins_room32 (w : World) (b n C i vb vC : Nat) (cells vcells : Array Value) (hne : b ≠ vb) (h1 : w.heap[b]? = some (.cells cells 32 (0, 0))) (h2 : cells.size = C * 9) (h3 : w.heap[vb]? = some (.cells vcells 32 (0, 0))) (h4 : vcells.size = vC * 9) (hv1 : 1 ≤ vC) (hi : i < n) (hC : C ≤ maxLen)
    (hroom : n + 1 ≤ C) (c1 : ∀ u ∈ cells.toList.take (n * 9), u.oneCell' = true) (c2 : ∀ u ∈ vcells.toList.take 9, u.oneCell' = true) :
    Calls Try.prog 38 #[.slice (some ⟨b, 0, none⟩) n C, .int .i64 i, .slice (some ⟨vb, 0, none⟩) 1 vC] w fun e w' => e = .returned (.slice (some ⟨b, 0, none⟩) (n + 1) C) ∧
      w' = (w.drew.setCells b (((i + 1) * 9)) ((cells.toList.take (n * 9)).drop ((i * 9)))).setCells b ((i * 9)) (vcells.toList.take 9) := by
  have hC63 : C ≤ 9223372036854775807 := hC
  obtain ⟨cs, hcs⟩ : ∃ cs, cs = cells.toList.take (n * 9) := ⟨_, rfl⟩; obtain ⟨vs, hvs⟩ : ∃ vs, vs = vcells.toList.take 9 := ⟨_, rfl⟩
  have hcl : cs.length = n * 9 := by rw [hcs, List.length_take, Array.length_toList, h2]; omega
  have hvl : vs.length = 9 := by rw [hvs, List.length_take, Array.length_toList, h4]; omega
  have hrd : ∀ j v, cs[j]? = some v → w.cell? ⟨b, j, none⟩ = some v := fun j v hj => by
    rw [cell_of_heap h1, ← Array.getElem?_toList]
    rw [hcs, List.getElem?_take] at hj
    split at hj
    · exact hj
    · cases hj
  have hrv : ∀ j v, vs[j]? = some v → w.cell? ⟨vb, j, none⟩ = some v := fun j v hj => by
    rw [cell_of_heap h3, ← Array.getElem?_toList]
    rw [hvs, List.getElem?_take] at hj
    split at hj
    · exact hj
    · cases hj
  have hsp : ∀ j, j < (n + 1) * 9 → (w.cell? ⟨b, j, none⟩).isSome = true := fun j hj => by
    rw [cell_of_heap h1, Array.getElem?_eq_getElem (by omega)]; rfl
  have hfz : ∀ j, w.frozen? ⟨b, j, none⟩ = false := fun j => frozen_of_heap h1
  rw [← hcs] at c1 ⊢
  rw [← hvs] at c2 ⊢
  have hz2 : ¬ ((i : Int) = (n : Int)) := by omega
  have hov : ∀ lb cb, (callFunc 50 #[.slice (some ⟨vb, 0, none⟩) 1 vC, .slice (some ⟨b, (i + 1) * 9, none⟩) lb cb]).run Try.prog w = .ok (.value (.bool false)) w := fun lb cb => by
    rw [run_callFunc_extern Try.func50 (by kernel_rfl) (by kernel_rfl) (by kernel_rfl) (e := Extern.SlicesOverlaps.overlaps #[27, 27] #[4]) (by kernel_rfl),
      Lib.run_overlaps_apart w 27 4 32 Try.underlying27 9 Try.sizeOf32 ⟨vb, 0, none⟩ ⟨b, (i + 1) * 9, none⟩ 1 vC lb cb (fun h => hne h.symm) 32 32 _ _ (shape_of_heap h3) (shape_of_heap h1) (by omega) (frozen_of_heap h3) (frozen_of_heap h3)]
    rfl
  have hdl : (cs.drop ((i * 9))).length = (n - i) * 9 := by rw [List.length_drop, hcl]; omega
  have mixed : Try.prog.follows .mixedOrders = true := by kernel_rfl
  have hw1 : IntKind.i64.wrap ((i : Int) + 1) = (i : Int) + 1 := by rw [IntKind.wrap_i64]; omega
  have hw2 : IntKind.i64.wrap ((n : Int) + 1) = (n : Int) + 1 := by rw [IntKind.wrap_i64]; omega
  have hb1 : (0 : Int) ≤ (i : Int) + 1 := by omega
  have hin : i ≤ n := by omega
  have htn : ((i : Int) + 1).toNat = i + 1 := by omega
  have htn2 : ((n : Int) + 1).toNat = n + 1 := by omega
  have hb2 : ¬ (C = i + 1) := by omega
  have hb3 : (i : Int) ≤ (n : Int) + 1 := by omega
  have hb4 : ¬ (C = i) := by omega
  have hb5 : ¬ ((C : Int) < (n : Int) + 1) := by omega
  have hcp1 : ∀ ty dc sc, (Builtin.copy_ #[27, 27] ty #[.slice (some ⟨b, (i + 1) * 9, none⟩) (n - i) dc, .slice (some ⟨b, i * 9, none⟩) (n + 1 - i) sc]).run Try.prog w.drew = .ok (goInt (n - i : Nat)) (w.drew.setCells b (((i + 1) * 9)) (cs.drop ((i * 9)))) := fun ty dc sc =>
    run_copy_cellsK w.drew _ _ ty 32 9 b (((i + 1) * 9)) (n - i) dc ⟨b, i * 9, none⟩ (n + 1 - i) sc (n - i) (cs.drop ((i * 9))) Try.underlying27 rfl (by simp only [Nat.min_def]; split <;> omega) hdl
      (fun j v hj => by rw [Addr.add_lit]; exact hrd ((i * 9) + j) v (by rwa [List.getElem?_drop] at hj))
      (fun j hj => hsp _ (by rw [hdl] at hj; omega)) (fun j hj => hfz _) (fun v hv => c1 v (List.mem_of_mem_drop hv))
  obtain ⟨W1, hW1⟩ : ∃ W1, W1 = w.drew.setCells b (((i + 1) * 9)) (cs.drop ((i * 9))) := ⟨_, rfl⟩
  have hsp1 : ∀ k, k < (n + 1) * 9 → (W1.cell? ⟨b, k, none⟩).isSome = true := fun k hk => by
    rw [hW1]
    exact isSome_setCellsK b (cs.drop ((i * 9))) (((i + 1) * 9)) w.drew (fun j hj => hsp _ (by rw [hdl] at hj; omega)) k (hsp k hk)
  have hcp2 : ∀ (W : World), (∀ x, W.cell? x = W1.cell? x) → (∀ x, W.frozen? x = W1.frozen? x) → ∀ ty dc, (Builtin.copy_ #[27, 27] ty #[.slice (some ⟨b, i * 9, none⟩) (n + 1 - i) dc, .slice (some ⟨vb, 0, none⟩) 1 vC]).run Try.prog W = .ok (goInt (1 : Nat)) (W.setCells b ((i * 9)) vs) := fun W hWc hWf ty dc =>
    run_copy_cellsK W _ _ ty 32 9 b ((i * 9)) (n + 1 - i) dc ⟨vb, 0, none⟩ 1 vC 1 vs Try.underlying27 rfl (by simp only [Nat.min_def]; split <;> omega) (by rw [hvl])
      (fun j v hj => by
        rw [Addr.add_lit, hWc, hW1, World.cell?_setCells_out b _ _ _ _ (fun h _ => absurd h.symm hne), Nat.zero_add]
        exact hrv j v hj)
      (fun j hj => by rw [hWc]; exact hsp1 _ (by omega)) (fun j hj => by rw [hWf, hW1, World.frozen?_setCells]; exact hfz _) c2
  rw [← hW1] at hcp1
  clear hcs hvs
  go_enter Try.func38, Try.ntmps38
  go_wp2_with (simp only [hov])
  go_region_law (refine step_copy_runJ rfl _ _ 27 27 rfl _ _ (by simp [Act.eval, Act.put]) (by simp [Act.eval, Act.put]) (hcp1 _ _ _) ?_)
  go_wp2_with (at_builtin; refine wpList_copy_runJ _ rfl _ _ 27 27 rfl _ _ rfl rfl (hcp2 _ (fun _ => rfl) (fun _ => rfl) _ _) ?_)
  go_ret
  first | exact ⟨rfl, rfl⟩ | exact ⟨rfl, by rw [hW1]⟩
theorem infoE32 : (Try.prog.info? 32).map (fun i => (i.zero, i.size, i.bytes)) = some (some (Value.agg #[.int .i64 0, .int .i64 0, .int .i64 0, .int .i64 0, .int .i64 0, .bool false, .bool false, .int .i64 0, .int .i64 0]), 9, 64) := by kernel_rfl
theorem ins_grow32 (w : World) (b n C i vb vC : Nat) (cells vcells : Array Value) (h1 : w.heap[b]? = some (.cells cells 32 (0, 0))) (h2 : cells.size = C * 9) (h3 : w.heap[vb]? = some (.cells vcells 32 (0, 0))) (h4 : vcells.size = vC * 9) (hv1 : 1 ≤ vC) (hi : i < n) (hC : C ≤ maxLen)
    (hnc : n ≤ C) (hroom : C < n + 1) (hbig : (n + 1) * 64 ≤ 140737488355328) (c1 : ∀ u ∈ cells.toList.take (n * 9), u.oneCell' = true) (c2 : ∀ u ∈ vcells.toList.take 9, u.oneCell' = true) :
    Calls Try.prog 38 #[.slice (some ⟨b, 0, none⟩) n C, .int .i64 i, .slice (some ⟨vb, 0, none⟩) 1 vC] w fun e w' => e = .returned (.slice (some ⟨w.heap.size, 0, none⟩) (n + 1) (grownCap w (n + 1) C 32)) ∧
      w' = (((w.alloc (.cells (((cells.toList.take (n * 9)).take (i * 9)).toArray ++ Builtin.zeroCells ((Value.agg #[.int .i64 0, .int .i64 0, .int .i64 0, .int .i64 0, .int .i64 0, .bool false, .bool false, .int .i64 0, .int .i64 0]) : Value).cells (n + 1 - i) ++ Builtin.zeroCells ((Value.agg #[.int .i64 0, .int .i64 0, .int .i64 0, .int .i64 0, .int .i64 0, .bool false, .bool false, .int .i64 0, .int .i64 0]) : Value).cells (grownCap w (n + 1) C 32 - (n + 1))) 32)).drew.setCells w.heap.size (i * 9) (vcells.toList.take 9)).drew).setCells w.heap.size ((i + 1) * 9) ((cells.toList.take (n * 9)).drop (i * 9)) := by
  have hC63 : C ≤ 9223372036854775807 := hC
  obtain ⟨cs, hcs⟩ : ∃ cs, cs = cells.toList.take (n * 9) := ⟨_, rfl⟩; obtain ⟨vs, hvs⟩ : ∃ vs, vs = vcells.toList.take 9 := ⟨_, rfl⟩
  have hcl : cs.length = n * 9 := by rw [hcs, List.length_take, Array.length_toList, h2]; omega
  have hvl : vs.length = 9 := by rw [hvs, List.length_take, Array.length_toList, h4]; omega
  have hrd : ∀ j v, cs[j]? = some v → w.cell? ⟨b, j, none⟩ = some v := fun j v hj => by
    rw [cell_of_heap h1, ← Array.getElem?_toList]
    rw [hcs, List.getElem?_take] at hj
    split at hj
    · exact hj
    · cases hj
  have hrv : ∀ j v, vs[j]? = some v → w.cell? ⟨vb, j, none⟩ = some v := fun j v hj => by
    rw [cell_of_heap h3, ← Array.getElem?_toList]
    rw [hvs, List.getElem?_take] at hj
    split at hj
    · exact hj
    · cases hj
  rw [← hcs] at c1 ⊢
  rw [← hvs] at c2 ⊢
  obtain ⟨i0, hi0, hz0, hzs, hzb⟩ := info_parts infoE32
  have hz2 : ¬ ((i : Int) = (n : Int)) := by omega
  have hz3 : (C : Int) < (n : Int) + 1 := by omega
  have hbw : b < w.heap.size := heap_lt h1
  have hvw : vb < w.heap.size := heap_lt h3
  have hkk : (n : Int) + 1 - (i : Int) = ((n + 1 - i : Nat) : Int) := by omega
  have hik : i + (n + 1 - i) = n + 1 := by omega
  have hold : (Builtin.firstCells i0.size i (.slice (some ⟨b, 0, none⟩) i C)).run Try.prog w.drew = .ok (cs.take (i * 9)).toArray w.drew := by
    rw [hzs]
    exact run_firstCells_some w.drew 9 i ⟨b, 0, none⟩ i C (cs.take (i * 9)) (by rw [List.length_take]; omega) (fun j v hj => by
      rw [Addr.add_lit, Nat.zero_add]
      rw [List.getElem?_take] at hj
      split at hj
      · exact hrd j v hj
      · cases hj)
  have hrz : ∀ ty, (Builtin.append_ #[27, 3] ty #[.slice (some ⟨b, 0, none⟩) i C, .int .i64 ((n : Int) + 1 - (i : Int))]).run Try.prog w =
      .ok (.slice (some ⟨w.heap.size, 0, none⟩) (n + 1) (grownCap w (n + 1) C 32)) (w.drew.alloc (.cells ((cs.take (i * 9)).toArray ++ Builtin.zeroCells ((Value.agg #[.int .i64 0, .int .i64 0, .int .i64 0, .int .i64 0, .int .i64 0, .bool false, .bool false, .int .i64 0, .int .i64 0]) : Value).cells (n + 1 - i) ++ Builtin.zeroCells ((Value.agg #[.int .i64 0, .int .i64 0, .int .i64 0, .int .i64 0, .int .i64 0, .bool false, .bool false, .int .i64 0, .int .i64 0]) : Value).cells (grownCap w (n + 1) C 32 - (n + 1))) 32)) := fun ty => by
    have h := Lib.run_append_grow_zeros w 27 3 ty 32 i0 _ .i64 .i64 Try.underlying27 Try.underlying3 hi0 hz0 (some ⟨b, 0, none⟩) i C (cs.take (i * 9)) hold (n + 1 - i) (by omega) (by omega) (by omega) (by omega) (by rw [hzb]; omega) (by rw [hzb, hik]; exact growslice_fits hroom hbig)
    rw [hik] at h
    rw [hkk]
    exact h
  obtain ⟨G, hG⟩ : ∃ G, G = grownCap w (n + 1) C 32 := ⟨_, rfl⟩; obtain ⟨ROW, hROW⟩ : ∃ ROW : Array Value, ROW = (cs.take (i * 9)).toArray ++ Builtin.zeroCells ((Value.agg #[.int .i64 0, .int .i64 0, .int .i64 0, .int .i64 0, .int .i64 0, .bool false, .bool false, .int .i64 0, .int .i64 0]) : Value).cells (n + 1 - i) ++ Builtin.zeroCells ((Value.agg #[.int .i64 0, .int .i64 0, .int .i64 0, .int .i64 0, .int .i64 0, .bool false, .bool false, .int .i64 0, .int .i64 0]) : Value).cells (G - (n + 1)) := ⟨_, rfl⟩
  rw [← hG] at hrz ⊢
  rw [← hROW] at hrz ⊢
  have hzc : ((Value.agg #[.int .i64 0, .int .i64 0, .int .i64 0, .int .i64 0, .int .i64 0, .bool false, .bool false, .int .i64 0, .int .i64 0]) : Value).cells.size = 9 := by decide
  have hRl : (n + 1) * 9 ≤ ROW.size := by
    rw [hROW]
    simp only [Array.size_append, size_zeroCells, hzc, List.size_toArray, List.length_take, hcl]
    omega
  obtain ⟨W1, hW1⟩ : ∃ W1, W1 = w.drew.alloc (.cells ROW 32) := ⟨_, rfl⟩
  rw [← hW1] at hrz
  have hN : ∀ j, j < (n + 1) * 9 → (W1.cell? ⟨w.heap.size, j, none⟩).isSome = true := fun j hj => by
    rw [hW1, World.cell?_alloc_at (w := w.drew) ROW _ w.heap.size j rfl, Array.getElem?_eq_getElem (by omega)]; rfl
  have hNf : ∀ j, W1.frozen? ⟨w.heap.size, j, none⟩ = false := fun j => by rw [hW1]; exact World.frozen?_alloc_at (w := w.drew) ROW _ w.heap.size j rfl
  have hOb : ∀ j v, w.cell? ⟨b, j, none⟩ = some v → W1.cell? ⟨b, j, none⟩ = some v := fun j v h => by rw [hW1, World.cell?_alloc_past (w := w.drew) _ b j hbw]; exact h
  have hOv : ∀ j v, w.cell? ⟨vb, j, none⟩ = some v → W1.cell? ⟨vb, j, none⟩ = some v := fun j v h => by rw [hW1, World.cell?_alloc_past (w := w.drew) _ vb j hvw]; exact h
  have hcpA : ∀ (W : World), (∀ x, W.cell? x = W1.cell? x) → (∀ x, W.frozen? x = W1.frozen? x) → ∀ ty dc, (Builtin.copy_ #[27, 27] ty #[.slice (some ⟨w.heap.size, i * 9, none⟩) (n + 1 - i) dc, .slice (some ⟨vb, 0, none⟩) 1 vC]).run Try.prog W = .ok (goInt (1 : Nat)) (W.setCells w.heap.size (i * 9) vs) := fun W hWc hWf ty dc =>
    run_copy_cellsK W _ _ ty 32 9 w.heap.size (i * 9) (n + 1 - i) dc ⟨vb, 0, none⟩ 1 vC 1 vs Try.underlying27 rfl (by simp only [Nat.min_def]; split <;> omega) (by rw [hvl])
      (fun j v hj => by rw [Addr.add_lit, hWc, Nat.zero_add]; exact hOv _ v (hrv j v hj))
      (fun j hj => by rw [hWc]; exact hN _ (by omega)) (fun j hj => by rw [hWf]; exact hNf _) c2
  have hGn : n + 1 ≤ G := by rw [hG]; exact grownCap_ge w _ _ _
  have hG63 : G ≤ 9223372036854775807 := by
    have := grownCap_le_maxLen w (n + 1) C 32 (by unfold maxLen; omega)
    rw [← hG] at this
    unfold maxLen at this
    omega
  have hGi : ¬ (G = i) := by omega
  have hGim : ¬ (G = i + 1) := by omega
  have hci : ¬ (C = i) := by omega
  have hbN : b ≠ w.heap.size := by omega
  have hdl : (cs.drop (i * 9)).length = (n - i) * 9 := by rw [List.length_drop, hcl]; omega
  have hcpB : ∀ (W : World), (∀ x, W.cell? x = (W1.setCells w.heap.size (i * 9) vs).cell? x) → (∀ x, W.frozen? x = (W1.setCells w.heap.size (i * 9) vs).frozen? x) → ∀ ty dc sc, (Builtin.copy_ #[27, 27] ty #[.slice (some ⟨w.heap.size, (i + 1) * 9, none⟩) (n - i) dc, .slice (some ⟨b, i * 9, none⟩) (n - i) sc]).run Try.prog W = .ok (goInt (n - i : Nat)) (W.setCells w.heap.size ((i + 1) * 9) (cs.drop (i * 9))) := fun W hWc hWf ty dc sc =>
    run_copy_cellsK W _ _ ty 32 9 w.heap.size ((i + 1) * 9) (n - i) dc ⟨b, i * 9, none⟩ (n - i) sc (n - i) (cs.drop (i * 9)) Try.underlying27 rfl (by simp only [Nat.min_def]; split <;> omega) hdl
      (fun j v hj => by
        rw [Addr.add_lit, hWc, World.cell?_setCells_out _ _ _ _ _ (fun h _ => absurd h hbN)]
        exact hOb _ v (hrd ((i * 9) + j) v (by rwa [List.getElem?_drop] at hj)))
      (fun j hj => by rw [hWc]; exact isSome_setCellsK w.heap.size vs (i * 9) W1 (fun t ht => hN _ (by omega)) _ (hN _ (by rw [hdl] at hj; omega)))
      (fun j hj => by rw [hWf, World.frozen?_setCells]; exact hNf _) (fun v hv => c1 v (List.mem_of_mem_drop hv))
  subst hW1
  have hE1 : ∀ x, ((w.alloc (.cells ROW 32)).drew).cell? x = (w.drew.alloc (.cells ROW 32)).cell? x := fun x => rfl
  have hE2 : ∀ x, ((w.alloc (.cells ROW 32)).drew).frozen? x = (w.drew.alloc (.cells ROW 32)).frozen? x := fun x => rfl
  have hF1 : ∀ x, (((w.alloc (.cells ROW 32)).drew.setCells w.heap.size (i * 9) vs).drew).cell? x = ((w.drew.alloc (.cells ROW 32)).setCells w.heap.size (i * 9) vs).cell? x := fun x => rfl
  have hF2 : ∀ x, (((w.alloc (.cells ROW 32)).drew.setCells w.heap.size (i * 9) vs).drew).frozen? x = ((w.drew.alloc (.cells ROW 32)).setCells w.heap.size (i * 9) vs).frozen? x := fun x => rfl
  have mixed : Try.prog.follows .mixedOrders = true := by kernel_rfl
  have hw1 : IntKind.i64.wrap ((i : Int) + 1) = (i : Int) + 1 := by rw [IntKind.wrap_i64]; omega
  have hw2 : IntKind.i64.wrap ((n : Int) + 1) = (n : Int) + 1 := by rw [IntKind.wrap_i64]; omega
  have hw3 : IntKind.i64.wrap ((n : Int) + 1 - (i : Int)) = (n : Int) + 1 - (i : Int) := by rw [IntKind.wrap_i64]; omega
  have hb1 : (0 : Int) ≤ (i : Int) + 1 := by omega
  have hin : i ≤ n := by omega
  have htn : ((i : Int) + 1).toNat = i + 1 := by omega
  have hb3 : (i : Int) ≤ (n : Int) := by omega
  clear hkk hik hold hROW hG hRl hcs hvs
  go_enter Try.func38, Try.ntmps38
  go_wp2_with (first
    | (at_builtin; refine Lib.wpList_append_run _ rfl _ _ _ _ rfl _ _ rfl rfl _ _ (hrz _) ?_)
    | (at_builtin; refine wpList_copy_runJ _ rfl _ _ 27 27 rfl _ _ rfl rfl (hcpA _ hE1 hE2 _ _) ?_)
    | (at_builtin; refine wpList_copy_runJ _ rfl _ _ 27 27 rfl _ _ rfl rfl (hcpB _ (fun _ => rfl) (fun _ => rfl) _ _ _) ?_))
  go_region_law (refine step_copy_runJ rfl _ _ 27 27 rfl (.slice (some ⟨w.heap.size, (i + 1) * 9, none⟩) (n - i) (G - (i + 1))) (.slice (some ⟨b, i * 9, none⟩) (n - i) (C - i)) (by simp [Act.eval, Act.put]) (by simp [Act.eval, Act.put]) (hcpB _ hF1 hF2 3 (G - (i + 1)) (C - i)) ?_)
  go_wp2
  go_ret
  exact ⟨rfl, rfl⟩
theorem kinsert32 : KInsert Try.prog 38 32 9 64 := by
  intro w b n C i vb vC cells vcells hne h1 h2 h3 h4 hv hi hnc hC hC1 hb hb2 c1 c2
  have hcl : (cells.toList.take (n * 9)).length = n * 9 := by rw [List.length_take, Array.length_toList, h2]; omega
  have hvl : (vcells.toList.take 9).length = 9 := by rw [List.length_take, Array.length_toList, h4]; omega
  by_cases hroom : n + 1 ≤ C
  · refine (ins_room32 w b n C i vb vC cells vcells hne h1 h2 h3 h4 hv hi hC hroom c1 c2).mono ?_
    rintro e w' ⟨rfl, rfl⟩; refine ⟨b, C, rfl, ?_⟩
    have r0 := (rowPost_start (m := n * 9) h1 h2 hC (by omega)).drew
    have r1 := r0.set (o := i * 9 + 9) (vs := (cells.toList.take (n * 9)).drop (i * 9)) (by omega) (by rw [List.length_drop]; omega) (by simp only [List.length_append, List.length_take, List.length_drop, Array.length_toList]; omega)
    have r2 := r1.set (o := i * 9) (vs := vcells.toList.take 9) (by simp only [List.length_append, List.length_take, List.length_drop, Array.length_toList]; omega) (by omega) (by simp only [List.length_append, List.length_take, List.length_drop, Array.length_toList]; omega)
    rw [ins_list1 (by omega) hvl] at r2
    have e1 : ((i + 1) * 9) = i * 9 + 9 := by omega
    have e0 : (i * 9) = i * 9 := by omega
    first
      | (rw [e1, e0]; exact r2)
      | (rw [e1]; exact r2)
      | simpa only [Nat.mul_one] using r2
  · refine (ins_grow32 w b n C i vb vC cells vcells h1 h2 h3 h4 hv hi hC hnc (by omega) hb c1 c2).mono ?_
    rintro e w' ⟨rfl, rfl⟩; refine ⟨_, _, rfl, ?_⟩
    have hGn := grownCap_ge w (n + 1) C 32
    have hGm := grownCap_le_maxLen w (n + 1) C 32 (by unfold maxLen; omega)
    generalize grownCap w (n + 1) C 32 = G at hGn hGm ⊢
    have hzc : ((Value.agg #[.int .i64 0, .int .i64 0, .int .i64 0, .int .i64 0, .int .i64 0, .bool false, .bool false, .int .i64 0, .int .i64 0]) : Value).cells.size = 9 := by decide
    have hrs : ((((cells.toList.take (n * 9)).take (i * 9)).toArray ++ Builtin.zeroCells ((Value.agg #[.int .i64 0, .int .i64 0, .int .i64 0, .int .i64 0, .int .i64 0, .bool false, .bool false, .int .i64 0, .int .i64 0]) : Value).cells (n + 1 - i) ++ Builtin.zeroCells ((Value.agg #[.int .i64 0, .int .i64 0, .int .i64 0, .int .i64 0, .int .i64 0, .bool false, .bool false, .int .i64 0, .int .i64 0]) : Value).cells (G - (n + 1)))).size = G * 9 := by
      simp only [Array.size_append, size_zeroCells, hzc, List.size_toArray, List.length_take, Array.length_toList]
      omega
    have r0 := (rowPost_new (w := w) (b := b) (C := C) (m := (n + 1) * 9) (E := 32) hrs hGm (by omega)).drew
    have hul : (((((cells.toList.take (n * 9)).take (i * 9)).toArray ++ Builtin.zeroCells ((Value.agg #[.int .i64 0, .int .i64 0, .int .i64 0, .int .i64 0, .int .i64 0, .bool false, .bool false, .int .i64 0, .int .i64 0]) : Value).cells (n + 1 - i) ++ Builtin.zeroCells ((Value.agg #[.int .i64 0, .int .i64 0, .int .i64 0, .int .i64 0, .int .i64 0, .bool false, .bool false, .int .i64 0, .int .i64 0]) : Value).cells (G - (n + 1)))).toList.take ((n + 1) * 9)).length = (n + 1) * 9 := by
      rw [List.length_take, Array.length_toList, hrs]; omega
    have hut : (((((cells.toList.take (n * 9)).take (i * 9)).toArray ++ Builtin.zeroCells ((Value.agg #[.int .i64 0, .int .i64 0, .int .i64 0, .int .i64 0, .int .i64 0, .bool false, .bool false, .int .i64 0, .int .i64 0]) : Value).cells (n + 1 - i) ++ Builtin.zeroCells ((Value.agg #[.int .i64 0, .int .i64 0, .int .i64 0, .int .i64 0, .int .i64 0, .bool false, .bool false, .int .i64 0, .int .i64 0]) : Value).cells (G - (n + 1)))).toList.take ((n + 1) * 9)).take (i * 9) = (cells.toList.take (n * 9)).take (i * 9) := by
      rw [List.take_take, Nat.min_eq_left (by omega)]
      simp only [Array.toList_append, List.append_assoc]
      exact List.take_left' (by rw [List.length_take]; omega)
    generalize (((((cells.toList.take (n * 9)).take (i * 9)).toArray ++ Builtin.zeroCells ((Value.agg #[.int .i64 0, .int .i64 0, .int .i64 0, .int .i64 0, .int .i64 0, .bool false, .bool false, .int .i64 0, .int .i64 0]) : Value).cells (n + 1 - i) ++ Builtin.zeroCells ((Value.agg #[.int .i64 0, .int .i64 0, .int .i64 0, .int .i64 0, .int .i64 0, .bool false, .bool false, .int .i64 0, .int .i64 0]) : Value).cells (G - (n + 1)))).toList.take ((n + 1) * 9)) = us at r0 hul hut
    have r1 := (r0.set (o := (i * 9)) (vs := vcells.toList.take 9) (by omega) (by omega) (by simp only [List.length_append, List.length_take, List.length_drop]; omega)).drew
    have r2 := r1.set (o := (i * 9) + 9) (vs := (cells.toList.take (n * 9)).drop (i * 9)) (by simp only [List.length_append, List.length_take, List.length_drop, Array.length_toList]; omega) (by rw [List.length_drop]; omega) (by simp only [List.length_append, List.length_take, List.length_drop, Array.length_toList]; omega)
    rw [ins_list2 (by omega) hvl (by omega) hut] at r2
    have e1 : ((i + 1) * 9) = (i * 9) + 9 := by omega
    have e0 : i * 9 = (i * 9) := by omega
    first
      | (rw [e1, e0]; exact r2)
      | (rw [e1]; exact r2)
      | simpa only [Nat.mul_one] using r2
end

theorem F_slices_Insert___api_Alarm_api_Alarm_E_ok0 {p0 : List T_Alarm} {p1 : Int} {p2 : List T_Alarm} {r : List T_Alarm × List T_Alarm} (hF : F_slices_Insert___api_Alarm_api_Alarm_E p0 p1 p2 = some r) {low0 : List AObj} {q0 q1 w0 w1 : Nat} (hB : Bor low0 [q0, q1]) {m0 : Nat} (hm0 : m0 = (p0).length) {m1 : Nat} (hm1 : m1 = (p2).length) {n : Nat} (hn : low0.length = n) :
    Xk Try.prog 38 [.sl q0 w0 0 (p0).length, .int .i64 p1, .sl q1 w1 0 m1] (setL low0 [(q0, ⟨32, 9, Xt T_Alarm.enc p0, w0⟩), (q1, ⟨32, 9, Xt T_Alarm.enc p2, w1⟩)]) fun x low' => x = .sl q0 (w0 + 1) 0 (r.1).length ∧ low' = setL low0 [(q0, ⟨32, 9, Xt T_Alarm.enc r.1, w0 + 1⟩), (q1, ⟨32, 9, Xt T_Alarm.enc r.2, w1⟩)] ++ [] := by
 refine vcalls_norm (G := Nat) (X := fun γ => .sl q0 γ 0 (r.1).length) (LW := fun γ => setL low0 [(q0, ⟨32, 9, Xt T_Alarm.enc r.1, γ⟩), (q1, ⟨32, 9, Xt T_Alarm.enc r.2, w1⟩)] ++ []) ?_ fun γ => ⟨nos_B hB hn rfl rfl rfl ⟨⟨rfl, no_map T_Alarm.enc_lt (.inr (ver_up (get_B0 hB rfl 0 rfl) (Nat.lt_succ_self _)))⟩, ⟨⟨rfl, no_map T_Alarm.enc_lt (.inl rfl)⟩, trivial⟩⟩ trivial, nv_sl (get_B hB rfl 0 rfl) (get_B hB rfl 0 rfl) rfl rfl⟩; refine Vr (nt := 95) (rs := [.tmp 6]) Try.func38 rfl rfl (Xw rfl) rfl ?_
 subst hm0
 have hq0 : q0 < n := hB.ltN hn 0 rfl
 have hq1 : q1 < n := hB.ltN hn 1 rfl
 refine Vn (Q' := FnE (fun E' lw lc => ∃ g0 : Nat, m1 = (r.2).length ∧ Xj E' lw lc [(6, .sl q0 g0 0 (r.1).length)] (setL low0 [(q0, ⟨32, 9, Xt T_Alarm.enc r.1, g0⟩), (q1, ⟨32, 9, Xt T_Alarm.enc r.2, w1⟩)]) [])) ?_ ?_
 ·unfold F_slices_Insert___api_Alarm_api_Alarm_E at hF; refine Ve (Vb (Vi (vef_nilsN (lenS hn) rfl 32 9 (Xx _) (rd_asN rfl)) rfl (Vd (Ve (Vb ?_))))); obtain ⟨x2, h3, hF⟩ := Xp hF; refine Va (Xq rfl) rfl (Va (Vf rfl) rfl (Va (rd_slS rfl rfl (Xo hB rfl 0 rfl) te_27 ts_32 ⟨_, rfl⟩ rfl h3) rfl (Vd (Ve (Vb (Va (Xq rfl) rfl (Va (Xl (rd_lenS rfl (Xo hB rfl 1 rfl) rfl rfl te_27) (v' := PV.int .i64 ((p2).length : Int)) (congrArg (fun n : Nat => PV.int .i64 (n : Int)) hm1)) rfl (Va (Vm rfl) rfl ?_)))))))); refine Vd (Ve (Ve (Vb (Va (Vf rfl) rfl (Va (Vt rfl rfl) rfl (Vd (Vp rfl (fun c4 => ?_) (fun c4 => ?_))))))))
  ·have hF := Xg c4 hF; refine Ve (Vb (Va (Xq rfl) rfl (Va (rd_asL rfl) rfl (Vd (Vq ?_))))); obtain rfl := Xv hF; refine And.intro (.inr rfl) (Exists.intro w0 (And.intro hm1 ?_)); exact Vv (lenS hn) [] (by decide) ⟨Vy rfl (.sl _ _ _ _ hq0), trivial⟩ trivial
  ·have hF := Xh c4 hF; refine Vs (Ve (Vb (Va (Xq rfl) rfl (Va (rd_lenS rfl (Xo hB rfl 0 rfl) rfl rfl te_27) rfl (Va (Vm rfl) rfl (Vd (Ve (Ve ?_)))))))); refine Vb (Va (Vf rfl) rfl (Va (Vf rfl) rfl (Va (Vt rfl rfl) rfl (Vd (Vp rfl (fun c5 => ?_) (fun c5 => ?_))))))
   ·have hF := Xg c5 hF; refine Ve (Vb ?_); obtain ⟨x6, h7, hF⟩ := Xp hF; refine Va (Xq rfl) rfl (Va (Xq rfl) rfl (Vi (vef_apL (f := T_Alarm.enc) (l := p0) (ys := p2) rfl rfl (Xo hB rfl 0 rfl) rfl (src_full hm1 (Xo hB rfl 1 rfl)) te_27 ts_32 tb_32 (by decide) tz_32 rfl h7 (setO_B hB rfl 0 rfl (ltObj_map T_Alarm.enc_lt) rfl)) rfl (Va (rd_asL rfl) rfl (Vd (Vq ?_))))); obtain rfl := Xv hF; refine And.intro (.inr rfl) (Exists.intro (w0 + 1) (And.intro hm1 ?_)); exact Vv (lenS hn) [] (by decide) ⟨Vy rfl (.sl _ _ _ _ hq0), trivial⟩ trivial
   ·have hF := Xh c5 hF; refine Vs (Ve (Ve (Vb ?_))); exact none_absurd hF
 ·rintro _ _ _ _ ⟨he, g0, hl1, hw⟩; refine ⟨_, _, _, hw, ?_⟩; exact bodyQ_all he [.sl q0 g0 0 (r.1).length] ⟨rfl, trivial⟩ ⟨g0, rfl, rfl⟩

theorem F_slices_Insert___api_Alarm_api_Alarm_E_len {p0 : List T_Alarm} {p1 : Int} {p2 : List T_Alarm} {r : List T_Alarm × List T_Alarm} (hF : F_slices_Insert___api_Alarm_api_Alarm_E p0 p1 p2 = some r) {m0 : Nat} (hm0 : m0 = (p0).length) {m1 : Nat} (hm1 : m1 = (p2).length) : m1 = (r.2).length ∧ True := by
  have h : LP (F_slices_Insert___api_Alarm_api_Alarm_E p0 p1 p2) (fun r => m1 = (r.2).length ∧ True) := by
    unfold F_slices_Insert___api_Alarm_api_Alarm_E; exact (lp_bindE fun x2 h3 => lp_bif (fun c4 => lp_some ⟨hm1, trivial⟩) (fun c4 => lp_bif (fun c5 => lp_bindE fun x6 h7 => lp_some ⟨hm1, trivial⟩) (fun c5 => lp_none)))
  exact h r hF

theorem F_slices_Insert___api_Alarm_api_Alarm_E_ok {p0 : List T_Alarm} {p1 : Int} {p2 : List T_Alarm} {r : List T_Alarm × List T_Alarm} (hF : F_slices_Insert___api_Alarm_api_Alarm_E p0 p1 p2 = some r) {low : List AObj} {q0 q1 w0 w1 : Nat} (hnd : [q0, q1].Nodup) {m0 : Nat} (hm0 : m0 = (p0).length) {m1 : Nat} (hm1 : m1 = (p2).length) (hq0 : low[q0]? = some ⟨32, 9, Xt T_Alarm.enc p0, w0⟩) (hq1 : low[q1]? = some ⟨32, 9, Xt T_Alarm.enc p2, w1⟩) {n : Nat} (hn : low.length = n) :
    Xk Try.prog 38 [.sl q0 w0 0 (p0).length, .int .i64 p1, .sl q1 w1 0 m1] low fun x low' => x = .sl q0 (w0 + 1) 0 (r.1).length ∧ low' = setL low [(q0, ⟨32, 9, Xt T_Alarm.enc r.1, w0 + 1⟩), (q1, ⟨32, 9, Xt T_Alarm.enc r.2, w1⟩)] ++ [] := by
  obtain ⟨h1, h2⟩ := bor_start (ps := [(q0, ⟨32, 9, Xt T_Alarm.enc p0, w0⟩), (q1, ⟨32, 9, Xt T_Alarm.enc p2, w1⟩)]) hnd (borC hq0 (borC hq1 bor0)); exact vcalls_low h1 (F_slices_Insert___api_Alarm_api_Alarm_E_ok0 hF h2 hm0 hm1 hn)

theorem F_slices_Insert___api_Alarm_api_Alarm__ok {p0 : List T_Alarm} {p1 : Int} {p2 : List T_Alarm} {r : List T_Alarm} (hF : F_slices_Insert___api_Alarm_api_Alarm_ p0 p1 p2 = some r) {low : List AObj} {q0 q1 w0 w1 : Nat} (hnd : [q0, q1].Nodup) {m0 : Nat} (hm0 : m0 = (p0).length) {m1 : Nat} (hm1 : m1 = (p2).length) (hq0 : low[q0]? = some ⟨32, 9, Xt T_Alarm.enc p0, w0⟩) (hq1 : low[q1]? = some ⟨32, 9, Xt T_Alarm.enc p2, w1⟩) {n : Nat} (hn : low.length = n) :
    Xk Try.prog 38 [.sl q0 w0 0 (p0).length, .int .i64 p1, .sl q1 w1 0 m1] low fun x low' => x = .sl q0 (w0 + 1) 0 (r).length ∧ low' = setL low [(q0, ⟨32, 9, Xt T_Alarm.enc r, w0 + 1⟩), (q1, ⟨32, 9, Xt T_Alarm.enc p2, w1⟩)] ++ [] := by
  unfold F_slices_Insert___api_Alarm_api_Alarm_ at hF
  by_cases hc : 0 ≤ p1 ∧ p1 ≤ (p0.length : Int) ∧ p2.length = 1 ∧ (p0.length + 1) * 64 ≤ 140737488355328 ∧ (p0.length + 1) * 9 ≤ 140737488355328
  · rw [decide_eq_true hc, cond_true] at hF
    injection hF with hF
    subst hF
    obtain ⟨c0, c1, c2, c3, c4⟩ := hc
    by_cases he : p1 = (p0.length : Int)
    · have e : p0.take p1.toNat ++ p2 ++ p0.drop p1.toNat = p0 ++ p2 := by
        rw [he, Int.toNat_natCast, List.take_length, List.drop_length, List.append_nil]
      rw [e]
      refine (F_slices_Insert___api_Alarm_api_Alarm_E_ok (r := (p0 ++ p2, p2)) ?_ hnd hm0 hm1 hq0 hq1 hn).mono ?_
      · subst he
        unfold F_slices_Insert___api_Alarm_api_Alarm_E
        simp [sliI, appI, c2, c3]
      · rintro x low' ⟨rfl, rfl⟩
        exact ⟨rfl, rfl⟩
    · obtain ⟨i, rfl⟩ : ∃ i : Nat, p1 = (i : Int) := ⟨p1.toNat, by omega⟩
      obtain ⟨e0, rfl⟩ := List.length_eq_one_iff.1 c2
      have hne : q0 ≠ q1 := fun h => by simp [h] at hnd
      refine (vcalls_insert kinsert32 (by decide) hne (i := i) (by rw [Xz]; omega) hq0 hq1 (fun x hx => by obtain ⟨y, _, rfl⟩ := List.mem_map.1 hx; exact (T_Alarm.enc_lt _)) (T_Alarm.enc_lt _) (by rw [Xz]; exact c3) (by rw [Xz]; exact c4) (by rw [Xz]) hm1).mono ?_; rintro x low' ⟨rfl, rfl⟩; refine ⟨?_, ?_⟩
      · rw [Xz]
        simp only [Int.toNat_natCast, List.length_append, List.length_take, List.length_drop, List.length_cons, List.length_nil]
        congr 1
        omega
      · have hq1' : (low.set q0 ⟨32, 9, Xt T_Alarm.enc (p0.take (i : Int).toNat ++ [e0] ++ p0.drop (i : Int).toNat), w0 + 1⟩)[q1]? = some ⟨32, 9, Xt T_Alarm.enc [e0], w1⟩ := by rw [List.getElem?_set_ne hne]; exact hq1
        simp only [setL, List.append_nil]
        rw [set_same hq1']
        simp
  · rw [decide_eq_false hc, cond_false] at hF
    cases hF

theorem F_slices_BinarySearchFunc___api_Alarm_api_Alarm_alarms_name___alarms_compare_ok {p0 : List T_Alarm} {p1 : T_alarms_name} {r : Int × Bool} (hF : F_slices_BinarySearchFunc___api_Alarm_api_Alarm_alarms_name___alarms_compare p0 p1 = some r) (low : List AObj) :
    Xk Try.prog 36 [.vs 9 (Xt T_Alarm.enc p0), .agg (zE p1), .fn 37 [] []] low fun x low' => x = .tup [.int .i64 r.1, .bool r.2] ∧ low' = low := by
 refine Vr (nt := 49) (rs := [.tmp 6, .tmp 7]) Try.func36 rfl rfl (Xw rfl) rfl (Vn (Q' := FnE (fun E' lw lc => Xj E' lw lc [(6, .int .i64 r.1), (7, .bool r.2)] low [])) ?_ ?_)
 ·unfold F_slices_BinarySearchFunc___api_Alarm_api_Alarm_alarms_name___alarms_compare at hF; refine Ve (Vb (Vi (vef_boxN rfl rfl (v := .agg (zE p1)) rfl rfl (Xx _) rfl rfl) rfl (Va (Vm rfl) rfl (Va (Vw rfl) rfl (Vd (Ve (Vb (Va (Vu rfl) rfl ?_)))))))); refine Va (Xl (Xm rfl rfl te_27) (congrArg (fun n : Nat => PV.int .i64 (n : Int)) (Xz _))) rfl (Va (Vm rfl) rfl (Vd (Ve (Vb (Va (Vf rfl) rfl (Va (Vm rfl) rfl (Va (Vm rfl) rfl (Vd ?_)))))))); refine Ve (Xf ?_); obtain ⟨o2, ho2, hF⟩ := Xp hF; refine Vn (vwp_loopC (F_slices_BinarySearchFunc___api_Alarm_api_Alarm_alarms_name___alarms_compare_L1 p0 p1) (fun s1 E' lw lc => Xj E' lw lc [(0, .vs 9 (Xt T_Alarm.enc p0)), (2, .fn 37 [] []), (4, .ptr (low.length + 0) 0 0 0), (8, .int .i64 ((p0).length : Int)), (9, .int .i64 s1.2), (10, .int .i64 s1.1)] low [⟨59, 2, [.agg (zE p1)], 0⟩]) (fun o2 => OnlyE (.exit 0) (fun E' lw lc => Xj E' lw lc [(0, .vs 9 (Xt T_Alarm.enc p0)), (2, .fn 37 [] []), (4, .ptr (low.length + 0) 0 0 0), (8, .int .i64 ((p0).length : Int)), (9, .int .i64 o2)] low [⟨59, 2, [.agg (zE p1)], 0⟩])) ho2 ?_ (by rintro _ _ _ _ ⟨h, _⟩ <;> cases h) ?_) ?_
  ·exact Vg ⟨rfl, rfl, rfl, rfl, rfl, rfl, trivial⟩
  ·rintro s1 os1 _ _ _ hF hw; unfold F_slices_BinarySearchFunc___api_Alarm_api_Alarm_alarms_name___alarms_compare_L1 at hF; refine vwp_weak hw (Ve (Ve (Vb (Va (Vf rfl) rfl (Va (Vf rfl) rfl (Va (rd_lss rfl rfl) rfl (Vd (Vp rfl (fun c3 => ?_) (fun c3 => ?_)))))))))
   ·have hF := Xg c3 hF; refine Vs (Xf (Ve (Vb (Va (Vf rfl) rfl (Va (Vf rfl) rfl (Va (rd_add rfl rfl rfl) rfl (Va (rd_conv rfl us_3 ti_70 rfl) rfl (Va (rd_shrC (c := 2) rfl rfl (by decide) rfl (by decide)) rfl ?_)))))))); refine Va (rd_conv rfl us_70 ti_3 rfl) rfl (Va (Vm rfl) rfl (Vd (Ve ?_))); obtain ⟨x4, h5, hF⟩ := Xp hF; obtain ⟨x6, h7, hF⟩ := Xp hF; refine vwp_drawn0 [[], [], [], [1, 2], [1, 2, 3], [], [0, 1, 2, 3, 4, 5], (List.range 7)] mixed (by kernel_rfl) rfl (Xs rfl rfl (rd_mvF rfl) (Xs rfl rfl (Vu rfl) (Xs rfl rfl (Vf rfl) (Xs rfl rfl (Xl (rd_ixV rfl rfl h5 te_27 ts_32) (v' := .vptr (zA x4) 0) rfl) (Xs rfl rfl (rd_loadVN (ds := (zA x4)) rfl ta_32 ts_32 rfl rfl) (Xs rfl rfl (rd_loadN (ds := (zE p1)) rfl (Vx rfl rfl) rfl ta_59 ts_59 rfl rfl rfl) (dn1 rfl rfl (nt_of (Vo rfl Try.call37 (F_alarms_compare_ok h7 _))) (Xs rfl rfl (rd_lss rfl rfl) ?_)))))))); refine dops_nil (Vp rfl (fun c8 => ?_) (fun c8 => ?_))
    ·have hF := Xg c8 hF; refine Vb (Va (Vf rfl) rfl (Va (rd_add rfl rfl rfl) rfl (Va (Vm rfl) rfl (Vd ?_)))); obtain rfl := Xv hF; refine Xb ?_; exact Vg ⟨rfl, rfl, rfl, rfl, rfl, rfl, trivial⟩
    ·have hF := Xh c8 hF; refine Vb (Va (Vf rfl) rfl (Va (Vm rfl) rfl (Vd ?_))); obtain rfl := Xv hF; refine Xb ?_; exact Vg ⟨rfl, rfl, rfl, rfl, rfl, rfl, trivial⟩
   ·have hF := Xh c3 hF; refine vwp_exit ?_; obtain rfl := Xv hF; refine Xb ?_; exact Vg ⟨rfl, rfl, rfl, rfl, rfl, trivial⟩
  ·rintro _ _ _ _ ⟨rfl, hw⟩; refine ⟨_, _, _, hw, ?_⟩; refine Ve ?_
   rcases Xy (decide (o2 < ((p0).length : Int))) with c9 | c9
   ·have hF := Xg c9 hF; obtain ⟨x10, h11, hF⟩ := Xp hF; obtain ⟨x12, h13, hF⟩ := Xp hF; refine vwp_drawn0 [[], [], [], [1, 2], [1, 2, 3], [1, 2, 3, 4], [1, 2, 3, 4], [1, 2, 3, 4], [1, 2, 3, 4, 6, 7], [1, 2, 3, 4, 6, 7, 8], [1, 2, 3, 4], [1, 2, 3, 4, 5, 6, 7, 8, 9, 10], [1, 2, 3, 4, 5, 6, 7, 8, 9, 10, 11], [1, 2, 3, 4, 5, 6, 7, 8, 9, 10, 11, 12], (List.range 12), (List.range 15)] mixed (by kernel_rfl) rfl (Xs rfl rfl (Vf rfl) (Xs rfl rfl (Vf rfl) (Xs rfl rfl (Vf rfl) (Xs rfl rfl (rd_lss rfl rfl) (Xs rfl rfl (Vh rfl) (dt1 rfl rfl rfl rfl c9 (rd_mvF rfl) (dt1 rfl rfl rfl rfl c9 (Vu rfl) (dt1 rfl rfl rfl rfl c9 (Vf rfl) ?_)))))))); refine dt1 rfl rfl rfl rfl c9 (Xl (rd_ixV rfl rfl h11 te_27 ts_32) (v' := .vptr (zA x10) 0) rfl) (dt1 rfl rfl rfl rfl c9 (rd_loadVN (ds := (zA x10)) rfl ta_32 ts_32 rfl rfl) (dt1 rfl rfl rfl rfl c9 (rd_loadN (ds := (zE p1)) rfl (Vx rfl rfl) rfl ta_59 ts_59 rfl rfl rfl) (dops_takeW _ rfl rfl rfl (congrArg Xu c9) (all1 (nt_of (Vo rfl Try.call37 (F_alarms_compare_ok h13 _))) all0) (dt1 rfl rfl rfl rfl c9 (Vt rfl rfl) (Xs rfl rfl (Vk (congrArg Xu c9) rfl) (Xs rfl rfl (Vm rfl) (Xs rfl rfl (Vw rfl) (dops_nil ?_)))))))); refine Vq ?_; obtain rfl := Xv hF; refine fnR ?_; exact Vv rfl [] (by decide) ⟨Vy rfl (.int _ _), Vy rfl (.bool _), trivial⟩ trivial
   ·have hF := Xh c9 hF; refine vwp_drawn0 [[], [], [], [1, 2], [1, 2, 3], [1, 2, 3, 4], [1, 2, 3, 4], [1, 2, 3, 4], [1, 2, 3, 4, 6, 7], [1, 2, 3, 4, 6, 7, 8], [1, 2, 3, 4], [1, 2, 3, 4, 5, 6, 7, 8, 9, 10], [1, 2, 3, 4, 5, 6, 7, 8, 9, 10, 11], [1, 2, 3, 4, 5, 6, 7, 8, 9, 10, 11, 12], (List.range 12), (List.range 15)] mixed (by kernel_rfl) rfl (Xs rfl rfl (Vf rfl) (Xs rfl rfl (Vf rfl) (Xs rfl rfl (Vf rfl) (Xs rfl rfl (rd_lss rfl rfl) (Xs rfl rfl (Vh rfl) (Vz rfl rfl rfl (neF c9) (Vz rfl rfl rfl (neF c9) (Vz rfl rfl rfl (neF c9) ?_)))))))); refine Vz rfl rfl rfl (neF c9) (Vz rfl rfl rfl (neF c9) (Vz rfl rfl rfl (neF c9) (Vz rfl rfl rfl (neF c9) (Vz rfl rfl rfl (neF c9) (Xs rfl rfl (Vj (congrArg Xu c9) rfl) (Xs rfl rfl (Vm rfl) (Xs rfl rfl (Vw rfl) (dops_nil ?_)))))))); refine Vq ?_; obtain rfl := Xv hF; refine fnR ?_; exact Vv rfl [] (by decide) ⟨Vy rfl (.int _ _), Vy rfl (.bool _), trivial⟩ trivial
 ·rintro _ _ _ _ ⟨he, hw⟩; refine ⟨_, _, _, hw, ?_⟩; exact Xd he [.int .i64 r.1, .bool r.2] ⟨rfl, rfl, trivial⟩ ((lt_tup ⟨.int _ _, .bool _, trivial⟩)) ⟨rfl, rfl⟩

theorem F_alarms_Raise_ok {p0 : List T_Alarm} {p1 : Int} {p2 : Int} {p3 : Int} {p4 : Int} {r : List T_Alarm × Int} (hF : F_alarms_Raise p0 p1 p2 p3 p4 = some r) (low : List AObj) :
    Xk Try.prog 14 [.vs 9 (Xt T_Alarm.enc p0), .int .i64 p1, .int .i64 p2, .int .i64 p3, .int .i64 p4] low fun x low' => x = .tup [.vs 9 (Xt T_Alarm.enc r.1), .int .i64 r.2] ∧ low' = low := by
 refine Vr (nt := 122) (rs := [.tmp 10, .tmp 11]) Try.func14 rfl rfl (Xw rfl) rfl (Vn (Q' := FnE (fun E' lw lc => Xj E' lw lc [(10, .vs 9 (Xt T_Alarm.enc r.1)), (11, .int .i64 r.2)] low [])) ?_ ?_)
 ·unfold F_alarms_Raise at hF; refine Ve (Vb (Va (rd_nv (sz := 9) (rd_asN rfl)) rfl (Va (Vm rfl) rfl (Vd (Ve (Ve (Vb ?_))))))); obtain ⟨x1, h2, hF⟩ := Xp hF; refine Va (Vu rfl) rfl (Vi (Vo rfl Try.call26 (F_alarms_Valid_ok h2 _)) rfl (Va (Xn rfl) rfl (Vd (Vp rfl (fun c3 => ?_) (fun c3 => ?_)))))
  ·have hF := Xg c3 hF; refine Ve (Vb (Va (Vu rfl) rfl (Va (rd_asV rfl) rfl (Va (Vm rfl) rfl (Vd (Vq ?_)))))); obtain rfl := Xv hF; refine fnR ?_; exact Vg ⟨rfl, rfl, trivial⟩
  ·have hF := Xh c3 hF; refine Vs (Ve (Ve ?_)); obtain ⟨o4, ho4, hF⟩ := Xp hF; refine Vn (Q' := (fun o4 => OnlyE .normal (fun E' lw lc => Xj E' lw lc [(0, .vs 9 (Xt T_Alarm.enc p0)), (1, .int .i64 p1), (2, .int .i64 p2), (3, .int .i64 p3), (4, .int .i64 p4), (32, .bool o4)] low [])) o4) ?_ ?_
   ·replace hF := ho4; refine Vb ?_; obtain ⟨x5, h6, hF⟩ := Xp hF
    rcases Xy (!x5) with c7 | c7
    ·have hF := Xg c7 hF; refine Va (Vf rfl) rfl (Vi (Vo rfl Try.call35 (F_lists_In_ok h6 _)) rfl (Va (Xn rfl) rfl (Va (Vh rfl) rfl (Vc rfl rfl (neT c7) rfl (Vc rfl rfl (neT c7) rfl (Vc rfl rfl (neT c7) rfl (Va (Vk (congrArg Xu c7) rfl) rfl (Va (Vh rfl) rfl ?_)))))))); refine Vc rfl rfl (by decide) rfl (Vc rfl rfl (by decide) rfl (Vc rfl rfl (by decide) rfl (Va (Vk rfl rfl) rfl (Vd ?_)))); obtain rfl := Xv hF; refine Xb ?_; exact Vg ⟨rfl, rfl, rfl, rfl, rfl, rfl, trivial⟩
    ·have hF := Xh c7 hF; obtain ⟨x8, h9, hF⟩ := Xp hF
     rcases Xy (!x8) with c10 | c10
     ·have hF := Xg c10 hF; refine Va (Vf rfl) rfl (Vi (Vo rfl Try.call35 (F_lists_In_ok h6 _)) rfl (Va (Xn rfl) rfl (Va (Vh rfl) rfl (Xe rfl rfl c7 (Va (Vf rfl) rfl (Xe rfl rfl c7 (Vi (Vo rfl Try.call35 (F_lists_In_ok h9 _)) rfl (Xe rfl rfl c7 ?_)))))))); refine Va (Xn rfl) rfl (Va (Vj (congrArg Xu c7) rfl) rfl (Va (Vh rfl) rfl (Vc rfl rfl (neT c10) rfl (Vc rfl rfl (neT c10) rfl (Vc rfl rfl (neT c10) rfl (Va (Vk (congrArg Xu c10) rfl) rfl (Vd ?_))))))); obtain rfl := Xv hF; refine Xb ?_; exact Vg ⟨rfl, rfl, rfl, rfl, rfl, rfl, trivial⟩
     ·have hF := Xh c10 hF; obtain ⟨x11, h12, hF⟩ := Xp hF; refine Va (Vf rfl) rfl (Vi (Vo rfl Try.call35 (F_lists_In_ok h6 _)) rfl (Va (Xn rfl) rfl (Va (Vh rfl) rfl (Xe rfl rfl c7 (Va (Vf rfl) rfl (Xe rfl rfl c7 (Vi (Vo rfl Try.call35 (F_lists_In_ok h9 _)) rfl (Xe rfl rfl c7 ?_)))))))); refine Va (Xn rfl) rfl (Va (Vj (congrArg Xu c7) rfl) rfl (Va (Vh rfl) rfl (Xe rfl rfl c10 (Va (Vf rfl) rfl (Xe rfl rfl c10 (Vi (Vo rfl Try.call35 (F_lists_In_ok h12 _)) rfl (Xe rfl rfl c10 (Va (Xn rfl) rfl ?_)))))))); refine Va (Vj (congrArg Xu c10) rfl) rfl (Vd ?_); obtain rfl := Xv hF; refine Xb ?_; exact Vg ⟨rfl, rfl, rfl, rfl, rfl, rfl, trivial⟩
   ·rintro _ _ _ _ ⟨rfl, hw⟩; refine ⟨_, _, _, hw, ?_⟩; refine Vp rfl (fun c13 => ?_) (fun c13 => ?_)
    ·have hF := Xg c13 hF; refine Ve (Vb (Va (Vu rfl) rfl (Va (rd_asV rfl) rfl (Va (Vm rfl) rfl (Vd (Vq ?_)))))); obtain rfl := Xv hF; refine fnR ?_; exact Vg ⟨rfl, rfl, trivial⟩
    ·have hF := Xh c13 hF; refine Vs (Ve (Vb ?_)); obtain ⟨x14, h15, hF⟩ := Xp hF; refine Va (Vu rfl) rfl (Va (Vf rfl) rfl (Va (Vf rfl) rfl (Va (rd_build (vs := [(0, .int .i64 p1), (1, .int .i64 p2)]) (ds := [.int .i64 p1, .int .i64 p2]) tz_59 rfl rfl tp_59 ⟨rfl, rfl, rfl, rfl, trivial⟩ (nt_all2 rfl) rfl) rfl (Vi (Vo rfl Try.call36 (F_slices_BinarySearchFunc___api_Alarm_api_Alarm_alarms_name___alarms_compare_ok h15 _)) rfl (Va (rd_mvT rfl) rfl (Va (Xc rfl rfl) rfl (Va (Xc rfl rfl) rfl (Va (Vm rfl) rfl ?_)))))))); refine Va (Vw rfl) rfl (Vd (Ve (Ve ?_))); obtain ⟨o16, ho16, hF⟩ := Xp hF; refine Vn (Q' := (fun o16 => OnlyE .normal (fun E' lw lc => Xj E' lw lc [(0, .vs 9 (Xt T_Alarm.enc p0)), (1, .int .i64 p1), (2, .int .i64 p2), (3, .int .i64 p3), (4, .int .i64 p4), (12, .int .i64 x14.1), (13, .bool x14.2), (65, .bool o16)] low [])) o16) ?_ ?_
     ·replace hF := ho16; refine Vb ?_; obtain ⟨x17, h18, hF⟩ := Xp hF
      rcases Xy (!x17) with c19 | c19
      ·have hF := Xg c19 hF; refine Va (Vf rfl) rfl (Vi (Vo rfl Try.call35 (F_lists_In_ok h18 _)) rfl (Va (Xn rfl) rfl (Va (Vh rfl) rfl (Vc rfl rfl (neT c19) rfl (Vc rfl rfl (neT c19) rfl (Xi rfl rfl rfl (Xi rfl rfl rfl (Xi rfl rfl rfl ?_)))))))); refine Xi rfl rfl rfl (Xi rfl rfl rfl (Xi rfl rfl rfl (Xi rfl rfl rfl (Xi rfl rfl rfl (Xi rfl rfl rfl (Xi rfl rfl rfl (Xi rfl rfl rfl (Xi rfl rfl rfl ?_)))))))); refine Xi rfl rfl rfl (Xi rfl rfl rfl (Xi rfl rfl rfl (Xi rfl rfl rfl (Vc rfl rfl (neT c19) rfl (Va (Vk (congrArg Xu c19) rfl) rfl (Vd ?_)))))); obtain rfl := Xv hF; refine Xb ?_; exact Vg ⟨rfl, rfl, rfl, rfl, rfl, rfl, rfl, rfl, trivial⟩
      ·have hF := Xh c19 hF
       rcases Xy x14.2 with c20 | c20
       ·have hF := Xg c20 hF; obtain ⟨x21, h22, hF⟩ := Xp hF
        rcases Xy (decide (p4 < x21.Raised)) with c23 | c23
        ·have hF := Xg c23 hF; refine Va (Vf rfl) rfl (Vi (Vo rfl Try.call35 (F_lists_In_ok h18 _)) rfl (Va (Xn rfl) rfl (Va (Vh rfl) rfl (Xe rfl rfl c19 (Va (Vh rfl) rfl (Xe rfl rfl c19 (Va (Vh rfl) rfl (Xe rfl rfl c20 ?_)))))))); refine Va (Vf rfl) rfl (Xe rfl rfl c20 (Va (Vu rfl) rfl (Xe rfl rfl c20 (Va (Vf rfl) rfl (Xe rfl rfl c20 (Va (Xl (rd_ixV rfl rfl h22 te_27 ts_32) (v' := .vptr (zA x21) 0) rfl) rfl (Xe rfl rfl c20 (Va (rd_fieldVaddr rfl tf_32_3 ts_3 (by decide)) rfl ?_)))))))); refine Xe rfl rfl c20 (Va (rd_loadV1 rfl ta_3 rfl) rfl (Xe rfl rfl c20 (Va (rd_lss rfl rfl) rfl (Xe rfl rfl c20 (Va (Vh rfl) rfl (Vc rfl rfl (neT c23) rfl (Vc rfl rfl (neT c23) rfl (Vc rfl rfl (neT c23) rfl ?_)))))))); refine Vc rfl rfl (neT c23) rfl (Vc rfl rfl (neT c23) rfl (Vc rfl rfl (neT c23) rfl (Vc rfl rfl (neT c23) rfl (Xe rfl rfl c20 (Va (Vk (congrArg Xu c23) rfl) rfl (Xe rfl rfl c19 (Va (Vk (congrArg Xu c20) rfl) rfl (Va (Vj (congrArg Xu c19) rfl) rfl ?_)))))))); refine Vd ?_; obtain rfl := Xv hF; refine Xb ?_; exact Vg ⟨rfl, rfl, rfl, rfl, rfl, rfl, rfl, rfl, trivial⟩
        ·have hF := Xh c23 hF; obtain ⟨x24, h25, hF⟩ := Xp hF; refine Va (Vf rfl) rfl (Vi (Vo rfl Try.call35 (F_lists_In_ok h18 _)) rfl (Va (Xn rfl) rfl (Va (Vh rfl) rfl (Xe rfl rfl c19 (Va (Vh rfl) rfl (Xe rfl rfl c19 (Va (Vh rfl) rfl (Xe rfl rfl c20 ?_)))))))); refine Va (Vf rfl) rfl (Xe rfl rfl c20 (Va (Vu rfl) rfl (Xe rfl rfl c20 (Va (Vf rfl) rfl (Xe rfl rfl c20 (Va (Xl (rd_ixV rfl rfl h22 te_27 ts_32) (v' := .vptr (zA x21) 0) rfl) rfl (Xe rfl rfl c20 (Va (rd_fieldVaddr rfl tf_32_3 ts_3 (by decide)) rfl ?_)))))))); refine Xe rfl rfl c20 (Va (rd_loadV1 rfl ta_3 rfl) rfl (Xe rfl rfl c20 (Va (rd_lss rfl rfl) rfl (Xe rfl rfl c20 (Va (Vh rfl) rfl (Xe rfl rfl c23 (Va (Vf rfl) rfl (Xe rfl rfl c23 ?_)))))))); refine Va (Vu rfl) rfl (Xe rfl rfl c23 (Va (Vf rfl) rfl (Xe rfl rfl c23 (Va (Xl (rd_ixV rfl rfl h25 te_27 ts_32) (v' := .vptr (zA x24) 0) rfl) rfl (Xe rfl rfl c23 (Va (rd_fieldVaddr rfl tf_32_4 ts_3 (by decide)) rfl (Xe rfl rfl c23 (Va (rd_loadV1 rfl ta_3 rfl) rfl ?_)))))))); refine Xe rfl rfl c23 (Va (rd_lss rfl rfl) rfl (Xe rfl rfl c20 (Va (Vj (congrArg Xu c23) rfl) rfl (Xe rfl rfl c19 (Va (Vk (congrArg Xu c20) rfl) rfl (Va (Vj (congrArg Xu c19) rfl) rfl (Vd ?_))))))); obtain rfl := Xv hF; refine Xb ?_; exact Vg ⟨rfl, rfl, rfl, rfl, rfl, rfl, rfl, rfl, trivial⟩
       ·have hF := Xh c20 hF; refine Va (Vf rfl) rfl (Vi (Vo rfl Try.call35 (F_lists_In_ok h18 _)) rfl (Va (Xn rfl) rfl (Va (Vh rfl) rfl (Xe rfl rfl c19 (Va (Vh rfl) rfl (Xe rfl rfl c19 (Va (Vh rfl) rfl (Vc rfl rfl (neF c20) rfl ?_)))))))); refine Vc rfl rfl (neF c20) rfl (Vc rfl rfl (neF c20) rfl (Vc rfl rfl (neF c20) rfl (Vc rfl rfl (neF c20) rfl (Vc rfl rfl (neF c20) rfl (Vc rfl rfl (neF c20) rfl (Vc rfl rfl (neF c20) rfl (Xi rfl rfl rfl (Xi rfl rfl rfl ?_)))))))); refine Xi rfl rfl rfl (Xi rfl rfl rfl (Xi rfl rfl rfl (Xi rfl rfl rfl (Xi rfl rfl rfl (Vc rfl rfl (neF c20) rfl (Xe rfl rfl c19 (Va (Vj (congrArg Xu c20) rfl) rfl (Va (Vj (congrArg Xu c19) rfl) rfl ?_)))))))); refine Vd ?_; obtain rfl := Xv hF; refine Xb ?_; exact Vg ⟨rfl, rfl, rfl, rfl, rfl, rfl, rfl, rfl, trivial⟩
     ·rintro _ _ _ _ ⟨rfl, hw⟩; refine ⟨_, _, _, hw, ?_⟩; refine Vp rfl (fun c26 => ?_) (fun c26 => ?_)
      ·have hF := Xg c26 hF; refine Ve (Vb (Va (Vu rfl) rfl (Va (rd_asV rfl) rfl (Va (Vm rfl) rfl (Vd (Vq ?_)))))); obtain rfl := Xv hF; refine fnR ?_; exact Vg ⟨rfl, rfl, trivial⟩
      ·have hF := Xh c26 hF; refine Vs (Ve (Ve (Vb (Va (Vh rfl) rfl (Va (Xn rfl) rfl (Vd (Vp rfl (fun c27 => ?_) (fun c27 => ?_))))))))
       ·have hF := Xg c27 hF; refine Ve (Ve (Vb (Va (Vu rfl) rfl (Va (Xl (Xm rfl rfl te_27) (congrArg (fun n : Nat => PV.int .i64 (n : Int)) (Xz _))) rfl (Va (Vt rfl rfl) rfl (Vd (Vp rfl (fun c28 => ?_) (fun c28 => ?_))))))))
        ·have hF := Xg c28 hF; refine Ve (Vb (Va (Vu rfl) rfl (Va (rd_asV rfl) rfl (Va (Vm rfl) rfl (Vd (Vq ?_)))))); obtain rfl := Xv hF; refine fnR ?_; exact Vg ⟨rfl, rfl, trivial⟩
        ·have hF := Xh c28 hF; refine Vs (Ve (Vb ?_)); obtain ⟨x29, h30, hF⟩ := Xp hF; obtain ⟨x31, h32, hF⟩ := Xp hF; refine Va (Vu rfl) rfl (Vi (vef_callN (r := .sl (low.length + 0) 0 0 (x29).length) (os := [⟨32, 9, Xt T_Alarm.enc x29, 0⟩]) rfl Try.call39 (F_slices_Clone___api_Alarm_api_Alarm__ok h30 _ (len_app rfl rfl))) rfl (Va (Vf rfl) rfl (Va (Vf rfl) rfl (Va (Vf rfl) rfl (Va (Vf rfl) rfl (Va (Vf rfl) rfl (Va (rd_build (vs := [(0, .int .i64 p1), (1, .int .i64 p2), (2, .int .i64 p3), (3, .int .i64 p4), (5, .bool true), (8, .int .i64 1)]) (ds := [.int .i64 p1, .int .i64 p2, .int .i64 p3, .int .i64 p4, .int .i64 0, .bool true, .bool false, .int .i64 0, .int .i64 1]) tz_32 rfl rfl tp_32 ⟨rfl, rfl, rfl, rfl, rfl, rfl, rfl, rfl, rfl, rfl, rfl, rfl, trivial⟩ (nt_all2 rfl) rfl) rfl (Vi (vef_litN rfl rfl (es := Xt T_Alarm.enc [(T_Alarm.mk p1 p2 p3 p4 0 true false 0 1)]) ⟨rfl, rfl, trivial⟩ rfl rfl (nt_all rfl) te_27 ts_32 tz_32 rfl rfl (Xx _) (by decide)) rfl ?_)))))))); refine Vi (vef_callS (ps := [((low.length + 0), ⟨32, 9, Xt T_Alarm.enc x31, 0 + 1⟩), ((low.length + 1), ⟨32, 9, Xt T_Alarm.enc [(T_Alarm.mk p1 p2 p3 p4 0 true false 0 1)], 0⟩)]) (r := .sl (low.length + 0) (0 + 1) 0 (x31).length) (os := []) (low1 := low) (loc1 := [⟨32, 9, Xt T_Alarm.enc x31, 0 + 1⟩, ⟨32, 9, Xt T_Alarm.enc [(T_Alarm.mk p1 p2 p3 p4 0 true false 0 1)], 0⟩]) (loc2 := [⟨32, 9, Xt T_Alarm.enc x31, 0 + 1⟩, ⟨32, 9, Xt T_Alarm.enc [(T_Alarm.mk p1 p2 p3 p4 0 true false 0 1)], 0⟩]) rfl Try.call38 (F_slices_Insert___api_Alarm_api_Alarm__ok h32 (nd1 (na1 (ne_own rfl) na0) (nd1 na0 nd0)) (rfl : (x29).length = _) (rfl : ([(T_Alarm.mk p1 p2 p3 p4 0 true false 0 1)]).length = _) (get_N rfl rfl) (get_N rfl rfl) (len_app rfl rfl)) (sets_own (loc2 := [⟨32, 9, Xt T_Alarm.enc x31, 0 + 1⟩, ⟨32, 9, Xt T_Alarm.enc [(T_Alarm.mk p1 p2 p3 p4 0 true false 0 1)], 0⟩]) rfl 0 rfl (sets_own (loc2 := [⟨32, 9, Xt T_Alarm.enc x31, 0 + 1⟩, ⟨32, 9, Xt T_Alarm.enc [(T_Alarm.mk p1 p2 p3 p4 0 true false 0 1)], 0⟩]) rfl 1 rfl sets_nil)) rfl) rfl (Va (rd_asL rfl) rfl (Va (Vm rfl) rfl (Vd (Vq ?_)))); obtain rfl := Xv hF; refine fnR (Weak.trans (weak_freezeN (E' := [(10, .vs 9 (Xt T_Alarm.enc x31)), (11, .int .i64 0)]) (loc1 := [⟨32, 9, [], (0 + 1) + 1⟩, ⟨32, 9, Xt T_Alarm.enc [(T_Alarm.mk p1 p2 p3 p4 0 true false 0 1)], 0⟩]) rfl 0 rfl (lt_map T_Alarm.enc_lt) ⟨cv_sl rfl rfl rfl (full_take rfl), cv_same rfl, trivial⟩ ⟨.refl _, .refl _, trivial⟩) ?_); exact Vv rfl [] (by decide) ⟨Vy rfl (.vs _ _), Vy rfl (.int _ _), trivial⟩ trivial
       ·have hF := Xh c27 hF; refine Vs (Ve (Vb ?_)); obtain ⟨x33, h34, hF⟩ := Xp hF; refine Va (Vu rfl) rfl (Vi (vef_callN (r := .sl (low.length + 0) 0 0 (x33).length) (os := [⟨32, 9, Xt T_Alarm.enc x33, 0⟩]) rfl Try.call39 (F_slices_Clone___api_Alarm_api_Alarm__ok h34 _ (len_app rfl rfl))) rfl (Va (rd_asL rfl) rfl (Vd (Ve (Ve (Vb ?_)))))); obtain ⟨x35, h36, hF⟩ := Xp hF; refine Va (Xq rfl) rfl (Va (Vf rfl) rfl (Va (rd_ixS rfl rfl rfl (Vx rfl rfl) h36 te_27 ts_32) rfl (Va (rd_asP rfl) rfl (Vd ?_)))); obtain ⟨o37, ho37, hF⟩ := Xp hF; refine Vn (Q' := (fun o37 => OnlyE .normal (fun E' lw lc => Xj E' lw lc [(14, .sl (low.length + 0) 0 0 (o37).length)] low [⟨32, 9, Xt T_Alarm.enc o37, 0⟩])) o37) ?_ ?_
        ·replace hF := ho37; refine Xf (Ve (Vb (Va (rd_mvP rfl) rfl (Va (rd_nilPtr rfl) rfl (Va (Vl rfl tf_32_5 ts_4 (by decide)) rfl (Va (rd_ldL1 rfl (Vx rfl rfl) (Xr h36).2 ta_4 rfl) rfl (Va (Xn rfl) rfl (Va (Vw rfl) rfl ?_)))))))); refine Vd (Vp rfl (fun c38 => ?_) (fun c38 => ?_))
         ·have hF := Xg c38 hF; refine Vb (Va (rd_mvP rfl) rfl (Va (Vf rfl) rfl (Va (Vf rfl) rfl (Va (Vf rfl) rfl (Va (Vf rfl) rfl (Va (rd_mvP rfl) rfl (Va (rd_nilPtr rfl) rfl (Va (Vl rfl tf_32_8 ts_3 (by decide)) rfl ?_)))))))); refine Va (rd_ldL1 rfl (Vx rfl rfl) (Xr h36).2 ta_3 rfl) rfl (Va (rd_add rfl rfl rfl) rfl (Va (rd_min rfl rfl) rfl (Va (rd_build (vs := [(0, .int .i64 p1), (1, .int .i64 p2), (2, .int .i64 p3), (3, .int .i64 p4), (5, .bool true), (8, .int .i64 (min (IntKind.i64.wrap (x35.Count + 1)) 2147483648))]) (ds := [.int .i64 p1, .int .i64 p2, .int .i64 p3, .int .i64 p4, .int .i64 0, .bool true, .bool false, .int .i64 0, .int .i64 (min (IntKind.i64.wrap (x35.Count + 1)) 2147483648)]) tz_32 rfl rfl tp_32 ⟨rfl, rfl, rfl, rfl, rfl, rfl, rfl, rfl, rfl, rfl, rfl, rfl, trivial⟩ (nt_all2 rfl) rfl) rfl (Va (rd_nilPtr rfl) rfl (Vi (vef_stL (p := .agg [.int .i64 p1, .int .i64 p2, .int .i64 p3, .int .i64 p4, .int .i64 0, .bool true, .bool false, .int .i64 0, .int .i64 (min (IntKind.i64.wrap (x35.Count + 1)) 2147483648)]) (e' := (T_Alarm.mk p1 p2 p3 p4 0 true false 0 (min (IntKind.i64.wrap (x35.Count + 1)) 2147483648))) rfl (Vx rfl rfl) (Xr h36).2 rfl ts_32 rfl (nt_ne rfl) (Xw rfl) rfl (setO_N rfl rfl)) rfl (Vd ?_)))))); obtain rfl := Xv hF; refine Xb ?_; exact Vv rfl [(0, 0)] (by decide) ⟨rn_sl 0 0 rfl (congrArg (PV.sl _ _ 0) (Eq.trans rfl List.length_set.symm)), trivial⟩ ⟨⟨_, rfl, rfl, .same _ _ _ _ (ltObj_map T_Alarm.enc_lt)⟩, trivial⟩
         ·have hF := Xh c38 hF; refine Ve (Vb (Va (Vf rfl) rfl (Va (rd_mvP rfl) rfl (Va (rd_nilPtr rfl) rfl (Va (Vl rfl tf_32_2 ts_3 (by decide)) rfl (Va (rd_ldL1 rfl (Vx rfl rfl) (Xr h36).2 ta_3 rfl) rfl (Va (rd_lss rfl rfl) rfl (Va (Vw rfl) rfl ?_)))))))); refine Vd (Vp rfl (fun c39 => ?_) (fun c39 => ?_))
          ·have hF := Xg c39 hF; refine Vb (Va (rd_mvP rfl) rfl (Va (rd_mvP rfl) rfl (Va (Vf rfl) rfl (Va (rd_nilPtr rfl) rfl (Va (Vl rfl tf_32_2 ts_3 (by decide)) rfl (Vi (vef_stL (p := .int .i64 p3) (e' := (T_Alarm.mk x35.Kind x35.Subject p3 x35.Raised x35.Ended x35.Active x35.Acked x35.Hidden x35.Count)) rfl (Vx rfl rfl) (Xr h36).2 rfl ts_3 rfl (nt_ne rfl) (Xw rfl) rfl (setO_N rfl rfl)) rfl (Va (rd_nilPtr rfl) rfl (Va (Vl rfl tf_32_7 ts_3 (by decide)) rfl ?_)))))))); refine Vi (vef_stL (p := .int .i64 0) (e' := (T_Alarm.mk x35.Kind x35.Subject p3 x35.Raised x35.Ended x35.Active x35.Acked 0 x35.Count)) rfl (Vx rfl rfl) (set_get (Xr h36).2) rfl ts_3 rfl (nt_ne rfl) (Xw rfl) rfl (setO_N rfl rfl)) rfl (Vd ?_); obtain rfl := Xv hF; refine Xb ?_; exact Vv rfl [(0, 0)] (by decide) ⟨rn_sl 0 0 rfl (congrArg (PV.sl _ _ 0) (Eq.trans (Eq.trans rfl List.length_set.symm) List.length_set.symm)), trivial⟩ ⟨⟨_, rfl, rfl, .same _ _ _ _ (ltObj_map T_Alarm.enc_lt)⟩, trivial⟩
          ·have hF := Xh c39 hF; refine Vs ?_; obtain rfl := Xv hF; refine Xb ?_; exact Vg ⟨rfl, trivial⟩
        ·rintro _ _ _ _ ⟨rfl, hw⟩; refine ⟨_, _, _, hw, ?_⟩; refine Ve (Vb (Va (Xq rfl) rfl (Va (rd_asL rfl) rfl (Va (Vm rfl) rfl (Vd (Vq ?_)))))); obtain rfl := Xv hF; refine fnR (Weak.trans (weak_freezeN (E' := [(10, .vs 9 (Xt T_Alarm.enc o37)), (11, .int .i64 0)]) (loc1 := [⟨32, 9, [], 0 + 1⟩]) rfl 0 rfl (lt_map T_Alarm.enc_lt) ⟨cv_sl rfl rfl rfl (full_take rfl), cv_same rfl, trivial⟩ ⟨.refl _, trivial⟩) ?_); exact Vv rfl [] (by decide) ⟨Vy rfl (.vs _ _), Vy rfl (.int _ _), trivial⟩ trivial
 ·rintro _ _ _ _ ⟨he, hw⟩; refine ⟨_, _, _, hw, ?_⟩; exact Xd he [.vs 9 (Xt T_Alarm.enc r.1), .int .i64 r.2] ⟨rfl, rfl, trivial⟩ ((lt_tup ⟨.vs _ _, .int _ _, trivial⟩)) ⟨rfl, rfl⟩

theorem F_alarms_find_ok {p0 : List T_Alarm} {p1 : Int} {p2 : Int} {r : Int × Int} (hF : F_alarms_find p0 p1 p2 = some r) (low : List AObj) :
    Xk Try.prog 44 [.vs 9 (Xt T_Alarm.enc p0), .int .i64 p1, .int .i64 p2] low fun x low' => x = .tup [.int .i64 r.1, .int .i64 r.2] ∧ low' = low := by
 refine Vr (nt := 24) (rs := [.tmp 6, .tmp 7]) Try.func44 rfl rfl (Xw rfl) rfl (Vn (Q' := FnE (fun E' lw lc => Xj E' lw lc [(6, .int .i64 r.1), (7, .int .i64 r.2)] low [])) ?_ ?_)
 ·unfold F_alarms_find at hF; refine Ve (Vb (Va (Vm rfl) rfl (Va (Vm rfl) rfl (Vd (Ve (Ve (Vb ?_))))))); obtain ⟨x1, h2, hF⟩ := Xp hF; refine Va (Vu rfl) rfl (Vi (Vo rfl Try.call26 (F_alarms_Valid_ok h2 _)) rfl (Va (Xn rfl) rfl (Vd (Vp rfl (fun c3 => ?_) (fun c3 => ?_)))))
  ·have hF := Xg c3 hF; refine Ve (Vb (Va (Vm rfl) rfl (Va (Vm rfl) rfl (Vd (Vq ?_))))); obtain rfl := Xv hF; refine fnR ?_; exact Vg ⟨rfl, rfl, trivial⟩
  ·have hF := Xh c3 hF; refine Vs (Ve (Vb ?_)); obtain ⟨x4, h5, hF⟩ := Xp hF; refine Va (Vu rfl) rfl (Va (Vf rfl) rfl (Va (Vf rfl) rfl (Va (rd_build (vs := [(0, .int .i64 p1), (1, .int .i64 p2)]) (ds := [.int .i64 p1, .int .i64 p2]) tz_59 rfl rfl tp_59 ⟨rfl, rfl, rfl, rfl, trivial⟩ (nt_all2 rfl) rfl) rfl (Vi (Vo rfl Try.call36 (F_slices_BinarySearchFunc___api_Alarm_api_Alarm_alarms_name___alarms_compare_ok h5 _)) rfl (Va (rd_mvT rfl) rfl (Va (Xc rfl rfl) rfl (Va (Xc rfl rfl) rfl (Va (Vm rfl) rfl ?_)))))))); refine Va (Vw rfl) rfl (Vd (Ve (Ve (Vb (Va (Vh rfl) rfl (Va (Xn rfl) rfl (Vd (Vp rfl (fun c6 => ?_) (fun c6 => ?_)))))))))
   ·have hF := Xg c6 hF; refine Ve (Vb (Va (Vm rfl) rfl (Va (Vm rfl) rfl (Vd (Vq ?_))))); obtain rfl := Xv hF; refine fnR ?_; exact Vg ⟨rfl, rfl, trivial⟩
   ·have hF := Xh c6 hF; refine Vs (Ve (Vb (Va (Vf rfl) rfl (Va (Vm rfl) rfl (Va (Vm rfl) rfl (Vd (Vq ?_))))))); obtain rfl := Xv hF; refine fnR ?_; exact Vg ⟨rfl, rfl, trivial⟩
 ·rintro _ _ _ _ ⟨he, hw⟩; refine ⟨_, _, _, hw, ?_⟩; exact Xd he [.int .i64 r.1, .int .i64 r.2] ⟨rfl, rfl, trivial⟩ ((lt_tup ⟨.int _ _, .int _ _, trivial⟩)) ⟨rfl, rfl⟩

section
open Go.RowKit
set_option maxHeartbeats 4000000
set_option maxRecDepth 100000
theorem del_walk32 (w : World) (b N C i : Nat) (ad : Addr) (cells : Array Value) (h1 : w.heap[b]? = some (.cells cells 32 (0, 0))) (h2 : cells.size = C * 9) (hi : i < N + 1) (hnc : N + 1 ≤ C) (hC : C ≤ maxLen)
    (c1 : ∀ u ∈ cells.toList.take ((N + 1) * 9), u.oneCell' = true) (had : (if C = i + 1 then (⟨b, 0, none⟩ : Addr) else ⟨b, (i + 1) * 9, none⟩) = ad) (hsl : ∀ c, (if C = i + 1 then Value.slice (some ⟨b, 0, none⟩) 0 c else .slice (some ⟨b, (i + 1) * 9, none⟩) 0 c) = .slice (some ad) 0 c) :
    Calls Try.prog 53 #[.slice (some ⟨b, 0, none⟩) (N + 1) C, .int .i64 i, .int .i64 ((i : Int) + 1)] w fun e w' => e = .returned (.slice (some ⟨b, 0, none⟩) N C) ∧
      (w' = (w.setCells b (i * 9) ((cells.toList.take ((N + 1) * 9)).drop ((i + 1) * 9))).setCells b (N * 9) (Builtin.zeroCells ((Value.agg #[.int .i64 0, .int .i64 0, .int .i64 0, .int .i64 0, .int .i64 0, .bool false, .bool false, .int .i64 0, .int .i64 0]) : Value).cells 1).toList ∨ w' = (w.drew.setCells b (i * 9) ((cells.toList.take ((N + 1) * 9)).drop ((i + 1) * 9))).setCells b (N * 9) (Builtin.zeroCells ((Value.agg #[.int .i64 0, .int .i64 0, .int .i64 0, .int .i64 0, .int .i64 0, .bool false, .bool false, .int .i64 0, .int .i64 0]) : Value).cells 1).toList) := by
  have hC63 : C ≤ 9223372036854775807 := hC
  obtain ⟨i0, hi0, hz0, hzs, hzb⟩ := info_parts infoE32; obtain ⟨cs, hcs⟩ : ∃ cs, cs = cells.toList.take ((N + 1) * 9) := ⟨_, rfl⟩
  have hcl : cs.length = (N + 1) * 9 := by rw [hcs, List.length_take, Array.length_toList, h2]; omega
  rw [← hcs] at c1 ⊢
  have hrd : ∀ j v, cs[j]? = some v → w.cell? ⟨b, j, none⟩ = some v := fun j v hj => by
    rw [cell_of_heap h1, ← Array.getElem?_toList]
    rw [hcs, List.getElem?_take] at hj
    split at hj
    · exact hj
    · cases hj
  have hsp : ∀ j, j < (N + 1) * 9 → (w.cell? ⟨b, j, none⟩).isSome = true := fun j hj => by
    rw [cell_of_heap h1, Array.getElem?_eq_getElem (by omega)]; rfl
  have hfz : ∀ j, w.frozen? ⟨b, j, none⟩ = false := fun j => frozen_of_heap h1
  have hzc : ((Value.agg #[.int .i64 0, .int .i64 0, .int .i64 0, .int .i64 0, .int .i64 0, .bool false, .bool false, .int .i64 0, .int .i64 0]) : Value).cells.size = 9 := by decide
  have hdl : (cs.drop ((i + 1) * 9)).length = (N - i) * 9 := by rw [List.length_drop, hcl]; omega
  have hsrc : ∀ j u, (cs.drop ((i + 1) * 9))[j]? = some u → w.cell? (ad.add j) = some u := fun j u hj => by
    have hj1 := (List.getElem?_eq_some_iff.1 hj).1
    rw [← had, if_neg (by omega), Addr.add_lit]
    exact hrd _ u (by rwa [List.getElem?_drop] at hj)
  have h1c : ∀ u ∈ cs.drop ((i + 1) * 9), u.oneCell' = true := fun u hu => c1 u (List.mem_of_mem_drop hu)
  have hspare : ∀ (W : World), (∀ x, W.cell? x = w.cell? x) → (∀ x, W.frozen? x = w.frozen? x) → ∀ j, j < (cs.drop ((i + 1) * 9)).length → (W.cell? ⟨b, (i * 9) + j, none⟩).isSome = true ∧ W.frozen? ⟨b, (i * 9) + j, none⟩ = false := fun W e1 e2 j hj => by
    rw [e1, e2]
    exact ⟨hsp _ (by omega), hfz _⟩
  have hclr : ∀ (W : World), (∀ x, W.cell? x = (w.setCells b (i * 9) (cs.drop ((i + 1) * 9))).cell? x) → (∀ x, W.frozen? x = (w.setCells b (i * 9) (cs.drop ((i + 1) * 9))).frozen? x) → ∀ ty c, (Builtin.clear_ #[27] ty #[.slice (some ⟨b, N * 9, none⟩) 1 c]).run Try.prog W = .ok (.tuple #[]) (W.setCells b (N * 9) (Builtin.zeroCells ((Value.agg #[.int .i64 0, .int .i64 0, .int .i64 0, .int .i64 0, .int .i64 0, .bool false, .bool false, .int .i64 0, .int .i64 0]) : Value).cells 1).toList) := fun W e1 e2 ty c => by
    have h := run_clear_sliceK W 27 32 ty (Value.agg #[.int .i64 0, .int .i64 0, .int .i64 0, .int .i64 0, .int .i64 0, .bool false, .bool false, .int .i64 0, .int .i64 0]) 9 Try.underlying27 Try.zeroValue32 hzc (by decide) b (N * 9) 1 c (by decide)
      (fun j hj => by rw [e1]; exact isSome_setCellsK b (cs.drop ((i + 1) * 9)) (i * 9) w (fun t ht => hsp _ (by omega)) _ (hsp _ (by omega)))
      (fun j hj => by rw [e2, World.frozen?_setCells]; exact hfz _)
    first
      | exact h
      | simpa only [Nat.mul_one] using h
  have hcl1 := hclr (w.setCells b (i * 9) (cs.drop ((i + 1) * 9))) (fun _ => rfl) (fun _ => rfl)
  have hcl2 := hclr (w.drew.setCells b (i * 9) (cs.drop ((i + 1) * 9))) (fun x => by rw [← drew_setCellsJ]; rfl) (fun x => by rw [← drew_setCellsJ]; rfl)
  have mixed : Try.prog.follows .mixedOrders = true := by kernel_rfl
  have hne : ¬ ((i : Int) = (i : Int) + 1) := by omega
  have hb1 : (0 : Int) ≤ (i : Int) + 1 := by omega
  have htn : ((i : Int) + 1).toNat = i + 1 := by omega
  have hb2 : (i : Int) + 1 ≤ (N : Int) + 1 := by omega
  have hb3 : (i : Int) ≤ (i : Int) + 1 := by omega
  have hb4 : i ≤ C := by omega
  have hin : i ≤ N := by omega
  have hCN : ¬ (C = N) := by omega
  have hrN : i + (N - i) = N := by omega
  clear hcs hrd hsp hfz
  by_cases hCj : C = i + 1
  · have hadr : ad = ⟨b, 0, none⟩ := by rw [← had, if_pos hCj]
    subst hadr hCj
    clear had hsl
    go_enter Try.func53, Try.ntmps53
    go_wp2
    go_region_law (refine step_append_rm rfl _ _ 27 rfl 32 i0 9 Try.underlying27 hi0 hzs b i (i + 1) (by simp [Act.eval, Act.put]) ⟨b, 0, none⟩ (N - i) 0 (cs.drop ((i + 1) * 9)) (by first | (simp [Act.eval, Act.put]; done) | (simp [Act.eval, Act.put]; omega)) hdl (fun j u h => hsrc j u h) h1c N (i * 9) hrN (by omega) (by omega) (hspare _ (fun _ => rfl) (fun _ => rfl)) ?_)
    go_wp2_with (simp only [hcl1, hcl2])
    go_ret
    first | exact ⟨rfl, .inr rfl⟩ | exact ⟨rfl, .inr (by simp [Value.cells])⟩
  · have hadr : ad = ⟨b, (i + 1) * 9, none⟩ := by rw [← had, if_neg hCj]
    subst hadr
    clear had hsl
    go_enter Try.func53, Try.ntmps53
    go_wp2
    go_region_law (refine step_append_rm rfl _ _ 27 rfl 32 i0 9 Try.underlying27 hi0 hzs b i C (by simp [Act.eval, Act.put]) ⟨b, (i + 1) * 9, none⟩ (N - i) (C - (i + 1)) (cs.drop ((i + 1) * 9)) (by simp [Act.eval, Act.put, hCj]) hdl (fun j u h => hsrc j u h) h1c N (i * 9) hrN (by omega) (by omega) (hspare _ (fun _ => rfl) (fun _ => rfl)) ?_)
    go_wp2_with (simp only [hcl1, hcl2])
    go_ret
    first | exact ⟨rfl, .inr rfl⟩ | exact ⟨rfl, .inr (by simp [Value.cells])⟩
theorem kdelete32 : KDelete Try.prog 53 32 9 := by
  intro w b n C i cells h1 h2 hi hnc hC c1
  obtain ⟨N, rfl⟩ : ∃ N, n = N + 1 := ⟨n - 1, by omega⟩
  have hcl : (cells.toList.take ((N + 1) * 9)).length = (N + 1) * 9 := by rw [List.length_take, Array.length_toList, h2]; omega
  refine (del_walk32 w b N C i _ cells h1 h2 hi hnc hC c1 rfl (fun c => by split <;> rfl)).mono ?_; rintro e w' ⟨rfl, hw⟩; refine ⟨rfl, ?_⟩
  have hz : (Builtin.zeroCells ((Value.agg #[.int .i64 0, .int .i64 0, .int .i64 0, .int .i64 0, .int .i64 0, .bool false, .bool false, .int .i64 0, .int .i64 0]) : Value).cells 1).toList.length = 9 := by rw [Array.length_toList, size_zeroCells]; decide
  have key : ∀ W, RowPost 32 9 w W b C b C (cells.toList.take ((N + 1) * 9)) → RowPost 32 9 w ((W.setCells b (i * 9) ((cells.toList.take ((N + 1) * 9)).drop ((i + 1) * 9))).setCells b (N * 9) (Builtin.zeroCells ((Value.agg #[.int .i64 0, .int .i64 0, .int .i64 0, .int .i64 0, .int .i64 0, .bool false, .bool false, .int .i64 0, .int .i64 0]) : Value).cells 1).toList) b C b C ((cells.toList.take ((N + 1) * 9)).take (i * 9) ++ (cells.toList.take ((N + 1) * 9)).drop ((i + 1) * 9)) := by
    intro W hW
    generalize cells.toList.take ((N + 1) * 9) = cs at hcl hW ⊢
    have hdl : (cs.drop ((i + 1) * 9)).length = (N - i) * 9 := by rw [List.length_drop, hcl]; omega
    have r1 := hW.set (o := (i * 9)) (vs := cs.drop ((i + 1) * 9)) (by omega) (by omega) (by simp only [List.length_append, List.length_take, List.length_drop]; omega)
    have r2 := r1.set (o := N * 9) (vs := (Builtin.zeroCells ((Value.agg #[.int .i64 0, .int .i64 0, .int .i64 0, .int .i64 0, .int .i64 0, .bool false, .bool false, .int .i64 0, .int .i64 0]) : Value).cells 1).toList) (by simp only [List.length_append, List.length_take, List.length_drop]; omega) (by omega) (by rw [List.length_append, List.length_append, hz]; simp only [List.length_append, List.length_take, List.length_drop]; omega)
    have e0 : i * 9 = (i * 9) := by omega
    have e1 : (i + 1) * 9 = ((i + 1) * 9) := by omega
    have hl : (cs.take (i * 9) ++ cs.drop ((i + 1) * 9)).length = N * 9 := by rw [List.length_append, List.length_take, hdl]; omega
    refine ⟨r2.os, r2.tape, r2.output, r2.size, r2.others, r2.place, r2.block, r2.room, by rw [e0, e1, hl]; omega, fun j u hj => r2.holds j u ?_⟩
    rw [e0, e1] at hj
    have hjl := (List.getElem?_eq_some_iff.1 hj).1
    rw [List.append_assoc, List.getElem?_append_left (by rw [List.length_take, List.length_append, hl]; omega), List.getElem?_take_of_lt (by omega), List.getElem?_append_left hjl]
    exact hj
  rcases hw with rfl | rfl
  · exact key _ (rowPost_start h1 h2 hC (by omega))
  · exact key _ (rowPost_start h1 h2 hC (by omega)).drew
end

theorem F_slices_Delete___api_Alarm_api_Alarm__ok {p0 : List T_Alarm} {p1 : Int} {p2 : Int} {r : List T_Alarm} (hF : F_slices_Delete___api_Alarm_api_Alarm_ p0 p1 p2 = some r) {low : List AObj} {q0 w0 : Nat} (hnd : [q0].Nodup) {m0 : Nat} (hm0 : m0 = (p0).length) (hq0 : low[q0]? = some ⟨32, 9, Xt T_Alarm.enc p0, w0⟩) {n : Nat} (hn : low.length = n) :
    Xk Try.prog 53 [.sl q0 w0 0 (p0).length, .int .i64 p1, .int .i64 p2] low fun x low' => x = .sl q0 (w0 + 1) 0 (r).length ∧ low' = setL low [(q0, ⟨32, 9, Xt T_Alarm.enc r, w0 + 1⟩)] ++ [] := by
  unfold F_slices_Delete___api_Alarm_api_Alarm_ at hF
  by_cases hc : 0 ≤ p1 ∧ p1 < (p0.length : Int) ∧ p2 = p1 + 1
  · rw [decide_eq_true hc, cond_true] at hF
    injection hF with hF
    subst hF
    obtain ⟨c0, c1, rfl⟩ := hc; obtain ⟨i, rfl⟩ : ∃ i : Nat, p1 = (i : Int) := ⟨p1.toNat, by omega⟩; refine (vcalls_delete kdelete32 (by decide) (i := i) (by rw [Xz]; omega) hq0 (fun x hx => by obtain ⟨y, _, rfl⟩ := List.mem_map.1 hx; exact (T_Alarm.enc_lt _)) (by rw [Xz])).mono ?_; rintro x low' ⟨rfl, rfl⟩; refine ⟨?_, ?_⟩
    · rw [Xz]
      simp only [Int.toNat_natCast, List.length_append, List.length_take, List.length_drop]
      congr 1
      omega
    · simp [setL]
  · rw [decide_eq_false hc, cond_false] at hF
    cases hF

theorem F_alarms_put_ok {p0 : List T_Alarm} {p1 : Int} {p2 : T_Alarm} {r : List T_Alarm} (hF : F_alarms_put p0 p1 p2 = some r) (low : List AObj) :
    Xk Try.prog 45 [.vs 9 (Xt T_Alarm.enc p0), .int .i64 p1, .agg (zA p2)] low fun x low' => x = .vs 9 (Xt T_Alarm.enc r) ∧ low' = low := by
 refine Vr (nt := 27) (rs := [.tmp 6]) Try.func45 rfl rfl (Xw rfl) rfl (Vn (Q' := FnE (fun E' lw lc => Xj E' lw lc [(6, .vs 9 (Xt T_Alarm.enc r))] low [])) ?_ ?_)
 ·unfold F_alarms_put at hF; refine Ve (Vb (Vi (vef_boxN rfl rfl (v := .agg (zA p2)) rfl rfl (Xx _) rfl rfl) rfl (Va (rd_nv (sz := 9) (rd_asN rfl)) rfl (Vd (Ve (Vb ?_)))))); obtain ⟨x1, h2, hF⟩ := Xp hF; refine Va (Vu rfl) rfl (Vi (vef_callN (r := .sl (low.length + 1) 0 0 (x1).length) (os := [⟨32, 9, Xt T_Alarm.enc x1, 0⟩]) rfl Try.call39 (F_slices_Clone___api_Alarm_api_Alarm__ok h2 _ (len_app rfl rfl))) rfl (Va (rd_asL rfl) rfl (Vd (Ve (Ve ?_))))); obtain ⟨o3, ho3, hF⟩ := Xp hF; refine Vn (Q' := (fun o3 => OnlyE .normal (fun E' lw lc => Xj E' lw lc [(1, .int .i64 p1), (5, .ptr (low.length + 0) 0 0 0), (7, .sl (low.length + 1) 0 0 (x1).length), (16, .bool o3)] low [(zB p2 0), ⟨32, 9, Xt T_Alarm.enc x1, 0⟩])) o3) ?_ ?_
  ·replace hF := ho3; refine Vb ?_
   rcases Xy (!p2.Active) with c4 | c4
   ·have hF := Xg c4 hF; refine Va (Vl rfl tf_32_5 ts_4 (by decide)) rfl (Va (Xa rfl (Vx rfl rfl) rfl ta_4 rfl) rfl (Va (Xn rfl) rfl (Va (Vh rfl) rfl (Xe rfl rfl c4 (Va (Vl rfl tf_32_6 ts_4 (by decide)) rfl (Xe rfl rfl c4 (Va (Xa rfl (Vx rfl rfl) rfl ta_4 rfl) rfl (Va (Vk (congrArg Xu c4) rfl) rfl ?_)))))))); refine Vd ?_; obtain rfl := Xv hF; refine Xb ?_; exact Vg ⟨rfl, rfl, rfl, rfl, trivial⟩
   ·have hF := Xh c4 hF; refine Va (Vl rfl tf_32_5 ts_4 (by decide)) rfl (Va (Xa rfl (Vx rfl rfl) rfl ta_4 rfl) rfl (Va (Xn rfl) rfl (Va (Vh rfl) rfl (Vc rfl rfl (neF c4) rfl (Vc rfl rfl (neF c4) rfl (Va (Vj (congrArg Xu c4) rfl) rfl (Vd ?_))))))); obtain rfl := Xv hF; refine Xb ?_; exact Vg ⟨rfl, rfl, rfl, rfl, trivial⟩
  ·rintro _ _ _ _ ⟨rfl, hw⟩; refine ⟨_, _, _, hw, ?_⟩; refine Vp rfl (fun c5 => ?_) (fun c5 => ?_)
   ·have hF := Xg c5 hF; refine Ve (Vb ?_); obtain ⟨x6, h7, hF⟩ := Xp hF; refine Va (Xq rfl) rfl (Va (Vf rfl) rfl (Va (Vf rfl) rfl (Va (rd_add rfl rfl rfl) rfl (Vi (vef_callS (ps := [((low.length + 1), ⟨32, 9, Xt T_Alarm.enc x6, 0 + 1⟩)]) (r := .sl (low.length + 1) (0 + 1) 0 (x6).length) (os := []) (low1 := low) (loc1 := [(zB p2 0), ⟨32, 9, Xt T_Alarm.enc x6, 0 + 1⟩]) (loc2 := [(zB p2 0), ⟨32, 9, Xt T_Alarm.enc x6, 0 + 1⟩]) rfl Try.call53 (F_slices_Delete___api_Alarm_api_Alarm__ok h7 (nd1 na0 nd0) (rfl : (x1).length = _) (get_N rfl rfl) (len_app rfl rfl)) (sets_own (loc2 := [(zB p2 0), ⟨32, 9, Xt T_Alarm.enc x6, 0 + 1⟩]) rfl 1 rfl sets_nil) rfl) rfl (Va (rd_asL rfl) rfl (Vd (Vq ?_))))))); obtain rfl := Xv hF; refine fnR (Weak.trans (weak_freezeN (E' := [(6, .vs 9 (Xt T_Alarm.enc x6))]) (loc1 := [(zB p2 0), ⟨32, 9, [], (0 + 1) + 1⟩]) rfl 1 rfl (lt_map T_Alarm.enc_lt) ⟨cv_sl rfl rfl rfl (full_take rfl), trivial⟩ ⟨.refl _, .refl _, trivial⟩) ?_); exact Vv rfl [] (by decide) ⟨Vy rfl (.vs _ _), trivial⟩ trivial
   ·have hF := Xh c5 hF; refine Vs (Ve (Vb ?_)); obtain ⟨x8, h9, hF⟩ := Xp hF; refine Va (Xq rfl) rfl (Va (Vf rfl) rfl (Va (rd_loadN (ds := (zA p2)) rfl (Vx rfl rfl) rfl ta_32 ts_32 rfl rfl rfl) rfl (Va (rd_ixS rfl rfl rfl (Vx rfl rfl) h9 te_27 ts_32) rfl (Vi (vef_stL (p := .agg (zA p2)) (e' := p2) rfl (Vx rfl rfl) (Xr h9).2 rfl ts_32 rfl (nt_ne rfl) (Xw rfl) rfl (setO_N rfl rfl)) rfl (Vd (Ve (Vb (Va (Xq rfl) rfl ?_)))))))); refine Va (rd_asL rfl) rfl (Vd (Vq ?_)); obtain rfl := Xv hF; refine fnR (Weak.trans (weak_freezeN (E' := [(6, .vs 9 (Xt T_Alarm.enc (x1.set ((p1).toNat) p2)))]) (loc1 := [(zB p2 0), ⟨32, 9, [], 0 + 1⟩]) rfl 1 rfl (lt_map T_Alarm.enc_lt) ⟨cv_sl rfl rfl rfl (full_take (Eq.trans rfl List.length_set.symm)), trivial⟩ ⟨.refl _, .refl _, trivial⟩) ?_); exact Vv rfl [] (by decide) ⟨Vy rfl (.vs _ _), trivial⟩ trivial
 ·rintro _ _ _ _ ⟨he, hw⟩; refine ⟨_, _, _, hw, ?_⟩; exact Xd he [.vs 9 (Xt T_Alarm.enc r)] ⟨rfl, trivial⟩ (.vs _ _) ⟨rfl, rfl⟩

theorem F_alarms_End_ok {p0 : List T_Alarm} {p1 : Int} {p2 : Int} {p3 : Int} {r : List T_Alarm × Int} (hF : F_alarms_End p0 p1 p2 p3 = some r) (low : List AObj) :
    Xk Try.prog 23 [.vs 9 (Xt T_Alarm.enc p0), .int .i64 p1, .int .i64 p2, .int .i64 p3] low fun x low' => x = .tup [.vs 9 (Xt T_Alarm.enc r.1), .int .i64 r.2] ∧ low' = low := by
 refine Vr (nt := 47) (rs := [.tmp 8, .tmp 9]) Try.func23 rfl rfl (Xw rfl) rfl (Vn (Q' := FnE (fun E' lw lc => Xj E' lw lc [(8, .vs 9 (Xt T_Alarm.enc r.1)), (9, .int .i64 r.2)] low [])) ?_ ?_)
 ·unfold F_alarms_End at hF; refine Ve (Vb (Va (rd_nv (sz := 9) (rd_asN rfl)) rfl (Va (Vm rfl) rfl (Vd (Ve (Vb ?_)))))); obtain ⟨x1, h2, hF⟩ := Xp hF; refine Va (Vu rfl) rfl (Va (Vf rfl) rfl (Va (Vf rfl) rfl (Vi (Vo rfl Try.call44 (F_alarms_find_ok h2 _)) rfl (Va (rd_mvT rfl) rfl (Va (Xc rfl rfl) rfl (Va (Xc rfl rfl) rfl (Va (Vm rfl) rfl (Va (Vm rfl) rfl ?_)))))))); refine Vd (Ve (Ve (Vb (Va (Vf rfl) rfl (Va (rd_neq rfl rfl) rfl (Vd (Vp rfl (fun c3 => ?_) (fun c3 => ?_))))))))
  ·have hF := Xg c3 hF; refine Ve (Vb (Va (Vu rfl) rfl (Va (Vf rfl) rfl (Va (rd_asV rfl) rfl (Va (Vm rfl) rfl (Vd (Vq ?_))))))); obtain rfl := Xv hF; refine fnR ?_; exact Vg ⟨rfl, rfl, trivial⟩
  ·have hF := Xh c3 hF; refine Vs (Ve (Vb ?_)); obtain ⟨x4, h5, hF⟩ := Xp hF; refine Va (Vu rfl) rfl (Va (Vf rfl) rfl (Va (Xl (rd_ixV rfl rfl h5 te_27 ts_32) (v' := .vptr (zA x4) 0) rfl) rfl (Va (rd_loadVN (ds := (zA x4)) rfl ta_32 ts_32 rfl rfl) rfl (Vi (vef_allocN rfl rfl tz_32 rfl rfl (Xx _) rfl) rfl (Vi (vef_store (p := .agg (zA x4)) (e' := .agg (zA x4)) rfl (Vx rfl rfl) rfl rfl ts_32 rfl (nt_ne rfl) rfl (Xw rfl) rfl (setO_N rfl rfl)) rfl (Vd (Ve (Xf ?_)))))))); refine Ve (Vb (Va (Vl rfl tf_32_5 ts_4 (by decide)) rfl (Va (Xa rfl (Vx rfl rfl) rfl ta_4 rfl) rfl (Va (Xn rfl) rfl (Va (Vw rfl) rfl (Vd (Vp rfl (fun c6 => ?_) (fun c6 => ?_))))))))
   ·have hF := Xg c6 hF; refine Ve (Vb (Va (Vu rfl) rfl (Va (rd_asV rfl) rfl (Va (Vm rfl) rfl (Vd (Vq ?_)))))); obtain rfl := Xv hF; refine fnR ?_; exact Vv rfl [] (by decide) ⟨Vy rfl (.vs _ _), Vy rfl (.int _ _), trivial⟩ trivial
   ·have hF := Xh c6 hF; refine Ve (Vb ?_); obtain ⟨x7, h8, hF⟩ := Xp hF; refine Va (Vf rfl) rfl (Va (Vl rfl tf_32_3 ts_3 (by decide)) rfl (Va (Xa rfl (Vx rfl rfl) rfl ta_3 rfl) rfl (Vi (Vo rfl Try.call35 (F_lists_In_ok h8 _)) rfl (Va (Xn rfl) rfl (Va (Vw rfl) rfl (Vd (Vp rfl (fun c9 => ?_) (fun c9 => ?_))))))))
    ·have hF := Xg c9 hF; refine Ve (Vb (Va (Vu rfl) rfl (Va (rd_asV rfl) rfl (Va (Vm rfl) rfl (Vd (Vq ?_)))))); obtain rfl := Xv hF; refine fnR ?_; exact Vv rfl [] (by decide) ⟨Vy rfl (.vs _ _), Vy rfl (.int _ _), trivial⟩ trivial
    ·have hF := Xh c9 hF; refine Vs (Ve (Vb (Va (Vf rfl) rfl (Va (Vl rfl tf_32_5 ts_4 (by decide)) rfl (Vi (vef_store (p := .bool false) (e' := .agg [.int .i64 x4.Kind, .int .i64 x4.Subject, .int .i64 x4.Priority, .int .i64 x4.Raised, .int .i64 x4.Ended, .bool false, .bool x4.Acked, .int .i64 x4.Hidden, .int .i64 x4.Count]) rfl (Vx rfl rfl) rfl rfl ts_4 rfl (nt_ne rfl) rfl (Xw rfl) rfl (setO_N rfl rfl)) rfl (Va (Vl rfl tf_32_4 ts_3 (by decide)) rfl (Vi (vef_store (p := .int .i64 p3) (e' := .agg [.int .i64 x4.Kind, .int .i64 x4.Subject, .int .i64 x4.Priority, .int .i64 x4.Raised, .int .i64 p3, .bool false, .bool x4.Acked, .int .i64 x4.Hidden, .int .i64 x4.Count]) rfl (Vx rfl rfl) rfl rfl ts_3 rfl (nt_ne rfl) rfl (Xw rfl) rfl (setO_N rfl rfl)) rfl (Vd ?_)))))))); refine Ve (vwp_weak (show Xj _ _ _ [(0, .vs 9 (Xt T_Alarm.enc p0)), (10, .int .i64 x1.1), (12, .ptr (low.length + 0) 0 0 0)] low [⟨32, 9, [.agg [.int .i64 x4.Kind, .int .i64 x4.Subject, .int .i64 x4.Priority, .int .i64 x4.Raised, .int .i64 p3, .bool false, .bool x4.Acked, .int .i64 x4.Hidden, .int .i64 x4.Count]], 0⟩] from Vg ⟨rfl, rfl, rfl, trivial⟩) (Vb ?_)); obtain ⟨x10, h11, hF⟩ := Xp hF; refine Va (Vu rfl) rfl (Va (Vf rfl) rfl (Va (rd_loadN (ds := [.int .i64 x4.Kind, .int .i64 x4.Subject, .int .i64 x4.Priority, .int .i64 x4.Raised, .int .i64 p3, .bool false, .bool x4.Acked, .int .i64 x4.Hidden, .int .i64 x4.Count]) rfl (Vx rfl rfl) rfl ta_32 ts_32 rfl rfl rfl) rfl (Vi (Vo rfl Try.call45 (F_alarms_put_ok h11 _)) rfl (Va (rd_asV rfl) rfl (Va (Vm rfl) rfl (Vd (Vq ?_))))))); obtain rfl := Xv hF; refine fnR ?_; exact Vv rfl [] (by decide) ⟨Vy rfl (.vs _ _), Vy rfl (.int _ _), trivial⟩ trivial
 ·rintro _ _ _ _ ⟨he, hw⟩; refine ⟨_, _, _, hw, ?_⟩; exact Xd he [.vs 9 (Xt T_Alarm.enc r.1), .int .i64 r.2] ⟨rfl, rfl, trivial⟩ ((lt_tup ⟨.vs _ _, .int _ _, trivial⟩)) ⟨rfl, rfl⟩

theorem F_alarms_Acknowledge_ok {p0 : List T_Alarm} {p1 : Int} {p2 : Int} {r : List T_Alarm × Int} (hF : F_alarms_Acknowledge p0 p1 p2 = some r) (low : List AObj) :
    Xk Try.prog 24 [.vs 9 (Xt T_Alarm.enc p0), .int .i64 p1, .int .i64 p2] low fun x low' => x = .tup [.vs 9 (Xt T_Alarm.enc r.1), .int .i64 r.2] ∧ low' = low := by
 refine Vr (nt := 34) (rs := [.tmp 6, .tmp 7]) Try.func24 rfl rfl (Xw rfl) rfl (Vn (Q' := FnE (fun E' lw lc => Xj E' lw lc [(6, .vs 9 (Xt T_Alarm.enc r.1)), (7, .int .i64 r.2)] low [])) ?_ ?_)
 ·unfold F_alarms_Acknowledge at hF; refine Ve (Vb (Va (rd_nv (sz := 9) (rd_asN rfl)) rfl (Va (Vm rfl) rfl (Vd (Ve (Vb ?_)))))); obtain ⟨x1, h2, hF⟩ := Xp hF; refine Va (Vu rfl) rfl (Va (Vf rfl) rfl (Va (Vf rfl) rfl (Vi (Vo rfl Try.call44 (F_alarms_find_ok h2 _)) rfl (Va (rd_mvT rfl) rfl (Va (Xc rfl rfl) rfl (Va (Xc rfl rfl) rfl (Va (Vm rfl) rfl (Va (Vm rfl) rfl ?_)))))))); refine Vd (Ve (Ve (Vb (Va (Vf rfl) rfl (Va (rd_neq rfl rfl) rfl (Vd (Vp rfl (fun c3 => ?_) (fun c3 => ?_))))))))
  ·have hF := Xg c3 hF; refine Ve (Vb (Va (Vu rfl) rfl (Va (Vf rfl) rfl (Va (rd_asV rfl) rfl (Va (Vm rfl) rfl (Vd (Vq ?_))))))); obtain rfl := Xv hF; refine fnR ?_; exact Vg ⟨rfl, rfl, trivial⟩
  ·have hF := Xh c3 hF; refine Vs (Ve (Vb ?_)); obtain ⟨x4, h5, hF⟩ := Xp hF; refine Va (Vu rfl) rfl (Va (Vf rfl) rfl (Va (Xl (rd_ixV rfl rfl h5 te_27 ts_32) (v' := .vptr (zA x4) 0) rfl) rfl (Va (rd_loadVN (ds := (zA x4)) rfl ta_32 ts_32 rfl rfl) rfl (Vi (vef_allocN rfl rfl tz_32 rfl rfl (Xx _) rfl) rfl (Vi (vef_store (p := .agg (zA x4)) (e' := .agg (zA x4)) rfl (Vx rfl rfl) rfl rfl ts_32 rfl (nt_ne rfl) rfl (Xw rfl) rfl (setO_N rfl rfl)) rfl (Vd (Ve (Ve ?_)))))))); refine Vb (Va (Vl rfl tf_32_6 ts_4 (by decide)) rfl (Va (Xa rfl (Vx rfl rfl) rfl ta_4 rfl) rfl (Vd (Vp rfl (fun c6 => ?_) (fun c6 => ?_)))))
   ·have hF := Xg c6 hF; refine Ve (Vb (Va (Vu rfl) rfl (Va (rd_asV rfl) rfl (Va (Vm rfl) rfl (Vd (Vq ?_)))))); obtain rfl := Xv hF; refine fnR ?_; exact Vv rfl [] (by decide) ⟨Vy rfl (.vs _ _), Vy rfl (.int _ _), trivial⟩ trivial
   ·have hF := Xh c6 hF; refine Vs (Ve (Vb (Va (Vl rfl tf_32_6 ts_4 (by decide)) rfl (Vi (vef_store (p := .bool true) (e' := .agg [.int .i64 x4.Kind, .int .i64 x4.Subject, .int .i64 x4.Priority, .int .i64 x4.Raised, .int .i64 x4.Ended, .bool x4.Active, .bool true, .int .i64 x4.Hidden, .int .i64 x4.Count]) rfl (Vx rfl rfl) rfl rfl ts_4 rfl (nt_ne rfl) rfl (Xw rfl) rfl (setO_N rfl rfl)) rfl (Vd (Ve (Vb ?_))))))); obtain ⟨x7, h8, hF⟩ := Xp hF; refine Va (Vu rfl) rfl (Va (Vf rfl) rfl (Va (rd_loadN (ds := [.int .i64 x4.Kind, .int .i64 x4.Subject, .int .i64 x4.Priority, .int .i64 x4.Raised, .int .i64 x4.Ended, .bool x4.Active, .bool true, .int .i64 x4.Hidden, .int .i64 x4.Count]) rfl (Vx rfl rfl) rfl ta_32 ts_32 rfl rfl rfl) rfl (Vi (Vo rfl Try.call45 (F_alarms_put_ok h8 _)) rfl (Va (rd_asV rfl) rfl (Va (Vm rfl) rfl (Vd (Vq ?_))))))); obtain rfl := Xv hF; refine fnR ?_; exact Vv rfl [] (by decide) ⟨Vy rfl (.vs _ _), Vy rfl (.int _ _), trivial⟩ trivial
 ·rintro _ _ _ _ ⟨he, hw⟩; refine ⟨_, _, _, hw, ?_⟩; exact Xd he [.vs 9 (Xt T_Alarm.enc r.1), .int .i64 r.2] ⟨rfl, rfl, trivial⟩ ((lt_tup ⟨.vs _ _, .int _ _, trivial⟩)) ⟨rfl, rfl⟩

theorem F_alarms_Shown_1_ok {p0 : T_Alarm} {r : Int} (hF : F_alarms_Shown_1 p0 = some r) (low : List AObj) :
    Xk Try.prog 30 [.agg (zA p0)] low fun x low' => x = .int .i64 r ∧ low' = low := by
 refine Vr (nt := 5) (rs := [.tmp 2]) Try.func30 rfl rfl (Xw rfl) rfl (Vn (Q' := FnE (fun E' lw lc => Xj E' lw lc [(2, .int .i64 r)] low [])) ?_ ?_)
 ·unfold F_alarms_Shown_1 at hF; refine Ve (Vb (Vi (vef_boxN rfl rfl (v := .agg (zA p0)) rfl rfl (Xx _) rfl rfl) rfl (Va (Vm rfl) rfl (Vd (Ve (Ve (Vb (Va (Vl rfl tf_32_6 ts_4 (by decide)) rfl ?_)))))))); refine Va (Xa rfl (Vx rfl rfl) rfl ta_4 rfl) rfl (Vd (Vp rfl (fun c1 => ?_) (fun c1 => ?_)))
  ·have hF := Xg c1 hF; refine Ve (Vb (Va (Vm rfl) rfl (Vd (Vq ?_)))); obtain rfl := Xv hF; refine fnR ?_; exact Vv rfl [] (by decide) ⟨Vy rfl (.int _ _), trivial⟩ trivial
  ·have hF := Xh c1 hF; refine Vs (Ve (Vb (Va (Vm rfl) rfl (Vd (Vq ?_))))); obtain rfl := Xv hF; refine fnR ?_; exact Vv rfl [] (by decide) ⟨Vy rfl (.int _ _), trivial⟩ trivial
 ·rintro _ _ _ _ ⟨he, hw⟩; refine ⟨_, _, _, hw, ?_⟩; exact Xd he [.int .i64 r] ⟨rfl, trivial⟩ (.int _ _) ⟨rfl, rfl⟩

theorem F_alarms_Shown_2_ok0 {p0 : T_Alarm} {p1 : T_Alarm} {r : Int} (hF : F_alarms_Shown_2 p0 p1 = some r) {low0 : List AObj} {q0 w0 : Nat} (hB : Bor low0 [q0]) {n : Nat} (hn : low0.length = n) :
    Xk Try.prog 32 [.agg (zA p0), .agg (zA p1), .ptr q0 w0 0 0] (setL low0 [(q0, ⟨52, 1, [.fn 30 [] []], w0⟩)]) fun x low' => x = .int .i64 r ∧ low' = setL low0 [(q0, ⟨52, 1, [.fn 30 [] []], w0⟩)] ++ [] := by
 refine Vr (nt := 25) (rs := [.tmp 5]) Try.func32 rfl rfl (Xw rfl) rfl ?_
 have hq0 : q0 < n := hB.ltN hn 0 rfl
 refine Vn (Q' := FnE (fun E' lw lc => Xj E' lw lc [(5, .int .i64 r)] (setL low0 [(q0, ⟨52, 1, [.fn 30 [] []], w0⟩)]) [])) ?_ ?_
 ·unfold F_alarms_Shown_2 at hF; refine Ve (Vb (Vi (vef_boxN (lenS hn) rfl (v := .agg (zA p0)) rfl rfl (Xx _) rfl rfl) rfl (Vi (vef_boxN (lenS hn) rfl (v := .agg (zA p1)) rfl rfl (Xx _) rfl rfl) rfl (Va (Vm rfl) rfl (Vd (Ve ?_)))))); obtain ⟨x1, h2, hF⟩ := Xp hF; obtain ⟨x3, h4, hF⟩ := Xp hF; obtain ⟨x5, h6, hF⟩ := Xp hF; obtain ⟨x7, h8, hF⟩ := Xp hF; obtain ⟨x9, h10, hF⟩ := Xp hF; obtain ⟨x11, h12, hF⟩ := Xp hF; refine vwp_drawn0 [[], [0], [], [2], [0, 1, 2, 3], [], [], (List.range 7), [], [], (List.range 10), (List.range 11), [], [12], [], [14], (List.range 16), (List.range 17), (List.range 18), (List.range 19)] mixed (by kernel_rfl) rfl (Xs rfl rfl (Vl rfl tf_32_2 ts_3 (by decide)) (Xs rfl rfl (Xa rfl (Vx (lenS hn) rfl) rfl ta_3 rfl) (Xs rfl rfl (Vl rfl tf_32_2 ts_3 (by decide)) (Xs rfl rfl (Xa rfl (Vx (lenS hn) rfl) rfl ta_3 rfl) (dn1 rfl rfl (nt_of (Vo rfl Try.call34 (F_cmp_Compare_int__ok h2 _))) (Xs rfl rfl (Xa rfl (Xo hB rfl 0 rfl) rfl ta_52 rfl) (Xs rfl rfl (rd_loadN (ds := (zA p0)) rfl (Vx (lenS hn) rfl) rfl ta_32 ts_32 rfl rfl rfl) (dn1 rfl rfl (nt_of (Vo rfl Try.call30 (F_alarms_Shown_1_ok h4 _))) ?_)))))))); refine Xs rfl rfl (Xa rfl (Xo hB rfl 0 rfl) rfl ta_52 rfl) (Xs rfl rfl (rd_loadN (ds := (zA p1)) rfl (Vx (lenS hn) rfl) rfl ta_32 ts_32 rfl rfl rfl) (dn1 rfl rfl (nt_of (Vo rfl Try.call30 (F_alarms_Shown_1_ok h6 _))) (dn1 rfl rfl (nt_of (Vo rfl Try.call34 (F_cmp_Compare_int__ok h8 _))) (Xs rfl rfl (Vl rfl tf_32_3 ts_3 (by decide)) (Xs rfl rfl (Xa rfl (Vx (lenS hn) rfl) rfl ta_3 rfl) (Xs rfl rfl (Vl rfl tf_32_3 ts_3 (by decide)) (Xs rfl rfl (Xa rfl (Vx (lenS hn) rfl) rfl ta_3 rfl) (dn1 rfl rfl (nt_of (Vo rfl Try.call34 (F_cmp_Compare_int__ok h10 _))) ?_)))))))); refine dn1 rfl rfl (nt_of (vef_litF (es := Xt (PV.int .i64) [x1, x7, x9]) ⟨rfl, rfl, rfl, rfl, rfl, rfl, trivial⟩ rfl rfl (nt_all rfl) te_22 ts_3 tz_3 rfl rfl (Xx _) (by decide) (lt_map (fun _ => .int _ _)))) (dn1 rfl rfl (nt_of (Vo rfl Try.call33 (F_cmp_Or_int__ok h12 _))) (Xs rfl rfl (Vm rfl) (dops_nil (Vq ?_)))); obtain rfl := Xv hF; refine fnR ?_; exact Vv (lenS hn) [] (by decide) ⟨Vy rfl (.int _ _), trivial⟩ trivial
 ·rintro _ _ _ _ ⟨he, hw⟩; refine ⟨_, _, _, hw, ?_⟩; exact Xd he [.int .i64 r] ⟨rfl, trivial⟩ (.int _ _) ⟨rfl, (List.append_nil _).symm⟩

theorem F_alarms_Shown_2_ok {p0 : T_Alarm} {p1 : T_Alarm} {r : Int} (hF : F_alarms_Shown_2 p0 p1 = some r) {low : List AObj} {q0 w0 : Nat} (hnd : [q0].Nodup) (hq0 : low[q0]? = some ⟨52, 1, [.fn 30 [] []], w0⟩) {n : Nat} (hn : low.length = n) :
    Xk Try.prog 32 [.agg (zA p0), .agg (zA p1), .ptr q0 w0 0 0] low fun x low' => x = .int .i64 r ∧ low' = setL low [(q0, ⟨52, 1, [.fn 30 [] []], w0⟩)] ++ [] := by
  obtain ⟨h1, h2⟩ := bor_start (ps := [(q0, ⟨52, 1, [.fn 30 [] []], w0⟩)]) hnd (borC hq0 bor0); exact vcalls_low h1 (F_alarms_Shown_2_ok0 hF h2 hn)

theorem F_slices_insertionSortCmpFunc_api_Alarm___alarms_Shown_2_ok0 {p0 : List T_Alarm} {p1 : Int} {p2 : Int} {r : List T_Alarm} (hF : F_slices_insertionSortCmpFunc_api_Alarm___alarms_Shown_2 p0 p1 p2 = some r) {low0 : List AObj} {q0 q1 w0 w1 : Nat} (hB : Bor low0 [q0, q1]) {m0 : Nat} (hm0 : m0 = (p0).length) {n : Nat} (hn : low0.length = n) :
    Xk Try.prog 54 [.sl q0 w0 0 m0, .int .i64 p1, .int .i64 p2, .fn 32 [] [.ptr q1 w1 0 0]] (setL low0 [(q0, ⟨32, 9, Xt T_Alarm.enc p0, w0⟩), (q1, ⟨52, 1, [.fn 30 [] []], w1⟩)]) fun x low' => x = .tup [] ∧ low' = setL low0 [(q0, ⟨32, 9, Xt T_Alarm.enc r, w0⟩), (q1, ⟨52, 1, [.fn 30 [] []], w1⟩)] ++ [] := by
 refine Vr (nt := 53) (rs := []) Try.func54 rfl rfl (Xw rfl) rfl ?_
 have hq0 : q0 < n := hB.ltN hn 0 rfl
 have hq1 : q1 < n := hB.ltN hn 1 rfl
 refine Vn (Q' := FnE (fun E' lw lc => m0 = (r).length ∧ Xj E' lw lc [] (setL low0 [(q0, ⟨32, 9, Xt T_Alarm.enc r, w0⟩), (q1, ⟨52, 1, [.fn 30 [] []], w1⟩)]) [])) ?_ ?_
 ·unfold F_slices_insertionSortCmpFunc_api_Alarm___alarms_Shown_2 at hF; refine Ve (Vb (Va (Vf rfl) rfl (Va (rd_add rfl rfl rfl) rfl (Va (Vm rfl) rfl (Vd (Xf ?_)))))); obtain ⟨o3, ho3, hF⟩ := Xp hF; refine Vn (vwp_loopC (F_slices_insertionSortCmpFunc_api_Alarm___alarms_Shown_2_L1 p1 p2) (fun s2 E' lw lc => m0 = (s2.2).length ∧ Xj E' lw lc [(0, .sl q0 w0 0 m0), (1, .int .i64 p1), (2, .int .i64 p2), (3, .fn 32 [] [.ptr q1 w1 0 0]), (8, .int .i64 s2.1)] (setL low0 [(q0, ⟨32, 9, Xt T_Alarm.enc s2.2, w0⟩), (q1, ⟨52, 1, [.fn 30 [] []], w1⟩)]) []) (fun o3 => OnlyE (.exit 0) (fun E' lw lc => m0 = (o3).length ∧ Xj E' lw lc [] (setL low0 [(q0, ⟨32, 9, Xt T_Alarm.enc o3, w0⟩), (q1, ⟨52, 1, [.fn 30 [] []], w1⟩)]) [])) ho3 ⟨hm0, ?_⟩ (by rintro _ _ _ _ ⟨h, _⟩ <;> cases h) ?_) ?_
  ·exact Vg ⟨rfl, rfl, rfl, rfl, rfl, trivial⟩
  ·rintro s2 os2 _ _ _ hF ⟨hls2_0, hw⟩; unfold F_slices_insertionSortCmpFunc_api_Alarm___alarms_Shown_2_L1 at hF; refine vwp_weak hw (Ve (Ve (Vb (Va (Vf rfl) rfl (Va (Vf rfl) rfl (Va (rd_lss rfl rfl) rfl (Vd (Vp rfl (fun c4 => ?_) (fun c4 => ?_)))))))))
   ·have hF := Xg c4 hF; refine Vs (Ve (Xf (Ve (Vb (Va (Vf rfl) rfl (Va (Vm rfl) rfl (Vd (Xf ?_)))))))); obtain ⟨o6, ho6, hF⟩ := Xp hF; refine Vn (vwp_loopC (F_slices_insertionSortCmpFunc_api_Alarm___alarms_Shown_2_L2 p1) (fun s5 E' lw lc => m0 = (s5.2).length ∧ Xj E' lw lc [(0, .sl q0 w0 0 m0), (1, .int .i64 p1), (2, .int .i64 p2), (3, .fn 32 [] [.ptr q1 w1 0 0]), (8, .int .i64 s2.1), (9, .int .i64 s5.1)] (setL low0 [(q0, ⟨32, 9, Xt T_Alarm.enc s5.2, w0⟩), (q1, ⟨52, 1, [.fn 30 [] []], w1⟩)]) []) (fun o6 => OnlyE (.exit 2) (fun E' lw lc => m0 = (o6).length ∧ Xj E' lw lc [(0, .sl q0 w0 0 m0), (1, .int .i64 p1), (2, .int .i64 p2), (3, .fn 32 [] [.ptr q1 w1 0 0]), (8, .int .i64 s2.1)] (setL low0 [(q0, ⟨32, 9, Xt T_Alarm.enc o6, w0⟩), (q1, ⟨52, 1, [.fn 30 [] []], w1⟩)]) [])) ho6 ⟨hls2_0, ?_⟩ (by rintro _ _ _ _ ⟨h, _⟩ <;> cases h) ?_) ?_
    ·exact Vg ⟨rfl, rfl, rfl, rfl, rfl, rfl, trivial⟩
    ·rintro s5 os5 _ _ _ hF ⟨hls5_0, hw⟩; unfold F_slices_insertionSortCmpFunc_api_Alarm___alarms_Shown_2_L2 at hF; refine vwp_weak hw (Ve (Ve ?_)); obtain ⟨o7, ho7, hF⟩ := Xp hF; refine Vn (Q' := (fun o7 => OnlyE .normal (fun E' lw lc => Xj E' lw lc [(0, .sl q0 w0 0 m0), (1, .int .i64 p1), (2, .int .i64 p2), (3, .fn 32 [] [.ptr q1 w1 0 0]), (8, .int .i64 s2.1), (9, .int .i64 s5.1), (34, .bool o7)] (setL low0 [(q0, ⟨32, 9, Xt T_Alarm.enc s5.2, w0⟩), (q1, ⟨52, 1, [.fn 30 [] []], w1⟩)]) [])) o7) ?_ ?_
     ·replace hF := ho7
      rcases Xy (decide (p1 < s5.1)) with c8 | c8
      ·have hF := Xg c8 hF; obtain ⟨x9, h10, hF⟩ := Xp hF; obtain ⟨x11, h12, hF⟩ := Xp hF; obtain ⟨x13, h14, hF⟩ := Xp hF; refine vwp_drawn [[], [], [0, 1], [0, 1, 2], [0, 1, 2, 3], [0, 1, 2, 3], [0, 1, 2, 3], [0, 1, 2, 3, 5, 6], [0, 1, 2, 3, 5, 6, 7], [0, 1, 2, 3], [0, 1, 2, 3], [0, 1, 2, 3, 10], [0, 1, 2, 3, 9, 10, 11], [0, 1, 2, 3, 9, 10, 11, 12], (List.range 14), (List.range 15), (List.range 16)] [false, false, false, false, false, false, false, false, false, false, false, false, false, false, true, false, false] [((setL low0 [(q0, ⟨32, 9, Xt T_Alarm.enc s5.2, w0⟩), (q1, ⟨52, 1, [.fn 30 [] []], w1⟩)]), []), ((setL low0 [(q0, ⟨32, 9, Xt T_Alarm.enc s5.2, w0⟩), (q1, ⟨52, 1, [.fn 30 [] []], w1⟩)]), [])] mixed (by kernel_rfl) rfl (lenAll (all1 len_setL (all1 len_setL all0))) rfl _ rfl rfl (Xs rfl rfl (Vf rfl) (Xs rfl rfl (Vf rfl) (Xs rfl rfl (rd_gtr rfl rfl) (Xs rfl rfl (Vh rfl) (dt1 rfl rfl rfl rfl c8 (rd_mvF rfl) (dt1 rfl rfl rfl rfl c8 (Xq rfl) (dt1 rfl rfl rfl rfl c8 (Vf rfl) (dt1 rfl rfl rfl rfl c8 (rd_ixS rfl hls5_0 rfl (Xo hB rfl 0 rfl) h10 te_27 ts_32) ?_)))))))); refine dt1 rfl rfl rfl rfl c8 (rd_ldLN (ds := (zA x9)) rfl (Xo hB rfl 0 rfl) (Xr h10).2 ta_32 ts_32 rfl rfl) (dt1 rfl rfl rfl rfl c8 (Xq rfl) (dt1 rfl rfl rfl rfl c8 (Vf rfl) (dt1 rfl rfl rfl rfl c8 (rd_sub rfl rfl rfl) (dt1 rfl rfl rfl rfl c8 (rd_ixS rfl hls5_0 rfl (Xo hB rfl 0 rfl) h12 te_27 ts_32) (dt1 rfl rfl rfl rfl c8 (rd_ldLN (ds := (zA x11)) rfl (Xo hB rfl 0 rfl) (Xr h12).2 ta_32 ts_32 rfl rfl) (dops_efT rfl rfl (congrArg Xu c8) rfl rfl (vef_callS (ps := [(q1, ⟨52, 1, [.fn 30 [] []], w1⟩)]) (r := .int .i64 x13) (os := []) (low1 := (setL low0 [(q0, ⟨32, 9, Xt T_Alarm.enc s5.2, w0⟩), (q1, ⟨52, 1, [.fn 30 [] []], w1⟩)])) (loc1 := []) (loc2 := []) rfl Try.call32 (F_alarms_Shown_2_ok h14 (nd1 na0 nd0) (get_B hB rfl 1 rfl) (len_app (lenS hn) rfl)) (sets_B (ps0' := [(q0, ⟨32, 9, Xt T_Alarm.enc s5.2, w0⟩), (q1, ⟨52, 1, [.fn 30 [] []], w1⟩)]) hB rfl 1 rfl (ltObjN hn ⟨lt_fn trivial, trivial⟩) rfl sets_nil) rfl) (dt1 rfl rfl rfl rfl c8 (rd_lss rfl rfl) (Xs rfl rfl (Vk (congrArg Xu c8) rfl) ?_)))))))); refine dops_nil ?_; obtain rfl := Xv hF; refine Xb ?_; exact Vg ⟨rfl, rfl, rfl, rfl, rfl, rfl, rfl, trivial⟩
      ·have hF := Xh c8 hF; refine vwp_drawn0 [[], [], [0, 1], [0, 1, 2], [0, 1, 2, 3], [0, 1, 2, 3], [0, 1, 2, 3], [0, 1, 2, 3, 5, 6], [0, 1, 2, 3, 5, 6, 7], [0, 1, 2, 3], [0, 1, 2, 3], [0, 1, 2, 3, 10], [0, 1, 2, 3, 9, 10, 11], [0, 1, 2, 3, 9, 10, 11, 12], (List.range 14), (List.range 15), (List.range 16)] mixed (by kernel_rfl) rfl (Xs rfl rfl (Vf rfl) (Xs rfl rfl (Vf rfl) (Xs rfl rfl (rd_gtr rfl rfl) (Xs rfl rfl (Vh rfl) (Vz rfl rfl rfl (neF c8) (Vz rfl rfl rfl (neF c8) (Vz rfl rfl rfl (neF c8) (Vz rfl rfl rfl (neF c8) ?_)))))))); refine Vz rfl rfl rfl (neF c8) (Vz rfl rfl rfl (neF c8) (Vz rfl rfl rfl (neF c8) (Vz rfl rfl rfl (neF c8) (Vz rfl rfl rfl (neF c8) (Vz rfl rfl rfl (neF c8) (Vz rfl rfl rfl (neF c8) (Vz rfl rfl rfl (neF c8) (Xs rfl rfl (Vj (congrArg Xu c8) rfl) ?_)))))))); refine dops_nil ?_; obtain rfl := Xv hF; refine Xb ?_; exact Vg ⟨rfl, rfl, rfl, rfl, rfl, rfl, rfl, trivial⟩
     ·rintro _ _ _ _ ⟨rfl, hw⟩; refine ⟨_, _, _, hw, ?_⟩; refine Vp rfl (fun c15 => ?_) (fun c15 => ?_)
      ·have hF := Xg c15 hF; refine Vs (Ve (Xf ?_)); obtain ⟨x16, h17, hF⟩ := Xp hF; obtain ⟨x18, h19, hF⟩ := Xp hF; obtain ⟨x20, h21, hF⟩ := Xp hF; obtain ⟨x22, h23, hF⟩ := Xp hF; refine vwp_drawn [[], [], [], [], [3], [], [], [6], [5, 6, 7], [5, 6, 7, 8], [], [], [10, 11], [10, 11, 12], [0, 1, 5, 6, 7, 8, 9, 10, 11, 12, 13], [0, 1, 5, 6, 7, 8, 9, 10, 11, 12, 13, 14], (List.range 16), (List.range 17)] [false, false, false, false, false, false, false, false, false, false, false, false, false, false, false, true, false, true] [((setL low0 [(q0, ⟨32, 9, Xt T_Alarm.enc s5.2, w0⟩), (q1, ⟨52, 1, [.fn 30 [] []], w1⟩)]), []), ((setL low0 [(q0, ⟨32, 9, Xt T_Alarm.enc (s5.2.set ((s5.1).toNat) x16), w0⟩), (q1, ⟨52, 1, [.fn 30 [] []], w1⟩)]), []), ((setL low0 [(q0, ⟨32, 9, Xt T_Alarm.enc ((s5.2.set ((s5.1).toNat) x16).set (((IntKind.i64.wrap (s5.1 - 1))).toNat) x18), w0⟩), (q1, ⟨52, 1, [.fn 30 [] []], w1⟩)]), [])] mixed (by kernel_rfl) rfl (lenAll (all1 len_setL (all1 len_setL (all1 len_setL all0)))) rfl _ rfl rfl (Xs rfl rfl (Xq rfl) (Xs rfl rfl (Vf rfl) (dops_rdW _ rfl rfl (all1 (VRd.ntl (Xq rfl)) (all1 (VRd.ntl (Xq rfl)) all0)) (dops_rdW _ rfl rfl (all1 (VRd.ntl (Vf rfl)) (all1 (VRd.ntl (Vf rfl)) all0)) (dops_rdW _ rfl rfl (all1 (VRd.ntl (rd_sub rfl rfl rfl)) (all1 (VRd.ntl (rd_sub rfl rfl rfl)) all0)) (Xs rfl rfl (Xq rfl) (Xs rfl rfl (Vf rfl) (Xs rfl rfl (rd_sub rfl rfl rfl) ?_)))))))); refine Xs rfl rfl (rd_ixS rfl hls5_0 rfl (Xo hB rfl 0 rfl) h17 te_27 ts_32) (Xs rfl rfl (rd_ldLN (ds := (zA x16)) rfl (Xo hB rfl 0 rfl) (Xr h17).2 ta_32 ts_32 rfl rfl) (Xs rfl rfl (Xq rfl) (Xs rfl rfl (Vf rfl) (Xs rfl rfl (rd_ixS rfl hls5_0 rfl (Xo hB rfl 0 rfl) h19 te_27 ts_32) (Xs rfl rfl (rd_ldLN (ds := (zA x18)) rfl (Xo hB rfl 0 rfl) (Xr h19).2 ta_32 ts_32 rfl rfl) (Xs rfl rfl (rd_ixS rfl hls5_0 rfl (Xo hB rfl 0 rfl) h21 te_27 ts_32) (dops_ef rfl rfl rfl (vef_stL (p := .agg (zA x16)) (e' := x16) rfl (Xo hB rfl 0 rfl) (Xr h21).2 rfl ts_32 rfl (nt_ne rfl) (Xw rfl) rfl (setO_B hB rfl 0 rfl (ltObj_map T_Alarm.enc_lt) rfl)) (Xs rfl rfl (rd_ixS rfl (Eq.trans hls5_0 List.length_set.symm) rfl (Xo hB rfl 0 rfl) h23 te_27 ts_32) ?_)))))))); refine dops_ef rfl rfl rfl (vef_stL (p := .agg (zA x18)) (e' := x18) rfl (Xo hB rfl 0 rfl) (Xr h23).2 rfl ts_32 rfl (nt_ne rfl) (Xw rfl) rfl (setO_B hB rfl 0 rfl (ltObj_map T_Alarm.enc_lt) rfl)) (dops_nil (Vb (Va (Vf rfl) rfl (Va (rd_sub rfl rfl rfl) rfl (Va (Vm rfl) rfl (Vd ?_)))))); obtain rfl := Xv hF; refine And.intro rfl (And.intro (Eq.trans (Eq.trans hls5_0 List.length_set.symm) List.length_set.symm) ?_); exact Vg ⟨rfl, rfl, rfl, rfl, rfl, rfl, trivial⟩
      ·have hF := Xh c15 hF; refine vwp_exit ?_; obtain rfl := Xv hF; refine And.intro rfl (And.intro hls5_0 ?_); exact Vg ⟨rfl, rfl, rfl, rfl, rfl, trivial⟩
    ·rintro _ _ _ _ ⟨rfl, hl24, hw⟩; refine ⟨_, _, _, hw, ?_⟩; refine Vb (Va (Vf rfl) rfl (Va (rd_add rfl rfl rfl) rfl (Va (Vm rfl) rfl (Vd ?_)))); obtain rfl := Xv hF; refine And.intro rfl (And.intro hl24 ?_); exact Vg ⟨rfl, rfl, rfl, rfl, rfl, trivial⟩
   ·have hF := Xh c4 hF; refine vwp_exit ?_; obtain rfl := Xv hF; refine And.intro rfl (And.intro hls2_0 ?_); exact Vg trivial
  ·rintro _ _ _ _ ⟨rfl, hl25, hw⟩; refine ⟨_, _, _, hw, ?_⟩; obtain rfl := Xv hF; refine And.intro (.inl rfl) (And.intro hl25 ?_); exact Vg trivial
 ·rintro _ _ _ _ ⟨he, hl1, hw⟩; refine ⟨_, _, _, hw, ?_⟩; exact Xd he [] trivial ((lt_tup trivial)) ⟨rfl, (List.append_nil _).symm⟩

theorem F_slices_insertionSortCmpFunc_api_Alarm___alarms_Shown_2_len {p0 : List T_Alarm} {p1 : Int} {p2 : Int} {r : List T_Alarm} (hF : F_slices_insertionSortCmpFunc_api_Alarm___alarms_Shown_2 p0 p1 p2 = some r) {m0 : Nat} (hm0 : m0 = (p0).length) : m0 = (r).length ∧ True := by
  have h : LP (F_slices_insertionSortCmpFunc_api_Alarm___alarms_Shown_2 p0 p1 p2) (fun r => m0 = (r).length ∧ True) := by
    unfold F_slices_insertionSortCmpFunc_api_Alarm___alarms_Shown_2; exact (lp_bind (Q := fun o3 => m0 = (o3).length ∧ True) (lp_loop (fun s2 => m0 = (s2.2).length ∧ True) ⟨hm0, trivial⟩ (fun s2 ⟨hls2_0, _⟩ => by unfold F_slices_insertionSortCmpFunc_api_Alarm___alarms_Shown_2_L1; exact (lp_bif (fun c4 => lp_bind (Q := fun o6 => m0 = (o6).length ∧ True) (lp_loop (fun s5 => m0 = (s5.2).length ∧ True) ⟨hls2_0, trivial⟩ (fun s5 ⟨hls5_0, _⟩ => by unfold F_slices_insertionSortCmpFunc_api_Alarm___alarms_Shown_2_L2; exact (lp_bind (Q := fun o7 => True) (lp_bif (fun c8 => lp_bindE fun x9 h10 => lp_bindE fun x11 h12 => lp_bindE fun x13 h14 => lp_some trivial) (fun c8 => lp_some trivial)) (fun o7 _ => lp_bif (fun c15 => lp_bindE fun x16 h17 => lp_bindE fun x18 h19 => lp_bindE fun x20 h21 => lp_bindE fun x22 h23 => lp_some ⟨(Eq.trans (Eq.trans hls5_0 List.length_set.symm) List.length_set.symm), trivial⟩) (fun c15 => lp_some ⟨hls5_0, trivial⟩))))) (fun o6 ⟨hl24, _⟩ => lp_some ⟨hl24, trivial⟩)) (fun c4 => lp_some ⟨hls2_0, trivial⟩)))) (fun o3 ⟨hl25, _⟩ => lp_some ⟨hl25, trivial⟩))
  exact h r hF

theorem F_slices_insertionSortCmpFunc_api_Alarm___alarms_Shown_2_ok {p0 : List T_Alarm} {p1 : Int} {p2 : Int} {r : List T_Alarm} (hF : F_slices_insertionSortCmpFunc_api_Alarm___alarms_Shown_2 p0 p1 p2 = some r) {low : List AObj} {q0 q1 w0 w1 : Nat} (hnd : [q0, q1].Nodup) {m0 : Nat} (hm0 : m0 = (p0).length) (hq0 : low[q0]? = some ⟨32, 9, Xt T_Alarm.enc p0, w0⟩) (hq1 : low[q1]? = some ⟨52, 1, [.fn 30 [] []], w1⟩) {n : Nat} (hn : low.length = n) :
    Xk Try.prog 54 [.sl q0 w0 0 m0, .int .i64 p1, .int .i64 p2, .fn 32 [] [.ptr q1 w1 0 0]] low fun x low' => x = .tup [] ∧ low' = setL low [(q0, ⟨32, 9, Xt T_Alarm.enc r, w0⟩), (q1, ⟨52, 1, [.fn 30 [] []], w1⟩)] ++ [] := by
  obtain ⟨h1, h2⟩ := bor_start (ps := [(q0, ⟨32, 9, Xt T_Alarm.enc p0, w0⟩), (q1, ⟨52, 1, [.fn 30 [] []], w1⟩)]) hnd (borC hq0 (borC hq1 bor0)); exact vcalls_low h1 (F_slices_insertionSortCmpFunc_api_Alarm___alarms_Shown_2_ok0 hF h2 hm0 hn)

theorem F_slices_stableCmpFunc_api_Alarm___alarms_Shown_2_ok0 {p0 : List T_Alarm} {p1 : Int} {r : List T_Alarm} (hF : F_slices_stableCmpFunc_api_Alarm___alarms_Shown_2 p0 p1 = some r) {low0 : List AObj} {q0 q1 w0 w1 : Nat} (hB : Bor low0 [q0, q1]) {m0 : Nat} (hm0 : m0 = (p0).length) {n : Nat} (hn : low0.length = n) :
    Xk Try.prog 48 [.sl q0 w0 0 m0, .int .i64 p1, .fn 32 [] [.ptr q1 w1 0 0]] (setL low0 [(q0, ⟨32, 9, Xt T_Alarm.enc p0, w0⟩), (q1, ⟨52, 1, [.fn 30 [] []], w1⟩)]) fun x low' => x = .tup [] ∧ low' = setL low0 [(q0, ⟨32, 9, Xt T_Alarm.enc r, w0⟩), (q1, ⟨52, 1, [.fn 30 [] []], w1⟩)] ++ [] := by
 refine Vr (nt := 63) (rs := []) Try.func48 rfl rfl (Xw rfl) rfl ?_
 have hq0 : q0 < n := hB.ltN hn 0 rfl
 have hq1 : q1 < n := hB.ltN hn 1 rfl
 refine Vn (Q' := FnE (fun E' lw lc => m0 = (r).length ∧ Xj E' lw lc [] (setL low0 [(q0, ⟨32, 9, Xt T_Alarm.enc r, w0⟩), (q1, ⟨52, 1, [.fn 30 [] []], w1⟩)]) [])) ?_ ?_
 ·unfold F_slices_stableCmpFunc_api_Alarm___alarms_Shown_2 at hF; refine Ve (Vb (Va (Vm rfl) rfl (Vd (Ve (Vb (Va (Vf rfl) rfl (Va (Vm rfl) rfl (Va (Vm rfl) rfl ?_)))))))); refine Vd (Ve (Xf ?_)); obtain ⟨o3, ho3, hF⟩ := Xp hF; refine Vn (vwp_loopC (F_slices_stableCmpFunc_api_Alarm___alarms_Shown_2_L1 p1) (fun s2 E' lw lc => m0 = (s2.2.2).length ∧ Xj E' lw lc [(0, .sl q0 w0 0 m0), (1, .int .i64 p1), (2, .fn 32 [] [.ptr q1 w1 0 0]), (6, .int .i64 20), (7, .int .i64 s2.1), (8, .int .i64 s2.2.1)] (setL low0 [(q0, ⟨32, 9, Xt T_Alarm.enc s2.2.2, w0⟩), (q1, ⟨52, 1, [.fn 30 [] []], w1⟩)]) []) (fun o3 => OnlyE (.exit 0) (fun E' lw lc => m0 = (o3.2).length ∧ Xj E' lw lc [(0, .sl q0 w0 0 m0), (1, .int .i64 p1), (2, .fn 32 [] [.ptr q1 w1 0 0]), (6, .int .i64 20), (7, .int .i64 o3.1)] (setL low0 [(q0, ⟨32, 9, Xt T_Alarm.enc o3.2, w0⟩), (q1, ⟨52, 1, [.fn 30 [] []], w1⟩)]) [])) ho3 ⟨hm0, ?_⟩ (by rintro _ _ _ _ ⟨h, _⟩ <;> cases h) ?_) ?_
  ·exact Vg ⟨rfl, rfl, rfl, rfl, rfl, rfl, trivial⟩
  ·rintro s2 os2 _ _ _ hF ⟨hls2_0, hw⟩; unfold F_slices_stableCmpFunc_api_Alarm___alarms_Shown_2_L1 at hF; refine vwp_weak hw (Ve (Ve (Vb (Va (Vf rfl) rfl (Va (Vf rfl) rfl (Va (rd_leq rfl rfl) rfl (Vd (Vp rfl (fun c4 => ?_) (fun c4 => ?_)))))))))
   ·have hF := Xg c4 hF; refine Vs (Xf (Ve (Vb ?_))); obtain ⟨x5, h6, hF⟩ := Xp hF; refine Va (Xq rfl) rfl (Va (Vf rfl) rfl (Va (Vf rfl) rfl (Va (rd_mvF rfl) rfl (Vi (vef_callS (ps := [(q0, ⟨32, 9, Xt T_Alarm.enc x5, w0⟩), (q1, ⟨52, 1, [.fn 30 [] []], w1⟩)]) (r := .tup []) (os := []) (low1 := (setL low0 [(q0, ⟨32, 9, Xt T_Alarm.enc x5, w0⟩), (q1, ⟨52, 1, [.fn 30 [] []], w1⟩)])) (loc1 := []) (loc2 := []) rfl Try.call54 (F_slices_insertionSortCmpFunc_api_Alarm___alarms_Shown_2_ok h6 (nd1 (na1 (hB.ne 0 1 rfl rfl rfl) na0) (nd1 na0 nd0)) hls2_0 (get_B hB rfl 0 rfl) (get_B hB rfl 1 rfl) (len_app (lenS hn) rfl)) (sets_B (ps0' := [(q0, ⟨32, 9, Xt T_Alarm.enc x5, w0⟩), (q1, ⟨52, 1, [.fn 30 [] []], w1⟩)]) hB rfl 0 rfl (ltObj_map T_Alarm.enc_lt) rfl (sets_B (ps0' := [(q0, ⟨32, 9, Xt T_Alarm.enc x5, w0⟩), (q1, ⟨52, 1, [.fn 30 [] []], w1⟩)]) hB rfl 1 rfl (ltObjN hn ⟨lt_fn trivial, trivial⟩) rfl sets_nil)) rfl) rfl (Vd (Ve (Vb (Va (Vf rfl) rfl ?_)))))))); refine Va (Vm rfl) rfl (Vd (Vb (Va (Vf rfl) rfl (Va (Vf rfl) rfl (Va (rd_add rfl rfl rfl) rfl (Va (Vm rfl) rfl (Vd ?_))))))); obtain rfl := Xv hF; refine And.intro rfl (And.intro ((F_slices_insertionSortCmpFunc_api_Alarm___alarms_Shown_2_len h6 hls2_0).1) ?_); exact Vg ⟨rfl, rfl, rfl, rfl, rfl, rfl, trivial⟩
   ·have hF := Xh c4 hF; refine vwp_exit ?_; obtain rfl := Xv hF; refine And.intro rfl (And.intro hls2_0 ?_); exact Vg ⟨rfl, rfl, rfl, rfl, rfl, trivial⟩
  ·rintro _ _ _ _ ⟨rfl, hl7, hw⟩; refine ⟨_, _, _, hw, ?_⟩; refine Ve (Vb ?_); obtain ⟨x8, h9, hF⟩ := Xp hF; refine Va (Xq rfl) rfl (Va (Vf rfl) rfl (Va (Vf rfl) rfl (Va (rd_mvF rfl) rfl (Vi (vef_callS (ps := [(q0, ⟨32, 9, Xt T_Alarm.enc x8, w0⟩), (q1, ⟨52, 1, [.fn 30 [] []], w1⟩)]) (r := .tup []) (os := []) (low1 := (setL low0 [(q0, ⟨32, 9, Xt T_Alarm.enc x8, w0⟩), (q1, ⟨52, 1, [.fn 30 [] []], w1⟩)])) (loc1 := []) (loc2 := []) rfl Try.call54 (F_slices_insertionSortCmpFunc_api_Alarm___alarms_Shown_2_ok h9 (nd1 (na1 (hB.ne 0 1 rfl rfl rfl) na0) (nd1 na0 nd0)) hl7 (get_B hB rfl 0 rfl) (get_B hB rfl 1 rfl) (len_app (lenS hn) rfl)) (sets_B (ps0' := [(q0, ⟨32, 9, Xt T_Alarm.enc x8, w0⟩), (q1, ⟨52, 1, [.fn 30 [] []], w1⟩)]) hB rfl 0 rfl (ltObj_map T_Alarm.enc_lt) rfl (sets_B (ps0' := [(q0, ⟨32, 9, Xt T_Alarm.enc x8, w0⟩), (q1, ⟨52, 1, [.fn 30 [] []], w1⟩)]) hB rfl 1 rfl (ltObjN hn ⟨lt_fn trivial, trivial⟩) rfl sets_nil)) rfl) rfl (Vd (Xf ?_)))))); obtain ⟨o11, ho11, hF⟩ := Xp hF; refine Vn (vwp_loopC (F_slices_stableCmpFunc_api_Alarm___alarms_Shown_2_L2 p1) (fun s10 E' lw lc => Xj E' lw lc [(0, .sl q0 w0 0 m0), (1, .int .i64 p1), (2, .fn 32 [] [.ptr q1 w1 0 0]), (6, .int .i64 s10)] (setL low0 [(q0, ⟨32, 9, Xt T_Alarm.enc x8, w0⟩), (q1, ⟨52, 1, [.fn 30 [] []], w1⟩)]) []) (fun o11 => OnlyE (.exit 2) (fun E' lw lc => Xj E' lw lc [] (setL low0 [(q0, ⟨32, 9, Xt T_Alarm.enc x8, w0⟩), (q1, ⟨52, 1, [.fn 30 [] []], w1⟩)]) [])) ho11 ?_ (by rintro _ _ _ _ ⟨h, _⟩ <;> cases h) ?_) ?_
   ·exact Vg ⟨rfl, rfl, rfl, rfl, trivial⟩
   ·rintro s10 os10 _ _ _ hF hw; unfold F_slices_stableCmpFunc_api_Alarm___alarms_Shown_2_L2 at hF; refine vwp_weak hw (Ve (Ve (Vb (Va (Vf rfl) rfl (Va (Vf rfl) rfl (Va (rd_lss rfl rfl) rfl (Vd (Vp rfl (fun c12 => ?_) (fun c12 => ?_)))))))))
    ·have hF := Xg c12 hF; refine Vs (Xf (Ve (Vb (Va (Vf rfl) rfl (Va (rd_mul rfl rfl rfl) rfl (Va (Vm rfl) rfl (Va (Vm rfl) rfl (Vd ?_)))))))); refine Ve (Xf ?_); obtain ⟨o14, ho14, hF⟩ := Xp hF; refine Vn (vwp_loopC (F_slices_stableCmpFunc_api_Alarm___alarms_Shown_2_L3 p1 s10) (fun s13 E' lw lc => Xj E' lw lc [(0, .sl q0 w0 0 m0), (1, .int .i64 p1), (2, .fn 32 [] [.ptr q1 w1 0 0]), (6, .int .i64 s10), (7, .int .i64 0), (8, .int .i64 (IntKind.i64.wrap (2 * s10)))] (setL low0 [(q0, ⟨32, 9, Xt T_Alarm.enc x8, w0⟩), (q1, ⟨52, 1, [.fn 30 [] []], w1⟩)]) []) (fun o14 => OnlyE (.exit 4) (fun E' lw lc => Xj E' lw lc [(0, .sl q0 w0 0 m0), (1, .int .i64 p1), (2, .fn 32 [] [.ptr q1 w1 0 0]), (6, .int .i64 s10), (7, .int .i64 0)] (setL low0 [(q0, ⟨32, 9, Xt T_Alarm.enc x8, w0⟩), (q1, ⟨52, 1, [.fn 30 [] []], w1⟩)]) [])) ho14 ?_ (by rintro _ _ _ _ ⟨h, _⟩ <;> cases h) ?_) ?_
     ·exact Vg ⟨rfl, rfl, rfl, rfl, rfl, rfl, trivial⟩
     ·rintro s13 os13 _ _ _ hF hw; unfold F_slices_stableCmpFunc_api_Alarm___alarms_Shown_2_L3 at hF; refine vwp_weak hw (Ve (Ve (Vb (Va (Vf rfl) rfl (Va (Vf rfl) rfl (Va (rd_leq rfl rfl) rfl (Vd (Vp rfl (fun c15 => ?_) (fun c15 => ?_)))))))))
      ·have hF := Xg c15 hF; refine Vs (Xf (Ve (Vb ?_))); exact none_absurd hF
      ·have hF := Xh c15 hF; refine vwp_exit ?_; obtain rfl := Xv hF; refine Xb ?_; exact Vg ⟨rfl, rfl, rfl, rfl, rfl, trivial⟩
     ·rintro _ _ _ _ ⟨rfl, hw⟩; refine ⟨_, _, _, hw, ?_⟩; refine Ve (Ve (Vb (Va (Vf rfl) rfl (Va (Vf rfl) rfl (Va (rd_add rfl rfl rfl) rfl (Va (Vm rfl) rfl (Vd (Ve ?_)))))))); refine Vb (Va (Vf rfl) rfl (Va (Vf rfl) rfl (Va (rd_lss rfl rfl) rfl (Vd (Vp rfl (fun c16 => ?_) (fun c16 => ?_))))))
      ·have hF := Xg c16 hF; refine Vb ?_; exact none_absurd hF
      ·have hF := Xh c16 hF; refine Vs (Vb (Va (Vf rfl) rfl (Va (rd_mul rfl rfl rfl) rfl (Va (Vm rfl) rfl (Vd ?_))))); obtain rfl := Xv hF; refine Xb ?_; exact Vg ⟨rfl, rfl, rfl, rfl, trivial⟩
    ·have hF := Xh c12 hF; refine vwp_exit ?_; obtain rfl := Xv hF; refine Xb ?_; exact Vg trivial
   ·rintro _ _ _ _ ⟨rfl, hw⟩; refine ⟨_, _, _, hw, ?_⟩; obtain rfl := Xv hF; refine And.intro (.inl rfl) (And.intro ((F_slices_insertionSortCmpFunc_api_Alarm___alarms_Shown_2_len h9 hl7).1) ?_); exact Vg trivial
 ·rintro _ _ _ _ ⟨he, hl1, hw⟩; refine ⟨_, _, _, hw, ?_⟩; exact Xd he [] trivial ((lt_tup trivial)) ⟨rfl, (List.append_nil _).symm⟩

theorem F_slices_stableCmpFunc_api_Alarm___alarms_Shown_2_len {p0 : List T_Alarm} {p1 : Int} {r : List T_Alarm} (hF : F_slices_stableCmpFunc_api_Alarm___alarms_Shown_2 p0 p1 = some r) {m0 : Nat} (hm0 : m0 = (p0).length) : m0 = (r).length ∧ True := by
  have h : LP (F_slices_stableCmpFunc_api_Alarm___alarms_Shown_2 p0 p1) (fun r => m0 = (r).length ∧ True) := by
    unfold F_slices_stableCmpFunc_api_Alarm___alarms_Shown_2; exact (lp_bind (Q := fun o3 => m0 = (o3.2).length ∧ True) (lp_loop (fun s2 => m0 = (s2.2.2).length ∧ True) ⟨hm0, trivial⟩ (fun s2 ⟨hls2_0, _⟩ => by unfold F_slices_stableCmpFunc_api_Alarm___alarms_Shown_2_L1; exact (lp_bif (fun c4 => lp_bindE fun x5 h6 => lp_some ⟨(F_slices_insertionSortCmpFunc_api_Alarm___alarms_Shown_2_len h6 hls2_0).1, trivial⟩) (fun c4 => lp_some ⟨hls2_0, trivial⟩)))) (fun o3 ⟨hl7, _⟩ => lp_bindE fun x8 h9 => lp_bind (Q := fun o11 => True) (lp_loop (fun s10 => True) trivial (fun s10 _ => by unfold F_slices_stableCmpFunc_api_Alarm___alarms_Shown_2_L2; exact (lp_bif (fun c12 => lp_bind (Q := fun o14 => True) (lp_loop (fun s13 => True) trivial (fun s13 _ => by unfold F_slices_stableCmpFunc_api_Alarm___alarms_Shown_2_L3; exact (lp_bif (fun c15 => lp_none) (fun c15 => lp_some trivial)))) (fun o14 _ => lp_bif (fun c16 => lp_none) (fun c16 => lp_some trivial))) (fun c12 => lp_some trivial)))) (fun o11 _ => lp_some ⟨(F_slices_insertionSortCmpFunc_api_Alarm___alarms_Shown_2_len h9 hl7).1, trivial⟩)))
  exact h r hF

theorem F_slices_stableCmpFunc_api_Alarm___alarms_Shown_2_ok {p0 : List T_Alarm} {p1 : Int} {r : List T_Alarm} (hF : F_slices_stableCmpFunc_api_Alarm___alarms_Shown_2 p0 p1 = some r) {low : List AObj} {q0 q1 w0 w1 : Nat} (hnd : [q0, q1].Nodup) {m0 : Nat} (hm0 : m0 = (p0).length) (hq0 : low[q0]? = some ⟨32, 9, Xt T_Alarm.enc p0, w0⟩) (hq1 : low[q1]? = some ⟨52, 1, [.fn 30 [] []], w1⟩) {n : Nat} (hn : low.length = n) :
    Xk Try.prog 48 [.sl q0 w0 0 m0, .int .i64 p1, .fn 32 [] [.ptr q1 w1 0 0]] low fun x low' => x = .tup [] ∧ low' = setL low [(q0, ⟨32, 9, Xt T_Alarm.enc r, w0⟩), (q1, ⟨52, 1, [.fn 30 [] []], w1⟩)] ++ [] := by
  obtain ⟨h1, h2⟩ := bor_start (ps := [(q0, ⟨32, 9, Xt T_Alarm.enc p0, w0⟩), (q1, ⟨52, 1, [.fn 30 [] []], w1⟩)]) hnd (borC hq0 (borC hq1 bor0)); exact vcalls_low h1 (F_slices_stableCmpFunc_api_Alarm___alarms_Shown_2_ok0 hF h2 hm0 hn)

theorem F_slices_SortStableFunc___api_Alarm_api_Alarm___alarms_Shown_2_ok0 {p0 : List T_Alarm} {r : List T_Alarm} (hF : F_slices_SortStableFunc___api_Alarm_api_Alarm___alarms_Shown_2 p0 = some r) {low0 : List AObj} {q0 q1 w0 w1 : Nat} (hB : Bor low0 [q0, q1]) {m0 : Nat} (hm0 : m0 = (p0).length) {n : Nat} (hn : low0.length = n) :
    Xk Try.prog 31 [.sl q0 w0 0 m0, .fn 32 [] [.ptr q1 w1 0 0]] (setL low0 [(q0, ⟨32, 9, Xt T_Alarm.enc p0, w0⟩), (q1, ⟨52, 1, [.fn 30 [] []], w1⟩)]) fun x low' => x = .tup [] ∧ low' = setL low0 [(q0, ⟨32, 9, Xt T_Alarm.enc r, w0⟩), (q1, ⟨52, 1, [.fn 30 [] []], w1⟩)] ++ [] := by
 refine Vr (nt := 9) (rs := []) Try.func31 rfl rfl (Xw rfl) rfl ?_
 have hq0 : q0 < n := hB.ltN hn 0 rfl
 have hq1 : q1 < n := hB.ltN hn 1 rfl
 refine Vn (Q' := FnE (fun E' lw lc => m0 = (r).length ∧ Xj E' lw lc [] (setL low0 [(q0, ⟨32, 9, Xt T_Alarm.enc r, w0⟩), (q1, ⟨52, 1, [.fn 30 [] []], w1⟩)]) [])) ?_ ?_
 ·unfold F_slices_SortStableFunc___api_Alarm_api_Alarm___alarms_Shown_2 at hF; refine Vb ?_; obtain ⟨x2, h3, hF⟩ := Xp hF; refine Va (Xq rfl) rfl (Va (Xq rfl) rfl (Va (Xl (rd_lenS rfl (Xo hB rfl 0 rfl) rfl rfl te_27) (v' := PV.int .i64 ((p0).length : Int)) (congrArg (fun n : Nat => PV.int .i64 (n : Int)) hm0)) rfl (Va (rd_mvF rfl) rfl (Vi (vef_callS (ps := [(q0, ⟨32, 9, Xt T_Alarm.enc x2, w0⟩), (q1, ⟨52, 1, [.fn 30 [] []], w1⟩)]) (r := .tup []) (os := []) (low1 := (setL low0 [(q0, ⟨32, 9, Xt T_Alarm.enc x2, w0⟩), (q1, ⟨52, 1, [.fn 30 [] []], w1⟩)])) (loc1 := []) (loc2 := []) rfl Try.call48 (F_slices_stableCmpFunc_api_Alarm___alarms_Shown_2_ok h3 (nd1 (na1 (hB.ne 0 1 rfl rfl rfl) na0) (nd1 na0 nd0)) hm0 (get_B hB rfl 0 rfl) (get_B hB rfl 1 rfl) (len_app (lenS hn) rfl)) (sets_B (ps0' := [(q0, ⟨32, 9, Xt T_Alarm.enc x2, w0⟩), (q1, ⟨52, 1, [.fn 30 [] []], w1⟩)]) hB rfl 0 rfl (ltObj_map T_Alarm.enc_lt) rfl (sets_B (ps0' := [(q0, ⟨32, 9, Xt T_Alarm.enc x2, w0⟩), (q1, ⟨52, 1, [.fn 30 [] []], w1⟩)]) hB rfl 1 rfl (ltObjN hn ⟨lt_fn trivial, trivial⟩) rfl sets_nil)) rfl) rfl (Vd ?_))))); obtain rfl := Xv hF; refine And.intro (.inl rfl) (And.intro ((F_slices_stableCmpFunc_api_Alarm___alarms_Shown_2_len h3 hm0).1) ?_); exact Vg trivial
 ·rintro _ _ _ _ ⟨he, hl1, hw⟩; refine ⟨_, _, _, hw, ?_⟩; exact Xd he [] trivial ((lt_tup trivial)) ⟨rfl, (List.append_nil _).symm⟩

theorem F_slices_SortStableFunc___api_Alarm_api_Alarm___alarms_Shown_2_len {p0 : List T_Alarm} {r : List T_Alarm} (hF : F_slices_SortStableFunc___api_Alarm_api_Alarm___alarms_Shown_2 p0 = some r) {m0 : Nat} (hm0 : m0 = (p0).length) : m0 = (r).length ∧ True := by
  have h : LP (F_slices_SortStableFunc___api_Alarm_api_Alarm___alarms_Shown_2 p0) (fun r => m0 = (r).length ∧ True) := by
    unfold F_slices_SortStableFunc___api_Alarm_api_Alarm___alarms_Shown_2; exact (lp_bindE fun x2 h3 => lp_some ⟨(F_slices_stableCmpFunc_api_Alarm___alarms_Shown_2_len h3 hm0).1, trivial⟩)
  exact h r hF

theorem F_slices_SortStableFunc___api_Alarm_api_Alarm___alarms_Shown_2_ok {p0 : List T_Alarm} {r : List T_Alarm} (hF : F_slices_SortStableFunc___api_Alarm_api_Alarm___alarms_Shown_2 p0 = some r) {low : List AObj} {q0 q1 w0 w1 : Nat} (hnd : [q0, q1].Nodup) {m0 : Nat} (hm0 : m0 = (p0).length) (hq0 : low[q0]? = some ⟨32, 9, Xt T_Alarm.enc p0, w0⟩) (hq1 : low[q1]? = some ⟨52, 1, [.fn 30 [] []], w1⟩) {n : Nat} (hn : low.length = n) :
    Xk Try.prog 31 [.sl q0 w0 0 m0, .fn 32 [] [.ptr q1 w1 0 0]] low fun x low' => x = .tup [] ∧ low' = setL low [(q0, ⟨32, 9, Xt T_Alarm.enc r, w0⟩), (q1, ⟨52, 1, [.fn 30 [] []], w1⟩)] ++ [] := by
  obtain ⟨h1, h2⟩ := bor_start (ps := [(q0, ⟨32, 9, Xt T_Alarm.enc p0, w0⟩), (q1, ⟨52, 1, [.fn 30 [] []], w1⟩)]) hnd (borC hq0 (borC hq1 bor0)); exact vcalls_low h1 (F_slices_SortStableFunc___api_Alarm_api_Alarm___alarms_Shown_2_ok0 hF h2 hm0 hn)

theorem F_alarms_Shown_ok {p0 : List T_Alarm} {p1 : Int} {r : List T_Alarm} (hF : F_alarms_Shown p0 p1 = some r) (low : List AObj) :
    Xk Try.prog 13 [.vs 9 (Xt T_Alarm.enc p0), .int .i64 p1] low fun x low' => x = .vs 9 (Xt T_Alarm.enc r) ∧ low' = low := by
 refine Vr (nt := 28) (rs := [.tmp 4]) Try.func13 rfl rfl (Xw rfl) rfl (Vn (Q' := FnE (fun E' lw lc => Xj E' lw lc [(4, .vs 9 (Xt T_Alarm.enc r))] low [])) ?_ ?_)
 ·unfold F_alarms_Shown at hF; refine Ve (Vb (Va (rd_nv (sz := 9) (rd_asN rfl)) rfl (Vd (Ve (Vb (Vi (vef_nilsN rfl rfl 32 9 (Xx _) (rd_asN rfl)) rfl (Vd (Ve ?_)))))))); refine Ve (Vb (Va (Vu rfl) rfl (Va (Xl (Xm rfl rfl te_27) (congrArg (fun n : Nat => PV.int .i64 (n : Int)) (Xz _))) rfl (Va (Vf rfl) rfl (Vd (Xf ?_)))))); obtain ⟨o2, ho2, hF⟩ := Xp hF; refine Vn (vwp_loopC (F_alarms_Shown_L1 p0 p1) (fun s1 E' lw lc => Xj E' lw lc [(1, .int .i64 p1), (5, .sl (low.length + 0) 0 0 (s1.2).length), (9, .vs 9 (Xt T_Alarm.enc p0)), (10, .int .i64 ((p0).length : Int)), (11, .int .i64 s1.1)] low [⟨32, 9, Xt T_Alarm.enc s1.2, 0⟩]) (fun o2 => OnlyE (.exit 0) (fun E' lw lc => Xj E' lw lc [(5, .sl (low.length + 0) 0 0 (o2).length)] low [⟨32, 9, Xt T_Alarm.enc o2, 0⟩])) ho2 ?_ (by rintro _ _ _ _ ⟨h, _⟩ <;> cases h) ?_) ?_
  ·exact Vg ⟨rfl, rfl, rfl, rfl, rfl, trivial⟩
  ·rintro s1 os1 _ _ _ hF hw; unfold F_alarms_Shown_L1 at hF; refine vwp_weak hw (Ve (Vb (Va (rd_lss rfl rfl) rfl (Vd (Ve (Vp rfl (fun c3 => ?_) (fun c3 => ?_)))))))
   ·have hF := Xg c3 hF; refine Vs (Ve ?_); obtain ⟨o4, ho4, hF⟩ := Xp hF; refine Vn (Q' := (fun o4 => OnlyE .normal (fun E' lw lc => Xj E' lw lc [(1, .int .i64 p1), (5, .sl (low.length + 0) 0 0 (o4).length), (9, .vs 9 (Xt T_Alarm.enc p0)), (10, .int .i64 ((p0).length : Int)), (11, .int .i64 s1.1)] low [⟨32, 9, Xt T_Alarm.enc o4, 0⟩])) o4) ?_ ?_
    ·replace hF := ho4; refine Xf (Ve (Vb ?_)); obtain ⟨x5, h6, hF⟩ := Xp hF; refine Va (Xl (rd_ixV rfl rfl h6 te_27 ts_32) (v' := .vptr (zA x5) 0) rfl) rfl (Va (rd_loadVN (ds := (zA x5)) rfl ta_32 ts_32 rfl rfl) rfl (Vi (vef_allocN rfl rfl tz_32 rfl rfl (Xx _) rfl) rfl (Vi (vef_store (p := .agg (zA x5)) (e' := .agg (zA x5)) rfl (Vx rfl rfl) rfl rfl ts_32 rfl (nt_ne rfl) rfl (Xw rfl) rfl (setO_N rfl rfl)) rfl (Vd (Ve (Vb (Va (Vl rfl tf_32_7 ts_3 (by decide)) rfl (Va (Xa rfl (Vx rfl rfl) rfl ta_3 rfl) rfl ?_)))))))); refine Va (Vf rfl) rfl (Va (rd_leq rfl rfl) rfl (Vd (Vp rfl (fun c7 => ?_) (fun c7 => ?_))))
     ·have hF := Xg c7 hF; refine Vb ?_; obtain ⟨x8, h9, hF⟩ := Xp hF; refine Va (Xq rfl) rfl (Va (rd_loadN (ds := (zA x5)) rfl (Vx rfl rfl) rfl ta_32 ts_32 rfl rfl rfl) rfl (Vi (vef_litF (es := Xt T_Alarm.enc [x5]) ⟨rfl, rfl, trivial⟩ rfl rfl (nt_all rfl) te_27 ts_32 tz_32 rfl rfl (Xx _) (by decide) (lt_map T_Alarm.enc_lt)) rfl (Vi (vef_apL (f := T_Alarm.enc) (l := s1.2) (ys := [x5]) rfl rfl (Vx rfl rfl) rfl (src_vs rfl) te_27 ts_32 tb_32 (by decide) tz_32 rfl h9 (setO_N rfl rfl)) rfl (Va (rd_asL rfl) rfl (Vd ?_))))); obtain rfl := Xv hF; refine Xb ?_; exact Vv rfl [(0, 0 + 1)] (by decide) ⟨Vy rfl (.int _ _), rn_sl 0 0 rfl rfl, Vy rfl (.vs _ _), Vy rfl (.int _ _), Vy rfl (.int _ _), trivial⟩ ⟨⟨_, rfl, rfl, .same _ _ _ _ (ltObj_map T_Alarm.enc_lt)⟩, trivial⟩
     ·have hF := Xh c7 hF; refine Vs ?_; obtain rfl := Xv hF; refine Xb ?_; exact Vv rfl [(0, 0)] (by decide) ⟨Vy rfl (.int _ _), rn_sl 0 0 rfl rfl, Vy rfl (.vs _ _), Vy rfl (.int _ _), Vy rfl (.int _ _), trivial⟩ ⟨⟨_, rfl, rfl, .same _ _ _ _ (ltObj_map T_Alarm.enc_lt)⟩, trivial⟩
    ·rintro _ _ _ _ ⟨rfl, hw⟩; refine ⟨_, _, _, hw, ?_⟩; refine Vb (Va (rd_add rfl rfl rfl) rfl (Va (Vf rfl) rfl (Vd ?_))); obtain rfl := Xv hF; refine Xb ?_; exact Vg ⟨rfl, rfl, rfl, rfl, rfl, trivial⟩
   ·have hF := Xh c3 hF; refine vwp_exit ?_; obtain rfl := Xv hF; refine Xb ?_; exact Vg ⟨rfl, trivial⟩
  ·rintro _ _ _ _ ⟨rfl, hw⟩; refine ⟨_, _, _, hw, ?_⟩; refine Ve (Vb (Vi (vef_allocN rfl rfl tz_52 rfl rfl (Xx _) rfl) rfl (Vi (vef_store (p := .fn 30 [] []) (e' := .fn 30 [] []) rfl (Vx rfl rfl) rfl rfl ts_52 rfl (nt_ne rfl) rfl (Xw rfl) rfl (setO_N rfl rfl)) rfl (Vd (Ve (Vb ?_)))))); obtain ⟨x10, h11, hF⟩ := Xp hF; refine Va (Xq rfl) rfl (Va (rd_makeFn rfl) rfl (Vi (vef_callS (ps := [((low.length + 0), ⟨32, 9, Xt T_Alarm.enc x10, 0⟩), ((low.length + 1), ⟨52, 1, [.fn 30 [] []], 0⟩)]) (r := .tup []) (os := []) (low1 := low) (loc1 := [⟨32, 9, Xt T_Alarm.enc x10, 0⟩, ⟨52, 1, [.fn 30 [] []], 0⟩]) (loc2 := [⟨32, 9, Xt T_Alarm.enc x10, 0⟩, ⟨52, 1, [.fn 30 [] []], 0⟩]) rfl Try.call31 (F_slices_SortStableFunc___api_Alarm_api_Alarm___alarms_Shown_2_ok h11 (nd1 (na1 (ne_own rfl) na0) (nd1 na0 nd0)) (rfl : (o2).length = _) (get_N rfl rfl) (get_N rfl rfl) (len_app rfl rfl)) (sets_own (loc2 := [⟨32, 9, Xt T_Alarm.enc x10, 0⟩, ⟨52, 1, [.fn 30 [] []], 0⟩]) rfl 0 rfl (sets_own (loc2 := [⟨32, 9, Xt T_Alarm.enc x10, 0⟩, ⟨52, 1, [.fn 30 [] []], 0⟩]) rfl 1 rfl sets_nil)) rfl) rfl (Vd (Ve (Vb (Va (Xq rfl) rfl (Va (rd_asL rfl) rfl (Vd ?_)))))))); refine Vq ?_; obtain rfl := Xv hF; refine fnR (Weak.trans (weak_freezeN (E' := [(4, .vs 9 (Xt T_Alarm.enc x10))]) (loc1 := [⟨32, 9, [], 0 + 1⟩, ⟨52, 1, [.fn 30 [] []], 0⟩]) rfl 0 rfl (lt_map T_Alarm.enc_lt) ⟨cv_sl rfl rfl rfl (full_take (F_slices_SortStableFunc___api_Alarm_api_Alarm___alarms_Shown_2_len h11 (rfl : (o2).length = _)).1), trivial⟩ ⟨.refl _, .refl _, trivial⟩) ?_); exact Vv rfl [] (by decide) ⟨Vy rfl (.vs _ _), trivial⟩ trivial
 ·rintro _ _ _ _ ⟨he, hw⟩; refine ⟨_, _, _, hw, ?_⟩; exact Xd he [.vs 9 (Xt T_Alarm.enc r)] ⟨rfl, trivial⟩ (.vs _ _) ⟨rfl, rfl⟩

end Go.Proofs.Ytnhdamflfebofaa
