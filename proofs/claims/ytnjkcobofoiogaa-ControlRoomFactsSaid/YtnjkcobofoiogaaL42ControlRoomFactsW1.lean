/- Printed by wip/lift/lift.py: the walks that show that the program computes them. -/
import Derived.Test.YtnjkcobofoiogaaR42T
import Derived.Test.YtnjkcobofoiogaaAmlEE
import Derived.Test.YtnjkcobofoiogaaL42D
namespace Go.Proofs.Ytnjkcobofoiogaa
open Go Go.Aml Go.L
attribute [local irreducible] VRd VEf VOp VOps VWp DOps
set_option linter.unusedVariables false
open Go.Aml renaming vops_rd → Va, vwp_region → Vb, vops_nil → Vc, rd_fieldAddr → Vd, vwp_seq → Ve, vops_skip → Vf, getO_N → Vg, ltObj_es → Vh, rd_load1 → Vi, vops_efE → Vj, rn_low → Vk, weak_pick → Vl, rd_mvI → Vm, rn_ptr → Vn, lt_agg → Vo, weak_sub → Vp, rd_indexA → Vq, ltObj_map → Vr, vwp_monoW → Vs, vef_store → Vt, rd_mvB → Vu, rd_asI → Vv, vcalls_of_body → Vw, vwp_ret → Vx, vwp_cond → Vy, vef_callP → Vz, onlyE → Xa, dr1 → Xb, vwp_skip → Xc, all1 → Xd, vwp_drawn → Xe, setO_N → Xf, dops_nil → Xg, rd_pickT → Xh, rd_pickF → Xi, bifT → Xj, bifF → Xk, vwp_block → Xl, rd_asB → Xm, dops_ef → Xn, rd_mvL → Xo, nt_ne → Xp, rd_lenV → Xq, bodyQ_pure → Xr, rd_eql → Xs, Weak → Xt, VCalls → Xu, rn_sl → Xv, rd_to → Xw, cv_same → Xx, vt1 → Xy, lenAll → Xz, dops_rdW → Ya, getO_B → Yb, rd_mvV → Yc, rd_loadN → Yd, rd_extract → Ye, bnd → Yf, cell_of_heap → Yg, lp_some → Yh, none_absurd → Yi, all0 → Yj, vef_allocN → Yk, lp_bindE → Yl, rd_asL → Ym, vwp_loopC → Yn, len_app → Yo, run_copy_cellsK → Yp, vwp_weak → Yq, vwp_exit → Yr
open List renaming map → Ys
open Go.Aml.PV renaming int → Yt
open Go.Aml.PV renaming bool → Yu
open Option.some renaming inj → Yv
open Nat renaming le_of_ble_eq_true → Yw
open Nat renaming succ_pos → Yx
open Bool renaming eq_false_or_eq_true → Yy
open List renaming length_map → Yz
set_option maxHeartbeats 4000000

theorem mixed : Try.prog.follows .mixedOrders = true := by kernel_rfl
def eqTab : EqTab := [(3, 1, []), (32, 3, [(0, 1, false, 3), (1, 1, false, 3), (2, 1, false, 3), (3, 1, false, 3)]), (37, 3, [(0, 1, false, 3), (1, 1, false, 3)])]
theorem eqTab_ok : eqTabOk Try.prog eqTab = true := by kernel_rfl
theorem eqg_32 : Try.prog.eqGuardType Try.prog.depth 32 = false := by kernel_rfl
theorem eqg_37 : Try.prog.eqGuardType Try.prog.depth 37 = false := by kernel_rfl

theorem F_made_Light_ok {p0 : List Int} {r : Bool} (hF : F_made_Light p0 = some r) (low : List AObj) :
    Xu Try.prog 8 [.vs 1 (Ys (Yt .i64) p0)] low fun x low' => x = .bool r ∧ low' = low := by
 refine Vw (nt := 6) (rs := [.tmp 2]) Try.func8 rfl rfl (Yw rfl) rfl (Vs (Q' := FnE (fun E' lw lc => Xt E' lw lc [(2, .bool r)] low [])) ?_ ?_)
 ·unfold F_made_Light at hF; refine Ve (Vb (Va (Xm rfl) rfl (Vc (Ve (Vb (Va (Yc rfl) rfl (Va (Xw (Xq rfl rfl te_22) (congrArg (fun n : Nat => Yt .i64 (n : Int)) (Yz _))) rfl (Va (rd_leq rfl rfl) rfl ?_)))))))); refine Va (Xm rfl) rfl (Vc (Vx ?_)); obtain rfl := Yv hF; refine fnR ?_; exact Vp ⟨rfl, trivial⟩
 ·rintro _ _ _ _ ⟨he, hw⟩; refine ⟨_, _, _, hw, ?_⟩; exact Xr he [.bool r] ⟨rfl, trivial⟩ (.bool _) ⟨rfl, rfl⟩

theorem F_lists_In_ok {p0 : Int} {p1 : Int} {p2 : Int} {r : Bool} (hF : F_lists_In p0 p1 p2 = some r) (low : List AObj) :
    Xu Try.prog 54 [.int .i64 p0, .int .i64 p1, .int .i64 p2] low fun x low' => x = .bool r ∧ low' = low := by
 refine Vw (nt := 15) (rs := [.tmp 6]) Try.func54 rfl rfl (Yw rfl) rfl (Vs (Q' := FnE (fun E' lw lc => Xt E' lw lc [(6, .bool r)] low [])) ?_ ?_)
 ·unfold F_lists_In at hF; refine Ve (Vb (Va (Xm rfl) rfl (Vc (Ve (Vb ?_)))))
  rcases Yy (decide (p1 ≤ p0)) with c1 | c1
  ·have hF := Xj c1 hF; refine Va (Vm rfl) rfl (Va (Vm rfl) rfl (Va (rd_geq rfl rfl) rfl (Va (Vu rfl) rfl (Xy rfl rfl c1 (Va (Vm rfl) rfl (Xy rfl rfl c1 (Va (Vm rfl) rfl (Xy rfl rfl c1 ?_)))))))); refine Va (rd_leq rfl rfl) rfl (Va (Xh (congrArg Yu c1) rfl) rfl (Va (Xm rfl) rfl (Vc (Vx ?_)))); obtain rfl := Yv hF; refine fnR ?_; exact Vp ⟨rfl, trivial⟩
  ·have hF := Xk c1 hF; refine Va (Vm rfl) rfl (Va (Vm rfl) rfl (Va (rd_geq rfl rfl) rfl (Va (Vu rfl) rfl (Vf rfl rfl (neF c1) rfl (Vf rfl rfl (neF c1) rfl (Vf rfl rfl (neF c1) rfl (Va (Xi (congrArg Yu c1) rfl) rfl (Va (Xm rfl) rfl ?_)))))))); refine Vc (Vx ?_); obtain rfl := Yv hF; refine fnR ?_; exact Vp ⟨rfl, trivial⟩
 ·rintro _ _ _ _ ⟨he, hw⟩; refine ⟨_, _, _, hw, ?_⟩; exact Xr he [.bool r] ⟨rfl, trivial⟩ (.bool _) ⟨rfl, rfl⟩

theorem F_controlroom_Valid_ok {p0 : T_Record} {r : Bool} (hF : F_controlroom_Valid p0 = some r) (low : List AObj) :
    Xu Try.prog 30 [.agg (zC p0)] low fun x low' => x = .bool r ∧ low' = low := by
 refine Vw (nt := 26) (rs := [.tmp 2]) Try.func30 rfl rfl (Yw rfl) rfl (Vs (Q' := FnE (fun E' lw lc => Xt E' lw lc [(2, .bool r)] low [])) ?_ ?_)
 ·unfold F_controlroom_Valid at hF; refine Ve (Vb (Vj (vef_boxN rfl rfl (v := .agg (zC p0)) rfl rfl (Yx _) rfl rfl) rfl (Va (Xm rfl) rfl (Vc (Ve (Vb (Va (Vv rfl) rfl (Vc ?_)))))))); refine Ve (Ve (Vb (Va (Vd rfl tf_32_0 ts_3 (by decide)) rfl (Va (Vi rfl (Vg rfl rfl) rfl ta_3 rfl) rfl (Va (Xs rfl rfl) rfl (Vc ?_)))))); obtain ⟨o1, ho1, hF⟩ := Yf hF; refine Vs (Q' := (fun o1 => OnlyE .normal (fun E' lw lc => Xt E' lw lc [(1, .ptr (low.length + 0) 0 0 0), (3, .int .i64 o1)] low [(zD p0 0)])) o1) ?_ ?_
  ·replace hF := ho1; refine Vy rfl (fun c2 => ?_) (fun c2 => ?_)
   ·have hF := Xj c2 hF; refine Vb (Va (Vv rfl) rfl (Vc ?_)); obtain rfl := Yv hF; refine Xa ?_; exact Vp ⟨rfl, rfl, trivial⟩
   ·have hF := Xk c2 hF; refine Xc ?_; obtain rfl := Yv hF; refine Xa ?_; exact Vp ⟨rfl, rfl, trivial⟩
  ·rintro _ _ _ _ ⟨rfl, hw⟩; refine ⟨_, _, _, hw, ?_⟩; refine Ve (Vb ?_); obtain ⟨x3, h4, hF⟩ := Yf hF
   rcases Yy x3 with c5 | c5
   ·have hF := Xj c5 hF; obtain ⟨x6, h7, hF⟩ := Yf hF
    rcases Yy x6 with c8 | c8
    ·have hF := Xj c8 hF; obtain ⟨x9, h10, hF⟩ := Yf hF
     rcases Yy x9 with c11 | c11
     ·have hF := Xj c11 hF; obtain ⟨x12, h13, hF⟩ := Yf hF; refine Va (Vd rfl tf_32_0 ts_3 (by decide)) rfl (Va (Vi rfl (Vg rfl rfl) rfl ta_3 rfl) rfl (Vj (Vz rfl Try.call54 (F_lists_In_ok h4 _)) rfl (Va (Vu rfl) rfl (Xy rfl rfl c5 (Va (Vd rfl tf_32_1 ts_3 (by decide)) rfl (Xy rfl rfl c5 (Va (Vi rfl (Vg rfl rfl) rfl ta_3 rfl) rfl (Xy rfl rfl c5 ?_)))))))); refine Vj (Vz rfl Try.call54 (F_lists_In_ok h7 _)) rfl (Va (Xh (congrArg Yu c5) rfl) rfl (Va (Vu rfl) rfl (Xy rfl rfl c8 (Va (Vd rfl tf_32_2 ts_3 (by decide)) rfl (Xy rfl rfl c8 (Va (Vi rfl (Vg rfl rfl) rfl ta_3 rfl) rfl (Xy rfl rfl c8 (Va (Vm rfl) rfl ?_)))))))); refine Xy rfl rfl c8 (Vj (Vz rfl Try.call54 (F_lists_In_ok h10 _)) rfl (Va (Xh (congrArg Yu c8) rfl) rfl (Va (Vu rfl) rfl (Xy rfl rfl c11 (Va (Vd rfl tf_32_3 ts_3 (by decide)) rfl (Xy rfl rfl c11 (Va (Vi rfl (Vg rfl rfl) rfl ta_3 rfl) rfl (Xy rfl rfl c11 ?_)))))))); refine Vj (Vz rfl Try.call54 (F_lists_In_ok h13 _)) rfl (Va (Xh (congrArg Yu c11) rfl) rfl (Va (Xm rfl) rfl (Vc (Vx ?_)))); obtain rfl := Yv hF; refine fnR ?_; exact Vl rfl [] (by decide) ⟨Vk rfl (.bool _), trivial⟩ trivial
     ·have hF := Xk c11 hF; refine Va (Vd rfl tf_32_0 ts_3 (by decide)) rfl (Va (Vi rfl (Vg rfl rfl) rfl ta_3 rfl) rfl (Vj (Vz rfl Try.call54 (F_lists_In_ok h4 _)) rfl (Va (Vu rfl) rfl (Xy rfl rfl c5 (Va (Vd rfl tf_32_1 ts_3 (by decide)) rfl (Xy rfl rfl c5 (Va (Vi rfl (Vg rfl rfl) rfl ta_3 rfl) rfl (Xy rfl rfl c5 ?_)))))))); refine Vj (Vz rfl Try.call54 (F_lists_In_ok h7 _)) rfl (Va (Xh (congrArg Yu c5) rfl) rfl (Va (Vu rfl) rfl (Xy rfl rfl c8 (Va (Vd rfl tf_32_2 ts_3 (by decide)) rfl (Xy rfl rfl c8 (Va (Vi rfl (Vg rfl rfl) rfl ta_3 rfl) rfl (Xy rfl rfl c8 (Va (Vm rfl) rfl ?_)))))))); refine Xy rfl rfl c8 (Vj (Vz rfl Try.call54 (F_lists_In_ok h10 _)) rfl (Va (Xh (congrArg Yu c8) rfl) rfl (Va (Vu rfl) rfl (Vf rfl rfl (neF c11) rfl (Vf rfl rfl (neF c11) rfl (Vf rfl rfl (neF c11) rfl (Va (Xi (congrArg Yu c11) rfl) rfl (Va (Xm rfl) rfl ?_)))))))); refine Vc (Vx ?_); obtain rfl := Yv hF; refine fnR ?_; exact Vl rfl [] (by decide) ⟨Vk rfl (.bool _), trivial⟩ trivial
    ·have hF := Xk c8 hF; refine Va (Vd rfl tf_32_0 ts_3 (by decide)) rfl (Va (Vi rfl (Vg rfl rfl) rfl ta_3 rfl) rfl (Vj (Vz rfl Try.call54 (F_lists_In_ok h4 _)) rfl (Va (Vu rfl) rfl (Xy rfl rfl c5 (Va (Vd rfl tf_32_1 ts_3 (by decide)) rfl (Xy rfl rfl c5 (Va (Vi rfl (Vg rfl rfl) rfl ta_3 rfl) rfl (Xy rfl rfl c5 ?_)))))))); refine Vj (Vz rfl Try.call54 (F_lists_In_ok h7 _)) rfl (Va (Xh (congrArg Yu c5) rfl) rfl (Va (Vu rfl) rfl (Vf rfl rfl (neF c8) rfl (Vf rfl rfl (neF c8) rfl (Vf rfl rfl (neF c8) rfl (Vf rfl rfl (neF c8) rfl (Va (Xi (congrArg Yu c8) rfl) rfl (Va (Vu rfl) rfl ?_)))))))); refine Vf rfl rfl (by decide) rfl (Vf rfl rfl (by decide) rfl (Vf rfl rfl (by decide) rfl (Va (Xi rfl rfl) rfl (Va (Xm rfl) rfl (Vc (Vx ?_)))))); obtain rfl := Yv hF; refine fnR ?_; exact Vl rfl [] (by decide) ⟨Vk rfl (.bool _), trivial⟩ trivial
   ·have hF := Xk c5 hF; refine Va (Vd rfl tf_32_0 ts_3 (by decide)) rfl (Va (Vi rfl (Vg rfl rfl) rfl ta_3 rfl) rfl (Vj (Vz rfl Try.call54 (F_lists_In_ok h4 _)) rfl (Va (Vu rfl) rfl (Vf rfl rfl (neF c5) rfl (Vf rfl rfl (neF c5) rfl (Vf rfl rfl (neF c5) rfl (Va (Xi (congrArg Yu c5) rfl) rfl (Va (Vu rfl) rfl ?_)))))))); refine Vf rfl rfl (by decide) rfl (Vf rfl rfl (by decide) rfl (Vf rfl rfl (by decide) rfl (Vf rfl rfl (by decide) rfl (Va (Xi rfl rfl) rfl (Va (Vu rfl) rfl (Vf rfl rfl (by decide) rfl (Vf rfl rfl (by decide) rfl (Vf rfl rfl (by decide) rfl ?_)))))))); refine Va (Xi rfl rfl) rfl (Va (Xm rfl) rfl (Vc (Vx ?_))); obtain rfl := Yv hF; refine fnR ?_; exact Vl rfl [] (by decide) ⟨Vk rfl (.bool _), trivial⟩ trivial
 ·rintro _ _ _ _ ⟨he, hw⟩; refine ⟨_, _, _, hw, ?_⟩; exact Xr he [.bool r] ⟨rfl, trivial⟩ (.bool _) ⟨rfl, rfl⟩

theorem F_lists_Put_ok0 {p0 : List Int} {p1 : Int} {p2 : Int} {r : List Int} (hF : F_lists_Put p0 p1 p2 = some r) {low0 : List AObj} {q0 w0 : Nat} (hB : Bor low0 [q0]) {m0 : Nat} (hm0 : m0 = (p0).length) {n : Nat} (hn : low0.length = n) :
    Xu Try.prog 35 [.sl q0 w0 0 (p0).length, .int .u64 p1, .int .i64 p2] (setL low0 [(q0, ⟨5, 1, Ys (Yt .u8) p0, w0⟩)]) fun x low' => x = .sl q0 (w0 + 1) 0 (r).length ∧ low' = setL low0 [(q0, ⟨5, 1, Ys (Yt .u8) r, w0 + 1⟩)] ++ [] := by
 refine vcalls_norm (G := Nat) (X := fun γ => .sl q0 γ 0 (r).length) (LW := fun γ => setL low0 [(q0, ⟨5, 1, Ys (Yt .u8) r, γ⟩)] ++ []) ?_ fun γ => ⟨nos_B hB hn rfl rfl rfl ⟨⟨rfl, no_map (fun _ => .int _ _) (.inr (ver_up (get_B0 hB rfl 0 rfl) (Nat.lt_succ_self _)))⟩, trivial⟩ trivial, nv_sl (get_B hB rfl 0 rfl) (get_B hB rfl 0 rfl) rfl rfl⟩; refine Vw (nt := 24) (rs := [.tmp 6]) Try.func35 rfl rfl (Yw rfl) rfl ?_
 subst hm0
 have hq0 : q0 < n := hB.ltN hn 0 rfl
 refine Vs (Q' := FnE (fun E' lw lc => ∃ g0 : Nat, Xt E' lw lc [(6, .sl q0 g0 0 (r).length)] (setL low0 [(q0, ⟨5, 1, Ys (Yt .u8) r, g0⟩)]) [])) ?_ ?_
 ·unfold F_lists_Put at hF; refine Ve (Vb (Vj (vef_nilsN (lenS hn) rfl 5 1 (Yx _) (rd_asN rfl)) rfl (Vc (Ve (Ve (Vb (Va (Vm rfl) rfl (Va (rd_sub rfl rfl rfl) rfl ?_)))))))); refine Va (Vv rfl) rfl (Vc (Xl ?_)); obtain ⟨o2, ho2, hF⟩ := Yf hF; refine Vs (Yn (F_lists_Put_L1 p1) (fun s1 E' lw lc => ∃ wg10 : Nat, Xt E' lw lc [(0, .sl q0 wg10 0 (s1.2).length), (1, .int .u64 p1), (7, .int .i64 s1.1)] (setL low0 [(q0, ⟨5, 1, Ys (Yt .u8) s1.2, wg10⟩)]) []) (fun o2 => OnlyE (.exit 0) (fun E' lw lc => ∃ g0 : Nat, Xt E' lw lc [(0, .sl q0 g0 0 (o2).length)] (setL low0 [(q0, ⟨5, 1, Ys (Yt .u8) o2, g0⟩)]) [])) ho2 ⟨w0, ?_⟩ (by rintro _ _ _ _ ⟨h, _⟩ <;> cases h) ?_) ?_
  ·exact Vl (lenS hn) [] (by decide) ⟨Vk rfl (.sl _ _ _ _ hq0), Vk rfl (.int _ _), Vk rfl (.int _ _), trivial⟩ trivial
  ·rintro s1 os1 _ _ _ hF ⟨wg10, hw⟩; unfold F_lists_Put_L1 at hF; refine Yq hw (Ve (Ve (Vb (Va (Vm rfl) rfl (Va (rd_geq rfl rfl) rfl (Vc (Vy rfl (fun c3 => ?_) (fun c3 => ?_))))))))
   ·have hF := Xj c3 hF; refine Xc (Ve (Xl (Vb ?_))); obtain ⟨x4, h5, hF⟩ := Yf hF; obtain ⟨x6, h7, hF⟩ := Yf hF; refine Va (Xo rfl) rfl (Va (Vm rfl) rfl (Va (Vm rfl) rfl (Va (rd_mul rfl rfl rfl) rfl (Va (rd_conv rfl us_3 ti_45 rfl) rfl (Va (rd_shr rfl rfl (shrI_some h5).1 (shrI_some h5).2) rfl (Va (rd_conv rfl us_71 ti_5 rfl) rfl (Vj (vef_litF (es := Ys (Yt .u8) [(IntKind.u8.wrap x4)]) ⟨rfl, rfl, trivial⟩ rfl rfl (nt_all rfl) te_38 ts_5 tz_5 rfl rfl (Yx _) (by decide) (lt_map (fun _ => .int _ _))) rfl (Vj (vef_apL (f := (Yt .u8)) (l := s1.2) (ys := [(IntKind.u8.wrap x4)]) rfl rfl (Yb hB rfl 0 rfl) rfl (src_vs rfl) te_38 ts_5 tb_5 (by decide) tz_5 rfl h7 (setO_B hB rfl 0 rfl (Vr (fun _ => .int _ _)) rfl)) rfl ?_)))))))); refine Va (Ym rfl) rfl (Vc (Vb (Va (Vm rfl) rfl (Va (rd_sub rfl rfl rfl) rfl (Va (Vv rfl) rfl (Vc ?_)))))); obtain rfl := Yv hF; refine And.intro rfl (Exists.intro (wg10 + 1) ?_); exact Vp ⟨rfl, rfl, rfl, trivial⟩
   ·have hF := Xk c3 hF; refine Yr ?_; obtain rfl := Yv hF; refine And.intro rfl (Exists.intro wg10 ?_); exact Vp ⟨rfl, trivial⟩
  ·rintro _ _ _ _ ⟨rfl, g8, hw⟩; refine ⟨_, _, _, hw, ?_⟩; refine Ve (Vb (Va (Xo rfl) rfl (Va (Ym rfl) rfl (Vc (Vx ?_))))); obtain rfl := Yv hF; refine And.intro (.inr rfl) (Exists.intro g8 ?_); exact Vp ⟨rfl, trivial⟩
 ·rintro _ _ _ _ ⟨he, g0, hw⟩; refine ⟨_, _, _, hw, ?_⟩; exact bodyQ_all he [.sl q0 g0 0 (r).length] ⟨rfl, trivial⟩ ⟨g0, rfl, rfl⟩

theorem F_lists_Put_len {p0 : List Int} {p1 : Int} {p2 : Int} {r : List Int} (hF : F_lists_Put p0 p1 p2 = some r) {m0 : Nat} (hm0 : m0 = (p0).length) : True := by
  have h : LP (F_lists_Put p0 p1 p2) (fun r => True) := by
    unfold F_lists_Put; exact (lp_bind (Q := fun o2 => True) (lp_loop (fun s1 => True) trivial (fun s1 _ => by unfold F_lists_Put_L1; exact (lp_bif (fun c3 => Yl fun x4 h5 => Yl fun x6 h7 => Yh trivial) (fun c3 => Yh trivial)))) (fun o2 _ => Yh trivial))
  exact h r hF

theorem F_lists_Put_ok {p0 : List Int} {p1 : Int} {p2 : Int} {r : List Int} (hF : F_lists_Put p0 p1 p2 = some r) {low : List AObj} {q0 w0 : Nat} (hnd : [q0].Nodup) {m0 : Nat} (hm0 : m0 = (p0).length) (hq0 : low[q0]? = some ⟨5, 1, Ys (Yt .u8) p0, w0⟩) {n : Nat} (hn : low.length = n) :
    Xu Try.prog 35 [.sl q0 w0 0 (p0).length, .int .u64 p1, .int .i64 p2] low fun x low' => x = .sl q0 (w0 + 1) 0 (r).length ∧ low' = setL low [(q0, ⟨5, 1, Ys (Yt .u8) r, w0 + 1⟩)] ++ [] := by
  obtain ⟨h1, h2⟩ := bor_start (ps := [(q0, ⟨5, 1, Ys (Yt .u8) p0, w0⟩)]) hnd (borC hq0 bor0); exact vcalls_low h1 (F_lists_Put_ok0 hF h2 hm0 hn)

theorem F_controlroom_total_ok {p0 : List Int} {r : Int} (hF : F_controlroom_total p0 = some r) (low : List AObj) :
    Xu Try.prog 36 [.vs 1 (Ys (Yt .u8) p0)] low fun x low' => x = .int .u8 r ∧ low' = low := by
 refine Vw (nt := 17) (rs := [.tmp 2]) Try.func36 rfl rfl (Yw rfl) rfl (Vs (Q' := FnE (fun E' lw lc => Xt E' lw lc [(2, .int .u8 r)] low [])) ?_ ?_)
 ·unfold F_controlroom_total at hF; refine Ve (Vb (Va (Vv rfl) rfl (Vc (Ve (Vb (Va (Vv rfl) rfl (Vc (Ve ?_)))))))); refine Ve (Vb (Va (Yc rfl) rfl (Va (Xw (Xq rfl rfl te_38) (congrArg (fun n : Nat => Yt .i64 (n : Int)) (Yz _))) rfl (Va (Vm rfl) rfl (Vc (Xl ?_)))))); obtain ⟨o2, ho2, hF⟩ := Yf hF; refine Vs (Yn (F_controlroom_total_L1 p0) (fun s1 E' lw lc => Xt E' lw lc [(3, .int .u8 s1.1), (6, .vs 1 (Ys (Yt .u8) p0)), (7, .int .i64 ((p0).length : Int)), (8, .int .i64 s1.2)] low []) (fun o2 => OnlyE (.exit 0) (fun E' lw lc => Xt E' lw lc [(3, .int .u8 o2)] low [])) ho2 ?_ (by rintro _ _ _ _ ⟨h, _⟩ <;> cases h) ?_) ?_
  ·exact Vp ⟨rfl, rfl, rfl, rfl, trivial⟩
  ·rintro s1 os1 _ _ _ hF hw; unfold F_controlroom_total_L1 at hF; refine Yq hw (Ve (Vb (Va (rd_lss rfl rfl) rfl (Vc (Ve (Vy rfl (fun c3 => ?_) (fun c3 => ?_)))))))
   ·have hF := Xj c3 hF; refine Xc (Ve (Xl (Ve (Vb ?_)))); obtain ⟨x4, h5, hF⟩ := Yf hF; refine Va (Xw (rd_ixV rfl rfl h5 te_38 ts_5) (v' := .vptr [.int .u8 x4] 0) rfl) rfl (Va (rd_loadV1 rfl ta_5 rfl) rfl (Va (Vv rfl) rfl (Vc (Vb (Va (Vm rfl) rfl (Va (Vm rfl) rfl (Va (rd_add rfl rfl rfl) rfl (Va (Vv rfl) rfl ?_)))))))); refine Vc (Vb (Va (rd_add rfl rfl rfl) rfl (Va (Vm rfl) rfl (Vc ?_)))); obtain rfl := Yv hF; refine Xa ?_; exact Vp ⟨rfl, rfl, rfl, rfl, trivial⟩
   ·have hF := Xk c3 hF; refine Yr ?_; obtain rfl := Yv hF; refine Xa ?_; exact Vp ⟨rfl, trivial⟩
  ·rintro _ _ _ _ ⟨rfl, hw⟩; refine ⟨_, _, _, hw, ?_⟩; refine Ve (Vb (Va (Vm rfl) rfl (Va (Vv rfl) rfl (Vc (Vx ?_))))); obtain rfl := Yv hF; refine fnR ?_; exact Vp ⟨rfl, trivial⟩
 ·rintro _ _ _ _ ⟨he, hw⟩; refine ⟨_, _, _, hw, ?_⟩; exact Xr he [.int .u8 r] ⟨rfl, trivial⟩ (.int _ _) ⟨rfl, rfl⟩

theorem F_controlroom_Bytes_ok {p0 : T_Record} {r : List Int × Int} (hF : F_controlroom_Bytes p0 = some r) (low : List AObj) :
    Xu Try.prog 13 [.agg (zC p0)] low fun x low' => x = .tup [.vs 1 (Ys (Yt .u8) r.1), .int .i64 r.2] ∧ low' = low := by
 refine Vw (nt := 34) (rs := [.tmp 2, .tmp 3]) Try.func13 rfl rfl (Yw rfl) rfl (Vs (Q' := FnE (fun E' lw lc => Xt E' lw lc [(2, .vs 1 (Ys (Yt .u8) r.1)), (3, .int .i64 r.2)] low [])) ?_ ?_)
 ·unfold F_controlroom_Bytes at hF; refine Ve (Vb (Vj (vef_boxN rfl rfl (v := .agg (zC p0)) rfl rfl (Yx _) rfl rfl) rfl (Va (rd_nv (sz := 1) (rd_asN rfl)) rfl (Va (Vv rfl) rfl (Vc (Ve (Ve (Vb ?_)))))))); obtain ⟨x1, h2, hF⟩ := Yf hF; refine Va (Yd (ds := (zC p0)) rfl (Vg rfl rfl) rfl ta_32 ts_32 rfl rfl rfl) rfl (Vj (Vz rfl Try.call30 (F_controlroom_Valid_ok h2 _)) rfl (Va (rd_not rfl) rfl (Vc (Vy rfl (fun c3 => ?_) (fun c3 => ?_)))))
  ·have hF := Xj c3 hF; refine Ve (Vb (Va (rd_nv (sz := 1) (rd_asN rfl)) rfl (Va (Vv rfl) rfl (Vc (Vx ?_))))); obtain rfl := Yv hF; refine fnR ?_; exact Vl rfl [] (by decide) ⟨Vk rfl (.vs _ _), Vk rfl (.int _ _), trivial⟩ trivial
  ·have hF := Xk c3 hF; refine Xc (Ve (Vb ?_)); obtain ⟨x4, h5, hF⟩ := Yf hF; refine Vj (vef_litN rfl rfl (es := Ys (Yt .u8) [82]) ⟨rfl, rfl, trivial⟩ rfl rfl (nt_all rfl) te_38 ts_5 tz_5 rfl rfl (Yx _) (by decide)) rfl (Va (Vd rfl tf_32_0 ts_3 (by decide)) rfl (Va (Vi rfl (Vg rfl rfl) rfl ta_3 rfl) rfl (Va (rd_conv rfl us_3 ti_71 rfl) rfl (Vj (vef_callS (ps := [((low.length + 1), ⟨5, 1, Ys (Yt .u8) x4, 0 + 1⟩)]) (r := .sl (low.length + 1) (0 + 1) 0 (x4).length) (os := []) (low1 := low) (loc1 := [(zD p0 0), ⟨5, 1, Ys (Yt .u8) x4, 0 + 1⟩]) (loc2 := [(zD p0 0), ⟨5, 1, Ys (Yt .u8) x4, 0 + 1⟩]) rfl Try.call35 (F_lists_Put_ok h5 (nd1 na0 nd0) (rfl : ([82]).length = _) (get_N rfl rfl) (Yo rfl rfl)) (sets_own (loc2 := [(zD p0 0), ⟨5, 1, Ys (Yt .u8) x4, 0 + 1⟩]) rfl 1 rfl sets_nil) rfl) rfl (Va (Ym rfl) rfl (Vc (Ve (Vb ?_)))))))); obtain ⟨x6, h7, hF⟩ := Yf hF; refine Va (Xo rfl) rfl (Va (Vd rfl tf_32_1 ts_3 (by decide)) rfl (Va (Vi rfl (Vg rfl rfl) rfl ta_3 rfl) rfl (Va (rd_conv rfl us_3 ti_71 rfl) rfl (Vj (vef_callS (ps := [((low.length + 1), ⟨5, 1, Ys (Yt .u8) x6, (0 + 1) + 1⟩)]) (r := .sl (low.length + 1) ((0 + 1) + 1) 0 (x6).length) (os := []) (low1 := low) (loc1 := [(zD p0 0), ⟨5, 1, Ys (Yt .u8) x6, (0 + 1) + 1⟩]) (loc2 := [(zD p0 0), ⟨5, 1, Ys (Yt .u8) x6, (0 + 1) + 1⟩]) rfl Try.call35 (F_lists_Put_ok h7 (nd1 na0 nd0) (rfl : (x4).length = _) (get_N rfl rfl) (Yo rfl rfl)) (sets_own (loc2 := [(zD p0 0), ⟨5, 1, Ys (Yt .u8) x6, (0 + 1) + 1⟩]) rfl 1 rfl sets_nil) rfl) rfl (Va (Ym rfl) rfl (Vc (Ve (Vb ?_)))))))); obtain ⟨x8, h9, hF⟩ := Yf hF; refine Va (Xo rfl) rfl (Va (Vd rfl tf_32_2 ts_3 (by decide)) rfl (Va (Vi rfl (Vg rfl rfl) rfl ta_3 rfl) rfl (Va (rd_conv rfl us_3 ti_71 rfl) rfl (Vj (vef_callS (ps := [((low.length + 1), ⟨5, 1, Ys (Yt .u8) x8, ((0 + 1) + 1) + 1⟩)]) (r := .sl (low.length + 1) (((0 + 1) + 1) + 1) 0 (x8).length) (os := []) (low1 := low) (loc1 := [(zD p0 0), ⟨5, 1, Ys (Yt .u8) x8, ((0 + 1) + 1) + 1⟩]) (loc2 := [(zD p0 0), ⟨5, 1, Ys (Yt .u8) x8, ((0 + 1) + 1) + 1⟩]) rfl Try.call35 (F_lists_Put_ok h9 (nd1 na0 nd0) (rfl : (x6).length = _) (get_N rfl rfl) (Yo rfl rfl)) (sets_own (loc2 := [(zD p0 0), ⟨5, 1, Ys (Yt .u8) x8, ((0 + 1) + 1) + 1⟩]) rfl 1 rfl sets_nil) rfl) rfl (Va (Ym rfl) rfl (Vc (Ve (Vb ?_)))))))); obtain ⟨x10, h11, hF⟩ := Yf hF; refine Va (Xo rfl) rfl (Va (Vd rfl tf_32_3 ts_3 (by decide)) rfl (Va (Vi rfl (Vg rfl rfl) rfl ta_3 rfl) rfl (Va (rd_conv rfl us_3 ti_71 rfl) rfl (Vj (vef_callS (ps := [((low.length + 1), ⟨5, 1, Ys (Yt .u8) x10, (((0 + 1) + 1) + 1) + 1⟩)]) (r := .sl (low.length + 1) ((((0 + 1) + 1) + 1) + 1) 0 (x10).length) (os := []) (low1 := low) (loc1 := [(zD p0 0), ⟨5, 1, Ys (Yt .u8) x10, (((0 + 1) + 1) + 1) + 1⟩]) (loc2 := [(zD p0 0), ⟨5, 1, Ys (Yt .u8) x10, (((0 + 1) + 1) + 1) + 1⟩]) rfl Try.call35 (F_lists_Put_ok h11 (nd1 na0 nd0) (rfl : (x8).length = _) (get_N rfl rfl) (Yo rfl rfl)) (sets_own (loc2 := [(zD p0 0), ⟨5, 1, Ys (Yt .u8) x10, (((0 + 1) + 1) + 1) + 1⟩]) rfl 1 rfl sets_nil) rfl) rfl (Va (Ym rfl) rfl (Vc (Ve (Vb ?_)))))))); obtain ⟨x12, h13, hF⟩ := Yf hF; obtain ⟨x14, h15, hF⟩ := Yf hF; refine Va (Xo rfl) rfl (Va (Xo rfl) rfl (Vj (vef_callB (vs := [.vs 1 (Ys (Yt .u8) x10)]) rfl Try.call36 ⟨view_sl rfl (Vg rfl rfl) rfl rfl (lt_map (fun _ => .int _ _)) (full_take rfl), trivial⟩ ((F_controlroom_total_ok h13 []).mono fun _ _ h => h.1) (.int _ _)) rfl (Va (rd_sub rfl rfl rfl) rfl (Vj (vef_litF (es := Ys (Yt .u8) [(IntKind.u8.wrap (90 - x12))]) ⟨rfl, rfl, trivial⟩ rfl rfl (nt_all rfl) te_38 ts_5 tz_5 rfl rfl (Yx _) (by decide) (lt_map (fun _ => .int _ _))) rfl (Vj (vef_apL (f := (Yt .u8)) (l := x10) (ys := [(IntKind.u8.wrap (90 - x12))]) rfl rfl (Vg rfl rfl) rfl (src_vs rfl) te_38 ts_5 tb_5 (by decide) tz_5 rfl h15 (Xf rfl rfl)) rfl (Va (Ym rfl) rfl (Va (Vv rfl) rfl (Vc ?_)))))))); refine Vx ?_; obtain rfl := Yv hF; refine fnR (Weak.trans (weak_freezeN (E' := [(2, .vs 1 (Ys (Yt .u8) x14)), (3, .int .i64 0)]) (loc1 := [(zD p0 0), ⟨5, 1, [], (((((0 + 1) + 1) + 1) + 1) + 1) + 1⟩]) rfl 1 rfl (lt_map (fun _ => .int _ _)) ⟨cv_sl rfl rfl rfl (full_take rfl), Xx rfl, trivial⟩ ⟨.refl _, .refl _, trivial⟩) ?_); exact Vl rfl [] (by decide) ⟨Vk rfl (.vs _ _), Vk rfl (.int _ _), trivial⟩ trivial
 ·rintro _ _ _ _ ⟨he, hw⟩; refine ⟨_, _, _, hw, ?_⟩; exact Xr he [.vs 1 (Ys (Yt .u8) r.1), .int .i64 r.2] ⟨rfl, rfl, trivial⟩ ((lt_tup ⟨.vs _ _, .int _ _, trivial⟩)) ⟨rfl, rfl⟩

theorem F_lists_Number_ok {p0 : List Int} {r : Int} (hF : F_lists_Number p0 = some r) (low : List AObj) :
    Xu Try.prog 64 [.vs 1 (Ys (Yt .u8) p0)] low fun x low' => x = .int .u64 r ∧ low' = low := by
 refine Vw (nt := 19) (rs := [.tmp 2]) Try.func64 rfl rfl (Yw rfl) rfl (Vs (Q' := FnE (fun E' lw lc => Xt E' lw lc [(2, .int .u64 r)] low [])) ?_ ?_)
 ·unfold F_lists_Number at hF; refine Ve (Vb (Va (Vv rfl) rfl (Vc (Ve (Vb (Va (Vv rfl) rfl (Vc (Ve ?_)))))))); refine Ve (Vb (Va (Yc rfl) rfl (Va (Xw (Xq rfl rfl te_38) (congrArg (fun n : Nat => Yt .i64 (n : Int)) (Yz _))) rfl (Va (Vm rfl) rfl (Vc (Xl ?_)))))); obtain ⟨o2, ho2, hF⟩ := Yf hF; refine Vs (Yn (F_lists_Number_L1 p0) (fun s1 E' lw lc => Xt E' lw lc [(3, .int .u64 s1.1), (6, .vs 1 (Ys (Yt .u8) p0)), (7, .int .i64 ((p0).length : Int)), (8, .int .i64 s1.2)] low []) (fun o2 => OnlyE (.exit 0) (fun E' lw lc => Xt E' lw lc [(3, .int .u64 o2)] low [])) ho2 ?_ (by rintro _ _ _ _ ⟨h, _⟩ <;> cases h) ?_) ?_
  ·exact Vp ⟨rfl, rfl, rfl, rfl, trivial⟩
  ·rintro s1 os1 _ _ _ hF hw; unfold F_lists_Number_L1 at hF; refine Yq hw (Ve (Vb (Va (rd_lss rfl rfl) rfl (Vc (Ve (Vy rfl (fun c3 => ?_) (fun c3 => ?_)))))))
   ·have hF := Xj c3 hF; refine Xc (Ve (Xl (Ve (Vb ?_)))); obtain ⟨x4, h5, hF⟩ := Yf hF; refine Va (Xw (rd_ixV rfl rfl h5 te_38 ts_5) (v' := .vptr [.int .u8 x4] 0) rfl) rfl (Va (rd_loadV1 rfl ta_5 rfl) rfl (Va (Vv rfl) rfl (Vc (Vb (Va (Vm rfl) rfl (Va (rd_shlC (c := 256) rfl rfl (by decide) rfl rfl) rfl (Va (Vm rfl) rfl (Va (rd_conv rfl us_5 ti_71 rfl) rfl ?_)))))))); refine Va (rd_or rfl rfl rfl) rfl (Va (Vv rfl) rfl (Vc (Vb (Va (rd_add rfl rfl rfl) rfl (Va (Vm rfl) rfl (Vc ?_)))))); obtain rfl := Yv hF; refine Xa ?_; exact Vp ⟨rfl, rfl, rfl, rfl, trivial⟩
   ·have hF := Xk c3 hF; refine Yr ?_; obtain rfl := Yv hF; refine Xa ?_; exact Vp ⟨rfl, trivial⟩
  ·rintro _ _ _ _ ⟨rfl, hw⟩; refine ⟨_, _, _, hw, ?_⟩; refine Ve (Vb (Va (Vm rfl) rfl (Va (Vv rfl) rfl (Vc (Vx ?_))))); obtain rfl := Yv hF; refine fnR ?_; exact Vp ⟨rfl, trivial⟩
 ·rintro _ _ _ _ ⟨he, hw⟩; refine ⟨_, _, _, hw, ?_⟩; exact Xr he [.int .u64 r] ⟨rfl, trivial⟩ (.int _ _) ⟨rfl, rfl⟩

theorem F_controlroom_one_1_ok {p0 : List Int} {r : Int} (hF : F_controlroom_one_1 p0 = some r) (low : List AObj) :
    Xu Try.prog 63 [.vs 1 (Ys (Yt .u8) p0)] low fun x low' => x = .int .i64 r ∧ low' = low := by
 refine Vw (nt := 7) (rs := [.tmp 2]) Try.func63 rfl rfl (Yw rfl) rfl (Vs (Q' := FnE (fun E' lw lc => Xt E' lw lc [(2, .int .i64 r)] low [])) ?_ ?_)
 ·unfold F_controlroom_one_1 at hF; refine Ve (Vb (Va (Vv rfl) rfl (Vc (Ve (Vb ?_))))); obtain ⟨x1, h2, hF⟩ := Yf hF; refine Va (Yc rfl) rfl (Vj (Vz rfl Try.call64 (F_lists_Number_ok h2 _)) rfl (Va (rd_min rfl rfl) rfl (Va (rd_conv rfl us_71 ti_3 rfl) rfl (Va (Vv rfl) rfl (Vc (Vx ?_)))))); obtain rfl := Yv hF; refine fnR ?_; exact Vp ⟨rfl, trivial⟩
 ·rintro _ _ _ _ ⟨he, hw⟩; refine ⟨_, _, _, hw, ?_⟩; exact Xr he [.int .i64 r] ⟨rfl, trivial⟩ (.int _ _) ⟨rfl, rfl⟩

theorem F_controlroom_one_ok {p0 : List Int} {r : T_Record × Bool} (hF : F_controlroom_one p0 = some r) (low : List AObj) :
    Xu Try.prog 37 [.vs 1 (Ys (Yt .u8) p0)] low fun x low' => x = .tup [.agg (zC r.1), .bool r.2] ∧ low' = low := by
 refine Vw (nt := 36) (rs := [.cell 2 32, .tmp 3]) Try.func37 rfl rfl (Yw rfl) rfl (Vs (Q' := FnE (fun E' lw lc => Xt E' lw lc [(2, .ptr (low.length + 0) 0 0 0), (3, .bool r.2)] low [(zD r.1 0)])) ?_ ?_)
 ·unfold F_controlroom_one at hF; refine Ve (Vb (Vj (Yk rfl rfl tz_32 rfl rfl (Yx _) rfl) rfl (Va (Xm rfl) rfl (Vc (Ve (Ve ?_)))))); obtain ⟨o1, ho1, hF⟩ := Yf hF; refine Vs (Q' := (fun o1 => OnlyE .normal (fun E' lw lc => Xt E' lw lc [(0, .vs 1 (Ys (Yt .u8) p0)), (2, .ptr (low.length + 0) 0 0 0), (14, .bool o1)] low [⟨32, 4, [.agg [.int .i64 0, .int .i64 0, .int .i64 0, .int .i64 0]], 0⟩])) o1) ?_ ?_
  ·replace hF := ho1; refine Vb ?_; obtain ⟨x2, h3, hF⟩ := Yf hF
   rcases Yy (decide (x2 ≠ 82)) with c4 | c4
   ·have hF := Xj c4 hF; refine Va (Yc rfl) rfl (Va (Xw (rd_ixV rfl rfl h3 te_38 ts_5) (v' := .vptr [.int .u8 x2] 0) rfl) rfl (Va (rd_loadV1 rfl ta_5 rfl) rfl (Va (rd_neq rfl rfl) rfl (Va (Vu rfl) rfl (Vf rfl rfl (neT c4) rfl (Vf rfl rfl (neT c4) rfl (Vf rfl rfl (neT c4) rfl (Va (Xh (congrArg Yu c4) rfl) rfl ?_)))))))); refine Vc ?_; obtain rfl := Yv hF; refine Xa ?_; exact Vp ⟨rfl, rfl, rfl, trivial⟩
   ·have hF := Xk c4 hF; obtain ⟨x5, h6, hF⟩ := Yf hF; refine Va (Yc rfl) rfl (Va (Xw (rd_ixV rfl rfl h3 te_38 ts_5) (v' := .vptr [.int .u8 x2] 0) rfl) rfl (Va (rd_loadV1 rfl ta_5 rfl) rfl (Va (rd_neq rfl rfl) rfl (Va (Vu rfl) rfl (Xy rfl rfl c4 (Va (Yc rfl) rfl (Xy rfl rfl c4 (Vj (Vz rfl Try.call36 (F_controlroom_total_ok h6 _)) rfl ?_)))))))); refine Xy rfl rfl c4 (Va (rd_neq rfl rfl) rfl (Va (Xi (congrArg Yu c4) rfl) rfl (Vc ?_))); obtain rfl := Yv hF; refine Xa ?_; exact Vp ⟨rfl, rfl, rfl, trivial⟩
  ·rintro _ _ _ _ ⟨rfl, hw⟩; refine ⟨_, _, _, hw, ?_⟩; refine Vy rfl (fun c7 => ?_) (fun c7 => ?_)
   ·have hF := Xj c7 hF; refine Ve (Vb (Va (rd_build (vs := []) (ds := [.int .i64 0, .int .i64 0, .int .i64 0, .int .i64 0]) tz_32 rfl rfl tp_32 trivial (nt_all2 rfl) rfl) rfl (Vj (Vt (p := .agg [.int .i64 0, .int .i64 0, .int .i64 0, .int .i64 0]) (e' := .agg [.int .i64 0, .int .i64 0, .int .i64 0, .int .i64 0]) rfl (Vg rfl rfl) rfl rfl ts_32 rfl (Xp rfl) rfl (Yw rfl) rfl (Xf rfl rfl)) rfl (Va (Xm rfl) rfl (Vc (Vx ?_)))))); obtain rfl := Yv hF; refine fnR ?_; exact Vp ⟨rfl, rfl, trivial⟩
   ·have hF := Xk c7 hF; refine Xc (Ve (Vb (Va (rd_asF rfl) rfl (Vc (Ve ?_))))); obtain ⟨x8, h9, hF⟩ := Yf hF; obtain ⟨x10, h11, hF⟩ := Yf hF; obtain ⟨x12, h13, hF⟩ := Yf hF; obtain ⟨x14, h15, hF⟩ := Yf hF; obtain ⟨x16, h17, hF⟩ := Yf hF; obtain ⟨x18, h19, hF⟩ := Yf hF; obtain ⟨x20, h21, hF⟩ := Yf hF; obtain ⟨x22, h23, hF⟩ := Yf hF; refine Xe [[], [], [1], [0, 1, 2], [], [], [5], (List.range 7), [], [], [9], (List.range 11), [], [], [13], (List.range 15), (List.range 16), [], (List.range 18)] [false, false, false, false, false, false, false, false, false, false, false, false, false, false, false, false, false, true, true] [(low, [⟨32, 4, [.agg [.int .i64 0, .int .i64 0, .int .i64 0, .int .i64 0]], 0⟩]), (low, [⟨32, 4, [.agg [.int .i64 0, .int .i64 0, .int .i64 0, .int .i64 0]], 0⟩, ⟨32, 4, [.agg [.int .i64 0, .int .i64 0, .int .i64 0, .int .i64 0]], 0⟩]), (low, [⟨32, 4, [.agg [.int .i64 0, .int .i64 0, .int .i64 0, .int .i64 0]], 0⟩, ⟨32, 4, [.agg [.int .i64 x10, .int .i64 x14, .int .i64 x18, .int .i64 x22]], 0⟩])] mixed (by kernel_rfl) rfl (Xz (Xd rfl (Xd rfl (Xd rfl Yj)))) rfl _ rfl rfl (Ya _ rfl rfl (Xd (VRd.ntl (rd_mvF rfl)) (Xd (VRd.ntl (rd_mvF rfl)) Yj)) (Ya _ rfl rfl (Xd (VRd.ntl (Yc rfl)) (Xd (VRd.ntl (Yc rfl)) Yj)) (Ya _ rfl rfl (Xd (VRd.ntl (rd_slV rfl te_38 ts_5 ⟨_, rfl⟩ ⟨_, rfl⟩ h9)) (Xd (VRd.ntl (rd_slV rfl te_38 ts_5 ⟨_, rfl⟩ ⟨_, rfl⟩ h9)) Yj)) (Ya _ rfl rfl (Xd (nt_of (Vz rfl Try.call63 (F_controlroom_one_1_ok h11 _))) (Xd (nt_of (Vz rfl Try.call63 (F_controlroom_one_1_ok h11 _))) Yj)) (Ya _ rfl rfl (Xd (VRd.ntl (rd_mvF rfl)) (Xd (VRd.ntl (rd_mvF rfl)) Yj)) (Ya _ rfl rfl (Xd (VRd.ntl (Yc rfl)) (Xd (VRd.ntl (Yc rfl)) Yj)) (Ya _ rfl rfl (Xd (VRd.ntl (rd_slV rfl te_38 ts_5 ⟨_, rfl⟩ ⟨_, rfl⟩ h13)) (Xd (VRd.ntl (rd_slV rfl te_38 ts_5 ⟨_, rfl⟩ ⟨_, rfl⟩ h13)) Yj)) (Ya _ rfl rfl (Xd (nt_of (Vz rfl Try.call63 (F_controlroom_one_1_ok h15 _))) (Xd (nt_of (Vz rfl Try.call63 (F_controlroom_one_1_ok h15 _))) Yj)) ?_)))))))); refine Ya _ rfl rfl (Xd (VRd.ntl (rd_mvF rfl)) (Xd (VRd.ntl (rd_mvF rfl)) Yj)) (Ya _ rfl rfl (Xd (VRd.ntl (Yc rfl)) (Xd (VRd.ntl (Yc rfl)) Yj)) (Ya _ rfl rfl (Xd (VRd.ntl (rd_slV rfl te_38 ts_5 ⟨_, rfl⟩ ⟨_, rfl⟩ h17)) (Xd (VRd.ntl (rd_slV rfl te_38 ts_5 ⟨_, rfl⟩ ⟨_, rfl⟩ h17)) Yj)) (Ya _ rfl rfl (Xd (nt_of (Vz rfl Try.call63 (F_controlroom_one_1_ok h19 _))) (Xd (nt_of (Vz rfl Try.call63 (F_controlroom_one_1_ok h19 _))) Yj)) (Ya _ rfl rfl (Xd (VRd.ntl (rd_mvF rfl)) (Xd (VRd.ntl (rd_mvF rfl)) Yj)) (Ya _ rfl rfl (Xd (VRd.ntl (Yc rfl)) (Xd (VRd.ntl (Yc rfl)) Yj)) (Ya _ rfl rfl (Xd (VRd.ntl (rd_slV rfl te_38 ts_5 ⟨_, rfl⟩ ⟨_, rfl⟩ h21)) (Xd (VRd.ntl (rd_slV rfl te_38 ts_5 ⟨_, rfl⟩ ⟨_, rfl⟩ h21)) Yj)) (Ya _ rfl rfl (Xd (nt_of (Vz rfl Try.call63 (F_controlroom_one_1_ok h23 _))) (Xd (nt_of (Vz rfl Try.call63 (F_controlroom_one_1_ok h23 _))) Yj)) (Ya _ rfl rfl (Xd (VRd.ntl (rd_build (vs := [(0, .int .i64 x10), (1, .int .i64 x14), (2, .int .i64 x18), (3, .int .i64 x22)]) (ds := [.int .i64 x10, .int .i64 x14, .int .i64 x18, .int .i64 x22]) tz_32 rfl rfl tp_32 ⟨rfl, rfl, rfl, rfl, rfl, rfl, rfl, rfl, trivial⟩ (nt_all2 rfl) rfl)) (Xd (VRd.ntl (rd_build (vs := [(0, .int .i64 x10), (1, .int .i64 x14), (2, .int .i64 x18), (3, .int .i64 x22)]) (ds := [.int .i64 x10, .int .i64 x14, .int .i64 x18, .int .i64 x22]) tz_32 rfl rfl tp_32 ⟨rfl, rfl, rfl, rfl, rfl, rfl, rfl, rfl, trivial⟩ (nt_all2 rfl) rfl)) Yj)) ?_)))))))); refine Xn rfl rfl rfl (Yk rfl rfl tz_32 rfl rfl (Yx _) rfl) (Xn rfl rfl rfl (Vt (p := .agg [.int .i64 x10, .int .i64 x14, .int .i64 x18, .int .i64 x22]) (e' := .agg [.int .i64 x10, .int .i64 x14, .int .i64 x18, .int .i64 x22]) rfl (Vg rfl rfl) rfl rfl ts_32 rfl (Xp rfl) rfl (Yw rfl) rfl (Xf rfl rfl)) (Xg (Ve ?_))); obtain ⟨x24, h25, hF⟩ := Yf hF; refine Xe [[], [], [1], [0, 1, 2], [0, 1, 2, 3]] [false, false, false, true, false] [(low, [⟨32, 4, [.agg [.int .i64 0, .int .i64 0, .int .i64 0, .int .i64 0]], 0⟩, ⟨32, 4, [.agg [.int .i64 x10, .int .i64 x14, .int .i64 x18, .int .i64 x22]], 0⟩]), (low, [⟨32, 4, [.agg [.int .i64 x10, .int .i64 x14, .int .i64 x18, .int .i64 x22]], 0⟩, ⟨32, 4, [.agg [.int .i64 x10, .int .i64 x14, .int .i64 x18, .int .i64 x22]], 0⟩])] mixed (by kernel_rfl) rfl (Xz (Xd rfl (Xd rfl Yj))) rfl _ rfl rfl (Xb rfl rfl (Yd (ds := [.int .i64 x10, .int .i64 x14, .int .i64 x18, .int .i64 x22]) rfl (Vg rfl rfl) rfl ta_32 ts_32 rfl rfl rfl) (Xb rfl rfl (Yd (ds := [.int .i64 x10, .int .i64 x14, .int .i64 x18, .int .i64 x22]) rfl (Vg rfl rfl) rfl ta_32 ts_32 rfl rfl rfl) (dn1 rfl rfl (nt_of (Vz rfl Try.call30 (F_controlroom_Valid_ok h25 _))) (Xn rfl rfl rfl (Vt (p := .agg [.int .i64 x10, .int .i64 x14, .int .i64 x18, .int .i64 x22]) (e' := .agg [.int .i64 x10, .int .i64 x14, .int .i64 x18, .int .i64 x22]) rfl (Vg rfl rfl) rfl rfl ts_32 rfl (Xp rfl) rfl (Yw rfl) rfl (Xf rfl rfl)) (Xb rfl rfl (Xm rfl) (Xg (Vx ?_))))))); obtain rfl := Yv hF; refine fnR ?_; exact Vl rfl [(0, 0)] (by decide) ⟨Vn 0 0 rfl rfl, Vk rfl (.bool _), trivial⟩ ⟨⟨_, rfl, rfl, .same _ _ _ _ (Vh ⟨Vo ⟨.int _ _, .int _ _, .int _ _, .int _ _, trivial⟩, trivial⟩)⟩, trivial⟩
 ·rintro _ _ _ _ ⟨he, hw⟩; refine ⟨_, _, _, hw, ?_⟩; exact Xr he [.agg (zC r.1), .bool r.2] ⟨Yd rfl (Vg rfl rfl) rfl ta_32 ts_32 rfl rfl rfl, rfl, trivial⟩ ((lt_tup ⟨(Vo ⟨.int _ _, .int _ _, .int _ _, .int _ _, trivial⟩), .bool _, trivial⟩)) ⟨rfl, rfl⟩

theorem F_controlroom_Read_ok {p0 : List Int} {r : List T_Record × Int} (hF : F_controlroom_Read p0 = some r) (low : List AObj) {n : Nat} (hn : low.length = n) :
    Xu Try.prog 14 [.vs 1 (Ys (Yt .u8) p0)] low fun x low' => x = .tup [.sl (n + 0) 0 0 (r.1).length, .int .i64 r.2] ∧ low' = low ++ [⟨32, 4, Ys T_Record.enc r.1, 0⟩] := by
 refine Vw (nt := 39) (rs := [.tmp 2, .tmp 3]) Try.func14 rfl rfl (Yw rfl) rfl (Vs (Q' := FnE (fun E' lw lc => Xt E' lw lc [(2, .sl (n + 0) 0 0 (r.1).length), (3, .int .i64 r.2)] low [⟨32, 4, Ys T_Record.enc r.1, 0⟩])) ?_ ?_)
 ·unfold F_controlroom_Read at hF; refine Ve (Vb (Vj (vef_nilsN hn rfl 32 4 (Yx _) (rd_asN rfl)) rfl (Va (Vv rfl) rfl (Vc (Ve (Vb (Vj (vef_nilsN hn rfl 32 4 (Yx _) (rd_asN rfl)) rfl (Vc ?_)))))))); refine Ve (Xl ?_); obtain ⟨o2, ho2, hF⟩ := Yf hF; refine Vs (Yn (F_controlroom_Read_L1 p0) (fun s1 E' lw lc => Xt E' lw lc [(0, .vs 1 (Ys (Yt .u8) p0)), (4, .sl (n + 0) 0 0 (s1).length)] low [⟨32, 4, Ys T_Record.enc s1, 0⟩]) (fun o2 => OnlyE (.exit 0) (fun E' lw lc => Xt E' lw lc [(4, .sl (n + 0) 0 0 (o2).length)] low [⟨32, 4, Ys T_Record.enc o2, 0⟩])) ho2 ?_ (by rintro _ _ _ _ ⟨h, _⟩ <;> cases h) ?_) ?_
  ·exact Vl hn [(1, 0)] (by decide) ⟨Vk rfl (.vs _ _), Xv 0 1 rfl rfl, trivial⟩ ⟨⟨_, rfl, rfl, .same _ _ _ _ (Vh trivial)⟩, trivial⟩
  ·rintro s1 os1 _ _ _ hF hw; unfold F_controlroom_Read_L1 at hF; refine Yq hw (Ve (Ve ?_)); obtain ⟨o3, ho3, hF⟩ := Yf hF; refine Vs (Q' := (fun o3 => OnlyE .normal (fun E' lw lc => Xt E' lw lc [(0, .vs 1 (Ys (Yt .u8) p0)), (4, .sl (n + 0) 0 0 (s1).length), (18, .bool o3)] low [⟨32, 4, Ys T_Record.enc s1, 0⟩])) o3) ?_ ?_
   ·replace hF := ho3; refine Vb ?_
    rcases Yy (decide (((s1).length : Int) < 2048)) with c4 | c4
    ·have hF := Xj c4 hF; refine Va (Xo rfl) rfl (Va (rd_lenS rfl (Vg hn rfl) rfl rfl te_27) rfl (Va (rd_lss rfl rfl) rfl (Va (Vu rfl) rfl (Xy rfl rfl c4 (Va (Yc rfl) rfl (Xy rfl rfl c4 (Va (Xw (Xq rfl rfl te_38) (congrArg (fun n : Nat => Yt .i64 (n : Int)) (Yz _))) rfl (Xy rfl rfl c4 ?_)))))))); refine Va (Xo rfl) rfl (Xy rfl rfl c4 (Va (rd_lenS rfl (Vg hn rfl) rfl rfl te_27) rfl (Xy rfl rfl c4 (Va (rd_mul rfl rfl rfl) rfl (Xy rfl rfl c4 (Va (rd_sub rfl rfl rfl) rfl (Xy rfl rfl c4 (Va (rd_geq rfl rfl) rfl ?_)))))))); refine Va (Xh (congrArg Yu c4) rfl) rfl (Vc ?_); obtain rfl := Yv hF; refine Xa ?_; exact Vp ⟨rfl, rfl, rfl, trivial⟩
    ·have hF := Xk c4 hF; refine Va (Xo rfl) rfl (Va (rd_lenS rfl (Vg hn rfl) rfl rfl te_27) rfl (Va (rd_lss rfl rfl) rfl (Va (Vu rfl) rfl (Vf rfl rfl (neF c4) rfl (Vf rfl rfl (neF c4) rfl (Vf rfl rfl (neF c4) rfl (Vf rfl rfl (neF c4) rfl (Vf rfl rfl (neF c4) rfl ?_)))))))); refine Vf rfl rfl (neF c4) rfl (Vf rfl rfl (neF c4) rfl (Va (Xi (congrArg Yu c4) rfl) rfl (Vc ?_))); obtain rfl := Yv hF; refine Xa ?_; exact Vp ⟨rfl, rfl, rfl, trivial⟩
   ·rintro _ _ _ _ ⟨rfl, hw⟩; refine ⟨_, _, _, hw, ?_⟩; refine Vy rfl (fun c5 => ?_) (fun c5 => ?_)
    ·have hF := Xj c5 hF; refine Xc (Xl (Ve (Vb ?_))); obtain ⟨x6, h7, hF⟩ := Yf hF; obtain ⟨x8, h9, hF⟩ := Yf hF; obtain ⟨x10, h11, hF⟩ := Yf hF; refine Va (Yc rfl) rfl (Va (Xo rfl) rfl (Va (rd_lenS rfl (Vg hn rfl) rfl rfl te_27) rfl (Va (rd_mul rfl rfl rfl) rfl (Va (rd_slV rfl te_38 ts_5 ⟨_, rfl⟩ rfl h7) rfl (Va (rd_slV rfl te_38 ts_5 rfl ⟨_, rfl⟩ h9) rfl (Vj (Vz rfl Try.call37 (F_controlroom_one_ok h11 _)) rfl (Va (rd_mvT rfl) rfl (Va (Ye rfl rfl) rfl ?_)))))))); refine Va (Ye rfl rfl) rfl (Vj (Yk hn rfl tz_32 rfl rfl (Yx _) rfl) rfl (Vj (Vt (p := .agg (zC x10.1)) (e' := .agg (zC x10.1)) rfl (Vg hn rfl) rfl rfl ts_32 rfl (Xp rfl) rfl (Yw rfl) rfl (Xf hn rfl)) rfl (Va (Xm rfl) rfl (Vc (Ve (Ve (Vb (Va (Vu rfl) rfl ?_)))))))); refine Va (rd_not rfl) rfl (Vc (Vy rfl (fun c12 => ?_) (fun c12 => ?_)))
     ·have hF := Xj c12 hF; refine Yr ?_; obtain rfl := Yv hF; refine Xa ?_; exact Vl hn [(0, 0)] (by decide) ⟨Xv 0 0 rfl rfl, trivial⟩ ⟨⟨_, rfl, rfl, .same _ _ _ _ (Vr T_Record.enc_lt)⟩, trivial⟩
     ·have hF := Xk c12 hF; refine Xc (Vb ?_); obtain ⟨x13, h14, hF⟩ := Yf hF; refine Va (Xo rfl) rfl (Va (Yd (ds := (zC x10.1)) rfl (Vg hn rfl) rfl ta_32 ts_32 rfl rfl rfl) rfl (Vj (vef_litF (es := Ys T_Record.enc [x10.1]) ⟨rfl, rfl, trivial⟩ rfl rfl (nt_all rfl) te_27 ts_32 tz_32 rfl rfl (Yx _) (by decide) (lt_map T_Record.enc_lt)) rfl (Vj (vef_apL (f := T_Record.enc) (l := s1) (ys := [x10.1]) rfl rfl (Vg hn rfl) rfl (src_vs rfl) te_27 ts_32 tb_32 (by decide) tz_32 rfl h14 (Xf hn rfl)) rfl (Va (Ym rfl) rfl (Vc ?_))))); obtain rfl := Yv hF; refine Xa ?_; exact Vl hn [(0, 0 + 1)] (by decide) ⟨Vk rfl (.vs _ _), Xv 0 0 rfl rfl, trivial⟩ ⟨⟨_, rfl, rfl, .same _ _ _ _ (Vr T_Record.enc_lt)⟩, trivial⟩
    ·have hF := Xk c5 hF; refine Yr ?_; obtain rfl := Yv hF; refine Xa ?_; exact Vp ⟨rfl, trivial⟩
  ·rintro _ _ _ _ ⟨rfl, hw⟩; refine ⟨_, _, _, hw, ?_⟩; refine Ve (Vb (Va (Xo rfl) rfl (Va (Xo rfl) rfl (Va (rd_lenS rfl (Vg hn rfl) rfl rfl te_27) rfl (Va (rd_mul rfl rfl rfl) rfl (Va (Ym rfl) rfl (Va (Vv rfl) rfl (Vc ?_)))))))); refine Vx ?_; obtain rfl := Yv hF; refine fnR ?_; exact Vp ⟨rfl, rfl, trivial⟩
 ·rintro _ _ _ _ ⟨he, hw⟩; refine ⟨_, _, _, hw, ?_⟩; exact bodyQ_all he [.sl (n + 0) 0 0 (r.1).length, .int .i64 r.2] ⟨rfl, rfl, trivial⟩ ⟨rfl, rfl⟩

theorem F_slices_Clone___byte_byte__ok {p0 : List Int} {r : List Int} (hF : F_slices_Clone___byte_byte_ p0 = some r) (low : List AObj) :
    Xu Try.prog 52 [.vs 1 (Ys (Yt .u8) p0)] low fun x low' => x = .vs 1 (Ys (Yt .u8) r) ∧ low' = low := by
 refine Vw (nt := 8) (rs := [.tmp 2]) Try.func52 rfl rfl (Yw rfl) rfl (Vs (Q' := FnE (fun E' lw lc => Xt E' lw lc [(2, .vs 1 (Ys (Yt .u8) r))] low [])) ?_ ?_)
 ·unfold F_slices_Clone___byte_byte_ at hF; refine Ve (Vb (Va (rd_nv (sz := 1) (rd_asN rfl)) rfl (Vc (Ve (Ve (Vb (Va (Yc rfl) rfl (vops_nilq rfl (nilq_vs rfl) rfl te_38 rfl ?_))))))))
  intro b1 hb1
  refine Vc (Vy rfl (fun c2 => ?_) (fun c2 => ?_))
  ·have hF : (some ([] : List Int)) = some _ := (show ((appI 1 ([] : List Int) p0).bind fun x3 => some x3) = (some ([] : List Int)) from by have he : p0 = [] := map_nil (hb1 c2); first | (rw [he]; rfl) | simp [he, appI]).symm.trans hF
   refine Ve (Vb (Va (rd_nv (sz := 1) (rd_asN rfl)) rfl (Vc (Vx ?_)))); obtain rfl := Yv hF; refine fnR ?_; exact Vp ⟨rfl, trivial⟩
  ·skip
   refine Xc (Ve (Vb ?_)); obtain ⟨x3, h4, hF⟩ := Yf hF; refine Vj (vef_litN rfl rfl (es := Ys (Yt .u8) ([] : List Int)) trivial rfl rfl (nt_all rfl) te_38 ts_5 tz_5 rfl rfl (Yx _) (by decide)) rfl (Va (Yc rfl) rfl (Vj (vef_apL (f := (Yt .u8)) (l := ([] : List Int)) (ys := p0) rfl rfl (Vg rfl rfl) rfl (src_vs rfl) te_38 ts_5 tb_5 (by decide) tz_5 rfl h4 (Xf rfl rfl)) rfl (Va (Ym rfl) rfl (Vc (Vx ?_))))); obtain rfl := Yv hF; refine fnR (Weak.trans (weak_freezeN (E' := [(2, .vs 1 (Ys (Yt .u8) x3))]) (loc1 := [⟨5, 1, [], (0 + 1) + 1⟩]) rfl 0 rfl (lt_map (fun _ => .int _ _)) ⟨cv_sl rfl rfl rfl (full_take rfl), trivial⟩ ⟨.refl _, trivial⟩) ?_); exact Vl rfl [] (by decide) ⟨Vk rfl (.vs _ _), trivial⟩ trivial
 ·rintro _ _ _ _ ⟨he, hw⟩; refine ⟨_, _, _, hw, ?_⟩; exact Xr he [.vs 1 (Ys (Yt .u8) r)] ⟨rfl, trivial⟩ (.vs _ _) ⟨rfl, rfl⟩

section
open Go.RowKit
set_option maxHeartbeats 4000000
set_option maxRecDepth 100000
theorem infoG5 : (Try.prog.info? 5).map (fun i => (i.zero, i.size, i.bytes)) = some (some (Value.int .u8 0), 1, 1) := by kernel_rfl
theorem grow_zero5 (w : World) : Calls Try.prog 68 #[.slice none 0 0, .int .i64 0] w fun e w' => e = .returned (.slice none 0 0) ∧ w' = w := by
  go_enter Try.func68, Try.ntmps68
  go_wp2
  go_ret
  exact ⟨rfl, rfl⟩
theorem grow_pos5 (w : World) (n : Nat) (h0 : 0 < n) (hb : n * 1 ≤ 140737488355328) (hb2 : n ≤ 140737488355328) : Calls Try.prog 68 #[.slice none 0 0, .int .i64 n] w fun e w' => e = .returned (.slice (some ⟨w.heap.size, 0, none⟩) 0 (grownCap w n 0 5)) ∧ w' = w.drew.alloc (.cells (Builtin.zeroCells ((Value.int .u8 0) : Value).cells n ++ Builtin.zeroCells ((Value.int .u8 0) : Value).cells (grownCap w n 0 5 - n)) 5) := by
  obtain ⟨i0, hi0, hz0, hzs, hzb⟩ := info_parts infoG5
  have hrz : ∀ ty, (Builtin.append_ #[38, 3] ty #[.slice none 0 0, .int .i64 (n : Int)]).run Try.prog w = _ := fun ty =>
    Lib.run_append_nil_zeros w 38 3 ty 5 i0 _ .i64 .i64 Try.underlying38 Try.underlying3 hi0 hz0 n h0 (by omega) (by omega) (by rw [hzb]; omega)
  have hG := grownCap_ge w n 0 5
  have hG63 : grownCap w n 0 5 ≤ 9223372036854775807 := grownCap_le_maxLen w n 0 5 (by unfold maxLen; omega)
  have hp : (0 : Int) < (n : Int) := by omega
  generalize grownCap w n 0 5 = G at hrz hG hG63 ⊢
  have hG0 : ¬ (G = 0) := by omega
  go_enter Try.func68, Try.ntmps68
  go_wp2_with (at_builtin; refine Lib.wpList_append_run _ rfl _ _ _ _ rfl _ _ rfl rfl _ _ (hrz _) ?_)
  go_ret
  exact ⟨rfl, rfl⟩
theorem kgrow5 : KGrow Try.prog 68 5 1 1 := by
  intro w n hb hb2
  rcases Nat.eq_zero_or_pos n with rfl | h0
  · exact (grow_zero5 w).mono fun e w' h => .inl h
  · refine (grow_pos5 w n h0 hb hb2).mono ?_
    rintro e w' ⟨rfl, rfl⟩; refine .inr ⟨_, _, rfl, ?_, grownCap_le_maxLen w n 0 5 (by unfold maxLen; omega), rfl⟩
    have hG := grownCap_ge w n 0 5
    have hzc : ((Value.int .u8 0) : Value).cells.size = 1 := by decide
    simp only [Array.size_append, size_zeroCells, hzc]
    omega
end

theorem F_slices_Grow___byte_byte__ok {p1 : Int} {r : Unit} (hF : F_slices_Grow___byte_byte_ p1 = some r) (low : List AObj) {n : Nat} (hn : low.length = n) :
    Xu Try.prog 68 [.nils, .int .i64 p1] low fun x low' => x = .sl n 0 0 ([] : List Int).length ∧ low' = low ++ [⟨5, 1, Ys (Yt .u8) ([] : List Int), 0⟩] := by
  unfold F_slices_Grow___byte_byte_ at hF
  by_cases hc : 0 ≤ p1 ∧ p1 ≤ 140737488355328 ∧ p1 * 1 ≤ 140737488355328
  · obtain ⟨i, rfl⟩ : ∃ i : Nat, p1 = (i : Int) := ⟨p1.toNat, by omega⟩
    subst hn
    exact vcalls_grow kgrow5 (by decide) (by omega) (by omega)
  · rw [decide_eq_false hc, cond_false] at hF
    cases hF

theorem F_slices_Concat___byte_byte__ok {p0 : List (List Int)} {r : List Int} (hF : F_slices_Concat___byte_byte_ p0 = some r) (low : List AObj) {n : Nat} (hn : low.length = n) :
    Xu Try.prog 53 [.vs 1 (Ys (encS 1 (Yt .u8)) p0)] low fun x low' => x = .sl (n + 0) 0 0 (r).length ∧ low' = low ++ [⟨5, 1, Ys (Yt .u8) r, 0⟩] := by
 refine Vw (nt := 36) (rs := [.tmp 2]) Try.func53 rfl rfl (Yw rfl) rfl (Vs (Q' := FnE (fun E' lw lc => Xt E' lw lc [(2, .sl (n + 0) 0 0 (r).length)] low [⟨5, 1, Ys (Yt .u8) r, 0⟩])) ?_ ?_)
 ·unfold F_slices_Concat___byte_byte_ at hF; refine Ve (Vb (Vj (vef_nilsN hn rfl 5 1 (Yx _) (rd_asN rfl)) rfl (Vc (Ve (Vb (Va (Vv rfl) rfl (Vc (Ve ?_)))))))); refine Ve (Vb (Va (Yc rfl) rfl (Va (Xw (Xq rfl rfl te_94) (congrArg (fun n : Nat => Yt .i64 (n : Int)) (Yz _))) rfl (Va (Vm rfl) rfl (Vc (Xl ?_)))))); obtain ⟨o2, ho2, hF⟩ := Yf hF; refine Vs (Yn (F_slices_Concat___byte_byte__L1 p0) (fun s1 E' lw lc => Xt E' lw lc [(0, .vs 1 (Ys (encS 1 (Yt .u8)) p0)), (3, .int .i64 s1.2), (9, .vs 1 (Ys (encS 1 (Yt .u8)) p0)), (10, .int .i64 ((p0).length : Int)), (11, .int .i64 s1.1)] low []) (fun o2 => OnlyE (.exit 0) (fun E' lw lc => Xt E' lw lc [(0, .vs 1 (Ys (encS 1 (Yt .u8)) p0)), (3, .int .i64 o2)] low [])) ho2 ?_ (by rintro _ _ _ _ ⟨h, _⟩ <;> cases h) ?_) ?_
  ·exact Vl hn [] (by decide) ⟨Vk rfl (.vs _ _), Vk rfl (.int _ _), Vk rfl (.vs _ _), Vk rfl (.int _ _), Vk rfl (.int _ _), trivial⟩ trivial
  ·rintro s1 os1 _ _ _ hF hw; unfold F_slices_Concat___byte_byte__L1 at hF; refine Yq hw (Ve (Vb (Va (rd_lss rfl rfl) rfl (Vc (Ve (Vy rfl (fun c3 => ?_) (fun c3 => ?_)))))))
   ·have hF := Xj c3 hF; refine Xc (Ve (Xl (Ve (Vb ?_)))); obtain ⟨x4, h5, hF⟩ := Yf hF; refine Va (Xw (rd_ixV rfl rfl h5 te_94 ts_38) (v' := .vptr [.vs 1 (Ys (Yt .u8) x4)] 0) rfl) rfl (Va (rd_loadV1 rfl ta_38 rfl) rfl (Va (rd_asV rfl) rfl (Vc (Ve (Vb (Va (Vm rfl) rfl (Va (Yc rfl) rfl (Va (Xw (Xq rfl rfl te_38) (congrArg (fun n : Nat => Yt .i64 (n : Int)) (Yz _))) rfl ?_)))))))); refine Va (rd_add rfl rfl rfl) rfl (Va (Vv rfl) rfl (Vc (Ve (Vb (Va (Vm rfl) rfl (Va (rd_lss rfl rfl) rfl (Vc (Vy rfl (fun c6 => ?_) (fun c6 => ?_)))))))))
    ·have hF := Xj c6 hF; refine Vb ?_; exact Yi hF
    ·have hF := Xk c6 hF; refine Xc (Vb (Va (rd_add rfl rfl rfl) rfl (Va (Vm rfl) rfl (Vc ?_)))); obtain rfl := Yv hF; refine Xa ?_; exact Vp ⟨rfl, rfl, rfl, rfl, rfl, trivial⟩
   ·have hF := Xk c3 hF; refine Yr ?_; obtain rfl := Yv hF; refine Xa ?_; exact Vp ⟨rfl, rfl, trivial⟩
  ·rintro _ _ _ _ ⟨rfl, hw⟩; refine ⟨_, _, _, hw, ?_⟩; refine Ve (Vb ?_); obtain ⟨x7, h8, hF⟩ := Yf hF; refine Va (Vm rfl) rfl (Vj (vef_callN (r := .sl (n + 0) 0 0 (([] : List Int)).length) (os := [⟨5, 1, Ys (Yt .u8) ([] : List Int), 0⟩]) rfl Try.call68 (F_slices_Grow___byte_byte__ok h8 _ (Yo hn rfl))) rfl (Va (Ym rfl) rfl (Vc (Ve (Ve (Vb (Va (Yc rfl) rfl (Va (Xw (Xq rfl rfl te_94) (congrArg (fun n : Nat => Yt .i64 (n : Int)) (Yz _))) rfl ?_)))))))); refine Va (Vm rfl) rfl (Vc (Xl ?_)); obtain ⟨o10, ho10, hF⟩ := Yf hF; refine Vs (Yn (F_slices_Concat___byte_byte__L2 p0) (fun s9 E' lw lc => Xt E' lw lc [(6, .sl (n + 0) 0 0 (s9.2).length), (25, .vs 1 (Ys (encS 1 (Yt .u8)) p0)), (26, .int .i64 ((p0).length : Int)), (27, .int .i64 s9.1)] low [⟨5, 1, Ys (Yt .u8) s9.2, 0⟩]) (fun o10 => OnlyE (.exit 2) (fun E' lw lc => Xt E' lw lc [(6, .sl (n + 0) 0 0 (o10).length)] low [⟨5, 1, Ys (Yt .u8) o10, 0⟩])) ho10 ?_ (by rintro _ _ _ _ ⟨h, _⟩ <;> cases h) ?_) ?_
   ·exact Vp ⟨rfl, rfl, rfl, rfl, trivial⟩
   ·rintro s9 os9 _ _ _ hF hw; unfold F_slices_Concat___byte_byte__L2 at hF; refine Yq hw (Ve (Vb (Va (rd_lss rfl rfl) rfl (Vc (Ve (Vy rfl (fun c11 => ?_) (fun c11 => ?_)))))))
    ·have hF := Xj c11 hF; refine Xc (Ve (Xl (Ve (Vb ?_)))); obtain ⟨x12, h13, hF⟩ := Yf hF; refine Va (Xw (rd_ixV rfl rfl h13 te_94 ts_38) (v' := .vptr [.vs 1 (Ys (Yt .u8) x12)] 0) rfl) rfl (Va (rd_loadV1 rfl ta_38 rfl) rfl (Va (rd_asV rfl) rfl (Vc (Vb ?_)))); obtain ⟨x14, h15, hF⟩ := Yf hF; refine Va (Xo rfl) rfl (Va (Yc rfl) rfl (Vj (vef_apL (f := (Yt .u8)) (l := s9.2) (ys := x12) rfl rfl (Vg hn rfl) rfl (src_vs rfl) te_38 ts_5 tb_5 (by decide) tz_5 rfl h15 (Xf hn rfl)) rfl (Va (Ym rfl) rfl (Vc (Vb (Va (rd_add rfl rfl rfl) rfl (Va (Vm rfl) rfl (Vc ?_)))))))); obtain rfl := Yv hF; refine Xa ?_; exact Vl hn [(0, 0 + 1)] (by decide) ⟨Xv 0 0 rfl rfl, Vk rfl (.vs _ _), Vk rfl (.int _ _), Vk rfl (.int _ _), trivial⟩ ⟨⟨_, rfl, rfl, .same _ _ _ _ (Vr (fun _ => .int _ _))⟩, trivial⟩
    ·have hF := Xk c11 hF; refine Yr ?_; obtain rfl := Yv hF; refine Xa ?_; exact Vp ⟨rfl, trivial⟩
   ·rintro _ _ _ _ ⟨rfl, hw⟩; refine ⟨_, _, _, hw, ?_⟩; refine Ve (Vb (Va (Xo rfl) rfl (Va (Ym rfl) rfl (Vc (Vx ?_))))); obtain rfl := Yv hF; refine fnR ?_; exact Vp ⟨rfl, trivial⟩
 ·rintro _ _ _ _ ⟨he, hw⟩; refine ⟨_, _, _, hw, ?_⟩; exact bodyQ_all he [.sl (n + 0) 0 0 (r).length] ⟨rfl, trivial⟩ ⟨rfl, rfl⟩

theorem F_controlroom_Write_ok {p0 : T_Disk} {p1 : T_Record} {r : T_Disk × Int} (hF : F_controlroom_Write p0 p1 = some r) (low : List AObj) :
    Xu Try.prog 25 [.agg (zE p0), .agg (zC p1)] low fun x low' => x = .tup [.agg (zE r.1), .int .i64 r.2] ∧ low' = low := by
 refine Vw (nt := 52) (rs := [.cell 4 49, .tmp 5]) Try.func25 rfl rfl (Yw rfl) rfl (Vs (Q' := FnE (fun E' lw lc => Xt E' lw lc [(4, .ptr (low.length + 0) 0 0 0), (5, .int .i64 r.2)] low [(zF r.1 0)])) ?_ ?_)
 ·unfold F_controlroom_Write at hF; refine Ve (Vb (Vj (vef_boxN rfl rfl (v := .agg (zE p0)) rfl rfl (Yx _) rfl rfl) rfl (Vj (vef_boxN rfl rfl (v := .agg (zC p1)) rfl rfl (Yx _) rfl rfl) rfl (Vj (Yk rfl rfl tz_49 rfl rfl (Yx _) rfl) rfl (Va (Vv rfl) rfl (Vc (Ve (Vb ?_)))))))); obtain ⟨x1, h2, hF⟩ := Yf hF; refine Va (Yd (ds := (zC p1)) rfl (Vg rfl rfl) rfl ta_32 ts_32 rfl rfl rfl) rfl (Vj (Vz rfl Try.call13 (F_controlroom_Bytes_ok h2 _)) rfl (Va (rd_mvT rfl) rfl (Va (Ye rfl rfl) rfl (Va (Ye rfl rfl) rfl (Va (rd_asV rfl) rfl (Va (Vv rfl) rfl (Vc (Ve ?_)))))))); refine Ve (Vb (Va (Vm rfl) rfl (Va (rd_neq rfl rfl) rfl (Vc (Vy rfl (fun c3 => ?_) (fun c3 => ?_))))))
  ·have hF := Xj c3 hF; refine Ve (Vb (Va (Yd (ds := (zE p0)) rfl (Vg rfl rfl) rfl ta_49 ts_49 rfl rfl rfl) rfl (Va (Vm rfl) rfl (Vj (Vt (p := .agg (zE p0)) (e' := .agg (zE p0)) rfl (Vg rfl rfl) rfl rfl ts_49 rfl (Xp rfl) rfl (Yw rfl) rfl (Xf rfl rfl)) rfl (Va (Vv rfl) rfl (Vc (Vx ?_))))))); obtain rfl := Yv hF; refine fnR ?_; exact Vl rfl [(2, 0)] (by decide) ⟨Vn 0 2 rfl rfl, Vk rfl (.int _ _), trivial⟩ ⟨⟨_, rfl, rfl, .same _ _ _ _ (Vh ⟨Vo ⟨.vs _ _, .vs _ _, trivial⟩, trivial⟩)⟩, trivial⟩
  ·have hF := Xk c3 hF; refine Xc (Ve (Ve (Vb ?_))); obtain ⟨x4, h5, hF⟩ := Yf hF; refine Va (Vd rfl tf_49_0 ts_38 (by decide)) rfl (Va (Vi rfl (Vg rfl rfl) rfl ta_38 rfl) rfl (Vj (vef_callN (r := .tup [.sl (low.length + 3) 0 0 (x4.1).length, .int .i64 x4.2]) (os := [⟨32, 4, Ys T_Record.enc x4.1, 0⟩]) rfl Try.call14 (F_controlroom_Read_ok h5 _ (Yo rfl rfl))) rfl (Va (rd_mvT rfl) rfl (Va (Ye rfl rfl) rfl (Va (Ye rfl rfl) rfl (Va (Ym rfl) rfl (Va (Vv rfl) rfl (Vc ?_)))))))); refine Ve (Vb (Va (Vm rfl) rfl (Va (Vd rfl tf_49_0 ts_38 (by decide)) rfl (Va (Vi rfl (Vg rfl rfl) rfl ta_38 rfl) rfl (Va (Xw (Xq rfl rfl te_38) (congrArg (fun n : Nat => Yt .i64 (n : Int)) (Yz _))) rfl (Va (rd_neq rfl rfl) rfl (Vc (Vy rfl (fun c6 => ?_) (fun c6 => ?_)))))))))
   ·have hF := Xj c6 hF; refine Ve (Vb (Va (Yd (ds := (zE p0)) rfl (Vg rfl rfl) rfl ta_49 ts_49 rfl rfl rfl) rfl (Vj (Vt (p := .agg (zE p0)) (e' := .agg (zE p0)) rfl (Vg rfl rfl) rfl rfl ts_49 rfl (Xp rfl) rfl (Yw rfl) rfl (Xf rfl rfl)) rfl (Va (Vv rfl) rfl (Vc (Vx ?_)))))); obtain rfl := Yv hF; refine fnR ?_; exact Vl rfl [(2, 0)] (by decide) ⟨Vn 0 2 rfl rfl, Vk rfl (.int _ _), trivial⟩ ⟨⟨_, rfl, rfl, .same _ _ _ _ (Vh ⟨Vo ⟨.vs _ _, .vs _ _, trivial⟩, trivial⟩)⟩, trivial⟩
   ·have hF := Xk c6 hF; refine Xc (Ve (Ve (Vb (Va (Vd rfl tf_49_0 ts_38 (by decide)) rfl (Va (Vi rfl (Vg rfl rfl) rfl ta_38 rfl) rfl (Va (Xw (Xq rfl rfl te_38) (congrArg (fun n : Nat => Yt .i64 (n : Int)) (Yz _))) rfl (Va (Vd rfl tf_49_1 ts_38 (by decide)) rfl (Va (Vi rfl (Vg rfl rfl) rfl ta_38 rfl) rfl ?_)))))))); refine Va (Xw (Xq rfl rfl te_38) (congrArg (fun n : Nat => Yt .i64 (n : Int)) (Yz _))) rfl (Va (rd_add rfl rfl rfl) rfl (Va (Yc rfl) rfl (Va (Xw (Xq rfl rfl te_38) (congrArg (fun n : Nat => Yt .i64 (n : Int)) (Yz _))) rfl (Va (rd_add rfl rfl rfl) rfl (Va (rd_gtr rfl rfl) rfl (Vc (Vy rfl (fun c7 => ?_) (fun c7 => ?_))))))))
    ·have hF := Xj c7 hF; refine Ve (Yq (show Xt _ _ _ [(2, .ptr (low.length + 0) 0 0 0), (4, .ptr (low.length + 2) 0 0 0)] low [(zF p0 0), (zD p1 0), ⟨49, 2, [.agg [.nils, .nils]], 0⟩, ⟨32, 4, Ys T_Record.enc x4.1, 0⟩] from Vp ⟨rfl, rfl, trivial⟩) (Vb (Va (Yd (ds := (zE p0)) rfl (Vg rfl rfl) rfl ta_49 ts_49 rfl rfl rfl) rfl (Vj (Vt (p := .agg (zE p0)) (e' := .agg (zE p0)) rfl (Vg rfl rfl) rfl rfl ts_49 rfl (Xp rfl) rfl (Yw rfl) rfl (Xf rfl rfl)) rfl (Va (Vv rfl) rfl (Vc (Vx ?_))))))); obtain rfl := Yv hF; refine fnR ?_; exact Vl rfl [(2, 0)] (by decide) ⟨Vn 0 2 rfl rfl, Vk rfl (.int _ _), trivial⟩ ⟨⟨_, rfl, rfl, .same _ _ _ _ (Vh ⟨Vo ⟨.vs _ _, .vs _ _, trivial⟩, trivial⟩)⟩, trivial⟩
    ·have hF := Xk c7 hF; refine Xc (Ve (Yq (show Xt _ _ _ [(2, .ptr (low.length + 0) 0 0 0), (4, .ptr (low.length + 2) 0 0 0), (6, .vs 1 (Ys (Yt .u8) x1.1))] low [(zF p0 0), (zD p1 0), ⟨49, 2, [.agg [.nils, .nils]], 0⟩, ⟨32, 4, Ys T_Record.enc x4.1, 0⟩] from Vp ⟨rfl, rfl, rfl, trivial⟩) ?_)); obtain ⟨x8, h9, hF⟩ := Yf hF; obtain ⟨x10, h11, hF⟩ := Yf hF; refine Xe [[], [0], [0, 1], [], [3], [], [3, 4, 5], (List.range 7), (List.range 8), (List.range 9), (List.range 10)] [false, false, false, false, false, false, false, true, false, true, false] [(low, [(zF p0 0), (zD p1 0), ⟨49, 2, [.agg [.nils, .nils]], 0⟩, ⟨32, 4, Ys T_Record.enc x4.1, 0⟩]), (low, [(zF p0 0), (zD p1 0), ⟨49, 2, [.agg [.nils, .nils]], 0⟩, ⟨32, 4, Ys T_Record.enc x4.1, 0⟩, ⟨5, 1, Ys (Yt .u8) x10, 0⟩]), (low, [(zF p0 0), (zD p1 0), ⟨49, 2, [.agg [.vs 1 (Ys (Yt .u8) x8), .sl (low.length + 4) 0 0 (x10).length]], 0⟩, ⟨32, 4, Ys T_Record.enc x4.1, 0⟩, ⟨5, 1, Ys (Yt .u8) x10, 0⟩])] mixed (by kernel_rfl) rfl (Xz (Xd rfl (Xd rfl (Xd rfl Yj)))) rfl _ rfl rfl (Xb rfl rfl (Vd rfl tf_49_0 ts_38 (by decide)) (Xb rfl rfl (Vi rfl (Vg rfl rfl) rfl ta_38 rfl) (dn1 rfl rfl (nt_of (Vz rfl Try.call52 (F_slices_Clone___byte_byte__ok h9 _))) (Xb rfl rfl (Vd rfl tf_49_1 ts_38 (by decide)) (Xb rfl rfl (Vi rfl (Vg rfl rfl) rfl ta_38 rfl) (Xb rfl rfl (Yc rfl) (dn1 rfl rfl (nt_of (vef_litF (es := Ys (encS 1 (Yt .u8)) [p0.Loose, x1.1]) ⟨rfl, rfl, rfl, rfl, trivial⟩ rfl rfl (nt_all rfl) te_94 ts_38 tz_38 rfl rfl (Yx _) (by decide) (lt_map (fun _ => .vs _ _)))) (Xn rfl rfl rfl (vef_callN (r := .sl (low.length + 4) 0 0 (x10).length) (os := [⟨5, 1, Ys (Yt .u8) x10, 0⟩]) rfl Try.call53 (F_slices_Concat___byte_byte__ok h11 _ (Yo rfl rfl))) ?_)))))))); refine Xb rfl rfl (rd_build (vs := [(0, .vs 1 (Ys (Yt .u8) x8)), (1, .sl (low.length + 4) 0 0 (x10).length)]) (ds := [.vs 1 (Ys (Yt .u8) x8), .sl (low.length + 4) 0 0 (x10).length]) tz_49 rfl rfl tp_49 ⟨rfl, rfl, rfl, rfl, trivial⟩ (nt_all2 rfl) rfl) (Xn rfl rfl rfl (Vt (p := .agg [.vs 1 (Ys (Yt .u8) x8), .sl (low.length + 4) 0 0 (x10).length]) (e' := .agg [.vs 1 (Ys (Yt .u8) x8), .sl (low.length + 4) 0 0 (x10).length]) rfl (Vg rfl rfl) rfl rfl ts_49 rfl (Xp rfl) rfl (Yw rfl) rfl (Xf rfl rfl)) (Xb rfl rfl (Vv rfl) (Xg (Vx ?_)))); obtain rfl := Yv hF; refine fnR (Weak.trans (weak_freezeN (E' := [(4, .ptr (low.length + 2) 0 0 0), (5, .int .i64 0)]) (loc1 := [(zF p0 0), (zD p1 0), ⟨49, 2, [.agg [.vs 1 (Ys (Yt .u8) x8), .vs 1 (Ys (Yt .u8) x10)]], 0⟩, ⟨32, 4, Ys T_Record.enc x4.1, 0⟩, ⟨5, 1, [], 0 + 1⟩]) rfl 4 rfl (lt_map (fun _ => .int _ _)) ⟨Xx rfl, Xx rfl, trivial⟩ ⟨.refl _, .refl _, cvo_agg ⟨Xx rfl, cv_sl rfl rfl rfl (full_take rfl), trivial⟩, .refl _, .refl _, trivial⟩) ?_); exact Vl rfl [(2, 0)] (by decide) ⟨Vn 0 2 rfl rfl, Vk rfl (.int _ _), trivial⟩ ⟨⟨_, rfl, rfl, .same _ _ _ _ (Vh ⟨Vo ⟨.vs _ _, .vs _ _, trivial⟩, trivial⟩)⟩, trivial⟩
 ·rintro _ _ _ _ ⟨he, hw⟩; refine ⟨_, _, _, hw, ?_⟩; exact Xr he [.agg (zE r.1), .int .i64 r.2] ⟨Yd rfl (Vg rfl rfl) rfl ta_49 ts_49 rfl rfl rfl, rfl, trivial⟩ ((lt_tup ⟨(Vo ⟨.vs _ _, .vs _ _, trivial⟩), .int _ _, trivial⟩)) ⟨rfl, rfl⟩

theorem F_controlroom_Sync_ok {p0 : T_Disk} {r : T_Disk} (hF : F_controlroom_Sync p0 = some r) (low : List AObj) :
    Xu Try.prog 26 [.agg (zE p0)] low fun x low' => x = .agg (zE r) ∧ low' = low := by
 refine Vw (nt := 10) (rs := [.cell 2 49]) Try.func26 rfl rfl (Yw rfl) rfl (Vs (Q' := FnE (fun E' lw lc => Xt E' lw lc [(2, .ptr (low.length + 0) 0 0 0)] low [(zF r 0)])) ?_ ?_)
 ·unfold F_controlroom_Sync at hF; refine Ve (Vb (Vj (vef_boxN rfl rfl (v := .agg (zE p0)) rfl rfl (Yx _) rfl rfl) rfl (Vj (Yk rfl rfl tz_49 rfl rfl (Yx _) rfl) rfl (Vc (Ve (Vb ?_)))))); obtain ⟨x1, h2, hF⟩ := Yf hF; refine Va (Vd rfl tf_49_0 ts_38 (by decide)) rfl (Va (Vi rfl (Vg rfl rfl) rfl ta_38 rfl) rfl (Va (Vd rfl tf_49_1 ts_38 (by decide)) rfl (Va (Vi rfl (Vg rfl rfl) rfl ta_38 rfl) rfl (Vj (vef_litF (es := Ys (encS 1 (Yt .u8)) [p0.Safe, p0.Loose]) ⟨rfl, rfl, rfl, rfl, trivial⟩ rfl rfl (nt_all rfl) te_94 ts_38 tz_38 rfl rfl (Yx _) (by decide) (lt_map (fun _ => .vs _ _))) rfl (Vj (vef_callN (r := .sl (low.length + 2) 0 0 (x1).length) (os := [⟨5, 1, Ys (Yt .u8) x1, 0⟩]) rfl Try.call53 (F_slices_Concat___byte_byte__ok h2 _ (Yo rfl rfl))) rfl (Va (rd_nc (rd_build (vs := [(0, .sl (low.length + 2) 0 0 (x1).length)]) (ds := [.sl (low.length + 2) 0 0 (x1).length, .nils]) tz_49 rfl rfl tp_49 ⟨rfl, rfl, trivial⟩ (nt_all2 rfl) rfl) (nc_agg (cs := [.sl (low.length + 2) 0 0 (x1).length, .nils]) (ds := [.sl (low.length + 2) 0 0 (x1).length, .vs 1 (Ys (Yt .u8) ([] : List Int))]) rfl rfl ⟨nc_eq rfl, nc_nil rfl rfl, trivial⟩)) rfl (Vj (Vt (p := .agg [.sl (low.length + 2) 0 0 (x1).length, .vs 1 (Ys (Yt .u8) ([] : List Int))]) (e' := .agg [.sl (low.length + 2) 0 0 (x1).length, .vs 1 (Ys (Yt .u8) ([] : List Int))]) rfl (Vg rfl rfl) rfl rfl ts_49 rfl (Xp rfl) rfl (Yw rfl) rfl (Xf rfl rfl)) rfl (Vc ?_)))))))); refine Vx ?_; obtain rfl := Yv hF; refine fnR (Weak.trans (weak_freezeN (E' := [(2, .ptr (low.length + 1) 0 0 0)]) (loc1 := [(zF p0 0), ⟨49, 2, [.agg [.vs 1 (Ys (Yt .u8) x1), .vs 1 (Ys (Yt .u8) ([] : List Int))]], 0⟩, ⟨5, 1, [], 0 + 1⟩]) rfl 2 rfl (lt_map (fun _ => .int _ _)) ⟨Xx rfl, trivial⟩ ⟨.refl _, cvo_agg ⟨cv_sl rfl rfl rfl (full_take rfl), Xx rfl, trivial⟩, .refl _, trivial⟩) ?_); exact Vl rfl [(1, 0)] (by decide) ⟨Vn 0 1 rfl rfl, trivial⟩ ⟨⟨_, rfl, rfl, .same _ _ _ _ (Vh ⟨Vo ⟨.vs _ _, .vs _ _, trivial⟩, trivial⟩)⟩, trivial⟩
 ·rintro _ _ _ _ ⟨he, hw⟩; refine ⟨_, _, _, hw, ?_⟩; exact Xr he [.agg (zE r)] ⟨Yd rfl (Vg rfl rfl) rfl ta_49 ts_49 rfl rfl rfl, trivial⟩ ((Vo ⟨.vs _ _, .vs _ _, trivial⟩)) ⟨rfl, rfl⟩

theorem F_controlroom_Crash_ok {p0 : T_Disk} {p1 : Int} {p2 : Int} {r : T_Disk} (hF : F_controlroom_Crash p0 p1 p2 = some r) (low : List AObj) :
    Xu Try.prog 27 [.agg (zE p0), .int .i64 p1, .int .u8 p2] low fun x low' => x = .agg (zE r) ∧ low' = low := by
 refine Vw (nt := 35) (rs := [.cell 6 49]) Try.func27 rfl rfl (Yw rfl) rfl (Vs (Q' := FnE (fun E' lw lc => Xt E' lw lc [(6, .ptr (low.length + 0) 0 0 0)] low [(zF r 0)])) ?_ ?_)
 ·unfold F_controlroom_Crash at hF; refine Ve (Vb (Vj (vef_boxN rfl rfl (v := .agg (zE p0)) rfl rfl (Yx _) rfl rfl) rfl (Vj (Yk rfl rfl tz_49 rfl rfl (Yx _) rfl) rfl (Vc (Ve (Vb (Va (Vm rfl) rfl (Va (Vd rfl tf_49_1 ts_38 (by decide)) rfl ?_)))))))); refine Va (Vi rfl (Vg rfl rfl) rfl ta_38 rfl) rfl (Va (Xw (Xq rfl rfl te_38) (congrArg (fun n : Nat => Yt .i64 (n : Int)) (Yz _))) rfl (Va (rd_min rfl rfl) rfl (Va (rd_max rfl rfl) rfl (Va (Vv rfl) rfl (Vc (Ve ?_)))))); obtain ⟨x1, h2, hF⟩ := Yf hF; obtain ⟨x3, h4, hF⟩ := Yf hF; refine Xe [[], [0], [], [2], [], [2, 3, 4], [0, 1, 2, 3, 4, 5], (List.range 7), (List.range 8)] [false, false, false, false, false, false, false, true, false] [(low, [(zF p0 0), ⟨49, 2, [.agg [.nils, .nils]], 0⟩]), (low, [(zF p0 0), ⟨49, 2, [.agg [.nils, .nils]], 0⟩, ⟨5, 1, Ys (Yt .u8) x3, 0⟩])] mixed (by kernel_rfl) rfl (Xz (Xd rfl (Xd rfl Yj))) rfl _ rfl rfl (Xb rfl rfl (Vd rfl tf_49_0 ts_38 (by decide)) (Xb rfl rfl (Vi rfl (Vg rfl rfl) rfl ta_38 rfl) (Xb rfl rfl (Vd rfl tf_49_1 ts_38 (by decide)) (Xb rfl rfl (Vi rfl (Vg rfl rfl) rfl ta_38 rfl) (Xb rfl rfl (Vm rfl) (Xb rfl rfl (rd_slV rfl te_38 ts_5 rfl ⟨_, rfl⟩ h2) (dn1 rfl rfl (nt_of (vef_litF (es := Ys (encS 1 (Yt .u8)) [p0.Safe, x1]) ⟨rfl, rfl, rfl, rfl, trivial⟩ rfl rfl (nt_all rfl) te_94 ts_38 tz_38 rfl rfl (Yx _) (by decide) (lt_map (fun _ => .vs _ _)))) (Xn rfl rfl rfl (vef_callN (r := .sl (low.length + 2) 0 0 (x3).length) (os := [⟨5, 1, Ys (Yt .u8) x3, 0⟩]) rfl Try.call53 (F_slices_Concat___byte_byte__ok h4 _ (Yo rfl rfl))) ?_)))))))); refine Xb rfl rfl (Ym rfl) (Xg (Ve (Ve (Vb (Va (Vm rfl) rfl (Va (rd_gtr rfl rfl) rfl (Vc ?_))))))); obtain ⟨o5, ho5, hF⟩ := Yf hF; refine Vs (Q' := (fun o5 => OnlyE .normal (fun E' lw lc => Xt E' lw lc [(6, .ptr (low.length + 0) 0 0 0), (7, .sl (low.length + 1) 0 0 (o5).length)] low [⟨49, 2, [.agg [.nils, .nils]], 0⟩, ⟨5, 1, Ys (Yt .u8) o5, 0⟩])) o5) ?_ ?_
  ·replace hF := ho5; refine Vy rfl (fun c6 => ?_) (fun c6 => ?_)
   ·have hF := Xj c6 hF; refine Vb ?_; obtain ⟨x7, h8, hF⟩ := Yf hF; obtain ⟨x9, h10, hF⟩ := Yf hF; refine Va (Xo rfl) rfl (Va (Xo rfl) rfl (Va (rd_lenS rfl (Vg rfl rfl) rfl rfl te_38) rfl (Va (rd_sub rfl rfl rfl) rfl (Va (rd_ixS rfl rfl rfl (Vg rfl rfl) h8 te_38 ts_5) rfl (Va (rd_ldL1 rfl (Vg rfl rfl) (getI_some h8).2 ta_5 rfl) rfl (Va (Vm rfl) rfl (Va (rd_xor rfl rfl rfl) rfl (Va (rd_ixS rfl rfl rfl (Vg rfl rfl) h10 te_38 ts_5) rfl ?_)))))))); refine Vj (vef_stL (p := .int .u8 (bits .xor .u8 x7 p2)) (e' := (bits .xor .u8 x7 p2)) rfl (Vg rfl rfl) (getI_some h10).2 rfl ts_5 rfl (Xp rfl) (Yw rfl) rfl (Xf rfl rfl)) rfl (Vc ?_); obtain rfl := Yv hF; refine Xa ?_; exact Vl rfl [(1, 0), (2, 0)] (by decide) ⟨Vn 0 1 rfl rfl, Xv 1 2 rfl (congrArg (PV.sl _ _ 0) (Eq.trans rfl List.length_set.symm)), trivial⟩ ⟨⟨_, rfl, rfl, .same _ _ _ _ (Vh ⟨Vo ⟨.nils, .nils, trivial⟩, trivial⟩)⟩, ⟨_, rfl, rfl, .same _ _ _ _ (Vr (fun _ => .int _ _))⟩, trivial⟩
   ·have hF := Xk c6 hF; refine Xc ?_; obtain rfl := Yv hF; refine Xa ?_; exact Vl rfl [(1, 0), (2, 0)] (by decide) ⟨Vn 0 1 rfl rfl, Xv 1 2 rfl rfl, trivial⟩ ⟨⟨_, rfl, rfl, .same _ _ _ _ (Vh ⟨Vo ⟨.nils, .nils, trivial⟩, trivial⟩)⟩, ⟨_, rfl, rfl, .same _ _ _ _ (Vr (fun _ => .int _ _))⟩, trivial⟩
  ·rintro _ _ _ _ ⟨rfl, hw⟩; refine ⟨_, _, _, hw, ?_⟩; refine Ve (Vb (Va (Xo rfl) rfl (Va (rd_nc (rd_build (vs := [(0, .sl (low.length + 1) 0 0 (o5).length)]) (ds := [.sl (low.length + 1) 0 0 (o5).length, .nils]) tz_49 rfl rfl tp_49 ⟨rfl, rfl, trivial⟩ (nt_all2 rfl) rfl) (nc_agg (cs := [.sl (low.length + 1) 0 0 (o5).length, .nils]) (ds := [.sl (low.length + 1) 0 0 (o5).length, .vs 1 (Ys (Yt .u8) ([] : List Int))]) rfl rfl ⟨nc_eq rfl, nc_nil rfl rfl, trivial⟩)) rfl (Vj (Vt (p := .agg [.sl (low.length + 1) 0 0 (o5).length, .vs 1 (Ys (Yt .u8) ([] : List Int))]) (e' := .agg [.sl (low.length + 1) 0 0 (o5).length, .vs 1 (Ys (Yt .u8) ([] : List Int))]) rfl (Vg rfl rfl) rfl rfl ts_49 rfl (Xp rfl) rfl (Yw rfl) rfl (Xf rfl rfl)) rfl (Vc (Vx ?_)))))); obtain rfl := Yv hF; refine fnR (Weak.trans (weak_freezeN (E' := [(6, .ptr (low.length + 0) 0 0 0)]) (loc1 := [⟨49, 2, [.agg [.vs 1 (Ys (Yt .u8) o5), .vs 1 (Ys (Yt .u8) ([] : List Int))]], 0⟩, ⟨5, 1, [], 0 + 1⟩]) rfl 1 rfl (lt_map (fun _ => .int _ _)) ⟨Xx rfl, trivial⟩ ⟨cvo_agg ⟨cv_sl rfl rfl rfl (full_take rfl), Xx rfl, trivial⟩, .refl _, trivial⟩) ?_); exact Vl rfl [(0, 0)] (by decide) ⟨Vn 0 0 rfl rfl, trivial⟩ ⟨⟨_, rfl, rfl, .same _ _ _ _ (Vh ⟨Vo ⟨.vs _ _, .vs _ _, trivial⟩, trivial⟩)⟩, trivial⟩
 ·rintro _ _ _ _ ⟨he, hw⟩; refine ⟨_, _, _, hw, ?_⟩; exact Xr he [.agg (zE r)] ⟨Yd rfl (Vg rfl rfl) rfl ta_49 ts_49 rfl rfl rfl, trivial⟩ ((Vo ⟨.vs _ _, .vs _ _, trivial⟩)) ⟨rfl, rfl⟩

theorem F_slices_Reverse___int_int__ok0 {p0 : List Int} {r : List Int} (hF : F_slices_Reverse___int_int_ p0 = some r) {low0 : List AObj} {q0 w0 : Nat} (hB : Bor low0 [q0]) {m0 : Nat} (hm0 : m0 = (p0).length) {n : Nat} (hn : low0.length = n) :
    Xu Try.prog 76 [.sl q0 w0 0 m0] (setL low0 [(q0, ⟨3, 1, Ys (Yt .i64) p0, w0⟩)]) fun x low' => x = .tup [] ∧ low' = setL low0 [(q0, ⟨3, 1, Ys (Yt .i64) r, w0⟩)] ++ [] := by
 refine Vw (nt := 28) (rs := []) Try.func76 rfl rfl (Yw rfl) rfl ?_
 have hq0 : q0 < n := hB.ltN hn 0 rfl
 refine Vs (Q' := FnE (fun E' lw lc => m0 = (r).length ∧ Xt E' lw lc [] (setL low0 [(q0, ⟨3, 1, Ys (Yt .i64) r, w0⟩)]) [])) ?_ ?_
 ·unfold F_slices_Reverse___int_int_ at hF; refine Ve (Vb (Va (Xo rfl) rfl (Va (Xw (rd_lenS rfl (Yb hB rfl 0 rfl) rfl rfl te_22) (v' := Yt .i64 ((p0).length : Int)) (congrArg (fun n : Nat => Yt .i64 (n : Int)) hm0)) rfl (Va (rd_sub rfl rfl rfl) rfl (Va (Vv rfl) rfl (Va (Vv rfl) rfl (Vc (Xl ?_)))))))); obtain ⟨o3, ho3, hF⟩ := Yf hF; refine Vs (Yn F_slices_Reverse___int_int__L1 (fun s2 E' lw lc => m0 = (s2.2.2).length ∧ Xt E' lw lc [(0, .sl q0 w0 0 m0), (2, .int .i64 s2.1), (3, .int .i64 s2.2.1)] (setL low0 [(q0, ⟨3, 1, Ys (Yt .i64) s2.2.2, w0⟩)]) []) (fun o3 => OnlyE (.exit 0) (fun E' lw lc => m0 = (o3).length ∧ Xt E' lw lc [] (setL low0 [(q0, ⟨3, 1, Ys (Yt .i64) o3, w0⟩)]) [])) ho3 ⟨hm0, ?_⟩ (by rintro _ _ _ _ ⟨h, _⟩ <;> cases h) ?_) ?_
  ·exact Vp ⟨rfl, rfl, rfl, trivial⟩
  ·rintro s2 os2 _ _ _ hF ⟨hls2_0, hw⟩; unfold F_slices_Reverse___int_int__L1 at hF; refine Yq hw (Ve (Ve (Vb (Va (Vm rfl) rfl (Va (Vm rfl) rfl (Va (rd_lss rfl rfl) rfl (Vc (Vy rfl (fun c4 => ?_) (fun c4 => ?_)))))))))
   ·have hF := Xj c4 hF; refine Xc (Ve (Xl ?_)); obtain ⟨x5, h6, hF⟩ := Yf hF; obtain ⟨x7, h8, hF⟩ := Yf hF; obtain ⟨x9, h10, hF⟩ := Yf hF; obtain ⟨x11, h12, hF⟩ := Yf hF; refine Xe [[], [], [], [], [], [], [4, 5], [4, 5, 6], [], [], [8, 9], [8, 9, 10], [0, 1, 4, 5, 6, 7, 8, 9, 10, 11], [0, 1, 4, 5, 6, 7, 8, 9, 10, 11, 12], (List.range 14), (List.range 15)] [false, false, false, false, false, false, false, false, false, false, false, false, false, true, false, true] [((setL low0 [(q0, ⟨3, 1, Ys (Yt .i64) s2.2.2, w0⟩)]), []), ((setL low0 [(q0, ⟨3, 1, Ys (Yt .i64) (s2.2.2.set ((s2.1).toNat) x5), w0⟩)]), []), ((setL low0 [(q0, ⟨3, 1, Ys (Yt .i64) ((s2.2.2.set ((s2.1).toNat) x5).set ((s2.2.1).toNat) x7), w0⟩)]), [])] mixed (by kernel_rfl) rfl (Xz (Xd len_setL (Xd len_setL (Xd len_setL Yj)))) rfl _ rfl rfl (Xb rfl rfl (Xo rfl) (Xb rfl rfl (Vm rfl) (Ya _ rfl rfl (Xd (VRd.ntl (Xo rfl)) (Xd (VRd.ntl (Xo rfl)) Yj)) (Ya _ rfl rfl (Xd (VRd.ntl (Vm rfl)) (Xd (VRd.ntl (Vm rfl)) Yj)) (Xb rfl rfl (Xo rfl) (Xb rfl rfl (Vm rfl) (Xb rfl rfl (rd_ixS rfl hls2_0 rfl (Yb hB rfl 0 rfl) h6 te_22 ts_3) (Xb rfl rfl (rd_ldL1 rfl (Yb hB rfl 0 rfl) (getI_some h6).2 ta_3 rfl) ?_)))))))); refine Xb rfl rfl (Xo rfl) (Xb rfl rfl (Vm rfl) (Xb rfl rfl (rd_ixS rfl hls2_0 rfl (Yb hB rfl 0 rfl) h8 te_22 ts_3) (Xb rfl rfl (rd_ldL1 rfl (Yb hB rfl 0 rfl) (getI_some h8).2 ta_3 rfl) (Xb rfl rfl (rd_ixS rfl hls2_0 rfl (Yb hB rfl 0 rfl) h10 te_22 ts_3) (Xn rfl rfl rfl (vef_stL (p := .int .i64 x5) (e' := x5) rfl (Yb hB rfl 0 rfl) (getI_some h10).2 rfl ts_3 rfl (Xp rfl) (Yw rfl) rfl (setO_B hB rfl 0 rfl (Vr (fun _ => .int _ _)) rfl)) (Xb rfl rfl (rd_ixS rfl (Eq.trans hls2_0 List.length_set.symm) rfl (Yb hB rfl 0 rfl) h12 te_22 ts_3) (Xn rfl rfl rfl (vef_stL (p := .int .i64 x7) (e' := x7) rfl (Yb hB rfl 0 rfl) (getI_some h12).2 rfl ts_3 rfl (Xp rfl) (Yw rfl) rfl (setO_B hB rfl 0 rfl (Vr (fun _ => .int _ _)) rfl)) (Xg ?_)))))))); refine Vb (Va (Vm rfl) rfl (Va (rd_add rfl rfl rfl) rfl (Va (Vm rfl) rfl (Va (rd_sub rfl rfl rfl) rfl (Va (Vv rfl) rfl (Va (Vv rfl) rfl (Vc ?_))))))); obtain rfl := Yv hF; refine And.intro rfl (And.intro (Eq.trans (Eq.trans hls2_0 List.length_set.symm) List.length_set.symm) ?_); exact Vp ⟨rfl, rfl, rfl, trivial⟩
   ·have hF := Xk c4 hF; refine Yr ?_; obtain rfl := Yv hF; refine And.intro rfl (And.intro hls2_0 ?_); exact Vp trivial
  ·rintro _ _ _ _ ⟨rfl, hl13, hw⟩; refine ⟨_, _, _, hw, ?_⟩; obtain rfl := Yv hF; refine And.intro (.inl rfl) (And.intro hl13 ?_); exact Vp trivial
 ·rintro _ _ _ _ ⟨he, hl1, hw⟩; refine ⟨_, _, _, hw, ?_⟩; exact Xr he [] trivial ((lt_tup trivial)) ⟨rfl, (List.append_nil _).symm⟩

theorem F_slices_Reverse___int_int__len {p0 : List Int} {r : List Int} (hF : F_slices_Reverse___int_int_ p0 = some r) {m0 : Nat} (hm0 : m0 = (p0).length) : m0 = (r).length ∧ True := by
  have h : LP (F_slices_Reverse___int_int_ p0) (fun r => m0 = (r).length ∧ True) := by
    unfold F_slices_Reverse___int_int_; exact (lp_bind (Q := fun o3 => m0 = (o3).length ∧ True) (lp_loop (fun s2 => m0 = (s2.2.2).length ∧ True) ⟨hm0, trivial⟩ (fun s2 ⟨hls2_0, _⟩ => by unfold F_slices_Reverse___int_int__L1; exact (lp_bif (fun c4 => Yl fun x5 h6 => Yl fun x7 h8 => Yl fun x9 h10 => Yl fun x11 h12 => Yh ⟨(Eq.trans (Eq.trans hls2_0 List.length_set.symm) List.length_set.symm), trivial⟩) (fun c4 => Yh ⟨hls2_0, trivial⟩)))) (fun o3 ⟨hl13, _⟩ => Yh ⟨hl13, trivial⟩))
  exact h r hF

theorem F_slices_Reverse___int_int__ok {p0 : List Int} {r : List Int} (hF : F_slices_Reverse___int_int_ p0 = some r) {low : List AObj} {q0 w0 : Nat} (hnd : [q0].Nodup) {m0 : Nat} (hm0 : m0 = (p0).length) (hq0 : low[q0]? = some ⟨3, 1, Ys (Yt .i64) p0, w0⟩) {n : Nat} (hn : low.length = n) :
    Xu Try.prog 76 [.sl q0 w0 0 m0] low fun x low' => x = .tup [] ∧ low' = setL low [(q0, ⟨3, 1, Ys (Yt .i64) r, w0⟩)] ++ [] := by
  obtain ⟨h1, h2⟩ := bor_start (ps := [(q0, ⟨3, 1, Ys (Yt .i64) p0, w0⟩)]) hnd (borC hq0 bor0); exact vcalls_low h1 (F_slices_Reverse___int_int__ok0 hF h2 hm0 hn)

section
open Go.RowKit
set_option maxHeartbeats 4000000
set_option maxRecDepth 100000
theorem ins_room3 (w : World) (b n C i vb vC : Nat) (cells vcells : Array Value) (hne : b ≠ vb) (h1 : w.heap[b]? = some (.cells cells 3 (0, 0))) (h2 : cells.size = C * 1) (h3 : w.heap[vb]? = some (.cells vcells 3 (0, 0))) (h4 : vcells.size = vC * 1) (hv1 : 1 ≤ vC) (hi : i < n) (hC : C ≤ maxLen)
    (hroom : n + 1 ≤ C) (c1 : ∀ u ∈ cells.toList.take (n * 1), u.oneCell' = true) (c2 : ∀ u ∈ vcells.toList.take 1, u.oneCell' = true) :
    Calls Try.prog 56 #[.slice (some ⟨b, 0, none⟩) n C, .int .i64 i, .slice (some ⟨vb, 0, none⟩) 1 vC] w fun e w' => e = .returned (.slice (some ⟨b, 0, none⟩) (n + 1) C) ∧
      w' = (w.drew.setCells b ((i + 1)) ((cells.toList.take (n * 1)).drop (i))).setCells b (i) (vcells.toList.take 1) := by
  have hC63 : C ≤ 9223372036854775807 := hC
  obtain ⟨cs, hcs⟩ : ∃ cs, cs = cells.toList.take (n * 1) := ⟨_, rfl⟩; obtain ⟨vs, hvs⟩ : ∃ vs, vs = vcells.toList.take 1 := ⟨_, rfl⟩
  have hcl : cs.length = n * 1 := by rw [hcs, List.length_take, Array.length_toList, h2]; omega
  have hvl : vs.length = 1 := by rw [hvs, List.length_take, Array.length_toList, h4]; omega
  have hrd : ∀ j v, cs[j]? = some v → w.cell? ⟨b, j, none⟩ = some v := fun j v hj => by
    rw [Yg h1, ← Array.getElem?_toList]
    rw [hcs, List.getElem?_take] at hj
    split at hj
    · exact hj
    · cases hj
  have hrv : ∀ j v, vs[j]? = some v → w.cell? ⟨vb, j, none⟩ = some v := fun j v hj => by
    rw [Yg h3, ← Array.getElem?_toList]
    rw [hvs, List.getElem?_take] at hj
    split at hj
    · exact hj
    · cases hj
  have hsp : ∀ j, j < (n + 1) * 1 → (w.cell? ⟨b, j, none⟩).isSome = true := fun j hj => by
    rw [Yg h1, Array.getElem?_eq_getElem (by omega)]; rfl
  have hfz : ∀ j, w.frozen? ⟨b, j, none⟩ = false := fun j => frozen_of_heap h1
  rw [← hcs] at c1 ⊢
  rw [← hvs] at c2 ⊢
  have hz2 : ¬ ((i : Int) = (n : Int)) := by omega
  have hov : ∀ lb cb, (callFunc 69 #[.slice (some ⟨vb, 0, none⟩) 1 vC, .slice (some ⟨b, i + 1, none⟩) lb cb]).run Try.prog w = .ok (.value (.bool false)) w := fun lb cb => by
    rw [run_callFunc_extern Try.func69 (by kernel_rfl) (by kernel_rfl) (by kernel_rfl) (e := Extern.SlicesOverlaps.overlaps #[22, 22] #[4]) (by kernel_rfl),
      Lib.run_overlaps_apart w 22 4 3 Try.underlying22 1 Try.sizeOf3 ⟨vb, 0, none⟩ ⟨b, i + 1, none⟩ 1 vC lb cb (fun h => hne h.symm) 3 3 _ _ (shape_of_heap h3) (shape_of_heap h1) (by omega) (frozen_of_heap h3) (frozen_of_heap h3)]
    rfl
  have hdl : (cs.drop (i)).length = (n - i) * 1 := by rw [List.length_drop, hcl]; omega
  have mixed : Try.prog.follows .mixedOrders = true := by kernel_rfl
  have hw1 : IntKind.i64.wrap ((i : Int) + 1) = (i : Int) + 1 := by rw [IntKind.wrap_i64]; omega
  have hw2 : IntKind.i64.wrap ((n : Int) + 1) = (n : Int) + 1 := by rw [IntKind.wrap_i64]; omega
  have hb1 : (0 : Int) ≤ (i : Int) + 1 := by omega
  have hin : i ≤ n := by omega
  have htn : ((i : Int) + 1).toNat = i + 1 := by omega
  have htn2 : ((n : Int) + 1).toNat = n + 1 := by omega
  have hb2 : ¬ (C = i + 1) := by omega
  have hb3 : (i : Int) ≤ (n : Int) + 1 := by omega
  have hb4 : ¬ (C = i) := by omega
  have hb5 : ¬ ((C : Int) < (n : Int) + 1) := by omega
  have hcp1 : ∀ ty dc sc, (Builtin.copy_ #[22, 22] ty #[.slice (some ⟨b, i + 1, none⟩) (n - i) dc, .slice (some ⟨b, i, none⟩) (n + 1 - i) sc]).run Try.prog w.drew = .ok (goInt (n - i : Nat)) (w.drew.setCells b ((i + 1)) (cs.drop (i))) := fun ty dc sc =>
    Yp w.drew _ _ ty 3 1 b ((i + 1)) (n - i) dc ⟨b, i, none⟩ (n + 1 - i) sc (n - i) (cs.drop (i)) Try.underlying22 rfl (by simp only [Nat.min_def]; split <;> omega) hdl
      (fun j v hj => by rw [Addr.add_lit]; exact hrd (i + j) v (by rwa [List.getElem?_drop] at hj))
      (fun j hj => hsp _ (by rw [hdl] at hj; omega)) (fun j hj => hfz _) (fun v hv => c1 v (List.mem_of_mem_drop hv))
  obtain ⟨W1, hW1⟩ : ∃ W1, W1 = w.drew.setCells b ((i + 1)) (cs.drop (i)) := ⟨_, rfl⟩
  have hsp1 : ∀ k, k < (n + 1) * 1 → (W1.cell? ⟨b, k, none⟩).isSome = true := fun k hk => by
    rw [hW1]
    exact isSome_setCellsK b (cs.drop (i)) ((i + 1)) w.drew (fun j hj => hsp _ (by rw [hdl] at hj; omega)) k (hsp k hk)
  have hcp2 : ∀ (W : World), (∀ x, W.cell? x = W1.cell? x) → (∀ x, W.frozen? x = W1.frozen? x) → ∀ ty dc, (Builtin.copy_ #[22, 22] ty #[.slice (some ⟨b, i, none⟩) (n + 1 - i) dc, .slice (some ⟨vb, 0, none⟩) 1 vC]).run Try.prog W = .ok (goInt (1 : Nat)) (W.setCells b (i) vs) := fun W hWc hWf ty dc =>
    Yp W _ _ ty 3 1 b (i) (n + 1 - i) dc ⟨vb, 0, none⟩ 1 vC 1 vs Try.underlying22 rfl (by simp only [Nat.min_def]; split <;> omega) (by rw [hvl])
      (fun j v hj => by
        rw [Addr.add_lit, hWc, hW1, World.cell?_setCells_out b _ _ _ _ (fun h _ => absurd h.symm hne), Nat.zero_add]
        exact hrv j v hj)
      (fun j hj => by rw [hWc]; exact hsp1 _ (by omega)) (fun j hj => by rw [hWf, hW1, World.frozen?_setCells]; exact hfz _) c2
  rw [← hW1] at hcp1
  clear hcs hvs
  go_enter Try.func56, Try.ntmps56
  go_wp2_with (simp only [hov])
  go_region_law (refine step_copy_runJ rfl _ _ 22 22 rfl _ _ (by simp [Act.eval, Act.put]) (by simp [Act.eval, Act.put]) (hcp1 _ _ _) ?_)
  go_wp2_with (at_builtin; refine wpList_copy_runJ _ rfl _ _ 22 22 rfl _ _ rfl rfl (hcp2 _ (fun _ => rfl) (fun _ => rfl) _ _) ?_)
  go_ret
  first | exact ⟨rfl, rfl⟩ | exact ⟨rfl, by rw [hW1]⟩
theorem infoE3 : (Try.prog.info? 3).map (fun i => (i.zero, i.size, i.bytes)) = some (some (Value.int .i64 0), 1, 8) := by kernel_rfl
theorem ins_grow3 (w : World) (b n C i vb vC : Nat) (cells vcells : Array Value) (h1 : w.heap[b]? = some (.cells cells 3 (0, 0))) (h2 : cells.size = C * 1) (h3 : w.heap[vb]? = some (.cells vcells 3 (0, 0))) (h4 : vcells.size = vC * 1) (hv1 : 1 ≤ vC) (hi : i < n) (hC : C ≤ maxLen)
    (hnc : n ≤ C) (hroom : C < n + 1) (hbig : (n + 1) * 8 ≤ 140737488355328) (c1 : ∀ u ∈ cells.toList.take (n * 1), u.oneCell' = true) (c2 : ∀ u ∈ vcells.toList.take 1, u.oneCell' = true) :
    Calls Try.prog 56 #[.slice (some ⟨b, 0, none⟩) n C, .int .i64 i, .slice (some ⟨vb, 0, none⟩) 1 vC] w fun e w' => e = .returned (.slice (some ⟨w.heap.size, 0, none⟩) (n + 1) (grownCap w (n + 1) C 3)) ∧
      w' = (((w.alloc (.cells (((cells.toList.take (n * 1)).take i).toArray ++ Builtin.zeroCells ((Value.int .i64 0) : Value).cells (n + 1 - i) ++ Builtin.zeroCells ((Value.int .i64 0) : Value).cells (grownCap w (n + 1) C 3 - (n + 1))) 3)).drew.setCells w.heap.size i (vcells.toList.take 1)).drew).setCells w.heap.size (i + 1) ((cells.toList.take (n * 1)).drop i) := by
  have hC63 : C ≤ 9223372036854775807 := hC
  obtain ⟨cs, hcs⟩ : ∃ cs, cs = cells.toList.take (n * 1) := ⟨_, rfl⟩; obtain ⟨vs, hvs⟩ : ∃ vs, vs = vcells.toList.take 1 := ⟨_, rfl⟩
  have hcl : cs.length = n * 1 := by rw [hcs, List.length_take, Array.length_toList, h2]; omega
  have hvl : vs.length = 1 := by rw [hvs, List.length_take, Array.length_toList, h4]; omega
  have hrd : ∀ j v, cs[j]? = some v → w.cell? ⟨b, j, none⟩ = some v := fun j v hj => by
    rw [Yg h1, ← Array.getElem?_toList]
    rw [hcs, List.getElem?_take] at hj
    split at hj
    · exact hj
    · cases hj
  have hrv : ∀ j v, vs[j]? = some v → w.cell? ⟨vb, j, none⟩ = some v := fun j v hj => by
    rw [Yg h3, ← Array.getElem?_toList]
    rw [hvs, List.getElem?_take] at hj
    split at hj
    · exact hj
    · cases hj
  rw [← hcs] at c1 ⊢
  rw [← hvs] at c2 ⊢
  obtain ⟨i0, hi0, hz0, hzs, hzb⟩ := info_parts infoE3
  have hz2 : ¬ ((i : Int) = (n : Int)) := by omega
  have hz3 : (C : Int) < (n : Int) + 1 := by omega
  have hbw : b < w.heap.size := heap_lt h1
  have hvw : vb < w.heap.size := heap_lt h3
  have hkk : (n : Int) + 1 - (i : Int) = ((n + 1 - i : Nat) : Int) := by omega
  have hik : i + (n + 1 - i) = n + 1 := by omega
  have hold : (Builtin.firstCells i0.size i (.slice (some ⟨b, 0, none⟩) i C)).run Try.prog w.drew = .ok (cs.take i).toArray w.drew := by
    rw [hzs]
    exact run_firstCells_some w.drew 1 i ⟨b, 0, none⟩ i C (cs.take i) (by rw [List.length_take]; omega) (fun j v hj => by
      rw [Addr.add_lit, Nat.zero_add]
      rw [List.getElem?_take] at hj
      split at hj
      · exact hrd j v hj
      · cases hj)
  have hrz : ∀ ty, (Builtin.append_ #[22, 3] ty #[.slice (some ⟨b, 0, none⟩) i C, .int .i64 ((n : Int) + 1 - (i : Int))]).run Try.prog w =
      .ok (.slice (some ⟨w.heap.size, 0, none⟩) (n + 1) (grownCap w (n + 1) C 3)) (w.drew.alloc (.cells ((cs.take i).toArray ++ Builtin.zeroCells ((Value.int .i64 0) : Value).cells (n + 1 - i) ++ Builtin.zeroCells ((Value.int .i64 0) : Value).cells (grownCap w (n + 1) C 3 - (n + 1))) 3)) := fun ty => by
    have h := Lib.run_append_grow_zeros w 22 3 ty 3 i0 _ .i64 .i64 Try.underlying22 Try.underlying3 hi0 hz0 (some ⟨b, 0, none⟩) i C (cs.take i) hold (n + 1 - i) (by omega) (by omega) (by omega) (by omega) (by rw [hzb]; omega) (by rw [hzb, hik]; exact growslice_fits hroom hbig)
    rw [hik] at h
    rw [hkk]
    exact h
  obtain ⟨G, hG⟩ : ∃ G, G = grownCap w (n + 1) C 3 := ⟨_, rfl⟩; obtain ⟨ROW, hROW⟩ : ∃ ROW : Array Value, ROW = (cs.take i).toArray ++ Builtin.zeroCells ((Value.int .i64 0) : Value).cells (n + 1 - i) ++ Builtin.zeroCells ((Value.int .i64 0) : Value).cells (G - (n + 1)) := ⟨_, rfl⟩
  rw [← hG] at hrz ⊢
  rw [← hROW] at hrz ⊢
  have hzc : ((Value.int .i64 0) : Value).cells.size = 1 := by decide
  have hRl : (n + 1) * 1 ≤ ROW.size := by
    rw [hROW]
    simp only [Array.size_append, size_zeroCells, hzc, List.size_toArray, List.length_take, hcl]
    omega
  obtain ⟨W1, hW1⟩ : ∃ W1, W1 = w.drew.alloc (.cells ROW 3) := ⟨_, rfl⟩
  rw [← hW1] at hrz
  have hN : ∀ j, j < (n + 1) * 1 → (W1.cell? ⟨w.heap.size, j, none⟩).isSome = true := fun j hj => by
    rw [hW1, World.cell?_alloc_at (w := w.drew) ROW _ w.heap.size j rfl, Array.getElem?_eq_getElem (by omega)]; rfl
  have hNf : ∀ j, W1.frozen? ⟨w.heap.size, j, none⟩ = false := fun j => by rw [hW1]; exact World.frozen?_alloc_at (w := w.drew) ROW _ w.heap.size j rfl
  have hOb : ∀ j v, w.cell? ⟨b, j, none⟩ = some v → W1.cell? ⟨b, j, none⟩ = some v := fun j v h => by rw [hW1, World.cell?_alloc_past (w := w.drew) _ b j hbw]; exact h
  have hOv : ∀ j v, w.cell? ⟨vb, j, none⟩ = some v → W1.cell? ⟨vb, j, none⟩ = some v := fun j v h => by rw [hW1, World.cell?_alloc_past (w := w.drew) _ vb j hvw]; exact h
  have hcpA : ∀ (W : World), (∀ x, W.cell? x = W1.cell? x) → (∀ x, W.frozen? x = W1.frozen? x) → ∀ ty dc, (Builtin.copy_ #[22, 22] ty #[.slice (some ⟨w.heap.size, i, none⟩) (n + 1 - i) dc, .slice (some ⟨vb, 0, none⟩) 1 vC]).run Try.prog W = .ok (goInt (1 : Nat)) (W.setCells w.heap.size i vs) := fun W hWc hWf ty dc =>
    Yp W _ _ ty 3 1 w.heap.size i (n + 1 - i) dc ⟨vb, 0, none⟩ 1 vC 1 vs Try.underlying22 rfl (by simp only [Nat.min_def]; split <;> omega) (by rw [hvl])
      (fun j v hj => by rw [Addr.add_lit, hWc, Nat.zero_add]; exact hOv _ v (hrv j v hj))
      (fun j hj => by rw [hWc]; exact hN _ (by omega)) (fun j hj => by rw [hWf]; exact hNf _) c2
  have hGn : n + 1 ≤ G := by rw [hG]; exact grownCap_ge w _ _ _
  have hG63 : G ≤ 9223372036854775807 := by
    have := grownCap_le_maxLen w (n + 1) C 3 (by unfold maxLen; omega)
    rw [← hG] at this
    unfold maxLen at this
    omega
  have hGi : ¬ (G = i) := by omega
  have hGim : ¬ (G = i + 1) := by omega
  have hci : ¬ (C = i) := by omega
  have hbN : b ≠ w.heap.size := by omega
  have hdl : (cs.drop i).length = (n - i) * 1 := by rw [List.length_drop, hcl]; omega
  have hcpB : ∀ (W : World), (∀ x, W.cell? x = (W1.setCells w.heap.size i vs).cell? x) → (∀ x, W.frozen? x = (W1.setCells w.heap.size i vs).frozen? x) → ∀ ty dc sc, (Builtin.copy_ #[22, 22] ty #[.slice (some ⟨w.heap.size, i + 1, none⟩) (n - i) dc, .slice (some ⟨b, i, none⟩) (n - i) sc]).run Try.prog W = .ok (goInt (n - i : Nat)) (W.setCells w.heap.size (i + 1) (cs.drop i)) := fun W hWc hWf ty dc sc =>
    Yp W _ _ ty 3 1 w.heap.size (i + 1) (n - i) dc ⟨b, i, none⟩ (n - i) sc (n - i) (cs.drop i) Try.underlying22 rfl (by simp only [Nat.min_def]; split <;> omega) hdl
      (fun j v hj => by
        rw [Addr.add_lit, hWc, World.cell?_setCells_out _ _ _ _ _ (fun h _ => absurd h hbN)]
        exact hOb _ v (hrd (i + j) v (by rwa [List.getElem?_drop] at hj)))
      (fun j hj => by rw [hWc]; exact isSome_setCellsK w.heap.size vs i W1 (fun t ht => hN _ (by omega)) _ (hN _ (by rw [hdl] at hj; omega)))
      (fun j hj => by rw [hWf, World.frozen?_setCells]; exact hNf _) (fun v hv => c1 v (List.mem_of_mem_drop hv))
  subst hW1
  have hE1 : ∀ x, ((w.alloc (.cells ROW 3)).drew).cell? x = (w.drew.alloc (.cells ROW 3)).cell? x := fun x => rfl
  have hE2 : ∀ x, ((w.alloc (.cells ROW 3)).drew).frozen? x = (w.drew.alloc (.cells ROW 3)).frozen? x := fun x => rfl
  have hF1 : ∀ x, (((w.alloc (.cells ROW 3)).drew.setCells w.heap.size i vs).drew).cell? x = ((w.drew.alloc (.cells ROW 3)).setCells w.heap.size i vs).cell? x := fun x => rfl
  have hF2 : ∀ x, (((w.alloc (.cells ROW 3)).drew.setCells w.heap.size i vs).drew).frozen? x = ((w.drew.alloc (.cells ROW 3)).setCells w.heap.size i vs).frozen? x := fun x => rfl
  have mixed : Try.prog.follows .mixedOrders = true := by kernel_rfl
  have hw1 : IntKind.i64.wrap ((i : Int) + 1) = (i : Int) + 1 := by rw [IntKind.wrap_i64]; omega
  have hw2 : IntKind.i64.wrap ((n : Int) + 1) = (n : Int) + 1 := by rw [IntKind.wrap_i64]; omega
  have hw3 : IntKind.i64.wrap ((n : Int) + 1 - (i : Int)) = (n : Int) + 1 - (i : Int) := by rw [IntKind.wrap_i64]; omega
  have hb1 : (0 : Int) ≤ (i : Int) + 1 := by omega
  have hin : i ≤ n := by omega
  have htn : ((i : Int) + 1).toNat = i + 1 := by omega
  have hb3 : (i : Int) ≤ (n : Int) := by omega
  clear hkk hik hold hROW hG hRl hcs hvs
  go_enter Try.func56, Try.ntmps56
  go_wp2_with (first
    | (at_builtin; refine Lib.wpList_append_run _ rfl _ _ _ _ rfl _ _ rfl rfl _ _ (hrz _) ?_)
    | (at_builtin; refine wpList_copy_runJ _ rfl _ _ 22 22 rfl _ _ rfl rfl (hcpA _ hE1 hE2 _ _) ?_)
    | (at_builtin; refine wpList_copy_runJ _ rfl _ _ 22 22 rfl _ _ rfl rfl (hcpB _ (fun _ => rfl) (fun _ => rfl) _ _ _) ?_))
  go_region_law (refine step_copy_runJ rfl _ _ 22 22 rfl (.slice (some ⟨w.heap.size, i + 1, none⟩) (n - i) (G - (i + 1))) (.slice (some ⟨b, i, none⟩) (n - i) (C - i)) (by simp [Act.eval, Act.put]) (by simp [Act.eval, Act.put]) (hcpB _ hF1 hF2 3 (G - (i + 1)) (C - i)) ?_)
  go_wp2
  go_ret
  exact ⟨rfl, rfl⟩
theorem kinsert3 : KInsert Try.prog 56 3 1 8 := by
  intro w b n C i vb vC cells vcells hne h1 h2 h3 h4 hv hi hnc hC hC1 hb hb2 c1 c2
  have hcl : (cells.toList.take (n * 1)).length = n * 1 := by rw [List.length_take, Array.length_toList, h2]; omega
  have hvl : (vcells.toList.take 1).length = 1 := by rw [List.length_take, Array.length_toList, h4]; omega
  by_cases hroom : n + 1 ≤ C
  · refine (ins_room3 w b n C i vb vC cells vcells hne h1 h2 h3 h4 hv hi hC hroom c1 c2).mono ?_
    rintro e w' ⟨rfl, rfl⟩; refine ⟨b, C, rfl, ?_⟩
    have r0 := (rowPost_start (m := n * 1) h1 h2 hC (by omega)).drew
    have r1 := r0.set (o := i * 1 + 1) (vs := (cells.toList.take (n * 1)).drop (i * 1)) (by omega) (by rw [List.length_drop]; omega) (by simp only [List.length_append, List.length_take, List.length_drop, Array.length_toList]; omega)
    have r2 := r1.set (o := i * 1) (vs := vcells.toList.take 1) (by simp only [List.length_append, List.length_take, List.length_drop, Array.length_toList]; omega) (by omega) (by simp only [List.length_append, List.length_take, List.length_drop, Array.length_toList]; omega)
    rw [ins_list1 (by omega) hvl] at r2
    have e1 : (i + 1) = i * 1 + 1 := by omega
    have e0 : i = i * 1 := by omega
    first
      | (rw [e1, e0]; exact r2)
      | (rw [e1]; exact r2)
      | simpa only [Nat.mul_one] using r2
  · refine (ins_grow3 w b n C i vb vC cells vcells h1 h2 h3 h4 hv hi hC hnc (by omega) hb c1 c2).mono ?_
    rintro e w' ⟨rfl, rfl⟩; refine ⟨_, _, rfl, ?_⟩
    have hGn := grownCap_ge w (n + 1) C 3
    have hGm := grownCap_le_maxLen w (n + 1) C 3 (by unfold maxLen; omega)
    generalize grownCap w (n + 1) C 3 = G at hGn hGm ⊢
    have hzc : ((Value.int .i64 0) : Value).cells.size = 1 := by decide
    have hrs : ((((cells.toList.take (n * 1)).take i).toArray ++ Builtin.zeroCells ((Value.int .i64 0) : Value).cells (n + 1 - i) ++ Builtin.zeroCells ((Value.int .i64 0) : Value).cells (G - (n + 1)))).size = G * 1 := by
      simp only [Array.size_append, size_zeroCells, hzc, List.size_toArray, List.length_take, Array.length_toList]
      omega
    have r0 := (rowPost_new (w := w) (b := b) (C := C) (m := (n + 1) * 1) (E := 3) hrs hGm (by omega)).drew
    have hul : (((((cells.toList.take (n * 1)).take i).toArray ++ Builtin.zeroCells ((Value.int .i64 0) : Value).cells (n + 1 - i) ++ Builtin.zeroCells ((Value.int .i64 0) : Value).cells (G - (n + 1)))).toList.take ((n + 1) * 1)).length = (n + 1) * 1 := by
      rw [List.length_take, Array.length_toList, hrs]; omega
    have hut : (((((cells.toList.take (n * 1)).take i).toArray ++ Builtin.zeroCells ((Value.int .i64 0) : Value).cells (n + 1 - i) ++ Builtin.zeroCells ((Value.int .i64 0) : Value).cells (G - (n + 1)))).toList.take ((n + 1) * 1)).take i = (cells.toList.take (n * 1)).take i := by
      rw [List.take_take, Nat.min_eq_left (by omega)]
      simp only [Array.toList_append, List.append_assoc]
      exact List.take_left' (by rw [List.length_take]; omega)
    generalize (((((cells.toList.take (n * 1)).take i).toArray ++ Builtin.zeroCells ((Value.int .i64 0) : Value).cells (n + 1 - i) ++ Builtin.zeroCells ((Value.int .i64 0) : Value).cells (G - (n + 1)))).toList.take ((n + 1) * 1)) = us at r0 hul hut
    have r1 := (r0.set (o := i) (vs := vcells.toList.take 1) (by omega) (by omega) (by simp only [List.length_append, List.length_take, List.length_drop]; omega)).drew
    have r2 := r1.set (o := i + 1) (vs := (cells.toList.take (n * 1)).drop i) (by simp only [List.length_append, List.length_take, List.length_drop, Array.length_toList]; omega) (by rw [List.length_drop]; omega) (by simp only [List.length_append, List.length_take, List.length_drop, Array.length_toList]; omega)
    rw [ins_list2 (by omega) hvl (by omega) hut] at r2
    have e1 : (i + 1) = i + 1 := by omega
    have e0 : i * 1 = i := by omega
    first
      | (rw [e1, e0]; exact r2)
      | (rw [e1]; exact r2)
      | simpa only [Nat.mul_one] using r2
end

theorem F_slices_Insert___int_int_E_ok0 {p0 : List Int} {p1 : Int} {p2 : List Int} {r : List Int × List Int} (hF : F_slices_Insert___int_int_E p0 p1 p2 = some r) {low0 : List AObj} {q0 q1 w0 w1 : Nat} (hB : Bor low0 [q0, q1]) {m0 : Nat} (hm0 : m0 = (p0).length) {m1 : Nat} (hm1 : m1 = (p2).length) {n : Nat} (hn : low0.length = n) :
    Xu Try.prog 56 [.sl q0 w0 0 (p0).length, .int .i64 p1, .sl q1 w1 0 m1] (setL low0 [(q0, ⟨3, 1, Ys (Yt .i64) p0, w0⟩), (q1, ⟨3, 1, Ys (Yt .i64) p2, w1⟩)]) fun x low' => x = .sl q0 (w0 + 1) 0 (r.1).length ∧ low' = setL low0 [(q0, ⟨3, 1, Ys (Yt .i64) r.1, w0 + 1⟩), (q1, ⟨3, 1, Ys (Yt .i64) r.2, w1⟩)] ++ [] := by
 refine vcalls_norm (G := Nat) (X := fun γ => .sl q0 γ 0 (r.1).length) (LW := fun γ => setL low0 [(q0, ⟨3, 1, Ys (Yt .i64) r.1, γ⟩), (q1, ⟨3, 1, Ys (Yt .i64) r.2, w1⟩)] ++ []) ?_ fun γ => ⟨nos_B hB hn rfl rfl rfl ⟨⟨rfl, no_map (fun _ => .int _ _) (.inr (ver_up (get_B0 hB rfl 0 rfl) (Nat.lt_succ_self _)))⟩, ⟨⟨rfl, no_map (fun _ => .int _ _) (.inl rfl)⟩, trivial⟩⟩ trivial, nv_sl (get_B hB rfl 0 rfl) (get_B hB rfl 0 rfl) rfl rfl⟩; refine Vw (nt := 95) (rs := [.tmp 6]) Try.func56 rfl rfl (Yw rfl) rfl ?_
 subst hm0
 have hq0 : q0 < n := hB.ltN hn 0 rfl
 have hq1 : q1 < n := hB.ltN hn 1 rfl
 refine Vs (Q' := FnE (fun E' lw lc => ∃ g0 : Nat, m1 = (r.2).length ∧ Xt E' lw lc [(6, .sl q0 g0 0 (r.1).length)] (setL low0 [(q0, ⟨3, 1, Ys (Yt .i64) r.1, g0⟩), (q1, ⟨3, 1, Ys (Yt .i64) r.2, w1⟩)]) [])) ?_ ?_
 ·unfold F_slices_Insert___int_int_E at hF; refine Ve (Vb (Vj (vef_nilsN (lenS hn) rfl 3 1 (Yx _) (rd_asN rfl)) rfl (Vc (Ve (Vb ?_))))); obtain ⟨x2, h3, hF⟩ := Yf hF; refine Va (Xo rfl) rfl (Va (Vm rfl) rfl (Va (rd_slS rfl rfl (Yb hB rfl 0 rfl) te_22 ts_3 ⟨_, rfl⟩ rfl h3) rfl (Vc (Ve (Vb (Va (Xo rfl) rfl (Va (Xw (rd_lenS rfl (Yb hB rfl 1 rfl) rfl rfl te_22) (v' := Yt .i64 ((p2).length : Int)) (congrArg (fun n : Nat => Yt .i64 (n : Int)) hm1)) rfl (Va (Vv rfl) rfl ?_)))))))); refine Vc (Ve (Ve (Vb (Va (Vm rfl) rfl (Va (Xs rfl rfl) rfl (Vc (Vy rfl (fun c4 => ?_) (fun c4 => ?_))))))))
  ·have hF := Xj c4 hF; refine Ve (Vb (Va (Xo rfl) rfl (Va (Ym rfl) rfl (Vc (Vx ?_))))); obtain rfl := Yv hF; refine And.intro (.inr rfl) (Exists.intro w0 (And.intro hm1 ?_)); exact Vl (lenS hn) [] (by decide) ⟨Vk rfl (.sl _ _ _ _ hq0), trivial⟩ trivial
  ·have hF := Xk c4 hF; refine Xc (Ve (Vb (Va (Xo rfl) rfl (Va (rd_lenS rfl (Yb hB rfl 0 rfl) rfl rfl te_22) rfl (Va (Vv rfl) rfl (Vc (Ve (Ve ?_)))))))); refine Vb (Va (Vm rfl) rfl (Va (Vm rfl) rfl (Va (Xs rfl rfl) rfl (Vc (Vy rfl (fun c5 => ?_) (fun c5 => ?_))))))
   ·have hF := Xj c5 hF; refine Ve (Vb ?_); obtain ⟨x6, h7, hF⟩ := Yf hF; refine Va (Xo rfl) rfl (Va (Xo rfl) rfl (Vj (vef_apL (f := (Yt .i64)) (l := p0) (ys := p2) rfl rfl (Yb hB rfl 0 rfl) rfl (src_full hm1 (Yb hB rfl 1 rfl)) te_22 ts_3 tb_3 (by decide) tz_3 rfl h7 (setO_B hB rfl 0 rfl (Vr (fun _ => .int _ _)) rfl)) rfl (Va (Ym rfl) rfl (Vc (Vx ?_))))); obtain rfl := Yv hF; refine And.intro (.inr rfl) (Exists.intro (w0 + 1) (And.intro hm1 ?_)); exact Vl (lenS hn) [] (by decide) ⟨Vk rfl (.sl _ _ _ _ hq0), trivial⟩ trivial
   ·have hF := Xk c5 hF; refine Xc (Ve (Ve (Vb ?_))); exact Yi hF
 ·rintro _ _ _ _ ⟨he, g0, hl1, hw⟩; refine ⟨_, _, _, hw, ?_⟩; exact bodyQ_all he [.sl q0 g0 0 (r.1).length] ⟨rfl, trivial⟩ ⟨g0, rfl, rfl⟩

theorem F_slices_Insert___int_int_E_len {p0 : List Int} {p1 : Int} {p2 : List Int} {r : List Int × List Int} (hF : F_slices_Insert___int_int_E p0 p1 p2 = some r) {m0 : Nat} (hm0 : m0 = (p0).length) {m1 : Nat} (hm1 : m1 = (p2).length) : m1 = (r.2).length ∧ True := by
  have h : LP (F_slices_Insert___int_int_E p0 p1 p2) (fun r => m1 = (r.2).length ∧ True) := by
    unfold F_slices_Insert___int_int_E; exact (Yl fun x2 h3 => lp_bif (fun c4 => Yh ⟨hm1, trivial⟩) (fun c4 => lp_bif (fun c5 => Yl fun x6 h7 => Yh ⟨hm1, trivial⟩) (fun c5 => lp_none)))
  exact h r hF

theorem F_slices_Insert___int_int_E_ok {p0 : List Int} {p1 : Int} {p2 : List Int} {r : List Int × List Int} (hF : F_slices_Insert___int_int_E p0 p1 p2 = some r) {low : List AObj} {q0 q1 w0 w1 : Nat} (hnd : [q0, q1].Nodup) {m0 : Nat} (hm0 : m0 = (p0).length) {m1 : Nat} (hm1 : m1 = (p2).length) (hq0 : low[q0]? = some ⟨3, 1, Ys (Yt .i64) p0, w0⟩) (hq1 : low[q1]? = some ⟨3, 1, Ys (Yt .i64) p2, w1⟩) {n : Nat} (hn : low.length = n) :
    Xu Try.prog 56 [.sl q0 w0 0 (p0).length, .int .i64 p1, .sl q1 w1 0 m1] low fun x low' => x = .sl q0 (w0 + 1) 0 (r.1).length ∧ low' = setL low [(q0, ⟨3, 1, Ys (Yt .i64) r.1, w0 + 1⟩), (q1, ⟨3, 1, Ys (Yt .i64) r.2, w1⟩)] ++ [] := by
  obtain ⟨h1, h2⟩ := bor_start (ps := [(q0, ⟨3, 1, Ys (Yt .i64) p0, w0⟩), (q1, ⟨3, 1, Ys (Yt .i64) p2, w1⟩)]) hnd (borC hq0 (borC hq1 bor0)); exact vcalls_low h1 (F_slices_Insert___int_int_E_ok0 hF h2 hm0 hm1 hn)

theorem F_slices_Insert___int_int__ok {p0 : List Int} {p1 : Int} {p2 : List Int} {r : List Int} (hF : F_slices_Insert___int_int_ p0 p1 p2 = some r) {low : List AObj} {q0 q1 w0 w1 : Nat} (hnd : [q0, q1].Nodup) {m0 : Nat} (hm0 : m0 = (p0).length) {m1 : Nat} (hm1 : m1 = (p2).length) (hq0 : low[q0]? = some ⟨3, 1, Ys (Yt .i64) p0, w0⟩) (hq1 : low[q1]? = some ⟨3, 1, Ys (Yt .i64) p2, w1⟩) {n : Nat} (hn : low.length = n) :
    Xu Try.prog 56 [.sl q0 w0 0 (p0).length, .int .i64 p1, .sl q1 w1 0 m1] low fun x low' => x = .sl q0 (w0 + 1) 0 (r).length ∧ low' = setL low [(q0, ⟨3, 1, Ys (Yt .i64) r, w0 + 1⟩), (q1, ⟨3, 1, Ys (Yt .i64) p2, w1⟩)] ++ [] := by
  unfold F_slices_Insert___int_int_ at hF
  by_cases hc : 0 ≤ p1 ∧ p1 ≤ (p0.length : Int) ∧ p2.length = 1 ∧ (p0.length + 1) * 8 ≤ 140737488355328 ∧ (p0.length + 1) * 1 ≤ 140737488355328
  · rw [decide_eq_true hc, cond_true] at hF
    injection hF with hF
    subst hF
    obtain ⟨c0, c1, c2, c3, c4⟩ := hc
    by_cases he : p1 = (p0.length : Int)
    · have e : p0.take p1.toNat ++ p2 ++ p0.drop p1.toNat = p0 ++ p2 := by
        rw [he, Int.toNat_natCast, List.take_length, List.drop_length, List.append_nil]
      rw [e]
      refine (F_slices_Insert___int_int_E_ok (r := (p0 ++ p2, p2)) ?_ hnd hm0 hm1 hq0 hq1 hn).mono ?_
      · subst he
        unfold F_slices_Insert___int_int_E
        simp [sliI, appI, c2, c3]
      · rintro x low' ⟨rfl, rfl⟩
        exact ⟨rfl, rfl⟩
    · obtain ⟨i, rfl⟩ : ∃ i : Nat, p1 = (i : Int) := ⟨p1.toNat, by omega⟩
      obtain ⟨e0, rfl⟩ := List.length_eq_one_iff.1 c2
      have hne : q0 ≠ q1 := fun h => by simp [h] at hnd
      refine (vcalls_insert kinsert3 (by decide) hne (i := i) (by rw [Yz]; omega) hq0 hq1 (fun x hx => by obtain ⟨y, _, rfl⟩ := List.mem_map.1 hx; exact (.int _ _)) (.int _ _) (by rw [Yz]; exact c3) (by rw [Yz]; exact c4) (by rw [Yz]) hm1).mono ?_; rintro x low' ⟨rfl, rfl⟩; refine ⟨?_, ?_⟩
      · rw [Yz]
        simp only [Int.toNat_natCast, List.length_append, List.length_take, List.length_drop, List.length_cons, List.length_nil]
        congr 1
        omega
      · have hq1' : (low.set q0 ⟨3, 1, Ys (Yt .i64) (p0.take (i : Int).toNat ++ [e0] ++ p0.drop (i : Int).toNat), w0 + 1⟩)[q1]? = some ⟨3, 1, Ys (Yt .i64) [e0], w1⟩ := by rw [List.getElem?_set_ne hne]; exact hq1
        simp only [setL, List.append_nil]
        rw [set_same hq1']
        simp
  · rw [decide_eq_false hc, cond_false] at hF
    cases hF

section
open Go.RowKit
set_option maxHeartbeats 4000000
set_option maxRecDepth 100000
theorem del_walk3 (w : World) (b N C i : Nat) (ad : Addr) (cells : Array Value) (h1 : w.heap[b]? = some (.cells cells 3 (0, 0))) (h2 : cells.size = C * 1) (hi : i < N + 1) (hnc : N + 1 ≤ C) (hC : C ≤ maxLen)
    (c1 : ∀ u ∈ cells.toList.take ((N + 1) * 1), u.oneCell' = true) (had : (if C = i + 1 then (⟨b, 0, none⟩ : Addr) else ⟨b, i + 1, none⟩) = ad) (hsl : ∀ c, (if C = i + 1 then Value.slice (some ⟨b, 0, none⟩) 0 c else .slice (some ⟨b, i + 1, none⟩) 0 c) = .slice (some ad) 0 c) :
    Calls Try.prog 57 #[.slice (some ⟨b, 0, none⟩) (N + 1) C, .int .i64 i, .int .i64 ((i : Int) + 1)] w fun e w' => e = .returned (.slice (some ⟨b, 0, none⟩) N C) ∧
      (w' = (w.setCells b i ((cells.toList.take ((N + 1) * 1)).drop (i + 1))).setCells b (N * 1) (Builtin.zeroCells ((Value.int .i64 0) : Value).cells 1).toList ∨ w' = (w.drew.setCells b i ((cells.toList.take ((N + 1) * 1)).drop (i + 1))).setCells b (N * 1) (Builtin.zeroCells ((Value.int .i64 0) : Value).cells 1).toList) := by
  have hC63 : C ≤ 9223372036854775807 := hC
  obtain ⟨i0, hi0, hz0, hzs, hzb⟩ := info_parts infoE3; obtain ⟨cs, hcs⟩ : ∃ cs, cs = cells.toList.take ((N + 1) * 1) := ⟨_, rfl⟩
  have hcl : cs.length = (N + 1) * 1 := by rw [hcs, List.length_take, Array.length_toList, h2]; omega
  rw [← hcs] at c1 ⊢
  have hrd : ∀ j v, cs[j]? = some v → w.cell? ⟨b, j, none⟩ = some v := fun j v hj => by
    rw [Yg h1, ← Array.getElem?_toList]
    rw [hcs, List.getElem?_take] at hj
    split at hj
    · exact hj
    · cases hj
  have hsp : ∀ j, j < (N + 1) * 1 → (w.cell? ⟨b, j, none⟩).isSome = true := fun j hj => by
    rw [Yg h1, Array.getElem?_eq_getElem (by omega)]; rfl
  have hfz : ∀ j, w.frozen? ⟨b, j, none⟩ = false := fun j => frozen_of_heap h1
  have hzc : ((Value.int .i64 0) : Value).cells.size = 1 := by decide
  have hdl : (cs.drop (i + 1)).length = (N - i) * 1 := by rw [List.length_drop, hcl]; omega
  have hsrc : ∀ j u, (cs.drop (i + 1))[j]? = some u → w.cell? (ad.add j) = some u := fun j u hj => by
    have hj1 := (List.getElem?_eq_some_iff.1 hj).1
    rw [← had, if_neg (by omega), Addr.add_lit]
    exact hrd _ u (by rwa [List.getElem?_drop] at hj)
  have h1c : ∀ u ∈ cs.drop (i + 1), u.oneCell' = true := fun u hu => c1 u (List.mem_of_mem_drop hu)
  have hspare : ∀ (W : World), (∀ x, W.cell? x = w.cell? x) → (∀ x, W.frozen? x = w.frozen? x) → ∀ j, j < (cs.drop (i + 1)).length → (W.cell? ⟨b, i + j, none⟩).isSome = true ∧ W.frozen? ⟨b, i + j, none⟩ = false := fun W e1 e2 j hj => by
    rw [e1, e2]
    exact ⟨hsp _ (by omega), hfz _⟩
  have hclr : ∀ (W : World), (∀ x, W.cell? x = (w.setCells b i (cs.drop (i + 1))).cell? x) → (∀ x, W.frozen? x = (w.setCells b i (cs.drop (i + 1))).frozen? x) → ∀ ty c, (Builtin.clear_ #[22] ty #[.slice (some ⟨b, N, none⟩) 1 c]).run Try.prog W = .ok (.tuple #[]) (W.setCells b (N * 1) (Builtin.zeroCells ((Value.int .i64 0) : Value).cells 1).toList) := fun W e1 e2 ty c => by
    have h := run_clear_sliceK W 22 3 ty (Value.int .i64 0) 1 Try.underlying22 Try.zeroValue3 hzc (by decide) b (N * 1) 1 c (by decide)
      (fun j hj => by rw [e1]; exact isSome_setCellsK b (cs.drop (i + 1)) i w (fun t ht => hsp _ (by omega)) _ (hsp _ (by omega)))
      (fun j hj => by rw [e2, World.frozen?_setCells]; exact hfz _)
    first
      | exact h
      | simpa only [Nat.mul_one] using h
  have hcl1 := hclr (w.setCells b i (cs.drop (i + 1))) (fun _ => rfl) (fun _ => rfl)
  have hcl2 := hclr (w.drew.setCells b i (cs.drop (i + 1))) (fun x => by rw [← drew_setCellsJ]; rfl) (fun x => by rw [← drew_setCellsJ]; rfl)
  have mixed : Try.prog.follows .mixedOrders = true := by kernel_rfl
  have hne : ¬ ((i : Int) = (i : Int) + 1) := by omega
  have hb1 : (0 : Int) ≤ (i : Int) + 1 := by omega
  have htn : ((i : Int) + 1).toNat = i + 1 := by omega
  have hb2 : (i : Int) + 1 ≤ (N : Int) + 1 := by omega
  have hb3 : (i : Int) ≤ (i : Int) + 1 := by omega
  have hb4 : i ≤ C := by omega
  have hin : i ≤ N := by omega
  have hCN : ¬ (C = N) := by omega
  have hrN : i + (N - i) = N := by omega
  clear hcs hrd hsp hfz
  by_cases hCj : C = i + 1
  · have hadr : ad = ⟨b, 0, none⟩ := by rw [← had, if_pos hCj]
    subst hadr hCj
    clear had hsl
    go_enter Try.func57, Try.ntmps57
    go_wp2
    go_region_law (refine step_append_rm rfl _ _ 22 rfl 3 i0 1 Try.underlying22 hi0 hzs b i (i + 1) (by simp [Act.eval, Act.put]) ⟨b, 0, none⟩ (N - i) 0 (cs.drop (i + 1)) (by first | (simp [Act.eval, Act.put]; done) | (simp [Act.eval, Act.put]; omega)) hdl (fun j u h => hsrc j u h) h1c N i hrN (by omega) (by omega) (hspare _ (fun _ => rfl) (fun _ => rfl)) ?_)
    go_wp2_with (simp only [hcl1, hcl2])
    go_ret
    first | exact ⟨rfl, .inr rfl⟩ | exact ⟨rfl, .inr (by simp [Value.cells])⟩
  · have hadr : ad = ⟨b, i + 1, none⟩ := by rw [← had, if_neg hCj]
    subst hadr
    clear had hsl
    go_enter Try.func57, Try.ntmps57
    go_wp2
    go_region_law (refine step_append_rm rfl _ _ 22 rfl 3 i0 1 Try.underlying22 hi0 hzs b i C (by simp [Act.eval, Act.put]) ⟨b, i + 1, none⟩ (N - i) (C - (i + 1)) (cs.drop (i + 1)) (by simp [Act.eval, Act.put, hCj]) hdl (fun j u h => hsrc j u h) h1c N i hrN (by omega) (by omega) (hspare _ (fun _ => rfl) (fun _ => rfl)) ?_)
    go_wp2_with (simp only [hcl1, hcl2])
    go_ret
    first | exact ⟨rfl, .inr rfl⟩ | exact ⟨rfl, .inr (by simp [Value.cells])⟩
theorem kdelete3 : KDelete Try.prog 57 3 1 := by
  intro w b n C i cells h1 h2 hi hnc hC c1
  obtain ⟨N, rfl⟩ : ∃ N, n = N + 1 := ⟨n - 1, by omega⟩
  have hcl : (cells.toList.take ((N + 1) * 1)).length = (N + 1) * 1 := by rw [List.length_take, Array.length_toList, h2]; omega
  refine (del_walk3 w b N C i _ cells h1 h2 hi hnc hC c1 rfl (fun c => by split <;> rfl)).mono ?_; rintro e w' ⟨rfl, hw⟩; refine ⟨rfl, ?_⟩
  have hz : (Builtin.zeroCells ((Value.int .i64 0) : Value).cells 1).toList.length = 1 := by rw [Array.length_toList, size_zeroCells]; decide
  have key : ∀ W, RowPost 3 1 w W b C b C (cells.toList.take ((N + 1) * 1)) → RowPost 3 1 w ((W.setCells b i ((cells.toList.take ((N + 1) * 1)).drop (i + 1))).setCells b (N * 1) (Builtin.zeroCells ((Value.int .i64 0) : Value).cells 1).toList) b C b C ((cells.toList.take ((N + 1) * 1)).take (i * 1) ++ (cells.toList.take ((N + 1) * 1)).drop ((i + 1) * 1)) := by
    intro W hW
    generalize cells.toList.take ((N + 1) * 1) = cs at hcl hW ⊢
    have hdl : (cs.drop (i + 1)).length = (N - i) * 1 := by rw [List.length_drop, hcl]; omega
    have r1 := hW.set (o := i) (vs := cs.drop (i + 1)) (by omega) (by omega) (by simp only [List.length_append, List.length_take, List.length_drop]; omega)
    have r2 := r1.set (o := N * 1) (vs := (Builtin.zeroCells ((Value.int .i64 0) : Value).cells 1).toList) (by simp only [List.length_append, List.length_take, List.length_drop]; omega) (by omega) (by rw [List.length_append, List.length_append, hz]; simp only [List.length_append, List.length_take, List.length_drop]; omega)
    have e0 : i * 1 = i := by omega
    have e1 : (i + 1) * 1 = (i + 1) := by omega
    have hl : (cs.take i ++ cs.drop (i + 1)).length = N * 1 := by rw [List.length_append, List.length_take, hdl]; omega
    refine ⟨r2.os, r2.tape, r2.output, r2.size, r2.others, r2.place, r2.block, r2.room, by rw [e0, e1, hl]; omega, fun j u hj => r2.holds j u ?_⟩
    rw [e0, e1] at hj
    have hjl := (List.getElem?_eq_some_iff.1 hj).1
    rw [List.append_assoc, List.getElem?_append_left (by rw [List.length_take, List.length_append, hl]; omega), List.getElem?_take_of_lt (by omega), List.getElem?_append_left hjl]
    exact hj
  rcases hw with rfl | rfl
  · exact key _ (rowPost_start h1 h2 hC (by omega))
  · exact key _ (rowPost_start h1 h2 hC (by omega)).drew
end

theorem F_slices_Delete___int_int__ok {p0 : List Int} {p1 : Int} {p2 : Int} {r : List Int} (hF : F_slices_Delete___int_int_ p0 p1 p2 = some r) {low : List AObj} {q0 w0 : Nat} (hnd : [q0].Nodup) {m0 : Nat} (hm0 : m0 = (p0).length) (hq0 : low[q0]? = some ⟨3, 1, Ys (Yt .i64) p0, w0⟩) {n : Nat} (hn : low.length = n) :
    Xu Try.prog 57 [.sl q0 w0 0 (p0).length, .int .i64 p1, .int .i64 p2] low fun x low' => x = .sl q0 (w0 + 1) 0 (r).length ∧ low' = setL low [(q0, ⟨3, 1, Ys (Yt .i64) r, w0 + 1⟩)] ++ [] := by
  unfold F_slices_Delete___int_int_ at hF
  by_cases hc : 0 ≤ p1 ∧ p1 < (p0.length : Int) ∧ p2 = p1 + 1
  · rw [decide_eq_true hc, cond_true] at hF
    injection hF with hF
    subst hF
    obtain ⟨c0, c1, rfl⟩ := hc; obtain ⟨i, rfl⟩ : ∃ i : Nat, p1 = (i : Int) := ⟨p1.toNat, by omega⟩; refine (vcalls_delete kdelete3 (by decide) (i := i) (by rw [Yz]; omega) hq0 (fun x hx => by obtain ⟨y, _, rfl⟩ := List.mem_map.1 hx; exact (.int _ _)) (by rw [Yz])).mono ?_; rintro x low' ⟨rfl, rfl⟩; refine ⟨?_, ?_⟩
    · rw [Yz]
      simp only [Int.toNat_natCast, List.length_append, List.length_take, List.length_drop]
      congr 1
      omega
    · simp [setL]
  · rw [decide_eq_false hc, cond_false] at hF
    cases hF

theorem F_cmp_isNaN_int__ok {p0 : Int} {r : Bool} (hF : F_cmp_isNaN_int_ p0 = some r) (low : List AObj) :
    Xu Try.prog 58 [.int .i64 p0] low fun x low' => x = .bool r ∧ low' = low := by
 refine Vw (nt := 6) (rs := [.tmp 2]) Try.func58 rfl rfl (Yw rfl) rfl (Vs (Q' := FnE (fun E' lw lc => Xt E' lw lc [(2, .bool r)] low [])) ?_ ?_)
 ·unfold F_cmp_isNaN_int_ at hF; refine Ve (Vb (Va (Xm rfl) rfl (Vc (Ve (Vb (Va (Vm rfl) rfl (Va (Vm rfl) rfl (Va (rd_neq rfl rfl) rfl ?_)))))))); refine Va (Xm rfl) rfl (Vc (Vx ?_)); obtain rfl := Yv hF; refine fnR ?_; exact Vp ⟨rfl, trivial⟩
 ·rintro _ _ _ _ ⟨he, hw⟩; refine ⟨_, _, _, hw, ?_⟩; exact Xr he [.bool r] ⟨rfl, trivial⟩ (.bool _) ⟨rfl, rfl⟩

theorem F_cmp_Compare_int__ok {p0 : Int} {p1 : Int} {r : Int} (hF : F_cmp_Compare_int_ p0 p1 = some r) (low : List AObj) :
    Xu Try.prog 32 [.int .i64 p0, .int .i64 p1] low fun x low' => x = .int .i64 r ∧ low' = low := by
 refine Vw (nt := 20) (rs := [.tmp 4]) Try.func32 rfl rfl (Yw rfl) rfl (Vs (Q' := FnE (fun E' lw lc => Xt E' lw lc [(4, .int .i64 r)] low [])) ?_ ?_)
 ·unfold F_cmp_Compare_int_ at hF; refine Ve (Vb (Va (Vv rfl) rfl (Vc (Ve (Vb ?_))))); obtain ⟨x1, h2, hF⟩ := Yf hF; refine Va (Vm rfl) rfl (Vj (Vz rfl Try.call58 (F_cmp_isNaN_int__ok h2 _)) rfl (Va (Xm rfl) rfl (Vc (Ve (Vb ?_))))); obtain ⟨x3, h4, hF⟩ := Yf hF; refine Va (Vm rfl) rfl (Vj (Vz rfl Try.call58 (F_cmp_isNaN_int__ok h4 _)) rfl (Va (Xm rfl) rfl (Vc (Ve (Ve (Vb (Va (Vu rfl) rfl (Vc ?_)))))))); refine Vy rfl (fun c5 => ?_) (fun c5 => ?_)
  ·have hF := Xj c5 hF; refine Ve (Ve (Vb (Va (Vu rfl) rfl (Vc (Vy rfl (fun c6 => ?_) (fun c6 => ?_))))))
   ·have hF := Xj c6 hF; refine Ve (Vb (Va (Vv rfl) rfl (Vc (Vx ?_)))); obtain rfl := Yv hF; refine fnR ?_; exact Vp ⟨rfl, trivial⟩
   ·have hF := Xk c6 hF; refine Xc (Ve (Vb (Va (Vv rfl) rfl (Vc (Vx ?_))))); obtain rfl := Yv hF; refine fnR ?_; exact Vp ⟨rfl, trivial⟩
  ·have hF := Xk c5 hF; refine Xc (Ve (Ve (Vb (Va (Vu rfl) rfl (Vc (Vy rfl (fun c7 => ?_) (fun c7 => ?_)))))))
   ·have hF := Xj c7 hF; refine Ve (Vb (Va (Vv rfl) rfl (Vc (Vx ?_)))); obtain rfl := Yv hF; refine fnR ?_; exact Vp ⟨rfl, trivial⟩
   ·have hF := Xk c7 hF; refine Xc (Ve (Ve (Vb (Va (Vm rfl) rfl (Va (Vm rfl) rfl (Va (rd_lss rfl rfl) rfl (Vc (Vy rfl (fun c8 => ?_) (fun c8 => ?_)))))))))
    ·have hF := Xj c8 hF; refine Ve (Vb (Va (Vv rfl) rfl (Vc (Vx ?_)))); obtain rfl := Yv hF; refine fnR ?_; exact Vp ⟨rfl, trivial⟩
    ·have hF := Xk c8 hF; refine Xc (Ve (Ve (Vb (Va (Vm rfl) rfl (Va (Vm rfl) rfl (Va (rd_gtr rfl rfl) rfl (Vc (Vy rfl (fun c9 => ?_) (fun c9 => ?_)))))))))
     ·have hF := Xj c9 hF; refine Ve (Vb (Va (Vv rfl) rfl (Vc (Vx ?_)))); obtain rfl := Yv hF; refine fnR ?_; exact Vp ⟨rfl, trivial⟩
     ·have hF := Xk c9 hF; refine Xc (Ve (Vb (Va (Vv rfl) rfl (Vc (Vx ?_))))); obtain rfl := Yv hF; refine fnR ?_; exact Vp ⟨rfl, trivial⟩
 ·rintro _ _ _ _ ⟨he, hw⟩; refine ⟨_, _, _, hw, ?_⟩; exact Xr he [.int .i64 r] ⟨rfl, trivial⟩ (.int _ _) ⟨rfl, rfl⟩

theorem F_slices_Reverse____2_int__2_int__ok0 {p0 : List A2_Int} {r : List A2_Int} (hF : F_slices_Reverse____2_int__2_int_ p0 = some r) {low0 : List AObj} {q0 w0 : Nat} (hB : Bor low0 [q0]) {m0 : Nat} (hm0 : m0 = (p0).length) {n : Nat} (hn : low0.length = n) :
    Xu Try.prog 77 [.sl q0 w0 0 m0] (setL low0 [(q0, ⟨37, 2, Ys A2_Int.enc p0, w0⟩)]) fun x low' => x = .tup [] ∧ low' = setL low0 [(q0, ⟨37, 2, Ys A2_Int.enc r, w0⟩)] ++ [] := by
 refine Vw (nt := 28) (rs := []) Try.func77 rfl rfl (Yw rfl) rfl ?_
 have hq0 : q0 < n := hB.ltN hn 0 rfl
 refine Vs (Q' := FnE (fun E' lw lc => m0 = (r).length ∧ Xt E' lw lc [] (setL low0 [(q0, ⟨37, 2, Ys A2_Int.enc r, w0⟩)]) [])) ?_ ?_
 ·unfold F_slices_Reverse____2_int__2_int_ at hF; refine Ve (Vb (Va (Xo rfl) rfl (Va (Xw (rd_lenS rfl (Yb hB rfl 0 rfl) rfl rfl te_33) (v' := Yt .i64 ((p0).length : Int)) (congrArg (fun n : Nat => Yt .i64 (n : Int)) hm0)) rfl (Va (rd_sub rfl rfl rfl) rfl (Va (Vv rfl) rfl (Va (Vv rfl) rfl (Vc (Xl ?_)))))))); obtain ⟨o3, ho3, hF⟩ := Yf hF; refine Vs (Yn F_slices_Reverse____2_int__2_int__L1 (fun s2 E' lw lc => m0 = (s2.2.2).length ∧ Xt E' lw lc [(0, .sl q0 w0 0 m0), (2, .int .i64 s2.1), (3, .int .i64 s2.2.1)] (setL low0 [(q0, ⟨37, 2, Ys A2_Int.enc s2.2.2, w0⟩)]) []) (fun o3 => OnlyE (.exit 0) (fun E' lw lc => m0 = (o3).length ∧ Xt E' lw lc [] (setL low0 [(q0, ⟨37, 2, Ys A2_Int.enc o3, w0⟩)]) [])) ho3 ⟨hm0, ?_⟩ (by rintro _ _ _ _ ⟨h, _⟩ <;> cases h) ?_) ?_
  ·exact Vp ⟨rfl, rfl, rfl, trivial⟩
  ·rintro s2 os2 _ _ _ hF ⟨hls2_0, hw⟩; unfold F_slices_Reverse____2_int__2_int__L1 at hF; refine Yq hw (Ve (Ve (Vb (Va (Vm rfl) rfl (Va (Vm rfl) rfl (Va (rd_lss rfl rfl) rfl (Vc (Vy rfl (fun c4 => ?_) (fun c4 => ?_)))))))))
   ·have hF := Xj c4 hF; refine Xc (Ve (Xl ?_)); obtain ⟨x5, h6, hF⟩ := Yf hF; obtain ⟨x7, h8, hF⟩ := Yf hF; obtain ⟨x9, h10, hF⟩ := Yf hF; obtain ⟨x11, h12, hF⟩ := Yf hF; refine Xe [[], [], [], [], [], [], [4, 5], [4, 5, 6], [], [], [8, 9], [8, 9, 10], [0, 1, 4, 5, 6, 7, 8, 9, 10, 11], [0, 1, 4, 5, 6, 7, 8, 9, 10, 11, 12], (List.range 14), (List.range 15)] [false, false, false, false, false, false, false, false, false, false, false, false, false, true, false, true] [((setL low0 [(q0, ⟨37, 2, Ys A2_Int.enc s2.2.2, w0⟩)]), []), ((setL low0 [(q0, ⟨37, 2, Ys A2_Int.enc (s2.2.2.set ((s2.1).toNat) x5), w0⟩)]), []), ((setL low0 [(q0, ⟨37, 2, Ys A2_Int.enc ((s2.2.2.set ((s2.1).toNat) x5).set ((s2.2.1).toNat) x7), w0⟩)]), [])] mixed (by kernel_rfl) rfl (Xz (Xd len_setL (Xd len_setL (Xd len_setL Yj)))) rfl _ rfl rfl (Xb rfl rfl (Xo rfl) (Xb rfl rfl (Vm rfl) (Ya _ rfl rfl (Xd (VRd.ntl (Xo rfl)) (Xd (VRd.ntl (Xo rfl)) Yj)) (Ya _ rfl rfl (Xd (VRd.ntl (Vm rfl)) (Xd (VRd.ntl (Vm rfl)) Yj)) (Xb rfl rfl (Xo rfl) (Xb rfl rfl (Vm rfl) (Xb rfl rfl (rd_ixS rfl hls2_0 rfl (Yb hB rfl 0 rfl) h6 te_33 ts_37) (Xb rfl rfl (rd_ldLN (ds := [.int .i64 x5.a0, .int .i64 x5.a1]) rfl (Yb hB rfl 0 rfl) (getI_some h6).2 ta_37 ts_37 rfl rfl) ?_)))))))); refine Xb rfl rfl (Xo rfl) (Xb rfl rfl (Vm rfl) (Xb rfl rfl (rd_ixS rfl hls2_0 rfl (Yb hB rfl 0 rfl) h8 te_33 ts_37) (Xb rfl rfl (rd_ldLN (ds := [.int .i64 x7.a0, .int .i64 x7.a1]) rfl (Yb hB rfl 0 rfl) (getI_some h8).2 ta_37 ts_37 rfl rfl) (Xb rfl rfl (rd_ixS rfl hls2_0 rfl (Yb hB rfl 0 rfl) h10 te_33 ts_37) (Xn rfl rfl rfl (vef_stL (p := .agg [.int .i64 x5.a0, .int .i64 x5.a1]) (e' := x5) rfl (Yb hB rfl 0 rfl) (getI_some h10).2 rfl ts_37 rfl (Xp rfl) (Yw rfl) rfl (setO_B hB rfl 0 rfl (Vr A2_Int.enc_lt) rfl)) (Xb rfl rfl (rd_ixS rfl (Eq.trans hls2_0 List.length_set.symm) rfl (Yb hB rfl 0 rfl) h12 te_33 ts_37) (Xn rfl rfl rfl (vef_stL (p := .agg [.int .i64 x7.a0, .int .i64 x7.a1]) (e' := x7) rfl (Yb hB rfl 0 rfl) (getI_some h12).2 rfl ts_37 rfl (Xp rfl) (Yw rfl) rfl (setO_B hB rfl 0 rfl (Vr A2_Int.enc_lt) rfl)) (Xg ?_)))))))); refine Vb (Va (Vm rfl) rfl (Va (rd_add rfl rfl rfl) rfl (Va (Vm rfl) rfl (Va (rd_sub rfl rfl rfl) rfl (Va (Vv rfl) rfl (Va (Vv rfl) rfl (Vc ?_))))))); obtain rfl := Yv hF; refine And.intro rfl (And.intro (Eq.trans (Eq.trans hls2_0 List.length_set.symm) List.length_set.symm) ?_); exact Vp ⟨rfl, rfl, rfl, trivial⟩
   ·have hF := Xk c4 hF; refine Yr ?_; obtain rfl := Yv hF; refine And.intro rfl (And.intro hls2_0 ?_); exact Vp trivial
  ·rintro _ _ _ _ ⟨rfl, hl13, hw⟩; refine ⟨_, _, _, hw, ?_⟩; obtain rfl := Yv hF; refine And.intro (.inl rfl) (And.intro hl13 ?_); exact Vp trivial
 ·rintro _ _ _ _ ⟨he, hl1, hw⟩; refine ⟨_, _, _, hw, ?_⟩; exact Xr he [] trivial ((lt_tup trivial)) ⟨rfl, (List.append_nil _).symm⟩

theorem F_slices_Reverse____2_int__2_int__len {p0 : List A2_Int} {r : List A2_Int} (hF : F_slices_Reverse____2_int__2_int_ p0 = some r) {m0 : Nat} (hm0 : m0 = (p0).length) : m0 = (r).length ∧ True := by
  have h : LP (F_slices_Reverse____2_int__2_int_ p0) (fun r => m0 = (r).length ∧ True) := by
    unfold F_slices_Reverse____2_int__2_int_; exact (lp_bind (Q := fun o3 => m0 = (o3).length ∧ True) (lp_loop (fun s2 => m0 = (s2.2.2).length ∧ True) ⟨hm0, trivial⟩ (fun s2 ⟨hls2_0, _⟩ => by unfold F_slices_Reverse____2_int__2_int__L1; exact (lp_bif (fun c4 => Yl fun x5 h6 => Yl fun x7 h8 => Yl fun x9 h10 => Yl fun x11 h12 => Yh ⟨(Eq.trans (Eq.trans hls2_0 List.length_set.symm) List.length_set.symm), trivial⟩) (fun c4 => Yh ⟨hls2_0, trivial⟩)))) (fun o3 ⟨hl13, _⟩ => Yh ⟨hl13, trivial⟩))
  exact h r hF

theorem F_slices_Reverse____2_int__2_int__ok {p0 : List A2_Int} {r : List A2_Int} (hF : F_slices_Reverse____2_int__2_int_ p0 = some r) {low : List AObj} {q0 w0 : Nat} (hnd : [q0].Nodup) {m0 : Nat} (hm0 : m0 = (p0).length) (hq0 : low[q0]? = some ⟨37, 2, Ys A2_Int.enc p0, w0⟩) {n : Nat} (hn : low.length = n) :
    Xu Try.prog 77 [.sl q0 w0 0 m0] low fun x low' => x = .tup [] ∧ low' = setL low [(q0, ⟨37, 2, Ys A2_Int.enc r, w0⟩)] ++ [] := by
  obtain ⟨h1, h2⟩ := bor_start (ps := [(q0, ⟨37, 2, Ys A2_Int.enc p0, w0⟩)]) hnd (borC hq0 bor0); exact vcalls_low h1 (F_slices_Reverse____2_int__2_int__ok0 hF h2 hm0 hn)

section
open Go.RowKit
set_option maxHeartbeats 4000000
set_option maxRecDepth 100000
theorem ins_room37 (w : World) (b n C i vb vC : Nat) (cells vcells : Array Value) (hne : b ≠ vb) (h1 : w.heap[b]? = some (.cells cells 37 (0, 0))) (h2 : cells.size = C * 2) (h3 : w.heap[vb]? = some (.cells vcells 37 (0, 0))) (h4 : vcells.size = vC * 2) (hv1 : 1 ≤ vC) (hi : i < n) (hC : C ≤ maxLen)
    (hroom : n + 1 ≤ C) (c1 : ∀ u ∈ cells.toList.take (n * 2), u.oneCell' = true) (c2 : ∀ u ∈ vcells.toList.take 2, u.oneCell' = true) :
    Calls Try.prog 60 #[.slice (some ⟨b, 0, none⟩) n C, .int .i64 i, .slice (some ⟨vb, 0, none⟩) 1 vC] w fun e w' => e = .returned (.slice (some ⟨b, 0, none⟩) (n + 1) C) ∧
      w' = (w.drew.setCells b (((i + 1) * 2)) ((cells.toList.take (n * 2)).drop ((i * 2)))).setCells b ((i * 2)) (vcells.toList.take 2) := by
  have hC63 : C ≤ 9223372036854775807 := hC
  obtain ⟨cs, hcs⟩ : ∃ cs, cs = cells.toList.take (n * 2) := ⟨_, rfl⟩; obtain ⟨vs, hvs⟩ : ∃ vs, vs = vcells.toList.take 2 := ⟨_, rfl⟩
  have hcl : cs.length = n * 2 := by rw [hcs, List.length_take, Array.length_toList, h2]; omega
  have hvl : vs.length = 2 := by rw [hvs, List.length_take, Array.length_toList, h4]; omega
  have hrd : ∀ j v, cs[j]? = some v → w.cell? ⟨b, j, none⟩ = some v := fun j v hj => by
    rw [Yg h1, ← Array.getElem?_toList]
    rw [hcs, List.getElem?_take] at hj
    split at hj
    · exact hj
    · cases hj
  have hrv : ∀ j v, vs[j]? = some v → w.cell? ⟨vb, j, none⟩ = some v := fun j v hj => by
    rw [Yg h3, ← Array.getElem?_toList]
    rw [hvs, List.getElem?_take] at hj
    split at hj
    · exact hj
    · cases hj
  have hsp : ∀ j, j < (n + 1) * 2 → (w.cell? ⟨b, j, none⟩).isSome = true := fun j hj => by
    rw [Yg h1, Array.getElem?_eq_getElem (by omega)]; rfl
  have hfz : ∀ j, w.frozen? ⟨b, j, none⟩ = false := fun j => frozen_of_heap h1
  rw [← hcs] at c1 ⊢
  rw [← hvs] at c2 ⊢
  have hz2 : ¬ ((i : Int) = (n : Int)) := by omega
  have hov : ∀ lb cb, (callFunc 71 #[.slice (some ⟨vb, 0, none⟩) 1 vC, .slice (some ⟨b, (i + 1) * 2, none⟩) lb cb]).run Try.prog w = .ok (.value (.bool false)) w := fun lb cb => by
    rw [run_callFunc_extern Try.func71 (by kernel_rfl) (by kernel_rfl) (by kernel_rfl) (e := Extern.SlicesOverlaps.overlaps #[33, 33] #[4]) (by kernel_rfl),
      Lib.run_overlaps_apart w 33 4 37 Try.underlying33 2 Try.sizeOf37 ⟨vb, 0, none⟩ ⟨b, (i + 1) * 2, none⟩ 1 vC lb cb (fun h => hne h.symm) 37 37 _ _ (shape_of_heap h3) (shape_of_heap h1) (by omega) (frozen_of_heap h3) (frozen_of_heap h3)]
    rfl
  have hdl : (cs.drop ((i * 2))).length = (n - i) * 2 := by rw [List.length_drop, hcl]; omega
  have mixed : Try.prog.follows .mixedOrders = true := by kernel_rfl
  have hw1 : IntKind.i64.wrap ((i : Int) + 1) = (i : Int) + 1 := by rw [IntKind.wrap_i64]; omega
  have hw2 : IntKind.i64.wrap ((n : Int) + 1) = (n : Int) + 1 := by rw [IntKind.wrap_i64]; omega
  have hb1 : (0 : Int) ≤ (i : Int) + 1 := by omega
  have hin : i ≤ n := by omega
  have htn : ((i : Int) + 1).toNat = i + 1 := by omega
  have htn2 : ((n : Int) + 1).toNat = n + 1 := by omega
  have hb2 : ¬ (C = i + 1) := by omega
  have hb3 : (i : Int) ≤ (n : Int) + 1 := by omega
  have hb4 : ¬ (C = i) := by omega
  have hb5 : ¬ ((C : Int) < (n : Int) + 1) := by omega
  have hcp1 : ∀ ty dc sc, (Builtin.copy_ #[33, 33] ty #[.slice (some ⟨b, (i + 1) * 2, none⟩) (n - i) dc, .slice (some ⟨b, i * 2, none⟩) (n + 1 - i) sc]).run Try.prog w.drew = .ok (goInt (n - i : Nat)) (w.drew.setCells b (((i + 1) * 2)) (cs.drop ((i * 2)))) := fun ty dc sc =>
    Yp w.drew _ _ ty 37 2 b (((i + 1) * 2)) (n - i) dc ⟨b, i * 2, none⟩ (n + 1 - i) sc (n - i) (cs.drop ((i * 2))) Try.underlying33 rfl (by simp only [Nat.min_def]; split <;> omega) hdl
      (fun j v hj => by rw [Addr.add_lit]; exact hrd ((i * 2) + j) v (by rwa [List.getElem?_drop] at hj))
      (fun j hj => hsp _ (by rw [hdl] at hj; omega)) (fun j hj => hfz _) (fun v hv => c1 v (List.mem_of_mem_drop hv))
  obtain ⟨W1, hW1⟩ : ∃ W1, W1 = w.drew.setCells b (((i + 1) * 2)) (cs.drop ((i * 2))) := ⟨_, rfl⟩
  have hsp1 : ∀ k, k < (n + 1) * 2 → (W1.cell? ⟨b, k, none⟩).isSome = true := fun k hk => by
    rw [hW1]
    exact isSome_setCellsK b (cs.drop ((i * 2))) (((i + 1) * 2)) w.drew (fun j hj => hsp _ (by rw [hdl] at hj; omega)) k (hsp k hk)
  have hcp2 : ∀ (W : World), (∀ x, W.cell? x = W1.cell? x) → (∀ x, W.frozen? x = W1.frozen? x) → ∀ ty dc, (Builtin.copy_ #[33, 33] ty #[.slice (some ⟨b, i * 2, none⟩) (n + 1 - i) dc, .slice (some ⟨vb, 0, none⟩) 1 vC]).run Try.prog W = .ok (goInt (1 : Nat)) (W.setCells b ((i * 2)) vs) := fun W hWc hWf ty dc =>
    Yp W _ _ ty 37 2 b ((i * 2)) (n + 1 - i) dc ⟨vb, 0, none⟩ 1 vC 1 vs Try.underlying33 rfl (by simp only [Nat.min_def]; split <;> omega) (by rw [hvl])
      (fun j v hj => by
        rw [Addr.add_lit, hWc, hW1, World.cell?_setCells_out b _ _ _ _ (fun h _ => absurd h.symm hne), Nat.zero_add]
        exact hrv j v hj)
      (fun j hj => by rw [hWc]; exact hsp1 _ (by omega)) (fun j hj => by rw [hWf, hW1, World.frozen?_setCells]; exact hfz _) c2
  rw [← hW1] at hcp1
  clear hcs hvs
  go_enter Try.func60, Try.ntmps60
  go_wp2_with (simp only [hov])
  go_region_law (refine step_copy_runJ rfl _ _ 33 33 rfl _ _ (by simp [Act.eval, Act.put]) (by simp [Act.eval, Act.put]) (hcp1 _ _ _) ?_)
  go_wp2_with (at_builtin; refine wpList_copy_runJ _ rfl _ _ 33 33 rfl _ _ rfl rfl (hcp2 _ (fun _ => rfl) (fun _ => rfl) _ _) ?_)
  go_ret
  first | exact ⟨rfl, rfl⟩ | exact ⟨rfl, by rw [hW1]⟩
theorem infoE37 : (Try.prog.info? 37).map (fun i => (i.zero, i.size, i.bytes)) = some (some (Value.agg #[.int .i64 0, .int .i64 0]), 2, 16) := by kernel_rfl
theorem ins_grow37 (w : World) (b n C i vb vC : Nat) (cells vcells : Array Value) (h1 : w.heap[b]? = some (.cells cells 37 (0, 0))) (h2 : cells.size = C * 2) (h3 : w.heap[vb]? = some (.cells vcells 37 (0, 0))) (h4 : vcells.size = vC * 2) (hv1 : 1 ≤ vC) (hi : i < n) (hC : C ≤ maxLen)
    (hnc : n ≤ C) (hroom : C < n + 1) (hbig : (n + 1) * 16 ≤ 140737488355328) (c1 : ∀ u ∈ cells.toList.take (n * 2), u.oneCell' = true) (c2 : ∀ u ∈ vcells.toList.take 2, u.oneCell' = true) :
    Calls Try.prog 60 #[.slice (some ⟨b, 0, none⟩) n C, .int .i64 i, .slice (some ⟨vb, 0, none⟩) 1 vC] w fun e w' => e = .returned (.slice (some ⟨w.heap.size, 0, none⟩) (n + 1) (grownCap w (n + 1) C 37)) ∧
      w' = (((w.alloc (.cells (((cells.toList.take (n * 2)).take (i * 2)).toArray ++ Builtin.zeroCells ((Value.agg #[.int .i64 0, .int .i64 0]) : Value).cells (n + 1 - i) ++ Builtin.zeroCells ((Value.agg #[.int .i64 0, .int .i64 0]) : Value).cells (grownCap w (n + 1) C 37 - (n + 1))) 37)).drew.setCells w.heap.size (i * 2) (vcells.toList.take 2)).drew).setCells w.heap.size ((i + 1) * 2) ((cells.toList.take (n * 2)).drop (i * 2)) := by
  have hC63 : C ≤ 9223372036854775807 := hC
  obtain ⟨cs, hcs⟩ : ∃ cs, cs = cells.toList.take (n * 2) := ⟨_, rfl⟩; obtain ⟨vs, hvs⟩ : ∃ vs, vs = vcells.toList.take 2 := ⟨_, rfl⟩
  have hcl : cs.length = n * 2 := by rw [hcs, List.length_take, Array.length_toList, h2]; omega
  have hvl : vs.length = 2 := by rw [hvs, List.length_take, Array.length_toList, h4]; omega
  have hrd : ∀ j v, cs[j]? = some v → w.cell? ⟨b, j, none⟩ = some v := fun j v hj => by
    rw [Yg h1, ← Array.getElem?_toList]
    rw [hcs, List.getElem?_take] at hj
    split at hj
    · exact hj
    · cases hj
  have hrv : ∀ j v, vs[j]? = some v → w.cell? ⟨vb, j, none⟩ = some v := fun j v hj => by
    rw [Yg h3, ← Array.getElem?_toList]
    rw [hvs, List.getElem?_take] at hj
    split at hj
    · exact hj
    · cases hj
  rw [← hcs] at c1 ⊢
  rw [← hvs] at c2 ⊢
  obtain ⟨i0, hi0, hz0, hzs, hzb⟩ := info_parts infoE37
  have hz2 : ¬ ((i : Int) = (n : Int)) := by omega
  have hz3 : (C : Int) < (n : Int) + 1 := by omega
  have hbw : b < w.heap.size := heap_lt h1
  have hvw : vb < w.heap.size := heap_lt h3
  have hkk : (n : Int) + 1 - (i : Int) = ((n + 1 - i : Nat) : Int) := by omega
  have hik : i + (n + 1 - i) = n + 1 := by omega
  have hold : (Builtin.firstCells i0.size i (.slice (some ⟨b, 0, none⟩) i C)).run Try.prog w.drew = .ok (cs.take (i * 2)).toArray w.drew := by
    rw [hzs]
    exact run_firstCells_some w.drew 2 i ⟨b, 0, none⟩ i C (cs.take (i * 2)) (by rw [List.length_take]; omega) (fun j v hj => by
      rw [Addr.add_lit, Nat.zero_add]
      rw [List.getElem?_take] at hj
      split at hj
      · exact hrd j v hj
      · cases hj)
  have hrz : ∀ ty, (Builtin.append_ #[33, 3] ty #[.slice (some ⟨b, 0, none⟩) i C, .int .i64 ((n : Int) + 1 - (i : Int))]).run Try.prog w =
      .ok (.slice (some ⟨w.heap.size, 0, none⟩) (n + 1) (grownCap w (n + 1) C 37)) (w.drew.alloc (.cells ((cs.take (i * 2)).toArray ++ Builtin.zeroCells ((Value.agg #[.int .i64 0, .int .i64 0]) : Value).cells (n + 1 - i) ++ Builtin.zeroCells ((Value.agg #[.int .i64 0, .int .i64 0]) : Value).cells (grownCap w (n + 1) C 37 - (n + 1))) 37)) := fun ty => by
    have h := Lib.run_append_grow_zeros w 33 3 ty 37 i0 _ .i64 .i64 Try.underlying33 Try.underlying3 hi0 hz0 (some ⟨b, 0, none⟩) i C (cs.take (i * 2)) hold (n + 1 - i) (by omega) (by omega) (by omega) (by omega) (by rw [hzb]; omega) (by rw [hzb, hik]; exact growslice_fits hroom hbig)
    rw [hik] at h
    rw [hkk]
    exact h
  obtain ⟨G, hG⟩ : ∃ G, G = grownCap w (n + 1) C 37 := ⟨_, rfl⟩; obtain ⟨ROW, hROW⟩ : ∃ ROW : Array Value, ROW = (cs.take (i * 2)).toArray ++ Builtin.zeroCells ((Value.agg #[.int .i64 0, .int .i64 0]) : Value).cells (n + 1 - i) ++ Builtin.zeroCells ((Value.agg #[.int .i64 0, .int .i64 0]) : Value).cells (G - (n + 1)) := ⟨_, rfl⟩
  rw [← hG] at hrz ⊢
  rw [← hROW] at hrz ⊢
  have hzc : ((Value.agg #[.int .i64 0, .int .i64 0]) : Value).cells.size = 2 := by decide
  have hRl : (n + 1) * 2 ≤ ROW.size := by
    rw [hROW]
    simp only [Array.size_append, size_zeroCells, hzc, List.size_toArray, List.length_take, hcl]
    omega
  obtain ⟨W1, hW1⟩ : ∃ W1, W1 = w.drew.alloc (.cells ROW 37) := ⟨_, rfl⟩
  rw [← hW1] at hrz
  have hN : ∀ j, j < (n + 1) * 2 → (W1.cell? ⟨w.heap.size, j, none⟩).isSome = true := fun j hj => by
    rw [hW1, World.cell?_alloc_at (w := w.drew) ROW _ w.heap.size j rfl, Array.getElem?_eq_getElem (by omega)]; rfl
  have hNf : ∀ j, W1.frozen? ⟨w.heap.size, j, none⟩ = false := fun j => by rw [hW1]; exact World.frozen?_alloc_at (w := w.drew) ROW _ w.heap.size j rfl
  have hOb : ∀ j v, w.cell? ⟨b, j, none⟩ = some v → W1.cell? ⟨b, j, none⟩ = some v := fun j v h => by rw [hW1, World.cell?_alloc_past (w := w.drew) _ b j hbw]; exact h
  have hOv : ∀ j v, w.cell? ⟨vb, j, none⟩ = some v → W1.cell? ⟨vb, j, none⟩ = some v := fun j v h => by rw [hW1, World.cell?_alloc_past (w := w.drew) _ vb j hvw]; exact h
  have hcpA : ∀ (W : World), (∀ x, W.cell? x = W1.cell? x) → (∀ x, W.frozen? x = W1.frozen? x) → ∀ ty dc, (Builtin.copy_ #[33, 33] ty #[.slice (some ⟨w.heap.size, i * 2, none⟩) (n + 1 - i) dc, .slice (some ⟨vb, 0, none⟩) 1 vC]).run Try.prog W = .ok (goInt (1 : Nat)) (W.setCells w.heap.size (i * 2) vs) := fun W hWc hWf ty dc =>
    Yp W _ _ ty 37 2 w.heap.size (i * 2) (n + 1 - i) dc ⟨vb, 0, none⟩ 1 vC 1 vs Try.underlying33 rfl (by simp only [Nat.min_def]; split <;> omega) (by rw [hvl])
      (fun j v hj => by rw [Addr.add_lit, hWc, Nat.zero_add]; exact hOv _ v (hrv j v hj))
      (fun j hj => by rw [hWc]; exact hN _ (by omega)) (fun j hj => by rw [hWf]; exact hNf _) c2
  have hGn : n + 1 ≤ G := by rw [hG]; exact grownCap_ge w _ _ _
  have hG63 : G ≤ 9223372036854775807 := by
    have := grownCap_le_maxLen w (n + 1) C 37 (by unfold maxLen; omega)
    rw [← hG] at this
    unfold maxLen at this
    omega
  have hGi : ¬ (G = i) := by omega
  have hGim : ¬ (G = i + 1) := by omega
  have hci : ¬ (C = i) := by omega
  have hbN : b ≠ w.heap.size := by omega
  have hdl : (cs.drop (i * 2)).length = (n - i) * 2 := by rw [List.length_drop, hcl]; omega
  have hcpB : ∀ (W : World), (∀ x, W.cell? x = (W1.setCells w.heap.size (i * 2) vs).cell? x) → (∀ x, W.frozen? x = (W1.setCells w.heap.size (i * 2) vs).frozen? x) → ∀ ty dc sc, (Builtin.copy_ #[33, 33] ty #[.slice (some ⟨w.heap.size, (i + 1) * 2, none⟩) (n - i) dc, .slice (some ⟨b, i * 2, none⟩) (n - i) sc]).run Try.prog W = .ok (goInt (n - i : Nat)) (W.setCells w.heap.size ((i + 1) * 2) (cs.drop (i * 2))) := fun W hWc hWf ty dc sc =>
    Yp W _ _ ty 37 2 w.heap.size ((i + 1) * 2) (n - i) dc ⟨b, i * 2, none⟩ (n - i) sc (n - i) (cs.drop (i * 2)) Try.underlying33 rfl (by simp only [Nat.min_def]; split <;> omega) hdl
      (fun j v hj => by
        rw [Addr.add_lit, hWc, World.cell?_setCells_out _ _ _ _ _ (fun h _ => absurd h hbN)]
        exact hOb _ v (hrd ((i * 2) + j) v (by rwa [List.getElem?_drop] at hj)))
      (fun j hj => by rw [hWc]; exact isSome_setCellsK w.heap.size vs (i * 2) W1 (fun t ht => hN _ (by omega)) _ (hN _ (by rw [hdl] at hj; omega)))
      (fun j hj => by rw [hWf, World.frozen?_setCells]; exact hNf _) (fun v hv => c1 v (List.mem_of_mem_drop hv))
  subst hW1
  have hE1 : ∀ x, ((w.alloc (.cells ROW 37)).drew).cell? x = (w.drew.alloc (.cells ROW 37)).cell? x := fun x => rfl
  have hE2 : ∀ x, ((w.alloc (.cells ROW 37)).drew).frozen? x = (w.drew.alloc (.cells ROW 37)).frozen? x := fun x => rfl
  have hF1 : ∀ x, (((w.alloc (.cells ROW 37)).drew.setCells w.heap.size (i * 2) vs).drew).cell? x = ((w.drew.alloc (.cells ROW 37)).setCells w.heap.size (i * 2) vs).cell? x := fun x => rfl
  have hF2 : ∀ x, (((w.alloc (.cells ROW 37)).drew.setCells w.heap.size (i * 2) vs).drew).frozen? x = ((w.drew.alloc (.cells ROW 37)).setCells w.heap.size (i * 2) vs).frozen? x := fun x => rfl
  have mixed : Try.prog.follows .mixedOrders = true := by kernel_rfl
  have hw1 : IntKind.i64.wrap ((i : Int) + 1) = (i : Int) + 1 := by rw [IntKind.wrap_i64]; omega
  have hw2 : IntKind.i64.wrap ((n : Int) + 1) = (n : Int) + 1 := by rw [IntKind.wrap_i64]; omega
  have hw3 : IntKind.i64.wrap ((n : Int) + 1 - (i : Int)) = (n : Int) + 1 - (i : Int) := by rw [IntKind.wrap_i64]; omega
  have hb1 : (0 : Int) ≤ (i : Int) + 1 := by omega
  have hin : i ≤ n := by omega
  have htn : ((i : Int) + 1).toNat = i + 1 := by omega
  have hb3 : (i : Int) ≤ (n : Int) := by omega
  clear hkk hik hold hROW hG hRl hcs hvs
  go_enter Try.func60, Try.ntmps60
  go_wp2_with (first
    | (at_builtin; refine Lib.wpList_append_run _ rfl _ _ _ _ rfl _ _ rfl rfl _ _ (hrz _) ?_)
    | (at_builtin; refine wpList_copy_runJ _ rfl _ _ 33 33 rfl _ _ rfl rfl (hcpA _ hE1 hE2 _ _) ?_)
    | (at_builtin; refine wpList_copy_runJ _ rfl _ _ 33 33 rfl _ _ rfl rfl (hcpB _ (fun _ => rfl) (fun _ => rfl) _ _ _) ?_))
  go_region_law (refine step_copy_runJ rfl _ _ 33 33 rfl (.slice (some ⟨w.heap.size, (i + 1) * 2, none⟩) (n - i) (G - (i + 1))) (.slice (some ⟨b, i * 2, none⟩) (n - i) (C - i)) (by simp [Act.eval, Act.put]) (by simp [Act.eval, Act.put]) (hcpB _ hF1 hF2 3 (G - (i + 1)) (C - i)) ?_)
  go_wp2
  go_ret
  exact ⟨rfl, rfl⟩
theorem kinsert37 : KInsert Try.prog 60 37 2 16 := by
  intro w b n C i vb vC cells vcells hne h1 h2 h3 h4 hv hi hnc hC hC1 hb hb2 c1 c2
  have hcl : (cells.toList.take (n * 2)).length = n * 2 := by rw [List.length_take, Array.length_toList, h2]; omega
  have hvl : (vcells.toList.take 2).length = 2 := by rw [List.length_take, Array.length_toList, h4]; omega
  by_cases hroom : n + 1 ≤ C
  · refine (ins_room37 w b n C i vb vC cells vcells hne h1 h2 h3 h4 hv hi hC hroom c1 c2).mono ?_
    rintro e w' ⟨rfl, rfl⟩; refine ⟨b, C, rfl, ?_⟩
    have r0 := (rowPost_start (m := n * 2) h1 h2 hC (by omega)).drew
    have r1 := r0.set (o := i * 2 + 2) (vs := (cells.toList.take (n * 2)).drop (i * 2)) (by omega) (by rw [List.length_drop]; omega) (by simp only [List.length_append, List.length_take, List.length_drop, Array.length_toList]; omega)
    have r2 := r1.set (o := i * 2) (vs := vcells.toList.take 2) (by simp only [List.length_append, List.length_take, List.length_drop, Array.length_toList]; omega) (by omega) (by simp only [List.length_append, List.length_take, List.length_drop, Array.length_toList]; omega)
    rw [ins_list1 (by omega) hvl] at r2
    have e1 : ((i + 1) * 2) = i * 2 + 2 := by omega
    have e0 : (i * 2) = i * 2 := by omega
    first
      | (rw [e1, e0]; exact r2)
      | (rw [e1]; exact r2)
      | simpa only [Nat.mul_one] using r2
  · refine (ins_grow37 w b n C i vb vC cells vcells h1 h2 h3 h4 hv hi hC hnc (by omega) hb c1 c2).mono ?_
    rintro e w' ⟨rfl, rfl⟩; refine ⟨_, _, rfl, ?_⟩
    have hGn := grownCap_ge w (n + 1) C 37
    have hGm := grownCap_le_maxLen w (n + 1) C 37 (by unfold maxLen; omega)
    generalize grownCap w (n + 1) C 37 = G at hGn hGm ⊢
    have hzc : ((Value.agg #[.int .i64 0, .int .i64 0]) : Value).cells.size = 2 := by decide
    have hrs : ((((cells.toList.take (n * 2)).take (i * 2)).toArray ++ Builtin.zeroCells ((Value.agg #[.int .i64 0, .int .i64 0]) : Value).cells (n + 1 - i) ++ Builtin.zeroCells ((Value.agg #[.int .i64 0, .int .i64 0]) : Value).cells (G - (n + 1)))).size = G * 2 := by
      simp only [Array.size_append, size_zeroCells, hzc, List.size_toArray, List.length_take, Array.length_toList]
      omega
    have r0 := (rowPost_new (w := w) (b := b) (C := C) (m := (n + 1) * 2) (E := 37) hrs hGm (by omega)).drew
    have hul : (((((cells.toList.take (n * 2)).take (i * 2)).toArray ++ Builtin.zeroCells ((Value.agg #[.int .i64 0, .int .i64 0]) : Value).cells (n + 1 - i) ++ Builtin.zeroCells ((Value.agg #[.int .i64 0, .int .i64 0]) : Value).cells (G - (n + 1)))).toList.take ((n + 1) * 2)).length = (n + 1) * 2 := by
      rw [List.length_take, Array.length_toList, hrs]; omega
    have hut : (((((cells.toList.take (n * 2)).take (i * 2)).toArray ++ Builtin.zeroCells ((Value.agg #[.int .i64 0, .int .i64 0]) : Value).cells (n + 1 - i) ++ Builtin.zeroCells ((Value.agg #[.int .i64 0, .int .i64 0]) : Value).cells (G - (n + 1)))).toList.take ((n + 1) * 2)).take (i * 2) = (cells.toList.take (n * 2)).take (i * 2) := by
      rw [List.take_take, Nat.min_eq_left (by omega)]
      simp only [Array.toList_append, List.append_assoc]
      exact List.take_left' (by rw [List.length_take]; omega)
    generalize (((((cells.toList.take (n * 2)).take (i * 2)).toArray ++ Builtin.zeroCells ((Value.agg #[.int .i64 0, .int .i64 0]) : Value).cells (n + 1 - i) ++ Builtin.zeroCells ((Value.agg #[.int .i64 0, .int .i64 0]) : Value).cells (G - (n + 1)))).toList.take ((n + 1) * 2)) = us at r0 hul hut
    have r1 := (r0.set (o := (i * 2)) (vs := vcells.toList.take 2) (by omega) (by omega) (by simp only [List.length_append, List.length_take, List.length_drop]; omega)).drew
    have r2 := r1.set (o := (i * 2) + 2) (vs := (cells.toList.take (n * 2)).drop (i * 2)) (by simp only [List.length_append, List.length_take, List.length_drop, Array.length_toList]; omega) (by rw [List.length_drop]; omega) (by simp only [List.length_append, List.length_take, List.length_drop, Array.length_toList]; omega)
    rw [ins_list2 (by omega) hvl (by omega) hut] at r2
    have e1 : ((i + 1) * 2) = (i * 2) + 2 := by omega
    have e0 : i * 2 = (i * 2) := by omega
    first
      | (rw [e1, e0]; exact r2)
      | (rw [e1]; exact r2)
      | simpa only [Nat.mul_one] using r2
end

theorem F_slices_Insert____2_int__2_int_E_ok0 {p0 : List A2_Int} {p1 : Int} {p2 : List A2_Int} {r : List A2_Int × List A2_Int} (hF : F_slices_Insert____2_int__2_int_E p0 p1 p2 = some r) {low0 : List AObj} {q0 q1 w0 w1 : Nat} (hB : Bor low0 [q0, q1]) {m0 : Nat} (hm0 : m0 = (p0).length) {m1 : Nat} (hm1 : m1 = (p2).length) {n : Nat} (hn : low0.length = n) :
    Xu Try.prog 60 [.sl q0 w0 0 (p0).length, .int .i64 p1, .sl q1 w1 0 m1] (setL low0 [(q0, ⟨37, 2, Ys A2_Int.enc p0, w0⟩), (q1, ⟨37, 2, Ys A2_Int.enc p2, w1⟩)]) fun x low' => x = .sl q0 (w0 + 1) 0 (r.1).length ∧ low' = setL low0 [(q0, ⟨37, 2, Ys A2_Int.enc r.1, w0 + 1⟩), (q1, ⟨37, 2, Ys A2_Int.enc r.2, w1⟩)] ++ [] := by
 refine vcalls_norm (G := Nat) (X := fun γ => .sl q0 γ 0 (r.1).length) (LW := fun γ => setL low0 [(q0, ⟨37, 2, Ys A2_Int.enc r.1, γ⟩), (q1, ⟨37, 2, Ys A2_Int.enc r.2, w1⟩)] ++ []) ?_ fun γ => ⟨nos_B hB hn rfl rfl rfl ⟨⟨rfl, no_map A2_Int.enc_lt (.inr (ver_up (get_B0 hB rfl 0 rfl) (Nat.lt_succ_self _)))⟩, ⟨⟨rfl, no_map A2_Int.enc_lt (.inl rfl)⟩, trivial⟩⟩ trivial, nv_sl (get_B hB rfl 0 rfl) (get_B hB rfl 0 rfl) rfl rfl⟩; refine Vw (nt := 95) (rs := [.tmp 6]) Try.func60 rfl rfl (Yw rfl) rfl ?_
 subst hm0
 have hq0 : q0 < n := hB.ltN hn 0 rfl
 have hq1 : q1 < n := hB.ltN hn 1 rfl
 refine Vs (Q' := FnE (fun E' lw lc => ∃ g0 : Nat, m1 = (r.2).length ∧ Xt E' lw lc [(6, .sl q0 g0 0 (r.1).length)] (setL low0 [(q0, ⟨37, 2, Ys A2_Int.enc r.1, g0⟩), (q1, ⟨37, 2, Ys A2_Int.enc r.2, w1⟩)]) [])) ?_ ?_
 ·unfold F_slices_Insert____2_int__2_int_E at hF; refine Ve (Vb (Vj (vef_nilsN (lenS hn) rfl 37 2 (Yx _) (rd_asN rfl)) rfl (Vc (Ve (Vb ?_))))); obtain ⟨x2, h3, hF⟩ := Yf hF; refine Va (Xo rfl) rfl (Va (Vm rfl) rfl (Va (rd_slS rfl rfl (Yb hB rfl 0 rfl) te_33 ts_37 ⟨_, rfl⟩ rfl h3) rfl (Vc (Ve (Vb (Va (Xo rfl) rfl (Va (Xw (rd_lenS rfl (Yb hB rfl 1 rfl) rfl rfl te_33) (v' := Yt .i64 ((p2).length : Int)) (congrArg (fun n : Nat => Yt .i64 (n : Int)) hm1)) rfl (Va (Vv rfl) rfl ?_)))))))); refine Vc (Ve (Ve (Vb (Va (Vm rfl) rfl (Va (Xs rfl rfl) rfl (Vc (Vy rfl (fun c4 => ?_) (fun c4 => ?_))))))))
  ·have hF := Xj c4 hF; refine Ve (Vb (Va (Xo rfl) rfl (Va (Ym rfl) rfl (Vc (Vx ?_))))); obtain rfl := Yv hF; refine And.intro (.inr rfl) (Exists.intro w0 (And.intro hm1 ?_)); exact Vl (lenS hn) [] (by decide) ⟨Vk rfl (.sl _ _ _ _ hq0), trivial⟩ trivial
  ·have hF := Xk c4 hF; refine Xc (Ve (Vb (Va (Xo rfl) rfl (Va (rd_lenS rfl (Yb hB rfl 0 rfl) rfl rfl te_33) rfl (Va (Vv rfl) rfl (Vc (Ve (Ve ?_)))))))); refine Vb (Va (Vm rfl) rfl (Va (Vm rfl) rfl (Va (Xs rfl rfl) rfl (Vc (Vy rfl (fun c5 => ?_) (fun c5 => ?_))))))
   ·have hF := Xj c5 hF; refine Ve (Vb ?_); obtain ⟨x6, h7, hF⟩ := Yf hF; refine Va (Xo rfl) rfl (Va (Xo rfl) rfl (Vj (vef_apL (f := A2_Int.enc) (l := p0) (ys := p2) rfl rfl (Yb hB rfl 0 rfl) rfl (src_full hm1 (Yb hB rfl 1 rfl)) te_33 ts_37 tb_37 (by decide) tz_37 rfl h7 (setO_B hB rfl 0 rfl (Vr A2_Int.enc_lt) rfl)) rfl (Va (Ym rfl) rfl (Vc (Vx ?_))))); obtain rfl := Yv hF; refine And.intro (.inr rfl) (Exists.intro (w0 + 1) (And.intro hm1 ?_)); exact Vl (lenS hn) [] (by decide) ⟨Vk rfl (.sl _ _ _ _ hq0), trivial⟩ trivial
   ·have hF := Xk c5 hF; refine Xc (Ve (Ve (Vb ?_))); exact Yi hF
 ·rintro _ _ _ _ ⟨he, g0, hl1, hw⟩; refine ⟨_, _, _, hw, ?_⟩; exact bodyQ_all he [.sl q0 g0 0 (r.1).length] ⟨rfl, trivial⟩ ⟨g0, rfl, rfl⟩

theorem F_slices_Insert____2_int__2_int_E_len {p0 : List A2_Int} {p1 : Int} {p2 : List A2_Int} {r : List A2_Int × List A2_Int} (hF : F_slices_Insert____2_int__2_int_E p0 p1 p2 = some r) {m0 : Nat} (hm0 : m0 = (p0).length) {m1 : Nat} (hm1 : m1 = (p2).length) : m1 = (r.2).length ∧ True := by
  have h : LP (F_slices_Insert____2_int__2_int_E p0 p1 p2) (fun r => m1 = (r.2).length ∧ True) := by
    unfold F_slices_Insert____2_int__2_int_E; exact (Yl fun x2 h3 => lp_bif (fun c4 => Yh ⟨hm1, trivial⟩) (fun c4 => lp_bif (fun c5 => Yl fun x6 h7 => Yh ⟨hm1, trivial⟩) (fun c5 => lp_none)))
  exact h r hF

theorem F_slices_Insert____2_int__2_int_E_ok {p0 : List A2_Int} {p1 : Int} {p2 : List A2_Int} {r : List A2_Int × List A2_Int} (hF : F_slices_Insert____2_int__2_int_E p0 p1 p2 = some r) {low : List AObj} {q0 q1 w0 w1 : Nat} (hnd : [q0, q1].Nodup) {m0 : Nat} (hm0 : m0 = (p0).length) {m1 : Nat} (hm1 : m1 = (p2).length) (hq0 : low[q0]? = some ⟨37, 2, Ys A2_Int.enc p0, w0⟩) (hq1 : low[q1]? = some ⟨37, 2, Ys A2_Int.enc p2, w1⟩) {n : Nat} (hn : low.length = n) :
    Xu Try.prog 60 [.sl q0 w0 0 (p0).length, .int .i64 p1, .sl q1 w1 0 m1] low fun x low' => x = .sl q0 (w0 + 1) 0 (r.1).length ∧ low' = setL low [(q0, ⟨37, 2, Ys A2_Int.enc r.1, w0 + 1⟩), (q1, ⟨37, 2, Ys A2_Int.enc r.2, w1⟩)] ++ [] := by
  obtain ⟨h1, h2⟩ := bor_start (ps := [(q0, ⟨37, 2, Ys A2_Int.enc p0, w0⟩), (q1, ⟨37, 2, Ys A2_Int.enc p2, w1⟩)]) hnd (borC hq0 (borC hq1 bor0)); exact vcalls_low h1 (F_slices_Insert____2_int__2_int_E_ok0 hF h2 hm0 hm1 hn)

theorem F_slices_Insert____2_int__2_int__ok {p0 : List A2_Int} {p1 : Int} {p2 : List A2_Int} {r : List A2_Int} (hF : F_slices_Insert____2_int__2_int_ p0 p1 p2 = some r) {low : List AObj} {q0 q1 w0 w1 : Nat} (hnd : [q0, q1].Nodup) {m0 : Nat} (hm0 : m0 = (p0).length) {m1 : Nat} (hm1 : m1 = (p2).length) (hq0 : low[q0]? = some ⟨37, 2, Ys A2_Int.enc p0, w0⟩) (hq1 : low[q1]? = some ⟨37, 2, Ys A2_Int.enc p2, w1⟩) {n : Nat} (hn : low.length = n) :
    Xu Try.prog 60 [.sl q0 w0 0 (p0).length, .int .i64 p1, .sl q1 w1 0 m1] low fun x low' => x = .sl q0 (w0 + 1) 0 (r).length ∧ low' = setL low [(q0, ⟨37, 2, Ys A2_Int.enc r, w0 + 1⟩), (q1, ⟨37, 2, Ys A2_Int.enc p2, w1⟩)] ++ [] := by
  unfold F_slices_Insert____2_int__2_int_ at hF
  by_cases hc : 0 ≤ p1 ∧ p1 ≤ (p0.length : Int) ∧ p2.length = 1 ∧ (p0.length + 1) * 16 ≤ 140737488355328 ∧ (p0.length + 1) * 2 ≤ 140737488355328
  · rw [decide_eq_true hc, cond_true] at hF
    injection hF with hF
    subst hF
    obtain ⟨c0, c1, c2, c3, c4⟩ := hc
    by_cases he : p1 = (p0.length : Int)
    · have e : p0.take p1.toNat ++ p2 ++ p0.drop p1.toNat = p0 ++ p2 := by
        rw [he, Int.toNat_natCast, List.take_length, List.drop_length, List.append_nil]
      rw [e]
      refine (F_slices_Insert____2_int__2_int_E_ok (r := (p0 ++ p2, p2)) ?_ hnd hm0 hm1 hq0 hq1 hn).mono ?_
      · subst he
        unfold F_slices_Insert____2_int__2_int_E
        simp [sliI, appI, c2, c3]
      · rintro x low' ⟨rfl, rfl⟩
        exact ⟨rfl, rfl⟩
    · obtain ⟨i, rfl⟩ : ∃ i : Nat, p1 = (i : Int) := ⟨p1.toNat, by omega⟩
      obtain ⟨e0, rfl⟩ := List.length_eq_one_iff.1 c2
      have hne : q0 ≠ q1 := fun h => by simp [h] at hnd
      refine (vcalls_insert kinsert37 (by decide) hne (i := i) (by rw [Yz]; omega) hq0 hq1 (fun x hx => by obtain ⟨y, _, rfl⟩ := List.mem_map.1 hx; exact (A2_Int.enc_lt _)) (A2_Int.enc_lt _) (by rw [Yz]; exact c3) (by rw [Yz]; exact c4) (by rw [Yz]) hm1).mono ?_; rintro x low' ⟨rfl, rfl⟩; refine ⟨?_, ?_⟩
      · rw [Yz]
        simp only [Int.toNat_natCast, List.length_append, List.length_take, List.length_drop, List.length_cons, List.length_nil]
        congr 1
        omega
      · have hq1' : (low.set q0 ⟨37, 2, Ys A2_Int.enc (p0.take (i : Int).toNat ++ [e0] ++ p0.drop (i : Int).toNat), w0 + 1⟩)[q1]? = some ⟨37, 2, Ys A2_Int.enc [e0], w1⟩ := by rw [List.getElem?_set_ne hne]; exact hq1
        simp only [setL, List.append_nil]
        rw [set_same hq1']
        simp
  · rw [decide_eq_false hc, cond_false] at hF
    cases hF

section
open Go.RowKit
set_option maxHeartbeats 4000000
set_option maxRecDepth 100000
theorem del_walk37 (w : World) (b N C i : Nat) (ad : Addr) (cells : Array Value) (h1 : w.heap[b]? = some (.cells cells 37 (0, 0))) (h2 : cells.size = C * 2) (hi : i < N + 1) (hnc : N + 1 ≤ C) (hC : C ≤ maxLen)
    (c1 : ∀ u ∈ cells.toList.take ((N + 1) * 2), u.oneCell' = true) (had : (if C = i + 1 then (⟨b, 0, none⟩ : Addr) else ⟨b, (i + 1) * 2, none⟩) = ad) (hsl : ∀ c, (if C = i + 1 then Value.slice (some ⟨b, 0, none⟩) 0 c else .slice (some ⟨b, (i + 1) * 2, none⟩) 0 c) = .slice (some ad) 0 c) :
    Calls Try.prog 61 #[.slice (some ⟨b, 0, none⟩) (N + 1) C, .int .i64 i, .int .i64 ((i : Int) + 1)] w fun e w' => e = .returned (.slice (some ⟨b, 0, none⟩) N C) ∧
      (w' = (w.setCells b (i * 2) ((cells.toList.take ((N + 1) * 2)).drop ((i + 1) * 2))).setCells b (N * 2) (Builtin.zeroCells ((Value.agg #[.int .i64 0, .int .i64 0]) : Value).cells 1).toList ∨ w' = (w.drew.setCells b (i * 2) ((cells.toList.take ((N + 1) * 2)).drop ((i + 1) * 2))).setCells b (N * 2) (Builtin.zeroCells ((Value.agg #[.int .i64 0, .int .i64 0]) : Value).cells 1).toList) := by
  have hC63 : C ≤ 9223372036854775807 := hC
  obtain ⟨i0, hi0, hz0, hzs, hzb⟩ := info_parts infoE37; obtain ⟨cs, hcs⟩ : ∃ cs, cs = cells.toList.take ((N + 1) * 2) := ⟨_, rfl⟩
  have hcl : cs.length = (N + 1) * 2 := by rw [hcs, List.length_take, Array.length_toList, h2]; omega
  rw [← hcs] at c1 ⊢
  have hrd : ∀ j v, cs[j]? = some v → w.cell? ⟨b, j, none⟩ = some v := fun j v hj => by
    rw [Yg h1, ← Array.getElem?_toList]
    rw [hcs, List.getElem?_take] at hj
    split at hj
    · exact hj
    · cases hj
  have hsp : ∀ j, j < (N + 1) * 2 → (w.cell? ⟨b, j, none⟩).isSome = true := fun j hj => by
    rw [Yg h1, Array.getElem?_eq_getElem (by omega)]; rfl
  have hfz : ∀ j, w.frozen? ⟨b, j, none⟩ = false := fun j => frozen_of_heap h1
  have hzc : ((Value.agg #[.int .i64 0, .int .i64 0]) : Value).cells.size = 2 := by decide
  have hdl : (cs.drop ((i + 1) * 2)).length = (N - i) * 2 := by rw [List.length_drop, hcl]; omega
  have hsrc : ∀ j u, (cs.drop ((i + 1) * 2))[j]? = some u → w.cell? (ad.add j) = some u := fun j u hj => by
    have hj1 := (List.getElem?_eq_some_iff.1 hj).1
    rw [← had, if_neg (by omega), Addr.add_lit]
    exact hrd _ u (by rwa [List.getElem?_drop] at hj)
  have h1c : ∀ u ∈ cs.drop ((i + 1) * 2), u.oneCell' = true := fun u hu => c1 u (List.mem_of_mem_drop hu)
  have hspare : ∀ (W : World), (∀ x, W.cell? x = w.cell? x) → (∀ x, W.frozen? x = w.frozen? x) → ∀ j, j < (cs.drop ((i + 1) * 2)).length → (W.cell? ⟨b, (i * 2) + j, none⟩).isSome = true ∧ W.frozen? ⟨b, (i * 2) + j, none⟩ = false := fun W e1 e2 j hj => by
    rw [e1, e2]
    exact ⟨hsp _ (by omega), hfz _⟩
  have hclr : ∀ (W : World), (∀ x, W.cell? x = (w.setCells b (i * 2) (cs.drop ((i + 1) * 2))).cell? x) → (∀ x, W.frozen? x = (w.setCells b (i * 2) (cs.drop ((i + 1) * 2))).frozen? x) → ∀ ty c, (Builtin.clear_ #[33] ty #[.slice (some ⟨b, N * 2, none⟩) 1 c]).run Try.prog W = .ok (.tuple #[]) (W.setCells b (N * 2) (Builtin.zeroCells ((Value.agg #[.int .i64 0, .int .i64 0]) : Value).cells 1).toList) := fun W e1 e2 ty c => by
    have h := run_clear_sliceK W 33 37 ty (Value.agg #[.int .i64 0, .int .i64 0]) 2 Try.underlying33 Try.zeroValue37 hzc (by decide) b (N * 2) 1 c (by decide)
      (fun j hj => by rw [e1]; exact isSome_setCellsK b (cs.drop ((i + 1) * 2)) (i * 2) w (fun t ht => hsp _ (by omega)) _ (hsp _ (by omega)))
      (fun j hj => by rw [e2, World.frozen?_setCells]; exact hfz _)
    first
      | exact h
      | simpa only [Nat.mul_one] using h
  have hcl1 := hclr (w.setCells b (i * 2) (cs.drop ((i + 1) * 2))) (fun _ => rfl) (fun _ => rfl)
  have hcl2 := hclr (w.drew.setCells b (i * 2) (cs.drop ((i + 1) * 2))) (fun x => by rw [← drew_setCellsJ]; rfl) (fun x => by rw [← drew_setCellsJ]; rfl)
  have mixed : Try.prog.follows .mixedOrders = true := by kernel_rfl
  have hne : ¬ ((i : Int) = (i : Int) + 1) := by omega
  have hb1 : (0 : Int) ≤ (i : Int) + 1 := by omega
  have htn : ((i : Int) + 1).toNat = i + 1 := by omega
  have hb2 : (i : Int) + 1 ≤ (N : Int) + 1 := by omega
  have hb3 : (i : Int) ≤ (i : Int) + 1 := by omega
  have hb4 : i ≤ C := by omega
  have hin : i ≤ N := by omega
  have hCN : ¬ (C = N) := by omega
  have hrN : i + (N - i) = N := by omega
  clear hcs hrd hsp hfz
  by_cases hCj : C = i + 1
  · have hadr : ad = ⟨b, 0, none⟩ := by rw [← had, if_pos hCj]
    subst hadr hCj
    clear had hsl
    go_enter Try.func61, Try.ntmps61
    go_wp2
    go_region_law (refine step_append_rm rfl _ _ 33 rfl 37 i0 2 Try.underlying33 hi0 hzs b i (i + 1) (by simp [Act.eval, Act.put]) ⟨b, 0, none⟩ (N - i) 0 (cs.drop ((i + 1) * 2)) (by first | (simp [Act.eval, Act.put]; done) | (simp [Act.eval, Act.put]; omega)) hdl (fun j u h => hsrc j u h) h1c N (i * 2) hrN (by omega) (by omega) (hspare _ (fun _ => rfl) (fun _ => rfl)) ?_)
    go_wp2_with (simp only [hcl1, hcl2])
    go_ret
    first | exact ⟨rfl, .inr rfl⟩ | exact ⟨rfl, .inr (by simp [Value.cells])⟩
  · have hadr : ad = ⟨b, (i + 1) * 2, none⟩ := by rw [← had, if_neg hCj]
    subst hadr
    clear had hsl
    go_enter Try.func61, Try.ntmps61
    go_wp2
    go_region_law (refine step_append_rm rfl _ _ 33 rfl 37 i0 2 Try.underlying33 hi0 hzs b i C (by simp [Act.eval, Act.put]) ⟨b, (i + 1) * 2, none⟩ (N - i) (C - (i + 1)) (cs.drop ((i + 1) * 2)) (by simp [Act.eval, Act.put, hCj]) hdl (fun j u h => hsrc j u h) h1c N (i * 2) hrN (by omega) (by omega) (hspare _ (fun _ => rfl) (fun _ => rfl)) ?_)
    go_wp2_with (simp only [hcl1, hcl2])
    go_ret
    first | exact ⟨rfl, .inr rfl⟩ | exact ⟨rfl, .inr (by simp [Value.cells])⟩
theorem kdelete37 : KDelete Try.prog 61 37 2 := by
  intro w b n C i cells h1 h2 hi hnc hC c1
  obtain ⟨N, rfl⟩ : ∃ N, n = N + 1 := ⟨n - 1, by omega⟩
  have hcl : (cells.toList.take ((N + 1) * 2)).length = (N + 1) * 2 := by rw [List.length_take, Array.length_toList, h2]; omega
  refine (del_walk37 w b N C i _ cells h1 h2 hi hnc hC c1 rfl (fun c => by split <;> rfl)).mono ?_; rintro e w' ⟨rfl, hw⟩; refine ⟨rfl, ?_⟩
  have hz : (Builtin.zeroCells ((Value.agg #[.int .i64 0, .int .i64 0]) : Value).cells 1).toList.length = 2 := by rw [Array.length_toList, size_zeroCells]; decide
  have key : ∀ W, RowPost 37 2 w W b C b C (cells.toList.take ((N + 1) * 2)) → RowPost 37 2 w ((W.setCells b (i * 2) ((cells.toList.take ((N + 1) * 2)).drop ((i + 1) * 2))).setCells b (N * 2) (Builtin.zeroCells ((Value.agg #[.int .i64 0, .int .i64 0]) : Value).cells 1).toList) b C b C ((cells.toList.take ((N + 1) * 2)).take (i * 2) ++ (cells.toList.take ((N + 1) * 2)).drop ((i + 1) * 2)) := by
    intro W hW
    generalize cells.toList.take ((N + 1) * 2) = cs at hcl hW ⊢
    have hdl : (cs.drop ((i + 1) * 2)).length = (N - i) * 2 := by rw [List.length_drop, hcl]; omega
    have r1 := hW.set (o := (i * 2)) (vs := cs.drop ((i + 1) * 2)) (by omega) (by omega) (by simp only [List.length_append, List.length_take, List.length_drop]; omega)
    have r2 := r1.set (o := N * 2) (vs := (Builtin.zeroCells ((Value.agg #[.int .i64 0, .int .i64 0]) : Value).cells 1).toList) (by simp only [List.length_append, List.length_take, List.length_drop]; omega) (by omega) (by rw [List.length_append, List.length_append, hz]; simp only [List.length_append, List.length_take, List.length_drop]; omega)
    have e0 : i * 2 = (i * 2) := by omega
    have e1 : (i + 1) * 2 = ((i + 1) * 2) := by omega
    have hl : (cs.take (i * 2) ++ cs.drop ((i + 1) * 2)).length = N * 2 := by rw [List.length_append, List.length_take, hdl]; omega
    refine ⟨r2.os, r2.tape, r2.output, r2.size, r2.others, r2.place, r2.block, r2.room, by rw [e0, e1, hl]; omega, fun j u hj => r2.holds j u ?_⟩
    rw [e0, e1] at hj
    have hjl := (List.getElem?_eq_some_iff.1 hj).1
    rw [List.append_assoc, List.getElem?_append_left (by rw [List.length_take, List.length_append, hl]; omega), List.getElem?_take_of_lt (by omega), List.getElem?_append_left hjl]
    exact hj
  rcases hw with rfl | rfl
  · exact key _ (rowPost_start h1 h2 hC (by omega))
  · exact key _ (rowPost_start h1 h2 hC (by omega)).drew
end

theorem F_slices_Delete____2_int__2_int__ok {p0 : List A2_Int} {p1 : Int} {p2 : Int} {r : List A2_Int} (hF : F_slices_Delete____2_int__2_int_ p0 p1 p2 = some r) {low : List AObj} {q0 w0 : Nat} (hnd : [q0].Nodup) {m0 : Nat} (hm0 : m0 = (p0).length) (hq0 : low[q0]? = some ⟨37, 2, Ys A2_Int.enc p0, w0⟩) {n : Nat} (hn : low.length = n) :
    Xu Try.prog 61 [.sl q0 w0 0 (p0).length, .int .i64 p1, .int .i64 p2] low fun x low' => x = .sl q0 (w0 + 1) 0 (r).length ∧ low' = setL low [(q0, ⟨37, 2, Ys A2_Int.enc r, w0 + 1⟩)] ++ [] := by
  unfold F_slices_Delete____2_int__2_int_ at hF
  by_cases hc : 0 ≤ p1 ∧ p1 < (p0.length : Int) ∧ p2 = p1 + 1
  · rw [decide_eq_true hc, cond_true] at hF
    injection hF with hF
    subst hF
    obtain ⟨c0, c1, rfl⟩ := hc; obtain ⟨i, rfl⟩ : ∃ i : Nat, p1 = (i : Int) := ⟨p1.toNat, by omega⟩; refine (vcalls_delete kdelete37 (by decide) (i := i) (by rw [Yz]; omega) hq0 (fun x hx => by obtain ⟨y, _, rfl⟩ := List.mem_map.1 hx; exact (A2_Int.enc_lt _)) (by rw [Yz])).mono ?_; rintro x low' ⟨rfl, rfl⟩; refine ⟨?_, ?_⟩
    · rw [Yz]
      simp only [Int.toNat_natCast, List.length_append, List.length_take, List.length_drop]
      congr 1
      omega
    · simp [setL]
  · rw [decide_eq_false hc, cond_false] at hF
    cases hF

theorem F_cmp_Or_int__ok {p0 : List Int} {r : Int} (hF : F_cmp_Or_int_ p0 = some r) (low : List AObj) :
    Xu Try.prog 62 [.vs 1 (Ys (Yt .i64) p0)] low fun x low' => x = .int .i64 r ∧ low' = low := by
 refine Vw (nt := 18) (rs := [.tmp 2]) Try.func62 rfl rfl (Yw rfl) rfl (Vs (Q' := FnE (fun E' lw lc => Xt E' lw lc [(2, .int .i64 r)] low [])) ?_ ?_)
 ·unfold F_cmp_Or_int_ at hF; refine Ve (Vb (Va (Vv rfl) rfl (Vc (Ve (Vb (Va (Vv rfl) rfl (Vc (Ve ?_)))))))); refine Ve (Vb (Va (Yc rfl) rfl (Va (Xw (Xq rfl rfl te_22) (congrArg (fun n : Nat => Yt .i64 (n : Int)) (Yz _))) rfl (Va (Vm rfl) rfl (Vc (Xl ?_)))))); obtain ⟨o2, ho2, hF⟩ := Yf hF; refine Vs (Yn (F_cmp_Or_int__L1 p0) (fun s1 E' lw lc => Xt E' lw lc [(3, .int .i64 0), (6, .vs 1 (Ys (Yt .i64) p0)), (7, .int .i64 ((p0).length : Int)), (8, .int .i64 s1)] low []) (Sum.elim (fun j3 => OnlyE .ret (fun E' lw lc => Xt E' lw lc [(2, .int .i64 j3)] low [])) (fun j4 => OnlyE (.exit 0) (fun E' lw lc => Xt E' lw lc [(3, .int .i64 0)] low []))) ho2 ?_ (by rintro (_|_) _ _ _ ⟨h, _⟩ <;> cases h) ?_) ?_
  ·exact Vp ⟨rfl, rfl, rfl, rfl, trivial⟩
  ·rintro s1 os1 _ _ _ hF hw; unfold F_cmp_Or_int__L1 at hF; refine Yq hw (Ve (Vb (Va (rd_lss rfl rfl) rfl (Vc (Ve (Vy rfl (fun c5 => ?_) (fun c5 => ?_)))))))
   ·have hF := Xj c5 hF; refine Xc (Ve (Xl (Ve (Vb ?_)))); obtain ⟨x6, h7, hF⟩ := Yf hF; refine Va (Xw (rd_ixV rfl rfl h7 te_22 ts_3) (v' := .vptr [.int .i64 x6] 0) rfl) rfl (Va (rd_loadV1 rfl ta_3 rfl) rfl (Va (Vv rfl) rfl (Vc (Ve (Vb (Va (Vm rfl) rfl (Va (Vm rfl) rfl (Va (rd_neq rfl rfl) rfl ?_)))))))); refine Vc (Vy rfl (fun c8 => ?_) (fun c8 => ?_))
    ·have hF := Xj c8 hF; refine Ve (Vb (Va (Vm rfl) rfl (Va (Vv rfl) rfl (Vc (Vx ?_))))); obtain rfl := Yv hF; refine Xa ?_; exact Vp ⟨rfl, trivial⟩
    ·have hF := Xk c8 hF; refine Xc (Vb (Va (rd_add rfl rfl rfl) rfl (Va (Vm rfl) rfl (Vc ?_)))); obtain rfl := Yv hF; refine Xa ?_; exact Vp ⟨rfl, rfl, rfl, rfl, trivial⟩
   ·have hF := Xk c5 hF; refine Yr ?_; obtain rfl := Yv hF; refine Xa ?_; exact Vp ⟨rfl, trivial⟩
  ·rcases o2 with j3 | j4
   ·replace hF := elimL hF; rintro _ _ _ _ ⟨rfl, hw⟩; refine ⟨_, _, _, hw, ?_⟩; obtain rfl := Yv hF; refine fnR ?_; exact Vp ⟨rfl, trivial⟩
   ·replace hF := elimR hF; rintro _ _ _ _ ⟨rfl, hw⟩; refine ⟨_, _, _, hw, ?_⟩; refine Ve (Vb (Va (Vm rfl) rfl (Va (Vv rfl) rfl (Vc (Vx ?_))))); obtain rfl := Yv hF; refine fnR ?_; exact Vp ⟨rfl, trivial⟩
 ·rintro _ _ _ _ ⟨he, hw⟩; refine ⟨_, _, _, hw, ?_⟩; exact Xr he [.int .i64 r] ⟨rfl, trivial⟩ (.int _ _) ⟨rfl, rfl⟩

theorem F_controlroom_order_ok {p0 : A2_Int} {p1 : A2_Int} {r : Int} (hF : F_controlroom_order p0 p1 = some r) (low : List AObj) :
    Xu Try.prog 34 [.agg [.int .i64 p0.a0, .int .i64 p0.a1], .agg [.int .i64 p1.a0, .int .i64 p1.a1]] low fun x low' => x = .int .i64 r ∧ low' = low := by
 refine Vw (nt := 17) (rs := [.tmp 4]) Try.func34 rfl rfl (Yw rfl) rfl (Vs (Q' := FnE (fun E' lw lc => Xt E' lw lc [(4, .int .i64 r)] low [])) ?_ ?_)
 ·unfold F_controlroom_order at hF; refine Ve (Vb (Vj (vef_boxN rfl rfl (v := .agg [.int .i64 p0.a0, .int .i64 p0.a1]) rfl rfl (Yx _) rfl rfl) rfl (Vj (vef_boxN rfl rfl (v := .agg [.int .i64 p1.a0, .int .i64 p1.a1]) rfl rfl (Yx _) rfl rfl) rfl (Va (Vv rfl) rfl (Vc (Ve ?_)))))); obtain ⟨x1, h2, hF⟩ := Yf hF; obtain ⟨x3, h4, hF⟩ := Yf hF; obtain ⟨x5, h6, hF⟩ := Yf hF; refine vwp_drawn0 [[], [0], [], [2], [0, 1, 2, 3], [], [5], [], [7], (List.range 9), (List.range 10), (List.range 11), (List.range 12)] mixed (by kernel_rfl) rfl (Xb rfl rfl (Vq (q := 0) rfl rfl rfl (by decide) tr_37 ts_3) (Xb rfl rfl (Vi rfl (Vg rfl rfl) rfl ta_3 rfl) (Xb rfl rfl (Vq (q := 0) rfl rfl rfl (by decide) tr_37 ts_3) (Xb rfl rfl (Vi rfl (Vg rfl rfl) rfl ta_3 rfl) (dn1 rfl rfl (nt_of (Vz rfl Try.call32 (F_cmp_Compare_int__ok h2 _))) (Xb rfl rfl (Vq (q := 1) rfl rfl rfl (by decide) tr_37 ts_3) (Xb rfl rfl (Vi rfl (Vg rfl rfl) rfl ta_3 rfl) (Xb rfl rfl (Vq (q := 1) rfl rfl rfl (by decide) tr_37 ts_3) ?_)))))))); refine Xb rfl rfl (Vi rfl (Vg rfl rfl) rfl ta_3 rfl) (dn1 rfl rfl (nt_of (Vz rfl Try.call32 (F_cmp_Compare_int__ok h4 _))) (dn1 rfl rfl (nt_of (vef_litF (es := Ys (Yt .i64) [x1, x3]) ⟨rfl, rfl, rfl, rfl, trivial⟩ rfl rfl (nt_all rfl) te_22 ts_3 tz_3 rfl rfl (Yx _) (by decide) (lt_map (fun _ => .int _ _)))) (dn1 rfl rfl (nt_of (Vz rfl Try.call62 (F_cmp_Or_int__ok h6 _))) (Xb rfl rfl (Vv rfl) (Xg (Vx ?_)))))); obtain rfl := Yv hF; refine fnR ?_; exact Vl rfl [] (by decide) ⟨Vk rfl (.int _ _), trivial⟩ trivial
 ·rintro _ _ _ _ ⟨he, hw⟩; refine ⟨_, _, _, hw, ?_⟩; exact Xr he [.int .i64 r] ⟨rfl, trivial⟩ (.int _ _) ⟨rfl, rfl⟩

theorem F_slices_BinarySearchFunc___int_int_int___cmp_Compare_int__ok {p0 : List Int} {p1 : Int} {r : Int × Bool} (hF : F_slices_BinarySearchFunc___int_int_int___cmp_Compare_int_ p0 p1 = some r) (low : List AObj) :
    Xu Try.prog 55 [.vs 1 (Ys (Yt .i64) p0), .int .i64 p1, .fn 32 [] []] low fun x low' => x = .tup [.int .i64 r.1, .bool r.2] ∧ low' = low := by
 refine Vw (nt := 49) (rs := [.tmp 6, .tmp 7]) Try.func55 rfl rfl (Yw rfl) rfl (Vs (Q' := FnE (fun E' lw lc => Xt E' lw lc [(6, .int .i64 r.1), (7, .bool r.2)] low [])) ?_ ?_)
 ·unfold F_slices_BinarySearchFunc___int_int_int___cmp_Compare_int_ at hF; refine Ve (Vb (Va (Vv rfl) rfl (Va (Xm rfl) rfl (Vc (Ve (Vb (Va (Yc rfl) rfl (Va (Xw (Xq rfl rfl te_22) (congrArg (fun n : Nat => Yt .i64 (n : Int)) (Yz _))) rfl ?_)))))))); refine Va (Vv rfl) rfl (Vc (Ve (Vb (Va (Vm rfl) rfl (Va (Vv rfl) rfl (Va (Vv rfl) rfl (Vc (Ve ?_)))))))); refine Xl ?_; obtain ⟨o2, ho2, hF⟩ := Yf hF; refine Vs (Yn (F_slices_BinarySearchFunc___int_int_int___cmp_Compare_int__L1 p0 p1) (fun s1 E' lw lc => Xt E' lw lc [(0, .vs 1 (Ys (Yt .i64) p0)), (1, .int .i64 p1), (2, .fn 32 [] []), (8, .int .i64 ((p0).length : Int)), (9, .int .i64 s1.2), (10, .int .i64 s1.1)] low []) (fun o2 => OnlyE (.exit 0) (fun E' lw lc => Xt E' lw lc [(0, .vs 1 (Ys (Yt .i64) p0)), (1, .int .i64 p1), (2, .fn 32 [] []), (8, .int .i64 ((p0).length : Int)), (9, .int .i64 o2)] low [])) ho2 ?_ (by rintro _ _ _ _ ⟨h, _⟩ <;> cases h) ?_) ?_
  ·exact Vp ⟨rfl, rfl, rfl, rfl, rfl, rfl, trivial⟩
  ·rintro s1 os1 _ _ _ hF hw; unfold F_slices_BinarySearchFunc___int_int_int___cmp_Compare_int__L1 at hF; refine Yq hw (Ve (Ve (Vb (Va (Vm rfl) rfl (Va (Vm rfl) rfl (Va (rd_lss rfl rfl) rfl (Vc (Vy rfl (fun c3 => ?_) (fun c3 => ?_)))))))))
   ·have hF := Xj c3 hF; refine Xc (Xl (Ve (Vb (Va (Vm rfl) rfl (Va (Vm rfl) rfl (Va (rd_add rfl rfl rfl) rfl (Va (rd_conv rfl us_3 ti_45 rfl) rfl (Va (rd_shrC (c := 2) rfl rfl (by decide) rfl (by decide)) rfl ?_)))))))); refine Va (rd_conv rfl us_45 ti_3 rfl) rfl (Va (Vv rfl) rfl (Vc (Ve (Vb ?_)))); obtain ⟨x4, h5, hF⟩ := Yf hF; obtain ⟨x6, h7, hF⟩ := Yf hF; refine Va (rd_mvF rfl) rfl (Va (Yc rfl) rfl (Va (Vm rfl) rfl (Va (Xw (rd_ixV rfl rfl h5 te_22 ts_3) (v' := .vptr [.int .i64 x4] 0) rfl) rfl (Va (rd_loadV1 rfl ta_3 rfl) rfl (Va (Vm rfl) rfl (Vj (Vz rfl Try.call32 (F_cmp_Compare_int__ok h7 _)) rfl (Va (rd_lss rfl rfl) rfl (Vc ?_)))))))); refine Vy rfl (fun c8 => ?_) (fun c8 => ?_)
    ·have hF := Xj c8 hF; refine Vb (Va (Vm rfl) rfl (Va (rd_add rfl rfl rfl) rfl (Va (Vv rfl) rfl (Vc ?_)))); obtain rfl := Yv hF; refine Xa ?_; exact Vp ⟨rfl, rfl, rfl, rfl, rfl, rfl, trivial⟩
    ·have hF := Xk c8 hF; refine Vb (Va (Vm rfl) rfl (Va (Vv rfl) rfl (Vc ?_))); obtain rfl := Yv hF; refine Xa ?_; exact Vp ⟨rfl, rfl, rfl, rfl, rfl, rfl, trivial⟩
   ·have hF := Xk c3 hF; refine Yr ?_; obtain rfl := Yv hF; refine Xa ?_; exact Vp ⟨rfl, rfl, rfl, rfl, rfl, trivial⟩
  ·rintro _ _ _ _ ⟨rfl, hw⟩; refine ⟨_, _, _, hw, ?_⟩; refine Ve (Vb ?_)
   rcases Yy (decide (o2 < ((p0).length : Int))) with c9 | c9
   ·have hF := Xj c9 hF; obtain ⟨x10, h11, hF⟩ := Yf hF; obtain ⟨x12, h13, hF⟩ := Yf hF; refine Va (Vm rfl) rfl (Va (Vm rfl) rfl (Va (Vm rfl) rfl (Va (rd_lss rfl rfl) rfl (Va (Vu rfl) rfl (Xy rfl rfl c9 (Va (rd_mvF rfl) rfl (Xy rfl rfl c9 (Va (Yc rfl) rfl ?_)))))))); refine Xy rfl rfl c9 (Va (Vm rfl) rfl (Xy rfl rfl c9 (Va (Xw (rd_ixV rfl rfl h11 te_22 ts_3) (v' := .vptr [.int .i64 x10] 0) rfl) rfl (Xy rfl rfl c9 (Va (rd_loadV1 rfl ta_3 rfl) rfl (Xy rfl rfl c9 (Va (Vm rfl) rfl (Xy rfl rfl c9 ?_)))))))); refine Vj (Vz rfl Try.call32 (F_cmp_Compare_int__ok h13 _)) rfl (Xy rfl rfl c9 (Va (Xs rfl rfl) rfl (Va (Xh (congrArg Yu c9) rfl) rfl (Va (Vv rfl) rfl (Va (Xm rfl) rfl (Vc (Vx ?_))))))); obtain rfl := Yv hF; refine fnR ?_; exact Vp ⟨rfl, rfl, trivial⟩
   ·have hF := Xk c9 hF; refine Va (Vm rfl) rfl (Va (Vm rfl) rfl (Va (Vm rfl) rfl (Va (rd_lss rfl rfl) rfl (Va (Vu rfl) rfl (Vf rfl rfl (neF c9) rfl (Vf rfl rfl (neF c9) rfl (Vf rfl rfl (neF c9) rfl (Vf rfl rfl (neF c9) rfl ?_)))))))); refine Vf rfl rfl (neF c9) rfl (Vf rfl rfl (neF c9) rfl (Vf rfl rfl (neF c9) rfl (Vf rfl rfl (neF c9) rfl (Va (Xi (congrArg Yu c9) rfl) rfl (Va (Vv rfl) rfl (Va (Xm rfl) rfl (Vc (Vx ?_)))))))); obtain rfl := Yv hF; refine fnR ?_; exact Vp ⟨rfl, rfl, trivial⟩
 ·rintro _ _ _ _ ⟨he, hw⟩; refine ⟨_, _, _, hw, ?_⟩; exact Xr he [.int .i64 r.1, .bool r.2] ⟨rfl, rfl, trivial⟩ ((lt_tup ⟨.int _ _, .bool _, trivial⟩)) ⟨rfl, rfl⟩

theorem F_controlroom_set_int___cmp_Compare_int__ok0 {p0 : List Int} {p1 : Int} {p3 : Bool} {r : List Int} (hF : F_controlroom_set_int___cmp_Compare_int_ p0 p1 p3 = some r) {low0 : List AObj} {q0 w0 : Nat} (hB : Bor low0 [q0]) {m0 : Nat} (hm0 : m0 = (p0).length) {n : Nat} (hn : low0.length = n) :
    Xu Try.prog 31 [.sl q0 w0 0 (p0).length, .int .i64 p1, .fn 32 [] [], .bool p3] (setL low0 [(q0, ⟨3, 1, Ys (Yt .i64) p0, w0⟩)]) fun x low' => x = .sl q0 (w0 + 1) 0 (r).length ∧ low' = setL low0 [(q0, ⟨3, 1, Ys (Yt .i64) r, w0 + 1⟩)] ++ [] := by
 refine vcalls_norm (G := Nat) (X := fun γ => .sl q0 γ 0 (r).length) (LW := fun γ => setL low0 [(q0, ⟨3, 1, Ys (Yt .i64) r, γ⟩)] ++ []) ?_ fun γ => ⟨nos_B hB hn rfl rfl rfl ⟨⟨rfl, no_map (fun _ => .int _ _) (.inr (ver_up (get_B0 hB rfl 0 rfl) (Nat.lt_succ_self _)))⟩, trivial⟩ trivial, nv_sl (get_B hB rfl 0 rfl) (get_B hB rfl 0 rfl) rfl rfl⟩; refine Vw (nt := 41) (rs := [.tmp 8]) Try.func31 rfl rfl (Yw rfl) rfl ?_
 subst hm0
 have hq0 : q0 < n := hB.ltN hn 0 rfl
 refine Vs (Q' := FnE (fun E' lw lc => ∃ g0 : Nat, Xt E' lw lc [(8, .sl q0 g0 0 (r).length)] (setL low0 [(q0, ⟨3, 1, Ys (Yt .i64) r, g0⟩)]) [])) ?_ ?_
 ·unfold F_controlroom_set_int___cmp_Compare_int_ at hF; refine Ve (Vb (Vj (vef_nilsN (lenS hn) rfl 3 1 (Yx _) (rd_asN rfl)) rfl (Vc (Ve (Vb ?_))))); obtain ⟨x1, h2, hF⟩ := Yf hF; refine Va (Xo rfl) rfl (Va (Vm rfl) rfl (Va (rd_mvF rfl) rfl (Vj (vef_callB (vs := [.vs 1 (Ys (Yt .i64) p0), .int .i64 p1, .fn 32 [] []]) rfl Try.call55 ⟨view_sl rfl (Yb hB rfl 0 rfl) rfl rfl (lt_map (fun _ => .int _ _)) (full_take rfl), view_same rfl (.int _ _), view_same rfl (lt_fn trivial), trivial⟩ ((F_slices_BinarySearchFunc___int_int_int___cmp_Compare_int__ok h2 []).mono fun _ _ h => h.1) (sc_tup ⟨(.int _ _), (.bool _), trivial⟩)) rfl (Va (rd_mvT rfl) rfl (Va (Ye rfl rfl) rfl (Va (Ye rfl rfl) rfl (Va (Vv rfl) rfl (Va (Xm rfl) rfl ?_)))))))); refine Vc (Ve (Xl (Ve ?_))); obtain ⟨o3, ho3, hF⟩ := Yf hF; refine Vs (Q' := (fun o3 => OnlyE .normal (fun E' lw lc => Xt E' lw lc [(0, .sl q0 w0 0 (p0).length), (1, .int .i64 p1), (3, .bool p3), (9, .int .i64 x1.1), (10, .bool x1.2), (18, .bool o3)] (setL low0 [(q0, ⟨3, 1, Ys (Yt .i64) p0, w0⟩)]) [])) o3) ?_ ?_
  ·replace hF := ho3; refine Vb ?_
   rcases Yy p3 with c4 | c4
   ·have hF := Xj c4 hF; refine Va (Vu rfl) rfl (Va (Vu rfl) rfl (Xy rfl rfl c4 (Va (Vu rfl) rfl (Xy rfl rfl c4 (Va (rd_not rfl) rfl (Va (Xh (congrArg Yu c4) rfl) rfl (Va (Xm rfl) rfl (Vc ?_)))))))); obtain rfl := Yv hF; refine Xa ?_; exact Vl (lenS hn) [] (by decide) ⟨Vk rfl (.sl _ _ _ _ hq0), Vk rfl (.int _ _), Vk rfl (.bool _), Vk rfl (.int _ _), Vk rfl (.bool _), Vk rfl (.bool _), trivial⟩ trivial
   ·have hF := Xk c4 hF; refine Va (Vu rfl) rfl (Va (Vu rfl) rfl (Vf rfl rfl (neF c4) rfl (Vf rfl rfl (neF c4) rfl (Va (Xi (congrArg Yu c4) rfl) rfl (Va (Xm rfl) rfl (Vc ?_)))))); obtain rfl := Yv hF; refine Xa ?_; exact Vl (lenS hn) [] (by decide) ⟨Vk rfl (.sl _ _ _ _ hq0), Vk rfl (.int _ _), Vk rfl (.bool _), Vk rfl (.int _ _), Vk rfl (.bool _), Vk rfl (.bool _), trivial⟩ trivial
  ·rintro _ _ _ _ ⟨rfl, hw⟩; refine ⟨_, _, _, hw, ?_⟩; refine Vy rfl (fun c5 => ?_) (fun c5 => ?_)
   ·have hF := Xj c5 hF; refine Ve (Vb ?_); obtain ⟨x6, h7, hF⟩ := Yf hF; refine Va (Xo rfl) rfl (Va (Vm rfl) rfl (Va (Vm rfl) rfl (Vj (vef_litN (lenS hn) rfl (es := Ys (Yt .i64) [p1]) ⟨rfl, rfl, trivial⟩ rfl rfl (nt_all rfl) te_22 ts_3 tz_3 rfl rfl (Yx _) (by decide)) rfl (Vj (vef_callS (ps := [(q0, ⟨3, 1, Ys (Yt .i64) x6, w0 + 1⟩), ((n + 0), ⟨3, 1, Ys (Yt .i64) [p1], 0⟩)]) (r := .sl q0 (w0 + 1) 0 (x6).length) (os := []) (low1 := (setL low0 [(q0, ⟨3, 1, Ys (Yt .i64) x6, w0 + 1⟩)])) (loc1 := [⟨3, 1, Ys (Yt .i64) [p1], 0⟩]) (loc2 := [⟨3, 1, Ys (Yt .i64) [p1], 0⟩]) rfl Try.call56 (F_slices_Insert___int_int__ok h7 (nd1 (na1 (ne_low hq0) na0) (nd1 na0 nd0)) (rfl : (p0).length = _) (rfl : ([p1]).length = _) (get_B hB rfl 0 rfl) (get_N (lenS hn) rfl) (Yo (lenS hn) rfl)) (sets_B (ps0' := [(q0, ⟨3, 1, Ys (Yt .i64) x6, w0 + 1⟩)]) hB rfl 0 rfl (Vr (fun _ => .int _ _)) rfl (sets_own (loc2 := [⟨3, 1, Ys (Yt .i64) [p1], 0⟩]) (lenS hn) 0 rfl sets_nil)) rfl) rfl (Va (Ym rfl) rfl (Vc (Vx ?_))))))); obtain rfl := Yv hF; refine And.intro (.inr rfl) (Exists.intro (w0 + 1) ?_); exact Vl (lenS hn) [] (by decide) ⟨Vk rfl (.sl _ _ _ _ hq0), trivial⟩ trivial
   ·have hF := Xk c5 hF; refine Ve ?_; obtain ⟨o8, ho8, hF⟩ := Yf hF; refine Vs (Q' := (fun o8 => OnlyE .normal (fun E' lw lc => Xt E' lw lc [(0, .sl q0 w0 0 (p0).length), (9, .int .i64 x1.1), (29, .bool o8)] (setL low0 [(q0, ⟨3, 1, Ys (Yt .i64) p0, w0⟩)]) [])) o8) ?_ ?_
    ·replace hF := ho8; refine Vb ?_
     rcases Yy (!p3) with c9 | c9
     ·have hF := Xj c9 hF; refine Va (Vu rfl) rfl (Va (rd_not rfl) rfl (Va (Vu rfl) rfl (Xy rfl rfl c9 (Va (Vu rfl) rfl (Va (Xh (congrArg Yu c9) rfl) rfl (Va (Xm rfl) rfl (Vc ?_))))))); obtain rfl := Yv hF; refine Xa ?_; exact Vp ⟨rfl, rfl, rfl, trivial⟩
     ·have hF := Xk c9 hF; refine Va (Vu rfl) rfl (Va (rd_not rfl) rfl (Va (Vu rfl) rfl (Vf rfl rfl (neF c9) rfl (Va (Xi (congrArg Yu c9) rfl) rfl (Va (Xm rfl) rfl (Vc ?_)))))); obtain rfl := Yv hF; refine Xa ?_; exact Vp ⟨rfl, rfl, rfl, trivial⟩
    ·rintro _ _ _ _ ⟨rfl, hw⟩; refine ⟨_, _, _, hw, ?_⟩; refine Vy rfl (fun c10 => ?_) (fun c10 => ?_)
     ·have hF := Xj c10 hF; refine Ve (Vb ?_); obtain ⟨x11, h12, hF⟩ := Yf hF; refine Va (Xo rfl) rfl (Va (Vm rfl) rfl (Va (Vm rfl) rfl (Va (rd_add rfl rfl rfl) rfl (Vj (vef_callS (ps := [(q0, ⟨3, 1, Ys (Yt .i64) x11, w0 + 1⟩)]) (r := .sl q0 (w0 + 1) 0 (x11).length) (os := []) (low1 := (setL low0 [(q0, ⟨3, 1, Ys (Yt .i64) x11, w0 + 1⟩)])) (loc1 := []) (loc2 := []) rfl Try.call57 (F_slices_Delete___int_int__ok h12 (nd1 na0 nd0) (rfl : (p0).length = _) (get_B hB rfl 0 rfl) (Yo (lenS hn) rfl)) (sets_B (ps0' := [(q0, ⟨3, 1, Ys (Yt .i64) x11, w0 + 1⟩)]) hB rfl 0 rfl (Vr (fun _ => .int _ _)) rfl sets_nil) rfl) rfl (Va (Ym rfl) rfl (Vc (Vx ?_))))))); obtain rfl := Yv hF; refine And.intro (.inr rfl) (Exists.intro (w0 + 1) ?_); exact Vp ⟨rfl, trivial⟩
     ·have hF := Xk c10 hF; refine Xc (Ve (Vb (Va (Xo rfl) rfl (Va (Ym rfl) rfl (Vc (Vx ?_)))))); obtain rfl := Yv hF; refine And.intro (.inr rfl) (Exists.intro w0 ?_); exact Vp ⟨rfl, trivial⟩
 ·rintro _ _ _ _ ⟨he, g0, hw⟩; refine ⟨_, _, _, hw, ?_⟩; exact bodyQ_all he [.sl q0 g0 0 (r).length] ⟨rfl, trivial⟩ ⟨g0, rfl, rfl⟩

theorem F_controlroom_set_int___cmp_Compare_int__len {p0 : List Int} {p1 : Int} {p3 : Bool} {r : List Int} (hF : F_controlroom_set_int___cmp_Compare_int_ p0 p1 p3 = some r) {m0 : Nat} (hm0 : m0 = (p0).length) : True := by
  have h : LP (F_controlroom_set_int___cmp_Compare_int_ p0 p1 p3) (fun r => True) := by
    unfold F_controlroom_set_int___cmp_Compare_int_; exact (Yl fun x1 h2 => lp_bind (Q := fun o3 => True) (lp_bif (fun c4 => Yh trivial) (fun c4 => Yh trivial)) (fun o3 _ => lp_bif (fun c5 => Yl fun x6 h7 => Yh trivial) (fun c5 => lp_bind (Q := fun o8 => True) (lp_bif (fun c9 => Yh trivial) (fun c9 => Yh trivial)) (fun o8 _ => lp_bif (fun c10 => Yl fun x11 h12 => Yh trivial) (fun c10 => Yh trivial)))))
  exact h r hF

theorem F_controlroom_set_int___cmp_Compare_int__ok {p0 : List Int} {p1 : Int} {p3 : Bool} {r : List Int} (hF : F_controlroom_set_int___cmp_Compare_int_ p0 p1 p3 = some r) {low : List AObj} {q0 w0 : Nat} (hnd : [q0].Nodup) {m0 : Nat} (hm0 : m0 = (p0).length) (hq0 : low[q0]? = some ⟨3, 1, Ys (Yt .i64) p0, w0⟩) {n : Nat} (hn : low.length = n) :
    Xu Try.prog 31 [.sl q0 w0 0 (p0).length, .int .i64 p1, .fn 32 [] [], .bool p3] low fun x low' => x = .sl q0 (w0 + 1) 0 (r).length ∧ low' = setL low [(q0, ⟨3, 1, Ys (Yt .i64) r, w0 + 1⟩)] ++ [] := by
  obtain ⟨h1, h2⟩ := bor_start (ps := [(q0, ⟨3, 1, Ys (Yt .i64) p0, w0⟩)]) hnd (borC hq0 bor0); exact vcalls_low h1 (F_controlroom_set_int___cmp_Compare_int__ok0 hF h2 hm0 hn)

theorem F_slices_BinarySearchFunc____2_int__2_int__2_int___controlroom_order_ok {p0 : List A2_Int} {p1 : A2_Int} {r : Int × Bool} (hF : F_slices_BinarySearchFunc____2_int__2_int__2_int___controlroom_order p0 p1 = some r) (low : List AObj) :
    Xu Try.prog 59 [.vs 2 (Ys A2_Int.enc p0), .agg [.int .i64 p1.a0, .int .i64 p1.a1], .fn 34 [] []] low fun x low' => x = .tup [.int .i64 r.1, .bool r.2] ∧ low' = low := by
 refine Vw (nt := 49) (rs := [.tmp 6, .tmp 7]) Try.func59 rfl rfl (Yw rfl) rfl (Vs (Q' := FnE (fun E' lw lc => Xt E' lw lc [(6, .int .i64 r.1), (7, .bool r.2)] low [])) ?_ ?_)
 ·unfold F_slices_BinarySearchFunc____2_int__2_int__2_int___controlroom_order at hF; refine Ve (Vb (Vj (vef_boxN rfl rfl (v := .agg [.int .i64 p1.a0, .int .i64 p1.a1]) rfl rfl (Yx _) rfl rfl) rfl (Va (Vv rfl) rfl (Va (Xm rfl) rfl (Vc (Ve (Vb (Va (Yc rfl) rfl ?_)))))))); refine Va (Xw (Xq rfl rfl te_33) (congrArg (fun n : Nat => Yt .i64 (n : Int)) (Yz _))) rfl (Va (Vv rfl) rfl (Vc (Ve (Vb (Va (Vm rfl) rfl (Va (Vv rfl) rfl (Va (Vv rfl) rfl (Vc ?_)))))))); refine Ve (Xl ?_); obtain ⟨o2, ho2, hF⟩ := Yf hF; refine Vs (Yn (F_slices_BinarySearchFunc____2_int__2_int__2_int___controlroom_order_L1 p0 p1) (fun s1 E' lw lc => Xt E' lw lc [(0, .vs 2 (Ys A2_Int.enc p0)), (2, .fn 34 [] []), (4, .ptr (low.length + 0) 0 0 0), (8, .int .i64 ((p0).length : Int)), (9, .int .i64 s1.2), (10, .int .i64 s1.1)] low [⟨37, 2, [.agg [.int .i64 p1.a0, .int .i64 p1.a1]], 0⟩]) (fun o2 => OnlyE (.exit 0) (fun E' lw lc => Xt E' lw lc [(0, .vs 2 (Ys A2_Int.enc p0)), (2, .fn 34 [] []), (4, .ptr (low.length + 0) 0 0 0), (8, .int .i64 ((p0).length : Int)), (9, .int .i64 o2)] low [⟨37, 2, [.agg [.int .i64 p1.a0, .int .i64 p1.a1]], 0⟩])) ho2 ?_ (by rintro _ _ _ _ ⟨h, _⟩ <;> cases h) ?_) ?_
  ·exact Vp ⟨rfl, rfl, rfl, rfl, rfl, rfl, trivial⟩
  ·rintro s1 os1 _ _ _ hF hw; unfold F_slices_BinarySearchFunc____2_int__2_int__2_int___controlroom_order_L1 at hF; refine Yq hw (Ve (Ve (Vb (Va (Vm rfl) rfl (Va (Vm rfl) rfl (Va (rd_lss rfl rfl) rfl (Vc (Vy rfl (fun c3 => ?_) (fun c3 => ?_)))))))))
   ·have hF := Xj c3 hF; refine Xc (Xl (Ve (Vb (Va (Vm rfl) rfl (Va (Vm rfl) rfl (Va (rd_add rfl rfl rfl) rfl (Va (rd_conv rfl us_3 ti_45 rfl) rfl (Va (rd_shrC (c := 2) rfl rfl (by decide) rfl (by decide)) rfl ?_)))))))); refine Va (rd_conv rfl us_45 ti_3 rfl) rfl (Va (Vv rfl) rfl (Vc (Ve ?_))); obtain ⟨x4, h5, hF⟩ := Yf hF; obtain ⟨x6, h7, hF⟩ := Yf hF; refine vwp_drawn0 [[], [], [], [1, 2], [1, 2, 3], [], [0, 1, 2, 3, 4, 5], (List.range 7)] mixed (by kernel_rfl) rfl (Xb rfl rfl (rd_mvF rfl) (Xb rfl rfl (Yc rfl) (Xb rfl rfl (Vm rfl) (Xb rfl rfl (Xw (rd_ixV rfl rfl h5 te_33 ts_37) (v' := .vptr [.int .i64 x4.a0, .int .i64 x4.a1] 0) rfl) (Xb rfl rfl (rd_loadVN (ds := [.int .i64 x4.a0, .int .i64 x4.a1]) rfl ta_37 ts_37 rfl rfl) (Xb rfl rfl (Yd (ds := [.int .i64 p1.a0, .int .i64 p1.a1]) rfl (Vg rfl rfl) rfl ta_37 ts_37 rfl rfl rfl) (dn1 rfl rfl (nt_of (Vz rfl Try.call34 (F_controlroom_order_ok h7 _))) (Xb rfl rfl (rd_lss rfl rfl) ?_)))))))); refine Xg (Vy rfl (fun c8 => ?_) (fun c8 => ?_))
    ·have hF := Xj c8 hF; refine Vb (Va (Vm rfl) rfl (Va (rd_add rfl rfl rfl) rfl (Va (Vv rfl) rfl (Vc ?_)))); obtain rfl := Yv hF; refine Xa ?_; exact Vp ⟨rfl, rfl, rfl, rfl, rfl, rfl, trivial⟩
    ·have hF := Xk c8 hF; refine Vb (Va (Vm rfl) rfl (Va (Vv rfl) rfl (Vc ?_))); obtain rfl := Yv hF; refine Xa ?_; exact Vp ⟨rfl, rfl, rfl, rfl, rfl, rfl, trivial⟩
   ·have hF := Xk c3 hF; refine Yr ?_; obtain rfl := Yv hF; refine Xa ?_; exact Vp ⟨rfl, rfl, rfl, rfl, rfl, trivial⟩
  ·rintro _ _ _ _ ⟨rfl, hw⟩; refine ⟨_, _, _, hw, ?_⟩; refine Ve ?_
   rcases Yy (decide (o2 < ((p0).length : Int))) with c9 | c9
   ·have hF := Xj c9 hF; obtain ⟨x10, h11, hF⟩ := Yf hF; obtain ⟨x12, h13, hF⟩ := Yf hF; refine vwp_drawn0 [[], [], [], [1, 2], [1, 2, 3], [1, 2, 3, 4], [1, 2, 3, 4], [1, 2, 3, 4], [1, 2, 3, 4, 6, 7], [1, 2, 3, 4, 6, 7, 8], [1, 2, 3, 4], [1, 2, 3, 4, 5, 6, 7, 8, 9, 10], [1, 2, 3, 4, 5, 6, 7, 8, 9, 10, 11], [1, 2, 3, 4, 5, 6, 7, 8, 9, 10, 11, 12], (List.range 12), (List.range 15)] mixed (by kernel_rfl) rfl (Xb rfl rfl (Vm rfl) (Xb rfl rfl (Vm rfl) (Xb rfl rfl (Vm rfl) (Xb rfl rfl (rd_lss rfl rfl) (Xb rfl rfl (Vu rfl) (dt1 rfl rfl rfl rfl c9 (rd_mvF rfl) (dt1 rfl rfl rfl rfl c9 (Yc rfl) (dt1 rfl rfl rfl rfl c9 (Vm rfl) ?_)))))))); refine dt1 rfl rfl rfl rfl c9 (Xw (rd_ixV rfl rfl h11 te_33 ts_37) (v' := .vptr [.int .i64 x10.a0, .int .i64 x10.a1] 0) rfl) (dt1 rfl rfl rfl rfl c9 (rd_loadVN (ds := [.int .i64 x10.a0, .int .i64 x10.a1]) rfl ta_37 ts_37 rfl rfl) (dt1 rfl rfl rfl rfl c9 (Yd (ds := [.int .i64 p1.a0, .int .i64 p1.a1]) rfl (Vg rfl rfl) rfl ta_37 ts_37 rfl rfl rfl) (dops_takeW _ rfl rfl rfl (congrArg Yu c9) (Xd (nt_of (Vz rfl Try.call34 (F_controlroom_order_ok h13 _))) Yj) (dt1 rfl rfl rfl rfl c9 (Xs rfl rfl) (Xb rfl rfl (Xh (congrArg Yu c9) rfl) (Xb rfl rfl (Vv rfl) (Xb rfl rfl (Xm rfl) (Xg ?_)))))))); refine Vx ?_; obtain rfl := Yv hF; refine fnR ?_; exact Vl rfl [] (by decide) ⟨Vk rfl (.int _ _), Vk rfl (.bool _), trivial⟩ trivial
   ·have hF := Xk c9 hF; refine vwp_drawn0 [[], [], [], [1, 2], [1, 2, 3], [1, 2, 3, 4], [1, 2, 3, 4], [1, 2, 3, 4], [1, 2, 3, 4, 6, 7], [1, 2, 3, 4, 6, 7, 8], [1, 2, 3, 4], [1, 2, 3, 4, 5, 6, 7, 8, 9, 10], [1, 2, 3, 4, 5, 6, 7, 8, 9, 10, 11], [1, 2, 3, 4, 5, 6, 7, 8, 9, 10, 11, 12], (List.range 12), (List.range 15)] mixed (by kernel_rfl) rfl (Xb rfl rfl (Vm rfl) (Xb rfl rfl (Vm rfl) (Xb rfl rfl (Vm rfl) (Xb rfl rfl (rd_lss rfl rfl) (Xb rfl rfl (Vu rfl) (dops_skip rfl rfl rfl (neF c9) (dops_skip rfl rfl rfl (neF c9) (dops_skip rfl rfl rfl (neF c9) ?_)))))))); refine dops_skip rfl rfl rfl (neF c9) (dops_skip rfl rfl rfl (neF c9) (dops_skip rfl rfl rfl (neF c9) (dops_skip rfl rfl rfl (neF c9) (dops_skip rfl rfl rfl (neF c9) (Xb rfl rfl (Xi (congrArg Yu c9) rfl) (Xb rfl rfl (Vv rfl) (Xb rfl rfl (Xm rfl) (Xg ?_)))))))); refine Vx ?_; obtain rfl := Yv hF; refine fnR ?_; exact Vl rfl [] (by decide) ⟨Vk rfl (.int _ _), Vk rfl (.bool _), trivial⟩ trivial
 ·rintro _ _ _ _ ⟨he, hw⟩; refine ⟨_, _, _, hw, ?_⟩; exact Xr he [.int .i64 r.1, .bool r.2] ⟨rfl, rfl, trivial⟩ ((lt_tup ⟨.int _ _, .bool _, trivial⟩)) ⟨rfl, rfl⟩

theorem F_controlroom_set__2_int___controlroom_order_ok0 {p0 : List A2_Int} {p1 : A2_Int} {p3 : Bool} {r : List A2_Int} (hF : F_controlroom_set__2_int___controlroom_order p0 p1 p3 = some r) {low0 : List AObj} {q0 w0 : Nat} (hB : Bor low0 [q0]) {m0 : Nat} (hm0 : m0 = (p0).length) {n : Nat} (hn : low0.length = n) :
    Xu Try.prog 33 [.sl q0 w0 0 (p0).length, .agg [.int .i64 p1.a0, .int .i64 p1.a1], .fn 34 [] [], .bool p3] (setL low0 [(q0, ⟨37, 2, Ys A2_Int.enc p0, w0⟩)]) fun x low' => x = .sl q0 (w0 + 1) 0 (r).length ∧ low' = setL low0 [(q0, ⟨37, 2, Ys A2_Int.enc r, w0 + 1⟩)] ++ [] := by
 refine vcalls_norm (G := Nat) (X := fun γ => .sl q0 γ 0 (r).length) (LW := fun γ => setL low0 [(q0, ⟨37, 2, Ys A2_Int.enc r, γ⟩)] ++ []) ?_ fun γ => ⟨nos_B hB hn rfl rfl rfl ⟨⟨rfl, no_map A2_Int.enc_lt (.inr (ver_up (get_B0 hB rfl 0 rfl) (Nat.lt_succ_self _)))⟩, trivial⟩ trivial, nv_sl (get_B hB rfl 0 rfl) (get_B hB rfl 0 rfl) rfl rfl⟩; refine Vw (nt := 41) (rs := [.tmp 8]) Try.func33 rfl rfl (Yw rfl) rfl ?_
 subst hm0
 have hq0 : q0 < n := hB.ltN hn 0 rfl
 refine Vs (Q' := FnE (fun E' lw lc => ∃ g0 : Nat, Xt E' lw lc [(8, .sl q0 g0 0 (r).length)] (setL low0 [(q0, ⟨37, 2, Ys A2_Int.enc r, g0⟩)]) [])) ?_ ?_
 ·unfold F_controlroom_set__2_int___controlroom_order at hF; refine Ve (Vb (Vj (vef_boxN (lenS hn) rfl (v := .agg [.int .i64 p1.a0, .int .i64 p1.a1]) rfl rfl (Yx _) rfl rfl) rfl (Vj (vef_nilsN (lenS hn) rfl 37 2 (Yx _) (rd_asN rfl)) rfl (Vc (Ve (Vb ?_)))))); obtain ⟨x1, h2, hF⟩ := Yf hF; refine Va (Xo rfl) rfl (Va (Yd (ds := [.int .i64 p1.a0, .int .i64 p1.a1]) rfl (Vg (lenS hn) rfl) rfl ta_37 ts_37 rfl rfl rfl) rfl (Va (rd_mvF rfl) rfl (Vj (vef_callB (vs := [.vs 2 (Ys A2_Int.enc p0), .agg [.int .i64 p1.a0, .int .i64 p1.a1], .fn 34 [] []]) rfl Try.call59 ⟨view_sl rfl (Yb hB rfl 0 rfl) rfl rfl (lt_map A2_Int.enc_lt) (full_take rfl), view_same rfl ((Vo ⟨.int _ _, .int _ _, trivial⟩)), view_same rfl (lt_fn trivial), trivial⟩ ((F_slices_BinarySearchFunc____2_int__2_int__2_int___controlroom_order_ok h2 []).mono fun _ _ h => h.1) (sc_tup ⟨(.int _ _), (.bool _), trivial⟩)) rfl (Va (rd_mvT rfl) rfl (Va (Ye rfl rfl) rfl (Va (Ye rfl rfl) rfl (Va (Vv rfl) rfl (Va (Xm rfl) rfl ?_)))))))); refine Vc (Ve (Xl (Ve ?_))); obtain ⟨o3, ho3, hF⟩ := Yf hF; refine Vs (Q' := (fun o3 => OnlyE .normal (fun E' lw lc => Xt E' lw lc [(0, .sl q0 w0 0 (p0).length), (3, .bool p3), (5, .ptr (n + 0) 0 0 0), (9, .int .i64 x1.1), (10, .bool x1.2), (18, .bool o3)] (setL low0 [(q0, ⟨37, 2, Ys A2_Int.enc p0, w0⟩)]) [⟨37, 2, [.agg [.int .i64 p1.a0, .int .i64 p1.a1]], 0⟩])) o3) ?_ ?_
  ·replace hF := ho3; refine Vb ?_
   rcases Yy p3 with c4 | c4
   ·have hF := Xj c4 hF; refine Va (Vu rfl) rfl (Va (Vu rfl) rfl (Xy rfl rfl c4 (Va (Vu rfl) rfl (Xy rfl rfl c4 (Va (rd_not rfl) rfl (Va (Xh (congrArg Yu c4) rfl) rfl (Va (Xm rfl) rfl (Vc ?_)))))))); obtain rfl := Yv hF; refine Xa ?_; exact Vl (lenS hn) [(0, 0)] (by decide) ⟨Vk rfl (.sl _ _ _ _ hq0), Vk rfl (.bool _), Vn 0 0 rfl rfl, Vk rfl (.int _ _), Vk rfl (.bool _), Vk rfl (.bool _), trivial⟩ ⟨⟨_, rfl, rfl, .same _ _ _ _ (Vh ⟨Vo ⟨.int _ _, .int _ _, trivial⟩, trivial⟩)⟩, trivial⟩
   ·have hF := Xk c4 hF; refine Va (Vu rfl) rfl (Va (Vu rfl) rfl (Vf rfl rfl (neF c4) rfl (Vf rfl rfl (neF c4) rfl (Va (Xi (congrArg Yu c4) rfl) rfl (Va (Xm rfl) rfl (Vc ?_)))))); obtain rfl := Yv hF; refine Xa ?_; exact Vl (lenS hn) [(0, 0)] (by decide) ⟨Vk rfl (.sl _ _ _ _ hq0), Vk rfl (.bool _), Vn 0 0 rfl rfl, Vk rfl (.int _ _), Vk rfl (.bool _), Vk rfl (.bool _), trivial⟩ ⟨⟨_, rfl, rfl, .same _ _ _ _ (Vh ⟨Vo ⟨.int _ _, .int _ _, trivial⟩, trivial⟩)⟩, trivial⟩
  ·rintro _ _ _ _ ⟨rfl, hw⟩; refine ⟨_, _, _, hw, ?_⟩; refine Vy rfl (fun c5 => ?_) (fun c5 => ?_)
   ·have hF := Xj c5 hF; refine Ve (Vb ?_); obtain ⟨x6, h7, hF⟩ := Yf hF; refine Va (Xo rfl) rfl (Va (Vm rfl) rfl (Va (Yd (ds := [.int .i64 p1.a0, .int .i64 p1.a1]) rfl (Vg (lenS hn) rfl) rfl ta_37 ts_37 rfl rfl rfl) rfl (Vj (vef_litN (lenS hn) rfl (es := Ys A2_Int.enc [p1]) ⟨rfl, rfl, trivial⟩ rfl rfl (nt_all rfl) te_33 ts_37 tz_37 rfl rfl (Yx _) (by decide)) rfl (Vj (vef_callS (ps := [(q0, ⟨37, 2, Ys A2_Int.enc x6, w0 + 1⟩), ((n + 1), ⟨37, 2, Ys A2_Int.enc [p1], 0⟩)]) (r := .sl q0 (w0 + 1) 0 (x6).length) (os := []) (low1 := (setL low0 [(q0, ⟨37, 2, Ys A2_Int.enc x6, w0 + 1⟩)])) (loc1 := [⟨37, 2, [.agg [.int .i64 p1.a0, .int .i64 p1.a1]], 0⟩, ⟨37, 2, Ys A2_Int.enc [p1], 0⟩]) (loc2 := [⟨37, 2, [.agg [.int .i64 p1.a0, .int .i64 p1.a1]], 0⟩, ⟨37, 2, Ys A2_Int.enc [p1], 0⟩]) rfl Try.call60 (F_slices_Insert____2_int__2_int__ok h7 (nd1 (na1 (ne_low hq0) na0) (nd1 na0 nd0)) (rfl : (p0).length = _) (rfl : ([p1]).length = _) (get_B hB rfl 0 rfl) (get_N (lenS hn) rfl) (Yo (lenS hn) rfl)) (sets_B (ps0' := [(q0, ⟨37, 2, Ys A2_Int.enc x6, w0 + 1⟩)]) hB rfl 0 rfl (Vr A2_Int.enc_lt) rfl (sets_own (loc2 := [⟨37, 2, [.agg [.int .i64 p1.a0, .int .i64 p1.a1]], 0⟩, ⟨37, 2, Ys A2_Int.enc [p1], 0⟩]) (lenS hn) 1 rfl sets_nil)) rfl) rfl (Va (Ym rfl) rfl (Vc (Vx ?_))))))); obtain rfl := Yv hF; refine And.intro (.inr rfl) (Exists.intro (w0 + 1) ?_); exact Vl (lenS hn) [] (by decide) ⟨Vk rfl (.sl _ _ _ _ hq0), trivial⟩ trivial
   ·have hF := Xk c5 hF; refine Ve ?_; obtain ⟨o8, ho8, hF⟩ := Yf hF; refine Vs (Q' := (fun o8 => OnlyE .normal (fun E' lw lc => Xt E' lw lc [(0, .sl q0 w0 0 (p0).length), (9, .int .i64 x1.1), (29, .bool o8)] (setL low0 [(q0, ⟨37, 2, Ys A2_Int.enc p0, w0⟩)]) [])) o8) ?_ ?_
    ·replace hF := ho8; refine Vb ?_
     rcases Yy (!p3) with c9 | c9
     ·have hF := Xj c9 hF; refine Va (Vu rfl) rfl (Va (rd_not rfl) rfl (Va (Vu rfl) rfl (Xy rfl rfl c9 (Va (Vu rfl) rfl (Va (Xh (congrArg Yu c9) rfl) rfl (Va (Xm rfl) rfl (Vc ?_))))))); obtain rfl := Yv hF; refine Xa ?_; exact Vl (lenS hn) [] (by decide) ⟨Vk rfl (.sl _ _ _ _ hq0), Vk rfl (.int _ _), Vk rfl (.bool _), trivial⟩ trivial
     ·have hF := Xk c9 hF; refine Va (Vu rfl) rfl (Va (rd_not rfl) rfl (Va (Vu rfl) rfl (Vf rfl rfl (neF c9) rfl (Va (Xi (congrArg Yu c9) rfl) rfl (Va (Xm rfl) rfl (Vc ?_)))))); obtain rfl := Yv hF; refine Xa ?_; exact Vl (lenS hn) [] (by decide) ⟨Vk rfl (.sl _ _ _ _ hq0), Vk rfl (.int _ _), Vk rfl (.bool _), trivial⟩ trivial
    ·rintro _ _ _ _ ⟨rfl, hw⟩; refine ⟨_, _, _, hw, ?_⟩; refine Vy rfl (fun c10 => ?_) (fun c10 => ?_)
     ·have hF := Xj c10 hF; refine Ve (Vb ?_); obtain ⟨x11, h12, hF⟩ := Yf hF; refine Va (Xo rfl) rfl (Va (Vm rfl) rfl (Va (Vm rfl) rfl (Va (rd_add rfl rfl rfl) rfl (Vj (vef_callS (ps := [(q0, ⟨37, 2, Ys A2_Int.enc x11, w0 + 1⟩)]) (r := .sl q0 (w0 + 1) 0 (x11).length) (os := []) (low1 := (setL low0 [(q0, ⟨37, 2, Ys A2_Int.enc x11, w0 + 1⟩)])) (loc1 := []) (loc2 := []) rfl Try.call61 (F_slices_Delete____2_int__2_int__ok h12 (nd1 na0 nd0) (rfl : (p0).length = _) (get_B hB rfl 0 rfl) (Yo (lenS hn) rfl)) (sets_B (ps0' := [(q0, ⟨37, 2, Ys A2_Int.enc x11, w0 + 1⟩)]) hB rfl 0 rfl (Vr A2_Int.enc_lt) rfl sets_nil) rfl) rfl (Va (Ym rfl) rfl (Vc (Vx ?_))))))); obtain rfl := Yv hF; refine And.intro (.inr rfl) (Exists.intro (w0 + 1) ?_); exact Vp ⟨rfl, trivial⟩
     ·have hF := Xk c10 hF; refine Xc (Ve (Vb (Va (Xo rfl) rfl (Va (Ym rfl) rfl (Vc (Vx ?_)))))); obtain rfl := Yv hF; refine And.intro (.inr rfl) (Exists.intro w0 ?_); exact Vp ⟨rfl, trivial⟩
 ·rintro _ _ _ _ ⟨he, g0, hw⟩; refine ⟨_, _, _, hw, ?_⟩; exact bodyQ_all he [.sl q0 g0 0 (r).length] ⟨rfl, trivial⟩ ⟨g0, rfl, rfl⟩

theorem F_controlroom_set__2_int___controlroom_order_len {p0 : List A2_Int} {p1 : A2_Int} {p3 : Bool} {r : List A2_Int} (hF : F_controlroom_set__2_int___controlroom_order p0 p1 p3 = some r) {m0 : Nat} (hm0 : m0 = (p0).length) : True := by
  have h : LP (F_controlroom_set__2_int___controlroom_order p0 p1 p3) (fun r => True) := by
    unfold F_controlroom_set__2_int___controlroom_order; exact (Yl fun x1 h2 => lp_bind (Q := fun o3 => True) (lp_bif (fun c4 => Yh trivial) (fun c4 => Yh trivial)) (fun o3 _ => lp_bif (fun c5 => Yl fun x6 h7 => Yh trivial) (fun c5 => lp_bind (Q := fun o8 => True) (lp_bif (fun c9 => Yh trivial) (fun c9 => Yh trivial)) (fun o8 _ => lp_bif (fun c10 => Yl fun x11 h12 => Yh trivial) (fun c10 => Yh trivial)))))
  exact h r hF

theorem F_controlroom_set__2_int___controlroom_order_ok {p0 : List A2_Int} {p1 : A2_Int} {p3 : Bool} {r : List A2_Int} (hF : F_controlroom_set__2_int___controlroom_order p0 p1 p3 = some r) {low : List AObj} {q0 w0 : Nat} (hnd : [q0].Nodup) {m0 : Nat} (hm0 : m0 = (p0).length) (hq0 : low[q0]? = some ⟨37, 2, Ys A2_Int.enc p0, w0⟩) {n : Nat} (hn : low.length = n) :
    Xu Try.prog 33 [.sl q0 w0 0 (p0).length, .agg [.int .i64 p1.a0, .int .i64 p1.a1], .fn 34 [] [], .bool p3] low fun x low' => x = .sl q0 (w0 + 1) 0 (r).length ∧ low' = setL low [(q0, ⟨37, 2, Ys A2_Int.enc r, w0 + 1⟩)] ++ [] := by
  obtain ⟨h1, h2⟩ := bor_start (ps := [(q0, ⟨37, 2, Ys A2_Int.enc p0, w0⟩)]) hnd (borC hq0 bor0); exact vcalls_low h1 (F_controlroom_set__2_int___controlroom_order_ok0 hF h2 hm0 hn)

end Go.Proofs.Ytnjkcobofoiogaa
