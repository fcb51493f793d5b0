/- Printed by wip/lift/lift.py: the walks that show that the program computes them. -/
import Derived.Test.YtmomjhbinkmefaaL39BeltsAllW1
namespace Go.Proofs.Ytmomjhbinkmefaa
open Go Go.Aml Go.L
attribute [local irreducible] VRd VEf VOp VOps VWp DOps
set_option linter.unusedVariables false
open Go.Aml renaming vops_rd → Va, vops_skip → Vb, rd_fieldAddr → Vc, vwp_region → Vd, vops_nil → Ve, rd_load1 → Vf, vwp_seq → Vg, rd_mvI → Vh, getO_N → Vi, rd_mvB → Vj, vops_efE → Vk, rd_pickF → Vl, rd_pickT → Vm, weak_sub → Vn, ltObj_map → Vo, cv_same → Vp, lenS → Vq, vef_into → Vr, rd_eql → Vs, vwp_monoW → Vt, weak_pick → Vu, vt1 → Vv, vcalls_of_body → Vw, vwp_ret → Vx, rn_low → Vy, rd_loadV1 → Vz, rd_asI → Xa, rd_to → Xb, vwp_cond → Xc, vef_callP → Xd, len_setL → Xe, rd_lenV → Xf, rd_mvV → Xg, vwp_skip → Xh, len_app → Xi, rd_asB → Xj, vef_callN → Xk, VRd → Xl, vef_allocN → Xm, vef_store → Xn, rx1 → Xo, getO_B → Xp, onlyE → Xq, ltObj_es → Xr, rd_loadN → Xs, vwp_block → Xt, dopx_rd → Xu, Weak → Xv, vwp_weak → Xw, rd_extract → Xx, weak_freezeN → Xy, lt_agg → Xz, mv_sl → Ya, rd_ixV → Yb, dops_skip → Yc, VCalls → Yd, bodyQ_pure → Ye, vef_mkN → Yf, bifT → Yg, bifF → Yh, sets_own → Yi, full_take → Yj, allx1 → Yk, rd_nilPtr → Yl, bnd → Ym, setO_N → Yn, weak_room → Yo, ne_own → Yp, dr1 → Yq, ne_low' → Yr, rd_neq → Ys, nt_ne → Yt, dopx_ef → Yu
open List renaming map → Yv
open Go.Aml.PV renaming int → Yw
open Go.Aml.PV renaming bool → Yx
open Option.some renaming inj → Yy
open Nat renaming le_of_ble_eq_true → Yz
open Nat renaming succ_pos → Za
open Bool renaming eq_false_or_eq_true → Zb
open List renaming length_map → Zc
set_option maxHeartbeats 4000000

theorem F_belts_stop_ok0 {p0 : List T_Belt} {p1 : T_Line} {p2 : Int} {r : T_Line} (hF : F_belts_stop p0 p1 p2 = some r) {low0 : List AObj} {q0 q1 q2 q3 q4 w0 w1 w2 w3 w4 : Nat} (hB : Bor low0 [q0, q1, q2, q3, q4]) {m1 : Nat} (hm1 : m1 = (p1.States).length) {m2 : Nat} (hm2 : m2 = (p1.Since).length) {m3 : Nat} (hm3 : m3 = (p1.Pulled).length) {m4 : Nat} (hm4 : m4 = (p1.Held).length) {n : Nat} (hn : low0.length = n) :
    Yd Try.prog 36 [.vs 2 (Yv T_Belt.enc p0), .ptr q0 w0 0 0, .int .i64 p2] (setL low0 [(q0, ⟨34, 5, [.agg [.int .i64 p1.Time, .sl q1 w1 0 m1, .sl q2 w2 0 m2, .sl q3 w3 0 m3, .sl q4 w4 0 m4]], w0⟩), (q1, ⟨3, 1, Yv (Yw .i64) p1.States, w1⟩), (q2, ⟨3, 1, Yv (Yw .i64) p1.Since, w2⟩), (q3, ⟨4, 1, Yv Yx p1.Pulled, w3⟩), (q4, ⟨4, 1, Yv Yx p1.Held, w4⟩)]) fun x low' => x = .tup [] ∧ low' = setL low0 [(q0, ⟨34, 5, [.agg [.int .i64 r.Time, .sl q1 w1 0 m1, .sl q2 w2 0 m2, .sl q3 w3 0 m3, .sl q4 w4 0 m4]], w0⟩), (q1, ⟨3, 1, Yv (Yw .i64) r.States, w1⟩), (q2, ⟨3, 1, Yv (Yw .i64) r.Since, w2⟩), (q3, ⟨4, 1, Yv Yx r.Pulled, w3⟩), (q4, ⟨4, 1, Yv Yx r.Held, w4⟩)] ++ [] := by
 refine Vw (nt := 48) (rs := []) Try.func36 rfl rfl (Yz rfl) rfl ?_
 have hq0 : q0 < n := hB.ltN hn 0 rfl
 have hq1 : q1 < n := hB.ltN hn 1 rfl
 have hq2 : q2 < n := hB.ltN hn 2 rfl
 have hq3 : q3 < n := hB.ltN hn 3 rfl
 have hq4 : q4 < n := hB.ltN hn 4 rfl
 refine Vt (Q' := FnE (fun E' lw lc => m1 = (r.States).length ∧ m2 = (r.Since).length ∧ m3 = (r.Pulled).length ∧ m4 = (r.Held).length ∧ Xv E' lw lc [] (setL low0 [(q0, ⟨34, 5, [.agg [.int .i64 r.Time, .sl q1 w1 0 m1, .sl q2 w2 0 m2, .sl q3 w3 0 m3, .sl q4 w4 0 m4]], w0⟩), (q1, ⟨3, 1, Yv (Yw .i64) r.States, w1⟩), (q2, ⟨3, 1, Yv (Yw .i64) r.Since, w2⟩), (q3, ⟨4, 1, Yv Yx r.Pulled, w3⟩), (q4, ⟨4, 1, Yv Yx r.Held, w4⟩)]) [])) ?_ ?_
 ·unfold F_belts_stop at hF
  refine Vg ?_
  refine Vd ?_
  refine Va (Xg rfl) rfl ?_
  refine Va (Xb (Xf rfl rfl te_27) (congrArg (fun n : Nat => Yw .i64 (n : Int)) (Zc _))) rfl ?_
  refine Va (Vh rfl) rfl ?_
  refine Ve ?_
  refine Xt ?_
  obtain ⟨o6, ho6, hF⟩ := Ym hF
  refine Vt (vwp_loopC (F_belts_stop_L1 p0 p1 p2) (fun s5 E' lw lc => m1 = (s5.2.1).length ∧ m2 = (s5.2.2).length ∧ Xv E' lw lc [(0, .vs 2 (Yv T_Belt.enc p0)), (1, .ptr q0 w0 0 0), (2, .int .i64 p2), (8, .int .i64 ((p0).length : Int)), (9, .int .i64 s5.1)] (setL low0 [(q0, ⟨34, 5, [.agg [.int .i64 p1.Time, .sl q1 w1 0 m1, .sl q2 w2 0 m2, .sl q3 w3 0 m3, .sl q4 w4 0 m4]], w0⟩), (q1, ⟨3, 1, Yv (Yw .i64) s5.2.1, w1⟩), (q2, ⟨3, 1, Yv (Yw .i64) s5.2.2, w2⟩), (q3, ⟨4, 1, Yv Yx p1.Pulled, w3⟩), (q4, ⟨4, 1, Yv Yx p1.Held, w4⟩)]) []) (fun o6 => OnlyE (.exit 0) (fun E' lw lc => m1 = (o6.1).length ∧ m2 = (o6.2).length ∧ Xv E' lw lc [] (setL low0 [(q0, ⟨34, 5, [.agg [.int .i64 p1.Time, .sl q1 w1 0 m1, .sl q2 w2 0 m2, .sl q3 w3 0 m3, .sl q4 w4 0 m4]], w0⟩), (q1, ⟨3, 1, Yv (Yw .i64) o6.1, w1⟩), (q2, ⟨3, 1, Yv (Yw .i64) o6.2, w2⟩), (q3, ⟨4, 1, Yv Yx p1.Pulled, w3⟩), (q4, ⟨4, 1, Yv Yx p1.Held, w4⟩)]) [])) ho6 ⟨hm1, hm2, ?_⟩ (by rintro _ _ _ _ ⟨h, _⟩ <;> cases h) ?_) ?_
  ·exact Vn ⟨rfl, rfl, rfl, rfl, rfl, trivial⟩
  ·rintro s5 os5 _ _ _ hF ⟨hls5_0, hls5_1, hw⟩
   unfold F_belts_stop_L1 at hF
   refine Xw hw ?_
   refine Vg ?_
   refine Vd ?_
   refine Va (rd_lss rfl rfl) rfl ?_
   refine Ve ?_
   refine Vg ?_
   refine Xc rfl (fun c7 => ?_) (fun c7 => ?_)
   ·have hF := Yg c7 hF
    refine Xh ?_
    refine Vg ?_
    obtain ⟨o8, ho8, hF⟩ := Ym hF
    refine Vt (Q' := (fun o8 => OnlyE .normal (fun E' lw lc => m1 = (o8.1).length ∧ m2 = (o8.2).length ∧ Xv E' lw lc [(0, .vs 2 (Yv T_Belt.enc p0)), (1, .ptr q0 w0 0 0), (2, .int .i64 p2), (8, .int .i64 ((p0).length : Int)), (9, .int .i64 s5.1)] (setL low0 [(q0, ⟨34, 5, [.agg [.int .i64 p1.Time, .sl q1 w1 0 m1, .sl q2 w2 0 m2, .sl q3 w3 0 m3, .sl q4 w4 0 m4]], w0⟩), (q1, ⟨3, 1, Yv (Yw .i64) o8.1, w1⟩), (q2, ⟨3, 1, Yv (Yw .i64) o8.2, w2⟩), (q3, ⟨4, 1, Yv Yx p1.Pulled, w3⟩), (q4, ⟨4, 1, Yv Yx p1.Held, w4⟩)]) [])) o8) ?_ ?_
    ·replace hF := ho8
     refine Xt ?_
     refine Vg ?_
     refine Vd ?_
     refine Va (Vh rfl) rfl ?_
     refine Va (Xa rfl) rfl ?_
     refine Ve ?_
     refine Vg ?_
     obtain ⟨o9, ho9, hF⟩ := Ym hF
     refine Vt (Q' := (fun o9 => OnlyE .normal (fun E' lw lc => Xv E' lw lc [(0, .vs 2 (Yv T_Belt.enc p0)), (1, .ptr q0 w0 0 0), (2, .int .i64 p2), (6, .int .i64 s5.1), (8, .int .i64 ((p0).length : Int)), (9, .int .i64 s5.1), (30, .bool o9)] (setL low0 [(q0, ⟨34, 5, [.agg [.int .i64 p1.Time, .sl q1 w1 0 m1, .sl q2 w2 0 m2, .sl q3 w3 0 m3, .sl q4 w4 0 m4]], w0⟩), (q1, ⟨3, 1, Yv (Yw .i64) s5.2.1, w1⟩), (q2, ⟨3, 1, Yv (Yw .i64) s5.2.2, w2⟩), (q3, ⟨4, 1, Yv Yx p1.Pulled, w3⟩), (q4, ⟨4, 1, Yv Yx p1.Held, w4⟩)]) [])) o9) ?_ ?_
     ·replace hF := ho9
      refine Vd ?_
      rcases Zb (decide (s5.1 = p2)) with c10 | c10
      ·have hF := Yg c10 hF
       obtain ⟨x11, h12, hF⟩ := Ym hF
       refine Va (Vh rfl) rfl ?_
       refine Va (Vh rfl) rfl ?_
       refine Va (Vs rfl rfl) rfl ?_
       refine Va (Vj rfl) rfl ?_
       refine Vb rfl rfl (neT c10) rfl ?_
       refine Vb rfl rfl (neT c10) rfl ?_
       refine Vb rfl rfl (neT c10) rfl ?_
       refine Vb rfl rfl (neT c10) rfl ?_
       refine Va (Vm (congrArg Yx c10) rfl) rfl ?_
       refine Va (Vj rfl) rfl ?_
       refine vops_take rfl rfl ?_
       refine Va (rd_mvP rfl) rfl ?_
       refine vops_take rfl rfl ?_
       refine Va (Yl rfl) rfl ?_
       refine vops_take rfl rfl ?_
       refine Va (Vc rfl tf_34_1 ts_22 (by decide)) rfl ?_
       refine vops_take rfl rfl ?_
       refine Va (Vf rfl (Xp hB rfl 0 rfl) rfl ta_22 rfl) rfl ?_
       refine vops_take rfl rfl ?_
       refine Va (Vh rfl) rfl ?_
       refine vops_take rfl rfl ?_
       refine Va (rd_ixS rfl hls5_0 rfl (Xp hB rfl 1 rfl) h12 te_22 ts_3) rfl ?_
       refine vops_take rfl rfl ?_
       refine Va (rd_ldL1 rfl (Xp hB rfl 1 rfl) (getI_some h12).2 ta_3 rfl) rfl ?_
       refine vops_take rfl rfl ?_
       refine Va (Ys rfl rfl) rfl ?_
       refine Va (Vm rfl rfl) rfl ?_
       refine Ve ?_
       obtain rfl := Yy hF
       refine Xq ?_
       exact Vn ⟨rfl, rfl, rfl, rfl, rfl, rfl, rfl, trivial⟩
      ·have hF := Yh c10 hF
       obtain ⟨x13, h14, hF⟩ := Ym hF
       rcases Zb x13 with c15 | c15
       ·have hF := Yg c15 hF
        obtain ⟨x16, h17, hF⟩ := Ym hF
        refine Va (Vh rfl) rfl ?_
        refine Va (Vh rfl) rfl ?_
        refine Va (Vs rfl rfl) rfl ?_
        refine Va (Vj rfl) rfl ?_
        refine Vv rfl rfl c10 ?_
        refine Va (Xg rfl) rfl ?_
        refine Vv rfl rfl c10 ?_
        refine Va (Vh rfl) rfl ?_
        refine Vv rfl rfl c10 ?_
        refine Va (Vh rfl) rfl ?_
        refine Vv rfl rfl c10 ?_
        refine Vk (Xd rfl Try.call39 (F_belts_throws_ok h14 _)) rfl ?_
        refine Va (Vl (congrArg Yx c10) rfl) rfl ?_
        refine Va (Vj rfl) rfl ?_
        refine Vv rfl rfl c15 ?_
        refine Va (rd_mvP rfl) rfl ?_
        refine Vv rfl rfl c15 ?_
        refine Va (Yl rfl) rfl ?_
        refine Vv rfl rfl c15 ?_
        refine Va (Vc rfl tf_34_1 ts_22 (by decide)) rfl ?_
        refine Vv rfl rfl c15 ?_
        refine Va (Vf rfl (Xp hB rfl 0 rfl) rfl ta_22 rfl) rfl ?_
        refine Vv rfl rfl c15 ?_
        refine Va (Vh rfl) rfl ?_
        refine Vv rfl rfl c15 ?_
        refine Va (rd_ixS rfl hls5_0 rfl (Xp hB rfl 1 rfl) h17 te_22 ts_3) rfl ?_
        refine Vv rfl rfl c15 ?_
        refine Va (rd_ldL1 rfl (Xp hB rfl 1 rfl) (getI_some h17).2 ta_3 rfl) rfl ?_
        refine Vv rfl rfl c15 ?_
        refine Va (Ys rfl rfl) rfl ?_
        refine Va (Vm (congrArg Yx c15) rfl) rfl ?_
        refine Ve ?_
        obtain rfl := Yy hF
        refine Xq ?_
        exact Vn ⟨rfl, rfl, rfl, rfl, rfl, rfl, rfl, trivial⟩
       ·have hF := Yh c15 hF
        refine Va (Vh rfl) rfl ?_
        refine Va (Vh rfl) rfl ?_
        refine Va (Vs rfl rfl) rfl ?_
        refine Va (Vj rfl) rfl ?_
        refine Vv rfl rfl c10 ?_
        refine Va (Xg rfl) rfl ?_
        refine Vv rfl rfl c10 ?_
        refine Va (Vh rfl) rfl ?_
        refine Vv rfl rfl c10 ?_
        refine Va (Vh rfl) rfl ?_
        refine Vv rfl rfl c10 ?_
        refine Vk (Xd rfl Try.call39 (F_belts_throws_ok h14 _)) rfl ?_
        refine Va (Vl (congrArg Yx c10) rfl) rfl ?_
        refine Va (Vj rfl) rfl ?_
        refine Vb rfl rfl (neF c15) rfl ?_
        refine Vb rfl rfl (neF c15) rfl ?_
        refine Vb rfl rfl (neF c15) rfl ?_
        refine Vb rfl rfl (neF c15) rfl ?_
        refine Vb rfl rfl (neF c15) rfl ?_
        refine Vb rfl rfl (neF c15) rfl ?_
        refine Vb rfl rfl (neF c15) rfl ?_
        refine Vb rfl rfl (neF c15) rfl ?_
        refine Va (Vl (congrArg Yx c15) rfl) rfl ?_
        refine Ve ?_
        obtain rfl := Yy hF
        refine Xq ?_
        exact Vn ⟨rfl, rfl, rfl, rfl, rfl, rfl, rfl, trivial⟩
     ·rintro _ _ _ _ ⟨rfl, hw⟩
      refine ⟨_, _, _, hw, ?_⟩
      refine Xc rfl (fun c18 => ?_) (fun c18 => ?_)
      ·have hF := Yg c18 hF
       obtain ⟨x19, h20, hF⟩ := Ym hF
       obtain ⟨x21, h22, hF⟩ := Ym hF
       refine vwp_drawn [[], [0], [0, 1], [0, 1, 2], [], [], [5], [5, 6], [5, 6, 7], [], [], [10], [10, 11], [10, 11, 12], [0, 1, 2, 3, 4, 5, 6, 7, 8, 10, 11, 12, 13], [0, 1, 2, 3, 4, 5, 6, 7, 8, 10, 11, 12, 13, 14], [0, 1, 2, 3, 4, 5, 6, 7, 8, 9, 10, 11, 12, 13, 14, 15], [0, 1, 2, 3, 4, 5, 6, 7, 8, 9, 10, 11, 12, 13, 14, 15, 16]] [false, false, false, false, false, false, false, false, false, false, false, false, false, false, false, true, false, true] [((setL low0 [(q0, ⟨34, 5, [.agg [.int .i64 p1.Time, .sl q1 w1 0 m1, .sl q2 w2 0 m2, .sl q3 w3 0 m3, .sl q4 w4 0 m4]], w0⟩), (q1, ⟨3, 1, Yv (Yw .i64) s5.2.1, w1⟩), (q2, ⟨3, 1, Yv (Yw .i64) s5.2.2, w2⟩), (q3, ⟨4, 1, Yv Yx p1.Pulled, w3⟩), (q4, ⟨4, 1, Yv Yx p1.Held, w4⟩)]), []), ((setL low0 [(q0, ⟨34, 5, [.agg [.int .i64 p1.Time, .sl q1 w1 0 m1, .sl q2 w2 0 m2, .sl q3 w3 0 m3, .sl q4 w4 0 m4]], w0⟩), (q1, ⟨3, 1, Yv (Yw .i64) (s5.2.1.set ((s5.1).toNat) 0), w1⟩), (q2, ⟨3, 1, Yv (Yw .i64) s5.2.2, w2⟩), (q3, ⟨4, 1, Yv Yx p1.Pulled, w3⟩), (q4, ⟨4, 1, Yv Yx p1.Held, w4⟩)]), []), ((setL low0 [(q0, ⟨34, 5, [.agg [.int .i64 p1.Time, .sl q1 w1 0 m1, .sl q2 w2 0 m2, .sl q3 w3 0 m3, .sl q4 w4 0 m4]], w0⟩), (q1, ⟨3, 1, Yv (Yw .i64) (s5.2.1.set ((s5.1).toNat) 0), w1⟩), (q2, ⟨3, 1, Yv (Yw .i64) (s5.2.2.set ((s5.1).toNat) p1.Time), w2⟩), (q3, ⟨4, 1, Yv Yx p1.Pulled, w3⟩), (q4, ⟨4, 1, Yv Yx p1.Held, w4⟩)]), [])] mixed (by kernel_rfl) rfl (lenAll (all1 Xe (all1 Xe (all1 Xe all0)))) rfl _ rfl rfl ?_
       refine Yq rfl rfl (rd_mvP rfl) ?_
       refine Yq rfl rfl (Yl rfl) ?_
       refine Yq rfl rfl (Vc rfl tf_34_1 ts_22 (by decide)) ?_
       refine Yq rfl rfl (Vf rfl (Xp hB rfl 0 rfl) rfl ta_22 rfl) ?_
       refine Yq rfl rfl (Vh rfl) ?_
       refine Yq rfl rfl (rd_mvP rfl) ?_
       refine Yq rfl rfl (Yl rfl) ?_
       refine Yq rfl rfl (Vc rfl tf_34_2 ts_22 (by decide)) ?_
       refine Yq rfl rfl (Vf rfl (Xp hB rfl 0 rfl) rfl ta_22 rfl) ?_
       refine dops_rdW _ rfl rfl (all1 (VRd.ntl (Vh rfl)) (all1 (VRd.ntl (Vh rfl)) all0)) ?_
       refine Yq rfl rfl (rd_mvP rfl) ?_
       refine Yq rfl rfl (Yl rfl) ?_
       refine Yq rfl rfl (Vc rfl tf_34_0 ts_3 (by decide)) ?_
       refine Yq rfl rfl (Vf rfl (Xp hB rfl 0 rfl) rfl ta_3 rfl) ?_
       refine Yq rfl rfl (rd_ixS rfl hls5_0 rfl (Xp hB rfl 1 rfl) h20 te_22 ts_3) ?_
       refine dops_ef rfl rfl rfl (vef_stL (p := .int .i64 0) (e' := 0) rfl (Xp hB rfl 1 rfl) (getI_some h20).2 rfl ts_3 rfl (Yt rfl) (Yz rfl) rfl (setO_B hB rfl 1 rfl (Vo (fun _ => .int _ _)) rfl)) ?_
       refine Yq rfl rfl (rd_ixS rfl hls5_1 rfl (Xp hB rfl 2 rfl) h22 te_22 ts_3) ?_
       refine dops_ef rfl rfl rfl (vef_stL (p := .int .i64 p1.Time) (e' := p1.Time) rfl (Xp hB rfl 2 rfl) (getI_some h22).2 rfl ts_3 rfl (Yt rfl) (Yz rfl) rfl (setO_B hB rfl 2 rfl (Vo (fun _ => .int _ _)) rfl)) ?_
       refine dops_nil ?_
       obtain rfl := Yy hF
       refine And.intro rfl (And.intro (Eq.trans hls5_0 List.length_set.symm) (And.intro (Eq.trans hls5_1 List.length_set.symm) ?_))
       exact Vn ⟨rfl, rfl, rfl, rfl, rfl, trivial⟩
      ·have hF := Yh c18 hF
       refine Xh ?_
       obtain rfl := Yy hF
       refine And.intro rfl (And.intro hls5_0 (And.intro hls5_1 ?_))
       exact Vn ⟨rfl, rfl, rfl, rfl, rfl, trivial⟩
    ·rintro _ _ _ _ ⟨rfl, hl23, hl24, hw⟩
     refine ⟨_, _, _, hw, ?_⟩
     refine Vd ?_
     refine Va (rd_add rfl rfl rfl) rfl ?_
     refine Va (Vh rfl) rfl ?_
     refine Ve ?_
     obtain rfl := Yy hF
     refine And.intro rfl (And.intro hl23 (And.intro hl24 ?_))
     exact Vn ⟨rfl, rfl, rfl, rfl, rfl, trivial⟩
   ·have hF := Yh c7 hF
    refine vwp_exit ?_
    obtain rfl := Yy hF
    refine And.intro rfl (And.intro hls5_0 (And.intro hls5_1 ?_))
    exact Vn trivial
  ·rintro _ _ _ _ ⟨rfl, hl25, hl26, hw⟩
   refine ⟨_, _, _, hw, ?_⟩
   obtain rfl := Yy hF
   refine And.intro (.inl rfl) (And.intro hl25 (And.intro hl26 (And.intro hm3 (And.intro hm4 ?_))))
   exact Vn trivial
 ·rintro _ _ _ _ ⟨he, hl1, hl2, hl3, hl4, hw⟩
  refine ⟨_, _, _, hw, ?_⟩
  exact Ye he [] trivial ((lt_tup trivial)) ⟨rfl, (List.append_nil _).symm⟩

theorem F_belts_stop_len {p0 : List T_Belt} {p1 : T_Line} {p2 : Int} {r : T_Line} (hF : F_belts_stop p0 p1 p2 = some r) {m1 : Nat} (hm1 : m1 = (p1.States).length) {m2 : Nat} (hm2 : m2 = (p1.Since).length) {m3 : Nat} (hm3 : m3 = (p1.Pulled).length) {m4 : Nat} (hm4 : m4 = (p1.Held).length) : m1 = (r.States).length ∧ m2 = (r.Since).length ∧ m3 = (r.Pulled).length ∧ m4 = (r.Held).length ∧ True := by
  have h : LP (F_belts_stop p0 p1 p2) (fun r => m1 = (r.States).length ∧ m2 = (r.Since).length ∧ m3 = (r.Pulled).length ∧ m4 = (r.Held).length ∧ True) := by
    unfold F_belts_stop
    exact (lp_bind (Q := fun o6 => m1 = (o6.1).length ∧ m2 = (o6.2).length ∧ True) (lp_loop (fun s5 => m1 = (s5.2.1).length ∧ m2 = (s5.2.2).length ∧ True) ⟨hm1, hm2, trivial⟩ (fun s5 ⟨hls5_0, hls5_1, _⟩ => by unfold F_belts_stop_L1; exact (lp_bif (fun c7 => lp_bind (Q := fun o8 => m1 = (o8.1).length ∧ m2 = (o8.2).length ∧ True) (lp_bind (Q := fun o9 => True) (lp_bif (fun c10 => lp_bindE fun x11 h12 => lp_some trivial) (fun c10 => lp_bindE fun x13 h14 => lp_bif (fun c15 => lp_bindE fun x16 h17 => lp_some trivial) (fun c15 => lp_some trivial))) (fun o9 _ => lp_bif (fun c18 => lp_bindE fun x19 h20 => lp_bindE fun x21 h22 => lp_some ⟨(Eq.trans hls5_0 List.length_set.symm), (Eq.trans hls5_1 List.length_set.symm), trivial⟩) (fun c18 => lp_some ⟨hls5_0, hls5_1, trivial⟩))) (fun o8 ⟨hl23, hl24, _⟩ => lp_some ⟨hl23, hl24, trivial⟩)) (fun c7 => lp_some ⟨hls5_0, hls5_1, trivial⟩)))) (fun o6 ⟨hl25, hl26, _⟩ => lp_some ⟨hl25, hl26, hm3, hm4, trivial⟩))
  exact h r hF

theorem F_belts_stop_ok {p0 : List T_Belt} {p1 : T_Line} {p2 : Int} {r : T_Line} (hF : F_belts_stop p0 p1 p2 = some r) {low : List AObj} {q0 q1 q2 q3 q4 w0 w1 w2 w3 w4 : Nat} (hnd : [q0, q1, q2, q3, q4].Nodup) {m1 : Nat} (hm1 : m1 = (p1.States).length) {m2 : Nat} (hm2 : m2 = (p1.Since).length) {m3 : Nat} (hm3 : m3 = (p1.Pulled).length) {m4 : Nat} (hm4 : m4 = (p1.Held).length) (hq0 : low[q0]? = some ⟨34, 5, [.agg [.int .i64 p1.Time, .sl q1 w1 0 m1, .sl q2 w2 0 m2, .sl q3 w3 0 m3, .sl q4 w4 0 m4]], w0⟩) (hq1 : low[q1]? = some ⟨3, 1, Yv (Yw .i64) p1.States, w1⟩) (hq2 : low[q2]? = some ⟨3, 1, Yv (Yw .i64) p1.Since, w2⟩) (hq3 : low[q3]? = some ⟨4, 1, Yv Yx p1.Pulled, w3⟩) (hq4 : low[q4]? = some ⟨4, 1, Yv Yx p1.Held, w4⟩) {n : Nat} (hn : low.length = n) :
    Yd Try.prog 36 [.vs 2 (Yv T_Belt.enc p0), .ptr q0 w0 0 0, .int .i64 p2] low fun x low' => x = .tup [] ∧ low' = setL low [(q0, ⟨34, 5, [.agg [.int .i64 r.Time, .sl q1 w1 0 m1, .sl q2 w2 0 m2, .sl q3 w3 0 m3, .sl q4 w4 0 m4]], w0⟩), (q1, ⟨3, 1, Yv (Yw .i64) r.States, w1⟩), (q2, ⟨3, 1, Yv (Yw .i64) r.Since, w2⟩), (q3, ⟨4, 1, Yv Yx r.Pulled, w3⟩), (q4, ⟨4, 1, Yv Yx r.Held, w4⟩)] ++ [] := by
  obtain ⟨h1, h2⟩ := bor_start (ps := [(q0, ⟨34, 5, [.agg [.int .i64 p1.Time, .sl q1 w1 0 m1, .sl q2 w2 0 m2, .sl q3 w3 0 m3, .sl q4 w4 0 m4]], w0⟩), (q1, ⟨3, 1, Yv (Yw .i64) p1.States, w1⟩), (q2, ⟨3, 1, Yv (Yw .i64) p1.Since, w2⟩), (q3, ⟨4, 1, Yv Yx p1.Pulled, w3⟩), (q4, ⟨4, 1, Yv Yx p1.Held, w4⟩)]) hnd (borC hq0 (borC hq1 (borC hq2 (borC hq3 (borC hq4 bor0)))))
  exact vcalls_low h1 (F_belts_stop_ok0 hF h2 hm1 hm2 hm3 hm4 hn)

theorem F_belts_Pull_1_ok0 {p0 : T_Line} {p1 : List T_Belt} {p2 : Int} {r : T_Line} (hF : F_belts_Pull_1 p0 p1 p2 = some r) {low0 : List AObj} {q0 q1 q2 q3 q4 q5 q6 w0 w1 w2 w3 w4 w5 w6 : Nat} (hB : Bor low0 [q0, q1, q2, q3, q4, q5, q6]) {m1 : Nat} (hm1 : m1 = (p0.States).length) {m2 : Nat} (hm2 : m2 = (p0.Since).length) {m3 : Nat} (hm3 : m3 = (p0.Pulled).length) {m4 : Nat} (hm4 : m4 = (p0.Held).length) {n : Nat} (hn : low0.length = n) :
    Yd Try.prog 35 [.ptr q0 w0 0 0, .ptr q5 w5 0 0, .ptr q6 w6 0 0] (setL low0 [(q0, ⟨34, 5, [.agg [.int .i64 p0.Time, .sl q1 w1 0 m1, .sl q2 w2 0 m2, .sl q3 w3 0 m3, .sl q4 w4 0 m4]], w0⟩), (q1, ⟨3, 1, Yv (Yw .i64) p0.States, w1⟩), (q2, ⟨3, 1, Yv (Yw .i64) p0.Since, w2⟩), (q3, ⟨4, 1, Yv Yx p0.Pulled, w3⟩), (q4, ⟨4, 1, Yv Yx p0.Held, w4⟩), (q5, ⟨27, 1, [.vs 2 (Yv T_Belt.enc p1)], w5⟩), (q6, ⟨3, 1, [.int .i64 p2], w6⟩)]) fun x low' => x = .tup [] ∧ low' = setL low0 [(q0, ⟨34, 5, [.agg [.int .i64 r.Time, .sl q1 w1 0 m1, .sl q2 w2 0 m2, .sl q3 w3 0 m3, .sl q4 w4 0 m4]], w0⟩), (q1, ⟨3, 1, Yv (Yw .i64) r.States, w1⟩), (q2, ⟨3, 1, Yv (Yw .i64) r.Since, w2⟩), (q3, ⟨4, 1, Yv Yx r.Pulled, w3⟩), (q4, ⟨4, 1, Yv Yx r.Held, w4⟩), (q5, ⟨27, 1, [.vs 2 (Yv T_Belt.enc p1)], w5⟩), (q6, ⟨3, 1, [.int .i64 p2], w6⟩)] ++ [] := by
 refine Vw (nt := 14) (rs := []) Try.func35 rfl rfl (Yz rfl) rfl ?_
 have hq0 : q0 < n := hB.ltN hn 0 rfl
 have hq1 : q1 < n := hB.ltN hn 1 rfl
 have hq2 : q2 < n := hB.ltN hn 2 rfl
 have hq3 : q3 < n := hB.ltN hn 3 rfl
 have hq4 : q4 < n := hB.ltN hn 4 rfl
 have hq5 : q5 < n := hB.ltN hn 5 rfl
 have hq6 : q6 < n := hB.ltN hn 6 rfl
 refine Vt (Q' := FnE (fun E' lw lc => m1 = (r.States).length ∧ m2 = (r.Since).length ∧ m3 = (r.Pulled).length ∧ m4 = (r.Held).length ∧ Xv E' lw lc [] (setL low0 [(q0, ⟨34, 5, [.agg [.int .i64 r.Time, .sl q1 w1 0 m1, .sl q2 w2 0 m2, .sl q3 w3 0 m3, .sl q4 w4 0 m4]], w0⟩), (q1, ⟨3, 1, Yv (Yw .i64) r.States, w1⟩), (q2, ⟨3, 1, Yv (Yw .i64) r.Since, w2⟩), (q3, ⟨4, 1, Yv Yx r.Pulled, w3⟩), (q4, ⟨4, 1, Yv Yx r.Held, w4⟩), (q5, ⟨27, 1, [.vs 2 (Yv T_Belt.enc p1)], w5⟩), (q6, ⟨3, 1, [.int .i64 p2], w6⟩)]) [])) ?_ ?_
 ·unfold F_belts_Pull_1 at hF
  refine Vg ?_
  refine Vd ?_
  obtain ⟨x5, h6, hF⟩ := Ym hF
  refine Va (Vf rfl (Xp hB rfl 5 rfl) rfl ta_27 rfl) rfl ?_
  refine Va (rd_mvP rfl) rfl ?_
  refine Va (Vf rfl (Xp hB rfl 6 rfl) rfl ta_3 rfl) rfl ?_
  refine Vk (vef_callS (ps := [(q0, ⟨34, 5, [.agg [.int .i64 x5.Time, .sl q1 w1 0 m1, .sl q2 w2 0 m2, .sl q3 w3 0 m3, .sl q4 w4 0 m4]], w0⟩), (q1, ⟨3, 1, Yv (Yw .i64) x5.States, w1⟩), (q2, ⟨3, 1, Yv (Yw .i64) x5.Since, w2⟩), (q3, ⟨4, 1, Yv Yx x5.Pulled, w3⟩), (q4, ⟨4, 1, Yv Yx x5.Held, w4⟩)]) (r := .tup []) (os := []) (low1 := (setL low0 [(q0, ⟨34, 5, [.agg [.int .i64 x5.Time, .sl q1 w1 0 m1, .sl q2 w2 0 m2, .sl q3 w3 0 m3, .sl q4 w4 0 m4]], w0⟩), (q1, ⟨3, 1, Yv (Yw .i64) x5.States, w1⟩), (q2, ⟨3, 1, Yv (Yw .i64) x5.Since, w2⟩), (q3, ⟨4, 1, Yv Yx x5.Pulled, w3⟩), (q4, ⟨4, 1, Yv Yx x5.Held, w4⟩), (q5, ⟨27, 1, [.vs 2 (Yv T_Belt.enc p1)], w5⟩), (q6, ⟨3, 1, [.int .i64 p2], w6⟩)])) (loc1 := []) (loc2 := []) rfl Try.call36 (F_belts_stop_ok h6 (nd1 (na1 (hB.ne 0 1 rfl rfl rfl) (na1 (hB.ne 0 2 rfl rfl rfl) (na1 (hB.ne 0 3 rfl rfl rfl) (na1 (hB.ne 0 4 rfl rfl rfl) na0)))) (nd1 (na1 (hB.ne 1 2 rfl rfl rfl) (na1 (hB.ne 1 3 rfl rfl rfl) (na1 (hB.ne 1 4 rfl rfl rfl) na0))) (nd1 (na1 (hB.ne 2 3 rfl rfl rfl) (na1 (hB.ne 2 4 rfl rfl rfl) na0)) (nd1 (na1 (hB.ne 3 4 rfl rfl rfl) na0) (nd1 na0 nd0))))) hm1 hm2 hm3 hm4 (get_B hB rfl 0 rfl) (get_B hB rfl 1 rfl) (get_B hB rfl 2 rfl) (get_B hB rfl 3 rfl) (get_B hB rfl 4 rfl) (Xi (Vq hn) rfl)) (sets_B (ps0' := [(q0, ⟨34, 5, [.agg [.int .i64 x5.Time, .sl q1 w1 0 m1, .sl q2 w2 0 m2, .sl q3 w3 0 m3, .sl q4 w4 0 m4]], w0⟩), (q1, ⟨3, 1, Yv (Yw .i64) p0.States, w1⟩), (q2, ⟨3, 1, Yv (Yw .i64) p0.Since, w2⟩), (q3, ⟨4, 1, Yv Yx p0.Pulled, w3⟩), (q4, ⟨4, 1, Yv Yx p0.Held, w4⟩), (q5, ⟨27, 1, [.vs 2 (Yv T_Belt.enc p1)], w5⟩), (q6, ⟨3, 1, [.int .i64 p2], w6⟩)]) hB rfl 0 rfl (ltObjN hn ⟨Xz ⟨.int _ _, .sl _ _ _ _ hq1, .sl _ _ _ _ hq2, .sl _ _ _ _ hq3, .sl _ _ _ _ hq4, trivial⟩, trivial⟩) rfl (sets_B (ps0' := [(q0, ⟨34, 5, [.agg [.int .i64 x5.Time, .sl q1 w1 0 m1, .sl q2 w2 0 m2, .sl q3 w3 0 m3, .sl q4 w4 0 m4]], w0⟩), (q1, ⟨3, 1, Yv (Yw .i64) x5.States, w1⟩), (q2, ⟨3, 1, Yv (Yw .i64) p0.Since, w2⟩), (q3, ⟨4, 1, Yv Yx p0.Pulled, w3⟩), (q4, ⟨4, 1, Yv Yx p0.Held, w4⟩), (q5, ⟨27, 1, [.vs 2 (Yv T_Belt.enc p1)], w5⟩), (q6, ⟨3, 1, [.int .i64 p2], w6⟩)]) hB rfl 1 rfl (Vo (fun _ => .int _ _)) rfl (sets_B (ps0' := [(q0, ⟨34, 5, [.agg [.int .i64 x5.Time, .sl q1 w1 0 m1, .sl q2 w2 0 m2, .sl q3 w3 0 m3, .sl q4 w4 0 m4]], w0⟩), (q1, ⟨3, 1, Yv (Yw .i64) x5.States, w1⟩), (q2, ⟨3, 1, Yv (Yw .i64) x5.Since, w2⟩), (q3, ⟨4, 1, Yv Yx p0.Pulled, w3⟩), (q4, ⟨4, 1, Yv Yx p0.Held, w4⟩), (q5, ⟨27, 1, [.vs 2 (Yv T_Belt.enc p1)], w5⟩), (q6, ⟨3, 1, [.int .i64 p2], w6⟩)]) hB rfl 2 rfl (Vo (fun _ => .int _ _)) rfl (sets_B (ps0' := [(q0, ⟨34, 5, [.agg [.int .i64 x5.Time, .sl q1 w1 0 m1, .sl q2 w2 0 m2, .sl q3 w3 0 m3, .sl q4 w4 0 m4]], w0⟩), (q1, ⟨3, 1, Yv (Yw .i64) x5.States, w1⟩), (q2, ⟨3, 1, Yv (Yw .i64) x5.Since, w2⟩), (q3, ⟨4, 1, Yv Yx x5.Pulled, w3⟩), (q4, ⟨4, 1, Yv Yx p0.Held, w4⟩), (q5, ⟨27, 1, [.vs 2 (Yv T_Belt.enc p1)], w5⟩), (q6, ⟨3, 1, [.int .i64 p2], w6⟩)]) hB rfl 3 rfl (Vo (fun _ => .bool _)) rfl (sets_B (ps0' := [(q0, ⟨34, 5, [.agg [.int .i64 x5.Time, .sl q1 w1 0 m1, .sl q2 w2 0 m2, .sl q3 w3 0 m3, .sl q4 w4 0 m4]], w0⟩), (q1, ⟨3, 1, Yv (Yw .i64) x5.States, w1⟩), (q2, ⟨3, 1, Yv (Yw .i64) x5.Since, w2⟩), (q3, ⟨4, 1, Yv Yx x5.Pulled, w3⟩), (q4, ⟨4, 1, Yv Yx x5.Held, w4⟩), (q5, ⟨27, 1, [.vs 2 (Yv T_Belt.enc p1)], w5⟩), (q6, ⟨3, 1, [.int .i64 p2], w6⟩)]) hB rfl 4 rfl (Vo (fun _ => .bool _)) rfl sets_nil))))) rfl) rfl ?_
  refine Ve ?_
  obtain ⟨x7, h8, hF⟩ := Ym hF
  refine vwp_drawn [[], [0], [0, 1], [0, 1, 2], [], [0, 1, 2, 3, 4], [0, 1, 2, 3, 4, 5]] [false, false, false, false, false, false, true] [((setL low0 [(q0, ⟨34, 5, [.agg [.int .i64 x5.Time, .sl q1 w1 0 m1, .sl q2 w2 0 m2, .sl q3 w3 0 m3, .sl q4 w4 0 m4]], w0⟩), (q1, ⟨3, 1, Yv (Yw .i64) x5.States, w1⟩), (q2, ⟨3, 1, Yv (Yw .i64) x5.Since, w2⟩), (q3, ⟨4, 1, Yv Yx x5.Pulled, w3⟩), (q4, ⟨4, 1, Yv Yx x5.Held, w4⟩), (q5, ⟨27, 1, [.vs 2 (Yv T_Belt.enc p1)], w5⟩), (q6, ⟨3, 1, [.int .i64 p2], w6⟩)]), []), ((setL low0 [(q0, ⟨34, 5, [.agg [.int .i64 x5.Time, .sl q1 w1 0 m1, .sl q2 w2 0 m2, .sl q3 w3 0 m3, .sl q4 w4 0 m4]], w0⟩), (q1, ⟨3, 1, Yv (Yw .i64) x5.States, w1⟩), (q2, ⟨3, 1, Yv (Yw .i64) x5.Since, w2⟩), (q3, ⟨4, 1, Yv Yx (x5.Pulled.set ((p2).toNat) true), w3⟩), (q4, ⟨4, 1, Yv Yx x5.Held, w4⟩), (q5, ⟨27, 1, [.vs 2 (Yv T_Belt.enc p1)], w5⟩), (q6, ⟨3, 1, [.int .i64 p2], w6⟩)]), [])] mixed (by kernel_rfl) rfl (lenAll (all1 Xe (all1 Xe all0))) rfl _ rfl rfl ?_
  refine Yq rfl rfl (rd_mvP rfl) ?_
  refine Yq rfl rfl (Yl rfl) ?_
  refine Yq rfl rfl (Vc rfl tf_34_3 ts_32 (by decide)) ?_
  refine Yq rfl rfl (Vf rfl (Xp hB rfl 0 rfl) rfl ta_32 rfl) ?_
  refine Yq rfl rfl (Vf rfl (Xp hB rfl 6 rfl) rfl ta_3 rfl) ?_
  refine Yq rfl rfl (rd_ixS rfl (F_belts_stop_len h6 hm1 hm2 hm3 hm4).2.2.1 rfl (Xp hB rfl 3 rfl) h8 te_32 ts_4) ?_
  refine dops_ef rfl rfl rfl (vef_stL (p := .bool true) (e' := true) rfl (Xp hB rfl 3 rfl) (getI_some h8).2 rfl ts_4 rfl (Yt rfl) (Yz rfl) rfl (setO_B hB rfl 3 rfl (Vo (fun _ => .bool _)) rfl)) ?_
  refine dops_nil ?_
  obtain rfl := Yy hF
  refine And.intro (.inl rfl) (And.intro (F_belts_stop_len h6 hm1 hm2 hm3 hm4).1 (And.intro (F_belts_stop_len h6 hm1 hm2 hm3 hm4).2.1 (And.intro (Eq.trans (F_belts_stop_len h6 hm1 hm2 hm3 hm4).2.2.1 List.length_set.symm) (And.intro (F_belts_stop_len h6 hm1 hm2 hm3 hm4).2.2.2.1 ?_))))
  exact Vn trivial
 ·rintro _ _ _ _ ⟨he, hl1, hl2, hl3, hl4, hw⟩
  refine ⟨_, _, _, hw, ?_⟩
  exact Ye he [] trivial ((lt_tup trivial)) ⟨rfl, (List.append_nil _).symm⟩

theorem F_belts_Pull_1_len {p0 : T_Line} {p1 : List T_Belt} {p2 : Int} {r : T_Line} (hF : F_belts_Pull_1 p0 p1 p2 = some r) {m1 : Nat} (hm1 : m1 = (p0.States).length) {m2 : Nat} (hm2 : m2 = (p0.Since).length) {m3 : Nat} (hm3 : m3 = (p0.Pulled).length) {m4 : Nat} (hm4 : m4 = (p0.Held).length) : m1 = (r.States).length ∧ m2 = (r.Since).length ∧ m3 = (r.Pulled).length ∧ m4 = (r.Held).length ∧ True := by
  have h : LP (F_belts_Pull_1 p0 p1 p2) (fun r => m1 = (r.States).length ∧ m2 = (r.Since).length ∧ m3 = (r.Pulled).length ∧ m4 = (r.Held).length ∧ True) := by
    unfold F_belts_Pull_1
    exact (lp_bindE fun x5 h6 => lp_bindE fun x7 h8 => lp_some ⟨(F_belts_stop_len h6 hm1 hm2 hm3 hm4).1, (F_belts_stop_len h6 hm1 hm2 hm3 hm4).2.1, (Eq.trans (F_belts_stop_len h6 hm1 hm2 hm3 hm4).2.2.1 List.length_set.symm), (F_belts_stop_len h6 hm1 hm2 hm3 hm4).2.2.2.1, trivial⟩)
  exact h r hF

theorem F_belts_Pull_1_ok {p0 : T_Line} {p1 : List T_Belt} {p2 : Int} {r : T_Line} (hF : F_belts_Pull_1 p0 p1 p2 = some r) {low : List AObj} {q0 q1 q2 q3 q4 q5 q6 w0 w1 w2 w3 w4 w5 w6 : Nat} (hnd : [q0, q1, q2, q3, q4, q5, q6].Nodup) {m1 : Nat} (hm1 : m1 = (p0.States).length) {m2 : Nat} (hm2 : m2 = (p0.Since).length) {m3 : Nat} (hm3 : m3 = (p0.Pulled).length) {m4 : Nat} (hm4 : m4 = (p0.Held).length) (hq0 : low[q0]? = some ⟨34, 5, [.agg [.int .i64 p0.Time, .sl q1 w1 0 m1, .sl q2 w2 0 m2, .sl q3 w3 0 m3, .sl q4 w4 0 m4]], w0⟩) (hq1 : low[q1]? = some ⟨3, 1, Yv (Yw .i64) p0.States, w1⟩) (hq2 : low[q2]? = some ⟨3, 1, Yv (Yw .i64) p0.Since, w2⟩) (hq3 : low[q3]? = some ⟨4, 1, Yv Yx p0.Pulled, w3⟩) (hq4 : low[q4]? = some ⟨4, 1, Yv Yx p0.Held, w4⟩) (hq5 : low[q5]? = some ⟨27, 1, [.vs 2 (Yv T_Belt.enc p1)], w5⟩) (hq6 : low[q6]? = some ⟨3, 1, [.int .i64 p2], w6⟩) {n : Nat} (hn : low.length = n) :
    Yd Try.prog 35 [.ptr q0 w0 0 0, .ptr q5 w5 0 0, .ptr q6 w6 0 0] low fun x low' => x = .tup [] ∧ low' = setL low [(q0, ⟨34, 5, [.agg [.int .i64 r.Time, .sl q1 w1 0 m1, .sl q2 w2 0 m2, .sl q3 w3 0 m3, .sl q4 w4 0 m4]], w0⟩), (q1, ⟨3, 1, Yv (Yw .i64) r.States, w1⟩), (q2, ⟨3, 1, Yv (Yw .i64) r.Since, w2⟩), (q3, ⟨4, 1, Yv Yx r.Pulled, w3⟩), (q4, ⟨4, 1, Yv Yx r.Held, w4⟩), (q5, ⟨27, 1, [.vs 2 (Yv T_Belt.enc p1)], w5⟩), (q6, ⟨3, 1, [.int .i64 p2], w6⟩)] ++ [] := by
  obtain ⟨h1, h2⟩ := bor_start (ps := [(q0, ⟨34, 5, [.agg [.int .i64 p0.Time, .sl q1 w1 0 m1, .sl q2 w2 0 m2, .sl q3 w3 0 m3, .sl q4 w4 0 m4]], w0⟩), (q1, ⟨3, 1, Yv (Yw .i64) p0.States, w1⟩), (q2, ⟨3, 1, Yv (Yw .i64) p0.Since, w2⟩), (q3, ⟨4, 1, Yv Yx p0.Pulled, w3⟩), (q4, ⟨4, 1, Yv Yx p0.Held, w4⟩), (q5, ⟨27, 1, [.vs 2 (Yv T_Belt.enc p1)], w5⟩), (q6, ⟨3, 1, [.int .i64 p2], w6⟩)]) hnd (borC hq0 (borC hq1 (borC hq2 (borC hq3 (borC hq4 (borC hq5 (borC hq6 bor0)))))))
  exact vcalls_low h1 (F_belts_Pull_1_ok0 hF h2 hm1 hm2 hm3 hm4 hn)

theorem F_belts_done__belts_Pull_1_ok0 {p0 : T_Line} {pc10 : List T_Belt} {pc11 : Int} {r : T_Line} (hF : F_belts_done__belts_Pull_1 p0 pc10 pc11 = some r) {low0 : List AObj} {q0 q1 w0 w1 : Nat} (hB : Bor low0 [q0, q1]) {n : Nat} (hn : low0.length = n) :
    Yd Try.prog 31 [.agg [.int .i64 p0.Time, .vs 1 (Yv (Yw .i64) p0.States), .vs 1 (Yv (Yw .i64) p0.Since), .vs 1 (Yv Yx p0.Pulled), .vs 1 (Yv Yx p0.Held)], .fn 35 [] [.ptr q0 w0 0 0, .ptr q1 w1 0 0]] (setL low0 [(q0, ⟨27, 1, [.vs 2 (Yv T_Belt.enc pc10)], w0⟩), (q1, ⟨3, 1, [.int .i64 pc11], w1⟩)]) fun x low' => x = .agg [.int .i64 r.Time, .sl (n + 0) 0 0 (r.States).length, .sl (n + 1) 0 0 (r.Since).length, .sl (n + 2) 0 0 (r.Pulled).length, .vs 1 (Yv Yx r.Held)] ∧ low' = setL low0 [(q0, ⟨27, 1, [.vs 2 (Yv T_Belt.enc pc10)], w0⟩), (q1, ⟨3, 1, [.int .i64 pc11], w1⟩)] ++ [⟨3, 1, Yv (Yw .i64) r.States, 0⟩, ⟨3, 1, Yv (Yw .i64) r.Since, 0⟩, ⟨4, 1, Yv Yx r.Pulled, 0⟩] := by
 refine Vw (nt := 24) (rs := [.cell 4 34]) Try.func31 rfl rfl (Yz rfl) rfl ?_
 have hq0 : q0 < n := hB.ltN hn 0 rfl
 have hq1 : q1 < n := hB.ltN hn 1 rfl
 refine Vt (Q' := FnE (fun E' lw lc => Xv E' lw lc [(4, .ptr (n + 3) 0 0 0)] (setL low0 [(q0, ⟨27, 1, [.vs 2 (Yv T_Belt.enc pc10)], w0⟩), (q1, ⟨3, 1, [.int .i64 pc11], w1⟩)]) [⟨3, 1, Yv (Yw .i64) r.States, 0⟩, ⟨3, 1, Yv (Yw .i64) r.Since, 0⟩, ⟨4, 1, Yv Yx r.Pulled, 0⟩, ⟨34, 5, [.agg [.int .i64 r.Time, .sl (n + 0) 0 0 (r.States).length, .sl (n + 1) 0 0 (r.Since).length, .sl (n + 2) 0 0 (r.Pulled).length, .vs 1 (Yv Yx r.Held)]], 0⟩])) ?_ ?_
 ·unfold F_belts_done__belts_Pull_1 at hF
  refine Vg ?_
  refine Vd ?_
  refine Vk (vef_boxN (Vq hn) rfl (v := .agg [.int .i64 p0.Time, .vs 1 (Yv (Yw .i64) p0.States), .vs 1 (Yv (Yw .i64) p0.Since), .vs 1 (Yv Yx p0.Pulled), .vs 1 (Yv Yx p0.Held)]) rfl rfl (Za _) rfl rfl) rfl ?_
  refine Vk (Xm (Vq hn) rfl tz_34 rfl rfl (Za _) rfl) rfl ?_
  refine Ve ?_
  refine Vg ?_
  obtain ⟨x1, h2, hF⟩ := Ym hF
  obtain ⟨x3, h4, hF⟩ := Ym hF
  obtain ⟨x5, h6, hF⟩ := Ym hF
  obtain ⟨x7, h8, hF⟩ := Ym hF
  refine Xw (Yo 3 1 (Za _)) ?_
  refine Xw (Yo 3 1 (Za _)) ?_
  refine Xw (Yo 4 1 (Za _)) ?_
  refine Xw (Yo 4 1 (Za _)) ?_
  refine Xw (Yo 34 5 (Za _)) ?_
  refine vwp_drawnX [[], [0], [], [2], [2, 3], [], [5], [2, 3, 4, 5, 6], [], [8], [2, 3, 4, 5, 6, 7, 8, 9], [], [11], [2, 3, 4, 5, 6, 7, 8, 9, 10, 11, 12], [0, 1, 2, 3, 4, 5, 6, 7, 8, 9, 10, 11, 12, 13], [], [0, 1, 2, 3, 4, 5, 6, 7, 8, 9, 10, 11, 12, 13, 14, 15]] [false, false, false, false, true, false, false, true, false, false, true, false, false, true, false, true, true] [([], (setL low0 [(q0, ⟨27, 1, [.vs 2 (Yv T_Belt.enc pc10)], w0⟩), (q1, ⟨3, 1, [.int .i64 pc11], w1⟩)]), [⟨34, 5, [.agg [.int .i64 p0.Time, .vs 1 (Yv (Yw .i64) p0.States), .vs 1 (Yv (Yw .i64) p0.Since), .vs 1 (Yv Yx p0.Pulled), .vs 1 (Yv Yx p0.Held)]], 0⟩, ⟨34, 5, [.agg [.int .i64 0, .nils, .nils, .nils, .nils]], 0⟩, ⟨3, 1, [], 0⟩, ⟨3, 1, [], 0⟩, ⟨4, 1, [], 0⟩, ⟨4, 1, [], 0⟩, ⟨34, 5, [], 0⟩]), ([4], (setL low0 [(q0, ⟨27, 1, [.vs 2 (Yv T_Belt.enc pc10)], w0⟩), (q1, ⟨3, 1, [.int .i64 pc11], w1⟩)]), [⟨34, 5, [.agg [.int .i64 p0.Time, .vs 1 (Yv (Yw .i64) p0.States), .vs 1 (Yv (Yw .i64) p0.Since), .vs 1 (Yv Yx p0.Pulled), .vs 1 (Yv Yx p0.Held)]], 0⟩, ⟨34, 5, [.agg [.int .i64 0, .nils, .nils, .nils, .nils]], 0⟩, ⟨3, 1, Yv (Yw .i64) x1, 1⟩, ⟨3, 1, [], 0⟩, ⟨4, 1, [], 0⟩, ⟨4, 1, [], 0⟩, ⟨34, 5, [], 0⟩]), ([15], (setL low0 [(q0, ⟨27, 1, [.vs 2 (Yv T_Belt.enc pc10)], w0⟩), (q1, ⟨3, 1, [.int .i64 pc11], w1⟩)]), [⟨34, 5, [.agg [.int .i64 p0.Time, .vs 1 (Yv (Yw .i64) p0.States), .vs 1 (Yv (Yw .i64) p0.Since), .vs 1 (Yv Yx p0.Pulled), .vs 1 (Yv Yx p0.Held)]], 0⟩, ⟨34, 5, [.agg [.int .i64 0, .nils, .nils, .nils, .nils]], 0⟩, ⟨3, 1, [], 0⟩, ⟨3, 1, [], 0⟩, ⟨4, 1, [], 0⟩, ⟨4, 1, [], 0⟩, ⟨34, 5, [.agg [.int .i64 0, .nils, .nils, .nils, .nils]], 1⟩]), ([4, 7], (setL low0 [(q0, ⟨27, 1, [.vs 2 (Yv T_Belt.enc pc10)], w0⟩), (q1, ⟨3, 1, [.int .i64 pc11], w1⟩)]), [⟨34, 5, [.agg [.int .i64 p0.Time, .vs 1 (Yv (Yw .i64) p0.States), .vs 1 (Yv (Yw .i64) p0.Since), .vs 1 (Yv Yx p0.Pulled), .vs 1 (Yv Yx p0.Held)]], 0⟩, ⟨34, 5, [.agg [.int .i64 0, .nils, .nils, .nils, .nils]], 0⟩, ⟨3, 1, Yv (Yw .i64) x1, 1⟩, ⟨3, 1, Yv (Yw .i64) x3, 1⟩, ⟨4, 1, [], 0⟩, ⟨4, 1, [], 0⟩, ⟨34, 5, [], 0⟩]), ([4, 15], (setL low0 [(q0, ⟨27, 1, [.vs 2 (Yv T_Belt.enc pc10)], w0⟩), (q1, ⟨3, 1, [.int .i64 pc11], w1⟩)]), [⟨34, 5, [.agg [.int .i64 p0.Time, .vs 1 (Yv (Yw .i64) p0.States), .vs 1 (Yv (Yw .i64) p0.Since), .vs 1 (Yv Yx p0.Pulled), .vs 1 (Yv Yx p0.Held)]], 0⟩, ⟨34, 5, [.agg [.int .i64 0, .nils, .nils, .nils, .nils]], 0⟩, ⟨3, 1, Yv (Yw .i64) x1, 1⟩, ⟨3, 1, [], 0⟩, ⟨4, 1, [], 0⟩, ⟨4, 1, [], 0⟩, ⟨34, 5, [.agg [.int .i64 0, .nils, .nils, .nils, .nils]], 1⟩]), ([4, 7, 10], (setL low0 [(q0, ⟨27, 1, [.vs 2 (Yv T_Belt.enc pc10)], w0⟩), (q1, ⟨3, 1, [.int .i64 pc11], w1⟩)]), [⟨34, 5, [.agg [.int .i64 p0.Time, .vs 1 (Yv (Yw .i64) p0.States), .vs 1 (Yv (Yw .i64) p0.Since), .vs 1 (Yv Yx p0.Pulled), .vs 1 (Yv Yx p0.Held)]], 0⟩, ⟨34, 5, [.agg [.int .i64 0, .nils, .nils, .nils, .nils]], 0⟩, ⟨3, 1, Yv (Yw .i64) x1, 1⟩, ⟨3, 1, Yv (Yw .i64) x3, 1⟩, ⟨4, 1, Yv Yx x5, 1⟩, ⟨4, 1, [], 0⟩, ⟨34, 5, [], 0⟩]), ([4, 7, 15], (setL low0 [(q0, ⟨27, 1, [.vs 2 (Yv T_Belt.enc pc10)], w0⟩), (q1, ⟨3, 1, [.int .i64 pc11], w1⟩)]), [⟨34, 5, [.agg [.int .i64 p0.Time, .vs 1 (Yv (Yw .i64) p0.States), .vs 1 (Yv (Yw .i64) p0.Since), .vs 1 (Yv Yx p0.Pulled), .vs 1 (Yv Yx p0.Held)]], 0⟩, ⟨34, 5, [.agg [.int .i64 0, .nils, .nils, .nils, .nils]], 0⟩, ⟨3, 1, Yv (Yw .i64) x1, 1⟩, ⟨3, 1, Yv (Yw .i64) x3, 1⟩, ⟨4, 1, [], 0⟩, ⟨4, 1, [], 0⟩, ⟨34, 5, [.agg [.int .i64 0, .nils, .nils, .nils, .nils]], 1⟩]), ([4, 7, 10, 13], (setL low0 [(q0, ⟨27, 1, [.vs 2 (Yv T_Belt.enc pc10)], w0⟩), (q1, ⟨3, 1, [.int .i64 pc11], w1⟩)]), [⟨34, 5, [.agg [.int .i64 p0.Time, .vs 1 (Yv (Yw .i64) p0.States), .vs 1 (Yv (Yw .i64) p0.Since), .vs 1 (Yv Yx p0.Pulled), .vs 1 (Yv Yx p0.Held)]], 0⟩, ⟨34, 5, [.agg [.int .i64 0, .nils, .nils, .nils, .nils]], 0⟩, ⟨3, 1, Yv (Yw .i64) x1, 1⟩, ⟨3, 1, Yv (Yw .i64) x3, 1⟩, ⟨4, 1, Yv Yx x5, 1⟩, ⟨4, 1, Yv Yx x7, 1⟩, ⟨34, 5, [], 0⟩]), ([4, 7, 10, 15], (setL low0 [(q0, ⟨27, 1, [.vs 2 (Yv T_Belt.enc pc10)], w0⟩), (q1, ⟨3, 1, [.int .i64 pc11], w1⟩)]), [⟨34, 5, [.agg [.int .i64 p0.Time, .vs 1 (Yv (Yw .i64) p0.States), .vs 1 (Yv (Yw .i64) p0.Since), .vs 1 (Yv Yx p0.Pulled), .vs 1 (Yv Yx p0.Held)]], 0⟩, ⟨34, 5, [.agg [.int .i64 0, .nils, .nils, .nils, .nils]], 0⟩, ⟨3, 1, Yv (Yw .i64) x1, 1⟩, ⟨3, 1, Yv (Yw .i64) x3, 1⟩, ⟨4, 1, Yv Yx x5, 1⟩, ⟨4, 1, [], 0⟩, ⟨34, 5, [.agg [.int .i64 0, .nils, .nils, .nils, .nils]], 1⟩]), ([4, 7, 10, 13, 15], (setL low0 [(q0, ⟨27, 1, [.vs 2 (Yv T_Belt.enc pc10)], w0⟩), (q1, ⟨3, 1, [.int .i64 pc11], w1⟩)]), [⟨34, 5, [.agg [.int .i64 p0.Time, .vs 1 (Yv (Yw .i64) p0.States), .vs 1 (Yv (Yw .i64) p0.Since), .vs 1 (Yv Yx p0.Pulled), .vs 1 (Yv Yx p0.Held)]], 0⟩, ⟨34, 5, [.agg [.int .i64 0, .nils, .nils, .nils, .nils]], 0⟩, ⟨3, 1, Yv (Yw .i64) x1, 1⟩, ⟨3, 1, Yv (Yw .i64) x3, 1⟩, ⟨4, 1, Yv Yx x5, 1⟩, ⟨4, 1, Yv Yx x7, 1⟩, ⟨34, 5, [.agg [.int .i64 0, .nils, .nils, .nils, .nils]], 1⟩]), ([4, 7, 10, 13, 15, 16], (setL low0 [(q0, ⟨27, 1, [.vs 2 (Yv T_Belt.enc pc10)], w0⟩), (q1, ⟨3, 1, [.int .i64 pc11], w1⟩)]), [⟨34, 5, [.agg [.int .i64 p0.Time, .vs 1 (Yv (Yw .i64) p0.States), .vs 1 (Yv (Yw .i64) p0.Since), .vs 1 (Yv Yx p0.Pulled), .vs 1 (Yv Yx p0.Held)]], 0⟩, ⟨34, 5, [.agg [.int .i64 0, .nils, .nils, .nils, .nils]], 0⟩, ⟨3, 1, Yv (Yw .i64) x1, 1⟩, ⟨3, 1, Yv (Yw .i64) x3, 1⟩, ⟨4, 1, Yv Yx x5, 1⟩, ⟨4, 1, Yv Yx x7, 1⟩, ⟨34, 5, [.agg [.int .i64 p0.Time, .sl (n + 2) 1 0 (x1).length, .sl (n + 3) 1 0 (x3).length, .sl (n + 4) 1 0 (x5).length, .sl (n + 5) 1 0 (x7).length]], 1⟩])] mixed (by kernel_rfl) rfl (lenAllX (Yk Xe (Yk Xe (Yk Xe (Yk Xe (Yk Xe (Yk Xe (Yk Xe (Yk Xe (Yk Xe (Yk Xe (Yk Xe allx0)))))))))))) rfl [4, 7, 10, 13, 15, 16] ((setL low0 [(q0, ⟨27, 1, [.vs 2 (Yv T_Belt.enc pc10)], w0⟩), (q1, ⟨3, 1, [.int .i64 pc11], w1⟩)]), [⟨34, 5, [.agg [.int .i64 p0.Time, .vs 1 (Yv (Yw .i64) p0.States), .vs 1 (Yv (Yw .i64) p0.Since), .vs 1 (Yv Yx p0.Pulled), .vs 1 (Yv Yx p0.Held)]], 0⟩, ⟨34, 5, [.agg [.int .i64 0, .nils, .nils, .nils, .nils]], 0⟩, ⟨3, 1, Yv (Yw .i64) x1, 1⟩, ⟨3, 1, Yv (Yw .i64) x3, 1⟩, ⟨4, 1, Yv Yx x5, 1⟩, ⟨4, 1, Yv Yx x7, 1⟩, ⟨34, 5, [.agg [.int .i64 p0.Time, .sl (n + 2) 1 0 (x1).length, .sl (n + 3) 1 0 (x3).length, .sl (n + 4) 1 0 (x5).length, .sl (n + 5) 1 0 (x7).length]], 1⟩]) rfl rfl ?_
  refine Xu _ rfl rfl (Xo (VRd.ntl (Vc rfl tf_34_0 ts_3 (by decide))) (Xo (VRd.ntl (Vc rfl tf_34_0 ts_3 (by decide))) (Xo (VRd.ntl (Vc rfl tf_34_0 ts_3 (by decide))) (Xo (VRd.ntl (Vc rfl tf_34_0 ts_3 (by decide))) (Xo (VRd.ntl (Vc rfl tf_34_0 ts_3 (by decide))) (Xo (VRd.ntl (Vc rfl tf_34_0 ts_3 (by decide))) (Xo (VRd.ntl (Vc rfl tf_34_0 ts_3 (by decide))) (Xo (VRd.ntl (Vc rfl tf_34_0 ts_3 (by decide))) (Xo (VRd.ntl (Vc rfl tf_34_0 ts_3 (by decide))) (Xo (VRd.ntl (Vc rfl tf_34_0 ts_3 (by decide))) rx0)))))))))) ?_
  refine Xu _ rfl rfl (Xo (VRd.ntl (Vf rfl (Vi (Vq hn) rfl) rfl ta_3 rfl)) (Xo (VRd.ntl (Vf rfl (Vi (Vq hn) rfl) rfl ta_3 rfl)) (Xo (VRd.ntl (Vf rfl (Vi (Vq hn) rfl) rfl ta_3 rfl)) (Xo (VRd.ntl (Vf rfl (Vi (Vq hn) rfl) rfl ta_3 rfl)) (Xo (VRd.ntl (Vf rfl (Vi (Vq hn) rfl) rfl ta_3 rfl)) (Xo (VRd.ntl (Vf rfl (Vi (Vq hn) rfl) rfl ta_3 rfl)) (Xo (VRd.ntl (Vf rfl (Vi (Vq hn) rfl) rfl ta_3 rfl)) (Xo (VRd.ntl (Vf rfl (Vi (Vq hn) rfl) rfl ta_3 rfl)) (Xo (VRd.ntl (Vf rfl (Vi (Vq hn) rfl) rfl ta_3 rfl)) (Xo (VRd.ntl (Vf rfl (Vi (Vq hn) rfl) rfl ta_3 rfl)) rx0)))))))))) ?_
  refine Xu _ rfl rfl (Xo (VRd.ntl (Vc rfl tf_34_1 ts_22 (by decide))) (Xo (VRd.ntl (Vc rfl tf_34_1 ts_22 (by decide))) rx0)) ?_
  refine Xu _ rfl rfl (Xo (VRd.ntl (Vf rfl (Vi (Vq hn) rfl) rfl ta_22 rfl)) (Xo (VRd.ntl (Vf rfl (Vi (Vq hn) rfl) rfl ta_22 rfl)) rx0)) ?_
  refine Yu _ rfl rfl (ex1 1 rfl (Vr (f := 7) (k := 2) (m := 1) (os := [⟨3, 1, Yv (Yw .i64) x1, 0⟩]) (os' := [⟨3, 1, Yv (Yw .i64) x1, 1⟩]) (v := .sl (n + 7) 0 0 (x1).length) (Vq hn) rfl rfl ⟨⟨_, rfl, rfl⟩, trivial⟩ (Xk (r := .sl (n + 7) 0 0 (x1).length) (os := [⟨3, 1, Yv (Yw .i64) x1, 0⟩]) rfl Try.call54 (F_slices_Clone___int_int__ok h2 _ (Xi (Vq hn) rfl))) (Ya 0 rfl rfl rfl rfl) ⟨.same _ _ _ (Vo (fun _ => .int _ _)), trivial⟩ rfl) (ex1 4 rfl (Vr (f := 7) (k := 2) (m := 1) (os := [⟨3, 1, Yv (Yw .i64) x1, 0⟩]) (os' := [⟨3, 1, Yv (Yw .i64) x1, 1⟩]) (v := .sl (n + 7) 0 0 (x1).length) (Vq hn) rfl rfl ⟨⟨_, rfl, rfl⟩, trivial⟩ (Xk (r := .sl (n + 7) 0 0 (x1).length) (os := [⟨3, 1, Yv (Yw .i64) x1, 0⟩]) rfl Try.call54 (F_slices_Clone___int_int__ok h2 _ (Xi (Vq hn) rfl))) (Ya 0 rfl rfl rfl rfl) ⟨.same _ _ _ (Vo (fun _ => .int _ _)), trivial⟩ rfl) ex0)) ?_
  refine Xu _ rfl rfl (Xo (VRd.ntl (Vc rfl tf_34_2 ts_22 (by decide))) (Xo (VRd.ntl (Vc rfl tf_34_2 ts_22 (by decide))) (Xo (VRd.ntl (Vc rfl tf_34_2 ts_22 (by decide))) (Xo (VRd.ntl (Vc rfl tf_34_2 ts_22 (by decide))) rx0)))) ?_
  refine Xu _ rfl rfl (Xo (VRd.ntl (Vf rfl (Vi (Vq hn) rfl) rfl ta_22 rfl)) (Xo (VRd.ntl (Vf rfl (Vi (Vq hn) rfl) rfl ta_22 rfl)) (Xo (VRd.ntl (Vf rfl (Vi (Vq hn) rfl) rfl ta_22 rfl)) (Xo (VRd.ntl (Vf rfl (Vi (Vq hn) rfl) rfl ta_22 rfl)) rx0)))) ?_
  refine Yu _ rfl rfl (ex1 3 rfl (Vr (f := 7) (k := 3) (m := 1) (os := [⟨3, 1, Yv (Yw .i64) x3, 0⟩]) (os' := [⟨3, 1, Yv (Yw .i64) x3, 1⟩]) (v := .sl (n + 7) 0 0 (x3).length) (Vq hn) rfl rfl ⟨⟨_, rfl, rfl⟩, trivial⟩ (Xk (r := .sl (n + 7) 0 0 (x3).length) (os := [⟨3, 1, Yv (Yw .i64) x3, 0⟩]) rfl Try.call54 (F_slices_Clone___int_int__ok h4 _ (Xi (Vq hn) rfl))) (Ya 0 rfl rfl rfl rfl) ⟨.same _ _ _ (Vo (fun _ => .int _ _)), trivial⟩ rfl) (ex1 6 rfl (Vr (f := 7) (k := 3) (m := 1) (os := [⟨3, 1, Yv (Yw .i64) x3, 0⟩]) (os' := [⟨3, 1, Yv (Yw .i64) x3, 1⟩]) (v := .sl (n + 7) 0 0 (x3).length) (Vq hn) rfl rfl ⟨⟨_, rfl, rfl⟩, trivial⟩ (Xk (r := .sl (n + 7) 0 0 (x3).length) (os := [⟨3, 1, Yv (Yw .i64) x3, 0⟩]) rfl Try.call54 (F_slices_Clone___int_int__ok h4 _ (Xi (Vq hn) rfl))) (Ya 0 rfl rfl rfl rfl) ⟨.same _ _ _ (Vo (fun _ => .int _ _)), trivial⟩ rfl) ex0)) ?_
  refine Xu _ rfl rfl (Xo (VRd.ntl (Vc rfl tf_34_3 ts_32 (by decide))) (Xo (VRd.ntl (Vc rfl tf_34_3 ts_32 (by decide))) (Xo (VRd.ntl (Vc rfl tf_34_3 ts_32 (by decide))) (Xo (VRd.ntl (Vc rfl tf_34_3 ts_32 (by decide))) (Xo (VRd.ntl (Vc rfl tf_34_3 ts_32 (by decide))) (Xo (VRd.ntl (Vc rfl tf_34_3 ts_32 (by decide))) rx0)))))) ?_
  refine Xu _ rfl rfl (Xo (VRd.ntl (Vf rfl (Vi (Vq hn) rfl) rfl ta_32 rfl)) (Xo (VRd.ntl (Vf rfl (Vi (Vq hn) rfl) rfl ta_32 rfl)) (Xo (VRd.ntl (Vf rfl (Vi (Vq hn) rfl) rfl ta_32 rfl)) (Xo (VRd.ntl (Vf rfl (Vi (Vq hn) rfl) rfl ta_32 rfl)) (Xo (VRd.ntl (Vf rfl (Vi (Vq hn) rfl) rfl ta_32 rfl)) (Xo (VRd.ntl (Vf rfl (Vi (Vq hn) rfl) rfl ta_32 rfl)) rx0)))))) ?_
  refine Yu _ rfl rfl (ex1 5 rfl (Vr (f := 7) (k := 4) (m := 1) (os := [⟨4, 1, Yv Yx x5, 0⟩]) (os' := [⟨4, 1, Yv Yx x5, 1⟩]) (v := .sl (n + 7) 0 0 (x5).length) (Vq hn) rfl rfl ⟨⟨_, rfl, rfl⟩, trivial⟩ (Xk (r := .sl (n + 7) 0 0 (x5).length) (os := [⟨4, 1, Yv Yx x5, 0⟩]) rfl Try.call55 (F_slices_Clone___bool_bool__ok h6 _ (Xi (Vq hn) rfl))) (Ya 0 rfl rfl rfl rfl) ⟨.same _ _ _ (Vo (fun _ => .bool _)), trivial⟩ rfl) (ex1 8 rfl (Vr (f := 7) (k := 4) (m := 1) (os := [⟨4, 1, Yv Yx x5, 0⟩]) (os' := [⟨4, 1, Yv Yx x5, 1⟩]) (v := .sl (n + 7) 0 0 (x5).length) (Vq hn) rfl rfl ⟨⟨_, rfl, rfl⟩, trivial⟩ (Xk (r := .sl (n + 7) 0 0 (x5).length) (os := [⟨4, 1, Yv Yx x5, 0⟩]) rfl Try.call55 (F_slices_Clone___bool_bool__ok h6 _ (Xi (Vq hn) rfl))) (Ya 0 rfl rfl rfl rfl) ⟨.same _ _ _ (Vo (fun _ => .bool _)), trivial⟩ rfl) ex0)) ?_
  refine Xu _ rfl rfl (Xo (VRd.ntl (Vc rfl tf_34_4 ts_32 (by decide))) (Xo (VRd.ntl (Vc rfl tf_34_4 ts_32 (by decide))) (Xo (VRd.ntl (Vc rfl tf_34_4 ts_32 (by decide))) (Xo (VRd.ntl (Vc rfl tf_34_4 ts_32 (by decide))) (Xo (VRd.ntl (Vc rfl tf_34_4 ts_32 (by decide))) (Xo (VRd.ntl (Vc rfl tf_34_4 ts_32 (by decide))) (Xo (VRd.ntl (Vc rfl tf_34_4 ts_32 (by decide))) (Xo (VRd.ntl (Vc rfl tf_34_4 ts_32 (by decide))) rx0)))))))) ?_
  refine Xu _ rfl rfl (Xo (VRd.ntl (Vf rfl (Vi (Vq hn) rfl) rfl ta_32 rfl)) (Xo (VRd.ntl (Vf rfl (Vi (Vq hn) rfl) rfl ta_32 rfl)) (Xo (VRd.ntl (Vf rfl (Vi (Vq hn) rfl) rfl ta_32 rfl)) (Xo (VRd.ntl (Vf rfl (Vi (Vq hn) rfl) rfl ta_32 rfl)) (Xo (VRd.ntl (Vf rfl (Vi (Vq hn) rfl) rfl ta_32 rfl)) (Xo (VRd.ntl (Vf rfl (Vi (Vq hn) rfl) rfl ta_32 rfl)) (Xo (VRd.ntl (Vf rfl (Vi (Vq hn) rfl) rfl ta_32 rfl)) (Xo (VRd.ntl (Vf rfl (Vi (Vq hn) rfl) rfl ta_32 rfl)) rx0)))))))) ?_
  refine Yu _ rfl rfl (ex1 7 rfl (Vr (f := 7) (k := 5) (m := 1) (os := [⟨4, 1, Yv Yx x7, 0⟩]) (os' := [⟨4, 1, Yv Yx x7, 1⟩]) (v := .sl (n + 7) 0 0 (x7).length) (Vq hn) rfl rfl ⟨⟨_, rfl, rfl⟩, trivial⟩ (Xk (r := .sl (n + 7) 0 0 (x7).length) (os := [⟨4, 1, Yv Yx x7, 0⟩]) rfl Try.call55 (F_slices_Clone___bool_bool__ok h8 _ (Xi (Vq hn) rfl))) (Ya 0 rfl rfl rfl rfl) ⟨.same _ _ _ (Vo (fun _ => .bool _)), trivial⟩ rfl) (ex1 9 rfl (Vr (f := 7) (k := 5) (m := 1) (os := [⟨4, 1, Yv Yx x7, 0⟩]) (os' := [⟨4, 1, Yv Yx x7, 1⟩]) (v := .sl (n + 7) 0 0 (x7).length) (Vq hn) rfl rfl ⟨⟨_, rfl, rfl⟩, trivial⟩ (Xk (r := .sl (n + 7) 0 0 (x7).length) (os := [⟨4, 1, Yv Yx x7, 0⟩]) rfl Try.call55 (F_slices_Clone___bool_bool__ok h8 _ (Xi (Vq hn) rfl))) (Ya 0 rfl rfl rfl rfl) ⟨.same _ _ _ (Vo (fun _ => .bool _)), trivial⟩ rfl) ex0)) ?_
  refine Xu _ rfl rfl (Xo (VRd.ntl (rd_build (vs := [(0, .int .i64 p0.Time), (1, .sl (n + 2) 1 0 (x1).length), (2, .sl (n + 3) 1 0 (x3).length), (3, .sl (n + 4) 1 0 (x5).length), (4, .sl (n + 5) 1 0 (x7).length)]) (ds := [.int .i64 p0.Time, .sl (n + 2) 1 0 (x1).length, .sl (n + 3) 1 0 (x3).length, .sl (n + 4) 1 0 (x5).length, .sl (n + 5) 1 0 (x7).length]) tz_34 rfl rfl tp_34 ⟨rfl, rfl, rfl, rfl, rfl, rfl, rfl, rfl, rfl, rfl, trivial⟩ (nt_all2 rfl) rfl)) (Xo (VRd.ntl (rd_build (vs := [(0, .int .i64 p0.Time), (1, .sl (n + 2) 1 0 (x1).length), (2, .sl (n + 3) 1 0 (x3).length), (3, .sl (n + 4) 1 0 (x5).length), (4, .sl (n + 5) 1 0 (x7).length)]) (ds := [.int .i64 p0.Time, .sl (n + 2) 1 0 (x1).length, .sl (n + 3) 1 0 (x3).length, .sl (n + 4) 1 0 (x5).length, .sl (n + 5) 1 0 (x7).length]) tz_34 rfl rfl tp_34 ⟨rfl, rfl, rfl, rfl, rfl, rfl, rfl, rfl, rfl, rfl, trivial⟩ (nt_all2 rfl) rfl)) rx0)) ?_
  refine Yu _ rfl rfl (ex1 2 rfl (Vr (f := 7) (k := 6) (m := 1) (os := [⟨34, 5, [.agg [.int .i64 0, .nils, .nils, .nils, .nils]], 0⟩]) (os' := [⟨34, 5, [.agg [.int .i64 0, .nils, .nils, .nils, .nils]], 1⟩]) (v := .ptr (n + 7) 0 0 0) (Vq hn) rfl rfl ⟨⟨_, rfl, rfl⟩, trivial⟩ (Xm (Vq hn) rfl tz_34 rfl rfl (Za _) rfl) (mv_ptr 0 rfl rfl rfl rfl) ⟨.same _ _ _ (Xr ⟨(Xz ⟨.int _ _, .nils, .nils, .nils, .nils, trivial⟩), trivial⟩), trivial⟩ rfl) (ex1 4 rfl (Vr (f := 7) (k := 6) (m := 1) (os := [⟨34, 5, [.agg [.int .i64 0, .nils, .nils, .nils, .nils]], 0⟩]) (os' := [⟨34, 5, [.agg [.int .i64 0, .nils, .nils, .nils, .nils]], 1⟩]) (v := .ptr (n + 7) 0 0 0) (Vq hn) rfl rfl ⟨⟨_, rfl, rfl⟩, trivial⟩ (Xm (Vq hn) rfl tz_34 rfl rfl (Za _) rfl) (mv_ptr 0 rfl rfl rfl rfl) ⟨.same _ _ _ (Xr ⟨(Xz ⟨.int _ _, .nils, .nils, .nils, .nils, trivial⟩), trivial⟩), trivial⟩ rfl) (ex1 6 rfl (Vr (f := 7) (k := 6) (m := 1) (os := [⟨34, 5, [.agg [.int .i64 0, .nils, .nils, .nils, .nils]], 0⟩]) (os' := [⟨34, 5, [.agg [.int .i64 0, .nils, .nils, .nils, .nils]], 1⟩]) (v := .ptr (n + 7) 0 0 0) (Vq hn) rfl rfl ⟨⟨_, rfl, rfl⟩, trivial⟩ (Xm (Vq hn) rfl tz_34 rfl rfl (Za _) rfl) (mv_ptr 0 rfl rfl rfl rfl) ⟨.same _ _ _ (Xr ⟨(Xz ⟨.int _ _, .nils, .nils, .nils, .nils, trivial⟩), trivial⟩), trivial⟩ rfl) (ex1 8 rfl (Vr (f := 7) (k := 6) (m := 1) (os := [⟨34, 5, [.agg [.int .i64 0, .nils, .nils, .nils, .nils]], 0⟩]) (os' := [⟨34, 5, [.agg [.int .i64 0, .nils, .nils, .nils, .nils]], 1⟩]) (v := .ptr (n + 7) 0 0 0) (Vq hn) rfl rfl ⟨⟨_, rfl, rfl⟩, trivial⟩ (Xm (Vq hn) rfl tz_34 rfl rfl (Za _) rfl) (mv_ptr 0 rfl rfl rfl rfl) ⟨.same _ _ _ (Xr ⟨(Xz ⟨.int _ _, .nils, .nils, .nils, .nils, trivial⟩), trivial⟩), trivial⟩ rfl) (ex1 9 rfl (Vr (f := 7) (k := 6) (m := 1) (os := [⟨34, 5, [.agg [.int .i64 0, .nils, .nils, .nils, .nils]], 0⟩]) (os' := [⟨34, 5, [.agg [.int .i64 0, .nils, .nils, .nils, .nils]], 1⟩]) (v := .ptr (n + 7) 0 0 0) (Vq hn) rfl rfl ⟨⟨_, rfl, rfl⟩, trivial⟩ (Xm (Vq hn) rfl tz_34 rfl rfl (Za _) rfl) (mv_ptr 0 rfl rfl rfl rfl) ⟨.same _ _ _ (Xr ⟨(Xz ⟨.int _ _, .nils, .nils, .nils, .nils, trivial⟩), trivial⟩), trivial⟩ rfl) ex0))))) ?_
  refine Yu _ rfl rfl (ex1 10 rfl (Xn (p := .agg [.int .i64 p0.Time, .sl (n + 2) 1 0 (x1).length, .sl (n + 3) 1 0 (x3).length, .sl (n + 4) 1 0 (x5).length, .sl (n + 5) 1 0 (x7).length]) (e' := .agg [.int .i64 p0.Time, .sl (n + 2) 1 0 (x1).length, .sl (n + 3) 1 0 (x3).length, .sl (n + 4) 1 0 (x5).length, .sl (n + 5) 1 0 (x7).length]) rfl (Vi (Vq hn) rfl) rfl rfl ts_34 rfl (Yt rfl) rfl (Yz rfl) rfl (Yn (Vq hn) rfl)) ex0) ?_
  refine dopx_nil ?_
  refine Vg ?_
  refine Vd ?_
  obtain ⟨x9, h10, hF⟩ := Ym hF
  refine Va (rd_mvF rfl) rfl ?_
  refine Vk (vef_callS (ps := [((n + 6), ⟨34, 5, [.agg [.int .i64 x9.Time, .sl (n + 2) 1 0 (x1).length, .sl (n + 3) 1 0 (x3).length, .sl (n + 4) 1 0 (x5).length, .sl (n + 5) 1 0 (x7).length]], 1⟩), ((n + 2), ⟨3, 1, Yv (Yw .i64) x9.States, 1⟩), ((n + 3), ⟨3, 1, Yv (Yw .i64) x9.Since, 1⟩), ((n + 4), ⟨4, 1, Yv Yx x9.Pulled, 1⟩), ((n + 5), ⟨4, 1, Yv Yx x9.Held, 1⟩), (q0, ⟨27, 1, [.vs 2 (Yv T_Belt.enc pc10)], w0⟩), (q1, ⟨3, 1, [.int .i64 pc11], w1⟩)]) (r := .tup []) (os := []) (low1 := (setL low0 [(q0, ⟨27, 1, [.vs 2 (Yv T_Belt.enc pc10)], w0⟩), (q1, ⟨3, 1, [.int .i64 pc11], w1⟩)])) (loc1 := [⟨34, 5, [.agg [.int .i64 p0.Time, .vs 1 (Yv (Yw .i64) p0.States), .vs 1 (Yv (Yw .i64) p0.Since), .vs 1 (Yv Yx p0.Pulled), .vs 1 (Yv Yx p0.Held)]], 0⟩, ⟨34, 5, [.agg [.int .i64 0, .nils, .nils, .nils, .nils]], 0⟩, ⟨3, 1, Yv (Yw .i64) x9.States, 1⟩, ⟨3, 1, Yv (Yw .i64) x9.Since, 1⟩, ⟨4, 1, Yv Yx x9.Pulled, 1⟩, ⟨4, 1, Yv Yx x9.Held, 1⟩, ⟨34, 5, [.agg [.int .i64 x9.Time, .sl (n + 2) 1 0 (x1).length, .sl (n + 3) 1 0 (x3).length, .sl (n + 4) 1 0 (x5).length, .sl (n + 5) 1 0 (x7).length]], 1⟩]) (loc2 := [⟨34, 5, [.agg [.int .i64 p0.Time, .vs 1 (Yv (Yw .i64) p0.States), .vs 1 (Yv (Yw .i64) p0.Since), .vs 1 (Yv Yx p0.Pulled), .vs 1 (Yv Yx p0.Held)]], 0⟩, ⟨34, 5, [.agg [.int .i64 0, .nils, .nils, .nils, .nils]], 0⟩, ⟨3, 1, Yv (Yw .i64) x9.States, 1⟩, ⟨3, 1, Yv (Yw .i64) x9.Since, 1⟩, ⟨4, 1, Yv Yx x9.Pulled, 1⟩, ⟨4, 1, Yv Yx x9.Held, 1⟩, ⟨34, 5, [.agg [.int .i64 x9.Time, .sl (n + 2) 1 0 (x1).length, .sl (n + 3) 1 0 (x3).length, .sl (n + 4) 1 0 (x5).length, .sl (n + 5) 1 0 (x7).length]], 1⟩]) rfl Try.call35 (F_belts_Pull_1_ok h10 (nd1 (na1 (Yp rfl) (na1 (Yp rfl) (na1 (Yp rfl) (na1 (Yp rfl) (na1 (Yr hq0) (na1 (Yr hq1) na0)))))) (nd1 (na1 (Yp rfl) (na1 (Yp rfl) (na1 (Yp rfl) (na1 (Yr hq0) (na1 (Yr hq1) na0))))) (nd1 (na1 (Yp rfl) (na1 (Yp rfl) (na1 (Yr hq0) (na1 (Yr hq1) na0)))) (nd1 (na1 (Yp rfl) (na1 (Yr hq0) (na1 (Yr hq1) na0))) (nd1 (na1 (Yr hq0) (na1 (Yr hq1) na0)) (nd1 (na1 (hB.ne 0 1 rfl rfl rfl) na0) (nd1 na0 nd0))))))) (rfl : (x1).length = _) (rfl : (x3).length = _) (rfl : (x5).length = _) (rfl : (x7).length = _) (get_N (Vq hn) rfl) (get_N (Vq hn) rfl) (get_N (Vq hn) rfl) (get_N (Vq hn) rfl) (get_N (Vq hn) rfl) (get_B hB rfl 0 rfl) (get_B hB rfl 1 rfl) (Xi (Vq hn) rfl)) (Yi (loc2 := [⟨34, 5, [.agg [.int .i64 p0.Time, .vs 1 (Yv (Yw .i64) p0.States), .vs 1 (Yv (Yw .i64) p0.Since), .vs 1 (Yv Yx p0.Pulled), .vs 1 (Yv Yx p0.Held)]], 0⟩, ⟨34, 5, [.agg [.int .i64 0, .nils, .nils, .nils, .nils]], 0⟩, ⟨3, 1, Yv (Yw .i64) x1, 1⟩, ⟨3, 1, Yv (Yw .i64) x3, 1⟩, ⟨4, 1, Yv Yx x5, 1⟩, ⟨4, 1, Yv Yx x7, 1⟩, ⟨34, 5, [.agg [.int .i64 x9.Time, .sl (n + 2) 1 0 (x1).length, .sl (n + 3) 1 0 (x3).length, .sl (n + 4) 1 0 (x5).length, .sl (n + 5) 1 0 (x7).length]], 1⟩]) (Vq hn) 6 rfl (Yi (loc2 := [⟨34, 5, [.agg [.int .i64 p0.Time, .vs 1 (Yv (Yw .i64) p0.States), .vs 1 (Yv (Yw .i64) p0.Since), .vs 1 (Yv Yx p0.Pulled), .vs 1 (Yv Yx p0.Held)]], 0⟩, ⟨34, 5, [.agg [.int .i64 0, .nils, .nils, .nils, .nils]], 0⟩, ⟨3, 1, Yv (Yw .i64) x9.States, 1⟩, ⟨3, 1, Yv (Yw .i64) x3, 1⟩, ⟨4, 1, Yv Yx x5, 1⟩, ⟨4, 1, Yv Yx x7, 1⟩, ⟨34, 5, [.agg [.int .i64 x9.Time, .sl (n + 2) 1 0 (x1).length, .sl (n + 3) 1 0 (x3).length, .sl (n + 4) 1 0 (x5).length, .sl (n + 5) 1 0 (x7).length]], 1⟩]) (Vq hn) 2 rfl (Yi (loc2 := [⟨34, 5, [.agg [.int .i64 p0.Time, .vs 1 (Yv (Yw .i64) p0.States), .vs 1 (Yv (Yw .i64) p0.Since), .vs 1 (Yv Yx p0.Pulled), .vs 1 (Yv Yx p0.Held)]], 0⟩, ⟨34, 5, [.agg [.int .i64 0, .nils, .nils, .nils, .nils]], 0⟩, ⟨3, 1, Yv (Yw .i64) x9.States, 1⟩, ⟨3, 1, Yv (Yw .i64) x9.Since, 1⟩, ⟨4, 1, Yv Yx x5, 1⟩, ⟨4, 1, Yv Yx x7, 1⟩, ⟨34, 5, [.agg [.int .i64 x9.Time, .sl (n + 2) 1 0 (x1).length, .sl (n + 3) 1 0 (x3).length, .sl (n + 4) 1 0 (x5).length, .sl (n + 5) 1 0 (x7).length]], 1⟩]) (Vq hn) 3 rfl (Yi (loc2 := [⟨34, 5, [.agg [.int .i64 p0.Time, .vs 1 (Yv (Yw .i64) p0.States), .vs 1 (Yv (Yw .i64) p0.Since), .vs 1 (Yv Yx p0.Pulled), .vs 1 (Yv Yx p0.Held)]], 0⟩, ⟨34, 5, [.agg [.int .i64 0, .nils, .nils, .nils, .nils]], 0⟩, ⟨3, 1, Yv (Yw .i64) x9.States, 1⟩, ⟨3, 1, Yv (Yw .i64) x9.Since, 1⟩, ⟨4, 1, Yv Yx x9.Pulled, 1⟩, ⟨4, 1, Yv Yx x7, 1⟩, ⟨34, 5, [.agg [.int .i64 x9.Time, .sl (n + 2) 1 0 (x1).length, .sl (n + 3) 1 0 (x3).length, .sl (n + 4) 1 0 (x5).length, .sl (n + 5) 1 0 (x7).length]], 1⟩]) (Vq hn) 4 rfl (Yi (loc2 := [⟨34, 5, [.agg [.int .i64 p0.Time, .vs 1 (Yv (Yw .i64) p0.States), .vs 1 (Yv (Yw .i64) p0.Since), .vs 1 (Yv Yx p0.Pulled), .vs 1 (Yv Yx p0.Held)]], 0⟩, ⟨34, 5, [.agg [.int .i64 0, .nils, .nils, .nils, .nils]], 0⟩, ⟨3, 1, Yv (Yw .i64) x9.States, 1⟩, ⟨3, 1, Yv (Yw .i64) x9.Since, 1⟩, ⟨4, 1, Yv Yx x9.Pulled, 1⟩, ⟨4, 1, Yv Yx x9.Held, 1⟩, ⟨34, 5, [.agg [.int .i64 x9.Time, .sl (n + 2) 1 0 (x1).length, .sl (n + 3) 1 0 (x3).length, .sl (n + 4) 1 0 (x5).length, .sl (n + 5) 1 0 (x7).length]], 1⟩]) (Vq hn) 5 rfl (sets_B (ps0' := [(q0, ⟨27, 1, [.vs 2 (Yv T_Belt.enc pc10)], w0⟩), (q1, ⟨3, 1, [.int .i64 pc11], w1⟩)]) hB rfl 0 rfl (ltObjN hn ⟨.vs _ _, trivial⟩) rfl (sets_B (ps0' := [(q0, ⟨27, 1, [.vs 2 (Yv T_Belt.enc pc10)], w0⟩), (q1, ⟨3, 1, [.int .i64 pc11], w1⟩)]) hB rfl 1 rfl (ltObjN hn ⟨.int _ _, trivial⟩) rfl sets_nil))))))) rfl) rfl ?_
  refine Ve ?_
  refine Vg ?_
  refine Vd ?_
  refine Va (Xs (ds := [.int .i64 x9.Time, .sl (n + 2) 1 0 (x1).length, .sl (n + 3) 1 0 (x3).length, .sl (n + 4) 1 0 (x5).length, .sl (n + 5) 1 0 (x7).length]) rfl (Vi (Vq hn) rfl) rfl ta_34 ts_34 rfl rfl rfl) rfl ?_
  refine Vk (Xn (p := .agg [.int .i64 x9.Time, .sl (n + 2) 1 0 (x1).length, .sl (n + 3) 1 0 (x3).length, .sl (n + 4) 1 0 (x5).length, .sl (n + 5) 1 0 (x7).length]) (e' := .agg [.int .i64 x9.Time, .sl (n + 2) 1 0 (x1).length, .sl (n + 3) 1 0 (x3).length, .sl (n + 4) 1 0 (x5).length, .sl (n + 5) 1 0 (x7).length]) rfl (Vi (Vq hn) rfl) rfl rfl ts_34 rfl (Yt rfl) rfl (Yz rfl) rfl (Yn (Vq hn) rfl)) rfl ?_
  refine Ve ?_
  refine Vx ?_
  obtain rfl := Yy hF
  refine fnR ?_
  refine Weak.trans (Xy (E' := [(4, .ptr (n + 1) 0 0 0)]) (loc1 := [⟨34, 5, [.agg [.int .i64 p0.Time, .vs 1 (Yv (Yw .i64) p0.States), .vs 1 (Yv (Yw .i64) p0.Since), .vs 1 (Yv Yx p0.Pulled), .vs 1 (Yv Yx p0.Held)]], 0⟩, ⟨34, 5, [.agg [.int .i64 x9.Time, .sl (n + 2) 1 0 (x1).length, .sl (n + 3) 1 0 (x3).length, .sl (n + 4) 1 0 (x5).length, .vs 1 (Yv Yx x9.Held)]], 0⟩, ⟨3, 1, Yv (Yw .i64) x9.States, 1⟩, ⟨3, 1, Yv (Yw .i64) x9.Since, 1⟩, ⟨4, 1, Yv Yx x9.Pulled, 1⟩, ⟨4, 1, [], 1 + 1⟩, ⟨34, 5, [.agg [.int .i64 x9.Time, .sl (n + 2) 1 0 (x1).length, .sl (n + 3) 1 0 (x3).length, .sl (n + 4) 1 0 (x5).length, .vs 1 (Yv Yx x9.Held)]], 1⟩]) (Vq hn) 5 rfl (lt_map (fun _ => .bool _)) ⟨Vp rfl, trivial⟩ ⟨.refl _, cvo_agg ⟨Vp rfl, Vp rfl, Vp rfl, Vp rfl, cv_sl rfl rfl rfl (Yj (F_belts_Pull_1_len h10 (rfl : (x1).length = _) (rfl : (x3).length = _) (rfl : (x5).length = _) (rfl : (x7).length = _)).2.2.2.1), trivial⟩, .refl _, .refl _, .refl _, .refl _, cvo_agg ⟨Vp rfl, Vp rfl, Vp rfl, Vp rfl, cv_sl rfl rfl rfl (Yj (F_belts_Pull_1_len h10 (rfl : (x1).length = _) (rfl : (x3).length = _) (rfl : (x5).length = _) (rfl : (x7).length = _)).2.2.2.1), trivial⟩, trivial⟩) ?_
  exact Vu (Vq hn) [(2, 1), (3, 1), (4, 1), (1, 0)] (by decide) ⟨rn_ptr 3 1 rfl rfl, trivial⟩ ⟨⟨_, rfl, rfl, .same _ _ _ _ (Vo (fun _ => .int _ _))⟩, ⟨_, rfl, rfl, .same _ _ _ _ (Vo (fun _ => .int _ _))⟩, ⟨_, rfl, rfl, .same _ _ _ _ (Vo (fun _ => .bool _))⟩, ⟨_, rfl, rfl, .agg _ _ _ _ _ ⟨Vy rfl (.int _ _), rn_sl 0 2 rfl (congrArg (PV.sl _ _ 0) (F_belts_Pull_1_len h10 (rfl : (x1).length = _) (rfl : (x3).length = _) (rfl : (x5).length = _) (rfl : (x7).length = _)).1), rn_sl 1 3 rfl (congrArg (PV.sl _ _ 0) (F_belts_Pull_1_len h10 (rfl : (x1).length = _) (rfl : (x3).length = _) (rfl : (x5).length = _) (rfl : (x7).length = _)).2.1), rn_sl 2 4 rfl (congrArg (PV.sl _ _ 0) (F_belts_Pull_1_len h10 (rfl : (x1).length = _) (rfl : (x3).length = _) (rfl : (x5).length = _) (rfl : (x7).length = _)).2.2.1), Vy rfl (.vs _ _), trivial⟩⟩, trivial⟩
 ·rintro _ _ _ _ ⟨he, hw⟩
  refine ⟨_, _, _, hw, ?_⟩
  exact bodyQ_some (Vq hn) 3 rfl (Yz rfl) he [.agg [.int .i64 r.Time, .sl (n + 0) 0 0 (r.States).length, .sl (n + 1) 0 0 (r.Since).length, .sl (n + 2) 0 0 (r.Pulled).length, .vs 1 (Yv Yx r.Held)]] ⟨Xs rfl (Vi (Vq hn) rfl) rfl ta_34 ts_34 rfl rfl rfl, trivial⟩ ((Xz ⟨.int _ _, .sl _ _ _ _ (lt_kk rfl), .sl _ _ _ _ (lt_kk rfl), .sl _ _ _ _ (lt_kk rfl), .vs _ _, trivial⟩)) ⟨Vo (fun _ => .int _ _), Vo (fun _ => .int _ _), Vo (fun _ => .bool _), trivial⟩ ⟨rfl, rfl⟩

theorem F_belts_done__belts_Pull_1_ok {p0 : T_Line} {pc10 : List T_Belt} {pc11 : Int} {r : T_Line} (hF : F_belts_done__belts_Pull_1 p0 pc10 pc11 = some r) {low : List AObj} {q0 q1 w0 w1 : Nat} (hnd : [q0, q1].Nodup) (hq0 : low[q0]? = some ⟨27, 1, [.vs 2 (Yv T_Belt.enc pc10)], w0⟩) (hq1 : low[q1]? = some ⟨3, 1, [.int .i64 pc11], w1⟩) {n : Nat} (hn : low.length = n) :
    Yd Try.prog 31 [.agg [.int .i64 p0.Time, .vs 1 (Yv (Yw .i64) p0.States), .vs 1 (Yv (Yw .i64) p0.Since), .vs 1 (Yv Yx p0.Pulled), .vs 1 (Yv Yx p0.Held)], .fn 35 [] [.ptr q0 w0 0 0, .ptr q1 w1 0 0]] low fun x low' => x = .agg [.int .i64 r.Time, .sl (n + 0) 0 0 (r.States).length, .sl (n + 1) 0 0 (r.Since).length, .sl (n + 2) 0 0 (r.Pulled).length, .vs 1 (Yv Yx r.Held)] ∧ low' = setL low [(q0, ⟨27, 1, [.vs 2 (Yv T_Belt.enc pc10)], w0⟩), (q1, ⟨3, 1, [.int .i64 pc11], w1⟩)] ++ [⟨3, 1, Yv (Yw .i64) r.States, 0⟩, ⟨3, 1, Yv (Yw .i64) r.Since, 0⟩, ⟨4, 1, Yv Yx r.Pulled, 0⟩] := by
  obtain ⟨h1, h2⟩ := bor_start (ps := [(q0, ⟨27, 1, [.vs 2 (Yv T_Belt.enc pc10)], w0⟩), (q1, ⟨3, 1, [.int .i64 pc11], w1⟩)]) hnd (borC hq0 (borC hq1 bor0))
  exact vcalls_low h1 (F_belts_done__belts_Pull_1_ok0 hF h2 hn)

theorem F_belts_Pull_ok {p0 : List T_Belt} {p1 : T_Line} {p2 : Int} {r : T_Line × Int} (hF : F_belts_Pull p0 p1 p2 = some r) (low : List AObj) {n : Nat} (hn : low.length = n) :
    Yd Try.prog 15 [.vs 2 (Yv T_Belt.enc p0), .agg [.int .i64 p1.Time, .vs 1 (Yv (Yw .i64) p1.States), .vs 1 (Yv (Yw .i64) p1.Since), .vs 1 (Yv Yx p1.Pulled), .vs 1 (Yv Yx p1.Held)], .int .i64 p2] low fun x low' => x = .tup [.agg [.int .i64 r.1.Time, .vs 1 (Yv (Yw .i64) r.1.States), .vs 1 (Yv (Yw .i64) r.1.Since), .vs 1 (Yv Yx r.1.Pulled), .vs 1 (Yv Yx r.1.Held)], .int .i64 r.2] ∧ low' = low ++ [] := by
 refine Vw (nt := 20) (rs := [.cell 6 34, .tmp 7]) Try.func15 rfl rfl (Yz rfl) rfl ?_
 refine Vt (Q' := FnE (fun E' lw lc => Xv E' lw lc [(6, .ptr (n + 0) 0 0 0), (7, .int .i64 r.2)] low [⟨34, 5, [.agg [.int .i64 r.1.Time, .vs 1 (Yv (Yw .i64) r.1.States), .vs 1 (Yv (Yw .i64) r.1.Since), .vs 1 (Yv Yx r.1.Pulled), .vs 1 (Yv Yx r.1.Held)]], 0⟩])) ?_ ?_
 ·unfold F_belts_Pull at hF
  refine Vg ?_
  refine Vd ?_
  refine Vk (vef_boxN hn rfl (v := .vs 2 (Yv T_Belt.enc p0)) rfl rfl (Za _) rfl rfl) rfl ?_
  refine Vk (vef_boxN hn rfl (v := .agg [.int .i64 p1.Time, .vs 1 (Yv (Yw .i64) p1.States), .vs 1 (Yv (Yw .i64) p1.Since), .vs 1 (Yv Yx p1.Pulled), .vs 1 (Yv Yx p1.Held)]) rfl rfl (Za _) rfl rfl) rfl ?_
  refine Vk (vef_boxN hn rfl (v := .int .i64 p2) rfl rfl (Za _) rfl rfl) rfl ?_
  refine Vk (Xm hn rfl tz_34 rfl rfl (Za _) rfl) rfl ?_
  refine Va (Xa rfl) rfl ?_
  refine Ve ?_
  refine Vg ?_
  refine Vg ?_
  refine Vd ?_
  obtain ⟨x1, h2, hF⟩ := Ym hF
  refine Va (Vf rfl (Vi hn rfl) rfl ta_27 rfl) rfl ?_
  refine Va (Xs (ds := [.int .i64 p1.Time, .vs 1 (Yv (Yw .i64) p1.States), .vs 1 (Yv (Yw .i64) p1.Since), .vs 1 (Yv Yx p1.Pulled), .vs 1 (Yv Yx p1.Held)]) rfl (Vi hn rfl) rfl ta_34 ts_34 rfl rfl rfl) rfl ?_
  refine Va (Vf rfl (Vi hn rfl) rfl ta_3 rfl) rfl ?_
  refine Vk (Xd rfl Try.call30 (F_belts_checked_ok h2 _)) rfl ?_
  refine Va (Xa rfl) rfl ?_
  refine Ve ?_
  refine Vg ?_
  refine Vd ?_
  refine Va (Vh rfl) rfl ?_
  refine Va (Ys rfl rfl) rfl ?_
  refine Ve ?_
  refine Xc rfl (fun c3 => ?_) (fun c3 => ?_)
  ·have hF := Yg c3 hF
   refine Vg ?_
   refine Vd ?_
   refine Va (Xs (ds := [.int .i64 p1.Time, .vs 1 (Yv (Yw .i64) p1.States), .vs 1 (Yv (Yw .i64) p1.Since), .vs 1 (Yv Yx p1.Pulled), .vs 1 (Yv Yx p1.Held)]) rfl (Vi hn rfl) rfl ta_34 ts_34 rfl rfl rfl) rfl ?_
   refine Va (Vh rfl) rfl ?_
   refine Vk (Xn (p := .agg [.int .i64 p1.Time, .vs 1 (Yv (Yw .i64) p1.States), .vs 1 (Yv (Yw .i64) p1.Since), .vs 1 (Yv Yx p1.Pulled), .vs 1 (Yv Yx p1.Held)]) (e' := .agg [.int .i64 p1.Time, .vs 1 (Yv (Yw .i64) p1.States), .vs 1 (Yv (Yw .i64) p1.Since), .vs 1 (Yv Yx p1.Pulled), .vs 1 (Yv Yx p1.Held)]) rfl (Vi hn rfl) rfl rfl ts_34 rfl (Yt rfl) rfl (Yz rfl) rfl (Yn hn rfl)) rfl ?_
   refine Va (Xa rfl) rfl ?_
   refine Ve ?_
   refine Vx ?_
   obtain rfl := Yy hF
   refine fnR ?_
   exact Vu hn [(3, 0)] (by decide) ⟨rn_ptr 0 3 rfl rfl, Vy rfl (.int _ _), trivial⟩ ⟨⟨_, rfl, rfl, .same _ _ _ _ (Xr ⟨Xz ⟨.int _ _, .vs _ _, .vs _ _, .vs _ _, .vs _ _, trivial⟩, trivial⟩)⟩, trivial⟩
  ·have hF := Yh c3 hF
   refine Xh ?_
   refine Vg ?_
   refine Vd ?_
   obtain ⟨x4, h5, hF⟩ := Ym hF
   refine Va (Xs (ds := [.int .i64 p1.Time, .vs 1 (Yv (Yw .i64) p1.States), .vs 1 (Yv (Yw .i64) p1.Since), .vs 1 (Yv Yx p1.Pulled), .vs 1 (Yv Yx p1.Held)]) rfl (Vi hn rfl) rfl ta_34 ts_34 rfl rfl rfl) rfl ?_
   refine Va (rd_makeFn rfl) rfl ?_
   refine Vk (vef_callS (ps := [((n + 0), ⟨27, 1, [.vs 2 (Yv T_Belt.enc p0)], 0⟩), ((n + 2), ⟨3, 1, [.int .i64 p2], 0⟩)]) (r := .agg [.int .i64 x4.Time, .sl (n + 4) 0 0 (x4.States).length, .sl (n + 5) 0 0 (x4.Since).length, .sl (n + 6) 0 0 (x4.Pulled).length, .vs 1 (Yv Yx x4.Held)]) (os := [⟨3, 1, Yv (Yw .i64) x4.States, 0⟩, ⟨3, 1, Yv (Yw .i64) x4.Since, 0⟩, ⟨4, 1, Yv Yx x4.Pulled, 0⟩]) (low1 := low) (loc1 := [⟨27, 1, [.vs 2 (Yv T_Belt.enc p0)], 0⟩, ⟨34, 5, [.agg [.int .i64 p1.Time, .vs 1 (Yv (Yw .i64) p1.States), .vs 1 (Yv (Yw .i64) p1.Since), .vs 1 (Yv Yx p1.Pulled), .vs 1 (Yv Yx p1.Held)]], 0⟩, ⟨3, 1, [.int .i64 p2], 0⟩, ⟨34, 5, [.agg [.int .i64 0, .nils, .nils, .nils, .nils]], 0⟩]) (loc2 := [⟨27, 1, [.vs 2 (Yv T_Belt.enc p0)], 0⟩, ⟨34, 5, [.agg [.int .i64 p1.Time, .vs 1 (Yv (Yw .i64) p1.States), .vs 1 (Yv (Yw .i64) p1.Since), .vs 1 (Yv Yx p1.Pulled), .vs 1 (Yv Yx p1.Held)]], 0⟩, ⟨3, 1, [.int .i64 p2], 0⟩, ⟨34, 5, [.agg [.int .i64 0, .nils, .nils, .nils, .nils]], 0⟩, ⟨3, 1, Yv (Yw .i64) x4.States, 0⟩, ⟨3, 1, Yv (Yw .i64) x4.Since, 0⟩, ⟨4, 1, Yv Yx x4.Pulled, 0⟩]) rfl Try.call31 (F_belts_done__belts_Pull_1_ok h5 (nd1 (na1 (Yp rfl) na0) (nd1 na0 nd0)) (get_N hn rfl) (get_N hn rfl) (Xi hn rfl)) (Yi (loc2 := [⟨27, 1, [.vs 2 (Yv T_Belt.enc p0)], 0⟩, ⟨34, 5, [.agg [.int .i64 p1.Time, .vs 1 (Yv (Yw .i64) p1.States), .vs 1 (Yv (Yw .i64) p1.Since), .vs 1 (Yv Yx p1.Pulled), .vs 1 (Yv Yx p1.Held)]], 0⟩, ⟨3, 1, [.int .i64 p2], 0⟩, ⟨34, 5, [.agg [.int .i64 0, .nils, .nils, .nils, .nils]], 0⟩]) hn 0 rfl (Yi (loc2 := [⟨27, 1, [.vs 2 (Yv T_Belt.enc p0)], 0⟩, ⟨34, 5, [.agg [.int .i64 p1.Time, .vs 1 (Yv (Yw .i64) p1.States), .vs 1 (Yv (Yw .i64) p1.Since), .vs 1 (Yv Yx p1.Pulled), .vs 1 (Yv Yx p1.Held)]], 0⟩, ⟨3, 1, [.int .i64 p2], 0⟩, ⟨34, 5, [.agg [.int .i64 0, .nils, .nils, .nils, .nils]], 0⟩]) hn 2 rfl sets_nil)) rfl) rfl ?_
   refine Vk (Xn (p := .agg [.int .i64 x4.Time, .sl (n + 4) 0 0 (x4.States).length, .sl (n + 5) 0 0 (x4.Since).length, .sl (n + 6) 0 0 (x4.Pulled).length, .vs 1 (Yv Yx x4.Held)]) (e' := .agg [.int .i64 x4.Time, .sl (n + 4) 0 0 (x4.States).length, .sl (n + 5) 0 0 (x4.Since).length, .sl (n + 6) 0 0 (x4.Pulled).length, .vs 1 (Yv Yx x4.Held)]) rfl (Vi hn rfl) rfl rfl ts_34 rfl (Yt rfl) rfl (Yz rfl) rfl (Yn hn rfl)) rfl ?_
   refine Va (Xa rfl) rfl ?_
   refine Ve ?_
   refine Vx ?_
   obtain rfl := Yy hF
   refine fnR ?_
   refine Weak.trans (Xy (E' := [(6, .ptr (n + 3) 0 0 0), (7, .int .i64 0)]) (loc1 := [⟨27, 1, [.vs 2 (Yv T_Belt.enc p0)], 0⟩, ⟨34, 5, [.agg [.int .i64 p1.Time, .vs 1 (Yv (Yw .i64) p1.States), .vs 1 (Yv (Yw .i64) p1.Since), .vs 1 (Yv Yx p1.Pulled), .vs 1 (Yv Yx p1.Held)]], 0⟩, ⟨3, 1, [.int .i64 p2], 0⟩, ⟨34, 5, [.agg [.int .i64 x4.Time, .vs 1 (Yv (Yw .i64) x4.States), .sl (n + 5) 0 0 (x4.Since).length, .sl (n + 6) 0 0 (x4.Pulled).length, .vs 1 (Yv Yx x4.Held)]], 0⟩, ⟨3, 1, [], 0 + 1⟩, ⟨3, 1, Yv (Yw .i64) x4.Since, 0⟩, ⟨4, 1, Yv Yx x4.Pulled, 0⟩]) hn 4 rfl (lt_map (fun _ => .int _ _)) ⟨Vp rfl, Vp rfl, trivial⟩ ⟨.refl _, .refl _, .refl _, cvo_agg ⟨Vp rfl, cv_sl rfl rfl rfl (Yj rfl), Vp rfl, Vp rfl, Vp rfl, trivial⟩, .refl _, .refl _, .refl _, trivial⟩) ?_
   refine Weak.trans (Xy (E' := [(6, .ptr (n + 3) 0 0 0), (7, .int .i64 0)]) (loc1 := [⟨27, 1, [.vs 2 (Yv T_Belt.enc p0)], 0⟩, ⟨34, 5, [.agg [.int .i64 p1.Time, .vs 1 (Yv (Yw .i64) p1.States), .vs 1 (Yv (Yw .i64) p1.Since), .vs 1 (Yv Yx p1.Pulled), .vs 1 (Yv Yx p1.Held)]], 0⟩, ⟨3, 1, [.int .i64 p2], 0⟩, ⟨34, 5, [.agg [.int .i64 x4.Time, .vs 1 (Yv (Yw .i64) x4.States), .vs 1 (Yv (Yw .i64) x4.Since), .sl (n + 6) 0 0 (x4.Pulled).length, .vs 1 (Yv Yx x4.Held)]], 0⟩, ⟨3, 1, [], 0 + 1⟩, ⟨3, 1, [], 0 + 1⟩, ⟨4, 1, Yv Yx x4.Pulled, 0⟩]) hn 5 rfl (lt_map (fun _ => .int _ _)) ⟨Vp rfl, Vp rfl, trivial⟩ ⟨.refl _, .refl _, .refl _, cvo_agg ⟨Vp rfl, Vp rfl, cv_sl rfl rfl rfl (Yj rfl), Vp rfl, Vp rfl, trivial⟩, .refl _, .refl _, .refl _, trivial⟩) ?_
   refine Weak.trans (Xy (E' := [(6, .ptr (n + 3) 0 0 0), (7, .int .i64 0)]) (loc1 := [⟨27, 1, [.vs 2 (Yv T_Belt.enc p0)], 0⟩, ⟨34, 5, [.agg [.int .i64 p1.Time, .vs 1 (Yv (Yw .i64) p1.States), .vs 1 (Yv (Yw .i64) p1.Since), .vs 1 (Yv Yx p1.Pulled), .vs 1 (Yv Yx p1.Held)]], 0⟩, ⟨3, 1, [.int .i64 p2], 0⟩, ⟨34, 5, [.agg [.int .i64 x4.Time, .vs 1 (Yv (Yw .i64) x4.States), .vs 1 (Yv (Yw .i64) x4.Since), .vs 1 (Yv Yx x4.Pulled), .vs 1 (Yv Yx x4.Held)]], 0⟩, ⟨3, 1, [], 0 + 1⟩, ⟨3, 1, [], 0 + 1⟩, ⟨4, 1, [], 0 + 1⟩]) hn 6 rfl (lt_map (fun _ => .bool _)) ⟨Vp rfl, Vp rfl, trivial⟩ ⟨.refl _, .refl _, .refl _, cvo_agg ⟨Vp rfl, Vp rfl, Vp rfl, cv_sl rfl rfl rfl (Yj rfl), Vp rfl, trivial⟩, .refl _, .refl _, .refl _, trivial⟩) ?_
   exact Vu hn [(3, 0)] (by decide) ⟨rn_ptr 0 3 rfl rfl, Vy rfl (.int _ _), trivial⟩ ⟨⟨_, rfl, rfl, .same _ _ _ _ (Xr ⟨Xz ⟨.int _ _, .vs _ _, .vs _ _, .vs _ _, .vs _ _, trivial⟩, trivial⟩)⟩, trivial⟩
 ·rintro _ _ _ _ ⟨he, hw⟩
  refine ⟨_, _, _, hw, ?_⟩
  exact bodyQ_some hn 0 rfl (Yz rfl) he [.agg [.int .i64 r.1.Time, .vs 1 (Yv (Yw .i64) r.1.States), .vs 1 (Yv (Yw .i64) r.1.Since), .vs 1 (Yv Yx r.1.Pulled), .vs 1 (Yv Yx r.1.Held)], .int .i64 r.2] ⟨Xs rfl (Vi hn rfl) rfl ta_34 ts_34 rfl rfl rfl, rfl, trivial⟩ ((lt_tup ⟨(Xz ⟨.int _ _, .vs _ _, .vs _ _, .vs _ _, .vs _ _, trivial⟩), .int _ _, trivial⟩)) trivial ⟨rfl, rfl⟩

theorem F_belts_Above_1_ok0 {p0 : Int} {p1 : List T_Belt} {p2 : Int} {r : Bool} (hF : F_belts_Above_1 p0 p1 p2 = some r) {low0 : List AObj} {q0 q1 w0 w1 : Nat} (hB : Bor low0 [q0, q1]) {n : Nat} (hn : low0.length = n) :
    Yd Try.prog 38 [.int .i64 p0, .ptr q0 w0 0 0, .ptr q1 w1 0 0] (setL low0 [(q0, ⟨27, 1, [.vs 2 (Yv T_Belt.enc p1)], w0⟩), (q1, ⟨3, 1, [.int .i64 p2], w1⟩)]) fun x low' => x = .bool r ∧ low' = setL low0 [(q0, ⟨27, 1, [.vs 2 (Yv T_Belt.enc p1)], w0⟩), (q1, ⟨3, 1, [.int .i64 p2], w1⟩)] ++ [] := by
 refine Vw (nt := 9) (rs := [.tmp 4]) Try.func38 rfl rfl (Yz rfl) rfl ?_
 have hq0 : q0 < n := hB.ltN hn 0 rfl
 have hq1 : q1 < n := hB.ltN hn 1 rfl
 refine Vt (Q' := FnE (fun E' lw lc => Xv E' lw lc [(4, .bool r)] (setL low0 [(q0, ⟨27, 1, [.vs 2 (Yv T_Belt.enc p1)], w0⟩), (q1, ⟨3, 1, [.int .i64 p2], w1⟩)]) [])) ?_ ?_
 ·unfold F_belts_Above_1 at hF
  refine Vg ?_
  refine Vd ?_
  refine Va (Xj rfl) rfl ?_
  refine Ve ?_
  refine Vg ?_
  refine Vd ?_
  obtain ⟨x1, h2, hF⟩ := Ym hF
  refine Va (Vf rfl (Xp hB rfl 0 rfl) rfl ta_27 rfl) rfl ?_
  refine Va (Vh rfl) rfl ?_
  refine Va (Vf rfl (Xp hB rfl 1 rfl) rfl ta_3 rfl) rfl ?_
  refine Vk (Xd rfl Try.call39 (F_belts_throws_ok h2 _)) rfl ?_
  refine Va (Xj rfl) rfl ?_
  refine Ve ?_
  refine Vx ?_
  obtain rfl := Yy hF
  refine fnR ?_
  exact Vn ⟨rfl, trivial⟩
 ·rintro _ _ _ _ ⟨he, hw⟩
  refine ⟨_, _, _, hw, ?_⟩
  exact Ye he [.bool r] ⟨rfl, trivial⟩ (.bool _) ⟨rfl, (List.append_nil _).symm⟩

theorem F_belts_Above_1_ok {p0 : Int} {p1 : List T_Belt} {p2 : Int} {r : Bool} (hF : F_belts_Above_1 p0 p1 p2 = some r) {low : List AObj} {q0 q1 w0 w1 : Nat} (hnd : [q0, q1].Nodup) (hq0 : low[q0]? = some ⟨27, 1, [.vs 2 (Yv T_Belt.enc p1)], w0⟩) (hq1 : low[q1]? = some ⟨3, 1, [.int .i64 p2], w1⟩) {n : Nat} (hn : low.length = n) :
    Yd Try.prog 38 [.int .i64 p0, .ptr q0 w0 0 0, .ptr q1 w1 0 0] low fun x low' => x = .bool r ∧ low' = setL low [(q0, ⟨27, 1, [.vs 2 (Yv T_Belt.enc p1)], w0⟩), (q1, ⟨3, 1, [.int .i64 p2], w1⟩)] ++ [] := by
  obtain ⟨h1, h2⟩ := bor_start (ps := [(q0, ⟨27, 1, [.vs 2 (Yv T_Belt.enc p1)], w0⟩), (q1, ⟨3, 1, [.int .i64 p2], w1⟩)]) hnd (borC hq0 (borC hq1 bor0))
  exact vcalls_low h1 (F_belts_Above_1_ok0 hF h2 hn)

theorem F_lists_Where__belts_Above_1_ok0 {p0 : Int} {pc10 : List T_Belt} {pc11 : Int} {r : List Int} (hF : F_lists_Where__belts_Above_1 p0 pc10 pc11 = some r) {low0 : List AObj} {q0 q1 w0 w1 : Nat} (hB : Bor low0 [q0, q1]) {n : Nat} (hn : low0.length = n) :
    Yd Try.prog 37 [.int .i64 p0, .fn 38 [] [.ptr q0 w0 0 0, .ptr q1 w1 0 0]] (setL low0 [(q0, ⟨27, 1, [.vs 2 (Yv T_Belt.enc pc10)], w0⟩), (q1, ⟨3, 1, [.int .i64 pc11], w1⟩)]) fun x low' => x = .vs 1 (Yv (Yw .i64) r) ∧ low' = setL low0 [(q0, ⟨27, 1, [.vs 2 (Yv T_Belt.enc pc10)], w0⟩), (q1, ⟨3, 1, [.int .i64 pc11], w1⟩)] ++ [] := by
 refine Vw (nt := 20) (rs := [.tmp 4]) Try.func37 rfl rfl (Yz rfl) rfl ?_
 have hq0 : q0 < n := hB.ltN hn 0 rfl
 have hq1 : q1 < n := hB.ltN hn 1 rfl
 refine Vt (Q' := FnE (fun E' lw lc => Xv E' lw lc [(4, .vs 1 (Yv (Yw .i64) r))] (setL low0 [(q0, ⟨27, 1, [.vs 2 (Yv T_Belt.enc pc10)], w0⟩), (q1, ⟨3, 1, [.int .i64 pc11], w1⟩)]) [])) ?_ ?_
 ·unfold F_lists_Where__belts_Above_1 at hF
  refine Vg ?_
  refine Vd ?_
  refine Va (rd_nv (sz := 1) (rd_asN rfl)) rfl ?_
  refine Ve ?_
  refine Vg ?_
  refine Vd ?_
  refine Vk (vef_nilsN (Vq hn) rfl 3 1 (Za _) (rd_asN rfl)) rfl ?_
  refine Ve ?_
  refine Vg ?_
  refine Vg ?_
  refine Vd ?_
  refine Va (Vh rfl) rfl ?_
  refine Va (Vh rfl) rfl ?_
  refine Ve ?_
  refine Xt ?_
  obtain ⟨o2, ho2, hF⟩ := Ym hF
  refine Vt (vwp_loopC (F_lists_Where__belts_Above_1_L1 p0 pc10 pc11) (fun s1 E' lw lc => Xv E' lw lc [(1, .fn 38 [] [.ptr q0 w0 0 0, .ptr q1 w1 0 0]), (5, .sl (n + 0) 0 0 (s1.2).length), (7, .int .i64 p0), (8, .int .i64 s1.1)] (setL low0 [(q0, ⟨27, 1, [.vs 2 (Yv T_Belt.enc pc10)], w0⟩), (q1, ⟨3, 1, [.int .i64 pc11], w1⟩)]) [⟨3, 1, Yv (Yw .i64) s1.2, 0⟩]) (fun o2 => OnlyE (.exit 0) (fun E' lw lc => Xv E' lw lc [(5, .sl (n + 0) 0 0 (o2).length)] (setL low0 [(q0, ⟨27, 1, [.vs 2 (Yv T_Belt.enc pc10)], w0⟩), (q1, ⟨3, 1, [.int .i64 pc11], w1⟩)]) [⟨3, 1, Yv (Yw .i64) o2, 0⟩])) ho2 ?_ (by rintro _ _ _ _ ⟨h, _⟩ <;> cases h) ?_) ?_
  ·exact Vn ⟨rfl, rfl, rfl, rfl, trivial⟩
  ·rintro s1 os1 _ _ _ hF hw
   unfold F_lists_Where__belts_Above_1_L1 at hF
   refine Xw hw ?_
   refine Vg ?_
   refine Vd ?_
   refine Va (rd_lss rfl rfl) rfl ?_
   refine Ve ?_
   refine Vg ?_
   refine Xc rfl (fun c3 => ?_) (fun c3 => ?_)
   ·have hF := Yg c3 hF
    refine Xh ?_
    refine Vg ?_
    obtain ⟨o4, ho4, hF⟩ := Ym hF
    refine Vt (Q' := (fun o4 => OnlyE .normal (fun E' lw lc => Xv E' lw lc [(1, .fn 38 [] [.ptr q0 w0 0 0, .ptr q1 w1 0 0]), (5, .sl (n + 0) 0 0 (o4).length), (7, .int .i64 p0), (8, .int .i64 s1.1)] (setL low0 [(q0, ⟨27, 1, [.vs 2 (Yv T_Belt.enc pc10)], w0⟩), (q1, ⟨3, 1, [.int .i64 pc11], w1⟩)]) [⟨3, 1, Yv (Yw .i64) o4, 0⟩])) o4) ?_ ?_
    ·replace hF := ho4
     refine Xt ?_
     refine Vg ?_
     refine Vd ?_
     refine Va (Vh rfl) rfl ?_
     refine Va (Xa rfl) rfl ?_
     refine Ve ?_
     refine Vg ?_
     refine Vd ?_
     obtain ⟨x5, h6, hF⟩ := Ym hF
     refine Va (rd_mvF rfl) rfl ?_
     refine Va (Vh rfl) rfl ?_
     refine Vk (vef_callS (ps := [(q0, ⟨27, 1, [.vs 2 (Yv T_Belt.enc pc10)], w0⟩), (q1, ⟨3, 1, [.int .i64 pc11], w1⟩)]) (r := .bool x5) (os := []) (low1 := (setL low0 [(q0, ⟨27, 1, [.vs 2 (Yv T_Belt.enc pc10)], w0⟩), (q1, ⟨3, 1, [.int .i64 pc11], w1⟩)])) (loc1 := [⟨3, 1, Yv (Yw .i64) s1.2, 0⟩]) (loc2 := [⟨3, 1, Yv (Yw .i64) s1.2, 0⟩]) rfl Try.call38 (F_belts_Above_1_ok h6 (nd1 (na1 (hB.ne 0 1 rfl rfl rfl) na0) (nd1 na0 nd0)) (get_B hB rfl 0 rfl) (get_B hB rfl 1 rfl) (Xi (Vq hn) rfl)) (sets_B (ps0' := [(q0, ⟨27, 1, [.vs 2 (Yv T_Belt.enc pc10)], w0⟩), (q1, ⟨3, 1, [.int .i64 pc11], w1⟩)]) hB rfl 0 rfl (ltObjN hn ⟨.vs _ _, trivial⟩) rfl (sets_B (ps0' := [(q0, ⟨27, 1, [.vs 2 (Yv T_Belt.enc pc10)], w0⟩), (q1, ⟨3, 1, [.int .i64 pc11], w1⟩)]) hB rfl 1 rfl (ltObjN hn ⟨.int _ _, trivial⟩) rfl sets_nil)) rfl) rfl ?_
     refine Ve ?_
     refine Xc rfl (fun c7 => ?_) (fun c7 => ?_)
     ·have hF := Yg c7 hF
      refine Vd ?_
      obtain ⟨x8, h9, hF⟩ := Ym hF
      refine Va (rd_mvL rfl) rfl ?_
      refine Va (Vh rfl) rfl ?_
      refine Vk (vef_litF (es := Yv (Yw .i64) [s1.1]) ⟨rfl, rfl, trivial⟩ rfl rfl (nt_all rfl) te_22 ts_3 tz_3 rfl rfl (Za _) (by decide) (lt_map (fun _ => .int _ _))) rfl ?_
      refine Vk (vef_apL (f := (Yw .i64)) (l := s1.2) (ys := [s1.1]) rfl rfl (Vi (Vq hn) rfl) rfl (src_vs rfl) te_22 ts_3 tb_3 (by decide) tz_3 rfl h9 (Yn (Vq hn) rfl)) rfl ?_
      refine Va (rd_asL rfl) rfl ?_
      refine Ve ?_
      obtain rfl := Yy hF
      refine Xq ?_
      exact Vu (Vq hn) [(0, 0 + 1)] (by decide) ⟨Vy rfl (lt_fn ⟨.ptr _ _ _ _ hq0, .ptr _ _ _ _ hq1, trivial⟩), rn_sl 0 0 rfl rfl, Vy rfl (.int _ _), Vy rfl (.int _ _), trivial⟩ ⟨⟨_, rfl, rfl, .same _ _ _ _ (Vo (fun _ => .int _ _))⟩, trivial⟩
     ·have hF := Yh c7 hF
      refine Xh ?_
      obtain rfl := Yy hF
      refine Xq ?_
      exact Vn ⟨rfl, rfl, rfl, rfl, trivial⟩
    ·rintro _ _ _ _ ⟨rfl, hw⟩
     refine ⟨_, _, _, hw, ?_⟩
     refine Vd ?_
     refine Va (rd_add rfl rfl rfl) rfl ?_
     refine Va (Vh rfl) rfl ?_
     refine Ve ?_
     obtain rfl := Yy hF
     refine Xq ?_
     exact Vn ⟨rfl, rfl, rfl, rfl, trivial⟩
   ·have hF := Yh c3 hF
    refine vwp_exit ?_
    obtain rfl := Yy hF
    refine Xq ?_
    exact Vn ⟨rfl, trivial⟩
  ·rintro _ _ _ _ ⟨rfl, hw⟩
   refine ⟨_, _, _, hw, ?_⟩
   refine Vg ?_
   refine Vd ?_
   refine Va (rd_mvL rfl) rfl ?_
   refine Va (rd_asL rfl) rfl ?_
   refine Ve ?_
   refine Vx ?_
   obtain rfl := Yy hF
   refine fnR ?_
   refine Weak.trans (Xy (E' := [(4, .vs 1 (Yv (Yw .i64) o2))]) (loc1 := [⟨3, 1, [], 0 + 1⟩]) (Vq hn) 0 rfl (lt_map (fun _ => .int _ _)) ⟨cv_sl rfl rfl rfl (Yj rfl), trivial⟩ ⟨.refl _, trivial⟩) ?_
   exact Vu (Vq hn) [] (by decide) ⟨Vy rfl (.vs _ _), trivial⟩ trivial
 ·rintro _ _ _ _ ⟨he, hw⟩
  refine ⟨_, _, _, hw, ?_⟩
  exact Ye he [.vs 1 (Yv (Yw .i64) r)] ⟨rfl, trivial⟩ (.vs _ _) ⟨rfl, (List.append_nil _).symm⟩

theorem F_lists_Where__belts_Above_1_ok {p0 : Int} {pc10 : List T_Belt} {pc11 : Int} {r : List Int} (hF : F_lists_Where__belts_Above_1 p0 pc10 pc11 = some r) {low : List AObj} {q0 q1 w0 w1 : Nat} (hnd : [q0, q1].Nodup) (hq0 : low[q0]? = some ⟨27, 1, [.vs 2 (Yv T_Belt.enc pc10)], w0⟩) (hq1 : low[q1]? = some ⟨3, 1, [.int .i64 pc11], w1⟩) {n : Nat} (hn : low.length = n) :
    Yd Try.prog 37 [.int .i64 p0, .fn 38 [] [.ptr q0 w0 0 0, .ptr q1 w1 0 0]] low fun x low' => x = .vs 1 (Yv (Yw .i64) r) ∧ low' = setL low [(q0, ⟨27, 1, [.vs 2 (Yv T_Belt.enc pc10)], w0⟩), (q1, ⟨3, 1, [.int .i64 pc11], w1⟩)] ++ [] := by
  obtain ⟨h1, h2⟩ := bor_start (ps := [(q0, ⟨27, 1, [.vs 2 (Yv T_Belt.enc pc10)], w0⟩), (q1, ⟨3, 1, [.int .i64 pc11], w1⟩)]) hnd (borC hq0 (borC hq1 bor0))
  exact vcalls_low h1 (F_lists_Where__belts_Above_1_ok0 hF h2 hn)

theorem F_belts_Above_ok {p0 : List T_Belt} {p1 : Int} {r : List Int} (hF : F_belts_Above p0 p1 = some r) (low : List AObj) :
    Yd Try.prog 16 [.vs 2 (Yv T_Belt.enc p0), .int .i64 p1] low fun x low' => x = .vs 1 (Yv (Yw .i64) r) ∧ low' = low := by
 refine Vw (nt := 20) (rs := [.tmp 4]) Try.func16 rfl rfl (Yz rfl) rfl ?_
 refine Vt (Q' := FnE (fun E' lw lc => Xv E' lw lc [(4, .vs 1 (Yv (Yw .i64) r))] low [])) ?_ ?_
 ·unfold F_belts_Above at hF
  refine Vg ?_
  refine Vd ?_
  refine Vk (vef_boxN rfl rfl (v := .vs 2 (Yv T_Belt.enc p0)) rfl rfl (Za _) rfl rfl) rfl ?_
  refine Vk (vef_boxN rfl rfl (v := .int .i64 p1) rfl rfl (Za _) rfl rfl) rfl ?_
  refine Va (rd_nv (sz := 1) (rd_asN rfl)) rfl ?_
  refine Ve ?_
  refine Vg ?_
  refine Vg ?_
  obtain ⟨o1, ho1, hF⟩ := Ym hF
  refine Vt (Q' := (fun o1 => OnlyE .normal (fun E' lw lc => Xv E' lw lc [(2, .ptr (low.length + 0) 0 0 0), (3, .ptr (low.length + 1) 0 0 0), (15, .bool o1)] low [⟨27, 1, [.vs 2 (Yv T_Belt.enc p0)], 0⟩, ⟨3, 1, [.int .i64 p1], 0⟩])) o1) ?_ ?_
  ·replace hF := ho1
   refine Vd ?_
   obtain ⟨x2, h3, hF⟩ := Ym hF
   rcases Zb (!x2) with c4 | c4
   ·have hF := Yg c4 hF
    refine Va (Vf rfl (Vi rfl rfl) rfl ta_27 rfl) rfl ?_
    refine Vk (Xd rfl Try.call29 (F_belts_sound_ok h3 _)) rfl ?_
    refine Va (rd_not rfl) rfl ?_
    refine Va (Vj rfl) rfl ?_
    refine Vb rfl rfl (neT c4) rfl ?_
    refine Vb rfl rfl (neT c4) rfl ?_
    refine Vb rfl rfl (neT c4) rfl ?_
    refine Vb rfl rfl (neT c4) rfl ?_
    refine Vb rfl rfl (neT c4) rfl ?_
    refine Vb rfl rfl (neT c4) rfl ?_
    refine Va (Vm (congrArg Yx c4) rfl) rfl ?_
    refine Ve ?_
    obtain rfl := Yy hF
    refine Xq ?_
    exact Vn ⟨rfl, rfl, rfl, trivial⟩
   ·have hF := Yh c4 hF
    obtain ⟨x5, h6, hF⟩ := Ym hF
    refine Va (Vf rfl (Vi rfl rfl) rfl ta_27 rfl) rfl ?_
    refine Vk (Xd rfl Try.call29 (F_belts_sound_ok h3 _)) rfl ?_
    refine Va (rd_not rfl) rfl ?_
    refine Va (Vj rfl) rfl ?_
    refine Vv rfl rfl c4 ?_
    refine Va (Vf rfl (Vi rfl rfl) rfl ta_3 rfl) rfl ?_
    refine Vv rfl rfl c4 ?_
    refine Va (Vf rfl (Vi rfl rfl) rfl ta_27 rfl) rfl ?_
    refine Vv rfl rfl c4 ?_
    refine Va (Xb (Xf rfl rfl te_27) (congrArg (fun n : Nat => Yw .i64 (n : Int)) (Zc _))) rfl ?_
    refine Vv rfl rfl c4 ?_
    refine Va (rd_sub rfl rfl rfl) rfl ?_
    refine Vv rfl rfl c4 ?_
    refine Vk (Xd rfl Try.call33 (F_lists_In_ok h6 _)) rfl ?_
    refine Vv rfl rfl c4 ?_
    refine Va (rd_not rfl) rfl ?_
    refine Va (Vl (congrArg Yx c4) rfl) rfl ?_
    refine Ve ?_
    obtain rfl := Yy hF
    refine Xq ?_
    exact Vn ⟨rfl, rfl, rfl, trivial⟩
  ·rintro _ _ _ _ ⟨rfl, hw⟩
   refine ⟨_, _, _, hw, ?_⟩
   refine Xc rfl (fun c7 => ?_) (fun c7 => ?_)
   ·have hF := Yg c7 hF
    refine Vg ?_
    refine Vd ?_
    refine Va (rd_nv (sz := 1) (rd_asN rfl)) rfl ?_
    refine Ve ?_
    refine Vx ?_
    obtain rfl := Yy hF
    refine fnR ?_
    exact Vu rfl [] (by decide) ⟨Vy rfl (.vs _ _), trivial⟩ trivial
   ·have hF := Yh c7 hF
    refine Xh ?_
    refine Vg ?_
    refine Vd ?_
    obtain ⟨x8, h9, hF⟩ := Ym hF
    refine Va (Vf rfl (Vi rfl rfl) rfl ta_27 rfl) rfl ?_
    refine Va (Xb (Xf rfl rfl te_27) (congrArg (fun n : Nat => Yw .i64 (n : Int)) (Zc _))) rfl ?_
    refine Va (rd_makeFn rfl) rfl ?_
    refine Vk (vef_callS (ps := [((low.length + 0), ⟨27, 1, [.vs 2 (Yv T_Belt.enc p0)], 0⟩), ((low.length + 1), ⟨3, 1, [.int .i64 p1], 0⟩)]) (r := .vs 1 (Yv (Yw .i64) x8)) (os := []) (low1 := low) (loc1 := [⟨27, 1, [.vs 2 (Yv T_Belt.enc p0)], 0⟩, ⟨3, 1, [.int .i64 p1], 0⟩]) (loc2 := [⟨27, 1, [.vs 2 (Yv T_Belt.enc p0)], 0⟩, ⟨3, 1, [.int .i64 p1], 0⟩]) rfl Try.call37 (F_lists_Where__belts_Above_1_ok h9 (nd1 (na1 (Yp rfl) na0) (nd1 na0 nd0)) (get_N rfl rfl) (get_N rfl rfl) (Xi rfl rfl)) (Yi (loc2 := [⟨27, 1, [.vs 2 (Yv T_Belt.enc p0)], 0⟩, ⟨3, 1, [.int .i64 p1], 0⟩]) rfl 0 rfl (Yi (loc2 := [⟨27, 1, [.vs 2 (Yv T_Belt.enc p0)], 0⟩, ⟨3, 1, [.int .i64 p1], 0⟩]) rfl 1 rfl sets_nil)) rfl) rfl ?_
    refine Va (rd_asV rfl) rfl ?_
    refine Ve ?_
    refine Vx ?_
    obtain rfl := Yy hF
    refine fnR ?_
    exact Vu rfl [] (by decide) ⟨Vy rfl (.vs _ _), trivial⟩ trivial
 ·rintro _ _ _ _ ⟨he, hw⟩
  refine ⟨_, _, _, hw, ?_⟩
  exact Ye he [.vs 1 (Yv (Yw .i64) r)] ⟨rfl, trivial⟩ (.vs _ _) ⟨rfl, rfl⟩

theorem F_law39_awake_ok  {r : Bool} (hF : F_law39_awake = some r) (low : List AObj) :
    Yd Try.prog 8 [] low fun x low' => x = .bool r ∧ low' = low := by
 refine Vw (nt := 123) (rs := [.tmp 0]) Try.func8 rfl rfl (Yz rfl) rfl ?_
 refine Vt (Q' := FnE (fun E' lw lc => Xv E' lw lc [(0, .bool r)] low [])) ?_ ?_
 ·unfold F_law39_awake at hF
  refine Vg ?_
  refine Vd ?_
  refine Va (Xj rfl) rfl ?_
  refine Ve ?_
  refine Vg ?_
  refine Vd ?_
  refine Va (rd_build (vs := [(0, .int .i64 (-1)), (1, .int .i64 5)]) (ds := [.int .i64 (-1), .int .i64 5]) tz_31 rfl rfl tp_31 ⟨rfl, rfl, rfl, rfl, trivial⟩ (nt_all2 rfl) rfl) rfl ?_
  refine Va (rd_build (vs := [(0, .int .i64 0), (1, .int .i64 3)]) (ds := [.int .i64 0, .int .i64 3]) tz_31 rfl rfl tp_31 ⟨rfl, rfl, rfl, rfl, trivial⟩ (nt_all2 rfl) rfl) rfl ?_
  refine Vk (vef_litF (es := Yv T_Belt.enc [(T_Belt.mk (-1) 5), (T_Belt.mk 0 3)]) ⟨rfl, rfl, rfl, rfl, trivial⟩ rfl rfl (nt_all rfl) te_27 ts_31 tz_31 rfl rfl (Za _) (by decide) (lt_map T_Belt.enc_lt)) rfl ?_
  refine Va (rd_asV rfl) rfl ?_
  refine Ve ?_
  refine Vg ?_
  refine Vd ?_
  obtain ⟨x1, h2, hF⟩ := Ym hF
  refine Va (Xg rfl) rfl ?_
  refine Vk (Xd rfl Try.call12 (F_belts_Make_ok h2 _)) rfl ?_
  refine Va (rd_mvT rfl) rfl ?_
  refine Va (Xx rfl rfl) rfl ?_
  refine Va (Xx rfl rfl) rfl ?_
  refine Vk (Xm rfl rfl tz_34 rfl rfl (Za _) rfl) rfl ?_
  refine Vk (Xn (p := .agg [.int .i64 x1.1.Time, .vs 1 (Yv (Yw .i64) x1.1.States), .vs 1 (Yv (Yw .i64) x1.1.Since), .vs 1 (Yv Yx x1.1.Pulled), .vs 1 (Yv Yx x1.1.Held)]) (e' := .agg [.int .i64 x1.1.Time, .vs 1 (Yv (Yw .i64) x1.1.States), .vs 1 (Yv (Yw .i64) x1.1.Since), .vs 1 (Yv Yx x1.1.Pulled), .vs 1 (Yv Yx x1.1.Held)]) rfl (Vi rfl rfl) rfl rfl ts_34 rfl (Yt rfl) rfl (Yz rfl) rfl (Yn rfl rfl)) rfl ?_
  refine Va (Xa rfl) rfl ?_
  refine Ve ?_
  refine Vg ?_
  refine Vd ?_
  obtain ⟨x3, h4, hF⟩ := Ym hF
  refine Va (Xg rfl) rfl ?_
  refine Va (Xs (ds := [.int .i64 x1.1.Time, .vs 1 (Yv (Yw .i64) x1.1.States), .vs 1 (Yv (Yw .i64) x1.1.Since), .vs 1 (Yv Yx x1.1.Pulled), .vs 1 (Yv Yx x1.1.Held)]) rfl (Vi rfl rfl) rfl ta_34 ts_34 rfl rfl rfl) rfl ?_
  refine Vk (Xk (r := .tup [.agg [.int .i64 x3.1.Time, .vs 1 (Yv (Yw .i64) x3.1.States), .vs 1 (Yv (Yw .i64) x3.1.Since), .vs 1 (Yv Yx x3.1.Pulled), .vs 1 (Yv Yx x3.1.Held)], .int .i64 x3.2]) (os := []) rfl Try.call13 (F_belts_Start_ok h4 _ (Xi rfl rfl))) rfl ?_
  refine Va (rd_mvT rfl) rfl ?_
  refine Va (Xx rfl rfl) rfl ?_
  refine Va (Xx rfl rfl) rfl ?_
  refine Vk (Xm rfl rfl tz_34 rfl rfl (Za _) rfl) rfl ?_
  refine Vk (Xn (p := .agg [.int .i64 x3.1.Time, .vs 1 (Yv (Yw .i64) x3.1.States), .vs 1 (Yv (Yw .i64) x3.1.Since), .vs 1 (Yv Yx x3.1.Pulled), .vs 1 (Yv Yx x3.1.Held)]) (e' := .agg [.int .i64 x3.1.Time, .vs 1 (Yv (Yw .i64) x3.1.States), .vs 1 (Yv (Yw .i64) x3.1.Since), .vs 1 (Yv Yx x3.1.Pulled), .vs 1 (Yv Yx x3.1.Held)]) rfl (Vi rfl rfl) rfl rfl ts_34 rfl (Yt rfl) rfl (Yz rfl) rfl (Yn rfl rfl)) rfl ?_
  refine Va (Xa rfl) rfl ?_
  refine Ve ?_
  refine Vg ?_
  refine Vd ?_
  obtain ⟨x5, h6, hF⟩ := Ym hF
  refine Va (Xg rfl) rfl ?_
  refine Va (Xs (ds := [.int .i64 x1.1.Time, .vs 1 (Yv (Yw .i64) x1.1.States), .vs 1 (Yv (Yw .i64) x1.1.Since), .vs 1 (Yv Yx x1.1.Pulled), .vs 1 (Yv Yx x1.1.Held)]) rfl (Vi rfl rfl) rfl ta_34 ts_34 rfl rfl rfl) rfl ?_
  refine Vk (Xk (r := .tup [.agg [.int .i64 x5.1.Time, .vs 1 (Yv (Yw .i64) x5.1.States), .vs 1 (Yv (Yw .i64) x5.1.Since), .vs 1 (Yv Yx x5.1.Pulled), .vs 1 (Yv Yx x5.1.Held)], .int .i64 x5.2]) (os := []) rfl Try.call13 (F_belts_Start_ok h6 _ (Xi rfl rfl))) rfl ?_
  refine Va (rd_mvT rfl) rfl ?_
  refine Va (Xx rfl rfl) rfl ?_
  refine Va (Xx rfl rfl) rfl ?_
  refine Vk (Xn (p := .agg [.int .i64 x5.1.Time, .vs 1 (Yv (Yw .i64) x5.1.States), .vs 1 (Yv (Yw .i64) x5.1.Since), .vs 1 (Yv Yx x5.1.Pulled), .vs 1 (Yv Yx x5.1.Held)]) (e' := .agg [.int .i64 x5.1.Time, .vs 1 (Yv (Yw .i64) x5.1.States), .vs 1 (Yv (Yw .i64) x5.1.Since), .vs 1 (Yv Yx x5.1.Pulled), .vs 1 (Yv Yx x5.1.Held)]) rfl (Vi rfl rfl) rfl rfl ts_34 rfl (Yt rfl) rfl (Yz rfl) rfl (Yn rfl rfl)) rfl ?_
  refine Va (Xa rfl) rfl ?_
  refine Ve ?_
  refine Vg ?_
  refine Vd ?_
  obtain ⟨x7, h8, hF⟩ := Ym hF
  refine Va (Xg rfl) rfl ?_
  refine Va (Xs (ds := [.int .i64 x5.1.Time, .vs 1 (Yv (Yw .i64) x5.1.States), .vs 1 (Yv (Yw .i64) x5.1.Since), .vs 1 (Yv Yx x5.1.Pulled), .vs 1 (Yv Yx x5.1.Held)]) rfl (Vi rfl rfl) rfl ta_34 ts_34 rfl rfl rfl) rfl ?_
  refine Vk (Xk (r := .tup [.agg [.int .i64 x7.1.Time, .vs 1 (Yv (Yw .i64) x7.1.States), .vs 1 (Yv (Yw .i64) x7.1.Since), .vs 1 (Yv Yx x7.1.Pulled), .vs 1 (Yv Yx x7.1.Held)], .int .i64 x7.2]) (os := []) rfl Try.call14 (F_belts_Wait_ok h8 _ (Xi rfl rfl))) rfl ?_
  refine Va (rd_mvT rfl) rfl ?_
  refine Va (Xx rfl rfl) rfl ?_
  refine Va (Xx rfl rfl) rfl ?_
  refine Vk (Xn (p := .agg [.int .i64 x7.1.Time, .vs 1 (Yv (Yw .i64) x7.1.States), .vs 1 (Yv (Yw .i64) x7.1.Since), .vs 1 (Yv Yx x7.1.Pulled), .vs 1 (Yv Yx x7.1.Held)]) (e' := .agg [.int .i64 x7.1.Time, .vs 1 (Yv (Yw .i64) x7.1.States), .vs 1 (Yv (Yw .i64) x7.1.Since), .vs 1 (Yv Yx x7.1.Pulled), .vs 1 (Yv Yx x7.1.Held)]) rfl (Vi rfl rfl) rfl rfl ts_34 rfl (Yt rfl) rfl (Yz rfl) rfl (Yn rfl rfl)) rfl ?_
  refine Va (Xa rfl) rfl ?_
  refine Ve ?_
  refine Vg ?_
  refine Vd ?_
  obtain ⟨x9, h10, hF⟩ := Ym hF
  refine Va (Xg rfl) rfl ?_
  refine Va (Xs (ds := [.int .i64 x7.1.Time, .vs 1 (Yv (Yw .i64) x7.1.States), .vs 1 (Yv (Yw .i64) x7.1.Since), .vs 1 (Yv Yx x7.1.Pulled), .vs 1 (Yv Yx x7.1.Held)]) rfl (Vi rfl rfl) rfl ta_34 ts_34 rfl rfl rfl) rfl ?_
  refine Vk (Xk (r := .tup [.agg [.int .i64 x9.1.Time, .vs 1 (Yv (Yw .i64) x9.1.States), .vs 1 (Yv (Yw .i64) x9.1.Since), .vs 1 (Yv Yx x9.1.Pulled), .vs 1 (Yv Yx x9.1.Held)], .int .i64 x9.2]) (os := []) rfl Try.call13 (F_belts_Start_ok h10 _ (Xi rfl rfl))) rfl ?_
  refine Va (rd_mvT rfl) rfl ?_
  refine Va (Xx rfl rfl) rfl ?_
  refine Va (Xx rfl rfl) rfl ?_
  refine Vk (Xn (p := .agg [.int .i64 x9.1.Time, .vs 1 (Yv (Yw .i64) x9.1.States), .vs 1 (Yv (Yw .i64) x9.1.Since), .vs 1 (Yv Yx x9.1.Pulled), .vs 1 (Yv Yx x9.1.Held)]) (e' := .agg [.int .i64 x9.1.Time, .vs 1 (Yv (Yw .i64) x9.1.States), .vs 1 (Yv (Yw .i64) x9.1.Since), .vs 1 (Yv Yx x9.1.Pulled), .vs 1 (Yv Yx x9.1.Held)]) rfl (Vi rfl rfl) rfl rfl ts_34 rfl (Yt rfl) rfl (Yz rfl) rfl (Yn rfl rfl)) rfl ?_
  refine Va (Xa rfl) rfl ?_
  refine Ve ?_
  refine Vg ?_
  refine Vd ?_
  obtain ⟨x11, h12, hF⟩ := Ym hF
  refine Va (Xg rfl) rfl ?_
  refine Va (Xs (ds := [.int .i64 x9.1.Time, .vs 1 (Yv (Yw .i64) x9.1.States), .vs 1 (Yv (Yw .i64) x9.1.Since), .vs 1 (Yv Yx x9.1.Pulled), .vs 1 (Yv Yx x9.1.Held)]) rfl (Vi rfl rfl) rfl ta_34 ts_34 rfl rfl rfl) rfl ?_
  refine Vk (Xk (r := .tup [.agg [.int .i64 x11.1.Time, .vs 1 (Yv (Yw .i64) x11.1.States), .vs 1 (Yv (Yw .i64) x11.1.Since), .vs 1 (Yv Yx x11.1.Pulled), .vs 1 (Yv Yx x11.1.Held)], .int .i64 x11.2]) (os := []) rfl Try.call14 (F_belts_Wait_ok h12 _ (Xi rfl rfl))) rfl ?_
  refine Va (rd_mvT rfl) rfl ?_
  refine Va (Xx rfl rfl) rfl ?_
  refine Va (Xx rfl rfl) rfl ?_
  refine Vk (Xn (p := .agg [.int .i64 x11.1.Time, .vs 1 (Yv (Yw .i64) x11.1.States), .vs 1 (Yv (Yw .i64) x11.1.Since), .vs 1 (Yv Yx x11.1.Pulled), .vs 1 (Yv Yx x11.1.Held)]) (e' := .agg [.int .i64 x11.1.Time, .vs 1 (Yv (Yw .i64) x11.1.States), .vs 1 (Yv (Yw .i64) x11.1.Since), .vs 1 (Yv Yx x11.1.Pulled), .vs 1 (Yv Yx x11.1.Held)]) rfl (Vi rfl rfl) rfl rfl ts_34 rfl (Yt rfl) rfl (Yz rfl) rfl (Yn rfl rfl)) rfl ?_
  refine Va (Xa rfl) rfl ?_
  refine Ve ?_
  refine Vg ?_
  refine Vd ?_
  obtain ⟨x13, h14, hF⟩ := Ym hF
  refine Va (Xg rfl) rfl ?_
  refine Va (Xs (ds := [.int .i64 x11.1.Time, .vs 1 (Yv (Yw .i64) x11.1.States), .vs 1 (Yv (Yw .i64) x11.1.Since), .vs 1 (Yv Yx x11.1.Pulled), .vs 1 (Yv Yx x11.1.Held)]) rfl (Vi rfl rfl) rfl ta_34 ts_34 rfl rfl rfl) rfl ?_
  refine Vk (Xk (r := .tup [.agg [.int .i64 x13.1.Time, .vs 1 (Yv (Yw .i64) x13.1.States), .vs 1 (Yv (Yw .i64) x13.1.Since), .vs 1 (Yv Yx x13.1.Pulled), .vs 1 (Yv Yx x13.1.Held)], .int .i64 x13.2]) (os := []) rfl Try.call15 (F_belts_Pull_ok h14 _ (Xi rfl rfl))) rfl ?_
  refine Va (rd_mvT rfl) rfl ?_
  refine Va (Xx rfl rfl) rfl ?_
  refine Va (Xx rfl rfl) rfl ?_
  refine Vk (Xm rfl rfl tz_34 rfl rfl (Za _) rfl) rfl ?_
  refine Vk (Xn (p := .agg [.int .i64 x13.1.Time, .vs 1 (Yv (Yw .i64) x13.1.States), .vs 1 (Yv (Yw .i64) x13.1.Since), .vs 1 (Yv Yx x13.1.Pulled), .vs 1 (Yv Yx x13.1.Held)]) (e' := .agg [.int .i64 x13.1.Time, .vs 1 (Yv (Yw .i64) x13.1.States), .vs 1 (Yv (Yw .i64) x13.1.Since), .vs 1 (Yv Yx x13.1.Pulled), .vs 1 (Yv Yx x13.1.Held)]) rfl (Vi rfl rfl) rfl rfl ts_34 rfl (Yt rfl) rfl (Yz rfl) rfl (Yn rfl rfl)) rfl ?_
  refine Va (Xa rfl) rfl ?_
  refine Ve ?_
  refine Vg ?_
  refine Vd ?_
  obtain ⟨x15, h16, hF⟩ := Ym hF
  refine Va (Xg rfl) rfl ?_
  refine Vk (Xd rfl Try.call16 (F_belts_Above_ok h16 _)) rfl ?_
  refine Va (rd_asV rfl) rfl ?_
  refine Ve ?_
  refine Vg ?_
  refine Vd ?_
  rcases Zb (decide (x1.2 = 0)) with c17 | c17
  ·have hF := Yg c17 hF
   rcases Zb (decide (x3.2 = 10)) with c18 | c18
   ·have hF := Yg c18 hF
    rcases Zb (decide (x5.2 = 0)) with c19 | c19
    ·have hF := Yg c19 hF
     rcases Zb (decide (x7.2 = 0)) with c20 | c20
     ·have hF := Yg c20 hF
      rcases Zb (decide (x9.2 = 0)) with c21 | c21
      ·have hF := Yg c21 hF
       rcases Zb (decide (x11.2 = 0)) with c22 | c22
       ·have hF := Yg c22 hF
        rcases Zb (decide (x13.2 = 0)) with c23 | c23
        ·have hF := Yg c23 hF
         rcases Zb (decide (((x11.1.States).length : Int) = 2)) with c24 | c24
         ·have hF := Yg c24 hF
          obtain ⟨x25, h26, hF⟩ := Ym hF
          rcases Zb (decide (x25 = 2)) with c27 | c27
          ·have hF := Yg c27 hF
           obtain ⟨x28, h29, hF⟩ := Ym hF
           rcases Zb (decide (x28 = 8)) with c30 | c30
           ·have hF := Yg c30 hF
            rcases Zb (decide (((x13.1.States).length : Int) = 2)) with c31 | c31
            ·have hF := Yg c31 hF
             obtain ⟨x32, h33, hF⟩ := Ym hF
             rcases Zb (decide (x32 = 0)) with c34 | c34
             ·have hF := Yg c34 hF
              refine Va (Vh rfl) rfl ?_
              refine Va (Vs rfl rfl) rfl ?_
              refine Va (Vj rfl) rfl ?_
              refine Vv rfl rfl c17 ?_
              refine Va (Vh rfl) rfl ?_
              refine Vv rfl rfl c17 ?_
              refine Va (Vs rfl rfl) rfl ?_
              refine Va (Vm (congrArg Yx c17) rfl) rfl ?_
              refine Va (Vj rfl) rfl ?_
              refine Vv rfl rfl c18 ?_
              refine Va (Vh rfl) rfl ?_
              refine Vv rfl rfl c18 ?_
              refine Va (Vs rfl rfl) rfl ?_
              refine Va (Vm (congrArg Yx c18) rfl) rfl ?_
              refine Va (Vj rfl) rfl ?_
              refine Vv rfl rfl c19 ?_
              refine Va (Vh rfl) rfl ?_
              refine Vv rfl rfl c19 ?_
              refine Va (Vs rfl rfl) rfl ?_
              refine Va (Vm (congrArg Yx c19) rfl) rfl ?_
              refine Va (Vj rfl) rfl ?_
              refine Vv rfl rfl c20 ?_
              refine Va (Vh rfl) rfl ?_
              refine Vv rfl rfl c20 ?_
              refine Va (Vs rfl rfl) rfl ?_
              refine Va (Vm (congrArg Yx c20) rfl) rfl ?_
              refine Va (Vj rfl) rfl ?_
              refine Vv rfl rfl c21 ?_
              refine Va (Vh rfl) rfl ?_
              refine Vv rfl rfl c21 ?_
              refine Va (Vs rfl rfl) rfl ?_
              refine Va (Vm (congrArg Yx c21) rfl) rfl ?_
              refine Va (Vj rfl) rfl ?_
              refine Vv rfl rfl c22 ?_
              refine Va (Vh rfl) rfl ?_
              refine Vv rfl rfl c22 ?_
              refine Va (Vs rfl rfl) rfl ?_
              refine Va (Vm (congrArg Yx c22) rfl) rfl ?_
              refine Va (Vj rfl) rfl ?_
              refine Vv rfl rfl c23 ?_
              refine Va (Vc rfl tf_34_1 ts_22 (by decide)) rfl ?_
              refine Vv rfl rfl c23 ?_
              refine Va (Vf rfl (Vi rfl rfl) rfl ta_22 rfl) rfl ?_
              refine Vv rfl rfl c23 ?_
              refine Va (Xb (Xf rfl rfl te_22) (congrArg (fun n : Nat => Yw .i64 (n : Int)) (Zc _))) rfl ?_
              refine Vv rfl rfl c23 ?_
              refine Va (Vs rfl rfl) rfl ?_
              refine Va (Vm (congrArg Yx c23) rfl) rfl ?_
              refine Va (Vj rfl) rfl ?_
              refine Vv rfl rfl c24 ?_
              refine Va (Vc rfl tf_34_1 ts_22 (by decide)) rfl ?_
              refine Vv rfl rfl c24 ?_
              refine Va (Vf rfl (Vi rfl rfl) rfl ta_22 rfl) rfl ?_
              refine Vv rfl rfl c24 ?_
              refine Va (Xb (Yb rfl rfl h26 te_22 ts_3) (v' := .vptr [.int .i64 x25] 0) rfl) rfl ?_
              refine Vv rfl rfl c24 ?_
              refine Va (Vz rfl ta_3 rfl) rfl ?_
              refine Vv rfl rfl c24 ?_
              refine Va (Vs rfl rfl) rfl ?_
              refine Va (Vm (congrArg Yx c24) rfl) rfl ?_
              refine Va (Vj rfl) rfl ?_
              refine Vv rfl rfl c27 ?_
              refine Va (Vc rfl tf_34_2 ts_22 (by decide)) rfl ?_
              refine Vv rfl rfl c27 ?_
              refine Va (Vf rfl (Vi rfl rfl) rfl ta_22 rfl) rfl ?_
              refine Vv rfl rfl c27 ?_
              refine Va (Xb (Yb rfl rfl h29 te_22 ts_3) (v' := .vptr [.int .i64 x28] 0) rfl) rfl ?_
              refine Vv rfl rfl c27 ?_
              refine Va (Vz rfl ta_3 rfl) rfl ?_
              refine Vv rfl rfl c27 ?_
              refine Va (Vs rfl rfl) rfl ?_
              refine Va (Vm (congrArg Yx c27) rfl) rfl ?_
              refine Va (Vj rfl) rfl ?_
              refine Vv rfl rfl c30 ?_
              refine Va (Vc rfl tf_34_1 ts_22 (by decide)) rfl ?_
              refine Vv rfl rfl c30 ?_
              refine Va (Vf rfl (Vi rfl rfl) rfl ta_22 rfl) rfl ?_
              refine Vv rfl rfl c30 ?_
              refine Va (Xb (Xf rfl rfl te_22) (congrArg (fun n : Nat => Yw .i64 (n : Int)) (Zc _))) rfl ?_
              refine Vv rfl rfl c30 ?_
              refine Va (Vs rfl rfl) rfl ?_
              refine Va (Vm (congrArg Yx c30) rfl) rfl ?_
              refine Va (Vj rfl) rfl ?_
              refine Vv rfl rfl c31 ?_
              refine Va (Vc rfl tf_34_1 ts_22 (by decide)) rfl ?_
              refine Vv rfl rfl c31 ?_
              refine Va (Vf rfl (Vi rfl rfl) rfl ta_22 rfl) rfl ?_
              refine Vv rfl rfl c31 ?_
              refine Va (Xb (Yb rfl rfl h33 te_22 ts_3) (v' := .vptr [.int .i64 x32] 0) rfl) rfl ?_
              refine Vv rfl rfl c31 ?_
              refine Va (Vz rfl ta_3 rfl) rfl ?_
              refine Vv rfl rfl c31 ?_
              refine Va (Vs rfl rfl) rfl ?_
              refine Va (Vm (congrArg Yx c31) rfl) rfl ?_
              refine Va (Vj rfl) rfl ?_
              refine Vv rfl rfl c34 ?_
              refine Va (Xg rfl) rfl ?_
              refine Vv rfl rfl c34 ?_
              refine Va (Xb (Xf rfl rfl te_22) (congrArg (fun n : Nat => Yw .i64 (n : Int)) (Zc _))) rfl ?_
              refine Vv rfl rfl c34 ?_
              refine Va (Vs rfl rfl) rfl ?_
              refine Va (Vm (congrArg Yx c34) rfl) rfl ?_
              refine Va (Xj rfl) rfl ?_
              refine Ve ?_
              refine Vx ?_
              obtain rfl := Yy hF
              refine fnR ?_
              exact Vu rfl [] (by decide) ⟨Vy rfl (.bool _), trivial⟩ trivial
             ·have hF := Yh c34 hF
              refine Va (Vh rfl) rfl ?_
              refine Va (Vs rfl rfl) rfl ?_
              refine Va (Vj rfl) rfl ?_
              refine Vv rfl rfl c17 ?_
              refine Va (Vh rfl) rfl ?_
              refine Vv rfl rfl c17 ?_
              refine Va (Vs rfl rfl) rfl ?_
              refine Va (Vm (congrArg Yx c17) rfl) rfl ?_
              refine Va (Vj rfl) rfl ?_
              refine Vv rfl rfl c18 ?_
              refine Va (Vh rfl) rfl ?_
              refine Vv rfl rfl c18 ?_
              refine Va (Vs rfl rfl) rfl ?_
              refine Va (Vm (congrArg Yx c18) rfl) rfl ?_
              refine Va (Vj rfl) rfl ?_
              refine Vv rfl rfl c19 ?_
              refine Va (Vh rfl) rfl ?_
              refine Vv rfl rfl c19 ?_
              refine Va (Vs rfl rfl) rfl ?_
              refine Va (Vm (congrArg Yx c19) rfl) rfl ?_
              refine Va (Vj rfl) rfl ?_
              refine Vv rfl rfl c20 ?_
              refine Va (Vh rfl) rfl ?_
              refine Vv rfl rfl c20 ?_
              refine Va (Vs rfl rfl) rfl ?_
              refine Va (Vm (congrArg Yx c20) rfl) rfl ?_
              refine Va (Vj rfl) rfl ?_
              refine Vv rfl rfl c21 ?_
              refine Va (Vh rfl) rfl ?_
              refine Vv rfl rfl c21 ?_
              refine Va (Vs rfl rfl) rfl ?_
              refine Va (Vm (congrArg Yx c21) rfl) rfl ?_
              refine Va (Vj rfl) rfl ?_
              refine Vv rfl rfl c22 ?_
              refine Va (Vh rfl) rfl ?_
              refine Vv rfl rfl c22 ?_
              refine Va (Vs rfl rfl) rfl ?_
              refine Va (Vm (congrArg Yx c22) rfl) rfl ?_
              refine Va (Vj rfl) rfl ?_
              refine Vv rfl rfl c23 ?_
              refine Va (Vc rfl tf_34_1 ts_22 (by decide)) rfl ?_
              refine Vv rfl rfl c23 ?_
              refine Va (Vf rfl (Vi rfl rfl) rfl ta_22 rfl) rfl ?_
              refine Vv rfl rfl c23 ?_
              refine Va (Xb (Xf rfl rfl te_22) (congrArg (fun n : Nat => Yw .i64 (n : Int)) (Zc _))) rfl ?_
              refine Vv rfl rfl c23 ?_
              refine Va (Vs rfl rfl) rfl ?_
              refine Va (Vm (congrArg Yx c23) rfl) rfl ?_
              refine Va (Vj rfl) rfl ?_
              refine Vv rfl rfl c24 ?_
              refine Va (Vc rfl tf_34_1 ts_22 (by decide)) rfl ?_
              refine Vv rfl rfl c24 ?_
              refine Va (Vf rfl (Vi rfl rfl) rfl ta_22 rfl) rfl ?_
              refine Vv rfl rfl c24 ?_
              refine Va (Xb (Yb rfl rfl h26 te_22 ts_3) (v' := .vptr [.int .i64 x25] 0) rfl) rfl ?_
              refine Vv rfl rfl c24 ?_
              refine Va (Vz rfl ta_3 rfl) rfl ?_
              refine Vv rfl rfl c24 ?_
              refine Va (Vs rfl rfl) rfl ?_
              refine Va (Vm (congrArg Yx c24) rfl) rfl ?_
              refine Va (Vj rfl) rfl ?_
              refine Vv rfl rfl c27 ?_
              refine Va (Vc rfl tf_34_2 ts_22 (by decide)) rfl ?_
              refine Vv rfl rfl c27 ?_
              refine Va (Vf rfl (Vi rfl rfl) rfl ta_22 rfl) rfl ?_
              refine Vv rfl rfl c27 ?_
              refine Va (Xb (Yb rfl rfl h29 te_22 ts_3) (v' := .vptr [.int .i64 x28] 0) rfl) rfl ?_
              refine Vv rfl rfl c27 ?_
              refine Va (Vz rfl ta_3 rfl) rfl ?_
              refine Vv rfl rfl c27 ?_
              refine Va (Vs rfl rfl) rfl ?_
              refine Va (Vm (congrArg Yx c27) rfl) rfl ?_
              refine Va (Vj rfl) rfl ?_
              refine Vv rfl rfl c30 ?_
              refine Va (Vc rfl tf_34_1 ts_22 (by decide)) rfl ?_
              refine Vv rfl rfl c30 ?_
              refine Va (Vf rfl (Vi rfl rfl) rfl ta_22 rfl) rfl ?_
              refine Vv rfl rfl c30 ?_
              refine Va (Xb (Xf rfl rfl te_22) (congrArg (fun n : Nat => Yw .i64 (n : Int)) (Zc _))) rfl ?_
              refine Vv rfl rfl c30 ?_
              refine Va (Vs rfl rfl) rfl ?_
              refine Va (Vm (congrArg Yx c30) rfl) rfl ?_
              refine Va (Vj rfl) rfl ?_
              refine Vv rfl rfl c31 ?_
              refine Va (Vc rfl tf_34_1 ts_22 (by decide)) rfl ?_
              refine Vv rfl rfl c31 ?_
              refine Va (Vf rfl (Vi rfl rfl) rfl ta_22 rfl) rfl ?_
              refine Vv rfl rfl c31 ?_
              refine Va (Xb (Yb rfl rfl h33 te_22 ts_3) (v' := .vptr [.int .i64 x32] 0) rfl) rfl ?_
              refine Vv rfl rfl c31 ?_
              refine Va (Vz rfl ta_3 rfl) rfl ?_
              refine Vv rfl rfl c31 ?_
              refine Va (Vs rfl rfl) rfl ?_
              refine Va (Vm (congrArg Yx c31) rfl) rfl ?_
              refine Va (Vj rfl) rfl ?_
              refine Vb rfl rfl (neF c34) rfl ?_
              refine Vb rfl rfl (neF c34) rfl ?_
              refine Vb rfl rfl (neF c34) rfl ?_
              refine Va (Vl (congrArg Yx c34) rfl) rfl ?_
              refine Va (Xj rfl) rfl ?_
              refine Ve ?_
              refine Vx ?_
              obtain rfl := Yy hF
              refine fnR ?_
              exact Vu rfl [] (by decide) ⟨Vy rfl (.bool _), trivial⟩ trivial
            ·have hF := Yh c31 hF
             refine Va (Vh rfl) rfl ?_
             refine Va (Vs rfl rfl) rfl ?_
             refine Va (Vj rfl) rfl ?_
             refine Vv rfl rfl c17 ?_
             refine Va (Vh rfl) rfl ?_
             refine Vv rfl rfl c17 ?_
             refine Va (Vs rfl rfl) rfl ?_
             refine Va (Vm (congrArg Yx c17) rfl) rfl ?_
             refine Va (Vj rfl) rfl ?_
             refine Vv rfl rfl c18 ?_
             refine Va (Vh rfl) rfl ?_
             refine Vv rfl rfl c18 ?_
             refine Va (Vs rfl rfl) rfl ?_
             refine Va (Vm (congrArg Yx c18) rfl) rfl ?_
             refine Va (Vj rfl) rfl ?_
             refine Vv rfl rfl c19 ?_
             refine Va (Vh rfl) rfl ?_
             refine Vv rfl rfl c19 ?_
             refine Va (Vs rfl rfl) rfl ?_
             refine Va (Vm (congrArg Yx c19) rfl) rfl ?_
             refine Va (Vj rfl) rfl ?_
             refine Vv rfl rfl c20 ?_
             refine Va (Vh rfl) rfl ?_
             refine Vv rfl rfl c20 ?_
             refine Va (Vs rfl rfl) rfl ?_
             refine Va (Vm (congrArg Yx c20) rfl) rfl ?_
             refine Va (Vj rfl) rfl ?_
             refine Vv rfl rfl c21 ?_
             refine Va (Vh rfl) rfl ?_
             refine Vv rfl rfl c21 ?_
             refine Va (Vs rfl rfl) rfl ?_
             refine Va (Vm (congrArg Yx c21) rfl) rfl ?_
             refine Va (Vj rfl) rfl ?_
             refine Vv rfl rfl c22 ?_
             refine Va (Vh rfl) rfl ?_
             refine Vv rfl rfl c22 ?_
             refine Va (Vs rfl rfl) rfl ?_
             refine Va (Vm (congrArg Yx c22) rfl) rfl ?_
             refine Va (Vj rfl) rfl ?_
             refine Vv rfl rfl c23 ?_
             refine Va (Vc rfl tf_34_1 ts_22 (by decide)) rfl ?_
             refine Vv rfl rfl c23 ?_
             refine Va (Vf rfl (Vi rfl rfl) rfl ta_22 rfl) rfl ?_
             refine Vv rfl rfl c23 ?_
             refine Va (Xb (Xf rfl rfl te_22) (congrArg (fun n : Nat => Yw .i64 (n : Int)) (Zc _))) rfl ?_
             refine Vv rfl rfl c23 ?_
             refine Va (Vs rfl rfl) rfl ?_
             refine Va (Vm (congrArg Yx c23) rfl) rfl ?_
             refine Va (Vj rfl) rfl ?_
             refine Vv rfl rfl c24 ?_
             refine Va (Vc rfl tf_34_1 ts_22 (by decide)) rfl ?_
             refine Vv rfl rfl c24 ?_
             refine Va (Vf rfl (Vi rfl rfl) rfl ta_22 rfl) rfl ?_
             refine Vv rfl rfl c24 ?_
             refine Va (Xb (Yb rfl rfl h26 te_22 ts_3) (v' := .vptr [.int .i64 x25] 0) rfl) rfl ?_
             refine Vv rfl rfl c24 ?_
             refine Va (Vz rfl ta_3 rfl) rfl ?_
             refine Vv rfl rfl c24 ?_
             refine Va (Vs rfl rfl) rfl ?_
             refine Va (Vm (congrArg Yx c24) rfl) rfl ?_
             refine Va (Vj rfl) rfl ?_
             refine Vv rfl rfl c27 ?_
             refine Va (Vc rfl tf_34_2 ts_22 (by decide)) rfl ?_
             refine Vv rfl rfl c27 ?_
             refine Va (Vf rfl (Vi rfl rfl) rfl ta_22 rfl) rfl ?_
             refine Vv rfl rfl c27 ?_
             refine Va (Xb (Yb rfl rfl h29 te_22 ts_3) (v' := .vptr [.int .i64 x28] 0) rfl) rfl ?_
             refine Vv rfl rfl c27 ?_
             refine Va (Vz rfl ta_3 rfl) rfl ?_
             refine Vv rfl rfl c27 ?_
             refine Va (Vs rfl rfl) rfl ?_
             refine Va (Vm (congrArg Yx c27) rfl) rfl ?_
             refine Va (Vj rfl) rfl ?_
             refine Vv rfl rfl c30 ?_
             refine Va (Vc rfl tf_34_1 ts_22 (by decide)) rfl ?_
             refine Vv rfl rfl c30 ?_
             refine Va (Vf rfl (Vi rfl rfl) rfl ta_22 rfl) rfl ?_
             refine Vv rfl rfl c30 ?_
             refine Va (Xb (Xf rfl rfl te_22) (congrArg (fun n : Nat => Yw .i64 (n : Int)) (Zc _))) rfl ?_
             refine Vv rfl rfl c30 ?_
             refine Va (Vs rfl rfl) rfl ?_
             refine Va (Vm (congrArg Yx c30) rfl) rfl ?_
             refine Va (Vj rfl) rfl ?_
             refine Vb rfl rfl (neF c31) rfl ?_
             refine Vb rfl rfl (neF c31) rfl ?_
             refine Vb rfl rfl (neF c31) rfl ?_
             refine Vb rfl rfl (neF c31) rfl ?_
             refine Vb rfl rfl (neF c31) rfl ?_
             refine Va (Vl (congrArg Yx c31) rfl) rfl ?_
             refine Va (Vj rfl) rfl ?_
             refine Vb rfl rfl (by decide) rfl ?_
             refine Vb rfl rfl (by decide) rfl ?_
             refine Vb rfl rfl (by decide) rfl ?_
             refine Va (Vl rfl rfl) rfl ?_
             refine Va (Xj rfl) rfl ?_
             refine Ve ?_
             refine Vx ?_
             obtain rfl := Yy hF
             refine fnR ?_
             exact Vu rfl [] (by decide) ⟨Vy rfl (.bool _), trivial⟩ trivial
           ·have hF := Yh c30 hF
            refine Va (Vh rfl) rfl ?_
            refine Va (Vs rfl rfl) rfl ?_
            refine Va (Vj rfl) rfl ?_
            refine Vv rfl rfl c17 ?_
            refine Va (Vh rfl) rfl ?_
            refine Vv rfl rfl c17 ?_
            refine Va (Vs rfl rfl) rfl ?_
            refine Va (Vm (congrArg Yx c17) rfl) rfl ?_
            refine Va (Vj rfl) rfl ?_
            refine Vv rfl rfl c18 ?_
            refine Va (Vh rfl) rfl ?_
            refine Vv rfl rfl c18 ?_
            refine Va (Vs rfl rfl) rfl ?_
            refine Va (Vm (congrArg Yx c18) rfl) rfl ?_
            refine Va (Vj rfl) rfl ?_
            refine Vv rfl rfl c19 ?_
            refine Va (Vh rfl) rfl ?_
            refine Vv rfl rfl c19 ?_
            refine Va (Vs rfl rfl) rfl ?_
            refine Va (Vm (congrArg Yx c19) rfl) rfl ?_
            refine Va (Vj rfl) rfl ?_
            refine Vv rfl rfl c20 ?_
            refine Va (Vh rfl) rfl ?_
            refine Vv rfl rfl c20 ?_
            refine Va (Vs rfl rfl) rfl ?_
            refine Va (Vm (congrArg Yx c20) rfl) rfl ?_
            refine Va (Vj rfl) rfl ?_
            refine Vv rfl rfl c21 ?_
            refine Va (Vh rfl) rfl ?_
            refine Vv rfl rfl c21 ?_
            refine Va (Vs rfl rfl) rfl ?_
            refine Va (Vm (congrArg Yx c21) rfl) rfl ?_
            refine Va (Vj rfl) rfl ?_
            refine Vv rfl rfl c22 ?_
            refine Va (Vh rfl) rfl ?_
            refine Vv rfl rfl c22 ?_
            refine Va (Vs rfl rfl) rfl ?_
            refine Va (Vm (congrArg Yx c22) rfl) rfl ?_
            refine Va (Vj rfl) rfl ?_
            refine Vv rfl rfl c23 ?_
            refine Va (Vc rfl tf_34_1 ts_22 (by decide)) rfl ?_
            refine Vv rfl rfl c23 ?_
            refine Va (Vf rfl (Vi rfl rfl) rfl ta_22 rfl) rfl ?_
            refine Vv rfl rfl c23 ?_
            refine Va (Xb (Xf rfl rfl te_22) (congrArg (fun n : Nat => Yw .i64 (n : Int)) (Zc _))) rfl ?_
            refine Vv rfl rfl c23 ?_
            refine Va (Vs rfl rfl) rfl ?_
            refine Va (Vm (congrArg Yx c23) rfl) rfl ?_
            refine Va (Vj rfl) rfl ?_
            refine Vv rfl rfl c24 ?_
            refine Va (Vc rfl tf_34_1 ts_22 (by decide)) rfl ?_
            refine Vv rfl rfl c24 ?_
            refine Va (Vf rfl (Vi rfl rfl) rfl ta_22 rfl) rfl ?_
            refine Vv rfl rfl c24 ?_
            refine Va (Xb (Yb rfl rfl h26 te_22 ts_3) (v' := .vptr [.int .i64 x25] 0) rfl) rfl ?_
            refine Vv rfl rfl c24 ?_
            refine Va (Vz rfl ta_3 rfl) rfl ?_
            refine Vv rfl rfl c24 ?_
            refine Va (Vs rfl rfl) rfl ?_
            refine Va (Vm (congrArg Yx c24) rfl) rfl ?_
            refine Va (Vj rfl) rfl ?_
            refine Vv rfl rfl c27 ?_
            refine Va (Vc rfl tf_34_2 ts_22 (by decide)) rfl ?_
            refine Vv rfl rfl c27 ?_
            refine Va (Vf rfl (Vi rfl rfl) rfl ta_22 rfl) rfl ?_
            refine Vv rfl rfl c27 ?_
            refine Va (Xb (Yb rfl rfl h29 te_22 ts_3) (v' := .vptr [.int .i64 x28] 0) rfl) rfl ?_
            refine Vv rfl rfl c27 ?_
            refine Va (Vz rfl ta_3 rfl) rfl ?_
            refine Vv rfl rfl c27 ?_
            refine Va (Vs rfl rfl) rfl ?_
            refine Va (Vm (congrArg Yx c27) rfl) rfl ?_
            refine Va (Vj rfl) rfl ?_
            refine Vb rfl rfl (neF c30) rfl ?_
            refine Vb rfl rfl (neF c30) rfl ?_
            refine Vb rfl rfl (neF c30) rfl ?_
            refine Vb rfl rfl (neF c30) rfl ?_
            refine Va (Vl (congrArg Yx c30) rfl) rfl ?_
            refine Va (Vj rfl) rfl ?_
            refine Vb rfl rfl (by decide) rfl ?_
            refine Vb rfl rfl (by decide) rfl ?_
            refine Vb rfl rfl (by decide) rfl ?_
            refine Vb rfl rfl (by decide) rfl ?_
            refine Vb rfl rfl (by decide) rfl ?_
            refine Va (Vl rfl rfl) rfl ?_
            refine Va (Vj rfl) rfl ?_
            refine Vb rfl rfl (by decide) rfl ?_
            refine Vb rfl rfl (by decide) rfl ?_
            refine Vb rfl rfl (by decide) rfl ?_
            refine Va (Vl rfl rfl) rfl ?_
            refine Va (Xj rfl) rfl ?_
            refine Ve ?_
            refine Vx ?_
            obtain rfl := Yy hF
            refine fnR ?_
            exact Vu rfl [] (by decide) ⟨Vy rfl (.bool _), trivial⟩ trivial
          ·have hF := Yh c27 hF
           refine Va (Vh rfl) rfl ?_
           refine Va (Vs rfl rfl) rfl ?_
           refine Va (Vj rfl) rfl ?_
           refine Vv rfl rfl c17 ?_
           refine Va (Vh rfl) rfl ?_
           refine Vv rfl rfl c17 ?_
           refine Va (Vs rfl rfl) rfl ?_
           refine Va (Vm (congrArg Yx c17) rfl) rfl ?_
           refine Va (Vj rfl) rfl ?_
           refine Vv rfl rfl c18 ?_
           refine Va (Vh rfl) rfl ?_
           refine Vv rfl rfl c18 ?_
           refine Va (Vs rfl rfl) rfl ?_
           refine Va (Vm (congrArg Yx c18) rfl) rfl ?_
           refine Va (Vj rfl) rfl ?_
           refine Vv rfl rfl c19 ?_
           refine Va (Vh rfl) rfl ?_
           refine Vv rfl rfl c19 ?_
           refine Va (Vs rfl rfl) rfl ?_
           refine Va (Vm (congrArg Yx c19) rfl) rfl ?_
           refine Va (Vj rfl) rfl ?_
           refine Vv rfl rfl c20 ?_
           refine Va (Vh rfl) rfl ?_
           refine Vv rfl rfl c20 ?_
           refine Va (Vs rfl rfl) rfl ?_
           refine Va (Vm (congrArg Yx c20) rfl) rfl ?_
           refine Va (Vj rfl) rfl ?_
           refine Vv rfl rfl c21 ?_
           refine Va (Vh rfl) rfl ?_
           refine Vv rfl rfl c21 ?_
           refine Va (Vs rfl rfl) rfl ?_
           refine Va (Vm (congrArg Yx c21) rfl) rfl ?_
           refine Va (Vj rfl) rfl ?_
           refine Vv rfl rfl c22 ?_
           refine Va (Vh rfl) rfl ?_
           refine Vv rfl rfl c22 ?_
           refine Va (Vs rfl rfl) rfl ?_
           refine Va (Vm (congrArg Yx c22) rfl) rfl ?_
           refine Va (Vj rfl) rfl ?_
           refine Vv rfl rfl c23 ?_
           refine Va (Vc rfl tf_34_1 ts_22 (by decide)) rfl ?_
           refine Vv rfl rfl c23 ?_
           refine Va (Vf rfl (Vi rfl rfl) rfl ta_22 rfl) rfl ?_
           refine Vv rfl rfl c23 ?_
           refine Va (Xb (Xf rfl rfl te_22) (congrArg (fun n : Nat => Yw .i64 (n : Int)) (Zc _))) rfl ?_
           refine Vv rfl rfl c23 ?_
           refine Va (Vs rfl rfl) rfl ?_
           refine Va (Vm (congrArg Yx c23) rfl) rfl ?_
           refine Va (Vj rfl) rfl ?_
           refine Vv rfl rfl c24 ?_
           refine Va (Vc rfl tf_34_1 ts_22 (by decide)) rfl ?_
           refine Vv rfl rfl c24 ?_
           refine Va (Vf rfl (Vi rfl rfl) rfl ta_22 rfl) rfl ?_
           refine Vv rfl rfl c24 ?_
           refine Va (Xb (Yb rfl rfl h26 te_22 ts_3) (v' := .vptr [.int .i64 x25] 0) rfl) rfl ?_
           refine Vv rfl rfl c24 ?_
           refine Va (Vz rfl ta_3 rfl) rfl ?_
           refine Vv rfl rfl c24 ?_
           refine Va (Vs rfl rfl) rfl ?_
           refine Va (Vm (congrArg Yx c24) rfl) rfl ?_
           refine Va (Vj rfl) rfl ?_
           refine Vb rfl rfl (neF c27) rfl ?_
           refine Vb rfl rfl (neF c27) rfl ?_
           refine Vb rfl rfl (neF c27) rfl ?_
           refine Vb rfl rfl (neF c27) rfl ?_
           refine Vb rfl rfl (neF c27) rfl ?_
           refine Va (Vl (congrArg Yx c27) rfl) rfl ?_
           refine Va (Vj rfl) rfl ?_
           refine Vb rfl rfl (by decide) rfl ?_
           refine Vb rfl rfl (by decide) rfl ?_
           refine Vb rfl rfl (by decide) rfl ?_
           refine Vb rfl rfl (by decide) rfl ?_
           refine Va (Vl rfl rfl) rfl ?_
           refine Va (Vj rfl) rfl ?_
           refine Vb rfl rfl (by decide) rfl ?_
           refine Vb rfl rfl (by decide) rfl ?_
           refine Vb rfl rfl (by decide) rfl ?_
           refine Vb rfl rfl (by decide) rfl ?_
           refine Vb rfl rfl (by decide) rfl ?_
           refine Va (Vl rfl rfl) rfl ?_
           refine Va (Vj rfl) rfl ?_
           refine Vb rfl rfl (by decide) rfl ?_
           refine Vb rfl rfl (by decide) rfl ?_
           refine Vb rfl rfl (by decide) rfl ?_
           refine Va (Vl rfl rfl) rfl ?_
           refine Va (Xj rfl) rfl ?_
           refine Ve ?_
           refine Vx ?_
           obtain rfl := Yy hF
           refine fnR ?_
           exact Vu rfl [] (by decide) ⟨Vy rfl (.bool _), trivial⟩ trivial
         ·have hF := Yh c24 hF
          refine Va (Vh rfl) rfl ?_
          refine Va (Vs rfl rfl) rfl ?_
          refine Va (Vj rfl) rfl ?_
          refine Vv rfl rfl c17 ?_
          refine Va (Vh rfl) rfl ?_
          refine Vv rfl rfl c17 ?_
          refine Va (Vs rfl rfl) rfl ?_
          refine Va (Vm (congrArg Yx c17) rfl) rfl ?_
          refine Va (Vj rfl) rfl ?_
          refine Vv rfl rfl c18 ?_
          refine Va (Vh rfl) rfl ?_
          refine Vv rfl rfl c18 ?_
          refine Va (Vs rfl rfl) rfl ?_
          refine Va (Vm (congrArg Yx c18) rfl) rfl ?_
          refine Va (Vj rfl) rfl ?_
          refine Vv rfl rfl c19 ?_
          refine Va (Vh rfl) rfl ?_
          refine Vv rfl rfl c19 ?_
          refine Va (Vs rfl rfl) rfl ?_
          refine Va (Vm (congrArg Yx c19) rfl) rfl ?_
          refine Va (Vj rfl) rfl ?_
          refine Vv rfl rfl c20 ?_
          refine Va (Vh rfl) rfl ?_
          refine Vv rfl rfl c20 ?_
          refine Va (Vs rfl rfl) rfl ?_
          refine Va (Vm (congrArg Yx c20) rfl) rfl ?_
          refine Va (Vj rfl) rfl ?_
          refine Vv rfl rfl c21 ?_
          refine Va (Vh rfl) rfl ?_
          refine Vv rfl rfl c21 ?_
          refine Va (Vs rfl rfl) rfl ?_
          refine Va (Vm (congrArg Yx c21) rfl) rfl ?_
          refine Va (Vj rfl) rfl ?_
          refine Vv rfl rfl c22 ?_
          refine Va (Vh rfl) rfl ?_
          refine Vv rfl rfl c22 ?_
          refine Va (Vs rfl rfl) rfl ?_
          refine Va (Vm (congrArg Yx c22) rfl) rfl ?_
          refine Va (Vj rfl) rfl ?_
          refine Vv rfl rfl c23 ?_
          refine Va (Vc rfl tf_34_1 ts_22 (by decide)) rfl ?_
          refine Vv rfl rfl c23 ?_
          refine Va (Vf rfl (Vi rfl rfl) rfl ta_22 rfl) rfl ?_
          refine Vv rfl rfl c23 ?_
          refine Va (Xb (Xf rfl rfl te_22) (congrArg (fun n : Nat => Yw .i64 (n : Int)) (Zc _))) rfl ?_
          refine Vv rfl rfl c23 ?_
          refine Va (Vs rfl rfl) rfl ?_
          refine Va (Vm (congrArg Yx c23) rfl) rfl ?_
          refine Va (Vj rfl) rfl ?_
          refine Vb rfl rfl (neF c24) rfl ?_
          refine Vb rfl rfl (neF c24) rfl ?_
          refine Vb rfl rfl (neF c24) rfl ?_
          refine Vb rfl rfl (neF c24) rfl ?_
          refine Vb rfl rfl (neF c24) rfl ?_
          refine Va (Vl (congrArg Yx c24) rfl) rfl ?_
          refine Va (Vj rfl) rfl ?_
          refine Vb rfl rfl (by decide) rfl ?_
          refine Vb rfl rfl (by decide) rfl ?_
          refine Vb rfl rfl (by decide) rfl ?_
          refine Vb rfl rfl (by decide) rfl ?_
          refine Vb rfl rfl (by decide) rfl ?_
          refine Va (Vl rfl rfl) rfl ?_
          refine Va (Vj rfl) rfl ?_
          refine Vb rfl rfl (by decide) rfl ?_
          refine Vb rfl rfl (by decide) rfl ?_
          refine Vb rfl rfl (by decide) rfl ?_
          refine Vb rfl rfl (by decide) rfl ?_
          refine Va (Vl rfl rfl) rfl ?_
          refine Va (Vj rfl) rfl ?_
          refine Vb rfl rfl (by decide) rfl ?_
          refine Vb rfl rfl (by decide) rfl ?_
          refine Vb rfl rfl (by decide) rfl ?_
          refine Vb rfl rfl (by decide) rfl ?_
          refine Vb rfl rfl (by decide) rfl ?_
          refine Va (Vl rfl rfl) rfl ?_
          refine Va (Vj rfl) rfl ?_
          refine Vb rfl rfl (by decide) rfl ?_
          refine Vb rfl rfl (by decide) rfl ?_
          refine Vb rfl rfl (by decide) rfl ?_
          refine Va (Vl rfl rfl) rfl ?_
          refine Va (Xj rfl) rfl ?_
          refine Ve ?_
          refine Vx ?_
          obtain rfl := Yy hF
          refine fnR ?_
          exact Vu rfl [] (by decide) ⟨Vy rfl (.bool _), trivial⟩ trivial
        ·have hF := Yh c23 hF
         refine Va (Vh rfl) rfl ?_
         refine Va (Vs rfl rfl) rfl ?_
         refine Va (Vj rfl) rfl ?_
         refine Vv rfl rfl c17 ?_
         refine Va (Vh rfl) rfl ?_
         refine Vv rfl rfl c17 ?_
         refine Va (Vs rfl rfl) rfl ?_
         refine Va (Vm (congrArg Yx c17) rfl) rfl ?_
         refine Va (Vj rfl) rfl ?_
         refine Vv rfl rfl c18 ?_
         refine Va (Vh rfl) rfl ?_
         refine Vv rfl rfl c18 ?_
         refine Va (Vs rfl rfl) rfl ?_
         refine Va (Vm (congrArg Yx c18) rfl) rfl ?_
         refine Va (Vj rfl) rfl ?_
         refine Vv rfl rfl c19 ?_
         refine Va (Vh rfl) rfl ?_
         refine Vv rfl rfl c19 ?_
         refine Va (Vs rfl rfl) rfl ?_
         refine Va (Vm (congrArg Yx c19) rfl) rfl ?_
         refine Va (Vj rfl) rfl ?_
         refine Vv rfl rfl c20 ?_
         refine Va (Vh rfl) rfl ?_
         refine Vv rfl rfl c20 ?_
         refine Va (Vs rfl rfl) rfl ?_
         refine Va (Vm (congrArg Yx c20) rfl) rfl ?_
         refine Va (Vj rfl) rfl ?_
         refine Vv rfl rfl c21 ?_
         refine Va (Vh rfl) rfl ?_
         refine Vv rfl rfl c21 ?_
         refine Va (Vs rfl rfl) rfl ?_
         refine Va (Vm (congrArg Yx c21) rfl) rfl ?_
         refine Va (Vj rfl) rfl ?_
         refine Vv rfl rfl c22 ?_
         refine Va (Vh rfl) rfl ?_
         refine Vv rfl rfl c22 ?_
         refine Va (Vs rfl rfl) rfl ?_
         refine Va (Vm (congrArg Yx c22) rfl) rfl ?_
         refine Va (Vj rfl) rfl ?_
         refine Vb rfl rfl (neF c23) rfl ?_
         refine Vb rfl rfl (neF c23) rfl ?_
         refine Vb rfl rfl (neF c23) rfl ?_
         refine Vb rfl rfl (neF c23) rfl ?_
         refine Va (Vl (congrArg Yx c23) rfl) rfl ?_
         refine Va (Vj rfl) rfl ?_
         refine Vb rfl rfl (by decide) rfl ?_
         refine Vb rfl rfl (by decide) rfl ?_
         refine Vb rfl rfl (by decide) rfl ?_
         refine Vb rfl rfl (by decide) rfl ?_
         refine Vb rfl rfl (by decide) rfl ?_
         refine Va (Vl rfl rfl) rfl ?_
         refine Va (Vj rfl) rfl ?_
         refine Vb rfl rfl (by decide) rfl ?_
         refine Vb rfl rfl (by decide) rfl ?_
         refine Vb rfl rfl (by decide) rfl ?_
         refine Vb rfl rfl (by decide) rfl ?_
         refine Vb rfl rfl (by decide) rfl ?_
         refine Va (Vl rfl rfl) rfl ?_
         refine Va (Vj rfl) rfl ?_
         refine Vb rfl rfl (by decide) rfl ?_
         refine Vb rfl rfl (by decide) rfl ?_
         refine Vb rfl rfl (by decide) rfl ?_
         refine Vb rfl rfl (by decide) rfl ?_
         refine Va (Vl rfl rfl) rfl ?_
         refine Va (Vj rfl) rfl ?_
         refine Vb rfl rfl (by decide) rfl ?_
         refine Vb rfl rfl (by decide) rfl ?_
         refine Vb rfl rfl (by decide) rfl ?_
         refine Vb rfl rfl (by decide) rfl ?_
         refine Vb rfl rfl (by decide) rfl ?_
         refine Va (Vl rfl rfl) rfl ?_
         refine Va (Vj rfl) rfl ?_
         refine Vb rfl rfl (by decide) rfl ?_
         refine Vb rfl rfl (by decide) rfl ?_
         refine Vb rfl rfl (by decide) rfl ?_
         refine Va (Vl rfl rfl) rfl ?_
         refine Va (Xj rfl) rfl ?_
         refine Ve ?_
         refine Vx ?_
         obtain rfl := Yy hF
         refine fnR ?_
         exact Vu rfl [] (by decide) ⟨Vy rfl (.bool _), trivial⟩ trivial
       ·have hF := Yh c22 hF
        refine Va (Vh rfl) rfl ?_
        refine Va (Vs rfl rfl) rfl ?_
        refine Va (Vj rfl) rfl ?_
        refine Vv rfl rfl c17 ?_
        refine Va (Vh rfl) rfl ?_
        refine Vv rfl rfl c17 ?_
        refine Va (Vs rfl rfl) rfl ?_
        refine Va (Vm (congrArg Yx c17) rfl) rfl ?_
        refine Va (Vj rfl) rfl ?_
        refine Vv rfl rfl c18 ?_
        refine Va (Vh rfl) rfl ?_
        refine Vv rfl rfl c18 ?_
        refine Va (Vs rfl rfl) rfl ?_
        refine Va (Vm (congrArg Yx c18) rfl) rfl ?_
        refine Va (Vj rfl) rfl ?_
        refine Vv rfl rfl c19 ?_
        refine Va (Vh rfl) rfl ?_
        refine Vv rfl rfl c19 ?_
        refine Va (Vs rfl rfl) rfl ?_
        refine Va (Vm (congrArg Yx c19) rfl) rfl ?_
        refine Va (Vj rfl) rfl ?_
        refine Vv rfl rfl c20 ?_
        refine Va (Vh rfl) rfl ?_
        refine Vv rfl rfl c20 ?_
        refine Va (Vs rfl rfl) rfl ?_
        refine Va (Vm (congrArg Yx c20) rfl) rfl ?_
        refine Va (Vj rfl) rfl ?_
        refine Vv rfl rfl c21 ?_
        refine Va (Vh rfl) rfl ?_
        refine Vv rfl rfl c21 ?_
        refine Va (Vs rfl rfl) rfl ?_
        refine Va (Vm (congrArg Yx c21) rfl) rfl ?_
        refine Va (Vj rfl) rfl ?_
        refine Vb rfl rfl (neF c22) rfl ?_
        refine Vb rfl rfl (neF c22) rfl ?_
        refine Va (Vl (congrArg Yx c22) rfl) rfl ?_
        refine Va (Vj rfl) rfl ?_
        refine Vb rfl rfl (by decide) rfl ?_
        refine Vb rfl rfl (by decide) rfl ?_
        refine Vb rfl rfl (by decide) rfl ?_
        refine Vb rfl rfl (by decide) rfl ?_
        refine Va (Vl rfl rfl) rfl ?_
        refine Va (Vj rfl) rfl ?_
        refine Vb rfl rfl (by decide) rfl ?_
        refine Vb rfl rfl (by decide) rfl ?_
        refine Vb rfl rfl (by decide) rfl ?_
        refine Vb rfl rfl (by decide) rfl ?_
        refine Vb rfl rfl (by decide) rfl ?_
        refine Va (Vl rfl rfl) rfl ?_
        refine Va (Vj rfl) rfl ?_
        refine Vb rfl rfl (by decide) rfl ?_
        refine Vb rfl rfl (by decide) rfl ?_
        refine Vb rfl rfl (by decide) rfl ?_
        refine Vb rfl rfl (by decide) rfl ?_
        refine Vb rfl rfl (by decide) rfl ?_
        refine Va (Vl rfl rfl) rfl ?_
        refine Va (Vj rfl) rfl ?_
        refine Vb rfl rfl (by decide) rfl ?_
        refine Vb rfl rfl (by decide) rfl ?_
        refine Vb rfl rfl (by decide) rfl ?_
        refine Vb rfl rfl (by decide) rfl ?_
        refine Va (Vl rfl rfl) rfl ?_
        refine Va (Vj rfl) rfl ?_
        refine Vb rfl rfl (by decide) rfl ?_
        refine Vb rfl rfl (by decide) rfl ?_
        refine Vb rfl rfl (by decide) rfl ?_
        refine Vb rfl rfl (by decide) rfl ?_
        refine Vb rfl rfl (by decide) rfl ?_
        refine Va (Vl rfl rfl) rfl ?_
        refine Va (Vj rfl) rfl ?_
        refine Vb rfl rfl (by decide) rfl ?_
        refine Vb rfl rfl (by decide) rfl ?_
        refine Vb rfl rfl (by decide) rfl ?_
        refine Va (Vl rfl rfl) rfl ?_
        refine Va (Xj rfl) rfl ?_
        refine Ve ?_
        refine Vx ?_
        obtain rfl := Yy hF
        refine fnR ?_
        exact Vu rfl [] (by decide) ⟨Vy rfl (.bool _), trivial⟩ trivial
      ·have hF := Yh c21 hF
       refine Va (Vh rfl) rfl ?_
       refine Va (Vs rfl rfl) rfl ?_
       refine Va (Vj rfl) rfl ?_
       refine Vv rfl rfl c17 ?_
       refine Va (Vh rfl) rfl ?_
       refine Vv rfl rfl c17 ?_
       refine Va (Vs rfl rfl) rfl ?_
       refine Va (Vm (congrArg Yx c17) rfl) rfl ?_
       refine Va (Vj rfl) rfl ?_
       refine Vv rfl rfl c18 ?_
       refine Va (Vh rfl) rfl ?_
       refine Vv rfl rfl c18 ?_
       refine Va (Vs rfl rfl) rfl ?_
       refine Va (Vm (congrArg Yx c18) rfl) rfl ?_
       refine Va (Vj rfl) rfl ?_
       refine Vv rfl rfl c19 ?_
       refine Va (Vh rfl) rfl ?_
       refine Vv rfl rfl c19 ?_
       refine Va (Vs rfl rfl) rfl ?_
       refine Va (Vm (congrArg Yx c19) rfl) rfl ?_
       refine Va (Vj rfl) rfl ?_
       refine Vv rfl rfl c20 ?_
       refine Va (Vh rfl) rfl ?_
       refine Vv rfl rfl c20 ?_
       refine Va (Vs rfl rfl) rfl ?_
       refine Va (Vm (congrArg Yx c20) rfl) rfl ?_
       refine Va (Vj rfl) rfl ?_
       refine Vb rfl rfl (neF c21) rfl ?_
       refine Vb rfl rfl (neF c21) rfl ?_
       refine Va (Vl (congrArg Yx c21) rfl) rfl ?_
       refine Va (Vj rfl) rfl ?_
       refine Vb rfl rfl (by decide) rfl ?_
       refine Vb rfl rfl (by decide) rfl ?_
       refine Va (Vl rfl rfl) rfl ?_
       refine Va (Vj rfl) rfl ?_
       refine Vb rfl rfl (by decide) rfl ?_
       refine Vb rfl rfl (by decide) rfl ?_
       refine Vb rfl rfl (by decide) rfl ?_
       refine Vb rfl rfl (by decide) rfl ?_
       refine Va (Vl rfl rfl) rfl ?_
       refine Va (Vj rfl) rfl ?_
       refine Vb rfl rfl (by decide) rfl ?_
       refine Vb rfl rfl (by decide) rfl ?_
       refine Vb rfl rfl (by decide) rfl ?_
       refine Vb rfl rfl (by decide) rfl ?_
       refine Vb rfl rfl (by decide) rfl ?_
       refine Va (Vl rfl rfl) rfl ?_
       refine Va (Vj rfl) rfl ?_
       refine Vb rfl rfl (by decide) rfl ?_
       refine Vb rfl rfl (by decide) rfl ?_
       refine Vb rfl rfl (by decide) rfl ?_
       refine Vb rfl rfl (by decide) rfl ?_
       refine Vb rfl rfl (by decide) rfl ?_
       refine Va (Vl rfl rfl) rfl ?_
       refine Va (Vj rfl) rfl ?_
       refine Vb rfl rfl (by decide) rfl ?_
       refine Vb rfl rfl (by decide) rfl ?_
       refine Vb rfl rfl (by decide) rfl ?_
       refine Vb rfl rfl (by decide) rfl ?_
       refine Va (Vl rfl rfl) rfl ?_
       refine Va (Vj rfl) rfl ?_
       refine Vb rfl rfl (by decide) rfl ?_
       refine Vb rfl rfl (by decide) rfl ?_
       refine Vb rfl rfl (by decide) rfl ?_
       refine Vb rfl rfl (by decide) rfl ?_
       refine Vb rfl rfl (by decide) rfl ?_
       refine Va (Vl rfl rfl) rfl ?_
       refine Va (Vj rfl) rfl ?_
       refine Vb rfl rfl (by decide) rfl ?_
       refine Vb rfl rfl (by decide) rfl ?_
       refine Vb rfl rfl (by decide) rfl ?_
       refine Va (Vl rfl rfl) rfl ?_
       refine Va (Xj rfl) rfl ?_
       refine Ve ?_
       refine Vx ?_
       obtain rfl := Yy hF
       refine fnR ?_
       exact Vu rfl [] (by decide) ⟨Vy rfl (.bool _), trivial⟩ trivial
     ·have hF := Yh c20 hF
      refine Va (Vh rfl) rfl ?_
      refine Va (Vs rfl rfl) rfl ?_
      refine Va (Vj rfl) rfl ?_
      refine Vv rfl rfl c17 ?_
      refine Va (Vh rfl) rfl ?_
      refine Vv rfl rfl c17 ?_
      refine Va (Vs rfl rfl) rfl ?_
      refine Va (Vm (congrArg Yx c17) rfl) rfl ?_
      refine Va (Vj rfl) rfl ?_
      refine Vv rfl rfl c18 ?_
      refine Va (Vh rfl) rfl ?_
      refine Vv rfl rfl c18 ?_
      refine Va (Vs rfl rfl) rfl ?_
      refine Va (Vm (congrArg Yx c18) rfl) rfl ?_
      refine Va (Vj rfl) rfl ?_
      refine Vv rfl rfl c19 ?_
      refine Va (Vh rfl) rfl ?_
      refine Vv rfl rfl c19 ?_
      refine Va (Vs rfl rfl) rfl ?_
      refine Va (Vm (congrArg Yx c19) rfl) rfl ?_
      refine Va (Vj rfl) rfl ?_
      refine Vb rfl rfl (neF c20) rfl ?_
      refine Vb rfl rfl (neF c20) rfl ?_
      refine Va (Vl (congrArg Yx c20) rfl) rfl ?_
      refine Va (Vj rfl) rfl ?_
      refine Vb rfl rfl (by decide) rfl ?_
      refine Vb rfl rfl (by decide) rfl ?_
      refine Va (Vl rfl rfl) rfl ?_
      refine Va (Vj rfl) rfl ?_
      refine Vb rfl rfl (by decide) rfl ?_
      refine Vb rfl rfl (by decide) rfl ?_
      refine Va (Vl rfl rfl) rfl ?_
      refine Va (Vj rfl) rfl ?_
      refine Vb rfl rfl (by decide) rfl ?_
      refine Vb rfl rfl (by decide) rfl ?_
      refine Vb rfl rfl (by decide) rfl ?_
      refine Vb rfl rfl (by decide) rfl ?_
      refine Va (Vl rfl rfl) rfl ?_
      refine Va (Vj rfl) rfl ?_
      refine Vb rfl rfl (by decide) rfl ?_
      refine Vb rfl rfl (by decide) rfl ?_
      refine Vb rfl rfl (by decide) rfl ?_
      refine Vb rfl rfl (by decide) rfl ?_
      refine Vb rfl rfl (by decide) rfl ?_
      refine Va (Vl rfl rfl) rfl ?_
      refine Va (Vj rfl) rfl ?_
      refine Vb rfl rfl (by decide) rfl ?_
      refine Vb rfl rfl (by decide) rfl ?_
      refine Vb rfl rfl (by decide) rfl ?_
      refine Vb rfl rfl (by decide) rfl ?_
      refine Vb rfl rfl (by decide) rfl ?_
      refine Va (Vl rfl rfl) rfl ?_
      refine Va (Vj rfl) rfl ?_
      refine Vb rfl rfl (by decide) rfl ?_
      refine Vb rfl rfl (by decide) rfl ?_
      refine Vb rfl rfl (by decide) rfl ?_
      refine Vb rfl rfl (by decide) rfl ?_
      refine Va (Vl rfl rfl) rfl ?_
      refine Va (Vj rfl) rfl ?_
      refine Vb rfl rfl (by decide) rfl ?_
      refine Vb rfl rfl (by decide) rfl ?_
      refine Vb rfl rfl (by decide) rfl ?_
      refine Vb rfl rfl (by decide) rfl ?_
      refine Vb rfl rfl (by decide) rfl ?_
      refine Va (Vl rfl rfl) rfl ?_
      refine Va (Vj rfl) rfl ?_
      refine Vb rfl rfl (by decide) rfl ?_
      refine Vb rfl rfl (by decide) rfl ?_
      refine Vb rfl rfl (by decide) rfl ?_
      refine Va (Vl rfl rfl) rfl ?_
      refine Va (Xj rfl) rfl ?_
      refine Ve ?_
      refine Vx ?_
      obtain rfl := Yy hF
      refine fnR ?_
      exact Vu rfl [] (by decide) ⟨Vy rfl (.bool _), trivial⟩ trivial
    ·have hF := Yh c19 hF
     refine Va (Vh rfl) rfl ?_
     refine Va (Vs rfl rfl) rfl ?_
     refine Va (Vj rfl) rfl ?_
     refine Vv rfl rfl c17 ?_
     refine Va (Vh rfl) rfl ?_
     refine Vv rfl rfl c17 ?_
     refine Va (Vs rfl rfl) rfl ?_
     refine Va (Vm (congrArg Yx c17) rfl) rfl ?_
     refine Va (Vj rfl) rfl ?_
     refine Vv rfl rfl c18 ?_
     refine Va (Vh rfl) rfl ?_
     refine Vv rfl rfl c18 ?_
     refine Va (Vs rfl rfl) rfl ?_
     refine Va (Vm (congrArg Yx c18) rfl) rfl ?_
     refine Va (Vj rfl) rfl ?_
     refine Vb rfl rfl (neF c19) rfl ?_
     refine Vb rfl rfl (neF c19) rfl ?_
     refine Va (Vl (congrArg Yx c19) rfl) rfl ?_
     refine Va (Vj rfl) rfl ?_
     refine Vb rfl rfl (by decide) rfl ?_
     refine Vb rfl rfl (by decide) rfl ?_
     refine Va (Vl rfl rfl) rfl ?_
     refine Va (Vj rfl) rfl ?_
     refine Vb rfl rfl (by decide) rfl ?_
     refine Vb rfl rfl (by decide) rfl ?_
     refine Va (Vl rfl rfl) rfl ?_
     refine Va (Vj rfl) rfl ?_
     refine Vb rfl rfl (by decide) rfl ?_
     refine Vb rfl rfl (by decide) rfl ?_
     refine Va (Vl rfl rfl) rfl ?_
     refine Va (Vj rfl) rfl ?_
     refine Vb rfl rfl (by decide) rfl ?_
     refine Vb rfl rfl (by decide) rfl ?_
     refine Vb rfl rfl (by decide) rfl ?_
     refine Vb rfl rfl (by decide) rfl ?_
     refine Va (Vl rfl rfl) rfl ?_
     refine Va (Vj rfl) rfl ?_
     refine Vb rfl rfl (by decide) rfl ?_
     refine Vb rfl rfl (by decide) rfl ?_
     refine Vb rfl rfl (by decide) rfl ?_
     refine Vb rfl rfl (by decide) rfl ?_
     refine Vb rfl rfl (by decide) rfl ?_
     refine Va (Vl rfl rfl) rfl ?_
     refine Va (Vj rfl) rfl ?_
     refine Vb rfl rfl (by decide) rfl ?_
     refine Vb rfl rfl (by decide) rfl ?_
     refine Vb rfl rfl (by decide) rfl ?_
     refine Vb rfl rfl (by decide) rfl ?_
     refine Vb rfl rfl (by decide) rfl ?_
     refine Va (Vl rfl rfl) rfl ?_
     refine Va (Vj rfl) rfl ?_
     refine Vb rfl rfl (by decide) rfl ?_
     refine Vb rfl rfl (by decide) rfl ?_
     refine Vb rfl rfl (by decide) rfl ?_
     refine Vb rfl rfl (by decide) rfl ?_
     refine Va (Vl rfl rfl) rfl ?_
     refine Va (Vj rfl) rfl ?_
     refine Vb rfl rfl (by decide) rfl ?_
     refine Vb rfl rfl (by decide) rfl ?_
     refine Vb rfl rfl (by decide) rfl ?_
     refine Vb rfl rfl (by decide) rfl ?_
     refine Vb rfl rfl (by decide) rfl ?_
     refine Va (Vl rfl rfl) rfl ?_
     refine Va (Vj rfl) rfl ?_
     refine Vb rfl rfl (by decide) rfl ?_
     refine Vb rfl rfl (by decide) rfl ?_
     refine Vb rfl rfl (by decide) rfl ?_
     refine Va (Vl rfl rfl) rfl ?_
     refine Va (Xj rfl) rfl ?_
     refine Ve ?_
     refine Vx ?_
     obtain rfl := Yy hF
     refine fnR ?_
     exact Vu rfl [] (by decide) ⟨Vy rfl (.bool _), trivial⟩ trivial
   ·have hF := Yh c18 hF
    refine Va (Vh rfl) rfl ?_
    refine Va (Vs rfl rfl) rfl ?_
    refine Va (Vj rfl) rfl ?_
    refine Vv rfl rfl c17 ?_
    refine Va (Vh rfl) rfl ?_
    refine Vv rfl rfl c17 ?_
    refine Va (Vs rfl rfl) rfl ?_
    refine Va (Vm (congrArg Yx c17) rfl) rfl ?_
    refine Va (Vj rfl) rfl ?_
    refine Vb rfl rfl (neF c18) rfl ?_
    refine Vb rfl rfl (neF c18) rfl ?_
    refine Va (Vl (congrArg Yx c18) rfl) rfl ?_
    refine Va (Vj rfl) rfl ?_
    refine Vb rfl rfl (by decide) rfl ?_
    refine Vb rfl rfl (by decide) rfl ?_
    refine Va (Vl rfl rfl) rfl ?_
    refine Va (Vj rfl) rfl ?_
    refine Vb rfl rfl (by decide) rfl ?_
    refine Vb rfl rfl (by decide) rfl ?_
    refine Va (Vl rfl rfl) rfl ?_
    refine Va (Vj rfl) rfl ?_
    refine Vb rfl rfl (by decide) rfl ?_
    refine Vb rfl rfl (by decide) rfl ?_
    refine Va (Vl rfl rfl) rfl ?_
    refine Va (Vj rfl) rfl ?_
    refine Vb rfl rfl (by decide) rfl ?_
    refine Vb rfl rfl (by decide) rfl ?_
    refine Va (Vl rfl rfl) rfl ?_
    refine Va (Vj rfl) rfl ?_
    refine Vb rfl rfl (by decide) rfl ?_
    refine Vb rfl rfl (by decide) rfl ?_
    refine Vb rfl rfl (by decide) rfl ?_
    refine Vb rfl rfl (by decide) rfl ?_
    refine Va (Vl rfl rfl) rfl ?_
    refine Va (Vj rfl) rfl ?_
    refine Vb rfl rfl (by decide) rfl ?_
    refine Vb rfl rfl (by decide) rfl ?_
    refine Vb rfl rfl (by decide) rfl ?_
    refine Vb rfl rfl (by decide) rfl ?_
    refine Vb rfl rfl (by decide) rfl ?_
    refine Va (Vl rfl rfl) rfl ?_
    refine Va (Vj rfl) rfl ?_
    refine Vb rfl rfl (by decide) rfl ?_
    refine Vb rfl rfl (by decide) rfl ?_
    refine Vb rfl rfl (by decide) rfl ?_
    refine Vb rfl rfl (by decide) rfl ?_
    refine Vb rfl rfl (by decide) rfl ?_
    refine Va (Vl rfl rfl) rfl ?_
    refine Va (Vj rfl) rfl ?_
    refine Vb rfl rfl (by decide) rfl ?_
    refine Vb rfl rfl (by decide) rfl ?_
    refine Vb rfl rfl (by decide) rfl ?_
    refine Vb rfl rfl (by decide) rfl ?_
    refine Va (Vl rfl rfl) rfl ?_
    refine Va (Vj rfl) rfl ?_
    refine Vb rfl rfl (by decide) rfl ?_
    refine Vb rfl rfl (by decide) rfl ?_
    refine Vb rfl rfl (by decide) rfl ?_
    refine Vb rfl rfl (by decide) rfl ?_
    refine Vb rfl rfl (by decide) rfl ?_
    refine Va (Vl rfl rfl) rfl ?_
    refine Va (Vj rfl) rfl ?_
    refine Vb rfl rfl (by decide) rfl ?_
    refine Vb rfl rfl (by decide) rfl ?_
    refine Vb rfl rfl (by decide) rfl ?_
    refine Va (Vl rfl rfl) rfl ?_
    refine Va (Xj rfl) rfl ?_
    refine Ve ?_
    refine Vx ?_
    obtain rfl := Yy hF
    refine fnR ?_
    exact Vu rfl [] (by decide) ⟨Vy rfl (.bool _), trivial⟩ trivial
  ·have hF := Yh c17 hF
   refine Va (Vh rfl) rfl ?_
   refine Va (Vs rfl rfl) rfl ?_
   refine Va (Vj rfl) rfl ?_
   refine Vb rfl rfl (neF c17) rfl ?_
   refine Vb rfl rfl (neF c17) rfl ?_
   refine Va (Vl (congrArg Yx c17) rfl) rfl ?_
   refine Va (Vj rfl) rfl ?_
   refine Vb rfl rfl (by decide) rfl ?_
   refine Vb rfl rfl (by decide) rfl ?_
   refine Va (Vl rfl rfl) rfl ?_
   refine Va (Vj rfl) rfl ?_
   refine Vb rfl rfl (by decide) rfl ?_
   refine Vb rfl rfl (by decide) rfl ?_
   refine Va (Vl rfl rfl) rfl ?_
   refine Va (Vj rfl) rfl ?_
   refine Vb rfl rfl (by decide) rfl ?_
   refine Vb rfl rfl (by decide) rfl ?_
   refine Va (Vl rfl rfl) rfl ?_
   refine Va (Vj rfl) rfl ?_
   refine Vb rfl rfl (by decide) rfl ?_
   refine Vb rfl rfl (by decide) rfl ?_
   refine Va (Vl rfl rfl) rfl ?_
   refine Va (Vj rfl) rfl ?_
   refine Vb rfl rfl (by decide) rfl ?_
   refine Vb rfl rfl (by decide) rfl ?_
   refine Va (Vl rfl rfl) rfl ?_
   refine Va (Vj rfl) rfl ?_
   refine Vb rfl rfl (by decide) rfl ?_
   refine Vb rfl rfl (by decide) rfl ?_
   refine Vb rfl rfl (by decide) rfl ?_
   refine Vb rfl rfl (by decide) rfl ?_
   refine Va (Vl rfl rfl) rfl ?_
   refine Va (Vj rfl) rfl ?_
   refine Vb rfl rfl (by decide) rfl ?_
   refine Vb rfl rfl (by decide) rfl ?_
   refine Vb rfl rfl (by decide) rfl ?_
   refine Vb rfl rfl (by decide) rfl ?_
   refine Vb rfl rfl (by decide) rfl ?_
   refine Va (Vl rfl rfl) rfl ?_
   refine Va (Vj rfl) rfl ?_
   refine Vb rfl rfl (by decide) rfl ?_
   refine Vb rfl rfl (by decide) rfl ?_
   refine Vb rfl rfl (by decide) rfl ?_
   refine Vb rfl rfl (by decide) rfl ?_
   refine Vb rfl rfl (by decide) rfl ?_
   refine Va (Vl rfl rfl) rfl ?_
   refine Va (Vj rfl) rfl ?_
   refine Vb rfl rfl (by decide) rfl ?_
   refine Vb rfl rfl (by decide) rfl ?_
   refine Vb rfl rfl (by decide) rfl ?_
   refine Vb rfl rfl (by decide) rfl ?_
   refine Va (Vl rfl rfl) rfl ?_
   refine Va (Vj rfl) rfl ?_
   refine Vb rfl rfl (by decide) rfl ?_
   refine Vb rfl rfl (by decide) rfl ?_
   refine Vb rfl rfl (by decide) rfl ?_
   refine Vb rfl rfl (by decide) rfl ?_
   refine Vb rfl rfl (by decide) rfl ?_
   refine Va (Vl rfl rfl) rfl ?_
   refine Va (Vj rfl) rfl ?_
   refine Vb rfl rfl (by decide) rfl ?_
   refine Vb rfl rfl (by decide) rfl ?_
   refine Vb rfl rfl (by decide) rfl ?_
   refine Va (Vl rfl rfl) rfl ?_
   refine Va (Xj rfl) rfl ?_
   refine Ve ?_
   refine Vx ?_
   obtain rfl := Yy hF
   refine fnR ?_
   exact Vu rfl [] (by decide) ⟨Vy rfl (.bool _), trivial⟩ trivial
 ·rintro _ _ _ _ ⟨he, hw⟩
  refine ⟨_, _, _, hw, ?_⟩
  exact Ye he [.bool r] ⟨rfl, trivial⟩ (.bool _) ⟨rfl, rfl⟩

theorem F_made_Roll_ok {p0 : List Int} {r : T_made_Dice} (hF : F_made_Roll p0 = some r) (low : List AObj) {n : Nat} (hn : low.length = n) :
    Yd Try.prog 9 [.vs 1 (Yv (Yw .i64) p0)] low fun x low' => x = .ptr (n + 0) 0 0 0 ∧ low' = low ++ [⟨53, 2, [.agg [.vs 1 (Yv (Yw .i64) r.L), .int .i64 r.At]], 0⟩] := by
 refine Vw (nt := 6) (rs := [.tmp 2]) Try.func9 rfl rfl (Yz rfl) rfl ?_
 refine Vt (Q' := FnE (fun E' lw lc => Xv E' lw lc [(2, .ptr (n + 0) 0 0 0)] low [⟨53, 2, [.agg [.vs 1 (Yv (Yw .i64) r.L), .int .i64 r.At]], 0⟩])) ?_ ?_
 ·unfold F_made_Roll at hF
  refine Vg ?_
  refine Vd ?_
  refine Va (rd_asQ rfl) rfl ?_
  refine Ve ?_
  refine Vg ?_
  refine Vd ?_
  refine Va (Xg rfl) rfl ?_
  refine Va (rd_build (vs := [(0, .vs 1 (Yv (Yw .i64) p0))]) (ds := [.vs 1 (Yv (Yw .i64) p0), .int .i64 0]) tz_53 rfl rfl tp_53 ⟨rfl, rfl, trivial⟩ (nt_all2 rfl) rfl) rfl ?_
  refine Vk (vef_boxN hn rfl (v := .agg [.vs 1 (Yv (Yw .i64) p0), .int .i64 0]) rfl rfl (Za _) rfl rfl) rfl ?_
  refine Va (rd_asP rfl) rfl ?_
  refine Ve ?_
  refine Vx ?_
  obtain rfl := Yy hF
  refine fnR ?_
  exact Vn ⟨rfl, trivial⟩
 ·rintro _ _ _ _ ⟨he, hw⟩
  refine ⟨_, _, _, hw, ?_⟩
  exact bodyQ_all he [.ptr (n + 0) 0 0 0] ⟨rfl, trivial⟩ ⟨rfl, rfl⟩

theorem F_made_Mod_ok {p0 : Int} {p1 : Int} {r : Int} (hF : F_made_Mod p0 p1 = some r) (low : List AObj) :
    Yd Try.prog 19 [.int .i64 p0, .int .i64 p1] low fun x low' => x = .int .i64 r ∧ low' = low := by
 refine Vw (nt := 16) (rs := [.tmp 4]) Try.func19 rfl rfl (Yz rfl) rfl ?_
 refine Vt (Q' := FnE (fun E' lw lc => Xv E' lw lc [(4, .int .i64 r)] low [])) ?_ ?_
 ·unfold F_made_Mod at hF
  refine Vg ?_
  refine Vd ?_
  refine Va (Xa rfl) rfl ?_
  refine Ve ?_
  refine Vg ?_
  refine Vg ?_
  refine Vd ?_
  refine Va (Vh rfl) rfl ?_
  refine Va (rd_lss rfl rfl) rfl ?_
  refine Ve ?_
  refine Xc rfl (fun c1 => ?_) (fun c1 => ?_)
  ·have hF := Yg c1 hF
   refine Vg ?_
   refine Vd ?_
   refine Va (Xa rfl) rfl ?_
   refine Ve ?_
   refine Vx ?_
   obtain rfl := Yy hF
   refine fnR ?_
   exact Vn ⟨rfl, trivial⟩
  ·have hF := Yh c1 hF
   refine Xh ?_
   refine Vg ?_
   refine Vd ?_
   obtain ⟨x2, h3, hF⟩ := Ym hF
   refine Va (Vh rfl) rfl ?_
   refine Va (Vh rfl) rfl ?_
   refine Va (rd_rem rfl rfl (remI_some h3).1 (remI_some h3).2) rfl ?_
   refine Va (Xa rfl) rfl ?_
   refine Ve ?_
   refine Vg ?_
   refine Vg ?_
   refine Vd ?_
   refine Va (Vh rfl) rfl ?_
   refine Va (rd_lss rfl rfl) rfl ?_
   refine Ve ?_
   obtain ⟨o4, ho4, hF⟩ := Ym hF
   refine Vt (Q' := (fun o4 => OnlyE .normal (fun E' lw lc => Xv E' lw lc [(0, .int .i64 o4)] low [])) o4) ?_ ?_
   ·replace hF := ho4
    refine Xc rfl (fun c5 => ?_) (fun c5 => ?_)
    ·have hF := Yg c5 hF
     refine Vd ?_
     refine Va (Vh rfl) rfl ?_
     refine Va (Vh rfl) rfl ?_
     refine Va (rd_add rfl rfl rfl) rfl ?_
     refine Va (Xa rfl) rfl ?_
     refine Ve ?_
     obtain rfl := Yy hF
     refine Xq ?_
     exact Vn ⟨rfl, trivial⟩
    ·have hF := Yh c5 hF
     refine Xh ?_
     obtain rfl := Yy hF
     refine Xq ?_
     exact Vn ⟨rfl, trivial⟩
   ·rintro _ _ _ _ ⟨rfl, hw⟩
    refine ⟨_, _, _, hw, ?_⟩
    refine Vg ?_
    refine Vd ?_
    refine Va (Vh rfl) rfl ?_
    refine Va (Xa rfl) rfl ?_
    refine Ve ?_
    refine Vx ?_
    obtain rfl := Yy hF
    refine fnR ?_
    exact Vn ⟨rfl, trivial⟩
 ·rintro _ _ _ _ ⟨he, hw⟩
  refine ⟨_, _, _, hw, ?_⟩
  exact Ye he [.int .i64 r] ⟨rfl, trivial⟩ (.int _ _) ⟨rfl, rfl⟩

theorem F_made_Dice_Next_ok0 {p0 : T_made_Dice} {p1 : Int} {r : T_made_Dice × Int} (hF : F_made_Dice_Next p0 p1 = some r) {low0 : List AObj} {q0 w0 : Nat} (hB : Bor low0 [q0]) {n : Nat} (hn : low0.length = n) :
    Yd Try.prog 10 [.ptr q0 w0 0 0, .int .i64 p1] (setL low0 [(q0, ⟨53, 2, [.agg [.vs 1 (Yv (Yw .i64) p0.L), .int .i64 p0.At]], w0⟩)]) fun x low' => x = .int .i64 r.2 ∧ low' = setL low0 [(q0, ⟨53, 2, [.agg [.vs 1 (Yv (Yw .i64) r.1.L), .int .i64 r.1.At]], w0⟩)] ++ [] := by
 refine Vw (nt := 35) (rs := [.tmp 4]) Try.func10 rfl rfl (Yz rfl) rfl ?_
 have hq0 : q0 < n := hB.ltN hn 0 rfl
 refine Vt (Q' := FnE (fun E' lw lc => Xv E' lw lc [(4, .int .i64 r.2)] (setL low0 [(q0, ⟨53, 2, [.agg [.vs 1 (Yv (Yw .i64) r.1.L), .int .i64 r.1.At]], w0⟩)]) [])) ?_ ?_
 ·unfold F_made_Dice_Next at hF
  refine Vg ?_
  refine Vd ?_
  refine Va (Xa rfl) rfl ?_
  refine Ve ?_
  refine Vg ?_
  refine Vg ?_
  refine vwp_drawn0 [[], [0], [0, 1], [0, 1, 2], [], [4], [4, 5], [4, 5, 6], [4, 5, 6, 7], [0, 1, 2, 3, 4, 5, 6, 7, 8]] mixed (by kernel_rfl) rfl ?_
  refine Yq rfl rfl (rd_mvP rfl) ?_
  refine Yq rfl rfl (Yl rfl) ?_
  refine Yq rfl rfl (Vc rfl tf_53_1 ts_3 (by decide)) ?_
  refine Yq rfl rfl (Vf rfl (Xp hB rfl 0 rfl) rfl ta_3 rfl) ?_
  refine Yq rfl rfl (rd_mvP rfl) ?_
  refine Yq rfl rfl (Yl rfl) ?_
  refine Yq rfl rfl (Vc rfl tf_53_0 ts_22 (by decide)) ?_
  refine Yq rfl rfl (Vf rfl (Xp hB rfl 0 rfl) rfl ta_22 rfl) ?_
  refine Yq rfl rfl (Xb (Xf rfl rfl te_22) (congrArg (fun n : Nat => Yw .i64 (n : Int)) (Zc _))) ?_
  refine Yq rfl rfl (rd_geq rfl rfl) ?_
  refine dops_nil ?_
  refine Xc rfl (fun c1 => ?_) (fun c1 => ?_)
  ·have hF := Yg c1 hF
   refine Vg ?_
   refine Vd ?_
   refine Va (Xa rfl) rfl ?_
   refine Ve ?_
   refine Vx ?_
   obtain rfl := Yy hF
   refine fnR ?_
   exact Vn ⟨rfl, trivial⟩
  ·have hF := Yh c1 hF
   refine Xh ?_
   refine Vg ?_
   refine Vd ?_
   refine Va (rd_mvP rfl) rfl ?_
   refine Va (Yl rfl) rfl ?_
   refine Va (Vc rfl tf_53_1 ts_3 (by decide)) rfl ?_
   refine Va (Vf rfl (Xp hB rfl 0 rfl) rfl ta_3 rfl) rfl ?_
   refine Va (rd_add rfl rfl rfl) rfl ?_
   refine Va (Yl rfl) rfl ?_
   refine Va (Vc rfl tf_53_1 ts_3 (by decide)) rfl ?_
   refine Vk (Xn (p := .int .i64 (IntKind.i64.wrap (p0.At + 1))) (e' := .agg [.vs 1 (Yv (Yw .i64) p0.L), .int .i64 (IntKind.i64.wrap (p0.At + 1))]) rfl (Xp hB rfl 0 rfl) rfl rfl ts_3 rfl (Yt rfl) rfl (Yz rfl) rfl (setO_B hB rfl 0 rfl (ltObjN hn ⟨Xz ⟨.vs _ _, .int _ _, trivial⟩, trivial⟩) rfl)) rfl ?_
   refine Ve ?_
   refine Vg ?_
   obtain ⟨x2, h3, hF⟩ := Ym hF
   obtain ⟨x4, h5, hF⟩ := Ym hF
   refine vwp_drawn0 [[], [0], [0, 1], [0, 1, 2], [], [4], [4, 5], [4, 5, 6], [4, 5, 6, 7], [0, 1, 2, 3, 4, 5, 6, 7, 8], [0, 1, 2, 3, 4, 5, 6, 7, 8, 9], [], [0, 1, 2, 3, 4, 5, 6, 7, 8, 9, 10, 11], [0, 1, 2, 3, 4, 5, 6, 7, 8, 9, 10, 11, 12]] mixed (by kernel_rfl) rfl ?_
   refine Yq rfl rfl (rd_mvP rfl) ?_
   refine Yq rfl rfl (Yl rfl) ?_
   refine Yq rfl rfl (Vc rfl tf_53_0 ts_22 (by decide)) ?_
   refine Yq rfl rfl (Vf rfl (Xp hB rfl 0 rfl) rfl ta_22 rfl) ?_
   refine Yq rfl rfl (rd_mvP rfl) ?_
   refine Yq rfl rfl (Yl rfl) ?_
   refine Yq rfl rfl (Vc rfl tf_53_1 ts_3 (by decide)) ?_
   refine Yq rfl rfl (Vf rfl (Xp hB rfl 0 rfl) rfl ta_3 rfl) ?_
   refine Yq rfl rfl (rd_sub rfl rfl rfl) ?_
   refine Yq rfl rfl (Xb (Yb rfl rfl h3 te_22 ts_3) (v' := .vptr [.int .i64 x2] 0) rfl) ?_
   refine Yq rfl rfl (Vz rfl ta_3 rfl) ?_
   refine Yq rfl rfl (Vh rfl) ?_
   refine dn1 rfl rfl (nt_of (Xd rfl Try.call19 (F_made_Mod_ok h5 _))) ?_
   refine Yq rfl rfl (Xa rfl) ?_
   refine dops_nil ?_
   refine Vx ?_
   obtain rfl := Yy hF
   refine fnR ?_
   exact Vn ⟨rfl, trivial⟩
 ·rintro _ _ _ _ ⟨he, hw⟩
  refine ⟨_, _, _, hw, ?_⟩
  exact Ye he [.int .i64 r.2] ⟨rfl, trivial⟩ (.int _ _) ⟨rfl, (List.append_nil _).symm⟩

theorem F_made_Dice_Next_ok {p0 : T_made_Dice} {p1 : Int} {r : T_made_Dice × Int} (hF : F_made_Dice_Next p0 p1 = some r) {low : List AObj} {q0 w0 : Nat} (hnd : [q0].Nodup) (hq0 : low[q0]? = some ⟨53, 2, [.agg [.vs 1 (Yv (Yw .i64) p0.L), .int .i64 p0.At]], w0⟩) {n : Nat} (hn : low.length = n) :
    Yd Try.prog 10 [.ptr q0 w0 0 0, .int .i64 p1] low fun x low' => x = .int .i64 r.2 ∧ low' = setL low [(q0, ⟨53, 2, [.agg [.vs 1 (Yv (Yw .i64) r.1.L), .int .i64 r.1.At]], w0⟩)] ++ [] := by
  obtain ⟨h1, h2⟩ := bor_start (ps := [(q0, ⟨53, 2, [.agg [.vs 1 (Yv (Yw .i64) p0.L), .int .i64 p0.At]], w0⟩)]) hnd (borC hq0 bor0)
  exact vcalls_low h1 (F_made_Dice_Next_ok0 hF h2 hn)

theorem F_made_Dice_Of_ok0 {p0 : T_made_Dice} {p1 : List Int} {r : T_made_Dice × Int} (hF : F_made_Dice_Of p0 p1 = some r) {low0 : List AObj} {q0 w0 : Nat} (hB : Bor low0 [q0]) {n : Nat} (hn : low0.length = n) :
    Yd Try.prog 11 [.ptr q0 w0 0 0, .vs 1 (Yv (Yw .i64) p1)] (setL low0 [(q0, ⟨53, 2, [.agg [.vs 1 (Yv (Yw .i64) p0.L), .int .i64 p0.At]], w0⟩)]) fun x low' => x = .int .i64 r.2 ∧ low' = setL low0 [(q0, ⟨53, 2, [.agg [.vs 1 (Yv (Yw .i64) r.1.L), .int .i64 r.1.At]], w0⟩)] ++ [] := by
 refine Vw (nt := 12) (rs := [.tmp 4]) Try.func11 rfl rfl (Yz rfl) rfl ?_
 have hq0 : q0 < n := hB.ltN hn 0 rfl
 refine Vt (Q' := FnE (fun E' lw lc => Xv E' lw lc [(4, .int .i64 r.2)] (setL low0 [(q0, ⟨53, 2, [.agg [.vs 1 (Yv (Yw .i64) r.1.L), .int .i64 r.1.At]], w0⟩)]) [])) ?_ ?_
 ·unfold F_made_Dice_Of at hF
  refine Vg ?_
  refine Vd ?_
  refine Va (Xa rfl) rfl ?_
  refine Ve ?_
  refine Vg ?_
  refine Vd ?_
  obtain ⟨x1, h2, hF⟩ := Ym hF
  obtain ⟨x3, h4, hF⟩ := Ym hF
  refine Va (Xg rfl) rfl ?_
  refine Va (rd_mvP rfl) rfl ?_
  refine Va (Xg rfl) rfl ?_
  refine Va (Xb (Xf rfl rfl te_22) (congrArg (fun n : Nat => Yw .i64 (n : Int)) (Zc _))) rfl ?_
  refine Vk (vef_callS (ps := [(q0, ⟨53, 2, [.agg [.vs 1 (Yv (Yw .i64) x1.1.L), .int .i64 x1.1.At]], w0⟩)]) (r := .int .i64 x1.2) (os := []) (low1 := (setL low0 [(q0, ⟨53, 2, [.agg [.vs 1 (Yv (Yw .i64) x1.1.L), .int .i64 x1.1.At]], w0⟩)])) (loc1 := []) (loc2 := []) rfl Try.call10 (F_made_Dice_Next_ok h2 (nd1 na0 nd0) (get_B hB rfl 0 rfl) (Xi (Vq hn) rfl)) (sets_B (ps0' := [(q0, ⟨53, 2, [.agg [.vs 1 (Yv (Yw .i64) x1.1.L), .int .i64 x1.1.At]], w0⟩)]) hB rfl 0 rfl (ltObjN hn ⟨Xz ⟨.vs _ _, .int _ _, trivial⟩, trivial⟩) rfl sets_nil) rfl) rfl ?_
  refine Va (Xb (Yb rfl rfl h4 te_22 ts_3) (v' := .vptr [.int .i64 x3] 0) rfl) rfl ?_
  refine Va (Vz rfl ta_3 rfl) rfl ?_
  refine Va (Xa rfl) rfl ?_
  refine Ve ?_
  refine Vx ?_
  obtain rfl := Yy hF
  refine fnR ?_
  exact Vn ⟨rfl, trivial⟩
 ·rintro _ _ _ _ ⟨he, hw⟩
  refine ⟨_, _, _, hw, ?_⟩
  exact Ye he [.int .i64 r.2] ⟨rfl, trivial⟩ (.int _ _) ⟨rfl, (List.append_nil _).symm⟩

theorem F_made_Dice_Of_ok {p0 : T_made_Dice} {p1 : List Int} {r : T_made_Dice × Int} (hF : F_made_Dice_Of p0 p1 = some r) {low : List AObj} {q0 w0 : Nat} (hnd : [q0].Nodup) (hq0 : low[q0]? = some ⟨53, 2, [.agg [.vs 1 (Yv (Yw .i64) p0.L), .int .i64 p0.At]], w0⟩) {n : Nat} (hn : low.length = n) :
    Yd Try.prog 11 [.ptr q0 w0 0 0, .vs 1 (Yv (Yw .i64) p1)] low fun x low' => x = .int .i64 r.2 ∧ low' = setL low [(q0, ⟨53, 2, [.agg [.vs 1 (Yv (Yw .i64) r.1.L), .int .i64 r.1.At]], w0⟩)] ++ [] := by
  obtain ⟨h1, h2⟩ := bor_start (ps := [(q0, ⟨53, 2, [.agg [.vs 1 (Yv (Yw .i64) p0.L), .int .i64 p0.At]], w0⟩)]) hnd (borC hq0 bor0)
  exact vcalls_low h1 (F_made_Dice_Of_ok0 hF h2 hn)

theorem F_ref23_Has_ok {p0 : List Int} {p1 : Int} {r : Bool} (hF : F_ref23_Has p0 p1 = some r) (low : List AObj) :
    Yd Try.prog 17 [.vs 1 (Yv (Yw .i64) p0), .int .i64 p1] low fun x low' => x = .bool r ∧ low' = low := by
 refine Vw (nt := 18) (rs := [.tmp 4]) Try.func17 rfl rfl (Yz rfl) rfl ?_
 refine Vt (Q' := FnE (fun E' lw lc => Xv E' lw lc [(4, .bool r)] low [])) ?_ ?_
 ·unfold F_ref23_Has at hF
  refine Vg ?_
  refine Vd ?_
  refine Va (Xj rfl) rfl ?_
  refine Ve ?_
  refine Vg ?_
  refine Vg ?_
  refine Vd ?_
  refine Va (Xa rfl) rfl ?_
  refine Ve ?_
  refine Xt ?_
  obtain ⟨o2, ho2, hF⟩ := Ym hF
  refine Vt (vwp_loopC (F_ref23_Has_L1 p0 p1) (fun s1 E' lw lc => Xv E' lw lc [(0, .vs 1 (Yv (Yw .i64) p0)), (1, .int .i64 p1), (5, .int .i64 s1)] low []) (Sum.elim (fun j3 => OnlyE .ret (fun E' lw lc => Xv E' lw lc [(4, .bool true)] low [])) (fun j4 => OnlyE (.exit 0) (fun E' lw lc => Xv E' lw lc [] low []))) ho2 ?_ (by rintro (_|_) _ _ _ ⟨h, _⟩ <;> cases h) ?_) ?_
  ·exact Vn ⟨rfl, rfl, rfl, trivial⟩
  ·rintro s1 os1 _ _ _ hF hw
   unfold F_ref23_Has_L1 at hF
   refine Xw hw ?_
   refine Vg ?_
   refine Vg ?_
   refine Vd ?_
   refine Va (Vh rfl) rfl ?_
   refine Va (Xg rfl) rfl ?_
   refine Va (Xb (Xf rfl rfl te_22) (congrArg (fun n : Nat => Yw .i64 (n : Int)) (Zc _))) rfl ?_
   refine Va (rd_lss rfl rfl) rfl ?_
   refine Ve ?_
   refine Xc rfl (fun c5 => ?_) (fun c5 => ?_)
   ·have hF := Yg c5 hF
    refine Xh ?_
    refine Vg ?_
    refine Xt ?_
    refine Vg ?_
    refine Vd ?_
    obtain ⟨x6, h7, hF⟩ := Ym hF
    refine Va (Xg rfl) rfl ?_
    refine Va (Vh rfl) rfl ?_
    refine Va (Xb (Yb rfl rfl h7 te_22 ts_3) (v' := .vptr [.int .i64 x6] 0) rfl) rfl ?_
    refine Va (Vz rfl ta_3 rfl) rfl ?_
    refine Va (Vh rfl) rfl ?_
    refine Va (Vs rfl rfl) rfl ?_
    refine Ve ?_
    refine Xc rfl (fun c8 => ?_) (fun c8 => ?_)
    ·have hF := Yg c8 hF
     refine Vg ?_
     refine Vd ?_
     refine Va (Xj rfl) rfl ?_
     refine Ve ?_
     refine Vx ?_
     obtain rfl := Yy hF
     refine Xq ?_
     exact Vn ⟨rfl, trivial⟩
    ·have hF := Yh c8 hF
     refine Xh ?_
     refine Vd ?_
     refine Va (Vh rfl) rfl ?_
     refine Va (rd_add rfl rfl rfl) rfl ?_
     refine Va (Xa rfl) rfl ?_
     refine Ve ?_
     obtain rfl := Yy hF
     refine Xq ?_
     exact Vn ⟨rfl, rfl, rfl, trivial⟩
   ·have hF := Yh c5 hF
    refine vwp_exit ?_
    obtain rfl := Yy hF
    refine Xq ?_
    exact Vn trivial
  ·rcases o2 with j3 | j4
   ·replace hF := elimL hF
    rintro _ _ _ _ ⟨rfl, hw⟩
    refine ⟨_, _, _, hw, ?_⟩
    obtain rfl := Yy hF
    refine fnR ?_
    exact Vn ⟨rfl, trivial⟩
   ·replace hF := elimR hF
    rintro _ _ _ _ ⟨rfl, hw⟩
    refine ⟨_, _, _, hw, ?_⟩
    refine Vg ?_
    refine Vd ?_
    refine Va (Xj rfl) rfl ?_
    refine Ve ?_
    refine Vx ?_
    obtain rfl := Yy hF
    refine fnR ?_
    exact Vn ⟨rfl, trivial⟩
 ·rintro _ _ _ _ ⟨he, hw⟩
  refine ⟨_, _, _, hw, ?_⟩
  exact Ye he [.bool r] ⟨rfl, trivial⟩ (.bool _) ⟨rfl, rfl⟩

theorem F_law39_BeltsAll_ok {p0 : List Int} {r : Bool} (hF : F_law39_BeltsAll p0 = some r) (low : List AObj) :
    Yd Try.prog 3 [.vs 1 (Yv (Yw .i64) p0)] low fun x low' => x = .bool r ∧ low' = low := by
 refine Vw (nt := 142) (rs := [.tmp 2]) Try.func3 rfl rfl (Yz rfl) rfl ?_
 refine Vt (Q' := FnE (fun E' lw lc => Xv E' lw lc [(2, .bool r)] low [])) ?_ ?_
 ·unfold F_law39_BeltsAll at hF
  refine Vg ?_
  refine Vd ?_
  refine Va (Xj rfl) rfl ?_
  refine Ve ?_
  refine Vg ?_
  refine Vg ?_
  refine Vd ?_
  obtain ⟨x1, h2, hF⟩ := Ym hF
  refine Va (Xg rfl) rfl ?_
  refine Vk (Xd rfl Try.call7 (F_made_Light_ok h2 _)) rfl ?_
  refine Va (rd_not rfl) rfl ?_
  refine Ve ?_
  refine Xc rfl (fun c3 => ?_) (fun c3 => ?_)
  ·have hF := Yg c3 hF
   refine Vg ?_
   refine Vd ?_
   obtain ⟨x4, h5, hF⟩ := Ym hF
   refine Vk (Xd rfl Try.call8 (F_law39_awake_ok h5 _)) rfl ?_
   refine Va (Xj rfl) rfl ?_
   refine Ve ?_
   refine Vx ?_
   obtain rfl := Yy hF
   refine fnR ?_
   exact Vn ⟨rfl, trivial⟩
  ·have hF := Yh c3 hF
   refine Xh ?_
   refine Vg ?_
   refine Vd ?_
   obtain ⟨x6, h7, hF⟩ := Ym hF
   refine Va (Xg rfl) rfl ?_
   refine Vk (Xk (r := .ptr (low.length + 0) 0 0 0) (os := [⟨53, 2, [.agg [.vs 1 (Yv (Yw .i64) x6.L), .int .i64 x6.At]], 0⟩]) rfl Try.call9 (F_made_Roll_ok h7 _ (Xi rfl rfl))) rfl ?_
   refine Va (rd_asP rfl) rfl ?_
   refine Ve ?_
   refine Vg ?_
   refine Vd ?_
   refine Vk (vef_nilsN rfl rfl 31 2 (Za _) (rd_asN rfl)) rfl ?_
   refine Ve ?_
   refine Vg ?_
   refine Vg ?_
   refine Vd ?_
   obtain ⟨x8, h9, hF⟩ := Ym hF
   refine Va (rd_mvP rfl) rfl ?_
   refine Vk (vef_callS (ps := [((low.length + 0), ⟨53, 2, [.agg [.vs 1 (Yv (Yw .i64) x8.1.L), .int .i64 x8.1.At]], 0⟩)]) (r := .int .i64 x8.2) (os := []) (low1 := low) (loc1 := [⟨53, 2, [.agg [.vs 1 (Yv (Yw .i64) x8.1.L), .int .i64 x8.1.At]], 0⟩, ⟨31, 2, Yv T_Belt.enc ([] : List T_Belt), 0⟩]) (loc2 := [⟨53, 2, [.agg [.vs 1 (Yv (Yw .i64) x8.1.L), .int .i64 x8.1.At]], 0⟩, ⟨31, 2, Yv T_Belt.enc ([] : List T_Belt), 0⟩]) rfl Try.call10 (F_made_Dice_Next_ok h9 (nd1 na0 nd0) (get_N rfl rfl) (Xi rfl rfl)) (Yi (loc2 := [⟨53, 2, [.agg [.vs 1 (Yv (Yw .i64) x8.1.L), .int .i64 x8.1.At]], 0⟩, ⟨31, 2, Yv T_Belt.enc ([] : List T_Belt), 0⟩]) rfl 0 rfl sets_nil) rfl) rfl ?_
   refine Va (rd_add rfl rfl rfl) rfl ?_
   refine Va (Xa rfl) rfl ?_
   refine Ve ?_
   refine Xt ?_
   obtain ⟨o11, ho11, hF⟩ := Ym hF
   refine Vt (vwp_loopC F_law39_BeltsAll_L1 (fun s10 E' lw lc => Xv E' lw lc [(3, .ptr (low.length + 0) 0 0 0), (4, .sl (low.length + 1) 0 0 (s10.2.2).length), (5, .int .i64 s10.1)] low [⟨53, 2, [.agg [.vs 1 (Yv (Yw .i64) s10.2.1.L), .int .i64 s10.2.1.At]], 0⟩, ⟨31, 2, Yv T_Belt.enc s10.2.2, 0⟩]) (fun o11 => OnlyE (.exit 0) (fun E' lw lc => Xv E' lw lc [(3, .ptr (low.length + 0) 0 0 0), (4, .sl (low.length + 1) 0 0 (o11.2).length)] low [⟨53, 2, [.agg [.vs 1 (Yv (Yw .i64) o11.1.L), .int .i64 o11.1.At]], 0⟩, ⟨31, 2, Yv T_Belt.enc o11.2, 0⟩])) ho11 ?_ (by rintro _ _ _ _ ⟨h, _⟩ <;> cases h) ?_) ?_
   ·exact Vn ⟨rfl, rfl, rfl, trivial⟩
   ·rintro s10 os10 _ _ _ hF hw
    unfold F_law39_BeltsAll_L1 at hF
    refine Xw hw ?_
    refine Vg ?_
    refine Vg ?_
    refine Vd ?_
    refine Va (Vh rfl) rfl ?_
    refine Va (rd_gtr rfl rfl) rfl ?_
    refine Ve ?_
    refine Xc rfl (fun c12 => ?_) (fun c12 => ?_)
    ·have hF := Yg c12 hF
     refine Xh ?_
     refine Vg ?_
     refine Xt ?_
     refine Vd ?_
     obtain ⟨x13, h14, hF⟩ := Ym hF
     obtain ⟨x15, h16, hF⟩ := Ym hF
     obtain ⟨x17, h18, hF⟩ := Ym hF
     refine Va (rd_mvL rfl) rfl ?_
     refine Va (rd_mvP rfl) rfl ?_
     refine Va (rd_mvL rfl) rfl ?_
     refine Va (rd_lenS rfl (Vi rfl rfl) rfl rfl te_27) rfl ?_
     refine Va (rd_add rfl rfl rfl) rfl ?_
     refine Vk (vef_callS (ps := [((low.length + 0), ⟨53, 2, [.agg [.vs 1 (Yv (Yw .i64) x13.1.L), .int .i64 x13.1.At]], 0⟩)]) (r := .int .i64 x13.2) (os := []) (low1 := low) (loc1 := [⟨53, 2, [.agg [.vs 1 (Yv (Yw .i64) x13.1.L), .int .i64 x13.1.At]], 0⟩, ⟨31, 2, Yv T_Belt.enc s10.2.2, 0⟩]) (loc2 := [⟨53, 2, [.agg [.vs 1 (Yv (Yw .i64) x13.1.L), .int .i64 x13.1.At]], 0⟩, ⟨31, 2, Yv T_Belt.enc s10.2.2, 0⟩]) rfl Try.call10 (F_made_Dice_Next_ok h14 (nd1 na0 nd0) (get_N rfl rfl) (Xi rfl rfl)) (Yi (loc2 := [⟨53, 2, [.agg [.vs 1 (Yv (Yw .i64) x13.1.L), .int .i64 x13.1.At]], 0⟩, ⟨31, 2, Yv T_Belt.enc s10.2.2, 0⟩]) rfl 0 rfl sets_nil) rfl) rfl ?_
     refine Va (rd_sub rfl rfl rfl) rfl ?_
     refine Va (rd_mvP rfl) rfl ?_
     refine Vk (vef_litF (es := Yv (Yw .i64) [5, 0, 20]) ⟨rfl, rfl, rfl, rfl, rfl, rfl, trivial⟩ rfl rfl (nt_all rfl) te_22 ts_3 tz_3 rfl rfl (Za _) (by decide) (lt_map (fun _ => .int _ _))) rfl ?_
     refine Vk (vef_callS (ps := [((low.length + 0), ⟨53, 2, [.agg [.vs 1 (Yv (Yw .i64) x15.1.L), .int .i64 x15.1.At]], 0⟩)]) (r := .int .i64 x15.2) (os := []) (low1 := low) (loc1 := [⟨53, 2, [.agg [.vs 1 (Yv (Yw .i64) x15.1.L), .int .i64 x15.1.At]], 0⟩, ⟨31, 2, Yv T_Belt.enc s10.2.2, 0⟩]) (loc2 := [⟨53, 2, [.agg [.vs 1 (Yv (Yw .i64) x15.1.L), .int .i64 x15.1.At]], 0⟩, ⟨31, 2, Yv T_Belt.enc s10.2.2, 0⟩]) rfl Try.call11 (F_made_Dice_Of_ok h16 (nd1 na0 nd0) (get_N rfl rfl) (Xi rfl rfl)) (Yi (loc2 := [⟨53, 2, [.agg [.vs 1 (Yv (Yw .i64) x15.1.L), .int .i64 x15.1.At]], 0⟩, ⟨31, 2, Yv T_Belt.enc s10.2.2, 0⟩]) rfl 0 rfl sets_nil) rfl) rfl ?_
     refine Va (rd_build (vs := [(0, .int .i64 (IntKind.i64.wrap (x13.2 - 1))), (1, .int .i64 x15.2)]) (ds := [.int .i64 (IntKind.i64.wrap (x13.2 - 1)), .int .i64 x15.2]) tz_31 rfl rfl tp_31 ⟨rfl, rfl, rfl, rfl, trivial⟩ (nt_all2 rfl) rfl) rfl ?_
     refine Vk (vef_litF (es := Yv T_Belt.enc [(T_Belt.mk (IntKind.i64.wrap (x13.2 - 1)) x15.2)]) ⟨rfl, rfl, trivial⟩ rfl rfl (nt_all rfl) te_27 ts_31 tz_31 rfl rfl (Za _) (by decide) (lt_map T_Belt.enc_lt)) rfl ?_
     refine Vk (vef_apL (f := T_Belt.enc) (l := s10.2.2) (ys := [(T_Belt.mk (IntKind.i64.wrap (x13.2 - 1)) x15.2)]) rfl rfl (Vi rfl rfl) rfl (src_vs rfl) te_27 ts_31 tb_31 (by decide) tz_31 rfl h18 (Yn rfl rfl)) rfl ?_
     refine Va (rd_asL rfl) rfl ?_
     refine Ve ?_
     refine Vd ?_
     refine Va (Vh rfl) rfl ?_
     refine Va (rd_sub rfl rfl rfl) rfl ?_
     refine Va (Xa rfl) rfl ?_
     refine Ve ?_
     obtain rfl := Yy hF
     refine Xq ?_
     exact Vu rfl [(0, 0), (1, 0 + 1)] (by decide) ⟨rn_ptr 0 0 rfl rfl, rn_sl 1 1 rfl rfl, Vy rfl (.int _ _), trivial⟩ ⟨⟨_, rfl, rfl, .same _ _ _ _ (Xr ⟨Xz ⟨.vs _ _, .int _ _, trivial⟩, trivial⟩)⟩, ⟨_, rfl, rfl, .same _ _ _ _ (Vo T_Belt.enc_lt)⟩, trivial⟩
    ·have hF := Yh c12 hF
     refine vwp_exit ?_
     obtain rfl := Yy hF
     refine Xq ?_
     exact Vn ⟨rfl, rfl, trivial⟩
   ·rintro _ _ _ _ ⟨rfl, hw⟩
    refine ⟨_, _, _, hw, ?_⟩
    refine Vg ?_
    refine Vd ?_
    obtain ⟨x19, h20, hF⟩ := Ym hF
    refine Va (rd_mvL rfl) rfl ?_
    refine vops_weak (Xy (E' := [(3, .ptr (low.length + 0) 0 0 0), (4, .vs 2 (Yv T_Belt.enc o11.2)), (41, .vs 2 (Yv T_Belt.enc o11.2))]) (loc1 := [⟨53, 2, [.agg [.vs 1 (Yv (Yw .i64) o11.1.L), .int .i64 o11.1.At]], 0⟩, ⟨31, 2, [], 0 + 1⟩]) rfl 1 rfl (lt_map T_Belt.enc_lt) ⟨Vp rfl, cv_sl rfl rfl rfl (Yj rfl), cv_sl rfl rfl rfl (Yj rfl), trivial⟩ ⟨.refl _, .refl _, trivial⟩) ?_
    refine Vk (Xd rfl Try.call12 (F_belts_Make_ok h20 _)) rfl ?_
    refine Va (rd_mvT rfl) rfl ?_
    refine Va (Xx rfl rfl) rfl ?_
    refine Va (Xx rfl rfl) rfl ?_
    refine Vk (Xm rfl rfl tz_34 rfl rfl (Za _) rfl) rfl ?_
    refine Vk (Xn (p := .agg [.int .i64 x19.1.Time, .vs 1 (Yv (Yw .i64) x19.1.States), .vs 1 (Yv (Yw .i64) x19.1.Since), .vs 1 (Yv Yx x19.1.Pulled), .vs 1 (Yv Yx x19.1.Held)]) (e' := .agg [.int .i64 x19.1.Time, .vs 1 (Yv (Yw .i64) x19.1.States), .vs 1 (Yv (Yw .i64) x19.1.Since), .vs 1 (Yv Yx x19.1.Pulled), .vs 1 (Yv Yx x19.1.Held)]) rfl (Vi rfl rfl) rfl rfl ts_34 rfl (Yt rfl) rfl (Yz rfl) rfl (Yn rfl rfl)) rfl ?_
    refine Va (Xa rfl) rfl ?_
    refine Ve ?_
    refine Vg ?_
    refine Vg ?_
    refine Vd ?_
    refine Va (Xa rfl) rfl ?_
    refine Ve ?_
    refine Xt ?_
    obtain ⟨o22, ho22, hF⟩ := Ym hF
    refine Vt (vwp_loopC (F_law39_BeltsAll_L2 o11) (fun s21 E' lw lc => Xv E' lw lc [(3, .ptr (low.length + 0) 0 0 0), (4, .vs 2 (Yv T_Belt.enc o11.2)), (6, .ptr (low.length + 1) 0 0 0), (7, .int .i64 s21.1), (8, .int .i64 s21.2.1)] low [⟨53, 2, [.agg [.vs 1 (Yv (Yw .i64) o11.1.L), .int .i64 o11.1.At]], 0⟩, ⟨34, 5, [.agg [.int .i64 s21.2.2.Time, .vs 1 (Yv (Yw .i64) s21.2.2.States), .vs 1 (Yv (Yw .i64) s21.2.2.Since), .vs 1 (Yv Yx s21.2.2.Pulled), .vs 1 (Yv Yx s21.2.2.Held)]], 0⟩]) (Sum.elim (fun j23 => OnlyE .ret (fun E' lw lc => Xv E' lw lc [(2, .bool false)] low [])) (fun j24 => OnlyE (.exit 2) (fun E' lw lc => Xv E' lw lc [(3, .ptr (low.length + 0) 0 0 0), (4, .vs 2 (Yv T_Belt.enc o11.2)), (6, .ptr (low.length + 1) 0 0 0), (7, .int .i64 j24.1)] low [⟨53, 2, [.agg [.vs 1 (Yv (Yw .i64) o11.1.L), .int .i64 o11.1.At]], 0⟩, ⟨34, 5, [.agg [.int .i64 j24.2.Time, .vs 1 (Yv (Yw .i64) j24.2.States), .vs 1 (Yv (Yw .i64) j24.2.Since), .vs 1 (Yv Yx j24.2.Pulled), .vs 1 (Yv Yx j24.2.Held)]], 0⟩]))) ho22 ?_ (by rintro (_|_) _ _ _ ⟨h, _⟩ <;> cases h) ?_) ?_
    ·exact Vu rfl [(0, 0), (2, 0)] (by decide) ⟨rn_ptr 0 0 rfl rfl, Vy rfl (.vs _ _), rn_ptr 1 2 rfl rfl, Vy rfl (.int _ _), Vy rfl (.int _ _), trivial⟩ ⟨⟨_, rfl, rfl, .same _ _ _ _ (Xr ⟨Xz ⟨.vs _ _, .int _ _, trivial⟩, trivial⟩)⟩, ⟨_, rfl, rfl, .same _ _ _ _ (Xr ⟨Xz ⟨.int _ _, .vs _ _, .vs _ _, .vs _ _, .vs _ _, trivial⟩, trivial⟩)⟩, trivial⟩
    ·rintro s21 os21 _ _ _ hF hw
     unfold F_law39_BeltsAll_L2 at hF
     refine Xw hw ?_
     refine Vg ?_
     refine Vg ?_
     obtain ⟨o25, ho25, hF⟩ := Ym hF
     refine Vt (Q' := (fun o25 => OnlyE .normal (fun E' lw lc => Xv E' lw lc [(3, .ptr (low.length + 0) 0 0 0), (4, .vs 2 (Yv T_Belt.enc o11.2)), (6, .ptr (low.length + 1) 0 0 0), (7, .int .i64 s21.1), (8, .int .i64 s21.2.1), (52, .bool o25)] low [⟨53, 2, [.agg [.vs 1 (Yv (Yw .i64) o11.1.L), .int .i64 o11.1.At]], 0⟩, ⟨34, 5, [.agg [.int .i64 s21.2.2.Time, .vs 1 (Yv (Yw .i64) s21.2.2.States), .vs 1 (Yv (Yw .i64) s21.2.2.Since), .vs 1 (Yv Yx s21.2.2.Pulled), .vs 1 (Yv Yx s21.2.2.Held)]], 0⟩])) o25) ?_ ?_
     ·replace hF := ho25
      refine Vd ?_
      rcases Zb (decide (s21.2.1 < ((o11.2).length : Int))) with c26 | c26
      ·have hF := Yg c26 hF
       refine Va (Vh rfl) rfl ?_
       refine Va (Xg rfl) rfl ?_
       refine Va (Xb (Xf rfl rfl te_27) (congrArg (fun n : Nat => Yw .i64 (n : Int)) (Zc _))) rfl ?_
       refine Va (rd_lss rfl rfl) rfl ?_
       refine Va (Vj rfl) rfl ?_
       refine Vv rfl rfl c26 ?_
       refine Va (Vh rfl) rfl ?_
       refine Vv rfl rfl c26 ?_
       refine Va (Vs rfl rfl) rfl ?_
       refine Va (Vm (congrArg Yx c26) rfl) rfl ?_
       refine Ve ?_
       obtain rfl := Yy hF
       refine Xq ?_
       exact Vn ⟨rfl, rfl, rfl, rfl, rfl, rfl, trivial⟩
      ·have hF := Yh c26 hF
       refine Va (Vh rfl) rfl ?_
       refine Va (Xg rfl) rfl ?_
       refine Va (Xb (Xf rfl rfl te_27) (congrArg (fun n : Nat => Yw .i64 (n : Int)) (Zc _))) rfl ?_
       refine Va (rd_lss rfl rfl) rfl ?_
       refine Va (Vj rfl) rfl ?_
       refine Vb rfl rfl (neF c26) rfl ?_
       refine Vb rfl rfl (neF c26) rfl ?_
       refine Va (Vl (congrArg Yx c26) rfl) rfl ?_
       refine Ve ?_
       obtain rfl := Yy hF
       refine Xq ?_
       exact Vn ⟨rfl, rfl, rfl, rfl, rfl, rfl, trivial⟩
     ·rintro _ _ _ _ ⟨rfl, hw⟩
      refine ⟨_, _, _, hw, ?_⟩
      refine Xc rfl (fun c27 => ?_) (fun c27 => ?_)
      ·have hF := Yg c27 hF
       refine Xh ?_
       refine Vg ?_
       refine Xt ?_
       refine Vg ?_
       refine Vg ?_
       refine Vd ?_
       obtain ⟨x28, h29, hF⟩ := Ym hF
       refine Va (Xg rfl) rfl ?_
       refine Va (Xs (ds := [.int .i64 s21.2.2.Time, .vs 1 (Yv (Yw .i64) s21.2.2.States), .vs 1 (Yv (Yw .i64) s21.2.2.Since), .vs 1 (Yv Yx s21.2.2.Pulled), .vs 1 (Yv Yx s21.2.2.Held)]) rfl (Vi rfl rfl) rfl ta_34 ts_34 rfl rfl rfl) rfl ?_
       refine Va (Vh rfl) rfl ?_
       refine Vk (Xk (r := .tup [.agg [.int .i64 x28.1.Time, .vs 1 (Yv (Yw .i64) x28.1.States), .vs 1 (Yv (Yw .i64) x28.1.Since), .vs 1 (Yv Yx x28.1.Pulled), .vs 1 (Yv Yx x28.1.Held)], .int .i64 x28.2]) (os := []) rfl Try.call13 (F_belts_Start_ok h29 _ (Xi rfl rfl))) rfl ?_
       refine Va (rd_mvT rfl) rfl ?_
       refine Va (Xx rfl rfl) rfl ?_
       refine Va (Xx rfl rfl) rfl ?_
       refine Vk (Xn (p := .agg [.int .i64 x28.1.Time, .vs 1 (Yv (Yw .i64) x28.1.States), .vs 1 (Yv (Yw .i64) x28.1.Since), .vs 1 (Yv Yx x28.1.Pulled), .vs 1 (Yv Yx x28.1.Held)]) (e' := .agg [.int .i64 x28.1.Time, .vs 1 (Yv (Yw .i64) x28.1.States), .vs 1 (Yv (Yw .i64) x28.1.Since), .vs 1 (Yv Yx x28.1.Pulled), .vs 1 (Yv Yx x28.1.Held)]) rfl (Vi rfl rfl) rfl rfl ts_34 rfl (Yt rfl) rfl (Yz rfl) rfl (Yn rfl rfl)) rfl ?_
       refine Va (Xa rfl) rfl ?_
       refine Ve ?_
       refine Vg ?_
       refine Vd ?_
       refine Va (Vh rfl) rfl ?_
       refine Va (Ys rfl rfl) rfl ?_
       refine Ve ?_
       refine Xc rfl (fun c30 => ?_) (fun c30 => ?_)
       ·have hF := Yg c30 hF
        refine Vg ?_
        refine Vd ?_
        refine Va (Xj rfl) rfl ?_
        refine Ve ?_
        refine Vx ?_
        obtain rfl := Yy hF
        refine Xq ?_
        exact Vu rfl [] (by decide) ⟨Vy rfl (.bool _), trivial⟩ trivial
       ·have hF := Yh c30 hF
        refine Xh ?_
        obtain ⟨x31, h32, hF⟩ := Ym hF
        obtain ⟨x33, h34, hF⟩ := Ym hF
        refine vwp_drawn [[], [], [], [2], [], [], [4, 5], [4, 5, 6], [4, 5, 6, 7], [2, 3, 4, 5, 6, 7, 8], [0, 1, 2, 3, 4, 5, 6, 7, 8, 9], [0, 1, 2, 3, 4, 5, 6, 7, 8, 9, 10], [0, 1, 2, 3, 4, 5, 6, 7, 8, 9, 10, 11], [0, 1, 2, 3, 4, 5, 6, 7, 8, 9, 10, 11], [0, 1, 2, 3, 4, 5, 6, 7, 8, 9, 10, 11, 12], [0, 1, 2, 3, 4, 5, 6, 7, 8, 9, 10, 11, 12, 13, 14]] [false, false, false, false, false, false, false, false, false, false, true, false, false, false, true, false] [(low, [⟨53, 2, [.agg [.vs 1 (Yv (Yw .i64) o11.1.L), .int .i64 o11.1.At]], 0⟩, ⟨34, 5, [.agg [.int .i64 x28.1.Time, .vs 1 (Yv (Yw .i64) x28.1.States), .vs 1 (Yv (Yw .i64) x28.1.Since), .vs 1 (Yv Yx x28.1.Pulled), .vs 1 (Yv Yx x28.1.Held)]], 0⟩]), (low, [⟨53, 2, [.agg [.vs 1 (Yv (Yw .i64) o11.1.L), .int .i64 o11.1.At]], 0⟩, ⟨34, 5, [.agg [.int .i64 x28.1.Time, .vs 1 (Yv (Yw .i64) x28.1.States), .vs 1 (Yv (Yw .i64) x28.1.Since), .vs 1 (Yv Yx x28.1.Pulled), .vs 1 (Yv Yx x28.1.Held)]], 0⟩]), (low, [⟨53, 2, [.agg [.vs 1 (Yv (Yw .i64) o11.1.L), .int .i64 o11.1.At]], 0⟩, ⟨34, 5, [.agg [.int .i64 x33.1.Time, .vs 1 (Yv (Yw .i64) x33.1.States), .vs 1 (Yv (Yw .i64) x33.1.Since), .vs 1 (Yv Yx x33.1.Pulled), .vs 1 (Yv Yx x33.1.Held)]], 0⟩])] mixed (by kernel_rfl) rfl (lenAll (all1 rfl (all1 rfl (all1 rfl all0)))) rfl _ rfl rfl ?_
        refine Yq rfl rfl (Xg rfl) ?_
        refine Yq rfl rfl (Xs (ds := [.int .i64 x28.1.Time, .vs 1 (Yv (Yw .i64) x28.1.States), .vs 1 (Yv (Yw .i64) x28.1.Since), .vs 1 (Yv Yx x28.1.Pulled), .vs 1 (Yv Yx x28.1.Held)]) rfl (Vi rfl rfl) rfl ta_34 ts_34 rfl rfl rfl) ?_
        refine Yq rfl rfl (Vc rfl tf_34_0 ts_3 (by decide)) ?_
        refine Yq rfl rfl (Vf rfl (Vi rfl rfl) rfl ta_3 rfl) ?_
        refine Yq rfl rfl (Xg rfl) ?_
        refine Yq rfl rfl (Vh rfl) ?_
        refine Yq rfl rfl (Xb (Yb rfl rfl h32 te_27 ts_31) (v' := .vptr [.int .i64 x31.Onto, .int .i64 x31.Warn] 0) rfl) ?_
        refine Yq rfl rfl (rd_fieldVaddr rfl tf_31_1 ts_3 (by decide)) ?_
        refine Yq rfl rfl (Vz rfl ta_3 rfl) ?_
        refine Yq rfl rfl (rd_add rfl rfl rfl) ?_
        refine dops_ef rfl rfl rfl (Xk (r := .tup [.agg [.int .i64 x33.1.Time, .vs 1 (Yv (Yw .i64) x33.1.States), .vs 1 (Yv (Yw .i64) x33.1.Since), .vs 1 (Yv Yx x33.1.Pulled), .vs 1 (Yv Yx x33.1.Held)], .int .i64 x33.2]) (os := []) rfl Try.call14 (F_belts_Wait_ok h34 _ (Xi rfl rfl))) ?_
        refine Yq rfl rfl (rd_mvT rfl) ?_
        refine Yq rfl rfl (Xx rfl rfl) ?_
        refine dops_rdW _ rfl rfl (all1 (VRd.ntl (Xx rfl rfl)) (all1 (VRd.ntl (Xx rfl rfl)) all0)) ?_
        refine dops_ef rfl rfl rfl (Xn (p := .agg [.int .i64 x33.1.Time, .vs 1 (Yv (Yw .i64) x33.1.States), .vs 1 (Yv (Yw .i64) x33.1.Since), .vs 1 (Yv Yx x33.1.Pulled), .vs 1 (Yv Yx x33.1.Held)]) (e' := .agg [.int .i64 x33.1.Time, .vs 1 (Yv (Yw .i64) x33.1.States), .vs 1 (Yv (Yw .i64) x33.1.Since), .vs 1 (Yv Yx x33.1.Pulled), .vs 1 (Yv Yx x33.1.Held)]) rfl (Vi rfl rfl) rfl rfl ts_34 rfl (Yt rfl) rfl (Yz rfl) rfl (Yn rfl rfl)) ?_
        refine Yq rfl rfl (Xa rfl) ?_
        refine dops_nil ?_
        refine Vd ?_
        refine Va (Vh rfl) rfl ?_
        refine Va (rd_add rfl rfl rfl) rfl ?_
        refine Va (Xa rfl) rfl ?_
        refine Ve ?_
        obtain rfl := Yy hF
        refine Xq ?_
        exact Vn ⟨rfl, rfl, rfl, rfl, rfl, trivial⟩
      ·have hF := Yh c27 hF
       refine vwp_exit ?_
       obtain rfl := Yy hF
       refine Xq ?_
       exact Vn ⟨rfl, rfl, rfl, rfl, trivial⟩
    ·rcases o22 with j23 | j24
     ·replace hF := elimL hF
      rintro _ _ _ _ ⟨rfl, hw⟩
      refine ⟨_, _, _, hw, ?_⟩
      obtain rfl := Yy hF
      refine fnR ?_
      exact Vn ⟨rfl, trivial⟩
     ·replace hF := elimR hF
      rintro _ _ _ _ ⟨rfl, hw⟩
      refine ⟨_, _, _, hw, ?_⟩
      refine Vg ?_
      refine Vg ?_
      obtain ⟨o35, ho35, hF⟩ := Ym hF
      refine Vt (Q' := (fun o35 => OnlyE .normal (fun E' lw lc => Xv E' lw lc [(3, .ptr (low.length + 0) 0 0 0), (4, .vs 2 (Yv T_Belt.enc o11.2)), (6, .ptr (low.length + 1) 0 0 0), (87, .bool o35)] low [⟨53, 2, [.agg [.vs 1 (Yv (Yw .i64) o11.1.L), .int .i64 o11.1.At]], 0⟩, ⟨34, 5, [.agg [.int .i64 j24.2.Time, .vs 1 (Yv (Yw .i64) j24.2.States), .vs 1 (Yv (Yw .i64) j24.2.Since), .vs 1 (Yv Yx j24.2.Pulled), .vs 1 (Yv Yx j24.2.Held)]], 0⟩])) o35) ?_ ?_
      ·replace hF := ho35
       refine Vd ?_
       rcases Zb (decide (j24.1 ≠ 0)) with c36 | c36
       ·have hF := Yg c36 hF
        refine Va (Vh rfl) rfl ?_
        refine Va (Ys rfl rfl) rfl ?_
        refine Va (Vj rfl) rfl ?_
        refine Vb rfl rfl (neT c36) rfl ?_
        refine Vb rfl rfl (neT c36) rfl ?_
        refine Vb rfl rfl (neT c36) rfl ?_
        refine Vb rfl rfl (neT c36) rfl ?_
        refine Vb rfl rfl (neT c36) rfl ?_
        refine Vb rfl rfl (neT c36) rfl ?_
        refine Va (Vm (congrArg Yx c36) rfl) rfl ?_
        refine Ve ?_
        obtain rfl := Yy hF
        refine Xq ?_
        exact Vn ⟨rfl, rfl, rfl, rfl, trivial⟩
       ·have hF := Yh c36 hF
        refine Va (Vh rfl) rfl ?_
        refine Va (Ys rfl rfl) rfl ?_
        refine Va (Vj rfl) rfl ?_
        refine Vv rfl rfl c36 ?_
        refine Va (Vc rfl tf_34_1 ts_22 (by decide)) rfl ?_
        refine Vv rfl rfl c36 ?_
        refine Va (Vf rfl (Vi rfl rfl) rfl ta_22 rfl) rfl ?_
        refine Vv rfl rfl c36 ?_
        refine Va (Xb (Xf rfl rfl te_22) (congrArg (fun n : Nat => Yw .i64 (n : Int)) (Zc _))) rfl ?_
        refine Vv rfl rfl c36 ?_
        refine Va (Xg rfl) rfl ?_
        refine Vv rfl rfl c36 ?_
        refine Va (Xb (Xf rfl rfl te_27) (congrArg (fun n : Nat => Yw .i64 (n : Int)) (Zc _))) rfl ?_
        refine Vv rfl rfl c36 ?_
        refine Va (Ys rfl rfl) rfl ?_
        refine Va (Vl (congrArg Yx c36) rfl) rfl ?_
        refine Ve ?_
        obtain rfl := Yy hF
        refine Xq ?_
        exact Vn ⟨rfl, rfl, rfl, rfl, trivial⟩
      ·rintro _ _ _ _ ⟨rfl, hw⟩
       refine ⟨_, _, _, hw, ?_⟩
       refine Xc rfl (fun c37 => ?_) (fun c37 => ?_)
       ·have hF := Yg c37 hF
        refine Vg ?_
        refine Vd ?_
        refine Va (Xj rfl) rfl ?_
        refine Ve ?_
        refine Vx ?_
        obtain rfl := Yy hF
        refine fnR ?_
        exact Vu rfl [] (by decide) ⟨Vy rfl (.bool _), trivial⟩ trivial
       ·have hF := Yh c37 hF
        refine Xh ?_
        refine Vg ?_
        refine Vd ?_
        obtain ⟨x38, h39, hF⟩ := Ym hF
        refine Va (rd_mvP rfl) rfl ?_
        refine Va (Xg rfl) rfl ?_
        refine Va (Xb (Xf rfl rfl te_27) (congrArg (fun n : Nat => Yw .i64 (n : Int)) (Zc _))) rfl ?_
        refine Vk (vef_callS (ps := [((low.length + 0), ⟨53, 2, [.agg [.vs 1 (Yv (Yw .i64) x38.1.L), .int .i64 x38.1.At]], 0⟩)]) (r := .int .i64 x38.2) (os := []) (low1 := low) (loc1 := [⟨53, 2, [.agg [.vs 1 (Yv (Yw .i64) x38.1.L), .int .i64 x38.1.At]], 0⟩, ⟨34, 5, [.agg [.int .i64 j24.2.Time, .vs 1 (Yv (Yw .i64) j24.2.States), .vs 1 (Yv (Yw .i64) j24.2.Since), .vs 1 (Yv Yx j24.2.Pulled), .vs 1 (Yv Yx j24.2.Held)]], 0⟩]) (loc2 := [⟨53, 2, [.agg [.vs 1 (Yv (Yw .i64) x38.1.L), .int .i64 x38.1.At]], 0⟩, ⟨34, 5, [.agg [.int .i64 j24.2.Time, .vs 1 (Yv (Yw .i64) j24.2.States), .vs 1 (Yv (Yw .i64) j24.2.Since), .vs 1 (Yv Yx j24.2.Pulled), .vs 1 (Yv Yx j24.2.Held)]], 0⟩]) rfl Try.call10 (F_made_Dice_Next_ok h39 (nd1 na0 nd0) (get_N rfl rfl) (Xi rfl rfl)) (Yi (loc2 := [⟨53, 2, [.agg [.vs 1 (Yv (Yw .i64) x38.1.L), .int .i64 x38.1.At]], 0⟩, ⟨34, 5, [.agg [.int .i64 j24.2.Time, .vs 1 (Yv (Yw .i64) j24.2.States), .vs 1 (Yv (Yw .i64) j24.2.Since), .vs 1 (Yv Yx j24.2.Pulled), .vs 1 (Yv Yx j24.2.Held)]], 0⟩]) rfl 0 rfl sets_nil) rfl) rfl ?_
        refine Va (Xa rfl) rfl ?_
        refine Ve ?_
        refine Vg ?_
        refine Vd ?_
        obtain ⟨x40, h41, hF⟩ := Ym hF
        refine Va (Xg rfl) rfl ?_
        refine Va (Xs (ds := [.int .i64 j24.2.Time, .vs 1 (Yv (Yw .i64) j24.2.States), .vs 1 (Yv (Yw .i64) j24.2.Since), .vs 1 (Yv Yx j24.2.Pulled), .vs 1 (Yv Yx j24.2.Held)]) rfl (Vi rfl rfl) rfl ta_34 ts_34 rfl rfl rfl) rfl ?_
        refine Va (Vh rfl) rfl ?_
        refine Vk (Xk (r := .tup [.agg [.int .i64 x40.1.Time, .vs 1 (Yv (Yw .i64) x40.1.States), .vs 1 (Yv (Yw .i64) x40.1.Since), .vs 1 (Yv Yx x40.1.Pulled), .vs 1 (Yv Yx x40.1.Held)], .int .i64 x40.2]) (os := []) rfl Try.call15 (F_belts_Pull_ok h41 _ (Xi rfl rfl))) rfl ?_
        refine Va (rd_mvT rfl) rfl ?_
        refine Va (Xx rfl rfl) rfl ?_
        refine Va (Xx rfl rfl) rfl ?_
        refine Vk (Xm rfl rfl tz_34 rfl rfl (Za _) rfl) rfl ?_
        refine Vk (Xn (p := .agg [.int .i64 x40.1.Time, .vs 1 (Yv (Yw .i64) x40.1.States), .vs 1 (Yv (Yw .i64) x40.1.Since), .vs 1 (Yv Yx x40.1.Pulled), .vs 1 (Yv Yx x40.1.Held)]) (e' := .agg [.int .i64 x40.1.Time, .vs 1 (Yv (Yw .i64) x40.1.States), .vs 1 (Yv (Yw .i64) x40.1.Since), .vs 1 (Yv Yx x40.1.Pulled), .vs 1 (Yv Yx x40.1.Held)]) rfl (Vi rfl rfl) rfl rfl ts_34 rfl (Yt rfl) rfl (Yz rfl) rfl (Yn rfl rfl)) rfl ?_
        refine Va (Xa rfl) rfl ?_
        refine Ve ?_
        refine Vg ?_
        refine Vd ?_
        obtain ⟨x42, h43, hF⟩ := Ym hF
        refine Va (Xg rfl) rfl ?_
        refine Va (Vh rfl) rfl ?_
        refine Vk (Xd rfl Try.call16 (F_belts_Above_ok h43 _)) rfl ?_
        refine Va (rd_asV rfl) rfl ?_
        refine Ve ?_
        refine Vg ?_
        refine Vg ?_
        obtain ⟨o44, ho44, hF⟩ := Ym hF
        refine Vt (Q' := (fun o44 => OnlyE .normal (fun E' lw lc => Xv E' lw lc [(4, .vs 2 (Yv T_Belt.enc o11.2)), (6, .ptr (low.length + 1) 0 0 0), (9, .int .i64 x38.2), (10, .ptr (low.length + 0) 0 0 0), (12, .vs 1 (Yv (Yw .i64) x42)), (111, .bool o44)] low [⟨34, 5, [.agg [.int .i64 x40.1.Time, .vs 1 (Yv (Yw .i64) x40.1.States), .vs 1 (Yv (Yw .i64) x40.1.Since), .vs 1 (Yv Yx x40.1.Pulled), .vs 1 (Yv Yx x40.1.Held)]], 0⟩, ⟨34, 5, [.agg [.int .i64 j24.2.Time, .vs 1 (Yv (Yw .i64) j24.2.States), .vs 1 (Yv (Yw .i64) j24.2.Since), .vs 1 (Yv Yx j24.2.Pulled), .vs 1 (Yv Yx j24.2.Held)]], 0⟩])) o44) ?_ ?_
        ·replace hF := ho44
         refine Vd ?_
         rcases Zb (decide (x40.2 ≠ 0)) with c45 | c45
         ·have hF := Yg c45 hF
          refine Va (Vh rfl) rfl ?_
          refine Va (Ys rfl rfl) rfl ?_
          refine Va (Vj rfl) rfl ?_
          refine Vb rfl rfl (neT c45) rfl ?_
          refine Vb rfl rfl (neT c45) rfl ?_
          refine Vb rfl rfl (neT c45) rfl ?_
          refine Vb rfl rfl (neT c45) rfl ?_
          refine Vb rfl rfl (neT c45) rfl ?_
          refine Vb rfl rfl (neT c45) rfl ?_
          refine Va (Vm (congrArg Yx c45) rfl) rfl ?_
          refine Ve ?_
          obtain rfl := Yy hF
          refine Xq ?_
          exact Vu rfl [(2, 0), (1, 0)] (by decide) ⟨Vy rfl (.vs _ _), rn_ptr 1 1 rfl rfl, Vy rfl (.int _ _), rn_ptr 0 2 rfl rfl, Vy rfl (.vs _ _), Vy rfl (.bool _), trivial⟩ ⟨⟨_, rfl, rfl, .same _ _ _ _ (Xr ⟨Xz ⟨.int _ _, .vs _ _, .vs _ _, .vs _ _, .vs _ _, trivial⟩, trivial⟩)⟩, ⟨_, rfl, rfl, .same _ _ _ _ (Xr ⟨Xz ⟨.int _ _, .vs _ _, .vs _ _, .vs _ _, .vs _ _, trivial⟩, trivial⟩)⟩, trivial⟩
         ·have hF := Yh c45 hF
          refine Va (Vh rfl) rfl ?_
          refine Va (Ys rfl rfl) rfl ?_
          refine Va (Vj rfl) rfl ?_
          refine Vv rfl rfl c45 ?_
          refine Va (Vc rfl tf_34_1 ts_22 (by decide)) rfl ?_
          refine Vv rfl rfl c45 ?_
          refine Va (Vf rfl (Vi rfl rfl) rfl ta_22 rfl) rfl ?_
          refine Vv rfl rfl c45 ?_
          refine Va (Xb (Xf rfl rfl te_22) (congrArg (fun n : Nat => Yw .i64 (n : Int)) (Zc _))) rfl ?_
          refine Vv rfl rfl c45 ?_
          refine Va (Xg rfl) rfl ?_
          refine Vv rfl rfl c45 ?_
          refine Va (Xb (Xf rfl rfl te_27) (congrArg (fun n : Nat => Yw .i64 (n : Int)) (Zc _))) rfl ?_
          refine Vv rfl rfl c45 ?_
          refine Va (Ys rfl rfl) rfl ?_
          refine Va (Vl (congrArg Yx c45) rfl) rfl ?_
          refine Ve ?_
          obtain rfl := Yy hF
          refine Xq ?_
          exact Vu rfl [(2, 0), (1, 0)] (by decide) ⟨Vy rfl (.vs _ _), rn_ptr 1 1 rfl rfl, Vy rfl (.int _ _), rn_ptr 0 2 rfl rfl, Vy rfl (.vs _ _), Vy rfl (.bool _), trivial⟩ ⟨⟨_, rfl, rfl, .same _ _ _ _ (Xr ⟨Xz ⟨.int _ _, .vs _ _, .vs _ _, .vs _ _, .vs _ _, trivial⟩, trivial⟩)⟩, ⟨_, rfl, rfl, .same _ _ _ _ (Xr ⟨Xz ⟨.int _ _, .vs _ _, .vs _ _, .vs _ _, .vs _ _, trivial⟩, trivial⟩)⟩, trivial⟩
        ·rintro _ _ _ _ ⟨rfl, hw⟩
         refine ⟨_, _, _, hw, ?_⟩
         refine Xc rfl (fun c46 => ?_) (fun c46 => ?_)
         ·have hF := Yg c46 hF
          refine Vg ?_
          refine Vd ?_
          refine Va (Xj rfl) rfl ?_
          refine Ve ?_
          refine Vx ?_
          obtain rfl := Yy hF
          refine fnR ?_
          exact Vu rfl [] (by decide) ⟨Vy rfl (.bool _), trivial⟩ trivial
         ·have hF := Yh c46 hF
          refine Xh ?_
          refine Vg ?_
          refine Vg ?_
          refine Vd ?_
          refine Va (Xa rfl) rfl ?_
          refine Ve ?_
          refine Xt ?_
          obtain ⟨o48, ho48, hF⟩ := Ym hF
          refine Vt (vwp_loopC (F_law39_BeltsAll_L3 o11 j24 x38 x40 x42) (fun s47 E' lw lc => Xv E' lw lc [(4, .vs 2 (Yv T_Belt.enc o11.2)), (6, .ptr (low.length + 1) 0 0 0), (9, .int .i64 x38.2), (10, .ptr (low.length + 0) 0 0 0), (12, .vs 1 (Yv (Yw .i64) x42)), (13, .int .i64 s47)] low [⟨34, 5, [.agg [.int .i64 x40.1.Time, .vs 1 (Yv (Yw .i64) x40.1.States), .vs 1 (Yv (Yw .i64) x40.1.Since), .vs 1 (Yv Yx x40.1.Pulled), .vs 1 (Yv Yx x40.1.Held)]], 0⟩, ⟨34, 5, [.agg [.int .i64 j24.2.Time, .vs 1 (Yv (Yw .i64) j24.2.States), .vs 1 (Yv (Yw .i64) j24.2.Since), .vs 1 (Yv Yx j24.2.Pulled), .vs 1 (Yv Yx j24.2.Held)]], 0⟩]) (Sum.elim (fun j49 => OnlyE .ret (fun E' lw lc => Xv E' lw lc [(2, .bool false)] low [])) (fun j50 => OnlyE (.exit 4) (fun E' lw lc => Xv E' lw lc [] low []))) ho48 ?_ (by rintro (_|_) _ _ _ ⟨h, _⟩ <;> cases h) ?_) ?_
          ·exact Vn ⟨rfl, rfl, rfl, rfl, rfl, rfl, trivial⟩
          ·rintro s47 os47 _ _ _ hF hw
           unfold F_law39_BeltsAll_L3 at hF
           refine Xw hw ?_
           refine Vg ?_
           refine Vg ?_
           refine Vd ?_
           refine Va (Vh rfl) rfl ?_
           refine Va (Xg rfl) rfl ?_
           refine Va (Xb (Xf rfl rfl te_27) (congrArg (fun n : Nat => Yw .i64 (n : Int)) (Zc _))) rfl ?_
           refine Va (rd_lss rfl rfl) rfl ?_
           refine Ve ?_
           refine Xc rfl (fun c51 => ?_) (fun c51 => ?_)
           ·have hF := Yg c51 hF
            refine Xh ?_
            refine Vg ?_
            refine Xt ?_
            refine Vg ?_
            obtain ⟨o52, ho52, hF⟩ := Ym hF
            refine Vt (Q' := (fun o52 => OnlyE .normal (fun E' lw lc => Xv E' lw lc [(4, .vs 2 (Yv T_Belt.enc o11.2)), (6, .ptr (low.length + 1) 0 0 0), (9, .int .i64 x38.2), (10, .ptr (low.length + 0) 0 0 0), (12, .vs 1 (Yv (Yw .i64) x42)), (13, .int .i64 s47), (140, .bool o52)] low [⟨34, 5, [.agg [.int .i64 x40.1.Time, .vs 1 (Yv (Yw .i64) x40.1.States), .vs 1 (Yv (Yw .i64) x40.1.Since), .vs 1 (Yv Yx x40.1.Pulled), .vs 1 (Yv Yx x40.1.Held)]], 0⟩, ⟨34, 5, [.agg [.int .i64 j24.2.Time, .vs 1 (Yv (Yw .i64) j24.2.States), .vs 1 (Yv (Yw .i64) j24.2.Since), .vs 1 (Yv Yx j24.2.Pulled), .vs 1 (Yv Yx j24.2.Held)]], 0⟩])) o52) ?_ ?_
            ·replace hF := ho52
             obtain ⟨x53, h54, hF⟩ := Ym hF
             rcases Zb (decide (x53 ≠ 2)) with c55 | c55
             ·have hF := Yg c55 hF
              refine vwp_drawn0 [[], [0], [], [0, 1, 2], [0, 1, 2, 3], [0, 1, 2, 3, 4], [0, 1, 2, 3, 4, 5], [0, 1, 2, 3, 4, 5, 6], [0, 1, 2, 3, 4, 5, 6, 7], [0, 1, 2, 3, 4, 5, 6], [0, 1, 2, 3, 4, 5, 6, 7, 8, 9], [0, 1, 2, 3, 4, 5, 6, 7, 8, 9, 10], [0, 1, 2, 3, 4, 5, 6, 7, 8, 9, 10, 11], [0, 1, 2, 3, 4, 5, 6], [0, 1, 2, 3, 4, 5, 6], [0, 1, 2, 3, 4, 5, 6, 13, 14], [0, 1, 2, 3, 4, 5, 6, 13, 14, 15], [0, 1, 2, 3, 4, 5, 6, 13, 14, 15, 16], [0, 1, 2, 3, 4, 5, 6, 13, 14, 15, 16], [0, 1, 2, 3, 4, 5, 6, 13, 14, 15, 16, 17, 18], [0, 1, 2, 3, 4, 5, 6, 13, 14, 15, 16, 17, 18, 19], [0, 1, 2, 3, 4, 5, 6, 7, 8, 9, 10, 11, 12, 13, 14, 15, 16, 17, 18, 19, 20], [0, 1, 2, 3, 4, 5, 6, 7, 8, 9, 10, 11, 12, 13, 14, 15, 16, 17, 18, 19, 20, 21]] mixed (by kernel_rfl) rfl ?_
              refine Yq rfl rfl (Vc rfl tf_34_1 ts_22 (by decide)) ?_
              refine Yq rfl rfl (Vf rfl (Vi rfl rfl) rfl ta_22 rfl) ?_
              refine Yq rfl rfl (Vh rfl) ?_
              refine Yq rfl rfl (Xb (Yb rfl rfl h54 te_22 ts_3) (v' := .vptr [.int .i64 x53] 0) rfl) ?_
              refine Yq rfl rfl (Vz rfl ta_3 rfl) ?_
              refine Yq rfl rfl (Ys rfl rfl) ?_
              refine Yq rfl rfl (Vj rfl) ?_
              refine Yc rfl rfl rfl (neT c55) ?_
              refine Yc rfl rfl rfl (neT c55) ?_
              refine Yc rfl rfl rfl (neT c55) ?_
              refine Yc rfl rfl rfl (neT c55) ?_
              refine Yc rfl rfl rfl (neT c55) ?_
              refine Yc rfl rfl rfl (neT c55) ?_
              refine Yc rfl rfl rfl (neT c55) ?_
              refine Yc rfl rfl rfl (neT c55) ?_
              refine Yc rfl rfl rfl (neT c55) ?_
              refine Yc rfl rfl rfl (neT c55) ?_
              refine dops_skipX rfl rfl rfl ?_
              refine dops_skipX rfl rfl rfl ?_
              refine dops_skipX rfl rfl rfl ?_
              refine Yc rfl rfl rfl (neT c55) ?_
              refine Yc rfl rfl rfl (neT c55) ?_
              refine Yq rfl rfl (Vm (congrArg Yx c55) rfl) ?_
              refine dops_nil ?_
              obtain rfl := Yy hF
              refine Xq ?_
              exact Vn ⟨rfl, rfl, rfl, rfl, rfl, rfl, rfl, trivial⟩
             ·have hF := Yh c55 hF
              obtain ⟨x56, h57, hF⟩ := Ym hF
              rcases Zb (decide (s47 = x38.2)) with c58 | c58
              ·have hF := Yg c58 hF
               refine vwp_drawn0 [[], [0], [], [0, 1, 2], [0, 1, 2, 3], [0, 1, 2, 3, 4], [0, 1, 2, 3, 4, 5], [0, 1, 2, 3, 4, 5, 6], [0, 1, 2, 3, 4, 5, 6, 7], [0, 1, 2, 3, 4, 5, 6], [0, 1, 2, 3, 4, 5, 6, 7, 8, 9], [0, 1, 2, 3, 4, 5, 6, 7, 8, 9, 10], [0, 1, 2, 3, 4, 5, 6, 7, 8, 9, 10, 11], [0, 1, 2, 3, 4, 5, 6], [0, 1, 2, 3, 4, 5, 6], [0, 1, 2, 3, 4, 5, 6, 13, 14], [0, 1, 2, 3, 4, 5, 6, 13, 14, 15], [0, 1, 2, 3, 4, 5, 6, 13, 14, 15, 16], [0, 1, 2, 3, 4, 5, 6, 13, 14, 15, 16], [0, 1, 2, 3, 4, 5, 6, 13, 14, 15, 16, 17, 18], [0, 1, 2, 3, 4, 5, 6, 13, 14, 15, 16, 17, 18, 19], [0, 1, 2, 3, 4, 5, 6, 7, 8, 9, 10, 11, 12, 13, 14, 15, 16, 17, 18, 19, 20], [0, 1, 2, 3, 4, 5, 6, 7, 8, 9, 10, 11, 12, 13, 14, 15, 16, 17, 18, 19, 20, 21]] mixed (by kernel_rfl) rfl ?_
               refine Yq rfl rfl (Vc rfl tf_34_1 ts_22 (by decide)) ?_
               refine Yq rfl rfl (Vf rfl (Vi rfl rfl) rfl ta_22 rfl) ?_
               refine Yq rfl rfl (Vh rfl) ?_
               refine Yq rfl rfl (Xb (Yb rfl rfl h54 te_22 ts_3) (v' := .vptr [.int .i64 x53] 0) rfl) ?_
               refine Yq rfl rfl (Vz rfl ta_3 rfl) ?_
               refine Yq rfl rfl (Ys rfl rfl) ?_
               refine Yq rfl rfl (Vj rfl) ?_
               refine dt1 rfl rfl rfl rfl c55 (Vc rfl tf_34_1 ts_22 (by decide)) ?_
               refine dt1 rfl rfl rfl rfl c55 (Vf rfl (Vi rfl rfl) rfl ta_22 rfl) ?_
               refine dt1 rfl rfl rfl rfl c55 (Vh rfl) ?_
               refine dt1 rfl rfl rfl rfl c55 (Xb (Yb rfl rfl h57 te_22 ts_3) (v' := .vptr [.int .i64 x56] 0) rfl) ?_
               refine dt1 rfl rfl rfl rfl c55 (Vz rfl ta_3 rfl) ?_
               refine dt1 rfl rfl rfl rfl c55 (Vs rfl rfl) ?_
               refine dt1 rfl rfl rfl rfl c55 (Vh rfl) ?_
               refine dt1 rfl rfl rfl rfl c55 (Vh rfl) ?_
               refine dt1 rfl rfl rfl rfl c55 (Vs rfl rfl) ?_
               refine dt1 rfl rfl rfl rfl c55 (Vj rfl) ?_
               refine Yc rfl rfl rfl (neT c58) ?_
               refine Yc rfl rfl rfl (neT c58) ?_
               refine Yc rfl rfl rfl (neT c58) ?_
               refine dt1 rfl rfl rfl rfl c55 (Vm (congrArg Yx c58) rfl) ?_
               refine dt1 rfl rfl rfl rfl c55 (rd_eqlB rfl rfl tbo_4) ?_
               refine Yq rfl rfl (Vl (congrArg Yx c55) rfl) ?_
               refine dops_nil ?_
               obtain rfl := Yy hF
               refine Xq ?_
               exact Vn ⟨rfl, rfl, rfl, rfl, rfl, rfl, rfl, trivial⟩
              ·have hF := Yh c58 hF
               obtain ⟨x59, h60, hF⟩ := Ym hF
               refine vwp_drawn0 [[], [0], [], [0, 1, 2], [0, 1, 2, 3], [0, 1, 2, 3, 4], [0, 1, 2, 3, 4, 5], [0, 1, 2, 3, 4, 5, 6], [0, 1, 2, 3, 4, 5, 6, 7], [0, 1, 2, 3, 4, 5, 6], [0, 1, 2, 3, 4, 5, 6, 7, 8, 9], [0, 1, 2, 3, 4, 5, 6, 7, 8, 9, 10], [0, 1, 2, 3, 4, 5, 6, 7, 8, 9, 10, 11], [0, 1, 2, 3, 4, 5, 6], [0, 1, 2, 3, 4, 5, 6], [0, 1, 2, 3, 4, 5, 6, 13, 14], [0, 1, 2, 3, 4, 5, 6, 13, 14, 15], [0, 1, 2, 3, 4, 5, 6, 13, 14, 15, 16], [0, 1, 2, 3, 4, 5, 6, 13, 14, 15, 16], [0, 1, 2, 3, 4, 5, 6, 13, 14, 15, 16, 17, 18], [0, 1, 2, 3, 4, 5, 6, 13, 14, 15, 16, 17, 18, 19], [0, 1, 2, 3, 4, 5, 6, 7, 8, 9, 10, 11, 12, 13, 14, 15, 16, 17, 18, 19, 20], [0, 1, 2, 3, 4, 5, 6, 7, 8, 9, 10, 11, 12, 13, 14, 15, 16, 17, 18, 19, 20, 21]] mixed (by kernel_rfl) rfl ?_
               refine Yq rfl rfl (Vc rfl tf_34_1 ts_22 (by decide)) ?_
               refine Yq rfl rfl (Vf rfl (Vi rfl rfl) rfl ta_22 rfl) ?_
               refine Yq rfl rfl (Vh rfl) ?_
               refine Yq rfl rfl (Xb (Yb rfl rfl h54 te_22 ts_3) (v' := .vptr [.int .i64 x53] 0) rfl) ?_
               refine Yq rfl rfl (Vz rfl ta_3 rfl) ?_
               refine Yq rfl rfl (Ys rfl rfl) ?_
               refine Yq rfl rfl (Vj rfl) ?_
               refine dt1 rfl rfl rfl rfl c55 (Vc rfl tf_34_1 ts_22 (by decide)) ?_
               refine dt1 rfl rfl rfl rfl c55 (Vf rfl (Vi rfl rfl) rfl ta_22 rfl) ?_
               refine dt1 rfl rfl rfl rfl c55 (Vh rfl) ?_
               refine dt1 rfl rfl rfl rfl c55 (Xb (Yb rfl rfl h57 te_22 ts_3) (v' := .vptr [.int .i64 x56] 0) rfl) ?_
               refine dt1 rfl rfl rfl rfl c55 (Vz rfl ta_3 rfl) ?_
               refine dt1 rfl rfl rfl rfl c55 (Vs rfl rfl) ?_
               refine dt1 rfl rfl rfl rfl c55 (Vh rfl) ?_
               refine dt1 rfl rfl rfl rfl c55 (Vh rfl) ?_
               refine dt1 rfl rfl rfl rfl c55 (Vs rfl rfl) ?_
               refine dt1 rfl rfl rfl rfl c55 (Vj rfl) ?_
               refine dt1 rfl rfl rfl rfl c58 (Xg rfl) ?_
               refine dt1 rfl rfl rfl rfl c58 (Vh rfl) ?_
               refine dops_takeW _ rfl rfl rfl (congrArg Yx c58) (all1 (nt_of (Xd rfl Try.call17 (F_ref23_Has_ok h60 _))) all0) ?_
               refine dt1 rfl rfl rfl rfl c55 (Vl (congrArg Yx c58) rfl) ?_
               refine dt1 rfl rfl rfl rfl c55 (rd_eqlB rfl rfl tbo_4) ?_
               refine Yq rfl rfl (Vl (congrArg Yx c55) rfl) ?_
               refine dops_nil ?_
               obtain rfl := Yy hF
               refine Xq ?_
               exact Vn ⟨rfl, rfl, rfl, rfl, rfl, rfl, rfl, trivial⟩
            ·rintro _ _ _ _ ⟨rfl, hw⟩
             refine ⟨_, _, _, hw, ?_⟩
             refine Xc rfl (fun c61 => ?_) (fun c61 => ?_)
             ·have hF := Yg c61 hF
              refine Vg ?_
              refine Vd ?_
              refine Va (Xj rfl) rfl ?_
              refine Ve ?_
              refine Vx ?_
              obtain rfl := Yy hF
              refine Xq ?_
              exact Vu rfl [] (by decide) ⟨Vy rfl (.bool _), trivial⟩ trivial
             ·have hF := Yh c61 hF
              refine Xh ?_
              refine Vd ?_
              refine Va (Vh rfl) rfl ?_
              refine Va (rd_add rfl rfl rfl) rfl ?_
              refine Va (Xa rfl) rfl ?_
              refine Ve ?_
              obtain rfl := Yy hF
              refine Xq ?_
              exact Vn ⟨rfl, rfl, rfl, rfl, rfl, rfl, trivial⟩
           ·have hF := Yh c51 hF
            refine vwp_exit ?_
            obtain rfl := Yy hF
            refine Xq ?_
            exact Vu rfl [] (by decide) trivial trivial
          ·rcases o48 with j49 | j50
           ·replace hF := elimL hF
            rintro _ _ _ _ ⟨rfl, hw⟩
            refine ⟨_, _, _, hw, ?_⟩
            obtain rfl := Yy hF
            refine fnR ?_
            exact Vn ⟨rfl, trivial⟩
           ·replace hF := elimR hF
            rintro _ _ _ _ ⟨rfl, hw⟩
            refine ⟨_, _, _, hw, ?_⟩
            refine Vg ?_
            refine Vd ?_
            obtain ⟨x62, h63, hF⟩ := Ym hF
            refine Vk (Xd rfl Try.call8 (F_law39_awake_ok h63 _)) rfl ?_
            refine Va (Xj rfl) rfl ?_
            refine Ve ?_
            refine Vx ?_
            obtain rfl := Yy hF
            refine fnR ?_
            exact Vn ⟨rfl, trivial⟩
 ·rintro _ _ _ _ ⟨he, hw⟩
  refine ⟨_, _, _, hw, ?_⟩
  exact Ye he [.bool r] ⟨rfl, trivial⟩ (.bool _) ⟨rfl, rfl⟩

end Go.Proofs.Ytmomjhbinkmefaa
