/- Printed by wip/lift/lift.py: the walks that show that the program computes them. -/
import Derived.Test.YtmomjhbinkmefaaL39BeltsSafeW1
namespace Go.Proofs.Ytmomjhbinkmefaa
open Go Go.Aml Go.L
attribute [local irreducible] VRd VEf VOp VOps VWp DOps
set_option linter.unusedVariables false
open Go.Aml renaming vops_rd → Va, vops_skip → Vb, rd_fieldAddr → Vc, cv_same → Vd, rd_load1 → Ve, vwp_region → Vf, getO_N → Vg, vops_nil → Vh, vwp_seq → Vi, vops_efE → Vj, ltObj_map → Vk, rd_mvB → Vl, rd_mvI → Vm, lenS → Vn, rd_pickT → Vo, rd_pickF → Vp, weak_sub → Vq, vef_into → Vr, rn_low → Vs, weak_freezeN → Vt, dops_skip → Vu, dops_skipX → Vv, weak_pick → Vw, vwp_monoW → Vx, len_setL → Vy, vcalls_of_body → Vz, VRd → Xa, full_take → Xb, len_app → Xc, ltObj_es → Xd, rd_eql → Xe, vef_callN → Xf, rx1 → Xg, vt1 → Xh, vef_allocN → Xi, vwp_ret → Xj, rd_loadN → Xk, lt_agg → Xl, rd_loadV1 → Xm, dopx_rd → Xn, vef_store → Xo, rd_to → Xp, vwp_cond → Xq, rd_asI → Xr, cvo_agg → Xs, vef_callP → Xt, sets_own → Xu, Weak → Xv, rd_mvV → Xw, rd_lenV → Xx, vwp_skip → Xy, vwp_weak → Xz, ne_low' → Ya, getO_B → Yb, ne_own → Yc, rd_asB → Yd, onlyE → Ye, lt_map → Yf, allx1 → Yg, rd_extract → Yh, mv_sl → Yi, weak_room → Yj, VCalls → Yk, rn_ptr → Yl, setO_N → Ym, rd_ixV → Yn, dopx_ef → Yo, vwp_block → Yp, cv_sl → Yq, bifT → Yr, bifF → Ys, bnd → Yt, vef_callS → Yu, nt_ne → Yv, bodyQ_pure → Yw, vef_boxN → Yx, all1 → Yy, vef_mkN → Yz, sets_nil → Za, na1 → Zb, rd_nilPtr → Zc, get_N → Zd, dr1 → Ze, vcalls_low → Zf, rd_neq → Zg, dops_nil → Zh, rd_mvP → Zi, getI_some → Zj, dt1 → Zk, borC → Zl, dops_rdW → Zm, bor_start → Zn, rd_not → Zo, mv_ptr → Zp, sets_B → Zq, rn_sl → Zr, ex1 → Zs, rd_build → Zt, vwp_drawn0 → Zu, rd_fieldVaddr → Zv, lp_some → Zw, neT → Zx, lp_bindE → Zy, bodyQ_some → Zz
open List renaming map → Wa
open Go.Aml.PV renaming int → Wb
open Go.Aml.PV renaming bool → Wc
open Option.some renaming inj → Wd
open Nat renaming le_of_ble_eq_true → We
open Nat renaming succ_pos → Wf
open Bool renaming eq_false_or_eq_true → Wg
open List renaming length_map → Wh
set_option maxHeartbeats 4000000

theorem F_belts_stop_ok0 {p0 : List T_Belt} {p1 : T_Line} {p2 : Int} {r : T_Line} (hF : F_belts_stop p0 p1 p2 = some r) {low0 : List AObj} {q0 q1 q2 q3 q4 w0 w1 w2 w3 w4 : Nat} (hB : Bor low0 [q0, q1, q2, q3, q4]) {m1 : Nat} (hm1 : m1 = (p1.States).length) {m2 : Nat} (hm2 : m2 = (p1.Since).length) {m3 : Nat} (hm3 : m3 = (p1.Pulled).length) {m4 : Nat} (hm4 : m4 = (p1.Held).length) {n : Nat} (hn : low0.length = n) :
    Yk Try.prog 36 [.vs 2 (Wa T_Belt.enc p0), .ptr q0 w0 0 0, .int .i64 p2] (setL low0 [(q0, ⟨34, 5, [.agg [.int .i64 p1.Time, .sl q1 w1 0 m1, .sl q2 w2 0 m2, .sl q3 w3 0 m3, .sl q4 w4 0 m4]], w0⟩), (q1, ⟨3, 1, Wa (Wb .i64) p1.States, w1⟩), (q2, ⟨3, 1, Wa (Wb .i64) p1.Since, w2⟩), (q3, ⟨4, 1, Wa Wc p1.Pulled, w3⟩), (q4, ⟨4, 1, Wa Wc p1.Held, w4⟩)]) fun x low' => x = .tup [] ∧ low' = setL low0 [(q0, ⟨34, 5, [.agg [.int .i64 r.Time, .sl q1 w1 0 m1, .sl q2 w2 0 m2, .sl q3 w3 0 m3, .sl q4 w4 0 m4]], w0⟩), (q1, ⟨3, 1, Wa (Wb .i64) r.States, w1⟩), (q2, ⟨3, 1, Wa (Wb .i64) r.Since, w2⟩), (q3, ⟨4, 1, Wa Wc r.Pulled, w3⟩), (q4, ⟨4, 1, Wa Wc r.Held, w4⟩)] ++ [] := by
 refine Vz (nt := 48) (rs := []) Try.func36 rfl rfl (We rfl) rfl ?_
 have hq0 : q0 < n := hB.ltN hn 0 rfl
 have hq1 : q1 < n := hB.ltN hn 1 rfl
 have hq2 : q2 < n := hB.ltN hn 2 rfl
 have hq3 : q3 < n := hB.ltN hn 3 rfl
 have hq4 : q4 < n := hB.ltN hn 4 rfl
 refine Vx (Q' := FnE (fun E' lw lc => m1 = (r.States).length ∧ m2 = (r.Since).length ∧ m3 = (r.Pulled).length ∧ m4 = (r.Held).length ∧ Xv E' lw lc [] (setL low0 [(q0, ⟨34, 5, [.agg [.int .i64 r.Time, .sl q1 w1 0 m1, .sl q2 w2 0 m2, .sl q3 w3 0 m3, .sl q4 w4 0 m4]], w0⟩), (q1, ⟨3, 1, Wa (Wb .i64) r.States, w1⟩), (q2, ⟨3, 1, Wa (Wb .i64) r.Since, w2⟩), (q3, ⟨4, 1, Wa Wc r.Pulled, w3⟩), (q4, ⟨4, 1, Wa Wc r.Held, w4⟩)]) [])) ?_ ?_
 ·unfold F_belts_stop at hF
  refine Vi ?_
  refine Vf ?_
  refine Va (Xw rfl) rfl ?_
  refine Va (Xp (Xx rfl rfl te_27) (congrArg (fun n : Nat => Wb .i64 (n : Int)) (Wh _))) rfl ?_
  refine Va (Vm rfl) rfl ?_
  refine Vh ?_
  refine Yp ?_
  obtain ⟨o6, ho6, hF⟩ := Yt hF
  refine Vx (vwp_loopC (F_belts_stop_L1 p0 p1 p2) (fun s5 E' lw lc => m1 = (s5.2.1).length ∧ m2 = (s5.2.2).length ∧ Xv E' lw lc [(0, .vs 2 (Wa T_Belt.enc p0)), (1, .ptr q0 w0 0 0), (2, .int .i64 p2), (8, .int .i64 ((p0).length : Int)), (9, .int .i64 s5.1)] (setL low0 [(q0, ⟨34, 5, [.agg [.int .i64 p1.Time, .sl q1 w1 0 m1, .sl q2 w2 0 m2, .sl q3 w3 0 m3, .sl q4 w4 0 m4]], w0⟩), (q1, ⟨3, 1, Wa (Wb .i64) s5.2.1, w1⟩), (q2, ⟨3, 1, Wa (Wb .i64) s5.2.2, w2⟩), (q3, ⟨4, 1, Wa Wc p1.Pulled, w3⟩), (q4, ⟨4, 1, Wa Wc p1.Held, w4⟩)]) []) (fun o6 => OnlyE (.exit 0) (fun E' lw lc => m1 = (o6.1).length ∧ m2 = (o6.2).length ∧ Xv E' lw lc [] (setL low0 [(q0, ⟨34, 5, [.agg [.int .i64 p1.Time, .sl q1 w1 0 m1, .sl q2 w2 0 m2, .sl q3 w3 0 m3, .sl q4 w4 0 m4]], w0⟩), (q1, ⟨3, 1, Wa (Wb .i64) o6.1, w1⟩), (q2, ⟨3, 1, Wa (Wb .i64) o6.2, w2⟩), (q3, ⟨4, 1, Wa Wc p1.Pulled, w3⟩), (q4, ⟨4, 1, Wa Wc p1.Held, w4⟩)]) [])) ho6 ⟨hm1, hm2, ?_⟩ (by rintro _ _ _ _ ⟨h, _⟩ <;> cases h) ?_) ?_
  ·exact Vq ⟨rfl, rfl, rfl, rfl, rfl, trivial⟩
  ·rintro s5 os5 _ _ _ hF ⟨hls5_0, hls5_1, hw⟩
   unfold F_belts_stop_L1 at hF
   refine Xz hw ?_
   refine Vi ?_
   refine Vf ?_
   refine Va (rd_lss rfl rfl) rfl ?_
   refine Vh ?_
   refine Vi ?_
   refine Xq rfl (fun c7 => ?_) (fun c7 => ?_)
   ·have hF := Yr c7 hF
    refine Xy ?_
    refine Vi ?_
    obtain ⟨o8, ho8, hF⟩ := Yt hF
    refine Vx (Q' := (fun o8 => OnlyE .normal (fun E' lw lc => m1 = (o8.1).length ∧ m2 = (o8.2).length ∧ Xv E' lw lc [(0, .vs 2 (Wa T_Belt.enc p0)), (1, .ptr q0 w0 0 0), (2, .int .i64 p2), (8, .int .i64 ((p0).length : Int)), (9, .int .i64 s5.1)] (setL low0 [(q0, ⟨34, 5, [.agg [.int .i64 p1.Time, .sl q1 w1 0 m1, .sl q2 w2 0 m2, .sl q3 w3 0 m3, .sl q4 w4 0 m4]], w0⟩), (q1, ⟨3, 1, Wa (Wb .i64) o8.1, w1⟩), (q2, ⟨3, 1, Wa (Wb .i64) o8.2, w2⟩), (q3, ⟨4, 1, Wa Wc p1.Pulled, w3⟩), (q4, ⟨4, 1, Wa Wc p1.Held, w4⟩)]) [])) o8) ?_ ?_
    ·replace hF := ho8
     refine Yp ?_
     refine Vi ?_
     refine Vf ?_
     refine Va (Vm rfl) rfl ?_
     refine Va (Xr rfl) rfl ?_
     refine Vh ?_
     refine Vi ?_
     obtain ⟨o9, ho9, hF⟩ := Yt hF
     refine Vx (Q' := (fun o9 => OnlyE .normal (fun E' lw lc => Xv E' lw lc [(0, .vs 2 (Wa T_Belt.enc p0)), (1, .ptr q0 w0 0 0), (2, .int .i64 p2), (6, .int .i64 s5.1), (8, .int .i64 ((p0).length : Int)), (9, .int .i64 s5.1), (30, .bool o9)] (setL low0 [(q0, ⟨34, 5, [.agg [.int .i64 p1.Time, .sl q1 w1 0 m1, .sl q2 w2 0 m2, .sl q3 w3 0 m3, .sl q4 w4 0 m4]], w0⟩), (q1, ⟨3, 1, Wa (Wb .i64) s5.2.1, w1⟩), (q2, ⟨3, 1, Wa (Wb .i64) s5.2.2, w2⟩), (q3, ⟨4, 1, Wa Wc p1.Pulled, w3⟩), (q4, ⟨4, 1, Wa Wc p1.Held, w4⟩)]) [])) o9) ?_ ?_
     ·replace hF := ho9
      refine Vf ?_
      rcases Wg (decide (s5.1 = p2)) with c10 | c10
      ·have hF := Yr c10 hF
       obtain ⟨x11, h12, hF⟩ := Yt hF
       refine Va (Vm rfl) rfl ?_
       refine Va (Vm rfl) rfl ?_
       refine Va (Xe rfl rfl) rfl ?_
       refine Va (Vl rfl) rfl ?_
       refine Vb rfl rfl (Zx c10) rfl ?_
       refine Vb rfl rfl (Zx c10) rfl ?_
       refine Vb rfl rfl (Zx c10) rfl ?_
       refine Vb rfl rfl (Zx c10) rfl ?_
       refine Va (Vo (congrArg Wc c10) rfl) rfl ?_
       refine Va (Vl rfl) rfl ?_
       refine vops_take rfl rfl ?_
       refine Va (Zi rfl) rfl ?_
       refine vops_take rfl rfl ?_
       refine Va (Zc rfl) rfl ?_
       refine vops_take rfl rfl ?_
       refine Va (Vc rfl tf_34_1 ts_22 (by decide)) rfl ?_
       refine vops_take rfl rfl ?_
       refine Va (Ve rfl (Yb hB rfl 0 rfl) rfl ta_22 rfl) rfl ?_
       refine vops_take rfl rfl ?_
       refine Va (Vm rfl) rfl ?_
       refine vops_take rfl rfl ?_
       refine Va (rd_ixS rfl hls5_0 rfl (Yb hB rfl 1 rfl) h12 te_22 ts_3) rfl ?_
       refine vops_take rfl rfl ?_
       refine Va (rd_ldL1 rfl (Yb hB rfl 1 rfl) (Zj h12).2 ta_3 rfl) rfl ?_
       refine vops_take rfl rfl ?_
       refine Va (Zg rfl rfl) rfl ?_
       refine Va (Vo rfl rfl) rfl ?_
       refine Vh ?_
       obtain rfl := Wd hF
       refine Ye ?_
       exact Vq ⟨rfl, rfl, rfl, rfl, rfl, rfl, rfl, trivial⟩
      ·have hF := Ys c10 hF
       obtain ⟨x13, h14, hF⟩ := Yt hF
       rcases Wg x13 with c15 | c15
       ·have hF := Yr c15 hF
        obtain ⟨x16, h17, hF⟩ := Yt hF
        refine Va (Vm rfl) rfl ?_
        refine Va (Vm rfl) rfl ?_
        refine Va (Xe rfl rfl) rfl ?_
        refine Va (Vl rfl) rfl ?_
        refine Xh rfl rfl c10 ?_
        refine Va (Xw rfl) rfl ?_
        refine Xh rfl rfl c10 ?_
        refine Va (Vm rfl) rfl ?_
        refine Xh rfl rfl c10 ?_
        refine Va (Vm rfl) rfl ?_
        refine Xh rfl rfl c10 ?_
        refine Vj (Xt rfl Try.call39 (F_belts_throws_ok h14 _)) rfl ?_
        refine Va (Vp (congrArg Wc c10) rfl) rfl ?_
        refine Va (Vl rfl) rfl ?_
        refine Xh rfl rfl c15 ?_
        refine Va (Zi rfl) rfl ?_
        refine Xh rfl rfl c15 ?_
        refine Va (Zc rfl) rfl ?_
        refine Xh rfl rfl c15 ?_
        refine Va (Vc rfl tf_34_1 ts_22 (by decide)) rfl ?_
        refine Xh rfl rfl c15 ?_
        refine Va (Ve rfl (Yb hB rfl 0 rfl) rfl ta_22 rfl) rfl ?_
        refine Xh rfl rfl c15 ?_
        refine Va (Vm rfl) rfl ?_
        refine Xh rfl rfl c15 ?_
        refine Va (rd_ixS rfl hls5_0 rfl (Yb hB rfl 1 rfl) h17 te_22 ts_3) rfl ?_
        refine Xh rfl rfl c15 ?_
        refine Va (rd_ldL1 rfl (Yb hB rfl 1 rfl) (Zj h17).2 ta_3 rfl) rfl ?_
        refine Xh rfl rfl c15 ?_
        refine Va (Zg rfl rfl) rfl ?_
        refine Va (Vo (congrArg Wc c15) rfl) rfl ?_
        refine Vh ?_
        obtain rfl := Wd hF
        refine Ye ?_
        exact Vq ⟨rfl, rfl, rfl, rfl, rfl, rfl, rfl, trivial⟩
       ·have hF := Ys c15 hF
        refine Va (Vm rfl) rfl ?_
        refine Va (Vm rfl) rfl ?_
        refine Va (Xe rfl rfl) rfl ?_
        refine Va (Vl rfl) rfl ?_
        refine Xh rfl rfl c10 ?_
        refine Va (Xw rfl) rfl ?_
        refine Xh rfl rfl c10 ?_
        refine Va (Vm rfl) rfl ?_
        refine Xh rfl rfl c10 ?_
        refine Va (Vm rfl) rfl ?_
        refine Xh rfl rfl c10 ?_
        refine Vj (Xt rfl Try.call39 (F_belts_throws_ok h14 _)) rfl ?_
        refine Va (Vp (congrArg Wc c10) rfl) rfl ?_
        refine Va (Vl rfl) rfl ?_
        refine Vb rfl rfl (neF c15) rfl ?_
        refine Vb rfl rfl (neF c15) rfl ?_
        refine Vb rfl rfl (neF c15) rfl ?_
        refine Vb rfl rfl (neF c15) rfl ?_
        refine Vb rfl rfl (neF c15) rfl ?_
        refine Vb rfl rfl (neF c15) rfl ?_
        refine Vb rfl rfl (neF c15) rfl ?_
        refine Vb rfl rfl (neF c15) rfl ?_
        refine Va (Vp (congrArg Wc c15) rfl) rfl ?_
        refine Vh ?_
        obtain rfl := Wd hF
        refine Ye ?_
        exact Vq ⟨rfl, rfl, rfl, rfl, rfl, rfl, rfl, trivial⟩
     ·rintro _ _ _ _ ⟨rfl, hw⟩
      refine ⟨_, _, _, hw, ?_⟩
      refine Xq rfl (fun c18 => ?_) (fun c18 => ?_)
      ·have hF := Yr c18 hF
       obtain ⟨x19, h20, hF⟩ := Yt hF
       obtain ⟨x21, h22, hF⟩ := Yt hF
       refine vwp_drawn [[], [0], [0, 1], [0, 1, 2], [], [], [5], [5, 6], [5, 6, 7], [], [], [10], [10, 11], [10, 11, 12], [0, 1, 2, 3, 4, 5, 6, 7, 8, 10, 11, 12, 13], [0, 1, 2, 3, 4, 5, 6, 7, 8, 10, 11, 12, 13, 14], [0, 1, 2, 3, 4, 5, 6, 7, 8, 9, 10, 11, 12, 13, 14, 15], [0, 1, 2, 3, 4, 5, 6, 7, 8, 9, 10, 11, 12, 13, 14, 15, 16]] [false, false, false, false, false, false, false, false, false, false, false, false, false, false, false, true, false, true] [((setL low0 [(q0, ⟨34, 5, [.agg [.int .i64 p1.Time, .sl q1 w1 0 m1, .sl q2 w2 0 m2, .sl q3 w3 0 m3, .sl q4 w4 0 m4]], w0⟩), (q1, ⟨3, 1, Wa (Wb .i64) s5.2.1, w1⟩), (q2, ⟨3, 1, Wa (Wb .i64) s5.2.2, w2⟩), (q3, ⟨4, 1, Wa Wc p1.Pulled, w3⟩), (q4, ⟨4, 1, Wa Wc p1.Held, w4⟩)]), []), ((setL low0 [(q0, ⟨34, 5, [.agg [.int .i64 p1.Time, .sl q1 w1 0 m1, .sl q2 w2 0 m2, .sl q3 w3 0 m3, .sl q4 w4 0 m4]], w0⟩), (q1, ⟨3, 1, Wa (Wb .i64) (s5.2.1.set ((s5.1).toNat) 0), w1⟩), (q2, ⟨3, 1, Wa (Wb .i64) s5.2.2, w2⟩), (q3, ⟨4, 1, Wa Wc p1.Pulled, w3⟩), (q4, ⟨4, 1, Wa Wc p1.Held, w4⟩)]), []), ((setL low0 [(q0, ⟨34, 5, [.agg [.int .i64 p1.Time, .sl q1 w1 0 m1, .sl q2 w2 0 m2, .sl q3 w3 0 m3, .sl q4 w4 0 m4]], w0⟩), (q1, ⟨3, 1, Wa (Wb .i64) (s5.2.1.set ((s5.1).toNat) 0), w1⟩), (q2, ⟨3, 1, Wa (Wb .i64) (s5.2.2.set ((s5.1).toNat) p1.Time), w2⟩), (q3, ⟨4, 1, Wa Wc p1.Pulled, w3⟩), (q4, ⟨4, 1, Wa Wc p1.Held, w4⟩)]), [])] mixed (by kernel_rfl) rfl (lenAll (Yy Vy (Yy Vy (Yy Vy all0)))) rfl _ rfl rfl ?_
       refine Ze rfl rfl (Zi rfl) ?_
       refine Ze rfl rfl (Zc rfl) ?_
       refine Ze rfl rfl (Vc rfl tf_34_1 ts_22 (by decide)) ?_
       refine Ze rfl rfl (Ve rfl (Yb hB rfl 0 rfl) rfl ta_22 rfl) ?_
       refine Ze rfl rfl (Vm rfl) ?_
       refine Ze rfl rfl (Zi rfl) ?_
       refine Ze rfl rfl (Zc rfl) ?_
       refine Ze rfl rfl (Vc rfl tf_34_2 ts_22 (by decide)) ?_
       refine Ze rfl rfl (Ve rfl (Yb hB rfl 0 rfl) rfl ta_22 rfl) ?_
       refine Zm _ rfl rfl (Yy (VRd.ntl (Vm rfl)) (Yy (VRd.ntl (Vm rfl)) all0)) ?_
       refine Ze rfl rfl (Zi rfl) ?_
       refine Ze rfl rfl (Zc rfl) ?_
       refine Ze rfl rfl (Vc rfl tf_34_0 ts_3 (by decide)) ?_
       refine Ze rfl rfl (Ve rfl (Yb hB rfl 0 rfl) rfl ta_3 rfl) ?_
       refine Ze rfl rfl (rd_ixS rfl hls5_0 rfl (Yb hB rfl 1 rfl) h20 te_22 ts_3) ?_
       refine dops_ef rfl rfl rfl (vef_stL (p := .int .i64 0) (e' := 0) rfl (Yb hB rfl 1 rfl) (Zj h20).2 rfl ts_3 rfl (Yv rfl) (We rfl) rfl (setO_B hB rfl 1 rfl (Vk (fun _ => .int _ _)) rfl)) ?_
       refine Ze rfl rfl (rd_ixS rfl hls5_1 rfl (Yb hB rfl 2 rfl) h22 te_22 ts_3) ?_
       refine dops_ef rfl rfl rfl (vef_stL (p := .int .i64 p1.Time) (e' := p1.Time) rfl (Yb hB rfl 2 rfl) (Zj h22).2 rfl ts_3 rfl (Yv rfl) (We rfl) rfl (setO_B hB rfl 2 rfl (Vk (fun _ => .int _ _)) rfl)) ?_
       refine Zh ?_
       obtain rfl := Wd hF
       refine And.intro rfl (And.intro (Eq.trans hls5_0 List.length_set.symm) (And.intro (Eq.trans hls5_1 List.length_set.symm) ?_))
       exact Vq ⟨rfl, rfl, rfl, rfl, rfl, trivial⟩
      ·have hF := Ys c18 hF
       refine Xy ?_
       obtain rfl := Wd hF
       refine And.intro rfl (And.intro hls5_0 (And.intro hls5_1 ?_))
       exact Vq ⟨rfl, rfl, rfl, rfl, rfl, trivial⟩
    ·rintro _ _ _ _ ⟨rfl, hl23, hl24, hw⟩
     refine ⟨_, _, _, hw, ?_⟩
     refine Vf ?_
     refine Va (rd_add rfl rfl rfl) rfl ?_
     refine Va (Vm rfl) rfl ?_
     refine Vh ?_
     obtain rfl := Wd hF
     refine And.intro rfl (And.intro hl23 (And.intro hl24 ?_))
     exact Vq ⟨rfl, rfl, rfl, rfl, rfl, trivial⟩
   ·have hF := Ys c7 hF
    refine vwp_exit ?_
    obtain rfl := Wd hF
    refine And.intro rfl (And.intro hls5_0 (And.intro hls5_1 ?_))
    exact Vq trivial
  ·rintro _ _ _ _ ⟨rfl, hl25, hl26, hw⟩
   refine ⟨_, _, _, hw, ?_⟩
   obtain rfl := Wd hF
   refine And.intro (.inl rfl) (And.intro hl25 (And.intro hl26 (And.intro hm3 (And.intro hm4 ?_))))
   exact Vq trivial
 ·rintro _ _ _ _ ⟨he, hl1, hl2, hl3, hl4, hw⟩
  refine ⟨_, _, _, hw, ?_⟩
  exact Yw he [] trivial ((lt_tup trivial)) ⟨rfl, (List.append_nil _).symm⟩

theorem F_belts_stop_len {p0 : List T_Belt} {p1 : T_Line} {p2 : Int} {r : T_Line} (hF : F_belts_stop p0 p1 p2 = some r) {m1 : Nat} (hm1 : m1 = (p1.States).length) {m2 : Nat} (hm2 : m2 = (p1.Since).length) {m3 : Nat} (hm3 : m3 = (p1.Pulled).length) {m4 : Nat} (hm4 : m4 = (p1.Held).length) : m1 = (r.States).length ∧ m2 = (r.Since).length ∧ m3 = (r.Pulled).length ∧ m4 = (r.Held).length ∧ True := by
  have h : LP (F_belts_stop p0 p1 p2) (fun r => m1 = (r.States).length ∧ m2 = (r.Since).length ∧ m3 = (r.Pulled).length ∧ m4 = (r.Held).length ∧ True) := by
    unfold F_belts_stop
    exact (lp_bind (Q := fun o6 => m1 = (o6.1).length ∧ m2 = (o6.2).length ∧ True) (lp_loop (fun s5 => m1 = (s5.2.1).length ∧ m2 = (s5.2.2).length ∧ True) ⟨hm1, hm2, trivial⟩ (fun s5 ⟨hls5_0, hls5_1, _⟩ => by unfold F_belts_stop_L1; exact (lp_bif (fun c7 => lp_bind (Q := fun o8 => m1 = (o8.1).length ∧ m2 = (o8.2).length ∧ True) (lp_bind (Q := fun o9 => True) (lp_bif (fun c10 => Zy fun x11 h12 => Zw trivial) (fun c10 => Zy fun x13 h14 => lp_bif (fun c15 => Zy fun x16 h17 => Zw trivial) (fun c15 => Zw trivial))) (fun o9 _ => lp_bif (fun c18 => Zy fun x19 h20 => Zy fun x21 h22 => Zw ⟨(Eq.trans hls5_0 List.length_set.symm), (Eq.trans hls5_1 List.length_set.symm), trivial⟩) (fun c18 => Zw ⟨hls5_0, hls5_1, trivial⟩))) (fun o8 ⟨hl23, hl24, _⟩ => Zw ⟨hl23, hl24, trivial⟩)) (fun c7 => Zw ⟨hls5_0, hls5_1, trivial⟩)))) (fun o6 ⟨hl25, hl26, _⟩ => Zw ⟨hl25, hl26, hm3, hm4, trivial⟩))
  exact h r hF

theorem F_belts_stop_ok {p0 : List T_Belt} {p1 : T_Line} {p2 : Int} {r : T_Line} (hF : F_belts_stop p0 p1 p2 = some r) {low : List AObj} {q0 q1 q2 q3 q4 w0 w1 w2 w3 w4 : Nat} (hnd : [q0, q1, q2, q3, q4].Nodup) {m1 : Nat} (hm1 : m1 = (p1.States).length) {m2 : Nat} (hm2 : m2 = (p1.Since).length) {m3 : Nat} (hm3 : m3 = (p1.Pulled).length) {m4 : Nat} (hm4 : m4 = (p1.Held).length) (hq0 : low[q0]? = some ⟨34, 5, [.agg [.int .i64 p1.Time, .sl q1 w1 0 m1, .sl q2 w2 0 m2, .sl q3 w3 0 m3, .sl q4 w4 0 m4]], w0⟩) (hq1 : low[q1]? = some ⟨3, 1, Wa (Wb .i64) p1.States, w1⟩) (hq2 : low[q2]? = some ⟨3, 1, Wa (Wb .i64) p1.Since, w2⟩) (hq3 : low[q3]? = some ⟨4, 1, Wa Wc p1.Pulled, w3⟩) (hq4 : low[q4]? = some ⟨4, 1, Wa Wc p1.Held, w4⟩) {n : Nat} (hn : low.length = n) :
    Yk Try.prog 36 [.vs 2 (Wa T_Belt.enc p0), .ptr q0 w0 0 0, .int .i64 p2] low fun x low' => x = .tup [] ∧ low' = setL low [(q0, ⟨34, 5, [.agg [.int .i64 r.Time, .sl q1 w1 0 m1, .sl q2 w2 0 m2, .sl q3 w3 0 m3, .sl q4 w4 0 m4]], w0⟩), (q1, ⟨3, 1, Wa (Wb .i64) r.States, w1⟩), (q2, ⟨3, 1, Wa (Wb .i64) r.Since, w2⟩), (q3, ⟨4, 1, Wa Wc r.Pulled, w3⟩), (q4, ⟨4, 1, Wa Wc r.Held, w4⟩)] ++ [] := by
  obtain ⟨h1, h2⟩ := Zn (ps := [(q0, ⟨34, 5, [.agg [.int .i64 p1.Time, .sl q1 w1 0 m1, .sl q2 w2 0 m2, .sl q3 w3 0 m3, .sl q4 w4 0 m4]], w0⟩), (q1, ⟨3, 1, Wa (Wb .i64) p1.States, w1⟩), (q2, ⟨3, 1, Wa (Wb .i64) p1.Since, w2⟩), (q3, ⟨4, 1, Wa Wc p1.Pulled, w3⟩), (q4, ⟨4, 1, Wa Wc p1.Held, w4⟩)]) hnd (Zl hq0 (Zl hq1 (Zl hq2 (Zl hq3 (Zl hq4 bor0)))))
  exact Zf h1 (F_belts_stop_ok0 hF h2 hm1 hm2 hm3 hm4 hn)

theorem F_belts_Pull_1_ok0 {p0 : T_Line} {p1 : List T_Belt} {p2 : Int} {r : T_Line} (hF : F_belts_Pull_1 p0 p1 p2 = some r) {low0 : List AObj} {q0 q1 q2 q3 q4 q5 q6 w0 w1 w2 w3 w4 w5 w6 : Nat} (hB : Bor low0 [q0, q1, q2, q3, q4, q5, q6]) {m1 : Nat} (hm1 : m1 = (p0.States).length) {m2 : Nat} (hm2 : m2 = (p0.Since).length) {m3 : Nat} (hm3 : m3 = (p0.Pulled).length) {m4 : Nat} (hm4 : m4 = (p0.Held).length) {n : Nat} (hn : low0.length = n) :
    Yk Try.prog 35 [.ptr q0 w0 0 0, .ptr q5 w5 0 0, .ptr q6 w6 0 0] (setL low0 [(q0, ⟨34, 5, [.agg [.int .i64 p0.Time, .sl q1 w1 0 m1, .sl q2 w2 0 m2, .sl q3 w3 0 m3, .sl q4 w4 0 m4]], w0⟩), (q1, ⟨3, 1, Wa (Wb .i64) p0.States, w1⟩), (q2, ⟨3, 1, Wa (Wb .i64) p0.Since, w2⟩), (q3, ⟨4, 1, Wa Wc p0.Pulled, w3⟩), (q4, ⟨4, 1, Wa Wc p0.Held, w4⟩), (q5, ⟨27, 1, [.vs 2 (Wa T_Belt.enc p1)], w5⟩), (q6, ⟨3, 1, [.int .i64 p2], w6⟩)]) fun x low' => x = .tup [] ∧ low' = setL low0 [(q0, ⟨34, 5, [.agg [.int .i64 r.Time, .sl q1 w1 0 m1, .sl q2 w2 0 m2, .sl q3 w3 0 m3, .sl q4 w4 0 m4]], w0⟩), (q1, ⟨3, 1, Wa (Wb .i64) r.States, w1⟩), (q2, ⟨3, 1, Wa (Wb .i64) r.Since, w2⟩), (q3, ⟨4, 1, Wa Wc r.Pulled, w3⟩), (q4, ⟨4, 1, Wa Wc r.Held, w4⟩), (q5, ⟨27, 1, [.vs 2 (Wa T_Belt.enc p1)], w5⟩), (q6, ⟨3, 1, [.int .i64 p2], w6⟩)] ++ [] := by
 refine Vz (nt := 14) (rs := []) Try.func35 rfl rfl (We rfl) rfl ?_
 have hq0 : q0 < n := hB.ltN hn 0 rfl
 have hq1 : q1 < n := hB.ltN hn 1 rfl
 have hq2 : q2 < n := hB.ltN hn 2 rfl
 have hq3 : q3 < n := hB.ltN hn 3 rfl
 have hq4 : q4 < n := hB.ltN hn 4 rfl
 have hq5 : q5 < n := hB.ltN hn 5 rfl
 have hq6 : q6 < n := hB.ltN hn 6 rfl
 refine Vx (Q' := FnE (fun E' lw lc => m1 = (r.States).length ∧ m2 = (r.Since).length ∧ m3 = (r.Pulled).length ∧ m4 = (r.Held).length ∧ Xv E' lw lc [] (setL low0 [(q0, ⟨34, 5, [.agg [.int .i64 r.Time, .sl q1 w1 0 m1, .sl q2 w2 0 m2, .sl q3 w3 0 m3, .sl q4 w4 0 m4]], w0⟩), (q1, ⟨3, 1, Wa (Wb .i64) r.States, w1⟩), (q2, ⟨3, 1, Wa (Wb .i64) r.Since, w2⟩), (q3, ⟨4, 1, Wa Wc r.Pulled, w3⟩), (q4, ⟨4, 1, Wa Wc r.Held, w4⟩), (q5, ⟨27, 1, [.vs 2 (Wa T_Belt.enc p1)], w5⟩), (q6, ⟨3, 1, [.int .i64 p2], w6⟩)]) [])) ?_ ?_
 ·unfold F_belts_Pull_1 at hF
  refine Vi ?_
  refine Vf ?_
  obtain ⟨x5, h6, hF⟩ := Yt hF
  refine Va (Ve rfl (Yb hB rfl 5 rfl) rfl ta_27 rfl) rfl ?_
  refine Va (Zi rfl) rfl ?_
  refine Va (Ve rfl (Yb hB rfl 6 rfl) rfl ta_3 rfl) rfl ?_
  refine Vj (Yu (ps := [(q0, ⟨34, 5, [.agg [.int .i64 x5.Time, .sl q1 w1 0 m1, .sl q2 w2 0 m2, .sl q3 w3 0 m3, .sl q4 w4 0 m4]], w0⟩), (q1, ⟨3, 1, Wa (Wb .i64) x5.States, w1⟩), (q2, ⟨3, 1, Wa (Wb .i64) x5.Since, w2⟩), (q3, ⟨4, 1, Wa Wc x5.Pulled, w3⟩), (q4, ⟨4, 1, Wa Wc x5.Held, w4⟩)]) (r := .tup []) (os := []) (low1 := (setL low0 [(q0, ⟨34, 5, [.agg [.int .i64 x5.Time, .sl q1 w1 0 m1, .sl q2 w2 0 m2, .sl q3 w3 0 m3, .sl q4 w4 0 m4]], w0⟩), (q1, ⟨3, 1, Wa (Wb .i64) x5.States, w1⟩), (q2, ⟨3, 1, Wa (Wb .i64) x5.Since, w2⟩), (q3, ⟨4, 1, Wa Wc x5.Pulled, w3⟩), (q4, ⟨4, 1, Wa Wc x5.Held, w4⟩), (q5, ⟨27, 1, [.vs 2 (Wa T_Belt.enc p1)], w5⟩), (q6, ⟨3, 1, [.int .i64 p2], w6⟩)])) (loc1 := []) (loc2 := []) rfl Try.call36 (F_belts_stop_ok h6 (nd1 (Zb (hB.ne 0 1 rfl rfl rfl) (Zb (hB.ne 0 2 rfl rfl rfl) (Zb (hB.ne 0 3 rfl rfl rfl) (Zb (hB.ne 0 4 rfl rfl rfl) na0)))) (nd1 (Zb (hB.ne 1 2 rfl rfl rfl) (Zb (hB.ne 1 3 rfl rfl rfl) (Zb (hB.ne 1 4 rfl rfl rfl) na0))) (nd1 (Zb (hB.ne 2 3 rfl rfl rfl) (Zb (hB.ne 2 4 rfl rfl rfl) na0)) (nd1 (Zb (hB.ne 3 4 rfl rfl rfl) na0) (nd1 na0 nd0))))) hm1 hm2 hm3 hm4 (get_B hB rfl 0 rfl) (get_B hB rfl 1 rfl) (get_B hB rfl 2 rfl) (get_B hB rfl 3 rfl) (get_B hB rfl 4 rfl) (Xc (Vn hn) rfl)) (Zq (ps0' := [(q0, ⟨34, 5, [.agg [.int .i64 x5.Time, .sl q1 w1 0 m1, .sl q2 w2 0 m2, .sl q3 w3 0 m3, .sl q4 w4 0 m4]], w0⟩), (q1, ⟨3, 1, Wa (Wb .i64) p0.States, w1⟩), (q2, ⟨3, 1, Wa (Wb .i64) p0.Since, w2⟩), (q3, ⟨4, 1, Wa Wc p0.Pulled, w3⟩), (q4, ⟨4, 1, Wa Wc p0.Held, w4⟩), (q5, ⟨27, 1, [.vs 2 (Wa T_Belt.enc p1)], w5⟩), (q6, ⟨3, 1, [.int .i64 p2], w6⟩)]) hB rfl 0 rfl (ltObjN hn ⟨Xl ⟨.int _ _, .sl _ _ _ _ hq1, .sl _ _ _ _ hq2, .sl _ _ _ _ hq3, .sl _ _ _ _ hq4, trivial⟩, trivial⟩) rfl (Zq (ps0' := [(q0, ⟨34, 5, [.agg [.int .i64 x5.Time, .sl q1 w1 0 m1, .sl q2 w2 0 m2, .sl q3 w3 0 m3, .sl q4 w4 0 m4]], w0⟩), (q1, ⟨3, 1, Wa (Wb .i64) x5.States, w1⟩), (q2, ⟨3, 1, Wa (Wb .i64) p0.Since, w2⟩), (q3, ⟨4, 1, Wa Wc p0.Pulled, w3⟩), (q4, ⟨4, 1, Wa Wc p0.Held, w4⟩), (q5, ⟨27, 1, [.vs 2 (Wa T_Belt.enc p1)], w5⟩), (q6, ⟨3, 1, [.int .i64 p2], w6⟩)]) hB rfl 1 rfl (Vk (fun _ => .int _ _)) rfl (Zq (ps0' := [(q0, ⟨34, 5, [.agg [.int .i64 x5.Time, .sl q1 w1 0 m1, .sl q2 w2 0 m2, .sl q3 w3 0 m3, .sl q4 w4 0 m4]], w0⟩), (q1, ⟨3, 1, Wa (Wb .i64) x5.States, w1⟩), (q2, ⟨3, 1, Wa (Wb .i64) x5.Since, w2⟩), (q3, ⟨4, 1, Wa Wc p0.Pulled, w3⟩), (q4, ⟨4, 1, Wa Wc p0.Held, w4⟩), (q5, ⟨27, 1, [.vs 2 (Wa T_Belt.enc p1)], w5⟩), (q6, ⟨3, 1, [.int .i64 p2], w6⟩)]) hB rfl 2 rfl (Vk (fun _ => .int _ _)) rfl (Zq (ps0' := [(q0, ⟨34, 5, [.agg [.int .i64 x5.Time, .sl q1 w1 0 m1, .sl q2 w2 0 m2, .sl q3 w3 0 m3, .sl q4 w4 0 m4]], w0⟩), (q1, ⟨3, 1, Wa (Wb .i64) x5.States, w1⟩), (q2, ⟨3, 1, Wa (Wb .i64) x5.Since, w2⟩), (q3, ⟨4, 1, Wa Wc x5.Pulled, w3⟩), (q4, ⟨4, 1, Wa Wc p0.Held, w4⟩), (q5, ⟨27, 1, [.vs 2 (Wa T_Belt.enc p1)], w5⟩), (q6, ⟨3, 1, [.int .i64 p2], w6⟩)]) hB rfl 3 rfl (Vk (fun _ => .bool _)) rfl (Zq (ps0' := [(q0, ⟨34, 5, [.agg [.int .i64 x5.Time, .sl q1 w1 0 m1, .sl q2 w2 0 m2, .sl q3 w3 0 m3, .sl q4 w4 0 m4]], w0⟩), (q1, ⟨3, 1, Wa (Wb .i64) x5.States, w1⟩), (q2, ⟨3, 1, Wa (Wb .i64) x5.Since, w2⟩), (q3, ⟨4, 1, Wa Wc x5.Pulled, w3⟩), (q4, ⟨4, 1, Wa Wc x5.Held, w4⟩), (q5, ⟨27, 1, [.vs 2 (Wa T_Belt.enc p1)], w5⟩), (q6, ⟨3, 1, [.int .i64 p2], w6⟩)]) hB rfl 4 rfl (Vk (fun _ => .bool _)) rfl Za))))) rfl) rfl ?_
  refine Vh ?_
  obtain ⟨x7, h8, hF⟩ := Yt hF
  refine vwp_drawn [[], [0], [0, 1], [0, 1, 2], [], [0, 1, 2, 3, 4], [0, 1, 2, 3, 4, 5]] [false, false, false, false, false, false, true] [((setL low0 [(q0, ⟨34, 5, [.agg [.int .i64 x5.Time, .sl q1 w1 0 m1, .sl q2 w2 0 m2, .sl q3 w3 0 m3, .sl q4 w4 0 m4]], w0⟩), (q1, ⟨3, 1, Wa (Wb .i64) x5.States, w1⟩), (q2, ⟨3, 1, Wa (Wb .i64) x5.Since, w2⟩), (q3, ⟨4, 1, Wa Wc x5.Pulled, w3⟩), (q4, ⟨4, 1, Wa Wc x5.Held, w4⟩), (q5, ⟨27, 1, [.vs 2 (Wa T_Belt.enc p1)], w5⟩), (q6, ⟨3, 1, [.int .i64 p2], w6⟩)]), []), ((setL low0 [(q0, ⟨34, 5, [.agg [.int .i64 x5.Time, .sl q1 w1 0 m1, .sl q2 w2 0 m2, .sl q3 w3 0 m3, .sl q4 w4 0 m4]], w0⟩), (q1, ⟨3, 1, Wa (Wb .i64) x5.States, w1⟩), (q2, ⟨3, 1, Wa (Wb .i64) x5.Since, w2⟩), (q3, ⟨4, 1, Wa Wc (x5.Pulled.set ((p2).toNat) true), w3⟩), (q4, ⟨4, 1, Wa Wc x5.Held, w4⟩), (q5, ⟨27, 1, [.vs 2 (Wa T_Belt.enc p1)], w5⟩), (q6, ⟨3, 1, [.int .i64 p2], w6⟩)]), [])] mixed (by kernel_rfl) rfl (lenAll (Yy Vy (Yy Vy all0))) rfl _ rfl rfl ?_
  refine Ze rfl rfl (Zi rfl) ?_
  refine Ze rfl rfl (Zc rfl) ?_
  refine Ze rfl rfl (Vc rfl tf_34_3 ts_32 (by decide)) ?_
  refine Ze rfl rfl (Ve rfl (Yb hB rfl 0 rfl) rfl ta_32 rfl) ?_
  refine Ze rfl rfl (Ve rfl (Yb hB rfl 6 rfl) rfl ta_3 rfl) ?_
  refine Ze rfl rfl (rd_ixS rfl (F_belts_stop_len h6 hm1 hm2 hm3 hm4).2.2.1 rfl (Yb hB rfl 3 rfl) h8 te_32 ts_4) ?_
  refine dops_ef rfl rfl rfl (vef_stL (p := .bool true) (e' := true) rfl (Yb hB rfl 3 rfl) (Zj h8).2 rfl ts_4 rfl (Yv rfl) (We rfl) rfl (setO_B hB rfl 3 rfl (Vk (fun _ => .bool _)) rfl)) ?_
  refine Zh ?_
  obtain rfl := Wd hF
  refine And.intro (.inl rfl) (And.intro (F_belts_stop_len h6 hm1 hm2 hm3 hm4).1 (And.intro (F_belts_stop_len h6 hm1 hm2 hm3 hm4).2.1 (And.intro (Eq.trans (F_belts_stop_len h6 hm1 hm2 hm3 hm4).2.2.1 List.length_set.symm) (And.intro (F_belts_stop_len h6 hm1 hm2 hm3 hm4).2.2.2.1 ?_))))
  exact Vq trivial
 ·rintro _ _ _ _ ⟨he, hl1, hl2, hl3, hl4, hw⟩
  refine ⟨_, _, _, hw, ?_⟩
  exact Yw he [] trivial ((lt_tup trivial)) ⟨rfl, (List.append_nil _).symm⟩

theorem F_belts_Pull_1_len {p0 : T_Line} {p1 : List T_Belt} {p2 : Int} {r : T_Line} (hF : F_belts_Pull_1 p0 p1 p2 = some r) {m1 : Nat} (hm1 : m1 = (p0.States).length) {m2 : Nat} (hm2 : m2 = (p0.Since).length) {m3 : Nat} (hm3 : m3 = (p0.Pulled).length) {m4 : Nat} (hm4 : m4 = (p0.Held).length) : m1 = (r.States).length ∧ m2 = (r.Since).length ∧ m3 = (r.Pulled).length ∧ m4 = (r.Held).length ∧ True := by
  have h : LP (F_belts_Pull_1 p0 p1 p2) (fun r => m1 = (r.States).length ∧ m2 = (r.Since).length ∧ m3 = (r.Pulled).length ∧ m4 = (r.Held).length ∧ True) := by
    unfold F_belts_Pull_1
    exact (Zy fun x5 h6 => Zy fun x7 h8 => Zw ⟨(F_belts_stop_len h6 hm1 hm2 hm3 hm4).1, (F_belts_stop_len h6 hm1 hm2 hm3 hm4).2.1, (Eq.trans (F_belts_stop_len h6 hm1 hm2 hm3 hm4).2.2.1 List.length_set.symm), (F_belts_stop_len h6 hm1 hm2 hm3 hm4).2.2.2.1, trivial⟩)
  exact h r hF

theorem F_belts_Pull_1_ok {p0 : T_Line} {p1 : List T_Belt} {p2 : Int} {r : T_Line} (hF : F_belts_Pull_1 p0 p1 p2 = some r) {low : List AObj} {q0 q1 q2 q3 q4 q5 q6 w0 w1 w2 w3 w4 w5 w6 : Nat} (hnd : [q0, q1, q2, q3, q4, q5, q6].Nodup) {m1 : Nat} (hm1 : m1 = (p0.States).length) {m2 : Nat} (hm2 : m2 = (p0.Since).length) {m3 : Nat} (hm3 : m3 = (p0.Pulled).length) {m4 : Nat} (hm4 : m4 = (p0.Held).length) (hq0 : low[q0]? = some ⟨34, 5, [.agg [.int .i64 p0.Time, .sl q1 w1 0 m1, .sl q2 w2 0 m2, .sl q3 w3 0 m3, .sl q4 w4 0 m4]], w0⟩) (hq1 : low[q1]? = some ⟨3, 1, Wa (Wb .i64) p0.States, w1⟩) (hq2 : low[q2]? = some ⟨3, 1, Wa (Wb .i64) p0.Since, w2⟩) (hq3 : low[q3]? = some ⟨4, 1, Wa Wc p0.Pulled, w3⟩) (hq4 : low[q4]? = some ⟨4, 1, Wa Wc p0.Held, w4⟩) (hq5 : low[q5]? = some ⟨27, 1, [.vs 2 (Wa T_Belt.enc p1)], w5⟩) (hq6 : low[q6]? = some ⟨3, 1, [.int .i64 p2], w6⟩) {n : Nat} (hn : low.length = n) :
    Yk Try.prog 35 [.ptr q0 w0 0 0, .ptr q5 w5 0 0, .ptr q6 w6 0 0] low fun x low' => x = .tup [] ∧ low' = setL low [(q0, ⟨34, 5, [.agg [.int .i64 r.Time, .sl q1 w1 0 m1, .sl q2 w2 0 m2, .sl q3 w3 0 m3, .sl q4 w4 0 m4]], w0⟩), (q1, ⟨3, 1, Wa (Wb .i64) r.States, w1⟩), (q2, ⟨3, 1, Wa (Wb .i64) r.Since, w2⟩), (q3, ⟨4, 1, Wa Wc r.Pulled, w3⟩), (q4, ⟨4, 1, Wa Wc r.Held, w4⟩), (q5, ⟨27, 1, [.vs 2 (Wa T_Belt.enc p1)], w5⟩), (q6, ⟨3, 1, [.int .i64 p2], w6⟩)] ++ [] := by
  obtain ⟨h1, h2⟩ := Zn (ps := [(q0, ⟨34, 5, [.agg [.int .i64 p0.Time, .sl q1 w1 0 m1, .sl q2 w2 0 m2, .sl q3 w3 0 m3, .sl q4 w4 0 m4]], w0⟩), (q1, ⟨3, 1, Wa (Wb .i64) p0.States, w1⟩), (q2, ⟨3, 1, Wa (Wb .i64) p0.Since, w2⟩), (q3, ⟨4, 1, Wa Wc p0.Pulled, w3⟩), (q4, ⟨4, 1, Wa Wc p0.Held, w4⟩), (q5, ⟨27, 1, [.vs 2 (Wa T_Belt.enc p1)], w5⟩), (q6, ⟨3, 1, [.int .i64 p2], w6⟩)]) hnd (Zl hq0 (Zl hq1 (Zl hq2 (Zl hq3 (Zl hq4 (Zl hq5 (Zl hq6 bor0)))))))
  exact Zf h1 (F_belts_Pull_1_ok0 hF h2 hm1 hm2 hm3 hm4 hn)

theorem F_belts_done__belts_Pull_1_ok0 {p0 : T_Line} {pc10 : List T_Belt} {pc11 : Int} {r : T_Line} (hF : F_belts_done__belts_Pull_1 p0 pc10 pc11 = some r) {low0 : List AObj} {q0 q1 w0 w1 : Nat} (hB : Bor low0 [q0, q1]) {n : Nat} (hn : low0.length = n) :
    Yk Try.prog 31 [.agg [.int .i64 p0.Time, .vs 1 (Wa (Wb .i64) p0.States), .vs 1 (Wa (Wb .i64) p0.Since), .vs 1 (Wa Wc p0.Pulled), .vs 1 (Wa Wc p0.Held)], .fn 35 [] [.ptr q0 w0 0 0, .ptr q1 w1 0 0]] (setL low0 [(q0, ⟨27, 1, [.vs 2 (Wa T_Belt.enc pc10)], w0⟩), (q1, ⟨3, 1, [.int .i64 pc11], w1⟩)]) fun x low' => x = .agg [.int .i64 r.Time, .sl (n + 0) 0 0 (r.States).length, .sl (n + 1) 0 0 (r.Since).length, .sl (n + 2) 0 0 (r.Pulled).length, .vs 1 (Wa Wc r.Held)] ∧ low' = setL low0 [(q0, ⟨27, 1, [.vs 2 (Wa T_Belt.enc pc10)], w0⟩), (q1, ⟨3, 1, [.int .i64 pc11], w1⟩)] ++ [⟨3, 1, Wa (Wb .i64) r.States, 0⟩, ⟨3, 1, Wa (Wb .i64) r.Since, 0⟩, ⟨4, 1, Wa Wc r.Pulled, 0⟩] := by
 refine Vz (nt := 24) (rs := [.cell 4 34]) Try.func31 rfl rfl (We rfl) rfl ?_
 have hq0 : q0 < n := hB.ltN hn 0 rfl
 have hq1 : q1 < n := hB.ltN hn 1 rfl
 refine Vx (Q' := FnE (fun E' lw lc => Xv E' lw lc [(4, .ptr (n + 3) 0 0 0)] (setL low0 [(q0, ⟨27, 1, [.vs 2 (Wa T_Belt.enc pc10)], w0⟩), (q1, ⟨3, 1, [.int .i64 pc11], w1⟩)]) [⟨3, 1, Wa (Wb .i64) r.States, 0⟩, ⟨3, 1, Wa (Wb .i64) r.Since, 0⟩, ⟨4, 1, Wa Wc r.Pulled, 0⟩, ⟨34, 5, [.agg [.int .i64 r.Time, .sl (n + 0) 0 0 (r.States).length, .sl (n + 1) 0 0 (r.Since).length, .sl (n + 2) 0 0 (r.Pulled).length, .vs 1 (Wa Wc r.Held)]], 0⟩])) ?_ ?_
 ·unfold F_belts_done__belts_Pull_1 at hF
  refine Vi ?_
  refine Vf ?_
  refine Vj (Yx (Vn hn) rfl (v := .agg [.int .i64 p0.Time, .vs 1 (Wa (Wb .i64) p0.States), .vs 1 (Wa (Wb .i64) p0.Since), .vs 1 (Wa Wc p0.Pulled), .vs 1 (Wa Wc p0.Held)]) rfl rfl (Wf _) rfl rfl) rfl ?_
  refine Vj (Xi (Vn hn) rfl tz_34 rfl rfl (Wf _) rfl) rfl ?_
  refine Vh ?_
  refine Vi ?_
  obtain ⟨x1, h2, hF⟩ := Yt hF
  obtain ⟨x3, h4, hF⟩ := Yt hF
  obtain ⟨x5, h6, hF⟩ := Yt hF
  obtain ⟨x7, h8, hF⟩ := Yt hF
  refine Xz (Yj 3 1 (Wf _)) ?_
  refine Xz (Yj 3 1 (Wf _)) ?_
  refine Xz (Yj 4 1 (Wf _)) ?_
  refine Xz (Yj 4 1 (Wf _)) ?_
  refine Xz (Yj 34 5 (Wf _)) ?_
  refine vwp_drawnX [[], [0], [], [2], [2, 3], [], [5], [2, 3, 4, 5, 6], [], [8], [2, 3, 4, 5, 6, 7, 8, 9], [], [11], [2, 3, 4, 5, 6, 7, 8, 9, 10, 11, 12], [0, 1, 2, 3, 4, 5, 6, 7, 8, 9, 10, 11, 12, 13], [], [0, 1, 2, 3, 4, 5, 6, 7, 8, 9, 10, 11, 12, 13, 14, 15]] [false, false, false, false, true, false, false, true, false, false, true, false, false, true, false, true, true] [([], (setL low0 [(q0, ⟨27, 1, [.vs 2 (Wa T_Belt.enc pc10)], w0⟩), (q1, ⟨3, 1, [.int .i64 pc11], w1⟩)]), [⟨34, 5, [.agg [.int .i64 p0.Time, .vs 1 (Wa (Wb .i64) p0.States), .vs 1 (Wa (Wb .i64) p0.Since), .vs 1 (Wa Wc p0.Pulled), .vs 1 (Wa Wc p0.Held)]], 0⟩, ⟨34, 5, [.agg [.int .i64 0, .nils, .nils, .nils, .nils]], 0⟩, ⟨3, 1, [], 0⟩, ⟨3, 1, [], 0⟩, ⟨4, 1, [], 0⟩, ⟨4, 1, [], 0⟩, ⟨34, 5, [], 0⟩]), ([4], (setL low0 [(q0, ⟨27, 1, [.vs 2 (Wa T_Belt.enc pc10)], w0⟩), (q1, ⟨3, 1, [.int .i64 pc11], w1⟩)]), [⟨34, 5, [.agg [.int .i64 p0.Time, .vs 1 (Wa (Wb .i64) p0.States), .vs 1 (Wa (Wb .i64) p0.Since), .vs 1 (Wa Wc p0.Pulled), .vs 1 (Wa Wc p0.Held)]], 0⟩, ⟨34, 5, [.agg [.int .i64 0, .nils, .nils, .nils, .nils]], 0⟩, ⟨3, 1, Wa (Wb .i64) x1, 1⟩, ⟨3, 1, [], 0⟩, ⟨4, 1, [], 0⟩, ⟨4, 1, [], 0⟩, ⟨34, 5, [], 0⟩]), ([15], (setL low0 [(q0, ⟨27, 1, [.vs 2 (Wa T_Belt.enc pc10)], w0⟩), (q1, ⟨3, 1, [.int .i64 pc11], w1⟩)]), [⟨34, 5, [.agg [.int .i64 p0.Time, .vs 1 (Wa (Wb .i64) p0.States), .vs 1 (Wa (Wb .i64) p0.Since), .vs 1 (Wa Wc p0.Pulled), .vs 1 (Wa Wc p0.Held)]], 0⟩, ⟨34, 5, [.agg [.int .i64 0, .nils, .nils, .nils, .nils]], 0⟩, ⟨3, 1, [], 0⟩, ⟨3, 1, [], 0⟩, ⟨4, 1, [], 0⟩, ⟨4, 1, [], 0⟩, ⟨34, 5, [.agg [.int .i64 0, .nils, .nils, .nils, .nils]], 1⟩]), ([4, 7], (setL low0 [(q0, ⟨27, 1, [.vs 2 (Wa T_Belt.enc pc10)], w0⟩), (q1, ⟨3, 1, [.int .i64 pc11], w1⟩)]), [⟨34, 5, [.agg [.int .i64 p0.Time, .vs 1 (Wa (Wb .i64) p0.States), .vs 1 (Wa (Wb .i64) p0.Since), .vs 1 (Wa Wc p0.Pulled), .vs 1 (Wa Wc p0.Held)]], 0⟩, ⟨34, 5, [.agg [.int .i64 0, .nils, .nils, .nils, .nils]], 0⟩, ⟨3, 1, Wa (Wb .i64) x1, 1⟩, ⟨3, 1, Wa (Wb .i64) x3, 1⟩, ⟨4, 1, [], 0⟩, ⟨4, 1, [], 0⟩, ⟨34, 5, [], 0⟩]), ([4, 15], (setL low0 [(q0, ⟨27, 1, [.vs 2 (Wa T_Belt.enc pc10)], w0⟩), (q1, ⟨3, 1, [.int .i64 pc11], w1⟩)]), [⟨34, 5, [.agg [.int .i64 p0.Time, .vs 1 (Wa (Wb .i64) p0.States), .vs 1 (Wa (Wb .i64) p0.Since), .vs 1 (Wa Wc p0.Pulled), .vs 1 (Wa Wc p0.Held)]], 0⟩, ⟨34, 5, [.agg [.int .i64 0, .nils, .nils, .nils, .nils]], 0⟩, ⟨3, 1, Wa (Wb .i64) x1, 1⟩, ⟨3, 1, [], 0⟩, ⟨4, 1, [], 0⟩, ⟨4, 1, [], 0⟩, ⟨34, 5, [.agg [.int .i64 0, .nils, .nils, .nils, .nils]], 1⟩]), ([4, 7, 10], (setL low0 [(q0, ⟨27, 1, [.vs 2 (Wa T_Belt.enc pc10)], w0⟩), (q1, ⟨3, 1, [.int .i64 pc11], w1⟩)]), [⟨34, 5, [.agg [.int .i64 p0.Time, .vs 1 (Wa (Wb .i64) p0.States), .vs 1 (Wa (Wb .i64) p0.Since), .vs 1 (Wa Wc p0.Pulled), .vs 1 (Wa Wc p0.Held)]], 0⟩, ⟨34, 5, [.agg [.int .i64 0, .nils, .nils, .nils, .nils]], 0⟩, ⟨3, 1, Wa (Wb .i64) x1, 1⟩, ⟨3, 1, Wa (Wb .i64) x3, 1⟩, ⟨4, 1, Wa Wc x5, 1⟩, ⟨4, 1, [], 0⟩, ⟨34, 5, [], 0⟩]), ([4, 7, 15], (setL low0 [(q0, ⟨27, 1, [.vs 2 (Wa T_Belt.enc pc10)], w0⟩), (q1, ⟨3, 1, [.int .i64 pc11], w1⟩)]), [⟨34, 5, [.agg [.int .i64 p0.Time, .vs 1 (Wa (Wb .i64) p0.States), .vs 1 (Wa (Wb .i64) p0.Since), .vs 1 (Wa Wc p0.Pulled), .vs 1 (Wa Wc p0.Held)]], 0⟩, ⟨34, 5, [.agg [.int .i64 0, .nils, .nils, .nils, .nils]], 0⟩, ⟨3, 1, Wa (Wb .i64) x1, 1⟩, ⟨3, 1, Wa (Wb .i64) x3, 1⟩, ⟨4, 1, [], 0⟩, ⟨4, 1, [], 0⟩, ⟨34, 5, [.agg [.int .i64 0, .nils, .nils, .nils, .nils]], 1⟩]), ([4, 7, 10, 13], (setL low0 [(q0, ⟨27, 1, [.vs 2 (Wa T_Belt.enc pc10)], w0⟩), (q1, ⟨3, 1, [.int .i64 pc11], w1⟩)]), [⟨34, 5, [.agg [.int .i64 p0.Time, .vs 1 (Wa (Wb .i64) p0.States), .vs 1 (Wa (Wb .i64) p0.Since), .vs 1 (Wa Wc p0.Pulled), .vs 1 (Wa Wc p0.Held)]], 0⟩, ⟨34, 5, [.agg [.int .i64 0, .nils, .nils, .nils, .nils]], 0⟩, ⟨3, 1, Wa (Wb .i64) x1, 1⟩, ⟨3, 1, Wa (Wb .i64) x3, 1⟩, ⟨4, 1, Wa Wc x5, 1⟩, ⟨4, 1, Wa Wc x7, 1⟩, ⟨34, 5, [], 0⟩]), ([4, 7, 10, 15], (setL low0 [(q0, ⟨27, 1, [.vs 2 (Wa T_Belt.enc pc10)], w0⟩), (q1, ⟨3, 1, [.int .i64 pc11], w1⟩)]), [⟨34, 5, [.agg [.int .i64 p0.Time, .vs 1 (Wa (Wb .i64) p0.States), .vs 1 (Wa (Wb .i64) p0.Since), .vs 1 (Wa Wc p0.Pulled), .vs 1 (Wa Wc p0.Held)]], 0⟩, ⟨34, 5, [.agg [.int .i64 0, .nils, .nils, .nils, .nils]], 0⟩, ⟨3, 1, Wa (Wb .i64) x1, 1⟩, ⟨3, 1, Wa (Wb .i64) x3, 1⟩, ⟨4, 1, Wa Wc x5, 1⟩, ⟨4, 1, [], 0⟩, ⟨34, 5, [.agg [.int .i64 0, .nils, .nils, .nils, .nils]], 1⟩]), ([4, 7, 10, 13, 15], (setL low0 [(q0, ⟨27, 1, [.vs 2 (Wa T_Belt.enc pc10)], w0⟩), (q1, ⟨3, 1, [.int .i64 pc11], w1⟩)]), [⟨34, 5, [.agg [.int .i64 p0.Time, .vs 1 (Wa (Wb .i64) p0.States), .vs 1 (Wa (Wb .i64) p0.Since), .vs 1 (Wa Wc p0.Pulled), .vs 1 (Wa Wc p0.Held)]], 0⟩, ⟨34, 5, [.agg [.int .i64 0, .nils, .nils, .nils, .nils]], 0⟩, ⟨3, 1, Wa (Wb .i64) x1, 1⟩, ⟨3, 1, Wa (Wb .i64) x3, 1⟩, ⟨4, 1, Wa Wc x5, 1⟩, ⟨4, 1, Wa Wc x7, 1⟩, ⟨34, 5, [.agg [.int .i64 0, .nils, .nils, .nils, .nils]], 1⟩]), ([4, 7, 10, 13, 15, 16], (setL low0 [(q0, ⟨27, 1, [.vs 2 (Wa T_Belt.enc pc10)], w0⟩), (q1, ⟨3, 1, [.int .i64 pc11], w1⟩)]), [⟨34, 5, [.agg [.int .i64 p0.Time, .vs 1 (Wa (Wb .i64) p0.States), .vs 1 (Wa (Wb .i64) p0.Since), .vs 1 (Wa Wc p0.Pulled), .vs 1 (Wa Wc p0.Held)]], 0⟩, ⟨34, 5, [.agg [.int .i64 0, .nils, .nils, .nils, .nils]], 0⟩, ⟨3, 1, Wa (Wb .i64) x1, 1⟩, ⟨3, 1, Wa (Wb .i64) x3, 1⟩, ⟨4, 1, Wa Wc x5, 1⟩, ⟨4, 1, Wa Wc x7, 1⟩, ⟨34, 5, [.agg [.int .i64 p0.Time, .sl (n + 2) 1 0 (x1).length, .sl (n + 3) 1 0 (x3).length, .sl (n + 4) 1 0 (x5).length, .sl (n + 5) 1 0 (x7).length]], 1⟩])] mixed (by kernel_rfl) rfl (lenAllX (Yg Vy (Yg Vy (Yg Vy (Yg Vy (Yg Vy (Yg Vy (Yg Vy (Yg Vy (Yg Vy (Yg Vy (Yg Vy allx0)))))))))))) rfl [4, 7, 10, 13, 15, 16] ((setL low0 [(q0, ⟨27, 1, [.vs 2 (Wa T_Belt.enc pc10)], w0⟩), (q1, ⟨3, 1, [.int .i64 pc11], w1⟩)]), [⟨34, 5, [.agg [.int .i64 p0.Time, .vs 1 (Wa (Wb .i64) p0.States), .vs 1 (Wa (Wb .i64) p0.Since), .vs 1 (Wa Wc p0.Pulled), .vs 1 (Wa Wc p0.Held)]], 0⟩, ⟨34, 5, [.agg [.int .i64 0, .nils, .nils, .nils, .nils]], 0⟩, ⟨3, 1, Wa (Wb .i64) x1, 1⟩, ⟨3, 1, Wa (Wb .i64) x3, 1⟩, ⟨4, 1, Wa Wc x5, 1⟩, ⟨4, 1, Wa Wc x7, 1⟩, ⟨34, 5, [.agg [.int .i64 p0.Time, .sl (n + 2) 1 0 (x1).length, .sl (n + 3) 1 0 (x3).length, .sl (n + 4) 1 0 (x5).length, .sl (n + 5) 1 0 (x7).length]], 1⟩]) rfl rfl ?_
  refine Xn _ rfl rfl (Xg (VRd.ntl (Vc rfl tf_34_0 ts_3 (by decide))) (Xg (VRd.ntl (Vc rfl tf_34_0 ts_3 (by decide))) (Xg (VRd.ntl (Vc rfl tf_34_0 ts_3 (by decide))) (Xg (VRd.ntl (Vc rfl tf_34_0 ts_3 (by decide))) (Xg (VRd.ntl (Vc rfl tf_34_0 ts_3 (by decide))) (Xg (VRd.ntl (Vc rfl tf_34_0 ts_3 (by decide))) (Xg (VRd.ntl (Vc rfl tf_34_0 ts_3 (by decide))) (Xg (VRd.ntl (Vc rfl tf_34_0 ts_3 (by decide))) (Xg (VRd.ntl (Vc rfl tf_34_0 ts_3 (by decide))) (Xg (VRd.ntl (Vc rfl tf_34_0 ts_3 (by decide))) rx0)))))))))) ?_
  refine Xn _ rfl rfl (Xg (VRd.ntl (Ve rfl (Vg (Vn hn) rfl) rfl ta_3 rfl)) (Xg (VRd.ntl (Ve rfl (Vg (Vn hn) rfl) rfl ta_3 rfl)) (Xg (VRd.ntl (Ve rfl (Vg (Vn hn) rfl) rfl ta_3 rfl)) (Xg (VRd.ntl (Ve rfl (Vg (Vn hn) rfl) rfl ta_3 rfl)) (Xg (VRd.ntl (Ve rfl (Vg (Vn hn) rfl) rfl ta_3 rfl)) (Xg (VRd.ntl (Ve rfl (Vg (Vn hn) rfl) rfl ta_3 rfl)) (Xg (VRd.ntl (Ve rfl (Vg (Vn hn) rfl) rfl ta_3 rfl)) (Xg (VRd.ntl (Ve rfl (Vg (Vn hn) rfl) rfl ta_3 rfl)) (Xg (VRd.ntl (Ve rfl (Vg (Vn hn) rfl) rfl ta_3 rfl)) (Xg (VRd.ntl (Ve rfl (Vg (Vn hn) rfl) rfl ta_3 rfl)) rx0)))))))))) ?_
  refine Xn _ rfl rfl (Xg (VRd.ntl (Vc rfl tf_34_1 ts_22 (by decide))) (Xg (VRd.ntl (Vc rfl tf_34_1 ts_22 (by decide))) rx0)) ?_
  refine Xn _ rfl rfl (Xg (VRd.ntl (Ve rfl (Vg (Vn hn) rfl) rfl ta_22 rfl)) (Xg (VRd.ntl (Ve rfl (Vg (Vn hn) rfl) rfl ta_22 rfl)) rx0)) ?_
  refine Yo _ rfl rfl (Zs 1 rfl (Vr (f := 7) (k := 2) (m := 1) (os := [⟨3, 1, Wa (Wb .i64) x1, 0⟩]) (os' := [⟨3, 1, Wa (Wb .i64) x1, 1⟩]) (v := .sl (n + 7) 0 0 (x1).length) (Vn hn) rfl rfl ⟨⟨_, rfl, rfl⟩, trivial⟩ (Xf (r := .sl (n + 7) 0 0 (x1).length) (os := [⟨3, 1, Wa (Wb .i64) x1, 0⟩]) rfl Try.call54 (F_slices_Clone___int_int__ok h2 _ (Xc (Vn hn) rfl))) (Yi 0 rfl rfl rfl rfl) ⟨.same _ _ _ (Vk (fun _ => .int _ _)), trivial⟩ rfl) (Zs 4 rfl (Vr (f := 7) (k := 2) (m := 1) (os := [⟨3, 1, Wa (Wb .i64) x1, 0⟩]) (os' := [⟨3, 1, Wa (Wb .i64) x1, 1⟩]) (v := .sl (n + 7) 0 0 (x1).length) (Vn hn) rfl rfl ⟨⟨_, rfl, rfl⟩, trivial⟩ (Xf (r := .sl (n + 7) 0 0 (x1).length) (os := [⟨3, 1, Wa (Wb .i64) x1, 0⟩]) rfl Try.call54 (F_slices_Clone___int_int__ok h2 _ (Xc (Vn hn) rfl))) (Yi 0 rfl rfl rfl rfl) ⟨.same _ _ _ (Vk (fun _ => .int _ _)), trivial⟩ rfl) ex0)) ?_
  refine Xn _ rfl rfl (Xg (VRd.ntl (Vc rfl tf_34_2 ts_22 (by decide))) (Xg (VRd.ntl (Vc rfl tf_34_2 ts_22 (by decide))) (Xg (VRd.ntl (Vc rfl tf_34_2 ts_22 (by decide))) (Xg (VRd.ntl (Vc rfl tf_34_2 ts_22 (by decide))) rx0)))) ?_
  refine Xn _ rfl rfl (Xg (VRd.ntl (Ve rfl (Vg (Vn hn) rfl) rfl ta_22 rfl)) (Xg (VRd.ntl (Ve rfl (Vg (Vn hn) rfl) rfl ta_22 rfl)) (Xg (VRd.ntl (Ve rfl (Vg (Vn hn) rfl) rfl ta_22 rfl)) (Xg (VRd.ntl (Ve rfl (Vg (Vn hn) rfl) rfl ta_22 rfl)) rx0)))) ?_
  refine Yo _ rfl rfl (Zs 3 rfl (Vr (f := 7) (k := 3) (m := 1) (os := [⟨3, 1, Wa (Wb .i64) x3, 0⟩]) (os' := [⟨3, 1, Wa (Wb .i64) x3, 1⟩]) (v := .sl (n + 7) 0 0 (x3).length) (Vn hn) rfl rfl ⟨⟨_, rfl, rfl⟩, trivial⟩ (Xf (r := .sl (n + 7) 0 0 (x3).length) (os := [⟨3, 1, Wa (Wb .i64) x3, 0⟩]) rfl Try.call54 (F_slices_Clone___int_int__ok h4 _ (Xc (Vn hn) rfl))) (Yi 0 rfl rfl rfl rfl) ⟨.same _ _ _ (Vk (fun _ => .int _ _)), trivial⟩ rfl) (Zs 6 rfl (Vr (f := 7) (k := 3) (m := 1) (os := [⟨3, 1, Wa (Wb .i64) x3, 0⟩]) (os' := [⟨3, 1, Wa (Wb .i64) x3, 1⟩]) (v := .sl (n + 7) 0 0 (x3).length) (Vn hn) rfl rfl ⟨⟨_, rfl, rfl⟩, trivial⟩ (Xf (r := .sl (n + 7) 0 0 (x3).length) (os := [⟨3, 1, Wa (Wb .i64) x3, 0⟩]) rfl Try.call54 (F_slices_Clone___int_int__ok h4 _ (Xc (Vn hn) rfl))) (Yi 0 rfl rfl rfl rfl) ⟨.same _ _ _ (Vk (fun _ => .int _ _)), trivial⟩ rfl) ex0)) ?_
  refine Xn _ rfl rfl (Xg (VRd.ntl (Vc rfl tf_34_3 ts_32 (by decide))) (Xg (VRd.ntl (Vc rfl tf_34_3 ts_32 (by decide))) (Xg (VRd.ntl (Vc rfl tf_34_3 ts_32 (by decide))) (Xg (VRd.ntl (Vc rfl tf_34_3 ts_32 (by decide))) (Xg (VRd.ntl (Vc rfl tf_34_3 ts_32 (by decide))) (Xg (VRd.ntl (Vc rfl tf_34_3 ts_32 (by decide))) rx0)))))) ?_
  refine Xn _ rfl rfl (Xg (VRd.ntl (Ve rfl (Vg (Vn hn) rfl) rfl ta_32 rfl)) (Xg (VRd.ntl (Ve rfl (Vg (Vn hn) rfl) rfl ta_32 rfl)) (Xg (VRd.ntl (Ve rfl (Vg (Vn hn) rfl) rfl ta_32 rfl)) (Xg (VRd.ntl (Ve rfl (Vg (Vn hn) rfl) rfl ta_32 rfl)) (Xg (VRd.ntl (Ve rfl (Vg (Vn hn) rfl) rfl ta_32 rfl)) (Xg (VRd.ntl (Ve rfl (Vg (Vn hn) rfl) rfl ta_32 rfl)) rx0)))))) ?_
  refine Yo _ rfl rfl (Zs 5 rfl (Vr (f := 7) (k := 4) (m := 1) (os := [⟨4, 1, Wa Wc x5, 0⟩]) (os' := [⟨4, 1, Wa Wc x5, 1⟩]) (v := .sl (n + 7) 0 0 (x5).length) (Vn hn) rfl rfl ⟨⟨_, rfl, rfl⟩, trivial⟩ (Xf (r := .sl (n + 7) 0 0 (x5).length) (os := [⟨4, 1, Wa Wc x5, 0⟩]) rfl Try.call55 (F_slices_Clone___bool_bool__ok h6 _ (Xc (Vn hn) rfl))) (Yi 0 rfl rfl rfl rfl) ⟨.same _ _ _ (Vk (fun _ => .bool _)), trivial⟩ rfl) (Zs 8 rfl (Vr (f := 7) (k := 4) (m := 1) (os := [⟨4, 1, Wa Wc x5, 0⟩]) (os' := [⟨4, 1, Wa Wc x5, 1⟩]) (v := .sl (n + 7) 0 0 (x5).length) (Vn hn) rfl rfl ⟨⟨_, rfl, rfl⟩, trivial⟩ (Xf (r := .sl (n + 7) 0 0 (x5).length) (os := [⟨4, 1, Wa Wc x5, 0⟩]) rfl Try.call55 (F_slices_Clone___bool_bool__ok h6 _ (Xc (Vn hn) rfl))) (Yi 0 rfl rfl rfl rfl) ⟨.same _ _ _ (Vk (fun _ => .bool _)), trivial⟩ rfl) ex0)) ?_
  refine Xn _ rfl rfl (Xg (VRd.ntl (Vc rfl tf_34_4 ts_32 (by decide))) (Xg (VRd.ntl (Vc rfl tf_34_4 ts_32 (by decide))) (Xg (VRd.ntl (Vc rfl tf_34_4 ts_32 (by decide))) (Xg (VRd.ntl (Vc rfl tf_34_4 ts_32 (by decide))) (Xg (VRd.ntl (Vc rfl tf_34_4 ts_32 (by decide))) (Xg (VRd.ntl (Vc rfl tf_34_4 ts_32 (by decide))) (Xg (VRd.ntl (Vc rfl tf_34_4 ts_32 (by decide))) (Xg (VRd.ntl (Vc rfl tf_34_4 ts_32 (by decide))) rx0)))))))) ?_
  refine Xn _ rfl rfl (Xg (VRd.ntl (Ve rfl (Vg (Vn hn) rfl) rfl ta_32 rfl)) (Xg (VRd.ntl (Ve rfl (Vg (Vn hn) rfl) rfl ta_32 rfl)) (Xg (VRd.ntl (Ve rfl (Vg (Vn hn) rfl) rfl ta_32 rfl)) (Xg (VRd.ntl (Ve rfl (Vg (Vn hn) rfl) rfl ta_32 rfl)) (Xg (VRd.ntl (Ve rfl (Vg (Vn hn) rfl) rfl ta_32 rfl)) (Xg (VRd.ntl (Ve rfl (Vg (Vn hn) rfl) rfl ta_32 rfl)) (Xg (VRd.ntl (Ve rfl (Vg (Vn hn) rfl) rfl ta_32 rfl)) (Xg (VRd.ntl (Ve rfl (Vg (Vn hn) rfl) rfl ta_32 rfl)) rx0)))))))) ?_
  refine Yo _ rfl rfl (Zs 7 rfl (Vr (f := 7) (k := 5) (m := 1) (os := [⟨4, 1, Wa Wc x7, 0⟩]) (os' := [⟨4, 1, Wa Wc x7, 1⟩]) (v := .sl (n + 7) 0 0 (x7).length) (Vn hn) rfl rfl ⟨⟨_, rfl, rfl⟩, trivial⟩ (Xf (r := .sl (n + 7) 0 0 (x7).length) (os := [⟨4, 1, Wa Wc x7, 0⟩]) rfl Try.call55 (F_slices_Clone___bool_bool__ok h8 _ (Xc (Vn hn) rfl))) (Yi 0 rfl rfl rfl rfl) ⟨.same _ _ _ (Vk (fun _ => .bool _)), trivial⟩ rfl) (Zs 9 rfl (Vr (f := 7) (k := 5) (m := 1) (os := [⟨4, 1, Wa Wc x7, 0⟩]) (os' := [⟨4, 1, Wa Wc x7, 1⟩]) (v := .sl (n + 7) 0 0 (x7).length) (Vn hn) rfl rfl ⟨⟨_, rfl, rfl⟩, trivial⟩ (Xf (r := .sl (n + 7) 0 0 (x7).length) (os := [⟨4, 1, Wa Wc x7, 0⟩]) rfl Try.call55 (F_slices_Clone___bool_bool__ok h8 _ (Xc (Vn hn) rfl))) (Yi 0 rfl rfl rfl rfl) ⟨.same _ _ _ (Vk (fun _ => .bool _)), trivial⟩ rfl) ex0)) ?_
  refine Xn _ rfl rfl (Xg (VRd.ntl (Zt (vs := [(0, .int .i64 p0.Time), (1, .sl (n + 2) 1 0 (x1).length), (2, .sl (n + 3) 1 0 (x3).length), (3, .sl (n + 4) 1 0 (x5).length), (4, .sl (n + 5) 1 0 (x7).length)]) (ds := [.int .i64 p0.Time, .sl (n + 2) 1 0 (x1).length, .sl (n + 3) 1 0 (x3).length, .sl (n + 4) 1 0 (x5).length, .sl (n + 5) 1 0 (x7).length]) tz_34 rfl rfl tp_34 ⟨rfl, rfl, rfl, rfl, rfl, rfl, rfl, rfl, rfl, rfl, trivial⟩ (nt_all2 rfl) rfl)) (Xg (VRd.ntl (Zt (vs := [(0, .int .i64 p0.Time), (1, .sl (n + 2) 1 0 (x1).length), (2, .sl (n + 3) 1 0 (x3).length), (3, .sl (n + 4) 1 0 (x5).length), (4, .sl (n + 5) 1 0 (x7).length)]) (ds := [.int .i64 p0.Time, .sl (n + 2) 1 0 (x1).length, .sl (n + 3) 1 0 (x3).length, .sl (n + 4) 1 0 (x5).length, .sl (n + 5) 1 0 (x7).length]) tz_34 rfl rfl tp_34 ⟨rfl, rfl, rfl, rfl, rfl, rfl, rfl, rfl, rfl, rfl, trivial⟩ (nt_all2 rfl) rfl)) rx0)) ?_
  refine Yo _ rfl rfl (Zs 2 rfl (Vr (f := 7) (k := 6) (m := 1) (os := [⟨34, 5, [.agg [.int .i64 0, .nils, .nils, .nils, .nils]], 0⟩]) (os' := [⟨34, 5, [.agg [.int .i64 0, .nils, .nils, .nils, .nils]], 1⟩]) (v := .ptr (n + 7) 0 0 0) (Vn hn) rfl rfl ⟨⟨_, rfl, rfl⟩, trivial⟩ (Xi (Vn hn) rfl tz_34 rfl rfl (Wf _) rfl) (Zp 0 rfl rfl rfl rfl) ⟨.same _ _ _ (Xd ⟨(Xl ⟨.int _ _, .nils, .nils, .nils, .nils, trivial⟩), trivial⟩), trivial⟩ rfl) (Zs 4 rfl (Vr (f := 7) (k := 6) (m := 1) (os := [⟨34, 5, [.agg [.int .i64 0, .nils, .nils, .nils, .nils]], 0⟩]) (os' := [⟨34, 5, [.agg [.int .i64 0, .nils, .nils, .nils, .nils]], 1⟩]) (v := .ptr (n + 7) 0 0 0) (Vn hn) rfl rfl ⟨⟨_, rfl, rfl⟩, trivial⟩ (Xi (Vn hn) rfl tz_34 rfl rfl (Wf _) rfl) (Zp 0 rfl rfl rfl rfl) ⟨.same _ _ _ (Xd ⟨(Xl ⟨.int _ _, .nils, .nils, .nils, .nils, trivial⟩), trivial⟩), trivial⟩ rfl) (Zs 6 rfl (Vr (f := 7) (k := 6) (m := 1) (os := [⟨34, 5, [.agg [.int .i64 0, .nils, .nils, .nils, .nils]], 0⟩]) (os' := [⟨34, 5, [.agg [.int .i64 0, .nils, .nils, .nils, .nils]], 1⟩]) (v := .ptr (n + 7) 0 0 0) (Vn hn) rfl rfl ⟨⟨_, rfl, rfl⟩, trivial⟩ (Xi (Vn hn) rfl tz_34 rfl rfl (Wf _) rfl) (Zp 0 rfl rfl rfl rfl) ⟨.same _ _ _ (Xd ⟨(Xl ⟨.int _ _, .nils, .nils, .nils, .nils, trivial⟩), trivial⟩), trivial⟩ rfl) (Zs 8 rfl (Vr (f := 7) (k := 6) (m := 1) (os := [⟨34, 5, [.agg [.int .i64 0, .nils, .nils, .nils, .nils]], 0⟩]) (os' := [⟨34, 5, [.agg [.int .i64 0, .nils, .nils, .nils, .nils]], 1⟩]) (v := .ptr (n + 7) 0 0 0) (Vn hn) rfl rfl ⟨⟨_, rfl, rfl⟩, trivial⟩ (Xi (Vn hn) rfl tz_34 rfl rfl (Wf _) rfl) (Zp 0 rfl rfl rfl rfl) ⟨.same _ _ _ (Xd ⟨(Xl ⟨.int _ _, .nils, .nils, .nils, .nils, trivial⟩), trivial⟩), trivial⟩ rfl) (Zs 9 rfl (Vr (f := 7) (k := 6) (m := 1) (os := [⟨34, 5, [.agg [.int .i64 0, .nils, .nils, .nils, .nils]], 0⟩]) (os' := [⟨34, 5, [.agg [.int .i64 0, .nils, .nils, .nils, .nils]], 1⟩]) (v := .ptr (n + 7) 0 0 0) (Vn hn) rfl rfl ⟨⟨_, rfl, rfl⟩, trivial⟩ (Xi (Vn hn) rfl tz_34 rfl rfl (Wf _) rfl) (Zp 0 rfl rfl rfl rfl) ⟨.same _ _ _ (Xd ⟨(Xl ⟨.int _ _, .nils, .nils, .nils, .nils, trivial⟩), trivial⟩), trivial⟩ rfl) ex0))))) ?_
  refine Yo _ rfl rfl (Zs 10 rfl (Xo (p := .agg [.int .i64 p0.Time, .sl (n + 2) 1 0 (x1).length, .sl (n + 3) 1 0 (x3).length, .sl (n + 4) 1 0 (x5).length, .sl (n + 5) 1 0 (x7).length]) (e' := .agg [.int .i64 p0.Time, .sl (n + 2) 1 0 (x1).length, .sl (n + 3) 1 0 (x3).length, .sl (n + 4) 1 0 (x5).length, .sl (n + 5) 1 0 (x7).length]) rfl (Vg (Vn hn) rfl) rfl rfl ts_34 rfl (Yv rfl) rfl (We rfl) rfl (Ym (Vn hn) rfl)) ex0) ?_
  refine dopx_nil ?_
  refine Vi ?_
  refine Vf ?_
  obtain ⟨x9, h10, hF⟩ := Yt hF
  refine Va (rd_mvF rfl) rfl ?_
  refine Vj (Yu (ps := [((n + 6), ⟨34, 5, [.agg [.int .i64 x9.Time, .sl (n + 2) 1 0 (x1).length, .sl (n + 3) 1 0 (x3).length, .sl (n + 4) 1 0 (x5).length, .sl (n + 5) 1 0 (x7).length]], 1⟩), ((n + 2), ⟨3, 1, Wa (Wb .i64) x9.States, 1⟩), ((n + 3), ⟨3, 1, Wa (Wb .i64) x9.Since, 1⟩), ((n + 4), ⟨4, 1, Wa Wc x9.Pulled, 1⟩), ((n + 5), ⟨4, 1, Wa Wc x9.Held, 1⟩), (q0, ⟨27, 1, [.vs 2 (Wa T_Belt.enc pc10)], w0⟩), (q1, ⟨3, 1, [.int .i64 pc11], w1⟩)]) (r := .tup []) (os := []) (low1 := (setL low0 [(q0, ⟨27, 1, [.vs 2 (Wa T_Belt.enc pc10)], w0⟩), (q1, ⟨3, 1, [.int .i64 pc11], w1⟩)])) (loc1 := [⟨34, 5, [.agg [.int .i64 p0.Time, .vs 1 (Wa (Wb .i64) p0.States), .vs 1 (Wa (Wb .i64) p0.Since), .vs 1 (Wa Wc p0.Pulled), .vs 1 (Wa Wc p0.Held)]], 0⟩, ⟨34, 5, [.agg [.int .i64 0, .nils, .nils, .nils, .nils]], 0⟩, ⟨3, 1, Wa (Wb .i64) x9.States, 1⟩, ⟨3, 1, Wa (Wb .i64) x9.Since, 1⟩, ⟨4, 1, Wa Wc x9.Pulled, 1⟩, ⟨4, 1, Wa Wc x9.Held, 1⟩, ⟨34, 5, [.agg [.int .i64 x9.Time, .sl (n + 2) 1 0 (x1).length, .sl (n + 3) 1 0 (x3).length, .sl (n + 4) 1 0 (x5).length, .sl (n + 5) 1 0 (x7).length]], 1⟩]) (loc2 := [⟨34, 5, [.agg [.int .i64 p0.Time, .vs 1 (Wa (Wb .i64) p0.States), .vs 1 (Wa (Wb .i64) p0.Since), .vs 1 (Wa Wc p0.Pulled), .vs 1 (Wa Wc p0.Held)]], 0⟩, ⟨34, 5, [.agg [.int .i64 0, .nils, .nils, .nils, .nils]], 0⟩, ⟨3, 1, Wa (Wb .i64) x9.States, 1⟩, ⟨3, 1, Wa (Wb .i64) x9.Since, 1⟩, ⟨4, 1, Wa Wc x9.Pulled, 1⟩, ⟨4, 1, Wa Wc x9.Held, 1⟩, ⟨34, 5, [.agg [.int .i64 x9.Time, .sl (n + 2) 1 0 (x1).length, .sl (n + 3) 1 0 (x3).length, .sl (n + 4) 1 0 (x5).length, .sl (n + 5) 1 0 (x7).length]], 1⟩]) rfl Try.call35 (F_belts_Pull_1_ok h10 (nd1 (Zb (Yc rfl) (Zb (Yc rfl) (Zb (Yc rfl) (Zb (Yc rfl) (Zb (Ya hq0) (Zb (Ya hq1) na0)))))) (nd1 (Zb (Yc rfl) (Zb (Yc rfl) (Zb (Yc rfl) (Zb (Ya hq0) (Zb (Ya hq1) na0))))) (nd1 (Zb (Yc rfl) (Zb (Yc rfl) (Zb (Ya hq0) (Zb (Ya hq1) na0)))) (nd1 (Zb (Yc rfl) (Zb (Ya hq0) (Zb (Ya hq1) na0))) (nd1 (Zb (Ya hq0) (Zb (Ya hq1) na0)) (nd1 (Zb (hB.ne 0 1 rfl rfl rfl) na0) (nd1 na0 nd0))))))) (rfl : (x1).length = _) (rfl : (x3).length = _) (rfl : (x5).length = _) (rfl : (x7).length = _) (Zd (Vn hn) rfl) (Zd (Vn hn) rfl) (Zd (Vn hn) rfl) (Zd (Vn hn) rfl) (Zd (Vn hn) rfl) (get_B hB rfl 0 rfl) (get_B hB rfl 1 rfl) (Xc (Vn hn) rfl)) (Xu (loc2 := [⟨34, 5, [.agg [.int .i64 p0.Time, .vs 1 (Wa (Wb .i64) p0.States), .vs 1 (Wa (Wb .i64) p0.Since), .vs 1 (Wa Wc p0.Pulled), .vs 1 (Wa Wc p0.Held)]], 0⟩, ⟨34, 5, [.agg [.int .i64 0, .nils, .nils, .nils, .nils]], 0⟩, ⟨3, 1, Wa (Wb .i64) x1, 1⟩, ⟨3, 1, Wa (Wb .i64) x3, 1⟩, ⟨4, 1, Wa Wc x5, 1⟩, ⟨4, 1, Wa Wc x7, 1⟩, ⟨34, 5, [.agg [.int .i64 x9.Time, .sl (n + 2) 1 0 (x1).length, .sl (n + 3) 1 0 (x3).length, .sl (n + 4) 1 0 (x5).length, .sl (n + 5) 1 0 (x7).length]], 1⟩]) (Vn hn) 6 rfl (Xu (loc2 := [⟨34, 5, [.agg [.int .i64 p0.Time, .vs 1 (Wa (Wb .i64) p0.States), .vs 1 (Wa (Wb .i64) p0.Since), .vs 1 (Wa Wc p0.Pulled), .vs 1 (Wa Wc p0.Held)]], 0⟩, ⟨34, 5, [.agg [.int .i64 0, .nils, .nils, .nils, .nils]], 0⟩, ⟨3, 1, Wa (Wb .i64) x9.States, 1⟩, ⟨3, 1, Wa (Wb .i64) x3, 1⟩, ⟨4, 1, Wa Wc x5, 1⟩, ⟨4, 1, Wa Wc x7, 1⟩, ⟨34, 5, [.agg [.int .i64 x9.Time, .sl (n + 2) 1 0 (x1).length, .sl (n + 3) 1 0 (x3).length, .sl (n + 4) 1 0 (x5).length, .sl (n + 5) 1 0 (x7).length]], 1⟩]) (Vn hn) 2 rfl (Xu (loc2 := [⟨34, 5, [.agg [.int .i64 p0.Time, .vs 1 (Wa (Wb .i64) p0.States), .vs 1 (Wa (Wb .i64) p0.Since), .vs 1 (Wa Wc p0.Pulled), .vs 1 (Wa Wc p0.Held)]], 0⟩, ⟨34, 5, [.agg [.int .i64 0, .nils, .nils, .nils, .nils]], 0⟩, ⟨3, 1, Wa (Wb .i64) x9.States, 1⟩, ⟨3, 1, Wa (Wb .i64) x9.Since, 1⟩, ⟨4, 1, Wa Wc x5, 1⟩, ⟨4, 1, Wa Wc x7, 1⟩, ⟨34, 5, [.agg [.int .i64 x9.Time, .sl (n + 2) 1 0 (x1).length, .sl (n + 3) 1 0 (x3).length, .sl (n + 4) 1 0 (x5).length, .sl (n + 5) 1 0 (x7).length]], 1⟩]) (Vn hn) 3 rfl (Xu (loc2 := [⟨34, 5, [.agg [.int .i64 p0.Time, .vs 1 (Wa (Wb .i64) p0.States), .vs 1 (Wa (Wb .i64) p0.Since), .vs 1 (Wa Wc p0.Pulled), .vs 1 (Wa Wc p0.Held)]], 0⟩, ⟨34, 5, [.agg [.int .i64 0, .nils, .nils, .nils, .nils]], 0⟩, ⟨3, 1, Wa (Wb .i64) x9.States, 1⟩, ⟨3, 1, Wa (Wb .i64) x9.Since, 1⟩, ⟨4, 1, Wa Wc x9.Pulled, 1⟩, ⟨4, 1, Wa Wc x7, 1⟩, ⟨34, 5, [.agg [.int .i64 x9.Time, .sl (n + 2) 1 0 (x1).length, .sl (n + 3) 1 0 (x3).length, .sl (n + 4) 1 0 (x5).length, .sl (n + 5) 1 0 (x7).length]], 1⟩]) (Vn hn) 4 rfl (Xu (loc2 := [⟨34, 5, [.agg [.int .i64 p0.Time, .vs 1 (Wa (Wb .i64) p0.States), .vs 1 (Wa (Wb .i64) p0.Since), .vs 1 (Wa Wc p0.Pulled), .vs 1 (Wa Wc p0.Held)]], 0⟩, ⟨34, 5, [.agg [.int .i64 0, .nils, .nils, .nils, .nils]], 0⟩, ⟨3, 1, Wa (Wb .i64) x9.States, 1⟩, ⟨3, 1, Wa (Wb .i64) x9.Since, 1⟩, ⟨4, 1, Wa Wc x9.Pulled, 1⟩, ⟨4, 1, Wa Wc x9.Held, 1⟩, ⟨34, 5, [.agg [.int .i64 x9.Time, .sl (n + 2) 1 0 (x1).length, .sl (n + 3) 1 0 (x3).length, .sl (n + 4) 1 0 (x5).length, .sl (n + 5) 1 0 (x7).length]], 1⟩]) (Vn hn) 5 rfl (Zq (ps0' := [(q0, ⟨27, 1, [.vs 2 (Wa T_Belt.enc pc10)], w0⟩), (q1, ⟨3, 1, [.int .i64 pc11], w1⟩)]) hB rfl 0 rfl (ltObjN hn ⟨.vs _ _, trivial⟩) rfl (Zq (ps0' := [(q0, ⟨27, 1, [.vs 2 (Wa T_Belt.enc pc10)], w0⟩), (q1, ⟨3, 1, [.int .i64 pc11], w1⟩)]) hB rfl 1 rfl (ltObjN hn ⟨.int _ _, trivial⟩) rfl Za))))))) rfl) rfl ?_
  refine Vh ?_
  refine Vi ?_
  refine Vf ?_
  refine Va (Xk (ds := [.int .i64 x9.Time, .sl (n + 2) 1 0 (x1).length, .sl (n + 3) 1 0 (x3).length, .sl (n + 4) 1 0 (x5).length, .sl (n + 5) 1 0 (x7).length]) rfl (Vg (Vn hn) rfl) rfl ta_34 ts_34 rfl rfl rfl) rfl ?_
  refine Vj (Xo (p := .agg [.int .i64 x9.Time, .sl (n + 2) 1 0 (x1).length, .sl (n + 3) 1 0 (x3).length, .sl (n + 4) 1 0 (x5).length, .sl (n + 5) 1 0 (x7).length]) (e' := .agg [.int .i64 x9.Time, .sl (n + 2) 1 0 (x1).length, .sl (n + 3) 1 0 (x3).length, .sl (n + 4) 1 0 (x5).length, .sl (n + 5) 1 0 (x7).length]) rfl (Vg (Vn hn) rfl) rfl rfl ts_34 rfl (Yv rfl) rfl (We rfl) rfl (Ym (Vn hn) rfl)) rfl ?_
  refine Vh ?_
  refine Xj ?_
  obtain rfl := Wd hF
  refine fnR ?_
  refine Weak.trans (Vt (E' := [(4, .ptr (n + 1) 0 0 0)]) (loc1 := [⟨34, 5, [.agg [.int .i64 p0.Time, .vs 1 (Wa (Wb .i64) p0.States), .vs 1 (Wa (Wb .i64) p0.Since), .vs 1 (Wa Wc p0.Pulled), .vs 1 (Wa Wc p0.Held)]], 0⟩, ⟨34, 5, [.agg [.int .i64 x9.Time, .sl (n + 2) 1 0 (x1).length, .sl (n + 3) 1 0 (x3).length, .sl (n + 4) 1 0 (x5).length, .vs 1 (Wa Wc x9.Held)]], 0⟩, ⟨3, 1, Wa (Wb .i64) x9.States, 1⟩, ⟨3, 1, Wa (Wb .i64) x9.Since, 1⟩, ⟨4, 1, Wa Wc x9.Pulled, 1⟩, ⟨4, 1, [], 1 + 1⟩, ⟨34, 5, [.agg [.int .i64 x9.Time, .sl (n + 2) 1 0 (x1).length, .sl (n + 3) 1 0 (x3).length, .sl (n + 4) 1 0 (x5).length, .vs 1 (Wa Wc x9.Held)]], 1⟩]) (Vn hn) 5 rfl (Yf (fun _ => .bool _)) ⟨Vd rfl, trivial⟩ ⟨.refl _, Xs ⟨Vd rfl, Vd rfl, Vd rfl, Vd rfl, Yq rfl rfl rfl (Xb (F_belts_Pull_1_len h10 (rfl : (x1).length = _) (rfl : (x3).length = _) (rfl : (x5).length = _) (rfl : (x7).length = _)).2.2.2.1), trivial⟩, .refl _, .refl _, .refl _, .refl _, Xs ⟨Vd rfl, Vd rfl, Vd rfl, Vd rfl, Yq rfl rfl rfl (Xb (F_belts_Pull_1_len h10 (rfl : (x1).length = _) (rfl : (x3).length = _) (rfl : (x5).length = _) (rfl : (x7).length = _)).2.2.2.1), trivial⟩, trivial⟩) ?_
  exact Vw (Vn hn) [(2, 1), (3, 1), (4, 1), (1, 0)] (by decide) ⟨Yl 3 1 rfl rfl, trivial⟩ ⟨⟨_, rfl, rfl, .same _ _ _ _ (Vk (fun _ => .int _ _))⟩, ⟨_, rfl, rfl, .same _ _ _ _ (Vk (fun _ => .int _ _))⟩, ⟨_, rfl, rfl, .same _ _ _ _ (Vk (fun _ => .bool _))⟩, ⟨_, rfl, rfl, .agg _ _ _ _ _ ⟨Vs rfl (.int _ _), Zr 0 2 rfl (congrArg (PV.sl _ _ 0) (F_belts_Pull_1_len h10 (rfl : (x1).length = _) (rfl : (x3).length = _) (rfl : (x5).length = _) (rfl : (x7).length = _)).1), Zr 1 3 rfl (congrArg (PV.sl _ _ 0) (F_belts_Pull_1_len h10 (rfl : (x1).length = _) (rfl : (x3).length = _) (rfl : (x5).length = _) (rfl : (x7).length = _)).2.1), Zr 2 4 rfl (congrArg (PV.sl _ _ 0) (F_belts_Pull_1_len h10 (rfl : (x1).length = _) (rfl : (x3).length = _) (rfl : (x5).length = _) (rfl : (x7).length = _)).2.2.1), Vs rfl (.vs _ _), trivial⟩⟩, trivial⟩
 ·rintro _ _ _ _ ⟨he, hw⟩
  refine ⟨_, _, _, hw, ?_⟩
  exact Zz (Vn hn) 3 rfl (We rfl) he [.agg [.int .i64 r.Time, .sl (n + 0) 0 0 (r.States).length, .sl (n + 1) 0 0 (r.Since).length, .sl (n + 2) 0 0 (r.Pulled).length, .vs 1 (Wa Wc r.Held)]] ⟨Xk rfl (Vg (Vn hn) rfl) rfl ta_34 ts_34 rfl rfl rfl, trivial⟩ ((Xl ⟨.int _ _, .sl _ _ _ _ (lt_kk rfl), .sl _ _ _ _ (lt_kk rfl), .sl _ _ _ _ (lt_kk rfl), .vs _ _, trivial⟩)) ⟨Vk (fun _ => .int _ _), Vk (fun _ => .int _ _), Vk (fun _ => .bool _), trivial⟩ ⟨rfl, rfl⟩

theorem F_belts_done__belts_Pull_1_ok {p0 : T_Line} {pc10 : List T_Belt} {pc11 : Int} {r : T_Line} (hF : F_belts_done__belts_Pull_1 p0 pc10 pc11 = some r) {low : List AObj} {q0 q1 w0 w1 : Nat} (hnd : [q0, q1].Nodup) (hq0 : low[q0]? = some ⟨27, 1, [.vs 2 (Wa T_Belt.enc pc10)], w0⟩) (hq1 : low[q1]? = some ⟨3, 1, [.int .i64 pc11], w1⟩) {n : Nat} (hn : low.length = n) :
    Yk Try.prog 31 [.agg [.int .i64 p0.Time, .vs 1 (Wa (Wb .i64) p0.States), .vs 1 (Wa (Wb .i64) p0.Since), .vs 1 (Wa Wc p0.Pulled), .vs 1 (Wa Wc p0.Held)], .fn 35 [] [.ptr q0 w0 0 0, .ptr q1 w1 0 0]] low fun x low' => x = .agg [.int .i64 r.Time, .sl (n + 0) 0 0 (r.States).length, .sl (n + 1) 0 0 (r.Since).length, .sl (n + 2) 0 0 (r.Pulled).length, .vs 1 (Wa Wc r.Held)] ∧ low' = setL low [(q0, ⟨27, 1, [.vs 2 (Wa T_Belt.enc pc10)], w0⟩), (q1, ⟨3, 1, [.int .i64 pc11], w1⟩)] ++ [⟨3, 1, Wa (Wb .i64) r.States, 0⟩, ⟨3, 1, Wa (Wb .i64) r.Since, 0⟩, ⟨4, 1, Wa Wc r.Pulled, 0⟩] := by
  obtain ⟨h1, h2⟩ := Zn (ps := [(q0, ⟨27, 1, [.vs 2 (Wa T_Belt.enc pc10)], w0⟩), (q1, ⟨3, 1, [.int .i64 pc11], w1⟩)]) hnd (Zl hq0 (Zl hq1 bor0))
  exact Zf h1 (F_belts_done__belts_Pull_1_ok0 hF h2 hn)

theorem F_belts_Pull_ok {p0 : List T_Belt} {p1 : T_Line} {p2 : Int} {r : T_Line × Int} (hF : F_belts_Pull p0 p1 p2 = some r) (low : List AObj) {n : Nat} (hn : low.length = n) :
    Yk Try.prog 15 [.vs 2 (Wa T_Belt.enc p0), .agg [.int .i64 p1.Time, .vs 1 (Wa (Wb .i64) p1.States), .vs 1 (Wa (Wb .i64) p1.Since), .vs 1 (Wa Wc p1.Pulled), .vs 1 (Wa Wc p1.Held)], .int .i64 p2] low fun x low' => x = .tup [.agg [.int .i64 r.1.Time, .vs 1 (Wa (Wb .i64) r.1.States), .vs 1 (Wa (Wb .i64) r.1.Since), .vs 1 (Wa Wc r.1.Pulled), .vs 1 (Wa Wc r.1.Held)], .int .i64 r.2] ∧ low' = low ++ [] := by
 refine Vz (nt := 20) (rs := [.cell 6 34, .tmp 7]) Try.func15 rfl rfl (We rfl) rfl ?_
 refine Vx (Q' := FnE (fun E' lw lc => Xv E' lw lc [(6, .ptr (n + 0) 0 0 0), (7, .int .i64 r.2)] low [⟨34, 5, [.agg [.int .i64 r.1.Time, .vs 1 (Wa (Wb .i64) r.1.States), .vs 1 (Wa (Wb .i64) r.1.Since), .vs 1 (Wa Wc r.1.Pulled), .vs 1 (Wa Wc r.1.Held)]], 0⟩])) ?_ ?_
 ·unfold F_belts_Pull at hF
  refine Vi ?_
  refine Vf ?_
  refine Vj (Yx hn rfl (v := .vs 2 (Wa T_Belt.enc p0)) rfl rfl (Wf _) rfl rfl) rfl ?_
  refine Vj (Yx hn rfl (v := .agg [.int .i64 p1.Time, .vs 1 (Wa (Wb .i64) p1.States), .vs 1 (Wa (Wb .i64) p1.Since), .vs 1 (Wa Wc p1.Pulled), .vs 1 (Wa Wc p1.Held)]) rfl rfl (Wf _) rfl rfl) rfl ?_
  refine Vj (Yx hn rfl (v := .int .i64 p2) rfl rfl (Wf _) rfl rfl) rfl ?_
  refine Vj (Xi hn rfl tz_34 rfl rfl (Wf _) rfl) rfl ?_
  refine Va (Xr rfl) rfl ?_
  refine Vh ?_
  refine Vi ?_
  refine Vi ?_
  refine Vf ?_
  obtain ⟨x1, h2, hF⟩ := Yt hF
  refine Va (Ve rfl (Vg hn rfl) rfl ta_27 rfl) rfl ?_
  refine Va (Xk (ds := [.int .i64 p1.Time, .vs 1 (Wa (Wb .i64) p1.States), .vs 1 (Wa (Wb .i64) p1.Since), .vs 1 (Wa Wc p1.Pulled), .vs 1 (Wa Wc p1.Held)]) rfl (Vg hn rfl) rfl ta_34 ts_34 rfl rfl rfl) rfl ?_
  refine Va (Ve rfl (Vg hn rfl) rfl ta_3 rfl) rfl ?_
  refine Vj (Xt rfl Try.call30 (F_belts_checked_ok h2 _)) rfl ?_
  refine Va (Xr rfl) rfl ?_
  refine Vh ?_
  refine Vi ?_
  refine Vf ?_
  refine Va (Vm rfl) rfl ?_
  refine Va (Zg rfl rfl) rfl ?_
  refine Vh ?_
  refine Xq rfl (fun c3 => ?_) (fun c3 => ?_)
  ·have hF := Yr c3 hF
   refine Vi ?_
   refine Vf ?_
   refine Va (Xk (ds := [.int .i64 p1.Time, .vs 1 (Wa (Wb .i64) p1.States), .vs 1 (Wa (Wb .i64) p1.Since), .vs 1 (Wa Wc p1.Pulled), .vs 1 (Wa Wc p1.Held)]) rfl (Vg hn rfl) rfl ta_34 ts_34 rfl rfl rfl) rfl ?_
   refine Va (Vm rfl) rfl ?_
   refine Vj (Xo (p := .agg [.int .i64 p1.Time, .vs 1 (Wa (Wb .i64) p1.States), .vs 1 (Wa (Wb .i64) p1.Since), .vs 1 (Wa Wc p1.Pulled), .vs 1 (Wa Wc p1.Held)]) (e' := .agg [.int .i64 p1.Time, .vs 1 (Wa (Wb .i64) p1.States), .vs 1 (Wa (Wb .i64) p1.Since), .vs 1 (Wa Wc p1.Pulled), .vs 1 (Wa Wc p1.Held)]) rfl (Vg hn rfl) rfl rfl ts_34 rfl (Yv rfl) rfl (We rfl) rfl (Ym hn rfl)) rfl ?_
   refine Va (Xr rfl) rfl ?_
   refine Vh ?_
   refine Xj ?_
   obtain rfl := Wd hF
   refine fnR ?_
   exact Vw hn [(3, 0)] (by decide) ⟨Yl 0 3 rfl rfl, Vs rfl (.int _ _), trivial⟩ ⟨⟨_, rfl, rfl, .same _ _ _ _ (Xd ⟨Xl ⟨.int _ _, .vs _ _, .vs _ _, .vs _ _, .vs _ _, trivial⟩, trivial⟩)⟩, trivial⟩
  ·have hF := Ys c3 hF
   refine Xy ?_
   refine Vi ?_
   refine Vf ?_
   obtain ⟨x4, h5, hF⟩ := Yt hF
   refine Va (Xk (ds := [.int .i64 p1.Time, .vs 1 (Wa (Wb .i64) p1.States), .vs 1 (Wa (Wb .i64) p1.Since), .vs 1 (Wa Wc p1.Pulled), .vs 1 (Wa Wc p1.Held)]) rfl (Vg hn rfl) rfl ta_34 ts_34 rfl rfl rfl) rfl ?_
   refine Va (rd_makeFn rfl) rfl ?_
   refine Vj (Yu (ps := [((n + 0), ⟨27, 1, [.vs 2 (Wa T_Belt.enc p0)], 0⟩), ((n + 2), ⟨3, 1, [.int .i64 p2], 0⟩)]) (r := .agg [.int .i64 x4.Time, .sl (n + 4) 0 0 (x4.States).length, .sl (n + 5) 0 0 (x4.Since).length, .sl (n + 6) 0 0 (x4.Pulled).length, .vs 1 (Wa Wc x4.Held)]) (os := [⟨3, 1, Wa (Wb .i64) x4.States, 0⟩, ⟨3, 1, Wa (Wb .i64) x4.Since, 0⟩, ⟨4, 1, Wa Wc x4.Pulled, 0⟩]) (low1 := low) (loc1 := [⟨27, 1, [.vs 2 (Wa T_Belt.enc p0)], 0⟩, ⟨34, 5, [.agg [.int .i64 p1.Time, .vs 1 (Wa (Wb .i64) p1.States), .vs 1 (Wa (Wb .i64) p1.Since), .vs 1 (Wa Wc p1.Pulled), .vs 1 (Wa Wc p1.Held)]], 0⟩, ⟨3, 1, [.int .i64 p2], 0⟩, ⟨34, 5, [.agg [.int .i64 0, .nils, .nils, .nils, .nils]], 0⟩]) (loc2 := [⟨27, 1, [.vs 2 (Wa T_Belt.enc p0)], 0⟩, ⟨34, 5, [.agg [.int .i64 p1.Time, .vs 1 (Wa (Wb .i64) p1.States), .vs 1 (Wa (Wb .i64) p1.Since), .vs 1 (Wa Wc p1.Pulled), .vs 1 (Wa Wc p1.Held)]], 0⟩, ⟨3, 1, [.int .i64 p2], 0⟩, ⟨34, 5, [.agg [.int .i64 0, .nils, .nils, .nils, .nils]], 0⟩, ⟨3, 1, Wa (Wb .i64) x4.States, 0⟩, ⟨3, 1, Wa (Wb .i64) x4.Since, 0⟩, ⟨4, 1, Wa Wc x4.Pulled, 0⟩]) rfl Try.call31 (F_belts_done__belts_Pull_1_ok h5 (nd1 (Zb (Yc rfl) na0) (nd1 na0 nd0)) (Zd hn rfl) (Zd hn rfl) (Xc hn rfl)) (Xu (loc2 := [⟨27, 1, [.vs 2 (Wa T_Belt.enc p0)], 0⟩, ⟨34, 5, [.agg [.int .i64 p1.Time, .vs 1 (Wa (Wb .i64) p1.States), .vs 1 (Wa (Wb .i64) p1.Since), .vs 1 (Wa Wc p1.Pulled), .vs 1 (Wa Wc p1.Held)]], 0⟩, ⟨3, 1, [.int .i64 p2], 0⟩, ⟨34, 5, [.agg [.int .i64 0, .nils, .nils, .nils, .nils]], 0⟩]) hn 0 rfl (Xu (loc2 := [⟨27, 1, [.vs 2 (Wa T_Belt.enc p0)], 0⟩, ⟨34, 5, [.agg [.int .i64 p1.Time, .vs 1 (Wa (Wb .i64) p1.States), .vs 1 (Wa (Wb .i64) p1.Since), .vs 1 (Wa Wc p1.Pulled), .vs 1 (Wa Wc p1.Held)]], 0⟩, ⟨3, 1, [.int .i64 p2], 0⟩, ⟨34, 5, [.agg [.int .i64 0, .nils, .nils, .nils, .nils]], 0⟩]) hn 2 rfl Za)) rfl) rfl ?_
   refine Vj (Xo (p := .agg [.int .i64 x4.Time, .sl (n + 4) 0 0 (x4.States).length, .sl (n + 5) 0 0 (x4.Since).length, .sl (n + 6) 0 0 (x4.Pulled).length, .vs 1 (Wa Wc x4.Held)]) (e' := .agg [.int .i64 x4.Time, .sl (n + 4) 0 0 (x4.States).length, .sl (n + 5) 0 0 (x4.Since).length, .sl (n + 6) 0 0 (x4.Pulled).length, .vs 1 (Wa Wc x4.Held)]) rfl (Vg hn rfl) rfl rfl ts_34 rfl (Yv rfl) rfl (We rfl) rfl (Ym hn rfl)) rfl ?_
   refine Va (Xr rfl) rfl ?_
   refine Vh ?_
   refine Xj ?_
   obtain rfl := Wd hF
   refine fnR ?_
   refine Weak.trans (Vt (E' := [(6, .ptr (n + 3) 0 0 0), (7, .int .i64 0)]) (loc1 := [⟨27, 1, [.vs 2 (Wa T_Belt.enc p0)], 0⟩, ⟨34, 5, [.agg [.int .i64 p1.Time, .vs 1 (Wa (Wb .i64) p1.States), .vs 1 (Wa (Wb .i64) p1.Since), .vs 1 (Wa Wc p1.Pulled), .vs 1 (Wa Wc p1.Held)]], 0⟩, ⟨3, 1, [.int .i64 p2], 0⟩, ⟨34, 5, [.agg [.int .i64 x4.Time, .vs 1 (Wa (Wb .i64) x4.States), .sl (n + 5) 0 0 (x4.Since).length, .sl (n + 6) 0 0 (x4.Pulled).length, .vs 1 (Wa Wc x4.Held)]], 0⟩, ⟨3, 1, [], 0 + 1⟩, ⟨3, 1, Wa (Wb .i64) x4.Since, 0⟩, ⟨4, 1, Wa Wc x4.Pulled, 0⟩]) hn 4 rfl (Yf (fun _ => .int _ _)) ⟨Vd rfl, Vd rfl, trivial⟩ ⟨.refl _, .refl _, .refl _, Xs ⟨Vd rfl, Yq rfl rfl rfl (Xb rfl), Vd rfl, Vd rfl, Vd rfl, trivial⟩, .refl _, .refl _, .refl _, trivial⟩) ?_
   refine Weak.trans (Vt (E' := [(6, .ptr (n + 3) 0 0 0), (7, .int .i64 0)]) (loc1 := [⟨27, 1, [.vs 2 (Wa T_Belt.enc p0)], 0⟩, ⟨34, 5, [.agg [.int .i64 p1.Time, .vs 1 (Wa (Wb .i64) p1.States), .vs 1 (Wa (Wb .i64) p1.Since), .vs 1 (Wa Wc p1.Pulled), .vs 1 (Wa Wc p1.Held)]], 0⟩, ⟨3, 1, [.int .i64 p2], 0⟩, ⟨34, 5, [.agg [.int .i64 x4.Time, .vs 1 (Wa (Wb .i64) x4.States), .vs 1 (Wa (Wb .i64) x4.Since), .sl (n + 6) 0 0 (x4.Pulled).length, .vs 1 (Wa Wc x4.Held)]], 0⟩, ⟨3, 1, [], 0 + 1⟩, ⟨3, 1, [], 0 + 1⟩, ⟨4, 1, Wa Wc x4.Pulled, 0⟩]) hn 5 rfl (Yf (fun _ => .int _ _)) ⟨Vd rfl, Vd rfl, trivial⟩ ⟨.refl _, .refl _, .refl _, Xs ⟨Vd rfl, Vd rfl, Yq rfl rfl rfl (Xb rfl), Vd rfl, Vd rfl, trivial⟩, .refl _, .refl _, .refl _, trivial⟩) ?_
   refine Weak.trans (Vt (E' := [(6, .ptr (n + 3) 0 0 0), (7, .int .i64 0)]) (loc1 := [⟨27, 1, [.vs 2 (Wa T_Belt.enc p0)], 0⟩, ⟨34, 5, [.agg [.int .i64 p1.Time, .vs 1 (Wa (Wb .i64) p1.States), .vs 1 (Wa (Wb .i64) p1.Since), .vs 1 (Wa Wc p1.Pulled), .vs 1 (Wa Wc p1.Held)]], 0⟩, ⟨3, 1, [.int .i64 p2], 0⟩, ⟨34, 5, [.agg [.int .i64 x4.Time, .vs 1 (Wa (Wb .i64) x4.States), .vs 1 (Wa (Wb .i64) x4.Since), .vs 1 (Wa Wc x4.Pulled), .vs 1 (Wa Wc x4.Held)]], 0⟩, ⟨3, 1, [], 0 + 1⟩, ⟨3, 1, [], 0 + 1⟩, ⟨4, 1, [], 0 + 1⟩]) hn 6 rfl (Yf (fun _ => .bool _)) ⟨Vd rfl, Vd rfl, trivial⟩ ⟨.refl _, .refl _, .refl _, Xs ⟨Vd rfl, Vd rfl, Vd rfl, Yq rfl rfl rfl (Xb rfl), Vd rfl, trivial⟩, .refl _, .refl _, .refl _, trivial⟩) ?_
   exact Vw hn [(3, 0)] (by decide) ⟨Yl 0 3 rfl rfl, Vs rfl (.int _ _), trivial⟩ ⟨⟨_, rfl, rfl, .same _ _ _ _ (Xd ⟨Xl ⟨.int _ _, .vs _ _, .vs _ _, .vs _ _, .vs _ _, trivial⟩, trivial⟩)⟩, trivial⟩
 ·rintro _ _ _ _ ⟨he, hw⟩
  refine ⟨_, _, _, hw, ?_⟩
  exact Zz hn 0 rfl (We rfl) he [.agg [.int .i64 r.1.Time, .vs 1 (Wa (Wb .i64) r.1.States), .vs 1 (Wa (Wb .i64) r.1.Since), .vs 1 (Wa Wc r.1.Pulled), .vs 1 (Wa Wc r.1.Held)], .int .i64 r.2] ⟨Xk rfl (Vg hn rfl) rfl ta_34 ts_34 rfl rfl rfl, rfl, trivial⟩ ((lt_tup ⟨(Xl ⟨.int _ _, .vs _ _, .vs _ _, .vs _ _, .vs _ _, trivial⟩), .int _ _, trivial⟩)) trivial ⟨rfl, rfl⟩

theorem F_belts_Above_1_ok0 {p0 : Int} {p1 : List T_Belt} {p2 : Int} {r : Bool} (hF : F_belts_Above_1 p0 p1 p2 = some r) {low0 : List AObj} {q0 q1 w0 w1 : Nat} (hB : Bor low0 [q0, q1]) {n : Nat} (hn : low0.length = n) :
    Yk Try.prog 38 [.int .i64 p0, .ptr q0 w0 0 0, .ptr q1 w1 0 0] (setL low0 [(q0, ⟨27, 1, [.vs 2 (Wa T_Belt.enc p1)], w0⟩), (q1, ⟨3, 1, [.int .i64 p2], w1⟩)]) fun x low' => x = .bool r ∧ low' = setL low0 [(q0, ⟨27, 1, [.vs 2 (Wa T_Belt.enc p1)], w0⟩), (q1, ⟨3, 1, [.int .i64 p2], w1⟩)] ++ [] := by
 refine Vz (nt := 9) (rs := [.tmp 4]) Try.func38 rfl rfl (We rfl) rfl ?_
 have hq0 : q0 < n := hB.ltN hn 0 rfl
 have hq1 : q1 < n := hB.ltN hn 1 rfl
 refine Vx (Q' := FnE (fun E' lw lc => Xv E' lw lc [(4, .bool r)] (setL low0 [(q0, ⟨27, 1, [.vs 2 (Wa T_Belt.enc p1)], w0⟩), (q1, ⟨3, 1, [.int .i64 p2], w1⟩)]) [])) ?_ ?_
 ·unfold F_belts_Above_1 at hF
  refine Vi ?_
  refine Vf ?_
  refine Va (Yd rfl) rfl ?_
  refine Vh ?_
  refine Vi ?_
  refine Vf ?_
  obtain ⟨x1, h2, hF⟩ := Yt hF
  refine Va (Ve rfl (Yb hB rfl 0 rfl) rfl ta_27 rfl) rfl ?_
  refine Va (Vm rfl) rfl ?_
  refine Va (Ve rfl (Yb hB rfl 1 rfl) rfl ta_3 rfl) rfl ?_
  refine Vj (Xt rfl Try.call39 (F_belts_throws_ok h2 _)) rfl ?_
  refine Va (Yd rfl) rfl ?_
  refine Vh ?_
  refine Xj ?_
  obtain rfl := Wd hF
  refine fnR ?_
  exact Vq ⟨rfl, trivial⟩
 ·rintro _ _ _ _ ⟨he, hw⟩
  refine ⟨_, _, _, hw, ?_⟩
  exact Yw he [.bool r] ⟨rfl, trivial⟩ (.bool _) ⟨rfl, (List.append_nil _).symm⟩

theorem F_belts_Above_1_ok {p0 : Int} {p1 : List T_Belt} {p2 : Int} {r : Bool} (hF : F_belts_Above_1 p0 p1 p2 = some r) {low : List AObj} {q0 q1 w0 w1 : Nat} (hnd : [q0, q1].Nodup) (hq0 : low[q0]? = some ⟨27, 1, [.vs 2 (Wa T_Belt.enc p1)], w0⟩) (hq1 : low[q1]? = some ⟨3, 1, [.int .i64 p2], w1⟩) {n : Nat} (hn : low.length = n) :
    Yk Try.prog 38 [.int .i64 p0, .ptr q0 w0 0 0, .ptr q1 w1 0 0] low fun x low' => x = .bool r ∧ low' = setL low [(q0, ⟨27, 1, [.vs 2 (Wa T_Belt.enc p1)], w0⟩), (q1, ⟨3, 1, [.int .i64 p2], w1⟩)] ++ [] := by
  obtain ⟨h1, h2⟩ := Zn (ps := [(q0, ⟨27, 1, [.vs 2 (Wa T_Belt.enc p1)], w0⟩), (q1, ⟨3, 1, [.int .i64 p2], w1⟩)]) hnd (Zl hq0 (Zl hq1 bor0))
  exact Zf h1 (F_belts_Above_1_ok0 hF h2 hn)

theorem F_lists_Where__belts_Above_1_ok0 {p0 : Int} {pc10 : List T_Belt} {pc11 : Int} {r : List Int} (hF : F_lists_Where__belts_Above_1 p0 pc10 pc11 = some r) {low0 : List AObj} {q0 q1 w0 w1 : Nat} (hB : Bor low0 [q0, q1]) {n : Nat} (hn : low0.length = n) :
    Yk Try.prog 37 [.int .i64 p0, .fn 38 [] [.ptr q0 w0 0 0, .ptr q1 w1 0 0]] (setL low0 [(q0, ⟨27, 1, [.vs 2 (Wa T_Belt.enc pc10)], w0⟩), (q1, ⟨3, 1, [.int .i64 pc11], w1⟩)]) fun x low' => x = .vs 1 (Wa (Wb .i64) r) ∧ low' = setL low0 [(q0, ⟨27, 1, [.vs 2 (Wa T_Belt.enc pc10)], w0⟩), (q1, ⟨3, 1, [.int .i64 pc11], w1⟩)] ++ [] := by
 refine Vz (nt := 20) (rs := [.tmp 4]) Try.func37 rfl rfl (We rfl) rfl ?_
 have hq0 : q0 < n := hB.ltN hn 0 rfl
 have hq1 : q1 < n := hB.ltN hn 1 rfl
 refine Vx (Q' := FnE (fun E' lw lc => Xv E' lw lc [(4, .vs 1 (Wa (Wb .i64) r))] (setL low0 [(q0, ⟨27, 1, [.vs 2 (Wa T_Belt.enc pc10)], w0⟩), (q1, ⟨3, 1, [.int .i64 pc11], w1⟩)]) [])) ?_ ?_
 ·unfold F_lists_Where__belts_Above_1 at hF
  refine Vi ?_
  refine Vf ?_
  refine Va (rd_nv (sz := 1) (rd_asN rfl)) rfl ?_
  refine Vh ?_
  refine Vi ?_
  refine Vf ?_
  refine Vj (vef_nilsN (Vn hn) rfl 3 1 (Wf _) (rd_asN rfl)) rfl ?_
  refine Vh ?_
  refine Vi ?_
  refine Vi ?_
  refine Vf ?_
  refine Va (Vm rfl) rfl ?_
  refine Va (Vm rfl) rfl ?_
  refine Vh ?_
  refine Yp ?_
  obtain ⟨o2, ho2, hF⟩ := Yt hF
  refine Vx (vwp_loopC (F_lists_Where__belts_Above_1_L1 p0 pc10 pc11) (fun s1 E' lw lc => Xv E' lw lc [(1, .fn 38 [] [.ptr q0 w0 0 0, .ptr q1 w1 0 0]), (5, .sl (n + 0) 0 0 (s1.2).length), (7, .int .i64 p0), (8, .int .i64 s1.1)] (setL low0 [(q0, ⟨27, 1, [.vs 2 (Wa T_Belt.enc pc10)], w0⟩), (q1, ⟨3, 1, [.int .i64 pc11], w1⟩)]) [⟨3, 1, Wa (Wb .i64) s1.2, 0⟩]) (fun o2 => OnlyE (.exit 0) (fun E' lw lc => Xv E' lw lc [(5, .sl (n + 0) 0 0 (o2).length)] (setL low0 [(q0, ⟨27, 1, [.vs 2 (Wa T_Belt.enc pc10)], w0⟩), (q1, ⟨3, 1, [.int .i64 pc11], w1⟩)]) [⟨3, 1, Wa (Wb .i64) o2, 0⟩])) ho2 ?_ (by rintro _ _ _ _ ⟨h, _⟩ <;> cases h) ?_) ?_
  ·exact Vq ⟨rfl, rfl, rfl, rfl, trivial⟩
  ·rintro s1 os1 _ _ _ hF hw
   unfold F_lists_Where__belts_Above_1_L1 at hF
   refine Xz hw ?_
   refine Vi ?_
   refine Vf ?_
   refine Va (rd_lss rfl rfl) rfl ?_
   refine Vh ?_
   refine Vi ?_
   refine Xq rfl (fun c3 => ?_) (fun c3 => ?_)
   ·have hF := Yr c3 hF
    refine Xy ?_
    refine Vi ?_
    obtain ⟨o4, ho4, hF⟩ := Yt hF
    refine Vx (Q' := (fun o4 => OnlyE .normal (fun E' lw lc => Xv E' lw lc [(1, .fn 38 [] [.ptr q0 w0 0 0, .ptr q1 w1 0 0]), (5, .sl (n + 0) 0 0 (o4).length), (7, .int .i64 p0), (8, .int .i64 s1.1)] (setL low0 [(q0, ⟨27, 1, [.vs 2 (Wa T_Belt.enc pc10)], w0⟩), (q1, ⟨3, 1, [.int .i64 pc11], w1⟩)]) [⟨3, 1, Wa (Wb .i64) o4, 0⟩])) o4) ?_ ?_
    ·replace hF := ho4
     refine Yp ?_
     refine Vi ?_
     refine Vf ?_
     refine Va (Vm rfl) rfl ?_
     refine Va (Xr rfl) rfl ?_
     refine Vh ?_
     refine Vi ?_
     refine Vf ?_
     obtain ⟨x5, h6, hF⟩ := Yt hF
     refine Va (rd_mvF rfl) rfl ?_
     refine Va (Vm rfl) rfl ?_
     refine Vj (Yu (ps := [(q0, ⟨27, 1, [.vs 2 (Wa T_Belt.enc pc10)], w0⟩), (q1, ⟨3, 1, [.int .i64 pc11], w1⟩)]) (r := .bool x5) (os := []) (low1 := (setL low0 [(q0, ⟨27, 1, [.vs 2 (Wa T_Belt.enc pc10)], w0⟩), (q1, ⟨3, 1, [.int .i64 pc11], w1⟩)])) (loc1 := [⟨3, 1, Wa (Wb .i64) s1.2, 0⟩]) (loc2 := [⟨3, 1, Wa (Wb .i64) s1.2, 0⟩]) rfl Try.call38 (F_belts_Above_1_ok h6 (nd1 (Zb (hB.ne 0 1 rfl rfl rfl) na0) (nd1 na0 nd0)) (get_B hB rfl 0 rfl) (get_B hB rfl 1 rfl) (Xc (Vn hn) rfl)) (Zq (ps0' := [(q0, ⟨27, 1, [.vs 2 (Wa T_Belt.enc pc10)], w0⟩), (q1, ⟨3, 1, [.int .i64 pc11], w1⟩)]) hB rfl 0 rfl (ltObjN hn ⟨.vs _ _, trivial⟩) rfl (Zq (ps0' := [(q0, ⟨27, 1, [.vs 2 (Wa T_Belt.enc pc10)], w0⟩), (q1, ⟨3, 1, [.int .i64 pc11], w1⟩)]) hB rfl 1 rfl (ltObjN hn ⟨.int _ _, trivial⟩) rfl Za)) rfl) rfl ?_
     refine Vh ?_
     refine Xq rfl (fun c7 => ?_) (fun c7 => ?_)
     ·have hF := Yr c7 hF
      refine Vf ?_
      obtain ⟨x8, h9, hF⟩ := Yt hF
      refine Va (rd_mvL rfl) rfl ?_
      refine Va (Vm rfl) rfl ?_
      refine Vj (vef_litF (es := Wa (Wb .i64) [s1.1]) ⟨rfl, rfl, trivial⟩ rfl rfl (nt_all rfl) te_22 ts_3 tz_3 rfl rfl (Wf _) (by decide) (Yf (fun _ => .int _ _))) rfl ?_
      refine Vj (vef_apL (f := (Wb .i64)) (l := s1.2) (ys := [s1.1]) rfl rfl (Vg (Vn hn) rfl) rfl (src_vs rfl) te_22 ts_3 tb_3 (by decide) tz_3 rfl h9 (Ym (Vn hn) rfl)) rfl ?_
      refine Va (rd_asL rfl) rfl ?_
      refine Vh ?_
      obtain rfl := Wd hF
      refine Ye ?_
      exact Vw (Vn hn) [(0, 0 + 1)] (by decide) ⟨Vs rfl (lt_fn ⟨.ptr _ _ _ _ hq0, .ptr _ _ _ _ hq1, trivial⟩), Zr 0 0 rfl rfl, Vs rfl (.int _ _), Vs rfl (.int _ _), trivial⟩ ⟨⟨_, rfl, rfl, .same _ _ _ _ (Vk (fun _ => .int _ _))⟩, trivial⟩
     ·have hF := Ys c7 hF
      refine Xy ?_
      obtain rfl := Wd hF
      refine Ye ?_
      exact Vq ⟨rfl, rfl, rfl, rfl, trivial⟩
    ·rintro _ _ _ _ ⟨rfl, hw⟩
     refine ⟨_, _, _, hw, ?_⟩
     refine Vf ?_
     refine Va (rd_add rfl rfl rfl) rfl ?_
     refine Va (Vm rfl) rfl ?_
     refine Vh ?_
     obtain rfl := Wd hF
     refine Ye ?_
     exact Vq ⟨rfl, rfl, rfl, rfl, trivial⟩
   ·have hF := Ys c3 hF
    refine vwp_exit ?_
    obtain rfl := Wd hF
    refine Ye ?_
    exact Vq ⟨rfl, trivial⟩
  ·rintro _ _ _ _ ⟨rfl, hw⟩
   refine ⟨_, _, _, hw, ?_⟩
   refine Vi ?_
   refine Vf ?_
   refine Va (rd_mvL rfl) rfl ?_
   refine Va (rd_asL rfl) rfl ?_
   refine Vh ?_
   refine Xj ?_
   obtain rfl := Wd hF
   refine fnR ?_
   refine Weak.trans (Vt (E' := [(4, .vs 1 (Wa (Wb .i64) o2))]) (loc1 := [⟨3, 1, [], 0 + 1⟩]) (Vn hn) 0 rfl (Yf (fun _ => .int _ _)) ⟨Yq rfl rfl rfl (Xb rfl), trivial⟩ ⟨.refl _, trivial⟩) ?_
   exact Vw (Vn hn) [] (by decide) ⟨Vs rfl (.vs _ _), trivial⟩ trivial
 ·rintro _ _ _ _ ⟨he, hw⟩
  refine ⟨_, _, _, hw, ?_⟩
  exact Yw he [.vs 1 (Wa (Wb .i64) r)] ⟨rfl, trivial⟩ (.vs _ _) ⟨rfl, (List.append_nil _).symm⟩

theorem F_lists_Where__belts_Above_1_ok {p0 : Int} {pc10 : List T_Belt} {pc11 : Int} {r : List Int} (hF : F_lists_Where__belts_Above_1 p0 pc10 pc11 = some r) {low : List AObj} {q0 q1 w0 w1 : Nat} (hnd : [q0, q1].Nodup) (hq0 : low[q0]? = some ⟨27, 1, [.vs 2 (Wa T_Belt.enc pc10)], w0⟩) (hq1 : low[q1]? = some ⟨3, 1, [.int .i64 pc11], w1⟩) {n : Nat} (hn : low.length = n) :
    Yk Try.prog 37 [.int .i64 p0, .fn 38 [] [.ptr q0 w0 0 0, .ptr q1 w1 0 0]] low fun x low' => x = .vs 1 (Wa (Wb .i64) r) ∧ low' = setL low [(q0, ⟨27, 1, [.vs 2 (Wa T_Belt.enc pc10)], w0⟩), (q1, ⟨3, 1, [.int .i64 pc11], w1⟩)] ++ [] := by
  obtain ⟨h1, h2⟩ := Zn (ps := [(q0, ⟨27, 1, [.vs 2 (Wa T_Belt.enc pc10)], w0⟩), (q1, ⟨3, 1, [.int .i64 pc11], w1⟩)]) hnd (Zl hq0 (Zl hq1 bor0))
  exact Zf h1 (F_lists_Where__belts_Above_1_ok0 hF h2 hn)

theorem F_belts_Above_ok {p0 : List T_Belt} {p1 : Int} {r : List Int} (hF : F_belts_Above p0 p1 = some r) (low : List AObj) :
    Yk Try.prog 16 [.vs 2 (Wa T_Belt.enc p0), .int .i64 p1] low fun x low' => x = .vs 1 (Wa (Wb .i64) r) ∧ low' = low := by
 refine Vz (nt := 20) (rs := [.tmp 4]) Try.func16 rfl rfl (We rfl) rfl ?_
 refine Vx (Q' := FnE (fun E' lw lc => Xv E' lw lc [(4, .vs 1 (Wa (Wb .i64) r))] low [])) ?_ ?_
 ·unfold F_belts_Above at hF
  refine Vi ?_
  refine Vf ?_
  refine Vj (Yx rfl rfl (v := .vs 2 (Wa T_Belt.enc p0)) rfl rfl (Wf _) rfl rfl) rfl ?_
  refine Vj (Yx rfl rfl (v := .int .i64 p1) rfl rfl (Wf _) rfl rfl) rfl ?_
  refine Va (rd_nv (sz := 1) (rd_asN rfl)) rfl ?_
  refine Vh ?_
  refine Vi ?_
  refine Vi ?_
  obtain ⟨o1, ho1, hF⟩ := Yt hF
  refine Vx (Q' := (fun o1 => OnlyE .normal (fun E' lw lc => Xv E' lw lc [(2, .ptr (low.length + 0) 0 0 0), (3, .ptr (low.length + 1) 0 0 0), (15, .bool o1)] low [⟨27, 1, [.vs 2 (Wa T_Belt.enc p0)], 0⟩, ⟨3, 1, [.int .i64 p1], 0⟩])) o1) ?_ ?_
  ·replace hF := ho1
   refine Vf ?_
   obtain ⟨x2, h3, hF⟩ := Yt hF
   rcases Wg (!x2) with c4 | c4
   ·have hF := Yr c4 hF
    refine Va (Ve rfl (Vg rfl rfl) rfl ta_27 rfl) rfl ?_
    refine Vj (Xt rfl Try.call29 (F_belts_sound_ok h3 _)) rfl ?_
    refine Va (Zo rfl) rfl ?_
    refine Va (Vl rfl) rfl ?_
    refine Vb rfl rfl (Zx c4) rfl ?_
    refine Vb rfl rfl (Zx c4) rfl ?_
    refine Vb rfl rfl (Zx c4) rfl ?_
    refine Vb rfl rfl (Zx c4) rfl ?_
    refine Vb rfl rfl (Zx c4) rfl ?_
    refine Vb rfl rfl (Zx c4) rfl ?_
    refine Va (Vo (congrArg Wc c4) rfl) rfl ?_
    refine Vh ?_
    obtain rfl := Wd hF
    refine Ye ?_
    exact Vq ⟨rfl, rfl, rfl, trivial⟩
   ·have hF := Ys c4 hF
    obtain ⟨x5, h6, hF⟩ := Yt hF
    refine Va (Ve rfl (Vg rfl rfl) rfl ta_27 rfl) rfl ?_
    refine Vj (Xt rfl Try.call29 (F_belts_sound_ok h3 _)) rfl ?_
    refine Va (Zo rfl) rfl ?_
    refine Va (Vl rfl) rfl ?_
    refine Xh rfl rfl c4 ?_
    refine Va (Ve rfl (Vg rfl rfl) rfl ta_3 rfl) rfl ?_
    refine Xh rfl rfl c4 ?_
    refine Va (Ve rfl (Vg rfl rfl) rfl ta_27 rfl) rfl ?_
    refine Xh rfl rfl c4 ?_
    refine Va (Xp (Xx rfl rfl te_27) (congrArg (fun n : Nat => Wb .i64 (n : Int)) (Wh _))) rfl ?_
    refine Xh rfl rfl c4 ?_
    refine Va (rd_sub rfl rfl rfl) rfl ?_
    refine Xh rfl rfl c4 ?_
    refine Vj (Xt rfl Try.call33 (F_lists_In_ok h6 _)) rfl ?_
    refine Xh rfl rfl c4 ?_
    refine Va (Zo rfl) rfl ?_
    refine Va (Vp (congrArg Wc c4) rfl) rfl ?_
    refine Vh ?_
    obtain rfl := Wd hF
    refine Ye ?_
    exact Vq ⟨rfl, rfl, rfl, trivial⟩
  ·rintro _ _ _ _ ⟨rfl, hw⟩
   refine ⟨_, _, _, hw, ?_⟩
   refine Xq rfl (fun c7 => ?_) (fun c7 => ?_)
   ·have hF := Yr c7 hF
    refine Vi ?_
    refine Vf ?_
    refine Va (rd_nv (sz := 1) (rd_asN rfl)) rfl ?_
    refine Vh ?_
    refine Xj ?_
    obtain rfl := Wd hF
    refine fnR ?_
    exact Vw rfl [] (by decide) ⟨Vs rfl (.vs _ _), trivial⟩ trivial
   ·have hF := Ys c7 hF
    refine Xy ?_
    refine Vi ?_
    refine Vf ?_
    obtain ⟨x8, h9, hF⟩ := Yt hF
    refine Va (Ve rfl (Vg rfl rfl) rfl ta_27 rfl) rfl ?_
    refine Va (Xp (Xx rfl rfl te_27) (congrArg (fun n : Nat => Wb .i64 (n : Int)) (Wh _))) rfl ?_
    refine Va (rd_makeFn rfl) rfl ?_
    refine Vj (Yu (ps := [((low.length + 0), ⟨27, 1, [.vs 2 (Wa T_Belt.enc p0)], 0⟩), ((low.length + 1), ⟨3, 1, [.int .i64 p1], 0⟩)]) (r := .vs 1 (Wa (Wb .i64) x8)) (os := []) (low1 := low) (loc1 := [⟨27, 1, [.vs 2 (Wa T_Belt.enc p0)], 0⟩, ⟨3, 1, [.int .i64 p1], 0⟩]) (loc2 := [⟨27, 1, [.vs 2 (Wa T_Belt.enc p0)], 0⟩, ⟨3, 1, [.int .i64 p1], 0⟩]) rfl Try.call37 (F_lists_Where__belts_Above_1_ok h9 (nd1 (Zb (Yc rfl) na0) (nd1 na0 nd0)) (Zd rfl rfl) (Zd rfl rfl) (Xc rfl rfl)) (Xu (loc2 := [⟨27, 1, [.vs 2 (Wa T_Belt.enc p0)], 0⟩, ⟨3, 1, [.int .i64 p1], 0⟩]) rfl 0 rfl (Xu (loc2 := [⟨27, 1, [.vs 2 (Wa T_Belt.enc p0)], 0⟩, ⟨3, 1, [.int .i64 p1], 0⟩]) rfl 1 rfl Za)) rfl) rfl ?_
    refine Va (rd_asV rfl) rfl ?_
    refine Vh ?_
    refine Xj ?_
    obtain rfl := Wd hF
    refine fnR ?_
    exact Vw rfl [] (by decide) ⟨Vs rfl (.vs _ _), trivial⟩ trivial
 ·rintro _ _ _ _ ⟨he, hw⟩
  refine ⟨_, _, _, hw, ?_⟩
  exact Yw he [.vs 1 (Wa (Wb .i64) r)] ⟨rfl, trivial⟩ (.vs _ _) ⟨rfl, rfl⟩

theorem F_law39_awake_ok  {r : Bool} (hF : F_law39_awake = some r) (low : List AObj) :
    Yk Try.prog 8 [] low fun x low' => x = .bool r ∧ low' = low := by
 refine Vz (nt := 123) (rs := [.tmp 0]) Try.func8 rfl rfl (We rfl) rfl ?_
 refine Vx (Q' := FnE (fun E' lw lc => Xv E' lw lc [(0, .bool r)] low [])) ?_ ?_
 ·unfold F_law39_awake at hF
  refine Vi ?_
  refine Vf ?_
  refine Va (Yd rfl) rfl ?_
  refine Vh ?_
  refine Vi ?_
  refine Vf ?_
  refine Va (Zt (vs := [(0, .int .i64 (-1)), (1, .int .i64 5)]) (ds := [.int .i64 (-1), .int .i64 5]) tz_31 rfl rfl tp_31 ⟨rfl, rfl, rfl, rfl, trivial⟩ (nt_all2 rfl) rfl) rfl ?_
  refine Va (Zt (vs := [(0, .int .i64 0), (1, .int .i64 3)]) (ds := [.int .i64 0, .int .i64 3]) tz_31 rfl rfl tp_31 ⟨rfl, rfl, rfl, rfl, trivial⟩ (nt_all2 rfl) rfl) rfl ?_
  refine Vj (vef_litF (es := Wa T_Belt.enc [(T_Belt.mk (-1) 5), (T_Belt.mk 0 3)]) ⟨rfl, rfl, rfl, rfl, trivial⟩ rfl rfl (nt_all rfl) te_27 ts_31 tz_31 rfl rfl (Wf _) (by decide) (Yf T_Belt.enc_lt)) rfl ?_
  refine Va (rd_asV rfl) rfl ?_
  refine Vh ?_
  refine Vi ?_
  refine Vf ?_
  obtain ⟨x1, h2, hF⟩ := Yt hF
  refine Va (Xw rfl) rfl ?_
  refine Vj (Xt rfl Try.call12 (F_belts_Make_ok h2 _)) rfl ?_
  refine Va (rd_mvT rfl) rfl ?_
  refine Va (Yh rfl rfl) rfl ?_
  refine Va (Yh rfl rfl) rfl ?_
  refine Vj (Xi rfl rfl tz_34 rfl rfl (Wf _) rfl) rfl ?_
  refine Vj (Xo (p := .agg [.int .i64 x1.1.Time, .vs 1 (Wa (Wb .i64) x1.1.States), .vs 1 (Wa (Wb .i64) x1.1.Since), .vs 1 (Wa Wc x1.1.Pulled), .vs 1 (Wa Wc x1.1.Held)]) (e' := .agg [.int .i64 x1.1.Time, .vs 1 (Wa (Wb .i64) x1.1.States), .vs 1 (Wa (Wb .i64) x1.1.Since), .vs 1 (Wa Wc x1.1.Pulled), .vs 1 (Wa Wc x1.1.Held)]) rfl (Vg rfl rfl) rfl rfl ts_34 rfl (Yv rfl) rfl (We rfl) rfl (Ym rfl rfl)) rfl ?_
  refine Va (Xr rfl) rfl ?_
  refine Vh ?_
  refine Vi ?_
  refine Vf ?_
  obtain ⟨x3, h4, hF⟩ := Yt hF
  refine Va (Xw rfl) rfl ?_
  refine Va (Xk (ds := [.int .i64 x1.1.Time, .vs 1 (Wa (Wb .i64) x1.1.States), .vs 1 (Wa (Wb .i64) x1.1.Since), .vs 1 (Wa Wc x1.1.Pulled), .vs 1 (Wa Wc x1.1.Held)]) rfl (Vg rfl rfl) rfl ta_34 ts_34 rfl rfl rfl) rfl ?_
  refine Vj (Xf (r := .tup [.agg [.int .i64 x3.1.Time, .vs 1 (Wa (Wb .i64) x3.1.States), .vs 1 (Wa (Wb .i64) x3.1.Since), .vs 1 (Wa Wc x3.1.Pulled), .vs 1 (Wa Wc x3.1.Held)], .int .i64 x3.2]) (os := []) rfl Try.call13 (F_belts_Start_ok h4 _ (Xc rfl rfl))) rfl ?_
  refine Va (rd_mvT rfl) rfl ?_
  refine Va (Yh rfl rfl) rfl ?_
  refine Va (Yh rfl rfl) rfl ?_
  refine Vj (Xi rfl rfl tz_34 rfl rfl (Wf _) rfl) rfl ?_
  refine Vj (Xo (p := .agg [.int .i64 x3.1.Time, .vs 1 (Wa (Wb .i64) x3.1.States), .vs 1 (Wa (Wb .i64) x3.1.Since), .vs 1 (Wa Wc x3.1.Pulled), .vs 1 (Wa Wc x3.1.Held)]) (e' := .agg [.int .i64 x3.1.Time, .vs 1 (Wa (Wb .i64) x3.1.States), .vs 1 (Wa (Wb .i64) x3.1.Since), .vs 1 (Wa Wc x3.1.Pulled), .vs 1 (Wa Wc x3.1.Held)]) rfl (Vg rfl rfl) rfl rfl ts_34 rfl (Yv rfl) rfl (We rfl) rfl (Ym rfl rfl)) rfl ?_
  refine Va (Xr rfl) rfl ?_
  refine Vh ?_
  refine Vi ?_
  refine Vf ?_
  obtain ⟨x5, h6, hF⟩ := Yt hF
  refine Va (Xw rfl) rfl ?_
  refine Va (Xk (ds := [.int .i64 x1.1.Time, .vs 1 (Wa (Wb .i64) x1.1.States), .vs 1 (Wa (Wb .i64) x1.1.Since), .vs 1 (Wa Wc x1.1.Pulled), .vs 1 (Wa Wc x1.1.Held)]) rfl (Vg rfl rfl) rfl ta_34 ts_34 rfl rfl rfl) rfl ?_
  refine Vj (Xf (r := .tup [.agg [.int .i64 x5.1.Time, .vs 1 (Wa (Wb .i64) x5.1.States), .vs 1 (Wa (Wb .i64) x5.1.Since), .vs 1 (Wa Wc x5.1.Pulled), .vs 1 (Wa Wc x5.1.Held)], .int .i64 x5.2]) (os := []) rfl Try.call13 (F_belts_Start_ok h6 _ (Xc rfl rfl))) rfl ?_
  refine Va (rd_mvT rfl) rfl ?_
  refine Va (Yh rfl rfl) rfl ?_
  refine Va (Yh rfl rfl) rfl ?_
  refine Vj (Xo (p := .agg [.int .i64 x5.1.Time, .vs 1 (Wa (Wb .i64) x5.1.States), .vs 1 (Wa (Wb .i64) x5.1.Since), .vs 1 (Wa Wc x5.1.Pulled), .vs 1 (Wa Wc x5.1.Held)]) (e' := .agg [.int .i64 x5.1.Time, .vs 1 (Wa (Wb .i64) x5.1.States), .vs 1 (Wa (Wb .i64) x5.1.Since), .vs 1 (Wa Wc x5.1.Pulled), .vs 1 (Wa Wc x5.1.Held)]) rfl (Vg rfl rfl) rfl rfl ts_34 rfl (Yv rfl) rfl (We rfl) rfl (Ym rfl rfl)) rfl ?_
  refine Va (Xr rfl) rfl ?_
  refine Vh ?_
  refine Vi ?_
  refine Vf ?_
  obtain ⟨x7, h8, hF⟩ := Yt hF
  refine Va (Xw rfl) rfl ?_
  refine Va (Xk (ds := [.int .i64 x5.1.Time, .vs 1 (Wa (Wb .i64) x5.1.States), .vs 1 (Wa (Wb .i64) x5.1.Since), .vs 1 (Wa Wc x5.1.Pulled), .vs 1 (Wa Wc x5.1.Held)]) rfl (Vg rfl rfl) rfl ta_34 ts_34 rfl rfl rfl) rfl ?_
  refine Vj (Xf (r := .tup [.agg [.int .i64 x7.1.Time, .vs 1 (Wa (Wb .i64) x7.1.States), .vs 1 (Wa (Wb .i64) x7.1.Since), .vs 1 (Wa Wc x7.1.Pulled), .vs 1 (Wa Wc x7.1.Held)], .int .i64 x7.2]) (os := []) rfl Try.call14 (F_belts_Wait_ok h8 _ (Xc rfl rfl))) rfl ?_
  refine Va (rd_mvT rfl) rfl ?_
  refine Va (Yh rfl rfl) rfl ?_
  refine Va (Yh rfl rfl) rfl ?_
  refine Vj (Xo (p := .agg [.int .i64 x7.1.Time, .vs 1 (Wa (Wb .i64) x7.1.States), .vs 1 (Wa (Wb .i64) x7.1.Since), .vs 1 (Wa Wc x7.1.Pulled), .vs 1 (Wa Wc x7.1.Held)]) (e' := .agg [.int .i64 x7.1.Time, .vs 1 (Wa (Wb .i64) x7.1.States), .vs 1 (Wa (Wb .i64) x7.1.Since), .vs 1 (Wa Wc x7.1.Pulled), .vs 1 (Wa Wc x7.1.Held)]) rfl (Vg rfl rfl) rfl rfl ts_34 rfl (Yv rfl) rfl (We rfl) rfl (Ym rfl rfl)) rfl ?_
  refine Va (Xr rfl) rfl ?_
  refine Vh ?_
  refine Vi ?_
  refine Vf ?_
  obtain ⟨x9, h10, hF⟩ := Yt hF
  refine Va (Xw rfl) rfl ?_
  refine Va (Xk (ds := [.int .i64 x7.1.Time, .vs 1 (Wa (Wb .i64) x7.1.States), .vs 1 (Wa (Wb .i64) x7.1.Since), .vs 1 (Wa Wc x7.1.Pulled), .vs 1 (Wa Wc x7.1.Held)]) rfl (Vg rfl rfl) rfl ta_34 ts_34 rfl rfl rfl) rfl ?_
  refine Vj (Xf (r := .tup [.agg [.int .i64 x9.1.Time, .vs 1 (Wa (Wb .i64) x9.1.States), .vs 1 (Wa (Wb .i64) x9.1.Since), .vs 1 (Wa Wc x9.1.Pulled), .vs 1 (Wa Wc x9.1.Held)], .int .i64 x9.2]) (os := []) rfl Try.call13 (F_belts_Start_ok h10 _ (Xc rfl rfl))) rfl ?_
  refine Va (rd_mvT rfl) rfl ?_
  refine Va (Yh rfl rfl) rfl ?_
  refine Va (Yh rfl rfl) rfl ?_
  refine Vj (Xo (p := .agg [.int .i64 x9.1.Time, .vs 1 (Wa (Wb .i64) x9.1.States), .vs 1 (Wa (Wb .i64) x9.1.Since), .vs 1 (Wa Wc x9.1.Pulled), .vs 1 (Wa Wc x9.1.Held)]) (e' := .agg [.int .i64 x9.1.Time, .vs 1 (Wa (Wb .i64) x9.1.States), .vs 1 (Wa (Wb .i64) x9.1.Since), .vs 1 (Wa Wc x9.1.Pulled), .vs 1 (Wa Wc x9.1.Held)]) rfl (Vg rfl rfl) rfl rfl ts_34 rfl (Yv rfl) rfl (We rfl) rfl (Ym rfl rfl)) rfl ?_
  refine Va (Xr rfl) rfl ?_
  refine Vh ?_
  refine Vi ?_
  refine Vf ?_
  obtain ⟨x11, h12, hF⟩ := Yt hF
  refine Va (Xw rfl) rfl ?_
  refine Va (Xk (ds := [.int .i64 x9.1.Time, .vs 1 (Wa (Wb .i64) x9.1.States), .vs 1 (Wa (Wb .i64) x9.1.Since), .vs 1 (Wa Wc x9.1.Pulled), .vs 1 (Wa Wc x9.1.Held)]) rfl (Vg rfl rfl) rfl ta_34 ts_34 rfl rfl rfl) rfl ?_
  refine Vj (Xf (r := .tup [.agg [.int .i64 x11.1.Time, .vs 1 (Wa (Wb .i64) x11.1.States), .vs 1 (Wa (Wb .i64) x11.1.Since), .vs 1 (Wa Wc x11.1.Pulled), .vs 1 (Wa Wc x11.1.Held)], .int .i64 x11.2]) (os := []) rfl Try.call14 (F_belts_Wait_ok h12 _ (Xc rfl rfl))) rfl ?_
  refine Va (rd_mvT rfl) rfl ?_
  refine Va (Yh rfl rfl) rfl ?_
  refine Va (Yh rfl rfl) rfl ?_
  refine Vj (Xo (p := .agg [.int .i64 x11.1.Time, .vs 1 (Wa (Wb .i64) x11.1.States), .vs 1 (Wa (Wb .i64) x11.1.Since), .vs 1 (Wa Wc x11.1.Pulled), .vs 1 (Wa Wc x11.1.Held)]) (e' := .agg [.int .i64 x11.1.Time, .vs 1 (Wa (Wb .i64) x11.1.States), .vs 1 (Wa (Wb .i64) x11.1.Since), .vs 1 (Wa Wc x11.1.Pulled), .vs 1 (Wa Wc x11.1.Held)]) rfl (Vg rfl rfl) rfl rfl ts_34 rfl (Yv rfl) rfl (We rfl) rfl (Ym rfl rfl)) rfl ?_
  refine Va (Xr rfl) rfl ?_
  refine Vh ?_
  refine Vi ?_
  refine Vf ?_
  obtain ⟨x13, h14, hF⟩ := Yt hF
  refine Va (Xw rfl) rfl ?_
  refine Va (Xk (ds := [.int .i64 x11.1.Time, .vs 1 (Wa (Wb .i64) x11.1.States), .vs 1 (Wa (Wb .i64) x11.1.Since), .vs 1 (Wa Wc x11.1.Pulled), .vs 1 (Wa Wc x11.1.Held)]) rfl (Vg rfl rfl) rfl ta_34 ts_34 rfl rfl rfl) rfl ?_
  refine Vj (Xf (r := .tup [.agg [.int .i64 x13.1.Time, .vs 1 (Wa (Wb .i64) x13.1.States), .vs 1 (Wa (Wb .i64) x13.1.Since), .vs 1 (Wa Wc x13.1.Pulled), .vs 1 (Wa Wc x13.1.Held)], .int .i64 x13.2]) (os := []) rfl Try.call15 (F_belts_Pull_ok h14 _ (Xc rfl rfl))) rfl ?_
  refine Va (rd_mvT rfl) rfl ?_
  refine Va (Yh rfl rfl) rfl ?_
  refine Va (Yh rfl rfl) rfl ?_
  refine Vj (Xi rfl rfl tz_34 rfl rfl (Wf _) rfl) rfl ?_
  refine Vj (Xo (p := .agg [.int .i64 x13.1.Time, .vs 1 (Wa (Wb .i64) x13.1.States), .vs 1 (Wa (Wb .i64) x13.1.Since), .vs 1 (Wa Wc x13.1.Pulled), .vs 1 (Wa Wc x13.1.Held)]) (e' := .agg [.int .i64 x13.1.Time, .vs 1 (Wa (Wb .i64) x13.1.States), .vs 1 (Wa (Wb .i64) x13.1.Since), .vs 1 (Wa Wc x13.1.Pulled), .vs 1 (Wa Wc x13.1.Held)]) rfl (Vg rfl rfl) rfl rfl ts_34 rfl (Yv rfl) rfl (We rfl) rfl (Ym rfl rfl)) rfl ?_
  refine Va (Xr rfl) rfl ?_
  refine Vh ?_
  refine Vi ?_
  refine Vf ?_
  obtain ⟨x15, h16, hF⟩ := Yt hF
  refine Va (Xw rfl) rfl ?_
  refine Vj (Xt rfl Try.call16 (F_belts_Above_ok h16 _)) rfl ?_
  refine Va (rd_asV rfl) rfl ?_
  refine Vh ?_
  refine Vi ?_
  refine Vf ?_
  rcases Wg (decide (x1.2 = 0)) with c17 | c17
  ·have hF := Yr c17 hF
   rcases Wg (decide (x3.2 = 10)) with c18 | c18
   ·have hF := Yr c18 hF
    rcases Wg (decide (x5.2 = 0)) with c19 | c19
    ·have hF := Yr c19 hF
     rcases Wg (decide (x7.2 = 0)) with c20 | c20
     ·have hF := Yr c20 hF
      rcases Wg (decide (x9.2 = 0)) with c21 | c21
      ·have hF := Yr c21 hF
       rcases Wg (decide (x11.2 = 0)) with c22 | c22
       ·have hF := Yr c22 hF
        rcases Wg (decide (x13.2 = 0)) with c23 | c23
        ·have hF := Yr c23 hF
         rcases Wg (decide (((x11.1.States).length : Int) = 2)) with c24 | c24
         ·have hF := Yr c24 hF
          obtain ⟨x25, h26, hF⟩ := Yt hF
          rcases Wg (decide (x25 = 2)) with c27 | c27
          ·have hF := Yr c27 hF
           obtain ⟨x28, h29, hF⟩ := Yt hF
           rcases Wg (decide (x28 = 8)) with c30 | c30
           ·have hF := Yr c30 hF
            rcases Wg (decide (((x13.1.States).length : Int) = 2)) with c31 | c31
            ·have hF := Yr c31 hF
             obtain ⟨x32, h33, hF⟩ := Yt hF
             rcases Wg (decide (x32 = 0)) with c34 | c34
             ·have hF := Yr c34 hF
              refine Va (Vm rfl) rfl ?_
              refine Va (Xe rfl rfl) rfl ?_
              refine Va (Vl rfl) rfl ?_
              refine Xh rfl rfl c17 ?_
              refine Va (Vm rfl) rfl ?_
              refine Xh rfl rfl c17 ?_
              refine Va (Xe rfl rfl) rfl ?_
              refine Va (Vo (congrArg Wc c17) rfl) rfl ?_
              refine Va (Vl rfl) rfl ?_
              refine Xh rfl rfl c18 ?_
              refine Va (Vm rfl) rfl ?_
              refine Xh rfl rfl c18 ?_
              refine Va (Xe rfl rfl) rfl ?_
              refine Va (Vo (congrArg Wc c18) rfl) rfl ?_
              refine Va (Vl rfl) rfl ?_
              refine Xh rfl rfl c19 ?_
              refine Va (Vm rfl) rfl ?_
              refine Xh rfl rfl c19 ?_
              refine Va (Xe rfl rfl) rfl ?_
              refine Va (Vo (congrArg Wc c19) rfl) rfl ?_
              refine Va (Vl rfl) rfl ?_
              refine Xh rfl rfl c20 ?_
              refine Va (Vm rfl) rfl ?_
              refine Xh rfl rfl c20 ?_
              refine Va (Xe rfl rfl) rfl ?_
              refine Va (Vo (congrArg Wc c20) rfl) rfl ?_
              refine Va (Vl rfl) rfl ?_
              refine Xh rfl rfl c21 ?_
              refine Va (Vm rfl) rfl ?_
              refine Xh rfl rfl c21 ?_
              refine Va (Xe rfl rfl) rfl ?_
              refine Va (Vo (congrArg Wc c21) rfl) rfl ?_
              refine Va (Vl rfl) rfl ?_
              refine Xh rfl rfl c22 ?_
              refine Va (Vm rfl) rfl ?_
              refine Xh rfl rfl c22 ?_
              refine Va (Xe rfl rfl) rfl ?_
              refine Va (Vo (congrArg Wc c22) rfl) rfl ?_
              refine Va (Vl rfl) rfl ?_
              refine Xh rfl rfl c23 ?_
              refine Va (Vc rfl tf_34_1 ts_22 (by decide)) rfl ?_
              refine Xh rfl rfl c23 ?_
              refine Va (Ve rfl (Vg rfl rfl) rfl ta_22 rfl) rfl ?_
              refine Xh rfl rfl c23 ?_
              refine Va (Xp (Xx rfl rfl te_22) (congrArg (fun n : Nat => Wb .i64 (n : Int)) (Wh _))) rfl ?_
              refine Xh rfl rfl c23 ?_
              refine Va (Xe rfl rfl) rfl ?_
              refine Va (Vo (congrArg Wc c23) rfl) rfl ?_
              refine Va (Vl rfl) rfl ?_
              refine Xh rfl rfl c24 ?_
              refine Va (Vc rfl tf_34_1 ts_22 (by decide)) rfl ?_
              refine Xh rfl rfl c24 ?_
              refine Va (Ve rfl (Vg rfl rfl) rfl ta_22 rfl) rfl ?_
              refine Xh rfl rfl c24 ?_
              refine Va (Xp (Yn rfl rfl h26 te_22 ts_3) (v' := .vptr [.int .i64 x25] 0) rfl) rfl ?_
              refine Xh rfl rfl c24 ?_
              refine Va (Xm rfl ta_3 rfl) rfl ?_
              refine Xh rfl rfl c24 ?_
              refine Va (Xe rfl rfl) rfl ?_
              refine Va (Vo (congrArg Wc c24) rfl) rfl ?_
              refine Va (Vl rfl) rfl ?_
              refine Xh rfl rfl c27 ?_
              refine Va (Vc rfl tf_34_2 ts_22 (by decide)) rfl ?_
              refine Xh rfl rfl c27 ?_
              refine Va (Ve rfl (Vg rfl rfl) rfl ta_22 rfl) rfl ?_
              refine Xh rfl rfl c27 ?_
              refine Va (Xp (Yn rfl rfl h29 te_22 ts_3) (v' := .vptr [.int .i64 x28] 0) rfl) rfl ?_
              refine Xh rfl rfl c27 ?_
              refine Va (Xm rfl ta_3 rfl) rfl ?_
              refine Xh rfl rfl c27 ?_
              refine Va (Xe rfl rfl) rfl ?_
              refine Va (Vo (congrArg Wc c27) rfl) rfl ?_
              refine Va (Vl rfl) rfl ?_
              refine Xh rfl rfl c30 ?_
              refine Va (Vc rfl tf_34_1 ts_22 (by decide)) rfl ?_
              refine Xh rfl rfl c30 ?_
              refine Va (Ve rfl (Vg rfl rfl) rfl ta_22 rfl) rfl ?_
              refine Xh rfl rfl c30 ?_
              refine Va (Xp (Xx rfl rfl te_22) (congrArg (fun n : Nat => Wb .i64 (n : Int)) (Wh _))) rfl ?_
              refine Xh rfl rfl c30 ?_
              refine Va (Xe rfl rfl) rfl ?_
              refine Va (Vo (congrArg Wc c30) rfl) rfl ?_
              refine Va (Vl rfl) rfl ?_
              refine Xh rfl rfl c31 ?_
              refine Va (Vc rfl tf_34_1 ts_22 (by decide)) rfl ?_
              refine Xh rfl rfl c31 ?_
              refine Va (Ve rfl (Vg rfl rfl) rfl ta_22 rfl) rfl ?_
              refine Xh rfl rfl c31 ?_
              refine Va (Xp (Yn rfl rfl h33 te_22 ts_3) (v' := .vptr [.int .i64 x32] 0) rfl) rfl ?_
              refine Xh rfl rfl c31 ?_
              refine Va (Xm rfl ta_3 rfl) rfl ?_
              refine Xh rfl rfl c31 ?_
              refine Va (Xe rfl rfl) rfl ?_
              refine Va (Vo (congrArg Wc c31) rfl) rfl ?_
              refine Va (Vl rfl) rfl ?_
              refine Xh rfl rfl c34 ?_
              refine Va (Xw rfl) rfl ?_
              refine Xh rfl rfl c34 ?_
              refine Va (Xp (Xx rfl rfl te_22) (congrArg (fun n : Nat => Wb .i64 (n : Int)) (Wh _))) rfl ?_
              refine Xh rfl rfl c34 ?_
              refine Va (Xe rfl rfl) rfl ?_
              refine Va (Vo (congrArg Wc c34) rfl) rfl ?_
              refine Va (Yd rfl) rfl ?_
              refine Vh ?_
              refine Xj ?_
              obtain rfl := Wd hF
              refine fnR ?_
              exact Vw rfl [] (by decide) ⟨Vs rfl (.bool _), trivial⟩ trivial
             ·have hF := Ys c34 hF
              refine Va (Vm rfl) rfl ?_
              refine Va (Xe rfl rfl) rfl ?_
              refine Va (Vl rfl) rfl ?_
              refine Xh rfl rfl c17 ?_
              refine Va (Vm rfl) rfl ?_
              refine Xh rfl rfl c17 ?_
              refine Va (Xe rfl rfl) rfl ?_
              refine Va (Vo (congrArg Wc c17) rfl) rfl ?_
              refine Va (Vl rfl) rfl ?_
              refine Xh rfl rfl c18 ?_
              refine Va (Vm rfl) rfl ?_
              refine Xh rfl rfl c18 ?_
              refine Va (Xe rfl rfl) rfl ?_
              refine Va (Vo (congrArg Wc c18) rfl) rfl ?_
              refine Va (Vl rfl) rfl ?_
              refine Xh rfl rfl c19 ?_
              refine Va (Vm rfl) rfl ?_
              refine Xh rfl rfl c19 ?_
              refine Va (Xe rfl rfl) rfl ?_
              refine Va (Vo (congrArg Wc c19) rfl) rfl ?_
              refine Va (Vl rfl) rfl ?_
              refine Xh rfl rfl c20 ?_
              refine Va (Vm rfl) rfl ?_
              refine Xh rfl rfl c20 ?_
              refine Va (Xe rfl rfl) rfl ?_
              refine Va (Vo (congrArg Wc c20) rfl) rfl ?_
              refine Va (Vl rfl) rfl ?_
              refine Xh rfl rfl c21 ?_
              refine Va (Vm rfl) rfl ?_
              refine Xh rfl rfl c21 ?_
              refine Va (Xe rfl rfl) rfl ?_
              refine Va (Vo (congrArg Wc c21) rfl) rfl ?_
              refine Va (Vl rfl) rfl ?_
              refine Xh rfl rfl c22 ?_
              refine Va (Vm rfl) rfl ?_
              refine Xh rfl rfl c22 ?_
              refine Va (Xe rfl rfl) rfl ?_
              refine Va (Vo (congrArg Wc c22) rfl) rfl ?_
              refine Va (Vl rfl) rfl ?_
              refine Xh rfl rfl c23 ?_
              refine Va (Vc rfl tf_34_1 ts_22 (by decide)) rfl ?_
              refine Xh rfl rfl c23 ?_
              refine Va (Ve rfl (Vg rfl rfl) rfl ta_22 rfl) rfl ?_
              refine Xh rfl rfl c23 ?_
              refine Va (Xp (Xx rfl rfl te_22) (congrArg (fun n : Nat => Wb .i64 (n : Int)) (Wh _))) rfl ?_
              refine Xh rfl rfl c23 ?_
              refine Va (Xe rfl rfl) rfl ?_
              refine Va (Vo (congrArg Wc c23) rfl) rfl ?_
              refine Va (Vl rfl) rfl ?_
              refine Xh rfl rfl c24 ?_
              refine Va (Vc rfl tf_34_1 ts_22 (by decide)) rfl ?_
              refine Xh rfl rfl c24 ?_
              refine Va (Ve rfl (Vg rfl rfl) rfl ta_22 rfl) rfl ?_
              refine Xh rfl rfl c24 ?_
              refine Va (Xp (Yn rfl rfl h26 te_22 ts_3) (v' := .vptr [.int .i64 x25] 0) rfl) rfl ?_
              refine Xh rfl rfl c24 ?_
              refine Va (Xm rfl ta_3 rfl) rfl ?_
              refine Xh rfl rfl c24 ?_
              refine Va (Xe rfl rfl) rfl ?_
              refine Va (Vo (congrArg Wc c24) rfl) rfl ?_
              refine Va (Vl rfl) rfl ?_
              refine Xh rfl rfl c27 ?_
              refine Va (Vc rfl tf_34_2 ts_22 (by decide)) rfl ?_
              refine Xh rfl rfl c27 ?_
              refine Va (Ve rfl (Vg rfl rfl) rfl ta_22 rfl) rfl ?_
              refine Xh rfl rfl c27 ?_
              refine Va (Xp (Yn rfl rfl h29 te_22 ts_3) (v' := .vptr [.int .i64 x28] 0) rfl) rfl ?_
              refine Xh rfl rfl c27 ?_
              refine Va (Xm rfl ta_3 rfl) rfl ?_
              refine Xh rfl rfl c27 ?_
              refine Va (Xe rfl rfl) rfl ?_
              refine Va (Vo (congrArg Wc c27) rfl) rfl ?_
              refine Va (Vl rfl) rfl ?_
              refine Xh rfl rfl c30 ?_
              refine Va (Vc rfl tf_34_1 ts_22 (by decide)) rfl ?_
              refine Xh rfl rfl c30 ?_
              refine Va (Ve rfl (Vg rfl rfl) rfl ta_22 rfl) rfl ?_
              refine Xh rfl rfl c30 ?_
              refine Va (Xp (Xx rfl rfl te_22) (congrArg (fun n : Nat => Wb .i64 (n : Int)) (Wh _))) rfl ?_
              refine Xh rfl rfl c30 ?_
              refine Va (Xe rfl rfl) rfl ?_
              refine Va (Vo (congrArg Wc c30) rfl) rfl ?_
              refine Va (Vl rfl) rfl ?_
              refine Xh rfl rfl c31 ?_
              refine Va (Vc rfl tf_34_1 ts_22 (by decide)) rfl ?_
              refine Xh rfl rfl c31 ?_
              refine Va (Ve rfl (Vg rfl rfl) rfl ta_22 rfl) rfl ?_
              refine Xh rfl rfl c31 ?_
              refine Va (Xp (Yn rfl rfl h33 te_22 ts_3) (v' := .vptr [.int .i64 x32] 0) rfl) rfl ?_
              refine Xh rfl rfl c31 ?_
              refine Va (Xm rfl ta_3 rfl) rfl ?_
              refine Xh rfl rfl c31 ?_
              refine Va (Xe rfl rfl) rfl ?_
              refine Va (Vo (congrArg Wc c31) rfl) rfl ?_
              refine Va (Vl rfl) rfl ?_
              refine Vb rfl rfl (neF c34) rfl ?_
              refine Vb rfl rfl (neF c34) rfl ?_
              refine Vb rfl rfl (neF c34) rfl ?_
              refine Va (Vp (congrArg Wc c34) rfl) rfl ?_
              refine Va (Yd rfl) rfl ?_
              refine Vh ?_
              refine Xj ?_
              obtain rfl := Wd hF
              refine fnR ?_
              exact Vw rfl [] (by decide) ⟨Vs rfl (.bool _), trivial⟩ trivial
            ·have hF := Ys c31 hF
             refine Va (Vm rfl) rfl ?_
             refine Va (Xe rfl rfl) rfl ?_
             refine Va (Vl rfl) rfl ?_
             refine Xh rfl rfl c17 ?_
             refine Va (Vm rfl) rfl ?_
             refine Xh rfl rfl c17 ?_
             refine Va (Xe rfl rfl) rfl ?_
             refine Va (Vo (congrArg Wc c17) rfl) rfl ?_
             refine Va (Vl rfl) rfl ?_
             refine Xh rfl rfl c18 ?_
             refine Va (Vm rfl) rfl ?_
             refine Xh rfl rfl c18 ?_
             refine Va (Xe rfl rfl) rfl ?_
             refine Va (Vo (congrArg Wc c18) rfl) rfl ?_
             refine Va (Vl rfl) rfl ?_
             refine Xh rfl rfl c19 ?_
             refine Va (Vm rfl) rfl ?_
             refine Xh rfl rfl c19 ?_
             refine Va (Xe rfl rfl) rfl ?_
             refine Va (Vo (congrArg Wc c19) rfl) rfl ?_
             refine Va (Vl rfl) rfl ?_
             refine Xh rfl rfl c20 ?_
             refine Va (Vm rfl) rfl ?_
             refine Xh rfl rfl c20 ?_
             refine Va (Xe rfl rfl) rfl ?_
             refine Va (Vo (congrArg Wc c20) rfl) rfl ?_
             refine Va (Vl rfl) rfl ?_
             refine Xh rfl rfl c21 ?_
             refine Va (Vm rfl) rfl ?_
             refine Xh rfl rfl c21 ?_
             refine Va (Xe rfl rfl) rfl ?_
             refine Va (Vo (congrArg Wc c21) rfl) rfl ?_
             refine Va (Vl rfl) rfl ?_
             refine Xh rfl rfl c22 ?_
             refine Va (Vm rfl) rfl ?_
             refine Xh rfl rfl c22 ?_
             refine Va (Xe rfl rfl) rfl ?_
             refine Va (Vo (congrArg Wc c22) rfl) rfl ?_
             refine Va (Vl rfl) rfl ?_
             refine Xh rfl rfl c23 ?_
             refine Va (Vc rfl tf_34_1 ts_22 (by decide)) rfl ?_
             refine Xh rfl rfl c23 ?_
             refine Va (Ve rfl (Vg rfl rfl) rfl ta_22 rfl) rfl ?_
             refine Xh rfl rfl c23 ?_
             refine Va (Xp (Xx rfl rfl te_22) (congrArg (fun n : Nat => Wb .i64 (n : Int)) (Wh _))) rfl ?_
             refine Xh rfl rfl c23 ?_
             refine Va (Xe rfl rfl) rfl ?_
             refine Va (Vo (congrArg Wc c23) rfl) rfl ?_
             refine Va (Vl rfl) rfl ?_
             refine Xh rfl rfl c24 ?_
             refine Va (Vc rfl tf_34_1 ts_22 (by decide)) rfl ?_
             refine Xh rfl rfl c24 ?_
             refine Va (Ve rfl (Vg rfl rfl) rfl ta_22 rfl) rfl ?_
             refine Xh rfl rfl c24 ?_
             refine Va (Xp (Yn rfl rfl h26 te_22 ts_3) (v' := .vptr [.int .i64 x25] 0) rfl) rfl ?_
             refine Xh rfl rfl c24 ?_
             refine Va (Xm rfl ta_3 rfl) rfl ?_
             refine Xh rfl rfl c24 ?_
             refine Va (Xe rfl rfl) rfl ?_
             refine Va (Vo (congrArg Wc c24) rfl) rfl ?_
             refine Va (Vl rfl) rfl ?_
             refine Xh rfl rfl c27 ?_
             refine Va (Vc rfl tf_34_2 ts_22 (by decide)) rfl ?_
             refine Xh rfl rfl c27 ?_
             refine Va (Ve rfl (Vg rfl rfl) rfl ta_22 rfl) rfl ?_
             refine Xh rfl rfl c27 ?_
             refine Va (Xp (Yn rfl rfl h29 te_22 ts_3) (v' := .vptr [.int .i64 x28] 0) rfl) rfl ?_
             refine Xh rfl rfl c27 ?_
             refine Va (Xm rfl ta_3 rfl) rfl ?_
             refine Xh rfl rfl c27 ?_
             refine Va (Xe rfl rfl) rfl ?_
             refine Va (Vo (congrArg Wc c27) rfl) rfl ?_
             refine Va (Vl rfl) rfl ?_
             refine Xh rfl rfl c30 ?_
             refine Va (Vc rfl tf_34_1 ts_22 (by decide)) rfl ?_
             refine Xh rfl rfl c30 ?_
             refine Va (Ve rfl (Vg rfl rfl) rfl ta_22 rfl) rfl ?_
             refine Xh rfl rfl c30 ?_
             refine Va (Xp (Xx rfl rfl te_22) (congrArg (fun n : Nat => Wb .i64 (n : Int)) (Wh _))) rfl ?_
             refine Xh rfl rfl c30 ?_
             refine Va (Xe rfl rfl) rfl ?_
             refine Va (Vo (congrArg Wc c30) rfl) rfl ?_
             refine Va (Vl rfl) rfl ?_
             refine Vb rfl rfl (neF c31) rfl ?_
             refine Vb rfl rfl (neF c31) rfl ?_
             refine Vb rfl rfl (neF c31) rfl ?_
             refine Vb rfl rfl (neF c31) rfl ?_
             refine Vb rfl rfl (neF c31) rfl ?_
             refine Va (Vp (congrArg Wc c31) rfl) rfl ?_
             refine Va (Vl rfl) rfl ?_
             refine Vb rfl rfl (by decide) rfl ?_
             refine Vb rfl rfl (by decide) rfl ?_
             refine Vb rfl rfl (by decide) rfl ?_
             refine Va (Vp rfl rfl) rfl ?_
             refine Va (Yd rfl) rfl ?_
             refine Vh ?_
             refine Xj ?_
             obtain rfl := Wd hF
             refine fnR ?_
             exact Vw rfl [] (by decide) ⟨Vs rfl (.bool _), trivial⟩ trivial
           ·have hF := Ys c30 hF
            refine Va (Vm rfl) rfl ?_
            refine Va (Xe rfl rfl) rfl ?_
            refine Va (Vl rfl) rfl ?_
            refine Xh rfl rfl c17 ?_
            refine Va (Vm rfl) rfl ?_
            refine Xh rfl rfl c17 ?_
            refine Va (Xe rfl rfl) rfl ?_
            refine Va (Vo (congrArg Wc c17) rfl) rfl ?_
            refine Va (Vl rfl) rfl ?_
            refine Xh rfl rfl c18 ?_
            refine Va (Vm rfl) rfl ?_
            refine Xh rfl rfl c18 ?_
            refine Va (Xe rfl rfl) rfl ?_
            refine Va (Vo (congrArg Wc c18) rfl) rfl ?_
            refine Va (Vl rfl) rfl ?_
            refine Xh rfl rfl c19 ?_
            refine Va (Vm rfl) rfl ?_
            refine Xh rfl rfl c19 ?_
            refine Va (Xe rfl rfl) rfl ?_
            refine Va (Vo (congrArg Wc c19) rfl) rfl ?_
            refine Va (Vl rfl) rfl ?_
            refine Xh rfl rfl c20 ?_
            refine Va (Vm rfl) rfl ?_
            refine Xh rfl rfl c20 ?_
            refine Va (Xe rfl rfl) rfl ?_
            refine Va (Vo (congrArg Wc c20) rfl) rfl ?_
            refine Va (Vl rfl) rfl ?_
            refine Xh rfl rfl c21 ?_
            refine Va (Vm rfl) rfl ?_
            refine Xh rfl rfl c21 ?_
            refine Va (Xe rfl rfl) rfl ?_
            refine Va (Vo (congrArg Wc c21) rfl) rfl ?_
            refine Va (Vl rfl) rfl ?_
            refine Xh rfl rfl c22 ?_
            refine Va (Vm rfl) rfl ?_
            refine Xh rfl rfl c22 ?_
            refine Va (Xe rfl rfl) rfl ?_
            refine Va (Vo (congrArg Wc c22) rfl) rfl ?_
            refine Va (Vl rfl) rfl ?_
            refine Xh rfl rfl c23 ?_
            refine Va (Vc rfl tf_34_1 ts_22 (by decide)) rfl ?_
            refine Xh rfl rfl c23 ?_
            refine Va (Ve rfl (Vg rfl rfl) rfl ta_22 rfl) rfl ?_
            refine Xh rfl rfl c23 ?_
            refine Va (Xp (Xx rfl rfl te_22) (congrArg (fun n : Nat => Wb .i64 (n : Int)) (Wh _))) rfl ?_
            refine Xh rfl rfl c23 ?_
            refine Va (Xe rfl rfl) rfl ?_
            refine Va (Vo (congrArg Wc c23) rfl) rfl ?_
            refine Va (Vl rfl) rfl ?_
            refine Xh rfl rfl c24 ?_
            refine Va (Vc rfl tf_34_1 ts_22 (by decide)) rfl ?_
            refine Xh rfl rfl c24 ?_
            refine Va (Ve rfl (Vg rfl rfl) rfl ta_22 rfl) rfl ?_
            refine Xh rfl rfl c24 ?_
            refine Va (Xp (Yn rfl rfl h26 te_22 ts_3) (v' := .vptr [.int .i64 x25] 0) rfl) rfl ?_
            refine Xh rfl rfl c24 ?_
            refine Va (Xm rfl ta_3 rfl) rfl ?_
            refine Xh rfl rfl c24 ?_
            refine Va (Xe rfl rfl) rfl ?_
            refine Va (Vo (congrArg Wc c24) rfl) rfl ?_
            refine Va (Vl rfl) rfl ?_
            refine Xh rfl rfl c27 ?_
            refine Va (Vc rfl tf_34_2 ts_22 (by decide)) rfl ?_
            refine Xh rfl rfl c27 ?_
            refine Va (Ve rfl (Vg rfl rfl) rfl ta_22 rfl) rfl ?_
            refine Xh rfl rfl c27 ?_
            refine Va (Xp (Yn rfl rfl h29 te_22 ts_3) (v' := .vptr [.int .i64 x28] 0) rfl) rfl ?_
            refine Xh rfl rfl c27 ?_
            refine Va (Xm rfl ta_3 rfl) rfl ?_
            refine Xh rfl rfl c27 ?_
            refine Va (Xe rfl rfl) rfl ?_
            refine Va (Vo (congrArg Wc c27) rfl) rfl ?_
            refine Va (Vl rfl) rfl ?_
            refine Vb rfl rfl (neF c30) rfl ?_
            refine Vb rfl rfl (neF c30) rfl ?_
            refine Vb rfl rfl (neF c30) rfl ?_
            refine Vb rfl rfl (neF c30) rfl ?_
            refine Va (Vp (congrArg Wc c30) rfl) rfl ?_
            refine Va (Vl rfl) rfl ?_
            refine Vb rfl rfl (by decide) rfl ?_
            refine Vb rfl rfl (by decide) rfl ?_
            refine Vb rfl rfl (by decide) rfl ?_
            refine Vb rfl rfl (by decide) rfl ?_
            refine Vb rfl rfl (by decide) rfl ?_
            refine Va (Vp rfl rfl) rfl ?_
            refine Va (Vl rfl) rfl ?_
            refine Vb rfl rfl (by decide) rfl ?_
            refine Vb rfl rfl (by decide) rfl ?_
            refine Vb rfl rfl (by decide) rfl ?_
            refine Va (Vp rfl rfl) rfl ?_
            refine Va (Yd rfl) rfl ?_
            refine Vh ?_
            refine Xj ?_
            obtain rfl := Wd hF
            refine fnR ?_
            exact Vw rfl [] (by decide) ⟨Vs rfl (.bool _), trivial⟩ trivial
          ·have hF := Ys c27 hF
           refine Va (Vm rfl) rfl ?_
           refine Va (Xe rfl rfl) rfl ?_
           refine Va (Vl rfl) rfl ?_
           refine Xh rfl rfl c17 ?_
           refine Va (Vm rfl) rfl ?_
           refine Xh rfl rfl c17 ?_
           refine Va (Xe rfl rfl) rfl ?_
           refine Va (Vo (congrArg Wc c17) rfl) rfl ?_
           refine Va (Vl rfl) rfl ?_
           refine Xh rfl rfl c18 ?_
           refine Va (Vm rfl) rfl ?_
           refine Xh rfl rfl c18 ?_
           refine Va (Xe rfl rfl) rfl ?_
           refine Va (Vo (congrArg Wc c18) rfl) rfl ?_
           refine Va (Vl rfl) rfl ?_
           refine Xh rfl rfl c19 ?_
           refine Va (Vm rfl) rfl ?_
           refine Xh rfl rfl c19 ?_
           refine Va (Xe rfl rfl) rfl ?_
           refine Va (Vo (congrArg Wc c19) rfl) rfl ?_
           refine Va (Vl rfl) rfl ?_
           refine Xh rfl rfl c20 ?_
           refine Va (Vm rfl) rfl ?_
           refine Xh rfl rfl c20 ?_
           refine Va (Xe rfl rfl) rfl ?_
           refine Va (Vo (congrArg Wc c20) rfl) rfl ?_
           refine Va (Vl rfl) rfl ?_
           refine Xh rfl rfl c21 ?_
           refine Va (Vm rfl) rfl ?_
           refine Xh rfl rfl c21 ?_
           refine Va (Xe rfl rfl) rfl ?_
           refine Va (Vo (congrArg Wc c21) rfl) rfl ?_
           refine Va (Vl rfl) rfl ?_
           refine Xh rfl rfl c22 ?_
           refine Va (Vm rfl) rfl ?_
           refine Xh rfl rfl c22 ?_
           refine Va (Xe rfl rfl) rfl ?_
           refine Va (Vo (congrArg Wc c22) rfl) rfl ?_
           refine Va (Vl rfl) rfl ?_
           refine Xh rfl rfl c23 ?_
           refine Va (Vc rfl tf_34_1 ts_22 (by decide)) rfl ?_
           refine Xh rfl rfl c23 ?_
           refine Va (Ve rfl (Vg rfl rfl) rfl ta_22 rfl) rfl ?_
           refine Xh rfl rfl c23 ?_
           refine Va (Xp (Xx rfl rfl te_22) (congrArg (fun n : Nat => Wb .i64 (n : Int)) (Wh _))) rfl ?_
           refine Xh rfl rfl c23 ?_
           refine Va (Xe rfl rfl) rfl ?_
           refine Va (Vo (congrArg Wc c23) rfl) rfl ?_
           refine Va (Vl rfl) rfl ?_
           refine Xh rfl rfl c24 ?_
           refine Va (Vc rfl tf_34_1 ts_22 (by decide)) rfl ?_
           refine Xh rfl rfl c24 ?_
           refine Va (Ve rfl (Vg rfl rfl) rfl ta_22 rfl) rfl ?_
           refine Xh rfl rfl c24 ?_
           refine Va (Xp (Yn rfl rfl h26 te_22 ts_3) (v' := .vptr [.int .i64 x25] 0) rfl) rfl ?_
           refine Xh rfl rfl c24 ?_
           refine Va (Xm rfl ta_3 rfl) rfl ?_
           refine Xh rfl rfl c24 ?_
           refine Va (Xe rfl rfl) rfl ?_
           refine Va (Vo (congrArg Wc c24) rfl) rfl ?_
           refine Va (Vl rfl) rfl ?_
           refine Vb rfl rfl (neF c27) rfl ?_
           refine Vb rfl rfl (neF c27) rfl ?_
           refine Vb rfl rfl (neF c27) rfl ?_
           refine Vb rfl rfl (neF c27) rfl ?_
           refine Vb rfl rfl (neF c27) rfl ?_
           refine Va (Vp (congrArg Wc c27) rfl) rfl ?_
           refine Va (Vl rfl) rfl ?_
           refine Vb rfl rfl (by decide) rfl ?_
           refine Vb rfl rfl (by decide) rfl ?_
           refine Vb rfl rfl (by decide) rfl ?_
           refine Vb rfl rfl (by decide) rfl ?_
           refine Va (Vp rfl rfl) rfl ?_
           refine Va (Vl rfl) rfl ?_
           refine Vb rfl rfl (by decide) rfl ?_
           refine Vb rfl rfl (by decide) rfl ?_
           refine Vb rfl rfl (by decide) rfl ?_
           refine Vb rfl rfl (by decide) rfl ?_
           refine Vb rfl rfl (by decide) rfl ?_
           refine Va (Vp rfl rfl) rfl ?_
           refine Va (Vl rfl) rfl ?_
           refine Vb rfl rfl (by decide) rfl ?_
           refine Vb rfl rfl (by decide) rfl ?_
           refine Vb rfl rfl (by decide) rfl ?_
           refine Va (Vp rfl rfl) rfl ?_
           refine Va (Yd rfl) rfl ?_
           refine Vh ?_
           refine Xj ?_
           obtain rfl := Wd hF
           refine fnR ?_
           exact Vw rfl [] (by decide) ⟨Vs rfl (.bool _), trivial⟩ trivial
         ·have hF := Ys c24 hF
          refine Va (Vm rfl) rfl ?_
          refine Va (Xe rfl rfl) rfl ?_
          refine Va (Vl rfl) rfl ?_
          refine Xh rfl rfl c17 ?_
          refine Va (Vm rfl) rfl ?_
          refine Xh rfl rfl c17 ?_
          refine Va (Xe rfl rfl) rfl ?_
          refine Va (Vo (congrArg Wc c17) rfl) rfl ?_
          refine Va (Vl rfl) rfl ?_
          refine Xh rfl rfl c18 ?_
          refine Va (Vm rfl) rfl ?_
          refine Xh rfl rfl c18 ?_
          refine Va (Xe rfl rfl) rfl ?_
          refine Va (Vo (congrArg Wc c18) rfl) rfl ?_
          refine Va (Vl rfl) rfl ?_
          refine Xh rfl rfl c19 ?_
          refine Va (Vm rfl) rfl ?_
          refine Xh rfl rfl c19 ?_
          refine Va (Xe rfl rfl) rfl ?_
          refine Va (Vo (congrArg Wc c19) rfl) rfl ?_
          refine Va (Vl rfl) rfl ?_
          refine Xh rfl rfl c20 ?_
          refine Va (Vm rfl) rfl ?_
          refine Xh rfl rfl c20 ?_
          refine Va (Xe rfl rfl) rfl ?_
          refine Va (Vo (congrArg Wc c20) rfl) rfl ?_
          refine Va (Vl rfl) rfl ?_
          refine Xh rfl rfl c21 ?_
          refine Va (Vm rfl) rfl ?_
          refine Xh rfl rfl c21 ?_
          refine Va (Xe rfl rfl) rfl ?_
          refine Va (Vo (congrArg Wc c21) rfl) rfl ?_
          refine Va (Vl rfl) rfl ?_
          refine Xh rfl rfl c22 ?_
          refine Va (Vm rfl) rfl ?_
          refine Xh rfl rfl c22 ?_
          refine Va (Xe rfl rfl) rfl ?_
          refine Va (Vo (congrArg Wc c22) rfl) rfl ?_
          refine Va (Vl rfl) rfl ?_
          refine Xh rfl rfl c23 ?_
          refine Va (Vc rfl tf_34_1 ts_22 (by decide)) rfl ?_
          refine Xh rfl rfl c23 ?_
          refine Va (Ve rfl (Vg rfl rfl) rfl ta_22 rfl) rfl ?_
          refine Xh rfl rfl c23 ?_
          refine Va (Xp (Xx rfl rfl te_22) (congrArg (fun n : Nat => Wb .i64 (n : Int)) (Wh _))) rfl ?_
          refine Xh rfl rfl c23 ?_
          refine Va (Xe rfl rfl) rfl ?_
          refine Va (Vo (congrArg Wc c23) rfl) rfl ?_
          refine Va (Vl rfl) rfl ?_
          refine Vb rfl rfl (neF c24) rfl ?_
          refine Vb rfl rfl (neF c24) rfl ?_
          refine Vb rfl rfl (neF c24) rfl ?_
          refine Vb rfl rfl (neF c24) rfl ?_
          refine Vb rfl rfl (neF c24) rfl ?_
          refine Va (Vp (congrArg Wc c24) rfl) rfl ?_
          refine Va (Vl rfl) rfl ?_
          refine Vb rfl rfl (by decide) rfl ?_
          refine Vb rfl rfl (by decide) rfl ?_
          refine Vb rfl rfl (by decide) rfl ?_
          refine Vb rfl rfl (by decide) rfl ?_
          refine Vb rfl rfl (by decide) rfl ?_
          refine Va (Vp rfl rfl) rfl ?_
          refine Va (Vl rfl) rfl ?_
          refine Vb rfl rfl (by decide) rfl ?_
          refine Vb rfl rfl (by decide) rfl ?_
          refine Vb rfl rfl (by decide) rfl ?_
          refine Vb rfl rfl (by decide) rfl ?_
          refine Va (Vp rfl rfl) rfl ?_
          refine Va (Vl rfl) rfl ?_
          refine Vb rfl rfl (by decide) rfl ?_
          refine Vb rfl rfl (by decide) rfl ?_
          refine Vb rfl rfl (by decide) rfl ?_
          refine Vb rfl rfl (by decide) rfl ?_
          refine Vb rfl rfl (by decide) rfl ?_
          refine Va (Vp rfl rfl) rfl ?_
          refine Va (Vl rfl) rfl ?_
          refine Vb rfl rfl (by decide) rfl ?_
          refine Vb rfl rfl (by decide) rfl ?_
          refine Vb rfl rfl (by decide) rfl ?_
          refine Va (Vp rfl rfl) rfl ?_
          refine Va (Yd rfl) rfl ?_
          refine Vh ?_
          refine Xj ?_
          obtain rfl := Wd hF
          refine fnR ?_
          exact Vw rfl [] (by decide) ⟨Vs rfl (.bool _), trivial⟩ trivial
        ·have hF := Ys c23 hF
         refine Va (Vm rfl) rfl ?_
         refine Va (Xe rfl rfl) rfl ?_
         refine Va (Vl rfl) rfl ?_
         refine Xh rfl rfl c17 ?_
         refine Va (Vm rfl) rfl ?_
         refine Xh rfl rfl c17 ?_
         refine Va (Xe rfl rfl) rfl ?_
         refine Va (Vo (congrArg Wc c17) rfl) rfl ?_
         refine Va (Vl rfl) rfl ?_
         refine Xh rfl rfl c18 ?_
         refine Va (Vm rfl) rfl ?_
         refine Xh rfl rfl c18 ?_
         refine Va (Xe rfl rfl) rfl ?_
         refine Va (Vo (congrArg Wc c18) rfl) rfl ?_
         refine Va (Vl rfl) rfl ?_
         refine Xh rfl rfl c19 ?_
         refine Va (Vm rfl) rfl ?_
         refine Xh rfl rfl c19 ?_
         refine Va (Xe rfl rfl) rfl ?_
         refine Va (Vo (congrArg Wc c19) rfl) rfl ?_
         refine Va (Vl rfl) rfl ?_
         refine Xh rfl rfl c20 ?_
         refine Va (Vm rfl) rfl ?_
         refine Xh rfl rfl c20 ?_
         refine Va (Xe rfl rfl) rfl ?_
         refine Va (Vo (congrArg Wc c20) rfl) rfl ?_
         refine Va (Vl rfl) rfl ?_
         refine Xh rfl rfl c21 ?_
         refine Va (Vm rfl) rfl ?_
         refine Xh rfl rfl c21 ?_
         refine Va (Xe rfl rfl) rfl ?_
         refine Va (Vo (congrArg Wc c21) rfl) rfl ?_
         refine Va (Vl rfl) rfl ?_
         refine Xh rfl rfl c22 ?_
         refine Va (Vm rfl) rfl ?_
         refine Xh rfl rfl c22 ?_
         refine Va (Xe rfl rfl) rfl ?_
         refine Va (Vo (congrArg Wc c22) rfl) rfl ?_
         refine Va (Vl rfl) rfl ?_
         refine Vb rfl rfl (neF c23) rfl ?_
         refine Vb rfl rfl (neF c23) rfl ?_
         refine Vb rfl rfl (neF c23) rfl ?_
         refine Vb rfl rfl (neF c23) rfl ?_
         refine Va (Vp (congrArg Wc c23) rfl) rfl ?_
         refine Va (Vl rfl) rfl ?_
         refine Vb rfl rfl (by decide) rfl ?_
         refine Vb rfl rfl (by decide) rfl ?_
         refine Vb rfl rfl (by decide) rfl ?_
         refine Vb rfl rfl (by decide) rfl ?_
         refine Vb rfl rfl (by decide) rfl ?_
         refine Va (Vp rfl rfl) rfl ?_
         refine Va (Vl rfl) rfl ?_
         refine Vb rfl rfl (by decide) rfl ?_
         refine Vb rfl rfl (by decide) rfl ?_
         refine Vb rfl rfl (by decide) rfl ?_
         refine Vb rfl rfl (by decide) rfl ?_
         refine Vb rfl rfl (by decide) rfl ?_
         refine Va (Vp rfl rfl) rfl ?_
         refine Va (Vl rfl) rfl ?_
         refine Vb rfl rfl (by decide) rfl ?_
         refine Vb rfl rfl (by decide) rfl ?_
         refine Vb rfl rfl (by decide) rfl ?_
         refine Vb rfl rfl (by decide) rfl ?_
         refine Va (Vp rfl rfl) rfl ?_
         refine Va (Vl rfl) rfl ?_
         refine Vb rfl rfl (by decide) rfl ?_
         refine Vb rfl rfl (by decide) rfl ?_
         refine Vb rfl rfl (by decide) rfl ?_
         refine Vb rfl rfl (by decide) rfl ?_
         refine Vb rfl rfl (by decide) rfl ?_
         refine Va (Vp rfl rfl) rfl ?_
         refine Va (Vl rfl) rfl ?_
         refine Vb rfl rfl (by decide) rfl ?_
         refine Vb rfl rfl (by decide) rfl ?_
         refine Vb rfl rfl (by decide) rfl ?_
         refine Va (Vp rfl rfl) rfl ?_
         refine Va (Yd rfl) rfl ?_
         refine Vh ?_
         refine Xj ?_
         obtain rfl := Wd hF
         refine fnR ?_
         exact Vw rfl [] (by decide) ⟨Vs rfl (.bool _), trivial⟩ trivial
       ·have hF := Ys c22 hF
        refine Va (Vm rfl) rfl ?_
        refine Va (Xe rfl rfl) rfl ?_
        refine Va (Vl rfl) rfl ?_
        refine Xh rfl rfl c17 ?_
        refine Va (Vm rfl) rfl ?_
        refine Xh rfl rfl c17 ?_
        refine Va (Xe rfl rfl) rfl ?_
        refine Va (Vo (congrArg Wc c17) rfl) rfl ?_
        refine Va (Vl rfl) rfl ?_
        refine Xh rfl rfl c18 ?_
        refine Va (Vm rfl) rfl ?_
        refine Xh rfl rfl c18 ?_
        refine Va (Xe rfl rfl) rfl ?_
        refine Va (Vo (congrArg Wc c18) rfl) rfl ?_
        refine Va (Vl rfl) rfl ?_
        refine Xh rfl rfl c19 ?_
        refine Va (Vm rfl) rfl ?_
        refine Xh rfl rfl c19 ?_
        refine Va (Xe rfl rfl) rfl ?_
        refine Va (Vo (congrArg Wc c19) rfl) rfl ?_
        refine Va (Vl rfl) rfl ?_
        refine Xh rfl rfl c20 ?_
        refine Va (Vm rfl) rfl ?_
        refine Xh rfl rfl c20 ?_
        refine Va (Xe rfl rfl) rfl ?_
        refine Va (Vo (congrArg Wc c20) rfl) rfl ?_
        refine Va (Vl rfl) rfl ?_
        refine Xh rfl rfl c21 ?_
        refine Va (Vm rfl) rfl ?_
        refine Xh rfl rfl c21 ?_
        refine Va (Xe rfl rfl) rfl ?_
        refine Va (Vo (congrArg Wc c21) rfl) rfl ?_
        refine Va (Vl rfl) rfl ?_
        refine Vb rfl rfl (neF c22) rfl ?_
        refine Vb rfl rfl (neF c22) rfl ?_
        refine Va (Vp (congrArg Wc c22) rfl) rfl ?_
        refine Va (Vl rfl) rfl ?_
        refine Vb rfl rfl (by decide) rfl ?_
        refine Vb rfl rfl (by decide) rfl ?_
        refine Vb rfl rfl (by decide) rfl ?_
        refine Vb rfl rfl (by decide) rfl ?_
        refine Va (Vp rfl rfl) rfl ?_
        refine Va (Vl rfl) rfl ?_
        refine Vb rfl rfl (by decide) rfl ?_
        refine Vb rfl rfl (by decide) rfl ?_
        refine Vb rfl rfl (by decide) rfl ?_
        refine Vb rfl rfl (by decide) rfl ?_
        refine Vb rfl rfl (by decide) rfl ?_
        refine Va (Vp rfl rfl) rfl ?_
        refine Va (Vl rfl) rfl ?_
        refine Vb rfl rfl (by decide) rfl ?_
        refine Vb rfl rfl (by decide) rfl ?_
        refine Vb rfl rfl (by decide) rfl ?_
        refine Vb rfl rfl (by decide) rfl ?_
        refine Vb rfl rfl (by decide) rfl ?_
        refine Va (Vp rfl rfl) rfl ?_
        refine Va (Vl rfl) rfl ?_
        refine Vb rfl rfl (by decide) rfl ?_
        refine Vb rfl rfl (by decide) rfl ?_
        refine Vb rfl rfl (by decide) rfl ?_
        refine Vb rfl rfl (by decide) rfl ?_
        refine Va (Vp rfl rfl) rfl ?_
        refine Va (Vl rfl) rfl ?_
        refine Vb rfl rfl (by decide) rfl ?_
        refine Vb rfl rfl (by decide) rfl ?_
        refine Vb rfl rfl (by decide) rfl ?_
        refine Vb rfl rfl (by decide) rfl ?_
        refine Vb rfl rfl (by decide) rfl ?_
        refine Va (Vp rfl rfl) rfl ?_
        refine Va (Vl rfl) rfl ?_
        refine Vb rfl rfl (by decide) rfl ?_
        refine Vb rfl rfl (by decide) rfl ?_
        refine Vb rfl rfl (by decide) rfl ?_
        refine Va (Vp rfl rfl) rfl ?_
        refine Va (Yd rfl) rfl ?_
        refine Vh ?_
        refine Xj ?_
        obtain rfl := Wd hF
        refine fnR ?_
        exact Vw rfl [] (by decide) ⟨Vs rfl (.bool _), trivial⟩ trivial
      ·have hF := Ys c21 hF
       refine Va (Vm rfl) rfl ?_
       refine Va (Xe rfl rfl) rfl ?_
       refine Va (Vl rfl) rfl ?_
       refine Xh rfl rfl c17 ?_
       refine Va (Vm rfl) rfl ?_
       refine Xh rfl rfl c17 ?_
       refine Va (Xe rfl rfl) rfl ?_
       refine Va (Vo (congrArg Wc c17) rfl) rfl ?_
       refine Va (Vl rfl) rfl ?_
       refine Xh rfl rfl c18 ?_
       refine Va (Vm rfl) rfl ?_
       refine Xh rfl rfl c18 ?_
       refine Va (Xe rfl rfl) rfl ?_
       refine Va (Vo (congrArg Wc c18) rfl) rfl ?_
       refine Va (Vl rfl) rfl ?_
       refine Xh rfl rfl c19 ?_
       refine Va (Vm rfl) rfl ?_
       refine Xh rfl rfl c19 ?_
       refine Va (Xe rfl rfl) rfl ?_
       refine Va (Vo (congrArg Wc c19) rfl) rfl ?_
       refine Va (Vl rfl) rfl ?_
       refine Xh rfl rfl c20 ?_
       refine Va (Vm rfl) rfl ?_
       refine Xh rfl rfl c20 ?_
       refine Va (Xe rfl rfl) rfl ?_
       refine Va (Vo (congrArg Wc c20) rfl) rfl ?_
       refine Va (Vl rfl) rfl ?_
       refine Vb rfl rfl (neF c21) rfl ?_
       refine Vb rfl rfl (neF c21) rfl ?_
       refine Va (Vp (congrArg Wc c21) rfl) rfl ?_
       refine Va (Vl rfl) rfl ?_
       refine Vb rfl rfl (by decide) rfl ?_
       refine Vb rfl rfl (by decide) rfl ?_
       refine Va (Vp rfl rfl) rfl ?_
       refine Va (Vl rfl) rfl ?_
       refine Vb rfl rfl (by decide) rfl ?_
       refine Vb rfl rfl (by decide) rfl ?_
       refine Vb rfl rfl (by decide) rfl ?_
       refine Vb rfl rfl (by decide) rfl ?_
       refine Va (Vp rfl rfl) rfl ?_
       refine Va (Vl rfl) rfl ?_
       refine Vb rfl rfl (by decide) rfl ?_
       refine Vb rfl rfl (by decide) rfl ?_
       refine Vb rfl rfl (by decide) rfl ?_
       refine Vb rfl rfl (by decide) rfl ?_
       refine Vb rfl rfl (by decide) rfl ?_
       refine Va (Vp rfl rfl) rfl ?_
       refine Va (Vl rfl) rfl ?_
       refine Vb rfl rfl (by decide) rfl ?_
       refine Vb rfl rfl (by decide) rfl ?_
       refine Vb rfl rfl (by decide) rfl ?_
       refine Vb rfl rfl (by decide) rfl ?_
       refine Vb rfl rfl (by decide) rfl ?_
       refine Va (Vp rfl rfl) rfl ?_
       refine Va (Vl rfl) rfl ?_
       refine Vb rfl rfl (by decide) rfl ?_
       refine Vb rfl rfl (by decide) rfl ?_
       refine Vb rfl rfl (by decide) rfl ?_
       refine Vb rfl rfl (by decide) rfl ?_
       refine Va (Vp rfl rfl) rfl ?_
       refine Va (Vl rfl) rfl ?_
       refine Vb rfl rfl (by decide) rfl ?_
       refine Vb rfl rfl (by decide) rfl ?_
       refine Vb rfl rfl (by decide) rfl ?_
       refine Vb rfl rfl (by decide) rfl ?_
       refine Vb rfl rfl (by decide) rfl ?_
       refine Va (Vp rfl rfl) rfl ?_
       refine Va (Vl rfl) rfl ?_
       refine Vb rfl rfl (by decide) rfl ?_
       refine Vb rfl rfl (by decide) rfl ?_
       refine Vb rfl rfl (by decide) rfl ?_
       refine Va (Vp rfl rfl) rfl ?_
       refine Va (Yd rfl) rfl ?_
       refine Vh ?_
       refine Xj ?_
       obtain rfl := Wd hF
       refine fnR ?_
       exact Vw rfl [] (by decide) ⟨Vs rfl (.bool _), trivial⟩ trivial
     ·have hF := Ys c20 hF
      refine Va (Vm rfl) rfl ?_
      refine Va (Xe rfl rfl) rfl ?_
      refine Va (Vl rfl) rfl ?_
      refine Xh rfl rfl c17 ?_
      refine Va (Vm rfl) rfl ?_
      refine Xh rfl rfl c17 ?_
      refine Va (Xe rfl rfl) rfl ?_
      refine Va (Vo (congrArg Wc c17) rfl) rfl ?_
      refine Va (Vl rfl) rfl ?_
      refine Xh rfl rfl c18 ?_
      refine Va (Vm rfl) rfl ?_
      refine Xh rfl rfl c18 ?_
      refine Va (Xe rfl rfl) rfl ?_
      refine Va (Vo (congrArg Wc c18) rfl) rfl ?_
      refine Va (Vl rfl) rfl ?_
      refine Xh rfl rfl c19 ?_
      refine Va (Vm rfl) rfl ?_
      refine Xh rfl rfl c19 ?_
      refine Va (Xe rfl rfl) rfl ?_
      refine Va (Vo (congrArg Wc c19) rfl) rfl ?_
      refine Va (Vl rfl) rfl ?_
      refine Vb rfl rfl (neF c20) rfl ?_
      refine Vb rfl rfl (neF c20) rfl ?_
      refine Va (Vp (congrArg Wc c20) rfl) rfl ?_
      refine Va (Vl rfl) rfl ?_
      refine Vb rfl rfl (by decide) rfl ?_
      refine Vb rfl rfl (by decide) rfl ?_
      refine Va (Vp rfl rfl) rfl ?_
      refine Va (Vl rfl) rfl ?_
      refine Vb rfl rfl (by decide) rfl ?_
      refine Vb rfl rfl (by decide) rfl ?_
      refine Va (Vp rfl rfl) rfl ?_
      refine Va (Vl rfl) rfl ?_
      refine Vb rfl rfl (by decide) rfl ?_
      refine Vb rfl rfl (by decide) rfl ?_
      refine Vb rfl rfl (by decide) rfl ?_
      refine Vb rfl rfl (by decide) rfl ?_
      refine Va (Vp rfl rfl) rfl ?_
      refine Va (Vl rfl) rfl ?_
      refine Vb rfl rfl (by decide) rfl ?_
      refine Vb rfl rfl (by decide) rfl ?_
      refine Vb rfl rfl (by decide) rfl ?_
      refine Vb rfl rfl (by decide) rfl ?_
      refine Vb rfl rfl (by decide) rfl ?_
      refine Va (Vp rfl rfl) rfl ?_
      refine Va (Vl rfl) rfl ?_
      refine Vb rfl rfl (by decide) rfl ?_
      refine Vb rfl rfl (by decide) rfl ?_
      refine Vb rfl rfl (by decide) rfl ?_
      refine Vb rfl rfl (by decide) rfl ?_
      refine Vb rfl rfl (by decide) rfl ?_
      refine Va (Vp rfl rfl) rfl ?_
      refine Va (Vl rfl) rfl ?_
      refine Vb rfl rfl (by decide) rfl ?_
      refine Vb rfl rfl (by decide) rfl ?_
      refine Vb rfl rfl (by decide) rfl ?_
      refine Vb rfl rfl (by decide) rfl ?_
      refine Va (Vp rfl rfl) rfl ?_
      refine Va (Vl rfl) rfl ?_
      refine Vb rfl rfl (by decide) rfl ?_
      refine Vb rfl rfl (by decide) rfl ?_
      refine Vb rfl rfl (by decide) rfl ?_
      refine Vb rfl rfl (by decide) rfl ?_
      refine Vb rfl rfl (by decide) rfl ?_
      refine Va (Vp rfl rfl) rfl ?_
      refine Va (Vl rfl) rfl ?_
      refine Vb rfl rfl (by decide) rfl ?_
      refine Vb rfl rfl (by decide) rfl ?_
      refine Vb rfl rfl (by decide) rfl ?_
      refine Va (Vp rfl rfl) rfl ?_
      refine Va (Yd rfl) rfl ?_
      refine Vh ?_
      refine Xj ?_
      obtain rfl := Wd hF
      refine fnR ?_
      exact Vw rfl [] (by decide) ⟨Vs rfl (.bool _), trivial⟩ trivial
    ·have hF := Ys c19 hF
     refine Va (Vm rfl) rfl ?_
     refine Va (Xe rfl rfl) rfl ?_
     refine Va (Vl rfl) rfl ?_
     refine Xh rfl rfl c17 ?_
     refine Va (Vm rfl) rfl ?_
     refine Xh rfl rfl c17 ?_
     refine Va (Xe rfl rfl) rfl ?_
     refine Va (Vo (congrArg Wc c17) rfl) rfl ?_
     refine Va (Vl rfl) rfl ?_
     refine Xh rfl rfl c18 ?_
     refine Va (Vm rfl) rfl ?_
     refine Xh rfl rfl c18 ?_
     refine Va (Xe rfl rfl) rfl ?_
     refine Va (Vo (congrArg Wc c18) rfl) rfl ?_
     refine Va (Vl rfl) rfl ?_
     refine Vb rfl rfl (neF c19) rfl ?_
     refine Vb rfl rfl (neF c19) rfl ?_
     refine Va (Vp (congrArg Wc c19) rfl) rfl ?_
     refine Va (Vl rfl) rfl ?_
     refine Vb rfl rfl (by decide) rfl ?_
     refine Vb rfl rfl (by decide) rfl ?_
     refine Va (Vp rfl rfl) rfl ?_
     refine Va (Vl rfl) rfl ?_
     refine Vb rfl rfl (by decide) rfl ?_
     refine Vb rfl rfl (by decide) rfl ?_
     refine Va (Vp rfl rfl) rfl ?_
     refine Va (Vl rfl) rfl ?_
     refine Vb rfl rfl (by decide) rfl ?_
     refine Vb rfl rfl (by decide) rfl ?_
     refine Va (Vp rfl rfl) rfl ?_
     refine Va (Vl rfl) rfl ?_
     refine Vb rfl rfl (by decide) rfl ?_
     refine Vb rfl rfl (by decide) rfl ?_
     refine Vb rfl rfl (by decide) rfl ?_
     refine Vb rfl rfl (by decide) rfl ?_
     refine Va (Vp rfl rfl) rfl ?_
     refine Va (Vl rfl) rfl ?_
     refine Vb rfl rfl (by decide) rfl ?_
     refine Vb rfl rfl (by decide) rfl ?_
     refine Vb rfl rfl (by decide) rfl ?_
     refine Vb rfl rfl (by decide) rfl ?_
     refine Vb rfl rfl (by decide) rfl ?_
     refine Va (Vp rfl rfl) rfl ?_
     refine Va (Vl rfl) rfl ?_
     refine Vb rfl rfl (by decide) rfl ?_
     refine Vb rfl rfl (by decide) rfl ?_
     refine Vb rfl rfl (by decide) rfl ?_
     refine Vb rfl rfl (by decide) rfl ?_
     refine Vb rfl rfl (by decide) rfl ?_
     refine Va (Vp rfl rfl) rfl ?_
     refine Va (Vl rfl) rfl ?_
     refine Vb rfl rfl (by decide) rfl ?_
     refine Vb rfl rfl (by decide) rfl ?_
     refine Vb rfl rfl (by decide) rfl ?_
     refine Vb rfl rfl (by decide) rfl ?_
     refine Va (Vp rfl rfl) rfl ?_
     refine Va (Vl rfl) rfl ?_
     refine Vb rfl rfl (by decide) rfl ?_
     refine Vb rfl rfl (by decide) rfl ?_
     refine Vb rfl rfl (by decide) rfl ?_
     refine Vb rfl rfl (by decide) rfl ?_
     refine Vb rfl rfl (by decide) rfl ?_
     refine Va (Vp rfl rfl) rfl ?_
     refine Va (Vl rfl) rfl ?_
     refine Vb rfl rfl (by decide) rfl ?_
     refine Vb rfl rfl (by decide) rfl ?_
     refine Vb rfl rfl (by decide) rfl ?_
     refine Va (Vp rfl rfl) rfl ?_
     refine Va (Yd rfl) rfl ?_
     refine Vh ?_
     refine Xj ?_
     obtain rfl := Wd hF
     refine fnR ?_
     exact Vw rfl [] (by decide) ⟨Vs rfl (.bool _), trivial⟩ trivial
   ·have hF := Ys c18 hF
    refine Va (Vm rfl) rfl ?_
    refine Va (Xe rfl rfl) rfl ?_
    refine Va (Vl rfl) rfl ?_
    refine Xh rfl rfl c17 ?_
    refine Va (Vm rfl) rfl ?_
    refine Xh rfl rfl c17 ?_
    refine Va (Xe rfl rfl) rfl ?_
    refine Va (Vo (congrArg Wc c17) rfl) rfl ?_
    refine Va (Vl rfl) rfl ?_
    refine Vb rfl rfl (neF c18) rfl ?_
    refine Vb rfl rfl (neF c18) rfl ?_
    refine Va (Vp (congrArg Wc c18) rfl) rfl ?_
    refine Va (Vl rfl) rfl ?_
    refine Vb rfl rfl (by decide) rfl ?_
    refine Vb rfl rfl (by decide) rfl ?_
    refine Va (Vp rfl rfl) rfl ?_
    refine Va (Vl rfl) rfl ?_
    refine Vb rfl rfl (by decide) rfl ?_
    refine Vb rfl rfl (by decide) rfl ?_
    refine Va (Vp rfl rfl) rfl ?_
    refine Va (Vl rfl) rfl ?_
    refine Vb rfl rfl (by decide) rfl ?_
    refine Vb rfl rfl (by decide) rfl ?_
    refine Va (Vp rfl rfl) rfl ?_
    refine Va (Vl rfl) rfl ?_
    refine Vb rfl rfl (by decide) rfl ?_
    refine Vb rfl rfl (by decide) rfl ?_
    refine Va (Vp rfl rfl) rfl ?_
    refine Va (Vl rfl) rfl ?_
    refine Vb rfl rfl (by decide) rfl ?_
    refine Vb rfl rfl (by decide) rfl ?_
    refine Vb rfl rfl (by decide) rfl ?_
    refine Vb rfl rfl (by decide) rfl ?_
    refine Va (Vp rfl rfl) rfl ?_
    refine Va (Vl rfl) rfl ?_
    refine Vb rfl rfl (by decide) rfl ?_
    refine Vb rfl rfl (by decide) rfl ?_
    refine Vb rfl rfl (by decide) rfl ?_
    refine Vb rfl rfl (by decide) rfl ?_
    refine Vb rfl rfl (by decide) rfl ?_
    refine Va (Vp rfl rfl) rfl ?_
    refine Va (Vl rfl) rfl ?_
    refine Vb rfl rfl (by decide) rfl ?_
    refine Vb rfl rfl (by decide) rfl ?_
    refine Vb rfl rfl (by decide) rfl ?_
    refine Vb rfl rfl (by decide) rfl ?_
    refine Vb rfl rfl (by decide) rfl ?_
    refine Va (Vp rfl rfl) rfl ?_
    refine Va (Vl rfl) rfl ?_
    refine Vb rfl rfl (by decide) rfl ?_
    refine Vb rfl rfl (by decide) rfl ?_
    refine Vb rfl rfl (by decide) rfl ?_
    refine Vb rfl rfl (by decide) rfl ?_
    refine Va (Vp rfl rfl) rfl ?_
    refine Va (Vl rfl) rfl ?_
    refine Vb rfl rfl (by decide) rfl ?_
    refine Vb rfl rfl (by decide) rfl ?_
    refine Vb rfl rfl (by decide) rfl ?_
    refine Vb rfl rfl (by decide) rfl ?_
    refine Vb rfl rfl (by decide) rfl ?_
    refine Va (Vp rfl rfl) rfl ?_
    refine Va (Vl rfl) rfl ?_
    refine Vb rfl rfl (by decide) rfl ?_
    refine Vb rfl rfl (by decide) rfl ?_
    refine Vb rfl rfl (by decide) rfl ?_
    refine Va (Vp rfl rfl) rfl ?_
    refine Va (Yd rfl) rfl ?_
    refine Vh ?_
    refine Xj ?_
    obtain rfl := Wd hF
    refine fnR ?_
    exact Vw rfl [] (by decide) ⟨Vs rfl (.bool _), trivial⟩ trivial
  ·have hF := Ys c17 hF
   refine Va (Vm rfl) rfl ?_
   refine Va (Xe rfl rfl) rfl ?_
   refine Va (Vl rfl) rfl ?_
   refine Vb rfl rfl (neF c17) rfl ?_
   refine Vb rfl rfl (neF c17) rfl ?_
   refine Va (Vp (congrArg Wc c17) rfl) rfl ?_
   refine Va (Vl rfl) rfl ?_
   refine Vb rfl rfl (by decide) rfl ?_
   refine Vb rfl rfl (by decide) rfl ?_
   refine Va (Vp rfl rfl) rfl ?_
   refine Va (Vl rfl) rfl ?_
   refine Vb rfl rfl (by decide) rfl ?_
   refine Vb rfl rfl (by decide) rfl ?_
   refine Va (Vp rfl rfl) rfl ?_
   refine Va (Vl rfl) rfl ?_
   refine Vb rfl rfl (by decide) rfl ?_
   refine Vb rfl rfl (by decide) rfl ?_
   refine Va (Vp rfl rfl) rfl ?_
   refine Va (Vl rfl) rfl ?_
   refine Vb rfl rfl (by decide) rfl ?_
   refine Vb rfl rfl (by decide) rfl ?_
   refine Va (Vp rfl rfl) rfl ?_
   refine Va (Vl rfl) rfl ?_
   refine Vb rfl rfl (by decide) rfl ?_
   refine Vb rfl rfl (by decide) rfl ?_
   refine Va (Vp rfl rfl) rfl ?_
   refine Va (Vl rfl) rfl ?_
   refine Vb rfl rfl (by decide) rfl ?_
   refine Vb rfl rfl (by decide) rfl ?_
   refine Vb rfl rfl (by decide) rfl ?_
   refine Vb rfl rfl (by decide) rfl ?_
   refine Va (Vp rfl rfl) rfl ?_
   refine Va (Vl rfl) rfl ?_
   refine Vb rfl rfl (by decide) rfl ?_
   refine Vb rfl rfl (by decide) rfl ?_
   refine Vb rfl rfl (by decide) rfl ?_
   refine Vb rfl rfl (by decide) rfl ?_
   refine Vb rfl rfl (by decide) rfl ?_
   refine Va (Vp rfl rfl) rfl ?_
   refine Va (Vl rfl) rfl ?_
   refine Vb rfl rfl (by decide) rfl ?_
   refine Vb rfl rfl (by decide) rfl ?_
   refine Vb rfl rfl (by decide) rfl ?_
   refine Vb rfl rfl (by decide) rfl ?_
   refine Vb rfl rfl (by decide) rfl ?_
   refine Va (Vp rfl rfl) rfl ?_
   refine Va (Vl rfl) rfl ?_
   refine Vb rfl rfl (by decide) rfl ?_
   refine Vb rfl rfl (by decide) rfl ?_
   refine Vb rfl rfl (by decide) rfl ?_
   refine Vb rfl rfl (by decide) rfl ?_
   refine Va (Vp rfl rfl) rfl ?_
   refine Va (Vl rfl) rfl ?_
   refine Vb rfl rfl (by decide) rfl ?_
   refine Vb rfl rfl (by decide) rfl ?_
   refine Vb rfl rfl (by decide) rfl ?_
   refine Vb rfl rfl (by decide) rfl ?_
   refine Vb rfl rfl (by decide) rfl ?_
   refine Va (Vp rfl rfl) rfl ?_
   refine Va (Vl rfl) rfl ?_
   refine Vb rfl rfl (by decide) rfl ?_
   refine Vb rfl rfl (by decide) rfl ?_
   refine Vb rfl rfl (by decide) rfl ?_
   refine Va (Vp rfl rfl) rfl ?_
   refine Va (Yd rfl) rfl ?_
   refine Vh ?_
   refine Xj ?_
   obtain rfl := Wd hF
   refine fnR ?_
   exact Vw rfl [] (by decide) ⟨Vs rfl (.bool _), trivial⟩ trivial
 ·rintro _ _ _ _ ⟨he, hw⟩
  refine ⟨_, _, _, hw, ?_⟩
  exact Yw he [.bool r] ⟨rfl, trivial⟩ (.bool _) ⟨rfl, rfl⟩

theorem F_made_Roll_ok {p0 : List Int} {r : T_made_Dice} (hF : F_made_Roll p0 = some r) (low : List AObj) {n : Nat} (hn : low.length = n) :
    Yk Try.prog 9 [.vs 1 (Wa (Wb .i64) p0)] low fun x low' => x = .ptr (n + 0) 0 0 0 ∧ low' = low ++ [⟨53, 2, [.agg [.vs 1 (Wa (Wb .i64) r.L), .int .i64 r.At]], 0⟩] := by
 refine Vz (nt := 6) (rs := [.tmp 2]) Try.func9 rfl rfl (We rfl) rfl ?_
 refine Vx (Q' := FnE (fun E' lw lc => Xv E' lw lc [(2, .ptr (n + 0) 0 0 0)] low [⟨53, 2, [.agg [.vs 1 (Wa (Wb .i64) r.L), .int .i64 r.At]], 0⟩])) ?_ ?_
 ·unfold F_made_Roll at hF
  refine Vi ?_
  refine Vf ?_
  refine Va (rd_asQ rfl) rfl ?_
  refine Vh ?_
  refine Vi ?_
  refine Vf ?_
  refine Va (Xw rfl) rfl ?_
  refine Va (Zt (vs := [(0, .vs 1 (Wa (Wb .i64) p0))]) (ds := [.vs 1 (Wa (Wb .i64) p0), .int .i64 0]) tz_53 rfl rfl tp_53 ⟨rfl, rfl, trivial⟩ (nt_all2 rfl) rfl) rfl ?_
  refine Vj (Yx hn rfl (v := .agg [.vs 1 (Wa (Wb .i64) p0), .int .i64 0]) rfl rfl (Wf _) rfl rfl) rfl ?_
  refine Va (rd_asP rfl) rfl ?_
  refine Vh ?_
  refine Xj ?_
  obtain rfl := Wd hF
  refine fnR ?_
  exact Vq ⟨rfl, trivial⟩
 ·rintro _ _ _ _ ⟨he, hw⟩
  refine ⟨_, _, _, hw, ?_⟩
  exact bodyQ_all he [.ptr (n + 0) 0 0 0] ⟨rfl, trivial⟩ ⟨rfl, rfl⟩

theorem F_made_Mod_ok {p0 : Int} {p1 : Int} {r : Int} (hF : F_made_Mod p0 p1 = some r) (low : List AObj) :
    Yk Try.prog 19 [.int .i64 p0, .int .i64 p1] low fun x low' => x = .int .i64 r ∧ low' = low := by
 refine Vz (nt := 16) (rs := [.tmp 4]) Try.func19 rfl rfl (We rfl) rfl ?_
 refine Vx (Q' := FnE (fun E' lw lc => Xv E' lw lc [(4, .int .i64 r)] low [])) ?_ ?_
 ·unfold F_made_Mod at hF
  refine Vi ?_
  refine Vf ?_
  refine Va (Xr rfl) rfl ?_
  refine Vh ?_
  refine Vi ?_
  refine Vi ?_
  refine Vf ?_
  refine Va (Vm rfl) rfl ?_
  refine Va (rd_lss rfl rfl) rfl ?_
  refine Vh ?_
  refine Xq rfl (fun c1 => ?_) (fun c1 => ?_)
  ·have hF := Yr c1 hF
   refine Vi ?_
   refine Vf ?_
   refine Va (Xr rfl) rfl ?_
   refine Vh ?_
   refine Xj ?_
   obtain rfl := Wd hF
   refine fnR ?_
   exact Vq ⟨rfl, trivial⟩
  ·have hF := Ys c1 hF
   refine Xy ?_
   refine Vi ?_
   refine Vf ?_
   obtain ⟨x2, h3, hF⟩ := Yt hF
   refine Va (Vm rfl) rfl ?_
   refine Va (Vm rfl) rfl ?_
   refine Va (rd_rem rfl rfl (remI_some h3).1 (remI_some h3).2) rfl ?_
   refine Va (Xr rfl) rfl ?_
   refine Vh ?_
   refine Vi ?_
   refine Vi ?_
   refine Vf ?_
   refine Va (Vm rfl) rfl ?_
   refine Va (rd_lss rfl rfl) rfl ?_
   refine Vh ?_
   obtain ⟨o4, ho4, hF⟩ := Yt hF
   refine Vx (Q' := (fun o4 => OnlyE .normal (fun E' lw lc => Xv E' lw lc [(0, .int .i64 o4)] low [])) o4) ?_ ?_
   ·replace hF := ho4
    refine Xq rfl (fun c5 => ?_) (fun c5 => ?_)
    ·have hF := Yr c5 hF
     refine Vf ?_
     refine Va (Vm rfl) rfl ?_
     refine Va (Vm rfl) rfl ?_
     refine Va (rd_add rfl rfl rfl) rfl ?_
     refine Va (Xr rfl) rfl ?_
     refine Vh ?_
     obtain rfl := Wd hF
     refine Ye ?_
     exact Vq ⟨rfl, trivial⟩
    ·have hF := Ys c5 hF
     refine Xy ?_
     obtain rfl := Wd hF
     refine Ye ?_
     exact Vq ⟨rfl, trivial⟩
   ·rintro _ _ _ _ ⟨rfl, hw⟩
    refine ⟨_, _, _, hw, ?_⟩
    refine Vi ?_
    refine Vf ?_
    refine Va (Vm rfl) rfl ?_
    refine Va (Xr rfl) rfl ?_
    refine Vh ?_
    refine Xj ?_
    obtain rfl := Wd hF
    refine fnR ?_
    exact Vq ⟨rfl, trivial⟩
 ·rintro _ _ _ _ ⟨he, hw⟩
  refine ⟨_, _, _, hw, ?_⟩
  exact Yw he [.int .i64 r] ⟨rfl, trivial⟩ (.int _ _) ⟨rfl, rfl⟩

theorem F_made_Dice_Next_ok0 {p0 : T_made_Dice} {p1 : Int} {r : T_made_Dice × Int} (hF : F_made_Dice_Next p0 p1 = some r) {low0 : List AObj} {q0 w0 : Nat} (hB : Bor low0 [q0]) {n : Nat} (hn : low0.length = n) :
    Yk Try.prog 10 [.ptr q0 w0 0 0, .int .i64 p1] (setL low0 [(q0, ⟨53, 2, [.agg [.vs 1 (Wa (Wb .i64) p0.L), .int .i64 p0.At]], w0⟩)]) fun x low' => x = .int .i64 r.2 ∧ low' = setL low0 [(q0, ⟨53, 2, [.agg [.vs 1 (Wa (Wb .i64) r.1.L), .int .i64 r.1.At]], w0⟩)] ++ [] := by
 refine Vz (nt := 35) (rs := [.tmp 4]) Try.func10 rfl rfl (We rfl) rfl ?_
 have hq0 : q0 < n := hB.ltN hn 0 rfl
 refine Vx (Q' := FnE (fun E' lw lc => Xv E' lw lc [(4, .int .i64 r.2)] (setL low0 [(q0, ⟨53, 2, [.agg [.vs 1 (Wa (Wb .i64) r.1.L), .int .i64 r.1.At]], w0⟩)]) [])) ?_ ?_
 ·unfold F_made_Dice_Next at hF
  refine Vi ?_
  refine Vf ?_
  refine Va (Xr rfl) rfl ?_
  refine Vh ?_
  refine Vi ?_
  refine Vi ?_
  refine Zu [[], [0], [0, 1], [0, 1, 2], [], [4], [4, 5], [4, 5, 6], [4, 5, 6, 7], [0, 1, 2, 3, 4, 5, 6, 7, 8]] mixed (by kernel_rfl) rfl ?_
  refine Ze rfl rfl (Zi rfl) ?_
  refine Ze rfl rfl (Zc rfl) ?_
  refine Ze rfl rfl (Vc rfl tf_53_1 ts_3 (by decide)) ?_
  refine Ze rfl rfl (Ve rfl (Yb hB rfl 0 rfl) rfl ta_3 rfl) ?_
  refine Ze rfl rfl (Zi rfl) ?_
  refine Ze rfl rfl (Zc rfl) ?_
  refine Ze rfl rfl (Vc rfl tf_53_0 ts_22 (by decide)) ?_
  refine Ze rfl rfl (Ve rfl (Yb hB rfl 0 rfl) rfl ta_22 rfl) ?_
  refine Ze rfl rfl (Xp (Xx rfl rfl te_22) (congrArg (fun n : Nat => Wb .i64 (n : Int)) (Wh _))) ?_
  refine Ze rfl rfl (rd_geq rfl rfl) ?_
  refine Zh ?_
  refine Xq rfl (fun c1 => ?_) (fun c1 => ?_)
  ·have hF := Yr c1 hF
   refine Vi ?_
   refine Vf ?_
   refine Va (Xr rfl) rfl ?_
   refine Vh ?_
   refine Xj ?_
   obtain rfl := Wd hF
   refine fnR ?_
   exact Vq ⟨rfl, trivial⟩
  ·have hF := Ys c1 hF
   refine Xy ?_
   refine Vi ?_
   refine Vf ?_
   refine Va (Zi rfl) rfl ?_
   refine Va (Zc rfl) rfl ?_
   refine Va (Vc rfl tf_53_1 ts_3 (by decide)) rfl ?_
   refine Va (Ve rfl (Yb hB rfl 0 rfl) rfl ta_3 rfl) rfl ?_
   refine Va (rd_add rfl rfl rfl) rfl ?_
   refine Va (Zc rfl) rfl ?_
   refine Va (Vc rfl tf_53_1 ts_3 (by decide)) rfl ?_
   refine Vj (Xo (p := .int .i64 (IntKind.i64.wrap (p0.At + 1))) (e' := .agg [.vs 1 (Wa (Wb .i64) p0.L), .int .i64 (IntKind.i64.wrap (p0.At + 1))]) rfl (Yb hB rfl 0 rfl) rfl rfl ts_3 rfl (Yv rfl) rfl (We rfl) rfl (setO_B hB rfl 0 rfl (ltObjN hn ⟨Xl ⟨.vs _ _, .int _ _, trivial⟩, trivial⟩) rfl)) rfl ?_
   refine Vh ?_
   refine Vi ?_
   obtain ⟨x2, h3, hF⟩ := Yt hF
   obtain ⟨x4, h5, hF⟩ := Yt hF
   refine Zu [[], [0], [0, 1], [0, 1, 2], [], [4], [4, 5], [4, 5, 6], [4, 5, 6, 7], [0, 1, 2, 3, 4, 5, 6, 7, 8], [0, 1, 2, 3, 4, 5, 6, 7, 8, 9], [], [0, 1, 2, 3, 4, 5, 6, 7, 8, 9, 10, 11], [0, 1, 2, 3, 4, 5, 6, 7, 8, 9, 10, 11, 12]] mixed (by kernel_rfl) rfl ?_
   refine Ze rfl rfl (Zi rfl) ?_
   refine Ze rfl rfl (Zc rfl) ?_
   refine Ze rfl rfl (Vc rfl tf_53_0 ts_22 (by decide)) ?_
   refine Ze rfl rfl (Ve rfl (Yb hB rfl 0 rfl) rfl ta_22 rfl) ?_
   refine Ze rfl rfl (Zi rfl) ?_
   refine Ze rfl rfl (Zc rfl) ?_
   refine Ze rfl rfl (Vc rfl tf_53_1 ts_3 (by decide)) ?_
   refine Ze rfl rfl (Ve rfl (Yb hB rfl 0 rfl) rfl ta_3 rfl) ?_
   refine Ze rfl rfl (rd_sub rfl rfl rfl) ?_
   refine Ze rfl rfl (Xp (Yn rfl rfl h3 te_22 ts_3) (v' := .vptr [.int .i64 x2] 0) rfl) ?_
   refine Ze rfl rfl (Xm rfl ta_3 rfl) ?_
   refine Ze rfl rfl (Vm rfl) ?_
   refine dn1 rfl rfl (nt_of (Xt rfl Try.call19 (F_made_Mod_ok h5 _))) ?_
   refine Ze rfl rfl (Xr rfl) ?_
   refine Zh ?_
   refine Xj ?_
   obtain rfl := Wd hF
   refine fnR ?_
   exact Vq ⟨rfl, trivial⟩
 ·rintro _ _ _ _ ⟨he, hw⟩
  refine ⟨_, _, _, hw, ?_⟩
  exact Yw he [.int .i64 r.2] ⟨rfl, trivial⟩ (.int _ _) ⟨rfl, (List.append_nil _).symm⟩

theorem F_made_Dice_Next_ok {p0 : T_made_Dice} {p1 : Int} {r : T_made_Dice × Int} (hF : F_made_Dice_Next p0 p1 = some r) {low : List AObj} {q0 w0 : Nat} (hnd : [q0].Nodup) (hq0 : low[q0]? = some ⟨53, 2, [.agg [.vs 1 (Wa (Wb .i64) p0.L), .int .i64 p0.At]], w0⟩) {n : Nat} (hn : low.length = n) :
    Yk Try.prog 10 [.ptr q0 w0 0 0, .int .i64 p1] low fun x low' => x = .int .i64 r.2 ∧ low' = setL low [(q0, ⟨53, 2, [.agg [.vs 1 (Wa (Wb .i64) r.1.L), .int .i64 r.1.At]], w0⟩)] ++ [] := by
  obtain ⟨h1, h2⟩ := Zn (ps := [(q0, ⟨53, 2, [.agg [.vs 1 (Wa (Wb .i64) p0.L), .int .i64 p0.At]], w0⟩)]) hnd (Zl hq0 bor0)
  exact Zf h1 (F_made_Dice_Next_ok0 hF h2 hn)

theorem F_made_Dice_Of_ok0 {p0 : T_made_Dice} {p1 : List Int} {r : T_made_Dice × Int} (hF : F_made_Dice_Of p0 p1 = some r) {low0 : List AObj} {q0 w0 : Nat} (hB : Bor low0 [q0]) {n : Nat} (hn : low0.length = n) :
    Yk Try.prog 11 [.ptr q0 w0 0 0, .vs 1 (Wa (Wb .i64) p1)] (setL low0 [(q0, ⟨53, 2, [.agg [.vs 1 (Wa (Wb .i64) p0.L), .int .i64 p0.At]], w0⟩)]) fun x low' => x = .int .i64 r.2 ∧ low' = setL low0 [(q0, ⟨53, 2, [.agg [.vs 1 (Wa (Wb .i64) r.1.L), .int .i64 r.1.At]], w0⟩)] ++ [] := by
 refine Vz (nt := 12) (rs := [.tmp 4]) Try.func11 rfl rfl (We rfl) rfl ?_
 have hq0 : q0 < n := hB.ltN hn 0 rfl
 refine Vx (Q' := FnE (fun E' lw lc => Xv E' lw lc [(4, .int .i64 r.2)] (setL low0 [(q0, ⟨53, 2, [.agg [.vs 1 (Wa (Wb .i64) r.1.L), .int .i64 r.1.At]], w0⟩)]) [])) ?_ ?_
 ·unfold F_made_Dice_Of at hF
  refine Vi ?_
  refine Vf ?_
  refine Va (Xr rfl) rfl ?_
  refine Vh ?_
  refine Vi ?_
  refine Vf ?_
  obtain ⟨x1, h2, hF⟩ := Yt hF
  obtain ⟨x3, h4, hF⟩ := Yt hF
  refine Va (Xw rfl) rfl ?_
  refine Va (Zi rfl) rfl ?_
  refine Va (Xw rfl) rfl ?_
  refine Va (Xp (Xx rfl rfl te_22) (congrArg (fun n : Nat => Wb .i64 (n : Int)) (Wh _))) rfl ?_
  refine Vj (Yu (ps := [(q0, ⟨53, 2, [.agg [.vs 1 (Wa (Wb .i64) x1.1.L), .int .i64 x1.1.At]], w0⟩)]) (r := .int .i64 x1.2) (os := []) (low1 := (setL low0 [(q0, ⟨53, 2, [.agg [.vs 1 (Wa (Wb .i64) x1.1.L), .int .i64 x1.1.At]], w0⟩)])) (loc1 := []) (loc2 := []) rfl Try.call10 (F_made_Dice_Next_ok h2 (nd1 na0 nd0) (get_B hB rfl 0 rfl) (Xc (Vn hn) rfl)) (Zq (ps0' := [(q0, ⟨53, 2, [.agg [.vs 1 (Wa (Wb .i64) x1.1.L), .int .i64 x1.1.At]], w0⟩)]) hB rfl 0 rfl (ltObjN hn ⟨Xl ⟨.vs _ _, .int _ _, trivial⟩, trivial⟩) rfl Za) rfl) rfl ?_
  refine Va (Xp (Yn rfl rfl h4 te_22 ts_3) (v' := .vptr [.int .i64 x3] 0) rfl) rfl ?_
  refine Va (Xm rfl ta_3 rfl) rfl ?_
  refine Va (Xr rfl) rfl ?_
  refine Vh ?_
  refine Xj ?_
  obtain rfl := Wd hF
  refine fnR ?_
  exact Vq ⟨rfl, trivial⟩
 ·rintro _ _ _ _ ⟨he, hw⟩
  refine ⟨_, _, _, hw, ?_⟩
  exact Yw he [.int .i64 r.2] ⟨rfl, trivial⟩ (.int _ _) ⟨rfl, (List.append_nil _).symm⟩

theorem F_made_Dice_Of_ok {p0 : T_made_Dice} {p1 : List Int} {r : T_made_Dice × Int} (hF : F_made_Dice_Of p0 p1 = some r) {low : List AObj} {q0 w0 : Nat} (hnd : [q0].Nodup) (hq0 : low[q0]? = some ⟨53, 2, [.agg [.vs 1 (Wa (Wb .i64) p0.L), .int .i64 p0.At]], w0⟩) {n : Nat} (hn : low.length = n) :
    Yk Try.prog 11 [.ptr q0 w0 0 0, .vs 1 (Wa (Wb .i64) p1)] low fun x low' => x = .int .i64 r.2 ∧ low' = setL low [(q0, ⟨53, 2, [.agg [.vs 1 (Wa (Wb .i64) r.1.L), .int .i64 r.1.At]], w0⟩)] ++ [] := by
  obtain ⟨h1, h2⟩ := Zn (ps := [(q0, ⟨53, 2, [.agg [.vs 1 (Wa (Wb .i64) p0.L), .int .i64 p0.At]], w0⟩)]) hnd (Zl hq0 bor0)
  exact Zf h1 (F_made_Dice_Of_ok0 hF h2 hn)

theorem F_ref39_Copy_ok {p0 : T_Line} {r : T_Line} (hF : F_ref39_Copy p0 = some r) (low : List AObj) {n : Nat} (hn : low.length = n) :
    Yk Try.prog 23 [.agg [.int .i64 p0.Time, .vs 1 (Wa (Wb .i64) p0.States), .vs 1 (Wa (Wb .i64) p0.Since), .vs 1 (Wa Wc p0.Pulled), .vs 1 (Wa Wc p0.Held)]] low fun x low' => x = .agg [.int .i64 r.Time, .sl (n + 0) 0 0 (r.States).length, .sl (n + 1) 0 0 (r.Since).length, .sl (n + 2) 0 0 (r.Pulled).length, .sl (n + 3) 0 0 (r.Held).length] ∧ low' = low ++ [⟨3, 1, Wa (Wb .i64) r.States, 0⟩, ⟨3, 1, Wa (Wb .i64) r.Since, 0⟩, ⟨4, 1, Wa Wc r.Pulled, 0⟩, ⟨4, 1, Wa Wc r.Held, 0⟩] := by
 refine Vz (nt := 18) (rs := [.cell 2 34]) Try.func23 rfl rfl (We rfl) rfl ?_
 refine Vx (Q' := FnE (fun E' lw lc => Xv E' lw lc [(2, .ptr (n + 4) 0 0 0)] low [⟨3, 1, Wa (Wb .i64) r.States, 0⟩, ⟨3, 1, Wa (Wb .i64) r.Since, 0⟩, ⟨4, 1, Wa Wc r.Pulled, 0⟩, ⟨4, 1, Wa Wc r.Held, 0⟩, ⟨34, 5, [.agg [.int .i64 r.Time, .sl (n + 0) 0 0 (r.States).length, .sl (n + 1) 0 0 (r.Since).length, .sl (n + 2) 0 0 (r.Pulled).length, .sl (n + 3) 0 0 (r.Held).length]], 0⟩])) ?_ ?_
 ·unfold F_ref39_Copy at hF
  refine Vi ?_
  refine Vf ?_
  refine Vj (Yx hn rfl (v := .agg [.int .i64 p0.Time, .vs 1 (Wa (Wb .i64) p0.States), .vs 1 (Wa (Wb .i64) p0.Since), .vs 1 (Wa Wc p0.Pulled), .vs 1 (Wa Wc p0.Held)]) rfl rfl (Wf _) rfl rfl) rfl ?_
  refine Vj (Xi hn rfl tz_34 rfl rfl (Wf _) rfl) rfl ?_
  refine Vh ?_
  refine Vi ?_
  obtain ⟨x1, h2, hF⟩ := Yt hF
  obtain ⟨x3, h4, hF⟩ := Yt hF
  obtain ⟨x5, h6, hF⟩ := Yt hF
  obtain ⟨x7, h8, hF⟩ := Yt hF
  refine vwp_drawn [[], [0], [], [2], [2, 3], [], [5], [2, 3, 4, 5, 6], [], [8], [2, 3, 4, 5, 6, 7, 8, 9], [], [11], [2, 3, 4, 5, 6, 7, 8, 9, 10, 11, 12], [0, 1, 2, 3, 4, 5, 6, 7, 8, 9, 10, 11, 12, 13], [0, 1, 2, 3, 4, 5, 6, 7, 8, 9, 10, 11, 12, 13, 14]] [false, false, false, false, true, false, false, true, false, false, true, false, false, true, false, true] [(low, [⟨34, 5, [.agg [.int .i64 p0.Time, .vs 1 (Wa (Wb .i64) p0.States), .vs 1 (Wa (Wb .i64) p0.Since), .vs 1 (Wa Wc p0.Pulled), .vs 1 (Wa Wc p0.Held)]], 0⟩, ⟨34, 5, [.agg [.int .i64 0, .nils, .nils, .nils, .nils]], 0⟩]), (low, [⟨34, 5, [.agg [.int .i64 p0.Time, .vs 1 (Wa (Wb .i64) p0.States), .vs 1 (Wa (Wb .i64) p0.Since), .vs 1 (Wa Wc p0.Pulled), .vs 1 (Wa Wc p0.Held)]], 0⟩, ⟨34, 5, [.agg [.int .i64 0, .nils, .nils, .nils, .nils]], 0⟩, ⟨3, 1, Wa (Wb .i64) x1, 0⟩]), (low, [⟨34, 5, [.agg [.int .i64 p0.Time, .vs 1 (Wa (Wb .i64) p0.States), .vs 1 (Wa (Wb .i64) p0.Since), .vs 1 (Wa Wc p0.Pulled), .vs 1 (Wa Wc p0.Held)]], 0⟩, ⟨34, 5, [.agg [.int .i64 0, .nils, .nils, .nils, .nils]], 0⟩, ⟨3, 1, Wa (Wb .i64) x1, 0⟩, ⟨3, 1, Wa (Wb .i64) x3, 0⟩]), (low, [⟨34, 5, [.agg [.int .i64 p0.Time, .vs 1 (Wa (Wb .i64) p0.States), .vs 1 (Wa (Wb .i64) p0.Since), .vs 1 (Wa Wc p0.Pulled), .vs 1 (Wa Wc p0.Held)]], 0⟩, ⟨34, 5, [.agg [.int .i64 0, .nils, .nils, .nils, .nils]], 0⟩, ⟨3, 1, Wa (Wb .i64) x1, 0⟩, ⟨3, 1, Wa (Wb .i64) x3, 0⟩, ⟨4, 1, Wa Wc x5, 0⟩]), (low, [⟨34, 5, [.agg [.int .i64 p0.Time, .vs 1 (Wa (Wb .i64) p0.States), .vs 1 (Wa (Wb .i64) p0.Since), .vs 1 (Wa Wc p0.Pulled), .vs 1 (Wa Wc p0.Held)]], 0⟩, ⟨34, 5, [.agg [.int .i64 0, .nils, .nils, .nils, .nils]], 0⟩, ⟨3, 1, Wa (Wb .i64) x1, 0⟩, ⟨3, 1, Wa (Wb .i64) x3, 0⟩, ⟨4, 1, Wa Wc x5, 0⟩, ⟨4, 1, Wa Wc x7, 0⟩]), (low, [⟨34, 5, [.agg [.int .i64 p0.Time, .vs 1 (Wa (Wb .i64) p0.States), .vs 1 (Wa (Wb .i64) p0.Since), .vs 1 (Wa Wc p0.Pulled), .vs 1 (Wa Wc p0.Held)]], 0⟩, ⟨34, 5, [.agg [.int .i64 p0.Time, .sl (n + 2) 0 0 (x1).length, .sl (n + 3) 0 0 (x3).length, .sl (n + 4) 0 0 (x5).length, .sl (n + 5) 0 0 (x7).length]], 0⟩, ⟨3, 1, Wa (Wb .i64) x1, 0⟩, ⟨3, 1, Wa (Wb .i64) x3, 0⟩, ⟨4, 1, Wa Wc x5, 0⟩, ⟨4, 1, Wa Wc x7, 0⟩])] mixed (by kernel_rfl) rfl (lenAll (Yy rfl (Yy rfl (Yy rfl (Yy rfl (Yy rfl (Yy rfl all0))))))) rfl _ rfl rfl ?_
  refine Zm _ rfl rfl (Yy (VRd.ntl (Vc rfl tf_34_0 ts_3 (by decide))) (Yy (VRd.ntl (Vc rfl tf_34_0 ts_3 (by decide))) (Yy (VRd.ntl (Vc rfl tf_34_0 ts_3 (by decide))) (Yy (VRd.ntl (Vc rfl tf_34_0 ts_3 (by decide))) (Yy (VRd.ntl (Vc rfl tf_34_0 ts_3 (by decide))) all0))))) ?_
  refine Zm _ rfl rfl (Yy (VRd.ntl (Ve rfl (Vg hn rfl) rfl ta_3 rfl)) (Yy (VRd.ntl (Ve rfl (Vg hn rfl) rfl ta_3 rfl)) (Yy (VRd.ntl (Ve rfl (Vg hn rfl) rfl ta_3 rfl)) (Yy (VRd.ntl (Ve rfl (Vg hn rfl) rfl ta_3 rfl)) (Yy (VRd.ntl (Ve rfl (Vg hn rfl) rfl ta_3 rfl)) all0))))) ?_
  refine Ze rfl rfl (Vc rfl tf_34_1 ts_22 (by decide)) ?_
  refine Ze rfl rfl (Ve rfl (Vg hn rfl) rfl ta_22 rfl) ?_
  refine dops_ef rfl rfl rfl (vef_ap0N (f := (Wb .i64)) (ys := p0.States) hn rfl (.inl rfl) rfl (src_vs rfl) (Wf _) te_22 ts_3 tb_3 (by decide) tz_3 rfl h2) ?_
  refine Zm _ rfl rfl (Yy (VRd.ntl (Vc rfl tf_34_2 ts_22 (by decide))) (Yy (VRd.ntl (Vc rfl tf_34_2 ts_22 (by decide))) all0)) ?_
  refine Zm _ rfl rfl (Yy (VRd.ntl (Ve rfl (Vg hn rfl) rfl ta_22 rfl)) (Yy (VRd.ntl (Ve rfl (Vg hn rfl) rfl ta_22 rfl)) all0)) ?_
  refine dops_ef rfl rfl rfl (vef_ap0N (f := (Wb .i64)) (ys := p0.Since) hn rfl (.inl rfl) rfl (src_vs rfl) (Wf _) te_22 ts_3 tb_3 (by decide) tz_3 rfl h4) ?_
  refine Zm _ rfl rfl (Yy (VRd.ntl (Vc rfl tf_34_3 ts_32 (by decide))) (Yy (VRd.ntl (Vc rfl tf_34_3 ts_32 (by decide))) (Yy (VRd.ntl (Vc rfl tf_34_3 ts_32 (by decide))) all0))) ?_
  refine Zm _ rfl rfl (Yy (VRd.ntl (Ve rfl (Vg hn rfl) rfl ta_32 rfl)) (Yy (VRd.ntl (Ve rfl (Vg hn rfl) rfl ta_32 rfl)) (Yy (VRd.ntl (Ve rfl (Vg hn rfl) rfl ta_32 rfl)) all0))) ?_
  refine dops_ef rfl rfl rfl (vef_ap0N (f := Wc) (ys := p0.Pulled) hn rfl (.inl rfl) rfl (src_vs rfl) (Wf _) te_32 ts_4 tb_4 (by decide) tz_4 rfl h6) ?_
  refine Zm _ rfl rfl (Yy (VRd.ntl (Vc rfl tf_34_4 ts_32 (by decide))) (Yy (VRd.ntl (Vc rfl tf_34_4 ts_32 (by decide))) (Yy (VRd.ntl (Vc rfl tf_34_4 ts_32 (by decide))) (Yy (VRd.ntl (Vc rfl tf_34_4 ts_32 (by decide))) all0)))) ?_
  refine Zm _ rfl rfl (Yy (VRd.ntl (Ve rfl (Vg hn rfl) rfl ta_32 rfl)) (Yy (VRd.ntl (Ve rfl (Vg hn rfl) rfl ta_32 rfl)) (Yy (VRd.ntl (Ve rfl (Vg hn rfl) rfl ta_32 rfl)) (Yy (VRd.ntl (Ve rfl (Vg hn rfl) rfl ta_32 rfl)) all0)))) ?_
  refine dops_ef rfl rfl rfl (vef_ap0N (f := Wc) (ys := p0.Held) hn rfl (.inl rfl) rfl (src_vs rfl) (Wf _) te_32 ts_4 tb_4 (by decide) tz_4 rfl h8) ?_
  refine Ze rfl rfl (Zt (vs := [(0, .int .i64 p0.Time), (1, .sl (n + 2) 0 0 (x1).length), (2, .sl (n + 3) 0 0 (x3).length), (3, .sl (n + 4) 0 0 (x5).length), (4, .sl (n + 5) 0 0 (x7).length)]) (ds := [.int .i64 p0.Time, .sl (n + 2) 0 0 (x1).length, .sl (n + 3) 0 0 (x3).length, .sl (n + 4) 0 0 (x5).length, .sl (n + 5) 0 0 (x7).length]) tz_34 rfl rfl tp_34 ⟨rfl, rfl, rfl, rfl, rfl, rfl, rfl, rfl, rfl, rfl, trivial⟩ (nt_all2 rfl) rfl) ?_
  refine dops_ef rfl rfl rfl (Xo (p := .agg [.int .i64 p0.Time, .sl (n + 2) 0 0 (x1).length, .sl (n + 3) 0 0 (x3).length, .sl (n + 4) 0 0 (x5).length, .sl (n + 5) 0 0 (x7).length]) (e' := .agg [.int .i64 p0.Time, .sl (n + 2) 0 0 (x1).length, .sl (n + 3) 0 0 (x3).length, .sl (n + 4) 0 0 (x5).length, .sl (n + 5) 0 0 (x7).length]) rfl (Vg hn rfl) rfl rfl ts_34 rfl (Yv rfl) rfl (We rfl) rfl (Ym hn rfl)) ?_
  refine Zh ?_
  refine Xj ?_
  obtain rfl := Wd hF
  refine fnR ?_
  exact Vw hn [(2, 0), (3, 0), (4, 0), (5, 0), (1, 0)] (by decide) ⟨Yl 4 1 rfl rfl, trivial⟩ ⟨⟨_, rfl, rfl, .same _ _ _ _ (Vk (fun _ => .int _ _))⟩, ⟨_, rfl, rfl, .same _ _ _ _ (Vk (fun _ => .int _ _))⟩, ⟨_, rfl, rfl, .same _ _ _ _ (Vk (fun _ => .bool _))⟩, ⟨_, rfl, rfl, .same _ _ _ _ (Vk (fun _ => .bool _))⟩, ⟨_, rfl, rfl, .agg _ _ _ _ _ ⟨Vs rfl (.int _ _), Zr 0 2 rfl rfl, Zr 1 3 rfl rfl, Zr 2 4 rfl rfl, Zr 3 5 rfl rfl, trivial⟩⟩, trivial⟩
 ·rintro _ _ _ _ ⟨he, hw⟩
  refine ⟨_, _, _, hw, ?_⟩
  exact Zz hn 4 rfl (We rfl) he [.agg [.int .i64 r.Time, .sl (n + 0) 0 0 (r.States).length, .sl (n + 1) 0 0 (r.Since).length, .sl (n + 2) 0 0 (r.Pulled).length, .sl (n + 3) 0 0 (r.Held).length]] ⟨Xk rfl (Vg hn rfl) rfl ta_34 ts_34 rfl rfl rfl, trivial⟩ ((Xl ⟨.int _ _, .sl _ _ _ _ (lt_kk rfl), .sl _ _ _ _ (lt_kk rfl), .sl _ _ _ _ (lt_kk rfl), .sl _ _ _ _ (lt_kk rfl), trivial⟩)) ⟨Vk (fun _ => .int _ _), Vk (fun _ => .int _ _), Vk (fun _ => .bool _), Vk (fun _ => .bool _), trivial⟩ ⟨rfl, rfl⟩

theorem F_belts_Stop_1_ok0 {p0 : T_Line} {p1 : List T_Belt} {p2 : Int} {r : T_Line} (hF : F_belts_Stop_1 p0 p1 p2 = some r) {low0 : List AObj} {q0 q1 q2 q3 q4 q5 q6 w0 w1 w2 w3 w4 w5 w6 : Nat} (hB : Bor low0 [q0, q1, q2, q3, q4, q5, q6]) {m1 : Nat} (hm1 : m1 = (p0.States).length) {m2 : Nat} (hm2 : m2 = (p0.Since).length) {m3 : Nat} (hm3 : m3 = (p0.Pulled).length) {m4 : Nat} (hm4 : m4 = (p0.Held).length) {n : Nat} (hn : low0.length = n) :
    Yk Try.prog 51 [.ptr q0 w0 0 0, .ptr q5 w5 0 0, .ptr q6 w6 0 0] (setL low0 [(q0, ⟨34, 5, [.agg [.int .i64 p0.Time, .sl q1 w1 0 m1, .sl q2 w2 0 m2, .sl q3 w3 0 m3, .sl q4 w4 0 m4]], w0⟩), (q1, ⟨3, 1, Wa (Wb .i64) p0.States, w1⟩), (q2, ⟨3, 1, Wa (Wb .i64) p0.Since, w2⟩), (q3, ⟨4, 1, Wa Wc p0.Pulled, w3⟩), (q4, ⟨4, 1, Wa Wc p0.Held, w4⟩), (q5, ⟨27, 1, [.vs 2 (Wa T_Belt.enc p1)], w5⟩), (q6, ⟨3, 1, [.int .i64 p2], w6⟩)]) fun x low' => x = .tup [] ∧ low' = setL low0 [(q0, ⟨34, 5, [.agg [.int .i64 r.Time, .sl q1 w1 0 m1, .sl q2 w2 0 m2, .sl q3 w3 0 m3, .sl q4 w4 0 m4]], w0⟩), (q1, ⟨3, 1, Wa (Wb .i64) r.States, w1⟩), (q2, ⟨3, 1, Wa (Wb .i64) r.Since, w2⟩), (q3, ⟨4, 1, Wa Wc r.Pulled, w3⟩), (q4, ⟨4, 1, Wa Wc r.Held, w4⟩), (q5, ⟨27, 1, [.vs 2 (Wa T_Belt.enc p1)], w5⟩), (q6, ⟨3, 1, [.int .i64 p2], w6⟩)] ++ [] := by
 refine Vz (nt := 8) (rs := []) Try.func51 rfl rfl (We rfl) rfl ?_
 have hq0 : q0 < n := hB.ltN hn 0 rfl
 have hq1 : q1 < n := hB.ltN hn 1 rfl
 have hq2 : q2 < n := hB.ltN hn 2 rfl
 have hq3 : q3 < n := hB.ltN hn 3 rfl
 have hq4 : q4 < n := hB.ltN hn 4 rfl
 have hq5 : q5 < n := hB.ltN hn 5 rfl
 have hq6 : q6 < n := hB.ltN hn 6 rfl
 refine Vx (Q' := FnE (fun E' lw lc => m1 = (r.States).length ∧ m2 = (r.Since).length ∧ m3 = (r.Pulled).length ∧ m4 = (r.Held).length ∧ Xv E' lw lc [] (setL low0 [(q0, ⟨34, 5, [.agg [.int .i64 r.Time, .sl q1 w1 0 m1, .sl q2 w2 0 m2, .sl q3 w3 0 m3, .sl q4 w4 0 m4]], w0⟩), (q1, ⟨3, 1, Wa (Wb .i64) r.States, w1⟩), (q2, ⟨3, 1, Wa (Wb .i64) r.Since, w2⟩), (q3, ⟨4, 1, Wa Wc r.Pulled, w3⟩), (q4, ⟨4, 1, Wa Wc r.Held, w4⟩), (q5, ⟨27, 1, [.vs 2 (Wa T_Belt.enc p1)], w5⟩), (q6, ⟨3, 1, [.int .i64 p2], w6⟩)]) [])) ?_ ?_
 ·unfold F_belts_Stop_1 at hF
  refine Vf ?_
  obtain ⟨x5, h6, hF⟩ := Yt hF
  refine Va (Ve rfl (Yb hB rfl 5 rfl) rfl ta_27 rfl) rfl ?_
  refine Va (Zi rfl) rfl ?_
  refine Va (Ve rfl (Yb hB rfl 6 rfl) rfl ta_3 rfl) rfl ?_
  refine Vj (Yu (ps := [(q0, ⟨34, 5, [.agg [.int .i64 x5.Time, .sl q1 w1 0 m1, .sl q2 w2 0 m2, .sl q3 w3 0 m3, .sl q4 w4 0 m4]], w0⟩), (q1, ⟨3, 1, Wa (Wb .i64) x5.States, w1⟩), (q2, ⟨3, 1, Wa (Wb .i64) x5.Since, w2⟩), (q3, ⟨4, 1, Wa Wc x5.Pulled, w3⟩), (q4, ⟨4, 1, Wa Wc x5.Held, w4⟩)]) (r := .tup []) (os := []) (low1 := (setL low0 [(q0, ⟨34, 5, [.agg [.int .i64 x5.Time, .sl q1 w1 0 m1, .sl q2 w2 0 m2, .sl q3 w3 0 m3, .sl q4 w4 0 m4]], w0⟩), (q1, ⟨3, 1, Wa (Wb .i64) x5.States, w1⟩), (q2, ⟨3, 1, Wa (Wb .i64) x5.Since, w2⟩), (q3, ⟨4, 1, Wa Wc x5.Pulled, w3⟩), (q4, ⟨4, 1, Wa Wc x5.Held, w4⟩), (q5, ⟨27, 1, [.vs 2 (Wa T_Belt.enc p1)], w5⟩), (q6, ⟨3, 1, [.int .i64 p2], w6⟩)])) (loc1 := []) (loc2 := []) rfl Try.call36 (F_belts_stop_ok h6 (nd1 (Zb (hB.ne 0 1 rfl rfl rfl) (Zb (hB.ne 0 2 rfl rfl rfl) (Zb (hB.ne 0 3 rfl rfl rfl) (Zb (hB.ne 0 4 rfl rfl rfl) na0)))) (nd1 (Zb (hB.ne 1 2 rfl rfl rfl) (Zb (hB.ne 1 3 rfl rfl rfl) (Zb (hB.ne 1 4 rfl rfl rfl) na0))) (nd1 (Zb (hB.ne 2 3 rfl rfl rfl) (Zb (hB.ne 2 4 rfl rfl rfl) na0)) (nd1 (Zb (hB.ne 3 4 rfl rfl rfl) na0) (nd1 na0 nd0))))) hm1 hm2 hm3 hm4 (get_B hB rfl 0 rfl) (get_B hB rfl 1 rfl) (get_B hB rfl 2 rfl) (get_B hB rfl 3 rfl) (get_B hB rfl 4 rfl) (Xc (Vn hn) rfl)) (Zq (ps0' := [(q0, ⟨34, 5, [.agg [.int .i64 x5.Time, .sl q1 w1 0 m1, .sl q2 w2 0 m2, .sl q3 w3 0 m3, .sl q4 w4 0 m4]], w0⟩), (q1, ⟨3, 1, Wa (Wb .i64) p0.States, w1⟩), (q2, ⟨3, 1, Wa (Wb .i64) p0.Since, w2⟩), (q3, ⟨4, 1, Wa Wc p0.Pulled, w3⟩), (q4, ⟨4, 1, Wa Wc p0.Held, w4⟩), (q5, ⟨27, 1, [.vs 2 (Wa T_Belt.enc p1)], w5⟩), (q6, ⟨3, 1, [.int .i64 p2], w6⟩)]) hB rfl 0 rfl (ltObjN hn ⟨Xl ⟨.int _ _, .sl _ _ _ _ hq1, .sl _ _ _ _ hq2, .sl _ _ _ _ hq3, .sl _ _ _ _ hq4, trivial⟩, trivial⟩) rfl (Zq (ps0' := [(q0, ⟨34, 5, [.agg [.int .i64 x5.Time, .sl q1 w1 0 m1, .sl q2 w2 0 m2, .sl q3 w3 0 m3, .sl q4 w4 0 m4]], w0⟩), (q1, ⟨3, 1, Wa (Wb .i64) x5.States, w1⟩), (q2, ⟨3, 1, Wa (Wb .i64) p0.Since, w2⟩), (q3, ⟨4, 1, Wa Wc p0.Pulled, w3⟩), (q4, ⟨4, 1, Wa Wc p0.Held, w4⟩), (q5, ⟨27, 1, [.vs 2 (Wa T_Belt.enc p1)], w5⟩), (q6, ⟨3, 1, [.int .i64 p2], w6⟩)]) hB rfl 1 rfl (Vk (fun _ => .int _ _)) rfl (Zq (ps0' := [(q0, ⟨34, 5, [.agg [.int .i64 x5.Time, .sl q1 w1 0 m1, .sl q2 w2 0 m2, .sl q3 w3 0 m3, .sl q4 w4 0 m4]], w0⟩), (q1, ⟨3, 1, Wa (Wb .i64) x5.States, w1⟩), (q2, ⟨3, 1, Wa (Wb .i64) x5.Since, w2⟩), (q3, ⟨4, 1, Wa Wc p0.Pulled, w3⟩), (q4, ⟨4, 1, Wa Wc p0.Held, w4⟩), (q5, ⟨27, 1, [.vs 2 (Wa T_Belt.enc p1)], w5⟩), (q6, ⟨3, 1, [.int .i64 p2], w6⟩)]) hB rfl 2 rfl (Vk (fun _ => .int _ _)) rfl (Zq (ps0' := [(q0, ⟨34, 5, [.agg [.int .i64 x5.Time, .sl q1 w1 0 m1, .sl q2 w2 0 m2, .sl q3 w3 0 m3, .sl q4 w4 0 m4]], w0⟩), (q1, ⟨3, 1, Wa (Wb .i64) x5.States, w1⟩), (q2, ⟨3, 1, Wa (Wb .i64) x5.Since, w2⟩), (q3, ⟨4, 1, Wa Wc x5.Pulled, w3⟩), (q4, ⟨4, 1, Wa Wc p0.Held, w4⟩), (q5, ⟨27, 1, [.vs 2 (Wa T_Belt.enc p1)], w5⟩), (q6, ⟨3, 1, [.int .i64 p2], w6⟩)]) hB rfl 3 rfl (Vk (fun _ => .bool _)) rfl (Zq (ps0' := [(q0, ⟨34, 5, [.agg [.int .i64 x5.Time, .sl q1 w1 0 m1, .sl q2 w2 0 m2, .sl q3 w3 0 m3, .sl q4 w4 0 m4]], w0⟩), (q1, ⟨3, 1, Wa (Wb .i64) x5.States, w1⟩), (q2, ⟨3, 1, Wa (Wb .i64) x5.Since, w2⟩), (q3, ⟨4, 1, Wa Wc x5.Pulled, w3⟩), (q4, ⟨4, 1, Wa Wc x5.Held, w4⟩), (q5, ⟨27, 1, [.vs 2 (Wa T_Belt.enc p1)], w5⟩), (q6, ⟨3, 1, [.int .i64 p2], w6⟩)]) hB rfl 4 rfl (Vk (fun _ => .bool _)) rfl Za))))) rfl) rfl ?_
  refine Vh ?_
  obtain rfl := Wd hF
  refine And.intro (.inl rfl) (And.intro (F_belts_stop_len h6 hm1 hm2 hm3 hm4).1 (And.intro (F_belts_stop_len h6 hm1 hm2 hm3 hm4).2.1 (And.intro (F_belts_stop_len h6 hm1 hm2 hm3 hm4).2.2.1 (And.intro (F_belts_stop_len h6 hm1 hm2 hm3 hm4).2.2.2.1 ?_))))
  exact Vq trivial
 ·rintro _ _ _ _ ⟨he, hl1, hl2, hl3, hl4, hw⟩
  refine ⟨_, _, _, hw, ?_⟩
  exact Yw he [] trivial ((lt_tup trivial)) ⟨rfl, (List.append_nil _).symm⟩

theorem F_belts_Stop_1_len {p0 : T_Line} {p1 : List T_Belt} {p2 : Int} {r : T_Line} (hF : F_belts_Stop_1 p0 p1 p2 = some r) {m1 : Nat} (hm1 : m1 = (p0.States).length) {m2 : Nat} (hm2 : m2 = (p0.Since).length) {m3 : Nat} (hm3 : m3 = (p0.Pulled).length) {m4 : Nat} (hm4 : m4 = (p0.Held).length) : m1 = (r.States).length ∧ m2 = (r.Since).length ∧ m3 = (r.Pulled).length ∧ m4 = (r.Held).length ∧ True := by
  have h : LP (F_belts_Stop_1 p0 p1 p2) (fun r => m1 = (r.States).length ∧ m2 = (r.Since).length ∧ m3 = (r.Pulled).length ∧ m4 = (r.Held).length ∧ True) := by
    unfold F_belts_Stop_1
    exact (Zy fun x5 h6 => Zw ⟨(F_belts_stop_len h6 hm1 hm2 hm3 hm4).1, (F_belts_stop_len h6 hm1 hm2 hm3 hm4).2.1, (F_belts_stop_len h6 hm1 hm2 hm3 hm4).2.2.1, (F_belts_stop_len h6 hm1 hm2 hm3 hm4).2.2.2.1, trivial⟩)
  exact h r hF

theorem F_belts_Stop_1_ok {p0 : T_Line} {p1 : List T_Belt} {p2 : Int} {r : T_Line} (hF : F_belts_Stop_1 p0 p1 p2 = some r) {low : List AObj} {q0 q1 q2 q3 q4 q5 q6 w0 w1 w2 w3 w4 w5 w6 : Nat} (hnd : [q0, q1, q2, q3, q4, q5, q6].Nodup) {m1 : Nat} (hm1 : m1 = (p0.States).length) {m2 : Nat} (hm2 : m2 = (p0.Since).length) {m3 : Nat} (hm3 : m3 = (p0.Pulled).length) {m4 : Nat} (hm4 : m4 = (p0.Held).length) (hq0 : low[q0]? = some ⟨34, 5, [.agg [.int .i64 p0.Time, .sl q1 w1 0 m1, .sl q2 w2 0 m2, .sl q3 w3 0 m3, .sl q4 w4 0 m4]], w0⟩) (hq1 : low[q1]? = some ⟨3, 1, Wa (Wb .i64) p0.States, w1⟩) (hq2 : low[q2]? = some ⟨3, 1, Wa (Wb .i64) p0.Since, w2⟩) (hq3 : low[q3]? = some ⟨4, 1, Wa Wc p0.Pulled, w3⟩) (hq4 : low[q4]? = some ⟨4, 1, Wa Wc p0.Held, w4⟩) (hq5 : low[q5]? = some ⟨27, 1, [.vs 2 (Wa T_Belt.enc p1)], w5⟩) (hq6 : low[q6]? = some ⟨3, 1, [.int .i64 p2], w6⟩) {n : Nat} (hn : low.length = n) :
    Yk Try.prog 51 [.ptr q0 w0 0 0, .ptr q5 w5 0 0, .ptr q6 w6 0 0] low fun x low' => x = .tup [] ∧ low' = setL low [(q0, ⟨34, 5, [.agg [.int .i64 r.Time, .sl q1 w1 0 m1, .sl q2 w2 0 m2, .sl q3 w3 0 m3, .sl q4 w4 0 m4]], w0⟩), (q1, ⟨3, 1, Wa (Wb .i64) r.States, w1⟩), (q2, ⟨3, 1, Wa (Wb .i64) r.Since, w2⟩), (q3, ⟨4, 1, Wa Wc r.Pulled, w3⟩), (q4, ⟨4, 1, Wa Wc r.Held, w4⟩), (q5, ⟨27, 1, [.vs 2 (Wa T_Belt.enc p1)], w5⟩), (q6, ⟨3, 1, [.int .i64 p2], w6⟩)] ++ [] := by
  obtain ⟨h1, h2⟩ := Zn (ps := [(q0, ⟨34, 5, [.agg [.int .i64 p0.Time, .sl q1 w1 0 m1, .sl q2 w2 0 m2, .sl q3 w3 0 m3, .sl q4 w4 0 m4]], w0⟩), (q1, ⟨3, 1, Wa (Wb .i64) p0.States, w1⟩), (q2, ⟨3, 1, Wa (Wb .i64) p0.Since, w2⟩), (q3, ⟨4, 1, Wa Wc p0.Pulled, w3⟩), (q4, ⟨4, 1, Wa Wc p0.Held, w4⟩), (q5, ⟨27, 1, [.vs 2 (Wa T_Belt.enc p1)], w5⟩), (q6, ⟨3, 1, [.int .i64 p2], w6⟩)]) hnd (Zl hq0 (Zl hq1 (Zl hq2 (Zl hq3 (Zl hq4 (Zl hq5 (Zl hq6 bor0)))))))
  exact Zf h1 (F_belts_Stop_1_ok0 hF h2 hm1 hm2 hm3 hm4 hn)

theorem F_belts_done__belts_Stop_1_ok0 {p0 : T_Line} {pc10 : List T_Belt} {pc11 : Int} {r : T_Line} (hF : F_belts_done__belts_Stop_1 p0 pc10 pc11 = some r) {low0 : List AObj} {q0 q1 w0 w1 : Nat} (hB : Bor low0 [q0, q1]) {n : Nat} (hn : low0.length = n) :
    Yk Try.prog 31 [.agg [.int .i64 p0.Time, .vs 1 (Wa (Wb .i64) p0.States), .vs 1 (Wa (Wb .i64) p0.Since), .vs 1 (Wa Wc p0.Pulled), .vs 1 (Wa Wc p0.Held)], .fn 51 [] [.ptr q0 w0 0 0, .ptr q1 w1 0 0]] (setL low0 [(q0, ⟨27, 1, [.vs 2 (Wa T_Belt.enc pc10)], w0⟩), (q1, ⟨3, 1, [.int .i64 pc11], w1⟩)]) fun x low' => x = .agg [.int .i64 r.Time, .sl (n + 0) 0 0 (r.States).length, .sl (n + 1) 0 0 (r.Since).length, .sl (n + 2) 0 0 (r.Pulled).length, .vs 1 (Wa Wc r.Held)] ∧ low' = setL low0 [(q0, ⟨27, 1, [.vs 2 (Wa T_Belt.enc pc10)], w0⟩), (q1, ⟨3, 1, [.int .i64 pc11], w1⟩)] ++ [⟨3, 1, Wa (Wb .i64) r.States, 0⟩, ⟨3, 1, Wa (Wb .i64) r.Since, 0⟩, ⟨4, 1, Wa Wc r.Pulled, 0⟩] := by
 refine Vz (nt := 24) (rs := [.cell 4 34]) Try.func31 rfl rfl (We rfl) rfl ?_
 have hq0 : q0 < n := hB.ltN hn 0 rfl
 have hq1 : q1 < n := hB.ltN hn 1 rfl
 refine Vx (Q' := FnE (fun E' lw lc => Xv E' lw lc [(4, .ptr (n + 3) 0 0 0)] (setL low0 [(q0, ⟨27, 1, [.vs 2 (Wa T_Belt.enc pc10)], w0⟩), (q1, ⟨3, 1, [.int .i64 pc11], w1⟩)]) [⟨3, 1, Wa (Wb .i64) r.States, 0⟩, ⟨3, 1, Wa (Wb .i64) r.Since, 0⟩, ⟨4, 1, Wa Wc r.Pulled, 0⟩, ⟨34, 5, [.agg [.int .i64 r.Time, .sl (n + 0) 0 0 (r.States).length, .sl (n + 1) 0 0 (r.Since).length, .sl (n + 2) 0 0 (r.Pulled).length, .vs 1 (Wa Wc r.Held)]], 0⟩])) ?_ ?_
 ·unfold F_belts_done__belts_Stop_1 at hF
  refine Vi ?_
  refine Vf ?_
  refine Vj (Yx (Vn hn) rfl (v := .agg [.int .i64 p0.Time, .vs 1 (Wa (Wb .i64) p0.States), .vs 1 (Wa (Wb .i64) p0.Since), .vs 1 (Wa Wc p0.Pulled), .vs 1 (Wa Wc p0.Held)]) rfl rfl (Wf _) rfl rfl) rfl ?_
  refine Vj (Xi (Vn hn) rfl tz_34 rfl rfl (Wf _) rfl) rfl ?_
  refine Vh ?_
  refine Vi ?_
  obtain ⟨x1, h2, hF⟩ := Yt hF
  obtain ⟨x3, h4, hF⟩ := Yt hF
  obtain ⟨x5, h6, hF⟩ := Yt hF
  obtain ⟨x7, h8, hF⟩ := Yt hF
  refine Xz (Yj 3 1 (Wf _)) ?_
  refine Xz (Yj 3 1 (Wf _)) ?_
  refine Xz (Yj 4 1 (Wf _)) ?_
  refine Xz (Yj 4 1 (Wf _)) ?_
  refine Xz (Yj 34 5 (Wf _)) ?_
  refine vwp_drawnX [[], [0], [], [2], [2, 3], [], [5], [2, 3, 4, 5, 6], [], [8], [2, 3, 4, 5, 6, 7, 8, 9], [], [11], [2, 3, 4, 5, 6, 7, 8, 9, 10, 11, 12], [0, 1, 2, 3, 4, 5, 6, 7, 8, 9, 10, 11, 12, 13], [], [0, 1, 2, 3, 4, 5, 6, 7, 8, 9, 10, 11, 12, 13, 14, 15]] [false, false, false, false, true, false, false, true, false, false, true, false, false, true, false, true, true] [([], (setL low0 [(q0, ⟨27, 1, [.vs 2 (Wa T_Belt.enc pc10)], w0⟩), (q1, ⟨3, 1, [.int .i64 pc11], w1⟩)]), [⟨34, 5, [.agg [.int .i64 p0.Time, .vs 1 (Wa (Wb .i64) p0.States), .vs 1 (Wa (Wb .i64) p0.Since), .vs 1 (Wa Wc p0.Pulled), .vs 1 (Wa Wc p0.Held)]], 0⟩, ⟨34, 5, [.agg [.int .i64 0, .nils, .nils, .nils, .nils]], 0⟩, ⟨3, 1, [], 0⟩, ⟨3, 1, [], 0⟩, ⟨4, 1, [], 0⟩, ⟨4, 1, [], 0⟩, ⟨34, 5, [], 0⟩]), ([4], (setL low0 [(q0, ⟨27, 1, [.vs 2 (Wa T_Belt.enc pc10)], w0⟩), (q1, ⟨3, 1, [.int .i64 pc11], w1⟩)]), [⟨34, 5, [.agg [.int .i64 p0.Time, .vs 1 (Wa (Wb .i64) p0.States), .vs 1 (Wa (Wb .i64) p0.Since), .vs 1 (Wa Wc p0.Pulled), .vs 1 (Wa Wc p0.Held)]], 0⟩, ⟨34, 5, [.agg [.int .i64 0, .nils, .nils, .nils, .nils]], 0⟩, ⟨3, 1, Wa (Wb .i64) x1, 1⟩, ⟨3, 1, [], 0⟩, ⟨4, 1, [], 0⟩, ⟨4, 1, [], 0⟩, ⟨34, 5, [], 0⟩]), ([15], (setL low0 [(q0, ⟨27, 1, [.vs 2 (Wa T_Belt.enc pc10)], w0⟩), (q1, ⟨3, 1, [.int .i64 pc11], w1⟩)]), [⟨34, 5, [.agg [.int .i64 p0.Time, .vs 1 (Wa (Wb .i64) p0.States), .vs 1 (Wa (Wb .i64) p0.Since), .vs 1 (Wa Wc p0.Pulled), .vs 1 (Wa Wc p0.Held)]], 0⟩, ⟨34, 5, [.agg [.int .i64 0, .nils, .nils, .nils, .nils]], 0⟩, ⟨3, 1, [], 0⟩, ⟨3, 1, [], 0⟩, ⟨4, 1, [], 0⟩, ⟨4, 1, [], 0⟩, ⟨34, 5, [.agg [.int .i64 0, .nils, .nils, .nils, .nils]], 1⟩]), ([4, 7], (setL low0 [(q0, ⟨27, 1, [.vs 2 (Wa T_Belt.enc pc10)], w0⟩), (q1, ⟨3, 1, [.int .i64 pc11], w1⟩)]), [⟨34, 5, [.agg [.int .i64 p0.Time, .vs 1 (Wa (Wb .i64) p0.States), .vs 1 (Wa (Wb .i64) p0.Since), .vs 1 (Wa Wc p0.Pulled), .vs 1 (Wa Wc p0.Held)]], 0⟩, ⟨34, 5, [.agg [.int .i64 0, .nils, .nils, .nils, .nils]], 0⟩, ⟨3, 1, Wa (Wb .i64) x1, 1⟩, ⟨3, 1, Wa (Wb .i64) x3, 1⟩, ⟨4, 1, [], 0⟩, ⟨4, 1, [], 0⟩, ⟨34, 5, [], 0⟩]), ([4, 15], (setL low0 [(q0, ⟨27, 1, [.vs 2 (Wa T_Belt.enc pc10)], w0⟩), (q1, ⟨3, 1, [.int .i64 pc11], w1⟩)]), [⟨34, 5, [.agg [.int .i64 p0.Time, .vs 1 (Wa (Wb .i64) p0.States), .vs 1 (Wa (Wb .i64) p0.Since), .vs 1 (Wa Wc p0.Pulled), .vs 1 (Wa Wc p0.Held)]], 0⟩, ⟨34, 5, [.agg [.int .i64 0, .nils, .nils, .nils, .nils]], 0⟩, ⟨3, 1, Wa (Wb .i64) x1, 1⟩, ⟨3, 1, [], 0⟩, ⟨4, 1, [], 0⟩, ⟨4, 1, [], 0⟩, ⟨34, 5, [.agg [.int .i64 0, .nils, .nils, .nils, .nils]], 1⟩]), ([4, 7, 10], (setL low0 [(q0, ⟨27, 1, [.vs 2 (Wa T_Belt.enc pc10)], w0⟩), (q1, ⟨3, 1, [.int .i64 pc11], w1⟩)]), [⟨34, 5, [.agg [.int .i64 p0.Time, .vs 1 (Wa (Wb .i64) p0.States), .vs 1 (Wa (Wb .i64) p0.Since), .vs 1 (Wa Wc p0.Pulled), .vs 1 (Wa Wc p0.Held)]], 0⟩, ⟨34, 5, [.agg [.int .i64 0, .nils, .nils, .nils, .nils]], 0⟩, ⟨3, 1, Wa (Wb .i64) x1, 1⟩, ⟨3, 1, Wa (Wb .i64) x3, 1⟩, ⟨4, 1, Wa Wc x5, 1⟩, ⟨4, 1, [], 0⟩, ⟨34, 5, [], 0⟩]), ([4, 7, 15], (setL low0 [(q0, ⟨27, 1, [.vs 2 (Wa T_Belt.enc pc10)], w0⟩), (q1, ⟨3, 1, [.int .i64 pc11], w1⟩)]), [⟨34, 5, [.agg [.int .i64 p0.Time, .vs 1 (Wa (Wb .i64) p0.States), .vs 1 (Wa (Wb .i64) p0.Since), .vs 1 (Wa Wc p0.Pulled), .vs 1 (Wa Wc p0.Held)]], 0⟩, ⟨34, 5, [.agg [.int .i64 0, .nils, .nils, .nils, .nils]], 0⟩, ⟨3, 1, Wa (Wb .i64) x1, 1⟩, ⟨3, 1, Wa (Wb .i64) x3, 1⟩, ⟨4, 1, [], 0⟩, ⟨4, 1, [], 0⟩, ⟨34, 5, [.agg [.int .i64 0, .nils, .nils, .nils, .nils]], 1⟩]), ([4, 7, 10, 13], (setL low0 [(q0, ⟨27, 1, [.vs 2 (Wa T_Belt.enc pc10)], w0⟩), (q1, ⟨3, 1, [.int .i64 pc11], w1⟩)]), [⟨34, 5, [.agg [.int .i64 p0.Time, .vs 1 (Wa (Wb .i64) p0.States), .vs 1 (Wa (Wb .i64) p0.Since), .vs 1 (Wa Wc p0.Pulled), .vs 1 (Wa Wc p0.Held)]], 0⟩, ⟨34, 5, [.agg [.int .i64 0, .nils, .nils, .nils, .nils]], 0⟩, ⟨3, 1, Wa (Wb .i64) x1, 1⟩, ⟨3, 1, Wa (Wb .i64) x3, 1⟩, ⟨4, 1, Wa Wc x5, 1⟩, ⟨4, 1, Wa Wc x7, 1⟩, ⟨34, 5, [], 0⟩]), ([4, 7, 10, 15], (setL low0 [(q0, ⟨27, 1, [.vs 2 (Wa T_Belt.enc pc10)], w0⟩), (q1, ⟨3, 1, [.int .i64 pc11], w1⟩)]), [⟨34, 5, [.agg [.int .i64 p0.Time, .vs 1 (Wa (Wb .i64) p0.States), .vs 1 (Wa (Wb .i64) p0.Since), .vs 1 (Wa Wc p0.Pulled), .vs 1 (Wa Wc p0.Held)]], 0⟩, ⟨34, 5, [.agg [.int .i64 0, .nils, .nils, .nils, .nils]], 0⟩, ⟨3, 1, Wa (Wb .i64) x1, 1⟩, ⟨3, 1, Wa (Wb .i64) x3, 1⟩, ⟨4, 1, Wa Wc x5, 1⟩, ⟨4, 1, [], 0⟩, ⟨34, 5, [.agg [.int .i64 0, .nils, .nils, .nils, .nils]], 1⟩]), ([4, 7, 10, 13, 15], (setL low0 [(q0, ⟨27, 1, [.vs 2 (Wa T_Belt.enc pc10)], w0⟩), (q1, ⟨3, 1, [.int .i64 pc11], w1⟩)]), [⟨34, 5, [.agg [.int .i64 p0.Time, .vs 1 (Wa (Wb .i64) p0.States), .vs 1 (Wa (Wb .i64) p0.Since), .vs 1 (Wa Wc p0.Pulled), .vs 1 (Wa Wc p0.Held)]], 0⟩, ⟨34, 5, [.agg [.int .i64 0, .nils, .nils, .nils, .nils]], 0⟩, ⟨3, 1, Wa (Wb .i64) x1, 1⟩, ⟨3, 1, Wa (Wb .i64) x3, 1⟩, ⟨4, 1, Wa Wc x5, 1⟩, ⟨4, 1, Wa Wc x7, 1⟩, ⟨34, 5, [.agg [.int .i64 0, .nils, .nils, .nils, .nils]], 1⟩]), ([4, 7, 10, 13, 15, 16], (setL low0 [(q0, ⟨27, 1, [.vs 2 (Wa T_Belt.enc pc10)], w0⟩), (q1, ⟨3, 1, [.int .i64 pc11], w1⟩)]), [⟨34, 5, [.agg [.int .i64 p0.Time, .vs 1 (Wa (Wb .i64) p0.States), .vs 1 (Wa (Wb .i64) p0.Since), .vs 1 (Wa Wc p0.Pulled), .vs 1 (Wa Wc p0.Held)]], 0⟩, ⟨34, 5, [.agg [.int .i64 0, .nils, .nils, .nils, .nils]], 0⟩, ⟨3, 1, Wa (Wb .i64) x1, 1⟩, ⟨3, 1, Wa (Wb .i64) x3, 1⟩, ⟨4, 1, Wa Wc x5, 1⟩, ⟨4, 1, Wa Wc x7, 1⟩, ⟨34, 5, [.agg [.int .i64 p0.Time, .sl (n + 2) 1 0 (x1).length, .sl (n + 3) 1 0 (x3).length, .sl (n + 4) 1 0 (x5).length, .sl (n + 5) 1 0 (x7).length]], 1⟩])] mixed (by kernel_rfl) rfl (lenAllX (Yg Vy (Yg Vy (Yg Vy (Yg Vy (Yg Vy (Yg Vy (Yg Vy (Yg Vy (Yg Vy (Yg Vy (Yg Vy allx0)))))))))))) rfl [4, 7, 10, 13, 15, 16] ((setL low0 [(q0, ⟨27, 1, [.vs 2 (Wa T_Belt.enc pc10)], w0⟩), (q1, ⟨3, 1, [.int .i64 pc11], w1⟩)]), [⟨34, 5, [.agg [.int .i64 p0.Time, .vs 1 (Wa (Wb .i64) p0.States), .vs 1 (Wa (Wb .i64) p0.Since), .vs 1 (Wa Wc p0.Pulled), .vs 1 (Wa Wc p0.Held)]], 0⟩, ⟨34, 5, [.agg [.int .i64 0, .nils, .nils, .nils, .nils]], 0⟩, ⟨3, 1, Wa (Wb .i64) x1, 1⟩, ⟨3, 1, Wa (Wb .i64) x3, 1⟩, ⟨4, 1, Wa Wc x5, 1⟩, ⟨4, 1, Wa Wc x7, 1⟩, ⟨34, 5, [.agg [.int .i64 p0.Time, .sl (n + 2) 1 0 (x1).length, .sl (n + 3) 1 0 (x3).length, .sl (n + 4) 1 0 (x5).length, .sl (n + 5) 1 0 (x7).length]], 1⟩]) rfl rfl ?_
  refine Xn _ rfl rfl (Xg (VRd.ntl (Vc rfl tf_34_0 ts_3 (by decide))) (Xg (VRd.ntl (Vc rfl tf_34_0 ts_3 (by decide))) (Xg (VRd.ntl (Vc rfl tf_34_0 ts_3 (by decide))) (Xg (VRd.ntl (Vc rfl tf_34_0 ts_3 (by decide))) (Xg (VRd.ntl (Vc rfl tf_34_0 ts_3 (by decide))) (Xg (VRd.ntl (Vc rfl tf_34_0 ts_3 (by decide))) (Xg (VRd.ntl (Vc rfl tf_34_0 ts_3 (by decide))) (Xg (VRd.ntl (Vc rfl tf_34_0 ts_3 (by decide))) (Xg (VRd.ntl (Vc rfl tf_34_0 ts_3 (by decide))) (Xg (VRd.ntl (Vc rfl tf_34_0 ts_3 (by decide))) rx0)))))))))) ?_
  refine Xn _ rfl rfl (Xg (VRd.ntl (Ve rfl (Vg (Vn hn) rfl) rfl ta_3 rfl)) (Xg (VRd.ntl (Ve rfl (Vg (Vn hn) rfl) rfl ta_3 rfl)) (Xg (VRd.ntl (Ve rfl (Vg (Vn hn) rfl) rfl ta_3 rfl)) (Xg (VRd.ntl (Ve rfl (Vg (Vn hn) rfl) rfl ta_3 rfl)) (Xg (VRd.ntl (Ve rfl (Vg (Vn hn) rfl) rfl ta_3 rfl)) (Xg (VRd.ntl (Ve rfl (Vg (Vn hn) rfl) rfl ta_3 rfl)) (Xg (VRd.ntl (Ve rfl (Vg (Vn hn) rfl) rfl ta_3 rfl)) (Xg (VRd.ntl (Ve rfl (Vg (Vn hn) rfl) rfl ta_3 rfl)) (Xg (VRd.ntl (Ve rfl (Vg (Vn hn) rfl) rfl ta_3 rfl)) (Xg (VRd.ntl (Ve rfl (Vg (Vn hn) rfl) rfl ta_3 rfl)) rx0)))))))))) ?_
  refine Xn _ rfl rfl (Xg (VRd.ntl (Vc rfl tf_34_1 ts_22 (by decide))) (Xg (VRd.ntl (Vc rfl tf_34_1 ts_22 (by decide))) rx0)) ?_
  refine Xn _ rfl rfl (Xg (VRd.ntl (Ve rfl (Vg (Vn hn) rfl) rfl ta_22 rfl)) (Xg (VRd.ntl (Ve rfl (Vg (Vn hn) rfl) rfl ta_22 rfl)) rx0)) ?_
  refine Yo _ rfl rfl (Zs 1 rfl (Vr (f := 7) (k := 2) (m := 1) (os := [⟨3, 1, Wa (Wb .i64) x1, 0⟩]) (os' := [⟨3, 1, Wa (Wb .i64) x1, 1⟩]) (v := .sl (n + 7) 0 0 (x1).length) (Vn hn) rfl rfl ⟨⟨_, rfl, rfl⟩, trivial⟩ (Xf (r := .sl (n + 7) 0 0 (x1).length) (os := [⟨3, 1, Wa (Wb .i64) x1, 0⟩]) rfl Try.call54 (F_slices_Clone___int_int__ok h2 _ (Xc (Vn hn) rfl))) (Yi 0 rfl rfl rfl rfl) ⟨.same _ _ _ (Vk (fun _ => .int _ _)), trivial⟩ rfl) (Zs 4 rfl (Vr (f := 7) (k := 2) (m := 1) (os := [⟨3, 1, Wa (Wb .i64) x1, 0⟩]) (os' := [⟨3, 1, Wa (Wb .i64) x1, 1⟩]) (v := .sl (n + 7) 0 0 (x1).length) (Vn hn) rfl rfl ⟨⟨_, rfl, rfl⟩, trivial⟩ (Xf (r := .sl (n + 7) 0 0 (x1).length) (os := [⟨3, 1, Wa (Wb .i64) x1, 0⟩]) rfl Try.call54 (F_slices_Clone___int_int__ok h2 _ (Xc (Vn hn) rfl))) (Yi 0 rfl rfl rfl rfl) ⟨.same _ _ _ (Vk (fun _ => .int _ _)), trivial⟩ rfl) ex0)) ?_
  refine Xn _ rfl rfl (Xg (VRd.ntl (Vc rfl tf_34_2 ts_22 (by decide))) (Xg (VRd.ntl (Vc rfl tf_34_2 ts_22 (by decide))) (Xg (VRd.ntl (Vc rfl tf_34_2 ts_22 (by decide))) (Xg (VRd.ntl (Vc rfl tf_34_2 ts_22 (by decide))) rx0)))) ?_
  refine Xn _ rfl rfl (Xg (VRd.ntl (Ve rfl (Vg (Vn hn) rfl) rfl ta_22 rfl)) (Xg (VRd.ntl (Ve rfl (Vg (Vn hn) rfl) rfl ta_22 rfl)) (Xg (VRd.ntl (Ve rfl (Vg (Vn hn) rfl) rfl ta_22 rfl)) (Xg (VRd.ntl (Ve rfl (Vg (Vn hn) rfl) rfl ta_22 rfl)) rx0)))) ?_
  refine Yo _ rfl rfl (Zs 3 rfl (Vr (f := 7) (k := 3) (m := 1) (os := [⟨3, 1, Wa (Wb .i64) x3, 0⟩]) (os' := [⟨3, 1, Wa (Wb .i64) x3, 1⟩]) (v := .sl (n + 7) 0 0 (x3).length) (Vn hn) rfl rfl ⟨⟨_, rfl, rfl⟩, trivial⟩ (Xf (r := .sl (n + 7) 0 0 (x3).length) (os := [⟨3, 1, Wa (Wb .i64) x3, 0⟩]) rfl Try.call54 (F_slices_Clone___int_int__ok h4 _ (Xc (Vn hn) rfl))) (Yi 0 rfl rfl rfl rfl) ⟨.same _ _ _ (Vk (fun _ => .int _ _)), trivial⟩ rfl) (Zs 6 rfl (Vr (f := 7) (k := 3) (m := 1) (os := [⟨3, 1, Wa (Wb .i64) x3, 0⟩]) (os' := [⟨3, 1, Wa (Wb .i64) x3, 1⟩]) (v := .sl (n + 7) 0 0 (x3).length) (Vn hn) rfl rfl ⟨⟨_, rfl, rfl⟩, trivial⟩ (Xf (r := .sl (n + 7) 0 0 (x3).length) (os := [⟨3, 1, Wa (Wb .i64) x3, 0⟩]) rfl Try.call54 (F_slices_Clone___int_int__ok h4 _ (Xc (Vn hn) rfl))) (Yi 0 rfl rfl rfl rfl) ⟨.same _ _ _ (Vk (fun _ => .int _ _)), trivial⟩ rfl) ex0)) ?_
  refine Xn _ rfl rfl (Xg (VRd.ntl (Vc rfl tf_34_3 ts_32 (by decide))) (Xg (VRd.ntl (Vc rfl tf_34_3 ts_32 (by decide))) (Xg (VRd.ntl (Vc rfl tf_34_3 ts_32 (by decide))) (Xg (VRd.ntl (Vc rfl tf_34_3 ts_32 (by decide))) (Xg (VRd.ntl (Vc rfl tf_34_3 ts_32 (by decide))) (Xg (VRd.ntl (Vc rfl tf_34_3 ts_32 (by decide))) rx0)))))) ?_
  refine Xn _ rfl rfl (Xg (VRd.ntl (Ve rfl (Vg (Vn hn) rfl) rfl ta_32 rfl)) (Xg (VRd.ntl (Ve rfl (Vg (Vn hn) rfl) rfl ta_32 rfl)) (Xg (VRd.ntl (Ve rfl (Vg (Vn hn) rfl) rfl ta_32 rfl)) (Xg (VRd.ntl (Ve rfl (Vg (Vn hn) rfl) rfl ta_32 rfl)) (Xg (VRd.ntl (Ve rfl (Vg (Vn hn) rfl) rfl ta_32 rfl)) (Xg (VRd.ntl (Ve rfl (Vg (Vn hn) rfl) rfl ta_32 rfl)) rx0)))))) ?_
  refine Yo _ rfl rfl (Zs 5 rfl (Vr (f := 7) (k := 4) (m := 1) (os := [⟨4, 1, Wa Wc x5, 0⟩]) (os' := [⟨4, 1, Wa Wc x5, 1⟩]) (v := .sl (n + 7) 0 0 (x5).length) (Vn hn) rfl rfl ⟨⟨_, rfl, rfl⟩, trivial⟩ (Xf (r := .sl (n + 7) 0 0 (x5).length) (os := [⟨4, 1, Wa Wc x5, 0⟩]) rfl Try.call55 (F_slices_Clone___bool_bool__ok h6 _ (Xc (Vn hn) rfl))) (Yi 0 rfl rfl rfl rfl) ⟨.same _ _ _ (Vk (fun _ => .bool _)), trivial⟩ rfl) (Zs 8 rfl (Vr (f := 7) (k := 4) (m := 1) (os := [⟨4, 1, Wa Wc x5, 0⟩]) (os' := [⟨4, 1, Wa Wc x5, 1⟩]) (v := .sl (n + 7) 0 0 (x5).length) (Vn hn) rfl rfl ⟨⟨_, rfl, rfl⟩, trivial⟩ (Xf (r := .sl (n + 7) 0 0 (x5).length) (os := [⟨4, 1, Wa Wc x5, 0⟩]) rfl Try.call55 (F_slices_Clone___bool_bool__ok h6 _ (Xc (Vn hn) rfl))) (Yi 0 rfl rfl rfl rfl) ⟨.same _ _ _ (Vk (fun _ => .bool _)), trivial⟩ rfl) ex0)) ?_
  refine Xn _ rfl rfl (Xg (VRd.ntl (Vc rfl tf_34_4 ts_32 (by decide))) (Xg (VRd.ntl (Vc rfl tf_34_4 ts_32 (by decide))) (Xg (VRd.ntl (Vc rfl tf_34_4 ts_32 (by decide))) (Xg (VRd.ntl (Vc rfl tf_34_4 ts_32 (by decide))) (Xg (VRd.ntl (Vc rfl tf_34_4 ts_32 (by decide))) (Xg (VRd.ntl (Vc rfl tf_34_4 ts_32 (by decide))) (Xg (VRd.ntl (Vc rfl tf_34_4 ts_32 (by decide))) (Xg (VRd.ntl (Vc rfl tf_34_4 ts_32 (by decide))) rx0)))))))) ?_
  refine Xn _ rfl rfl (Xg (VRd.ntl (Ve rfl (Vg (Vn hn) rfl) rfl ta_32 rfl)) (Xg (VRd.ntl (Ve rfl (Vg (Vn hn) rfl) rfl ta_32 rfl)) (Xg (VRd.ntl (Ve rfl (Vg (Vn hn) rfl) rfl ta_32 rfl)) (Xg (VRd.ntl (Ve rfl (Vg (Vn hn) rfl) rfl ta_32 rfl)) (Xg (VRd.ntl (Ve rfl (Vg (Vn hn) rfl) rfl ta_32 rfl)) (Xg (VRd.ntl (Ve rfl (Vg (Vn hn) rfl) rfl ta_32 rfl)) (Xg (VRd.ntl (Ve rfl (Vg (Vn hn) rfl) rfl ta_32 rfl)) (Xg (VRd.ntl (Ve rfl (Vg (Vn hn) rfl) rfl ta_32 rfl)) rx0)))))))) ?_
  refine Yo _ rfl rfl (Zs 7 rfl (Vr (f := 7) (k := 5) (m := 1) (os := [⟨4, 1, Wa Wc x7, 0⟩]) (os' := [⟨4, 1, Wa Wc x7, 1⟩]) (v := .sl (n + 7) 0 0 (x7).length) (Vn hn) rfl rfl ⟨⟨_, rfl, rfl⟩, trivial⟩ (Xf (r := .sl (n + 7) 0 0 (x7).length) (os := [⟨4, 1, Wa Wc x7, 0⟩]) rfl Try.call55 (F_slices_Clone___bool_bool__ok h8 _ (Xc (Vn hn) rfl))) (Yi 0 rfl rfl rfl rfl) ⟨.same _ _ _ (Vk (fun _ => .bool _)), trivial⟩ rfl) (Zs 9 rfl (Vr (f := 7) (k := 5) (m := 1) (os := [⟨4, 1, Wa Wc x7, 0⟩]) (os' := [⟨4, 1, Wa Wc x7, 1⟩]) (v := .sl (n + 7) 0 0 (x7).length) (Vn hn) rfl rfl ⟨⟨_, rfl, rfl⟩, trivial⟩ (Xf (r := .sl (n + 7) 0 0 (x7).length) (os := [⟨4, 1, Wa Wc x7, 0⟩]) rfl Try.call55 (F_slices_Clone___bool_bool__ok h8 _ (Xc (Vn hn) rfl))) (Yi 0 rfl rfl rfl rfl) ⟨.same _ _ _ (Vk (fun _ => .bool _)), trivial⟩ rfl) ex0)) ?_
  refine Xn _ rfl rfl (Xg (VRd.ntl (Zt (vs := [(0, .int .i64 p0.Time), (1, .sl (n + 2) 1 0 (x1).length), (2, .sl (n + 3) 1 0 (x3).length), (3, .sl (n + 4) 1 0 (x5).length), (4, .sl (n + 5) 1 0 (x7).length)]) (ds := [.int .i64 p0.Time, .sl (n + 2) 1 0 (x1).length, .sl (n + 3) 1 0 (x3).length, .sl (n + 4) 1 0 (x5).length, .sl (n + 5) 1 0 (x7).length]) tz_34 rfl rfl tp_34 ⟨rfl, rfl, rfl, rfl, rfl, rfl, rfl, rfl, rfl, rfl, trivial⟩ (nt_all2 rfl) rfl)) (Xg (VRd.ntl (Zt (vs := [(0, .int .i64 p0.Time), (1, .sl (n + 2) 1 0 (x1).length), (2, .sl (n + 3) 1 0 (x3).length), (3, .sl (n + 4) 1 0 (x5).length), (4, .sl (n + 5) 1 0 (x7).length)]) (ds := [.int .i64 p0.Time, .sl (n + 2) 1 0 (x1).length, .sl (n + 3) 1 0 (x3).length, .sl (n + 4) 1 0 (x5).length, .sl (n + 5) 1 0 (x7).length]) tz_34 rfl rfl tp_34 ⟨rfl, rfl, rfl, rfl, rfl, rfl, rfl, rfl, rfl, rfl, trivial⟩ (nt_all2 rfl) rfl)) rx0)) ?_
  refine Yo _ rfl rfl (Zs 2 rfl (Vr (f := 7) (k := 6) (m := 1) (os := [⟨34, 5, [.agg [.int .i64 0, .nils, .nils, .nils, .nils]], 0⟩]) (os' := [⟨34, 5, [.agg [.int .i64 0, .nils, .nils, .nils, .nils]], 1⟩]) (v := .ptr (n + 7) 0 0 0) (Vn hn) rfl rfl ⟨⟨_, rfl, rfl⟩, trivial⟩ (Xi (Vn hn) rfl tz_34 rfl rfl (Wf _) rfl) (Zp 0 rfl rfl rfl rfl) ⟨.same _ _ _ (Xd ⟨(Xl ⟨.int _ _, .nils, .nils, .nils, .nils, trivial⟩), trivial⟩), trivial⟩ rfl) (Zs 4 rfl (Vr (f := 7) (k := 6) (m := 1) (os := [⟨34, 5, [.agg [.int .i64 0, .nils, .nils, .nils, .nils]], 0⟩]) (os' := [⟨34, 5, [.agg [.int .i64 0, .nils, .nils, .nils, .nils]], 1⟩]) (v := .ptr (n + 7) 0 0 0) (Vn hn) rfl rfl ⟨⟨_, rfl, rfl⟩, trivial⟩ (Xi (Vn hn) rfl tz_34 rfl rfl (Wf _) rfl) (Zp 0 rfl rfl rfl rfl) ⟨.same _ _ _ (Xd ⟨(Xl ⟨.int _ _, .nils, .nils, .nils, .nils, trivial⟩), trivial⟩), trivial⟩ rfl) (Zs 6 rfl (Vr (f := 7) (k := 6) (m := 1) (os := [⟨34, 5, [.agg [.int .i64 0, .nils, .nils, .nils, .nils]], 0⟩]) (os' := [⟨34, 5, [.agg [.int .i64 0, .nils, .nils, .nils, .nils]], 1⟩]) (v := .ptr (n + 7) 0 0 0) (Vn hn) rfl rfl ⟨⟨_, rfl, rfl⟩, trivial⟩ (Xi (Vn hn) rfl tz_34 rfl rfl (Wf _) rfl) (Zp 0 rfl rfl rfl rfl) ⟨.same _ _ _ (Xd ⟨(Xl ⟨.int _ _, .nils, .nils, .nils, .nils, trivial⟩), trivial⟩), trivial⟩ rfl) (Zs 8 rfl (Vr (f := 7) (k := 6) (m := 1) (os := [⟨34, 5, [.agg [.int .i64 0, .nils, .nils, .nils, .nils]], 0⟩]) (os' := [⟨34, 5, [.agg [.int .i64 0, .nils, .nils, .nils, .nils]], 1⟩]) (v := .ptr (n + 7) 0 0 0) (Vn hn) rfl rfl ⟨⟨_, rfl, rfl⟩, trivial⟩ (Xi (Vn hn) rfl tz_34 rfl rfl (Wf _) rfl) (Zp 0 rfl rfl rfl rfl) ⟨.same _ _ _ (Xd ⟨(Xl ⟨.int _ _, .nils, .nils, .nils, .nils, trivial⟩), trivial⟩), trivial⟩ rfl) (Zs 9 rfl (Vr (f := 7) (k := 6) (m := 1) (os := [⟨34, 5, [.agg [.int .i64 0, .nils, .nils, .nils, .nils]], 0⟩]) (os' := [⟨34, 5, [.agg [.int .i64 0, .nils, .nils, .nils, .nils]], 1⟩]) (v := .ptr (n + 7) 0 0 0) (Vn hn) rfl rfl ⟨⟨_, rfl, rfl⟩, trivial⟩ (Xi (Vn hn) rfl tz_34 rfl rfl (Wf _) rfl) (Zp 0 rfl rfl rfl rfl) ⟨.same _ _ _ (Xd ⟨(Xl ⟨.int _ _, .nils, .nils, .nils, .nils, trivial⟩), trivial⟩), trivial⟩ rfl) ex0))))) ?_
  refine Yo _ rfl rfl (Zs 10 rfl (Xo (p := .agg [.int .i64 p0.Time, .sl (n + 2) 1 0 (x1).length, .sl (n + 3) 1 0 (x3).length, .sl (n + 4) 1 0 (x5).length, .sl (n + 5) 1 0 (x7).length]) (e' := .agg [.int .i64 p0.Time, .sl (n + 2) 1 0 (x1).length, .sl (n + 3) 1 0 (x3).length, .sl (n + 4) 1 0 (x5).length, .sl (n + 5) 1 0 (x7).length]) rfl (Vg (Vn hn) rfl) rfl rfl ts_34 rfl (Yv rfl) rfl (We rfl) rfl (Ym (Vn hn) rfl)) ex0) ?_
  refine dopx_nil ?_
  refine Vi ?_
  refine Vf ?_
  obtain ⟨x9, h10, hF⟩ := Yt hF
  refine Va (rd_mvF rfl) rfl ?_
  refine Vj (Yu (ps := [((n + 6), ⟨34, 5, [.agg [.int .i64 x9.Time, .sl (n + 2) 1 0 (x1).length, .sl (n + 3) 1 0 (x3).length, .sl (n + 4) 1 0 (x5).length, .sl (n + 5) 1 0 (x7).length]], 1⟩), ((n + 2), ⟨3, 1, Wa (Wb .i64) x9.States, 1⟩), ((n + 3), ⟨3, 1, Wa (Wb .i64) x9.Since, 1⟩), ((n + 4), ⟨4, 1, Wa Wc x9.Pulled, 1⟩), ((n + 5), ⟨4, 1, Wa Wc x9.Held, 1⟩), (q0, ⟨27, 1, [.vs 2 (Wa T_Belt.enc pc10)], w0⟩), (q1, ⟨3, 1, [.int .i64 pc11], w1⟩)]) (r := .tup []) (os := []) (low1 := (setL low0 [(q0, ⟨27, 1, [.vs 2 (Wa T_Belt.enc pc10)], w0⟩), (q1, ⟨3, 1, [.int .i64 pc11], w1⟩)])) (loc1 := [⟨34, 5, [.agg [.int .i64 p0.Time, .vs 1 (Wa (Wb .i64) p0.States), .vs 1 (Wa (Wb .i64) p0.Since), .vs 1 (Wa Wc p0.Pulled), .vs 1 (Wa Wc p0.Held)]], 0⟩, ⟨34, 5, [.agg [.int .i64 0, .nils, .nils, .nils, .nils]], 0⟩, ⟨3, 1, Wa (Wb .i64) x9.States, 1⟩, ⟨3, 1, Wa (Wb .i64) x9.Since, 1⟩, ⟨4, 1, Wa Wc x9.Pulled, 1⟩, ⟨4, 1, Wa Wc x9.Held, 1⟩, ⟨34, 5, [.agg [.int .i64 x9.Time, .sl (n + 2) 1 0 (x1).length, .sl (n + 3) 1 0 (x3).length, .sl (n + 4) 1 0 (x5).length, .sl (n + 5) 1 0 (x7).length]], 1⟩]) (loc2 := [⟨34, 5, [.agg [.int .i64 p0.Time, .vs 1 (Wa (Wb .i64) p0.States), .vs 1 (Wa (Wb .i64) p0.Since), .vs 1 (Wa Wc p0.Pulled), .vs 1 (Wa Wc p0.Held)]], 0⟩, ⟨34, 5, [.agg [.int .i64 0, .nils, .nils, .nils, .nils]], 0⟩, ⟨3, 1, Wa (Wb .i64) x9.States, 1⟩, ⟨3, 1, Wa (Wb .i64) x9.Since, 1⟩, ⟨4, 1, Wa Wc x9.Pulled, 1⟩, ⟨4, 1, Wa Wc x9.Held, 1⟩, ⟨34, 5, [.agg [.int .i64 x9.Time, .sl (n + 2) 1 0 (x1).length, .sl (n + 3) 1 0 (x3).length, .sl (n + 4) 1 0 (x5).length, .sl (n + 5) 1 0 (x7).length]], 1⟩]) rfl Try.call51 (F_belts_Stop_1_ok h10 (nd1 (Zb (Yc rfl) (Zb (Yc rfl) (Zb (Yc rfl) (Zb (Yc rfl) (Zb (Ya hq0) (Zb (Ya hq1) na0)))))) (nd1 (Zb (Yc rfl) (Zb (Yc rfl) (Zb (Yc rfl) (Zb (Ya hq0) (Zb (Ya hq1) na0))))) (nd1 (Zb (Yc rfl) (Zb (Yc rfl) (Zb (Ya hq0) (Zb (Ya hq1) na0)))) (nd1 (Zb (Yc rfl) (Zb (Ya hq0) (Zb (Ya hq1) na0))) (nd1 (Zb (Ya hq0) (Zb (Ya hq1) na0)) (nd1 (Zb (hB.ne 0 1 rfl rfl rfl) na0) (nd1 na0 nd0))))))) (rfl : (x1).length = _) (rfl : (x3).length = _) (rfl : (x5).length = _) (rfl : (x7).length = _) (Zd (Vn hn) rfl) (Zd (Vn hn) rfl) (Zd (Vn hn) rfl) (Zd (Vn hn) rfl) (Zd (Vn hn) rfl) (get_B hB rfl 0 rfl) (get_B hB rfl 1 rfl) (Xc (Vn hn) rfl)) (Xu (loc2 := [⟨34, 5, [.agg [.int .i64 p0.Time, .vs 1 (Wa (Wb .i64) p0.States), .vs 1 (Wa (Wb .i64) p0.Since), .vs 1 (Wa Wc p0.Pulled), .vs 1 (Wa Wc p0.Held)]], 0⟩, ⟨34, 5, [.agg [.int .i64 0, .nils, .nils, .nils, .nils]], 0⟩, ⟨3, 1, Wa (Wb .i64) x1, 1⟩, ⟨3, 1, Wa (Wb .i64) x3, 1⟩, ⟨4, 1, Wa Wc x5, 1⟩, ⟨4, 1, Wa Wc x7, 1⟩, ⟨34, 5, [.agg [.int .i64 x9.Time, .sl (n + 2) 1 0 (x1).length, .sl (n + 3) 1 0 (x3).length, .sl (n + 4) 1 0 (x5).length, .sl (n + 5) 1 0 (x7).length]], 1⟩]) (Vn hn) 6 rfl (Xu (loc2 := [⟨34, 5, [.agg [.int .i64 p0.Time, .vs 1 (Wa (Wb .i64) p0.States), .vs 1 (Wa (Wb .i64) p0.Since), .vs 1 (Wa Wc p0.Pulled), .vs 1 (Wa Wc p0.Held)]], 0⟩, ⟨34, 5, [.agg [.int .i64 0, .nils, .nils, .nils, .nils]], 0⟩, ⟨3, 1, Wa (Wb .i64) x9.States, 1⟩, ⟨3, 1, Wa (Wb .i64) x3, 1⟩, ⟨4, 1, Wa Wc x5, 1⟩, ⟨4, 1, Wa Wc x7, 1⟩, ⟨34, 5, [.agg [.int .i64 x9.Time, .sl (n + 2) 1 0 (x1).length, .sl (n + 3) 1 0 (x3).length, .sl (n + 4) 1 0 (x5).length, .sl (n + 5) 1 0 (x7).length]], 1⟩]) (Vn hn) 2 rfl (Xu (loc2 := [⟨34, 5, [.agg [.int .i64 p0.Time, .vs 1 (Wa (Wb .i64) p0.States), .vs 1 (Wa (Wb .i64) p0.Since), .vs 1 (Wa Wc p0.Pulled), .vs 1 (Wa Wc p0.Held)]], 0⟩, ⟨34, 5, [.agg [.int .i64 0, .nils, .nils, .nils, .nils]], 0⟩, ⟨3, 1, Wa (Wb .i64) x9.States, 1⟩, ⟨3, 1, Wa (Wb .i64) x9.Since, 1⟩, ⟨4, 1, Wa Wc x5, 1⟩, ⟨4, 1, Wa Wc x7, 1⟩, ⟨34, 5, [.agg [.int .i64 x9.Time, .sl (n + 2) 1 0 (x1).length, .sl (n + 3) 1 0 (x3).length, .sl (n + 4) 1 0 (x5).length, .sl (n + 5) 1 0 (x7).length]], 1⟩]) (Vn hn) 3 rfl (Xu (loc2 := [⟨34, 5, [.agg [.int .i64 p0.Time, .vs 1 (Wa (Wb .i64) p0.States), .vs 1 (Wa (Wb .i64) p0.Since), .vs 1 (Wa Wc p0.Pulled), .vs 1 (Wa Wc p0.Held)]], 0⟩, ⟨34, 5, [.agg [.int .i64 0, .nils, .nils, .nils, .nils]], 0⟩, ⟨3, 1, Wa (Wb .i64) x9.States, 1⟩, ⟨3, 1, Wa (Wb .i64) x9.Since, 1⟩, ⟨4, 1, Wa Wc x9.Pulled, 1⟩, ⟨4, 1, Wa Wc x7, 1⟩, ⟨34, 5, [.agg [.int .i64 x9.Time, .sl (n + 2) 1 0 (x1).length, .sl (n + 3) 1 0 (x3).length, .sl (n + 4) 1 0 (x5).length, .sl (n + 5) 1 0 (x7).length]], 1⟩]) (Vn hn) 4 rfl (Xu (loc2 := [⟨34, 5, [.agg [.int .i64 p0.Time, .vs 1 (Wa (Wb .i64) p0.States), .vs 1 (Wa (Wb .i64) p0.Since), .vs 1 (Wa Wc p0.Pulled), .vs 1 (Wa Wc p0.Held)]], 0⟩, ⟨34, 5, [.agg [.int .i64 0, .nils, .nils, .nils, .nils]], 0⟩, ⟨3, 1, Wa (Wb .i64) x9.States, 1⟩, ⟨3, 1, Wa (Wb .i64) x9.Since, 1⟩, ⟨4, 1, Wa Wc x9.Pulled, 1⟩, ⟨4, 1, Wa Wc x9.Held, 1⟩, ⟨34, 5, [.agg [.int .i64 x9.Time, .sl (n + 2) 1 0 (x1).length, .sl (n + 3) 1 0 (x3).length, .sl (n + 4) 1 0 (x5).length, .sl (n + 5) 1 0 (x7).length]], 1⟩]) (Vn hn) 5 rfl (Zq (ps0' := [(q0, ⟨27, 1, [.vs 2 (Wa T_Belt.enc pc10)], w0⟩), (q1, ⟨3, 1, [.int .i64 pc11], w1⟩)]) hB rfl 0 rfl (ltObjN hn ⟨.vs _ _, trivial⟩) rfl (Zq (ps0' := [(q0, ⟨27, 1, [.vs 2 (Wa T_Belt.enc pc10)], w0⟩), (q1, ⟨3, 1, [.int .i64 pc11], w1⟩)]) hB rfl 1 rfl (ltObjN hn ⟨.int _ _, trivial⟩) rfl Za))))))) rfl) rfl ?_
  refine Vh ?_
  refine Vi ?_
  refine Vf ?_
  refine Va (Xk (ds := [.int .i64 x9.Time, .sl (n + 2) 1 0 (x1).length, .sl (n + 3) 1 0 (x3).length, .sl (n + 4) 1 0 (x5).length, .sl (n + 5) 1 0 (x7).length]) rfl (Vg (Vn hn) rfl) rfl ta_34 ts_34 rfl rfl rfl) rfl ?_
  refine Vj (Xo (p := .agg [.int .i64 x9.Time, .sl (n + 2) 1 0 (x1).length, .sl (n + 3) 1 0 (x3).length, .sl (n + 4) 1 0 (x5).length, .sl (n + 5) 1 0 (x7).length]) (e' := .agg [.int .i64 x9.Time, .sl (n + 2) 1 0 (x1).length, .sl (n + 3) 1 0 (x3).length, .sl (n + 4) 1 0 (x5).length, .sl (n + 5) 1 0 (x7).length]) rfl (Vg (Vn hn) rfl) rfl rfl ts_34 rfl (Yv rfl) rfl (We rfl) rfl (Ym (Vn hn) rfl)) rfl ?_
  refine Vh ?_
  refine Xj ?_
  obtain rfl := Wd hF
  refine fnR ?_
  refine Weak.trans (Vt (E' := [(4, .ptr (n + 1) 0 0 0)]) (loc1 := [⟨34, 5, [.agg [.int .i64 p0.Time, .vs 1 (Wa (Wb .i64) p0.States), .vs 1 (Wa (Wb .i64) p0.Since), .vs 1 (Wa Wc p0.Pulled), .vs 1 (Wa Wc p0.Held)]], 0⟩, ⟨34, 5, [.agg [.int .i64 x9.Time, .sl (n + 2) 1 0 (x1).length, .sl (n + 3) 1 0 (x3).length, .sl (n + 4) 1 0 (x5).length, .vs 1 (Wa Wc x9.Held)]], 0⟩, ⟨3, 1, Wa (Wb .i64) x9.States, 1⟩, ⟨3, 1, Wa (Wb .i64) x9.Since, 1⟩, ⟨4, 1, Wa Wc x9.Pulled, 1⟩, ⟨4, 1, [], 1 + 1⟩, ⟨34, 5, [.agg [.int .i64 x9.Time, .sl (n + 2) 1 0 (x1).length, .sl (n + 3) 1 0 (x3).length, .sl (n + 4) 1 0 (x5).length, .vs 1 (Wa Wc x9.Held)]], 1⟩]) (Vn hn) 5 rfl (Yf (fun _ => .bool _)) ⟨Vd rfl, trivial⟩ ⟨.refl _, Xs ⟨Vd rfl, Vd rfl, Vd rfl, Vd rfl, Yq rfl rfl rfl (Xb (F_belts_Stop_1_len h10 (rfl : (x1).length = _) (rfl : (x3).length = _) (rfl : (x5).length = _) (rfl : (x7).length = _)).2.2.2.1), trivial⟩, .refl _, .refl _, .refl _, .refl _, Xs ⟨Vd rfl, Vd rfl, Vd rfl, Vd rfl, Yq rfl rfl rfl (Xb (F_belts_Stop_1_len h10 (rfl : (x1).length = _) (rfl : (x3).length = _) (rfl : (x5).length = _) (rfl : (x7).length = _)).2.2.2.1), trivial⟩, trivial⟩) ?_
  exact Vw (Vn hn) [(2, 1), (3, 1), (4, 1), (1, 0)] (by decide) ⟨Yl 3 1 rfl rfl, trivial⟩ ⟨⟨_, rfl, rfl, .same _ _ _ _ (Vk (fun _ => .int _ _))⟩, ⟨_, rfl, rfl, .same _ _ _ _ (Vk (fun _ => .int _ _))⟩, ⟨_, rfl, rfl, .same _ _ _ _ (Vk (fun _ => .bool _))⟩, ⟨_, rfl, rfl, .agg _ _ _ _ _ ⟨Vs rfl (.int _ _), Zr 0 2 rfl (congrArg (PV.sl _ _ 0) (F_belts_Stop_1_len h10 (rfl : (x1).length = _) (rfl : (x3).length = _) (rfl : (x5).length = _) (rfl : (x7).length = _)).1), Zr 1 3 rfl (congrArg (PV.sl _ _ 0) (F_belts_Stop_1_len h10 (rfl : (x1).length = _) (rfl : (x3).length = _) (rfl : (x5).length = _) (rfl : (x7).length = _)).2.1), Zr 2 4 rfl (congrArg (PV.sl _ _ 0) (F_belts_Stop_1_len h10 (rfl : (x1).length = _) (rfl : (x3).length = _) (rfl : (x5).length = _) (rfl : (x7).length = _)).2.2.1), Vs rfl (.vs _ _), trivial⟩⟩, trivial⟩
 ·rintro _ _ _ _ ⟨he, hw⟩
  refine ⟨_, _, _, hw, ?_⟩
  exact Zz (Vn hn) 3 rfl (We rfl) he [.agg [.int .i64 r.Time, .sl (n + 0) 0 0 (r.States).length, .sl (n + 1) 0 0 (r.Since).length, .sl (n + 2) 0 0 (r.Pulled).length, .vs 1 (Wa Wc r.Held)]] ⟨Xk rfl (Vg (Vn hn) rfl) rfl ta_34 ts_34 rfl rfl rfl, trivial⟩ ((Xl ⟨.int _ _, .sl _ _ _ _ (lt_kk rfl), .sl _ _ _ _ (lt_kk rfl), .sl _ _ _ _ (lt_kk rfl), .vs _ _, trivial⟩)) ⟨Vk (fun _ => .int _ _), Vk (fun _ => .int _ _), Vk (fun _ => .bool _), trivial⟩ ⟨rfl, rfl⟩

theorem F_belts_done__belts_Stop_1_ok {p0 : T_Line} {pc10 : List T_Belt} {pc11 : Int} {r : T_Line} (hF : F_belts_done__belts_Stop_1 p0 pc10 pc11 = some r) {low : List AObj} {q0 q1 w0 w1 : Nat} (hnd : [q0, q1].Nodup) (hq0 : low[q0]? = some ⟨27, 1, [.vs 2 (Wa T_Belt.enc pc10)], w0⟩) (hq1 : low[q1]? = some ⟨3, 1, [.int .i64 pc11], w1⟩) {n : Nat} (hn : low.length = n) :
    Yk Try.prog 31 [.agg [.int .i64 p0.Time, .vs 1 (Wa (Wb .i64) p0.States), .vs 1 (Wa (Wb .i64) p0.Since), .vs 1 (Wa Wc p0.Pulled), .vs 1 (Wa Wc p0.Held)], .fn 51 [] [.ptr q0 w0 0 0, .ptr q1 w1 0 0]] low fun x low' => x = .agg [.int .i64 r.Time, .sl (n + 0) 0 0 (r.States).length, .sl (n + 1) 0 0 (r.Since).length, .sl (n + 2) 0 0 (r.Pulled).length, .vs 1 (Wa Wc r.Held)] ∧ low' = setL low [(q0, ⟨27, 1, [.vs 2 (Wa T_Belt.enc pc10)], w0⟩), (q1, ⟨3, 1, [.int .i64 pc11], w1⟩)] ++ [⟨3, 1, Wa (Wb .i64) r.States, 0⟩, ⟨3, 1, Wa (Wb .i64) r.Since, 0⟩, ⟨4, 1, Wa Wc r.Pulled, 0⟩] := by
  obtain ⟨h1, h2⟩ := Zn (ps := [(q0, ⟨27, 1, [.vs 2 (Wa T_Belt.enc pc10)], w0⟩), (q1, ⟨3, 1, [.int .i64 pc11], w1⟩)]) hnd (Zl hq0 (Zl hq1 bor0))
  exact Zf h1 (F_belts_done__belts_Stop_1_ok0 hF h2 hn)

end Go.Proofs.Ytmomjhbinkmefaa
