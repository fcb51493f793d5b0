/- Printed by wip/lift/lift.py: the walks that show that the program computes them. -/
import Derived.Test.YtmomjhbinkmefaaL39BeltsRawW1
namespace Go.Proofs.Ytmomjhbinkmefaa
open Go Go.Aml Go.L
attribute [local irreducible] VRd VEf VOp VOps VWp DOps
set_option linter.unusedVariables false
open Go.Aml renaming vops_rd → Va, vops_skip → Vb, rd_fieldAddr → Vc, getO_N → Vd, vwp_region → Ve, rd_load1 → Vf, vops_nil → Vg, ltObj_map → Vh, vwp_seq → Vi, rd_mvI → Vj, vops_efE → Vk, cv_same → Vl, rd_mvB → Vm, dops_skip → Vn, rd_pickF → Vo, rd_pickT → Vp, weak_sub → Vq, lenS → Vr, rn_low → Vs, vef_into → Vt, rd_loadN → Vu, weak_pick → Vv, vwp_monoW → Vw, vef_store → Vx, full_take → Vy, vt1 → Vz, rd_asI → Xa, vwp_ret → Xb, vcalls_of_body → Xc, rd_mvV → Xd, vef_allocN → Xe, vef_callN → Xf, rd_loadV1 → Xg, VRd → Xh, rd_to → Xi, vwp_cond → Xj, vef_callP → Xk, len_setL → Xl, rd_eql → Xm, len_app → Xn, rd_lenV → Xo, weak_freezeN → Xp, vwp_skip → Xq, setO_N → Xr, rx1 → Xs, ltObj_es → Xt, rn_sl → Xu, onlyE → Xv, dopx_rd → Xw, lt_agg → Xx, rd_asB → Xy, rd_extract → Xz, Weak → Ya, rd_fieldVaddr → Yb, nt_ne → Yc, dops_skipX → Yd, vwp_weak → Ye, mv_sl → Yf, all1 → Yg, lt_map → Yh, vef_mkN → Yi, rd_ixV → Yj, vwp_block → Yk, bifT → Yl, bifF → Ym, dr1 → Yn, rn_ptr → Yo, allx1 → Yp, cvo_agg → Yq, ne_low' → Yr, bnd → Ys, ne_own → Yt, weak_room → Yu, VCalls → Yv, vef_boxN → Yw, sets_own → Yx, dops_rdW → Yy, dops_nil → Yz, getO_B → Za, rd_neq → Zb, getI_some → Zc, dopx_ef → Zd, bodyQ_pure → Ze, vwp_drawn0 → Zf, view_same → Zg, neT → Zh, cv_sl → Zi, bodyQ_some → Zj, dt1 → Zk, view_sl → Zl, neF → Zm, rd_not → Zn, rd_lss → Zo, dops_ef → Zp, na1 → Zq, lt_kk → Zr, ex1 → Zs, all0 → Zt, vwp_loopC → Zu, rd_ixS → Zv, get_N → Zw, borC → Zx, fnR → Zy, vcalls_low → Zz, mv_ptr → Wa, vwp_drawn → Wb, vef_callS → Wc, rd_build → Wd, vwp_exit → We, dops_takeW → Wf, rd_nilPtr → Wg, sets_B → Wh, lp_some → Wi, lp_bindE → Wj, bor_start → Wk, sets_nil → Wl
set_option maxHeartbeats 4000000

theorem F_belts_stop_ok0 {p0 : List T_Belt} {p1 : T_Line} {p2 : Int} {r : T_Line} (hF : F_belts_stop p0 p1 p2 = some r) {low0 : List AObj} {q0 q1 q2 q3 q4 w0 w1 w2 w3 w4 : Nat} (hB : Bor low0 [q0, q1, q2, q3, q4]) {m1 : Nat} (hm1 : m1 = (p1.States).length) {m2 : Nat} (hm2 : m2 = (p1.Since).length) {m3 : Nat} (hm3 : m3 = (p1.Pulled).length) {m4 : Nat} (hm4 : m4 = (p1.Held).length) {n : Nat} (hn : low0.length = n) :
    Yv Try.prog 36 [.vs 2 (List.map T_Belt.enc p0), .ptr q0 w0 0 0, .int .i64 p2] (setL low0 [(q0, ⟨34, 5, [.agg [.int .i64 p1.Time, .sl q1 w1 0 m1, .sl q2 w2 0 m2, .sl q3 w3 0 m3, .sl q4 w4 0 m4]], w0⟩), (q1, ⟨3, 1, List.map (PV.int .i64) p1.States, w1⟩), (q2, ⟨3, 1, List.map (PV.int .i64) p1.Since, w2⟩), (q3, ⟨4, 1, List.map PV.bool p1.Pulled, w3⟩), (q4, ⟨4, 1, List.map PV.bool p1.Held, w4⟩)]) fun x low' => x = .tup [] ∧ low' = setL low0 [(q0, ⟨34, 5, [.agg [.int .i64 r.Time, .sl q1 w1 0 m1, .sl q2 w2 0 m2, .sl q3 w3 0 m3, .sl q4 w4 0 m4]], w0⟩), (q1, ⟨3, 1, List.map (PV.int .i64) r.States, w1⟩), (q2, ⟨3, 1, List.map (PV.int .i64) r.Since, w2⟩), (q3, ⟨4, 1, List.map PV.bool r.Pulled, w3⟩), (q4, ⟨4, 1, List.map PV.bool r.Held, w4⟩)] ++ [] := by
 refine Xc (nt := 48) (rs := []) Try.func36 rfl rfl (Nat.le_of_ble_eq_true rfl) rfl ?_
 have hq0 : q0 < n := hB.ltN hn 0 rfl
 have hq1 : q1 < n := hB.ltN hn 1 rfl
 have hq2 : q2 < n := hB.ltN hn 2 rfl
 have hq3 : q3 < n := hB.ltN hn 3 rfl
 have hq4 : q4 < n := hB.ltN hn 4 rfl
 refine Vw (Q' := FnE (fun E' lw lc => m1 = (r.States).length ∧ m2 = (r.Since).length ∧ m3 = (r.Pulled).length ∧ m4 = (r.Held).length ∧ Ya E' lw lc [] (setL low0 [(q0, ⟨34, 5, [.agg [.int .i64 r.Time, .sl q1 w1 0 m1, .sl q2 w2 0 m2, .sl q3 w3 0 m3, .sl q4 w4 0 m4]], w0⟩), (q1, ⟨3, 1, List.map (PV.int .i64) r.States, w1⟩), (q2, ⟨3, 1, List.map (PV.int .i64) r.Since, w2⟩), (q3, ⟨4, 1, List.map PV.bool r.Pulled, w3⟩), (q4, ⟨4, 1, List.map PV.bool r.Held, w4⟩)]) [])) ?_ ?_
 ·unfold F_belts_stop at hF
  refine Vi ?_
  refine Ve ?_
  refine Va (Xd rfl) rfl ?_
  refine Va (Xi (Xo rfl rfl te_27) (congrArg (fun n : Nat => PV.int .i64 (n : Int)) (List.length_map _))) rfl ?_
  refine Va (Vj rfl) rfl ?_
  refine Vg ?_
  refine Yk ?_
  obtain ⟨o6, ho6, hF⟩ := Ys hF
  refine Vw (Zu (F_belts_stop_L1 p0 p1 p2) (fun s5 E' lw lc => m1 = (s5.2.1).length ∧ m2 = (s5.2.2).length ∧ Ya E' lw lc [(0, .vs 2 (List.map T_Belt.enc p0)), (1, .ptr q0 w0 0 0), (2, .int .i64 p2), (8, .int .i64 ((p0).length : Int)), (9, .int .i64 s5.1)] (setL low0 [(q0, ⟨34, 5, [.agg [.int .i64 p1.Time, .sl q1 w1 0 m1, .sl q2 w2 0 m2, .sl q3 w3 0 m3, .sl q4 w4 0 m4]], w0⟩), (q1, ⟨3, 1, List.map (PV.int .i64) s5.2.1, w1⟩), (q2, ⟨3, 1, List.map (PV.int .i64) s5.2.2, w2⟩), (q3, ⟨4, 1, List.map PV.bool p1.Pulled, w3⟩), (q4, ⟨4, 1, List.map PV.bool p1.Held, w4⟩)]) []) (fun o6 => OnlyE (.exit 0) (fun E' lw lc => m1 = (o6.1).length ∧ m2 = (o6.2).length ∧ Ya E' lw lc [] (setL low0 [(q0, ⟨34, 5, [.agg [.int .i64 p1.Time, .sl q1 w1 0 m1, .sl q2 w2 0 m2, .sl q3 w3 0 m3, .sl q4 w4 0 m4]], w0⟩), (q1, ⟨3, 1, List.map (PV.int .i64) o6.1, w1⟩), (q2, ⟨3, 1, List.map (PV.int .i64) o6.2, w2⟩), (q3, ⟨4, 1, List.map PV.bool p1.Pulled, w3⟩), (q4, ⟨4, 1, List.map PV.bool p1.Held, w4⟩)]) [])) ho6 ⟨hm1, hm2, ?_⟩ (by rintro _ _ _ _ ⟨h, _⟩ <;> cases h) ?_) ?_
  ·exact Vq ⟨rfl, rfl, rfl, rfl, rfl, trivial⟩
  ·rintro s5 os5 _ _ _ hF ⟨hls5_0, hls5_1, hw⟩
   unfold F_belts_stop_L1 at hF
   refine Ye hw ?_
   refine Vi ?_
   refine Ve ?_
   refine Va (Zo rfl rfl) rfl ?_
   refine Vg ?_
   refine Vi ?_
   refine Xj rfl (fun c7 => ?_) (fun c7 => ?_)
   ·have hF := Yl c7 hF
    refine Xq ?_
    refine Vi ?_
    obtain ⟨o8, ho8, hF⟩ := Ys hF
    refine Vw (Q' := (fun o8 => OnlyE .normal (fun E' lw lc => m1 = (o8.1).length ∧ m2 = (o8.2).length ∧ Ya E' lw lc [(0, .vs 2 (List.map T_Belt.enc p0)), (1, .ptr q0 w0 0 0), (2, .int .i64 p2), (8, .int .i64 ((p0).length : Int)), (9, .int .i64 s5.1)] (setL low0 [(q0, ⟨34, 5, [.agg [.int .i64 p1.Time, .sl q1 w1 0 m1, .sl q2 w2 0 m2, .sl q3 w3 0 m3, .sl q4 w4 0 m4]], w0⟩), (q1, ⟨3, 1, List.map (PV.int .i64) o8.1, w1⟩), (q2, ⟨3, 1, List.map (PV.int .i64) o8.2, w2⟩), (q3, ⟨4, 1, List.map PV.bool p1.Pulled, w3⟩), (q4, ⟨4, 1, List.map PV.bool p1.Held, w4⟩)]) [])) o8) ?_ ?_
    ·replace hF := ho8
     refine Yk ?_
     refine Vi ?_
     refine Ve ?_
     refine Va (Vj rfl) rfl ?_
     refine Va (Xa rfl) rfl ?_
     refine Vg ?_
     refine Vi ?_
     obtain ⟨o9, ho9, hF⟩ := Ys hF
     refine Vw (Q' := (fun o9 => OnlyE .normal (fun E' lw lc => Ya E' lw lc [(0, .vs 2 (List.map T_Belt.enc p0)), (1, .ptr q0 w0 0 0), (2, .int .i64 p2), (6, .int .i64 s5.1), (8, .int .i64 ((p0).length : Int)), (9, .int .i64 s5.1), (30, .bool o9)] (setL low0 [(q0, ⟨34, 5, [.agg [.int .i64 p1.Time, .sl q1 w1 0 m1, .sl q2 w2 0 m2, .sl q3 w3 0 m3, .sl q4 w4 0 m4]], w0⟩), (q1, ⟨3, 1, List.map (PV.int .i64) s5.2.1, w1⟩), (q2, ⟨3, 1, List.map (PV.int .i64) s5.2.2, w2⟩), (q3, ⟨4, 1, List.map PV.bool p1.Pulled, w3⟩), (q4, ⟨4, 1, List.map PV.bool p1.Held, w4⟩)]) [])) o9) ?_ ?_
     ·replace hF := ho9
      refine Ve ?_
      rcases Bool.eq_false_or_eq_true (decide (s5.1 = p2)) with c10 | c10
      ·have hF := Yl c10 hF
       obtain ⟨x11, h12, hF⟩ := Ys hF
       refine Va (Vj rfl) rfl ?_
       refine Va (Vj rfl) rfl ?_
       refine Va (Xm rfl rfl) rfl ?_
       refine Va (Vm rfl) rfl ?_
       refine Vb rfl rfl (Zh c10) rfl ?_
       refine Vb rfl rfl (Zh c10) rfl ?_
       refine Vb rfl rfl (Zh c10) rfl ?_
       refine Vb rfl rfl (Zh c10) rfl ?_
       refine Va (Vp (congrArg PV.bool c10) rfl) rfl ?_
       refine Va (Vm rfl) rfl ?_
       refine vops_take rfl rfl ?_
       refine Va (rd_mvP rfl) rfl ?_
       refine vops_take rfl rfl ?_
       refine Va (Wg rfl) rfl ?_
       refine vops_take rfl rfl ?_
       refine Va (Vc rfl tf_34_1 ts_22 (by decide)) rfl ?_
       refine vops_take rfl rfl ?_
       refine Va (Vf rfl (Za hB rfl 0 rfl) rfl ta_22 rfl) rfl ?_
       refine vops_take rfl rfl ?_
       refine Va (Vj rfl) rfl ?_
       refine vops_take rfl rfl ?_
       refine Va (Zv rfl hls5_0 rfl (Za hB rfl 1 rfl) h12 te_22 ts_3) rfl ?_
       refine vops_take rfl rfl ?_
       refine Va (rd_ldL1 rfl (Za hB rfl 1 rfl) (Zc h12).2 ta_3 rfl) rfl ?_
       refine vops_take rfl rfl ?_
       refine Va (Zb rfl rfl) rfl ?_
       refine Va (Vp rfl rfl) rfl ?_
       refine Vg ?_
       obtain rfl := Option.some.inj hF
       refine Xv ?_
       exact Vq ⟨rfl, rfl, rfl, rfl, rfl, rfl, rfl, trivial⟩
      ·have hF := Ym c10 hF
       obtain ⟨x13, h14, hF⟩ := Ys hF
       rcases Bool.eq_false_or_eq_true x13 with c15 | c15
       ·have hF := Yl c15 hF
        obtain ⟨x16, h17, hF⟩ := Ys hF
        refine Va (Vj rfl) rfl ?_
        refine Va (Vj rfl) rfl ?_
        refine Va (Xm rfl rfl) rfl ?_
        refine Va (Vm rfl) rfl ?_
        refine Vz rfl rfl c10 ?_
        refine Va (Xd rfl) rfl ?_
        refine Vz rfl rfl c10 ?_
        refine Va (Vj rfl) rfl ?_
        refine Vz rfl rfl c10 ?_
        refine Va (Vj rfl) rfl ?_
        refine Vz rfl rfl c10 ?_
        refine Vk (Xk rfl Try.call39 (F_belts_throws_ok h14 _)) rfl ?_
        refine Va (Vo (congrArg PV.bool c10) rfl) rfl ?_
        refine Va (Vm rfl) rfl ?_
        refine Vz rfl rfl c15 ?_
        refine Va (rd_mvP rfl) rfl ?_
        refine Vz rfl rfl c15 ?_
        refine Va (Wg rfl) rfl ?_
        refine Vz rfl rfl c15 ?_
        refine Va (Vc rfl tf_34_1 ts_22 (by decide)) rfl ?_
        refine Vz rfl rfl c15 ?_
        refine Va (Vf rfl (Za hB rfl 0 rfl) rfl ta_22 rfl) rfl ?_
        refine Vz rfl rfl c15 ?_
        refine Va (Vj rfl) rfl ?_
        refine Vz rfl rfl c15 ?_
        refine Va (Zv rfl hls5_0 rfl (Za hB rfl 1 rfl) h17 te_22 ts_3) rfl ?_
        refine Vz rfl rfl c15 ?_
        refine Va (rd_ldL1 rfl (Za hB rfl 1 rfl) (Zc h17).2 ta_3 rfl) rfl ?_
        refine Vz rfl rfl c15 ?_
        refine Va (Zb rfl rfl) rfl ?_
        refine Va (Vp (congrArg PV.bool c15) rfl) rfl ?_
        refine Vg ?_
        obtain rfl := Option.some.inj hF
        refine Xv ?_
        exact Vq ⟨rfl, rfl, rfl, rfl, rfl, rfl, rfl, trivial⟩
       ·have hF := Ym c15 hF
        refine Va (Vj rfl) rfl ?_
        refine Va (Vj rfl) rfl ?_
        refine Va (Xm rfl rfl) rfl ?_
        refine Va (Vm rfl) rfl ?_
        refine Vz rfl rfl c10 ?_
        refine Va (Xd rfl) rfl ?_
        refine Vz rfl rfl c10 ?_
        refine Va (Vj rfl) rfl ?_
        refine Vz rfl rfl c10 ?_
        refine Va (Vj rfl) rfl ?_
        refine Vz rfl rfl c10 ?_
        refine Vk (Xk rfl Try.call39 (F_belts_throws_ok h14 _)) rfl ?_
        refine Va (Vo (congrArg PV.bool c10) rfl) rfl ?_
        refine Va (Vm rfl) rfl ?_
        refine Vb rfl rfl (Zm c15) rfl ?_
        refine Vb rfl rfl (Zm c15) rfl ?_
        refine Vb rfl rfl (Zm c15) rfl ?_
        refine Vb rfl rfl (Zm c15) rfl ?_
        refine Vb rfl rfl (Zm c15) rfl ?_
        refine Vb rfl rfl (Zm c15) rfl ?_
        refine Vb rfl rfl (Zm c15) rfl ?_
        refine Vb rfl rfl (Zm c15) rfl ?_
        refine Va (Vo (congrArg PV.bool c15) rfl) rfl ?_
        refine Vg ?_
        obtain rfl := Option.some.inj hF
        refine Xv ?_
        exact Vq ⟨rfl, rfl, rfl, rfl, rfl, rfl, rfl, trivial⟩
     ·rintro _ _ _ _ ⟨rfl, hw⟩
      refine ⟨_, _, _, hw, ?_⟩
      refine Xj rfl (fun c18 => ?_) (fun c18 => ?_)
      ·have hF := Yl c18 hF
       obtain ⟨x19, h20, hF⟩ := Ys hF
       obtain ⟨x21, h22, hF⟩ := Ys hF
       refine Wb [[], [0], [0, 1], [0, 1, 2], [], [], [5], [5, 6], [5, 6, 7], [], [], [10], [10, 11], [10, 11, 12], [0, 1, 2, 3, 4, 5, 6, 7, 8, 10, 11, 12, 13], [0, 1, 2, 3, 4, 5, 6, 7, 8, 10, 11, 12, 13, 14], [0, 1, 2, 3, 4, 5, 6, 7, 8, 9, 10, 11, 12, 13, 14, 15], [0, 1, 2, 3, 4, 5, 6, 7, 8, 9, 10, 11, 12, 13, 14, 15, 16]] [false, false, false, false, false, false, false, false, false, false, false, false, false, false, false, true, false, true] [((setL low0 [(q0, ⟨34, 5, [.agg [.int .i64 p1.Time, .sl q1 w1 0 m1, .sl q2 w2 0 m2, .sl q3 w3 0 m3, .sl q4 w4 0 m4]], w0⟩), (q1, ⟨3, 1, List.map (PV.int .i64) s5.2.1, w1⟩), (q2, ⟨3, 1, List.map (PV.int .i64) s5.2.2, w2⟩), (q3, ⟨4, 1, List.map PV.bool p1.Pulled, w3⟩), (q4, ⟨4, 1, List.map PV.bool p1.Held, w4⟩)]), []), ((setL low0 [(q0, ⟨34, 5, [.agg [.int .i64 p1.Time, .sl q1 w1 0 m1, .sl q2 w2 0 m2, .sl q3 w3 0 m3, .sl q4 w4 0 m4]], w0⟩), (q1, ⟨3, 1, List.map (PV.int .i64) (s5.2.1.set ((s5.1).toNat) 0), w1⟩), (q2, ⟨3, 1, List.map (PV.int .i64) s5.2.2, w2⟩), (q3, ⟨4, 1, List.map PV.bool p1.Pulled, w3⟩), (q4, ⟨4, 1, List.map PV.bool p1.Held, w4⟩)]), []), ((setL low0 [(q0, ⟨34, 5, [.agg [.int .i64 p1.Time, .sl q1 w1 0 m1, .sl q2 w2 0 m2, .sl q3 w3 0 m3, .sl q4 w4 0 m4]], w0⟩), (q1, ⟨3, 1, List.map (PV.int .i64) (s5.2.1.set ((s5.1).toNat) 0), w1⟩), (q2, ⟨3, 1, List.map (PV.int .i64) (s5.2.2.set ((s5.1).toNat) p1.Time), w2⟩), (q3, ⟨4, 1, List.map PV.bool p1.Pulled, w3⟩), (q4, ⟨4, 1, List.map PV.bool p1.Held, w4⟩)]), [])] mixed (by kernel_rfl) rfl (lenAll (Yg Xl (Yg Xl (Yg Xl Zt)))) rfl _ rfl rfl ?_
       refine Yn rfl rfl (rd_mvP rfl) ?_
       refine Yn rfl rfl (Wg rfl) ?_
       refine Yn rfl rfl (Vc rfl tf_34_1 ts_22 (by decide)) ?_
       refine Yn rfl rfl (Vf rfl (Za hB rfl 0 rfl) rfl ta_22 rfl) ?_
       refine Yn rfl rfl (Vj rfl) ?_
       refine Yn rfl rfl (rd_mvP rfl) ?_
       refine Yn rfl rfl (Wg rfl) ?_
       refine Yn rfl rfl (Vc rfl tf_34_2 ts_22 (by decide)) ?_
       refine Yn rfl rfl (Vf rfl (Za hB rfl 0 rfl) rfl ta_22 rfl) ?_
       refine Yy _ rfl rfl (Yg (Xh.ntl (Vj rfl)) (Yg (Xh.ntl (Vj rfl)) Zt)) ?_
       refine Yn rfl rfl (rd_mvP rfl) ?_
       refine Yn rfl rfl (Wg rfl) ?_
       refine Yn rfl rfl (Vc rfl tf_34_0 ts_3 (by decide)) ?_
       refine Yn rfl rfl (Vf rfl (Za hB rfl 0 rfl) rfl ta_3 rfl) ?_
       refine Yn rfl rfl (Zv rfl hls5_0 rfl (Za hB rfl 1 rfl) h20 te_22 ts_3) ?_
       refine Zp rfl rfl rfl (vef_stL (p := .int .i64 0) (e' := 0) rfl (Za hB rfl 1 rfl) (Zc h20).2 rfl ts_3 rfl (Yc rfl) (Nat.le_of_ble_eq_true rfl) rfl (setO_B hB rfl 1 rfl (Vh (fun _ => .int _ _)) rfl)) ?_
       refine Yn rfl rfl (Zv rfl hls5_1 rfl (Za hB rfl 2 rfl) h22 te_22 ts_3) ?_
       refine Zp rfl rfl rfl (vef_stL (p := .int .i64 p1.Time) (e' := p1.Time) rfl (Za hB rfl 2 rfl) (Zc h22).2 rfl ts_3 rfl (Yc rfl) (Nat.le_of_ble_eq_true rfl) rfl (setO_B hB rfl 2 rfl (Vh (fun _ => .int _ _)) rfl)) ?_
       refine Yz ?_
       obtain rfl := Option.some.inj hF
       refine And.intro rfl (And.intro (Eq.trans hls5_0 List.length_set.symm) (And.intro (Eq.trans hls5_1 List.length_set.symm) ?_))
       exact Vq ⟨rfl, rfl, rfl, rfl, rfl, trivial⟩
      ·have hF := Ym c18 hF
       refine Xq ?_
       obtain rfl := Option.some.inj hF
       refine And.intro rfl (And.intro hls5_0 (And.intro hls5_1 ?_))
       exact Vq ⟨rfl, rfl, rfl, rfl, rfl, trivial⟩
    ·rintro _ _ _ _ ⟨rfl, hl23, hl24, hw⟩
     refine ⟨_, _, _, hw, ?_⟩
     refine Ve ?_
     refine Va (rd_add rfl rfl rfl) rfl ?_
     refine Va (Vj rfl) rfl ?_
     refine Vg ?_
     obtain rfl := Option.some.inj hF
     refine And.intro rfl (And.intro hl23 (And.intro hl24 ?_))
     exact Vq ⟨rfl, rfl, rfl, rfl, rfl, trivial⟩
   ·have hF := Ym c7 hF
    refine We ?_
    obtain rfl := Option.some.inj hF
    refine And.intro rfl (And.intro hls5_0 (And.intro hls5_1 ?_))
    exact Vq trivial
  ·rintro _ _ _ _ ⟨rfl, hl25, hl26, hw⟩
   refine ⟨_, _, _, hw, ?_⟩
   obtain rfl := Option.some.inj hF
   refine And.intro (.inl rfl) (And.intro hl25 (And.intro hl26 (And.intro hm3 (And.intro hm4 ?_))))
   exact Vq trivial
 ·rintro _ _ _ _ ⟨he, hl1, hl2, hl3, hl4, hw⟩
  refine ⟨_, _, _, hw, ?_⟩
  exact Ze he [] trivial ((lt_tup trivial)) ⟨rfl, (List.append_nil _).symm⟩

theorem F_belts_stop_len {p0 : List T_Belt} {p1 : T_Line} {p2 : Int} {r : T_Line} (hF : F_belts_stop p0 p1 p2 = some r) {m1 : Nat} (hm1 : m1 = (p1.States).length) {m2 : Nat} (hm2 : m2 = (p1.Since).length) {m3 : Nat} (hm3 : m3 = (p1.Pulled).length) {m4 : Nat} (hm4 : m4 = (p1.Held).length) : m1 = (r.States).length ∧ m2 = (r.Since).length ∧ m3 = (r.Pulled).length ∧ m4 = (r.Held).length ∧ True := by
  have h : LP (F_belts_stop p0 p1 p2) (fun r => m1 = (r.States).length ∧ m2 = (r.Since).length ∧ m3 = (r.Pulled).length ∧ m4 = (r.Held).length ∧ True) := by
    unfold F_belts_stop
    exact (lp_bind (Q := fun o6 => m1 = (o6.1).length ∧ m2 = (o6.2).length ∧ True) (lp_loop (fun s5 => m1 = (s5.2.1).length ∧ m2 = (s5.2.2).length ∧ True) ⟨hm1, hm2, trivial⟩ (fun s5 ⟨hls5_0, hls5_1, _⟩ => by unfold F_belts_stop_L1; exact (lp_bif (fun c7 => lp_bind (Q := fun o8 => m1 = (o8.1).length ∧ m2 = (o8.2).length ∧ True) (lp_bind (Q := fun o9 => True) (lp_bif (fun c10 => Wj fun x11 h12 => Wi trivial) (fun c10 => Wj fun x13 h14 => lp_bif (fun c15 => Wj fun x16 h17 => Wi trivial) (fun c15 => Wi trivial))) (fun o9 _ => lp_bif (fun c18 => Wj fun x19 h20 => Wj fun x21 h22 => Wi ⟨(Eq.trans hls5_0 List.length_set.symm), (Eq.trans hls5_1 List.length_set.symm), trivial⟩) (fun c18 => Wi ⟨hls5_0, hls5_1, trivial⟩))) (fun o8 ⟨hl23, hl24, _⟩ => Wi ⟨hl23, hl24, trivial⟩)) (fun c7 => Wi ⟨hls5_0, hls5_1, trivial⟩)))) (fun o6 ⟨hl25, hl26, _⟩ => Wi ⟨hl25, hl26, hm3, hm4, trivial⟩))
  exact h r hF

theorem F_belts_stop_ok {p0 : List T_Belt} {p1 : T_Line} {p2 : Int} {r : T_Line} (hF : F_belts_stop p0 p1 p2 = some r) {low : List AObj} {q0 q1 q2 q3 q4 w0 w1 w2 w3 w4 : Nat} (hnd : [q0, q1, q2, q3, q4].Nodup) {m1 : Nat} (hm1 : m1 = (p1.States).length) {m2 : Nat} (hm2 : m2 = (p1.Since).length) {m3 : Nat} (hm3 : m3 = (p1.Pulled).length) {m4 : Nat} (hm4 : m4 = (p1.Held).length) (hq0 : low[q0]? = some ⟨34, 5, [.agg [.int .i64 p1.Time, .sl q1 w1 0 m1, .sl q2 w2 0 m2, .sl q3 w3 0 m3, .sl q4 w4 0 m4]], w0⟩) (hq1 : low[q1]? = some ⟨3, 1, List.map (PV.int .i64) p1.States, w1⟩) (hq2 : low[q2]? = some ⟨3, 1, List.map (PV.int .i64) p1.Since, w2⟩) (hq3 : low[q3]? = some ⟨4, 1, List.map PV.bool p1.Pulled, w3⟩) (hq4 : low[q4]? = some ⟨4, 1, List.map PV.bool p1.Held, w4⟩) {n : Nat} (hn : low.length = n) :
    Yv Try.prog 36 [.vs 2 (List.map T_Belt.enc p0), .ptr q0 w0 0 0, .int .i64 p2] low fun x low' => x = .tup [] ∧ low' = setL low [(q0, ⟨34, 5, [.agg [.int .i64 r.Time, .sl q1 w1 0 m1, .sl q2 w2 0 m2, .sl q3 w3 0 m3, .sl q4 w4 0 m4]], w0⟩), (q1, ⟨3, 1, List.map (PV.int .i64) r.States, w1⟩), (q2, ⟨3, 1, List.map (PV.int .i64) r.Since, w2⟩), (q3, ⟨4, 1, List.map PV.bool r.Pulled, w3⟩), (q4, ⟨4, 1, List.map PV.bool r.Held, w4⟩)] ++ [] := by
  obtain ⟨h1, h2⟩ := Wk (ps := [(q0, ⟨34, 5, [.agg [.int .i64 p1.Time, .sl q1 w1 0 m1, .sl q2 w2 0 m2, .sl q3 w3 0 m3, .sl q4 w4 0 m4]], w0⟩), (q1, ⟨3, 1, List.map (PV.int .i64) p1.States, w1⟩), (q2, ⟨3, 1, List.map (PV.int .i64) p1.Since, w2⟩), (q3, ⟨4, 1, List.map PV.bool p1.Pulled, w3⟩), (q4, ⟨4, 1, List.map PV.bool p1.Held, w4⟩)]) hnd (Zx hq0 (Zx hq1 (Zx hq2 (Zx hq3 (Zx hq4 bor0)))))
  exact Zz h1 (F_belts_stop_ok0 hF h2 hm1 hm2 hm3 hm4 hn)

theorem F_belts_Pull_1_ok0 {p0 : T_Line} {p1 : List T_Belt} {p2 : Int} {r : T_Line} (hF : F_belts_Pull_1 p0 p1 p2 = some r) {low0 : List AObj} {q0 q1 q2 q3 q4 q5 q6 w0 w1 w2 w3 w4 w5 w6 : Nat} (hB : Bor low0 [q0, q1, q2, q3, q4, q5, q6]) {m1 : Nat} (hm1 : m1 = (p0.States).length) {m2 : Nat} (hm2 : m2 = (p0.Since).length) {m3 : Nat} (hm3 : m3 = (p0.Pulled).length) {m4 : Nat} (hm4 : m4 = (p0.Held).length) {n : Nat} (hn : low0.length = n) :
    Yv Try.prog 35 [.ptr q0 w0 0 0, .ptr q5 w5 0 0, .ptr q6 w6 0 0] (setL low0 [(q0, ⟨34, 5, [.agg [.int .i64 p0.Time, .sl q1 w1 0 m1, .sl q2 w2 0 m2, .sl q3 w3 0 m3, .sl q4 w4 0 m4]], w0⟩), (q1, ⟨3, 1, List.map (PV.int .i64) p0.States, w1⟩), (q2, ⟨3, 1, List.map (PV.int .i64) p0.Since, w2⟩), (q3, ⟨4, 1, List.map PV.bool p0.Pulled, w3⟩), (q4, ⟨4, 1, List.map PV.bool p0.Held, w4⟩), (q5, ⟨27, 1, [.vs 2 (List.map T_Belt.enc p1)], w5⟩), (q6, ⟨3, 1, [.int .i64 p2], w6⟩)]) fun x low' => x = .tup [] ∧ low' = setL low0 [(q0, ⟨34, 5, [.agg [.int .i64 r.Time, .sl q1 w1 0 m1, .sl q2 w2 0 m2, .sl q3 w3 0 m3, .sl q4 w4 0 m4]], w0⟩), (q1, ⟨3, 1, List.map (PV.int .i64) r.States, w1⟩), (q2, ⟨3, 1, List.map (PV.int .i64) r.Since, w2⟩), (q3, ⟨4, 1, List.map PV.bool r.Pulled, w3⟩), (q4, ⟨4, 1, List.map PV.bool r.Held, w4⟩), (q5, ⟨27, 1, [.vs 2 (List.map T_Belt.enc p1)], w5⟩), (q6, ⟨3, 1, [.int .i64 p2], w6⟩)] ++ [] := by
 refine Xc (nt := 14) (rs := []) Try.func35 rfl rfl (Nat.le_of_ble_eq_true rfl) rfl ?_
 have hq0 : q0 < n := hB.ltN hn 0 rfl
 have hq1 : q1 < n := hB.ltN hn 1 rfl
 have hq2 : q2 < n := hB.ltN hn 2 rfl
 have hq3 : q3 < n := hB.ltN hn 3 rfl
 have hq4 : q4 < n := hB.ltN hn 4 rfl
 have hq5 : q5 < n := hB.ltN hn 5 rfl
 have hq6 : q6 < n := hB.ltN hn 6 rfl
 refine Vw (Q' := FnE (fun E' lw lc => m1 = (r.States).length ∧ m2 = (r.Since).length ∧ m3 = (r.Pulled).length ∧ m4 = (r.Held).length ∧ Ya E' lw lc [] (setL low0 [(q0, ⟨34, 5, [.agg [.int .i64 r.Time, .sl q1 w1 0 m1, .sl q2 w2 0 m2, .sl q3 w3 0 m3, .sl q4 w4 0 m4]], w0⟩), (q1, ⟨3, 1, List.map (PV.int .i64) r.States, w1⟩), (q2, ⟨3, 1, List.map (PV.int .i64) r.Since, w2⟩), (q3, ⟨4, 1, List.map PV.bool r.Pulled, w3⟩), (q4, ⟨4, 1, List.map PV.bool r.Held, w4⟩), (q5, ⟨27, 1, [.vs 2 (List.map T_Belt.enc p1)], w5⟩), (q6, ⟨3, 1, [.int .i64 p2], w6⟩)]) [])) ?_ ?_
 ·unfold F_belts_Pull_1 at hF
  refine Vi ?_
  refine Ve ?_
  obtain ⟨x5, h6, hF⟩ := Ys hF
  refine Va (Vf rfl (Za hB rfl 5 rfl) rfl ta_27 rfl) rfl ?_
  refine Va (rd_mvP rfl) rfl ?_
  refine Va (Vf rfl (Za hB rfl 6 rfl) rfl ta_3 rfl) rfl ?_
  refine Vk (Wc (ps := [(q0, ⟨34, 5, [.agg [.int .i64 x5.Time, .sl q1 w1 0 m1, .sl q2 w2 0 m2, .sl q3 w3 0 m3, .sl q4 w4 0 m4]], w0⟩), (q1, ⟨3, 1, List.map (PV.int .i64) x5.States, w1⟩), (q2, ⟨3, 1, List.map (PV.int .i64) x5.Since, w2⟩), (q3, ⟨4, 1, List.map PV.bool x5.Pulled, w3⟩), (q4, ⟨4, 1, List.map PV.bool x5.Held, w4⟩)]) (r := .tup []) (os := []) (low1 := (setL low0 [(q0, ⟨34, 5, [.agg [.int .i64 x5.Time, .sl q1 w1 0 m1, .sl q2 w2 0 m2, .sl q3 w3 0 m3, .sl q4 w4 0 m4]], w0⟩), (q1, ⟨3, 1, List.map (PV.int .i64) x5.States, w1⟩), (q2, ⟨3, 1, List.map (PV.int .i64) x5.Since, w2⟩), (q3, ⟨4, 1, List.map PV.bool x5.Pulled, w3⟩), (q4, ⟨4, 1, List.map PV.bool x5.Held, w4⟩), (q5, ⟨27, 1, [.vs 2 (List.map T_Belt.enc p1)], w5⟩), (q6, ⟨3, 1, [.int .i64 p2], w6⟩)])) (loc1 := []) (loc2 := []) rfl Try.call36 (F_belts_stop_ok h6 (nd1 (Zq (hB.ne 0 1 rfl rfl rfl) (Zq (hB.ne 0 2 rfl rfl rfl) (Zq (hB.ne 0 3 rfl rfl rfl) (Zq (hB.ne 0 4 rfl rfl rfl) na0)))) (nd1 (Zq (hB.ne 1 2 rfl rfl rfl) (Zq (hB.ne 1 3 rfl rfl rfl) (Zq (hB.ne 1 4 rfl rfl rfl) na0))) (nd1 (Zq (hB.ne 2 3 rfl rfl rfl) (Zq (hB.ne 2 4 rfl rfl rfl) na0)) (nd1 (Zq (hB.ne 3 4 rfl rfl rfl) na0) (nd1 na0 nd0))))) hm1 hm2 hm3 hm4 (get_B hB rfl 0 rfl) (get_B hB rfl 1 rfl) (get_B hB rfl 2 rfl) (get_B hB rfl 3 rfl) (get_B hB rfl 4 rfl) (Xn (Vr hn) rfl)) (Wh (ps0' := [(q0, ⟨34, 5, [.agg [.int .i64 x5.Time, .sl q1 w1 0 m1, .sl q2 w2 0 m2, .sl q3 w3 0 m3, .sl q4 w4 0 m4]], w0⟩), (q1, ⟨3, 1, List.map (PV.int .i64) p0.States, w1⟩), (q2, ⟨3, 1, List.map (PV.int .i64) p0.Since, w2⟩), (q3, ⟨4, 1, List.map PV.bool p0.Pulled, w3⟩), (q4, ⟨4, 1, List.map PV.bool p0.Held, w4⟩), (q5, ⟨27, 1, [.vs 2 (List.map T_Belt.enc p1)], w5⟩), (q6, ⟨3, 1, [.int .i64 p2], w6⟩)]) hB rfl 0 rfl (ltObjN hn ⟨Xx ⟨.int _ _, .sl _ _ _ _ hq1, .sl _ _ _ _ hq2, .sl _ _ _ _ hq3, .sl _ _ _ _ hq4, trivial⟩, trivial⟩) rfl (Wh (ps0' := [(q0, ⟨34, 5, [.agg [.int .i64 x5.Time, .sl q1 w1 0 m1, .sl q2 w2 0 m2, .sl q3 w3 0 m3, .sl q4 w4 0 m4]], w0⟩), (q1, ⟨3, 1, List.map (PV.int .i64) x5.States, w1⟩), (q2, ⟨3, 1, List.map (PV.int .i64) p0.Since, w2⟩), (q3, ⟨4, 1, List.map PV.bool p0.Pulled, w3⟩), (q4, ⟨4, 1, List.map PV.bool p0.Held, w4⟩), (q5, ⟨27, 1, [.vs 2 (List.map T_Belt.enc p1)], w5⟩), (q6, ⟨3, 1, [.int .i64 p2], w6⟩)]) hB rfl 1 rfl (Vh (fun _ => .int _ _)) rfl (Wh (ps0' := [(q0, ⟨34, 5, [.agg [.int .i64 x5.Time, .sl q1 w1 0 m1, .sl q2 w2 0 m2, .sl q3 w3 0 m3, .sl q4 w4 0 m4]], w0⟩), (q1, ⟨3, 1, List.map (PV.int .i64) x5.States, w1⟩), (q2, ⟨3, 1, List.map (PV.int .i64) x5.Since, w2⟩), (q3, ⟨4, 1, List.map PV.bool p0.Pulled, w3⟩), (q4, ⟨4, 1, List.map PV.bool p0.Held, w4⟩), (q5, ⟨27, 1, [.vs 2 (List.map T_Belt.enc p1)], w5⟩), (q6, ⟨3, 1, [.int .i64 p2], w6⟩)]) hB rfl 2 rfl (Vh (fun _ => .int _ _)) rfl (Wh (ps0' := [(q0, ⟨34, 5, [.agg [.int .i64 x5.Time, .sl q1 w1 0 m1, .sl q2 w2 0 m2, .sl q3 w3 0 m3, .sl q4 w4 0 m4]], w0⟩), (q1, ⟨3, 1, List.map (PV.int .i64) x5.States, w1⟩), (q2, ⟨3, 1, List.map (PV.int .i64) x5.Since, w2⟩), (q3, ⟨4, 1, List.map PV.bool x5.Pulled, w3⟩), (q4, ⟨4, 1, List.map PV.bool p0.Held, w4⟩), (q5, ⟨27, 1, [.vs 2 (List.map T_Belt.enc p1)], w5⟩), (q6, ⟨3, 1, [.int .i64 p2], w6⟩)]) hB rfl 3 rfl (Vh (fun _ => .bool _)) rfl (Wh (ps0' := [(q0, ⟨34, 5, [.agg [.int .i64 x5.Time, .sl q1 w1 0 m1, .sl q2 w2 0 m2, .sl q3 w3 0 m3, .sl q4 w4 0 m4]], w0⟩), (q1, ⟨3, 1, List.map (PV.int .i64) x5.States, w1⟩), (q2, ⟨3, 1, List.map (PV.int .i64) x5.Since, w2⟩), (q3, ⟨4, 1, List.map PV.bool x5.Pulled, w3⟩), (q4, ⟨4, 1, List.map PV.bool x5.Held, w4⟩), (q5, ⟨27, 1, [.vs 2 (List.map T_Belt.enc p1)], w5⟩), (q6, ⟨3, 1, [.int .i64 p2], w6⟩)]) hB rfl 4 rfl (Vh (fun _ => .bool _)) rfl Wl))))) rfl) rfl ?_
  refine Vg ?_
  obtain ⟨x7, h8, hF⟩ := Ys hF
  refine Wb [[], [0], [0, 1], [0, 1, 2], [], [0, 1, 2, 3, 4], [0, 1, 2, 3, 4, 5]] [false, false, false, false, false, false, true] [((setL low0 [(q0, ⟨34, 5, [.agg [.int .i64 x5.Time, .sl q1 w1 0 m1, .sl q2 w2 0 m2, .sl q3 w3 0 m3, .sl q4 w4 0 m4]], w0⟩), (q1, ⟨3, 1, List.map (PV.int .i64) x5.States, w1⟩), (q2, ⟨3, 1, List.map (PV.int .i64) x5.Since, w2⟩), (q3, ⟨4, 1, List.map PV.bool x5.Pulled, w3⟩), (q4, ⟨4, 1, List.map PV.bool x5.Held, w4⟩), (q5, ⟨27, 1, [.vs 2 (List.map T_Belt.enc p1)], w5⟩), (q6, ⟨3, 1, [.int .i64 p2], w6⟩)]), []), ((setL low0 [(q0, ⟨34, 5, [.agg [.int .i64 x5.Time, .sl q1 w1 0 m1, .sl q2 w2 0 m2, .sl q3 w3 0 m3, .sl q4 w4 0 m4]], w0⟩), (q1, ⟨3, 1, List.map (PV.int .i64) x5.States, w1⟩), (q2, ⟨3, 1, List.map (PV.int .i64) x5.Since, w2⟩), (q3, ⟨4, 1, List.map PV.bool (x5.Pulled.set ((p2).toNat) true), w3⟩), (q4, ⟨4, 1, List.map PV.bool x5.Held, w4⟩), (q5, ⟨27, 1, [.vs 2 (List.map T_Belt.enc p1)], w5⟩), (q6, ⟨3, 1, [.int .i64 p2], w6⟩)]), [])] mixed (by kernel_rfl) rfl (lenAll (Yg Xl (Yg Xl Zt))) rfl _ rfl rfl ?_
  refine Yn rfl rfl (rd_mvP rfl) ?_
  refine Yn rfl rfl (Wg rfl) ?_
  refine Yn rfl rfl (Vc rfl tf_34_3 ts_32 (by decide)) ?_
  refine Yn rfl rfl (Vf rfl (Za hB rfl 0 rfl) rfl ta_32 rfl) ?_
  refine Yn rfl rfl (Vf rfl (Za hB rfl 6 rfl) rfl ta_3 rfl) ?_
  refine Yn rfl rfl (Zv rfl (F_belts_stop_len h6 hm1 hm2 hm3 hm4).2.2.1 rfl (Za hB rfl 3 rfl) h8 te_32 ts_4) ?_
  refine Zp rfl rfl rfl (vef_stL (p := .bool true) (e' := true) rfl (Za hB rfl 3 rfl) (Zc h8).2 rfl ts_4 rfl (Yc rfl) (Nat.le_of_ble_eq_true rfl) rfl (setO_B hB rfl 3 rfl (Vh (fun _ => .bool _)) rfl)) ?_
  refine Yz ?_
  obtain rfl := Option.some.inj hF
  refine And.intro (.inl rfl) (And.intro (F_belts_stop_len h6 hm1 hm2 hm3 hm4).1 (And.intro (F_belts_stop_len h6 hm1 hm2 hm3 hm4).2.1 (And.intro (Eq.trans (F_belts_stop_len h6 hm1 hm2 hm3 hm4).2.2.1 List.length_set.symm) (And.intro (F_belts_stop_len h6 hm1 hm2 hm3 hm4).2.2.2.1 ?_))))
  exact Vq trivial
 ·rintro _ _ _ _ ⟨he, hl1, hl2, hl3, hl4, hw⟩
  refine ⟨_, _, _, hw, ?_⟩
  exact Ze he [] trivial ((lt_tup trivial)) ⟨rfl, (List.append_nil _).symm⟩

theorem F_belts_Pull_1_len {p0 : T_Line} {p1 : List T_Belt} {p2 : Int} {r : T_Line} (hF : F_belts_Pull_1 p0 p1 p2 = some r) {m1 : Nat} (hm1 : m1 = (p0.States).length) {m2 : Nat} (hm2 : m2 = (p0.Since).length) {m3 : Nat} (hm3 : m3 = (p0.Pulled).length) {m4 : Nat} (hm4 : m4 = (p0.Held).length) : m1 = (r.States).length ∧ m2 = (r.Since).length ∧ m3 = (r.Pulled).length ∧ m4 = (r.Held).length ∧ True := by
  have h : LP (F_belts_Pull_1 p0 p1 p2) (fun r => m1 = (r.States).length ∧ m2 = (r.Since).length ∧ m3 = (r.Pulled).length ∧ m4 = (r.Held).length ∧ True) := by
    unfold F_belts_Pull_1
    exact (Wj fun x5 h6 => Wj fun x7 h8 => Wi ⟨(F_belts_stop_len h6 hm1 hm2 hm3 hm4).1, (F_belts_stop_len h6 hm1 hm2 hm3 hm4).2.1, (Eq.trans (F_belts_stop_len h6 hm1 hm2 hm3 hm4).2.2.1 List.length_set.symm), (F_belts_stop_len h6 hm1 hm2 hm3 hm4).2.2.2.1, trivial⟩)
  exact h r hF

theorem F_belts_Pull_1_ok {p0 : T_Line} {p1 : List T_Belt} {p2 : Int} {r : T_Line} (hF : F_belts_Pull_1 p0 p1 p2 = some r) {low : List AObj} {q0 q1 q2 q3 q4 q5 q6 w0 w1 w2 w3 w4 w5 w6 : Nat} (hnd : [q0, q1, q2, q3, q4, q5, q6].Nodup) {m1 : Nat} (hm1 : m1 = (p0.States).length) {m2 : Nat} (hm2 : m2 = (p0.Since).length) {m3 : Nat} (hm3 : m3 = (p0.Pulled).length) {m4 : Nat} (hm4 : m4 = (p0.Held).length) (hq0 : low[q0]? = some ⟨34, 5, [.agg [.int .i64 p0.Time, .sl q1 w1 0 m1, .sl q2 w2 0 m2, .sl q3 w3 0 m3, .sl q4 w4 0 m4]], w0⟩) (hq1 : low[q1]? = some ⟨3, 1, List.map (PV.int .i64) p0.States, w1⟩) (hq2 : low[q2]? = some ⟨3, 1, List.map (PV.int .i64) p0.Since, w2⟩) (hq3 : low[q3]? = some ⟨4, 1, List.map PV.bool p0.Pulled, w3⟩) (hq4 : low[q4]? = some ⟨4, 1, List.map PV.bool p0.Held, w4⟩) (hq5 : low[q5]? = some ⟨27, 1, [.vs 2 (List.map T_Belt.enc p1)], w5⟩) (hq6 : low[q6]? = some ⟨3, 1, [.int .i64 p2], w6⟩) {n : Nat} (hn : low.length = n) :
    Yv Try.prog 35 [.ptr q0 w0 0 0, .ptr q5 w5 0 0, .ptr q6 w6 0 0] low fun x low' => x = .tup [] ∧ low' = setL low [(q0, ⟨34, 5, [.agg [.int .i64 r.Time, .sl q1 w1 0 m1, .sl q2 w2 0 m2, .sl q3 w3 0 m3, .sl q4 w4 0 m4]], w0⟩), (q1, ⟨3, 1, List.map (PV.int .i64) r.States, w1⟩), (q2, ⟨3, 1, List.map (PV.int .i64) r.Since, w2⟩), (q3, ⟨4, 1, List.map PV.bool r.Pulled, w3⟩), (q4, ⟨4, 1, List.map PV.bool r.Held, w4⟩), (q5, ⟨27, 1, [.vs 2 (List.map T_Belt.enc p1)], w5⟩), (q6, ⟨3, 1, [.int .i64 p2], w6⟩)] ++ [] := by
  obtain ⟨h1, h2⟩ := Wk (ps := [(q0, ⟨34, 5, [.agg [.int .i64 p0.Time, .sl q1 w1 0 m1, .sl q2 w2 0 m2, .sl q3 w3 0 m3, .sl q4 w4 0 m4]], w0⟩), (q1, ⟨3, 1, List.map (PV.int .i64) p0.States, w1⟩), (q2, ⟨3, 1, List.map (PV.int .i64) p0.Since, w2⟩), (q3, ⟨4, 1, List.map PV.bool p0.Pulled, w3⟩), (q4, ⟨4, 1, List.map PV.bool p0.Held, w4⟩), (q5, ⟨27, 1, [.vs 2 (List.map T_Belt.enc p1)], w5⟩), (q6, ⟨3, 1, [.int .i64 p2], w6⟩)]) hnd (Zx hq0 (Zx hq1 (Zx hq2 (Zx hq3 (Zx hq4 (Zx hq5 (Zx hq6 bor0)))))))
  exact Zz h1 (F_belts_Pull_1_ok0 hF h2 hm1 hm2 hm3 hm4 hn)

theorem F_belts_done__belts_Pull_1_ok0 {p0 : T_Line} {pc10 : List T_Belt} {pc11 : Int} {r : T_Line} (hF : F_belts_done__belts_Pull_1 p0 pc10 pc11 = some r) {low0 : List AObj} {q0 q1 w0 w1 : Nat} (hB : Bor low0 [q0, q1]) {n : Nat} (hn : low0.length = n) :
    Yv Try.prog 31 [.agg [.int .i64 p0.Time, .vs 1 (List.map (PV.int .i64) p0.States), .vs 1 (List.map (PV.int .i64) p0.Since), .vs 1 (List.map PV.bool p0.Pulled), .vs 1 (List.map PV.bool p0.Held)], .fn 35 [] [.ptr q0 w0 0 0, .ptr q1 w1 0 0]] (setL low0 [(q0, ⟨27, 1, [.vs 2 (List.map T_Belt.enc pc10)], w0⟩), (q1, ⟨3, 1, [.int .i64 pc11], w1⟩)]) fun x low' => x = .agg [.int .i64 r.Time, .sl (n + 0) 0 0 (r.States).length, .sl (n + 1) 0 0 (r.Since).length, .sl (n + 2) 0 0 (r.Pulled).length, .vs 1 (List.map PV.bool r.Held)] ∧ low' = setL low0 [(q0, ⟨27, 1, [.vs 2 (List.map T_Belt.enc pc10)], w0⟩), (q1, ⟨3, 1, [.int .i64 pc11], w1⟩)] ++ [⟨3, 1, List.map (PV.int .i64) r.States, 0⟩, ⟨3, 1, List.map (PV.int .i64) r.Since, 0⟩, ⟨4, 1, List.map PV.bool r.Pulled, 0⟩] := by
 refine Xc (nt := 24) (rs := [.cell 4 34]) Try.func31 rfl rfl (Nat.le_of_ble_eq_true rfl) rfl ?_
 have hq0 : q0 < n := hB.ltN hn 0 rfl
 have hq1 : q1 < n := hB.ltN hn 1 rfl
 refine Vw (Q' := FnE (fun E' lw lc => Ya E' lw lc [(4, .ptr (n + 3) 0 0 0)] (setL low0 [(q0, ⟨27, 1, [.vs 2 (List.map T_Belt.enc pc10)], w0⟩), (q1, ⟨3, 1, [.int .i64 pc11], w1⟩)]) [⟨3, 1, List.map (PV.int .i64) r.States, 0⟩, ⟨3, 1, List.map (PV.int .i64) r.Since, 0⟩, ⟨4, 1, List.map PV.bool r.Pulled, 0⟩, ⟨34, 5, [.agg [.int .i64 r.Time, .sl (n + 0) 0 0 (r.States).length, .sl (n + 1) 0 0 (r.Since).length, .sl (n + 2) 0 0 (r.Pulled).length, .vs 1 (List.map PV.bool r.Held)]], 0⟩])) ?_ ?_
 ·unfold F_belts_done__belts_Pull_1 at hF
  refine Vi ?_
  refine Ve ?_
  refine Vk (Yw (Vr hn) rfl (v := .agg [.int .i64 p0.Time, .vs 1 (List.map (PV.int .i64) p0.States), .vs 1 (List.map (PV.int .i64) p0.Since), .vs 1 (List.map PV.bool p0.Pulled), .vs 1 (List.map PV.bool p0.Held)]) rfl rfl (Nat.succ_pos _) rfl rfl) rfl ?_
  refine Vk (Xe (Vr hn) rfl tz_34 rfl rfl (Nat.succ_pos _) rfl) rfl ?_
  refine Vg ?_
  refine Vi ?_
  obtain ⟨x1, h2, hF⟩ := Ys hF
  obtain ⟨x3, h4, hF⟩ := Ys hF
  obtain ⟨x5, h6, hF⟩ := Ys hF
  obtain ⟨x7, h8, hF⟩ := Ys hF
  refine Ye (Yu 3 1 (Nat.succ_pos _)) ?_
  refine Ye (Yu 3 1 (Nat.succ_pos _)) ?_
  refine Ye (Yu 4 1 (Nat.succ_pos _)) ?_
  refine Ye (Yu 4 1 (Nat.succ_pos _)) ?_
  refine Ye (Yu 34 5 (Nat.succ_pos _)) ?_
  refine vwp_drawnX [[], [0], [], [2], [2, 3], [], [5], [2, 3, 4, 5, 6], [], [8], [2, 3, 4, 5, 6, 7, 8, 9], [], [11], [2, 3, 4, 5, 6, 7, 8, 9, 10, 11, 12], [0, 1, 2, 3, 4, 5, 6, 7, 8, 9, 10, 11, 12, 13], [], [0, 1, 2, 3, 4, 5, 6, 7, 8, 9, 10, 11, 12, 13, 14, 15]] [false, false, false, false, true, false, false, true, false, false, true, false, false, true, false, true, true] [([], (setL low0 [(q0, ⟨27, 1, [.vs 2 (List.map T_Belt.enc pc10)], w0⟩), (q1, ⟨3, 1, [.int .i64 pc11], w1⟩)]), [⟨34, 5, [.agg [.int .i64 p0.Time, .vs 1 (List.map (PV.int .i64) p0.States), .vs 1 (List.map (PV.int .i64) p0.Since), .vs 1 (List.map PV.bool p0.Pulled), .vs 1 (List.map PV.bool p0.Held)]], 0⟩, ⟨34, 5, [.agg [.int .i64 0, .nils, .nils, .nils, .nils]], 0⟩, ⟨3, 1, [], 0⟩, ⟨3, 1, [], 0⟩, ⟨4, 1, [], 0⟩, ⟨4, 1, [], 0⟩, ⟨34, 5, [], 0⟩]), ([4], (setL low0 [(q0, ⟨27, 1, [.vs 2 (List.map T_Belt.enc pc10)], w0⟩), (q1, ⟨3, 1, [.int .i64 pc11], w1⟩)]), [⟨34, 5, [.agg [.int .i64 p0.Time, .vs 1 (List.map (PV.int .i64) p0.States), .vs 1 (List.map (PV.int .i64) p0.Since), .vs 1 (List.map PV.bool p0.Pulled), .vs 1 (List.map PV.bool p0.Held)]], 0⟩, ⟨34, 5, [.agg [.int .i64 0, .nils, .nils, .nils, .nils]], 0⟩, ⟨3, 1, List.map (PV.int .i64) x1, 1⟩, ⟨3, 1, [], 0⟩, ⟨4, 1, [], 0⟩, ⟨4, 1, [], 0⟩, ⟨34, 5, [], 0⟩]), ([15], (setL low0 [(q0, ⟨27, 1, [.vs 2 (List.map T_Belt.enc pc10)], w0⟩), (q1, ⟨3, 1, [.int .i64 pc11], w1⟩)]), [⟨34, 5, [.agg [.int .i64 p0.Time, .vs 1 (List.map (PV.int .i64) p0.States), .vs 1 (List.map (PV.int .i64) p0.Since), .vs 1 (List.map PV.bool p0.Pulled), .vs 1 (List.map PV.bool p0.Held)]], 0⟩, ⟨34, 5, [.agg [.int .i64 0, .nils, .nils, .nils, .nils]], 0⟩, ⟨3, 1, [], 0⟩, ⟨3, 1, [], 0⟩, ⟨4, 1, [], 0⟩, ⟨4, 1, [], 0⟩, ⟨34, 5, [.agg [.int .i64 0, .nils, .nils, .nils, .nils]], 1⟩]), ([4, 7], (setL low0 [(q0, ⟨27, 1, [.vs 2 (List.map T_Belt.enc pc10)], w0⟩), (q1, ⟨3, 1, [.int .i64 pc11], w1⟩)]), [⟨34, 5, [.agg [.int .i64 p0.Time, .vs 1 (List.map (PV.int .i64) p0.States), .vs 1 (List.map (PV.int .i64) p0.Since), .vs 1 (List.map PV.bool p0.Pulled), .vs 1 (List.map PV.bool p0.Held)]], 0⟩, ⟨34, 5, [.agg [.int .i64 0, .nils, .nils, .nils, .nils]], 0⟩, ⟨3, 1, List.map (PV.int .i64) x1, 1⟩, ⟨3, 1, List.map (PV.int .i64) x3, 1⟩, ⟨4, 1, [], 0⟩, ⟨4, 1, [], 0⟩, ⟨34, 5, [], 0⟩]), ([4, 15], (setL low0 [(q0, ⟨27, 1, [.vs 2 (List.map T_Belt.enc pc10)], w0⟩), (q1, ⟨3, 1, [.int .i64 pc11], w1⟩)]), [⟨34, 5, [.agg [.int .i64 p0.Time, .vs 1 (List.map (PV.int .i64) p0.States), .vs 1 (List.map (PV.int .i64) p0.Since), .vs 1 (List.map PV.bool p0.Pulled), .vs 1 (List.map PV.bool p0.Held)]], 0⟩, ⟨34, 5, [.agg [.int .i64 0, .nils, .nils, .nils, .nils]], 0⟩, ⟨3, 1, List.map (PV.int .i64) x1, 1⟩, ⟨3, 1, [], 0⟩, ⟨4, 1, [], 0⟩, ⟨4, 1, [], 0⟩, ⟨34, 5, [.agg [.int .i64 0, .nils, .nils, .nils, .nils]], 1⟩]), ([4, 7, 10], (setL low0 [(q0, ⟨27, 1, [.vs 2 (List.map T_Belt.enc pc10)], w0⟩), (q1, ⟨3, 1, [.int .i64 pc11], w1⟩)]), [⟨34, 5, [.agg [.int .i64 p0.Time, .vs 1 (List.map (PV.int .i64) p0.States), .vs 1 (List.map (PV.int .i64) p0.Since), .vs 1 (List.map PV.bool p0.Pulled), .vs 1 (List.map PV.bool p0.Held)]], 0⟩, ⟨34, 5, [.agg [.int .i64 0, .nils, .nils, .nils, .nils]], 0⟩, ⟨3, 1, List.map (PV.int .i64) x1, 1⟩, ⟨3, 1, List.map (PV.int .i64) x3, 1⟩, ⟨4, 1, List.map PV.bool x5, 1⟩, ⟨4, 1, [], 0⟩, ⟨34, 5, [], 0⟩]), ([4, 7, 15], (setL low0 [(q0, ⟨27, 1, [.vs 2 (List.map T_Belt.enc pc10)], w0⟩), (q1, ⟨3, 1, [.int .i64 pc11], w1⟩)]), [⟨34, 5, [.agg [.int .i64 p0.Time, .vs 1 (List.map (PV.int .i64) p0.States), .vs 1 (List.map (PV.int .i64) p0.Since), .vs 1 (List.map PV.bool p0.Pulled), .vs 1 (List.map PV.bool p0.Held)]], 0⟩, ⟨34, 5, [.agg [.int .i64 0, .nils, .nils, .nils, .nils]], 0⟩, ⟨3, 1, List.map (PV.int .i64) x1, 1⟩, ⟨3, 1, List.map (PV.int .i64) x3, 1⟩, ⟨4, 1, [], 0⟩, ⟨4, 1, [], 0⟩, ⟨34, 5, [.agg [.int .i64 0, .nils, .nils, .nils, .nils]], 1⟩]), ([4, 7, 10, 13], (setL low0 [(q0, ⟨27, 1, [.vs 2 (List.map T_Belt.enc pc10)], w0⟩), (q1, ⟨3, 1, [.int .i64 pc11], w1⟩)]), [⟨34, 5, [.agg [.int .i64 p0.Time, .vs 1 (List.map (PV.int .i64) p0.States), .vs 1 (List.map (PV.int .i64) p0.Since), .vs 1 (List.map PV.bool p0.Pulled), .vs 1 (List.map PV.bool p0.Held)]], 0⟩, ⟨34, 5, [.agg [.int .i64 0, .nils, .nils, .nils, .nils]], 0⟩, ⟨3, 1, List.map (PV.int .i64) x1, 1⟩, ⟨3, 1, List.map (PV.int .i64) x3, 1⟩, ⟨4, 1, List.map PV.bool x5, 1⟩, ⟨4, 1, List.map PV.bool x7, 1⟩, ⟨34, 5, [], 0⟩]), ([4, 7, 10, 15], (setL low0 [(q0, ⟨27, 1, [.vs 2 (List.map T_Belt.enc pc10)], w0⟩), (q1, ⟨3, 1, [.int .i64 pc11], w1⟩)]), [⟨34, 5, [.agg [.int .i64 p0.Time, .vs 1 (List.map (PV.int .i64) p0.States), .vs 1 (List.map (PV.int .i64) p0.Since), .vs 1 (List.map PV.bool p0.Pulled), .vs 1 (List.map PV.bool p0.Held)]], 0⟩, ⟨34, 5, [.agg [.int .i64 0, .nils, .nils, .nils, .nils]], 0⟩, ⟨3, 1, List.map (PV.int .i64) x1, 1⟩, ⟨3, 1, List.map (PV.int .i64) x3, 1⟩, ⟨4, 1, List.map PV.bool x5, 1⟩, ⟨4, 1, [], 0⟩, ⟨34, 5, [.agg [.int .i64 0, .nils, .nils, .nils, .nils]], 1⟩]), ([4, 7, 10, 13, 15], (setL low0 [(q0, ⟨27, 1, [.vs 2 (List.map T_Belt.enc pc10)], w0⟩), (q1, ⟨3, 1, [.int .i64 pc11], w1⟩)]), [⟨34, 5, [.agg [.int .i64 p0.Time, .vs 1 (List.map (PV.int .i64) p0.States), .vs 1 (List.map (PV.int .i64) p0.Since), .vs 1 (List.map PV.bool p0.Pulled), .vs 1 (List.map PV.bool p0.Held)]], 0⟩, ⟨34, 5, [.agg [.int .i64 0, .nils, .nils, .nils, .nils]], 0⟩, ⟨3, 1, List.map (PV.int .i64) x1, 1⟩, ⟨3, 1, List.map (PV.int .i64) x3, 1⟩, ⟨4, 1, List.map PV.bool x5, 1⟩, ⟨4, 1, List.map PV.bool x7, 1⟩, ⟨34, 5, [.agg [.int .i64 0, .nils, .nils, .nils, .nils]], 1⟩]), ([4, 7, 10, 13, 15, 16], (setL low0 [(q0, ⟨27, 1, [.vs 2 (List.map T_Belt.enc pc10)], w0⟩), (q1, ⟨3, 1, [.int .i64 pc11], w1⟩)]), [⟨34, 5, [.agg [.int .i64 p0.Time, .vs 1 (List.map (PV.int .i64) p0.States), .vs 1 (List.map (PV.int .i64) p0.Since), .vs 1 (List.map PV.bool p0.Pulled), .vs 1 (List.map PV.bool p0.Held)]], 0⟩, ⟨34, 5, [.agg [.int .i64 0, .nils, .nils, .nils, .nils]], 0⟩, ⟨3, 1, List.map (PV.int .i64) x1, 1⟩, ⟨3, 1, List.map (PV.int .i64) x3, 1⟩, ⟨4, 1, List.map PV.bool x5, 1⟩, ⟨4, 1, List.map PV.bool x7, 1⟩, ⟨34, 5, [.agg [.int .i64 p0.Time, .sl (n + 2) 1 0 (x1).length, .sl (n + 3) 1 0 (x3).length, .sl (n + 4) 1 0 (x5).length, .sl (n + 5) 1 0 (x7).length]], 1⟩])] mixed (by kernel_rfl) rfl (lenAllX (Yp Xl (Yp Xl (Yp Xl (Yp Xl (Yp Xl (Yp Xl (Yp Xl (Yp Xl (Yp Xl (Yp Xl (Yp Xl allx0)))))))))))) rfl [4, 7, 10, 13, 15, 16] ((setL low0 [(q0, ⟨27, 1, [.vs 2 (List.map T_Belt.enc pc10)], w0⟩), (q1, ⟨3, 1, [.int .i64 pc11], w1⟩)]), [⟨34, 5, [.agg [.int .i64 p0.Time, .vs 1 (List.map (PV.int .i64) p0.States), .vs 1 (List.map (PV.int .i64) p0.Since), .vs 1 (List.map PV.bool p0.Pulled), .vs 1 (List.map PV.bool p0.Held)]], 0⟩, ⟨34, 5, [.agg [.int .i64 0, .nils, .nils, .nils, .nils]], 0⟩, ⟨3, 1, List.map (PV.int .i64) x1, 1⟩, ⟨3, 1, List.map (PV.int .i64) x3, 1⟩, ⟨4, 1, List.map PV.bool x5, 1⟩, ⟨4, 1, List.map PV.bool x7, 1⟩, ⟨34, 5, [.agg [.int .i64 p0.Time, .sl (n + 2) 1 0 (x1).length, .sl (n + 3) 1 0 (x3).length, .sl (n + 4) 1 0 (x5).length, .sl (n + 5) 1 0 (x7).length]], 1⟩]) rfl rfl ?_
  refine Xw _ rfl rfl (Xs (Xh.ntl (Vc rfl tf_34_0 ts_3 (by decide))) (Xs (Xh.ntl (Vc rfl tf_34_0 ts_3 (by decide))) (Xs (Xh.ntl (Vc rfl tf_34_0 ts_3 (by decide))) (Xs (Xh.ntl (Vc rfl tf_34_0 ts_3 (by decide))) (Xs (Xh.ntl (Vc rfl tf_34_0 ts_3 (by decide))) (Xs (Xh.ntl (Vc rfl tf_34_0 ts_3 (by decide))) (Xs (Xh.ntl (Vc rfl tf_34_0 ts_3 (by decide))) (Xs (Xh.ntl (Vc rfl tf_34_0 ts_3 (by decide))) (Xs (Xh.ntl (Vc rfl tf_34_0 ts_3 (by decide))) (Xs (Xh.ntl (Vc rfl tf_34_0 ts_3 (by decide))) rx0)))))))))) ?_
  refine Xw _ rfl rfl (Xs (Xh.ntl (Vf rfl (Vd (Vr hn) rfl) rfl ta_3 rfl)) (Xs (Xh.ntl (Vf rfl (Vd (Vr hn) rfl) rfl ta_3 rfl)) (Xs (Xh.ntl (Vf rfl (Vd (Vr hn) rfl) rfl ta_3 rfl)) (Xs (Xh.ntl (Vf rfl (Vd (Vr hn) rfl) rfl ta_3 rfl)) (Xs (Xh.ntl (Vf rfl (Vd (Vr hn) rfl) rfl ta_3 rfl)) (Xs (Xh.ntl (Vf rfl (Vd (Vr hn) rfl) rfl ta_3 rfl)) (Xs (Xh.ntl (Vf rfl (Vd (Vr hn) rfl) rfl ta_3 rfl)) (Xs (Xh.ntl (Vf rfl (Vd (Vr hn) rfl) rfl ta_3 rfl)) (Xs (Xh.ntl (Vf rfl (Vd (Vr hn) rfl) rfl ta_3 rfl)) (Xs (Xh.ntl (Vf rfl (Vd (Vr hn) rfl) rfl ta_3 rfl)) rx0)))))))))) ?_
  refine Xw _ rfl rfl (Xs (Xh.ntl (Vc rfl tf_34_1 ts_22 (by decide))) (Xs (Xh.ntl (Vc rfl tf_34_1 ts_22 (by decide))) rx0)) ?_
  refine Xw _ rfl rfl (Xs (Xh.ntl (Vf rfl (Vd (Vr hn) rfl) rfl ta_22 rfl)) (Xs (Xh.ntl (Vf rfl (Vd (Vr hn) rfl) rfl ta_22 rfl)) rx0)) ?_
  refine Zd _ rfl rfl (Zs 1 rfl (Vt (f := 7) (k := 2) (m := 1) (os := [⟨3, 1, List.map (PV.int .i64) x1, 0⟩]) (os' := [⟨3, 1, List.map (PV.int .i64) x1, 1⟩]) (v := .sl (n + 7) 0 0 (x1).length) (Vr hn) rfl rfl ⟨⟨_, rfl, rfl⟩, trivial⟩ (Xf (r := .sl (n + 7) 0 0 (x1).length) (os := [⟨3, 1, List.map (PV.int .i64) x1, 0⟩]) rfl Try.call54 (F_slices_Clone___int_int__ok h2 _ (Xn (Vr hn) rfl))) (Yf 0 rfl rfl rfl rfl) ⟨.same _ _ _ (Vh (fun _ => .int _ _)), trivial⟩ rfl) (Zs 4 rfl (Vt (f := 7) (k := 2) (m := 1) (os := [⟨3, 1, List.map (PV.int .i64) x1, 0⟩]) (os' := [⟨3, 1, List.map (PV.int .i64) x1, 1⟩]) (v := .sl (n + 7) 0 0 (x1).length) (Vr hn) rfl rfl ⟨⟨_, rfl, rfl⟩, trivial⟩ (Xf (r := .sl (n + 7) 0 0 (x1).length) (os := [⟨3, 1, List.map (PV.int .i64) x1, 0⟩]) rfl Try.call54 (F_slices_Clone___int_int__ok h2 _ (Xn (Vr hn) rfl))) (Yf 0 rfl rfl rfl rfl) ⟨.same _ _ _ (Vh (fun _ => .int _ _)), trivial⟩ rfl) ex0)) ?_
  refine Xw _ rfl rfl (Xs (Xh.ntl (Vc rfl tf_34_2 ts_22 (by decide))) (Xs (Xh.ntl (Vc rfl tf_34_2 ts_22 (by decide))) (Xs (Xh.ntl (Vc rfl tf_34_2 ts_22 (by decide))) (Xs (Xh.ntl (Vc rfl tf_34_2 ts_22 (by decide))) rx0)))) ?_
  refine Xw _ rfl rfl (Xs (Xh.ntl (Vf rfl (Vd (Vr hn) rfl) rfl ta_22 rfl)) (Xs (Xh.ntl (Vf rfl (Vd (Vr hn) rfl) rfl ta_22 rfl)) (Xs (Xh.ntl (Vf rfl (Vd (Vr hn) rfl) rfl ta_22 rfl)) (Xs (Xh.ntl (Vf rfl (Vd (Vr hn) rfl) rfl ta_22 rfl)) rx0)))) ?_
  refine Zd _ rfl rfl (Zs 3 rfl (Vt (f := 7) (k := 3) (m := 1) (os := [⟨3, 1, List.map (PV.int .i64) x3, 0⟩]) (os' := [⟨3, 1, List.map (PV.int .i64) x3, 1⟩]) (v := .sl (n + 7) 0 0 (x3).length) (Vr hn) rfl rfl ⟨⟨_, rfl, rfl⟩, trivial⟩ (Xf (r := .sl (n + 7) 0 0 (x3).length) (os := [⟨3, 1, List.map (PV.int .i64) x3, 0⟩]) rfl Try.call54 (F_slices_Clone___int_int__ok h4 _ (Xn (Vr hn) rfl))) (Yf 0 rfl rfl rfl rfl) ⟨.same _ _ _ (Vh (fun _ => .int _ _)), trivial⟩ rfl) (Zs 6 rfl (Vt (f := 7) (k := 3) (m := 1) (os := [⟨3, 1, List.map (PV.int .i64) x3, 0⟩]) (os' := [⟨3, 1, List.map (PV.int .i64) x3, 1⟩]) (v := .sl (n + 7) 0 0 (x3).length) (Vr hn) rfl rfl ⟨⟨_, rfl, rfl⟩, trivial⟩ (Xf (r := .sl (n + 7) 0 0 (x3).length) (os := [⟨3, 1, List.map (PV.int .i64) x3, 0⟩]) rfl Try.call54 (F_slices_Clone___int_int__ok h4 _ (Xn (Vr hn) rfl))) (Yf 0 rfl rfl rfl rfl) ⟨.same _ _ _ (Vh (fun _ => .int _ _)), trivial⟩ rfl) ex0)) ?_
  refine Xw _ rfl rfl (Xs (Xh.ntl (Vc rfl tf_34_3 ts_32 (by decide))) (Xs (Xh.ntl (Vc rfl tf_34_3 ts_32 (by decide))) (Xs (Xh.ntl (Vc rfl tf_34_3 ts_32 (by decide))) (Xs (Xh.ntl (Vc rfl tf_34_3 ts_32 (by decide))) (Xs (Xh.ntl (Vc rfl tf_34_3 ts_32 (by decide))) (Xs (Xh.ntl (Vc rfl tf_34_3 ts_32 (by decide))) rx0)))))) ?_
  refine Xw _ rfl rfl (Xs (Xh.ntl (Vf rfl (Vd (Vr hn) rfl) rfl ta_32 rfl)) (Xs (Xh.ntl (Vf rfl (Vd (Vr hn) rfl) rfl ta_32 rfl)) (Xs (Xh.ntl (Vf rfl (Vd (Vr hn) rfl) rfl ta_32 rfl)) (Xs (Xh.ntl (Vf rfl (Vd (Vr hn) rfl) rfl ta_32 rfl)) (Xs (Xh.ntl (Vf rfl (Vd (Vr hn) rfl) rfl ta_32 rfl)) (Xs (Xh.ntl (Vf rfl (Vd (Vr hn) rfl) rfl ta_32 rfl)) rx0)))))) ?_
  refine Zd _ rfl rfl (Zs 5 rfl (Vt (f := 7) (k := 4) (m := 1) (os := [⟨4, 1, List.map PV.bool x5, 0⟩]) (os' := [⟨4, 1, List.map PV.bool x5, 1⟩]) (v := .sl (n + 7) 0 0 (x5).length) (Vr hn) rfl rfl ⟨⟨_, rfl, rfl⟩, trivial⟩ (Xf (r := .sl (n + 7) 0 0 (x5).length) (os := [⟨4, 1, List.map PV.bool x5, 0⟩]) rfl Try.call55 (F_slices_Clone___bool_bool__ok h6 _ (Xn (Vr hn) rfl))) (Yf 0 rfl rfl rfl rfl) ⟨.same _ _ _ (Vh (fun _ => .bool _)), trivial⟩ rfl) (Zs 8 rfl (Vt (f := 7) (k := 4) (m := 1) (os := [⟨4, 1, List.map PV.bool x5, 0⟩]) (os' := [⟨4, 1, List.map PV.bool x5, 1⟩]) (v := .sl (n + 7) 0 0 (x5).length) (Vr hn) rfl rfl ⟨⟨_, rfl, rfl⟩, trivial⟩ (Xf (r := .sl (n + 7) 0 0 (x5).length) (os := [⟨4, 1, List.map PV.bool x5, 0⟩]) rfl Try.call55 (F_slices_Clone___bool_bool__ok h6 _ (Xn (Vr hn) rfl))) (Yf 0 rfl rfl rfl rfl) ⟨.same _ _ _ (Vh (fun _ => .bool _)), trivial⟩ rfl) ex0)) ?_
  refine Xw _ rfl rfl (Xs (Xh.ntl (Vc rfl tf_34_4 ts_32 (by decide))) (Xs (Xh.ntl (Vc rfl tf_34_4 ts_32 (by decide))) (Xs (Xh.ntl (Vc rfl tf_34_4 ts_32 (by decide))) (Xs (Xh.ntl (Vc rfl tf_34_4 ts_32 (by decide))) (Xs (Xh.ntl (Vc rfl tf_34_4 ts_32 (by decide))) (Xs (Xh.ntl (Vc rfl tf_34_4 ts_32 (by decide))) (Xs (Xh.ntl (Vc rfl tf_34_4 ts_32 (by decide))) (Xs (Xh.ntl (Vc rfl tf_34_4 ts_32 (by decide))) rx0)))))))) ?_
  refine Xw _ rfl rfl (Xs (Xh.ntl (Vf rfl (Vd (Vr hn) rfl) rfl ta_32 rfl)) (Xs (Xh.ntl (Vf rfl (Vd (Vr hn) rfl) rfl ta_32 rfl)) (Xs (Xh.ntl (Vf rfl (Vd (Vr hn) rfl) rfl ta_32 rfl)) (Xs (Xh.ntl (Vf rfl (Vd (Vr hn) rfl) rfl ta_32 rfl)) (Xs (Xh.ntl (Vf rfl (Vd (Vr hn) rfl) rfl ta_32 rfl)) (Xs (Xh.ntl (Vf rfl (Vd (Vr hn) rfl) rfl ta_32 rfl)) (Xs (Xh.ntl (Vf rfl (Vd (Vr hn) rfl) rfl ta_32 rfl)) (Xs (Xh.ntl (Vf rfl (Vd (Vr hn) rfl) rfl ta_32 rfl)) rx0)))))))) ?_
  refine Zd _ rfl rfl (Zs 7 rfl (Vt (f := 7) (k := 5) (m := 1) (os := [⟨4, 1, List.map PV.bool x7, 0⟩]) (os' := [⟨4, 1, List.map PV.bool x7, 1⟩]) (v := .sl (n + 7) 0 0 (x7).length) (Vr hn) rfl rfl ⟨⟨_, rfl, rfl⟩, trivial⟩ (Xf (r := .sl (n + 7) 0 0 (x7).length) (os := [⟨4, 1, List.map PV.bool x7, 0⟩]) rfl Try.call55 (F_slices_Clone___bool_bool__ok h8 _ (Xn (Vr hn) rfl))) (Yf 0 rfl rfl rfl rfl) ⟨.same _ _ _ (Vh (fun _ => .bool _)), trivial⟩ rfl) (Zs 9 rfl (Vt (f := 7) (k := 5) (m := 1) (os := [⟨4, 1, List.map PV.bool x7, 0⟩]) (os' := [⟨4, 1, List.map PV.bool x7, 1⟩]) (v := .sl (n + 7) 0 0 (x7).length) (Vr hn) rfl rfl ⟨⟨_, rfl, rfl⟩, trivial⟩ (Xf (r := .sl (n + 7) 0 0 (x7).length) (os := [⟨4, 1, List.map PV.bool x7, 0⟩]) rfl Try.call55 (F_slices_Clone___bool_bool__ok h8 _ (Xn (Vr hn) rfl))) (Yf 0 rfl rfl rfl rfl) ⟨.same _ _ _ (Vh (fun _ => .bool _)), trivial⟩ rfl) ex0)) ?_
  refine Xw _ rfl rfl (Xs (Xh.ntl (Wd (vs := [(0, .int .i64 p0.Time), (1, .sl (n + 2) 1 0 (x1).length), (2, .sl (n + 3) 1 0 (x3).length), (3, .sl (n + 4) 1 0 (x5).length), (4, .sl (n + 5) 1 0 (x7).length)]) (ds := [.int .i64 p0.Time, .sl (n + 2) 1 0 (x1).length, .sl (n + 3) 1 0 (x3).length, .sl (n + 4) 1 0 (x5).length, .sl (n + 5) 1 0 (x7).length]) tz_34 rfl rfl tp_34 ⟨rfl, rfl, rfl, rfl, rfl, rfl, rfl, rfl, rfl, rfl, trivial⟩ (nt_all2 rfl) rfl)) (Xs (Xh.ntl (Wd (vs := [(0, .int .i64 p0.Time), (1, .sl (n + 2) 1 0 (x1).length), (2, .sl (n + 3) 1 0 (x3).length), (3, .sl (n + 4) 1 0 (x5).length), (4, .sl (n + 5) 1 0 (x7).length)]) (ds := [.int .i64 p0.Time, .sl (n + 2) 1 0 (x1).length, .sl (n + 3) 1 0 (x3).length, .sl (n + 4) 1 0 (x5).length, .sl (n + 5) 1 0 (x7).length]) tz_34 rfl rfl tp_34 ⟨rfl, rfl, rfl, rfl, rfl, rfl, rfl, rfl, rfl, rfl, trivial⟩ (nt_all2 rfl) rfl)) rx0)) ?_
  refine Zd _ rfl rfl (Zs 2 rfl (Vt (f := 7) (k := 6) (m := 1) (os := [⟨34, 5, [.agg [.int .i64 0, .nils, .nils, .nils, .nils]], 0⟩]) (os' := [⟨34, 5, [.agg [.int .i64 0, .nils, .nils, .nils, .nils]], 1⟩]) (v := .ptr (n + 7) 0 0 0) (Vr hn) rfl rfl ⟨⟨_, rfl, rfl⟩, trivial⟩ (Xe (Vr hn) rfl tz_34 rfl rfl (Nat.succ_pos _) rfl) (Wa 0 rfl rfl rfl rfl) ⟨.same _ _ _ (Xt ⟨(Xx ⟨.int _ _, .nils, .nils, .nils, .nils, trivial⟩), trivial⟩), trivial⟩ rfl) (Zs 4 rfl (Vt (f := 7) (k := 6) (m := 1) (os := [⟨34, 5, [.agg [.int .i64 0, .nils, .nils, .nils, .nils]], 0⟩]) (os' := [⟨34, 5, [.agg [.int .i64 0, .nils, .nils, .nils, .nils]], 1⟩]) (v := .ptr (n + 7) 0 0 0) (Vr hn) rfl rfl ⟨⟨_, rfl, rfl⟩, trivial⟩ (Xe (Vr hn) rfl tz_34 rfl rfl (Nat.succ_pos _) rfl) (Wa 0 rfl rfl rfl rfl) ⟨.same _ _ _ (Xt ⟨(Xx ⟨.int _ _, .nils, .nils, .nils, .nils, trivial⟩), trivial⟩), trivial⟩ rfl) (Zs 6 rfl (Vt (f := 7) (k := 6) (m := 1) (os := [⟨34, 5, [.agg [.int .i64 0, .nils, .nils, .nils, .nils]], 0⟩]) (os' := [⟨34, 5, [.agg [.int .i64 0, .nils, .nils, .nils, .nils]], 1⟩]) (v := .ptr (n + 7) 0 0 0) (Vr hn) rfl rfl ⟨⟨_, rfl, rfl⟩, trivial⟩ (Xe (Vr hn) rfl tz_34 rfl rfl (Nat.succ_pos _) rfl) (Wa 0 rfl rfl rfl rfl) ⟨.same _ _ _ (Xt ⟨(Xx ⟨.int _ _, .nils, .nils, .nils, .nils, trivial⟩), trivial⟩), trivial⟩ rfl) (Zs 8 rfl (Vt (f := 7) (k := 6) (m := 1) (os := [⟨34, 5, [.agg [.int .i64 0, .nils, .nils, .nils, .nils]], 0⟩]) (os' := [⟨34, 5, [.agg [.int .i64 0, .nils, .nils, .nils, .nils]], 1⟩]) (v := .ptr (n + 7) 0 0 0) (Vr hn) rfl rfl ⟨⟨_, rfl, rfl⟩, trivial⟩ (Xe (Vr hn) rfl tz_34 rfl rfl (Nat.succ_pos _) rfl) (Wa 0 rfl rfl rfl rfl) ⟨.same _ _ _ (Xt ⟨(Xx ⟨.int _ _, .nils, .nils, .nils, .nils, trivial⟩), trivial⟩), trivial⟩ rfl) (Zs 9 rfl (Vt (f := 7) (k := 6) (m := 1) (os := [⟨34, 5, [.agg [.int .i64 0, .nils, .nils, .nils, .nils]], 0⟩]) (os' := [⟨34, 5, [.agg [.int .i64 0, .nils, .nils, .nils, .nils]], 1⟩]) (v := .ptr (n + 7) 0 0 0) (Vr hn) rfl rfl ⟨⟨_, rfl, rfl⟩, trivial⟩ (Xe (Vr hn) rfl tz_34 rfl rfl (Nat.succ_pos _) rfl) (Wa 0 rfl rfl rfl rfl) ⟨.same _ _ _ (Xt ⟨(Xx ⟨.int _ _, .nils, .nils, .nils, .nils, trivial⟩), trivial⟩), trivial⟩ rfl) ex0))))) ?_
  refine Zd _ rfl rfl (Zs 10 rfl (Vx (p := .agg [.int .i64 p0.Time, .sl (n + 2) 1 0 (x1).length, .sl (n + 3) 1 0 (x3).length, .sl (n + 4) 1 0 (x5).length, .sl (n + 5) 1 0 (x7).length]) (e' := .agg [.int .i64 p0.Time, .sl (n + 2) 1 0 (x1).length, .sl (n + 3) 1 0 (x3).length, .sl (n + 4) 1 0 (x5).length, .sl (n + 5) 1 0 (x7).length]) rfl (Vd (Vr hn) rfl) rfl rfl ts_34 rfl (Yc rfl) rfl (Nat.le_of_ble_eq_true rfl) rfl (Xr (Vr hn) rfl)) ex0) ?_
  refine dopx_nil ?_
  refine Vi ?_
  refine Ve ?_
  obtain ⟨x9, h10, hF⟩ := Ys hF
  refine Va (rd_mvF rfl) rfl ?_
  refine Vk (Wc (ps := [((n + 6), ⟨34, 5, [.agg [.int .i64 x9.Time, .sl (n + 2) 1 0 (x1).length, .sl (n + 3) 1 0 (x3).length, .sl (n + 4) 1 0 (x5).length, .sl (n + 5) 1 0 (x7).length]], 1⟩), ((n + 2), ⟨3, 1, List.map (PV.int .i64) x9.States, 1⟩), ((n + 3), ⟨3, 1, List.map (PV.int .i64) x9.Since, 1⟩), ((n + 4), ⟨4, 1, List.map PV.bool x9.Pulled, 1⟩), ((n + 5), ⟨4, 1, List.map PV.bool x9.Held, 1⟩), (q0, ⟨27, 1, [.vs 2 (List.map T_Belt.enc pc10)], w0⟩), (q1, ⟨3, 1, [.int .i64 pc11], w1⟩)]) (r := .tup []) (os := []) (low1 := (setL low0 [(q0, ⟨27, 1, [.vs 2 (List.map T_Belt.enc pc10)], w0⟩), (q1, ⟨3, 1, [.int .i64 pc11], w1⟩)])) (loc1 := [⟨34, 5, [.agg [.int .i64 p0.Time, .vs 1 (List.map (PV.int .i64) p0.States), .vs 1 (List.map (PV.int .i64) p0.Since), .vs 1 (List.map PV.bool p0.Pulled), .vs 1 (List.map PV.bool p0.Held)]], 0⟩, ⟨34, 5, [.agg [.int .i64 0, .nils, .nils, .nils, .nils]], 0⟩, ⟨3, 1, List.map (PV.int .i64) x9.States, 1⟩, ⟨3, 1, List.map (PV.int .i64) x9.Since, 1⟩, ⟨4, 1, List.map PV.bool x9.Pulled, 1⟩, ⟨4, 1, List.map PV.bool x9.Held, 1⟩, ⟨34, 5, [.agg [.int .i64 x9.Time, .sl (n + 2) 1 0 (x1).length, .sl (n + 3) 1 0 (x3).length, .sl (n + 4) 1 0 (x5).length, .sl (n + 5) 1 0 (x7).length]], 1⟩]) (loc2 := [⟨34, 5, [.agg [.int .i64 p0.Time, .vs 1 (List.map (PV.int .i64) p0.States), .vs 1 (List.map (PV.int .i64) p0.Since), .vs 1 (List.map PV.bool p0.Pulled), .vs 1 (List.map PV.bool p0.Held)]], 0⟩, ⟨34, 5, [.agg [.int .i64 0, .nils, .nils, .nils, .nils]], 0⟩, ⟨3, 1, List.map (PV.int .i64) x9.States, 1⟩, ⟨3, 1, List.map (PV.int .i64) x9.Since, 1⟩, ⟨4, 1, List.map PV.bool x9.Pulled, 1⟩, ⟨4, 1, List.map PV.bool x9.Held, 1⟩, ⟨34, 5, [.agg [.int .i64 x9.Time, .sl (n + 2) 1 0 (x1).length, .sl (n + 3) 1 0 (x3).length, .sl (n + 4) 1 0 (x5).length, .sl (n + 5) 1 0 (x7).length]], 1⟩]) rfl Try.call35 (F_belts_Pull_1_ok h10 (nd1 (Zq (Yt rfl) (Zq (Yt rfl) (Zq (Yt rfl) (Zq (Yt rfl) (Zq (Yr hq0) (Zq (Yr hq1) na0)))))) (nd1 (Zq (Yt rfl) (Zq (Yt rfl) (Zq (Yt rfl) (Zq (Yr hq0) (Zq (Yr hq1) na0))))) (nd1 (Zq (Yt rfl) (Zq (Yt rfl) (Zq (Yr hq0) (Zq (Yr hq1) na0)))) (nd1 (Zq (Yt rfl) (Zq (Yr hq0) (Zq (Yr hq1) na0))) (nd1 (Zq (Yr hq0) (Zq (Yr hq1) na0)) (nd1 (Zq (hB.ne 0 1 rfl rfl rfl) na0) (nd1 na0 nd0))))))) (rfl : (x1).length = _) (rfl : (x3).length = _) (rfl : (x5).length = _) (rfl : (x7).length = _) (Zw (Vr hn) rfl) (Zw (Vr hn) rfl) (Zw (Vr hn) rfl) (Zw (Vr hn) rfl) (Zw (Vr hn) rfl) (get_B hB rfl 0 rfl) (get_B hB rfl 1 rfl) (Xn (Vr hn) rfl)) (Yx (loc2 := [⟨34, 5, [.agg [.int .i64 p0.Time, .vs 1 (List.map (PV.int .i64) p0.States), .vs 1 (List.map (PV.int .i64) p0.Since), .vs 1 (List.map PV.bool p0.Pulled), .vs 1 (List.map PV.bool p0.Held)]], 0⟩, ⟨34, 5, [.agg [.int .i64 0, .nils, .nils, .nils, .nils]], 0⟩, ⟨3, 1, List.map (PV.int .i64) x1, 1⟩, ⟨3, 1, List.map (PV.int .i64) x3, 1⟩, ⟨4, 1, List.map PV.bool x5, 1⟩, ⟨4, 1, List.map PV.bool x7, 1⟩, ⟨34, 5, [.agg [.int .i64 x9.Time, .sl (n + 2) 1 0 (x1).length, .sl (n + 3) 1 0 (x3).length, .sl (n + 4) 1 0 (x5).length, .sl (n + 5) 1 0 (x7).length]], 1⟩]) (Vr hn) 6 rfl (Yx (loc2 := [⟨34, 5, [.agg [.int .i64 p0.Time, .vs 1 (List.map (PV.int .i64) p0.States), .vs 1 (List.map (PV.int .i64) p0.Since), .vs 1 (List.map PV.bool p0.Pulled), .vs 1 (List.map PV.bool p0.Held)]], 0⟩, ⟨34, 5, [.agg [.int .i64 0, .nils, .nils, .nils, .nils]], 0⟩, ⟨3, 1, List.map (PV.int .i64) x9.States, 1⟩, ⟨3, 1, List.map (PV.int .i64) x3, 1⟩, ⟨4, 1, List.map PV.bool x5, 1⟩, ⟨4, 1, List.map PV.bool x7, 1⟩, ⟨34, 5, [.agg [.int .i64 x9.Time, .sl (n + 2) 1 0 (x1).length, .sl (n + 3) 1 0 (x3).length, .sl (n + 4) 1 0 (x5).length, .sl (n + 5) 1 0 (x7).length]], 1⟩]) (Vr hn) 2 rfl (Yx (loc2 := [⟨34, 5, [.agg [.int .i64 p0.Time, .vs 1 (List.map (PV.int .i64) p0.States), .vs 1 (List.map (PV.int .i64) p0.Since), .vs 1 (List.map PV.bool p0.Pulled), .vs 1 (List.map PV.bool p0.Held)]], 0⟩, ⟨34, 5, [.agg [.int .i64 0, .nils, .nils, .nils, .nils]], 0⟩, ⟨3, 1, List.map (PV.int .i64) x9.States, 1⟩, ⟨3, 1, List.map (PV.int .i64) x9.Since, 1⟩, ⟨4, 1, List.map PV.bool x5, 1⟩, ⟨4, 1, List.map PV.bool x7, 1⟩, ⟨34, 5, [.agg [.int .i64 x9.Time, .sl (n + 2) 1 0 (x1).length, .sl (n + 3) 1 0 (x3).length, .sl (n + 4) 1 0 (x5).length, .sl (n + 5) 1 0 (x7).length]], 1⟩]) (Vr hn) 3 rfl (Yx (loc2 := [⟨34, 5, [.agg [.int .i64 p0.Time, .vs 1 (List.map (PV.int .i64) p0.States), .vs 1 (List.map (PV.int .i64) p0.Since), .vs 1 (List.map PV.bool p0.Pulled), .vs 1 (List.map PV.bool p0.Held)]], 0⟩, ⟨34, 5, [.agg [.int .i64 0, .nils, .nils, .nils, .nils]], 0⟩, ⟨3, 1, List.map (PV.int .i64) x9.States, 1⟩, ⟨3, 1, List.map (PV.int .i64) x9.Since, 1⟩, ⟨4, 1, List.map PV.bool x9.Pulled, 1⟩, ⟨4, 1, List.map PV.bool x7, 1⟩, ⟨34, 5, [.agg [.int .i64 x9.Time, .sl (n + 2) 1 0 (x1).length, .sl (n + 3) 1 0 (x3).length, .sl (n + 4) 1 0 (x5).length, .sl (n + 5) 1 0 (x7).length]], 1⟩]) (Vr hn) 4 rfl (Yx (loc2 := [⟨34, 5, [.agg [.int .i64 p0.Time, .vs 1 (List.map (PV.int .i64) p0.States), .vs 1 (List.map (PV.int .i64) p0.Since), .vs 1 (List.map PV.bool p0.Pulled), .vs 1 (List.map PV.bool p0.Held)]], 0⟩, ⟨34, 5, [.agg [.int .i64 0, .nils, .nils, .nils, .nils]], 0⟩, ⟨3, 1, List.map (PV.int .i64) x9.States, 1⟩, ⟨3, 1, List.map (PV.int .i64) x9.Since, 1⟩, ⟨4, 1, List.map PV.bool x9.Pulled, 1⟩, ⟨4, 1, List.map PV.bool x9.Held, 1⟩, ⟨34, 5, [.agg [.int .i64 x9.Time, .sl (n + 2) 1 0 (x1).length, .sl (n + 3) 1 0 (x3).length, .sl (n + 4) 1 0 (x5).length, .sl (n + 5) 1 0 (x7).length]], 1⟩]) (Vr hn) 5 rfl (Wh (ps0' := [(q0, ⟨27, 1, [.vs 2 (List.map T_Belt.enc pc10)], w0⟩), (q1, ⟨3, 1, [.int .i64 pc11], w1⟩)]) hB rfl 0 rfl (ltObjN hn ⟨.vs _ _, trivial⟩) rfl (Wh (ps0' := [(q0, ⟨27, 1, [.vs 2 (List.map T_Belt.enc pc10)], w0⟩), (q1, ⟨3, 1, [.int .i64 pc11], w1⟩)]) hB rfl 1 rfl (ltObjN hn ⟨.int _ _, trivial⟩) rfl Wl))))))) rfl) rfl ?_
  refine Vg ?_
  refine Vi ?_
  refine Ve ?_
  refine Va (Vu (ds := [.int .i64 x9.Time, .sl (n + 2) 1 0 (x1).length, .sl (n + 3) 1 0 (x3).length, .sl (n + 4) 1 0 (x5).length, .sl (n + 5) 1 0 (x7).length]) rfl (Vd (Vr hn) rfl) rfl ta_34 ts_34 rfl rfl rfl) rfl ?_
  refine Vk (Vx (p := .agg [.int .i64 x9.Time, .sl (n + 2) 1 0 (x1).length, .sl (n + 3) 1 0 (x3).length, .sl (n + 4) 1 0 (x5).length, .sl (n + 5) 1 0 (x7).length]) (e' := .agg [.int .i64 x9.Time, .sl (n + 2) 1 0 (x1).length, .sl (n + 3) 1 0 (x3).length, .sl (n + 4) 1 0 (x5).length, .sl (n + 5) 1 0 (x7).length]) rfl (Vd (Vr hn) rfl) rfl rfl ts_34 rfl (Yc rfl) rfl (Nat.le_of_ble_eq_true rfl) rfl (Xr (Vr hn) rfl)) rfl ?_
  refine Vg ?_
  refine Xb ?_
  obtain rfl := Option.some.inj hF
  refine Zy ?_
  refine Ya.trans (Xp (E' := [(4, .ptr (n + 1) 0 0 0)]) (loc1 := [⟨34, 5, [.agg [.int .i64 p0.Time, .vs 1 (List.map (PV.int .i64) p0.States), .vs 1 (List.map (PV.int .i64) p0.Since), .vs 1 (List.map PV.bool p0.Pulled), .vs 1 (List.map PV.bool p0.Held)]], 0⟩, ⟨34, 5, [.agg [.int .i64 x9.Time, .sl (n + 2) 1 0 (x1).length, .sl (n + 3) 1 0 (x3).length, .sl (n + 4) 1 0 (x5).length, .vs 1 (List.map PV.bool x9.Held)]], 0⟩, ⟨3, 1, List.map (PV.int .i64) x9.States, 1⟩, ⟨3, 1, List.map (PV.int .i64) x9.Since, 1⟩, ⟨4, 1, List.map PV.bool x9.Pulled, 1⟩, ⟨4, 1, [], 1 + 1⟩, ⟨34, 5, [.agg [.int .i64 x9.Time, .sl (n + 2) 1 0 (x1).length, .sl (n + 3) 1 0 (x3).length, .sl (n + 4) 1 0 (x5).length, .vs 1 (List.map PV.bool x9.Held)]], 1⟩]) (Vr hn) 5 rfl (Yh (fun _ => .bool _)) ⟨Vl rfl, trivial⟩ ⟨.refl _, Yq ⟨Vl rfl, Vl rfl, Vl rfl, Vl rfl, Zi rfl rfl rfl (Vy (F_belts_Pull_1_len h10 (rfl : (x1).length = _) (rfl : (x3).length = _) (rfl : (x5).length = _) (rfl : (x7).length = _)).2.2.2.1), trivial⟩, .refl _, .refl _, .refl _, .refl _, Yq ⟨Vl rfl, Vl rfl, Vl rfl, Vl rfl, Zi rfl rfl rfl (Vy (F_belts_Pull_1_len h10 (rfl : (x1).length = _) (rfl : (x3).length = _) (rfl : (x5).length = _) (rfl : (x7).length = _)).2.2.2.1), trivial⟩, trivial⟩) ?_
  exact Vv (Vr hn) [(2, 1), (3, 1), (4, 1), (1, 0)] (by decide) ⟨Yo 3 1 rfl rfl, trivial⟩ ⟨⟨_, rfl, rfl, .same _ _ _ _ (Vh (fun _ => .int _ _))⟩, ⟨_, rfl, rfl, .same _ _ _ _ (Vh (fun _ => .int _ _))⟩, ⟨_, rfl, rfl, .same _ _ _ _ (Vh (fun _ => .bool _))⟩, ⟨_, rfl, rfl, .agg _ _ _ _ _ ⟨Vs rfl (.int _ _), Xu 0 2 rfl (congrArg (PV.sl _ _ 0) (F_belts_Pull_1_len h10 (rfl : (x1).length = _) (rfl : (x3).length = _) (rfl : (x5).length = _) (rfl : (x7).length = _)).1), Xu 1 3 rfl (congrArg (PV.sl _ _ 0) (F_belts_Pull_1_len h10 (rfl : (x1).length = _) (rfl : (x3).length = _) (rfl : (x5).length = _) (rfl : (x7).length = _)).2.1), Xu 2 4 rfl (congrArg (PV.sl _ _ 0) (F_belts_Pull_1_len h10 (rfl : (x1).length = _) (rfl : (x3).length = _) (rfl : (x5).length = _) (rfl : (x7).length = _)).2.2.1), Vs rfl (.vs _ _), trivial⟩⟩, trivial⟩
 ·rintro _ _ _ _ ⟨he, hw⟩
  refine ⟨_, _, _, hw, ?_⟩
  exact Zj (Vr hn) 3 rfl (Nat.le_of_ble_eq_true rfl) he [.agg [.int .i64 r.Time, .sl (n + 0) 0 0 (r.States).length, .sl (n + 1) 0 0 (r.Since).length, .sl (n + 2) 0 0 (r.Pulled).length, .vs 1 (List.map PV.bool r.Held)]] ⟨Vu rfl (Vd (Vr hn) rfl) rfl ta_34 ts_34 rfl rfl rfl, trivial⟩ ((Xx ⟨.int _ _, .sl _ _ _ _ (Zr rfl), .sl _ _ _ _ (Zr rfl), .sl _ _ _ _ (Zr rfl), .vs _ _, trivial⟩)) ⟨Vh (fun _ => .int _ _), Vh (fun _ => .int _ _), Vh (fun _ => .bool _), trivial⟩ ⟨rfl, rfl⟩

theorem F_belts_done__belts_Pull_1_ok {p0 : T_Line} {pc10 : List T_Belt} {pc11 : Int} {r : T_Line} (hF : F_belts_done__belts_Pull_1 p0 pc10 pc11 = some r) {low : List AObj} {q0 q1 w0 w1 : Nat} (hnd : [q0, q1].Nodup) (hq0 : low[q0]? = some ⟨27, 1, [.vs 2 (List.map T_Belt.enc pc10)], w0⟩) (hq1 : low[q1]? = some ⟨3, 1, [.int .i64 pc11], w1⟩) {n : Nat} (hn : low.length = n) :
    Yv Try.prog 31 [.agg [.int .i64 p0.Time, .vs 1 (List.map (PV.int .i64) p0.States), .vs 1 (List.map (PV.int .i64) p0.Since), .vs 1 (List.map PV.bool p0.Pulled), .vs 1 (List.map PV.bool p0.Held)], .fn 35 [] [.ptr q0 w0 0 0, .ptr q1 w1 0 0]] low fun x low' => x = .agg [.int .i64 r.Time, .sl (n + 0) 0 0 (r.States).length, .sl (n + 1) 0 0 (r.Since).length, .sl (n + 2) 0 0 (r.Pulled).length, .vs 1 (List.map PV.bool r.Held)] ∧ low' = setL low [(q0, ⟨27, 1, [.vs 2 (List.map T_Belt.enc pc10)], w0⟩), (q1, ⟨3, 1, [.int .i64 pc11], w1⟩)] ++ [⟨3, 1, List.map (PV.int .i64) r.States, 0⟩, ⟨3, 1, List.map (PV.int .i64) r.Since, 0⟩, ⟨4, 1, List.map PV.bool r.Pulled, 0⟩] := by
  obtain ⟨h1, h2⟩ := Wk (ps := [(q0, ⟨27, 1, [.vs 2 (List.map T_Belt.enc pc10)], w0⟩), (q1, ⟨3, 1, [.int .i64 pc11], w1⟩)]) hnd (Zx hq0 (Zx hq1 bor0))
  exact Zz h1 (F_belts_done__belts_Pull_1_ok0 hF h2 hn)

theorem F_belts_Pull_ok {p0 : List T_Belt} {p1 : T_Line} {p2 : Int} {r : T_Line × Int} (hF : F_belts_Pull p0 p1 p2 = some r) (low : List AObj) {n : Nat} (hn : low.length = n) :
    Yv Try.prog 15 [.vs 2 (List.map T_Belt.enc p0), .agg [.int .i64 p1.Time, .vs 1 (List.map (PV.int .i64) p1.States), .vs 1 (List.map (PV.int .i64) p1.Since), .vs 1 (List.map PV.bool p1.Pulled), .vs 1 (List.map PV.bool p1.Held)], .int .i64 p2] low fun x low' => x = .tup [.agg [.int .i64 r.1.Time, .vs 1 (List.map (PV.int .i64) r.1.States), .vs 1 (List.map (PV.int .i64) r.1.Since), .vs 1 (List.map PV.bool r.1.Pulled), .vs 1 (List.map PV.bool r.1.Held)], .int .i64 r.2] ∧ low' = low ++ [] := by
 refine Xc (nt := 20) (rs := [.cell 6 34, .tmp 7]) Try.func15 rfl rfl (Nat.le_of_ble_eq_true rfl) rfl ?_
 refine Vw (Q' := FnE (fun E' lw lc => Ya E' lw lc [(6, .ptr (n + 0) 0 0 0), (7, .int .i64 r.2)] low [⟨34, 5, [.agg [.int .i64 r.1.Time, .vs 1 (List.map (PV.int .i64) r.1.States), .vs 1 (List.map (PV.int .i64) r.1.Since), .vs 1 (List.map PV.bool r.1.Pulled), .vs 1 (List.map PV.bool r.1.Held)]], 0⟩])) ?_ ?_
 ·unfold F_belts_Pull at hF
  refine Vi ?_
  refine Ve ?_
  refine Vk (Yw hn rfl (v := .vs 2 (List.map T_Belt.enc p0)) rfl rfl (Nat.succ_pos _) rfl rfl) rfl ?_
  refine Vk (Yw hn rfl (v := .agg [.int .i64 p1.Time, .vs 1 (List.map (PV.int .i64) p1.States), .vs 1 (List.map (PV.int .i64) p1.Since), .vs 1 (List.map PV.bool p1.Pulled), .vs 1 (List.map PV.bool p1.Held)]) rfl rfl (Nat.succ_pos _) rfl rfl) rfl ?_
  refine Vk (Yw hn rfl (v := .int .i64 p2) rfl rfl (Nat.succ_pos _) rfl rfl) rfl ?_
  refine Vk (Xe hn rfl tz_34 rfl rfl (Nat.succ_pos _) rfl) rfl ?_
  refine Va (Xa rfl) rfl ?_
  refine Vg ?_
  refine Vi ?_
  refine Vi ?_
  refine Ve ?_
  obtain ⟨x1, h2, hF⟩ := Ys hF
  refine Va (Vf rfl (Vd hn rfl) rfl ta_27 rfl) rfl ?_
  refine Va (Vu (ds := [.int .i64 p1.Time, .vs 1 (List.map (PV.int .i64) p1.States), .vs 1 (List.map (PV.int .i64) p1.Since), .vs 1 (List.map PV.bool p1.Pulled), .vs 1 (List.map PV.bool p1.Held)]) rfl (Vd hn rfl) rfl ta_34 ts_34 rfl rfl rfl) rfl ?_
  refine Va (Vf rfl (Vd hn rfl) rfl ta_3 rfl) rfl ?_
  refine Vk (Xk rfl Try.call30 (F_belts_checked_ok h2 _)) rfl ?_
  refine Va (Xa rfl) rfl ?_
  refine Vg ?_
  refine Vi ?_
  refine Ve ?_
  refine Va (Vj rfl) rfl ?_
  refine Va (Zb rfl rfl) rfl ?_
  refine Vg ?_
  refine Xj rfl (fun c3 => ?_) (fun c3 => ?_)
  ·have hF := Yl c3 hF
   refine Vi ?_
   refine Ve ?_
   refine Va (Vu (ds := [.int .i64 p1.Time, .vs 1 (List.map (PV.int .i64) p1.States), .vs 1 (List.map (PV.int .i64) p1.Since), .vs 1 (List.map PV.bool p1.Pulled), .vs 1 (List.map PV.bool p1.Held)]) rfl (Vd hn rfl) rfl ta_34 ts_34 rfl rfl rfl) rfl ?_
   refine Va (Vj rfl) rfl ?_
   refine Vk (Vx (p := .agg [.int .i64 p1.Time, .vs 1 (List.map (PV.int .i64) p1.States), .vs 1 (List.map (PV.int .i64) p1.Since), .vs 1 (List.map PV.bool p1.Pulled), .vs 1 (List.map PV.bool p1.Held)]) (e' := .agg [.int .i64 p1.Time, .vs 1 (List.map (PV.int .i64) p1.States), .vs 1 (List.map (PV.int .i64) p1.Since), .vs 1 (List.map PV.bool p1.Pulled), .vs 1 (List.map PV.bool p1.Held)]) rfl (Vd hn rfl) rfl rfl ts_34 rfl (Yc rfl) rfl (Nat.le_of_ble_eq_true rfl) rfl (Xr hn rfl)) rfl ?_
   refine Va (Xa rfl) rfl ?_
   refine Vg ?_
   refine Xb ?_
   obtain rfl := Option.some.inj hF
   refine Zy ?_
   exact Vv hn [(3, 0)] (by decide) ⟨Yo 0 3 rfl rfl, Vs rfl (.int _ _), trivial⟩ ⟨⟨_, rfl, rfl, .same _ _ _ _ (Xt ⟨Xx ⟨.int _ _, .vs _ _, .vs _ _, .vs _ _, .vs _ _, trivial⟩, trivial⟩)⟩, trivial⟩
  ·have hF := Ym c3 hF
   refine Xq ?_
   refine Vi ?_
   refine Ve ?_
   obtain ⟨x4, h5, hF⟩ := Ys hF
   refine Va (Vu (ds := [.int .i64 p1.Time, .vs 1 (List.map (PV.int .i64) p1.States), .vs 1 (List.map (PV.int .i64) p1.Since), .vs 1 (List.map PV.bool p1.Pulled), .vs 1 (List.map PV.bool p1.Held)]) rfl (Vd hn rfl) rfl ta_34 ts_34 rfl rfl rfl) rfl ?_
   refine Va (rd_makeFn rfl) rfl ?_
   refine Vk (Wc (ps := [((n + 0), ⟨27, 1, [.vs 2 (List.map T_Belt.enc p0)], 0⟩), ((n + 2), ⟨3, 1, [.int .i64 p2], 0⟩)]) (r := .agg [.int .i64 x4.Time, .sl (n + 4) 0 0 (x4.States).length, .sl (n + 5) 0 0 (x4.Since).length, .sl (n + 6) 0 0 (x4.Pulled).length, .vs 1 (List.map PV.bool x4.Held)]) (os := [⟨3, 1, List.map (PV.int .i64) x4.States, 0⟩, ⟨3, 1, List.map (PV.int .i64) x4.Since, 0⟩, ⟨4, 1, List.map PV.bool x4.Pulled, 0⟩]) (low1 := low) (loc1 := [⟨27, 1, [.vs 2 (List.map T_Belt.enc p0)], 0⟩, ⟨34, 5, [.agg [.int .i64 p1.Time, .vs 1 (List.map (PV.int .i64) p1.States), .vs 1 (List.map (PV.int .i64) p1.Since), .vs 1 (List.map PV.bool p1.Pulled), .vs 1 (List.map PV.bool p1.Held)]], 0⟩, ⟨3, 1, [.int .i64 p2], 0⟩, ⟨34, 5, [.agg [.int .i64 0, .nils, .nils, .nils, .nils]], 0⟩]) (loc2 := [⟨27, 1, [.vs 2 (List.map T_Belt.enc p0)], 0⟩, ⟨34, 5, [.agg [.int .i64 p1.Time, .vs 1 (List.map (PV.int .i64) p1.States), .vs 1 (List.map (PV.int .i64) p1.Since), .vs 1 (List.map PV.bool p1.Pulled), .vs 1 (List.map PV.bool p1.Held)]], 0⟩, ⟨3, 1, [.int .i64 p2], 0⟩, ⟨34, 5, [.agg [.int .i64 0, .nils, .nils, .nils, .nils]], 0⟩, ⟨3, 1, List.map (PV.int .i64) x4.States, 0⟩, ⟨3, 1, List.map (PV.int .i64) x4.Since, 0⟩, ⟨4, 1, List.map PV.bool x4.Pulled, 0⟩]) rfl Try.call31 (F_belts_done__belts_Pull_1_ok h5 (nd1 (Zq (Yt rfl) na0) (nd1 na0 nd0)) (Zw hn rfl) (Zw hn rfl) (Xn hn rfl)) (Yx (loc2 := [⟨27, 1, [.vs 2 (List.map T_Belt.enc p0)], 0⟩, ⟨34, 5, [.agg [.int .i64 p1.Time, .vs 1 (List.map (PV.int .i64) p1.States), .vs 1 (List.map (PV.int .i64) p1.Since), .vs 1 (List.map PV.bool p1.Pulled), .vs 1 (List.map PV.bool p1.Held)]], 0⟩, ⟨3, 1, [.int .i64 p2], 0⟩, ⟨34, 5, [.agg [.int .i64 0, .nils, .nils, .nils, .nils]], 0⟩]) hn 0 rfl (Yx (loc2 := [⟨27, 1, [.vs 2 (List.map T_Belt.enc p0)], 0⟩, ⟨34, 5, [.agg [.int .i64 p1.Time, .vs 1 (List.map (PV.int .i64) p1.States), .vs 1 (List.map (PV.int .i64) p1.Since), .vs 1 (List.map PV.bool p1.Pulled), .vs 1 (List.map PV.bool p1.Held)]], 0⟩, ⟨3, 1, [.int .i64 p2], 0⟩, ⟨34, 5, [.agg [.int .i64 0, .nils, .nils, .nils, .nils]], 0⟩]) hn 2 rfl Wl)) rfl) rfl ?_
   refine Vk (Vx (p := .agg [.int .i64 x4.Time, .sl (n + 4) 0 0 (x4.States).length, .sl (n + 5) 0 0 (x4.Since).length, .sl (n + 6) 0 0 (x4.Pulled).length, .vs 1 (List.map PV.bool x4.Held)]) (e' := .agg [.int .i64 x4.Time, .sl (n + 4) 0 0 (x4.States).length, .sl (n + 5) 0 0 (x4.Since).length, .sl (n + 6) 0 0 (x4.Pulled).length, .vs 1 (List.map PV.bool x4.Held)]) rfl (Vd hn rfl) rfl rfl ts_34 rfl (Yc rfl) rfl (Nat.le_of_ble_eq_true rfl) rfl (Xr hn rfl)) rfl ?_
   refine Va (Xa rfl) rfl ?_
   refine Vg ?_
   refine Xb ?_
   obtain rfl := Option.some.inj hF
   refine Zy ?_
   refine Ya.trans (Xp (E' := [(6, .ptr (n + 3) 0 0 0), (7, .int .i64 0)]) (loc1 := [⟨27, 1, [.vs 2 (List.map T_Belt.enc p0)], 0⟩, ⟨34, 5, [.agg [.int .i64 p1.Time, .vs 1 (List.map (PV.int .i64) p1.States), .vs 1 (List.map (PV.int .i64) p1.Since), .vs 1 (List.map PV.bool p1.Pulled), .vs 1 (List.map PV.bool p1.Held)]], 0⟩, ⟨3, 1, [.int .i64 p2], 0⟩, ⟨34, 5, [.agg [.int .i64 x4.Time, .vs 1 (List.map (PV.int .i64) x4.States), .sl (n + 5) 0 0 (x4.Since).length, .sl (n + 6) 0 0 (x4.Pulled).length, .vs 1 (List.map PV.bool x4.Held)]], 0⟩, ⟨3, 1, [], 0 + 1⟩, ⟨3, 1, List.map (PV.int .i64) x4.Since, 0⟩, ⟨4, 1, List.map PV.bool x4.Pulled, 0⟩]) hn 4 rfl (Yh (fun _ => .int _ _)) ⟨Vl rfl, Vl rfl, trivial⟩ ⟨.refl _, .refl _, .refl _, Yq ⟨Vl rfl, Zi rfl rfl rfl (Vy rfl), Vl rfl, Vl rfl, Vl rfl, trivial⟩, .refl _, .refl _, .refl _, trivial⟩) ?_
   refine Ya.trans (Xp (E' := [(6, .ptr (n + 3) 0 0 0), (7, .int .i64 0)]) (loc1 := [⟨27, 1, [.vs 2 (List.map T_Belt.enc p0)], 0⟩, ⟨34, 5, [.agg [.int .i64 p1.Time, .vs 1 (List.map (PV.int .i64) p1.States), .vs 1 (List.map (PV.int .i64) p1.Since), .vs 1 (List.map PV.bool p1.Pulled), .vs 1 (List.map PV.bool p1.Held)]], 0⟩, ⟨3, 1, [.int .i64 p2], 0⟩, ⟨34, 5, [.agg [.int .i64 x4.Time, .vs 1 (List.map (PV.int .i64) x4.States), .vs 1 (List.map (PV.int .i64) x4.Since), .sl (n + 6) 0 0 (x4.Pulled).length, .vs 1 (List.map PV.bool x4.Held)]], 0⟩, ⟨3, 1, [], 0 + 1⟩, ⟨3, 1, [], 0 + 1⟩, ⟨4, 1, List.map PV.bool x4.Pulled, 0⟩]) hn 5 rfl (Yh (fun _ => .int _ _)) ⟨Vl rfl, Vl rfl, trivial⟩ ⟨.refl _, .refl _, .refl _, Yq ⟨Vl rfl, Vl rfl, Zi rfl rfl rfl (Vy rfl), Vl rfl, Vl rfl, trivial⟩, .refl _, .refl _, .refl _, trivial⟩) ?_
   refine Ya.trans (Xp (E' := [(6, .ptr (n + 3) 0 0 0), (7, .int .i64 0)]) (loc1 := [⟨27, 1, [.vs 2 (List.map T_Belt.enc p0)], 0⟩, ⟨34, 5, [.agg [.int .i64 p1.Time, .vs 1 (List.map (PV.int .i64) p1.States), .vs 1 (List.map (PV.int .i64) p1.Since), .vs 1 (List.map PV.bool p1.Pulled), .vs 1 (List.map PV.bool p1.Held)]], 0⟩, ⟨3, 1, [.int .i64 p2], 0⟩, ⟨34, 5, [.agg [.int .i64 x4.Time, .vs 1 (List.map (PV.int .i64) x4.States), .vs 1 (List.map (PV.int .i64) x4.Since), .vs 1 (List.map PV.bool x4.Pulled), .vs 1 (List.map PV.bool x4.Held)]], 0⟩, ⟨3, 1, [], 0 + 1⟩, ⟨3, 1, [], 0 + 1⟩, ⟨4, 1, [], 0 + 1⟩]) hn 6 rfl (Yh (fun _ => .bool _)) ⟨Vl rfl, Vl rfl, trivial⟩ ⟨.refl _, .refl _, .refl _, Yq ⟨Vl rfl, Vl rfl, Vl rfl, Zi rfl rfl rfl (Vy rfl), Vl rfl, trivial⟩, .refl _, .refl _, .refl _, trivial⟩) ?_
   exact Vv hn [(3, 0)] (by decide) ⟨Yo 0 3 rfl rfl, Vs rfl (.int _ _), trivial⟩ ⟨⟨_, rfl, rfl, .same _ _ _ _ (Xt ⟨Xx ⟨.int _ _, .vs _ _, .vs _ _, .vs _ _, .vs _ _, trivial⟩, trivial⟩)⟩, trivial⟩
 ·rintro _ _ _ _ ⟨he, hw⟩
  refine ⟨_, _, _, hw, ?_⟩
  exact Zj hn 0 rfl (Nat.le_of_ble_eq_true rfl) he [.agg [.int .i64 r.1.Time, .vs 1 (List.map (PV.int .i64) r.1.States), .vs 1 (List.map (PV.int .i64) r.1.Since), .vs 1 (List.map PV.bool r.1.Pulled), .vs 1 (List.map PV.bool r.1.Held)], .int .i64 r.2] ⟨Vu rfl (Vd hn rfl) rfl ta_34 ts_34 rfl rfl rfl, rfl, trivial⟩ ((lt_tup ⟨(Xx ⟨.int _ _, .vs _ _, .vs _ _, .vs _ _, .vs _ _, trivial⟩), .int _ _, trivial⟩)) trivial ⟨rfl, rfl⟩

theorem F_belts_Above_1_ok0 {p0 : Int} {p1 : List T_Belt} {p2 : Int} {r : Bool} (hF : F_belts_Above_1 p0 p1 p2 = some r) {low0 : List AObj} {q0 q1 w0 w1 : Nat} (hB : Bor low0 [q0, q1]) {n : Nat} (hn : low0.length = n) :
    Yv Try.prog 38 [.int .i64 p0, .ptr q0 w0 0 0, .ptr q1 w1 0 0] (setL low0 [(q0, ⟨27, 1, [.vs 2 (List.map T_Belt.enc p1)], w0⟩), (q1, ⟨3, 1, [.int .i64 p2], w1⟩)]) fun x low' => x = .bool r ∧ low' = setL low0 [(q0, ⟨27, 1, [.vs 2 (List.map T_Belt.enc p1)], w0⟩), (q1, ⟨3, 1, [.int .i64 p2], w1⟩)] ++ [] := by
 refine Xc (nt := 9) (rs := [.tmp 4]) Try.func38 rfl rfl (Nat.le_of_ble_eq_true rfl) rfl ?_
 have hq0 : q0 < n := hB.ltN hn 0 rfl
 have hq1 : q1 < n := hB.ltN hn 1 rfl
 refine Vw (Q' := FnE (fun E' lw lc => Ya E' lw lc [(4, .bool r)] (setL low0 [(q0, ⟨27, 1, [.vs 2 (List.map T_Belt.enc p1)], w0⟩), (q1, ⟨3, 1, [.int .i64 p2], w1⟩)]) [])) ?_ ?_
 ·unfold F_belts_Above_1 at hF
  refine Vi ?_
  refine Ve ?_
  refine Va (Xy rfl) rfl ?_
  refine Vg ?_
  refine Vi ?_
  refine Ve ?_
  obtain ⟨x1, h2, hF⟩ := Ys hF
  refine Va (Vf rfl (Za hB rfl 0 rfl) rfl ta_27 rfl) rfl ?_
  refine Va (Vj rfl) rfl ?_
  refine Va (Vf rfl (Za hB rfl 1 rfl) rfl ta_3 rfl) rfl ?_
  refine Vk (Xk rfl Try.call39 (F_belts_throws_ok h2 _)) rfl ?_
  refine Va (Xy rfl) rfl ?_
  refine Vg ?_
  refine Xb ?_
  obtain rfl := Option.some.inj hF
  refine Zy ?_
  exact Vq ⟨rfl, trivial⟩
 ·rintro _ _ _ _ ⟨he, hw⟩
  refine ⟨_, _, _, hw, ?_⟩
  exact Ze he [.bool r] ⟨rfl, trivial⟩ (.bool _) ⟨rfl, (List.append_nil _).symm⟩

theorem F_belts_Above_1_ok {p0 : Int} {p1 : List T_Belt} {p2 : Int} {r : Bool} (hF : F_belts_Above_1 p0 p1 p2 = some r) {low : List AObj} {q0 q1 w0 w1 : Nat} (hnd : [q0, q1].Nodup) (hq0 : low[q0]? = some ⟨27, 1, [.vs 2 (List.map T_Belt.enc p1)], w0⟩) (hq1 : low[q1]? = some ⟨3, 1, [.int .i64 p2], w1⟩) {n : Nat} (hn : low.length = n) :
    Yv Try.prog 38 [.int .i64 p0, .ptr q0 w0 0 0, .ptr q1 w1 0 0] low fun x low' => x = .bool r ∧ low' = setL low [(q0, ⟨27, 1, [.vs 2 (List.map T_Belt.enc p1)], w0⟩), (q1, ⟨3, 1, [.int .i64 p2], w1⟩)] ++ [] := by
  obtain ⟨h1, h2⟩ := Wk (ps := [(q0, ⟨27, 1, [.vs 2 (List.map T_Belt.enc p1)], w0⟩), (q1, ⟨3, 1, [.int .i64 p2], w1⟩)]) hnd (Zx hq0 (Zx hq1 bor0))
  exact Zz h1 (F_belts_Above_1_ok0 hF h2 hn)

theorem F_lists_Where__belts_Above_1_ok0 {p0 : Int} {pc10 : List T_Belt} {pc11 : Int} {r : List Int} (hF : F_lists_Where__belts_Above_1 p0 pc10 pc11 = some r) {low0 : List AObj} {q0 q1 w0 w1 : Nat} (hB : Bor low0 [q0, q1]) {n : Nat} (hn : low0.length = n) :
    Yv Try.prog 37 [.int .i64 p0, .fn 38 [] [.ptr q0 w0 0 0, .ptr q1 w1 0 0]] (setL low0 [(q0, ⟨27, 1, [.vs 2 (List.map T_Belt.enc pc10)], w0⟩), (q1, ⟨3, 1, [.int .i64 pc11], w1⟩)]) fun x low' => x = .vs 1 (List.map (PV.int .i64) r) ∧ low' = setL low0 [(q0, ⟨27, 1, [.vs 2 (List.map T_Belt.enc pc10)], w0⟩), (q1, ⟨3, 1, [.int .i64 pc11], w1⟩)] ++ [] := by
 refine Xc (nt := 20) (rs := [.tmp 4]) Try.func37 rfl rfl (Nat.le_of_ble_eq_true rfl) rfl ?_
 have hq0 : q0 < n := hB.ltN hn 0 rfl
 have hq1 : q1 < n := hB.ltN hn 1 rfl
 refine Vw (Q' := FnE (fun E' lw lc => Ya E' lw lc [(4, .vs 1 (List.map (PV.int .i64) r))] (setL low0 [(q0, ⟨27, 1, [.vs 2 (List.map T_Belt.enc pc10)], w0⟩), (q1, ⟨3, 1, [.int .i64 pc11], w1⟩)]) [])) ?_ ?_
 ·unfold F_lists_Where__belts_Above_1 at hF
  refine Vi ?_
  refine Ve ?_
  refine Va (rd_nv (sz := 1) (rd_asN rfl)) rfl ?_
  refine Vg ?_
  refine Vi ?_
  refine Ve ?_
  refine Vk (vef_nilsN (Vr hn) rfl 3 1 (Nat.succ_pos _) (rd_asN rfl)) rfl ?_
  refine Vg ?_
  refine Vi ?_
  refine Vi ?_
  refine Ve ?_
  refine Va (Vj rfl) rfl ?_
  refine Va (Vj rfl) rfl ?_
  refine Vg ?_
  refine Yk ?_
  obtain ⟨o2, ho2, hF⟩ := Ys hF
  refine Vw (Zu (F_lists_Where__belts_Above_1_L1 p0 pc10 pc11) (fun s1 E' lw lc => Ya E' lw lc [(1, .fn 38 [] [.ptr q0 w0 0 0, .ptr q1 w1 0 0]), (5, .sl (n + 0) 0 0 (s1.2).length), (7, .int .i64 p0), (8, .int .i64 s1.1)] (setL low0 [(q0, ⟨27, 1, [.vs 2 (List.map T_Belt.enc pc10)], w0⟩), (q1, ⟨3, 1, [.int .i64 pc11], w1⟩)]) [⟨3, 1, List.map (PV.int .i64) s1.2, 0⟩]) (fun o2 => OnlyE (.exit 0) (fun E' lw lc => Ya E' lw lc [(5, .sl (n + 0) 0 0 (o2).length)] (setL low0 [(q0, ⟨27, 1, [.vs 2 (List.map T_Belt.enc pc10)], w0⟩), (q1, ⟨3, 1, [.int .i64 pc11], w1⟩)]) [⟨3, 1, List.map (PV.int .i64) o2, 0⟩])) ho2 ?_ (by rintro _ _ _ _ ⟨h, _⟩ <;> cases h) ?_) ?_
  ·exact Vq ⟨rfl, rfl, rfl, rfl, trivial⟩
  ·rintro s1 os1 _ _ _ hF hw
   unfold F_lists_Where__belts_Above_1_L1 at hF
   refine Ye hw ?_
   refine Vi ?_
   refine Ve ?_
   refine Va (Zo rfl rfl) rfl ?_
   refine Vg ?_
   refine Vi ?_
   refine Xj rfl (fun c3 => ?_) (fun c3 => ?_)
   ·have hF := Yl c3 hF
    refine Xq ?_
    refine Vi ?_
    obtain ⟨o4, ho4, hF⟩ := Ys hF
    refine Vw (Q' := (fun o4 => OnlyE .normal (fun E' lw lc => Ya E' lw lc [(1, .fn 38 [] [.ptr q0 w0 0 0, .ptr q1 w1 0 0]), (5, .sl (n + 0) 0 0 (o4).length), (7, .int .i64 p0), (8, .int .i64 s1.1)] (setL low0 [(q0, ⟨27, 1, [.vs 2 (List.map T_Belt.enc pc10)], w0⟩), (q1, ⟨3, 1, [.int .i64 pc11], w1⟩)]) [⟨3, 1, List.map (PV.int .i64) o4, 0⟩])) o4) ?_ ?_
    ·replace hF := ho4
     refine Yk ?_
     refine Vi ?_
     refine Ve ?_
     refine Va (Vj rfl) rfl ?_
     refine Va (Xa rfl) rfl ?_
     refine Vg ?_
     refine Vi ?_
     refine Ve ?_
     obtain ⟨x5, h6, hF⟩ := Ys hF
     refine Va (rd_mvF rfl) rfl ?_
     refine Va (Vj rfl) rfl ?_
     refine Vk (Wc (ps := [(q0, ⟨27, 1, [.vs 2 (List.map T_Belt.enc pc10)], w0⟩), (q1, ⟨3, 1, [.int .i64 pc11], w1⟩)]) (r := .bool x5) (os := []) (low1 := (setL low0 [(q0, ⟨27, 1, [.vs 2 (List.map T_Belt.enc pc10)], w0⟩), (q1, ⟨3, 1, [.int .i64 pc11], w1⟩)])) (loc1 := [⟨3, 1, List.map (PV.int .i64) s1.2, 0⟩]) (loc2 := [⟨3, 1, List.map (PV.int .i64) s1.2, 0⟩]) rfl Try.call38 (F_belts_Above_1_ok h6 (nd1 (Zq (hB.ne 0 1 rfl rfl rfl) na0) (nd1 na0 nd0)) (get_B hB rfl 0 rfl) (get_B hB rfl 1 rfl) (Xn (Vr hn) rfl)) (Wh (ps0' := [(q0, ⟨27, 1, [.vs 2 (List.map T_Belt.enc pc10)], w0⟩), (q1, ⟨3, 1, [.int .i64 pc11], w1⟩)]) hB rfl 0 rfl (ltObjN hn ⟨.vs _ _, trivial⟩) rfl (Wh (ps0' := [(q0, ⟨27, 1, [.vs 2 (List.map T_Belt.enc pc10)], w0⟩), (q1, ⟨3, 1, [.int .i64 pc11], w1⟩)]) hB rfl 1 rfl (ltObjN hn ⟨.int _ _, trivial⟩) rfl Wl)) rfl) rfl ?_
     refine Vg ?_
     refine Xj rfl (fun c7 => ?_) (fun c7 => ?_)
     ·have hF := Yl c7 hF
      refine Ve ?_
      obtain ⟨x8, h9, hF⟩ := Ys hF
      refine Va (rd_mvL rfl) rfl ?_
      refine Va (Vj rfl) rfl ?_
      refine Vk (vef_litF (es := List.map (PV.int .i64) [s1.1]) ⟨rfl, rfl, trivial⟩ rfl rfl (nt_all rfl) te_22 ts_3 tz_3 rfl rfl (Nat.succ_pos _) (by decide) (Yh (fun _ => .int _ _))) rfl ?_
      refine Vk (vef_apL (f := (PV.int .i64)) (l := s1.2) (ys := [s1.1]) rfl rfl (Vd (Vr hn) rfl) rfl (src_vs rfl) te_22 ts_3 tb_3 (by decide) tz_3 rfl h9 (Xr (Vr hn) rfl)) rfl ?_
      refine Va (rd_asL rfl) rfl ?_
      refine Vg ?_
      obtain rfl := Option.some.inj hF
      refine Xv ?_
      exact Vv (Vr hn) [(0, 0 + 1)] (by decide) ⟨Vs rfl (lt_fn ⟨.ptr _ _ _ _ hq0, .ptr _ _ _ _ hq1, trivial⟩), Xu 0 0 rfl rfl, Vs rfl (.int _ _), Vs rfl (.int _ _), trivial⟩ ⟨⟨_, rfl, rfl, .same _ _ _ _ (Vh (fun _ => .int _ _))⟩, trivial⟩
     ·have hF := Ym c7 hF
      refine Xq ?_
      obtain rfl := Option.some.inj hF
      refine Xv ?_
      exact Vq ⟨rfl, rfl, rfl, rfl, trivial⟩
    ·rintro _ _ _ _ ⟨rfl, hw⟩
     refine ⟨_, _, _, hw, ?_⟩
     refine Ve ?_
     refine Va (rd_add rfl rfl rfl) rfl ?_
     refine Va (Vj rfl) rfl ?_
     refine Vg ?_
     obtain rfl := Option.some.inj hF
     refine Xv ?_
     exact Vq ⟨rfl, rfl, rfl, rfl, trivial⟩
   ·have hF := Ym c3 hF
    refine We ?_
    obtain rfl := Option.some.inj hF
    refine Xv ?_
    exact Vq ⟨rfl, trivial⟩
  ·rintro _ _ _ _ ⟨rfl, hw⟩
   refine ⟨_, _, _, hw, ?_⟩
   refine Vi ?_
   refine Ve ?_
   refine Va (rd_mvL rfl) rfl ?_
   refine Va (rd_asL rfl) rfl ?_
   refine Vg ?_
   refine Xb ?_
   obtain rfl := Option.some.inj hF
   refine Zy ?_
   refine Ya.trans (Xp (E' := [(4, .vs 1 (List.map (PV.int .i64) o2))]) (loc1 := [⟨3, 1, [], 0 + 1⟩]) (Vr hn) 0 rfl (Yh (fun _ => .int _ _)) ⟨Zi rfl rfl rfl (Vy rfl), trivial⟩ ⟨.refl _, trivial⟩) ?_
   exact Vv (Vr hn) [] (by decide) ⟨Vs rfl (.vs _ _), trivial⟩ trivial
 ·rintro _ _ _ _ ⟨he, hw⟩
  refine ⟨_, _, _, hw, ?_⟩
  exact Ze he [.vs 1 (List.map (PV.int .i64) r)] ⟨rfl, trivial⟩ (.vs _ _) ⟨rfl, (List.append_nil _).symm⟩

theorem F_lists_Where__belts_Above_1_ok {p0 : Int} {pc10 : List T_Belt} {pc11 : Int} {r : List Int} (hF : F_lists_Where__belts_Above_1 p0 pc10 pc11 = some r) {low : List AObj} {q0 q1 w0 w1 : Nat} (hnd : [q0, q1].Nodup) (hq0 : low[q0]? = some ⟨27, 1, [.vs 2 (List.map T_Belt.enc pc10)], w0⟩) (hq1 : low[q1]? = some ⟨3, 1, [.int .i64 pc11], w1⟩) {n : Nat} (hn : low.length = n) :
    Yv Try.prog 37 [.int .i64 p0, .fn 38 [] [.ptr q0 w0 0 0, .ptr q1 w1 0 0]] low fun x low' => x = .vs 1 (List.map (PV.int .i64) r) ∧ low' = setL low [(q0, ⟨27, 1, [.vs 2 (List.map T_Belt.enc pc10)], w0⟩), (q1, ⟨3, 1, [.int .i64 pc11], w1⟩)] ++ [] := by
  obtain ⟨h1, h2⟩ := Wk (ps := [(q0, ⟨27, 1, [.vs 2 (List.map T_Belt.enc pc10)], w0⟩), (q1, ⟨3, 1, [.int .i64 pc11], w1⟩)]) hnd (Zx hq0 (Zx hq1 bor0))
  exact Zz h1 (F_lists_Where__belts_Above_1_ok0 hF h2 hn)

theorem F_belts_Above_ok {p0 : List T_Belt} {p1 : Int} {r : List Int} (hF : F_belts_Above p0 p1 = some r) (low : List AObj) :
    Yv Try.prog 16 [.vs 2 (List.map T_Belt.enc p0), .int .i64 p1] low fun x low' => x = .vs 1 (List.map (PV.int .i64) r) ∧ low' = low := by
 refine Xc (nt := 20) (rs := [.tmp 4]) Try.func16 rfl rfl (Nat.le_of_ble_eq_true rfl) rfl ?_
 refine Vw (Q' := FnE (fun E' lw lc => Ya E' lw lc [(4, .vs 1 (List.map (PV.int .i64) r))] low [])) ?_ ?_
 ·unfold F_belts_Above at hF
  refine Vi ?_
  refine Ve ?_
  refine Vk (Yw rfl rfl (v := .vs 2 (List.map T_Belt.enc p0)) rfl rfl (Nat.succ_pos _) rfl rfl) rfl ?_
  refine Vk (Yw rfl rfl (v := .int .i64 p1) rfl rfl (Nat.succ_pos _) rfl rfl) rfl ?_
  refine Va (rd_nv (sz := 1) (rd_asN rfl)) rfl ?_
  refine Vg ?_
  refine Vi ?_
  refine Vi ?_
  obtain ⟨o1, ho1, hF⟩ := Ys hF
  refine Vw (Q' := (fun o1 => OnlyE .normal (fun E' lw lc => Ya E' lw lc [(2, .ptr (low.length + 0) 0 0 0), (3, .ptr (low.length + 1) 0 0 0), (15, .bool o1)] low [⟨27, 1, [.vs 2 (List.map T_Belt.enc p0)], 0⟩, ⟨3, 1, [.int .i64 p1], 0⟩])) o1) ?_ ?_
  ·replace hF := ho1
   refine Ve ?_
   obtain ⟨x2, h3, hF⟩ := Ys hF
   rcases Bool.eq_false_or_eq_true (!x2) with c4 | c4
   ·have hF := Yl c4 hF
    refine Va (Vf rfl (Vd rfl rfl) rfl ta_27 rfl) rfl ?_
    refine Vk (Xk rfl Try.call29 (F_belts_sound_ok h3 _)) rfl ?_
    refine Va (Zn rfl) rfl ?_
    refine Va (Vm rfl) rfl ?_
    refine Vb rfl rfl (Zh c4) rfl ?_
    refine Vb rfl rfl (Zh c4) rfl ?_
    refine Vb rfl rfl (Zh c4) rfl ?_
    refine Vb rfl rfl (Zh c4) rfl ?_
    refine Vb rfl rfl (Zh c4) rfl ?_
    refine Vb rfl rfl (Zh c4) rfl ?_
    refine Va (Vp (congrArg PV.bool c4) rfl) rfl ?_
    refine Vg ?_
    obtain rfl := Option.some.inj hF
    refine Xv ?_
    exact Vq ⟨rfl, rfl, rfl, trivial⟩
   ·have hF := Ym c4 hF
    obtain ⟨x5, h6, hF⟩ := Ys hF
    refine Va (Vf rfl (Vd rfl rfl) rfl ta_27 rfl) rfl ?_
    refine Vk (Xk rfl Try.call29 (F_belts_sound_ok h3 _)) rfl ?_
    refine Va (Zn rfl) rfl ?_
    refine Va (Vm rfl) rfl ?_
    refine Vz rfl rfl c4 ?_
    refine Va (Vf rfl (Vd rfl rfl) rfl ta_3 rfl) rfl ?_
    refine Vz rfl rfl c4 ?_
    refine Va (Vf rfl (Vd rfl rfl) rfl ta_27 rfl) rfl ?_
    refine Vz rfl rfl c4 ?_
    refine Va (Xi (Xo rfl rfl te_27) (congrArg (fun n : Nat => PV.int .i64 (n : Int)) (List.length_map _))) rfl ?_
    refine Vz rfl rfl c4 ?_
    refine Va (rd_sub rfl rfl rfl) rfl ?_
    refine Vz rfl rfl c4 ?_
    refine Vk (Xk rfl Try.call33 (F_lists_In_ok h6 _)) rfl ?_
    refine Vz rfl rfl c4 ?_
    refine Va (Zn rfl) rfl ?_
    refine Va (Vo (congrArg PV.bool c4) rfl) rfl ?_
    refine Vg ?_
    obtain rfl := Option.some.inj hF
    refine Xv ?_
    exact Vq ⟨rfl, rfl, rfl, trivial⟩
  ·rintro _ _ _ _ ⟨rfl, hw⟩
   refine ⟨_, _, _, hw, ?_⟩
   refine Xj rfl (fun c7 => ?_) (fun c7 => ?_)
   ·have hF := Yl c7 hF
    refine Vi ?_
    refine Ve ?_
    refine Va (rd_nv (sz := 1) (rd_asN rfl)) rfl ?_
    refine Vg ?_
    refine Xb ?_
    obtain rfl := Option.some.inj hF
    refine Zy ?_
    exact Vv rfl [] (by decide) ⟨Vs rfl (.vs _ _), trivial⟩ trivial
   ·have hF := Ym c7 hF
    refine Xq ?_
    refine Vi ?_
    refine Ve ?_
    obtain ⟨x8, h9, hF⟩ := Ys hF
    refine Va (Vf rfl (Vd rfl rfl) rfl ta_27 rfl) rfl ?_
    refine Va (Xi (Xo rfl rfl te_27) (congrArg (fun n : Nat => PV.int .i64 (n : Int)) (List.length_map _))) rfl ?_
    refine Va (rd_makeFn rfl) rfl ?_
    refine Vk (Wc (ps := [((low.length + 0), ⟨27, 1, [.vs 2 (List.map T_Belt.enc p0)], 0⟩), ((low.length + 1), ⟨3, 1, [.int .i64 p1], 0⟩)]) (r := .vs 1 (List.map (PV.int .i64) x8)) (os := []) (low1 := low) (loc1 := [⟨27, 1, [.vs 2 (List.map T_Belt.enc p0)], 0⟩, ⟨3, 1, [.int .i64 p1], 0⟩]) (loc2 := [⟨27, 1, [.vs 2 (List.map T_Belt.enc p0)], 0⟩, ⟨3, 1, [.int .i64 p1], 0⟩]) rfl Try.call37 (F_lists_Where__belts_Above_1_ok h9 (nd1 (Zq (Yt rfl) na0) (nd1 na0 nd0)) (Zw rfl rfl) (Zw rfl rfl) (Xn rfl rfl)) (Yx (loc2 := [⟨27, 1, [.vs 2 (List.map T_Belt.enc p0)], 0⟩, ⟨3, 1, [.int .i64 p1], 0⟩]) rfl 0 rfl (Yx (loc2 := [⟨27, 1, [.vs 2 (List.map T_Belt.enc p0)], 0⟩, ⟨3, 1, [.int .i64 p1], 0⟩]) rfl 1 rfl Wl)) rfl) rfl ?_
    refine Va (rd_asV rfl) rfl ?_
    refine Vg ?_
    refine Xb ?_
    obtain rfl := Option.some.inj hF
    refine Zy ?_
    exact Vv rfl [] (by decide) ⟨Vs rfl (.vs _ _), trivial⟩ trivial
 ·rintro _ _ _ _ ⟨he, hw⟩
  refine ⟨_, _, _, hw, ?_⟩
  exact Ze he [.vs 1 (List.map (PV.int .i64) r)] ⟨rfl, trivial⟩ (.vs _ _) ⟨rfl, rfl⟩

theorem F_law39_awake_ok  {r : Bool} (hF : F_law39_awake = some r) (low : List AObj) :
    Yv Try.prog 8 [] low fun x low' => x = .bool r ∧ low' = low := by
 refine Xc (nt := 123) (rs := [.tmp 0]) Try.func8 rfl rfl (Nat.le_of_ble_eq_true rfl) rfl ?_
 refine Vw (Q' := FnE (fun E' lw lc => Ya E' lw lc [(0, .bool r)] low [])) ?_ ?_
 ·unfold F_law39_awake at hF
  refine Vi ?_
  refine Ve ?_
  refine Va (Xy rfl) rfl ?_
  refine Vg ?_
  refine Vi ?_
  refine Ve ?_
  refine Va (Wd (vs := [(0, .int .i64 (-1)), (1, .int .i64 5)]) (ds := [.int .i64 (-1), .int .i64 5]) tz_31 rfl rfl tp_31 ⟨rfl, rfl, rfl, rfl, trivial⟩ (nt_all2 rfl) rfl) rfl ?_
  refine Va (Wd (vs := [(0, .int .i64 0), (1, .int .i64 3)]) (ds := [.int .i64 0, .int .i64 3]) tz_31 rfl rfl tp_31 ⟨rfl, rfl, rfl, rfl, trivial⟩ (nt_all2 rfl) rfl) rfl ?_
  refine Vk (vef_litF (es := List.map T_Belt.enc [(T_Belt.mk (-1) 5), (T_Belt.mk 0 3)]) ⟨rfl, rfl, rfl, rfl, trivial⟩ rfl rfl (nt_all rfl) te_27 ts_31 tz_31 rfl rfl (Nat.succ_pos _) (by decide) (Yh T_Belt.enc_lt)) rfl ?_
  refine Va (rd_asV rfl) rfl ?_
  refine Vg ?_
  refine Vi ?_
  refine Ve ?_
  obtain ⟨x1, h2, hF⟩ := Ys hF
  refine Va (Xd rfl) rfl ?_
  refine Vk (Xk rfl Try.call12 (F_belts_Make_ok h2 _)) rfl ?_
  refine Va (rd_mvT rfl) rfl ?_
  refine Va (Xz rfl rfl) rfl ?_
  refine Va (Xz rfl rfl) rfl ?_
  refine Vk (Xe rfl rfl tz_34 rfl rfl (Nat.succ_pos _) rfl) rfl ?_
  refine Vk (Vx (p := .agg [.int .i64 x1.1.Time, .vs 1 (List.map (PV.int .i64) x1.1.States), .vs 1 (List.map (PV.int .i64) x1.1.Since), .vs 1 (List.map PV.bool x1.1.Pulled), .vs 1 (List.map PV.bool x1.1.Held)]) (e' := .agg [.int .i64 x1.1.Time, .vs 1 (List.map (PV.int .i64) x1.1.States), .vs 1 (List.map (PV.int .i64) x1.1.Since), .vs 1 (List.map PV.bool x1.1.Pulled), .vs 1 (List.map PV.bool x1.1.Held)]) rfl (Vd rfl rfl) rfl rfl ts_34 rfl (Yc rfl) rfl (Nat.le_of_ble_eq_true rfl) rfl (Xr rfl rfl)) rfl ?_
  refine Va (Xa rfl) rfl ?_
  refine Vg ?_
  refine Vi ?_
  refine Ve ?_
  obtain ⟨x3, h4, hF⟩ := Ys hF
  refine Va (Xd rfl) rfl ?_
  refine Va (Vu (ds := [.int .i64 x1.1.Time, .vs 1 (List.map (PV.int .i64) x1.1.States), .vs 1 (List.map (PV.int .i64) x1.1.Since), .vs 1 (List.map PV.bool x1.1.Pulled), .vs 1 (List.map PV.bool x1.1.Held)]) rfl (Vd rfl rfl) rfl ta_34 ts_34 rfl rfl rfl) rfl ?_
  refine Vk (Xf (r := .tup [.agg [.int .i64 x3.1.Time, .vs 1 (List.map (PV.int .i64) x3.1.States), .vs 1 (List.map (PV.int .i64) x3.1.Since), .vs 1 (List.map PV.bool x3.1.Pulled), .vs 1 (List.map PV.bool x3.1.Held)], .int .i64 x3.2]) (os := []) rfl Try.call13 (F_belts_Start_ok h4 _ (Xn rfl rfl))) rfl ?_
  refine Va (rd_mvT rfl) rfl ?_
  refine Va (Xz rfl rfl) rfl ?_
  refine Va (Xz rfl rfl) rfl ?_
  refine Vk (Xe rfl rfl tz_34 rfl rfl (Nat.succ_pos _) rfl) rfl ?_
  refine Vk (Vx (p := .agg [.int .i64 x3.1.Time, .vs 1 (List.map (PV.int .i64) x3.1.States), .vs 1 (List.map (PV.int .i64) x3.1.Since), .vs 1 (List.map PV.bool x3.1.Pulled), .vs 1 (List.map PV.bool x3.1.Held)]) (e' := .agg [.int .i64 x3.1.Time, .vs 1 (List.map (PV.int .i64) x3.1.States), .vs 1 (List.map (PV.int .i64) x3.1.Since), .vs 1 (List.map PV.bool x3.1.Pulled), .vs 1 (List.map PV.bool x3.1.Held)]) rfl (Vd rfl rfl) rfl rfl ts_34 rfl (Yc rfl) rfl (Nat.le_of_ble_eq_true rfl) rfl (Xr rfl rfl)) rfl ?_
  refine Va (Xa rfl) rfl ?_
  refine Vg ?_
  refine Vi ?_
  refine Ve ?_
  obtain ⟨x5, h6, hF⟩ := Ys hF
  refine Va (Xd rfl) rfl ?_
  refine Va (Vu (ds := [.int .i64 x1.1.Time, .vs 1 (List.map (PV.int .i64) x1.1.States), .vs 1 (List.map (PV.int .i64) x1.1.Since), .vs 1 (List.map PV.bool x1.1.Pulled), .vs 1 (List.map PV.bool x1.1.Held)]) rfl (Vd rfl rfl) rfl ta_34 ts_34 rfl rfl rfl) rfl ?_
  refine Vk (Xf (r := .tup [.agg [.int .i64 x5.1.Time, .vs 1 (List.map (PV.int .i64) x5.1.States), .vs 1 (List.map (PV.int .i64) x5.1.Since), .vs 1 (List.map PV.bool x5.1.Pulled), .vs 1 (List.map PV.bool x5.1.Held)], .int .i64 x5.2]) (os := []) rfl Try.call13 (F_belts_Start_ok h6 _ (Xn rfl rfl))) rfl ?_
  refine Va (rd_mvT rfl) rfl ?_
  refine Va (Xz rfl rfl) rfl ?_
  refine Va (Xz rfl rfl) rfl ?_
  refine Vk (Vx (p := .agg [.int .i64 x5.1.Time, .vs 1 (List.map (PV.int .i64) x5.1.States), .vs 1 (List.map (PV.int .i64) x5.1.Since), .vs 1 (List.map PV.bool x5.1.Pulled), .vs 1 (List.map PV.bool x5.1.Held)]) (e' := .agg [.int .i64 x5.1.Time, .vs 1 (List.map (PV.int .i64) x5.1.States), .vs 1 (List.map (PV.int .i64) x5.1.Since), .vs 1 (List.map PV.bool x5.1.Pulled), .vs 1 (List.map PV.bool x5.1.Held)]) rfl (Vd rfl rfl) rfl rfl ts_34 rfl (Yc rfl) rfl (Nat.le_of_ble_eq_true rfl) rfl (Xr rfl rfl)) rfl ?_
  refine Va (Xa rfl) rfl ?_
  refine Vg ?_
  refine Vi ?_
  refine Ve ?_
  obtain ⟨x7, h8, hF⟩ := Ys hF
  refine Va (Xd rfl) rfl ?_
  refine Va (Vu (ds := [.int .i64 x5.1.Time, .vs 1 (List.map (PV.int .i64) x5.1.States), .vs 1 (List.map (PV.int .i64) x5.1.Since), .vs 1 (List.map PV.bool x5.1.Pulled), .vs 1 (List.map PV.bool x5.1.Held)]) rfl (Vd rfl rfl) rfl ta_34 ts_34 rfl rfl rfl) rfl ?_
  refine Vk (Xf (r := .tup [.agg [.int .i64 x7.1.Time, .vs 1 (List.map (PV.int .i64) x7.1.States), .vs 1 (List.map (PV.int .i64) x7.1.Since), .vs 1 (List.map PV.bool x7.1.Pulled), .vs 1 (List.map PV.bool x7.1.Held)], .int .i64 x7.2]) (os := []) rfl Try.call14 (F_belts_Wait_ok h8 _ (Xn rfl rfl))) rfl ?_
  refine Va (rd_mvT rfl) rfl ?_
  refine Va (Xz rfl rfl) rfl ?_
  refine Va (Xz rfl rfl) rfl ?_
  refine Vk (Vx (p := .agg [.int .i64 x7.1.Time, .vs 1 (List.map (PV.int .i64) x7.1.States), .vs 1 (List.map (PV.int .i64) x7.1.Since), .vs 1 (List.map PV.bool x7.1.Pulled), .vs 1 (List.map PV.bool x7.1.Held)]) (e' := .agg [.int .i64 x7.1.Time, .vs 1 (List.map (PV.int .i64) x7.1.States), .vs 1 (List.map (PV.int .i64) x7.1.Since), .vs 1 (List.map PV.bool x7.1.Pulled), .vs 1 (List.map PV.bool x7.1.Held)]) rfl (Vd rfl rfl) rfl rfl ts_34 rfl (Yc rfl) rfl (Nat.le_of_ble_eq_true rfl) rfl (Xr rfl rfl)) rfl ?_
  refine Va (Xa rfl) rfl ?_
  refine Vg ?_
  refine Vi ?_
  refine Ve ?_
  obtain ⟨x9, h10, hF⟩ := Ys hF
  refine Va (Xd rfl) rfl ?_
  refine Va (Vu (ds := [.int .i64 x7.1.Time, .vs 1 (List.map (PV.int .i64) x7.1.States), .vs 1 (List.map (PV.int .i64) x7.1.Since), .vs 1 (List.map PV.bool x7.1.Pulled), .vs 1 (List.map PV.bool x7.1.Held)]) rfl (Vd rfl rfl) rfl ta_34 ts_34 rfl rfl rfl) rfl ?_
  refine Vk (Xf (r := .tup [.agg [.int .i64 x9.1.Time, .vs 1 (List.map (PV.int .i64) x9.1.States), .vs 1 (List.map (PV.int .i64) x9.1.Since), .vs 1 (List.map PV.bool x9.1.Pulled), .vs 1 (List.map PV.bool x9.1.Held)], .int .i64 x9.2]) (os := []) rfl Try.call13 (F_belts_Start_ok h10 _ (Xn rfl rfl))) rfl ?_
  refine Va (rd_mvT rfl) rfl ?_
  refine Va (Xz rfl rfl) rfl ?_
  refine Va (Xz rfl rfl) rfl ?_
  refine Vk (Vx (p := .agg [.int .i64 x9.1.Time, .vs 1 (List.map (PV.int .i64) x9.1.States), .vs 1 (List.map (PV.int .i64) x9.1.Since), .vs 1 (List.map PV.bool x9.1.Pulled), .vs 1 (List.map PV.bool x9.1.Held)]) (e' := .agg [.int .i64 x9.1.Time, .vs 1 (List.map (PV.int .i64) x9.1.States), .vs 1 (List.map (PV.int .i64) x9.1.Since), .vs 1 (List.map PV.bool x9.1.Pulled), .vs 1 (List.map PV.bool x9.1.Held)]) rfl (Vd rfl rfl) rfl rfl ts_34 rfl (Yc rfl) rfl (Nat.le_of_ble_eq_true rfl) rfl (Xr rfl rfl)) rfl ?_
  refine Va (Xa rfl) rfl ?_
  refine Vg ?_
  refine Vi ?_
  refine Ve ?_
  obtain ⟨x11, h12, hF⟩ := Ys hF
  refine Va (Xd rfl) rfl ?_
  refine Va (Vu (ds := [.int .i64 x9.1.Time, .vs 1 (List.map (PV.int .i64) x9.1.States), .vs 1 (List.map (PV.int .i64) x9.1.Since), .vs 1 (List.map PV.bool x9.1.Pulled), .vs 1 (List.map PV.bool x9.1.Held)]) rfl (Vd rfl rfl) rfl ta_34 ts_34 rfl rfl rfl) rfl ?_
  refine Vk (Xf (r := .tup [.agg [.int .i64 x11.1.Time, .vs 1 (List.map (PV.int .i64) x11.1.States), .vs 1 (List.map (PV.int .i64) x11.1.Since), .vs 1 (List.map PV.bool x11.1.Pulled), .vs 1 (List.map PV.bool x11.1.Held)], .int .i64 x11.2]) (os := []) rfl Try.call14 (F_belts_Wait_ok h12 _ (Xn rfl rfl))) rfl ?_
  refine Va (rd_mvT rfl) rfl ?_
  refine Va (Xz rfl rfl) rfl ?_
  refine Va (Xz rfl rfl) rfl ?_
  refine Vk (Vx (p := .agg [.int .i64 x11.1.Time, .vs 1 (List.map (PV.int .i64) x11.1.States), .vs 1 (List.map (PV.int .i64) x11.1.Since), .vs 1 (List.map PV.bool x11.1.Pulled), .vs 1 (List.map PV.bool x11.1.Held)]) (e' := .agg [.int .i64 x11.1.Time, .vs 1 (List.map (PV.int .i64) x11.1.States), .vs 1 (List.map (PV.int .i64) x11.1.Since), .vs 1 (List.map PV.bool x11.1.Pulled), .vs 1 (List.map PV.bool x11.1.Held)]) rfl (Vd rfl rfl) rfl rfl ts_34 rfl (Yc rfl) rfl (Nat.le_of_ble_eq_true rfl) rfl (Xr rfl rfl)) rfl ?_
  refine Va (Xa rfl) rfl ?_
  refine Vg ?_
  refine Vi ?_
  refine Ve ?_
  obtain ⟨x13, h14, hF⟩ := Ys hF
  refine Va (Xd rfl) rfl ?_
  refine Va (Vu (ds := [.int .i64 x11.1.Time, .vs 1 (List.map (PV.int .i64) x11.1.States), .vs 1 (List.map (PV.int .i64) x11.1.Since), .vs 1 (List.map PV.bool x11.1.Pulled), .vs 1 (List.map PV.bool x11.1.Held)]) rfl (Vd rfl rfl) rfl ta_34 ts_34 rfl rfl rfl) rfl ?_
  refine Vk (Xf (r := .tup [.agg [.int .i64 x13.1.Time, .vs 1 (List.map (PV.int .i64) x13.1.States), .vs 1 (List.map (PV.int .i64) x13.1.Since), .vs 1 (List.map PV.bool x13.1.Pulled), .vs 1 (List.map PV.bool x13.1.Held)], .int .i64 x13.2]) (os := []) rfl Try.call15 (F_belts_Pull_ok h14 _ (Xn rfl rfl))) rfl ?_
  refine Va (rd_mvT rfl) rfl ?_
  refine Va (Xz rfl rfl) rfl ?_
  refine Va (Xz rfl rfl) rfl ?_
  refine Vk (Xe rfl rfl tz_34 rfl rfl (Nat.succ_pos _) rfl) rfl ?_
  refine Vk (Vx (p := .agg [.int .i64 x13.1.Time, .vs 1 (List.map (PV.int .i64) x13.1.States), .vs 1 (List.map (PV.int .i64) x13.1.Since), .vs 1 (List.map PV.bool x13.1.Pulled), .vs 1 (List.map PV.bool x13.1.Held)]) (e' := .agg [.int .i64 x13.1.Time, .vs 1 (List.map (PV.int .i64) x13.1.States), .vs 1 (List.map (PV.int .i64) x13.1.Since), .vs 1 (List.map PV.bool x13.1.Pulled), .vs 1 (List.map PV.bool x13.1.Held)]) rfl (Vd rfl rfl) rfl rfl ts_34 rfl (Yc rfl) rfl (Nat.le_of_ble_eq_true rfl) rfl (Xr rfl rfl)) rfl ?_
  refine Va (Xa rfl) rfl ?_
  refine Vg ?_
  refine Vi ?_
  refine Ve ?_
  obtain ⟨x15, h16, hF⟩ := Ys hF
  refine Va (Xd rfl) rfl ?_
  refine Vk (Xk rfl Try.call16 (F_belts_Above_ok h16 _)) rfl ?_
  refine Va (rd_asV rfl) rfl ?_
  refine Vg ?_
  refine Vi ?_
  refine Ve ?_
  rcases Bool.eq_false_or_eq_true (decide (x1.2 = 0)) with c17 | c17
  ·have hF := Yl c17 hF
   rcases Bool.eq_false_or_eq_true (decide (x3.2 = 10)) with c18 | c18
   ·have hF := Yl c18 hF
    rcases Bool.eq_false_or_eq_true (decide (x5.2 = 0)) with c19 | c19
    ·have hF := Yl c19 hF
     rcases Bool.eq_false_or_eq_true (decide (x7.2 = 0)) with c20 | c20
     ·have hF := Yl c20 hF
      rcases Bool.eq_false_or_eq_true (decide (x9.2 = 0)) with c21 | c21
      ·have hF := Yl c21 hF
       rcases Bool.eq_false_or_eq_true (decide (x11.2 = 0)) with c22 | c22
       ·have hF := Yl c22 hF
        rcases Bool.eq_false_or_eq_true (decide (x13.2 = 0)) with c23 | c23
        ·have hF := Yl c23 hF
         rcases Bool.eq_false_or_eq_true (decide (((x11.1.States).length : Int) = 2)) with c24 | c24
         ·have hF := Yl c24 hF
          obtain ⟨x25, h26, hF⟩ := Ys hF
          rcases Bool.eq_false_or_eq_true (decide (x25 = 2)) with c27 | c27
          ·have hF := Yl c27 hF
           obtain ⟨x28, h29, hF⟩ := Ys hF
           rcases Bool.eq_false_or_eq_true (decide (x28 = 8)) with c30 | c30
           ·have hF := Yl c30 hF
            rcases Bool.eq_false_or_eq_true (decide (((x13.1.States).length : Int) = 2)) with c31 | c31
            ·have hF := Yl c31 hF
             obtain ⟨x32, h33, hF⟩ := Ys hF
             rcases Bool.eq_false_or_eq_true (decide (x32 = 0)) with c34 | c34
             ·have hF := Yl c34 hF
              refine Va (Vj rfl) rfl ?_
              refine Va (Xm rfl rfl) rfl ?_
              refine Va (Vm rfl) rfl ?_
              refine Vz rfl rfl c17 ?_
              refine Va (Vj rfl) rfl ?_
              refine Vz rfl rfl c17 ?_
              refine Va (Xm rfl rfl) rfl ?_
              refine Va (Vp (congrArg PV.bool c17) rfl) rfl ?_
              refine Va (Vm rfl) rfl ?_
              refine Vz rfl rfl c18 ?_
              refine Va (Vj rfl) rfl ?_
              refine Vz rfl rfl c18 ?_
              refine Va (Xm rfl rfl) rfl ?_
              refine Va (Vp (congrArg PV.bool c18) rfl) rfl ?_
              refine Va (Vm rfl) rfl ?_
              refine Vz rfl rfl c19 ?_
              refine Va (Vj rfl) rfl ?_
              refine Vz rfl rfl c19 ?_
              refine Va (Xm rfl rfl) rfl ?_
              refine Va (Vp (congrArg PV.bool c19) rfl) rfl ?_
              refine Va (Vm rfl) rfl ?_
              refine Vz rfl rfl c20 ?_
              refine Va (Vj rfl) rfl ?_
              refine Vz rfl rfl c20 ?_
              refine Va (Xm rfl rfl) rfl ?_
              refine Va (Vp (congrArg PV.bool c20) rfl) rfl ?_
              refine Va (Vm rfl) rfl ?_
              refine Vz rfl rfl c21 ?_
              refine Va (Vj rfl) rfl ?_
              refine Vz rfl rfl c21 ?_
              refine Va (Xm rfl rfl) rfl ?_
              refine Va (Vp (congrArg PV.bool c21) rfl) rfl ?_
              refine Va (Vm rfl) rfl ?_
              refine Vz rfl rfl c22 ?_
              refine Va (Vj rfl) rfl ?_
              refine Vz rfl rfl c22 ?_
              refine Va (Xm rfl rfl) rfl ?_
              refine Va (Vp (congrArg PV.bool c22) rfl) rfl ?_
              refine Va (Vm rfl) rfl ?_
              refine Vz rfl rfl c23 ?_
              refine Va (Vc rfl tf_34_1 ts_22 (by decide)) rfl ?_
              refine Vz rfl rfl c23 ?_
              refine Va (Vf rfl (Vd rfl rfl) rfl ta_22 rfl) rfl ?_
              refine Vz rfl rfl c23 ?_
              refine Va (Xi (Xo rfl rfl te_22) (congrArg (fun n : Nat => PV.int .i64 (n : Int)) (List.length_map _))) rfl ?_
              refine Vz rfl rfl c23 ?_
              refine Va (Xm rfl rfl) rfl ?_
              refine Va (Vp (congrArg PV.bool c23) rfl) rfl ?_
              refine Va (Vm rfl) rfl ?_
              refine Vz rfl rfl c24 ?_
              refine Va (Vc rfl tf_34_1 ts_22 (by decide)) rfl ?_
              refine Vz rfl rfl c24 ?_
              refine Va (Vf rfl (Vd rfl rfl) rfl ta_22 rfl) rfl ?_
              refine Vz rfl rfl c24 ?_
              refine Va (Xi (Yj rfl rfl h26 te_22 ts_3) (v' := .vptr [.int .i64 x25] 0) rfl) rfl ?_
              refine Vz rfl rfl c24 ?_
              refine Va (Xg rfl ta_3 rfl) rfl ?_
              refine Vz rfl rfl c24 ?_
              refine Va (Xm rfl rfl) rfl ?_
              refine Va (Vp (congrArg PV.bool c24) rfl) rfl ?_
              refine Va (Vm rfl) rfl ?_
              refine Vz rfl rfl c27 ?_
              refine Va (Vc rfl tf_34_2 ts_22 (by decide)) rfl ?_
              refine Vz rfl rfl c27 ?_
              refine Va (Vf rfl (Vd rfl rfl) rfl ta_22 rfl) rfl ?_
              refine Vz rfl rfl c27 ?_
              refine Va (Xi (Yj rfl rfl h29 te_22 ts_3) (v' := .vptr [.int .i64 x28] 0) rfl) rfl ?_
              refine Vz rfl rfl c27 ?_
              refine Va (Xg rfl ta_3 rfl) rfl ?_
              refine Vz rfl rfl c27 ?_
              refine Va (Xm rfl rfl) rfl ?_
              refine Va (Vp (congrArg PV.bool c27) rfl) rfl ?_
              refine Va (Vm rfl) rfl ?_
              refine Vz rfl rfl c30 ?_
              refine Va (Vc rfl tf_34_1 ts_22 (by decide)) rfl ?_
              refine Vz rfl rfl c30 ?_
              refine Va (Vf rfl (Vd rfl rfl) rfl ta_22 rfl) rfl ?_
              refine Vz rfl rfl c30 ?_
              refine Va (Xi (Xo rfl rfl te_22) (congrArg (fun n : Nat => PV.int .i64 (n : Int)) (List.length_map _))) rfl ?_
              refine Vz rfl rfl c30 ?_
              refine Va (Xm rfl rfl) rfl ?_
              refine Va (Vp (congrArg PV.bool c30) rfl) rfl ?_
              refine Va (Vm rfl) rfl ?_
              refine Vz rfl rfl c31 ?_
              refine Va (Vc rfl tf_34_1 ts_22 (by decide)) rfl ?_
              refine Vz rfl rfl c31 ?_
              refine Va (Vf rfl (Vd rfl rfl) rfl ta_22 rfl) rfl ?_
              refine Vz rfl rfl c31 ?_
              refine Va (Xi (Yj rfl rfl h33 te_22 ts_3) (v' := .vptr [.int .i64 x32] 0) rfl) rfl ?_
              refine Vz rfl rfl c31 ?_
              refine Va (Xg rfl ta_3 rfl) rfl ?_
              refine Vz rfl rfl c31 ?_
              refine Va (Xm rfl rfl) rfl ?_
              refine Va (Vp (congrArg PV.bool c31) rfl) rfl ?_
              refine Va (Vm rfl) rfl ?_
              refine Vz rfl rfl c34 ?_
              refine Va (Xd rfl) rfl ?_
              refine Vz rfl rfl c34 ?_
              refine Va (Xi (Xo rfl rfl te_22) (congrArg (fun n : Nat => PV.int .i64 (n : Int)) (List.length_map _))) rfl ?_
              refine Vz rfl rfl c34 ?_
              refine Va (Xm rfl rfl) rfl ?_
              refine Va (Vp (congrArg PV.bool c34) rfl) rfl ?_
              refine Va (Xy rfl) rfl ?_
              refine Vg ?_
              refine Xb ?_
              obtain rfl := Option.some.inj hF
              refine Zy ?_
              exact Vv rfl [] (by decide) ⟨Vs rfl (.bool _), trivial⟩ trivial
             ·have hF := Ym c34 hF
              refine Va (Vj rfl) rfl ?_
              refine Va (Xm rfl rfl) rfl ?_
              refine Va (Vm rfl) rfl ?_
              refine Vz rfl rfl c17 ?_
              refine Va (Vj rfl) rfl ?_
              refine Vz rfl rfl c17 ?_
              refine Va (Xm rfl rfl) rfl ?_
              refine Va (Vp (congrArg PV.bool c17) rfl) rfl ?_
              refine Va (Vm rfl) rfl ?_
              refine Vz rfl rfl c18 ?_
              refine Va (Vj rfl) rfl ?_
              refine Vz rfl rfl c18 ?_
              refine Va (Xm rfl rfl) rfl ?_
              refine Va (Vp (congrArg PV.bool c18) rfl) rfl ?_
              refine Va (Vm rfl) rfl ?_
              refine Vz rfl rfl c19 ?_
              refine Va (Vj rfl) rfl ?_
              refine Vz rfl rfl c19 ?_
              refine Va (Xm rfl rfl) rfl ?_
              refine Va (Vp (congrArg PV.bool c19) rfl) rfl ?_
              refine Va (Vm rfl) rfl ?_
              refine Vz rfl rfl c20 ?_
              refine Va (Vj rfl) rfl ?_
              refine Vz rfl rfl c20 ?_
              refine Va (Xm rfl rfl) rfl ?_
              refine Va (Vp (congrArg PV.bool c20) rfl) rfl ?_
              refine Va (Vm rfl) rfl ?_
              refine Vz rfl rfl c21 ?_
              refine Va (Vj rfl) rfl ?_
              refine Vz rfl rfl c21 ?_
              refine Va (Xm rfl rfl) rfl ?_
              refine Va (Vp (congrArg PV.bool c21) rfl) rfl ?_
              refine Va (Vm rfl) rfl ?_
              refine Vz rfl rfl c22 ?_
              refine Va (Vj rfl) rfl ?_
              refine Vz rfl rfl c22 ?_
              refine Va (Xm rfl rfl) rfl ?_
              refine Va (Vp (congrArg PV.bool c22) rfl) rfl ?_
              refine Va (Vm rfl) rfl ?_
              refine Vz rfl rfl c23 ?_
              refine Va (Vc rfl tf_34_1 ts_22 (by decide)) rfl ?_
              refine Vz rfl rfl c23 ?_
              refine Va (Vf rfl (Vd rfl rfl) rfl ta_22 rfl) rfl ?_
              refine Vz rfl rfl c23 ?_
              refine Va (Xi (Xo rfl rfl te_22) (congrArg (fun n : Nat => PV.int .i64 (n : Int)) (List.length_map _))) rfl ?_
              refine Vz rfl rfl c23 ?_
              refine Va (Xm rfl rfl) rfl ?_
              refine Va (Vp (congrArg PV.bool c23) rfl) rfl ?_
              refine Va (Vm rfl) rfl ?_
              refine Vz rfl rfl c24 ?_
              refine Va (Vc rfl tf_34_1 ts_22 (by decide)) rfl ?_
              refine Vz rfl rfl c24 ?_
              refine Va (Vf rfl (Vd rfl rfl) rfl ta_22 rfl) rfl ?_
              refine Vz rfl rfl c24 ?_
              refine Va (Xi (Yj rfl rfl h26 te_22 ts_3) (v' := .vptr [.int .i64 x25] 0) rfl) rfl ?_
              refine Vz rfl rfl c24 ?_
              refine Va (Xg rfl ta_3 rfl) rfl ?_
              refine Vz rfl rfl c24 ?_
              refine Va (Xm rfl rfl) rfl ?_
              refine Va (Vp (congrArg PV.bool c24) rfl) rfl ?_
              refine Va (Vm rfl) rfl ?_
              refine Vz rfl rfl c27 ?_
              refine Va (Vc rfl tf_34_2 ts_22 (by decide)) rfl ?_
              refine Vz rfl rfl c27 ?_
              refine Va (Vf rfl (Vd rfl rfl) rfl ta_22 rfl) rfl ?_
              refine Vz rfl rfl c27 ?_
              refine Va (Xi (Yj rfl rfl h29 te_22 ts_3) (v' := .vptr [.int .i64 x28] 0) rfl) rfl ?_
              refine Vz rfl rfl c27 ?_
              refine Va (Xg rfl ta_3 rfl) rfl ?_
              refine Vz rfl rfl c27 ?_
              refine Va (Xm rfl rfl) rfl ?_
              refine Va (Vp (congrArg PV.bool c27) rfl) rfl ?_
              refine Va (Vm rfl) rfl ?_
              refine Vz rfl rfl c30 ?_
              refine Va (Vc rfl tf_34_1 ts_22 (by decide)) rfl ?_
              refine Vz rfl rfl c30 ?_
              refine Va (Vf rfl (Vd rfl rfl) rfl ta_22 rfl) rfl ?_
              refine Vz rfl rfl c30 ?_
              refine Va (Xi (Xo rfl rfl te_22) (congrArg (fun n : Nat => PV.int .i64 (n : Int)) (List.length_map _))) rfl ?_
              refine Vz rfl rfl c30 ?_
              refine Va (Xm rfl rfl) rfl ?_
              refine Va (Vp (congrArg PV.bool c30) rfl) rfl ?_
              refine Va (Vm rfl) rfl ?_
              refine Vz rfl rfl c31 ?_
              refine Va (Vc rfl tf_34_1 ts_22 (by decide)) rfl ?_
              refine Vz rfl rfl c31 ?_
              refine Va (Vf rfl (Vd rfl rfl) rfl ta_22 rfl) rfl ?_
              refine Vz rfl rfl c31 ?_
              refine Va (Xi (Yj rfl rfl h33 te_22 ts_3) (v' := .vptr [.int .i64 x32] 0) rfl) rfl ?_
              refine Vz rfl rfl c31 ?_
              refine Va (Xg rfl ta_3 rfl) rfl ?_
              refine Vz rfl rfl c31 ?_
              refine Va (Xm rfl rfl) rfl ?_
              refine Va (Vp (congrArg PV.bool c31) rfl) rfl ?_
              refine Va (Vm rfl) rfl ?_
              refine Vb rfl rfl (Zm c34) rfl ?_
              refine Vb rfl rfl (Zm c34) rfl ?_
              refine Vb rfl rfl (Zm c34) rfl ?_
              refine Va (Vo (congrArg PV.bool c34) rfl) rfl ?_
              refine Va (Xy rfl) rfl ?_
              refine Vg ?_
              refine Xb ?_
              obtain rfl := Option.some.inj hF
              refine Zy ?_
              exact Vv rfl [] (by decide) ⟨Vs rfl (.bool _), trivial⟩ trivial
            ·have hF := Ym c31 hF
             refine Va (Vj rfl) rfl ?_
             refine Va (Xm rfl rfl) rfl ?_
             refine Va (Vm rfl) rfl ?_
             refine Vz rfl rfl c17 ?_
             refine Va (Vj rfl) rfl ?_
             refine Vz rfl rfl c17 ?_
             refine Va (Xm rfl rfl) rfl ?_
             refine Va (Vp (congrArg PV.bool c17) rfl) rfl ?_
             refine Va (Vm rfl) rfl ?_
             refine Vz rfl rfl c18 ?_
             refine Va (Vj rfl) rfl ?_
             refine Vz rfl rfl c18 ?_
             refine Va (Xm rfl rfl) rfl ?_
             refine Va (Vp (congrArg PV.bool c18) rfl) rfl ?_
             refine Va (Vm rfl) rfl ?_
             refine Vz rfl rfl c19 ?_
             refine Va (Vj rfl) rfl ?_
             refine Vz rfl rfl c19 ?_
             refine Va (Xm rfl rfl) rfl ?_
             refine Va (Vp (congrArg PV.bool c19) rfl) rfl ?_
             refine Va (Vm rfl) rfl ?_
             refine Vz rfl rfl c20 ?_
             refine Va (Vj rfl) rfl ?_
             refine Vz rfl rfl c20 ?_
             refine Va (Xm rfl rfl) rfl ?_
             refine Va (Vp (congrArg PV.bool c20) rfl) rfl ?_
             refine Va (Vm rfl) rfl ?_
             refine Vz rfl rfl c21 ?_
             refine Va (Vj rfl) rfl ?_
             refine Vz rfl rfl c21 ?_
             refine Va (Xm rfl rfl) rfl ?_
             refine Va (Vp (congrArg PV.bool c21) rfl) rfl ?_
             refine Va (Vm rfl) rfl ?_
             refine Vz rfl rfl c22 ?_
             refine Va (Vj rfl) rfl ?_
             refine Vz rfl rfl c22 ?_
             refine Va (Xm rfl rfl) rfl ?_
             refine Va (Vp (congrArg PV.bool c22) rfl) rfl ?_
             refine Va (Vm rfl) rfl ?_
             refine Vz rfl rfl c23 ?_
             refine Va (Vc rfl tf_34_1 ts_22 (by decide)) rfl ?_
             refine Vz rfl rfl c23 ?_
             refine Va (Vf rfl (Vd rfl rfl) rfl ta_22 rfl) rfl ?_
             refine Vz rfl rfl c23 ?_
             refine Va (Xi (Xo rfl rfl te_22) (congrArg (fun n : Nat => PV.int .i64 (n : Int)) (List.length_map _))) rfl ?_
             refine Vz rfl rfl c23 ?_
             refine Va (Xm rfl rfl) rfl ?_
             refine Va (Vp (congrArg PV.bool c23) rfl) rfl ?_
             refine Va (Vm rfl) rfl ?_
             refine Vz rfl rfl c24 ?_
             refine Va (Vc rfl tf_34_1 ts_22 (by decide)) rfl ?_
             refine Vz rfl rfl c24 ?_
             refine Va (Vf rfl (Vd rfl rfl) rfl ta_22 rfl) rfl ?_
             refine Vz rfl rfl c24 ?_
             refine Va (Xi (Yj rfl rfl h26 te_22 ts_3) (v' := .vptr [.int .i64 x25] 0) rfl) rfl ?_
             refine Vz rfl rfl c24 ?_
             refine Va (Xg rfl ta_3 rfl) rfl ?_
             refine Vz rfl rfl c24 ?_
             refine Va (Xm rfl rfl) rfl ?_
             refine Va (Vp (congrArg PV.bool c24) rfl) rfl ?_
             refine Va (Vm rfl) rfl ?_
             refine Vz rfl rfl c27 ?_
             refine Va (Vc rfl tf_34_2 ts_22 (by decide)) rfl ?_
             refine Vz rfl rfl c27 ?_
             refine Va (Vf rfl (Vd rfl rfl) rfl ta_22 rfl) rfl ?_
             refine Vz rfl rfl c27 ?_
             refine Va (Xi (Yj rfl rfl h29 te_22 ts_3) (v' := .vptr [.int .i64 x28] 0) rfl) rfl ?_
             refine Vz rfl rfl c27 ?_
             refine Va (Xg rfl ta_3 rfl) rfl ?_
             refine Vz rfl rfl c27 ?_
             refine Va (Xm rfl rfl) rfl ?_
             refine Va (Vp (congrArg PV.bool c27) rfl) rfl ?_
             refine Va (Vm rfl) rfl ?_
             refine Vz rfl rfl c30 ?_
             refine Va (Vc rfl tf_34_1 ts_22 (by decide)) rfl ?_
             refine Vz rfl rfl c30 ?_
             refine Va (Vf rfl (Vd rfl rfl) rfl ta_22 rfl) rfl ?_
             refine Vz rfl rfl c30 ?_
             refine Va (Xi (Xo rfl rfl te_22) (congrArg (fun n : Nat => PV.int .i64 (n : Int)) (List.length_map _))) rfl ?_
             refine Vz rfl rfl c30 ?_
             refine Va (Xm rfl rfl) rfl ?_
             refine Va (Vp (congrArg PV.bool c30) rfl) rfl ?_
             refine Va (Vm rfl) rfl ?_
             refine Vb rfl rfl (Zm c31) rfl ?_
             refine Vb rfl rfl (Zm c31) rfl ?_
             refine Vb rfl rfl (Zm c31) rfl ?_
             refine Vb rfl rfl (Zm c31) rfl ?_
             refine Vb rfl rfl (Zm c31) rfl ?_
             refine Va (Vo (congrArg PV.bool c31) rfl) rfl ?_
             refine Va (Vm rfl) rfl ?_
             refine Vb rfl rfl (by decide) rfl ?_
             refine Vb rfl rfl (by decide) rfl ?_
             refine Vb rfl rfl (by decide) rfl ?_
             refine Va (Vo rfl rfl) rfl ?_
             refine Va (Xy rfl) rfl ?_
             refine Vg ?_
             refine Xb ?_
             obtain rfl := Option.some.inj hF
             refine Zy ?_
             exact Vv rfl [] (by decide) ⟨Vs rfl (.bool _), trivial⟩ trivial
           ·have hF := Ym c30 hF
            refine Va (Vj rfl) rfl ?_
            refine Va (Xm rfl rfl) rfl ?_
            refine Va (Vm rfl) rfl ?_
            refine Vz rfl rfl c17 ?_
            refine Va (Vj rfl) rfl ?_
            refine Vz rfl rfl c17 ?_
            refine Va (Xm rfl rfl) rfl ?_
            refine Va (Vp (congrArg PV.bool c17) rfl) rfl ?_
            refine Va (Vm rfl) rfl ?_
            refine Vz rfl rfl c18 ?_
            refine Va (Vj rfl) rfl ?_
            refine Vz rfl rfl c18 ?_
            refine Va (Xm rfl rfl) rfl ?_
            refine Va (Vp (congrArg PV.bool c18) rfl) rfl ?_
            refine Va (Vm rfl) rfl ?_
            refine Vz rfl rfl c19 ?_
            refine Va (Vj rfl) rfl ?_
            refine Vz rfl rfl c19 ?_
            refine Va (Xm rfl rfl) rfl ?_
            refine Va (Vp (congrArg PV.bool c19) rfl) rfl ?_
            refine Va (Vm rfl) rfl ?_
            refine Vz rfl rfl c20 ?_
            refine Va (Vj rfl) rfl ?_
            refine Vz rfl rfl c20 ?_
            refine Va (Xm rfl rfl) rfl ?_
            refine Va (Vp (congrArg PV.bool c20) rfl) rfl ?_
            refine Va (Vm rfl) rfl ?_
            refine Vz rfl rfl c21 ?_
            refine Va (Vj rfl) rfl ?_
            refine Vz rfl rfl c21 ?_
            refine Va (Xm rfl rfl) rfl ?_
            refine Va (Vp (congrArg PV.bool c21) rfl) rfl ?_
            refine Va (Vm rfl) rfl ?_
            refine Vz rfl rfl c22 ?_
            refine Va (Vj rfl) rfl ?_
            refine Vz rfl rfl c22 ?_
            refine Va (Xm rfl rfl) rfl ?_
            refine Va (Vp (congrArg PV.bool c22) rfl) rfl ?_
            refine Va (Vm rfl) rfl ?_
            refine Vz rfl rfl c23 ?_
            refine Va (Vc rfl tf_34_1 ts_22 (by decide)) rfl ?_
            refine Vz rfl rfl c23 ?_
            refine Va (Vf rfl (Vd rfl rfl) rfl ta_22 rfl) rfl ?_
            refine Vz rfl rfl c23 ?_
            refine Va (Xi (Xo rfl rfl te_22) (congrArg (fun n : Nat => PV.int .i64 (n : Int)) (List.length_map _))) rfl ?_
            refine Vz rfl rfl c23 ?_
            refine Va (Xm rfl rfl) rfl ?_
            refine Va (Vp (congrArg PV.bool c23) rfl) rfl ?_
            refine Va (Vm rfl) rfl ?_
            refine Vz rfl rfl c24 ?_
            refine Va (Vc rfl tf_34_1 ts_22 (by decide)) rfl ?_
            refine Vz rfl rfl c24 ?_
            refine Va (Vf rfl (Vd rfl rfl) rfl ta_22 rfl) rfl ?_
            refine Vz rfl rfl c24 ?_
            refine Va (Xi (Yj rfl rfl h26 te_22 ts_3) (v' := .vptr [.int .i64 x25] 0) rfl) rfl ?_
            refine Vz rfl rfl c24 ?_
            refine Va (Xg rfl ta_3 rfl) rfl ?_
            refine Vz rfl rfl c24 ?_
            refine Va (Xm rfl rfl) rfl ?_
            refine Va (Vp (congrArg PV.bool c24) rfl) rfl ?_
            refine Va (Vm rfl) rfl ?_
            refine Vz rfl rfl c27 ?_
            refine Va (Vc rfl tf_34_2 ts_22 (by decide)) rfl ?_
            refine Vz rfl rfl c27 ?_
            refine Va (Vf rfl (Vd rfl rfl) rfl ta_22 rfl) rfl ?_
            refine Vz rfl rfl c27 ?_
            refine Va (Xi (Yj rfl rfl h29 te_22 ts_3) (v' := .vptr [.int .i64 x28] 0) rfl) rfl ?_
            refine Vz rfl rfl c27 ?_
            refine Va (Xg rfl ta_3 rfl) rfl ?_
            refine Vz rfl rfl c27 ?_
            refine Va (Xm rfl rfl) rfl ?_
            refine Va (Vp (congrArg PV.bool c27) rfl) rfl ?_
            refine Va (Vm rfl) rfl ?_
            refine Vb rfl rfl (Zm c30) rfl ?_
            refine Vb rfl rfl (Zm c30) rfl ?_
            refine Vb rfl rfl (Zm c30) rfl ?_
            refine Vb rfl rfl (Zm c30) rfl ?_
            refine Va (Vo (congrArg PV.bool c30) rfl) rfl ?_
            refine Va (Vm rfl) rfl ?_
            refine Vb rfl rfl (by decide) rfl ?_
            refine Vb rfl rfl (by decide) rfl ?_
            refine Vb rfl rfl (by decide) rfl ?_
            refine Vb rfl rfl (by decide) rfl ?_
            refine Vb rfl rfl (by decide) rfl ?_
            refine Va (Vo rfl rfl) rfl ?_
            refine Va (Vm rfl) rfl ?_
            refine Vb rfl rfl (by decide) rfl ?_
            refine Vb rfl rfl (by decide) rfl ?_
            refine Vb rfl rfl (by decide) rfl ?_
            refine Va (Vo rfl rfl) rfl ?_
            refine Va (Xy rfl) rfl ?_
            refine Vg ?_
            refine Xb ?_
            obtain rfl := Option.some.inj hF
            refine Zy ?_
            exact Vv rfl [] (by decide) ⟨Vs rfl (.bool _), trivial⟩ trivial
          ·have hF := Ym c27 hF
           refine Va (Vj rfl) rfl ?_
           refine Va (Xm rfl rfl) rfl ?_
           refine Va (Vm rfl) rfl ?_
           refine Vz rfl rfl c17 ?_
           refine Va (Vj rfl) rfl ?_
           refine Vz rfl rfl c17 ?_
           refine Va (Xm rfl rfl) rfl ?_
           refine Va (Vp (congrArg PV.bool c17) rfl) rfl ?_
           refine Va (Vm rfl) rfl ?_
           refine Vz rfl rfl c18 ?_
           refine Va (Vj rfl) rfl ?_
           refine Vz rfl rfl c18 ?_
           refine Va (Xm rfl rfl) rfl ?_
           refine Va (Vp (congrArg PV.bool c18) rfl) rfl ?_
           refine Va (Vm rfl) rfl ?_
           refine Vz rfl rfl c19 ?_
           refine Va (Vj rfl) rfl ?_
           refine Vz rfl rfl c19 ?_
           refine Va (Xm rfl rfl) rfl ?_
           refine Va (Vp (congrArg PV.bool c19) rfl) rfl ?_
           refine Va (Vm rfl) rfl ?_
           refine Vz rfl rfl c20 ?_
           refine Va (Vj rfl) rfl ?_
           refine Vz rfl rfl c20 ?_
           refine Va (Xm rfl rfl) rfl ?_
           refine Va (Vp (congrArg PV.bool c20) rfl) rfl ?_
           refine Va (Vm rfl) rfl ?_
           refine Vz rfl rfl c21 ?_
           refine Va (Vj rfl) rfl ?_
           refine Vz rfl rfl c21 ?_
           refine Va (Xm rfl rfl) rfl ?_
           refine Va (Vp (congrArg PV.bool c21) rfl) rfl ?_
           refine Va (Vm rfl) rfl ?_
           refine Vz rfl rfl c22 ?_
           refine Va (Vj rfl) rfl ?_
           refine Vz rfl rfl c22 ?_
           refine Va (Xm rfl rfl) rfl ?_
           refine Va (Vp (congrArg PV.bool c22) rfl) rfl ?_
           refine Va (Vm rfl) rfl ?_
           refine Vz rfl rfl c23 ?_
           refine Va (Vc rfl tf_34_1 ts_22 (by decide)) rfl ?_
           refine Vz rfl rfl c23 ?_
           refine Va (Vf rfl (Vd rfl rfl) rfl ta_22 rfl) rfl ?_
           refine Vz rfl rfl c23 ?_
           refine Va (Xi (Xo rfl rfl te_22) (congrArg (fun n : Nat => PV.int .i64 (n : Int)) (List.length_map _))) rfl ?_
           refine Vz rfl rfl c23 ?_
           refine Va (Xm rfl rfl) rfl ?_
           refine Va (Vp (congrArg PV.bool c23) rfl) rfl ?_
           refine Va (Vm rfl) rfl ?_
           refine Vz rfl rfl c24 ?_
           refine Va (Vc rfl tf_34_1 ts_22 (by decide)) rfl ?_
           refine Vz rfl rfl c24 ?_
           refine Va (Vf rfl (Vd rfl rfl) rfl ta_22 rfl) rfl ?_
           refine Vz rfl rfl c24 ?_
           refine Va (Xi (Yj rfl rfl h26 te_22 ts_3) (v' := .vptr [.int .i64 x25] 0) rfl) rfl ?_
           refine Vz rfl rfl c24 ?_
           refine Va (Xg rfl ta_3 rfl) rfl ?_
           refine Vz rfl rfl c24 ?_
           refine Va (Xm rfl rfl) rfl ?_
           refine Va (Vp (congrArg PV.bool c24) rfl) rfl ?_
           refine Va (Vm rfl) rfl ?_
           refine Vb rfl rfl (Zm c27) rfl ?_
           refine Vb rfl rfl (Zm c27) rfl ?_
           refine Vb rfl rfl (Zm c27) rfl ?_
           refine Vb rfl rfl (Zm c27) rfl ?_
           refine Vb rfl rfl (Zm c27) rfl ?_
           refine Va (Vo (congrArg PV.bool c27) rfl) rfl ?_
           refine Va (Vm rfl) rfl ?_
           refine Vb rfl rfl (by decide) rfl ?_
           refine Vb rfl rfl (by decide) rfl ?_
           refine Vb rfl rfl (by decide) rfl ?_
           refine Vb rfl rfl (by decide) rfl ?_
           refine Va (Vo rfl rfl) rfl ?_
           refine Va (Vm rfl) rfl ?_
           refine Vb rfl rfl (by decide) rfl ?_
           refine Vb rfl rfl (by decide) rfl ?_
           refine Vb rfl rfl (by decide) rfl ?_
           refine Vb rfl rfl (by decide) rfl ?_
           refine Vb rfl rfl (by decide) rfl ?_
           refine Va (Vo rfl rfl) rfl ?_
           refine Va (Vm rfl) rfl ?_
           refine Vb rfl rfl (by decide) rfl ?_
           refine Vb rfl rfl (by decide) rfl ?_
           refine Vb rfl rfl (by decide) rfl ?_
           refine Va (Vo rfl rfl) rfl ?_
           refine Va (Xy rfl) rfl ?_
           refine Vg ?_
           refine Xb ?_
           obtain rfl := Option.some.inj hF
           refine Zy ?_
           exact Vv rfl [] (by decide) ⟨Vs rfl (.bool _), trivial⟩ trivial
         ·have hF := Ym c24 hF
          refine Va (Vj rfl) rfl ?_
          refine Va (Xm rfl rfl) rfl ?_
          refine Va (Vm rfl) rfl ?_
          refine Vz rfl rfl c17 ?_
          refine Va (Vj rfl) rfl ?_
          refine Vz rfl rfl c17 ?_
          refine Va (Xm rfl rfl) rfl ?_
          refine Va (Vp (congrArg PV.bool c17) rfl) rfl ?_
          refine Va (Vm rfl) rfl ?_
          refine Vz rfl rfl c18 ?_
          refine Va (Vj rfl) rfl ?_
          refine Vz rfl rfl c18 ?_
          refine Va (Xm rfl rfl) rfl ?_
          refine Va (Vp (congrArg PV.bool c18) rfl) rfl ?_
          refine Va (Vm rfl) rfl ?_
          refine Vz rfl rfl c19 ?_
          refine Va (Vj rfl) rfl ?_
          refine Vz rfl rfl c19 ?_
          refine Va (Xm rfl rfl) rfl ?_
          refine Va (Vp (congrArg PV.bool c19) rfl) rfl ?_
          refine Va (Vm rfl) rfl ?_
          refine Vz rfl rfl c20 ?_
          refine Va (Vj rfl) rfl ?_
          refine Vz rfl rfl c20 ?_
          refine Va (Xm rfl rfl) rfl ?_
          refine Va (Vp (congrArg PV.bool c20) rfl) rfl ?_
          refine Va (Vm rfl) rfl ?_
          refine Vz rfl rfl c21 ?_
          refine Va (Vj rfl) rfl ?_
          refine Vz rfl rfl c21 ?_
          refine Va (Xm rfl rfl) rfl ?_
          refine Va (Vp (congrArg PV.bool c21) rfl) rfl ?_
          refine Va (Vm rfl) rfl ?_
          refine Vz rfl rfl c22 ?_
          refine Va (Vj rfl) rfl ?_
          refine Vz rfl rfl c22 ?_
          refine Va (Xm rfl rfl) rfl ?_
          refine Va (Vp (congrArg PV.bool c22) rfl) rfl ?_
          refine Va (Vm rfl) rfl ?_
          refine Vz rfl rfl c23 ?_
          refine Va (Vc rfl tf_34_1 ts_22 (by decide)) rfl ?_
          refine Vz rfl rfl c23 ?_
          refine Va (Vf rfl (Vd rfl rfl) rfl ta_22 rfl) rfl ?_
          refine Vz rfl rfl c23 ?_
          refine Va (Xi (Xo rfl rfl te_22) (congrArg (fun n : Nat => PV.int .i64 (n : Int)) (List.length_map _))) rfl ?_
          refine Vz rfl rfl c23 ?_
          refine Va (Xm rfl rfl) rfl ?_
          refine Va (Vp (congrArg PV.bool c23) rfl) rfl ?_
          refine Va (Vm rfl) rfl ?_
          refine Vb rfl rfl (Zm c24) rfl ?_
          refine Vb rfl rfl (Zm c24) rfl ?_
          refine Vb rfl rfl (Zm c24) rfl ?_
          refine Vb rfl rfl (Zm c24) rfl ?_
          refine Vb rfl rfl (Zm c24) rfl ?_
          refine Va (Vo (congrArg PV.bool c24) rfl) rfl ?_
          refine Va (Vm rfl) rfl ?_
          refine Vb rfl rfl (by decide) rfl ?_
          refine Vb rfl rfl (by decide) rfl ?_
          refine Vb rfl rfl (by decide) rfl ?_
          refine Vb rfl rfl (by decide) rfl ?_
          refine Vb rfl rfl (by decide) rfl ?_
          refine Va (Vo rfl rfl) rfl ?_
          refine Va (Vm rfl) rfl ?_
          refine Vb rfl rfl (by decide) rfl ?_
          refine Vb rfl rfl (by decide) rfl ?_
          refine Vb rfl rfl (by decide) rfl ?_
          refine Vb rfl rfl (by decide) rfl ?_
          refine Va (Vo rfl rfl) rfl ?_
          refine Va (Vm rfl) rfl ?_
          refine Vb rfl rfl (by decide) rfl ?_
          refine Vb rfl rfl (by decide) rfl ?_
          refine Vb rfl rfl (by decide) rfl ?_
          refine Vb rfl rfl (by decide) rfl ?_
          refine Vb rfl rfl (by decide) rfl ?_
          refine Va (Vo rfl rfl) rfl ?_
          refine Va (Vm rfl) rfl ?_
          refine Vb rfl rfl (by decide) rfl ?_
          refine Vb rfl rfl (by decide) rfl ?_
          refine Vb rfl rfl (by decide) rfl ?_
          refine Va (Vo rfl rfl) rfl ?_
          refine Va (Xy rfl) rfl ?_
          refine Vg ?_
          refine Xb ?_
          obtain rfl := Option.some.inj hF
          refine Zy ?_
          exact Vv rfl [] (by decide) ⟨Vs rfl (.bool _), trivial⟩ trivial
        ·have hF := Ym c23 hF
         refine Va (Vj rfl) rfl ?_
         refine Va (Xm rfl rfl) rfl ?_
         refine Va (Vm rfl) rfl ?_
         refine Vz rfl rfl c17 ?_
         refine Va (Vj rfl) rfl ?_
         refine Vz rfl rfl c17 ?_
         refine Va (Xm rfl rfl) rfl ?_
         refine Va (Vp (congrArg PV.bool c17) rfl) rfl ?_
         refine Va (Vm rfl) rfl ?_
         refine Vz rfl rfl c18 ?_
         refine Va (Vj rfl) rfl ?_
         refine Vz rfl rfl c18 ?_
         refine Va (Xm rfl rfl) rfl ?_
         refine Va (Vp (congrArg PV.bool c18) rfl) rfl ?_
         refine Va (Vm rfl) rfl ?_
         refine Vz rfl rfl c19 ?_
         refine Va (Vj rfl) rfl ?_
         refine Vz rfl rfl c19 ?_
         refine Va (Xm rfl rfl) rfl ?_
         refine Va (Vp (congrArg PV.bool c19) rfl) rfl ?_
         refine Va (Vm rfl) rfl ?_
         refine Vz rfl rfl c20 ?_
         refine Va (Vj rfl) rfl ?_
         refine Vz rfl rfl c20 ?_
         refine Va (Xm rfl rfl) rfl ?_
         refine Va (Vp (congrArg PV.bool c20) rfl) rfl ?_
         refine Va (Vm rfl) rfl ?_
         refine Vz rfl rfl c21 ?_
         refine Va (Vj rfl) rfl ?_
         refine Vz rfl rfl c21 ?_
         refine Va (Xm rfl rfl) rfl ?_
         refine Va (Vp (congrArg PV.bool c21) rfl) rfl ?_
         refine Va (Vm rfl) rfl ?_
         refine Vz rfl rfl c22 ?_
         refine Va (Vj rfl) rfl ?_
         refine Vz rfl rfl c22 ?_
         refine Va (Xm rfl rfl) rfl ?_
         refine Va (Vp (congrArg PV.bool c22) rfl) rfl ?_
         refine Va (Vm rfl) rfl ?_
         refine Vb rfl rfl (Zm c23) rfl ?_
         refine Vb rfl rfl (Zm c23) rfl ?_
         refine Vb rfl rfl (Zm c23) rfl ?_
         refine Vb rfl rfl (Zm c23) rfl ?_
         refine Va (Vo (congrArg PV.bool c23) rfl) rfl ?_
         refine Va (Vm rfl) rfl ?_
         refine Vb rfl rfl (by decide) rfl ?_
         refine Vb rfl rfl (by decide) rfl ?_
         refine Vb rfl rfl (by decide) rfl ?_
         refine Vb rfl rfl (by decide) rfl ?_
         refine Vb rfl rfl (by decide) rfl ?_
         refine Va (Vo rfl rfl) rfl ?_
         refine Va (Vm rfl) rfl ?_
         refine Vb rfl rfl (by decide) rfl ?_
         refine Vb rfl rfl (by decide) rfl ?_
         refine Vb rfl rfl (by decide) rfl ?_
         refine Vb rfl rfl (by decide) rfl ?_
         refine Vb rfl rfl (by decide) rfl ?_
         refine Va (Vo rfl rfl) rfl ?_
         refine Va (Vm rfl) rfl ?_
         refine Vb rfl rfl (by decide) rfl ?_
         refine Vb rfl rfl (by decide) rfl ?_
         refine Vb rfl rfl (by decide) rfl ?_
         refine Vb rfl rfl (by decide) rfl ?_
         refine Va (Vo rfl rfl) rfl ?_
         refine Va (Vm rfl) rfl ?_
         refine Vb rfl rfl (by decide) rfl ?_
         refine Vb rfl rfl (by decide) rfl ?_
         refine Vb rfl rfl (by decide) rfl ?_
         refine Vb rfl rfl (by decide) rfl ?_
         refine Vb rfl rfl (by decide) rfl ?_
         refine Va (Vo rfl rfl) rfl ?_
         refine Va (Vm rfl) rfl ?_
         refine Vb rfl rfl (by decide) rfl ?_
         refine Vb rfl rfl (by decide) rfl ?_
         refine Vb rfl rfl (by decide) rfl ?_
         refine Va (Vo rfl rfl) rfl ?_
         refine Va (Xy rfl) rfl ?_
         refine Vg ?_
         refine Xb ?_
         obtain rfl := Option.some.inj hF
         refine Zy ?_
         exact Vv rfl [] (by decide) ⟨Vs rfl (.bool _), trivial⟩ trivial
       ·have hF := Ym c22 hF
        refine Va (Vj rfl) rfl ?_
        refine Va (Xm rfl rfl) rfl ?_
        refine Va (Vm rfl) rfl ?_
        refine Vz rfl rfl c17 ?_
        refine Va (Vj rfl) rfl ?_
        refine Vz rfl rfl c17 ?_
        refine Va (Xm rfl rfl) rfl ?_
        refine Va (Vp (congrArg PV.bool c17) rfl) rfl ?_
        refine Va (Vm rfl) rfl ?_
        refine Vz rfl rfl c18 ?_
        refine Va (Vj rfl) rfl ?_
        refine Vz rfl rfl c18 ?_
        refine Va (Xm rfl rfl) rfl ?_
        refine Va (Vp (congrArg PV.bool c18) rfl) rfl ?_
        refine Va (Vm rfl) rfl ?_
        refine Vz rfl rfl c19 ?_
        refine Va (Vj rfl) rfl ?_
        refine Vz rfl rfl c19 ?_
        refine Va (Xm rfl rfl) rfl ?_
        refine Va (Vp (congrArg PV.bool c19) rfl) rfl ?_
        refine Va (Vm rfl) rfl ?_
        refine Vz rfl rfl c20 ?_
        refine Va (Vj rfl) rfl ?_
        refine Vz rfl rfl c20 ?_
        refine Va (Xm rfl rfl) rfl ?_
        refine Va (Vp (congrArg PV.bool c20) rfl) rfl ?_
        refine Va (Vm rfl) rfl ?_
        refine Vz rfl rfl c21 ?_
        refine Va (Vj rfl) rfl ?_
        refine Vz rfl rfl c21 ?_
        refine Va (Xm rfl rfl) rfl ?_
        refine Va (Vp (congrArg PV.bool c21) rfl) rfl ?_
        refine Va (Vm rfl) rfl ?_
        refine Vb rfl rfl (Zm c22) rfl ?_
        refine Vb rfl rfl (Zm c22) rfl ?_
        refine Va (Vo (congrArg PV.bool c22) rfl) rfl ?_
        refine Va (Vm rfl) rfl ?_
        refine Vb rfl rfl (by decide) rfl ?_
        refine Vb rfl rfl (by decide) rfl ?_
        refine Vb rfl rfl (by decide) rfl ?_
        refine Vb rfl rfl (by decide) rfl ?_
        refine Va (Vo rfl rfl) rfl ?_
        refine Va (Vm rfl) rfl ?_
        refine Vb rfl rfl (by decide) rfl ?_
        refine Vb rfl rfl (by decide) rfl ?_
        refine Vb rfl rfl (by decide) rfl ?_
        refine Vb rfl rfl (by decide) rfl ?_
        refine Vb rfl rfl (by decide) rfl ?_
        refine Va (Vo rfl rfl) rfl ?_
        refine Va (Vm rfl) rfl ?_
        refine Vb rfl rfl (by decide) rfl ?_
        refine Vb rfl rfl (by decide) rfl ?_
        refine Vb rfl rfl (by decide) rfl ?_
        refine Vb rfl rfl (by decide) rfl ?_
        refine Vb rfl rfl (by decide) rfl ?_
        refine Va (Vo rfl rfl) rfl ?_
        refine Va (Vm rfl) rfl ?_
        refine Vb rfl rfl (by decide) rfl ?_
        refine Vb rfl rfl (by decide) rfl ?_
        refine Vb rfl rfl (by decide) rfl ?_
        refine Vb rfl rfl (by decide) rfl ?_
        refine Va (Vo rfl rfl) rfl ?_
        refine Va (Vm rfl) rfl ?_
        refine Vb rfl rfl (by decide) rfl ?_
        refine Vb rfl rfl (by decide) rfl ?_
        refine Vb rfl rfl (by decide) rfl ?_
        refine Vb rfl rfl (by decide) rfl ?_
        refine Vb rfl rfl (by decide) rfl ?_
        refine Va (Vo rfl rfl) rfl ?_
        refine Va (Vm rfl) rfl ?_
        refine Vb rfl rfl (by decide) rfl ?_
        refine Vb rfl rfl (by decide) rfl ?_
        refine Vb rfl rfl (by decide) rfl ?_
        refine Va (Vo rfl rfl) rfl ?_
        refine Va (Xy rfl) rfl ?_
        refine Vg ?_
        refine Xb ?_
        obtain rfl := Option.some.inj hF
        refine Zy ?_
        exact Vv rfl [] (by decide) ⟨Vs rfl (.bool _), trivial⟩ trivial
      ·have hF := Ym c21 hF
       refine Va (Vj rfl) rfl ?_
       refine Va (Xm rfl rfl) rfl ?_
       refine Va (Vm rfl) rfl ?_
       refine Vz rfl rfl c17 ?_
       refine Va (Vj rfl) rfl ?_
       refine Vz rfl rfl c17 ?_
       refine Va (Xm rfl rfl) rfl ?_
       refine Va (Vp (congrArg PV.bool c17) rfl) rfl ?_
       refine Va (Vm rfl) rfl ?_
       refine Vz rfl rfl c18 ?_
       refine Va (Vj rfl) rfl ?_
       refine Vz rfl rfl c18 ?_
       refine Va (Xm rfl rfl) rfl ?_
       refine Va (Vp (congrArg PV.bool c18) rfl) rfl ?_
       refine Va (Vm rfl) rfl ?_
       refine Vz rfl rfl c19 ?_
       refine Va (Vj rfl) rfl ?_
       refine Vz rfl rfl c19 ?_
       refine Va (Xm rfl rfl) rfl ?_
       refine Va (Vp (congrArg PV.bool c19) rfl) rfl ?_
       refine Va (Vm rfl) rfl ?_
       refine Vz rfl rfl c20 ?_
       refine Va (Vj rfl) rfl ?_
       refine Vz rfl rfl c20 ?_
       refine Va (Xm rfl rfl) rfl ?_
       refine Va (Vp (congrArg PV.bool c20) rfl) rfl ?_
       refine Va (Vm rfl) rfl ?_
       refine Vb rfl rfl (Zm c21) rfl ?_
       refine Vb rfl rfl (Zm c21) rfl ?_
       refine Va (Vo (congrArg PV.bool c21) rfl) rfl ?_
       refine Va (Vm rfl) rfl ?_
       refine Vb rfl rfl (by decide) rfl ?_
       refine Vb rfl rfl (by decide) rfl ?_
       refine Va (Vo rfl rfl) rfl ?_
       refine Va (Vm rfl) rfl ?_
       refine Vb rfl rfl (by decide) rfl ?_
       refine Vb rfl rfl (by decide) rfl ?_
       refine Vb rfl rfl (by decide) rfl ?_
       refine Vb rfl rfl (by decide) rfl ?_
       refine Va (Vo rfl rfl) rfl ?_
       refine Va (Vm rfl) rfl ?_
       refine Vb rfl rfl (by decide) rfl ?_
       refine Vb rfl rfl (by decide) rfl ?_
       refine Vb rfl rfl (by decide) rfl ?_
       refine Vb rfl rfl (by decide) rfl ?_
       refine Vb rfl rfl (by decide) rfl ?_
       refine Va (Vo rfl rfl) rfl ?_
       refine Va (Vm rfl) rfl ?_
       refine Vb rfl rfl (by decide) rfl ?_
       refine Vb rfl rfl (by decide) rfl ?_
       refine Vb rfl rfl (by decide) rfl ?_
       refine Vb rfl rfl (by decide) rfl ?_
       refine Vb rfl rfl (by decide) rfl ?_
       refine Va (Vo rfl rfl) rfl ?_
       refine Va (Vm rfl) rfl ?_
       refine Vb rfl rfl (by decide) rfl ?_
       refine Vb rfl rfl (by decide) rfl ?_
       refine Vb rfl rfl (by decide) rfl ?_
       refine Vb rfl rfl (by decide) rfl ?_
       refine Va (Vo rfl rfl) rfl ?_
       refine Va (Vm rfl) rfl ?_
       refine Vb rfl rfl (by decide) rfl ?_
       refine Vb rfl rfl (by decide) rfl ?_
       refine Vb rfl rfl (by decide) rfl ?_
       refine Vb rfl rfl (by decide) rfl ?_
       refine Vb rfl rfl (by decide) rfl ?_
       refine Va (Vo rfl rfl) rfl ?_
       refine Va (Vm rfl) rfl ?_
       refine Vb rfl rfl (by decide) rfl ?_
       refine Vb rfl rfl (by decide) rfl ?_
       refine Vb rfl rfl (by decide) rfl ?_
       refine Va (Vo rfl rfl) rfl ?_
       refine Va (Xy rfl) rfl ?_
       refine Vg ?_
       refine Xb ?_
       obtain rfl := Option.some.inj hF
       refine Zy ?_
       exact Vv rfl [] (by decide) ⟨Vs rfl (.bool _), trivial⟩ trivial
     ·have hF := Ym c20 hF
      refine Va (Vj rfl) rfl ?_
      refine Va (Xm rfl rfl) rfl ?_
      refine Va (Vm rfl) rfl ?_
      refine Vz rfl rfl c17 ?_
      refine Va (Vj rfl) rfl ?_
      refine Vz rfl rfl c17 ?_
      refine Va (Xm rfl rfl) rfl ?_
      refine Va (Vp (congrArg PV.bool c17) rfl) rfl ?_
      refine Va (Vm rfl) rfl ?_
      refine Vz rfl rfl c18 ?_
      refine Va (Vj rfl) rfl ?_
      refine Vz rfl rfl c18 ?_
      refine Va (Xm rfl rfl) rfl ?_
      refine Va (Vp (congrArg PV.bool c18) rfl) rfl ?_
      refine Va (Vm rfl) rfl ?_
      refine Vz rfl rfl c19 ?_
      refine Va (Vj rfl) rfl ?_
      refine Vz rfl rfl c19 ?_
      refine Va (Xm rfl rfl) rfl ?_
      refine Va (Vp (congrArg PV.bool c19) rfl) rfl ?_
      refine Va (Vm rfl) rfl ?_
      refine Vb rfl rfl (Zm c20) rfl ?_
      refine Vb rfl rfl (Zm c20) rfl ?_
      refine Va (Vo (congrArg PV.bool c20) rfl) rfl ?_
      refine Va (Vm rfl) rfl ?_
      refine Vb rfl rfl (by decide) rfl ?_
      refine Vb rfl rfl (by decide) rfl ?_
      refine Va (Vo rfl rfl) rfl ?_
      refine Va (Vm rfl) rfl ?_
      refine Vb rfl rfl (by decide) rfl ?_
      refine Vb rfl rfl (by decide) rfl ?_
      refine Va (Vo rfl rfl) rfl ?_
      refine Va (Vm rfl) rfl ?_
      refine Vb rfl rfl (by decide) rfl ?_
      refine Vb rfl rfl (by decide) rfl ?_
      refine Vb rfl rfl (by decide) rfl ?_
      refine Vb rfl rfl (by decide) rfl ?_
      refine Va (Vo rfl rfl) rfl ?_
      refine Va (Vm rfl) rfl ?_
      refine Vb rfl rfl (by decide) rfl ?_
      refine Vb rfl rfl (by decide) rfl ?_
      refine Vb rfl rfl (by decide) rfl ?_
      refine Vb rfl rfl (by decide) rfl ?_
      refine Vb rfl rfl (by decide) rfl ?_
      refine Va (Vo rfl rfl) rfl ?_
      refine Va (Vm rfl) rfl ?_
      refine Vb rfl rfl (by decide) rfl ?_
      refine Vb rfl rfl (by decide) rfl ?_
      refine Vb rfl rfl (by decide) rfl ?_
      refine Vb rfl rfl (by decide) rfl ?_
      refine Vb rfl rfl (by decide) rfl ?_
      refine Va (Vo rfl rfl) rfl ?_
      refine Va (Vm rfl) rfl ?_
      refine Vb rfl rfl (by decide) rfl ?_
      refine Vb rfl rfl (by decide) rfl ?_
      refine Vb rfl rfl (by decide) rfl ?_
      refine Vb rfl rfl (by decide) rfl ?_
      refine Va (Vo rfl rfl) rfl ?_
      refine Va (Vm rfl) rfl ?_
      refine Vb rfl rfl (by decide) rfl ?_
      refine Vb rfl rfl (by decide) rfl ?_
      refine Vb rfl rfl (by decide) rfl ?_
      refine Vb rfl rfl (by decide) rfl ?_
      refine Vb rfl rfl (by decide) rfl ?_
      refine Va (Vo rfl rfl) rfl ?_
      refine Va (Vm rfl) rfl ?_
      refine Vb rfl rfl (by decide) rfl ?_
      refine Vb rfl rfl (by decide) rfl ?_
      refine Vb rfl rfl (by decide) rfl ?_
      refine Va (Vo rfl rfl) rfl ?_
      refine Va (Xy rfl) rfl ?_
      refine Vg ?_
      refine Xb ?_
      obtain rfl := Option.some.inj hF
      refine Zy ?_
      exact Vv rfl [] (by decide) ⟨Vs rfl (.bool _), trivial⟩ trivial
    ·have hF := Ym c19 hF
     refine Va (Vj rfl) rfl ?_
     refine Va (Xm rfl rfl) rfl ?_
     refine Va (Vm rfl) rfl ?_
     refine Vz rfl rfl c17 ?_
     refine Va (Vj rfl) rfl ?_
     refine Vz rfl rfl c17 ?_
     refine Va (Xm rfl rfl) rfl ?_
     refine Va (Vp (congrArg PV.bool c17) rfl) rfl ?_
     refine Va (Vm rfl) rfl ?_
     refine Vz rfl rfl c18 ?_
     refine Va (Vj rfl) rfl ?_
     refine Vz rfl rfl c18 ?_
     refine Va (Xm rfl rfl) rfl ?_
     refine Va (Vp (congrArg PV.bool c18) rfl) rfl ?_
     refine Va (Vm rfl) rfl ?_
     refine Vb rfl rfl (Zm c19) rfl ?_
     refine Vb rfl rfl (Zm c19) rfl ?_
     refine Va (Vo (congrArg PV.bool c19) rfl) rfl ?_
     refine Va (Vm rfl) rfl ?_
     refine Vb rfl rfl (by decide) rfl ?_
     refine Vb rfl rfl (by decide) rfl ?_
     refine Va (Vo rfl rfl) rfl ?_
     refine Va (Vm rfl) rfl ?_
     refine Vb rfl rfl (by decide) rfl ?_
     refine Vb rfl rfl (by decide) rfl ?_
     refine Va (Vo rfl rfl) rfl ?_
     refine Va (Vm rfl) rfl ?_
     refine Vb rfl rfl (by decide) rfl ?_
     refine Vb rfl rfl (by decide) rfl ?_
     refine Va (Vo rfl rfl) rfl ?_
     refine Va (Vm rfl) rfl ?_
     refine Vb rfl rfl (by decide) rfl ?_
     refine Vb rfl rfl (by decide) rfl ?_
     refine Vb rfl rfl (by decide) rfl ?_
     refine Vb rfl rfl (by decide) rfl ?_
     refine Va (Vo rfl rfl) rfl ?_
     refine Va (Vm rfl) rfl ?_
     refine Vb rfl rfl (by decide) rfl ?_
     refine Vb rfl rfl (by decide) rfl ?_
     refine Vb rfl rfl (by decide) rfl ?_
     refine Vb rfl rfl (by decide) rfl ?_
     refine Vb rfl rfl (by decide) rfl ?_
     refine Va (Vo rfl rfl) rfl ?_
     refine Va (Vm rfl) rfl ?_
     refine Vb rfl rfl (by decide) rfl ?_
     refine Vb rfl rfl (by decide) rfl ?_
     refine Vb rfl rfl (by decide) rfl ?_
     refine Vb rfl rfl (by decide) rfl ?_
     refine Vb rfl rfl (by decide) rfl ?_
     refine Va (Vo rfl rfl) rfl ?_
     refine Va (Vm rfl) rfl ?_
     refine Vb rfl rfl (by decide) rfl ?_
     refine Vb rfl rfl (by decide) rfl ?_
     refine Vb rfl rfl (by decide) rfl ?_
     refine Vb rfl rfl (by decide) rfl ?_
     refine Va (Vo rfl rfl) rfl ?_
     refine Va (Vm rfl) rfl ?_
     refine Vb rfl rfl (by decide) rfl ?_
     refine Vb rfl rfl (by decide) rfl ?_
     refine Vb rfl rfl (by decide) rfl ?_
     refine Vb rfl rfl (by decide) rfl ?_
     refine Vb rfl rfl (by decide) rfl ?_
     refine Va (Vo rfl rfl) rfl ?_
     refine Va (Vm rfl) rfl ?_
     refine Vb rfl rfl (by decide) rfl ?_
     refine Vb rfl rfl (by decide) rfl ?_
     refine Vb rfl rfl (by decide) rfl ?_
     refine Va (Vo rfl rfl) rfl ?_
     refine Va (Xy rfl) rfl ?_
     refine Vg ?_
     refine Xb ?_
     obtain rfl := Option.some.inj hF
     refine Zy ?_
     exact Vv rfl [] (by decide) ⟨Vs rfl (.bool _), trivial⟩ trivial
   ·have hF := Ym c18 hF
    refine Va (Vj rfl) rfl ?_
    refine Va (Xm rfl rfl) rfl ?_
    refine Va (Vm rfl) rfl ?_
    refine Vz rfl rfl c17 ?_
    refine Va (Vj rfl) rfl ?_
    refine Vz rfl rfl c17 ?_
    refine Va (Xm rfl rfl) rfl ?_
    refine Va (Vp (congrArg PV.bool c17) rfl) rfl ?_
    refine Va (Vm rfl) rfl ?_
    refine Vb rfl rfl (Zm c18) rfl ?_
    refine Vb rfl rfl (Zm c18) rfl ?_
    refine Va (Vo (congrArg PV.bool c18) rfl) rfl ?_
    refine Va (Vm rfl) rfl ?_
    refine Vb rfl rfl (by decide) rfl ?_
    refine Vb rfl rfl (by decide) rfl ?_
    refine Va (Vo rfl rfl) rfl ?_
    refine Va (Vm rfl) rfl ?_
    refine Vb rfl rfl (by decide) rfl ?_
    refine Vb rfl rfl (by decide) rfl ?_
    refine Va (Vo rfl rfl) rfl ?_
    refine Va (Vm rfl) rfl ?_
    refine Vb rfl rfl (by decide) rfl ?_
    refine Vb rfl rfl (by decide) rfl ?_
    refine Va (Vo rfl rfl) rfl ?_
    refine Va (Vm rfl) rfl ?_
    refine Vb rfl rfl (by decide) rfl ?_
    refine Vb rfl rfl (by decide) rfl ?_
    refine Va (Vo rfl rfl) rfl ?_
    refine Va (Vm rfl) rfl ?_
    refine Vb rfl rfl (by decide) rfl ?_
    refine Vb rfl rfl (by decide) rfl ?_
    refine Vb rfl rfl (by decide) rfl ?_
    refine Vb rfl rfl (by decide) rfl ?_
    refine Va (Vo rfl rfl) rfl ?_
    refine Va (Vm rfl) rfl ?_
    refine Vb rfl rfl (by decide) rfl ?_
    refine Vb rfl rfl (by decide) rfl ?_
    refine Vb rfl rfl (by decide) rfl ?_
    refine Vb rfl rfl (by decide) rfl ?_
    refine Vb rfl rfl (by decide) rfl ?_
    refine Va (Vo rfl rfl) rfl ?_
    refine Va (Vm rfl) rfl ?_
    refine Vb rfl rfl (by decide) rfl ?_
    refine Vb rfl rfl (by decide) rfl ?_
    refine Vb rfl rfl (by decide) rfl ?_
    refine Vb rfl rfl (by decide) rfl ?_
    refine Vb rfl rfl (by decide) rfl ?_
    refine Va (Vo rfl rfl) rfl ?_
    refine Va (Vm rfl) rfl ?_
    refine Vb rfl rfl (by decide) rfl ?_
    refine Vb rfl rfl (by decide) rfl ?_
    refine Vb rfl rfl (by decide) rfl ?_
    refine Vb rfl rfl (by decide) rfl ?_
    refine Va (Vo rfl rfl) rfl ?_
    refine Va (Vm rfl) rfl ?_
    refine Vb rfl rfl (by decide) rfl ?_
    refine Vb rfl rfl (by decide) rfl ?_
    refine Vb rfl rfl (by decide) rfl ?_
    refine Vb rfl rfl (by decide) rfl ?_
    refine Vb rfl rfl (by decide) rfl ?_
    refine Va (Vo rfl rfl) rfl ?_
    refine Va (Vm rfl) rfl ?_
    refine Vb rfl rfl (by decide) rfl ?_
    refine Vb rfl rfl (by decide) rfl ?_
    refine Vb rfl rfl (by decide) rfl ?_
    refine Va (Vo rfl rfl) rfl ?_
    refine Va (Xy rfl) rfl ?_
    refine Vg ?_
    refine Xb ?_
    obtain rfl := Option.some.inj hF
    refine Zy ?_
    exact Vv rfl [] (by decide) ⟨Vs rfl (.bool _), trivial⟩ trivial
  ·have hF := Ym c17 hF
   refine Va (Vj rfl) rfl ?_
   refine Va (Xm rfl rfl) rfl ?_
   refine Va (Vm rfl) rfl ?_
   refine Vb rfl rfl (Zm c17) rfl ?_
   refine Vb rfl rfl (Zm c17) rfl ?_
   refine Va (Vo (congrArg PV.bool c17) rfl) rfl ?_
   refine Va (Vm rfl) rfl ?_
   refine Vb rfl rfl (by decide) rfl ?_
   refine Vb rfl rfl (by decide) rfl ?_
   refine Va (Vo rfl rfl) rfl ?_
   refine Va (Vm rfl) rfl ?_
   refine Vb rfl rfl (by decide) rfl ?_
   refine Vb rfl rfl (by decide) rfl ?_
   refine Va (Vo rfl rfl) rfl ?_
   refine Va (Vm rfl) rfl ?_
   refine Vb rfl rfl (by decide) rfl ?_
   refine Vb rfl rfl (by decide) rfl ?_
   refine Va (Vo rfl rfl) rfl ?_
   refine Va (Vm rfl) rfl ?_
   refine Vb rfl rfl (by decide) rfl ?_
   refine Vb rfl rfl (by decide) rfl ?_
   refine Va (Vo rfl rfl) rfl ?_
   refine Va (Vm rfl) rfl ?_
   refine Vb rfl rfl (by decide) rfl ?_
   refine Vb rfl rfl (by decide) rfl ?_
   refine Va (Vo rfl rfl) rfl ?_
   refine Va (Vm rfl) rfl ?_
   refine Vb rfl rfl (by decide) rfl ?_
   refine Vb rfl rfl (by decide) rfl ?_
   refine Vb rfl rfl (by decide) rfl ?_
   refine Vb rfl rfl (by decide) rfl ?_
   refine Va (Vo rfl rfl) rfl ?_
   refine Va (Vm rfl) rfl ?_
   refine Vb rfl rfl (by decide) rfl ?_
   refine Vb rfl rfl (by decide) rfl ?_
   refine Vb rfl rfl (by decide) rfl ?_
   refine Vb rfl rfl (by decide) rfl ?_
   refine Vb rfl rfl (by decide) rfl ?_
   refine Va (Vo rfl rfl) rfl ?_
   refine Va (Vm rfl) rfl ?_
   refine Vb rfl rfl (by decide) rfl ?_
   refine Vb rfl rfl (by decide) rfl ?_
   refine Vb rfl rfl (by decide) rfl ?_
   refine Vb rfl rfl (by decide) rfl ?_
   refine Vb rfl rfl (by decide) rfl ?_
   refine Va (Vo rfl rfl) rfl ?_
   refine Va (Vm rfl) rfl ?_
   refine Vb rfl rfl (by decide) rfl ?_
   refine Vb rfl rfl (by decide) rfl ?_
   refine Vb rfl rfl (by decide) rfl ?_
   refine Vb rfl rfl (by decide) rfl ?_
   refine Va (Vo rfl rfl) rfl ?_
   refine Va (Vm rfl) rfl ?_
   refine Vb rfl rfl (by decide) rfl ?_
   refine Vb rfl rfl (by decide) rfl ?_
   refine Vb rfl rfl (by decide) rfl ?_
   refine Vb rfl rfl (by decide) rfl ?_
   refine Vb rfl rfl (by decide) rfl ?_
   refine Va (Vo rfl rfl) rfl ?_
   refine Va (Vm rfl) rfl ?_
   refine Vb rfl rfl (by decide) rfl ?_
   refine Vb rfl rfl (by decide) rfl ?_
   refine Vb rfl rfl (by decide) rfl ?_
   refine Va (Vo rfl rfl) rfl ?_
   refine Va (Xy rfl) rfl ?_
   refine Vg ?_
   refine Xb ?_
   obtain rfl := Option.some.inj hF
   refine Zy ?_
   exact Vv rfl [] (by decide) ⟨Vs rfl (.bool _), trivial⟩ trivial
 ·rintro _ _ _ _ ⟨he, hw⟩
  refine ⟨_, _, _, hw, ?_⟩
  exact Ze he [.bool r] ⟨rfl, trivial⟩ (.bool _) ⟨rfl, rfl⟩

theorem F_made_Mod_ok {p0 : Int} {p1 : Int} {r : Int} (hF : F_made_Mod p0 p1 = some r) (low : List AObj) :
    Yv Try.prog 19 [.int .i64 p0, .int .i64 p1] low fun x low' => x = .int .i64 r ∧ low' = low := by
 refine Xc (nt := 16) (rs := [.tmp 4]) Try.func19 rfl rfl (Nat.le_of_ble_eq_true rfl) rfl ?_
 refine Vw (Q' := FnE (fun E' lw lc => Ya E' lw lc [(4, .int .i64 r)] low [])) ?_ ?_
 ·unfold F_made_Mod at hF
  refine Vi ?_
  refine Ve ?_
  refine Va (Xa rfl) rfl ?_
  refine Vg ?_
  refine Vi ?_
  refine Vi ?_
  refine Ve ?_
  refine Va (Vj rfl) rfl ?_
  refine Va (Zo rfl rfl) rfl ?_
  refine Vg ?_
  refine Xj rfl (fun c1 => ?_) (fun c1 => ?_)
  ·have hF := Yl c1 hF
   refine Vi ?_
   refine Ve ?_
   refine Va (Xa rfl) rfl ?_
   refine Vg ?_
   refine Xb ?_
   obtain rfl := Option.some.inj hF
   refine Zy ?_
   exact Vq ⟨rfl, trivial⟩
  ·have hF := Ym c1 hF
   refine Xq ?_
   refine Vi ?_
   refine Ve ?_
   obtain ⟨x2, h3, hF⟩ := Ys hF
   refine Va (Vj rfl) rfl ?_
   refine Va (Vj rfl) rfl ?_
   refine Va (rd_rem rfl rfl (remI_some h3).1 (remI_some h3).2) rfl ?_
   refine Va (Xa rfl) rfl ?_
   refine Vg ?_
   refine Vi ?_
   refine Vi ?_
   refine Ve ?_
   refine Va (Vj rfl) rfl ?_
   refine Va (Zo rfl rfl) rfl ?_
   refine Vg ?_
   obtain ⟨o4, ho4, hF⟩ := Ys hF
   refine Vw (Q' := (fun o4 => OnlyE .normal (fun E' lw lc => Ya E' lw lc [(0, .int .i64 o4)] low [])) o4) ?_ ?_
   ·replace hF := ho4
    refine Xj rfl (fun c5 => ?_) (fun c5 => ?_)
    ·have hF := Yl c5 hF
     refine Ve ?_
     refine Va (Vj rfl) rfl ?_
     refine Va (Vj rfl) rfl ?_
     refine Va (rd_add rfl rfl rfl) rfl ?_
     refine Va (Xa rfl) rfl ?_
     refine Vg ?_
     obtain rfl := Option.some.inj hF
     refine Xv ?_
     exact Vq ⟨rfl, trivial⟩
    ·have hF := Ym c5 hF
     refine Xq ?_
     obtain rfl := Option.some.inj hF
     refine Xv ?_
     exact Vq ⟨rfl, trivial⟩
   ·rintro _ _ _ _ ⟨rfl, hw⟩
    refine ⟨_, _, _, hw, ?_⟩
    refine Vi ?_
    refine Ve ?_
    refine Va (Vj rfl) rfl ?_
    refine Va (Xa rfl) rfl ?_
    refine Vg ?_
    refine Xb ?_
    obtain rfl := Option.some.inj hF
    refine Zy ?_
    exact Vq ⟨rfl, trivial⟩
 ·rintro _ _ _ _ ⟨he, hw⟩
  refine ⟨_, _, _, hw, ?_⟩
  exact Ze he [.int .i64 r] ⟨rfl, trivial⟩ (.int _ _) ⟨rfl, rfl⟩

theorem F_ref39_Copy_ok {p0 : T_Line} {r : T_Line} (hF : F_ref39_Copy p0 = some r) (low : List AObj) {n : Nat} (hn : low.length = n) :
    Yv Try.prog 23 [.agg [.int .i64 p0.Time, .vs 1 (List.map (PV.int .i64) p0.States), .vs 1 (List.map (PV.int .i64) p0.Since), .vs 1 (List.map PV.bool p0.Pulled), .vs 1 (List.map PV.bool p0.Held)]] low fun x low' => x = .agg [.int .i64 r.Time, .sl (n + 0) 0 0 (r.States).length, .sl (n + 1) 0 0 (r.Since).length, .sl (n + 2) 0 0 (r.Pulled).length, .sl (n + 3) 0 0 (r.Held).length] ∧ low' = low ++ [⟨3, 1, List.map (PV.int .i64) r.States, 0⟩, ⟨3, 1, List.map (PV.int .i64) r.Since, 0⟩, ⟨4, 1, List.map PV.bool r.Pulled, 0⟩, ⟨4, 1, List.map PV.bool r.Held, 0⟩] := by
 refine Xc (nt := 18) (rs := [.cell 2 34]) Try.func23 rfl rfl (Nat.le_of_ble_eq_true rfl) rfl ?_
 refine Vw (Q' := FnE (fun E' lw lc => Ya E' lw lc [(2, .ptr (n + 4) 0 0 0)] low [⟨3, 1, List.map (PV.int .i64) r.States, 0⟩, ⟨3, 1, List.map (PV.int .i64) r.Since, 0⟩, ⟨4, 1, List.map PV.bool r.Pulled, 0⟩, ⟨4, 1, List.map PV.bool r.Held, 0⟩, ⟨34, 5, [.agg [.int .i64 r.Time, .sl (n + 0) 0 0 (r.States).length, .sl (n + 1) 0 0 (r.Since).length, .sl (n + 2) 0 0 (r.Pulled).length, .sl (n + 3) 0 0 (r.Held).length]], 0⟩])) ?_ ?_
 ·unfold F_ref39_Copy at hF
  refine Vi ?_
  refine Ve ?_
  refine Vk (Yw hn rfl (v := .agg [.int .i64 p0.Time, .vs 1 (List.map (PV.int .i64) p0.States), .vs 1 (List.map (PV.int .i64) p0.Since), .vs 1 (List.map PV.bool p0.Pulled), .vs 1 (List.map PV.bool p0.Held)]) rfl rfl (Nat.succ_pos _) rfl rfl) rfl ?_
  refine Vk (Xe hn rfl tz_34 rfl rfl (Nat.succ_pos _) rfl) rfl ?_
  refine Vg ?_
  refine Vi ?_
  obtain ⟨x1, h2, hF⟩ := Ys hF
  obtain ⟨x3, h4, hF⟩ := Ys hF
  obtain ⟨x5, h6, hF⟩ := Ys hF
  obtain ⟨x7, h8, hF⟩ := Ys hF
  refine Wb [[], [0], [], [2], [2, 3], [], [5], [2, 3, 4, 5, 6], [], [8], [2, 3, 4, 5, 6, 7, 8, 9], [], [11], [2, 3, 4, 5, 6, 7, 8, 9, 10, 11, 12], [0, 1, 2, 3, 4, 5, 6, 7, 8, 9, 10, 11, 12, 13], [0, 1, 2, 3, 4, 5, 6, 7, 8, 9, 10, 11, 12, 13, 14]] [false, false, false, false, true, false, false, true, false, false, true, false, false, true, false, true] [(low, [⟨34, 5, [.agg [.int .i64 p0.Time, .vs 1 (List.map (PV.int .i64) p0.States), .vs 1 (List.map (PV.int .i64) p0.Since), .vs 1 (List.map PV.bool p0.Pulled), .vs 1 (List.map PV.bool p0.Held)]], 0⟩, ⟨34, 5, [.agg [.int .i64 0, .nils, .nils, .nils, .nils]], 0⟩]), (low, [⟨34, 5, [.agg [.int .i64 p0.Time, .vs 1 (List.map (PV.int .i64) p0.States), .vs 1 (List.map (PV.int .i64) p0.Since), .vs 1 (List.map PV.bool p0.Pulled), .vs 1 (List.map PV.bool p0.Held)]], 0⟩, ⟨34, 5, [.agg [.int .i64 0, .nils, .nils, .nils, .nils]], 0⟩, ⟨3, 1, List.map (PV.int .i64) x1, 0⟩]), (low, [⟨34, 5, [.agg [.int .i64 p0.Time, .vs 1 (List.map (PV.int .i64) p0.States), .vs 1 (List.map (PV.int .i64) p0.Since), .vs 1 (List.map PV.bool p0.Pulled), .vs 1 (List.map PV.bool p0.Held)]], 0⟩, ⟨34, 5, [.agg [.int .i64 0, .nils, .nils, .nils, .nils]], 0⟩, ⟨3, 1, List.map (PV.int .i64) x1, 0⟩, ⟨3, 1, List.map (PV.int .i64) x3, 0⟩]), (low, [⟨34, 5, [.agg [.int .i64 p0.Time, .vs 1 (List.map (PV.int .i64) p0.States), .vs 1 (List.map (PV.int .i64) p0.Since), .vs 1 (List.map PV.bool p0.Pulled), .vs 1 (List.map PV.bool p0.Held)]], 0⟩, ⟨34, 5, [.agg [.int .i64 0, .nils, .nils, .nils, .nils]], 0⟩, ⟨3, 1, List.map (PV.int .i64) x1, 0⟩, ⟨3, 1, List.map (PV.int .i64) x3, 0⟩, ⟨4, 1, List.map PV.bool x5, 0⟩]), (low, [⟨34, 5, [.agg [.int .i64 p0.Time, .vs 1 (List.map (PV.int .i64) p0.States), .vs 1 (List.map (PV.int .i64) p0.Since), .vs 1 (List.map PV.bool p0.Pulled), .vs 1 (List.map PV.bool p0.Held)]], 0⟩, ⟨34, 5, [.agg [.int .i64 0, .nils, .nils, .nils, .nils]], 0⟩, ⟨3, 1, List.map (PV.int .i64) x1, 0⟩, ⟨3, 1, List.map (PV.int .i64) x3, 0⟩, ⟨4, 1, List.map PV.bool x5, 0⟩, ⟨4, 1, List.map PV.bool x7, 0⟩]), (low, [⟨34, 5, [.agg [.int .i64 p0.Time, .vs 1 (List.map (PV.int .i64) p0.States), .vs 1 (List.map (PV.int .i64) p0.Since), .vs 1 (List.map PV.bool p0.Pulled), .vs 1 (List.map PV.bool p0.Held)]], 0⟩, ⟨34, 5, [.agg [.int .i64 p0.Time, .sl (n + 2) 0 0 (x1).length, .sl (n + 3) 0 0 (x3).length, .sl (n + 4) 0 0 (x5).length, .sl (n + 5) 0 0 (x7).length]], 0⟩, ⟨3, 1, List.map (PV.int .i64) x1, 0⟩, ⟨3, 1, List.map (PV.int .i64) x3, 0⟩, ⟨4, 1, List.map PV.bool x5, 0⟩, ⟨4, 1, List.map PV.bool x7, 0⟩])] mixed (by kernel_rfl) rfl (lenAll (Yg rfl (Yg rfl (Yg rfl (Yg rfl (Yg rfl (Yg rfl Zt))))))) rfl _ rfl rfl ?_
  refine Yy _ rfl rfl (Yg (Xh.ntl (Vc rfl tf_34_0 ts_3 (by decide))) (Yg (Xh.ntl (Vc rfl tf_34_0 ts_3 (by decide))) (Yg (Xh.ntl (Vc rfl tf_34_0 ts_3 (by decide))) (Yg (Xh.ntl (Vc rfl tf_34_0 ts_3 (by decide))) (Yg (Xh.ntl (Vc rfl tf_34_0 ts_3 (by decide))) Zt))))) ?_
  refine Yy _ rfl rfl (Yg (Xh.ntl (Vf rfl (Vd hn rfl) rfl ta_3 rfl)) (Yg (Xh.ntl (Vf rfl (Vd hn rfl) rfl ta_3 rfl)) (Yg (Xh.ntl (Vf rfl (Vd hn rfl) rfl ta_3 rfl)) (Yg (Xh.ntl (Vf rfl (Vd hn rfl) rfl ta_3 rfl)) (Yg (Xh.ntl (Vf rfl (Vd hn rfl) rfl ta_3 rfl)) Zt))))) ?_
  refine Yn rfl rfl (Vc rfl tf_34_1 ts_22 (by decide)) ?_
  refine Yn rfl rfl (Vf rfl (Vd hn rfl) rfl ta_22 rfl) ?_
  refine Zp rfl rfl rfl (vef_ap0N (f := (PV.int .i64)) (ys := p0.States) hn rfl (.inl rfl) rfl (src_vs rfl) (Nat.succ_pos _) te_22 ts_3 tb_3 (by decide) tz_3 rfl h2) ?_
  refine Yy _ rfl rfl (Yg (Xh.ntl (Vc rfl tf_34_2 ts_22 (by decide))) (Yg (Xh.ntl (Vc rfl tf_34_2 ts_22 (by decide))) Zt)) ?_
  refine Yy _ rfl rfl (Yg (Xh.ntl (Vf rfl (Vd hn rfl) rfl ta_22 rfl)) (Yg (Xh.ntl (Vf rfl (Vd hn rfl) rfl ta_22 rfl)) Zt)) ?_
  refine Zp rfl rfl rfl (vef_ap0N (f := (PV.int .i64)) (ys := p0.Since) hn rfl (.inl rfl) rfl (src_vs rfl) (Nat.succ_pos _) te_22 ts_3 tb_3 (by decide) tz_3 rfl h4) ?_
  refine Yy _ rfl rfl (Yg (Xh.ntl (Vc rfl tf_34_3 ts_32 (by decide))) (Yg (Xh.ntl (Vc rfl tf_34_3 ts_32 (by decide))) (Yg (Xh.ntl (Vc rfl tf_34_3 ts_32 (by decide))) Zt))) ?_
  refine Yy _ rfl rfl (Yg (Xh.ntl (Vf rfl (Vd hn rfl) rfl ta_32 rfl)) (Yg (Xh.ntl (Vf rfl (Vd hn rfl) rfl ta_32 rfl)) (Yg (Xh.ntl (Vf rfl (Vd hn rfl) rfl ta_32 rfl)) Zt))) ?_
  refine Zp rfl rfl rfl (vef_ap0N (f := PV.bool) (ys := p0.Pulled) hn rfl (.inl rfl) rfl (src_vs rfl) (Nat.succ_pos _) te_32 ts_4 tb_4 (by decide) tz_4 rfl h6) ?_
  refine Yy _ rfl rfl (Yg (Xh.ntl (Vc rfl tf_34_4 ts_32 (by decide))) (Yg (Xh.ntl (Vc rfl tf_34_4 ts_32 (by decide))) (Yg (Xh.ntl (Vc rfl tf_34_4 ts_32 (by decide))) (Yg (Xh.ntl (Vc rfl tf_34_4 ts_32 (by decide))) Zt)))) ?_
  refine Yy _ rfl rfl (Yg (Xh.ntl (Vf rfl (Vd hn rfl) rfl ta_32 rfl)) (Yg (Xh.ntl (Vf rfl (Vd hn rfl) rfl ta_32 rfl)) (Yg (Xh.ntl (Vf rfl (Vd hn rfl) rfl ta_32 rfl)) (Yg (Xh.ntl (Vf rfl (Vd hn rfl) rfl ta_32 rfl)) Zt)))) ?_
  refine Zp rfl rfl rfl (vef_ap0N (f := PV.bool) (ys := p0.Held) hn rfl (.inl rfl) rfl (src_vs rfl) (Nat.succ_pos _) te_32 ts_4 tb_4 (by decide) tz_4 rfl h8) ?_
  refine Yn rfl rfl (Wd (vs := [(0, .int .i64 p0.Time), (1, .sl (n + 2) 0 0 (x1).length), (2, .sl (n + 3) 0 0 (x3).length), (3, .sl (n + 4) 0 0 (x5).length), (4, .sl (n + 5) 0 0 (x7).length)]) (ds := [.int .i64 p0.Time, .sl (n + 2) 0 0 (x1).length, .sl (n + 3) 0 0 (x3).length, .sl (n + 4) 0 0 (x5).length, .sl (n + 5) 0 0 (x7).length]) tz_34 rfl rfl tp_34 ⟨rfl, rfl, rfl, rfl, rfl, rfl, rfl, rfl, rfl, rfl, trivial⟩ (nt_all2 rfl) rfl) ?_
  refine Zp rfl rfl rfl (Vx (p := .agg [.int .i64 p0.Time, .sl (n + 2) 0 0 (x1).length, .sl (n + 3) 0 0 (x3).length, .sl (n + 4) 0 0 (x5).length, .sl (n + 5) 0 0 (x7).length]) (e' := .agg [.int .i64 p0.Time, .sl (n + 2) 0 0 (x1).length, .sl (n + 3) 0 0 (x3).length, .sl (n + 4) 0 0 (x5).length, .sl (n + 5) 0 0 (x7).length]) rfl (Vd hn rfl) rfl rfl ts_34 rfl (Yc rfl) rfl (Nat.le_of_ble_eq_true rfl) rfl (Xr hn rfl)) ?_
  refine Yz ?_
  refine Xb ?_
  obtain rfl := Option.some.inj hF
  refine Zy ?_
  exact Vv hn [(2, 0), (3, 0), (4, 0), (5, 0), (1, 0)] (by decide) ⟨Yo 4 1 rfl rfl, trivial⟩ ⟨⟨_, rfl, rfl, .same _ _ _ _ (Vh (fun _ => .int _ _))⟩, ⟨_, rfl, rfl, .same _ _ _ _ (Vh (fun _ => .int _ _))⟩, ⟨_, rfl, rfl, .same _ _ _ _ (Vh (fun _ => .bool _))⟩, ⟨_, rfl, rfl, .same _ _ _ _ (Vh (fun _ => .bool _))⟩, ⟨_, rfl, rfl, .agg _ _ _ _ _ ⟨Vs rfl (.int _ _), Xu 0 2 rfl rfl, Xu 1 3 rfl rfl, Xu 2 4 rfl rfl, Xu 3 5 rfl rfl, trivial⟩⟩, trivial⟩
 ·rintro _ _ _ _ ⟨he, hw⟩
  refine ⟨_, _, _, hw, ?_⟩
  exact Zj hn 4 rfl (Nat.le_of_ble_eq_true rfl) he [.agg [.int .i64 r.Time, .sl (n + 0) 0 0 (r.States).length, .sl (n + 1) 0 0 (r.Since).length, .sl (n + 2) 0 0 (r.Pulled).length, .sl (n + 3) 0 0 (r.Held).length]] ⟨Vu rfl (Vd hn rfl) rfl ta_34 ts_34 rfl rfl rfl, trivial⟩ ((Xx ⟨.int _ _, .sl _ _ _ _ (Zr rfl), .sl _ _ _ _ (Zr rfl), .sl _ _ _ _ (Zr rfl), .sl _ _ _ _ (Zr rfl), trivial⟩)) ⟨Vh (fun _ => .int _ _), Vh (fun _ => .int _ _), Vh (fun _ => .bool _), Vh (fun _ => .bool _), trivial⟩ ⟨rfl, rfl⟩

theorem F_ref39_belts_ok {p0 : List T_Belt} {r : Bool} (hF : F_ref39_belts p0 = some r) (low : List AObj) :
    Yv Try.prog 44 [.vs 2 (List.map T_Belt.enc p0)] low fun x low' => x = .bool r ∧ low' = low := by
 refine Xc (nt := 86) (rs := [.tmp 2]) Try.func44 rfl rfl (Nat.le_of_ble_eq_true rfl) rfl ?_
 refine Vw (Q' := FnE (fun E' lw lc => Ya E' lw lc [(2, .bool r)] low [])) ?_ ?_
 ·unfold F_ref39_belts at hF
  refine Vi ?_
  refine Ve ?_
  refine Va (Xy rfl) rfl ?_
  refine Vg ?_
  refine Vi ?_
  refine Vi ?_
  obtain ⟨o1, ho1, hF⟩ := Ys hF
  refine Vw (Q' := (fun o1 => OnlyE .normal (fun E' lw lc => Ya E' lw lc [(0, .vs 2 (List.map T_Belt.enc p0)), (14, .bool o1)] low [])) o1) ?_ ?_
  ·replace hF := ho1
   refine Ve ?_
   rcases Bool.eq_false_or_eq_true (decide (((p0).length : Int) < 1)) with c2 | c2
   ·have hF := Yl c2 hF
    refine Va (Xd rfl) rfl ?_
    refine Va (Xi (Xo rfl rfl te_27) (congrArg (fun n : Nat => PV.int .i64 (n : Int)) (List.length_map _))) rfl ?_
    refine Va (Zo rfl rfl) rfl ?_
    refine Va (Vm rfl) rfl ?_
    refine Vb rfl rfl (Zh c2) rfl ?_
    refine Vb rfl rfl (Zh c2) rfl ?_
    refine Vb rfl rfl (Zh c2) rfl ?_
    refine Va (Vp (congrArg PV.bool c2) rfl) rfl ?_
    refine Vg ?_
    obtain rfl := Option.some.inj hF
    refine Xv ?_
    exact Vq ⟨rfl, rfl, trivial⟩
   ·have hF := Ym c2 hF
    refine Va (Xd rfl) rfl ?_
    refine Va (Xi (Xo rfl rfl te_27) (congrArg (fun n : Nat => PV.int .i64 (n : Int)) (List.length_map _))) rfl ?_
    refine Va (Zo rfl rfl) rfl ?_
    refine Va (Vm rfl) rfl ?_
    refine Vz rfl rfl c2 ?_
    refine Va (Xd rfl) rfl ?_
    refine Vz rfl rfl c2 ?_
    refine Va (Xi (Xo rfl rfl te_27) (congrArg (fun n : Nat => PV.int .i64 (n : Int)) (List.length_map _))) rfl ?_
    refine Vz rfl rfl c2 ?_
    refine Va (rd_gtr rfl rfl) rfl ?_
    refine Va (Vo (congrArg PV.bool c2) rfl) rfl ?_
    refine Vg ?_
    obtain rfl := Option.some.inj hF
    refine Xv ?_
    exact Vq ⟨rfl, rfl, trivial⟩
  ·rintro _ _ _ _ ⟨rfl, hw⟩
   refine ⟨_, _, _, hw, ?_⟩
   refine Xj rfl (fun c3 => ?_) (fun c3 => ?_)
   ·have hF := Yl c3 hF
    refine Vi ?_
    refine Ve ?_
    refine Va (Xy rfl) rfl ?_
    refine Vg ?_
    refine Xb ?_
    obtain rfl := Option.some.inj hF
    refine Zy ?_
    exact Vq ⟨rfl, trivial⟩
   ·have hF := Ym c3 hF
    refine Xq ?_
    refine Vi ?_
    refine Vi ?_
    refine Ve ?_
    refine Va (Xa rfl) rfl ?_
    refine Vg ?_
    refine Yk ?_
    obtain ⟨o5, ho5, hF⟩ := Ys hF
    refine Vw (Zu (F_ref39_belts_L1 p0) (fun s4 E' lw lc => Ya E' lw lc [(0, .vs 2 (List.map T_Belt.enc p0)), (3, .int .i64 s4)] low []) (Sum.elim (fun j6 => OnlyE .ret (fun E' lw lc => Ya E' lw lc [(2, .bool false)] low [])) (fun j7 => OnlyE (.exit 0) (fun E' lw lc => Ya E' lw lc [(0, .vs 2 (List.map T_Belt.enc p0))] low []))) ho5 ?_ (by rintro (_|_) _ _ _ ⟨h, _⟩ <;> cases h) ?_) ?_
    ·exact Vq ⟨rfl, rfl, trivial⟩
    ·rintro s4 os4 _ _ _ hF hw
     unfold F_ref39_belts_L1 at hF
     refine Ye hw ?_
     refine Vi ?_
     refine Vi ?_
     refine Ve ?_
     refine Va (Vj rfl) rfl ?_
     refine Va (Xd rfl) rfl ?_
     refine Va (Xi (Xo rfl rfl te_27) (congrArg (fun n : Nat => PV.int .i64 (n : Int)) (List.length_map _))) rfl ?_
     refine Va (Zo rfl rfl) rfl ?_
     refine Vg ?_
     refine Xj rfl (fun c8 => ?_) (fun c8 => ?_)
     ·have hF := Yl c8 hF
      refine Xq ?_
      refine Vi ?_
      refine Yk ?_
      refine Vi ?_
      obtain ⟨o9, ho9, hF⟩ := Ys hF
      refine Vw (Q' := (fun o9 => OnlyE .normal (fun E' lw lc => Ya E' lw lc [(0, .vs 2 (List.map T_Belt.enc p0)), (3, .int .i64 s4), (61, .bool o9)] low [])) o9) ?_ ?_
      ·replace hF := ho9
       refine Ve ?_
       obtain ⟨x10, h11, hF⟩ := Ys hF
       rcases Bool.eq_false_or_eq_true (decide (x10.Onto < (-1))) with c12 | c12
       ·have hF := Yl c12 hF
        refine Va (Xd rfl) rfl ?_
        refine Va (Vj rfl) rfl ?_
        refine Va (Xi (Yj rfl rfl h11 te_27 ts_31) (v' := .vptr [.int .i64 x10.Onto, .int .i64 x10.Warn] 0) rfl) rfl ?_
        refine Va (Yb rfl tf_31_0 ts_3 (by decide)) rfl ?_
        refine Va (Xg rfl ta_3 rfl) rfl ?_
        refine Va (Zo rfl rfl) rfl ?_
        refine Va (Vm rfl) rfl ?_
        refine Vb rfl rfl (Zh c12) rfl ?_
        refine Vb rfl rfl (Zh c12) rfl ?_
        refine Vb rfl rfl (Zh c12) rfl ?_
        refine Vb rfl rfl (Zh c12) rfl ?_
        refine Vb rfl rfl (Zh c12) rfl ?_
        refine Vb rfl rfl (Zh c12) rfl ?_
        refine Vb rfl rfl (Zh c12) rfl ?_
        refine Vb rfl rfl (Zh c12) rfl ?_
        refine Va (Vp (congrArg PV.bool c12) rfl) rfl ?_
        refine Va (Vm rfl) rfl ?_
        refine Vb rfl rfl (by decide) rfl ?_
        refine Vb rfl rfl (by decide) rfl ?_
        refine Vb rfl rfl (by decide) rfl ?_
        refine Vb rfl rfl (by decide) rfl ?_
        refine Vb rfl rfl (by decide) rfl ?_
        refine Vb rfl rfl (by decide) rfl ?_
        refine Vb rfl rfl (by decide) rfl ?_
        refine Va (Vp rfl rfl) rfl ?_
        refine Va (Vm rfl) rfl ?_
        refine Vb rfl rfl (by decide) rfl ?_
        refine Vb rfl rfl (by decide) rfl ?_
        refine Vb rfl rfl (by decide) rfl ?_
        refine Vb rfl rfl (by decide) rfl ?_
        refine Vb rfl rfl (by decide) rfl ?_
        refine Vb rfl rfl (by decide) rfl ?_
        refine Va (Vp rfl rfl) rfl ?_
        refine Va (Vm rfl) rfl ?_
        refine Vb rfl rfl (by decide) rfl ?_
        refine Vb rfl rfl (by decide) rfl ?_
        refine Vb rfl rfl (by decide) rfl ?_
        refine Vb rfl rfl (by decide) rfl ?_
        refine Vb rfl rfl (by decide) rfl ?_
        refine Vb rfl rfl (by decide) rfl ?_
        refine Va (Vp rfl rfl) rfl ?_
        refine Vg ?_
        obtain rfl := Option.some.inj hF
        refine Xv ?_
        exact Vq ⟨rfl, rfl, rfl, trivial⟩
       ·have hF := Ym c12 hF
        obtain ⟨x13, h14, hF⟩ := Ys hF
        rcases Bool.eq_false_or_eq_true (decide (((p0).length : Int) ≤ x13.Onto)) with c15 | c15
        ·have hF := Yl c15 hF
         refine Va (Xd rfl) rfl ?_
         refine Va (Vj rfl) rfl ?_
         refine Va (Xi (Yj rfl rfl h11 te_27 ts_31) (v' := .vptr [.int .i64 x10.Onto, .int .i64 x10.Warn] 0) rfl) rfl ?_
         refine Va (Yb rfl tf_31_0 ts_3 (by decide)) rfl ?_
         refine Va (Xg rfl ta_3 rfl) rfl ?_
         refine Va (Zo rfl rfl) rfl ?_
         refine Va (Vm rfl) rfl ?_
         refine Vz rfl rfl c12 ?_
         refine Va (Xd rfl) rfl ?_
         refine Vz rfl rfl c12 ?_
         refine Va (Vj rfl) rfl ?_
         refine Vz rfl rfl c12 ?_
         refine Va (Xi (Yj rfl rfl h14 te_27 ts_31) (v' := .vptr [.int .i64 x13.Onto, .int .i64 x13.Warn] 0) rfl) rfl ?_
         refine Vz rfl rfl c12 ?_
         refine Va (Yb rfl tf_31_0 ts_3 (by decide)) rfl ?_
         refine Vz rfl rfl c12 ?_
         refine Va (Xg rfl ta_3 rfl) rfl ?_
         refine Vz rfl rfl c12 ?_
         refine Va (Xd rfl) rfl ?_
         refine Vz rfl rfl c12 ?_
         refine Va (Xi (Xo rfl rfl te_27) (congrArg (fun n : Nat => PV.int .i64 (n : Int)) (List.length_map _))) rfl ?_
         refine Vz rfl rfl c12 ?_
         refine Va (rd_geq rfl rfl) rfl ?_
         refine Va (Vo (congrArg PV.bool c12) rfl) rfl ?_
         refine Va (Vm rfl) rfl ?_
         refine Vb rfl rfl (Zh c15) rfl ?_
         refine Vb rfl rfl (Zh c15) rfl ?_
         refine Vb rfl rfl (Zh c15) rfl ?_
         refine Vb rfl rfl (Zh c15) rfl ?_
         refine Vb rfl rfl (Zh c15) rfl ?_
         refine Vb rfl rfl (Zh c15) rfl ?_
         refine Vb rfl rfl (Zh c15) rfl ?_
         refine Va (Vp (congrArg PV.bool c15) rfl) rfl ?_
         refine Va (Vm rfl) rfl ?_
         refine Vb rfl rfl (by decide) rfl ?_
         refine Vb rfl rfl (by decide) rfl ?_
         refine Vb rfl rfl (by decide) rfl ?_
         refine Vb rfl rfl (by decide) rfl ?_
         refine Vb rfl rfl (by decide) rfl ?_
         refine Vb rfl rfl (by decide) rfl ?_
         refine Va (Vp rfl rfl) rfl ?_
         refine Va (Vm rfl) rfl ?_
         refine Vb rfl rfl (by decide) rfl ?_
         refine Vb rfl rfl (by decide) rfl ?_
         refine Vb rfl rfl (by decide) rfl ?_
         refine Vb rfl rfl (by decide) rfl ?_
         refine Vb rfl rfl (by decide) rfl ?_
         refine Vb rfl rfl (by decide) rfl ?_
         refine Va (Vp rfl rfl) rfl ?_
         refine Vg ?_
         obtain rfl := Option.some.inj hF
         refine Xv ?_
         exact Vq ⟨rfl, rfl, rfl, trivial⟩
        ·have hF := Ym c15 hF
         obtain ⟨x16, h17, hF⟩ := Ys hF
         rcases Bool.eq_false_or_eq_true (decide (x16.Onto = s4)) with c18 | c18
         ·have hF := Yl c18 hF
          refine Va (Xd rfl) rfl ?_
          refine Va (Vj rfl) rfl ?_
          refine Va (Xi (Yj rfl rfl h11 te_27 ts_31) (v' := .vptr [.int .i64 x10.Onto, .int .i64 x10.Warn] 0) rfl) rfl ?_
          refine Va (Yb rfl tf_31_0 ts_3 (by decide)) rfl ?_
          refine Va (Xg rfl ta_3 rfl) rfl ?_
          refine Va (Zo rfl rfl) rfl ?_
          refine Va (Vm rfl) rfl ?_
          refine Vz rfl rfl c12 ?_
          refine Va (Xd rfl) rfl ?_
          refine Vz rfl rfl c12 ?_
          refine Va (Vj rfl) rfl ?_
          refine Vz rfl rfl c12 ?_
          refine Va (Xi (Yj rfl rfl h14 te_27 ts_31) (v' := .vptr [.int .i64 x13.Onto, .int .i64 x13.Warn] 0) rfl) rfl ?_
          refine Vz rfl rfl c12 ?_
          refine Va (Yb rfl tf_31_0 ts_3 (by decide)) rfl ?_
          refine Vz rfl rfl c12 ?_
          refine Va (Xg rfl ta_3 rfl) rfl ?_
          refine Vz rfl rfl c12 ?_
          refine Va (Xd rfl) rfl ?_
          refine Vz rfl rfl c12 ?_
          refine Va (Xi (Xo rfl rfl te_27) (congrArg (fun n : Nat => PV.int .i64 (n : Int)) (List.length_map _))) rfl ?_
          refine Vz rfl rfl c12 ?_
          refine Va (rd_geq rfl rfl) rfl ?_
          refine Va (Vo (congrArg PV.bool c12) rfl) rfl ?_
          refine Va (Vm rfl) rfl ?_
          refine Vz rfl rfl c15 ?_
          refine Va (Xd rfl) rfl ?_
          refine Vz rfl rfl c15 ?_
          refine Va (Vj rfl) rfl ?_
          refine Vz rfl rfl c15 ?_
          refine Va (Xi (Yj rfl rfl h17 te_27 ts_31) (v' := .vptr [.int .i64 x16.Onto, .int .i64 x16.Warn] 0) rfl) rfl ?_
          refine Vz rfl rfl c15 ?_
          refine Va (Yb rfl tf_31_0 ts_3 (by decide)) rfl ?_
          refine Vz rfl rfl c15 ?_
          refine Va (Xg rfl ta_3 rfl) rfl ?_
          refine Vz rfl rfl c15 ?_
          refine Va (Vj rfl) rfl ?_
          refine Vz rfl rfl c15 ?_
          refine Va (Xm rfl rfl) rfl ?_
          refine Va (Vo (congrArg PV.bool c15) rfl) rfl ?_
          refine Va (Vm rfl) rfl ?_
          refine Vb rfl rfl (Zh c18) rfl ?_
          refine Vb rfl rfl (Zh c18) rfl ?_
          refine Vb rfl rfl (Zh c18) rfl ?_
          refine Vb rfl rfl (Zh c18) rfl ?_
          refine Vb rfl rfl (Zh c18) rfl ?_
          refine Vb rfl rfl (Zh c18) rfl ?_
          refine Va (Vp (congrArg PV.bool c18) rfl) rfl ?_
          refine Va (Vm rfl) rfl ?_
          refine Vb rfl rfl (by decide) rfl ?_
          refine Vb rfl rfl (by decide) rfl ?_
          refine Vb rfl rfl (by decide) rfl ?_
          refine Vb rfl rfl (by decide) rfl ?_
          refine Vb rfl rfl (by decide) rfl ?_
          refine Vb rfl rfl (by decide) rfl ?_
          refine Va (Vp rfl rfl) rfl ?_
          refine Vg ?_
          obtain rfl := Option.some.inj hF
          refine Xv ?_
          exact Vq ⟨rfl, rfl, rfl, trivial⟩
         ·have hF := Ym c18 hF
          obtain ⟨x19, h20, hF⟩ := Ys hF
          rcases Bool.eq_false_or_eq_true (decide (x19.Warn < 0)) with c21 | c21
          ·have hF := Yl c21 hF
           refine Va (Xd rfl) rfl ?_
           refine Va (Vj rfl) rfl ?_
           refine Va (Xi (Yj rfl rfl h11 te_27 ts_31) (v' := .vptr [.int .i64 x10.Onto, .int .i64 x10.Warn] 0) rfl) rfl ?_
           refine Va (Yb rfl tf_31_0 ts_3 (by decide)) rfl ?_
           refine Va (Xg rfl ta_3 rfl) rfl ?_
           refine Va (Zo rfl rfl) rfl ?_
           refine Va (Vm rfl) rfl ?_
           refine Vz rfl rfl c12 ?_
           refine Va (Xd rfl) rfl ?_
           refine Vz rfl rfl c12 ?_
           refine Va (Vj rfl) rfl ?_
           refine Vz rfl rfl c12 ?_
           refine Va (Xi (Yj rfl rfl h14 te_27 ts_31) (v' := .vptr [.int .i64 x13.Onto, .int .i64 x13.Warn] 0) rfl) rfl ?_
           refine Vz rfl rfl c12 ?_
           refine Va (Yb rfl tf_31_0 ts_3 (by decide)) rfl ?_
           refine Vz rfl rfl c12 ?_
           refine Va (Xg rfl ta_3 rfl) rfl ?_
           refine Vz rfl rfl c12 ?_
           refine Va (Xd rfl) rfl ?_
           refine Vz rfl rfl c12 ?_
           refine Va (Xi (Xo rfl rfl te_27) (congrArg (fun n : Nat => PV.int .i64 (n : Int)) (List.length_map _))) rfl ?_
           refine Vz rfl rfl c12 ?_
           refine Va (rd_geq rfl rfl) rfl ?_
           refine Va (Vo (congrArg PV.bool c12) rfl) rfl ?_
           refine Va (Vm rfl) rfl ?_
           refine Vz rfl rfl c15 ?_
           refine Va (Xd rfl) rfl ?_
           refine Vz rfl rfl c15 ?_
           refine Va (Vj rfl) rfl ?_
           refine Vz rfl rfl c15 ?_
           refine Va (Xi (Yj rfl rfl h17 te_27 ts_31) (v' := .vptr [.int .i64 x16.Onto, .int .i64 x16.Warn] 0) rfl) rfl ?_
           refine Vz rfl rfl c15 ?_
           refine Va (Yb rfl tf_31_0 ts_3 (by decide)) rfl ?_
           refine Vz rfl rfl c15 ?_
           refine Va (Xg rfl ta_3 rfl) rfl ?_
           refine Vz rfl rfl c15 ?_
           refine Va (Vj rfl) rfl ?_
           refine Vz rfl rfl c15 ?_
           refine Va (Xm rfl rfl) rfl ?_
           refine Va (Vo (congrArg PV.bool c15) rfl) rfl ?_
           refine Va (Vm rfl) rfl ?_
           refine Vz rfl rfl c18 ?_
           refine Va (Xd rfl) rfl ?_
           refine Vz rfl rfl c18 ?_
           refine Va (Vj rfl) rfl ?_
           refine Vz rfl rfl c18 ?_
           refine Va (Xi (Yj rfl rfl h20 te_27 ts_31) (v' := .vptr [.int .i64 x19.Onto, .int .i64 x19.Warn] 0) rfl) rfl ?_
           refine Vz rfl rfl c18 ?_
           refine Va (Yb rfl tf_31_1 ts_3 (by decide)) rfl ?_
           refine Vz rfl rfl c18 ?_
           refine Va (Xg rfl ta_3 rfl) rfl ?_
           refine Vz rfl rfl c18 ?_
           refine Va (Zo rfl rfl) rfl ?_
           refine Va (Vo (congrArg PV.bool c18) rfl) rfl ?_
           refine Va (Vm rfl) rfl ?_
           refine Vb rfl rfl (Zh c21) rfl ?_
           refine Vb rfl rfl (Zh c21) rfl ?_
           refine Vb rfl rfl (Zh c21) rfl ?_
           refine Vb rfl rfl (Zh c21) rfl ?_
           refine Vb rfl rfl (Zh c21) rfl ?_
           refine Vb rfl rfl (Zh c21) rfl ?_
           refine Va (Vp (congrArg PV.bool c21) rfl) rfl ?_
           refine Vg ?_
           obtain rfl := Option.some.inj hF
           refine Xv ?_
           exact Vq ⟨rfl, rfl, rfl, trivial⟩
          ·have hF := Ym c21 hF
           obtain ⟨x22, h23, hF⟩ := Ys hF
           refine Va (Xd rfl) rfl ?_
           refine Va (Vj rfl) rfl ?_
           refine Va (Xi (Yj rfl rfl h11 te_27 ts_31) (v' := .vptr [.int .i64 x10.Onto, .int .i64 x10.Warn] 0) rfl) rfl ?_
           refine Va (Yb rfl tf_31_0 ts_3 (by decide)) rfl ?_
           refine Va (Xg rfl ta_3 rfl) rfl ?_
           refine Va (Zo rfl rfl) rfl ?_
           refine Va (Vm rfl) rfl ?_
           refine Vz rfl rfl c12 ?_
           refine Va (Xd rfl) rfl ?_
           refine Vz rfl rfl c12 ?_
           refine Va (Vj rfl) rfl ?_
           refine Vz rfl rfl c12 ?_
           refine Va (Xi (Yj rfl rfl h14 te_27 ts_31) (v' := .vptr [.int .i64 x13.Onto, .int .i64 x13.Warn] 0) rfl) rfl ?_
           refine Vz rfl rfl c12 ?_
           refine Va (Yb rfl tf_31_0 ts_3 (by decide)) rfl ?_
           refine Vz rfl rfl c12 ?_
           refine Va (Xg rfl ta_3 rfl) rfl ?_
           refine Vz rfl rfl c12 ?_
           refine Va (Xd rfl) rfl ?_
           refine Vz rfl rfl c12 ?_
           refine Va (Xi (Xo rfl rfl te_27) (congrArg (fun n : Nat => PV.int .i64 (n : Int)) (List.length_map _))) rfl ?_
           refine Vz rfl rfl c12 ?_
           refine Va (rd_geq rfl rfl) rfl ?_
           refine Va (Vo (congrArg PV.bool c12) rfl) rfl ?_
           refine Va (Vm rfl) rfl ?_
           refine Vz rfl rfl c15 ?_
           refine Va (Xd rfl) rfl ?_
           refine Vz rfl rfl c15 ?_
           refine Va (Vj rfl) rfl ?_
           refine Vz rfl rfl c15 ?_
           refine Va (Xi (Yj rfl rfl h17 te_27 ts_31) (v' := .vptr [.int .i64 x16.Onto, .int .i64 x16.Warn] 0) rfl) rfl ?_
           refine Vz rfl rfl c15 ?_
           refine Va (Yb rfl tf_31_0 ts_3 (by decide)) rfl ?_
           refine Vz rfl rfl c15 ?_
           refine Va (Xg rfl ta_3 rfl) rfl ?_
           refine Vz rfl rfl c15 ?_
           refine Va (Vj rfl) rfl ?_
           refine Vz rfl rfl c15 ?_
           refine Va (Xm rfl rfl) rfl ?_
           refine Va (Vo (congrArg PV.bool c15) rfl) rfl ?_
           refine Va (Vm rfl) rfl ?_
           refine Vz rfl rfl c18 ?_
           refine Va (Xd rfl) rfl ?_
           refine Vz rfl rfl c18 ?_
           refine Va (Vj rfl) rfl ?_
           refine Vz rfl rfl c18 ?_
           refine Va (Xi (Yj rfl rfl h20 te_27 ts_31) (v' := .vptr [.int .i64 x19.Onto, .int .i64 x19.Warn] 0) rfl) rfl ?_
           refine Vz rfl rfl c18 ?_
           refine Va (Yb rfl tf_31_1 ts_3 (by decide)) rfl ?_
           refine Vz rfl rfl c18 ?_
           refine Va (Xg rfl ta_3 rfl) rfl ?_
           refine Vz rfl rfl c18 ?_
           refine Va (Zo rfl rfl) rfl ?_
           refine Va (Vo (congrArg PV.bool c18) rfl) rfl ?_
           refine Va (Vm rfl) rfl ?_
           refine Vz rfl rfl c21 ?_
           refine Va (Xd rfl) rfl ?_
           refine Vz rfl rfl c21 ?_
           refine Va (Vj rfl) rfl ?_
           refine Vz rfl rfl c21 ?_
           refine Va (Xi (Yj rfl rfl h23 te_27 ts_31) (v' := .vptr [.int .i64 x22.Onto, .int .i64 x22.Warn] 0) rfl) rfl ?_
           refine Vz rfl rfl c21 ?_
           refine Va (Yb rfl tf_31_1 ts_3 (by decide)) rfl ?_
           refine Vz rfl rfl c21 ?_
           refine Va (Xg rfl ta_3 rfl) rfl ?_
           refine Vz rfl rfl c21 ?_
           refine Va (rd_gtr rfl rfl) rfl ?_
           refine Va (Vo (congrArg PV.bool c21) rfl) rfl ?_
           refine Vg ?_
           obtain rfl := Option.some.inj hF
           refine Xv ?_
           exact Vq ⟨rfl, rfl, rfl, trivial⟩
      ·rintro _ _ _ _ ⟨rfl, hw⟩
       refine ⟨_, _, _, hw, ?_⟩
       refine Xj rfl (fun c24 => ?_) (fun c24 => ?_)
       ·have hF := Yl c24 hF
        refine Vi ?_
        refine Ve ?_
        refine Va (Xy rfl) rfl ?_
        refine Vg ?_
        refine Xb ?_
        obtain rfl := Option.some.inj hF
        refine Xv ?_
        exact Vq ⟨rfl, trivial⟩
       ·have hF := Ym c24 hF
        refine Xq ?_
        refine Ve ?_
        refine Va (Vj rfl) rfl ?_
        refine Va (rd_add rfl rfl rfl) rfl ?_
        refine Va (Xa rfl) rfl ?_
        refine Vg ?_
        obtain rfl := Option.some.inj hF
        refine Xv ?_
        exact Vq ⟨rfl, rfl, trivial⟩
     ·have hF := Ym c8 hF
      refine We ?_
      obtain rfl := Option.some.inj hF
      refine Xv ?_
      exact Vq ⟨rfl, trivial⟩
    ·rcases o5 with j6 | j7
     ·replace hF := elimL hF
      rintro _ _ _ _ ⟨rfl, hw⟩
      refine ⟨_, _, _, hw, ?_⟩
      obtain rfl := Option.some.inj hF
      refine Zy ?_
      exact Vq ⟨rfl, trivial⟩
     ·replace hF := elimR hF
      rintro _ _ _ _ ⟨rfl, hw⟩
      refine ⟨_, _, _, hw, ?_⟩
      refine Vi ?_
      refine Vi ?_
      refine Ve ?_
      refine Va (Xa rfl) rfl ?_
      refine Vg ?_
      refine Yk ?_
      obtain ⟨o26, ho26, hF⟩ := Ys hF
      refine Vw (Zu (F_ref39_belts_L2 p0) (fun s25 E' lw lc => Ya E' lw lc [(0, .vs 2 (List.map T_Belt.enc p0)), (4, .int .i64 s25)] low []) (Sum.elim (fun j27 => OnlyE .ret (fun E' lw lc => Ya E' lw lc [(2, .bool false)] low [])) (fun j28 => OnlyE (.exit 2) (fun E' lw lc => Ya E' lw lc [] low []))) ho26 ?_ (by rintro (_|_) _ _ _ ⟨h, _⟩ <;> cases h) ?_) ?_
      ·exact Vq ⟨rfl, rfl, trivial⟩
      ·rintro s25 os25 _ _ _ hF hw
       unfold F_ref39_belts_L2 at hF
       refine Ye hw ?_
       refine Vi ?_
       refine Vi ?_
       refine Ve ?_
       refine Va (Vj rfl) rfl ?_
       refine Va (Xd rfl) rfl ?_
       refine Va (Xi (Xo rfl rfl te_27) (congrArg (fun n : Nat => PV.int .i64 (n : Int)) (List.length_map _))) rfl ?_
       refine Va (Zo rfl rfl) rfl ?_
       refine Vg ?_
       refine Xj rfl (fun c29 => ?_) (fun c29 => ?_)
       ·have hF := Yl c29 hF
        refine Xq ?_
        refine Vi ?_
        refine Yk ?_
        refine Vi ?_
        refine Ve ?_
        obtain ⟨x30, h31, hF⟩ := Ys hF
        refine Va (Xd rfl) rfl ?_
        refine Va (Vj rfl) rfl ?_
        refine Va (Xi (Yj rfl rfl h31 te_27 ts_31) (v' := .vptr [.int .i64 x30.Onto, .int .i64 x30.Warn] 0) rfl) rfl ?_
        refine Va (Yb rfl tf_31_0 ts_3 (by decide)) rfl ?_
        refine Va (Xg rfl ta_3 rfl) rfl ?_
        refine Va (Xa rfl) rfl ?_
        refine Vg ?_
        refine Vi ?_
        refine Ve ?_
        refine Va (Xa rfl) rfl ?_
        refine Vg ?_
        refine Yk ?_
        obtain ⟨o33, ho33, hF⟩ := Ys hF
        refine Vw (Zu (F_ref39_belts_L3 p0) (fun s32 E' lw lc => Ya E' lw lc [(0, .vs 2 (List.map T_Belt.enc p0)), (4, .int .i64 s25), (5, .int .i64 s32.1), (6, .int .i64 s32.2)] low []) (Sum.elim (fun j34 => OnlyE .ret (fun E' lw lc => Ya E' lw lc [(2, .bool false)] low [])) (fun j35 => OnlyE (.exit 4) (fun E' lw lc => Ya E' lw lc [(0, .vs 2 (List.map T_Belt.enc p0)), (4, .int .i64 s25)] low []))) ho33 ?_ (by rintro (_|_) _ _ _ ⟨h, _⟩ <;> cases h) ?_) ?_
        ·exact Vq ⟨rfl, rfl, rfl, rfl, trivial⟩
        ·rintro s32 os32 _ _ _ hF hw
         unfold F_ref39_belts_L3 at hF
         refine Ye hw ?_
         refine Vi ?_
         refine Vi ?_
         refine Ve ?_
         refine Va (Vj rfl) rfl ?_
         refine Va (rd_geq rfl rfl) rfl ?_
         refine Vg ?_
         refine Xj rfl (fun c36 => ?_) (fun c36 => ?_)
         ·have hF := Yl c36 hF
          refine Xq ?_
          refine Vi ?_
          refine Yk ?_
          refine Vi ?_
          refine Vi ?_
          refine Ve ?_
          refine Va (Vj rfl) rfl ?_
          refine Va (Xd rfl) rfl ?_
          refine Va (Xi (Xo rfl rfl te_27) (congrArg (fun n : Nat => PV.int .i64 (n : Int)) (List.length_map _))) rfl ?_
          refine Va (rd_gtr rfl rfl) rfl ?_
          refine Vg ?_
          refine Xj rfl (fun c37 => ?_) (fun c37 => ?_)
          ·have hF := Yl c37 hF
           refine Vi ?_
           refine Ve ?_
           refine Va (Xy rfl) rfl ?_
           refine Vg ?_
           refine Xb ?_
           obtain rfl := Option.some.inj hF
           refine Xv ?_
           exact Vq ⟨rfl, trivial⟩
          ·have hF := Ym c37 hF
           refine Xq ?_
           refine Ve ?_
           obtain ⟨x38, h39, hF⟩ := Ys hF
           refine Va (Xd rfl) rfl ?_
           refine Va (Vj rfl) rfl ?_
           refine Va (Xi (Yj rfl rfl h39 te_27 ts_31) (v' := .vptr [.int .i64 x38.Onto, .int .i64 x38.Warn] 0) rfl) rfl ?_
           refine Va (Yb rfl tf_31_0 ts_3 (by decide)) rfl ?_
           refine Va (Xg rfl ta_3 rfl) rfl ?_
           refine Va (Xa rfl) rfl ?_
           refine Vg ?_
           refine Ve ?_
           refine Va (Vj rfl) rfl ?_
           refine Va (rd_add rfl rfl rfl) rfl ?_
           refine Va (Xa rfl) rfl ?_
           refine Vg ?_
           obtain rfl := Option.some.inj hF
           refine Xv ?_
           exact Vq ⟨rfl, rfl, rfl, rfl, trivial⟩
         ·have hF := Ym c36 hF
          refine We ?_
          obtain rfl := Option.some.inj hF
          refine Xv ?_
          exact Vq ⟨rfl, rfl, trivial⟩
        ·rcases o33 with j34 | j35
         ·replace hF := elimL hF
          rintro _ _ _ _ ⟨rfl, hw⟩
          refine ⟨_, _, _, hw, ?_⟩
          obtain rfl := Option.some.inj hF
          refine Xv ?_
          exact Vq ⟨rfl, trivial⟩
         ·replace hF := elimR hF
          rintro _ _ _ _ ⟨rfl, hw⟩
          refine ⟨_, _, _, hw, ?_⟩
          refine Ve ?_
          refine Va (Vj rfl) rfl ?_
          refine Va (rd_add rfl rfl rfl) rfl ?_
          refine Va (Xa rfl) rfl ?_
          refine Vg ?_
          obtain rfl := Option.some.inj hF
          refine Xv ?_
          exact Vq ⟨rfl, rfl, trivial⟩
       ·have hF := Ym c29 hF
        refine We ?_
        obtain rfl := Option.some.inj hF
        refine Xv ?_
        exact Vq trivial
      ·rcases o26 with j27 | j28
       ·replace hF := elimL hF
        rintro _ _ _ _ ⟨rfl, hw⟩
        refine ⟨_, _, _, hw, ?_⟩
        obtain rfl := Option.some.inj hF
        refine Zy ?_
        exact Vq ⟨rfl, trivial⟩
       ·replace hF := elimR hF
        rintro _ _ _ _ ⟨rfl, hw⟩
        refine ⟨_, _, _, hw, ?_⟩
        refine Vi ?_
        refine Ve ?_
        refine Va (Xy rfl) rfl ?_
        refine Vg ?_
        refine Xb ?_
        obtain rfl := Option.some.inj hF
        refine Zy ?_
        exact Vq ⟨rfl, trivial⟩
 ·rintro _ _ _ _ ⟨he, hw⟩
  refine ⟨_, _, _, hw, ?_⟩
  exact Ze he [.bool r] ⟨rfl, trivial⟩ (.bool _) ⟨rfl, rfl⟩

end Go.Proofs.Ytmomjhbinkmefaa
