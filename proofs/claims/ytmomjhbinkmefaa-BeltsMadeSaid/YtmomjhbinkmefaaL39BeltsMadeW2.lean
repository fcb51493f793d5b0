/- Printed by wip/lift/lift.py: the walks that show that the program computes them. -/
import Derived.Test.YtmomjhbinkmefaaL39BeltsMadeW1
namespace Go.Proofs.Ytmomjhbinkmefaa
open Go Go.Aml Go.L
attribute [local irreducible] VRd VEf VOp VOps VWp DOps
set_option linter.unusedVariables false
open Go.Aml renaming vops_rd → Va, vops_skip → Vb, rd_fieldAddr → Vc, vwp_region → Vd, getO_N → Ve, vops_nil → Vf, rd_load1 → Vg, ltObj_map → Vh, vwp_seq → Vi, vops_efE → Vj, rd_mvI → Vk, cv_same → Vl, rd_mvB → Vm, rd_pickF → Vn, rd_pickT → Vo, weak_sub → Vp, dops_skip → Vq, rn_low → Vr, lenS → Vs, weak_pick → Vt, vef_into → Vu, rd_loadN → Vv, vwp_monoW → Vw, full_take → Vx, vef_store → Vy, vcalls_of_body → Vz, rd_asI → Xa, vwp_ret → Xb, rd_mvV → Xc, vt1 → Xd, vef_allocN → Xe, VRd → Xf, vef_callN → Xg, vwp_cond → Xh, len_app → Xi, rd_loadV1 → Xj, rd_to → Xk, rd_eql → Xl, weak_freezeN → Xm, vwp_skip → Xn, len_setL → Xo, vef_callP → Xp, rn_sl → Xq, setO_N → Xr, rx1 → Xs, ltObj_es → Xt, rd_extract → Xu, rd_lenV → Xv, lt_agg → Xw, all1 → Xx, onlyE → Xy, rd_asB → Xz, lt_map → Ya, Weak → Yb, dopx_rd → Yc, vwp_weak → Yd, nt_ne → Ye, rd_fieldVaddr → Yf, dops_skipX → Yg, vwp_block → Yh, dops_rdW → Yi, rn_ptr → Yj, mv_sl → Yk, rd_ixV → Yl, dr1 → Ym, vef_mkN → Yn, bifT → Yo, bifF → Yp, sets_own → Yq, cvo_agg → Yr, VCalls → Ys, bnd → Yt, allx1 → Yu, ne_low' → Yv, getO_B → Yw, ne_own → Yx, weak_room → Yy, dops_nil → Yz, view_same → Za, getI_some → Zb, vef_boxN → Zc, bodyQ_pure → Zd, rd_neq → Ze, dopx_ef → Zf, vef_callS → Zg, dops_ef → Zh, view_sl → Zi, cv_sl → Zj, vwp_drawn0 → Zk, sets_nil → Zl, bodyQ_some → Zm, all0 → Zn, neT → Zo, rd_not → Zp, rd_mvP → Zq, rd_lss → Zr, na1 → Zs, get_N → Zt, dt1 → Zu, rd_nilPtr → Zv, lt_kk → Zw, vcalls_low → Zx, ex1 → Zy, neF → Zz, rd_ixS → Wa, vwp_loopC → Wb, vwp_drawn → Wc, sets_B → Wd, bor_start → We, borC → Wf, fnR → Wg, rd_build → Wh, vwp_exit → Wi, mv_ptr → Wj, rd_add → Wk, vef_stL → Wl, lp_some → Wm, lp_bindE → Wn, nt_all2 → Wo, get_B → Wp
open List renaming map → Wq
open Go.Aml.PV renaming int → Wr
open Go.Aml.PV renaming bool → Ws
open Option.some renaming inj → Wt
open Nat renaming le_of_ble_eq_true → Wu
open Nat renaming succ_pos → Wv
open Bool renaming eq_false_or_eq_true → Ww
open List renaming length_map → Wx
set_option maxHeartbeats 4000000

theorem F_belts_stop_ok0 {p0 : List T_Belt} {p1 : T_Line} {p2 : Int} {r : T_Line} (hF : F_belts_stop p0 p1 p2 = some r) {low0 : List AObj} {q0 q1 q2 q3 q4 w0 w1 w2 w3 w4 : Nat} (hB : Bor low0 [q0, q1, q2, q3, q4]) {m1 : Nat} (hm1 : m1 = (p1.States).length) {m2 : Nat} (hm2 : m2 = (p1.Since).length) {m3 : Nat} (hm3 : m3 = (p1.Pulled).length) {m4 : Nat} (hm4 : m4 = (p1.Held).length) {n : Nat} (hn : low0.length = n) :
    Ys Try.prog 36 [.vs 2 (Wq T_Belt.enc p0), .ptr q0 w0 0 0, .int .i64 p2] (setL low0 [(q0, ⟨34, 5, [.agg [.int .i64 p1.Time, .sl q1 w1 0 m1, .sl q2 w2 0 m2, .sl q3 w3 0 m3, .sl q4 w4 0 m4]], w0⟩), (q1, ⟨3, 1, Wq (Wr .i64) p1.States, w1⟩), (q2, ⟨3, 1, Wq (Wr .i64) p1.Since, w2⟩), (q3, ⟨4, 1, Wq Ws p1.Pulled, w3⟩), (q4, ⟨4, 1, Wq Ws p1.Held, w4⟩)]) fun x low' => x = .tup [] ∧ low' = setL low0 [(q0, ⟨34, 5, [.agg [.int .i64 r.Time, .sl q1 w1 0 m1, .sl q2 w2 0 m2, .sl q3 w3 0 m3, .sl q4 w4 0 m4]], w0⟩), (q1, ⟨3, 1, Wq (Wr .i64) r.States, w1⟩), (q2, ⟨3, 1, Wq (Wr .i64) r.Since, w2⟩), (q3, ⟨4, 1, Wq Ws r.Pulled, w3⟩), (q4, ⟨4, 1, Wq Ws r.Held, w4⟩)] ++ [] := by
 refine Vz (nt := 48) (rs := []) Try.func36 rfl rfl (Wu rfl) rfl ?_
 have hq0 : q0 < n := hB.ltN hn 0 rfl
 have hq1 : q1 < n := hB.ltN hn 1 rfl
 have hq2 : q2 < n := hB.ltN hn 2 rfl
 have hq3 : q3 < n := hB.ltN hn 3 rfl
 have hq4 : q4 < n := hB.ltN hn 4 rfl
 refine Vw (Q' := FnE (fun E' lw lc => m1 = (r.States).length ∧ m2 = (r.Since).length ∧ m3 = (r.Pulled).length ∧ m4 = (r.Held).length ∧ Yb E' lw lc [] (setL low0 [(q0, ⟨34, 5, [.agg [.int .i64 r.Time, .sl q1 w1 0 m1, .sl q2 w2 0 m2, .sl q3 w3 0 m3, .sl q4 w4 0 m4]], w0⟩), (q1, ⟨3, 1, Wq (Wr .i64) r.States, w1⟩), (q2, ⟨3, 1, Wq (Wr .i64) r.Since, w2⟩), (q3, ⟨4, 1, Wq Ws r.Pulled, w3⟩), (q4, ⟨4, 1, Wq Ws r.Held, w4⟩)]) [])) ?_ ?_
 ·unfold F_belts_stop at hF
  refine Vi ?_
  refine Vd ?_
  refine Va (Xc rfl) rfl ?_
  refine Va (Xk (Xv rfl rfl te_27) (congrArg (fun n : Nat => Wr .i64 (n : Int)) (Wx _))) rfl ?_
  refine Va (Vk rfl) rfl ?_
  refine Vf ?_
  refine Yh ?_
  obtain ⟨o6, ho6, hF⟩ := Yt hF
  refine Vw (Wb (F_belts_stop_L1 p0 p1 p2) (fun s5 E' lw lc => m1 = (s5.2.1).length ∧ m2 = (s5.2.2).length ∧ Yb E' lw lc [(0, .vs 2 (Wq T_Belt.enc p0)), (1, .ptr q0 w0 0 0), (2, .int .i64 p2), (8, .int .i64 ((p0).length : Int)), (9, .int .i64 s5.1)] (setL low0 [(q0, ⟨34, 5, [.agg [.int .i64 p1.Time, .sl q1 w1 0 m1, .sl q2 w2 0 m2, .sl q3 w3 0 m3, .sl q4 w4 0 m4]], w0⟩), (q1, ⟨3, 1, Wq (Wr .i64) s5.2.1, w1⟩), (q2, ⟨3, 1, Wq (Wr .i64) s5.2.2, w2⟩), (q3, ⟨4, 1, Wq Ws p1.Pulled, w3⟩), (q4, ⟨4, 1, Wq Ws p1.Held, w4⟩)]) []) (fun o6 => OnlyE (.exit 0) (fun E' lw lc => m1 = (o6.1).length ∧ m2 = (o6.2).length ∧ Yb E' lw lc [] (setL low0 [(q0, ⟨34, 5, [.agg [.int .i64 p1.Time, .sl q1 w1 0 m1, .sl q2 w2 0 m2, .sl q3 w3 0 m3, .sl q4 w4 0 m4]], w0⟩), (q1, ⟨3, 1, Wq (Wr .i64) o6.1, w1⟩), (q2, ⟨3, 1, Wq (Wr .i64) o6.2, w2⟩), (q3, ⟨4, 1, Wq Ws p1.Pulled, w3⟩), (q4, ⟨4, 1, Wq Ws p1.Held, w4⟩)]) [])) ho6 ⟨hm1, hm2, ?_⟩ (by rintro _ _ _ _ ⟨h, _⟩ <;> cases h) ?_) ?_
  ·exact Vp ⟨rfl, rfl, rfl, rfl, rfl, trivial⟩
  ·rintro s5 os5 _ _ _ hF ⟨hls5_0, hls5_1, hw⟩
   unfold F_belts_stop_L1 at hF
   refine Yd hw ?_
   refine Vi ?_
   refine Vd ?_
   refine Va (Zr rfl rfl) rfl ?_
   refine Vf ?_
   refine Vi ?_
   refine Xh rfl (fun c7 => ?_) (fun c7 => ?_)
   ·have hF := Yo c7 hF
    refine Xn ?_
    refine Vi ?_
    obtain ⟨o8, ho8, hF⟩ := Yt hF
    refine Vw (Q' := (fun o8 => OnlyE .normal (fun E' lw lc => m1 = (o8.1).length ∧ m2 = (o8.2).length ∧ Yb E' lw lc [(0, .vs 2 (Wq T_Belt.enc p0)), (1, .ptr q0 w0 0 0), (2, .int .i64 p2), (8, .int .i64 ((p0).length : Int)), (9, .int .i64 s5.1)] (setL low0 [(q0, ⟨34, 5, [.agg [.int .i64 p1.Time, .sl q1 w1 0 m1, .sl q2 w2 0 m2, .sl q3 w3 0 m3, .sl q4 w4 0 m4]], w0⟩), (q1, ⟨3, 1, Wq (Wr .i64) o8.1, w1⟩), (q2, ⟨3, 1, Wq (Wr .i64) o8.2, w2⟩), (q3, ⟨4, 1, Wq Ws p1.Pulled, w3⟩), (q4, ⟨4, 1, Wq Ws p1.Held, w4⟩)]) [])) o8) ?_ ?_
    ·replace hF := ho8
     refine Yh ?_
     refine Vi ?_
     refine Vd ?_
     refine Va (Vk rfl) rfl ?_
     refine Va (Xa rfl) rfl ?_
     refine Vf ?_
     refine Vi ?_
     obtain ⟨o9, ho9, hF⟩ := Yt hF
     refine Vw (Q' := (fun o9 => OnlyE .normal (fun E' lw lc => Yb E' lw lc [(0, .vs 2 (Wq T_Belt.enc p0)), (1, .ptr q0 w0 0 0), (2, .int .i64 p2), (6, .int .i64 s5.1), (8, .int .i64 ((p0).length : Int)), (9, .int .i64 s5.1), (30, .bool o9)] (setL low0 [(q0, ⟨34, 5, [.agg [.int .i64 p1.Time, .sl q1 w1 0 m1, .sl q2 w2 0 m2, .sl q3 w3 0 m3, .sl q4 w4 0 m4]], w0⟩), (q1, ⟨3, 1, Wq (Wr .i64) s5.2.1, w1⟩), (q2, ⟨3, 1, Wq (Wr .i64) s5.2.2, w2⟩), (q3, ⟨4, 1, Wq Ws p1.Pulled, w3⟩), (q4, ⟨4, 1, Wq Ws p1.Held, w4⟩)]) [])) o9) ?_ ?_
     ·replace hF := ho9
      refine Vd ?_
      rcases Ww (decide (s5.1 = p2)) with c10 | c10
      ·have hF := Yo c10 hF
       obtain ⟨x11, h12, hF⟩ := Yt hF
       refine Va (Vk rfl) rfl ?_
       refine Va (Vk rfl) rfl ?_
       refine Va (Xl rfl rfl) rfl ?_
       refine Va (Vm rfl) rfl ?_
       refine Vb rfl rfl (Zo c10) rfl ?_
       refine Vb rfl rfl (Zo c10) rfl ?_
       refine Vb rfl rfl (Zo c10) rfl ?_
       refine Vb rfl rfl (Zo c10) rfl ?_
       refine Va (Vo (congrArg Ws c10) rfl) rfl ?_
       refine Va (Vm rfl) rfl ?_
       refine vops_take rfl rfl ?_
       refine Va (Zq rfl) rfl ?_
       refine vops_take rfl rfl ?_
       refine Va (Zv rfl) rfl ?_
       refine vops_take rfl rfl ?_
       refine Va (Vc rfl tf_34_1 ts_22 (by decide)) rfl ?_
       refine vops_take rfl rfl ?_
       refine Va (Vg rfl (Yw hB rfl 0 rfl) rfl ta_22 rfl) rfl ?_
       refine vops_take rfl rfl ?_
       refine Va (Vk rfl) rfl ?_
       refine vops_take rfl rfl ?_
       refine Va (Wa rfl hls5_0 rfl (Yw hB rfl 1 rfl) h12 te_22 ts_3) rfl ?_
       refine vops_take rfl rfl ?_
       refine Va (rd_ldL1 rfl (Yw hB rfl 1 rfl) (Zb h12).2 ta_3 rfl) rfl ?_
       refine vops_take rfl rfl ?_
       refine Va (Ze rfl rfl) rfl ?_
       refine Va (Vo rfl rfl) rfl ?_
       refine Vf ?_
       obtain rfl := Wt hF
       refine Xy ?_
       exact Vp ⟨rfl, rfl, rfl, rfl, rfl, rfl, rfl, trivial⟩
      ·have hF := Yp c10 hF
       obtain ⟨x13, h14, hF⟩ := Yt hF
       rcases Ww x13 with c15 | c15
       ·have hF := Yo c15 hF
        obtain ⟨x16, h17, hF⟩ := Yt hF
        refine Va (Vk rfl) rfl ?_
        refine Va (Vk rfl) rfl ?_
        refine Va (Xl rfl rfl) rfl ?_
        refine Va (Vm rfl) rfl ?_
        refine Xd rfl rfl c10 ?_
        refine Va (Xc rfl) rfl ?_
        refine Xd rfl rfl c10 ?_
        refine Va (Vk rfl) rfl ?_
        refine Xd rfl rfl c10 ?_
        refine Va (Vk rfl) rfl ?_
        refine Xd rfl rfl c10 ?_
        refine Vj (Xp rfl Try.call39 (F_belts_throws_ok h14 _)) rfl ?_
        refine Va (Vn (congrArg Ws c10) rfl) rfl ?_
        refine Va (Vm rfl) rfl ?_
        refine Xd rfl rfl c15 ?_
        refine Va (Zq rfl) rfl ?_
        refine Xd rfl rfl c15 ?_
        refine Va (Zv rfl) rfl ?_
        refine Xd rfl rfl c15 ?_
        refine Va (Vc rfl tf_34_1 ts_22 (by decide)) rfl ?_
        refine Xd rfl rfl c15 ?_
        refine Va (Vg rfl (Yw hB rfl 0 rfl) rfl ta_22 rfl) rfl ?_
        refine Xd rfl rfl c15 ?_
        refine Va (Vk rfl) rfl ?_
        refine Xd rfl rfl c15 ?_
        refine Va (Wa rfl hls5_0 rfl (Yw hB rfl 1 rfl) h17 te_22 ts_3) rfl ?_
        refine Xd rfl rfl c15 ?_
        refine Va (rd_ldL1 rfl (Yw hB rfl 1 rfl) (Zb h17).2 ta_3 rfl) rfl ?_
        refine Xd rfl rfl c15 ?_
        refine Va (Ze rfl rfl) rfl ?_
        refine Va (Vo (congrArg Ws c15) rfl) rfl ?_
        refine Vf ?_
        obtain rfl := Wt hF
        refine Xy ?_
        exact Vp ⟨rfl, rfl, rfl, rfl, rfl, rfl, rfl, trivial⟩
       ·have hF := Yp c15 hF
        refine Va (Vk rfl) rfl ?_
        refine Va (Vk rfl) rfl ?_
        refine Va (Xl rfl rfl) rfl ?_
        refine Va (Vm rfl) rfl ?_
        refine Xd rfl rfl c10 ?_
        refine Va (Xc rfl) rfl ?_
        refine Xd rfl rfl c10 ?_
        refine Va (Vk rfl) rfl ?_
        refine Xd rfl rfl c10 ?_
        refine Va (Vk rfl) rfl ?_
        refine Xd rfl rfl c10 ?_
        refine Vj (Xp rfl Try.call39 (F_belts_throws_ok h14 _)) rfl ?_
        refine Va (Vn (congrArg Ws c10) rfl) rfl ?_
        refine Va (Vm rfl) rfl ?_
        refine Vb rfl rfl (Zz c15) rfl ?_
        refine Vb rfl rfl (Zz c15) rfl ?_
        refine Vb rfl rfl (Zz c15) rfl ?_
        refine Vb rfl rfl (Zz c15) rfl ?_
        refine Vb rfl rfl (Zz c15) rfl ?_
        refine Vb rfl rfl (Zz c15) rfl ?_
        refine Vb rfl rfl (Zz c15) rfl ?_
        refine Vb rfl rfl (Zz c15) rfl ?_
        refine Va (Vn (congrArg Ws c15) rfl) rfl ?_
        refine Vf ?_
        obtain rfl := Wt hF
        refine Xy ?_
        exact Vp ⟨rfl, rfl, rfl, rfl, rfl, rfl, rfl, trivial⟩
     ·rintro _ _ _ _ ⟨rfl, hw⟩
      refine ⟨_, _, _, hw, ?_⟩
      refine Xh rfl (fun c18 => ?_) (fun c18 => ?_)
      ·have hF := Yo c18 hF
       obtain ⟨x19, h20, hF⟩ := Yt hF
       obtain ⟨x21, h22, hF⟩ := Yt hF
       refine Wc [[], [0], [0, 1], [0, 1, 2], [], [], [5], [5, 6], [5, 6, 7], [], [], [10], [10, 11], [10, 11, 12], [0, 1, 2, 3, 4, 5, 6, 7, 8, 10, 11, 12, 13], [0, 1, 2, 3, 4, 5, 6, 7, 8, 10, 11, 12, 13, 14], [0, 1, 2, 3, 4, 5, 6, 7, 8, 9, 10, 11, 12, 13, 14, 15], [0, 1, 2, 3, 4, 5, 6, 7, 8, 9, 10, 11, 12, 13, 14, 15, 16]] [false, false, false, false, false, false, false, false, false, false, false, false, false, false, false, true, false, true] [((setL low0 [(q0, ⟨34, 5, [.agg [.int .i64 p1.Time, .sl q1 w1 0 m1, .sl q2 w2 0 m2, .sl q3 w3 0 m3, .sl q4 w4 0 m4]], w0⟩), (q1, ⟨3, 1, Wq (Wr .i64) s5.2.1, w1⟩), (q2, ⟨3, 1, Wq (Wr .i64) s5.2.2, w2⟩), (q3, ⟨4, 1, Wq Ws p1.Pulled, w3⟩), (q4, ⟨4, 1, Wq Ws p1.Held, w4⟩)]), []), ((setL low0 [(q0, ⟨34, 5, [.agg [.int .i64 p1.Time, .sl q1 w1 0 m1, .sl q2 w2 0 m2, .sl q3 w3 0 m3, .sl q4 w4 0 m4]], w0⟩), (q1, ⟨3, 1, Wq (Wr .i64) (s5.2.1.set ((s5.1).toNat) 0), w1⟩), (q2, ⟨3, 1, Wq (Wr .i64) s5.2.2, w2⟩), (q3, ⟨4, 1, Wq Ws p1.Pulled, w3⟩), (q4, ⟨4, 1, Wq Ws p1.Held, w4⟩)]), []), ((setL low0 [(q0, ⟨34, 5, [.agg [.int .i64 p1.Time, .sl q1 w1 0 m1, .sl q2 w2 0 m2, .sl q3 w3 0 m3, .sl q4 w4 0 m4]], w0⟩), (q1, ⟨3, 1, Wq (Wr .i64) (s5.2.1.set ((s5.1).toNat) 0), w1⟩), (q2, ⟨3, 1, Wq (Wr .i64) (s5.2.2.set ((s5.1).toNat) p1.Time), w2⟩), (q3, ⟨4, 1, Wq Ws p1.Pulled, w3⟩), (q4, ⟨4, 1, Wq Ws p1.Held, w4⟩)]), [])] mixed (by kernel_rfl) rfl (lenAll (Xx Xo (Xx Xo (Xx Xo Zn)))) rfl _ rfl rfl ?_
       refine Ym rfl rfl (Zq rfl) ?_
       refine Ym rfl rfl (Zv rfl) ?_
       refine Ym rfl rfl (Vc rfl tf_34_1 ts_22 (by decide)) ?_
       refine Ym rfl rfl (Vg rfl (Yw hB rfl 0 rfl) rfl ta_22 rfl) ?_
       refine Ym rfl rfl (Vk rfl) ?_
       refine Ym rfl rfl (Zq rfl) ?_
       refine Ym rfl rfl (Zv rfl) ?_
       refine Ym rfl rfl (Vc rfl tf_34_2 ts_22 (by decide)) ?_
       refine Ym rfl rfl (Vg rfl (Yw hB rfl 0 rfl) rfl ta_22 rfl) ?_
       refine Yi _ rfl rfl (Xx (VRd.ntl (Vk rfl)) (Xx (VRd.ntl (Vk rfl)) Zn)) ?_
       refine Ym rfl rfl (Zq rfl) ?_
       refine Ym rfl rfl (Zv rfl) ?_
       refine Ym rfl rfl (Vc rfl tf_34_0 ts_3 (by decide)) ?_
       refine Ym rfl rfl (Vg rfl (Yw hB rfl 0 rfl) rfl ta_3 rfl) ?_
       refine Ym rfl rfl (Wa rfl hls5_0 rfl (Yw hB rfl 1 rfl) h20 te_22 ts_3) ?_
       refine Zh rfl rfl rfl (Wl (p := .int .i64 0) (e' := 0) rfl (Yw hB rfl 1 rfl) (Zb h20).2 rfl ts_3 rfl (Ye rfl) (Wu rfl) rfl (setO_B hB rfl 1 rfl (Vh (fun _ => .int _ _)) rfl)) ?_
       refine Ym rfl rfl (Wa rfl hls5_1 rfl (Yw hB rfl 2 rfl) h22 te_22 ts_3) ?_
       refine Zh rfl rfl rfl (Wl (p := .int .i64 p1.Time) (e' := p1.Time) rfl (Yw hB rfl 2 rfl) (Zb h22).2 rfl ts_3 rfl (Ye rfl) (Wu rfl) rfl (setO_B hB rfl 2 rfl (Vh (fun _ => .int _ _)) rfl)) ?_
       refine Yz ?_
       obtain rfl := Wt hF
       refine And.intro rfl (And.intro (Eq.trans hls5_0 List.length_set.symm) (And.intro (Eq.trans hls5_1 List.length_set.symm) ?_))
       exact Vp ⟨rfl, rfl, rfl, rfl, rfl, trivial⟩
      ·have hF := Yp c18 hF
       refine Xn ?_
       obtain rfl := Wt hF
       refine And.intro rfl (And.intro hls5_0 (And.intro hls5_1 ?_))
       exact Vp ⟨rfl, rfl, rfl, rfl, rfl, trivial⟩
    ·rintro _ _ _ _ ⟨rfl, hl23, hl24, hw⟩
     refine ⟨_, _, _, hw, ?_⟩
     refine Vd ?_
     refine Va (Wk rfl rfl rfl) rfl ?_
     refine Va (Vk rfl) rfl ?_
     refine Vf ?_
     obtain rfl := Wt hF
     refine And.intro rfl (And.intro hl23 (And.intro hl24 ?_))
     exact Vp ⟨rfl, rfl, rfl, rfl, rfl, trivial⟩
   ·have hF := Yp c7 hF
    refine Wi ?_
    obtain rfl := Wt hF
    refine And.intro rfl (And.intro hls5_0 (And.intro hls5_1 ?_))
    exact Vp trivial
  ·rintro _ _ _ _ ⟨rfl, hl25, hl26, hw⟩
   refine ⟨_, _, _, hw, ?_⟩
   obtain rfl := Wt hF
   refine And.intro (.inl rfl) (And.intro hl25 (And.intro hl26 (And.intro hm3 (And.intro hm4 ?_))))
   exact Vp trivial
 ·rintro _ _ _ _ ⟨he, hl1, hl2, hl3, hl4, hw⟩
  refine ⟨_, _, _, hw, ?_⟩
  exact Zd he [] trivial ((lt_tup trivial)) ⟨rfl, (List.append_nil _).symm⟩

theorem F_belts_stop_len {p0 : List T_Belt} {p1 : T_Line} {p2 : Int} {r : T_Line} (hF : F_belts_stop p0 p1 p2 = some r) {m1 : Nat} (hm1 : m1 = (p1.States).length) {m2 : Nat} (hm2 : m2 = (p1.Since).length) {m3 : Nat} (hm3 : m3 = (p1.Pulled).length) {m4 : Nat} (hm4 : m4 = (p1.Held).length) : m1 = (r.States).length ∧ m2 = (r.Since).length ∧ m3 = (r.Pulled).length ∧ m4 = (r.Held).length ∧ True := by
  have h : LP (F_belts_stop p0 p1 p2) (fun r => m1 = (r.States).length ∧ m2 = (r.Since).length ∧ m3 = (r.Pulled).length ∧ m4 = (r.Held).length ∧ True) := by
    unfold F_belts_stop
    exact (lp_bind (Q := fun o6 => m1 = (o6.1).length ∧ m2 = (o6.2).length ∧ True) (lp_loop (fun s5 => m1 = (s5.2.1).length ∧ m2 = (s5.2.2).length ∧ True) ⟨hm1, hm2, trivial⟩ (fun s5 ⟨hls5_0, hls5_1, _⟩ => by unfold F_belts_stop_L1; exact (lp_bif (fun c7 => lp_bind (Q := fun o8 => m1 = (o8.1).length ∧ m2 = (o8.2).length ∧ True) (lp_bind (Q := fun o9 => True) (lp_bif (fun c10 => Wn fun x11 h12 => Wm trivial) (fun c10 => Wn fun x13 h14 => lp_bif (fun c15 => Wn fun x16 h17 => Wm trivial) (fun c15 => Wm trivial))) (fun o9 _ => lp_bif (fun c18 => Wn fun x19 h20 => Wn fun x21 h22 => Wm ⟨(Eq.trans hls5_0 List.length_set.symm), (Eq.trans hls5_1 List.length_set.symm), trivial⟩) (fun c18 => Wm ⟨hls5_0, hls5_1, trivial⟩))) (fun o8 ⟨hl23, hl24, _⟩ => Wm ⟨hl23, hl24, trivial⟩)) (fun c7 => Wm ⟨hls5_0, hls5_1, trivial⟩)))) (fun o6 ⟨hl25, hl26, _⟩ => Wm ⟨hl25, hl26, hm3, hm4, trivial⟩))
  exact h r hF

theorem F_belts_stop_ok {p0 : List T_Belt} {p1 : T_Line} {p2 : Int} {r : T_Line} (hF : F_belts_stop p0 p1 p2 = some r) {low : List AObj} {q0 q1 q2 q3 q4 w0 w1 w2 w3 w4 : Nat} (hnd : [q0, q1, q2, q3, q4].Nodup) {m1 : Nat} (hm1 : m1 = (p1.States).length) {m2 : Nat} (hm2 : m2 = (p1.Since).length) {m3 : Nat} (hm3 : m3 = (p1.Pulled).length) {m4 : Nat} (hm4 : m4 = (p1.Held).length) (hq0 : low[q0]? = some ⟨34, 5, [.agg [.int .i64 p1.Time, .sl q1 w1 0 m1, .sl q2 w2 0 m2, .sl q3 w3 0 m3, .sl q4 w4 0 m4]], w0⟩) (hq1 : low[q1]? = some ⟨3, 1, Wq (Wr .i64) p1.States, w1⟩) (hq2 : low[q2]? = some ⟨3, 1, Wq (Wr .i64) p1.Since, w2⟩) (hq3 : low[q3]? = some ⟨4, 1, Wq Ws p1.Pulled, w3⟩) (hq4 : low[q4]? = some ⟨4, 1, Wq Ws p1.Held, w4⟩) {n : Nat} (hn : low.length = n) :
    Ys Try.prog 36 [.vs 2 (Wq T_Belt.enc p0), .ptr q0 w0 0 0, .int .i64 p2] low fun x low' => x = .tup [] ∧ low' = setL low [(q0, ⟨34, 5, [.agg [.int .i64 r.Time, .sl q1 w1 0 m1, .sl q2 w2 0 m2, .sl q3 w3 0 m3, .sl q4 w4 0 m4]], w0⟩), (q1, ⟨3, 1, Wq (Wr .i64) r.States, w1⟩), (q2, ⟨3, 1, Wq (Wr .i64) r.Since, w2⟩), (q3, ⟨4, 1, Wq Ws r.Pulled, w3⟩), (q4, ⟨4, 1, Wq Ws r.Held, w4⟩)] ++ [] := by
  obtain ⟨h1, h2⟩ := We (ps := [(q0, ⟨34, 5, [.agg [.int .i64 p1.Time, .sl q1 w1 0 m1, .sl q2 w2 0 m2, .sl q3 w3 0 m3, .sl q4 w4 0 m4]], w0⟩), (q1, ⟨3, 1, Wq (Wr .i64) p1.States, w1⟩), (q2, ⟨3, 1, Wq (Wr .i64) p1.Since, w2⟩), (q3, ⟨4, 1, Wq Ws p1.Pulled, w3⟩), (q4, ⟨4, 1, Wq Ws p1.Held, w4⟩)]) hnd (Wf hq0 (Wf hq1 (Wf hq2 (Wf hq3 (Wf hq4 bor0)))))
  exact Zx h1 (F_belts_stop_ok0 hF h2 hm1 hm2 hm3 hm4 hn)

theorem F_belts_Pull_1_ok0 {p0 : T_Line} {p1 : List T_Belt} {p2 : Int} {r : T_Line} (hF : F_belts_Pull_1 p0 p1 p2 = some r) {low0 : List AObj} {q0 q1 q2 q3 q4 q5 q6 w0 w1 w2 w3 w4 w5 w6 : Nat} (hB : Bor low0 [q0, q1, q2, q3, q4, q5, q6]) {m1 : Nat} (hm1 : m1 = (p0.States).length) {m2 : Nat} (hm2 : m2 = (p0.Since).length) {m3 : Nat} (hm3 : m3 = (p0.Pulled).length) {m4 : Nat} (hm4 : m4 = (p0.Held).length) {n : Nat} (hn : low0.length = n) :
    Ys Try.prog 35 [.ptr q0 w0 0 0, .ptr q5 w5 0 0, .ptr q6 w6 0 0] (setL low0 [(q0, ⟨34, 5, [.agg [.int .i64 p0.Time, .sl q1 w1 0 m1, .sl q2 w2 0 m2, .sl q3 w3 0 m3, .sl q4 w4 0 m4]], w0⟩), (q1, ⟨3, 1, Wq (Wr .i64) p0.States, w1⟩), (q2, ⟨3, 1, Wq (Wr .i64) p0.Since, w2⟩), (q3, ⟨4, 1, Wq Ws p0.Pulled, w3⟩), (q4, ⟨4, 1, Wq Ws p0.Held, w4⟩), (q5, ⟨27, 1, [.vs 2 (Wq T_Belt.enc p1)], w5⟩), (q6, ⟨3, 1, [.int .i64 p2], w6⟩)]) fun x low' => x = .tup [] ∧ low' = setL low0 [(q0, ⟨34, 5, [.agg [.int .i64 r.Time, .sl q1 w1 0 m1, .sl q2 w2 0 m2, .sl q3 w3 0 m3, .sl q4 w4 0 m4]], w0⟩), (q1, ⟨3, 1, Wq (Wr .i64) r.States, w1⟩), (q2, ⟨3, 1, Wq (Wr .i64) r.Since, w2⟩), (q3, ⟨4, 1, Wq Ws r.Pulled, w3⟩), (q4, ⟨4, 1, Wq Ws r.Held, w4⟩), (q5, ⟨27, 1, [.vs 2 (Wq T_Belt.enc p1)], w5⟩), (q6, ⟨3, 1, [.int .i64 p2], w6⟩)] ++ [] := by
 refine Vz (nt := 14) (rs := []) Try.func35 rfl rfl (Wu rfl) rfl ?_
 have hq0 : q0 < n := hB.ltN hn 0 rfl
 have hq1 : q1 < n := hB.ltN hn 1 rfl
 have hq2 : q2 < n := hB.ltN hn 2 rfl
 have hq3 : q3 < n := hB.ltN hn 3 rfl
 have hq4 : q4 < n := hB.ltN hn 4 rfl
 have hq5 : q5 < n := hB.ltN hn 5 rfl
 have hq6 : q6 < n := hB.ltN hn 6 rfl
 refine Vw (Q' := FnE (fun E' lw lc => m1 = (r.States).length ∧ m2 = (r.Since).length ∧ m3 = (r.Pulled).length ∧ m4 = (r.Held).length ∧ Yb E' lw lc [] (setL low0 [(q0, ⟨34, 5, [.agg [.int .i64 r.Time, .sl q1 w1 0 m1, .sl q2 w2 0 m2, .sl q3 w3 0 m3, .sl q4 w4 0 m4]], w0⟩), (q1, ⟨3, 1, Wq (Wr .i64) r.States, w1⟩), (q2, ⟨3, 1, Wq (Wr .i64) r.Since, w2⟩), (q3, ⟨4, 1, Wq Ws r.Pulled, w3⟩), (q4, ⟨4, 1, Wq Ws r.Held, w4⟩), (q5, ⟨27, 1, [.vs 2 (Wq T_Belt.enc p1)], w5⟩), (q6, ⟨3, 1, [.int .i64 p2], w6⟩)]) [])) ?_ ?_
 ·unfold F_belts_Pull_1 at hF
  refine Vi ?_
  refine Vd ?_
  obtain ⟨x5, h6, hF⟩ := Yt hF
  refine Va (Vg rfl (Yw hB rfl 5 rfl) rfl ta_27 rfl) rfl ?_
  refine Va (Zq rfl) rfl ?_
  refine Va (Vg rfl (Yw hB rfl 6 rfl) rfl ta_3 rfl) rfl ?_
  refine Vj (Zg (ps := [(q0, ⟨34, 5, [.agg [.int .i64 x5.Time, .sl q1 w1 0 m1, .sl q2 w2 0 m2, .sl q3 w3 0 m3, .sl q4 w4 0 m4]], w0⟩), (q1, ⟨3, 1, Wq (Wr .i64) x5.States, w1⟩), (q2, ⟨3, 1, Wq (Wr .i64) x5.Since, w2⟩), (q3, ⟨4, 1, Wq Ws x5.Pulled, w3⟩), (q4, ⟨4, 1, Wq Ws x5.Held, w4⟩)]) (r := .tup []) (os := []) (low1 := (setL low0 [(q0, ⟨34, 5, [.agg [.int .i64 x5.Time, .sl q1 w1 0 m1, .sl q2 w2 0 m2, .sl q3 w3 0 m3, .sl q4 w4 0 m4]], w0⟩), (q1, ⟨3, 1, Wq (Wr .i64) x5.States, w1⟩), (q2, ⟨3, 1, Wq (Wr .i64) x5.Since, w2⟩), (q3, ⟨4, 1, Wq Ws x5.Pulled, w3⟩), (q4, ⟨4, 1, Wq Ws x5.Held, w4⟩), (q5, ⟨27, 1, [.vs 2 (Wq T_Belt.enc p1)], w5⟩), (q6, ⟨3, 1, [.int .i64 p2], w6⟩)])) (loc1 := []) (loc2 := []) rfl Try.call36 (F_belts_stop_ok h6 (nd1 (Zs (hB.ne 0 1 rfl rfl rfl) (Zs (hB.ne 0 2 rfl rfl rfl) (Zs (hB.ne 0 3 rfl rfl rfl) (Zs (hB.ne 0 4 rfl rfl rfl) na0)))) (nd1 (Zs (hB.ne 1 2 rfl rfl rfl) (Zs (hB.ne 1 3 rfl rfl rfl) (Zs (hB.ne 1 4 rfl rfl rfl) na0))) (nd1 (Zs (hB.ne 2 3 rfl rfl rfl) (Zs (hB.ne 2 4 rfl rfl rfl) na0)) (nd1 (Zs (hB.ne 3 4 rfl rfl rfl) na0) (nd1 na0 nd0))))) hm1 hm2 hm3 hm4 (Wp hB rfl 0 rfl) (Wp hB rfl 1 rfl) (Wp hB rfl 2 rfl) (Wp hB rfl 3 rfl) (Wp hB rfl 4 rfl) (Xi (Vs hn) rfl)) (Wd (ps0' := [(q0, ⟨34, 5, [.agg [.int .i64 x5.Time, .sl q1 w1 0 m1, .sl q2 w2 0 m2, .sl q3 w3 0 m3, .sl q4 w4 0 m4]], w0⟩), (q1, ⟨3, 1, Wq (Wr .i64) p0.States, w1⟩), (q2, ⟨3, 1, Wq (Wr .i64) p0.Since, w2⟩), (q3, ⟨4, 1, Wq Ws p0.Pulled, w3⟩), (q4, ⟨4, 1, Wq Ws p0.Held, w4⟩), (q5, ⟨27, 1, [.vs 2 (Wq T_Belt.enc p1)], w5⟩), (q6, ⟨3, 1, [.int .i64 p2], w6⟩)]) hB rfl 0 rfl (ltObjN hn ⟨Xw ⟨.int _ _, .sl _ _ _ _ hq1, .sl _ _ _ _ hq2, .sl _ _ _ _ hq3, .sl _ _ _ _ hq4, trivial⟩, trivial⟩) rfl (Wd (ps0' := [(q0, ⟨34, 5, [.agg [.int .i64 x5.Time, .sl q1 w1 0 m1, .sl q2 w2 0 m2, .sl q3 w3 0 m3, .sl q4 w4 0 m4]], w0⟩), (q1, ⟨3, 1, Wq (Wr .i64) x5.States, w1⟩), (q2, ⟨3, 1, Wq (Wr .i64) p0.Since, w2⟩), (q3, ⟨4, 1, Wq Ws p0.Pulled, w3⟩), (q4, ⟨4, 1, Wq Ws p0.Held, w4⟩), (q5, ⟨27, 1, [.vs 2 (Wq T_Belt.enc p1)], w5⟩), (q6, ⟨3, 1, [.int .i64 p2], w6⟩)]) hB rfl 1 rfl (Vh (fun _ => .int _ _)) rfl (Wd (ps0' := [(q0, ⟨34, 5, [.agg [.int .i64 x5.Time, .sl q1 w1 0 m1, .sl q2 w2 0 m2, .sl q3 w3 0 m3, .sl q4 w4 0 m4]], w0⟩), (q1, ⟨3, 1, Wq (Wr .i64) x5.States, w1⟩), (q2, ⟨3, 1, Wq (Wr .i64) x5.Since, w2⟩), (q3, ⟨4, 1, Wq Ws p0.Pulled, w3⟩), (q4, ⟨4, 1, Wq Ws p0.Held, w4⟩), (q5, ⟨27, 1, [.vs 2 (Wq T_Belt.enc p1)], w5⟩), (q6, ⟨3, 1, [.int .i64 p2], w6⟩)]) hB rfl 2 rfl (Vh (fun _ => .int _ _)) rfl (Wd (ps0' := [(q0, ⟨34, 5, [.agg [.int .i64 x5.Time, .sl q1 w1 0 m1, .sl q2 w2 0 m2, .sl q3 w3 0 m3, .sl q4 w4 0 m4]], w0⟩), (q1, ⟨3, 1, Wq (Wr .i64) x5.States, w1⟩), (q2, ⟨3, 1, Wq (Wr .i64) x5.Since, w2⟩), (q3, ⟨4, 1, Wq Ws x5.Pulled, w3⟩), (q4, ⟨4, 1, Wq Ws p0.Held, w4⟩), (q5, ⟨27, 1, [.vs 2 (Wq T_Belt.enc p1)], w5⟩), (q6, ⟨3, 1, [.int .i64 p2], w6⟩)]) hB rfl 3 rfl (Vh (fun _ => .bool _)) rfl (Wd (ps0' := [(q0, ⟨34, 5, [.agg [.int .i64 x5.Time, .sl q1 w1 0 m1, .sl q2 w2 0 m2, .sl q3 w3 0 m3, .sl q4 w4 0 m4]], w0⟩), (q1, ⟨3, 1, Wq (Wr .i64) x5.States, w1⟩), (q2, ⟨3, 1, Wq (Wr .i64) x5.Since, w2⟩), (q3, ⟨4, 1, Wq Ws x5.Pulled, w3⟩), (q4, ⟨4, 1, Wq Ws x5.Held, w4⟩), (q5, ⟨27, 1, [.vs 2 (Wq T_Belt.enc p1)], w5⟩), (q6, ⟨3, 1, [.int .i64 p2], w6⟩)]) hB rfl 4 rfl (Vh (fun _ => .bool _)) rfl Zl))))) rfl) rfl ?_
  refine Vf ?_
  obtain ⟨x7, h8, hF⟩ := Yt hF
  refine Wc [[], [0], [0, 1], [0, 1, 2], [], [0, 1, 2, 3, 4], [0, 1, 2, 3, 4, 5]] [false, false, false, false, false, false, true] [((setL low0 [(q0, ⟨34, 5, [.agg [.int .i64 x5.Time, .sl q1 w1 0 m1, .sl q2 w2 0 m2, .sl q3 w3 0 m3, .sl q4 w4 0 m4]], w0⟩), (q1, ⟨3, 1, Wq (Wr .i64) x5.States, w1⟩), (q2, ⟨3, 1, Wq (Wr .i64) x5.Since, w2⟩), (q3, ⟨4, 1, Wq Ws x5.Pulled, w3⟩), (q4, ⟨4, 1, Wq Ws x5.Held, w4⟩), (q5, ⟨27, 1, [.vs 2 (Wq T_Belt.enc p1)], w5⟩), (q6, ⟨3, 1, [.int .i64 p2], w6⟩)]), []), ((setL low0 [(q0, ⟨34, 5, [.agg [.int .i64 x5.Time, .sl q1 w1 0 m1, .sl q2 w2 0 m2, .sl q3 w3 0 m3, .sl q4 w4 0 m4]], w0⟩), (q1, ⟨3, 1, Wq (Wr .i64) x5.States, w1⟩), (q2, ⟨3, 1, Wq (Wr .i64) x5.Since, w2⟩), (q3, ⟨4, 1, Wq Ws (x5.Pulled.set ((p2).toNat) true), w3⟩), (q4, ⟨4, 1, Wq Ws x5.Held, w4⟩), (q5, ⟨27, 1, [.vs 2 (Wq T_Belt.enc p1)], w5⟩), (q6, ⟨3, 1, [.int .i64 p2], w6⟩)]), [])] mixed (by kernel_rfl) rfl (lenAll (Xx Xo (Xx Xo Zn))) rfl _ rfl rfl ?_
  refine Ym rfl rfl (Zq rfl) ?_
  refine Ym rfl rfl (Zv rfl) ?_
  refine Ym rfl rfl (Vc rfl tf_34_3 ts_32 (by decide)) ?_
  refine Ym rfl rfl (Vg rfl (Yw hB rfl 0 rfl) rfl ta_32 rfl) ?_
  refine Ym rfl rfl (Vg rfl (Yw hB rfl 6 rfl) rfl ta_3 rfl) ?_
  refine Ym rfl rfl (Wa rfl (F_belts_stop_len h6 hm1 hm2 hm3 hm4).2.2.1 rfl (Yw hB rfl 3 rfl) h8 te_32 ts_4) ?_
  refine Zh rfl rfl rfl (Wl (p := .bool true) (e' := true) rfl (Yw hB rfl 3 rfl) (Zb h8).2 rfl ts_4 rfl (Ye rfl) (Wu rfl) rfl (setO_B hB rfl 3 rfl (Vh (fun _ => .bool _)) rfl)) ?_
  refine Yz ?_
  obtain rfl := Wt hF
  refine And.intro (.inl rfl) (And.intro ((F_belts_stop_len h6 hm1 hm2 hm3 hm4).1) (And.intro ((F_belts_stop_len h6 hm1 hm2 hm3 hm4).2.1) (And.intro (Eq.trans (F_belts_stop_len h6 hm1 hm2 hm3 hm4).2.2.1 List.length_set.symm) (And.intro ((F_belts_stop_len h6 hm1 hm2 hm3 hm4).2.2.2.1) ?_))))
  exact Vp trivial
 ·rintro _ _ _ _ ⟨he, hl1, hl2, hl3, hl4, hw⟩
  refine ⟨_, _, _, hw, ?_⟩
  exact Zd he [] trivial ((lt_tup trivial)) ⟨rfl, (List.append_nil _).symm⟩

theorem F_belts_Pull_1_len {p0 : T_Line} {p1 : List T_Belt} {p2 : Int} {r : T_Line} (hF : F_belts_Pull_1 p0 p1 p2 = some r) {m1 : Nat} (hm1 : m1 = (p0.States).length) {m2 : Nat} (hm2 : m2 = (p0.Since).length) {m3 : Nat} (hm3 : m3 = (p0.Pulled).length) {m4 : Nat} (hm4 : m4 = (p0.Held).length) : m1 = (r.States).length ∧ m2 = (r.Since).length ∧ m3 = (r.Pulled).length ∧ m4 = (r.Held).length ∧ True := by
  have h : LP (F_belts_Pull_1 p0 p1 p2) (fun r => m1 = (r.States).length ∧ m2 = (r.Since).length ∧ m3 = (r.Pulled).length ∧ m4 = (r.Held).length ∧ True) := by
    unfold F_belts_Pull_1
    exact (Wn fun x5 h6 => Wn fun x7 h8 => Wm ⟨(F_belts_stop_len h6 hm1 hm2 hm3 hm4).1, (F_belts_stop_len h6 hm1 hm2 hm3 hm4).2.1, (Eq.trans (F_belts_stop_len h6 hm1 hm2 hm3 hm4).2.2.1 List.length_set.symm), (F_belts_stop_len h6 hm1 hm2 hm3 hm4).2.2.2.1, trivial⟩)
  exact h r hF

theorem F_belts_Pull_1_ok {p0 : T_Line} {p1 : List T_Belt} {p2 : Int} {r : T_Line} (hF : F_belts_Pull_1 p0 p1 p2 = some r) {low : List AObj} {q0 q1 q2 q3 q4 q5 q6 w0 w1 w2 w3 w4 w5 w6 : Nat} (hnd : [q0, q1, q2, q3, q4, q5, q6].Nodup) {m1 : Nat} (hm1 : m1 = (p0.States).length) {m2 : Nat} (hm2 : m2 = (p0.Since).length) {m3 : Nat} (hm3 : m3 = (p0.Pulled).length) {m4 : Nat} (hm4 : m4 = (p0.Held).length) (hq0 : low[q0]? = some ⟨34, 5, [.agg [.int .i64 p0.Time, .sl q1 w1 0 m1, .sl q2 w2 0 m2, .sl q3 w3 0 m3, .sl q4 w4 0 m4]], w0⟩) (hq1 : low[q1]? = some ⟨3, 1, Wq (Wr .i64) p0.States, w1⟩) (hq2 : low[q2]? = some ⟨3, 1, Wq (Wr .i64) p0.Since, w2⟩) (hq3 : low[q3]? = some ⟨4, 1, Wq Ws p0.Pulled, w3⟩) (hq4 : low[q4]? = some ⟨4, 1, Wq Ws p0.Held, w4⟩) (hq5 : low[q5]? = some ⟨27, 1, [.vs 2 (Wq T_Belt.enc p1)], w5⟩) (hq6 : low[q6]? = some ⟨3, 1, [.int .i64 p2], w6⟩) {n : Nat} (hn : low.length = n) :
    Ys Try.prog 35 [.ptr q0 w0 0 0, .ptr q5 w5 0 0, .ptr q6 w6 0 0] low fun x low' => x = .tup [] ∧ low' = setL low [(q0, ⟨34, 5, [.agg [.int .i64 r.Time, .sl q1 w1 0 m1, .sl q2 w2 0 m2, .sl q3 w3 0 m3, .sl q4 w4 0 m4]], w0⟩), (q1, ⟨3, 1, Wq (Wr .i64) r.States, w1⟩), (q2, ⟨3, 1, Wq (Wr .i64) r.Since, w2⟩), (q3, ⟨4, 1, Wq Ws r.Pulled, w3⟩), (q4, ⟨4, 1, Wq Ws r.Held, w4⟩), (q5, ⟨27, 1, [.vs 2 (Wq T_Belt.enc p1)], w5⟩), (q6, ⟨3, 1, [.int .i64 p2], w6⟩)] ++ [] := by
  obtain ⟨h1, h2⟩ := We (ps := [(q0, ⟨34, 5, [.agg [.int .i64 p0.Time, .sl q1 w1 0 m1, .sl q2 w2 0 m2, .sl q3 w3 0 m3, .sl q4 w4 0 m4]], w0⟩), (q1, ⟨3, 1, Wq (Wr .i64) p0.States, w1⟩), (q2, ⟨3, 1, Wq (Wr .i64) p0.Since, w2⟩), (q3, ⟨4, 1, Wq Ws p0.Pulled, w3⟩), (q4, ⟨4, 1, Wq Ws p0.Held, w4⟩), (q5, ⟨27, 1, [.vs 2 (Wq T_Belt.enc p1)], w5⟩), (q6, ⟨3, 1, [.int .i64 p2], w6⟩)]) hnd (Wf hq0 (Wf hq1 (Wf hq2 (Wf hq3 (Wf hq4 (Wf hq5 (Wf hq6 bor0)))))))
  exact Zx h1 (F_belts_Pull_1_ok0 hF h2 hm1 hm2 hm3 hm4 hn)

theorem F_belts_done__belts_Pull_1_ok0 {p0 : T_Line} {pc10 : List T_Belt} {pc11 : Int} {r : T_Line} (hF : F_belts_done__belts_Pull_1 p0 pc10 pc11 = some r) {low0 : List AObj} {q0 q1 w0 w1 : Nat} (hB : Bor low0 [q0, q1]) {n : Nat} (hn : low0.length = n) :
    Ys Try.prog 31 [.agg [.int .i64 p0.Time, .vs 1 (Wq (Wr .i64) p0.States), .vs 1 (Wq (Wr .i64) p0.Since), .vs 1 (Wq Ws p0.Pulled), .vs 1 (Wq Ws p0.Held)], .fn 35 [] [.ptr q0 w0 0 0, .ptr q1 w1 0 0]] (setL low0 [(q0, ⟨27, 1, [.vs 2 (Wq T_Belt.enc pc10)], w0⟩), (q1, ⟨3, 1, [.int .i64 pc11], w1⟩)]) fun x low' => x = .agg [.int .i64 r.Time, .sl (n + 0) 0 0 (r.States).length, .sl (n + 1) 0 0 (r.Since).length, .sl (n + 2) 0 0 (r.Pulled).length, .vs 1 (Wq Ws r.Held)] ∧ low' = setL low0 [(q0, ⟨27, 1, [.vs 2 (Wq T_Belt.enc pc10)], w0⟩), (q1, ⟨3, 1, [.int .i64 pc11], w1⟩)] ++ [⟨3, 1, Wq (Wr .i64) r.States, 0⟩, ⟨3, 1, Wq (Wr .i64) r.Since, 0⟩, ⟨4, 1, Wq Ws r.Pulled, 0⟩] := by
 refine Vz (nt := 24) (rs := [.cell 4 34]) Try.func31 rfl rfl (Wu rfl) rfl ?_
 have hq0 : q0 < n := hB.ltN hn 0 rfl
 have hq1 : q1 < n := hB.ltN hn 1 rfl
 refine Vw (Q' := FnE (fun E' lw lc => Yb E' lw lc [(4, .ptr (n + 3) 0 0 0)] (setL low0 [(q0, ⟨27, 1, [.vs 2 (Wq T_Belt.enc pc10)], w0⟩), (q1, ⟨3, 1, [.int .i64 pc11], w1⟩)]) [⟨3, 1, Wq (Wr .i64) r.States, 0⟩, ⟨3, 1, Wq (Wr .i64) r.Since, 0⟩, ⟨4, 1, Wq Ws r.Pulled, 0⟩, ⟨34, 5, [.agg [.int .i64 r.Time, .sl (n + 0) 0 0 (r.States).length, .sl (n + 1) 0 0 (r.Since).length, .sl (n + 2) 0 0 (r.Pulled).length, .vs 1 (Wq Ws r.Held)]], 0⟩])) ?_ ?_
 ·unfold F_belts_done__belts_Pull_1 at hF
  refine Vi ?_
  refine Vd ?_
  refine Vj (Zc (Vs hn) rfl (v := .agg [.int .i64 p0.Time, .vs 1 (Wq (Wr .i64) p0.States), .vs 1 (Wq (Wr .i64) p0.Since), .vs 1 (Wq Ws p0.Pulled), .vs 1 (Wq Ws p0.Held)]) rfl rfl (Wv _) rfl rfl) rfl ?_
  refine Vj (Xe (Vs hn) rfl tz_34 rfl rfl (Wv _) rfl) rfl ?_
  refine Vf ?_
  refine Vi ?_
  obtain ⟨x1, h2, hF⟩ := Yt hF
  obtain ⟨x3, h4, hF⟩ := Yt hF
  obtain ⟨x5, h6, hF⟩ := Yt hF
  obtain ⟨x7, h8, hF⟩ := Yt hF
  refine Yd (Yy 3 1 (Wv _)) ?_
  refine Yd (Yy 3 1 (Wv _)) ?_
  refine Yd (Yy 4 1 (Wv _)) ?_
  refine Yd (Yy 4 1 (Wv _)) ?_
  refine Yd (Yy 34 5 (Wv _)) ?_
  refine vwp_drawnX [[], [0], [], [2], [2, 3], [], [5], [2, 3, 4, 5, 6], [], [8], [2, 3, 4, 5, 6, 7, 8, 9], [], [11], [2, 3, 4, 5, 6, 7, 8, 9, 10, 11, 12], [0, 1, 2, 3, 4, 5, 6, 7, 8, 9, 10, 11, 12, 13], [], [0, 1, 2, 3, 4, 5, 6, 7, 8, 9, 10, 11, 12, 13, 14, 15]] [false, false, false, false, true, false, false, true, false, false, true, false, false, true, false, true, true] [([], (setL low0 [(q0, ⟨27, 1, [.vs 2 (Wq T_Belt.enc pc10)], w0⟩), (q1, ⟨3, 1, [.int .i64 pc11], w1⟩)]), [⟨34, 5, [.agg [.int .i64 p0.Time, .vs 1 (Wq (Wr .i64) p0.States), .vs 1 (Wq (Wr .i64) p0.Since), .vs 1 (Wq Ws p0.Pulled), .vs 1 (Wq Ws p0.Held)]], 0⟩, ⟨34, 5, [.agg [.int .i64 0, .nils, .nils, .nils, .nils]], 0⟩, ⟨3, 1, [], 0⟩, ⟨3, 1, [], 0⟩, ⟨4, 1, [], 0⟩, ⟨4, 1, [], 0⟩, ⟨34, 5, [], 0⟩]), ([4], (setL low0 [(q0, ⟨27, 1, [.vs 2 (Wq T_Belt.enc pc10)], w0⟩), (q1, ⟨3, 1, [.int .i64 pc11], w1⟩)]), [⟨34, 5, [.agg [.int .i64 p0.Time, .vs 1 (Wq (Wr .i64) p0.States), .vs 1 (Wq (Wr .i64) p0.Since), .vs 1 (Wq Ws p0.Pulled), .vs 1 (Wq Ws p0.Held)]], 0⟩, ⟨34, 5, [.agg [.int .i64 0, .nils, .nils, .nils, .nils]], 0⟩, ⟨3, 1, Wq (Wr .i64) x1, 1⟩, ⟨3, 1, [], 0⟩, ⟨4, 1, [], 0⟩, ⟨4, 1, [], 0⟩, ⟨34, 5, [], 0⟩]), ([15], (setL low0 [(q0, ⟨27, 1, [.vs 2 (Wq T_Belt.enc pc10)], w0⟩), (q1, ⟨3, 1, [.int .i64 pc11], w1⟩)]), [⟨34, 5, [.agg [.int .i64 p0.Time, .vs 1 (Wq (Wr .i64) p0.States), .vs 1 (Wq (Wr .i64) p0.Since), .vs 1 (Wq Ws p0.Pulled), .vs 1 (Wq Ws p0.Held)]], 0⟩, ⟨34, 5, [.agg [.int .i64 0, .nils, .nils, .nils, .nils]], 0⟩, ⟨3, 1, [], 0⟩, ⟨3, 1, [], 0⟩, ⟨4, 1, [], 0⟩, ⟨4, 1, [], 0⟩, ⟨34, 5, [.agg [.int .i64 0, .nils, .nils, .nils, .nils]], 1⟩]), ([4, 7], (setL low0 [(q0, ⟨27, 1, [.vs 2 (Wq T_Belt.enc pc10)], w0⟩), (q1, ⟨3, 1, [.int .i64 pc11], w1⟩)]), [⟨34, 5, [.agg [.int .i64 p0.Time, .vs 1 (Wq (Wr .i64) p0.States), .vs 1 (Wq (Wr .i64) p0.Since), .vs 1 (Wq Ws p0.Pulled), .vs 1 (Wq Ws p0.Held)]], 0⟩, ⟨34, 5, [.agg [.int .i64 0, .nils, .nils, .nils, .nils]], 0⟩, ⟨3, 1, Wq (Wr .i64) x1, 1⟩, ⟨3, 1, Wq (Wr .i64) x3, 1⟩, ⟨4, 1, [], 0⟩, ⟨4, 1, [], 0⟩, ⟨34, 5, [], 0⟩]), ([4, 15], (setL low0 [(q0, ⟨27, 1, [.vs 2 (Wq T_Belt.enc pc10)], w0⟩), (q1, ⟨3, 1, [.int .i64 pc11], w1⟩)]), [⟨34, 5, [.agg [.int .i64 p0.Time, .vs 1 (Wq (Wr .i64) p0.States), .vs 1 (Wq (Wr .i64) p0.Since), .vs 1 (Wq Ws p0.Pulled), .vs 1 (Wq Ws p0.Held)]], 0⟩, ⟨34, 5, [.agg [.int .i64 0, .nils, .nils, .nils, .nils]], 0⟩, ⟨3, 1, Wq (Wr .i64) x1, 1⟩, ⟨3, 1, [], 0⟩, ⟨4, 1, [], 0⟩, ⟨4, 1, [], 0⟩, ⟨34, 5, [.agg [.int .i64 0, .nils, .nils, .nils, .nils]], 1⟩]), ([4, 7, 10], (setL low0 [(q0, ⟨27, 1, [.vs 2 (Wq T_Belt.enc pc10)], w0⟩), (q1, ⟨3, 1, [.int .i64 pc11], w1⟩)]), [⟨34, 5, [.agg [.int .i64 p0.Time, .vs 1 (Wq (Wr .i64) p0.States), .vs 1 (Wq (Wr .i64) p0.Since), .vs 1 (Wq Ws p0.Pulled), .vs 1 (Wq Ws p0.Held)]], 0⟩, ⟨34, 5, [.agg [.int .i64 0, .nils, .nils, .nils, .nils]], 0⟩, ⟨3, 1, Wq (Wr .i64) x1, 1⟩, ⟨3, 1, Wq (Wr .i64) x3, 1⟩, ⟨4, 1, Wq Ws x5, 1⟩, ⟨4, 1, [], 0⟩, ⟨34, 5, [], 0⟩]), ([4, 7, 15], (setL low0 [(q0, ⟨27, 1, [.vs 2 (Wq T_Belt.enc pc10)], w0⟩), (q1, ⟨3, 1, [.int .i64 pc11], w1⟩)]), [⟨34, 5, [.agg [.int .i64 p0.Time, .vs 1 (Wq (Wr .i64) p0.States), .vs 1 (Wq (Wr .i64) p0.Since), .vs 1 (Wq Ws p0.Pulled), .vs 1 (Wq Ws p0.Held)]], 0⟩, ⟨34, 5, [.agg [.int .i64 0, .nils, .nils, .nils, .nils]], 0⟩, ⟨3, 1, Wq (Wr .i64) x1, 1⟩, ⟨3, 1, Wq (Wr .i64) x3, 1⟩, ⟨4, 1, [], 0⟩, ⟨4, 1, [], 0⟩, ⟨34, 5, [.agg [.int .i64 0, .nils, .nils, .nils, .nils]], 1⟩]), ([4, 7, 10, 13], (setL low0 [(q0, ⟨27, 1, [.vs 2 (Wq T_Belt.enc pc10)], w0⟩), (q1, ⟨3, 1, [.int .i64 pc11], w1⟩)]), [⟨34, 5, [.agg [.int .i64 p0.Time, .vs 1 (Wq (Wr .i64) p0.States), .vs 1 (Wq (Wr .i64) p0.Since), .vs 1 (Wq Ws p0.Pulled), .vs 1 (Wq Ws p0.Held)]], 0⟩, ⟨34, 5, [.agg [.int .i64 0, .nils, .nils, .nils, .nils]], 0⟩, ⟨3, 1, Wq (Wr .i64) x1, 1⟩, ⟨3, 1, Wq (Wr .i64) x3, 1⟩, ⟨4, 1, Wq Ws x5, 1⟩, ⟨4, 1, Wq Ws x7, 1⟩, ⟨34, 5, [], 0⟩]), ([4, 7, 10, 15], (setL low0 [(q0, ⟨27, 1, [.vs 2 (Wq T_Belt.enc pc10)], w0⟩), (q1, ⟨3, 1, [.int .i64 pc11], w1⟩)]), [⟨34, 5, [.agg [.int .i64 p0.Time, .vs 1 (Wq (Wr .i64) p0.States), .vs 1 (Wq (Wr .i64) p0.Since), .vs 1 (Wq Ws p0.Pulled), .vs 1 (Wq Ws p0.Held)]], 0⟩, ⟨34, 5, [.agg [.int .i64 0, .nils, .nils, .nils, .nils]], 0⟩, ⟨3, 1, Wq (Wr .i64) x1, 1⟩, ⟨3, 1, Wq (Wr .i64) x3, 1⟩, ⟨4, 1, Wq Ws x5, 1⟩, ⟨4, 1, [], 0⟩, ⟨34, 5, [.agg [.int .i64 0, .nils, .nils, .nils, .nils]], 1⟩]), ([4, 7, 10, 13, 15], (setL low0 [(q0, ⟨27, 1, [.vs 2 (Wq T_Belt.enc pc10)], w0⟩), (q1, ⟨3, 1, [.int .i64 pc11], w1⟩)]), [⟨34, 5, [.agg [.int .i64 p0.Time, .vs 1 (Wq (Wr .i64) p0.States), .vs 1 (Wq (Wr .i64) p0.Since), .vs 1 (Wq Ws p0.Pulled), .vs 1 (Wq Ws p0.Held)]], 0⟩, ⟨34, 5, [.agg [.int .i64 0, .nils, .nils, .nils, .nils]], 0⟩, ⟨3, 1, Wq (Wr .i64) x1, 1⟩, ⟨3, 1, Wq (Wr .i64) x3, 1⟩, ⟨4, 1, Wq Ws x5, 1⟩, ⟨4, 1, Wq Ws x7, 1⟩, ⟨34, 5, [.agg [.int .i64 0, .nils, .nils, .nils, .nils]], 1⟩]), ([4, 7, 10, 13, 15, 16], (setL low0 [(q0, ⟨27, 1, [.vs 2 (Wq T_Belt.enc pc10)], w0⟩), (q1, ⟨3, 1, [.int .i64 pc11], w1⟩)]), [⟨34, 5, [.agg [.int .i64 p0.Time, .vs 1 (Wq (Wr .i64) p0.States), .vs 1 (Wq (Wr .i64) p0.Since), .vs 1 (Wq Ws p0.Pulled), .vs 1 (Wq Ws p0.Held)]], 0⟩, ⟨34, 5, [.agg [.int .i64 0, .nils, .nils, .nils, .nils]], 0⟩, ⟨3, 1, Wq (Wr .i64) x1, 1⟩, ⟨3, 1, Wq (Wr .i64) x3, 1⟩, ⟨4, 1, Wq Ws x5, 1⟩, ⟨4, 1, Wq Ws x7, 1⟩, ⟨34, 5, [.agg [.int .i64 p0.Time, .sl (n + 2) 1 0 (x1).length, .sl (n + 3) 1 0 (x3).length, .sl (n + 4) 1 0 (x5).length, .sl (n + 5) 1 0 (x7).length]], 1⟩])] mixed (by kernel_rfl) rfl (lenAllX (Yu Xo (Yu Xo (Yu Xo (Yu Xo (Yu Xo (Yu Xo (Yu Xo (Yu Xo (Yu Xo (Yu Xo (Yu Xo allx0)))))))))))) rfl [4, 7, 10, 13, 15, 16] ((setL low0 [(q0, ⟨27, 1, [.vs 2 (Wq T_Belt.enc pc10)], w0⟩), (q1, ⟨3, 1, [.int .i64 pc11], w1⟩)]), [⟨34, 5, [.agg [.int .i64 p0.Time, .vs 1 (Wq (Wr .i64) p0.States), .vs 1 (Wq (Wr .i64) p0.Since), .vs 1 (Wq Ws p0.Pulled), .vs 1 (Wq Ws p0.Held)]], 0⟩, ⟨34, 5, [.agg [.int .i64 0, .nils, .nils, .nils, .nils]], 0⟩, ⟨3, 1, Wq (Wr .i64) x1, 1⟩, ⟨3, 1, Wq (Wr .i64) x3, 1⟩, ⟨4, 1, Wq Ws x5, 1⟩, ⟨4, 1, Wq Ws x7, 1⟩, ⟨34, 5, [.agg [.int .i64 p0.Time, .sl (n + 2) 1 0 (x1).length, .sl (n + 3) 1 0 (x3).length, .sl (n + 4) 1 0 (x5).length, .sl (n + 5) 1 0 (x7).length]], 1⟩]) rfl rfl ?_
  refine Yc _ rfl rfl (Xs (VRd.ntl (Vc rfl tf_34_0 ts_3 (by decide))) (Xs (VRd.ntl (Vc rfl tf_34_0 ts_3 (by decide))) (Xs (VRd.ntl (Vc rfl tf_34_0 ts_3 (by decide))) (Xs (VRd.ntl (Vc rfl tf_34_0 ts_3 (by decide))) (Xs (VRd.ntl (Vc rfl tf_34_0 ts_3 (by decide))) (Xs (VRd.ntl (Vc rfl tf_34_0 ts_3 (by decide))) (Xs (VRd.ntl (Vc rfl tf_34_0 ts_3 (by decide))) (Xs (VRd.ntl (Vc rfl tf_34_0 ts_3 (by decide))) (Xs (VRd.ntl (Vc rfl tf_34_0 ts_3 (by decide))) (Xs (VRd.ntl (Vc rfl tf_34_0 ts_3 (by decide))) rx0)))))))))) ?_
  refine Yc _ rfl rfl (Xs (VRd.ntl (Vg rfl (Ve (Vs hn) rfl) rfl ta_3 rfl)) (Xs (VRd.ntl (Vg rfl (Ve (Vs hn) rfl) rfl ta_3 rfl)) (Xs (VRd.ntl (Vg rfl (Ve (Vs hn) rfl) rfl ta_3 rfl)) (Xs (VRd.ntl (Vg rfl (Ve (Vs hn) rfl) rfl ta_3 rfl)) (Xs (VRd.ntl (Vg rfl (Ve (Vs hn) rfl) rfl ta_3 rfl)) (Xs (VRd.ntl (Vg rfl (Ve (Vs hn) rfl) rfl ta_3 rfl)) (Xs (VRd.ntl (Vg rfl (Ve (Vs hn) rfl) rfl ta_3 rfl)) (Xs (VRd.ntl (Vg rfl (Ve (Vs hn) rfl) rfl ta_3 rfl)) (Xs (VRd.ntl (Vg rfl (Ve (Vs hn) rfl) rfl ta_3 rfl)) (Xs (VRd.ntl (Vg rfl (Ve (Vs hn) rfl) rfl ta_3 rfl)) rx0)))))))))) ?_
  refine Yc _ rfl rfl (Xs (VRd.ntl (Vc rfl tf_34_1 ts_22 (by decide))) (Xs (VRd.ntl (Vc rfl tf_34_1 ts_22 (by decide))) rx0)) ?_
  refine Yc _ rfl rfl (Xs (VRd.ntl (Vg rfl (Ve (Vs hn) rfl) rfl ta_22 rfl)) (Xs (VRd.ntl (Vg rfl (Ve (Vs hn) rfl) rfl ta_22 rfl)) rx0)) ?_
  refine Zf _ rfl rfl (Zy 1 rfl (Vu (f := 7) (k := 2) (m := 1) (os := [⟨3, 1, Wq (Wr .i64) x1, 0⟩]) (os' := [⟨3, 1, Wq (Wr .i64) x1, 1⟩]) (v := .sl (n + 7) 0 0 (x1).length) (Vs hn) rfl rfl ⟨⟨_, rfl, rfl⟩, trivial⟩ (Xg (r := .sl (n + 7) 0 0 (x1).length) (os := [⟨3, 1, Wq (Wr .i64) x1, 0⟩]) rfl Try.call54 (F_slices_Clone___int_int__ok h2 _ (Xi (Vs hn) rfl))) (Yk 0 rfl rfl rfl rfl) ⟨.same _ _ _ (Vh (fun _ => .int _ _)), trivial⟩ rfl) (Zy 4 rfl (Vu (f := 7) (k := 2) (m := 1) (os := [⟨3, 1, Wq (Wr .i64) x1, 0⟩]) (os' := [⟨3, 1, Wq (Wr .i64) x1, 1⟩]) (v := .sl (n + 7) 0 0 (x1).length) (Vs hn) rfl rfl ⟨⟨_, rfl, rfl⟩, trivial⟩ (Xg (r := .sl (n + 7) 0 0 (x1).length) (os := [⟨3, 1, Wq (Wr .i64) x1, 0⟩]) rfl Try.call54 (F_slices_Clone___int_int__ok h2 _ (Xi (Vs hn) rfl))) (Yk 0 rfl rfl rfl rfl) ⟨.same _ _ _ (Vh (fun _ => .int _ _)), trivial⟩ rfl) ex0)) ?_
  refine Yc _ rfl rfl (Xs (VRd.ntl (Vc rfl tf_34_2 ts_22 (by decide))) (Xs (VRd.ntl (Vc rfl tf_34_2 ts_22 (by decide))) (Xs (VRd.ntl (Vc rfl tf_34_2 ts_22 (by decide))) (Xs (VRd.ntl (Vc rfl tf_34_2 ts_22 (by decide))) rx0)))) ?_
  refine Yc _ rfl rfl (Xs (VRd.ntl (Vg rfl (Ve (Vs hn) rfl) rfl ta_22 rfl)) (Xs (VRd.ntl (Vg rfl (Ve (Vs hn) rfl) rfl ta_22 rfl)) (Xs (VRd.ntl (Vg rfl (Ve (Vs hn) rfl) rfl ta_22 rfl)) (Xs (VRd.ntl (Vg rfl (Ve (Vs hn) rfl) rfl ta_22 rfl)) rx0)))) ?_
  refine Zf _ rfl rfl (Zy 3 rfl (Vu (f := 7) (k := 3) (m := 1) (os := [⟨3, 1, Wq (Wr .i64) x3, 0⟩]) (os' := [⟨3, 1, Wq (Wr .i64) x3, 1⟩]) (v := .sl (n + 7) 0 0 (x3).length) (Vs hn) rfl rfl ⟨⟨_, rfl, rfl⟩, trivial⟩ (Xg (r := .sl (n + 7) 0 0 (x3).length) (os := [⟨3, 1, Wq (Wr .i64) x3, 0⟩]) rfl Try.call54 (F_slices_Clone___int_int__ok h4 _ (Xi (Vs hn) rfl))) (Yk 0 rfl rfl rfl rfl) ⟨.same _ _ _ (Vh (fun _ => .int _ _)), trivial⟩ rfl) (Zy 6 rfl (Vu (f := 7) (k := 3) (m := 1) (os := [⟨3, 1, Wq (Wr .i64) x3, 0⟩]) (os' := [⟨3, 1, Wq (Wr .i64) x3, 1⟩]) (v := .sl (n + 7) 0 0 (x3).length) (Vs hn) rfl rfl ⟨⟨_, rfl, rfl⟩, trivial⟩ (Xg (r := .sl (n + 7) 0 0 (x3).length) (os := [⟨3, 1, Wq (Wr .i64) x3, 0⟩]) rfl Try.call54 (F_slices_Clone___int_int__ok h4 _ (Xi (Vs hn) rfl))) (Yk 0 rfl rfl rfl rfl) ⟨.same _ _ _ (Vh (fun _ => .int _ _)), trivial⟩ rfl) ex0)) ?_
  refine Yc _ rfl rfl (Xs (VRd.ntl (Vc rfl tf_34_3 ts_32 (by decide))) (Xs (VRd.ntl (Vc rfl tf_34_3 ts_32 (by decide))) (Xs (VRd.ntl (Vc rfl tf_34_3 ts_32 (by decide))) (Xs (VRd.ntl (Vc rfl tf_34_3 ts_32 (by decide))) (Xs (VRd.ntl (Vc rfl tf_34_3 ts_32 (by decide))) (Xs (VRd.ntl (Vc rfl tf_34_3 ts_32 (by decide))) rx0)))))) ?_
  refine Yc _ rfl rfl (Xs (VRd.ntl (Vg rfl (Ve (Vs hn) rfl) rfl ta_32 rfl)) (Xs (VRd.ntl (Vg rfl (Ve (Vs hn) rfl) rfl ta_32 rfl)) (Xs (VRd.ntl (Vg rfl (Ve (Vs hn) rfl) rfl ta_32 rfl)) (Xs (VRd.ntl (Vg rfl (Ve (Vs hn) rfl) rfl ta_32 rfl)) (Xs (VRd.ntl (Vg rfl (Ve (Vs hn) rfl) rfl ta_32 rfl)) (Xs (VRd.ntl (Vg rfl (Ve (Vs hn) rfl) rfl ta_32 rfl)) rx0)))))) ?_
  refine Zf _ rfl rfl (Zy 5 rfl (Vu (f := 7) (k := 4) (m := 1) (os := [⟨4, 1, Wq Ws x5, 0⟩]) (os' := [⟨4, 1, Wq Ws x5, 1⟩]) (v := .sl (n + 7) 0 0 (x5).length) (Vs hn) rfl rfl ⟨⟨_, rfl, rfl⟩, trivial⟩ (Xg (r := .sl (n + 7) 0 0 (x5).length) (os := [⟨4, 1, Wq Ws x5, 0⟩]) rfl Try.call55 (F_slices_Clone___bool_bool__ok h6 _ (Xi (Vs hn) rfl))) (Yk 0 rfl rfl rfl rfl) ⟨.same _ _ _ (Vh (fun _ => .bool _)), trivial⟩ rfl) (Zy 8 rfl (Vu (f := 7) (k := 4) (m := 1) (os := [⟨4, 1, Wq Ws x5, 0⟩]) (os' := [⟨4, 1, Wq Ws x5, 1⟩]) (v := .sl (n + 7) 0 0 (x5).length) (Vs hn) rfl rfl ⟨⟨_, rfl, rfl⟩, trivial⟩ (Xg (r := .sl (n + 7) 0 0 (x5).length) (os := [⟨4, 1, Wq Ws x5, 0⟩]) rfl Try.call55 (F_slices_Clone___bool_bool__ok h6 _ (Xi (Vs hn) rfl))) (Yk 0 rfl rfl rfl rfl) ⟨.same _ _ _ (Vh (fun _ => .bool _)), trivial⟩ rfl) ex0)) ?_
  refine Yc _ rfl rfl (Xs (VRd.ntl (Vc rfl tf_34_4 ts_32 (by decide))) (Xs (VRd.ntl (Vc rfl tf_34_4 ts_32 (by decide))) (Xs (VRd.ntl (Vc rfl tf_34_4 ts_32 (by decide))) (Xs (VRd.ntl (Vc rfl tf_34_4 ts_32 (by decide))) (Xs (VRd.ntl (Vc rfl tf_34_4 ts_32 (by decide))) (Xs (VRd.ntl (Vc rfl tf_34_4 ts_32 (by decide))) (Xs (VRd.ntl (Vc rfl tf_34_4 ts_32 (by decide))) (Xs (VRd.ntl (Vc rfl tf_34_4 ts_32 (by decide))) rx0)))))))) ?_
  refine Yc _ rfl rfl (Xs (VRd.ntl (Vg rfl (Ve (Vs hn) rfl) rfl ta_32 rfl)) (Xs (VRd.ntl (Vg rfl (Ve (Vs hn) rfl) rfl ta_32 rfl)) (Xs (VRd.ntl (Vg rfl (Ve (Vs hn) rfl) rfl ta_32 rfl)) (Xs (VRd.ntl (Vg rfl (Ve (Vs hn) rfl) rfl ta_32 rfl)) (Xs (VRd.ntl (Vg rfl (Ve (Vs hn) rfl) rfl ta_32 rfl)) (Xs (VRd.ntl (Vg rfl (Ve (Vs hn) rfl) rfl ta_32 rfl)) (Xs (VRd.ntl (Vg rfl (Ve (Vs hn) rfl) rfl ta_32 rfl)) (Xs (VRd.ntl (Vg rfl (Ve (Vs hn) rfl) rfl ta_32 rfl)) rx0)))))))) ?_
  refine Zf _ rfl rfl (Zy 7 rfl (Vu (f := 7) (k := 5) (m := 1) (os := [⟨4, 1, Wq Ws x7, 0⟩]) (os' := [⟨4, 1, Wq Ws x7, 1⟩]) (v := .sl (n + 7) 0 0 (x7).length) (Vs hn) rfl rfl ⟨⟨_, rfl, rfl⟩, trivial⟩ (Xg (r := .sl (n + 7) 0 0 (x7).length) (os := [⟨4, 1, Wq Ws x7, 0⟩]) rfl Try.call55 (F_slices_Clone___bool_bool__ok h8 _ (Xi (Vs hn) rfl))) (Yk 0 rfl rfl rfl rfl) ⟨.same _ _ _ (Vh (fun _ => .bool _)), trivial⟩ rfl) (Zy 9 rfl (Vu (f := 7) (k := 5) (m := 1) (os := [⟨4, 1, Wq Ws x7, 0⟩]) (os' := [⟨4, 1, Wq Ws x7, 1⟩]) (v := .sl (n + 7) 0 0 (x7).length) (Vs hn) rfl rfl ⟨⟨_, rfl, rfl⟩, trivial⟩ (Xg (r := .sl (n + 7) 0 0 (x7).length) (os := [⟨4, 1, Wq Ws x7, 0⟩]) rfl Try.call55 (F_slices_Clone___bool_bool__ok h8 _ (Xi (Vs hn) rfl))) (Yk 0 rfl rfl rfl rfl) ⟨.same _ _ _ (Vh (fun _ => .bool _)), trivial⟩ rfl) ex0)) ?_
  refine Yc _ rfl rfl (Xs (VRd.ntl (Wh (vs := [(0, .int .i64 p0.Time), (1, .sl (n + 2) 1 0 (x1).length), (2, .sl (n + 3) 1 0 (x3).length), (3, .sl (n + 4) 1 0 (x5).length), (4, .sl (n + 5) 1 0 (x7).length)]) (ds := [.int .i64 p0.Time, .sl (n + 2) 1 0 (x1).length, .sl (n + 3) 1 0 (x3).length, .sl (n + 4) 1 0 (x5).length, .sl (n + 5) 1 0 (x7).length]) tz_34 rfl rfl tp_34 ⟨rfl, rfl, rfl, rfl, rfl, rfl, rfl, rfl, rfl, rfl, trivial⟩ (Wo rfl) rfl)) (Xs (VRd.ntl (Wh (vs := [(0, .int .i64 p0.Time), (1, .sl (n + 2) 1 0 (x1).length), (2, .sl (n + 3) 1 0 (x3).length), (3, .sl (n + 4) 1 0 (x5).length), (4, .sl (n + 5) 1 0 (x7).length)]) (ds := [.int .i64 p0.Time, .sl (n + 2) 1 0 (x1).length, .sl (n + 3) 1 0 (x3).length, .sl (n + 4) 1 0 (x5).length, .sl (n + 5) 1 0 (x7).length]) tz_34 rfl rfl tp_34 ⟨rfl, rfl, rfl, rfl, rfl, rfl, rfl, rfl, rfl, rfl, trivial⟩ (Wo rfl) rfl)) rx0)) ?_
  refine Zf _ rfl rfl (Zy 2 rfl (Vu (f := 7) (k := 6) (m := 1) (os := [⟨34, 5, [.agg [.int .i64 0, .nils, .nils, .nils, .nils]], 0⟩]) (os' := [⟨34, 5, [.agg [.int .i64 0, .nils, .nils, .nils, .nils]], 1⟩]) (v := .ptr (n + 7) 0 0 0) (Vs hn) rfl rfl ⟨⟨_, rfl, rfl⟩, trivial⟩ (Xe (Vs hn) rfl tz_34 rfl rfl (Wv _) rfl) (Wj 0 rfl rfl rfl rfl) ⟨.same _ _ _ (Xt ⟨(Xw ⟨.int _ _, .nils, .nils, .nils, .nils, trivial⟩), trivial⟩), trivial⟩ rfl) (Zy 4 rfl (Vu (f := 7) (k := 6) (m := 1) (os := [⟨34, 5, [.agg [.int .i64 0, .nils, .nils, .nils, .nils]], 0⟩]) (os' := [⟨34, 5, [.agg [.int .i64 0, .nils, .nils, .nils, .nils]], 1⟩]) (v := .ptr (n + 7) 0 0 0) (Vs hn) rfl rfl ⟨⟨_, rfl, rfl⟩, trivial⟩ (Xe (Vs hn) rfl tz_34 rfl rfl (Wv _) rfl) (Wj 0 rfl rfl rfl rfl) ⟨.same _ _ _ (Xt ⟨(Xw ⟨.int _ _, .nils, .nils, .nils, .nils, trivial⟩), trivial⟩), trivial⟩ rfl) (Zy 6 rfl (Vu (f := 7) (k := 6) (m := 1) (os := [⟨34, 5, [.agg [.int .i64 0, .nils, .nils, .nils, .nils]], 0⟩]) (os' := [⟨34, 5, [.agg [.int .i64 0, .nils, .nils, .nils, .nils]], 1⟩]) (v := .ptr (n + 7) 0 0 0) (Vs hn) rfl rfl ⟨⟨_, rfl, rfl⟩, trivial⟩ (Xe (Vs hn) rfl tz_34 rfl rfl (Wv _) rfl) (Wj 0 rfl rfl rfl rfl) ⟨.same _ _ _ (Xt ⟨(Xw ⟨.int _ _, .nils, .nils, .nils, .nils, trivial⟩), trivial⟩), trivial⟩ rfl) (Zy 8 rfl (Vu (f := 7) (k := 6) (m := 1) (os := [⟨34, 5, [.agg [.int .i64 0, .nils, .nils, .nils, .nils]], 0⟩]) (os' := [⟨34, 5, [.agg [.int .i64 0, .nils, .nils, .nils, .nils]], 1⟩]) (v := .ptr (n + 7) 0 0 0) (Vs hn) rfl rfl ⟨⟨_, rfl, rfl⟩, trivial⟩ (Xe (Vs hn) rfl tz_34 rfl rfl (Wv _) rfl) (Wj 0 rfl rfl rfl rfl) ⟨.same _ _ _ (Xt ⟨(Xw ⟨.int _ _, .nils, .nils, .nils, .nils, trivial⟩), trivial⟩), trivial⟩ rfl) (Zy 9 rfl (Vu (f := 7) (k := 6) (m := 1) (os := [⟨34, 5, [.agg [.int .i64 0, .nils, .nils, .nils, .nils]], 0⟩]) (os' := [⟨34, 5, [.agg [.int .i64 0, .nils, .nils, .nils, .nils]], 1⟩]) (v := .ptr (n + 7) 0 0 0) (Vs hn) rfl rfl ⟨⟨_, rfl, rfl⟩, trivial⟩ (Xe (Vs hn) rfl tz_34 rfl rfl (Wv _) rfl) (Wj 0 rfl rfl rfl rfl) ⟨.same _ _ _ (Xt ⟨(Xw ⟨.int _ _, .nils, .nils, .nils, .nils, trivial⟩), trivial⟩), trivial⟩ rfl) ex0))))) ?_
  refine Zf _ rfl rfl (Zy 10 rfl (Vy (p := .agg [.int .i64 p0.Time, .sl (n + 2) 1 0 (x1).length, .sl (n + 3) 1 0 (x3).length, .sl (n + 4) 1 0 (x5).length, .sl (n + 5) 1 0 (x7).length]) (e' := .agg [.int .i64 p0.Time, .sl (n + 2) 1 0 (x1).length, .sl (n + 3) 1 0 (x3).length, .sl (n + 4) 1 0 (x5).length, .sl (n + 5) 1 0 (x7).length]) rfl (Ve (Vs hn) rfl) rfl rfl ts_34 rfl (Ye rfl) rfl (Wu rfl) rfl (Xr (Vs hn) rfl)) ex0) ?_
  refine dopx_nil ?_
  refine Vi ?_
  refine Vd ?_
  obtain ⟨x9, h10, hF⟩ := Yt hF
  refine Va (rd_mvF rfl) rfl ?_
  refine Vj (Zg (ps := [((n + 6), ⟨34, 5, [.agg [.int .i64 x9.Time, .sl (n + 2) 1 0 (x1).length, .sl (n + 3) 1 0 (x3).length, .sl (n + 4) 1 0 (x5).length, .sl (n + 5) 1 0 (x7).length]], 1⟩), ((n + 2), ⟨3, 1, Wq (Wr .i64) x9.States, 1⟩), ((n + 3), ⟨3, 1, Wq (Wr .i64) x9.Since, 1⟩), ((n + 4), ⟨4, 1, Wq Ws x9.Pulled, 1⟩), ((n + 5), ⟨4, 1, Wq Ws x9.Held, 1⟩), (q0, ⟨27, 1, [.vs 2 (Wq T_Belt.enc pc10)], w0⟩), (q1, ⟨3, 1, [.int .i64 pc11], w1⟩)]) (r := .tup []) (os := []) (low1 := (setL low0 [(q0, ⟨27, 1, [.vs 2 (Wq T_Belt.enc pc10)], w0⟩), (q1, ⟨3, 1, [.int .i64 pc11], w1⟩)])) (loc1 := [⟨34, 5, [.agg [.int .i64 p0.Time, .vs 1 (Wq (Wr .i64) p0.States), .vs 1 (Wq (Wr .i64) p0.Since), .vs 1 (Wq Ws p0.Pulled), .vs 1 (Wq Ws p0.Held)]], 0⟩, ⟨34, 5, [.agg [.int .i64 0, .nils, .nils, .nils, .nils]], 0⟩, ⟨3, 1, Wq (Wr .i64) x9.States, 1⟩, ⟨3, 1, Wq (Wr .i64) x9.Since, 1⟩, ⟨4, 1, Wq Ws x9.Pulled, 1⟩, ⟨4, 1, Wq Ws x9.Held, 1⟩, ⟨34, 5, [.agg [.int .i64 x9.Time, .sl (n + 2) 1 0 (x1).length, .sl (n + 3) 1 0 (x3).length, .sl (n + 4) 1 0 (x5).length, .sl (n + 5) 1 0 (x7).length]], 1⟩]) (loc2 := [⟨34, 5, [.agg [.int .i64 p0.Time, .vs 1 (Wq (Wr .i64) p0.States), .vs 1 (Wq (Wr .i64) p0.Since), .vs 1 (Wq Ws p0.Pulled), .vs 1 (Wq Ws p0.Held)]], 0⟩, ⟨34, 5, [.agg [.int .i64 0, .nils, .nils, .nils, .nils]], 0⟩, ⟨3, 1, Wq (Wr .i64) x9.States, 1⟩, ⟨3, 1, Wq (Wr .i64) x9.Since, 1⟩, ⟨4, 1, Wq Ws x9.Pulled, 1⟩, ⟨4, 1, Wq Ws x9.Held, 1⟩, ⟨34, 5, [.agg [.int .i64 x9.Time, .sl (n + 2) 1 0 (x1).length, .sl (n + 3) 1 0 (x3).length, .sl (n + 4) 1 0 (x5).length, .sl (n + 5) 1 0 (x7).length]], 1⟩]) rfl Try.call35 (F_belts_Pull_1_ok h10 (nd1 (Zs (Yx rfl) (Zs (Yx rfl) (Zs (Yx rfl) (Zs (Yx rfl) (Zs (Yv hq0) (Zs (Yv hq1) na0)))))) (nd1 (Zs (Yx rfl) (Zs (Yx rfl) (Zs (Yx rfl) (Zs (Yv hq0) (Zs (Yv hq1) na0))))) (nd1 (Zs (Yx rfl) (Zs (Yx rfl) (Zs (Yv hq0) (Zs (Yv hq1) na0)))) (nd1 (Zs (Yx rfl) (Zs (Yv hq0) (Zs (Yv hq1) na0))) (nd1 (Zs (Yv hq0) (Zs (Yv hq1) na0)) (nd1 (Zs (hB.ne 0 1 rfl rfl rfl) na0) (nd1 na0 nd0))))))) (rfl : (x1).length = _) (rfl : (x3).length = _) (rfl : (x5).length = _) (rfl : (x7).length = _) (Zt (Vs hn) rfl) (Zt (Vs hn) rfl) (Zt (Vs hn) rfl) (Zt (Vs hn) rfl) (Zt (Vs hn) rfl) (Wp hB rfl 0 rfl) (Wp hB rfl 1 rfl) (Xi (Vs hn) rfl)) (Yq (loc2 := [⟨34, 5, [.agg [.int .i64 p0.Time, .vs 1 (Wq (Wr .i64) p0.States), .vs 1 (Wq (Wr .i64) p0.Since), .vs 1 (Wq Ws p0.Pulled), .vs 1 (Wq Ws p0.Held)]], 0⟩, ⟨34, 5, [.agg [.int .i64 0, .nils, .nils, .nils, .nils]], 0⟩, ⟨3, 1, Wq (Wr .i64) x1, 1⟩, ⟨3, 1, Wq (Wr .i64) x3, 1⟩, ⟨4, 1, Wq Ws x5, 1⟩, ⟨4, 1, Wq Ws x7, 1⟩, ⟨34, 5, [.agg [.int .i64 x9.Time, .sl (n + 2) 1 0 (x1).length, .sl (n + 3) 1 0 (x3).length, .sl (n + 4) 1 0 (x5).length, .sl (n + 5) 1 0 (x7).length]], 1⟩]) (Vs hn) 6 rfl (Yq (loc2 := [⟨34, 5, [.agg [.int .i64 p0.Time, .vs 1 (Wq (Wr .i64) p0.States), .vs 1 (Wq (Wr .i64) p0.Since), .vs 1 (Wq Ws p0.Pulled), .vs 1 (Wq Ws p0.Held)]], 0⟩, ⟨34, 5, [.agg [.int .i64 0, .nils, .nils, .nils, .nils]], 0⟩, ⟨3, 1, Wq (Wr .i64) x9.States, 1⟩, ⟨3, 1, Wq (Wr .i64) x3, 1⟩, ⟨4, 1, Wq Ws x5, 1⟩, ⟨4, 1, Wq Ws x7, 1⟩, ⟨34, 5, [.agg [.int .i64 x9.Time, .sl (n + 2) 1 0 (x1).length, .sl (n + 3) 1 0 (x3).length, .sl (n + 4) 1 0 (x5).length, .sl (n + 5) 1 0 (x7).length]], 1⟩]) (Vs hn) 2 rfl (Yq (loc2 := [⟨34, 5, [.agg [.int .i64 p0.Time, .vs 1 (Wq (Wr .i64) p0.States), .vs 1 (Wq (Wr .i64) p0.Since), .vs 1 (Wq Ws p0.Pulled), .vs 1 (Wq Ws p0.Held)]], 0⟩, ⟨34, 5, [.agg [.int .i64 0, .nils, .nils, .nils, .nils]], 0⟩, ⟨3, 1, Wq (Wr .i64) x9.States, 1⟩, ⟨3, 1, Wq (Wr .i64) x9.Since, 1⟩, ⟨4, 1, Wq Ws x5, 1⟩, ⟨4, 1, Wq Ws x7, 1⟩, ⟨34, 5, [.agg [.int .i64 x9.Time, .sl (n + 2) 1 0 (x1).length, .sl (n + 3) 1 0 (x3).length, .sl (n + 4) 1 0 (x5).length, .sl (n + 5) 1 0 (x7).length]], 1⟩]) (Vs hn) 3 rfl (Yq (loc2 := [⟨34, 5, [.agg [.int .i64 p0.Time, .vs 1 (Wq (Wr .i64) p0.States), .vs 1 (Wq (Wr .i64) p0.Since), .vs 1 (Wq Ws p0.Pulled), .vs 1 (Wq Ws p0.Held)]], 0⟩, ⟨34, 5, [.agg [.int .i64 0, .nils, .nils, .nils, .nils]], 0⟩, ⟨3, 1, Wq (Wr .i64) x9.States, 1⟩, ⟨3, 1, Wq (Wr .i64) x9.Since, 1⟩, ⟨4, 1, Wq Ws x9.Pulled, 1⟩, ⟨4, 1, Wq Ws x7, 1⟩, ⟨34, 5, [.agg [.int .i64 x9.Time, .sl (n + 2) 1 0 (x1).length, .sl (n + 3) 1 0 (x3).length, .sl (n + 4) 1 0 (x5).length, .sl (n + 5) 1 0 (x7).length]], 1⟩]) (Vs hn) 4 rfl (Yq (loc2 := [⟨34, 5, [.agg [.int .i64 p0.Time, .vs 1 (Wq (Wr .i64) p0.States), .vs 1 (Wq (Wr .i64) p0.Since), .vs 1 (Wq Ws p0.Pulled), .vs 1 (Wq Ws p0.Held)]], 0⟩, ⟨34, 5, [.agg [.int .i64 0, .nils, .nils, .nils, .nils]], 0⟩, ⟨3, 1, Wq (Wr .i64) x9.States, 1⟩, ⟨3, 1, Wq (Wr .i64) x9.Since, 1⟩, ⟨4, 1, Wq Ws x9.Pulled, 1⟩, ⟨4, 1, Wq Ws x9.Held, 1⟩, ⟨34, 5, [.agg [.int .i64 x9.Time, .sl (n + 2) 1 0 (x1).length, .sl (n + 3) 1 0 (x3).length, .sl (n + 4) 1 0 (x5).length, .sl (n + 5) 1 0 (x7).length]], 1⟩]) (Vs hn) 5 rfl (Wd (ps0' := [(q0, ⟨27, 1, [.vs 2 (Wq T_Belt.enc pc10)], w0⟩), (q1, ⟨3, 1, [.int .i64 pc11], w1⟩)]) hB rfl 0 rfl (ltObjN hn ⟨.vs _ _, trivial⟩) rfl (Wd (ps0' := [(q0, ⟨27, 1, [.vs 2 (Wq T_Belt.enc pc10)], w0⟩), (q1, ⟨3, 1, [.int .i64 pc11], w1⟩)]) hB rfl 1 rfl (ltObjN hn ⟨.int _ _, trivial⟩) rfl Zl))))))) rfl) rfl ?_
  refine Vf ?_
  refine Vi ?_
  refine Vd ?_
  refine Va (Vv (ds := [.int .i64 x9.Time, .sl (n + 2) 1 0 (x1).length, .sl (n + 3) 1 0 (x3).length, .sl (n + 4) 1 0 (x5).length, .sl (n + 5) 1 0 (x7).length]) rfl (Ve (Vs hn) rfl) rfl ta_34 ts_34 rfl rfl rfl) rfl ?_
  refine Vj (Vy (p := .agg [.int .i64 x9.Time, .sl (n + 2) 1 0 (x1).length, .sl (n + 3) 1 0 (x3).length, .sl (n + 4) 1 0 (x5).length, .sl (n + 5) 1 0 (x7).length]) (e' := .agg [.int .i64 x9.Time, .sl (n + 2) 1 0 (x1).length, .sl (n + 3) 1 0 (x3).length, .sl (n + 4) 1 0 (x5).length, .sl (n + 5) 1 0 (x7).length]) rfl (Ve (Vs hn) rfl) rfl rfl ts_34 rfl (Ye rfl) rfl (Wu rfl) rfl (Xr (Vs hn) rfl)) rfl ?_
  refine Vf ?_
  refine Xb ?_
  obtain rfl := Wt hF
  refine Wg ?_
  refine Weak.trans (Xm (E' := [(4, .ptr (n + 1) 0 0 0)]) (loc1 := [⟨34, 5, [.agg [.int .i64 p0.Time, .vs 1 (Wq (Wr .i64) p0.States), .vs 1 (Wq (Wr .i64) p0.Since), .vs 1 (Wq Ws p0.Pulled), .vs 1 (Wq Ws p0.Held)]], 0⟩, ⟨34, 5, [.agg [.int .i64 x9.Time, .sl (n + 2) 1 0 (x1).length, .sl (n + 3) 1 0 (x3).length, .sl (n + 4) 1 0 (x5).length, .vs 1 (Wq Ws x9.Held)]], 0⟩, ⟨3, 1, Wq (Wr .i64) x9.States, 1⟩, ⟨3, 1, Wq (Wr .i64) x9.Since, 1⟩, ⟨4, 1, Wq Ws x9.Pulled, 1⟩, ⟨4, 1, [], 1 + 1⟩, ⟨34, 5, [.agg [.int .i64 x9.Time, .sl (n + 2) 1 0 (x1).length, .sl (n + 3) 1 0 (x3).length, .sl (n + 4) 1 0 (x5).length, .vs 1 (Wq Ws x9.Held)]], 1⟩]) (Vs hn) 5 rfl (Ya (fun _ => .bool _)) ⟨Vl rfl, trivial⟩ ⟨.refl _, Yr ⟨Vl rfl, Vl rfl, Vl rfl, Vl rfl, Zj rfl rfl rfl (Vx (F_belts_Pull_1_len h10 (rfl : (x1).length = _) (rfl : (x3).length = _) (rfl : (x5).length = _) (rfl : (x7).length = _)).2.2.2.1), trivial⟩, .refl _, .refl _, .refl _, .refl _, Yr ⟨Vl rfl, Vl rfl, Vl rfl, Vl rfl, Zj rfl rfl rfl (Vx (F_belts_Pull_1_len h10 (rfl : (x1).length = _) (rfl : (x3).length = _) (rfl : (x5).length = _) (rfl : (x7).length = _)).2.2.2.1), trivial⟩, trivial⟩) ?_
  exact Vt (Vs hn) [(2, 1), (3, 1), (4, 1), (1, 0)] (by decide) ⟨Yj 3 1 rfl rfl, trivial⟩ ⟨⟨_, rfl, rfl, .same _ _ _ _ (Vh (fun _ => .int _ _))⟩, ⟨_, rfl, rfl, .same _ _ _ _ (Vh (fun _ => .int _ _))⟩, ⟨_, rfl, rfl, .same _ _ _ _ (Vh (fun _ => .bool _))⟩, ⟨_, rfl, rfl, .agg _ _ _ _ _ ⟨Vr rfl (.int _ _), Xq 0 2 rfl (congrArg (PV.sl _ _ 0) (F_belts_Pull_1_len h10 (rfl : (x1).length = _) (rfl : (x3).length = _) (rfl : (x5).length = _) (rfl : (x7).length = _)).1), Xq 1 3 rfl (congrArg (PV.sl _ _ 0) (F_belts_Pull_1_len h10 (rfl : (x1).length = _) (rfl : (x3).length = _) (rfl : (x5).length = _) (rfl : (x7).length = _)).2.1), Xq 2 4 rfl (congrArg (PV.sl _ _ 0) (F_belts_Pull_1_len h10 (rfl : (x1).length = _) (rfl : (x3).length = _) (rfl : (x5).length = _) (rfl : (x7).length = _)).2.2.1), Vr rfl (.vs _ _), trivial⟩⟩, trivial⟩
 ·rintro _ _ _ _ ⟨he, hw⟩
  refine ⟨_, _, _, hw, ?_⟩
  exact Zm (Vs hn) 3 rfl (Wu rfl) he [.agg [.int .i64 r.Time, .sl (n + 0) 0 0 (r.States).length, .sl (n + 1) 0 0 (r.Since).length, .sl (n + 2) 0 0 (r.Pulled).length, .vs 1 (Wq Ws r.Held)]] ⟨Vv rfl (Ve (Vs hn) rfl) rfl ta_34 ts_34 rfl rfl rfl, trivial⟩ ((Xw ⟨.int _ _, .sl _ _ _ _ (Zw rfl), .sl _ _ _ _ (Zw rfl), .sl _ _ _ _ (Zw rfl), .vs _ _, trivial⟩)) ⟨Vh (fun _ => .int _ _), Vh (fun _ => .int _ _), Vh (fun _ => .bool _), trivial⟩ ⟨rfl, rfl⟩

theorem F_belts_done__belts_Pull_1_ok {p0 : T_Line} {pc10 : List T_Belt} {pc11 : Int} {r : T_Line} (hF : F_belts_done__belts_Pull_1 p0 pc10 pc11 = some r) {low : List AObj} {q0 q1 w0 w1 : Nat} (hnd : [q0, q1].Nodup) (hq0 : low[q0]? = some ⟨27, 1, [.vs 2 (Wq T_Belt.enc pc10)], w0⟩) (hq1 : low[q1]? = some ⟨3, 1, [.int .i64 pc11], w1⟩) {n : Nat} (hn : low.length = n) :
    Ys Try.prog 31 [.agg [.int .i64 p0.Time, .vs 1 (Wq (Wr .i64) p0.States), .vs 1 (Wq (Wr .i64) p0.Since), .vs 1 (Wq Ws p0.Pulled), .vs 1 (Wq Ws p0.Held)], .fn 35 [] [.ptr q0 w0 0 0, .ptr q1 w1 0 0]] low fun x low' => x = .agg [.int .i64 r.Time, .sl (n + 0) 0 0 (r.States).length, .sl (n + 1) 0 0 (r.Since).length, .sl (n + 2) 0 0 (r.Pulled).length, .vs 1 (Wq Ws r.Held)] ∧ low' = setL low [(q0, ⟨27, 1, [.vs 2 (Wq T_Belt.enc pc10)], w0⟩), (q1, ⟨3, 1, [.int .i64 pc11], w1⟩)] ++ [⟨3, 1, Wq (Wr .i64) r.States, 0⟩, ⟨3, 1, Wq (Wr .i64) r.Since, 0⟩, ⟨4, 1, Wq Ws r.Pulled, 0⟩] := by
  obtain ⟨h1, h2⟩ := We (ps := [(q0, ⟨27, 1, [.vs 2 (Wq T_Belt.enc pc10)], w0⟩), (q1, ⟨3, 1, [.int .i64 pc11], w1⟩)]) hnd (Wf hq0 (Wf hq1 bor0))
  exact Zx h1 (F_belts_done__belts_Pull_1_ok0 hF h2 hn)

theorem F_belts_Pull_ok {p0 : List T_Belt} {p1 : T_Line} {p2 : Int} {r : T_Line × Int} (hF : F_belts_Pull p0 p1 p2 = some r) (low : List AObj) {n : Nat} (hn : low.length = n) :
    Ys Try.prog 15 [.vs 2 (Wq T_Belt.enc p0), .agg [.int .i64 p1.Time, .vs 1 (Wq (Wr .i64) p1.States), .vs 1 (Wq (Wr .i64) p1.Since), .vs 1 (Wq Ws p1.Pulled), .vs 1 (Wq Ws p1.Held)], .int .i64 p2] low fun x low' => x = .tup [.agg [.int .i64 r.1.Time, .vs 1 (Wq (Wr .i64) r.1.States), .vs 1 (Wq (Wr .i64) r.1.Since), .vs 1 (Wq Ws r.1.Pulled), .vs 1 (Wq Ws r.1.Held)], .int .i64 r.2] ∧ low' = low ++ [] := by
 refine Vz (nt := 20) (rs := [.cell 6 34, .tmp 7]) Try.func15 rfl rfl (Wu rfl) rfl ?_
 refine Vw (Q' := FnE (fun E' lw lc => Yb E' lw lc [(6, .ptr (n + 0) 0 0 0), (7, .int .i64 r.2)] low [⟨34, 5, [.agg [.int .i64 r.1.Time, .vs 1 (Wq (Wr .i64) r.1.States), .vs 1 (Wq (Wr .i64) r.1.Since), .vs 1 (Wq Ws r.1.Pulled), .vs 1 (Wq Ws r.1.Held)]], 0⟩])) ?_ ?_
 ·unfold F_belts_Pull at hF
  refine Vi ?_
  refine Vd ?_
  refine Vj (Zc hn rfl (v := .vs 2 (Wq T_Belt.enc p0)) rfl rfl (Wv _) rfl rfl) rfl ?_
  refine Vj (Zc hn rfl (v := .agg [.int .i64 p1.Time, .vs 1 (Wq (Wr .i64) p1.States), .vs 1 (Wq (Wr .i64) p1.Since), .vs 1 (Wq Ws p1.Pulled), .vs 1 (Wq Ws p1.Held)]) rfl rfl (Wv _) rfl rfl) rfl ?_
  refine Vj (Zc hn rfl (v := .int .i64 p2) rfl rfl (Wv _) rfl rfl) rfl ?_
  refine Vj (Xe hn rfl tz_34 rfl rfl (Wv _) rfl) rfl ?_
  refine Va (Xa rfl) rfl ?_
  refine Vf ?_
  refine Vi ?_
  refine Vi ?_
  refine Vd ?_
  obtain ⟨x1, h2, hF⟩ := Yt hF
  refine Va (Vg rfl (Ve hn rfl) rfl ta_27 rfl) rfl ?_
  refine Va (Vv (ds := [.int .i64 p1.Time, .vs 1 (Wq (Wr .i64) p1.States), .vs 1 (Wq (Wr .i64) p1.Since), .vs 1 (Wq Ws p1.Pulled), .vs 1 (Wq Ws p1.Held)]) rfl (Ve hn rfl) rfl ta_34 ts_34 rfl rfl rfl) rfl ?_
  refine Va (Vg rfl (Ve hn rfl) rfl ta_3 rfl) rfl ?_
  refine Vj (Xp rfl Try.call30 (F_belts_checked_ok h2 _)) rfl ?_
  refine Va (Xa rfl) rfl ?_
  refine Vf ?_
  refine Vi ?_
  refine Vd ?_
  refine Va (Vk rfl) rfl ?_
  refine Va (Ze rfl rfl) rfl ?_
  refine Vf ?_
  refine Xh rfl (fun c3 => ?_) (fun c3 => ?_)
  ·have hF := Yo c3 hF
   refine Vi ?_
   refine Vd ?_
   refine Va (Vv (ds := [.int .i64 p1.Time, .vs 1 (Wq (Wr .i64) p1.States), .vs 1 (Wq (Wr .i64) p1.Since), .vs 1 (Wq Ws p1.Pulled), .vs 1 (Wq Ws p1.Held)]) rfl (Ve hn rfl) rfl ta_34 ts_34 rfl rfl rfl) rfl ?_
   refine Va (Vk rfl) rfl ?_
   refine Vj (Vy (p := .agg [.int .i64 p1.Time, .vs 1 (Wq (Wr .i64) p1.States), .vs 1 (Wq (Wr .i64) p1.Since), .vs 1 (Wq Ws p1.Pulled), .vs 1 (Wq Ws p1.Held)]) (e' := .agg [.int .i64 p1.Time, .vs 1 (Wq (Wr .i64) p1.States), .vs 1 (Wq (Wr .i64) p1.Since), .vs 1 (Wq Ws p1.Pulled), .vs 1 (Wq Ws p1.Held)]) rfl (Ve hn rfl) rfl rfl ts_34 rfl (Ye rfl) rfl (Wu rfl) rfl (Xr hn rfl)) rfl ?_
   refine Va (Xa rfl) rfl ?_
   refine Vf ?_
   refine Xb ?_
   obtain rfl := Wt hF
   refine Wg ?_
   exact Vt hn [(3, 0)] (by decide) ⟨Yj 0 3 rfl rfl, Vr rfl (.int _ _), trivial⟩ ⟨⟨_, rfl, rfl, .same _ _ _ _ (Xt ⟨Xw ⟨.int _ _, .vs _ _, .vs _ _, .vs _ _, .vs _ _, trivial⟩, trivial⟩)⟩, trivial⟩
  ·have hF := Yp c3 hF
   refine Xn ?_
   refine Vi ?_
   refine Vd ?_
   obtain ⟨x4, h5, hF⟩ := Yt hF
   refine Va (Vv (ds := [.int .i64 p1.Time, .vs 1 (Wq (Wr .i64) p1.States), .vs 1 (Wq (Wr .i64) p1.Since), .vs 1 (Wq Ws p1.Pulled), .vs 1 (Wq Ws p1.Held)]) rfl (Ve hn rfl) rfl ta_34 ts_34 rfl rfl rfl) rfl ?_
   refine Va (rd_makeFn rfl) rfl ?_
   refine Vj (Zg (ps := [((n + 0), ⟨27, 1, [.vs 2 (Wq T_Belt.enc p0)], 0⟩), ((n + 2), ⟨3, 1, [.int .i64 p2], 0⟩)]) (r := .agg [.int .i64 x4.Time, .sl (n + 4) 0 0 (x4.States).length, .sl (n + 5) 0 0 (x4.Since).length, .sl (n + 6) 0 0 (x4.Pulled).length, .vs 1 (Wq Ws x4.Held)]) (os := [⟨3, 1, Wq (Wr .i64) x4.States, 0⟩, ⟨3, 1, Wq (Wr .i64) x4.Since, 0⟩, ⟨4, 1, Wq Ws x4.Pulled, 0⟩]) (low1 := low) (loc1 := [⟨27, 1, [.vs 2 (Wq T_Belt.enc p0)], 0⟩, ⟨34, 5, [.agg [.int .i64 p1.Time, .vs 1 (Wq (Wr .i64) p1.States), .vs 1 (Wq (Wr .i64) p1.Since), .vs 1 (Wq Ws p1.Pulled), .vs 1 (Wq Ws p1.Held)]], 0⟩, ⟨3, 1, [.int .i64 p2], 0⟩, ⟨34, 5, [.agg [.int .i64 0, .nils, .nils, .nils, .nils]], 0⟩]) (loc2 := [⟨27, 1, [.vs 2 (Wq T_Belt.enc p0)], 0⟩, ⟨34, 5, [.agg [.int .i64 p1.Time, .vs 1 (Wq (Wr .i64) p1.States), .vs 1 (Wq (Wr .i64) p1.Since), .vs 1 (Wq Ws p1.Pulled), .vs 1 (Wq Ws p1.Held)]], 0⟩, ⟨3, 1, [.int .i64 p2], 0⟩, ⟨34, 5, [.agg [.int .i64 0, .nils, .nils, .nils, .nils]], 0⟩, ⟨3, 1, Wq (Wr .i64) x4.States, 0⟩, ⟨3, 1, Wq (Wr .i64) x4.Since, 0⟩, ⟨4, 1, Wq Ws x4.Pulled, 0⟩]) rfl Try.call31 (F_belts_done__belts_Pull_1_ok h5 (nd1 (Zs (Yx rfl) na0) (nd1 na0 nd0)) (Zt hn rfl) (Zt hn rfl) (Xi hn rfl)) (Yq (loc2 := [⟨27, 1, [.vs 2 (Wq T_Belt.enc p0)], 0⟩, ⟨34, 5, [.agg [.int .i64 p1.Time, .vs 1 (Wq (Wr .i64) p1.States), .vs 1 (Wq (Wr .i64) p1.Since), .vs 1 (Wq Ws p1.Pulled), .vs 1 (Wq Ws p1.Held)]], 0⟩, ⟨3, 1, [.int .i64 p2], 0⟩, ⟨34, 5, [.agg [.int .i64 0, .nils, .nils, .nils, .nils]], 0⟩]) hn 0 rfl (Yq (loc2 := [⟨27, 1, [.vs 2 (Wq T_Belt.enc p0)], 0⟩, ⟨34, 5, [.agg [.int .i64 p1.Time, .vs 1 (Wq (Wr .i64) p1.States), .vs 1 (Wq (Wr .i64) p1.Since), .vs 1 (Wq Ws p1.Pulled), .vs 1 (Wq Ws p1.Held)]], 0⟩, ⟨3, 1, [.int .i64 p2], 0⟩, ⟨34, 5, [.agg [.int .i64 0, .nils, .nils, .nils, .nils]], 0⟩]) hn 2 rfl Zl)) rfl) rfl ?_
   refine Vj (Vy (p := .agg [.int .i64 x4.Time, .sl (n + 4) 0 0 (x4.States).length, .sl (n + 5) 0 0 (x4.Since).length, .sl (n + 6) 0 0 (x4.Pulled).length, .vs 1 (Wq Ws x4.Held)]) (e' := .agg [.int .i64 x4.Time, .sl (n + 4) 0 0 (x4.States).length, .sl (n + 5) 0 0 (x4.Since).length, .sl (n + 6) 0 0 (x4.Pulled).length, .vs 1 (Wq Ws x4.Held)]) rfl (Ve hn rfl) rfl rfl ts_34 rfl (Ye rfl) rfl (Wu rfl) rfl (Xr hn rfl)) rfl ?_
   refine Va (Xa rfl) rfl ?_
   refine Vf ?_
   refine Xb ?_
   obtain rfl := Wt hF
   refine Wg ?_
   refine Weak.trans (Xm (E' := [(6, .ptr (n + 3) 0 0 0), (7, .int .i64 0)]) (loc1 := [⟨27, 1, [.vs 2 (Wq T_Belt.enc p0)], 0⟩, ⟨34, 5, [.agg [.int .i64 p1.Time, .vs 1 (Wq (Wr .i64) p1.States), .vs 1 (Wq (Wr .i64) p1.Since), .vs 1 (Wq Ws p1.Pulled), .vs 1 (Wq Ws p1.Held)]], 0⟩, ⟨3, 1, [.int .i64 p2], 0⟩, ⟨34, 5, [.agg [.int .i64 x4.Time, .vs 1 (Wq (Wr .i64) x4.States), .sl (n + 5) 0 0 (x4.Since).length, .sl (n + 6) 0 0 (x4.Pulled).length, .vs 1 (Wq Ws x4.Held)]], 0⟩, ⟨3, 1, [], 0 + 1⟩, ⟨3, 1, Wq (Wr .i64) x4.Since, 0⟩, ⟨4, 1, Wq Ws x4.Pulled, 0⟩]) hn 4 rfl (Ya (fun _ => .int _ _)) ⟨Vl rfl, Vl rfl, trivial⟩ ⟨.refl _, .refl _, .refl _, Yr ⟨Vl rfl, Zj rfl rfl rfl (Vx rfl), Vl rfl, Vl rfl, Vl rfl, trivial⟩, .refl _, .refl _, .refl _, trivial⟩) ?_
   refine Weak.trans (Xm (E' := [(6, .ptr (n + 3) 0 0 0), (7, .int .i64 0)]) (loc1 := [⟨27, 1, [.vs 2 (Wq T_Belt.enc p0)], 0⟩, ⟨34, 5, [.agg [.int .i64 p1.Time, .vs 1 (Wq (Wr .i64) p1.States), .vs 1 (Wq (Wr .i64) p1.Since), .vs 1 (Wq Ws p1.Pulled), .vs 1 (Wq Ws p1.Held)]], 0⟩, ⟨3, 1, [.int .i64 p2], 0⟩, ⟨34, 5, [.agg [.int .i64 x4.Time, .vs 1 (Wq (Wr .i64) x4.States), .vs 1 (Wq (Wr .i64) x4.Since), .sl (n + 6) 0 0 (x4.Pulled).length, .vs 1 (Wq Ws x4.Held)]], 0⟩, ⟨3, 1, [], 0 + 1⟩, ⟨3, 1, [], 0 + 1⟩, ⟨4, 1, Wq Ws x4.Pulled, 0⟩]) hn 5 rfl (Ya (fun _ => .int _ _)) ⟨Vl rfl, Vl rfl, trivial⟩ ⟨.refl _, .refl _, .refl _, Yr ⟨Vl rfl, Vl rfl, Zj rfl rfl rfl (Vx rfl), Vl rfl, Vl rfl, trivial⟩, .refl _, .refl _, .refl _, trivial⟩) ?_
   refine Weak.trans (Xm (E' := [(6, .ptr (n + 3) 0 0 0), (7, .int .i64 0)]) (loc1 := [⟨27, 1, [.vs 2 (Wq T_Belt.enc p0)], 0⟩, ⟨34, 5, [.agg [.int .i64 p1.Time, .vs 1 (Wq (Wr .i64) p1.States), .vs 1 (Wq (Wr .i64) p1.Since), .vs 1 (Wq Ws p1.Pulled), .vs 1 (Wq Ws p1.Held)]], 0⟩, ⟨3, 1, [.int .i64 p2], 0⟩, ⟨34, 5, [.agg [.int .i64 x4.Time, .vs 1 (Wq (Wr .i64) x4.States), .vs 1 (Wq (Wr .i64) x4.Since), .vs 1 (Wq Ws x4.Pulled), .vs 1 (Wq Ws x4.Held)]], 0⟩, ⟨3, 1, [], 0 + 1⟩, ⟨3, 1, [], 0 + 1⟩, ⟨4, 1, [], 0 + 1⟩]) hn 6 rfl (Ya (fun _ => .bool _)) ⟨Vl rfl, Vl rfl, trivial⟩ ⟨.refl _, .refl _, .refl _, Yr ⟨Vl rfl, Vl rfl, Vl rfl, Zj rfl rfl rfl (Vx rfl), Vl rfl, trivial⟩, .refl _, .refl _, .refl _, trivial⟩) ?_
   exact Vt hn [(3, 0)] (by decide) ⟨Yj 0 3 rfl rfl, Vr rfl (.int _ _), trivial⟩ ⟨⟨_, rfl, rfl, .same _ _ _ _ (Xt ⟨Xw ⟨.int _ _, .vs _ _, .vs _ _, .vs _ _, .vs _ _, trivial⟩, trivial⟩)⟩, trivial⟩
 ·rintro _ _ _ _ ⟨he, hw⟩
  refine ⟨_, _, _, hw, ?_⟩
  exact Zm hn 0 rfl (Wu rfl) he [.agg [.int .i64 r.1.Time, .vs 1 (Wq (Wr .i64) r.1.States), .vs 1 (Wq (Wr .i64) r.1.Since), .vs 1 (Wq Ws r.1.Pulled), .vs 1 (Wq Ws r.1.Held)], .int .i64 r.2] ⟨Vv rfl (Ve hn rfl) rfl ta_34 ts_34 rfl rfl rfl, rfl, trivial⟩ ((lt_tup ⟨(Xw ⟨.int _ _, .vs _ _, .vs _ _, .vs _ _, .vs _ _, trivial⟩), .int _ _, trivial⟩)) trivial ⟨rfl, rfl⟩

theorem F_belts_Above_1_ok0 {p0 : Int} {p1 : List T_Belt} {p2 : Int} {r : Bool} (hF : F_belts_Above_1 p0 p1 p2 = some r) {low0 : List AObj} {q0 q1 w0 w1 : Nat} (hB : Bor low0 [q0, q1]) {n : Nat} (hn : low0.length = n) :
    Ys Try.prog 38 [.int .i64 p0, .ptr q0 w0 0 0, .ptr q1 w1 0 0] (setL low0 [(q0, ⟨27, 1, [.vs 2 (Wq T_Belt.enc p1)], w0⟩), (q1, ⟨3, 1, [.int .i64 p2], w1⟩)]) fun x low' => x = .bool r ∧ low' = setL low0 [(q0, ⟨27, 1, [.vs 2 (Wq T_Belt.enc p1)], w0⟩), (q1, ⟨3, 1, [.int .i64 p2], w1⟩)] ++ [] := by
 refine Vz (nt := 9) (rs := [.tmp 4]) Try.func38 rfl rfl (Wu rfl) rfl ?_
 have hq0 : q0 < n := hB.ltN hn 0 rfl
 have hq1 : q1 < n := hB.ltN hn 1 rfl
 refine Vw (Q' := FnE (fun E' lw lc => Yb E' lw lc [(4, .bool r)] (setL low0 [(q0, ⟨27, 1, [.vs 2 (Wq T_Belt.enc p1)], w0⟩), (q1, ⟨3, 1, [.int .i64 p2], w1⟩)]) [])) ?_ ?_
 ·unfold F_belts_Above_1 at hF
  refine Vi ?_
  refine Vd ?_
  refine Va (Xz rfl) rfl ?_
  refine Vf ?_
  refine Vi ?_
  refine Vd ?_
  obtain ⟨x1, h2, hF⟩ := Yt hF
  refine Va (Vg rfl (Yw hB rfl 0 rfl) rfl ta_27 rfl) rfl ?_
  refine Va (Vk rfl) rfl ?_
  refine Va (Vg rfl (Yw hB rfl 1 rfl) rfl ta_3 rfl) rfl ?_
  refine Vj (Xp rfl Try.call39 (F_belts_throws_ok h2 _)) rfl ?_
  refine Va (Xz rfl) rfl ?_
  refine Vf ?_
  refine Xb ?_
  obtain rfl := Wt hF
  refine Wg ?_
  exact Vp ⟨rfl, trivial⟩
 ·rintro _ _ _ _ ⟨he, hw⟩
  refine ⟨_, _, _, hw, ?_⟩
  exact Zd he [.bool r] ⟨rfl, trivial⟩ (.bool _) ⟨rfl, (List.append_nil _).symm⟩

theorem F_belts_Above_1_ok {p0 : Int} {p1 : List T_Belt} {p2 : Int} {r : Bool} (hF : F_belts_Above_1 p0 p1 p2 = some r) {low : List AObj} {q0 q1 w0 w1 : Nat} (hnd : [q0, q1].Nodup) (hq0 : low[q0]? = some ⟨27, 1, [.vs 2 (Wq T_Belt.enc p1)], w0⟩) (hq1 : low[q1]? = some ⟨3, 1, [.int .i64 p2], w1⟩) {n : Nat} (hn : low.length = n) :
    Ys Try.prog 38 [.int .i64 p0, .ptr q0 w0 0 0, .ptr q1 w1 0 0] low fun x low' => x = .bool r ∧ low' = setL low [(q0, ⟨27, 1, [.vs 2 (Wq T_Belt.enc p1)], w0⟩), (q1, ⟨3, 1, [.int .i64 p2], w1⟩)] ++ [] := by
  obtain ⟨h1, h2⟩ := We (ps := [(q0, ⟨27, 1, [.vs 2 (Wq T_Belt.enc p1)], w0⟩), (q1, ⟨3, 1, [.int .i64 p2], w1⟩)]) hnd (Wf hq0 (Wf hq1 bor0))
  exact Zx h1 (F_belts_Above_1_ok0 hF h2 hn)

theorem F_lists_Where__belts_Above_1_ok0 {p0 : Int} {pc10 : List T_Belt} {pc11 : Int} {r : List Int} (hF : F_lists_Where__belts_Above_1 p0 pc10 pc11 = some r) {low0 : List AObj} {q0 q1 w0 w1 : Nat} (hB : Bor low0 [q0, q1]) {n : Nat} (hn : low0.length = n) :
    Ys Try.prog 37 [.int .i64 p0, .fn 38 [] [.ptr q0 w0 0 0, .ptr q1 w1 0 0]] (setL low0 [(q0, ⟨27, 1, [.vs 2 (Wq T_Belt.enc pc10)], w0⟩), (q1, ⟨3, 1, [.int .i64 pc11], w1⟩)]) fun x low' => x = .vs 1 (Wq (Wr .i64) r) ∧ low' = setL low0 [(q0, ⟨27, 1, [.vs 2 (Wq T_Belt.enc pc10)], w0⟩), (q1, ⟨3, 1, [.int .i64 pc11], w1⟩)] ++ [] := by
 refine Vz (nt := 20) (rs := [.tmp 4]) Try.func37 rfl rfl (Wu rfl) rfl ?_
 have hq0 : q0 < n := hB.ltN hn 0 rfl
 have hq1 : q1 < n := hB.ltN hn 1 rfl
 refine Vw (Q' := FnE (fun E' lw lc => Yb E' lw lc [(4, .vs 1 (Wq (Wr .i64) r))] (setL low0 [(q0, ⟨27, 1, [.vs 2 (Wq T_Belt.enc pc10)], w0⟩), (q1, ⟨3, 1, [.int .i64 pc11], w1⟩)]) [])) ?_ ?_
 ·unfold F_lists_Where__belts_Above_1 at hF
  refine Vi ?_
  refine Vd ?_
  refine Va (rd_nv (sz := 1) (rd_asN rfl)) rfl ?_
  refine Vf ?_
  refine Vi ?_
  refine Vd ?_
  refine Vj (vef_nilsN (Vs hn) rfl 3 1 (Wv _) (rd_asN rfl)) rfl ?_
  refine Vf ?_
  refine Vi ?_
  refine Vi ?_
  refine Vd ?_
  refine Va (Vk rfl) rfl ?_
  refine Va (Vk rfl) rfl ?_
  refine Vf ?_
  refine Yh ?_
  obtain ⟨o2, ho2, hF⟩ := Yt hF
  refine Vw (Wb (F_lists_Where__belts_Above_1_L1 p0 pc10 pc11) (fun s1 E' lw lc => Yb E' lw lc [(1, .fn 38 [] [.ptr q0 w0 0 0, .ptr q1 w1 0 0]), (5, .sl (n + 0) 0 0 (s1.2).length), (7, .int .i64 p0), (8, .int .i64 s1.1)] (setL low0 [(q0, ⟨27, 1, [.vs 2 (Wq T_Belt.enc pc10)], w0⟩), (q1, ⟨3, 1, [.int .i64 pc11], w1⟩)]) [⟨3, 1, Wq (Wr .i64) s1.2, 0⟩]) (fun o2 => OnlyE (.exit 0) (fun E' lw lc => Yb E' lw lc [(5, .sl (n + 0) 0 0 (o2).length)] (setL low0 [(q0, ⟨27, 1, [.vs 2 (Wq T_Belt.enc pc10)], w0⟩), (q1, ⟨3, 1, [.int .i64 pc11], w1⟩)]) [⟨3, 1, Wq (Wr .i64) o2, 0⟩])) ho2 ?_ (by rintro _ _ _ _ ⟨h, _⟩ <;> cases h) ?_) ?_
  ·exact Vp ⟨rfl, rfl, rfl, rfl, trivial⟩
  ·rintro s1 os1 _ _ _ hF hw
   unfold F_lists_Where__belts_Above_1_L1 at hF
   refine Yd hw ?_
   refine Vi ?_
   refine Vd ?_
   refine Va (Zr rfl rfl) rfl ?_
   refine Vf ?_
   refine Vi ?_
   refine Xh rfl (fun c3 => ?_) (fun c3 => ?_)
   ·have hF := Yo c3 hF
    refine Xn ?_
    refine Vi ?_
    obtain ⟨o4, ho4, hF⟩ := Yt hF
    refine Vw (Q' := (fun o4 => OnlyE .normal (fun E' lw lc => Yb E' lw lc [(1, .fn 38 [] [.ptr q0 w0 0 0, .ptr q1 w1 0 0]), (5, .sl (n + 0) 0 0 (o4).length), (7, .int .i64 p0), (8, .int .i64 s1.1)] (setL low0 [(q0, ⟨27, 1, [.vs 2 (Wq T_Belt.enc pc10)], w0⟩), (q1, ⟨3, 1, [.int .i64 pc11], w1⟩)]) [⟨3, 1, Wq (Wr .i64) o4, 0⟩])) o4) ?_ ?_
    ·replace hF := ho4
     refine Yh ?_
     refine Vi ?_
     refine Vd ?_
     refine Va (Vk rfl) rfl ?_
     refine Va (Xa rfl) rfl ?_
     refine Vf ?_
     refine Vi ?_
     refine Vd ?_
     obtain ⟨x5, h6, hF⟩ := Yt hF
     refine Va (rd_mvF rfl) rfl ?_
     refine Va (Vk rfl) rfl ?_
     refine Vj (Zg (ps := [(q0, ⟨27, 1, [.vs 2 (Wq T_Belt.enc pc10)], w0⟩), (q1, ⟨3, 1, [.int .i64 pc11], w1⟩)]) (r := .bool x5) (os := []) (low1 := (setL low0 [(q0, ⟨27, 1, [.vs 2 (Wq T_Belt.enc pc10)], w0⟩), (q1, ⟨3, 1, [.int .i64 pc11], w1⟩)])) (loc1 := [⟨3, 1, Wq (Wr .i64) s1.2, 0⟩]) (loc2 := [⟨3, 1, Wq (Wr .i64) s1.2, 0⟩]) rfl Try.call38 (F_belts_Above_1_ok h6 (nd1 (Zs (hB.ne 0 1 rfl rfl rfl) na0) (nd1 na0 nd0)) (Wp hB rfl 0 rfl) (Wp hB rfl 1 rfl) (Xi (Vs hn) rfl)) (Wd (ps0' := [(q0, ⟨27, 1, [.vs 2 (Wq T_Belt.enc pc10)], w0⟩), (q1, ⟨3, 1, [.int .i64 pc11], w1⟩)]) hB rfl 0 rfl (ltObjN hn ⟨.vs _ _, trivial⟩) rfl (Wd (ps0' := [(q0, ⟨27, 1, [.vs 2 (Wq T_Belt.enc pc10)], w0⟩), (q1, ⟨3, 1, [.int .i64 pc11], w1⟩)]) hB rfl 1 rfl (ltObjN hn ⟨.int _ _, trivial⟩) rfl Zl)) rfl) rfl ?_
     refine Vf ?_
     refine Xh rfl (fun c7 => ?_) (fun c7 => ?_)
     ·have hF := Yo c7 hF
      refine Vd ?_
      obtain ⟨x8, h9, hF⟩ := Yt hF
      refine Va (rd_mvL rfl) rfl ?_
      refine Va (Vk rfl) rfl ?_
      refine Vj (vef_litF (es := Wq (Wr .i64) [s1.1]) ⟨rfl, rfl, trivial⟩ rfl rfl (nt_all rfl) te_22 ts_3 tz_3 rfl rfl (Wv _) (by decide) (Ya (fun _ => .int _ _))) rfl ?_
      refine Vj (vef_apL (f := (Wr .i64)) (l := s1.2) (ys := [s1.1]) rfl rfl (Ve (Vs hn) rfl) rfl (src_vs rfl) te_22 ts_3 tb_3 (by decide) tz_3 rfl h9 (Xr (Vs hn) rfl)) rfl ?_
      refine Va (rd_asL rfl) rfl ?_
      refine Vf ?_
      obtain rfl := Wt hF
      refine Xy ?_
      exact Vt (Vs hn) [(0, 0 + 1)] (by decide) ⟨Vr rfl (lt_fn ⟨.ptr _ _ _ _ hq0, .ptr _ _ _ _ hq1, trivial⟩), Xq 0 0 rfl rfl, Vr rfl (.int _ _), Vr rfl (.int _ _), trivial⟩ ⟨⟨_, rfl, rfl, .same _ _ _ _ (Vh (fun _ => .int _ _))⟩, trivial⟩
     ·have hF := Yp c7 hF
      refine Xn ?_
      obtain rfl := Wt hF
      refine Xy ?_
      exact Vp ⟨rfl, rfl, rfl, rfl, trivial⟩
    ·rintro _ _ _ _ ⟨rfl, hw⟩
     refine ⟨_, _, _, hw, ?_⟩
     refine Vd ?_
     refine Va (Wk rfl rfl rfl) rfl ?_
     refine Va (Vk rfl) rfl ?_
     refine Vf ?_
     obtain rfl := Wt hF
     refine Xy ?_
     exact Vp ⟨rfl, rfl, rfl, rfl, trivial⟩
   ·have hF := Yp c3 hF
    refine Wi ?_
    obtain rfl := Wt hF
    refine Xy ?_
    exact Vp ⟨rfl, trivial⟩
  ·rintro _ _ _ _ ⟨rfl, hw⟩
   refine ⟨_, _, _, hw, ?_⟩
   refine Vi ?_
   refine Vd ?_
   refine Va (rd_mvL rfl) rfl ?_
   refine Va (rd_asL rfl) rfl ?_
   refine Vf ?_
   refine Xb ?_
   obtain rfl := Wt hF
   refine Wg ?_
   refine Weak.trans (Xm (E' := [(4, .vs 1 (Wq (Wr .i64) o2))]) (loc1 := [⟨3, 1, [], 0 + 1⟩]) (Vs hn) 0 rfl (Ya (fun _ => .int _ _)) ⟨Zj rfl rfl rfl (Vx rfl), trivial⟩ ⟨.refl _, trivial⟩) ?_
   exact Vt (Vs hn) [] (by decide) ⟨Vr rfl (.vs _ _), trivial⟩ trivial
 ·rintro _ _ _ _ ⟨he, hw⟩
  refine ⟨_, _, _, hw, ?_⟩
  exact Zd he [.vs 1 (Wq (Wr .i64) r)] ⟨rfl, trivial⟩ (.vs _ _) ⟨rfl, (List.append_nil _).symm⟩

theorem F_lists_Where__belts_Above_1_ok {p0 : Int} {pc10 : List T_Belt} {pc11 : Int} {r : List Int} (hF : F_lists_Where__belts_Above_1 p0 pc10 pc11 = some r) {low : List AObj} {q0 q1 w0 w1 : Nat} (hnd : [q0, q1].Nodup) (hq0 : low[q0]? = some ⟨27, 1, [.vs 2 (Wq T_Belt.enc pc10)], w0⟩) (hq1 : low[q1]? = some ⟨3, 1, [.int .i64 pc11], w1⟩) {n : Nat} (hn : low.length = n) :
    Ys Try.prog 37 [.int .i64 p0, .fn 38 [] [.ptr q0 w0 0 0, .ptr q1 w1 0 0]] low fun x low' => x = .vs 1 (Wq (Wr .i64) r) ∧ low' = setL low [(q0, ⟨27, 1, [.vs 2 (Wq T_Belt.enc pc10)], w0⟩), (q1, ⟨3, 1, [.int .i64 pc11], w1⟩)] ++ [] := by
  obtain ⟨h1, h2⟩ := We (ps := [(q0, ⟨27, 1, [.vs 2 (Wq T_Belt.enc pc10)], w0⟩), (q1, ⟨3, 1, [.int .i64 pc11], w1⟩)]) hnd (Wf hq0 (Wf hq1 bor0))
  exact Zx h1 (F_lists_Where__belts_Above_1_ok0 hF h2 hn)

theorem F_belts_Above_ok {p0 : List T_Belt} {p1 : Int} {r : List Int} (hF : F_belts_Above p0 p1 = some r) (low : List AObj) :
    Ys Try.prog 16 [.vs 2 (Wq T_Belt.enc p0), .int .i64 p1] low fun x low' => x = .vs 1 (Wq (Wr .i64) r) ∧ low' = low := by
 refine Vz (nt := 20) (rs := [.tmp 4]) Try.func16 rfl rfl (Wu rfl) rfl ?_
 refine Vw (Q' := FnE (fun E' lw lc => Yb E' lw lc [(4, .vs 1 (Wq (Wr .i64) r))] low [])) ?_ ?_
 ·unfold F_belts_Above at hF
  refine Vi ?_
  refine Vd ?_
  refine Vj (Zc rfl rfl (v := .vs 2 (Wq T_Belt.enc p0)) rfl rfl (Wv _) rfl rfl) rfl ?_
  refine Vj (Zc rfl rfl (v := .int .i64 p1) rfl rfl (Wv _) rfl rfl) rfl ?_
  refine Va (rd_nv (sz := 1) (rd_asN rfl)) rfl ?_
  refine Vf ?_
  refine Vi ?_
  refine Vi ?_
  obtain ⟨o1, ho1, hF⟩ := Yt hF
  refine Vw (Q' := (fun o1 => OnlyE .normal (fun E' lw lc => Yb E' lw lc [(2, .ptr (low.length + 0) 0 0 0), (3, .ptr (low.length + 1) 0 0 0), (15, .bool o1)] low [⟨27, 1, [.vs 2 (Wq T_Belt.enc p0)], 0⟩, ⟨3, 1, [.int .i64 p1], 0⟩])) o1) ?_ ?_
  ·replace hF := ho1
   refine Vd ?_
   obtain ⟨x2, h3, hF⟩ := Yt hF
   rcases Ww (!x2) with c4 | c4
   ·have hF := Yo c4 hF
    refine Va (Vg rfl (Ve rfl rfl) rfl ta_27 rfl) rfl ?_
    refine Vj (Xp rfl Try.call29 (F_belts_sound_ok h3 _)) rfl ?_
    refine Va (Zp rfl) rfl ?_
    refine Va (Vm rfl) rfl ?_
    refine Vb rfl rfl (Zo c4) rfl ?_
    refine Vb rfl rfl (Zo c4) rfl ?_
    refine Vb rfl rfl (Zo c4) rfl ?_
    refine Vb rfl rfl (Zo c4) rfl ?_
    refine Vb rfl rfl (Zo c4) rfl ?_
    refine Vb rfl rfl (Zo c4) rfl ?_
    refine Va (Vo (congrArg Ws c4) rfl) rfl ?_
    refine Vf ?_
    obtain rfl := Wt hF
    refine Xy ?_
    exact Vp ⟨rfl, rfl, rfl, trivial⟩
   ·have hF := Yp c4 hF
    obtain ⟨x5, h6, hF⟩ := Yt hF
    refine Va (Vg rfl (Ve rfl rfl) rfl ta_27 rfl) rfl ?_
    refine Vj (Xp rfl Try.call29 (F_belts_sound_ok h3 _)) rfl ?_
    refine Va (Zp rfl) rfl ?_
    refine Va (Vm rfl) rfl ?_
    refine Xd rfl rfl c4 ?_
    refine Va (Vg rfl (Ve rfl rfl) rfl ta_3 rfl) rfl ?_
    refine Xd rfl rfl c4 ?_
    refine Va (Vg rfl (Ve rfl rfl) rfl ta_27 rfl) rfl ?_
    refine Xd rfl rfl c4 ?_
    refine Va (Xk (Xv rfl rfl te_27) (congrArg (fun n : Nat => Wr .i64 (n : Int)) (Wx _))) rfl ?_
    refine Xd rfl rfl c4 ?_
    refine Va (rd_sub rfl rfl rfl) rfl ?_
    refine Xd rfl rfl c4 ?_
    refine Vj (Xp rfl Try.call33 (F_lists_In_ok h6 _)) rfl ?_
    refine Xd rfl rfl c4 ?_
    refine Va (Zp rfl) rfl ?_
    refine Va (Vn (congrArg Ws c4) rfl) rfl ?_
    refine Vf ?_
    obtain rfl := Wt hF
    refine Xy ?_
    exact Vp ⟨rfl, rfl, rfl, trivial⟩
  ·rintro _ _ _ _ ⟨rfl, hw⟩
   refine ⟨_, _, _, hw, ?_⟩
   refine Xh rfl (fun c7 => ?_) (fun c7 => ?_)
   ·have hF := Yo c7 hF
    refine Vi ?_
    refine Vd ?_
    refine Va (rd_nv (sz := 1) (rd_asN rfl)) rfl ?_
    refine Vf ?_
    refine Xb ?_
    obtain rfl := Wt hF
    refine Wg ?_
    exact Vt rfl [] (by decide) ⟨Vr rfl (.vs _ _), trivial⟩ trivial
   ·have hF := Yp c7 hF
    refine Xn ?_
    refine Vi ?_
    refine Vd ?_
    obtain ⟨x8, h9, hF⟩ := Yt hF
    refine Va (Vg rfl (Ve rfl rfl) rfl ta_27 rfl) rfl ?_
    refine Va (Xk (Xv rfl rfl te_27) (congrArg (fun n : Nat => Wr .i64 (n : Int)) (Wx _))) rfl ?_
    refine Va (rd_makeFn rfl) rfl ?_
    refine Vj (Zg (ps := [((low.length + 0), ⟨27, 1, [.vs 2 (Wq T_Belt.enc p0)], 0⟩), ((low.length + 1), ⟨3, 1, [.int .i64 p1], 0⟩)]) (r := .vs 1 (Wq (Wr .i64) x8)) (os := []) (low1 := low) (loc1 := [⟨27, 1, [.vs 2 (Wq T_Belt.enc p0)], 0⟩, ⟨3, 1, [.int .i64 p1], 0⟩]) (loc2 := [⟨27, 1, [.vs 2 (Wq T_Belt.enc p0)], 0⟩, ⟨3, 1, [.int .i64 p1], 0⟩]) rfl Try.call37 (F_lists_Where__belts_Above_1_ok h9 (nd1 (Zs (Yx rfl) na0) (nd1 na0 nd0)) (Zt rfl rfl) (Zt rfl rfl) (Xi rfl rfl)) (Yq (loc2 := [⟨27, 1, [.vs 2 (Wq T_Belt.enc p0)], 0⟩, ⟨3, 1, [.int .i64 p1], 0⟩]) rfl 0 rfl (Yq (loc2 := [⟨27, 1, [.vs 2 (Wq T_Belt.enc p0)], 0⟩, ⟨3, 1, [.int .i64 p1], 0⟩]) rfl 1 rfl Zl)) rfl) rfl ?_
    refine Va (rd_asV rfl) rfl ?_
    refine Vf ?_
    refine Xb ?_
    obtain rfl := Wt hF
    refine Wg ?_
    exact Vt rfl [] (by decide) ⟨Vr rfl (.vs _ _), trivial⟩ trivial
 ·rintro _ _ _ _ ⟨he, hw⟩
  refine ⟨_, _, _, hw, ?_⟩
  exact Zd he [.vs 1 (Wq (Wr .i64) r)] ⟨rfl, trivial⟩ (.vs _ _) ⟨rfl, rfl⟩

theorem F_law39_awake_ok  {r : Bool} (hF : F_law39_awake = some r) (low : List AObj) :
    Ys Try.prog 8 [] low fun x low' => x = .bool r ∧ low' = low := by
 refine Vz (nt := 123) (rs := [.tmp 0]) Try.func8 rfl rfl (Wu rfl) rfl ?_
 refine Vw (Q' := FnE (fun E' lw lc => Yb E' lw lc [(0, .bool r)] low [])) ?_ ?_
 ·unfold F_law39_awake at hF
  refine Vi ?_
  refine Vd ?_
  refine Va (Xz rfl) rfl ?_
  refine Vf ?_
  refine Vi ?_
  refine Vd ?_
  refine Va (Wh (vs := [(0, .int .i64 (-1)), (1, .int .i64 5)]) (ds := [.int .i64 (-1), .int .i64 5]) tz_31 rfl rfl tp_31 ⟨rfl, rfl, rfl, rfl, trivial⟩ (Wo rfl) rfl) rfl ?_
  refine Va (Wh (vs := [(0, .int .i64 0), (1, .int .i64 3)]) (ds := [.int .i64 0, .int .i64 3]) tz_31 rfl rfl tp_31 ⟨rfl, rfl, rfl, rfl, trivial⟩ (Wo rfl) rfl) rfl ?_
  refine Vj (vef_litF (es := Wq T_Belt.enc [(T_Belt.mk (-1) 5), (T_Belt.mk 0 3)]) ⟨rfl, rfl, rfl, rfl, trivial⟩ rfl rfl (nt_all rfl) te_27 ts_31 tz_31 rfl rfl (Wv _) (by decide) (Ya T_Belt.enc_lt)) rfl ?_
  refine Va (rd_asV rfl) rfl ?_
  refine Vf ?_
  refine Vi ?_
  refine Vd ?_
  obtain ⟨x1, h2, hF⟩ := Yt hF
  refine Va (Xc rfl) rfl ?_
  refine Vj (Xp rfl Try.call12 (F_belts_Make_ok h2 _)) rfl ?_
  refine Va (rd_mvT rfl) rfl ?_
  refine Va (Xu rfl rfl) rfl ?_
  refine Va (Xu rfl rfl) rfl ?_
  refine Vj (Xe rfl rfl tz_34 rfl rfl (Wv _) rfl) rfl ?_
  refine Vj (Vy (p := .agg [.int .i64 x1.1.Time, .vs 1 (Wq (Wr .i64) x1.1.States), .vs 1 (Wq (Wr .i64) x1.1.Since), .vs 1 (Wq Ws x1.1.Pulled), .vs 1 (Wq Ws x1.1.Held)]) (e' := .agg [.int .i64 x1.1.Time, .vs 1 (Wq (Wr .i64) x1.1.States), .vs 1 (Wq (Wr .i64) x1.1.Since), .vs 1 (Wq Ws x1.1.Pulled), .vs 1 (Wq Ws x1.1.Held)]) rfl (Ve rfl rfl) rfl rfl ts_34 rfl (Ye rfl) rfl (Wu rfl) rfl (Xr rfl rfl)) rfl ?_
  refine Va (Xa rfl) rfl ?_
  refine Vf ?_
  refine Vi ?_
  refine Vd ?_
  obtain ⟨x3, h4, hF⟩ := Yt hF
  refine Va (Xc rfl) rfl ?_
  refine Va (Vv (ds := [.int .i64 x1.1.Time, .vs 1 (Wq (Wr .i64) x1.1.States), .vs 1 (Wq (Wr .i64) x1.1.Since), .vs 1 (Wq Ws x1.1.Pulled), .vs 1 (Wq Ws x1.1.Held)]) rfl (Ve rfl rfl) rfl ta_34 ts_34 rfl rfl rfl) rfl ?_
  refine Vj (Xg (r := .tup [.agg [.int .i64 x3.1.Time, .vs 1 (Wq (Wr .i64) x3.1.States), .vs 1 (Wq (Wr .i64) x3.1.Since), .vs 1 (Wq Ws x3.1.Pulled), .vs 1 (Wq Ws x3.1.Held)], .int .i64 x3.2]) (os := []) rfl Try.call13 (F_belts_Start_ok h4 _ (Xi rfl rfl))) rfl ?_
  refine Va (rd_mvT rfl) rfl ?_
  refine Va (Xu rfl rfl) rfl ?_
  refine Va (Xu rfl rfl) rfl ?_
  refine Vj (Xe rfl rfl tz_34 rfl rfl (Wv _) rfl) rfl ?_
  refine Vj (Vy (p := .agg [.int .i64 x3.1.Time, .vs 1 (Wq (Wr .i64) x3.1.States), .vs 1 (Wq (Wr .i64) x3.1.Since), .vs 1 (Wq Ws x3.1.Pulled), .vs 1 (Wq Ws x3.1.Held)]) (e' := .agg [.int .i64 x3.1.Time, .vs 1 (Wq (Wr .i64) x3.1.States), .vs 1 (Wq (Wr .i64) x3.1.Since), .vs 1 (Wq Ws x3.1.Pulled), .vs 1 (Wq Ws x3.1.Held)]) rfl (Ve rfl rfl) rfl rfl ts_34 rfl (Ye rfl) rfl (Wu rfl) rfl (Xr rfl rfl)) rfl ?_
  refine Va (Xa rfl) rfl ?_
  refine Vf ?_
  refine Vi ?_
  refine Vd ?_
  obtain ⟨x5, h6, hF⟩ := Yt hF
  refine Va (Xc rfl) rfl ?_
  refine Va (Vv (ds := [.int .i64 x1.1.Time, .vs 1 (Wq (Wr .i64) x1.1.States), .vs 1 (Wq (Wr .i64) x1.1.Since), .vs 1 (Wq Ws x1.1.Pulled), .vs 1 (Wq Ws x1.1.Held)]) rfl (Ve rfl rfl) rfl ta_34 ts_34 rfl rfl rfl) rfl ?_
  refine Vj (Xg (r := .tup [.agg [.int .i64 x5.1.Time, .vs 1 (Wq (Wr .i64) x5.1.States), .vs 1 (Wq (Wr .i64) x5.1.Since), .vs 1 (Wq Ws x5.1.Pulled), .vs 1 (Wq Ws x5.1.Held)], .int .i64 x5.2]) (os := []) rfl Try.call13 (F_belts_Start_ok h6 _ (Xi rfl rfl))) rfl ?_
  refine Va (rd_mvT rfl) rfl ?_
  refine Va (Xu rfl rfl) rfl ?_
  refine Va (Xu rfl rfl) rfl ?_
  refine Vj (Vy (p := .agg [.int .i64 x5.1.Time, .vs 1 (Wq (Wr .i64) x5.1.States), .vs 1 (Wq (Wr .i64) x5.1.Since), .vs 1 (Wq Ws x5.1.Pulled), .vs 1 (Wq Ws x5.1.Held)]) (e' := .agg [.int .i64 x5.1.Time, .vs 1 (Wq (Wr .i64) x5.1.States), .vs 1 (Wq (Wr .i64) x5.1.Since), .vs 1 (Wq Ws x5.1.Pulled), .vs 1 (Wq Ws x5.1.Held)]) rfl (Ve rfl rfl) rfl rfl ts_34 rfl (Ye rfl) rfl (Wu rfl) rfl (Xr rfl rfl)) rfl ?_
  refine Va (Xa rfl) rfl ?_
  refine Vf ?_
  refine Vi ?_
  refine Vd ?_
  obtain ⟨x7, h8, hF⟩ := Yt hF
  refine Va (Xc rfl) rfl ?_
  refine Va (Vv (ds := [.int .i64 x5.1.Time, .vs 1 (Wq (Wr .i64) x5.1.States), .vs 1 (Wq (Wr .i64) x5.1.Since), .vs 1 (Wq Ws x5.1.Pulled), .vs 1 (Wq Ws x5.1.Held)]) rfl (Ve rfl rfl) rfl ta_34 ts_34 rfl rfl rfl) rfl ?_
  refine Vj (Xg (r := .tup [.agg [.int .i64 x7.1.Time, .vs 1 (Wq (Wr .i64) x7.1.States), .vs 1 (Wq (Wr .i64) x7.1.Since), .vs 1 (Wq Ws x7.1.Pulled), .vs 1 (Wq Ws x7.1.Held)], .int .i64 x7.2]) (os := []) rfl Try.call14 (F_belts_Wait_ok h8 _ (Xi rfl rfl))) rfl ?_
  refine Va (rd_mvT rfl) rfl ?_
  refine Va (Xu rfl rfl) rfl ?_
  refine Va (Xu rfl rfl) rfl ?_
  refine Vj (Vy (p := .agg [.int .i64 x7.1.Time, .vs 1 (Wq (Wr .i64) x7.1.States), .vs 1 (Wq (Wr .i64) x7.1.Since), .vs 1 (Wq Ws x7.1.Pulled), .vs 1 (Wq Ws x7.1.Held)]) (e' := .agg [.int .i64 x7.1.Time, .vs 1 (Wq (Wr .i64) x7.1.States), .vs 1 (Wq (Wr .i64) x7.1.Since), .vs 1 (Wq Ws x7.1.Pulled), .vs 1 (Wq Ws x7.1.Held)]) rfl (Ve rfl rfl) rfl rfl ts_34 rfl (Ye rfl) rfl (Wu rfl) rfl (Xr rfl rfl)) rfl ?_
  refine Va (Xa rfl) rfl ?_
  refine Vf ?_
  refine Vi ?_
  refine Vd ?_
  obtain ⟨x9, h10, hF⟩ := Yt hF
  refine Va (Xc rfl) rfl ?_
  refine Va (Vv (ds := [.int .i64 x7.1.Time, .vs 1 (Wq (Wr .i64) x7.1.States), .vs 1 (Wq (Wr .i64) x7.1.Since), .vs 1 (Wq Ws x7.1.Pulled), .vs 1 (Wq Ws x7.1.Held)]) rfl (Ve rfl rfl) rfl ta_34 ts_34 rfl rfl rfl) rfl ?_
  refine Vj (Xg (r := .tup [.agg [.int .i64 x9.1.Time, .vs 1 (Wq (Wr .i64) x9.1.States), .vs 1 (Wq (Wr .i64) x9.1.Since), .vs 1 (Wq Ws x9.1.Pulled), .vs 1 (Wq Ws x9.1.Held)], .int .i64 x9.2]) (os := []) rfl Try.call13 (F_belts_Start_ok h10 _ (Xi rfl rfl))) rfl ?_
  refine Va (rd_mvT rfl) rfl ?_
  refine Va (Xu rfl rfl) rfl ?_
  refine Va (Xu rfl rfl) rfl ?_
  refine Vj (Vy (p := .agg [.int .i64 x9.1.Time, .vs 1 (Wq (Wr .i64) x9.1.States), .vs 1 (Wq (Wr .i64) x9.1.Since), .vs 1 (Wq Ws x9.1.Pulled), .vs 1 (Wq Ws x9.1.Held)]) (e' := .agg [.int .i64 x9.1.Time, .vs 1 (Wq (Wr .i64) x9.1.States), .vs 1 (Wq (Wr .i64) x9.1.Since), .vs 1 (Wq Ws x9.1.Pulled), .vs 1 (Wq Ws x9.1.Held)]) rfl (Ve rfl rfl) rfl rfl ts_34 rfl (Ye rfl) rfl (Wu rfl) rfl (Xr rfl rfl)) rfl ?_
  refine Va (Xa rfl) rfl ?_
  refine Vf ?_
  refine Vi ?_
  refine Vd ?_
  obtain ⟨x11, h12, hF⟩ := Yt hF
  refine Va (Xc rfl) rfl ?_
  refine Va (Vv (ds := [.int .i64 x9.1.Time, .vs 1 (Wq (Wr .i64) x9.1.States), .vs 1 (Wq (Wr .i64) x9.1.Since), .vs 1 (Wq Ws x9.1.Pulled), .vs 1 (Wq Ws x9.1.Held)]) rfl (Ve rfl rfl) rfl ta_34 ts_34 rfl rfl rfl) rfl ?_
  refine Vj (Xg (r := .tup [.agg [.int .i64 x11.1.Time, .vs 1 (Wq (Wr .i64) x11.1.States), .vs 1 (Wq (Wr .i64) x11.1.Since), .vs 1 (Wq Ws x11.1.Pulled), .vs 1 (Wq Ws x11.1.Held)], .int .i64 x11.2]) (os := []) rfl Try.call14 (F_belts_Wait_ok h12 _ (Xi rfl rfl))) rfl ?_
  refine Va (rd_mvT rfl) rfl ?_
  refine Va (Xu rfl rfl) rfl ?_
  refine Va (Xu rfl rfl) rfl ?_
  refine Vj (Vy (p := .agg [.int .i64 x11.1.Time, .vs 1 (Wq (Wr .i64) x11.1.States), .vs 1 (Wq (Wr .i64) x11.1.Since), .vs 1 (Wq Ws x11.1.Pulled), .vs 1 (Wq Ws x11.1.Held)]) (e' := .agg [.int .i64 x11.1.Time, .vs 1 (Wq (Wr .i64) x11.1.States), .vs 1 (Wq (Wr .i64) x11.1.Since), .vs 1 (Wq Ws x11.1.Pulled), .vs 1 (Wq Ws x11.1.Held)]) rfl (Ve rfl rfl) rfl rfl ts_34 rfl (Ye rfl) rfl (Wu rfl) rfl (Xr rfl rfl)) rfl ?_
  refine Va (Xa rfl) rfl ?_
  refine Vf ?_
  refine Vi ?_
  refine Vd ?_
  obtain ⟨x13, h14, hF⟩ := Yt hF
  refine Va (Xc rfl) rfl ?_
  refine Va (Vv (ds := [.int .i64 x11.1.Time, .vs 1 (Wq (Wr .i64) x11.1.States), .vs 1 (Wq (Wr .i64) x11.1.Since), .vs 1 (Wq Ws x11.1.Pulled), .vs 1 (Wq Ws x11.1.Held)]) rfl (Ve rfl rfl) rfl ta_34 ts_34 rfl rfl rfl) rfl ?_
  refine Vj (Xg (r := .tup [.agg [.int .i64 x13.1.Time, .vs 1 (Wq (Wr .i64) x13.1.States), .vs 1 (Wq (Wr .i64) x13.1.Since), .vs 1 (Wq Ws x13.1.Pulled), .vs 1 (Wq Ws x13.1.Held)], .int .i64 x13.2]) (os := []) rfl Try.call15 (F_belts_Pull_ok h14 _ (Xi rfl rfl))) rfl ?_
  refine Va (rd_mvT rfl) rfl ?_
  refine Va (Xu rfl rfl) rfl ?_
  refine Va (Xu rfl rfl) rfl ?_
  refine Vj (Xe rfl rfl tz_34 rfl rfl (Wv _) rfl) rfl ?_
  refine Vj (Vy (p := .agg [.int .i64 x13.1.Time, .vs 1 (Wq (Wr .i64) x13.1.States), .vs 1 (Wq (Wr .i64) x13.1.Since), .vs 1 (Wq Ws x13.1.Pulled), .vs 1 (Wq Ws x13.1.Held)]) (e' := .agg [.int .i64 x13.1.Time, .vs 1 (Wq (Wr .i64) x13.1.States), .vs 1 (Wq (Wr .i64) x13.1.Since), .vs 1 (Wq Ws x13.1.Pulled), .vs 1 (Wq Ws x13.1.Held)]) rfl (Ve rfl rfl) rfl rfl ts_34 rfl (Ye rfl) rfl (Wu rfl) rfl (Xr rfl rfl)) rfl ?_
  refine Va (Xa rfl) rfl ?_
  refine Vf ?_
  refine Vi ?_
  refine Vd ?_
  obtain ⟨x15, h16, hF⟩ := Yt hF
  refine Va (Xc rfl) rfl ?_
  refine Vj (Xp rfl Try.call16 (F_belts_Above_ok h16 _)) rfl ?_
  refine Va (rd_asV rfl) rfl ?_
  refine Vf ?_
  refine Vi ?_
  refine Vd ?_
  rcases Ww (decide (x1.2 = 0)) with c17 | c17
  ·have hF := Yo c17 hF
   rcases Ww (decide (x3.2 = 10)) with c18 | c18
   ·have hF := Yo c18 hF
    rcases Ww (decide (x5.2 = 0)) with c19 | c19
    ·have hF := Yo c19 hF
     rcases Ww (decide (x7.2 = 0)) with c20 | c20
     ·have hF := Yo c20 hF
      rcases Ww (decide (x9.2 = 0)) with c21 | c21
      ·have hF := Yo c21 hF
       rcases Ww (decide (x11.2 = 0)) with c22 | c22
       ·have hF := Yo c22 hF
        rcases Ww (decide (x13.2 = 0)) with c23 | c23
        ·have hF := Yo c23 hF
         rcases Ww (decide (((x11.1.States).length : Int) = 2)) with c24 | c24
         ·have hF := Yo c24 hF
          obtain ⟨x25, h26, hF⟩ := Yt hF
          rcases Ww (decide (x25 = 2)) with c27 | c27
          ·have hF := Yo c27 hF
           obtain ⟨x28, h29, hF⟩ := Yt hF
           rcases Ww (decide (x28 = 8)) with c30 | c30
           ·have hF := Yo c30 hF
            rcases Ww (decide (((x13.1.States).length : Int) = 2)) with c31 | c31
            ·have hF := Yo c31 hF
             obtain ⟨x32, h33, hF⟩ := Yt hF
             rcases Ww (decide (x32 = 0)) with c34 | c34
             ·have hF := Yo c34 hF
              refine Va (Vk rfl) rfl ?_
              refine Va (Xl rfl rfl) rfl ?_
              refine Va (Vm rfl) rfl ?_
              refine Xd rfl rfl c17 ?_
              refine Va (Vk rfl) rfl ?_
              refine Xd rfl rfl c17 ?_
              refine Va (Xl rfl rfl) rfl ?_
              refine Va (Vo (congrArg Ws c17) rfl) rfl ?_
              refine Va (Vm rfl) rfl ?_
              refine Xd rfl rfl c18 ?_
              refine Va (Vk rfl) rfl ?_
              refine Xd rfl rfl c18 ?_
              refine Va (Xl rfl rfl) rfl ?_
              refine Va (Vo (congrArg Ws c18) rfl) rfl ?_
              refine Va (Vm rfl) rfl ?_
              refine Xd rfl rfl c19 ?_
              refine Va (Vk rfl) rfl ?_
              refine Xd rfl rfl c19 ?_
              refine Va (Xl rfl rfl) rfl ?_
              refine Va (Vo (congrArg Ws c19) rfl) rfl ?_
              refine Va (Vm rfl) rfl ?_
              refine Xd rfl rfl c20 ?_
              refine Va (Vk rfl) rfl ?_
              refine Xd rfl rfl c20 ?_
              refine Va (Xl rfl rfl) rfl ?_
              refine Va (Vo (congrArg Ws c20) rfl) rfl ?_
              refine Va (Vm rfl) rfl ?_
              refine Xd rfl rfl c21 ?_
              refine Va (Vk rfl) rfl ?_
              refine Xd rfl rfl c21 ?_
              refine Va (Xl rfl rfl) rfl ?_
              refine Va (Vo (congrArg Ws c21) rfl) rfl ?_
              refine Va (Vm rfl) rfl ?_
              refine Xd rfl rfl c22 ?_
              refine Va (Vk rfl) rfl ?_
              refine Xd rfl rfl c22 ?_
              refine Va (Xl rfl rfl) rfl ?_
              refine Va (Vo (congrArg Ws c22) rfl) rfl ?_
              refine Va (Vm rfl) rfl ?_
              refine Xd rfl rfl c23 ?_
              refine Va (Vc rfl tf_34_1 ts_22 (by decide)) rfl ?_
              refine Xd rfl rfl c23 ?_
              refine Va (Vg rfl (Ve rfl rfl) rfl ta_22 rfl) rfl ?_
              refine Xd rfl rfl c23 ?_
              refine Va (Xk (Xv rfl rfl te_22) (congrArg (fun n : Nat => Wr .i64 (n : Int)) (Wx _))) rfl ?_
              refine Xd rfl rfl c23 ?_
              refine Va (Xl rfl rfl) rfl ?_
              refine Va (Vo (congrArg Ws c23) rfl) rfl ?_
              refine Va (Vm rfl) rfl ?_
              refine Xd rfl rfl c24 ?_
              refine Va (Vc rfl tf_34_1 ts_22 (by decide)) rfl ?_
              refine Xd rfl rfl c24 ?_
              refine Va (Vg rfl (Ve rfl rfl) rfl ta_22 rfl) rfl ?_
              refine Xd rfl rfl c24 ?_
              refine Va (Xk (Yl rfl rfl h26 te_22 ts_3) (v' := .vptr [.int .i64 x25] 0) rfl) rfl ?_
              refine Xd rfl rfl c24 ?_
              refine Va (Xj rfl ta_3 rfl) rfl ?_
              refine Xd rfl rfl c24 ?_
              refine Va (Xl rfl rfl) rfl ?_
              refine Va (Vo (congrArg Ws c24) rfl) rfl ?_
              refine Va (Vm rfl) rfl ?_
              refine Xd rfl rfl c27 ?_
              refine Va (Vc rfl tf_34_2 ts_22 (by decide)) rfl ?_
              refine Xd rfl rfl c27 ?_
              refine Va (Vg rfl (Ve rfl rfl) rfl ta_22 rfl) rfl ?_
              refine Xd rfl rfl c27 ?_
              refine Va (Xk (Yl rfl rfl h29 te_22 ts_3) (v' := .vptr [.int .i64 x28] 0) rfl) rfl ?_
              refine Xd rfl rfl c27 ?_
              refine Va (Xj rfl ta_3 rfl) rfl ?_
              refine Xd rfl rfl c27 ?_
              refine Va (Xl rfl rfl) rfl ?_
              refine Va (Vo (congrArg Ws c27) rfl) rfl ?_
              refine Va (Vm rfl) rfl ?_
              refine Xd rfl rfl c30 ?_
              refine Va (Vc rfl tf_34_1 ts_22 (by decide)) rfl ?_
              refine Xd rfl rfl c30 ?_
              refine Va (Vg rfl (Ve rfl rfl) rfl ta_22 rfl) rfl ?_
              refine Xd rfl rfl c30 ?_
              refine Va (Xk (Xv rfl rfl te_22) (congrArg (fun n : Nat => Wr .i64 (n : Int)) (Wx _))) rfl ?_
              refine Xd rfl rfl c30 ?_
              refine Va (Xl rfl rfl) rfl ?_
              refine Va (Vo (congrArg Ws c30) rfl) rfl ?_
              refine Va (Vm rfl) rfl ?_
              refine Xd rfl rfl c31 ?_
              refine Va (Vc rfl tf_34_1 ts_22 (by decide)) rfl ?_
              refine Xd rfl rfl c31 ?_
              refine Va (Vg rfl (Ve rfl rfl) rfl ta_22 rfl) rfl ?_
              refine Xd rfl rfl c31 ?_
              refine Va (Xk (Yl rfl rfl h33 te_22 ts_3) (v' := .vptr [.int .i64 x32] 0) rfl) rfl ?_
              refine Xd rfl rfl c31 ?_
              refine Va (Xj rfl ta_3 rfl) rfl ?_
              refine Xd rfl rfl c31 ?_
              refine Va (Xl rfl rfl) rfl ?_
              refine Va (Vo (congrArg Ws c31) rfl) rfl ?_
              refine Va (Vm rfl) rfl ?_
              refine Xd rfl rfl c34 ?_
              refine Va (Xc rfl) rfl ?_
              refine Xd rfl rfl c34 ?_
              refine Va (Xk (Xv rfl rfl te_22) (congrArg (fun n : Nat => Wr .i64 (n : Int)) (Wx _))) rfl ?_
              refine Xd rfl rfl c34 ?_
              refine Va (Xl rfl rfl) rfl ?_
              refine Va (Vo (congrArg Ws c34) rfl) rfl ?_
              refine Va (Xz rfl) rfl ?_
              refine Vf ?_
              refine Xb ?_
              obtain rfl := Wt hF
              refine Wg ?_
              exact Vt rfl [] (by decide) ⟨Vr rfl (.bool _), trivial⟩ trivial
             ·have hF := Yp c34 hF
              refine Va (Vk rfl) rfl ?_
              refine Va (Xl rfl rfl) rfl ?_
              refine Va (Vm rfl) rfl ?_
              refine Xd rfl rfl c17 ?_
              refine Va (Vk rfl) rfl ?_
              refine Xd rfl rfl c17 ?_
              refine Va (Xl rfl rfl) rfl ?_
              refine Va (Vo (congrArg Ws c17) rfl) rfl ?_
              refine Va (Vm rfl) rfl ?_
              refine Xd rfl rfl c18 ?_
              refine Va (Vk rfl) rfl ?_
              refine Xd rfl rfl c18 ?_
              refine Va (Xl rfl rfl) rfl ?_
              refine Va (Vo (congrArg Ws c18) rfl) rfl ?_
              refine Va (Vm rfl) rfl ?_
              refine Xd rfl rfl c19 ?_
              refine Va (Vk rfl) rfl ?_
              refine Xd rfl rfl c19 ?_
              refine Va (Xl rfl rfl) rfl ?_
              refine Va (Vo (congrArg Ws c19) rfl) rfl ?_
              refine Va (Vm rfl) rfl ?_
              refine Xd rfl rfl c20 ?_
              refine Va (Vk rfl) rfl ?_
              refine Xd rfl rfl c20 ?_
              refine Va (Xl rfl rfl) rfl ?_
              refine Va (Vo (congrArg Ws c20) rfl) rfl ?_
              refine Va (Vm rfl) rfl ?_
              refine Xd rfl rfl c21 ?_
              refine Va (Vk rfl) rfl ?_
              refine Xd rfl rfl c21 ?_
              refine Va (Xl rfl rfl) rfl ?_
              refine Va (Vo (congrArg Ws c21) rfl) rfl ?_
              refine Va (Vm rfl) rfl ?_
              refine Xd rfl rfl c22 ?_
              refine Va (Vk rfl) rfl ?_
              refine Xd rfl rfl c22 ?_
              refine Va (Xl rfl rfl) rfl ?_
              refine Va (Vo (congrArg Ws c22) rfl) rfl ?_
              refine Va (Vm rfl) rfl ?_
              refine Xd rfl rfl c23 ?_
              refine Va (Vc rfl tf_34_1 ts_22 (by decide)) rfl ?_
              refine Xd rfl rfl c23 ?_
              refine Va (Vg rfl (Ve rfl rfl) rfl ta_22 rfl) rfl ?_
              refine Xd rfl rfl c23 ?_
              refine Va (Xk (Xv rfl rfl te_22) (congrArg (fun n : Nat => Wr .i64 (n : Int)) (Wx _))) rfl ?_
              refine Xd rfl rfl c23 ?_
              refine Va (Xl rfl rfl) rfl ?_
              refine Va (Vo (congrArg Ws c23) rfl) rfl ?_
              refine Va (Vm rfl) rfl ?_
              refine Xd rfl rfl c24 ?_
              refine Va (Vc rfl tf_34_1 ts_22 (by decide)) rfl ?_
              refine Xd rfl rfl c24 ?_
              refine Va (Vg rfl (Ve rfl rfl) rfl ta_22 rfl) rfl ?_
              refine Xd rfl rfl c24 ?_
              refine Va (Xk (Yl rfl rfl h26 te_22 ts_3) (v' := .vptr [.int .i64 x25] 0) rfl) rfl ?_
              refine Xd rfl rfl c24 ?_
              refine Va (Xj rfl ta_3 rfl) rfl ?_
              refine Xd rfl rfl c24 ?_
              refine Va (Xl rfl rfl) rfl ?_
              refine Va (Vo (congrArg Ws c24) rfl) rfl ?_
              refine Va (Vm rfl) rfl ?_
              refine Xd rfl rfl c27 ?_
              refine Va (Vc rfl tf_34_2 ts_22 (by decide)) rfl ?_
              refine Xd rfl rfl c27 ?_
              refine Va (Vg rfl (Ve rfl rfl) rfl ta_22 rfl) rfl ?_
              refine Xd rfl rfl c27 ?_
              refine Va (Xk (Yl rfl rfl h29 te_22 ts_3) (v' := .vptr [.int .i64 x28] 0) rfl) rfl ?_
              refine Xd rfl rfl c27 ?_
              refine Va (Xj rfl ta_3 rfl) rfl ?_
              refine Xd rfl rfl c27 ?_
              refine Va (Xl rfl rfl) rfl ?_
              refine Va (Vo (congrArg Ws c27) rfl) rfl ?_
              refine Va (Vm rfl) rfl ?_
              refine Xd rfl rfl c30 ?_
              refine Va (Vc rfl tf_34_1 ts_22 (by decide)) rfl ?_
              refine Xd rfl rfl c30 ?_
              refine Va (Vg rfl (Ve rfl rfl) rfl ta_22 rfl) rfl ?_
              refine Xd rfl rfl c30 ?_
              refine Va (Xk (Xv rfl rfl te_22) (congrArg (fun n : Nat => Wr .i64 (n : Int)) (Wx _))) rfl ?_
              refine Xd rfl rfl c30 ?_
              refine Va (Xl rfl rfl) rfl ?_
              refine Va (Vo (congrArg Ws c30) rfl) rfl ?_
              refine Va (Vm rfl) rfl ?_
              refine Xd rfl rfl c31 ?_
              refine Va (Vc rfl tf_34_1 ts_22 (by decide)) rfl ?_
              refine Xd rfl rfl c31 ?_
              refine Va (Vg rfl (Ve rfl rfl) rfl ta_22 rfl) rfl ?_
              refine Xd rfl rfl c31 ?_
              refine Va (Xk (Yl rfl rfl h33 te_22 ts_3) (v' := .vptr [.int .i64 x32] 0) rfl) rfl ?_
              refine Xd rfl rfl c31 ?_
              refine Va (Xj rfl ta_3 rfl) rfl ?_
              refine Xd rfl rfl c31 ?_
              refine Va (Xl rfl rfl) rfl ?_
              refine Va (Vo (congrArg Ws c31) rfl) rfl ?_
              refine Va (Vm rfl) rfl ?_
              refine Vb rfl rfl (Zz c34) rfl ?_
              refine Vb rfl rfl (Zz c34) rfl ?_
              refine Vb rfl rfl (Zz c34) rfl ?_
              refine Va (Vn (congrArg Ws c34) rfl) rfl ?_
              refine Va (Xz rfl) rfl ?_
              refine Vf ?_
              refine Xb ?_
              obtain rfl := Wt hF
              refine Wg ?_
              exact Vt rfl [] (by decide) ⟨Vr rfl (.bool _), trivial⟩ trivial
            ·have hF := Yp c31 hF
             refine Va (Vk rfl) rfl ?_
             refine Va (Xl rfl rfl) rfl ?_
             refine Va (Vm rfl) rfl ?_
             refine Xd rfl rfl c17 ?_
             refine Va (Vk rfl) rfl ?_
             refine Xd rfl rfl c17 ?_
             refine Va (Xl rfl rfl) rfl ?_
             refine Va (Vo (congrArg Ws c17) rfl) rfl ?_
             refine Va (Vm rfl) rfl ?_
             refine Xd rfl rfl c18 ?_
             refine Va (Vk rfl) rfl ?_
             refine Xd rfl rfl c18 ?_
             refine Va (Xl rfl rfl) rfl ?_
             refine Va (Vo (congrArg Ws c18) rfl) rfl ?_
             refine Va (Vm rfl) rfl ?_
             refine Xd rfl rfl c19 ?_
             refine Va (Vk rfl) rfl ?_
             refine Xd rfl rfl c19 ?_
             refine Va (Xl rfl rfl) rfl ?_
             refine Va (Vo (congrArg Ws c19) rfl) rfl ?_
             refine Va (Vm rfl) rfl ?_
             refine Xd rfl rfl c20 ?_
             refine Va (Vk rfl) rfl ?_
             refine Xd rfl rfl c20 ?_
             refine Va (Xl rfl rfl) rfl ?_
             refine Va (Vo (congrArg Ws c20) rfl) rfl ?_
             refine Va (Vm rfl) rfl ?_
             refine Xd rfl rfl c21 ?_
             refine Va (Vk rfl) rfl ?_
             refine Xd rfl rfl c21 ?_
             refine Va (Xl rfl rfl) rfl ?_
             refine Va (Vo (congrArg Ws c21) rfl) rfl ?_
             refine Va (Vm rfl) rfl ?_
             refine Xd rfl rfl c22 ?_
             refine Va (Vk rfl) rfl ?_
             refine Xd rfl rfl c22 ?_
             refine Va (Xl rfl rfl) rfl ?_
             refine Va (Vo (congrArg Ws c22) rfl) rfl ?_
             refine Va (Vm rfl) rfl ?_
             refine Xd rfl rfl c23 ?_
             refine Va (Vc rfl tf_34_1 ts_22 (by decide)) rfl ?_
             refine Xd rfl rfl c23 ?_
             refine Va (Vg rfl (Ve rfl rfl) rfl ta_22 rfl) rfl ?_
             refine Xd rfl rfl c23 ?_
             refine Va (Xk (Xv rfl rfl te_22) (congrArg (fun n : Nat => Wr .i64 (n : Int)) (Wx _))) rfl ?_
             refine Xd rfl rfl c23 ?_
             refine Va (Xl rfl rfl) rfl ?_
             refine Va (Vo (congrArg Ws c23) rfl) rfl ?_
             refine Va (Vm rfl) rfl ?_
             refine Xd rfl rfl c24 ?_
             refine Va (Vc rfl tf_34_1 ts_22 (by decide)) rfl ?_
             refine Xd rfl rfl c24 ?_
             refine Va (Vg rfl (Ve rfl rfl) rfl ta_22 rfl) rfl ?_
             refine Xd rfl rfl c24 ?_
             refine Va (Xk (Yl rfl rfl h26 te_22 ts_3) (v' := .vptr [.int .i64 x25] 0) rfl) rfl ?_
             refine Xd rfl rfl c24 ?_
             refine Va (Xj rfl ta_3 rfl) rfl ?_
             refine Xd rfl rfl c24 ?_
             refine Va (Xl rfl rfl) rfl ?_
             refine Va (Vo (congrArg Ws c24) rfl) rfl ?_
             refine Va (Vm rfl) rfl ?_
             refine Xd rfl rfl c27 ?_
             refine Va (Vc rfl tf_34_2 ts_22 (by decide)) rfl ?_
             refine Xd rfl rfl c27 ?_
             refine Va (Vg rfl (Ve rfl rfl) rfl ta_22 rfl) rfl ?_
             refine Xd rfl rfl c27 ?_
             refine Va (Xk (Yl rfl rfl h29 te_22 ts_3) (v' := .vptr [.int .i64 x28] 0) rfl) rfl ?_
             refine Xd rfl rfl c27 ?_
             refine Va (Xj rfl ta_3 rfl) rfl ?_
             refine Xd rfl rfl c27 ?_
             refine Va (Xl rfl rfl) rfl ?_
             refine Va (Vo (congrArg Ws c27) rfl) rfl ?_
             refine Va (Vm rfl) rfl ?_
             refine Xd rfl rfl c30 ?_
             refine Va (Vc rfl tf_34_1 ts_22 (by decide)) rfl ?_
             refine Xd rfl rfl c30 ?_
             refine Va (Vg rfl (Ve rfl rfl) rfl ta_22 rfl) rfl ?_
             refine Xd rfl rfl c30 ?_
             refine Va (Xk (Xv rfl rfl te_22) (congrArg (fun n : Nat => Wr .i64 (n : Int)) (Wx _))) rfl ?_
             refine Xd rfl rfl c30 ?_
             refine Va (Xl rfl rfl) rfl ?_
             refine Va (Vo (congrArg Ws c30) rfl) rfl ?_
             refine Va (Vm rfl) rfl ?_
             refine Vb rfl rfl (Zz c31) rfl ?_
             refine Vb rfl rfl (Zz c31) rfl ?_
             refine Vb rfl rfl (Zz c31) rfl ?_
             refine Vb rfl rfl (Zz c31) rfl ?_
             refine Vb rfl rfl (Zz c31) rfl ?_
             refine Va (Vn (congrArg Ws c31) rfl) rfl ?_
             refine Va (Vm rfl) rfl ?_
             refine Vb rfl rfl (by decide) rfl ?_
             refine Vb rfl rfl (by decide) rfl ?_
             refine Vb rfl rfl (by decide) rfl ?_
             refine Va (Vn rfl rfl) rfl ?_
             refine Va (Xz rfl) rfl ?_
             refine Vf ?_
             refine Xb ?_
             obtain rfl := Wt hF
             refine Wg ?_
             exact Vt rfl [] (by decide) ⟨Vr rfl (.bool _), trivial⟩ trivial
           ·have hF := Yp c30 hF
            refine Va (Vk rfl) rfl ?_
            refine Va (Xl rfl rfl) rfl ?_
            refine Va (Vm rfl) rfl ?_
            refine Xd rfl rfl c17 ?_
            refine Va (Vk rfl) rfl ?_
            refine Xd rfl rfl c17 ?_
            refine Va (Xl rfl rfl) rfl ?_
            refine Va (Vo (congrArg Ws c17) rfl) rfl ?_
            refine Va (Vm rfl) rfl ?_
            refine Xd rfl rfl c18 ?_
            refine Va (Vk rfl) rfl ?_
            refine Xd rfl rfl c18 ?_
            refine Va (Xl rfl rfl) rfl ?_
            refine Va (Vo (congrArg Ws c18) rfl) rfl ?_
            refine Va (Vm rfl) rfl ?_
            refine Xd rfl rfl c19 ?_
            refine Va (Vk rfl) rfl ?_
            refine Xd rfl rfl c19 ?_
            refine Va (Xl rfl rfl) rfl ?_
            refine Va (Vo (congrArg Ws c19) rfl) rfl ?_
            refine Va (Vm rfl) rfl ?_
            refine Xd rfl rfl c20 ?_
            refine Va (Vk rfl) rfl ?_
            refine Xd rfl rfl c20 ?_
            refine Va (Xl rfl rfl) rfl ?_
            refine Va (Vo (congrArg Ws c20) rfl) rfl ?_
            refine Va (Vm rfl) rfl ?_
            refine Xd rfl rfl c21 ?_
            refine Va (Vk rfl) rfl ?_
            refine Xd rfl rfl c21 ?_
            refine Va (Xl rfl rfl) rfl ?_
            refine Va (Vo (congrArg Ws c21) rfl) rfl ?_
            refine Va (Vm rfl) rfl ?_
            refine Xd rfl rfl c22 ?_
            refine Va (Vk rfl) rfl ?_
            refine Xd rfl rfl c22 ?_
            refine Va (Xl rfl rfl) rfl ?_
            refine Va (Vo (congrArg Ws c22) rfl) rfl ?_
            refine Va (Vm rfl) rfl ?_
            refine Xd rfl rfl c23 ?_
            refine Va (Vc rfl tf_34_1 ts_22 (by decide)) rfl ?_
            refine Xd rfl rfl c23 ?_
            refine Va (Vg rfl (Ve rfl rfl) rfl ta_22 rfl) rfl ?_
            refine Xd rfl rfl c23 ?_
            refine Va (Xk (Xv rfl rfl te_22) (congrArg (fun n : Nat => Wr .i64 (n : Int)) (Wx _))) rfl ?_
            refine Xd rfl rfl c23 ?_
            refine Va (Xl rfl rfl) rfl ?_
            refine Va (Vo (congrArg Ws c23) rfl) rfl ?_
            refine Va (Vm rfl) rfl ?_
            refine Xd rfl rfl c24 ?_
            refine Va (Vc rfl tf_34_1 ts_22 (by decide)) rfl ?_
            refine Xd rfl rfl c24 ?_
            refine Va (Vg rfl (Ve rfl rfl) rfl ta_22 rfl) rfl ?_
            refine Xd rfl rfl c24 ?_
            refine Va (Xk (Yl rfl rfl h26 te_22 ts_3) (v' := .vptr [.int .i64 x25] 0) rfl) rfl ?_
            refine Xd rfl rfl c24 ?_
            refine Va (Xj rfl ta_3 rfl) rfl ?_
            refine Xd rfl rfl c24 ?_
            refine Va (Xl rfl rfl) rfl ?_
            refine Va (Vo (congrArg Ws c24) rfl) rfl ?_
            refine Va (Vm rfl) rfl ?_
            refine Xd rfl rfl c27 ?_
            refine Va (Vc rfl tf_34_2 ts_22 (by decide)) rfl ?_
            refine Xd rfl rfl c27 ?_
            refine Va (Vg rfl (Ve rfl rfl) rfl ta_22 rfl) rfl ?_
            refine Xd rfl rfl c27 ?_
            refine Va (Xk (Yl rfl rfl h29 te_22 ts_3) (v' := .vptr [.int .i64 x28] 0) rfl) rfl ?_
            refine Xd rfl rfl c27 ?_
            refine Va (Xj rfl ta_3 rfl) rfl ?_
            refine Xd rfl rfl c27 ?_
            refine Va (Xl rfl rfl) rfl ?_
            refine Va (Vo (congrArg Ws c27) rfl) rfl ?_
            refine Va (Vm rfl) rfl ?_
            refine Vb rfl rfl (Zz c30) rfl ?_
            refine Vb rfl rfl (Zz c30) rfl ?_
            refine Vb rfl rfl (Zz c30) rfl ?_
            refine Vb rfl rfl (Zz c30) rfl ?_
            refine Va (Vn (congrArg Ws c30) rfl) rfl ?_
            refine Va (Vm rfl) rfl ?_
            refine Vb rfl rfl (by decide) rfl ?_
            refine Vb rfl rfl (by decide) rfl ?_
            refine Vb rfl rfl (by decide) rfl ?_
            refine Vb rfl rfl (by decide) rfl ?_
            refine Vb rfl rfl (by decide) rfl ?_
            refine Va (Vn rfl rfl) rfl ?_
            refine Va (Vm rfl) rfl ?_
            refine Vb rfl rfl (by decide) rfl ?_
            refine Vb rfl rfl (by decide) rfl ?_
            refine Vb rfl rfl (by decide) rfl ?_
            refine Va (Vn rfl rfl) rfl ?_
            refine Va (Xz rfl) rfl ?_
            refine Vf ?_
            refine Xb ?_
            obtain rfl := Wt hF
            refine Wg ?_
            exact Vt rfl [] (by decide) ⟨Vr rfl (.bool _), trivial⟩ trivial
          ·have hF := Yp c27 hF
           refine Va (Vk rfl) rfl ?_
           refine Va (Xl rfl rfl) rfl ?_
           refine Va (Vm rfl) rfl ?_
           refine Xd rfl rfl c17 ?_
           refine Va (Vk rfl) rfl ?_
           refine Xd rfl rfl c17 ?_
           refine Va (Xl rfl rfl) rfl ?_
           refine Va (Vo (congrArg Ws c17) rfl) rfl ?_
           refine Va (Vm rfl) rfl ?_
           refine Xd rfl rfl c18 ?_
           refine Va (Vk rfl) rfl ?_
           refine Xd rfl rfl c18 ?_
           refine Va (Xl rfl rfl) rfl ?_
           refine Va (Vo (congrArg Ws c18) rfl) rfl ?_
           refine Va (Vm rfl) rfl ?_
           refine Xd rfl rfl c19 ?_
           refine Va (Vk rfl) rfl ?_
           refine Xd rfl rfl c19 ?_
           refine Va (Xl rfl rfl) rfl ?_
           refine Va (Vo (congrArg Ws c19) rfl) rfl ?_
           refine Va (Vm rfl) rfl ?_
           refine Xd rfl rfl c20 ?_
           refine Va (Vk rfl) rfl ?_
           refine Xd rfl rfl c20 ?_
           refine Va (Xl rfl rfl) rfl ?_
           refine Va (Vo (congrArg Ws c20) rfl) rfl ?_
           refine Va (Vm rfl) rfl ?_
           refine Xd rfl rfl c21 ?_
           refine Va (Vk rfl) rfl ?_
           refine Xd rfl rfl c21 ?_
           refine Va (Xl rfl rfl) rfl ?_
           refine Va (Vo (congrArg Ws c21) rfl) rfl ?_
           refine Va (Vm rfl) rfl ?_
           refine Xd rfl rfl c22 ?_
           refine Va (Vk rfl) rfl ?_
           refine Xd rfl rfl c22 ?_
           refine Va (Xl rfl rfl) rfl ?_
           refine Va (Vo (congrArg Ws c22) rfl) rfl ?_
           refine Va (Vm rfl) rfl ?_
           refine Xd rfl rfl c23 ?_
           refine Va (Vc rfl tf_34_1 ts_22 (by decide)) rfl ?_
           refine Xd rfl rfl c23 ?_
           refine Va (Vg rfl (Ve rfl rfl) rfl ta_22 rfl) rfl ?_
           refine Xd rfl rfl c23 ?_
           refine Va (Xk (Xv rfl rfl te_22) (congrArg (fun n : Nat => Wr .i64 (n : Int)) (Wx _))) rfl ?_
           refine Xd rfl rfl c23 ?_
           refine Va (Xl rfl rfl) rfl ?_
           refine Va (Vo (congrArg Ws c23) rfl) rfl ?_
           refine Va (Vm rfl) rfl ?_
           refine Xd rfl rfl c24 ?_
           refine Va (Vc rfl tf_34_1 ts_22 (by decide)) rfl ?_
           refine Xd rfl rfl c24 ?_
           refine Va (Vg rfl (Ve rfl rfl) rfl ta_22 rfl) rfl ?_
           refine Xd rfl rfl c24 ?_
           refine Va (Xk (Yl rfl rfl h26 te_22 ts_3) (v' := .vptr [.int .i64 x25] 0) rfl) rfl ?_
           refine Xd rfl rfl c24 ?_
           refine Va (Xj rfl ta_3 rfl) rfl ?_
           refine Xd rfl rfl c24 ?_
           refine Va (Xl rfl rfl) rfl ?_
           refine Va (Vo (congrArg Ws c24) rfl) rfl ?_
           refine Va (Vm rfl) rfl ?_
           refine Vb rfl rfl (Zz c27) rfl ?_
           refine Vb rfl rfl (Zz c27) rfl ?_
           refine Vb rfl rfl (Zz c27) rfl ?_
           refine Vb rfl rfl (Zz c27) rfl ?_
           refine Vb rfl rfl (Zz c27) rfl ?_
           refine Va (Vn (congrArg Ws c27) rfl) rfl ?_
           refine Va (Vm rfl) rfl ?_
           refine Vb rfl rfl (by decide) rfl ?_
           refine Vb rfl rfl (by decide) rfl ?_
           refine Vb rfl rfl (by decide) rfl ?_
           refine Vb rfl rfl (by decide) rfl ?_
           refine Va (Vn rfl rfl) rfl ?_
           refine Va (Vm rfl) rfl ?_
           refine Vb rfl rfl (by decide) rfl ?_
           refine Vb rfl rfl (by decide) rfl ?_
           refine Vb rfl rfl (by decide) rfl ?_
           refine Vb rfl rfl (by decide) rfl ?_
           refine Vb rfl rfl (by decide) rfl ?_
           refine Va (Vn rfl rfl) rfl ?_
           refine Va (Vm rfl) rfl ?_
           refine Vb rfl rfl (by decide) rfl ?_
           refine Vb rfl rfl (by decide) rfl ?_
           refine Vb rfl rfl (by decide) rfl ?_
           refine Va (Vn rfl rfl) rfl ?_
           refine Va (Xz rfl) rfl ?_
           refine Vf ?_
           refine Xb ?_
           obtain rfl := Wt hF
           refine Wg ?_
           exact Vt rfl [] (by decide) ⟨Vr rfl (.bool _), trivial⟩ trivial
         ·have hF := Yp c24 hF
          refine Va (Vk rfl) rfl ?_
          refine Va (Xl rfl rfl) rfl ?_
          refine Va (Vm rfl) rfl ?_
          refine Xd rfl rfl c17 ?_
          refine Va (Vk rfl) rfl ?_
          refine Xd rfl rfl c17 ?_
          refine Va (Xl rfl rfl) rfl ?_
          refine Va (Vo (congrArg Ws c17) rfl) rfl ?_
          refine Va (Vm rfl) rfl ?_
          refine Xd rfl rfl c18 ?_
          refine Va (Vk rfl) rfl ?_
          refine Xd rfl rfl c18 ?_
          refine Va (Xl rfl rfl) rfl ?_
          refine Va (Vo (congrArg Ws c18) rfl) rfl ?_
          refine Va (Vm rfl) rfl ?_
          refine Xd rfl rfl c19 ?_
          refine Va (Vk rfl) rfl ?_
          refine Xd rfl rfl c19 ?_
          refine Va (Xl rfl rfl) rfl ?_
          refine Va (Vo (congrArg Ws c19) rfl) rfl ?_
          refine Va (Vm rfl) rfl ?_
          refine Xd rfl rfl c20 ?_
          refine Va (Vk rfl) rfl ?_
          refine Xd rfl rfl c20 ?_
          refine Va (Xl rfl rfl) rfl ?_
          refine Va (Vo (congrArg Ws c20) rfl) rfl ?_
          refine Va (Vm rfl) rfl ?_
          refine Xd rfl rfl c21 ?_
          refine Va (Vk rfl) rfl ?_
          refine Xd rfl rfl c21 ?_
          refine Va (Xl rfl rfl) rfl ?_
          refine Va (Vo (congrArg Ws c21) rfl) rfl ?_
          refine Va (Vm rfl) rfl ?_
          refine Xd rfl rfl c22 ?_
          refine Va (Vk rfl) rfl ?_
          refine Xd rfl rfl c22 ?_
          refine Va (Xl rfl rfl) rfl ?_
          refine Va (Vo (congrArg Ws c22) rfl) rfl ?_
          refine Va (Vm rfl) rfl ?_
          refine Xd rfl rfl c23 ?_
          refine Va (Vc rfl tf_34_1 ts_22 (by decide)) rfl ?_
          refine Xd rfl rfl c23 ?_
          refine Va (Vg rfl (Ve rfl rfl) rfl ta_22 rfl) rfl ?_
          refine Xd rfl rfl c23 ?_
          refine Va (Xk (Xv rfl rfl te_22) (congrArg (fun n : Nat => Wr .i64 (n : Int)) (Wx _))) rfl ?_
          refine Xd rfl rfl c23 ?_
          refine Va (Xl rfl rfl) rfl ?_
          refine Va (Vo (congrArg Ws c23) rfl) rfl ?_
          refine Va (Vm rfl) rfl ?_
          refine Vb rfl rfl (Zz c24) rfl ?_
          refine Vb rfl rfl (Zz c24) rfl ?_
          refine Vb rfl rfl (Zz c24) rfl ?_
          refine Vb rfl rfl (Zz c24) rfl ?_
          refine Vb rfl rfl (Zz c24) rfl ?_
          refine Va (Vn (congrArg Ws c24) rfl) rfl ?_
          refine Va (Vm rfl) rfl ?_
          refine Vb rfl rfl (by decide) rfl ?_
          refine Vb rfl rfl (by decide) rfl ?_
          refine Vb rfl rfl (by decide) rfl ?_
          refine Vb rfl rfl (by decide) rfl ?_
          refine Vb rfl rfl (by decide) rfl ?_
          refine Va (Vn rfl rfl) rfl ?_
          refine Va (Vm rfl) rfl ?_
          refine Vb rfl rfl (by decide) rfl ?_
          refine Vb rfl rfl (by decide) rfl ?_
          refine Vb rfl rfl (by decide) rfl ?_
          refine Vb rfl rfl (by decide) rfl ?_
          refine Va (Vn rfl rfl) rfl ?_
          refine Va (Vm rfl) rfl ?_
          refine Vb rfl rfl (by decide) rfl ?_
          refine Vb rfl rfl (by decide) rfl ?_
          refine Vb rfl rfl (by decide) rfl ?_
          refine Vb rfl rfl (by decide) rfl ?_
          refine Vb rfl rfl (by decide) rfl ?_
          refine Va (Vn rfl rfl) rfl ?_
          refine Va (Vm rfl) rfl ?_
          refine Vb rfl rfl (by decide) rfl ?_
          refine Vb rfl rfl (by decide) rfl ?_
          refine Vb rfl rfl (by decide) rfl ?_
          refine Va (Vn rfl rfl) rfl ?_
          refine Va (Xz rfl) rfl ?_
          refine Vf ?_
          refine Xb ?_
          obtain rfl := Wt hF
          refine Wg ?_
          exact Vt rfl [] (by decide) ⟨Vr rfl (.bool _), trivial⟩ trivial
        ·have hF := Yp c23 hF
         refine Va (Vk rfl) rfl ?_
         refine Va (Xl rfl rfl) rfl ?_
         refine Va (Vm rfl) rfl ?_
         refine Xd rfl rfl c17 ?_
         refine Va (Vk rfl) rfl ?_
         refine Xd rfl rfl c17 ?_
         refine Va (Xl rfl rfl) rfl ?_
         refine Va (Vo (congrArg Ws c17) rfl) rfl ?_
         refine Va (Vm rfl) rfl ?_
         refine Xd rfl rfl c18 ?_
         refine Va (Vk rfl) rfl ?_
         refine Xd rfl rfl c18 ?_
         refine Va (Xl rfl rfl) rfl ?_
         refine Va (Vo (congrArg Ws c18) rfl) rfl ?_
         refine Va (Vm rfl) rfl ?_
         refine Xd rfl rfl c19 ?_
         refine Va (Vk rfl) rfl ?_
         refine Xd rfl rfl c19 ?_
         refine Va (Xl rfl rfl) rfl ?_
         refine Va (Vo (congrArg Ws c19) rfl) rfl ?_
         refine Va (Vm rfl) rfl ?_
         refine Xd rfl rfl c20 ?_
         refine Va (Vk rfl) rfl ?_
         refine Xd rfl rfl c20 ?_
         refine Va (Xl rfl rfl) rfl ?_
         refine Va (Vo (congrArg Ws c20) rfl) rfl ?_
         refine Va (Vm rfl) rfl ?_
         refine Xd rfl rfl c21 ?_
         refine Va (Vk rfl) rfl ?_
         refine Xd rfl rfl c21 ?_
         refine Va (Xl rfl rfl) rfl ?_
         refine Va (Vo (congrArg Ws c21) rfl) rfl ?_
         refine Va (Vm rfl) rfl ?_
         refine Xd rfl rfl c22 ?_
         refine Va (Vk rfl) rfl ?_
         refine Xd rfl rfl c22 ?_
         refine Va (Xl rfl rfl) rfl ?_
         refine Va (Vo (congrArg Ws c22) rfl) rfl ?_
         refine Va (Vm rfl) rfl ?_
         refine Vb rfl rfl (Zz c23) rfl ?_
         refine Vb rfl rfl (Zz c23) rfl ?_
         refine Vb rfl rfl (Zz c23) rfl ?_
         refine Vb rfl rfl (Zz c23) rfl ?_
         refine Va (Vn (congrArg Ws c23) rfl) rfl ?_
         refine Va (Vm rfl) rfl ?_
         refine Vb rfl rfl (by decide) rfl ?_
         refine Vb rfl rfl (by decide) rfl ?_
         refine Vb rfl rfl (by decide) rfl ?_
         refine Vb rfl rfl (by decide) rfl ?_
         refine Vb rfl rfl (by decide) rfl ?_
         refine Va (Vn rfl rfl) rfl ?_
         refine Va (Vm rfl) rfl ?_
         refine Vb rfl rfl (by decide) rfl ?_
         refine Vb rfl rfl (by decide) rfl ?_
         refine Vb rfl rfl (by decide) rfl ?_
         refine Vb rfl rfl (by decide) rfl ?_
         refine Vb rfl rfl (by decide) rfl ?_
         refine Va (Vn rfl rfl) rfl ?_
         refine Va (Vm rfl) rfl ?_
         refine Vb rfl rfl (by decide) rfl ?_
         refine Vb rfl rfl (by decide) rfl ?_
         refine Vb rfl rfl (by decide) rfl ?_
         refine Vb rfl rfl (by decide) rfl ?_
         refine Va (Vn rfl rfl) rfl ?_
         refine Va (Vm rfl) rfl ?_
         refine Vb rfl rfl (by decide) rfl ?_
         refine Vb rfl rfl (by decide) rfl ?_
         refine Vb rfl rfl (by decide) rfl ?_
         refine Vb rfl rfl (by decide) rfl ?_
         refine Vb rfl rfl (by decide) rfl ?_
         refine Va (Vn rfl rfl) rfl ?_
         refine Va (Vm rfl) rfl ?_
         refine Vb rfl rfl (by decide) rfl ?_
         refine Vb rfl rfl (by decide) rfl ?_
         refine Vb rfl rfl (by decide) rfl ?_
         refine Va (Vn rfl rfl) rfl ?_
         refine Va (Xz rfl) rfl ?_
         refine Vf ?_
         refine Xb ?_
         obtain rfl := Wt hF
         refine Wg ?_
         exact Vt rfl [] (by decide) ⟨Vr rfl (.bool _), trivial⟩ trivial
       ·have hF := Yp c22 hF
        refine Va (Vk rfl) rfl ?_
        refine Va (Xl rfl rfl) rfl ?_
        refine Va (Vm rfl) rfl ?_
        refine Xd rfl rfl c17 ?_
        refine Va (Vk rfl) rfl ?_
        refine Xd rfl rfl c17 ?_
        refine Va (Xl rfl rfl) rfl ?_
        refine Va (Vo (congrArg Ws c17) rfl) rfl ?_
        refine Va (Vm rfl) rfl ?_
        refine Xd rfl rfl c18 ?_
        refine Va (Vk rfl) rfl ?_
        refine Xd rfl rfl c18 ?_
        refine Va (Xl rfl rfl) rfl ?_
        refine Va (Vo (congrArg Ws c18) rfl) rfl ?_
        refine Va (Vm rfl) rfl ?_
        refine Xd rfl rfl c19 ?_
        refine Va (Vk rfl) rfl ?_
        refine Xd rfl rfl c19 ?_
        refine Va (Xl rfl rfl) rfl ?_
        refine Va (Vo (congrArg Ws c19) rfl) rfl ?_
        refine Va (Vm rfl) rfl ?_
        refine Xd rfl rfl c20 ?_
        refine Va (Vk rfl) rfl ?_
        refine Xd rfl rfl c20 ?_
        refine Va (Xl rfl rfl) rfl ?_
        refine Va (Vo (congrArg Ws c20) rfl) rfl ?_
        refine Va (Vm rfl) rfl ?_
        refine Xd rfl rfl c21 ?_
        refine Va (Vk rfl) rfl ?_
        refine Xd rfl rfl c21 ?_
        refine Va (Xl rfl rfl) rfl ?_
        refine Va (Vo (congrArg Ws c21) rfl) rfl ?_
        refine Va (Vm rfl) rfl ?_
        refine Vb rfl rfl (Zz c22) rfl ?_
        refine Vb rfl rfl (Zz c22) rfl ?_
        refine Va (Vn (congrArg Ws c22) rfl) rfl ?_
        refine Va (Vm rfl) rfl ?_
        refine Vb rfl rfl (by decide) rfl ?_
        refine Vb rfl rfl (by decide) rfl ?_
        refine Vb rfl rfl (by decide) rfl ?_
        refine Vb rfl rfl (by decide) rfl ?_
        refine Va (Vn rfl rfl) rfl ?_
        refine Va (Vm rfl) rfl ?_
        refine Vb rfl rfl (by decide) rfl ?_
        refine Vb rfl rfl (by decide) rfl ?_
        refine Vb rfl rfl (by decide) rfl ?_
        refine Vb rfl rfl (by decide) rfl ?_
        refine Vb rfl rfl (by decide) rfl ?_
        refine Va (Vn rfl rfl) rfl ?_
        refine Va (Vm rfl) rfl ?_
        refine Vb rfl rfl (by decide) rfl ?_
        refine Vb rfl rfl (by decide) rfl ?_
        refine Vb rfl rfl (by decide) rfl ?_
        refine Vb rfl rfl (by decide) rfl ?_
        refine Vb rfl rfl (by decide) rfl ?_
        refine Va (Vn rfl rfl) rfl ?_
        refine Va (Vm rfl) rfl ?_
        refine Vb rfl rfl (by decide) rfl ?_
        refine Vb rfl rfl (by decide) rfl ?_
        refine Vb rfl rfl (by decide) rfl ?_
        refine Vb rfl rfl (by decide) rfl ?_
        refine Va (Vn rfl rfl) rfl ?_
        refine Va (Vm rfl) rfl ?_
        refine Vb rfl rfl (by decide) rfl ?_
        refine Vb rfl rfl (by decide) rfl ?_
        refine Vb rfl rfl (by decide) rfl ?_
        refine Vb rfl rfl (by decide) rfl ?_
        refine Vb rfl rfl (by decide) rfl ?_
        refine Va (Vn rfl rfl) rfl ?_
        refine Va (Vm rfl) rfl ?_
        refine Vb rfl rfl (by decide) rfl ?_
        refine Vb rfl rfl (by decide) rfl ?_
        refine Vb rfl rfl (by decide) rfl ?_
        refine Va (Vn rfl rfl) rfl ?_
        refine Va (Xz rfl) rfl ?_
        refine Vf ?_
        refine Xb ?_
        obtain rfl := Wt hF
        refine Wg ?_
        exact Vt rfl [] (by decide) ⟨Vr rfl (.bool _), trivial⟩ trivial
      ·have hF := Yp c21 hF
       refine Va (Vk rfl) rfl ?_
       refine Va (Xl rfl rfl) rfl ?_
       refine Va (Vm rfl) rfl ?_
       refine Xd rfl rfl c17 ?_
       refine Va (Vk rfl) rfl ?_
       refine Xd rfl rfl c17 ?_
       refine Va (Xl rfl rfl) rfl ?_
       refine Va (Vo (congrArg Ws c17) rfl) rfl ?_
       refine Va (Vm rfl) rfl ?_
       refine Xd rfl rfl c18 ?_
       refine Va (Vk rfl) rfl ?_
       refine Xd rfl rfl c18 ?_
       refine Va (Xl rfl rfl) rfl ?_
       refine Va (Vo (congrArg Ws c18) rfl) rfl ?_
       refine Va (Vm rfl) rfl ?_
       refine Xd rfl rfl c19 ?_
       refine Va (Vk rfl) rfl ?_
       refine Xd rfl rfl c19 ?_
       refine Va (Xl rfl rfl) rfl ?_
       refine Va (Vo (congrArg Ws c19) rfl) rfl ?_
       refine Va (Vm rfl) rfl ?_
       refine Xd rfl rfl c20 ?_
       refine Va (Vk rfl) rfl ?_
       refine Xd rfl rfl c20 ?_
       refine Va (Xl rfl rfl) rfl ?_
       refine Va (Vo (congrArg Ws c20) rfl) rfl ?_
       refine Va (Vm rfl) rfl ?_
       refine Vb rfl rfl (Zz c21) rfl ?_
       refine Vb rfl rfl (Zz c21) rfl ?_
       refine Va (Vn (congrArg Ws c21) rfl) rfl ?_
       refine Va (Vm rfl) rfl ?_
       refine Vb rfl rfl (by decide) rfl ?_
       refine Vb rfl rfl (by decide) rfl ?_
       refine Va (Vn rfl rfl) rfl ?_
       refine Va (Vm rfl) rfl ?_
       refine Vb rfl rfl (by decide) rfl ?_
       refine Vb rfl rfl (by decide) rfl ?_
       refine Vb rfl rfl (by decide) rfl ?_
       refine Vb rfl rfl (by decide) rfl ?_
       refine Va (Vn rfl rfl) rfl ?_
       refine Va (Vm rfl) rfl ?_
       refine Vb rfl rfl (by decide) rfl ?_
       refine Vb rfl rfl (by decide) rfl ?_
       refine Vb rfl rfl (by decide) rfl ?_
       refine Vb rfl rfl (by decide) rfl ?_
       refine Vb rfl rfl (by decide) rfl ?_
       refine Va (Vn rfl rfl) rfl ?_
       refine Va (Vm rfl) rfl ?_
       refine Vb rfl rfl (by decide) rfl ?_
       refine Vb rfl rfl (by decide) rfl ?_
       refine Vb rfl rfl (by decide) rfl ?_
       refine Vb rfl rfl (by decide) rfl ?_
       refine Vb rfl rfl (by decide) rfl ?_
       refine Va (Vn rfl rfl) rfl ?_
       refine Va (Vm rfl) rfl ?_
       refine Vb rfl rfl (by decide) rfl ?_
       refine Vb rfl rfl (by decide) rfl ?_
       refine Vb rfl rfl (by decide) rfl ?_
       refine Vb rfl rfl (by decide) rfl ?_
       refine Va (Vn rfl rfl) rfl ?_
       refine Va (Vm rfl) rfl ?_
       refine Vb rfl rfl (by decide) rfl ?_
       refine Vb rfl rfl (by decide) rfl ?_
       refine Vb rfl rfl (by decide) rfl ?_
       refine Vb rfl rfl (by decide) rfl ?_
       refine Vb rfl rfl (by decide) rfl ?_
       refine Va (Vn rfl rfl) rfl ?_
       refine Va (Vm rfl) rfl ?_
       refine Vb rfl rfl (by decide) rfl ?_
       refine Vb rfl rfl (by decide) rfl ?_
       refine Vb rfl rfl (by decide) rfl ?_
       refine Va (Vn rfl rfl) rfl ?_
       refine Va (Xz rfl) rfl ?_
       refine Vf ?_
       refine Xb ?_
       obtain rfl := Wt hF
       refine Wg ?_
       exact Vt rfl [] (by decide) ⟨Vr rfl (.bool _), trivial⟩ trivial
     ·have hF := Yp c20 hF
      refine Va (Vk rfl) rfl ?_
      refine Va (Xl rfl rfl) rfl ?_
      refine Va (Vm rfl) rfl ?_
      refine Xd rfl rfl c17 ?_
      refine Va (Vk rfl) rfl ?_
      refine Xd rfl rfl c17 ?_
      refine Va (Xl rfl rfl) rfl ?_
      refine Va (Vo (congrArg Ws c17) rfl) rfl ?_
      refine Va (Vm rfl) rfl ?_
      refine Xd rfl rfl c18 ?_
      refine Va (Vk rfl) rfl ?_
      refine Xd rfl rfl c18 ?_
      refine Va (Xl rfl rfl) rfl ?_
      refine Va (Vo (congrArg Ws c18) rfl) rfl ?_
      refine Va (Vm rfl) rfl ?_
      refine Xd rfl rfl c19 ?_
      refine Va (Vk rfl) rfl ?_
      refine Xd rfl rfl c19 ?_
      refine Va (Xl rfl rfl) rfl ?_
      refine Va (Vo (congrArg Ws c19) rfl) rfl ?_
      refine Va (Vm rfl) rfl ?_
      refine Vb rfl rfl (Zz c20) rfl ?_
      refine Vb rfl rfl (Zz c20) rfl ?_
      refine Va (Vn (congrArg Ws c20) rfl) rfl ?_
      refine Va (Vm rfl) rfl ?_
      refine Vb rfl rfl (by decide) rfl ?_
      refine Vb rfl rfl (by decide) rfl ?_
      refine Va (Vn rfl rfl) rfl ?_
      refine Va (Vm rfl) rfl ?_
      refine Vb rfl rfl (by decide) rfl ?_
      refine Vb rfl rfl (by decide) rfl ?_
      refine Va (Vn rfl rfl) rfl ?_
      refine Va (Vm rfl) rfl ?_
      refine Vb rfl rfl (by decide) rfl ?_
      refine Vb rfl rfl (by decide) rfl ?_
      refine Vb rfl rfl (by decide) rfl ?_
      refine Vb rfl rfl (by decide) rfl ?_
      refine Va (Vn rfl rfl) rfl ?_
      refine Va (Vm rfl) rfl ?_
      refine Vb rfl rfl (by decide) rfl ?_
      refine Vb rfl rfl (by decide) rfl ?_
      refine Vb rfl rfl (by decide) rfl ?_
      refine Vb rfl rfl (by decide) rfl ?_
      refine Vb rfl rfl (by decide) rfl ?_
      refine Va (Vn rfl rfl) rfl ?_
      refine Va (Vm rfl) rfl ?_
      refine Vb rfl rfl (by decide) rfl ?_
      refine Vb rfl rfl (by decide) rfl ?_
      refine Vb rfl rfl (by decide) rfl ?_
      refine Vb rfl rfl (by decide) rfl ?_
      refine Vb rfl rfl (by decide) rfl ?_
      refine Va (Vn rfl rfl) rfl ?_
      refine Va (Vm rfl) rfl ?_
      refine Vb rfl rfl (by decide) rfl ?_
      refine Vb rfl rfl (by decide) rfl ?_
      refine Vb rfl rfl (by decide) rfl ?_
      refine Vb rfl rfl (by decide) rfl ?_
      refine Va (Vn rfl rfl) rfl ?_
      refine Va (Vm rfl) rfl ?_
      refine Vb rfl rfl (by decide) rfl ?_
      refine Vb rfl rfl (by decide) rfl ?_
      refine Vb rfl rfl (by decide) rfl ?_
      refine Vb rfl rfl (by decide) rfl ?_
      refine Vb rfl rfl (by decide) rfl ?_
      refine Va (Vn rfl rfl) rfl ?_
      refine Va (Vm rfl) rfl ?_
      refine Vb rfl rfl (by decide) rfl ?_
      refine Vb rfl rfl (by decide) rfl ?_
      refine Vb rfl rfl (by decide) rfl ?_
      refine Va (Vn rfl rfl) rfl ?_
      refine Va (Xz rfl) rfl ?_
      refine Vf ?_
      refine Xb ?_
      obtain rfl := Wt hF
      refine Wg ?_
      exact Vt rfl [] (by decide) ⟨Vr rfl (.bool _), trivial⟩ trivial
    ·have hF := Yp c19 hF
     refine Va (Vk rfl) rfl ?_
     refine Va (Xl rfl rfl) rfl ?_
     refine Va (Vm rfl) rfl ?_
     refine Xd rfl rfl c17 ?_
     refine Va (Vk rfl) rfl ?_
     refine Xd rfl rfl c17 ?_
     refine Va (Xl rfl rfl) rfl ?_
     refine Va (Vo (congrArg Ws c17) rfl) rfl ?_
     refine Va (Vm rfl) rfl ?_
     refine Xd rfl rfl c18 ?_
     refine Va (Vk rfl) rfl ?_
     refine Xd rfl rfl c18 ?_
     refine Va (Xl rfl rfl) rfl ?_
     refine Va (Vo (congrArg Ws c18) rfl) rfl ?_
     refine Va (Vm rfl) rfl ?_
     refine Vb rfl rfl (Zz c19) rfl ?_
     refine Vb rfl rfl (Zz c19) rfl ?_
     refine Va (Vn (congrArg Ws c19) rfl) rfl ?_
     refine Va (Vm rfl) rfl ?_
     refine Vb rfl rfl (by decide) rfl ?_
     refine Vb rfl rfl (by decide) rfl ?_
     refine Va (Vn rfl rfl) rfl ?_
     refine Va (Vm rfl) rfl ?_
     refine Vb rfl rfl (by decide) rfl ?_
     refine Vb rfl rfl (by decide) rfl ?_
     refine Va (Vn rfl rfl) rfl ?_
     refine Va (Vm rfl) rfl ?_
     refine Vb rfl rfl (by decide) rfl ?_
     refine Vb rfl rfl (by decide) rfl ?_
     refine Va (Vn rfl rfl) rfl ?_
     refine Va (Vm rfl) rfl ?_
     refine Vb rfl rfl (by decide) rfl ?_
     refine Vb rfl rfl (by decide) rfl ?_
     refine Vb rfl rfl (by decide) rfl ?_
     refine Vb rfl rfl (by decide) rfl ?_
     refine Va (Vn rfl rfl) rfl ?_
     refine Va (Vm rfl) rfl ?_
     refine Vb rfl rfl (by decide) rfl ?_
     refine Vb rfl rfl (by decide) rfl ?_
     refine Vb rfl rfl (by decide) rfl ?_
     refine Vb rfl rfl (by decide) rfl ?_
     refine Vb rfl rfl (by decide) rfl ?_
     refine Va (Vn rfl rfl) rfl ?_
     refine Va (Vm rfl) rfl ?_
     refine Vb rfl rfl (by decide) rfl ?_
     refine Vb rfl rfl (by decide) rfl ?_
     refine Vb rfl rfl (by decide) rfl ?_
     refine Vb rfl rfl (by decide) rfl ?_
     refine Vb rfl rfl (by decide) rfl ?_
     refine Va (Vn rfl rfl) rfl ?_
     refine Va (Vm rfl) rfl ?_
     refine Vb rfl rfl (by decide) rfl ?_
     refine Vb rfl rfl (by decide) rfl ?_
     refine Vb rfl rfl (by decide) rfl ?_
     refine Vb rfl rfl (by decide) rfl ?_
     refine Va (Vn rfl rfl) rfl ?_
     refine Va (Vm rfl) rfl ?_
     refine Vb rfl rfl (by decide) rfl ?_
     refine Vb rfl rfl (by decide) rfl ?_
     refine Vb rfl rfl (by decide) rfl ?_
     refine Vb rfl rfl (by decide) rfl ?_
     refine Vb rfl rfl (by decide) rfl ?_
     refine Va (Vn rfl rfl) rfl ?_
     refine Va (Vm rfl) rfl ?_
     refine Vb rfl rfl (by decide) rfl ?_
     refine Vb rfl rfl (by decide) rfl ?_
     refine Vb rfl rfl (by decide) rfl ?_
     refine Va (Vn rfl rfl) rfl ?_
     refine Va (Xz rfl) rfl ?_
     refine Vf ?_
     refine Xb ?_
     obtain rfl := Wt hF
     refine Wg ?_
     exact Vt rfl [] (by decide) ⟨Vr rfl (.bool _), trivial⟩ trivial
   ·have hF := Yp c18 hF
    refine Va (Vk rfl) rfl ?_
    refine Va (Xl rfl rfl) rfl ?_
    refine Va (Vm rfl) rfl ?_
    refine Xd rfl rfl c17 ?_
    refine Va (Vk rfl) rfl ?_
    refine Xd rfl rfl c17 ?_
    refine Va (Xl rfl rfl) rfl ?_
    refine Va (Vo (congrArg Ws c17) rfl) rfl ?_
    refine Va (Vm rfl) rfl ?_
    refine Vb rfl rfl (Zz c18) rfl ?_
    refine Vb rfl rfl (Zz c18) rfl ?_
    refine Va (Vn (congrArg Ws c18) rfl) rfl ?_
    refine Va (Vm rfl) rfl ?_
    refine Vb rfl rfl (by decide) rfl ?_
    refine Vb rfl rfl (by decide) rfl ?_
    refine Va (Vn rfl rfl) rfl ?_
    refine Va (Vm rfl) rfl ?_
    refine Vb rfl rfl (by decide) rfl ?_
    refine Vb rfl rfl (by decide) rfl ?_
    refine Va (Vn rfl rfl) rfl ?_
    refine Va (Vm rfl) rfl ?_
    refine Vb rfl rfl (by decide) rfl ?_
    refine Vb rfl rfl (by decide) rfl ?_
    refine Va (Vn rfl rfl) rfl ?_
    refine Va (Vm rfl) rfl ?_
    refine Vb rfl rfl (by decide) rfl ?_
    refine Vb rfl rfl (by decide) rfl ?_
    refine Va (Vn rfl rfl) rfl ?_
    refine Va (Vm rfl) rfl ?_
    refine Vb rfl rfl (by decide) rfl ?_
    refine Vb rfl rfl (by decide) rfl ?_
    refine Vb rfl rfl (by decide) rfl ?_
    refine Vb rfl rfl (by decide) rfl ?_
    refine Va (Vn rfl rfl) rfl ?_
    refine Va (Vm rfl) rfl ?_
    refine Vb rfl rfl (by decide) rfl ?_
    refine Vb rfl rfl (by decide) rfl ?_
    refine Vb rfl rfl (by decide) rfl ?_
    refine Vb rfl rfl (by decide) rfl ?_
    refine Vb rfl rfl (by decide) rfl ?_
    refine Va (Vn rfl rfl) rfl ?_
    refine Va (Vm rfl) rfl ?_
    refine Vb rfl rfl (by decide) rfl ?_
    refine Vb rfl rfl (by decide) rfl ?_
    refine Vb rfl rfl (by decide) rfl ?_
    refine Vb rfl rfl (by decide) rfl ?_
    refine Vb rfl rfl (by decide) rfl ?_
    refine Va (Vn rfl rfl) rfl ?_
    refine Va (Vm rfl) rfl ?_
    refine Vb rfl rfl (by decide) rfl ?_
    refine Vb rfl rfl (by decide) rfl ?_
    refine Vb rfl rfl (by decide) rfl ?_
    refine Vb rfl rfl (by decide) rfl ?_
    refine Va (Vn rfl rfl) rfl ?_
    refine Va (Vm rfl) rfl ?_
    refine Vb rfl rfl (by decide) rfl ?_
    refine Vb rfl rfl (by decide) rfl ?_
    refine Vb rfl rfl (by decide) rfl ?_
    refine Vb rfl rfl (by decide) rfl ?_
    refine Vb rfl rfl (by decide) rfl ?_
    refine Va (Vn rfl rfl) rfl ?_
    refine Va (Vm rfl) rfl ?_
    refine Vb rfl rfl (by decide) rfl ?_
    refine Vb rfl rfl (by decide) rfl ?_
    refine Vb rfl rfl (by decide) rfl ?_
    refine Va (Vn rfl rfl) rfl ?_
    refine Va (Xz rfl) rfl ?_
    refine Vf ?_
    refine Xb ?_
    obtain rfl := Wt hF
    refine Wg ?_
    exact Vt rfl [] (by decide) ⟨Vr rfl (.bool _), trivial⟩ trivial
  ·have hF := Yp c17 hF
   refine Va (Vk rfl) rfl ?_
   refine Va (Xl rfl rfl) rfl ?_
   refine Va (Vm rfl) rfl ?_
   refine Vb rfl rfl (Zz c17) rfl ?_
   refine Vb rfl rfl (Zz c17) rfl ?_
   refine Va (Vn (congrArg Ws c17) rfl) rfl ?_
   refine Va (Vm rfl) rfl ?_
   refine Vb rfl rfl (by decide) rfl ?_
   refine Vb rfl rfl (by decide) rfl ?_
   refine Va (Vn rfl rfl) rfl ?_
   refine Va (Vm rfl) rfl ?_
   refine Vb rfl rfl (by decide) rfl ?_
   refine Vb rfl rfl (by decide) rfl ?_
   refine Va (Vn rfl rfl) rfl ?_
   refine Va (Vm rfl) rfl ?_
   refine Vb rfl rfl (by decide) rfl ?_
   refine Vb rfl rfl (by decide) rfl ?_
   refine Va (Vn rfl rfl) rfl ?_
   refine Va (Vm rfl) rfl ?_
   refine Vb rfl rfl (by decide) rfl ?_
   refine Vb rfl rfl (by decide) rfl ?_
   refine Va (Vn rfl rfl) rfl ?_
   refine Va (Vm rfl) rfl ?_
   refine Vb rfl rfl (by decide) rfl ?_
   refine Vb rfl rfl (by decide) rfl ?_
   refine Va (Vn rfl rfl) rfl ?_
   refine Va (Vm rfl) rfl ?_
   refine Vb rfl rfl (by decide) rfl ?_
   refine Vb rfl rfl (by decide) rfl ?_
   refine Vb rfl rfl (by decide) rfl ?_
   refine Vb rfl rfl (by decide) rfl ?_
   refine Va (Vn rfl rfl) rfl ?_
   refine Va (Vm rfl) rfl ?_
   refine Vb rfl rfl (by decide) rfl ?_
   refine Vb rfl rfl (by decide) rfl ?_
   refine Vb rfl rfl (by decide) rfl ?_
   refine Vb rfl rfl (by decide) rfl ?_
   refine Vb rfl rfl (by decide) rfl ?_
   refine Va (Vn rfl rfl) rfl ?_
   refine Va (Vm rfl) rfl ?_
   refine Vb rfl rfl (by decide) rfl ?_
   refine Vb rfl rfl (by decide) rfl ?_
   refine Vb rfl rfl (by decide) rfl ?_
   refine Vb rfl rfl (by decide) rfl ?_
   refine Vb rfl rfl (by decide) rfl ?_
   refine Va (Vn rfl rfl) rfl ?_
   refine Va (Vm rfl) rfl ?_
   refine Vb rfl rfl (by decide) rfl ?_
   refine Vb rfl rfl (by decide) rfl ?_
   refine Vb rfl rfl (by decide) rfl ?_
   refine Vb rfl rfl (by decide) rfl ?_
   refine Va (Vn rfl rfl) rfl ?_
   refine Va (Vm rfl) rfl ?_
   refine Vb rfl rfl (by decide) rfl ?_
   refine Vb rfl rfl (by decide) rfl ?_
   refine Vb rfl rfl (by decide) rfl ?_
   refine Vb rfl rfl (by decide) rfl ?_
   refine Vb rfl rfl (by decide) rfl ?_
   refine Va (Vn rfl rfl) rfl ?_
   refine Va (Vm rfl) rfl ?_
   refine Vb rfl rfl (by decide) rfl ?_
   refine Vb rfl rfl (by decide) rfl ?_
   refine Vb rfl rfl (by decide) rfl ?_
   refine Va (Vn rfl rfl) rfl ?_
   refine Va (Xz rfl) rfl ?_
   refine Vf ?_
   refine Xb ?_
   obtain rfl := Wt hF
   refine Wg ?_
   exact Vt rfl [] (by decide) ⟨Vr rfl (.bool _), trivial⟩ trivial
 ·rintro _ _ _ _ ⟨he, hw⟩
  refine ⟨_, _, _, hw, ?_⟩
  exact Zd he [.bool r] ⟨rfl, trivial⟩ (.bool _) ⟨rfl, rfl⟩

theorem F_made_Roll_ok {p0 : List Int} {r : T_made_Dice} (hF : F_made_Roll p0 = some r) (low : List AObj) {n : Nat} (hn : low.length = n) :
    Ys Try.prog 9 [.vs 1 (Wq (Wr .i64) p0)] low fun x low' => x = .ptr (n + 0) 0 0 0 ∧ low' = low ++ [⟨53, 2, [.agg [.vs 1 (Wq (Wr .i64) r.L), .int .i64 r.At]], 0⟩] := by
 refine Vz (nt := 6) (rs := [.tmp 2]) Try.func9 rfl rfl (Wu rfl) rfl ?_
 refine Vw (Q' := FnE (fun E' lw lc => Yb E' lw lc [(2, .ptr (n + 0) 0 0 0)] low [⟨53, 2, [.agg [.vs 1 (Wq (Wr .i64) r.L), .int .i64 r.At]], 0⟩])) ?_ ?_
 ·unfold F_made_Roll at hF
  refine Vi ?_
  refine Vd ?_
  refine Va (rd_asQ rfl) rfl ?_
  refine Vf ?_
  refine Vi ?_
  refine Vd ?_
  refine Va (Xc rfl) rfl ?_
  refine Va (Wh (vs := [(0, .vs 1 (Wq (Wr .i64) p0))]) (ds := [.vs 1 (Wq (Wr .i64) p0), .int .i64 0]) tz_53 rfl rfl tp_53 ⟨rfl, rfl, trivial⟩ (Wo rfl) rfl) rfl ?_
  refine Vj (Zc hn rfl (v := .agg [.vs 1 (Wq (Wr .i64) p0), .int .i64 0]) rfl rfl (Wv _) rfl rfl) rfl ?_
  refine Va (rd_asP rfl) rfl ?_
  refine Vf ?_
  refine Xb ?_
  obtain rfl := Wt hF
  refine Wg ?_
  exact Vp ⟨rfl, trivial⟩
 ·rintro _ _ _ _ ⟨he, hw⟩
  refine ⟨_, _, _, hw, ?_⟩
  exact bodyQ_all he [.ptr (n + 0) 0 0 0] ⟨rfl, trivial⟩ ⟨rfl, rfl⟩

theorem F_made_Mod_ok {p0 : Int} {p1 : Int} {r : Int} (hF : F_made_Mod p0 p1 = some r) (low : List AObj) :
    Ys Try.prog 19 [.int .i64 p0, .int .i64 p1] low fun x low' => x = .int .i64 r ∧ low' = low := by
 refine Vz (nt := 16) (rs := [.tmp 4]) Try.func19 rfl rfl (Wu rfl) rfl ?_
 refine Vw (Q' := FnE (fun E' lw lc => Yb E' lw lc [(4, .int .i64 r)] low [])) ?_ ?_
 ·unfold F_made_Mod at hF
  refine Vi ?_
  refine Vd ?_
  refine Va (Xa rfl) rfl ?_
  refine Vf ?_
  refine Vi ?_
  refine Vi ?_
  refine Vd ?_
  refine Va (Vk rfl) rfl ?_
  refine Va (Zr rfl rfl) rfl ?_
  refine Vf ?_
  refine Xh rfl (fun c1 => ?_) (fun c1 => ?_)
  ·have hF := Yo c1 hF
   refine Vi ?_
   refine Vd ?_
   refine Va (Xa rfl) rfl ?_
   refine Vf ?_
   refine Xb ?_
   obtain rfl := Wt hF
   refine Wg ?_
   exact Vp ⟨rfl, trivial⟩
  ·have hF := Yp c1 hF
   refine Xn ?_
   refine Vi ?_
   refine Vd ?_
   obtain ⟨x2, h3, hF⟩ := Yt hF
   refine Va (Vk rfl) rfl ?_
   refine Va (Vk rfl) rfl ?_
   refine Va (rd_rem rfl rfl (remI_some h3).1 (remI_some h3).2) rfl ?_
   refine Va (Xa rfl) rfl ?_
   refine Vf ?_
   refine Vi ?_
   refine Vi ?_
   refine Vd ?_
   refine Va (Vk rfl) rfl ?_
   refine Va (Zr rfl rfl) rfl ?_
   refine Vf ?_
   obtain ⟨o4, ho4, hF⟩ := Yt hF
   refine Vw (Q' := (fun o4 => OnlyE .normal (fun E' lw lc => Yb E' lw lc [(0, .int .i64 o4)] low [])) o4) ?_ ?_
   ·replace hF := ho4
    refine Xh rfl (fun c5 => ?_) (fun c5 => ?_)
    ·have hF := Yo c5 hF
     refine Vd ?_
     refine Va (Vk rfl) rfl ?_
     refine Va (Vk rfl) rfl ?_
     refine Va (Wk rfl rfl rfl) rfl ?_
     refine Va (Xa rfl) rfl ?_
     refine Vf ?_
     obtain rfl := Wt hF
     refine Xy ?_
     exact Vp ⟨rfl, trivial⟩
    ·have hF := Yp c5 hF
     refine Xn ?_
     obtain rfl := Wt hF
     refine Xy ?_
     exact Vp ⟨rfl, trivial⟩
   ·rintro _ _ _ _ ⟨rfl, hw⟩
    refine ⟨_, _, _, hw, ?_⟩
    refine Vi ?_
    refine Vd ?_
    refine Va (Vk rfl) rfl ?_
    refine Va (Xa rfl) rfl ?_
    refine Vf ?_
    refine Xb ?_
    obtain rfl := Wt hF
    refine Wg ?_
    exact Vp ⟨rfl, trivial⟩
 ·rintro _ _ _ _ ⟨he, hw⟩
  refine ⟨_, _, _, hw, ?_⟩
  exact Zd he [.int .i64 r] ⟨rfl, trivial⟩ (.int _ _) ⟨rfl, rfl⟩

theorem F_made_Dice_Next_ok0 {p0 : T_made_Dice} {p1 : Int} {r : T_made_Dice × Int} (hF : F_made_Dice_Next p0 p1 = some r) {low0 : List AObj} {q0 w0 : Nat} (hB : Bor low0 [q0]) {n : Nat} (hn : low0.length = n) :
    Ys Try.prog 10 [.ptr q0 w0 0 0, .int .i64 p1] (setL low0 [(q0, ⟨53, 2, [.agg [.vs 1 (Wq (Wr .i64) p0.L), .int .i64 p0.At]], w0⟩)]) fun x low' => x = .int .i64 r.2 ∧ low' = setL low0 [(q0, ⟨53, 2, [.agg [.vs 1 (Wq (Wr .i64) r.1.L), .int .i64 r.1.At]], w0⟩)] ++ [] := by
 refine Vz (nt := 35) (rs := [.tmp 4]) Try.func10 rfl rfl (Wu rfl) rfl ?_
 have hq0 : q0 < n := hB.ltN hn 0 rfl
 refine Vw (Q' := FnE (fun E' lw lc => Yb E' lw lc [(4, .int .i64 r.2)] (setL low0 [(q0, ⟨53, 2, [.agg [.vs 1 (Wq (Wr .i64) r.1.L), .int .i64 r.1.At]], w0⟩)]) [])) ?_ ?_
 ·unfold F_made_Dice_Next at hF
  refine Vi ?_
  refine Vd ?_
  refine Va (Xa rfl) rfl ?_
  refine Vf ?_
  refine Vi ?_
  refine Vi ?_
  refine Zk [[], [0], [0, 1], [0, 1, 2], [], [4], [4, 5], [4, 5, 6], [4, 5, 6, 7], [0, 1, 2, 3, 4, 5, 6, 7, 8]] mixed (by kernel_rfl) rfl ?_
  refine Ym rfl rfl (Zq rfl) ?_
  refine Ym rfl rfl (Zv rfl) ?_
  refine Ym rfl rfl (Vc rfl tf_53_1 ts_3 (by decide)) ?_
  refine Ym rfl rfl (Vg rfl (Yw hB rfl 0 rfl) rfl ta_3 rfl) ?_
  refine Ym rfl rfl (Zq rfl) ?_
  refine Ym rfl rfl (Zv rfl) ?_
  refine Ym rfl rfl (Vc rfl tf_53_0 ts_22 (by decide)) ?_
  refine Ym rfl rfl (Vg rfl (Yw hB rfl 0 rfl) rfl ta_22 rfl) ?_
  refine Ym rfl rfl (Xk (Xv rfl rfl te_22) (congrArg (fun n : Nat => Wr .i64 (n : Int)) (Wx _))) ?_
  refine Ym rfl rfl (rd_geq rfl rfl) ?_
  refine Yz ?_
  refine Xh rfl (fun c1 => ?_) (fun c1 => ?_)
  ·have hF := Yo c1 hF
   refine Vi ?_
   refine Vd ?_
   refine Va (Xa rfl) rfl ?_
   refine Vf ?_
   refine Xb ?_
   obtain rfl := Wt hF
   refine Wg ?_
   exact Vp ⟨rfl, trivial⟩
  ·have hF := Yp c1 hF
   refine Xn ?_
   refine Vi ?_
   refine Vd ?_
   refine Va (Zq rfl) rfl ?_
   refine Va (Zv rfl) rfl ?_
   refine Va (Vc rfl tf_53_1 ts_3 (by decide)) rfl ?_
   refine Va (Vg rfl (Yw hB rfl 0 rfl) rfl ta_3 rfl) rfl ?_
   refine Va (Wk rfl rfl rfl) rfl ?_
   refine Va (Zv rfl) rfl ?_
   refine Va (Vc rfl tf_53_1 ts_3 (by decide)) rfl ?_
   refine Vj (Vy (p := .int .i64 (IntKind.i64.wrap (p0.At + 1))) (e' := .agg [.vs 1 (Wq (Wr .i64) p0.L), .int .i64 (IntKind.i64.wrap (p0.At + 1))]) rfl (Yw hB rfl 0 rfl) rfl rfl ts_3 rfl (Ye rfl) rfl (Wu rfl) rfl (setO_B hB rfl 0 rfl (ltObjN hn ⟨Xw ⟨.vs _ _, .int _ _, trivial⟩, trivial⟩) rfl)) rfl ?_
   refine Vf ?_
   refine Vi ?_
   obtain ⟨x2, h3, hF⟩ := Yt hF
   obtain ⟨x4, h5, hF⟩ := Yt hF
   refine Zk [[], [0], [0, 1], [0, 1, 2], [], [4], [4, 5], [4, 5, 6], [4, 5, 6, 7], [0, 1, 2, 3, 4, 5, 6, 7, 8], [0, 1, 2, 3, 4, 5, 6, 7, 8, 9], [], [0, 1, 2, 3, 4, 5, 6, 7, 8, 9, 10, 11], [0, 1, 2, 3, 4, 5, 6, 7, 8, 9, 10, 11, 12]] mixed (by kernel_rfl) rfl ?_
   refine Ym rfl rfl (Zq rfl) ?_
   refine Ym rfl rfl (Zv rfl) ?_
   refine Ym rfl rfl (Vc rfl tf_53_0 ts_22 (by decide)) ?_
   refine Ym rfl rfl (Vg rfl (Yw hB rfl 0 rfl) rfl ta_22 rfl) ?_
   refine Ym rfl rfl (Zq rfl) ?_
   refine Ym rfl rfl (Zv rfl) ?_
   refine Ym rfl rfl (Vc rfl tf_53_1 ts_3 (by decide)) ?_
   refine Ym rfl rfl (Vg rfl (Yw hB rfl 0 rfl) rfl ta_3 rfl) ?_
   refine Ym rfl rfl (rd_sub rfl rfl rfl) ?_
   refine Ym rfl rfl (Xk (Yl rfl rfl h3 te_22 ts_3) (v' := .vptr [.int .i64 x2] 0) rfl) ?_
   refine Ym rfl rfl (Xj rfl ta_3 rfl) ?_
   refine Ym rfl rfl (Vk rfl) ?_
   refine dn1 rfl rfl (nt_of (Xp rfl Try.call19 (F_made_Mod_ok h5 _))) ?_
   refine Ym rfl rfl (Xa rfl) ?_
   refine Yz ?_
   refine Xb ?_
   obtain rfl := Wt hF
   refine Wg ?_
   exact Vp ⟨rfl, trivial⟩
 ·rintro _ _ _ _ ⟨he, hw⟩
  refine ⟨_, _, _, hw, ?_⟩
  exact Zd he [.int .i64 r.2] ⟨rfl, trivial⟩ (.int _ _) ⟨rfl, (List.append_nil _).symm⟩

theorem F_made_Dice_Next_ok {p0 : T_made_Dice} {p1 : Int} {r : T_made_Dice × Int} (hF : F_made_Dice_Next p0 p1 = some r) {low : List AObj} {q0 w0 : Nat} (hnd : [q0].Nodup) (hq0 : low[q0]? = some ⟨53, 2, [.agg [.vs 1 (Wq (Wr .i64) p0.L), .int .i64 p0.At]], w0⟩) {n : Nat} (hn : low.length = n) :
    Ys Try.prog 10 [.ptr q0 w0 0 0, .int .i64 p1] low fun x low' => x = .int .i64 r.2 ∧ low' = setL low [(q0, ⟨53, 2, [.agg [.vs 1 (Wq (Wr .i64) r.1.L), .int .i64 r.1.At]], w0⟩)] ++ [] := by
  obtain ⟨h1, h2⟩ := We (ps := [(q0, ⟨53, 2, [.agg [.vs 1 (Wq (Wr .i64) p0.L), .int .i64 p0.At]], w0⟩)]) hnd (Wf hq0 bor0)
  exact Zx h1 (F_made_Dice_Next_ok0 hF h2 hn)

theorem F_made_Dice_Of_ok0 {p0 : T_made_Dice} {p1 : List Int} {r : T_made_Dice × Int} (hF : F_made_Dice_Of p0 p1 = some r) {low0 : List AObj} {q0 w0 : Nat} (hB : Bor low0 [q0]) {n : Nat} (hn : low0.length = n) :
    Ys Try.prog 11 [.ptr q0 w0 0 0, .vs 1 (Wq (Wr .i64) p1)] (setL low0 [(q0, ⟨53, 2, [.agg [.vs 1 (Wq (Wr .i64) p0.L), .int .i64 p0.At]], w0⟩)]) fun x low' => x = .int .i64 r.2 ∧ low' = setL low0 [(q0, ⟨53, 2, [.agg [.vs 1 (Wq (Wr .i64) r.1.L), .int .i64 r.1.At]], w0⟩)] ++ [] := by
 refine Vz (nt := 12) (rs := [.tmp 4]) Try.func11 rfl rfl (Wu rfl) rfl ?_
 have hq0 : q0 < n := hB.ltN hn 0 rfl
 refine Vw (Q' := FnE (fun E' lw lc => Yb E' lw lc [(4, .int .i64 r.2)] (setL low0 [(q0, ⟨53, 2, [.agg [.vs 1 (Wq (Wr .i64) r.1.L), .int .i64 r.1.At]], w0⟩)]) [])) ?_ ?_
 ·unfold F_made_Dice_Of at hF
  refine Vi ?_
  refine Vd ?_
  refine Va (Xa rfl) rfl ?_
  refine Vf ?_
  refine Vi ?_
  refine Vd ?_
  obtain ⟨x1, h2, hF⟩ := Yt hF
  obtain ⟨x3, h4, hF⟩ := Yt hF
  refine Va (Xc rfl) rfl ?_
  refine Va (Zq rfl) rfl ?_
  refine Va (Xc rfl) rfl ?_
  refine Va (Xk (Xv rfl rfl te_22) (congrArg (fun n : Nat => Wr .i64 (n : Int)) (Wx _))) rfl ?_
  refine Vj (Zg (ps := [(q0, ⟨53, 2, [.agg [.vs 1 (Wq (Wr .i64) x1.1.L), .int .i64 x1.1.At]], w0⟩)]) (r := .int .i64 x1.2) (os := []) (low1 := (setL low0 [(q0, ⟨53, 2, [.agg [.vs 1 (Wq (Wr .i64) x1.1.L), .int .i64 x1.1.At]], w0⟩)])) (loc1 := []) (loc2 := []) rfl Try.call10 (F_made_Dice_Next_ok h2 (nd1 na0 nd0) (Wp hB rfl 0 rfl) (Xi (Vs hn) rfl)) (Wd (ps0' := [(q0, ⟨53, 2, [.agg [.vs 1 (Wq (Wr .i64) x1.1.L), .int .i64 x1.1.At]], w0⟩)]) hB rfl 0 rfl (ltObjN hn ⟨Xw ⟨.vs _ _, .int _ _, trivial⟩, trivial⟩) rfl Zl) rfl) rfl ?_
  refine Va (Xk (Yl rfl rfl h4 te_22 ts_3) (v' := .vptr [.int .i64 x3] 0) rfl) rfl ?_
  refine Va (Xj rfl ta_3 rfl) rfl ?_
  refine Va (Xa rfl) rfl ?_
  refine Vf ?_
  refine Xb ?_
  obtain rfl := Wt hF
  refine Wg ?_
  exact Vp ⟨rfl, trivial⟩
 ·rintro _ _ _ _ ⟨he, hw⟩
  refine ⟨_, _, _, hw, ?_⟩
  exact Zd he [.int .i64 r.2] ⟨rfl, trivial⟩ (.int _ _) ⟨rfl, (List.append_nil _).symm⟩

theorem F_made_Dice_Of_ok {p0 : T_made_Dice} {p1 : List Int} {r : T_made_Dice × Int} (hF : F_made_Dice_Of p0 p1 = some r) {low : List AObj} {q0 w0 : Nat} (hnd : [q0].Nodup) (hq0 : low[q0]? = some ⟨53, 2, [.agg [.vs 1 (Wq (Wr .i64) p0.L), .int .i64 p0.At]], w0⟩) {n : Nat} (hn : low.length = n) :
    Ys Try.prog 11 [.ptr q0 w0 0 0, .vs 1 (Wq (Wr .i64) p1)] low fun x low' => x = .int .i64 r.2 ∧ low' = setL low [(q0, ⟨53, 2, [.agg [.vs 1 (Wq (Wr .i64) r.1.L), .int .i64 r.1.At]], w0⟩)] ++ [] := by
  obtain ⟨h1, h2⟩ := We (ps := [(q0, ⟨53, 2, [.agg [.vs 1 (Wq (Wr .i64) p0.L), .int .i64 p0.At]], w0⟩)]) hnd (Wf hq0 bor0)
  exact Zx h1 (F_made_Dice_Of_ok0 hF h2 hn)

theorem F_ref39_Copy_ok {p0 : T_Line} {r : T_Line} (hF : F_ref39_Copy p0 = some r) (low : List AObj) {n : Nat} (hn : low.length = n) :
    Ys Try.prog 23 [.agg [.int .i64 p0.Time, .vs 1 (Wq (Wr .i64) p0.States), .vs 1 (Wq (Wr .i64) p0.Since), .vs 1 (Wq Ws p0.Pulled), .vs 1 (Wq Ws p0.Held)]] low fun x low' => x = .agg [.int .i64 r.Time, .sl (n + 0) 0 0 (r.States).length, .sl (n + 1) 0 0 (r.Since).length, .sl (n + 2) 0 0 (r.Pulled).length, .sl (n + 3) 0 0 (r.Held).length] ∧ low' = low ++ [⟨3, 1, Wq (Wr .i64) r.States, 0⟩, ⟨3, 1, Wq (Wr .i64) r.Since, 0⟩, ⟨4, 1, Wq Ws r.Pulled, 0⟩, ⟨4, 1, Wq Ws r.Held, 0⟩] := by
 refine Vz (nt := 18) (rs := [.cell 2 34]) Try.func23 rfl rfl (Wu rfl) rfl ?_
 refine Vw (Q' := FnE (fun E' lw lc => Yb E' lw lc [(2, .ptr (n + 4) 0 0 0)] low [⟨3, 1, Wq (Wr .i64) r.States, 0⟩, ⟨3, 1, Wq (Wr .i64) r.Since, 0⟩, ⟨4, 1, Wq Ws r.Pulled, 0⟩, ⟨4, 1, Wq Ws r.Held, 0⟩, ⟨34, 5, [.agg [.int .i64 r.Time, .sl (n + 0) 0 0 (r.States).length, .sl (n + 1) 0 0 (r.Since).length, .sl (n + 2) 0 0 (r.Pulled).length, .sl (n + 3) 0 0 (r.Held).length]], 0⟩])) ?_ ?_
 ·unfold F_ref39_Copy at hF
  refine Vi ?_
  refine Vd ?_
  refine Vj (Zc hn rfl (v := .agg [.int .i64 p0.Time, .vs 1 (Wq (Wr .i64) p0.States), .vs 1 (Wq (Wr .i64) p0.Since), .vs 1 (Wq Ws p0.Pulled), .vs 1 (Wq Ws p0.Held)]) rfl rfl (Wv _) rfl rfl) rfl ?_
  refine Vj (Xe hn rfl tz_34 rfl rfl (Wv _) rfl) rfl ?_
  refine Vf ?_
  refine Vi ?_
  obtain ⟨x1, h2, hF⟩ := Yt hF
  obtain ⟨x3, h4, hF⟩ := Yt hF
  obtain ⟨x5, h6, hF⟩ := Yt hF
  obtain ⟨x7, h8, hF⟩ := Yt hF
  refine Wc [[], [0], [], [2], [2, 3], [], [5], [2, 3, 4, 5, 6], [], [8], [2, 3, 4, 5, 6, 7, 8, 9], [], [11], [2, 3, 4, 5, 6, 7, 8, 9, 10, 11, 12], [0, 1, 2, 3, 4, 5, 6, 7, 8, 9, 10, 11, 12, 13], [0, 1, 2, 3, 4, 5, 6, 7, 8, 9, 10, 11, 12, 13, 14]] [false, false, false, false, true, false, false, true, false, false, true, false, false, true, false, true] [(low, [⟨34, 5, [.agg [.int .i64 p0.Time, .vs 1 (Wq (Wr .i64) p0.States), .vs 1 (Wq (Wr .i64) p0.Since), .vs 1 (Wq Ws p0.Pulled), .vs 1 (Wq Ws p0.Held)]], 0⟩, ⟨34, 5, [.agg [.int .i64 0, .nils, .nils, .nils, .nils]], 0⟩]), (low, [⟨34, 5, [.agg [.int .i64 p0.Time, .vs 1 (Wq (Wr .i64) p0.States), .vs 1 (Wq (Wr .i64) p0.Since), .vs 1 (Wq Ws p0.Pulled), .vs 1 (Wq Ws p0.Held)]], 0⟩, ⟨34, 5, [.agg [.int .i64 0, .nils, .nils, .nils, .nils]], 0⟩, ⟨3, 1, Wq (Wr .i64) x1, 0⟩]), (low, [⟨34, 5, [.agg [.int .i64 p0.Time, .vs 1 (Wq (Wr .i64) p0.States), .vs 1 (Wq (Wr .i64) p0.Since), .vs 1 (Wq Ws p0.Pulled), .vs 1 (Wq Ws p0.Held)]], 0⟩, ⟨34, 5, [.agg [.int .i64 0, .nils, .nils, .nils, .nils]], 0⟩, ⟨3, 1, Wq (Wr .i64) x1, 0⟩, ⟨3, 1, Wq (Wr .i64) x3, 0⟩]), (low, [⟨34, 5, [.agg [.int .i64 p0.Time, .vs 1 (Wq (Wr .i64) p0.States), .vs 1 (Wq (Wr .i64) p0.Since), .vs 1 (Wq Ws p0.Pulled), .vs 1 (Wq Ws p0.Held)]], 0⟩, ⟨34, 5, [.agg [.int .i64 0, .nils, .nils, .nils, .nils]], 0⟩, ⟨3, 1, Wq (Wr .i64) x1, 0⟩, ⟨3, 1, Wq (Wr .i64) x3, 0⟩, ⟨4, 1, Wq Ws x5, 0⟩]), (low, [⟨34, 5, [.agg [.int .i64 p0.Time, .vs 1 (Wq (Wr .i64) p0.States), .vs 1 (Wq (Wr .i64) p0.Since), .vs 1 (Wq Ws p0.Pulled), .vs 1 (Wq Ws p0.Held)]], 0⟩, ⟨34, 5, [.agg [.int .i64 0, .nils, .nils, .nils, .nils]], 0⟩, ⟨3, 1, Wq (Wr .i64) x1, 0⟩, ⟨3, 1, Wq (Wr .i64) x3, 0⟩, ⟨4, 1, Wq Ws x5, 0⟩, ⟨4, 1, Wq Ws x7, 0⟩]), (low, [⟨34, 5, [.agg [.int .i64 p0.Time, .vs 1 (Wq (Wr .i64) p0.States), .vs 1 (Wq (Wr .i64) p0.Since), .vs 1 (Wq Ws p0.Pulled), .vs 1 (Wq Ws p0.Held)]], 0⟩, ⟨34, 5, [.agg [.int .i64 p0.Time, .sl (n + 2) 0 0 (x1).length, .sl (n + 3) 0 0 (x3).length, .sl (n + 4) 0 0 (x5).length, .sl (n + 5) 0 0 (x7).length]], 0⟩, ⟨3, 1, Wq (Wr .i64) x1, 0⟩, ⟨3, 1, Wq (Wr .i64) x3, 0⟩, ⟨4, 1, Wq Ws x5, 0⟩, ⟨4, 1, Wq Ws x7, 0⟩])] mixed (by kernel_rfl) rfl (lenAll (Xx rfl (Xx rfl (Xx rfl (Xx rfl (Xx rfl (Xx rfl Zn))))))) rfl _ rfl rfl ?_
  refine Yi _ rfl rfl (Xx (VRd.ntl (Vc rfl tf_34_0 ts_3 (by decide))) (Xx (VRd.ntl (Vc rfl tf_34_0 ts_3 (by decide))) (Xx (VRd.ntl (Vc rfl tf_34_0 ts_3 (by decide))) (Xx (VRd.ntl (Vc rfl tf_34_0 ts_3 (by decide))) (Xx (VRd.ntl (Vc rfl tf_34_0 ts_3 (by decide))) Zn))))) ?_
  refine Yi _ rfl rfl (Xx (VRd.ntl (Vg rfl (Ve hn rfl) rfl ta_3 rfl)) (Xx (VRd.ntl (Vg rfl (Ve hn rfl) rfl ta_3 rfl)) (Xx (VRd.ntl (Vg rfl (Ve hn rfl) rfl ta_3 rfl)) (Xx (VRd.ntl (Vg rfl (Ve hn rfl) rfl ta_3 rfl)) (Xx (VRd.ntl (Vg rfl (Ve hn rfl) rfl ta_3 rfl)) Zn))))) ?_
  refine Ym rfl rfl (Vc rfl tf_34_1 ts_22 (by decide)) ?_
  refine Ym rfl rfl (Vg rfl (Ve hn rfl) rfl ta_22 rfl) ?_
  refine Zh rfl rfl rfl (vef_ap0N (f := (Wr .i64)) (ys := p0.States) hn rfl (.inl rfl) rfl (src_vs rfl) (Wv _) te_22 ts_3 tb_3 (by decide) tz_3 rfl h2) ?_
  refine Yi _ rfl rfl (Xx (VRd.ntl (Vc rfl tf_34_2 ts_22 (by decide))) (Xx (VRd.ntl (Vc rfl tf_34_2 ts_22 (by decide))) Zn)) ?_
  refine Yi _ rfl rfl (Xx (VRd.ntl (Vg rfl (Ve hn rfl) rfl ta_22 rfl)) (Xx (VRd.ntl (Vg rfl (Ve hn rfl) rfl ta_22 rfl)) Zn)) ?_
  refine Zh rfl rfl rfl (vef_ap0N (f := (Wr .i64)) (ys := p0.Since) hn rfl (.inl rfl) rfl (src_vs rfl) (Wv _) te_22 ts_3 tb_3 (by decide) tz_3 rfl h4) ?_
  refine Yi _ rfl rfl (Xx (VRd.ntl (Vc rfl tf_34_3 ts_32 (by decide))) (Xx (VRd.ntl (Vc rfl tf_34_3 ts_32 (by decide))) (Xx (VRd.ntl (Vc rfl tf_34_3 ts_32 (by decide))) Zn))) ?_
  refine Yi _ rfl rfl (Xx (VRd.ntl (Vg rfl (Ve hn rfl) rfl ta_32 rfl)) (Xx (VRd.ntl (Vg rfl (Ve hn rfl) rfl ta_32 rfl)) (Xx (VRd.ntl (Vg rfl (Ve hn rfl) rfl ta_32 rfl)) Zn))) ?_
  refine Zh rfl rfl rfl (vef_ap0N (f := Ws) (ys := p0.Pulled) hn rfl (.inl rfl) rfl (src_vs rfl) (Wv _) te_32 ts_4 tb_4 (by decide) tz_4 rfl h6) ?_
  refine Yi _ rfl rfl (Xx (VRd.ntl (Vc rfl tf_34_4 ts_32 (by decide))) (Xx (VRd.ntl (Vc rfl tf_34_4 ts_32 (by decide))) (Xx (VRd.ntl (Vc rfl tf_34_4 ts_32 (by decide))) (Xx (VRd.ntl (Vc rfl tf_34_4 ts_32 (by decide))) Zn)))) ?_
  refine Yi _ rfl rfl (Xx (VRd.ntl (Vg rfl (Ve hn rfl) rfl ta_32 rfl)) (Xx (VRd.ntl (Vg rfl (Ve hn rfl) rfl ta_32 rfl)) (Xx (VRd.ntl (Vg rfl (Ve hn rfl) rfl ta_32 rfl)) (Xx (VRd.ntl (Vg rfl (Ve hn rfl) rfl ta_32 rfl)) Zn)))) ?_
  refine Zh rfl rfl rfl (vef_ap0N (f := Ws) (ys := p0.Held) hn rfl (.inl rfl) rfl (src_vs rfl) (Wv _) te_32 ts_4 tb_4 (by decide) tz_4 rfl h8) ?_
  refine Ym rfl rfl (Wh (vs := [(0, .int .i64 p0.Time), (1, .sl (n + 2) 0 0 (x1).length), (2, .sl (n + 3) 0 0 (x3).length), (3, .sl (n + 4) 0 0 (x5).length), (4, .sl (n + 5) 0 0 (x7).length)]) (ds := [.int .i64 p0.Time, .sl (n + 2) 0 0 (x1).length, .sl (n + 3) 0 0 (x3).length, .sl (n + 4) 0 0 (x5).length, .sl (n + 5) 0 0 (x7).length]) tz_34 rfl rfl tp_34 ⟨rfl, rfl, rfl, rfl, rfl, rfl, rfl, rfl, rfl, rfl, trivial⟩ (Wo rfl) rfl) ?_
  refine Zh rfl rfl rfl (Vy (p := .agg [.int .i64 p0.Time, .sl (n + 2) 0 0 (x1).length, .sl (n + 3) 0 0 (x3).length, .sl (n + 4) 0 0 (x5).length, .sl (n + 5) 0 0 (x7).length]) (e' := .agg [.int .i64 p0.Time, .sl (n + 2) 0 0 (x1).length, .sl (n + 3) 0 0 (x3).length, .sl (n + 4) 0 0 (x5).length, .sl (n + 5) 0 0 (x7).length]) rfl (Ve hn rfl) rfl rfl ts_34 rfl (Ye rfl) rfl (Wu rfl) rfl (Xr hn rfl)) ?_
  refine Yz ?_
  refine Xb ?_
  obtain rfl := Wt hF
  refine Wg ?_
  exact Vt hn [(2, 0), (3, 0), (4, 0), (5, 0), (1, 0)] (by decide) ⟨Yj 4 1 rfl rfl, trivial⟩ ⟨⟨_, rfl, rfl, .same _ _ _ _ (Vh (fun _ => .int _ _))⟩, ⟨_, rfl, rfl, .same _ _ _ _ (Vh (fun _ => .int _ _))⟩, ⟨_, rfl, rfl, .same _ _ _ _ (Vh (fun _ => .bool _))⟩, ⟨_, rfl, rfl, .same _ _ _ _ (Vh (fun _ => .bool _))⟩, ⟨_, rfl, rfl, .agg _ _ _ _ _ ⟨Vr rfl (.int _ _), Xq 0 2 rfl rfl, Xq 1 3 rfl rfl, Xq 2 4 rfl rfl, Xq 3 5 rfl rfl, trivial⟩⟩, trivial⟩
 ·rintro _ _ _ _ ⟨he, hw⟩
  refine ⟨_, _, _, hw, ?_⟩
  exact Zm hn 4 rfl (Wu rfl) he [.agg [.int .i64 r.Time, .sl (n + 0) 0 0 (r.States).length, .sl (n + 1) 0 0 (r.Since).length, .sl (n + 2) 0 0 (r.Pulled).length, .sl (n + 3) 0 0 (r.Held).length]] ⟨Vv rfl (Ve hn rfl) rfl ta_34 ts_34 rfl rfl rfl, trivial⟩ ((Xw ⟨.int _ _, .sl _ _ _ _ (Zw rfl), .sl _ _ _ _ (Zw rfl), .sl _ _ _ _ (Zw rfl), .sl _ _ _ _ (Zw rfl), trivial⟩)) ⟨Vh (fun _ => .int _ _), Vh (fun _ => .int _ _), Vh (fun _ => .bool _), Vh (fun _ => .bool _), trivial⟩ ⟨rfl, rfl⟩

theorem F_ref39_belts_ok {p0 : List T_Belt} {r : Bool} (hF : F_ref39_belts p0 = some r) (low : List AObj) :
    Ys Try.prog 44 [.vs 2 (Wq T_Belt.enc p0)] low fun x low' => x = .bool r ∧ low' = low := by
 refine Vz (nt := 86) (rs := [.tmp 2]) Try.func44 rfl rfl (Wu rfl) rfl ?_
 refine Vw (Q' := FnE (fun E' lw lc => Yb E' lw lc [(2, .bool r)] low [])) ?_ ?_
 ·unfold F_ref39_belts at hF
  refine Vi ?_
  refine Vd ?_
  refine Va (Xz rfl) rfl ?_
  refine Vf ?_
  refine Vi ?_
  refine Vi ?_
  obtain ⟨o1, ho1, hF⟩ := Yt hF
  refine Vw (Q' := (fun o1 => OnlyE .normal (fun E' lw lc => Yb E' lw lc [(0, .vs 2 (Wq T_Belt.enc p0)), (14, .bool o1)] low [])) o1) ?_ ?_
  ·replace hF := ho1
   refine Vd ?_
   rcases Ww (decide (((p0).length : Int) < 1)) with c2 | c2
   ·have hF := Yo c2 hF
    refine Va (Xc rfl) rfl ?_
    refine Va (Xk (Xv rfl rfl te_27) (congrArg (fun n : Nat => Wr .i64 (n : Int)) (Wx _))) rfl ?_
    refine Va (Zr rfl rfl) rfl ?_
    refine Va (Vm rfl) rfl ?_
    refine Vb rfl rfl (Zo c2) rfl ?_
    refine Vb rfl rfl (Zo c2) rfl ?_
    refine Vb rfl rfl (Zo c2) rfl ?_
    refine Va (Vo (congrArg Ws c2) rfl) rfl ?_
    refine Vf ?_
    obtain rfl := Wt hF
    refine Xy ?_
    exact Vp ⟨rfl, rfl, trivial⟩
   ·have hF := Yp c2 hF
    refine Va (Xc rfl) rfl ?_
    refine Va (Xk (Xv rfl rfl te_27) (congrArg (fun n : Nat => Wr .i64 (n : Int)) (Wx _))) rfl ?_
    refine Va (Zr rfl rfl) rfl ?_
    refine Va (Vm rfl) rfl ?_
    refine Xd rfl rfl c2 ?_
    refine Va (Xc rfl) rfl ?_
    refine Xd rfl rfl c2 ?_
    refine Va (Xk (Xv rfl rfl te_27) (congrArg (fun n : Nat => Wr .i64 (n : Int)) (Wx _))) rfl ?_
    refine Xd rfl rfl c2 ?_
    refine Va (rd_gtr rfl rfl) rfl ?_
    refine Va (Vn (congrArg Ws c2) rfl) rfl ?_
    refine Vf ?_
    obtain rfl := Wt hF
    refine Xy ?_
    exact Vp ⟨rfl, rfl, trivial⟩
  ·rintro _ _ _ _ ⟨rfl, hw⟩
   refine ⟨_, _, _, hw, ?_⟩
   refine Xh rfl (fun c3 => ?_) (fun c3 => ?_)
   ·have hF := Yo c3 hF
    refine Vi ?_
    refine Vd ?_
    refine Va (Xz rfl) rfl ?_
    refine Vf ?_
    refine Xb ?_
    obtain rfl := Wt hF
    refine Wg ?_
    exact Vp ⟨rfl, trivial⟩
   ·have hF := Yp c3 hF
    refine Xn ?_
    refine Vi ?_
    refine Vi ?_
    refine Vd ?_
    refine Va (Xa rfl) rfl ?_
    refine Vf ?_
    refine Yh ?_
    obtain ⟨o5, ho5, hF⟩ := Yt hF
    refine Vw (Wb (F_ref39_belts_L1 p0) (fun s4 E' lw lc => Yb E' lw lc [(0, .vs 2 (Wq T_Belt.enc p0)), (3, .int .i64 s4)] low []) (Sum.elim (fun j6 => OnlyE .ret (fun E' lw lc => Yb E' lw lc [(2, .bool false)] low [])) (fun j7 => OnlyE (.exit 0) (fun E' lw lc => Yb E' lw lc [(0, .vs 2 (Wq T_Belt.enc p0))] low []))) ho5 ?_ (by rintro (_|_) _ _ _ ⟨h, _⟩ <;> cases h) ?_) ?_
    ·exact Vp ⟨rfl, rfl, trivial⟩
    ·rintro s4 os4 _ _ _ hF hw
     unfold F_ref39_belts_L1 at hF
     refine Yd hw ?_
     refine Vi ?_
     refine Vi ?_
     refine Vd ?_
     refine Va (Vk rfl) rfl ?_
     refine Va (Xc rfl) rfl ?_
     refine Va (Xk (Xv rfl rfl te_27) (congrArg (fun n : Nat => Wr .i64 (n : Int)) (Wx _))) rfl ?_
     refine Va (Zr rfl rfl) rfl ?_
     refine Vf ?_
     refine Xh rfl (fun c8 => ?_) (fun c8 => ?_)
     ·have hF := Yo c8 hF
      refine Xn ?_
      refine Vi ?_
      refine Yh ?_
      refine Vi ?_
      obtain ⟨o9, ho9, hF⟩ := Yt hF
      refine Vw (Q' := (fun o9 => OnlyE .normal (fun E' lw lc => Yb E' lw lc [(0, .vs 2 (Wq T_Belt.enc p0)), (3, .int .i64 s4), (61, .bool o9)] low [])) o9) ?_ ?_
      ·replace hF := ho9
       refine Vd ?_
       obtain ⟨x10, h11, hF⟩ := Yt hF
       rcases Ww (decide (x10.Onto < (-1))) with c12 | c12
       ·have hF := Yo c12 hF
        refine Va (Xc rfl) rfl ?_
        refine Va (Vk rfl) rfl ?_
        refine Va (Xk (Yl rfl rfl h11 te_27 ts_31) (v' := .vptr [.int .i64 x10.Onto, .int .i64 x10.Warn] 0) rfl) rfl ?_
        refine Va (Yf rfl tf_31_0 ts_3 (by decide)) rfl ?_
        refine Va (Xj rfl ta_3 rfl) rfl ?_
        refine Va (Zr rfl rfl) rfl ?_
        refine Va (Vm rfl) rfl ?_
        refine Vb rfl rfl (Zo c12) rfl ?_
        refine Vb rfl rfl (Zo c12) rfl ?_
        refine Vb rfl rfl (Zo c12) rfl ?_
        refine Vb rfl rfl (Zo c12) rfl ?_
        refine Vb rfl rfl (Zo c12) rfl ?_
        refine Vb rfl rfl (Zo c12) rfl ?_
        refine Vb rfl rfl (Zo c12) rfl ?_
        refine Vb rfl rfl (Zo c12) rfl ?_
        refine Va (Vo (congrArg Ws c12) rfl) rfl ?_
        refine Va (Vm rfl) rfl ?_
        refine Vb rfl rfl (by decide) rfl ?_
        refine Vb rfl rfl (by decide) rfl ?_
        refine Vb rfl rfl (by decide) rfl ?_
        refine Vb rfl rfl (by decide) rfl ?_
        refine Vb rfl rfl (by decide) rfl ?_
        refine Vb rfl rfl (by decide) rfl ?_
        refine Vb rfl rfl (by decide) rfl ?_
        refine Va (Vo rfl rfl) rfl ?_
        refine Va (Vm rfl) rfl ?_
        refine Vb rfl rfl (by decide) rfl ?_
        refine Vb rfl rfl (by decide) rfl ?_
        refine Vb rfl rfl (by decide) rfl ?_
        refine Vb rfl rfl (by decide) rfl ?_
        refine Vb rfl rfl (by decide) rfl ?_
        refine Vb rfl rfl (by decide) rfl ?_
        refine Va (Vo rfl rfl) rfl ?_
        refine Va (Vm rfl) rfl ?_
        refine Vb rfl rfl (by decide) rfl ?_
        refine Vb rfl rfl (by decide) rfl ?_
        refine Vb rfl rfl (by decide) rfl ?_
        refine Vb rfl rfl (by decide) rfl ?_
        refine Vb rfl rfl (by decide) rfl ?_
        refine Vb rfl rfl (by decide) rfl ?_
        refine Va (Vo rfl rfl) rfl ?_
        refine Vf ?_
        obtain rfl := Wt hF
        refine Xy ?_
        exact Vp ⟨rfl, rfl, rfl, trivial⟩
       ·have hF := Yp c12 hF
        obtain ⟨x13, h14, hF⟩ := Yt hF
        rcases Ww (decide (((p0).length : Int) ≤ x13.Onto)) with c15 | c15
        ·have hF := Yo c15 hF
         refine Va (Xc rfl) rfl ?_
         refine Va (Vk rfl) rfl ?_
         refine Va (Xk (Yl rfl rfl h11 te_27 ts_31) (v' := .vptr [.int .i64 x10.Onto, .int .i64 x10.Warn] 0) rfl) rfl ?_
         refine Va (Yf rfl tf_31_0 ts_3 (by decide)) rfl ?_
         refine Va (Xj rfl ta_3 rfl) rfl ?_
         refine Va (Zr rfl rfl) rfl ?_
         refine Va (Vm rfl) rfl ?_
         refine Xd rfl rfl c12 ?_
         refine Va (Xc rfl) rfl ?_
         refine Xd rfl rfl c12 ?_
         refine Va (Vk rfl) rfl ?_
         refine Xd rfl rfl c12 ?_
         refine Va (Xk (Yl rfl rfl h14 te_27 ts_31) (v' := .vptr [.int .i64 x13.Onto, .int .i64 x13.Warn] 0) rfl) rfl ?_
         refine Xd rfl rfl c12 ?_
         refine Va (Yf rfl tf_31_0 ts_3 (by decide)) rfl ?_
         refine Xd rfl rfl c12 ?_
         refine Va (Xj rfl ta_3 rfl) rfl ?_
         refine Xd rfl rfl c12 ?_
         refine Va (Xc rfl) rfl ?_
         refine Xd rfl rfl c12 ?_
         refine Va (Xk (Xv rfl rfl te_27) (congrArg (fun n : Nat => Wr .i64 (n : Int)) (Wx _))) rfl ?_
         refine Xd rfl rfl c12 ?_
         refine Va (rd_geq rfl rfl) rfl ?_
         refine Va (Vn (congrArg Ws c12) rfl) rfl ?_
         refine Va (Vm rfl) rfl ?_
         refine Vb rfl rfl (Zo c15) rfl ?_
         refine Vb rfl rfl (Zo c15) rfl ?_
         refine Vb rfl rfl (Zo c15) rfl ?_
         refine Vb rfl rfl (Zo c15) rfl ?_
         refine Vb rfl rfl (Zo c15) rfl ?_
         refine Vb rfl rfl (Zo c15) rfl ?_
         refine Vb rfl rfl (Zo c15) rfl ?_
         refine Va (Vo (congrArg Ws c15) rfl) rfl ?_
         refine Va (Vm rfl) rfl ?_
         refine Vb rfl rfl (by decide) rfl ?_
         refine Vb rfl rfl (by decide) rfl ?_
         refine Vb rfl rfl (by decide) rfl ?_
         refine Vb rfl rfl (by decide) rfl ?_
         refine Vb rfl rfl (by decide) rfl ?_
         refine Vb rfl rfl (by decide) rfl ?_
         refine Va (Vo rfl rfl) rfl ?_
         refine Va (Vm rfl) rfl ?_
         refine Vb rfl rfl (by decide) rfl ?_
         refine Vb rfl rfl (by decide) rfl ?_
         refine Vb rfl rfl (by decide) rfl ?_
         refine Vb rfl rfl (by decide) rfl ?_
         refine Vb rfl rfl (by decide) rfl ?_
         refine Vb rfl rfl (by decide) rfl ?_
         refine Va (Vo rfl rfl) rfl ?_
         refine Vf ?_
         obtain rfl := Wt hF
         refine Xy ?_
         exact Vp ⟨rfl, rfl, rfl, trivial⟩
        ·have hF := Yp c15 hF
         obtain ⟨x16, h17, hF⟩ := Yt hF
         rcases Ww (decide (x16.Onto = s4)) with c18 | c18
         ·have hF := Yo c18 hF
          refine Va (Xc rfl) rfl ?_
          refine Va (Vk rfl) rfl ?_
          refine Va (Xk (Yl rfl rfl h11 te_27 ts_31) (v' := .vptr [.int .i64 x10.Onto, .int .i64 x10.Warn] 0) rfl) rfl ?_
          refine Va (Yf rfl tf_31_0 ts_3 (by decide)) rfl ?_
          refine Va (Xj rfl ta_3 rfl) rfl ?_
          refine Va (Zr rfl rfl) rfl ?_
          refine Va (Vm rfl) rfl ?_
          refine Xd rfl rfl c12 ?_
          refine Va (Xc rfl) rfl ?_
          refine Xd rfl rfl c12 ?_
          refine Va (Vk rfl) rfl ?_
          refine Xd rfl rfl c12 ?_
          refine Va (Xk (Yl rfl rfl h14 te_27 ts_31) (v' := .vptr [.int .i64 x13.Onto, .int .i64 x13.Warn] 0) rfl) rfl ?_
          refine Xd rfl rfl c12 ?_
          refine Va (Yf rfl tf_31_0 ts_3 (by decide)) rfl ?_
          refine Xd rfl rfl c12 ?_
          refine Va (Xj rfl ta_3 rfl) rfl ?_
          refine Xd rfl rfl c12 ?_
          refine Va (Xc rfl) rfl ?_
          refine Xd rfl rfl c12 ?_
          refine Va (Xk (Xv rfl rfl te_27) (congrArg (fun n : Nat => Wr .i64 (n : Int)) (Wx _))) rfl ?_
          refine Xd rfl rfl c12 ?_
          refine Va (rd_geq rfl rfl) rfl ?_
          refine Va (Vn (congrArg Ws c12) rfl) rfl ?_
          refine Va (Vm rfl) rfl ?_
          refine Xd rfl rfl c15 ?_
          refine Va (Xc rfl) rfl ?_
          refine Xd rfl rfl c15 ?_
          refine Va (Vk rfl) rfl ?_
          refine Xd rfl rfl c15 ?_
          refine Va (Xk (Yl rfl rfl h17 te_27 ts_31) (v' := .vptr [.int .i64 x16.Onto, .int .i64 x16.Warn] 0) rfl) rfl ?_
          refine Xd rfl rfl c15 ?_
          refine Va (Yf rfl tf_31_0 ts_3 (by decide)) rfl ?_
          refine Xd rfl rfl c15 ?_
          refine Va (Xj rfl ta_3 rfl) rfl ?_
          refine Xd rfl rfl c15 ?_
          refine Va (Vk rfl) rfl ?_
          refine Xd rfl rfl c15 ?_
          refine Va (Xl rfl rfl) rfl ?_
          refine Va (Vn (congrArg Ws c15) rfl) rfl ?_
          refine Va (Vm rfl) rfl ?_
          refine Vb rfl rfl (Zo c18) rfl ?_
          refine Vb rfl rfl (Zo c18) rfl ?_
          refine Vb rfl rfl (Zo c18) rfl ?_
          refine Vb rfl rfl (Zo c18) rfl ?_
          refine Vb rfl rfl (Zo c18) rfl ?_
          refine Vb rfl rfl (Zo c18) rfl ?_
          refine Va (Vo (congrArg Ws c18) rfl) rfl ?_
          refine Va (Vm rfl) rfl ?_
          refine Vb rfl rfl (by decide) rfl ?_
          refine Vb rfl rfl (by decide) rfl ?_
          refine Vb rfl rfl (by decide) rfl ?_
          refine Vb rfl rfl (by decide) rfl ?_
          refine Vb rfl rfl (by decide) rfl ?_
          refine Vb rfl rfl (by decide) rfl ?_
          refine Va (Vo rfl rfl) rfl ?_
          refine Vf ?_
          obtain rfl := Wt hF
          refine Xy ?_
          exact Vp ⟨rfl, rfl, rfl, trivial⟩
         ·have hF := Yp c18 hF
          obtain ⟨x19, h20, hF⟩ := Yt hF
          rcases Ww (decide (x19.Warn < 0)) with c21 | c21
          ·have hF := Yo c21 hF
           refine Va (Xc rfl) rfl ?_
           refine Va (Vk rfl) rfl ?_
           refine Va (Xk (Yl rfl rfl h11 te_27 ts_31) (v' := .vptr [.int .i64 x10.Onto, .int .i64 x10.Warn] 0) rfl) rfl ?_
           refine Va (Yf rfl tf_31_0 ts_3 (by decide)) rfl ?_
           refine Va (Xj rfl ta_3 rfl) rfl ?_
           refine Va (Zr rfl rfl) rfl ?_
           refine Va (Vm rfl) rfl ?_
           refine Xd rfl rfl c12 ?_
           refine Va (Xc rfl) rfl ?_
           refine Xd rfl rfl c12 ?_
           refine Va (Vk rfl) rfl ?_
           refine Xd rfl rfl c12 ?_
           refine Va (Xk (Yl rfl rfl h14 te_27 ts_31) (v' := .vptr [.int .i64 x13.Onto, .int .i64 x13.Warn] 0) rfl) rfl ?_
           refine Xd rfl rfl c12 ?_
           refine Va (Yf rfl tf_31_0 ts_3 (by decide)) rfl ?_
           refine Xd rfl rfl c12 ?_
           refine Va (Xj rfl ta_3 rfl) rfl ?_
           refine Xd rfl rfl c12 ?_
           refine Va (Xc rfl) rfl ?_
           refine Xd rfl rfl c12 ?_
           refine Va (Xk (Xv rfl rfl te_27) (congrArg (fun n : Nat => Wr .i64 (n : Int)) (Wx _))) rfl ?_
           refine Xd rfl rfl c12 ?_
           refine Va (rd_geq rfl rfl) rfl ?_
           refine Va (Vn (congrArg Ws c12) rfl) rfl ?_
           refine Va (Vm rfl) rfl ?_
           refine Xd rfl rfl c15 ?_
           refine Va (Xc rfl) rfl ?_
           refine Xd rfl rfl c15 ?_
           refine Va (Vk rfl) rfl ?_
           refine Xd rfl rfl c15 ?_
           refine Va (Xk (Yl rfl rfl h17 te_27 ts_31) (v' := .vptr [.int .i64 x16.Onto, .int .i64 x16.Warn] 0) rfl) rfl ?_
           refine Xd rfl rfl c15 ?_
           refine Va (Yf rfl tf_31_0 ts_3 (by decide)) rfl ?_
           refine Xd rfl rfl c15 ?_
           refine Va (Xj rfl ta_3 rfl) rfl ?_
           refine Xd rfl rfl c15 ?_
           refine Va (Vk rfl) rfl ?_
           refine Xd rfl rfl c15 ?_
           refine Va (Xl rfl rfl) rfl ?_
           refine Va (Vn (congrArg Ws c15) rfl) rfl ?_
           refine Va (Vm rfl) rfl ?_
           refine Xd rfl rfl c18 ?_
           refine Va (Xc rfl) rfl ?_
           refine Xd rfl rfl c18 ?_
           refine Va (Vk rfl) rfl ?_
           refine Xd rfl rfl c18 ?_
           refine Va (Xk (Yl rfl rfl h20 te_27 ts_31) (v' := .vptr [.int .i64 x19.Onto, .int .i64 x19.Warn] 0) rfl) rfl ?_
           refine Xd rfl rfl c18 ?_
           refine Va (Yf rfl tf_31_1 ts_3 (by decide)) rfl ?_
           refine Xd rfl rfl c18 ?_
           refine Va (Xj rfl ta_3 rfl) rfl ?_
           refine Xd rfl rfl c18 ?_
           refine Va (Zr rfl rfl) rfl ?_
           refine Va (Vn (congrArg Ws c18) rfl) rfl ?_
           refine Va (Vm rfl) rfl ?_
           refine Vb rfl rfl (Zo c21) rfl ?_
           refine Vb rfl rfl (Zo c21) rfl ?_
           refine Vb rfl rfl (Zo c21) rfl ?_
           refine Vb rfl rfl (Zo c21) rfl ?_
           refine Vb rfl rfl (Zo c21) rfl ?_
           refine Vb rfl rfl (Zo c21) rfl ?_
           refine Va (Vo (congrArg Ws c21) rfl) rfl ?_
           refine Vf ?_
           obtain rfl := Wt hF
           refine Xy ?_
           exact Vp ⟨rfl, rfl, rfl, trivial⟩
          ·have hF := Yp c21 hF
           obtain ⟨x22, h23, hF⟩ := Yt hF
           refine Va (Xc rfl) rfl ?_
           refine Va (Vk rfl) rfl ?_
           refine Va (Xk (Yl rfl rfl h11 te_27 ts_31) (v' := .vptr [.int .i64 x10.Onto, .int .i64 x10.Warn] 0) rfl) rfl ?_
           refine Va (Yf rfl tf_31_0 ts_3 (by decide)) rfl ?_
           refine Va (Xj rfl ta_3 rfl) rfl ?_
           refine Va (Zr rfl rfl) rfl ?_
           refine Va (Vm rfl) rfl ?_
           refine Xd rfl rfl c12 ?_
           refine Va (Xc rfl) rfl ?_
           refine Xd rfl rfl c12 ?_
           refine Va (Vk rfl) rfl ?_
           refine Xd rfl rfl c12 ?_
           refine Va (Xk (Yl rfl rfl h14 te_27 ts_31) (v' := .vptr [.int .i64 x13.Onto, .int .i64 x13.Warn] 0) rfl) rfl ?_
           refine Xd rfl rfl c12 ?_
           refine Va (Yf rfl tf_31_0 ts_3 (by decide)) rfl ?_
           refine Xd rfl rfl c12 ?_
           refine Va (Xj rfl ta_3 rfl) rfl ?_
           refine Xd rfl rfl c12 ?_
           refine Va (Xc rfl) rfl ?_
           refine Xd rfl rfl c12 ?_
           refine Va (Xk (Xv rfl rfl te_27) (congrArg (fun n : Nat => Wr .i64 (n : Int)) (Wx _))) rfl ?_
           refine Xd rfl rfl c12 ?_
           refine Va (rd_geq rfl rfl) rfl ?_
           refine Va (Vn (congrArg Ws c12) rfl) rfl ?_
           refine Va (Vm rfl) rfl ?_
           refine Xd rfl rfl c15 ?_
           refine Va (Xc rfl) rfl ?_
           refine Xd rfl rfl c15 ?_
           refine Va (Vk rfl) rfl ?_
           refine Xd rfl rfl c15 ?_
           refine Va (Xk (Yl rfl rfl h17 te_27 ts_31) (v' := .vptr [.int .i64 x16.Onto, .int .i64 x16.Warn] 0) rfl) rfl ?_
           refine Xd rfl rfl c15 ?_
           refine Va (Yf rfl tf_31_0 ts_3 (by decide)) rfl ?_
           refine Xd rfl rfl c15 ?_
           refine Va (Xj rfl ta_3 rfl) rfl ?_
           refine Xd rfl rfl c15 ?_
           refine Va (Vk rfl) rfl ?_
           refine Xd rfl rfl c15 ?_
           refine Va (Xl rfl rfl) rfl ?_
           refine Va (Vn (congrArg Ws c15) rfl) rfl ?_
           refine Va (Vm rfl) rfl ?_
           refine Xd rfl rfl c18 ?_
           refine Va (Xc rfl) rfl ?_
           refine Xd rfl rfl c18 ?_
           refine Va (Vk rfl) rfl ?_
           refine Xd rfl rfl c18 ?_
           refine Va (Xk (Yl rfl rfl h20 te_27 ts_31) (v' := .vptr [.int .i64 x19.Onto, .int .i64 x19.Warn] 0) rfl) rfl ?_
           refine Xd rfl rfl c18 ?_
           refine Va (Yf rfl tf_31_1 ts_3 (by decide)) rfl ?_
           refine Xd rfl rfl c18 ?_
           refine Va (Xj rfl ta_3 rfl) rfl ?_
           refine Xd rfl rfl c18 ?_
           refine Va (Zr rfl rfl) rfl ?_
           refine Va (Vn (congrArg Ws c18) rfl) rfl ?_
           refine Va (Vm rfl) rfl ?_
           refine Xd rfl rfl c21 ?_
           refine Va (Xc rfl) rfl ?_
           refine Xd rfl rfl c21 ?_
           refine Va (Vk rfl) rfl ?_
           refine Xd rfl rfl c21 ?_
           refine Va (Xk (Yl rfl rfl h23 te_27 ts_31) (v' := .vptr [.int .i64 x22.Onto, .int .i64 x22.Warn] 0) rfl) rfl ?_
           refine Xd rfl rfl c21 ?_
           refine Va (Yf rfl tf_31_1 ts_3 (by decide)) rfl ?_
           refine Xd rfl rfl c21 ?_
           refine Va (Xj rfl ta_3 rfl) rfl ?_
           refine Xd rfl rfl c21 ?_
           refine Va (rd_gtr rfl rfl) rfl ?_
           refine Va (Vn (congrArg Ws c21) rfl) rfl ?_
           refine Vf ?_
           obtain rfl := Wt hF
           refine Xy ?_
           exact Vp ⟨rfl, rfl, rfl, trivial⟩
      ·rintro _ _ _ _ ⟨rfl, hw⟩
       refine ⟨_, _, _, hw, ?_⟩
       refine Xh rfl (fun c24 => ?_) (fun c24 => ?_)
       ·have hF := Yo c24 hF
        refine Vi ?_
        refine Vd ?_
        refine Va (Xz rfl) rfl ?_
        refine Vf ?_
        refine Xb ?_
        obtain rfl := Wt hF
        refine Xy ?_
        exact Vp ⟨rfl, trivial⟩
       ·have hF := Yp c24 hF
        refine Xn ?_
        refine Vd ?_
        refine Va (Vk rfl) rfl ?_
        refine Va (Wk rfl rfl rfl) rfl ?_
        refine Va (Xa rfl) rfl ?_
        refine Vf ?_
        obtain rfl := Wt hF
        refine Xy ?_
        exact Vp ⟨rfl, rfl, trivial⟩
     ·have hF := Yp c8 hF
      refine Wi ?_
      obtain rfl := Wt hF
      refine Xy ?_
      exact Vp ⟨rfl, trivial⟩
    ·rcases o5 with j6 | j7
     ·replace hF := elimL hF
      rintro _ _ _ _ ⟨rfl, hw⟩
      refine ⟨_, _, _, hw, ?_⟩
      obtain rfl := Wt hF
      refine Wg ?_
      exact Vp ⟨rfl, trivial⟩
     ·replace hF := elimR hF
      rintro _ _ _ _ ⟨rfl, hw⟩
      refine ⟨_, _, _, hw, ?_⟩
      refine Vi ?_
      refine Vi ?_
      refine Vd ?_
      refine Va (Xa rfl) rfl ?_
      refine Vf ?_
      refine Yh ?_
      obtain ⟨o26, ho26, hF⟩ := Yt hF
      refine Vw (Wb (F_ref39_belts_L2 p0) (fun s25 E' lw lc => Yb E' lw lc [(0, .vs 2 (Wq T_Belt.enc p0)), (4, .int .i64 s25)] low []) (Sum.elim (fun j27 => OnlyE .ret (fun E' lw lc => Yb E' lw lc [(2, .bool false)] low [])) (fun j28 => OnlyE (.exit 2) (fun E' lw lc => Yb E' lw lc [] low []))) ho26 ?_ (by rintro (_|_) _ _ _ ⟨h, _⟩ <;> cases h) ?_) ?_
      ·exact Vp ⟨rfl, rfl, trivial⟩
      ·rintro s25 os25 _ _ _ hF hw
       unfold F_ref39_belts_L2 at hF
       refine Yd hw ?_
       refine Vi ?_
       refine Vi ?_
       refine Vd ?_
       refine Va (Vk rfl) rfl ?_
       refine Va (Xc rfl) rfl ?_
       refine Va (Xk (Xv rfl rfl te_27) (congrArg (fun n : Nat => Wr .i64 (n : Int)) (Wx _))) rfl ?_
       refine Va (Zr rfl rfl) rfl ?_
       refine Vf ?_
       refine Xh rfl (fun c29 => ?_) (fun c29 => ?_)
       ·have hF := Yo c29 hF
        refine Xn ?_
        refine Vi ?_
        refine Yh ?_
        refine Vi ?_
        refine Vd ?_
        obtain ⟨x30, h31, hF⟩ := Yt hF
        refine Va (Xc rfl) rfl ?_
        refine Va (Vk rfl) rfl ?_
        refine Va (Xk (Yl rfl rfl h31 te_27 ts_31) (v' := .vptr [.int .i64 x30.Onto, .int .i64 x30.Warn] 0) rfl) rfl ?_
        refine Va (Yf rfl tf_31_0 ts_3 (by decide)) rfl ?_
        refine Va (Xj rfl ta_3 rfl) rfl ?_
        refine Va (Xa rfl) rfl ?_
        refine Vf ?_
        refine Vi ?_
        refine Vd ?_
        refine Va (Xa rfl) rfl ?_
        refine Vf ?_
        refine Yh ?_
        obtain ⟨o33, ho33, hF⟩ := Yt hF
        refine Vw (Wb (F_ref39_belts_L3 p0) (fun s32 E' lw lc => Yb E' lw lc [(0, .vs 2 (Wq T_Belt.enc p0)), (4, .int .i64 s25), (5, .int .i64 s32.1), (6, .int .i64 s32.2)] low []) (Sum.elim (fun j34 => OnlyE .ret (fun E' lw lc => Yb E' lw lc [(2, .bool false)] low [])) (fun j35 => OnlyE (.exit 4) (fun E' lw lc => Yb E' lw lc [(0, .vs 2 (Wq T_Belt.enc p0)), (4, .int .i64 s25)] low []))) ho33 ?_ (by rintro (_|_) _ _ _ ⟨h, _⟩ <;> cases h) ?_) ?_
        ·exact Vp ⟨rfl, rfl, rfl, rfl, trivial⟩
        ·rintro s32 os32 _ _ _ hF hw
         unfold F_ref39_belts_L3 at hF
         refine Yd hw ?_
         refine Vi ?_
         refine Vi ?_
         refine Vd ?_
         refine Va (Vk rfl) rfl ?_
         refine Va (rd_geq rfl rfl) rfl ?_
         refine Vf ?_
         refine Xh rfl (fun c36 => ?_) (fun c36 => ?_)
         ·have hF := Yo c36 hF
          refine Xn ?_
          refine Vi ?_
          refine Yh ?_
          refine Vi ?_
          refine Vi ?_
          refine Vd ?_
          refine Va (Vk rfl) rfl ?_
          refine Va (Xc rfl) rfl ?_
          refine Va (Xk (Xv rfl rfl te_27) (congrArg (fun n : Nat => Wr .i64 (n : Int)) (Wx _))) rfl ?_
          refine Va (rd_gtr rfl rfl) rfl ?_
          refine Vf ?_
          refine Xh rfl (fun c37 => ?_) (fun c37 => ?_)
          ·have hF := Yo c37 hF
           refine Vi ?_
           refine Vd ?_
           refine Va (Xz rfl) rfl ?_
           refine Vf ?_
           refine Xb ?_
           obtain rfl := Wt hF
           refine Xy ?_
           exact Vp ⟨rfl, trivial⟩
          ·have hF := Yp c37 hF
           refine Xn ?_
           refine Vd ?_
           obtain ⟨x38, h39, hF⟩ := Yt hF
           refine Va (Xc rfl) rfl ?_
           refine Va (Vk rfl) rfl ?_
           refine Va (Xk (Yl rfl rfl h39 te_27 ts_31) (v' := .vptr [.int .i64 x38.Onto, .int .i64 x38.Warn] 0) rfl) rfl ?_
           refine Va (Yf rfl tf_31_0 ts_3 (by decide)) rfl ?_
           refine Va (Xj rfl ta_3 rfl) rfl ?_
           refine Va (Xa rfl) rfl ?_
           refine Vf ?_
           refine Vd ?_
           refine Va (Vk rfl) rfl ?_
           refine Va (Wk rfl rfl rfl) rfl ?_
           refine Va (Xa rfl) rfl ?_
           refine Vf ?_
           obtain rfl := Wt hF
           refine Xy ?_
           exact Vp ⟨rfl, rfl, rfl, rfl, trivial⟩
         ·have hF := Yp c36 hF
          refine Wi ?_
          obtain rfl := Wt hF
          refine Xy ?_
          exact Vp ⟨rfl, rfl, trivial⟩
        ·rcases o33 with j34 | j35
         ·replace hF := elimL hF
          rintro _ _ _ _ ⟨rfl, hw⟩
          refine ⟨_, _, _, hw, ?_⟩
          obtain rfl := Wt hF
          refine Xy ?_
          exact Vp ⟨rfl, trivial⟩
         ·replace hF := elimR hF
          rintro _ _ _ _ ⟨rfl, hw⟩
          refine ⟨_, _, _, hw, ?_⟩
          refine Vd ?_
          refine Va (Vk rfl) rfl ?_
          refine Va (Wk rfl rfl rfl) rfl ?_
          refine Va (Xa rfl) rfl ?_
          refine Vf ?_
          obtain rfl := Wt hF
          refine Xy ?_
          exact Vp ⟨rfl, rfl, trivial⟩
       ·have hF := Yp c29 hF
        refine Wi ?_
        obtain rfl := Wt hF
        refine Xy ?_
        exact Vp trivial
      ·rcases o26 with j27 | j28
       ·replace hF := elimL hF
        rintro _ _ _ _ ⟨rfl, hw⟩
        refine ⟨_, _, _, hw, ?_⟩
        obtain rfl := Wt hF
        refine Wg ?_
        exact Vp ⟨rfl, trivial⟩
       ·replace hF := elimR hF
        rintro _ _ _ _ ⟨rfl, hw⟩
        refine ⟨_, _, _, hw, ?_⟩
        refine Vi ?_
        refine Vd ?_
        refine Va (Xz rfl) rfl ?_
        refine Vf ?_
        refine Xb ?_
        obtain rfl := Wt hF
        refine Wg ?_
        exact Vp ⟨rfl, trivial⟩
 ·rintro _ _ _ _ ⟨he, hw⟩
  refine ⟨_, _, _, hw, ?_⟩
  exact Zd he [.bool r] ⟨rfl, trivial⟩ (.bool _) ⟨rfl, rfl⟩

end Go.Proofs.Ytmomjhbinkmefaa
