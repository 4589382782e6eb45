/- ValSums: reckoned. -/
import Derived.Test.YtebflncfgjnkkaaP1
namespace Go.Proofs.Ytebflncfgjnkkaa.M
set_option linter.unusedSimpArgs false
set_option linter.unusedVariables false
open Go Classical
theorem sp4 : SP 4 = some (.code sc4) := SPof_code rfl Try.func4 comp4
theorem wrap64 {x : Int} (h1 : -9223372036854775808 ≤ x) (h2 : x ≤ 9223372036854775807) : IntKind.i64.wrap x = x := by
  simp only [IntKind.wrap, IntKind.min, IntKind.max, IntKind.signed, IntKind.bits]
  simp
  omega
theorem mul_bound {a b : Int} (ha : -2147483648 ≤ a) (ha' : a ≤ 2147483647) (hb : -2147483648 ≤ b) (hb' : b ≤ 2147483647) : -4611686018427387904 ≤ a * b ∧ a * b ≤ 4611686018427387904 := by
  have h : (a * b).natAbs ≤ 2147483648 * 2147483648 := by
    rw [Int.natAbs_mul]
    exact Nat.mul_le_mul (by omega) (by omega)
  omega
theorem tdiv_bound {a b : Int} (ha : -2147483648 ≤ a) (ha' : a ≤ 2147483647) : -2147483648 ≤ a.tdiv b ∧ a.tdiv b ≤ 2147483648 := by
  have h := Int.natAbs_tdiv_le_natAbs a b
  omega
theorem r19 {a b : Int} (ha : -2147483648 ≤ a) (ha' : a ≤ 2147483647) (hb : -2147483648 ≤ b) (hb' : b ≤ 2147483647) : reckonS 19 a b = (a + b, 0) := by
  unfold reckonS
  rw [if_pos rfl, wrap64 (by omega) (by omega), if_pos]
  rw [decide_eq_decide]
  omega
theorem r20 {a b : Int} (ha : -2147483648 ≤ a) (ha' : a ≤ 2147483647) (hb : -2147483648 ≤ b) (hb' : b ≤ 2147483647) : reckonS 20 a b = (a - b, 0) := by
  unfold reckonS
  rw [if_neg (by decide), if_pos rfl, wrap64 (by omega) (by omega), if_pos]
  rw [decide_eq_decide]
  omega
theorem r21 {a b : Int} (ha : -2147483648 ≤ a) (ha' : a ≤ 2147483647) (hb : -2147483648 ≤ b) (hb' : b ≤ 2147483647) : reckonS 21 a b = (a * b, 0) := by
  have hm := mul_bound ha ha' hb hb'
  unfold reckonS
  have wp : IntKind.i64.wrap (a * b) = a * b := wrap64 (by omega) (by omega)
  rw [if_neg (by decide), if_neg (by decide), if_pos rfl, wp, if_pos]
  by_cases h0 : a = 0
  · exact .inl h0
  · refine .inr ⟨?_, by omega⟩
    rw [Int.mul_tdiv_cancel_left b h0]
    exact wrap64 (by omega) (by omega)
theorem r22 {a b : Int} (ha : -2147483648 ≤ a) (ha' : a ≤ 2147483647) (h0 : b ≠ 0) : reckonS 22 a b = (a.tdiv b, 0) := by
  have hd := tdiv_bound (b := b) ha ha'
  unfold reckonS
  rw [if_neg (by decide), if_neg (by decide), if_neg (by decide), if_neg h0, if_neg (by decide), if_neg (by omega), wrap64 (by omega) (by omega)]
theorem r23 {a b : Int} (h0 : b ≠ 0) : reckonS 23 a b = (a.tmod b, 0) := by
  unfold reckonS
  rw [if_neg (by decide), if_neg (by decide), if_neg (by decide), if_neg h0, if_pos rfl]
theorem r220 {a : Int} : reckonS 22 a 0 = (0, 9) := by simp [reckonS]
theorem r230 {a : Int} : reckonS 23 a 0 = (0, 9) := by simp [reckonS]
theorem far19 : ∀ n : Nat, n < 256 → reckonS 19 9223372036854775807 (1 + (n : Int)) = (0, 8) := by decide +kernel
theorem far20 : ∀ n : Nat, n < 256 → reckonS 20 (-9223372036854775808) (1 + (n : Int)) = (0, 8) := by decide +kernel
theorem far21 : ∀ n : Nat, n < 256 → reckonS 21 9223372036854775807 (2 + (n : Int)) = (0, 8) := by decide +kernel
theorem low22 : reckonS 22 (-9223372036854775808) (-1) = (0, 8) := by decide +kernel
theorem low21 : reckonS 21 (-1) (-9223372036854775808) = (0, 8) := by decide +kernel
theorem Two_of {k a b n e : Int} (h : reckonS k a b = (n, e)) (h1 : 19 ≤ k) (h2 : k ≤ 23) (S : Sto) : call SP 9 [.int .i64 k, .agg [.int .i64 1, .int .i64 a, .str [], .list 4 [] false], .agg [.int .i64 1, .int .i64 b, .str [], .list 4 [] false]] S = .ok (.v (.tup [if e = 0 then .agg [.int .i64 1, .int .i64 n, .str [], .list 4 [] false] else .agg [.int .i64 0, .int .i64 0, .str [], .list 4 [] false], .int .i64 e])) S := by
  have := Two_num k a b h1 h2 S
  rw [h] at this
  exact this
theorem One_low (S : Sto) : call SP 11 [.int .i64 9, .agg [.int .i64 1, .int .i64 (-9223372036854775808), .str [], .list 4 [] false]] S = .ok (.v (.tup [.agg [.int .i64 0, .int .i64 0, .str [], .list 4 [] false], .int .i64 8])) S := One_num (-9223372036854775808) S
set_option maxRecDepth 4000 in
set_option maxHeartbeats 4000000 in
theorem ValSums_ok (a b : Int) (n : Nat) (ha : -2147483648 ≤ a) (ha' : a ≤ 2147483647) (hb : -2147483648 ≤ b) (hb' : b ≤ 2147483647) (hn : n < 256) (S : Sto) : call SP 4 [.int .i32 a, .int .i32 b, .int .u8 n] S = .ok (.v (.bool true)) S := by
  have wa : IntKind.i64.wrap a = a := wrap64 (by omega) (by omega)
  have wb : IntKind.i64.wrap b = b := wrap64 (by omega) (by omega)
  have wn : IntKind.i64.wrap (n : Int) = n := wrap64 (by omega) (by omega)
  have wn1 : IntKind.i64.wrap (1 + (n : Int)) = 1 + n := wrap64 (by omega) (by omega)
  have wn2 : IntKind.i64.wrap (2 + (n : Int)) = 2 + n := wrap64 (by omega) (by omega)
  have hm := mul_bound ha ha' hb hb'
  have hd := tdiv_bound (b := b) ha ha'
  have ws : IntKind.i64.wrap (a + b) = a + b := wrap64 (by omega) (by omega)
  have wd : IntKind.i64.wrap (a - b) = a - b := wrap64 (by omega) (by omega)
  have wp : IntKind.i64.wrap (a * b) = a * b := wrap64 (by omega) (by omega)
  have wq : IntKind.i64.wrap (a.tdiv b) = a.tdiv b := wrap64 (by omega) (by omega)
  have t19 := Two_of (r19 ha ha' hb hb') (by decide) (by decide)
  have t20 := Two_of (r20 ha ha' hb hb') (by decide) (by decide)
  have t21 := Two_of (r21 ha ha' hb hb') (by decide) (by decide)
  have f19 := Two_of (far19 n hn) (by decide) (by decide)
  have f20 := Two_of (far20 n hn) (by decide) (by decide)
  have f21 := Two_of (far21 n hn) (by decide) (by decide)
  have l22 := Two_of low22 (by decide) (by decide)
  have l21 := Two_of low21 (by decide) (by decide)
  rw [call_code sp4 _ _ rfl]
  by_cases h0 : b = 0
  · subst h0
    have t22 := Two_of (r220 (a := a)) (by decide) (by decide)
    have t23 := Two_of (r230 (a := a)) (by decide) (by decide)
    clear ha ha' hb hb' hn hm hd
    simp only [sc4, ac0, t19, t20, t21, t22, t23, f19, f20, f21, l22, l21, One_low, wa, wb, wn, wn1, wn2, ws, wd, wp, wq, num_ok, Num_ok, awake_ok, List.map_cons, List.map_nil, PV.up, PV.upL, E_seq, E_reg, E_block, E_cnd, E_skip, E_exit, E_ret, E_dreg, thC_nor, thC_ret, thC_ext, thC_pan, inBlk_ext, inBlk_nor, inBlk_ret, inBlk_pan, evOps_cons, evOps_nil, thOps_ok, thOps_pan, evD_cons, evD_nil, thD_tot, thD_same, List.tail_cons, stp_none, stp_some, gd_tt, gd_ff, gd_tf, gd_ft, gd_undef, gd_td, gd_fd, ex_v, vo_some, ex, vop, ev_t, ev_c, put_some, put_none, upd_same, upd_ne, updK_same, updK_ne, ne_eq, argE_at, List.getElem?_cons_zero, List.getElem?_cons_succ, Option.getD_some, PV.cells, List.all_cons, List.all_nil, PV.one, Bool.and_true, Bool.true_and, if_true, and_self, true_and, and_true, killS, kill_box, kill_arr, e_box, e_arr, AK.tmp, PV.killL, PV.kill, killE_at, newBox, initC, initA, ld, getBox, setBox, getArr, setArr, pickC, Option.map_some, Option.map_none, PV.upN, binP, binInt, binStr, binB, unP, cnd_true, cnd_false, cnd_dec, cnd_not, Nat.reduceEqDiff, not_false_eq_true, not_true_eq_false, reduceIte, reduceCtorEq, Nat.reduceAdd, Nat.zero_add, Nat.add_zero, Nat.reduceLeDiff, Nat.reduceSub, Nat.reduceMul, fin_ret, fin_nor, List.length_cons, List.length_nil, List.drop_succ_cons, List.drop_zero, List.take_succ_cons, List.take_zero, fillP, setAt, List.set_cons_zero, List.set_cons_succ, storeP, stCells, stCell, PV.dnN, PV.dn, PV.dnL, retOf, rdRes, retL, ret1, retV, hand, hand1, handL, handA, List.tail_cons, callP, List.append_nil, List.nil_append, List.any_cons, List.any_nil, PV.hasSl, PV.isSl, Bool.or_false, Bool.false_or, Bool.false_eq_true, if_false, slcP, slcGo, fullOf, idx, iaddrP, lenP, lenS, appendP, newArr, view, srcRows, bigRow, okA, eqCells, convP, slsP, gd_tb, gd_fb, List.cons_append, Option.getD_none, List.getElem?_nil, AK.slot.injEq, AK.cell.injEq, decide_true, decide_false, Bool.not_true, Bool.not_false, Option.isNone_none, Option.isSome_none, Option.isSome_some, Option.isNone_some, prep, Ac.kill, PV.int.injEq, beq_self_eq_true, decide_eq_true_eq, Bool.not_eq_true, decide_eq_false_iff_not, true_or, or_true, false_or, or_false, false_and, and_false, Bool.not_not, Classical.not_not, Bool.false_and, Bool.and_false, Bool.and_self, ite_self, PV.pure, PV.plain, PV.plainL, Ret.plain, allPure, List.isEmpty_nil, List.isEmpty_cons, Bool.or_true, Bool.true_or, Int.reduceEq, Int.reduceNe, Int.reduceLT, Int.reduceLE, Int.reduceAdd, Int.reduceSub, Int.reduceMul, Int.reduceNeg, Nat.reduceLT, Nat.reduceDiv]
  · have t22 := Two_of (r22 (b := b) ha ha' h0) (by decide) (by decide)
    have t23 := Two_of (r23 (a := a) h0) (by decide) (by decide)
    clear ha ha' hb hb' hn hm hd
    simp only [sc4, ac0, h0, t19, t20, t21, t22, t23, f19, f20, f21, l22, l21, One_low, wa, wb, wn, wn1, wn2, ws, wd, wp, wq, num_ok, Num_ok, awake_ok, List.map_cons, List.map_nil, PV.up, PV.upL, E_seq, E_reg, E_block, E_cnd, E_skip, E_exit, E_ret, E_dreg, thC_nor, thC_ret, thC_ext, thC_pan, inBlk_ext, inBlk_nor, inBlk_ret, inBlk_pan, evOps_cons, evOps_nil, thOps_ok, thOps_pan, evD_cons, evD_nil, thD_tot, thD_same, List.tail_cons, stp_none, stp_some, gd_tt, gd_ff, gd_tf, gd_ft, gd_undef, gd_td, gd_fd, ex_v, vo_some, ex, vop, ev_t, ev_c, put_some, put_none, upd_same, upd_ne, updK_same, updK_ne, ne_eq, argE_at, List.getElem?_cons_zero, List.getElem?_cons_succ, Option.getD_some, PV.cells, List.all_cons, List.all_nil, PV.one, Bool.and_true, Bool.true_and, if_true, and_self, true_and, and_true, killS, kill_box, kill_arr, e_box, e_arr, AK.tmp, PV.killL, PV.kill, killE_at, newBox, initC, initA, ld, getBox, setBox, getArr, setArr, pickC, Option.map_some, Option.map_none, PV.upN, binP, binInt, binStr, binB, unP, cnd_true, cnd_false, cnd_dec, cnd_not, Nat.reduceEqDiff, not_false_eq_true, not_true_eq_false, reduceIte, reduceCtorEq, Nat.reduceAdd, Nat.zero_add, Nat.add_zero, Nat.reduceLeDiff, Nat.reduceSub, Nat.reduceMul, fin_ret, fin_nor, List.length_cons, List.length_nil, List.drop_succ_cons, List.drop_zero, List.take_succ_cons, List.take_zero, fillP, setAt, List.set_cons_zero, List.set_cons_succ, storeP, stCells, stCell, PV.dnN, PV.dn, PV.dnL, retOf, rdRes, retL, ret1, retV, hand, hand1, handL, handA, List.tail_cons, callP, List.append_nil, List.nil_append, List.any_cons, List.any_nil, PV.hasSl, PV.isSl, Bool.or_false, Bool.false_or, Bool.false_eq_true, if_false, slcP, slcGo, fullOf, idx, iaddrP, lenP, lenS, appendP, newArr, view, srcRows, bigRow, okA, eqCells, convP, slsP, gd_tb, gd_fb, List.cons_append, Option.getD_none, List.getElem?_nil, AK.slot.injEq, AK.cell.injEq, decide_true, decide_false, Bool.not_true, Bool.not_false, Option.isNone_none, Option.isSome_none, Option.isSome_some, Option.isNone_some, prep, Ac.kill, PV.int.injEq, beq_self_eq_true, decide_eq_true_eq, Bool.not_eq_true, decide_eq_false_iff_not, true_or, or_true, false_or, or_false, false_and, and_false, Bool.not_not, Classical.not_not, Bool.false_and, Bool.and_false, Bool.and_self, ite_self, PV.pure, PV.plain, PV.plainL, Ret.plain, allPure, List.isEmpty_nil, List.isEmpty_cons, Bool.or_true, Bool.true_or, Int.reduceEq, Int.reduceNe, Int.reduceLT, Int.reduceLE, Int.reduceAdd, Int.reduceSub, Int.reduceMul, Int.reduceNeg, Nat.reduceLT, Nat.reduceDiv]
end Go.Proofs.Ytebflncfgjnkkaa.M
