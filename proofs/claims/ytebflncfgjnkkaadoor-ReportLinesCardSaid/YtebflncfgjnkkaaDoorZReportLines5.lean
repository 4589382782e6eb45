/- Parts of a proof, one behind another: Lt4, Wm1, Wm2, Wm25, Wm4, ScReportLines, LtReportLines. -/
import Derived.Test.YtebflncfgjnkkaaDoorZReportLines4
import Derived.Test.YtebflncfgjnkkaaDoorProg
import Derived.KernelRfl
/- Trees of functions, printed by a program of this session (lift.py): what a run asks, over plain data. Lean proves each. -/
namespace Go.Proofs.YtebflncfgjnkkaaDoor.M
set_option linter.unusedSimpArgs false
set_option linter.unusedVariables false
open Go Classical
theorem sp_law15_Step : SP 57 = some (.code sc_law15_Step) := SPof_code rfl Tryd.func57 comp_law15_Step
/-! doorkeeper/doorkeeperlaw15.Step -/
set_option maxHeartbeats 4000000 in
theorem law15_Step_tree (a : UInt8) (b : UInt8) (c : UInt8) (r : PStep) (T :
  (I64 (((a.toNat : Nat) : Int))) ∧
 (I64 (1 + (((a.toNat : Nat) : Int).tmod 4))) ∧
 (U8 (97 + (((b.toNat : Nat) : Int).tmod 25))) ∧
 (((1 + (((a.toNat : Nat) : Int).tmod 4)) = 1) →
  (U8 (97 + (((c.toNat : Nat) : Int).tmod 25))) ∧
  (((((c.toNat : Nat) : Int).tmod 5) = 0) →
   (((1 + (((a.toNat : Nat) : Int).tmod 4)) ≤ 2) →
    (I64 (((a.toNat : Nat) : Int))) ∧
    (I64 (((a.toNat : Nat) : Int).tdiv 4)) ∧
    (I64 ((((a.toNat : Nat) : Int).tdiv 4) * 3)) ∧
    (PStep.mk (1 + (((a.toNat : Nat) : Int).tmod 4)) [(UInt8.ofNat ((97 + (((b.toNat : Nat) : Int).tmod 25))).toNat)] [] (Vec.mk ((((a.toNat : Nat) : Int).tdiv 4) * 3) ((((a.toNat : Nat) : Int).tdiv 4) * 3) ((((a.toNat : Nat) : Int).tdiv 4) * 3))) = r) ∧
   (¬ ((1 + (((a.toNat : Nat) : Int).tmod 4)) ≤ 2) →
    (PStep.mk (1 + (((a.toNat : Nat) : Int).tmod 4)) [(UInt8.ofNat ((97 + (((b.toNat : Nat) : Int).tmod 25))).toNat)] [] (Vec.mk 0 0 0)) = r)) ∧
  (¬ ((((c.toNat : Nat) : Int).tmod 5) = 0) →
   (((1 + (((a.toNat : Nat) : Int).tmod 4)) ≤ 2) →
    (I64 (((a.toNat : Nat) : Int))) ∧
    (I64 (((a.toNat : Nat) : Int).tdiv 4)) ∧
    (I64 ((((a.toNat : Nat) : Int).tdiv 4) * 3)) ∧
    (PStep.mk (1 + (((a.toNat : Nat) : Int).tmod 4)) [(UInt8.ofNat ((97 + (((b.toNat : Nat) : Int).tmod 25))).toNat)] [(UInt8.ofNat ((97 + (((c.toNat : Nat) : Int).tmod 25))).toNat)] (Vec.mk ((((a.toNat : Nat) : Int).tdiv 4) * 3) ((((a.toNat : Nat) : Int).tdiv 4) * 3) ((((a.toNat : Nat) : Int).tdiv 4) * 3))) = r) ∧
   (¬ ((1 + (((a.toNat : Nat) : Int).tmod 4)) ≤ 2) →
    (PStep.mk (1 + (((a.toNat : Nat) : Int).tmod 4)) [(UInt8.ofNat ((97 + (((b.toNat : Nat) : Int).tmod 25))).toNat)] [(UInt8.ofNat ((97 + (((c.toNat : Nat) : Int).tmod 25))).toNat)] (Vec.mk 0 0 0)) = r))) ∧
 (¬ ((1 + (((a.toNat : Nat) : Int).tmod 4)) = 1) →
  (((1 + (((a.toNat : Nat) : Int).tmod 4)) = 3) →
   (U8 (97 + (((c.toNat : Nat) : Int).tmod 25))) ∧
   (((((c.toNat : Nat) : Int).tmod 5) = 0) →
    (((1 + (((a.toNat : Nat) : Int).tmod 4)) ≤ 2) →
     (I64 (((a.toNat : Nat) : Int))) ∧
     (I64 (((a.toNat : Nat) : Int).tdiv 4)) ∧
     (I64 ((((a.toNat : Nat) : Int).tdiv 4) * 3)) ∧
     (PStep.mk (1 + (((a.toNat : Nat) : Int).tmod 4)) [(UInt8.ofNat ((97 + (((b.toNat : Nat) : Int).tmod 25))).toNat)] [] (Vec.mk ((((a.toNat : Nat) : Int).tdiv 4) * 3) ((((a.toNat : Nat) : Int).tdiv 4) * 3) ((((a.toNat : Nat) : Int).tdiv 4) * 3))) = r) ∧
    (¬ ((1 + (((a.toNat : Nat) : Int).tmod 4)) ≤ 2) →
     (PStep.mk (1 + (((a.toNat : Nat) : Int).tmod 4)) [(UInt8.ofNat ((97 + (((b.toNat : Nat) : Int).tmod 25))).toNat)] [] (Vec.mk 0 0 0)) = r)) ∧
   (¬ ((((c.toNat : Nat) : Int).tmod 5) = 0) →
    (((1 + (((a.toNat : Nat) : Int).tmod 4)) ≤ 2) →
     (I64 (((a.toNat : Nat) : Int))) ∧
     (I64 (((a.toNat : Nat) : Int).tdiv 4)) ∧
     (I64 ((((a.toNat : Nat) : Int).tdiv 4) * 3)) ∧
     (PStep.mk (1 + (((a.toNat : Nat) : Int).tmod 4)) [(UInt8.ofNat ((97 + (((b.toNat : Nat) : Int).tmod 25))).toNat)] [(UInt8.ofNat ((97 + (((c.toNat : Nat) : Int).tmod 25))).toNat)] (Vec.mk ((((a.toNat : Nat) : Int).tdiv 4) * 3) ((((a.toNat : Nat) : Int).tdiv 4) * 3) ((((a.toNat : Nat) : Int).tdiv 4) * 3))) = r) ∧
    (¬ ((1 + (((a.toNat : Nat) : Int).tmod 4)) ≤ 2) →
     (PStep.mk (1 + (((a.toNat : Nat) : Int).tmod 4)) [(UInt8.ofNat ((97 + (((b.toNat : Nat) : Int).tmod 25))).toNat)] [(UInt8.ofNat ((97 + (((c.toNat : Nat) : Int).tmod 25))).toNat)] (Vec.mk 0 0 0)) = r))) ∧
  (¬ ((1 + (((a.toNat : Nat) : Int).tmod 4)) = 3) →
   (((1 + (((a.toNat : Nat) : Int).tmod 4)) ≤ 2) →
    (I64 (((a.toNat : Nat) : Int))) ∧
    (I64 (((a.toNat : Nat) : Int).tdiv 4)) ∧
    (I64 ((((a.toNat : Nat) : Int).tdiv 4) * 3)) ∧
    (PStep.mk (1 + (((a.toNat : Nat) : Int).tmod 4)) [(UInt8.ofNat ((97 + (((b.toNat : Nat) : Int).tmod 25))).toNat)] [] (Vec.mk ((((a.toNat : Nat) : Int).tdiv 4) * 3) ((((a.toNat : Nat) : Int).tdiv 4) * 3) ((((a.toNat : Nat) : Int).tdiv 4) * 3))) = r) ∧
   (¬ ((1 + (((a.toNat : Nat) : Int).tmod 4)) ≤ 2) →
    (PStep.mk (1 + (((a.toNat : Nat) : Int).tmod 4)) [(UInt8.ofNat ((97 + (((b.toNat : Nat) : Int).tmod 25))).toNat)] [] (Vec.mk 0 0 0)) = r)))) : R_law15_Step a b c r := by
 intro S
 rw [call_code sp_law15_Step _ _ rfl]
 obtain ⟨p1, p2, p3, T⟩ := T
 by_cases c4 : (1 + (((a.toNat : Nat) : Int).tmod 4)) = 1
 · replace T := T.1 c4
   obtain ⟨p5, T⟩ := T
   by_cases c6 : (((c.toNat : Nat) : Int).tmod 5) = 0
   · replace T := T.1 c6
     by_cases c7 : (1 + (((a.toNat : Nat) : Int).tmod 4)) ≤ 2
     · replace T := T.1 c7
       obtain ⟨p8, p9, p10, rfl⟩ := T
       simp only [p1.wrap, p2.wrap, p3.wrap, eq_true c4, p5.wrap, eq_true c6, eq_true c7, p8.wrap, p9.wrap, p10.wrap, U_law15_Step, lw, le, Nat.zero_le, Nat.sub_zero, take_app3, set_get, take_set, List.length_set, List.map_set, reduceIte, reduceCtorEq, Nat.reduceEqDiff, Nat.reduceAdd, Nat.reduceLeDiff, Nat.reduceSub, Nat.reduceLT, Int.reduceEq, Int.reduceLT, Int.reduceLE, Int.reduceToNat, Int.reduceAdd, Int.reduceSub, Int.reduceMul, Int.reduceNeg, Int.cast_ofNat_Int]
     · replace T := T.2 c7
       obtain rfl := T
       simp only [p1.wrap, p2.wrap, p3.wrap, eq_true c4, p5.wrap, eq_true c6, eq_false c7, U_law15_Step, lw, le, Nat.zero_le, Nat.sub_zero, take_app3, set_get, take_set, List.length_set, List.map_set, reduceIte, reduceCtorEq, Nat.reduceEqDiff, Nat.reduceAdd, Nat.reduceLeDiff, Nat.reduceSub, Nat.reduceLT, Int.reduceEq, Int.reduceLT, Int.reduceLE, Int.reduceToNat, Int.reduceAdd, Int.reduceSub, Int.reduceMul, Int.reduceNeg, Int.cast_ofNat_Int]
   · replace T := T.2 c6
     by_cases c11 : (1 + (((a.toNat : Nat) : Int).tmod 4)) ≤ 2
     · replace T := T.1 c11
       obtain ⟨p12, p13, p14, rfl⟩ := T
       simp only [p1.wrap, p2.wrap, p3.wrap, eq_true c4, p5.wrap, eq_false c6, eq_true c11, p12.wrap, p13.wrap, p14.wrap, U_law15_Step, lw, le, Nat.zero_le, Nat.sub_zero, take_app3, set_get, take_set, List.length_set, List.map_set, reduceIte, reduceCtorEq, Nat.reduceEqDiff, Nat.reduceAdd, Nat.reduceLeDiff, Nat.reduceSub, Nat.reduceLT, Int.reduceEq, Int.reduceLT, Int.reduceLE, Int.reduceToNat, Int.reduceAdd, Int.reduceSub, Int.reduceMul, Int.reduceNeg, Int.cast_ofNat_Int]
     · replace T := T.2 c11
       obtain rfl := T
       simp only [p1.wrap, p2.wrap, p3.wrap, eq_true c4, p5.wrap, eq_false c6, eq_false c11, U_law15_Step, lw, le, Nat.zero_le, Nat.sub_zero, take_app3, set_get, take_set, List.length_set, List.map_set, reduceIte, reduceCtorEq, Nat.reduceEqDiff, Nat.reduceAdd, Nat.reduceLeDiff, Nat.reduceSub, Nat.reduceLT, Int.reduceEq, Int.reduceLT, Int.reduceLE, Int.reduceToNat, Int.reduceAdd, Int.reduceSub, Int.reduceMul, Int.reduceNeg, Int.cast_ofNat_Int]
 · replace T := T.2 c4
   by_cases c15 : (1 + (((a.toNat : Nat) : Int).tmod 4)) = 3
   · replace T := T.1 c15
     obtain ⟨p16, T⟩ := T
     by_cases c17 : (((c.toNat : Nat) : Int).tmod 5) = 0
     · replace T := T.1 c17
       by_cases c18 : (1 + (((a.toNat : Nat) : Int).tmod 4)) ≤ 2
       · replace T := T.1 c18
         obtain ⟨p19, p20, p21, rfl⟩ := T
         simp only [p1.wrap, p2.wrap, p3.wrap, eq_false c4, eq_true c15, p16.wrap, eq_true c17, eq_true c18, p19.wrap, p20.wrap, p21.wrap, U_law15_Step, lw, le, Nat.zero_le, Nat.sub_zero, take_app3, set_get, take_set, List.length_set, List.map_set, reduceIte, reduceCtorEq, Nat.reduceEqDiff, Nat.reduceAdd, Nat.reduceLeDiff, Nat.reduceSub, Nat.reduceLT, Int.reduceEq, Int.reduceLT, Int.reduceLE, Int.reduceToNat, Int.reduceAdd, Int.reduceSub, Int.reduceMul, Int.reduceNeg, Int.cast_ofNat_Int]
       · replace T := T.2 c18
         obtain rfl := T
         simp only [p1.wrap, p2.wrap, p3.wrap, eq_false c4, eq_true c15, p16.wrap, eq_true c17, eq_false c18, U_law15_Step, lw, le, Nat.zero_le, Nat.sub_zero, take_app3, set_get, take_set, List.length_set, List.map_set, reduceIte, reduceCtorEq, Nat.reduceEqDiff, Nat.reduceAdd, Nat.reduceLeDiff, Nat.reduceSub, Nat.reduceLT, Int.reduceEq, Int.reduceLT, Int.reduceLE, Int.reduceToNat, Int.reduceAdd, Int.reduceSub, Int.reduceMul, Int.reduceNeg, Int.cast_ofNat_Int]
     · replace T := T.2 c17
       by_cases c22 : (1 + (((a.toNat : Nat) : Int).tmod 4)) ≤ 2
       · replace T := T.1 c22
         obtain ⟨p23, p24, p25, rfl⟩ := T
         simp only [p1.wrap, p2.wrap, p3.wrap, eq_false c4, eq_true c15, p16.wrap, eq_false c17, eq_true c22, p23.wrap, p24.wrap, p25.wrap, U_law15_Step, lw, le, Nat.zero_le, Nat.sub_zero, take_app3, set_get, take_set, List.length_set, List.map_set, reduceIte, reduceCtorEq, Nat.reduceEqDiff, Nat.reduceAdd, Nat.reduceLeDiff, Nat.reduceSub, Nat.reduceLT, Int.reduceEq, Int.reduceLT, Int.reduceLE, Int.reduceToNat, Int.reduceAdd, Int.reduceSub, Int.reduceMul, Int.reduceNeg, Int.cast_ofNat_Int]
       · replace T := T.2 c22
         obtain rfl := T
         simp only [p1.wrap, p2.wrap, p3.wrap, eq_false c4, eq_true c15, p16.wrap, eq_false c17, eq_false c22, U_law15_Step, lw, le, Nat.zero_le, Nat.sub_zero, take_app3, set_get, take_set, List.length_set, List.map_set, reduceIte, reduceCtorEq, Nat.reduceEqDiff, Nat.reduceAdd, Nat.reduceLeDiff, Nat.reduceSub, Nat.reduceLT, Int.reduceEq, Int.reduceLT, Int.reduceLE, Int.reduceToNat, Int.reduceAdd, Int.reduceSub, Int.reduceMul, Int.reduceNeg, Int.cast_ofNat_Int]
   · replace T := T.2 c15
     by_cases c26 : (1 + (((a.toNat : Nat) : Int).tmod 4)) ≤ 2
     · replace T := T.1 c26
       obtain ⟨p27, p28, p29, rfl⟩ := T
       simp only [p1.wrap, p2.wrap, p3.wrap, eq_false c4, eq_false c15, eq_true c26, p27.wrap, p28.wrap, p29.wrap, U_law15_Step, lw, le, Nat.zero_le, Nat.sub_zero, take_app3, set_get, take_set, List.length_set, List.map_set, reduceIte, reduceCtorEq, Nat.reduceEqDiff, Nat.reduceAdd, Nat.reduceLeDiff, Nat.reduceSub, Nat.reduceLT, Int.reduceEq, Int.reduceLT, Int.reduceLE, Int.reduceToNat, Int.reduceAdd, Int.reduceSub, Int.reduceMul, Int.reduceNeg, Int.cast_ofNat_Int]
     · replace T := T.2 c26
       obtain rfl := T
       simp only [p1.wrap, p2.wrap, p3.wrap, eq_false c4, eq_false c15, eq_false c26, U_law15_Step, lw, le, Nat.zero_le, Nat.sub_zero, take_app3, set_get, take_set, List.length_set, List.map_set, reduceIte, reduceCtorEq, Nat.reduceEqDiff, Nat.reduceAdd, Nat.reduceLeDiff, Nat.reduceSub, Nat.reduceLT, Int.reduceEq, Int.reduceLT, Int.reduceLE, Int.reduceToNat, Int.reduceAdd, Int.reduceSub, Int.reduceMul, Int.reduceNeg, Int.cast_ofNat_Int]
theorem sp_ref10_copied : SP 119 = some (.code sc_ref10_copied) := SPof_code rfl Tryd.func119 comp_ref10_copied
/-! doorkeeper/doorkeeperref10.copied -/
set_option maxHeartbeats 4000000 in
theorem ref10_copied_tree (l_ : List Item) (r : List Item) (T :
  (bigRow (l_.length) 112) ∧
 l_ = r) : R_ref10_copied l_ r := by
 intro S
 rw [call_code sp_ref10_copied _ _ rfl]
 obtain ⟨p1, rfl⟩ := T
 simp only [bigRow] at p1
 simp only [p1, U_ref10_copied, lw, le, Nat.zero_le, Nat.sub_zero, take_app3, set_get, take_set, List.length_set, List.map_set, reduceIte, reduceCtorEq, Nat.reduceEqDiff, Nat.reduceAdd, Nat.reduceLeDiff, Nat.reduceSub, Nat.reduceLT, Int.reduceEq, Int.reduceLT, Int.reduceLE, Int.reduceToNat, Int.reduceAdd, Int.reduceSub, Int.reduceMul, Int.reduceNeg, Int.cast_ofNat_Int]
theorem sp_ref10_no : SP 118 = some (.code sc_ref10_no) := SPof_code rfl Tryd.func118 comp_ref10_no
/-! doorkeeper/doorkeeperref10.no -/
set_option maxHeartbeats 4000000 in
theorem ref10_no_tree (e_ : Int) (r : Grown) (T :
  (Grown.mk [] e_) = r) : R_ref10_no e_ r := by
 intro S
 rw [call_code sp_ref10_no _ _ rfl]
 obtain rfl := T
 simp only [U_ref10_no, lw, le, Nat.zero_le, Nat.sub_zero, take_app3, set_get, take_set, List.length_set, List.map_set, reduceIte, reduceCtorEq, Nat.reduceEqDiff, Nat.reduceAdd, Nat.reduceLeDiff, Nat.reduceSub, Nat.reduceLT, Int.reduceEq, Int.reduceLT, Int.reduceLE, Int.reduceToNat, Int.reduceAdd, Int.reduceSub, Int.reduceMul, Int.reduceNeg, Int.cast_ofNat_Int]
theorem sp_ref10_Create : SP 106 = some (.code sc_ref10_Create) := SPof_code rfl Tryd.func106 comp_ref10_Create
/-! doorkeeper/doorkeeperref10.Create -/
def At_ref10_Create_1 (l_ : List Item) (name : List UInt8) (parent : List UInt8) (limit : Vec) (i6 : Int) (r : Grown) : Prop := ∀ (S : Sto) (e : Nat → PV) (f : Fr), e 0 = .list 12 (l_.map eItem) false ∧ e 1 = .str name ∧ e 2 = .str parent ∧ e 7 = .ptr 0 7 0 ∧ e 8 = .ptr 0 8 0 ∧ e 9 = .int .i64 i6 ∧ f.box 7 = some [.int .i64 limit.Cpu, .int .i64 limit.Mem, .int .i64 limit.Pods] ∧ f.box 8 = some [.sl 0 (.cell 8 0) 0 0 0 0 false, .int .i64 0] ∧ f.arr (.cell 8 0) = some ⟨12, [], false, 0⟩ → k_ref10_Create_1 SP (E SP (.loop b_ref10_Create_1) ⟨e, f :: S⟩) = .ok (.v (.agg [.list 12 (r.L.map eItem) false, .int .i64 r.E])) S
set_option maxHeartbeats 4000000 in
theorem At_ref10_Create_1_step (l_ : List Item) (name : List UInt8) (parent : List UInt8) (limit : Vec) (i6 : Int) (r : Grown) (T :
  ((i6 < ((l_.length : Nat) : Int)) →
  (0 ≤ i6) ∧
  ∃ (v12 : Item), (l_[i6.toNat]? = some v12) ∧
  (((bytesLess v12.Name name) = true) →
   (I64 (i6 + 1)) ∧
   At_ref10_Create_1 l_ name parent limit (i6 + 1) r) ∧
  (¬ ((bytesLess v12.Name name) = true) →
   (0 ≤ i6) ∧ (i6.toNat ≤ l_.length) ∧
   ∃ (r13 : List Item), (R_ref10_copied (l_.take (i6.toNat)) r13) ∧
   (bigRow (r13.length + 1) 112) ∧
   (0 ≤ i6) ∧ (i6.toNat ≤ l_.length) ∧
   (bigRow (r13.length + 1 + ((l_.drop i6.toNat).take (l_.length - i6.toNat)).length) 112) ∧
   (Grown.mk (r13 ++ [(Item.mk name parent limit (Vec.mk 0 0 0) (Vec.mk 0 0 0) 1)] ++ ((l_.drop i6.toNat).take (l_.length - i6.toNat))) 0) = r)) ∧
 (¬ (i6 < ((l_.length : Nat) : Int)) →
  (0 ≤ i6) ∧ (i6.toNat ≤ l_.length) ∧
  ∃ (r14 : List Item), (R_ref10_copied (l_.take (i6.toNat)) r14) ∧
  (bigRow (r14.length + 1) 112) ∧
  (0 ≤ i6) ∧ (i6.toNat ≤ l_.length) ∧
  (bigRow (r14.length + 1 + ((l_.drop i6.toNat).take (l_.length - i6.toNat)).length) 112) ∧
  (Grown.mk (r14 ++ [(Item.mk name parent limit (Vec.mk 0 0 0) (Vec.mk 0 0 0) 1)] ++ ((l_.drop i6.toNat).take (l_.length - i6.toNat))) 0) = r)) : At_ref10_Create_1 l_ name parent limit i6 r := by
 intro S e f h
 unfold k_ref10_Create_1
 rw [E_loop]
 by_cases c1 : i6 < ((l_.length : Nat) : Int)
 · replace T := T.1 c1
   obtain ⟨p2, v12, q3, T⟩ := T
   by_cases c4 : (bytesLess v12.Name name) = true
   · replace T := T.1 c4
     obtain ⟨p5, T⟩ := T
     try simp only [h, eq_true c1, p2, q3, c4, p5.wrap, U_ref10_Create, lw, le, Nat.zero_le, Nat.sub_zero, take_app3, set_get, take_set, List.length_set, List.map_set, reduceIte, reduceCtorEq, Nat.reduceEqDiff, Nat.reduceAdd, Nat.reduceLeDiff, Nat.reduceSub, Nat.reduceLT, Int.reduceEq, Int.reduceLT, Int.reduceLE, Int.reduceToNat, Int.reduceAdd, Int.reduceSub, Int.reduceMul, Int.reduceNeg, Int.cast_ofNat_Int]
     refine T S _ _ ?_
     simp only [h, eq_true c1, p2, q3, c4, p5.wrap, U_ref10_Create, lw, le, Nat.zero_le, Nat.sub_zero, take_app3, set_get, take_set, List.length_set, List.map_set, reduceIte, reduceCtorEq, Nat.reduceEqDiff, Nat.reduceAdd, Nat.reduceLeDiff, Nat.reduceSub, Nat.reduceLT, Int.reduceEq, Int.reduceLT, Int.reduceLE, Int.reduceToNat, Int.reduceAdd, Int.reduceSub, Int.reduceMul, Int.reduceNeg, Int.cast_ofNat_Int]
   · replace T := T.2 c4
     replace c4 := Bool.eq_false_iff.2 c4
     obtain ⟨p6, p7, r13, q8, p9, p10, p11, p12, rfl⟩ := T
     simp only [R_ref10_copied, le] at q8
     simp only [bigRow] at p9
     simp only [bigRow] at p12
     simp only [h, eq_true c1, p2, q3, c4, p6, p7, q8, p9, p10, p11, p12, U_ref10_Create, lw, le, Nat.zero_le, Nat.sub_zero, take_app3, set_get, take_set, List.length_set, List.map_set, reduceIte, reduceCtorEq, Nat.reduceEqDiff, Nat.reduceAdd, Nat.reduceLeDiff, Nat.reduceSub, Nat.reduceLT, Int.reduceEq, Int.reduceLT, Int.reduceLE, Int.reduceToNat, Int.reduceAdd, Int.reduceSub, Int.reduceMul, Int.reduceNeg, Int.cast_ofNat_Int]
 · replace T := T.2 c1
   obtain ⟨p13, p14, r14, q15, p16, p17, p18, p19, rfl⟩ := T
   simp only [R_ref10_copied, le] at q15
   simp only [bigRow] at p16
   simp only [bigRow] at p19
   simp only [h, eq_false c1, p13, p14, q15, p16, p17, p18, p19, U_ref10_Create, lw, le, Nat.zero_le, Nat.sub_zero, take_app3, set_get, take_set, List.length_set, List.map_set, reduceIte, reduceCtorEq, Nat.reduceEqDiff, Nat.reduceAdd, Nat.reduceLeDiff, Nat.reduceSub, Nat.reduceLT, Int.reduceEq, Int.reduceLT, Int.reduceLE, Int.reduceToNat, Int.reduceAdd, Int.reduceSub, Int.reduceMul, Int.reduceNeg, Int.cast_ofNat_Int]
set_option maxHeartbeats 4000000 in
theorem ref10_Create_tree (l_ : List Item) (name : List UInt8) (parent : List UInt8) (limit : Vec) (r : Grown) (T :
  ∃ (r1 : Bool), (R_ref10_MayName name r1) ∧
 ((r1 = true) →
  ∃ (r2 : Bool), (R_ref10_MayVec limit r2) ∧
  ((r2 = true) →
   ∃ (r3 : Int), (R_ref10_Find l_ name r3) ∧
   ((0 ≤ r3) →
    ∃ (r4 : Grown), (R_ref10_no 3 r4) ∧
    r4 = r) ∧
   (¬ (0 ≤ r3) →
    ((parent = []) →
     ((120 ≤ ((l_.length : Nat) : Int)) →
      ∃ (r5 : Grown), (R_ref10_no 4 r5) ∧
      r5 = r) ∧
     (¬ (120 ≤ ((l_.length : Nat) : Int)) →
      At_ref10_Create_1 l_ name parent limit 0 r)) ∧
    (¬ (parent = []) →
     ∃ (r7 : Int), (R_ref10_Find l_ parent r7) ∧
     ((r7 < 0) →
      ∃ (r8 : Grown), (R_ref10_no 2 r8) ∧
      r8 = r) ∧
     (¬ (r7 < 0) →
      ((120 ≤ ((l_.length : Nat) : Int)) →
       ∃ (r9 : Grown), (R_ref10_no 4 r9) ∧
       r9 = r) ∧
      (¬ (120 ≤ ((l_.length : Nat) : Int)) →
       At_ref10_Create_1 l_ name parent limit 0 r))))) ∧
  (¬ (r2 = true) →
   ∃ (r10 : Grown), (R_ref10_no 1 r10) ∧
   r10 = r)) ∧
 (¬ (r1 = true) →
  ∃ (r11 : Grown), (R_ref10_no 1 r11) ∧
  r11 = r)) : R_ref10_Create l_ name parent limit r := by
 intro S
 rw [call_code sp_ref10_Create _ _ rfl]
 obtain ⟨r1, q1, T⟩ := T
 simp only [R_ref10_MayName, le] at q1
 by_cases c2 : r1 = true
 · replace T := T.1 c2
   obtain ⟨r2, q3, T⟩ := T
   simp only [R_ref10_MayVec, le] at q3
   by_cases c4 : r2 = true
   · replace T := T.1 c4
     obtain ⟨r3, q5, T⟩ := T
     simp only [R_ref10_Find, le] at q5
     by_cases c6 : 0 ≤ r3
     · replace T := T.1 c6
       obtain ⟨r4, q7, rfl⟩ := T
       simp only [R_ref10_no, le] at q7
       simp only [q1, c2, q3, c4, q5, eq_true c6, q7, U_ref10_Create, lw, le, Nat.zero_le, Nat.sub_zero, take_app3, set_get, take_set, List.length_set, List.map_set, reduceIte, reduceCtorEq, Nat.reduceEqDiff, Nat.reduceAdd, Nat.reduceLeDiff, Nat.reduceSub, Nat.reduceLT, Int.reduceEq, Int.reduceLT, Int.reduceLE, Int.reduceToNat, Int.reduceAdd, Int.reduceSub, Int.reduceMul, Int.reduceNeg, Int.cast_ofNat_Int]
     · replace T := T.2 c6
       by_cases c8 : parent = []
       · replace T := T.1 c8
         by_cases c9 : 120 ≤ ((l_.length : Nat) : Int)
         · replace T := T.1 c9
           obtain ⟨r5, q10, rfl⟩ := T
           simp only [R_ref10_no, le] at q10
           simp only [q1, c2, q3, c4, q5, eq_false c6, eq_true c8, eq_true c9, q10, U_ref10_Create, lw, le, Nat.zero_le, Nat.sub_zero, take_app3, set_get, take_set, List.length_set, List.map_set, reduceIte, reduceCtorEq, Nat.reduceEqDiff, Nat.reduceAdd, Nat.reduceLeDiff, Nat.reduceSub, Nat.reduceLT, Int.reduceEq, Int.reduceLT, Int.reduceLE, Int.reduceToNat, Int.reduceAdd, Int.reduceSub, Int.reduceMul, Int.reduceNeg, Int.cast_ofNat_Int]
         · replace T := T.2 c9
           try simp only [q1, c2, q3, c4, q5, eq_false c6, eq_true c8, eq_false c9, U_ref10_Create, lw, le, Nat.zero_le, Nat.sub_zero, take_app3, set_get, take_set, List.length_set, List.map_set, reduceIte, reduceCtorEq, Nat.reduceEqDiff, Nat.reduceAdd, Nat.reduceLeDiff, Nat.reduceSub, Nat.reduceLT, Int.reduceEq, Int.reduceLT, Int.reduceLE, Int.reduceToNat, Int.reduceAdd, Int.reduceSub, Int.reduceMul, Int.reduceNeg, Int.cast_ofNat_Int]
           refine T S _ _ ?_
           simp only [q1, c2, q3, c4, q5, eq_false c6, eq_true c8, eq_false c9, U_ref10_Create, lw, le, Nat.zero_le, Nat.sub_zero, take_app3, set_get, take_set, List.length_set, List.map_set, reduceIte, reduceCtorEq, Nat.reduceEqDiff, Nat.reduceAdd, Nat.reduceLeDiff, Nat.reduceSub, Nat.reduceLT, Int.reduceEq, Int.reduceLT, Int.reduceLE, Int.reduceToNat, Int.reduceAdd, Int.reduceSub, Int.reduceMul, Int.reduceNeg, Int.cast_ofNat_Int]
       · replace T := T.2 c8
         obtain ⟨r7, q11, T⟩ := T
         simp only [R_ref10_Find, le] at q11
         by_cases c12 : r7 < 0
         · replace T := T.1 c12
           obtain ⟨r8, q13, rfl⟩ := T
           simp only [R_ref10_no, le] at q13
           simp only [q1, c2, q3, c4, q5, eq_false c6, eq_false c8, q11, eq_true c12, q13, U_ref10_Create, lw, le, Nat.zero_le, Nat.sub_zero, take_app3, set_get, take_set, List.length_set, List.map_set, reduceIte, reduceCtorEq, Nat.reduceEqDiff, Nat.reduceAdd, Nat.reduceLeDiff, Nat.reduceSub, Nat.reduceLT, Int.reduceEq, Int.reduceLT, Int.reduceLE, Int.reduceToNat, Int.reduceAdd, Int.reduceSub, Int.reduceMul, Int.reduceNeg, Int.cast_ofNat_Int]
         · replace T := T.2 c12
           by_cases c14 : 120 ≤ ((l_.length : Nat) : Int)
           · replace T := T.1 c14
             obtain ⟨r9, q15, rfl⟩ := T
             simp only [R_ref10_no, le] at q15
             simp only [q1, c2, q3, c4, q5, eq_false c6, eq_false c8, q11, eq_false c12, eq_true c14, q15, U_ref10_Create, lw, le, Nat.zero_le, Nat.sub_zero, take_app3, set_get, take_set, List.length_set, List.map_set, reduceIte, reduceCtorEq, Nat.reduceEqDiff, Nat.reduceAdd, Nat.reduceLeDiff, Nat.reduceSub, Nat.reduceLT, Int.reduceEq, Int.reduceLT, Int.reduceLE, Int.reduceToNat, Int.reduceAdd, Int.reduceSub, Int.reduceMul, Int.reduceNeg, Int.cast_ofNat_Int]
           · replace T := T.2 c14
             try simp only [q1, c2, q3, c4, q5, eq_false c6, eq_false c8, q11, eq_false c12, eq_false c14, U_ref10_Create, lw, le, Nat.zero_le, Nat.sub_zero, take_app3, set_get, take_set, List.length_set, List.map_set, reduceIte, reduceCtorEq, Nat.reduceEqDiff, Nat.reduceAdd, Nat.reduceLeDiff, Nat.reduceSub, Nat.reduceLT, Int.reduceEq, Int.reduceLT, Int.reduceLE, Int.reduceToNat, Int.reduceAdd, Int.reduceSub, Int.reduceMul, Int.reduceNeg, Int.cast_ofNat_Int]
             refine T S _ _ ?_
             simp only [q1, c2, q3, c4, q5, eq_false c6, eq_false c8, q11, eq_false c12, eq_false c14, U_ref10_Create, lw, le, Nat.zero_le, Nat.sub_zero, take_app3, set_get, take_set, List.length_set, List.map_set, reduceIte, reduceCtorEq, Nat.reduceEqDiff, Nat.reduceAdd, Nat.reduceLeDiff, Nat.reduceSub, Nat.reduceLT, Int.reduceEq, Int.reduceLT, Int.reduceLE, Int.reduceToNat, Int.reduceAdd, Int.reduceSub, Int.reduceMul, Int.reduceNeg, Int.cast_ofNat_Int]
   · replace T := T.2 c4
     replace c4 := Bool.eq_false_iff.2 c4
     obtain ⟨r10, q16, rfl⟩ := T
     simp only [R_ref10_no, le] at q16
     simp only [q1, c2, q3, c4, q16, U_ref10_Create, lw, le, Nat.zero_le, Nat.sub_zero, take_app3, set_get, take_set, List.length_set, List.map_set, reduceIte, reduceCtorEq, Nat.reduceEqDiff, Nat.reduceAdd, Nat.reduceLeDiff, Nat.reduceSub, Nat.reduceLT, Int.reduceEq, Int.reduceLT, Int.reduceLE, Int.reduceToNat, Int.reduceAdd, Int.reduceSub, Int.reduceMul, Int.reduceNeg, Int.cast_ofNat_Int]
 · replace T := T.2 c2
   replace c2 := Bool.eq_false_iff.2 c2
   obtain ⟨r11, q17, rfl⟩ := T
   simp only [R_ref10_no, le] at q17
   simp only [q1, c2, q17, U_ref10_Create, lw, le, Nat.zero_le, Nat.sub_zero, take_app3, set_get, take_set, List.length_set, List.map_set, reduceIte, reduceCtorEq, Nat.reduceEqDiff, Nat.reduceAdd, Nat.reduceLeDiff, Nat.reduceSub, Nat.reduceLT, Int.reduceEq, Int.reduceLT, Int.reduceLE, Int.reduceToNat, Int.reduceAdd, Int.reduceSub, Int.reduceMul, Int.reduceNeg, Int.cast_ofNat_Int]
theorem sp_ref10_Admit : SP 107 = some (.code sc_ref10_Admit) := SPof_code rfl Tryd.func107 comp_ref10_Admit
/-! doorkeeper/doorkeeperref10.Admit -/
def At_ref10_Admit_1 (name : List UInt8) (v : Vec) (r1 : List (List UInt8)) (i5 : Int) (i6 : Int) (l7 : List Item) (l8 : List Item) (r : Grown) : Prop := ∀ (S : Sto) (e : Nat → PV) (f : Fr), e 1 = .str name ∧ e 5 = .ptr 0 5 0 ∧ e 6 = .ptr 0 6 0 ∧ e 7 = .sl 0 (.slot 14) 0 r1.length r1.length 0 false ∧ e 8 = .sl 0 (.slot 24) 0 l8.length l8.length 0 false ∧ e 9 = .int .i64 i5 ∧ f.box 5 = some [.int .i64 v.Cpu, .int .i64 v.Mem, .int .i64 v.Pods] ∧ f.box 6 = some [.sl 0 (.cell 6 0) 0 l7.length l7.length 0 false, .int .i64 i6] ∧ f.arr (.cell 6 0) = some ⟨12, l7.map eItem, false, 0⟩ ∧ f.arr (.slot 14) = some ⟨1, r1.map eS, false, 0⟩ ∧ f.arr (.slot 24) = some ⟨12, l8.map eItem, false, 0⟩ → k_ref10_Admit_1 SP (E SP (.loop b_ref10_Admit_1) ⟨e, f :: S⟩) = .ok (.v (.agg [.list 12 (r.L.map eItem) false, .int .i64 r.E])) S
set_option maxHeartbeats 4000000 in
theorem At_ref10_Admit_1_step (name : List UInt8) (v : Vec) (r1 : List (List UInt8)) (i5 : Int) (i6 : Int) (l7 : List Item) (l8 : List Item) (r : Grown) (T :
  ((i5 < ((r1.length : Nat) : Int)) →
  (0 ≤ i5) ∧ (i5.toNat < r1.length) ∧
  ∃ (v10 : List UInt8), (r1[i5.toNat]? = some v10) ∧
  ∃ (r11 : Int), (R_ref10_Find l8 v10 r11) ∧
  (0 ≤ r11) ∧ (r11.toNat < l8.length) ∧
  ∃ (v12 : Item), (l8[r11.toNat]? = some v12) ∧
  ∃ (r13 : Vec), (R_ref10_Add v12.Sub v r13) ∧
  (0 ≤ r11) ∧ (r11.toNat < l8.length) ∧
  (0 ≤ r11) ∧ (r11.toNat < l8.length) ∧
  (0 ≤ r11) ∧ (r11.toNat < l8.length) ∧
  ∃ (r14 : Bool), (R_ref10_Le r13 v12.Limit r14) ∧
  ((r14 = true) →
   (I64 (i5 + 1)) ∧
   At_ref10_Admit_1 name v r1 (i5 + 1) i6 l7 (l8.set r11.toNat (Item.mk v12.Name v12.Parent v12.Limit v12.Own r13 v12.Ver)) r) ∧
  (¬ (r14 = true) →
   ∃ (r15 : Grown), (R_ref10_no 12 r15) ∧
   r15 = r)) ∧
 (¬ (i5 < ((r1.length : Nat) : Int)) →
  ∃ (r16 : Int), (R_ref10_Find l8 name r16) ∧
  (0 ≤ r16) ∧ (r16.toNat < l8.length) ∧
  ∃ (v17 : Item), (l8[r16.toNat]? = some v17) ∧
  ∃ (r18 : Vec), (R_ref10_Add v17.Own v r18) ∧
  (0 ≤ r16) ∧ (r16.toNat < l8.length) ∧
  (Grown.mk (l8.set r16.toNat (Item.mk v17.Name v17.Parent v17.Limit r18 v17.Sub v17.Ver)) 0) = r)) : At_ref10_Admit_1 name v r1 i5 i6 l7 l8 r := by
 intro S e f h
 unfold k_ref10_Admit_1
 rw [E_loop]
 by_cases c1 : i5 < ((r1.length : Nat) : Int)
 · replace T := T.1 c1
   obtain ⟨p2, p3, v10, q4, r11, q5, p6, p7, v12, q8, r13, q9, p10, p11, p12, p13, p14, p15, r14, q16, T⟩ := T
   simp only [R_ref10_Find, le] at q5
   simp only [R_ref10_Add, le] at q9
   simp only [R_ref10_Le, le] at q16
   by_cases c17 : r14 = true
   · replace T := T.1 c17
     obtain ⟨p18, T⟩ := T
     try simp only [h, eq_true c1, p2, p3, q4, q5, p6, p7, q8, q9, p10, p11, p12, p13, p14, p15, q16, c17, p18.wrap, U_ref10_Admit, lw, le, Nat.zero_le, Nat.sub_zero, take_app3, set_get, take_set, List.length_set, List.map_set, reduceIte, reduceCtorEq, Nat.reduceEqDiff, Nat.reduceAdd, Nat.reduceLeDiff, Nat.reduceSub, Nat.reduceLT, Int.reduceEq, Int.reduceLT, Int.reduceLE, Int.reduceToNat, Int.reduceAdd, Int.reduceSub, Int.reduceMul, Int.reduceNeg, Int.cast_ofNat_Int]
     refine T S _ _ ?_
     simp only [h, eq_true c1, p2, p3, q4, q5, p6, p7, q8, q9, p10, p11, p12, p13, p14, p15, q16, c17, p18.wrap, U_ref10_Admit, lw, le, Nat.zero_le, Nat.sub_zero, take_app3, set_get, take_set, List.length_set, List.map_set, reduceIte, reduceCtorEq, Nat.reduceEqDiff, Nat.reduceAdd, Nat.reduceLeDiff, Nat.reduceSub, Nat.reduceLT, Int.reduceEq, Int.reduceLT, Int.reduceLE, Int.reduceToNat, Int.reduceAdd, Int.reduceSub, Int.reduceMul, Int.reduceNeg, Int.cast_ofNat_Int]
   · replace T := T.2 c17
     replace c17 := Bool.eq_false_iff.2 c17
     obtain ⟨r15, q19, rfl⟩ := T
     simp only [R_ref10_no, le] at q19
     simp only [h, eq_true c1, p2, p3, q4, q5, p6, p7, q8, q9, p10, p11, p12, p13, p14, p15, q16, c17, q19, U_ref10_Admit, lw, le, Nat.zero_le, Nat.sub_zero, take_app3, set_get, take_set, List.length_set, List.map_set, reduceIte, reduceCtorEq, Nat.reduceEqDiff, Nat.reduceAdd, Nat.reduceLeDiff, Nat.reduceSub, Nat.reduceLT, Int.reduceEq, Int.reduceLT, Int.reduceLE, Int.reduceToNat, Int.reduceAdd, Int.reduceSub, Int.reduceMul, Int.reduceNeg, Int.cast_ofNat_Int]
 · replace T := T.2 c1
   obtain ⟨r16, q20, p21, p22, v17, q23, r18, q24, p25, p26, rfl⟩ := T
   simp only [R_ref10_Find, le] at q20
   simp only [R_ref10_Add, le] at q24
   simp only [h, eq_false c1, q20, p21, p22, q23, q24, p25, p26, U_ref10_Admit, lw, le, Nat.zero_le, Nat.sub_zero, take_app3, set_get, take_set, List.length_set, List.map_set, reduceIte, reduceCtorEq, Nat.reduceEqDiff, Nat.reduceAdd, Nat.reduceLeDiff, Nat.reduceSub, Nat.reduceLT, Int.reduceEq, Int.reduceLT, Int.reduceLE, Int.reduceToNat, Int.reduceAdd, Int.reduceSub, Int.reduceMul, Int.reduceNeg, Int.cast_ofNat_Int]
set_option maxHeartbeats 4000000 in
theorem ref10_Admit_tree (l_ : List Item) (name : List UInt8) (v : Vec) (r : Grown) (T :
  ∃ (r1 : List (List UInt8)), (R_ref10_Up l_ name r1) ∧
 ∃ (r2 : Bool), (R_ref10_MayVec v r2) ∧
 ((r2 = true) →
  ((((r1.length : Nat) : Int) = 0) →
   ∃ (r3 : Grown), (R_ref10_no 2 r3) ∧
   r3 = r) ∧
  (¬ (((r1.length : Nat) : Int) = 0) →
   ∃ (r4 : List Item), (R_ref10_copied l_ r4) ∧
   At_ref10_Admit_1 name v r1 0 0 [] r4 r)) ∧
 (¬ (r2 = true) →
  ∃ (r9 : Grown), (R_ref10_no 1 r9) ∧
  r9 = r)) : R_ref10_Admit l_ name v r := by
 intro S
 rw [call_code sp_ref10_Admit _ _ rfl]
 obtain ⟨r1, q1, r2, q2, T⟩ := T
 simp only [R_ref10_Up, le] at q1
 simp only [R_ref10_MayVec, le] at q2
 by_cases c3 : r2 = true
 · replace T := T.1 c3
   by_cases c4 : ((r1.length : Nat) : Int) = 0
   · replace T := T.1 c4
     obtain ⟨r3, q5, rfl⟩ := T
     simp only [R_ref10_no, le] at q5
     simp only [q1, q2, c3, eq_true c4, q5, U_ref10_Admit, lw, le, Nat.zero_le, Nat.sub_zero, take_app3, set_get, take_set, List.length_set, List.map_set, reduceIte, reduceCtorEq, Nat.reduceEqDiff, Nat.reduceAdd, Nat.reduceLeDiff, Nat.reduceSub, Nat.reduceLT, Int.reduceEq, Int.reduceLT, Int.reduceLE, Int.reduceToNat, Int.reduceAdd, Int.reduceSub, Int.reduceMul, Int.reduceNeg, Int.cast_ofNat_Int]
   · replace T := T.2 c4
     obtain ⟨r4, q6, T⟩ := T
     simp only [R_ref10_copied, le] at q6
     try simp only [q1, q2, c3, eq_false c4, q6, U_ref10_Admit, lw, le, Nat.zero_le, Nat.sub_zero, take_app3, set_get, take_set, List.length_set, List.map_set, reduceIte, reduceCtorEq, Nat.reduceEqDiff, Nat.reduceAdd, Nat.reduceLeDiff, Nat.reduceSub, Nat.reduceLT, Int.reduceEq, Int.reduceLT, Int.reduceLE, Int.reduceToNat, Int.reduceAdd, Int.reduceSub, Int.reduceMul, Int.reduceNeg, Int.cast_ofNat_Int]
     refine T S _ _ ?_
     simp only [q1, q2, c3, eq_false c4, q6, U_ref10_Admit, lw, le, Nat.zero_le, Nat.sub_zero, take_app3, set_get, take_set, List.length_set, List.map_set, reduceIte, reduceCtorEq, Nat.reduceEqDiff, Nat.reduceAdd, Nat.reduceLeDiff, Nat.reduceSub, Nat.reduceLT, Int.reduceEq, Int.reduceLT, Int.reduceLE, Int.reduceToNat, Int.reduceAdd, Int.reduceSub, Int.reduceMul, Int.reduceNeg, Int.cast_ofNat_Int]
 · replace T := T.2 c3
   replace c3 := Bool.eq_false_iff.2 c3
   obtain ⟨r9, q7, rfl⟩ := T
   simp only [R_ref10_no, le] at q7
   simp only [q1, q2, c3, q7, U_ref10_Admit, lw, le, Nat.zero_le, Nat.sub_zero, take_app3, set_get, take_set, List.length_set, List.map_set, reduceIte, reduceCtorEq, Nat.reduceEqDiff, Nat.reduceAdd, Nat.reduceLeDiff, Nat.reduceSub, Nat.reduceLT, Int.reduceEq, Int.reduceLT, Int.reduceLE, Int.reduceToNat, Int.reduceAdd, Int.reduceSub, Int.reduceMul, Int.reduceNeg, Int.cast_ofNat_Int]
theorem sp_law12_Make : SP 91 = some (.code sc_law12_Make) := SPof_code rfl Tryd.func91 comp_law12_Make
/-! doorkeeper/doorkeeperlaw12.Make -/
def At_law12_Make_1 (ns : List UInt8) (i1 : Int) (l2 : List Item) (r : List Item) : Prop := (∀ (S : Sto) (e : Nat → PV) (f : Fr), e 0 = .list 1 (ns.map eB) false ∧ e 3 = .sl 0 (.slot 3) 0 l2.length l2.length 0 false ∧ e 4 = .int .i64 i1 ∧ f.arr (.slot 3) = some ⟨12, l2.map eItem, false, 0⟩ → k_law12_Make_1 SP (E SP (.loop b_law12_Make_1) ⟨e, f :: S⟩) = .ok (.v (.list 12 (r.map eItem) false)) S) ∨ (∀ (S : Sto) (e : Nat → PV) (f : Fr), e 0 = .list 1 (ns.map eB) false ∧ e 3 = .sl 0 (.slot 3) 0 l2.length l2.length 0 false ∧ e 4 = .int .i64 i1 ∧ f.arr (.slot 3) = some ⟨12, l2.map eItem, false, 0⟩ → k_law12_Make_1 SP (E SP (.loop b_law12_Make_1) ⟨e, f :: S⟩) = .ok (.arr 12 (r.map eItem) false) S)
def At_law12_Make_1b (ns : List UInt8) (l10 : List Item) (i11 : Int) (r : List Item) : Prop := (∀ (S : Sto) (e : Nat → PV) (f : Fr), e 0 = .list 1 (ns.map eB) false ∧ e 3 = .list 12 (l10.map eItem) false ∧ e 4 = .int .i64 i11 → k_law12_Make_1 SP (E SP (.loop b_law12_Make_1) ⟨e, f :: S⟩) = .ok (.v (.list 12 (r.map eItem) false)) S) ∨ (∀ (S : Sto) (e : Nat → PV) (f : Fr), e 0 = .list 1 (ns.map eB) false ∧ e 3 = .list 12 (l10.map eItem) false ∧ e 4 = .int .i64 i11 → k_law12_Make_1 SP (E SP (.loop b_law12_Make_1) ⟨e, f :: S⟩) = .ok (.arr 12 (r.map eItem) false) S)
def At_law12_Make_1c (ns : List UInt8) (i12 : Int) (l13 : List Item) (r : List Item) : Prop := (∀ (S : Sto) (e : Nat → PV) (f : Fr), e 0 = .list 1 (ns.map eB) false ∧ e 3 = .sl 0 (.slot 3) 0 l13.length l13.length 0 false ∧ e 4 = .int .i64 i12 ∧ f.arr (.slot 3) = some ⟨12, l13.map eItem, true, 0⟩ → k_law12_Make_1 SP (E SP (.loop b_law12_Make_1) ⟨e, f :: S⟩) = .ok (.v (.list 12 (r.map eItem) false)) S) ∨ (∀ (S : Sto) (e : Nat → PV) (f : Fr), e 0 = .list 1 (ns.map eB) false ∧ e 3 = .sl 0 (.slot 3) 0 l13.length l13.length 0 false ∧ e 4 = .int .i64 i12 ∧ f.arr (.slot 3) = some ⟨12, l13.map eItem, true, 0⟩ → k_law12_Make_1 SP (E SP (.loop b_law12_Make_1) ⟨e, f :: S⟩) = .ok (.arr 12 (r.map eItem) false) S)
set_option maxHeartbeats 4000000 in
theorem At_law12_Make_1_step (ns : List UInt8) (i1 : Int) (l2 : List Item) (r : List Item) (T :
  (I64 (i1 + 2)) ∧
 (((i1 + 2) < ((ns.length : Nat) : Int)) →
  ((((l2.length : Nat) : Int) < 24) →
   (0 ≤ i1) ∧
   ∃ (v3 : UInt8), (ns[i1.toNat]? = some v3) ∧
   (I64 (((v3.toNat : Nat) : Int))) ∧
   ((0 < ((l2.length : Nat) : Int)) →
    ((0 < (((v3.toNat : Nat) : Int).tmod 3)) →
     (I64 (((v3.toNat : Nat) : Int).tdiv 3)) ∧
     ¬ (((l2.length : Nat) : Int) = 0) ∧
     (0 ≤ ((((v3.toNat : Nat) : Int).tdiv 3).tmod ((l2.length : Nat) : Int))) ∧ (((((v3.toNat : Nat) : Int).tdiv 3).tmod ((l2.length : Nat) : Int)).toNat < l2.length) ∧
     ∃ (v4 : Item), (l2[((((v3.toNat : Nat) : Int).tdiv 3).tmod ((l2.length : Nat) : Int)).toNat]? = some v4) ∧
     (I64 (i1 + 1)) ∧
     (0 ≤ (i1 + 1)) ∧
     ∃ (v5 : UInt8), (ns[(i1 + 1).toNat]? = some v5) ∧
     (I64 (((v5.toNat : Nat) : Int))) ∧
     (I64 (20 + ((v5.toNat : Nat) : Int))) ∧
     (I64 (((l2.length : Nat) : Int) * 5)) ∧
     (I64 (97 + ((((l2.length : Nat) : Int) * 5).tmod 24))) ∧
     (U8 ((97 + ((((l2.length : Nat) : Int) * 5).tmod 24)))) ∧
     ∃ (r6 : Grown), (R_ref10_Create l2 [(UInt8.ofNat ((97 + ((((l2.length : Nat) : Int) * 5).tmod 24))).toNat)] v4.Name (Vec.mk (20 + ((v5.toNat : Nat) : Int)) (20 + ((v5.toNat : Nat) : Int)) (20 + ((v5.toNat : Nat) : Int))) r6) ∧
     ((r6.E = 0) →
      (I64 (i1 + 2)) ∧
      (0 ≤ (i1 + 2)) ∧
      ∃ (v7 : UInt8), (ns[(i1 + 2).toNat]? = some v7) ∧
      (I64 (((v7.toNat : Nat) : Int))) ∧
      (I64 (i1 + 2)) ∧
      (I64 (((v7.toNat : Nat) : Int))) ∧
      (I64 (((v7.toNat : Nat) : Int).tdiv 16)) ∧
      ¬ (((r6.L.length : Nat) : Int) = 0) ∧
      (0 ≤ ((((v7.toNat : Nat) : Int).tdiv 16).tmod ((r6.L.length : Nat) : Int))) ∧
      ∃ (v8 : Item), (r6.L[((((v7.toNat : Nat) : Int).tdiv 16).tmod ((r6.L.length : Nat) : Int)).toNat]? = some v8) ∧
      (I64 ((((v7.toNat : Nat) : Int).tmod 16).tdiv 2)) ∧
      ∃ (r9 : Grown), (R_ref10_Admit r6.L v8.Name (Vec.mk (((v7.toNat : Nat) : Int).tmod 16) ((((v7.toNat : Nat) : Int).tmod 16).tdiv 2) ((((v7.toNat : Nat) : Int).tmod 16).tmod 3)) r9) ∧
      ((r9.E = 0) →
       (I64 (i1 + 3)) ∧
       At_law12_Make_1b ns r9.L (i1 + 3) r) ∧
      (¬ (r9.E = 0) →
       (I64 (i1 + 3)) ∧
       At_law12_Make_1b ns r6.L (i1 + 3) r)) ∧
     (¬ (r6.E = 0) →
      (I64 (i1 + 3)) ∧
      At_law12_Make_1c ns (i1 + 3) l2 r)) ∧
    (¬ (0 < (((v3.toNat : Nat) : Int).tmod 3)) →
     (I64 (i1 + 1)) ∧
     (0 ≤ (i1 + 1)) ∧
     ∃ (v14 : UInt8), (ns[(i1 + 1).toNat]? = some v14) ∧
     (I64 (((v14.toNat : Nat) : Int))) ∧
     (I64 (20 + ((v14.toNat : Nat) : Int))) ∧
     (I64 (((l2.length : Nat) : Int) * 5)) ∧
     (I64 (97 + ((((l2.length : Nat) : Int) * 5).tmod 24))) ∧
     (U8 ((97 + ((((l2.length : Nat) : Int) * 5).tmod 24)))) ∧
     ∃ (r15 : Grown), (R_ref10_Create l2 [(UInt8.ofNat ((97 + ((((l2.length : Nat) : Int) * 5).tmod 24))).toNat)] [] (Vec.mk (20 + ((v14.toNat : Nat) : Int)) (20 + ((v14.toNat : Nat) : Int)) (20 + ((v14.toNat : Nat) : Int))) r15) ∧
     ((r15.E = 0) →
      (I64 (i1 + 2)) ∧
      (0 ≤ (i1 + 2)) ∧
      ∃ (v16 : UInt8), (ns[(i1 + 2).toNat]? = some v16) ∧
      (I64 (((v16.toNat : Nat) : Int))) ∧
      (I64 (i1 + 2)) ∧
      (I64 (((v16.toNat : Nat) : Int))) ∧
      (I64 (((v16.toNat : Nat) : Int).tdiv 16)) ∧
      ¬ (((r15.L.length : Nat) : Int) = 0) ∧
      (0 ≤ ((((v16.toNat : Nat) : Int).tdiv 16).tmod ((r15.L.length : Nat) : Int))) ∧
      ∃ (v17 : Item), (r15.L[((((v16.toNat : Nat) : Int).tdiv 16).tmod ((r15.L.length : Nat) : Int)).toNat]? = some v17) ∧
      (I64 ((((v16.toNat : Nat) : Int).tmod 16).tdiv 2)) ∧
      ∃ (r18 : Grown), (R_ref10_Admit r15.L v17.Name (Vec.mk (((v16.toNat : Nat) : Int).tmod 16) ((((v16.toNat : Nat) : Int).tmod 16).tdiv 2) ((((v16.toNat : Nat) : Int).tmod 16).tmod 3)) r18) ∧
      ((r18.E = 0) →
       (I64 (i1 + 3)) ∧
       At_law12_Make_1b ns r18.L (i1 + 3) r) ∧
      (¬ (r18.E = 0) →
       (I64 (i1 + 3)) ∧
       At_law12_Make_1b ns r15.L (i1 + 3) r)) ∧
     (¬ (r15.E = 0) →
      (I64 (i1 + 3)) ∧
      At_law12_Make_1c ns (i1 + 3) l2 r))) ∧
   (¬ (0 < ((l2.length : Nat) : Int)) →
    (I64 (i1 + 1)) ∧
    (0 ≤ (i1 + 1)) ∧
    ∃ (v19 : UInt8), (ns[(i1 + 1).toNat]? = some v19) ∧
    (I64 (((v19.toNat : Nat) : Int))) ∧
    (I64 (20 + ((v19.toNat : Nat) : Int))) ∧
    (I64 (((l2.length : Nat) : Int) * 5)) ∧
    (I64 (97 + ((((l2.length : Nat) : Int) * 5).tmod 24))) ∧
    (U8 ((97 + ((((l2.length : Nat) : Int) * 5).tmod 24)))) ∧
    ∃ (r20 : Grown), (R_ref10_Create l2 [(UInt8.ofNat ((97 + ((((l2.length : Nat) : Int) * 5).tmod 24))).toNat)] [] (Vec.mk (20 + ((v19.toNat : Nat) : Int)) (20 + ((v19.toNat : Nat) : Int)) (20 + ((v19.toNat : Nat) : Int))) r20) ∧
    ((r20.E = 0) →
     (I64 (i1 + 2)) ∧
     (0 ≤ (i1 + 2)) ∧
     ∃ (v21 : UInt8), (ns[(i1 + 2).toNat]? = some v21) ∧
     (I64 (((v21.toNat : Nat) : Int))) ∧
     (I64 (i1 + 2)) ∧
     (I64 (((v21.toNat : Nat) : Int))) ∧
     (I64 (((v21.toNat : Nat) : Int).tdiv 16)) ∧
     ¬ (((r20.L.length : Nat) : Int) = 0) ∧
     (0 ≤ ((((v21.toNat : Nat) : Int).tdiv 16).tmod ((r20.L.length : Nat) : Int))) ∧
     ∃ (v22 : Item), (r20.L[((((v21.toNat : Nat) : Int).tdiv 16).tmod ((r20.L.length : Nat) : Int)).toNat]? = some v22) ∧
     (I64 ((((v21.toNat : Nat) : Int).tmod 16).tdiv 2)) ∧
     ∃ (r23 : Grown), (R_ref10_Admit r20.L v22.Name (Vec.mk (((v21.toNat : Nat) : Int).tmod 16) ((((v21.toNat : Nat) : Int).tmod 16).tdiv 2) ((((v21.toNat : Nat) : Int).tmod 16).tmod 3)) r23) ∧
     ((r23.E = 0) →
      (I64 (i1 + 3)) ∧
      At_law12_Make_1b ns r23.L (i1 + 3) r) ∧
     (¬ (r23.E = 0) →
      (I64 (i1 + 3)) ∧
      At_law12_Make_1b ns r20.L (i1 + 3) r)) ∧
    (¬ (r20.E = 0) →
     (I64 (i1 + 3)) ∧
     At_law12_Make_1c ns (i1 + 3) l2 r))) ∧
  (¬ (((l2.length : Nat) : Int) < 24) →
   l2 = r)) ∧
 (¬ ((i1 + 2) < ((ns.length : Nat) : Int)) →
  l2 = r)) : At_law12_Make_1 ns i1 l2 r := by
 obtain ⟨p1, T⟩ := T
 by_cases c2 : (i1 + 2) < ((ns.length : Nat) : Int)
 · replace T := T.1 c2
   by_cases c3 : ((l2.length : Nat) : Int) < 24
   · replace T := T.1 c3
     obtain ⟨p4, v3, q5, p6, T⟩ := T
     by_cases c7 : 0 < ((l2.length : Nat) : Int)
     · replace T := T.1 c7
       by_cases c8 : 0 < (((v3.toNat : Nat) : Int).tmod 3)
       · replace T := T.1 c8
         obtain ⟨p9, p10, p11, p12, v4, q13, p14, p15, v5, q16, p17, p18, p19, p20, p21, r6, q22, T⟩ := T
         simp only [R_ref10_Create, le] at q22
         by_cases c23 : r6.E = 0
         · replace T := T.1 c23
           obtain ⟨p24, p25, v7, q26, p27, p28, p29, p30, p31, p32, v8, q33, p34, r9, q35, T⟩ := T
           simp only [R_ref10_Admit, le] at q35
           by_cases c36 : r9.E = 0
           · replace T := T.1 c36
             obtain ⟨p37, T⟩ := T
             rcases T with T | T
             · left
               intro S e f h
               unfold k_law12_Make_1
               rw [E_loop]
               try simp only [h, p1.wrap, eq_true c2, eq_true c3, p4, q5, p6.wrap, eq_true c7, eq_true c8, p9.wrap, eq_false p10, p11, p12, q13, p14.wrap, p15, q16, p17.wrap, p18.wrap, p19.wrap, p20.wrap, p21.wrap, q22, eq_true c23, p24.wrap, p25, q26, p27.wrap, p28.wrap, p29.wrap, p30.wrap, eq_false p31, p32, q33, p34.wrap, q35, eq_true c36, p37.wrap, U_law12_Make, lw, le, Nat.zero_le, Nat.sub_zero, take_app3, set_get, take_set, List.length_set, List.map_set, reduceIte, reduceCtorEq, Nat.reduceEqDiff, Nat.reduceAdd, Nat.reduceLeDiff, Nat.reduceSub, Nat.reduceLT, Int.reduceEq, Int.reduceLT, Int.reduceLE, Int.reduceToNat, Int.reduceAdd, Int.reduceSub, Int.reduceMul, Int.reduceNeg, Int.cast_ofNat_Int]
               refine T S _ _ ?_
               simp only [h, p1.wrap, eq_true c2, eq_true c3, p4, q5, p6.wrap, eq_true c7, eq_true c8, p9.wrap, eq_false p10, p11, p12, q13, p14.wrap, p15, q16, p17.wrap, p18.wrap, p19.wrap, p20.wrap, p21.wrap, q22, eq_true c23, p24.wrap, p25, q26, p27.wrap, p28.wrap, p29.wrap, p30.wrap, eq_false p31, p32, q33, p34.wrap, q35, eq_true c36, p37.wrap, U_law12_Make, lw, le, Nat.zero_le, Nat.sub_zero, take_app3, set_get, take_set, List.length_set, List.map_set, reduceIte, reduceCtorEq, Nat.reduceEqDiff, Nat.reduceAdd, Nat.reduceLeDiff, Nat.reduceSub, Nat.reduceLT, Int.reduceEq, Int.reduceLT, Int.reduceLE, Int.reduceToNat, Int.reduceAdd, Int.reduceSub, Int.reduceMul, Int.reduceNeg, Int.cast_ofNat_Int]
             · right
               intro S e f h
               unfold k_law12_Make_1
               rw [E_loop]
               try simp only [h, p1.wrap, eq_true c2, eq_true c3, p4, q5, p6.wrap, eq_true c7, eq_true c8, p9.wrap, eq_false p10, p11, p12, q13, p14.wrap, p15, q16, p17.wrap, p18.wrap, p19.wrap, p20.wrap, p21.wrap, q22, eq_true c23, p24.wrap, p25, q26, p27.wrap, p28.wrap, p29.wrap, p30.wrap, eq_false p31, p32, q33, p34.wrap, q35, eq_true c36, p37.wrap, U_law12_Make, lw, le, Nat.zero_le, Nat.sub_zero, take_app3, set_get, take_set, List.length_set, List.map_set, reduceIte, reduceCtorEq, Nat.reduceEqDiff, Nat.reduceAdd, Nat.reduceLeDiff, Nat.reduceSub, Nat.reduceLT, Int.reduceEq, Int.reduceLT, Int.reduceLE, Int.reduceToNat, Int.reduceAdd, Int.reduceSub, Int.reduceMul, Int.reduceNeg, Int.cast_ofNat_Int]
               refine T S _ _ ?_
               simp only [h, p1.wrap, eq_true c2, eq_true c3, p4, q5, p6.wrap, eq_true c7, eq_true c8, p9.wrap, eq_false p10, p11, p12, q13, p14.wrap, p15, q16, p17.wrap, p18.wrap, p19.wrap, p20.wrap, p21.wrap, q22, eq_true c23, p24.wrap, p25, q26, p27.wrap, p28.wrap, p29.wrap, p30.wrap, eq_false p31, p32, q33, p34.wrap, q35, eq_true c36, p37.wrap, U_law12_Make, lw, le, Nat.zero_le, Nat.sub_zero, take_app3, set_get, take_set, List.length_set, List.map_set, reduceIte, reduceCtorEq, Nat.reduceEqDiff, Nat.reduceAdd, Nat.reduceLeDiff, Nat.reduceSub, Nat.reduceLT, Int.reduceEq, Int.reduceLT, Int.reduceLE, Int.reduceToNat, Int.reduceAdd, Int.reduceSub, Int.reduceMul, Int.reduceNeg, Int.cast_ofNat_Int]
           · replace T := T.2 c36
             obtain ⟨p38, T⟩ := T
             rcases T with T | T
             · left
               intro S e f h
               unfold k_law12_Make_1
               rw [E_loop]
               try simp only [h, p1.wrap, eq_true c2, eq_true c3, p4, q5, p6.wrap, eq_true c7, eq_true c8, p9.wrap, eq_false p10, p11, p12, q13, p14.wrap, p15, q16, p17.wrap, p18.wrap, p19.wrap, p20.wrap, p21.wrap, q22, eq_true c23, p24.wrap, p25, q26, p27.wrap, p28.wrap, p29.wrap, p30.wrap, eq_false p31, p32, q33, p34.wrap, q35, eq_false c36, p38.wrap, U_law12_Make, lw, le, Nat.zero_le, Nat.sub_zero, take_app3, set_get, take_set, List.length_set, List.map_set, reduceIte, reduceCtorEq, Nat.reduceEqDiff, Nat.reduceAdd, Nat.reduceLeDiff, Nat.reduceSub, Nat.reduceLT, Int.reduceEq, Int.reduceLT, Int.reduceLE, Int.reduceToNat, Int.reduceAdd, Int.reduceSub, Int.reduceMul, Int.reduceNeg, Int.cast_ofNat_Int]
               refine T S _ _ ?_
               simp only [h, p1.wrap, eq_true c2, eq_true c3, p4, q5, p6.wrap, eq_true c7, eq_true c8, p9.wrap, eq_false p10, p11, p12, q13, p14.wrap, p15, q16, p17.wrap, p18.wrap, p19.wrap, p20.wrap, p21.wrap, q22, eq_true c23, p24.wrap, p25, q26, p27.wrap, p28.wrap, p29.wrap, p30.wrap, eq_false p31, p32, q33, p34.wrap, q35, eq_false c36, p38.wrap, U_law12_Make, lw, le, Nat.zero_le, Nat.sub_zero, take_app3, set_get, take_set, List.length_set, List.map_set, reduceIte, reduceCtorEq, Nat.reduceEqDiff, Nat.reduceAdd, Nat.reduceLeDiff, Nat.reduceSub, Nat.reduceLT, Int.reduceEq, Int.reduceLT, Int.reduceLE, Int.reduceToNat, Int.reduceAdd, Int.reduceSub, Int.reduceMul, Int.reduceNeg, Int.cast_ofNat_Int]
             · right
               intro S e f h
               unfold k_law12_Make_1
               rw [E_loop]
               try simp only [h, p1.wrap, eq_true c2, eq_true c3, p4, q5, p6.wrap, eq_true c7, eq_true c8, p9.wrap, eq_false p10, p11, p12, q13, p14.wrap, p15, q16, p17.wrap, p18.wrap, p19.wrap, p20.wrap, p21.wrap, q22, eq_true c23, p24.wrap, p25, q26, p27.wrap, p28.wrap, p29.wrap, p30.wrap, eq_false p31, p32, q33, p34.wrap, q35, eq_false c36, p38.wrap, U_law12_Make, lw, le, Nat.zero_le, Nat.sub_zero, take_app3, set_get, take_set, List.length_set, List.map_set, reduceIte, reduceCtorEq, Nat.reduceEqDiff, Nat.reduceAdd, Nat.reduceLeDiff, Nat.reduceSub, Nat.reduceLT, Int.reduceEq, Int.reduceLT, Int.reduceLE, Int.reduceToNat, Int.reduceAdd, Int.reduceSub, Int.reduceMul, Int.reduceNeg, Int.cast_ofNat_Int]
               refine T S _ _ ?_
               simp only [h, p1.wrap, eq_true c2, eq_true c3, p4, q5, p6.wrap, eq_true c7, eq_true c8, p9.wrap, eq_false p10, p11, p12, q13, p14.wrap, p15, q16, p17.wrap, p18.wrap, p19.wrap, p20.wrap, p21.wrap, q22, eq_true c23, p24.wrap, p25, q26, p27.wrap, p28.wrap, p29.wrap, p30.wrap, eq_false p31, p32, q33, p34.wrap, q35, eq_false c36, p38.wrap, U_law12_Make, lw, le, Nat.zero_le, Nat.sub_zero, take_app3, set_get, take_set, List.length_set, List.map_set, reduceIte, reduceCtorEq, Nat.reduceEqDiff, Nat.reduceAdd, Nat.reduceLeDiff, Nat.reduceSub, Nat.reduceLT, Int.reduceEq, Int.reduceLT, Int.reduceLE, Int.reduceToNat, Int.reduceAdd, Int.reduceSub, Int.reduceMul, Int.reduceNeg, Int.cast_ofNat_Int]
         · replace T := T.2 c23
           obtain ⟨p39, T⟩ := T
           rcases T with T | T
           · left
             intro S e f h
             unfold k_law12_Make_1
             rw [E_loop]
             try simp only [h, p1.wrap, eq_true c2, eq_true c3, p4, q5, p6.wrap, eq_true c7, eq_true c8, p9.wrap, eq_false p10, p11, p12, q13, p14.wrap, p15, q16, p17.wrap, p18.wrap, p19.wrap, p20.wrap, p21.wrap, q22, eq_false c23, p39.wrap, U_law12_Make, lw, le, Nat.zero_le, Nat.sub_zero, take_app3, set_get, take_set, List.length_set, List.map_set, reduceIte, reduceCtorEq, Nat.reduceEqDiff, Nat.reduceAdd, Nat.reduceLeDiff, Nat.reduceSub, Nat.reduceLT, Int.reduceEq, Int.reduceLT, Int.reduceLE, Int.reduceToNat, Int.reduceAdd, Int.reduceSub, Int.reduceMul, Int.reduceNeg, Int.cast_ofNat_Int]
             refine T S _ _ ?_
             simp only [h, p1.wrap, eq_true c2, eq_true c3, p4, q5, p6.wrap, eq_true c7, eq_true c8, p9.wrap, eq_false p10, p11, p12, q13, p14.wrap, p15, q16, p17.wrap, p18.wrap, p19.wrap, p20.wrap, p21.wrap, q22, eq_false c23, p39.wrap, U_law12_Make, lw, le, Nat.zero_le, Nat.sub_zero, take_app3, set_get, take_set, List.length_set, List.map_set, reduceIte, reduceCtorEq, Nat.reduceEqDiff, Nat.reduceAdd, Nat.reduceLeDiff, Nat.reduceSub, Nat.reduceLT, Int.reduceEq, Int.reduceLT, Int.reduceLE, Int.reduceToNat, Int.reduceAdd, Int.reduceSub, Int.reduceMul, Int.reduceNeg, Int.cast_ofNat_Int]
           · right
             intro S e f h
             unfold k_law12_Make_1
             rw [E_loop]
             try simp only [h, p1.wrap, eq_true c2, eq_true c3, p4, q5, p6.wrap, eq_true c7, eq_true c8, p9.wrap, eq_false p10, p11, p12, q13, p14.wrap, p15, q16, p17.wrap, p18.wrap, p19.wrap, p20.wrap, p21.wrap, q22, eq_false c23, p39.wrap, U_law12_Make, lw, le, Nat.zero_le, Nat.sub_zero, take_app3, set_get, take_set, List.length_set, List.map_set, reduceIte, reduceCtorEq, Nat.reduceEqDiff, Nat.reduceAdd, Nat.reduceLeDiff, Nat.reduceSub, Nat.reduceLT, Int.reduceEq, Int.reduceLT, Int.reduceLE, Int.reduceToNat, Int.reduceAdd, Int.reduceSub, Int.reduceMul, Int.reduceNeg, Int.cast_ofNat_Int]
             refine T S _ _ ?_
             simp only [h, p1.wrap, eq_true c2, eq_true c3, p4, q5, p6.wrap, eq_true c7, eq_true c8, p9.wrap, eq_false p10, p11, p12, q13, p14.wrap, p15, q16, p17.wrap, p18.wrap, p19.wrap, p20.wrap, p21.wrap, q22, eq_false c23, p39.wrap, U_law12_Make, lw, le, Nat.zero_le, Nat.sub_zero, take_app3, set_get, take_set, List.length_set, List.map_set, reduceIte, reduceCtorEq, Nat.reduceEqDiff, Nat.reduceAdd, Nat.reduceLeDiff, Nat.reduceSub, Nat.reduceLT, Int.reduceEq, Int.reduceLT, Int.reduceLE, Int.reduceToNat, Int.reduceAdd, Int.reduceSub, Int.reduceMul, Int.reduceNeg, Int.cast_ofNat_Int]
       · replace T := T.2 c8
         obtain ⟨p40, p41, v14, q42, p43, p44, p45, p46, p47, r15, q48, T⟩ := T
         simp only [R_ref10_Create, le] at q48
         by_cases c49 : r15.E = 0
         · replace T := T.1 c49
           obtain ⟨p50, p51, v16, q52, p53, p54, p55, p56, p57, p58, v17, q59, p60, r18, q61, T⟩ := T
           simp only [R_ref10_Admit, le] at q61
           by_cases c62 : r18.E = 0
           · replace T := T.1 c62
             obtain ⟨p63, T⟩ := T
             rcases T with T | T
             · left
               intro S e f h
               unfold k_law12_Make_1
               rw [E_loop]
               try simp only [h, p1.wrap, eq_true c2, eq_true c3, p4, q5, p6.wrap, eq_true c7, eq_false c8, p40.wrap, p41, q42, p43.wrap, p44.wrap, p45.wrap, p46.wrap, p47.wrap, q48, eq_true c49, p50.wrap, p51, q52, p53.wrap, p54.wrap, p55.wrap, p56.wrap, eq_false p57, p58, q59, p60.wrap, q61, eq_true c62, p63.wrap, U_law12_Make, lw, le, Nat.zero_le, Nat.sub_zero, take_app3, set_get, take_set, List.length_set, List.map_set, reduceIte, reduceCtorEq, Nat.reduceEqDiff, Nat.reduceAdd, Nat.reduceLeDiff, Nat.reduceSub, Nat.reduceLT, Int.reduceEq, Int.reduceLT, Int.reduceLE, Int.reduceToNat, Int.reduceAdd, Int.reduceSub, Int.reduceMul, Int.reduceNeg, Int.cast_ofNat_Int]
               refine T S _ _ ?_
               simp only [h, p1.wrap, eq_true c2, eq_true c3, p4, q5, p6.wrap, eq_true c7, eq_false c8, p40.wrap, p41, q42, p43.wrap, p44.wrap, p45.wrap, p46.wrap, p47.wrap, q48, eq_true c49, p50.wrap, p51, q52, p53.wrap, p54.wrap, p55.wrap, p56.wrap, eq_false p57, p58, q59, p60.wrap, q61, eq_true c62, p63.wrap, U_law12_Make, lw, le, Nat.zero_le, Nat.sub_zero, take_app3, set_get, take_set, List.length_set, List.map_set, reduceIte, reduceCtorEq, Nat.reduceEqDiff, Nat.reduceAdd, Nat.reduceLeDiff, Nat.reduceSub, Nat.reduceLT, Int.reduceEq, Int.reduceLT, Int.reduceLE, Int.reduceToNat, Int.reduceAdd, Int.reduceSub, Int.reduceMul, Int.reduceNeg, Int.cast_ofNat_Int]
             · right
               intro S e f h
               unfold k_law12_Make_1
               rw [E_loop]
               try simp only [h, p1.wrap, eq_true c2, eq_true c3, p4, q5, p6.wrap, eq_true c7, eq_false c8, p40.wrap, p41, q42, p43.wrap, p44.wrap, p45.wrap, p46.wrap, p47.wrap, q48, eq_true c49, p50.wrap, p51, q52, p53.wrap, p54.wrap, p55.wrap, p56.wrap, eq_false p57, p58, q59, p60.wrap, q61, eq_true c62, p63.wrap, U_law12_Make, lw, le, Nat.zero_le, Nat.sub_zero, take_app3, set_get, take_set, List.length_set, List.map_set, reduceIte, reduceCtorEq, Nat.reduceEqDiff, Nat.reduceAdd, Nat.reduceLeDiff, Nat.reduceSub, Nat.reduceLT, Int.reduceEq, Int.reduceLT, Int.reduceLE, Int.reduceToNat, Int.reduceAdd, Int.reduceSub, Int.reduceMul, Int.reduceNeg, Int.cast_ofNat_Int]
               refine T S _ _ ?_
               simp only [h, p1.wrap, eq_true c2, eq_true c3, p4, q5, p6.wrap, eq_true c7, eq_false c8, p40.wrap, p41, q42, p43.wrap, p44.wrap, p45.wrap, p46.wrap, p47.wrap, q48, eq_true c49, p50.wrap, p51, q52, p53.wrap, p54.wrap, p55.wrap, p56.wrap, eq_false p57, p58, q59, p60.wrap, q61, eq_true c62, p63.wrap, U_law12_Make, lw, le, Nat.zero_le, Nat.sub_zero, take_app3, set_get, take_set, List.length_set, List.map_set, reduceIte, reduceCtorEq, Nat.reduceEqDiff, Nat.reduceAdd, Nat.reduceLeDiff, Nat.reduceSub, Nat.reduceLT, Int.reduceEq, Int.reduceLT, Int.reduceLE, Int.reduceToNat, Int.reduceAdd, Int.reduceSub, Int.reduceMul, Int.reduceNeg, Int.cast_ofNat_Int]
           · replace T := T.2 c62
             obtain ⟨p64, T⟩ := T
             rcases T with T | T
             · left
               intro S e f h
               unfold k_law12_Make_1
               rw [E_loop]
               try simp only [h, p1.wrap, eq_true c2, eq_true c3, p4, q5, p6.wrap, eq_true c7, eq_false c8, p40.wrap, p41, q42, p43.wrap, p44.wrap, p45.wrap, p46.wrap, p47.wrap, q48, eq_true c49, p50.wrap, p51, q52, p53.wrap, p54.wrap, p55.wrap, p56.wrap, eq_false p57, p58, q59, p60.wrap, q61, eq_false c62, p64.wrap, U_law12_Make, lw, le, Nat.zero_le, Nat.sub_zero, take_app3, set_get, take_set, List.length_set, List.map_set, reduceIte, reduceCtorEq, Nat.reduceEqDiff, Nat.reduceAdd, Nat.reduceLeDiff, Nat.reduceSub, Nat.reduceLT, Int.reduceEq, Int.reduceLT, Int.reduceLE, Int.reduceToNat, Int.reduceAdd, Int.reduceSub, Int.reduceMul, Int.reduceNeg, Int.cast_ofNat_Int]
               refine T S _ _ ?_
               simp only [h, p1.wrap, eq_true c2, eq_true c3, p4, q5, p6.wrap, eq_true c7, eq_false c8, p40.wrap, p41, q42, p43.wrap, p44.wrap, p45.wrap, p46.wrap, p47.wrap, q48, eq_true c49, p50.wrap, p51, q52, p53.wrap, p54.wrap, p55.wrap, p56.wrap, eq_false p57, p58, q59, p60.wrap, q61, eq_false c62, p64.wrap, U_law12_Make, lw, le, Nat.zero_le, Nat.sub_zero, take_app3, set_get, take_set, List.length_set, List.map_set, reduceIte, reduceCtorEq, Nat.reduceEqDiff, Nat.reduceAdd, Nat.reduceLeDiff, Nat.reduceSub, Nat.reduceLT, Int.reduceEq, Int.reduceLT, Int.reduceLE, Int.reduceToNat, Int.reduceAdd, Int.reduceSub, Int.reduceMul, Int.reduceNeg, Int.cast_ofNat_Int]
             · right
               intro S e f h
               unfold k_law12_Make_1
               rw [E_loop]
               try simp only [h, p1.wrap, eq_true c2, eq_true c3, p4, q5, p6.wrap, eq_true c7, eq_false c8, p40.wrap, p41, q42, p43.wrap, p44.wrap, p45.wrap, p46.wrap, p47.wrap, q48, eq_true c49, p50.wrap, p51, q52, p53.wrap, p54.wrap, p55.wrap, p56.wrap, eq_false p57, p58, q59, p60.wrap, q61, eq_false c62, p64.wrap, U_law12_Make, lw, le, Nat.zero_le, Nat.sub_zero, take_app3, set_get, take_set, List.length_set, List.map_set, reduceIte, reduceCtorEq, Nat.reduceEqDiff, Nat.reduceAdd, Nat.reduceLeDiff, Nat.reduceSub, Nat.reduceLT, Int.reduceEq, Int.reduceLT, Int.reduceLE, Int.reduceToNat, Int.reduceAdd, Int.reduceSub, Int.reduceMul, Int.reduceNeg, Int.cast_ofNat_Int]
               refine T S _ _ ?_
               simp only [h, p1.wrap, eq_true c2, eq_true c3, p4, q5, p6.wrap, eq_true c7, eq_false c8, p40.wrap, p41, q42, p43.wrap, p44.wrap, p45.wrap, p46.wrap, p47.wrap, q48, eq_true c49, p50.wrap, p51, q52, p53.wrap, p54.wrap, p55.wrap, p56.wrap, eq_false p57, p58, q59, p60.wrap, q61, eq_false c62, p64.wrap, U_law12_Make, lw, le, Nat.zero_le, Nat.sub_zero, take_app3, set_get, take_set, List.length_set, List.map_set, reduceIte, reduceCtorEq, Nat.reduceEqDiff, Nat.reduceAdd, Nat.reduceLeDiff, Nat.reduceSub, Nat.reduceLT, Int.reduceEq, Int.reduceLT, Int.reduceLE, Int.reduceToNat, Int.reduceAdd, Int.reduceSub, Int.reduceMul, Int.reduceNeg, Int.cast_ofNat_Int]
         · replace T := T.2 c49
           obtain ⟨p65, T⟩ := T
           rcases T with T | T
           · left
             intro S e f h
             unfold k_law12_Make_1
             rw [E_loop]
             try simp only [h, p1.wrap, eq_true c2, eq_true c3, p4, q5, p6.wrap, eq_true c7, eq_false c8, p40.wrap, p41, q42, p43.wrap, p44.wrap, p45.wrap, p46.wrap, p47.wrap, q48, eq_false c49, p65.wrap, U_law12_Make, lw, le, Nat.zero_le, Nat.sub_zero, take_app3, set_get, take_set, List.length_set, List.map_set, reduceIte, reduceCtorEq, Nat.reduceEqDiff, Nat.reduceAdd, Nat.reduceLeDiff, Nat.reduceSub, Nat.reduceLT, Int.reduceEq, Int.reduceLT, Int.reduceLE, Int.reduceToNat, Int.reduceAdd, Int.reduceSub, Int.reduceMul, Int.reduceNeg, Int.cast_ofNat_Int]
             refine T S _ _ ?_
             simp only [h, p1.wrap, eq_true c2, eq_true c3, p4, q5, p6.wrap, eq_true c7, eq_false c8, p40.wrap, p41, q42, p43.wrap, p44.wrap, p45.wrap, p46.wrap, p47.wrap, q48, eq_false c49, p65.wrap, U_law12_Make, lw, le, Nat.zero_le, Nat.sub_zero, take_app3, set_get, take_set, List.length_set, List.map_set, reduceIte, reduceCtorEq, Nat.reduceEqDiff, Nat.reduceAdd, Nat.reduceLeDiff, Nat.reduceSub, Nat.reduceLT, Int.reduceEq, Int.reduceLT, Int.reduceLE, Int.reduceToNat, Int.reduceAdd, Int.reduceSub, Int.reduceMul, Int.reduceNeg, Int.cast_ofNat_Int]
           · right
             intro S e f h
             unfold k_law12_Make_1
             rw [E_loop]
             try simp only [h, p1.wrap, eq_true c2, eq_true c3, p4, q5, p6.wrap, eq_true c7, eq_false c8, p40.wrap, p41, q42, p43.wrap, p44.wrap, p45.wrap, p46.wrap, p47.wrap, q48, eq_false c49, p65.wrap, U_law12_Make, lw, le, Nat.zero_le, Nat.sub_zero, take_app3, set_get, take_set, List.length_set, List.map_set, reduceIte, reduceCtorEq, Nat.reduceEqDiff, Nat.reduceAdd, Nat.reduceLeDiff, Nat.reduceSub, Nat.reduceLT, Int.reduceEq, Int.reduceLT, Int.reduceLE, Int.reduceToNat, Int.reduceAdd, Int.reduceSub, Int.reduceMul, Int.reduceNeg, Int.cast_ofNat_Int]
             refine T S _ _ ?_
             simp only [h, p1.wrap, eq_true c2, eq_true c3, p4, q5, p6.wrap, eq_true c7, eq_false c8, p40.wrap, p41, q42, p43.wrap, p44.wrap, p45.wrap, p46.wrap, p47.wrap, q48, eq_false c49, p65.wrap, U_law12_Make, lw, le, Nat.zero_le, Nat.sub_zero, take_app3, set_get, take_set, List.length_set, List.map_set, reduceIte, reduceCtorEq, Nat.reduceEqDiff, Nat.reduceAdd, Nat.reduceLeDiff, Nat.reduceSub, Nat.reduceLT, Int.reduceEq, Int.reduceLT, Int.reduceLE, Int.reduceToNat, Int.reduceAdd, Int.reduceSub, Int.reduceMul, Int.reduceNeg, Int.cast_ofNat_Int]
     · replace T := T.2 c7
       obtain ⟨p66, p67, v19, q68, p69, p70, p71, p72, p73, r20, q74, T⟩ := T
       simp only [R_ref10_Create, le] at q74
       by_cases c75 : r20.E = 0
       · replace T := T.1 c75
         obtain ⟨p76, p77, v21, q78, p79, p80, p81, p82, p83, p84, v22, q85, p86, r23, q87, T⟩ := T
         simp only [R_ref10_Admit, le] at q87
         by_cases c88 : r23.E = 0
         · replace T := T.1 c88
           obtain ⟨p89, T⟩ := T
           rcases T with T | T
           · left
             intro S e f h
             unfold k_law12_Make_1
             rw [E_loop]
             try simp only [h, p1.wrap, eq_true c2, eq_true c3, p4, q5, p6.wrap, eq_false c7, p66.wrap, p67, q68, p69.wrap, p70.wrap, p71.wrap, p72.wrap, p73.wrap, q74, eq_true c75, p76.wrap, p77, q78, p79.wrap, p80.wrap, p81.wrap, p82.wrap, eq_false p83, p84, q85, p86.wrap, q87, eq_true c88, p89.wrap, U_law12_Make, lw, le, Nat.zero_le, Nat.sub_zero, take_app3, set_get, take_set, List.length_set, List.map_set, reduceIte, reduceCtorEq, Nat.reduceEqDiff, Nat.reduceAdd, Nat.reduceLeDiff, Nat.reduceSub, Nat.reduceLT, Int.reduceEq, Int.reduceLT, Int.reduceLE, Int.reduceToNat, Int.reduceAdd, Int.reduceSub, Int.reduceMul, Int.reduceNeg, Int.cast_ofNat_Int]
             refine T S _ _ ?_
             simp only [h, p1.wrap, eq_true c2, eq_true c3, p4, q5, p6.wrap, eq_false c7, p66.wrap, p67, q68, p69.wrap, p70.wrap, p71.wrap, p72.wrap, p73.wrap, q74, eq_true c75, p76.wrap, p77, q78, p79.wrap, p80.wrap, p81.wrap, p82.wrap, eq_false p83, p84, q85, p86.wrap, q87, eq_true c88, p89.wrap, U_law12_Make, lw, le, Nat.zero_le, Nat.sub_zero, take_app3, set_get, take_set, List.length_set, List.map_set, reduceIte, reduceCtorEq, Nat.reduceEqDiff, Nat.reduceAdd, Nat.reduceLeDiff, Nat.reduceSub, Nat.reduceLT, Int.reduceEq, Int.reduceLT, Int.reduceLE, Int.reduceToNat, Int.reduceAdd, Int.reduceSub, Int.reduceMul, Int.reduceNeg, Int.cast_ofNat_Int]
           · right
             intro S e f h
             unfold k_law12_Make_1
             rw [E_loop]
             try simp only [h, p1.wrap, eq_true c2, eq_true c3, p4, q5, p6.wrap, eq_false c7, p66.wrap, p67, q68, p69.wrap, p70.wrap, p71.wrap, p72.wrap, p73.wrap, q74, eq_true c75, p76.wrap, p77, q78, p79.wrap, p80.wrap, p81.wrap, p82.wrap, eq_false p83, p84, q85, p86.wrap, q87, eq_true c88, p89.wrap, U_law12_Make, lw, le, Nat.zero_le, Nat.sub_zero, take_app3, set_get, take_set, List.length_set, List.map_set, reduceIte, reduceCtorEq, Nat.reduceEqDiff, Nat.reduceAdd, Nat.reduceLeDiff, Nat.reduceSub, Nat.reduceLT, Int.reduceEq, Int.reduceLT, Int.reduceLE, Int.reduceToNat, Int.reduceAdd, Int.reduceSub, Int.reduceMul, Int.reduceNeg, Int.cast_ofNat_Int]
             refine T S _ _ ?_
             simp only [h, p1.wrap, eq_true c2, eq_true c3, p4, q5, p6.wrap, eq_false c7, p66.wrap, p67, q68, p69.wrap, p70.wrap, p71.wrap, p72.wrap, p73.wrap, q74, eq_true c75, p76.wrap, p77, q78, p79.wrap, p80.wrap, p81.wrap, p82.wrap, eq_false p83, p84, q85, p86.wrap, q87, eq_true c88, p89.wrap, U_law12_Make, lw, le, Nat.zero_le, Nat.sub_zero, take_app3, set_get, take_set, List.length_set, List.map_set, reduceIte, reduceCtorEq, Nat.reduceEqDiff, Nat.reduceAdd, Nat.reduceLeDiff, Nat.reduceSub, Nat.reduceLT, Int.reduceEq, Int.reduceLT, Int.reduceLE, Int.reduceToNat, Int.reduceAdd, Int.reduceSub, Int.reduceMul, Int.reduceNeg, Int.cast_ofNat_Int]
         · replace T := T.2 c88
           obtain ⟨p90, T⟩ := T
           rcases T with T | T
           · left
             intro S e f h
             unfold k_law12_Make_1
             rw [E_loop]
             try simp only [h, p1.wrap, eq_true c2, eq_true c3, p4, q5, p6.wrap, eq_false c7, p66.wrap, p67, q68, p69.wrap, p70.wrap, p71.wrap, p72.wrap, p73.wrap, q74, eq_true c75, p76.wrap, p77, q78, p79.wrap, p80.wrap, p81.wrap, p82.wrap, eq_false p83, p84, q85, p86.wrap, q87, eq_false c88, p90.wrap, U_law12_Make, lw, le, Nat.zero_le, Nat.sub_zero, take_app3, set_get, take_set, List.length_set, List.map_set, reduceIte, reduceCtorEq, Nat.reduceEqDiff, Nat.reduceAdd, Nat.reduceLeDiff, Nat.reduceSub, Nat.reduceLT, Int.reduceEq, Int.reduceLT, Int.reduceLE, Int.reduceToNat, Int.reduceAdd, Int.reduceSub, Int.reduceMul, Int.reduceNeg, Int.cast_ofNat_Int]
             refine T S _ _ ?_
             simp only [h, p1.wrap, eq_true c2, eq_true c3, p4, q5, p6.wrap, eq_false c7, p66.wrap, p67, q68, p69.wrap, p70.wrap, p71.wrap, p72.wrap, p73.wrap, q74, eq_true c75, p76.wrap, p77, q78, p79.wrap, p80.wrap, p81.wrap, p82.wrap, eq_false p83, p84, q85, p86.wrap, q87, eq_false c88, p90.wrap, U_law12_Make, lw, le, Nat.zero_le, Nat.sub_zero, take_app3, set_get, take_set, List.length_set, List.map_set, reduceIte, reduceCtorEq, Nat.reduceEqDiff, Nat.reduceAdd, Nat.reduceLeDiff, Nat.reduceSub, Nat.reduceLT, Int.reduceEq, Int.reduceLT, Int.reduceLE, Int.reduceToNat, Int.reduceAdd, Int.reduceSub, Int.reduceMul, Int.reduceNeg, Int.cast_ofNat_Int]
           · right
             intro S e f h
             unfold k_law12_Make_1
             rw [E_loop]
             try simp only [h, p1.wrap, eq_true c2, eq_true c3, p4, q5, p6.wrap, eq_false c7, p66.wrap, p67, q68, p69.wrap, p70.wrap, p71.wrap, p72.wrap, p73.wrap, q74, eq_true c75, p76.wrap, p77, q78, p79.wrap, p80.wrap, p81.wrap, p82.wrap, eq_false p83, p84, q85, p86.wrap, q87, eq_false c88, p90.wrap, U_law12_Make, lw, le, Nat.zero_le, Nat.sub_zero, take_app3, set_get, take_set, List.length_set, List.map_set, reduceIte, reduceCtorEq, Nat.reduceEqDiff, Nat.reduceAdd, Nat.reduceLeDiff, Nat.reduceSub, Nat.reduceLT, Int.reduceEq, Int.reduceLT, Int.reduceLE, Int.reduceToNat, Int.reduceAdd, Int.reduceSub, Int.reduceMul, Int.reduceNeg, Int.cast_ofNat_Int]
             refine T S _ _ ?_
             simp only [h, p1.wrap, eq_true c2, eq_true c3, p4, q5, p6.wrap, eq_false c7, p66.wrap, p67, q68, p69.wrap, p70.wrap, p71.wrap, p72.wrap, p73.wrap, q74, eq_true c75, p76.wrap, p77, q78, p79.wrap, p80.wrap, p81.wrap, p82.wrap, eq_false p83, p84, q85, p86.wrap, q87, eq_false c88, p90.wrap, U_law12_Make, lw, le, Nat.zero_le, Nat.sub_zero, take_app3, set_get, take_set, List.length_set, List.map_set, reduceIte, reduceCtorEq, Nat.reduceEqDiff, Nat.reduceAdd, Nat.reduceLeDiff, Nat.reduceSub, Nat.reduceLT, Int.reduceEq, Int.reduceLT, Int.reduceLE, Int.reduceToNat, Int.reduceAdd, Int.reduceSub, Int.reduceMul, Int.reduceNeg, Int.cast_ofNat_Int]
       · replace T := T.2 c75
         obtain ⟨p91, T⟩ := T
         rcases T with T | T
         · left
           intro S e f h
           unfold k_law12_Make_1
           rw [E_loop]
           try simp only [h, p1.wrap, eq_true c2, eq_true c3, p4, q5, p6.wrap, eq_false c7, p66.wrap, p67, q68, p69.wrap, p70.wrap, p71.wrap, p72.wrap, p73.wrap, q74, eq_false c75, p91.wrap, U_law12_Make, lw, le, Nat.zero_le, Nat.sub_zero, take_app3, set_get, take_set, List.length_set, List.map_set, reduceIte, reduceCtorEq, Nat.reduceEqDiff, Nat.reduceAdd, Nat.reduceLeDiff, Nat.reduceSub, Nat.reduceLT, Int.reduceEq, Int.reduceLT, Int.reduceLE, Int.reduceToNat, Int.reduceAdd, Int.reduceSub, Int.reduceMul, Int.reduceNeg, Int.cast_ofNat_Int]
           refine T S _ _ ?_
           simp only [h, p1.wrap, eq_true c2, eq_true c3, p4, q5, p6.wrap, eq_false c7, p66.wrap, p67, q68, p69.wrap, p70.wrap, p71.wrap, p72.wrap, p73.wrap, q74, eq_false c75, p91.wrap, U_law12_Make, lw, le, Nat.zero_le, Nat.sub_zero, take_app3, set_get, take_set, List.length_set, List.map_set, reduceIte, reduceCtorEq, Nat.reduceEqDiff, Nat.reduceAdd, Nat.reduceLeDiff, Nat.reduceSub, Nat.reduceLT, Int.reduceEq, Int.reduceLT, Int.reduceLE, Int.reduceToNat, Int.reduceAdd, Int.reduceSub, Int.reduceMul, Int.reduceNeg, Int.cast_ofNat_Int]
         · right
           intro S e f h
           unfold k_law12_Make_1
           rw [E_loop]
           try simp only [h, p1.wrap, eq_true c2, eq_true c3, p4, q5, p6.wrap, eq_false c7, p66.wrap, p67, q68, p69.wrap, p70.wrap, p71.wrap, p72.wrap, p73.wrap, q74, eq_false c75, p91.wrap, U_law12_Make, lw, le, Nat.zero_le, Nat.sub_zero, take_app3, set_get, take_set, List.length_set, List.map_set, reduceIte, reduceCtorEq, Nat.reduceEqDiff, Nat.reduceAdd, Nat.reduceLeDiff, Nat.reduceSub, Nat.reduceLT, Int.reduceEq, Int.reduceLT, Int.reduceLE, Int.reduceToNat, Int.reduceAdd, Int.reduceSub, Int.reduceMul, Int.reduceNeg, Int.cast_ofNat_Int]
           refine T S _ _ ?_
           simp only [h, p1.wrap, eq_true c2, eq_true c3, p4, q5, p6.wrap, eq_false c7, p66.wrap, p67, q68, p69.wrap, p70.wrap, p71.wrap, p72.wrap, p73.wrap, q74, eq_false c75, p91.wrap, U_law12_Make, lw, le, Nat.zero_le, Nat.sub_zero, take_app3, set_get, take_set, List.length_set, List.map_set, reduceIte, reduceCtorEq, Nat.reduceEqDiff, Nat.reduceAdd, Nat.reduceLeDiff, Nat.reduceSub, Nat.reduceLT, Int.reduceEq, Int.reduceLT, Int.reduceLE, Int.reduceToNat, Int.reduceAdd, Int.reduceSub, Int.reduceMul, Int.reduceNeg, Int.cast_ofNat_Int]
   · replace T := T.2 c3
     obtain rfl := T
     right
     intro S e f h
     unfold k_law12_Make_1
     rw [E_loop]
     simp only [h, p1.wrap, eq_true c2, eq_false c3, U_law12_Make, lw, le, Nat.zero_le, Nat.sub_zero, take_app3, set_get, take_set, List.length_set, List.map_set, reduceIte, reduceCtorEq, Nat.reduceEqDiff, Nat.reduceAdd, Nat.reduceLeDiff, Nat.reduceSub, Nat.reduceLT, Int.reduceEq, Int.reduceLT, Int.reduceLE, Int.reduceToNat, Int.reduceAdd, Int.reduceSub, Int.reduceMul, Int.reduceNeg, Int.cast_ofNat_Int]
 · replace T := T.2 c2
   obtain rfl := T
   right
   intro S e f h
   unfold k_law12_Make_1
   rw [E_loop]
   simp only [h, p1.wrap, eq_false c2, U_law12_Make, lw, le, Nat.zero_le, Nat.sub_zero, take_app3, set_get, take_set, List.length_set, List.map_set, reduceIte, reduceCtorEq, Nat.reduceEqDiff, Nat.reduceAdd, Nat.reduceLeDiff, Nat.reduceSub, Nat.reduceLT, Int.reduceEq, Int.reduceLT, Int.reduceLE, Int.reduceToNat, Int.reduceAdd, Int.reduceSub, Int.reduceMul, Int.reduceNeg, Int.cast_ofNat_Int]
set_option maxHeartbeats 4000000 in
theorem At_law12_Make_1b_step (ns : List UInt8) (l10 : List Item) (i11 : Int) (r : List Item) (T :
  (I64 (i11 + 2)) ∧
 (((i11 + 2) < ((ns.length : Nat) : Int)) →
  ((((l10.length : Nat) : Int) < 24) →
   (0 ≤ i11) ∧
   ∃ (v24 : UInt8), (ns[i11.toNat]? = some v24) ∧
   (I64 (((v24.toNat : Nat) : Int))) ∧
   ((0 < ((l10.length : Nat) : Int)) →
    ((0 < (((v24.toNat : Nat) : Int).tmod 3)) →
     (I64 (((v24.toNat : Nat) : Int).tdiv 3)) ∧
     ¬ (((l10.length : Nat) : Int) = 0) ∧
     (0 ≤ ((((v24.toNat : Nat) : Int).tdiv 3).tmod ((l10.length : Nat) : Int))) ∧
     ∃ (v25 : Item), (l10[((((v24.toNat : Nat) : Int).tdiv 3).tmod ((l10.length : Nat) : Int)).toNat]? = some v25) ∧
     (I64 (i11 + 1)) ∧
     (0 ≤ (i11 + 1)) ∧
     ∃ (v26 : UInt8), (ns[(i11 + 1).toNat]? = some v26) ∧
     (I64 (((v26.toNat : Nat) : Int))) ∧
     (I64 (20 + ((v26.toNat : Nat) : Int))) ∧
     (I64 (((l10.length : Nat) : Int) * 5)) ∧
     (I64 (97 + ((((l10.length : Nat) : Int) * 5).tmod 24))) ∧
     (U8 ((97 + ((((l10.length : Nat) : Int) * 5).tmod 24)))) ∧
     ∃ (r27 : Grown), (R_ref10_Create l10 [(UInt8.ofNat ((97 + ((((l10.length : Nat) : Int) * 5).tmod 24))).toNat)] v25.Name (Vec.mk (20 + ((v26.toNat : Nat) : Int)) (20 + ((v26.toNat : Nat) : Int)) (20 + ((v26.toNat : Nat) : Int))) r27) ∧
     ((r27.E = 0) →
      (I64 (i11 + 2)) ∧
      (0 ≤ (i11 + 2)) ∧
      ∃ (v28 : UInt8), (ns[(i11 + 2).toNat]? = some v28) ∧
      (I64 (((v28.toNat : Nat) : Int))) ∧
      (I64 (i11 + 2)) ∧
      (I64 (((v28.toNat : Nat) : Int))) ∧
      (I64 (((v28.toNat : Nat) : Int).tdiv 16)) ∧
      ¬ (((r27.L.length : Nat) : Int) = 0) ∧
      (0 ≤ ((((v28.toNat : Nat) : Int).tdiv 16).tmod ((r27.L.length : Nat) : Int))) ∧
      ∃ (v29 : Item), (r27.L[((((v28.toNat : Nat) : Int).tdiv 16).tmod ((r27.L.length : Nat) : Int)).toNat]? = some v29) ∧
      (I64 ((((v28.toNat : Nat) : Int).tmod 16).tdiv 2)) ∧
      ∃ (r30 : Grown), (R_ref10_Admit r27.L v29.Name (Vec.mk (((v28.toNat : Nat) : Int).tmod 16) ((((v28.toNat : Nat) : Int).tmod 16).tdiv 2) ((((v28.toNat : Nat) : Int).tmod 16).tmod 3)) r30) ∧
      ((r30.E = 0) →
       (I64 (i11 + 3)) ∧
       At_law12_Make_1b ns r30.L (i11 + 3) r) ∧
      (¬ (r30.E = 0) →
       (I64 (i11 + 3)) ∧
       At_law12_Make_1b ns r27.L (i11 + 3) r)) ∧
     (¬ (r27.E = 0) →
      (I64 (i11 + 3)) ∧
      At_law12_Make_1b ns l10 (i11 + 3) r)) ∧
    (¬ (0 < (((v24.toNat : Nat) : Int).tmod 3)) →
     (I64 (i11 + 1)) ∧
     (0 ≤ (i11 + 1)) ∧
     ∃ (v31 : UInt8), (ns[(i11 + 1).toNat]? = some v31) ∧
     (I64 (((v31.toNat : Nat) : Int))) ∧
     (I64 (20 + ((v31.toNat : Nat) : Int))) ∧
     (I64 (((l10.length : Nat) : Int) * 5)) ∧
     (I64 (97 + ((((l10.length : Nat) : Int) * 5).tmod 24))) ∧
     (U8 ((97 + ((((l10.length : Nat) : Int) * 5).tmod 24)))) ∧
     ∃ (r32 : Grown), (R_ref10_Create l10 [(UInt8.ofNat ((97 + ((((l10.length : Nat) : Int) * 5).tmod 24))).toNat)] [] (Vec.mk (20 + ((v31.toNat : Nat) : Int)) (20 + ((v31.toNat : Nat) : Int)) (20 + ((v31.toNat : Nat) : Int))) r32) ∧
     ((r32.E = 0) →
      (I64 (i11 + 2)) ∧
      (0 ≤ (i11 + 2)) ∧
      ∃ (v33 : UInt8), (ns[(i11 + 2).toNat]? = some v33) ∧
      (I64 (((v33.toNat : Nat) : Int))) ∧
      (I64 (i11 + 2)) ∧
      (I64 (((v33.toNat : Nat) : Int))) ∧
      (I64 (((v33.toNat : Nat) : Int).tdiv 16)) ∧
      ¬ (((r32.L.length : Nat) : Int) = 0) ∧
      (0 ≤ ((((v33.toNat : Nat) : Int).tdiv 16).tmod ((r32.L.length : Nat) : Int))) ∧
      ∃ (v34 : Item), (r32.L[((((v33.toNat : Nat) : Int).tdiv 16).tmod ((r32.L.length : Nat) : Int)).toNat]? = some v34) ∧
      (I64 ((((v33.toNat : Nat) : Int).tmod 16).tdiv 2)) ∧
      ∃ (r35 : Grown), (R_ref10_Admit r32.L v34.Name (Vec.mk (((v33.toNat : Nat) : Int).tmod 16) ((((v33.toNat : Nat) : Int).tmod 16).tdiv 2) ((((v33.toNat : Nat) : Int).tmod 16).tmod 3)) r35) ∧
      ((r35.E = 0) →
       (I64 (i11 + 3)) ∧
       At_law12_Make_1b ns r35.L (i11 + 3) r) ∧
      (¬ (r35.E = 0) →
       (I64 (i11 + 3)) ∧
       At_law12_Make_1b ns r32.L (i11 + 3) r)) ∧
     (¬ (r32.E = 0) →
      (I64 (i11 + 3)) ∧
      At_law12_Make_1b ns l10 (i11 + 3) r))) ∧
   (¬ (0 < ((l10.length : Nat) : Int)) →
    (I64 (i11 + 1)) ∧
    (0 ≤ (i11 + 1)) ∧
    ∃ (v36 : UInt8), (ns[(i11 + 1).toNat]? = some v36) ∧
    (I64 (((v36.toNat : Nat) : Int))) ∧
    (I64 (20 + ((v36.toNat : Nat) : Int))) ∧
    (I64 (((l10.length : Nat) : Int) * 5)) ∧
    (I64 (97 + ((((l10.length : Nat) : Int) * 5).tmod 24))) ∧
    (U8 ((97 + ((((l10.length : Nat) : Int) * 5).tmod 24)))) ∧
    ∃ (r37 : Grown), (R_ref10_Create l10 [(UInt8.ofNat ((97 + ((((l10.length : Nat) : Int) * 5).tmod 24))).toNat)] [] (Vec.mk (20 + ((v36.toNat : Nat) : Int)) (20 + ((v36.toNat : Nat) : Int)) (20 + ((v36.toNat : Nat) : Int))) r37) ∧
    ((r37.E = 0) →
     (I64 (i11 + 2)) ∧
     (0 ≤ (i11 + 2)) ∧
     ∃ (v38 : UInt8), (ns[(i11 + 2).toNat]? = some v38) ∧
     (I64 (((v38.toNat : Nat) : Int))) ∧
     (I64 (i11 + 2)) ∧
     (I64 (((v38.toNat : Nat) : Int))) ∧
     (I64 (((v38.toNat : Nat) : Int).tdiv 16)) ∧
     ¬ (((r37.L.length : Nat) : Int) = 0) ∧
     (0 ≤ ((((v38.toNat : Nat) : Int).tdiv 16).tmod ((r37.L.length : Nat) : Int))) ∧
     ∃ (v39 : Item), (r37.L[((((v38.toNat : Nat) : Int).tdiv 16).tmod ((r37.L.length : Nat) : Int)).toNat]? = some v39) ∧
     (I64 ((((v38.toNat : Nat) : Int).tmod 16).tdiv 2)) ∧
     ∃ (r40 : Grown), (R_ref10_Admit r37.L v39.Name (Vec.mk (((v38.toNat : Nat) : Int).tmod 16) ((((v38.toNat : Nat) : Int).tmod 16).tdiv 2) ((((v38.toNat : Nat) : Int).tmod 16).tmod 3)) r40) ∧
     ((r40.E = 0) →
      (I64 (i11 + 3)) ∧
      At_law12_Make_1b ns r40.L (i11 + 3) r) ∧
     (¬ (r40.E = 0) →
      (I64 (i11 + 3)) ∧
      At_law12_Make_1b ns r37.L (i11 + 3) r)) ∧
    (¬ (r37.E = 0) →
     (I64 (i11 + 3)) ∧
     At_law12_Make_1b ns l10 (i11 + 3) r))) ∧
  (¬ (((l10.length : Nat) : Int) < 24) →
   l10 = r)) ∧
 (¬ ((i11 + 2) < ((ns.length : Nat) : Int)) →
  l10 = r)) : At_law12_Make_1b ns l10 i11 r := by
 obtain ⟨p1, T⟩ := T
 by_cases c2 : (i11 + 2) < ((ns.length : Nat) : Int)
 · replace T := T.1 c2
   by_cases c3 : ((l10.length : Nat) : Int) < 24
   · replace T := T.1 c3
     obtain ⟨p4, v24, q5, p6, T⟩ := T
     by_cases c7 : 0 < ((l10.length : Nat) : Int)
     · replace T := T.1 c7
       by_cases c8 : 0 < (((v24.toNat : Nat) : Int).tmod 3)
       · replace T := T.1 c8
         obtain ⟨p9, p10, p11, v25, q12, p13, p14, v26, q15, p16, p17, p18, p19, p20, r27, q21, T⟩ := T
         simp only [R_ref10_Create, le] at q21
         by_cases c22 : r27.E = 0
         · replace T := T.1 c22
           obtain ⟨p23, p24, v28, q25, p26, p27, p28, p29, p30, p31, v29, q32, p33, r30, q34, T⟩ := T
           simp only [R_ref10_Admit, le] at q34
           by_cases c35 : r30.E = 0
           · replace T := T.1 c35
             obtain ⟨p36, T⟩ := T
             rcases T with T | T
             · left
               intro S e f h
               unfold k_law12_Make_1
               rw [E_loop]
               try simp only [h, p1.wrap, eq_true c2, eq_true c3, p4, q5, p6.wrap, eq_true c7, eq_true c8, p9.wrap, eq_false p10, p11, q12, p13.wrap, p14, q15, p16.wrap, p17.wrap, p18.wrap, p19.wrap, p20.wrap, q21, eq_true c22, p23.wrap, p24, q25, p26.wrap, p27.wrap, p28.wrap, p29.wrap, eq_false p30, p31, q32, p33.wrap, q34, eq_true c35, p36.wrap, U_law12_Make, lw, le, Nat.zero_le, Nat.sub_zero, take_app3, set_get, take_set, List.length_set, List.map_set, reduceIte, reduceCtorEq, Nat.reduceEqDiff, Nat.reduceAdd, Nat.reduceLeDiff, Nat.reduceSub, Nat.reduceLT, Int.reduceEq, Int.reduceLT, Int.reduceLE, Int.reduceToNat, Int.reduceAdd, Int.reduceSub, Int.reduceMul, Int.reduceNeg, Int.cast_ofNat_Int]
               refine T S _ _ ?_
               simp only [h, p1.wrap, eq_true c2, eq_true c3, p4, q5, p6.wrap, eq_true c7, eq_true c8, p9.wrap, eq_false p10, p11, q12, p13.wrap, p14, q15, p16.wrap, p17.wrap, p18.wrap, p19.wrap, p20.wrap, q21, eq_true c22, p23.wrap, p24, q25, p26.wrap, p27.wrap, p28.wrap, p29.wrap, eq_false p30, p31, q32, p33.wrap, q34, eq_true c35, p36.wrap, U_law12_Make, lw, le, Nat.zero_le, Nat.sub_zero, take_app3, set_get, take_set, List.length_set, List.map_set, reduceIte, reduceCtorEq, Nat.reduceEqDiff, Nat.reduceAdd, Nat.reduceLeDiff, Nat.reduceSub, Nat.reduceLT, Int.reduceEq, Int.reduceLT, Int.reduceLE, Int.reduceToNat, Int.reduceAdd, Int.reduceSub, Int.reduceMul, Int.reduceNeg, Int.cast_ofNat_Int]
             · right
               intro S e f h
               unfold k_law12_Make_1
               rw [E_loop]
               try simp only [h, p1.wrap, eq_true c2, eq_true c3, p4, q5, p6.wrap, eq_true c7, eq_true c8, p9.wrap, eq_false p10, p11, q12, p13.wrap, p14, q15, p16.wrap, p17.wrap, p18.wrap, p19.wrap, p20.wrap, q21, eq_true c22, p23.wrap, p24, q25, p26.wrap, p27.wrap, p28.wrap, p29.wrap, eq_false p30, p31, q32, p33.wrap, q34, eq_true c35, p36.wrap, U_law12_Make, lw, le, Nat.zero_le, Nat.sub_zero, take_app3, set_get, take_set, List.length_set, List.map_set, reduceIte, reduceCtorEq, Nat.reduceEqDiff, Nat.reduceAdd, Nat.reduceLeDiff, Nat.reduceSub, Nat.reduceLT, Int.reduceEq, Int.reduceLT, Int.reduceLE, Int.reduceToNat, Int.reduceAdd, Int.reduceSub, Int.reduceMul, Int.reduceNeg, Int.cast_ofNat_Int]
               refine T S _ _ ?_
               simp only [h, p1.wrap, eq_true c2, eq_true c3, p4, q5, p6.wrap, eq_true c7, eq_true c8, p9.wrap, eq_false p10, p11, q12, p13.wrap, p14, q15, p16.wrap, p17.wrap, p18.wrap, p19.wrap, p20.wrap, q21, eq_true c22, p23.wrap, p24, q25, p26.wrap, p27.wrap, p28.wrap, p29.wrap, eq_false p30, p31, q32, p33.wrap, q34, eq_true c35, p36.wrap, U_law12_Make, lw, le, Nat.zero_le, Nat.sub_zero, take_app3, set_get, take_set, List.length_set, List.map_set, reduceIte, reduceCtorEq, Nat.reduceEqDiff, Nat.reduceAdd, Nat.reduceLeDiff, Nat.reduceSub, Nat.reduceLT, Int.reduceEq, Int.reduceLT, Int.reduceLE, Int.reduceToNat, Int.reduceAdd, Int.reduceSub, Int.reduceMul, Int.reduceNeg, Int.cast_ofNat_Int]
           · replace T := T.2 c35
             obtain ⟨p37, T⟩ := T
             rcases T with T | T
             · left
               intro S e f h
               unfold k_law12_Make_1
               rw [E_loop]
               try simp only [h, p1.wrap, eq_true c2, eq_true c3, p4, q5, p6.wrap, eq_true c7, eq_true c8, p9.wrap, eq_false p10, p11, q12, p13.wrap, p14, q15, p16.wrap, p17.wrap, p18.wrap, p19.wrap, p20.wrap, q21, eq_true c22, p23.wrap, p24, q25, p26.wrap, p27.wrap, p28.wrap, p29.wrap, eq_false p30, p31, q32, p33.wrap, q34, eq_false c35, p37.wrap, U_law12_Make, lw, le, Nat.zero_le, Nat.sub_zero, take_app3, set_get, take_set, List.length_set, List.map_set, reduceIte, reduceCtorEq, Nat.reduceEqDiff, Nat.reduceAdd, Nat.reduceLeDiff, Nat.reduceSub, Nat.reduceLT, Int.reduceEq, Int.reduceLT, Int.reduceLE, Int.reduceToNat, Int.reduceAdd, Int.reduceSub, Int.reduceMul, Int.reduceNeg, Int.cast_ofNat_Int]
               refine T S _ _ ?_
               simp only [h, p1.wrap, eq_true c2, eq_true c3, p4, q5, p6.wrap, eq_true c7, eq_true c8, p9.wrap, eq_false p10, p11, q12, p13.wrap, p14, q15, p16.wrap, p17.wrap, p18.wrap, p19.wrap, p20.wrap, q21, eq_true c22, p23.wrap, p24, q25, p26.wrap, p27.wrap, p28.wrap, p29.wrap, eq_false p30, p31, q32, p33.wrap, q34, eq_false c35, p37.wrap, U_law12_Make, lw, le, Nat.zero_le, Nat.sub_zero, take_app3, set_get, take_set, List.length_set, List.map_set, reduceIte, reduceCtorEq, Nat.reduceEqDiff, Nat.reduceAdd, Nat.reduceLeDiff, Nat.reduceSub, Nat.reduceLT, Int.reduceEq, Int.reduceLT, Int.reduceLE, Int.reduceToNat, Int.reduceAdd, Int.reduceSub, Int.reduceMul, Int.reduceNeg, Int.cast_ofNat_Int]
             · right
               intro S e f h
               unfold k_law12_Make_1
               rw [E_loop]
               try simp only [h, p1.wrap, eq_true c2, eq_true c3, p4, q5, p6.wrap, eq_true c7, eq_true c8, p9.wrap, eq_false p10, p11, q12, p13.wrap, p14, q15, p16.wrap, p17.wrap, p18.wrap, p19.wrap, p20.wrap, q21, eq_true c22, p23.wrap, p24, q25, p26.wrap, p27.wrap, p28.wrap, p29.wrap, eq_false p30, p31, q32, p33.wrap, q34, eq_false c35, p37.wrap, U_law12_Make, lw, le, Nat.zero_le, Nat.sub_zero, take_app3, set_get, take_set, List.length_set, List.map_set, reduceIte, reduceCtorEq, Nat.reduceEqDiff, Nat.reduceAdd, Nat.reduceLeDiff, Nat.reduceSub, Nat.reduceLT, Int.reduceEq, Int.reduceLT, Int.reduceLE, Int.reduceToNat, Int.reduceAdd, Int.reduceSub, Int.reduceMul, Int.reduceNeg, Int.cast_ofNat_Int]
               refine T S _ _ ?_
               simp only [h, p1.wrap, eq_true c2, eq_true c3, p4, q5, p6.wrap, eq_true c7, eq_true c8, p9.wrap, eq_false p10, p11, q12, p13.wrap, p14, q15, p16.wrap, p17.wrap, p18.wrap, p19.wrap, p20.wrap, q21, eq_true c22, p23.wrap, p24, q25, p26.wrap, p27.wrap, p28.wrap, p29.wrap, eq_false p30, p31, q32, p33.wrap, q34, eq_false c35, p37.wrap, U_law12_Make, lw, le, Nat.zero_le, Nat.sub_zero, take_app3, set_get, take_set, List.length_set, List.map_set, reduceIte, reduceCtorEq, Nat.reduceEqDiff, Nat.reduceAdd, Nat.reduceLeDiff, Nat.reduceSub, Nat.reduceLT, Int.reduceEq, Int.reduceLT, Int.reduceLE, Int.reduceToNat, Int.reduceAdd, Int.reduceSub, Int.reduceMul, Int.reduceNeg, Int.cast_ofNat_Int]
         · replace T := T.2 c22
           obtain ⟨p38, T⟩ := T
           rcases T with T | T
           · left
             intro S e f h
             unfold k_law12_Make_1
             rw [E_loop]
             try simp only [h, p1.wrap, eq_true c2, eq_true c3, p4, q5, p6.wrap, eq_true c7, eq_true c8, p9.wrap, eq_false p10, p11, q12, p13.wrap, p14, q15, p16.wrap, p17.wrap, p18.wrap, p19.wrap, p20.wrap, q21, eq_false c22, p38.wrap, U_law12_Make, lw, le, Nat.zero_le, Nat.sub_zero, take_app3, set_get, take_set, List.length_set, List.map_set, reduceIte, reduceCtorEq, Nat.reduceEqDiff, Nat.reduceAdd, Nat.reduceLeDiff, Nat.reduceSub, Nat.reduceLT, Int.reduceEq, Int.reduceLT, Int.reduceLE, Int.reduceToNat, Int.reduceAdd, Int.reduceSub, Int.reduceMul, Int.reduceNeg, Int.cast_ofNat_Int]
             refine T S _ _ ?_
             simp only [h, p1.wrap, eq_true c2, eq_true c3, p4, q5, p6.wrap, eq_true c7, eq_true c8, p9.wrap, eq_false p10, p11, q12, p13.wrap, p14, q15, p16.wrap, p17.wrap, p18.wrap, p19.wrap, p20.wrap, q21, eq_false c22, p38.wrap, U_law12_Make, lw, le, Nat.zero_le, Nat.sub_zero, take_app3, set_get, take_set, List.length_set, List.map_set, reduceIte, reduceCtorEq, Nat.reduceEqDiff, Nat.reduceAdd, Nat.reduceLeDiff, Nat.reduceSub, Nat.reduceLT, Int.reduceEq, Int.reduceLT, Int.reduceLE, Int.reduceToNat, Int.reduceAdd, Int.reduceSub, Int.reduceMul, Int.reduceNeg, Int.cast_ofNat_Int]
           · right
             intro S e f h
             unfold k_law12_Make_1
             rw [E_loop]
             try simp only [h, p1.wrap, eq_true c2, eq_true c3, p4, q5, p6.wrap, eq_true c7, eq_true c8, p9.wrap, eq_false p10, p11, q12, p13.wrap, p14, q15, p16.wrap, p17.wrap, p18.wrap, p19.wrap, p20.wrap, q21, eq_false c22, p38.wrap, U_law12_Make, lw, le, Nat.zero_le, Nat.sub_zero, take_app3, set_get, take_set, List.length_set, List.map_set, reduceIte, reduceCtorEq, Nat.reduceEqDiff, Nat.reduceAdd, Nat.reduceLeDiff, Nat.reduceSub, Nat.reduceLT, Int.reduceEq, Int.reduceLT, Int.reduceLE, Int.reduceToNat, Int.reduceAdd, Int.reduceSub, Int.reduceMul, Int.reduceNeg, Int.cast_ofNat_Int]
             refine T S _ _ ?_
             simp only [h, p1.wrap, eq_true c2, eq_true c3, p4, q5, p6.wrap, eq_true c7, eq_true c8, p9.wrap, eq_false p10, p11, q12, p13.wrap, p14, q15, p16.wrap, p17.wrap, p18.wrap, p19.wrap, p20.wrap, q21, eq_false c22, p38.wrap, U_law12_Make, lw, le, Nat.zero_le, Nat.sub_zero, take_app3, set_get, take_set, List.length_set, List.map_set, reduceIte, reduceCtorEq, Nat.reduceEqDiff, Nat.reduceAdd, Nat.reduceLeDiff, Nat.reduceSub, Nat.reduceLT, Int.reduceEq, Int.reduceLT, Int.reduceLE, Int.reduceToNat, Int.reduceAdd, Int.reduceSub, Int.reduceMul, Int.reduceNeg, Int.cast_ofNat_Int]
       · replace T := T.2 c8
         obtain ⟨p39, p40, v31, q41, p42, p43, p44, p45, p46, r32, q47, T⟩ := T
         simp only [R_ref10_Create, le] at q47
         by_cases c48 : r32.E = 0
         · replace T := T.1 c48
           obtain ⟨p49, p50, v33, q51, p52, p53, p54, p55, p56, p57, v34, q58, p59, r35, q60, T⟩ := T
           simp only [R_ref10_Admit, le] at q60
           by_cases c61 : r35.E = 0
           · replace T := T.1 c61
             obtain ⟨p62, T⟩ := T
             rcases T with T | T
             · left
               intro S e f h
               unfold k_law12_Make_1
               rw [E_loop]
               try simp only [h, p1.wrap, eq_true c2, eq_true c3, p4, q5, p6.wrap, eq_true c7, eq_false c8, p39.wrap, p40, q41, p42.wrap, p43.wrap, p44.wrap, p45.wrap, p46.wrap, q47, eq_true c48, p49.wrap, p50, q51, p52.wrap, p53.wrap, p54.wrap, p55.wrap, eq_false p56, p57, q58, p59.wrap, q60, eq_true c61, p62.wrap, U_law12_Make, lw, le, Nat.zero_le, Nat.sub_zero, take_app3, set_get, take_set, List.length_set, List.map_set, reduceIte, reduceCtorEq, Nat.reduceEqDiff, Nat.reduceAdd, Nat.reduceLeDiff, Nat.reduceSub, Nat.reduceLT, Int.reduceEq, Int.reduceLT, Int.reduceLE, Int.reduceToNat, Int.reduceAdd, Int.reduceSub, Int.reduceMul, Int.reduceNeg, Int.cast_ofNat_Int]
               refine T S _ _ ?_
               simp only [h, p1.wrap, eq_true c2, eq_true c3, p4, q5, p6.wrap, eq_true c7, eq_false c8, p39.wrap, p40, q41, p42.wrap, p43.wrap, p44.wrap, p45.wrap, p46.wrap, q47, eq_true c48, p49.wrap, p50, q51, p52.wrap, p53.wrap, p54.wrap, p55.wrap, eq_false p56, p57, q58, p59.wrap, q60, eq_true c61, p62.wrap, U_law12_Make, lw, le, Nat.zero_le, Nat.sub_zero, take_app3, set_get, take_set, List.length_set, List.map_set, reduceIte, reduceCtorEq, Nat.reduceEqDiff, Nat.reduceAdd, Nat.reduceLeDiff, Nat.reduceSub, Nat.reduceLT, Int.reduceEq, Int.reduceLT, Int.reduceLE, Int.reduceToNat, Int.reduceAdd, Int.reduceSub, Int.reduceMul, Int.reduceNeg, Int.cast_ofNat_Int]
             · right
               intro S e f h
               unfold k_law12_Make_1
               rw [E_loop]
               try simp only [h, p1.wrap, eq_true c2, eq_true c3, p4, q5, p6.wrap, eq_true c7, eq_false c8, p39.wrap, p40, q41, p42.wrap, p43.wrap, p44.wrap, p45.wrap, p46.wrap, q47, eq_true c48, p49.wrap, p50, q51, p52.wrap, p53.wrap, p54.wrap, p55.wrap, eq_false p56, p57, q58, p59.wrap, q60, eq_true c61, p62.wrap, U_law12_Make, lw, le, Nat.zero_le, Nat.sub_zero, take_app3, set_get, take_set, List.length_set, List.map_set, reduceIte, reduceCtorEq, Nat.reduceEqDiff, Nat.reduceAdd, Nat.reduceLeDiff, Nat.reduceSub, Nat.reduceLT, Int.reduceEq, Int.reduceLT, Int.reduceLE, Int.reduceToNat, Int.reduceAdd, Int.reduceSub, Int.reduceMul, Int.reduceNeg, Int.cast_ofNat_Int]
               refine T S _ _ ?_
               simp only [h, p1.wrap, eq_true c2, eq_true c3, p4, q5, p6.wrap, eq_true c7, eq_false c8, p39.wrap, p40, q41, p42.wrap, p43.wrap, p44.wrap, p45.wrap, p46.wrap, q47, eq_true c48, p49.wrap, p50, q51, p52.wrap, p53.wrap, p54.wrap, p55.wrap, eq_false p56, p57, q58, p59.wrap, q60, eq_true c61, p62.wrap, U_law12_Make, lw, le, Nat.zero_le, Nat.sub_zero, take_app3, set_get, take_set, List.length_set, List.map_set, reduceIte, reduceCtorEq, Nat.reduceEqDiff, Nat.reduceAdd, Nat.reduceLeDiff, Nat.reduceSub, Nat.reduceLT, Int.reduceEq, Int.reduceLT, Int.reduceLE, Int.reduceToNat, Int.reduceAdd, Int.reduceSub, Int.reduceMul, Int.reduceNeg, Int.cast_ofNat_Int]
           · replace T := T.2 c61
             obtain ⟨p63, T⟩ := T
             rcases T with T | T
             · left
               intro S e f h
               unfold k_law12_Make_1
               rw [E_loop]
               try simp only [h, p1.wrap, eq_true c2, eq_true c3, p4, q5, p6.wrap, eq_true c7, eq_false c8, p39.wrap, p40, q41, p42.wrap, p43.wrap, p44.wrap, p45.wrap, p46.wrap, q47, eq_true c48, p49.wrap, p50, q51, p52.wrap, p53.wrap, p54.wrap, p55.wrap, eq_false p56, p57, q58, p59.wrap, q60, eq_false c61, p63.wrap, U_law12_Make, lw, le, Nat.zero_le, Nat.sub_zero, take_app3, set_get, take_set, List.length_set, List.map_set, reduceIte, reduceCtorEq, Nat.reduceEqDiff, Nat.reduceAdd, Nat.reduceLeDiff, Nat.reduceSub, Nat.reduceLT, Int.reduceEq, Int.reduceLT, Int.reduceLE, Int.reduceToNat, Int.reduceAdd, Int.reduceSub, Int.reduceMul, Int.reduceNeg, Int.cast_ofNat_Int]
               refine T S _ _ ?_
               simp only [h, p1.wrap, eq_true c2, eq_true c3, p4, q5, p6.wrap, eq_true c7, eq_false c8, p39.wrap, p40, q41, p42.wrap, p43.wrap, p44.wrap, p45.wrap, p46.wrap, q47, eq_true c48, p49.wrap, p50, q51, p52.wrap, p53.wrap, p54.wrap, p55.wrap, eq_false p56, p57, q58, p59.wrap, q60, eq_false c61, p63.wrap, U_law12_Make, lw, le, Nat.zero_le, Nat.sub_zero, take_app3, set_get, take_set, List.length_set, List.map_set, reduceIte, reduceCtorEq, Nat.reduceEqDiff, Nat.reduceAdd, Nat.reduceLeDiff, Nat.reduceSub, Nat.reduceLT, Int.reduceEq, Int.reduceLT, Int.reduceLE, Int.reduceToNat, Int.reduceAdd, Int.reduceSub, Int.reduceMul, Int.reduceNeg, Int.cast_ofNat_Int]
             · right
               intro S e f h
               unfold k_law12_Make_1
               rw [E_loop]
               try simp only [h, p1.wrap, eq_true c2, eq_true c3, p4, q5, p6.wrap, eq_true c7, eq_false c8, p39.wrap, p40, q41, p42.wrap, p43.wrap, p44.wrap, p45.wrap, p46.wrap, q47, eq_true c48, p49.wrap, p50, q51, p52.wrap, p53.wrap, p54.wrap, p55.wrap, eq_false p56, p57, q58, p59.wrap, q60, eq_false c61, p63.wrap, U_law12_Make, lw, le, Nat.zero_le, Nat.sub_zero, take_app3, set_get, take_set, List.length_set, List.map_set, reduceIte, reduceCtorEq, Nat.reduceEqDiff, Nat.reduceAdd, Nat.reduceLeDiff, Nat.reduceSub, Nat.reduceLT, Int.reduceEq, Int.reduceLT, Int.reduceLE, Int.reduceToNat, Int.reduceAdd, Int.reduceSub, Int.reduceMul, Int.reduceNeg, Int.cast_ofNat_Int]
               refine T S _ _ ?_
               simp only [h, p1.wrap, eq_true c2, eq_true c3, p4, q5, p6.wrap, eq_true c7, eq_false c8, p39.wrap, p40, q41, p42.wrap, p43.wrap, p44.wrap, p45.wrap, p46.wrap, q47, eq_true c48, p49.wrap, p50, q51, p52.wrap, p53.wrap, p54.wrap, p55.wrap, eq_false p56, p57, q58, p59.wrap, q60, eq_false c61, p63.wrap, U_law12_Make, lw, le, Nat.zero_le, Nat.sub_zero, take_app3, set_get, take_set, List.length_set, List.map_set, reduceIte, reduceCtorEq, Nat.reduceEqDiff, Nat.reduceAdd, Nat.reduceLeDiff, Nat.reduceSub, Nat.reduceLT, Int.reduceEq, Int.reduceLT, Int.reduceLE, Int.reduceToNat, Int.reduceAdd, Int.reduceSub, Int.reduceMul, Int.reduceNeg, Int.cast_ofNat_Int]
         · replace T := T.2 c48
           obtain ⟨p64, T⟩ := T
           rcases T with T | T
           · left
             intro S e f h
             unfold k_law12_Make_1
             rw [E_loop]
             try simp only [h, p1.wrap, eq_true c2, eq_true c3, p4, q5, p6.wrap, eq_true c7, eq_false c8, p39.wrap, p40, q41, p42.wrap, p43.wrap, p44.wrap, p45.wrap, p46.wrap, q47, eq_false c48, p64.wrap, U_law12_Make, lw, le, Nat.zero_le, Nat.sub_zero, take_app3, set_get, take_set, List.length_set, List.map_set, reduceIte, reduceCtorEq, Nat.reduceEqDiff, Nat.reduceAdd, Nat.reduceLeDiff, Nat.reduceSub, Nat.reduceLT, Int.reduceEq, Int.reduceLT, Int.reduceLE, Int.reduceToNat, Int.reduceAdd, Int.reduceSub, Int.reduceMul, Int.reduceNeg, Int.cast_ofNat_Int]
             refine T S _ _ ?_
             simp only [h, p1.wrap, eq_true c2, eq_true c3, p4, q5, p6.wrap, eq_true c7, eq_false c8, p39.wrap, p40, q41, p42.wrap, p43.wrap, p44.wrap, p45.wrap, p46.wrap, q47, eq_false c48, p64.wrap, U_law12_Make, lw, le, Nat.zero_le, Nat.sub_zero, take_app3, set_get, take_set, List.length_set, List.map_set, reduceIte, reduceCtorEq, Nat.reduceEqDiff, Nat.reduceAdd, Nat.reduceLeDiff, Nat.reduceSub, Nat.reduceLT, Int.reduceEq, Int.reduceLT, Int.reduceLE, Int.reduceToNat, Int.reduceAdd, Int.reduceSub, Int.reduceMul, Int.reduceNeg, Int.cast_ofNat_Int]
           · right
             intro S e f h
             unfold k_law12_Make_1
             rw [E_loop]
             try simp only [h, p1.wrap, eq_true c2, eq_true c3, p4, q5, p6.wrap, eq_true c7, eq_false c8, p39.wrap, p40, q41, p42.wrap, p43.wrap, p44.wrap, p45.wrap, p46.wrap, q47, eq_false c48, p64.wrap, U_law12_Make, lw, le, Nat.zero_le, Nat.sub_zero, take_app3, set_get, take_set, List.length_set, List.map_set, reduceIte, reduceCtorEq, Nat.reduceEqDiff, Nat.reduceAdd, Nat.reduceLeDiff, Nat.reduceSub, Nat.reduceLT, Int.reduceEq, Int.reduceLT, Int.reduceLE, Int.reduceToNat, Int.reduceAdd, Int.reduceSub, Int.reduceMul, Int.reduceNeg, Int.cast_ofNat_Int]
             refine T S _ _ ?_
             simp only [h, p1.wrap, eq_true c2, eq_true c3, p4, q5, p6.wrap, eq_true c7, eq_false c8, p39.wrap, p40, q41, p42.wrap, p43.wrap, p44.wrap, p45.wrap, p46.wrap, q47, eq_false c48, p64.wrap, U_law12_Make, lw, le, Nat.zero_le, Nat.sub_zero, take_app3, set_get, take_set, List.length_set, List.map_set, reduceIte, reduceCtorEq, Nat.reduceEqDiff, Nat.reduceAdd, Nat.reduceLeDiff, Nat.reduceSub, Nat.reduceLT, Int.reduceEq, Int.reduceLT, Int.reduceLE, Int.reduceToNat, Int.reduceAdd, Int.reduceSub, Int.reduceMul, Int.reduceNeg, Int.cast_ofNat_Int]
     · replace T := T.2 c7
       obtain ⟨p65, p66, v36, q67, p68, p69, p70, p71, p72, r37, q73, T⟩ := T
       simp only [R_ref10_Create, le] at q73
       by_cases c74 : r37.E = 0
       · replace T := T.1 c74
         obtain ⟨p75, p76, v38, q77, p78, p79, p80, p81, p82, p83, v39, q84, p85, r40, q86, T⟩ := T
         simp only [R_ref10_Admit, le] at q86
         by_cases c87 : r40.E = 0
         · replace T := T.1 c87
           obtain ⟨p88, T⟩ := T
           rcases T with T | T
           · left
             intro S e f h
             unfold k_law12_Make_1
             rw [E_loop]
             try simp only [h, p1.wrap, eq_true c2, eq_true c3, p4, q5, p6.wrap, eq_false c7, p65.wrap, p66, q67, p68.wrap, p69.wrap, p70.wrap, p71.wrap, p72.wrap, q73, eq_true c74, p75.wrap, p76, q77, p78.wrap, p79.wrap, p80.wrap, p81.wrap, eq_false p82, p83, q84, p85.wrap, q86, eq_true c87, p88.wrap, U_law12_Make, lw, le, Nat.zero_le, Nat.sub_zero, take_app3, set_get, take_set, List.length_set, List.map_set, reduceIte, reduceCtorEq, Nat.reduceEqDiff, Nat.reduceAdd, Nat.reduceLeDiff, Nat.reduceSub, Nat.reduceLT, Int.reduceEq, Int.reduceLT, Int.reduceLE, Int.reduceToNat, Int.reduceAdd, Int.reduceSub, Int.reduceMul, Int.reduceNeg, Int.cast_ofNat_Int]
             refine T S _ _ ?_
             simp only [h, p1.wrap, eq_true c2, eq_true c3, p4, q5, p6.wrap, eq_false c7, p65.wrap, p66, q67, p68.wrap, p69.wrap, p70.wrap, p71.wrap, p72.wrap, q73, eq_true c74, p75.wrap, p76, q77, p78.wrap, p79.wrap, p80.wrap, p81.wrap, eq_false p82, p83, q84, p85.wrap, q86, eq_true c87, p88.wrap, U_law12_Make, lw, le, Nat.zero_le, Nat.sub_zero, take_app3, set_get, take_set, List.length_set, List.map_set, reduceIte, reduceCtorEq, Nat.reduceEqDiff, Nat.reduceAdd, Nat.reduceLeDiff, Nat.reduceSub, Nat.reduceLT, Int.reduceEq, Int.reduceLT, Int.reduceLE, Int.reduceToNat, Int.reduceAdd, Int.reduceSub, Int.reduceMul, Int.reduceNeg, Int.cast_ofNat_Int]
           · right
             intro S e f h
             unfold k_law12_Make_1
             rw [E_loop]
             try simp only [h, p1.wrap, eq_true c2, eq_true c3, p4, q5, p6.wrap, eq_false c7, p65.wrap, p66, q67, p68.wrap, p69.wrap, p70.wrap, p71.wrap, p72.wrap, q73, eq_true c74, p75.wrap, p76, q77, p78.wrap, p79.wrap, p80.wrap, p81.wrap, eq_false p82, p83, q84, p85.wrap, q86, eq_true c87, p88.wrap, U_law12_Make, lw, le, Nat.zero_le, Nat.sub_zero, take_app3, set_get, take_set, List.length_set, List.map_set, reduceIte, reduceCtorEq, Nat.reduceEqDiff, Nat.reduceAdd, Nat.reduceLeDiff, Nat.reduceSub, Nat.reduceLT, Int.reduceEq, Int.reduceLT, Int.reduceLE, Int.reduceToNat, Int.reduceAdd, Int.reduceSub, Int.reduceMul, Int.reduceNeg, Int.cast_ofNat_Int]
             refine T S _ _ ?_
             simp only [h, p1.wrap, eq_true c2, eq_true c3, p4, q5, p6.wrap, eq_false c7, p65.wrap, p66, q67, p68.wrap, p69.wrap, p70.wrap, p71.wrap, p72.wrap, q73, eq_true c74, p75.wrap, p76, q77, p78.wrap, p79.wrap, p80.wrap, p81.wrap, eq_false p82, p83, q84, p85.wrap, q86, eq_true c87, p88.wrap, U_law12_Make, lw, le, Nat.zero_le, Nat.sub_zero, take_app3, set_get, take_set, List.length_set, List.map_set, reduceIte, reduceCtorEq, Nat.reduceEqDiff, Nat.reduceAdd, Nat.reduceLeDiff, Nat.reduceSub, Nat.reduceLT, Int.reduceEq, Int.reduceLT, Int.reduceLE, Int.reduceToNat, Int.reduceAdd, Int.reduceSub, Int.reduceMul, Int.reduceNeg, Int.cast_ofNat_Int]
         · replace T := T.2 c87
           obtain ⟨p89, T⟩ := T
           rcases T with T | T
           · left
             intro S e f h
             unfold k_law12_Make_1
             rw [E_loop]
             try simp only [h, p1.wrap, eq_true c2, eq_true c3, p4, q5, p6.wrap, eq_false c7, p65.wrap, p66, q67, p68.wrap, p69.wrap, p70.wrap, p71.wrap, p72.wrap, q73, eq_true c74, p75.wrap, p76, q77, p78.wrap, p79.wrap, p80.wrap, p81.wrap, eq_false p82, p83, q84, p85.wrap, q86, eq_false c87, p89.wrap, U_law12_Make, lw, le, Nat.zero_le, Nat.sub_zero, take_app3, set_get, take_set, List.length_set, List.map_set, reduceIte, reduceCtorEq, Nat.reduceEqDiff, Nat.reduceAdd, Nat.reduceLeDiff, Nat.reduceSub, Nat.reduceLT, Int.reduceEq, Int.reduceLT, Int.reduceLE, Int.reduceToNat, Int.reduceAdd, Int.reduceSub, Int.reduceMul, Int.reduceNeg, Int.cast_ofNat_Int]
             refine T S _ _ ?_
             simp only [h, p1.wrap, eq_true c2, eq_true c3, p4, q5, p6.wrap, eq_false c7, p65.wrap, p66, q67, p68.wrap, p69.wrap, p70.wrap, p71.wrap, p72.wrap, q73, eq_true c74, p75.wrap, p76, q77, p78.wrap, p79.wrap, p80.wrap, p81.wrap, eq_false p82, p83, q84, p85.wrap, q86, eq_false c87, p89.wrap, U_law12_Make, lw, le, Nat.zero_le, Nat.sub_zero, take_app3, set_get, take_set, List.length_set, List.map_set, reduceIte, reduceCtorEq, Nat.reduceEqDiff, Nat.reduceAdd, Nat.reduceLeDiff, Nat.reduceSub, Nat.reduceLT, Int.reduceEq, Int.reduceLT, Int.reduceLE, Int.reduceToNat, Int.reduceAdd, Int.reduceSub, Int.reduceMul, Int.reduceNeg, Int.cast_ofNat_Int]
           · right
             intro S e f h
             unfold k_law12_Make_1
             rw [E_loop]
             try simp only [h, p1.wrap, eq_true c2, eq_true c3, p4, q5, p6.wrap, eq_false c7, p65.wrap, p66, q67, p68.wrap, p69.wrap, p70.wrap, p71.wrap, p72.wrap, q73, eq_true c74, p75.wrap, p76, q77, p78.wrap, p79.wrap, p80.wrap, p81.wrap, eq_false p82, p83, q84, p85.wrap, q86, eq_false c87, p89.wrap, U_law12_Make, lw, le, Nat.zero_le, Nat.sub_zero, take_app3, set_get, take_set, List.length_set, List.map_set, reduceIte, reduceCtorEq, Nat.reduceEqDiff, Nat.reduceAdd, Nat.reduceLeDiff, Nat.reduceSub, Nat.reduceLT, Int.reduceEq, Int.reduceLT, Int.reduceLE, Int.reduceToNat, Int.reduceAdd, Int.reduceSub, Int.reduceMul, Int.reduceNeg, Int.cast_ofNat_Int]
             refine T S _ _ ?_
             simp only [h, p1.wrap, eq_true c2, eq_true c3, p4, q5, p6.wrap, eq_false c7, p65.wrap, p66, q67, p68.wrap, p69.wrap, p70.wrap, p71.wrap, p72.wrap, q73, eq_true c74, p75.wrap, p76, q77, p78.wrap, p79.wrap, p80.wrap, p81.wrap, eq_false p82, p83, q84, p85.wrap, q86, eq_false c87, p89.wrap, U_law12_Make, lw, le, Nat.zero_le, Nat.sub_zero, take_app3, set_get, take_set, List.length_set, List.map_set, reduceIte, reduceCtorEq, Nat.reduceEqDiff, Nat.reduceAdd, Nat.reduceLeDiff, Nat.reduceSub, Nat.reduceLT, Int.reduceEq, Int.reduceLT, Int.reduceLE, Int.reduceToNat, Int.reduceAdd, Int.reduceSub, Int.reduceMul, Int.reduceNeg, Int.cast_ofNat_Int]
       · replace T := T.2 c74
         obtain ⟨p90, T⟩ := T
         rcases T with T | T
         · left
           intro S e f h
           unfold k_law12_Make_1
           rw [E_loop]
           try simp only [h, p1.wrap, eq_true c2, eq_true c3, p4, q5, p6.wrap, eq_false c7, p65.wrap, p66, q67, p68.wrap, p69.wrap, p70.wrap, p71.wrap, p72.wrap, q73, eq_false c74, p90.wrap, U_law12_Make, lw, le, Nat.zero_le, Nat.sub_zero, take_app3, set_get, take_set, List.length_set, List.map_set, reduceIte, reduceCtorEq, Nat.reduceEqDiff, Nat.reduceAdd, Nat.reduceLeDiff, Nat.reduceSub, Nat.reduceLT, Int.reduceEq, Int.reduceLT, Int.reduceLE, Int.reduceToNat, Int.reduceAdd, Int.reduceSub, Int.reduceMul, Int.reduceNeg, Int.cast_ofNat_Int]
           refine T S _ _ ?_
           simp only [h, p1.wrap, eq_true c2, eq_true c3, p4, q5, p6.wrap, eq_false c7, p65.wrap, p66, q67, p68.wrap, p69.wrap, p70.wrap, p71.wrap, p72.wrap, q73, eq_false c74, p90.wrap, U_law12_Make, lw, le, Nat.zero_le, Nat.sub_zero, take_app3, set_get, take_set, List.length_set, List.map_set, reduceIte, reduceCtorEq, Nat.reduceEqDiff, Nat.reduceAdd, Nat.reduceLeDiff, Nat.reduceSub, Nat.reduceLT, Int.reduceEq, Int.reduceLT, Int.reduceLE, Int.reduceToNat, Int.reduceAdd, Int.reduceSub, Int.reduceMul, Int.reduceNeg, Int.cast_ofNat_Int]
         · right
           intro S e f h
           unfold k_law12_Make_1
           rw [E_loop]
           try simp only [h, p1.wrap, eq_true c2, eq_true c3, p4, q5, p6.wrap, eq_false c7, p65.wrap, p66, q67, p68.wrap, p69.wrap, p70.wrap, p71.wrap, p72.wrap, q73, eq_false c74, p90.wrap, U_law12_Make, lw, le, Nat.zero_le, Nat.sub_zero, take_app3, set_get, take_set, List.length_set, List.map_set, reduceIte, reduceCtorEq, Nat.reduceEqDiff, Nat.reduceAdd, Nat.reduceLeDiff, Nat.reduceSub, Nat.reduceLT, Int.reduceEq, Int.reduceLT, Int.reduceLE, Int.reduceToNat, Int.reduceAdd, Int.reduceSub, Int.reduceMul, Int.reduceNeg, Int.cast_ofNat_Int]
           refine T S _ _ ?_
           simp only [h, p1.wrap, eq_true c2, eq_true c3, p4, q5, p6.wrap, eq_false c7, p65.wrap, p66, q67, p68.wrap, p69.wrap, p70.wrap, p71.wrap, p72.wrap, q73, eq_false c74, p90.wrap, U_law12_Make, lw, le, Nat.zero_le, Nat.sub_zero, take_app3, set_get, take_set, List.length_set, List.map_set, reduceIte, reduceCtorEq, Nat.reduceEqDiff, Nat.reduceAdd, Nat.reduceLeDiff, Nat.reduceSub, Nat.reduceLT, Int.reduceEq, Int.reduceLT, Int.reduceLE, Int.reduceToNat, Int.reduceAdd, Int.reduceSub, Int.reduceMul, Int.reduceNeg, Int.cast_ofNat_Int]
   · replace T := T.2 c3
     obtain rfl := T
     left
     intro S e f h
     unfold k_law12_Make_1
     rw [E_loop]
     simp only [h, p1.wrap, eq_true c2, eq_false c3, U_law12_Make, lw, le, Nat.zero_le, Nat.sub_zero, take_app3, set_get, take_set, List.length_set, List.map_set, reduceIte, reduceCtorEq, Nat.reduceEqDiff, Nat.reduceAdd, Nat.reduceLeDiff, Nat.reduceSub, Nat.reduceLT, Int.reduceEq, Int.reduceLT, Int.reduceLE, Int.reduceToNat, Int.reduceAdd, Int.reduceSub, Int.reduceMul, Int.reduceNeg, Int.cast_ofNat_Int]
 · replace T := T.2 c2
   obtain rfl := T
   left
   intro S e f h
   unfold k_law12_Make_1
   rw [E_loop]
   simp only [h, p1.wrap, eq_false c2, U_law12_Make, lw, le, Nat.zero_le, Nat.sub_zero, take_app3, set_get, take_set, List.length_set, List.map_set, reduceIte, reduceCtorEq, Nat.reduceEqDiff, Nat.reduceAdd, Nat.reduceLeDiff, Nat.reduceSub, Nat.reduceLT, Int.reduceEq, Int.reduceLT, Int.reduceLE, Int.reduceToNat, Int.reduceAdd, Int.reduceSub, Int.reduceMul, Int.reduceNeg, Int.cast_ofNat_Int]
set_option maxHeartbeats 4000000 in
theorem At_law12_Make_1c_step (ns : List UInt8) (i12 : Int) (l13 : List Item) (r : List Item) (T :
  (I64 (i12 + 2)) ∧
 (((i12 + 2) < ((ns.length : Nat) : Int)) →
  ((((l13.length : Nat) : Int) < 24) →
   (0 ≤ i12) ∧
   ∃ (v41 : UInt8), (ns[i12.toNat]? = some v41) ∧
   (I64 (((v41.toNat : Nat) : Int))) ∧
   ((0 < ((l13.length : Nat) : Int)) →
    ((0 < (((v41.toNat : Nat) : Int).tmod 3)) →
     (I64 (((v41.toNat : Nat) : Int).tdiv 3)) ∧
     ¬ (((l13.length : Nat) : Int) = 0) ∧
     (0 ≤ ((((v41.toNat : Nat) : Int).tdiv 3).tmod ((l13.length : Nat) : Int))) ∧ (((((v41.toNat : Nat) : Int).tdiv 3).tmod ((l13.length : Nat) : Int)).toNat < l13.length) ∧
     ∃ (v42 : Item), (l13[((((v41.toNat : Nat) : Int).tdiv 3).tmod ((l13.length : Nat) : Int)).toNat]? = some v42) ∧
     (I64 (i12 + 1)) ∧
     (0 ≤ (i12 + 1)) ∧
     ∃ (v43 : UInt8), (ns[(i12 + 1).toNat]? = some v43) ∧
     (I64 (((v43.toNat : Nat) : Int))) ∧
     (I64 (20 + ((v43.toNat : Nat) : Int))) ∧
     (I64 (((l13.length : Nat) : Int) * 5)) ∧
     (I64 (97 + ((((l13.length : Nat) : Int) * 5).tmod 24))) ∧
     (U8 ((97 + ((((l13.length : Nat) : Int) * 5).tmod 24)))) ∧
     ∃ (r44 : Grown), (R_ref10_Create l13 [(UInt8.ofNat ((97 + ((((l13.length : Nat) : Int) * 5).tmod 24))).toNat)] v42.Name (Vec.mk (20 + ((v43.toNat : Nat) : Int)) (20 + ((v43.toNat : Nat) : Int)) (20 + ((v43.toNat : Nat) : Int))) r44) ∧
     ((r44.E = 0) →
      (I64 (i12 + 2)) ∧
      (0 ≤ (i12 + 2)) ∧
      ∃ (v45 : UInt8), (ns[(i12 + 2).toNat]? = some v45) ∧
      (I64 (((v45.toNat : Nat) : Int))) ∧
      (I64 (i12 + 2)) ∧
      (I64 (((v45.toNat : Nat) : Int))) ∧
      (I64 (((v45.toNat : Nat) : Int).tdiv 16)) ∧
      ¬ (((r44.L.length : Nat) : Int) = 0) ∧
      (0 ≤ ((((v45.toNat : Nat) : Int).tdiv 16).tmod ((r44.L.length : Nat) : Int))) ∧
      ∃ (v46 : Item), (r44.L[((((v45.toNat : Nat) : Int).tdiv 16).tmod ((r44.L.length : Nat) : Int)).toNat]? = some v46) ∧
      (I64 ((((v45.toNat : Nat) : Int).tmod 16).tdiv 2)) ∧
      ∃ (r47 : Grown), (R_ref10_Admit r44.L v46.Name (Vec.mk (((v45.toNat : Nat) : Int).tmod 16) ((((v45.toNat : Nat) : Int).tmod 16).tdiv 2) ((((v45.toNat : Nat) : Int).tmod 16).tmod 3)) r47) ∧
      ((r47.E = 0) →
       (I64 (i12 + 3)) ∧
       At_law12_Make_1b ns r47.L (i12 + 3) r) ∧
      (¬ (r47.E = 0) →
       (I64 (i12 + 3)) ∧
       At_law12_Make_1b ns r44.L (i12 + 3) r)) ∧
     (¬ (r44.E = 0) →
      (I64 (i12 + 3)) ∧
      At_law12_Make_1c ns (i12 + 3) l13 r)) ∧
    (¬ (0 < (((v41.toNat : Nat) : Int).tmod 3)) →
     (I64 (i12 + 1)) ∧
     (0 ≤ (i12 + 1)) ∧
     ∃ (v48 : UInt8), (ns[(i12 + 1).toNat]? = some v48) ∧
     (I64 (((v48.toNat : Nat) : Int))) ∧
     (I64 (20 + ((v48.toNat : Nat) : Int))) ∧
     (I64 (((l13.length : Nat) : Int) * 5)) ∧
     (I64 (97 + ((((l13.length : Nat) : Int) * 5).tmod 24))) ∧
     (U8 ((97 + ((((l13.length : Nat) : Int) * 5).tmod 24)))) ∧
     ∃ (r49 : Grown), (R_ref10_Create l13 [(UInt8.ofNat ((97 + ((((l13.length : Nat) : Int) * 5).tmod 24))).toNat)] [] (Vec.mk (20 + ((v48.toNat : Nat) : Int)) (20 + ((v48.toNat : Nat) : Int)) (20 + ((v48.toNat : Nat) : Int))) r49) ∧
     ((r49.E = 0) →
      (I64 (i12 + 2)) ∧
      (0 ≤ (i12 + 2)) ∧
      ∃ (v50 : UInt8), (ns[(i12 + 2).toNat]? = some v50) ∧
      (I64 (((v50.toNat : Nat) : Int))) ∧
      (I64 (i12 + 2)) ∧
      (I64 (((v50.toNat : Nat) : Int))) ∧
      (I64 (((v50.toNat : Nat) : Int).tdiv 16)) ∧
      ¬ (((r49.L.length : Nat) : Int) = 0) ∧
      (0 ≤ ((((v50.toNat : Nat) : Int).tdiv 16).tmod ((r49.L.length : Nat) : Int))) ∧
      ∃ (v51 : Item), (r49.L[((((v50.toNat : Nat) : Int).tdiv 16).tmod ((r49.L.length : Nat) : Int)).toNat]? = some v51) ∧
      (I64 ((((v50.toNat : Nat) : Int).tmod 16).tdiv 2)) ∧
      ∃ (r52 : Grown), (R_ref10_Admit r49.L v51.Name (Vec.mk (((v50.toNat : Nat) : Int).tmod 16) ((((v50.toNat : Nat) : Int).tmod 16).tdiv 2) ((((v50.toNat : Nat) : Int).tmod 16).tmod 3)) r52) ∧
      ((r52.E = 0) →
       (I64 (i12 + 3)) ∧
       At_law12_Make_1b ns r52.L (i12 + 3) r) ∧
      (¬ (r52.E = 0) →
       (I64 (i12 + 3)) ∧
       At_law12_Make_1b ns r49.L (i12 + 3) r)) ∧
     (¬ (r49.E = 0) →
      (I64 (i12 + 3)) ∧
      At_law12_Make_1c ns (i12 + 3) l13 r))) ∧
   (¬ (0 < ((l13.length : Nat) : Int)) →
    (I64 (i12 + 1)) ∧
    (0 ≤ (i12 + 1)) ∧
    ∃ (v53 : UInt8), (ns[(i12 + 1).toNat]? = some v53) ∧
    (I64 (((v53.toNat : Nat) : Int))) ∧
    (I64 (20 + ((v53.toNat : Nat) : Int))) ∧
    (I64 (((l13.length : Nat) : Int) * 5)) ∧
    (I64 (97 + ((((l13.length : Nat) : Int) * 5).tmod 24))) ∧
    (U8 ((97 + ((((l13.length : Nat) : Int) * 5).tmod 24)))) ∧
    ∃ (r54 : Grown), (R_ref10_Create l13 [(UInt8.ofNat ((97 + ((((l13.length : Nat) : Int) * 5).tmod 24))).toNat)] [] (Vec.mk (20 + ((v53.toNat : Nat) : Int)) (20 + ((v53.toNat : Nat) : Int)) (20 + ((v53.toNat : Nat) : Int))) r54) ∧
    ((r54.E = 0) →
     (I64 (i12 + 2)) ∧
     (0 ≤ (i12 + 2)) ∧
     ∃ (v55 : UInt8), (ns[(i12 + 2).toNat]? = some v55) ∧
     (I64 (((v55.toNat : Nat) : Int))) ∧
     (I64 (i12 + 2)) ∧
     (I64 (((v55.toNat : Nat) : Int))) ∧
     (I64 (((v55.toNat : Nat) : Int).tdiv 16)) ∧
     ¬ (((r54.L.length : Nat) : Int) = 0) ∧
     (0 ≤ ((((v55.toNat : Nat) : Int).tdiv 16).tmod ((r54.L.length : Nat) : Int))) ∧
     ∃ (v56 : Item), (r54.L[((((v55.toNat : Nat) : Int).tdiv 16).tmod ((r54.L.length : Nat) : Int)).toNat]? = some v56) ∧
     (I64 ((((v55.toNat : Nat) : Int).tmod 16).tdiv 2)) ∧
     ∃ (r57 : Grown), (R_ref10_Admit r54.L v56.Name (Vec.mk (((v55.toNat : Nat) : Int).tmod 16) ((((v55.toNat : Nat) : Int).tmod 16).tdiv 2) ((((v55.toNat : Nat) : Int).tmod 16).tmod 3)) r57) ∧
     ((r57.E = 0) →
      (I64 (i12 + 3)) ∧
      At_law12_Make_1b ns r57.L (i12 + 3) r) ∧
     (¬ (r57.E = 0) →
      (I64 (i12 + 3)) ∧
      At_law12_Make_1b ns r54.L (i12 + 3) r)) ∧
    (¬ (r54.E = 0) →
     (I64 (i12 + 3)) ∧
     At_law12_Make_1c ns (i12 + 3) l13 r))) ∧
  (¬ (((l13.length : Nat) : Int) < 24) →
   l13 = r)) ∧
 (¬ ((i12 + 2) < ((ns.length : Nat) : Int)) →
  l13 = r)) : At_law12_Make_1c ns i12 l13 r := by
 obtain ⟨p1, T⟩ := T
 by_cases c2 : (i12 + 2) < ((ns.length : Nat) : Int)
 · replace T := T.1 c2
   by_cases c3 : ((l13.length : Nat) : Int) < 24
   · replace T := T.1 c3
     obtain ⟨p4, v41, q5, p6, T⟩ := T
     by_cases c7 : 0 < ((l13.length : Nat) : Int)
     · replace T := T.1 c7
       by_cases c8 : 0 < (((v41.toNat : Nat) : Int).tmod 3)
       · replace T := T.1 c8
         obtain ⟨p9, p10, p11, p12, v42, q13, p14, p15, v43, q16, p17, p18, p19, p20, p21, r44, q22, T⟩ := T
         simp only [R_ref10_Create, le] at q22
         by_cases c23 : r44.E = 0
         · replace T := T.1 c23
           obtain ⟨p24, p25, v45, q26, p27, p28, p29, p30, p31, p32, v46, q33, p34, r47, q35, T⟩ := T
           simp only [R_ref10_Admit, le] at q35
           by_cases c36 : r47.E = 0
           · replace T := T.1 c36
             obtain ⟨p37, T⟩ := T
             rcases T with T | T
             · left
               intro S e f h
               unfold k_law12_Make_1
               rw [E_loop]
               try simp only [h, p1.wrap, eq_true c2, eq_true c3, p4, q5, p6.wrap, eq_true c7, eq_true c8, p9.wrap, eq_false p10, p11, p12, q13, p14.wrap, p15, q16, p17.wrap, p18.wrap, p19.wrap, p20.wrap, p21.wrap, q22, eq_true c23, p24.wrap, p25, q26, p27.wrap, p28.wrap, p29.wrap, p30.wrap, eq_false p31, p32, q33, p34.wrap, q35, eq_true c36, p37.wrap, U_law12_Make, lw, le, Nat.zero_le, Nat.sub_zero, take_app3, set_get, take_set, List.length_set, List.map_set, reduceIte, reduceCtorEq, Nat.reduceEqDiff, Nat.reduceAdd, Nat.reduceLeDiff, Nat.reduceSub, Nat.reduceLT, Int.reduceEq, Int.reduceLT, Int.reduceLE, Int.reduceToNat, Int.reduceAdd, Int.reduceSub, Int.reduceMul, Int.reduceNeg, Int.cast_ofNat_Int]
               refine T S _ _ ?_
               simp only [h, p1.wrap, eq_true c2, eq_true c3, p4, q5, p6.wrap, eq_true c7, eq_true c8, p9.wrap, eq_false p10, p11, p12, q13, p14.wrap, p15, q16, p17.wrap, p18.wrap, p19.wrap, p20.wrap, p21.wrap, q22, eq_true c23, p24.wrap, p25, q26, p27.wrap, p28.wrap, p29.wrap, p30.wrap, eq_false p31, p32, q33, p34.wrap, q35, eq_true c36, p37.wrap, U_law12_Make, lw, le, Nat.zero_le, Nat.sub_zero, take_app3, set_get, take_set, List.length_set, List.map_set, reduceIte, reduceCtorEq, Nat.reduceEqDiff, Nat.reduceAdd, Nat.reduceLeDiff, Nat.reduceSub, Nat.reduceLT, Int.reduceEq, Int.reduceLT, Int.reduceLE, Int.reduceToNat, Int.reduceAdd, Int.reduceSub, Int.reduceMul, Int.reduceNeg, Int.cast_ofNat_Int]
             · right
               intro S e f h
               unfold k_law12_Make_1
               rw [E_loop]
               try simp only [h, p1.wrap, eq_true c2, eq_true c3, p4, q5, p6.wrap, eq_true c7, eq_true c8, p9.wrap, eq_false p10, p11, p12, q13, p14.wrap, p15, q16, p17.wrap, p18.wrap, p19.wrap, p20.wrap, p21.wrap, q22, eq_true c23, p24.wrap, p25, q26, p27.wrap, p28.wrap, p29.wrap, p30.wrap, eq_false p31, p32, q33, p34.wrap, q35, eq_true c36, p37.wrap, U_law12_Make, lw, le, Nat.zero_le, Nat.sub_zero, take_app3, set_get, take_set, List.length_set, List.map_set, reduceIte, reduceCtorEq, Nat.reduceEqDiff, Nat.reduceAdd, Nat.reduceLeDiff, Nat.reduceSub, Nat.reduceLT, Int.reduceEq, Int.reduceLT, Int.reduceLE, Int.reduceToNat, Int.reduceAdd, Int.reduceSub, Int.reduceMul, Int.reduceNeg, Int.cast_ofNat_Int]
               refine T S _ _ ?_
               simp only [h, p1.wrap, eq_true c2, eq_true c3, p4, q5, p6.wrap, eq_true c7, eq_true c8, p9.wrap, eq_false p10, p11, p12, q13, p14.wrap, p15, q16, p17.wrap, p18.wrap, p19.wrap, p20.wrap, p21.wrap, q22, eq_true c23, p24.wrap, p25, q26, p27.wrap, p28.wrap, p29.wrap, p30.wrap, eq_false p31, p32, q33, p34.wrap, q35, eq_true c36, p37.wrap, U_law12_Make, lw, le, Nat.zero_le, Nat.sub_zero, take_app3, set_get, take_set, List.length_set, List.map_set, reduceIte, reduceCtorEq, Nat.reduceEqDiff, Nat.reduceAdd, Nat.reduceLeDiff, Nat.reduceSub, Nat.reduceLT, Int.reduceEq, Int.reduceLT, Int.reduceLE, Int.reduceToNat, Int.reduceAdd, Int.reduceSub, Int.reduceMul, Int.reduceNeg, Int.cast_ofNat_Int]
           · replace T := T.2 c36
             obtain ⟨p38, T⟩ := T
             rcases T with T | T
             · left
               intro S e f h
               unfold k_law12_Make_1
               rw [E_loop]
               try simp only [h, p1.wrap, eq_true c2, eq_true c3, p4, q5, p6.wrap, eq_true c7, eq_true c8, p9.wrap, eq_false p10, p11, p12, q13, p14.wrap, p15, q16, p17.wrap, p18.wrap, p19.wrap, p20.wrap, p21.wrap, q22, eq_true c23, p24.wrap, p25, q26, p27.wrap, p28.wrap, p29.wrap, p30.wrap, eq_false p31, p32, q33, p34.wrap, q35, eq_false c36, p38.wrap, U_law12_Make, lw, le, Nat.zero_le, Nat.sub_zero, take_app3, set_get, take_set, List.length_set, List.map_set, reduceIte, reduceCtorEq, Nat.reduceEqDiff, Nat.reduceAdd, Nat.reduceLeDiff, Nat.reduceSub, Nat.reduceLT, Int.reduceEq, Int.reduceLT, Int.reduceLE, Int.reduceToNat, Int.reduceAdd, Int.reduceSub, Int.reduceMul, Int.reduceNeg, Int.cast_ofNat_Int]
               refine T S _ _ ?_
               simp only [h, p1.wrap, eq_true c2, eq_true c3, p4, q5, p6.wrap, eq_true c7, eq_true c8, p9.wrap, eq_false p10, p11, p12, q13, p14.wrap, p15, q16, p17.wrap, p18.wrap, p19.wrap, p20.wrap, p21.wrap, q22, eq_true c23, p24.wrap, p25, q26, p27.wrap, p28.wrap, p29.wrap, p30.wrap, eq_false p31, p32, q33, p34.wrap, q35, eq_false c36, p38.wrap, U_law12_Make, lw, le, Nat.zero_le, Nat.sub_zero, take_app3, set_get, take_set, List.length_set, List.map_set, reduceIte, reduceCtorEq, Nat.reduceEqDiff, Nat.reduceAdd, Nat.reduceLeDiff, Nat.reduceSub, Nat.reduceLT, Int.reduceEq, Int.reduceLT, Int.reduceLE, Int.reduceToNat, Int.reduceAdd, Int.reduceSub, Int.reduceMul, Int.reduceNeg, Int.cast_ofNat_Int]
             · right
               intro S e f h
               unfold k_law12_Make_1
               rw [E_loop]
               try simp only [h, p1.wrap, eq_true c2, eq_true c3, p4, q5, p6.wrap, eq_true c7, eq_true c8, p9.wrap, eq_false p10, p11, p12, q13, p14.wrap, p15, q16, p17.wrap, p18.wrap, p19.wrap, p20.wrap, p21.wrap, q22, eq_true c23, p24.wrap, p25, q26, p27.wrap, p28.wrap, p29.wrap, p30.wrap, eq_false p31, p32, q33, p34.wrap, q35, eq_false c36, p38.wrap, U_law12_Make, lw, le, Nat.zero_le, Nat.sub_zero, take_app3, set_get, take_set, List.length_set, List.map_set, reduceIte, reduceCtorEq, Nat.reduceEqDiff, Nat.reduceAdd, Nat.reduceLeDiff, Nat.reduceSub, Nat.reduceLT, Int.reduceEq, Int.reduceLT, Int.reduceLE, Int.reduceToNat, Int.reduceAdd, Int.reduceSub, Int.reduceMul, Int.reduceNeg, Int.cast_ofNat_Int]
               refine T S _ _ ?_
               simp only [h, p1.wrap, eq_true c2, eq_true c3, p4, q5, p6.wrap, eq_true c7, eq_true c8, p9.wrap, eq_false p10, p11, p12, q13, p14.wrap, p15, q16, p17.wrap, p18.wrap, p19.wrap, p20.wrap, p21.wrap, q22, eq_true c23, p24.wrap, p25, q26, p27.wrap, p28.wrap, p29.wrap, p30.wrap, eq_false p31, p32, q33, p34.wrap, q35, eq_false c36, p38.wrap, U_law12_Make, lw, le, Nat.zero_le, Nat.sub_zero, take_app3, set_get, take_set, List.length_set, List.map_set, reduceIte, reduceCtorEq, Nat.reduceEqDiff, Nat.reduceAdd, Nat.reduceLeDiff, Nat.reduceSub, Nat.reduceLT, Int.reduceEq, Int.reduceLT, Int.reduceLE, Int.reduceToNat, Int.reduceAdd, Int.reduceSub, Int.reduceMul, Int.reduceNeg, Int.cast_ofNat_Int]
         · replace T := T.2 c23
           obtain ⟨p39, T⟩ := T
           rcases T with T | T
           · left
             intro S e f h
             unfold k_law12_Make_1
             rw [E_loop]
             try simp only [h, p1.wrap, eq_true c2, eq_true c3, p4, q5, p6.wrap, eq_true c7, eq_true c8, p9.wrap, eq_false p10, p11, p12, q13, p14.wrap, p15, q16, p17.wrap, p18.wrap, p19.wrap, p20.wrap, p21.wrap, q22, eq_false c23, p39.wrap, U_law12_Make, lw, le, Nat.zero_le, Nat.sub_zero, take_app3, set_get, take_set, List.length_set, List.map_set, reduceIte, reduceCtorEq, Nat.reduceEqDiff, Nat.reduceAdd, Nat.reduceLeDiff, Nat.reduceSub, Nat.reduceLT, Int.reduceEq, Int.reduceLT, Int.reduceLE, Int.reduceToNat, Int.reduceAdd, Int.reduceSub, Int.reduceMul, Int.reduceNeg, Int.cast_ofNat_Int]
             refine T S _ _ ?_
             simp only [h, p1.wrap, eq_true c2, eq_true c3, p4, q5, p6.wrap, eq_true c7, eq_true c8, p9.wrap, eq_false p10, p11, p12, q13, p14.wrap, p15, q16, p17.wrap, p18.wrap, p19.wrap, p20.wrap, p21.wrap, q22, eq_false c23, p39.wrap, U_law12_Make, lw, le, Nat.zero_le, Nat.sub_zero, take_app3, set_get, take_set, List.length_set, List.map_set, reduceIte, reduceCtorEq, Nat.reduceEqDiff, Nat.reduceAdd, Nat.reduceLeDiff, Nat.reduceSub, Nat.reduceLT, Int.reduceEq, Int.reduceLT, Int.reduceLE, Int.reduceToNat, Int.reduceAdd, Int.reduceSub, Int.reduceMul, Int.reduceNeg, Int.cast_ofNat_Int]
           · right
             intro S e f h
             unfold k_law12_Make_1
             rw [E_loop]
             try simp only [h, p1.wrap, eq_true c2, eq_true c3, p4, q5, p6.wrap, eq_true c7, eq_true c8, p9.wrap, eq_false p10, p11, p12, q13, p14.wrap, p15, q16, p17.wrap, p18.wrap, p19.wrap, p20.wrap, p21.wrap, q22, eq_false c23, p39.wrap, U_law12_Make, lw, le, Nat.zero_le, Nat.sub_zero, take_app3, set_get, take_set, List.length_set, List.map_set, reduceIte, reduceCtorEq, Nat.reduceEqDiff, Nat.reduceAdd, Nat.reduceLeDiff, Nat.reduceSub, Nat.reduceLT, Int.reduceEq, Int.reduceLT, Int.reduceLE, Int.reduceToNat, Int.reduceAdd, Int.reduceSub, Int.reduceMul, Int.reduceNeg, Int.cast_ofNat_Int]
             refine T S _ _ ?_
             simp only [h, p1.wrap, eq_true c2, eq_true c3, p4, q5, p6.wrap, eq_true c7, eq_true c8, p9.wrap, eq_false p10, p11, p12, q13, p14.wrap, p15, q16, p17.wrap, p18.wrap, p19.wrap, p20.wrap, p21.wrap, q22, eq_false c23, p39.wrap, U_law12_Make, lw, le, Nat.zero_le, Nat.sub_zero, take_app3, set_get, take_set, List.length_set, List.map_set, reduceIte, reduceCtorEq, Nat.reduceEqDiff, Nat.reduceAdd, Nat.reduceLeDiff, Nat.reduceSub, Nat.reduceLT, Int.reduceEq, Int.reduceLT, Int.reduceLE, Int.reduceToNat, Int.reduceAdd, Int.reduceSub, Int.reduceMul, Int.reduceNeg, Int.cast_ofNat_Int]
       · replace T := T.2 c8
         obtain ⟨p40, p41, v48, q42, p43, p44, p45, p46, p47, r49, q48, T⟩ := T
         simp only [R_ref10_Create, le] at q48
         by_cases c49 : r49.E = 0
         · replace T := T.1 c49
           obtain ⟨p50, p51, v50, q52, p53, p54, p55, p56, p57, p58, v51, q59, p60, r52, q61, T⟩ := T
           simp only [R_ref10_Admit, le] at q61
           by_cases c62 : r52.E = 0
           · replace T := T.1 c62
             obtain ⟨p63, T⟩ := T
             rcases T with T | T
             · left
               intro S e f h
               unfold k_law12_Make_1
               rw [E_loop]
               try simp only [h, p1.wrap, eq_true c2, eq_true c3, p4, q5, p6.wrap, eq_true c7, eq_false c8, p40.wrap, p41, q42, p43.wrap, p44.wrap, p45.wrap, p46.wrap, p47.wrap, q48, eq_true c49, p50.wrap, p51, q52, p53.wrap, p54.wrap, p55.wrap, p56.wrap, eq_false p57, p58, q59, p60.wrap, q61, eq_true c62, p63.wrap, U_law12_Make, lw, le, Nat.zero_le, Nat.sub_zero, take_app3, set_get, take_set, List.length_set, List.map_set, reduceIte, reduceCtorEq, Nat.reduceEqDiff, Nat.reduceAdd, Nat.reduceLeDiff, Nat.reduceSub, Nat.reduceLT, Int.reduceEq, Int.reduceLT, Int.reduceLE, Int.reduceToNat, Int.reduceAdd, Int.reduceSub, Int.reduceMul, Int.reduceNeg, Int.cast_ofNat_Int]
               refine T S _ _ ?_
               simp only [h, p1.wrap, eq_true c2, eq_true c3, p4, q5, p6.wrap, eq_true c7, eq_false c8, p40.wrap, p41, q42, p43.wrap, p44.wrap, p45.wrap, p46.wrap, p47.wrap, q48, eq_true c49, p50.wrap, p51, q52, p53.wrap, p54.wrap, p55.wrap, p56.wrap, eq_false p57, p58, q59, p60.wrap, q61, eq_true c62, p63.wrap, U_law12_Make, lw, le, Nat.zero_le, Nat.sub_zero, take_app3, set_get, take_set, List.length_set, List.map_set, reduceIte, reduceCtorEq, Nat.reduceEqDiff, Nat.reduceAdd, Nat.reduceLeDiff, Nat.reduceSub, Nat.reduceLT, Int.reduceEq, Int.reduceLT, Int.reduceLE, Int.reduceToNat, Int.reduceAdd, Int.reduceSub, Int.reduceMul, Int.reduceNeg, Int.cast_ofNat_Int]
             · right
               intro S e f h
               unfold k_law12_Make_1
               rw [E_loop]
               try simp only [h, p1.wrap, eq_true c2, eq_true c3, p4, q5, p6.wrap, eq_true c7, eq_false c8, p40.wrap, p41, q42, p43.wrap, p44.wrap, p45.wrap, p46.wrap, p47.wrap, q48, eq_true c49, p50.wrap, p51, q52, p53.wrap, p54.wrap, p55.wrap, p56.wrap, eq_false p57, p58, q59, p60.wrap, q61, eq_true c62, p63.wrap, U_law12_Make, lw, le, Nat.zero_le, Nat.sub_zero, take_app3, set_get, take_set, List.length_set, List.map_set, reduceIte, reduceCtorEq, Nat.reduceEqDiff, Nat.reduceAdd, Nat.reduceLeDiff, Nat.reduceSub, Nat.reduceLT, Int.reduceEq, Int.reduceLT, Int.reduceLE, Int.reduceToNat, Int.reduceAdd, Int.reduceSub, Int.reduceMul, Int.reduceNeg, Int.cast_ofNat_Int]
               refine T S _ _ ?_
               simp only [h, p1.wrap, eq_true c2, eq_true c3, p4, q5, p6.wrap, eq_true c7, eq_false c8, p40.wrap, p41, q42, p43.wrap, p44.wrap, p45.wrap, p46.wrap, p47.wrap, q48, eq_true c49, p50.wrap, p51, q52, p53.wrap, p54.wrap, p55.wrap, p56.wrap, eq_false p57, p58, q59, p60.wrap, q61, eq_true c62, p63.wrap, U_law12_Make, lw, le, Nat.zero_le, Nat.sub_zero, take_app3, set_get, take_set, List.length_set, List.map_set, reduceIte, reduceCtorEq, Nat.reduceEqDiff, Nat.reduceAdd, Nat.reduceLeDiff, Nat.reduceSub, Nat.reduceLT, Int.reduceEq, Int.reduceLT, Int.reduceLE, Int.reduceToNat, Int.reduceAdd, Int.reduceSub, Int.reduceMul, Int.reduceNeg, Int.cast_ofNat_Int]
           · replace T := T.2 c62
             obtain ⟨p64, T⟩ := T
             rcases T with T | T
             · left
               intro S e f h
               unfold k_law12_Make_1
               rw [E_loop]
               try simp only [h, p1.wrap, eq_true c2, eq_true c3, p4, q5, p6.wrap, eq_true c7, eq_false c8, p40.wrap, p41, q42, p43.wrap, p44.wrap, p45.wrap, p46.wrap, p47.wrap, q48, eq_true c49, p50.wrap, p51, q52, p53.wrap, p54.wrap, p55.wrap, p56.wrap, eq_false p57, p58, q59, p60.wrap, q61, eq_false c62, p64.wrap, U_law12_Make, lw, le, Nat.zero_le, Nat.sub_zero, take_app3, set_get, take_set, List.length_set, List.map_set, reduceIte, reduceCtorEq, Nat.reduceEqDiff, Nat.reduceAdd, Nat.reduceLeDiff, Nat.reduceSub, Nat.reduceLT, Int.reduceEq, Int.reduceLT, Int.reduceLE, Int.reduceToNat, Int.reduceAdd, Int.reduceSub, Int.reduceMul, Int.reduceNeg, Int.cast_ofNat_Int]
               refine T S _ _ ?_
               simp only [h, p1.wrap, eq_true c2, eq_true c3, p4, q5, p6.wrap, eq_true c7, eq_false c8, p40.wrap, p41, q42, p43.wrap, p44.wrap, p45.wrap, p46.wrap, p47.wrap, q48, eq_true c49, p50.wrap, p51, q52, p53.wrap, p54.wrap, p55.wrap, p56.wrap, eq_false p57, p58, q59, p60.wrap, q61, eq_false c62, p64.wrap, U_law12_Make, lw, le, Nat.zero_le, Nat.sub_zero, take_app3, set_get, take_set, List.length_set, List.map_set, reduceIte, reduceCtorEq, Nat.reduceEqDiff, Nat.reduceAdd, Nat.reduceLeDiff, Nat.reduceSub, Nat.reduceLT, Int.reduceEq, Int.reduceLT, Int.reduceLE, Int.reduceToNat, Int.reduceAdd, Int.reduceSub, Int.reduceMul, Int.reduceNeg, Int.cast_ofNat_Int]
             · right
               intro S e f h
               unfold k_law12_Make_1
               rw [E_loop]
               try simp only [h, p1.wrap, eq_true c2, eq_true c3, p4, q5, p6.wrap, eq_true c7, eq_false c8, p40.wrap, p41, q42, p43.wrap, p44.wrap, p45.wrap, p46.wrap, p47.wrap, q48, eq_true c49, p50.wrap, p51, q52, p53.wrap, p54.wrap, p55.wrap, p56.wrap, eq_false p57, p58, q59, p60.wrap, q61, eq_false c62, p64.wrap, U_law12_Make, lw, le, Nat.zero_le, Nat.sub_zero, take_app3, set_get, take_set, List.length_set, List.map_set, reduceIte, reduceCtorEq, Nat.reduceEqDiff, Nat.reduceAdd, Nat.reduceLeDiff, Nat.reduceSub, Nat.reduceLT, Int.reduceEq, Int.reduceLT, Int.reduceLE, Int.reduceToNat, Int.reduceAdd, Int.reduceSub, Int.reduceMul, Int.reduceNeg, Int.cast_ofNat_Int]
               refine T S _ _ ?_
               simp only [h, p1.wrap, eq_true c2, eq_true c3, p4, q5, p6.wrap, eq_true c7, eq_false c8, p40.wrap, p41, q42, p43.wrap, p44.wrap, p45.wrap, p46.wrap, p47.wrap, q48, eq_true c49, p50.wrap, p51, q52, p53.wrap, p54.wrap, p55.wrap, p56.wrap, eq_false p57, p58, q59, p60.wrap, q61, eq_false c62, p64.wrap, U_law12_Make, lw, le, Nat.zero_le, Nat.sub_zero, take_app3, set_get, take_set, List.length_set, List.map_set, reduceIte, reduceCtorEq, Nat.reduceEqDiff, Nat.reduceAdd, Nat.reduceLeDiff, Nat.reduceSub, Nat.reduceLT, Int.reduceEq, Int.reduceLT, Int.reduceLE, Int.reduceToNat, Int.reduceAdd, Int.reduceSub, Int.reduceMul, Int.reduceNeg, Int.cast_ofNat_Int]
         · replace T := T.2 c49
           obtain ⟨p65, T⟩ := T
           rcases T with T | T
           · left
             intro S e f h
             unfold k_law12_Make_1
             rw [E_loop]
             try simp only [h, p1.wrap, eq_true c2, eq_true c3, p4, q5, p6.wrap, eq_true c7, eq_false c8, p40.wrap, p41, q42, p43.wrap, p44.wrap, p45.wrap, p46.wrap, p47.wrap, q48, eq_false c49, p65.wrap, U_law12_Make, lw, le, Nat.zero_le, Nat.sub_zero, take_app3, set_get, take_set, List.length_set, List.map_set, reduceIte, reduceCtorEq, Nat.reduceEqDiff, Nat.reduceAdd, Nat.reduceLeDiff, Nat.reduceSub, Nat.reduceLT, Int.reduceEq, Int.reduceLT, Int.reduceLE, Int.reduceToNat, Int.reduceAdd, Int.reduceSub, Int.reduceMul, Int.reduceNeg, Int.cast_ofNat_Int]
             refine T S _ _ ?_
             simp only [h, p1.wrap, eq_true c2, eq_true c3, p4, q5, p6.wrap, eq_true c7, eq_false c8, p40.wrap, p41, q42, p43.wrap, p44.wrap, p45.wrap, p46.wrap, p47.wrap, q48, eq_false c49, p65.wrap, U_law12_Make, lw, le, Nat.zero_le, Nat.sub_zero, take_app3, set_get, take_set, List.length_set, List.map_set, reduceIte, reduceCtorEq, Nat.reduceEqDiff, Nat.reduceAdd, Nat.reduceLeDiff, Nat.reduceSub, Nat.reduceLT, Int.reduceEq, Int.reduceLT, Int.reduceLE, Int.reduceToNat, Int.reduceAdd, Int.reduceSub, Int.reduceMul, Int.reduceNeg, Int.cast_ofNat_Int]
           · right
             intro S e f h
             unfold k_law12_Make_1
             rw [E_loop]
             try simp only [h, p1.wrap, eq_true c2, eq_true c3, p4, q5, p6.wrap, eq_true c7, eq_false c8, p40.wrap, p41, q42, p43.wrap, p44.wrap, p45.wrap, p46.wrap, p47.wrap, q48, eq_false c49, p65.wrap, U_law12_Make, lw, le, Nat.zero_le, Nat.sub_zero, take_app3, set_get, take_set, List.length_set, List.map_set, reduceIte, reduceCtorEq, Nat.reduceEqDiff, Nat.reduceAdd, Nat.reduceLeDiff, Nat.reduceSub, Nat.reduceLT, Int.reduceEq, Int.reduceLT, Int.reduceLE, Int.reduceToNat, Int.reduceAdd, Int.reduceSub, Int.reduceMul, Int.reduceNeg, Int.cast_ofNat_Int]
             refine T S _ _ ?_
             simp only [h, p1.wrap, eq_true c2, eq_true c3, p4, q5, p6.wrap, eq_true c7, eq_false c8, p40.wrap, p41, q42, p43.wrap, p44.wrap, p45.wrap, p46.wrap, p47.wrap, q48, eq_false c49, p65.wrap, U_law12_Make, lw, le, Nat.zero_le, Nat.sub_zero, take_app3, set_get, take_set, List.length_set, List.map_set, reduceIte, reduceCtorEq, Nat.reduceEqDiff, Nat.reduceAdd, Nat.reduceLeDiff, Nat.reduceSub, Nat.reduceLT, Int.reduceEq, Int.reduceLT, Int.reduceLE, Int.reduceToNat, Int.reduceAdd, Int.reduceSub, Int.reduceMul, Int.reduceNeg, Int.cast_ofNat_Int]
     · replace T := T.2 c7
       obtain ⟨p66, p67, v53, q68, p69, p70, p71, p72, p73, r54, q74, T⟩ := T
       simp only [R_ref10_Create, le] at q74
       by_cases c75 : r54.E = 0
       · replace T := T.1 c75
         obtain ⟨p76, p77, v55, q78, p79, p80, p81, p82, p83, p84, v56, q85, p86, r57, q87, T⟩ := T
         simp only [R_ref10_Admit, le] at q87
         by_cases c88 : r57.E = 0
         · replace T := T.1 c88
           obtain ⟨p89, T⟩ := T
           rcases T with T | T
           · left
             intro S e f h
             unfold k_law12_Make_1
             rw [E_loop]
             try simp only [h, p1.wrap, eq_true c2, eq_true c3, p4, q5, p6.wrap, eq_false c7, p66.wrap, p67, q68, p69.wrap, p70.wrap, p71.wrap, p72.wrap, p73.wrap, q74, eq_true c75, p76.wrap, p77, q78, p79.wrap, p80.wrap, p81.wrap, p82.wrap, eq_false p83, p84, q85, p86.wrap, q87, eq_true c88, p89.wrap, U_law12_Make, lw, le, Nat.zero_le, Nat.sub_zero, take_app3, set_get, take_set, List.length_set, List.map_set, reduceIte, reduceCtorEq, Nat.reduceEqDiff, Nat.reduceAdd, Nat.reduceLeDiff, Nat.reduceSub, Nat.reduceLT, Int.reduceEq, Int.reduceLT, Int.reduceLE, Int.reduceToNat, Int.reduceAdd, Int.reduceSub, Int.reduceMul, Int.reduceNeg, Int.cast_ofNat_Int]
             refine T S _ _ ?_
             simp only [h, p1.wrap, eq_true c2, eq_true c3, p4, q5, p6.wrap, eq_false c7, p66.wrap, p67, q68, p69.wrap, p70.wrap, p71.wrap, p72.wrap, p73.wrap, q74, eq_true c75, p76.wrap, p77, q78, p79.wrap, p80.wrap, p81.wrap, p82.wrap, eq_false p83, p84, q85, p86.wrap, q87, eq_true c88, p89.wrap, U_law12_Make, lw, le, Nat.zero_le, Nat.sub_zero, take_app3, set_get, take_set, List.length_set, List.map_set, reduceIte, reduceCtorEq, Nat.reduceEqDiff, Nat.reduceAdd, Nat.reduceLeDiff, Nat.reduceSub, Nat.reduceLT, Int.reduceEq, Int.reduceLT, Int.reduceLE, Int.reduceToNat, Int.reduceAdd, Int.reduceSub, Int.reduceMul, Int.reduceNeg, Int.cast_ofNat_Int]
           · right
             intro S e f h
             unfold k_law12_Make_1
             rw [E_loop]
             try simp only [h, p1.wrap, eq_true c2, eq_true c3, p4, q5, p6.wrap, eq_false c7, p66.wrap, p67, q68, p69.wrap, p70.wrap, p71.wrap, p72.wrap, p73.wrap, q74, eq_true c75, p76.wrap, p77, q78, p79.wrap, p80.wrap, p81.wrap, p82.wrap, eq_false p83, p84, q85, p86.wrap, q87, eq_true c88, p89.wrap, U_law12_Make, lw, le, Nat.zero_le, Nat.sub_zero, take_app3, set_get, take_set, List.length_set, List.map_set, reduceIte, reduceCtorEq, Nat.reduceEqDiff, Nat.reduceAdd, Nat.reduceLeDiff, Nat.reduceSub, Nat.reduceLT, Int.reduceEq, Int.reduceLT, Int.reduceLE, Int.reduceToNat, Int.reduceAdd, Int.reduceSub, Int.reduceMul, Int.reduceNeg, Int.cast_ofNat_Int]
             refine T S _ _ ?_
             simp only [h, p1.wrap, eq_true c2, eq_true c3, p4, q5, p6.wrap, eq_false c7, p66.wrap, p67, q68, p69.wrap, p70.wrap, p71.wrap, p72.wrap, p73.wrap, q74, eq_true c75, p76.wrap, p77, q78, p79.wrap, p80.wrap, p81.wrap, p82.wrap, eq_false p83, p84, q85, p86.wrap, q87, eq_true c88, p89.wrap, U_law12_Make, lw, le, Nat.zero_le, Nat.sub_zero, take_app3, set_get, take_set, List.length_set, List.map_set, reduceIte, reduceCtorEq, Nat.reduceEqDiff, Nat.reduceAdd, Nat.reduceLeDiff, Nat.reduceSub, Nat.reduceLT, Int.reduceEq, Int.reduceLT, Int.reduceLE, Int.reduceToNat, Int.reduceAdd, Int.reduceSub, Int.reduceMul, Int.reduceNeg, Int.cast_ofNat_Int]
         · replace T := T.2 c88
           obtain ⟨p90, T⟩ := T
           rcases T with T | T
           · left
             intro S e f h
             unfold k_law12_Make_1
             rw [E_loop]
             try simp only [h, p1.wrap, eq_true c2, eq_true c3, p4, q5, p6.wrap, eq_false c7, p66.wrap, p67, q68, p69.wrap, p70.wrap, p71.wrap, p72.wrap, p73.wrap, q74, eq_true c75, p76.wrap, p77, q78, p79.wrap, p80.wrap, p81.wrap, p82.wrap, eq_false p83, p84, q85, p86.wrap, q87, eq_false c88, p90.wrap, U_law12_Make, lw, le, Nat.zero_le, Nat.sub_zero, take_app3, set_get, take_set, List.length_set, List.map_set, reduceIte, reduceCtorEq, Nat.reduceEqDiff, Nat.reduceAdd, Nat.reduceLeDiff, Nat.reduceSub, Nat.reduceLT, Int.reduceEq, Int.reduceLT, Int.reduceLE, Int.reduceToNat, Int.reduceAdd, Int.reduceSub, Int.reduceMul, Int.reduceNeg, Int.cast_ofNat_Int]
             refine T S _ _ ?_
             simp only [h, p1.wrap, eq_true c2, eq_true c3, p4, q5, p6.wrap, eq_false c7, p66.wrap, p67, q68, p69.wrap, p70.wrap, p71.wrap, p72.wrap, p73.wrap, q74, eq_true c75, p76.wrap, p77, q78, p79.wrap, p80.wrap, p81.wrap, p82.wrap, eq_false p83, p84, q85, p86.wrap, q87, eq_false c88, p90.wrap, U_law12_Make, lw, le, Nat.zero_le, Nat.sub_zero, take_app3, set_get, take_set, List.length_set, List.map_set, reduceIte, reduceCtorEq, Nat.reduceEqDiff, Nat.reduceAdd, Nat.reduceLeDiff, Nat.reduceSub, Nat.reduceLT, Int.reduceEq, Int.reduceLT, Int.reduceLE, Int.reduceToNat, Int.reduceAdd, Int.reduceSub, Int.reduceMul, Int.reduceNeg, Int.cast_ofNat_Int]
           · right
             intro S e f h
             unfold k_law12_Make_1
             rw [E_loop]
             try simp only [h, p1.wrap, eq_true c2, eq_true c3, p4, q5, p6.wrap, eq_false c7, p66.wrap, p67, q68, p69.wrap, p70.wrap, p71.wrap, p72.wrap, p73.wrap, q74, eq_true c75, p76.wrap, p77, q78, p79.wrap, p80.wrap, p81.wrap, p82.wrap, eq_false p83, p84, q85, p86.wrap, q87, eq_false c88, p90.wrap, U_law12_Make, lw, le, Nat.zero_le, Nat.sub_zero, take_app3, set_get, take_set, List.length_set, List.map_set, reduceIte, reduceCtorEq, Nat.reduceEqDiff, Nat.reduceAdd, Nat.reduceLeDiff, Nat.reduceSub, Nat.reduceLT, Int.reduceEq, Int.reduceLT, Int.reduceLE, Int.reduceToNat, Int.reduceAdd, Int.reduceSub, Int.reduceMul, Int.reduceNeg, Int.cast_ofNat_Int]
             refine T S _ _ ?_
             simp only [h, p1.wrap, eq_true c2, eq_true c3, p4, q5, p6.wrap, eq_false c7, p66.wrap, p67, q68, p69.wrap, p70.wrap, p71.wrap, p72.wrap, p73.wrap, q74, eq_true c75, p76.wrap, p77, q78, p79.wrap, p80.wrap, p81.wrap, p82.wrap, eq_false p83, p84, q85, p86.wrap, q87, eq_false c88, p90.wrap, U_law12_Make, lw, le, Nat.zero_le, Nat.sub_zero, take_app3, set_get, take_set, List.length_set, List.map_set, reduceIte, reduceCtorEq, Nat.reduceEqDiff, Nat.reduceAdd, Nat.reduceLeDiff, Nat.reduceSub, Nat.reduceLT, Int.reduceEq, Int.reduceLT, Int.reduceLE, Int.reduceToNat, Int.reduceAdd, Int.reduceSub, Int.reduceMul, Int.reduceNeg, Int.cast_ofNat_Int]
       · replace T := T.2 c75
         obtain ⟨p91, T⟩ := T
         rcases T with T | T
         · left
           intro S e f h
           unfold k_law12_Make_1
           rw [E_loop]
           try simp only [h, p1.wrap, eq_true c2, eq_true c3, p4, q5, p6.wrap, eq_false c7, p66.wrap, p67, q68, p69.wrap, p70.wrap, p71.wrap, p72.wrap, p73.wrap, q74, eq_false c75, p91.wrap, U_law12_Make, lw, le, Nat.zero_le, Nat.sub_zero, take_app3, set_get, take_set, List.length_set, List.map_set, reduceIte, reduceCtorEq, Nat.reduceEqDiff, Nat.reduceAdd, Nat.reduceLeDiff, Nat.reduceSub, Nat.reduceLT, Int.reduceEq, Int.reduceLT, Int.reduceLE, Int.reduceToNat, Int.reduceAdd, Int.reduceSub, Int.reduceMul, Int.reduceNeg, Int.cast_ofNat_Int]
           refine T S _ _ ?_
           simp only [h, p1.wrap, eq_true c2, eq_true c3, p4, q5, p6.wrap, eq_false c7, p66.wrap, p67, q68, p69.wrap, p70.wrap, p71.wrap, p72.wrap, p73.wrap, q74, eq_false c75, p91.wrap, U_law12_Make, lw, le, Nat.zero_le, Nat.sub_zero, take_app3, set_get, take_set, List.length_set, List.map_set, reduceIte, reduceCtorEq, Nat.reduceEqDiff, Nat.reduceAdd, Nat.reduceLeDiff, Nat.reduceSub, Nat.reduceLT, Int.reduceEq, Int.reduceLT, Int.reduceLE, Int.reduceToNat, Int.reduceAdd, Int.reduceSub, Int.reduceMul, Int.reduceNeg, Int.cast_ofNat_Int]
         · right
           intro S e f h
           unfold k_law12_Make_1
           rw [E_loop]
           try simp only [h, p1.wrap, eq_true c2, eq_true c3, p4, q5, p6.wrap, eq_false c7, p66.wrap, p67, q68, p69.wrap, p70.wrap, p71.wrap, p72.wrap, p73.wrap, q74, eq_false c75, p91.wrap, U_law12_Make, lw, le, Nat.zero_le, Nat.sub_zero, take_app3, set_get, take_set, List.length_set, List.map_set, reduceIte, reduceCtorEq, Nat.reduceEqDiff, Nat.reduceAdd, Nat.reduceLeDiff, Nat.reduceSub, Nat.reduceLT, Int.reduceEq, Int.reduceLT, Int.reduceLE, Int.reduceToNat, Int.reduceAdd, Int.reduceSub, Int.reduceMul, Int.reduceNeg, Int.cast_ofNat_Int]
           refine T S _ _ ?_
           simp only [h, p1.wrap, eq_true c2, eq_true c3, p4, q5, p6.wrap, eq_false c7, p66.wrap, p67, q68, p69.wrap, p70.wrap, p71.wrap, p72.wrap, p73.wrap, q74, eq_false c75, p91.wrap, U_law12_Make, lw, le, Nat.zero_le, Nat.sub_zero, take_app3, set_get, take_set, List.length_set, List.map_set, reduceIte, reduceCtorEq, Nat.reduceEqDiff, Nat.reduceAdd, Nat.reduceLeDiff, Nat.reduceSub, Nat.reduceLT, Int.reduceEq, Int.reduceLT, Int.reduceLE, Int.reduceToNat, Int.reduceAdd, Int.reduceSub, Int.reduceMul, Int.reduceNeg, Int.cast_ofNat_Int]
   · replace T := T.2 c3
     obtain rfl := T
     left
     intro S e f h
     unfold k_law12_Make_1
     rw [E_loop]
     simp only [h, p1.wrap, eq_true c2, eq_false c3, U_law12_Make, lw, le, Nat.zero_le, Nat.sub_zero, take_app3, set_get, take_set, List.length_set, List.map_set, reduceIte, reduceCtorEq, Nat.reduceEqDiff, Nat.reduceAdd, Nat.reduceLeDiff, Nat.reduceSub, Nat.reduceLT, Int.reduceEq, Int.reduceLT, Int.reduceLE, Int.reduceToNat, Int.reduceAdd, Int.reduceSub, Int.reduceMul, Int.reduceNeg, Int.cast_ofNat_Int]
 · replace T := T.2 c2
   obtain rfl := T
   left
   intro S e f h
   unfold k_law12_Make_1
   rw [E_loop]
   simp only [h, p1.wrap, eq_false c2, U_law12_Make, lw, le, Nat.zero_le, Nat.sub_zero, take_app3, set_get, take_set, List.length_set, List.map_set, reduceIte, reduceCtorEq, Nat.reduceEqDiff, Nat.reduceAdd, Nat.reduceLeDiff, Nat.reduceSub, Nat.reduceLT, Int.reduceEq, Int.reduceLT, Int.reduceLE, Int.reduceToNat, Int.reduceAdd, Int.reduceSub, Int.reduceMul, Int.reduceNeg, Int.cast_ofNat_Int]
set_option maxHeartbeats 4000000 in
theorem law12_Make_tree (ns : List UInt8) (r : List Item) (T :
  At_law12_Make_1 ns 0 [] r) : R_law12_Make ns r := by
 rcases T with T | T
 · left
   intro S
   rw [call_code sp_law12_Make _ _ rfl]
   try simp only [U_law12_Make, lw, le, Nat.zero_le, Nat.sub_zero, take_app3, set_get, take_set, List.length_set, List.map_set, reduceIte, reduceCtorEq, Nat.reduceEqDiff, Nat.reduceAdd, Nat.reduceLeDiff, Nat.reduceSub, Nat.reduceLT, Int.reduceEq, Int.reduceLT, Int.reduceLE, Int.reduceToNat, Int.reduceAdd, Int.reduceSub, Int.reduceMul, Int.reduceNeg, Int.cast_ofNat_Int]
   refine T S _ _ ?_
   simp only [U_law12_Make, lw, le, Nat.zero_le, Nat.sub_zero, take_app3, set_get, take_set, List.length_set, List.map_set, reduceIte, reduceCtorEq, Nat.reduceEqDiff, Nat.reduceAdd, Nat.reduceLeDiff, Nat.reduceSub, Nat.reduceLT, Int.reduceEq, Int.reduceLT, Int.reduceLE, Int.reduceToNat, Int.reduceAdd, Int.reduceSub, Int.reduceMul, Int.reduceNeg, Int.cast_ofNat_Int]
 · right
   intro S
   rw [call_code sp_law12_Make _ _ rfl]
   try simp only [U_law12_Make, lw, le, Nat.zero_le, Nat.sub_zero, take_app3, set_get, take_set, List.length_set, List.map_set, reduceIte, reduceCtorEq, Nat.reduceEqDiff, Nat.reduceAdd, Nat.reduceLeDiff, Nat.reduceSub, Nat.reduceLT, Int.reduceEq, Int.reduceLT, Int.reduceLE, Int.reduceToNat, Int.reduceAdd, Int.reduceSub, Int.reduceMul, Int.reduceNeg, Int.cast_ofNat_Int]
   refine T S _ _ ?_
   simp only [U_law12_Make, lw, le, Nat.zero_le, Nat.sub_zero, take_app3, set_get, take_set, List.length_set, List.map_set, reduceIte, reduceCtorEq, Nat.reduceEqDiff, Nat.reduceAdd, Nat.reduceLeDiff, Nat.reduceSub, Nat.reduceLT, Int.reduceEq, Int.reduceLT, Int.reduceLE, Int.reduceToNat, Int.reduceAdd, Int.reduceSub, Int.reduceMul, Int.reduceNeg, Int.cast_ofNat_Int]
theorem sp_law18_Live : SP 56 = some (.code sc_law18_Live) := SPof_code rfl Tryd.func56 comp_law18_Live
/-! doorkeeper/doorkeeperlaw18.Live -/
def At_law18_Live_1 (some_ : UInt8) (r1 : List Item) (i2 : Int) (l3 : List Mark) (ra : List Mark) (rb : List Item) : Prop := ∀ (S : Sto) (e : Nat → PV) (f : Fr), e 1 = .int .u8 ((some_.toNat : Nat) : Int) ∧ e 6 = .list 12 (r1.map eItem) false ∧ e 7 = .sl 0 (.slot 7) 0 l3.length l3.length 0 false ∧ e 8 = .int .i64 i2 ∧ f.arr (.slot 7) = some ⟨6, l3.map eMark, false, 0⟩ → k_law18_Live_1 SP (E SP (.loop b_law18_Live_1) ⟨e, f :: S⟩) = .ok (.v (.tup [.list 6 (ra.map eMark) false, .list 12 (rb.map eItem) false])) S
def At_law18_Live_1b (some_ : UInt8) (r1 : List Item) (i4 : Int) (l5 : List Mark) (ra : List Mark) (rb : List Item) : Prop := ∀ (S : Sto) (e : Nat → PV) (f : Fr), e 1 = .int .u8 ((some_.toNat : Nat) : Int) ∧ e 6 = .sl 0 (.slot 10) 0 r1.length r1.length 0 false ∧ e 7 = .sl 0 (.slot 7) 0 l5.length l5.length 0 false ∧ e 8 = .int .i64 i4 ∧ f.arr (.slot 7) = some ⟨6, l5.map eMark, false, 0⟩ ∧ f.arr (.slot 10) = some ⟨12, r1.map eItem, false, 0⟩ → k_law18_Live_1 SP (E SP (.loop b_law18_Live_1) ⟨e, f :: S⟩) = .ok (.v (.tup [.list 6 (ra.map eMark) false, .list 12 (rb.map eItem) false])) S
set_option maxHeartbeats 4000000 in
theorem At_law18_Live_1_step (some_ : UInt8) (r1 : List Item) (i2 : Int) (l3 : List Mark) (ra : List Mark) (rb : List Item) (T :
  ((i2 < ((r1.length : Nat) : Int)) →
  (I64 (((some_.toNat : Nat) : Int))) ∧
  (I64 (i2 + ((some_.toNat : Nat) : Int))) ∧
  ((0 < ((i2 + ((some_.toNat : Nat) : Int)).tmod 4)) →
   (0 ≤ i2) ∧
   ∃ (v6 : Item), (r1[i2.toNat]? = some v6) ∧
   (bigRow (l3.length + 1) 64) ∧
   (I64 (i2 + 1)) ∧
   At_law18_Live_1 some_ r1 (i2 + 1) (l3 ++ [(Mark.mk v6.Name v6.Parent v6.Limit v6.Ver)]) ra rb) ∧
  (¬ (0 < ((i2 + ((some_.toNat : Nat) : Int)).tmod 4)) →
   (I64 (i2 + 1)) ∧
   At_law18_Live_1 some_ r1 (i2 + 1) l3 ra rb)) ∧
 (¬ (i2 < ((r1.length : Nat) : Int)) →
  (((((some_.toNat : Nat) : Int).tmod 5) = 0) →
   (bigRow (l3.length + 1) 64) ∧
   (l3 ++ [(Mark.mk [122, 122] [] (Vec.mk 0 0 0) 1)]) = ra ∧ r1 = rb) ∧
  (¬ ((((some_.toNat : Nat) : Int).tmod 5) = 0) →
   l3 = ra ∧ r1 = rb))) : At_law18_Live_1 some_ r1 i2 l3 ra rb := by
 intro S e f h
 unfold k_law18_Live_1
 rw [E_loop]
 by_cases c1 : i2 < ((r1.length : Nat) : Int)
 · replace T := T.1 c1
   obtain ⟨p2, p3, T⟩ := T
   by_cases c4 : 0 < ((i2 + ((some_.toNat : Nat) : Int)).tmod 4)
   · replace T := T.1 c4
     obtain ⟨p5, v6, q6, p7, p8, T⟩ := T
     simp only [bigRow] at p7
     try simp only [h, eq_true c1, p2.wrap, p3.wrap, eq_true c4, p5, q6, p7, p8.wrap, U_law18_Live, lw, le, Nat.zero_le, Nat.sub_zero, take_app3, set_get, take_set, List.length_set, List.map_set, reduceIte, reduceCtorEq, Nat.reduceEqDiff, Nat.reduceAdd, Nat.reduceLeDiff, Nat.reduceSub, Nat.reduceLT, Int.reduceEq, Int.reduceLT, Int.reduceLE, Int.reduceToNat, Int.reduceAdd, Int.reduceSub, Int.reduceMul, Int.reduceNeg, Int.cast_ofNat_Int]
     refine T S _ _ ?_
     simp only [h, eq_true c1, p2.wrap, p3.wrap, eq_true c4, p5, q6, p7, p8.wrap, U_law18_Live, lw, le, Nat.zero_le, Nat.sub_zero, take_app3, set_get, take_set, List.length_set, List.map_set, reduceIte, reduceCtorEq, Nat.reduceEqDiff, Nat.reduceAdd, Nat.reduceLeDiff, Nat.reduceSub, Nat.reduceLT, Int.reduceEq, Int.reduceLT, Int.reduceLE, Int.reduceToNat, Int.reduceAdd, Int.reduceSub, Int.reduceMul, Int.reduceNeg, Int.cast_ofNat_Int]
   · replace T := T.2 c4
     obtain ⟨p9, T⟩ := T
     try simp only [h, eq_true c1, p2.wrap, p3.wrap, eq_false c4, p9.wrap, U_law18_Live, lw, le, Nat.zero_le, Nat.sub_zero, take_app3, set_get, take_set, List.length_set, List.map_set, reduceIte, reduceCtorEq, Nat.reduceEqDiff, Nat.reduceAdd, Nat.reduceLeDiff, Nat.reduceSub, Nat.reduceLT, Int.reduceEq, Int.reduceLT, Int.reduceLE, Int.reduceToNat, Int.reduceAdd, Int.reduceSub, Int.reduceMul, Int.reduceNeg, Int.cast_ofNat_Int]
     refine T S _ _ ?_
     simp only [h, eq_true c1, p2.wrap, p3.wrap, eq_false c4, p9.wrap, U_law18_Live, lw, le, Nat.zero_le, Nat.sub_zero, take_app3, set_get, take_set, List.length_set, List.map_set, reduceIte, reduceCtorEq, Nat.reduceEqDiff, Nat.reduceAdd, Nat.reduceLeDiff, Nat.reduceSub, Nat.reduceLT, Int.reduceEq, Int.reduceLT, Int.reduceLE, Int.reduceToNat, Int.reduceAdd, Int.reduceSub, Int.reduceMul, Int.reduceNeg, Int.cast_ofNat_Int]
 · replace T := T.2 c1
   by_cases c10 : (((some_.toNat : Nat) : Int).tmod 5) = 0
   · replace T := T.1 c10
     obtain ⟨p11, rfl, rfl⟩ := T
     simp only [bigRow] at p11
     simp only [h, eq_false c1, eq_true c10, p11, U_law18_Live, lw, le, Nat.zero_le, Nat.sub_zero, take_app3, set_get, take_set, List.length_set, List.map_set, reduceIte, reduceCtorEq, Nat.reduceEqDiff, Nat.reduceAdd, Nat.reduceLeDiff, Nat.reduceSub, Nat.reduceLT, Int.reduceEq, Int.reduceLT, Int.reduceLE, Int.reduceToNat, Int.reduceAdd, Int.reduceSub, Int.reduceMul, Int.reduceNeg, Int.cast_ofNat_Int]
   · replace T := T.2 c10
     obtain ⟨rfl, rfl⟩ := T
     simp only [h, eq_false c1, eq_false c10, U_law18_Live, lw, le, Nat.zero_le, Nat.sub_zero, take_app3, set_get, take_set, List.length_set, List.map_set, reduceIte, reduceCtorEq, Nat.reduceEqDiff, Nat.reduceAdd, Nat.reduceLeDiff, Nat.reduceSub, Nat.reduceLT, Int.reduceEq, Int.reduceLT, Int.reduceLE, Int.reduceToNat, Int.reduceAdd, Int.reduceSub, Int.reduceMul, Int.reduceNeg, Int.cast_ofNat_Int]
set_option maxHeartbeats 4000000 in
theorem At_law18_Live_1b_step (some_ : UInt8) (r1 : List Item) (i4 : Int) (l5 : List Mark) (ra : List Mark) (rb : List Item) (T :
  ((i4 < ((r1.length : Nat) : Int)) →
  (I64 (((some_.toNat : Nat) : Int))) ∧
  (I64 (i4 + ((some_.toNat : Nat) : Int))) ∧
  ((0 < ((i4 + ((some_.toNat : Nat) : Int)).tmod 4)) →
   (0 ≤ i4) ∧ (i4.toNat < r1.length) ∧
   ∃ (v7 : Item), (r1[i4.toNat]? = some v7) ∧
   (0 ≤ i4) ∧ (i4.toNat < r1.length) ∧
   (0 ≤ i4) ∧ (i4.toNat < r1.length) ∧
   (0 ≤ i4) ∧ (i4.toNat < r1.length) ∧
   (bigRow (l5.length + 1) 64) ∧
   (I64 (i4 + 1)) ∧
   At_law18_Live_1b some_ r1 (i4 + 1) (l5 ++ [(Mark.mk v7.Name v7.Parent v7.Limit v7.Ver)]) ra rb) ∧
  (¬ (0 < ((i4 + ((some_.toNat : Nat) : Int)).tmod 4)) →
   (I64 (i4 + 1)) ∧
   At_law18_Live_1b some_ r1 (i4 + 1) l5 ra rb)) ∧
 (¬ (i4 < ((r1.length : Nat) : Int)) →
  (((((some_.toNat : Nat) : Int).tmod 5) = 0) →
   (bigRow (l5.length + 1) 64) ∧
   (l5 ++ [(Mark.mk [122, 122] [] (Vec.mk 0 0 0) 1)]) = ra ∧ r1 = rb) ∧
  (¬ ((((some_.toNat : Nat) : Int).tmod 5) = 0) →
   l5 = ra ∧ r1 = rb))) : At_law18_Live_1b some_ r1 i4 l5 ra rb := by
 intro S e f h
 unfold k_law18_Live_1
 rw [E_loop]
 by_cases c1 : i4 < ((r1.length : Nat) : Int)
 · replace T := T.1 c1
   obtain ⟨p2, p3, T⟩ := T
   by_cases c4 : 0 < ((i4 + ((some_.toNat : Nat) : Int)).tmod 4)
   · replace T := T.1 c4
     obtain ⟨p5, p6, v7, q7, p8, p9, p10, p11, p12, p13, p14, p15, T⟩ := T
     simp only [bigRow] at p14
     try simp only [h, eq_true c1, p2.wrap, p3.wrap, eq_true c4, p5, p6, q7, p8, p9, p10, p11, p12, p13, p14, p15.wrap, U_law18_Live, lw, le, Nat.zero_le, Nat.sub_zero, take_app3, set_get, take_set, List.length_set, List.map_set, reduceIte, reduceCtorEq, Nat.reduceEqDiff, Nat.reduceAdd, Nat.reduceLeDiff, Nat.reduceSub, Nat.reduceLT, Int.reduceEq, Int.reduceLT, Int.reduceLE, Int.reduceToNat, Int.reduceAdd, Int.reduceSub, Int.reduceMul, Int.reduceNeg, Int.cast_ofNat_Int]
     refine T S _ _ ?_
     simp only [h, eq_true c1, p2.wrap, p3.wrap, eq_true c4, p5, p6, q7, p8, p9, p10, p11, p12, p13, p14, p15.wrap, U_law18_Live, lw, le, Nat.zero_le, Nat.sub_zero, take_app3, set_get, take_set, List.length_set, List.map_set, reduceIte, reduceCtorEq, Nat.reduceEqDiff, Nat.reduceAdd, Nat.reduceLeDiff, Nat.reduceSub, Nat.reduceLT, Int.reduceEq, Int.reduceLT, Int.reduceLE, Int.reduceToNat, Int.reduceAdd, Int.reduceSub, Int.reduceMul, Int.reduceNeg, Int.cast_ofNat_Int]
   · replace T := T.2 c4
     obtain ⟨p16, T⟩ := T
     try simp only [h, eq_true c1, p2.wrap, p3.wrap, eq_false c4, p16.wrap, U_law18_Live, lw, le, Nat.zero_le, Nat.sub_zero, take_app3, set_get, take_set, List.length_set, List.map_set, reduceIte, reduceCtorEq, Nat.reduceEqDiff, Nat.reduceAdd, Nat.reduceLeDiff, Nat.reduceSub, Nat.reduceLT, Int.reduceEq, Int.reduceLT, Int.reduceLE, Int.reduceToNat, Int.reduceAdd, Int.reduceSub, Int.reduceMul, Int.reduceNeg, Int.cast_ofNat_Int]
     refine T S _ _ ?_
     simp only [h, eq_true c1, p2.wrap, p3.wrap, eq_false c4, p16.wrap, U_law18_Live, lw, le, Nat.zero_le, Nat.sub_zero, take_app3, set_get, take_set, List.length_set, List.map_set, reduceIte, reduceCtorEq, Nat.reduceEqDiff, Nat.reduceAdd, Nat.reduceLeDiff, Nat.reduceSub, Nat.reduceLT, Int.reduceEq, Int.reduceLT, Int.reduceLE, Int.reduceToNat, Int.reduceAdd, Int.reduceSub, Int.reduceMul, Int.reduceNeg, Int.cast_ofNat_Int]
 · replace T := T.2 c1
   by_cases c17 : (((some_.toNat : Nat) : Int).tmod 5) = 0
   · replace T := T.1 c17
     obtain ⟨p18, rfl, rfl⟩ := T
     simp only [bigRow] at p18
     simp only [h, eq_false c1, eq_true c17, p18, U_law18_Live, lw, le, Nat.zero_le, Nat.sub_zero, take_app3, set_get, take_set, List.length_set, List.map_set, reduceIte, reduceCtorEq, Nat.reduceEqDiff, Nat.reduceAdd, Nat.reduceLeDiff, Nat.reduceSub, Nat.reduceLT, Int.reduceEq, Int.reduceLT, Int.reduceLE, Int.reduceToNat, Int.reduceAdd, Int.reduceSub, Int.reduceMul, Int.reduceNeg, Int.cast_ofNat_Int]
   · replace T := T.2 c17
     obtain ⟨rfl, rfl⟩ := T
     simp only [h, eq_false c1, eq_false c17, U_law18_Live, lw, le, Nat.zero_le, Nat.sub_zero, take_app3, set_get, take_set, List.length_set, List.map_set, reduceIte, reduceCtorEq, Nat.reduceEqDiff, Nat.reduceAdd, Nat.reduceLeDiff, Nat.reduceSub, Nat.reduceLT, Int.reduceEq, Int.reduceLT, Int.reduceLE, Int.reduceToNat, Int.reduceAdd, Int.reduceSub, Int.reduceMul, Int.reduceNeg, Int.cast_ofNat_Int]
set_option maxHeartbeats 4000000 in
theorem law18_Live_tree (ns : List UInt8) (some_ : UInt8) (ra : List Mark) (rb : List Item) (T :
  ∃ (r1 : List Item), (R_law12_Make ns r1) ∧
 (At_law18_Live_1 some_ r1 0 [] ra rb) ∧
 (At_law18_Live_1b some_ r1 0 [] ra rb)) : R_law18_Live ns some_ ra rb := by
 intro S
 rw [call_code sp_law18_Live _ _ rfl]
 obtain ⟨r1, q1, T⟩ := T
 simp only [R_law12_Make, le] at q1
 rcases q1 with q1 | q1
 · replace T := T.1
   try simp only [q1, U_law18_Live, lw, le, Nat.zero_le, Nat.sub_zero, take_app3, set_get, take_set, List.length_set, List.map_set, reduceIte, reduceCtorEq, Nat.reduceEqDiff, Nat.reduceAdd, Nat.reduceLeDiff, Nat.reduceSub, Nat.reduceLT, Int.reduceEq, Int.reduceLT, Int.reduceLE, Int.reduceToNat, Int.reduceAdd, Int.reduceSub, Int.reduceMul, Int.reduceNeg, Int.cast_ofNat_Int]
   refine T S _ _ ?_
   simp only [q1, U_law18_Live, lw, le, Nat.zero_le, Nat.sub_zero, take_app3, set_get, take_set, List.length_set, List.map_set, reduceIte, reduceCtorEq, Nat.reduceEqDiff, Nat.reduceAdd, Nat.reduceLeDiff, Nat.reduceSub, Nat.reduceLT, Int.reduceEq, Int.reduceLT, Int.reduceLE, Int.reduceToNat, Int.reduceAdd, Int.reduceSub, Int.reduceMul, Int.reduceNeg, Int.cast_ofNat_Int]
 · replace T := T.2
   try simp only [q1, U_law18_Live, lw, le, Nat.zero_le, Nat.sub_zero, take_app3, set_get, take_set, List.length_set, List.map_set, reduceIte, reduceCtorEq, Nat.reduceEqDiff, Nat.reduceAdd, Nat.reduceLeDiff, Nat.reduceSub, Nat.reduceLT, Int.reduceEq, Int.reduceLT, Int.reduceLE, Int.reduceToNat, Int.reduceAdd, Int.reduceSub, Int.reduceMul, Int.reduceNeg, Int.cast_ofNat_Int]
   refine T S _ _ ?_
   simp only [q1, U_law18_Live, lw, le, Nat.zero_le, Nat.sub_zero, take_app3, set_get, take_set, List.length_set, List.map_set, reduceIte, reduceCtorEq, Nat.reduceEqDiff, Nat.reduceAdd, Nat.reduceLeDiff, Nat.reduceSub, Nat.reduceLT, Int.reduceEq, Int.reduceLT, Int.reduceLE, Int.reduceToNat, Int.reduceAdd, Int.reduceSub, Int.reduceMul, Int.reduceNeg, Int.cast_ofNat_Int]
theorem sp_law26_lines : SP 58 = some (.code sc_law26_lines) := SPof_code rfl Tryd.func58 comp_law26_lines
/-! doorkeeper/doorkeeperlaw26.lines -/
def At_law26_lines_1 (s : List UInt8) (i1 : Int) (i2 : Int) (l3 : List (List UInt8)) (r : List (List UInt8)) : Prop := ∀ (S : Sto) (e : Nat → PV) (f : Fr), e 0 = .str s ∧ e 3 = .sl 0 (.slot 3) 0 l3.length l3.length 0 false ∧ e 4 = .int .i64 i1 ∧ e 5 = .int .i64 i2 ∧ f.arr (.slot 3) = some ⟨1, l3.map eS, false, 0⟩ → k_law26_lines_1 SP (E SP (.loop b_law26_lines_1) ⟨e, f :: S⟩) = .ok (.arr 1 (r.map eS) false) S
set_option maxHeartbeats 4000000 in
theorem At_law26_lines_1_step (s : List UInt8) (i1 : Int) (i2 : Int) (l3 : List (List UInt8)) (r : List (List UInt8)) (T :
  ((i2 < ((s.length : Nat) : Int)) →
  (0 ≤ i2) ∧
  ∃ (b4 : UInt8), (s[i2.toNat]? = some b4) ∧
  ((((b4.toNat : Nat) : Int) = 10) →
   (0 ≤ i1) ∧ (0 ≤ i2) ∧ (i1.toNat ≤ i2.toNat) ∧ (i2.toNat ≤ s.length) ∧
   (bigRow (l3.length + 1) 16) ∧
   (I64 (i2 + 1)) ∧
   (I64 (i2 + 1)) ∧
   At_law26_lines_1 s (i2 + 1) (i2 + 1) (l3 ++ [((s.drop i1.toNat).take (i2.toNat - i1.toNat))]) r) ∧
  (¬ (((b4.toNat : Nat) : Int) = 10) →
   (I64 (i2 + 1)) ∧
   At_law26_lines_1 s i1 (i2 + 1) l3 r)) ∧
 (¬ (i2 < ((s.length : Nat) : Int)) →
  l3 = r)) : At_law26_lines_1 s i1 i2 l3 r := by
 intro S e f h
 unfold k_law26_lines_1
 rw [E_loop]
 by_cases c1 : i2 < ((s.length : Nat) : Int)
 · replace T := T.1 c1
   obtain ⟨p2, b4, q3, T⟩ := T
   by_cases c4 : ((b4.toNat : Nat) : Int) = 10
   · replace T := T.1 c4
     obtain ⟨p5, p6, p7, p8, p9, p10, p11, T⟩ := T
     simp only [bigRow] at p9
     try simp only [h, eq_true c1, p2, q3, eq_true c4, p5, p6, p7, p8, p9, p10.wrap, p11.wrap, U_law26_lines, lw, le, Nat.zero_le, Nat.sub_zero, take_app3, set_get, take_set, List.length_set, List.map_set, reduceIte, reduceCtorEq, Nat.reduceEqDiff, Nat.reduceAdd, Nat.reduceLeDiff, Nat.reduceSub, Nat.reduceLT, Int.reduceEq, Int.reduceLT, Int.reduceLE, Int.reduceToNat, Int.reduceAdd, Int.reduceSub, Int.reduceMul, Int.reduceNeg, Int.cast_ofNat_Int]
     refine T S _ _ ?_
     simp only [h, eq_true c1, p2, q3, eq_true c4, p5, p6, p7, p8, p9, p10.wrap, p11.wrap, U_law26_lines, lw, le, Nat.zero_le, Nat.sub_zero, take_app3, set_get, take_set, List.length_set, List.map_set, reduceIte, reduceCtorEq, Nat.reduceEqDiff, Nat.reduceAdd, Nat.reduceLeDiff, Nat.reduceSub, Nat.reduceLT, Int.reduceEq, Int.reduceLT, Int.reduceLE, Int.reduceToNat, Int.reduceAdd, Int.reduceSub, Int.reduceMul, Int.reduceNeg, Int.cast_ofNat_Int]
   · replace T := T.2 c4
     obtain ⟨p12, T⟩ := T
     try simp only [h, eq_true c1, p2, q3, eq_false c4, p12.wrap, U_law26_lines, lw, le, Nat.zero_le, Nat.sub_zero, take_app3, set_get, take_set, List.length_set, List.map_set, reduceIte, reduceCtorEq, Nat.reduceEqDiff, Nat.reduceAdd, Nat.reduceLeDiff, Nat.reduceSub, Nat.reduceLT, Int.reduceEq, Int.reduceLT, Int.reduceLE, Int.reduceToNat, Int.reduceAdd, Int.reduceSub, Int.reduceMul, Int.reduceNeg, Int.cast_ofNat_Int]
     refine T S _ _ ?_
     simp only [h, eq_true c1, p2, q3, eq_false c4, p12.wrap, U_law26_lines, lw, le, Nat.zero_le, Nat.sub_zero, take_app3, set_get, take_set, List.length_set, List.map_set, reduceIte, reduceCtorEq, Nat.reduceEqDiff, Nat.reduceAdd, Nat.reduceLeDiff, Nat.reduceSub, Nat.reduceLT, Int.reduceEq, Int.reduceLT, Int.reduceLE, Int.reduceToNat, Int.reduceAdd, Int.reduceSub, Int.reduceMul, Int.reduceNeg, Int.cast_ofNat_Int]
 · replace T := T.2 c1
   obtain rfl := T
   simp only [h, eq_false c1, U_law26_lines, lw, le, Nat.zero_le, Nat.sub_zero, take_app3, set_get, take_set, List.length_set, List.map_set, reduceIte, reduceCtorEq, Nat.reduceEqDiff, Nat.reduceAdd, Nat.reduceLeDiff, Nat.reduceSub, Nat.reduceLT, Int.reduceEq, Int.reduceLT, Int.reduceLE, Int.reduceToNat, Int.reduceAdd, Int.reduceSub, Int.reduceMul, Int.reduceNeg, Int.cast_ofNat_Int]
set_option maxHeartbeats 4000000 in
theorem law26_lines_tree (s : List UInt8) (r : List (List UInt8)) (T :
  At_law26_lines_1 s 0 0 [] r) : R_law26_lines s r := by
 intro S
 rw [call_code sp_law26_lines _ _ rfl]
 try simp only [U_law26_lines, lw, le, Nat.zero_le, Nat.sub_zero, take_app3, set_get, take_set, List.length_set, List.map_set, reduceIte, reduceCtorEq, Nat.reduceEqDiff, Nat.reduceAdd, Nat.reduceLeDiff, Nat.reduceSub, Nat.reduceLT, Int.reduceEq, Int.reduceLT, Int.reduceLE, Int.reduceToNat, Int.reduceAdd, Int.reduceSub, Int.reduceMul, Int.reduceNeg, Int.cast_ofNat_Int]
 refine T S _ _ ?_
 simp only [U_law26_lines, lw, le, Nat.zero_le, Nat.sub_zero, take_app3, set_get, take_set, List.length_set, List.map_set, reduceIte, reduceCtorEq, Nat.reduceEqDiff, Nat.reduceAdd, Nat.reduceLeDiff, Nat.reduceSub, Nat.reduceLT, Int.reduceEq, Int.reduceLT, Int.reduceLE, Int.reduceToNat, Int.reduceAdd, Int.reduceSub, Int.reduceMul, Int.reduceNeg, Int.cast_ofNat_Int]
end Go.Proofs.YtebflncfgjnkkaaDoor.M

/- Reports: trees made by numbers: a node is created, something is admitted. -/
namespace Go.Proofs.YtebflncfgjnkkaaDoor.M
set_option linter.unusedSimpArgs false
set_option linter.unusedVariables false
open Go Classical
def low (B : Int) (v : Vec) : Prop := (0 ≤ v.Cpu ∧ v.Cpu ≤ B) ∧ (0 ≤ v.Mem ∧ v.Mem ≤ B) ∧ (0 ≤ v.Pods ∧ v.Pods ≤ B)
theorem low_ok {B : Int} {v : Vec} (h : low B v) (hB : B ≤ 1000000) : okVec v := by
  obtain ⟨⟨a, b⟩, ⟨c, d⟩, e, f⟩ := h
  exact ⟨⟨by omega, by omega⟩, ⟨by omega, by omega⟩, ⟨by omega, by omega⟩⟩
theorem low_mono {B C : Int} {v : Vec} (h : low B v) (hB : B ≤ C) : low C v := by
  obtain ⟨⟨a, b⟩, ⟨c, d⟩, e, f⟩ := h
  exact ⟨⟨a, by omega⟩, ⟨c, by omega⟩, e, by omega⟩
def sh (x : Item) : List UInt8 × List UInt8 × Vec := (x.Name, x.Parent, x.Limit)
structure Inv (B : Int) (l : List Item) : Prop where
  len : l.length ≤ 24
  deep : ∃ d, Deep l d
  par : ∀ x ∈ l, x.Parent = [] ∨ ∃ y ∈ l, y.Name = x.Parent
  nam : ∀ x ∈ l, ∃ c : UInt8, x.Name = [c] ∧ 97 ≤ c.toNat ∧ c.toNat ≤ 120
  lim : ∀ x ∈ l, low 300 x.Limit
  sub : ∀ x ∈ l, low 300 x.Sub
  own : ∀ x ∈ l, low B x.Own
theorem Inv.nil : Inv 0 [] := ⟨by simp, ⟨_, Deep.nil⟩, fun x h => (by cases h), fun x h => (by cases h), fun x h => (by cases h), fun x h => (by cases h), fun x h => (by cases h)⟩
theorem Inv.mono {B C : Int} {l : List Item} (h : Inv B l) (hB : B ≤ C) : Inv C l := ⟨h.len, h.deep, h.par, h.nam, h.lim, h.sub, fun x hx => low_mono (h.own x hx) hB⟩
theorem findN_some {l : List Item} {n : List UInt8} (h : 0 ≤ findN l n) : ∃ x ∈ l, x.Name = n := by
  have := (findI_any (isN n) 0 l).1 h
  rw [List.any_eq_true] at this
  obtain ⟨x, hx, hn⟩ := this
  exact ⟨x, hx, by simpa [isN] using hn⟩
theorem findN_none {l : List Item} {n : List UInt8} (h : ¬ 0 ≤ findN l n) : ∀ x ∈ l, x.Name ≠ n := fun x hx e => by
  obtain ⟨j, y, h1, _⟩ := findN_get hx
  rw [e] at h1
  omega
/-- A node, put in its place. -/
def put1 (l : List Item) (k : Nat) (x : Item) : List Item := l.take k ++ [x] ++ l.drop k
theorem put1_perm (l : List Item) (k : Nat) (x : Item) : List.Perm (put1 l k x) (x :: l) := by
  have h : List.Perm (l.take k ++ x :: l.drop k) (x :: (l.take k ++ l.drop k)) := List.perm_middle
  rw [List.take_append_drop] at h
  simpa [put1] using h
theorem put1_mem {l : List Item} {k : Nat} {x y : Item} : y ∈ put1 l k x ↔ y = x ∨ y ∈ l := by rw [(put1_perm l k x).mem_iff, List.mem_cons]
theorem put1_len (l : List Item) (k : Nat) (x : Item) : (put1 l k x).length = l.length + 1 := by rw [(put1_perm l k x).length_eq, List.length_cons]
def newI (name parent : List UInt8) (limit : Vec) : Item := .mk name parent limit ⟨0, 0, 0⟩ ⟨0, 0, 0⟩ 1
theorem r_Create_loop (l : List Item) (hl : l.length ≤ 200) (name parent : List UInt8) (limit : Vec) : ∀ (k i : Nat), i + k = l.length → ∃ j, j ≤ l.length ∧ At_ref10_Create_1 l name parent limit i ⟨put1 l j (newI name parent limit), 0⟩ := by
  have hcp : ∀ i : Nat, R_ref10_copied (l.take i) (l.take i) := fun i => ref10_copied_tree _ _ ⟨by simp only [bigRow, List.length_take]; omega, rfl⟩
  have hd : ∀ i : Nat, (l.drop i).take (l.length - i) = l.drop i := fun i => List.take_of_length_le (by simp)
  intro k
  induction k with
  | zero =>
    intro i hi
    refine ⟨i, by omega, At_ref10_Create_1_step _ _ _ _ _ _ ⟨fun h => by omega, fun _ => ⟨by omega, by simp; omega, _, hcp i, ?_, by omega, by simp; omega, ?_, ?_⟩⟩⟩
    · simp only [bigRow, List.length_take]; omega
    · simp only [bigRow, List.length_take, List.length_drop, Int.toNat_natCast]; omega
    · simp only [Int.toNat_natCast, hd]; rfl
  | succ k ih =>
    intro i hi
    have hlt : i < l.length := by omega
    by_cases hb : bytesLess l[i].Name name = true
    · obtain ⟨j, hj, h⟩ := ih (i + 1) (by omega)
      exact ⟨j, hj, At_ref10_Create_1_step _ _ _ _ _ _ ⟨fun _ => ⟨by omega, l[i], by simp [hlt], fun _ => ⟨⟨by omega, by omega⟩, h⟩, fun h => absurd hb h⟩, fun h => absurd (by omega) h⟩⟩
    · refine ⟨i, by omega, At_ref10_Create_1_step _ _ _ _ _ _ ⟨fun _ => ⟨by omega, l[i], by simp [hlt], fun h => absurd h hb, fun _ => ⟨by omega, by simp; omega, _, hcp i, ?_, by omega, by simp; omega, ?_, ?_⟩⟩, fun h => absurd (by omega) h⟩⟩
      · simp only [bigRow, List.length_take]; omega
      · simp only [bigRow, List.length_take, List.length_drop, Int.toNat_natCast]; omega
      · simp only [Int.toNat_natCast, hd]; rfl
theorem r_no (e : Int) : R_ref10_no e ⟨[], e⟩ := ref10_no_tree _ _ rfl
/-- What comes of it, if anything. -/
def Made1 (l : List Item) (name parent : List UInt8) (limit : Vec) (r : Grown) : Prop := r.E = 0 → ∃ j, r.L = put1 l j (newI name parent limit) ∧ (∀ x ∈ l, x.Name ≠ name) ∧ (parent = [] ∨ ∃ x ∈ l, x.Name = parent)
theorem r_Create (l : List Item) (hl : l.length ≤ 100) (name parent : List UInt8) (limit : Vec) : ∃ r, R_ref10_Create l name parent limit r ∧ Made1 l name parent limit r := by
  obtain ⟨j, hj, hloop⟩ := r_Create_loop l (by omega) name parent limit l.length 0 (by omega)
  have hf := r_Find l name (by omega)
  have hp := r_Find l parent (by omega)
  by_cases h1 : mayN name = true
  · by_cases h2 : mayV limit = true
    · by_cases h3 : 0 ≤ findN l name
      · exact ⟨_, ref10_Create_tree _ _ _ _ _ ⟨_, r_MayName _, fun _ => ⟨_, r_MayVec _, fun _ => ⟨_, hf, fun _ => ⟨_, r_no 3, rfl⟩, fun h => absurd h3 h⟩, fun h => absurd h2 h⟩, fun h => absurd h1 h⟩, fun h => by cases h⟩
      · have hn := findN_none h3
        by_cases h4 : parent = []
        · exact ⟨_, ref10_Create_tree _ _ _ _ _ ⟨_, r_MayName _, fun _ => ⟨_, r_MayVec _, fun _ => ⟨_, hf, fun h => absurd h h3, fun _ => ⟨fun _ => ⟨fun h => by omega, fun _ => hloop⟩, fun h => absurd h4 h⟩⟩, fun h => absurd h2 h⟩, fun h => absurd h1 h⟩, fun _ => ⟨j, rfl, hn, .inl h4⟩⟩
        · by_cases h5 : findN l parent < 0
          · exact ⟨_, ref10_Create_tree _ _ _ _ _ ⟨_, r_MayName _, fun _ => ⟨_, r_MayVec _, fun _ => ⟨_, hf, fun h => absurd h h3, fun _ => ⟨fun h => absurd h h4, fun _ => ⟨_, hp, fun _ => ⟨_, r_no 2, rfl⟩, fun h => absurd h5 h⟩⟩⟩, fun h => absurd h2 h⟩, fun h => absurd h1 h⟩, fun h => by cases h⟩
          · exact ⟨_, ref10_Create_tree _ _ _ _ _ ⟨_, r_MayName _, fun _ => ⟨_, r_MayVec _, fun _ => ⟨_, hf, fun h => absurd h h3, fun _ => ⟨fun h => absurd h h4, fun _ => ⟨_, hp, fun h => absurd h h5, fun _ => ⟨fun h => by omega, fun _ => hloop⟩⟩⟩⟩, fun h => absurd h2 h⟩, fun h => absurd h1 h⟩, fun _ => ⟨j, rfl, hn, .inr (findN_some (by omega))⟩⟩
    · exact ⟨_, ref10_Create_tree _ _ _ _ _ ⟨_, r_MayName _, fun _ => ⟨_, r_MayVec _, fun h => absurd h h2, fun _ => ⟨_, r_no 1, rfl⟩⟩, fun h => absurd h1 h⟩, fun h => by cases h⟩
  · exact ⟨_, ref10_Create_tree _ _ _ _ _ ⟨_, r_MayName _, fun h => absurd h h1, fun _ => ⟨_, r_no 1, rfl⟩⟩, fun h => by cases h⟩
theorem Inv.create {B : Int} {l : List Item} (h : Inv B l) (hl : l.length < 24) (h0 : 0 ≤ B) {c : UInt8} {parent : List UInt8} {limit : Vec} (hc : 97 ≤ c.toNat ∧ c.toNat ≤ 120) (hlim : low 300 limit) {j : Nat} (hn : ∀ x ∈ l, x.Name ≠ [c]) (hp : parent = [] ∨ ∃ x ∈ l, x.Name = parent) : Inv B (put1 l j (newI [c] parent limit)) := by
  obtain ⟨d, hd⟩ := h.deep
  have hpn : parent ≠ [c] := by
    rcases hp with rfl | ⟨x, hx, rfl⟩
    · simp
    · exact hn x hx
  have hpar : ∀ x ∈ l, x.Parent ≠ [c] := fun x hx => by
    rcases h.par x hx with e | ⟨y, hy, e⟩
    · rw [e]; simp
    · rw [← e]; exact hn y hy
  have hdp : d parent ≤ l.length := by
    rcases hp with rfl | ⟨x, hx, rfl⟩
    · rw [hd.root]; omega
    · exact hd.le x hx
  refine ⟨by rw [put1_len]; omega, ⟨fun n => if n = [c] then d parent + 1 else d n, ?_, fun x hx => ?_, fun x hx => ?_, ?_⟩, fun x hx => ?_, fun x hx => ?_, fun x hx => ?_, fun x hx => ?_, fun x hx => ?_⟩
  · rw [if_neg (by simp)]; exact hd.root
  · rcases put1_mem.1 hx with rfl | hx
    · show (if [c] = [c] then d parent + 1 else _) = (if parent = [c] then _ else d parent) + 1
      rw [if_pos rfl, if_neg hpn]
    · show (if x.Name = [c] then _ else d x.Name) = (if x.Parent = [c] then _ else d x.Parent) + 1
      rw [if_neg (hn x hx), if_neg (hpar x hx)]
      exact hd.up x hx
  · rw [put1_len]
    rcases put1_mem.1 hx with rfl | hx
    · show (if [c] = [c] then d parent + 1 else _) ≤ _
      rw [if_pos rfl]; omega
    · show (if x.Name = [c] then _ else d x.Name) ≤ _
      rw [if_neg (hn x hx)]
      have := hd.le x hx
      omega
  · rw [((put1_perm l j _).map _).nodup_iff, List.map_cons, List.nodup_cons]
    refine ⟨fun hm => ?_, hd.ne⟩
    rw [List.mem_map] at hm
    obtain ⟨x, hx, e⟩ := hm
    exact hn x hx e
  · rcases put1_mem.1 hx with rfl | hx
    · rcases hp with rfl | ⟨y, hy, e⟩
      · exact .inl rfl
      · exact .inr ⟨y, put1_mem.2 (.inr hy), e⟩
    · rcases h.par x hx with e | ⟨y, hy, e⟩
      · exact .inl e
      · exact .inr ⟨y, put1_mem.2 (.inr hy), e⟩
  · rcases put1_mem.1 hx with rfl | hx
    · exact ⟨c, rfl, hc⟩
    · exact h.nam x hx
  · rcases put1_mem.1 hx with rfl | hx
    · exact hlim
    · exact h.lim x hx
  · rcases put1_mem.1 hx with rfl | hx
    · exact ⟨⟨by simp [newI], by simp [newI]⟩, ⟨by simp [newI], by simp [newI]⟩, by simp [newI], by simp [newI]⟩
    · exact h.sub x hx
  · rcases put1_mem.1 hx with rfl | hx
    · exact ⟨⟨by simp [newI], by simpa [newI] using h0⟩, ⟨by simp [newI], by simpa [newI] using h0⟩, by simp [newI], by simpa [newI] using h0⟩
    · exact h.own x hx
/-! ### Admitted -/
theorem sh_mem {l m : List Item} (h : m.map sh = l.map sh) {x : Item} (hx : x ∈ m) : ∃ y ∈ l, y.Name = x.Name ∧ y.Parent = x.Parent ∧ y.Limit = x.Limit := by
  have : sh x ∈ l.map sh := by rw [← h]; exact List.mem_map_of_mem hx
  rw [List.mem_map] at this
  obtain ⟨y, hy, e⟩ := this
  simp only [sh, Prod.mk.injEq] at e
  exact ⟨y, hy, e.1, e.2.1, e.2.2⟩
theorem sh_set {m : List Item} {j : Nat} {x y : Item} (h : m[j]? = some x) (e : sh y = sh x) : (m.set j y).map sh = m.map sh := by
  rw [List.map_set]
  apply List.ext_getElem?
  intro i
  rw [List.getElem?_set]
  split
  · rename_i hij
    subst hij
    have hlt := (List.getElem?_eq_some_iff.1 h).1
    rw [if_pos (by simpa using hlt), List.getElem?_map, h, e]
    rfl
  · rfl
theorem set_mem {m : List Item} {j : Nat} {y x : Item} (h : x ∈ m.set j y) : x = y ∨ x ∈ m := by
  obtain ⟨i, hi⟩ := List.getElem?_of_mem h
  rw [List.getElem?_set] at hi
  split at hi
  · split at hi
    · exact .inl (Option.some.inj hi).symm
    · cases hi
  · exact .inr (List.mem_of_getElem? hi)
theorem Deep.congr {l m : List Item} {d : List UInt8 → Nat} (h : Deep l d) (e : m.map sh = l.map sh) : Deep m d := by
  have hlen : m.length = l.length := by have := congrArg List.length e; simpa using this
  refine ⟨h.root, fun x hx => ?_, fun x hx => ?_, ?_⟩
  · obtain ⟨y, hy, e1, e2, _⟩ := sh_mem e hx
    rw [← e1, ← e2]; exact h.up y hy
  · obtain ⟨y, hy, e1, _⟩ := sh_mem e hx
    rw [← e1, hlen]; exact h.le y hy
  · have : m.map (·.Name) = l.map (·.Name) := by
      have := congrArg (List.map Prod.fst) e
      simpa [List.map_map, sh, Function.comp_def] using this
    rw [this]; exact h.ne
theorem upF_mem (l : List Item) : ∀ (k : Nat) (i : Int), i < ((l.length : Nat) : Int) → ∀ n ∈ upF l k i, ∃ x ∈ l, x.Name = n
  | 0, _, _, n, h => by simp [upF] at h
  | k + 1, i, hi, n, h => by
    unfold upF at h
    split at h
    · rename_i h0
      have hlt : i.toNat < l.length := by omega
      have hg : l[i.toNat]? = some l[i.toNat] := List.getElem?_eq_getElem hlt
      rw [hg] at h
      rcases List.mem_cons.1 h with rfl | h
      · exact ⟨_, List.getElem_mem hlt, rfl⟩
      · exact upF_mem l k _ (findN_lt _ _) n h
    · cases h
theorem r_Add (a b : Vec) (ha : low 1000000 a) (hb : low 1000000 b) : R_ref10_Add a b ⟨a.Cpu + b.Cpu, a.Mem + b.Mem, a.Pods + b.Pods⟩ := by
  obtain ⟨⟨a1, a2⟩, ⟨a3, a4⟩, a5, a6⟩ := ha
  obtain ⟨⟨b1, b2⟩, ⟨b3, b4⟩, b5, b6⟩ := hb
  apply ref10_Add_tree
  exact ⟨⟨by omega, by omega⟩, ⟨by omega, by omega⟩, ⟨by omega, by omega⟩, rfl⟩
theorem leV_low {a b : Vec} {B : Int} (h : leV a b = true) (hb : low B b) (h0 : 0 ≤ a.Cpu ∧ 0 ≤ a.Mem ∧ 0 ≤ a.Pods) : low B a := by
  simp only [leV, Bool.and_eq_true, decide_eq_true_eq] at h
  obtain ⟨⟨b1, b2⟩, ⟨b3, b4⟩, b5, b6⟩ := hb
  obtain ⟨h1, h2, h3⟩ := h0
  exact ⟨⟨h1, by omega⟩, ⟨h2, by omega⟩, h3, by omega⟩
theorem r_Admit_loop {B : Int} {l : List Item} (h : Inv B l) (hB : 0 ≤ B ∧ B ≤ 1000) (name : List UInt8) (hname : ∃ x ∈ l, x.Name = name) (v : Vec) (hv : low 15 v) (up : List (List UInt8)) (hup : ∀ n ∈ up, ∃ x ∈ l, x.Name = n) (hul : up.length ≤ 1000) (i6 : Int) (l7 : List Item) : ∀ (k i : Nat), i + k = up.length → ∀ m : List Item, m.map sh = l.map sh → (∀ x ∈ m, low 300 x.Sub) → (∀ x ∈ m, low B x.Own) → ∃ r, At_ref10_Admit_1 name v up i i6 l7 m r ∧ (r.E = 0 → Inv (B + 15) r.L ∧ r.L.length = l.length) := by
  have find : ∀ (m : List Item), m.map sh = l.map sh → ∀ n, (∃ x ∈ l, x.Name = n) → ∃ (j : Nat) (y : Item), findN m n = (j : Int) ∧ m[j]? = some y ∧ y ∈ m := by
    intro m hm n hn
    obtain ⟨x, hx, rfl⟩ := hn
    obtain ⟨y, hy, e, _⟩ := sh_mem hm.symm hx
    obtain ⟨j, z, h1, h2, h3⟩ := findN_get hy
    rw [e] at h1
    exact ⟨j, z, h1, h2, List.mem_of_getElem? h2⟩
  intro k
  induction k with
  | zero =>
    intro i hi m hm hs ho
    have hlen : m.length = l.length := by have := congrArg List.length hm; simpa using this
    have hll := h.len
    obtain ⟨j, y, h1, h2, h3⟩ := find m hm name hname
    have hj := (List.getElem?_eq_some_iff.1 h2).1
    have hoy := ho y h3
    have hadd := r_Add y.Own v (low_mono hoy (by omega)) (low_mono hv (by omega))
    refine ⟨_, At_ref10_Admit_1_step _ _ _ _ _ _ _ _ ⟨fun h => by omega, fun _ => ⟨_, r_Find m name (by omega), by rw [h1]; omega, by rw [h1]; simpa using hj, y, by rw [h1]; simpa using h2, _, hadd, by rw [h1]; omega, by rw [h1]; simpa using hj, rfl⟩⟩, fun _ => ?_⟩
    rw [h1]
    simp only [Int.toNat_natCast]
    have hsh : (m.set j (Item.mk y.Name y.Parent y.Limit ⟨y.Own.Cpu + v.Cpu, y.Own.Mem + v.Mem, y.Own.Pods + v.Pods⟩ y.Sub y.Ver)).map sh = l.map sh := by
        rw [sh_set h2]
        · exact hm
        · rfl
    obtain ⟨d, hd⟩ := h.deep
    refine ⟨⟨by simp; omega, ⟨d, hd.congr hsh⟩, fun x hx => ?_, fun x hx => ?_, fun x hx => ?_, fun x hx => ?_, fun x hx => ?_⟩, by simp [hlen]⟩
    · obtain ⟨z, hz, e1, e2, e3⟩ := sh_mem hsh hx
      rcases h.par z hz with e | ⟨u, hu, e⟩
      · exact .inl (by rw [← e2, e])
      · obtain ⟨u', hu', e', _⟩ := sh_mem hsh.symm hu
        exact .inr ⟨u', hu', by rw [e', e, e2]⟩
    · obtain ⟨z, hz, e1, e2, e3⟩ := sh_mem hsh hx
      rw [← e1]; exact h.nam z hz
    · obtain ⟨z, hz, e1, e2, e3⟩ := sh_mem hsh hx
      rw [← e3]; exact h.lim z hz
    · rcases set_mem hx with rfl | hx
      · exact hs y h3
      · exact hs x hx
    · rcases set_mem hx with rfl | hx
      · obtain ⟨⟨a1, a2⟩, ⟨a3, a4⟩, a5, a6⟩ := hoy
        obtain ⟨⟨b1, b2⟩, ⟨b3, b4⟩, b5, b6⟩ := hv
        refine ⟨⟨?_, ?_⟩, ⟨?_, ?_⟩, ?_, ?_⟩ <;> dsimp only <;> omega
      · exact low_mono (ho x hx) (by omega)
  | succ k ih =>
    intro i hi m hm hs ho
    have hlen : m.length = l.length := by have := congrArg List.length hm; simpa using this
    have hll := h.len
    have hlt : i < up.length := by omega
    obtain ⟨j, y, h1, h2, h3⟩ := find m hm up[i] (hup _ (List.getElem_mem hlt))
    have hj := (List.getElem?_eq_some_iff.1 h2).1
    have hsy := hs y h3
    have hadd := r_Add y.Sub v (low_mono hsy (by omega)) (low_mono hv (by omega))
    have g1 : (0 : Int) ≤ findN m up[i] := by rw [h1]; omega
    have g2 : (findN m up[i]).toNat < m.length := by rw [h1]; simpa using hj
    by_cases hle : leV ⟨y.Sub.Cpu + v.Cpu, y.Sub.Mem + v.Mem, y.Sub.Pods + v.Pods⟩ y.Limit = true
    · have hsh : (m.set j (Item.mk y.Name y.Parent y.Limit y.Own ⟨y.Sub.Cpu + v.Cpu, y.Sub.Mem + v.Mem, y.Sub.Pods + v.Pods⟩ y.Ver)).map sh = l.map sh := by
        rw [sh_set h2]
        · exact hm
        · rfl
      obtain ⟨z, hz, _, _, e3⟩ := sh_mem hm h3
      have hlow : low 300 ⟨y.Sub.Cpu + v.Cpu, y.Sub.Mem + v.Mem, y.Sub.Pods + v.Pods⟩ := leV_low hle (by rw [← e3]; exact h.lim z hz) (by
        obtain ⟨⟨a1, a2⟩, ⟨a3, a4⟩, a5, a6⟩ := hsy
        obtain ⟨⟨b1, b2⟩, ⟨b3, b4⟩, b5, b6⟩ := hv
        exact ⟨by dsimp only; omega, by dsimp only; omega, by dsimp only; omega⟩)
      obtain ⟨r, hr, hr2⟩ := ih (i + 1) (by omega) _ hsh (fun x hx => by
        rcases set_mem hx with rfl | hx
        · exact hlow
        · exact hs x hx) (fun x hx => by
        rcases set_mem hx with rfl | hx
        · exact ho y h3
        · exact ho x hx)
      refine ⟨r, At_ref10_Admit_1_step _ _ _ _ _ _ _ _ ⟨fun _ => ⟨by omega, by simpa using hlt, up[i], by simp [hlt], _, r_Find m _ (by omega), g1, g2, y, by rw [h1]; simpa using h2, _, hadd, g1, g2, g1, g2, g1, g2, _, r_Le _ _, fun _ => ⟨⟨by omega, by omega⟩, ?_⟩, fun h => absurd hle h⟩, fun h => absurd (by omega) h⟩, hr2⟩
      rw [h1]
      exact hr
    · exact ⟨_, At_ref10_Admit_1_step _ _ _ _ _ _ _ _ ⟨fun _ => ⟨by omega, by simpa using hlt, up[i], by simp [hlt], _, r_Find m _ (by omega), g1, g2, y, by rw [h1]; simpa using h2, _, hadd, g1, g2, g1, g2, g1, g2, _, r_Le _ _, fun h => absurd h hle, fun _ => ⟨_, r_no 12, rfl⟩⟩, fun h => absurd (by omega) h⟩, fun h => by cases h⟩
theorem r_Admit {B : Int} {l : List Item} (h : Inv B l) (hB : 0 ≤ B ∧ B ≤ 1000) (name : List UInt8) (hname : ∃ x ∈ l, x.Name = name) (v : Vec) (hv : low 15 v) : ∃ r, R_ref10_Admit l name v r ∧ (r.E = 0 → Inv (B + 15) r.L ∧ r.L.length = l.length) := by
  have hll := h.len
  have hup := r_Up l (by omega) name
  have hul := upF_le l (l.length + 1) (findN l name)
  obtain ⟨r, hr, hr2⟩ := r_Admit_loop h hB name hname v hv (upT l name) (fun n hn => upF_mem l _ _ (findN_lt _ _) n hn) (by unfold upT; omega) 0 [] (upT l name).length 0 (by omega) l rfl h.sub h.own
  have hmv : mayV v = true := by
    obtain ⟨⟨b1, b2⟩, ⟨b3, b4⟩, b5, b6⟩ := hv
    have e1 : v.Cpu ≤ 1099511627776 := by omega
    have e2 : v.Mem ≤ 1099511627776 := by omega
    have e3 : v.Pods ≤ 1099511627776 := by omega
    simp [mayV, unitB, b1, b3, b5, e1, e2, e3]
  by_cases h0 : (((upT l name).length : Nat) : Int) = 0
  · exact ⟨_, ref10_Admit_tree _ _ _ _ ⟨_, hup, _, r_MayVec v, fun _ => ⟨fun _ => ⟨_, r_no 2, rfl⟩, fun h => absurd h0 h⟩, fun h => absurd hmv h⟩, fun h => by cases h⟩
  · exact ⟨r, ref10_Admit_tree _ _ _ _ ⟨_, hup, _, r_MayVec v, fun _ => ⟨fun h => absurd h h0, fun _ => ⟨_, ref10_copied_tree l l ⟨⟨by omega, by omega, by omega⟩, rfl⟩, hr⟩⟩, fun h => absurd hmv h⟩, hr2⟩
end Go.Proofs.YtebflncfgjnkkaaDoor.M

/- Reports: trees and steps made by numbers. (Written by Wm2.py.) -/
namespace Go.Proofs.YtebflncfgjnkkaaDoor.M
set_option linter.unusedSimpArgs false
set_option linter.unusedVariables false
open Go Classical
/-- One round of Make, behind the choice of what it lies below. -/
def MSub (ns : List UInt8) (i1 : Int) (l2 : List Item) (p : List UInt8) (K : List Item → Prop) (K2 : Prop) : Prop :=
  (I64 (i1 + 1)) ∧ (0 ≤ (i1 + 1)) ∧
  ∃ (v5 : UInt8), (ns[(i1 + 1).toNat]? = some v5) ∧ (I64 (((v5.toNat : Nat) : Int))) ∧ (I64 (20 + ((v5.toNat : Nat) : Int))) ∧ (I64 (((l2.length : Nat) : Int) * 5)) ∧ (I64 (97 + ((((l2.length : Nat) : Int) * 5).tmod 24))) ∧ (U8 ((97 + ((((l2.length : Nat) : Int) * 5).tmod 24)))) ∧
  ∃ (r6 : Grown), (R_ref10_Create l2 [(UInt8.ofNat ((97 + ((((l2.length : Nat) : Int) * 5).tmod 24))).toNat)] p (Vec.mk (20 + ((v5.toNat : Nat) : Int)) (20 + ((v5.toNat : Nat) : Int)) (20 + ((v5.toNat : Nat) : Int))) r6) ∧
  ((r6.E = 0) →
    (I64 (i1 + 2)) ∧ (0 ≤ (i1 + 2)) ∧
    ∃ (v7 : UInt8), (ns[(i1 + 2).toNat]? = some v7) ∧ (I64 (((v7.toNat : Nat) : Int))) ∧ (I64 (i1 + 2)) ∧ (I64 (((v7.toNat : Nat) : Int))) ∧ (I64 (((v7.toNat : Nat) : Int).tdiv 16)) ∧ ¬ (((r6.L.length : Nat) : Int) = 0) ∧ (0 ≤ ((((v7.toNat : Nat) : Int).tdiv 16).tmod ((r6.L.length : Nat) : Int))) ∧
    ∃ (v8 : Item), (r6.L[((((v7.toNat : Nat) : Int).tdiv 16).tmod ((r6.L.length : Nat) : Int)).toNat]? = some v8) ∧ (I64 ((((v7.toNat : Nat) : Int).tmod 16).tdiv 2)) ∧
    ∃ (r9 : Grown), (R_ref10_Admit r6.L v8.Name (Vec.mk (((v7.toNat : Nat) : Int).tmod 16) ((((v7.toNat : Nat) : Int).tmod 16).tdiv 2) ((((v7.toNat : Nat) : Int).tmod 16).tmod 3)) r9) ∧
    ((r9.E = 0) → (I64 (i1 + 3)) ∧ K r9.L) ∧ (¬ (r9.E = 0) → (I64 (i1 + 3)) ∧ K r6.L)) ∧
  (¬ (r6.E = 0) → (I64 (i1 + 3)) ∧ K2)
theorem byteI (b : UInt8) : 0 ≤ ((b.toNat : Nat) : Int) ∧ ((b.toNat : Nat) : Int) ≤ 255 := by have := b.toNat_lt; omega
theorem byteI64 (b : UInt8) : I64 ((b.toNat : Nat) : Int) := by have := byteI b; exact ⟨by omega, by omega⟩
theorem tdivL (a b : Nat) : I64 (((a : Nat) : Int).tdiv (b : Int)) ↔ I64 ((a / b : Nat) : Int) := by rw [tdivN]
theorem msub_ok (ns : List UInt8) (hns : ns.length ≤ 1000) (i : Nat) (l : List Item) (p : List UInt8) (h : Inv (15 * (l.length : Nat)) l) (hl : l.length < 24) (hi : i + 2 < ns.length) (hp : p = [] ∨ ∃ x ∈ l, x.Name = p) :
    (∃ l', Inv (15 * (l'.length : Nat)) l' ∧ ∀ K K2, K l' → MSub ns (i : Nat) l p K K2) ∨ (∀ (K : List Item → Prop) (K2 : Prop), K2 → MSub ns (i : Nat) l p K K2) := by
  have hv1 : i + 1 < ns.length := by omega
  have b1 := byteI ns[i + 1]
  have b2 := byteI ns[i + 2]
  have e5 : (((l.length : Nat) : Int) * 5).tmod 24 = ((l.length * 5 % 24 : Nat) : Int) := by
    have := tmodN (l.length * 5) 24
    rw [← this, Int.natCast_mul]
    rfl
  have hc : 97 ≤ (UInt8.ofNat ((97 + ((((l.length : Nat) : Int) * 5).tmod 24))).toNat).toNat ∧ (UInt8.ofNat ((97 + ((((l.length : Nat) : Int) * 5).tmod 24))).toNat).toNat ≤ 120 := by
    rw [e5]
    have : l.length * 5 % 24 < 24 := Nat.mod_lt _ (by omega)
    have e : (97 + ((l.length * 5 % 24 : Nat) : Int)).toNat = 97 + l.length * 5 % 24 := by omega
    rw [e, UInt8.toNat_ofNat', Nat.mod_eq_of_lt (by omega)]
    omega
  obtain ⟨rc, hrc, hmade⟩ := r_Create l (by omega) [(UInt8.ofNat ((97 + ((((l.length : Nat) : Int) * 5).tmod 24))).toNat)] p (Vec.mk (20 + ((ns[i + 1].toNat : Nat) : Int)) (20 + ((ns[i + 1].toNat : Nat) : Int)) (20 + ((ns[i + 1].toNat : Nat) : Int)))
  have g1 : ns[(((i : Nat) : Int) + 1).toNat]? = some ns[i + 1] := by rw [show (((i : Nat) : Int) + 1).toNat = i + 1 by omega]; exact List.getElem?_eq_getElem hv1
  have g2 : ns[(((i : Nat) : Int) + 2).toNat]? = some ns[i + 2] := by rw [show (((i : Nat) : Int) + 2).toNat = i + 2 by omega]; exact List.getElem?_eq_getElem hi
  have m24 : 0 ≤ (((l.length : Nat) : Int) * 5).tmod 24 ∧ (((l.length : Nat) : Int) * 5).tmod 24 < 24 := by
    rw [e5]
    have : l.length * 5 % 24 < 24 := Nat.mod_lt _ (by omega)
    omega
  have I1 : I64 (((i : Nat) : Int) + 1) := ⟨by omega, by omega⟩
  have I2 : I64 (((i : Nat) : Int) + 2) := ⟨by omega, by omega⟩
  have I3 : I64 (((i : Nat) : Int) + 3) := ⟨by omega, by omega⟩
  have d16 : ((ns[i + 2].toNat : Nat) : Int).tdiv 16 = ((ns[i + 2].toNat / 16 : Nat) : Int) := tdivN _ 16
  have m16 : ((ns[i + 2].toNat : Nat) : Int).tmod 16 = ((ns[i + 2].toNat % 16 : Nat) : Int) := tmodN _ 16
  have d2 : ((ns[i + 2].toNat % 16 : Nat) : Int).tdiv 2 = ((ns[i + 2].toNat % 16 / 2 : Nat) : Int) := tdivN _ 2
  have m3 : ((ns[i + 2].toNat % 16 : Nat) : Int).tmod 3 = ((ns[i + 2].toNat % 16 % 3 : Nat) : Int) := tmodN _ 3
  have q16 : ns[i + 2].toNat % 16 < 16 := Nat.mod_lt _ (by omega)
  have q3 : ns[i + 2].toNat % 16 % 3 < 3 := Nat.mod_lt _ (by omega)
  by_cases hE : rc.E = 0
  · left
    obtain ⟨j, hL, hn, hp2⟩ := hmade hE
    have hI := h.create hl (by omega) (c := UInt8.ofNat ((97 + ((((l.length : Nat) : Int) * 5).tmod 24))).toNat) (limit := Vec.mk (20 + ((ns[i + 1].toNat : Nat) : Int)) (20 + ((ns[i + 1].toNat : Nat) : Int)) (20 + ((ns[i + 1].toNat : Nat) : Int))) (j := j) hc ⟨⟨by dsimp only; omega, by dsimp only; omega⟩, ⟨by dsimp only; omega, by dsimp only; omega⟩, by dsimp only; omega, by dsimp only; omega⟩ hn hp2
    rw [← hL] at hI
    have hlen : rc.L.length = l.length + 1 := by rw [hL, put1_len]
    have mq : (((ns[i + 2].toNat / 16 : Nat) : Int)).tmod ((rc.L.length : Nat) : Int) = ((ns[i + 2].toNat / 16 % rc.L.length : Nat) : Int) := tmodN _ _
    have hq : ns[i + 2].toNat / 16 % rc.L.length < rc.L.length := Nat.mod_lt _ (by omega)
    obtain ⟨ra, hra, hainv⟩ := r_Admit hI ⟨by omega, by omega⟩ rc.L[ns[i + 2].toNat / 16 % rc.L.length].Name ⟨_, List.getElem_mem hq, rfl⟩ (Vec.mk ((ns[i + 2].toNat % 16 : Nat) : Int) ((ns[i + 2].toNat % 16 / 2 : Nat) : Int) ((ns[i + 2].toNat % 16 % 3 : Nat) : Int)) ⟨⟨by dsimp only; omega, by dsimp only; omega⟩, ⟨by dsimp only; omega, by dsimp only; omega⟩, by dsimp only; omega, by dsimp only; omega⟩
    have pre : ∀ K K2, ((ra.E = 0) → K ra.L) → (¬ (ra.E = 0) → K rc.L) → MSub ns (i : Nat) l p K K2 := fun K K2 k1 k2 =>
      ⟨I1, by omega, _, g1, byteI64 _, ⟨by omega, by omega⟩, ⟨by omega, by omega⟩, ⟨by omega, by omega⟩, ⟨by omega, by omega⟩, rc, hrc, fun _ => ⟨I2, by omega, _, g2, byteI64 _, I2, byteI64 _, ⟨by rw [d16]; omega, by rw [d16]; omega⟩, by omega, by rw [d16, mq]; omega, rc.L[ns[i + 2].toNat / 16 % rc.L.length], by rw [d16, mq, Int.toNat_natCast]; exact List.getElem?_eq_getElem hq, ⟨by rw [m16, d2]; omega, by rw [m16, d2]; omega⟩, ra, by rw [m16, d2, m3]; exact hra, fun e => ⟨I3, k1 e⟩, fun e => ⟨I3, k2 e⟩⟩, fun e => absurd hE e⟩
    by_cases hA : ra.E = 0
    · obtain ⟨h1, h2⟩ := hainv hA
      exact ⟨ra.L, h1.mono (by omega), fun K K2 hk => pre K K2 (fun _ => hk) (fun e => absurd hA e)⟩
    · exact ⟨rc.L, hI.mono (by omega), fun K K2 hk => pre K K2 (fun e => absurd e hA) (fun _ => hk)⟩
  · right
    intro K K2 hk
    exact ⟨I1, by omega, _, g1, byteI64 _, ⟨by omega, by omega⟩, ⟨by omega, by omega⟩, ⟨by omega, by omega⟩, ⟨by omega, by omega⟩, rc, hrc, fun e => absurd e hE, fun _ => ⟨I3, hk⟩⟩

theorem r_Make_1b (ns : List UInt8) (hns : ns.length ≤ 1000) : ∀ (k i : Nat) (l : List Item), ns.length ≤ i + k → i + 3 * k ≤ 1000000 → Inv (15 * (l.length : Nat)) l → ∃ r, At_law12_Make_1b ns l (i : Nat) r ∧ Inv (15 * (r.length : Nat)) r := by
  intro k
  induction k with
  | zero =>
    intro i l hi hk h
    exact ⟨l, At_law12_Make_1b_step _ _ _ _ ⟨⟨by omega, by omega⟩, fun h => by omega, fun _ => rfl⟩, h⟩
  | succ k ih =>
    intro i l hi hk h
    by_cases c1 : i + 2 < ns.length
    · have I2 : I64 (((i : Nat) : Int) + 2) := ⟨by omega, by omega⟩
      by_cases c2 : l.length < 24
      · have g0 : ns[((i : Nat) : Int).toNat]? = some ns[i] := by rw [Int.toNat_natCast]; exact List.getElem?_eq_getElem (by omega)
        have b0 := byteI ns[i]
        have d3 : ((ns[i].toNat : Nat) : Int).tdiv 3 = ((ns[i].toNat / 3 : Nat) : Int) := tdivN _ 3
        by_cases c3 : 0 < l.length
        · have ml : (((ns[i].toNat / 3 : Nat) : Int)).tmod ((l.length : Nat) : Int) = ((ns[i].toNat / 3 % l.length : Nat) : Int) := tmodN _ _
          have hq : ns[i].toNat / 3 % l.length < l.length := Nat.mod_lt _ c3
          by_cases c4 : 0 < ((ns[i].toNat : Nat) : Int).tmod 3
          · have pre : ∀ r, MSub ns (i : Nat) l l[ns[i].toNat / 3 % l.length].Name (fun l => At_law12_Make_1b ns l (((i : Nat) : Int) + 3) r) (At_law12_Make_1b ns l (((i : Nat) : Int) + 3) r) → At_law12_Make_1b ns l (i : Nat) r := fun r hs =>
              At_law12_Make_1b_step _ _ _ _ ⟨I2, fun _ => ⟨fun _ => ⟨by omega, _, g0, byteI64 _, fun _ => ⟨fun _ => ⟨⟨by rw [d3]; omega, by rw [d3]; omega⟩, by omega, by rw [d3, ml]; omega, l[ns[i].toNat / 3 % l.length], by rw [d3, ml, Int.toNat_natCast]; exact List.getElem?_eq_getElem hq, hs⟩, fun h => absurd c4 h⟩, fun h => absurd (by omega) h⟩, fun h => absurd (by omega) h⟩, fun h => absurd (by omega) h⟩
            rcases msub_ok ns hns i l _ h c2 c1 (.inr ⟨_, List.getElem_mem hq, rfl⟩) with ⟨l', hI, hs⟩ | hs
            · obtain ⟨r, hr, hr2⟩ := ih (i + 3) l' (by omega) (by omega) hI
              exact ⟨r, pre r (hs _ _ hr), hr2⟩
            · obtain ⟨r, hr, hr2⟩ := ih (i + 3) l (by omega) (by omega) h
              exact ⟨r, pre r (hs _ _ hr), hr2⟩
          · have pre : ∀ r, MSub ns (i : Nat) l [] (fun l => At_law12_Make_1b ns l (((i : Nat) : Int) + 3) r) (At_law12_Make_1b ns l (((i : Nat) : Int) + 3) r) → At_law12_Make_1b ns l (i : Nat) r := fun r hs =>
              At_law12_Make_1b_step _ _ _ _ ⟨I2, fun _ => ⟨fun _ => ⟨by omega, _, g0, byteI64 _, fun _ => ⟨fun h => absurd h c4, fun _ => hs⟩, fun h => absurd (by omega) h⟩, fun h => absurd (by omega) h⟩, fun h => absurd (by omega) h⟩
            rcases msub_ok ns hns i l _ h c2 c1 (.inl rfl) with ⟨l', hI, hs⟩ | hs
            · obtain ⟨r, hr, hr2⟩ := ih (i + 3) l' (by omega) (by omega) hI
              exact ⟨r, pre r (hs _ _ hr), hr2⟩
            · obtain ⟨r, hr, hr2⟩ := ih (i + 3) l (by omega) (by omega) h
              exact ⟨r, pre r (hs _ _ hr), hr2⟩
        · have pre : ∀ r, MSub ns (i : Nat) l [] (fun l => At_law12_Make_1b ns l (((i : Nat) : Int) + 3) r) (At_law12_Make_1b ns l (((i : Nat) : Int) + 3) r) → At_law12_Make_1b ns l (i : Nat) r := fun r hs =>
            At_law12_Make_1b_step _ _ _ _ ⟨I2, fun _ => ⟨fun _ => ⟨by omega, _, g0, byteI64 _, fun h => absurd h (by omega), fun _ => hs⟩, fun h => absurd (by omega) h⟩, fun h => absurd (by omega) h⟩
          rcases msub_ok ns hns i l _ h c2 c1 (.inl rfl) with ⟨l', hI, hs⟩ | hs
          · obtain ⟨r, hr, hr2⟩ := ih (i + 3) l' (by omega) (by omega) hI
            exact ⟨r, pre r (hs _ _ hr), hr2⟩
          · obtain ⟨r, hr, hr2⟩ := ih (i + 3) l (by omega) (by omega) h
            exact ⟨r, pre r (hs _ _ hr), hr2⟩
      · exact ⟨l, At_law12_Make_1b_step _ _ _ _ ⟨I2, fun _ => ⟨fun h => absurd h (by omega), fun _ => rfl⟩, fun h => absurd (by omega) h⟩, h⟩
    · exact ⟨l, At_law12_Make_1b_step _ _ _ _ ⟨⟨by omega, by omega⟩, fun h => absurd h (by omega), fun _ => rfl⟩, h⟩

theorem r_Make_1c (ns : List UInt8) (hns : ns.length ≤ 1000) : ∀ (k i : Nat) (l : List Item), ns.length ≤ i + k → i + 3 * k ≤ 1000000 → Inv (15 * (l.length : Nat)) l → ∃ r, At_law12_Make_1c ns (i : Nat) l r ∧ Inv (15 * (r.length : Nat)) r := by
  intro k
  induction k with
  | zero =>
    intro i l hi hk h
    exact ⟨l, At_law12_Make_1c_step _ _ _ _ ⟨⟨by omega, by omega⟩, fun h => by omega, fun _ => rfl⟩, h⟩
  | succ k ih =>
    intro i l hi hk h
    by_cases c1 : i + 2 < ns.length
    · have I2 : I64 (((i : Nat) : Int) + 2) := ⟨by omega, by omega⟩
      by_cases c2 : l.length < 24
      · have g0 : ns[((i : Nat) : Int).toNat]? = some ns[i] := by rw [Int.toNat_natCast]; exact List.getElem?_eq_getElem (by omega)
        have b0 := byteI ns[i]
        have d3 : ((ns[i].toNat : Nat) : Int).tdiv 3 = ((ns[i].toNat / 3 : Nat) : Int) := tdivN _ 3
        by_cases c3 : 0 < l.length
        · have ml : (((ns[i].toNat / 3 : Nat) : Int)).tmod ((l.length : Nat) : Int) = ((ns[i].toNat / 3 % l.length : Nat) : Int) := tmodN _ _
          have hq : ns[i].toNat / 3 % l.length < l.length := Nat.mod_lt _ c3
          by_cases c4 : 0 < ((ns[i].toNat : Nat) : Int).tmod 3
          · have pre : ∀ r, MSub ns (i : Nat) l l[ns[i].toNat / 3 % l.length].Name (fun l => At_law12_Make_1b ns l (((i : Nat) : Int) + 3) r) (At_law12_Make_1c ns (((i : Nat) : Int) + 3) l r) → At_law12_Make_1c ns (i : Nat) l r := fun r hs =>
              At_law12_Make_1c_step _ _ _ _ ⟨I2, fun _ => ⟨fun _ => ⟨by omega, _, g0, byteI64 _, fun _ => ⟨fun _ => ⟨⟨by rw [d3]; omega, by rw [d3]; omega⟩, by omega, by rw [d3, ml]; omega, by rw [d3, ml, Int.toNat_natCast]; exact hq, l[ns[i].toNat / 3 % l.length], by rw [d3, ml, Int.toNat_natCast]; exact List.getElem?_eq_getElem hq, hs⟩, fun h => absurd c4 h⟩, fun h => absurd (by omega) h⟩, fun h => absurd (by omega) h⟩, fun h => absurd (by omega) h⟩
            rcases msub_ok ns hns i l _ h c2 c1 (.inr ⟨_, List.getElem_mem hq, rfl⟩) with ⟨l', hI, hs⟩ | hs
            · obtain ⟨r, hr, hr2⟩ := r_Make_1b ns hns k (i + 3) l' (by omega) (by omega) hI
              exact ⟨r, pre r (hs _ _ hr), hr2⟩
            · obtain ⟨r, hr, hr2⟩ := ih (i + 3) l (by omega) (by omega) h
              exact ⟨r, pre r (hs _ _ hr), hr2⟩
          · have pre : ∀ r, MSub ns (i : Nat) l [] (fun l => At_law12_Make_1b ns l (((i : Nat) : Int) + 3) r) (At_law12_Make_1c ns (((i : Nat) : Int) + 3) l r) → At_law12_Make_1c ns (i : Nat) l r := fun r hs =>
              At_law12_Make_1c_step _ _ _ _ ⟨I2, fun _ => ⟨fun _ => ⟨by omega, _, g0, byteI64 _, fun _ => ⟨fun h => absurd h c4, fun _ => hs⟩, fun h => absurd (by omega) h⟩, fun h => absurd (by omega) h⟩, fun h => absurd (by omega) h⟩
            rcases msub_ok ns hns i l _ h c2 c1 (.inl rfl) with ⟨l', hI, hs⟩ | hs
            · obtain ⟨r, hr, hr2⟩ := r_Make_1b ns hns k (i + 3) l' (by omega) (by omega) hI
              exact ⟨r, pre r (hs _ _ hr), hr2⟩
            · obtain ⟨r, hr, hr2⟩ := ih (i + 3) l (by omega) (by omega) h
              exact ⟨r, pre r (hs _ _ hr), hr2⟩
        · have pre : ∀ r, MSub ns (i : Nat) l [] (fun l => At_law12_Make_1b ns l (((i : Nat) : Int) + 3) r) (At_law12_Make_1c ns (((i : Nat) : Int) + 3) l r) → At_law12_Make_1c ns (i : Nat) l r := fun r hs =>
            At_law12_Make_1c_step _ _ _ _ ⟨I2, fun _ => ⟨fun _ => ⟨by omega, _, g0, byteI64 _, fun h => absurd h (by omega), fun _ => hs⟩, fun h => absurd (by omega) h⟩, fun h => absurd (by omega) h⟩
          rcases msub_ok ns hns i l _ h c2 c1 (.inl rfl) with ⟨l', hI, hs⟩ | hs
          · obtain ⟨r, hr, hr2⟩ := r_Make_1b ns hns k (i + 3) l' (by omega) (by omega) hI
            exact ⟨r, pre r (hs _ _ hr), hr2⟩
          · obtain ⟨r, hr, hr2⟩ := ih (i + 3) l (by omega) (by omega) h
            exact ⟨r, pre r (hs _ _ hr), hr2⟩
      · exact ⟨l, At_law12_Make_1c_step _ _ _ _ ⟨I2, fun _ => ⟨fun h => absurd h (by omega), fun _ => rfl⟩, fun h => absurd (by omega) h⟩, h⟩
    · exact ⟨l, At_law12_Make_1c_step _ _ _ _ ⟨⟨by omega, by omega⟩, fun h => absurd h (by omega), fun _ => rfl⟩, h⟩

theorem r_Make_1 (ns : List UInt8) (hns : ns.length ≤ 1000) : ∀ (k i : Nat) (l : List Item), ns.length ≤ i + k → i + 3 * k ≤ 1000000 → Inv (15 * (l.length : Nat)) l → ∃ r, At_law12_Make_1 ns (i : Nat) l r ∧ Inv (15 * (r.length : Nat)) r := by
  intro k
  induction k with
  | zero =>
    intro i l hi hk h
    exact ⟨l, At_law12_Make_1_step _ _ _ _ ⟨⟨by omega, by omega⟩, fun h => by omega, fun _ => rfl⟩, h⟩
  | succ k ih =>
    intro i l hi hk h
    by_cases c1 : i + 2 < ns.length
    · have I2 : I64 (((i : Nat) : Int) + 2) := ⟨by omega, by omega⟩
      by_cases c2 : l.length < 24
      · have g0 : ns[((i : Nat) : Int).toNat]? = some ns[i] := by rw [Int.toNat_natCast]; exact List.getElem?_eq_getElem (by omega)
        have b0 := byteI ns[i]
        have d3 : ((ns[i].toNat : Nat) : Int).tdiv 3 = ((ns[i].toNat / 3 : Nat) : Int) := tdivN _ 3
        by_cases c3 : 0 < l.length
        · have ml : (((ns[i].toNat / 3 : Nat) : Int)).tmod ((l.length : Nat) : Int) = ((ns[i].toNat / 3 % l.length : Nat) : Int) := tmodN _ _
          have hq : ns[i].toNat / 3 % l.length < l.length := Nat.mod_lt _ c3
          by_cases c4 : 0 < ((ns[i].toNat : Nat) : Int).tmod 3
          · have pre : ∀ r, MSub ns (i : Nat) l l[ns[i].toNat / 3 % l.length].Name (fun l => At_law12_Make_1b ns l (((i : Nat) : Int) + 3) r) (At_law12_Make_1c ns (((i : Nat) : Int) + 3) l r) → At_law12_Make_1 ns (i : Nat) l r := fun r hs =>
              At_law12_Make_1_step _ _ _ _ ⟨I2, fun _ => ⟨fun _ => ⟨by omega, _, g0, byteI64 _, fun _ => ⟨fun _ => ⟨⟨by rw [d3]; omega, by rw [d3]; omega⟩, by omega, by rw [d3, ml]; omega, by rw [d3, ml, Int.toNat_natCast]; exact hq, l[ns[i].toNat / 3 % l.length], by rw [d3, ml, Int.toNat_natCast]; exact List.getElem?_eq_getElem hq, hs⟩, fun h => absurd c4 h⟩, fun h => absurd (by omega) h⟩, fun h => absurd (by omega) h⟩, fun h => absurd (by omega) h⟩
            rcases msub_ok ns hns i l _ h c2 c1 (.inr ⟨_, List.getElem_mem hq, rfl⟩) with ⟨l', hI, hs⟩ | hs
            · obtain ⟨r, hr, hr2⟩ := r_Make_1b ns hns k (i + 3) l' (by omega) (by omega) hI
              exact ⟨r, pre r (hs _ _ hr), hr2⟩
            · obtain ⟨r, hr, hr2⟩ := r_Make_1c ns hns k (i + 3) l (by omega) (by omega) h
              exact ⟨r, pre r (hs _ _ hr), hr2⟩
          · have pre : ∀ r, MSub ns (i : Nat) l [] (fun l => At_law12_Make_1b ns l (((i : Nat) : Int) + 3) r) (At_law12_Make_1c ns (((i : Nat) : Int) + 3) l r) → At_law12_Make_1 ns (i : Nat) l r := fun r hs =>
              At_law12_Make_1_step _ _ _ _ ⟨I2, fun _ => ⟨fun _ => ⟨by omega, _, g0, byteI64 _, fun _ => ⟨fun h => absurd h c4, fun _ => hs⟩, fun h => absurd (by omega) h⟩, fun h => absurd (by omega) h⟩, fun h => absurd (by omega) h⟩
            rcases msub_ok ns hns i l _ h c2 c1 (.inl rfl) with ⟨l', hI, hs⟩ | hs
            · obtain ⟨r, hr, hr2⟩ := r_Make_1b ns hns k (i + 3) l' (by omega) (by omega) hI
              exact ⟨r, pre r (hs _ _ hr), hr2⟩
            · obtain ⟨r, hr, hr2⟩ := r_Make_1c ns hns k (i + 3) l (by omega) (by omega) h
              exact ⟨r, pre r (hs _ _ hr), hr2⟩
        · have pre : ∀ r, MSub ns (i : Nat) l [] (fun l => At_law12_Make_1b ns l (((i : Nat) : Int) + 3) r) (At_law12_Make_1c ns (((i : Nat) : Int) + 3) l r) → At_law12_Make_1 ns (i : Nat) l r := fun r hs =>
            At_law12_Make_1_step _ _ _ _ ⟨I2, fun _ => ⟨fun _ => ⟨by omega, _, g0, byteI64 _, fun h => absurd h (by omega), fun _ => hs⟩, fun h => absurd (by omega) h⟩, fun h => absurd (by omega) h⟩
          rcases msub_ok ns hns i l _ h c2 c1 (.inl rfl) with ⟨l', hI, hs⟩ | hs
          · obtain ⟨r, hr, hr2⟩ := r_Make_1b ns hns k (i + 3) l' (by omega) (by omega) hI
            exact ⟨r, pre r (hs _ _ hr), hr2⟩
          · obtain ⟨r, hr, hr2⟩ := r_Make_1c ns hns k (i + 3) l (by omega) (by omega) h
            exact ⟨r, pre r (hs _ _ hr), hr2⟩
      · exact ⟨l, At_law12_Make_1_step _ _ _ _ ⟨I2, fun _ => ⟨fun h => absurd h (by omega), fun _ => rfl⟩, fun h => absurd (by omega) h⟩, h⟩
    · exact ⟨l, At_law12_Make_1_step _ _ _ _ ⟨⟨by omega, by omega⟩, fun h => absurd h (by omega), fun _ => rfl⟩, h⟩
end Go.Proofs.YtebflncfgjnkkaaDoor.M

/- Reports: a live tree, its marks, steps. -/
namespace Go.Proofs.YtebflncfgjnkkaaDoor.M
set_option linter.unusedSimpArgs false
set_option linter.unusedVariables false
open Go Classical
theorem r_Make (ns : List UInt8) (h : ns.length ≤ 1000) : ∃ r, R_law12_Make ns r ∧ Inv (15 * (r.length : Nat)) r := by
  obtain ⟨r, hr, hi⟩ := r_Make_1 ns h ns.length 0 [] (by omega) (by omega) (by simpa using Inv.nil)
  exact ⟨r, law12_Make_tree _ _ hr, hi⟩
/-- The marks of a live tree. -/
def marksS (m : Nat) : Nat → List Item → List Mark → List Mark
  | _, [], acc => if m % 5 = 0 then acc ++ [Mark.mk [122, 122] [] ⟨0, 0, 0⟩ 1] else acc
  | i, x :: l, acc => marksS m (i + 1) l (if 0 < (i + m) % 4 then acc ++ [Mark.mk x.Name x.Parent x.Limit x.Ver] else acc)
theorem marksS_len (m : Nat) : ∀ (l : List Item) (i : Nat) (acc : List Mark), (marksS m i l acc).length ≤ acc.length + l.length + 1
  | [], i, acc => by unfold marksS; split <;> simp
  | x :: l, i, acc => by
    have := marksS_len m l (i + 1) (if 0 < (i + m) % 4 then acc ++ [Mark.mk x.Name x.Parent x.Limit x.Ver] else acc)
    have hA : (if 0 < (i + m) % 4 then acc ++ [Mark.mk x.Name x.Parent x.Limit x.Ver] else acc).length ≤ acc.length + 1 := by split <;> simp
    unfold marksS
    simp only [List.length_cons]
    omega
theorem r_Live_1 (sm : UInt8) (l : List Item) (hl : l.length ≤ 1000) : ∀ (k i : Nat), i + k = l.length → ∀ acc : List Mark, acc.length ≤ i → At_law18_Live_1 sm l i acc (marksS sm.toNat i (l.drop i) acc) l ∧ At_law18_Live_1b sm l i acc (marksS sm.toNat i (l.drop i) acc) l := by
  have b := byteI sm
  intro k
  induction k with
  | zero =>
    intro i hi acc ha
    rw [List.drop_of_length_le (by omega), marksS]
    have e5 : ((sm.toNat : Nat) : Int).tmod 5 = ((sm.toNat % 5 : Nat) : Int) := tmodN _ 5
    constructor
    · apply At_law18_Live_1_step
      rw [e5]
      refine ⟨fun h => by omega, fun _ => ⟨fun h => ⟨⟨by omega, by omega, by omega⟩, by rw [if_pos (by omega)], rfl⟩, fun h => ⟨by rw [if_neg (by omega)], rfl⟩⟩⟩
    · apply At_law18_Live_1b_step
      rw [e5]
      refine ⟨fun h => by omega, fun _ => ⟨fun h => ⟨⟨by omega, by omega, by omega⟩, by rw [if_pos (by omega)], rfl⟩, fun h => ⟨by rw [if_neg (by omega)], rfl⟩⟩⟩
  | succ k ih =>
    intro i hi acc ha
    have hlt : i < l.length := by omega
    rw [List.drop_eq_getElem_cons hlt, marksS]
    have e4 : (((i : Nat) : Int) + ((sm.toNat : Nat) : Int)).tmod 4 = (((i + sm.toNat) % 4 : Nat) : Int) := tmodN (i + sm.toNat) 4
    by_cases hm : 0 < (i + sm.toNat) % 4
    · obtain ⟨h1, h2⟩ := ih (i + 1) (by omega) (acc ++ [Mark.mk l[i].Name l[i].Parent l[i].Limit l[i].Ver]) (by simp; omega)
      rw [if_pos hm]
      constructor
      · apply At_law18_Live_1_step
        rw [e4]
        exact ⟨fun _ => ⟨byteI64 _, ⟨by omega, by omega⟩, fun _ => ⟨by omega, l[i], by simp [hlt], ⟨by omega, by omega, by omega⟩, ⟨by omega, by omega⟩, h1⟩, fun h => absurd (by omega) h⟩, fun h => absurd (by omega) h⟩
      · apply At_law18_Live_1b_step
        rw [e4]
        exact ⟨fun _ => ⟨byteI64 _, ⟨by omega, by omega⟩, fun _ => ⟨by omega, by simpa using hlt, l[i], by simp [hlt], by omega, by simpa using hlt, by omega, by simpa using hlt, by omega, by simpa using hlt, ⟨by omega, by omega, by omega⟩, ⟨by omega, by omega⟩, h2⟩, fun h => absurd (by omega) h⟩, fun h => absurd (by omega) h⟩
    · obtain ⟨h1, h2⟩ := ih (i + 1) (by omega) acc (by omega)
      rw [if_neg hm]
      constructor
      · apply At_law18_Live_1_step
        rw [e4]
        exact ⟨fun _ => ⟨byteI64 _, ⟨by omega, by omega⟩, fun h => absurd h (by omega), fun _ => ⟨⟨by omega, by omega⟩, h1⟩⟩, fun h => absurd (by omega) h⟩
      · apply At_law18_Live_1b_step
        rw [e4]
        exact ⟨fun _ => ⟨byteI64 _, ⟨by omega, by omega⟩, fun h => absurd h (by omega), fun _ => ⟨⟨by omega, by omega⟩, h2⟩⟩, fun h => absurd (by omega) h⟩
theorem r_Live (ns : List UInt8) (h : ns.length ≤ 1000) (sm : UInt8) : ∃ ms l, R_law18_Live ns sm ms l ∧ Inv (15 * (l.length : Nat)) l ∧ ms.length ≤ 100 := by
  obtain ⟨l, hl, hi⟩ := r_Make ns h
  have hlen := hi.len
  obtain ⟨h1, h2⟩ := r_Live_1 sm l (by omega) l.length 0 (by omega) [] (by simp)
  have := marksS_len sm.toNat l 0 []
  exact ⟨_, l, law18_Live_tree _ _ _ _ ⟨l, hl, h1, h2⟩, hi, by rw [List.drop_zero]; simp at this; omega⟩
theorem Inv.items {B : Int} {l : List Item} (h : Inv B l) : ∀ x ∈ l, okItem x := fun x hx => ⟨low_ok (h.sub x hx) (by omega), low_ok (h.lim x hx) (by omega), by obtain ⟨c, e, _⟩ := h.nam x hx; rw [e]; simp⟩
/-! ### Steps -/
def letter (b : UInt8) : UInt8 := UInt8.ofNat ((97 + (((b.toNat : Nat) : Int).tmod 25))).toNat
def kindS (a : UInt8) : Int := 1 + (((a.toNat : Nat) : Int).tmod 4)
def numS (a : UInt8) : Int := (((a.toNat : Nat) : Int).tdiv 4) * 3
def stepS (a b c : UInt8) : PStep := .mk (kindS a) [letter b] (if kindS a = 1 ∨ kindS a = 3 then (if ((c.toNat : Nat) : Int).tmod 5 = 0 then [] else [letter c]) else []) (if kindS a ≤ 2 then ⟨numS a, numS a, numS a⟩ else ⟨0, 0, 0⟩)
theorem letter_rng (b : UInt8) : 97 ≤ (letter b).toNat ∧ (letter b).toNat ≤ 121 := by
  have e : ((b.toNat : Nat) : Int).tmod 25 = ((b.toNat % 25 : Nat) : Int) := tmodN _ 25
  have h : b.toNat % 25 < 25 := Nat.mod_lt _ (by omega)
  unfold letter
  rw [e, show (97 + ((b.toNat % 25 : Nat) : Int)).toNat = 97 + b.toNat % 25 by omega, UInt8.toNat_ofNat', Nat.mod_eq_of_lt (by omega)]
  omega
theorem kindS_rng (a : UInt8) : 1 ≤ kindS a ∧ kindS a ≤ 4 := by
  have e : ((a.toNat : Nat) : Int).tmod 4 = ((a.toNat % 4 : Nat) : Int) := tmodN _ 4
  have h : a.toNat % 4 < 4 := Nat.mod_lt _ (by omega)
  unfold kindS
  rw [e]
  omega
theorem numS_rng (a : UInt8) : 0 ≤ numS a ∧ numS a ≤ 1000 := by
  have e : ((a.toNat : Nat) : Int).tdiv 4 = ((a.toNat / 4 : Nat) : Int) := tdivN _ 4
  have := byteI a
  unfold numS
  rw [e]
  omega
theorem r_Step15 (a b c : UInt8) : R_law15_Step a b c (stepS a b c) := by
  apply law15_Step_tree
  have hk := kindS_rng a
  have hn := numS_rng a
  have ba := byteI a
  have e25 : ∀ b : UInt8, 0 ≤ ((b.toNat : Nat) : Int).tmod 25 ∧ ((b.toNat : Nat) : Int).tmod 25 < 25 := fun b => by
    have e : ((b.toNat : Nat) : Int).tmod 25 = ((b.toNat % 25 : Nat) : Int) := tmodN _ 25
    have h : b.toNat % 25 < 25 := Nat.mod_lt _ (by omega)
    rw [e]; omega
  have hb := e25 b
  have hc := e25 c
  have I1 : I64 ((a.toNat : Nat) : Int) := byteI64 a
  have I2 : I64 (1 + (((a.toNat : Nat) : Int).tmod 4)) := ⟨by unfold kindS at hk; omega, by unfold kindS at hk; omega⟩
  have U1 : U8 (97 + (((b.toNat : Nat) : Int).tmod 25)) := ⟨by omega, by omega⟩
  have U2 : U8 (97 + (((c.toNat : Nat) : Int).tmod 25)) := ⟨by omega, by omega⟩
  have I3 : I64 (((a.toNat : Nat) : Int).tdiv 4) := by unfold numS at hn; exact ⟨by omega, by omega⟩
  have I4 : I64 ((((a.toNat : Nat) : Int).tdiv 4) * 3) := by unfold numS at hn; exact ⟨by omega, by omega⟩
  have ek : (1 + (((a.toNat : Nat) : Int).tmod 4)) = kindS a := rfl
  have en : ((((a.toNat : Nat) : Int).tdiv 4) * 3) = numS a := rfl
  have el : ∀ b : UInt8, (UInt8.ofNat ((97 + (((b.toNat : Nat) : Int).tmod 25))).toNat) = letter b := fun _ => rfl
  rw [ek] at I2
  rw [en] at I4
  simp only [ek, en, el]
  refine ⟨I1, I2, U1, ?_⟩
  unfold stepS
  repeat' (first
    | refine And.intro I1 ?_
    | refine And.intro I3 ?_
    | refine And.intro I4 ?_
    | refine And.intro U2 ?_
    | refine ⟨fun _ => ?_, fun _ => ?_⟩
    | fail)
  all_goals first
    | (exfalso; omega)
    | (simp [*]; done)
    | (simp only [*, if_true, if_false, true_or, or_true, false_or, or_false]; done)
theorem step_ok (a b c : UInt8) : okStep (stepS a b c) := by
  have hk := kindS_rng a
  have hn := numS_rng a
  refine ⟨⟨by show _ ≤ kindS a; omega, by show kindS a ≤ _; omega⟩, ?_, by simp [stepS], ?_⟩
  · show okVec (if kindS a ≤ 2 then ⟨numS a, numS a, numS a⟩ else ⟨0, 0, 0⟩)
    split
    · exact low_ok (B := 1000) ⟨⟨hn.1, hn.2⟩, ⟨hn.1, hn.2⟩, hn.1, hn.2⟩ (by omega)
    · exact low_ok (B := 1000) ⟨⟨by simp, by simp⟩, ⟨by simp, by simp⟩, by simp, by simp⟩ (by omega)
  · show (if kindS a = 1 ∨ kindS a = 3 then (if ((c.toNat : Nat) : Int).tmod 5 = 0 then [] else [letter c]) else []).length ≤ 100000
    split
    · split <;> simp
    · simp
end Go.Proofs.YtebflncfgjnkkaaDoor.M

/- Reports: lines. -/
namespace Go.Proofs.YtebflncfgjnkkaaDoor.M
set_option linter.unusedSimpArgs false
set_option linter.unusedVariables false
open Go Classical
/-- No line ends within. -/
def noNL (s : List UInt8) : Prop := ∀ b ∈ s, b ≠ 10
theorem noNL_app {a b : List UInt8} (ha : noNL a) (hb : noNL b) : noNL (a ++ b) := fun x hx => (List.mem_append.1 hx).elim (ha x) (hb x)
/-- A text's lines: what is ahead, of the line that is read. -/
def linesS : List UInt8 → List UInt8 → List (List UInt8)
  | _, [] => []
  | cur, b :: s => if b = 10 then cur :: linesS [] s else linesS (cur ++ [b]) s
theorem linesS_line : ∀ (a cur : List UInt8) (s : List UInt8), noNL a → linesS cur (a ++ 10 :: s) = (cur ++ a) :: linesS [] s
  | [], cur, s, _ => by simp [linesS]
  | b :: a, cur, s, h => by
    have hb : b ≠ 10 := h b (by simp)
    simp only [List.cons_append, linesS, if_neg hb]
    rw [linesS_line a (cur ++ [b]) s fun x hx => h x (by simp [hx])]
    simp
theorem linesS_all (s : List UInt8) : ∀ L : List (List UInt8), (∀ a ∈ L, noNL a) → linesS [] (L.map (· ++ [10])).flatten = L
  | [], _ => by simp [linesS]
  | a :: L, h => by
    simp only [List.map_cons, List.flatten_cons, List.append_assoc, List.singleton_append]
    rw [linesS_line a [] _ (h a (by simp)), linesS_all s L fun b hb => h b (by simp [hb])]
    simp
theorem r_lines_loop (s : List UInt8) (hs : s.length ≤ 1000000000) : ∀ (k i j : Nat) (acc : List (List UInt8)), i + k = s.length → j ≤ i → acc.length ≤ i → At_law26_lines_1 s j i acc (acc ++ linesS ((s.drop j).take (i - j)) (s.drop i)) := by
  intro k
  induction k with
  | zero =>
    intro i j acc hi hj ha
    apply At_law26_lines_1_step
    rw [List.drop_of_length_le (by omega : s.length ≤ i)]
    exact ⟨fun h => by omega, fun _ => by simp [linesS]⟩
  | succ k ih =>
    intro i j acc hi hj ha
    apply At_law26_lines_1_step
    have hlt : i < s.length := by omega
    rw [List.drop_eq_getElem_cons hlt, linesS]
    refine ⟨fun _ => ⟨by omega, s[i], by simp [hlt], fun hb => ⟨by omega, by omega, by omega, by omega, ⟨by omega, by omega, by omega⟩, ⟨by omega, by omega⟩, ⟨by omega, by omega⟩, ?_⟩, fun hb => ⟨⟨by omega, by omega⟩, ?_⟩⟩, fun h => absurd (by omega) h⟩
    · have e : s[i] = 10 := by apply UInt8.toNat.inj; show s[i].toNat = 10; omega
      rw [if_pos e]
      have := ih (i + 1) (i + 1) (acc ++ [((s.drop j).take (i - j))]) (by omega) (by omega) (by simp; omega)
      simp only [Nat.sub_self, List.take_zero] at this
      simpa using this
    · have e : s[i] ≠ 10 := fun e => hb (by rw [e]; rfl)
      rw [if_neg e]
      have := ih (i + 1) j acc (by omega) (by omega) (by omega)
      have e2 : (s.drop j).take (i + 1 - j) = (s.drop j).take (i - j) ++ [s[i]] := by
        rw [show i + 1 - j = (i - j) + 1 by omega, List.take_succ_eq_append_getElem (by simp; omega)]
        congr 2
        rw [List.getElem_drop]
        congr 1
        omega
      rw [e2] at this
      exact this
theorem r_lines (s : List UInt8) (hs : s.length ≤ 1000000000) : R_law26_lines s (linesS [] s) := by
  apply law26_lines_tree
  have := r_lines_loop s hs s.length 0 0 [] (by omega) (by omega) (by simp)
  simpa using this
/-! ### Which texts have no line's end -/
theorem digit_rng : ∀ n : Nat, ∀ b ∈ Lib.decDigits n, 48 ≤ b.toNat ∧ b.toNat ≤ 57 := by
  intro n
  induction n using Nat.strongRecOn with
  | _ n ih =>
    intro b hb
    rw [Lib.decDigits] at hb
    split at hb
    · rw [List.mem_singleton] at hb
      subst hb
      rw [UInt8.toNat_ofNat', Nat.mod_eq_of_lt (by omega)]
      omega
    · rcases List.mem_append.1 hb with hb | hb
      · exact ih (n / 10) (by omega) b hb
      · rw [List.mem_singleton] at hb
        subst hb
        rw [UInt8.toNat_ofNat', Nat.mod_eq_of_lt (by omega)]
        omega
theorem digits_noNL : ∀ n : Nat, noNL (Lib.decDigits n) := fun n b hb => by
  have := digit_rng n b hb
  intro e
  subst e
  simp at this
theorem itoa_noNL (n : Int) : noNL (Lib.itoa n) := by
  unfold Lib.itoa
  split
  · intro b hb
    rcases List.mem_cons.1 hb with rfl | hb
    · decide
    · exact digits_noNL _ b hb
  · exact digits_noNL _
theorem lit_noNL (s : List UInt8) (h : s.all (fun b => b != 10) = true) : noNL s := fun b hb => by
  have := List.all_eq_true.1 h b hb
  simpa using this
theorem vecT_noNL (v : Vec) : noNL (vecT v) := by
  unfold vecT
  exact noNL_app (noNL_app (noNL_app (noNL_app (noNL_app (lit_noNL _ (by decide)) (itoa_noNL _)) (lit_noNL _ (by decide))) (itoa_noNL _)) (lit_noNL _ (by decide))) (itoa_noNL _)
/-! ### Steps' lines -/
def stepL : Nat → List PStep → List (List UInt8)
  | _, [] => []
  | i, s :: l => ((Lib.itoa ((i + 1 : Nat) : Int) ++ [46, 32]) ++ stepT s) :: stepL (i + 1) l
theorem stepsT_lines : ∀ (i : Nat) (l : List PStep), stepsT i l = ((stepL i l).map (· ++ [10])).flatten
  | _, [] => rfl
  | i, s :: l => by simp only [stepsT, stepL, List.map_cons, List.flatten_cons, stepsT_lines (i + 1) l]
theorem stepL_len : ∀ (i : Nat) (l : List PStep), (stepL i l).length = l.length
  | _, [] => rfl
  | i, s :: l => by simp [stepL, stepL_len (i + 1) l]
theorem stepL_get : ∀ (l : List PStep) (i j : Nat) (h : j < l.length), (stepL i l)[j]? = some ((Lib.itoa ((i + j + 1 : Nat) : Int) ++ [46, 32]) ++ stepT l[j])
  | s :: l, i, 0, h => by simp [stepL]
  | s :: l, i, j + 1, h => by
    have := stepL_get l (i + 1) j (by simpa using h)
    simp only [stepL, List.getElem?_cons_succ, List.getElem_cons_succ, this]
    rw [show i + 1 + j + 1 = i + (j + 1) + 1 by omega]
theorem letter_noNL (b : UInt8) : noNL [letter b] := fun x hx => by
  rw [List.mem_singleton.1 hx]
  intro e
  have := letter_rng b
  rw [e] at this
  simp at this
theorem stepT_noNL (a b c : UInt8) : noNL (stepT (stepS a b c)) := by
  have hn : noNL (stepS a b c).Name := letter_noNL b
  have hp : noNL (stepS a b c).Parent := by
    show noNL (if kindS a = 1 ∨ kindS a = 3 then (if ((c.toNat : Nat) : Int).tmod 5 = 0 then [] else [letter c]) else [])
    split
    · split
      · intro x hx; cases hx
      · exact letter_noNL c
    · intro x hx; cases hx
  have hw : noNL (whereT (stepS a b c).Parent) := by
    unfold whereT
    split
    · exact lit_noNL _ (by decide)
    · exact hp
  unfold stepT
  split
  · exact noNL_app (noNL_app (noNL_app (noNL_app (noNL_app (lit_noNL _ (by decide)) hn) (lit_noNL _ (by decide))) hw) (lit_noNL _ (by decide))) (vecT_noNL _)
  split
  · exact noNL_app (noNL_app (noNL_app (lit_noNL _ (by decide)) hn) (lit_noNL _ (by decide))) (vecT_noNL _)
  split
  · exact noNL_app (noNL_app (noNL_app (lit_noNL _ (by decide)) hn) (lit_noNL _ (by decide))) hw
  split
  · exact noNL_app (lit_noNL _ (by decide)) hn
  · exact hn
theorem stepL_noNL : ∀ (i : Nat) (l : List PStep), (∀ s ∈ l, noNL (stepT s)) → ∀ a ∈ stepL i l, noNL a
  | _, [], _, a, h => by cases h
  | i, s :: l, hl, a, h => by
    rcases List.mem_cons.1 h with rfl | h
    · exact noNL_app (noNL_app (itoa_noNL _) (lit_noNL _ (by decide))) (hl s (by simp))
    · exact stepL_noNL (i + 1) l (fun s hs => hl s (by simp [hs])) a h
/-! ### A tree's lines -/
def lineB (l : List Item) (ms : List Mark) (far n : List UInt8) : List UInt8 := (((((far ++ n) ++ [32]) ++ vecT (itemN l n).Sub) ++ [32, 111, 102, 32]) ++ vecT (itemN l n).Limit) ++ starT ms n
def showL (l : List Item) (ms : List Mark) : Nat → List UInt8 → List UInt8 → List (List UInt8)
  | 0, _, _ => []
  | k + 1, n, far => ((belowN l n).map fun c => lineB l ms far c :: showL l ms k c (far ++ [32, 32])).flatten
theorem map_flat (L : List (List (List UInt8))) : (L.flatten.map (· ++ [10])).flatten = (L.map fun m => (m.map (· ++ [10])).flatten).flatten := by
  induction L with
  | nil => rfl
  | cons m L ih => rw [List.flatten_cons, List.map_append, List.flatten_append, ih, List.map_cons, List.flatten_cons]
theorem showT_lines (l : List Item) (ms : List Mark) : ∀ (k : Nat) (n far : List UInt8), showT l ms k n far = ((showL l ms k n far).map (· ++ [10])).flatten
  | 0, _, _ => rfl
  | k + 1, n, far => by
    rw [showT, showL, map_flat, List.map_map]
    congr 1
    refine List.map_congr_left fun c _ => ?_
    simp only [Function.comp, List.map_cons, List.flatten_cons, showT_lines l ms k c]
    rfl
theorem showL_len (l : List Item) (ms : List Mark) : ∀ (k : Nat) (n far : List UInt8), (showL l ms k n far).length = cntT l k n
  | 0, _, _ => rfl
  | k + 1, n, far => by
    simp only [showL, cntT, List.length_flatten, List.map_map]
    congr 1
    refine List.map_congr_left fun c _ => ?_
    simp only [Function.comp, List.length_cons, showL_len l ms k c]
    omega
/-- What a line is. -/
theorem showL_line {l : List Item} {d : List UInt8 → Nat} (hd : Deep l d) (ms : List Mark) : ∀ (k : Nat) (n far : List UInt8), far = List.replicate (2 * d n) 32 → ∀ a ∈ showL l ms k n far, ∃ x ∈ l, a = lineB l ms (List.replicate (2 * (d x.Name - 1)) 32) x.Name ∧ 1 ≤ d x.Name
  | 0, _, _, _, a, h => by cases h
  | k + 1, n, far, hf, a, h => by
    simp only [showL, List.mem_flatten, List.mem_map] at h
    obtain ⟨m, ⟨c, hc, rfl⟩, ha⟩ := h
    obtain ⟨x, hx, hp, rfl⟩ := belowN_mem hc
    have hu := hd.up x hx
    rw [hp] at hu
    rcases List.mem_cons.1 ha with rfl | ha
    · exact ⟨x, hx, by rw [hf, show d x.Name - 1 = d n by omega], by omega⟩
    · refine showL_line hd ms k x.Name _ ?_ a ha
      rw [hf, hu, show 2 * (d n + 1) = 2 * d n + 2 by omega, ← List.replicate_append_replicate]
      rfl
/-- The names, as they come. -/
def walkN (l : List Item) : Nat → List UInt8 → List (List UInt8)
  | 0, _ => []
  | k + 1, n => ((belowN l n).map fun c => c :: walkN l k c).flatten
theorem walkN_len (l : List Item) : ∀ (k : Nat) (n : List UInt8), (walkN l k n).length = cntT l k n
  | 0, _ => rfl
  | k + 1, n => by
    simp only [walkN, cntT, List.length_flatten, List.map_map]
    congr 1
    refine List.map_congr_left fun c _ => ?_
    simp only [Function.comp, List.length_cons, walkN_len l k c]
    omega
theorem walkN_next (l : List Item) : ∀ (k : Nat) (n c : List UInt8), c ∈ walkN l k n → ∀ b ∈ belowN l c, b ∈ walkN l (k + 1) n
  | 0, n, c, h, b, hb => by cases h
  | k + 1, n, c, h, b, hb => by
    simp only [walkN, List.mem_flatten, List.mem_map] at h
    obtain ⟨m, ⟨e, he, rfl⟩, hc⟩ := h
    rw [walkN, List.mem_flatten]
    refine ⟨e :: walkN l (k + 1) e, List.mem_map.2 ⟨e, he, rfl⟩, ?_⟩
    refine List.mem_cons.2 (.inr ?_)
    rcases List.mem_cons.1 hc with rfl | hc
    · rw [walkN, List.mem_flatten]
      exact ⟨b :: walkN l k b, List.mem_map.2 ⟨b, hb, rfl⟩, by simp⟩
    · exact walkN_next l k e c hc b hb
theorem belowN_of {l : List Item} {x : Item} (hx : x ∈ l) : x.Name ∈ belowN l x.Parent := by
  unfold belowN
  rw [List.mem_map]
  exact ⟨x, List.mem_filter.2 ⟨hx, by simp⟩, rfl⟩
theorem walkN_all {l : List Item} {d : List UInt8 → Nat} (hd : Deep l d) (hp : ∀ x ∈ l, x.Parent = [] ∨ ∃ y ∈ l, y.Name = x.Parent) : ∀ (k : Nat) (x : Item), x ∈ l → d x.Name ≤ k → x.Name ∈ walkN l k []
  | 0, x, hx, h => by have := hd.up x hx; omega
  | k + 1, x, hx, h => by
    have hu := hd.up x hx
    rcases hp x hx with e | ⟨y, hy, e⟩
    · have hb := belowN_of hx
      rw [e] at hb
      rw [walkN, List.mem_flatten]
      exact ⟨_, List.mem_map.2 ⟨_, hb, rfl⟩, by simp⟩
    · have hb := belowN_of hx
      rw [← e] at hb hu
      exact walkN_next l k [] y.Name (walkN_all hd hp k y hy (by omega)) _ hb
theorem nodup_len {α : Type} [DecidableEq α] : ∀ (a b : List α), a.Nodup → (∀ x ∈ a, x ∈ b) → a.length ≤ b.length
  | [], _, _, _ => by simp
  | x :: a, b, h, hs => by
    obtain ⟨h1, h2⟩ := List.nodup_cons.1 h
    have := nodup_len a (b.erase x) h2 fun y hy => (List.mem_erase_of_ne (fun e => h1 (by rw [← e]; exact hy))).2 (hs y (by simp [hy]))
    rw [List.length_erase_of_mem (hs x (by simp))] at this
    have hpos : 0 < b.length := List.length_pos_of_mem (hs x (by simp))
    simp only [List.length_cons]
    omega
theorem cntT_all {l : List Item} {d : List UInt8 → Nat} (hd : Deep l d) (hp : ∀ x ∈ l, x.Parent = [] ∨ ∃ y ∈ l, y.Name = x.Parent) : cntT l (l.length + 1) [] = l.length := by
  have h1 := cntT_le' hd (l.length + 1) []
  have h2 := nodup_len (l.map (·.Name)) (walkN l (l.length + 1) []) hd.ne fun n hn => by
    rw [List.mem_map] at hn
    obtain ⟨x, hx, rfl⟩ := hn
    exact walkN_all hd hp _ x hx (by have := hd.le x hx; omega)
  rw [walkN_len, List.length_map] at h2
  omega
/-- As many names above as it is deep. -/
theorem upF_deep {l : List Item} {d : List UInt8 → Nat} (hd : Deep l d) (hp : ∀ x ∈ l, x.Parent = [] ∨ ∃ y ∈ l, y.Name = x.Parent) (h0 : ∀ x ∈ l, x.Name ≠ []) : ∀ (k : Nat) (x : Item), x ∈ l → d x.Name ≤ k → (upF l k (findN l x.Name)).length = d x.Name
  | 0, x, hx, h => by have := hd.up x hx; omega
  | k + 1, x, hx, h => by
    have hu := hd.up x hx
    obtain ⟨j, y, h1, h2, h3⟩ := findN_get hx
    have hn := pN_eq hd.ne hx
    have e : itemN l x.Name = y := by unfold itemN; rw [h1]; simp [h2]
    unfold pN at hn
    rw [e] at hn
    rw [upF, h1, if_pos (by omega)]
    simp only [Int.toNat_natCast, h2, Option.getD_some, List.length_cons, hn]
    rcases hp x hx with e2 | ⟨z, hz, e2⟩
    · rw [e2] at hu ⊢
      have : findN l [] = -1 := by
        have := findN_lt l []
        rcases Int.lt_or_le (findN l []) 0 with hneg | hpos
        · have := findI_lt (isN []) l 0
          unfold findN at hneg ⊢
          rcases this with h | h
          · have h5 : ∀ (m : List Item) (i : Nat), findI (isN []) i m = -1 ∨ 0 ≤ findI (isN []) i m := by
              intro m
              induction m with
              | nil => intro i; left; rfl
              | cons q m ih => intro i; rw [findI_cons]; split; · right; omega
                               · exact ih (i + 1)
            rcases h5 l 0 with h6 | h6
            · exact h6
            · omega
          · exact h
        · obtain ⟨z, hz, hzn⟩ := findN_some hpos
          exact absurd hzn (h0 z hz)
      rw [this]
      have : (upF l k (-1)).length = 0 := by
        cases k with
        | zero => rfl
        | succ k => rw [upF, if_neg (by omega)]; rfl
      rw [this, hu, hd.root]
    · rw [← e2] at hu ⊢
      rw [upF_deep hd hp h0 k z hz (by omega), hu]
end Go.Proofs.YtebflncfgjnkkaaDoor.M

/- The machine's code of the functions, printed by a program of this session (sc2.py) out of the translation. Not trusted: Lean checks each by its own computation. -/
namespace Go.Proofs.YtebflncfgjnkkaaDoor.M
open Go
set_option linter.unusedVariables false
/-- doorkeeper/doorkeeperlaw26.ReportLines -/
def c_law26_ReportLines_1 : SC := .seq (.reg [⟨(some 154), none, (.call (.c (.func 48 [])) [])⟩, ⟨(some 6), none, (.v (.mov (.t 154)))⟩]) .ret
def c_law26_ReportLines_2 : SC := .reg [⟨(some 101), none, (.v (.mov (.t 14)))⟩, ⟨(some 102), none, (.v (.bin .add (.t 101) (.c (.int .i64 1))))⟩, ⟨(some 14), none, (.v (.mov (.t 102)))⟩]
def c_law26_ReportLines_3 : SC := .seq (.reg [⟨(some 138), none, (.v (.mov (.t 16)))⟩, ⟨(some 139), none, (.v (.bin .lss (.t 138) (.c (.int .i64 0))))⟩, ⟨(some 140), none, (.v (.mov (.t 139)))⟩, ⟨(some 141), (some (140, false)), (.v (.mov (.t 15)))⟩, ⟨(some 142), (some (140, false)), (.v (.mov (.t 8)))⟩, ⟨(some 143), (some (140, false)), (.v (.mov (.t 8)))⟩, ⟨(some 144), (some (140, false)), (.v (.mov (.t 16)))⟩, ⟨(some 145), (some (140, false)), (.v (.iaddr 12 (.t 143) (.t 144)))⟩, ⟨(some 146), (some (140, false)), (.v (.faddr 0 (.t 145)))⟩, ⟨(some 147), (some (140, false)), (.v (.load none (.t 146)))⟩, ⟨(some 148), (some (140, false)), (.call (.c (.func 61 [])) [(.t 142), (.t 147)])⟩, ⟨(some 149), (some (140, false)), (.v (.len false (.t 148)))⟩, ⟨(some 150), (some (140, false)), (.v (.bin .sub (.t 149) (.c (.int .i64 1))))⟩, ⟨(some 151), (some (140, false)), (.v (.bin .mul (.c (.int .i64 2)) (.t 150)))⟩, ⟨(some 152), (some (140, false)), (.v (.bin .neq (.t 141) (.t 151)))⟩, ⟨(some 153), none, (.v (.pick (.t 140) (.c (.bool true)) (.t 152)))⟩]) (.cond (.t 153) (.seq (.reg [⟨(some 6), none, (.v (.mov (.c (.bool false))))⟩]) .ret) .skip)
def c_law26_ReportLines_4 : SC := .seq (.reg [⟨(some 128), none, (.v (.mov (.t 8)))⟩, ⟨(some 129), none, (.v (.mov (.t 11)))⟩, ⟨(some 130), none, (.v (.mov (.t 14)))⟩, ⟨(some 131), none, (.v (.iaddr 1 (.t 129) (.t 130)))⟩, ⟨(some 132), none, (.v (.load none (.t 131)))⟩, ⟨(some 133), none, (.v (.mov (.t 15)))⟩, ⟨(some 134), none, (.v (.mov (.t 15)))⟩, ⟨(some 135), none, (.v (.bin .add (.t 134) (.c (.int .i64 1))))⟩, ⟨(some 136), none, (.v (.sls (.t 132) (some (.t 133)) (some (.t 135))))⟩, ⟨(some 137), none, (.call (.c (.func 60 [])) [(.t 128), (.t 136)])⟩, ⟨(some 16), none, (.v (.mov (.t 137)))⟩]) c_law26_ReportLines_3
def c_law26_ReportLines_5 : SC := .seq (.seq (.reg [⟨(some 121), none, (.v (.mov (.t 15)))⟩, ⟨(some 122), none, (.v (.mov (.t 11)))⟩, ⟨(some 123), none, (.v (.mov (.t 14)))⟩, ⟨(some 124), none, (.v (.iaddr 1 (.t 122) (.t 123)))⟩, ⟨(some 125), none, (.v (.load none (.t 124)))⟩, ⟨(some 126), none, (.v (.len true (.t 125)))⟩, ⟨(some 127), none, (.v (.bin .geq (.t 121) (.t 126)))⟩]) (.cond (.t 127) (.seq (.reg [⟨(some 6), none, (.v (.mov (.c (.bool false))))⟩]) .ret) .skip)) c_law26_ReportLines_4
def b_law26_ReportLines_2 : SC := .seq (.seq (.reg [⟨(some 103), none, (.v (.mov (.t 15)))⟩, ⟨(some 104), none, (.v (.mov (.t 11)))⟩, ⟨(some 105), none, (.v (.mov (.t 14)))⟩, ⟨(some 106), none, (.v (.iaddr 1 (.t 104) (.t 105)))⟩, ⟨(some 107), none, (.v (.load none (.t 106)))⟩, ⟨(some 108), none, (.v (.len true (.t 107)))⟩, ⟨(some 109), none, (.v (.bin .lss (.t 103) (.t 108)))⟩, ⟨(some 110), none, (.v (.mov (.t 109)))⟩, ⟨(some 111), (some (110, true)), (.v (.mov (.t 11)))⟩, ⟨(some 112), (some (110, true)), (.v (.mov (.t 14)))⟩, ⟨(some 113), (some (110, true)), (.v (.iaddr 1 (.t 111) (.t 112)))⟩, ⟨(some 114), (some (110, true)), (.v (.load none (.t 113)))⟩, ⟨(some 115), (some (110, true)), (.v (.mov (.t 15)))⟩, ⟨(some 116), (some (110, true)), (.v (.istr (.t 114) (.t 115)))⟩, ⟨(some 117), (some (110, true)), (.v (.bin .eql (.t 116) (.c (.int .u8 32))))⟩, ⟨(some 118), none, (.v (.pick (.t 110) (.t 117) (.c (.bool false))))⟩]) (.cond (.t 118) .skip (.exit 6))) (.block 7 (.reg [⟨(some 119), none, (.v (.mov (.t 15)))⟩, ⟨(some 120), none, (.v (.bin .add (.t 119) (.c (.int .i64 1))))⟩, ⟨(some 15), none, (.v (.mov (.t 120)))⟩]))
def c_law26_ReportLines_6 : SC := .seq (.block 6 (.loop b_law26_ReportLines_2)) c_law26_ReportLines_5
def c_law26_ReportLines_7 : SC := .seq (.block 5 (.seq (.reg [⟨(some 15), none, (.v (.mov (.c (.int .i64 0))))⟩]) c_law26_ReportLines_6)) c_law26_ReportLines_2
def b_law26_ReportLines_1 : SC := .seq (.seq (.reg [⟨(some 97), none, (.v (.mov (.t 14)))⟩, ⟨(some 98), none, (.v (.mov (.t 11)))⟩, ⟨(some 99), none, (.v (.len false (.t 98)))⟩, ⟨(some 100), none, (.v (.bin .lss (.t 97) (.t 99)))⟩]) (.cond (.t 100) .skip (.exit 4))) c_law26_ReportLines_7
def c_law26_ReportLines_8 : SC := .block 4 (.loop b_law26_ReportLines_1)
def c_law26_ReportLines_9 : SC := .seq (.seq (.reg [⟨(some 14), none, (.v (.mov (.c (.int .i64 0))))⟩]) c_law26_ReportLines_8) c_law26_ReportLines_1
def b_law26_ReportLines_3 : SC := .seq (.seq (.reg [⟨(some 76), none, (.v (.mov (.t 13)))⟩, ⟨(some 77), none, (.v (.mov (.t 12)))⟩, ⟨(some 78), none, (.v (.len false (.t 77)))⟩, ⟨(some 79), none, (.v (.bin .lss (.t 76) (.t 78)))⟩]) (.cond (.t 79) .skip (.exit 2))) (.seq (.block 3 (.seq (.dreg [⟨(some 82), none, (.v (.mov (.t 12)))⟩, ⟨(some 83), none, (.v (.mov (.t 13)))⟩, ⟨(some 84), none, (.v (.iaddr 1 (.t 82) (.t 83)))⟩, ⟨(some 85), none, (.v (.load none (.t 84)))⟩, ⟨(some 86), none, (.v (.mov (.t 13)))⟩, ⟨(some 87), none, (.v (.bin .add (.t 86) (.c (.int .i64 1))))⟩, ⟨(some 88), none, (.call (.c (.func 59 [])) [(.t 87)])⟩, ⟨(some 89), none, (.v (.bin .add (.t 88) (.c (.str [46, 32]))))⟩, ⟨(some 90), none, (.v (.mov (.t 9)))⟩, ⟨(some 91), none, (.v (.mov (.t 13)))⟩, ⟨(some 92), none, (.v (.iaddr 6 (.t 90) (.t 91)))⟩, ⟨(some 93), none, (.v (.load (some 6) (.t 92)))⟩, ⟨(some 94), none, (.call (.c (.func 51 [])) [(.t 93)])⟩, ⟨(some 95), none, (.v (.bin .add (.t 89) (.t 94)))⟩, ⟨(some 96), none, (.v (.bin .neq (.t 85) (.t 95)))⟩] [false, false, false, false, false, false, false, false, false, false, false, false, false, false, true]) (.cond (.t 96) (.seq (.reg [⟨(some 6), none, (.v (.mov (.c (.bool false))))⟩]) .ret) .skip))) (.reg [⟨(some 80), none, (.v (.mov (.t 13)))⟩, ⟨(some 81), none, (.v (.bin .add (.t 80) (.c (.int .i64 1))))⟩, ⟨(some 13), none, (.v (.mov (.t 81)))⟩]))
def c_law26_ReportLines_10 : SC := .seq (.seq (.reg [⟨(some 13), none, (.v (.mov (.c (.int .i64 0))))⟩]) (.block 2 (.loop b_law26_ReportLines_3))) c_law26_ReportLines_9
def c_law26_ReportLines_11 : SC := .seq (.seq (.reg [⟨(some 64), none, (.v (.mov (.t 11)))⟩, ⟨(some 65), none, (.v (.len false (.t 64)))⟩, ⟨(some 66), none, (.v (.mov (.t 8)))⟩, ⟨(some 67), none, (.v (.len false (.t 66)))⟩, ⟨(some 68), none, (.v (.bin .neq (.t 65) (.t 67)))⟩, ⟨(some 69), none, (.v (.mov (.t 68)))⟩, ⟨(some 70), (some (69, false)), (.v (.mov (.t 12)))⟩, ⟨(some 71), (some (69, false)), (.v (.len false (.t 70)))⟩, ⟨(some 72), (some (69, false)), (.v (.mov (.t 9)))⟩, ⟨(some 73), (some (69, false)), (.v (.len false (.t 72)))⟩, ⟨(some 74), (some (69, false)), (.v (.bin .neq (.t 71) (.t 73)))⟩, ⟨(some 75), none, (.v (.pick (.t 69) (.c (.bool true)) (.t 74)))⟩]) (.cond (.t 75) (.seq (.reg [⟨(some 6), none, (.v (.mov (.c (.bool false))))⟩]) .ret) .skip)) c_law26_ReportLines_10
def c_law26_ReportLines_12 : SC := .seq (.reg [⟨(some 57), none, (.v (.mov (.t 8)))⟩, ⟨(some 58), none, (.v (.mov (.t 7)))⟩, ⟨(some 59), none, (.call (.c (.func 54 [])) [(.t 57), (.t 58)])⟩, ⟨(some 60), none, (.call (.c (.func 58 [])) [(.t 59)])⟩, ⟨(some 61), none, (.v (.mov (.t 9)))⟩, ⟨(some 62), none, (.call (.c (.func 49 [])) [(.t 61)])⟩, ⟨(some 63), none, (.call (.c (.func 58 [])) [(.t 62)])⟩, ⟨(some 11), none, (.v (.mov (.t 60)))⟩, ⟨(some 12), none, (.v (.mov (.t 63)))⟩]) c_law26_ReportLines_11
def c_law26_ReportLines_13 : SC := .seq (.block 1 (.dreg [⟨(some 39), none, (.v (.mov (.t 9)))⟩, ⟨(some 40), none, (.v (.mov (.t 1)))⟩, ⟨(some 41), none, (.v (.mov (.t 10)))⟩, ⟨(some 42), none, (.v (.iaddr 1 (.t 40) (.t 41)))⟩, ⟨(some 43), none, (.v (.load none (.t 42)))⟩, ⟨(some 44), none, (.v (.mov (.t 1)))⟩, ⟨(some 45), none, (.v (.mov (.t 10)))⟩, ⟨(some 46), none, (.v (.bin .add (.t 45) (.c (.int .i64 1))))⟩, ⟨(some 47), none, (.v (.iaddr 1 (.t 44) (.t 46)))⟩, ⟨(some 48), none, (.v (.load none (.t 47)))⟩, ⟨(some 49), none, (.v (.mov (.t 1)))⟩, ⟨(some 50), none, (.v (.mov (.t 10)))⟩, ⟨(some 51), none, (.v (.bin .add (.t 50) (.c (.int .i64 2))))⟩, ⟨(some 52), none, (.v (.iaddr 1 (.t 49) (.t 51)))⟩, ⟨(some 53), none, (.v (.load none (.t 52)))⟩, ⟨(some 54), none, (.call (.c (.func 57 [])) [(.t 43), (.t 48), (.t 53)])⟩, ⟨(some 55), none, (.bslice 6 1 [(.int .i64 0), (.str []), (.str []), (.int .i64 0), (.int .i64 0), (.int .i64 0)] [(0, (.t 54))])⟩, ⟨(some 56), none, (.append 6 64 (.t 39) (.t 55))⟩, ⟨(some 9), none, (.v (.mov (.t 56)))⟩] [false, false, false, false, false, false, false, false, false, false, false, false, false, false, false, true, true, true, true])) (.reg [⟨(some 37), none, (.v (.mov (.t 10)))⟩, ⟨(some 38), none, (.v (.bin .add (.t 37) (.c (.int .i64 3))))⟩, ⟨(some 10), none, (.v (.mov (.t 38)))⟩])
def b_law26_ReportLines_4 : SC := .seq (.seq (.reg [⟨(some 32), none, (.v (.mov (.t 10)))⟩, ⟨(some 33), none, (.v (.bin .add (.t 32) (.c (.int .i64 2))))⟩, ⟨(some 34), none, (.v (.mov (.t 1)))⟩, ⟨(some 35), none, (.v (.len false (.t 34)))⟩, ⟨(some 36), none, (.v (.bin .lss (.t 33) (.t 35)))⟩]) (.cond (.t 36) .skip (.exit 0))) c_law26_ReportLines_13
def c_law26_ReportLines_14 : SC := .block 0 (.loop b_law26_ReportLines_4)
def c_law26_ReportLines_15 : SC := .seq (.seq (.reg [⟨(some 10), none, (.v (.mov (.c (.int .i64 0))))⟩]) c_law26_ReportLines_14) c_law26_ReportLines_12
def c_law26_ReportLines_16 : SC := .seq (.reg [⟨(some 9), none, (.nilv 6)⟩]) c_law26_ReportLines_15
def c_law26_ReportLines_17 : SC := .seq (.reg [⟨(some 27), none, (.v (.mov (.t 0)))⟩, ⟨(some 28), none, (.v (.mov (.t 2)))⟩, ⟨(some 29), none, (.call (.c (.func 56 [])) [(.t 27), (.t 28)])⟩, ⟨(some 26), none, (.v (.mov (.t 29)))⟩, ⟨(some 30), none, (.v (.extract 0 (.t 26)))⟩, ⟨(some 31), none, (.v (.extract 1 (.t 26)))⟩, ⟨(some 7), none, (.v (.mov (.t 30)))⟩, ⟨(some 8), none, (.v (.mov (.t 31)))⟩]) c_law26_ReportLines_16
def c_law26_ReportLines_18 : SC := .seq (.seq (.reg [⟨(some 17), none, (.v (.mov (.t 0)))⟩, ⟨(some 18), none, (.v (.len false (.t 17)))⟩, ⟨(some 19), none, (.v (.bin .gtr (.t 18) (.c (.int .i64 60))))⟩, ⟨(some 20), none, (.v (.mov (.t 19)))⟩, ⟨(some 21), (some (20, false)), (.v (.mov (.t 1)))⟩, ⟨(some 22), (some (20, false)), (.v (.len false (.t 21)))⟩, ⟨(some 23), (some (20, false)), (.v (.bin .gtr (.t 22) (.c (.int .i64 60))))⟩, ⟨(some 24), none, (.v (.pick (.t 20) (.c (.bool true)) (.t 23)))⟩]) (.cond (.t 24) (.seq (.reg [⟨(some 25), none, (.call (.c (.func 48 [])) [])⟩, ⟨(some 6), none, (.v (.mov (.t 25)))⟩]) .ret) .skip)) c_law26_ReportLines_17
def sc_law26_ReportLines : SFunc := ⟨3, 155, .seq (.reg [⟨(some 6), none, (.v (.mov (.c (.bool false))))⟩]) c_law26_ReportLines_18, [(.t 6)]⟩
noncomputable def k_law26_ReportLines_2 (SP : Prg) (x : EO) : CO := fin [(.t 6)] (thC SP (inBlk 4 (thC SP (thC SP (inBlk 5 (thC SP (inBlk 6 (x)) c_law26_ReportLines_5)) c_law26_ReportLines_2) (.loop b_law26_ReportLines_1))) c_law26_ReportLines_1)
noncomputable def k_law26_ReportLines_1 (SP : Prg) (x : EO) : CO := fin [(.t 6)] (thC SP (inBlk 4 (x)) c_law26_ReportLines_1)
noncomputable def k_law26_ReportLines_3 (SP : Prg) (x : EO) : CO := fin [(.t 6)] (thC SP (inBlk 2 (x)) c_law26_ReportLines_9)
noncomputable def k_law26_ReportLines_4 (SP : Prg) (x : EO) : CO := fin [(.t 6)] (thC SP (inBlk 0 (x)) c_law26_ReportLines_12)
theorem U_law26_ReportLines : type_of% (And.intro (fun (SP : Prg) (ac : Ac) => congrFun (congrArg (E SP) c_law26_ReportLines_1.eq_1) ac) <| And.intro (fun (SP : Prg) (ac : Ac) => congrFun (congrArg (E SP) c_law26_ReportLines_2.eq_1) ac) <| And.intro (fun (SP : Prg) (ac : Ac) => congrFun (congrArg (E SP) c_law26_ReportLines_3.eq_1) ac) <| And.intro (fun (SP : Prg) (ac : Ac) => congrFun (congrArg (E SP) c_law26_ReportLines_4.eq_1) ac) <| And.intro (fun (SP : Prg) (ac : Ac) => congrFun (congrArg (E SP) c_law26_ReportLines_5.eq_1) ac) <| And.intro (fun (SP : Prg) (ac : Ac) => congrFun (congrArg (E SP) b_law26_ReportLines_2.eq_1) ac) <| And.intro (fun (SP : Prg) (ac : Ac) => congrFun (congrArg (E SP) c_law26_ReportLines_6.eq_1) ac) <| And.intro (fun (SP : Prg) (ac : Ac) => congrFun (congrArg (E SP) c_law26_ReportLines_7.eq_1) ac) <| And.intro (fun (SP : Prg) (ac : Ac) => congrFun (congrArg (E SP) b_law26_ReportLines_1.eq_1) ac) <| And.intro (fun (SP : Prg) (ac : Ac) => congrFun (congrArg (E SP) c_law26_ReportLines_8.eq_1) ac) <| And.intro (fun (SP : Prg) (ac : Ac) => congrFun (congrArg (E SP) c_law26_ReportLines_9.eq_1) ac) <| And.intro (fun (SP : Prg) (ac : Ac) => congrFun (congrArg (E SP) b_law26_ReportLines_3.eq_1) ac) <| And.intro (fun (SP : Prg) (ac : Ac) => congrFun (congrArg (E SP) c_law26_ReportLines_10.eq_1) ac) <| And.intro (fun (SP : Prg) (ac : Ac) => congrFun (congrArg (E SP) c_law26_ReportLines_11.eq_1) ac) <| And.intro (fun (SP : Prg) (ac : Ac) => congrFun (congrArg (E SP) c_law26_ReportLines_12.eq_1) ac) <| And.intro (fun (SP : Prg) (ac : Ac) => congrFun (congrArg (E SP) c_law26_ReportLines_13.eq_1) ac) <| And.intro (fun (SP : Prg) (ac : Ac) => congrFun (congrArg (E SP) b_law26_ReportLines_4.eq_1) ac) <| And.intro (fun (SP : Prg) (ac : Ac) => congrFun (congrArg (E SP) c_law26_ReportLines_14.eq_1) ac) <| And.intro (fun (SP : Prg) (ac : Ac) => congrFun (congrArg (E SP) c_law26_ReportLines_15.eq_1) ac) <| And.intro (fun (SP : Prg) (ac : Ac) => congrFun (congrArg (E SP) c_law26_ReportLines_16.eq_1) ac) <| And.intro (fun (SP : Prg) (ac : Ac) => congrFun (congrArg (E SP) c_law26_ReportLines_17.eq_1) ac) <| And.intro (fun (SP : Prg) (ac : Ac) => congrFun (congrArg (E SP) c_law26_ReportLines_18.eq_1) ac) <| sc_law26_ReportLines.eq_1) := And.intro (fun (SP : Prg) (ac : Ac) => congrFun (congrArg (E SP) c_law26_ReportLines_1.eq_1) ac) <| And.intro (fun (SP : Prg) (ac : Ac) => congrFun (congrArg (E SP) c_law26_ReportLines_2.eq_1) ac) <| And.intro (fun (SP : Prg) (ac : Ac) => congrFun (congrArg (E SP) c_law26_ReportLines_3.eq_1) ac) <| And.intro (fun (SP : Prg) (ac : Ac) => congrFun (congrArg (E SP) c_law26_ReportLines_4.eq_1) ac) <| And.intro (fun (SP : Prg) (ac : Ac) => congrFun (congrArg (E SP) c_law26_ReportLines_5.eq_1) ac) <| And.intro (fun (SP : Prg) (ac : Ac) => congrFun (congrArg (E SP) b_law26_ReportLines_2.eq_1) ac) <| And.intro (fun (SP : Prg) (ac : Ac) => congrFun (congrArg (E SP) c_law26_ReportLines_6.eq_1) ac) <| And.intro (fun (SP : Prg) (ac : Ac) => congrFun (congrArg (E SP) c_law26_ReportLines_7.eq_1) ac) <| And.intro (fun (SP : Prg) (ac : Ac) => congrFun (congrArg (E SP) b_law26_ReportLines_1.eq_1) ac) <| And.intro (fun (SP : Prg) (ac : Ac) => congrFun (congrArg (E SP) c_law26_ReportLines_8.eq_1) ac) <| And.intro (fun (SP : Prg) (ac : Ac) => congrFun (congrArg (E SP) c_law26_ReportLines_9.eq_1) ac) <| And.intro (fun (SP : Prg) (ac : Ac) => congrFun (congrArg (E SP) b_law26_ReportLines_3.eq_1) ac) <| And.intro (fun (SP : Prg) (ac : Ac) => congrFun (congrArg (E SP) c_law26_ReportLines_10.eq_1) ac) <| And.intro (fun (SP : Prg) (ac : Ac) => congrFun (congrArg (E SP) c_law26_ReportLines_11.eq_1) ac) <| And.intro (fun (SP : Prg) (ac : Ac) => congrFun (congrArg (E SP) c_law26_ReportLines_12.eq_1) ac) <| And.intro (fun (SP : Prg) (ac : Ac) => congrFun (congrArg (E SP) c_law26_ReportLines_13.eq_1) ac) <| And.intro (fun (SP : Prg) (ac : Ac) => congrFun (congrArg (E SP) b_law26_ReportLines_4.eq_1) ac) <| And.intro (fun (SP : Prg) (ac : Ac) => congrFun (congrArg (E SP) c_law26_ReportLines_14.eq_1) ac) <| And.intro (fun (SP : Prg) (ac : Ac) => congrFun (congrArg (E SP) c_law26_ReportLines_15.eq_1) ac) <| And.intro (fun (SP : Prg) (ac : Ac) => congrFun (congrArg (E SP) c_law26_ReportLines_16.eq_1) ac) <| And.intro (fun (SP : Prg) (ac : Ac) => congrFun (congrArg (E SP) c_law26_ReportLines_17.eq_1) ac) <| And.intro (fun (SP : Prg) (ac : Ac) => congrFun (congrArg (E SP) c_law26_ReportLines_18.eq_1) ac) <| sc_law26_ReportLines.eq_1
theorem comp_law26_ReportLines : comp Tryd.prog Tryd.f10 = some sc_law26_ReportLines := by kernel_rfl
end Go.Proofs.YtebflncfgjnkkaaDoor.M

/- Trees of functions, printed by a program of this session (lift.py): what a run asks, over plain data. Lean proves each. -/
namespace Go.Proofs.YtebflncfgjnkkaaDoor.M
set_option linter.unusedSimpArgs false
set_option linter.unusedVariables false
open Go Classical
theorem sp_law26_ReportLines : SP 10 = some (.code sc_law26_ReportLines) := SPof_code rfl Tryd.func10 comp_law26_ReportLines
/-! doorkeeper/doorkeeperlaw26.ReportLines -/
def At_law26_ReportLines_4 (ss : List UInt8) (r3 : List Mark) (r4 : List Item) (i5 : Int) (l6 : List PStep) (r : Bool) : Prop := ∀ (S : Sto) (e : Nat → PV) (f : Fr), e 1 = .list 1 (ss.map eB) false ∧ e 7 = .list 6 (r3.map eMark) false ∧ e 8 = .list 12 (r4.map eItem) false ∧ e 9 = .sl 0 (.slot 9) 0 l6.length l6.length 0 false ∧ e 10 = .int .i64 i5 ∧ f.arr (.slot 9) = some ⟨6, l6.map ePStep, false, 0⟩ → k_law26_ReportLines_4 SP (E SP (.loop b_law26_ReportLines_4) ⟨e, f :: S⟩) = .ok (.v (.bool r)) S
def At_law26_ReportLines_3 (r4 : List Item) (l6 : List PStep) (r12 : List (List UInt8)) (r14 : List (List UInt8)) (i15 : Int) (r : Bool) : Prop := ∀ (S : Sto) (e : Nat → PV) (f : Fr), e 8 = .list 12 (r4.map eItem) false ∧ e 9 = .sl 0 (.slot 9) 0 l6.length l6.length 0 false ∧ e 11 = .sl 0 (.slot 60) 0 r12.length r12.length 0 false ∧ e 12 = .sl 0 (.slot 63) 0 r14.length r14.length 0 false ∧ e 13 = .int .i64 i15 ∧ f.arr (.slot 9) = some ⟨6, l6.map ePStep, false, 0⟩ ∧ f.arr (.slot 60) = some ⟨1, r12.map eS, false, 0⟩ ∧ f.arr (.slot 63) = some ⟨1, r14.map eS, false, 0⟩ → k_law26_ReportLines_3 SP (E SP (.loop b_law26_ReportLines_3) ⟨e, f :: S⟩) = .ok (.v (.bool r)) S
def At_law26_ReportLines_1 (r4 : List Item) (r12 : List (List UInt8)) (i20 : Int) (r : Bool) : Prop := ∀ (S : Sto) (e : Nat → PV) (f : Fr), e 8 = .list 12 (r4.map eItem) false ∧ e 11 = .sl 0 (.slot 60) 0 r12.length r12.length 0 false ∧ e 14 = .int .i64 i20 ∧ f.arr (.slot 60) = some ⟨1, r12.map eS, false, 0⟩ → k_law26_ReportLines_1 SP (E SP (.loop b_law26_ReportLines_1) ⟨e, f :: S⟩) = .ok (.v (.bool r)) S
def At_law26_ReportLines_2 (r4 : List Item) (r12 : List (List UInt8)) (i20 : Int) (i21 : Int) (r : Bool) : Prop := ∀ (S : Sto) (e : Nat → PV) (f : Fr), e 8 = .list 12 (r4.map eItem) false ∧ e 11 = .sl 0 (.slot 60) 0 r12.length r12.length 0 false ∧ e 14 = .int .i64 i20 ∧ e 15 = .int .i64 i21 ∧ f.arr (.slot 60) = some ⟨1, r12.map eS, false, 0⟩ → k_law26_ReportLines_2 SP (E SP (.loop b_law26_ReportLines_2) ⟨e, f :: S⟩) = .ok (.v (.bool r)) S
set_option maxHeartbeats 4000000 in
theorem At_law26_ReportLines_4_step (ss : List UInt8) (r3 : List Mark) (r4 : List Item) (i5 : Int) (l6 : List PStep) (r : Bool) (T :
  (I64 (i5 + 2)) ∧
 (((i5 + 2) < ((ss.length : Nat) : Int)) →
  (0 ≤ i5) ∧
  ∃ (v7 : UInt8), (ss[i5.toNat]? = some v7) ∧
  (I64 (i5 + 1)) ∧
  (0 ≤ (i5 + 1)) ∧
  ∃ (v8 : UInt8), (ss[(i5 + 1).toNat]? = some v8) ∧
  (I64 (i5 + 2)) ∧
  (0 ≤ (i5 + 2)) ∧
  ∃ (v9 : UInt8), (ss[(i5 + 2).toNat]? = some v9) ∧
  ∃ (r10 : PStep), (R_law15_Step v7 v8 v9 r10) ∧
  (bigRow (l6.length + 1) 64) ∧
  (I64 (i5 + 3)) ∧
  At_law26_ReportLines_4 ss r3 r4 (i5 + 3) (l6 ++ [r10]) r) ∧
 (¬ ((i5 + 2) < ((ss.length : Nat) : Int)) →
  ∃ (r11 : List UInt8), (R_report_Show r4 r3 r11) ∧
  ∃ (r12 : List (List UInt8)), (R_law26_lines r11 r12) ∧
  ∃ (r13 : List UInt8), (R_report_Steps l6 r13) ∧
  ∃ (r14 : List (List UInt8)), (R_law26_lines r13 r14) ∧
  ((((r12.length : Nat) : Int) = ((r4.length : Nat) : Int)) →
   ((((r14.length : Nat) : Int) = ((l6.length : Nat) : Int)) →
    At_law26_ReportLines_3 r4 l6 r12 r14 0 r) ∧
   (¬ (((r14.length : Nat) : Int) = ((l6.length : Nat) : Int)) →
    false = r)) ∧
  (¬ (((r12.length : Nat) : Int) = ((r4.length : Nat) : Int)) →
   false = r))) : At_law26_ReportLines_4 ss r3 r4 i5 l6 r := by
 intro S e f h
 unfold k_law26_ReportLines_4
 rw [E_loop]
 obtain ⟨p1, T⟩ := T
 by_cases c2 : (i5 + 2) < ((ss.length : Nat) : Int)
 · replace T := T.1 c2
   obtain ⟨p3, v7, q4, p5, p6, v8, q7, p8, p9, v9, q10, r10, q11, p12, p13, T⟩ := T
   simp only [R_law15_Step, le] at q11
   simp only [bigRow] at p12
   try simp only [h, p1.wrap, eq_true c2, p3, q4, p5.wrap, p6, q7, p8.wrap, p9, q10, q11, p12, p13.wrap, U_law26_ReportLines, lw, le, Nat.zero_le, Nat.sub_zero, take_app3, set_get, take_set, List.length_set, List.map_set, reduceIte, reduceCtorEq, Nat.reduceEqDiff, Nat.reduceAdd, Nat.reduceLeDiff, Nat.reduceSub, Nat.reduceLT, Int.reduceEq, Int.reduceLT, Int.reduceLE, Int.reduceToNat, Int.reduceAdd, Int.reduceSub, Int.reduceMul, Int.reduceNeg, Int.cast_ofNat_Int]
   refine T S _ _ ?_
   simp only [h, p1.wrap, eq_true c2, p3, q4, p5.wrap, p6, q7, p8.wrap, p9, q10, q11, p12, p13.wrap, U_law26_ReportLines, lw, le, Nat.zero_le, Nat.sub_zero, take_app3, set_get, take_set, List.length_set, List.map_set, reduceIte, reduceCtorEq, Nat.reduceEqDiff, Nat.reduceAdd, Nat.reduceLeDiff, Nat.reduceSub, Nat.reduceLT, Int.reduceEq, Int.reduceLT, Int.reduceLE, Int.reduceToNat, Int.reduceAdd, Int.reduceSub, Int.reduceMul, Int.reduceNeg, Int.cast_ofNat_Int]
 · replace T := T.2 c2
   obtain ⟨r11, q14, r12, q15, r13, q16, r14, q17, T⟩ := T
   simp only [R_report_Show, le] at q14
   simp only [R_law26_lines, le] at q15
   simp only [R_report_Steps, le] at q16
   simp only [R_law26_lines, le] at q17
   by_cases c18 : ((r12.length : Nat) : Int) = ((r4.length : Nat) : Int)
   · replace T := T.1 c18
     by_cases c19 : ((r14.length : Nat) : Int) = ((l6.length : Nat) : Int)
     · replace T := T.1 c19
       try simp only [h, p1.wrap, eq_false c2, q14, q15, q16, q17, eq_true c18, eq_true c19, U_law26_ReportLines, lw, le, Nat.zero_le, Nat.sub_zero, take_app3, set_get, take_set, List.length_set, List.map_set, reduceIte, reduceCtorEq, Nat.reduceEqDiff, Nat.reduceAdd, Nat.reduceLeDiff, Nat.reduceSub, Nat.reduceLT, Int.reduceEq, Int.reduceLT, Int.reduceLE, Int.reduceToNat, Int.reduceAdd, Int.reduceSub, Int.reduceMul, Int.reduceNeg, Int.cast_ofNat_Int]
       refine T S _ _ ?_
       simp only [h, p1.wrap, eq_false c2, q14, q15, q16, q17, eq_true c18, eq_true c19, U_law26_ReportLines, lw, le, Nat.zero_le, Nat.sub_zero, take_app3, set_get, take_set, List.length_set, List.map_set, reduceIte, reduceCtorEq, Nat.reduceEqDiff, Nat.reduceAdd, Nat.reduceLeDiff, Nat.reduceSub, Nat.reduceLT, Int.reduceEq, Int.reduceLT, Int.reduceLE, Int.reduceToNat, Int.reduceAdd, Int.reduceSub, Int.reduceMul, Int.reduceNeg, Int.cast_ofNat_Int]
     · replace T := T.2 c19
       obtain rfl := T
       simp only [h, p1.wrap, eq_false c2, q14, q15, q16, q17, eq_true c18, eq_false c19, U_law26_ReportLines, lw, le, Nat.zero_le, Nat.sub_zero, take_app3, set_get, take_set, List.length_set, List.map_set, reduceIte, reduceCtorEq, Nat.reduceEqDiff, Nat.reduceAdd, Nat.reduceLeDiff, Nat.reduceSub, Nat.reduceLT, Int.reduceEq, Int.reduceLT, Int.reduceLE, Int.reduceToNat, Int.reduceAdd, Int.reduceSub, Int.reduceMul, Int.reduceNeg, Int.cast_ofNat_Int]
   · replace T := T.2 c18
     obtain rfl := T
     simp only [h, p1.wrap, eq_false c2, q14, q15, q16, q17, eq_false c18, U_law26_ReportLines, lw, le, Nat.zero_le, Nat.sub_zero, take_app3, set_get, take_set, List.length_set, List.map_set, reduceIte, reduceCtorEq, Nat.reduceEqDiff, Nat.reduceAdd, Nat.reduceLeDiff, Nat.reduceSub, Nat.reduceLT, Int.reduceEq, Int.reduceLT, Int.reduceLE, Int.reduceToNat, Int.reduceAdd, Int.reduceSub, Int.reduceMul, Int.reduceNeg, Int.cast_ofNat_Int]
set_option maxHeartbeats 4000000 in
theorem At_law26_ReportLines_3_step (r4 : List Item) (l6 : List PStep) (r12 : List (List UInt8)) (r14 : List (List UInt8)) (i15 : Int) (r : Bool) (T :
  ((i15 < ((r14.length : Nat) : Int)) →
  (0 ≤ i15) ∧ (i15.toNat < r14.length) ∧
  ∃ (v16 : List UInt8), (r14[i15.toNat]? = some v16) ∧
  (I64 (i15 + 1)) ∧
  ∃ (r17 : List UInt8), (R_ref1_Digits (i15 + 1) r17) ∧
  (r17.length + 2 ≤ maxInt) ∧
  (0 ≤ i15) ∧ (i15.toNat < l6.length) ∧
  ∃ (v18 : PStep), (l6[i15.toNat]? = some v18) ∧
  ∃ (r19 : List UInt8), (R_report_Step v18 r19) ∧
  (r17.length + 2 + r19.length ≤ maxInt) ∧
  ((v16 = ((r17 ++ [46, 32]) ++ r19)) →
   (I64 (i15 + 1)) ∧
   At_law26_ReportLines_3 r4 l6 r12 r14 (i15 + 1) r) ∧
  (¬ (v16 = ((r17 ++ [46, 32]) ++ r19)) →
   false = r)) ∧
 (¬ (i15 < ((r14.length : Nat) : Int)) →
  At_law26_ReportLines_1 r4 r12 0 r)) : At_law26_ReportLines_3 r4 l6 r12 r14 i15 r := by
 intro S e f h
 unfold k_law26_ReportLines_3
 rw [E_loop]
 by_cases c1 : i15 < ((r14.length : Nat) : Int)
 · replace T := T.1 c1
   obtain ⟨p2, p3, v16, q4, p5, r17, q6, p7, p8, p9, v18, q10, r19, q11, p12, T⟩ := T
   simp only [R_ref1_Digits, le] at q6
   simp only [R_report_Step, le] at q11
   by_cases c13 : v16 = ((r17 ++ [46, 32]) ++ r19)
   · replace T := T.1 c13
     obtain ⟨p14, T⟩ := T
     try simp only [h, eq_true c1, p2, p3, q4, p5.wrap, q6, p7, p8, p9, q10, q11, p12, eq_true c13, p14.wrap, U_law26_ReportLines, lw, le, Nat.zero_le, Nat.sub_zero, take_app3, set_get, take_set, List.length_set, List.map_set, reduceIte, reduceCtorEq, Nat.reduceEqDiff, Nat.reduceAdd, Nat.reduceLeDiff, Nat.reduceSub, Nat.reduceLT, Int.reduceEq, Int.reduceLT, Int.reduceLE, Int.reduceToNat, Int.reduceAdd, Int.reduceSub, Int.reduceMul, Int.reduceNeg, Int.cast_ofNat_Int]
     refine T S _ _ ?_
     simp only [h, eq_true c1, p2, p3, q4, p5.wrap, q6, p7, p8, p9, q10, q11, p12, eq_true c13, p14.wrap, U_law26_ReportLines, lw, le, Nat.zero_le, Nat.sub_zero, take_app3, set_get, take_set, List.length_set, List.map_set, reduceIte, reduceCtorEq, Nat.reduceEqDiff, Nat.reduceAdd, Nat.reduceLeDiff, Nat.reduceSub, Nat.reduceLT, Int.reduceEq, Int.reduceLT, Int.reduceLE, Int.reduceToNat, Int.reduceAdd, Int.reduceSub, Int.reduceMul, Int.reduceNeg, Int.cast_ofNat_Int]
   · replace T := T.2 c13
     obtain rfl := T
     simp only [h, eq_true c1, p2, p3, q4, p5.wrap, q6, p7, p8, p9, q10, q11, p12, eq_false c13, U_law26_ReportLines, lw, le, Nat.zero_le, Nat.sub_zero, take_app3, set_get, take_set, List.length_set, List.map_set, reduceIte, reduceCtorEq, Nat.reduceEqDiff, Nat.reduceAdd, Nat.reduceLeDiff, Nat.reduceSub, Nat.reduceLT, Int.reduceEq, Int.reduceLT, Int.reduceLE, Int.reduceToNat, Int.reduceAdd, Int.reduceSub, Int.reduceMul, Int.reduceNeg, Int.cast_ofNat_Int]
 · replace T := T.2 c1
   try simp only [h, eq_false c1, U_law26_ReportLines, lw, le, Nat.zero_le, Nat.sub_zero, take_app3, set_get, take_set, List.length_set, List.map_set, reduceIte, reduceCtorEq, Nat.reduceEqDiff, Nat.reduceAdd, Nat.reduceLeDiff, Nat.reduceSub, Nat.reduceLT, Int.reduceEq, Int.reduceLT, Int.reduceLE, Int.reduceToNat, Int.reduceAdd, Int.reduceSub, Int.reduceMul, Int.reduceNeg, Int.cast_ofNat_Int]
   refine T S _ _ ?_
   simp only [h, eq_false c1, U_law26_ReportLines, lw, le, Nat.zero_le, Nat.sub_zero, take_app3, set_get, take_set, List.length_set, List.map_set, reduceIte, reduceCtorEq, Nat.reduceEqDiff, Nat.reduceAdd, Nat.reduceLeDiff, Nat.reduceSub, Nat.reduceLT, Int.reduceEq, Int.reduceLT, Int.reduceLE, Int.reduceToNat, Int.reduceAdd, Int.reduceSub, Int.reduceMul, Int.reduceNeg, Int.cast_ofNat_Int]
set_option maxHeartbeats 4000000 in
theorem At_law26_ReportLines_1_step (r4 : List Item) (r12 : List (List UInt8)) (i20 : Int) (r : Bool) (T :
  ((i20 < ((r12.length : Nat) : Int)) →
  At_law26_ReportLines_2 r4 r12 i20 0 r) ∧
 (¬ (i20 < ((r12.length : Nat) : Int)) →
  ∃ (r22 : Bool), (R_law26_awake r22) ∧
  r22 = r)) : At_law26_ReportLines_1 r4 r12 i20 r := by
 intro S e f h
 unfold k_law26_ReportLines_1
 rw [E_loop]
 by_cases c1 : i20 < ((r12.length : Nat) : Int)
 · replace T := T.1 c1
   try simp only [h, eq_true c1, U_law26_ReportLines, lw, le, Nat.zero_le, Nat.sub_zero, take_app3, set_get, take_set, List.length_set, List.map_set, reduceIte, reduceCtorEq, Nat.reduceEqDiff, Nat.reduceAdd, Nat.reduceLeDiff, Nat.reduceSub, Nat.reduceLT, Int.reduceEq, Int.reduceLT, Int.reduceLE, Int.reduceToNat, Int.reduceAdd, Int.reduceSub, Int.reduceMul, Int.reduceNeg, Int.cast_ofNat_Int]
   refine T S _ _ ?_
   simp only [h, eq_true c1, U_law26_ReportLines, lw, le, Nat.zero_le, Nat.sub_zero, take_app3, set_get, take_set, List.length_set, List.map_set, reduceIte, reduceCtorEq, Nat.reduceEqDiff, Nat.reduceAdd, Nat.reduceLeDiff, Nat.reduceSub, Nat.reduceLT, Int.reduceEq, Int.reduceLT, Int.reduceLE, Int.reduceToNat, Int.reduceAdd, Int.reduceSub, Int.reduceMul, Int.reduceNeg, Int.cast_ofNat_Int]
 · replace T := T.2 c1
   obtain ⟨r22, q2, rfl⟩ := T
   simp only [R_law26_awake, le] at q2
   simp only [h, eq_false c1, q2, U_law26_ReportLines, lw, le, Nat.zero_le, Nat.sub_zero, take_app3, set_get, take_set, List.length_set, List.map_set, reduceIte, reduceCtorEq, Nat.reduceEqDiff, Nat.reduceAdd, Nat.reduceLeDiff, Nat.reduceSub, Nat.reduceLT, Int.reduceEq, Int.reduceLT, Int.reduceLE, Int.reduceToNat, Int.reduceAdd, Int.reduceSub, Int.reduceMul, Int.reduceNeg, Int.cast_ofNat_Int]
set_option maxHeartbeats 4000000 in
theorem At_law26_ReportLines_2_step (r4 : List Item) (r12 : List (List UInt8)) (i20 : Int) (i21 : Int) (r : Bool) (T :
  (0 ≤ i20) ∧ (i20.toNat < r12.length) ∧
 ∃ (v23 : List UInt8), (r12[i20.toNat]? = some v23) ∧
 ((i21 < ((v23.length : Nat) : Int)) →
  (0 ≤ i20) ∧ (i20.toNat < r12.length) ∧
  (0 ≤ i21) ∧
  ∃ (b24 : UInt8), (v23[i21.toNat]? = some b24) ∧
  ((((b24.toNat : Nat) : Int) = 32) →
   (I64 (i21 + 1)) ∧
   At_law26_ReportLines_2 r4 r12 i20 (i21 + 1) r) ∧
  (¬ (((b24.toNat : Nat) : Int) = 32) →
   (0 ≤ i20) ∧ (i20.toNat < r12.length) ∧
   ((((v23.length : Nat) : Int) ≤ i21) →
    false = r) ∧
   (¬ (((v23.length : Nat) : Int) ≤ i21) →
    (0 ≤ i20) ∧ (i20.toNat < r12.length) ∧
    (I64 (i21 + 1)) ∧
    (0 ≤ i21) ∧ (0 ≤ (i21 + 1)) ∧ (i21.toNat ≤ (i21 + 1).toNat) ∧ ((i21 + 1).toNat ≤ v23.length) ∧
    ∃ (r25 : Int), (R_ref10_Find r4 ((v23.drop i21.toNat).take ((i21 + 1).toNat - i21.toNat)) r25) ∧
    ((r25 < 0) →
     false = r) ∧
    (¬ (r25 < 0) →
     (0 ≤ r25) ∧
     ∃ (v26 : Item), (r4[r25.toNat]? = some v26) ∧
     ∃ (r27 : List (List UInt8)), (R_ref10_Up r4 v26.Name r27) ∧
     (I64 (((r27.length : Nat) : Int) - 1)) ∧
     (I64 (2 * (((r27.length : Nat) : Int) - 1))) ∧
     ((i21 = (2 * (((r27.length : Nat) : Int) - 1))) →
      (I64 (i20 + 1)) ∧
      At_law26_ReportLines_1 r4 r12 (i20 + 1) r) ∧
     (¬ (i21 = (2 * (((r27.length : Nat) : Int) - 1))) →
      false = r))))) ∧
 (¬ (i21 < ((v23.length : Nat) : Int)) →
  (0 ≤ i20) ∧ (i20.toNat < r12.length) ∧
  ((((v23.length : Nat) : Int) ≤ i21) →
   false = r) ∧
  (¬ (((v23.length : Nat) : Int) ≤ i21) →
   (0 ≤ i20) ∧ (i20.toNat < r12.length) ∧
   (I64 (i21 + 1)) ∧
   (0 ≤ i21) ∧ (0 ≤ (i21 + 1)) ∧ (i21.toNat ≤ (i21 + 1).toNat) ∧ ((i21 + 1).toNat ≤ v23.length) ∧
   ∃ (r28 : Int), (R_ref10_Find r4 ((v23.drop i21.toNat).take ((i21 + 1).toNat - i21.toNat)) r28) ∧
   ((r28 < 0) →
    false = r) ∧
   (¬ (r28 < 0) →
    (0 ≤ r28) ∧
    ∃ (v29 : Item), (r4[r28.toNat]? = some v29) ∧
    ∃ (r30 : List (List UInt8)), (R_ref10_Up r4 v29.Name r30) ∧
    (I64 (((r30.length : Nat) : Int) - 1)) ∧
    (I64 (2 * (((r30.length : Nat) : Int) - 1))) ∧
    ((i21 = (2 * (((r30.length : Nat) : Int) - 1))) →
     (I64 (i20 + 1)) ∧
     At_law26_ReportLines_1 r4 r12 (i20 + 1) r) ∧
    (¬ (i21 = (2 * (((r30.length : Nat) : Int) - 1))) →
     false = r))))) : At_law26_ReportLines_2 r4 r12 i20 i21 r := by
 intro S e f h
 unfold k_law26_ReportLines_2
 rw [E_loop]
 obtain ⟨p1, p2, v23, q3, T⟩ := T
 by_cases c4 : i21 < ((v23.length : Nat) : Int)
 · replace T := T.1 c4
   obtain ⟨p5, p6, p7, b24, q8, T⟩ := T
   by_cases c9 : ((b24.toNat : Nat) : Int) = 32
   · replace T := T.1 c9
     obtain ⟨p10, T⟩ := T
     try simp only [h, p1, p2, q3, eq_true c4, p5, p6, p7, q8, eq_true c9, p10.wrap, U_law26_ReportLines, lw, le, Nat.zero_le, Nat.sub_zero, take_app3, set_get, take_set, List.length_set, List.map_set, reduceIte, reduceCtorEq, Nat.reduceEqDiff, Nat.reduceAdd, Nat.reduceLeDiff, Nat.reduceSub, Nat.reduceLT, Int.reduceEq, Int.reduceLT, Int.reduceLE, Int.reduceToNat, Int.reduceAdd, Int.reduceSub, Int.reduceMul, Int.reduceNeg, Int.cast_ofNat_Int]
     refine T S _ _ ?_
     simp only [h, p1, p2, q3, eq_true c4, p5, p6, p7, q8, eq_true c9, p10.wrap, U_law26_ReportLines, lw, le, Nat.zero_le, Nat.sub_zero, take_app3, set_get, take_set, List.length_set, List.map_set, reduceIte, reduceCtorEq, Nat.reduceEqDiff, Nat.reduceAdd, Nat.reduceLeDiff, Nat.reduceSub, Nat.reduceLT, Int.reduceEq, Int.reduceLT, Int.reduceLE, Int.reduceToNat, Int.reduceAdd, Int.reduceSub, Int.reduceMul, Int.reduceNeg, Int.cast_ofNat_Int]
   · replace T := T.2 c9
     obtain ⟨p11, p12, T⟩ := T
     by_cases c13 : ((v23.length : Nat) : Int) ≤ i21
     · replace T := T.1 c13
       obtain rfl := T
       simp only [h, p1, p2, q3, eq_true c4, p5, p6, p7, q8, eq_false c9, p11, p12, eq_true c13, U_law26_ReportLines, lw, le, Nat.zero_le, Nat.sub_zero, take_app3, set_get, take_set, List.length_set, List.map_set, reduceIte, reduceCtorEq, Nat.reduceEqDiff, Nat.reduceAdd, Nat.reduceLeDiff, Nat.reduceSub, Nat.reduceLT, Int.reduceEq, Int.reduceLT, Int.reduceLE, Int.reduceToNat, Int.reduceAdd, Int.reduceSub, Int.reduceMul, Int.reduceNeg, Int.cast_ofNat_Int]
     · replace T := T.2 c13
       obtain ⟨p14, p15, p16, p17, p18, p19, p20, r25, q21, T⟩ := T
       simp only [R_ref10_Find, le] at q21
       by_cases c22 : r25 < 0
       · replace T := T.1 c22
         obtain rfl := T
         simp only [h, p1, p2, q3, eq_true c4, p5, p6, p7, q8, eq_false c9, p11, p12, eq_false c13, p14, p15, p16.wrap, p17, p18, p19, p20, q21, eq_true c22, U_law26_ReportLines, lw, le, Nat.zero_le, Nat.sub_zero, take_app3, set_get, take_set, List.length_set, List.map_set, reduceIte, reduceCtorEq, Nat.reduceEqDiff, Nat.reduceAdd, Nat.reduceLeDiff, Nat.reduceSub, Nat.reduceLT, Int.reduceEq, Int.reduceLT, Int.reduceLE, Int.reduceToNat, Int.reduceAdd, Int.reduceSub, Int.reduceMul, Int.reduceNeg, Int.cast_ofNat_Int]
       · replace T := T.2 c22
         obtain ⟨p23, v26, q24, r27, q25, p26, p27, T⟩ := T
         simp only [R_ref10_Up, le] at q25
         by_cases c28 : i21 = (2 * (((r27.length : Nat) : Int) - 1))
         · replace T := T.1 c28
           obtain ⟨p29, T⟩ := T
           try simp only [h, p1, p2, q3, eq_true c4, p5, p6, p7, q8, eq_false c9, p11, p12, eq_false c13, p14, p15, p16.wrap, p17, p18, p19, p20, q21, eq_false c22, p23, q24, q25, p26.wrap, p27.wrap, eq_true c28, p29.wrap, U_law26_ReportLines, lw, le, Nat.zero_le, Nat.sub_zero, take_app3, set_get, take_set, List.length_set, List.map_set, reduceIte, reduceCtorEq, Nat.reduceEqDiff, Nat.reduceAdd, Nat.reduceLeDiff, Nat.reduceSub, Nat.reduceLT, Int.reduceEq, Int.reduceLT, Int.reduceLE, Int.reduceToNat, Int.reduceAdd, Int.reduceSub, Int.reduceMul, Int.reduceNeg, Int.cast_ofNat_Int]
           refine T S _ _ ?_
           simp only [h, p1, p2, q3, eq_true c4, p5, p6, p7, q8, eq_false c9, p11, p12, eq_false c13, p14, p15, p16.wrap, p17, p18, p19, p20, q21, eq_false c22, p23, q24, q25, p26.wrap, p27.wrap, eq_true c28, p29.wrap, U_law26_ReportLines, lw, le, Nat.zero_le, Nat.sub_zero, take_app3, set_get, take_set, List.length_set, List.map_set, reduceIte, reduceCtorEq, Nat.reduceEqDiff, Nat.reduceAdd, Nat.reduceLeDiff, Nat.reduceSub, Nat.reduceLT, Int.reduceEq, Int.reduceLT, Int.reduceLE, Int.reduceToNat, Int.reduceAdd, Int.reduceSub, Int.reduceMul, Int.reduceNeg, Int.cast_ofNat_Int]
         · replace T := T.2 c28
           obtain rfl := T
           simp only [h, p1, p2, q3, eq_true c4, p5, p6, p7, q8, eq_false c9, p11, p12, eq_false c13, p14, p15, p16.wrap, p17, p18, p19, p20, q21, eq_false c22, p23, q24, q25, p26.wrap, p27.wrap, eq_false c28, U_law26_ReportLines, lw, le, Nat.zero_le, Nat.sub_zero, take_app3, set_get, take_set, List.length_set, List.map_set, reduceIte, reduceCtorEq, Nat.reduceEqDiff, Nat.reduceAdd, Nat.reduceLeDiff, Nat.reduceSub, Nat.reduceLT, Int.reduceEq, Int.reduceLT, Int.reduceLE, Int.reduceToNat, Int.reduceAdd, Int.reduceSub, Int.reduceMul, Int.reduceNeg, Int.cast_ofNat_Int]
 · replace T := T.2 c4
   obtain ⟨p30, p31, T⟩ := T
   by_cases c32 : ((v23.length : Nat) : Int) ≤ i21
   · replace T := T.1 c32
     obtain rfl := T
     simp only [h, p1, p2, q3, eq_false c4, p30, p31, eq_true c32, U_law26_ReportLines, lw, le, Nat.zero_le, Nat.sub_zero, take_app3, set_get, take_set, List.length_set, List.map_set, reduceIte, reduceCtorEq, Nat.reduceEqDiff, Nat.reduceAdd, Nat.reduceLeDiff, Nat.reduceSub, Nat.reduceLT, Int.reduceEq, Int.reduceLT, Int.reduceLE, Int.reduceToNat, Int.reduceAdd, Int.reduceSub, Int.reduceMul, Int.reduceNeg, Int.cast_ofNat_Int]
   · replace T := T.2 c32
     obtain ⟨p33, p34, p35, p36, p37, p38, p39, r28, q40, T⟩ := T
     simp only [R_ref10_Find, le] at q40
     by_cases c41 : r28 < 0
     · replace T := T.1 c41
       obtain rfl := T
       simp only [h, p1, p2, q3, eq_false c4, p30, p31, eq_false c32, p33, p34, p35.wrap, p36, p37, p38, p39, q40, eq_true c41, U_law26_ReportLines, lw, le, Nat.zero_le, Nat.sub_zero, take_app3, set_get, take_set, List.length_set, List.map_set, reduceIte, reduceCtorEq, Nat.reduceEqDiff, Nat.reduceAdd, Nat.reduceLeDiff, Nat.reduceSub, Nat.reduceLT, Int.reduceEq, Int.reduceLT, Int.reduceLE, Int.reduceToNat, Int.reduceAdd, Int.reduceSub, Int.reduceMul, Int.reduceNeg, Int.cast_ofNat_Int]
     · replace T := T.2 c41
       obtain ⟨p42, v29, q43, r30, q44, p45, p46, T⟩ := T
       simp only [R_ref10_Up, le] at q44
       by_cases c47 : i21 = (2 * (((r30.length : Nat) : Int) - 1))
       · replace T := T.1 c47
         obtain ⟨p48, T⟩ := T
         try simp only [h, p1, p2, q3, eq_false c4, p30, p31, eq_false c32, p33, p34, p35.wrap, p36, p37, p38, p39, q40, eq_false c41, p42, q43, q44, p45.wrap, p46.wrap, eq_true c47, p48.wrap, U_law26_ReportLines, lw, le, Nat.zero_le, Nat.sub_zero, take_app3, set_get, take_set, List.length_set, List.map_set, reduceIte, reduceCtorEq, Nat.reduceEqDiff, Nat.reduceAdd, Nat.reduceLeDiff, Nat.reduceSub, Nat.reduceLT, Int.reduceEq, Int.reduceLT, Int.reduceLE, Int.reduceToNat, Int.reduceAdd, Int.reduceSub, Int.reduceMul, Int.reduceNeg, Int.cast_ofNat_Int]
         refine T S _ _ ?_
         simp only [h, p1, p2, q3, eq_false c4, p30, p31, eq_false c32, p33, p34, p35.wrap, p36, p37, p38, p39, q40, eq_false c41, p42, q43, q44, p45.wrap, p46.wrap, eq_true c47, p48.wrap, U_law26_ReportLines, lw, le, Nat.zero_le, Nat.sub_zero, take_app3, set_get, take_set, List.length_set, List.map_set, reduceIte, reduceCtorEq, Nat.reduceEqDiff, Nat.reduceAdd, Nat.reduceLeDiff, Nat.reduceSub, Nat.reduceLT, Int.reduceEq, Int.reduceLT, Int.reduceLE, Int.reduceToNat, Int.reduceAdd, Int.reduceSub, Int.reduceMul, Int.reduceNeg, Int.cast_ofNat_Int]
       · replace T := T.2 c47
         obtain rfl := T
         simp only [h, p1, p2, q3, eq_false c4, p30, p31, eq_false c32, p33, p34, p35.wrap, p36, p37, p38, p39, q40, eq_false c41, p42, q43, q44, p45.wrap, p46.wrap, eq_false c47, U_law26_ReportLines, lw, le, Nat.zero_le, Nat.sub_zero, take_app3, set_get, take_set, List.length_set, List.map_set, reduceIte, reduceCtorEq, Nat.reduceEqDiff, Nat.reduceAdd, Nat.reduceLeDiff, Nat.reduceSub, Nat.reduceLT, Int.reduceEq, Int.reduceLT, Int.reduceLE, Int.reduceToNat, Int.reduceAdd, Int.reduceSub, Int.reduceMul, Int.reduceNeg, Int.cast_ofNat_Int]
set_option maxHeartbeats 4000000 in
theorem law26_ReportLines_tree (ns : List UInt8) (ss : List UInt8) (some_ : UInt8) (r : Bool) (T :
  ((60 < ((ns.length : Nat) : Int)) →
  ∃ (r1 : Bool), (R_law26_awake r1) ∧
  r1 = r) ∧
 (¬ (60 < ((ns.length : Nat) : Int)) →
  ((60 < ((ss.length : Nat) : Int)) →
   ∃ (r2 : Bool), (R_law26_awake r2) ∧
   r2 = r) ∧
  (¬ (60 < ((ss.length : Nat) : Int)) →
   ∃ (r3 : List Mark) (r4 : List Item), (R_law18_Live ns some_ r3 r4) ∧
   At_law26_ReportLines_4 ss r3 r4 0 [] r))) : R_law26_ReportLines ns ss some_ r := by
 intro S
 rw [call_code sp_law26_ReportLines _ _ rfl]
 by_cases c1 : 60 < ((ns.length : Nat) : Int)
 · replace T := T.1 c1
   obtain ⟨r1, q2, rfl⟩ := T
   simp only [R_law26_awake, le] at q2
   simp only [eq_true c1, q2, U_law26_ReportLines, lw, le, Nat.zero_le, Nat.sub_zero, take_app3, set_get, take_set, List.length_set, List.map_set, reduceIte, reduceCtorEq, Nat.reduceEqDiff, Nat.reduceAdd, Nat.reduceLeDiff, Nat.reduceSub, Nat.reduceLT, Int.reduceEq, Int.reduceLT, Int.reduceLE, Int.reduceToNat, Int.reduceAdd, Int.reduceSub, Int.reduceMul, Int.reduceNeg, Int.cast_ofNat_Int]
 · replace T := T.2 c1
   by_cases c3 : 60 < ((ss.length : Nat) : Int)
   · replace T := T.1 c3
     obtain ⟨r2, q4, rfl⟩ := T
     simp only [R_law26_awake, le] at q4
     simp only [eq_false c1, eq_true c3, q4, U_law26_ReportLines, lw, le, Nat.zero_le, Nat.sub_zero, take_app3, set_get, take_set, List.length_set, List.map_set, reduceIte, reduceCtorEq, Nat.reduceEqDiff, Nat.reduceAdd, Nat.reduceLeDiff, Nat.reduceSub, Nat.reduceLT, Int.reduceEq, Int.reduceLT, Int.reduceLE, Int.reduceToNat, Int.reduceAdd, Int.reduceSub, Int.reduceMul, Int.reduceNeg, Int.cast_ofNat_Int]
   · replace T := T.2 c3
     obtain ⟨r3, r4, q5, T⟩ := T
     simp only [R_law18_Live, le] at q5
     try simp only [eq_false c1, eq_false c3, q5, U_law26_ReportLines, lw, le, Nat.zero_le, Nat.sub_zero, take_app3, set_get, take_set, List.length_set, List.map_set, reduceIte, reduceCtorEq, Nat.reduceEqDiff, Nat.reduceAdd, Nat.reduceLeDiff, Nat.reduceSub, Nat.reduceLT, Int.reduceEq, Int.reduceLT, Int.reduceLE, Int.reduceToNat, Int.reduceAdd, Int.reduceSub, Int.reduceMul, Int.reduceNeg, Int.cast_ofNat_Int]
     refine T S _ _ ?_
     simp only [eq_false c1, eq_false c3, q5, U_law26_ReportLines, lw, le, Nat.zero_le, Nat.sub_zero, take_app3, set_get, take_set, List.length_set, List.map_set, reduceIte, reduceCtorEq, Nat.reduceEqDiff, Nat.reduceAdd, Nat.reduceLeDiff, Nat.reduceSub, Nat.reduceLT, Int.reduceEq, Int.reduceLT, Int.reduceLE, Int.reduceToNat, Int.reduceAdd, Int.reduceSub, Int.reduceMul, Int.reduceNeg, Int.cast_ofNat_Int]
end Go.Proofs.YtebflncfgjnkkaaDoor.M
