/- Parts of a proof, one behind another: Lt3, Wr1, Wr2, Wr3, Wr4, Wr5, Wr6, Wr7, Wr8, Sc4. -/
import Derived.Test.YtebflncfgjnkkaaDoorZReportLines3
import Derived.Test.YtebflncfgjnkkaaDoorProg
import Derived.KernelRfl
/- Trees of functions, printed by a program of this session (lift.py): what a run asks, over plain data. Lean proves each. -/
namespace Go.Proofs.YtebflncfgjnkkaaDoor.M
set_option linter.unusedSimpArgs false
set_option linter.unusedVariables false
open Go Classical
theorem sp_report_writer_put : SP 85 = some (.code sc_report_writer_put) := SPof_code rfl Tryd.func85 comp_report_writer_put
/-! (*doorkeeper/report.writer).put -/
def At_report_writer_put_1 (l_ : List (List UInt8)) (i1 : Int) (w2 : writer) (g3 : Nat) (z4 : Bool) (w' : writer) (w'_g0 : Nat) (w'_z0 : Bool) : Prop := ∀ (S : Sto) (e : Nat → PV) (f : Fr) (n0 t0 : Nat), ((getBox S n0 t0).map (List.take 1) = some [.sl 0 (.cell t0 0) 0 w2.out.length w2.out.length g3 false] ∧ getArr S n0 (.cell t0 0) = some ⟨1, w2.out.map eB, z4, g3⟩) → e 0 = .ptr (n0 + 1) t0 0 ∧ e 6 = .list 1 (l_.map eS) false ∧ e 7 = .int .i64 ((l_.length : Nat) : Int) ∧ e 8 = .int .i64 i1 → k_report_writer_put_1 SP (E SP (.loop b_report_writer_put_1) ⟨e, f :: S⟩) = .ok (.v (.tup [])) (setArr (setBox S n0 t0 ([.sl 0 (.cell t0 0) 0 w'.out.length w'.out.length w'_g0 false] ++ ((getBox S n0 t0).getD []).drop 1)) n0 (.cell t0 0) ⟨1, w'.out.map eB, w'_z0, w'_g0⟩)
set_option maxHeartbeats 4000000 in
theorem At_report_writer_put_1_step (l_ : List (List UInt8)) (i1 : Int) (w2 : writer) (g3 : Nat) (z4 : Bool) (w' : writer) (w'_g0 : Nat) (w'_z0 : Bool) (T :
  ((i1 < ((l_.length : Nat) : Int)) →
  (0 ≤ i1) ∧
  ∃ (v5 : List UInt8), (l_[i1.toNat]? = some v5) ∧
  (bigRow (w2.out.length + v5.length) 1) ∧
  (I64 (i1 + 1)) ∧
  At_report_writer_put_1 l_ (i1 + 1) (writer.mk (w2.out ++ v5)) g3 z4 w' w'_g0 w'_z0) ∧
 (¬ (i1 < ((l_.length : Nat) : Int)) →
  w2 = w' ∧ g3 = w'_g0 ∧ z4 = w'_z0)) : At_report_writer_put_1 l_ i1 w2 g3 z4 w' w'_g0 w'_z0 := by
 intro S e f n0 t0 H0 h
 obtain ⟨hb0, ha0⟩ := H0
 obtain ⟨w0, hB0⟩ := take_some hb0
 have hn0 := o_getBox_lt hB0
 unfold k_report_writer_put_1
 rw [E_loop]
 by_cases c1 : i1 < ((l_.length : Nat) : Int)
 · replace T := T.1 c1
   obtain ⟨p2, v5, q3, p4, p5, T⟩ := T
   simp only [bigRow] at p4
   try simp only [ha0, hB0, hn0, h, eq_true c1, p2, q3, p4, p5.wrap, U_report_writer_put, lw, le, Nat.zero_le, Nat.sub_zero, take_app3, set_get, take_set, List.length_set, List.map_set, reduceIte, reduceCtorEq, Nat.reduceEqDiff, Nat.reduceAdd, Nat.reduceLeDiff, Nat.reduceSub, Nat.reduceLT, Int.reduceEq, Int.reduceLT, Int.reduceLE, Int.reduceToNat, Int.reduceAdd, Int.reduceSub, Int.reduceMul, Int.reduceNeg, Int.cast_ofNat_Int]
   refine (T _ _ _ n0 t0 ?_ ?_).trans ?_
   all_goals simp only [ha0, hB0, hn0, h, eq_true c1, p2, q3, p4, p5.wrap, U_report_writer_put, lw, le, Nat.zero_le, Nat.sub_zero, take_app3, set_get, take_set, List.length_set, List.map_set, reduceIte, reduceCtorEq, Nat.reduceEqDiff, Nat.reduceAdd, Nat.reduceLeDiff, Nat.reduceSub, Nat.reduceLT, Int.reduceEq, Int.reduceLT, Int.reduceLE, Int.reduceToNat, Int.reduceAdd, Int.reduceSub, Int.reduceMul, Int.reduceNeg, Int.cast_ofNat_Int]
 · replace T := T.2 c1
   obtain ⟨rfl, rfl, rfl⟩ := T
   simp only [ha0, hB0, hn0, h, eq_false c1, U_report_writer_put, lw, le, Nat.zero_le, Nat.sub_zero, take_app3, set_get, take_set, List.length_set, List.map_set, reduceIte, reduceCtorEq, Nat.reduceEqDiff, Nat.reduceAdd, Nat.reduceLeDiff, Nat.reduceSub, Nat.reduceLT, Int.reduceEq, Int.reduceLT, Int.reduceLE, Int.reduceToNat, Int.reduceAdd, Int.reduceSub, Int.reduceMul, Int.reduceNeg, Int.cast_ofNat_Int]
set_option maxHeartbeats 4000000 in
theorem report_writer_put_tree (w : writer) (w_g0 : Nat) (w_z0 : Bool) (l_ : List (List UInt8)) (w' : writer) (w'_g0 : Nat) (w'_z0 : Bool) (T :
  At_report_writer_put_1 l_ 0 w w_g0 w_z0 w' w'_g0 w'_z0) : R_report_writer_put w w_g0 w_z0 l_ w' w'_g0 w'_z0 := by
 intro S n0 t0 H0
 obtain ⟨hb0, ha0⟩ := H0
 obtain ⟨w0, hB0⟩ := take_some hb0
 have hn0 := o_getBox_lt hB0
 rw [call_code sp_report_writer_put _ _ rfl]
 try simp only [ha0, hB0, hn0, U_report_writer_put, lw, le, Nat.zero_le, Nat.sub_zero, take_app3, set_get, take_set, List.length_set, List.map_set, reduceIte, reduceCtorEq, Nat.reduceEqDiff, Nat.reduceAdd, Nat.reduceLeDiff, Nat.reduceSub, Nat.reduceLT, Int.reduceEq, Int.reduceLT, Int.reduceLE, Int.reduceToNat, Int.reduceAdd, Int.reduceSub, Int.reduceMul, Int.reduceNeg, Int.cast_ofNat_Int]
 refine (T _ _ _ n0 t0 ?_ ?_).trans ?_
 all_goals simp only [ha0, hB0, hn0, U_report_writer_put, lw, le, Nat.zero_le, Nat.sub_zero, take_app3, set_get, take_set, List.length_set, List.map_set, reduceIte, reduceCtorEq, Nat.reduceEqDiff, Nat.reduceAdd, Nat.reduceLeDiff, Nat.reduceSub, Nat.reduceLT, Int.reduceEq, Int.reduceLT, Int.reduceLE, Int.reduceToNat, Int.reduceAdd, Int.reduceSub, Int.reduceMul, Int.reduceNeg, Int.cast_ofNat_Int]
theorem sp_vec_Text : SP 20 = some (.code sc_vec_Text) := SPof_code rfl Tryd.func20 comp_vec_Text
/-! doorkeeper/vec.Text -/
set_option maxHeartbeats 4000000 in
theorem vec_Text_tree (v : Vec) (r : List UInt8) (T :
  ∃ (r1 : List UInt8), (R_strconv_Itoa v.Cpu r1) ∧
 (4 + r1.length ≤ maxInt) ∧
 (r1.length + 1 + 1 + 1 + 1 + 5 ≤ maxInt) ∧
 ∃ (r2 : List UInt8), (R_strconv_Itoa v.Mem r2) ∧
 (r1.length + 5 + 1 + 1 + 1 + 1 + r2.length ≤ maxInt) ∧
 (r1.length + 5 + r2.length + 1 + 1 + 1 + 1 + 6 ≤ maxInt) ∧
 ∃ (r3 : List UInt8), (R_strconv_Itoa v.Pods r3) ∧
 (r1.length + 5 + r2.length + 6 + 1 + 1 + 1 + 1 + r3.length ≤ maxInt) ∧
 ((((([99, 112, 117, 61] ++ r1) ++ [32, 109, 101, 109, 61]) ++ r2) ++ [32, 112, 111, 100, 115, 61]) ++ r3) = r) : R_vec_Text v r := by
 intro S
 rw [call_code sp_vec_Text _ _ rfl]
 obtain ⟨r1, q1, p2, p3, r2, q4, p5, p6, r3, q7, p8, rfl⟩ := T
 simp only [R_strconv_Itoa, le] at q1
 simp only [R_strconv_Itoa, le] at q4
 simp only [R_strconv_Itoa, le] at q7
 simp only [q1, p2, p3, q4, p5, p6, q7, p8, U_vec_Text, lw, le, Nat.zero_le, Nat.sub_zero, take_app3, set_get, take_set, List.length_set, List.map_set, reduceIte, reduceCtorEq, Nat.reduceEqDiff, Nat.reduceAdd, Nat.reduceLeDiff, Nat.reduceSub, Nat.reduceLT, Int.reduceEq, Int.reduceLT, Int.reduceLE, Int.reduceToNat, Int.reduceAdd, Int.reduceSub, Int.reduceMul, Int.reduceNeg, Int.cast_ofNat_Int]
theorem sp_report_where : SP 86 = some (.code sc_report_where) := SPof_code rfl Tryd.func86 comp_report_where
/-! doorkeeper/report.where -/
set_option maxHeartbeats 4000000 in
theorem report_where_tree (parent : List UInt8) (r : List UInt8) (T :
  ((parent = []) →
  [47] = r) ∧
 (¬ (parent = []) →
  parent = r)) : R_report_where parent r := by
 intro S
 rw [call_code sp_report_where _ _ rfl]
 by_cases c1 : parent = []
 · replace T := T.1 c1
   obtain rfl := T
   simp only [eq_true c1, U_report_where, lw, le, Nat.zero_le, Nat.sub_zero, take_app3, set_get, take_set, List.length_set, List.map_set, reduceIte, reduceCtorEq, Nat.reduceEqDiff, Nat.reduceAdd, Nat.reduceLeDiff, Nat.reduceSub, Nat.reduceLT, Int.reduceEq, Int.reduceLT, Int.reduceLE, Int.reduceToNat, Int.reduceAdd, Int.reduceSub, Int.reduceMul, Int.reduceNeg, Int.cast_ofNat_Int]
 · replace T := T.2 c1
   obtain rfl := T
   simp only [eq_false c1, U_report_where, lw, le, Nat.zero_le, Nat.sub_zero, take_app3, set_get, take_set, List.length_set, List.map_set, reduceIte, reduceCtorEq, Nat.reduceEqDiff, Nat.reduceAdd, Nat.reduceLeDiff, Nat.reduceSub, Nat.reduceLT, Int.reduceEq, Int.reduceLT, Int.reduceLE, Int.reduceToNat, Int.reduceAdd, Int.reduceSub, Int.reduceMul, Int.reduceNeg, Int.cast_ofNat_Int]
theorem sp_report_Step : SP 51 = some (.code sc_report_Step) := SPof_code rfl Tryd.func51 comp_report_Step
/-! doorkeeper/report.Step -/
set_option maxHeartbeats 4000000 in
theorem report_Step_tree (s : PStep) (r : List UInt8) (T :
  ((s.Kind = 1) →
  (7 + s.Name.length ≤ maxInt) ∧
  (s.Name.length + 1 + 1 + 1 + 1 + 1 + 1 + 1 + 4 ≤ maxInt) ∧
  ∃ (r1 : List UInt8), (R_report_where s.Parent r1) ∧
  (s.Name.length + 4 + 1 + 1 + 1 + 1 + 1 + 1 + 1 + r1.length ≤ maxInt) ∧
  (s.Name.length + 4 + r1.length + 1 + 1 + 1 + 1 + 1 + 1 + 1 + 6 ≤ maxInt) ∧
  ∃ (r2 : List UInt8), (R_vec_Text s.Limit r2) ∧
  (s.Name.length + 4 + r1.length + 6 + 1 + 1 + 1 + 1 + 1 + 1 + 1 + r2.length ≤ maxInt) ∧
  ((((([99, 114, 101, 97, 116, 101, 32] ++ s.Name) ++ [32, 105, 110, 32]) ++ r1) ++ [32, 119, 105, 116, 104, 32]) ++ r2) = r) ∧
 (¬ (s.Kind = 1) →
  ((s.Kind = 2) →
   (6 + s.Name.length ≤ maxInt) ∧
   (s.Name.length + 1 + 1 + 1 + 1 + 1 + 1 + 4 ≤ maxInt) ∧
   ∃ (r3 : List UInt8), (R_vec_Text s.Limit r3) ∧
   (s.Name.length + 4 + 1 + 1 + 1 + 1 + 1 + 1 + r3.length ≤ maxInt) ∧
   ((([108, 105, 109, 105, 116, 32] ++ s.Name) ++ [32, 116, 111, 32]) ++ r3) = r) ∧
  (¬ (s.Kind = 2) →
   ((s.Kind = 3) →
    (5 + s.Name.length ≤ maxInt) ∧
    (s.Name.length + 1 + 1 + 1 + 1 + 1 + 4 ≤ maxInt) ∧
    ∃ (r4 : List UInt8), (R_report_where s.Parent r4) ∧
    (s.Name.length + 4 + 1 + 1 + 1 + 1 + 1 + r4.length ≤ maxInt) ∧
    ((([109, 111, 118, 101, 32] ++ s.Name) ++ [32, 116, 111, 32]) ++ r4) = r) ∧
   (¬ (s.Kind = 3) →
    ((s.Kind = 4) →
     (7 + s.Name.length ≤ maxInt) ∧
     ([100, 101, 108, 101, 116, 101, 32] ++ s.Name) = r) ∧
    (¬ (s.Kind = 4) →
     s.Name = r))))) : R_report_Step s r := by
 intro S
 rw [call_code sp_report_Step _ _ rfl]
 by_cases c1 : s.Kind = 1
 · replace T := T.1 c1
   obtain ⟨p2, p3, r1, q4, p5, p6, r2, q7, p8, rfl⟩ := T
   simp only [R_report_where, le] at q4
   simp only [R_vec_Text, le] at q7
   simp only [eq_true c1, p2, p3, q4, p5, p6, q7, p8, U_report_Step, lw, le, Nat.zero_le, Nat.sub_zero, take_app3, set_get, take_set, List.length_set, List.map_set, reduceIte, reduceCtorEq, Nat.reduceEqDiff, Nat.reduceAdd, Nat.reduceLeDiff, Nat.reduceSub, Nat.reduceLT, Int.reduceEq, Int.reduceLT, Int.reduceLE, Int.reduceToNat, Int.reduceAdd, Int.reduceSub, Int.reduceMul, Int.reduceNeg, Int.cast_ofNat_Int]
 · replace T := T.2 c1
   by_cases c9 : s.Kind = 2
   · replace T := T.1 c9
     obtain ⟨p10, p11, r3, q12, p13, rfl⟩ := T
     simp only [R_vec_Text, le] at q12
     simp only [eq_false c1, eq_true c9, p10, p11, q12, p13, U_report_Step, lw, le, Nat.zero_le, Nat.sub_zero, take_app3, set_get, take_set, List.length_set, List.map_set, reduceIte, reduceCtorEq, Nat.reduceEqDiff, Nat.reduceAdd, Nat.reduceLeDiff, Nat.reduceSub, Nat.reduceLT, Int.reduceEq, Int.reduceLT, Int.reduceLE, Int.reduceToNat, Int.reduceAdd, Int.reduceSub, Int.reduceMul, Int.reduceNeg, Int.cast_ofNat_Int]
   · replace T := T.2 c9
     by_cases c14 : s.Kind = 3
     · replace T := T.1 c14
       obtain ⟨p15, p16, r4, q17, p18, rfl⟩ := T
       simp only [R_report_where, le] at q17
       simp only [eq_false c1, eq_false c9, eq_true c14, p15, p16, q17, p18, U_report_Step, lw, le, Nat.zero_le, Nat.sub_zero, take_app3, set_get, take_set, List.length_set, List.map_set, reduceIte, reduceCtorEq, Nat.reduceEqDiff, Nat.reduceAdd, Nat.reduceLeDiff, Nat.reduceSub, Nat.reduceLT, Int.reduceEq, Int.reduceLT, Int.reduceLE, Int.reduceToNat, Int.reduceAdd, Int.reduceSub, Int.reduceMul, Int.reduceNeg, Int.cast_ofNat_Int]
     · replace T := T.2 c14
       by_cases c19 : s.Kind = 4
       · replace T := T.1 c19
         obtain ⟨p20, rfl⟩ := T
         simp only [eq_false c1, eq_false c9, eq_false c14, eq_true c19, p20, U_report_Step, lw, le, Nat.zero_le, Nat.sub_zero, take_app3, set_get, take_set, List.length_set, List.map_set, reduceIte, reduceCtorEq, Nat.reduceEqDiff, Nat.reduceAdd, Nat.reduceLeDiff, Nat.reduceSub, Nat.reduceLT, Int.reduceEq, Int.reduceLT, Int.reduceLE, Int.reduceToNat, Int.reduceAdd, Int.reduceSub, Int.reduceMul, Int.reduceNeg, Int.cast_ofNat_Int]
       · replace T := T.2 c19
         obtain rfl := T
         simp only [eq_false c1, eq_false c9, eq_false c14, eq_false c19, U_report_Step, lw, le, Nat.zero_le, Nat.sub_zero, take_app3, set_get, take_set, List.length_set, List.map_set, reduceIte, reduceCtorEq, Nat.reduceEqDiff, Nat.reduceAdd, Nat.reduceLeDiff, Nat.reduceSub, Nat.reduceLT, Int.reduceEq, Int.reduceLT, Int.reduceLE, Int.reduceToNat, Int.reduceAdd, Int.reduceSub, Int.reduceMul, Int.reduceNeg, Int.cast_ofNat_Int]
theorem sp_report_Steps : SP 49 = some (.code sc_report_Steps) := SPof_code rfl Tryd.func49 comp_report_Steps
/-! doorkeeper/report.Steps -/
def At_report_Steps_1 (l_ : List PStep) (i1 : Int) (l2 : List UInt8) (g3 : Nat) (z4 : Bool) (r : List UInt8) : Prop := ∀ (S : Sto) (e : Nat → PV) (f : Fr), e 3 = .ptr 0 7 0 ∧ e 8 = .list 6 (l_.map ePStep) false ∧ e 9 = .int .i64 ((l_.length : Nat) : Int) ∧ e 10 = .int .i64 i1 ∧ f.box 7 = some [.sl 0 (.cell 7 0) 0 l2.length l2.length g3 false] ∧ f.arr (.cell 7 0) = some ⟨1, l2.map eB, z4, g3⟩ → k_report_Steps_1 SP (E SP (.loop b_report_Steps_1) ⟨e, f :: S⟩) = .ok (.v (.str r)) S
set_option maxHeartbeats 4000000 in
theorem At_report_Steps_1_step (l_ : List PStep) (i1 : Int) (l2 : List UInt8) (g3 : Nat) (z4 : Bool) (r : List UInt8) (T :
  ((i1 < ((l_.length : Nat) : Int)) →
  (0 ≤ i1) ∧
  ∃ (v5 : PStep), (l_[i1.toNat]? = some v5) ∧
  (I64 (i1 + 1)) ∧
  ∃ (r6 : List UInt8), (R_strconv_Itoa (i1 + 1) r6) ∧
  ∃ (r7 : List UInt8), (R_report_Step v5 r7) ∧
  ∃ (y8 : writer) (g9 : Nat) (z10 : Bool), (R_report_writer_put (writer.mk l2) g3 z4 [r6, [46, 32], r7, [10]] y8 g9 z10) ∧
  (I64 (i1 + 1)) ∧
  At_report_Steps_1 l_ (i1 + 1) y8.out g9 z10 r) ∧
 (¬ (i1 < ((l_.length : Nat) : Int)) →
  l2 = r)) : At_report_Steps_1 l_ i1 l2 g3 z4 r := by
 intro S e f h
 unfold k_report_Steps_1
 rw [E_loop]
 by_cases c1 : i1 < ((l_.length : Nat) : Int)
 · replace T := T.1 c1
   obtain ⟨p2, v5, q3, p4, r6, q5, r7, q6, y8, g9, z10, q7, p8, T⟩ := T
   simp only [R_strconv_Itoa, le] at q5
   simp only [R_report_Step, le] at q6
   simp only [R_report_writer_put, le] at q7
   try simp only [h, eq_true c1, p2, q3, p4.wrap, q5, q6, q7, p8.wrap, U_report_Steps, lw, le, Nat.zero_le, Nat.sub_zero, take_app3, set_get, take_set, List.length_set, List.map_set, reduceIte, reduceCtorEq, Nat.reduceEqDiff, Nat.reduceAdd, Nat.reduceLeDiff, Nat.reduceSub, Nat.reduceLT, Int.reduceEq, Int.reduceLT, Int.reduceLE, Int.reduceToNat, Int.reduceAdd, Int.reduceSub, Int.reduceMul, Int.reduceNeg, Int.cast_ofNat_Int]
   refine T S _ _ ?_
   simp only [h, eq_true c1, p2, q3, p4.wrap, q5, q6, q7, p8.wrap, U_report_Steps, lw, le, Nat.zero_le, Nat.sub_zero, take_app3, set_get, take_set, List.length_set, List.map_set, reduceIte, reduceCtorEq, Nat.reduceEqDiff, Nat.reduceAdd, Nat.reduceLeDiff, Nat.reduceSub, Nat.reduceLT, Int.reduceEq, Int.reduceLT, Int.reduceLE, Int.reduceToNat, Int.reduceAdd, Int.reduceSub, Int.reduceMul, Int.reduceNeg, Int.cast_ofNat_Int]
 · replace T := T.2 c1
   obtain rfl := T
   simp only [h, eq_false c1, U_report_Steps, lw, le, Nat.zero_le, Nat.sub_zero, take_app3, set_get, take_set, List.length_set, List.map_set, reduceIte, reduceCtorEq, Nat.reduceEqDiff, Nat.reduceAdd, Nat.reduceLeDiff, Nat.reduceSub, Nat.reduceLT, Int.reduceEq, Int.reduceLT, Int.reduceLE, Int.reduceToNat, Int.reduceAdd, Int.reduceSub, Int.reduceMul, Int.reduceNeg, Int.cast_ofNat_Int]
set_option maxHeartbeats 4000000 in
theorem report_Steps_tree (l_ : List PStep) (r : List UInt8) (T :
  At_report_Steps_1 l_ 0 [] 0 false r) : R_report_Steps l_ r := by
 intro S
 rw [call_code sp_report_Steps _ _ rfl]
 try simp only [U_report_Steps, lw, le, Nat.zero_le, Nat.sub_zero, take_app3, set_get, take_set, List.length_set, List.map_set, reduceIte, reduceCtorEq, Nat.reduceEqDiff, Nat.reduceAdd, Nat.reduceLeDiff, Nat.reduceSub, Nat.reduceLT, Int.reduceEq, Int.reduceLT, Int.reduceLE, Int.reduceToNat, Int.reduceAdd, Int.reduceSub, Int.reduceMul, Int.reduceNeg, Int.cast_ofNat_Int]
 refine T S _ _ ?_
 simp only [U_report_Steps, lw, le, Nat.zero_le, Nat.sub_zero, take_app3, set_get, take_set, List.length_set, List.map_set, reduceIte, reduceCtorEq, Nat.reduceEqDiff, Nat.reduceAdd, Nat.reduceLeDiff, Nat.reduceSub, Nat.reduceLT, Int.reduceEq, Int.reduceLT, Int.reduceLE, Int.reduceToNat, Int.reduceAdd, Int.reduceSub, Int.reduceMul, Int.reduceNeg, Int.cast_ofNat_Int]
theorem sp_tree_Find_1 : SP 113 = some (.code sc_tree_Find_1) := SPof_code rfl Tryd.func113 comp_tree_Find_1
/-! doorkeeper/tree.Find$1 -/
set_option maxHeartbeats 4000000 in
theorem tree_Find_1_tree (x : Item) (c0_ : List UInt8) (r : Bool) (T :
  (decide (x.Name = c0_)) = r) : R_tree_Find_1 x c0_ r := by
 intro S n1 t1 H0
 have hb0 := H0
 obtain ⟨w0, hB0⟩ := take_some hb0
 have hn0 := o_getBox_lt hB0
 rw [call_code sp_tree_Find_1 _ _ rfl]
 obtain rfl := T
 simp only [hB0, hn0, U_tree_Find_1, lw, le, Nat.zero_le, Nat.sub_zero, take_app3, set_get, take_set, List.length_set, List.map_set, reduceIte, reduceCtorEq, Nat.reduceEqDiff, Nat.reduceAdd, Nat.reduceLeDiff, Nat.reduceSub, Nat.reduceLT, Int.reduceEq, Int.reduceLT, Int.reduceLE, Int.reduceToNat, Int.reduceAdd, Int.reduceSub, Int.reduceMul, Int.reduceNeg, Int.cast_ofNat_Int]
theorem sp_tree_Find : SP 100 = some (.code sc_tree_Find) := SPof_code rfl Tryd.func100 comp_tree_Find
/-! doorkeeper/tree.Find -/
theorem H_slices_IndexFunc_api_Item_api_Item_tree_Find_1 {xs : List Item} {c0 : List UInt8} {p : Item → Bool} (hl : xs.length < 9223372036854775808) (hp : ∀ x, x ∈ xs → R_tree_Find_1 x c0 (p x)) : ∀ (S : Sto) (n0 : Nat) (t0 : Nat), (getBox S n0 t0).map (List.take 1) = some [.str c0] → call SP 112 [.list 12 (xs.map eItem) false, .func 113 [.ptr n0 t0 0]] S = .ok (.v (.int .i64 (findI p 0 xs))) S := by
 intro S n0 t0 h0
 refine G_slices_IndexFunc_api_Item_api_Item xs 113 [.ptr n0 t0 0] p S hl (by intro S; rfl) (by rfl) (by intro a; rfl) ?_
 intro x hx f
 have := hp x hx (f :: S) (n0 + 1) t0 (by simpa only [lw] using h0)
 simpa only [PV.upL, PV.up] using this
set_option maxHeartbeats 4000000 in
theorem tree_Find_tree (l_ : List Item) (name : List UInt8) (r : Int) (T :
  (l_.length < 9223372036854775808) ∧
 ∃ (pp1 : Item → Bool), (∀ x, x ∈ l_ → R_tree_Find_1 x name (pp1 x)) ∧
 (findI pp1 0 l_) = r) : R_tree_Find l_ name r := by
 intro S
 rw [call_code sp_tree_Find _ _ rfl]
 obtain ⟨p1, pp1, q2, rfl⟩ := T
 have o2 := H_slices_IndexFunc_api_Item_api_Item_tree_Find_1  p1 q2
 try simp only [le] at o2
 simp only [p1, o2, U_tree_Find, lw, le, Nat.zero_le, Nat.sub_zero, take_app3, set_get, take_set, List.length_set, List.map_set, reduceIte, reduceCtorEq, Nat.reduceEqDiff, Nat.reduceAdd, Nat.reduceLeDiff, Nat.reduceSub, Nat.reduceLT, Int.reduceEq, Int.reduceLT, Int.reduceLE, Int.reduceToNat, Int.reduceAdd, Int.reduceSub, Int.reduceMul, Int.reduceNeg, Int.cast_ofNat_Int]
theorem sp_tree_Below : SP 99 = some (.code sc_tree_Below) := SPof_code rfl Tryd.func99 comp_tree_Below
/-! doorkeeper/tree.Below -/
def At_tree_Below_1 (l_ : List Item) (name : List UInt8) (i1 : Int) (l2 : List (List UInt8)) (r : List (List UInt8)) : Prop := ∀ (S : Sto) (e : Nat → PV) (f : Fr), e 1 = .str name ∧ e 5 = .sl 0 (.slot 5) 0 l2.length l2.length 0 false ∧ e 8 = .list 12 (l_.map eItem) false ∧ e 9 = .int .i64 ((l_.length : Nat) : Int) ∧ e 10 = .int .i64 i1 ∧ f.arr (.slot 5) = some ⟨1, l2.map eS, false, 0⟩ → k_tree_Below_1 SP (E SP (.loop b_tree_Below_1) ⟨e, f :: S⟩) = .ok (.arr 1 (r.map eS) false) S
set_option maxHeartbeats 4000000 in
theorem At_tree_Below_1_step (l_ : List Item) (name : List UInt8) (i1 : Int) (l2 : List (List UInt8)) (r : List (List UInt8)) (T :
  ((i1 < ((l_.length : Nat) : Int)) →
  (0 ≤ i1) ∧
  ∃ (v3 : Item), (l_[i1.toNat]? = some v3) ∧
  ((v3.Parent = name) →
   (bigRow (l2.length + 1) 16) ∧
   (I64 (i1 + 1)) ∧
   At_tree_Below_1 l_ name (i1 + 1) (l2 ++ [v3.Name]) r) ∧
  (¬ (v3.Parent = name) →
   (I64 (i1 + 1)) ∧
   At_tree_Below_1 l_ name (i1 + 1) l2 r)) ∧
 (¬ (i1 < ((l_.length : Nat) : Int)) →
  l2 = r)) : At_tree_Below_1 l_ name i1 l2 r := by
 intro S e f h
 unfold k_tree_Below_1
 rw [E_loop]
 by_cases c1 : i1 < ((l_.length : Nat) : Int)
 · replace T := T.1 c1
   obtain ⟨p2, v3, q3, T⟩ := T
   by_cases c4 : v3.Parent = name
   · replace T := T.1 c4
     obtain ⟨p5, p6, T⟩ := T
     simp only [bigRow] at p5
     try simp only [h, eq_true c1, p2, q3, eq_true c4, p5, p6.wrap, U_tree_Below, lw, le, Nat.zero_le, Nat.sub_zero, take_app3, set_get, take_set, List.length_set, List.map_set, reduceIte, reduceCtorEq, Nat.reduceEqDiff, Nat.reduceAdd, Nat.reduceLeDiff, Nat.reduceSub, Nat.reduceLT, Int.reduceEq, Int.reduceLT, Int.reduceLE, Int.reduceToNat, Int.reduceAdd, Int.reduceSub, Int.reduceMul, Int.reduceNeg, Int.cast_ofNat_Int]
     refine T S _ _ ?_
     simp only [h, eq_true c1, p2, q3, eq_true c4, p5, p6.wrap, U_tree_Below, lw, le, Nat.zero_le, Nat.sub_zero, take_app3, set_get, take_set, List.length_set, List.map_set, reduceIte, reduceCtorEq, Nat.reduceEqDiff, Nat.reduceAdd, Nat.reduceLeDiff, Nat.reduceSub, Nat.reduceLT, Int.reduceEq, Int.reduceLT, Int.reduceLE, Int.reduceToNat, Int.reduceAdd, Int.reduceSub, Int.reduceMul, Int.reduceNeg, Int.cast_ofNat_Int]
   · replace T := T.2 c4
     obtain ⟨p7, T⟩ := T
     try simp only [h, eq_true c1, p2, q3, eq_false c4, p7.wrap, U_tree_Below, lw, le, Nat.zero_le, Nat.sub_zero, take_app3, set_get, take_set, List.length_set, List.map_set, reduceIte, reduceCtorEq, Nat.reduceEqDiff, Nat.reduceAdd, Nat.reduceLeDiff, Nat.reduceSub, Nat.reduceLT, Int.reduceEq, Int.reduceLT, Int.reduceLE, Int.reduceToNat, Int.reduceAdd, Int.reduceSub, Int.reduceMul, Int.reduceNeg, Int.cast_ofNat_Int]
     refine T S _ _ ?_
     simp only [h, eq_true c1, p2, q3, eq_false c4, p7.wrap, U_tree_Below, lw, le, Nat.zero_le, Nat.sub_zero, take_app3, set_get, take_set, List.length_set, List.map_set, reduceIte, reduceCtorEq, Nat.reduceEqDiff, Nat.reduceAdd, Nat.reduceLeDiff, Nat.reduceSub, Nat.reduceLT, Int.reduceEq, Int.reduceLT, Int.reduceLE, Int.reduceToNat, Int.reduceAdd, Int.reduceSub, Int.reduceMul, Int.reduceNeg, Int.cast_ofNat_Int]
 · replace T := T.2 c1
   obtain rfl := T
   simp only [h, eq_false c1, U_tree_Below, lw, le, Nat.zero_le, Nat.sub_zero, take_app3, set_get, take_set, List.length_set, List.map_set, reduceIte, reduceCtorEq, Nat.reduceEqDiff, Nat.reduceAdd, Nat.reduceLeDiff, Nat.reduceSub, Nat.reduceLT, Int.reduceEq, Int.reduceLT, Int.reduceLE, Int.reduceToNat, Int.reduceAdd, Int.reduceSub, Int.reduceMul, Int.reduceNeg, Int.cast_ofNat_Int]
set_option maxHeartbeats 4000000 in
theorem tree_Below_tree (l_ : List Item) (name : List UInt8) (r : List (List UInt8)) (T :
  At_tree_Below_1 l_ name 0 [] r) : R_tree_Below l_ name r := by
 intro S
 rw [call_code sp_tree_Below _ _ rfl]
 try simp only [U_tree_Below, lw, le, Nat.zero_le, Nat.sub_zero, take_app3, set_get, take_set, List.length_set, List.map_set, reduceIte, reduceCtorEq, Nat.reduceEqDiff, Nat.reduceAdd, Nat.reduceLeDiff, Nat.reduceSub, Nat.reduceLT, Int.reduceEq, Int.reduceLT, Int.reduceLE, Int.reduceToNat, Int.reduceAdd, Int.reduceSub, Int.reduceMul, Int.reduceNeg, Int.cast_ofNat_Int]
 refine T S _ _ ?_
 simp only [U_tree_Below, lw, le, Nat.zero_le, Nat.sub_zero, take_app3, set_get, take_set, List.length_set, List.map_set, reduceIte, reduceCtorEq, Nat.reduceEqDiff, Nat.reduceAdd, Nat.reduceLeDiff, Nat.reduceSub, Nat.reduceLT, Int.reduceEq, Int.reduceLT, Int.reduceLE, Int.reduceToNat, Int.reduceAdd, Int.reduceSub, Int.reduceMul, Int.reduceNeg, Int.cast_ofNat_Int]
theorem sp_report_shower_below_1 : SP 103 = some (.code sc_report_shower_below_1) := SPof_code rfl Tryd.func103 comp_report_shower_below_1
/-! (*doorkeeper/report.shower).below$1 -/
set_option maxHeartbeats 4000000 in
theorem report_shower_below_1_tree (m : Mark) (c0_ : List UInt8) (r : Bool) (T :
  (decide (m.Name = c0_)) = r) : R_report_shower_below_1 m c0_ r := by
 intro S n1 t1 H0
 have hb0 := H0
 obtain ⟨w0, hB0⟩ := take_some hb0
 have hn0 := o_getBox_lt hB0
 rw [call_code sp_report_shower_below_1 _ _ rfl]
 obtain rfl := T
 simp only [hB0, hn0, U_report_shower_below_1, lw, le, Nat.zero_le, Nat.sub_zero, take_app3, set_get, take_set, List.length_set, List.map_set, reduceIte, reduceCtorEq, Nat.reduceEqDiff, Nat.reduceAdd, Nat.reduceLeDiff, Nat.reduceSub, Nat.reduceLT, Int.reduceEq, Int.reduceLT, Int.reduceLE, Int.reduceToNat, Int.reduceAdd, Int.reduceSub, Int.reduceMul, Int.reduceNeg, Int.cast_ofNat_Int]
theorem sp_report_shower_below : SP 89 = some (.code sc_report_shower_below) := SPof_code rfl Tryd.func89 comp_report_shower_below
/-! (*doorkeeper/report.shower).below -/
theorem H_slices_ContainsFunc_api_Mark_api_Mark_report_shower_below_1 {xs : List Mark} {c0 : List UInt8} {p : Mark → Bool} (hl : xs.length < 9223372036854775808) (hp : ∀ x, x ∈ xs → R_report_shower_below_1 x c0 (p x)) : ∀ (S : Sto) (n0 : Nat) (t0 : Nat), (getBox S n0 t0).map (List.take 1) = some [.str c0] → call SP 102 [.list 6 (xs.map eMark) false, .func 103 [.ptr n0 t0 0]] S = .ok (.v (.bool (xs.any p))) S := by
 intro S n0 t0 h0
 refine G_slices_ContainsFunc_api_Mark_api_Mark xs 103 [.ptr n0 t0 0] p S hl (by intro S; rfl) (by rfl) (by intro a; rfl) (by intro S; rfl) (by rfl) (by intro a; rfl) ?_
 intro x hx f f'
 have := hp x hx (f :: f' :: S) (n0 + 1 + 1) t0 (by simpa only [lw] using h0)
 simpa only [PV.upL, PV.up] using this
def At_report_shower_below_1 (deep_ : Int) (r1 : List (List UInt8)) (i2 : Int) (s3 : shower) (g4 : Nat) (z5 : Bool) (s' : shower) (s'_g0 : Nat) (s'_z0 : Bool) : Prop := ∀ (S : Sto) (e : Nat → PV) (f : Fr) (n0 t0 : Nat), ((getBox S n0 t0).map (List.take 3) = some [.sl 0 (.cell t0 0) 0 s3.writer.out.length s3.writer.out.length g4 false, .list 12 (s3.l.map eItem) false, .list 6 (s3.marks.map eMark) false] ∧ getArr S n0 (.cell t0 0) = some ⟨1, s3.writer.out.map eB, z5, g4⟩) → e 0 = .ptr (n0 + 1) t0 0 ∧ e 2 = .int .i64 deep_ ∧ e 21 = .sl 0 (.slot 21) 0 r1.length r1.length 0 false ∧ e 22 = .int .i64 ((r1.length : Nat) : Int) ∧ e 23 = .int .i64 i2 ∧ f.arr (.slot 21) = some ⟨1, r1.map eS, false, 0⟩ → k_report_shower_below_1 SP (E SP (.loop b_report_shower_below_1) ⟨e, f :: S⟩) = .ok (.v (.tup [])) (setArr (setBox S n0 t0 ([.sl 0 (.cell t0 0) 0 s'.writer.out.length s'.writer.out.length s'_g0 false, .list 12 (s'.l.map eItem) false, .list 6 (s'.marks.map eMark) false] ++ ((getBox S n0 t0).getD []).drop 3)) n0 (.cell t0 0) ⟨1, s'.writer.out.map eB, s'_z0, s'_g0⟩)
set_option maxHeartbeats 4000000 in
theorem At_report_shower_below_1_step (deep_ : Int) (r1 : List (List UInt8)) (i2 : Int) (s3 : shower) (g4 : Nat) (z5 : Bool) (s' : shower) (s'_g0 : Nat) (s'_z0 : Bool) (T :
  ((i2 < ((r1.length : Nat) : Int)) →
  (0 ≤ i2) ∧ (i2.toNat < r1.length) ∧
  ∃ (v6 : List UInt8), (r1[i2.toNat]? = some v6) ∧
  ∃ (r7 : Int), (R_tree_Find s3.l v6 r7) ∧
  (0 ≤ r7) ∧
  ∃ (v8 : Item), (s3.l[r7.toNat]? = some v8) ∧
  ∃ (r9 : List UInt8), (R_strings_Repeat [32, 32] deep_ r9) ∧
  ∃ (r10 : List UInt8), (R_vec_Text v8.Sub r10) ∧
  ∃ (r11 : List UInt8), (R_vec_Text v8.Limit r11) ∧
  ∃ (y12 : writer) (g13 : Nat) (z14 : Bool), (R_report_writer_put s3.writer g4 z5 [r9, v6, [32], r10, [32, 111, 102, 32], r11] y12 g13 z14) ∧
  (s3.marks.length < 9223372036854775808) ∧
  ∃ (pp15 : Mark → Bool), (∀ x, x ∈ s3.marks → R_report_shower_below_1 x v6 (pp15 x)) ∧
  (((s3.marks.any pp15) = true) →
   ∃ (y16 : writer) (g17 : Nat) (z18 : Bool), (R_report_writer_put y12 g13 z14 [[32, 42]] y16 g17 z18) ∧
   ∃ (y19 : writer) (g20 : Nat) (z21 : Bool), (R_report_writer_put y16 g17 z18 [[10]] y19 g20 z21) ∧
   (I64 (deep_ + 1)) ∧
   ∃ (y22 : shower) (g23 : Nat) (z24 : Bool), (R_report_shower_below (shower.mk y19 s3.l s3.marks) g20 z21 v6 (deep_ + 1) y22 g23 z24) ∧
   (I64 (i2 + 1)) ∧
   At_report_shower_below_1 deep_ r1 (i2 + 1) y22 g23 z24 s' s'_g0 s'_z0) ∧
  (¬ ((s3.marks.any pp15) = true) →
   ∃ (y25 : writer) (g26 : Nat) (z27 : Bool), (R_report_writer_put y12 g13 z14 [[10]] y25 g26 z27) ∧
   (I64 (deep_ + 1)) ∧
   ∃ (y28 : shower) (g29 : Nat) (z30 : Bool), (R_report_shower_below (shower.mk y25 s3.l s3.marks) g26 z27 v6 (deep_ + 1) y28 g29 z30) ∧
   (I64 (i2 + 1)) ∧
   At_report_shower_below_1 deep_ r1 (i2 + 1) y28 g29 z30 s' s'_g0 s'_z0)) ∧
 (¬ (i2 < ((r1.length : Nat) : Int)) →
  s3 = s' ∧ g4 = s'_g0 ∧ z5 = s'_z0)) : At_report_shower_below_1 deep_ r1 i2 s3 g4 z5 s' s'_g0 s'_z0 := by
 intro S e f n0 t0 H0 h
 obtain ⟨hb0, ha0⟩ := H0
 obtain ⟨w0, hB0⟩ := take_some hb0
 have hn0 := o_getBox_lt hB0
 unfold k_report_shower_below_1
 rw [E_loop]
 by_cases c1 : i2 < ((r1.length : Nat) : Int)
 · replace T := T.1 c1
   obtain ⟨p2, p3, v6, q4, r7, q5, p6, v8, q7, r9, q8, r10, q9, r11, q10, y12, g13, z14, q11, p12, pp15, q13, T⟩ := T
   simp only [R_tree_Find, le] at q5
   simp only [R_strings_Repeat, le] at q8
   simp only [R_vec_Text, le] at q9
   simp only [R_vec_Text, le] at q10
   simp only [R_report_writer_put, le] at q11
   have o13 := H_slices_ContainsFunc_api_Mark_api_Mark_report_shower_below_1  p12 q13
   try simp only [le] at o13
   by_cases c14 : (s3.marks.any pp15) = true
   · replace T := T.1 c14
     obtain ⟨y16, g17, z18, q15, y19, g20, z21, q16, p17, y22, g23, z24, q18, p19, T⟩ := T
     simp only [R_report_writer_put, le] at q15
     simp only [R_report_writer_put, le] at q16
     simp only [R_report_shower_below, le] at q18
     try simp only [ha0, hB0, hn0, h, eq_true c1, p2, p3, q4, q5, p6, q7, q8, q9, q10, q11, p12, o13, c14, q15, q16, p17.wrap, q18, p19.wrap, U_report_shower_below, lw, le, Nat.zero_le, Nat.sub_zero, take_app3, set_get, take_set, List.length_set, List.map_set, reduceIte, reduceCtorEq, Nat.reduceEqDiff, Nat.reduceAdd, Nat.reduceLeDiff, Nat.reduceSub, Nat.reduceLT, Int.reduceEq, Int.reduceLT, Int.reduceLE, Int.reduceToNat, Int.reduceAdd, Int.reduceSub, Int.reduceMul, Int.reduceNeg, Int.cast_ofNat_Int]
     refine (T _ _ _ n0 t0 ?_ ?_).trans ?_
     all_goals simp only [ha0, hB0, hn0, h, eq_true c1, p2, p3, q4, q5, p6, q7, q8, q9, q10, q11, p12, o13, c14, q15, q16, p17.wrap, q18, p19.wrap, U_report_shower_below, lw, le, Nat.zero_le, Nat.sub_zero, take_app3, set_get, take_set, List.length_set, List.map_set, reduceIte, reduceCtorEq, Nat.reduceEqDiff, Nat.reduceAdd, Nat.reduceLeDiff, Nat.reduceSub, Nat.reduceLT, Int.reduceEq, Int.reduceLT, Int.reduceLE, Int.reduceToNat, Int.reduceAdd, Int.reduceSub, Int.reduceMul, Int.reduceNeg, Int.cast_ofNat_Int]
   · replace T := T.2 c14
     replace c14 := Bool.eq_false_iff.2 c14
     obtain ⟨y25, g26, z27, q20, p21, y28, g29, z30, q22, p23, T⟩ := T
     simp only [R_report_writer_put, le] at q20
     simp only [R_report_shower_below, le] at q22
     try simp only [ha0, hB0, hn0, h, eq_true c1, p2, p3, q4, q5, p6, q7, q8, q9, q10, q11, p12, o13, c14, q20, p21.wrap, q22, p23.wrap, U_report_shower_below, lw, le, Nat.zero_le, Nat.sub_zero, take_app3, set_get, take_set, List.length_set, List.map_set, reduceIte, reduceCtorEq, Nat.reduceEqDiff, Nat.reduceAdd, Nat.reduceLeDiff, Nat.reduceSub, Nat.reduceLT, Int.reduceEq, Int.reduceLT, Int.reduceLE, Int.reduceToNat, Int.reduceAdd, Int.reduceSub, Int.reduceMul, Int.reduceNeg, Int.cast_ofNat_Int]
     refine (T _ _ _ n0 t0 ?_ ?_).trans ?_
     all_goals simp only [ha0, hB0, hn0, h, eq_true c1, p2, p3, q4, q5, p6, q7, q8, q9, q10, q11, p12, o13, c14, q20, p21.wrap, q22, p23.wrap, U_report_shower_below, lw, le, Nat.zero_le, Nat.sub_zero, take_app3, set_get, take_set, List.length_set, List.map_set, reduceIte, reduceCtorEq, Nat.reduceEqDiff, Nat.reduceAdd, Nat.reduceLeDiff, Nat.reduceSub, Nat.reduceLT, Int.reduceEq, Int.reduceLT, Int.reduceLE, Int.reduceToNat, Int.reduceAdd, Int.reduceSub, Int.reduceMul, Int.reduceNeg, Int.cast_ofNat_Int]
 · replace T := T.2 c1
   obtain ⟨rfl, rfl, rfl⟩ := T
   simp only [ha0, hB0, hn0, h, eq_false c1, U_report_shower_below, lw, le, Nat.zero_le, Nat.sub_zero, take_app3, set_get, take_set, List.length_set, List.map_set, reduceIte, reduceCtorEq, Nat.reduceEqDiff, Nat.reduceAdd, Nat.reduceLeDiff, Nat.reduceSub, Nat.reduceLT, Int.reduceEq, Int.reduceLT, Int.reduceLE, Int.reduceToNat, Int.reduceAdd, Int.reduceSub, Int.reduceMul, Int.reduceNeg, Int.cast_ofNat_Int]
set_option maxHeartbeats 4000000 in
theorem report_shower_below_tree (s : shower) (s_g0 : Nat) (s_z0 : Bool) (parent : List UInt8) (deep_ : Int) (s' : shower) (s'_g0 : Nat) (s'_z0 : Bool) (T :
  ((((s.l.length : Nat) : Int) < deep_) →
  s = s' ∧ s_g0 = s'_g0 ∧ s_z0 = s'_z0) ∧
 (¬ (((s.l.length : Nat) : Int) < deep_) →
  ∃ (r1 : List (List UInt8)), (R_tree_Below s.l parent r1) ∧
  At_report_shower_below_1 deep_ r1 0 s s_g0 s_z0 s' s'_g0 s'_z0)) : R_report_shower_below s s_g0 s_z0 parent deep_ s' s'_g0 s'_z0 := by
 intro S n0 t0 H0
 obtain ⟨hb0, ha0⟩ := H0
 obtain ⟨w0, hB0⟩ := take_some hb0
 have hn0 := o_getBox_lt hB0
 rw [call_code sp_report_shower_below _ _ rfl]
 by_cases c1 : ((s.l.length : Nat) : Int) < deep_
 · replace T := T.1 c1
   obtain ⟨rfl, rfl, rfl⟩ := T
   simp only [ha0, hB0, hn0, eq_true c1, U_report_shower_below, lw, le, Nat.zero_le, Nat.sub_zero, take_app3, set_get, take_set, List.length_set, List.map_set, reduceIte, reduceCtorEq, Nat.reduceEqDiff, Nat.reduceAdd, Nat.reduceLeDiff, Nat.reduceSub, Nat.reduceLT, Int.reduceEq, Int.reduceLT, Int.reduceLE, Int.reduceToNat, Int.reduceAdd, Int.reduceSub, Int.reduceMul, Int.reduceNeg, Int.cast_ofNat_Int]
 · replace T := T.2 c1
   obtain ⟨r1, q2, T⟩ := T
   simp only [R_tree_Below, le] at q2
   try simp only [ha0, hB0, hn0, eq_false c1, q2, U_report_shower_below, lw, le, Nat.zero_le, Nat.sub_zero, take_app3, set_get, take_set, List.length_set, List.map_set, reduceIte, reduceCtorEq, Nat.reduceEqDiff, Nat.reduceAdd, Nat.reduceLeDiff, Nat.reduceSub, Nat.reduceLT, Int.reduceEq, Int.reduceLT, Int.reduceLE, Int.reduceToNat, Int.reduceAdd, Int.reduceSub, Int.reduceMul, Int.reduceNeg, Int.cast_ofNat_Int]
   refine (T _ _ _ n0 t0 ?_ ?_).trans ?_
   all_goals simp only [ha0, hB0, hn0, eq_false c1, q2, U_report_shower_below, lw, le, Nat.zero_le, Nat.sub_zero, take_app3, set_get, take_set, List.length_set, List.map_set, reduceIte, reduceCtorEq, Nat.reduceEqDiff, Nat.reduceAdd, Nat.reduceLeDiff, Nat.reduceSub, Nat.reduceLT, Int.reduceEq, Int.reduceLT, Int.reduceLE, Int.reduceToNat, Int.reduceAdd, Int.reduceSub, Int.reduceMul, Int.reduceNeg, Int.cast_ofNat_Int]
theorem sp_report_Show : SP 54 = some (.code sc_report_Show) := SPof_code rfl Tryd.func54 comp_report_Show
/-! doorkeeper/report.Show -/
set_option maxHeartbeats 4000000 in
theorem report_Show_tree (l_ : List Item) (marks : List Mark) (r : List UInt8) (T :
  ∃ (y1 : shower) (g2 : Nat) (z3 : Bool), (R_report_shower_below (shower.mk (writer.mk []) l_ marks) 0 false [] 0 y1 g2 z3) ∧
 y1.writer.out = r) : R_report_Show l_ marks r := by
 intro S
 rw [call_code sp_report_Show _ _ rfl]
 obtain ⟨y1, g2, z3, q1, rfl⟩ := T
 simp only [R_report_shower_below, le] at q1
 simp only [q1, U_report_Show, lw, le, Nat.zero_le, Nat.sub_zero, take_app3, set_get, take_set, List.length_set, List.map_set, reduceIte, reduceCtorEq, Nat.reduceEqDiff, Nat.reduceAdd, Nat.reduceLeDiff, Nat.reduceSub, Nat.reduceLT, Int.reduceEq, Int.reduceLT, Int.reduceLE, Int.reduceToNat, Int.reduceAdd, Int.reduceSub, Int.reduceMul, Int.reduceNeg, Int.cast_ofNat_Int]
theorem sp_ref16_StepsText : SP 50 = some (.code sc_ref16_StepsText) := SPof_code rfl Tryd.func50 comp_ref16_StepsText
/-! doorkeeper/doorkeeperref16.StepsText -/
def At_ref16_StepsText_1 (l_ : List PStep) (s1 : List UInt8) (i2 : Int) (r : List UInt8) : Prop := ∀ (S : Sto) (e : Nat → PV) (f : Fr), e 0 = .list 6 (l_.map ePStep) false ∧ e 3 = .str s1 ∧ e 4 = .int .i64 i2 → k_ref16_StepsText_1 SP (E SP (.loop b_ref16_StepsText_1) ⟨e, f :: S⟩) = .ok (.v (.str r)) S
set_option maxHeartbeats 4000000 in
theorem At_ref16_StepsText_1_step (l_ : List PStep) (s1 : List UInt8) (i2 : Int) (r : List UInt8) (T :
  ((i2 < ((l_.length : Nat) : Int)) →
  (I64 (i2 + 1)) ∧
  ∃ (r3 : List UInt8), (R_ref1_Digits (i2 + 1) r3) ∧
  (s1.length + r3.length ≤ maxInt) ∧
  (s1.length + r3.length + 2 ≤ maxInt) ∧
  (0 ≤ i2) ∧
  ∃ (v4 : PStep), (l_[i2.toNat]? = some v4) ∧
  ∃ (r5 : List UInt8), (R_ref16_StepText v4 r5) ∧
  (s1.length + r3.length + 2 + r5.length ≤ maxInt) ∧
  (s1.length + r3.length + 2 + r5.length + 1 ≤ maxInt) ∧
  (I64 (i2 + 1)) ∧
  At_ref16_StepsText_1 l_ ((((s1 ++ r3) ++ [46, 32]) ++ r5) ++ [10]) (i2 + 1) r) ∧
 (¬ (i2 < ((l_.length : Nat) : Int)) →
  s1 = r)) : At_ref16_StepsText_1 l_ s1 i2 r := by
 intro S e f h
 unfold k_ref16_StepsText_1
 rw [E_loop]
 by_cases c1 : i2 < ((l_.length : Nat) : Int)
 · replace T := T.1 c1
   obtain ⟨p2, r3, q3, p4, p5, p6, v4, q7, r5, q8, p9, p10, p11, T⟩ := T
   simp only [R_ref1_Digits, le] at q3
   simp only [R_ref16_StepText, le] at q8
   try simp only [h, eq_true c1, p2.wrap, q3, p4, p5, p6, q7, q8, p9, p10, p11.wrap, U_ref16_StepsText, lw, le, Nat.zero_le, Nat.sub_zero, take_app3, set_get, take_set, List.length_set, List.map_set, reduceIte, reduceCtorEq, Nat.reduceEqDiff, Nat.reduceAdd, Nat.reduceLeDiff, Nat.reduceSub, Nat.reduceLT, Int.reduceEq, Int.reduceLT, Int.reduceLE, Int.reduceToNat, Int.reduceAdd, Int.reduceSub, Int.reduceMul, Int.reduceNeg, Int.cast_ofNat_Int]
   refine T S _ _ ?_
   simp only [h, eq_true c1, p2.wrap, q3, p4, p5, p6, q7, q8, p9, p10, p11.wrap, U_ref16_StepsText, lw, le, Nat.zero_le, Nat.sub_zero, take_app3, set_get, take_set, List.length_set, List.map_set, reduceIte, reduceCtorEq, Nat.reduceEqDiff, Nat.reduceAdd, Nat.reduceLeDiff, Nat.reduceSub, Nat.reduceLT, Int.reduceEq, Int.reduceLT, Int.reduceLE, Int.reduceToNat, Int.reduceAdd, Int.reduceSub, Int.reduceMul, Int.reduceNeg, Int.cast_ofNat_Int]
 · replace T := T.2 c1
   obtain rfl := T
   simp only [h, eq_false c1, U_ref16_StepsText, lw, le, Nat.zero_le, Nat.sub_zero, take_app3, set_get, take_set, List.length_set, List.map_set, reduceIte, reduceCtorEq, Nat.reduceEqDiff, Nat.reduceAdd, Nat.reduceLeDiff, Nat.reduceSub, Nat.reduceLT, Int.reduceEq, Int.reduceLT, Int.reduceLE, Int.reduceToNat, Int.reduceAdd, Int.reduceSub, Int.reduceMul, Int.reduceNeg, Int.cast_ofNat_Int]
set_option maxHeartbeats 4000000 in
theorem ref16_StepsText_tree (l_ : List PStep) (r : List UInt8) (T :
  At_ref16_StepsText_1 l_ [] 0 r) : R_ref16_StepsText l_ r := by
 intro S
 rw [call_code sp_ref16_StepsText _ _ rfl]
 try simp only [U_ref16_StepsText, lw, le, Nat.zero_le, Nat.sub_zero, take_app3, set_get, take_set, List.length_set, List.map_set, reduceIte, reduceCtorEq, Nat.reduceEqDiff, Nat.reduceAdd, Nat.reduceLeDiff, Nat.reduceSub, Nat.reduceLT, Int.reduceEq, Int.reduceLT, Int.reduceLE, Int.reduceToNat, Int.reduceAdd, Int.reduceSub, Int.reduceMul, Int.reduceNeg, Int.cast_ofNat_Int]
 refine T S _ _ ?_
 simp only [U_ref16_StepsText, lw, le, Nat.zero_le, Nat.sub_zero, take_app3, set_get, take_set, List.length_set, List.map_set, reduceIte, reduceCtorEq, Nat.reduceEqDiff, Nat.reduceAdd, Nat.reduceLeDiff, Nat.reduceSub, Nat.reduceLT, Int.reduceEq, Int.reduceLT, Int.reduceLE, Int.reduceToNat, Int.reduceAdd, Int.reduceSub, Int.reduceMul, Int.reduceNeg, Int.cast_ofNat_Int]
theorem sp_ref16_StepText : SP 52 = some (.code sc_ref16_StepText) := SPof_code rfl Tryd.func52 comp_ref16_StepText
/-! doorkeeper/doorkeeperref16.StepText -/
set_option maxHeartbeats 4000000 in
theorem ref16_StepText_tree (s : PStep) (r : List UInt8) (T :
  ((s.Kind = 1) →
  (7 + s.Name.length ≤ maxInt) ∧
  (s.Name.length + 1 + 1 + 1 + 1 + 1 + 1 + 1 + 4 ≤ maxInt) ∧
  ∃ (r1 : List UInt8), (R_ref16_root s.Parent r1) ∧
  (s.Name.length + 4 + 1 + 1 + 1 + 1 + 1 + 1 + 1 + r1.length ≤ maxInt) ∧
  (s.Name.length + 4 + r1.length + 1 + 1 + 1 + 1 + 1 + 1 + 1 + 6 ≤ maxInt) ∧
  ∃ (r2 : List UInt8), (R_ref10_VecText s.Limit r2) ∧
  (s.Name.length + 4 + r1.length + 6 + 1 + 1 + 1 + 1 + 1 + 1 + 1 + r2.length ≤ maxInt) ∧
  ((((([99, 114, 101, 97, 116, 101, 32] ++ s.Name) ++ [32, 105, 110, 32]) ++ r1) ++ [32, 119, 105, 116, 104, 32]) ++ r2) = r) ∧
 (¬ (s.Kind = 1) →
  ((s.Kind = 2) →
   (6 + s.Name.length ≤ maxInt) ∧
   (s.Name.length + 1 + 1 + 1 + 1 + 1 + 1 + 4 ≤ maxInt) ∧
   ∃ (r3 : List UInt8), (R_ref10_VecText s.Limit r3) ∧
   (s.Name.length + 4 + 1 + 1 + 1 + 1 + 1 + 1 + r3.length ≤ maxInt) ∧
   ((([108, 105, 109, 105, 116, 32] ++ s.Name) ++ [32, 116, 111, 32]) ++ r3) = r) ∧
  (¬ (s.Kind = 2) →
   ((s.Kind = 3) →
    (5 + s.Name.length ≤ maxInt) ∧
    (s.Name.length + 1 + 1 + 1 + 1 + 1 + 4 ≤ maxInt) ∧
    ∃ (r4 : List UInt8), (R_ref16_root s.Parent r4) ∧
    (s.Name.length + 4 + 1 + 1 + 1 + 1 + 1 + r4.length ≤ maxInt) ∧
    ((([109, 111, 118, 101, 32] ++ s.Name) ++ [32, 116, 111, 32]) ++ r4) = r) ∧
   (¬ (s.Kind = 3) →
    ((s.Kind = 4) →
     (7 + s.Name.length ≤ maxInt) ∧
     ([100, 101, 108, 101, 116, 101, 32] ++ s.Name) = r) ∧
    (¬ (s.Kind = 4) →
     s.Name = r))))) : R_ref16_StepText s r := by
 intro S
 rw [call_code sp_ref16_StepText _ _ rfl]
 by_cases c1 : s.Kind = 1
 · replace T := T.1 c1
   obtain ⟨p2, p3, r1, q4, p5, p6, r2, q7, p8, rfl⟩ := T
   simp only [R_ref16_root, le] at q4
   simp only [R_ref10_VecText, le] at q7
   simp only [eq_true c1, p2, p3, q4, p5, p6, q7, p8, U_ref16_StepText, lw, le, Nat.zero_le, Nat.sub_zero, take_app3, set_get, take_set, List.length_set, List.map_set, reduceIte, reduceCtorEq, Nat.reduceEqDiff, Nat.reduceAdd, Nat.reduceLeDiff, Nat.reduceSub, Nat.reduceLT, Int.reduceEq, Int.reduceLT, Int.reduceLE, Int.reduceToNat, Int.reduceAdd, Int.reduceSub, Int.reduceMul, Int.reduceNeg, Int.cast_ofNat_Int]
 · replace T := T.2 c1
   by_cases c9 : s.Kind = 2
   · replace T := T.1 c9
     obtain ⟨p10, p11, r3, q12, p13, rfl⟩ := T
     simp only [R_ref10_VecText, le] at q12
     simp only [eq_false c1, eq_true c9, p10, p11, q12, p13, U_ref16_StepText, lw, le, Nat.zero_le, Nat.sub_zero, take_app3, set_get, take_set, List.length_set, List.map_set, reduceIte, reduceCtorEq, Nat.reduceEqDiff, Nat.reduceAdd, Nat.reduceLeDiff, Nat.reduceSub, Nat.reduceLT, Int.reduceEq, Int.reduceLT, Int.reduceLE, Int.reduceToNat, Int.reduceAdd, Int.reduceSub, Int.reduceMul, Int.reduceNeg, Int.cast_ofNat_Int]
   · replace T := T.2 c9
     by_cases c14 : s.Kind = 3
     · replace T := T.1 c14
       obtain ⟨p15, p16, r4, q17, p18, rfl⟩ := T
       simp only [R_ref16_root, le] at q17
       simp only [eq_false c1, eq_false c9, eq_true c14, p15, p16, q17, p18, U_ref16_StepText, lw, le, Nat.zero_le, Nat.sub_zero, take_app3, set_get, take_set, List.length_set, List.map_set, reduceIte, reduceCtorEq, Nat.reduceEqDiff, Nat.reduceAdd, Nat.reduceLeDiff, Nat.reduceSub, Nat.reduceLT, Int.reduceEq, Int.reduceLT, Int.reduceLE, Int.reduceToNat, Int.reduceAdd, Int.reduceSub, Int.reduceMul, Int.reduceNeg, Int.cast_ofNat_Int]
     · replace T := T.2 c14
       by_cases c19 : s.Kind = 4
       · replace T := T.1 c19
         obtain ⟨p20, rfl⟩ := T
         simp only [eq_false c1, eq_false c9, eq_false c14, eq_true c19, p20, U_ref16_StepText, lw, le, Nat.zero_le, Nat.sub_zero, take_app3, set_get, take_set, List.length_set, List.map_set, reduceIte, reduceCtorEq, Nat.reduceEqDiff, Nat.reduceAdd, Nat.reduceLeDiff, Nat.reduceSub, Nat.reduceLT, Int.reduceEq, Int.reduceLT, Int.reduceLE, Int.reduceToNat, Int.reduceAdd, Int.reduceSub, Int.reduceMul, Int.reduceNeg, Int.cast_ofNat_Int]
       · replace T := T.2 c19
         obtain rfl := T
         simp only [eq_false c1, eq_false c9, eq_false c14, eq_false c19, U_ref16_StepText, lw, le, Nat.zero_le, Nat.sub_zero, take_app3, set_get, take_set, List.length_set, List.map_set, reduceIte, reduceCtorEq, Nat.reduceEqDiff, Nat.reduceAdd, Nat.reduceLeDiff, Nat.reduceSub, Nat.reduceLT, Int.reduceEq, Int.reduceLT, Int.reduceLE, Int.reduceToNat, Int.reduceAdd, Int.reduceSub, Int.reduceMul, Int.reduceNeg, Int.cast_ofNat_Int]
theorem sp_ref16_Show : SP 55 = some (.code sc_ref16_Show) := SPof_code rfl Tryd.func55 comp_ref16_Show
/-! doorkeeper/doorkeeperref16.Show -/
set_option maxHeartbeats 4000000 in
theorem ref16_Show_tree (l_ : List Item) (marks : List Mark) (r : List UInt8) (T :
  ∃ (r1 : List UInt8), (R_ref16_show l_ marks [] [] r1) ∧
 r1 = r) : R_ref16_Show l_ marks r := by
 intro S
 rw [call_code sp_ref16_Show _ _ rfl]
 obtain ⟨r1, q1, rfl⟩ := T
 simp only [R_ref16_show, le] at q1
 simp only [q1, U_ref16_Show, lw, le, Nat.zero_le, Nat.sub_zero, take_app3, set_get, take_set, List.length_set, List.map_set, reduceIte, reduceCtorEq, Nat.reduceEqDiff, Nat.reduceAdd, Nat.reduceLeDiff, Nat.reduceSub, Nat.reduceLT, Int.reduceEq, Int.reduceLT, Int.reduceLE, Int.reduceToNat, Int.reduceAdd, Int.reduceSub, Int.reduceMul, Int.reduceNeg, Int.cast_ofNat_Int]
theorem sp_ref16_show : SP 90 = some (.code sc_ref16_show) := SPof_code rfl Tryd.func90 comp_ref16_show
/-! doorkeeper/doorkeeperref16.show -/
def At_ref16_show_1 (l_ : List Item) (marks : List Mark) (far : List UInt8) (r1 : List (List UInt8)) (s2 : List UInt8) (i3 : Int) (r : List UInt8) : Prop := ∀ (S : Sto) (e : Nat → PV) (f : Fr), e 0 = .list 12 (l_.map eItem) false ∧ e 1 = .list 6 (marks.map eMark) false ∧ e 3 = .str far ∧ e 9 = .str s2 ∧ e 10 = .sl 0 (.slot 15) 0 r1.length r1.length 0 false ∧ e 11 = .int .i64 i3 ∧ f.arr (.slot 15) = some ⟨1, r1.map eS, false, 0⟩ → k_ref16_show_1 SP (E SP (.loop b_ref16_show_1) ⟨e, f :: S⟩) = .ok (.v (.str r)) S
set_option maxHeartbeats 4000000 in
theorem At_ref16_show_1_step (l_ : List Item) (marks : List Mark) (far : List UInt8) (r1 : List (List UInt8)) (s2 : List UInt8) (i3 : Int) (r : List UInt8) (T :
  ((i3 < ((r1.length : Nat) : Int)) →
  (0 ≤ i3) ∧ (i3.toNat < r1.length) ∧
  ∃ (v4 : List UInt8), (r1[i3.toNat]? = some v4) ∧
  ∃ (r5 : Int), (R_ref10_Find l_ v4 r5) ∧
  (0 ≤ r5) ∧
  ∃ (v6 : Item), (l_[r5.toNat]? = some v6) ∧
  (s2.length + far.length ≤ maxInt) ∧
  (s2.length + far.length + v6.Name.length ≤ maxInt) ∧
  (s2.length + far.length + v6.Name.length + 1 ≤ maxInt) ∧
  ∃ (r7 : List UInt8), (R_ref10_VecText v6.Sub r7) ∧
  (s2.length + far.length + v6.Name.length + 1 + r7.length ≤ maxInt) ∧
  (s2.length + far.length + v6.Name.length + 1 + r7.length + 4 ≤ maxInt) ∧
  ∃ (r8 : List UInt8), (R_ref10_VecText v6.Limit r8) ∧
  (s2.length + far.length + v6.Name.length + 1 + r7.length + 4 + r8.length ≤ maxInt) ∧
  ∃ (r9 : Int), (R_ref16_marked marks v6.Name r9) ∧
  ((0 ≤ r9) →
   (s2.length + far.length + v6.Name.length + 1 + r7.length + 4 + r8.length + 2 ≤ maxInt) ∧
   (s2.length + far.length + v6.Name.length + 1 + r7.length + 4 + r8.length + 2 + 1 ≤ maxInt) ∧
   (far.length + 2 ≤ maxInt) ∧
   ∃ (r10 : List UInt8), (R_ref16_show l_ marks v6.Name (far ++ [32, 32]) r10) ∧
   (s2.length + far.length + v6.Name.length + 1 + r7.length + 4 + r8.length + 2 + 1 + r10.length ≤ maxInt) ∧
   (I64 (i3 + 1)) ∧
   At_ref16_show_1 l_ marks far r1 (((((((((s2 ++ far) ++ v6.Name) ++ [32]) ++ r7) ++ [32, 111, 102, 32]) ++ r8) ++ [32, 42]) ++ [10]) ++ r10) (i3 + 1) r) ∧
  (¬ (0 ≤ r9) →
   (s2.length + far.length + v6.Name.length + 1 + r7.length + 4 + r8.length + 1 ≤ maxInt) ∧
   (far.length + 2 ≤ maxInt) ∧
   ∃ (r11 : List UInt8), (R_ref16_show l_ marks v6.Name (far ++ [32, 32]) r11) ∧
   (s2.length + far.length + v6.Name.length + 1 + r7.length + 4 + r8.length + 1 + r11.length ≤ maxInt) ∧
   (I64 (i3 + 1)) ∧
   At_ref16_show_1 l_ marks far r1 ((((((((s2 ++ far) ++ v6.Name) ++ [32]) ++ r7) ++ [32, 111, 102, 32]) ++ r8) ++ [10]) ++ r11) (i3 + 1) r)) ∧
 (¬ (i3 < ((r1.length : Nat) : Int)) →
  s2 = r)) : At_ref16_show_1 l_ marks far r1 s2 i3 r := by
 intro S e f h
 unfold k_ref16_show_1
 rw [E_loop]
 by_cases c1 : i3 < ((r1.length : Nat) : Int)
 · replace T := T.1 c1
   obtain ⟨p2, p3, v4, q4, r5, q5, p6, v6, q7, p8, p9, p10, r7, q11, p12, p13, r8, q14, p15, r9, q16, T⟩ := T
   simp only [R_ref10_Find, le] at q5
   simp only [R_ref10_VecText, le] at q11
   simp only [R_ref10_VecText, le] at q14
   simp only [R_ref16_marked, le] at q16
   by_cases c17 : 0 ≤ r9
   · replace T := T.1 c17
     obtain ⟨p18, p19, p20, r10, q21, p22, p23, T⟩ := T
     simp only [R_ref16_show, le] at q21
     try simp only [h, eq_true c1, p2, p3, q4, q5, p6, q7, p8, p9, p10, q11, p12, p13, q14, p15, q16, eq_true c17, p18, p19, p20, q21, p22, p23.wrap, U_ref16_show, lw, le, Nat.zero_le, Nat.sub_zero, take_app3, set_get, take_set, List.length_set, List.map_set, reduceIte, reduceCtorEq, Nat.reduceEqDiff, Nat.reduceAdd, Nat.reduceLeDiff, Nat.reduceSub, Nat.reduceLT, Int.reduceEq, Int.reduceLT, Int.reduceLE, Int.reduceToNat, Int.reduceAdd, Int.reduceSub, Int.reduceMul, Int.reduceNeg, Int.cast_ofNat_Int]
     refine T S _ _ ?_
     simp only [h, eq_true c1, p2, p3, q4, q5, p6, q7, p8, p9, p10, q11, p12, p13, q14, p15, q16, eq_true c17, p18, p19, p20, q21, p22, p23.wrap, U_ref16_show, lw, le, Nat.zero_le, Nat.sub_zero, take_app3, set_get, take_set, List.length_set, List.map_set, reduceIte, reduceCtorEq, Nat.reduceEqDiff, Nat.reduceAdd, Nat.reduceLeDiff, Nat.reduceSub, Nat.reduceLT, Int.reduceEq, Int.reduceLT, Int.reduceLE, Int.reduceToNat, Int.reduceAdd, Int.reduceSub, Int.reduceMul, Int.reduceNeg, Int.cast_ofNat_Int]
   · replace T := T.2 c17
     obtain ⟨p24, p25, r11, q26, p27, p28, T⟩ := T
     simp only [R_ref16_show, le] at q26
     try simp only [h, eq_true c1, p2, p3, q4, q5, p6, q7, p8, p9, p10, q11, p12, p13, q14, p15, q16, eq_false c17, p24, p25, q26, p27, p28.wrap, U_ref16_show, lw, le, Nat.zero_le, Nat.sub_zero, take_app3, set_get, take_set, List.length_set, List.map_set, reduceIte, reduceCtorEq, Nat.reduceEqDiff, Nat.reduceAdd, Nat.reduceLeDiff, Nat.reduceSub, Nat.reduceLT, Int.reduceEq, Int.reduceLT, Int.reduceLE, Int.reduceToNat, Int.reduceAdd, Int.reduceSub, Int.reduceMul, Int.reduceNeg, Int.cast_ofNat_Int]
     refine T S _ _ ?_
     simp only [h, eq_true c1, p2, p3, q4, q5, p6, q7, p8, p9, p10, q11, p12, p13, q14, p15, q16, eq_false c17, p24, p25, q26, p27, p28.wrap, U_ref16_show, lw, le, Nat.zero_le, Nat.sub_zero, take_app3, set_get, take_set, List.length_set, List.map_set, reduceIte, reduceCtorEq, Nat.reduceEqDiff, Nat.reduceAdd, Nat.reduceLeDiff, Nat.reduceSub, Nat.reduceLT, Int.reduceEq, Int.reduceLT, Int.reduceLE, Int.reduceToNat, Int.reduceAdd, Int.reduceSub, Int.reduceMul, Int.reduceNeg, Int.cast_ofNat_Int]
 · replace T := T.2 c1
   obtain rfl := T
   simp only [h, eq_false c1, U_ref16_show, lw, le, Nat.zero_le, Nat.sub_zero, take_app3, set_get, take_set, List.length_set, List.map_set, reduceIte, reduceCtorEq, Nat.reduceEqDiff, Nat.reduceAdd, Nat.reduceLeDiff, Nat.reduceSub, Nat.reduceLT, Int.reduceEq, Int.reduceLT, Int.reduceLE, Int.reduceToNat, Int.reduceAdd, Int.reduceSub, Int.reduceMul, Int.reduceNeg, Int.cast_ofNat_Int]
set_option maxHeartbeats 4000000 in
theorem ref16_show_tree (l_ : List Item) (marks : List Mark) (name : List UInt8) (far : List UInt8) (r : List UInt8) (T :
  ∃ (r1 : List (List UInt8)), (R_ref10_Below l_ name r1) ∧
 At_ref16_show_1 l_ marks far r1 [] 0 r) : R_ref16_show l_ marks name far r := by
 intro S
 rw [call_code sp_ref16_show _ _ rfl]
 obtain ⟨r1, q1, T⟩ := T
 simp only [R_ref10_Below, le] at q1
 try simp only [q1, U_ref16_show, lw, le, Nat.zero_le, Nat.sub_zero, take_app3, set_get, take_set, List.length_set, List.map_set, reduceIte, reduceCtorEq, Nat.reduceEqDiff, Nat.reduceAdd, Nat.reduceLeDiff, Nat.reduceSub, Nat.reduceLT, Int.reduceEq, Int.reduceLT, Int.reduceLE, Int.reduceToNat, Int.reduceAdd, Int.reduceSub, Int.reduceMul, Int.reduceNeg, Int.cast_ofNat_Int]
 refine T S _ _ ?_
 simp only [q1, U_ref16_show, lw, le, Nat.zero_le, Nat.sub_zero, take_app3, set_get, take_set, List.length_set, List.map_set, reduceIte, reduceCtorEq, Nat.reduceEqDiff, Nat.reduceAdd, Nat.reduceLeDiff, Nat.reduceSub, Nat.reduceLT, Int.reduceEq, Int.reduceLT, Int.reduceLE, Int.reduceToNat, Int.reduceAdd, Int.reduceSub, Int.reduceMul, Int.reduceNeg, Int.cast_ofNat_Int]
theorem sp_ref16_root : SP 87 = some (.code sc_ref16_root) := SPof_code rfl Tryd.func87 comp_ref16_root
/-! doorkeeper/doorkeeperref16.root -/
set_option maxHeartbeats 4000000 in
theorem ref16_root_tree (s : List UInt8) (r : List UInt8) (T :
  ((s = []) →
  [47] = r) ∧
 (¬ (s = []) →
  s = r)) : R_ref16_root s r := by
 intro S
 rw [call_code sp_ref16_root _ _ rfl]
 by_cases c1 : s = []
 · replace T := T.1 c1
   obtain rfl := T
   simp only [eq_true c1, U_ref16_root, lw, le, Nat.zero_le, Nat.sub_zero, take_app3, set_get, take_set, List.length_set, List.map_set, reduceIte, reduceCtorEq, Nat.reduceEqDiff, Nat.reduceAdd, Nat.reduceLeDiff, Nat.reduceSub, Nat.reduceLT, Int.reduceEq, Int.reduceLT, Int.reduceLE, Int.reduceToNat, Int.reduceAdd, Int.reduceSub, Int.reduceMul, Int.reduceNeg, Int.cast_ofNat_Int]
 · replace T := T.2 c1
   obtain rfl := T
   simp only [eq_false c1, U_ref16_root, lw, le, Nat.zero_le, Nat.sub_zero, take_app3, set_get, take_set, List.length_set, List.map_set, reduceIte, reduceCtorEq, Nat.reduceEqDiff, Nat.reduceAdd, Nat.reduceLeDiff, Nat.reduceSub, Nat.reduceLT, Int.reduceEq, Int.reduceLT, Int.reduceLE, Int.reduceToNat, Int.reduceAdd, Int.reduceSub, Int.reduceMul, Int.reduceNeg, Int.cast_ofNat_Int]
theorem sp_ref16_marked : SP 105 = some (.code sc_ref16_marked) := SPof_code rfl Tryd.func105 comp_ref16_marked
/-! doorkeeper/doorkeeperref16.marked -/
def At_ref16_marked_1 (l_ : List Mark) (name : List UInt8) (i1 : Int) (r : Int) : Prop := ∀ (S : Sto) (e : Nat → PV) (f : Fr), e 0 = .list 6 (l_.map eMark) false ∧ e 1 = .str name ∧ e 5 = .int .i64 i1 → k_ref16_marked_1 SP (E SP (.loop b_ref16_marked_1) ⟨e, f :: S⟩) = .ok (.v (.int .i64 r)) S
set_option maxHeartbeats 4000000 in
theorem At_ref16_marked_1_step (l_ : List Mark) (name : List UInt8) (i1 : Int) (r : Int) (T :
  ((i1 < ((l_.length : Nat) : Int)) →
  (0 ≤ i1) ∧
  ∃ (v2 : Mark), (l_[i1.toNat]? = some v2) ∧
  ((v2.Name = name) →
   i1 = r) ∧
  (¬ (v2.Name = name) →
   (I64 (i1 + 1)) ∧
   At_ref16_marked_1 l_ name (i1 + 1) r)) ∧
 (¬ (i1 < ((l_.length : Nat) : Int)) →
  (-1) = r)) : At_ref16_marked_1 l_ name i1 r := by
 intro S e f h
 unfold k_ref16_marked_1
 rw [E_loop]
 by_cases c1 : i1 < ((l_.length : Nat) : Int)
 · replace T := T.1 c1
   obtain ⟨p2, v2, q3, T⟩ := T
   by_cases c4 : v2.Name = name
   · replace T := T.1 c4
     obtain rfl := T
     simp only [h, eq_true c1, p2, q3, eq_true c4, U_ref16_marked, lw, le, Nat.zero_le, Nat.sub_zero, take_app3, set_get, take_set, List.length_set, List.map_set, reduceIte, reduceCtorEq, Nat.reduceEqDiff, Nat.reduceAdd, Nat.reduceLeDiff, Nat.reduceSub, Nat.reduceLT, Int.reduceEq, Int.reduceLT, Int.reduceLE, Int.reduceToNat, Int.reduceAdd, Int.reduceSub, Int.reduceMul, Int.reduceNeg, Int.cast_ofNat_Int]
   · replace T := T.2 c4
     obtain ⟨p5, T⟩ := T
     try simp only [h, eq_true c1, p2, q3, eq_false c4, p5.wrap, U_ref16_marked, lw, le, Nat.zero_le, Nat.sub_zero, take_app3, set_get, take_set, List.length_set, List.map_set, reduceIte, reduceCtorEq, Nat.reduceEqDiff, Nat.reduceAdd, Nat.reduceLeDiff, Nat.reduceSub, Nat.reduceLT, Int.reduceEq, Int.reduceLT, Int.reduceLE, Int.reduceToNat, Int.reduceAdd, Int.reduceSub, Int.reduceMul, Int.reduceNeg, Int.cast_ofNat_Int]
     refine T S _ _ ?_
     simp only [h, eq_true c1, p2, q3, eq_false c4, p5.wrap, U_ref16_marked, lw, le, Nat.zero_le, Nat.sub_zero, take_app3, set_get, take_set, List.length_set, List.map_set, reduceIte, reduceCtorEq, Nat.reduceEqDiff, Nat.reduceAdd, Nat.reduceLeDiff, Nat.reduceSub, Nat.reduceLT, Int.reduceEq, Int.reduceLT, Int.reduceLE, Int.reduceToNat, Int.reduceAdd, Int.reduceSub, Int.reduceMul, Int.reduceNeg, Int.cast_ofNat_Int]
 · replace T := T.2 c1
   obtain rfl := T
   simp only [h, eq_false c1, U_ref16_marked, lw, le, Nat.zero_le, Nat.sub_zero, take_app3, set_get, take_set, List.length_set, List.map_set, reduceIte, reduceCtorEq, Nat.reduceEqDiff, Nat.reduceAdd, Nat.reduceLeDiff, Nat.reduceSub, Nat.reduceLT, Int.reduceEq, Int.reduceLT, Int.reduceLE, Int.reduceToNat, Int.reduceAdd, Int.reduceSub, Int.reduceMul, Int.reduceNeg, Int.cast_ofNat_Int]
set_option maxHeartbeats 4000000 in
theorem ref16_marked_tree (l_ : List Mark) (name : List UInt8) (r : Int) (T :
  At_ref16_marked_1 l_ name 0 r) : R_ref16_marked l_ name r := by
 intro S
 rw [call_code sp_ref16_marked _ _ rfl]
 try simp only [U_ref16_marked, lw, le, Nat.zero_le, Nat.sub_zero, take_app3, set_get, take_set, List.length_set, List.map_set, reduceIte, reduceCtorEq, Nat.reduceEqDiff, Nat.reduceAdd, Nat.reduceLeDiff, Nat.reduceSub, Nat.reduceLT, Int.reduceEq, Int.reduceLT, Int.reduceLE, Int.reduceToNat, Int.reduceAdd, Int.reduceSub, Int.reduceMul, Int.reduceNeg, Int.cast_ofNat_Int]
 refine T S _ _ ?_
 simp only [U_ref16_marked, lw, le, Nat.zero_le, Nat.sub_zero, take_app3, set_get, take_set, List.length_set, List.map_set, reduceIte, reduceCtorEq, Nat.reduceEqDiff, Nat.reduceAdd, Nat.reduceLeDiff, Nat.reduceSub, Nat.reduceLT, Int.reduceEq, Int.reduceLT, Int.reduceLE, Int.reduceToNat, Int.reduceAdd, Int.reduceSub, Int.reduceMul, Int.reduceNeg, Int.cast_ofNat_Int]
theorem sp_ref10_Find : SP 60 = some (.code sc_ref10_Find) := SPof_code rfl Tryd.func60 comp_ref10_Find
/-! doorkeeper/doorkeeperref10.Find -/
def At_ref10_Find_1 (l_ : List Item) (name : List UInt8) (i1 : Int) (r : Int) : Prop := ∀ (S : Sto) (e : Nat → PV) (f : Fr), e 0 = .list 12 (l_.map eItem) false ∧ e 1 = .str name ∧ e 5 = .int .i64 i1 → k_ref10_Find_1 SP (E SP (.loop b_ref10_Find_1) ⟨e, f :: S⟩) = .ok (.v (.int .i64 r)) S
set_option maxHeartbeats 4000000 in
theorem At_ref10_Find_1_step (l_ : List Item) (name : List UInt8) (i1 : Int) (r : Int) (T :
  ((i1 < ((l_.length : Nat) : Int)) →
  (0 ≤ i1) ∧
  ∃ (v2 : Item), (l_[i1.toNat]? = some v2) ∧
  ((v2.Name = name) →
   i1 = r) ∧
  (¬ (v2.Name = name) →
   (I64 (i1 + 1)) ∧
   At_ref10_Find_1 l_ name (i1 + 1) r)) ∧
 (¬ (i1 < ((l_.length : Nat) : Int)) →
  (-1) = r)) : At_ref10_Find_1 l_ name i1 r := by
 intro S e f h
 unfold k_ref10_Find_1
 rw [E_loop]
 by_cases c1 : i1 < ((l_.length : Nat) : Int)
 · replace T := T.1 c1
   obtain ⟨p2, v2, q3, T⟩ := T
   by_cases c4 : v2.Name = name
   · replace T := T.1 c4
     obtain rfl := T
     simp only [h, eq_true c1, p2, q3, eq_true c4, U_ref10_Find, lw, le, Nat.zero_le, Nat.sub_zero, take_app3, set_get, take_set, List.length_set, List.map_set, reduceIte, reduceCtorEq, Nat.reduceEqDiff, Nat.reduceAdd, Nat.reduceLeDiff, Nat.reduceSub, Nat.reduceLT, Int.reduceEq, Int.reduceLT, Int.reduceLE, Int.reduceToNat, Int.reduceAdd, Int.reduceSub, Int.reduceMul, Int.reduceNeg, Int.cast_ofNat_Int]
   · replace T := T.2 c4
     obtain ⟨p5, T⟩ := T
     try simp only [h, eq_true c1, p2, q3, eq_false c4, p5.wrap, U_ref10_Find, lw, le, Nat.zero_le, Nat.sub_zero, take_app3, set_get, take_set, List.length_set, List.map_set, reduceIte, reduceCtorEq, Nat.reduceEqDiff, Nat.reduceAdd, Nat.reduceLeDiff, Nat.reduceSub, Nat.reduceLT, Int.reduceEq, Int.reduceLT, Int.reduceLE, Int.reduceToNat, Int.reduceAdd, Int.reduceSub, Int.reduceMul, Int.reduceNeg, Int.cast_ofNat_Int]
     refine T S _ _ ?_
     simp only [h, eq_true c1, p2, q3, eq_false c4, p5.wrap, U_ref10_Find, lw, le, Nat.zero_le, Nat.sub_zero, take_app3, set_get, take_set, List.length_set, List.map_set, reduceIte, reduceCtorEq, Nat.reduceEqDiff, Nat.reduceAdd, Nat.reduceLeDiff, Nat.reduceSub, Nat.reduceLT, Int.reduceEq, Int.reduceLT, Int.reduceLE, Int.reduceToNat, Int.reduceAdd, Int.reduceSub, Int.reduceMul, Int.reduceNeg, Int.cast_ofNat_Int]
 · replace T := T.2 c1
   obtain rfl := T
   simp only [h, eq_false c1, U_ref10_Find, lw, le, Nat.zero_le, Nat.sub_zero, take_app3, set_get, take_set, List.length_set, List.map_set, reduceIte, reduceCtorEq, Nat.reduceEqDiff, Nat.reduceAdd, Nat.reduceLeDiff, Nat.reduceSub, Nat.reduceLT, Int.reduceEq, Int.reduceLT, Int.reduceLE, Int.reduceToNat, Int.reduceAdd, Int.reduceSub, Int.reduceMul, Int.reduceNeg, Int.cast_ofNat_Int]
set_option maxHeartbeats 4000000 in
theorem ref10_Find_tree (l_ : List Item) (name : List UInt8) (r : Int) (T :
  At_ref10_Find_1 l_ name 0 r) : R_ref10_Find l_ name r := by
 intro S
 rw [call_code sp_ref10_Find _ _ rfl]
 try simp only [U_ref10_Find, lw, le, Nat.zero_le, Nat.sub_zero, take_app3, set_get, take_set, List.length_set, List.map_set, reduceIte, reduceCtorEq, Nat.reduceEqDiff, Nat.reduceAdd, Nat.reduceLeDiff, Nat.reduceSub, Nat.reduceLT, Int.reduceEq, Int.reduceLT, Int.reduceLE, Int.reduceToNat, Int.reduceAdd, Int.reduceSub, Int.reduceMul, Int.reduceNeg, Int.cast_ofNat_Int]
 refine T S _ _ ?_
 simp only [U_ref10_Find, lw, le, Nat.zero_le, Nat.sub_zero, take_app3, set_get, take_set, List.length_set, List.map_set, reduceIte, reduceCtorEq, Nat.reduceEqDiff, Nat.reduceAdd, Nat.reduceLeDiff, Nat.reduceSub, Nat.reduceLT, Int.reduceEq, Int.reduceLT, Int.reduceLE, Int.reduceToNat, Int.reduceAdd, Int.reduceSub, Int.reduceMul, Int.reduceNeg, Int.cast_ofNat_Int]
theorem sp_ref10_Up : SP 61 = some (.code sc_ref10_Up) := SPof_code rfl Tryd.func61 comp_ref10_Up
/-! doorkeeper/doorkeeperref10.Up -/
def At_ref10_Up_1 (l_ : List Item) (i2 : Int) (l3 : List (List UInt8)) (r : List (List UInt8)) : Prop := ∀ (S : Sto) (e : Nat → PV) (f : Fr), e 0 = .list 12 (l_.map eItem) false ∧ e 5 = .sl 0 (.slot 5) 0 l3.length l3.length 0 false ∧ e 6 = .int .i64 i2 ∧ f.arr (.slot 5) = some ⟨1, l3.map eS, false, 0⟩ → k_ref10_Up_1 SP (E SP (.loop b_ref10_Up_1) ⟨e, f :: S⟩) = .ok (.arr 1 (r.map eS) false) S
set_option maxHeartbeats 4000000 in
theorem At_ref10_Up_1_step (l_ : List Item) (i2 : Int) (l3 : List (List UInt8)) (r : List (List UInt8)) (T :
  ((0 ≤ i2) →
  ((((l3.length : Nat) : Int) ≤ ((l_.length : Nat) : Int)) →
   (0 ≤ i2) ∧
   ∃ (v4 : Item), (l_[i2.toNat]? = some v4) ∧
   (bigRow (l3.length + 1) 16) ∧
   ∃ (r5 : Int), (R_ref10_Find l_ v4.Parent r5) ∧
   At_ref10_Up_1 l_ r5 (l3 ++ [v4.Name]) r) ∧
  (¬ (((l3.length : Nat) : Int) ≤ ((l_.length : Nat) : Int)) →
   l3 = r)) ∧
 (¬ (0 ≤ i2) →
  l3 = r)) : At_ref10_Up_1 l_ i2 l3 r := by
 intro S e f h
 unfold k_ref10_Up_1
 rw [E_loop]
 by_cases c1 : 0 ≤ i2
 · replace T := T.1 c1
   by_cases c2 : ((l3.length : Nat) : Int) ≤ ((l_.length : Nat) : Int)
   · replace T := T.1 c2
     obtain ⟨p3, v4, q4, p5, r5, q6, T⟩ := T
     simp only [bigRow] at p5
     simp only [R_ref10_Find, le] at q6
     try simp only [h, eq_true c1, eq_true c2, p3, q4, p5, q6, U_ref10_Up, lw, le, Nat.zero_le, Nat.sub_zero, take_app3, set_get, take_set, List.length_set, List.map_set, reduceIte, reduceCtorEq, Nat.reduceEqDiff, Nat.reduceAdd, Nat.reduceLeDiff, Nat.reduceSub, Nat.reduceLT, Int.reduceEq, Int.reduceLT, Int.reduceLE, Int.reduceToNat, Int.reduceAdd, Int.reduceSub, Int.reduceMul, Int.reduceNeg, Int.cast_ofNat_Int]
     refine T S _ _ ?_
     simp only [h, eq_true c1, eq_true c2, p3, q4, p5, q6, U_ref10_Up, lw, le, Nat.zero_le, Nat.sub_zero, take_app3, set_get, take_set, List.length_set, List.map_set, reduceIte, reduceCtorEq, Nat.reduceEqDiff, Nat.reduceAdd, Nat.reduceLeDiff, Nat.reduceSub, Nat.reduceLT, Int.reduceEq, Int.reduceLT, Int.reduceLE, Int.reduceToNat, Int.reduceAdd, Int.reduceSub, Int.reduceMul, Int.reduceNeg, Int.cast_ofNat_Int]
   · replace T := T.2 c2
     obtain rfl := T
     simp only [h, eq_true c1, eq_false c2, U_ref10_Up, lw, le, Nat.zero_le, Nat.sub_zero, take_app3, set_get, take_set, List.length_set, List.map_set, reduceIte, reduceCtorEq, Nat.reduceEqDiff, Nat.reduceAdd, Nat.reduceLeDiff, Nat.reduceSub, Nat.reduceLT, Int.reduceEq, Int.reduceLT, Int.reduceLE, Int.reduceToNat, Int.reduceAdd, Int.reduceSub, Int.reduceMul, Int.reduceNeg, Int.cast_ofNat_Int]
 · replace T := T.2 c1
   obtain rfl := T
   simp only [h, eq_false c1, U_ref10_Up, lw, le, Nat.zero_le, Nat.sub_zero, take_app3, set_get, take_set, List.length_set, List.map_set, reduceIte, reduceCtorEq, Nat.reduceEqDiff, Nat.reduceAdd, Nat.reduceLeDiff, Nat.reduceSub, Nat.reduceLT, Int.reduceEq, Int.reduceLT, Int.reduceLE, Int.reduceToNat, Int.reduceAdd, Int.reduceSub, Int.reduceMul, Int.reduceNeg, Int.cast_ofNat_Int]
set_option maxHeartbeats 4000000 in
theorem ref10_Up_tree (l_ : List Item) (name : List UInt8) (r : List (List UInt8)) (T :
  ∃ (r1 : Int), (R_ref10_Find l_ name r1) ∧
 At_ref10_Up_1 l_ r1 [] r) : R_ref10_Up l_ name r := by
 intro S
 rw [call_code sp_ref10_Up _ _ rfl]
 obtain ⟨r1, q1, T⟩ := T
 simp only [R_ref10_Find, le] at q1
 try simp only [q1, U_ref10_Up, lw, le, Nat.zero_le, Nat.sub_zero, take_app3, set_get, take_set, List.length_set, List.map_set, reduceIte, reduceCtorEq, Nat.reduceEqDiff, Nat.reduceAdd, Nat.reduceLeDiff, Nat.reduceSub, Nat.reduceLT, Int.reduceEq, Int.reduceLT, Int.reduceLE, Int.reduceToNat, Int.reduceAdd, Int.reduceSub, Int.reduceMul, Int.reduceNeg, Int.cast_ofNat_Int]
 refine T S _ _ ?_
 simp only [q1, U_ref10_Up, lw, le, Nat.zero_le, Nat.sub_zero, take_app3, set_get, take_set, List.length_set, List.map_set, reduceIte, reduceCtorEq, Nat.reduceEqDiff, Nat.reduceAdd, Nat.reduceLeDiff, Nat.reduceSub, Nat.reduceLT, Int.reduceEq, Int.reduceLT, Int.reduceLE, Int.reduceToNat, Int.reduceAdd, Int.reduceSub, Int.reduceMul, Int.reduceNeg, Int.cast_ofNat_Int]
theorem sp_ref10_Below : SP 104 = some (.code sc_ref10_Below) := SPof_code rfl Tryd.func104 comp_ref10_Below
/-! doorkeeper/doorkeeperref10.Below -/
def At_ref10_Below_1 (l_ : List Item) (name : List UInt8) (i1 : Int) (l2 : List (List UInt8)) (r : List (List UInt8)) : Prop := ∀ (S : Sto) (e : Nat → PV) (f : Fr), e 0 = .list 12 (l_.map eItem) false ∧ e 1 = .str name ∧ e 5 = .sl 0 (.slot 5) 0 l2.length l2.length 0 false ∧ e 6 = .int .i64 i1 ∧ f.arr (.slot 5) = some ⟨1, l2.map eS, false, 0⟩ → k_ref10_Below_1 SP (E SP (.loop b_ref10_Below_1) ⟨e, f :: S⟩) = .ok (.arr 1 (r.map eS) false) S
set_option maxHeartbeats 4000000 in
theorem At_ref10_Below_1_step (l_ : List Item) (name : List UInt8) (i1 : Int) (l2 : List (List UInt8)) (r : List (List UInt8)) (T :
  ((i1 < ((l_.length : Nat) : Int)) →
  (0 ≤ i1) ∧
  ∃ (v3 : Item), (l_[i1.toNat]? = some v3) ∧
  ((v3.Parent = name) →
   (bigRow (l2.length + 1) 16) ∧
   (I64 (i1 + 1)) ∧
   At_ref10_Below_1 l_ name (i1 + 1) (l2 ++ [v3.Name]) r) ∧
  (¬ (v3.Parent = name) →
   (I64 (i1 + 1)) ∧
   At_ref10_Below_1 l_ name (i1 + 1) l2 r)) ∧
 (¬ (i1 < ((l_.length : Nat) : Int)) →
  l2 = r)) : At_ref10_Below_1 l_ name i1 l2 r := by
 intro S e f h
 unfold k_ref10_Below_1
 rw [E_loop]
 by_cases c1 : i1 < ((l_.length : Nat) : Int)
 · replace T := T.1 c1
   obtain ⟨p2, v3, q3, T⟩ := T
   by_cases c4 : v3.Parent = name
   · replace T := T.1 c4
     obtain ⟨p5, p6, T⟩ := T
     simp only [bigRow] at p5
     try simp only [h, eq_true c1, p2, q3, eq_true c4, p5, p6.wrap, U_ref10_Below, lw, le, Nat.zero_le, Nat.sub_zero, take_app3, set_get, take_set, List.length_set, List.map_set, reduceIte, reduceCtorEq, Nat.reduceEqDiff, Nat.reduceAdd, Nat.reduceLeDiff, Nat.reduceSub, Nat.reduceLT, Int.reduceEq, Int.reduceLT, Int.reduceLE, Int.reduceToNat, Int.reduceAdd, Int.reduceSub, Int.reduceMul, Int.reduceNeg, Int.cast_ofNat_Int]
     refine T S _ _ ?_
     simp only [h, eq_true c1, p2, q3, eq_true c4, p5, p6.wrap, U_ref10_Below, lw, le, Nat.zero_le, Nat.sub_zero, take_app3, set_get, take_set, List.length_set, List.map_set, reduceIte, reduceCtorEq, Nat.reduceEqDiff, Nat.reduceAdd, Nat.reduceLeDiff, Nat.reduceSub, Nat.reduceLT, Int.reduceEq, Int.reduceLT, Int.reduceLE, Int.reduceToNat, Int.reduceAdd, Int.reduceSub, Int.reduceMul, Int.reduceNeg, Int.cast_ofNat_Int]
   · replace T := T.2 c4
     obtain ⟨p7, T⟩ := T
     try simp only [h, eq_true c1, p2, q3, eq_false c4, p7.wrap, U_ref10_Below, lw, le, Nat.zero_le, Nat.sub_zero, take_app3, set_get, take_set, List.length_set, List.map_set, reduceIte, reduceCtorEq, Nat.reduceEqDiff, Nat.reduceAdd, Nat.reduceLeDiff, Nat.reduceSub, Nat.reduceLT, Int.reduceEq, Int.reduceLT, Int.reduceLE, Int.reduceToNat, Int.reduceAdd, Int.reduceSub, Int.reduceMul, Int.reduceNeg, Int.cast_ofNat_Int]
     refine T S _ _ ?_
     simp only [h, eq_true c1, p2, q3, eq_false c4, p7.wrap, U_ref10_Below, lw, le, Nat.zero_le, Nat.sub_zero, take_app3, set_get, take_set, List.length_set, List.map_set, reduceIte, reduceCtorEq, Nat.reduceEqDiff, Nat.reduceAdd, Nat.reduceLeDiff, Nat.reduceSub, Nat.reduceLT, Int.reduceEq, Int.reduceLT, Int.reduceLE, Int.reduceToNat, Int.reduceAdd, Int.reduceSub, Int.reduceMul, Int.reduceNeg, Int.cast_ofNat_Int]
 · replace T := T.2 c1
   obtain rfl := T
   simp only [h, eq_false c1, U_ref10_Below, lw, le, Nat.zero_le, Nat.sub_zero, take_app3, set_get, take_set, List.length_set, List.map_set, reduceIte, reduceCtorEq, Nat.reduceEqDiff, Nat.reduceAdd, Nat.reduceLeDiff, Nat.reduceSub, Nat.reduceLT, Int.reduceEq, Int.reduceLT, Int.reduceLE, Int.reduceToNat, Int.reduceAdd, Int.reduceSub, Int.reduceMul, Int.reduceNeg, Int.cast_ofNat_Int]
set_option maxHeartbeats 4000000 in
theorem ref10_Below_tree (l_ : List Item) (name : List UInt8) (r : List (List UInt8)) (T :
  At_ref10_Below_1 l_ name 0 [] r) : R_ref10_Below l_ name r := by
 intro S
 rw [call_code sp_ref10_Below _ _ rfl]
 try simp only [U_ref10_Below, lw, le, Nat.zero_le, Nat.sub_zero, take_app3, set_get, take_set, List.length_set, List.map_set, reduceIte, reduceCtorEq, Nat.reduceEqDiff, Nat.reduceAdd, Nat.reduceLeDiff, Nat.reduceSub, Nat.reduceLT, Int.reduceEq, Int.reduceLT, Int.reduceLE, Int.reduceToNat, Int.reduceAdd, Int.reduceSub, Int.reduceMul, Int.reduceNeg, Int.cast_ofNat_Int]
 refine T S _ _ ?_
 simp only [U_ref10_Below, lw, le, Nat.zero_le, Nat.sub_zero, take_app3, set_get, take_set, List.length_set, List.map_set, reduceIte, reduceCtorEq, Nat.reduceEqDiff, Nat.reduceAdd, Nat.reduceLeDiff, Nat.reduceSub, Nat.reduceLT, Int.reduceEq, Int.reduceLT, Int.reduceLE, Int.reduceToNat, Int.reduceAdd, Int.reduceSub, Int.reduceMul, Int.reduceNeg, Int.cast_ofNat_Int]
theorem sp_ref10_Right : SP 53 = some (.code sc_ref10_Right) := SPof_code rfl Tryd.func53 comp_ref10_Right
/-! doorkeeper/doorkeeperref10.Right -/
def At_ref10_Right_3 (l_ : List Item) (i1 : Int) (r : Bool) : Prop := ∀ (S : Sto) (e : Nat → PV) (f : Fr), e 0 = .list 12 (l_.map eItem) false ∧ e 3 = .int .i64 i1 → k_ref10_Right_3 SP (E SP (.loop b_ref10_Right_3) ⟨e, f :: S⟩) = .ok (.v (.bool r)) S
def At_ref10_Right_1 (l_ : List Item) (i19 : Int) (r : Bool) : Prop := ∀ (S : Sto) (e : Nat → PV) (f : Fr), e 0 = .list 12 (l_.map eItem) false ∧ e 5 = .int .i64 i19 → k_ref10_Right_1 SP (E SP (.loop b_ref10_Right_1) ⟨e, f :: S⟩) = .ok (.v (.bool r)) S
def At_ref10_Right_2 (l_ : List Item) (i19 : Int) (i21 : Int) (i22 : Int) (i23 : Int) (i24 : Int) (r : Bool) : Prop := ∀ (S : Sto) (e : Nat → PV) (f : Fr), e 0 = .list 12 (l_.map eItem) false ∧ e 5 = .int .i64 i19 ∧ e 6 = .ptr 0 6 0 ∧ e 7 = .int .i64 i21 ∧ f.box 6 = some [.int .i64 i22, .int .i64 i23, .int .i64 i24] → k_ref10_Right_2 SP (E SP (.loop b_ref10_Right_2) ⟨e, f :: S⟩) = .ok (.v (.bool r)) S
set_option maxHeartbeats 4000000 in
theorem At_ref10_Right_3_step (l_ : List Item) (i1 : Int) (r : Bool) (T :
  ((i1 < ((l_.length : Nat) : Int)) →
  (0 ≤ i1) ∧
  ∃ (v2 : Item), (l_[i1.toNat]? = some v2) ∧
  ∃ (r3 : Bool), (R_ref10_MayName v2.Name r3) ∧
  ((r3 = true) →
   ((0 < i1) →
    (I64 (i1 - 1)) ∧
    (0 ≤ (i1 - 1)) ∧
    ∃ (v4 : Item), (l_[(i1 - 1).toNat]? = some v4) ∧
    (((bytesLess v4.Name v2.Name) = true) →
     ∃ (r5 : Bool), (R_ref10_MayVec v2.Limit r5) ∧
     ((r5 = true) →
      ∃ (r6 : Bool), (R_ref10_MayVec v2.Own r6) ∧
      ((r6 = true) →
       ((v2.Parent = []) →
        ((v2.Ver < 1) →
         false = r) ∧
        (¬ (v2.Ver < 1) →
         ((9007199254740992 < v2.Ver) →
          false = r) ∧
         (¬ (9007199254740992 < v2.Ver) →
          ∃ (r7 : Bool), (R_ref10_Le v2.Sub v2.Limit r7) ∧
          ((r7 = true) →
           ∃ (r8 : Bool), (R_ref10_MayVec v2.Sub r8) ∧
           ((r8 = true) →
            (I64 (i1 + 1)) ∧
            At_ref10_Right_3 l_ (i1 + 1) r) ∧
           (¬ (r8 = true) →
            false = r)) ∧
          (¬ (r7 = true) →
           false = r)))) ∧
       (¬ (v2.Parent = []) →
        ∃ (r9 : Int), (R_ref10_Find l_ v2.Parent r9) ∧
        ((r9 < 0) →
         false = r) ∧
        (¬ (r9 < 0) →
         ((v2.Ver < 1) →
          false = r) ∧
         (¬ (v2.Ver < 1) →
          ((9007199254740992 < v2.Ver) →
           false = r) ∧
          (¬ (9007199254740992 < v2.Ver) →
           ∃ (r10 : Bool), (R_ref10_Le v2.Sub v2.Limit r10) ∧
           ((r10 = true) →
            ∃ (r11 : Bool), (R_ref10_MayVec v2.Sub r11) ∧
            ((r11 = true) →
             (I64 (i1 + 1)) ∧
             At_ref10_Right_3 l_ (i1 + 1) r) ∧
            (¬ (r11 = true) →
             false = r)) ∧
           (¬ (r10 = true) →
            false = r)))))) ∧
      (¬ (r6 = true) →
       false = r)) ∧
     (¬ (r5 = true) →
      false = r)) ∧
    (¬ ((bytesLess v4.Name v2.Name) = true) →
     false = r)) ∧
   (¬ (0 < i1) →
    ∃ (r12 : Bool), (R_ref10_MayVec v2.Limit r12) ∧
    ((r12 = true) →
     ∃ (r13 : Bool), (R_ref10_MayVec v2.Own r13) ∧
     ((r13 = true) →
      ((v2.Parent = []) →
       ((v2.Ver < 1) →
        false = r) ∧
       (¬ (v2.Ver < 1) →
        ((9007199254740992 < v2.Ver) →
         false = r) ∧
        (¬ (9007199254740992 < v2.Ver) →
         ∃ (r14 : Bool), (R_ref10_Le v2.Sub v2.Limit r14) ∧
         ((r14 = true) →
          ∃ (r15 : Bool), (R_ref10_MayVec v2.Sub r15) ∧
          ((r15 = true) →
           (I64 (i1 + 1)) ∧
           At_ref10_Right_3 l_ (i1 + 1) r) ∧
          (¬ (r15 = true) →
           false = r)) ∧
         (¬ (r14 = true) →
          false = r)))) ∧
      (¬ (v2.Parent = []) →
       ∃ (r16 : Int), (R_ref10_Find l_ v2.Parent r16) ∧
       ((r16 < 0) →
        false = r) ∧
       (¬ (r16 < 0) →
        ((v2.Ver < 1) →
         false = r) ∧
        (¬ (v2.Ver < 1) →
         ((9007199254740992 < v2.Ver) →
          false = r) ∧
         (¬ (9007199254740992 < v2.Ver) →
          ∃ (r17 : Bool), (R_ref10_Le v2.Sub v2.Limit r17) ∧
          ((r17 = true) →
           ∃ (r18 : Bool), (R_ref10_MayVec v2.Sub r18) ∧
           ((r18 = true) →
            (I64 (i1 + 1)) ∧
            At_ref10_Right_3 l_ (i1 + 1) r) ∧
           (¬ (r18 = true) →
            false = r)) ∧
          (¬ (r17 = true) →
           false = r)))))) ∧
     (¬ (r13 = true) →
      false = r)) ∧
    (¬ (r12 = true) →
     false = r))) ∧
  (¬ (r3 = true) →
   false = r)) ∧
 (¬ (i1 < ((l_.length : Nat) : Int)) →
  At_ref10_Right_1 l_ 0 r)) : At_ref10_Right_3 l_ i1 r := by
 intro S e f h
 unfold k_ref10_Right_3
 rw [E_loop]
 by_cases c1 : i1 < ((l_.length : Nat) : Int)
 · replace T := T.1 c1
   obtain ⟨p2, v2, q3, r3, q4, T⟩ := T
   simp only [R_ref10_MayName, le] at q4
   by_cases c5 : r3 = true
   · replace T := T.1 c5
     by_cases c6 : 0 < i1
     · replace T := T.1 c6
       obtain ⟨p7, p8, v4, q9, T⟩ := T
       by_cases c10 : (bytesLess v4.Name v2.Name) = true
       · replace T := T.1 c10
         obtain ⟨r5, q11, T⟩ := T
         simp only [R_ref10_MayVec, le] at q11
         by_cases c12 : r5 = true
         · replace T := T.1 c12
           obtain ⟨r6, q13, T⟩ := T
           simp only [R_ref10_MayVec, le] at q13
           by_cases c14 : r6 = true
           · replace T := T.1 c14
             by_cases c15 : v2.Parent = []
             · replace T := T.1 c15
               by_cases c16 : v2.Ver < 1
               · replace T := T.1 c16
                 obtain rfl := T
                 simp only [h, eq_true c1, p2, q3, q4, c5, eq_true c6, p7.wrap, p8, q9, c10, q11, c12, q13, c14, eq_true c15, eq_true c16, U_ref10_Right, lw, le, Nat.zero_le, Nat.sub_zero, take_app3, set_get, take_set, List.length_set, List.map_set, reduceIte, reduceCtorEq, Nat.reduceEqDiff, Nat.reduceAdd, Nat.reduceLeDiff, Nat.reduceSub, Nat.reduceLT, Int.reduceEq, Int.reduceLT, Int.reduceLE, Int.reduceToNat, Int.reduceAdd, Int.reduceSub, Int.reduceMul, Int.reduceNeg, Int.cast_ofNat_Int]
               · replace T := T.2 c16
                 by_cases c17 : 9007199254740992 < v2.Ver
                 · replace T := T.1 c17
                   obtain rfl := T
                   simp only [h, eq_true c1, p2, q3, q4, c5, eq_true c6, p7.wrap, p8, q9, c10, q11, c12, q13, c14, eq_true c15, eq_false c16, eq_true c17, U_ref10_Right, lw, le, Nat.zero_le, Nat.sub_zero, take_app3, set_get, take_set, List.length_set, List.map_set, reduceIte, reduceCtorEq, Nat.reduceEqDiff, Nat.reduceAdd, Nat.reduceLeDiff, Nat.reduceSub, Nat.reduceLT, Int.reduceEq, Int.reduceLT, Int.reduceLE, Int.reduceToNat, Int.reduceAdd, Int.reduceSub, Int.reduceMul, Int.reduceNeg, Int.cast_ofNat_Int]
                 · replace T := T.2 c17
                   obtain ⟨r7, q18, T⟩ := T
                   simp only [R_ref10_Le, le] at q18
                   by_cases c19 : r7 = true
                   · replace T := T.1 c19
                     obtain ⟨r8, q20, T⟩ := T
                     simp only [R_ref10_MayVec, le] at q20
                     by_cases c21 : r8 = true
                     · replace T := T.1 c21
                       obtain ⟨p22, T⟩ := T
                       try simp only [h, eq_true c1, p2, q3, q4, c5, eq_true c6, p7.wrap, p8, q9, c10, q11, c12, q13, c14, eq_true c15, eq_false c16, eq_false c17, q18, c19, q20, c21, p22.wrap, U_ref10_Right, lw, le, Nat.zero_le, Nat.sub_zero, take_app3, set_get, take_set, List.length_set, List.map_set, reduceIte, reduceCtorEq, Nat.reduceEqDiff, Nat.reduceAdd, Nat.reduceLeDiff, Nat.reduceSub, Nat.reduceLT, Int.reduceEq, Int.reduceLT, Int.reduceLE, Int.reduceToNat, Int.reduceAdd, Int.reduceSub, Int.reduceMul, Int.reduceNeg, Int.cast_ofNat_Int]
                       refine T S _ _ ?_
                       simp only [h, eq_true c1, p2, q3, q4, c5, eq_true c6, p7.wrap, p8, q9, c10, q11, c12, q13, c14, eq_true c15, eq_false c16, eq_false c17, q18, c19, q20, c21, p22.wrap, U_ref10_Right, lw, le, Nat.zero_le, Nat.sub_zero, take_app3, set_get, take_set, List.length_set, List.map_set, reduceIte, reduceCtorEq, Nat.reduceEqDiff, Nat.reduceAdd, Nat.reduceLeDiff, Nat.reduceSub, Nat.reduceLT, Int.reduceEq, Int.reduceLT, Int.reduceLE, Int.reduceToNat, Int.reduceAdd, Int.reduceSub, Int.reduceMul, Int.reduceNeg, Int.cast_ofNat_Int]
                     · replace T := T.2 c21
                       replace c21 := Bool.eq_false_iff.2 c21
                       obtain rfl := T
                       simp only [h, eq_true c1, p2, q3, q4, c5, eq_true c6, p7.wrap, p8, q9, c10, q11, c12, q13, c14, eq_true c15, eq_false c16, eq_false c17, q18, c19, q20, c21, U_ref10_Right, lw, le, Nat.zero_le, Nat.sub_zero, take_app3, set_get, take_set, List.length_set, List.map_set, reduceIte, reduceCtorEq, Nat.reduceEqDiff, Nat.reduceAdd, Nat.reduceLeDiff, Nat.reduceSub, Nat.reduceLT, Int.reduceEq, Int.reduceLT, Int.reduceLE, Int.reduceToNat, Int.reduceAdd, Int.reduceSub, Int.reduceMul, Int.reduceNeg, Int.cast_ofNat_Int]
                   · replace T := T.2 c19
                     replace c19 := Bool.eq_false_iff.2 c19
                     obtain rfl := T
                     simp only [h, eq_true c1, p2, q3, q4, c5, eq_true c6, p7.wrap, p8, q9, c10, q11, c12, q13, c14, eq_true c15, eq_false c16, eq_false c17, q18, c19, U_ref10_Right, lw, le, Nat.zero_le, Nat.sub_zero, take_app3, set_get, take_set, List.length_set, List.map_set, reduceIte, reduceCtorEq, Nat.reduceEqDiff, Nat.reduceAdd, Nat.reduceLeDiff, Nat.reduceSub, Nat.reduceLT, Int.reduceEq, Int.reduceLT, Int.reduceLE, Int.reduceToNat, Int.reduceAdd, Int.reduceSub, Int.reduceMul, Int.reduceNeg, Int.cast_ofNat_Int]
             · replace T := T.2 c15
               obtain ⟨r9, q23, T⟩ := T
               simp only [R_ref10_Find, le] at q23
               by_cases c24 : r9 < 0
               · replace T := T.1 c24
                 obtain rfl := T
                 simp only [h, eq_true c1, p2, q3, q4, c5, eq_true c6, p7.wrap, p8, q9, c10, q11, c12, q13, c14, eq_false c15, q23, eq_true c24, U_ref10_Right, lw, le, Nat.zero_le, Nat.sub_zero, take_app3, set_get, take_set, List.length_set, List.map_set, reduceIte, reduceCtorEq, Nat.reduceEqDiff, Nat.reduceAdd, Nat.reduceLeDiff, Nat.reduceSub, Nat.reduceLT, Int.reduceEq, Int.reduceLT, Int.reduceLE, Int.reduceToNat, Int.reduceAdd, Int.reduceSub, Int.reduceMul, Int.reduceNeg, Int.cast_ofNat_Int]
               · replace T := T.2 c24
                 by_cases c25 : v2.Ver < 1
                 · replace T := T.1 c25
                   obtain rfl := T
                   simp only [h, eq_true c1, p2, q3, q4, c5, eq_true c6, p7.wrap, p8, q9, c10, q11, c12, q13, c14, eq_false c15, q23, eq_false c24, eq_true c25, U_ref10_Right, lw, le, Nat.zero_le, Nat.sub_zero, take_app3, set_get, take_set, List.length_set, List.map_set, reduceIte, reduceCtorEq, Nat.reduceEqDiff, Nat.reduceAdd, Nat.reduceLeDiff, Nat.reduceSub, Nat.reduceLT, Int.reduceEq, Int.reduceLT, Int.reduceLE, Int.reduceToNat, Int.reduceAdd, Int.reduceSub, Int.reduceMul, Int.reduceNeg, Int.cast_ofNat_Int]
                 · replace T := T.2 c25
                   by_cases c26 : 9007199254740992 < v2.Ver
                   · replace T := T.1 c26
                     obtain rfl := T
                     simp only [h, eq_true c1, p2, q3, q4, c5, eq_true c6, p7.wrap, p8, q9, c10, q11, c12, q13, c14, eq_false c15, q23, eq_false c24, eq_false c25, eq_true c26, U_ref10_Right, lw, le, Nat.zero_le, Nat.sub_zero, take_app3, set_get, take_set, List.length_set, List.map_set, reduceIte, reduceCtorEq, Nat.reduceEqDiff, Nat.reduceAdd, Nat.reduceLeDiff, Nat.reduceSub, Nat.reduceLT, Int.reduceEq, Int.reduceLT, Int.reduceLE, Int.reduceToNat, Int.reduceAdd, Int.reduceSub, Int.reduceMul, Int.reduceNeg, Int.cast_ofNat_Int]
                   · replace T := T.2 c26
                     obtain ⟨r10, q27, T⟩ := T
                     simp only [R_ref10_Le, le] at q27
                     by_cases c28 : r10 = true
                     · replace T := T.1 c28
                       obtain ⟨r11, q29, T⟩ := T
                       simp only [R_ref10_MayVec, le] at q29
                       by_cases c30 : r11 = true
                       · replace T := T.1 c30
                         obtain ⟨p31, T⟩ := T
                         try simp only [h, eq_true c1, p2, q3, q4, c5, eq_true c6, p7.wrap, p8, q9, c10, q11, c12, q13, c14, eq_false c15, q23, eq_false c24, eq_false c25, eq_false c26, q27, c28, q29, c30, p31.wrap, U_ref10_Right, lw, le, Nat.zero_le, Nat.sub_zero, take_app3, set_get, take_set, List.length_set, List.map_set, reduceIte, reduceCtorEq, Nat.reduceEqDiff, Nat.reduceAdd, Nat.reduceLeDiff, Nat.reduceSub, Nat.reduceLT, Int.reduceEq, Int.reduceLT, Int.reduceLE, Int.reduceToNat, Int.reduceAdd, Int.reduceSub, Int.reduceMul, Int.reduceNeg, Int.cast_ofNat_Int]
                         refine T S _ _ ?_
                         simp only [h, eq_true c1, p2, q3, q4, c5, eq_true c6, p7.wrap, p8, q9, c10, q11, c12, q13, c14, eq_false c15, q23, eq_false c24, eq_false c25, eq_false c26, q27, c28, q29, c30, p31.wrap, U_ref10_Right, lw, le, Nat.zero_le, Nat.sub_zero, take_app3, set_get, take_set, List.length_set, List.map_set, reduceIte, reduceCtorEq, Nat.reduceEqDiff, Nat.reduceAdd, Nat.reduceLeDiff, Nat.reduceSub, Nat.reduceLT, Int.reduceEq, Int.reduceLT, Int.reduceLE, Int.reduceToNat, Int.reduceAdd, Int.reduceSub, Int.reduceMul, Int.reduceNeg, Int.cast_ofNat_Int]
                       · replace T := T.2 c30
                         replace c30 := Bool.eq_false_iff.2 c30
                         obtain rfl := T
                         simp only [h, eq_true c1, p2, q3, q4, c5, eq_true c6, p7.wrap, p8, q9, c10, q11, c12, q13, c14, eq_false c15, q23, eq_false c24, eq_false c25, eq_false c26, q27, c28, q29, c30, U_ref10_Right, lw, le, Nat.zero_le, Nat.sub_zero, take_app3, set_get, take_set, List.length_set, List.map_set, reduceIte, reduceCtorEq, Nat.reduceEqDiff, Nat.reduceAdd, Nat.reduceLeDiff, Nat.reduceSub, Nat.reduceLT, Int.reduceEq, Int.reduceLT, Int.reduceLE, Int.reduceToNat, Int.reduceAdd, Int.reduceSub, Int.reduceMul, Int.reduceNeg, Int.cast_ofNat_Int]
                     · replace T := T.2 c28
                       replace c28 := Bool.eq_false_iff.2 c28
                       obtain rfl := T
                       simp only [h, eq_true c1, p2, q3, q4, c5, eq_true c6, p7.wrap, p8, q9, c10, q11, c12, q13, c14, eq_false c15, q23, eq_false c24, eq_false c25, eq_false c26, q27, c28, U_ref10_Right, lw, le, Nat.zero_le, Nat.sub_zero, take_app3, set_get, take_set, List.length_set, List.map_set, reduceIte, reduceCtorEq, Nat.reduceEqDiff, Nat.reduceAdd, Nat.reduceLeDiff, Nat.reduceSub, Nat.reduceLT, Int.reduceEq, Int.reduceLT, Int.reduceLE, Int.reduceToNat, Int.reduceAdd, Int.reduceSub, Int.reduceMul, Int.reduceNeg, Int.cast_ofNat_Int]
           · replace T := T.2 c14
             replace c14 := Bool.eq_false_iff.2 c14
             obtain rfl := T
             simp only [h, eq_true c1, p2, q3, q4, c5, eq_true c6, p7.wrap, p8, q9, c10, q11, c12, q13, c14, U_ref10_Right, lw, le, Nat.zero_le, Nat.sub_zero, take_app3, set_get, take_set, List.length_set, List.map_set, reduceIte, reduceCtorEq, Nat.reduceEqDiff, Nat.reduceAdd, Nat.reduceLeDiff, Nat.reduceSub, Nat.reduceLT, Int.reduceEq, Int.reduceLT, Int.reduceLE, Int.reduceToNat, Int.reduceAdd, Int.reduceSub, Int.reduceMul, Int.reduceNeg, Int.cast_ofNat_Int]
         · replace T := T.2 c12
           replace c12 := Bool.eq_false_iff.2 c12
           obtain rfl := T
           simp only [h, eq_true c1, p2, q3, q4, c5, eq_true c6, p7.wrap, p8, q9, c10, q11, c12, U_ref10_Right, lw, le, Nat.zero_le, Nat.sub_zero, take_app3, set_get, take_set, List.length_set, List.map_set, reduceIte, reduceCtorEq, Nat.reduceEqDiff, Nat.reduceAdd, Nat.reduceLeDiff, Nat.reduceSub, Nat.reduceLT, Int.reduceEq, Int.reduceLT, Int.reduceLE, Int.reduceToNat, Int.reduceAdd, Int.reduceSub, Int.reduceMul, Int.reduceNeg, Int.cast_ofNat_Int]
       · replace T := T.2 c10
         replace c10 := Bool.eq_false_iff.2 c10
         obtain rfl := T
         simp only [h, eq_true c1, p2, q3, q4, c5, eq_true c6, p7.wrap, p8, q9, c10, U_ref10_Right, lw, le, Nat.zero_le, Nat.sub_zero, take_app3, set_get, take_set, List.length_set, List.map_set, reduceIte, reduceCtorEq, Nat.reduceEqDiff, Nat.reduceAdd, Nat.reduceLeDiff, Nat.reduceSub, Nat.reduceLT, Int.reduceEq, Int.reduceLT, Int.reduceLE, Int.reduceToNat, Int.reduceAdd, Int.reduceSub, Int.reduceMul, Int.reduceNeg, Int.cast_ofNat_Int]
     · replace T := T.2 c6
       obtain ⟨r12, q32, T⟩ := T
       simp only [R_ref10_MayVec, le] at q32
       by_cases c33 : r12 = true
       · replace T := T.1 c33
         obtain ⟨r13, q34, T⟩ := T
         simp only [R_ref10_MayVec, le] at q34
         by_cases c35 : r13 = true
         · replace T := T.1 c35
           by_cases c36 : v2.Parent = []
           · replace T := T.1 c36
             by_cases c37 : v2.Ver < 1
             · replace T := T.1 c37
               obtain rfl := T
               simp only [h, eq_true c1, p2, q3, q4, c5, eq_false c6, q32, c33, q34, c35, eq_true c36, eq_true c37, U_ref10_Right, lw, le, Nat.zero_le, Nat.sub_zero, take_app3, set_get, take_set, List.length_set, List.map_set, reduceIte, reduceCtorEq, Nat.reduceEqDiff, Nat.reduceAdd, Nat.reduceLeDiff, Nat.reduceSub, Nat.reduceLT, Int.reduceEq, Int.reduceLT, Int.reduceLE, Int.reduceToNat, Int.reduceAdd, Int.reduceSub, Int.reduceMul, Int.reduceNeg, Int.cast_ofNat_Int]
             · replace T := T.2 c37
               by_cases c38 : 9007199254740992 < v2.Ver
               · replace T := T.1 c38
                 obtain rfl := T
                 simp only [h, eq_true c1, p2, q3, q4, c5, eq_false c6, q32, c33, q34, c35, eq_true c36, eq_false c37, eq_true c38, U_ref10_Right, lw, le, Nat.zero_le, Nat.sub_zero, take_app3, set_get, take_set, List.length_set, List.map_set, reduceIte, reduceCtorEq, Nat.reduceEqDiff, Nat.reduceAdd, Nat.reduceLeDiff, Nat.reduceSub, Nat.reduceLT, Int.reduceEq, Int.reduceLT, Int.reduceLE, Int.reduceToNat, Int.reduceAdd, Int.reduceSub, Int.reduceMul, Int.reduceNeg, Int.cast_ofNat_Int]
               · replace T := T.2 c38
                 obtain ⟨r14, q39, T⟩ := T
                 simp only [R_ref10_Le, le] at q39
                 by_cases c40 : r14 = true
                 · replace T := T.1 c40
                   obtain ⟨r15, q41, T⟩ := T
                   simp only [R_ref10_MayVec, le] at q41
                   by_cases c42 : r15 = true
                   · replace T := T.1 c42
                     obtain ⟨p43, T⟩ := T
                     try simp only [h, eq_true c1, p2, q3, q4, c5, eq_false c6, q32, c33, q34, c35, eq_true c36, eq_false c37, eq_false c38, q39, c40, q41, c42, p43.wrap, U_ref10_Right, lw, le, Nat.zero_le, Nat.sub_zero, take_app3, set_get, take_set, List.length_set, List.map_set, reduceIte, reduceCtorEq, Nat.reduceEqDiff, Nat.reduceAdd, Nat.reduceLeDiff, Nat.reduceSub, Nat.reduceLT, Int.reduceEq, Int.reduceLT, Int.reduceLE, Int.reduceToNat, Int.reduceAdd, Int.reduceSub, Int.reduceMul, Int.reduceNeg, Int.cast_ofNat_Int]
                     refine T S _ _ ?_
                     simp only [h, eq_true c1, p2, q3, q4, c5, eq_false c6, q32, c33, q34, c35, eq_true c36, eq_false c37, eq_false c38, q39, c40, q41, c42, p43.wrap, U_ref10_Right, lw, le, Nat.zero_le, Nat.sub_zero, take_app3, set_get, take_set, List.length_set, List.map_set, reduceIte, reduceCtorEq, Nat.reduceEqDiff, Nat.reduceAdd, Nat.reduceLeDiff, Nat.reduceSub, Nat.reduceLT, Int.reduceEq, Int.reduceLT, Int.reduceLE, Int.reduceToNat, Int.reduceAdd, Int.reduceSub, Int.reduceMul, Int.reduceNeg, Int.cast_ofNat_Int]
                   · replace T := T.2 c42
                     replace c42 := Bool.eq_false_iff.2 c42
                     obtain rfl := T
                     simp only [h, eq_true c1, p2, q3, q4, c5, eq_false c6, q32, c33, q34, c35, eq_true c36, eq_false c37, eq_false c38, q39, c40, q41, c42, U_ref10_Right, lw, le, Nat.zero_le, Nat.sub_zero, take_app3, set_get, take_set, List.length_set, List.map_set, reduceIte, reduceCtorEq, Nat.reduceEqDiff, Nat.reduceAdd, Nat.reduceLeDiff, Nat.reduceSub, Nat.reduceLT, Int.reduceEq, Int.reduceLT, Int.reduceLE, Int.reduceToNat, Int.reduceAdd, Int.reduceSub, Int.reduceMul, Int.reduceNeg, Int.cast_ofNat_Int]
                 · replace T := T.2 c40
                   replace c40 := Bool.eq_false_iff.2 c40
                   obtain rfl := T
                   simp only [h, eq_true c1, p2, q3, q4, c5, eq_false c6, q32, c33, q34, c35, eq_true c36, eq_false c37, eq_false c38, q39, c40, U_ref10_Right, lw, le, Nat.zero_le, Nat.sub_zero, take_app3, set_get, take_set, List.length_set, List.map_set, reduceIte, reduceCtorEq, Nat.reduceEqDiff, Nat.reduceAdd, Nat.reduceLeDiff, Nat.reduceSub, Nat.reduceLT, Int.reduceEq, Int.reduceLT, Int.reduceLE, Int.reduceToNat, Int.reduceAdd, Int.reduceSub, Int.reduceMul, Int.reduceNeg, Int.cast_ofNat_Int]
           · replace T := T.2 c36
             obtain ⟨r16, q44, T⟩ := T
             simp only [R_ref10_Find, le] at q44
             by_cases c45 : r16 < 0
             · replace T := T.1 c45
               obtain rfl := T
               simp only [h, eq_true c1, p2, q3, q4, c5, eq_false c6, q32, c33, q34, c35, eq_false c36, q44, eq_true c45, U_ref10_Right, lw, le, Nat.zero_le, Nat.sub_zero, take_app3, set_get, take_set, List.length_set, List.map_set, reduceIte, reduceCtorEq, Nat.reduceEqDiff, Nat.reduceAdd, Nat.reduceLeDiff, Nat.reduceSub, Nat.reduceLT, Int.reduceEq, Int.reduceLT, Int.reduceLE, Int.reduceToNat, Int.reduceAdd, Int.reduceSub, Int.reduceMul, Int.reduceNeg, Int.cast_ofNat_Int]
             · replace T := T.2 c45
               by_cases c46 : v2.Ver < 1
               · replace T := T.1 c46
                 obtain rfl := T
                 simp only [h, eq_true c1, p2, q3, q4, c5, eq_false c6, q32, c33, q34, c35, eq_false c36, q44, eq_false c45, eq_true c46, U_ref10_Right, lw, le, Nat.zero_le, Nat.sub_zero, take_app3, set_get, take_set, List.length_set, List.map_set, reduceIte, reduceCtorEq, Nat.reduceEqDiff, Nat.reduceAdd, Nat.reduceLeDiff, Nat.reduceSub, Nat.reduceLT, Int.reduceEq, Int.reduceLT, Int.reduceLE, Int.reduceToNat, Int.reduceAdd, Int.reduceSub, Int.reduceMul, Int.reduceNeg, Int.cast_ofNat_Int]
               · replace T := T.2 c46
                 by_cases c47 : 9007199254740992 < v2.Ver
                 · replace T := T.1 c47
                   obtain rfl := T
                   simp only [h, eq_true c1, p2, q3, q4, c5, eq_false c6, q32, c33, q34, c35, eq_false c36, q44, eq_false c45, eq_false c46, eq_true c47, U_ref10_Right, lw, le, Nat.zero_le, Nat.sub_zero, take_app3, set_get, take_set, List.length_set, List.map_set, reduceIte, reduceCtorEq, Nat.reduceEqDiff, Nat.reduceAdd, Nat.reduceLeDiff, Nat.reduceSub, Nat.reduceLT, Int.reduceEq, Int.reduceLT, Int.reduceLE, Int.reduceToNat, Int.reduceAdd, Int.reduceSub, Int.reduceMul, Int.reduceNeg, Int.cast_ofNat_Int]
                 · replace T := T.2 c47
                   obtain ⟨r17, q48, T⟩ := T
                   simp only [R_ref10_Le, le] at q48
                   by_cases c49 : r17 = true
                   · replace T := T.1 c49
                     obtain ⟨r18, q50, T⟩ := T
                     simp only [R_ref10_MayVec, le] at q50
                     by_cases c51 : r18 = true
                     · replace T := T.1 c51
                       obtain ⟨p52, T⟩ := T
                       try simp only [h, eq_true c1, p2, q3, q4, c5, eq_false c6, q32, c33, q34, c35, eq_false c36, q44, eq_false c45, eq_false c46, eq_false c47, q48, c49, q50, c51, p52.wrap, U_ref10_Right, lw, le, Nat.zero_le, Nat.sub_zero, take_app3, set_get, take_set, List.length_set, List.map_set, reduceIte, reduceCtorEq, Nat.reduceEqDiff, Nat.reduceAdd, Nat.reduceLeDiff, Nat.reduceSub, Nat.reduceLT, Int.reduceEq, Int.reduceLT, Int.reduceLE, Int.reduceToNat, Int.reduceAdd, Int.reduceSub, Int.reduceMul, Int.reduceNeg, Int.cast_ofNat_Int]
                       refine T S _ _ ?_
                       simp only [h, eq_true c1, p2, q3, q4, c5, eq_false c6, q32, c33, q34, c35, eq_false c36, q44, eq_false c45, eq_false c46, eq_false c47, q48, c49, q50, c51, p52.wrap, U_ref10_Right, lw, le, Nat.zero_le, Nat.sub_zero, take_app3, set_get, take_set, List.length_set, List.map_set, reduceIte, reduceCtorEq, Nat.reduceEqDiff, Nat.reduceAdd, Nat.reduceLeDiff, Nat.reduceSub, Nat.reduceLT, Int.reduceEq, Int.reduceLT, Int.reduceLE, Int.reduceToNat, Int.reduceAdd, Int.reduceSub, Int.reduceMul, Int.reduceNeg, Int.cast_ofNat_Int]
                     · replace T := T.2 c51
                       replace c51 := Bool.eq_false_iff.2 c51
                       obtain rfl := T
                       simp only [h, eq_true c1, p2, q3, q4, c5, eq_false c6, q32, c33, q34, c35, eq_false c36, q44, eq_false c45, eq_false c46, eq_false c47, q48, c49, q50, c51, U_ref10_Right, lw, le, Nat.zero_le, Nat.sub_zero, take_app3, set_get, take_set, List.length_set, List.map_set, reduceIte, reduceCtorEq, Nat.reduceEqDiff, Nat.reduceAdd, Nat.reduceLeDiff, Nat.reduceSub, Nat.reduceLT, Int.reduceEq, Int.reduceLT, Int.reduceLE, Int.reduceToNat, Int.reduceAdd, Int.reduceSub, Int.reduceMul, Int.reduceNeg, Int.cast_ofNat_Int]
                   · replace T := T.2 c49
                     replace c49 := Bool.eq_false_iff.2 c49
                     obtain rfl := T
                     simp only [h, eq_true c1, p2, q3, q4, c5, eq_false c6, q32, c33, q34, c35, eq_false c36, q44, eq_false c45, eq_false c46, eq_false c47, q48, c49, U_ref10_Right, lw, le, Nat.zero_le, Nat.sub_zero, take_app3, set_get, take_set, List.length_set, List.map_set, reduceIte, reduceCtorEq, Nat.reduceEqDiff, Nat.reduceAdd, Nat.reduceLeDiff, Nat.reduceSub, Nat.reduceLT, Int.reduceEq, Int.reduceLT, Int.reduceLE, Int.reduceToNat, Int.reduceAdd, Int.reduceSub, Int.reduceMul, Int.reduceNeg, Int.cast_ofNat_Int]
         · replace T := T.2 c35
           replace c35 := Bool.eq_false_iff.2 c35
           obtain rfl := T
           simp only [h, eq_true c1, p2, q3, q4, c5, eq_false c6, q32, c33, q34, c35, U_ref10_Right, lw, le, Nat.zero_le, Nat.sub_zero, take_app3, set_get, take_set, List.length_set, List.map_set, reduceIte, reduceCtorEq, Nat.reduceEqDiff, Nat.reduceAdd, Nat.reduceLeDiff, Nat.reduceSub, Nat.reduceLT, Int.reduceEq, Int.reduceLT, Int.reduceLE, Int.reduceToNat, Int.reduceAdd, Int.reduceSub, Int.reduceMul, Int.reduceNeg, Int.cast_ofNat_Int]
       · replace T := T.2 c33
         replace c33 := Bool.eq_false_iff.2 c33
         obtain rfl := T
         simp only [h, eq_true c1, p2, q3, q4, c5, eq_false c6, q32, c33, U_ref10_Right, lw, le, Nat.zero_le, Nat.sub_zero, take_app3, set_get, take_set, List.length_set, List.map_set, reduceIte, reduceCtorEq, Nat.reduceEqDiff, Nat.reduceAdd, Nat.reduceLeDiff, Nat.reduceSub, Nat.reduceLT, Int.reduceEq, Int.reduceLT, Int.reduceLE, Int.reduceToNat, Int.reduceAdd, Int.reduceSub, Int.reduceMul, Int.reduceNeg, Int.cast_ofNat_Int]
   · replace T := T.2 c5
     replace c5 := Bool.eq_false_iff.2 c5
     obtain rfl := T
     simp only [h, eq_true c1, p2, q3, q4, c5, U_ref10_Right, lw, le, Nat.zero_le, Nat.sub_zero, take_app3, set_get, take_set, List.length_set, List.map_set, reduceIte, reduceCtorEq, Nat.reduceEqDiff, Nat.reduceAdd, Nat.reduceLeDiff, Nat.reduceSub, Nat.reduceLT, Int.reduceEq, Int.reduceLT, Int.reduceLE, Int.reduceToNat, Int.reduceAdd, Int.reduceSub, Int.reduceMul, Int.reduceNeg, Int.cast_ofNat_Int]
 · replace T := T.2 c1
   try simp only [h, eq_false c1, U_ref10_Right, lw, le, Nat.zero_le, Nat.sub_zero, take_app3, set_get, take_set, List.length_set, List.map_set, reduceIte, reduceCtorEq, Nat.reduceEqDiff, Nat.reduceAdd, Nat.reduceLeDiff, Nat.reduceSub, Nat.reduceLT, Int.reduceEq, Int.reduceLT, Int.reduceLE, Int.reduceToNat, Int.reduceAdd, Int.reduceSub, Int.reduceMul, Int.reduceNeg, Int.cast_ofNat_Int]
   refine T S _ _ ?_
   simp only [h, eq_false c1, U_ref10_Right, lw, le, Nat.zero_le, Nat.sub_zero, take_app3, set_get, take_set, List.length_set, List.map_set, reduceIte, reduceCtorEq, Nat.reduceEqDiff, Nat.reduceAdd, Nat.reduceLeDiff, Nat.reduceSub, Nat.reduceLT, Int.reduceEq, Int.reduceLT, Int.reduceLE, Int.reduceToNat, Int.reduceAdd, Int.reduceSub, Int.reduceMul, Int.reduceNeg, Int.cast_ofNat_Int]
set_option maxHeartbeats 4000000 in
theorem At_ref10_Right_1_step (l_ : List Item) (i19 : Int) (r : Bool) (T :
  ((i19 < ((l_.length : Nat) : Int)) →
  (0 ≤ i19) ∧
  ∃ (v20 : Item), (l_[i19.toNat]? = some v20) ∧
  At_ref10_Right_2 l_ i19 0 v20.Own.Cpu v20.Own.Mem v20.Own.Pods r) ∧
 (¬ (i19 < ((l_.length : Nat) : Int)) →
  true = r)) : At_ref10_Right_1 l_ i19 r := by
 intro S e f h
 unfold k_ref10_Right_1
 rw [E_loop]
 by_cases c1 : i19 < ((l_.length : Nat) : Int)
 · replace T := T.1 c1
   obtain ⟨p2, v20, q3, T⟩ := T
   try simp only [h, eq_true c1, p2, q3, U_ref10_Right, lw, le, Nat.zero_le, Nat.sub_zero, take_app3, set_get, take_set, List.length_set, List.map_set, reduceIte, reduceCtorEq, Nat.reduceEqDiff, Nat.reduceAdd, Nat.reduceLeDiff, Nat.reduceSub, Nat.reduceLT, Int.reduceEq, Int.reduceLT, Int.reduceLE, Int.reduceToNat, Int.reduceAdd, Int.reduceSub, Int.reduceMul, Int.reduceNeg, Int.cast_ofNat_Int]
   refine T S _ _ ?_
   simp only [h, eq_true c1, p2, q3, U_ref10_Right, lw, le, Nat.zero_le, Nat.sub_zero, take_app3, set_get, take_set, List.length_set, List.map_set, reduceIte, reduceCtorEq, Nat.reduceEqDiff, Nat.reduceAdd, Nat.reduceLeDiff, Nat.reduceSub, Nat.reduceLT, Int.reduceEq, Int.reduceLT, Int.reduceLE, Int.reduceToNat, Int.reduceAdd, Int.reduceSub, Int.reduceMul, Int.reduceNeg, Int.cast_ofNat_Int]
 · replace T := T.2 c1
   obtain rfl := T
   simp only [h, eq_false c1, U_ref10_Right, lw, le, Nat.zero_le, Nat.sub_zero, take_app3, set_get, take_set, List.length_set, List.map_set, reduceIte, reduceCtorEq, Nat.reduceEqDiff, Nat.reduceAdd, Nat.reduceLeDiff, Nat.reduceSub, Nat.reduceLT, Int.reduceEq, Int.reduceLT, Int.reduceLE, Int.reduceToNat, Int.reduceAdd, Int.reduceSub, Int.reduceMul, Int.reduceNeg, Int.cast_ofNat_Int]
set_option maxHeartbeats 4000000 in
theorem At_ref10_Right_2_step (l_ : List Item) (i19 : Int) (i21 : Int) (i22 : Int) (i23 : Int) (i24 : Int) (r : Bool) (T :
  ((i21 < ((l_.length : Nat) : Int)) →
  (0 ≤ i21) ∧
  ∃ (v25 : Item), (l_[i21.toNat]? = some v25) ∧
  (0 ≤ i19) ∧
  ∃ (v26 : Item), (l_[i19.toNat]? = some v26) ∧
  ((v25.Parent = v26.Name) →
   ∃ (r27 : Vec), (R_ref10_Add (Vec.mk i22 i23 i24) v25.Sub r27) ∧
   (I64 (i21 + 1)) ∧
   At_ref10_Right_2 l_ i19 (i21 + 1) r27.Cpu r27.Mem r27.Pods r) ∧
  (¬ (v25.Parent = v26.Name) →
   (I64 (i21 + 1)) ∧
   At_ref10_Right_2 l_ i19 (i21 + 1) i22 i23 i24 r)) ∧
 (¬ (i21 < ((l_.length : Nat) : Int)) →
  (0 ≤ i19) ∧
  ∃ (v28 : Item), (l_[i19.toNat]? = some v28) ∧
  (((i22 = v28.Sub.Cpu) ∧ (i23 = v28.Sub.Mem) ∧ (i24 = v28.Sub.Pods)) →
   ∃ (r29 : List (List UInt8)), (R_ref10_Up l_ v28.Name r29) ∧
   ((((l_.length : Nat) : Int) < ((r29.length : Nat) : Int)) →
    false = r) ∧
   (¬ (((l_.length : Nat) : Int) < ((r29.length : Nat) : Int)) →
    (I64 (i19 + 1)) ∧
    At_ref10_Right_1 l_ (i19 + 1) r)) ∧
  (¬ ((i22 = v28.Sub.Cpu) ∧ (i23 = v28.Sub.Mem) ∧ (i24 = v28.Sub.Pods)) →
   false = r))) : At_ref10_Right_2 l_ i19 i21 i22 i23 i24 r := by
 intro S e f h
 unfold k_ref10_Right_2
 rw [E_loop]
 by_cases c1 : i21 < ((l_.length : Nat) : Int)
 · replace T := T.1 c1
   obtain ⟨p2, v25, q3, p4, v26, q5, T⟩ := T
   by_cases c6 : v25.Parent = v26.Name
   · replace T := T.1 c6
     obtain ⟨r27, q7, p8, T⟩ := T
     simp only [R_ref10_Add, le] at q7
     try simp only [h, eq_true c1, p2, q3, p4, q5, eq_true c6, q7, p8.wrap, U_ref10_Right, lw, le, Nat.zero_le, Nat.sub_zero, take_app3, set_get, take_set, List.length_set, List.map_set, reduceIte, reduceCtorEq, Nat.reduceEqDiff, Nat.reduceAdd, Nat.reduceLeDiff, Nat.reduceSub, Nat.reduceLT, Int.reduceEq, Int.reduceLT, Int.reduceLE, Int.reduceToNat, Int.reduceAdd, Int.reduceSub, Int.reduceMul, Int.reduceNeg, Int.cast_ofNat_Int]
     refine T S _ _ ?_
     simp only [h, eq_true c1, p2, q3, p4, q5, eq_true c6, q7, p8.wrap, U_ref10_Right, lw, le, Nat.zero_le, Nat.sub_zero, take_app3, set_get, take_set, List.length_set, List.map_set, reduceIte, reduceCtorEq, Nat.reduceEqDiff, Nat.reduceAdd, Nat.reduceLeDiff, Nat.reduceSub, Nat.reduceLT, Int.reduceEq, Int.reduceLT, Int.reduceLE, Int.reduceToNat, Int.reduceAdd, Int.reduceSub, Int.reduceMul, Int.reduceNeg, Int.cast_ofNat_Int]
   · replace T := T.2 c6
     obtain ⟨p9, T⟩ := T
     try simp only [h, eq_true c1, p2, q3, p4, q5, eq_false c6, p9.wrap, U_ref10_Right, lw, le, Nat.zero_le, Nat.sub_zero, take_app3, set_get, take_set, List.length_set, List.map_set, reduceIte, reduceCtorEq, Nat.reduceEqDiff, Nat.reduceAdd, Nat.reduceLeDiff, Nat.reduceSub, Nat.reduceLT, Int.reduceEq, Int.reduceLT, Int.reduceLE, Int.reduceToNat, Int.reduceAdd, Int.reduceSub, Int.reduceMul, Int.reduceNeg, Int.cast_ofNat_Int]
     refine T S _ _ ?_
     simp only [h, eq_true c1, p2, q3, p4, q5, eq_false c6, p9.wrap, U_ref10_Right, lw, le, Nat.zero_le, Nat.sub_zero, take_app3, set_get, take_set, List.length_set, List.map_set, reduceIte, reduceCtorEq, Nat.reduceEqDiff, Nat.reduceAdd, Nat.reduceLeDiff, Nat.reduceSub, Nat.reduceLT, Int.reduceEq, Int.reduceLT, Int.reduceLE, Int.reduceToNat, Int.reduceAdd, Int.reduceSub, Int.reduceMul, Int.reduceNeg, Int.cast_ofNat_Int]
 · replace T := T.2 c1
   obtain ⟨p10, v28, q11, T⟩ := T
   by_cases c12 : (i22 = v28.Sub.Cpu) ∧ (i23 = v28.Sub.Mem) ∧ (i24 = v28.Sub.Pods)
   · replace T := T.1 c12
     obtain ⟨r29, q13, T⟩ := T
     simp only [R_ref10_Up, le] at q13
     by_cases c14 : ((l_.length : Nat) : Int) < ((r29.length : Nat) : Int)
     · replace T := T.1 c14
       obtain rfl := T
       simp only [h, eq_false c1, p10, q11, eq_true c12.1, eq_true c12.2.1, eq_true c12.2.2, q13, eq_true c14, U_ref10_Right, lw, le, Nat.zero_le, Nat.sub_zero, take_app3, set_get, take_set, List.length_set, List.map_set, reduceIte, reduceCtorEq, Nat.reduceEqDiff, Nat.reduceAdd, Nat.reduceLeDiff, Nat.reduceSub, Nat.reduceLT, Int.reduceEq, Int.reduceLT, Int.reduceLE, Int.reduceToNat, Int.reduceAdd, Int.reduceSub, Int.reduceMul, Int.reduceNeg, Int.cast_ofNat_Int]
     · replace T := T.2 c14
       obtain ⟨p15, T⟩ := T
       try simp only [h, eq_false c1, p10, q11, eq_true c12.1, eq_true c12.2.1, eq_true c12.2.2, q13, eq_false c14, p15.wrap, U_ref10_Right, lw, le, Nat.zero_le, Nat.sub_zero, take_app3, set_get, take_set, List.length_set, List.map_set, reduceIte, reduceCtorEq, Nat.reduceEqDiff, Nat.reduceAdd, Nat.reduceLeDiff, Nat.reduceSub, Nat.reduceLT, Int.reduceEq, Int.reduceLT, Int.reduceLE, Int.reduceToNat, Int.reduceAdd, Int.reduceSub, Int.reduceMul, Int.reduceNeg, Int.cast_ofNat_Int]
       refine T S _ _ ?_
       simp only [h, eq_false c1, p10, q11, eq_true c12.1, eq_true c12.2.1, eq_true c12.2.2, q13, eq_false c14, p15.wrap, U_ref10_Right, lw, le, Nat.zero_le, Nat.sub_zero, take_app3, set_get, take_set, List.length_set, List.map_set, reduceIte, reduceCtorEq, Nat.reduceEqDiff, Nat.reduceAdd, Nat.reduceLeDiff, Nat.reduceSub, Nat.reduceLT, Int.reduceEq, Int.reduceLT, Int.reduceLE, Int.reduceToNat, Int.reduceAdd, Int.reduceSub, Int.reduceMul, Int.reduceNeg, Int.cast_ofNat_Int]
   · replace T := T.2 c12
     have c12' : (decide (i22 = v28.Sub.Cpu) && (decide (i23 = v28.Sub.Mem) && (decide (i24 = v28.Sub.Pods)))) = false := by simp only [← Bool.not_eq_true, Bool.and_eq_true, decide_eq_true_eq]; exact c12
     obtain rfl := T
     simp only [h, eq_false c1, p10, q11, c12', U_ref10_Right, lw, le, Nat.zero_le, Nat.sub_zero, take_app3, set_get, take_set, List.length_set, List.map_set, reduceIte, reduceCtorEq, Nat.reduceEqDiff, Nat.reduceAdd, Nat.reduceLeDiff, Nat.reduceSub, Nat.reduceLT, Int.reduceEq, Int.reduceLT, Int.reduceLE, Int.reduceToNat, Int.reduceAdd, Int.reduceSub, Int.reduceMul, Int.reduceNeg, Int.cast_ofNat_Int]
set_option maxHeartbeats 4000000 in
theorem ref10_Right_tree (l_ : List Item) (r : Bool) (T :
  ((120 < ((l_.length : Nat) : Int)) →
  false = r) ∧
 (¬ (120 < ((l_.length : Nat) : Int)) →
  At_ref10_Right_3 l_ 0 r)) : R_ref10_Right l_ r := by
 intro S
 rw [call_code sp_ref10_Right _ _ rfl]
 by_cases c1 : 120 < ((l_.length : Nat) : Int)
 · replace T := T.1 c1
   obtain rfl := T
   simp only [eq_true c1, U_ref10_Right, lw, le, Nat.zero_le, Nat.sub_zero, take_app3, set_get, take_set, List.length_set, List.map_set, reduceIte, reduceCtorEq, Nat.reduceEqDiff, Nat.reduceAdd, Nat.reduceLeDiff, Nat.reduceSub, Nat.reduceLT, Int.reduceEq, Int.reduceLT, Int.reduceLE, Int.reduceToNat, Int.reduceAdd, Int.reduceSub, Int.reduceMul, Int.reduceNeg, Int.cast_ofNat_Int]
 · replace T := T.2 c1
   try simp only [eq_false c1, U_ref10_Right, lw, le, Nat.zero_le, Nat.sub_zero, take_app3, set_get, take_set, List.length_set, List.map_set, reduceIte, reduceCtorEq, Nat.reduceEqDiff, Nat.reduceAdd, Nat.reduceLeDiff, Nat.reduceSub, Nat.reduceLT, Int.reduceEq, Int.reduceLT, Int.reduceLE, Int.reduceToNat, Int.reduceAdd, Int.reduceSub, Int.reduceMul, Int.reduceNeg, Int.cast_ofNat_Int]
   refine T S _ _ ?_
   simp only [eq_false c1, U_ref10_Right, lw, le, Nat.zero_le, Nat.sub_zero, take_app3, set_get, take_set, List.length_set, List.map_set, reduceIte, reduceCtorEq, Nat.reduceEqDiff, Nat.reduceAdd, Nat.reduceLeDiff, Nat.reduceSub, Nat.reduceLT, Int.reduceEq, Int.reduceLT, Int.reduceLE, Int.reduceToNat, Int.reduceAdd, Int.reduceSub, Int.reduceMul, Int.reduceNeg, Int.cast_ofNat_Int]
theorem sp_ref10_VecText : SP 21 = some (.code sc_ref10_VecText) := SPof_code rfl Tryd.func21 comp_ref10_VecText
/-! doorkeeper/doorkeeperref10.VecText -/
set_option maxHeartbeats 4000000 in
theorem ref10_VecText_tree (v : Vec) (r : List UInt8) (T :
  ∃ (r1 : List UInt8), (R_ref1_Digits v.Cpu r1) ∧
 (4 + r1.length ≤ maxInt) ∧
 (r1.length + 1 + 1 + 1 + 1 + 5 ≤ maxInt) ∧
 ∃ (r2 : List UInt8), (R_ref1_Digits v.Mem r2) ∧
 (r1.length + 5 + 1 + 1 + 1 + 1 + r2.length ≤ maxInt) ∧
 (r1.length + 5 + r2.length + 1 + 1 + 1 + 1 + 6 ≤ maxInt) ∧
 ∃ (r3 : List UInt8), (R_ref1_Digits v.Pods r3) ∧
 (r1.length + 5 + r2.length + 6 + 1 + 1 + 1 + 1 + r3.length ≤ maxInt) ∧
 ((((([99, 112, 117, 61] ++ r1) ++ [32, 109, 101, 109, 61]) ++ r2) ++ [32, 112, 111, 100, 115, 61]) ++ r3) = r) : R_ref10_VecText v r := by
 intro S
 rw [call_code sp_ref10_VecText _ _ rfl]
 obtain ⟨r1, q1, p2, p3, r2, q4, p5, p6, r3, q7, p8, rfl⟩ := T
 simp only [R_ref1_Digits, le] at q1
 simp only [R_ref1_Digits, le] at q4
 simp only [R_ref1_Digits, le] at q7
 simp only [q1, p2, p3, q4, p5, p6, q7, p8, U_ref10_VecText, lw, le, Nat.zero_le, Nat.sub_zero, take_app3, set_get, take_set, List.length_set, List.map_set, reduceIte, reduceCtorEq, Nat.reduceEqDiff, Nat.reduceAdd, Nat.reduceLeDiff, Nat.reduceSub, Nat.reduceLT, Int.reduceEq, Int.reduceLT, Int.reduceLE, Int.reduceToNat, Int.reduceAdd, Int.reduceSub, Int.reduceMul, Int.reduceNeg, Int.cast_ofNat_Int]
theorem sp_ref10_MayVec : SP 19 = some (.code sc_ref10_MayVec) := SPof_code rfl Tryd.func19 comp_ref10_MayVec
/-! doorkeeper/doorkeeperref10.MayVec -/
set_option maxHeartbeats 4000000 in
theorem ref10_MayVec_tree (v : Vec) (r : Bool) (T :
  ∃ (r1 : Bool), (R_ref10_unit v.Cpu r1) ∧
 ((r1 = true) →
  ∃ (r2 : Bool), (R_ref10_unit v.Mem r2) ∧
  ((r2 = true) →
   ∃ (r3 : Bool), (R_ref10_unit v.Pods r3) ∧
   r3 = r) ∧
  (¬ (r2 = true) →
   false = r)) ∧
 (¬ (r1 = true) →
  false = r)) : R_ref10_MayVec v r := by
 intro S
 rw [call_code sp_ref10_MayVec _ _ rfl]
 obtain ⟨r1, q1, T⟩ := T
 simp only [R_ref10_unit, le] at q1
 by_cases c2 : r1 = true
 · replace T := T.1 c2
   obtain ⟨r2, q3, T⟩ := T
   simp only [R_ref10_unit, le] at q3
   by_cases c4 : r2 = true
   · replace T := T.1 c4
     obtain ⟨r3, q5, rfl⟩ := T
     simp only [R_ref10_unit, le] at q5
     simp only [q1, c2, q3, c4, q5, U_ref10_MayVec, lw, le, Nat.zero_le, Nat.sub_zero, take_app3, set_get, take_set, List.length_set, List.map_set, reduceIte, reduceCtorEq, Nat.reduceEqDiff, Nat.reduceAdd, Nat.reduceLeDiff, Nat.reduceSub, Nat.reduceLT, Int.reduceEq, Int.reduceLT, Int.reduceLE, Int.reduceToNat, Int.reduceAdd, Int.reduceSub, Int.reduceMul, Int.reduceNeg, Int.cast_ofNat_Int]
   · replace T := T.2 c4
     replace c4 := Bool.eq_false_iff.2 c4
     obtain rfl := T
     simp only [q1, c2, q3, c4, U_ref10_MayVec, lw, le, Nat.zero_le, Nat.sub_zero, take_app3, set_get, take_set, List.length_set, List.map_set, reduceIte, reduceCtorEq, Nat.reduceEqDiff, Nat.reduceAdd, Nat.reduceLeDiff, Nat.reduceSub, Nat.reduceLT, Int.reduceEq, Int.reduceLT, Int.reduceLE, Int.reduceToNat, Int.reduceAdd, Int.reduceSub, Int.reduceMul, Int.reduceNeg, Int.cast_ofNat_Int]
 · replace T := T.2 c2
   replace c2 := Bool.eq_false_iff.2 c2
   obtain rfl := T
   simp only [q1, c2, U_ref10_MayVec, lw, le, Nat.zero_le, Nat.sub_zero, take_app3, set_get, take_set, List.length_set, List.map_set, reduceIte, reduceCtorEq, Nat.reduceEqDiff, Nat.reduceAdd, Nat.reduceLeDiff, Nat.reduceSub, Nat.reduceLT, Int.reduceEq, Int.reduceLT, Int.reduceLE, Int.reduceToNat, Int.reduceAdd, Int.reduceSub, Int.reduceMul, Int.reduceNeg, Int.cast_ofNat_Int]
theorem sp_ref10_Le : SP 24 = some (.code sc_ref10_Le) := SPof_code rfl Tryd.func24 comp_ref10_Le
/-! doorkeeper/doorkeeperref10.Le -/
set_option maxHeartbeats 4000000 in
theorem ref10_Le_tree (a : Vec) (b : Vec) (r : Bool) (T :
  ((a.Cpu ≤ b.Cpu) →
  ((a.Mem ≤ b.Mem) →
   (decide (a.Pods ≤ b.Pods)) = r) ∧
  (¬ (a.Mem ≤ b.Mem) →
   false = r)) ∧
 (¬ (a.Cpu ≤ b.Cpu) →
  false = r)) : R_ref10_Le a b r := by
 intro S
 rw [call_code sp_ref10_Le _ _ rfl]
 by_cases c1 : a.Cpu ≤ b.Cpu
 · replace T := T.1 c1
   by_cases c2 : a.Mem ≤ b.Mem
   · replace T := T.1 c2
     obtain rfl := T
     simp only [eq_true c1, eq_true c2, U_ref10_Le, lw, le, Nat.zero_le, Nat.sub_zero, take_app3, set_get, take_set, List.length_set, List.map_set, reduceIte, reduceCtorEq, Nat.reduceEqDiff, Nat.reduceAdd, Nat.reduceLeDiff, Nat.reduceSub, Nat.reduceLT, Int.reduceEq, Int.reduceLT, Int.reduceLE, Int.reduceToNat, Int.reduceAdd, Int.reduceSub, Int.reduceMul, Int.reduceNeg, Int.cast_ofNat_Int]
   · replace T := T.2 c2
     obtain rfl := T
     simp only [eq_true c1, eq_false c2, U_ref10_Le, lw, le, Nat.zero_le, Nat.sub_zero, take_app3, set_get, take_set, List.length_set, List.map_set, reduceIte, reduceCtorEq, Nat.reduceEqDiff, Nat.reduceAdd, Nat.reduceLeDiff, Nat.reduceSub, Nat.reduceLT, Int.reduceEq, Int.reduceLT, Int.reduceLE, Int.reduceToNat, Int.reduceAdd, Int.reduceSub, Int.reduceMul, Int.reduceNeg, Int.cast_ofNat_Int]
 · replace T := T.2 c1
   obtain rfl := T
   simp only [eq_false c1, U_ref10_Le, lw, le, Nat.zero_le, Nat.sub_zero, take_app3, set_get, take_set, List.length_set, List.map_set, reduceIte, reduceCtorEq, Nat.reduceEqDiff, Nat.reduceAdd, Nat.reduceLeDiff, Nat.reduceSub, Nat.reduceLT, Int.reduceEq, Int.reduceLT, Int.reduceLE, Int.reduceToNat, Int.reduceAdd, Int.reduceSub, Int.reduceMul, Int.reduceNeg, Int.cast_ofNat_Int]
theorem sp_ref10_Add : SP 68 = some (.code sc_ref10_Add) := SPof_code rfl Tryd.func68 comp_ref10_Add
/-! doorkeeper/doorkeeperref10.Add -/
set_option maxHeartbeats 4000000 in
theorem ref10_Add_tree (a : Vec) (b : Vec) (r : Vec) (T :
  (I64 (a.Cpu + b.Cpu)) ∧
 (I64 (a.Mem + b.Mem)) ∧
 (I64 (a.Pods + b.Pods)) ∧
 (Vec.mk (a.Cpu + b.Cpu) (a.Mem + b.Mem) (a.Pods + b.Pods)) = r) : R_ref10_Add a b r := by
 intro S
 rw [call_code sp_ref10_Add _ _ rfl]
 obtain ⟨p1, p2, p3, rfl⟩ := T
 simp only [p1.wrap, p2.wrap, p3.wrap, U_ref10_Add, lw, le, Nat.zero_le, Nat.sub_zero, take_app3, set_get, take_set, List.length_set, List.map_set, reduceIte, reduceCtorEq, Nat.reduceEqDiff, Nat.reduceAdd, Nat.reduceLeDiff, Nat.reduceSub, Nat.reduceLT, Int.reduceEq, Int.reduceLT, Int.reduceLE, Int.reduceToNat, Int.reduceAdd, Int.reduceSub, Int.reduceMul, Int.reduceNeg, Int.cast_ofNat_Int]
theorem sp_ref10_unit : SP 66 = some (.code sc_ref10_unit) := SPof_code rfl Tryd.func66 comp_ref10_unit
/-! doorkeeper/doorkeeperref10.unit -/
set_option maxHeartbeats 4000000 in
theorem ref10_unit_tree (n : Int) (r : Bool) (T :
  ((0 ≤ n) →
  (decide (n ≤ 1099511627776)) = r) ∧
 (¬ (0 ≤ n) →
  false = r)) : R_ref10_unit n r := by
 intro S
 rw [call_code sp_ref10_unit _ _ rfl]
 by_cases c1 : 0 ≤ n
 · replace T := T.1 c1
   obtain rfl := T
   simp only [eq_true c1, U_ref10_unit, lw, le, Nat.zero_le, Nat.sub_zero, take_app3, set_get, take_set, List.length_set, List.map_set, reduceIte, reduceCtorEq, Nat.reduceEqDiff, Nat.reduceAdd, Nat.reduceLeDiff, Nat.reduceSub, Nat.reduceLT, Int.reduceEq, Int.reduceLT, Int.reduceLE, Int.reduceToNat, Int.reduceAdd, Int.reduceSub, Int.reduceMul, Int.reduceNeg, Int.cast_ofNat_Int]
 · replace T := T.2 c1
   obtain rfl := T
   simp only [eq_false c1, U_ref10_unit, lw, le, Nat.zero_le, Nat.sub_zero, take_app3, set_get, take_set, List.length_set, List.map_set, reduceIte, reduceCtorEq, Nat.reduceEqDiff, Nat.reduceAdd, Nat.reduceLeDiff, Nat.reduceSub, Nat.reduceLT, Int.reduceEq, Int.reduceLT, Int.reduceLE, Int.reduceToNat, Int.reduceAdd, Int.reduceSub, Int.reduceMul, Int.reduceNeg, Int.cast_ofNat_Int]
theorem sp_ref10_MayName : SP 88 = some (.code sc_ref10_MayName) := SPof_code rfl Tryd.func88 comp_ref10_MayName
/-! doorkeeper/doorkeeperref10.MayName -/
set_option maxHeartbeats 4000000 in
theorem ref10_MayName_tree (s : List UInt8) (r : Bool) (T :
  ((s = []) →
  false = r) ∧
 (¬ (s = []) →
  (decide (((s.length : Nat) : Int) ≤ 24)) = r)) : R_ref10_MayName s r := by
 intro S
 rw [call_code sp_ref10_MayName _ _ rfl]
 by_cases c1 : s = []
 · replace T := T.1 c1
   obtain rfl := T
   simp only [eq_true c1, U_ref10_MayName, lw, le, Nat.zero_le, Nat.sub_zero, take_app3, set_get, take_set, List.length_set, List.map_set, reduceIte, reduceCtorEq, Nat.reduceEqDiff, Nat.reduceAdd, Nat.reduceLeDiff, Nat.reduceSub, Nat.reduceLT, Int.reduceEq, Int.reduceLT, Int.reduceLE, Int.reduceToNat, Int.reduceAdd, Int.reduceSub, Int.reduceMul, Int.reduceNeg, Int.cast_ofNat_Int]
 · replace T := T.2 c1
   obtain rfl := T
   simp only [eq_false c1, U_ref10_MayName, lw, le, Nat.zero_le, Nat.sub_zero, take_app3, set_get, take_set, List.length_set, List.map_set, reduceIte, reduceCtorEq, Nat.reduceEqDiff, Nat.reduceAdd, Nat.reduceLeDiff, Nat.reduceSub, Nat.reduceLT, Int.reduceEq, Int.reduceLT, Int.reduceLE, Int.reduceToNat, Int.reduceAdd, Int.reduceSub, Int.reduceMul, Int.reduceNeg, Int.cast_ofNat_Int]
theorem sp_law16_Great : SP 46 = some (.code sc_law16_Great) := SPof_code rfl Tryd.func46 comp_law16_Great
/-! doorkeeper/doorkeeperlaw16.Great -/
def At_law16_Great_2 (w : Work) (i1 : Int) (r : Bool) : Prop := ∀ (S : Sto) (e : Nat → PV) (f : Fr), e 1 = .ptr 0 1 0 ∧ e 3 = .int .i64 i1 ∧ f.box 1 = some [.list 6 (w.Marks.map eMark) false, .list 6 (w.Plan.map ePStep) false, .int .i64 w.Done] → k_law16_Great_2 SP (E SP (.loop b_law16_Great_2) ⟨e, f :: S⟩) = .ok (.v (.bool r)) S
def At_law16_Great_1 (w : Work) (i3 : Int) (r : Bool) : Prop := ∀ (S : Sto) (e : Nat → PV) (f : Fr), e 1 = .ptr 0 1 0 ∧ e 4 = .int .i64 i3 ∧ f.box 1 = some [.list 6 (w.Marks.map eMark) false, .list 6 (w.Plan.map ePStep) false, .int .i64 w.Done] → k_law16_Great_1 SP (E SP (.loop b_law16_Great_1) ⟨e, f :: S⟩) = .ok (.v (.bool r)) S
set_option maxHeartbeats 4000000 in
theorem At_law16_Great_2_step (w : Work) (i1 : Int) (r : Bool) (T :
  ((i1 < ((w.Marks.length : Nat) : Int)) →
  ((i1 < 300) →
   (0 ≤ i1) ∧
   ∃ (v2 : Mark), (w.Marks[i1.toNat]? = some v2) ∧
   ((100 < ((v2.Name.length : Nat) : Int)) →
    true = r) ∧
   (¬ (100 < ((v2.Name.length : Nat) : Int)) →
    ((100 < ((v2.Parent.length : Nat) : Int)) →
     true = r) ∧
    (¬ (100 < ((v2.Parent.length : Nat) : Int)) →
     (I64 (i1 + 1)) ∧
     At_law16_Great_2 w (i1 + 1) r))) ∧
  (¬ (i1 < 300) →
   At_law16_Great_1 w 0 r)) ∧
 (¬ (i1 < ((w.Marks.length : Nat) : Int)) →
  At_law16_Great_1 w 0 r)) : At_law16_Great_2 w i1 r := by
 intro S e f h
 unfold k_law16_Great_2
 rw [E_loop]
 by_cases c1 : i1 < ((w.Marks.length : Nat) : Int)
 · replace T := T.1 c1
   by_cases c2 : i1 < 300
   · replace T := T.1 c2
     obtain ⟨p3, v2, q4, T⟩ := T
     by_cases c5 : 100 < ((v2.Name.length : Nat) : Int)
     · replace T := T.1 c5
       obtain rfl := T
       simp only [h, eq_true c1, eq_true c2, p3, q4, eq_true c5, U_law16_Great, lw, le, Nat.zero_le, Nat.sub_zero, take_app3, set_get, take_set, List.length_set, List.map_set, reduceIte, reduceCtorEq, Nat.reduceEqDiff, Nat.reduceAdd, Nat.reduceLeDiff, Nat.reduceSub, Nat.reduceLT, Int.reduceEq, Int.reduceLT, Int.reduceLE, Int.reduceToNat, Int.reduceAdd, Int.reduceSub, Int.reduceMul, Int.reduceNeg, Int.cast_ofNat_Int]
     · replace T := T.2 c5
       by_cases c6 : 100 < ((v2.Parent.length : Nat) : Int)
       · replace T := T.1 c6
         obtain rfl := T
         simp only [h, eq_true c1, eq_true c2, p3, q4, eq_false c5, eq_true c6, U_law16_Great, lw, le, Nat.zero_le, Nat.sub_zero, take_app3, set_get, take_set, List.length_set, List.map_set, reduceIte, reduceCtorEq, Nat.reduceEqDiff, Nat.reduceAdd, Nat.reduceLeDiff, Nat.reduceSub, Nat.reduceLT, Int.reduceEq, Int.reduceLT, Int.reduceLE, Int.reduceToNat, Int.reduceAdd, Int.reduceSub, Int.reduceMul, Int.reduceNeg, Int.cast_ofNat_Int]
       · replace T := T.2 c6
         obtain ⟨p7, T⟩ := T
         try simp only [h, eq_true c1, eq_true c2, p3, q4, eq_false c5, eq_false c6, p7.wrap, U_law16_Great, lw, le, Nat.zero_le, Nat.sub_zero, take_app3, set_get, take_set, List.length_set, List.map_set, reduceIte, reduceCtorEq, Nat.reduceEqDiff, Nat.reduceAdd, Nat.reduceLeDiff, Nat.reduceSub, Nat.reduceLT, Int.reduceEq, Int.reduceLT, Int.reduceLE, Int.reduceToNat, Int.reduceAdd, Int.reduceSub, Int.reduceMul, Int.reduceNeg, Int.cast_ofNat_Int]
         refine T S _ _ ?_
         simp only [h, eq_true c1, eq_true c2, p3, q4, eq_false c5, eq_false c6, p7.wrap, U_law16_Great, lw, le, Nat.zero_le, Nat.sub_zero, take_app3, set_get, take_set, List.length_set, List.map_set, reduceIte, reduceCtorEq, Nat.reduceEqDiff, Nat.reduceAdd, Nat.reduceLeDiff, Nat.reduceSub, Nat.reduceLT, Int.reduceEq, Int.reduceLT, Int.reduceLE, Int.reduceToNat, Int.reduceAdd, Int.reduceSub, Int.reduceMul, Int.reduceNeg, Int.cast_ofNat_Int]
   · replace T := T.2 c2
     try simp only [h, eq_true c1, eq_false c2, U_law16_Great, lw, le, Nat.zero_le, Nat.sub_zero, take_app3, set_get, take_set, List.length_set, List.map_set, reduceIte, reduceCtorEq, Nat.reduceEqDiff, Nat.reduceAdd, Nat.reduceLeDiff, Nat.reduceSub, Nat.reduceLT, Int.reduceEq, Int.reduceLT, Int.reduceLE, Int.reduceToNat, Int.reduceAdd, Int.reduceSub, Int.reduceMul, Int.reduceNeg, Int.cast_ofNat_Int]
     refine T S _ _ ?_
     simp only [h, eq_true c1, eq_false c2, U_law16_Great, lw, le, Nat.zero_le, Nat.sub_zero, take_app3, set_get, take_set, List.length_set, List.map_set, reduceIte, reduceCtorEq, Nat.reduceEqDiff, Nat.reduceAdd, Nat.reduceLeDiff, Nat.reduceSub, Nat.reduceLT, Int.reduceEq, Int.reduceLT, Int.reduceLE, Int.reduceToNat, Int.reduceAdd, Int.reduceSub, Int.reduceMul, Int.reduceNeg, Int.cast_ofNat_Int]
 · replace T := T.2 c1
   try simp only [h, eq_false c1, U_law16_Great, lw, le, Nat.zero_le, Nat.sub_zero, take_app3, set_get, take_set, List.length_set, List.map_set, reduceIte, reduceCtorEq, Nat.reduceEqDiff, Nat.reduceAdd, Nat.reduceLeDiff, Nat.reduceSub, Nat.reduceLT, Int.reduceEq, Int.reduceLT, Int.reduceLE, Int.reduceToNat, Int.reduceAdd, Int.reduceSub, Int.reduceMul, Int.reduceNeg, Int.cast_ofNat_Int]
   refine T S _ _ ?_
   simp only [h, eq_false c1, U_law16_Great, lw, le, Nat.zero_le, Nat.sub_zero, take_app3, set_get, take_set, List.length_set, List.map_set, reduceIte, reduceCtorEq, Nat.reduceEqDiff, Nat.reduceAdd, Nat.reduceLeDiff, Nat.reduceSub, Nat.reduceLT, Int.reduceEq, Int.reduceLT, Int.reduceLE, Int.reduceToNat, Int.reduceAdd, Int.reduceSub, Int.reduceMul, Int.reduceNeg, Int.cast_ofNat_Int]
set_option maxHeartbeats 4000000 in
theorem At_law16_Great_1_step (w : Work) (i3 : Int) (r : Bool) (T :
  ((i3 < ((w.Plan.length : Nat) : Int)) →
  ((i3 < 600) →
   (0 ≤ i3) ∧
   ∃ (v4 : PStep), (w.Plan[i3.toNat]? = some v4) ∧
   ((100 < ((v4.Name.length : Nat) : Int)) →
    true = r) ∧
   (¬ (100 < ((v4.Name.length : Nat) : Int)) →
    ((100 < ((v4.Parent.length : Nat) : Int)) →
     true = r) ∧
    (¬ (100 < ((v4.Parent.length : Nat) : Int)) →
     (I64 (i3 + 1)) ∧
     At_law16_Great_1 w (i3 + 1) r))) ∧
  (¬ (i3 < 600) →
   ((260 < ((w.Marks.length : Nat) : Int)) →
    true = r) ∧
   (¬ (260 < ((w.Marks.length : Nat) : Int)) →
    (decide (500 < ((w.Plan.length : Nat) : Int))) = r))) ∧
 (¬ (i3 < ((w.Plan.length : Nat) : Int)) →
  ((260 < ((w.Marks.length : Nat) : Int)) →
   true = r) ∧
  (¬ (260 < ((w.Marks.length : Nat) : Int)) →
   (decide (500 < ((w.Plan.length : Nat) : Int))) = r))) : At_law16_Great_1 w i3 r := by
 intro S e f h
 unfold k_law16_Great_1
 rw [E_loop]
 by_cases c1 : i3 < ((w.Plan.length : Nat) : Int)
 · replace T := T.1 c1
   by_cases c2 : i3 < 600
   · replace T := T.1 c2
     obtain ⟨p3, v4, q4, T⟩ := T
     by_cases c5 : 100 < ((v4.Name.length : Nat) : Int)
     · replace T := T.1 c5
       obtain rfl := T
       simp only [h, eq_true c1, eq_true c2, p3, q4, eq_true c5, U_law16_Great, lw, le, Nat.zero_le, Nat.sub_zero, take_app3, set_get, take_set, List.length_set, List.map_set, reduceIte, reduceCtorEq, Nat.reduceEqDiff, Nat.reduceAdd, Nat.reduceLeDiff, Nat.reduceSub, Nat.reduceLT, Int.reduceEq, Int.reduceLT, Int.reduceLE, Int.reduceToNat, Int.reduceAdd, Int.reduceSub, Int.reduceMul, Int.reduceNeg, Int.cast_ofNat_Int]
     · replace T := T.2 c5
       by_cases c6 : 100 < ((v4.Parent.length : Nat) : Int)
       · replace T := T.1 c6
         obtain rfl := T
         simp only [h, eq_true c1, eq_true c2, p3, q4, eq_false c5, eq_true c6, U_law16_Great, lw, le, Nat.zero_le, Nat.sub_zero, take_app3, set_get, take_set, List.length_set, List.map_set, reduceIte, reduceCtorEq, Nat.reduceEqDiff, Nat.reduceAdd, Nat.reduceLeDiff, Nat.reduceSub, Nat.reduceLT, Int.reduceEq, Int.reduceLT, Int.reduceLE, Int.reduceToNat, Int.reduceAdd, Int.reduceSub, Int.reduceMul, Int.reduceNeg, Int.cast_ofNat_Int]
       · replace T := T.2 c6
         obtain ⟨p7, T⟩ := T
         try simp only [h, eq_true c1, eq_true c2, p3, q4, eq_false c5, eq_false c6, p7.wrap, U_law16_Great, lw, le, Nat.zero_le, Nat.sub_zero, take_app3, set_get, take_set, List.length_set, List.map_set, reduceIte, reduceCtorEq, Nat.reduceEqDiff, Nat.reduceAdd, Nat.reduceLeDiff, Nat.reduceSub, Nat.reduceLT, Int.reduceEq, Int.reduceLT, Int.reduceLE, Int.reduceToNat, Int.reduceAdd, Int.reduceSub, Int.reduceMul, Int.reduceNeg, Int.cast_ofNat_Int]
         refine T S _ _ ?_
         simp only [h, eq_true c1, eq_true c2, p3, q4, eq_false c5, eq_false c6, p7.wrap, U_law16_Great, lw, le, Nat.zero_le, Nat.sub_zero, take_app3, set_get, take_set, List.length_set, List.map_set, reduceIte, reduceCtorEq, Nat.reduceEqDiff, Nat.reduceAdd, Nat.reduceLeDiff, Nat.reduceSub, Nat.reduceLT, Int.reduceEq, Int.reduceLT, Int.reduceLE, Int.reduceToNat, Int.reduceAdd, Int.reduceSub, Int.reduceMul, Int.reduceNeg, Int.cast_ofNat_Int]
   · replace T := T.2 c2
     by_cases c8 : 260 < ((w.Marks.length : Nat) : Int)
     · replace T := T.1 c8
       obtain rfl := T
       simp only [h, eq_true c1, eq_false c2, eq_true c8, U_law16_Great, lw, le, Nat.zero_le, Nat.sub_zero, take_app3, set_get, take_set, List.length_set, List.map_set, reduceIte, reduceCtorEq, Nat.reduceEqDiff, Nat.reduceAdd, Nat.reduceLeDiff, Nat.reduceSub, Nat.reduceLT, Int.reduceEq, Int.reduceLT, Int.reduceLE, Int.reduceToNat, Int.reduceAdd, Int.reduceSub, Int.reduceMul, Int.reduceNeg, Int.cast_ofNat_Int]
     · replace T := T.2 c8
       obtain rfl := T
       simp only [h, eq_true c1, eq_false c2, eq_false c8, U_law16_Great, lw, le, Nat.zero_le, Nat.sub_zero, take_app3, set_get, take_set, List.length_set, List.map_set, reduceIte, reduceCtorEq, Nat.reduceEqDiff, Nat.reduceAdd, Nat.reduceLeDiff, Nat.reduceSub, Nat.reduceLT, Int.reduceEq, Int.reduceLT, Int.reduceLE, Int.reduceToNat, Int.reduceAdd, Int.reduceSub, Int.reduceMul, Int.reduceNeg, Int.cast_ofNat_Int]
 · replace T := T.2 c1
   by_cases c9 : 260 < ((w.Marks.length : Nat) : Int)
   · replace T := T.1 c9
     obtain rfl := T
     simp only [h, eq_false c1, eq_true c9, U_law16_Great, lw, le, Nat.zero_le, Nat.sub_zero, take_app3, set_get, take_set, List.length_set, List.map_set, reduceIte, reduceCtorEq, Nat.reduceEqDiff, Nat.reduceAdd, Nat.reduceLeDiff, Nat.reduceSub, Nat.reduceLT, Int.reduceEq, Int.reduceLT, Int.reduceLE, Int.reduceToNat, Int.reduceAdd, Int.reduceSub, Int.reduceMul, Int.reduceNeg, Int.cast_ofNat_Int]
   · replace T := T.2 c9
     obtain rfl := T
     simp only [h, eq_false c1, eq_false c9, U_law16_Great, lw, le, Nat.zero_le, Nat.sub_zero, take_app3, set_get, take_set, List.length_set, List.map_set, reduceIte, reduceCtorEq, Nat.reduceEqDiff, Nat.reduceAdd, Nat.reduceLeDiff, Nat.reduceSub, Nat.reduceLT, Int.reduceEq, Int.reduceLT, Int.reduceLE, Int.reduceToNat, Int.reduceAdd, Int.reduceSub, Int.reduceMul, Int.reduceNeg, Int.cast_ofNat_Int]
set_option maxHeartbeats 4000000 in
theorem law16_Great_tree (w : Work) (r : Bool) (T :
  At_law16_Great_2 w 0 r) : R_law16_Great w r := by
 intro S
 rw [call_code sp_law16_Great _ _ rfl]
 try simp only [U_law16_Great, lw, le, Nat.zero_le, Nat.sub_zero, take_app3, set_get, take_set, List.length_set, List.map_set, reduceIte, reduceCtorEq, Nat.reduceEqDiff, Nat.reduceAdd, Nat.reduceLeDiff, Nat.reduceSub, Nat.reduceLT, Int.reduceEq, Int.reduceLT, Int.reduceLE, Int.reduceToNat, Int.reduceAdd, Int.reduceSub, Int.reduceMul, Int.reduceNeg, Int.cast_ofNat_Int]
 refine T S _ _ ?_
 simp only [U_law16_Great, lw, le, Nat.zero_le, Nat.sub_zero, take_app3, set_get, take_set, List.length_set, List.map_set, reduceIte, reduceCtorEq, Nat.reduceEqDiff, Nat.reduceAdd, Nat.reduceLeDiff, Nat.reduceSub, Nat.reduceLT, Int.reduceEq, Int.reduceLT, Int.reduceLE, Int.reduceToNat, Int.reduceAdd, Int.reduceSub, Int.reduceMul, Int.reduceNeg, Int.cast_ofNat_Int]
theorem sp_law12_Great : SP 47 = some (.code sc_law12_Great) := SPof_code rfl Tryd.func47 comp_law12_Great
/-! doorkeeper/doorkeeperlaw12.Great -/
def At_law12_Great_1 (l_ : List Item) (i1 : Int) (r : Bool) : Prop := ∀ (S : Sto) (e : Nat → PV) (f : Fr), e 0 = .list 12 (l_.map eItem) false ∧ e 3 = .int .i64 i1 → k_law12_Great_1 SP (E SP (.loop b_law12_Great_1) ⟨e, f :: S⟩) = .ok (.v (.bool r)) S
set_option maxHeartbeats 4000000 in
theorem At_law12_Great_1_step (l_ : List Item) (i1 : Int) (r : Bool) (T :
  ((i1 < ((l_.length : Nat) : Int)) →
  ((i1 < 150) →
   (0 ≤ i1) ∧
   ∃ (v2 : Item), (l_[i1.toNat]? = some v2) ∧
   ((100 < ((v2.Name.length : Nat) : Int)) →
    true = r) ∧
   (¬ (100 < ((v2.Name.length : Nat) : Int)) →
    ((100 < ((v2.Parent.length : Nat) : Int)) →
     true = r) ∧
    (¬ (100 < ((v2.Parent.length : Nat) : Int)) →
     (I64 (i1 + 1)) ∧
     At_law12_Great_1 l_ (i1 + 1) r))) ∧
  (¬ (i1 < 150) →
   (decide (130 < ((l_.length : Nat) : Int))) = r)) ∧
 (¬ (i1 < ((l_.length : Nat) : Int)) →
  (decide (130 < ((l_.length : Nat) : Int))) = r)) : At_law12_Great_1 l_ i1 r := by
 intro S e f h
 unfold k_law12_Great_1
 rw [E_loop]
 by_cases c1 : i1 < ((l_.length : Nat) : Int)
 · replace T := T.1 c1
   by_cases c2 : i1 < 150
   · replace T := T.1 c2
     obtain ⟨p3, v2, q4, T⟩ := T
     by_cases c5 : 100 < ((v2.Name.length : Nat) : Int)
     · replace T := T.1 c5
       obtain rfl := T
       simp only [h, eq_true c1, eq_true c2, p3, q4, eq_true c5, U_law12_Great, lw, le, Nat.zero_le, Nat.sub_zero, take_app3, set_get, take_set, List.length_set, List.map_set, reduceIte, reduceCtorEq, Nat.reduceEqDiff, Nat.reduceAdd, Nat.reduceLeDiff, Nat.reduceSub, Nat.reduceLT, Int.reduceEq, Int.reduceLT, Int.reduceLE, Int.reduceToNat, Int.reduceAdd, Int.reduceSub, Int.reduceMul, Int.reduceNeg, Int.cast_ofNat_Int]
     · replace T := T.2 c5
       by_cases c6 : 100 < ((v2.Parent.length : Nat) : Int)
       · replace T := T.1 c6
         obtain rfl := T
         simp only [h, eq_true c1, eq_true c2, p3, q4, eq_false c5, eq_true c6, U_law12_Great, lw, le, Nat.zero_le, Nat.sub_zero, take_app3, set_get, take_set, List.length_set, List.map_set, reduceIte, reduceCtorEq, Nat.reduceEqDiff, Nat.reduceAdd, Nat.reduceLeDiff, Nat.reduceSub, Nat.reduceLT, Int.reduceEq, Int.reduceLT, Int.reduceLE, Int.reduceToNat, Int.reduceAdd, Int.reduceSub, Int.reduceMul, Int.reduceNeg, Int.cast_ofNat_Int]
       · replace T := T.2 c6
         obtain ⟨p7, T⟩ := T
         try simp only [h, eq_true c1, eq_true c2, p3, q4, eq_false c5, eq_false c6, p7.wrap, U_law12_Great, lw, le, Nat.zero_le, Nat.sub_zero, take_app3, set_get, take_set, List.length_set, List.map_set, reduceIte, reduceCtorEq, Nat.reduceEqDiff, Nat.reduceAdd, Nat.reduceLeDiff, Nat.reduceSub, Nat.reduceLT, Int.reduceEq, Int.reduceLT, Int.reduceLE, Int.reduceToNat, Int.reduceAdd, Int.reduceSub, Int.reduceMul, Int.reduceNeg, Int.cast_ofNat_Int]
         refine T S _ _ ?_
         simp only [h, eq_true c1, eq_true c2, p3, q4, eq_false c5, eq_false c6, p7.wrap, U_law12_Great, lw, le, Nat.zero_le, Nat.sub_zero, take_app3, set_get, take_set, List.length_set, List.map_set, reduceIte, reduceCtorEq, Nat.reduceEqDiff, Nat.reduceAdd, Nat.reduceLeDiff, Nat.reduceSub, Nat.reduceLT, Int.reduceEq, Int.reduceLT, Int.reduceLE, Int.reduceToNat, Int.reduceAdd, Int.reduceSub, Int.reduceMul, Int.reduceNeg, Int.cast_ofNat_Int]
   · replace T := T.2 c2
     obtain rfl := T
     simp only [h, eq_true c1, eq_false c2, U_law12_Great, lw, le, Nat.zero_le, Nat.sub_zero, take_app3, set_get, take_set, List.length_set, List.map_set, reduceIte, reduceCtorEq, Nat.reduceEqDiff, Nat.reduceAdd, Nat.reduceLeDiff, Nat.reduceSub, Nat.reduceLT, Int.reduceEq, Int.reduceLT, Int.reduceLE, Int.reduceToNat, Int.reduceAdd, Int.reduceSub, Int.reduceMul, Int.reduceNeg, Int.cast_ofNat_Int]
 · replace T := T.2 c1
   obtain rfl := T
   simp only [h, eq_false c1, U_law12_Great, lw, le, Nat.zero_le, Nat.sub_zero, take_app3, set_get, take_set, List.length_set, List.map_set, reduceIte, reduceCtorEq, Nat.reduceEqDiff, Nat.reduceAdd, Nat.reduceLeDiff, Nat.reduceSub, Nat.reduceLT, Int.reduceEq, Int.reduceLT, Int.reduceLE, Int.reduceToNat, Int.reduceAdd, Int.reduceSub, Int.reduceMul, Int.reduceNeg, Int.cast_ofNat_Int]
set_option maxHeartbeats 4000000 in
theorem law12_Great_tree (l_ : List Item) (r : Bool) (T :
  At_law12_Great_1 l_ 0 r) : R_law12_Great l_ r := by
 intro S
 rw [call_code sp_law12_Great _ _ rfl]
 try simp only [U_law12_Great, lw, le, Nat.zero_le, Nat.sub_zero, take_app3, set_get, take_set, List.length_set, List.map_set, reduceIte, reduceCtorEq, Nat.reduceEqDiff, Nat.reduceAdd, Nat.reduceLeDiff, Nat.reduceSub, Nat.reduceLT, Int.reduceEq, Int.reduceLT, Int.reduceLE, Int.reduceToNat, Int.reduceAdd, Int.reduceSub, Int.reduceMul, Int.reduceNeg, Int.cast_ofNat_Int]
 refine T S _ _ ?_
 simp only [U_law12_Great, lw, le, Nat.zero_le, Nat.sub_zero, take_app3, set_get, take_set, List.length_set, List.map_set, reduceIte, reduceCtorEq, Nat.reduceEqDiff, Nat.reduceAdd, Nat.reduceLeDiff, Nat.reduceSub, Nat.reduceLT, Int.reduceEq, Int.reduceLT, Int.reduceLE, Int.reduceToNat, Int.reduceAdd, Int.reduceSub, Int.reduceMul, Int.reduceNeg, Int.cast_ofNat_Int]
theorem sp_law26_awake : SP 48 = some (.code sc_law26_awake) := SPof_code rfl Tryd.func48 comp_law26_awake
/-! doorkeeper/doorkeeperlaw26.awake -/
set_option maxHeartbeats 4000000 in
theorem law26_awake_tree  (r : Bool) (T :
  ∃ (r1 : List UInt8), (R_report_Show [] [] r1) ∧
 ((r1 = []) →
  ∃ (r2 : List UInt8), (R_report_Steps [(PStep.mk 4 [97] [] (Vec.mk 0 0 0))] r2) ∧
  (decide (r2 = [49, 46, 32, 100, 101, 108, 101, 116, 101, 32, 97, 10])) = r) ∧
 (¬ (r1 = []) →
  false = r)) : R_law26_awake  r := by
 intro S
 rw [call_code sp_law26_awake _ _ rfl]
 obtain ⟨r1, q1, T⟩ := T
 simp only [R_report_Show, le] at q1
 by_cases c2 : r1 = []
 · replace T := T.1 c2
   obtain ⟨r2, q3, rfl⟩ := T
   simp only [R_report_Steps, le] at q3
   simp only [q1, eq_true c2, q3, U_law26_awake, lw, le, Nat.zero_le, Nat.sub_zero, take_app3, set_get, take_set, List.length_set, List.map_set, reduceIte, reduceCtorEq, Nat.reduceEqDiff, Nat.reduceAdd, Nat.reduceLeDiff, Nat.reduceSub, Nat.reduceLT, Int.reduceEq, Int.reduceLT, Int.reduceLE, Int.reduceToNat, Int.reduceAdd, Int.reduceSub, Int.reduceMul, Int.reduceNeg, Int.cast_ofNat_Int]
 · replace T := T.2 c2
   obtain rfl := T
   simp only [q1, eq_false c2, U_law26_awake, lw, le, Nat.zero_le, Nat.sub_zero, take_app3, set_get, take_set, List.length_set, List.map_set, reduceIte, reduceCtorEq, Nat.reduceEqDiff, Nat.reduceAdd, Nat.reduceLeDiff, Nat.reduceSub, Nat.reduceLT, Int.reduceEq, Int.reduceLT, Int.reduceLE, Int.reduceToNat, Int.reduceAdd, Int.reduceSub, Int.reduceMul, Int.reduceNeg, Int.cast_ofNat_Int]
theorem sp_law26_ReportAll : SP 8 = some (.code sc_law26_ReportAll) := SPof_code rfl Tryd.func8 comp_law26_ReportAll
/-! doorkeeper/doorkeeperlaw26.ReportAll -/
set_option maxHeartbeats 4000000 in
theorem law26_ReportAll_tree (s : List PStep) (l_ : List Item) (marks : List Mark) (r : Bool) (T :
  ∃ (r1 : Bool), (R_law16_Great (Work.mk marks s 0) r1) ∧
 ((r1 = true) →
  ∃ (r2 : Bool), (R_law26_awake r2) ∧
  r2 = r) ∧
 (¬ (r1 = true) →
  ∃ (r3 : Bool), (R_law12_Great l_ r3) ∧
  ((r3 = true) →
   ∃ (r4 : Bool), (R_law26_awake r4) ∧
   r4 = r) ∧
  (¬ (r3 = true) →
   ∃ (r5 : List UInt8), (R_report_Steps s r5) ∧
   ∃ (r6 : List UInt8), (R_ref16_StepsText s r6) ∧
   ((r5 = r6) →
    ((0 < ((s.length : Nat) : Int)) →
     ∃ (v7 : PStep), (s[0]? = some v7) ∧
     ∃ (r8 : List UInt8), (R_report_Step v7 r8) ∧
     ∃ (r9 : List UInt8), (R_ref16_StepText v7 r9) ∧
     ((r8 = r9) →
      ∃ (r10 : Bool), (R_ref10_Right l_ r10) ∧
      ((r10 = true) →
       ∃ (r11 : List UInt8), (R_report_Show l_ marks r11) ∧
       ∃ (r12 : List UInt8), (R_ref16_Show l_ marks r12) ∧
       ((r11 = r12) →
        ∃ (r13 : Bool), (R_law26_awake r13) ∧
        r13 = r) ∧
       (¬ (r11 = r12) →
        false = r)) ∧
      (¬ (r10 = true) →
       true = r)) ∧
     (¬ (r8 = r9) →
      false = r)) ∧
    (¬ (0 < ((s.length : Nat) : Int)) →
     ∃ (r14 : Bool), (R_ref10_Right l_ r14) ∧
     ((r14 = true) →
      ∃ (r15 : List UInt8), (R_report_Show l_ marks r15) ∧
      ∃ (r16 : List UInt8), (R_ref16_Show l_ marks r16) ∧
      ((r15 = r16) →
       ∃ (r17 : Bool), (R_law26_awake r17) ∧
       r17 = r) ∧
      (¬ (r15 = r16) →
       false = r)) ∧
     (¬ (r14 = true) →
      true = r))) ∧
   (¬ (r5 = r6) →
    false = r)))) : R_law26_ReportAll s l_ marks r := by
 intro S
 rw [call_code sp_law26_ReportAll _ _ rfl]
 obtain ⟨r1, q1, T⟩ := T
 simp only [R_law16_Great, le] at q1
 by_cases c2 : r1 = true
 · replace T := T.1 c2
   obtain ⟨r2, q3, rfl⟩ := T
   simp only [R_law26_awake, le] at q3
   simp only [q1, c2, q3, U_law26_ReportAll, lw, le, Nat.zero_le, Nat.sub_zero, take_app3, set_get, take_set, List.length_set, List.map_set, reduceIte, reduceCtorEq, Nat.reduceEqDiff, Nat.reduceAdd, Nat.reduceLeDiff, Nat.reduceSub, Nat.reduceLT, Int.reduceEq, Int.reduceLT, Int.reduceLE, Int.reduceToNat, Int.reduceAdd, Int.reduceSub, Int.reduceMul, Int.reduceNeg, Int.cast_ofNat_Int]
 · replace T := T.2 c2
   replace c2 := Bool.eq_false_iff.2 c2
   obtain ⟨r3, q4, T⟩ := T
   simp only [R_law12_Great, le] at q4
   by_cases c5 : r3 = true
   · replace T := T.1 c5
     obtain ⟨r4, q6, rfl⟩ := T
     simp only [R_law26_awake, le] at q6
     simp only [q1, c2, q4, c5, q6, U_law26_ReportAll, lw, le, Nat.zero_le, Nat.sub_zero, take_app3, set_get, take_set, List.length_set, List.map_set, reduceIte, reduceCtorEq, Nat.reduceEqDiff, Nat.reduceAdd, Nat.reduceLeDiff, Nat.reduceSub, Nat.reduceLT, Int.reduceEq, Int.reduceLT, Int.reduceLE, Int.reduceToNat, Int.reduceAdd, Int.reduceSub, Int.reduceMul, Int.reduceNeg, Int.cast_ofNat_Int]
   · replace T := T.2 c5
     replace c5 := Bool.eq_false_iff.2 c5
     obtain ⟨r5, q7, r6, q8, T⟩ := T
     simp only [R_report_Steps, le] at q7
     simp only [R_ref16_StepsText, le] at q8
     by_cases c9 : r5 = r6
     · replace T := T.1 c9
       by_cases c10 : 0 < ((s.length : Nat) : Int)
       · replace T := T.1 c10
         obtain ⟨v7, q11, r8, q12, r9, q13, T⟩ := T
         simp only [R_report_Step, le] at q12
         simp only [R_ref16_StepText, le] at q13
         by_cases c14 : r8 = r9
         · replace T := T.1 c14
           obtain ⟨r10, q15, T⟩ := T
           simp only [R_ref10_Right, le] at q15
           by_cases c16 : r10 = true
           · replace T := T.1 c16
             obtain ⟨r11, q17, r12, q18, T⟩ := T
             simp only [R_report_Show, le] at q17
             simp only [R_ref16_Show, le] at q18
             by_cases c19 : r11 = r12
             · replace T := T.1 c19
               obtain ⟨r13, q20, rfl⟩ := T
               simp only [R_law26_awake, le] at q20
               simp only [q1, c2, q4, c5, q7, q8, eq_true c9, eq_true c10, q11, q12, q13, eq_true c14, q15, c16, q17, q18, eq_true c19, q20, U_law26_ReportAll, lw, le, Nat.zero_le, Nat.sub_zero, take_app3, set_get, take_set, List.length_set, List.map_set, reduceIte, reduceCtorEq, Nat.reduceEqDiff, Nat.reduceAdd, Nat.reduceLeDiff, Nat.reduceSub, Nat.reduceLT, Int.reduceEq, Int.reduceLT, Int.reduceLE, Int.reduceToNat, Int.reduceAdd, Int.reduceSub, Int.reduceMul, Int.reduceNeg, Int.cast_ofNat_Int]
             · replace T := T.2 c19
               obtain rfl := T
               simp only [q1, c2, q4, c5, q7, q8, eq_true c9, eq_true c10, q11, q12, q13, eq_true c14, q15, c16, q17, q18, eq_false c19, U_law26_ReportAll, lw, le, Nat.zero_le, Nat.sub_zero, take_app3, set_get, take_set, List.length_set, List.map_set, reduceIte, reduceCtorEq, Nat.reduceEqDiff, Nat.reduceAdd, Nat.reduceLeDiff, Nat.reduceSub, Nat.reduceLT, Int.reduceEq, Int.reduceLT, Int.reduceLE, Int.reduceToNat, Int.reduceAdd, Int.reduceSub, Int.reduceMul, Int.reduceNeg, Int.cast_ofNat_Int]
           · replace T := T.2 c16
             replace c16 := Bool.eq_false_iff.2 c16
             obtain rfl := T
             simp only [q1, c2, q4, c5, q7, q8, eq_true c9, eq_true c10, q11, q12, q13, eq_true c14, q15, c16, U_law26_ReportAll, lw, le, Nat.zero_le, Nat.sub_zero, take_app3, set_get, take_set, List.length_set, List.map_set, reduceIte, reduceCtorEq, Nat.reduceEqDiff, Nat.reduceAdd, Nat.reduceLeDiff, Nat.reduceSub, Nat.reduceLT, Int.reduceEq, Int.reduceLT, Int.reduceLE, Int.reduceToNat, Int.reduceAdd, Int.reduceSub, Int.reduceMul, Int.reduceNeg, Int.cast_ofNat_Int]
         · replace T := T.2 c14
           obtain rfl := T
           simp only [q1, c2, q4, c5, q7, q8, eq_true c9, eq_true c10, q11, q12, q13, eq_false c14, U_law26_ReportAll, lw, le, Nat.zero_le, Nat.sub_zero, take_app3, set_get, take_set, List.length_set, List.map_set, reduceIte, reduceCtorEq, Nat.reduceEqDiff, Nat.reduceAdd, Nat.reduceLeDiff, Nat.reduceSub, Nat.reduceLT, Int.reduceEq, Int.reduceLT, Int.reduceLE, Int.reduceToNat, Int.reduceAdd, Int.reduceSub, Int.reduceMul, Int.reduceNeg, Int.cast_ofNat_Int]
       · replace T := T.2 c10
         obtain ⟨r14, q21, T⟩ := T
         simp only [R_ref10_Right, le] at q21
         by_cases c22 : r14 = true
         · replace T := T.1 c22
           obtain ⟨r15, q23, r16, q24, T⟩ := T
           simp only [R_report_Show, le] at q23
           simp only [R_ref16_Show, le] at q24
           by_cases c25 : r15 = r16
           · replace T := T.1 c25
             obtain ⟨r17, q26, rfl⟩ := T
             simp only [R_law26_awake, le] at q26
             simp only [q1, c2, q4, c5, q7, q8, eq_true c9, eq_false c10, q21, c22, q23, q24, eq_true c25, q26, U_law26_ReportAll, lw, le, Nat.zero_le, Nat.sub_zero, take_app3, set_get, take_set, List.length_set, List.map_set, reduceIte, reduceCtorEq, Nat.reduceEqDiff, Nat.reduceAdd, Nat.reduceLeDiff, Nat.reduceSub, Nat.reduceLT, Int.reduceEq, Int.reduceLT, Int.reduceLE, Int.reduceToNat, Int.reduceAdd, Int.reduceSub, Int.reduceMul, Int.reduceNeg, Int.cast_ofNat_Int]
           · replace T := T.2 c25
             obtain rfl := T
             simp only [q1, c2, q4, c5, q7, q8, eq_true c9, eq_false c10, q21, c22, q23, q24, eq_false c25, U_law26_ReportAll, lw, le, Nat.zero_le, Nat.sub_zero, take_app3, set_get, take_set, List.length_set, List.map_set, reduceIte, reduceCtorEq, Nat.reduceEqDiff, Nat.reduceAdd, Nat.reduceLeDiff, Nat.reduceSub, Nat.reduceLT, Int.reduceEq, Int.reduceLT, Int.reduceLE, Int.reduceToNat, Int.reduceAdd, Int.reduceSub, Int.reduceMul, Int.reduceNeg, Int.cast_ofNat_Int]
         · replace T := T.2 c22
           replace c22 := Bool.eq_false_iff.2 c22
           obtain rfl := T
           simp only [q1, c2, q4, c5, q7, q8, eq_true c9, eq_false c10, q21, c22, U_law26_ReportAll, lw, le, Nat.zero_le, Nat.sub_zero, take_app3, set_get, take_set, List.length_set, List.map_set, reduceIte, reduceCtorEq, Nat.reduceEqDiff, Nat.reduceAdd, Nat.reduceLeDiff, Nat.reduceSub, Nat.reduceLT, Int.reduceEq, Int.reduceLT, Int.reduceLE, Int.reduceToNat, Int.reduceAdd, Int.reduceSub, Int.reduceMul, Int.reduceNeg, Int.cast_ofNat_Int]
     · replace T := T.2 c9
       obtain rfl := T
       simp only [q1, c2, q4, c5, q7, q8, eq_false c9, U_law26_ReportAll, lw, le, Nat.zero_le, Nat.sub_zero, take_app3, set_get, take_set, List.length_set, List.map_set, reduceIte, reduceCtorEq, Nat.reduceEqDiff, Nat.reduceAdd, Nat.reduceLeDiff, Nat.reduceSub, Nat.reduceLT, Int.reduceEq, Int.reduceLT, Int.reduceLE, Int.reduceToNat, Int.reduceAdd, Int.reduceSub, Int.reduceMul, Int.reduceNeg, Int.cast_ofNat_Int]
end Go.Proofs.YtebflncfgjnkkaaDoor.M

/- Reports: texts of steps. -/
namespace Go.Proofs.YtebflncfgjnkkaaDoor.M
set_option linter.unusedSimpArgs false
set_option linter.unusedVariables false
open Go Classical
def okVec (v : Vec) : Prop := I64 v.Cpu ∧ I64 v.Mem ∧ I64 v.Pods
/-- A vector's text. -/
def vecT (v : Vec) : List UInt8 := (((([99, 112, 117, 61] ++ Lib.itoa v.Cpu) ++ [32, 109, 101, 109, 61]) ++ Lib.itoa v.Mem) ++ [32, 112, 111, 100, 115, 61]) ++ Lib.itoa v.Pods
theorem itoa_le {n : Int} (h : I64 n) : (Lib.itoa n).length ≤ 21 := Lib.itoa_length_le n h.1 h.2
theorem vecT_le {v : Vec} (h : okVec v) : (vecT v).length ≤ 100 := by
  have h1 := itoa_le h.1
  have h2 := itoa_le h.2.1
  have h3 := itoa_le h.2.2
  simp [vecT]
  omega
theorem r_vecText (v : Vec) (h : okVec v) : R_vec_Text v (vecT v) := by
  have h1 := itoa_le h.1
  have h2 := itoa_le h.2.1
  have h3 := itoa_le h.2.2
  apply vec_Text_tree
  refine ⟨_, r_Itoa _ h.1, ?_, ?_, _, r_Itoa _ h.2.1, ?_, ?_, _, r_Itoa _ h.2.2, ?_, rfl⟩
  all_goals (simp only [maxInt]; omega)
theorem r_VecText (v : Vec) (h : okVec v) : R_ref10_VecText v (vecT v) := by
  have h1 := itoa_le h.1
  have h2 := itoa_le h.2.1
  have h3 := itoa_le h.2.2
  apply ref10_VecText_tree
  refine ⟨_, r_Digits _ h.1, ?_, ?_, _, r_Digits _ h.2.1, ?_, ?_, _, r_Digits _ h.2.2, ?_, rfl⟩
  all_goals (simp only [maxInt]; omega)
def whereT (p : List UInt8) : List UInt8 := if p = [] then [47] else p
theorem whereT_le (p : List UInt8) : (whereT p).length ≤ p.length + 1 := by unfold whereT; split <;> simp
theorem r_where (p : List UInt8) : R_report_where p (whereT p) := by
  apply report_where_tree
  unfold whereT
  exact ⟨fun h => by rw [if_pos h], fun h => by rw [if_neg h]⟩
theorem r_root (p : List UInt8) : R_ref16_root p (whereT p) := by
  apply ref16_root_tree
  unfold whereT
  exact ⟨fun h => by rw [if_pos h], fun h => by rw [if_neg h]⟩
def okStep (s : PStep) : Prop := I64 s.Kind ∧ okVec s.Limit ∧ s.Name.length ≤ 100000 ∧ s.Parent.length ≤ 100000
def stepT (s : PStep) : List UInt8 :=
  if s.Kind = 1 then (((([99, 114, 101, 97, 116, 101, 32] ++ s.Name) ++ [32, 105, 110, 32]) ++ whereT s.Parent) ++ [32, 119, 105, 116, 104, 32]) ++ vecT s.Limit
  else if s.Kind = 2 then (([108, 105, 109, 105, 116, 32] ++ s.Name) ++ [32, 116, 111, 32]) ++ vecT s.Limit
  else if s.Kind = 3 then (([109, 111, 118, 101, 32] ++ s.Name) ++ [32, 116, 111, 32]) ++ whereT s.Parent
  else if s.Kind = 4 then [100, 101, 108, 101, 116, 101, 32] ++ s.Name
  else s.Name
theorem stepT_le {s : PStep} (h : okStep s) : (stepT s).length ≤ 300000 := by
  have h1 := vecT_le h.2.1
  have h2 := whereT_le s.Parent
  obtain ⟨_, _, h3, h4⟩ := h
  unfold stepT
  split
  · simp; omega
  split
  · simp; omega
  split
  · simp; omega
  split
  · simp; omega
  · omega
theorem r_Step (s : PStep) (h : okStep s) : R_report_Step s (stepT s) := by
  have h1 := vecT_le h.2.1
  have h2 := whereT_le s.Parent
  obtain ⟨_, hv, h3, h4⟩ := h
  apply report_Step_tree
  refine ⟨fun k => ⟨?_, ?_, _, r_where _, ?_, ?_, _, r_vecText _ hv, ?_, by simp [stepT, k]⟩, fun k1 => ⟨fun k => ⟨?_, ?_, _, r_vecText _ hv, ?_, by simp [stepT, k]⟩, fun k2 => ⟨fun k => ⟨?_, ?_, _, r_where _, ?_, by simp [stepT, k]⟩, fun k3 => ⟨fun k => ⟨?_, by simp [stepT, k]⟩, fun k4 => by simp [stepT, k1, k2, k3, k4]⟩⟩⟩⟩
  all_goals (simp only [maxInt]; omega)
theorem r_StepText (s : PStep) (h : okStep s) : R_ref16_StepText s (stepT s) := by
  have h1 := vecT_le h.2.1
  have h2 := whereT_le s.Parent
  obtain ⟨_, hv, h3, h4⟩ := h
  apply ref16_StepText_tree
  refine ⟨fun k => ⟨?_, ?_, _, r_root _, ?_, ?_, _, r_VecText _ hv, ?_, by simp [stepT, k]⟩, fun k1 => ⟨fun k => ⟨?_, ?_, _, r_VecText _ hv, ?_, by simp [stepT, k]⟩, fun k2 => ⟨fun k => ⟨?_, ?_, _, r_root _, ?_, by simp [stepT, k]⟩, fun k3 => ⟨fun k => ⟨?_, by simp [stepT, k]⟩, fun k4 => by simp [stepT, k1, k2, k3, k4]⟩⟩⟩⟩
  all_goals (simp only [maxInt]; omega)
/-- What a writer is given. -/
theorem r_put_loop (l : List (List UInt8)) (z : Bool) (g : Nat) : ∀ (k i : Nat) (o : List UInt8), i + k = l.length → o.length + (l.drop i).flatten.length ≤ 549755813888 → l.length ≤ 549755813888 → At_report_writer_put_1 l i ⟨o⟩ g z ⟨o ++ (l.drop i).flatten⟩ g z := by
  intro k
  induction k with
  | zero =>
    intro i o hi hb hl
    apply At_report_writer_put_1_step
    rw [List.drop_of_length_le (by omega)]
    exact ⟨fun h => by omega, fun _ => ⟨by simp, rfl, rfl⟩⟩
  | succ k ih =>
    intro i o hi hb hl
    apply At_report_writer_put_1_step
    have hlt : i < l.length := by omega
    rw [List.drop_eq_getElem_cons hlt] at hb ⊢
    simp only [List.flatten_cons, List.length_append] at hb
    refine ⟨fun h => ⟨by omega, l[i], by simp [hlt], ⟨by simp; omega, by simp; omega, by omega⟩, ⟨by omega, by omega⟩, ?_⟩, fun h => absurd (by omega) h⟩
    have := ih (i + 1) (o ++ l[i]) (by omega) (by rw [List.length_append]; omega) hl
    rwa [show ((i + 1 : Nat) : Int) = (i : Int) + 1 from rfl, List.append_assoc, ← List.flatten_cons] at this
theorem r_put (o : List UInt8) (g : Nat) (z : Bool) (l : List (List UInt8)) (h : o.length + l.flatten.length ≤ 549755813888) (hl : l.length ≤ 549755813888) : R_report_writer_put ⟨o⟩ g z l ⟨o ++ l.flatten⟩ g z := by
  apply report_writer_put_tree
  have := r_put_loop l z g l.length 0 o (by omega) (by simpa using h) hl
  simpa using this
/-- The text of steps, from number i on. -/
def stepsT : Nat → List PStep → List UInt8
  | _, [] => []
  | i, s :: l => (((Lib.itoa ((i + 1 : Nat) : Int) ++ [46, 32]) ++ stepT s) ++ [10]) ++ stepsT (i + 1) l
theorem stepsT_le : ∀ (i : Nat) (l : List PStep), i + l.length ≤ 1000000 → (∀ s ∈ l, okStep s) → (stepsT i l).length ≤ 400000 * l.length
  | _, [], _, _ => by simp [stepsT]
  | i, s :: l, hi, h => by
    simp only [List.length_cons] at hi
    have h1 := stepT_le (h s (by simp))
    have h2 := itoa_le (n := ((i + 1 : Nat) : Int)) ⟨by omega, by omega⟩
    have h3 := stepsT_le (i + 1) l (by omega) (fun s hs => h s (by simp [hs]))
    simp only [stepsT, List.length_append, List.length_cons, List.length_nil]
    omega
theorem r_Steps_loop (l : List PStep) (hl : l.length ≤ 1000000) (hs : ∀ s ∈ l, okStep s) : ∀ (k i : Nat) (o : List UInt8) (g : Nat) (z : Bool), i + k = l.length → o.length ≤ 400000 * i → At_report_Steps_1 l i o g z (o ++ stepsT i (l.drop i)) := by
  intro k
  induction k with
  | zero =>
    intro i o g z hi ho
    apply At_report_Steps_1_step
    rw [List.drop_of_length_le (by omega)]
    exact ⟨fun h => by omega, fun _ => by simp [stepsT]⟩
  | succ k ih =>
    intro i o g z hi ho
    apply At_report_Steps_1_step
    have hlt : i < l.length := by omega
    have hok := hs l[i] (List.getElem_mem hlt)
    have h1 := stepT_le hok
    have hI : I64 ((i : Int) + 1) := ⟨by omega, by omega⟩
    have h2 := itoa_le hI
    rw [List.drop_eq_getElem_cons hlt]
    refine ⟨fun h => ⟨by omega, l[i], by simp [hlt], hI, _, r_Itoa _ hI, _, r_Step _ hok, _, _, _, r_put o g z _ (by simp; omega) (by simp), hI, ?_⟩, fun h => absurd (by omega) h⟩
    have := ih (i + 1) (o ++ [Lib.itoa ((i : Int) + 1), [46, 32], stepT l[i], [10]].flatten) g z (by omega) (by simp; omega)
    simpa [stepsT] using this
theorem r_Steps (l : List PStep) (hl : l.length ≤ 1000000) (hs : ∀ s ∈ l, okStep s) : R_report_Steps l (stepsT 0 l) := by
  apply report_Steps_tree
  have := r_Steps_loop l hl hs l.length 0 [] 0 false (by omega) (by simp)
  simpa using this
theorem r_StepsText_loop (l : List PStep) (hl : l.length ≤ 1000000) (hs : ∀ s ∈ l, okStep s) : ∀ (k i : Nat) (o : List UInt8), i + k = l.length → o.length ≤ 400000 * i → At_ref16_StepsText_1 l o i (o ++ stepsT i (l.drop i)) := by
  intro k
  induction k with
  | zero =>
    intro i o hi ho
    apply At_ref16_StepsText_1_step
    rw [List.drop_of_length_le (by omega)]
    exact ⟨fun h => by omega, fun _ => by simp [stepsT]⟩
  | succ k ih =>
    intro i o hi ho
    apply At_ref16_StepsText_1_step
    have hlt : i < l.length := by omega
    have hok := hs l[i] (List.getElem_mem hlt)
    have h1 := stepT_le hok
    have hI : I64 ((i : Int) + 1) := ⟨by omega, by omega⟩
    have h2 := itoa_le hI
    rw [List.drop_eq_getElem_cons hlt]
    refine ⟨fun h => ⟨hI, _, r_Digits _ hI, by simp only [maxInt]; omega, by simp only [maxInt]; omega, by omega, l[i], by simp [hlt], _, r_StepText _ hok, by simp only [maxInt]; omega, by simp only [maxInt]; omega, hI, ?_⟩, fun h => absurd (by omega) h⟩
    have := ih (i + 1) (o ++ Lib.itoa ((i : Int) + 1) ++ [46, 32] ++ stepT l[i] ++ [10]) (by omega) (by simp; omega)
    simpa [stepsT] using this
theorem r_StepsText (l : List PStep) (hl : l.length ≤ 1000000) (hs : ∀ s ∈ l, okStep s) : R_ref16_StepsText l (stepsT 0 l) := by
  apply ref16_StepsText_tree
  have := r_StepsText_loop l hl hs l.length 0 [] (by omega) (by simp)
  simpa using this
end Go.Proofs.YtebflncfgjnkkaaDoor.M

/- Reports: finding, below, marked. -/
namespace Go.Proofs.YtebflncfgjnkkaaDoor.M
set_option linter.unusedSimpArgs false
set_option linter.unusedVariables false
open Go Classical
def isN (n : List UInt8) (x : Item) : Bool := decide (x.Name = n)
/-- Where an item of a name is; -1: nowhere. -/
def findN (l : List Item) (n : List UInt8) : Int := findI (isN n) 0 l
theorem r_tFind (l : List Item) (n : List UInt8) (h : l.length < 9223372036854775808) : R_tree_Find l n (findN l n) := by
  apply tree_Find_tree
  exact ⟨h, isN n, fun x _ => by apply tree_Find_1_tree; rfl, rfl⟩
theorem findI_cons {α : Type} (p : α → Bool) (i : Nat) (x : α) (l : List α) : findI p i (x :: l) = if p x = true then (i : Int) else findI p (i + 1) l := rfl
theorem r_Find_loop (l : List Item) (n : List UInt8) (hl : l.length < 9223372036854775807) : ∀ (k i : Nat), i + k = l.length → At_ref10_Find_1 l n i (findI (isN n) i (l.drop i)) := by
  intro k
  induction k with
  | zero =>
    intro i hi
    apply At_ref10_Find_1_step
    rw [List.drop_of_length_le (by omega)]
    exact ⟨fun h => by omega, fun _ => rfl⟩
  | succ k ih =>
    intro i hi
    apply At_ref10_Find_1_step
    have hlt : i < l.length := by omega
    rw [List.drop_eq_getElem_cons hlt, findI_cons]
    refine ⟨fun h => ⟨by omega, l[i], by simp [hlt], fun h => by simp [isN, h], fun h => ⟨⟨by omega, by omega⟩, ?_⟩⟩, fun h => absurd (by omega) h⟩
    rw [if_neg (by simp [isN, h])]
    exact ih (i + 1) (by omega)
theorem r_Find (l : List Item) (n : List UInt8) (hl : l.length < 9223372036854775807) : R_ref10_Find l n (findN l n) := by
  apply ref10_Find_tree
  have := r_Find_loop l n hl l.length 0 (by omega)
  rw [List.drop_zero] at this
  exact this
/-- The names of what lies right below. -/
def belowN (l : List Item) (n : List UInt8) : List (List UInt8) := (l.filter fun x => decide (x.Parent = n)).map (·.Name)
theorem belowN_snoc (l : List Item) (n : List UInt8) (i : Nat) (hi : i < l.length) : belowN (l.take (i + 1)) n = belowN (l.take i) n ++ (if l[i].Parent = n then [l[i].Name] else []) := by
  unfold belowN
  rw [List.take_succ_eq_append_getElem hi, List.filter_append, List.map_append]
  congr 1
  by_cases h : l[i].Parent = n <;> simp [h]
theorem belowN_le (l : List Item) (n : List UInt8) : (belowN l n).length ≤ l.length := by
  unfold belowN
  rw [List.length_map]
  exact List.length_filter_le _ _
theorem r_tBelow_loop (l : List Item) (n : List UInt8) (hl : l.length < 1000000) : ∀ (k i : Nat), i + k = l.length → At_tree_Below_1 l n i (belowN (l.take i) n) (belowN l n) := by
  intro k
  induction k with
  | zero =>
    intro i hi
    apply At_tree_Below_1_step
    exact ⟨fun h => by omega, fun _ => by rw [List.take_of_length_le (by omega)]⟩
  | succ k ih =>
    intro i hi
    apply At_tree_Below_1_step
    have hlt : i < l.length := by omega
    have hb := belowN_le (l.take i) n
    rw [List.length_take] at hb
    have h0 := ih (i + 1) (by omega)
    rw [belowN_snoc l n i hlt] at h0
    refine ⟨fun h => ⟨by omega, l[i], by simp [hlt], fun h => ⟨⟨by omega, by omega, by omega⟩, ⟨by omega, by omega⟩, ?_⟩, fun h => ⟨⟨by omega, by omega⟩, ?_⟩⟩, fun h => absurd (by omega) h⟩
    · rw [if_pos h] at h0
      exact h0
    · rw [if_neg h, List.append_nil] at h0
      exact h0
theorem r_tBelow (l : List Item) (n : List UInt8) (hl : l.length < 1000000) : R_tree_Below l n (belowN l n) := by
  apply tree_Below_tree
  exact r_tBelow_loop l n hl l.length 0 (by omega)
theorem r_Below_loop (l : List Item) (n : List UInt8) (hl : l.length < 1000000) : ∀ (k i : Nat), i + k = l.length → At_ref10_Below_1 l n i (belowN (l.take i) n) (belowN l n) := by
  intro k
  induction k with
  | zero =>
    intro i hi
    apply At_ref10_Below_1_step
    exact ⟨fun h => by omega, fun _ => by rw [List.take_of_length_le (by omega)]⟩
  | succ k ih =>
    intro i hi
    apply At_ref10_Below_1_step
    have hlt : i < l.length := by omega
    have hb := belowN_le (l.take i) n
    rw [List.length_take] at hb
    have h0 := ih (i + 1) (by omega)
    rw [belowN_snoc l n i hlt] at h0
    refine ⟨fun h => ⟨by omega, l[i], by simp [hlt], fun h => ⟨⟨by omega, by omega, by omega⟩, ⟨by omega, by omega⟩, ?_⟩, fun h => ⟨⟨by omega, by omega⟩, ?_⟩⟩, fun h => absurd (by omega) h⟩
    · rw [if_pos h] at h0
      exact h0
    · rw [if_neg h, List.append_nil] at h0
      exact h0
theorem r_Below (l : List Item) (n : List UInt8) (hl : l.length < 1000000) : R_ref10_Below l n (belowN l n) := by
  apply ref10_Below_tree
  exact r_Below_loop l n hl l.length 0 (by omega)
def isM (n : List UInt8) (x : Mark) : Bool := decide (x.Name = n)
theorem r_marked_loop (l : List Mark) (n : List UInt8) (hl : l.length < 9223372036854775807) : ∀ (k i : Nat), i + k = l.length → At_ref16_marked_1 l n i (findI (isM n) i (l.drop i)) := by
  intro k
  induction k with
  | zero =>
    intro i hi
    apply At_ref16_marked_1_step
    rw [List.drop_of_length_le (by omega)]
    exact ⟨fun h => by omega, fun _ => rfl⟩
  | succ k ih =>
    intro i hi
    apply At_ref16_marked_1_step
    have hlt : i < l.length := by omega
    rw [List.drop_eq_getElem_cons hlt, findI_cons]
    refine ⟨fun h => ⟨by omega, l[i], by simp [hlt], fun h => by simp [isM, h], fun h => ⟨⟨by omega, by omega⟩, ?_⟩⟩, fun h => absurd (by omega) h⟩
    rw [if_neg (by simp [isM, h])]
    exact ih (i + 1) (by omega)
theorem r_marked (l : List Mark) (n : List UInt8) (hl : l.length < 9223372036854775807) : R_ref16_marked l n (findI (isM n) 0 l) := by
  apply ref16_marked_tree
  have := r_marked_loop l n hl l.length 0 (by omega)
  simpa using this
/-! ### Finding -/
theorem findI_get {α : Type} (p : α → Bool) : ∀ (l : List α) (i : Nat), l.any p = true → ∃ (j : Nat) (x : α), findI p i l = ((i + j : Nat) : Int) ∧ l[j]? = some x ∧ p x = true
  | [], i, h => by simp at h
  | y :: l, i, h => by
    rw [findI_cons]
    by_cases hy : p y = true
    · exact ⟨0, y, by simp [hy], rfl, hy⟩
    · rw [if_neg hy]
      obtain ⟨j, x, h1, h2, h3⟩ := findI_get p l (i + 1) (by simpa [hy] using h)
      exact ⟨j + 1, x, by rw [h1]; congr 1; omega, h2, h3⟩
theorem findN_get {l : List Item} {x : Item} (hx : x ∈ l) : ∃ (j : Nat) (y : Item), findN l x.Name = (j : Int) ∧ l[j]? = some y ∧ y.Name = x.Name := by
  obtain ⟨j, y, h1, h2, h3⟩ := findI_get (isN x.Name) l 0 (by rw [List.any_eq_true]; exact ⟨x, hx, by simp [isN]⟩)
  exact ⟨j, y, by unfold findN; rw [h1]; simp, h2, by simpa [isN] using h3⟩
end Go.Proofs.YtebflncfgjnkkaaDoor.M

/- Reports: a tree's text. -/
namespace Go.Proofs.YtebflncfgjnkkaaDoor.M
set_option linter.unusedSimpArgs false
set_option linter.unusedVariables false
open Go Classical
def noItem : Item := ⟨[], [], ⟨0, 0, 0⟩, ⟨0, 0, 0⟩, ⟨0, 0, 0⟩, 0⟩
def itemN (l : List Item) (n : List UInt8) : Item := (l[(findN l n).toNat]?).getD noItem
def starT (ms : List Mark) (n : List UInt8) : List UInt8 := if ms.any (isM n) = true then [32, 42] else []
/-- One line. -/
def lineT (l : List Item) (ms : List Mark) (far n : List UInt8) : List UInt8 := ((((((far ++ n) ++ [32]) ++ vecT (itemN l n).Sub) ++ [32, 111, 102, 32]) ++ vecT (itemN l n).Limit) ++ starT ms n) ++ [10]
/-- The lines of all that lies below. -/
def showT (l : List Item) (ms : List Mark) : Nat → List UInt8 → List UInt8 → List UInt8
  | 0, _, _ => []
  | k + 1, n, far => ((belowN l n).map fun c => lineT l ms far c ++ showT l ms k c (far ++ [32, 32])).flatten
/-- How many lines. -/
def cntT (l : List Item) : Nat → List UInt8 → Nat
  | 0, _ => 0
  | k + 1, n => ((belowN l n).map fun c => 1 + cntT l k c).sum
/-- Items lie as a tree: each is one deeper than what it lies below. -/
structure Deep (l : List Item) (d : List UInt8 → Nat) : Prop where
  root : d [] = 0
  up : ∀ x ∈ l, d x.Name = d x.Parent + 1
  le : ∀ x ∈ l, d x.Name ≤ l.length
  ne : (l.map (·.Name)).Nodup
def okItem (x : Item) : Prop := okVec x.Sub ∧ okVec x.Limit ∧ x.Name.length ≤ 100
theorem belowN_mem {l : List Item} {n c : List UInt8} (h : c ∈ belowN l n) : ∃ x ∈ l, x.Parent = n ∧ x.Name = c := by
  unfold belowN at h
  rw [List.mem_map] at h
  obtain ⟨x, h1, h2⟩ := h
  rw [List.mem_filter] at h1
  exact ⟨x, h1.1, by simpa using h1.2, h2⟩
theorem itemN_get {l : List Item} {c n : List UInt8} (h : c ∈ belowN l n) : 0 ≤ findN l c ∧ l[(findN l c).toNat]? = some (itemN l c) ∧ (itemN l c).Name = c ∧ itemN l c ∈ l := by
  obtain ⟨x, hx, _, rfl⟩ := belowN_mem h
  obtain ⟨j, y, h1, h2, h3⟩ := findN_get hx
  have : itemN l x.Name = y := by unfold itemN; rw [h1]; simp [h2]
  rw [this, h1]
  exact ⟨by omega, by simpa using h2, h3, List.mem_of_getElem? h2⟩
theorem starT_le (ms : List Mark) (n : List UInt8) : (starT ms n).length ≤ 2 := by unfold starT; split <;> simp
theorem lineT_le {l : List Item} (hok : ∀ x ∈ l, okItem x) {ms : List Mark} {far n c : List UInt8} (hc : c ∈ belowN l n) : (lineT l ms far c).length ≤ far.length + 400 := by
  obtain ⟨_, _, h3, h4⟩ := itemN_get hc
  have h := hok _ h4
  have h1 := vecT_le h.1
  have h2 := vecT_le h.2.1
  have h5 := h.2.2
  rw [h3] at h5
  have := starT_le ms c
  simp only [lineT, List.length_append, List.length_cons, List.length_nil]
  omega
theorem sum_le_sum {α : Type} (f g : α → Nat) : ∀ (l : List α), (∀ x ∈ l, f x ≤ g x) → (l.map f).sum ≤ (l.map g).sum
  | [], _ => by simp
  | x :: l, h => by
    have h1 := h x (by simp)
    have h2 := sum_le_sum f g l fun y hy => h y (by simp [hy])
    simp only [List.map_cons, List.sum_cons]
    omega
theorem sum_mul {α : Type} (f : α → Nat) (B : Nat) : ∀ l : List α, (l.map fun x => B * f x).sum = B * (l.map f).sum
  | [] => by simp
  | x :: l => by simp [sum_mul f B l, Nat.mul_add]
/-- The text's length: by lines. -/
theorem showT_le {l : List Item} {d : List UInt8 → Nat} (hd : Deep l d) (hok : ∀ x ∈ l, okItem x) (ms : List Mark) {B : Nat} (hB : 400 + 2 * l.length ≤ B) : ∀ (k : Nat) (n far : List UInt8), far.length ≤ 2 * d n → d n ≤ l.length → (showT l ms k n far).length ≤ B * cntT l k n
  | 0, n, far, _, _ => by simp [showT]
  | k + 1, n, far, hf, hn => by
    simp only [showT, cntT, List.length_flatten, List.map_map]
    rw [← sum_mul]
    refine sum_le_sum _ _ _ fun c hc => ?_
    obtain ⟨x, hx, hp, rfl⟩ := belowN_mem hc
    have h1 := lineT_le hok (ms := ms) (far := far) hc
    have hu := hd.up x hx
    rw [hp] at hu
    have h2 := showT_le hd hok ms hB k x.Name (far ++ [32, 32]) (by simp; omega) (hd.le x hx)
    simp only [Function.comp, List.length_append, Nat.mul_add]
    omega
/-! ### There are not more lines than items -/
theorem countP_two {α : Type} (p q r : α → Bool) (l : List α) (h : ∀ x, p x = true → q x = true → False) (hp : ∀ x, p x = true → r x = true) (hq : ∀ x, q x = true → r x = true) : l.countP p + l.countP q ≤ l.countP r := by
  induction l with
  | nil => simp
  | cons x l ih =>
    simp only [List.countP_cons]
    split <;> split <;> split <;> first | omega | exact (h x ‹p x = true› ‹q x = true›).elim | exact absurd (hp x ‹p x = true›) ‹_› | exact absurd (hq x ‹q x = true›) ‹_›
/-- What the name above is. -/
def pN (l : List Item) (n : List UInt8) : List UInt8 := (itemN l n).Parent
def pK (l : List Item) : Nat → List UInt8 → List UInt8
  | 0, n => n
  | k + 1, n => pN l (pK l k n)
theorem pN_eq {l : List Item} (hn : (l.map (·.Name)).Nodup) {x : Item} (hx : x ∈ l) : pN l x.Name = x.Parent := by
  obtain ⟨j, y, h1, h2, h3⟩ := findN_get hx
  have e : itemN l x.Name = y := by unfold itemN; rw [h1]; simp [h2]
  have : y = x := by
    obtain ⟨i, hi⟩ := List.getElem?_of_mem hx
    have hj : (l.map (·.Name))[j]? = some x.Name := by rw [List.getElem?_map, h2]; simp [h3]
    have hi' : (l.map (·.Name))[i]? = some x.Name := by rw [List.getElem?_map, hi]; rfl
    have hjl : j < (l.map (·.Name)).length := (List.getElem?_eq_some_iff.1 hj).1
    have := (List.getElem?_inj hjl hn).1 (hj.trans hi'.symm)
    subst this
    rw [h2] at hi
    exact Option.some.inj hi
  unfold pN
  rw [e, this]
/-- It lies below the name n, at k steps or more. -/
def und (l : List Item) (d : List UInt8 → Nat) (n : List UInt8) (s : Nat) (x : Item) : Bool := decide (d n + s ≤ d x.Name ∧ pK l (d x.Name - d n) x.Name = n)
theorem sum_count {α : Type} (l : List α) (f : α → List UInt8) (q : α → Bool) : ∀ (C : List (List UInt8)), C.Nodup → (C.map fun c => l.countP fun x => q x && decide (f x = c)).sum ≤ l.countP fun x => q x && decide (f x ∈ C)
  | [], _ => by simp
  | c :: C, h => by
    obtain ⟨h1, h2⟩ := List.nodup_cons.1 h
    have ih := sum_count l f q C h2
    simp only [List.map_cons, List.sum_cons]
    refine Nat.le_trans (Nat.add_le_add_left ih _) (countP_two _ _ _ l (fun x h3 h4 => ?_) (fun x h3 => ?_) (fun x h3 => ?_))
    · simp only [Bool.and_eq_true, decide_eq_true_eq] at h3 h4
      exact h1 (h3.2 ▸ h4.2)
    · simp only [Bool.and_eq_true, decide_eq_true_eq] at h3 ⊢
      exact ⟨h3.1, by simp [h3.2]⟩
    · simp only [Bool.and_eq_true, decide_eq_true_eq] at h3 ⊢
      exact ⟨h3.1, List.mem_cons_of_mem _ h3.2⟩
theorem belowN_nodup {l : List Item} (hn : (l.map (·.Name)).Nodup) (n : List UInt8) : (belowN l n).Nodup := hn.sublist (List.Sublist.map _ List.filter_sublist)
theorem cntT_le {l : List Item} {d : List UInt8 → Nat} (hd : Deep l d) : ∀ (k : Nat) (n : List UInt8), cntT l k n ≤ l.countP (und l d n 1)
  | 0, n => by simp [cntT]
  | k + 1, n => by
    have h1 : cntT l (k + 1) n ≤ ((belowN l n).map fun c => l.countP fun x => decide (d n + 1 ≤ d x.Name) && decide (pK l (d x.Name - (d n + 1)) x.Name = c)).sum := by
      refine sum_le_sum _ _ _ fun c hc => ?_
      obtain ⟨y, hy, hp, rfl⟩ := belowN_mem hc
      have hu := hd.up y hy
      rw [hp] at hu
      have ih := cntT_le hd k y.Name
      have h2 : 1 ≤ l.countP fun x => decide (x.Name = y.Name) := List.countP_pos_iff.2 ⟨y, hy, by simp⟩
      refine Nat.le_trans (Nat.add_le_add h2 ih) (countP_two _ _ _ l (fun x a b => ?_) (fun x a => ?_) (fun x a => ?_))
      · simp only [und, decide_eq_true_eq] at a b
        rw [a] at b
        omega
      · simp only [decide_eq_true_eq] at a
        rw [a, hu]
        simp [pK]
      · simp only [und, decide_eq_true_eq] at a
        simp only [Bool.and_eq_true, decide_eq_true_eq]
        rw [hu] at a
        exact ⟨by omega, a.2⟩
    refine Nat.le_trans h1 (Nat.le_trans (sum_count l (fun x => pK l (d x.Name - (d n + 1)) x.Name) (fun x => decide (d n + 1 ≤ d x.Name)) _ (belowN_nodup hd.ne n)) (List.countP_mono_left fun x hx h => ?_))
    simp only [Bool.and_eq_true, decide_eq_true_eq] at h
    obtain ⟨y, hy, hp, he⟩ := belowN_mem h.2
    simp only [und, decide_eq_true_eq]
    refine ⟨h.1, ?_⟩
    have : d x.Name - d n = (d x.Name - (d n + 1)) + 1 := by omega
    rw [this, pK, ← he, pN_eq hd.ne hy, hp]
theorem cntT_le' {l : List Item} {d : List UInt8 → Nat} (hd : Deep l d) (k : Nat) (n : List UInt8) : cntT l k n ≤ l.length := Nat.le_trans (cntT_le hd k n) List.countP_le_length
end Go.Proofs.YtebflncfgjnkkaaDoor.M

/- Reports: both print the same. -/
namespace Go.Proofs.YtebflncfgjnkkaaDoor.M
set_option linter.unusedSimpArgs false
set_option linter.unusedVariables false
set_option linter.unusedSectionVars false
open Go Classical
theorem r_Repeat (s : List UInt8) (n : Nat) (h : s.length * n ≤ 140737488355328) (hn : n ≤ 1000000) : R_strings_Repeat s (n : Int) (Lib.repeatL s n) := fun S => by
  refine call_ext sp_strings_Repeat S ?_
  simp only [repeatX, Int.toNat_natCast]
  rw [if_pos ⟨by omega, by omega, h⟩]
theorem repeat_snoc (s : List UInt8) : ∀ n, Lib.repeatL s (n + 1) = Lib.repeatL s n ++ s
  | 0 => by simp [Lib.repeatL]
  | n + 1 => by
    show s ++ Lib.repeatL s (n + 1) = (s ++ Lib.repeatL s n) ++ s
    rw [repeat_snoc s n, List.append_assoc]
/-- The lines of the names from number i on. -/
def restT (l : List Item) (ms : List Mark) (k : Nat) (far : List UInt8) (C : List (List UInt8)) : List UInt8 := (C.map fun c => lineT l ms far c ++ showT l ms k c (far ++ [32, 32])).flatten
theorem marked_any (ms : List Mark) (n : List UInt8) : (0 ≤ findI (isM n) 0 ms) ↔ ms.any (isM n) = true := findI_any _ _ _
variable {l : List Item} {d : List UInt8 → Nat} (hd : Deep l d) (hok : ∀ x ∈ l, okItem x) (hl : l.length ≤ 1000) (ms : List Mark) (hm : ms.length ≤ 100000000)
include hd hok hl hm
theorem restT_le (k : Nat) (n far : List UInt8) (hf : far.length ≤ 2 * d n) (hn : d n ≤ l.length) : (showT l ms k n far).length ≤ 4000000 := by
  have h1 := showT_le hd hok ms (Nat.le_refl _) k n far hf hn
  have h2 := cntT_le' hd k n
  have h3 : (400 + 2 * l.length) * cntT l k n ≤ (400 + 2 * l.length) * l.length := Nat.mul_le_mul_left _ h2
  have h4 : (400 + 2 * l.length) * l.length ≤ 2400 * 1000 := Nat.mul_le_mul (by omega) (by omega)
  omega
theorem r_show_loop (k : Nat) (n far : List UInt8) (hf : far.length = 2 * d n) (hn : d n ≤ l.length) (ih : ∀ c, c ∈ belowN l n → R_ref16_show l ms c (far ++ [32, 32]) (showT l ms k c (far ++ [32, 32]))) :
    ∀ (j i : Nat) (s : List UInt8), i + j = (belowN l n).length → s ++ restT l ms k far ((belowN l n).drop i) = showT l ms (k + 1) n far → At_ref16_show_1 l ms far (belowN l n) s i (showT l ms (k + 1) n far) := by
  have hT := restT_le hd hok hl ms hm (k + 1) n far (by omega) hn
  have hN := belowN_le l n
  intro j
  induction j with
  | zero =>
    intro i s hi hs
    apply At_ref16_show_1_step
    rw [List.drop_of_length_le (by omega)] at hs
    exact ⟨fun h => by omega, fun _ => by rw [← hs]; simp [restT]⟩
  | succ j ihj =>
    intro i s hi hs
    apply At_ref16_show_1_step
    have hlt : i < (belowN l n).length := by omega
    have hmem : (belowN l n)[i] ∈ belowN l n := List.getElem_mem hlt
    generalize hc : (belowN l n)[i] = c at hmem
    rw [List.drop_eq_getElem_cons hlt, hc] at hs
    obtain ⟨g1, g2, g3, g4⟩ := itemN_get hmem
    have hk := hok _ g4
    have hlen := congrArg List.length hs
    have hstar : (starT ms c).length ≤ 2 := starT_le ms c
    have hL : (lineT l ms far c).length = far.length + c.length + 1 + (vecT (itemN l c).Sub).length + 4 + (vecT (itemN l c).Limit).length + (starT ms c).length + 1 := by simp [lineT]; omega
    have hrest : (restT l ms k far (c :: (belowN l n).drop (i + 1))).length = (lineT l ms far c).length + (showT l ms k c (far ++ [32, 32])).length + (restT l ms k far ((belowN l n).drop (i + 1))).length := by
      simp only [restT, List.map_cons, List.flatten_cons, List.length_append]
    rw [List.length_append, hrest, hL] at hlen
    have hnext := ihj (i + 1) (s ++ (lineT l ms far c ++ showT l ms k c (far ++ [32, 32]))) (by omega) (by rw [← hs]; simp [restT])
    have ih' : R_ref16_show l ms (itemN l c).Name (far ++ [32, 32]) (showT l ms k c (far ++ [32, 32])) := by rw [g3]; exact ih c hmem
    refine ⟨fun h => ⟨by omega, by simpa using hlt, c, by simp [hlt, hc], _, r_Find l c (by omega), g1, _, g2, ?_, ?_, ?_, _, r_VecText _ hk.1, ?_, ?_, _, r_VecText _ hk.2.1, ?_, _, r_marked ms _ (by omega), fun hs1 => ⟨?_, ?_, ?_, _, ih', ?_, ⟨by omega, by omega⟩, ?_⟩, fun hs1 => ⟨?_, ?_, _, ih', ?_, ⟨by omega, by omega⟩, ?_⟩⟩, fun h => absurd (by omega) h⟩
    all_goals first
      | (simp only [g3, maxInt]; omega)
      | skip
    · rw [marked_any, g3] at hs1
      simp only [lineT, starT, hs1] at hnext
      simpa [g3] using hnext
    · rw [marked_any, g3] at hs1
      simp only [lineT, starT, hs1] at hnext
      simpa [g3] using hnext
theorem r_show : ∀ (k : Nat) (n far : List UInt8), d n + k = l.length + 1 → far.length = 2 * d n → d n ≤ l.length → R_ref16_show l ms n far (showT l ms k n far)
  | 0, n, far, hk, hf, hn => by omega
  | k + 1, n, far, hk, hf, hn => by
    apply ref16_show_tree
    refine ⟨_, r_Below l n (by omega), ?_⟩
    have := r_show_loop hd hok hl ms hm k n far hf hn (fun c hc => ?_) (belowN l n).length 0 [] (by omega) (by simp [restT, showT])
    · exact this
    · obtain ⟨x, hx, hp, rfl⟩ := belowN_mem hc
      have hu := hd.up x hx
      rw [hp] at hu
      exact r_show k x.Name _ (by omega) (by simp; omega) (hd.le x hx)
end Go.Proofs.YtebflncfgjnkkaaDoor.M

/- Reports: the program's own text of a tree. -/
namespace Go.Proofs.YtebflncfgjnkkaaDoor.M
set_option linter.unusedSimpArgs false
set_option linter.unusedVariables false
set_option linter.unusedSectionVars false
open Go Classical
theorem r_isM (c : List UInt8) (x : Mark) : R_report_shower_below_1 x c (isM c x) := by
  apply report_shower_below_1_tree
  rfl
theorem repeatL_len (n : Nat) : (Lib.repeatL [32, 32] n).length = 2 * n := by rw [Lib.repeatL_length]; simp; omega
variable {l : List Item} {d : List UInt8 → Nat} (hd : Deep l d) (hok : ∀ x ∈ l, okItem x) (hl : l.length ≤ 1000) (ms : List Mark) (hm : ms.length ≤ 100000000)
include hd hok hl hm
theorem r_below_loop (k : Nat) (n : List UInt8) (hn : d n ≤ l.length) (ih : ∀ c, c ∈ belowN l n → ∀ (o : List UInt8) (g : Nat) (z : Bool), o.length + (showT l ms k c (Lib.repeatL [32, 32] (d n) ++ [32, 32])).length ≤ 400000000 → R_report_shower_below ⟨⟨o⟩, l, ms⟩ g z c ((d n + 1 : Nat) : Int) ⟨⟨o ++ showT l ms k c (Lib.repeatL [32, 32] (d n) ++ [32, 32])⟩, l, ms⟩ g z) (o : List UInt8) (ho : o.length + (showT l ms (k + 1) n (Lib.repeatL [32, 32] (d n))).length ≤ 400000000) (g : Nat) (z : Bool) :
    ∀ (j i : Nat) (s : List UInt8), i + j = (belowN l n).length → s ++ restT l ms k (Lib.repeatL [32, 32] (d n)) ((belowN l n).drop i) = o ++ showT l ms (k + 1) n (Lib.repeatL [32, 32] (d n)) → At_report_shower_below_1 (d n : Int) (belowN l n) i ⟨⟨s⟩, l, ms⟩ g z ⟨⟨o ++ showT l ms (k + 1) n (Lib.repeatL [32, 32] (d n))⟩, l, ms⟩ g z := by
  have hR := repeatL_len (d n)
  generalize hfar : Lib.repeatL [32, 32] (d n) = far at *
  have hT := restT_le hd hok hl ms hm (k + 1) n far (by omega) hn
  have hN := belowN_le l n
  intro j
  induction j with
  | zero =>
    intro i s hi hs
    apply At_report_shower_below_1_step
    rw [List.drop_of_length_le (by omega)] at hs
    exact ⟨fun h => by omega, fun _ => ⟨by rw [← hs]; simp [restT], rfl, rfl⟩⟩
  | succ j ihj =>
    intro i s hi hs
    apply At_report_shower_below_1_step
    have hlt : i < (belowN l n).length := by omega
    have hmem : (belowN l n)[i] ∈ belowN l n := List.getElem_mem hlt
    generalize hc : (belowN l n)[i] = c at hmem
    rw [List.drop_eq_getElem_cons hlt, hc] at hs
    obtain ⟨g1, g2, g3, g4⟩ := itemN_get hmem
    have hk := hok _ g4
    have hlen := congrArg List.length hs
    have hL : (lineT l ms far c).length = far.length + c.length + 1 + (vecT (itemN l c).Sub).length + 4 + (vecT (itemN l c).Limit).length + (starT ms c).length + 1 := by simp [lineT]; omega
    have hrest : (restT l ms k far (c :: (belowN l n).drop (i + 1))).length = (lineT l ms far c).length + (showT l ms k c (far ++ [32, 32])).length + (restT l ms k far ((belowN l n).drop (i + 1))).length := by
      simp only [restT, List.map_cons, List.flatten_cons, List.length_append]
    rw [List.length_append, hrest, hL, List.length_append] at hlen
    have hnext := ihj (i + 1) (s ++ (lineT l ms far c ++ showT l ms k c (far ++ [32, 32]))) (by omega) (by rw [← hs]; simp [restT])
    refine ⟨fun h => ⟨by omega, by simpa using hlt, c, by simp [hlt, hc], _, r_tFind l c (by omega), g1, _, g2, far, hfar ▸ r_Repeat [32, 32] (d n) (by simp; omega) (by omega), _, r_vecText _ hk.1, _, r_vecText _ hk.2.1, _, _, _, r_put s g z [far, c, [32], vecT (itemN l c).Sub, [32, 111, 102, 32], vecT (itemN l c).Limit] (by simp; omega) (by simp), by show ms.length < _; omega, isM c, fun x _ => r_isM c x, fun hs1 => ⟨_, _, _, r_put _ g z [[32, 42]] (by simp; omega) (by simp), _, _, _, r_put _ g z [[10]] (by simp; omega) (by simp), ⟨by omega, by omega⟩, _, _, _, ih c hmem _ g z (by have hs3 : (starT ms c).length = 2 := congrArg List.length (if_pos hs1 : starT ms c = [32, 42]); simp; omega), ⟨by omega, by omega⟩, ?_⟩, fun hs1 => ⟨_, _, _, r_put _ g z [[10]] (by simp; omega) (by simp), ⟨by omega, by omega⟩, _, _, _, ih c hmem _ g z (by simp; omega), ⟨by omega, by omega⟩, ?_⟩⟩, fun h => absurd (by omega) h⟩
    · have hs2 : starT ms c = [32, 42] := if_pos hs1
      simp only [lineT, hs2] at hnext
      simpa using hnext
    · have hs2 : starT ms c = [] := if_neg hs1
      simp only [lineT, hs2] at hnext
      simpa using hnext
theorem r_below : ∀ (k : Nat) (n : List UInt8), d n + k = l.length + 1 → d n ≤ l.length → ∀ (o : List UInt8) (g : Nat) (z : Bool), o.length + (showT l ms k n (Lib.repeatL [32, 32] (d n))).length ≤ 400000000 → R_report_shower_below ⟨⟨o⟩, l, ms⟩ g z n (d n : Int) ⟨⟨o ++ showT l ms k n (Lib.repeatL [32, 32] (d n))⟩, l, ms⟩ g z
  | 0, n, hk, hn, o, g, z, ho => by omega
  | k + 1, n, hk, hn, o, g, z, ho => by
    apply report_shower_below_tree
    refine ⟨fun h => absurd (show (l.length : Int) < d n from h) (by omega), fun h => ⟨_, r_tBelow l n (by omega), ?_⟩⟩
    have := r_below_loop hd hok hl ms hm k n hn (fun c hc o' g' z' ho' => ?_) o ho g z (belowN l n).length 0 o (by omega) (by simp [restT, showT])
    · exact this
    · obtain ⟨x, hx, hp, rfl⟩ := belowN_mem hc
      have hu := hd.up x hx
      rw [hp] at hu
      have := r_below k x.Name (by omega) (hd.le x hx) o' g' z'
      rw [hu, repeat_snoc] at this
      exact this ho'
theorem r_rShow : R_report_Show l ms (showT l ms (l.length + 1) [] []) := by
  apply report_Show_tree
  have h0 := hd.root
  have h1 := restT_le hd hok hl ms hm (l.length + 1) [] [] (by simp) (by omega)
  have := r_below hd hok hl ms hm (l.length + 1) [] (by omega) (by omega) [] 0 false (by rw [h0]; simp [Lib.repeatL]; omega)
  rw [h0] at this
  exact ⟨_, _, _, this, by simp [Lib.repeatL]⟩
theorem r_sShow : R_ref16_Show l ms (showT l ms (l.length + 1) [] []) := by
  apply ref16_Show_tree
  have h0 := hd.root
  exact ⟨_, r_show hd hok hl ms hm (l.length + 1) [] [] (by omega) (by simp [h0]) (by omega), rfl⟩
end Go.Proofs.YtebflncfgjnkkaaDoor.M

/- Reports: what Right says of items. -/
namespace Go.Proofs.YtebflncfgjnkkaaDoor.M
set_option linter.unusedSimpArgs false
set_option linter.unusedVariables false
open Go Classical
theorem bl_irrefl : ∀ a : List UInt8, bytesLess a a = false
  | [] => rfl
  | x :: a => by
    have := bl_irrefl a
    simp only [bytesLess] at this ⊢
    simp [Op.bytesLess, this]
theorem bl_trans : ∀ a b c : List UInt8, bytesLess a b = true → bytesLess b c = true → bytesLess a c = true
  | _, _, [], _, h => by simp [bytesLess, Op.bytesLess] at h
  | _, [], _ :: _, h, _ => by simp [bytesLess, Op.bytesLess] at h
  | [], _ :: _, _ :: _, _, _ => by simp [bytesLess, Op.bytesLess]
  | x :: a, y :: b, z :: c, h, h' => by
    have ih := bl_trans a b c
    simp only [bytesLess] at h h' ih ⊢
    simp only [Op.bytesLess, Bool.or_eq_true, decide_eq_true_eq, Bool.and_eq_true, beq_iff_eq] at h h' ⊢
    rcases h with h | ⟨rfl, h⟩ <;> rcases h' with h' | ⟨rfl, h'⟩
    · exact .inl (UInt8.lt_trans h h')
    · exact .inl h
    · exact .inl h'
    · exact .inr ⟨rfl, ih h h'⟩
def mayN (s : List UInt8) : Bool := if s = [] then false else decide (((s.length : Nat) : Int) ≤ 24)
theorem r_MayName (s : List UInt8) : R_ref10_MayName s (mayN s) := by
  apply ref10_MayName_tree
  exact ⟨fun h => by simp [mayN, h], fun h => by simp [mayN, h]⟩
def unitB (n : Int) : Bool := if 0 ≤ n then decide (n ≤ 1099511627776) else false
theorem r_unit (n : Int) : R_ref10_unit n (unitB n) := by
  apply ref10_unit_tree
  exact ⟨fun h => by simp [unitB, h], fun h => by simp [unitB, h]⟩
def mayV (v : Vec) : Bool := unitB v.Cpu && unitB v.Mem && unitB v.Pods
theorem r_MayVec (v : Vec) : R_ref10_MayVec v (mayV v) := by
  apply ref10_MayVec_tree
  refine ⟨_, r_unit _, fun h1 => ⟨_, r_unit _, fun h2 => ⟨_, r_unit _, by simp [mayV, h1, h2]⟩, fun h2 => by simp [mayV, h1, h2]⟩, fun h1 => by simp [mayV, h1]⟩
def leV (a b : Vec) : Bool := decide (a.Cpu ≤ b.Cpu) && decide (a.Mem ≤ b.Mem) && decide (a.Pods ≤ b.Pods)
theorem r_Le (a b : Vec) : R_ref10_Le a b (leV a b) := by
  apply ref10_Le_tree
  refine ⟨fun h1 => ⟨fun h2 => by simp [leV, h1, h2], fun h2 => by simp [leV, h1, h2]⟩, fun h1 => by simp [leV, h1]⟩
theorem unit_range {n : Int} (h : unitB n = true) : 0 ≤ n ∧ n ≤ 1099511627776 := by
  unfold unitB at h
  split at h
  · exact ⟨‹_›, by simpa using h⟩
  · cases h
theorem mayV_range {v : Vec} (h : mayV v = true) : (0 ≤ v.Cpu ∧ v.Cpu ≤ 1099511627776) ∧ (0 ≤ v.Mem ∧ v.Mem ≤ 1099511627776) ∧ (0 ≤ v.Pods ∧ v.Pods ≤ 1099511627776) := by
  simp only [mayV, Bool.and_eq_true] at h
  exact ⟨unit_range h.1.1, unit_range h.1.2, unit_range h.2⟩
/-! ### The names above -/
def upF (l : List Item) : Nat → Int → List (List UInt8)
  | 0, _ => []
  | k + 1, i => if 0 ≤ i then ((l[i.toNat]?).getD noItem).Name :: upF l k (findN l ((l[i.toNat]?).getD noItem).Parent) else []
theorem upF_le (l : List Item) : ∀ (k : Nat) (i : Int), (upF l k i).length ≤ k
  | 0, _ => by simp [upF]
  | k + 1, i => by
    have := upF_le l k (findN l ((l[i.toNat]?).getD noItem).Parent)
    unfold upF
    split <;> simp <;> omega
theorem upF_more (l : List Item) : ∀ (k : Nat) (i : Int), (upF l k i).length < k → upF l (k + 1) i = upF l k i
  | 0, _, h => by simp at h
  | k + 1, i, h => by
    unfold upF at h
    rw [upF]
    conv => rhs; rw [upF]
    split
    · rename_i hi
      rw [if_pos hi] at h
      rw [upF_more l k _ (by simpa using h)]
    · rfl
theorem findI_lt {α : Type} (p : α → Bool) : ∀ (l : List α) (i : Nat), findI p i l < ((i + l.length : Nat) : Int) ∨ findI p i l = -1
  | [], i => .inr rfl
  | x :: l, i => by
    rw [findI_cons]
    have := findI_lt p l (i + 1)
    simp only [List.length_cons]
    split
    · left; omega
    · rcases this with h | h
      · left; omega
      · right; exact h
theorem findN_lt (l : List Item) (n : List UInt8) : findN l n < ((l.length : Nat) : Int) := by
  have := findI_lt (isN n) l 0
  unfold findN
  rcases this with h | h
  · simpa using h
  · omega
theorem r_Up_loop (l : List Item) (hl : l.length ≤ 1000) : ∀ (k : Nat) (i : Int) (o : List (List UInt8)), o.length + k = l.length + 1 → i < ((l.length : Nat) : Int) → At_ref10_Up_1 l i o (o ++ upF l k i) := by
  intro k
  induction k with
  | zero =>
    intro i o ho hi
    apply At_ref10_Up_1_step
    refine ⟨fun h => ⟨fun h2 => by omega, fun _ => by simp [upF]⟩, fun _ => by simp [upF]⟩
  | succ k ih =>
    intro i o ho hi
    apply At_ref10_Up_1_step
    refine ⟨fun h => ⟨fun h2 => ?_, fun h2 => by omega⟩, fun h => by simp [upF, h]⟩
    have hlt : i.toNat < l.length := by omega
    have hg : l[i.toNat]? = some l[i.toNat] := List.getElem?_eq_getElem hlt
    have := ih (findN l l[i.toNat].Parent) (o ++ [l[i.toNat].Name]) (by simp; omega) (findN_lt _ _)
    refine ⟨h, l[i.toNat], hg, ⟨by omega, by omega, by omega⟩, _, r_Find l _ (by omega), ?_⟩
    rw [upF, if_pos h, hg]
    simpa using this
def upT (l : List Item) (n : List UInt8) : List (List UInt8) := upF l (l.length + 1) (findN l n)
theorem r_Up (l : List Item) (hl : l.length ≤ 1000) (n : List UInt8) : R_ref10_Up l n (upT l n) := by
  apply ref10_Up_tree
  exact ⟨_, r_Find l n (by omega), r_Up_loop l hl (l.length + 1) (findN l n) [] (by simp) (findN_lt l n)⟩
/-! ### Names in order -/
theorem nodup_of (l : List Item) (h : ∀ i (hi : i + 1 < l.length), bytesLess l[i].Name l[i + 1].Name = true) : (l.map (·.Name)).Nodup := by
  have key : ∀ (k i : Nat) (hi : i + k + 1 < l.length), bytesLess l[i].Name l[i + k + 1].Name = true := by
    intro k
    induction k with
    | zero => intro i hi; exact h i hi
    | succ k ih => intro i hi; exact bl_trans _ _ _ (ih i (by omega)) (h (i + k + 1) hi)
  unfold List.Nodup
  rw [List.pairwise_iff_getElem]
  intro i j hi hj hij e
  simp only [List.length_map] at hi hj
  simp only [List.getElem_map] at e
  have := key (j - i - 1) i (by omega)
  have e2 : i + (j - i - 1) + 1 = j := by omega
  simp only [e2] at this
  rw [e, bl_irrefl] at this
  cases this
theorem Deep.of {l : List Item} (hn : (l.map (·.Name)).Nodup) (h0 : ∀ x ∈ l, x.Name ≠ []) (hu : ∀ x ∈ l, (upT l x.Name).length ≤ l.length) : Deep l (fun n => (upT l n).length) := by
  refine ⟨?_, fun x hx => ?_, hu, hn⟩
  · have : findN l [] = -1 := by
      unfold findN
      have : ∀ (l : List Item) (i : Nat), (∀ x ∈ l, x.Name ≠ []) → findI (isN []) i l = -1 := by
        intro l
        induction l with
        | nil => intro i _; rfl
        | cons x l ih =>
          intro i h
          rw [findI_cons, if_neg (by simp [isN, h x (by simp)])]
          exact ih _ fun y hy => h y (by simp [hy])
      exact this l 0 h0
    simp [upT, this, upF]
  · obtain ⟨j, y, h1, h2, h3⟩ := findN_get hx
    have e : itemN l x.Name = y := by unfold itemN; rw [h1]; simp [h2]
    have hp := pN_eq hn hx
    unfold pN at hp
    rw [e] at hp
    have hlen := hu x hx
    unfold upT at hlen ⊢
    rw [upF, h1, if_pos (by omega)] at hlen ⊢
    simp only [Int.toNat_natCast, h2, Option.getD_some, List.length_cons, hp] at hlen ⊢
    rw [upF_more l l.length _ (by omega)]
end Go.Proofs.YtebflncfgjnkkaaDoor.M

/- Reports: Right. -/
namespace Go.Proofs.YtebflncfgjnkkaaDoor.M
set_option linter.unusedSimpArgs false
set_option linter.unusedVariables false
open Go Classical
/-- What Right asks of item i. -/
def okI (l : List Item) (i : Nat) (v : Item) : Bool :=
  mayN v.Name && (if 0 < i then bytesLess ((l[i - 1]?).getD noItem).Name v.Name else true) && mayV v.Limit && mayV v.Own && (if v.Parent = [] then true else decide (¬ findN l v.Parent < 0)) && decide (¬ v.Ver < 1) && decide (¬ 9007199254740992 < v.Ver) && leV v.Sub v.Limit && mayV v.Sub
theorem r_Right2 (l : List Item) (hl : l.length ≤ 120) (hok : ∀ x ∈ l, mayV x.Sub = true) (i : Nat) (hi : i < l.length) (B : Bool) (hB : ∃ b, At_ref10_Right_1 l ((i + 1 : Nat) : Int) b ∧ (b = true → B = true)) :
    ∀ (k j : Nat) (a b c : Int), j + k = l.length → 0 ≤ a → 0 ≤ b → 0 ≤ c → a ≤ 1099511627776 * (j + 1 : Nat) → b ≤ 1099511627776 * (j + 1 : Nat) → c ≤ 1099511627776 * (j + 1 : Nat) → ∃ r, At_ref10_Right_2 l i j a b c r ∧ (r = true → B = true ∧ (upT l l[i].Name).length ≤ l.length) := by
  intro k
  induction k with
  | zero =>
    intro j a b c hj ha hb hc ha' hb' hc'
    have hv : l[((i : Nat) : Int).toNat]? = some l[i] := by simp [hi]
    by_cases h1 : (a = l[i].Sub.Cpu) ∧ (b = l[i].Sub.Mem) ∧ (c = l[i].Sub.Pods)
    · by_cases h2 : l.length < (upT l l[i].Name).length
      · exact ⟨false, At_ref10_Right_2_step _ _ _ _ _ _ _ ⟨fun h => by omega, fun _ => ⟨by omega, _, hv, fun _ => ⟨_, r_Up l (by omega) _, fun _ => rfl, fun h => absurd (by omega) h⟩, fun h => absurd h1 h⟩⟩, fun h => by cases h⟩
      · obtain ⟨r, hr, hr'⟩ := hB
        exact ⟨r, At_ref10_Right_2_step _ _ _ _ _ _ _ ⟨fun h => by omega, fun _ => ⟨by omega, _, hv, fun _ => ⟨_, r_Up l (by omega) _, fun h => by omega, fun h => ⟨⟨by omega, by omega⟩, hr⟩⟩, fun h => absurd h1 h⟩⟩, fun h => ⟨hr' h, by omega⟩⟩
    · exact ⟨false, At_ref10_Right_2_step _ _ _ _ _ _ _ ⟨fun h => by omega, fun _ => ⟨by omega, _, hv, fun h => absurd h h1, fun _ => rfl⟩⟩, fun h => by cases h⟩
  | succ k ih =>
    intro j a b c hj ha hb hc ha' hb' hc'
    have hlt : j < l.length := by omega
    have hv : l[((i : Nat) : Int).toNat]? = some l[i] := by simp [hi]
    have hw : l[((j : Nat) : Int).toNat]? = some l[j] := by simp [hlt]
    have hs := mayV_range (hok l[j] (List.getElem_mem hlt))
    by_cases h1 : l[j].Parent = l[i].Name
    · obtain ⟨r, hr, hr'⟩ := ih (j + 1) (a + l[j].Sub.Cpu) (b + l[j].Sub.Mem) (c + l[j].Sub.Pods) (by omega) (by omega) (by omega) (by omega) (by omega) (by omega) (by omega)
      exact ⟨r, At_ref10_Right_2_step _ _ _ _ _ _ _ ⟨fun _ => ⟨by omega, _, hw, by omega, _, hv, fun _ => ⟨⟨a + l[j].Sub.Cpu, b + l[j].Sub.Mem, c + l[j].Sub.Pods⟩, ref10_Add_tree _ _ _ ⟨⟨by show _ ≤ a + _; omega, by show a + _ ≤ _; omega⟩, ⟨by show _ ≤ b + _; omega, by show b + _ ≤ _; omega⟩, ⟨by show _ ≤ c + _; omega, by show c + _ ≤ _; omega⟩, rfl⟩, ⟨by omega, by omega⟩, hr⟩, fun h => absurd h1 h⟩, fun h => absurd (by omega) h⟩, hr'⟩
    · obtain ⟨r, hr, hr'⟩ := ih (j + 1) a b c (by omega) ha hb hc (by omega) (by omega) (by omega)
      exact ⟨r, At_ref10_Right_2_step _ _ _ _ _ _ _ ⟨fun _ => ⟨by omega, _, hw, by omega, _, hv, fun h => absurd h h1, fun _ => ⟨⟨by omega, by omega⟩, hr⟩⟩, fun h => absurd (by omega) h⟩, hr'⟩
theorem r_Right1 (l : List Item) (hl : l.length ≤ 120) (hok : ∀ x ∈ l, mayV x.Sub = true) (how : ∀ x ∈ l, mayV x.Own = true) :
    ∀ (k i : Nat), i + k = l.length → ∃ b, At_ref10_Right_1 l i b ∧ (b = true → ∀ x ∈ l.drop i, (upT l x.Name).length ≤ l.length) := by
  intro k
  induction k with
  | zero =>
    intro i hi
    exact ⟨true, At_ref10_Right_1_step _ _ _ ⟨fun h => by omega, fun _ => rfl⟩, fun _ x hx => by rw [List.drop_of_length_le (by omega)] at hx; cases hx⟩
  | succ k ih =>
    intro i hi
    have hlt : i < l.length := by omega
    obtain ⟨b, hb, hb'⟩ := ih (i + 1) (by omega)
    have hs := mayV_range (how l[i] (List.getElem_mem hlt))
    obtain ⟨r, hr, hr'⟩ := r_Right2 l hl hok i hlt b ⟨b, hb, id⟩ l.length 0 l[i].Own.Cpu l[i].Own.Mem l[i].Own.Pods (by omega) hs.1.1 hs.2.1.1 hs.2.2.1 (by omega) (by omega) (by omega)
    refine ⟨r, At_ref10_Right_1_step _ _ _ ⟨fun _ => ⟨by omega, l[i], by simp [hlt], hr⟩, fun h => absurd (by omega) h⟩, fun h x hx => ?_⟩
    obtain ⟨h1, h2⟩ := hr' h
    rw [List.drop_eq_getElem_cons hlt] at hx
    rcases List.mem_cons.1 hx with rfl | hx
    · exact h2
    · exact hb' h1 x hx
theorem r_Right3 (l : List Item) (hl : l.length ≤ 120) : ∀ (k i : Nat), i + k = l.length → (∀ j (hj : j < l.length), j < i → okI l j l[j] = true) →
    ∃ b, At_ref10_Right_3 l i b ∧ (b = true → (∀ j (hj : j < l.length), okI l j l[j] = true) ∧ ∀ x ∈ l, (upT l x.Name).length ≤ l.length) := by
  intro k
  induction k with
  | zero =>
    intro i hi hall
    have hall' : ∀ j (hj : j < l.length), okI l j l[j] = true := fun j hj => hall j hj (by omega)
    have hmem : ∀ x ∈ l, ∃ j, okI l j x = true := fun x hx => by
      obtain ⟨j, hj, rfl⟩ := List.mem_iff_getElem.1 hx
      exact ⟨j, hall' j hj⟩
    obtain ⟨b, hb, hb'⟩ := r_Right1 l hl (fun x hx => by obtain ⟨j, h⟩ := hmem x hx; simp only [okI, Bool.and_eq_true] at h; exact h.2) (fun x hx => by obtain ⟨j, h⟩ := hmem x hx; simp only [okI, Bool.and_eq_true] at h; exact h.1.1.1.1.1.2) l.length 0 (by omega)
    exact ⟨b, At_ref10_Right_3_step _ _ _ ⟨fun h => by omega, fun _ => hb⟩, fun h => ⟨hall', by simpa using hb' h⟩⟩
  | succ k ih =>
    intro i hi hall
    have hlt : i < l.length := by omega
    have hv : l[((i : Nat) : Int).toNat]? = some l[i] := by simp [hlt]
    have hp : 0 < i → l[((i : Nat) : Int).toNat - 1]? = some ((l[i - 1]?).getD noItem) := fun h => by
      have : i - 1 < l.length := by omega
      simp [this]
    have hp2 : 0 < ((i : Nat) : Int) → l[(((i : Nat) : Int) - 1).toNat]? = some ((l[i - 1]?).getD noItem) := fun h => by
      have e : (((i : Nat) : Int) - 1).toNat = i - 1 := by omega
      have : i - 1 < l.length := by omega
      rw [e]
      simp [this]
    obtain ⟨b, hb⟩ : ∃ b, (okI l i l[i] = true → At_ref10_Right_3 l ((i + 1 : Nat) : Int) b ∧ (b = true → (∀ j (hj : j < l.length), okI l j l[j] = true) ∧ ∀ x ∈ l, (upT l x.Name).length ≤ l.length)) ∧ (okI l i l[i] = false → b = false) := by
      cases hc : okI l i l[i] with
      | false => exact ⟨false, (fun h => by cases h), fun _ => rfl⟩
      | true =>
        obtain ⟨b, h1, h2⟩ := ih (i + 1) (by omega) fun j hj hji => by
          by_cases e : j = i
          · subst e; exact hc
          · exact hall j hj (by omega)
        exact ⟨b, fun _ => ⟨h1, h2⟩, (fun h => by cases h)⟩
    obtain ⟨hb1, hb2⟩ := hb
    generalize hvv : l[i] = v at hv hb1 hb2
    refine ⟨b, At_ref10_Right_3_step _ _ _ ⟨fun _ => ⟨by omega, v, hv, _, r_MayName _, ?_⟩, fun h => absurd (by omega) h⟩, fun h => ?_⟩
    · have hI : I64 ((i : Int) + 1) := ⟨by omega, by omega⟩
      have hF := r_Find l v.Parent (by omega)
      have hb3 : okI l i v = true → At_ref10_Right_3 l ((i : Int) + 1) b := fun h => (hb1 h).1
      have hi0 : (0 < (i : Int)) = (0 < i) := by simp
      generalize At_ref10_Right_3 l ((i : Int) + 1) b = P at hb3
      clear hb1 ih hall
      simp only [hi0] at hp2 ⊢
      repeat' first
        | (refine ⟨_, r_MayVec _, ?_⟩)
        | (refine ⟨_, r_Le _ _, ?_⟩)
        | (refine ⟨_, hF, ?_⟩)
        | (refine ⟨⟨by omega, by omega⟩, by omega, _, hp2 (by assumption), ?_⟩)
        | (refine ⟨hI, ?_⟩)
        | (intro _)
        | (apply And.intro)
      all_goals first
        | (refine hb3 ?_; simp only [okI, Bool.and_eq_true]; simp [*]; done)
        | (refine (hb2 ?_).symm; simp [okI, *]; done)
        | skip
    · cases hc : okI l i v with
      | false => rw [hb2 hc] at h; cases h
      | true => exact (hb1 hc).2 h
end Go.Proofs.YtebflncfgjnkkaaDoor.M

/- ReportAll. -/
namespace Go.Proofs.YtebflncfgjnkkaaDoor.M
set_option linter.unusedSimpArgs false
set_option linter.unusedVariables false
open Go Classical
theorem r_Great16_1 (w : Work) (hw : w.Plan.length ≤ 9223372036854775807) : ∀ (k i : Nat), i + k = w.Plan.length → (∀ j (hj : j < w.Plan.length), j < i → w.Plan[j].Name.length ≤ 100 ∧ w.Plan[j].Parent.length ≤ 100) →
    ∃ b, At_law16_Great_1 w i b ∧ (b = false → w.Marks.length ≤ 260 ∧ w.Plan.length ≤ 500 ∧ ∀ s ∈ w.Plan, s.Name.length ≤ 100 ∧ s.Parent.length ≤ 100) := by
  intro k
  induction k with
  | zero =>
    intro i hi hall
    by_cases h1 : 260 < w.Marks.length
    · exact ⟨true, At_law16_Great_1_step _ _ _ ⟨fun h => by omega, fun _ => ⟨fun _ => rfl, fun h => absurd (by omega) h⟩⟩, (fun h => by cases h)⟩
    · refine ⟨decide (500 < ((w.Plan.length : Nat) : Int)), At_law16_Great_1_step _ _ _ ⟨fun h => by omega, fun _ => ⟨fun h => by omega, fun _ => rfl⟩⟩, fun h => ?_⟩
      simp only [decide_eq_false_iff_not] at h
      refine ⟨by omega, by omega, fun s hs => ?_⟩
      obtain ⟨j, hj, rfl⟩ := List.mem_iff_getElem.1 hs
      exact hall j hj (by omega)
  | succ k ih =>
    intro i hi hall
    have hlt : i < w.Plan.length := by omega
    by_cases h6 : i < 600
    · by_cases h1 : 100 < w.Plan[i].Name.length
      · exact ⟨true, At_law16_Great_1_step _ _ _ ⟨fun _ => ⟨fun _ => ⟨by omega, _, by simp [hlt]; rfl, fun _ => rfl, fun h => absurd (by omega) h⟩, fun h => absurd (by omega) h⟩, fun h => absurd (by omega) h⟩, (fun h => by cases h)⟩
      · by_cases h2 : 100 < w.Plan[i].Parent.length
        · exact ⟨true, At_law16_Great_1_step _ _ _ ⟨fun _ => ⟨fun _ => ⟨by omega, w.Plan[i], by simp [hlt], fun h => by omega, fun _ => ⟨fun _ => rfl, fun h => absurd (by omega) h⟩⟩, fun h => absurd (by omega) h⟩, fun h => absurd (by omega) h⟩, (fun h => by cases h)⟩
        · obtain ⟨b, hb, hb'⟩ := ih (i + 1) (by omega) (fun j hj hji => by
            by_cases e : j = i
            · subst e; exact ⟨by omega, by omega⟩
            · exact hall j hj (by omega))
          exact ⟨b, At_law16_Great_1_step _ _ _ ⟨fun _ => ⟨fun _ => ⟨by omega, w.Plan[i], by simp [hlt], fun h => by omega, fun _ => ⟨fun h => by omega, fun _ => ⟨⟨by omega, by omega⟩, hb⟩⟩⟩, fun h => absurd (by omega) h⟩, fun h => absurd (by omega) h⟩, hb'⟩
    · exact ⟨true, At_law16_Great_1_step _ _ _ ⟨fun _ => ⟨fun h => by omega, fun _ => ⟨fun _ => rfl, fun _ => by simp; omega⟩⟩, fun h => absurd (by omega) h⟩, (fun h => by cases h)⟩
theorem r_Great16_2 (w : Work) (hm : w.Marks.length ≤ 9223372036854775807) (hw : w.Plan.length ≤ 9223372036854775807) : ∀ (k i : Nat), i + k = w.Marks.length →
    ∃ b, At_law16_Great_2 w i b ∧ (b = false → w.Marks.length ≤ 260 ∧ w.Plan.length ≤ 500 ∧ ∀ s ∈ w.Plan, s.Name.length ≤ 100 ∧ s.Parent.length ≤ 100) := by
  obtain ⟨c, hc, hc'⟩ := r_Great16_1 w hw w.Plan.length 0 (by omega) (fun j hj h => by omega)
  intro k
  induction k with
  | zero =>
    intro i hi
    exact ⟨c, At_law16_Great_2_step _ _ _ ⟨fun h => by omega, fun _ => hc⟩, hc'⟩
  | succ k ih =>
    intro i hi
    have hlt : i < w.Marks.length := by omega
    by_cases h6 : i < 300
    · by_cases h1 : 100 < w.Marks[i].Name.length
      · exact ⟨true, At_law16_Great_2_step _ _ _ ⟨fun _ => ⟨fun _ => ⟨by omega, w.Marks[i], by simp [hlt], fun _ => rfl, fun h => absurd (by omega) h⟩, fun h => absurd (by omega) h⟩, fun h => absurd (by omega) h⟩, (fun h => by cases h)⟩
      · by_cases h2 : 100 < w.Marks[i].Parent.length
        · exact ⟨true, At_law16_Great_2_step _ _ _ ⟨fun _ => ⟨fun _ => ⟨by omega, w.Marks[i], by simp [hlt], fun h => by omega, fun _ => ⟨fun _ => rfl, fun h => absurd (by omega) h⟩⟩, fun h => absurd (by omega) h⟩, fun h => absurd (by omega) h⟩, (fun h => by cases h)⟩
        · obtain ⟨b, hb, hb'⟩ := ih (i + 1) (by omega)
          exact ⟨b, At_law16_Great_2_step _ _ _ ⟨fun _ => ⟨fun _ => ⟨by omega, w.Marks[i], by simp [hlt], fun h => by omega, fun _ => ⟨fun h => by omega, fun _ => ⟨⟨by omega, by omega⟩, hb⟩⟩⟩, fun h => absurd (by omega) h⟩, fun h => absurd (by omega) h⟩, hb'⟩
    · exact ⟨c, At_law16_Great_2_step _ _ _ ⟨fun _ => ⟨fun h => by omega, fun _ => hc⟩, fun h => absurd (by omega) h⟩, hc'⟩
theorem r_Great16 (w : Work) (hm : w.Marks.length ≤ 9223372036854775807) (hw : w.Plan.length ≤ 9223372036854775807) : ∃ b, R_law16_Great w b ∧ (b = false → w.Marks.length ≤ 260 ∧ w.Plan.length ≤ 500 ∧ ∀ s ∈ w.Plan, s.Name.length ≤ 100 ∧ s.Parent.length ≤ 100) := by
  obtain ⟨b, h, h'⟩ := r_Great16_2 w hm hw w.Marks.length 0 (by omega)
  exact ⟨b, law16_Great_tree _ _ h, h'⟩
theorem r_Great12_1 (l : List Item) (hl : l.length ≤ 9223372036854775807) : ∀ (k i : Nat), i + k = l.length → (∀ j (hj : j < l.length), j < i → l[j].Name.length ≤ 100) →
    ∃ b, At_law12_Great_1 l i b ∧ (b = false → l.length ≤ 130 ∧ ∀ x ∈ l, x.Name.length ≤ 100) := by
  intro k
  induction k with
  | zero =>
    intro i hi hall
    refine ⟨decide (130 < ((l.length : Nat) : Int)), At_law12_Great_1_step _ _ _ ⟨fun h => by omega, fun _ => rfl⟩, fun h => ?_⟩
    simp only [decide_eq_false_iff_not] at h
    refine ⟨by omega, fun s hs => ?_⟩
    obtain ⟨j, hj, rfl⟩ := List.mem_iff_getElem.1 hs
    exact hall j hj (by omega)
  | succ k ih =>
    intro i hi hall
    have hlt : i < l.length := by omega
    by_cases h6 : i < 150
    · by_cases h1 : 100 < l[i].Name.length
      · exact ⟨true, At_law12_Great_1_step _ _ _ ⟨fun _ => ⟨fun _ => ⟨by omega, l[i], by simp [hlt], fun _ => rfl, fun h => absurd (by omega) h⟩, fun h => absurd (by omega) h⟩, fun h => absurd (by omega) h⟩, (fun h => by cases h)⟩
      · by_cases h2 : 100 < l[i].Parent.length
        · exact ⟨true, At_law12_Great_1_step _ _ _ ⟨fun _ => ⟨fun _ => ⟨by omega, l[i], by simp [hlt], fun h => by omega, fun _ => ⟨fun _ => rfl, fun h => absurd (by omega) h⟩⟩, fun h => absurd (by omega) h⟩, fun h => absurd (by omega) h⟩, (fun h => by cases h)⟩
        · obtain ⟨b, hb, hb'⟩ := ih (i + 1) (by omega) (fun j hj hji => by
            by_cases e : j = i
            · subst e; omega
            · exact hall j hj (by omega))
          exact ⟨b, At_law12_Great_1_step _ _ _ ⟨fun _ => ⟨fun _ => ⟨by omega, l[i], by simp [hlt], fun h => by omega, fun _ => ⟨fun h => by omega, fun _ => ⟨⟨by omega, by omega⟩, hb⟩⟩⟩, fun h => absurd (by omega) h⟩, fun h => absurd (by omega) h⟩, hb'⟩
    · exact ⟨true, At_law12_Great_1_step _ _ _ ⟨fun _ => ⟨fun h => by omega, fun _ => by simp; omega⟩, fun h => absurd (by omega) h⟩, (fun h => by cases h)⟩
theorem r_Great12 (l : List Item) (hl : l.length ≤ 9223372036854775807) : ∃ b, R_law12_Great l b ∧ (b = false → l.length ≤ 130 ∧ ∀ x ∈ l, x.Name.length ≤ 100) := by
  obtain ⟨b, h, h'⟩ := r_Great12_1 l hl l.length 0 (by omega) (fun j hj h => by omega)
  exact ⟨b, law12_Great_tree _ _ h, h'⟩
theorem r_Right (l : List Item) : ∃ b, R_ref10_Right l b ∧ (b = true → Deep l (fun n => (upT l n).length)) := by
  by_cases hl : l.length ≤ 120
  · obtain ⟨b, h, h'⟩ := r_Right3 l hl l.length 0 (by omega) (fun j hj h => by omega)
    refine ⟨b, ref10_Right_tree _ _ ⟨fun h => by omega, fun _ => h⟩, fun hb => ?_⟩
    obtain ⟨h1, h2⟩ := h' hb
    refine Deep.of (nodup_of l fun i hi => ?_) (fun x hx e => ?_) h2
    · have := h1 (i + 1) hi
      simp only [okI, Bool.and_eq_true] at this
      have h3 := this.1.1.1.1.1.1.1.2
      rw [if_pos (by omega)] at h3
      have h4 : i < l.length := by omega
      simpa [h4] using h3
    · obtain ⟨j, hj, rfl⟩ := List.mem_iff_getElem.1 hx
      have := h1 j hj
      simp only [okI, Bool.and_eq_true] at this
      have h3 := this.1.1.1.1.1.1.1.1
      simp [mayN, e] at h3
  · exact ⟨false, ref10_Right_tree _ _ ⟨fun _ => rfl, fun h => absurd (by omega) h⟩, (fun h => by cases h)⟩
theorem Deep.nil : Deep [] (fun _ => 0) := ⟨rfl, fun x hx => (by cases hx), fun x hx => (by cases hx), by simp⟩
theorem r26_awake : R_law26_awake true := by
  apply law26_awake_tree
  have ok : ∀ s ∈ [PStep.mk 4 [97] [] (Vec.mk 0 0 0)], okStep s := by
    intro s hs
    obtain rfl := List.mem_singleton.1 hs
    exact ⟨⟨by decide, by decide⟩, ⟨⟨by decide, by decide⟩, ⟨by decide, by decide⟩, ⟨by decide, by decide⟩⟩, by simp, by simp⟩
  refine ⟨_, r_rShow Deep.nil (fun x hx => (by cases hx)) (by simp) [] (by simp), fun _ => ⟨_, r_Steps _ (by simp) ok, ?_⟩, fun h => absurd rfl h⟩
  simp [stepsT, stepT, Lib.itoa, Lib.decDigits]
theorem r_ReportAll (s : List PStep) (l : List Item) (ms : List Mark) (hs : s.length ≤ 9223372036854775807 ∧ ∀ x ∈ s, I64 x.Kind ∧ okVec x.Limit) (hl : l.length ≤ 9223372036854775807 ∧ ∀ x ∈ l, okVec x.Sub ∧ okVec x.Limit) (hm : ms.length ≤ 9223372036854775807) : R_law26_ReportAll s l ms true := by
  apply law26_ReportAll_tree
  obtain ⟨b, hb, hb'⟩ := r_Great16 ⟨ms, s, 0⟩ hm hs.1
  obtain ⟨c, hc, hc'⟩ := r_Great12 l hl.1
  obtain ⟨e, he, he'⟩ := r_Right l
  refine ⟨b, hb, fun _ => ⟨_, r26_awake, rfl⟩, fun hbf => ⟨c, hc, fun _ => ⟨_, r26_awake, rfl⟩, fun hcf => ?_⟩⟩
  obtain ⟨h1, h2, h3⟩ := hb' (Bool.eq_false_iff.2 hbf)
  obtain ⟨h4, h5⟩ := hc' (Bool.eq_false_iff.2 hcf)
  have hok : ∀ x ∈ s, okStep x := fun x hx => ⟨(hs.2 x hx).1, (hs.2 x hx).2, Nat.le_trans (h3 x hx).1 (by omega), Nat.le_trans (h3 x hx).2 (by omega)⟩
  have hit : ∀ x ∈ l, okItem x := fun x hx => ⟨(hl.2 x hx).1, (hl.2 x hx).2, h5 x hx⟩
  have h1' : ms.length ≤ 260 := h1
  have h2' : s.length ≤ 500 := h2
  refine ⟨_, r_Steps s (by omega) hok, _, r_StepsText s (by omega) hok, fun _ => ⟨fun hp => ?_, fun _ => ⟨e, he, fun h => ?_, fun _ => rfl⟩⟩, fun h => absurd rfl h⟩
  · cases s with
    | nil => simp at hp
    | cons x s => exact ⟨x, rfl, _, r_Step x (hok x (by simp)), _, r_StepText x (hok x (by simp)), fun _ => ⟨e, he, fun h => ⟨_, r_rShow (he' h) hit (by omega) ms (by omega), _, r_sShow (he' h) hit (by omega) ms (by omega), fun _ => ⟨_, r26_awake, rfl⟩, fun h => absurd rfl h⟩, fun _ => rfl⟩, fun h => absurd rfl h⟩
  · exact ⟨_, r_rShow (he' h) hit (by omega) ms (by omega), _, r_sShow (he' h) hit (by omega) ms (by omega), fun _ => ⟨_, r26_awake, rfl⟩, fun h => absurd rfl h⟩
end Go.Proofs.YtebflncfgjnkkaaDoor.M

/- The machine's code of the functions, printed by a program of this session (sc2.py) out of the translation. Not trusted: Lean checks each by its own computation. -/
namespace Go.Proofs.YtebflncfgjnkkaaDoor.M
open Go
set_option linter.unusedVariables false
/-- doorkeeper/doorkeeperlaw15.Step -/
def c_law15_Step_1 : SC := .seq (.seq (.reg [⟨(some 37), none, (.v (.faddr 0 (.t 7)))⟩, ⟨(some 38), none, (.v (.load none (.t 37)))⟩, ⟨(some 39), none, (.v (.bin .leq (.t 38) (.c (.int .i64 2))))⟩]) (.cond (.t 39) (.seq (.reg [⟨(some 40), none, (.v (.mov (.t 0)))⟩, ⟨(some 41), none, (.v (.conv (.int .i64) (.t 40)))⟩, ⟨(some 42), none, (.v (.bin .quo (.t 41) (.c (.int .i64 4))))⟩, ⟨(some 43), none, (.v (.bin .mul (.t 42) (.c (.int .i64 3))))⟩, ⟨(some 8), none, (.v (.mov (.t 43)))⟩]) (.reg [⟨(some 44), none, (.v (.mov (.t 8)))⟩, ⟨(some 45), none, (.v (.mov (.t 8)))⟩, ⟨(some 46), none, (.v (.mov (.t 8)))⟩, ⟨(some 47), none, (.v (.build [(.int .i64 0), (.int .i64 0), (.int .i64 0)] [(0, 1, (.t 44)), (1, 1, (.t 45)), (2, 1, (.t 46))]))⟩, ⟨(some 48), none, (.v (.faddr 3 (.t 7)))⟩, ⟨none, none, (.store 3 (.t 48) (.t 47))⟩])) .skip)) (.seq (.reg [⟨(some 49), none, (.v (.load (some 6) (.t 7)))⟩, ⟨none, none, (.store 6 (.t 6) (.t 49))⟩]) .ret)
def c_law15_Step_2 : SC := .seq (.seq (.reg [⟨(some 19), none, (.v (.faddr 0 (.t 7)))⟩, ⟨(some 20), none, (.v (.load none (.t 19)))⟩, ⟨(some 21), none, (.v (.bin .eql (.t 20) (.c (.int .i64 1))))⟩, ⟨(some 22), none, (.v (.mov (.t 21)))⟩, ⟨(some 23), (some (22, false)), (.v (.faddr 0 (.t 7)))⟩, ⟨(some 24), (some (22, false)), (.v (.load none (.t 23)))⟩, ⟨(some 25), (some (22, false)), (.v (.bin .eql (.t 24) (.c (.int .i64 3))))⟩, ⟨(some 26), none, (.v (.pick (.t 22) (.c (.bool true)) (.t 25)))⟩]) (.cond (.t 26) (.seq (.reg [⟨(some 27), none, (.v (.mov (.t 2)))⟩, ⟨(some 28), none, (.v (.bin .rem (.t 27) (.c (.int .u8 25))))⟩, ⟨(some 29), none, (.v (.bin .add (.c (.int .u8 97)) (.t 28)))⟩, ⟨(some 30), none, (.bslice 1 1 [(.int .u8 0)] [(0, (.t 29))])⟩, ⟨(some 31), none, (.v (.conv .bytes (.t 30)))⟩, ⟨(some 32), none, (.v (.faddr 2 (.t 7)))⟩, ⟨none, none, (.store 1 (.t 32) (.t 31))⟩]) (.seq (.reg [⟨(some 33), none, (.v (.mov (.t 2)))⟩, ⟨(some 34), none, (.v (.bin .rem (.t 33) (.c (.int .u8 5))))⟩, ⟨(some 35), none, (.v (.bin .eql (.t 34) (.c (.int .u8 0))))⟩]) (.cond (.t 35) (.reg [⟨(some 36), none, (.v (.faddr 2 (.t 7)))⟩, ⟨none, none, (.store 1 (.t 36) (.c (.str [])))⟩]) .skip))) .skip)) c_law15_Step_1
def c_law15_Step_3 : SC := .seq (.reg [⟨(some 9), none, (.v (.mov (.t 0)))⟩, ⟨(some 10), none, (.v (.conv (.int .i64) (.t 9)))⟩, ⟨(some 11), none, (.v (.bin .rem (.t 10) (.c (.int .i64 4))))⟩, ⟨(some 12), none, (.v (.bin .add (.c (.int .i64 1)) (.t 11)))⟩, ⟨(some 13), none, (.v (.mov (.t 1)))⟩, ⟨(some 14), none, (.v (.bin .rem (.t 13) (.c (.int .u8 25))))⟩, ⟨(some 15), none, (.v (.bin .add (.c (.int .u8 97)) (.t 14)))⟩, ⟨(some 16), none, (.bslice 1 1 [(.int .u8 0)] [(0, (.t 15))])⟩, ⟨(some 17), none, (.v (.conv .bytes (.t 16)))⟩, ⟨(some 18), none, (.v (.build [(.int .i64 0), (.str []), (.str []), (.int .i64 0), (.int .i64 0), (.int .i64 0)] [(0, 1, (.t 12)), (1, 1, (.t 17))]))⟩, ⟨(some 7), none, (.alloc [(.int .i64 0), (.str []), (.str []), (.int .i64 0), (.int .i64 0), (.int .i64 0)])⟩, ⟨none, none, (.store 6 (.t 7) (.t 18))⟩]) c_law15_Step_2
def sc_law15_Step : SFunc := ⟨3, 50, .seq (.reg [⟨(some 6), none, (.alloc [(.int .i64 0), (.str []), (.str []), (.int .i64 0), (.int .i64 0), (.int .i64 0)])⟩]) c_law15_Step_3, [(.cell 6 (some 6))]⟩
theorem U_law15_Step : type_of% (And.intro (fun (SP : Prg) (ac : Ac) => congrFun (congrArg (E SP) c_law15_Step_1.eq_1) ac) <| And.intro (fun (SP : Prg) (ac : Ac) => congrFun (congrArg (E SP) c_law15_Step_2.eq_1) ac) <| And.intro (fun (SP : Prg) (ac : Ac) => congrFun (congrArg (E SP) c_law15_Step_3.eq_1) ac) <| sc_law15_Step.eq_1) := And.intro (fun (SP : Prg) (ac : Ac) => congrFun (congrArg (E SP) c_law15_Step_1.eq_1) ac) <| And.intro (fun (SP : Prg) (ac : Ac) => congrFun (congrArg (E SP) c_law15_Step_2.eq_1) ac) <| And.intro (fun (SP : Prg) (ac : Ac) => congrFun (congrArg (E SP) c_law15_Step_3.eq_1) ac) <| sc_law15_Step.eq_1
theorem comp_law15_Step : comp Tryd.prog Tryd.f57 = some sc_law15_Step := by kernel_rfl
/-- doorkeeper/doorkeeperref10.copied -/
def sc_ref10_copied : SFunc := ⟨1, 6, .seq (.reg [⟨(some 2), none, (.nilv 12)⟩]) (.seq (.reg [⟨(some 3), none, (.bslice 12 0 [(.str []), (.str []), (.int .i64 0), (.int .i64 0), (.int .i64 0), (.int .i64 0), (.int .i64 0), (.int .i64 0), (.int .i64 0), (.int .i64 0), (.int .i64 0), (.int .i64 0)] [])⟩, ⟨(some 4), none, (.v (.mov (.t 0)))⟩, ⟨(some 5), none, (.append 12 112 (.t 3) (.t 4))⟩, ⟨(some 2), none, (.v (.mov (.t 5)))⟩]) .ret), [(.t 2)]⟩
theorem U_ref10_copied : type_of% (sc_ref10_copied.eq_1) := sc_ref10_copied.eq_1
theorem comp_ref10_copied : comp Tryd.prog Tryd.f119 = some sc_ref10_copied := by kernel_rfl
/-- doorkeeper/doorkeeperref10.no -/
def sc_ref10_no : SFunc := ⟨1, 5, .seq (.reg [⟨(some 2), none, (.alloc [(.nils 12), (.int .i64 0)])⟩]) (.seq (.reg [⟨(some 3), none, (.v (.mov (.t 0)))⟩, ⟨(some 4), none, (.v (.build [(.nils 12), (.int .i64 0)] [(1, 1, (.t 3))]))⟩, ⟨none, none, (.store 2 (.t 2) (.t 4))⟩]) .ret), [(.cell 2 (some 2))]⟩
theorem U_ref10_no : type_of% (sc_ref10_no.eq_1) := sc_ref10_no.eq_1
theorem comp_ref10_no : comp Tryd.prog Tryd.f118 = some sc_ref10_no := by kernel_rfl
/-- doorkeeper/doorkeeperref10.Create -/
def c_ref10_Create_1 : SC := .seq (.reg [⟨(some 57), none, (.v (.mov (.t 0)))⟩, ⟨(some 58), none, (.v (.mov (.t 9)))⟩, ⟨(some 59), none, (.v (.slc 12 (.t 57) none (some (.t 58)) none))⟩, ⟨(some 60), none, (.call (.c (.func 119 [])) [(.t 59)])⟩, ⟨(some 10), none, (.v (.mov (.t 60)))⟩]) (.seq (.reg [⟨(some 61), none, (.v (.mov (.t 10)))⟩, ⟨(some 62), none, (.v (.mov (.t 1)))⟩, ⟨(some 63), none, (.v (.mov (.t 2)))⟩, ⟨(some 64), none, (.v (.load (some 3) (.t 7)))⟩, ⟨(some 65), none, (.v (.build [(.str []), (.str []), (.int .i64 0), (.int .i64 0), (.int .i64 0), (.int .i64 0), (.int .i64 0), (.int .i64 0), (.int .i64 0), (.int .i64 0), (.int .i64 0), (.int .i64 0)] [(0, 1, (.t 62)), (1, 1, (.t 63)), (2, 3, (.t 64)), (11, 1, (.c (.int .i64 1)))]))⟩, ⟨(some 66), none, (.bslice 12 1 [(.str []), (.str []), (.int .i64 0), (.int .i64 0), (.int .i64 0), (.int .i64 0), (.int .i64 0), (.int .i64 0), (.int .i64 0), (.int .i64 0), (.int .i64 0), (.int .i64 0)] [(0, (.t 65))])⟩, ⟨(some 67), none, (.append 12 112 (.t 61) (.t 66))⟩, ⟨(some 10), none, (.v (.mov (.t 67)))⟩]) (.seq (.reg [⟨(some 68), none, (.v (.mov (.t 10)))⟩, ⟨(some 69), none, (.v (.mov (.t 0)))⟩, ⟨(some 70), none, (.v (.mov (.t 9)))⟩, ⟨(some 71), none, (.v (.slc 12 (.t 69) (some (.t 70)) none none))⟩, ⟨(some 72), none, (.append 12 112 (.t 68) (.t 71))⟩, ⟨(some 73), none, (.v (.build [(.nils 12), (.int .i64 0)] [(0, 1, (.t 72))]))⟩, ⟨none, none, (.store 2 (.t 8) (.t 73))⟩]) .ret))
def b_ref10_Create_1 : SC := .seq (.seq (.reg [⟨(some 42), none, (.v (.mov (.t 9)))⟩, ⟨(some 43), none, (.v (.mov (.t 0)))⟩, ⟨(some 44), none, (.v (.len false (.t 43)))⟩, ⟨(some 45), none, (.v (.bin .lss (.t 42) (.t 44)))⟩, ⟨(some 46), none, (.v (.mov (.t 45)))⟩, ⟨(some 47), (some (46, true)), (.v (.mov (.t 0)))⟩, ⟨(some 48), (some (46, true)), (.v (.mov (.t 9)))⟩, ⟨(some 49), (some (46, true)), (.v (.iaddr 12 (.t 47) (.t 48)))⟩, ⟨(some 50), (some (46, true)), (.v (.faddr 0 (.t 49)))⟩, ⟨(some 51), (some (46, true)), (.v (.load none (.t 50)))⟩, ⟨(some 52), (some (46, true)), (.v (.mov (.t 1)))⟩, ⟨(some 53), (some (46, true)), (.v (.bin .lss (.t 51) (.t 52)))⟩, ⟨(some 54), none, (.v (.pick (.t 46) (.t 53) (.c (.bool false))))⟩]) (.cond (.t 54) .skip (.exit 1))) (.block 2 (.reg [⟨(some 55), none, (.v (.mov (.t 9)))⟩, ⟨(some 56), none, (.v (.bin .add (.t 55) (.c (.int .i64 1))))⟩, ⟨(some 9), none, (.v (.mov (.t 56)))⟩]))
def c_ref10_Create_2 : SC := .seq (.block 1 (.loop b_ref10_Create_1)) c_ref10_Create_1
def c_ref10_Create_3 : SC := .seq (.reg [⟨(some 9), none, (.v (.mov (.c (.int .i64 0))))⟩]) c_ref10_Create_2
def c_ref10_Create_4 : SC := .cond (.t 11) (.seq (.reg [⟨(some 20), none, (.call (.c (.func 118 [])) [(.c (.int .i64 1))])⟩, ⟨none, none, (.store 2 (.t 8) (.t 20))⟩]) .ret) (.seq (.reg [⟨(some 22), none, (.v (.mov (.t 0)))⟩, ⟨(some 23), none, (.v (.mov (.t 1)))⟩, ⟨(some 24), none, (.call (.c (.func 60 [])) [(.t 22), (.t 23)])⟩, ⟨(some 25), none, (.v (.bin .geq (.t 24) (.c (.int .i64 0))))⟩, ⟨(some 21), none, (.v (.mov (.t 25)))⟩]) (.cond (.t 21) (.seq (.reg [⟨(some 26), none, (.call (.c (.func 118 [])) [(.c (.int .i64 3))])⟩, ⟨none, none, (.store 2 (.t 8) (.t 26))⟩]) .ret) (.seq (.reg [⟨(some 28), none, (.v (.mov (.t 2)))⟩, ⟨(some 29), none, (.v (.bin .neq (.t 28) (.c (.str []))))⟩, ⟨(some 30), none, (.v (.mov (.t 29)))⟩, ⟨(some 31), (some (30, true)), (.v (.mov (.t 0)))⟩, ⟨(some 32), (some (30, true)), (.v (.mov (.t 2)))⟩, ⟨(some 33), (some (30, true)), (.call (.c (.func 60 [])) [(.t 31), (.t 32)])⟩, ⟨(some 34), (some (30, true)), (.v (.bin .lss (.t 33) (.c (.int .i64 0))))⟩, ⟨(some 35), none, (.v (.pick (.t 30) (.t 34) (.c (.bool false))))⟩, ⟨(some 27), none, (.v (.mov (.t 35)))⟩]) (.cond (.t 27) (.seq (.reg [⟨(some 36), none, (.call (.c (.func 118 [])) [(.c (.int .i64 2))])⟩, ⟨none, none, (.store 2 (.t 8) (.t 36))⟩]) .ret) (.seq (.reg [⟨(some 38), none, (.v (.mov (.t 0)))⟩, ⟨(some 39), none, (.v (.len false (.t 38)))⟩, ⟨(some 40), none, (.v (.bin .geq (.t 39) (.c (.int .i64 120))))⟩, ⟨(some 37), none, (.v (.mov (.t 40)))⟩]) (.cond (.t 37) (.seq (.reg [⟨(some 41), none, (.call (.c (.func 118 [])) [(.c (.int .i64 4))])⟩, ⟨none, none, (.store 2 (.t 8) (.t 41))⟩]) .ret) .skip))))))
def c_ref10_Create_5 : SC := .seq (.block 0 (.seq (.reg [⟨(some 12), none, (.v (.mov (.t 1)))⟩, ⟨(some 13), none, (.call (.c (.func 88 [])) [(.t 12)])⟩, ⟨(some 14), none, (.v (.un .not (.t 13)))⟩, ⟨(some 15), none, (.v (.mov (.t 14)))⟩, ⟨(some 16), (some (15, false)), (.v (.load (some 3) (.t 7)))⟩, ⟨(some 17), (some (15, false)), (.call (.c (.func 19 [])) [(.t 16)])⟩, ⟨(some 18), (some (15, false)), (.v (.un .not (.t 17)))⟩, ⟨(some 19), none, (.v (.pick (.t 15) (.c (.bool true)) (.t 18)))⟩, ⟨(some 11), none, (.v (.mov (.t 19)))⟩]) c_ref10_Create_4)) c_ref10_Create_3
def sc_ref10_Create : SFunc := ⟨4, 74, .seq (.reg [⟨(some 7), none, (.box (.t 3))⟩, ⟨(some 8), none, (.alloc [(.nils 12), (.int .i64 0)])⟩]) c_ref10_Create_5, [(.cell 8 (some 2))]⟩
noncomputable def k_ref10_Create_1 (SP : Prg) (x : EO) : CO := fin [(.cell 8 (some 2))] (thC SP (inBlk 1 (x)) c_ref10_Create_1)
theorem U_ref10_Create : type_of% (And.intro (fun (SP : Prg) (ac : Ac) => congrFun (congrArg (E SP) c_ref10_Create_1.eq_1) ac) <| And.intro (fun (SP : Prg) (ac : Ac) => congrFun (congrArg (E SP) b_ref10_Create_1.eq_1) ac) <| And.intro (fun (SP : Prg) (ac : Ac) => congrFun (congrArg (E SP) c_ref10_Create_2.eq_1) ac) <| And.intro (fun (SP : Prg) (ac : Ac) => congrFun (congrArg (E SP) c_ref10_Create_3.eq_1) ac) <| And.intro (fun (SP : Prg) (ac : Ac) => congrFun (congrArg (E SP) c_ref10_Create_4.eq_1) ac) <| And.intro (fun (SP : Prg) (ac : Ac) => congrFun (congrArg (E SP) c_ref10_Create_5.eq_1) ac) <| sc_ref10_Create.eq_1) := And.intro (fun (SP : Prg) (ac : Ac) => congrFun (congrArg (E SP) c_ref10_Create_1.eq_1) ac) <| And.intro (fun (SP : Prg) (ac : Ac) => congrFun (congrArg (E SP) b_ref10_Create_1.eq_1) ac) <| And.intro (fun (SP : Prg) (ac : Ac) => congrFun (congrArg (E SP) c_ref10_Create_2.eq_1) ac) <| And.intro (fun (SP : Prg) (ac : Ac) => congrFun (congrArg (E SP) c_ref10_Create_3.eq_1) ac) <| And.intro (fun (SP : Prg) (ac : Ac) => congrFun (congrArg (E SP) c_ref10_Create_4.eq_1) ac) <| And.intro (fun (SP : Prg) (ac : Ac) => congrFun (congrArg (E SP) c_ref10_Create_5.eq_1) ac) <| sc_ref10_Create.eq_1
theorem comp_ref10_Create : comp Tryd.prog Tryd.f106 = some sc_ref10_Create := by kernel_rfl
/-- doorkeeper/doorkeeperref10.Admit -/
def c_ref10_Admit_1 : SC := .seq (.reg [⟨(some 61), none, (.v (.mov (.t 8)))⟩, ⟨(some 62), none, (.v (.mov (.t 1)))⟩, ⟨(some 63), none, (.call (.c (.func 60 [])) [(.t 61), (.t 62)])⟩, ⟨(some 11), none, (.v (.mov (.t 63)))⟩]) (.seq (.dreg [⟨(some 64), none, (.v (.mov (.t 8)))⟩, ⟨(some 65), none, (.v (.mov (.t 11)))⟩, ⟨(some 66), none, (.v (.mov (.t 8)))⟩, ⟨(some 67), none, (.v (.mov (.t 11)))⟩, ⟨(some 68), none, (.v (.iaddr 12 (.t 66) (.t 67)))⟩, ⟨(some 69), none, (.v (.faddr 5 (.t 68)))⟩, ⟨(some 70), none, (.v (.load (some 3) (.t 69)))⟩, ⟨(some 71), none, (.v (.load (some 3) (.t 5)))⟩, ⟨(some 72), none, (.call (.c (.func 68 [])) [(.t 70), (.t 71)])⟩, ⟨(some 73), none, (.v (.iaddr 12 (.t 64) (.t 65)))⟩, ⟨(some 74), none, (.v (.faddr 5 (.t 73)))⟩, ⟨none, none, (.store 3 (.t 74) (.t 72))⟩] [false, false, false, false, false, false, false, false, true, true, true, true]) (.seq (.reg [⟨(some 75), none, (.v (.mov (.t 8)))⟩, ⟨(some 76), none, (.v (.build [(.nils 12), (.int .i64 0)] [(0, 1, (.t 75))]))⟩, ⟨none, none, (.store 2 (.t 6) (.t 76))⟩]) .ret))
def c_ref10_Admit_2 : SC := .reg [⟨(some 29), none, (.v (.mov (.t 9)))⟩, ⟨(some 30), none, (.v (.bin .add (.t 29) (.c (.int .i64 1))))⟩, ⟨(some 9), none, (.v (.mov (.t 30)))⟩]
def c_ref10_Admit_3 : SC := .seq (.dreg [⟨(some 37), none, (.v (.mov (.t 8)))⟩, ⟨(some 38), none, (.v (.mov (.t 10)))⟩, ⟨(some 39), none, (.v (.mov (.t 8)))⟩, ⟨(some 40), none, (.v (.mov (.t 10)))⟩, ⟨(some 41), none, (.v (.iaddr 12 (.t 39) (.t 40)))⟩, ⟨(some 42), none, (.v (.faddr 8 (.t 41)))⟩, ⟨(some 43), none, (.v (.load (some 3) (.t 42)))⟩, ⟨(some 44), none, (.v (.load (some 3) (.t 5)))⟩, ⟨(some 45), none, (.call (.c (.func 68 [])) [(.t 43), (.t 44)])⟩, ⟨(some 46), none, (.v (.iaddr 12 (.t 37) (.t 38)))⟩, ⟨(some 47), none, (.v (.faddr 8 (.t 46)))⟩, ⟨none, none, (.store 3 (.t 47) (.t 45))⟩] [false, false, false, false, false, false, false, false, true, true, true, true]) (.seq (.dreg [⟨(some 48), none, (.v (.mov (.t 8)))⟩, ⟨(some 49), none, (.v (.mov (.t 10)))⟩, ⟨(some 50), none, (.v (.iaddr 12 (.t 48) (.t 49)))⟩, ⟨(some 51), none, (.v (.faddr 8 (.t 50)))⟩, ⟨(some 52), none, (.v (.load (some 3) (.t 51)))⟩, ⟨(some 53), none, (.v (.mov (.t 8)))⟩, ⟨(some 54), none, (.v (.mov (.t 10)))⟩, ⟨(some 55), none, (.v (.iaddr 12 (.t 53) (.t 54)))⟩, ⟨(some 56), none, (.v (.faddr 2 (.t 55)))⟩, ⟨(some 57), none, (.v (.load (some 3) (.t 56)))⟩, ⟨(some 58), none, (.call (.c (.func 24 [])) [(.t 52), (.t 57)])⟩, ⟨(some 59), none, (.v (.un .not (.t 58)))⟩] [false, false, false, false, false, false, false, false, false, false, true, true]) (.cond (.t 59) (.seq (.reg [⟨(some 60), none, (.call (.c (.func 118 [])) [(.c (.int .i64 12))])⟩, ⟨none, none, (.store 2 (.t 6) (.t 60))⟩]) .ret) .skip))
def c_ref10_Admit_4 : SC := .seq (.block 1 (.seq (.reg [⟨(some 31), none, (.v (.mov (.t 8)))⟩, ⟨(some 32), none, (.v (.mov (.t 7)))⟩, ⟨(some 33), none, (.v (.mov (.t 9)))⟩, ⟨(some 34), none, (.v (.iaddr 1 (.t 32) (.t 33)))⟩, ⟨(some 35), none, (.v (.load none (.t 34)))⟩, ⟨(some 36), none, (.call (.c (.func 60 [])) [(.t 31), (.t 35)])⟩, ⟨(some 10), none, (.v (.mov (.t 36)))⟩]) c_ref10_Admit_3)) c_ref10_Admit_2
def b_ref10_Admit_1 : SC := .seq (.seq (.reg [⟨(some 25), none, (.v (.mov (.t 9)))⟩, ⟨(some 26), none, (.v (.mov (.t 7)))⟩, ⟨(some 27), none, (.v (.len false (.t 26)))⟩, ⟨(some 28), none, (.v (.bin .lss (.t 25) (.t 27)))⟩]) (.cond (.t 28) .skip (.exit 0))) c_ref10_Admit_4
def c_ref10_Admit_5 : SC := .block 0 (.loop b_ref10_Admit_1)
def c_ref10_Admit_6 : SC := .seq (.seq (.reg [⟨(some 9), none, (.v (.mov (.c (.int .i64 0))))⟩]) c_ref10_Admit_5) c_ref10_Admit_1
def c_ref10_Admit_7 : SC := .seq (.reg [⟨(some 23), none, (.v (.mov (.t 0)))⟩, ⟨(some 24), none, (.call (.c (.func 119 [])) [(.t 23)])⟩, ⟨(some 8), none, (.v (.mov (.t 24)))⟩]) c_ref10_Admit_6
def c_ref10_Admit_8 : SC := .seq (.seq (.reg [⟨(some 19), none, (.v (.mov (.t 7)))⟩, ⟨(some 20), none, (.v (.len false (.t 19)))⟩, ⟨(some 21), none, (.v (.bin .eql (.t 20) (.c (.int .i64 0))))⟩]) (.cond (.t 21) (.seq (.reg [⟨(some 22), none, (.call (.c (.func 118 [])) [(.c (.int .i64 2))])⟩, ⟨none, none, (.store 2 (.t 6) (.t 22))⟩]) .ret) .skip)) c_ref10_Admit_7
def c_ref10_Admit_9 : SC := .seq (.seq (.reg [⟨(some 15), none, (.v (.load (some 3) (.t 5)))⟩, ⟨(some 16), none, (.call (.c (.func 19 [])) [(.t 15)])⟩, ⟨(some 17), none, (.v (.un .not (.t 16)))⟩]) (.cond (.t 17) (.seq (.reg [⟨(some 18), none, (.call (.c (.func 118 [])) [(.c (.int .i64 1))])⟩, ⟨none, none, (.store 2 (.t 6) (.t 18))⟩]) .ret) .skip)) c_ref10_Admit_8
def c_ref10_Admit_10 : SC := .seq (.reg [⟨(some 12), none, (.v (.mov (.t 0)))⟩, ⟨(some 13), none, (.v (.mov (.t 1)))⟩, ⟨(some 14), none, (.call (.c (.func 61 [])) [(.t 12), (.t 13)])⟩, ⟨(some 7), none, (.v (.mov (.t 14)))⟩]) c_ref10_Admit_9
def sc_ref10_Admit : SFunc := ⟨3, 77, .seq (.reg [⟨(some 5), none, (.box (.t 2))⟩, ⟨(some 6), none, (.alloc [(.nils 12), (.int .i64 0)])⟩]) c_ref10_Admit_10, [(.cell 6 (some 2))]⟩
noncomputable def k_ref10_Admit_1 (SP : Prg) (x : EO) : CO := fin [(.cell 6 (some 2))] (thC SP (inBlk 0 (x)) c_ref10_Admit_1)
theorem U_ref10_Admit : type_of% (And.intro (fun (SP : Prg) (ac : Ac) => congrFun (congrArg (E SP) c_ref10_Admit_1.eq_1) ac) <| And.intro (fun (SP : Prg) (ac : Ac) => congrFun (congrArg (E SP) c_ref10_Admit_2.eq_1) ac) <| And.intro (fun (SP : Prg) (ac : Ac) => congrFun (congrArg (E SP) c_ref10_Admit_3.eq_1) ac) <| And.intro (fun (SP : Prg) (ac : Ac) => congrFun (congrArg (E SP) c_ref10_Admit_4.eq_1) ac) <| And.intro (fun (SP : Prg) (ac : Ac) => congrFun (congrArg (E SP) b_ref10_Admit_1.eq_1) ac) <| And.intro (fun (SP : Prg) (ac : Ac) => congrFun (congrArg (E SP) c_ref10_Admit_5.eq_1) ac) <| And.intro (fun (SP : Prg) (ac : Ac) => congrFun (congrArg (E SP) c_ref10_Admit_6.eq_1) ac) <| And.intro (fun (SP : Prg) (ac : Ac) => congrFun (congrArg (E SP) c_ref10_Admit_7.eq_1) ac) <| And.intro (fun (SP : Prg) (ac : Ac) => congrFun (congrArg (E SP) c_ref10_Admit_8.eq_1) ac) <| And.intro (fun (SP : Prg) (ac : Ac) => congrFun (congrArg (E SP) c_ref10_Admit_9.eq_1) ac) <| And.intro (fun (SP : Prg) (ac : Ac) => congrFun (congrArg (E SP) c_ref10_Admit_10.eq_1) ac) <| sc_ref10_Admit.eq_1) := And.intro (fun (SP : Prg) (ac : Ac) => congrFun (congrArg (E SP) c_ref10_Admit_1.eq_1) ac) <| And.intro (fun (SP : Prg) (ac : Ac) => congrFun (congrArg (E SP) c_ref10_Admit_2.eq_1) ac) <| And.intro (fun (SP : Prg) (ac : Ac) => congrFun (congrArg (E SP) c_ref10_Admit_3.eq_1) ac) <| And.intro (fun (SP : Prg) (ac : Ac) => congrFun (congrArg (E SP) c_ref10_Admit_4.eq_1) ac) <| And.intro (fun (SP : Prg) (ac : Ac) => congrFun (congrArg (E SP) b_ref10_Admit_1.eq_1) ac) <| And.intro (fun (SP : Prg) (ac : Ac) => congrFun (congrArg (E SP) c_ref10_Admit_5.eq_1) ac) <| And.intro (fun (SP : Prg) (ac : Ac) => congrFun (congrArg (E SP) c_ref10_Admit_6.eq_1) ac) <| And.intro (fun (SP : Prg) (ac : Ac) => congrFun (congrArg (E SP) c_ref10_Admit_7.eq_1) ac) <| And.intro (fun (SP : Prg) (ac : Ac) => congrFun (congrArg (E SP) c_ref10_Admit_8.eq_1) ac) <| And.intro (fun (SP : Prg) (ac : Ac) => congrFun (congrArg (E SP) c_ref10_Admit_9.eq_1) ac) <| And.intro (fun (SP : Prg) (ac : Ac) => congrFun (congrArg (E SP) c_ref10_Admit_10.eq_1) ac) <| sc_ref10_Admit.eq_1
theorem comp_ref10_Admit : comp Tryd.prog Tryd.f107 = some sc_ref10_Admit := by kernel_rfl
/-- doorkeeper/doorkeeperlaw12.Make -/
def c_law12_Make_1 : SC := .seq (.reg [⟨(some 108), none, (.v (.mov (.t 3)))⟩, ⟨(some 2), none, (.v (.mov (.t 108)))⟩]) .ret
def c_law12_Make_2 : SC := .reg [⟨(some 22), none, (.v (.mov (.t 4)))⟩, ⟨(some 23), none, (.v (.bin .add (.t 22) (.c (.int .i64 3))))⟩, ⟨(some 4), none, (.v (.mov (.t 23)))⟩]
def c_law12_Make_3 : SC := .seq (.reg [⟨(some 94), none, (.v (.mov (.t 3)))⟩, ⟨(some 95), none, (.v (.mov (.t 10)))⟩, ⟨(some 96), none, (.v (.mov (.t 9)))⟩, ⟨(some 97), none, (.v (.mov (.t 9)))⟩, ⟨(some 98), none, (.v (.bin .quo (.t 97) (.c (.int .i64 2))))⟩, ⟨(some 99), none, (.v (.mov (.t 9)))⟩, ⟨(some 100), none, (.v (.bin .rem (.t 99) (.c (.int .i64 3))))⟩, ⟨(some 101), none, (.v (.build [(.int .i64 0), (.int .i64 0), (.int .i64 0)] [(0, 1, (.t 96)), (1, 1, (.t 98)), (2, 1, (.t 100))]))⟩, ⟨(some 102), none, (.call (.c (.func 107 [])) [(.t 94), (.t 95), (.t 101)])⟩, ⟨(some 11), none, (.alloc [(.nils 12), (.int .i64 0)])⟩, ⟨none, none, (.store 2 (.t 11) (.t 102))⟩]) (.seq (.reg [⟨(some 103), none, (.v (.faddr 1 (.t 11)))⟩, ⟨(some 104), none, (.v (.load none (.t 103)))⟩, ⟨(some 105), none, (.v (.bin .eql (.t 104) (.c (.int .i64 0))))⟩]) (.cond (.t 105) (.reg [⟨(some 106), none, (.v (.faddr 0 (.t 11)))⟩, ⟨(some 107), none, (.v (.load none (.t 106)))⟩, ⟨(some 3), none, (.v (.mov (.t 107)))⟩]) .skip))
def c_law12_Make_4 : SC := .seq (.reg [⟨(some 80), none, (.v (.mov (.t 3)))⟩, ⟨(some 81), none, (.v (.mov (.t 0)))⟩, ⟨(some 82), none, (.v (.mov (.t 4)))⟩, ⟨(some 83), none, (.v (.bin .add (.t 82) (.c (.int .i64 2))))⟩, ⟨(some 84), none, (.v (.iaddr 1 (.t 81) (.t 83)))⟩, ⟨(some 85), none, (.v (.load none (.t 84)))⟩, ⟨(some 86), none, (.v (.conv (.int .i64) (.t 85)))⟩, ⟨(some 87), none, (.v (.bin .quo (.t 86) (.c (.int .i64 16))))⟩, ⟨(some 88), none, (.v (.mov (.t 3)))⟩, ⟨(some 89), none, (.v (.len false (.t 88)))⟩, ⟨(some 90), none, (.v (.bin .rem (.t 87) (.t 89)))⟩, ⟨(some 91), none, (.v (.iaddr 12 (.t 80) (.t 90)))⟩, ⟨(some 92), none, (.v (.faddr 0 (.t 91)))⟩, ⟨(some 93), none, (.v (.load none (.t 92)))⟩, ⟨(some 10), none, (.v (.mov (.t 93)))⟩]) c_law12_Make_3
def c_law12_Make_5 : SC := .seq (.reg [⟨(some 73), none, (.v (.mov (.t 0)))⟩, ⟨(some 74), none, (.v (.mov (.t 4)))⟩, ⟨(some 75), none, (.v (.bin .add (.t 74) (.c (.int .i64 2))))⟩, ⟨(some 76), none, (.v (.iaddr 1 (.t 73) (.t 75)))⟩, ⟨(some 77), none, (.v (.load none (.t 76)))⟩, ⟨(some 78), none, (.v (.conv (.int .i64) (.t 77)))⟩, ⟨(some 79), none, (.v (.bin .rem (.t 78) (.c (.int .i64 16))))⟩, ⟨(some 9), none, (.v (.mov (.t 79)))⟩]) c_law12_Make_4
def c_law12_Make_6 : SC := .seq (.reg [⟨(some 71), none, (.v (.faddr 0 (.t 8)))⟩, ⟨(some 72), none, (.v (.load none (.t 71)))⟩, ⟨(some 3), none, (.v (.mov (.t 72)))⟩]) c_law12_Make_5
def c_law12_Make_7 : SC := .seq (.seq (.reg [⟨(some 68), none, (.v (.faddr 1 (.t 8)))⟩, ⟨(some 69), none, (.v (.load none (.t 68)))⟩, ⟨(some 70), none, (.v (.bin .neq (.t 69) (.c (.int .i64 0))))⟩]) (.cond (.t 70) (.exit 1) .skip)) c_law12_Make_6
def c_law12_Make_8 : SC := .seq (.reg [⟨(some 53), none, (.v (.mov (.t 3)))⟩, ⟨(some 54), none, (.v (.mov (.t 3)))⟩, ⟨(some 55), none, (.v (.len false (.t 54)))⟩, ⟨(some 56), none, (.v (.bin .mul (.t 55) (.c (.int .i64 5))))⟩, ⟨(some 57), none, (.v (.bin .rem (.t 56) (.c (.int .i64 24))))⟩, ⟨(some 58), none, (.v (.bin .add (.c (.int .i64 97)) (.t 57)))⟩, ⟨(some 59), none, (.v (.conv (.int .u8) (.t 58)))⟩, ⟨(some 60), none, (.bslice 1 1 [(.int .u8 0)] [(0, (.t 59))])⟩, ⟨(some 61), none, (.v (.conv .bytes (.t 60)))⟩, ⟨(some 62), none, (.v (.mov (.t 6)))⟩, ⟨(some 63), none, (.v (.mov (.t 7)))⟩, ⟨(some 64), none, (.v (.mov (.t 7)))⟩, ⟨(some 65), none, (.v (.mov (.t 7)))⟩, ⟨(some 66), none, (.v (.build [(.int .i64 0), (.int .i64 0), (.int .i64 0)] [(0, 1, (.t 63)), (1, 1, (.t 64)), (2, 1, (.t 65))]))⟩, ⟨(some 67), none, (.call (.c (.func 106 [])) [(.t 53), (.t 61), (.t 62), (.t 66)])⟩, ⟨(some 8), none, (.alloc [(.nils 12), (.int .i64 0)])⟩, ⟨none, none, (.store 2 (.t 8) (.t 67))⟩]) c_law12_Make_7
def c_law12_Make_9 : SC := .seq (.reg [⟨(some 46), none, (.v (.mov (.t 0)))⟩, ⟨(some 47), none, (.v (.mov (.t 4)))⟩, ⟨(some 48), none, (.v (.bin .add (.t 47) (.c (.int .i64 1))))⟩, ⟨(some 49), none, (.v (.iaddr 1 (.t 46) (.t 48)))⟩, ⟨(some 50), none, (.v (.load none (.t 49)))⟩, ⟨(some 51), none, (.v (.conv (.int .i64) (.t 50)))⟩, ⟨(some 52), none, (.v (.bin .add (.c (.int .i64 20)) (.t 51)))⟩, ⟨(some 7), none, (.v (.mov (.t 52)))⟩]) c_law12_Make_8
def c_law12_Make_10 : SC := .seq (.seq (.reg [⟨(some 29), none, (.v (.mov (.t 3)))⟩, ⟨(some 30), none, (.v (.len false (.t 29)))⟩, ⟨(some 31), none, (.v (.bin .gtr (.t 30) (.c (.int .i64 0))))⟩, ⟨(some 32), none, (.v (.mov (.t 31)))⟩, ⟨(some 33), (some (32, true)), (.v (.mov (.t 5)))⟩, ⟨(some 34), (some (32, true)), (.v (.bin .rem (.t 33) (.c (.int .i64 3))))⟩, ⟨(some 35), (some (32, true)), (.v (.bin .gtr (.t 34) (.c (.int .i64 0))))⟩, ⟨(some 36), none, (.v (.pick (.t 32) (.t 35) (.c (.bool false))))⟩]) (.cond (.t 36) (.reg [⟨(some 37), none, (.v (.mov (.t 3)))⟩, ⟨(some 38), none, (.v (.mov (.t 5)))⟩, ⟨(some 39), none, (.v (.bin .quo (.t 38) (.c (.int .i64 3))))⟩, ⟨(some 40), none, (.v (.mov (.t 3)))⟩, ⟨(some 41), none, (.v (.len false (.t 40)))⟩, ⟨(some 42), none, (.v (.bin .rem (.t 39) (.t 41)))⟩, ⟨(some 43), none, (.v (.iaddr 12 (.t 37) (.t 42)))⟩, ⟨(some 44), none, (.v (.faddr 0 (.t 43)))⟩, ⟨(some 45), none, (.v (.load none (.t 44)))⟩, ⟨(some 6), none, (.v (.mov (.t 45)))⟩]) .skip)) c_law12_Make_9
def c_law12_Make_11 : SC := .seq (.reg [⟨(some 6), none, (.v (.mov (.c (.str []))))⟩]) c_law12_Make_10
def c_law12_Make_12 : SC := .seq (.block 1 (.seq (.reg [⟨(some 24), none, (.v (.mov (.t 0)))⟩, ⟨(some 25), none, (.v (.mov (.t 4)))⟩, ⟨(some 26), none, (.v (.iaddr 1 (.t 24) (.t 25)))⟩, ⟨(some 27), none, (.v (.load none (.t 26)))⟩, ⟨(some 28), none, (.v (.conv (.int .i64) (.t 27)))⟩, ⟨(some 5), none, (.v (.mov (.t 28)))⟩]) c_law12_Make_11)) c_law12_Make_2
def b_law12_Make_1 : SC := .seq (.seq (.reg [⟨(some 12), none, (.v (.mov (.t 4)))⟩, ⟨(some 13), none, (.v (.bin .add (.t 12) (.c (.int .i64 2))))⟩, ⟨(some 14), none, (.v (.mov (.t 0)))⟩, ⟨(some 15), none, (.v (.len false (.t 14)))⟩, ⟨(some 16), none, (.v (.bin .lss (.t 13) (.t 15)))⟩, ⟨(some 17), none, (.v (.mov (.t 16)))⟩, ⟨(some 18), (some (17, true)), (.v (.mov (.t 3)))⟩, ⟨(some 19), (some (17, true)), (.v (.len false (.t 18)))⟩, ⟨(some 20), (some (17, true)), (.v (.bin .lss (.t 19) (.c (.int .i64 24))))⟩, ⟨(some 21), none, (.v (.pick (.t 17) (.t 20) (.c (.bool false))))⟩]) (.cond (.t 21) .skip (.exit 0))) c_law12_Make_12
def c_law12_Make_13 : SC := .block 0 (.loop b_law12_Make_1)
def c_law12_Make_14 : SC := .seq (.seq (.reg [⟨(some 4), none, (.v (.mov (.c (.int .i64 0))))⟩]) c_law12_Make_13) c_law12_Make_1
def c_law12_Make_15 : SC := .seq (.reg [⟨(some 3), none, (.nilv 12)⟩]) c_law12_Make_14
def sc_law12_Make : SFunc := ⟨1, 109, .seq (.reg [⟨(some 2), none, (.nilv 12)⟩]) c_law12_Make_15, [(.t 2)]⟩
noncomputable def k_law12_Make_1 (SP : Prg) (x : EO) : CO := fin [(.t 2)] (thC SP (inBlk 0 (x)) c_law12_Make_1)
theorem U_law12_Make : type_of% (And.intro (fun (SP : Prg) (ac : Ac) => congrFun (congrArg (E SP) c_law12_Make_1.eq_1) ac) <| And.intro (fun (SP : Prg) (ac : Ac) => congrFun (congrArg (E SP) c_law12_Make_2.eq_1) ac) <| And.intro (fun (SP : Prg) (ac : Ac) => congrFun (congrArg (E SP) c_law12_Make_3.eq_1) ac) <| And.intro (fun (SP : Prg) (ac : Ac) => congrFun (congrArg (E SP) c_law12_Make_4.eq_1) ac) <| And.intro (fun (SP : Prg) (ac : Ac) => congrFun (congrArg (E SP) c_law12_Make_5.eq_1) ac) <| And.intro (fun (SP : Prg) (ac : Ac) => congrFun (congrArg (E SP) c_law12_Make_6.eq_1) ac) <| And.intro (fun (SP : Prg) (ac : Ac) => congrFun (congrArg (E SP) c_law12_Make_7.eq_1) ac) <| And.intro (fun (SP : Prg) (ac : Ac) => congrFun (congrArg (E SP) c_law12_Make_8.eq_1) ac) <| And.intro (fun (SP : Prg) (ac : Ac) => congrFun (congrArg (E SP) c_law12_Make_9.eq_1) ac) <| And.intro (fun (SP : Prg) (ac : Ac) => congrFun (congrArg (E SP) c_law12_Make_10.eq_1) ac) <| And.intro (fun (SP : Prg) (ac : Ac) => congrFun (congrArg (E SP) c_law12_Make_11.eq_1) ac) <| And.intro (fun (SP : Prg) (ac : Ac) => congrFun (congrArg (E SP) c_law12_Make_12.eq_1) ac) <| And.intro (fun (SP : Prg) (ac : Ac) => congrFun (congrArg (E SP) b_law12_Make_1.eq_1) ac) <| And.intro (fun (SP : Prg) (ac : Ac) => congrFun (congrArg (E SP) c_law12_Make_13.eq_1) ac) <| And.intro (fun (SP : Prg) (ac : Ac) => congrFun (congrArg (E SP) c_law12_Make_14.eq_1) ac) <| And.intro (fun (SP : Prg) (ac : Ac) => congrFun (congrArg (E SP) c_law12_Make_15.eq_1) ac) <| sc_law12_Make.eq_1) := And.intro (fun (SP : Prg) (ac : Ac) => congrFun (congrArg (E SP) c_law12_Make_1.eq_1) ac) <| And.intro (fun (SP : Prg) (ac : Ac) => congrFun (congrArg (E SP) c_law12_Make_2.eq_1) ac) <| And.intro (fun (SP : Prg) (ac : Ac) => congrFun (congrArg (E SP) c_law12_Make_3.eq_1) ac) <| And.intro (fun (SP : Prg) (ac : Ac) => congrFun (congrArg (E SP) c_law12_Make_4.eq_1) ac) <| And.intro (fun (SP : Prg) (ac : Ac) => congrFun (congrArg (E SP) c_law12_Make_5.eq_1) ac) <| And.intro (fun (SP : Prg) (ac : Ac) => congrFun (congrArg (E SP) c_law12_Make_6.eq_1) ac) <| And.intro (fun (SP : Prg) (ac : Ac) => congrFun (congrArg (E SP) c_law12_Make_7.eq_1) ac) <| And.intro (fun (SP : Prg) (ac : Ac) => congrFun (congrArg (E SP) c_law12_Make_8.eq_1) ac) <| And.intro (fun (SP : Prg) (ac : Ac) => congrFun (congrArg (E SP) c_law12_Make_9.eq_1) ac) <| And.intro (fun (SP : Prg) (ac : Ac) => congrFun (congrArg (E SP) c_law12_Make_10.eq_1) ac) <| And.intro (fun (SP : Prg) (ac : Ac) => congrFun (congrArg (E SP) c_law12_Make_11.eq_1) ac) <| And.intro (fun (SP : Prg) (ac : Ac) => congrFun (congrArg (E SP) c_law12_Make_12.eq_1) ac) <| And.intro (fun (SP : Prg) (ac : Ac) => congrFun (congrArg (E SP) b_law12_Make_1.eq_1) ac) <| And.intro (fun (SP : Prg) (ac : Ac) => congrFun (congrArg (E SP) c_law12_Make_13.eq_1) ac) <| And.intro (fun (SP : Prg) (ac : Ac) => congrFun (congrArg (E SP) c_law12_Make_14.eq_1) ac) <| And.intro (fun (SP : Prg) (ac : Ac) => congrFun (congrArg (E SP) c_law12_Make_15.eq_1) ac) <| sc_law12_Make.eq_1
theorem comp_law12_Make : comp Tryd.prog Tryd.f91 = some sc_law12_Make := by kernel_rfl
/-- doorkeeper/doorkeeperlaw18.Live -/
def c_law18_Live_1 : SC := .seq (.seq (.reg [⟨(some 47), none, (.v (.mov (.t 1)))⟩, ⟨(some 48), none, (.v (.bin .rem (.t 47) (.c (.int .u8 5))))⟩, ⟨(some 49), none, (.v (.bin .eql (.t 48) (.c (.int .u8 0))))⟩]) (.cond (.t 49) (.reg [⟨(some 50), none, (.v (.mov (.t 7)))⟩, ⟨(some 51), none, (.v (.build [(.str []), (.str []), (.int .i64 0), (.int .i64 0), (.int .i64 0), (.int .i64 0)] [(0, 1, (.c (.str [122, 122]))), (5, 1, (.c (.int .i64 1)))]))⟩, ⟨(some 52), none, (.bslice 6 1 [(.str []), (.str []), (.int .i64 0), (.int .i64 0), (.int .i64 0), (.int .i64 0)] [(0, (.t 51))])⟩, ⟨(some 53), none, (.append 6 64 (.t 50) (.t 52))⟩, ⟨(some 7), none, (.v (.mov (.t 53)))⟩]) .skip)) (.seq (.reg [⟨(some 54), none, (.v (.mov (.t 7)))⟩, ⟨(some 55), none, (.v (.mov (.t 6)))⟩, ⟨(some 4), none, (.v (.mov (.t 54)))⟩, ⟨(some 5), none, (.v (.mov (.t 55)))⟩]) .ret)
def c_law18_Live_2 : SC := .reg [⟨(some 15), none, (.v (.mov (.t 8)))⟩, ⟨(some 16), none, (.v (.bin .add (.t 15) (.c (.int .i64 1))))⟩, ⟨(some 8), none, (.v (.mov (.t 16)))⟩]
def c_law18_Live_3 : SC := .cond (.t 22) (.dreg [⟨(some 23), none, (.v (.mov (.t 7)))⟩, ⟨(some 24), none, (.v (.mov (.t 6)))⟩, ⟨(some 25), none, (.v (.mov (.t 8)))⟩, ⟨(some 26), none, (.v (.iaddr 12 (.t 24) (.t 25)))⟩, ⟨(some 27), none, (.v (.faddr 0 (.t 26)))⟩, ⟨(some 28), none, (.v (.load none (.t 27)))⟩, ⟨(some 29), none, (.v (.mov (.t 6)))⟩, ⟨(some 30), none, (.v (.mov (.t 8)))⟩, ⟨(some 31), none, (.v (.iaddr 12 (.t 29) (.t 30)))⟩, ⟨(some 32), none, (.v (.faddr 1 (.t 31)))⟩, ⟨(some 33), none, (.v (.load none (.t 32)))⟩, ⟨(some 34), none, (.v (.mov (.t 6)))⟩, ⟨(some 35), none, (.v (.mov (.t 8)))⟩, ⟨(some 36), none, (.v (.iaddr 12 (.t 34) (.t 35)))⟩, ⟨(some 37), none, (.v (.faddr 2 (.t 36)))⟩, ⟨(some 38), none, (.v (.load (some 3) (.t 37)))⟩, ⟨(some 39), none, (.v (.mov (.t 6)))⟩, ⟨(some 40), none, (.v (.mov (.t 8)))⟩, ⟨(some 41), none, (.v (.iaddr 12 (.t 39) (.t 40)))⟩, ⟨(some 42), none, (.v (.faddr 11 (.t 41)))⟩, ⟨(some 43), none, (.v (.load none (.t 42)))⟩, ⟨(some 44), none, (.v (.build [(.str []), (.str []), (.int .i64 0), (.int .i64 0), (.int .i64 0), (.int .i64 0)] [(0, 1, (.t 28)), (1, 1, (.t 33)), (2, 3, (.t 38)), (5, 1, (.t 43))]))⟩, ⟨(some 45), none, (.bslice 6 1 [(.str []), (.str []), (.int .i64 0), (.int .i64 0), (.int .i64 0), (.int .i64 0)] [(0, (.t 44))])⟩, ⟨(some 46), none, (.append 6 64 (.t 23) (.t 45))⟩, ⟨(some 7), none, (.v (.mov (.t 46)))⟩] [false, false, false, false, false, false, false, false, false, false, false, false, false, false, false, false, false, false, false, false, false, true, true, true, true]) .skip
def c_law18_Live_4 : SC := .seq (.block 1 (.seq (.reg [⟨(some 17), none, (.v (.mov (.t 8)))⟩, ⟨(some 18), none, (.v (.mov (.t 1)))⟩, ⟨(some 19), none, (.v (.conv (.int .i64) (.t 18)))⟩, ⟨(some 20), none, (.v (.bin .add (.t 17) (.t 19)))⟩, ⟨(some 21), none, (.v (.bin .rem (.t 20) (.c (.int .i64 4))))⟩, ⟨(some 22), none, (.v (.bin .gtr (.t 21) (.c (.int .i64 0))))⟩]) c_law18_Live_3)) c_law18_Live_2
def b_law18_Live_1 : SC := .seq (.seq (.reg [⟨(some 11), none, (.v (.mov (.t 8)))⟩, ⟨(some 12), none, (.v (.mov (.t 6)))⟩, ⟨(some 13), none, (.v (.len false (.t 12)))⟩, ⟨(some 14), none, (.v (.bin .lss (.t 11) (.t 13)))⟩]) (.cond (.t 14) .skip (.exit 0))) c_law18_Live_4
def c_law18_Live_5 : SC := .block 0 (.loop b_law18_Live_1)
def c_law18_Live_6 : SC := .seq (.seq (.reg [⟨(some 8), none, (.v (.mov (.c (.int .i64 0))))⟩]) c_law18_Live_5) c_law18_Live_1
def c_law18_Live_7 : SC := .seq (.reg [⟨(some 7), none, (.nilv 6)⟩]) c_law18_Live_6
def c_law18_Live_8 : SC := .seq (.reg [⟨(some 9), none, (.v (.mov (.t 0)))⟩, ⟨(some 10), none, (.call (.c (.func 91 [])) [(.t 9)])⟩, ⟨(some 6), none, (.v (.mov (.t 10)))⟩]) c_law18_Live_7
def sc_law18_Live : SFunc := ⟨2, 56, .seq (.reg [⟨(some 4), none, (.nilv 6)⟩, ⟨(some 5), none, (.nilv 12)⟩]) c_law18_Live_8, [(.t 4), (.t 5)]⟩
noncomputable def k_law18_Live_1 (SP : Prg) (x : EO) : CO := fin [(.t 4), (.t 5)] (thC SP (inBlk 0 (x)) c_law18_Live_1)
theorem U_law18_Live : type_of% (And.intro (fun (SP : Prg) (ac : Ac) => congrFun (congrArg (E SP) c_law18_Live_1.eq_1) ac) <| And.intro (fun (SP : Prg) (ac : Ac) => congrFun (congrArg (E SP) c_law18_Live_2.eq_1) ac) <| And.intro (fun (SP : Prg) (ac : Ac) => congrFun (congrArg (E SP) c_law18_Live_3.eq_1) ac) <| And.intro (fun (SP : Prg) (ac : Ac) => congrFun (congrArg (E SP) c_law18_Live_4.eq_1) ac) <| And.intro (fun (SP : Prg) (ac : Ac) => congrFun (congrArg (E SP) b_law18_Live_1.eq_1) ac) <| And.intro (fun (SP : Prg) (ac : Ac) => congrFun (congrArg (E SP) c_law18_Live_5.eq_1) ac) <| And.intro (fun (SP : Prg) (ac : Ac) => congrFun (congrArg (E SP) c_law18_Live_6.eq_1) ac) <| And.intro (fun (SP : Prg) (ac : Ac) => congrFun (congrArg (E SP) c_law18_Live_7.eq_1) ac) <| And.intro (fun (SP : Prg) (ac : Ac) => congrFun (congrArg (E SP) c_law18_Live_8.eq_1) ac) <| sc_law18_Live.eq_1) := And.intro (fun (SP : Prg) (ac : Ac) => congrFun (congrArg (E SP) c_law18_Live_1.eq_1) ac) <| And.intro (fun (SP : Prg) (ac : Ac) => congrFun (congrArg (E SP) c_law18_Live_2.eq_1) ac) <| And.intro (fun (SP : Prg) (ac : Ac) => congrFun (congrArg (E SP) c_law18_Live_3.eq_1) ac) <| And.intro (fun (SP : Prg) (ac : Ac) => congrFun (congrArg (E SP) c_law18_Live_4.eq_1) ac) <| And.intro (fun (SP : Prg) (ac : Ac) => congrFun (congrArg (E SP) b_law18_Live_1.eq_1) ac) <| And.intro (fun (SP : Prg) (ac : Ac) => congrFun (congrArg (E SP) c_law18_Live_5.eq_1) ac) <| And.intro (fun (SP : Prg) (ac : Ac) => congrFun (congrArg (E SP) c_law18_Live_6.eq_1) ac) <| And.intro (fun (SP : Prg) (ac : Ac) => congrFun (congrArg (E SP) c_law18_Live_7.eq_1) ac) <| And.intro (fun (SP : Prg) (ac : Ac) => congrFun (congrArg (E SP) c_law18_Live_8.eq_1) ac) <| sc_law18_Live.eq_1
theorem comp_law18_Live : comp Tryd.prog Tryd.f56 = some sc_law18_Live := by kernel_rfl
/-- doorkeeper/doorkeeperlaw26.lines -/
def c_law26_lines_1 : SC := .seq (.reg [⟨(some 25), none, (.v (.mov (.t 3)))⟩, ⟨(some 2), none, (.v (.mov (.t 25)))⟩]) .ret
def b_law26_lines_1 : SC := .seq (.seq (.reg [⟨(some 6), none, (.v (.mov (.t 5)))⟩, ⟨(some 7), none, (.v (.mov (.t 0)))⟩, ⟨(some 8), none, (.v (.len true (.t 7)))⟩, ⟨(some 9), none, (.v (.bin .lss (.t 6) (.t 8)))⟩]) (.cond (.t 9) .skip (.exit 0))) (.seq (.block 1 (.seq (.reg [⟨(some 12), none, (.v (.mov (.t 0)))⟩, ⟨(some 13), none, (.v (.mov (.t 5)))⟩, ⟨(some 14), none, (.v (.istr (.t 12) (.t 13)))⟩, ⟨(some 15), none, (.v (.bin .eql (.t 14) (.c (.int .u8 10))))⟩]) (.cond (.t 15) (.seq (.reg [⟨(some 16), none, (.v (.mov (.t 3)))⟩, ⟨(some 17), none, (.v (.mov (.t 0)))⟩, ⟨(some 18), none, (.v (.mov (.t 4)))⟩, ⟨(some 19), none, (.v (.mov (.t 5)))⟩, ⟨(some 20), none, (.v (.sls (.t 17) (some (.t 18)) (some (.t 19))))⟩, ⟨(some 21), none, (.bslice 1 1 [(.str [])] [(0, (.t 20))])⟩, ⟨(some 22), none, (.append 1 16 (.t 16) (.t 21))⟩, ⟨(some 3), none, (.v (.mov (.t 22)))⟩]) (.reg [⟨(some 23), none, (.v (.mov (.t 5)))⟩, ⟨(some 24), none, (.v (.bin .add (.t 23) (.c (.int .i64 1))))⟩, ⟨(some 4), none, (.v (.mov (.t 24)))⟩])) .skip))) (.reg [⟨(some 10), none, (.v (.mov (.t 5)))⟩, ⟨(some 11), none, (.v (.bin .add (.t 10) (.c (.int .i64 1))))⟩, ⟨(some 5), none, (.v (.mov (.t 11)))⟩]))
def c_law26_lines_2 : SC := .seq (.reg [⟨(some 3), none, (.nilv 1)⟩]) (.seq (.reg [⟨(some 4), none, (.v (.mov (.c (.int .i64 0))))⟩]) (.seq (.seq (.reg [⟨(some 5), none, (.v (.mov (.c (.int .i64 0))))⟩]) (.block 0 (.loop b_law26_lines_1))) c_law26_lines_1))
def sc_law26_lines : SFunc := ⟨1, 26, .seq (.reg [⟨(some 2), none, (.nilv 1)⟩]) c_law26_lines_2, [(.t 2)]⟩
noncomputable def k_law26_lines_1 (SP : Prg) (x : EO) : CO := fin [(.t 2)] (thC SP (inBlk 0 (x)) c_law26_lines_1)
theorem U_law26_lines : type_of% (And.intro (fun (SP : Prg) (ac : Ac) => congrFun (congrArg (E SP) c_law26_lines_1.eq_1) ac) <| And.intro (fun (SP : Prg) (ac : Ac) => congrFun (congrArg (E SP) b_law26_lines_1.eq_1) ac) <| And.intro (fun (SP : Prg) (ac : Ac) => congrFun (congrArg (E SP) c_law26_lines_2.eq_1) ac) <| sc_law26_lines.eq_1) := And.intro (fun (SP : Prg) (ac : Ac) => congrFun (congrArg (E SP) c_law26_lines_1.eq_1) ac) <| And.intro (fun (SP : Prg) (ac : Ac) => congrFun (congrArg (E SP) b_law26_lines_1.eq_1) ac) <| And.intro (fun (SP : Prg) (ac : Ac) => congrFun (congrArg (E SP) c_law26_lines_2.eq_1) ac) <| sc_law26_lines.eq_1
theorem comp_law26_lines : comp Tryd.prog Tryd.f58 = some sc_law26_lines := by kernel_rfl
end Go.Proofs.YtebflncfgjnkkaaDoor.M
