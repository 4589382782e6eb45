/- Parts of a proof, one behind another: Lt3, Wf1, Wf2. -/
import Derived.Test.YtkbdinocadoelaaDoorZFunMade4
/- Trees of functions, printed by a program of this session (lift.py): what a run asks, over plain data. Lean proves each. -/
namespace Go.Proofs.YtkbdinocadoelaaDoor.M
set_option linter.unusedSimpArgs false
set_option linter.unusedVariables false
open Go Classical
theorem sp_fun_rules : SP 23 = some (.code sc_fun_rules) := SPof_code rfl Tryd.func23 comp_fun_rules
theorem i_fun_rules (a0 : PV) (S : Sto) : call SP 23 [a0] S = fin sc_fun_rules.res (E SP sc_fun_rules.code (ac0 [a0] S)) := call_code sp_fun_rules _ _ rfl
theorem sp_fun_number : SP 38 = some (.code sc_fun_number) := SPof_code rfl Tryd.func38 comp_fun_number
/-! doorkeeper/fun.number -/
set_option maxHeartbeats 4000000 in
theorem fun_number_tree (v : V) (r : Bool) (T :
  (decide (v.k = 1)) = r) : R_fun_number v r := by
 intro S
 rw [call_code sp_fun_number _ _ rfl]
 obtain rfl := T
 simp only [U_fun_number, lw, le, Nat.zero_le, Nat.sub_zero, take_app3, set_get, take_set, List.length_set, List.map_set, reduceIte, reduceCtorEq, Nat.reduceEqDiff, Nat.reduceAdd, Nat.reduceLeDiff, Nat.reduceSub, Nat.reduceLT, Int.reduceEq, Int.reduceLT, Int.reduceLE, Int.reduceToNat, Int.reduceAdd, Int.reduceSub, Int.reduceMul, Int.reduceNeg, Int.cast_ofNat_Int]
theorem sp_fun_list : SP 45 = some (.code sc_fun_list) := SPof_code rfl Tryd.func45 comp_fun_list
/-! doorkeeper/fun.list -/
set_option maxHeartbeats 4000000 in
theorem fun_list_tree (v : V) (r : Bool) (T :
  (decide (v.k = 4)) = r) : R_fun_list v r := by
 intro S
 rw [call_code sp_fun_list _ _ rfl]
 obtain rfl := T
 simp only [U_fun_list, lw, le, Nat.zero_le, Nat.sub_zero, take_app3, set_get, take_set, List.length_set, List.map_set, reduceIte, reduceCtorEq, Nat.reduceEqDiff, Nat.reduceAdd, Nat.reduceLeDiff, Nat.reduceSub, Nat.reduceLT, Int.reduceEq, Int.reduceLT, Int.reduceLE, Int.reduceToNat, Int.reduceAdd, Int.reduceSub, Int.reduceMul, Int.reduceNeg, Int.cast_ofNat_Int]
theorem sp_fun_text : SP 47 = some (.code sc_fun_text) := SPof_code rfl Tryd.func47 comp_fun_text
/-! doorkeeper/fun.text -/
set_option maxHeartbeats 4000000 in
theorem fun_text_tree (v : V) (r : Bool) (T :
  (decide (v.k = 2)) = r) : R_fun_text v r := by
 intro S
 rw [call_code sp_fun_text _ _ rfl]
 obtain rfl := T
 simp only [U_fun_text, lw, le, Nat.zero_le, Nat.sub_zero, take_app3, set_get, take_set, List.length_set, List.map_set, reduceIte, reduceCtorEq, Nat.reduceEqDiff, Nat.reduceAdd, Nat.reduceLeDiff, Nat.reduceSub, Nat.reduceLT, Int.reduceEq, Int.reduceLT, Int.reduceLE, Int.reduceToNat, Int.reduceAdd, Int.reduceSub, Int.reduceMul, Int.reduceNeg, Int.cast_ofNat_Int]
theorem sp_fun_any : SP 52 = some (.code sc_fun_any) := SPof_code rfl Tryd.func52 comp_fun_any
/-! doorkeeper/fun.any -/
set_option maxHeartbeats 4000000 in
theorem fun_any_tree (x0_ : V) (r : Bool) (T :
  true = r) : R_fun_any x0_ r := by
 intro S
 rw [call_code sp_fun_any _ _ rfl]
 obtain rfl := T
 simp only [U_fun_any, lw, le, Nat.zero_le, Nat.sub_zero, take_app3, set_get, take_set, List.length_set, List.map_set, reduceIte, reduceCtorEq, Nat.reduceEqDiff, Nat.reduceAdd, Nat.reduceLeDiff, Nat.reduceSub, Nat.reduceLT, Int.reduceEq, Int.reduceLT, Int.reduceLE, Int.reduceToNat, Int.reduceAdd, Int.reduceSub, Int.reduceMul, Int.reduceNeg, Int.cast_ofNat_Int]
theorem sp_fun_each_1 : SP 70 = some (.code sc_fun_each_1) := SPof_code rfl Tryd.func70 comp_fun_each_1
/-! doorkeeper/fun.each$1 -/
set_option maxHeartbeats 4000000 in
theorem fun_each_1_tree (x : V) (c0_ : Nat) (r : Bool) (T :
  ∃ (r1 : Bool), (RF_27 c0_ x r1) ∧
 (!r1) = r) : R_fun_each_1 x c0_ r := by
 intro S n1 t1 H0
 have hb0 := H0
 obtain ⟨w0, hB0⟩ := take_some hb0
 have hn0 := o_getBox_lt hB0
 rw [call_code sp_fun_each_1 _ _ rfl]
 obtain ⟨r1, q1, rfl⟩ := T
 simp only [RF_27, le] at q1
 simp only [hB0, hn0, q1, U_fun_each_1, lw, le, Nat.zero_le, Nat.sub_zero, take_app3, set_get, take_set, List.length_set, List.map_set, reduceIte, reduceCtorEq, Nat.reduceEqDiff, Nat.reduceAdd, Nat.reduceLeDiff, Nat.reduceSub, Nat.reduceLT, Int.reduceEq, Int.reduceLT, Int.reduceLE, Int.reduceToNat, Int.reduceAdd, Int.reduceSub, Int.reduceMul, Int.reduceNeg, Int.cast_ofNat_Int]
theorem sp_fun_each : SP 59 = some (.code sc_fun_each) := SPof_code rfl Tryd.func59 comp_fun_each
/-! doorkeeper/fun.each -/
theorem H_slices_ContainsFunc_api_Val_api_Val_fun_each_1 {xs : List V} {c0 : Nat} {p : V → Bool} (hl : xs.length < 9223372036854775808) (hp : ∀ x, x ∈ xs → R_fun_each_1 x c0 (p x)) : ∀ (S : Sto) (n0 : Nat) (t0 : Nat), (getBox S n0 t0).map (List.take 1) = some [.func c0 []] → call SP 66 [.list 4 (encL xs) false, .func 70 [.ptr n0 t0 0]] S = .ok (.v (.bool (xs.any p))) S := by
 intro S n0 t0 h0
 refine G_slices_ContainsFunc_api_Val_api_Val xs 70 [.ptr n0 t0 0] p S hl (by intro S; rfl) (by rfl) (by intro a; rfl) (by intro S; rfl) (by rfl) (by intro a; rfl) ?_
 intro x hx f f'
 have := hp x hx (f :: f' :: S) (n0 + 1 + 1) t0 (by simpa only [lw] using h0)
 simpa only [PV.upL, PV.up] using this
set_option maxHeartbeats 4000000 in
theorem fun_each_tree (v : V) (is_ : Nat) (r : Bool) (T :
  ∃ (r1 : Bool), (R_fun_list v r1) ∧
 ((r1 = true) →
  (v.l.length < 9223372036854775808) ∧
  ∃ (pp2 : V → Bool), (∀ x, x ∈ v.l → R_fun_each_1 x is_ (pp2 x)) ∧
  (!(v.l.any pp2)) = r) ∧
 (¬ (r1 = true) →
  false = r)) : R_fun_each v is_ r := by
 intro S
 rw [call_code sp_fun_each _ _ rfl]
 obtain ⟨r1, q1, T⟩ := T
 simp only [R_fun_list, le] at q1
 by_cases c2 : r1 = true
 · replace T := T.1 c2
   obtain ⟨p3, pp2, q4, rfl⟩ := T
   have o4 := H_slices_ContainsFunc_api_Val_api_Val_fun_each_1  p3 q4
   try simp only [le] at o4
   simp only [q1, c2, p3, o4, U_fun_each, lw, le, Nat.zero_le, Nat.sub_zero, take_app3, set_get, take_set, List.length_set, List.map_set, reduceIte, reduceCtorEq, Nat.reduceEqDiff, Nat.reduceAdd, Nat.reduceLeDiff, Nat.reduceSub, Nat.reduceLT, Int.reduceEq, Int.reduceLT, Int.reduceLE, Int.reduceToNat, Int.reduceAdd, Int.reduceSub, Int.reduceMul, Int.reduceNeg, Int.cast_ofNat_Int]
 · replace T := T.2 c2
   replace c2 := Bool.eq_false_iff.2 c2
   obtain rfl := T
   simp only [q1, c2, U_fun_each, lw, le, Nat.zero_le, Nat.sub_zero, take_app3, set_get, take_set, List.length_set, List.map_set, reduceIte, reduceCtorEq, Nat.reduceEqDiff, Nat.reduceAdd, Nat.reduceLeDiff, Nat.reduceSub, Nat.reduceLT, Int.reduceEq, Int.reduceLT, Int.reduceLE, Int.reduceToNat, Int.reduceAdd, Int.reduceSub, Int.reduceMul, Int.reduceNeg, Int.cast_ofNat_Int]
theorem sp_fun_numbers : SP 41 = some (.code sc_fun_numbers) := SPof_code rfl Tryd.func41 comp_fun_numbers
/-! doorkeeper/fun.numbers -/
set_option maxHeartbeats 4000000 in
theorem fun_numbers_tree (v : V) (r : Bool) (T :
  ∃ (r1 : Bool), (R_fun_each v 38 r1) ∧
 r1 = r) : R_fun_numbers v r := by
 intro S
 rw [call_code sp_fun_numbers _ _ rfl]
 obtain ⟨r1, q1, rfl⟩ := T
 simp only [R_fun_each, le] at q1
 simp only [q1, U_fun_numbers, lw, le, Nat.zero_le, Nat.sub_zero, take_app3, set_get, take_set, List.length_set, List.map_set, reduceIte, reduceCtorEq, Nat.reduceEqDiff, Nat.reduceAdd, Nat.reduceLeDiff, Nat.reduceSub, Nat.reduceLT, Int.reduceEq, Int.reduceLT, Int.reduceLE, Int.reduceToNat, Int.reduceAdd, Int.reduceSub, Int.reduceMul, Int.reduceNeg, Int.cast_ofNat_Int]
theorem sp_fun_texts : SP 48 = some (.code sc_fun_texts) := SPof_code rfl Tryd.func48 comp_fun_texts
/-! doorkeeper/fun.texts -/
set_option maxHeartbeats 4000000 in
theorem fun_texts_tree (v : V) (r : Bool) (T :
  ∃ (r1 : Bool), (R_fun_each v 47 r1) ∧
 r1 = r) : R_fun_texts v r := by
 intro S
 rw [call_code sp_fun_texts _ _ rfl]
 obtain ⟨r1, q1, rfl⟩ := T
 simp only [R_fun_each, le] at q1
 simp only [q1, U_fun_texts, lw, le, Nat.zero_le, Nat.sub_zero, take_app3, set_get, take_set, List.length_set, List.map_set, reduceIte, reduceCtorEq, Nat.reduceEqDiff, Nat.reduceAdd, Nat.reduceLeDiff, Nat.reduceSub, Nat.reduceLT, Int.reduceEq, Int.reduceLT, Int.reduceLE, Int.reduceToNat, Int.reduceAdd, Int.reduceSub, Int.reduceMul, Int.reduceNeg, Int.cast_ofNat_Int]
theorem sp_fun_long : SP 43 = some (.code sc_fun_long) := SPof_code rfl Tryd.func43 comp_fun_long
/-! doorkeeper/fun.long -/
set_option maxHeartbeats 4000000 in
theorem fun_long_tree (v : V) (r : Bool) (T :
  ∃ (r1 : Bool), (R_fun_list v r1) ∧
 ((r1 = true) →
  true = r) ∧
 (¬ (r1 = true) →
  ∃ (r2 : Bool), (R_fun_text v r2) ∧
  r2 = r)) : R_fun_long v r := by
 intro S
 rw [call_code sp_fun_long _ _ rfl]
 obtain ⟨r1, q1, T⟩ := T
 simp only [R_fun_list, le] at q1
 by_cases c2 : r1 = true
 · replace T := T.1 c2
   obtain rfl := T
   simp only [q1, c2, U_fun_long, lw, le, Nat.zero_le, Nat.sub_zero, take_app3, set_get, take_set, List.length_set, List.map_set, reduceIte, reduceCtorEq, Nat.reduceEqDiff, Nat.reduceAdd, Nat.reduceLeDiff, Nat.reduceSub, Nat.reduceLT, Int.reduceEq, Int.reduceLT, Int.reduceLE, Int.reduceToNat, Int.reduceAdd, Int.reduceSub, Int.reduceMul, Int.reduceNeg, Int.cast_ofNat_Int]
 · replace T := T.2 c2
   replace c2 := Bool.eq_false_iff.2 c2
   obtain ⟨r2, q3, rfl⟩ := T
   simp only [R_fun_text, le] at q3
   simp only [q1, c2, q3, U_fun_long, lw, le, Nat.zero_le, Nat.sub_zero, take_app3, set_get, take_set, List.length_set, List.map_set, reduceIte, reduceCtorEq, Nat.reduceEqDiff, Nat.reduceAdd, Nat.reduceLeDiff, Nat.reduceSub, Nat.reduceLT, Int.reduceEq, Int.reduceLT, Int.reduceLE, Int.reduceToNat, Int.reduceAdd, Int.reduceSub, Int.reduceMul, Int.reduceNeg, Int.cast_ofNat_Int]
theorem sp_fun_best : SP 56 = some (.code sc_fun_best) := SPof_code rfl Tryd.func56 comp_fun_best
/-! doorkeeper/fun.best -/
def At_fun_best_1 (ahead : Nat) (l_ : List V) (i2 : Int) (i3 : Int) (i4 : Int) (s5 : List UInt8) (l6 : List V) (ra : V) (rb : Int) : Prop := ∀ (S : Sto) (e : Nat → PV) (f : Fr), e 0 = .func ahead [] ∧ e 4 = .ptr 0 4 0 ∧ e 6 = .ptr 0 6 0 ∧ e 13 = .list 4 (encL ((l_.drop 1).take (l_.length - 1))) false ∧ e 14 = .int .i64 ((((l_.drop 1).take (l_.length - 1)).length : Nat) : Int) ∧ e 15 = .int .i64 i2 ∧ f.box 4 = some [.int .i64 0, .int .i64 0, .str [], .sl 0 (.cell 4 3) 0 0 0 0 false] ∧ f.box 6 = some [.int .i64 i3, .int .i64 i4, .str s5, .list 4 (encL l6) false] ∧ f.arr (.cell 4 3) = some ⟨4, [], false, 0⟩ → k_fun_best_1 SP (E SP (.loop b_fun_best_1) ⟨e, f :: S⟩) = .ok (.v (.tup [.agg [.int .i64 ra.k, .int .i64 ra.n, .str ra.s, .list 4 (encL ra.l) false], .int .i64 rb])) S
set_option maxHeartbeats 4000000 in
theorem At_fun_best_1_step (ahead : Nat) (l_ : List V) (i2 : Int) (i3 : Int) (i4 : Int) (s5 : List UInt8) (l6 : List V) (ra : V) (rb : Int) (T :
  ((i2 < ((((l_.drop 1).take (l_.length - 1)).length : Nat) : Int)) →
  (0 ≤ i2) ∧
  ∃ (v7 : V), (((l_.drop 1).take (l_.length - 1))[i2.toNat]? = some v7) ∧
  ∃ (r8 : Bool), (RF_73 ahead v7.n i4 r8) ∧
  ((r8 = true) →
   (I64 (i2 + 1)) ∧
   At_fun_best_1 ahead l_ (i2 + 1) v7.k v7.n v7.s v7.l ra rb) ∧
  (¬ (r8 = true) →
   (I64 (i2 + 1)) ∧
   At_fun_best_1 ahead l_ (i2 + 1) i3 i4 s5 l6 ra rb)) ∧
 (¬ (i2 < ((((l_.drop 1).take (l_.length - 1)).length : Nat) : Int)) →
  (V.mk i3 i4 s5 l6) = ra ∧ 0 = rb)) : At_fun_best_1 ahead l_ i2 i3 i4 s5 l6 ra rb := by
 intro S e f h
 unfold k_fun_best_1
 rw [E_loop]
 by_cases c1 : i2 < ((((l_.drop 1).take (l_.length - 1)).length : Nat) : Int)
 · replace T := T.1 c1
   obtain ⟨p2, v7, q3, r8, q4, T⟩ := T
   simp only [RF_73, le] at q4
   by_cases c5 : r8 = true
   · replace T := T.1 c5
     obtain ⟨p6, T⟩ := T
     try simp only [h, eq_true c1, p2, q3, q4, c5, p6.wrap, U_fun_best, lw, le, Nat.zero_le, Nat.sub_zero, take_app3, set_get, take_set, List.length_set, List.map_set, reduceIte, reduceCtorEq, Nat.reduceEqDiff, Nat.reduceAdd, Nat.reduceLeDiff, Nat.reduceSub, Nat.reduceLT, Int.reduceEq, Int.reduceLT, Int.reduceLE, Int.reduceToNat, Int.reduceAdd, Int.reduceSub, Int.reduceMul, Int.reduceNeg, Int.cast_ofNat_Int]
     refine T S _ _ ?_
     simp only [h, eq_true c1, p2, q3, q4, c5, p6.wrap, U_fun_best, lw, le, Nat.zero_le, Nat.sub_zero, take_app3, set_get, take_set, List.length_set, List.map_set, reduceIte, reduceCtorEq, Nat.reduceEqDiff, Nat.reduceAdd, Nat.reduceLeDiff, Nat.reduceSub, Nat.reduceLT, Int.reduceEq, Int.reduceLT, Int.reduceLE, Int.reduceToNat, Int.reduceAdd, Int.reduceSub, Int.reduceMul, Int.reduceNeg, Int.cast_ofNat_Int]
   · replace T := T.2 c5
     replace c5 := Bool.eq_false_iff.2 c5
     obtain ⟨p7, T⟩ := T
     try simp only [h, eq_true c1, p2, q3, q4, c5, p7.wrap, U_fun_best, lw, le, Nat.zero_le, Nat.sub_zero, take_app3, set_get, take_set, List.length_set, List.map_set, reduceIte, reduceCtorEq, Nat.reduceEqDiff, Nat.reduceAdd, Nat.reduceLeDiff, Nat.reduceSub, Nat.reduceLT, Int.reduceEq, Int.reduceLT, Int.reduceLE, Int.reduceToNat, Int.reduceAdd, Int.reduceSub, Int.reduceMul, Int.reduceNeg, Int.cast_ofNat_Int]
     refine T S _ _ ?_
     simp only [h, eq_true c1, p2, q3, q4, c5, p7.wrap, U_fun_best, lw, le, Nat.zero_le, Nat.sub_zero, take_app3, set_get, take_set, List.length_set, List.map_set, reduceIte, reduceCtorEq, Nat.reduceEqDiff, Nat.reduceAdd, Nat.reduceLeDiff, Nat.reduceSub, Nat.reduceLT, Int.reduceEq, Int.reduceLT, Int.reduceLE, Int.reduceToNat, Int.reduceAdd, Int.reduceSub, Int.reduceMul, Int.reduceNeg, Int.cast_ofNat_Int]
 · replace T := T.2 c1
   obtain ⟨rfl, rfl⟩ := T
   simp only [h, eq_false c1, U_fun_best, lw, le, Nat.zero_le, Nat.sub_zero, take_app3, set_get, take_set, List.length_set, List.map_set, reduceIte, reduceCtorEq, Nat.reduceEqDiff, Nat.reduceAdd, Nat.reduceLeDiff, Nat.reduceSub, Nat.reduceLT, Int.reduceEq, Int.reduceLT, Int.reduceLE, Int.reduceToNat, Int.reduceAdd, Int.reduceSub, Int.reduceMul, Int.reduceNeg, Int.cast_ofNat_Int]
set_option maxHeartbeats 4000000 in
theorem fun_best_tree (ahead : Nat) (l_ : List V) (ra : V) (rb : Int) (T :
  ∃ (v1 : V), (l_[0]? = some v1) ∧
 (1 ≤ l_.length) ∧
 At_fun_best_1 ahead l_ 0 v1.k v1.n v1.s v1.l ra rb) : R_fun_best ahead l_ ra rb := by
 intro S
 rw [call_code sp_fun_best _ _ rfl]
 obtain ⟨v1, q1, p2, T⟩ := T
 try simp only [q1, p2, U_fun_best, lw, le, Nat.zero_le, Nat.sub_zero, take_app3, set_get, take_set, List.length_set, List.map_set, reduceIte, reduceCtorEq, Nat.reduceEqDiff, Nat.reduceAdd, Nat.reduceLeDiff, Nat.reduceSub, Nat.reduceLT, Int.reduceEq, Int.reduceLT, Int.reduceLE, Int.reduceToNat, Int.reduceAdd, Int.reduceSub, Int.reduceMul, Int.reduceNeg, Int.cast_ofNat_Int]
 refine T S _ _ ?_
 simp only [q1, p2, U_fun_best, lw, le, Nat.zero_le, Nat.sub_zero, take_app3, set_get, take_set, List.length_set, List.map_set, reduceIte, reduceCtorEq, Nat.reduceEqDiff, Nat.reduceAdd, Nat.reduceLeDiff, Nat.reduceSub, Nat.reduceLT, Int.reduceEq, Int.reduceLT, Int.reduceLE, Int.reduceToNat, Int.reduceAdd, Int.reduceSub, Int.reduceMul, Int.reduceNeg, Int.cast_ofNat_Int]
theorem sp_fun_least_1 : SP 57 = some (.code sc_fun_least_1) := SPof_code rfl Tryd.func57 comp_fun_least_1
/-! doorkeeper/fun.least$1 -/
set_option maxHeartbeats 4000000 in
theorem fun_least_1_tree (a : Int) (b : Int) (r : Bool) (T :
  (decide (a < b)) = r) : R_fun_least_1 a b r := by
 intro S
 rw [call_code sp_fun_least_1 _ _ rfl]
 obtain rfl := T
 simp only [U_fun_least_1, lw, le, Nat.zero_le, Nat.sub_zero, take_app3, set_get, take_set, List.length_set, List.map_set, reduceIte, reduceCtorEq, Nat.reduceEqDiff, Nat.reduceAdd, Nat.reduceLeDiff, Nat.reduceSub, Nat.reduceLT, Int.reduceEq, Int.reduceLT, Int.reduceLE, Int.reduceToNat, Int.reduceAdd, Int.reduceSub, Int.reduceMul, Int.reduceNeg, Int.cast_ofNat_Int]
theorem sp_fun_least : SP 39 = some (.code sc_fun_least) := SPof_code rfl Tryd.func39 comp_fun_least
/-! doorkeeper/fun.least -/
set_option maxHeartbeats 4000000 in
theorem fun_least_tree (l_ : List V) (ra : V) (rb : Int) (T :
  ∃ (r1 : V) (r2 : Int), (R_fun_best 57 l_ r1 r2) ∧
 r1 = ra ∧ r2 = rb) : R_fun_least l_ ra rb := by
 intro S
 rw [call_code sp_fun_least _ _ rfl]
 obtain ⟨r1, r2, q1, rfl, rfl⟩ := T
 simp only [R_fun_best, le] at q1
 simp only [q1, U_fun_least, lw, le, Nat.zero_le, Nat.sub_zero, take_app3, set_get, take_set, List.length_set, List.map_set, reduceIte, reduceCtorEq, Nat.reduceEqDiff, Nat.reduceAdd, Nat.reduceLeDiff, Nat.reduceSub, Nat.reduceLT, Int.reduceEq, Int.reduceLT, Int.reduceLE, Int.reduceToNat, Int.reduceAdd, Int.reduceSub, Int.reduceMul, Int.reduceNeg, Int.cast_ofNat_Int]
theorem sp_fun_greatest_1 : SP 58 = some (.code sc_fun_greatest_1) := SPof_code rfl Tryd.func58 comp_fun_greatest_1
/-! doorkeeper/fun.greatest$1 -/
set_option maxHeartbeats 4000000 in
theorem fun_greatest_1_tree (a : Int) (b : Int) (r : Bool) (T :
  (decide (b < a)) = r) : R_fun_greatest_1 a b r := by
 intro S
 rw [call_code sp_fun_greatest_1 _ _ rfl]
 obtain rfl := T
 simp only [U_fun_greatest_1, lw, le, Nat.zero_le, Nat.sub_zero, take_app3, set_get, take_set, List.length_set, List.map_set, reduceIte, reduceCtorEq, Nat.reduceEqDiff, Nat.reduceAdd, Nat.reduceLeDiff, Nat.reduceSub, Nat.reduceLT, Int.reduceEq, Int.reduceLT, Int.reduceLE, Int.reduceToNat, Int.reduceAdd, Int.reduceSub, Int.reduceMul, Int.reduceNeg, Int.cast_ofNat_Int]
theorem sp_fun_greatest : SP 40 = some (.code sc_fun_greatest) := SPof_code rfl Tryd.func40 comp_fun_greatest
/-! doorkeeper/fun.greatest -/
set_option maxHeartbeats 4000000 in
theorem fun_greatest_tree (l_ : List V) (ra : V) (rb : Int) (T :
  ∃ (r1 : V) (r2 : Int), (R_fun_best 58 l_ r1 r2) ∧
 r1 = ra ∧ r2 = rb) : R_fun_greatest l_ ra rb := by
 intro S
 rw [call_code sp_fun_greatest _ _ rfl]
 obtain ⟨r1, r2, q1, rfl, rfl⟩ := T
 simp only [R_fun_best, le] at q1
 simp only [q1, U_fun_greatest, lw, le, Nat.zero_le, Nat.sub_zero, take_app3, set_get, take_set, List.length_set, List.map_set, reduceIte, reduceCtorEq, Nat.reduceEqDiff, Nat.reduceAdd, Nat.reduceLeDiff, Nat.reduceSub, Nat.reduceLT, Int.reduceEq, Int.reduceLT, Int.reduceLE, Int.reduceToNat, Int.reduceAdd, Int.reduceSub, Int.reduceMul, Int.reduceNeg, Int.cast_ofNat_Int]
theorem sp_fun_sum : SP 42 = some (.code sc_fun_sum) := SPof_code rfl Tryd.func42 comp_fun_sum
/-! doorkeeper/fun.sum -/
def At_fun_sum_1 (v2 : V) (i3 : Int) (i4 : Int) (i5 : Int) (s6 : List UInt8) (i7 : Int) (i8 : Int) (s9 : List UInt8) (l10 : List V) (l11 : List V) (g12 : Nat) (ra : V) (rb : Int) : Prop := ∀ (S : Sto) (e : Nat → PV) (f : Fr), e 2 = .ptr 0 2 0 ∧ e 4 = .ptr 0 4 0 ∧ e 13 = .list 4 (encL v2.l) false ∧ e 14 = .int .i64 ((v2.l.length : Nat) : Int) ∧ e 15 = .int .i64 i3 ∧ f.box 2 = some [.int .i64 i4, .int .i64 i5, .str s6, .sl 0 (.cell 2 3) 0 l11.length l11.length g12 false] ∧ f.box 4 = some [.int .i64 i7, .int .i64 i8, .str s9, .list 4 (encL l10) false] ∧ f.arr (.cell 2 3) = some ⟨4, encL l11, false, g12⟩ → k_fun_sum_1 SP (E SP (.loop b_fun_sum_1) ⟨e, f :: S⟩) = .ok (.v (.tup [.agg [.int .i64 ra.k, .int .i64 ra.n, .str ra.s, .list 4 (encL ra.l) false], .int .i64 rb])) S
set_option maxHeartbeats 4000000 in
theorem At_fun_sum_1_step (v2 : V) (i3 : Int) (i4 : Int) (i5 : Int) (s6 : List UInt8) (i7 : Int) (i8 : Int) (s9 : List UInt8) (l10 : List V) (l11 : List V) (g12 : Nat) (ra : V) (rb : Int) (T :
  ((i3 < ((v2.l.length : Nat) : Int)) →
  (0 ≤ i3) ∧
  ∃ (v13 : V), (v2.l[i3.toNat]? = some v13) ∧
  ∃ (r14 : V) (r15 : Int), (R_val_Two 19 (V.mk i7 i8 s9 l10) v13 r14 r15) ∧
  ((r15 = 0) →
   (I64 (i3 + 1)) ∧
   At_fun_sum_1 v2 (i3 + 1) i4 i5 s6 r14.k r14.n r14.s r14.l l11 g12 ra rb) ∧
  (¬ (r15 = 0) →
   (V.mk 0 0 [] []) = ra ∧ r15 = rb)) ∧
 (¬ (i3 < ((v2.l.length : Nat) : Int)) →
  (V.mk i7 i8 s9 l10) = ra ∧ 0 = rb)) : At_fun_sum_1 v2 i3 i4 i5 s6 i7 i8 s9 l10 l11 g12 ra rb := by
 intro S e f h
 unfold k_fun_sum_1
 rw [E_loop]
 by_cases c1 : i3 < ((v2.l.length : Nat) : Int)
 · replace T := T.1 c1
   obtain ⟨p2, v13, q3, r14, r15, q4, T⟩ := T
   simp only [R_val_Two, le] at q4
   by_cases c5 : r15 = 0
   · replace T := T.1 c5
     obtain ⟨p6, T⟩ := T
     try simp only [h, eq_true c1, p2, q3, q4, eq_true c5, p6.wrap, U_fun_sum, lw, le, Nat.zero_le, Nat.sub_zero, take_app3, set_get, take_set, List.length_set, List.map_set, reduceIte, reduceCtorEq, Nat.reduceEqDiff, Nat.reduceAdd, Nat.reduceLeDiff, Nat.reduceSub, Nat.reduceLT, Int.reduceEq, Int.reduceLT, Int.reduceLE, Int.reduceToNat, Int.reduceAdd, Int.reduceSub, Int.reduceMul, Int.reduceNeg, Int.cast_ofNat_Int]
     refine T S _ _ ?_
     simp only [h, eq_true c1, p2, q3, q4, eq_true c5, p6.wrap, U_fun_sum, lw, le, Nat.zero_le, Nat.sub_zero, take_app3, set_get, take_set, List.length_set, List.map_set, reduceIte, reduceCtorEq, Nat.reduceEqDiff, Nat.reduceAdd, Nat.reduceLeDiff, Nat.reduceSub, Nat.reduceLT, Int.reduceEq, Int.reduceLT, Int.reduceLE, Int.reduceToNat, Int.reduceAdd, Int.reduceSub, Int.reduceMul, Int.reduceNeg, Int.cast_ofNat_Int]
   · replace T := T.2 c5
     obtain ⟨rfl, rfl⟩ := T
     simp only [h, eq_true c1, p2, q3, q4, eq_false c5, U_fun_sum, lw, le, Nat.zero_le, Nat.sub_zero, take_app3, set_get, take_set, List.length_set, List.map_set, reduceIte, reduceCtorEq, Nat.reduceEqDiff, Nat.reduceAdd, Nat.reduceLeDiff, Nat.reduceSub, Nat.reduceLT, Int.reduceEq, Int.reduceLT, Int.reduceLE, Int.reduceToNat, Int.reduceAdd, Int.reduceSub, Int.reduceMul, Int.reduceNeg, Int.cast_ofNat_Int]
 · replace T := T.2 c1
   obtain ⟨rfl, rfl⟩ := T
   simp only [h, eq_false c1, U_fun_sum, lw, le, Nat.zero_le, Nat.sub_zero, take_app3, set_get, take_set, List.length_set, List.map_set, reduceIte, reduceCtorEq, Nat.reduceEqDiff, Nat.reduceAdd, Nat.reduceLeDiff, Nat.reduceSub, Nat.reduceLT, Int.reduceEq, Int.reduceLT, Int.reduceLE, Int.reduceToNat, Int.reduceAdd, Int.reduceSub, Int.reduceMul, Int.reduceNeg, Int.cast_ofNat_Int]
set_option maxHeartbeats 4000000 in
theorem fun_sum_tree (l_ : List V) (ra : V) (rb : Int) (T :
  ∃ (r1 : V), (R_val_Int 0 r1) ∧
 ∃ (v2 : V), (l_[0]? = some v2) ∧
 At_fun_sum_1 v2 0 0 0 [] r1.k r1.n r1.s r1.l [] 0 ra rb) : R_fun_sum l_ ra rb := by
 intro S
 rw [call_code sp_fun_sum _ _ rfl]
 obtain ⟨r1, q1, v2, q2, T⟩ := T
 simp only [R_val_Int, le] at q1
 try simp only [q1, q2, U_fun_sum, lw, le, Nat.zero_le, Nat.sub_zero, take_app3, set_get, take_set, List.length_set, List.map_set, reduceIte, reduceCtorEq, Nat.reduceEqDiff, Nat.reduceAdd, Nat.reduceLeDiff, Nat.reduceSub, Nat.reduceLT, Int.reduceEq, Int.reduceLT, Int.reduceLE, Int.reduceToNat, Int.reduceAdd, Int.reduceSub, Int.reduceMul, Int.reduceNeg, Int.cast_ofNat_Int]
 refine T S _ _ ?_
 simp only [q1, q2, U_fun_sum, lw, le, Nat.zero_le, Nat.sub_zero, take_app3, set_get, take_set, List.length_set, List.map_set, reduceIte, reduceCtorEq, Nat.reduceEqDiff, Nat.reduceAdd, Nat.reduceLeDiff, Nat.reduceSub, Nat.reduceLT, Int.reduceEq, Int.reduceLT, Int.reduceLE, Int.reduceToNat, Int.reduceAdd, Int.reduceSub, Int.reduceMul, Int.reduceNeg, Int.cast_ofNat_Int]
theorem sp_fun_length : SP 44 = some (.code sc_fun_length) := SPof_code rfl Tryd.func44 comp_fun_length
/-! doorkeeper/fun.length -/
set_option maxHeartbeats 4000000 in
theorem fun_length_tree (l_ : List V) (ra : V) (rb : Int) (T :
  ∃ (v1 : V), (l_[0]? = some v1) ∧
 (I64 (((v1.l.length : Nat) : Int) + ((v1.s.length : Nat) : Int))) ∧
 ∃ (r2 : V), (R_val_Int (((v1.l.length : Nat) : Int) + ((v1.s.length : Nat) : Int)) r2) ∧
 r2 = ra ∧ 0 = rb) : R_fun_length l_ ra rb := by
 intro S
 rw [call_code sp_fun_length _ _ rfl]
 obtain ⟨v1, q1, p2, r2, q3, rfl, rfl⟩ := T
 simp only [R_val_Int, le] at q3
 simp only [q1, p2.wrap, q3, U_fun_length, lw, le, Nat.zero_le, Nat.sub_zero, take_app3, set_get, take_set, List.length_set, List.map_set, reduceIte, reduceCtorEq, Nat.reduceEqDiff, Nat.reduceAdd, Nat.reduceLeDiff, Nat.reduceSub, Nat.reduceLT, Int.reduceEq, Int.reduceLT, Int.reduceLE, Int.reduceToNat, Int.reduceAdd, Int.reduceSub, Int.reduceMul, Int.reduceNeg, Int.cast_ofNat_Int]
theorem sp_fun_concat : SP 46 = some (.code sc_fun_concat) := SPof_code rfl Tryd.func46 comp_fun_concat
/-! doorkeeper/fun.concat -/
def At_fun_concat_1 (l_ : List V) (i1 : Int) (l2 : List V) (ra : V) (rb : Int) : Prop := ∀ (S : Sto) (e : Nat → PV) (f : Fr), e 2 = .ptr 0 2 0 ∧ e 4 = .sl 0 (.slot 4) 0 l2.length l2.length 0 false ∧ e 7 = .list 4 (encL l_) false ∧ e 8 = .int .i64 ((l_.length : Nat) : Int) ∧ e 9 = .int .i64 i1 ∧ f.box 2 = some [.int .i64 0, .int .i64 0, .str [], .sl 0 (.cell 2 3) 0 0 0 0 false] ∧ f.arr (.cell 2 3) = some ⟨4, [], false, 0⟩ ∧ f.arr (.slot 4) = some ⟨4, encL l2, false, 0⟩ → k_fun_concat_1 SP (E SP (.loop b_fun_concat_1) ⟨e, f :: S⟩) = .ok (.v (.tup [.agg [.int .i64 ra.k, .int .i64 ra.n, .str ra.s, .list 4 (encL ra.l) false], .int .i64 rb])) S
set_option maxHeartbeats 4000000 in
theorem At_fun_concat_1_step (l_ : List V) (i1 : Int) (l2 : List V) (ra : V) (rb : Int) (T :
  ((i1 < ((l_.length : Nat) : Int)) →
  (0 ≤ i1) ∧
  ∃ (v3 : V), (l_[i1.toNat]? = some v3) ∧
  (bigRow (l2.length + v3.l.length) 56) ∧
  (I64 (i1 + 1)) ∧
  At_fun_concat_1 l_ (i1 + 1) (l2 ++ v3.l) ra rb) ∧
 (¬ (i1 < ((l_.length : Nat) : Int)) →
  ∃ (r4 : V) (r5 : Int), (R_val_List l2 r4 r5) ∧
  r4 = ra ∧ r5 = rb)) : At_fun_concat_1 l_ i1 l2 ra rb := by
 intro S e f h
 unfold k_fun_concat_1
 rw [E_loop]
 by_cases c1 : i1 < ((l_.length : Nat) : Int)
 · replace T := T.1 c1
   obtain ⟨p2, v3, q3, p4, p5, T⟩ := T
   simp only [bigRow] at p4
   try simp only [h, eq_true c1, p2, q3, p4, p5.wrap, U_fun_concat, lw, le, Nat.zero_le, Nat.sub_zero, take_app3, set_get, take_set, List.length_set, List.map_set, reduceIte, reduceCtorEq, Nat.reduceEqDiff, Nat.reduceAdd, Nat.reduceLeDiff, Nat.reduceSub, Nat.reduceLT, Int.reduceEq, Int.reduceLT, Int.reduceLE, Int.reduceToNat, Int.reduceAdd, Int.reduceSub, Int.reduceMul, Int.reduceNeg, Int.cast_ofNat_Int]
   refine T S _ _ ?_
   simp only [h, eq_true c1, p2, q3, p4, p5.wrap, U_fun_concat, lw, le, Nat.zero_le, Nat.sub_zero, take_app3, set_get, take_set, List.length_set, List.map_set, reduceIte, reduceCtorEq, Nat.reduceEqDiff, Nat.reduceAdd, Nat.reduceLeDiff, Nat.reduceSub, Nat.reduceLT, Int.reduceEq, Int.reduceLT, Int.reduceLE, Int.reduceToNat, Int.reduceAdd, Int.reduceSub, Int.reduceMul, Int.reduceNeg, Int.cast_ofNat_Int]
 · replace T := T.2 c1
   obtain ⟨r4, r5, q6, rfl, rfl⟩ := T
   simp only [R_val_List, le] at q6
   simp only [h, eq_false c1, q6, U_fun_concat, lw, le, Nat.zero_le, Nat.sub_zero, take_app3, set_get, take_set, List.length_set, List.map_set, reduceIte, reduceCtorEq, Nat.reduceEqDiff, Nat.reduceAdd, Nat.reduceLeDiff, Nat.reduceSub, Nat.reduceLT, Int.reduceEq, Int.reduceLT, Int.reduceLE, Int.reduceToNat, Int.reduceAdd, Int.reduceSub, Int.reduceMul, Int.reduceNeg, Int.cast_ofNat_Int]
set_option maxHeartbeats 4000000 in
theorem fun_concat_tree (l_ : List V) (ra : V) (rb : Int) (T :
  At_fun_concat_1 l_ 0 [] ra rb) : R_fun_concat l_ ra rb := by
 intro S
 rw [call_code sp_fun_concat _ _ rfl]
 try simp only [U_fun_concat, lw, le, Nat.zero_le, Nat.sub_zero, take_app3, set_get, take_set, List.length_set, List.map_set, reduceIte, reduceCtorEq, Nat.reduceEqDiff, Nat.reduceAdd, Nat.reduceLeDiff, Nat.reduceSub, Nat.reduceLT, Int.reduceEq, Int.reduceLT, Int.reduceLE, Int.reduceToNat, Int.reduceAdd, Int.reduceSub, Int.reduceMul, Int.reduceNeg, Int.cast_ofNat_Int]
 refine T S _ _ ?_
 simp only [U_fun_concat, lw, le, Nat.zero_le, Nat.sub_zero, take_app3, set_get, take_set, List.length_set, List.map_set, reduceIte, reduceCtorEq, Nat.reduceEqDiff, Nat.reduceAdd, Nat.reduceLeDiff, Nat.reduceSub, Nat.reduceLT, Int.reduceEq, Int.reduceLT, Int.reduceLE, Int.reduceToNat, Int.reduceAdd, Int.reduceSub, Int.reduceMul, Int.reduceNeg, Int.cast_ofNat_Int]
theorem sp_fun_join : SP 49 = some (.code sc_fun_join) := SPof_code rfl Tryd.func49 comp_fun_join
/-! doorkeeper/fun.join -/
def At_fun_join_1 (l_ : List V) (v1 : V) (i2 : Int) (l3 : List (List UInt8)) (ra : V) (rb : Int) : Prop := ∀ (S : Sto) (e : Nat → PV) (f : Fr), e 0 = .list 4 (encL l_) false ∧ e 2 = .ptr 0 2 0 ∧ e 4 = .sl 0 (.slot 4) 0 l3.length l3.length 0 false ∧ e 10 = .list 4 (encL v1.l) false ∧ e 11 = .int .i64 ((v1.l.length : Nat) : Int) ∧ e 12 = .int .i64 i2 ∧ f.box 2 = some [.int .i64 0, .int .i64 0, .str [], .sl 0 (.cell 2 3) 0 0 0 0 false] ∧ f.arr (.cell 2 3) = some ⟨4, [], false, 0⟩ ∧ f.arr (.slot 4) = some ⟨1, l3.map eS, false, 0⟩ → k_fun_join_1 SP (E SP (.loop b_fun_join_1) ⟨e, f :: S⟩) = .ok (.v (.tup [.agg [.int .i64 ra.k, .int .i64 ra.n, .str ra.s, .list 4 (encL ra.l) false], .int .i64 rb])) S
set_option maxHeartbeats 4000000 in
theorem At_fun_join_1_step (l_ : List V) (v1 : V) (i2 : Int) (l3 : List (List UInt8)) (ra : V) (rb : Int) (T :
  ((i2 < ((v1.l.length : Nat) : Int)) →
  (0 ≤ i2) ∧
  ∃ (v4 : V), (v1.l[i2.toNat]? = some v4) ∧
  ((0 < i2) →
   ∃ (v5 : V), (l_[0]? = some v5) ∧
   (bigRow (l3.length + 1) 16) ∧
   (bigRow (l3.length + 2) 16) ∧
   (I64 (i2 + 1)) ∧
   At_fun_join_1 l_ v1 (i2 + 1) (l3 ++ [v5.s, v4.s]) ra rb) ∧
  (¬ (0 < i2) →
   (bigRow (l3.length + 1) 16) ∧
   (I64 (i2 + 1)) ∧
   At_fun_join_1 l_ v1 (i2 + 1) (l3 ++ [v4.s]) ra rb)) ∧
 (¬ (i2 < ((v1.l.length : Nat) : Int)) →
  ∃ (r6 : V) (r7 : Int), (R_val_Join l3 r6 r7) ∧
  r6 = ra ∧ r7 = rb)) : At_fun_join_1 l_ v1 i2 l3 ra rb := by
 intro S e f h
 unfold k_fun_join_1
 rw [E_loop]
 by_cases c1 : i2 < ((v1.l.length : Nat) : Int)
 · replace T := T.1 c1
   obtain ⟨p2, v4, q3, T⟩ := T
   by_cases c4 : 0 < i2
   · replace T := T.1 c4
     obtain ⟨v5, q5, p6, p7, p8, T⟩ := T
     simp only [bigRow] at p6
     simp only [bigRow] at p7
     try simp only [h, eq_true c1, p2, q3, eq_true c4, q5, p6, p7, p8.wrap, U_fun_join, lw, le, Nat.zero_le, Nat.sub_zero, take_app3, set_get, take_set, List.length_set, List.map_set, reduceIte, reduceCtorEq, Nat.reduceEqDiff, Nat.reduceAdd, Nat.reduceLeDiff, Nat.reduceSub, Nat.reduceLT, Int.reduceEq, Int.reduceLT, Int.reduceLE, Int.reduceToNat, Int.reduceAdd, Int.reduceSub, Int.reduceMul, Int.reduceNeg, Int.cast_ofNat_Int]
     refine T S _ _ ?_
     simp only [h, eq_true c1, p2, q3, eq_true c4, q5, p6, p7, p8.wrap, U_fun_join, lw, le, Nat.zero_le, Nat.sub_zero, take_app3, set_get, take_set, List.length_set, List.map_set, reduceIte, reduceCtorEq, Nat.reduceEqDiff, Nat.reduceAdd, Nat.reduceLeDiff, Nat.reduceSub, Nat.reduceLT, Int.reduceEq, Int.reduceLT, Int.reduceLE, Int.reduceToNat, Int.reduceAdd, Int.reduceSub, Int.reduceMul, Int.reduceNeg, Int.cast_ofNat_Int]
   · replace T := T.2 c4
     obtain ⟨p9, p10, T⟩ := T
     simp only [bigRow] at p9
     try simp only [h, eq_true c1, p2, q3, eq_false c4, p9, p10.wrap, U_fun_join, lw, le, Nat.zero_le, Nat.sub_zero, take_app3, set_get, take_set, List.length_set, List.map_set, reduceIte, reduceCtorEq, Nat.reduceEqDiff, Nat.reduceAdd, Nat.reduceLeDiff, Nat.reduceSub, Nat.reduceLT, Int.reduceEq, Int.reduceLT, Int.reduceLE, Int.reduceToNat, Int.reduceAdd, Int.reduceSub, Int.reduceMul, Int.reduceNeg, Int.cast_ofNat_Int]
     refine T S _ _ ?_
     simp only [h, eq_true c1, p2, q3, eq_false c4, p9, p10.wrap, U_fun_join, lw, le, Nat.zero_le, Nat.sub_zero, take_app3, set_get, take_set, List.length_set, List.map_set, reduceIte, reduceCtorEq, Nat.reduceEqDiff, Nat.reduceAdd, Nat.reduceLeDiff, Nat.reduceSub, Nat.reduceLT, Int.reduceEq, Int.reduceLT, Int.reduceLE, Int.reduceToNat, Int.reduceAdd, Int.reduceSub, Int.reduceMul, Int.reduceNeg, Int.cast_ofNat_Int]
 · replace T := T.2 c1
   obtain ⟨r6, r7, q11, rfl, rfl⟩ := T
   simp only [R_val_Join, le] at q11
   simp only [h, eq_false c1, q11, U_fun_join, lw, le, Nat.zero_le, Nat.sub_zero, take_app3, set_get, take_set, List.length_set, List.map_set, reduceIte, reduceCtorEq, Nat.reduceEqDiff, Nat.reduceAdd, Nat.reduceLeDiff, Nat.reduceSub, Nat.reduceLT, Int.reduceEq, Int.reduceLT, Int.reduceLE, Int.reduceToNat, Int.reduceAdd, Int.reduceSub, Int.reduceMul, Int.reduceNeg, Int.cast_ofNat_Int]
set_option maxHeartbeats 4000000 in
theorem fun_join_tree (l_ : List V) (ra : V) (rb : Int) (T :
  ∃ (v1 : V), (l_[1]? = some v1) ∧
 At_fun_join_1 l_ v1 0 [] ra rb) : R_fun_join l_ ra rb := by
 intro S
 rw [call_code sp_fun_join _ _ rfl]
 obtain ⟨v1, q1, T⟩ := T
 try simp only [q1, U_fun_join, lw, le, Nat.zero_le, Nat.sub_zero, take_app3, set_get, take_set, List.length_set, List.map_set, reduceIte, reduceCtorEq, Nat.reduceEqDiff, Nat.reduceAdd, Nat.reduceLeDiff, Nat.reduceSub, Nat.reduceLT, Int.reduceEq, Int.reduceLT, Int.reduceLE, Int.reduceToNat, Int.reduceAdd, Int.reduceSub, Int.reduceMul, Int.reduceNeg, Int.cast_ofNat_Int]
 refine T S _ _ ?_
 simp only [q1, U_fun_join, lw, le, Nat.zero_le, Nat.sub_zero, take_app3, set_get, take_set, List.length_set, List.map_set, reduceIte, reduceCtorEq, Nat.reduceEqDiff, Nat.reduceAdd, Nat.reduceLeDiff, Nat.reduceSub, Nat.reduceLT, Int.reduceEq, Int.reduceLT, Int.reduceLE, Int.reduceToNat, Int.reduceAdd, Int.reduceSub, Int.reduceMul, Int.reduceNeg, Int.cast_ofNat_Int]
theorem sp_fun_span : SP 50 = some (.code sc_fun_span) := SPof_code rfl Tryd.func50 comp_fun_span
/-! doorkeeper/fun.span -/
def At_fun_span_1 (v1 : V) (i2 : Int) (l3 : List V) (ra : V) (rb : Int) : Prop := ∀ (S : Sto) (e : Nat → PV) (f : Fr), e 2 = .ptr 0 2 0 ∧ e 5 = .sl 0 (.slot 5) 0 l3.length l3.length 0 false ∧ e 22 = .int .i64 v1.n ∧ e 23 = .int .i64 i2 ∧ f.box 2 = some [.int .i64 0, .int .i64 0, .str [], .sl 0 (.cell 2 3) 0 0 0 0 false] ∧ f.arr (.cell 2 3) = some ⟨4, [], false, 0⟩ ∧ f.arr (.slot 5) = some ⟨4, encL l3, false, 0⟩ → k_fun_span_1 SP (E SP (.loop b_fun_span_1) ⟨e, f :: S⟩) = .ok (.v (.tup [.agg [.int .i64 ra.k, .int .i64 ra.n, .str ra.s, .list 4 (encL ra.l) false], .int .i64 rb])) S
set_option maxHeartbeats 4000000 in
theorem At_fun_span_1_step (v1 : V) (i2 : Int) (l3 : List V) (ra : V) (rb : Int) (T :
  ((i2 < v1.n) →
  ∃ (r4 : V), (R_val_Int i2 r4) ∧
  (bigRow (l3.length + 1) 56) ∧
  (I64 (i2 + 1)) ∧
  At_fun_span_1 v1 (i2 + 1) (l3 ++ [r4]) ra rb) ∧
 (¬ (i2 < v1.n) →
  ∃ (r5 : V) (r6 : Int), (R_val_List l3 r5 r6) ∧
  r5 = ra ∧ r6 = rb)) : At_fun_span_1 v1 i2 l3 ra rb := by
 intro S e f h
 unfold k_fun_span_1
 rw [E_loop]
 by_cases c1 : i2 < v1.n
 · replace T := T.1 c1
   obtain ⟨r4, q2, p3, p4, T⟩ := T
   simp only [R_val_Int, le] at q2
   simp only [bigRow] at p3
   try simp only [h, eq_true c1, q2, p3, p4.wrap, U_fun_span, lw, le, Nat.zero_le, Nat.sub_zero, take_app3, set_get, take_set, List.length_set, List.map_set, reduceIte, reduceCtorEq, Nat.reduceEqDiff, Nat.reduceAdd, Nat.reduceLeDiff, Nat.reduceSub, Nat.reduceLT, Int.reduceEq, Int.reduceLT, Int.reduceLE, Int.reduceToNat, Int.reduceAdd, Int.reduceSub, Int.reduceMul, Int.reduceNeg, Int.cast_ofNat_Int]
   refine T S _ _ ?_
   simp only [h, eq_true c1, q2, p3, p4.wrap, U_fun_span, lw, le, Nat.zero_le, Nat.sub_zero, take_app3, set_get, take_set, List.length_set, List.map_set, reduceIte, reduceCtorEq, Nat.reduceEqDiff, Nat.reduceAdd, Nat.reduceLeDiff, Nat.reduceSub, Nat.reduceLT, Int.reduceEq, Int.reduceLT, Int.reduceLE, Int.reduceToNat, Int.reduceAdd, Int.reduceSub, Int.reduceMul, Int.reduceNeg, Int.cast_ofNat_Int]
 · replace T := T.2 c1
   obtain ⟨r5, r6, q5, rfl, rfl⟩ := T
   simp only [R_val_List, le] at q5
   simp only [h, eq_false c1, q5, U_fun_span, lw, le, Nat.zero_le, Nat.sub_zero, take_app3, set_get, take_set, List.length_set, List.map_set, reduceIte, reduceCtorEq, Nat.reduceEqDiff, Nat.reduceAdd, Nat.reduceLeDiff, Nat.reduceSub, Nat.reduceLT, Int.reduceEq, Int.reduceLT, Int.reduceLE, Int.reduceToNat, Int.reduceAdd, Int.reduceSub, Int.reduceMul, Int.reduceNeg, Int.cast_ofNat_Int]
set_option maxHeartbeats 4000000 in
theorem fun_span_tree (l_ : List V) (ra : V) (rb : Int) (T :
  ∃ (v1 : V), (l_[0]? = some v1) ∧
 ((v1.n < 0) →
  (V.mk 0 0 [] []) = ra ∧ 1 = rb) ∧
 (¬ (v1.n < 0) →
  ((64 < v1.n) →
   (V.mk 0 0 [] []) = ra ∧ 4 = rb) ∧
  (¬ (64 < v1.n) →
   At_fun_span_1 v1 0 [] ra rb))) : R_fun_span l_ ra rb := by
 intro S
 rw [call_code sp_fun_span _ _ rfl]
 obtain ⟨v1, q1, T⟩ := T
 by_cases c2 : v1.n < 0
 · replace T := T.1 c2
   obtain ⟨rfl, rfl⟩ := T
   simp only [q1, eq_true c2, U_fun_span, lw, le, Nat.zero_le, Nat.sub_zero, take_app3, set_get, take_set, List.length_set, List.map_set, reduceIte, reduceCtorEq, Nat.reduceEqDiff, Nat.reduceAdd, Nat.reduceLeDiff, Nat.reduceSub, Nat.reduceLT, Int.reduceEq, Int.reduceLT, Int.reduceLE, Int.reduceToNat, Int.reduceAdd, Int.reduceSub, Int.reduceMul, Int.reduceNeg, Int.cast_ofNat_Int]
 · replace T := T.2 c2
   by_cases c3 : 64 < v1.n
   · replace T := T.1 c3
     obtain ⟨rfl, rfl⟩ := T
     simp only [q1, eq_false c2, eq_true c3, U_fun_span, lw, le, Nat.zero_le, Nat.sub_zero, take_app3, set_get, take_set, List.length_set, List.map_set, reduceIte, reduceCtorEq, Nat.reduceEqDiff, Nat.reduceAdd, Nat.reduceLeDiff, Nat.reduceSub, Nat.reduceLT, Int.reduceEq, Int.reduceLT, Int.reduceLE, Int.reduceToNat, Int.reduceAdd, Int.reduceSub, Int.reduceMul, Int.reduceNeg, Int.cast_ofNat_Int]
   · replace T := T.2 c3
     try simp only [q1, eq_false c2, eq_false c3, U_fun_span, lw, le, Nat.zero_le, Nat.sub_zero, take_app3, set_get, take_set, List.length_set, List.map_set, reduceIte, reduceCtorEq, Nat.reduceEqDiff, Nat.reduceAdd, Nat.reduceLeDiff, Nat.reduceSub, Nat.reduceLT, Int.reduceEq, Int.reduceLT, Int.reduceLE, Int.reduceToNat, Int.reduceAdd, Int.reduceSub, Int.reduceMul, Int.reduceNeg, Int.cast_ofNat_Int]
     refine T S _ _ ?_
     simp only [q1, eq_false c2, eq_false c3, U_fun_span, lw, le, Nat.zero_le, Nat.sub_zero, take_app3, set_get, take_set, List.length_set, List.map_set, reduceIte, reduceCtorEq, Nat.reduceEqDiff, Nat.reduceAdd, Nat.reduceLeDiff, Nat.reduceSub, Nat.reduceLT, Int.reduceEq, Int.reduceLT, Int.reduceLE, Int.reduceToNat, Int.reduceAdd, Int.reduceSub, Int.reduceMul, Int.reduceNeg, Int.cast_ofNat_Int]
theorem sp_fun_abs : SP 51 = some (.code sc_fun_abs) := SPof_code rfl Tryd.func51 comp_fun_abs
/-! doorkeeper/fun.abs -/
set_option maxHeartbeats 4000000 in
theorem fun_abs_tree (l_ : List V) (ra : V) (rb : Int) (T :
  ∃ (v1 : V), (l_[0]? = some v1) ∧
 ((0 ≤ v1.n) →
  v1 = ra ∧ 0 = rb) ∧
 (¬ (0 ≤ v1.n) →
  ∃ (r2 : V) (r3 : Int), (R_val_One 9 v1 r2 r3) ∧
  r2 = ra ∧ r3 = rb)) : R_fun_abs l_ ra rb := by
 intro S
 rw [call_code sp_fun_abs _ _ rfl]
 obtain ⟨v1, q1, T⟩ := T
 by_cases c2 : 0 ≤ v1.n
 · replace T := T.1 c2
   obtain ⟨rfl, rfl⟩ := T
   simp only [q1, eq_true c2, U_fun_abs, lw, le, Nat.zero_le, Nat.sub_zero, take_app3, set_get, take_set, List.length_set, List.map_set, reduceIte, reduceCtorEq, Nat.reduceEqDiff, Nat.reduceAdd, Nat.reduceLeDiff, Nat.reduceSub, Nat.reduceLT, Int.reduceEq, Int.reduceLT, Int.reduceLE, Int.reduceToNat, Int.reduceAdd, Int.reduceSub, Int.reduceMul, Int.reduceNeg, Int.cast_ofNat_Int]
 · replace T := T.2 c2
   obtain ⟨r2, r3, q3, rfl, rfl⟩ := T
   simp only [R_val_One, le] at q3
   simp only [q1, eq_false c2, q3, U_fun_abs, lw, le, Nat.zero_le, Nat.sub_zero, take_app3, set_get, take_set, List.length_set, List.map_set, reduceIte, reduceCtorEq, Nat.reduceEqDiff, Nat.reduceAdd, Nat.reduceLeDiff, Nat.reduceSub, Nat.reduceLT, Int.reduceEq, Int.reduceLT, Int.reduceLE, Int.reduceToNat, Int.reduceAdd, Int.reduceSub, Int.reduceMul, Int.reduceNeg, Int.cast_ofNat_Int]
theorem sp_fun_has_1 : SP 67 = some (.code sc_fun_has_1) := SPof_code rfl Tryd.func67 comp_fun_has_1
/-! doorkeeper/fun.has$1 -/
set_option maxHeartbeats 4000000 in
theorem fun_has_1_tree (v : V) (c0_ : List V) (r : Bool) (T :
  ∃ (v1 : V), (c0_[1]? = some v1) ∧
 ∃ (r2 : Bool), (R_val_Same v v1 r2) ∧
 r2 = r) : R_fun_has_1 v c0_ r := by
 intro S n1 t1 H0
 have hb0 := H0
 obtain ⟨w0, hB0⟩ := take_some hb0
 have hn0 := o_getBox_lt hB0
 rw [call_code sp_fun_has_1 _ _ rfl]
 obtain ⟨v1, q1, r2, q2, rfl⟩ := T
 simp only [R_val_Same, le] at q2
 simp only [hB0, hn0, q1, q2, U_fun_has_1, lw, le, Nat.zero_le, Nat.sub_zero, take_app3, set_get, take_set, List.length_set, List.map_set, reduceIte, reduceCtorEq, Nat.reduceEqDiff, Nat.reduceAdd, Nat.reduceLeDiff, Nat.reduceSub, Nat.reduceLT, Int.reduceEq, Int.reduceLT, Int.reduceLE, Int.reduceToNat, Int.reduceAdd, Int.reduceSub, Int.reduceMul, Int.reduceNeg, Int.cast_ofNat_Int]
theorem sp_fun_has : SP 53 = some (.code sc_fun_has) := SPof_code rfl Tryd.func53 comp_fun_has
/-! doorkeeper/fun.has -/
theorem H_slices_ContainsFunc_api_Val_api_Val_fun_has_1 {xs : List V} {c0 : List V} {p : V → Bool} (hl : xs.length < 9223372036854775808) (hp : ∀ x, x ∈ xs → R_fun_has_1 x c0 (p x)) : ∀ (S : Sto) (n0 : Nat) (t0 : Nat), (getBox S n0 t0).map (List.take 1) = some [.list 4 (encL c0) false] → call SP 66 [.list 4 (encL xs) false, .func 67 [.ptr n0 t0 0]] S = .ok (.v (.bool (xs.any p))) S := by
 intro S n0 t0 h0
 refine G_slices_ContainsFunc_api_Val_api_Val xs 67 [.ptr n0 t0 0] p S hl (by intro S; rfl) (by rfl) (by intro a; rfl) (by intro S; rfl) (by rfl) (by intro a; rfl) ?_
 intro x hx f f'
 have := hp x hx (f :: f' :: S) (n0 + 1 + 1) t0 (by simpa only [lw] using h0)
 simpa only [PV.upL, PV.up] using this
set_option maxHeartbeats 4000000 in
theorem fun_has_tree (l_ : List V) (ra : V) (rb : Int) (T :
  ∃ (v1 : V), (l_[0]? = some v1) ∧
 (v1.l.length < 9223372036854775808) ∧
 ∃ (pp2 : V → Bool), (∀ x, x ∈ v1.l → R_fun_has_1 x l_ (pp2 x)) ∧
 ∃ (r3 : V), (R_val_Bool (v1.l.any pp2) r3) ∧
 r3 = ra ∧ 0 = rb) : R_fun_has l_ ra rb := by
 intro S
 rw [call_code sp_fun_has _ _ rfl]
 obtain ⟨v1, q1, p2, pp2, q3, r3, q4, rfl, rfl⟩ := T
 have o3 := H_slices_ContainsFunc_api_Val_api_Val_fun_has_1  p2 q3
 try simp only [le] at o3
 simp only [R_val_Bool, le] at q4
 simp only [q1, p2, o3, q4, U_fun_has, lw, le, Nat.zero_le, Nat.sub_zero, take_app3, set_get, take_set, List.length_set, List.map_set, reduceIte, reduceCtorEq, Nat.reduceEqDiff, Nat.reduceAdd, Nat.reduceLeDiff, Nat.reduceSub, Nat.reduceLT, Int.reduceEq, Int.reduceLT, Int.reduceLE, Int.reduceToNat, Int.reduceAdd, Int.reduceSub, Int.reduceMul, Int.reduceNeg, Int.cast_ofNat_Int]
theorem sp_fun_textOf : SP 54 = some (.code sc_fun_textOf) := SPof_code rfl Tryd.func54 comp_fun_textOf
/-! doorkeeper/fun.textOf -/
set_option maxHeartbeats 4000000 in
theorem fun_textOf_tree (l_ : List V) (ra : V) (rb : Int) (T :
  ∃ (v1 : V), (l_[0]? = some v1) ∧
 ∃ (r2 : List UInt8) (r3 : Int), (R_val_Text v1 r2 r3) ∧
 ((r3 = 0) →
  ∃ (r4 : V) (r5 : Int), (R_val_Join [r2] r4 r5) ∧
  r4 = ra ∧ r5 = rb) ∧
 (¬ (r3 = 0) →
  (V.mk 0 0 [] []) = ra ∧ r3 = rb)) : R_fun_textOf l_ ra rb := by
 intro S
 rw [call_code sp_fun_textOf _ _ rfl]
 obtain ⟨v1, q1, r2, r3, q2, T⟩ := T
 simp only [R_val_Text, le] at q2
 by_cases c3 : r3 = 0
 · replace T := T.1 c3
   obtain ⟨r4, r5, q4, rfl, rfl⟩ := T
   simp only [R_val_Join, le] at q4
   simp only [q1, q2, eq_true c3, q4, U_fun_textOf, lw, le, Nat.zero_le, Nat.sub_zero, take_app3, set_get, take_set, List.length_set, List.map_set, reduceIte, reduceCtorEq, Nat.reduceEqDiff, Nat.reduceAdd, Nat.reduceLeDiff, Nat.reduceSub, Nat.reduceLT, Int.reduceEq, Int.reduceLT, Int.reduceLE, Int.reduceToNat, Int.reduceAdd, Int.reduceSub, Int.reduceMul, Int.reduceNeg, Int.cast_ofNat_Int]
 · replace T := T.2 c3
   obtain ⟨rfl, rfl⟩ := T
   simp only [q1, q2, eq_false c3, U_fun_textOf, lw, le, Nat.zero_le, Nat.sub_zero, take_app3, set_get, take_set, List.length_set, List.map_set, reduceIte, reduceCtorEq, Nat.reduceEqDiff, Nat.reduceAdd, Nat.reduceLeDiff, Nat.reduceSub, Nat.reduceLT, Int.reduceEq, Int.reduceLT, Int.reduceLE, Int.reduceToNat, Int.reduceAdd, Int.reduceSub, Int.reduceMul, Int.reduceNeg, Int.cast_ofNat_Int]
theorem sp_val_List : SP 62 = some (.code sc_val_List) := SPof_code rfl Tryd.func62 comp_val_List
/-! doorkeeper/val.List -/
set_option maxHeartbeats 4000000 in
theorem val_List_tree (l_ : List V) (ra : V) (rb : Int) (T :
  ((64 < ((l_.length : Nat) : Int)) →
  (V.mk 0 0 [] []) = ra ∧ 4 = rb) ∧
 (¬ (64 < ((l_.length : Nat) : Int)) →
  ∃ (r1 : Int), (R_val_deep l_ r1) ∧
  ((64 ≤ r1) →
   (V.mk 0 0 [] []) = ra ∧ 4 = rb) ∧
  (¬ (64 ≤ r1) →
   ∃ (r2 : List V), (R_slices_Clone_api_Val_api_Val l_ r2) ∧
   (V.mk 4 0 [] r2) = ra ∧ 0 = rb))) : R_val_List l_ ra rb := by
 intro S
 rw [call_code sp_val_List _ _ rfl]
 by_cases c1 : 64 < ((l_.length : Nat) : Int)
 · replace T := T.1 c1
   obtain ⟨rfl, rfl⟩ := T
   simp only [eq_true c1, U_val_List, lw, le, Nat.zero_le, Nat.sub_zero, take_app3, set_get, take_set, List.length_set, List.map_set, reduceIte, reduceCtorEq, Nat.reduceEqDiff, Nat.reduceAdd, Nat.reduceLeDiff, Nat.reduceSub, Nat.reduceLT, Int.reduceEq, Int.reduceLT, Int.reduceLE, Int.reduceToNat, Int.reduceAdd, Int.reduceSub, Int.reduceMul, Int.reduceNeg, Int.cast_ofNat_Int]
 · replace T := T.2 c1
   obtain ⟨r1, q2, T⟩ := T
   simp only [R_val_deep, le] at q2
   by_cases c3 : 64 ≤ r1
   · replace T := T.1 c3
     obtain ⟨rfl, rfl⟩ := T
     simp only [eq_false c1, q2, eq_true c3, U_val_List, lw, le, Nat.zero_le, Nat.sub_zero, take_app3, set_get, take_set, List.length_set, List.map_set, reduceIte, reduceCtorEq, Nat.reduceEqDiff, Nat.reduceAdd, Nat.reduceLeDiff, Nat.reduceSub, Nat.reduceLT, Int.reduceEq, Int.reduceLT, Int.reduceLE, Int.reduceToNat, Int.reduceAdd, Int.reduceSub, Int.reduceMul, Int.reduceNeg, Int.cast_ofNat_Int]
   · replace T := T.2 c3
     obtain ⟨r2, q4, rfl, rfl⟩ := T
     simp only [R_slices_Clone_api_Val_api_Val, le] at q4
     simp only [eq_false c1, q2, eq_false c3, q4, U_val_List, lw, le, Nat.zero_le, Nat.sub_zero, take_app3, set_get, take_set, List.length_set, List.map_set, reduceIte, reduceCtorEq, Nat.reduceEqDiff, Nat.reduceAdd, Nat.reduceLeDiff, Nat.reduceSub, Nat.reduceLT, Int.reduceEq, Int.reduceLT, Int.reduceLE, Int.reduceToNat, Int.reduceAdd, Int.reduceSub, Int.reduceMul, Int.reduceNeg, Int.cast_ofNat_Int]
theorem sp_ref4_wants : SP 24 = some (.code sc_ref4_wants) := SPof_code rfl Tryd.func24 comp_ref4_wants
/-! doorkeeper/doorkeeperref4.wants -/
set_option maxHeartbeats 4000000 in
theorem ref4_wants_tree (name : List UInt8) (ra : Int) (rb : Int) (rc : Bool) (T :
  ((name = [109, 105, 110]) →
  1 = ra ∧ 1073741824 = rb ∧ true = rc) ∧
 (¬ (name = [109, 105, 110]) →
  ((name = [109, 97, 120]) →
   1 = ra ∧ 1073741824 = rb ∧ true = rc) ∧
  (¬ (name = [109, 97, 120]) →
   ((name = [99, 111, 110, 99, 97, 116]) →
    1 = ra ∧ 1073741824 = rb ∧ true = rc) ∧
   (¬ (name = [99, 111, 110, 99, 97, 116]) →
    ((name = [115, 117, 109]) →
     1 = ra ∧ 1 = rb ∧ true = rc) ∧
    (¬ (name = [115, 117, 109]) →
     ((name = [108, 101, 110]) →
      1 = ra ∧ 1 = rb ∧ true = rc) ∧
     (¬ (name = [108, 101, 110]) →
      ((name = [114, 97, 110, 103, 101]) →
       1 = ra ∧ 1 = rb ∧ true = rc) ∧
      (¬ (name = [114, 97, 110, 103, 101]) →
       ((name = [97, 98, 115]) →
        1 = ra ∧ 1 = rb ∧ true = rc) ∧
       (¬ (name = [97, 98, 115]) →
        ((name = [116, 101, 120, 116]) →
         1 = ra ∧ 1 = rb ∧ true = rc) ∧
        (¬ (name = [116, 101, 120, 116]) →
         ((name = [106, 111, 105, 110]) →
          2 = ra ∧ 2 = rb ∧ true = rc) ∧
         (¬ (name = [106, 111, 105, 110]) →
          ((name = [104, 97, 115]) →
           2 = ra ∧ 2 = rb ∧ true = rc) ∧
          (¬ (name = [104, 97, 115]) →
           0 = ra ∧ 0 = rb ∧ false = rc))))))))))) : R_ref4_wants name ra rb rc := by
 intro S
 rw [call_code sp_ref4_wants _ _ rfl]
 by_cases c1 : name = [109, 105, 110]
 · replace T := T.1 c1
   obtain ⟨rfl, rfl, rfl⟩ := T
   simp only [eq_true c1, U_ref4_wants, lw, le, Nat.zero_le, Nat.sub_zero, take_app3, set_get, take_set, List.length_set, List.map_set, reduceIte, reduceCtorEq, Nat.reduceEqDiff, Nat.reduceAdd, Nat.reduceLeDiff, Nat.reduceSub, Nat.reduceLT, Int.reduceEq, Int.reduceLT, Int.reduceLE, Int.reduceToNat, Int.reduceAdd, Int.reduceSub, Int.reduceMul, Int.reduceNeg, Int.cast_ofNat_Int]
 · replace T := T.2 c1
   by_cases c2 : name = [109, 97, 120]
   · replace T := T.1 c2
     obtain ⟨rfl, rfl, rfl⟩ := T
     simp only [eq_false c1, eq_true c2, U_ref4_wants, lw, le, Nat.zero_le, Nat.sub_zero, take_app3, set_get, take_set, List.length_set, List.map_set, reduceIte, reduceCtorEq, Nat.reduceEqDiff, Nat.reduceAdd, Nat.reduceLeDiff, Nat.reduceSub, Nat.reduceLT, Int.reduceEq, Int.reduceLT, Int.reduceLE, Int.reduceToNat, Int.reduceAdd, Int.reduceSub, Int.reduceMul, Int.reduceNeg, Int.cast_ofNat_Int]
   · replace T := T.2 c2
     by_cases c3 : name = [99, 111, 110, 99, 97, 116]
     · replace T := T.1 c3
       obtain ⟨rfl, rfl, rfl⟩ := T
       simp only [eq_false c1, eq_false c2, eq_true c3, U_ref4_wants, lw, le, Nat.zero_le, Nat.sub_zero, take_app3, set_get, take_set, List.length_set, List.map_set, reduceIte, reduceCtorEq, Nat.reduceEqDiff, Nat.reduceAdd, Nat.reduceLeDiff, Nat.reduceSub, Nat.reduceLT, Int.reduceEq, Int.reduceLT, Int.reduceLE, Int.reduceToNat, Int.reduceAdd, Int.reduceSub, Int.reduceMul, Int.reduceNeg, Int.cast_ofNat_Int]
     · replace T := T.2 c3
       by_cases c4 : name = [115, 117, 109]
       · replace T := T.1 c4
         obtain ⟨rfl, rfl, rfl⟩ := T
         simp only [eq_false c1, eq_false c2, eq_false c3, eq_true c4, U_ref4_wants, lw, le, Nat.zero_le, Nat.sub_zero, take_app3, set_get, take_set, List.length_set, List.map_set, reduceIte, reduceCtorEq, Nat.reduceEqDiff, Nat.reduceAdd, Nat.reduceLeDiff, Nat.reduceSub, Nat.reduceLT, Int.reduceEq, Int.reduceLT, Int.reduceLE, Int.reduceToNat, Int.reduceAdd, Int.reduceSub, Int.reduceMul, Int.reduceNeg, Int.cast_ofNat_Int]
       · replace T := T.2 c4
         by_cases c5 : name = [108, 101, 110]
         · replace T := T.1 c5
           obtain ⟨rfl, rfl, rfl⟩ := T
           simp only [eq_false c1, eq_false c2, eq_false c3, eq_false c4, eq_true c5, U_ref4_wants, lw, le, Nat.zero_le, Nat.sub_zero, take_app3, set_get, take_set, List.length_set, List.map_set, reduceIte, reduceCtorEq, Nat.reduceEqDiff, Nat.reduceAdd, Nat.reduceLeDiff, Nat.reduceSub, Nat.reduceLT, Int.reduceEq, Int.reduceLT, Int.reduceLE, Int.reduceToNat, Int.reduceAdd, Int.reduceSub, Int.reduceMul, Int.reduceNeg, Int.cast_ofNat_Int]
         · replace T := T.2 c5
           by_cases c6 : name = [114, 97, 110, 103, 101]
           · replace T := T.1 c6
             obtain ⟨rfl, rfl, rfl⟩ := T
             simp only [eq_false c1, eq_false c2, eq_false c3, eq_false c4, eq_false c5, eq_true c6, U_ref4_wants, lw, le, Nat.zero_le, Nat.sub_zero, take_app3, set_get, take_set, List.length_set, List.map_set, reduceIte, reduceCtorEq, Nat.reduceEqDiff, Nat.reduceAdd, Nat.reduceLeDiff, Nat.reduceSub, Nat.reduceLT, Int.reduceEq, Int.reduceLT, Int.reduceLE, Int.reduceToNat, Int.reduceAdd, Int.reduceSub, Int.reduceMul, Int.reduceNeg, Int.cast_ofNat_Int]
           · replace T := T.2 c6
             by_cases c7 : name = [97, 98, 115]
             · replace T := T.1 c7
               obtain ⟨rfl, rfl, rfl⟩ := T
               simp only [eq_false c1, eq_false c2, eq_false c3, eq_false c4, eq_false c5, eq_false c6, eq_true c7, U_ref4_wants, lw, le, Nat.zero_le, Nat.sub_zero, take_app3, set_get, take_set, List.length_set, List.map_set, reduceIte, reduceCtorEq, Nat.reduceEqDiff, Nat.reduceAdd, Nat.reduceLeDiff, Nat.reduceSub, Nat.reduceLT, Int.reduceEq, Int.reduceLT, Int.reduceLE, Int.reduceToNat, Int.reduceAdd, Int.reduceSub, Int.reduceMul, Int.reduceNeg, Int.cast_ofNat_Int]
             · replace T := T.2 c7
               by_cases c8 : name = [116, 101, 120, 116]
               · replace T := T.1 c8
                 obtain ⟨rfl, rfl, rfl⟩ := T
                 simp only [eq_false c1, eq_false c2, eq_false c3, eq_false c4, eq_false c5, eq_false c6, eq_false c7, eq_true c8, U_ref4_wants, lw, le, Nat.zero_le, Nat.sub_zero, take_app3, set_get, take_set, List.length_set, List.map_set, reduceIte, reduceCtorEq, Nat.reduceEqDiff, Nat.reduceAdd, Nat.reduceLeDiff, Nat.reduceSub, Nat.reduceLT, Int.reduceEq, Int.reduceLT, Int.reduceLE, Int.reduceToNat, Int.reduceAdd, Int.reduceSub, Int.reduceMul, Int.reduceNeg, Int.cast_ofNat_Int]
               · replace T := T.2 c8
                 by_cases c9 : name = [106, 111, 105, 110]
                 · replace T := T.1 c9
                   obtain ⟨rfl, rfl, rfl⟩ := T
                   simp only [eq_false c1, eq_false c2, eq_false c3, eq_false c4, eq_false c5, eq_false c6, eq_false c7, eq_false c8, eq_true c9, U_ref4_wants, lw, le, Nat.zero_le, Nat.sub_zero, take_app3, set_get, take_set, List.length_set, List.map_set, reduceIte, reduceCtorEq, Nat.reduceEqDiff, Nat.reduceAdd, Nat.reduceLeDiff, Nat.reduceSub, Nat.reduceLT, Int.reduceEq, Int.reduceLT, Int.reduceLE, Int.reduceToNat, Int.reduceAdd, Int.reduceSub, Int.reduceMul, Int.reduceNeg, Int.cast_ofNat_Int]
                 · replace T := T.2 c9
                   by_cases c10 : name = [104, 97, 115]
                   · replace T := T.1 c10
                     obtain ⟨rfl, rfl, rfl⟩ := T
                     simp only [eq_false c1, eq_false c2, eq_false c3, eq_false c4, eq_false c5, eq_false c6, eq_false c7, eq_false c8, eq_false c9, eq_true c10, U_ref4_wants, lw, le, Nat.zero_le, Nat.sub_zero, take_app3, set_get, take_set, List.length_set, List.map_set, reduceIte, reduceCtorEq, Nat.reduceEqDiff, Nat.reduceAdd, Nat.reduceLeDiff, Nat.reduceSub, Nat.reduceLT, Int.reduceEq, Int.reduceLT, Int.reduceLE, Int.reduceToNat, Int.reduceAdd, Int.reduceSub, Int.reduceMul, Int.reduceNeg, Int.cast_ofNat_Int]
                   · replace T := T.2 c10
                     obtain ⟨rfl, rfl, rfl⟩ := T
                     simp only [eq_false c1, eq_false c2, eq_false c3, eq_false c4, eq_false c5, eq_false c6, eq_false c7, eq_false c8, eq_false c9, eq_false c10, U_ref4_wants, lw, le, Nat.zero_le, Nat.sub_zero, take_app3, set_get, take_set, List.length_set, List.map_set, reduceIte, reduceCtorEq, Nat.reduceEqDiff, Nat.reduceAdd, Nat.reduceLeDiff, Nat.reduceSub, Nat.reduceLT, Int.reduceEq, Int.reduceLT, Int.reduceLE, Int.reduceToNat, Int.reduceAdd, Int.reduceSub, Int.reduceMul, Int.reduceNeg, Int.cast_ofNat_Int]
theorem sp_ref4_right : SP 26 = some (.code sc_ref4_right) := SPof_code rfl Tryd.func26 comp_ref4_right
/-! doorkeeper/doorkeeperref4.right -/
def At_ref4_right_1 (name : List UInt8) (l_ : List V) (i1 : Int) (r : Bool) : Prop := ∀ (S : Sto) (e : Nat → PV) (f : Fr), e 0 = .str name ∧ e 1 = .list 4 (encL l_) false ∧ e 5 = .int .i64 i1 → k_ref4_right_1 SP (E SP (.loop b_ref4_right_1) ⟨e, f :: S⟩) = .ok (.v (.bool r)) S
def At_ref4_right_2 (name : List UInt8) (l_ : List V) (i1 : Int) (i3 : Int) (r : Bool) : Prop := ∀ (S : Sto) (e : Nat → PV) (f : Fr), e 0 = .str name ∧ e 1 = .list 4 (encL l_) false ∧ e 5 = .int .i64 i1 ∧ e 7 = .int .i64 i3 → k_ref4_right_2 SP (E SP (.loop b_ref4_right_2) ⟨e, f :: S⟩) = .ok (.v (.bool r)) S
set_option maxHeartbeats 4000000 in
theorem At_ref4_right_1_step (name : List UInt8) (l_ : List V) (i1 : Int) (r : Bool) (T :
  ((i1 < ((l_.length : Nat) : Int)) →
  (0 ≤ i1) ∧
  ∃ (v2 : V), (l_[i1.toNat]? = some v2) ∧
  ((name = [109, 105, 110]) →
   ((v2.k = 1) →
    At_ref4_right_2 name l_ i1 0 r) ∧
   (¬ (v2.k = 1) →
    false = r)) ∧
  (¬ (name = [109, 105, 110]) →
   ((name = [109, 97, 120]) →
    ((v2.k = 1) →
     At_ref4_right_2 name l_ i1 0 r) ∧
    (¬ (v2.k = 1) →
     false = r)) ∧
   (¬ (name = [109, 97, 120]) →
    ((name = [114, 97, 110, 103, 101]) →
     ((v2.k = 1) →
      At_ref4_right_2 name l_ i1 0 r) ∧
     (¬ (v2.k = 1) →
      false = r)) ∧
    (¬ (name = [114, 97, 110, 103, 101]) →
     ((name = [97, 98, 115]) →
      ((v2.k = 1) →
       At_ref4_right_2 name l_ i1 0 r) ∧
      (¬ (v2.k = 1) →
       false = r)) ∧
     (¬ (name = [97, 98, 115]) →
      ((name = [115, 117, 109]) →
       ((v2.k = 4) →
        At_ref4_right_2 name l_ i1 0 r) ∧
       (¬ (v2.k = 4) →
        false = r)) ∧
      (¬ (name = [115, 117, 109]) →
       ((name = [99, 111, 110, 99, 97, 116]) →
        ((v2.k = 4) →
         At_ref4_right_2 name l_ i1 0 r) ∧
        (¬ (v2.k = 4) →
         false = r)) ∧
       (¬ (name = [99, 111, 110, 99, 97, 116]) →
        ((name = [104, 97, 115]) →
         ((i1 = 0) →
          ((v2.k = 4) →
           At_ref4_right_2 name l_ i1 0 r) ∧
          (¬ (v2.k = 4) →
           false = r)) ∧
         (¬ (i1 = 0) →
          At_ref4_right_2 name l_ i1 0 r)) ∧
        (¬ (name = [104, 97, 115]) →
         ((name = [106, 111, 105, 110]) →
          ((i1 = 1) →
           ((v2.k = 4) →
            At_ref4_right_2 name l_ i1 0 r) ∧
           (¬ (v2.k = 4) →
            false = r)) ∧
          (¬ (i1 = 1) →
           ((i1 = 0) →
            ((v2.k = 2) →
             At_ref4_right_2 name l_ i1 0 r) ∧
            (¬ (v2.k = 2) →
             false = r)) ∧
           (¬ (i1 = 0) →
            At_ref4_right_2 name l_ i1 0 r))) ∧
         (¬ (name = [106, 111, 105, 110]) →
          ((name = [108, 101, 110]) →
           ((v2.k = 4) →
            At_ref4_right_2 name l_ i1 0 r) ∧
           (¬ (v2.k = 4) →
            ((v2.k = 2) →
             At_ref4_right_2 name l_ i1 0 r) ∧
            (¬ (v2.k = 2) →
             false = r))) ∧
          (¬ (name = [108, 101, 110]) →
           At_ref4_right_2 name l_ i1 0 r)))))))))) ∧
 (¬ (i1 < ((l_.length : Nat) : Int)) →
  true = r)) : At_ref4_right_1 name l_ i1 r := by
 intro S e f h
 unfold k_ref4_right_1
 rw [E_loop]
 by_cases c1 : i1 < ((l_.length : Nat) : Int)
 · replace T := T.1 c1
   obtain ⟨p2, v2, q3, T⟩ := T
   by_cases c4 : name = [109, 105, 110]
   · replace T := T.1 c4
     by_cases c5 : v2.k = 1
     · replace T := T.1 c5
       have d6 : ¬ (name = [115, 117, 109]) := fun h => absurd (c4.symm.trans h) (by decide)
       have d7 : ¬ (name = [99, 111, 110, 99, 97, 116]) := fun h => absurd (c4.symm.trans h) (by decide)
       have d8 : ¬ (name = [104, 97, 115]) := fun h => absurd (c4.symm.trans h) (by decide)
       have d9 : ¬ (name = [106, 111, 105, 110]) := fun h => absurd (c4.symm.trans h) (by decide)
       have d10 : ¬ (name = [108, 101, 110]) := fun h => absurd (c4.symm.trans h) (by decide)
       try simp only [h, eq_true c1, p2, q3, eq_true c4, eq_true c5, eq_false d6, eq_false d7, eq_false d8, eq_false d9, eq_false d10, U_ref4_right, lw, le, Nat.zero_le, Nat.sub_zero, take_app3, set_get, take_set, List.length_set, List.map_set, reduceIte, reduceCtorEq, Nat.reduceEqDiff, Nat.reduceAdd, Nat.reduceLeDiff, Nat.reduceSub, Nat.reduceLT, Int.reduceEq, Int.reduceLT, Int.reduceLE, Int.reduceToNat, Int.reduceAdd, Int.reduceSub, Int.reduceMul, Int.reduceNeg, Int.cast_ofNat_Int]
       refine T S _ _ ?_
       simp only [h, eq_true c1, p2, q3, eq_true c4, eq_true c5, eq_false d6, eq_false d7, eq_false d8, eq_false d9, eq_false d10, U_ref4_right, lw, le, Nat.zero_le, Nat.sub_zero, take_app3, set_get, take_set, List.length_set, List.map_set, reduceIte, reduceCtorEq, Nat.reduceEqDiff, Nat.reduceAdd, Nat.reduceLeDiff, Nat.reduceSub, Nat.reduceLT, Int.reduceEq, Int.reduceLT, Int.reduceLE, Int.reduceToNat, Int.reduceAdd, Int.reduceSub, Int.reduceMul, Int.reduceNeg, Int.cast_ofNat_Int]
     · replace T := T.2 c5
       obtain rfl := T
       simp only [h, eq_true c1, p2, q3, eq_true c4, eq_false c5, U_ref4_right, lw, le, Nat.zero_le, Nat.sub_zero, take_app3, set_get, take_set, List.length_set, List.map_set, reduceIte, reduceCtorEq, Nat.reduceEqDiff, Nat.reduceAdd, Nat.reduceLeDiff, Nat.reduceSub, Nat.reduceLT, Int.reduceEq, Int.reduceLT, Int.reduceLE, Int.reduceToNat, Int.reduceAdd, Int.reduceSub, Int.reduceMul, Int.reduceNeg, Int.cast_ofNat_Int]
   · replace T := T.2 c4
     by_cases c11 : name = [109, 97, 120]
     · replace T := T.1 c11
       by_cases c12 : v2.k = 1
       · replace T := T.1 c12
         have d13 : ¬ (name = [115, 117, 109]) := fun h => absurd (c11.symm.trans h) (by decide)
         have d14 : ¬ (name = [99, 111, 110, 99, 97, 116]) := fun h => absurd (c11.symm.trans h) (by decide)
         have d15 : ¬ (name = [104, 97, 115]) := fun h => absurd (c11.symm.trans h) (by decide)
         have d16 : ¬ (name = [106, 111, 105, 110]) := fun h => absurd (c11.symm.trans h) (by decide)
         have d17 : ¬ (name = [108, 101, 110]) := fun h => absurd (c11.symm.trans h) (by decide)
         try simp only [h, eq_true c1, p2, q3, eq_false c4, eq_true c11, eq_true c12, eq_false d13, eq_false d14, eq_false d15, eq_false d16, eq_false d17, U_ref4_right, lw, le, Nat.zero_le, Nat.sub_zero, take_app3, set_get, take_set, List.length_set, List.map_set, reduceIte, reduceCtorEq, Nat.reduceEqDiff, Nat.reduceAdd, Nat.reduceLeDiff, Nat.reduceSub, Nat.reduceLT, Int.reduceEq, Int.reduceLT, Int.reduceLE, Int.reduceToNat, Int.reduceAdd, Int.reduceSub, Int.reduceMul, Int.reduceNeg, Int.cast_ofNat_Int]
         refine T S _ _ ?_
         simp only [h, eq_true c1, p2, q3, eq_false c4, eq_true c11, eq_true c12, eq_false d13, eq_false d14, eq_false d15, eq_false d16, eq_false d17, U_ref4_right, lw, le, Nat.zero_le, Nat.sub_zero, take_app3, set_get, take_set, List.length_set, List.map_set, reduceIte, reduceCtorEq, Nat.reduceEqDiff, Nat.reduceAdd, Nat.reduceLeDiff, Nat.reduceSub, Nat.reduceLT, Int.reduceEq, Int.reduceLT, Int.reduceLE, Int.reduceToNat, Int.reduceAdd, Int.reduceSub, Int.reduceMul, Int.reduceNeg, Int.cast_ofNat_Int]
       · replace T := T.2 c12
         obtain rfl := T
         simp only [h, eq_true c1, p2, q3, eq_false c4, eq_true c11, eq_false c12, U_ref4_right, lw, le, Nat.zero_le, Nat.sub_zero, take_app3, set_get, take_set, List.length_set, List.map_set, reduceIte, reduceCtorEq, Nat.reduceEqDiff, Nat.reduceAdd, Nat.reduceLeDiff, Nat.reduceSub, Nat.reduceLT, Int.reduceEq, Int.reduceLT, Int.reduceLE, Int.reduceToNat, Int.reduceAdd, Int.reduceSub, Int.reduceMul, Int.reduceNeg, Int.cast_ofNat_Int]
     · replace T := T.2 c11
       by_cases c18 : name = [114, 97, 110, 103, 101]
       · replace T := T.1 c18
         by_cases c19 : v2.k = 1
         · replace T := T.1 c19
           have d20 : ¬ (name = [115, 117, 109]) := fun h => absurd (c18.symm.trans h) (by decide)
           have d21 : ¬ (name = [99, 111, 110, 99, 97, 116]) := fun h => absurd (c18.symm.trans h) (by decide)
           have d22 : ¬ (name = [104, 97, 115]) := fun h => absurd (c18.symm.trans h) (by decide)
           have d23 : ¬ (name = [106, 111, 105, 110]) := fun h => absurd (c18.symm.trans h) (by decide)
           have d24 : ¬ (name = [108, 101, 110]) := fun h => absurd (c18.symm.trans h) (by decide)
           try simp only [h, eq_true c1, p2, q3, eq_false c4, eq_false c11, eq_true c18, eq_true c19, eq_false d20, eq_false d21, eq_false d22, eq_false d23, eq_false d24, U_ref4_right, lw, le, Nat.zero_le, Nat.sub_zero, take_app3, set_get, take_set, List.length_set, List.map_set, reduceIte, reduceCtorEq, Nat.reduceEqDiff, Nat.reduceAdd, Nat.reduceLeDiff, Nat.reduceSub, Nat.reduceLT, Int.reduceEq, Int.reduceLT, Int.reduceLE, Int.reduceToNat, Int.reduceAdd, Int.reduceSub, Int.reduceMul, Int.reduceNeg, Int.cast_ofNat_Int]
           refine T S _ _ ?_
           simp only [h, eq_true c1, p2, q3, eq_false c4, eq_false c11, eq_true c18, eq_true c19, eq_false d20, eq_false d21, eq_false d22, eq_false d23, eq_false d24, U_ref4_right, lw, le, Nat.zero_le, Nat.sub_zero, take_app3, set_get, take_set, List.length_set, List.map_set, reduceIte, reduceCtorEq, Nat.reduceEqDiff, Nat.reduceAdd, Nat.reduceLeDiff, Nat.reduceSub, Nat.reduceLT, Int.reduceEq, Int.reduceLT, Int.reduceLE, Int.reduceToNat, Int.reduceAdd, Int.reduceSub, Int.reduceMul, Int.reduceNeg, Int.cast_ofNat_Int]
         · replace T := T.2 c19
           obtain rfl := T
           simp only [h, eq_true c1, p2, q3, eq_false c4, eq_false c11, eq_true c18, eq_false c19, U_ref4_right, lw, le, Nat.zero_le, Nat.sub_zero, take_app3, set_get, take_set, List.length_set, List.map_set, reduceIte, reduceCtorEq, Nat.reduceEqDiff, Nat.reduceAdd, Nat.reduceLeDiff, Nat.reduceSub, Nat.reduceLT, Int.reduceEq, Int.reduceLT, Int.reduceLE, Int.reduceToNat, Int.reduceAdd, Int.reduceSub, Int.reduceMul, Int.reduceNeg, Int.cast_ofNat_Int]
       · replace T := T.2 c18
         by_cases c25 : name = [97, 98, 115]
         · replace T := T.1 c25
           by_cases c26 : v2.k = 1
           · replace T := T.1 c26
             have d27 : ¬ (name = [115, 117, 109]) := fun h => absurd (c25.symm.trans h) (by decide)
             have d28 : ¬ (name = [99, 111, 110, 99, 97, 116]) := fun h => absurd (c25.symm.trans h) (by decide)
             have d29 : ¬ (name = [104, 97, 115]) := fun h => absurd (c25.symm.trans h) (by decide)
             have d30 : ¬ (name = [106, 111, 105, 110]) := fun h => absurd (c25.symm.trans h) (by decide)
             have d31 : ¬ (name = [108, 101, 110]) := fun h => absurd (c25.symm.trans h) (by decide)
             try simp only [h, eq_true c1, p2, q3, eq_false c4, eq_false c11, eq_false c18, eq_true c25, eq_true c26, eq_false d27, eq_false d28, eq_false d29, eq_false d30, eq_false d31, U_ref4_right, lw, le, Nat.zero_le, Nat.sub_zero, take_app3, set_get, take_set, List.length_set, List.map_set, reduceIte, reduceCtorEq, Nat.reduceEqDiff, Nat.reduceAdd, Nat.reduceLeDiff, Nat.reduceSub, Nat.reduceLT, Int.reduceEq, Int.reduceLT, Int.reduceLE, Int.reduceToNat, Int.reduceAdd, Int.reduceSub, Int.reduceMul, Int.reduceNeg, Int.cast_ofNat_Int]
             refine T S _ _ ?_
             simp only [h, eq_true c1, p2, q3, eq_false c4, eq_false c11, eq_false c18, eq_true c25, eq_true c26, eq_false d27, eq_false d28, eq_false d29, eq_false d30, eq_false d31, U_ref4_right, lw, le, Nat.zero_le, Nat.sub_zero, take_app3, set_get, take_set, List.length_set, List.map_set, reduceIte, reduceCtorEq, Nat.reduceEqDiff, Nat.reduceAdd, Nat.reduceLeDiff, Nat.reduceSub, Nat.reduceLT, Int.reduceEq, Int.reduceLT, Int.reduceLE, Int.reduceToNat, Int.reduceAdd, Int.reduceSub, Int.reduceMul, Int.reduceNeg, Int.cast_ofNat_Int]
           · replace T := T.2 c26
             obtain rfl := T
             simp only [h, eq_true c1, p2, q3, eq_false c4, eq_false c11, eq_false c18, eq_true c25, eq_false c26, U_ref4_right, lw, le, Nat.zero_le, Nat.sub_zero, take_app3, set_get, take_set, List.length_set, List.map_set, reduceIte, reduceCtorEq, Nat.reduceEqDiff, Nat.reduceAdd, Nat.reduceLeDiff, Nat.reduceSub, Nat.reduceLT, Int.reduceEq, Int.reduceLT, Int.reduceLE, Int.reduceToNat, Int.reduceAdd, Int.reduceSub, Int.reduceMul, Int.reduceNeg, Int.cast_ofNat_Int]
         · replace T := T.2 c25
           by_cases c32 : name = [115, 117, 109]
           · replace T := T.1 c32
             by_cases c33 : v2.k = 4
             · replace T := T.1 c33
               have d34 : ¬ (name = [106, 111, 105, 110]) := fun h => absurd (c32.symm.trans h) (by decide)
               have d35 : ¬ (name = [108, 101, 110]) := fun h => absurd (c32.symm.trans h) (by decide)
               try simp only [h, eq_true c1, p2, q3, eq_false c4, eq_false c11, eq_false c18, eq_false c25, eq_true c32, eq_true c33, eq_false d34, eq_false d35, U_ref4_right, lw, le, Nat.zero_le, Nat.sub_zero, take_app3, set_get, take_set, List.length_set, List.map_set, reduceIte, reduceCtorEq, Nat.reduceEqDiff, Nat.reduceAdd, Nat.reduceLeDiff, Nat.reduceSub, Nat.reduceLT, Int.reduceEq, Int.reduceLT, Int.reduceLE, Int.reduceToNat, Int.reduceAdd, Int.reduceSub, Int.reduceMul, Int.reduceNeg, Int.cast_ofNat_Int]
               refine T S _ _ ?_
               simp only [h, eq_true c1, p2, q3, eq_false c4, eq_false c11, eq_false c18, eq_false c25, eq_true c32, eq_true c33, eq_false d34, eq_false d35, U_ref4_right, lw, le, Nat.zero_le, Nat.sub_zero, take_app3, set_get, take_set, List.length_set, List.map_set, reduceIte, reduceCtorEq, Nat.reduceEqDiff, Nat.reduceAdd, Nat.reduceLeDiff, Nat.reduceSub, Nat.reduceLT, Int.reduceEq, Int.reduceLT, Int.reduceLE, Int.reduceToNat, Int.reduceAdd, Int.reduceSub, Int.reduceMul, Int.reduceNeg, Int.cast_ofNat_Int]
             · replace T := T.2 c33
               obtain rfl := T
               simp only [h, eq_true c1, p2, q3, eq_false c4, eq_false c11, eq_false c18, eq_false c25, eq_true c32, eq_false c33, U_ref4_right, lw, le, Nat.zero_le, Nat.sub_zero, take_app3, set_get, take_set, List.length_set, List.map_set, reduceIte, reduceCtorEq, Nat.reduceEqDiff, Nat.reduceAdd, Nat.reduceLeDiff, Nat.reduceSub, Nat.reduceLT, Int.reduceEq, Int.reduceLT, Int.reduceLE, Int.reduceToNat, Int.reduceAdd, Int.reduceSub, Int.reduceMul, Int.reduceNeg, Int.cast_ofNat_Int]
           · replace T := T.2 c32
             by_cases c36 : name = [99, 111, 110, 99, 97, 116]
             · replace T := T.1 c36
               by_cases c37 : v2.k = 4
               · replace T := T.1 c37
                 have d38 : ¬ (name = [106, 111, 105, 110]) := fun h => absurd (c36.symm.trans h) (by decide)
                 have d39 : ¬ (name = [108, 101, 110]) := fun h => absurd (c36.symm.trans h) (by decide)
                 try simp only [h, eq_true c1, p2, q3, eq_false c4, eq_false c11, eq_false c18, eq_false c25, eq_false c32, eq_true c36, eq_true c37, eq_false d38, eq_false d39, U_ref4_right, lw, le, Nat.zero_le, Nat.sub_zero, take_app3, set_get, take_set, List.length_set, List.map_set, reduceIte, reduceCtorEq, Nat.reduceEqDiff, Nat.reduceAdd, Nat.reduceLeDiff, Nat.reduceSub, Nat.reduceLT, Int.reduceEq, Int.reduceLT, Int.reduceLE, Int.reduceToNat, Int.reduceAdd, Int.reduceSub, Int.reduceMul, Int.reduceNeg, Int.cast_ofNat_Int]
                 refine T S _ _ ?_
                 simp only [h, eq_true c1, p2, q3, eq_false c4, eq_false c11, eq_false c18, eq_false c25, eq_false c32, eq_true c36, eq_true c37, eq_false d38, eq_false d39, U_ref4_right, lw, le, Nat.zero_le, Nat.sub_zero, take_app3, set_get, take_set, List.length_set, List.map_set, reduceIte, reduceCtorEq, Nat.reduceEqDiff, Nat.reduceAdd, Nat.reduceLeDiff, Nat.reduceSub, Nat.reduceLT, Int.reduceEq, Int.reduceLT, Int.reduceLE, Int.reduceToNat, Int.reduceAdd, Int.reduceSub, Int.reduceMul, Int.reduceNeg, Int.cast_ofNat_Int]
               · replace T := T.2 c37
                 obtain rfl := T
                 simp only [h, eq_true c1, p2, q3, eq_false c4, eq_false c11, eq_false c18, eq_false c25, eq_false c32, eq_true c36, eq_false c37, U_ref4_right, lw, le, Nat.zero_le, Nat.sub_zero, take_app3, set_get, take_set, List.length_set, List.map_set, reduceIte, reduceCtorEq, Nat.reduceEqDiff, Nat.reduceAdd, Nat.reduceLeDiff, Nat.reduceSub, Nat.reduceLT, Int.reduceEq, Int.reduceLT, Int.reduceLE, Int.reduceToNat, Int.reduceAdd, Int.reduceSub, Int.reduceMul, Int.reduceNeg, Int.cast_ofNat_Int]
             · replace T := T.2 c36
               by_cases c40 : name = [104, 97, 115]
               · replace T := T.1 c40
                 by_cases c41 : i1 = 0
                 · replace T := T.1 c41
                   by_cases c42 : v2.k = 4
                   · replace T := T.1 c42
                     have d43 : ¬ (name = [106, 111, 105, 110]) := fun h => absurd (c40.symm.trans h) (by decide)
                     have d44 : ¬ (name = [108, 101, 110]) := fun h => absurd (c40.symm.trans h) (by decide)
                     try simp only [h, eq_true c1, p2, q3, eq_false c4, eq_false c11, eq_false c18, eq_false c25, eq_false c32, eq_false c36, eq_true c40, eq_true c41, eq_true c42, eq_false d43, eq_false d44, U_ref4_right, lw, le, Nat.zero_le, Nat.sub_zero, take_app3, set_get, take_set, List.length_set, List.map_set, reduceIte, reduceCtorEq, Nat.reduceEqDiff, Nat.reduceAdd, Nat.reduceLeDiff, Nat.reduceSub, Nat.reduceLT, Int.reduceEq, Int.reduceLT, Int.reduceLE, Int.reduceToNat, Int.reduceAdd, Int.reduceSub, Int.reduceMul, Int.reduceNeg, Int.cast_ofNat_Int]
                     refine T S _ _ ?_
                     simp only [h, eq_true c1, p2, q3, eq_false c4, eq_false c11, eq_false c18, eq_false c25, eq_false c32, eq_false c36, eq_true c40, eq_true c41, eq_true c42, eq_false d43, eq_false d44, U_ref4_right, lw, le, Nat.zero_le, Nat.sub_zero, take_app3, set_get, take_set, List.length_set, List.map_set, reduceIte, reduceCtorEq, Nat.reduceEqDiff, Nat.reduceAdd, Nat.reduceLeDiff, Nat.reduceSub, Nat.reduceLT, Int.reduceEq, Int.reduceLT, Int.reduceLE, Int.reduceToNat, Int.reduceAdd, Int.reduceSub, Int.reduceMul, Int.reduceNeg, Int.cast_ofNat_Int]
                   · replace T := T.2 c42
                     obtain rfl := T
                     simp only [h, eq_true c1, p2, q3, eq_false c4, eq_false c11, eq_false c18, eq_false c25, eq_false c32, eq_false c36, eq_true c40, eq_true c41, eq_false c42, U_ref4_right, lw, le, Nat.zero_le, Nat.sub_zero, take_app3, set_get, take_set, List.length_set, List.map_set, reduceIte, reduceCtorEq, Nat.reduceEqDiff, Nat.reduceAdd, Nat.reduceLeDiff, Nat.reduceSub, Nat.reduceLT, Int.reduceEq, Int.reduceLT, Int.reduceLE, Int.reduceToNat, Int.reduceAdd, Int.reduceSub, Int.reduceMul, Int.reduceNeg, Int.cast_ofNat_Int]
                 · replace T := T.2 c41
                   have d45 : ¬ (name = [106, 111, 105, 110]) := fun h => absurd (c40.symm.trans h) (by decide)
                   have d46 : ¬ (name = [108, 101, 110]) := fun h => absurd (c40.symm.trans h) (by decide)
                   try simp only [h, eq_true c1, p2, q3, eq_false c4, eq_false c11, eq_false c18, eq_false c25, eq_false c32, eq_false c36, eq_true c40, eq_false c41, eq_false d45, eq_false d46, U_ref4_right, lw, le, Nat.zero_le, Nat.sub_zero, take_app3, set_get, take_set, List.length_set, List.map_set, reduceIte, reduceCtorEq, Nat.reduceEqDiff, Nat.reduceAdd, Nat.reduceLeDiff, Nat.reduceSub, Nat.reduceLT, Int.reduceEq, Int.reduceLT, Int.reduceLE, Int.reduceToNat, Int.reduceAdd, Int.reduceSub, Int.reduceMul, Int.reduceNeg, Int.cast_ofNat_Int]
                   refine T S _ _ ?_
                   simp only [h, eq_true c1, p2, q3, eq_false c4, eq_false c11, eq_false c18, eq_false c25, eq_false c32, eq_false c36, eq_true c40, eq_false c41, eq_false d45, eq_false d46, U_ref4_right, lw, le, Nat.zero_le, Nat.sub_zero, take_app3, set_get, take_set, List.length_set, List.map_set, reduceIte, reduceCtorEq, Nat.reduceEqDiff, Nat.reduceAdd, Nat.reduceLeDiff, Nat.reduceSub, Nat.reduceLT, Int.reduceEq, Int.reduceLT, Int.reduceLE, Int.reduceToNat, Int.reduceAdd, Int.reduceSub, Int.reduceMul, Int.reduceNeg, Int.cast_ofNat_Int]
               · replace T := T.2 c40
                 by_cases c47 : name = [106, 111, 105, 110]
                 · replace T := T.1 c47
                   by_cases c48 : i1 = 1
                   · replace T := T.1 c48
                     by_cases c49 : v2.k = 4
                     · replace T := T.1 c49
                       have d50 : ¬ (i1 = 0) := fun h => absurd (c48.symm.trans h) (by decide)
                       have d51 : ¬ (name = [108, 101, 110]) := fun h => absurd (c47.symm.trans h) (by decide)
                       try simp only [h, eq_true c1, p2, q3, eq_false c4, eq_false c11, eq_false c18, eq_false c25, eq_false c32, eq_false c36, eq_false c40, eq_true c47, eq_true c48, eq_true c49, eq_false d50, eq_false d51, U_ref4_right, lw, le, Nat.zero_le, Nat.sub_zero, take_app3, set_get, take_set, List.length_set, List.map_set, reduceIte, reduceCtorEq, Nat.reduceEqDiff, Nat.reduceAdd, Nat.reduceLeDiff, Nat.reduceSub, Nat.reduceLT, Int.reduceEq, Int.reduceLT, Int.reduceLE, Int.reduceToNat, Int.reduceAdd, Int.reduceSub, Int.reduceMul, Int.reduceNeg, Int.cast_ofNat_Int]
                       refine T S _ _ ?_
                       simp only [h, eq_true c1, p2, q3, eq_false c4, eq_false c11, eq_false c18, eq_false c25, eq_false c32, eq_false c36, eq_false c40, eq_true c47, eq_true c48, eq_true c49, eq_false d50, eq_false d51, U_ref4_right, lw, le, Nat.zero_le, Nat.sub_zero, take_app3, set_get, take_set, List.length_set, List.map_set, reduceIte, reduceCtorEq, Nat.reduceEqDiff, Nat.reduceAdd, Nat.reduceLeDiff, Nat.reduceSub, Nat.reduceLT, Int.reduceEq, Int.reduceLT, Int.reduceLE, Int.reduceToNat, Int.reduceAdd, Int.reduceSub, Int.reduceMul, Int.reduceNeg, Int.cast_ofNat_Int]
                     · replace T := T.2 c49
                       obtain rfl := T
                       simp only [h, eq_true c1, p2, q3, eq_false c4, eq_false c11, eq_false c18, eq_false c25, eq_false c32, eq_false c36, eq_false c40, eq_true c47, eq_true c48, eq_false c49, U_ref4_right, lw, le, Nat.zero_le, Nat.sub_zero, take_app3, set_get, take_set, List.length_set, List.map_set, reduceIte, reduceCtorEq, Nat.reduceEqDiff, Nat.reduceAdd, Nat.reduceLeDiff, Nat.reduceSub, Nat.reduceLT, Int.reduceEq, Int.reduceLT, Int.reduceLE, Int.reduceToNat, Int.reduceAdd, Int.reduceSub, Int.reduceMul, Int.reduceNeg, Int.cast_ofNat_Int]
                   · replace T := T.2 c48
                     by_cases c52 : i1 = 0
                     · replace T := T.1 c52
                       by_cases c53 : v2.k = 2
                       · replace T := T.1 c53
                         have d54 : ¬ (name = [108, 101, 110]) := fun h => absurd (c47.symm.trans h) (by decide)
                         try simp only [h, eq_true c1, p2, q3, eq_false c4, eq_false c11, eq_false c18, eq_false c25, eq_false c32, eq_false c36, eq_false c40, eq_true c47, eq_false c48, eq_true c52, eq_true c53, eq_false d54, U_ref4_right, lw, le, Nat.zero_le, Nat.sub_zero, take_app3, set_get, take_set, List.length_set, List.map_set, reduceIte, reduceCtorEq, Nat.reduceEqDiff, Nat.reduceAdd, Nat.reduceLeDiff, Nat.reduceSub, Nat.reduceLT, Int.reduceEq, Int.reduceLT, Int.reduceLE, Int.reduceToNat, Int.reduceAdd, Int.reduceSub, Int.reduceMul, Int.reduceNeg, Int.cast_ofNat_Int]
                         refine T S _ _ ?_
                         simp only [h, eq_true c1, p2, q3, eq_false c4, eq_false c11, eq_false c18, eq_false c25, eq_false c32, eq_false c36, eq_false c40, eq_true c47, eq_false c48, eq_true c52, eq_true c53, eq_false d54, U_ref4_right, lw, le, Nat.zero_le, Nat.sub_zero, take_app3, set_get, take_set, List.length_set, List.map_set, reduceIte, reduceCtorEq, Nat.reduceEqDiff, Nat.reduceAdd, Nat.reduceLeDiff, Nat.reduceSub, Nat.reduceLT, Int.reduceEq, Int.reduceLT, Int.reduceLE, Int.reduceToNat, Int.reduceAdd, Int.reduceSub, Int.reduceMul, Int.reduceNeg, Int.cast_ofNat_Int]
                       · replace T := T.2 c53
                         obtain rfl := T
                         simp only [h, eq_true c1, p2, q3, eq_false c4, eq_false c11, eq_false c18, eq_false c25, eq_false c32, eq_false c36, eq_false c40, eq_true c47, eq_false c48, eq_true c52, eq_false c53, U_ref4_right, lw, le, Nat.zero_le, Nat.sub_zero, take_app3, set_get, take_set, List.length_set, List.map_set, reduceIte, reduceCtorEq, Nat.reduceEqDiff, Nat.reduceAdd, Nat.reduceLeDiff, Nat.reduceSub, Nat.reduceLT, Int.reduceEq, Int.reduceLT, Int.reduceLE, Int.reduceToNat, Int.reduceAdd, Int.reduceSub, Int.reduceMul, Int.reduceNeg, Int.cast_ofNat_Int]
                     · replace T := T.2 c52
                       have d55 : ¬ (name = [108, 101, 110]) := fun h => absurd (c47.symm.trans h) (by decide)
                       try simp only [h, eq_true c1, p2, q3, eq_false c4, eq_false c11, eq_false c18, eq_false c25, eq_false c32, eq_false c36, eq_false c40, eq_true c47, eq_false c48, eq_false c52, eq_false d55, U_ref4_right, lw, le, Nat.zero_le, Nat.sub_zero, take_app3, set_get, take_set, List.length_set, List.map_set, reduceIte, reduceCtorEq, Nat.reduceEqDiff, Nat.reduceAdd, Nat.reduceLeDiff, Nat.reduceSub, Nat.reduceLT, Int.reduceEq, Int.reduceLT, Int.reduceLE, Int.reduceToNat, Int.reduceAdd, Int.reduceSub, Int.reduceMul, Int.reduceNeg, Int.cast_ofNat_Int]
                       refine T S _ _ ?_
                       simp only [h, eq_true c1, p2, q3, eq_false c4, eq_false c11, eq_false c18, eq_false c25, eq_false c32, eq_false c36, eq_false c40, eq_true c47, eq_false c48, eq_false c52, eq_false d55, U_ref4_right, lw, le, Nat.zero_le, Nat.sub_zero, take_app3, set_get, take_set, List.length_set, List.map_set, reduceIte, reduceCtorEq, Nat.reduceEqDiff, Nat.reduceAdd, Nat.reduceLeDiff, Nat.reduceSub, Nat.reduceLT, Int.reduceEq, Int.reduceLT, Int.reduceLE, Int.reduceToNat, Int.reduceAdd, Int.reduceSub, Int.reduceMul, Int.reduceNeg, Int.cast_ofNat_Int]
                 · replace T := T.2 c47
                   by_cases c56 : name = [108, 101, 110]
                   · replace T := T.1 c56
                     by_cases c57 : v2.k = 4
                     · replace T := T.1 c57
                       try simp only [h, eq_true c1, p2, q3, eq_false c4, eq_false c11, eq_false c18, eq_false c25, eq_false c32, eq_false c36, eq_false c40, eq_false c47, eq_true c56, eq_true c57, U_ref4_right, lw, le, Nat.zero_le, Nat.sub_zero, take_app3, set_get, take_set, List.length_set, List.map_set, reduceIte, reduceCtorEq, Nat.reduceEqDiff, Nat.reduceAdd, Nat.reduceLeDiff, Nat.reduceSub, Nat.reduceLT, Int.reduceEq, Int.reduceLT, Int.reduceLE, Int.reduceToNat, Int.reduceAdd, Int.reduceSub, Int.reduceMul, Int.reduceNeg, Int.cast_ofNat_Int]
                       refine T S _ _ ?_
                       simp only [h, eq_true c1, p2, q3, eq_false c4, eq_false c11, eq_false c18, eq_false c25, eq_false c32, eq_false c36, eq_false c40, eq_false c47, eq_true c56, eq_true c57, U_ref4_right, lw, le, Nat.zero_le, Nat.sub_zero, take_app3, set_get, take_set, List.length_set, List.map_set, reduceIte, reduceCtorEq, Nat.reduceEqDiff, Nat.reduceAdd, Nat.reduceLeDiff, Nat.reduceSub, Nat.reduceLT, Int.reduceEq, Int.reduceLT, Int.reduceLE, Int.reduceToNat, Int.reduceAdd, Int.reduceSub, Int.reduceMul, Int.reduceNeg, Int.cast_ofNat_Int]
                     · replace T := T.2 c57
                       by_cases c58 : v2.k = 2
                       · replace T := T.1 c58
                         try simp only [h, eq_true c1, p2, q3, eq_false c4, eq_false c11, eq_false c18, eq_false c25, eq_false c32, eq_false c36, eq_false c40, eq_false c47, eq_true c56, eq_false c57, eq_true c58, U_ref4_right, lw, le, Nat.zero_le, Nat.sub_zero, take_app3, set_get, take_set, List.length_set, List.map_set, reduceIte, reduceCtorEq, Nat.reduceEqDiff, Nat.reduceAdd, Nat.reduceLeDiff, Nat.reduceSub, Nat.reduceLT, Int.reduceEq, Int.reduceLT, Int.reduceLE, Int.reduceToNat, Int.reduceAdd, Int.reduceSub, Int.reduceMul, Int.reduceNeg, Int.cast_ofNat_Int]
                         refine T S _ _ ?_
                         simp only [h, eq_true c1, p2, q3, eq_false c4, eq_false c11, eq_false c18, eq_false c25, eq_false c32, eq_false c36, eq_false c40, eq_false c47, eq_true c56, eq_false c57, eq_true c58, U_ref4_right, lw, le, Nat.zero_le, Nat.sub_zero, take_app3, set_get, take_set, List.length_set, List.map_set, reduceIte, reduceCtorEq, Nat.reduceEqDiff, Nat.reduceAdd, Nat.reduceLeDiff, Nat.reduceSub, Nat.reduceLT, Int.reduceEq, Int.reduceLT, Int.reduceLE, Int.reduceToNat, Int.reduceAdd, Int.reduceSub, Int.reduceMul, Int.reduceNeg, Int.cast_ofNat_Int]
                       · replace T := T.2 c58
                         obtain rfl := T
                         simp only [h, eq_true c1, p2, q3, eq_false c4, eq_false c11, eq_false c18, eq_false c25, eq_false c32, eq_false c36, eq_false c40, eq_false c47, eq_true c56, eq_false c57, eq_false c58, U_ref4_right, lw, le, Nat.zero_le, Nat.sub_zero, take_app3, set_get, take_set, List.length_set, List.map_set, reduceIte, reduceCtorEq, Nat.reduceEqDiff, Nat.reduceAdd, Nat.reduceLeDiff, Nat.reduceSub, Nat.reduceLT, Int.reduceEq, Int.reduceLT, Int.reduceLE, Int.reduceToNat, Int.reduceAdd, Int.reduceSub, Int.reduceMul, Int.reduceNeg, Int.cast_ofNat_Int]
                   · replace T := T.2 c56
                     try simp only [h, eq_true c1, p2, q3, eq_false c4, eq_false c11, eq_false c18, eq_false c25, eq_false c32, eq_false c36, eq_false c40, eq_false c47, eq_false c56, U_ref4_right, lw, le, Nat.zero_le, Nat.sub_zero, take_app3, set_get, take_set, List.length_set, List.map_set, reduceIte, reduceCtorEq, Nat.reduceEqDiff, Nat.reduceAdd, Nat.reduceLeDiff, Nat.reduceSub, Nat.reduceLT, Int.reduceEq, Int.reduceLT, Int.reduceLE, Int.reduceToNat, Int.reduceAdd, Int.reduceSub, Int.reduceMul, Int.reduceNeg, Int.cast_ofNat_Int]
                     refine T S _ _ ?_
                     simp only [h, eq_true c1, p2, q3, eq_false c4, eq_false c11, eq_false c18, eq_false c25, eq_false c32, eq_false c36, eq_false c40, eq_false c47, eq_false c56, U_ref4_right, lw, le, Nat.zero_le, Nat.sub_zero, take_app3, set_get, take_set, List.length_set, List.map_set, reduceIte, reduceCtorEq, Nat.reduceEqDiff, Nat.reduceAdd, Nat.reduceLeDiff, Nat.reduceSub, Nat.reduceLT, Int.reduceEq, Int.reduceLT, Int.reduceLE, Int.reduceToNat, Int.reduceAdd, Int.reduceSub, Int.reduceMul, Int.reduceNeg, Int.cast_ofNat_Int]
 · replace T := T.2 c1
   obtain rfl := T
   simp only [h, eq_false c1, U_ref4_right, lw, le, Nat.zero_le, Nat.sub_zero, take_app3, set_get, take_set, List.length_set, List.map_set, reduceIte, reduceCtorEq, Nat.reduceEqDiff, Nat.reduceAdd, Nat.reduceLeDiff, Nat.reduceSub, Nat.reduceLT, Int.reduceEq, Int.reduceLT, Int.reduceLE, Int.reduceToNat, Int.reduceAdd, Int.reduceSub, Int.reduceMul, Int.reduceNeg, Int.cast_ofNat_Int]
set_option maxHeartbeats 4000000 in
theorem At_ref4_right_2_step (name : List UInt8) (l_ : List V) (i1 : Int) (i3 : Int) (r : Bool) (T :
  (0 ≤ i1) ∧
 ∃ (v4 : V), (l_[i1.toNat]? = some v4) ∧
 ((i3 < ((v4.l.length : Nat) : Int)) →
  ((name = [115, 117, 109]) →
   (0 ≤ i3) ∧
   ∃ (v5 : V), (v4.l[i3.toNat]? = some v5) ∧
   ((v5.k = 1) →
    (I64 (i3 + 1)) ∧
    At_ref4_right_2 name l_ i1 (i3 + 1) r) ∧
   (¬ (v5.k = 1) →
    false = r)) ∧
  (¬ (name = [115, 117, 109]) →
   ((name = [106, 111, 105, 110]) →
    (0 ≤ i3) ∧
    ∃ (v6 : V), (v4.l[i3.toNat]? = some v6) ∧
    ((v6.k = 2) →
     (I64 (i3 + 1)) ∧
     At_ref4_right_2 name l_ i1 (i3 + 1) r) ∧
    (¬ (v6.k = 2) →
     false = r)) ∧
   (¬ (name = [106, 111, 105, 110]) →
    (I64 (i3 + 1)) ∧
    At_ref4_right_2 name l_ i1 (i3 + 1) r))) ∧
 (¬ (i3 < ((v4.l.length : Nat) : Int)) →
  (I64 (i1 + 1)) ∧
  At_ref4_right_1 name l_ (i1 + 1) r)) : At_ref4_right_2 name l_ i1 i3 r := by
 intro S e f h
 unfold k_ref4_right_2
 rw [E_loop]
 obtain ⟨p1, v4, q2, T⟩ := T
 by_cases c3 : i3 < ((v4.l.length : Nat) : Int)
 · replace T := T.1 c3
   by_cases c4 : name = [115, 117, 109]
   · replace T := T.1 c4
     obtain ⟨p5, v5, q6, T⟩ := T
     by_cases c7 : v5.k = 1
     · replace T := T.1 c7
       obtain ⟨p9, T⟩ := T
       have d8 : ¬ (name = [106, 111, 105, 110]) := fun h => absurd (c4.symm.trans h) (by decide)
       try simp only [h, p1, q2, eq_true c3, eq_true c4, p5, q6, eq_true c7, eq_false d8, p9.wrap, U_ref4_right, lw, le, Nat.zero_le, Nat.sub_zero, take_app3, set_get, take_set, List.length_set, List.map_set, reduceIte, reduceCtorEq, Nat.reduceEqDiff, Nat.reduceAdd, Nat.reduceLeDiff, Nat.reduceSub, Nat.reduceLT, Int.reduceEq, Int.reduceLT, Int.reduceLE, Int.reduceToNat, Int.reduceAdd, Int.reduceSub, Int.reduceMul, Int.reduceNeg, Int.cast_ofNat_Int]
       refine T S _ _ ?_
       simp only [h, p1, q2, eq_true c3, eq_true c4, p5, q6, eq_true c7, eq_false d8, p9.wrap, U_ref4_right, lw, le, Nat.zero_le, Nat.sub_zero, take_app3, set_get, take_set, List.length_set, List.map_set, reduceIte, reduceCtorEq, Nat.reduceEqDiff, Nat.reduceAdd, Nat.reduceLeDiff, Nat.reduceSub, Nat.reduceLT, Int.reduceEq, Int.reduceLT, Int.reduceLE, Int.reduceToNat, Int.reduceAdd, Int.reduceSub, Int.reduceMul, Int.reduceNeg, Int.cast_ofNat_Int]
     · replace T := T.2 c7
       obtain rfl := T
       simp only [h, p1, q2, eq_true c3, eq_true c4, p5, q6, eq_false c7, U_ref4_right, lw, le, Nat.zero_le, Nat.sub_zero, take_app3, set_get, take_set, List.length_set, List.map_set, reduceIte, reduceCtorEq, Nat.reduceEqDiff, Nat.reduceAdd, Nat.reduceLeDiff, Nat.reduceSub, Nat.reduceLT, Int.reduceEq, Int.reduceLT, Int.reduceLE, Int.reduceToNat, Int.reduceAdd, Int.reduceSub, Int.reduceMul, Int.reduceNeg, Int.cast_ofNat_Int]
   · replace T := T.2 c4
     by_cases c10 : name = [106, 111, 105, 110]
     · replace T := T.1 c10
       obtain ⟨p11, v6, q12, T⟩ := T
       by_cases c13 : v6.k = 2
       · replace T := T.1 c13
         obtain ⟨p14, T⟩ := T
         try simp only [h, p1, q2, eq_true c3, eq_false c4, eq_true c10, p11, q12, eq_true c13, p14.wrap, U_ref4_right, lw, le, Nat.zero_le, Nat.sub_zero, take_app3, set_get, take_set, List.length_set, List.map_set, reduceIte, reduceCtorEq, Nat.reduceEqDiff, Nat.reduceAdd, Nat.reduceLeDiff, Nat.reduceSub, Nat.reduceLT, Int.reduceEq, Int.reduceLT, Int.reduceLE, Int.reduceToNat, Int.reduceAdd, Int.reduceSub, Int.reduceMul, Int.reduceNeg, Int.cast_ofNat_Int]
         refine T S _ _ ?_
         simp only [h, p1, q2, eq_true c3, eq_false c4, eq_true c10, p11, q12, eq_true c13, p14.wrap, U_ref4_right, lw, le, Nat.zero_le, Nat.sub_zero, take_app3, set_get, take_set, List.length_set, List.map_set, reduceIte, reduceCtorEq, Nat.reduceEqDiff, Nat.reduceAdd, Nat.reduceLeDiff, Nat.reduceSub, Nat.reduceLT, Int.reduceEq, Int.reduceLT, Int.reduceLE, Int.reduceToNat, Int.reduceAdd, Int.reduceSub, Int.reduceMul, Int.reduceNeg, Int.cast_ofNat_Int]
       · replace T := T.2 c13
         obtain rfl := T
         simp only [h, p1, q2, eq_true c3, eq_false c4, eq_true c10, p11, q12, eq_false c13, U_ref4_right, lw, le, Nat.zero_le, Nat.sub_zero, take_app3, set_get, take_set, List.length_set, List.map_set, reduceIte, reduceCtorEq, Nat.reduceEqDiff, Nat.reduceAdd, Nat.reduceLeDiff, Nat.reduceSub, Nat.reduceLT, Int.reduceEq, Int.reduceLT, Int.reduceLE, Int.reduceToNat, Int.reduceAdd, Int.reduceSub, Int.reduceMul, Int.reduceNeg, Int.cast_ofNat_Int]
     · replace T := T.2 c10
       obtain ⟨p15, T⟩ := T
       try simp only [h, p1, q2, eq_true c3, eq_false c4, eq_false c10, p15.wrap, U_ref4_right, lw, le, Nat.zero_le, Nat.sub_zero, take_app3, set_get, take_set, List.length_set, List.map_set, reduceIte, reduceCtorEq, Nat.reduceEqDiff, Nat.reduceAdd, Nat.reduceLeDiff, Nat.reduceSub, Nat.reduceLT, Int.reduceEq, Int.reduceLT, Int.reduceLE, Int.reduceToNat, Int.reduceAdd, Int.reduceSub, Int.reduceMul, Int.reduceNeg, Int.cast_ofNat_Int]
       refine T S _ _ ?_
       simp only [h, p1, q2, eq_true c3, eq_false c4, eq_false c10, p15.wrap, U_ref4_right, lw, le, Nat.zero_le, Nat.sub_zero, take_app3, set_get, take_set, List.length_set, List.map_set, reduceIte, reduceCtorEq, Nat.reduceEqDiff, Nat.reduceAdd, Nat.reduceLeDiff, Nat.reduceSub, Nat.reduceLT, Int.reduceEq, Int.reduceLT, Int.reduceLE, Int.reduceToNat, Int.reduceAdd, Int.reduceSub, Int.reduceMul, Int.reduceNeg, Int.cast_ofNat_Int]
 · replace T := T.2 c3
   obtain ⟨p16, T⟩ := T
   try simp only [h, p1, q2, eq_false c3, p16.wrap, U_ref4_right, lw, le, Nat.zero_le, Nat.sub_zero, take_app3, set_get, take_set, List.length_set, List.map_set, reduceIte, reduceCtorEq, Nat.reduceEqDiff, Nat.reduceAdd, Nat.reduceLeDiff, Nat.reduceSub, Nat.reduceLT, Int.reduceEq, Int.reduceLT, Int.reduceLE, Int.reduceToNat, Int.reduceAdd, Int.reduceSub, Int.reduceMul, Int.reduceNeg, Int.cast_ofNat_Int]
   refine T S _ _ ?_
   simp only [h, p1, q2, eq_false c3, p16.wrap, U_ref4_right, lw, le, Nat.zero_le, Nat.sub_zero, take_app3, set_get, take_set, List.length_set, List.map_set, reduceIte, reduceCtorEq, Nat.reduceEqDiff, Nat.reduceAdd, Nat.reduceLeDiff, Nat.reduceSub, Nat.reduceLT, Int.reduceEq, Int.reduceLT, Int.reduceLE, Int.reduceToNat, Int.reduceAdd, Int.reduceSub, Int.reduceMul, Int.reduceNeg, Int.cast_ofNat_Int]
set_option maxHeartbeats 4000000 in
theorem ref4_right_tree (name : List UInt8) (l_ : List V) (r : Bool) (T :
  At_ref4_right_1 name l_ 0 r) : R_ref4_right name l_ r := by
 intro S
 rw [call_code sp_ref4_right _ _ rfl]
 try simp only [U_ref4_right, lw, le, Nat.zero_le, Nat.sub_zero, take_app3, set_get, take_set, List.length_set, List.map_set, reduceIte, reduceCtorEq, Nat.reduceEqDiff, Nat.reduceAdd, Nat.reduceLeDiff, Nat.reduceSub, Nat.reduceLT, Int.reduceEq, Int.reduceLT, Int.reduceLE, Int.reduceToNat, Int.reduceAdd, Int.reduceSub, Int.reduceMul, Int.reduceNeg, Int.cast_ofNat_Int]
 refine T S _ _ ?_
 simp only [U_ref4_right, lw, le, Nat.zero_le, Nat.sub_zero, take_app3, set_get, take_set, List.length_set, List.map_set, reduceIte, reduceCtorEq, Nat.reduceEqDiff, Nat.reduceAdd, Nat.reduceLeDiff, Nat.reduceSub, Nat.reduceLT, Int.reduceEq, Int.reduceLT, Int.reduceLE, Int.reduceToNat, Int.reduceAdd, Int.reduceSub, Int.reduceMul, Int.reduceNeg, Int.cast_ofNat_Int]
theorem sp_ref4_added : SP 28 = some (.code sc_ref4_added) := SPof_code rfl Tryd.func28 comp_ref4_added
/-! doorkeeper/doorkeeperref4.added -/
def At_ref4_added_1 (l_ : List V) (i2 : Int) (i3 : Int) (i4 : Int) (s5 : List UInt8) (l6 : List V) (i7 : Int) (r : Got) : Prop := ∀ (S : Sto) (e : Nat → PV) (f : Fr), e 0 = .list 4 (encL l_) false ∧ e 2 = .ptr 0 2 0 ∧ e 3 = .ptr 0 3 0 ∧ e 4 = .int .i64 i2 ∧ f.box 2 = some [.int .i64 0, .int .i64 0, .str [], .sl 0 (.cell 2 3) 0 0 0 0 false, .int .i64 0] ∧ f.box 3 = some [.int .i64 i3, .int .i64 i4, .str s5, .list 4 (encL l6) false, .int .i64 i7] ∧ f.arr (.cell 2 3) = some ⟨4, [], false, 0⟩ → k_ref4_added_1 SP (E SP (.loop b_ref4_added_1) ⟨e, f :: S⟩) = .ok (.v (.agg [.int .i64 r.V.k, .int .i64 r.V.n, .str r.V.s, .list 4 (encL r.V.l) false, .int .i64 r.E])) S
set_option maxHeartbeats 4000000 in
theorem At_ref4_added_1_step (l_ : List V) (i2 : Int) (i3 : Int) (i4 : Int) (s5 : List UInt8) (l6 : List V) (i7 : Int) (r : Got) (T :
  ((i2 < ((l_.length : Nat) : Int)) →
  ((i7 = 0) →
   (0 ≤ i2) ∧
   ∃ (v8 : V), (l_[i2.toNat]? = some v8) ∧
   ∃ (r9 : Got), (R_ref4_reckon 19 i4 v8.n r9) ∧
   (I64 (i2 + 1)) ∧
   At_ref4_added_1 l_ (i2 + 1) r9.V.k r9.V.n r9.V.s r9.V.l r9.E r) ∧
  (¬ (i7 = 0) →
   (Got.mk (V.mk i3 i4 s5 l6) i7) = r)) ∧
 (¬ (i2 < ((l_.length : Nat) : Int)) →
  (Got.mk (V.mk i3 i4 s5 l6) i7) = r)) : At_ref4_added_1 l_ i2 i3 i4 s5 l6 i7 r := by
 intro S e f h
 unfold k_ref4_added_1
 rw [E_loop]
 by_cases c1 : i2 < ((l_.length : Nat) : Int)
 · replace T := T.1 c1
   by_cases c2 : i7 = 0
   · replace T := T.1 c2
     obtain ⟨p3, v8, q4, r9, q5, p6, T⟩ := T
     simp only [R_ref4_reckon, le] at q5
     try simp only [h, eq_true c1, eq_true c2, p3, q4, q5, p6.wrap, U_ref4_added, lw, le, Nat.zero_le, Nat.sub_zero, take_app3, set_get, take_set, List.length_set, List.map_set, reduceIte, reduceCtorEq, Nat.reduceEqDiff, Nat.reduceAdd, Nat.reduceLeDiff, Nat.reduceSub, Nat.reduceLT, Int.reduceEq, Int.reduceLT, Int.reduceLE, Int.reduceToNat, Int.reduceAdd, Int.reduceSub, Int.reduceMul, Int.reduceNeg, Int.cast_ofNat_Int]
     refine T S _ _ ?_
     simp only [h, eq_true c1, eq_true c2, p3, q4, q5, p6.wrap, U_ref4_added, lw, le, Nat.zero_le, Nat.sub_zero, take_app3, set_get, take_set, List.length_set, List.map_set, reduceIte, reduceCtorEq, Nat.reduceEqDiff, Nat.reduceAdd, Nat.reduceLeDiff, Nat.reduceSub, Nat.reduceLT, Int.reduceEq, Int.reduceLT, Int.reduceLE, Int.reduceToNat, Int.reduceAdd, Int.reduceSub, Int.reduceMul, Int.reduceNeg, Int.cast_ofNat_Int]
   · replace T := T.2 c2
     obtain rfl := T
     simp only [h, eq_true c1, eq_false c2, U_ref4_added, lw, le, Nat.zero_le, Nat.sub_zero, take_app3, set_get, take_set, List.length_set, List.map_set, reduceIte, reduceCtorEq, Nat.reduceEqDiff, Nat.reduceAdd, Nat.reduceLeDiff, Nat.reduceSub, Nat.reduceLT, Int.reduceEq, Int.reduceLT, Int.reduceLE, Int.reduceToNat, Int.reduceAdd, Int.reduceSub, Int.reduceMul, Int.reduceNeg, Int.cast_ofNat_Int]
 · replace T := T.2 c1
   obtain rfl := T
   simp only [h, eq_false c1, U_ref4_added, lw, le, Nat.zero_le, Nat.sub_zero, take_app3, set_get, take_set, List.length_set, List.map_set, reduceIte, reduceCtorEq, Nat.reduceEqDiff, Nat.reduceAdd, Nat.reduceLeDiff, Nat.reduceSub, Nat.reduceLT, Int.reduceEq, Int.reduceLT, Int.reduceLE, Int.reduceToNat, Int.reduceAdd, Int.reduceSub, Int.reduceMul, Int.reduceNeg, Int.cast_ofNat_Int]
set_option maxHeartbeats 4000000 in
theorem ref4_added_tree (l_ : List V) (r : Got) (T :
  ∃ (r1 : Got), (R_ref4_num 0 r1) ∧
 At_ref4_added_1 l_ 0 r1.V.k r1.V.n r1.V.s r1.V.l r1.E r) : R_ref4_added l_ r := by
 intro S
 rw [call_code sp_ref4_added _ _ rfl]
 obtain ⟨r1, q1, T⟩ := T
 simp only [R_ref4_num, le] at q1
 try simp only [q1, U_ref4_added, lw, le, Nat.zero_le, Nat.sub_zero, take_app3, set_get, take_set, List.length_set, List.map_set, reduceIte, reduceCtorEq, Nat.reduceEqDiff, Nat.reduceAdd, Nat.reduceLeDiff, Nat.reduceSub, Nat.reduceLT, Int.reduceEq, Int.reduceLT, Int.reduceLE, Int.reduceToNat, Int.reduceAdd, Int.reduceSub, Int.reduceMul, Int.reduceNeg, Int.cast_ofNat_Int]
 refine T S _ _ ?_
 simp only [q1, U_ref4_added, lw, le, Nat.zero_le, Nat.sub_zero, take_app3, set_get, take_set, List.length_set, List.map_set, reduceIte, reduceCtorEq, Nat.reduceEqDiff, Nat.reduceAdd, Nat.reduceLeDiff, Nat.reduceSub, Nat.reduceLT, Int.reduceEq, Int.reduceLT, Int.reduceLE, Int.reduceToNat, Int.reduceAdd, Int.reduceSub, Int.reduceMul, Int.reduceNeg, Int.cast_ofNat_Int]
theorem sp_ref4_edge : SP 27 = some (.code sc_ref4_edge) := SPof_code rfl Tryd.func27 comp_ref4_edge
/-! doorkeeper/doorkeeperref4.edge -/
def At_ref4_edge_1 (least : Bool) (l_ : List V) (i2 : Int) (i3 : Int) (r : Got) : Prop := ∀ (S : Sto) (e : Nat → PV) (f : Fr), e 0 = .bool least ∧ e 1 = .list 4 (encL l_) false ∧ e 4 = .ptr 0 4 0 ∧ e 5 = .int .i64 i2 ∧ e 6 = .int .i64 i3 ∧ f.box 4 = some [.int .i64 0, .int .i64 0, .str [], .sl 0 (.cell 4 3) 0 0 0 0 false, .int .i64 0] ∧ f.arr (.cell 4 3) = some ⟨4, [], false, 0⟩ → k_ref4_edge_1 SP (E SP (.loop b_ref4_edge_1) ⟨e, f :: S⟩) = .ok (.v (.agg [.int .i64 r.V.k, .int .i64 r.V.n, .str r.V.s, .list 4 (encL r.V.l) false, .int .i64 r.E])) S
set_option maxHeartbeats 4000000 in
theorem At_ref4_edge_1_step (least : Bool) (l_ : List V) (i2 : Int) (i3 : Int) (r : Got) (T :
  ((i3 < ((l_.length : Nat) : Int)) →
  ((least = true) →
   (0 ≤ i3) ∧
   ∃ (v4 : V), (l_[i3.toNat]? = some v4) ∧
   (I64 (i3 + 1)) ∧
   At_ref4_edge_1 least l_ (if v4.n < i2 then v4.n else i2) (i3 + 1) r) ∧
  (¬ (least = true) →
   (0 ≤ i3) ∧
   ∃ (v5 : V), (l_[i3.toNat]? = some v5) ∧
   (I64 (i3 + 1)) ∧
   At_ref4_edge_1 least l_ (if i2 < v5.n then v5.n else i2) (i3 + 1) r)) ∧
 (¬ (i3 < ((l_.length : Nat) : Int)) →
  ∃ (r6 : Got), (R_ref4_num i2 r6) ∧
  r6 = r)) : At_ref4_edge_1 least l_ i2 i3 r := by
 intro S e f h
 unfold k_ref4_edge_1
 rw [E_loop]
 by_cases c1 : i3 < ((l_.length : Nat) : Int)
 · replace T := T.1 c1
   by_cases c2 : least = true
   · replace T := T.1 c2
     obtain ⟨p3, v4, q4, p5, T⟩ := T
     try simp only [h, eq_true c1, c2, p3, q4, p5.wrap, U_ref4_edge, lw, le, Nat.zero_le, Nat.sub_zero, take_app3, set_get, take_set, List.length_set, List.map_set, reduceIte, reduceCtorEq, Nat.reduceEqDiff, Nat.reduceAdd, Nat.reduceLeDiff, Nat.reduceSub, Nat.reduceLT, Int.reduceEq, Int.reduceLT, Int.reduceLE, Int.reduceToNat, Int.reduceAdd, Int.reduceSub, Int.reduceMul, Int.reduceNeg, Int.cast_ofNat_Int]
     refine T S _ _ ?_
     simp only [h, eq_true c1, c2, p3, q4, p5.wrap, U_ref4_edge, lw, le, Nat.zero_le, Nat.sub_zero, take_app3, set_get, take_set, List.length_set, List.map_set, reduceIte, reduceCtorEq, Nat.reduceEqDiff, Nat.reduceAdd, Nat.reduceLeDiff, Nat.reduceSub, Nat.reduceLT, Int.reduceEq, Int.reduceLT, Int.reduceLE, Int.reduceToNat, Int.reduceAdd, Int.reduceSub, Int.reduceMul, Int.reduceNeg, Int.cast_ofNat_Int]
   · replace T := T.2 c2
     replace c2 := Bool.eq_false_iff.2 c2
     obtain ⟨p6, v5, q7, p8, T⟩ := T
     try simp only [h, eq_true c1, c2, p6, q7, p8.wrap, U_ref4_edge, lw, le, Nat.zero_le, Nat.sub_zero, take_app3, set_get, take_set, List.length_set, List.map_set, reduceIte, reduceCtorEq, Nat.reduceEqDiff, Nat.reduceAdd, Nat.reduceLeDiff, Nat.reduceSub, Nat.reduceLT, Int.reduceEq, Int.reduceLT, Int.reduceLE, Int.reduceToNat, Int.reduceAdd, Int.reduceSub, Int.reduceMul, Int.reduceNeg, Int.cast_ofNat_Int]
     refine T S _ _ ?_
     simp only [h, eq_true c1, c2, p6, q7, p8.wrap, U_ref4_edge, lw, le, Nat.zero_le, Nat.sub_zero, take_app3, set_get, take_set, List.length_set, List.map_set, reduceIte, reduceCtorEq, Nat.reduceEqDiff, Nat.reduceAdd, Nat.reduceLeDiff, Nat.reduceSub, Nat.reduceLT, Int.reduceEq, Int.reduceLT, Int.reduceLE, Int.reduceToNat, Int.reduceAdd, Int.reduceSub, Int.reduceMul, Int.reduceNeg, Int.cast_ofNat_Int]
 · replace T := T.2 c1
   obtain ⟨r6, q9, rfl⟩ := T
   simp only [R_ref4_num, le] at q9
   simp only [h, eq_false c1, q9, U_ref4_edge, lw, le, Nat.zero_le, Nat.sub_zero, take_app3, set_get, take_set, List.length_set, List.map_set, reduceIte, reduceCtorEq, Nat.reduceEqDiff, Nat.reduceAdd, Nat.reduceLeDiff, Nat.reduceSub, Nat.reduceLT, Int.reduceEq, Int.reduceLT, Int.reduceLE, Int.reduceToNat, Int.reduceAdd, Int.reduceSub, Int.reduceMul, Int.reduceNeg, Int.cast_ofNat_Int]
set_option maxHeartbeats 4000000 in
theorem ref4_edge_tree (least : Bool) (l_ : List V) (r : Got) (T :
  ∃ (v1 : V), (l_[0]? = some v1) ∧
 At_ref4_edge_1 least l_ v1.n 1 r) : R_ref4_edge least l_ r := by
 intro S
 rw [call_code sp_ref4_edge _ _ rfl]
 obtain ⟨v1, q1, T⟩ := T
 try simp only [q1, U_ref4_edge, lw, le, Nat.zero_le, Nat.sub_zero, take_app3, set_get, take_set, List.length_set, List.map_set, reduceIte, reduceCtorEq, Nat.reduceEqDiff, Nat.reduceAdd, Nat.reduceLeDiff, Nat.reduceSub, Nat.reduceLT, Int.reduceEq, Int.reduceLT, Int.reduceLE, Int.reduceToNat, Int.reduceAdd, Int.reduceSub, Int.reduceMul, Int.reduceNeg, Int.cast_ofNat_Int]
 refine T S _ _ ?_
 simp only [q1, U_ref4_edge, lw, le, Nat.zero_le, Nat.sub_zero, take_app3, set_get, take_set, List.length_set, List.map_set, reduceIte, reduceCtorEq, Nat.reduceEqDiff, Nat.reduceAdd, Nat.reduceLeDiff, Nat.reduceSub, Nat.reduceLT, Int.reduceEq, Int.reduceLT, Int.reduceLE, Int.reduceToNat, Int.reduceAdd, Int.reduceSub, Int.reduceMul, Int.reduceNeg, Int.cast_ofNat_Int]
theorem sp_ref4_joined : SP 31 = some (.code sc_ref4_joined) := SPof_code rfl Tryd.func31 comp_ref4_joined
/-! doorkeeper/doorkeeperref4.joined -/
def At_ref4_joined_1 (by_ : List UInt8) (l_ : List V) (i1 : Int) (l2 : List (List UInt8)) (r : Got) : Prop := ∀ (S : Sto) (e : Nat → PV) (f : Fr), e 0 = .str by_ ∧ e 1 = .list 4 (encL l_) false ∧ e 4 = .ptr 0 4 0 ∧ e 5 = .sl 0 (.slot 5) 0 l2.length l2.length 0 false ∧ e 6 = .int .i64 i1 ∧ f.box 4 = some [.int .i64 0, .int .i64 0, .str [], .sl 0 (.cell 4 3) 0 0 0 0 false, .int .i64 0] ∧ f.arr (.cell 4 3) = some ⟨4, [], false, 0⟩ ∧ f.arr (.slot 5) = some ⟨1, l2.map eS, false, 0⟩ → k_ref4_joined_1 SP (E SP (.loop b_ref4_joined_1) ⟨e, f :: S⟩) = .ok (.v (.agg [.int .i64 r.V.k, .int .i64 r.V.n, .str r.V.s, .list 4 (encL r.V.l) false, .int .i64 r.E])) S
set_option maxHeartbeats 4000000 in
theorem At_ref4_joined_1_step (by_ : List UInt8) (l_ : List V) (i1 : Int) (l2 : List (List UInt8)) (r : Got) (T :
  ((i1 < ((l_.length : Nat) : Int)) →
  ((0 < i1) →
   (bigRow (l2.length + 1) 16) ∧
   (0 ≤ i1) ∧
   ∃ (v3 : V), (l_[i1.toNat]? = some v3) ∧
   (bigRow (l2.length + 2) 16) ∧
   (I64 (i1 + 1)) ∧
   At_ref4_joined_1 by_ l_ (i1 + 1) (l2 ++ [by_, v3.s]) r) ∧
  (¬ (0 < i1) →
   (0 ≤ i1) ∧
   ∃ (v4 : V), (l_[i1.toNat]? = some v4) ∧
   (bigRow (l2.length + 1) 16) ∧
   (I64 (i1 + 1)) ∧
   At_ref4_joined_1 by_ l_ (i1 + 1) (l2 ++ [v4.s]) r)) ∧
 (¬ (i1 < ((l_.length : Nat) : Int)) →
  ∃ (r5 : Got), (R_ref4_Join l2 r5) ∧
  r5 = r)) : At_ref4_joined_1 by_ l_ i1 l2 r := by
 intro S e f h
 unfold k_ref4_joined_1
 rw [E_loop]
 by_cases c1 : i1 < ((l_.length : Nat) : Int)
 · replace T := T.1 c1
   by_cases c2 : 0 < i1
   · replace T := T.1 c2
     obtain ⟨p3, p4, v3, q5, p6, p7, T⟩ := T
     simp only [bigRow] at p3
     simp only [bigRow] at p6
     try simp only [h, eq_true c1, eq_true c2, p3, p4, q5, p6, p7.wrap, U_ref4_joined, lw, le, Nat.zero_le, Nat.sub_zero, take_app3, set_get, take_set, List.length_set, List.map_set, reduceIte, reduceCtorEq, Nat.reduceEqDiff, Nat.reduceAdd, Nat.reduceLeDiff, Nat.reduceSub, Nat.reduceLT, Int.reduceEq, Int.reduceLT, Int.reduceLE, Int.reduceToNat, Int.reduceAdd, Int.reduceSub, Int.reduceMul, Int.reduceNeg, Int.cast_ofNat_Int]
     refine T S _ _ ?_
     simp only [h, eq_true c1, eq_true c2, p3, p4, q5, p6, p7.wrap, U_ref4_joined, lw, le, Nat.zero_le, Nat.sub_zero, take_app3, set_get, take_set, List.length_set, List.map_set, reduceIte, reduceCtorEq, Nat.reduceEqDiff, Nat.reduceAdd, Nat.reduceLeDiff, Nat.reduceSub, Nat.reduceLT, Int.reduceEq, Int.reduceLT, Int.reduceLE, Int.reduceToNat, Int.reduceAdd, Int.reduceSub, Int.reduceMul, Int.reduceNeg, Int.cast_ofNat_Int]
   · replace T := T.2 c2
     obtain ⟨p8, v4, q9, p10, p11, T⟩ := T
     simp only [bigRow] at p10
     try simp only [h, eq_true c1, eq_false c2, p8, q9, p10, p11.wrap, U_ref4_joined, lw, le, Nat.zero_le, Nat.sub_zero, take_app3, set_get, take_set, List.length_set, List.map_set, reduceIte, reduceCtorEq, Nat.reduceEqDiff, Nat.reduceAdd, Nat.reduceLeDiff, Nat.reduceSub, Nat.reduceLT, Int.reduceEq, Int.reduceLT, Int.reduceLE, Int.reduceToNat, Int.reduceAdd, Int.reduceSub, Int.reduceMul, Int.reduceNeg, Int.cast_ofNat_Int]
     refine T S _ _ ?_
     simp only [h, eq_true c1, eq_false c2, p8, q9, p10, p11.wrap, U_ref4_joined, lw, le, Nat.zero_le, Nat.sub_zero, take_app3, set_get, take_set, List.length_set, List.map_set, reduceIte, reduceCtorEq, Nat.reduceEqDiff, Nat.reduceAdd, Nat.reduceLeDiff, Nat.reduceSub, Nat.reduceLT, Int.reduceEq, Int.reduceLT, Int.reduceLE, Int.reduceToNat, Int.reduceAdd, Int.reduceSub, Int.reduceMul, Int.reduceNeg, Int.cast_ofNat_Int]
 · replace T := T.2 c1
   obtain ⟨r5, q12, rfl⟩ := T
   simp only [R_ref4_Join, le] at q12
   simp only [h, eq_false c1, q12, U_ref4_joined, lw, le, Nat.zero_le, Nat.sub_zero, take_app3, set_get, take_set, List.length_set, List.map_set, reduceIte, reduceCtorEq, Nat.reduceEqDiff, Nat.reduceAdd, Nat.reduceLeDiff, Nat.reduceSub, Nat.reduceLT, Int.reduceEq, Int.reduceLT, Int.reduceLE, Int.reduceToNat, Int.reduceAdd, Int.reduceSub, Int.reduceMul, Int.reduceNeg, Int.cast_ofNat_Int]
set_option maxHeartbeats 4000000 in
theorem ref4_joined_tree (by_ : List UInt8) (l_ : List V) (r : Got) (T :
  At_ref4_joined_1 by_ l_ 0 [] r) : R_ref4_joined by_ l_ r := by
 intro S
 rw [call_code sp_ref4_joined _ _ rfl]
 try simp only [U_ref4_joined, lw, le, Nat.zero_le, Nat.sub_zero, take_app3, set_get, take_set, List.length_set, List.map_set, reduceIte, reduceCtorEq, Nat.reduceEqDiff, Nat.reduceAdd, Nat.reduceLeDiff, Nat.reduceSub, Nat.reduceLT, Int.reduceEq, Int.reduceLT, Int.reduceLE, Int.reduceToNat, Int.reduceAdd, Int.reduceSub, Int.reduceMul, Int.reduceNeg, Int.cast_ofNat_Int]
 refine T S _ _ ?_
 simp only [U_ref4_joined, lw, le, Nat.zero_le, Nat.sub_zero, take_app3, set_get, take_set, List.length_set, List.map_set, reduceIte, reduceCtorEq, Nat.reduceEqDiff, Nat.reduceAdd, Nat.reduceLeDiff, Nat.reduceSub, Nat.reduceLT, Int.reduceEq, Int.reduceLT, Int.reduceLE, Int.reduceToNat, Int.reduceAdd, Int.reduceSub, Int.reduceMul, Int.reduceNeg, Int.cast_ofNat_Int]
theorem sp_ref4_counted : SP 32 = some (.code sc_ref4_counted) := SPof_code rfl Tryd.func32 comp_ref4_counted
/-! doorkeeper/doorkeeperref4.counted -/
def At_ref4_counted_1 (n : Int) (i3 : Int) (l4 : List V) (r : Got) : Prop := ∀ (S : Sto) (e : Nat → PV) (f : Fr), e 0 = .int .i64 n ∧ e 2 = .ptr 0 2 0 ∧ e 3 = .sl 0 (.slot 3) 0 l4.length l4.length 0 false ∧ e 4 = .int .i64 i3 ∧ f.box 2 = some [.int .i64 0, .int .i64 0, .str [], .sl 0 (.cell 2 3) 0 0 0 0 false, .int .i64 0] ∧ f.arr (.cell 2 3) = some ⟨4, [], false, 0⟩ ∧ f.arr (.slot 3) = some ⟨4, encL l4, false, 0⟩ → k_ref4_counted_1 SP (E SP (.loop b_ref4_counted_1) ⟨e, f :: S⟩) = .ok (.v (.agg [.int .i64 r.V.k, .int .i64 r.V.n, .str r.V.s, .list 4 (encL r.V.l) false, .int .i64 r.E])) S
set_option maxHeartbeats 4000000 in
theorem At_ref4_counted_1_step (n : Int) (i3 : Int) (l4 : List V) (r : Got) (T :
  ((i3 < n) →
  ∃ (r5 : Got), (R_ref4_num i3 r5) ∧
  (bigRow (l4.length + 1) 56) ∧
  (I64 (i3 + 1)) ∧
  At_ref4_counted_1 n (i3 + 1) (l4 ++ [r5.V]) r) ∧
 (¬ (i3 < n) →
  ∃ (r6 : Got), (R_ref4_List l4 r6) ∧
  r6 = r)) : At_ref4_counted_1 n i3 l4 r := by
 intro S e f h
 unfold k_ref4_counted_1
 rw [E_loop]
 by_cases c1 : i3 < n
 · replace T := T.1 c1
   obtain ⟨r5, q2, p3, p4, T⟩ := T
   simp only [R_ref4_num, le] at q2
   simp only [bigRow] at p3
   try simp only [h, eq_true c1, q2, p3, p4.wrap, U_ref4_counted, lw, le, Nat.zero_le, Nat.sub_zero, take_app3, set_get, take_set, List.length_set, List.map_set, reduceIte, reduceCtorEq, Nat.reduceEqDiff, Nat.reduceAdd, Nat.reduceLeDiff, Nat.reduceSub, Nat.reduceLT, Int.reduceEq, Int.reduceLT, Int.reduceLE, Int.reduceToNat, Int.reduceAdd, Int.reduceSub, Int.reduceMul, Int.reduceNeg, Int.cast_ofNat_Int]
   refine T S _ _ ?_
   simp only [h, eq_true c1, q2, p3, p4.wrap, U_ref4_counted, lw, le, Nat.zero_le, Nat.sub_zero, take_app3, set_get, take_set, List.length_set, List.map_set, reduceIte, reduceCtorEq, Nat.reduceEqDiff, Nat.reduceAdd, Nat.reduceLeDiff, Nat.reduceSub, Nat.reduceLT, Int.reduceEq, Int.reduceLT, Int.reduceLE, Int.reduceToNat, Int.reduceAdd, Int.reduceSub, Int.reduceMul, Int.reduceNeg, Int.cast_ofNat_Int]
 · replace T := T.2 c1
   obtain ⟨r6, q5, rfl⟩ := T
   simp only [R_ref4_List, le] at q5
   simp only [h, eq_false c1, q5, U_ref4_counted, lw, le, Nat.zero_le, Nat.sub_zero, take_app3, set_get, take_set, List.length_set, List.map_set, reduceIte, reduceCtorEq, Nat.reduceEqDiff, Nat.reduceAdd, Nat.reduceLeDiff, Nat.reduceSub, Nat.reduceLT, Int.reduceEq, Int.reduceLT, Int.reduceLE, Int.reduceToNat, Int.reduceAdd, Int.reduceSub, Int.reduceMul, Int.reduceNeg, Int.cast_ofNat_Int]
set_option maxHeartbeats 4000000 in
theorem ref4_counted_tree (n : Int) (r : Got) (T :
  ((n < 0) →
  ∃ (r1 : Got), (R_ref4_bad 1 r1) ∧
  r1 = r) ∧
 (¬ (n < 0) →
  ((64 < n) →
   ∃ (r2 : Got), (R_ref4_bad 4 r2) ∧
   r2 = r) ∧
  (¬ (64 < n) →
   At_ref4_counted_1 n 0 [] r))) : R_ref4_counted n r := by
 intro S
 rw [call_code sp_ref4_counted _ _ rfl]
 by_cases c1 : n < 0
 · replace T := T.1 c1
   obtain ⟨r1, q2, rfl⟩ := T
   simp only [R_ref4_bad, le] at q2
   simp only [eq_true c1, q2, U_ref4_counted, lw, le, Nat.zero_le, Nat.sub_zero, take_app3, set_get, take_set, List.length_set, List.map_set, reduceIte, reduceCtorEq, Nat.reduceEqDiff, Nat.reduceAdd, Nat.reduceLeDiff, Nat.reduceSub, Nat.reduceLT, Int.reduceEq, Int.reduceLT, Int.reduceLE, Int.reduceToNat, Int.reduceAdd, Int.reduceSub, Int.reduceMul, Int.reduceNeg, Int.cast_ofNat_Int]
 · replace T := T.2 c1
   by_cases c3 : 64 < n
   · replace T := T.1 c3
     obtain ⟨r2, q4, rfl⟩ := T
     simp only [R_ref4_bad, le] at q4
     simp only [eq_false c1, eq_true c3, q4, U_ref4_counted, lw, le, Nat.zero_le, Nat.sub_zero, take_app3, set_get, take_set, List.length_set, List.map_set, reduceIte, reduceCtorEq, Nat.reduceEqDiff, Nat.reduceAdd, Nat.reduceLeDiff, Nat.reduceSub, Nat.reduceLT, Int.reduceEq, Int.reduceLT, Int.reduceLE, Int.reduceToNat, Int.reduceAdd, Int.reduceSub, Int.reduceMul, Int.reduceNeg, Int.cast_ofNat_Int]
   · replace T := T.2 c3
     try simp only [eq_false c1, eq_false c3, U_ref4_counted, lw, le, Nat.zero_le, Nat.sub_zero, take_app3, set_get, take_set, List.length_set, List.map_set, reduceIte, reduceCtorEq, Nat.reduceEqDiff, Nat.reduceAdd, Nat.reduceLeDiff, Nat.reduceSub, Nat.reduceLT, Int.reduceEq, Int.reduceLT, Int.reduceLE, Int.reduceToNat, Int.reduceAdd, Int.reduceSub, Int.reduceMul, Int.reduceNeg, Int.cast_ofNat_Int]
     refine T S _ _ ?_
     simp only [eq_false c1, eq_false c3, U_ref4_counted, lw, le, Nat.zero_le, Nat.sub_zero, take_app3, set_get, take_set, List.length_set, List.map_set, reduceIte, reduceCtorEq, Nat.reduceEqDiff, Nat.reduceAdd, Nat.reduceLeDiff, Nat.reduceSub, Nat.reduceLT, Int.reduceEq, Int.reduceLT, Int.reduceLE, Int.reduceToNat, Int.reduceAdd, Int.reduceSub, Int.reduceMul, Int.reduceNeg, Int.cast_ofNat_Int]
theorem sp_ref4_List : SP 30 = some (.code sc_ref4_List) := SPof_code rfl Tryd.func30 comp_ref4_List
/-! doorkeeper/doorkeeperref4.List -/
set_option maxHeartbeats 4000000 in
theorem ref4_List_tree (l_ : List V) (r : Got) (T :
  (bigRow (l_.length) 56) ∧
 ((64 < ((l_.length : Nat) : Int)) →
  ∃ (r1 : Got), (R_ref4_bad 4 r1) ∧
  r1 = r) ∧
 (¬ (64 < ((l_.length : Nat) : Int)) →
  ∃ (r2 : Int), (R_ref4_deep (V.mk 4 0 [] l_) 64 r2) ∧
  ((64 < r2) →
   ∃ (r3 : Got), (R_ref4_bad 4 r3) ∧
   r3 = r) ∧
  (¬ (64 < r2) →
   (Got.mk (V.mk 4 0 [] l_) 0) = r))) : R_ref4_List l_ r := by
 intro S
 rw [call_code sp_ref4_List _ _ rfl]
 obtain ⟨p1, T⟩ := T
 simp only [bigRow] at p1
 by_cases c2 : 64 < ((l_.length : Nat) : Int)
 · replace T := T.1 c2
   obtain ⟨r1, q3, rfl⟩ := T
   simp only [R_ref4_bad, le] at q3
   simp only [p1, eq_true c2, q3, U_ref4_List, lw, le, Nat.zero_le, Nat.sub_zero, take_app3, set_get, take_set, List.length_set, List.map_set, reduceIte, reduceCtorEq, Nat.reduceEqDiff, Nat.reduceAdd, Nat.reduceLeDiff, Nat.reduceSub, Nat.reduceLT, Int.reduceEq, Int.reduceLT, Int.reduceLE, Int.reduceToNat, Int.reduceAdd, Int.reduceSub, Int.reduceMul, Int.reduceNeg, Int.cast_ofNat_Int]
 · replace T := T.2 c2
   obtain ⟨r2, q4, T⟩ := T
   simp only [R_ref4_deep, le] at q4
   by_cases c5 : 64 < r2
   · replace T := T.1 c5
     obtain ⟨r3, q6, rfl⟩ := T
     simp only [R_ref4_bad, le] at q6
     simp only [p1, eq_false c2, q4, eq_true c5, q6, U_ref4_List, lw, le, Nat.zero_le, Nat.sub_zero, take_app3, set_get, take_set, List.length_set, List.map_set, reduceIte, reduceCtorEq, Nat.reduceEqDiff, Nat.reduceAdd, Nat.reduceLeDiff, Nat.reduceSub, Nat.reduceLT, Int.reduceEq, Int.reduceLT, Int.reduceLE, Int.reduceToNat, Int.reduceAdd, Int.reduceSub, Int.reduceMul, Int.reduceNeg, Int.cast_ofNat_Int]
   · replace T := T.2 c5
     obtain rfl := T
     simp only [p1, eq_false c2, q4, eq_false c5, U_ref4_List, lw, le, Nat.zero_le, Nat.sub_zero, take_app3, set_get, take_set, List.length_set, List.map_set, reduceIte, reduceCtorEq, Nat.reduceEqDiff, Nat.reduceAdd, Nat.reduceLeDiff, Nat.reduceSub, Nat.reduceLT, Int.reduceEq, Int.reduceLT, Int.reduceLE, Int.reduceToNat, Int.reduceAdd, Int.reduceSub, Int.reduceMul, Int.reduceNeg, Int.cast_ofNat_Int]
theorem sp_ref4_Join : SP 36 = some (.code sc_ref4_Join) := SPof_code rfl Tryd.func36 comp_ref4_Join
/-! doorkeeper/doorkeeperref4.Join -/
def At_ref4_Join_1 (l_ : List (List UInt8)) (s1 : List UInt8) (i2 : Int) (r : Got) : Prop := ∀ (S : Sto) (e : Nat → PV) (f : Fr), e 0 = .list 1 (l_.map eS) false ∧ e 2 = .ptr 0 2 0 ∧ e 3 = .str s1 ∧ e 4 = .int .i64 i2 ∧ f.box 2 = some [.int .i64 0, .int .i64 0, .str [], .sl 0 (.cell 2 3) 0 0 0 0 false, .int .i64 0] ∧ f.arr (.cell 2 3) = some ⟨4, [], false, 0⟩ → k_ref4_Join_1 SP (E SP (.loop b_ref4_Join_1) ⟨e, f :: S⟩) = .ok (.v (.agg [.int .i64 r.V.k, .int .i64 r.V.n, .str r.V.s, .list 4 (encL r.V.l) false, .int .i64 r.E])) S
set_option maxHeartbeats 4000000 in
theorem At_ref4_Join_1_step (l_ : List (List UInt8)) (s1 : List UInt8) (i2 : Int) (r : Got) (T :
  ((i2 < ((l_.length : Nat) : Int)) →
  ((((s1.length : Nat) : Int) ≤ 400) →
   (0 ≤ i2) ∧
   ∃ (v3 : List UInt8), (l_[i2.toNat]? = some v3) ∧
   (s1.length + v3.length ≤ maxInt) ∧
   (I64 (i2 + 1)) ∧
   At_ref4_Join_1 l_ (s1 ++ v3) (i2 + 1) r) ∧
  (¬ (((s1.length : Nat) : Int) ≤ 400) →
   ((400 < ((s1.length : Nat) : Int)) →
    ∃ (r4 : Got), (R_ref4_bad 4 r4) ∧
    r4 = r) ∧
   (¬ (400 < ((s1.length : Nat) : Int)) →
    (Got.mk (V.mk 2 0 s1 []) 0) = r))) ∧
 (¬ (i2 < ((l_.length : Nat) : Int)) →
  ((400 < ((s1.length : Nat) : Int)) →
   ∃ (r5 : Got), (R_ref4_bad 4 r5) ∧
   r5 = r) ∧
  (¬ (400 < ((s1.length : Nat) : Int)) →
   (Got.mk (V.mk 2 0 s1 []) 0) = r))) : At_ref4_Join_1 l_ s1 i2 r := by
 intro S e f h
 unfold k_ref4_Join_1
 rw [E_loop]
 by_cases c1 : i2 < ((l_.length : Nat) : Int)
 · replace T := T.1 c1
   by_cases c2 : ((s1.length : Nat) : Int) ≤ 400
   · replace T := T.1 c2
     obtain ⟨p3, v3, q4, p5, p6, T⟩ := T
     try simp only [h, eq_true c1, eq_true c2, p3, q4, p5, p6.wrap, U_ref4_Join, lw, le, Nat.zero_le, Nat.sub_zero, take_app3, set_get, take_set, List.length_set, List.map_set, reduceIte, reduceCtorEq, Nat.reduceEqDiff, Nat.reduceAdd, Nat.reduceLeDiff, Nat.reduceSub, Nat.reduceLT, Int.reduceEq, Int.reduceLT, Int.reduceLE, Int.reduceToNat, Int.reduceAdd, Int.reduceSub, Int.reduceMul, Int.reduceNeg, Int.cast_ofNat_Int]
     refine T S _ _ ?_
     simp only [h, eq_true c1, eq_true c2, p3, q4, p5, p6.wrap, U_ref4_Join, lw, le, Nat.zero_le, Nat.sub_zero, take_app3, set_get, take_set, List.length_set, List.map_set, reduceIte, reduceCtorEq, Nat.reduceEqDiff, Nat.reduceAdd, Nat.reduceLeDiff, Nat.reduceSub, Nat.reduceLT, Int.reduceEq, Int.reduceLT, Int.reduceLE, Int.reduceToNat, Int.reduceAdd, Int.reduceSub, Int.reduceMul, Int.reduceNeg, Int.cast_ofNat_Int]
   · replace T := T.2 c2
     by_cases c7 : 400 < ((s1.length : Nat) : Int)
     · replace T := T.1 c7
       obtain ⟨r4, q8, rfl⟩ := T
       simp only [R_ref4_bad, le] at q8
       simp only [h, eq_true c1, eq_false c2, eq_true c7, q8, U_ref4_Join, lw, le, Nat.zero_le, Nat.sub_zero, take_app3, set_get, take_set, List.length_set, List.map_set, reduceIte, reduceCtorEq, Nat.reduceEqDiff, Nat.reduceAdd, Nat.reduceLeDiff, Nat.reduceSub, Nat.reduceLT, Int.reduceEq, Int.reduceLT, Int.reduceLE, Int.reduceToNat, Int.reduceAdd, Int.reduceSub, Int.reduceMul, Int.reduceNeg, Int.cast_ofNat_Int]
     · replace T := T.2 c7
       obtain rfl := T
       simp only [h, eq_true c1, eq_false c2, eq_false c7, U_ref4_Join, lw, le, Nat.zero_le, Nat.sub_zero, take_app3, set_get, take_set, List.length_set, List.map_set, reduceIte, reduceCtorEq, Nat.reduceEqDiff, Nat.reduceAdd, Nat.reduceLeDiff, Nat.reduceSub, Nat.reduceLT, Int.reduceEq, Int.reduceLT, Int.reduceLE, Int.reduceToNat, Int.reduceAdd, Int.reduceSub, Int.reduceMul, Int.reduceNeg, Int.cast_ofNat_Int]
 · replace T := T.2 c1
   by_cases c9 : 400 < ((s1.length : Nat) : Int)
   · replace T := T.1 c9
     obtain ⟨r5, q10, rfl⟩ := T
     simp only [R_ref4_bad, le] at q10
     simp only [h, eq_false c1, eq_true c9, q10, U_ref4_Join, lw, le, Nat.zero_le, Nat.sub_zero, take_app3, set_get, take_set, List.length_set, List.map_set, reduceIte, reduceCtorEq, Nat.reduceEqDiff, Nat.reduceAdd, Nat.reduceLeDiff, Nat.reduceSub, Nat.reduceLT, Int.reduceEq, Int.reduceLT, Int.reduceLE, Int.reduceToNat, Int.reduceAdd, Int.reduceSub, Int.reduceMul, Int.reduceNeg, Int.cast_ofNat_Int]
   · replace T := T.2 c9
     obtain rfl := T
     simp only [h, eq_false c1, eq_false c9, U_ref4_Join, lw, le, Nat.zero_le, Nat.sub_zero, take_app3, set_get, take_set, List.length_set, List.map_set, reduceIte, reduceCtorEq, Nat.reduceEqDiff, Nat.reduceAdd, Nat.reduceLeDiff, Nat.reduceSub, Nat.reduceLT, Int.reduceEq, Int.reduceLT, Int.reduceLE, Int.reduceToNat, Int.reduceAdd, Int.reduceSub, Int.reduceMul, Int.reduceNeg, Int.cast_ofNat_Int]
set_option maxHeartbeats 4000000 in
theorem ref4_Join_tree (l_ : List (List UInt8)) (r : Got) (T :
  At_ref4_Join_1 l_ [] 0 r) : R_ref4_Join l_ r := by
 intro S
 rw [call_code sp_ref4_Join _ _ rfl]
 try simp only [U_ref4_Join, lw, le, Nat.zero_le, Nat.sub_zero, take_app3, set_get, take_set, List.length_set, List.map_set, reduceIte, reduceCtorEq, Nat.reduceEqDiff, Nat.reduceAdd, Nat.reduceLeDiff, Nat.reduceSub, Nat.reduceLT, Int.reduceEq, Int.reduceLT, Int.reduceLE, Int.reduceToNat, Int.reduceAdd, Int.reduceSub, Int.reduceMul, Int.reduceNeg, Int.cast_ofNat_Int]
 refine T S _ _ ?_
 simp only [U_ref4_Join, lw, le, Nat.zero_le, Nat.sub_zero, take_app3, set_get, take_set, List.length_set, List.map_set, reduceIte, reduceCtorEq, Nat.reduceEqDiff, Nat.reduceAdd, Nat.reduceLeDiff, Nat.reduceSub, Nat.reduceLT, Int.reduceEq, Int.reduceLT, Int.reduceLE, Int.reduceToNat, Int.reduceAdd, Int.reduceSub, Int.reduceMul, Int.reduceNeg, Int.cast_ofNat_Int]
theorem sp_ref4_Call : SP 14 = some (.code sc_ref4_Call) := SPof_code rfl Tryd.func14 comp_ref4_Call
/-! doorkeeper/doorkeeperref4.Call -/
def At_ref4_Call_1 (l_ : List V) (i13 : Int) (l14 : List V) (r : Got) : Prop := ∀ (S : Sto) (e : Nat → PV) (f : Fr), e 1 = .list 4 (encL l_) false ∧ e 4 = .ptr 0 4 0 ∧ e 8 = .sl 0 (.slot 8) 0 l14.length l14.length 0 false ∧ e 9 = .int .i64 i13 ∧ f.box 4 = some [.int .i64 0, .int .i64 0, .str [], .sl 0 (.cell 4 3) 0 0 0 0 false, .int .i64 0] ∧ f.arr (.cell 4 3) = some ⟨4, [], false, 0⟩ ∧ f.arr (.slot 8) = some ⟨4, encL l14, false, 0⟩ → k_ref4_Call_1 SP (E SP (.loop b_ref4_Call_1) ⟨e, f :: S⟩) = .ok (.v (.agg [.int .i64 r.V.k, .int .i64 r.V.n, .str r.V.s, .list 4 (encL r.V.l) false, .int .i64 r.E])) S
def At_ref4_Call_2 (l_ : List V) (i23 : Int) (i24 : Int) (i25 : Int) (s26 : List UInt8) (i27 : Int) (l28 : List V) (r : Got) : Prop := ∀ (S : Sto) (e : Nat → PV) (f : Fr), e 1 = .list 4 (encL l_) false ∧ e 4 = .ptr 0 4 0 ∧ e 10 = .int .i64 i23 ∧ f.box 4 = some [.int .i64 i24, .int .i64 i25, .str s26, .sl 0 (.cell 4 3) 0 l28.length l28.length 0 false, .int .i64 i27] ∧ f.arr (.cell 4 3) = some ⟨4, encL l28, false, 0⟩ → k_ref4_Call_2 SP (E SP (.loop b_ref4_Call_2) ⟨e, f :: S⟩) = .ok (.v (.agg [.int .i64 r.V.k, .int .i64 r.V.n, .str r.V.s, .list 4 (encL r.V.l) false, .int .i64 r.E])) S
set_option maxHeartbeats 4000000 in
theorem At_ref4_Call_1_step (l_ : List V) (i13 : Int) (l14 : List V) (r : Got) (T :
  ((i13 < ((l_.length : Nat) : Int)) →
  (0 ≤ i13) ∧
  ∃ (v35 : V), (l_[i13.toNat]? = some v35) ∧
  (bigRow (l14.length + v35.l.length) 56) ∧
  (I64 (i13 + 1)) ∧
  At_ref4_Call_1 l_ (i13 + 1) (l14 ++ v35.l) r) ∧
 (¬ (i13 < ((l_.length : Nat) : Int)) →
  ∃ (r36 : Got), (R_ref4_List l14 r36) ∧
  r36 = r)) : At_ref4_Call_1 l_ i13 l14 r := by
 intro S e f h
 unfold k_ref4_Call_1
 rw [E_loop]
 by_cases c1 : i13 < ((l_.length : Nat) : Int)
 · replace T := T.1 c1
   obtain ⟨p2, v35, q3, p4, p5, T⟩ := T
   simp only [bigRow] at p4
   try simp only [h, eq_true c1, p2, q3, p4, p5.wrap, U_ref4_Call, lw, le, Nat.zero_le, Nat.sub_zero, take_app3, set_get, take_set, List.length_set, List.map_set, reduceIte, reduceCtorEq, Nat.reduceEqDiff, Nat.reduceAdd, Nat.reduceLeDiff, Nat.reduceSub, Nat.reduceLT, Int.reduceEq, Int.reduceLT, Int.reduceLE, Int.reduceToNat, Int.reduceAdd, Int.reduceSub, Int.reduceMul, Int.reduceNeg, Int.cast_ofNat_Int]
   refine T S _ _ ?_
   simp only [h, eq_true c1, p2, q3, p4, p5.wrap, U_ref4_Call, lw, le, Nat.zero_le, Nat.sub_zero, take_app3, set_get, take_set, List.length_set, List.map_set, reduceIte, reduceCtorEq, Nat.reduceEqDiff, Nat.reduceAdd, Nat.reduceLeDiff, Nat.reduceSub, Nat.reduceLT, Int.reduceEq, Int.reduceLT, Int.reduceLE, Int.reduceToNat, Int.reduceAdd, Int.reduceSub, Int.reduceMul, Int.reduceNeg, Int.cast_ofNat_Int]
 · replace T := T.2 c1
   obtain ⟨r36, q6, rfl⟩ := T
   simp only [R_ref4_List, le] at q6
   simp only [h, eq_false c1, q6, U_ref4_Call, lw, le, Nat.zero_le, Nat.sub_zero, take_app3, set_get, take_set, List.length_set, List.map_set, reduceIte, reduceCtorEq, Nat.reduceEqDiff, Nat.reduceAdd, Nat.reduceLeDiff, Nat.reduceSub, Nat.reduceLT, Int.reduceEq, Int.reduceLT, Int.reduceLE, Int.reduceToNat, Int.reduceAdd, Int.reduceSub, Int.reduceMul, Int.reduceNeg, Int.cast_ofNat_Int]
set_option maxHeartbeats 4000000 in
theorem At_ref4_Call_2_step (l_ : List V) (i23 : Int) (i24 : Int) (i25 : Int) (s26 : List UInt8) (i27 : Int) (l28 : List V) (r : Got) (T :
  ∃ (v37 : V), (l_[0]? = some v37) ∧
 ((i23 < ((v37.l.length : Nat) : Int)) →
  (0 ≤ i23) ∧
  ∃ (v38 : V), (v37.l[i23.toNat]? = some v38) ∧
  ∃ (v39 : V), (l_[1]? = some v39) ∧
  ∃ (r40 : Bool), (R_ref4_SameVal v38 v39 r40) ∧
  ((r40 = true) →
   ∃ (r41 : Got), (R_ref4_truth true r41) ∧
   r41 = r) ∧
  (¬ (r40 = true) →
   (I64 (i23 + 1)) ∧
   At_ref4_Call_2 l_ (i23 + 1) i24 i25 s26 i27 l28 r)) ∧
 (¬ (i23 < ((v37.l.length : Nat) : Int)) →
  ∃ (r42 : Got), (R_ref4_truth false r42) ∧
  r42 = r)) : At_ref4_Call_2 l_ i23 i24 i25 s26 i27 l28 r := by
 intro S e f h
 unfold k_ref4_Call_2
 rw [E_loop]
 obtain ⟨v37, q1, T⟩ := T
 by_cases c2 : i23 < ((v37.l.length : Nat) : Int)
 · replace T := T.1 c2
   obtain ⟨p3, v38, q4, v39, q5, r40, q6, T⟩ := T
   simp only [R_ref4_SameVal, le] at q6
   by_cases c7 : r40 = true
   · replace T := T.1 c7
     obtain ⟨r41, q8, rfl⟩ := T
     simp only [R_ref4_truth, le] at q8
     simp only [h, q1, eq_true c2, p3, q4, q5, q6, c7, q8, U_ref4_Call, lw, le, Nat.zero_le, Nat.sub_zero, take_app3, set_get, take_set, List.length_set, List.map_set, reduceIte, reduceCtorEq, Nat.reduceEqDiff, Nat.reduceAdd, Nat.reduceLeDiff, Nat.reduceSub, Nat.reduceLT, Int.reduceEq, Int.reduceLT, Int.reduceLE, Int.reduceToNat, Int.reduceAdd, Int.reduceSub, Int.reduceMul, Int.reduceNeg, Int.cast_ofNat_Int]
   · replace T := T.2 c7
     replace c7 := Bool.eq_false_iff.2 c7
     obtain ⟨p9, T⟩ := T
     try simp only [h, q1, eq_true c2, p3, q4, q5, q6, c7, p9.wrap, U_ref4_Call, lw, le, Nat.zero_le, Nat.sub_zero, take_app3, set_get, take_set, List.length_set, List.map_set, reduceIte, reduceCtorEq, Nat.reduceEqDiff, Nat.reduceAdd, Nat.reduceLeDiff, Nat.reduceSub, Nat.reduceLT, Int.reduceEq, Int.reduceLT, Int.reduceLE, Int.reduceToNat, Int.reduceAdd, Int.reduceSub, Int.reduceMul, Int.reduceNeg, Int.cast_ofNat_Int]
     refine T S _ _ ?_
     simp only [h, q1, eq_true c2, p3, q4, q5, q6, c7, p9.wrap, U_ref4_Call, lw, le, Nat.zero_le, Nat.sub_zero, take_app3, set_get, take_set, List.length_set, List.map_set, reduceIte, reduceCtorEq, Nat.reduceEqDiff, Nat.reduceAdd, Nat.reduceLeDiff, Nat.reduceSub, Nat.reduceLT, Int.reduceEq, Int.reduceLT, Int.reduceLE, Int.reduceToNat, Int.reduceAdd, Int.reduceSub, Int.reduceMul, Int.reduceNeg, Int.cast_ofNat_Int]
 · replace T := T.2 c2
   obtain ⟨r42, q10, rfl⟩ := T
   simp only [R_ref4_truth, le] at q10
   simp only [h, q1, eq_false c2, q10, U_ref4_Call, lw, le, Nat.zero_le, Nat.sub_zero, take_app3, set_get, take_set, List.length_set, List.map_set, reduceIte, reduceCtorEq, Nat.reduceEqDiff, Nat.reduceAdd, Nat.reduceLeDiff, Nat.reduceSub, Nat.reduceLT, Int.reduceEq, Int.reduceLT, Int.reduceLE, Int.reduceToNat, Int.reduceAdd, Int.reduceSub, Int.reduceMul, Int.reduceNeg, Int.cast_ofNat_Int]
set_option maxHeartbeats 4000000 in
theorem ref4_Call_tree (name : List UInt8) (l_ : List V) (r : Got) (T :
  ∃ (r1 : Int) (r2 : Int) (r3 : Bool), (R_ref4_wants name r1 r2 r3) ∧
 ((r3 = true) →
  ((((l_.length : Nat) : Int) < r1) →
   ∃ (r4 : Got), (R_ref4_bad 1 r4) ∧
   r4 = r) ∧
  (¬ (((l_.length : Nat) : Int) < r1) →
   ((r2 < ((l_.length : Nat) : Int)) →
    ∃ (r5 : Got), (R_ref4_bad 1 r5) ∧
    r5 = r) ∧
   (¬ (r2 < ((l_.length : Nat) : Int)) →
    ∃ (r6 : Bool), (R_ref4_right name l_ r6) ∧
    ((r6 = true) →
     ((name = [109, 105, 110]) →
      ∃ (r7 : Got), (R_ref4_edge true l_ r7) ∧
      r7 = r) ∧
     (¬ (name = [109, 105, 110]) →
      ((name = [109, 97, 120]) →
       ∃ (r8 : Got), (R_ref4_edge false l_ r8) ∧
       r8 = r) ∧
      (¬ (name = [109, 97, 120]) →
       ((name = [115, 117, 109]) →
        ∃ (v9 : V), (l_[0]? = some v9) ∧
        ∃ (r10 : Got), (R_ref4_added v9.l r10) ∧
        r10 = r) ∧
       (¬ (name = [115, 117, 109]) →
        ((name = [108, 101, 110]) →
         ∃ (v11 : V), (l_[0]? = some v11) ∧
         (I64 (((v11.l.length : Nat) : Int) + ((v11.s.length : Nat) : Int))) ∧
         ∃ (r12 : Got), (R_ref4_num (((v11.l.length : Nat) : Int) + ((v11.s.length : Nat) : Int)) r12) ∧
         r12 = r) ∧
        (¬ (name = [108, 101, 110]) →
         ((name = [99, 111, 110, 99, 97, 116]) →
          At_ref4_Call_1 l_ 0 [] r) ∧
         (¬ (name = [99, 111, 110, 99, 97, 116]) →
          ((name = [106, 111, 105, 110]) →
           ∃ (v15 : V), (l_[0]? = some v15) ∧
           ∃ (v16 : V), (l_[1]? = some v16) ∧
           ∃ (r17 : Got), (R_ref4_joined v15.s v16.l r17) ∧
           r17 = r) ∧
          (¬ (name = [106, 111, 105, 110]) →
           ((name = [114, 97, 110, 103, 101]) →
            ∃ (v18 : V), (l_[0]? = some v18) ∧
            ∃ (r19 : Got), (R_ref4_counted v18.n r19) ∧
            r19 = r) ∧
           (¬ (name = [114, 97, 110, 103, 101]) →
            ((name = [97, 98, 115]) →
             ∃ (v20 : V), (l_[0]? = some v20) ∧
             ((v20.n < 0) →
              ∃ (r21 : Got), (R_ref4_One 9 v20 r21) ∧
              r21 = r) ∧
             (¬ (v20.n < 0) →
              ∃ (r22 : Got), (R_ref4_num v20.n r22) ∧
              r22 = r)) ∧
            (¬ (name = [97, 98, 115]) →
             ((name = [104, 97, 115]) →
              At_ref4_Call_2 l_ 0 0 0 [] 0 [] r) ∧
             (¬ (name = [104, 97, 115]) →
              ∃ (v29 : V), (l_[0]? = some v29) ∧
              ∃ (r30 : Said), (R_ref4_Text v29 r30) ∧
              ((r30.E = 0) →
               ∃ (r31 : Got), (R_ref4_Join [r30.S] r31) ∧
               r31 = r) ∧
              (¬ (r30.E = 0) →
               ∃ (r32 : Got), (R_ref4_bad r30.E r32) ∧
               r32 = r))))))))))) ∧
    (¬ (r6 = true) →
     ∃ (r33 : Got), (R_ref4_bad 7 r33) ∧
     r33 = r)))) ∧
 (¬ (r3 = true) →
  ∃ (r34 : Got), (R_ref4_bad 2 r34) ∧
  r34 = r)) : R_ref4_Call name l_ r := by
 intro S
 rw [call_code sp_ref4_Call _ _ rfl]
 obtain ⟨r1, r2, r3, q1, T⟩ := T
 simp only [R_ref4_wants, le] at q1
 by_cases c2 : r3 = true
 · replace T := T.1 c2
   by_cases c3 : ((l_.length : Nat) : Int) < r1
   · replace T := T.1 c3
     obtain ⟨r4, q4, rfl⟩ := T
     simp only [R_ref4_bad, le] at q4
     simp only [q1, c2, eq_true c3, q4, U_ref4_Call, lw, le, Nat.zero_le, Nat.sub_zero, take_app3, set_get, take_set, List.length_set, List.map_set, reduceIte, reduceCtorEq, Nat.reduceEqDiff, Nat.reduceAdd, Nat.reduceLeDiff, Nat.reduceSub, Nat.reduceLT, Int.reduceEq, Int.reduceLT, Int.reduceLE, Int.reduceToNat, Int.reduceAdd, Int.reduceSub, Int.reduceMul, Int.reduceNeg, Int.cast_ofNat_Int]
   · replace T := T.2 c3
     by_cases c5 : r2 < ((l_.length : Nat) : Int)
     · replace T := T.1 c5
       obtain ⟨r5, q6, rfl⟩ := T
       simp only [R_ref4_bad, le] at q6
       simp only [q1, c2, eq_false c3, eq_true c5, q6, U_ref4_Call, lw, le, Nat.zero_le, Nat.sub_zero, take_app3, set_get, take_set, List.length_set, List.map_set, reduceIte, reduceCtorEq, Nat.reduceEqDiff, Nat.reduceAdd, Nat.reduceLeDiff, Nat.reduceSub, Nat.reduceLT, Int.reduceEq, Int.reduceLT, Int.reduceLE, Int.reduceToNat, Int.reduceAdd, Int.reduceSub, Int.reduceMul, Int.reduceNeg, Int.cast_ofNat_Int]
     · replace T := T.2 c5
       obtain ⟨r6, q7, T⟩ := T
       simp only [R_ref4_right, le] at q7
       by_cases c8 : r6 = true
       · replace T := T.1 c8
         by_cases c9 : name = [109, 105, 110]
         · replace T := T.1 c9
           obtain ⟨r7, q10, rfl⟩ := T
           simp only [R_ref4_edge, le] at q10
           simp only [q1, c2, eq_false c3, eq_false c5, q7, c8, eq_true c9, q10, U_ref4_Call, lw, le, Nat.zero_le, Nat.sub_zero, take_app3, set_get, take_set, List.length_set, List.map_set, reduceIte, reduceCtorEq, Nat.reduceEqDiff, Nat.reduceAdd, Nat.reduceLeDiff, Nat.reduceSub, Nat.reduceLT, Int.reduceEq, Int.reduceLT, Int.reduceLE, Int.reduceToNat, Int.reduceAdd, Int.reduceSub, Int.reduceMul, Int.reduceNeg, Int.cast_ofNat_Int]
         · replace T := T.2 c9
           by_cases c11 : name = [109, 97, 120]
           · replace T := T.1 c11
             obtain ⟨r8, q12, rfl⟩ := T
             simp only [R_ref4_edge, le] at q12
             simp only [q1, c2, eq_false c3, eq_false c5, q7, c8, eq_false c9, eq_true c11, q12, U_ref4_Call, lw, le, Nat.zero_le, Nat.sub_zero, take_app3, set_get, take_set, List.length_set, List.map_set, reduceIte, reduceCtorEq, Nat.reduceEqDiff, Nat.reduceAdd, Nat.reduceLeDiff, Nat.reduceSub, Nat.reduceLT, Int.reduceEq, Int.reduceLT, Int.reduceLE, Int.reduceToNat, Int.reduceAdd, Int.reduceSub, Int.reduceMul, Int.reduceNeg, Int.cast_ofNat_Int]
           · replace T := T.2 c11
             by_cases c13 : name = [115, 117, 109]
             · replace T := T.1 c13
               obtain ⟨v9, q14, r10, q15, rfl⟩ := T
               simp only [R_ref4_added, le] at q15
               simp only [q1, c2, eq_false c3, eq_false c5, q7, c8, eq_false c9, eq_false c11, eq_true c13, q14, q15, U_ref4_Call, lw, le, Nat.zero_le, Nat.sub_zero, take_app3, set_get, take_set, List.length_set, List.map_set, reduceIte, reduceCtorEq, Nat.reduceEqDiff, Nat.reduceAdd, Nat.reduceLeDiff, Nat.reduceSub, Nat.reduceLT, Int.reduceEq, Int.reduceLT, Int.reduceLE, Int.reduceToNat, Int.reduceAdd, Int.reduceSub, Int.reduceMul, Int.reduceNeg, Int.cast_ofNat_Int]
             · replace T := T.2 c13
               by_cases c16 : name = [108, 101, 110]
               · replace T := T.1 c16
                 obtain ⟨v11, q17, p18, r12, q19, rfl⟩ := T
                 simp only [R_ref4_num, le] at q19
                 simp only [q1, c2, eq_false c3, eq_false c5, q7, c8, eq_false c9, eq_false c11, eq_false c13, eq_true c16, q17, p18.wrap, q19, U_ref4_Call, lw, le, Nat.zero_le, Nat.sub_zero, take_app3, set_get, take_set, List.length_set, List.map_set, reduceIte, reduceCtorEq, Nat.reduceEqDiff, Nat.reduceAdd, Nat.reduceLeDiff, Nat.reduceSub, Nat.reduceLT, Int.reduceEq, Int.reduceLT, Int.reduceLE, Int.reduceToNat, Int.reduceAdd, Int.reduceSub, Int.reduceMul, Int.reduceNeg, Int.cast_ofNat_Int]
               · replace T := T.2 c16
                 by_cases c20 : name = [99, 111, 110, 99, 97, 116]
                 · replace T := T.1 c20
                   try simp only [q1, c2, eq_false c3, eq_false c5, q7, c8, eq_false c9, eq_false c11, eq_false c13, eq_false c16, eq_true c20, U_ref4_Call, lw, le, Nat.zero_le, Nat.sub_zero, take_app3, set_get, take_set, List.length_set, List.map_set, reduceIte, reduceCtorEq, Nat.reduceEqDiff, Nat.reduceAdd, Nat.reduceLeDiff, Nat.reduceSub, Nat.reduceLT, Int.reduceEq, Int.reduceLT, Int.reduceLE, Int.reduceToNat, Int.reduceAdd, Int.reduceSub, Int.reduceMul, Int.reduceNeg, Int.cast_ofNat_Int]
                   refine T S _ _ ?_
                   simp only [q1, c2, eq_false c3, eq_false c5, q7, c8, eq_false c9, eq_false c11, eq_false c13, eq_false c16, eq_true c20, U_ref4_Call, lw, le, Nat.zero_le, Nat.sub_zero, take_app3, set_get, take_set, List.length_set, List.map_set, reduceIte, reduceCtorEq, Nat.reduceEqDiff, Nat.reduceAdd, Nat.reduceLeDiff, Nat.reduceSub, Nat.reduceLT, Int.reduceEq, Int.reduceLT, Int.reduceLE, Int.reduceToNat, Int.reduceAdd, Int.reduceSub, Int.reduceMul, Int.reduceNeg, Int.cast_ofNat_Int]
                 · replace T := T.2 c20
                   by_cases c21 : name = [106, 111, 105, 110]
                   · replace T := T.1 c21
                     obtain ⟨v15, q22, v16, q23, r17, q24, rfl⟩ := T
                     simp only [R_ref4_joined, le] at q24
                     simp only [q1, c2, eq_false c3, eq_false c5, q7, c8, eq_false c9, eq_false c11, eq_false c13, eq_false c16, eq_false c20, eq_true c21, q22, q23, q24, U_ref4_Call, lw, le, Nat.zero_le, Nat.sub_zero, take_app3, set_get, take_set, List.length_set, List.map_set, reduceIte, reduceCtorEq, Nat.reduceEqDiff, Nat.reduceAdd, Nat.reduceLeDiff, Nat.reduceSub, Nat.reduceLT, Int.reduceEq, Int.reduceLT, Int.reduceLE, Int.reduceToNat, Int.reduceAdd, Int.reduceSub, Int.reduceMul, Int.reduceNeg, Int.cast_ofNat_Int]
                   · replace T := T.2 c21
                     by_cases c25 : name = [114, 97, 110, 103, 101]
                     · replace T := T.1 c25
                       obtain ⟨v18, q26, r19, q27, rfl⟩ := T
                       simp only [R_ref4_counted, le] at q27
                       simp only [q1, c2, eq_false c3, eq_false c5, q7, c8, eq_false c9, eq_false c11, eq_false c13, eq_false c16, eq_false c20, eq_false c21, eq_true c25, q26, q27, U_ref4_Call, lw, le, Nat.zero_le, Nat.sub_zero, take_app3, set_get, take_set, List.length_set, List.map_set, reduceIte, reduceCtorEq, Nat.reduceEqDiff, Nat.reduceAdd, Nat.reduceLeDiff, Nat.reduceSub, Nat.reduceLT, Int.reduceEq, Int.reduceLT, Int.reduceLE, Int.reduceToNat, Int.reduceAdd, Int.reduceSub, Int.reduceMul, Int.reduceNeg, Int.cast_ofNat_Int]
                     · replace T := T.2 c25
                       by_cases c28 : name = [97, 98, 115]
                       · replace T := T.1 c28
                         obtain ⟨v20, q29, T⟩ := T
                         by_cases c30 : v20.n < 0
                         · replace T := T.1 c30
                           obtain ⟨r21, q31, rfl⟩ := T
                           simp only [R_ref4_One, le] at q31
                           simp only [q1, c2, eq_false c3, eq_false c5, q7, c8, eq_false c9, eq_false c11, eq_false c13, eq_false c16, eq_false c20, eq_false c21, eq_false c25, eq_true c28, q29, eq_true c30, q31, U_ref4_Call, lw, le, Nat.zero_le, Nat.sub_zero, take_app3, set_get, take_set, List.length_set, List.map_set, reduceIte, reduceCtorEq, Nat.reduceEqDiff, Nat.reduceAdd, Nat.reduceLeDiff, Nat.reduceSub, Nat.reduceLT, Int.reduceEq, Int.reduceLT, Int.reduceLE, Int.reduceToNat, Int.reduceAdd, Int.reduceSub, Int.reduceMul, Int.reduceNeg, Int.cast_ofNat_Int]
                         · replace T := T.2 c30
                           obtain ⟨r22, q32, rfl⟩ := T
                           simp only [R_ref4_num, le] at q32
                           simp only [q1, c2, eq_false c3, eq_false c5, q7, c8, eq_false c9, eq_false c11, eq_false c13, eq_false c16, eq_false c20, eq_false c21, eq_false c25, eq_true c28, q29, eq_false c30, q32, U_ref4_Call, lw, le, Nat.zero_le, Nat.sub_zero, take_app3, set_get, take_set, List.length_set, List.map_set, reduceIte, reduceCtorEq, Nat.reduceEqDiff, Nat.reduceAdd, Nat.reduceLeDiff, Nat.reduceSub, Nat.reduceLT, Int.reduceEq, Int.reduceLT, Int.reduceLE, Int.reduceToNat, Int.reduceAdd, Int.reduceSub, Int.reduceMul, Int.reduceNeg, Int.cast_ofNat_Int]
                       · replace T := T.2 c28
                         by_cases c33 : name = [104, 97, 115]
                         · replace T := T.1 c33
                           try simp only [q1, c2, eq_false c3, eq_false c5, q7, c8, eq_false c9, eq_false c11, eq_false c13, eq_false c16, eq_false c20, eq_false c21, eq_false c25, eq_false c28, eq_true c33, U_ref4_Call, lw, le, Nat.zero_le, Nat.sub_zero, take_app3, set_get, take_set, List.length_set, List.map_set, reduceIte, reduceCtorEq, Nat.reduceEqDiff, Nat.reduceAdd, Nat.reduceLeDiff, Nat.reduceSub, Nat.reduceLT, Int.reduceEq, Int.reduceLT, Int.reduceLE, Int.reduceToNat, Int.reduceAdd, Int.reduceSub, Int.reduceMul, Int.reduceNeg, Int.cast_ofNat_Int]
                           refine T S _ _ ?_
                           simp only [q1, c2, eq_false c3, eq_false c5, q7, c8, eq_false c9, eq_false c11, eq_false c13, eq_false c16, eq_false c20, eq_false c21, eq_false c25, eq_false c28, eq_true c33, U_ref4_Call, lw, le, Nat.zero_le, Nat.sub_zero, take_app3, set_get, take_set, List.length_set, List.map_set, reduceIte, reduceCtorEq, Nat.reduceEqDiff, Nat.reduceAdd, Nat.reduceLeDiff, Nat.reduceSub, Nat.reduceLT, Int.reduceEq, Int.reduceLT, Int.reduceLE, Int.reduceToNat, Int.reduceAdd, Int.reduceSub, Int.reduceMul, Int.reduceNeg, Int.cast_ofNat_Int]
                         · replace T := T.2 c33
                           obtain ⟨v29, q34, r30, q35, T⟩ := T
                           simp only [R_ref4_Text, le] at q35
                           by_cases c36 : r30.E = 0
                           · replace T := T.1 c36
                             obtain ⟨r31, q37, rfl⟩ := T
                             simp only [R_ref4_Join, le] at q37
                             simp only [q1, c2, eq_false c3, eq_false c5, q7, c8, eq_false c9, eq_false c11, eq_false c13, eq_false c16, eq_false c20, eq_false c21, eq_false c25, eq_false c28, eq_false c33, q34, q35, eq_true c36, q37, U_ref4_Call, lw, le, Nat.zero_le, Nat.sub_zero, take_app3, set_get, take_set, List.length_set, List.map_set, reduceIte, reduceCtorEq, Nat.reduceEqDiff, Nat.reduceAdd, Nat.reduceLeDiff, Nat.reduceSub, Nat.reduceLT, Int.reduceEq, Int.reduceLT, Int.reduceLE, Int.reduceToNat, Int.reduceAdd, Int.reduceSub, Int.reduceMul, Int.reduceNeg, Int.cast_ofNat_Int]
                           · replace T := T.2 c36
                             obtain ⟨r32, q38, rfl⟩ := T
                             simp only [R_ref4_bad, le] at q38
                             simp only [q1, c2, eq_false c3, eq_false c5, q7, c8, eq_false c9, eq_false c11, eq_false c13, eq_false c16, eq_false c20, eq_false c21, eq_false c25, eq_false c28, eq_false c33, q34, q35, eq_false c36, q38, U_ref4_Call, lw, le, Nat.zero_le, Nat.sub_zero, take_app3, set_get, take_set, List.length_set, List.map_set, reduceIte, reduceCtorEq, Nat.reduceEqDiff, Nat.reduceAdd, Nat.reduceLeDiff, Nat.reduceSub, Nat.reduceLT, Int.reduceEq, Int.reduceLT, Int.reduceLE, Int.reduceToNat, Int.reduceAdd, Int.reduceSub, Int.reduceMul, Int.reduceNeg, Int.cast_ofNat_Int]
       · replace T := T.2 c8
         replace c8 := Bool.eq_false_iff.2 c8
         obtain ⟨r33, q39, rfl⟩ := T
         simp only [R_ref4_bad, le] at q39
         simp only [q1, c2, eq_false c3, eq_false c5, q7, c8, q39, U_ref4_Call, lw, le, Nat.zero_le, Nat.sub_zero, take_app3, set_get, take_set, List.length_set, List.map_set, reduceIte, reduceCtorEq, Nat.reduceEqDiff, Nat.reduceAdd, Nat.reduceLeDiff, Nat.reduceSub, Nat.reduceLT, Int.reduceEq, Int.reduceLT, Int.reduceLE, Int.reduceToNat, Int.reduceAdd, Int.reduceSub, Int.reduceMul, Int.reduceNeg, Int.cast_ofNat_Int]
 · replace T := T.2 c2
   replace c2 := Bool.eq_false_iff.2 c2
   obtain ⟨r34, q40, rfl⟩ := T
   simp only [R_ref4_bad, le] at q40
   simp only [q1, c2, q40, U_ref4_Call, lw, le, Nat.zero_le, Nat.sub_zero, take_app3, set_get, take_set, List.length_set, List.map_set, reduceIte, reduceCtorEq, Nat.reduceEqDiff, Nat.reduceAdd, Nat.reduceLeDiff, Nat.reduceSub, Nat.reduceLT, Int.reduceEq, Int.reduceLT, Int.reduceLE, Int.reduceToNat, Int.reduceAdd, Int.reduceSub, Int.reduceMul, Int.reduceNeg, Int.cast_ofNat_Int]
theorem sp_law5_awake : SP 10 = some (.code sc_law5_awake) := SPof_code rfl Tryd.func10 comp_law5_awake
/-! doorkeeper/doorkeeperlaw5.awake -/
set_option maxHeartbeats 4000000 in
theorem law5_awake_tree  (r : Bool) (T :
  ∃ (r1 : V), (R_law5_num 3 r1) ∧
 ∃ (r2 : V), (R_law5_num 2 r2) ∧
 ∃ (r3 : V) (r4 : Int), (R_fun_Call [109, 105, 110] [r1, r2] r3 r4) ∧
 ∃ (r5 : Int), (R_law1_Num r4 r5) ∧
 ((r5 = 0) →
  ((r3.k = 1) →
   (decide (r3.n = 2)) = r) ∧
  (¬ (r3.k = 1) →
   false = r)) ∧
 (¬ (r5 = 0) →
  false = r)) : R_law5_awake  r := by
 intro S
 rw [call_code sp_law5_awake _ _ rfl]
 obtain ⟨r1, q1, r2, q2, r3, r4, q3, r5, q4, T⟩ := T
 simp only [R_law5_num, le] at q1
 simp only [R_law5_num, le] at q2
 simp only [R_fun_Call, le] at q3
 simp only [R_law1_Num, le] at q4
 by_cases c5 : r5 = 0
 · replace T := T.1 c5
   by_cases c6 : r3.k = 1
   · replace T := T.1 c6
     obtain rfl := T
     simp only [q1, q2, q3, q4, eq_true c5, eq_true c6, U_law5_awake, lw, le, Nat.zero_le, Nat.sub_zero, take_app3, set_get, take_set, List.length_set, List.map_set, reduceIte, reduceCtorEq, Nat.reduceEqDiff, Nat.reduceAdd, Nat.reduceLeDiff, Nat.reduceSub, Nat.reduceLT, Int.reduceEq, Int.reduceLT, Int.reduceLE, Int.reduceToNat, Int.reduceAdd, Int.reduceSub, Int.reduceMul, Int.reduceNeg, Int.cast_ofNat_Int]
   · replace T := T.2 c6
     obtain rfl := T
     simp only [q1, q2, q3, q4, eq_true c5, eq_false c6, U_law5_awake, lw, le, Nat.zero_le, Nat.sub_zero, take_app3, set_get, take_set, List.length_set, List.map_set, reduceIte, reduceCtorEq, Nat.reduceEqDiff, Nat.reduceAdd, Nat.reduceLeDiff, Nat.reduceSub, Nat.reduceLT, Int.reduceEq, Int.reduceLT, Int.reduceLE, Int.reduceToNat, Int.reduceAdd, Int.reduceSub, Int.reduceMul, Int.reduceNeg, Int.cast_ofNat_Int]
 · replace T := T.2 c5
   obtain rfl := T
   simp only [q1, q2, q3, q4, eq_false c5, U_law5_awake, lw, le, Nat.zero_le, Nat.sub_zero, take_app3, set_get, take_set, List.length_set, List.map_set, reduceIte, reduceCtorEq, Nat.reduceEqDiff, Nat.reduceAdd, Nat.reduceLeDiff, Nat.reduceSub, Nat.reduceLT, Int.reduceEq, Int.reduceLT, Int.reduceLE, Int.reduceToNat, Int.reduceAdd, Int.reduceSub, Int.reduceMul, Int.reduceNeg, Int.cast_ofNat_Int]
theorem sp_law5_num : SP 19 = some (.code sc_law5_num) := SPof_code rfl Tryd.func19 comp_law5_num
/-! doorkeeper/doorkeeperlaw5.num -/
set_option maxHeartbeats 4000000 in
theorem law5_num_tree (n : Int) (r : V) (T :
  (V.mk 1 n [] []) = r) : R_law5_num n r := by
 intro S
 rw [call_code sp_law5_num _ _ rfl]
 obtain rfl := T
 simp only [U_law5_num, lw, le, Nat.zero_le, Nat.sub_zero, take_app3, set_get, take_set, List.length_set, List.map_set, reduceIte, reduceCtorEq, Nat.reduceEqDiff, Nat.reduceAdd, Nat.reduceLeDiff, Nat.reduceSub, Nat.reduceLT, Int.reduceEq, Int.reduceLT, Int.reduceLE, Int.reduceToNat, Int.reduceAdd, Int.reduceSub, Int.reduceMul, Int.reduceNeg, Int.cast_ofNat_Int]
theorem sp_law5_list : SP 18 = some (.code sc_law5_list) := SPof_code rfl Tryd.func18 comp_law5_list
/-! doorkeeper/doorkeeperlaw5.list -/
def At_law5_list_1 (ns : List Int) (i1 : Int) (l2 : List V) (r : List V) : Prop := ∀ (S : Sto) (e : Nat → PV) (f : Fr), e 0 = .list 1 (ns.map (eK .i32)) false ∧ e 3 = .sl 0 (.slot 3) 0 l2.length l2.length 0 false ∧ e 4 = .int .i64 i1 ∧ f.arr (.slot 3) = some ⟨4, encL l2, false, 0⟩ → k_law5_list_1 SP (E SP (.loop b_law5_list_1) ⟨e, f :: S⟩) = .ok (.arr 4 (encL r) false) S
set_option maxHeartbeats 4000000 in
theorem At_law5_list_1_step (ns : List Int) (i1 : Int) (l2 : List V) (r : List V) (T :
  ((i1 < ((ns.length : Nat) : Int)) →
  (0 ≤ i1) ∧
  ∃ (v3 : Int), (ns[i1.toNat]? = some v3) ∧
  (I64 (v3)) ∧
  ∃ (r4 : V), (R_law5_num v3 r4) ∧
  (bigRow (l2.length + 1) 56) ∧
  (I64 (i1 + 1)) ∧
  At_law5_list_1 ns (i1 + 1) (l2 ++ [r4]) r) ∧
 (¬ (i1 < ((ns.length : Nat) : Int)) →
  l2 = r)) : At_law5_list_1 ns i1 l2 r := by
 intro S e f h
 unfold k_law5_list_1
 rw [E_loop]
 by_cases c1 : i1 < ((ns.length : Nat) : Int)
 · replace T := T.1 c1
   obtain ⟨p2, v3, q3, p4, r4, q5, p6, p7, T⟩ := T
   simp only [R_law5_num, le] at q5
   simp only [bigRow] at p6
   try simp only [h, eq_true c1, p2, q3, p4.wrap, q5, p6, p7.wrap, U_law5_list, lw, le, Nat.zero_le, Nat.sub_zero, take_app3, set_get, take_set, List.length_set, List.map_set, reduceIte, reduceCtorEq, Nat.reduceEqDiff, Nat.reduceAdd, Nat.reduceLeDiff, Nat.reduceSub, Nat.reduceLT, Int.reduceEq, Int.reduceLT, Int.reduceLE, Int.reduceToNat, Int.reduceAdd, Int.reduceSub, Int.reduceMul, Int.reduceNeg, Int.cast_ofNat_Int]
   refine T S _ _ ?_
   simp only [h, eq_true c1, p2, q3, p4.wrap, q5, p6, p7.wrap, U_law5_list, lw, le, Nat.zero_le, Nat.sub_zero, take_app3, set_get, take_set, List.length_set, List.map_set, reduceIte, reduceCtorEq, Nat.reduceEqDiff, Nat.reduceAdd, Nat.reduceLeDiff, Nat.reduceSub, Nat.reduceLT, Int.reduceEq, Int.reduceLT, Int.reduceLE, Int.reduceToNat, Int.reduceAdd, Int.reduceSub, Int.reduceMul, Int.reduceNeg, Int.cast_ofNat_Int]
 · replace T := T.2 c1
   obtain rfl := T
   simp only [h, eq_false c1, U_law5_list, lw, le, Nat.zero_le, Nat.sub_zero, take_app3, set_get, take_set, List.length_set, List.map_set, reduceIte, reduceCtorEq, Nat.reduceEqDiff, Nat.reduceAdd, Nat.reduceLeDiff, Nat.reduceSub, Nat.reduceLT, Int.reduceEq, Int.reduceLT, Int.reduceLE, Int.reduceToNat, Int.reduceAdd, Int.reduceSub, Int.reduceMul, Int.reduceNeg, Int.cast_ofNat_Int]
set_option maxHeartbeats 4000000 in
theorem law5_list_tree (ns : List Int) (r : List V) (T :
  At_law5_list_1 ns 0 [] r) : R_law5_list ns r := by
 intro S
 rw [call_code sp_law5_list _ _ rfl]
 try simp only [U_law5_list, lw, le, Nat.zero_le, Nat.sub_zero, take_app3, set_get, take_set, List.length_set, List.map_set, reduceIte, reduceCtorEq, Nat.reduceEqDiff, Nat.reduceAdd, Nat.reduceLeDiff, Nat.reduceSub, Nat.reduceLT, Int.reduceEq, Int.reduceLT, Int.reduceLE, Int.reduceToNat, Int.reduceAdd, Int.reduceSub, Int.reduceMul, Int.reduceNeg, Int.cast_ofNat_Int]
 refine T S _ _ ?_
 simp only [U_law5_list, lw, le, Nat.zero_le, Nat.sub_zero, take_app3, set_get, take_set, List.length_set, List.map_set, reduceIte, reduceCtorEq, Nat.reduceEqDiff, Nat.reduceAdd, Nat.reduceLeDiff, Nat.reduceSub, Nat.reduceLT, Int.reduceEq, Int.reduceLT, Int.reduceLE, Int.reduceToNat, Int.reduceAdd, Int.reduceSub, Int.reduceMul, Int.reduceNeg, Int.cast_ofNat_Int]
theorem sp_law4_Make : SP 17 = some (.code sc_law4_Make) := SPof_code rfl Tryd.func17 comp_law4_Make
/-! doorkeeper/doorkeeperlaw4.Make -/
def At_law4_Make_1 (ns : List UInt8) (s : List UInt8) (v1 : UInt8) (i3 : Int) (l4 : List V) (g5 : Nat) (r : V) : Prop := ∀ (S : Sto) (e : Nat → PV) (f : Fr), e 0 = .list 1 (ns.map eB) false ∧ e 1 = .str s ∧ e 4 = .ptr 0 4 0 ∧ e 5 = .int .i64 ((v1.toNat : Nat) : Int) ∧ e 6 = .ptr 0 6 0 ∧ e 7 = .int .i64 i3 ∧ f.box 4 = some [.int .i64 0, .int .i64 0, .str [], .sl 0 (.cell 4 3) 0 0 0 0 false] ∧ f.box 6 = some [.int .i64 4, .int .i64 0, .str [], .sl 0 (.cell 6 3) 0 l4.length l4.length g5 false] ∧ f.arr (.cell 4 3) = some ⟨4, [], false, 0⟩ ∧ f.arr (.cell 6 3) = some ⟨4, encL l4, false, g5⟩ → k_law4_Make_1 SP (E SP (.loop b_law4_Make_1) ⟨e, f :: S⟩) = .ok (.v (.agg [.int .i64 r.k, .int .i64 r.n, .str r.s, .list 4 (encL r.l) false])) S
set_option maxHeartbeats 4000000 in
theorem At_law4_Make_1_step (ns : List UInt8) (s : List UInt8) (v1 : UInt8) (i3 : Int) (l4 : List V) (g5 : Nat) (r : V) (T :
  ((i3 < ((ns.length : Nat) : Int)) →
  (I64 (((v1.toNat : Nat) : Int).tdiv 5)) ∧
  ((i3 ≤ ((((v1.toNat : Nat) : Int).tdiv 5).tmod 6)) →
   (I64 (((v1.toNat : Nat) : Int).tdiv 30)) ∧
   (I64 (i3 + ((((v1.toNat : Nat) : Int).tdiv 30).tmod 3))) ∧
   (I64 ((i3 + ((((v1.toNat : Nat) : Int).tdiv 30).tmod 3)) + 1)) ∧
   (0 ≤ i3) ∧ (0 ≤ (if ((i3 + ((((v1.toNat : Nat) : Int).tdiv 30).tmod 3)) + 1) < ((ns.length : Nat) : Int) then ((i3 + ((((v1.toNat : Nat) : Int).tdiv 30).tmod 3)) + 1) else ((ns.length : Nat) : Int))) ∧ (i3.toNat ≤ (if ((i3 + ((((v1.toNat : Nat) : Int).tdiv 30).tmod 3)) + 1) < ((ns.length : Nat) : Int) then ((i3 + ((((v1.toNat : Nat) : Int).tdiv 30).tmod 3)) + 1) else ((ns.length : Nat) : Int)).toNat) ∧ ((if ((i3 + ((((v1.toNat : Nat) : Int).tdiv 30).tmod 3)) + 1) < ((ns.length : Nat) : Int) then ((i3 + ((((v1.toNat : Nat) : Int).tdiv 30).tmod 3)) + 1) else ((ns.length : Nat) : Int)).toNat ≤ ns.length) ∧
   ∃ (r6 : V), (R_law4_Make ((ns.drop i3.toNat).take ((if ((i3 + ((((v1.toNat : Nat) : Int).tdiv 30).tmod 3)) + 1) < ((ns.length : Nat) : Int) then ((i3 + ((((v1.toNat : Nat) : Int).tdiv 30).tmod 3)) + 1) else ((ns.length : Nat) : Int)).toNat - i3.toNat)) s r6) ∧
   (bigRow (l4.length + 1) 56) ∧
   (I64 (i3 + 1)) ∧
   At_law4_Make_1 ns s v1 (i3 + 1) (l4 ++ [r6]) g5 r) ∧
  (¬ (i3 ≤ ((((v1.toNat : Nat) : Int).tdiv 5).tmod 6)) →
   (V.mk 4 0 [] l4) = r)) ∧
 (¬ (i3 < ((ns.length : Nat) : Int)) →
  (V.mk 4 0 [] l4) = r)) : At_law4_Make_1 ns s v1 i3 l4 g5 r := by
 intro S e f h
 unfold k_law4_Make_1
 rw [E_loop]
 by_cases c1 : i3 < ((ns.length : Nat) : Int)
 · replace T := T.1 c1
   obtain ⟨p2, T⟩ := T
   by_cases c3 : i3 ≤ ((((v1.toNat : Nat) : Int).tdiv 5).tmod 6)
   · replace T := T.1 c3
     obtain ⟨p4, p5, p6, p7, p8, p9, p10, r6, q11, p12, p13, T⟩ := T
     simp only [R_law4_Make, le] at q11
     simp only [bigRow] at p12
     try simp only [h, eq_true c1, p2.wrap, eq_true c3, p4.wrap, p5.wrap, p6.wrap, p7, p8, p9, p10, q11, p12, p13.wrap, U_law4_Make, lw, le, Nat.zero_le, Nat.sub_zero, take_app3, set_get, take_set, List.length_set, List.map_set, reduceIte, reduceCtorEq, Nat.reduceEqDiff, Nat.reduceAdd, Nat.reduceLeDiff, Nat.reduceSub, Nat.reduceLT, Int.reduceEq, Int.reduceLT, Int.reduceLE, Int.reduceToNat, Int.reduceAdd, Int.reduceSub, Int.reduceMul, Int.reduceNeg, Int.cast_ofNat_Int]
     refine T S _ _ ?_
     simp only [h, eq_true c1, p2.wrap, eq_true c3, p4.wrap, p5.wrap, p6.wrap, p7, p8, p9, p10, q11, p12, p13.wrap, U_law4_Make, lw, le, Nat.zero_le, Nat.sub_zero, take_app3, set_get, take_set, List.length_set, List.map_set, reduceIte, reduceCtorEq, Nat.reduceEqDiff, Nat.reduceAdd, Nat.reduceLeDiff, Nat.reduceSub, Nat.reduceLT, Int.reduceEq, Int.reduceLT, Int.reduceLE, Int.reduceToNat, Int.reduceAdd, Int.reduceSub, Int.reduceMul, Int.reduceNeg, Int.cast_ofNat_Int]
   · replace T := T.2 c3
     obtain rfl := T
     simp only [h, eq_true c1, p2.wrap, eq_false c3, U_law4_Make, lw, le, Nat.zero_le, Nat.sub_zero, take_app3, set_get, take_set, List.length_set, List.map_set, reduceIte, reduceCtorEq, Nat.reduceEqDiff, Nat.reduceAdd, Nat.reduceLeDiff, Nat.reduceSub, Nat.reduceLT, Int.reduceEq, Int.reduceLT, Int.reduceLE, Int.reduceToNat, Int.reduceAdd, Int.reduceSub, Int.reduceMul, Int.reduceNeg, Int.cast_ofNat_Int]
 · replace T := T.2 c1
   obtain rfl := T
   simp only [h, eq_false c1, U_law4_Make, lw, le, Nat.zero_le, Nat.sub_zero, take_app3, set_get, take_set, List.length_set, List.map_set, reduceIte, reduceCtorEq, Nat.reduceEqDiff, Nat.reduceAdd, Nat.reduceLeDiff, Nat.reduceSub, Nat.reduceLT, Int.reduceEq, Int.reduceLT, Int.reduceLE, Int.reduceToNat, Int.reduceAdd, Int.reduceSub, Int.reduceMul, Int.reduceNeg, Int.cast_ofNat_Int]
set_option maxHeartbeats 4000000 in
theorem law4_Make_tree (ns : List UInt8) (s : List UInt8) (r : V) (T :
  ((((ns.length : Nat) : Int) = 0) →
  (V.mk 1 0 [] []) = r) ∧
 (¬ (((ns.length : Nat) : Int) = 0) →
  ∃ (v1 : UInt8), (ns[0]? = some v1) ∧
  (I64 (((v1.toNat : Nat) : Int))) ∧
  (((((v1.toNat : Nat) : Int).tmod 5) = 0) →
   ((((s.length : Nat) : Int) ≤ 60) →
    (I64 (((v1.toNat : Nat) : Int).tdiv 5)) ∧
    ∃ (r2 : List UInt8), (R_ref1_Digits ((((v1.toNat : Nat) : Int).tdiv 5).tmod 3) r2) ∧
    (s.length + r2.length ≤ maxInt) ∧
    (V.mk 2 0 (s ++ r2) []) = r) ∧
   (¬ (((s.length : Nat) : Int) ≤ 60) →
    (I64 (((v1.toNat : Nat) : Int).tdiv 5)) ∧
    (I64 ((((v1.toNat : Nat) : Int).tdiv 5) - 20)) ∧
    (V.mk 1 ((((v1.toNat : Nat) : Int).tdiv 5) - 20) [] []) = r)) ∧
  (¬ ((((v1.toNat : Nat) : Int).tmod 5) = 0) →
   (((((v1.toNat : Nat) : Int).tmod 5) = 1) →
    (I64 (((v1.toNat : Nat) : Int).tdiv 5)) ∧
    (V.mk 3 ((((v1.toNat : Nat) : Int).tdiv 5).tmod 2) [] []) = r) ∧
   (¬ ((((v1.toNat : Nat) : Int).tmod 5) = 1) →
    (((((v1.toNat : Nat) : Int).tmod 5) = 2) →
     At_law4_Make_1 ns s v1 1 [] 1 r) ∧
    (¬ ((((v1.toNat : Nat) : Int).tmod 5) = 2) →
     (I64 (((v1.toNat : Nat) : Int).tdiv 5)) ∧
     (I64 ((((v1.toNat : Nat) : Int).tdiv 5) - 20)) ∧
     (V.mk 1 ((((v1.toNat : Nat) : Int).tdiv 5) - 20) [] []) = r))))) : R_law4_Make ns s r := by
 intro S
 rw [call_code sp_law4_Make _ _ rfl]
 by_cases c1 : ((ns.length : Nat) : Int) = 0
 · replace T := T.1 c1
   obtain rfl := T
   simp only [eq_true c1, U_law4_Make, lw, le, Nat.zero_le, Nat.sub_zero, take_app3, set_get, take_set, List.length_set, List.map_set, reduceIte, reduceCtorEq, Nat.reduceEqDiff, Nat.reduceAdd, Nat.reduceLeDiff, Nat.reduceSub, Nat.reduceLT, Int.reduceEq, Int.reduceLT, Int.reduceLE, Int.reduceToNat, Int.reduceAdd, Int.reduceSub, Int.reduceMul, Int.reduceNeg, Int.cast_ofNat_Int]
 · replace T := T.2 c1
   obtain ⟨v1, q2, p3, T⟩ := T
   by_cases c4 : (((v1.toNat : Nat) : Int).tmod 5) = 0
   · replace T := T.1 c4
     by_cases c5 : ((s.length : Nat) : Int) ≤ 60
     · replace T := T.1 c5
       obtain ⟨p6, r2, q7, p8, rfl⟩ := T
       simp only [R_ref1_Digits, le] at q7
       simp only [eq_false c1, q2, p3.wrap, eq_true c4, eq_true c5, p6.wrap, q7, p8, U_law4_Make, lw, le, Nat.zero_le, Nat.sub_zero, take_app3, set_get, take_set, List.length_set, List.map_set, reduceIte, reduceCtorEq, Nat.reduceEqDiff, Nat.reduceAdd, Nat.reduceLeDiff, Nat.reduceSub, Nat.reduceLT, Int.reduceEq, Int.reduceLT, Int.reduceLE, Int.reduceToNat, Int.reduceAdd, Int.reduceSub, Int.reduceMul, Int.reduceNeg, Int.cast_ofNat_Int]
     · replace T := T.2 c5
       obtain ⟨p9, p10, rfl⟩ := T
       simp only [eq_false c1, q2, p3.wrap, eq_true c4, eq_false c5, p9.wrap, p10.wrap, U_law4_Make, lw, le, Nat.zero_le, Nat.sub_zero, take_app3, set_get, take_set, List.length_set, List.map_set, reduceIte, reduceCtorEq, Nat.reduceEqDiff, Nat.reduceAdd, Nat.reduceLeDiff, Nat.reduceSub, Nat.reduceLT, Int.reduceEq, Int.reduceLT, Int.reduceLE, Int.reduceToNat, Int.reduceAdd, Int.reduceSub, Int.reduceMul, Int.reduceNeg, Int.cast_ofNat_Int]
   · replace T := T.2 c4
     by_cases c11 : (((v1.toNat : Nat) : Int).tmod 5) = 1
     · replace T := T.1 c11
       obtain ⟨p12, rfl⟩ := T
       simp only [eq_false c1, q2, p3.wrap, eq_false c4, eq_true c11, p12.wrap, U_law4_Make, lw, le, Nat.zero_le, Nat.sub_zero, take_app3, set_get, take_set, List.length_set, List.map_set, reduceIte, reduceCtorEq, Nat.reduceEqDiff, Nat.reduceAdd, Nat.reduceLeDiff, Nat.reduceSub, Nat.reduceLT, Int.reduceEq, Int.reduceLT, Int.reduceLE, Int.reduceToNat, Int.reduceAdd, Int.reduceSub, Int.reduceMul, Int.reduceNeg, Int.cast_ofNat_Int]
     · replace T := T.2 c11
       by_cases c13 : (((v1.toNat : Nat) : Int).tmod 5) = 2
       · replace T := T.1 c13
         try simp only [eq_false c1, q2, p3.wrap, eq_false c4, eq_false c11, eq_true c13, U_law4_Make, lw, le, Nat.zero_le, Nat.sub_zero, take_app3, set_get, take_set, List.length_set, List.map_set, reduceIte, reduceCtorEq, Nat.reduceEqDiff, Nat.reduceAdd, Nat.reduceLeDiff, Nat.reduceSub, Nat.reduceLT, Int.reduceEq, Int.reduceLT, Int.reduceLE, Int.reduceToNat, Int.reduceAdd, Int.reduceSub, Int.reduceMul, Int.reduceNeg, Int.cast_ofNat_Int]
         refine T S _ _ ?_
         simp only [eq_false c1, q2, p3.wrap, eq_false c4, eq_false c11, eq_true c13, U_law4_Make, lw, le, Nat.zero_le, Nat.sub_zero, take_app3, set_get, take_set, List.length_set, List.map_set, reduceIte, reduceCtorEq, Nat.reduceEqDiff, Nat.reduceAdd, Nat.reduceLeDiff, Nat.reduceSub, Nat.reduceLT, Int.reduceEq, Int.reduceLT, Int.reduceLE, Int.reduceToNat, Int.reduceAdd, Int.reduceSub, Int.reduceMul, Int.reduceNeg, Int.cast_ofNat_Int]
       · replace T := T.2 c13
         obtain ⟨p14, p15, rfl⟩ := T
         simp only [eq_false c1, q2, p3.wrap, eq_false c4, eq_false c11, eq_false c13, p14.wrap, p15.wrap, U_law4_Make, lw, le, Nat.zero_le, Nat.sub_zero, take_app3, set_get, take_set, List.length_set, List.map_set, reduceIte, reduceCtorEq, Nat.reduceEqDiff, Nat.reduceAdd, Nat.reduceLeDiff, Nat.reduceSub, Nat.reduceLT, Int.reduceEq, Int.reduceLT, Int.reduceLE, Int.reduceToNat, Int.reduceAdd, Int.reduceSub, Int.reduceMul, Int.reduceNeg, Int.cast_ofNat_Int]
theorem sp_fun_Call : SP 13 = some (.code sc_fun_Call) := SPof_code rfl Tryd.func13 comp_fun_Call
/-! doorkeeper/fun.Call -/
def At_fun_Call_1 (l_ : List V) (i1 : Int) (i2 : Int) (i3 : Int) (s4 : List UInt8) (l5 : List V) (g6 : Nat) (ra : V) (rb : Int) : Prop := ∀ (S : Sto) (e : Nat → PV) (f : Fr), e 1 = .list 4 (encL l_) false ∧ e 4 = .ptr 0 4 0 ∧ e 6 = .ptr 0 6 0 ∧ e 33 = .list 4 (encL l_) false ∧ e 34 = .int .i64 ((l_.length : Nat) : Int) ∧ e 35 = .int .i64 i1 ∧ f.box 4 = some [.int .i64 i2, .int .i64 i3, .str s4, .sl 0 (.cell 4 3) 0 l5.length l5.length g6 false] ∧ f.box 6 = some [.int .i64 1, .int .i64 1073741824, .list 1 ([38].map eF) false, .func 39 []] ∧ f.arr (.cell 4 3) = some ⟨4, encL l5, false, g6⟩ → k_fun_Call_1 SP (E SP (.loop b_fun_Call_1) ⟨e, f :: S⟩) = .ok (.v (.tup [.agg [.int .i64 ra.k, .int .i64 ra.n, .str ra.s, .list 4 (encL ra.l) false], .int .i64 rb])) S
def At_fun_Call_1b (l_ : List V) (i7 : Int) (i8 : Int) (i9 : Int) (s10 : List UInt8) (l11 : List V) (g12 : Nat) (ra : V) (rb : Int) : Prop := ∀ (S : Sto) (e : Nat → PV) (f : Fr), e 1 = .list 4 (encL l_) false ∧ e 4 = .ptr 0 4 0 ∧ e 6 = .ptr 0 6 0 ∧ e 33 = .list 4 (encL l_) false ∧ e 34 = .int .i64 ((l_.length : Nat) : Int) ∧ e 35 = .int .i64 i7 ∧ f.box 4 = some [.int .i64 i8, .int .i64 i9, .str s10, .sl 0 (.cell 4 3) 0 l11.length l11.length g12 false] ∧ f.box 6 = some [.int .i64 1, .int .i64 1073741824, .list 1 ([38].map eF) false, .func 40 []] ∧ f.arr (.cell 4 3) = some ⟨4, encL l11, false, g12⟩ → k_fun_Call_1 SP (E SP (.loop b_fun_Call_1) ⟨e, f :: S⟩) = .ok (.v (.tup [.agg [.int .i64 ra.k, .int .i64 ra.n, .str ra.s, .list 4 (encL ra.l) false], .int .i64 rb])) S
def At_fun_Call_1c (l_ : List V) (i13 : Int) (i14 : Int) (i15 : Int) (s16 : List UInt8) (l17 : List V) (g18 : Nat) (ra : V) (rb : Int) : Prop := ∀ (S : Sto) (e : Nat → PV) (f : Fr), e 1 = .list 4 (encL l_) false ∧ e 4 = .ptr 0 4 0 ∧ e 6 = .ptr 0 6 0 ∧ e 33 = .list 4 (encL l_) false ∧ e 34 = .int .i64 ((l_.length : Nat) : Int) ∧ e 35 = .int .i64 i13 ∧ f.box 4 = some [.int .i64 i14, .int .i64 i15, .str s16, .sl 0 (.cell 4 3) 0 l17.length l17.length g18 false] ∧ f.box 6 = some [.int .i64 1, .int .i64 1, .list 1 ([41].map eF) false, .func 42 []] ∧ f.arr (.cell 4 3) = some ⟨4, encL l17, false, g18⟩ → k_fun_Call_1 SP (E SP (.loop b_fun_Call_1) ⟨e, f :: S⟩) = .ok (.v (.tup [.agg [.int .i64 ra.k, .int .i64 ra.n, .str ra.s, .list 4 (encL ra.l) false], .int .i64 rb])) S
def At_fun_Call_1d (l_ : List V) (i19 : Int) (i20 : Int) (i21 : Int) (s22 : List UInt8) (l23 : List V) (g24 : Nat) (ra : V) (rb : Int) : Prop := ∀ (S : Sto) (e : Nat → PV) (f : Fr), e 1 = .list 4 (encL l_) false ∧ e 4 = .ptr 0 4 0 ∧ e 6 = .ptr 0 6 0 ∧ e 33 = .list 4 (encL l_) false ∧ e 34 = .int .i64 ((l_.length : Nat) : Int) ∧ e 35 = .int .i64 i19 ∧ f.box 4 = some [.int .i64 i20, .int .i64 i21, .str s22, .sl 0 (.cell 4 3) 0 l23.length l23.length g24 false] ∧ f.box 6 = some [.int .i64 1, .int .i64 1, .list 1 ([43].map eF) false, .func 44 []] ∧ f.arr (.cell 4 3) = some ⟨4, encL l23, false, g24⟩ → k_fun_Call_1 SP (E SP (.loop b_fun_Call_1) ⟨e, f :: S⟩) = .ok (.v (.tup [.agg [.int .i64 ra.k, .int .i64 ra.n, .str ra.s, .list 4 (encL ra.l) false], .int .i64 rb])) S
def At_fun_Call_1e (l_ : List V) (i25 : Int) (i26 : Int) (i27 : Int) (s28 : List UInt8) (l29 : List V) (g30 : Nat) (ra : V) (rb : Int) : Prop := ∀ (S : Sto) (e : Nat → PV) (f : Fr), e 1 = .list 4 (encL l_) false ∧ e 4 = .ptr 0 4 0 ∧ e 6 = .ptr 0 6 0 ∧ e 33 = .list 4 (encL l_) false ∧ e 34 = .int .i64 ((l_.length : Nat) : Int) ∧ e 35 = .int .i64 i25 ∧ f.box 4 = some [.int .i64 i26, .int .i64 i27, .str s28, .sl 0 (.cell 4 3) 0 l29.length l29.length g30 false] ∧ f.box 6 = some [.int .i64 1, .int .i64 1073741824, .list 1 ([45].map eF) false, .func 46 []] ∧ f.arr (.cell 4 3) = some ⟨4, encL l29, false, g30⟩ → k_fun_Call_1 SP (E SP (.loop b_fun_Call_1) ⟨e, f :: S⟩) = .ok (.v (.tup [.agg [.int .i64 ra.k, .int .i64 ra.n, .str ra.s, .list 4 (encL ra.l) false], .int .i64 rb])) S
def At_fun_Call_1f (l_ : List V) (i31 : Int) (i32 : Int) (i33 : Int) (s34 : List UInt8) (l35 : List V) (g36 : Nat) (ra : V) (rb : Int) : Prop := ∀ (S : Sto) (e : Nat → PV) (f : Fr), e 1 = .list 4 (encL l_) false ∧ e 4 = .ptr 0 4 0 ∧ e 6 = .ptr 0 6 0 ∧ e 33 = .list 4 (encL l_) false ∧ e 34 = .int .i64 ((l_.length : Nat) : Int) ∧ e 35 = .int .i64 i31 ∧ f.box 4 = some [.int .i64 i32, .int .i64 i33, .str s34, .sl 0 (.cell 4 3) 0 l35.length l35.length g36 false] ∧ f.box 6 = some [.int .i64 2, .int .i64 2, .list 1 ([47, 48].map eF) false, .func 49 []] ∧ f.arr (.cell 4 3) = some ⟨4, encL l35, false, g36⟩ → k_fun_Call_1 SP (E SP (.loop b_fun_Call_1) ⟨e, f :: S⟩) = .ok (.v (.tup [.agg [.int .i64 ra.k, .int .i64 ra.n, .str ra.s, .list 4 (encL ra.l) false], .int .i64 rb])) S
def At_fun_Call_1g (l_ : List V) (i37 : Int) (i38 : Int) (i39 : Int) (s40 : List UInt8) (l41 : List V) (g42 : Nat) (ra : V) (rb : Int) : Prop := ∀ (S : Sto) (e : Nat → PV) (f : Fr), e 1 = .list 4 (encL l_) false ∧ e 4 = .ptr 0 4 0 ∧ e 6 = .ptr 0 6 0 ∧ e 33 = .list 4 (encL l_) false ∧ e 34 = .int .i64 ((l_.length : Nat) : Int) ∧ e 35 = .int .i64 i37 ∧ f.box 4 = some [.int .i64 i38, .int .i64 i39, .str s40, .sl 0 (.cell 4 3) 0 l41.length l41.length g42 false] ∧ f.box 6 = some [.int .i64 1, .int .i64 1, .list 1 ([38].map eF) false, .func 50 []] ∧ f.arr (.cell 4 3) = some ⟨4, encL l41, false, g42⟩ → k_fun_Call_1 SP (E SP (.loop b_fun_Call_1) ⟨e, f :: S⟩) = .ok (.v (.tup [.agg [.int .i64 ra.k, .int .i64 ra.n, .str ra.s, .list 4 (encL ra.l) false], .int .i64 rb])) S
def At_fun_Call_1h (l_ : List V) (i43 : Int) (i44 : Int) (i45 : Int) (s46 : List UInt8) (l47 : List V) (g48 : Nat) (ra : V) (rb : Int) : Prop := ∀ (S : Sto) (e : Nat → PV) (f : Fr), e 1 = .list 4 (encL l_) false ∧ e 4 = .ptr 0 4 0 ∧ e 6 = .ptr 0 6 0 ∧ e 33 = .list 4 (encL l_) false ∧ e 34 = .int .i64 ((l_.length : Nat) : Int) ∧ e 35 = .int .i64 i43 ∧ f.box 4 = some [.int .i64 i44, .int .i64 i45, .str s46, .sl 0 (.cell 4 3) 0 l47.length l47.length g48 false] ∧ f.box 6 = some [.int .i64 1, .int .i64 1, .list 1 ([38].map eF) false, .func 51 []] ∧ f.arr (.cell 4 3) = some ⟨4, encL l47, false, g48⟩ → k_fun_Call_1 SP (E SP (.loop b_fun_Call_1) ⟨e, f :: S⟩) = .ok (.v (.tup [.agg [.int .i64 ra.k, .int .i64 ra.n, .str ra.s, .list 4 (encL ra.l) false], .int .i64 rb])) S
def At_fun_Call_1i (l_ : List V) (i49 : Int) (i50 : Int) (i51 : Int) (s52 : List UInt8) (l53 : List V) (g54 : Nat) (ra : V) (rb : Int) : Prop := ∀ (S : Sto) (e : Nat → PV) (f : Fr), e 1 = .list 4 (encL l_) false ∧ e 4 = .ptr 0 4 0 ∧ e 6 = .ptr 0 6 0 ∧ e 33 = .list 4 (encL l_) false ∧ e 34 = .int .i64 ((l_.length : Nat) : Int) ∧ e 35 = .int .i64 i49 ∧ f.box 4 = some [.int .i64 i50, .int .i64 i51, .str s52, .sl 0 (.cell 4 3) 0 l53.length l53.length g54 false] ∧ f.box 6 = some [.int .i64 2, .int .i64 2, .list 1 ([45, 52].map eF) false, .func 53 []] ∧ f.arr (.cell 4 3) = some ⟨4, encL l53, false, g54⟩ → k_fun_Call_1 SP (E SP (.loop b_fun_Call_1) ⟨e, f :: S⟩) = .ok (.v (.tup [.agg [.int .i64 ra.k, .int .i64 ra.n, .str ra.s, .list 4 (encL ra.l) false], .int .i64 rb])) S
def At_fun_Call_1j (l_ : List V) (i55 : Int) (i56 : Int) (i57 : Int) (s58 : List UInt8) (l59 : List V) (g60 : Nat) (ra : V) (rb : Int) : Prop := ∀ (S : Sto) (e : Nat → PV) (f : Fr), e 1 = .list 4 (encL l_) false ∧ e 4 = .ptr 0 4 0 ∧ e 6 = .ptr 0 6 0 ∧ e 33 = .list 4 (encL l_) false ∧ e 34 = .int .i64 ((l_.length : Nat) : Int) ∧ e 35 = .int .i64 i55 ∧ f.box 4 = some [.int .i64 i56, .int .i64 i57, .str s58, .sl 0 (.cell 4 3) 0 l59.length l59.length g60 false] ∧ f.box 6 = some [.int .i64 1, .int .i64 1, .list 1 ([52].map eF) false, .func 54 []] ∧ f.arr (.cell 4 3) = some ⟨4, encL l59, false, g60⟩ → k_fun_Call_1 SP (E SP (.loop b_fun_Call_1) ⟨e, f :: S⟩) = .ok (.v (.tup [.agg [.int .i64 ra.k, .int .i64 ra.n, .str ra.s, .list 4 (encL ra.l) false], .int .i64 rb])) S
set_option maxHeartbeats 4000000 in
theorem At_fun_Call_1_step (l_ : List V) (i1 : Int) (i2 : Int) (i3 : Int) (s4 : List UInt8) (l5 : List V) (g6 : Nat) (ra : V) (rb : Int) (T :
  ((i1 < ((l_.length : Nat) : Int)) →
  (0 ≤ i1) ∧
  ∃ (v61 : V), (l_[i1.toNat]? = some v61) ∧
  (((if 0 < i1 then 0 else i1) = 0) →
   ∃ (r62 : Bool), (R_fun_number v61 r62) ∧
   ((r62 = true) →
    (I64 (i1 + 1)) ∧
    At_fun_Call_1 l_ (i1 + 1) i2 i3 s4 l5 g6 ra rb) ∧
   (¬ (r62 = true) →
    (V.mk 0 0 [] []) = ra ∧ 7 = rb)) ∧
  (¬ ((if 0 < i1 then 0 else i1) = 0) →
   False /- index -/)) ∧
 (¬ (i1 < ((l_.length : Nat) : Int)) →
  ∃ (r63 : V) (r64 : Int), (R_fun_least l_ r63 r64) ∧
  r63 = ra ∧ r64 = rb)) : At_fun_Call_1 l_ i1 i2 i3 s4 l5 g6 ra rb := by
 intro S e f h
 unfold k_fun_Call_1
 rw [E_loop]
 by_cases c1 : i1 < ((l_.length : Nat) : Int)
 · replace T := T.1 c1
   obtain ⟨p2, v61, q3, T⟩ := T
   by_cases c4 : (if 0 < i1 then 0 else i1) = 0
   · replace T := T.1 c4
     obtain ⟨r62, q5, T⟩ := T
     simp only [R_fun_number, le] at q5
     by_cases c6 : r62 = true
     · replace T := T.1 c6
       obtain ⟨p7, T⟩ := T
       try simp only [h, eq_true c1, p2, q3, c4, q5, c6, p7.wrap, U_fun_Call, i_fun_rules, U_fun_rules, lw, le, Nat.zero_le, Nat.sub_zero, take_app3, set_get, take_set, List.length_set, List.map_set, reduceIte, reduceCtorEq, Nat.reduceEqDiff, Nat.reduceAdd, Nat.reduceLeDiff, Nat.reduceSub, Nat.reduceLT, Int.reduceEq, Int.reduceLT, Int.reduceLE, Int.reduceToNat, Int.reduceAdd, Int.reduceSub, Int.reduceMul, Int.reduceNeg, Int.cast_ofNat_Int]
       refine T S _ _ ?_
       simp only [h, eq_true c1, p2, q3, c4, q5, c6, p7.wrap, U_fun_Call, i_fun_rules, U_fun_rules, lw, le, Nat.zero_le, Nat.sub_zero, take_app3, set_get, take_set, List.length_set, List.map_set, reduceIte, reduceCtorEq, Nat.reduceEqDiff, Nat.reduceAdd, Nat.reduceLeDiff, Nat.reduceSub, Nat.reduceLT, Int.reduceEq, Int.reduceLT, Int.reduceLE, Int.reduceToNat, Int.reduceAdd, Int.reduceSub, Int.reduceMul, Int.reduceNeg, Int.cast_ofNat_Int]
     · replace T := T.2 c6
       replace c6 := Bool.eq_false_iff.2 c6
       obtain ⟨rfl, rfl⟩ := T
       simp only [h, eq_true c1, p2, q3, c4, q5, c6, U_fun_Call, i_fun_rules, U_fun_rules, lw, le, Nat.zero_le, Nat.sub_zero, take_app3, set_get, take_set, List.length_set, List.map_set, reduceIte, reduceCtorEq, Nat.reduceEqDiff, Nat.reduceAdd, Nat.reduceLeDiff, Nat.reduceSub, Nat.reduceLT, Int.reduceEq, Int.reduceLT, Int.reduceLE, Int.reduceToNat, Int.reduceAdd, Int.reduceSub, Int.reduceMul, Int.reduceNeg, Int.cast_ofNat_Int]
   · replace T := T.2 c4
     exact T.elim
 · replace T := T.2 c1
   obtain ⟨r63, r64, q8, rfl, rfl⟩ := T
   simp only [R_fun_least, le] at q8
   simp only [h, eq_false c1, q8, U_fun_Call, i_fun_rules, U_fun_rules, lw, le, Nat.zero_le, Nat.sub_zero, take_app3, set_get, take_set, List.length_set, List.map_set, reduceIte, reduceCtorEq, Nat.reduceEqDiff, Nat.reduceAdd, Nat.reduceLeDiff, Nat.reduceSub, Nat.reduceLT, Int.reduceEq, Int.reduceLT, Int.reduceLE, Int.reduceToNat, Int.reduceAdd, Int.reduceSub, Int.reduceMul, Int.reduceNeg, Int.cast_ofNat_Int]
set_option maxHeartbeats 4000000 in
theorem At_fun_Call_1b_step (l_ : List V) (i7 : Int) (i8 : Int) (i9 : Int) (s10 : List UInt8) (l11 : List V) (g12 : Nat) (ra : V) (rb : Int) (T :
  ((i7 < ((l_.length : Nat) : Int)) →
  (0 ≤ i7) ∧
  ∃ (v65 : V), (l_[i7.toNat]? = some v65) ∧
  (((if 0 < i7 then 0 else i7) = 0) →
   ∃ (r66 : Bool), (R_fun_number v65 r66) ∧
   ((r66 = true) →
    (I64 (i7 + 1)) ∧
    At_fun_Call_1b l_ (i7 + 1) i8 i9 s10 l11 g12 ra rb) ∧
   (¬ (r66 = true) →
    (V.mk 0 0 [] []) = ra ∧ 7 = rb)) ∧
  (¬ ((if 0 < i7 then 0 else i7) = 0) →
   False /- index -/)) ∧
 (¬ (i7 < ((l_.length : Nat) : Int)) →
  ∃ (r67 : V) (r68 : Int), (R_fun_greatest l_ r67 r68) ∧
  r67 = ra ∧ r68 = rb)) : At_fun_Call_1b l_ i7 i8 i9 s10 l11 g12 ra rb := by
 intro S e f h
 unfold k_fun_Call_1
 rw [E_loop]
 by_cases c1 : i7 < ((l_.length : Nat) : Int)
 · replace T := T.1 c1
   obtain ⟨p2, v65, q3, T⟩ := T
   by_cases c4 : (if 0 < i7 then 0 else i7) = 0
   · replace T := T.1 c4
     obtain ⟨r66, q5, T⟩ := T
     simp only [R_fun_number, le] at q5
     by_cases c6 : r66 = true
     · replace T := T.1 c6
       obtain ⟨p7, T⟩ := T
       try simp only [h, eq_true c1, p2, q3, c4, q5, c6, p7.wrap, U_fun_Call, i_fun_rules, U_fun_rules, lw, le, Nat.zero_le, Nat.sub_zero, take_app3, set_get, take_set, List.length_set, List.map_set, reduceIte, reduceCtorEq, Nat.reduceEqDiff, Nat.reduceAdd, Nat.reduceLeDiff, Nat.reduceSub, Nat.reduceLT, Int.reduceEq, Int.reduceLT, Int.reduceLE, Int.reduceToNat, Int.reduceAdd, Int.reduceSub, Int.reduceMul, Int.reduceNeg, Int.cast_ofNat_Int]
       refine T S _ _ ?_
       simp only [h, eq_true c1, p2, q3, c4, q5, c6, p7.wrap, U_fun_Call, i_fun_rules, U_fun_rules, lw, le, Nat.zero_le, Nat.sub_zero, take_app3, set_get, take_set, List.length_set, List.map_set, reduceIte, reduceCtorEq, Nat.reduceEqDiff, Nat.reduceAdd, Nat.reduceLeDiff, Nat.reduceSub, Nat.reduceLT, Int.reduceEq, Int.reduceLT, Int.reduceLE, Int.reduceToNat, Int.reduceAdd, Int.reduceSub, Int.reduceMul, Int.reduceNeg, Int.cast_ofNat_Int]
     · replace T := T.2 c6
       replace c6 := Bool.eq_false_iff.2 c6
       obtain ⟨rfl, rfl⟩ := T
       simp only [h, eq_true c1, p2, q3, c4, q5, c6, U_fun_Call, i_fun_rules, U_fun_rules, lw, le, Nat.zero_le, Nat.sub_zero, take_app3, set_get, take_set, List.length_set, List.map_set, reduceIte, reduceCtorEq, Nat.reduceEqDiff, Nat.reduceAdd, Nat.reduceLeDiff, Nat.reduceSub, Nat.reduceLT, Int.reduceEq, Int.reduceLT, Int.reduceLE, Int.reduceToNat, Int.reduceAdd, Int.reduceSub, Int.reduceMul, Int.reduceNeg, Int.cast_ofNat_Int]
   · replace T := T.2 c4
     exact T.elim
 · replace T := T.2 c1
   obtain ⟨r67, r68, q8, rfl, rfl⟩ := T
   simp only [R_fun_greatest, le] at q8
   simp only [h, eq_false c1, q8, U_fun_Call, i_fun_rules, U_fun_rules, lw, le, Nat.zero_le, Nat.sub_zero, take_app3, set_get, take_set, List.length_set, List.map_set, reduceIte, reduceCtorEq, Nat.reduceEqDiff, Nat.reduceAdd, Nat.reduceLeDiff, Nat.reduceSub, Nat.reduceLT, Int.reduceEq, Int.reduceLT, Int.reduceLE, Int.reduceToNat, Int.reduceAdd, Int.reduceSub, Int.reduceMul, Int.reduceNeg, Int.cast_ofNat_Int]
set_option maxHeartbeats 4000000 in
theorem At_fun_Call_1c_step (l_ : List V) (i13 : Int) (i14 : Int) (i15 : Int) (s16 : List UInt8) (l17 : List V) (g18 : Nat) (ra : V) (rb : Int) (T :
  ((i13 < ((l_.length : Nat) : Int)) →
  (0 ≤ i13) ∧
  ∃ (v69 : V), (l_[i13.toNat]? = some v69) ∧
  (((if 0 < i13 then 0 else i13) = 0) →
   ∃ (r70 : Bool), (R_fun_numbers v69 r70) ∧
   ((r70 = true) →
    (I64 (i13 + 1)) ∧
    At_fun_Call_1c l_ (i13 + 1) i14 i15 s16 l17 g18 ra rb) ∧
   (¬ (r70 = true) →
    (V.mk 0 0 [] []) = ra ∧ 7 = rb)) ∧
  (¬ ((if 0 < i13 then 0 else i13) = 0) →
   False /- index -/)) ∧
 (¬ (i13 < ((l_.length : Nat) : Int)) →
  ∃ (r71 : V) (r72 : Int), (R_fun_sum l_ r71 r72) ∧
  r71 = ra ∧ r72 = rb)) : At_fun_Call_1c l_ i13 i14 i15 s16 l17 g18 ra rb := by
 intro S e f h
 unfold k_fun_Call_1
 rw [E_loop]
 by_cases c1 : i13 < ((l_.length : Nat) : Int)
 · replace T := T.1 c1
   obtain ⟨p2, v69, q3, T⟩ := T
   by_cases c4 : (if 0 < i13 then 0 else i13) = 0
   · replace T := T.1 c4
     obtain ⟨r70, q5, T⟩ := T
     simp only [R_fun_numbers, le] at q5
     by_cases c6 : r70 = true
     · replace T := T.1 c6
       obtain ⟨p7, T⟩ := T
       try simp only [h, eq_true c1, p2, q3, c4, q5, c6, p7.wrap, U_fun_Call, i_fun_rules, U_fun_rules, lw, le, Nat.zero_le, Nat.sub_zero, take_app3, set_get, take_set, List.length_set, List.map_set, reduceIte, reduceCtorEq, Nat.reduceEqDiff, Nat.reduceAdd, Nat.reduceLeDiff, Nat.reduceSub, Nat.reduceLT, Int.reduceEq, Int.reduceLT, Int.reduceLE, Int.reduceToNat, Int.reduceAdd, Int.reduceSub, Int.reduceMul, Int.reduceNeg, Int.cast_ofNat_Int]
       refine T S _ _ ?_
       simp only [h, eq_true c1, p2, q3, c4, q5, c6, p7.wrap, U_fun_Call, i_fun_rules, U_fun_rules, lw, le, Nat.zero_le, Nat.sub_zero, take_app3, set_get, take_set, List.length_set, List.map_set, reduceIte, reduceCtorEq, Nat.reduceEqDiff, Nat.reduceAdd, Nat.reduceLeDiff, Nat.reduceSub, Nat.reduceLT, Int.reduceEq, Int.reduceLT, Int.reduceLE, Int.reduceToNat, Int.reduceAdd, Int.reduceSub, Int.reduceMul, Int.reduceNeg, Int.cast_ofNat_Int]
     · replace T := T.2 c6
       replace c6 := Bool.eq_false_iff.2 c6
       obtain ⟨rfl, rfl⟩ := T
       simp only [h, eq_true c1, p2, q3, c4, q5, c6, U_fun_Call, i_fun_rules, U_fun_rules, lw, le, Nat.zero_le, Nat.sub_zero, take_app3, set_get, take_set, List.length_set, List.map_set, reduceIte, reduceCtorEq, Nat.reduceEqDiff, Nat.reduceAdd, Nat.reduceLeDiff, Nat.reduceSub, Nat.reduceLT, Int.reduceEq, Int.reduceLT, Int.reduceLE, Int.reduceToNat, Int.reduceAdd, Int.reduceSub, Int.reduceMul, Int.reduceNeg, Int.cast_ofNat_Int]
   · replace T := T.2 c4
     exact T.elim
 · replace T := T.2 c1
   obtain ⟨r71, r72, q8, rfl, rfl⟩ := T
   simp only [R_fun_sum, le] at q8
   simp only [h, eq_false c1, q8, U_fun_Call, i_fun_rules, U_fun_rules, lw, le, Nat.zero_le, Nat.sub_zero, take_app3, set_get, take_set, List.length_set, List.map_set, reduceIte, reduceCtorEq, Nat.reduceEqDiff, Nat.reduceAdd, Nat.reduceLeDiff, Nat.reduceSub, Nat.reduceLT, Int.reduceEq, Int.reduceLT, Int.reduceLE, Int.reduceToNat, Int.reduceAdd, Int.reduceSub, Int.reduceMul, Int.reduceNeg, Int.cast_ofNat_Int]
set_option maxHeartbeats 4000000 in
theorem At_fun_Call_1d_step (l_ : List V) (i19 : Int) (i20 : Int) (i21 : Int) (s22 : List UInt8) (l23 : List V) (g24 : Nat) (ra : V) (rb : Int) (T :
  ((i19 < ((l_.length : Nat) : Int)) →
  (0 ≤ i19) ∧
  ∃ (v73 : V), (l_[i19.toNat]? = some v73) ∧
  (((if 0 < i19 then 0 else i19) = 0) →
   ∃ (r74 : Bool), (R_fun_long v73 r74) ∧
   ((r74 = true) →
    (I64 (i19 + 1)) ∧
    At_fun_Call_1d l_ (i19 + 1) i20 i21 s22 l23 g24 ra rb) ∧
   (¬ (r74 = true) →
    (V.mk 0 0 [] []) = ra ∧ 7 = rb)) ∧
  (¬ ((if 0 < i19 then 0 else i19) = 0) →
   False /- index -/)) ∧
 (¬ (i19 < ((l_.length : Nat) : Int)) →
  ∃ (r75 : V) (r76 : Int), (R_fun_length l_ r75 r76) ∧
  r75 = ra ∧ r76 = rb)) : At_fun_Call_1d l_ i19 i20 i21 s22 l23 g24 ra rb := by
 intro S e f h
 unfold k_fun_Call_1
 rw [E_loop]
 by_cases c1 : i19 < ((l_.length : Nat) : Int)
 · replace T := T.1 c1
   obtain ⟨p2, v73, q3, T⟩ := T
   by_cases c4 : (if 0 < i19 then 0 else i19) = 0
   · replace T := T.1 c4
     obtain ⟨r74, q5, T⟩ := T
     simp only [R_fun_long, le] at q5
     by_cases c6 : r74 = true
     · replace T := T.1 c6
       obtain ⟨p7, T⟩ := T
       try simp only [h, eq_true c1, p2, q3, c4, q5, c6, p7.wrap, U_fun_Call, i_fun_rules, U_fun_rules, lw, le, Nat.zero_le, Nat.sub_zero, take_app3, set_get, take_set, List.length_set, List.map_set, reduceIte, reduceCtorEq, Nat.reduceEqDiff, Nat.reduceAdd, Nat.reduceLeDiff, Nat.reduceSub, Nat.reduceLT, Int.reduceEq, Int.reduceLT, Int.reduceLE, Int.reduceToNat, Int.reduceAdd, Int.reduceSub, Int.reduceMul, Int.reduceNeg, Int.cast_ofNat_Int]
       refine T S _ _ ?_
       simp only [h, eq_true c1, p2, q3, c4, q5, c6, p7.wrap, U_fun_Call, i_fun_rules, U_fun_rules, lw, le, Nat.zero_le, Nat.sub_zero, take_app3, set_get, take_set, List.length_set, List.map_set, reduceIte, reduceCtorEq, Nat.reduceEqDiff, Nat.reduceAdd, Nat.reduceLeDiff, Nat.reduceSub, Nat.reduceLT, Int.reduceEq, Int.reduceLT, Int.reduceLE, Int.reduceToNat, Int.reduceAdd, Int.reduceSub, Int.reduceMul, Int.reduceNeg, Int.cast_ofNat_Int]
     · replace T := T.2 c6
       replace c6 := Bool.eq_false_iff.2 c6
       obtain ⟨rfl, rfl⟩ := T
       simp only [h, eq_true c1, p2, q3, c4, q5, c6, U_fun_Call, i_fun_rules, U_fun_rules, lw, le, Nat.zero_le, Nat.sub_zero, take_app3, set_get, take_set, List.length_set, List.map_set, reduceIte, reduceCtorEq, Nat.reduceEqDiff, Nat.reduceAdd, Nat.reduceLeDiff, Nat.reduceSub, Nat.reduceLT, Int.reduceEq, Int.reduceLT, Int.reduceLE, Int.reduceToNat, Int.reduceAdd, Int.reduceSub, Int.reduceMul, Int.reduceNeg, Int.cast_ofNat_Int]
   · replace T := T.2 c4
     exact T.elim
 · replace T := T.2 c1
   obtain ⟨r75, r76, q8, rfl, rfl⟩ := T
   simp only [R_fun_length, le] at q8
   simp only [h, eq_false c1, q8, U_fun_Call, i_fun_rules, U_fun_rules, lw, le, Nat.zero_le, Nat.sub_zero, take_app3, set_get, take_set, List.length_set, List.map_set, reduceIte, reduceCtorEq, Nat.reduceEqDiff, Nat.reduceAdd, Nat.reduceLeDiff, Nat.reduceSub, Nat.reduceLT, Int.reduceEq, Int.reduceLT, Int.reduceLE, Int.reduceToNat, Int.reduceAdd, Int.reduceSub, Int.reduceMul, Int.reduceNeg, Int.cast_ofNat_Int]
set_option maxHeartbeats 4000000 in
theorem At_fun_Call_1e_step (l_ : List V) (i25 : Int) (i26 : Int) (i27 : Int) (s28 : List UInt8) (l29 : List V) (g30 : Nat) (ra : V) (rb : Int) (T :
  ((i25 < ((l_.length : Nat) : Int)) →
  (0 ≤ i25) ∧
  ∃ (v77 : V), (l_[i25.toNat]? = some v77) ∧
  (((if 0 < i25 then 0 else i25) = 0) →
   ∃ (r78 : Bool), (R_fun_list v77 r78) ∧
   ((r78 = true) →
    (I64 (i25 + 1)) ∧
    At_fun_Call_1e l_ (i25 + 1) i26 i27 s28 l29 g30 ra rb) ∧
   (¬ (r78 = true) →
    (V.mk 0 0 [] []) = ra ∧ 7 = rb)) ∧
  (¬ ((if 0 < i25 then 0 else i25) = 0) →
   False /- index -/)) ∧
 (¬ (i25 < ((l_.length : Nat) : Int)) →
  ∃ (r79 : V) (r80 : Int), (R_fun_concat l_ r79 r80) ∧
  r79 = ra ∧ r80 = rb)) : At_fun_Call_1e l_ i25 i26 i27 s28 l29 g30 ra rb := by
 intro S e f h
 unfold k_fun_Call_1
 rw [E_loop]
 by_cases c1 : i25 < ((l_.length : Nat) : Int)
 · replace T := T.1 c1
   obtain ⟨p2, v77, q3, T⟩ := T
   by_cases c4 : (if 0 < i25 then 0 else i25) = 0
   · replace T := T.1 c4
     obtain ⟨r78, q5, T⟩ := T
     simp only [R_fun_list, le] at q5
     by_cases c6 : r78 = true
     · replace T := T.1 c6
       obtain ⟨p7, T⟩ := T
       try simp only [h, eq_true c1, p2, q3, c4, q5, c6, p7.wrap, U_fun_Call, i_fun_rules, U_fun_rules, lw, le, Nat.zero_le, Nat.sub_zero, take_app3, set_get, take_set, List.length_set, List.map_set, reduceIte, reduceCtorEq, Nat.reduceEqDiff, Nat.reduceAdd, Nat.reduceLeDiff, Nat.reduceSub, Nat.reduceLT, Int.reduceEq, Int.reduceLT, Int.reduceLE, Int.reduceToNat, Int.reduceAdd, Int.reduceSub, Int.reduceMul, Int.reduceNeg, Int.cast_ofNat_Int]
       refine T S _ _ ?_
       simp only [h, eq_true c1, p2, q3, c4, q5, c6, p7.wrap, U_fun_Call, i_fun_rules, U_fun_rules, lw, le, Nat.zero_le, Nat.sub_zero, take_app3, set_get, take_set, List.length_set, List.map_set, reduceIte, reduceCtorEq, Nat.reduceEqDiff, Nat.reduceAdd, Nat.reduceLeDiff, Nat.reduceSub, Nat.reduceLT, Int.reduceEq, Int.reduceLT, Int.reduceLE, Int.reduceToNat, Int.reduceAdd, Int.reduceSub, Int.reduceMul, Int.reduceNeg, Int.cast_ofNat_Int]
     · replace T := T.2 c6
       replace c6 := Bool.eq_false_iff.2 c6
       obtain ⟨rfl, rfl⟩ := T
       simp only [h, eq_true c1, p2, q3, c4, q5, c6, U_fun_Call, i_fun_rules, U_fun_rules, lw, le, Nat.zero_le, Nat.sub_zero, take_app3, set_get, take_set, List.length_set, List.map_set, reduceIte, reduceCtorEq, Nat.reduceEqDiff, Nat.reduceAdd, Nat.reduceLeDiff, Nat.reduceSub, Nat.reduceLT, Int.reduceEq, Int.reduceLT, Int.reduceLE, Int.reduceToNat, Int.reduceAdd, Int.reduceSub, Int.reduceMul, Int.reduceNeg, Int.cast_ofNat_Int]
   · replace T := T.2 c4
     exact T.elim
 · replace T := T.2 c1
   obtain ⟨r79, r80, q8, rfl, rfl⟩ := T
   simp only [R_fun_concat, le] at q8
   simp only [h, eq_false c1, q8, U_fun_Call, i_fun_rules, U_fun_rules, lw, le, Nat.zero_le, Nat.sub_zero, take_app3, set_get, take_set, List.length_set, List.map_set, reduceIte, reduceCtorEq, Nat.reduceEqDiff, Nat.reduceAdd, Nat.reduceLeDiff, Nat.reduceSub, Nat.reduceLT, Int.reduceEq, Int.reduceLT, Int.reduceLE, Int.reduceToNat, Int.reduceAdd, Int.reduceSub, Int.reduceMul, Int.reduceNeg, Int.cast_ofNat_Int]
set_option maxHeartbeats 4000000 in
theorem At_fun_Call_1f_step (l_ : List V) (i31 : Int) (i32 : Int) (i33 : Int) (s34 : List UInt8) (l35 : List V) (g36 : Nat) (ra : V) (rb : Int) (T :
  ((i31 < ((l_.length : Nat) : Int)) →
  (0 ≤ i31) ∧
  ∃ (v81 : V), (l_[i31.toNat]? = some v81) ∧
  (((if 1 < i31 then 1 else i31) = 0) →
   ∃ (r82 : Bool), (R_fun_text v81 r82) ∧
   ((r82 = true) →
    (I64 (i31 + 1)) ∧
    At_fun_Call_1f l_ (i31 + 1) i32 i33 s34 l35 g36 ra rb) ∧
   (¬ (r82 = true) →
    (V.mk 0 0 [] []) = ra ∧ 7 = rb)) ∧
  (¬ ((if 1 < i31 then 1 else i31) = 0) →
   (((if 1 < i31 then 1 else i31) = 1) →
    ∃ (r83 : Bool), (R_fun_texts v81 r83) ∧
    ((r83 = true) →
     (I64 (i31 + 1)) ∧
     At_fun_Call_1f l_ (i31 + 1) i32 i33 s34 l35 g36 ra rb) ∧
    (¬ (r83 = true) →
     (V.mk 0 0 [] []) = ra ∧ 7 = rb)) ∧
   (¬ ((if 1 < i31 then 1 else i31) = 1) →
    False /- index -/))) ∧
 (¬ (i31 < ((l_.length : Nat) : Int)) →
  ∃ (r84 : V) (r85 : Int), (R_fun_join l_ r84 r85) ∧
  r84 = ra ∧ r85 = rb)) : At_fun_Call_1f l_ i31 i32 i33 s34 l35 g36 ra rb := by
 intro S e f h
 unfold k_fun_Call_1
 rw [E_loop]
 by_cases c1 : i31 < ((l_.length : Nat) : Int)
 · replace T := T.1 c1
   obtain ⟨p2, v81, q3, T⟩ := T
   by_cases c4 : (if 1 < i31 then 1 else i31) = 0
   · replace T := T.1 c4
     obtain ⟨r82, q5, T⟩ := T
     simp only [R_fun_text, le] at q5
     by_cases c6 : r82 = true
     · replace T := T.1 c6
       obtain ⟨p7, T⟩ := T
       try simp only [h, eq_true c1, p2, q3, c4, q5, c6, p7.wrap, U_fun_Call, i_fun_rules, U_fun_rules, lw, le, Nat.zero_le, Nat.sub_zero, take_app3, set_get, take_set, List.length_set, List.map_set, reduceIte, reduceCtorEq, Nat.reduceEqDiff, Nat.reduceAdd, Nat.reduceLeDiff, Nat.reduceSub, Nat.reduceLT, Int.reduceEq, Int.reduceLT, Int.reduceLE, Int.reduceToNat, Int.reduceAdd, Int.reduceSub, Int.reduceMul, Int.reduceNeg, Int.cast_ofNat_Int]
       refine T S _ _ ?_
       simp only [h, eq_true c1, p2, q3, c4, q5, c6, p7.wrap, U_fun_Call, i_fun_rules, U_fun_rules, lw, le, Nat.zero_le, Nat.sub_zero, take_app3, set_get, take_set, List.length_set, List.map_set, reduceIte, reduceCtorEq, Nat.reduceEqDiff, Nat.reduceAdd, Nat.reduceLeDiff, Nat.reduceSub, Nat.reduceLT, Int.reduceEq, Int.reduceLT, Int.reduceLE, Int.reduceToNat, Int.reduceAdd, Int.reduceSub, Int.reduceMul, Int.reduceNeg, Int.cast_ofNat_Int]
     · replace T := T.2 c6
       replace c6 := Bool.eq_false_iff.2 c6
       obtain ⟨rfl, rfl⟩ := T
       simp only [h, eq_true c1, p2, q3, c4, q5, c6, U_fun_Call, i_fun_rules, U_fun_rules, lw, le, Nat.zero_le, Nat.sub_zero, take_app3, set_get, take_set, List.length_set, List.map_set, reduceIte, reduceCtorEq, Nat.reduceEqDiff, Nat.reduceAdd, Nat.reduceLeDiff, Nat.reduceSub, Nat.reduceLT, Int.reduceEq, Int.reduceLT, Int.reduceLE, Int.reduceToNat, Int.reduceAdd, Int.reduceSub, Int.reduceMul, Int.reduceNeg, Int.cast_ofNat_Int]
   · replace T := T.2 c4
     by_cases c8 : (if 1 < i31 then 1 else i31) = 1
     · replace T := T.1 c8
       obtain ⟨r83, q9, T⟩ := T
       simp only [R_fun_texts, le] at q9
       by_cases c10 : r83 = true
       · replace T := T.1 c10
         obtain ⟨p11, T⟩ := T
         try simp only [h, eq_true c1, p2, q3, eq_false c4, c8, q9, c10, p11.wrap, U_fun_Call, i_fun_rules, U_fun_rules, lw, le, Nat.zero_le, Nat.sub_zero, take_app3, set_get, take_set, List.length_set, List.map_set, reduceIte, reduceCtorEq, Nat.reduceEqDiff, Nat.reduceAdd, Nat.reduceLeDiff, Nat.reduceSub, Nat.reduceLT, Int.reduceEq, Int.reduceLT, Int.reduceLE, Int.reduceToNat, Int.reduceAdd, Int.reduceSub, Int.reduceMul, Int.reduceNeg, Int.cast_ofNat_Int]
         refine T S _ _ ?_
         simp only [h, eq_true c1, p2, q3, eq_false c4, c8, q9, c10, p11.wrap, U_fun_Call, i_fun_rules, U_fun_rules, lw, le, Nat.zero_le, Nat.sub_zero, take_app3, set_get, take_set, List.length_set, List.map_set, reduceIte, reduceCtorEq, Nat.reduceEqDiff, Nat.reduceAdd, Nat.reduceLeDiff, Nat.reduceSub, Nat.reduceLT, Int.reduceEq, Int.reduceLT, Int.reduceLE, Int.reduceToNat, Int.reduceAdd, Int.reduceSub, Int.reduceMul, Int.reduceNeg, Int.cast_ofNat_Int]
       · replace T := T.2 c10
         replace c10 := Bool.eq_false_iff.2 c10
         obtain ⟨rfl, rfl⟩ := T
         simp only [h, eq_true c1, p2, q3, eq_false c4, c8, q9, c10, U_fun_Call, i_fun_rules, U_fun_rules, lw, le, Nat.zero_le, Nat.sub_zero, take_app3, set_get, take_set, List.length_set, List.map_set, reduceIte, reduceCtorEq, Nat.reduceEqDiff, Nat.reduceAdd, Nat.reduceLeDiff, Nat.reduceSub, Nat.reduceLT, Int.reduceEq, Int.reduceLT, Int.reduceLE, Int.reduceToNat, Int.reduceAdd, Int.reduceSub, Int.reduceMul, Int.reduceNeg, Int.cast_ofNat_Int]
     · replace T := T.2 c8
       exact T.elim
 · replace T := T.2 c1
   obtain ⟨r84, r85, q12, rfl, rfl⟩ := T
   simp only [R_fun_join, le] at q12
   simp only [h, eq_false c1, q12, U_fun_Call, i_fun_rules, U_fun_rules, lw, le, Nat.zero_le, Nat.sub_zero, take_app3, set_get, take_set, List.length_set, List.map_set, reduceIte, reduceCtorEq, Nat.reduceEqDiff, Nat.reduceAdd, Nat.reduceLeDiff, Nat.reduceSub, Nat.reduceLT, Int.reduceEq, Int.reduceLT, Int.reduceLE, Int.reduceToNat, Int.reduceAdd, Int.reduceSub, Int.reduceMul, Int.reduceNeg, Int.cast_ofNat_Int]
set_option maxHeartbeats 4000000 in
theorem At_fun_Call_1g_step (l_ : List V) (i37 : Int) (i38 : Int) (i39 : Int) (s40 : List UInt8) (l41 : List V) (g42 : Nat) (ra : V) (rb : Int) (T :
  ((i37 < ((l_.length : Nat) : Int)) →
  (0 ≤ i37) ∧
  ∃ (v86 : V), (l_[i37.toNat]? = some v86) ∧
  (((if 0 < i37 then 0 else i37) = 0) →
   ∃ (r87 : Bool), (R_fun_number v86 r87) ∧
   ((r87 = true) →
    (I64 (i37 + 1)) ∧
    At_fun_Call_1g l_ (i37 + 1) i38 i39 s40 l41 g42 ra rb) ∧
   (¬ (r87 = true) →
    (V.mk 0 0 [] []) = ra ∧ 7 = rb)) ∧
  (¬ ((if 0 < i37 then 0 else i37) = 0) →
   False /- index -/)) ∧
 (¬ (i37 < ((l_.length : Nat) : Int)) →
  ∃ (r88 : V) (r89 : Int), (R_fun_span l_ r88 r89) ∧
  r88 = ra ∧ r89 = rb)) : At_fun_Call_1g l_ i37 i38 i39 s40 l41 g42 ra rb := by
 intro S e f h
 unfold k_fun_Call_1
 rw [E_loop]
 by_cases c1 : i37 < ((l_.length : Nat) : Int)
 · replace T := T.1 c1
   obtain ⟨p2, v86, q3, T⟩ := T
   by_cases c4 : (if 0 < i37 then 0 else i37) = 0
   · replace T := T.1 c4
     obtain ⟨r87, q5, T⟩ := T
     simp only [R_fun_number, le] at q5
     by_cases c6 : r87 = true
     · replace T := T.1 c6
       obtain ⟨p7, T⟩ := T
       try simp only [h, eq_true c1, p2, q3, c4, q5, c6, p7.wrap, U_fun_Call, i_fun_rules, U_fun_rules, lw, le, Nat.zero_le, Nat.sub_zero, take_app3, set_get, take_set, List.length_set, List.map_set, reduceIte, reduceCtorEq, Nat.reduceEqDiff, Nat.reduceAdd, Nat.reduceLeDiff, Nat.reduceSub, Nat.reduceLT, Int.reduceEq, Int.reduceLT, Int.reduceLE, Int.reduceToNat, Int.reduceAdd, Int.reduceSub, Int.reduceMul, Int.reduceNeg, Int.cast_ofNat_Int]
       refine T S _ _ ?_
       simp only [h, eq_true c1, p2, q3, c4, q5, c6, p7.wrap, U_fun_Call, i_fun_rules, U_fun_rules, lw, le, Nat.zero_le, Nat.sub_zero, take_app3, set_get, take_set, List.length_set, List.map_set, reduceIte, reduceCtorEq, Nat.reduceEqDiff, Nat.reduceAdd, Nat.reduceLeDiff, Nat.reduceSub, Nat.reduceLT, Int.reduceEq, Int.reduceLT, Int.reduceLE, Int.reduceToNat, Int.reduceAdd, Int.reduceSub, Int.reduceMul, Int.reduceNeg, Int.cast_ofNat_Int]
     · replace T := T.2 c6
       replace c6 := Bool.eq_false_iff.2 c6
       obtain ⟨rfl, rfl⟩ := T
       simp only [h, eq_true c1, p2, q3, c4, q5, c6, U_fun_Call, i_fun_rules, U_fun_rules, lw, le, Nat.zero_le, Nat.sub_zero, take_app3, set_get, take_set, List.length_set, List.map_set, reduceIte, reduceCtorEq, Nat.reduceEqDiff, Nat.reduceAdd, Nat.reduceLeDiff, Nat.reduceSub, Nat.reduceLT, Int.reduceEq, Int.reduceLT, Int.reduceLE, Int.reduceToNat, Int.reduceAdd, Int.reduceSub, Int.reduceMul, Int.reduceNeg, Int.cast_ofNat_Int]
   · replace T := T.2 c4
     exact T.elim
 · replace T := T.2 c1
   obtain ⟨r88, r89, q8, rfl, rfl⟩ := T
   simp only [R_fun_span, le] at q8
   simp only [h, eq_false c1, q8, U_fun_Call, i_fun_rules, U_fun_rules, lw, le, Nat.zero_le, Nat.sub_zero, take_app3, set_get, take_set, List.length_set, List.map_set, reduceIte, reduceCtorEq, Nat.reduceEqDiff, Nat.reduceAdd, Nat.reduceLeDiff, Nat.reduceSub, Nat.reduceLT, Int.reduceEq, Int.reduceLT, Int.reduceLE, Int.reduceToNat, Int.reduceAdd, Int.reduceSub, Int.reduceMul, Int.reduceNeg, Int.cast_ofNat_Int]
set_option maxHeartbeats 4000000 in
theorem At_fun_Call_1h_step (l_ : List V) (i43 : Int) (i44 : Int) (i45 : Int) (s46 : List UInt8) (l47 : List V) (g48 : Nat) (ra : V) (rb : Int) (T :
  ((i43 < ((l_.length : Nat) : Int)) →
  (0 ≤ i43) ∧
  ∃ (v90 : V), (l_[i43.toNat]? = some v90) ∧
  (((if 0 < i43 then 0 else i43) = 0) →
   ∃ (r91 : Bool), (R_fun_number v90 r91) ∧
   ((r91 = true) →
    (I64 (i43 + 1)) ∧
    At_fun_Call_1h l_ (i43 + 1) i44 i45 s46 l47 g48 ra rb) ∧
   (¬ (r91 = true) →
    (V.mk 0 0 [] []) = ra ∧ 7 = rb)) ∧
  (¬ ((if 0 < i43 then 0 else i43) = 0) →
   False /- index -/)) ∧
 (¬ (i43 < ((l_.length : Nat) : Int)) →
  ∃ (r92 : V) (r93 : Int), (R_fun_abs l_ r92 r93) ∧
  r92 = ra ∧ r93 = rb)) : At_fun_Call_1h l_ i43 i44 i45 s46 l47 g48 ra rb := by
 intro S e f h
 unfold k_fun_Call_1
 rw [E_loop]
 by_cases c1 : i43 < ((l_.length : Nat) : Int)
 · replace T := T.1 c1
   obtain ⟨p2, v90, q3, T⟩ := T
   by_cases c4 : (if 0 < i43 then 0 else i43) = 0
   · replace T := T.1 c4
     obtain ⟨r91, q5, T⟩ := T
     simp only [R_fun_number, le] at q5
     by_cases c6 : r91 = true
     · replace T := T.1 c6
       obtain ⟨p7, T⟩ := T
       try simp only [h, eq_true c1, p2, q3, c4, q5, c6, p7.wrap, U_fun_Call, i_fun_rules, U_fun_rules, lw, le, Nat.zero_le, Nat.sub_zero, take_app3, set_get, take_set, List.length_set, List.map_set, reduceIte, reduceCtorEq, Nat.reduceEqDiff, Nat.reduceAdd, Nat.reduceLeDiff, Nat.reduceSub, Nat.reduceLT, Int.reduceEq, Int.reduceLT, Int.reduceLE, Int.reduceToNat, Int.reduceAdd, Int.reduceSub, Int.reduceMul, Int.reduceNeg, Int.cast_ofNat_Int]
       refine T S _ _ ?_
       simp only [h, eq_true c1, p2, q3, c4, q5, c6, p7.wrap, U_fun_Call, i_fun_rules, U_fun_rules, lw, le, Nat.zero_le, Nat.sub_zero, take_app3, set_get, take_set, List.length_set, List.map_set, reduceIte, reduceCtorEq, Nat.reduceEqDiff, Nat.reduceAdd, Nat.reduceLeDiff, Nat.reduceSub, Nat.reduceLT, Int.reduceEq, Int.reduceLT, Int.reduceLE, Int.reduceToNat, Int.reduceAdd, Int.reduceSub, Int.reduceMul, Int.reduceNeg, Int.cast_ofNat_Int]
     · replace T := T.2 c6
       replace c6 := Bool.eq_false_iff.2 c6
       obtain ⟨rfl, rfl⟩ := T
       simp only [h, eq_true c1, p2, q3, c4, q5, c6, U_fun_Call, i_fun_rules, U_fun_rules, lw, le, Nat.zero_le, Nat.sub_zero, take_app3, set_get, take_set, List.length_set, List.map_set, reduceIte, reduceCtorEq, Nat.reduceEqDiff, Nat.reduceAdd, Nat.reduceLeDiff, Nat.reduceSub, Nat.reduceLT, Int.reduceEq, Int.reduceLT, Int.reduceLE, Int.reduceToNat, Int.reduceAdd, Int.reduceSub, Int.reduceMul, Int.reduceNeg, Int.cast_ofNat_Int]
   · replace T := T.2 c4
     exact T.elim
 · replace T := T.2 c1
   obtain ⟨r92, r93, q8, rfl, rfl⟩ := T
   simp only [R_fun_abs, le] at q8
   simp only [h, eq_false c1, q8, U_fun_Call, i_fun_rules, U_fun_rules, lw, le, Nat.zero_le, Nat.sub_zero, take_app3, set_get, take_set, List.length_set, List.map_set, reduceIte, reduceCtorEq, Nat.reduceEqDiff, Nat.reduceAdd, Nat.reduceLeDiff, Nat.reduceSub, Nat.reduceLT, Int.reduceEq, Int.reduceLT, Int.reduceLE, Int.reduceToNat, Int.reduceAdd, Int.reduceSub, Int.reduceMul, Int.reduceNeg, Int.cast_ofNat_Int]
set_option maxHeartbeats 4000000 in
theorem At_fun_Call_1i_step (l_ : List V) (i49 : Int) (i50 : Int) (i51 : Int) (s52 : List UInt8) (l53 : List V) (g54 : Nat) (ra : V) (rb : Int) (T :
  ((i49 < ((l_.length : Nat) : Int)) →
  (0 ≤ i49) ∧
  ∃ (v94 : V), (l_[i49.toNat]? = some v94) ∧
  (((if 1 < i49 then 1 else i49) = 0) →
   ∃ (r95 : Bool), (R_fun_list v94 r95) ∧
   ((r95 = true) →
    (I64 (i49 + 1)) ∧
    At_fun_Call_1i l_ (i49 + 1) i50 i51 s52 l53 g54 ra rb) ∧
   (¬ (r95 = true) →
    (V.mk 0 0 [] []) = ra ∧ 7 = rb)) ∧
  (¬ ((if 1 < i49 then 1 else i49) = 0) →
   (((if 1 < i49 then 1 else i49) = 1) →
    ∃ (r96 : Bool), (R_fun_any v94 r96) ∧
    ((r96 = true) →
     (I64 (i49 + 1)) ∧
     At_fun_Call_1i l_ (i49 + 1) i50 i51 s52 l53 g54 ra rb) ∧
    (¬ (r96 = true) →
     (V.mk 0 0 [] []) = ra ∧ 7 = rb)) ∧
   (¬ ((if 1 < i49 then 1 else i49) = 1) →
    False /- index -/))) ∧
 (¬ (i49 < ((l_.length : Nat) : Int)) →
  ∃ (r97 : V) (r98 : Int), (R_fun_has l_ r97 r98) ∧
  r97 = ra ∧ r98 = rb)) : At_fun_Call_1i l_ i49 i50 i51 s52 l53 g54 ra rb := by
 intro S e f h
 unfold k_fun_Call_1
 rw [E_loop]
 by_cases c1 : i49 < ((l_.length : Nat) : Int)
 · replace T := T.1 c1
   obtain ⟨p2, v94, q3, T⟩ := T
   by_cases c4 : (if 1 < i49 then 1 else i49) = 0
   · replace T := T.1 c4
     obtain ⟨r95, q5, T⟩ := T
     simp only [R_fun_list, le] at q5
     by_cases c6 : r95 = true
     · replace T := T.1 c6
       obtain ⟨p7, T⟩ := T
       try simp only [h, eq_true c1, p2, q3, c4, q5, c6, p7.wrap, U_fun_Call, i_fun_rules, U_fun_rules, lw, le, Nat.zero_le, Nat.sub_zero, take_app3, set_get, take_set, List.length_set, List.map_set, reduceIte, reduceCtorEq, Nat.reduceEqDiff, Nat.reduceAdd, Nat.reduceLeDiff, Nat.reduceSub, Nat.reduceLT, Int.reduceEq, Int.reduceLT, Int.reduceLE, Int.reduceToNat, Int.reduceAdd, Int.reduceSub, Int.reduceMul, Int.reduceNeg, Int.cast_ofNat_Int]
       refine T S _ _ ?_
       simp only [h, eq_true c1, p2, q3, c4, q5, c6, p7.wrap, U_fun_Call, i_fun_rules, U_fun_rules, lw, le, Nat.zero_le, Nat.sub_zero, take_app3, set_get, take_set, List.length_set, List.map_set, reduceIte, reduceCtorEq, Nat.reduceEqDiff, Nat.reduceAdd, Nat.reduceLeDiff, Nat.reduceSub, Nat.reduceLT, Int.reduceEq, Int.reduceLT, Int.reduceLE, Int.reduceToNat, Int.reduceAdd, Int.reduceSub, Int.reduceMul, Int.reduceNeg, Int.cast_ofNat_Int]
     · replace T := T.2 c6
       replace c6 := Bool.eq_false_iff.2 c6
       obtain ⟨rfl, rfl⟩ := T
       simp only [h, eq_true c1, p2, q3, c4, q5, c6, U_fun_Call, i_fun_rules, U_fun_rules, lw, le, Nat.zero_le, Nat.sub_zero, take_app3, set_get, take_set, List.length_set, List.map_set, reduceIte, reduceCtorEq, Nat.reduceEqDiff, Nat.reduceAdd, Nat.reduceLeDiff, Nat.reduceSub, Nat.reduceLT, Int.reduceEq, Int.reduceLT, Int.reduceLE, Int.reduceToNat, Int.reduceAdd, Int.reduceSub, Int.reduceMul, Int.reduceNeg, Int.cast_ofNat_Int]
   · replace T := T.2 c4
     by_cases c8 : (if 1 < i49 then 1 else i49) = 1
     · replace T := T.1 c8
       obtain ⟨r96, q9, T⟩ := T
       simp only [R_fun_any, le] at q9
       by_cases c10 : r96 = true
       · replace T := T.1 c10
         obtain ⟨p11, T⟩ := T
         try simp only [h, eq_true c1, p2, q3, eq_false c4, c8, q9, c10, p11.wrap, U_fun_Call, i_fun_rules, U_fun_rules, lw, le, Nat.zero_le, Nat.sub_zero, take_app3, set_get, take_set, List.length_set, List.map_set, reduceIte, reduceCtorEq, Nat.reduceEqDiff, Nat.reduceAdd, Nat.reduceLeDiff, Nat.reduceSub, Nat.reduceLT, Int.reduceEq, Int.reduceLT, Int.reduceLE, Int.reduceToNat, Int.reduceAdd, Int.reduceSub, Int.reduceMul, Int.reduceNeg, Int.cast_ofNat_Int]
         refine T S _ _ ?_
         simp only [h, eq_true c1, p2, q3, eq_false c4, c8, q9, c10, p11.wrap, U_fun_Call, i_fun_rules, U_fun_rules, lw, le, Nat.zero_le, Nat.sub_zero, take_app3, set_get, take_set, List.length_set, List.map_set, reduceIte, reduceCtorEq, Nat.reduceEqDiff, Nat.reduceAdd, Nat.reduceLeDiff, Nat.reduceSub, Nat.reduceLT, Int.reduceEq, Int.reduceLT, Int.reduceLE, Int.reduceToNat, Int.reduceAdd, Int.reduceSub, Int.reduceMul, Int.reduceNeg, Int.cast_ofNat_Int]
       · replace T := T.2 c10
         replace c10 := Bool.eq_false_iff.2 c10
         obtain ⟨rfl, rfl⟩ := T
         simp only [h, eq_true c1, p2, q3, eq_false c4, c8, q9, c10, U_fun_Call, i_fun_rules, U_fun_rules, lw, le, Nat.zero_le, Nat.sub_zero, take_app3, set_get, take_set, List.length_set, List.map_set, reduceIte, reduceCtorEq, Nat.reduceEqDiff, Nat.reduceAdd, Nat.reduceLeDiff, Nat.reduceSub, Nat.reduceLT, Int.reduceEq, Int.reduceLT, Int.reduceLE, Int.reduceToNat, Int.reduceAdd, Int.reduceSub, Int.reduceMul, Int.reduceNeg, Int.cast_ofNat_Int]
     · replace T := T.2 c8
       exact T.elim
 · replace T := T.2 c1
   obtain ⟨r97, r98, q12, rfl, rfl⟩ := T
   simp only [R_fun_has, le] at q12
   simp only [h, eq_false c1, q12, U_fun_Call, i_fun_rules, U_fun_rules, lw, le, Nat.zero_le, Nat.sub_zero, take_app3, set_get, take_set, List.length_set, List.map_set, reduceIte, reduceCtorEq, Nat.reduceEqDiff, Nat.reduceAdd, Nat.reduceLeDiff, Nat.reduceSub, Nat.reduceLT, Int.reduceEq, Int.reduceLT, Int.reduceLE, Int.reduceToNat, Int.reduceAdd, Int.reduceSub, Int.reduceMul, Int.reduceNeg, Int.cast_ofNat_Int]
set_option maxHeartbeats 4000000 in
theorem At_fun_Call_1j_step (l_ : List V) (i55 : Int) (i56 : Int) (i57 : Int) (s58 : List UInt8) (l59 : List V) (g60 : Nat) (ra : V) (rb : Int) (T :
  ((i55 < ((l_.length : Nat) : Int)) →
  (0 ≤ i55) ∧
  ∃ (v99 : V), (l_[i55.toNat]? = some v99) ∧
  (((if 0 < i55 then 0 else i55) = 0) →
   ∃ (r100 : Bool), (R_fun_any v99 r100) ∧
   ((r100 = true) →
    (I64 (i55 + 1)) ∧
    At_fun_Call_1j l_ (i55 + 1) i56 i57 s58 l59 g60 ra rb) ∧
   (¬ (r100 = true) →
    (V.mk 0 0 [] []) = ra ∧ 7 = rb)) ∧
  (¬ ((if 0 < i55 then 0 else i55) = 0) →
   False /- index -/)) ∧
 (¬ (i55 < ((l_.length : Nat) : Int)) →
  ∃ (r101 : V) (r102 : Int), (R_fun_textOf l_ r101 r102) ∧
  r101 = ra ∧ r102 = rb)) : At_fun_Call_1j l_ i55 i56 i57 s58 l59 g60 ra rb := by
 intro S e f h
 unfold k_fun_Call_1
 rw [E_loop]
 by_cases c1 : i55 < ((l_.length : Nat) : Int)
 · replace T := T.1 c1
   obtain ⟨p2, v99, q3, T⟩ := T
   by_cases c4 : (if 0 < i55 then 0 else i55) = 0
   · replace T := T.1 c4
     obtain ⟨r100, q5, T⟩ := T
     simp only [R_fun_any, le] at q5
     by_cases c6 : r100 = true
     · replace T := T.1 c6
       obtain ⟨p7, T⟩ := T
       try simp only [h, eq_true c1, p2, q3, c4, q5, c6, p7.wrap, U_fun_Call, i_fun_rules, U_fun_rules, lw, le, Nat.zero_le, Nat.sub_zero, take_app3, set_get, take_set, List.length_set, List.map_set, reduceIte, reduceCtorEq, Nat.reduceEqDiff, Nat.reduceAdd, Nat.reduceLeDiff, Nat.reduceSub, Nat.reduceLT, Int.reduceEq, Int.reduceLT, Int.reduceLE, Int.reduceToNat, Int.reduceAdd, Int.reduceSub, Int.reduceMul, Int.reduceNeg, Int.cast_ofNat_Int]
       refine T S _ _ ?_
       simp only [h, eq_true c1, p2, q3, c4, q5, c6, p7.wrap, U_fun_Call, i_fun_rules, U_fun_rules, lw, le, Nat.zero_le, Nat.sub_zero, take_app3, set_get, take_set, List.length_set, List.map_set, reduceIte, reduceCtorEq, Nat.reduceEqDiff, Nat.reduceAdd, Nat.reduceLeDiff, Nat.reduceSub, Nat.reduceLT, Int.reduceEq, Int.reduceLT, Int.reduceLE, Int.reduceToNat, Int.reduceAdd, Int.reduceSub, Int.reduceMul, Int.reduceNeg, Int.cast_ofNat_Int]
     · replace T := T.2 c6
       replace c6 := Bool.eq_false_iff.2 c6
       obtain ⟨rfl, rfl⟩ := T
       simp only [h, eq_true c1, p2, q3, c4, q5, c6, U_fun_Call, i_fun_rules, U_fun_rules, lw, le, Nat.zero_le, Nat.sub_zero, take_app3, set_get, take_set, List.length_set, List.map_set, reduceIte, reduceCtorEq, Nat.reduceEqDiff, Nat.reduceAdd, Nat.reduceLeDiff, Nat.reduceSub, Nat.reduceLT, Int.reduceEq, Int.reduceLT, Int.reduceLE, Int.reduceToNat, Int.reduceAdd, Int.reduceSub, Int.reduceMul, Int.reduceNeg, Int.cast_ofNat_Int]
   · replace T := T.2 c4
     exact T.elim
 · replace T := T.2 c1
   obtain ⟨r101, r102, q8, rfl, rfl⟩ := T
   simp only [R_fun_textOf, le] at q8
   simp only [h, eq_false c1, q8, U_fun_Call, i_fun_rules, U_fun_rules, lw, le, Nat.zero_le, Nat.sub_zero, take_app3, set_get, take_set, List.length_set, List.map_set, reduceIte, reduceCtorEq, Nat.reduceEqDiff, Nat.reduceAdd, Nat.reduceLeDiff, Nat.reduceSub, Nat.reduceLT, Int.reduceEq, Int.reduceLT, Int.reduceLE, Int.reduceToNat, Int.reduceAdd, Int.reduceSub, Int.reduceMul, Int.reduceNeg, Int.cast_ofNat_Int]
set_option maxHeartbeats 4000000 in
theorem fun_Call_tree (name : List UInt8) (l_ : List V) (ra : V) (rb : Int) (T :
  ((name = [109, 105, 110]) →
  ((((l_.length : Nat) : Int) < 1) →
   (V.mk 0 0 [] []) = ra ∧ 1 = rb) ∧
  (¬ (((l_.length : Nat) : Int) < 1) →
   ((1073741824 < ((l_.length : Nat) : Int)) →
    (V.mk 0 0 [] []) = ra ∧ 1 = rb) ∧
   (¬ (1073741824 < ((l_.length : Nat) : Int)) →
    At_fun_Call_1 l_ 0 0 0 [] [] 0 ra rb))) ∧
 (¬ (name = [109, 105, 110]) →
  ((name = [109, 97, 120]) →
   ((((l_.length : Nat) : Int) < 1) →
    (V.mk 0 0 [] []) = ra ∧ 1 = rb) ∧
   (¬ (((l_.length : Nat) : Int) < 1) →
    ((1073741824 < ((l_.length : Nat) : Int)) →
     (V.mk 0 0 [] []) = ra ∧ 1 = rb) ∧
    (¬ (1073741824 < ((l_.length : Nat) : Int)) →
     At_fun_Call_1b l_ 0 0 0 [] [] 0 ra rb))) ∧
  (¬ (name = [109, 97, 120]) →
   ((name = [115, 117, 109]) →
    ((((l_.length : Nat) : Int) < 1) →
     (V.mk 0 0 [] []) = ra ∧ 1 = rb) ∧
    (¬ (((l_.length : Nat) : Int) < 1) →
     ((1 < ((l_.length : Nat) : Int)) →
      (V.mk 0 0 [] []) = ra ∧ 1 = rb) ∧
     (¬ (1 < ((l_.length : Nat) : Int)) →
      At_fun_Call_1c l_ 0 0 0 [] [] 0 ra rb))) ∧
   (¬ (name = [115, 117, 109]) →
    ((name = [108, 101, 110]) →
     ((((l_.length : Nat) : Int) < 1) →
      (V.mk 0 0 [] []) = ra ∧ 1 = rb) ∧
     (¬ (((l_.length : Nat) : Int) < 1) →
      ((1 < ((l_.length : Nat) : Int)) →
       (V.mk 0 0 [] []) = ra ∧ 1 = rb) ∧
      (¬ (1 < ((l_.length : Nat) : Int)) →
       At_fun_Call_1d l_ 0 0 0 [] [] 0 ra rb))) ∧
    (¬ (name = [108, 101, 110]) →
     ((name = [99, 111, 110, 99, 97, 116]) →
      ((((l_.length : Nat) : Int) < 1) →
       (V.mk 0 0 [] []) = ra ∧ 1 = rb) ∧
      (¬ (((l_.length : Nat) : Int) < 1) →
       ((1073741824 < ((l_.length : Nat) : Int)) →
        (V.mk 0 0 [] []) = ra ∧ 1 = rb) ∧
       (¬ (1073741824 < ((l_.length : Nat) : Int)) →
        At_fun_Call_1e l_ 0 0 0 [] [] 0 ra rb))) ∧
     (¬ (name = [99, 111, 110, 99, 97, 116]) →
      ((name = [106, 111, 105, 110]) →
       ((((l_.length : Nat) : Int) < 2) →
        (V.mk 0 0 [] []) = ra ∧ 1 = rb) ∧
       (¬ (((l_.length : Nat) : Int) < 2) →
        ((2 < ((l_.length : Nat) : Int)) →
         (V.mk 0 0 [] []) = ra ∧ 1 = rb) ∧
        (¬ (2 < ((l_.length : Nat) : Int)) →
         At_fun_Call_1f l_ 0 0 0 [] [] 0 ra rb))) ∧
      (¬ (name = [106, 111, 105, 110]) →
       ((name = [114, 97, 110, 103, 101]) →
        ((((l_.length : Nat) : Int) < 1) →
         (V.mk 0 0 [] []) = ra ∧ 1 = rb) ∧
        (¬ (((l_.length : Nat) : Int) < 1) →
         ((1 < ((l_.length : Nat) : Int)) →
          (V.mk 0 0 [] []) = ra ∧ 1 = rb) ∧
         (¬ (1 < ((l_.length : Nat) : Int)) →
          At_fun_Call_1g l_ 0 0 0 [] [] 0 ra rb))) ∧
       (¬ (name = [114, 97, 110, 103, 101]) →
        ((name = [97, 98, 115]) →
         ((((l_.length : Nat) : Int) < 1) →
          (V.mk 0 0 [] []) = ra ∧ 1 = rb) ∧
         (¬ (((l_.length : Nat) : Int) < 1) →
          ((1 < ((l_.length : Nat) : Int)) →
           (V.mk 0 0 [] []) = ra ∧ 1 = rb) ∧
          (¬ (1 < ((l_.length : Nat) : Int)) →
           At_fun_Call_1h l_ 0 0 0 [] [] 0 ra rb))) ∧
        (¬ (name = [97, 98, 115]) →
         ((name = [104, 97, 115]) →
          ((((l_.length : Nat) : Int) < 2) →
           (V.mk 0 0 [] []) = ra ∧ 1 = rb) ∧
          (¬ (((l_.length : Nat) : Int) < 2) →
           ((2 < ((l_.length : Nat) : Int)) →
            (V.mk 0 0 [] []) = ra ∧ 1 = rb) ∧
           (¬ (2 < ((l_.length : Nat) : Int)) →
            At_fun_Call_1i l_ 0 0 0 [] [] 0 ra rb))) ∧
         (¬ (name = [104, 97, 115]) →
          ((name = [116, 101, 120, 116]) →
           ((((l_.length : Nat) : Int) < 1) →
            (V.mk 0 0 [] []) = ra ∧ 1 = rb) ∧
           (¬ (((l_.length : Nat) : Int) < 1) →
            ((1 < ((l_.length : Nat) : Int)) →
             (V.mk 0 0 [] []) = ra ∧ 1 = rb) ∧
            (¬ (1 < ((l_.length : Nat) : Int)) →
             At_fun_Call_1j l_ 0 0 0 [] [] 0 ra rb))) ∧
          (¬ (name = [116, 101, 120, 116]) →
           (V.mk 0 0 [] []) = ra ∧ 2 = rb))))))))))) : R_fun_Call name l_ ra rb := by
 intro S
 rw [call_code sp_fun_Call _ _ rfl]
 by_cases c1 : name = [109, 105, 110]
 · replace T := T.1 c1
   by_cases c2 : ((l_.length : Nat) : Int) < 1
   · replace T := T.1 c2
     obtain ⟨rfl, rfl⟩ := T
     simp only [eq_true c1, eq_true c2, U_fun_Call, i_fun_rules, U_fun_rules, lw, le, Nat.zero_le, Nat.sub_zero, take_app3, set_get, take_set, List.length_set, List.map_set, reduceIte, reduceCtorEq, Nat.reduceEqDiff, Nat.reduceAdd, Nat.reduceLeDiff, Nat.reduceSub, Nat.reduceLT, Int.reduceEq, Int.reduceLT, Int.reduceLE, Int.reduceToNat, Int.reduceAdd, Int.reduceSub, Int.reduceMul, Int.reduceNeg, Int.cast_ofNat_Int]
   · replace T := T.2 c2
     by_cases c3 : 1073741824 < ((l_.length : Nat) : Int)
     · replace T := T.1 c3
       obtain ⟨rfl, rfl⟩ := T
       simp only [eq_true c1, eq_false c2, eq_true c3, U_fun_Call, i_fun_rules, U_fun_rules, lw, le, Nat.zero_le, Nat.sub_zero, take_app3, set_get, take_set, List.length_set, List.map_set, reduceIte, reduceCtorEq, Nat.reduceEqDiff, Nat.reduceAdd, Nat.reduceLeDiff, Nat.reduceSub, Nat.reduceLT, Int.reduceEq, Int.reduceLT, Int.reduceLE, Int.reduceToNat, Int.reduceAdd, Int.reduceSub, Int.reduceMul, Int.reduceNeg, Int.cast_ofNat_Int]
     · replace T := T.2 c3
       try simp only [eq_true c1, eq_false c2, eq_false c3, U_fun_Call, i_fun_rules, U_fun_rules, lw, le, Nat.zero_le, Nat.sub_zero, take_app3, set_get, take_set, List.length_set, List.map_set, reduceIte, reduceCtorEq, Nat.reduceEqDiff, Nat.reduceAdd, Nat.reduceLeDiff, Nat.reduceSub, Nat.reduceLT, Int.reduceEq, Int.reduceLT, Int.reduceLE, Int.reduceToNat, Int.reduceAdd, Int.reduceSub, Int.reduceMul, Int.reduceNeg, Int.cast_ofNat_Int]
       refine T S _ _ ?_
       simp only [eq_true c1, eq_false c2, eq_false c3, U_fun_Call, i_fun_rules, U_fun_rules, lw, le, Nat.zero_le, Nat.sub_zero, take_app3, set_get, take_set, List.length_set, List.map_set, reduceIte, reduceCtorEq, Nat.reduceEqDiff, Nat.reduceAdd, Nat.reduceLeDiff, Nat.reduceSub, Nat.reduceLT, Int.reduceEq, Int.reduceLT, Int.reduceLE, Int.reduceToNat, Int.reduceAdd, Int.reduceSub, Int.reduceMul, Int.reduceNeg, Int.cast_ofNat_Int]
 · replace T := T.2 c1
   by_cases c4 : name = [109, 97, 120]
   · replace T := T.1 c4
     by_cases c5 : ((l_.length : Nat) : Int) < 1
     · replace T := T.1 c5
       obtain ⟨rfl, rfl⟩ := T
       simp only [eq_false c1, eq_true c4, eq_true c5, U_fun_Call, i_fun_rules, U_fun_rules, lw, le, Nat.zero_le, Nat.sub_zero, take_app3, set_get, take_set, List.length_set, List.map_set, reduceIte, reduceCtorEq, Nat.reduceEqDiff, Nat.reduceAdd, Nat.reduceLeDiff, Nat.reduceSub, Nat.reduceLT, Int.reduceEq, Int.reduceLT, Int.reduceLE, Int.reduceToNat, Int.reduceAdd, Int.reduceSub, Int.reduceMul, Int.reduceNeg, Int.cast_ofNat_Int]
     · replace T := T.2 c5
       by_cases c6 : 1073741824 < ((l_.length : Nat) : Int)
       · replace T := T.1 c6
         obtain ⟨rfl, rfl⟩ := T
         simp only [eq_false c1, eq_true c4, eq_false c5, eq_true c6, U_fun_Call, i_fun_rules, U_fun_rules, lw, le, Nat.zero_le, Nat.sub_zero, take_app3, set_get, take_set, List.length_set, List.map_set, reduceIte, reduceCtorEq, Nat.reduceEqDiff, Nat.reduceAdd, Nat.reduceLeDiff, Nat.reduceSub, Nat.reduceLT, Int.reduceEq, Int.reduceLT, Int.reduceLE, Int.reduceToNat, Int.reduceAdd, Int.reduceSub, Int.reduceMul, Int.reduceNeg, Int.cast_ofNat_Int]
       · replace T := T.2 c6
         try simp only [eq_false c1, eq_true c4, eq_false c5, eq_false c6, U_fun_Call, i_fun_rules, U_fun_rules, lw, le, Nat.zero_le, Nat.sub_zero, take_app3, set_get, take_set, List.length_set, List.map_set, reduceIte, reduceCtorEq, Nat.reduceEqDiff, Nat.reduceAdd, Nat.reduceLeDiff, Nat.reduceSub, Nat.reduceLT, Int.reduceEq, Int.reduceLT, Int.reduceLE, Int.reduceToNat, Int.reduceAdd, Int.reduceSub, Int.reduceMul, Int.reduceNeg, Int.cast_ofNat_Int]
         refine T S _ _ ?_
         simp only [eq_false c1, eq_true c4, eq_false c5, eq_false c6, U_fun_Call, i_fun_rules, U_fun_rules, lw, le, Nat.zero_le, Nat.sub_zero, take_app3, set_get, take_set, List.length_set, List.map_set, reduceIte, reduceCtorEq, Nat.reduceEqDiff, Nat.reduceAdd, Nat.reduceLeDiff, Nat.reduceSub, Nat.reduceLT, Int.reduceEq, Int.reduceLT, Int.reduceLE, Int.reduceToNat, Int.reduceAdd, Int.reduceSub, Int.reduceMul, Int.reduceNeg, Int.cast_ofNat_Int]
   · replace T := T.2 c4
     by_cases c7 : name = [115, 117, 109]
     · replace T := T.1 c7
       by_cases c8 : ((l_.length : Nat) : Int) < 1
       · replace T := T.1 c8
         obtain ⟨rfl, rfl⟩ := T
         simp only [eq_false c1, eq_false c4, eq_true c7, eq_true c8, U_fun_Call, i_fun_rules, U_fun_rules, lw, le, Nat.zero_le, Nat.sub_zero, take_app3, set_get, take_set, List.length_set, List.map_set, reduceIte, reduceCtorEq, Nat.reduceEqDiff, Nat.reduceAdd, Nat.reduceLeDiff, Nat.reduceSub, Nat.reduceLT, Int.reduceEq, Int.reduceLT, Int.reduceLE, Int.reduceToNat, Int.reduceAdd, Int.reduceSub, Int.reduceMul, Int.reduceNeg, Int.cast_ofNat_Int]
       · replace T := T.2 c8
         by_cases c9 : 1 < ((l_.length : Nat) : Int)
         · replace T := T.1 c9
           obtain ⟨rfl, rfl⟩ := T
           simp only [eq_false c1, eq_false c4, eq_true c7, eq_false c8, eq_true c9, U_fun_Call, i_fun_rules, U_fun_rules, lw, le, Nat.zero_le, Nat.sub_zero, take_app3, set_get, take_set, List.length_set, List.map_set, reduceIte, reduceCtorEq, Nat.reduceEqDiff, Nat.reduceAdd, Nat.reduceLeDiff, Nat.reduceSub, Nat.reduceLT, Int.reduceEq, Int.reduceLT, Int.reduceLE, Int.reduceToNat, Int.reduceAdd, Int.reduceSub, Int.reduceMul, Int.reduceNeg, Int.cast_ofNat_Int]
         · replace T := T.2 c9
           try simp only [eq_false c1, eq_false c4, eq_true c7, eq_false c8, eq_false c9, U_fun_Call, i_fun_rules, U_fun_rules, lw, le, Nat.zero_le, Nat.sub_zero, take_app3, set_get, take_set, List.length_set, List.map_set, reduceIte, reduceCtorEq, Nat.reduceEqDiff, Nat.reduceAdd, Nat.reduceLeDiff, Nat.reduceSub, Nat.reduceLT, Int.reduceEq, Int.reduceLT, Int.reduceLE, Int.reduceToNat, Int.reduceAdd, Int.reduceSub, Int.reduceMul, Int.reduceNeg, Int.cast_ofNat_Int]
           refine T S _ _ ?_
           simp only [eq_false c1, eq_false c4, eq_true c7, eq_false c8, eq_false c9, U_fun_Call, i_fun_rules, U_fun_rules, lw, le, Nat.zero_le, Nat.sub_zero, take_app3, set_get, take_set, List.length_set, List.map_set, reduceIte, reduceCtorEq, Nat.reduceEqDiff, Nat.reduceAdd, Nat.reduceLeDiff, Nat.reduceSub, Nat.reduceLT, Int.reduceEq, Int.reduceLT, Int.reduceLE, Int.reduceToNat, Int.reduceAdd, Int.reduceSub, Int.reduceMul, Int.reduceNeg, Int.cast_ofNat_Int]
     · replace T := T.2 c7
       by_cases c10 : name = [108, 101, 110]
       · replace T := T.1 c10
         by_cases c11 : ((l_.length : Nat) : Int) < 1
         · replace T := T.1 c11
           obtain ⟨rfl, rfl⟩ := T
           simp only [eq_false c1, eq_false c4, eq_false c7, eq_true c10, eq_true c11, U_fun_Call, i_fun_rules, U_fun_rules, lw, le, Nat.zero_le, Nat.sub_zero, take_app3, set_get, take_set, List.length_set, List.map_set, reduceIte, reduceCtorEq, Nat.reduceEqDiff, Nat.reduceAdd, Nat.reduceLeDiff, Nat.reduceSub, Nat.reduceLT, Int.reduceEq, Int.reduceLT, Int.reduceLE, Int.reduceToNat, Int.reduceAdd, Int.reduceSub, Int.reduceMul, Int.reduceNeg, Int.cast_ofNat_Int]
         · replace T := T.2 c11
           by_cases c12 : 1 < ((l_.length : Nat) : Int)
           · replace T := T.1 c12
             obtain ⟨rfl, rfl⟩ := T
             simp only [eq_false c1, eq_false c4, eq_false c7, eq_true c10, eq_false c11, eq_true c12, U_fun_Call, i_fun_rules, U_fun_rules, lw, le, Nat.zero_le, Nat.sub_zero, take_app3, set_get, take_set, List.length_set, List.map_set, reduceIte, reduceCtorEq, Nat.reduceEqDiff, Nat.reduceAdd, Nat.reduceLeDiff, Nat.reduceSub, Nat.reduceLT, Int.reduceEq, Int.reduceLT, Int.reduceLE, Int.reduceToNat, Int.reduceAdd, Int.reduceSub, Int.reduceMul, Int.reduceNeg, Int.cast_ofNat_Int]
           · replace T := T.2 c12
             try simp only [eq_false c1, eq_false c4, eq_false c7, eq_true c10, eq_false c11, eq_false c12, U_fun_Call, i_fun_rules, U_fun_rules, lw, le, Nat.zero_le, Nat.sub_zero, take_app3, set_get, take_set, List.length_set, List.map_set, reduceIte, reduceCtorEq, Nat.reduceEqDiff, Nat.reduceAdd, Nat.reduceLeDiff, Nat.reduceSub, Nat.reduceLT, Int.reduceEq, Int.reduceLT, Int.reduceLE, Int.reduceToNat, Int.reduceAdd, Int.reduceSub, Int.reduceMul, Int.reduceNeg, Int.cast_ofNat_Int]
             refine T S _ _ ?_
             simp only [eq_false c1, eq_false c4, eq_false c7, eq_true c10, eq_false c11, eq_false c12, U_fun_Call, i_fun_rules, U_fun_rules, lw, le, Nat.zero_le, Nat.sub_zero, take_app3, set_get, take_set, List.length_set, List.map_set, reduceIte, reduceCtorEq, Nat.reduceEqDiff, Nat.reduceAdd, Nat.reduceLeDiff, Nat.reduceSub, Nat.reduceLT, Int.reduceEq, Int.reduceLT, Int.reduceLE, Int.reduceToNat, Int.reduceAdd, Int.reduceSub, Int.reduceMul, Int.reduceNeg, Int.cast_ofNat_Int]
       · replace T := T.2 c10
         by_cases c13 : name = [99, 111, 110, 99, 97, 116]
         · replace T := T.1 c13
           by_cases c14 : ((l_.length : Nat) : Int) < 1
           · replace T := T.1 c14
             obtain ⟨rfl, rfl⟩ := T
             simp only [eq_false c1, eq_false c4, eq_false c7, eq_false c10, eq_true c13, eq_true c14, U_fun_Call, i_fun_rules, U_fun_rules, lw, le, Nat.zero_le, Nat.sub_zero, take_app3, set_get, take_set, List.length_set, List.map_set, reduceIte, reduceCtorEq, Nat.reduceEqDiff, Nat.reduceAdd, Nat.reduceLeDiff, Nat.reduceSub, Nat.reduceLT, Int.reduceEq, Int.reduceLT, Int.reduceLE, Int.reduceToNat, Int.reduceAdd, Int.reduceSub, Int.reduceMul, Int.reduceNeg, Int.cast_ofNat_Int]
           · replace T := T.2 c14
             by_cases c15 : 1073741824 < ((l_.length : Nat) : Int)
             · replace T := T.1 c15
               obtain ⟨rfl, rfl⟩ := T
               simp only [eq_false c1, eq_false c4, eq_false c7, eq_false c10, eq_true c13, eq_false c14, eq_true c15, U_fun_Call, i_fun_rules, U_fun_rules, lw, le, Nat.zero_le, Nat.sub_zero, take_app3, set_get, take_set, List.length_set, List.map_set, reduceIte, reduceCtorEq, Nat.reduceEqDiff, Nat.reduceAdd, Nat.reduceLeDiff, Nat.reduceSub, Nat.reduceLT, Int.reduceEq, Int.reduceLT, Int.reduceLE, Int.reduceToNat, Int.reduceAdd, Int.reduceSub, Int.reduceMul, Int.reduceNeg, Int.cast_ofNat_Int]
             · replace T := T.2 c15
               try simp only [eq_false c1, eq_false c4, eq_false c7, eq_false c10, eq_true c13, eq_false c14, eq_false c15, U_fun_Call, i_fun_rules, U_fun_rules, lw, le, Nat.zero_le, Nat.sub_zero, take_app3, set_get, take_set, List.length_set, List.map_set, reduceIte, reduceCtorEq, Nat.reduceEqDiff, Nat.reduceAdd, Nat.reduceLeDiff, Nat.reduceSub, Nat.reduceLT, Int.reduceEq, Int.reduceLT, Int.reduceLE, Int.reduceToNat, Int.reduceAdd, Int.reduceSub, Int.reduceMul, Int.reduceNeg, Int.cast_ofNat_Int]
               refine T S _ _ ?_
               simp only [eq_false c1, eq_false c4, eq_false c7, eq_false c10, eq_true c13, eq_false c14, eq_false c15, U_fun_Call, i_fun_rules, U_fun_rules, lw, le, Nat.zero_le, Nat.sub_zero, take_app3, set_get, take_set, List.length_set, List.map_set, reduceIte, reduceCtorEq, Nat.reduceEqDiff, Nat.reduceAdd, Nat.reduceLeDiff, Nat.reduceSub, Nat.reduceLT, Int.reduceEq, Int.reduceLT, Int.reduceLE, Int.reduceToNat, Int.reduceAdd, Int.reduceSub, Int.reduceMul, Int.reduceNeg, Int.cast_ofNat_Int]
         · replace T := T.2 c13
           by_cases c16 : name = [106, 111, 105, 110]
           · replace T := T.1 c16
             by_cases c17 : ((l_.length : Nat) : Int) < 2
             · replace T := T.1 c17
               obtain ⟨rfl, rfl⟩ := T
               simp only [eq_false c1, eq_false c4, eq_false c7, eq_false c10, eq_false c13, eq_true c16, eq_true c17, U_fun_Call, i_fun_rules, U_fun_rules, lw, le, Nat.zero_le, Nat.sub_zero, take_app3, set_get, take_set, List.length_set, List.map_set, reduceIte, reduceCtorEq, Nat.reduceEqDiff, Nat.reduceAdd, Nat.reduceLeDiff, Nat.reduceSub, Nat.reduceLT, Int.reduceEq, Int.reduceLT, Int.reduceLE, Int.reduceToNat, Int.reduceAdd, Int.reduceSub, Int.reduceMul, Int.reduceNeg, Int.cast_ofNat_Int]
             · replace T := T.2 c17
               by_cases c18 : 2 < ((l_.length : Nat) : Int)
               · replace T := T.1 c18
                 obtain ⟨rfl, rfl⟩ := T
                 simp only [eq_false c1, eq_false c4, eq_false c7, eq_false c10, eq_false c13, eq_true c16, eq_false c17, eq_true c18, U_fun_Call, i_fun_rules, U_fun_rules, lw, le, Nat.zero_le, Nat.sub_zero, take_app3, set_get, take_set, List.length_set, List.map_set, reduceIte, reduceCtorEq, Nat.reduceEqDiff, Nat.reduceAdd, Nat.reduceLeDiff, Nat.reduceSub, Nat.reduceLT, Int.reduceEq, Int.reduceLT, Int.reduceLE, Int.reduceToNat, Int.reduceAdd, Int.reduceSub, Int.reduceMul, Int.reduceNeg, Int.cast_ofNat_Int]
               · replace T := T.2 c18
                 try simp only [eq_false c1, eq_false c4, eq_false c7, eq_false c10, eq_false c13, eq_true c16, eq_false c17, eq_false c18, U_fun_Call, i_fun_rules, U_fun_rules, lw, le, Nat.zero_le, Nat.sub_zero, take_app3, set_get, take_set, List.length_set, List.map_set, reduceIte, reduceCtorEq, Nat.reduceEqDiff, Nat.reduceAdd, Nat.reduceLeDiff, Nat.reduceSub, Nat.reduceLT, Int.reduceEq, Int.reduceLT, Int.reduceLE, Int.reduceToNat, Int.reduceAdd, Int.reduceSub, Int.reduceMul, Int.reduceNeg, Int.cast_ofNat_Int]
                 refine T S _ _ ?_
                 simp only [eq_false c1, eq_false c4, eq_false c7, eq_false c10, eq_false c13, eq_true c16, eq_false c17, eq_false c18, U_fun_Call, i_fun_rules, U_fun_rules, lw, le, Nat.zero_le, Nat.sub_zero, take_app3, set_get, take_set, List.length_set, List.map_set, reduceIte, reduceCtorEq, Nat.reduceEqDiff, Nat.reduceAdd, Nat.reduceLeDiff, Nat.reduceSub, Nat.reduceLT, Int.reduceEq, Int.reduceLT, Int.reduceLE, Int.reduceToNat, Int.reduceAdd, Int.reduceSub, Int.reduceMul, Int.reduceNeg, Int.cast_ofNat_Int]
           · replace T := T.2 c16
             by_cases c19 : name = [114, 97, 110, 103, 101]
             · replace T := T.1 c19
               by_cases c20 : ((l_.length : Nat) : Int) < 1
               · replace T := T.1 c20
                 obtain ⟨rfl, rfl⟩ := T
                 simp only [eq_false c1, eq_false c4, eq_false c7, eq_false c10, eq_false c13, eq_false c16, eq_true c19, eq_true c20, U_fun_Call, i_fun_rules, U_fun_rules, lw, le, Nat.zero_le, Nat.sub_zero, take_app3, set_get, take_set, List.length_set, List.map_set, reduceIte, reduceCtorEq, Nat.reduceEqDiff, Nat.reduceAdd, Nat.reduceLeDiff, Nat.reduceSub, Nat.reduceLT, Int.reduceEq, Int.reduceLT, Int.reduceLE, Int.reduceToNat, Int.reduceAdd, Int.reduceSub, Int.reduceMul, Int.reduceNeg, Int.cast_ofNat_Int]
               · replace T := T.2 c20
                 by_cases c21 : 1 < ((l_.length : Nat) : Int)
                 · replace T := T.1 c21
                   obtain ⟨rfl, rfl⟩ := T
                   simp only [eq_false c1, eq_false c4, eq_false c7, eq_false c10, eq_false c13, eq_false c16, eq_true c19, eq_false c20, eq_true c21, U_fun_Call, i_fun_rules, U_fun_rules, lw, le, Nat.zero_le, Nat.sub_zero, take_app3, set_get, take_set, List.length_set, List.map_set, reduceIte, reduceCtorEq, Nat.reduceEqDiff, Nat.reduceAdd, Nat.reduceLeDiff, Nat.reduceSub, Nat.reduceLT, Int.reduceEq, Int.reduceLT, Int.reduceLE, Int.reduceToNat, Int.reduceAdd, Int.reduceSub, Int.reduceMul, Int.reduceNeg, Int.cast_ofNat_Int]
                 · replace T := T.2 c21
                   try simp only [eq_false c1, eq_false c4, eq_false c7, eq_false c10, eq_false c13, eq_false c16, eq_true c19, eq_false c20, eq_false c21, U_fun_Call, i_fun_rules, U_fun_rules, lw, le, Nat.zero_le, Nat.sub_zero, take_app3, set_get, take_set, List.length_set, List.map_set, reduceIte, reduceCtorEq, Nat.reduceEqDiff, Nat.reduceAdd, Nat.reduceLeDiff, Nat.reduceSub, Nat.reduceLT, Int.reduceEq, Int.reduceLT, Int.reduceLE, Int.reduceToNat, Int.reduceAdd, Int.reduceSub, Int.reduceMul, Int.reduceNeg, Int.cast_ofNat_Int]
                   refine T S _ _ ?_
                   simp only [eq_false c1, eq_false c4, eq_false c7, eq_false c10, eq_false c13, eq_false c16, eq_true c19, eq_false c20, eq_false c21, U_fun_Call, i_fun_rules, U_fun_rules, lw, le, Nat.zero_le, Nat.sub_zero, take_app3, set_get, take_set, List.length_set, List.map_set, reduceIte, reduceCtorEq, Nat.reduceEqDiff, Nat.reduceAdd, Nat.reduceLeDiff, Nat.reduceSub, Nat.reduceLT, Int.reduceEq, Int.reduceLT, Int.reduceLE, Int.reduceToNat, Int.reduceAdd, Int.reduceSub, Int.reduceMul, Int.reduceNeg, Int.cast_ofNat_Int]
             · replace T := T.2 c19
               by_cases c22 : name = [97, 98, 115]
               · replace T := T.1 c22
                 by_cases c23 : ((l_.length : Nat) : Int) < 1
                 · replace T := T.1 c23
                   obtain ⟨rfl, rfl⟩ := T
                   simp only [eq_false c1, eq_false c4, eq_false c7, eq_false c10, eq_false c13, eq_false c16, eq_false c19, eq_true c22, eq_true c23, U_fun_Call, i_fun_rules, U_fun_rules, lw, le, Nat.zero_le, Nat.sub_zero, take_app3, set_get, take_set, List.length_set, List.map_set, reduceIte, reduceCtorEq, Nat.reduceEqDiff, Nat.reduceAdd, Nat.reduceLeDiff, Nat.reduceSub, Nat.reduceLT, Int.reduceEq, Int.reduceLT, Int.reduceLE, Int.reduceToNat, Int.reduceAdd, Int.reduceSub, Int.reduceMul, Int.reduceNeg, Int.cast_ofNat_Int]
                 · replace T := T.2 c23
                   by_cases c24 : 1 < ((l_.length : Nat) : Int)
                   · replace T := T.1 c24
                     obtain ⟨rfl, rfl⟩ := T
                     simp only [eq_false c1, eq_false c4, eq_false c7, eq_false c10, eq_false c13, eq_false c16, eq_false c19, eq_true c22, eq_false c23, eq_true c24, U_fun_Call, i_fun_rules, U_fun_rules, lw, le, Nat.zero_le, Nat.sub_zero, take_app3, set_get, take_set, List.length_set, List.map_set, reduceIte, reduceCtorEq, Nat.reduceEqDiff, Nat.reduceAdd, Nat.reduceLeDiff, Nat.reduceSub, Nat.reduceLT, Int.reduceEq, Int.reduceLT, Int.reduceLE, Int.reduceToNat, Int.reduceAdd, Int.reduceSub, Int.reduceMul, Int.reduceNeg, Int.cast_ofNat_Int]
                   · replace T := T.2 c24
                     try simp only [eq_false c1, eq_false c4, eq_false c7, eq_false c10, eq_false c13, eq_false c16, eq_false c19, eq_true c22, eq_false c23, eq_false c24, U_fun_Call, i_fun_rules, U_fun_rules, lw, le, Nat.zero_le, Nat.sub_zero, take_app3, set_get, take_set, List.length_set, List.map_set, reduceIte, reduceCtorEq, Nat.reduceEqDiff, Nat.reduceAdd, Nat.reduceLeDiff, Nat.reduceSub, Nat.reduceLT, Int.reduceEq, Int.reduceLT, Int.reduceLE, Int.reduceToNat, Int.reduceAdd, Int.reduceSub, Int.reduceMul, Int.reduceNeg, Int.cast_ofNat_Int]
                     refine T S _ _ ?_
                     simp only [eq_false c1, eq_false c4, eq_false c7, eq_false c10, eq_false c13, eq_false c16, eq_false c19, eq_true c22, eq_false c23, eq_false c24, U_fun_Call, i_fun_rules, U_fun_rules, lw, le, Nat.zero_le, Nat.sub_zero, take_app3, set_get, take_set, List.length_set, List.map_set, reduceIte, reduceCtorEq, Nat.reduceEqDiff, Nat.reduceAdd, Nat.reduceLeDiff, Nat.reduceSub, Nat.reduceLT, Int.reduceEq, Int.reduceLT, Int.reduceLE, Int.reduceToNat, Int.reduceAdd, Int.reduceSub, Int.reduceMul, Int.reduceNeg, Int.cast_ofNat_Int]
               · replace T := T.2 c22
                 by_cases c25 : name = [104, 97, 115]
                 · replace T := T.1 c25
                   by_cases c26 : ((l_.length : Nat) : Int) < 2
                   · replace T := T.1 c26
                     obtain ⟨rfl, rfl⟩ := T
                     simp only [eq_false c1, eq_false c4, eq_false c7, eq_false c10, eq_false c13, eq_false c16, eq_false c19, eq_false c22, eq_true c25, eq_true c26, U_fun_Call, i_fun_rules, U_fun_rules, lw, le, Nat.zero_le, Nat.sub_zero, take_app3, set_get, take_set, List.length_set, List.map_set, reduceIte, reduceCtorEq, Nat.reduceEqDiff, Nat.reduceAdd, Nat.reduceLeDiff, Nat.reduceSub, Nat.reduceLT, Int.reduceEq, Int.reduceLT, Int.reduceLE, Int.reduceToNat, Int.reduceAdd, Int.reduceSub, Int.reduceMul, Int.reduceNeg, Int.cast_ofNat_Int]
                   · replace T := T.2 c26
                     by_cases c27 : 2 < ((l_.length : Nat) : Int)
                     · replace T := T.1 c27
                       obtain ⟨rfl, rfl⟩ := T
                       simp only [eq_false c1, eq_false c4, eq_false c7, eq_false c10, eq_false c13, eq_false c16, eq_false c19, eq_false c22, eq_true c25, eq_false c26, eq_true c27, U_fun_Call, i_fun_rules, U_fun_rules, lw, le, Nat.zero_le, Nat.sub_zero, take_app3, set_get, take_set, List.length_set, List.map_set, reduceIte, reduceCtorEq, Nat.reduceEqDiff, Nat.reduceAdd, Nat.reduceLeDiff, Nat.reduceSub, Nat.reduceLT, Int.reduceEq, Int.reduceLT, Int.reduceLE, Int.reduceToNat, Int.reduceAdd, Int.reduceSub, Int.reduceMul, Int.reduceNeg, Int.cast_ofNat_Int]
                     · replace T := T.2 c27
                       try simp only [eq_false c1, eq_false c4, eq_false c7, eq_false c10, eq_false c13, eq_false c16, eq_false c19, eq_false c22, eq_true c25, eq_false c26, eq_false c27, U_fun_Call, i_fun_rules, U_fun_rules, lw, le, Nat.zero_le, Nat.sub_zero, take_app3, set_get, take_set, List.length_set, List.map_set, reduceIte, reduceCtorEq, Nat.reduceEqDiff, Nat.reduceAdd, Nat.reduceLeDiff, Nat.reduceSub, Nat.reduceLT, Int.reduceEq, Int.reduceLT, Int.reduceLE, Int.reduceToNat, Int.reduceAdd, Int.reduceSub, Int.reduceMul, Int.reduceNeg, Int.cast_ofNat_Int]
                       refine T S _ _ ?_
                       simp only [eq_false c1, eq_false c4, eq_false c7, eq_false c10, eq_false c13, eq_false c16, eq_false c19, eq_false c22, eq_true c25, eq_false c26, eq_false c27, U_fun_Call, i_fun_rules, U_fun_rules, lw, le, Nat.zero_le, Nat.sub_zero, take_app3, set_get, take_set, List.length_set, List.map_set, reduceIte, reduceCtorEq, Nat.reduceEqDiff, Nat.reduceAdd, Nat.reduceLeDiff, Nat.reduceSub, Nat.reduceLT, Int.reduceEq, Int.reduceLT, Int.reduceLE, Int.reduceToNat, Int.reduceAdd, Int.reduceSub, Int.reduceMul, Int.reduceNeg, Int.cast_ofNat_Int]
                 · replace T := T.2 c25
                   by_cases c28 : name = [116, 101, 120, 116]
                   · replace T := T.1 c28
                     by_cases c29 : ((l_.length : Nat) : Int) < 1
                     · replace T := T.1 c29
                       obtain ⟨rfl, rfl⟩ := T
                       simp only [eq_false c1, eq_false c4, eq_false c7, eq_false c10, eq_false c13, eq_false c16, eq_false c19, eq_false c22, eq_false c25, eq_true c28, eq_true c29, U_fun_Call, i_fun_rules, U_fun_rules, lw, le, Nat.zero_le, Nat.sub_zero, take_app3, set_get, take_set, List.length_set, List.map_set, reduceIte, reduceCtorEq, Nat.reduceEqDiff, Nat.reduceAdd, Nat.reduceLeDiff, Nat.reduceSub, Nat.reduceLT, Int.reduceEq, Int.reduceLT, Int.reduceLE, Int.reduceToNat, Int.reduceAdd, Int.reduceSub, Int.reduceMul, Int.reduceNeg, Int.cast_ofNat_Int]
                     · replace T := T.2 c29
                       by_cases c30 : 1 < ((l_.length : Nat) : Int)
                       · replace T := T.1 c30
                         obtain ⟨rfl, rfl⟩ := T
                         simp only [eq_false c1, eq_false c4, eq_false c7, eq_false c10, eq_false c13, eq_false c16, eq_false c19, eq_false c22, eq_false c25, eq_true c28, eq_false c29, eq_true c30, U_fun_Call, i_fun_rules, U_fun_rules, lw, le, Nat.zero_le, Nat.sub_zero, take_app3, set_get, take_set, List.length_set, List.map_set, reduceIte, reduceCtorEq, Nat.reduceEqDiff, Nat.reduceAdd, Nat.reduceLeDiff, Nat.reduceSub, Nat.reduceLT, Int.reduceEq, Int.reduceLT, Int.reduceLE, Int.reduceToNat, Int.reduceAdd, Int.reduceSub, Int.reduceMul, Int.reduceNeg, Int.cast_ofNat_Int]
                       · replace T := T.2 c30
                         try simp only [eq_false c1, eq_false c4, eq_false c7, eq_false c10, eq_false c13, eq_false c16, eq_false c19, eq_false c22, eq_false c25, eq_true c28, eq_false c29, eq_false c30, U_fun_Call, i_fun_rules, U_fun_rules, lw, le, Nat.zero_le, Nat.sub_zero, take_app3, set_get, take_set, List.length_set, List.map_set, reduceIte, reduceCtorEq, Nat.reduceEqDiff, Nat.reduceAdd, Nat.reduceLeDiff, Nat.reduceSub, Nat.reduceLT, Int.reduceEq, Int.reduceLT, Int.reduceLE, Int.reduceToNat, Int.reduceAdd, Int.reduceSub, Int.reduceMul, Int.reduceNeg, Int.cast_ofNat_Int]
                         refine T S _ _ ?_
                         simp only [eq_false c1, eq_false c4, eq_false c7, eq_false c10, eq_false c13, eq_false c16, eq_false c19, eq_false c22, eq_false c25, eq_true c28, eq_false c29, eq_false c30, U_fun_Call, i_fun_rules, U_fun_rules, lw, le, Nat.zero_le, Nat.sub_zero, take_app3, set_get, take_set, List.length_set, List.map_set, reduceIte, reduceCtorEq, Nat.reduceEqDiff, Nat.reduceAdd, Nat.reduceLeDiff, Nat.reduceSub, Nat.reduceLT, Int.reduceEq, Int.reduceLT, Int.reduceLE, Int.reduceToNat, Int.reduceAdd, Int.reduceSub, Int.reduceMul, Int.reduceNeg, Int.cast_ofNat_Int]
                   · replace T := T.2 c28
                     obtain ⟨rfl, rfl⟩ := T
                     simp only [eq_false c1, eq_false c4, eq_false c7, eq_false c10, eq_false c13, eq_false c16, eq_false c19, eq_false c22, eq_false c25, eq_false c28, U_fun_Call, i_fun_rules, U_fun_rules, lw, le, Nat.zero_le, Nat.sub_zero, take_app3, set_get, take_set, List.length_set, List.map_set, reduceIte, reduceCtorEq, Nat.reduceEqDiff, Nat.reduceAdd, Nat.reduceLeDiff, Nat.reduceSub, Nat.reduceLT, Int.reduceEq, Int.reduceLT, Int.reduceLE, Int.reduceToNat, Int.reduceAdd, Int.reduceSub, Int.reduceMul, Int.reduceNeg, Int.cast_ofNat_Int]
end Go.Proofs.YtkbdinocadoelaaDoor.M

/- Functions: lists, texts joined, sums, the least and the greatest: the program's and the document's. -/
namespace Go.Proofs.YtkbdinocadoelaaDoor.M
set_option linter.unusedSimpArgs false
set_option linter.unusedVariables false
open Go Classical
theorem r_Clone (l : List V) (h : l.length ≤ 1000000000) : R_slices_Clone_api_Val_api_Val l l := fun S => call_ext sp_slices_Clone_api_Val_api_Val S (by
  unfold cloneX
  dsimp only
  rw [if_pos ⟨rfl, by rw [encL_length]; omega, by rw [encL_length]; omega⟩])
theorem r_List (l : List V) (hs : smallL l) (hl : l.length ≤ 1000000000) (hb : deepL l < 9223372036854775808) : R_val_List l (listS l).1 (listS l).2 := by
  apply val_List_tree
  refine ⟨fun h => ?_, fun h => ⟨_, r_deep l hb hs, fun h2 => ?_, fun h2 => ⟨_, r_Clone l hl, ?_⟩⟩⟩
  · have : 64 < l.length := by omega
    simp [listS, this, zeroV]
  · have : 64 ≤ deepL l := by omega
    simp [listS, this, zeroV]
  · have h3 : ¬ (64 < l.length ∨ 64 ≤ deepL l) := by omega
    simp [listS, h3]
theorem rdeep_list (l : List V) : (64 < (rdeep 64 (.mk 4 0 [] l) : Nat)) ↔ 64 ≤ deepL l := by
  have hd : deep (.mk 4 0 [] l) = 1 + deepL l := by simp [deep]
  constructor
  · intro h
    rcases Nat.lt_or_ge 64 (deep (.mk 4 0 [] l)) with h1 | h1
    · omega
    · rw [rdeep_small 64 _ h1] at h; omega
  · intro h
    have := rdeep_big 64 (.mk 4 0 [] l) (by omega)
    omega
theorem r_rList (l : List V) (hs : smallL l) (hb : l.length ≤ 1000000000) : R_ref4_List l ⟨(listS l).1, (listS l).2⟩ := by
  apply ref4_List_tree
  have e4 := r_bad 4
  have hd := r_rdeep 64 (by omega) (.mk 4 0 [] l) (by simp only [small]; exact hs)
  have hl := rdeep_list l
  unfold listS
  refine ⟨by simp only [bigRow]; omega, fun h => ⟨_, e4, ?_⟩, fun h => ⟨_, hd, fun h2 => ⟨_, e4, ?_⟩, fun h2 => ?_⟩⟩
  · simp [show 64 < l.length by omega]
  · simp [show 64 ≤ deepL l from hl.1 (by omega)]
  · have h3 : ¬ (64 ≤ deepL l) := fun h => h2 (by have := hl.2 h; omega)
    have h4 : ¬ 64 < l.length := by omega
    simp [h3, h4]
theorem r_rtruth (b : Bool) : R_ref4_truth b ⟨.mk 3 (if b then 1 else 0) [] [], 0⟩ := by
  apply ref4_truth_tree
  cases b
  · exact ⟨fun h => (by cases h), fun _ => rfl⟩
  · exact ⟨fun _ => rfl, fun h => absurd rfl h⟩
theorem r_vBool (b : Bool) : R_val_Bool b (.mk 3 (if b then 1 else 0) [] []) := by
  apply val_Bool_tree
  cases b
  · exact ⟨fun h => (by cases h), fun _ => rfl⟩
  · exact ⟨fun _ => rfl, fun h => absurd rfl h⟩
theorem r_rJoin_loop (l : List (List UInt8)) (hl : l.length ≤ 1000000) (ht : ∀ s ∈ l, s.length ≤ 1000000) : ∀ (k i : Nat), i + k = l.length → At_ref4_Join_1 l (l.take i).flatten i ⟨(joinV l).1, (joinV l).2⟩ := by
  intro k
  induction k with
  | zero =>
    intro i hi
    apply At_ref4_Join_1_step
    rw [List.take_of_length_le (by omega)]
    refine ⟨fun h => by omega, fun _ => ⟨fun h => ⟨_, r_bad 4, ?_⟩, fun h => ?_⟩⟩
    · rw [joinV_large (by omega)]
    · rw [joinV_fits (by omega)]
  | succ k ih =>
    intro i hi
    apply At_ref4_Join_1_step
    have hlt : i < l.length := by omega
    have h1 := ht l[i] (List.getElem_mem hlt)
    have h2 := flatten_le l i
    refine ⟨fun _ => ⟨fun h => ?_, fun h => ⟨fun _ => ⟨_, r_bad 4, ?_⟩, fun h => ?_⟩⟩, fun h => absurd (by omega) h⟩
    · have := ih (i + 1) (by omega)
      rw [List.take_succ_eq_append_getElem hlt, List.flatten_append, List.flatten_cons, List.flatten_nil, List.append_nil] at this
      exact ⟨by omega, l[i], by simp [hlt], by simp only [maxInt]; omega, ⟨by omega, by omega⟩, this⟩
    · rw [joinV_large (by omega)]
    · omega
theorem r_rJoin (l : List (List UInt8)) (hl : l.length ≤ 1000000) (ht : ∀ s ∈ l, s.length ≤ 1000000) : R_ref4_Join l ⟨(joinV l).1, (joinV l).2⟩ := by
  apply ref4_Join_tree
  exact r_rJoin_loop l hl ht l.length 0 (by omega)
/-! ### Sums -/
theorem reckon_range (a b : Int) : I64 (reckonS 19 a b).1 := by
  obtain ⟨q, h1, h2, h3⟩ := wrap_q (a + b)
  unfold reckonS
  rw [if_pos rfl]
  split
  · exact ⟨h2, h3⟩
  · exact ⟨by omega, by omega⟩
/-- A sum, from n on: and its error. -/
def sumS : Int → List V → V × Int
  | n, [] => (numV n, 0)
  | n, v :: l => if (reckonS 19 n v.n).2 = 0 then sumS (reckonS 19 n v.n).1 l else (zeroV, (reckonS 19 n v.n).2)
theorem two_add (n : Int) (v : V) (h : v.k = 1) : twoT 19 (numV n) v = (if (reckonS 19 n v.n).2 = 0 then numV (reckonS 19 n v.n).1 else zeroV, (reckonS 19 n v.n).2) := by
  obtain ⟨k, m, t, l⟩ := v
  simp only [V.k] at h
  subst h
  simp [twoT, numV, V.k, V.n]
  congr
theorem r_sum_loop (v2 : V) (hl : v2.l.length ≤ 1000000) (hk : ∀ x ∈ v2.l, x.k = 1 ∧ small x) (i4 i5 : Int) (s6 : List UInt8) (l11 : List V) (g : Nat) : ∀ (k i : Nat), i + k = v2.l.length → ∀ n : Int, At_fun_sum_1 v2 i i4 i5 s6 1 n [] [] l11 g (sumS n (v2.l.drop i)).1 (sumS n (v2.l.drop i)).2 := by
  intro k
  induction k with
  | zero =>
    intro i hi n
    apply At_fun_sum_1_step
    rw [List.drop_of_length_le (by omega)]
    exact ⟨fun h => by omega, fun _ => ⟨rfl, rfl⟩⟩
  | succ k ih =>
    intro i hi n
    apply At_fun_sum_1_step
    have hlt : i < v2.l.length := by omega
    obtain ⟨h1, h2⟩ := hk _ (List.getElem_mem hlt)
    have hr := r_Two 19 (numV n) v2.l[i] (by simp [numV, small, smallA]) (fun h => by simp [numV, V.k] at h) (fun h => by rw [h1] at h; cases h)
    rw [two_add n _ h1] at hr
    rw [List.drop_eq_getElem_cons hlt, sumS]
    refine ⟨fun _ => ⟨by omega, v2.l[i], by simp [hlt], _, _, hr, fun h => ⟨⟨by omega, by omega⟩, ?_⟩, fun h => ?_⟩, fun h => absurd (by omega) h⟩
    · rw [if_pos h, if_pos h]
      exact ih (i + 1) (by omega) _
    · rw [if_neg h]
      exact ⟨rfl, rfl⟩
theorem r_sum (v : V) (l : List V) (hl : v.l.length ≤ 1000000) (hk : ∀ x ∈ v.l, x.k = 1 ∧ small x) : R_fun_sum (v :: l) (sumS 0 v.l).1 (sumS 0 v.l).2 := by
  apply fun_sum_tree
  exact ⟨_, r_Int 0, v, rfl, r_sum_loop v hl hk 0 0 [] [] 0 v.l.length 0 (by omega) 0⟩
theorem r_added_loop (l : List V) (hl : l.length ≤ 1000000) (hk : ∀ x ∈ l, okV x) : ∀ (k i : Nat), i + k = l.length → ∀ n : Int, I64 n → At_ref4_added_1 l i 1 n [] [] 0 ⟨(sumS n (l.drop i)).1, (sumS n (l.drop i)).2⟩ := by
  intro k
  induction k with
  | zero =>
    intro i hi n hn
    apply At_ref4_added_1_step
    rw [List.drop_of_length_le (by omega)]
    exact ⟨fun h => by omega, fun _ => rfl⟩
  | succ k ih =>
    intro i hi n hn
    apply At_ref4_added_1_step
    have hlt : i < l.length := by omega
    have h1 := hk _ (List.getElem_mem hlt)
    have hr := r_rreckon 19 n l[i].n hn h1
    rw [List.drop_eq_getElem_cons hlt, sumS]
    refine ⟨fun _ => ⟨fun _ => ⟨by omega, l[i], by simp [hlt], _, hr, ⟨by omega, by omega⟩, ?_⟩, fun h => absurd rfl h⟩, fun h => absurd (by omega) h⟩
    by_cases h : (reckonS 19 n l[i].n).2 = 0
    · rw [if_pos h, if_pos h]
      exact ih (i + 1) (by omega) _ (reckon_range n _)
    · rw [if_neg h, if_neg h]
      apply At_ref4_added_1_step
      refine ⟨fun _ => ⟨fun h' => absurd h' h, fun _ => rfl⟩, fun _ => rfl⟩
theorem r_added (l : List V) (hl : l.length ≤ 1000000) (hk : ∀ x ∈ l, okV x) : R_ref4_added l ⟨(sumS 0 l).1, (sumS 0 l).2⟩ := by
  apply ref4_added_tree
  exact ⟨_, r_rnum 0, r_added_loop l hl hk l.length 0 (by omega) 0 ⟨by omega, by omega⟩⟩
/-! ### The least and the greatest -/
def leastS (n : Int) : List V → Int
  | [] => n
  | v :: l => leastS (if v.n < n then v.n else n) l
def mostS (n : Int) : List V → Int
  | [] => n
  | v :: l => mostS (if n < v.n then v.n else n) l
theorem is_num {v : V} (h : v.s = [] ∧ v.l = [] ∧ v.k = 1) : v = numV v.n := by
  cases v; simp only [V.s, V.l, V.k] at h; obtain ⟨rfl, rfl, rfl⟩ := h; rfl
theorem r_best_loop (ahead : Nat) (p : Int → Int → Bool) (ha : ∀ a b, RF_73 ahead a b (p a b)) (F : Int → List V → Int) (hF0 : ∀ n, F n [] = n) (hF : ∀ n v l, F n (v :: l) = F (if p v.n n = true then v.n else n) l) (l : List V) (hl : l.length ≤ 1000000) (hk : ∀ x ∈ l, x.s = [] ∧ x.l = [] ∧ x.k = 1) : ∀ (k i : Nat), i + k = l.length - 1 → ∀ n : Int, At_fun_best_1 ahead l i 1 n [] [] (numV (F n (l.drop (i + 1)))) 0 := by
  intro k
  induction k with
  | zero =>
    intro i hi n
    apply At_fun_best_1_step
    have e : l.drop (i + 1) = [] := List.drop_of_length_le (by omega)
    rw [e, hF0]
    refine ⟨fun h => ?_, fun _ => ⟨rfl, rfl⟩⟩
    simp only [List.length_take, List.length_drop] at h
    omega
  | succ k ih =>
    intro i hi n
    apply At_fun_best_1_step
    have hlt : i + 1 < l.length := by omega
    obtain ⟨h1, h2, h3⟩ := hk _ (List.getElem_mem hlt)
    rw [List.drop_eq_getElem_cons hlt, hF]
    refine ⟨fun _ => ⟨by omega, l[i + 1], ?_, _, ha _ _, fun h => ⟨⟨by omega, by omega⟩, ?_⟩, fun h => ⟨⟨by omega, by omega⟩, ?_⟩⟩, fun h => absurd ?_ h⟩
    · rw [Int.toNat_natCast, List.getElem?_take_of_lt (by omega), List.getElem?_drop, Nat.add_comm 1 i]
      exact List.getElem?_eq_getElem hlt
    · rw [if_pos h, h1, h2, h3]
      exact ih (i + 1) (by omega) _
    · rw [if_neg h]
      exact ih (i + 1) (by omega) _
    · simp only [List.length_take, List.length_drop]
      omega
theorem r_best (ahead : Nat) (p : Int → Int → Bool) (ha : ∀ a b, RF_73 ahead a b (p a b)) (F : Int → List V → Int) (hF0 : ∀ n, F n [] = n) (hF : ∀ n v l, F n (v :: l) = F (if p v.n n = true then v.n else n) l) (v : V) (l : List V) (hl : (v :: l).length ≤ 1000000) (hk : ∀ x ∈ v :: l, x.s = [] ∧ x.l = [] ∧ x.k = 1) : R_fun_best ahead (v :: l) (numV (F v.n l)) 0 := by
  apply fun_best_tree
  obtain ⟨h1, h2, h3⟩ := hk v (by simp)
  refine ⟨v, rfl, by simp, ?_⟩
  have := r_best_loop ahead p ha F hF0 hF (v :: l) hl hk l.length 0 (by simp) v.n
  rw [h1, h2, h3]
  exact this
theorem r_least (v : V) (l : List V) (hl : (v :: l).length ≤ 1000000) (hk : ∀ x ∈ v :: l, x.s = [] ∧ x.l = [] ∧ x.k = 1) : R_fun_least (v :: l) (numV (leastS v.n l)) 0 := by
  apply fun_least_tree
  exact ⟨_, _, r_best 57 (fun a b => decide (a < b)) (fun a b => fun_least_1_tree a b _ rfl) leastS (fun _ => rfl) (fun n v l => by simp [leastS]) v l hl hk, rfl, rfl⟩
theorem r_greatest (v : V) (l : List V) (hl : (v :: l).length ≤ 1000000) (hk : ∀ x ∈ v :: l, x.s = [] ∧ x.l = [] ∧ x.k = 1) : R_fun_greatest (v :: l) (numV (mostS v.n l)) 0 := by
  apply fun_greatest_tree
  exact ⟨_, _, r_best 58 (fun a b => decide (b < a)) (fun a b => fun_greatest_1_tree a b _ rfl) mostS (fun _ => rfl) (fun n v l => by simp [mostS]) v l hl hk, rfl, rfl⟩
theorem r_edge_loop (least : Bool) (l : List V) (hl : l.length ≤ 1000000) : ∀ (k i : Nat), i + k = l.length → ∀ n : Int, At_ref4_edge_1 least l n i ⟨numV (if least = true then leastS n (l.drop i) else mostS n (l.drop i)), 0⟩ := by
  intro k
  induction k with
  | zero =>
    intro i hi n
    apply At_ref4_edge_1_step
    rw [List.drop_of_length_le (by omega)]
    refine ⟨fun h => by omega, fun _ => ⟨_, r_rnum n, by simp [leastS, mostS]⟩⟩
  | succ k ih =>
    intro i hi n
    apply At_ref4_edge_1_step
    have hlt : i < l.length := by omega
    rw [List.drop_eq_getElem_cons hlt, leastS, mostS]
    refine ⟨fun _ => ⟨fun h => ⟨by omega, l[i], by simp [hlt], ⟨by omega, by omega⟩, ?_⟩, fun h => ⟨by omega, l[i], by simp [hlt], ⟨by omega, by omega⟩, ?_⟩⟩, fun h => absurd (by omega) h⟩
    · have := ih (i + 1) (by omega) (if l[i].n < n then l[i].n else n)
      rw [if_pos h] at this ⊢
      exact this
    · have := ih (i + 1) (by omega) (if n < l[i].n then l[i].n else n)
      rw [if_neg h] at this ⊢
      exact this
theorem r_edge (least : Bool) (v : V) (l : List V) (hl : (v :: l).length ≤ 1000000) : R_ref4_edge least (v :: l) ⟨numV (if least = true then leastS v.n l else mostS v.n l), 0⟩ := by
  apply ref4_edge_tree
  exact ⟨v, rfl, r_edge_loop least (v :: l) hl l.length 1 (by simp; omega) v.n⟩
end Go.Proofs.YtkbdinocadoelaaDoor.M

/- Functions: what a call yields: the program's, and the document's. (Written by Wf2.py.) -/
namespace Go.Proofs.YtkbdinocadoelaaDoor.M
set_option linter.unusedSimpArgs false
set_option linter.unusedVariables false
open Go Classical
def numB (v : V) : Bool := decide (v.k = 1)
def textB (v : V) : Bool := decide (v.k = 2)
def listB (v : V) : Bool := decide (v.k = 4)
def mayAll (f : Nat → V → Bool) : Nat → List V → Bool
  | _, [] => true
  | i, v :: l => f i v && mayAll f (i + 1) l
theorem mayAll_at {f : Nat → V → Bool} {l : List V} {i : Nat} (h : i < l.length) : mayAll f i (l.drop i) = (f i l[i] && mayAll f (i + 1) (l.drop (i + 1))) := by rw [List.drop_eq_getElem_cons h, mayAll]
theorem mayAll_end {f : Nat → V → Bool} {l : List V} {i : Nat} (h : l.length ≤ i) : mayAll f i (l.drop i) = true := by rw [List.drop_of_length_le h, mayAll]
theorem mayAll_congr {f g : Nat → V → Bool} : ∀ (l : List V) (i : Nat), (∀ j, ∀ v ∈ l, f j v = g j v) → mayAll f i l = mayAll g i l
  | [], _, _ => rfl
  | v :: l, i, h => by rw [mayAll, mayAll, h i v (by simp), mayAll_congr l (i + 1) fun j u hu => h j u (by simp [hu])]
/-- An argument: what is asked of it. -/
structure Arg (v : V) : Prop where
  sm : small v
  ok : okV v
  tr : okT v
  ll : v.l.length ≤ 100000
  sl : v.s.length ≤ 100000
  num : v.k = 1 → v.s = [] ∧ v.l = []
  str : v.k ≠ 4 → v.l = []
  dp : deep v ≤ 100000
  each : ∀ x ∈ v.l, small x ∧ okV x ∧ okT x ∧ x.s.length ≤ 100000
theorem r_number (v : V) : R_fun_number v (numB v) := fun_number_tree v _ rfl
theorem r_list (v : V) : R_fun_list v (listB v) := fun_list_tree v _ rfl
theorem r_text (v : V) : R_fun_text v (textB v) := fun_text_tree v _ rfl
theorem r_any (v : V) : R_fun_any v true := fun_any_tree v _ rfl
theorem any_not (l : List V) (p : V → Bool) : (!(l.any fun x => !p x)) = l.all p := by induction l with | nil => rfl | cons x l ih => simp only [List.any_cons, List.all_cons, Bool.not_or, Bool.not_not, ih]
theorem r_each (v : V) (f : Nat) (p : V → Bool) (h : ∀ x, RF_27 f x (p x)) (hl : v.l.length ≤ 100000) : R_fun_each v f (listB v && v.l.all p) := by
  apply fun_each_tree
  refine ⟨_, r_list v, fun hb => ⟨by omega, fun x => !p x, fun x _ => fun_each_1_tree x f _ ⟨_, h x, rfl⟩, ?_⟩, fun hb => ?_⟩
  · rw [hb, any_not, Bool.true_and]
  · rw [Bool.eq_false_iff.2 hb, Bool.false_and]
theorem r_numbers (v : V) (hl : v.l.length ≤ 100000) : R_fun_numbers v (listB v && v.l.all numB) := fun_numbers_tree v _ ⟨_, r_each v 38 numB r_number hl, rfl⟩
theorem r_texts (v : V) (hl : v.l.length ≤ 100000) : R_fun_texts v (listB v && v.l.all textB) := fun_texts_tree v _ ⟨_, r_each v 47 textB r_text hl, rfl⟩
theorem r_long (v : V) : R_fun_long v (listB v || textB v) := by
  apply fun_long_tree
  refine ⟨_, r_list v, fun hb => by rw [hb, Bool.true_or], fun hb => ⟨_, r_text v, by rw [Bool.eq_false_iff.2 hb, Bool.false_or]⟩⟩
def mNum (_ : Nat) (v : V) : Bool := numB v
def mNums (_ : Nat) (v : V) : Bool := listB v && v.l.all numB
def mLong (_ : Nat) (v : V) : Bool := listB v || textB v
def mList (_ : Nat) (v : V) : Bool := listB v
def mAny (_ : Nat) (_ : V) : Bool := true
def mJoin (i : Nat) (v : V) : Bool := if i = 0 then textB v else listB v && v.l.all textB
def mHas (i : Nat) (v : V) : Bool := if i = 0 then listB v else true
/-- Texts, with one between. -/
def between (by_ : List UInt8) : List V → List (List UInt8)
  | [] => []
  | [v] => [v.s]
  | v :: u :: l => v.s :: by_ :: between by_ (u :: l)
def countV (n : Nat) : List V := (List.range n).map fun (i : Nat) => numV ((i : Nat) : Int)
noncomputable section
def tMin : List V → V × Int
  | [] => (zeroV, 0)
  | v :: l => (numV (leastS v.n l), 0)
def tMax : List V → V × Int
  | [] => (zeroV, 0)
  | v :: l => (numV (mostS v.n l), 0)
def tSum : List V → V × Int
  | [] => (zeroV, 0)
  | v :: _ => sumS 0 v.l
def tLen : List V → V × Int
  | [] => (zeroV, 0)
  | v :: _ => (numV (((v.l.length : Nat) : Int) + ((v.s.length : Nat) : Int)), 0)
def tConcat (l : List V) : V × Int := listS (l.map V.l).flatten
def tJoin : List V → V × Int
  | v :: u :: _ => joinV (between v.s u.l)
  | _ => (zeroV, 0)
def tRange : List V → V × Int
  | [] => (zeroV, 0)
  | v :: _ => if v.n < 0 then (zeroV, 1) else if 64 < v.n then (zeroV, 4) else listS (countV v.n.toNat)
def tAbs : List V → V × Int
  | [] => (zeroV, 0)
  | v :: _ => if v.n < 0 then oneT 9 v else (numV v.n, 0)
def tHas : List V → V × Int
  | v :: u :: _ => (.mk 3 (if (v.l.any fun x => sameV x u) = true then 1 else 0) [] [], 0)
  | _ => (zeroV, 0)
def tText : List V → V × Int
  | [] => (zeroV, 0)
  | v :: _ => if (textV v).2 = 0 then joinV [(textV v).1] else (zeroV, (textV v).2)
def ruleS (lo hi : Nat) (may : Nat → V → Bool) (todo : List V → V × Int) (l : List V) : V × Int :=
  if l.length < lo then (zeroV, 1) else if hi < l.length then (zeroV, 1) else if mayAll may 0 l = true then todo l else (zeroV, 7)
/-- What a call yields. -/
def callS (name : List UInt8) (l : List V) : V × Int :=
  if name = [109, 105, 110] then ruleS 1 1073741824 mNum tMin l else
  if name = [109, 97, 120] then ruleS 1 1073741824 mNum tMax l else
  if name = [115, 117, 109] then ruleS 1 1 mNums tSum l else
  if name = [108, 101, 110] then ruleS 1 1 mLong tLen l else
  if name = [99, 111, 110, 99, 97, 116] then ruleS 1 1073741824 mList tConcat l else
  if name = [106, 111, 105, 110] then ruleS 2 2 mJoin tJoin l else
  if name = [114, 97, 110, 103, 101] then ruleS 1 1 mNum tRange l else
  if name = [97, 98, 115] then ruleS 1 1 mNum tAbs l else
  if name = [104, 97, 115] then ruleS 2 2 mHas tHas l else
  if name = [116, 101, 120, 116] then ruleS 1 1 mAny tText l else
  (zeroV, 2)
end
/-! ### What each does -/
def Sane (l : List V) : Prop := l.length ≤ 1000 ∧ ∀ v ∈ l, Arg v
theorem Sane.hd {v : V} {l : List V} (h : Sane (v :: l)) : Arg v := h.2 v (by simp)
theorem smallA_of : ∀ {l : List V}, (∀ v ∈ l, small v) → smallA l
  | [], _ => trivial
  | v :: l, h => ⟨h v (by simp), smallA_of fun u hu => h u (by simp [hu])⟩
theorem deep_in {v x : V} (h : x ∈ v.l) (hv : v.k = 4) : deep x ≤ deep v := by
  rw [deep_eq v, if_pos hv]
  obtain ⟨i, hi⟩ := List.getElem?_of_mem h
  have := deep_get hi
  omega
theorem deepL_in {v : V} (hv : v.k = 4) : deepL v.l ≤ deep v := by rw [deep_eq v, if_pos hv]; omega
theorem flat_le (B : Nat) : ∀ (l : List V), (∀ v ∈ l, v.l.length ≤ B) → (l.map V.l).flatten.length ≤ B * l.length
  | [], _ => by simp
  | v :: l, h => by
    have h1 := h v (by simp)
    have h2 := flat_le B l fun u hu => h u (by simp [hu])
    simp only [List.map_cons, List.flatten_cons, List.length_append, List.length_cons, Nat.mul_add]
    omega
theorem flat_deep : ∀ (l : List V), (∀ v ∈ l, Arg v ∧ v.k = 4) → smallA (l.map V.l).flatten ∧ deepL (l.map V.l).flatten ≤ 100000 := by
  intro l h
  refine ⟨smallA_of fun x hx => ?_, deepL_le fun x hx => ?_⟩
  all_goals
    rw [List.mem_flatten] at hx
    obtain ⟨m, hm, hx⟩ := hx
    rw [List.mem_map] at hm
    obtain ⟨v, hv, rfl⟩ := hm
    obtain ⟨ha, hk⟩ := h v hv
  · exact (ha.each x hx).1
  · exact Nat.le_trans (deep_in hx hk) ha.dp
theorem mayAll_mem {f : Nat → V → Bool} : ∀ {l : List V} {i : Nat}, mayAll f i l = true → ∀ v ∈ l, ∃ j, f j v = true
  | [], _, _, v, hv => by cases hv
  | u :: l, i, h, v, hv => by
    simp only [mayAll, Bool.and_eq_true] at h
    rcases List.mem_cons.1 hv with rfl | hv
    · exact ⟨i, h.1⟩
    · exact mayAll_mem h.2 v hv
theorem r_concat_loop (l : List V) (h : Sane l) (hk : ∀ v ∈ l, v.k = 4) : ∀ (k i : Nat), i + k = l.length → At_fun_concat_1 l i ((l.take i).map V.l).flatten (tConcat l).1 (tConcat l).2 := by
  intro k
  have hlen := h.1
  have hf := flat_deep l fun v hv => ⟨h.2 v hv, hk v hv⟩
  have hfl := flat_le 100000 l fun v hv => (h.2 v hv).ll
  induction k with
  | zero =>
    intro i hi
    apply At_fun_concat_1_step
    rw [List.take_of_length_le (by omega)]
    exact ⟨fun h => by omega, fun _ => ⟨_, _, r_List _ ⟨by omega, hf.1⟩ (by omega) (by omega), rfl, rfl⟩⟩
  | succ k ih =>
    intro i hi
    apply At_fun_concat_1_step
    have hlt : i < l.length := by omega
    have := ih (i + 1) (by omega)
    rw [List.take_succ_eq_append_getElem hlt, List.map_append, List.flatten_append, List.map_cons, List.map_nil, List.flatten_cons, List.flatten_nil, List.append_nil] at this
    have h1 := flat_le 100000 (l.take i) fun v hv => (h.2 v (List.mem_of_mem_take hv)).ll
    have h2 := (h.2 _ (List.getElem_mem hlt)).ll
    rw [List.length_take] at h1
    exact ⟨fun _ => ⟨by omega, l[i], by simp [hlt], ⟨by omega, by omega, by omega⟩, ⟨by omega, by omega⟩, this⟩, fun h => absurd (by omega) h⟩
theorem r_concat (l : List V) (h : Sane l) (hk : ∀ v ∈ l, v.k = 4) : R_fun_concat l (tConcat l).1 (tConcat l).2 := fun_concat_tree _ _ _ (r_concat_loop l h hk l.length 0 (by omega))
theorem r_rconcat_loop (l : List V) (h : Sane l) (hk : ∀ v ∈ l, v.k = 4) : ∀ (k i : Nat), i + k = l.length → At_ref4_Call_1 l i ((l.take i).map V.l).flatten ⟨(tConcat l).1, (tConcat l).2⟩ := by
  intro k
  have hlen := h.1
  have hf := flat_deep l fun v hv => ⟨h.2 v hv, hk v hv⟩
  have hfl := flat_le 100000 l fun v hv => (h.2 v hv).ll
  have hsm : smallL (l.map V.l).flatten := ⟨by omega, hf.1⟩
  induction k with
  | zero =>
    intro i hi
    apply At_ref4_Call_1_step
    rw [List.take_of_length_le (by omega)]
    refine ⟨fun h => by omega, fun _ => ⟨_, r_rList _ hsm (by omega), rfl⟩⟩
  | succ k ih =>
    intro i hi
    apply At_ref4_Call_1_step
    have hlt : i < l.length := by omega
    have := ih (i + 1) (by omega)
    rw [List.take_succ_eq_append_getElem hlt, List.map_append, List.flatten_append, List.map_cons, List.map_nil, List.flatten_cons, List.flatten_nil, List.append_nil] at this
    have h1 := flat_le 100000 (l.take i) fun v hv => (h.2 v (List.mem_of_mem_take hv)).ll
    have h2 := (h.2 _ (List.getElem_mem hlt)).ll
    rw [List.length_take] at h1
    exact ⟨fun _ => ⟨by omega, l[i], by simp [hlt], ⟨by omega, by omega, by omega⟩, ⟨by omega, by omega⟩, this⟩, fun h => absurd (by omega) h⟩

theorem r_rconcat (l : List V) (h : Sane l) (hk : ∀ v ∈ l, v.k = 4) : At_ref4_Call_1 l 0 [] ⟨(tConcat l).1, (tConcat l).2⟩ := r_rconcat_loop l h hk l.length 0 (by omega)
/-! join -/
theorem between_snoc (by_ : List UInt8) : ∀ (l : List V) (i : Nat) (h : i < l.length), between by_ (l.take (i + 1)) = (if i = 0 then [] else between by_ (l.take i) ++ [by_]) ++ [l[i].s]
  | [], i, h => by simp at h
  | v :: l, 0, h => by simp [between]
  | v :: l, 1, h => by
    cases l with
    | nil => simp at h
    | cons u l => simp [between]
  | v :: l, i + 2, h => by
    have h1 : i + 1 < l.length := by simp only [List.length_cons] at h; omega
    have := between_snoc by_ l (i + 1) h1
    cases l with
    | nil => simp at h1
    | cons u l =>
      simp only [List.take_succ_cons, between, List.getElem_cons_succ] at this ⊢
      rw [this]
      simp
theorem between_len (by_ : List UInt8) : ∀ l : List V, (between by_ l).length ≤ 2 * l.length
  | [] => by simp [between]
  | [v] => by simp [between]
  | v :: u :: l => by have := between_len by_ (u :: l); simp only [between, List.length_cons] at this ⊢; omega
theorem between_mem (by_ : List UInt8) : ∀ (l : List V), ∀ s ∈ between by_ l, s = by_ ∨ ∃ v ∈ l, s = v.s
  | [], s, h => by simp [between] at h
  | [v], s, h => .inr ⟨v, by simp, by simpa [between] using h⟩
  | v :: u :: l, s, h => by
    simp only [between, List.mem_cons] at h
    rcases h with h | h | h
    · exact .inr ⟨v, by simp, h⟩
    · exact .inl h
    · rcases between_mem by_ (u :: l) s h with h | ⟨x, hx, h⟩
      · exact .inl h
      · exact .inr ⟨x, by simp only [List.mem_cons] at hx ⊢; exact .inr hx, h⟩
theorem r_join_loop (l : List V) (v u : V) (h0 : l[0]? = some v) (hu : Arg u) : ∀ (k i : Nat), i + k = u.l.length → At_fun_join_1 l u i (between v.s (u.l.take i)) (joinV (between v.s u.l)).1 (joinV (between v.s u.l)).2 := by
  intro k
  have hll := hu.ll
  induction k with
  | zero =>
    intro i hi
    apply At_fun_join_1_step
    rw [List.take_of_length_le (by omega)]
    have hb := between_len v.s u.l
    exact ⟨fun h => by omega, fun _ => ⟨_, _, r_Join _ (by omega), rfl, rfl⟩⟩
  | succ k ih =>
    intro i hi
    apply At_fun_join_1_step
    have hlt : i < u.l.length := by omega
    have := ih (i + 1) (by omega)
    rw [between_snoc v.s u.l i hlt] at this
    have hb := between_len v.s (u.l.take i)
    rw [List.length_take] at hb
    refine ⟨fun _ => ⟨by omega, u.l[i], by simp [hlt], fun hp => ⟨v, h0, ⟨by omega, by omega, by omega⟩, ⟨by omega, by omega, by omega⟩, ⟨by omega, by omega⟩, ?_⟩, fun hp => ⟨⟨by omega, by omega, by omega⟩, ⟨by omega, by omega⟩, ?_⟩⟩, fun h => absurd (by omega) h⟩
    · rw [if_neg (by omega)] at this
      simpa using this
    · obtain rfl : i = 0 := by omega
      simpa [between] using this
theorem r_join (v u : V) (l : List V) (hu : Arg u) : R_fun_join (v :: u :: l) (joinV (between v.s u.l)).1 (joinV (between v.s u.l)).2 := fun_join_tree _ _ _ ⟨u, rfl, r_join_loop _ v u rfl hu u.l.length 0 (by omega)⟩
theorem r_joined_loop (by_ : List UInt8) (u : V) (hb : by_.length ≤ 100000) (hu : Arg u) : ∀ (k i : Nat), i + k = u.l.length → At_ref4_joined_1 by_ u.l i (between by_ (u.l.take i)) ⟨(joinV (between by_ u.l)).1, (joinV (between by_ u.l)).2⟩ := by
  intro k
  have hll := hu.ll
  induction k with
  | zero =>
    intro i hi
    apply At_ref4_joined_1_step
    rw [List.take_of_length_le (by omega)]
    have hb2 := between_len by_ u.l
    refine ⟨fun h => by omega, fun _ => ⟨_, r_rJoin _ (by omega) fun s hs => ?_, rfl⟩⟩
    rcases between_mem by_ u.l s hs with rfl | ⟨x, hx, rfl⟩
    · omega
    · have := (hu.each x hx).2.2.2
      omega
  | succ k ih =>
    intro i hi
    apply At_ref4_joined_1_step
    have hlt : i < u.l.length := by omega
    have := ih (i + 1) (by omega)
    rw [between_snoc by_ u.l i hlt] at this
    have hb := between_len by_ (u.l.take i)
    rw [List.length_take] at hb
    refine ⟨fun _ => ⟨fun hp => ⟨⟨by omega, by omega, by omega⟩, by omega, u.l[i], by simp [hlt], ⟨by omega, by omega, by omega⟩, ⟨by omega, by omega⟩, ?_⟩, fun hp => ⟨by omega, u.l[i], by simp [hlt], ⟨by omega, by omega, by omega⟩, ⟨by omega, by omega⟩, ?_⟩⟩, fun h => absurd (by omega) h⟩
    · rw [if_neg (by omega)] at this
      simpa using this
    · obtain rfl : i = 0 := by omega
      simpa [between] using this
theorem r_joined (by_ : List UInt8) (u : V) (hb : by_.length ≤ 100000) (hu : Arg u) : R_ref4_joined by_ u.l ⟨(joinV (between by_ u.l)).1, (joinV (between by_ u.l)).2⟩ := ref4_joined_tree _ _ _ (r_joined_loop by_ u hb hu u.l.length 0 (by omega))
/-! range -/
theorem countV_succ (n : Nat) : countV (n + 1) = countV n ++ [numV (n : Int)] := by simp [countV, List.range_succ]
theorem countV_len (n : Nat) : (countV n).length = n := by simp [countV]
theorem countV_small (n : Nat) (h : n ≤ 1000) : smallL (countV n) ∧ deepL (countV n) ≤ 0 := by
  refine ⟨⟨by rw [countV_len]; omega, smallA_of fun x hx => ?_⟩, deepL_le fun x hx => ?_⟩
  all_goals
    simp only [countV, List.mem_map] at hx
    obtain ⟨i, _, rfl⟩ := hx
    simp [numV, small, smallA, deep]
theorem r_span_loop (v : V) (n : Nat) (hv : v.n = n) (hn : n ≤ 64) : ∀ (k i : Nat), i + k = n → At_fun_span_1 v i (countV i) (listS (countV n)).1 (listS (countV n)).2 := by
  intro k
  have hs := countV_small n (by omega)
  induction k with
  | zero =>
    intro i hi
    apply At_fun_span_1_step
    obtain rfl : i = n := by omega
    exact ⟨fun h => by omega, fun _ => ⟨_, _, r_List _ hs.1 (by rw [countV_len]; omega) (by omega), rfl, rfl⟩⟩
  | succ k ih =>
    intro i hi
    apply At_fun_span_1_step
    have := ih (i + 1) (by omega)
    rw [countV_succ] at this
    exact ⟨fun _ => ⟨_, r_Int _, ⟨by rw [countV_len]; omega, by rw [countV_len]; omega, by omega⟩, ⟨by omega, by omega⟩, this⟩, fun h => absurd (by omega) h⟩
theorem r_counted_loop (n : Nat) (hn : n ≤ 64) : ∀ (k i : Nat), i + k = n → At_ref4_counted_1 n i (countV i) ⟨(listS (countV n)).1, (listS (countV n)).2⟩ := by
  intro k
  have hs := countV_small n (by omega)
  induction k with
  | zero =>
    intro i hi
    apply At_ref4_counted_1_step
    obtain rfl : i = n := by omega
    exact ⟨fun h => by omega, fun _ => ⟨_, r_rList _ hs.1 (by rw [countV_len]; omega), rfl⟩⟩
  | succ k ih =>
    intro i hi
    apply At_ref4_counted_1_step
    have := ih (i + 1) (by omega)
    rw [countV_succ] at this
    exact ⟨fun _ => ⟨_, r_rnum _, ⟨by rw [countV_len]; omega, by rw [countV_len]; omega, by omega⟩, ⟨by omega, by omega⟩, this⟩, fun h => absurd (by omega) h⟩
theorem r_span (v : V) (l : List V) : R_fun_span (v :: l) (tRange (v :: l)).1 (tRange (v :: l)).2 := by
  apply fun_span_tree
  refine ⟨v, rfl, fun h => ?_, fun h => ⟨fun h2 => ?_, fun h2 => ?_⟩⟩
  · simp [tRange, h, zeroV]
  · simp [tRange, h, h2, zeroV]
  · have e : v.n = (v.n.toNat : Nat) := by omega
    have := r_span_loop v v.n.toNat e (by omega) v.n.toNat 0 (by omega)
    simpa [tRange, h, h2, countV] using this
theorem r_counted (v : V) (l : List V) : R_ref4_counted v.n ⟨(tRange (v :: l)).1, (tRange (v :: l)).2⟩ := by
  apply ref4_counted_tree
  refine ⟨fun h => ⟨_, r_bad 1, ?_⟩, fun h => ⟨fun h2 => ⟨_, r_bad 4, ?_⟩, fun h2 => ?_⟩⟩
  · simp [tRange, h]
  · simp [tRange, h, h2]
  · have e : v.n = (v.n.toNat : Nat) := by omega
    have := r_counted_loop v.n.toNat (by omega) v.n.toNat 0 (by omega)
    rw [← e] at this
    simpa [tRange, h, h2, countV] using this
/-! abs, has, text, len -/
theorem r_abs (v : V) (l : List V) (hv : okV v) (hk : v.k = 1) (hn : v.k = 1 → v.s = [] ∧ v.l = []) : R_fun_abs (v :: l) (tAbs (v :: l)).1 (tAbs (v :: l)).2 := by
  apply fun_abs_tree
  obtain ⟨h1, h2⟩ := hn hk
  refine ⟨v, rfl, fun h => ?_, fun h => ⟨_, _, r_One 9 v hv, ?_⟩⟩
  · have : ¬ v.n < 0 := by omega
    simp only [tAbs, if_neg this]
    exact ⟨is_num ⟨h1, h2, hk⟩, trivial⟩
  · have : v.n < 0 := by omega
    simp only [tAbs, if_pos this]
    exact ⟨trivial, trivial⟩
theorem r_has (v u : V) (l : List V) (hv : Arg v) : R_fun_has (v :: u :: l) (tHas (v :: u :: l)).1 (tHas (v :: u :: l)).2 := by
  apply fun_has_tree
  have := hv.ll
  exact ⟨v, rfl, by omega, fun x => sameV x u, fun x hx => fun_has_1_tree _ _ _ ⟨u, rfl, _, r_Same x u (hv.each x hx).1, rfl⟩, _, r_vBool _, rfl, rfl⟩
theorem r_rhas_loop (v u : V) (l : List V) (hv : Arg v) (i24 i25 : Int) (s26 : List UInt8) (i27 : Int) (l28 : List V) : ∀ (k i : Nat), i + k = v.l.length → At_ref4_Call_2 (v :: u :: l) i i24 i25 s26 i27 l28 ⟨.mk 3 (if ((v.l.drop i).any fun x => sameV x u) = true then 1 else 0) [] [], 0⟩ := by
  intro k
  have hll := hv.ll
  induction k with
  | zero =>
    intro i hi
    apply At_ref4_Call_2_step
    rw [List.drop_of_length_le (by omega)]
    exact ⟨v, rfl, fun h => by omega, fun _ => ⟨_, r_rtruth false, rfl⟩⟩
  | succ k ih =>
    intro i hi
    apply At_ref4_Call_2_step
    have hlt : i < v.l.length := by omega
    rw [List.drop_eq_getElem_cons hlt, List.any_cons]
    refine ⟨v, rfl, fun _ => ⟨by omega, v.l[i], by simp [hlt], u, rfl, _, r_SameVal _ u (hv.each _ (List.getElem_mem hlt)).1, fun h => ⟨_, r_rtruth true, ?_⟩, fun h => ⟨⟨by omega, by omega⟩, ?_⟩⟩, fun h => absurd (by omega) h⟩
    · rw [h]; rfl
    · rw [Bool.eq_false_iff.2 h, Bool.false_or]
      exact ih (i + 1) (by omega)
theorem r_textOf (v : V) (l : List V) (hv : okV v) : R_fun_textOf (v :: l) (tText (v :: l)).1 (tText (v :: l)).2 := by
  apply fun_textOf_tree
  refine ⟨v, rfl, _, _, r_Text v hv, fun h => ⟨_, _, r_Join _ (by simp), ?_⟩, fun h => ?_⟩
  · simp [tText, h]
  · simp [tText, h, zeroV]
theorem r_length (v : V) (l : List V) (hv : Arg v) : R_fun_length (v :: l) (tLen (v :: l)).1 (tLen (v :: l)).2 := by
  apply fun_length_tree
  have h1 := hv.ll
  have h2 := hv.sl
  exact ⟨v, rfl, ⟨by omega, by omega⟩, _, r_Int _, rfl, rfl⟩
end Go.Proofs.YtkbdinocadoelaaDoor.M
