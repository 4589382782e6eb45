/- Parts of a proof, one behind another: Lt1, Wv1, Wv2, Wv3, Wv4, Wv5, R2, Sc2. -/
import Derived.Test.YtkbdinocadoelaaDoorZFunMade3
import Derived.Lib.ItoaLen
import Derived.Test.YtkbdinocadoelaaDoorProg
import Derived.KernelRfl
/- Trees of functions, printed by a program of this session (lift.py): what a run asks, over plain data. Lean proves each. -/
namespace Go.Proofs.YtkbdinocadoelaaDoor.M
set_option linter.unusedSimpArgs false
set_option linter.unusedVariables false
open Go Classical
theorem sp_val_deep : SP 73 = some (.code sc_val_deep) := SPof_code rfl Tryd.func73 comp_val_deep
/-! doorkeeper/val.deep -/
def At_val_deep_1 (l_ : List V) (i1 : Int) (i2 : Int) (r : Int) : Prop := ∀ (S : Sto) (e : Nat → PV) (f : Fr), e 3 = .int .i64 i1 ∧ e 6 = .list 4 (encL l_) false ∧ e 7 = .int .i64 ((l_.length : Nat) : Int) ∧ e 8 = .int .i64 i2 → k_val_deep_1 SP (E SP (.loop b_val_deep_1) ⟨e, f :: S⟩) = .ok (.v (.int .i64 r)) S
set_option maxHeartbeats 4000000 in
theorem At_val_deep_1_step (l_ : List V) (i1 : Int) (i2 : Int) (r : Int) (T :
  ((i2 < ((l_.length : Nat) : Int)) →
  (0 ≤ i2) ∧
  ∃ (v3 : V), (l_[i2.toNat]? = some v3) ∧
  ((v3.k = 4) →
   ∃ (r4 : Int), (R_val_deep v3.l r4) ∧
   (I64 (1 + r4)) ∧
   (I64 (i2 + 1)) ∧
   At_val_deep_1 l_ (if i1 < (1 + r4) then (1 + r4) else i1) (i2 + 1) r) ∧
  (¬ (v3.k = 4) →
   (I64 (i2 + 1)) ∧
   At_val_deep_1 l_ i1 (i2 + 1) r)) ∧
 (¬ (i2 < ((l_.length : Nat) : Int)) →
  i1 = r)) : At_val_deep_1 l_ i1 i2 r := by
 intro S e f h
 unfold k_val_deep_1
 rw [E_loop]
 by_cases c1 : i2 < ((l_.length : Nat) : Int)
 · replace T := T.1 c1
   obtain ⟨p2, v3, q3, T⟩ := T
   by_cases c4 : v3.k = 4
   · replace T := T.1 c4
     obtain ⟨r4, q5, p6, p7, T⟩ := T
     simp only [R_val_deep, le] at q5
     try simp only [h, eq_true c1, p2, q3, eq_true c4, q5, p6.wrap, p7.wrap, U_val_deep, lw, le, Nat.zero_le, Nat.sub_zero, take_app3, set_get, take_set, List.length_set, List.map_set, reduceIte, reduceCtorEq, Nat.reduceEqDiff, Nat.reduceAdd, Nat.reduceLeDiff, Nat.reduceSub, Nat.reduceLT, Int.reduceEq, Int.reduceLT, Int.reduceLE, Int.reduceToNat, Int.reduceAdd, Int.reduceSub, Int.reduceMul, Int.reduceNeg, Int.cast_ofNat_Int]
     refine T S _ _ ?_
     simp only [h, eq_true c1, p2, q3, eq_true c4, q5, p6.wrap, p7.wrap, U_val_deep, lw, le, Nat.zero_le, Nat.sub_zero, take_app3, set_get, take_set, List.length_set, List.map_set, reduceIte, reduceCtorEq, Nat.reduceEqDiff, Nat.reduceAdd, Nat.reduceLeDiff, Nat.reduceSub, Nat.reduceLT, Int.reduceEq, Int.reduceLT, Int.reduceLE, Int.reduceToNat, Int.reduceAdd, Int.reduceSub, Int.reduceMul, Int.reduceNeg, Int.cast_ofNat_Int]
   · replace T := T.2 c4
     obtain ⟨p8, T⟩ := T
     try simp only [h, eq_true c1, p2, q3, eq_false c4, p8.wrap, U_val_deep, lw, le, Nat.zero_le, Nat.sub_zero, take_app3, set_get, take_set, List.length_set, List.map_set, reduceIte, reduceCtorEq, Nat.reduceEqDiff, Nat.reduceAdd, Nat.reduceLeDiff, Nat.reduceSub, Nat.reduceLT, Int.reduceEq, Int.reduceLT, Int.reduceLE, Int.reduceToNat, Int.reduceAdd, Int.reduceSub, Int.reduceMul, Int.reduceNeg, Int.cast_ofNat_Int]
     refine T S _ _ ?_
     simp only [h, eq_true c1, p2, q3, eq_false c4, p8.wrap, U_val_deep, lw, le, Nat.zero_le, Nat.sub_zero, take_app3, set_get, take_set, List.length_set, List.map_set, reduceIte, reduceCtorEq, Nat.reduceEqDiff, Nat.reduceAdd, Nat.reduceLeDiff, Nat.reduceSub, Nat.reduceLT, Int.reduceEq, Int.reduceLT, Int.reduceLE, Int.reduceToNat, Int.reduceAdd, Int.reduceSub, Int.reduceMul, Int.reduceNeg, Int.cast_ofNat_Int]
 · replace T := T.2 c1
   obtain rfl := T
   simp only [h, eq_false c1, U_val_deep, lw, le, Nat.zero_le, Nat.sub_zero, take_app3, set_get, take_set, List.length_set, List.map_set, reduceIte, reduceCtorEq, Nat.reduceEqDiff, Nat.reduceAdd, Nat.reduceLeDiff, Nat.reduceSub, Nat.reduceLT, Int.reduceEq, Int.reduceLT, Int.reduceLE, Int.reduceToNat, Int.reduceAdd, Int.reduceSub, Int.reduceMul, Int.reduceNeg, Int.cast_ofNat_Int]
set_option maxHeartbeats 4000000 in
theorem val_deep_tree (l_ : List V) (r : Int) (T :
  At_val_deep_1 l_ 0 0 r) : R_val_deep l_ r := by
 intro S
 rw [call_code sp_val_deep _ _ rfl]
 try simp only [U_val_deep, lw, le, Nat.zero_le, Nat.sub_zero, take_app3, set_get, take_set, List.length_set, List.map_set, reduceIte, reduceCtorEq, Nat.reduceEqDiff, Nat.reduceAdd, Nat.reduceLeDiff, Nat.reduceSub, Nat.reduceLT, Int.reduceEq, Int.reduceLT, Int.reduceLE, Int.reduceToNat, Int.reduceAdd, Int.reduceSub, Int.reduceMul, Int.reduceNeg, Int.cast_ofNat_Int]
 refine T S _ _ ?_
 simp only [U_val_deep, lw, le, Nat.zero_le, Nat.sub_zero, take_app3, set_get, take_set, List.length_set, List.map_set, reduceIte, reduceCtorEq, Nat.reduceEqDiff, Nat.reduceAdd, Nat.reduceLeDiff, Nat.reduceSub, Nat.reduceLT, Int.reduceEq, Int.reduceLT, Int.reduceLE, Int.reduceToNat, Int.reduceAdd, Int.reduceSub, Int.reduceMul, Int.reduceNeg, Int.cast_ofNat_Int]
theorem sp_val_Same : SP 68 = some (.code sc_val_Same) := SPof_code rfl Tryd.func68 comp_val_Same
/-! doorkeeper/val.Same -/
theorem H_slices_EqualFunc_api_Val_api_Val_api_Val_api_Val_val_Same {xs : List V} {ys : List V}  {p : V → V → Bool} (hl : xs.length < 9223372036854775808) (hp : ∀ x y, x ∈ xs → R_val_Same x y (p x y)) : ∀ (S : Sto), call SP 77 [.list 4 (encL xs) false, .list 4 (encL ys) false, .func 68 []] S = .ok (.v (.bool (all2 p xs ys))) S := by
 intro S  
 refine G_slices_EqualFunc_api_Val_api_Val_api_Val_api_Val xs ys 68 [] p S hl (by intro S; rfl) (by rfl) (by intro a; rfl) ?_
 intro x y hx f
 have := hp x y hx (f :: S)  
 simpa only [PV.upL, PV.up] using this
set_option maxHeartbeats 4000000 in
theorem val_Same_tree (a : V) (b : V) (r : Bool) (T :
  ((a.k = b.k) →
  ((a.n = b.n) →
   ((a.s = b.s) →
    (a.l.length < 9223372036854775808) ∧
    ∃ (pp1 : V → V → Bool), (∀ x y, x ∈ a.l → R_val_Same x y (pp1 x y)) ∧
    (all2 pp1 a.l b.l) = r) ∧
   (¬ (a.s = b.s) →
    false = r)) ∧
  (¬ (a.n = b.n) →
   false = r)) ∧
 (¬ (a.k = b.k) →
  false = r)) : R_val_Same a b r := by
 intro S
 rw [call_code sp_val_Same _ _ rfl]
 by_cases c1 : a.k = b.k
 · replace T := T.1 c1
   by_cases c2 : a.n = b.n
   · replace T := T.1 c2
     by_cases c3 : a.s = b.s
     · replace T := T.1 c3
       obtain ⟨p4, pp1, q5, rfl⟩ := T
       have o5 := H_slices_EqualFunc_api_Val_api_Val_api_Val_api_Val_val_Same (ys := b.l) p4 q5
       try simp only [le] at o5
       simp only [eq_true c1, eq_true c2, eq_true c3, p4, o5, U_val_Same, lw, le, Nat.zero_le, Nat.sub_zero, take_app3, set_get, take_set, List.length_set, List.map_set, reduceIte, reduceCtorEq, Nat.reduceEqDiff, Nat.reduceAdd, Nat.reduceLeDiff, Nat.reduceSub, Nat.reduceLT, Int.reduceEq, Int.reduceLT, Int.reduceLE, Int.reduceToNat, Int.reduceAdd, Int.reduceSub, Int.reduceMul, Int.reduceNeg, Int.cast_ofNat_Int]
     · replace T := T.2 c3
       obtain rfl := T
       simp only [eq_true c1, eq_true c2, eq_false c3, U_val_Same, lw, le, Nat.zero_le, Nat.sub_zero, take_app3, set_get, take_set, List.length_set, List.map_set, reduceIte, reduceCtorEq, Nat.reduceEqDiff, Nat.reduceAdd, Nat.reduceLeDiff, Nat.reduceSub, Nat.reduceLT, Int.reduceEq, Int.reduceLT, Int.reduceLE, Int.reduceToNat, Int.reduceAdd, Int.reduceSub, Int.reduceMul, Int.reduceNeg, Int.cast_ofNat_Int]
   · replace T := T.2 c2
     obtain rfl := T
     simp only [eq_true c1, eq_false c2, U_val_Same, lw, le, Nat.zero_le, Nat.sub_zero, take_app3, set_get, take_set, List.length_set, List.map_set, reduceIte, reduceCtorEq, Nat.reduceEqDiff, Nat.reduceAdd, Nat.reduceLeDiff, Nat.reduceSub, Nat.reduceLT, Int.reduceEq, Int.reduceLT, Int.reduceLE, Int.reduceToNat, Int.reduceAdd, Int.reduceSub, Int.reduceMul, Int.reduceNeg, Int.cast_ofNat_Int]
 · replace T := T.2 c1
   obtain rfl := T
   simp only [eq_false c1, U_val_Same, lw, le, Nat.zero_le, Nat.sub_zero, take_app3, set_get, take_set, List.length_set, List.map_set, reduceIte, reduceCtorEq, Nat.reduceEqDiff, Nat.reduceAdd, Nat.reduceLeDiff, Nat.reduceSub, Nat.reduceLT, Int.reduceEq, Int.reduceLT, Int.reduceLE, Int.reduceToNat, Int.reduceAdd, Int.reduceSub, Int.reduceMul, Int.reduceNeg, Int.cast_ofNat_Int]
theorem sp_val_Text : SP 69 = some (.code sc_val_Text) := SPof_code rfl Tryd.func69 comp_val_Text
/-! doorkeeper/val.Text -/
set_option maxHeartbeats 4000000 in
theorem val_Text_tree (v : V) (ra : List UInt8) (rb : Int) (T :
  ((v.k = 1) →
  ∃ (r1 : List UInt8), (R_strconv_Itoa v.n r1) ∧
  r1 = ra ∧ 0 = rb) ∧
 (¬ (v.k = 1) →
  ((v.k = 2) →
   v.s = ra ∧ 0 = rb) ∧
  (¬ (v.k = 2) →
   ((v.k = 3) →
    ∃ (r2 : List UInt8), (R_strconv_FormatBool (decide (v.n = 1)) r2) ∧
    r2 = ra ∧ 0 = rb) ∧
   (¬ (v.k = 3) →
    [] = ra ∧ 7 = rb)))) : R_val_Text v ra rb := by
 intro S
 rw [call_code sp_val_Text _ _ rfl]
 by_cases c1 : v.k = 1
 · replace T := T.1 c1
   obtain ⟨r1, q2, rfl, rfl⟩ := T
   simp only [R_strconv_Itoa, le] at q2
   simp only [eq_true c1, q2, U_val_Text, lw, le, Nat.zero_le, Nat.sub_zero, take_app3, set_get, take_set, List.length_set, List.map_set, reduceIte, reduceCtorEq, Nat.reduceEqDiff, Nat.reduceAdd, Nat.reduceLeDiff, Nat.reduceSub, Nat.reduceLT, Int.reduceEq, Int.reduceLT, Int.reduceLE, Int.reduceToNat, Int.reduceAdd, Int.reduceSub, Int.reduceMul, Int.reduceNeg, Int.cast_ofNat_Int]
 · replace T := T.2 c1
   by_cases c3 : v.k = 2
   · replace T := T.1 c3
     obtain ⟨rfl, rfl⟩ := T
     simp only [eq_false c1, eq_true c3, U_val_Text, lw, le, Nat.zero_le, Nat.sub_zero, take_app3, set_get, take_set, List.length_set, List.map_set, reduceIte, reduceCtorEq, Nat.reduceEqDiff, Nat.reduceAdd, Nat.reduceLeDiff, Nat.reduceSub, Nat.reduceLT, Int.reduceEq, Int.reduceLT, Int.reduceLE, Int.reduceToNat, Int.reduceAdd, Int.reduceSub, Int.reduceMul, Int.reduceNeg, Int.cast_ofNat_Int]
   · replace T := T.2 c3
     by_cases c4 : v.k = 3
     · replace T := T.1 c4
       obtain ⟨r2, q5, rfl, rfl⟩ := T
       simp only [R_strconv_FormatBool, le] at q5
       simp only [eq_false c1, eq_false c3, eq_true c4, q5, U_val_Text, lw, le, Nat.zero_le, Nat.sub_zero, take_app3, set_get, take_set, List.length_set, List.map_set, reduceIte, reduceCtorEq, Nat.reduceEqDiff, Nat.reduceAdd, Nat.reduceLeDiff, Nat.reduceSub, Nat.reduceLT, Int.reduceEq, Int.reduceLT, Int.reduceLE, Int.reduceToNat, Int.reduceAdd, Int.reduceSub, Int.reduceMul, Int.reduceNeg, Int.cast_ofNat_Int]
     · replace T := T.2 c4
       obtain ⟨rfl, rfl⟩ := T
       simp only [eq_false c1, eq_false c3, eq_false c4, U_val_Text, lw, le, Nat.zero_le, Nat.sub_zero, take_app3, set_get, take_set, List.length_set, List.map_set, reduceIte, reduceCtorEq, Nat.reduceEqDiff, Nat.reduceAdd, Nat.reduceLeDiff, Nat.reduceSub, Nat.reduceLT, Int.reduceEq, Int.reduceLT, Int.reduceLE, Int.reduceToNat, Int.reduceAdd, Int.reduceSub, Int.reduceMul, Int.reduceNeg, Int.cast_ofNat_Int]
theorem sp_val_One : SP 64 = some (.code sc_val_One) := SPof_code rfl Tryd.func64 comp_val_One
/-! doorkeeper/val.One -/
set_option maxHeartbeats 4000000 in
theorem val_One_tree (kind : Int) (v : V) (ra : V) (rb : Int) (T :
  ((kind = 8) →
  ((v.k = 3) →
   ∃ (r1 : V), (R_val_Bool (decide (v.n = 0)) r1) ∧
   r1 = ra ∧ 0 = rb) ∧
  (¬ (v.k = 3) →
   (V.mk 0 0 [] []) = ra ∧ 7 = rb)) ∧
 (¬ (kind = 8) →
  ((kind = 9) →
   ((v.k = 1) →
    ((v.n = (-9223372036854775808)) →
     (V.mk 0 0 [] []) = ra ∧ 8 = rb) ∧
    (¬ (v.n = (-9223372036854775808)) →
     (I64 (0 - v.n)) ∧
     ∃ (r2 : V), (R_val_Int (0 - v.n) r2) ∧
     r2 = ra ∧ 0 = rb)) ∧
   (¬ (v.k = 1) →
    (V.mk 0 0 [] []) = ra ∧ 7 = rb)) ∧
  (¬ (kind = 9) →
   (V.mk 0 0 [] []) = ra ∧ 1 = rb))) : R_val_One kind v ra rb := by
 intro S
 rw [call_code sp_val_One _ _ rfl]
 by_cases c1 : kind = 8
 · replace T := T.1 c1
   by_cases c2 : v.k = 3
   · replace T := T.1 c2
     obtain ⟨r1, q3, rfl, rfl⟩ := T
     simp only [R_val_Bool, le] at q3
     simp only [eq_true c1, eq_true c2, q3, U_val_One, lw, le, Nat.zero_le, Nat.sub_zero, take_app3, set_get, take_set, List.length_set, List.map_set, reduceIte, reduceCtorEq, Nat.reduceEqDiff, Nat.reduceAdd, Nat.reduceLeDiff, Nat.reduceSub, Nat.reduceLT, Int.reduceEq, Int.reduceLT, Int.reduceLE, Int.reduceToNat, Int.reduceAdd, Int.reduceSub, Int.reduceMul, Int.reduceNeg, Int.cast_ofNat_Int]
   · replace T := T.2 c2
     obtain ⟨rfl, rfl⟩ := T
     simp only [eq_true c1, eq_false c2, U_val_One, lw, le, Nat.zero_le, Nat.sub_zero, take_app3, set_get, take_set, List.length_set, List.map_set, reduceIte, reduceCtorEq, Nat.reduceEqDiff, Nat.reduceAdd, Nat.reduceLeDiff, Nat.reduceSub, Nat.reduceLT, Int.reduceEq, Int.reduceLT, Int.reduceLE, Int.reduceToNat, Int.reduceAdd, Int.reduceSub, Int.reduceMul, Int.reduceNeg, Int.cast_ofNat_Int]
 · replace T := T.2 c1
   by_cases c4 : kind = 9
   · replace T := T.1 c4
     by_cases c5 : v.k = 1
     · replace T := T.1 c5
       by_cases c6 : v.n = (-9223372036854775808)
       · replace T := T.1 c6
         obtain ⟨rfl, rfl⟩ := T
         simp only [eq_false c1, eq_true c4, eq_true c5, eq_true c6, U_val_One, lw, le, Nat.zero_le, Nat.sub_zero, take_app3, set_get, take_set, List.length_set, List.map_set, reduceIte, reduceCtorEq, Nat.reduceEqDiff, Nat.reduceAdd, Nat.reduceLeDiff, Nat.reduceSub, Nat.reduceLT, Int.reduceEq, Int.reduceLT, Int.reduceLE, Int.reduceToNat, Int.reduceAdd, Int.reduceSub, Int.reduceMul, Int.reduceNeg, Int.cast_ofNat_Int]
       · replace T := T.2 c6
         obtain ⟨p7, r2, q8, rfl, rfl⟩ := T
         simp only [R_val_Int, le] at q8
         simp only [eq_false c1, eq_true c4, eq_true c5, eq_false c6, p7.wrap, q8, U_val_One, lw, le, Nat.zero_le, Nat.sub_zero, take_app3, set_get, take_set, List.length_set, List.map_set, reduceIte, reduceCtorEq, Nat.reduceEqDiff, Nat.reduceAdd, Nat.reduceLeDiff, Nat.reduceSub, Nat.reduceLT, Int.reduceEq, Int.reduceLT, Int.reduceLE, Int.reduceToNat, Int.reduceAdd, Int.reduceSub, Int.reduceMul, Int.reduceNeg, Int.cast_ofNat_Int]
     · replace T := T.2 c5
       obtain ⟨rfl, rfl⟩ := T
       simp only [eq_false c1, eq_true c4, eq_false c5, U_val_One, lw, le, Nat.zero_le, Nat.sub_zero, take_app3, set_get, take_set, List.length_set, List.map_set, reduceIte, reduceCtorEq, Nat.reduceEqDiff, Nat.reduceAdd, Nat.reduceLeDiff, Nat.reduceSub, Nat.reduceLT, Int.reduceEq, Int.reduceLT, Int.reduceLE, Int.reduceToNat, Int.reduceAdd, Int.reduceSub, Int.reduceMul, Int.reduceNeg, Int.cast_ofNat_Int]
   · replace T := T.2 c4
     obtain ⟨rfl, rfl⟩ := T
     simp only [eq_false c1, eq_false c4, U_val_One, lw, le, Nat.zero_le, Nat.sub_zero, take_app3, set_get, take_set, List.length_set, List.map_set, reduceIte, reduceCtorEq, Nat.reduceEqDiff, Nat.reduceAdd, Nat.reduceLeDiff, Nat.reduceSub, Nat.reduceLT, Int.reduceEq, Int.reduceLT, Int.reduceLE, Int.reduceToNat, Int.reduceAdd, Int.reduceSub, Int.reduceMul, Int.reduceNeg, Int.cast_ofNat_Int]
theorem sp_val_Two : SP 61 = some (.code sc_val_Two) := SPof_code rfl Tryd.func61 comp_val_Two
/-! doorkeeper/val.Two -/
set_option maxHeartbeats 4000000 in
theorem val_Two_tree (kind : Int) (a : V) (b : V) (ra : V) (rb : Int) (T :
  ((kind < 11) →
  (V.mk 0 0 [] []) = ra ∧ 1 = rb) ∧
 (¬ (kind < 11) →
  ((23 < kind) →
   (V.mk 0 0 [] []) = ra ∧ 1 = rb) ∧
  (¬ (23 < kind) →
   ((kind ≤ 12) →
    ((a.k = b.k) →
     ((a.k = 3) →
      ((kind = 11) →
       (I64 (a.n + b.n)) ∧
       ∃ (r1 : V), (R_val_Bool (decide (0 < (a.n + b.n))) r1) ∧
       r1 = ra ∧ 0 = rb) ∧
      (¬ (kind = 11) →
       (I64 (a.n + b.n)) ∧
       ∃ (r2 : V), (R_val_Bool (decide ((a.n + b.n) = 2)) r2) ∧
       r2 = ra ∧ 0 = rb)) ∧
     (¬ (a.k = 3) →
      ((kind = 13) →
       ∃ (r3 : Bool), (R_val_Same a b r3) ∧
       ∃ (r4 : V), (R_val_Bool (decide (r3 = true)) r4) ∧
       r4 = ra ∧ 0 = rb) ∧
      (¬ (kind = 13) →
       ((kind = 14) →
        ∃ (r5 : Bool), (R_val_Same a b r5) ∧
        ∃ (r6 : V), (R_val_Bool (decide (r5 = false)) r6) ∧
        r6 = ra ∧ 0 = rb) ∧
       (¬ (kind = 14) →
        ((kind ≤ 14) →
         (V.mk 0 0 [] []) = ra ∧ 7 = rb) ∧
        (¬ (kind ≤ 14) →
         ((a.k = 1) →
          ((kind ≤ 18) →
           ∃ (r7 : Bool), (R_val_compare kind a.n b.n r7) ∧
           ∃ (r8 : V), (R_val_Bool r7 r8) ∧
           r8 = ra ∧ 0 = rb) ∧
          (¬ (kind ≤ 18) →
           ∃ (r9 : Int) (r10 : Int), (R_val_reckon kind a.n b.n r9 r10) ∧
           ((r10 = 0) →
            ∃ (r11 : V), (R_val_Int r9 r11) ∧
            r11 = ra ∧ 0 = rb) ∧
           (¬ (r10 = 0) →
            (V.mk 0 0 [] []) = ra ∧ r10 = rb))) ∧
         (¬ (a.k = 1) →
          (V.mk 0 0 [] []) = ra ∧ 7 = rb)))))) ∧
    (¬ (a.k = b.k) →
     ((kind = 13) →
      ((kind ≤ 14) →
       (V.mk 0 0 [] []) = ra ∧ 7 = rb) ∧
      (¬ (kind ≤ 14) →
       (V.mk 0 0 [] []) = ra ∧ 7 = rb)) ∧
     (¬ (kind = 13) →
      ((kind = 14) →
       ((kind ≤ 14) →
        (V.mk 0 0 [] []) = ra ∧ 7 = rb) ∧
       (¬ (kind ≤ 14) →
        (V.mk 0 0 [] []) = ra ∧ 7 = rb)) ∧
      (¬ (kind = 14) →
       ((kind ≤ 14) →
        (V.mk 0 0 [] []) = ra ∧ 7 = rb) ∧
       (¬ (kind ≤ 14) →
        (V.mk 0 0 [] []) = ra ∧ 7 = rb))))) ∧
   (¬ (kind ≤ 12) →
    ((kind = 13) →
     ((a.k = b.k) →
      ∃ (r12 : Bool), (R_val_Same a b r12) ∧
      ∃ (r13 : V), (R_val_Bool (decide (r12 = true)) r13) ∧
      r13 = ra ∧ 0 = rb) ∧
     (¬ (a.k = b.k) →
      ((kind ≤ 14) →
       (V.mk 0 0 [] []) = ra ∧ 7 = rb) ∧
      (¬ (kind ≤ 14) →
       (V.mk 0 0 [] []) = ra ∧ 7 = rb))) ∧
    (¬ (kind = 13) →
     ((kind = 14) →
      ((a.k = b.k) →
       ∃ (r14 : Bool), (R_val_Same a b r14) ∧
       ∃ (r15 : V), (R_val_Bool (decide (r14 = false)) r15) ∧
       r15 = ra ∧ 0 = rb) ∧
      (¬ (a.k = b.k) →
       ((kind ≤ 14) →
        (V.mk 0 0 [] []) = ra ∧ 7 = rb) ∧
       (¬ (kind ≤ 14) →
        (V.mk 0 0 [] []) = ra ∧ 7 = rb))) ∧
     (¬ (kind = 14) →
      ((kind ≤ 14) →
       (V.mk 0 0 [] []) = ra ∧ 7 = rb) ∧
      (¬ (kind ≤ 14) →
       ((a.k = b.k) →
        ((a.k = 1) →
         ((kind ≤ 18) →
          ∃ (r16 : Bool), (R_val_compare kind a.n b.n r16) ∧
          ∃ (r17 : V), (R_val_Bool r16 r17) ∧
          r17 = ra ∧ 0 = rb) ∧
         (¬ (kind ≤ 18) →
          ∃ (r18 : Int) (r19 : Int), (R_val_reckon kind a.n b.n r18 r19) ∧
          ((r19 = 0) →
           ∃ (r20 : V), (R_val_Int r18 r20) ∧
           r20 = ra ∧ 0 = rb) ∧
          (¬ (r19 = 0) →
           (V.mk 0 0 [] []) = ra ∧ r19 = rb))) ∧
        (¬ (a.k = 1) →
         (V.mk 0 0 [] []) = ra ∧ 7 = rb)) ∧
       (¬ (a.k = b.k) →
        (V.mk 0 0 [] []) = ra ∧ 7 = rb)))))))) : R_val_Two kind a b ra rb := by
 intro S
 rw [call_code sp_val_Two _ _ rfl]
 by_cases c1 : kind < 11
 · replace T := T.1 c1
   obtain ⟨rfl, rfl⟩ := T
   simp only [eq_true c1, U_val_Two, lw, le, Nat.zero_le, Nat.sub_zero, take_app3, set_get, take_set, List.length_set, List.map_set, reduceIte, reduceCtorEq, Nat.reduceEqDiff, Nat.reduceAdd, Nat.reduceLeDiff, Nat.reduceSub, Nat.reduceLT, Int.reduceEq, Int.reduceLT, Int.reduceLE, Int.reduceToNat, Int.reduceAdd, Int.reduceSub, Int.reduceMul, Int.reduceNeg, Int.cast_ofNat_Int]
 · replace T := T.2 c1
   by_cases c2 : 23 < kind
   · replace T := T.1 c2
     obtain ⟨rfl, rfl⟩ := T
     simp only [eq_false c1, eq_true c2, U_val_Two, lw, le, Nat.zero_le, Nat.sub_zero, take_app3, set_get, take_set, List.length_set, List.map_set, reduceIte, reduceCtorEq, Nat.reduceEqDiff, Nat.reduceAdd, Nat.reduceLeDiff, Nat.reduceSub, Nat.reduceLT, Int.reduceEq, Int.reduceLT, Int.reduceLE, Int.reduceToNat, Int.reduceAdd, Int.reduceSub, Int.reduceMul, Int.reduceNeg, Int.cast_ofNat_Int]
   · replace T := T.2 c2
     by_cases c3 : kind ≤ 12
     · replace T := T.1 c3
       by_cases c4 : a.k = b.k
       · replace T := T.1 c4
         by_cases c5 : a.k = 3
         · replace T := T.1 c5
           by_cases c6 : kind = 11
           · replace T := T.1 c6
             obtain ⟨p7, r1, q8, rfl, rfl⟩ := T
             simp only [R_val_Bool, le] at q8
             simp only [eq_false c1, eq_false c2, eq_true c3, eq_true c4, eq_true c5, eq_true c6, p7.wrap, q8, U_val_Two, lw, le, Nat.zero_le, Nat.sub_zero, take_app3, set_get, take_set, List.length_set, List.map_set, reduceIte, reduceCtorEq, Nat.reduceEqDiff, Nat.reduceAdd, Nat.reduceLeDiff, Nat.reduceSub, Nat.reduceLT, Int.reduceEq, Int.reduceLT, Int.reduceLE, Int.reduceToNat, Int.reduceAdd, Int.reduceSub, Int.reduceMul, Int.reduceNeg, Int.cast_ofNat_Int]
           · replace T := T.2 c6
             obtain ⟨p9, r2, q10, rfl, rfl⟩ := T
             simp only [R_val_Bool, le] at q10
             simp only [eq_false c1, eq_false c2, eq_true c3, eq_true c4, eq_true c5, eq_false c6, p9.wrap, q10, U_val_Two, lw, le, Nat.zero_le, Nat.sub_zero, take_app3, set_get, take_set, List.length_set, List.map_set, reduceIte, reduceCtorEq, Nat.reduceEqDiff, Nat.reduceAdd, Nat.reduceLeDiff, Nat.reduceSub, Nat.reduceLT, Int.reduceEq, Int.reduceLT, Int.reduceLE, Int.reduceToNat, Int.reduceAdd, Int.reduceSub, Int.reduceMul, Int.reduceNeg, Int.cast_ofNat_Int]
         · replace T := T.2 c5
           by_cases c11 : kind = 13
           · replace T := T.1 c11
             obtain ⟨r3, q12, r4, q13, rfl, rfl⟩ := T
             simp only [R_val_Same, le] at q12
             simp only [R_val_Bool, le] at q13
             simp only [eq_false c1, eq_false c2, eq_true c3, eq_true c4, eq_false c5, eq_true c11, q12, q13, U_val_Two, lw, le, Nat.zero_le, Nat.sub_zero, take_app3, set_get, take_set, List.length_set, List.map_set, reduceIte, reduceCtorEq, Nat.reduceEqDiff, Nat.reduceAdd, Nat.reduceLeDiff, Nat.reduceSub, Nat.reduceLT, Int.reduceEq, Int.reduceLT, Int.reduceLE, Int.reduceToNat, Int.reduceAdd, Int.reduceSub, Int.reduceMul, Int.reduceNeg, Int.cast_ofNat_Int]
           · replace T := T.2 c11
             by_cases c14 : kind = 14
             · replace T := T.1 c14
               obtain ⟨r5, q15, r6, q16, rfl, rfl⟩ := T
               simp only [R_val_Same, le] at q15
               simp only [R_val_Bool, le] at q16
               simp only [eq_false c1, eq_false c2, eq_true c3, eq_true c4, eq_false c5, eq_false c11, eq_true c14, q15, q16, U_val_Two, lw, le, Nat.zero_le, Nat.sub_zero, take_app3, set_get, take_set, List.length_set, List.map_set, reduceIte, reduceCtorEq, Nat.reduceEqDiff, Nat.reduceAdd, Nat.reduceLeDiff, Nat.reduceSub, Nat.reduceLT, Int.reduceEq, Int.reduceLT, Int.reduceLE, Int.reduceToNat, Int.reduceAdd, Int.reduceSub, Int.reduceMul, Int.reduceNeg, Int.cast_ofNat_Int]
             · replace T := T.2 c14
               by_cases c17 : kind ≤ 14
               · replace T := T.1 c17
                 obtain ⟨rfl, rfl⟩ := T
                 simp only [eq_false c1, eq_false c2, eq_true c3, eq_true c4, eq_false c5, eq_false c11, eq_false c14, eq_true c17, U_val_Two, lw, le, Nat.zero_le, Nat.sub_zero, take_app3, set_get, take_set, List.length_set, List.map_set, reduceIte, reduceCtorEq, Nat.reduceEqDiff, Nat.reduceAdd, Nat.reduceLeDiff, Nat.reduceSub, Nat.reduceLT, Int.reduceEq, Int.reduceLT, Int.reduceLE, Int.reduceToNat, Int.reduceAdd, Int.reduceSub, Int.reduceMul, Int.reduceNeg, Int.cast_ofNat_Int]
               · replace T := T.2 c17
                 by_cases c18 : a.k = 1
                 · replace T := T.1 c18
                   by_cases c19 : kind ≤ 18
                   · replace T := T.1 c19
                     obtain ⟨r7, q20, r8, q21, rfl, rfl⟩ := T
                     simp only [R_val_compare, le] at q20
                     simp only [R_val_Bool, le] at q21
                     simp only [eq_false c1, eq_false c2, eq_true c3, eq_true c4, eq_false c5, eq_false c11, eq_false c14, eq_false c17, eq_true c18, eq_true c19, q20, q21, U_val_Two, lw, le, Nat.zero_le, Nat.sub_zero, take_app3, set_get, take_set, List.length_set, List.map_set, reduceIte, reduceCtorEq, Nat.reduceEqDiff, Nat.reduceAdd, Nat.reduceLeDiff, Nat.reduceSub, Nat.reduceLT, Int.reduceEq, Int.reduceLT, Int.reduceLE, Int.reduceToNat, Int.reduceAdd, Int.reduceSub, Int.reduceMul, Int.reduceNeg, Int.cast_ofNat_Int]
                   · replace T := T.2 c19
                     obtain ⟨r9, r10, q22, T⟩ := T
                     simp only [R_val_reckon, le] at q22
                     by_cases c23 : r10 = 0
                     · replace T := T.1 c23
                       obtain ⟨r11, q24, rfl, rfl⟩ := T
                       simp only [R_val_Int, le] at q24
                       simp only [eq_false c1, eq_false c2, eq_true c3, eq_true c4, eq_false c5, eq_false c11, eq_false c14, eq_false c17, eq_true c18, eq_false c19, q22, eq_true c23, q24, U_val_Two, lw, le, Nat.zero_le, Nat.sub_zero, take_app3, set_get, take_set, List.length_set, List.map_set, reduceIte, reduceCtorEq, Nat.reduceEqDiff, Nat.reduceAdd, Nat.reduceLeDiff, Nat.reduceSub, Nat.reduceLT, Int.reduceEq, Int.reduceLT, Int.reduceLE, Int.reduceToNat, Int.reduceAdd, Int.reduceSub, Int.reduceMul, Int.reduceNeg, Int.cast_ofNat_Int]
                     · replace T := T.2 c23
                       obtain ⟨rfl, rfl⟩ := T
                       simp only [eq_false c1, eq_false c2, eq_true c3, eq_true c4, eq_false c5, eq_false c11, eq_false c14, eq_false c17, eq_true c18, eq_false c19, q22, eq_false c23, U_val_Two, lw, le, Nat.zero_le, Nat.sub_zero, take_app3, set_get, take_set, List.length_set, List.map_set, reduceIte, reduceCtorEq, Nat.reduceEqDiff, Nat.reduceAdd, Nat.reduceLeDiff, Nat.reduceSub, Nat.reduceLT, Int.reduceEq, Int.reduceLT, Int.reduceLE, Int.reduceToNat, Int.reduceAdd, Int.reduceSub, Int.reduceMul, Int.reduceNeg, Int.cast_ofNat_Int]
                 · replace T := T.2 c18
                   obtain ⟨rfl, rfl⟩ := T
                   simp only [eq_false c1, eq_false c2, eq_true c3, eq_true c4, eq_false c5, eq_false c11, eq_false c14, eq_false c17, eq_false c18, U_val_Two, lw, le, Nat.zero_le, Nat.sub_zero, take_app3, set_get, take_set, List.length_set, List.map_set, reduceIte, reduceCtorEq, Nat.reduceEqDiff, Nat.reduceAdd, Nat.reduceLeDiff, Nat.reduceSub, Nat.reduceLT, Int.reduceEq, Int.reduceLT, Int.reduceLE, Int.reduceToNat, Int.reduceAdd, Int.reduceSub, Int.reduceMul, Int.reduceNeg, Int.cast_ofNat_Int]
       · replace T := T.2 c4
         by_cases c25 : kind = 13
         · replace T := T.1 c25
           by_cases c26 : kind ≤ 14
           · replace T := T.1 c26
             obtain ⟨rfl, rfl⟩ := T
             simp only [eq_false c1, eq_false c2, eq_true c3, eq_false c4, eq_true c25, eq_true c26, U_val_Two, lw, le, Nat.zero_le, Nat.sub_zero, take_app3, set_get, take_set, List.length_set, List.map_set, reduceIte, reduceCtorEq, Nat.reduceEqDiff, Nat.reduceAdd, Nat.reduceLeDiff, Nat.reduceSub, Nat.reduceLT, Int.reduceEq, Int.reduceLT, Int.reduceLE, Int.reduceToNat, Int.reduceAdd, Int.reduceSub, Int.reduceMul, Int.reduceNeg, Int.cast_ofNat_Int]
           · replace T := T.2 c26
             obtain ⟨rfl, rfl⟩ := T
             simp only [eq_false c1, eq_false c2, eq_true c3, eq_false c4, eq_true c25, eq_false c26, U_val_Two, lw, le, Nat.zero_le, Nat.sub_zero, take_app3, set_get, take_set, List.length_set, List.map_set, reduceIte, reduceCtorEq, Nat.reduceEqDiff, Nat.reduceAdd, Nat.reduceLeDiff, Nat.reduceSub, Nat.reduceLT, Int.reduceEq, Int.reduceLT, Int.reduceLE, Int.reduceToNat, Int.reduceAdd, Int.reduceSub, Int.reduceMul, Int.reduceNeg, Int.cast_ofNat_Int]
         · replace T := T.2 c25
           by_cases c27 : kind = 14
           · replace T := T.1 c27
             by_cases c28 : kind ≤ 14
             · replace T := T.1 c28
               obtain ⟨rfl, rfl⟩ := T
               simp only [eq_false c1, eq_false c2, eq_true c3, eq_false c4, eq_false c25, eq_true c27, eq_true c28, U_val_Two, lw, le, Nat.zero_le, Nat.sub_zero, take_app3, set_get, take_set, List.length_set, List.map_set, reduceIte, reduceCtorEq, Nat.reduceEqDiff, Nat.reduceAdd, Nat.reduceLeDiff, Nat.reduceSub, Nat.reduceLT, Int.reduceEq, Int.reduceLT, Int.reduceLE, Int.reduceToNat, Int.reduceAdd, Int.reduceSub, Int.reduceMul, Int.reduceNeg, Int.cast_ofNat_Int]
             · replace T := T.2 c28
               obtain ⟨rfl, rfl⟩ := T
               simp only [eq_false c1, eq_false c2, eq_true c3, eq_false c4, eq_false c25, eq_true c27, eq_false c28, U_val_Two, lw, le, Nat.zero_le, Nat.sub_zero, take_app3, set_get, take_set, List.length_set, List.map_set, reduceIte, reduceCtorEq, Nat.reduceEqDiff, Nat.reduceAdd, Nat.reduceLeDiff, Nat.reduceSub, Nat.reduceLT, Int.reduceEq, Int.reduceLT, Int.reduceLE, Int.reduceToNat, Int.reduceAdd, Int.reduceSub, Int.reduceMul, Int.reduceNeg, Int.cast_ofNat_Int]
           · replace T := T.2 c27
             by_cases c29 : kind ≤ 14
             · replace T := T.1 c29
               obtain ⟨rfl, rfl⟩ := T
               simp only [eq_false c1, eq_false c2, eq_true c3, eq_false c4, eq_false c25, eq_false c27, eq_true c29, U_val_Two, lw, le, Nat.zero_le, Nat.sub_zero, take_app3, set_get, take_set, List.length_set, List.map_set, reduceIte, reduceCtorEq, Nat.reduceEqDiff, Nat.reduceAdd, Nat.reduceLeDiff, Nat.reduceSub, Nat.reduceLT, Int.reduceEq, Int.reduceLT, Int.reduceLE, Int.reduceToNat, Int.reduceAdd, Int.reduceSub, Int.reduceMul, Int.reduceNeg, Int.cast_ofNat_Int]
             · replace T := T.2 c29
               obtain ⟨rfl, rfl⟩ := T
               simp only [eq_false c1, eq_false c2, eq_true c3, eq_false c4, eq_false c25, eq_false c27, eq_false c29, U_val_Two, lw, le, Nat.zero_le, Nat.sub_zero, take_app3, set_get, take_set, List.length_set, List.map_set, reduceIte, reduceCtorEq, Nat.reduceEqDiff, Nat.reduceAdd, Nat.reduceLeDiff, Nat.reduceSub, Nat.reduceLT, Int.reduceEq, Int.reduceLT, Int.reduceLE, Int.reduceToNat, Int.reduceAdd, Int.reduceSub, Int.reduceMul, Int.reduceNeg, Int.cast_ofNat_Int]
     · replace T := T.2 c3
       by_cases c30 : kind = 13
       · replace T := T.1 c30
         by_cases c31 : a.k = b.k
         · replace T := T.1 c31
           obtain ⟨r12, q32, r13, q33, rfl, rfl⟩ := T
           simp only [R_val_Same, le] at q32
           simp only [R_val_Bool, le] at q33
           simp only [eq_false c1, eq_false c2, eq_false c3, eq_true c30, eq_true c31, q32, q33, U_val_Two, lw, le, Nat.zero_le, Nat.sub_zero, take_app3, set_get, take_set, List.length_set, List.map_set, reduceIte, reduceCtorEq, Nat.reduceEqDiff, Nat.reduceAdd, Nat.reduceLeDiff, Nat.reduceSub, Nat.reduceLT, Int.reduceEq, Int.reduceLT, Int.reduceLE, Int.reduceToNat, Int.reduceAdd, Int.reduceSub, Int.reduceMul, Int.reduceNeg, Int.cast_ofNat_Int]
         · replace T := T.2 c31
           by_cases c34 : kind ≤ 14
           · replace T := T.1 c34
             obtain ⟨rfl, rfl⟩ := T
             simp only [eq_false c1, eq_false c2, eq_false c3, eq_true c30, eq_false c31, eq_true c34, U_val_Two, lw, le, Nat.zero_le, Nat.sub_zero, take_app3, set_get, take_set, List.length_set, List.map_set, reduceIte, reduceCtorEq, Nat.reduceEqDiff, Nat.reduceAdd, Nat.reduceLeDiff, Nat.reduceSub, Nat.reduceLT, Int.reduceEq, Int.reduceLT, Int.reduceLE, Int.reduceToNat, Int.reduceAdd, Int.reduceSub, Int.reduceMul, Int.reduceNeg, Int.cast_ofNat_Int]
           · replace T := T.2 c34
             obtain ⟨rfl, rfl⟩ := T
             simp only [eq_false c1, eq_false c2, eq_false c3, eq_true c30, eq_false c31, eq_false c34, U_val_Two, lw, le, Nat.zero_le, Nat.sub_zero, take_app3, set_get, take_set, List.length_set, List.map_set, reduceIte, reduceCtorEq, Nat.reduceEqDiff, Nat.reduceAdd, Nat.reduceLeDiff, Nat.reduceSub, Nat.reduceLT, Int.reduceEq, Int.reduceLT, Int.reduceLE, Int.reduceToNat, Int.reduceAdd, Int.reduceSub, Int.reduceMul, Int.reduceNeg, Int.cast_ofNat_Int]
       · replace T := T.2 c30
         by_cases c35 : kind = 14
         · replace T := T.1 c35
           by_cases c36 : a.k = b.k
           · replace T := T.1 c36
             obtain ⟨r14, q37, r15, q38, rfl, rfl⟩ := T
             simp only [R_val_Same, le] at q37
             simp only [R_val_Bool, le] at q38
             simp only [eq_false c1, eq_false c2, eq_false c3, eq_false c30, eq_true c35, eq_true c36, q37, q38, U_val_Two, lw, le, Nat.zero_le, Nat.sub_zero, take_app3, set_get, take_set, List.length_set, List.map_set, reduceIte, reduceCtorEq, Nat.reduceEqDiff, Nat.reduceAdd, Nat.reduceLeDiff, Nat.reduceSub, Nat.reduceLT, Int.reduceEq, Int.reduceLT, Int.reduceLE, Int.reduceToNat, Int.reduceAdd, Int.reduceSub, Int.reduceMul, Int.reduceNeg, Int.cast_ofNat_Int]
           · replace T := T.2 c36
             by_cases c39 : kind ≤ 14
             · replace T := T.1 c39
               obtain ⟨rfl, rfl⟩ := T
               simp only [eq_false c1, eq_false c2, eq_false c3, eq_false c30, eq_true c35, eq_false c36, eq_true c39, U_val_Two, lw, le, Nat.zero_le, Nat.sub_zero, take_app3, set_get, take_set, List.length_set, List.map_set, reduceIte, reduceCtorEq, Nat.reduceEqDiff, Nat.reduceAdd, Nat.reduceLeDiff, Nat.reduceSub, Nat.reduceLT, Int.reduceEq, Int.reduceLT, Int.reduceLE, Int.reduceToNat, Int.reduceAdd, Int.reduceSub, Int.reduceMul, Int.reduceNeg, Int.cast_ofNat_Int]
             · replace T := T.2 c39
               obtain ⟨rfl, rfl⟩ := T
               simp only [eq_false c1, eq_false c2, eq_false c3, eq_false c30, eq_true c35, eq_false c36, eq_false c39, U_val_Two, lw, le, Nat.zero_le, Nat.sub_zero, take_app3, set_get, take_set, List.length_set, List.map_set, reduceIte, reduceCtorEq, Nat.reduceEqDiff, Nat.reduceAdd, Nat.reduceLeDiff, Nat.reduceSub, Nat.reduceLT, Int.reduceEq, Int.reduceLT, Int.reduceLE, Int.reduceToNat, Int.reduceAdd, Int.reduceSub, Int.reduceMul, Int.reduceNeg, Int.cast_ofNat_Int]
         · replace T := T.2 c35
           by_cases c40 : kind ≤ 14
           · replace T := T.1 c40
             obtain ⟨rfl, rfl⟩ := T
             simp only [eq_false c1, eq_false c2, eq_false c3, eq_false c30, eq_false c35, eq_true c40, U_val_Two, lw, le, Nat.zero_le, Nat.sub_zero, take_app3, set_get, take_set, List.length_set, List.map_set, reduceIte, reduceCtorEq, Nat.reduceEqDiff, Nat.reduceAdd, Nat.reduceLeDiff, Nat.reduceSub, Nat.reduceLT, Int.reduceEq, Int.reduceLT, Int.reduceLE, Int.reduceToNat, Int.reduceAdd, Int.reduceSub, Int.reduceMul, Int.reduceNeg, Int.cast_ofNat_Int]
           · replace T := T.2 c40
             by_cases c41 : a.k = b.k
             · replace T := T.1 c41
               by_cases c42 : a.k = 1
               · replace T := T.1 c42
                 by_cases c43 : kind ≤ 18
                 · replace T := T.1 c43
                   obtain ⟨r16, q44, r17, q45, rfl, rfl⟩ := T
                   simp only [R_val_compare, le] at q44
                   simp only [R_val_Bool, le] at q45
                   simp only [eq_false c1, eq_false c2, eq_false c3, eq_false c30, eq_false c35, eq_false c40, eq_true c41, eq_true c42, eq_true c43, q44, q45, U_val_Two, lw, le, Nat.zero_le, Nat.sub_zero, take_app3, set_get, take_set, List.length_set, List.map_set, reduceIte, reduceCtorEq, Nat.reduceEqDiff, Nat.reduceAdd, Nat.reduceLeDiff, Nat.reduceSub, Nat.reduceLT, Int.reduceEq, Int.reduceLT, Int.reduceLE, Int.reduceToNat, Int.reduceAdd, Int.reduceSub, Int.reduceMul, Int.reduceNeg, Int.cast_ofNat_Int]
                 · replace T := T.2 c43
                   obtain ⟨r18, r19, q46, T⟩ := T
                   simp only [R_val_reckon, le] at q46
                   by_cases c47 : r19 = 0
                   · replace T := T.1 c47
                     obtain ⟨r20, q48, rfl, rfl⟩ := T
                     simp only [R_val_Int, le] at q48
                     simp only [eq_false c1, eq_false c2, eq_false c3, eq_false c30, eq_false c35, eq_false c40, eq_true c41, eq_true c42, eq_false c43, q46, eq_true c47, q48, U_val_Two, lw, le, Nat.zero_le, Nat.sub_zero, take_app3, set_get, take_set, List.length_set, List.map_set, reduceIte, reduceCtorEq, Nat.reduceEqDiff, Nat.reduceAdd, Nat.reduceLeDiff, Nat.reduceSub, Nat.reduceLT, Int.reduceEq, Int.reduceLT, Int.reduceLE, Int.reduceToNat, Int.reduceAdd, Int.reduceSub, Int.reduceMul, Int.reduceNeg, Int.cast_ofNat_Int]
                   · replace T := T.2 c47
                     obtain ⟨rfl, rfl⟩ := T
                     simp only [eq_false c1, eq_false c2, eq_false c3, eq_false c30, eq_false c35, eq_false c40, eq_true c41, eq_true c42, eq_false c43, q46, eq_false c47, U_val_Two, lw, le, Nat.zero_le, Nat.sub_zero, take_app3, set_get, take_set, List.length_set, List.map_set, reduceIte, reduceCtorEq, Nat.reduceEqDiff, Nat.reduceAdd, Nat.reduceLeDiff, Nat.reduceSub, Nat.reduceLT, Int.reduceEq, Int.reduceLT, Int.reduceLE, Int.reduceToNat, Int.reduceAdd, Int.reduceSub, Int.reduceMul, Int.reduceNeg, Int.cast_ofNat_Int]
               · replace T := T.2 c42
                 obtain ⟨rfl, rfl⟩ := T
                 simp only [eq_false c1, eq_false c2, eq_false c3, eq_false c30, eq_false c35, eq_false c40, eq_true c41, eq_false c42, U_val_Two, lw, le, Nat.zero_le, Nat.sub_zero, take_app3, set_get, take_set, List.length_set, List.map_set, reduceIte, reduceCtorEq, Nat.reduceEqDiff, Nat.reduceAdd, Nat.reduceLeDiff, Nat.reduceSub, Nat.reduceLT, Int.reduceEq, Int.reduceLT, Int.reduceLE, Int.reduceToNat, Int.reduceAdd, Int.reduceSub, Int.reduceMul, Int.reduceNeg, Int.cast_ofNat_Int]
             · replace T := T.2 c41
               obtain ⟨rfl, rfl⟩ := T
               simp only [eq_false c1, eq_false c2, eq_false c3, eq_false c30, eq_false c35, eq_false c40, eq_false c41, U_val_Two, lw, le, Nat.zero_le, Nat.sub_zero, take_app3, set_get, take_set, List.length_set, List.map_set, reduceIte, reduceCtorEq, Nat.reduceEqDiff, Nat.reduceAdd, Nat.reduceLeDiff, Nat.reduceSub, Nat.reduceLT, Int.reduceEq, Int.reduceLT, Int.reduceLE, Int.reduceToNat, Int.reduceAdd, Int.reduceSub, Int.reduceMul, Int.reduceNeg, Int.cast_ofNat_Int]
theorem sp_val_reckon : SP 72 = some (.code sc_val_reckon) := SPof_code rfl Tryd.func72 comp_val_reckon
/-! doorkeeper/val.reckon -/
set_option maxHeartbeats 4000000 in
theorem val_reckon_tree (kind : Int) (a : Int) (b : Int) (ra : Int) (rb : Int) (T :
  ((kind = 19) →
  (((decide (a < (IntKind.i64.wrap (a + b)))) = (decide (0 < b))) →
   (IntKind.i64.wrap (a + b)) = ra ∧ 0 = rb) ∧
  (¬ ((decide (a < (IntKind.i64.wrap (a + b)))) = (decide (0 < b))) →
   0 = ra ∧ 8 = rb)) ∧
 (¬ (kind = 19) →
  ((kind = 20) →
   (((decide ((IntKind.i64.wrap (a - b)) < a)) = (decide (0 < b))) →
    (IntKind.i64.wrap (a - b)) = ra ∧ 0 = rb) ∧
   (¬ ((decide ((IntKind.i64.wrap (a - b)) < a)) = (decide (0 < b))) →
    0 = ra ∧ 8 = rb)) ∧
  (¬ (kind = 20) →
   ((kind = 21) →
    ((a = 0) →
     (IntKind.i64.wrap (a * b)) = ra ∧ 0 = rb) ∧
    (¬ (a = 0) →
     ¬ (a = 0) ∧
     (((IntKind.i64.wrap ((IntKind.i64.wrap (a * b)).tdiv a)) = b) →
      ((a = (-1)) →
       ((b = (-9223372036854775808)) →
        0 = ra ∧ 8 = rb) ∧
       (¬ (b = (-9223372036854775808)) →
        (IntKind.i64.wrap (a * b)) = ra ∧ 0 = rb)) ∧
      (¬ (a = (-1)) →
       (IntKind.i64.wrap (a * b)) = ra ∧ 0 = rb)) ∧
     (¬ ((IntKind.i64.wrap ((IntKind.i64.wrap (a * b)).tdiv a)) = b) →
      0 = ra ∧ 8 = rb))) ∧
   (¬ (kind = 21) →
    ((b = 0) →
     0 = ra ∧ 9 = rb) ∧
    (¬ (b = 0) →
     ((kind = 23) →
      ¬ (b = 0) ∧
      (a.tmod b) = ra ∧ 0 = rb) ∧
     (¬ (kind = 23) →
      ¬ (b = 0) ∧
      ((a = (-9223372036854775808)) →
       ((b = (-1)) →
        0 = ra ∧ 8 = rb) ∧
       (¬ (b = (-1)) →
        (IntKind.i64.wrap (a.tdiv b)) = ra ∧ 0 = rb)) ∧
      (¬ (a = (-9223372036854775808)) →
       (IntKind.i64.wrap (a.tdiv b)) = ra ∧ 0 = rb))))))) : R_val_reckon kind a b ra rb := by
 intro S
 rw [call_code sp_val_reckon _ _ rfl]
 by_cases c1 : kind = 19
 · replace T := T.1 c1
   by_cases c2 : (decide (a < (IntKind.i64.wrap (a + b)))) = (decide (0 < b))
   · replace T := T.1 c2
     obtain ⟨rfl, rfl⟩ := T
     simp only [eq_true c1, c2, U_val_reckon, lw, le, Nat.zero_le, Nat.sub_zero, take_app3, set_get, take_set, List.length_set, List.map_set, reduceIte, reduceCtorEq, Nat.reduceEqDiff, Nat.reduceAdd, Nat.reduceLeDiff, Nat.reduceSub, Nat.reduceLT, Int.reduceEq, Int.reduceLT, Int.reduceLE, Int.reduceToNat, Int.reduceAdd, Int.reduceSub, Int.reduceMul, Int.reduceNeg, Int.cast_ofNat_Int]
   · replace T := T.2 c2
     obtain ⟨rfl, rfl⟩ := T
     simp only [eq_true c1, eq_false c2, U_val_reckon, lw, le, Nat.zero_le, Nat.sub_zero, take_app3, set_get, take_set, List.length_set, List.map_set, reduceIte, reduceCtorEq, Nat.reduceEqDiff, Nat.reduceAdd, Nat.reduceLeDiff, Nat.reduceSub, Nat.reduceLT, Int.reduceEq, Int.reduceLT, Int.reduceLE, Int.reduceToNat, Int.reduceAdd, Int.reduceSub, Int.reduceMul, Int.reduceNeg, Int.cast_ofNat_Int]
 · replace T := T.2 c1
   by_cases c3 : kind = 20
   · replace T := T.1 c3
     by_cases c4 : (decide ((IntKind.i64.wrap (a - b)) < a)) = (decide (0 < b))
     · replace T := T.1 c4
       obtain ⟨rfl, rfl⟩ := T
       simp only [eq_false c1, eq_true c3, c4, U_val_reckon, lw, le, Nat.zero_le, Nat.sub_zero, take_app3, set_get, take_set, List.length_set, List.map_set, reduceIte, reduceCtorEq, Nat.reduceEqDiff, Nat.reduceAdd, Nat.reduceLeDiff, Nat.reduceSub, Nat.reduceLT, Int.reduceEq, Int.reduceLT, Int.reduceLE, Int.reduceToNat, Int.reduceAdd, Int.reduceSub, Int.reduceMul, Int.reduceNeg, Int.cast_ofNat_Int]
     · replace T := T.2 c4
       obtain ⟨rfl, rfl⟩ := T
       simp only [eq_false c1, eq_true c3, eq_false c4, U_val_reckon, lw, le, Nat.zero_le, Nat.sub_zero, take_app3, set_get, take_set, List.length_set, List.map_set, reduceIte, reduceCtorEq, Nat.reduceEqDiff, Nat.reduceAdd, Nat.reduceLeDiff, Nat.reduceSub, Nat.reduceLT, Int.reduceEq, Int.reduceLT, Int.reduceLE, Int.reduceToNat, Int.reduceAdd, Int.reduceSub, Int.reduceMul, Int.reduceNeg, Int.cast_ofNat_Int]
   · replace T := T.2 c3
     by_cases c5 : kind = 21
     · replace T := T.1 c5
       by_cases c6 : a = 0
       · replace T := T.1 c6
         obtain ⟨rfl, rfl⟩ := T
         simp only [eq_false c1, eq_false c3, eq_true c5, eq_true c6, U_val_reckon, lw, le, Nat.zero_le, Nat.sub_zero, take_app3, set_get, take_set, List.length_set, List.map_set, reduceIte, reduceCtorEq, Nat.reduceEqDiff, Nat.reduceAdd, Nat.reduceLeDiff, Nat.reduceSub, Nat.reduceLT, Int.reduceEq, Int.reduceLT, Int.reduceLE, Int.reduceToNat, Int.reduceAdd, Int.reduceSub, Int.reduceMul, Int.reduceNeg, Int.cast_ofNat_Int]
       · replace T := T.2 c6
         obtain ⟨p7, T⟩ := T
         by_cases c8 : (IntKind.i64.wrap ((IntKind.i64.wrap (a * b)).tdiv a)) = b
         · replace T := T.1 c8
           by_cases c9 : a = (-1)
           · replace T := T.1 c9
             by_cases c10 : b = (-9223372036854775808)
             · replace T := T.1 c10
               obtain ⟨rfl, rfl⟩ := T
               simp only [eq_false c1, eq_false c3, eq_true c5, eq_false c6, eq_false p7, eq_true c8, eq_true c9, eq_true c10, U_val_reckon, lw, le, Nat.zero_le, Nat.sub_zero, take_app3, set_get, take_set, List.length_set, List.map_set, reduceIte, reduceCtorEq, Nat.reduceEqDiff, Nat.reduceAdd, Nat.reduceLeDiff, Nat.reduceSub, Nat.reduceLT, Int.reduceEq, Int.reduceLT, Int.reduceLE, Int.reduceToNat, Int.reduceAdd, Int.reduceSub, Int.reduceMul, Int.reduceNeg, Int.cast_ofNat_Int]
             · replace T := T.2 c10
               obtain ⟨rfl, rfl⟩ := T
               simp only [eq_false c1, eq_false c3, eq_true c5, eq_false c6, eq_false p7, eq_true c8, eq_true c9, eq_false c10, U_val_reckon, lw, le, Nat.zero_le, Nat.sub_zero, take_app3, set_get, take_set, List.length_set, List.map_set, reduceIte, reduceCtorEq, Nat.reduceEqDiff, Nat.reduceAdd, Nat.reduceLeDiff, Nat.reduceSub, Nat.reduceLT, Int.reduceEq, Int.reduceLT, Int.reduceLE, Int.reduceToNat, Int.reduceAdd, Int.reduceSub, Int.reduceMul, Int.reduceNeg, Int.cast_ofNat_Int]
           · replace T := T.2 c9
             obtain ⟨rfl, rfl⟩ := T
             simp only [eq_false c1, eq_false c3, eq_true c5, eq_false c6, eq_false p7, eq_true c8, eq_false c9, U_val_reckon, lw, le, Nat.zero_le, Nat.sub_zero, take_app3, set_get, take_set, List.length_set, List.map_set, reduceIte, reduceCtorEq, Nat.reduceEqDiff, Nat.reduceAdd, Nat.reduceLeDiff, Nat.reduceSub, Nat.reduceLT, Int.reduceEq, Int.reduceLT, Int.reduceLE, Int.reduceToNat, Int.reduceAdd, Int.reduceSub, Int.reduceMul, Int.reduceNeg, Int.cast_ofNat_Int]
         · replace T := T.2 c8
           obtain ⟨rfl, rfl⟩ := T
           simp only [eq_false c1, eq_false c3, eq_true c5, eq_false c6, eq_false p7, eq_false c8, U_val_reckon, lw, le, Nat.zero_le, Nat.sub_zero, take_app3, set_get, take_set, List.length_set, List.map_set, reduceIte, reduceCtorEq, Nat.reduceEqDiff, Nat.reduceAdd, Nat.reduceLeDiff, Nat.reduceSub, Nat.reduceLT, Int.reduceEq, Int.reduceLT, Int.reduceLE, Int.reduceToNat, Int.reduceAdd, Int.reduceSub, Int.reduceMul, Int.reduceNeg, Int.cast_ofNat_Int]
     · replace T := T.2 c5
       by_cases c11 : b = 0
       · replace T := T.1 c11
         obtain ⟨rfl, rfl⟩ := T
         simp only [eq_false c1, eq_false c3, eq_false c5, eq_true c11, U_val_reckon, lw, le, Nat.zero_le, Nat.sub_zero, take_app3, set_get, take_set, List.length_set, List.map_set, reduceIte, reduceCtorEq, Nat.reduceEqDiff, Nat.reduceAdd, Nat.reduceLeDiff, Nat.reduceSub, Nat.reduceLT, Int.reduceEq, Int.reduceLT, Int.reduceLE, Int.reduceToNat, Int.reduceAdd, Int.reduceSub, Int.reduceMul, Int.reduceNeg, Int.cast_ofNat_Int]
       · replace T := T.2 c11
         by_cases c12 : kind = 23
         · replace T := T.1 c12
           obtain ⟨p13, rfl, rfl⟩ := T
           simp only [eq_false c1, eq_false c3, eq_false c5, eq_false c11, eq_true c12, eq_false p13, U_val_reckon, lw, le, Nat.zero_le, Nat.sub_zero, take_app3, set_get, take_set, List.length_set, List.map_set, reduceIte, reduceCtorEq, Nat.reduceEqDiff, Nat.reduceAdd, Nat.reduceLeDiff, Nat.reduceSub, Nat.reduceLT, Int.reduceEq, Int.reduceLT, Int.reduceLE, Int.reduceToNat, Int.reduceAdd, Int.reduceSub, Int.reduceMul, Int.reduceNeg, Int.cast_ofNat_Int]
         · replace T := T.2 c12
           obtain ⟨p14, T⟩ := T
           by_cases c15 : a = (-9223372036854775808)
           · replace T := T.1 c15
             by_cases c16 : b = (-1)
             · replace T := T.1 c16
               obtain ⟨rfl, rfl⟩ := T
               simp only [eq_false c1, eq_false c3, eq_false c5, eq_false c11, eq_false c12, eq_false p14, eq_true c15, eq_true c16, U_val_reckon, lw, le, Nat.zero_le, Nat.sub_zero, take_app3, set_get, take_set, List.length_set, List.map_set, reduceIte, reduceCtorEq, Nat.reduceEqDiff, Nat.reduceAdd, Nat.reduceLeDiff, Nat.reduceSub, Nat.reduceLT, Int.reduceEq, Int.reduceLT, Int.reduceLE, Int.reduceToNat, Int.reduceAdd, Int.reduceSub, Int.reduceMul, Int.reduceNeg, Int.cast_ofNat_Int]
             · replace T := T.2 c16
               obtain ⟨rfl, rfl⟩ := T
               simp only [eq_false c1, eq_false c3, eq_false c5, eq_false c11, eq_false c12, eq_false p14, eq_true c15, eq_false c16, U_val_reckon, lw, le, Nat.zero_le, Nat.sub_zero, take_app3, set_get, take_set, List.length_set, List.map_set, reduceIte, reduceCtorEq, Nat.reduceEqDiff, Nat.reduceAdd, Nat.reduceLeDiff, Nat.reduceSub, Nat.reduceLT, Int.reduceEq, Int.reduceLT, Int.reduceLE, Int.reduceToNat, Int.reduceAdd, Int.reduceSub, Int.reduceMul, Int.reduceNeg, Int.cast_ofNat_Int]
           · replace T := T.2 c15
             obtain ⟨rfl, rfl⟩ := T
             simp only [eq_false c1, eq_false c3, eq_false c5, eq_false c11, eq_false c12, eq_false p14, eq_false c15, U_val_reckon, lw, le, Nat.zero_le, Nat.sub_zero, take_app3, set_get, take_set, List.length_set, List.map_set, reduceIte, reduceCtorEq, Nat.reduceEqDiff, Nat.reduceAdd, Nat.reduceLeDiff, Nat.reduceSub, Nat.reduceLT, Int.reduceEq, Int.reduceLT, Int.reduceLE, Int.reduceToNat, Int.reduceAdd, Int.reduceSub, Int.reduceMul, Int.reduceNeg, Int.cast_ofNat_Int]
theorem sp_val_compare : SP 71 = some (.code sc_val_compare) := SPof_code rfl Tryd.func71 comp_val_compare
/-! doorkeeper/val.compare -/
set_option maxHeartbeats 4000000 in
theorem val_compare_tree (kind : Int) (a : Int) (b : Int) (r : Bool) (T :
  ((kind = 15) →
  (decide (a < b)) = r) ∧
 (¬ (kind = 15) →
  ((kind = 16) →
   (decide (a ≤ b)) = r) ∧
  (¬ (kind = 16) →
   ((kind = 17) →
    (decide (b < a)) = r) ∧
   (¬ (kind = 17) →
    (decide (b ≤ a)) = r)))) : R_val_compare kind a b r := by
 intro S
 rw [call_code sp_val_compare _ _ rfl]
 by_cases c1 : kind = 15
 · replace T := T.1 c1
   obtain rfl := T
   simp only [eq_true c1, U_val_compare, lw, le, Nat.zero_le, Nat.sub_zero, take_app3, set_get, take_set, List.length_set, List.map_set, reduceIte, reduceCtorEq, Nat.reduceEqDiff, Nat.reduceAdd, Nat.reduceLeDiff, Nat.reduceSub, Nat.reduceLT, Int.reduceEq, Int.reduceLT, Int.reduceLE, Int.reduceToNat, Int.reduceAdd, Int.reduceSub, Int.reduceMul, Int.reduceNeg, Int.cast_ofNat_Int]
 · replace T := T.2 c1
   by_cases c2 : kind = 16
   · replace T := T.1 c2
     obtain rfl := T
     simp only [eq_false c1, eq_true c2, U_val_compare, lw, le, Nat.zero_le, Nat.sub_zero, take_app3, set_get, take_set, List.length_set, List.map_set, reduceIte, reduceCtorEq, Nat.reduceEqDiff, Nat.reduceAdd, Nat.reduceLeDiff, Nat.reduceSub, Nat.reduceLT, Int.reduceEq, Int.reduceLT, Int.reduceLE, Int.reduceToNat, Int.reduceAdd, Int.reduceSub, Int.reduceMul, Int.reduceNeg, Int.cast_ofNat_Int]
   · replace T := T.2 c2
     by_cases c3 : kind = 17
     · replace T := T.1 c3
       obtain rfl := T
       simp only [eq_false c1, eq_false c2, eq_true c3, U_val_compare, lw, le, Nat.zero_le, Nat.sub_zero, take_app3, set_get, take_set, List.length_set, List.map_set, reduceIte, reduceCtorEq, Nat.reduceEqDiff, Nat.reduceAdd, Nat.reduceLeDiff, Nat.reduceSub, Nat.reduceLT, Int.reduceEq, Int.reduceLT, Int.reduceLE, Int.reduceToNat, Int.reduceAdd, Int.reduceSub, Int.reduceMul, Int.reduceNeg, Int.cast_ofNat_Int]
     · replace T := T.2 c3
       obtain rfl := T
       simp only [eq_false c1, eq_false c2, eq_false c3, U_val_compare, lw, le, Nat.zero_le, Nat.sub_zero, take_app3, set_get, take_set, List.length_set, List.map_set, reduceIte, reduceCtorEq, Nat.reduceEqDiff, Nat.reduceAdd, Nat.reduceLeDiff, Nat.reduceSub, Nat.reduceLT, Int.reduceEq, Int.reduceLT, Int.reduceLE, Int.reduceToNat, Int.reduceAdd, Int.reduceSub, Int.reduceMul, Int.reduceNeg, Int.cast_ofNat_Int]
theorem sp_val_Bool : SP 65 = some (.code sc_val_Bool) := SPof_code rfl Tryd.func65 comp_val_Bool
/-! doorkeeper/val.Bool -/
set_option maxHeartbeats 4000000 in
theorem val_Bool_tree (is_ : Bool) (r : V) (T :
  ((is_ = true) →
  (V.mk 3 1 [] []) = r) ∧
 (¬ (is_ = true) →
  (V.mk 3 0 [] []) = r)) : R_val_Bool is_ r := by
 intro S
 rw [call_code sp_val_Bool _ _ rfl]
 by_cases c1 : is_ = true
 · replace T := T.1 c1
   obtain rfl := T
   simp only [c1, U_val_Bool, lw, le, Nat.zero_le, Nat.sub_zero, take_app3, set_get, take_set, List.length_set, List.map_set, reduceIte, reduceCtorEq, Nat.reduceEqDiff, Nat.reduceAdd, Nat.reduceLeDiff, Nat.reduceSub, Nat.reduceLT, Int.reduceEq, Int.reduceLT, Int.reduceLE, Int.reduceToNat, Int.reduceAdd, Int.reduceSub, Int.reduceMul, Int.reduceNeg, Int.cast_ofNat_Int]
 · replace T := T.2 c1
   replace c1 := Bool.eq_false_iff.2 c1
   obtain rfl := T
   simp only [c1, U_val_Bool, lw, le, Nat.zero_le, Nat.sub_zero, take_app3, set_get, take_set, List.length_set, List.map_set, reduceIte, reduceCtorEq, Nat.reduceEqDiff, Nat.reduceAdd, Nat.reduceLeDiff, Nat.reduceSub, Nat.reduceLT, Int.reduceEq, Int.reduceLT, Int.reduceLE, Int.reduceToNat, Int.reduceAdd, Int.reduceSub, Int.reduceMul, Int.reduceNeg, Int.cast_ofNat_Int]
theorem sp_val_Int : SP 60 = some (.code sc_val_Int) := SPof_code rfl Tryd.func60 comp_val_Int
/-! doorkeeper/val.Int -/
set_option maxHeartbeats 4000000 in
theorem val_Int_tree (n : Int) (r : V) (T :
  (V.mk 1 n [] []) = r) : R_val_Int n r := by
 intro S
 rw [call_code sp_val_Int _ _ rfl]
 obtain rfl := T
 simp only [U_val_Int, lw, le, Nat.zero_le, Nat.sub_zero, take_app3, set_get, take_set, List.length_set, List.map_set, reduceIte, reduceCtorEq, Nat.reduceEqDiff, Nat.reduceAdd, Nat.reduceLeDiff, Nat.reduceSub, Nat.reduceLT, Int.reduceEq, Int.reduceLT, Int.reduceLE, Int.reduceToNat, Int.reduceAdd, Int.reduceSub, Int.reduceMul, Int.reduceNeg, Int.cast_ofNat_Int]
theorem sp_val_Join : SP 63 = some (.code sc_val_Join) := SPof_code rfl Tryd.func63 comp_val_Join
/-! doorkeeper/val.Join -/
def At_val_Join_1 (l_ : List (List UInt8)) (i1 : Int) (i2 : Int) (i3 : Int) (i4 : Int) (s5 : List UInt8) (l6 : List V) (g7 : Nat) (ra : V) (rb : Int) : Prop := ∀ (S : Sto) (e : Nat → PV) (f : Fr), e 0 = .list 1 (l_.map eS) false ∧ e 2 = .ptr 0 2 0 ∧ e 4 = .int .i64 i1 ∧ e 7 = .list 1 (l_.map eS) false ∧ e 8 = .int .i64 ((l_.length : Nat) : Int) ∧ e 9 = .int .i64 i2 ∧ f.box 2 = some [.int .i64 i3, .int .i64 i4, .str s5, .sl 0 (.cell 2 3) 0 l6.length l6.length g7 false] ∧ f.arr (.cell 2 3) = some ⟨4, encL l6, false, g7⟩ → k_val_Join_1 SP (E SP (.loop b_val_Join_1) ⟨e, f :: S⟩) = .ok (.v (.tup [.agg [.int .i64 ra.k, .int .i64 ra.n, .str ra.s, .list 4 (encL ra.l) false], .int .i64 rb])) S
set_option maxHeartbeats 4000000 in
theorem At_val_Join_1_step (l_ : List (List UInt8)) (i1 : Int) (i2 : Int) (i3 : Int) (i4 : Int) (s5 : List UInt8) (l6 : List V) (g7 : Nat) (ra : V) (rb : Int) (T :
  ((i2 < ((l_.length : Nat) : Int)) →
  (0 ≤ i2) ∧
  ∃ (v8 : List UInt8), (l_[i2.toNat]? = some v8) ∧
  (I64 (400 - i1)) ∧
  (((400 - i1) < ((v8.length : Nat) : Int)) →
   (V.mk 0 0 [] []) = ra ∧ 4 = rb) ∧
  (¬ ((400 - i1) < ((v8.length : Nat) : Int)) →
   (I64 (i1 + ((v8.length : Nat) : Int))) ∧
   (I64 (i2 + 1)) ∧
   At_val_Join_1 l_ (i1 + ((v8.length : Nat) : Int)) (i2 + 1) i3 i4 s5 l6 g7 ra rb)) ∧
 (¬ (i2 < ((l_.length : Nat) : Int)) →
  ∃ (r9 : List UInt8), (R_strings_Join l_ [] r9) ∧
  (V.mk 2 0 r9 []) = ra ∧ 0 = rb)) : At_val_Join_1 l_ i1 i2 i3 i4 s5 l6 g7 ra rb := by
 intro S e f h
 unfold k_val_Join_1
 rw [E_loop]
 by_cases c1 : i2 < ((l_.length : Nat) : Int)
 · replace T := T.1 c1
   obtain ⟨p2, v8, q3, p4, T⟩ := T
   by_cases c5 : (400 - i1) < ((v8.length : Nat) : Int)
   · replace T := T.1 c5
     obtain ⟨rfl, rfl⟩ := T
     simp only [h, eq_true c1, p2, q3, p4.wrap, eq_true c5, U_val_Join, lw, le, Nat.zero_le, Nat.sub_zero, take_app3, set_get, take_set, List.length_set, List.map_set, reduceIte, reduceCtorEq, Nat.reduceEqDiff, Nat.reduceAdd, Nat.reduceLeDiff, Nat.reduceSub, Nat.reduceLT, Int.reduceEq, Int.reduceLT, Int.reduceLE, Int.reduceToNat, Int.reduceAdd, Int.reduceSub, Int.reduceMul, Int.reduceNeg, Int.cast_ofNat_Int]
   · replace T := T.2 c5
     obtain ⟨p6, p7, T⟩ := T
     try simp only [h, eq_true c1, p2, q3, p4.wrap, eq_false c5, p6.wrap, p7.wrap, U_val_Join, lw, le, Nat.zero_le, Nat.sub_zero, take_app3, set_get, take_set, List.length_set, List.map_set, reduceIte, reduceCtorEq, Nat.reduceEqDiff, Nat.reduceAdd, Nat.reduceLeDiff, Nat.reduceSub, Nat.reduceLT, Int.reduceEq, Int.reduceLT, Int.reduceLE, Int.reduceToNat, Int.reduceAdd, Int.reduceSub, Int.reduceMul, Int.reduceNeg, Int.cast_ofNat_Int]
     refine T S _ _ ?_
     simp only [h, eq_true c1, p2, q3, p4.wrap, eq_false c5, p6.wrap, p7.wrap, U_val_Join, lw, le, Nat.zero_le, Nat.sub_zero, take_app3, set_get, take_set, List.length_set, List.map_set, reduceIte, reduceCtorEq, Nat.reduceEqDiff, Nat.reduceAdd, Nat.reduceLeDiff, Nat.reduceSub, Nat.reduceLT, Int.reduceEq, Int.reduceLT, Int.reduceLE, Int.reduceToNat, Int.reduceAdd, Int.reduceSub, Int.reduceMul, Int.reduceNeg, Int.cast_ofNat_Int]
 · replace T := T.2 c1
   obtain ⟨r9, q8, rfl, rfl⟩ := T
   simp only [R_strings_Join, le] at q8
   simp only [h, eq_false c1, q8, U_val_Join, lw, le, Nat.zero_le, Nat.sub_zero, take_app3, set_get, take_set, List.length_set, List.map_set, reduceIte, reduceCtorEq, Nat.reduceEqDiff, Nat.reduceAdd, Nat.reduceLeDiff, Nat.reduceSub, Nat.reduceLT, Int.reduceEq, Int.reduceLT, Int.reduceLE, Int.reduceToNat, Int.reduceAdd, Int.reduceSub, Int.reduceMul, Int.reduceNeg, Int.cast_ofNat_Int]
set_option maxHeartbeats 4000000 in
theorem val_Join_tree (l_ : List (List UInt8)) (ra : V) (rb : Int) (T :
  At_val_Join_1 l_ 0 0 0 0 [] [] 0 ra rb) : R_val_Join l_ ra rb := by
 intro S
 rw [call_code sp_val_Join _ _ rfl]
 try simp only [U_val_Join, lw, le, Nat.zero_le, Nat.sub_zero, take_app3, set_get, take_set, List.length_set, List.map_set, reduceIte, reduceCtorEq, Nat.reduceEqDiff, Nat.reduceAdd, Nat.reduceLeDiff, Nat.reduceSub, Nat.reduceLT, Int.reduceEq, Int.reduceLT, Int.reduceLE, Int.reduceToNat, Int.reduceAdd, Int.reduceSub, Int.reduceMul, Int.reduceNeg, Int.cast_ofNat_Int]
 refine T S _ _ ?_
 simp only [U_val_Join, lw, le, Nat.zero_le, Nat.sub_zero, take_app3, set_get, take_set, List.length_set, List.map_set, reduceIte, reduceCtorEq, Nat.reduceEqDiff, Nat.reduceAdd, Nat.reduceLeDiff, Nat.reduceSub, Nat.reduceLT, Int.reduceEq, Int.reduceLT, Int.reduceLE, Int.reduceToNat, Int.reduceAdd, Int.reduceSub, Int.reduceMul, Int.reduceNeg, Int.cast_ofNat_Int]
theorem sp_ref4_bad : SP 25 = some (.code sc_ref4_bad) := SPof_code rfl Tryd.func25 comp_ref4_bad
/-! doorkeeper/doorkeeperref4.bad -/
set_option maxHeartbeats 4000000 in
theorem ref4_bad_tree (e_ : Int) (r : Got) (T :
  (Got.mk (V.mk 0 0 [] []) e_) = r) : R_ref4_bad e_ r := by
 intro S
 rw [call_code sp_ref4_bad _ _ rfl]
 obtain rfl := T
 simp only [U_ref4_bad, lw, le, Nat.zero_le, Nat.sub_zero, take_app3, set_get, take_set, List.length_set, List.map_set, reduceIte, reduceCtorEq, Nat.reduceEqDiff, Nat.reduceAdd, Nat.reduceLeDiff, Nat.reduceSub, Nat.reduceLT, Int.reduceEq, Int.reduceLT, Int.reduceLE, Int.reduceToNat, Int.reduceAdd, Int.reduceSub, Int.reduceMul, Int.reduceNeg, Int.cast_ofNat_Int]
theorem sp_ref4_truth : SP 34 = some (.code sc_ref4_truth) := SPof_code rfl Tryd.func34 comp_ref4_truth
/-! doorkeeper/doorkeeperref4.truth -/
set_option maxHeartbeats 4000000 in
theorem ref4_truth_tree (is_ : Bool) (r : Got) (T :
  ((is_ = true) →
  (Got.mk (V.mk 3 1 [] []) 0) = r) ∧
 (¬ (is_ = true) →
  (Got.mk (V.mk 3 0 [] []) 0) = r)) : R_ref4_truth is_ r := by
 intro S
 rw [call_code sp_ref4_truth _ _ rfl]
 by_cases c1 : is_ = true
 · replace T := T.1 c1
   obtain rfl := T
   simp only [c1, U_ref4_truth, lw, le, Nat.zero_le, Nat.sub_zero, take_app3, set_get, take_set, List.length_set, List.map_set, reduceIte, reduceCtorEq, Nat.reduceEqDiff, Nat.reduceAdd, Nat.reduceLeDiff, Nat.reduceSub, Nat.reduceLT, Int.reduceEq, Int.reduceLT, Int.reduceLE, Int.reduceToNat, Int.reduceAdd, Int.reduceSub, Int.reduceMul, Int.reduceNeg, Int.cast_ofNat_Int]
 · replace T := T.2 c1
   replace c1 := Bool.eq_false_iff.2 c1
   obtain rfl := T
   simp only [c1, U_ref4_truth, lw, le, Nat.zero_le, Nat.sub_zero, take_app3, set_get, take_set, List.length_set, List.map_set, reduceIte, reduceCtorEq, Nat.reduceEqDiff, Nat.reduceAdd, Nat.reduceLeDiff, Nat.reduceSub, Nat.reduceLT, Int.reduceEq, Int.reduceLT, Int.reduceLE, Int.reduceToNat, Int.reduceAdd, Int.reduceSub, Int.reduceMul, Int.reduceNeg, Int.cast_ofNat_Int]
theorem sp_ref4_num : SP 29 = some (.code sc_ref4_num) := SPof_code rfl Tryd.func29 comp_ref4_num
/-! doorkeeper/doorkeeperref4.num -/
set_option maxHeartbeats 4000000 in
theorem ref4_num_tree (n : Int) (r : Got) (T :
  (Got.mk (V.mk 1 n [] []) 0) = r) : R_ref4_num n r := by
 intro S
 rw [call_code sp_ref4_num _ _ rfl]
 obtain rfl := T
 simp only [U_ref4_num, lw, le, Nat.zero_le, Nat.sub_zero, take_app3, set_get, take_set, List.length_set, List.map_set, reduceIte, reduceCtorEq, Nat.reduceEqDiff, Nat.reduceAdd, Nat.reduceLeDiff, Nat.reduceSub, Nat.reduceLT, Int.reduceEq, Int.reduceLT, Int.reduceLE, Int.reduceToNat, Int.reduceAdd, Int.reduceSub, Int.reduceMul, Int.reduceNeg, Int.cast_ofNat_Int]
theorem sp_ref4_reckon : SP 55 = some (.code sc_ref4_reckon) := SPof_code rfl Tryd.func55 comp_ref4_reckon
/-! doorkeeper/doorkeeperref4.reckon -/
set_option maxHeartbeats 4000000 in
theorem ref4_reckon_tree (kind : Int) (a : Int) (b : Int) (r : Got) (T :
  ((kind = 19) →
  (((decide (a ≤ (IntKind.i64.wrap (a + b)))) = (decide (0 ≤ b))) →
   ∃ (r1 : Got), (R_ref4_num (IntKind.i64.wrap (a + b)) r1) ∧
   r1 = r) ∧
  (¬ ((decide (a ≤ (IntKind.i64.wrap (a + b)))) = (decide (0 ≤ b))) →
   ∃ (r2 : Got), (R_ref4_bad 8 r2) ∧
   r2 = r)) ∧
 (¬ (kind = 19) →
  ((kind = 20) →
   (((decide ((IntKind.i64.wrap (a - b)) ≤ a)) = (decide (0 ≤ b))) →
    ∃ (r3 : Got), (R_ref4_num (IntKind.i64.wrap (a - b)) r3) ∧
    r3 = r) ∧
   (¬ ((decide ((IntKind.i64.wrap (a - b)) ≤ a)) = (decide (0 ≤ b))) →
    ∃ (r4 : Got), (R_ref4_bad 8 r4) ∧
    r4 = r)) ∧
  (¬ (kind = 20) →
   ((kind = 21) →
    ((a = 0) →
     ∃ (r5 : Got), (R_ref4_num (IntKind.i64.wrap (a * b)) r5) ∧
     r5 = r) ∧
    (¬ (a = 0) →
     ((b = 0) →
      ∃ (r6 : Got), (R_ref4_num (IntKind.i64.wrap (a * b)) r6) ∧
      r6 = r) ∧
     (¬ (b = 0) →
      ¬ (b = 0) ∧
      (((IntKind.i64.wrap ((IntKind.i64.wrap (a * b)).tdiv b)) = a) →
       ((b = (-1)) →
        ((a = (-9223372036854775808)) →
         ∃ (r7 : Got), (R_ref4_bad 8 r7) ∧
         r7 = r) ∧
        (¬ (a = (-9223372036854775808)) →
         ∃ (r8 : Got), (R_ref4_num (IntKind.i64.wrap (a * b)) r8) ∧
         r8 = r)) ∧
       (¬ (b = (-1)) →
        ∃ (r9 : Got), (R_ref4_num (IntKind.i64.wrap (a * b)) r9) ∧
        r9 = r)) ∧
      (¬ ((IntKind.i64.wrap ((IntKind.i64.wrap (a * b)).tdiv b)) = a) →
       ∃ (r10 : Got), (R_ref4_bad 8 r10) ∧
       r10 = r)))) ∧
   (¬ (kind = 21) →
    ((b = 0) →
     ∃ (r11 : Got), (R_ref4_bad 9 r11) ∧
     r11 = r) ∧
    (¬ (b = 0) →
     ((a = (-9223372036854775808)) →
      ((b = (-1)) →
       ((kind = 23) →
        ∃ (r12 : Got), (R_ref4_num 0 r12) ∧
        r12 = r) ∧
       (¬ (kind = 23) →
        ∃ (r13 : Got), (R_ref4_bad 8 r13) ∧
        r13 = r)) ∧
      (¬ (b = (-1)) →
       ((kind = 23) →
        ¬ (b = 0) ∧
        ∃ (r14 : Got), (R_ref4_num (a.tmod b) r14) ∧
        r14 = r) ∧
       (¬ (kind = 23) →
        ¬ (b = 0) ∧
        ∃ (r15 : Got), (R_ref4_num (IntKind.i64.wrap (a.tdiv b)) r15) ∧
        r15 = r))) ∧
     (¬ (a = (-9223372036854775808)) →
      ((kind = 23) →
       ¬ (b = 0) ∧
       ∃ (r16 : Got), (R_ref4_num (a.tmod b) r16) ∧
       r16 = r) ∧
      (¬ (kind = 23) →
       ¬ (b = 0) ∧
       ∃ (r17 : Got), (R_ref4_num (IntKind.i64.wrap (a.tdiv b)) r17) ∧
       r17 = r))))))) : R_ref4_reckon kind a b r := by
 intro S
 rw [call_code sp_ref4_reckon _ _ rfl]
 by_cases c1 : kind = 19
 · replace T := T.1 c1
   by_cases c2 : (decide (a ≤ (IntKind.i64.wrap (a + b)))) = (decide (0 ≤ b))
   · replace T := T.1 c2
     obtain ⟨r1, q3, rfl⟩ := T
     simp only [R_ref4_num, le] at q3
     simp only [eq_true c1, c2, q3, U_ref4_reckon, lw, le, Nat.zero_le, Nat.sub_zero, take_app3, set_get, take_set, List.length_set, List.map_set, reduceIte, reduceCtorEq, Nat.reduceEqDiff, Nat.reduceAdd, Nat.reduceLeDiff, Nat.reduceSub, Nat.reduceLT, Int.reduceEq, Int.reduceLT, Int.reduceLE, Int.reduceToNat, Int.reduceAdd, Int.reduceSub, Int.reduceMul, Int.reduceNeg, Int.cast_ofNat_Int]
   · replace T := T.2 c2
     obtain ⟨r2, q4, rfl⟩ := T
     simp only [R_ref4_bad, le] at q4
     simp only [eq_true c1, eq_false c2, q4, U_ref4_reckon, lw, le, Nat.zero_le, Nat.sub_zero, take_app3, set_get, take_set, List.length_set, List.map_set, reduceIte, reduceCtorEq, Nat.reduceEqDiff, Nat.reduceAdd, Nat.reduceLeDiff, Nat.reduceSub, Nat.reduceLT, Int.reduceEq, Int.reduceLT, Int.reduceLE, Int.reduceToNat, Int.reduceAdd, Int.reduceSub, Int.reduceMul, Int.reduceNeg, Int.cast_ofNat_Int]
 · replace T := T.2 c1
   by_cases c5 : kind = 20
   · replace T := T.1 c5
     by_cases c6 : (decide ((IntKind.i64.wrap (a - b)) ≤ a)) = (decide (0 ≤ b))
     · replace T := T.1 c6
       obtain ⟨r3, q7, rfl⟩ := T
       simp only [R_ref4_num, le] at q7
       simp only [eq_false c1, eq_true c5, c6, q7, U_ref4_reckon, lw, le, Nat.zero_le, Nat.sub_zero, take_app3, set_get, take_set, List.length_set, List.map_set, reduceIte, reduceCtorEq, Nat.reduceEqDiff, Nat.reduceAdd, Nat.reduceLeDiff, Nat.reduceSub, Nat.reduceLT, Int.reduceEq, Int.reduceLT, Int.reduceLE, Int.reduceToNat, Int.reduceAdd, Int.reduceSub, Int.reduceMul, Int.reduceNeg, Int.cast_ofNat_Int]
     · replace T := T.2 c6
       obtain ⟨r4, q8, rfl⟩ := T
       simp only [R_ref4_bad, le] at q8
       simp only [eq_false c1, eq_true c5, eq_false c6, q8, U_ref4_reckon, lw, le, Nat.zero_le, Nat.sub_zero, take_app3, set_get, take_set, List.length_set, List.map_set, reduceIte, reduceCtorEq, Nat.reduceEqDiff, Nat.reduceAdd, Nat.reduceLeDiff, Nat.reduceSub, Nat.reduceLT, Int.reduceEq, Int.reduceLT, Int.reduceLE, Int.reduceToNat, Int.reduceAdd, Int.reduceSub, Int.reduceMul, Int.reduceNeg, Int.cast_ofNat_Int]
   · replace T := T.2 c5
     by_cases c9 : kind = 21
     · replace T := T.1 c9
       by_cases c10 : a = 0
       · replace T := T.1 c10
         obtain ⟨r5, q11, rfl⟩ := T
         simp only [R_ref4_num, le] at q11
         simp only [eq_false c1, eq_false c5, eq_true c9, eq_true c10, q11, U_ref4_reckon, lw, le, Nat.zero_le, Nat.sub_zero, take_app3, set_get, take_set, List.length_set, List.map_set, reduceIte, reduceCtorEq, Nat.reduceEqDiff, Nat.reduceAdd, Nat.reduceLeDiff, Nat.reduceSub, Nat.reduceLT, Int.reduceEq, Int.reduceLT, Int.reduceLE, Int.reduceToNat, Int.reduceAdd, Int.reduceSub, Int.reduceMul, Int.reduceNeg, Int.cast_ofNat_Int]
       · replace T := T.2 c10
         by_cases c12 : b = 0
         · replace T := T.1 c12
           obtain ⟨r6, q13, rfl⟩ := T
           simp only [R_ref4_num, le] at q13
           simp only [eq_false c1, eq_false c5, eq_true c9, eq_false c10, eq_true c12, q13, U_ref4_reckon, lw, le, Nat.zero_le, Nat.sub_zero, take_app3, set_get, take_set, List.length_set, List.map_set, reduceIte, reduceCtorEq, Nat.reduceEqDiff, Nat.reduceAdd, Nat.reduceLeDiff, Nat.reduceSub, Nat.reduceLT, Int.reduceEq, Int.reduceLT, Int.reduceLE, Int.reduceToNat, Int.reduceAdd, Int.reduceSub, Int.reduceMul, Int.reduceNeg, Int.cast_ofNat_Int]
         · replace T := T.2 c12
           obtain ⟨p14, T⟩ := T
           by_cases c15 : (IntKind.i64.wrap ((IntKind.i64.wrap (a * b)).tdiv b)) = a
           · replace T := T.1 c15
             by_cases c16 : b = (-1)
             · replace T := T.1 c16
               by_cases c17 : a = (-9223372036854775808)
               · replace T := T.1 c17
                 obtain ⟨r7, q18, rfl⟩ := T
                 simp only [R_ref4_bad, le] at q18
                 simp only [eq_false c1, eq_false c5, eq_true c9, eq_false c10, eq_false c12, eq_false p14, eq_true c15, eq_true c16, eq_true c17, q18, U_ref4_reckon, lw, le, Nat.zero_le, Nat.sub_zero, take_app3, set_get, take_set, List.length_set, List.map_set, reduceIte, reduceCtorEq, Nat.reduceEqDiff, Nat.reduceAdd, Nat.reduceLeDiff, Nat.reduceSub, Nat.reduceLT, Int.reduceEq, Int.reduceLT, Int.reduceLE, Int.reduceToNat, Int.reduceAdd, Int.reduceSub, Int.reduceMul, Int.reduceNeg, Int.cast_ofNat_Int]
               · replace T := T.2 c17
                 obtain ⟨r8, q19, rfl⟩ := T
                 simp only [R_ref4_num, le] at q19
                 simp only [eq_false c1, eq_false c5, eq_true c9, eq_false c10, eq_false c12, eq_false p14, eq_true c15, eq_true c16, eq_false c17, q19, U_ref4_reckon, lw, le, Nat.zero_le, Nat.sub_zero, take_app3, set_get, take_set, List.length_set, List.map_set, reduceIte, reduceCtorEq, Nat.reduceEqDiff, Nat.reduceAdd, Nat.reduceLeDiff, Nat.reduceSub, Nat.reduceLT, Int.reduceEq, Int.reduceLT, Int.reduceLE, Int.reduceToNat, Int.reduceAdd, Int.reduceSub, Int.reduceMul, Int.reduceNeg, Int.cast_ofNat_Int]
             · replace T := T.2 c16
               obtain ⟨r9, q20, rfl⟩ := T
               simp only [R_ref4_num, le] at q20
               simp only [eq_false c1, eq_false c5, eq_true c9, eq_false c10, eq_false c12, eq_false p14, eq_true c15, eq_false c16, q20, U_ref4_reckon, lw, le, Nat.zero_le, Nat.sub_zero, take_app3, set_get, take_set, List.length_set, List.map_set, reduceIte, reduceCtorEq, Nat.reduceEqDiff, Nat.reduceAdd, Nat.reduceLeDiff, Nat.reduceSub, Nat.reduceLT, Int.reduceEq, Int.reduceLT, Int.reduceLE, Int.reduceToNat, Int.reduceAdd, Int.reduceSub, Int.reduceMul, Int.reduceNeg, Int.cast_ofNat_Int]
           · replace T := T.2 c15
             obtain ⟨r10, q21, rfl⟩ := T
             simp only [R_ref4_bad, le] at q21
             simp only [eq_false c1, eq_false c5, eq_true c9, eq_false c10, eq_false c12, eq_false p14, eq_false c15, q21, U_ref4_reckon, lw, le, Nat.zero_le, Nat.sub_zero, take_app3, set_get, take_set, List.length_set, List.map_set, reduceIte, reduceCtorEq, Nat.reduceEqDiff, Nat.reduceAdd, Nat.reduceLeDiff, Nat.reduceSub, Nat.reduceLT, Int.reduceEq, Int.reduceLT, Int.reduceLE, Int.reduceToNat, Int.reduceAdd, Int.reduceSub, Int.reduceMul, Int.reduceNeg, Int.cast_ofNat_Int]
     · replace T := T.2 c9
       by_cases c22 : b = 0
       · replace T := T.1 c22
         obtain ⟨r11, q23, rfl⟩ := T
         simp only [R_ref4_bad, le] at q23
         simp only [eq_false c1, eq_false c5, eq_false c9, eq_true c22, q23, U_ref4_reckon, lw, le, Nat.zero_le, Nat.sub_zero, take_app3, set_get, take_set, List.length_set, List.map_set, reduceIte, reduceCtorEq, Nat.reduceEqDiff, Nat.reduceAdd, Nat.reduceLeDiff, Nat.reduceSub, Nat.reduceLT, Int.reduceEq, Int.reduceLT, Int.reduceLE, Int.reduceToNat, Int.reduceAdd, Int.reduceSub, Int.reduceMul, Int.reduceNeg, Int.cast_ofNat_Int]
       · replace T := T.2 c22
         by_cases c24 : a = (-9223372036854775808)
         · replace T := T.1 c24
           by_cases c25 : b = (-1)
           · replace T := T.1 c25
             by_cases c26 : kind = 23
             · replace T := T.1 c26
               obtain ⟨r12, q27, rfl⟩ := T
               simp only [R_ref4_num, le] at q27
               simp only [eq_false c1, eq_false c5, eq_false c9, eq_false c22, eq_true c24, eq_true c25, eq_true c26, q27, U_ref4_reckon, lw, le, Nat.zero_le, Nat.sub_zero, take_app3, set_get, take_set, List.length_set, List.map_set, reduceIte, reduceCtorEq, Nat.reduceEqDiff, Nat.reduceAdd, Nat.reduceLeDiff, Nat.reduceSub, Nat.reduceLT, Int.reduceEq, Int.reduceLT, Int.reduceLE, Int.reduceToNat, Int.reduceAdd, Int.reduceSub, Int.reduceMul, Int.reduceNeg, Int.cast_ofNat_Int]
             · replace T := T.2 c26
               obtain ⟨r13, q28, rfl⟩ := T
               simp only [R_ref4_bad, le] at q28
               simp only [eq_false c1, eq_false c5, eq_false c9, eq_false c22, eq_true c24, eq_true c25, eq_false c26, q28, U_ref4_reckon, lw, le, Nat.zero_le, Nat.sub_zero, take_app3, set_get, take_set, List.length_set, List.map_set, reduceIte, reduceCtorEq, Nat.reduceEqDiff, Nat.reduceAdd, Nat.reduceLeDiff, Nat.reduceSub, Nat.reduceLT, Int.reduceEq, Int.reduceLT, Int.reduceLE, Int.reduceToNat, Int.reduceAdd, Int.reduceSub, Int.reduceMul, Int.reduceNeg, Int.cast_ofNat_Int]
           · replace T := T.2 c25
             by_cases c29 : kind = 23
             · replace T := T.1 c29
               obtain ⟨p30, r14, q31, rfl⟩ := T
               simp only [R_ref4_num, le] at q31
               simp only [eq_false c1, eq_false c5, eq_false c9, eq_false c22, eq_true c24, eq_false c25, eq_true c29, eq_false p30, q31, U_ref4_reckon, lw, le, Nat.zero_le, Nat.sub_zero, take_app3, set_get, take_set, List.length_set, List.map_set, reduceIte, reduceCtorEq, Nat.reduceEqDiff, Nat.reduceAdd, Nat.reduceLeDiff, Nat.reduceSub, Nat.reduceLT, Int.reduceEq, Int.reduceLT, Int.reduceLE, Int.reduceToNat, Int.reduceAdd, Int.reduceSub, Int.reduceMul, Int.reduceNeg, Int.cast_ofNat_Int]
             · replace T := T.2 c29
               obtain ⟨p32, r15, q33, rfl⟩ := T
               simp only [R_ref4_num, le] at q33
               simp only [eq_false c1, eq_false c5, eq_false c9, eq_false c22, eq_true c24, eq_false c25, eq_false c29, eq_false p32, q33, U_ref4_reckon, lw, le, Nat.zero_le, Nat.sub_zero, take_app3, set_get, take_set, List.length_set, List.map_set, reduceIte, reduceCtorEq, Nat.reduceEqDiff, Nat.reduceAdd, Nat.reduceLeDiff, Nat.reduceSub, Nat.reduceLT, Int.reduceEq, Int.reduceLT, Int.reduceLE, Int.reduceToNat, Int.reduceAdd, Int.reduceSub, Int.reduceMul, Int.reduceNeg, Int.cast_ofNat_Int]
         · replace T := T.2 c24
           by_cases c34 : kind = 23
           · replace T := T.1 c34
             obtain ⟨p35, r16, q36, rfl⟩ := T
             simp only [R_ref4_num, le] at q36
             simp only [eq_false c1, eq_false c5, eq_false c9, eq_false c22, eq_false c24, eq_true c34, eq_false p35, q36, U_ref4_reckon, lw, le, Nat.zero_le, Nat.sub_zero, take_app3, set_get, take_set, List.length_set, List.map_set, reduceIte, reduceCtorEq, Nat.reduceEqDiff, Nat.reduceAdd, Nat.reduceLeDiff, Nat.reduceSub, Nat.reduceLT, Int.reduceEq, Int.reduceLT, Int.reduceLE, Int.reduceToNat, Int.reduceAdd, Int.reduceSub, Int.reduceMul, Int.reduceNeg, Int.cast_ofNat_Int]
           · replace T := T.2 c34
             obtain ⟨p37, r17, q38, rfl⟩ := T
             simp only [R_ref4_num, le] at q38
             simp only [eq_false c1, eq_false c5, eq_false c9, eq_false c22, eq_false c24, eq_false c34, eq_false p37, q38, U_ref4_reckon, lw, le, Nat.zero_le, Nat.sub_zero, take_app3, set_get, take_set, List.length_set, List.map_set, reduceIte, reduceCtorEq, Nat.reduceEqDiff, Nat.reduceAdd, Nat.reduceLeDiff, Nat.reduceSub, Nat.reduceLT, Int.reduceEq, Int.reduceLT, Int.reduceLE, Int.reduceToNat, Int.reduceAdd, Int.reduceSub, Int.reduceMul, Int.reduceNeg, Int.cast_ofNat_Int]
theorem sp_ref4_One : SP 33 = some (.code sc_ref4_One) := SPof_code rfl Tryd.func33 comp_ref4_One
/-! doorkeeper/doorkeeperref4.One -/
set_option maxHeartbeats 4000000 in
theorem ref4_One_tree (kind : Int) (v : V) (r : Got) (T :
  ((kind = 8) →
  ((v.k = 3) →
   ∃ (r1 : Got), (R_ref4_truth (decide (v.n = 0)) r1) ∧
   r1 = r) ∧
  (¬ (v.k = 3) →
   ∃ (r2 : Got), (R_ref4_bad 7 r2) ∧
   r2 = r)) ∧
 (¬ (kind = 8) →
  ((kind = 9) →
   ((v.k = 1) →
    ((v.n = (-9223372036854775808)) →
     ∃ (r3 : Got), (R_ref4_bad 8 r3) ∧
     r3 = r) ∧
    (¬ (v.n = (-9223372036854775808)) →
     (I64 (0 - v.n)) ∧
     ∃ (r4 : Got), (R_ref4_num (0 - v.n) r4) ∧
     r4 = r)) ∧
   (¬ (v.k = 1) →
    ∃ (r5 : Got), (R_ref4_bad 7 r5) ∧
    r5 = r)) ∧
  (¬ (kind = 9) →
   ∃ (r6 : Got), (R_ref4_bad 1 r6) ∧
   r6 = r))) : R_ref4_One kind v r := by
 intro S
 rw [call_code sp_ref4_One _ _ rfl]
 by_cases c1 : kind = 8
 · replace T := T.1 c1
   by_cases c2 : v.k = 3
   · replace T := T.1 c2
     obtain ⟨r1, q3, rfl⟩ := T
     simp only [R_ref4_truth, le] at q3
     simp only [eq_true c1, eq_true c2, q3, U_ref4_One, lw, le, Nat.zero_le, Nat.sub_zero, take_app3, set_get, take_set, List.length_set, List.map_set, reduceIte, reduceCtorEq, Nat.reduceEqDiff, Nat.reduceAdd, Nat.reduceLeDiff, Nat.reduceSub, Nat.reduceLT, Int.reduceEq, Int.reduceLT, Int.reduceLE, Int.reduceToNat, Int.reduceAdd, Int.reduceSub, Int.reduceMul, Int.reduceNeg, Int.cast_ofNat_Int]
   · replace T := T.2 c2
     obtain ⟨r2, q5, rfl⟩ := T
     have d4 : ¬ (kind = 9) := fun h => absurd (c1.symm.trans h) (by decide)
     simp only [R_ref4_bad, le] at q5
     simp only [eq_true c1, eq_false c2, eq_false d4, q5, U_ref4_One, lw, le, Nat.zero_le, Nat.sub_zero, take_app3, set_get, take_set, List.length_set, List.map_set, reduceIte, reduceCtorEq, Nat.reduceEqDiff, Nat.reduceAdd, Nat.reduceLeDiff, Nat.reduceSub, Nat.reduceLT, Int.reduceEq, Int.reduceLT, Int.reduceLE, Int.reduceToNat, Int.reduceAdd, Int.reduceSub, Int.reduceMul, Int.reduceNeg, Int.cast_ofNat_Int]
 · replace T := T.2 c1
   by_cases c6 : kind = 9
   · replace T := T.1 c6
     by_cases c7 : v.k = 1
     · replace T := T.1 c7
       by_cases c8 : v.n = (-9223372036854775808)
       · replace T := T.1 c8
         obtain ⟨r3, q9, rfl⟩ := T
         simp only [R_ref4_bad, le] at q9
         simp only [eq_false c1, eq_true c6, eq_true c7, eq_true c8, q9, U_ref4_One, lw, le, Nat.zero_le, Nat.sub_zero, take_app3, set_get, take_set, List.length_set, List.map_set, reduceIte, reduceCtorEq, Nat.reduceEqDiff, Nat.reduceAdd, Nat.reduceLeDiff, Nat.reduceSub, Nat.reduceLT, Int.reduceEq, Int.reduceLT, Int.reduceLE, Int.reduceToNat, Int.reduceAdd, Int.reduceSub, Int.reduceMul, Int.reduceNeg, Int.cast_ofNat_Int]
       · replace T := T.2 c8
         obtain ⟨p10, r4, q11, rfl⟩ := T
         simp only [R_ref4_num, le] at q11
         simp only [eq_false c1, eq_true c6, eq_true c7, eq_false c8, p10.wrap, q11, U_ref4_One, lw, le, Nat.zero_le, Nat.sub_zero, take_app3, set_get, take_set, List.length_set, List.map_set, reduceIte, reduceCtorEq, Nat.reduceEqDiff, Nat.reduceAdd, Nat.reduceLeDiff, Nat.reduceSub, Nat.reduceLT, Int.reduceEq, Int.reduceLT, Int.reduceLE, Int.reduceToNat, Int.reduceAdd, Int.reduceSub, Int.reduceMul, Int.reduceNeg, Int.cast_ofNat_Int]
     · replace T := T.2 c7
       obtain ⟨r5, q12, rfl⟩ := T
       simp only [R_ref4_bad, le] at q12
       simp only [eq_false c1, eq_true c6, eq_false c7, q12, U_ref4_One, lw, le, Nat.zero_le, Nat.sub_zero, take_app3, set_get, take_set, List.length_set, List.map_set, reduceIte, reduceCtorEq, Nat.reduceEqDiff, Nat.reduceAdd, Nat.reduceLeDiff, Nat.reduceSub, Nat.reduceLT, Int.reduceEq, Int.reduceLT, Int.reduceLE, Int.reduceToNat, Int.reduceAdd, Int.reduceSub, Int.reduceMul, Int.reduceNeg, Int.cast_ofNat_Int]
   · replace T := T.2 c6
     obtain ⟨r6, q13, rfl⟩ := T
     simp only [R_ref4_bad, le] at q13
     simp only [eq_false c1, eq_false c6, q13, U_ref4_One, lw, le, Nat.zero_le, Nat.sub_zero, take_app3, set_get, take_set, List.length_set, List.map_set, reduceIte, reduceCtorEq, Nat.reduceEqDiff, Nat.reduceAdd, Nat.reduceLeDiff, Nat.reduceSub, Nat.reduceLT, Int.reduceEq, Int.reduceLT, Int.reduceLE, Int.reduceToNat, Int.reduceAdd, Int.reduceSub, Int.reduceMul, Int.reduceNeg, Int.cast_ofNat_Int]
theorem sp_ref4_SameVal : SP 15 = some (.code sc_ref4_SameVal) := SPof_code rfl Tryd.func15 comp_ref4_SameVal
/-! doorkeeper/doorkeeperref4.SameVal -/
def At_ref4_SameVal_1 (a : V) (b : V) (i1 : Int) (r : Bool) : Prop := ∀ (S : Sto) (e : Nat → PV) (f : Fr), e 2 = .ptr 0 2 0 ∧ e 3 = .ptr 0 3 0 ∧ e 5 = .int .i64 i1 ∧ f.box 2 = some [.int .i64 a.k, .int .i64 a.n, .str a.s, .list 4 (encL a.l) false] ∧ f.box 3 = some [.int .i64 b.k, .int .i64 b.n, .str b.s, .list 4 (encL b.l) false] → k_ref4_SameVal_1 SP (E SP (.loop b_ref4_SameVal_1) ⟨e, f :: S⟩) = .ok (.v (.bool r)) S
set_option maxHeartbeats 4000000 in
theorem At_ref4_SameVal_1_step (a : V) (b : V) (i1 : Int) (r : Bool) (T :
  ((i1 < ((a.l.length : Nat) : Int)) →
  (0 ≤ i1) ∧
  ∃ (v2 : V), (a.l[i1.toNat]? = some v2) ∧
  (0 ≤ i1) ∧
  ∃ (v3 : V), (b.l[i1.toNat]? = some v3) ∧
  ∃ (r4 : Bool), (R_ref4_SameVal v2 v3 r4) ∧
  ((r4 = true) →
   (I64 (i1 + 1)) ∧
   At_ref4_SameVal_1 a b (i1 + 1) r) ∧
  (¬ (r4 = true) →
   false = r)) ∧
 (¬ (i1 < ((a.l.length : Nat) : Int)) →
  true = r)) : At_ref4_SameVal_1 a b i1 r := by
 intro S e f h
 unfold k_ref4_SameVal_1
 rw [E_loop]
 by_cases c1 : i1 < ((a.l.length : Nat) : Int)
 · replace T := T.1 c1
   obtain ⟨p2, v2, q3, p4, v3, q5, r4, q6, T⟩ := T
   simp only [R_ref4_SameVal, le] at q6
   by_cases c7 : r4 = true
   · replace T := T.1 c7
     obtain ⟨p8, T⟩ := T
     try simp only [h, eq_true c1, p2, q3, p4, q5, q6, c7, p8.wrap, U_ref4_SameVal, lw, le, Nat.zero_le, Nat.sub_zero, take_app3, set_get, take_set, List.length_set, List.map_set, reduceIte, reduceCtorEq, Nat.reduceEqDiff, Nat.reduceAdd, Nat.reduceLeDiff, Nat.reduceSub, Nat.reduceLT, Int.reduceEq, Int.reduceLT, Int.reduceLE, Int.reduceToNat, Int.reduceAdd, Int.reduceSub, Int.reduceMul, Int.reduceNeg, Int.cast_ofNat_Int]
     refine T S _ _ ?_
     simp only [h, eq_true c1, p2, q3, p4, q5, q6, c7, p8.wrap, U_ref4_SameVal, lw, le, Nat.zero_le, Nat.sub_zero, take_app3, set_get, take_set, List.length_set, List.map_set, reduceIte, reduceCtorEq, Nat.reduceEqDiff, Nat.reduceAdd, Nat.reduceLeDiff, Nat.reduceSub, Nat.reduceLT, Int.reduceEq, Int.reduceLT, Int.reduceLE, Int.reduceToNat, Int.reduceAdd, Int.reduceSub, Int.reduceMul, Int.reduceNeg, Int.cast_ofNat_Int]
   · replace T := T.2 c7
     replace c7 := Bool.eq_false_iff.2 c7
     obtain rfl := T
     simp only [h, eq_true c1, p2, q3, p4, q5, q6, c7, U_ref4_SameVal, lw, le, Nat.zero_le, Nat.sub_zero, take_app3, set_get, take_set, List.length_set, List.map_set, reduceIte, reduceCtorEq, Nat.reduceEqDiff, Nat.reduceAdd, Nat.reduceLeDiff, Nat.reduceSub, Nat.reduceLT, Int.reduceEq, Int.reduceLT, Int.reduceLE, Int.reduceToNat, Int.reduceAdd, Int.reduceSub, Int.reduceMul, Int.reduceNeg, Int.cast_ofNat_Int]
 · replace T := T.2 c1
   obtain rfl := T
   simp only [h, eq_false c1, U_ref4_SameVal, lw, le, Nat.zero_le, Nat.sub_zero, take_app3, set_get, take_set, List.length_set, List.map_set, reduceIte, reduceCtorEq, Nat.reduceEqDiff, Nat.reduceAdd, Nat.reduceLeDiff, Nat.reduceSub, Nat.reduceLT, Int.reduceEq, Int.reduceLT, Int.reduceLE, Int.reduceToNat, Int.reduceAdd, Int.reduceSub, Int.reduceMul, Int.reduceNeg, Int.cast_ofNat_Int]
set_option maxHeartbeats 4000000 in
theorem ref4_SameVal_tree (a : V) (b : V) (r : Bool) (T :
  ((a.k = b.k) →
  ((a.n = b.n) →
   ((a.s = b.s) →
    ((((a.l.length : Nat) : Int) = ((b.l.length : Nat) : Int)) →
     At_ref4_SameVal_1 a b 0 r) ∧
    (¬ (((a.l.length : Nat) : Int) = ((b.l.length : Nat) : Int)) →
     false = r)) ∧
   (¬ (a.s = b.s) →
    false = r)) ∧
  (¬ (a.n = b.n) →
   false = r)) ∧
 (¬ (a.k = b.k) →
  false = r)) : R_ref4_SameVal a b r := by
 intro S
 rw [call_code sp_ref4_SameVal _ _ rfl]
 by_cases c1 : a.k = b.k
 · replace T := T.1 c1
   by_cases c2 : a.n = b.n
   · replace T := T.1 c2
     by_cases c3 : a.s = b.s
     · replace T := T.1 c3
       by_cases c4 : ((a.l.length : Nat) : Int) = ((b.l.length : Nat) : Int)
       · replace T := T.1 c4
         try simp only [eq_true c1, eq_true c2, eq_true c3, eq_true c4, U_ref4_SameVal, lw, le, Nat.zero_le, Nat.sub_zero, take_app3, set_get, take_set, List.length_set, List.map_set, reduceIte, reduceCtorEq, Nat.reduceEqDiff, Nat.reduceAdd, Nat.reduceLeDiff, Nat.reduceSub, Nat.reduceLT, Int.reduceEq, Int.reduceLT, Int.reduceLE, Int.reduceToNat, Int.reduceAdd, Int.reduceSub, Int.reduceMul, Int.reduceNeg, Int.cast_ofNat_Int]
         refine T S _ _ ?_
         simp only [eq_true c1, eq_true c2, eq_true c3, eq_true c4, U_ref4_SameVal, lw, le, Nat.zero_le, Nat.sub_zero, take_app3, set_get, take_set, List.length_set, List.map_set, reduceIte, reduceCtorEq, Nat.reduceEqDiff, Nat.reduceAdd, Nat.reduceLeDiff, Nat.reduceSub, Nat.reduceLT, Int.reduceEq, Int.reduceLT, Int.reduceLE, Int.reduceToNat, Int.reduceAdd, Int.reduceSub, Int.reduceMul, Int.reduceNeg, Int.cast_ofNat_Int]
       · replace T := T.2 c4
         obtain rfl := T
         simp only [eq_true c1, eq_true c2, eq_true c3, eq_false c4, U_ref4_SameVal, lw, le, Nat.zero_le, Nat.sub_zero, take_app3, set_get, take_set, List.length_set, List.map_set, reduceIte, reduceCtorEq, Nat.reduceEqDiff, Nat.reduceAdd, Nat.reduceLeDiff, Nat.reduceSub, Nat.reduceLT, Int.reduceEq, Int.reduceLT, Int.reduceLE, Int.reduceToNat, Int.reduceAdd, Int.reduceSub, Int.reduceMul, Int.reduceNeg, Int.cast_ofNat_Int]
     · replace T := T.2 c3
       obtain rfl := T
       simp only [eq_true c1, eq_true c2, eq_false c3, U_ref4_SameVal, lw, le, Nat.zero_le, Nat.sub_zero, take_app3, set_get, take_set, List.length_set, List.map_set, reduceIte, reduceCtorEq, Nat.reduceEqDiff, Nat.reduceAdd, Nat.reduceLeDiff, Nat.reduceSub, Nat.reduceLT, Int.reduceEq, Int.reduceLT, Int.reduceLE, Int.reduceToNat, Int.reduceAdd, Int.reduceSub, Int.reduceMul, Int.reduceNeg, Int.cast_ofNat_Int]
   · replace T := T.2 c2
     obtain rfl := T
     simp only [eq_true c1, eq_false c2, U_ref4_SameVal, lw, le, Nat.zero_le, Nat.sub_zero, take_app3, set_get, take_set, List.length_set, List.map_set, reduceIte, reduceCtorEq, Nat.reduceEqDiff, Nat.reduceAdd, Nat.reduceLeDiff, Nat.reduceSub, Nat.reduceLT, Int.reduceEq, Int.reduceLT, Int.reduceLE, Int.reduceToNat, Int.reduceAdd, Int.reduceSub, Int.reduceMul, Int.reduceNeg, Int.cast_ofNat_Int]
 · replace T := T.2 c1
   obtain rfl := T
   simp only [eq_false c1, U_ref4_SameVal, lw, le, Nat.zero_le, Nat.sub_zero, take_app3, set_get, take_set, List.length_set, List.map_set, reduceIte, reduceCtorEq, Nat.reduceEqDiff, Nat.reduceAdd, Nat.reduceLeDiff, Nat.reduceSub, Nat.reduceLT, Int.reduceEq, Int.reduceLT, Int.reduceLE, Int.reduceToNat, Int.reduceAdd, Int.reduceSub, Int.reduceMul, Int.reduceNeg, Int.cast_ofNat_Int]
theorem sp_ref4_Text : SP 35 = some (.code sc_ref4_Text) := SPof_code rfl Tryd.func35 comp_ref4_Text
/-! doorkeeper/doorkeeperref4.Text -/
set_option maxHeartbeats 4000000 in
theorem ref4_Text_tree (v : V) (r : Said) (T :
  ((v.k = 1) →
  ∃ (r1 : List UInt8), (R_ref1_Digits v.n r1) ∧
  (Said.mk r1 0) = r) ∧
 (¬ (v.k = 1) →
  ((v.k = 2) →
   (Said.mk v.s 0) = r) ∧
  (¬ (v.k = 2) →
   ((v.k = 3) →
    ((v.n = 1) →
     (Said.mk [116, 114, 117, 101] 0) = r) ∧
    (¬ (v.n = 1) →
     (Said.mk [102, 97, 108, 115, 101] 0) = r)) ∧
   (¬ (v.k = 3) →
    (Said.mk [] 7) = r)))) : R_ref4_Text v r := by
 intro S
 rw [call_code sp_ref4_Text _ _ rfl]
 by_cases c1 : v.k = 1
 · replace T := T.1 c1
   obtain ⟨r1, q2, rfl⟩ := T
   simp only [R_ref1_Digits, le] at q2
   simp only [eq_true c1, q2, U_ref4_Text, lw, le, Nat.zero_le, Nat.sub_zero, take_app3, set_get, take_set, List.length_set, List.map_set, reduceIte, reduceCtorEq, Nat.reduceEqDiff, Nat.reduceAdd, Nat.reduceLeDiff, Nat.reduceSub, Nat.reduceLT, Int.reduceEq, Int.reduceLT, Int.reduceLE, Int.reduceToNat, Int.reduceAdd, Int.reduceSub, Int.reduceMul, Int.reduceNeg, Int.cast_ofNat_Int]
 · replace T := T.2 c1
   by_cases c3 : v.k = 2
   · replace T := T.1 c3
     obtain rfl := T
     simp only [eq_false c1, eq_true c3, U_ref4_Text, lw, le, Nat.zero_le, Nat.sub_zero, take_app3, set_get, take_set, List.length_set, List.map_set, reduceIte, reduceCtorEq, Nat.reduceEqDiff, Nat.reduceAdd, Nat.reduceLeDiff, Nat.reduceSub, Nat.reduceLT, Int.reduceEq, Int.reduceLT, Int.reduceLE, Int.reduceToNat, Int.reduceAdd, Int.reduceSub, Int.reduceMul, Int.reduceNeg, Int.cast_ofNat_Int]
   · replace T := T.2 c3
     by_cases c4 : v.k = 3
     · replace T := T.1 c4
       by_cases c5 : v.n = 1
       · replace T := T.1 c5
         obtain rfl := T
         simp only [eq_false c1, eq_false c3, eq_true c4, eq_true c5, U_ref4_Text, lw, le, Nat.zero_le, Nat.sub_zero, take_app3, set_get, take_set, List.length_set, List.map_set, reduceIte, reduceCtorEq, Nat.reduceEqDiff, Nat.reduceAdd, Nat.reduceLeDiff, Nat.reduceSub, Nat.reduceLT, Int.reduceEq, Int.reduceLT, Int.reduceLE, Int.reduceToNat, Int.reduceAdd, Int.reduceSub, Int.reduceMul, Int.reduceNeg, Int.cast_ofNat_Int]
       · replace T := T.2 c5
         obtain rfl := T
         simp only [eq_false c1, eq_false c3, eq_true c4, eq_false c5, U_ref4_Text, lw, le, Nat.zero_le, Nat.sub_zero, take_app3, set_get, take_set, List.length_set, List.map_set, reduceIte, reduceCtorEq, Nat.reduceEqDiff, Nat.reduceAdd, Nat.reduceLeDiff, Nat.reduceSub, Nat.reduceLT, Int.reduceEq, Int.reduceLT, Int.reduceLE, Int.reduceToNat, Int.reduceAdd, Int.reduceSub, Int.reduceMul, Int.reduceNeg, Int.cast_ofNat_Int]
     · replace T := T.2 c4
       obtain rfl := T
       simp only [eq_false c1, eq_false c3, eq_false c4, U_ref4_Text, lw, le, Nat.zero_le, Nat.sub_zero, take_app3, set_get, take_set, List.length_set, List.map_set, reduceIte, reduceCtorEq, Nat.reduceEqDiff, Nat.reduceAdd, Nat.reduceLeDiff, Nat.reduceSub, Nat.reduceLT, Int.reduceEq, Int.reduceLT, Int.reduceLE, Int.reduceToNat, Int.reduceAdd, Int.reduceSub, Int.reduceMul, Int.reduceNeg, Int.cast_ofNat_Int]
theorem sp_ref4_deep : SP 21 = some (.code sc_ref4_deep) := SPof_code rfl Tryd.func21 comp_ref4_deep
/-! doorkeeper/doorkeeperref4.deep -/
def At_ref4_deep_1 (v : V) (left : Int) (i1 : Int) (i2 : Int) (r : Int) : Prop := ∀ (S : Sto) (e : Nat → PV) (f : Fr), e 1 = .int .i64 left ∧ e 2 = .ptr 0 2 0 ∧ e 5 = .int .i64 i1 ∧ e 6 = .int .i64 i2 ∧ f.box 2 = some [.int .i64 v.k, .int .i64 v.n, .str v.s, .list 4 (encL v.l) false] → k_ref4_deep_1 SP (E SP (.loop b_ref4_deep_1) ⟨e, f :: S⟩) = .ok (.v (.int .i64 r)) S
set_option maxHeartbeats 4000000 in
theorem At_ref4_deep_1_step (v : V) (left : Int) (i1 : Int) (i2 : Int) (r : Int) (T :
  ((i2 < ((v.l.length : Nat) : Int)) →
  (0 ≤ i2) ∧
  ∃ (v3 : V), (v.l[i2.toNat]? = some v3) ∧
  (I64 (left - 1)) ∧
  ∃ (r4 : Int), (R_ref4_deep v3 (left - 1) r4) ∧
  (I64 (i2 + 1)) ∧
  At_ref4_deep_1 v left (if i1 < r4 then r4 else i1) (i2 + 1) r) ∧
 (¬ (i2 < ((v.l.length : Nat) : Int)) →
  (I64 (i1 + 1)) ∧
  (i1 + 1) = r)) : At_ref4_deep_1 v left i1 i2 r := by
 intro S e f h
 unfold k_ref4_deep_1
 rw [E_loop]
 by_cases c1 : i2 < ((v.l.length : Nat) : Int)
 · replace T := T.1 c1
   obtain ⟨p2, v3, q3, p4, r4, q5, p6, T⟩ := T
   simp only [R_ref4_deep, le] at q5
   try simp only [h, eq_true c1, p2, q3, p4.wrap, q5, p6.wrap, U_ref4_deep, lw, le, Nat.zero_le, Nat.sub_zero, take_app3, set_get, take_set, List.length_set, List.map_set, reduceIte, reduceCtorEq, Nat.reduceEqDiff, Nat.reduceAdd, Nat.reduceLeDiff, Nat.reduceSub, Nat.reduceLT, Int.reduceEq, Int.reduceLT, Int.reduceLE, Int.reduceToNat, Int.reduceAdd, Int.reduceSub, Int.reduceMul, Int.reduceNeg, Int.cast_ofNat_Int]
   refine T S _ _ ?_
   simp only [h, eq_true c1, p2, q3, p4.wrap, q5, p6.wrap, U_ref4_deep, lw, le, Nat.zero_le, Nat.sub_zero, take_app3, set_get, take_set, List.length_set, List.map_set, reduceIte, reduceCtorEq, Nat.reduceEqDiff, Nat.reduceAdd, Nat.reduceLeDiff, Nat.reduceSub, Nat.reduceLT, Int.reduceEq, Int.reduceLT, Int.reduceLE, Int.reduceToNat, Int.reduceAdd, Int.reduceSub, Int.reduceMul, Int.reduceNeg, Int.cast_ofNat_Int]
 · replace T := T.2 c1
   obtain ⟨p7, rfl⟩ := T
   simp only [h, eq_false c1, p7.wrap, U_ref4_deep, lw, le, Nat.zero_le, Nat.sub_zero, take_app3, set_get, take_set, List.length_set, List.map_set, reduceIte, reduceCtorEq, Nat.reduceEqDiff, Nat.reduceAdd, Nat.reduceLeDiff, Nat.reduceSub, Nat.reduceLT, Int.reduceEq, Int.reduceLT, Int.reduceLE, Int.reduceToNat, Int.reduceAdd, Int.reduceSub, Int.reduceMul, Int.reduceNeg, Int.cast_ofNat_Int]
set_option maxHeartbeats 4000000 in
theorem ref4_deep_tree (v : V) (left : Int) (r : Int) (T :
  ((v.k = 4) →
  ((left ≤ 0) →
   1000 = r) ∧
  (¬ (left ≤ 0) →
   At_ref4_deep_1 v left 0 0 r)) ∧
 (¬ (v.k = 4) →
  0 = r)) : R_ref4_deep v left r := by
 intro S
 rw [call_code sp_ref4_deep _ _ rfl]
 by_cases c1 : v.k = 4
 · replace T := T.1 c1
   by_cases c2 : left ≤ 0
   · replace T := T.1 c2
     obtain rfl := T
     simp only [eq_true c1, eq_true c2, U_ref4_deep, lw, le, Nat.zero_le, Nat.sub_zero, take_app3, set_get, take_set, List.length_set, List.map_set, reduceIte, reduceCtorEq, Nat.reduceEqDiff, Nat.reduceAdd, Nat.reduceLeDiff, Nat.reduceSub, Nat.reduceLT, Int.reduceEq, Int.reduceLT, Int.reduceLE, Int.reduceToNat, Int.reduceAdd, Int.reduceSub, Int.reduceMul, Int.reduceNeg, Int.cast_ofNat_Int]
   · replace T := T.2 c2
     try simp only [eq_true c1, eq_false c2, U_ref4_deep, lw, le, Nat.zero_le, Nat.sub_zero, take_app3, set_get, take_set, List.length_set, List.map_set, reduceIte, reduceCtorEq, Nat.reduceEqDiff, Nat.reduceAdd, Nat.reduceLeDiff, Nat.reduceSub, Nat.reduceLT, Int.reduceEq, Int.reduceLT, Int.reduceLE, Int.reduceToNat, Int.reduceAdd, Int.reduceSub, Int.reduceMul, Int.reduceNeg, Int.cast_ofNat_Int]
     refine T S _ _ ?_
     simp only [eq_true c1, eq_false c2, U_ref4_deep, lw, le, Nat.zero_le, Nat.sub_zero, take_app3, set_get, take_set, List.length_set, List.map_set, reduceIte, reduceCtorEq, Nat.reduceEqDiff, Nat.reduceAdd, Nat.reduceLeDiff, Nat.reduceSub, Nat.reduceLT, Int.reduceEq, Int.reduceLT, Int.reduceLE, Int.reduceToNat, Int.reduceAdd, Int.reduceSub, Int.reduceMul, Int.reduceNeg, Int.cast_ofNat_Int]
 · replace T := T.2 c1
   obtain rfl := T
   simp only [eq_false c1, U_ref4_deep, lw, le, Nat.zero_le, Nat.sub_zero, take_app3, set_get, take_set, List.length_set, List.map_set, reduceIte, reduceCtorEq, Nat.reduceEqDiff, Nat.reduceAdd, Nat.reduceLeDiff, Nat.reduceSub, Nat.reduceLT, Int.reduceEq, Int.reduceLT, Int.reduceLE, Int.reduceToNat, Int.reduceAdd, Int.reduceSub, Int.reduceMul, Int.reduceNeg, Int.cast_ofNat_Int]
theorem sp_ref4_fields : SP 22 = some (.code sc_ref4_fields) := SPof_code rfl Tryd.func22 comp_ref4_fields
/-! doorkeeper/doorkeeperref4.fields -/
def At_ref4_fields_1 (v : V) (i1 : Int) (r : Bool) : Prop := ∀ (S : Sto) (e : Nat → PV) (f : Fr), e 1 = .ptr 0 1 0 ∧ e 3 = .int .i64 i1 ∧ f.box 1 = some [.int .i64 v.k, .int .i64 v.n, .str v.s, .list 4 (encL v.l) false] → k_ref4_fields_1 SP (E SP (.loop b_ref4_fields_1) ⟨e, f :: S⟩) = .ok (.v (.bool r)) S
set_option maxHeartbeats 4000000 in
theorem At_ref4_fields_1_step (v : V) (i1 : Int) (r : Bool) (T :
  ((i1 < ((v.l.length : Nat) : Int)) →
  (0 ≤ i1) ∧
  ∃ (v2 : V), (v.l[i1.toNat]? = some v2) ∧
  ∃ (r3 : Bool), (R_ref4_fields v2 r3) ∧
  ((r3 = true) →
   (I64 (i1 + 1)) ∧
   At_ref4_fields_1 v (i1 + 1) r) ∧
  (¬ (r3 = true) →
   false = r)) ∧
 (¬ (i1 < ((v.l.length : Nat) : Int)) →
  ((v.n = 0) →
   ((v.s = []) →
    (decide (((v.l.length : Nat) : Int) ≤ 64)) = r) ∧
   (¬ (v.s = []) →
    false = r)) ∧
  (¬ (v.n = 0) →
   false = r))) : At_ref4_fields_1 v i1 r := by
 intro S e f h
 unfold k_ref4_fields_1
 rw [E_loop]
 by_cases c1 : i1 < ((v.l.length : Nat) : Int)
 · replace T := T.1 c1
   obtain ⟨p2, v2, q3, r3, q4, T⟩ := T
   simp only [R_ref4_fields, le] at q4
   by_cases c5 : r3 = true
   · replace T := T.1 c5
     obtain ⟨p6, T⟩ := T
     try simp only [h, eq_true c1, p2, q3, q4, c5, p6.wrap, U_ref4_fields, lw, le, Nat.zero_le, Nat.sub_zero, take_app3, set_get, take_set, List.length_set, List.map_set, reduceIte, reduceCtorEq, Nat.reduceEqDiff, Nat.reduceAdd, Nat.reduceLeDiff, Nat.reduceSub, Nat.reduceLT, Int.reduceEq, Int.reduceLT, Int.reduceLE, Int.reduceToNat, Int.reduceAdd, Int.reduceSub, Int.reduceMul, Int.reduceNeg, Int.cast_ofNat_Int]
     refine T S _ _ ?_
     simp only [h, eq_true c1, p2, q3, q4, c5, p6.wrap, U_ref4_fields, lw, le, Nat.zero_le, Nat.sub_zero, take_app3, set_get, take_set, List.length_set, List.map_set, reduceIte, reduceCtorEq, Nat.reduceEqDiff, Nat.reduceAdd, Nat.reduceLeDiff, Nat.reduceSub, Nat.reduceLT, Int.reduceEq, Int.reduceLT, Int.reduceLE, Int.reduceToNat, Int.reduceAdd, Int.reduceSub, Int.reduceMul, Int.reduceNeg, Int.cast_ofNat_Int]
   · replace T := T.2 c5
     replace c5 := Bool.eq_false_iff.2 c5
     obtain rfl := T
     simp only [h, eq_true c1, p2, q3, q4, c5, U_ref4_fields, lw, le, Nat.zero_le, Nat.sub_zero, take_app3, set_get, take_set, List.length_set, List.map_set, reduceIte, reduceCtorEq, Nat.reduceEqDiff, Nat.reduceAdd, Nat.reduceLeDiff, Nat.reduceSub, Nat.reduceLT, Int.reduceEq, Int.reduceLT, Int.reduceLE, Int.reduceToNat, Int.reduceAdd, Int.reduceSub, Int.reduceMul, Int.reduceNeg, Int.cast_ofNat_Int]
 · replace T := T.2 c1
   by_cases c7 : v.n = 0
   · replace T := T.1 c7
     by_cases c8 : v.s = []
     · replace T := T.1 c8
       obtain rfl := T
       simp only [h, eq_false c1, eq_true c7, eq_true c8, U_ref4_fields, lw, le, Nat.zero_le, Nat.sub_zero, take_app3, set_get, take_set, List.length_set, List.map_set, reduceIte, reduceCtorEq, Nat.reduceEqDiff, Nat.reduceAdd, Nat.reduceLeDiff, Nat.reduceSub, Nat.reduceLT, Int.reduceEq, Int.reduceLT, Int.reduceLE, Int.reduceToNat, Int.reduceAdd, Int.reduceSub, Int.reduceMul, Int.reduceNeg, Int.cast_ofNat_Int]
     · replace T := T.2 c8
       obtain rfl := T
       simp only [h, eq_false c1, eq_true c7, eq_false c8, U_ref4_fields, lw, le, Nat.zero_le, Nat.sub_zero, take_app3, set_get, take_set, List.length_set, List.map_set, reduceIte, reduceCtorEq, Nat.reduceEqDiff, Nat.reduceAdd, Nat.reduceLeDiff, Nat.reduceSub, Nat.reduceLT, Int.reduceEq, Int.reduceLT, Int.reduceLE, Int.reduceToNat, Int.reduceAdd, Int.reduceSub, Int.reduceMul, Int.reduceNeg, Int.cast_ofNat_Int]
   · replace T := T.2 c7
     obtain rfl := T
     simp only [h, eq_false c1, eq_false c7, U_ref4_fields, lw, le, Nat.zero_le, Nat.sub_zero, take_app3, set_get, take_set, List.length_set, List.map_set, reduceIte, reduceCtorEq, Nat.reduceEqDiff, Nat.reduceAdd, Nat.reduceLeDiff, Nat.reduceSub, Nat.reduceLT, Int.reduceEq, Int.reduceLT, Int.reduceLE, Int.reduceToNat, Int.reduceAdd, Int.reduceSub, Int.reduceMul, Int.reduceNeg, Int.cast_ofNat_Int]
set_option maxHeartbeats 4000000 in
theorem ref4_fields_tree (v : V) (r : Bool) (T :
  ((v.k = 1) →
  ((v.s = []) →
   (decide (((v.l.length : Nat) : Int) = 0)) = r) ∧
  (¬ (v.s = []) →
   false = r)) ∧
 (¬ (v.k = 1) →
  ((v.k = 2) →
   ((v.n = 0) →
    ((((v.l.length : Nat) : Int) = 0) →
     (decide (((v.s.length : Nat) : Int) ≤ 400)) = r) ∧
    (¬ (((v.l.length : Nat) : Int) = 0) →
     false = r)) ∧
   (¬ (v.n = 0) →
    false = r)) ∧
  (¬ (v.k = 2) →
   ((v.k = 3) →
    ((v.s = []) →
     ((((v.l.length : Nat) : Int) = 0) →
      ((v.n = 0) →
       true = r) ∧
      (¬ (v.n = 0) →
       (decide (v.n = 1)) = r)) ∧
     (¬ (((v.l.length : Nat) : Int) = 0) →
      false = r)) ∧
    (¬ (v.s = []) →
     false = r)) ∧
   (¬ (v.k = 3) →
    ((v.k = 4) →
     At_ref4_fields_1 v 0 r) ∧
    (¬ (v.k = 4) →
     false = r))))) : R_ref4_fields v r := by
 intro S
 rw [call_code sp_ref4_fields _ _ rfl]
 by_cases c1 : v.k = 1
 · replace T := T.1 c1
   by_cases c2 : v.s = []
   · replace T := T.1 c2
     obtain rfl := T
     simp only [eq_true c1, eq_true c2, U_ref4_fields, lw, le, Nat.zero_le, Nat.sub_zero, take_app3, set_get, take_set, List.length_set, List.map_set, reduceIte, reduceCtorEq, Nat.reduceEqDiff, Nat.reduceAdd, Nat.reduceLeDiff, Nat.reduceSub, Nat.reduceLT, Int.reduceEq, Int.reduceLT, Int.reduceLE, Int.reduceToNat, Int.reduceAdd, Int.reduceSub, Int.reduceMul, Int.reduceNeg, Int.cast_ofNat_Int]
   · replace T := T.2 c2
     obtain rfl := T
     simp only [eq_true c1, eq_false c2, U_ref4_fields, lw, le, Nat.zero_le, Nat.sub_zero, take_app3, set_get, take_set, List.length_set, List.map_set, reduceIte, reduceCtorEq, Nat.reduceEqDiff, Nat.reduceAdd, Nat.reduceLeDiff, Nat.reduceSub, Nat.reduceLT, Int.reduceEq, Int.reduceLT, Int.reduceLE, Int.reduceToNat, Int.reduceAdd, Int.reduceSub, Int.reduceMul, Int.reduceNeg, Int.cast_ofNat_Int]
 · replace T := T.2 c1
   by_cases c3 : v.k = 2
   · replace T := T.1 c3
     by_cases c4 : v.n = 0
     · replace T := T.1 c4
       by_cases c5 : ((v.l.length : Nat) : Int) = 0
       · replace T := T.1 c5
         obtain rfl := T
         simp only [eq_false c1, eq_true c3, eq_true c4, eq_true c5, U_ref4_fields, lw, le, Nat.zero_le, Nat.sub_zero, take_app3, set_get, take_set, List.length_set, List.map_set, reduceIte, reduceCtorEq, Nat.reduceEqDiff, Nat.reduceAdd, Nat.reduceLeDiff, Nat.reduceSub, Nat.reduceLT, Int.reduceEq, Int.reduceLT, Int.reduceLE, Int.reduceToNat, Int.reduceAdd, Int.reduceSub, Int.reduceMul, Int.reduceNeg, Int.cast_ofNat_Int]
       · replace T := T.2 c5
         obtain rfl := T
         simp only [eq_false c1, eq_true c3, eq_true c4, eq_false c5, U_ref4_fields, lw, le, Nat.zero_le, Nat.sub_zero, take_app3, set_get, take_set, List.length_set, List.map_set, reduceIte, reduceCtorEq, Nat.reduceEqDiff, Nat.reduceAdd, Nat.reduceLeDiff, Nat.reduceSub, Nat.reduceLT, Int.reduceEq, Int.reduceLT, Int.reduceLE, Int.reduceToNat, Int.reduceAdd, Int.reduceSub, Int.reduceMul, Int.reduceNeg, Int.cast_ofNat_Int]
     · replace T := T.2 c4
       obtain rfl := T
       simp only [eq_false c1, eq_true c3, eq_false c4, U_ref4_fields, lw, le, Nat.zero_le, Nat.sub_zero, take_app3, set_get, take_set, List.length_set, List.map_set, reduceIte, reduceCtorEq, Nat.reduceEqDiff, Nat.reduceAdd, Nat.reduceLeDiff, Nat.reduceSub, Nat.reduceLT, Int.reduceEq, Int.reduceLT, Int.reduceLE, Int.reduceToNat, Int.reduceAdd, Int.reduceSub, Int.reduceMul, Int.reduceNeg, Int.cast_ofNat_Int]
   · replace T := T.2 c3
     by_cases c6 : v.k = 3
     · replace T := T.1 c6
       by_cases c7 : v.s = []
       · replace T := T.1 c7
         by_cases c8 : ((v.l.length : Nat) : Int) = 0
         · replace T := T.1 c8
           by_cases c9 : v.n = 0
           · replace T := T.1 c9
             obtain rfl := T
             simp only [eq_false c1, eq_false c3, eq_true c6, eq_true c7, eq_true c8, eq_true c9, U_ref4_fields, lw, le, Nat.zero_le, Nat.sub_zero, take_app3, set_get, take_set, List.length_set, List.map_set, reduceIte, reduceCtorEq, Nat.reduceEqDiff, Nat.reduceAdd, Nat.reduceLeDiff, Nat.reduceSub, Nat.reduceLT, Int.reduceEq, Int.reduceLT, Int.reduceLE, Int.reduceToNat, Int.reduceAdd, Int.reduceSub, Int.reduceMul, Int.reduceNeg, Int.cast_ofNat_Int]
           · replace T := T.2 c9
             obtain rfl := T
             simp only [eq_false c1, eq_false c3, eq_true c6, eq_true c7, eq_true c8, eq_false c9, U_ref4_fields, lw, le, Nat.zero_le, Nat.sub_zero, take_app3, set_get, take_set, List.length_set, List.map_set, reduceIte, reduceCtorEq, Nat.reduceEqDiff, Nat.reduceAdd, Nat.reduceLeDiff, Nat.reduceSub, Nat.reduceLT, Int.reduceEq, Int.reduceLT, Int.reduceLE, Int.reduceToNat, Int.reduceAdd, Int.reduceSub, Int.reduceMul, Int.reduceNeg, Int.cast_ofNat_Int]
         · replace T := T.2 c8
           obtain rfl := T
           simp only [eq_false c1, eq_false c3, eq_true c6, eq_true c7, eq_false c8, U_ref4_fields, lw, le, Nat.zero_le, Nat.sub_zero, take_app3, set_get, take_set, List.length_set, List.map_set, reduceIte, reduceCtorEq, Nat.reduceEqDiff, Nat.reduceAdd, Nat.reduceLeDiff, Nat.reduceSub, Nat.reduceLT, Int.reduceEq, Int.reduceLT, Int.reduceLE, Int.reduceToNat, Int.reduceAdd, Int.reduceSub, Int.reduceMul, Int.reduceNeg, Int.cast_ofNat_Int]
       · replace T := T.2 c7
         obtain rfl := T
         simp only [eq_false c1, eq_false c3, eq_true c6, eq_false c7, U_ref4_fields, lw, le, Nat.zero_le, Nat.sub_zero, take_app3, set_get, take_set, List.length_set, List.map_set, reduceIte, reduceCtorEq, Nat.reduceEqDiff, Nat.reduceAdd, Nat.reduceLeDiff, Nat.reduceSub, Nat.reduceLT, Int.reduceEq, Int.reduceLT, Int.reduceLE, Int.reduceToNat, Int.reduceAdd, Int.reduceSub, Int.reduceMul, Int.reduceNeg, Int.cast_ofNat_Int]
     · replace T := T.2 c6
       by_cases c10 : v.k = 4
       · replace T := T.1 c10
         try simp only [eq_false c1, eq_false c3, eq_false c6, eq_true c10, U_ref4_fields, lw, le, Nat.zero_le, Nat.sub_zero, take_app3, set_get, take_set, List.length_set, List.map_set, reduceIte, reduceCtorEq, Nat.reduceEqDiff, Nat.reduceAdd, Nat.reduceLeDiff, Nat.reduceSub, Nat.reduceLT, Int.reduceEq, Int.reduceLT, Int.reduceLE, Int.reduceToNat, Int.reduceAdd, Int.reduceSub, Int.reduceMul, Int.reduceNeg, Int.cast_ofNat_Int]
         refine T S _ _ ?_
         simp only [eq_false c1, eq_false c3, eq_false c6, eq_true c10, U_ref4_fields, lw, le, Nat.zero_le, Nat.sub_zero, take_app3, set_get, take_set, List.length_set, List.map_set, reduceIte, reduceCtorEq, Nat.reduceEqDiff, Nat.reduceAdd, Nat.reduceLeDiff, Nat.reduceSub, Nat.reduceLT, Int.reduceEq, Int.reduceLT, Int.reduceLE, Int.reduceToNat, Int.reduceAdd, Int.reduceSub, Int.reduceMul, Int.reduceNeg, Int.cast_ofNat_Int]
       · replace T := T.2 c10
         obtain rfl := T
         simp only [eq_false c1, eq_false c3, eq_false c6, eq_false c10, U_ref4_fields, lw, le, Nat.zero_le, Nat.sub_zero, take_app3, set_get, take_set, List.length_set, List.map_set, reduceIte, reduceCtorEq, Nat.reduceEqDiff, Nat.reduceAdd, Nat.reduceLeDiff, Nat.reduceSub, Nat.reduceLT, Int.reduceEq, Int.reduceLT, Int.reduceLE, Int.reduceToNat, Int.reduceAdd, Int.reduceSub, Int.reduceMul, Int.reduceNeg, Int.cast_ofNat_Int]
theorem sp_ref4_MayVal : SP 12 = some (.code sc_ref4_MayVal) := SPof_code rfl Tryd.func12 comp_ref4_MayVal
/-! doorkeeper/doorkeeperref4.MayVal -/
set_option maxHeartbeats 4000000 in
theorem ref4_MayVal_tree (v : V) (r : Bool) (T :
  ∃ (r1 : Int), (R_ref4_deep v 64 r1) ∧
 ((r1 ≤ 64) →
  ∃ (r2 : Bool), (R_ref4_fields v r2) ∧
  r2 = r) ∧
 (¬ (r1 ≤ 64) →
  false = r)) : R_ref4_MayVal v r := by
 intro S
 rw [call_code sp_ref4_MayVal _ _ rfl]
 obtain ⟨r1, q1, T⟩ := T
 simp only [R_ref4_deep, le] at q1
 by_cases c2 : r1 ≤ 64
 · replace T := T.1 c2
   obtain ⟨r2, q3, rfl⟩ := T
   simp only [R_ref4_fields, le] at q3
   simp only [q1, eq_true c2, q3, U_ref4_MayVal, lw, le, Nat.zero_le, Nat.sub_zero, take_app3, set_get, take_set, List.length_set, List.map_set, reduceIte, reduceCtorEq, Nat.reduceEqDiff, Nat.reduceAdd, Nat.reduceLeDiff, Nat.reduceSub, Nat.reduceLT, Int.reduceEq, Int.reduceLT, Int.reduceLE, Int.reduceToNat, Int.reduceAdd, Int.reduceSub, Int.reduceMul, Int.reduceNeg, Int.cast_ofNat_Int]
 · replace T := T.2 c2
   obtain rfl := T
   simp only [q1, eq_false c2, U_ref4_MayVal, lw, le, Nat.zero_le, Nat.sub_zero, take_app3, set_get, take_set, List.length_set, List.map_set, reduceIte, reduceCtorEq, Nat.reduceEqDiff, Nat.reduceAdd, Nat.reduceLeDiff, Nat.reduceSub, Nat.reduceLT, Int.reduceEq, Int.reduceLT, Int.reduceLE, Int.reduceToNat, Int.reduceAdd, Int.reduceSub, Int.reduceMul, Int.reduceNeg, Int.cast_ofNat_Int]
theorem sp_law1_Num : SP 16 = some (.code sc_law1_Num) := SPof_code rfl Tryd.func16 comp_law1_Num
/-! doorkeeper/doorkeeperlaw1.Num -/
set_option maxHeartbeats 4000000 in
theorem law1_Num_tree (e_ : Int) (r : Int) (T :
  e_ = r) : R_law1_Num e_ r := by
 intro S
 rw [call_code sp_law1_Num _ _ rfl]
 obtain rfl := T
 simp only [U_law1_Num, lw, le, Nat.zero_le, Nat.sub_zero, take_app3, set_get, take_set, List.length_set, List.map_set, reduceIte, reduceCtorEq, Nat.reduceEqDiff, Nat.reduceAdd, Nat.reduceLeDiff, Nat.reduceSub, Nat.reduceLT, Int.reduceEq, Int.reduceLT, Int.reduceLE, Int.reduceToNat, Int.reduceAdd, Int.reduceSub, Int.reduceMul, Int.reduceNeg, Int.cast_ofNat_Int]
theorem sp_law4_Great : SP 11 = some (.code sc_law4_Great) := SPof_code rfl Tryd.func11 comp_law4_Great
/-! doorkeeper/doorkeeperlaw4.Great -/
set_option maxHeartbeats 4000000 in
theorem law4_Great_tree (v : V) (deep_ : Int) (r : Bool) (T :
  ∃ (r1 : Int), (R_law4_many v deep_ r1) ∧
 (decide (500 < r1)) = r) : R_law4_Great v deep_ r := by
 intro S
 rw [call_code sp_law4_Great _ _ rfl]
 obtain ⟨r1, q1, rfl⟩ := T
 simp only [R_law4_many, le] at q1
 simp only [q1, U_law4_Great, lw, le, Nat.zero_le, Nat.sub_zero, take_app3, set_get, take_set, List.length_set, List.map_set, reduceIte, reduceCtorEq, Nat.reduceEqDiff, Nat.reduceAdd, Nat.reduceLeDiff, Nat.reduceSub, Nat.reduceLT, Int.reduceEq, Int.reduceLT, Int.reduceLE, Int.reduceToNat, Int.reduceAdd, Int.reduceSub, Int.reduceMul, Int.reduceNeg, Int.cast_ofNat_Int]
theorem sp_law4_many : SP 20 = some (.code sc_law4_many) := SPof_code rfl Tryd.func20 comp_law4_many
/-! doorkeeper/doorkeeperlaw4.many -/
def At_law4_many_1 (v : V) (deep_ : Int) (i1 : Int) (i2 : Int) (r : Int) : Prop := ∀ (S : Sto) (e : Nat → PV) (f : Fr), e 1 = .int .i64 deep_ ∧ e 2 = .ptr 0 2 0 ∧ e 5 = .int .i64 i1 ∧ e 6 = .int .i64 i2 ∧ f.box 2 = some [.int .i64 v.k, .int .i64 v.n, .str v.s, .list 4 (encL v.l) false] → k_law4_many_1 SP (E SP (.loop b_law4_many_1) ⟨e, f :: S⟩) = .ok (.v (.int .i64 r)) S
set_option maxHeartbeats 4000000 in
theorem At_law4_many_1_step (v : V) (deep_ : Int) (i1 : Int) (i2 : Int) (r : Int) (T :
  ((i2 < ((v.l.length : Nat) : Int)) →
  ((i1 < 1000) →
   (0 ≤ i2) ∧
   ∃ (v3 : V), (v.l[i2.toNat]? = some v3) ∧
   (I64 (deep_ + 1)) ∧
   ∃ (r4 : Int), (R_law4_many v3 (deep_ + 1) r4) ∧
   (I64 (i1 + r4)) ∧
   (I64 (i2 + 1)) ∧
   At_law4_many_1 v deep_ (i1 + r4) (i2 + 1) r) ∧
  (¬ (i1 < 1000) →
   i1 = r)) ∧
 (¬ (i2 < ((v.l.length : Nat) : Int)) →
  i1 = r)) : At_law4_many_1 v deep_ i1 i2 r := by
 intro S e f h
 unfold k_law4_many_1
 rw [E_loop]
 by_cases c1 : i2 < ((v.l.length : Nat) : Int)
 · replace T := T.1 c1
   by_cases c2 : i1 < 1000
   · replace T := T.1 c2
     obtain ⟨p3, v3, q4, p5, r4, q6, p7, p8, T⟩ := T
     simp only [R_law4_many, le] at q6
     try simp only [h, eq_true c1, eq_true c2, p3, q4, p5.wrap, q6, p7.wrap, p8.wrap, U_law4_many, lw, le, Nat.zero_le, Nat.sub_zero, take_app3, set_get, take_set, List.length_set, List.map_set, reduceIte, reduceCtorEq, Nat.reduceEqDiff, Nat.reduceAdd, Nat.reduceLeDiff, Nat.reduceSub, Nat.reduceLT, Int.reduceEq, Int.reduceLT, Int.reduceLE, Int.reduceToNat, Int.reduceAdd, Int.reduceSub, Int.reduceMul, Int.reduceNeg, Int.cast_ofNat_Int]
     refine T S _ _ ?_
     simp only [h, eq_true c1, eq_true c2, p3, q4, p5.wrap, q6, p7.wrap, p8.wrap, U_law4_many, lw, le, Nat.zero_le, Nat.sub_zero, take_app3, set_get, take_set, List.length_set, List.map_set, reduceIte, reduceCtorEq, Nat.reduceEqDiff, Nat.reduceAdd, Nat.reduceLeDiff, Nat.reduceSub, Nat.reduceLT, Int.reduceEq, Int.reduceLT, Int.reduceLE, Int.reduceToNat, Int.reduceAdd, Int.reduceSub, Int.reduceMul, Int.reduceNeg, Int.cast_ofNat_Int]
   · replace T := T.2 c2
     obtain rfl := T
     simp only [h, eq_true c1, eq_false c2, U_law4_many, lw, le, Nat.zero_le, Nat.sub_zero, take_app3, set_get, take_set, List.length_set, List.map_set, reduceIte, reduceCtorEq, Nat.reduceEqDiff, Nat.reduceAdd, Nat.reduceLeDiff, Nat.reduceSub, Nat.reduceLT, Int.reduceEq, Int.reduceLT, Int.reduceLE, Int.reduceToNat, Int.reduceAdd, Int.reduceSub, Int.reduceMul, Int.reduceNeg, Int.cast_ofNat_Int]
 · replace T := T.2 c1
   obtain rfl := T
   simp only [h, eq_false c1, U_law4_many, lw, le, Nat.zero_le, Nat.sub_zero, take_app3, set_get, take_set, List.length_set, List.map_set, reduceIte, reduceCtorEq, Nat.reduceEqDiff, Nat.reduceAdd, Nat.reduceLeDiff, Nat.reduceSub, Nat.reduceLT, Int.reduceEq, Int.reduceLT, Int.reduceLE, Int.reduceToNat, Int.reduceAdd, Int.reduceSub, Int.reduceMul, Int.reduceNeg, Int.cast_ofNat_Int]
set_option maxHeartbeats 4000000 in
theorem law4_many_tree (v : V) (deep_ : Int) (r : Int) (T :
  ((80 < deep_) →
  1000 = r) ∧
 (¬ (80 < deep_) →
  ((100 < ((v.l.length : Nat) : Int)) →
   1000 = r) ∧
  (¬ (100 < ((v.l.length : Nat) : Int)) →
   ((600 < ((v.s.length : Nat) : Int)) →
    1000 = r) ∧
   (¬ (600 < ((v.s.length : Nat) : Int)) →
    At_law4_many_1 v deep_ 1 0 r)))) : R_law4_many v deep_ r := by
 intro S
 rw [call_code sp_law4_many _ _ rfl]
 by_cases c1 : 80 < deep_
 · replace T := T.1 c1
   obtain rfl := T
   simp only [eq_true c1, U_law4_many, lw, le, Nat.zero_le, Nat.sub_zero, take_app3, set_get, take_set, List.length_set, List.map_set, reduceIte, reduceCtorEq, Nat.reduceEqDiff, Nat.reduceAdd, Nat.reduceLeDiff, Nat.reduceSub, Nat.reduceLT, Int.reduceEq, Int.reduceLT, Int.reduceLE, Int.reduceToNat, Int.reduceAdd, Int.reduceSub, Int.reduceMul, Int.reduceNeg, Int.cast_ofNat_Int]
 · replace T := T.2 c1
   by_cases c2 : 100 < ((v.l.length : Nat) : Int)
   · replace T := T.1 c2
     obtain rfl := T
     simp only [eq_false c1, eq_true c2, U_law4_many, lw, le, Nat.zero_le, Nat.sub_zero, take_app3, set_get, take_set, List.length_set, List.map_set, reduceIte, reduceCtorEq, Nat.reduceEqDiff, Nat.reduceAdd, Nat.reduceLeDiff, Nat.reduceSub, Nat.reduceLT, Int.reduceEq, Int.reduceLT, Int.reduceLE, Int.reduceToNat, Int.reduceAdd, Int.reduceSub, Int.reduceMul, Int.reduceNeg, Int.cast_ofNat_Int]
   · replace T := T.2 c2
     by_cases c3 : 600 < ((v.s.length : Nat) : Int)
     · replace T := T.1 c3
       obtain rfl := T
       simp only [eq_false c1, eq_false c2, eq_true c3, U_law4_many, lw, le, Nat.zero_le, Nat.sub_zero, take_app3, set_get, take_set, List.length_set, List.map_set, reduceIte, reduceCtorEq, Nat.reduceEqDiff, Nat.reduceAdd, Nat.reduceLeDiff, Nat.reduceSub, Nat.reduceLT, Int.reduceEq, Int.reduceLT, Int.reduceLE, Int.reduceToNat, Int.reduceAdd, Int.reduceSub, Int.reduceMul, Int.reduceNeg, Int.cast_ofNat_Int]
     · replace T := T.2 c3
       try simp only [eq_false c1, eq_false c2, eq_false c3, U_law4_many, lw, le, Nat.zero_le, Nat.sub_zero, take_app3, set_get, take_set, List.length_set, List.map_set, reduceIte, reduceCtorEq, Nat.reduceEqDiff, Nat.reduceAdd, Nat.reduceLeDiff, Nat.reduceSub, Nat.reduceLT, Int.reduceEq, Int.reduceLT, Int.reduceLE, Int.reduceToNat, Int.reduceAdd, Int.reduceSub, Int.reduceMul, Int.reduceNeg, Int.cast_ofNat_Int]
       refine T S _ _ ?_
       simp only [eq_false c1, eq_false c2, eq_false c3, U_law4_many, lw, le, Nat.zero_le, Nat.sub_zero, take_app3, set_get, take_set, List.length_set, List.map_set, reduceIte, reduceCtorEq, Nat.reduceEqDiff, Nat.reduceAdd, Nat.reduceLeDiff, Nat.reduceSub, Nat.reduceLT, Int.reduceEq, Int.reduceLT, Int.reduceLE, Int.reduceToNat, Int.reduceAdd, Int.reduceSub, Int.reduceMul, Int.reduceNeg, Int.cast_ofNat_Int]
theorem sp_ref1_Digits : SP 37 = some (.code sc_ref1_Digits) := SPof_code rfl Tryd.func37 comp_ref1_Digits
/-! doorkeeper/doorkeeperref1.Digits -/
def At_ref1_Digits_1 (n : Int) (i1 : Int) (s2 : List UInt8) (r : List UInt8) : Prop := ∀ (S : Sto) (e : Nat → PV) (f : Fr), e 0 = .int .i64 n ∧ e 3 = .int .u64 i1 ∧ e 4 = .str s2 → k_ref1_Digits_1 SP (E SP (.loop b_ref1_Digits_1) ⟨e, f :: S⟩) = .ok (.v (.str r)) S
set_option maxHeartbeats 4000000 in
theorem At_ref1_Digits_1_step (n : Int) (i1 : Int) (s2 : List UInt8) (r : List UInt8) (T :
  ((10 ≤ i1) →
  (U64 (48 + (i1.tmod 10))) ∧
  (U8 ((48 + (i1.tmod 10)))) ∧
  (1 + s2.length ≤ maxInt) ∧
  (U64 (i1.tdiv 10)) ∧
  At_ref1_Digits_1 n (i1.tdiv 10) ([(UInt8.ofNat ((48 + (i1.tmod 10))).toNat)] ++ s2) r) ∧
 (¬ (10 ≤ i1) →
  (U64 (48 + i1)) ∧
  (U8 ((48 + i1))) ∧
  (1 + s2.length ≤ maxInt) ∧
  ((n < 0) →
   (1 + (s2.length + 1) ≤ maxInt) ∧
   ([45] ++ ([(UInt8.ofNat ((48 + i1)).toNat)] ++ s2)) = r) ∧
  (¬ (n < 0) →
   ([(UInt8.ofNat ((48 + i1)).toNat)] ++ s2) = r))) : At_ref1_Digits_1 n i1 s2 r := by
 intro S e f h
 unfold k_ref1_Digits_1
 rw [E_loop]
 by_cases c1 : 10 ≤ i1
 · replace T := T.1 c1
   obtain ⟨p2, p3, p4, p5, T⟩ := T
   try simp only [h, eq_true c1, p2.wrap, p3.wrap, p4, p5.wrap, U_ref1_Digits, lw, le, Nat.zero_le, Nat.sub_zero, take_app3, set_get, take_set, List.length_set, List.map_set, reduceIte, reduceCtorEq, Nat.reduceEqDiff, Nat.reduceAdd, Nat.reduceLeDiff, Nat.reduceSub, Nat.reduceLT, Int.reduceEq, Int.reduceLT, Int.reduceLE, Int.reduceToNat, Int.reduceAdd, Int.reduceSub, Int.reduceMul, Int.reduceNeg, Int.cast_ofNat_Int]
   refine T S _ _ ?_
   simp only [h, eq_true c1, p2.wrap, p3.wrap, p4, p5.wrap, U_ref1_Digits, lw, le, Nat.zero_le, Nat.sub_zero, take_app3, set_get, take_set, List.length_set, List.map_set, reduceIte, reduceCtorEq, Nat.reduceEqDiff, Nat.reduceAdd, Nat.reduceLeDiff, Nat.reduceSub, Nat.reduceLT, Int.reduceEq, Int.reduceLT, Int.reduceLE, Int.reduceToNat, Int.reduceAdd, Int.reduceSub, Int.reduceMul, Int.reduceNeg, Int.cast_ofNat_Int]
 · replace T := T.2 c1
   obtain ⟨p6, p7, p8, T⟩ := T
   by_cases c9 : n < 0
   · replace T := T.1 c9
     obtain ⟨p10, rfl⟩ := T
     simp only [h, eq_false c1, p6.wrap, p7.wrap, p8, eq_true c9, p10, U_ref1_Digits, lw, le, Nat.zero_le, Nat.sub_zero, take_app3, set_get, take_set, List.length_set, List.map_set, reduceIte, reduceCtorEq, Nat.reduceEqDiff, Nat.reduceAdd, Nat.reduceLeDiff, Nat.reduceSub, Nat.reduceLT, Int.reduceEq, Int.reduceLT, Int.reduceLE, Int.reduceToNat, Int.reduceAdd, Int.reduceSub, Int.reduceMul, Int.reduceNeg, Int.cast_ofNat_Int]
   · replace T := T.2 c9
     obtain rfl := T
     simp only [h, eq_false c1, p6.wrap, p7.wrap, p8, eq_false c9, U_ref1_Digits, lw, le, Nat.zero_le, Nat.sub_zero, take_app3, set_get, take_set, List.length_set, List.map_set, reduceIte, reduceCtorEq, Nat.reduceEqDiff, Nat.reduceAdd, Nat.reduceLeDiff, Nat.reduceSub, Nat.reduceLT, Int.reduceEq, Int.reduceLT, Int.reduceLE, Int.reduceToNat, Int.reduceAdd, Int.reduceSub, Int.reduceMul, Int.reduceNeg, Int.cast_ofNat_Int]
set_option maxHeartbeats 4000000 in
theorem ref1_Digits_tree (n : Int) (r : List UInt8) (T :
  ((n < 0) →
  At_ref1_Digits_1 n (IntKind.u64.wrap (0 - (IntKind.u64.wrap n))) [] r) ∧
 (¬ (n < 0) →
  At_ref1_Digits_1 n (IntKind.u64.wrap n) [] r)) : R_ref1_Digits n r := by
 intro S
 rw [call_code sp_ref1_Digits _ _ rfl]
 by_cases c1 : n < 0
 · replace T := T.1 c1
   try simp only [eq_true c1, U_ref1_Digits, lw, le, Nat.zero_le, Nat.sub_zero, take_app3, set_get, take_set, List.length_set, List.map_set, reduceIte, reduceCtorEq, Nat.reduceEqDiff, Nat.reduceAdd, Nat.reduceLeDiff, Nat.reduceSub, Nat.reduceLT, Int.reduceEq, Int.reduceLT, Int.reduceLE, Int.reduceToNat, Int.reduceAdd, Int.reduceSub, Int.reduceMul, Int.reduceNeg, Int.cast_ofNat_Int]
   refine T S _ _ ?_
   simp only [eq_true c1, U_ref1_Digits, lw, le, Nat.zero_le, Nat.sub_zero, take_app3, set_get, take_set, List.length_set, List.map_set, reduceIte, reduceCtorEq, Nat.reduceEqDiff, Nat.reduceAdd, Nat.reduceLeDiff, Nat.reduceSub, Nat.reduceLT, Int.reduceEq, Int.reduceLT, Int.reduceLE, Int.reduceToNat, Int.reduceAdd, Int.reduceSub, Int.reduceMul, Int.reduceNeg, Int.cast_ofNat_Int]
 · replace T := T.2 c1
   try simp only [eq_false c1, U_ref1_Digits, lw, le, Nat.zero_le, Nat.sub_zero, take_app3, set_get, take_set, List.length_set, List.map_set, reduceIte, reduceCtorEq, Nat.reduceEqDiff, Nat.reduceAdd, Nat.reduceLeDiff, Nat.reduceSub, Nat.reduceLT, Int.reduceEq, Int.reduceLT, Int.reduceLE, Int.reduceToNat, Int.reduceAdd, Int.reduceSub, Int.reduceMul, Int.reduceNeg, Int.cast_ofNat_Int]
   refine T S _ _ ?_
   simp only [eq_false c1, U_ref1_Digits, lw, le, Nat.zero_le, Nat.sub_zero, take_app3, set_get, take_set, List.length_set, List.map_set, reduceIte, reduceCtorEq, Nat.reduceEqDiff, Nat.reduceAdd, Nat.reduceLeDiff, Nat.reduceSub, Nat.reduceLT, Int.reduceEq, Int.reduceLT, Int.reduceLE, Int.reduceToNat, Int.reduceAdd, Int.reduceSub, Int.reduceMul, Int.reduceNeg, Int.cast_ofNat_Int]
end Go.Proofs.YtkbdinocadoelaaDoor.M

/- What the functions on values yield: the program's, and the document's. -/
namespace Go.Proofs.YtkbdinocadoelaaDoor.M
set_option linter.unusedSimpArgs false
set_option linter.unusedVariables false
open Go Classical
/-- A value's number is one of 64 bits. -/
def okV (v : V) : Prop := -9223372036854775808 ≤ v.n ∧ v.n ≤ 9223372036854775807
/-- A truth is 0 or 1. -/
def okT (v : V) : Prop := v.k = 3 → v.n = 0 ∨ v.n = 1
theorem r_Num (n : Int) : R_law1_Num n n := law1_Num_tree n n rfl
theorem r_Int (n : Int) : R_val_Int n (numV n) := val_Int_tree n _ rfl
theorem truthV_b (b : Bool) : truthV (b = true) = .mk 3 (if b then 1 else 0) [] [] := by cases b <;> rfl
theorem r_Bool (b : Bool) : R_val_Bool b (truthV (b = true)) := val_Bool_tree b _ ⟨fun h => by simp [truthV, h], fun h => by simp [truthV, h]⟩
theorem r_bad (n : Int) : R_ref4_bad n ⟨zeroV, n⟩ := ref4_bad_tree n _ rfl
theorem r_rnum (n : Int) : R_ref4_num n ⟨numV n, 0⟩ := ref4_num_tree n _ rfl
theorem r_truth (b : Bool) : R_ref4_truth b ⟨truthV (b = true), 0⟩ := ref4_truth_tree b _ ⟨fun h => by simp [truthV, h], fun h => by simp [truthV, h]⟩
theorem r_compare (k a b : Int) : R_val_compare k a b (decide (cmpS k a b)) := by
  apply val_compare_tree
  unfold cmpS
  refine ⟨fun h => by simp [h], fun h => ⟨fun h2 => by simp [h2], fun h2 => ⟨fun h3 => by simp [h3], fun h3 => by simp [h, h2, h3]⟩⟩⟩
theorem r_reckon (k a b : Int) : R_val_reckon k a b (reckonS k a b).1 (reckonS k a b).2 := by
  apply val_reckon_tree
  unfold reckonS
  repeat' first
    | (intro _)
    | (apply And.intro)
  all_goals first
    | assumption
    | (simp [*]; done)
    | (rw [if_neg (by assumption), if_neg (by assumption), if_pos (by assumption), if_pos (Or.inr ⟨by assumption, fun h => absurd h.2 (by assumption)⟩)])
    | (simp_all; done)
    | trace_state
theorem r_rreckon (k a b : Int) (ha : I64 a) (hb : I64 b) : R_ref4_reckon k a b (if (reckonS k a b).2 = 0 then ⟨numV (reckonS k a b).1, 0⟩ else ⟨zeroV, (reckonS k a b).2⟩) := by
  apply ref4_reckon_tree
  rw [← reckon_same ha.1 ha.2 hb.1 hb.2]
  unfold rreckonS
  have en : ∀ n, R_ref4_num n ⟨numV n, 0⟩ := r_rnum
  have e8 := r_bad 8
  have e9 := r_bad 9
  repeat' first
    | (refine ⟨_, en _, ?_⟩)
    | (refine ⟨_, e8, ?_⟩)
    | (refine ⟨_, e9, ?_⟩)
    | (intro _)
    | (apply And.intro)
  all_goals first
    | assumption
    | (simp [*]; done)
    | (rw [if_neg (by assumption), if_neg (by assumption), if_pos (by assumption), if_pos (Or.inr (Or.inr ⟨by assumption, fun h => absurd h.2 (by assumption)⟩))]; simp; done)
    | (simp_all; done)
    | trace_state
theorem r_deep_loop (vs : List V) (hb : deepL vs < 9223372036854775808) (hs : vs.length < 9223372036854775808) (hr : ∀ v ∈ vs, v.k = 4 → R_val_deep v.l (deepL v.l)) : ∀ (k i : Nat), i + k = vs.length → ∀ m : Nat, m < 9223372036854775808 → At_val_deep_1 vs m i ((max m (deepL (vs.drop i)) : Nat) : Int) := by
  intro k
  induction k with
  | zero =>
    intro i hi m hm
    apply At_val_deep_1_step
    refine ⟨fun h => by omega, fun h => ?_⟩
    rw [List.drop_eq_nil_of_le (by omega)]
    simp [deepL]
  | succ k ih =>
    intro i hi m hm
    apply At_val_deep_1_step
    have hlt : i < vs.length := by omega
    have hg : vs[i]? = some vs[i] := List.getElem?_eq_getElem hlt
    have hdd := deepL_drop hg
    have hdg := deep_get hg
    rw [deep_eq] at hdd hdg
    refine ⟨fun h => ⟨by omega, vs[i], by simp, fun h4 => ?_, fun h4 => ?_⟩, fun h => by omega⟩
    · rw [if_pos h4] at hdd hdg
      refine ⟨_, hr _ (List.getElem_mem hlt) h4, ⟨by omega, by omega⟩, ⟨by omega, by omega⟩, ?_⟩
      have := ih (i + 1) (by omega) (max m (1 + deepL vs[i].l)) (by omega)
      have e : (if (m : Int) < 1 + ((deepL vs[i].l : Nat) : Int) then 1 + ((deepL vs[i].l : Nat) : Int) else (m : Int)) = ((max m (1 + deepL vs[i].l) : Nat) : Int) := by split <;> omega
      rw [e, hdd, ← Nat.max_assoc]
      exact this
    · rw [if_neg h4] at hdd
      refine ⟨⟨by omega, by omega⟩, ?_⟩
      rw [hdd, Nat.zero_max]
      exact ih (i + 1) (by omega) m hm
theorem r_deep (vs : List V) (hb : deepL vs < 9223372036854775808) (hs : smallL vs) : R_val_deep vs (deepL vs) := by
  apply val_deep_tree
  have := r_deep_loop vs hb hs.1 (fun v hv h4 => by
    obtain ⟨i, hi⟩ := List.getElem?_of_mem hv
    have h1 := deep_get hi
    rw [deep_eq, if_pos h4] at h1
    exact r_deep v.l (by omega) (smallL_in hs v hv)) vs.length 0 (by omega) 0 (by omega)
  simpa using this
termination_by SizeOf.sizeOf vs
decreasing_by
  obtain ⟨i, hi⟩ := List.getElem?_of_mem hv
  exact size_get hi
theorem plainV_eq (v : V) : plainV v = (if v.k = 1 then decide (v.s = [] ∧ v.l.length = 0) else if v.k = 2 then decide (v.n = 0 ∧ v.s.length ≤ 400 ∧ v.l.length = 0) else if v.k = 3 then decide ((v.n = 0 ∨ v.n = 1) ∧ v.s = [] ∧ v.l.length = 0) else if v.k = 4 then decide (v.n = 0 ∧ v.s = [] ∧ v.l.length ≤ 64) && v.l.all plainV else false) := by
  have hA : ∀ l : List V, plainV.plainA l = l.all plainV := by
    intro l
    induction l with
    | nil => rfl
    | cons x l ih => simp [plainV.plainA, ih]
  cases v
  simp only [plainV, V.k, V.n, V.s, V.l, hA]
  congr
theorem sizeV {v x : V} (h : x ∈ v.l) : SizeOf.sizeOf x < SizeOf.sizeOf v := by
  have h1 := List.sizeOf_lt_of_mem h
  have h2 : SizeOf.sizeOf v.l < SizeOf.sizeOf v := by cases v; simp [V.l]; omega
  omega
theorem sameA_all2 : ∀ a b : List V, sameV.sameA a b = all2 sameV a b
  | [], [] => rfl
  | [], _ :: _ => rfl
  | _ :: _, [] => rfl
  | x :: a, y :: b => by simp [sameV.sameA, all2, sameA_all2 a b]
theorem r_Same (a b : V) (hs : small a) : R_val_Same a b (sameV a b) := by
  have hl := small_l hs
  have hx : ∀ x y, x ∈ a.l → R_val_Same x y (sameV x y) := fun x y h => r_Same x y (smallA_mem hl.2 x h)
  apply val_Same_tree
  rw [sameV_eq, sameA_all2]
  refine ⟨fun h1 => ⟨fun h2 => ⟨fun h3 => ⟨hl.1, sameV, hx, by simp [h1, h2, h3]⟩, fun h3 => by simp [h3]⟩, fun h2 => by simp [h2]⟩, fun h1 => by simp [h1]⟩
termination_by SizeOf.sizeOf a
decreasing_by exact sizeV h
theorem r_SameVal_loop (a b : V) (hlen : a.l.length = b.l.length) (hs : a.l.length < 9223372036854775808) (hr : ∀ x ∈ a.l, ∀ y, R_ref4_SameVal x y (sameV x y)) : ∀ (k i : Nat), i + k = a.l.length → At_ref4_SameVal_1 a b i (sameV.sameA (a.l.drop i) (b.l.drop i)) := by
  intro k
  induction k with
  | zero =>
    intro i hi
    apply At_ref4_SameVal_1_step
    refine ⟨fun h => by omega, fun h => ?_⟩
    rw [List.drop_eq_nil_of_le (by omega), List.drop_eq_nil_of_le (by omega)]
    rfl
  | succ k ih =>
    intro i hi
    apply At_ref4_SameVal_1_step
    have h1 : i < a.l.length := by omega
    have h2 : i < b.l.length := by omega
    refine ⟨fun h => ⟨by omega, a.l[i], by simp, by omega, b.l[i], by simp [h2], _, hr _ (List.getElem_mem h1) _, fun h => ⟨⟨by omega, by omega⟩, ?_⟩, fun h => ?_⟩, fun h => by omega⟩
    · have := ih (i + 1) (by omega)
      rw [List.drop_eq_getElem_cons h1, List.drop_eq_getElem_cons h2]
      simp only [sameV.sameA, h, Bool.true_and]
      exact this
    · rw [List.drop_eq_getElem_cons h1, List.drop_eq_getElem_cons h2]
      simp only [sameV.sameA]
      simp at h
      simp [h]
theorem r_SameVal (a b : V) (hs : small a) : R_ref4_SameVal a b (sameV a b) := by
  have hl := small_l hs
  apply ref4_SameVal_tree
  rw [sameV_eq]
  refine ⟨fun h1 => ⟨fun h2 => ⟨fun h3 => ⟨fun h4 => ?_, fun h4 => ?_⟩, fun h3 => by simp [h3]⟩, fun h2 => by simp [h2]⟩, fun h1 => by simp [h1]⟩
  · have := r_SameVal_loop a b (by omega) hl.1 (fun x hx y => r_SameVal x y (smallA_mem hl.2 x hx)) a.l.length 0 (by omega)
    simpa [h1, h2, h3] using this
  · cases h : sameV.sameA a.l b.l with
    | false => simp
    | true => exact absurd (sameA_length h) (by omega)
termination_by SizeOf.sizeOf a
decreasing_by exact sizeV hx
/-- What an operator makes of a value; and the error. -/
def oneT (k : Int) (v : V) : V × Int :=
  if k = 8 then (if v.k = 3 then (truthV (v.n = 0), 0) else (zeroV, 7))
  else if k = 9 then (if v.k = 1 then (if v.n = -9223372036854775808 then (zeroV, 8) else (numV (0 - v.n), 0)) else (zeroV, 7))
  else (zeroV, 1)
theorem truthV_dec (p : Prop) [Decidable p] : truthV (decide p = true) = truthV p := by simp [truthV]
theorem r_One (k : Int) (v : V) (h : okV v) : R_val_One k v (oneT k v).1 (oneT k v).2 := by
  apply val_One_tree
  obtain ⟨h1, h2⟩ := h
  have eb := r_Bool (decide (v.n = 0))
  rw [truthV_dec] at eb
  have ei := r_Int (0 - v.n)
  unfold oneT
  repeat' first
    | (refine ⟨_, eb, ?_⟩)
    | (refine ⟨_, ei, ?_⟩)
    | (intro _)
    | (apply And.intro)
  all_goals first
    | (simp [zeroV, *]; done)
    | omega
theorem r_rOne (k : Int) (v : V) (h : okV v) : R_ref4_One k v ⟨(oneT k v).1, (oneT k v).2⟩ := by
  apply ref4_One_tree
  obtain ⟨h1, h2⟩ := h
  have eb := r_truth (decide (v.n = 0))
  rw [truthV_dec] at eb
  have ei := r_rnum (0 - v.n)
  have e1 := r_bad 1
  have e7 := r_bad 7
  have e8 := r_bad 8
  unfold oneT
  repeat' first
    | (refine ⟨_, eb, ?_⟩)
    | (refine ⟨_, ei, ?_⟩)
    | (refine ⟨_, e1, ?_⟩)
    | (refine ⟨_, e7, ?_⟩)
    | (refine ⟨_, e8, ?_⟩)
    | (intro _)
    | (apply And.intro)
  all_goals first
    | (simp [*]; done)
    | omega
end Go.Proofs.YtkbdinocadoelaaDoor.M

/- What the functions on values yield: depth, fields, texts, types, two operands. -/
namespace Go.Proofs.YtkbdinocadoelaaDoor.M
set_option linter.unusedSimpArgs false
set_option linter.unusedVariables false
open Go Classical
/-- What stands in a list. -/
def indexS (a b : V) : V × Int :=
  if a.k = 4 then (if b.k = 1 then (if b.n < 0 then (zeroV, 2) else if (a.l.length : Int) ≤ b.n then (zeroV, 2) else ((a.l[b.n.toNat]?).getD zeroV, 0)) else (zeroV, 7)) else (zeroV, 7)
/-- A list of values. -/
def listS (l : List V) : V × Int := if 64 < l.length ∨ 64 ≤ deepL l then (zeroV, 4) else (.mk 4 0 [] l, 0)
/-- How deep, with so much left. -/
def rdeep : Nat → V → Nat
  | 0, v => if v.k = 4 then 1000 else 0
  | n + 1, v => if v.k = 4 then (v.l.map (rdeep n)).foldr max 0 + 1 else 0
theorem rdeep_le : ∀ n v, rdeep n v ≤ 1000 + n
  | 0, v => by simp only [rdeep]; split <;> omega
  | n + 1, v => by
    simp only [rdeep]
    split
    · have : ∀ l : List V, (l.map (rdeep n)).foldr max 0 ≤ 1000 + n := by
        intro l
        induction l with
        | nil => simp
        | cons x l ih => simp only [List.map_cons, List.foldr_cons]; have := rdeep_le n x; omega
      have := this v.l
      omega
    · omega
theorem rdeep_big : ∀ n v, n < deep v → 1000 ≤ rdeep n v
  | 0, v, h => by
    rw [deep_eq] at h
    simp only [rdeep]
    split at h
    · rename_i h4; simp [h4]
    · omega
  | n + 1, v, h => by
    rw [deep_eq] at h
    simp only [rdeep]
    split at h
    · rename_i h4
      rw [if_pos h4]
      have : ∀ l : List V, n < deepL l → 1000 ≤ (l.map (rdeep n)).foldr max 0 := by
        intro l
        induction l with
        | nil => intro h; simp [deepL] at h
        | cons x l ih =>
          intro h
          simp only [deepL] at h
          simp only [List.map_cons, List.foldr_cons]
          rcases Nat.lt_or_ge n (deep x) with h1 | h1
          · have := rdeep_big n x h1; omega
          · have := ih (by omega); omega
      have := this v.l (by omega)
      omega
    · omega
theorem rdeep_small : ∀ n v, deep v ≤ n → rdeep n v = deep v
  | 0, v, h => by
    rw [deep_eq] at h ⊢
    simp only [rdeep]
    split at h
    · omega
    · rename_i h4; simp [h4]
  | n + 1, v, h => by
    rw [deep_eq] at h ⊢
    simp only [rdeep]
    split at h
    · rename_i h4
      rw [if_pos h4, if_pos h4]
      have : ∀ l : List V, deepL l ≤ n → (l.map (rdeep n)).foldr max 0 = deepL l := by
        intro l
        induction l with
        | nil => intro h; simp [deepL]
        | cons x l ih =>
          intro h
          simp only [deepL] at h ⊢
          simp only [List.map_cons, List.foldr_cons]
          rw [rdeep_small n x (by omega), ih (by omega)]
      rw [this v.l (by omega)]
      omega
    · rename_i h4; simp [h4]
theorem r_rdeep_loop (n : Nat) (hn : n < 100000) (ih : ∀ v, small v → R_ref4_deep v (n : Nat) (rdeep n v : Nat)) (v : V) (hs : small v) : ∀ (k i : Nat), i + k = v.l.length → ∀ m : Nat, m ≤ 1000 + n → At_ref4_deep_1 v ((n + 1 : Nat) : Int) m i ((max m (((v.l.drop i).map (rdeep n)).foldr max 0) + 1 : Nat) : Int) := by
  have hl := small_l hs
  have hlen : v.l.length < 9223372036854775808 := hl.1
  intro k
  induction k with
  | zero =>
    intro i hi m hm
    apply At_ref4_deep_1_step
    refine ⟨fun h => by omega, fun h => ⟨⟨by omega, by omega⟩, ?_⟩⟩
    rw [List.drop_eq_nil_of_le (by omega)]
    simp
  | succ k ihk =>
    intro i hi m hm
    apply At_ref4_deep_1_step
    refine ⟨fun h => ⟨by omega, ?_⟩, fun h => by omega⟩
    have hlt : i < v.l.length := by omega
    refine ⟨v.l[i], by simp, ⟨by omega, by omega⟩, (rdeep n v.l[i] : Nat), ?_, ⟨by omega, by omega⟩, ?_⟩
    · have := ih v.l[i] (smallA_mem hl.2 _ (List.getElem_mem hlt))
      have e : (((n + 1 : Nat) : Int) - 1) = (n : Nat) := by omega
      rw [e]
      exact this
    · have hr := rdeep_le n v.l[i]
      have := ihk (i + 1) (by omega) (max m (rdeep n v.l[i])) (by omega)
      rw [List.drop_eq_getElem_cons hlt]
      simp only [List.map_cons, List.foldr_cons]
      rw [← Nat.max_assoc]
      have e : (if (m : Int) < (rdeep n v.l[i] : Nat) then ((rdeep n v.l[i] : Nat) : Int) else (m : Int)) = ((max m (rdeep n v.l[i]) : Nat) : Int) := by split <;> omega
      rw [e]
      exact this
theorem r_rdeep : ∀ n : Nat, n < 100000 → ∀ v, small v → R_ref4_deep v (n : Nat) (rdeep n v : Nat) := by
  intro n
  induction n with
  | zero =>
    intro hn v hs
    apply ref4_deep_tree
    simp only [rdeep]
    refine ⟨fun h => ⟨fun _ => by simp [h], fun h => by simp at h⟩, fun h => by simp [h]⟩
  | succ n ih =>
    intro hn v hs
    apply ref4_deep_tree
    simp only [rdeep]
    refine ⟨fun h => ⟨fun h => by omega, fun _ => ?_⟩, fun h => by simp [h]⟩
    have := r_rdeep_loop n (by omega) (ih (by omega)) v hs v.l.length 0 (by omega) 0 (by omega)
    simp only [List.drop_zero, Nat.zero_max] at this
    rw [if_pos h]
    exact this
theorem sameV_refl (v : V) : sameV v v = true := by
  have h : ∀ l : List V, (∀ x ∈ l, sameV x x = true) → sameV.sameA l l = true := by
    intro l
    induction l with
    | nil => intro _; rfl
    | cons x l ih =>
      intro h
      simp only [sameV.sameA, Bool.and_eq_true]
      exact ⟨h x (by simp), ih fun y hy => h y (by simp [hy])⟩
  rw [sameV_eq, h v.l (fun x hx => sameV_refl x)]
  simp
termination_by SizeOf.sizeOf v
decreasing_by
  have h1 := List.sizeOf_lt_of_mem hx
  have h2 : SizeOf.sizeOf v.l < SizeOf.sizeOf v := by cases v; simp [V.l]; omega
  omega

theorem r_fields_loop (v : V) (hs : v.l.length < 9223372036854775808) (hk : v.k = 4) (hr : ∀ x ∈ v.l, R_ref4_fields x (plainV x)) : ∀ (k i : Nat), i + k = v.l.length → (v.l.take i).all plainV = true → At_ref4_fields_1 v i (plainV v) := by
  intro k
  induction k with
  | zero =>
    intro i hi ht
    apply At_ref4_fields_1_step
    rw [List.take_of_length_le (by omega)] at ht
    rw [plainV_eq]
    simp only [hk, ht]
    refine ⟨fun h => by omega, fun h => ⟨fun h => ⟨fun h2 => ?_, fun h2 => ?_⟩, fun h => ?_⟩⟩
    · simp [h, h2]; omega
    · simp [h2]
    · simp [h]
  | succ k ih =>
    intro i hi ht
    apply At_ref4_fields_1_step
    have h1 : i < v.l.length := by omega
    refine ⟨fun h => ⟨by omega, v.l[i], by simp, _, hr _ (List.getElem_mem h1), fun h => ⟨⟨by omega, by omega⟩, ?_⟩, fun h => ?_⟩, fun h => by omega⟩
    · refine ih (i + 1) (by omega) ?_
      rw [List.take_succ_eq_append_getElem h1, List.all_append, ht]
      simp [h]
    · rw [plainV_eq]
      simp only [hk]
      have : v.l.all plainV = false := by
        cases ha : v.l.all plainV with
        | false => rfl
        | true => exact absurd (List.all_eq_true.1 ha _ (List.getElem_mem h1)) h
      simp [this]
theorem r_fields (v : V) (hs : small v) : R_ref4_fields v (plainV v) := by
  have hl := small_l hs
  apply ref4_fields_tree
  refine ⟨fun h1 => ?_, fun h1 => ⟨fun h2 => ?_, fun h2 => ⟨fun h3 => ?_, fun h3 => ⟨fun h4 => ?_, fun h4 => ?_⟩⟩⟩⟩
  · rw [plainV_eq]; exact ⟨fun h => by simp [*], fun h => by simp [*]⟩
  · rw [plainV_eq]
    refine ⟨fun h => ⟨fun h5 => ?_, fun h5 => ?_⟩, fun h => by simp [*]⟩
    · simp [h2, h, (by simpa using h5 : v.l = [])]; omega
    · simp [h2, h, (by simpa using h5 : ¬ v.l = [])]
  · rw [plainV_eq]
    refine ⟨fun h => ⟨fun h5 => ⟨fun h6 => by simp_all, fun h6 => by simp_all⟩, fun h5 => by simp_all⟩, fun h => by simp_all⟩
  · exact r_fields_loop v hl.1 h4 (fun x hx => r_fields x (smallA_mem hl.2 x hx)) v.l.length 0 (by omega) (by simp)
  · rw [plainV_eq]; simp [*]
termination_by SizeOf.sizeOf v
decreasing_by exact sizeV hx
theorem rdeep64 (v : V) : rdeep 64 v ≤ 64 ↔ deep v ≤ 64 := by
  constructor
  · intro h
    rcases Nat.lt_or_ge 64 (deep v) with h1 | h1
    · have := rdeep_big 64 v h1; omega
    · exact h1
  · intro h
    rw [rdeep_small 64 v h]
    exact h
theorem r_MayVal (v : V) (hs : small v) : R_ref4_MayVal v (plainV v && decide (deep v ≤ 64)) := by
  apply ref4_MayVal_tree
  have h1 := r_rdeep 64 (by omega) v hs
  have h2 := rdeep64 v
  refine ⟨_, h1, fun h => ⟨_, r_fields v hs, ?_⟩, fun h => ?_⟩
  · simp [h2.1 (by omega)]
  · have : ¬ deep v ≤ 64 := fun h3 => h (by have := h2.2 h3; omega)
    simp [this]
theorem u64_nat (n : Nat) (h : n < 18446744073709551616) : IntKind.u64.wrap (n : Int) = n := U64.wrap ⟨by omega, by omega⟩
theorem tdivN (a : Nat) (b : Nat) : ((a : Nat) : Int).tdiv (b : Int) = ((a / b : Nat) : Int) := by
  rw [Int.tdiv_eq_ediv_of_nonneg (by omega)]; simp
theorem tmodN (a : Nat) (b : Nat) : ((a : Nat) : Int).tmod (b : Int) = ((a % b : Nat) : Int) := by
  rw [Int.tmod_eq_emod_of_nonneg (by omega)]; simp
theorem r_Digits_loop (n : Int) : ∀ (j u : Nat) (s : List UInt8), Lib.nDigits u ≤ j → u < 18446744073709551616 → s.length + j ≤ 1000 → At_ref1_Digits_1 n u s ((if n < 0 then [45] else []) ++ (Lib.decDigits u ++ s))
  | 0, u, s, h, _, _ => by have := Lib.nDigits_pos u; omega
  | j + 1, u, s, h, hu, hs => by
    apply At_ref1_Digits_1_step
    have d10 : ((u : Nat) : Int).tdiv 10 = ((u / 10 : Nat) : Int) := tdivN u 10
    have m10 : ((u : Nat) : Int).tmod 10 = ((u % 10 : Nat) : Int) := tmodN u 10
    have e48 : ∀ x : Nat, (48 + ((x : Nat) : Int)).toNat = 48 + x := fun x => by omega
    refine ⟨fun h10 => ?_, fun h10 => ?_⟩
    · have hu10 : ¬ u < 10 := by omega
      rw [d10, m10, e48]
      have hn : Lib.nDigits u = Lib.nDigits (u / 10) + 1 := Lib.nDigits_big hu10
      refine ⟨⟨by omega, by omega⟩, ⟨by omega, by omega⟩, by simp [maxInt]; omega, ⟨by omega, by omega⟩, ?_⟩
      have := r_Digits_loop n j (u / 10) ([UInt8.ofNat (48 + u % 10)] ++ s) (by omega) (by omega) (by simp; omega)
      rw [show Lib.decDigits u = Lib.decDigits (u / 10) ++ [UInt8.ofNat (48 + u % 10)] from by rw [Lib.decDigits, dif_neg hu10], List.append_assoc]
      exact this
    · have hu10 : u < 10 := by omega
      rw [e48, show Lib.decDigits u = [UInt8.ofNat (48 + u)] from by rw [Lib.decDigits, dif_pos hu10]]
      refine ⟨⟨by omega, by omega⟩, ⟨by omega, by omega⟩, by simp [maxInt]; omega, fun hn => ⟨by simp [maxInt]; omega, by simp [hn]⟩, fun hn => by simp [hn]⟩
theorem wrap_u64_neg {n : Int} (h0 : -9223372036854775808 ≤ n) (h : n < 0) : IntKind.u64.wrap (0 - (IntKind.u64.wrap n)) = ((n.natAbs : Nat) : Int) := by
  have e1 : IntKind.u64.wrap n = n % 18446744073709551616 := by
    simp [IntKind.wrap, IntKind.signed, IntKind.bits]
  rw [e1]
  have e2 : ∀ x : Int, IntKind.u64.wrap x = x % 18446744073709551616 := fun x => by
    simp [IntKind.wrap, IntKind.signed, IntKind.bits]
  rw [e2]
  omega
theorem r_Digits (n : Int) (h : I64 n) : R_ref1_Digits n (Lib.itoa n) := by
  obtain ⟨h0, h1⟩ := h
  apply ref1_Digits_tree
  refine ⟨fun hn => ?_, fun hn => ?_⟩
  · rw [wrap_u64_neg h0 hn]
    have := r_Digits_loop n 20 n.natAbs [] (Lib.nDigits_le20 _ (by omega)) (by omega) (by simp)
    simpa [Lib.itoa, hn] using this
  · obtain ⟨m, rfl⟩ : ∃ m : Nat, n = m := ⟨n.toNat, by omega⟩
    rw [u64_nat m (by omega)]
    have := r_Digits_loop m 20 m [] (Lib.nDigits_le20 _ (by omega)) (by omega) (by simp)
    simpa [Lib.itoa, hn] using this
theorem r_Itoa (n : Int) (h : I64 n) : R_strconv_Itoa n (Lib.itoa n) := fun S => call_ext sp_strconv_Itoa S (if_pos h)
theorem r_FormatBool (b : Bool) : R_strconv_FormatBool b (Lib.formatBool b) := fun S => call_ext sp_strconv_FormatBool S rfl
theorem formatBool_true : Lib.formatBool true = [116, 114, 117, 101] := by decide
theorem formatBool_false : Lib.formatBool false = [102, 97, 108, 115, 101] := by decide
/-- A value's text; and the error. -/
def textV (v : V) : List UInt8 × Int :=
  if v.k = 1 then (Lib.itoa v.n, 0) else if v.k = 2 then (v.s, 0) else if v.k = 3 then (Lib.formatBool (decide (v.n = 1)), 0) else ([], 7)
theorem r_Text (v : V) (h : okV v) : R_val_Text v (textV v).1 (textV v).2 := by
  apply val_Text_tree
  unfold textV
  refine ⟨fun h1 => ⟨_, r_Itoa _ h, by simp [h1]⟩, fun h1 => ⟨fun h2 => by simp [h2], fun h2 => ⟨fun h3 => ⟨_, r_FormatBool _, by simp [h3]⟩, fun h3 => by simp [h1, h2, h3]⟩⟩⟩
theorem r_rText (v : V) (h : okV v) : R_ref4_Text v ⟨(textV v).1, (textV v).2⟩ := by
  apply ref4_Text_tree
  unfold textV
  refine ⟨fun h1 => ⟨_, r_Digits _ h, by simp [h1]⟩, fun h1 => ⟨fun h2 => by simp [h2], fun h2 => ⟨fun h3 => ⟨fun h4 => ?_, fun h4 => ?_⟩, fun h3 => by simp [h1, h2, h3]⟩⟩⟩
  · simp [h3, h4, formatBool_true]
  · simp [h3, h4, formatBool_false]
def typeV (v : V) : List UInt8 :=
  if v.k = 1 then [105, 110, 116] else if v.k = 2 then [115, 116, 114, 105, 110, 103] else if v.k = 3 then [98, 111, 111, 108] else [108, 105, 115, 116]
theorem plain_k {v : V} (h : plainV v = true) : v.k = 1 ∨ v.k = 2 ∨ v.k = 3 ∨ v.k = 4 := by
  rw [plainV_eq] at h
  by_cases h1 : v.k = 1
  · exact .inl h1
  · by_cases h2 : v.k = 2
    · exact .inr (.inl h2)
    · by_cases h3 : v.k = 3
      · exact .inr (.inr (.inl h3))
      · by_cases h4 : v.k = 4
        · exact .inr (.inr (.inr h4))
        · simp [h1, h2, h3, h4] at h
end Go.Proofs.YtkbdinocadoelaaDoor.M

/- What the functions on values yield: two operands; how many. -/
namespace Go.Proofs.YtkbdinocadoelaaDoor.M
set_option linter.unusedSimpArgs false
set_option linter.unusedVariables false
open Go Classical
/-- What an operator makes of two values; and the error. -/
noncomputable def twoT (k : Int) (a b : V) : V × Int :=
  if k < 11 then (zeroV, 1)
  else if 23 < k then (zeroV, 1)
  else if k ≤ 12 then (if a.k = b.k then (if a.k = 3 then (if k = 11 then (truthV (0 < a.n + b.n), 0) else (truthV (a.n + b.n = 2), 0)) else (zeroV, 7)) else (zeroV, 7))
  else if k = 13 then (if a.k = b.k then (truthV (sameV a b = true), 0) else (zeroV, 7))
  else if k = 14 then (if a.k = b.k then (truthV (sameV a b = false), 0) else (zeroV, 7))
  else if a.k = b.k then (if a.k = 1 then (if k ≤ 18 then (truthV (cmpS k a.n b.n), 0) else (if (reckonS k a.n b.n).2 = 0 then numV (reckonS k a.n b.n).1 else zeroV, (reckonS k a.n b.n).2)) else (zeroV, 7))
  else (zeroV, 7)
theorem zeroV_eq : V.mk 0 0 [] [] = zeroV := rfl
theorem r_Two (k : Int) (a b : V) (h : small a) (ta : okT a) (tb : okT b) : R_val_Two k a b (twoT k a b).1 (twoT k a b).2 := by
  apply val_Two_tree
  have eS := r_Same a b h
  have eC := r_compare k a.n b.n
  have eR := r_reckon k a.n b.n
  have eb : ∀ b : Bool, R_val_Bool b (truthV (b = true)) := r_Bool
  have ei := r_Int (reckonS k a.n b.n).1
  unfold okT at ta tb
  unfold twoT
  simp only [zeroV_eq]
  repeat' first
    | (refine ⟨_, eS, ?_⟩)
    | (refine ⟨_, eC, ?_⟩)
    | (refine ⟨_, _, eR, ?_⟩)
    | (refine ⟨_, eb _, ?_⟩)
    | (refine ⟨_, ei, ?_⟩)
    | (intro _)
    | (apply And.intro)
  all_goals try (exfalso; omega)
  all_goals clear eS eC eR eb ei h
  all_goals try (have k1 : ¬ k < 11 := by omega)
  all_goals try (have k2 : ¬ 23 < k := by omega)
  all_goals try (have k3 : ¬ k ≤ 12 := by omega)
  all_goals try (have k3 : k ≤ 12 := by omega)
  all_goals try (have k4 : ¬ k = 13 := by omega)
  all_goals try (have k5 : ¬ k = 14 := by omega)
  all_goals try (have k6 : ¬ k ≤ 18 := by omega)
  all_goals try (have k6 : k ≤ 18 := by omega)
  all_goals try (have k7 : ¬ a.k = b.k := by omega)
  all_goals try (have k7 : a.k = b.k := by omega)
  all_goals first
    | omega
    | (simp [truthV, *]; done)
    | ((have a3 : a.k = 3 := by omega); (have b3 : b.k = 3 := by omega); rcases ta a3 with h1 | h1 <;> rcases tb b3 with h2 | h2 <;> (repeat first | rw [if_pos (by first | assumption | omega)] | rw [if_neg (by first | assumption | omega)]) <;> first | rfl | omega | (simp [truthV, h1, h2]; done))
    | (rcases ta (by assumption) with h1 | h1 <;> rcases tb (by omega) with h2 | h2 <;> (first | omega | exact ⟨by omega, by omega⟩); done)
    | ((repeat first | rw [if_pos (by first | assumption | omega)] | rw [if_neg (by first | assumption | omega)]) <;> first | rfl | (simp [truthV, *]; done) | (split <;> simp_all; done))
    | (simp_all [truthV]; done)
    | (simp only [k1, k2, k3, k4, k5, k6, k7, if_true, if_false]; simp [*]; done)
    | (simp only [k1, k2, k3, k5, k6, k7, if_true, if_false]; simp [*, truthV]; done)
    | (simp only [k1, k2, k3, k4, k6, k7, if_true, if_false]; simp [*, truthV]; done)
    | trace_state
end Go.Proofs.YtkbdinocadoelaaDoor.M

/- ValAll: how many values there are within; all joined. -/
namespace Go.Proofs.YtkbdinocadoelaaDoor.M
set_option linter.unusedSimpArgs false
set_option linter.unusedVariables false
open Go Classical
/-- How many values there are within, as far as they are gone through. -/
def manyV : Nat → V → Nat
  | d, .mk _ _ s l => if 80 < d ∨ 100 < l.length ∨ 600 < s.length then 1000 else manyL d 1 l
where
  manyL : Nat → Nat → List V → Nat
    | _, n, [] => n
    | d, n, x :: l => if n < 1000 then manyL d (n + manyV (d + 1) x) l else n
theorem manyV_eq (d : Nat) (v : V) : manyV d v = if 80 < d ∨ 100 < v.l.length ∨ 600 < v.s.length then 1000 else manyV.manyL d 1 v.l := by
  cases v; simp only [manyV, V.l, V.s]; congr
theorem manyL_le (d B : Nat) : ∀ (l : List V) (n : Nat), (∀ x ∈ l, manyV (d + 1) x ≤ B) → manyV.manyL d n l ≤ max n (999 + B)
  | [], n, _ => by simp only [manyV.manyL]; omega
  | x :: l, n, h => by
    simp only [manyV.manyL]
    have h1 := h x (by simp)
    split
    · have := manyL_le d B l (n + manyV (d + 1) x) fun y hy => h y (by simp [hy])
      omega
    · omega
theorem manyV_le (v : V) (d : Nat) (hd : d ≤ 81) : manyV d v ≤ 1000 * (90 - d) := by
  rw [manyV_eq]
  split
  · omega
  · rename_i h
    have := manyL_le d (1000 * (90 - (d + 1))) v.l 1 (fun x hx => manyV_le x (d + 1) (by omega))
    omega
termination_by SizeOf.sizeOf v
decreasing_by exact sizeV hx
theorem manyL_ge (d : Nat) : ∀ (l : List V) (n : Nat), n ≤ manyV.manyL d n l
  | [], n => by simp only [manyV.manyL]; omega
  | x :: l, n => by
    simp only [manyV.manyL]
    split
    · have := manyL_ge d l (n + manyV (d + 1) x); omega
    · omega
theorem manyL_each (d : Nat) : ∀ (l : List V) (n : Nat), manyV.manyL d n l < 1000 → ∀ x ∈ l, manyV (d + 1) x < 1000
  | [], _, _, x, hx => by cases hx
  | y :: l, n, h, x, hx => by
    simp only [manyV.manyL] at h
    split at h
    · have := manyL_ge d l (n + manyV (d + 1) y)
      rcases List.mem_cons.1 hx with rfl | hx
      · omega
      · exact manyL_each d l _ h x hx
    · omega
theorem deepL_le {B : Nat} : ∀ {l : List V}, (∀ x ∈ l, deep x ≤ B) → deepL l ≤ B
  | [], _ => by simp [deepL]
  | x :: l, h => by
    have h1 := h x (by simp)
    have h2 := deepL_le (B := B) (l := l) fun y hy => h y (by simp [hy])
    simp only [deepL]
    omega
theorem many_deep (v : V) (d : Nat) (h : manyV d v < 1000) : deep v ≤ 81 - d := by
  rw [manyV_eq] at h
  split at h
  · omega
  · rename_i hc
    have := deepL_le (B := 81 - (d + 1)) (l := v.l) fun x hx => many_deep x (d + 1) (manyL_each d v.l 1 h x hx)
    rw [deep_eq]
    split <;> omega
termination_by SizeOf.sizeOf v
decreasing_by exact sizeV hx
theorem r_many_loop (v : V) (d : Nat) (hd : d ≤ 80) (hs : v.l.length < 9223372036854775808) (hr : ∀ x ∈ v.l, R_law4_many x ((d + 1 : Nat) : Int) (manyV (d + 1) x : Nat)) : ∀ (k i : Nat), i + k = v.l.length → ∀ n : Nat, n ≤ 1000000 → At_law4_many_1 v d n i ((manyV.manyL d n (v.l.drop i) : Nat) : Int) := by
  intro k
  induction k with
  | zero =>
    intro i hi n hn
    apply At_law4_many_1_step
    refine ⟨fun h => by omega, fun h => ?_⟩
    rw [List.drop_eq_nil_of_le (by omega)]
    simp [manyV.manyL]
  | succ k ih =>
    intro i hi n hn
    apply At_law4_many_1_step
    have h1 : i < v.l.length := by omega
    rw [List.drop_eq_getElem_cons h1]
    simp only [manyV.manyL]
    have hb := manyV_le v.l[i] (d + 1) (by omega)
    refine ⟨fun h => ⟨fun hn2 => ⟨by omega, v.l[i], by simp, ⟨by omega, by omega⟩, (manyV (d + 1) v.l[i] : Nat), ?_, ⟨by omega, by omega⟩, ⟨by omega, by omega⟩, ?_⟩, fun hn2 => ?_⟩, fun h => by omega⟩
    · exact hr _ (List.getElem_mem h1)
    · rw [if_pos (by omega)]
      exact ih (i + 1) (by omega) (n + manyV (d + 1) v.l[i]) (by omega)
    · rw [if_neg (by omega)]
theorem r_many (v : V) (hs : small v) (d : Nat) (hd : d ≤ 81) : R_law4_many v d (manyV d v : Nat) := by
  have hl := small_l hs
  apply law4_many_tree
  rw [manyV_eq]
  refine ⟨fun h => ?_, fun h => ⟨fun h2 => ?_, fun h2 => ⟨fun h3 => ?_, fun h3 => ?_⟩⟩⟩
  · rw [if_pos (by omega)]; rfl
  · rw [if_pos (by omega)]; rfl
  · rw [if_pos (by omega)]; rfl
  · rw [if_neg (by omega)]
    have := r_many_loop v d (by omega) hl.1 (fun x hx => r_many x (smallA_mem hl.2 x hx) (d + 1) (by omega)) v.l.length 0 (by omega) 1 (by omega)
    simpa using this
termination_by SizeOf.sizeOf v
decreasing_by exact sizeV hx
theorem r_Great (v : V) (hs : small v) : R_law4_Great v 0 (decide (500 < manyV 0 v)) := by
  apply law4_Great_tree
  exact ⟨_, r_many v hs 0 (by omega), decide_eq_decide.2 (by omega)⟩
theorem plain_T {v : V} (h : plainV v = true) : okT v := by
  intro h3
  rw [plainV_eq] at h
  simp only [h3] at h
  simp at h
  exact h.1
theorem oneT_small (k : Int) (v : V) : small (oneT k v).1 := by
  unfold oneT
  repeat' split
  all_goals simp [truthV, numV, zeroV, small, smallA]
theorem twoT_small (k : Int) (a b : V) : small (twoT k a b).1 := by
  unfold twoT
  repeat' split
  all_goals simp [truthV, numV, zeroV, small, smallA]
theorem indexS_small (a b : V) (h : small a) : small (indexS a b).1 := by
  have hl := small_l h
  unfold indexS
  repeat' split
  all_goals try (simp [zeroV, small, smallA]; done)
  rename_i h1 h2 h3 h4
  have hlt : b.n.toNat < a.l.length := by omega
  rw [List.getElem?_eq_getElem hlt]
  exact smallA_mem hl.2 _ (List.getElem_mem hlt)
end Go.Proofs.YtkbdinocadoelaaDoor.M

/- ValJoin. -/
namespace Go.Proofs.YtkbdinocadoelaaDoor.M
set_option linter.unusedSimpArgs false
set_option linter.unusedVariables false
open Go Classical
theorem intercalate_nil : ∀ l : List (List UInt8), ([] : List UInt8).intercalate l = l.flatten
  | [] => rfl
  | [x] => by simp [List.intercalate]
  | x :: y :: l => by
    have := intercalate_nil (y :: l)
    simp only [List.intercalate, List.intersperse] at this ⊢
    simp at this ⊢
    exact this
theorem join_nil (l : List (List UInt8)) : Lib.join l [] = l.flatten := intercalate_nil l
theorem textsOf_map : ∀ l : List (List UInt8), textsOf (l.map eS) = some l
  | [] => rfl
  | x :: l => by simp [eS, textsOf, textsOf_map l]
theorem r_SJoin (l : List (List UInt8)) (h : l.length ≤ 140737488355328) (h2 : l.flatten.length ≤ 140737488355328) : R_strings_Join l [] l.flatten := fun S => by
  refine call_ext sp_strings_Join S ?_
  simp only [joinX, textsOf_map, join_nil]
  rw [if_pos ⟨h, h2⟩]
/-- All texts, one behind the other; and the error. -/
def joinV (l : List (List UInt8)) : V × Int := if l.flatten.length ≤ 400 then (.mk 2 0 l.flatten [], 0) else (zeroV, 4)
theorem joinV_fits {l : List (List UInt8)} (h : l.flatten.length ≤ 400) : joinV l = (.mk 2 0 l.flatten [], 0) := if_pos h
theorem joinV_large {l : List (List UInt8)} (h : ¬ l.flatten.length ≤ 400) : joinV l = (zeroV, 4) := if_neg h
theorem flatten_take (l : List (List UInt8)) (i : Nat) (h : i < l.length) : (l.take (i + 1)).flatten.length = (l.take i).flatten.length + l[i].length := by
  rw [List.take_succ_eq_append_getElem h, List.flatten_append, List.length_append]
  simp [-List.length_flatten]
theorem flatten_le (l : List (List UInt8)) (i : Nat) : (l.take i).flatten.length ≤ l.flatten.length := by
  have : l.flatten = (l.take i).flatten ++ (l.drop i).flatten := by rw [← List.flatten_append, List.take_append_drop]
  rw [this, List.length_append]
  omega
theorem r_Join_loop (l : List (List UInt8)) (hl : l.length ≤ 140737488355328) : ∀ (k i : Nat), i + k = l.length → (l.take i).flatten.length ≤ 400 → ∀ (i3 i4 : Int) (s5 : List UInt8) (l6 : List V) (g7 : Nat), At_val_Join_1 l ((l.take i).flatten.length : Nat) i i3 i4 s5 l6 g7 (joinV l).1 (joinV l).2 := by
  intro k
  induction k with
  | zero =>
    intro i hi h i3 i4 s5 l6 g7
    apply At_val_Join_1_step
    rw [List.take_of_length_le (by omega)] at h
    refine ⟨fun h => by omega, fun _ => ⟨_, r_SJoin l hl (by omega), ?_⟩⟩
    rw [joinV_fits h]; exact ⟨rfl, rfl⟩
  | succ k ih =>
    intro i hi h i3 i4 s5 l6 g7
    apply At_val_Join_1_step
    have h1 : i < l.length := by omega
    have ht := flatten_take l i h1
    refine ⟨fun _ => ⟨by omega, l[i], by simp, ⟨by omega, by omega⟩, fun h2 => ?_, fun h2 => ⟨⟨by omega, by omega⟩, ⟨by omega, by omega⟩, ?_⟩⟩, fun h => by omega⟩
    · have := flatten_le l (i + 1)
      have h3 : ¬ l.flatten.length ≤ 400 := by omega
      rw [joinV_large h3]; exact ⟨rfl, rfl⟩
    · have := ih (i + 1) (by omega) (by omega) i3 i4 s5 l6 g7
      rw [ht] at this
      exact this
theorem r_Join (l : List (List UInt8)) (hl : l.length ≤ 140737488355328) : R_val_Join l (joinV l).1 (joinV l).2 := by
  apply val_Join_tree
  exact r_Join_loop l hl l.length 0 (by omega) (by simp) 0 0 [] [] 0
end Go.Proofs.YtkbdinocadoelaaDoor.M

/- What a call of a function yields, over plain data: a name for each. Printed by a program of this session (lift.py). -/
namespace Go.Proofs.YtkbdinocadoelaaDoor.M
open Go Classical
end Go.Proofs.YtkbdinocadoelaaDoor.M

/- The machine's code of the functions, printed by a program of this session (sc2.py) out of the translation. Not trusted: Lean checks each by its own computation. -/
namespace Go.Proofs.YtkbdinocadoelaaDoor.M
open Go
set_option linter.unusedVariables false
/-- doorkeeper/fun.rules -/
def c_fun_rules_1 : SC := .seq (.reg [⟨(some 45), none, (.v (.build [(.int .i64 0), (.int .i64 0), (.nils 1), .nili] []))⟩, ⟨none, none, (.store 4 (.t 2) (.t 45))⟩, ⟨(some 3), none, (.v (.mov (.c (.bool false))))⟩]) .ret
def c_fun_rules_2 : SC := .cond (.t 33) (.seq (.reg [⟨(some 35), none, (.bslice 1 1 [.nili] [(0, (.c (.func 38 [])))])⟩, ⟨(some 36), none, (.v (.build [(.int .i64 0), (.int .i64 0), (.nils 1), .nili] [(0, 1, (.c (.int .i64 1))), (1, 1, (.c (.int .i64 1))), (2, 1, (.t 35)), (3, 1, (.c (.func 51 [])))]))⟩, ⟨none, none, (.store 4 (.t 2) (.t 36))⟩, ⟨(some 3), none, (.v (.mov (.c (.bool true))))⟩]) .ret) (.seq (.reg [⟨(some 38), none, (.v (.bin .eql (.t 4) (.c (.str [104, 97, 115]))))⟩, ⟨(some 37), none, (.v (.mov (.t 38)))⟩]) (.cond (.t 37) (.seq (.reg [⟨(some 39), none, (.bslice 1 2 [.nili] [(0, (.c (.func 45 []))), (1, (.c (.func 52 [])))])⟩, ⟨(some 40), none, (.v (.build [(.int .i64 0), (.int .i64 0), (.nils 1), .nili] [(0, 1, (.c (.int .i64 2))), (1, 1, (.c (.int .i64 2))), (2, 1, (.t 39)), (3, 1, (.c (.func 53 [])))]))⟩, ⟨none, none, (.store 4 (.t 2) (.t 40))⟩, ⟨(some 3), none, (.v (.mov (.c (.bool true))))⟩]) .ret) (.seq (.reg [⟨(some 42), none, (.v (.bin .eql (.t 4) (.c (.str [116, 101, 120, 116]))))⟩, ⟨(some 41), none, (.v (.mov (.t 42)))⟩]) (.cond (.t 41) (.seq (.reg [⟨(some 43), none, (.bslice 1 1 [.nili] [(0, (.c (.func 52 [])))])⟩, ⟨(some 44), none, (.v (.build [(.int .i64 0), (.int .i64 0), (.nils 1), .nili] [(0, 1, (.c (.int .i64 1))), (1, 1, (.c (.int .i64 1))), (2, 1, (.t 43)), (3, 1, (.c (.func 54 [])))]))⟩, ⟨none, none, (.store 4 (.t 2) (.t 44))⟩, ⟨(some 3), none, (.v (.mov (.c (.bool true))))⟩]) .ret) .skip))))
def c_fun_rules_3 : SC := .cond (.t 29) (.seq (.reg [⟨(some 31), none, (.bslice 1 1 [.nili] [(0, (.c (.func 38 [])))])⟩, ⟨(some 32), none, (.v (.build [(.int .i64 0), (.int .i64 0), (.nils 1), .nili] [(0, 1, (.c (.int .i64 1))), (1, 1, (.c (.int .i64 1))), (2, 1, (.t 31)), (3, 1, (.c (.func 50 [])))]))⟩, ⟨none, none, (.store 4 (.t 2) (.t 32))⟩, ⟨(some 3), none, (.v (.mov (.c (.bool true))))⟩]) .ret) (.seq (.reg [⟨(some 34), none, (.v (.bin .eql (.t 4) (.c (.str [97, 98, 115]))))⟩, ⟨(some 33), none, (.v (.mov (.t 34)))⟩]) c_fun_rules_2)
def c_fun_rules_4 : SC := .cond (.t 25) (.seq (.reg [⟨(some 27), none, (.bslice 1 2 [.nili] [(0, (.c (.func 47 []))), (1, (.c (.func 48 [])))])⟩, ⟨(some 28), none, (.v (.build [(.int .i64 0), (.int .i64 0), (.nils 1), .nili] [(0, 1, (.c (.int .i64 2))), (1, 1, (.c (.int .i64 2))), (2, 1, (.t 27)), (3, 1, (.c (.func 49 [])))]))⟩, ⟨none, none, (.store 4 (.t 2) (.t 28))⟩, ⟨(some 3), none, (.v (.mov (.c (.bool true))))⟩]) .ret) (.seq (.reg [⟨(some 30), none, (.v (.bin .eql (.t 4) (.c (.str [114, 97, 110, 103, 101]))))⟩, ⟨(some 29), none, (.v (.mov (.t 30)))⟩]) c_fun_rules_3)
def c_fun_rules_5 : SC := .cond (.t 21) (.seq (.reg [⟨(some 23), none, (.bslice 1 1 [.nili] [(0, (.c (.func 45 [])))])⟩, ⟨(some 24), none, (.v (.build [(.int .i64 0), (.int .i64 0), (.nils 1), .nili] [(0, 1, (.c (.int .i64 1))), (1, 1, (.c (.int .i64 1073741824))), (2, 1, (.t 23)), (3, 1, (.c (.func 46 [])))]))⟩, ⟨none, none, (.store 4 (.t 2) (.t 24))⟩, ⟨(some 3), none, (.v (.mov (.c (.bool true))))⟩]) .ret) (.seq (.reg [⟨(some 26), none, (.v (.bin .eql (.t 4) (.c (.str [106, 111, 105, 110]))))⟩, ⟨(some 25), none, (.v (.mov (.t 26)))⟩]) c_fun_rules_4)
def c_fun_rules_6 : SC := .cond (.t 17) (.seq (.reg [⟨(some 19), none, (.bslice 1 1 [.nili] [(0, (.c (.func 43 [])))])⟩, ⟨(some 20), none, (.v (.build [(.int .i64 0), (.int .i64 0), (.nils 1), .nili] [(0, 1, (.c (.int .i64 1))), (1, 1, (.c (.int .i64 1))), (2, 1, (.t 19)), (3, 1, (.c (.func 44 [])))]))⟩, ⟨none, none, (.store 4 (.t 2) (.t 20))⟩, ⟨(some 3), none, (.v (.mov (.c (.bool true))))⟩]) .ret) (.seq (.reg [⟨(some 22), none, (.v (.bin .eql (.t 4) (.c (.str [99, 111, 110, 99, 97, 116]))))⟩, ⟨(some 21), none, (.v (.mov (.t 22)))⟩]) c_fun_rules_5)
def c_fun_rules_7 : SC := .cond (.t 13) (.seq (.reg [⟨(some 15), none, (.bslice 1 1 [.nili] [(0, (.c (.func 41 [])))])⟩, ⟨(some 16), none, (.v (.build [(.int .i64 0), (.int .i64 0), (.nils 1), .nili] [(0, 1, (.c (.int .i64 1))), (1, 1, (.c (.int .i64 1))), (2, 1, (.t 15)), (3, 1, (.c (.func 42 [])))]))⟩, ⟨none, none, (.store 4 (.t 2) (.t 16))⟩, ⟨(some 3), none, (.v (.mov (.c (.bool true))))⟩]) .ret) (.seq (.reg [⟨(some 18), none, (.v (.bin .eql (.t 4) (.c (.str [108, 101, 110]))))⟩, ⟨(some 17), none, (.v (.mov (.t 18)))⟩]) c_fun_rules_6)
def c_fun_rules_8 : SC := .cond (.t 9) (.seq (.reg [⟨(some 11), none, (.bslice 1 1 [.nili] [(0, (.c (.func 38 [])))])⟩, ⟨(some 12), none, (.v (.build [(.int .i64 0), (.int .i64 0), (.nils 1), .nili] [(0, 1, (.c (.int .i64 1))), (1, 1, (.c (.int .i64 1073741824))), (2, 1, (.t 11)), (3, 1, (.c (.func 40 [])))]))⟩, ⟨none, none, (.store 4 (.t 2) (.t 12))⟩, ⟨(some 3), none, (.v (.mov (.c (.bool true))))⟩]) .ret) (.seq (.reg [⟨(some 14), none, (.v (.bin .eql (.t 4) (.c (.str [115, 117, 109]))))⟩, ⟨(some 13), none, (.v (.mov (.t 14)))⟩]) c_fun_rules_7)
def c_fun_rules_9 : SC := .cond (.t 5) (.seq (.reg [⟨(some 7), none, (.bslice 1 1 [.nili] [(0, (.c (.func 38 [])))])⟩, ⟨(some 8), none, (.v (.build [(.int .i64 0), (.int .i64 0), (.nils 1), .nili] [(0, 1, (.c (.int .i64 1))), (1, 1, (.c (.int .i64 1073741824))), (2, 1, (.t 7)), (3, 1, (.c (.func 39 [])))]))⟩, ⟨none, none, (.store 4 (.t 2) (.t 8))⟩, ⟨(some 3), none, (.v (.mov (.c (.bool true))))⟩]) .ret) (.seq (.reg [⟨(some 10), none, (.v (.bin .eql (.t 4) (.c (.str [109, 97, 120]))))⟩, ⟨(some 9), none, (.v (.mov (.t 10)))⟩]) c_fun_rules_8)
def c_fun_rules_10 : SC := .block 0 (.seq (.reg [⟨(some 6), none, (.v (.bin .eql (.t 4) (.c (.str [109, 105, 110]))))⟩, ⟨(some 5), none, (.v (.mov (.t 6)))⟩]) c_fun_rules_9)
def c_fun_rules_11 : SC := .seq (.seq (.reg [⟨(some 4), none, (.v (.mov (.t 0)))⟩]) c_fun_rules_10) c_fun_rules_1
def sc_fun_rules : SFunc := ⟨1, 46, .seq (.reg [⟨(some 2), none, (.alloc [(.int .i64 0), (.int .i64 0), (.nils 1), .nili])⟩, ⟨(some 3), none, (.v (.mov (.c (.bool false))))⟩]) c_fun_rules_11, [(.cell 2 (some 4)), (.t 3)]⟩
theorem U_fun_rules : type_of% (And.intro (fun (SP : Prg) (ac : Ac) => congrFun (congrArg (E SP) c_fun_rules_1.eq_1) ac) <| And.intro (fun (SP : Prg) (ac : Ac) => congrFun (congrArg (E SP) c_fun_rules_2.eq_1) ac) <| And.intro (fun (SP : Prg) (ac : Ac) => congrFun (congrArg (E SP) c_fun_rules_3.eq_1) ac) <| And.intro (fun (SP : Prg) (ac : Ac) => congrFun (congrArg (E SP) c_fun_rules_4.eq_1) ac) <| And.intro (fun (SP : Prg) (ac : Ac) => congrFun (congrArg (E SP) c_fun_rules_5.eq_1) ac) <| And.intro (fun (SP : Prg) (ac : Ac) => congrFun (congrArg (E SP) c_fun_rules_6.eq_1) ac) <| And.intro (fun (SP : Prg) (ac : Ac) => congrFun (congrArg (E SP) c_fun_rules_7.eq_1) ac) <| And.intro (fun (SP : Prg) (ac : Ac) => congrFun (congrArg (E SP) c_fun_rules_8.eq_1) ac) <| And.intro (fun (SP : Prg) (ac : Ac) => congrFun (congrArg (E SP) c_fun_rules_9.eq_1) ac) <| And.intro (fun (SP : Prg) (ac : Ac) => congrFun (congrArg (E SP) c_fun_rules_10.eq_1) ac) <| And.intro (fun (SP : Prg) (ac : Ac) => congrFun (congrArg (E SP) c_fun_rules_11.eq_1) ac) <| sc_fun_rules.eq_1) := And.intro (fun (SP : Prg) (ac : Ac) => congrFun (congrArg (E SP) c_fun_rules_1.eq_1) ac) <| And.intro (fun (SP : Prg) (ac : Ac) => congrFun (congrArg (E SP) c_fun_rules_2.eq_1) ac) <| And.intro (fun (SP : Prg) (ac : Ac) => congrFun (congrArg (E SP) c_fun_rules_3.eq_1) ac) <| And.intro (fun (SP : Prg) (ac : Ac) => congrFun (congrArg (E SP) c_fun_rules_4.eq_1) ac) <| And.intro (fun (SP : Prg) (ac : Ac) => congrFun (congrArg (E SP) c_fun_rules_5.eq_1) ac) <| And.intro (fun (SP : Prg) (ac : Ac) => congrFun (congrArg (E SP) c_fun_rules_6.eq_1) ac) <| And.intro (fun (SP : Prg) (ac : Ac) => congrFun (congrArg (E SP) c_fun_rules_7.eq_1) ac) <| And.intro (fun (SP : Prg) (ac : Ac) => congrFun (congrArg (E SP) c_fun_rules_8.eq_1) ac) <| And.intro (fun (SP : Prg) (ac : Ac) => congrFun (congrArg (E SP) c_fun_rules_9.eq_1) ac) <| And.intro (fun (SP : Prg) (ac : Ac) => congrFun (congrArg (E SP) c_fun_rules_10.eq_1) ac) <| And.intro (fun (SP : Prg) (ac : Ac) => congrFun (congrArg (E SP) c_fun_rules_11.eq_1) ac) <| sc_fun_rules.eq_1
theorem comp_fun_rules : comp Tryd.prog Tryd.f23 = some sc_fun_rules := by kernel_rfl
/-- doorkeeper/fun.number -/
def sc_fun_number : SFunc := ⟨1, 6, .seq (.reg [⟨(some 1), none, (.box (.t 0))⟩, ⟨(some 2), none, (.v (.mov (.c (.bool false))))⟩]) (.seq (.reg [⟨(some 3), none, (.v (.faddr 0 (.t 1)))⟩, ⟨(some 4), none, (.v (.load none (.t 3)))⟩, ⟨(some 5), none, (.v (.bin .eql (.t 4) (.c (.int .i64 1))))⟩, ⟨(some 2), none, (.v (.mov (.t 5)))⟩]) .ret), [(.t 2)]⟩
theorem U_fun_number : type_of% (sc_fun_number.eq_1) := sc_fun_number.eq_1
theorem comp_fun_number : comp Tryd.prog Tryd.f38 = some sc_fun_number := by kernel_rfl
/-- doorkeeper/fun.list -/
def sc_fun_list : SFunc := ⟨1, 6, .seq (.reg [⟨(some 1), none, (.box (.t 0))⟩, ⟨(some 2), none, (.v (.mov (.c (.bool false))))⟩]) (.seq (.reg [⟨(some 3), none, (.v (.faddr 0 (.t 1)))⟩, ⟨(some 4), none, (.v (.load none (.t 3)))⟩, ⟨(some 5), none, (.v (.bin .eql (.t 4) (.c (.int .i64 4))))⟩, ⟨(some 2), none, (.v (.mov (.t 5)))⟩]) .ret), [(.t 2)]⟩
theorem U_fun_list : type_of% (sc_fun_list.eq_1) := sc_fun_list.eq_1
theorem comp_fun_list : comp Tryd.prog Tryd.f45 = some sc_fun_list := by kernel_rfl
/-- doorkeeper/fun.text -/
def sc_fun_text : SFunc := ⟨1, 6, .seq (.reg [⟨(some 1), none, (.box (.t 0))⟩, ⟨(some 2), none, (.v (.mov (.c (.bool false))))⟩]) (.seq (.reg [⟨(some 3), none, (.v (.faddr 0 (.t 1)))⟩, ⟨(some 4), none, (.v (.load none (.t 3)))⟩, ⟨(some 5), none, (.v (.bin .eql (.t 4) (.c (.int .i64 2))))⟩, ⟨(some 2), none, (.v (.mov (.t 5)))⟩]) .ret), [(.t 2)]⟩
theorem U_fun_text : type_of% (sc_fun_text.eq_1) := sc_fun_text.eq_1
theorem comp_fun_text : comp Tryd.prog Tryd.f47 = some sc_fun_text := by kernel_rfl
/-- doorkeeper/fun.any -/
def sc_fun_any : SFunc := ⟨1, 3, .seq (.reg [⟨(some 1), none, (.box (.t 0))⟩, ⟨(some 2), none, (.v (.mov (.c (.bool false))))⟩]) (.seq (.reg [⟨(some 2), none, (.v (.mov (.c (.bool true))))⟩]) .ret), [(.t 2)]⟩
theorem U_fun_any : type_of% (sc_fun_any.eq_1) := sc_fun_any.eq_1
theorem comp_fun_any : comp Tryd.prog Tryd.f52 = some sc_fun_any := by kernel_rfl
/-- doorkeeper/fun.each$1 -/
def sc_fun_each_1 : SFunc := ⟨2, 8, .seq (.reg [⟨(some 2), none, (.box (.t 0))⟩, ⟨(some 3), none, (.v (.mov (.c (.bool false))))⟩]) (.seq (.reg [⟨(some 4), none, (.v (.load none (.t 1)))⟩, ⟨(some 5), none, (.v (.load (some 4) (.t 2)))⟩, ⟨(some 6), none, (.call (.t 4) [(.t 5)])⟩, ⟨(some 7), none, (.v (.un .not (.t 6)))⟩, ⟨(some 3), none, (.v (.mov (.t 7)))⟩]) .ret), [(.t 3)]⟩
theorem U_fun_each_1 : type_of% (sc_fun_each_1.eq_1) := sc_fun_each_1.eq_1
theorem comp_fun_each_1 : comp Tryd.prog Tryd.f70 = some sc_fun_each_1 := by kernel_rfl
/-- doorkeeper/fun.each -/
def sc_fun_each : SFunc := ⟨2, 14, .seq (.reg [⟨(some 2), none, (.box (.t 0))⟩, ⟨(some 3), none, (.box (.t 1))⟩, ⟨(some 4), none, (.v (.mov (.c (.bool false))))⟩]) (.seq (.reg [⟨(some 5), none, (.v (.load (some 4) (.t 2)))⟩, ⟨(some 6), none, (.call (.c (.func 45 [])) [(.t 5)])⟩, ⟨(some 7), none, (.v (.mov (.t 6)))⟩, ⟨(some 8), (some (7, true)), (.v (.faddr 3 (.t 2)))⟩, ⟨(some 9), (some (7, true)), (.v (.load none (.t 8)))⟩, ⟨(some 10), (some (7, true)), (.v (.func 70 [(.t 3)]))⟩, ⟨(some 11), (some (7, true)), (.call (.c (.func 66 [])) [(.t 9), (.t 10)])⟩, ⟨(some 12), (some (7, true)), (.v (.un .not (.t 11)))⟩, ⟨(some 13), none, (.v (.pick (.t 7) (.t 12) (.c (.bool false))))⟩, ⟨(some 4), none, (.v (.mov (.t 13)))⟩]) .ret), [(.t 4)]⟩
theorem U_fun_each : type_of% (sc_fun_each.eq_1) := sc_fun_each.eq_1
theorem comp_fun_each : comp Tryd.prog Tryd.f59 = some sc_fun_each := by kernel_rfl
/-- doorkeeper/fun.numbers -/
def sc_fun_numbers : SFunc := ⟨1, 5, .seq (.reg [⟨(some 1), none, (.box (.t 0))⟩, ⟨(some 2), none, (.v (.mov (.c (.bool false))))⟩]) (.seq (.reg [⟨(some 3), none, (.v (.load (some 4) (.t 1)))⟩, ⟨(some 4), none, (.call (.c (.func 59 [])) [(.t 3), (.c (.func 38 []))])⟩, ⟨(some 2), none, (.v (.mov (.t 4)))⟩]) .ret), [(.t 2)]⟩
theorem U_fun_numbers : type_of% (sc_fun_numbers.eq_1) := sc_fun_numbers.eq_1
theorem comp_fun_numbers : comp Tryd.prog Tryd.f41 = some sc_fun_numbers := by kernel_rfl
/-- doorkeeper/fun.texts -/
def sc_fun_texts : SFunc := ⟨1, 5, .seq (.reg [⟨(some 1), none, (.box (.t 0))⟩, ⟨(some 2), none, (.v (.mov (.c (.bool false))))⟩]) (.seq (.reg [⟨(some 3), none, (.v (.load (some 4) (.t 1)))⟩, ⟨(some 4), none, (.call (.c (.func 59 [])) [(.t 3), (.c (.func 47 []))])⟩, ⟨(some 2), none, (.v (.mov (.t 4)))⟩]) .ret), [(.t 2)]⟩
theorem U_fun_texts : type_of% (sc_fun_texts.eq_1) := sc_fun_texts.eq_1
theorem comp_fun_texts : comp Tryd.prog Tryd.f48 = some sc_fun_texts := by kernel_rfl
/-- doorkeeper/fun.long -/
def sc_fun_long : SFunc := ⟨1, 9, .seq (.reg [⟨(some 1), none, (.box (.t 0))⟩, ⟨(some 2), none, (.v (.mov (.c (.bool false))))⟩]) (.seq (.reg [⟨(some 3), none, (.v (.load (some 4) (.t 1)))⟩, ⟨(some 4), none, (.call (.c (.func 45 [])) [(.t 3)])⟩, ⟨(some 5), none, (.v (.mov (.t 4)))⟩, ⟨(some 6), (some (5, false)), (.v (.load (some 4) (.t 1)))⟩, ⟨(some 7), (some (5, false)), (.call (.c (.func 47 [])) [(.t 6)])⟩, ⟨(some 8), none, (.v (.pick (.t 5) (.c (.bool true)) (.t 7)))⟩, ⟨(some 2), none, (.v (.mov (.t 8)))⟩]) .ret), [(.t 2)]⟩
theorem U_fun_long : type_of% (sc_fun_long.eq_1) := sc_fun_long.eq_1
theorem comp_fun_long : comp Tryd.prog Tryd.f43 = some sc_fun_long := by kernel_rfl
/-- doorkeeper/fun.best -/
def c_fun_best_1 : SC := .seq (.reg [⟨(some 27), none, (.v (.load (some 4) (.t 6)))⟩, ⟨none, none, (.store 4 (.t 4) (.t 27))⟩, ⟨(some 5), none, (.v (.mov (.c (.int .i64 0))))⟩]) .ret
def b_fun_best_1 : SC := .seq (.reg [⟨(some 16), none, (.v (.bin .lss (.t 15) (.t 14)))⟩]) (.seq (.cond (.t 16) .skip (.exit 0)) (.seq (.block 1 (.seq (.reg [⟨(some 17), none, (.v (.iaddr 4 (.t 13) (.t 15)))⟩, ⟨(some 18), none, (.v (.load (some 4) (.t 17)))⟩, ⟨(some 8), none, (.alloc [(.int .i64 0), (.int .i64 0), (.str []), (.nils 4)])⟩, ⟨none, none, (.store 4 (.t 8) (.t 18))⟩]) (.seq (.reg [⟨(some 19), none, (.v (.mov (.t 0)))⟩, ⟨(some 20), none, (.v (.faddr 1 (.t 8)))⟩, ⟨(some 21), none, (.v (.load none (.t 20)))⟩, ⟨(some 22), none, (.v (.faddr 1 (.t 6)))⟩, ⟨(some 23), none, (.v (.load none (.t 22)))⟩, ⟨(some 24), none, (.call (.t 19) [(.t 21), (.t 23)])⟩]) (.cond (.t 24) (.reg [⟨(some 25), none, (.v (.load (some 4) (.t 8)))⟩, ⟨none, none, (.store 4 (.t 6) (.t 25))⟩]) .skip)))) (.reg [⟨(some 26), none, (.v (.bin .add (.t 15) (.c (.int .i64 1))))⟩, ⟨(some 15), none, (.v (.mov (.t 26)))⟩])))
def c_fun_best_2 : SC := .seq (.seq (.reg [⟨(some 12), none, (.v (.mov (.t 1)))⟩, ⟨(some 13), none, (.v (.slc 4 (.t 12) (some (.c (.int .i64 1))) none none))⟩, ⟨(some 14), none, (.v (.len false (.t 13)))⟩, ⟨(some 15), none, (.v (.mov (.c (.int .i64 0))))⟩]) (.block 0 (.loop b_fun_best_1))) c_fun_best_1
def c_fun_best_3 : SC := .seq (.reg [⟨(some 9), none, (.v (.mov (.t 1)))⟩, ⟨(some 10), none, (.v (.iaddr 4 (.t 9) (.c (.int .i64 0))))⟩, ⟨(some 11), none, (.v (.load (some 4) (.t 10)))⟩, ⟨(some 6), none, (.alloc [(.int .i64 0), (.int .i64 0), (.str []), (.nils 4)])⟩, ⟨none, none, (.store 4 (.t 6) (.t 11))⟩]) c_fun_best_2
def sc_fun_best : SFunc := ⟨2, 28, .seq (.reg [⟨(some 4), none, (.alloc [(.int .i64 0), (.int .i64 0), (.str []), (.nils 4)])⟩, ⟨(some 5), none, (.v (.mov (.c (.int .i64 0))))⟩]) c_fun_best_3, [(.cell 4 (some 4)), (.t 5)]⟩
noncomputable def k_fun_best_1 (SP : Prg) (x : EO) : CO := fin [(.cell 4 (some 4)), (.t 5)] (thC SP (inBlk 0 (x)) c_fun_best_1)
theorem U_fun_best : type_of% (And.intro (fun (SP : Prg) (ac : Ac) => congrFun (congrArg (E SP) c_fun_best_1.eq_1) ac) <| And.intro (fun (SP : Prg) (ac : Ac) => congrFun (congrArg (E SP) b_fun_best_1.eq_1) ac) <| And.intro (fun (SP : Prg) (ac : Ac) => congrFun (congrArg (E SP) c_fun_best_2.eq_1) ac) <| And.intro (fun (SP : Prg) (ac : Ac) => congrFun (congrArg (E SP) c_fun_best_3.eq_1) ac) <| sc_fun_best.eq_1) := And.intro (fun (SP : Prg) (ac : Ac) => congrFun (congrArg (E SP) c_fun_best_1.eq_1) ac) <| And.intro (fun (SP : Prg) (ac : Ac) => congrFun (congrArg (E SP) b_fun_best_1.eq_1) ac) <| And.intro (fun (SP : Prg) (ac : Ac) => congrFun (congrArg (E SP) c_fun_best_2.eq_1) ac) <| And.intro (fun (SP : Prg) (ac : Ac) => congrFun (congrArg (E SP) c_fun_best_3.eq_1) ac) <| sc_fun_best.eq_1
theorem comp_fun_best : comp Tryd.prog Tryd.f56 = some sc_fun_best := by kernel_rfl
/-- doorkeeper/fun.least$1 -/
def sc_fun_least_1 : SFunc := ⟨2, 8, .seq (.reg [⟨(some 4), none, (.v (.mov (.c (.bool false))))⟩]) (.seq (.reg [⟨(some 5), none, (.v (.mov (.t 0)))⟩, ⟨(some 6), none, (.v (.mov (.t 1)))⟩, ⟨(some 7), none, (.v (.bin .lss (.t 5) (.t 6)))⟩, ⟨(some 4), none, (.v (.mov (.t 7)))⟩]) .ret), [(.t 4)]⟩
theorem U_fun_least_1 : type_of% (sc_fun_least_1.eq_1) := sc_fun_least_1.eq_1
theorem comp_fun_least_1 : comp Tryd.prog Tryd.f57 = some sc_fun_least_1 := by kernel_rfl
/-- doorkeeper/fun.least -/
def sc_fun_least : SFunc := ⟨1, 8, .seq (.reg [⟨(some 2), none, (.alloc [(.int .i64 0), (.int .i64 0), (.str []), (.nils 4)])⟩, ⟨(some 3), none, (.v (.mov (.c (.int .i64 0))))⟩]) (.seq (.reg [⟨(some 4), none, (.v (.mov (.t 0)))⟩, ⟨(some 5), none, (.call (.c (.func 56 [])) [(.c (.func 57 [])), (.t 4)])⟩, ⟨(some 6), none, (.v (.extract 0 (.t 5)))⟩, ⟨(some 7), none, (.v (.extract 1 (.t 5)))⟩, ⟨none, none, (.store 4 (.t 2) (.t 6))⟩, ⟨(some 3), none, (.v (.mov (.t 7)))⟩]) .ret), [(.cell 2 (some 4)), (.t 3)]⟩
theorem U_fun_least : type_of% (sc_fun_least.eq_1) := sc_fun_least.eq_1
theorem comp_fun_least : comp Tryd.prog Tryd.f39 = some sc_fun_least := by kernel_rfl
/-- doorkeeper/fun.greatest$1 -/
def sc_fun_greatest_1 : SFunc := ⟨2, 8, .seq (.reg [⟨(some 4), none, (.v (.mov (.c (.bool false))))⟩]) (.seq (.reg [⟨(some 5), none, (.v (.mov (.t 0)))⟩, ⟨(some 6), none, (.v (.mov (.t 1)))⟩, ⟨(some 7), none, (.v (.bin .gtr (.t 5) (.t 6)))⟩, ⟨(some 4), none, (.v (.mov (.t 7)))⟩]) .ret), [(.t 4)]⟩
theorem U_fun_greatest_1 : type_of% (sc_fun_greatest_1.eq_1) := sc_fun_greatest_1.eq_1
theorem comp_fun_greatest_1 : comp Tryd.prog Tryd.f58 = some sc_fun_greatest_1 := by kernel_rfl
/-- doorkeeper/fun.greatest -/
def sc_fun_greatest : SFunc := ⟨1, 8, .seq (.reg [⟨(some 2), none, (.alloc [(.int .i64 0), (.int .i64 0), (.str []), (.nils 4)])⟩, ⟨(some 3), none, (.v (.mov (.c (.int .i64 0))))⟩]) (.seq (.reg [⟨(some 4), none, (.v (.mov (.t 0)))⟩, ⟨(some 5), none, (.call (.c (.func 56 [])) [(.c (.func 58 [])), (.t 4)])⟩, ⟨(some 6), none, (.v (.extract 0 (.t 5)))⟩, ⟨(some 7), none, (.v (.extract 1 (.t 5)))⟩, ⟨none, none, (.store 4 (.t 2) (.t 6))⟩, ⟨(some 3), none, (.v (.mov (.t 7)))⟩]) .ret), [(.cell 2 (some 4)), (.t 3)]⟩
theorem U_fun_greatest : type_of% (sc_fun_greatest.eq_1) := sc_fun_greatest.eq_1
theorem comp_fun_greatest : comp Tryd.prog Tryd.f40 = some sc_fun_greatest := by kernel_rfl
/-- doorkeeper/fun.sum -/
def c_fun_sum_1 : SC := .seq (.reg [⟨(some 31), none, (.v (.load (some 4) (.t 4)))⟩, ⟨none, none, (.store 4 (.t 2) (.t 31))⟩, ⟨(some 3), none, (.v (.mov (.c (.int .i64 0))))⟩]) .ret
def b_fun_sum_1 : SC := .seq (.reg [⟨(some 16), none, (.v (.bin .lss (.t 15) (.t 14)))⟩]) (.seq (.cond (.t 16) .skip (.exit 0)) (.seq (.block 1 (.seq (.reg [⟨(some 17), none, (.v (.iaddr 4 (.t 13) (.t 15)))⟩, ⟨(some 18), none, (.v (.load (some 4) (.t 17)))⟩, ⟨(some 6), none, (.alloc [(.int .i64 0), (.int .i64 0), (.str []), (.nils 4)])⟩, ⟨none, none, (.store 4 (.t 6) (.t 18))⟩]) (.seq (.reg [⟨(some 20), none, (.v (.load (some 4) (.t 4)))⟩, ⟨(some 21), none, (.v (.load (some 4) (.t 6)))⟩, ⟨(some 22), none, (.call (.c (.func 61 [])) [(.c (.int .i64 19)), (.t 20), (.t 21)])⟩, ⟨(some 19), none, (.v (.mov (.t 22)))⟩, ⟨(some 23), none, (.v (.extract 0 (.t 19)))⟩, ⟨(some 24), none, (.v (.extract 1 (.t 19)))⟩, ⟨(some 7), none, (.alloc [(.int .i64 0), (.int .i64 0), (.str []), (.nils 4)])⟩, ⟨none, none, (.store 4 (.t 7) (.t 23))⟩, ⟨(some 8), none, (.v (.mov (.t 24)))⟩]) (.seq (.seq (.reg [⟨(some 25), none, (.v (.mov (.t 8)))⟩, ⟨(some 26), none, (.v (.bin .neq (.t 25) (.c (.int .i64 0))))⟩]) (.cond (.t 26) (.seq (.reg [⟨(some 27), none, (.v (.build [(.int .i64 0), (.int .i64 0), (.str []), (.nils 4)] []))⟩, ⟨(some 28), none, (.v (.mov (.t 8)))⟩, ⟨none, none, (.store 4 (.t 2) (.t 27))⟩, ⟨(some 3), none, (.v (.mov (.t 28)))⟩]) .ret) .skip)) (.reg [⟨(some 29), none, (.v (.load (some 4) (.t 7)))⟩, ⟨none, none, (.store 4 (.t 4) (.t 29))⟩]))))) (.reg [⟨(some 30), none, (.v (.bin .add (.t 15) (.c (.int .i64 1))))⟩, ⟨(some 15), none, (.v (.mov (.t 30)))⟩])))
def c_fun_sum_2 : SC := .block 0 (.loop b_fun_sum_1)
def c_fun_sum_3 : SC := .seq (.seq (.reg [⟨(some 10), none, (.v (.mov (.t 0)))⟩, ⟨(some 11), none, (.v (.iaddr 4 (.t 10) (.c (.int .i64 0))))⟩, ⟨(some 12), none, (.v (.faddr 3 (.t 11)))⟩, ⟨(some 13), none, (.v (.load none (.t 12)))⟩, ⟨(some 14), none, (.v (.len false (.t 13)))⟩, ⟨(some 15), none, (.v (.mov (.c (.int .i64 0))))⟩]) c_fun_sum_2) c_fun_sum_1
def c_fun_sum_4 : SC := .seq (.reg [⟨(some 9), none, (.call (.c (.func 60 [])) [(.c (.int .i64 0))])⟩, ⟨(some 4), none, (.alloc [(.int .i64 0), (.int .i64 0), (.str []), (.nils 4)])⟩, ⟨none, none, (.store 4 (.t 4) (.t 9))⟩]) c_fun_sum_3
def sc_fun_sum : SFunc := ⟨1, 32, .seq (.reg [⟨(some 2), none, (.alloc [(.int .i64 0), (.int .i64 0), (.str []), (.nils 4)])⟩, ⟨(some 3), none, (.v (.mov (.c (.int .i64 0))))⟩]) c_fun_sum_4, [(.cell 2 (some 4)), (.t 3)]⟩
noncomputable def k_fun_sum_1 (SP : Prg) (x : EO) : CO := fin [(.cell 2 (some 4)), (.t 3)] (thC SP (inBlk 0 (x)) c_fun_sum_1)
theorem U_fun_sum : type_of% (And.intro (fun (SP : Prg) (ac : Ac) => congrFun (congrArg (E SP) c_fun_sum_1.eq_1) ac) <| And.intro (fun (SP : Prg) (ac : Ac) => congrFun (congrArg (E SP) b_fun_sum_1.eq_1) ac) <| And.intro (fun (SP : Prg) (ac : Ac) => congrFun (congrArg (E SP) c_fun_sum_2.eq_1) ac) <| And.intro (fun (SP : Prg) (ac : Ac) => congrFun (congrArg (E SP) c_fun_sum_3.eq_1) ac) <| And.intro (fun (SP : Prg) (ac : Ac) => congrFun (congrArg (E SP) c_fun_sum_4.eq_1) ac) <| sc_fun_sum.eq_1) := And.intro (fun (SP : Prg) (ac : Ac) => congrFun (congrArg (E SP) c_fun_sum_1.eq_1) ac) <| And.intro (fun (SP : Prg) (ac : Ac) => congrFun (congrArg (E SP) b_fun_sum_1.eq_1) ac) <| And.intro (fun (SP : Prg) (ac : Ac) => congrFun (congrArg (E SP) c_fun_sum_2.eq_1) ac) <| And.intro (fun (SP : Prg) (ac : Ac) => congrFun (congrArg (E SP) c_fun_sum_3.eq_1) ac) <| And.intro (fun (SP : Prg) (ac : Ac) => congrFun (congrArg (E SP) c_fun_sum_4.eq_1) ac) <| sc_fun_sum.eq_1
theorem comp_fun_sum : comp Tryd.prog Tryd.f42 = some sc_fun_sum := by kernel_rfl
/-- doorkeeper/fun.length -/
def sc_fun_length : SFunc := ⟨1, 16, .seq (.reg [⟨(some 2), none, (.alloc [(.int .i64 0), (.int .i64 0), (.str []), (.nils 4)])⟩, ⟨(some 3), none, (.v (.mov (.c (.int .i64 0))))⟩]) (.seq (.dreg [⟨(some 4), none, (.v (.mov (.t 0)))⟩, ⟨(some 5), none, (.v (.iaddr 4 (.t 4) (.c (.int .i64 0))))⟩, ⟨(some 6), none, (.v (.faddr 3 (.t 5)))⟩, ⟨(some 7), none, (.v (.load none (.t 6)))⟩, ⟨(some 8), none, (.v (.len false (.t 7)))⟩, ⟨(some 9), none, (.v (.mov (.t 0)))⟩, ⟨(some 10), none, (.v (.iaddr 4 (.t 9) (.c (.int .i64 0))))⟩, ⟨(some 11), none, (.v (.faddr 2 (.t 10)))⟩, ⟨(some 12), none, (.v (.load none (.t 11)))⟩, ⟨(some 13), none, (.v (.len true (.t 12)))⟩, ⟨(some 14), none, (.v (.bin .add (.t 8) (.t 13)))⟩, ⟨(some 15), none, (.call (.c (.func 60 [])) [(.t 14)])⟩, ⟨none, none, (.store 4 (.t 2) (.t 15))⟩, ⟨(some 3), none, (.v (.mov (.c (.int .i64 0))))⟩] [false, false, false, false, false, false, false, false, false, false, true, true, true, true]) .ret), [(.cell 2 (some 4)), (.t 3)]⟩
theorem U_fun_length : type_of% (sc_fun_length.eq_1) := sc_fun_length.eq_1
theorem comp_fun_length : comp Tryd.prog Tryd.f44 = some sc_fun_length := by kernel_rfl
/-- doorkeeper/fun.concat -/
def c_fun_concat_1 : SC := .seq (.reg [⟨(some 18), none, (.v (.mov (.t 4)))⟩, ⟨(some 19), none, (.call (.c (.func 62 [])) [(.t 18)])⟩, ⟨(some 20), none, (.v (.extract 0 (.t 19)))⟩, ⟨(some 21), none, (.v (.extract 1 (.t 19)))⟩, ⟨none, none, (.store 4 (.t 2) (.t 20))⟩, ⟨(some 3), none, (.v (.mov (.t 21)))⟩]) .ret
def b_fun_concat_1 : SC := .seq (.reg [⟨(some 10), none, (.v (.bin .lss (.t 9) (.t 8)))⟩]) (.seq (.cond (.t 10) .skip (.exit 0)) (.seq (.block 1 (.seq (.reg [⟨(some 11), none, (.v (.iaddr 4 (.t 7) (.t 9)))⟩, ⟨(some 12), none, (.v (.load (some 4) (.t 11)))⟩, ⟨(some 6), none, (.alloc [(.int .i64 0), (.int .i64 0), (.str []), (.nils 4)])⟩, ⟨none, none, (.store 4 (.t 6) (.t 12))⟩]) (.reg [⟨(some 13), none, (.v (.mov (.t 4)))⟩, ⟨(some 14), none, (.v (.faddr 3 (.t 6)))⟩, ⟨(some 15), none, (.v (.load none (.t 14)))⟩, ⟨(some 16), none, (.append 4 56 (.t 13) (.t 15))⟩, ⟨(some 4), none, (.v (.mov (.t 16)))⟩]))) (.reg [⟨(some 17), none, (.v (.bin .add (.t 9) (.c (.int .i64 1))))⟩, ⟨(some 9), none, (.v (.mov (.t 17)))⟩])))
def sc_fun_concat : SFunc := ⟨1, 22, .seq (.reg [⟨(some 2), none, (.alloc [(.int .i64 0), (.int .i64 0), (.str []), (.nils 4)])⟩, ⟨(some 3), none, (.v (.mov (.c (.int .i64 0))))⟩]) (.seq (.reg [⟨(some 4), none, (.nilv 4)⟩]) (.seq (.seq (.reg [⟨(some 7), none, (.v (.mov (.t 0)))⟩, ⟨(some 8), none, (.v (.len false (.t 7)))⟩, ⟨(some 9), none, (.v (.mov (.c (.int .i64 0))))⟩]) (.block 0 (.loop b_fun_concat_1))) c_fun_concat_1)), [(.cell 2 (some 4)), (.t 3)]⟩
noncomputable def k_fun_concat_1 (SP : Prg) (x : EO) : CO := fin [(.cell 2 (some 4)), (.t 3)] (thC SP (inBlk 0 (x)) c_fun_concat_1)
theorem U_fun_concat : type_of% (And.intro (fun (SP : Prg) (ac : Ac) => congrFun (congrArg (E SP) c_fun_concat_1.eq_1) ac) <| And.intro (fun (SP : Prg) (ac : Ac) => congrFun (congrArg (E SP) b_fun_concat_1.eq_1) ac) <| sc_fun_concat.eq_1) := And.intro (fun (SP : Prg) (ac : Ac) => congrFun (congrArg (E SP) c_fun_concat_1.eq_1) ac) <| And.intro (fun (SP : Prg) (ac : Ac) => congrFun (congrArg (E SP) b_fun_concat_1.eq_1) ac) <| sc_fun_concat.eq_1
theorem comp_fun_concat : comp Tryd.prog Tryd.f46 = some sc_fun_concat := by kernel_rfl
/-- doorkeeper/fun.join -/
def c_fun_join_1 : SC := .seq (.reg [⟨(some 32), none, (.v (.mov (.t 4)))⟩, ⟨(some 33), none, (.call (.c (.func 63 [])) [(.t 32)])⟩, ⟨(some 34), none, (.v (.extract 0 (.t 33)))⟩, ⟨(some 35), none, (.v (.extract 1 (.t 33)))⟩, ⟨none, none, (.store 4 (.t 2) (.t 34))⟩, ⟨(some 3), none, (.v (.mov (.t 35)))⟩]) .ret
def b_fun_join_1 : SC := .seq (.reg [⟨(some 13), none, (.v (.bin .lss (.t 12) (.t 11)))⟩]) (.seq (.cond (.t 13) .skip (.exit 0)) (.seq (.block 1 (.seq (.reg [⟨(some 14), none, (.v (.mov (.t 12)))⟩, ⟨(some 15), none, (.v (.iaddr 4 (.t 10) (.t 12)))⟩, ⟨(some 16), none, (.v (.load (some 4) (.t 15)))⟩, ⟨(some 6), none, (.alloc [(.int .i64 0), (.int .i64 0), (.str []), (.nils 4)])⟩, ⟨(some 5), none, (.v (.mov (.t 14)))⟩, ⟨none, none, (.store 4 (.t 6) (.t 16))⟩]) (.seq (.seq (.reg [⟨(some 17), none, (.v (.mov (.t 5)))⟩, ⟨(some 18), none, (.v (.bin .gtr (.t 17) (.c (.int .i64 0))))⟩]) (.cond (.t 18) (.reg [⟨(some 19), none, (.v (.mov (.t 4)))⟩, ⟨(some 20), none, (.v (.mov (.t 0)))⟩, ⟨(some 21), none, (.v (.iaddr 4 (.t 20) (.c (.int .i64 0))))⟩, ⟨(some 22), none, (.v (.faddr 2 (.t 21)))⟩, ⟨(some 23), none, (.v (.load none (.t 22)))⟩, ⟨(some 24), none, (.bslice 1 1 [(.str [])] [(0, (.t 23))])⟩, ⟨(some 25), none, (.append 1 16 (.t 19) (.t 24))⟩, ⟨(some 4), none, (.v (.mov (.t 25)))⟩]) .skip)) (.reg [⟨(some 26), none, (.v (.mov (.t 4)))⟩, ⟨(some 27), none, (.v (.faddr 2 (.t 6)))⟩, ⟨(some 28), none, (.v (.load none (.t 27)))⟩, ⟨(some 29), none, (.bslice 1 1 [(.str [])] [(0, (.t 28))])⟩, ⟨(some 30), none, (.append 1 16 (.t 26) (.t 29))⟩, ⟨(some 4), none, (.v (.mov (.t 30)))⟩])))) (.reg [⟨(some 31), none, (.v (.bin .add (.t 12) (.c (.int .i64 1))))⟩, ⟨(some 12), none, (.v (.mov (.t 31)))⟩])))
def c_fun_join_2 : SC := .block 0 (.loop b_fun_join_1)
def c_fun_join_3 : SC := .seq (.seq (.reg [⟨(some 7), none, (.v (.mov (.t 0)))⟩, ⟨(some 8), none, (.v (.iaddr 4 (.t 7) (.c (.int .i64 1))))⟩, ⟨(some 9), none, (.v (.faddr 3 (.t 8)))⟩, ⟨(some 10), none, (.v (.load none (.t 9)))⟩, ⟨(some 11), none, (.v (.len false (.t 10)))⟩, ⟨(some 12), none, (.v (.mov (.c (.int .i64 0))))⟩]) c_fun_join_2) c_fun_join_1
def c_fun_join_4 : SC := .seq (.reg [⟨(some 4), none, (.nilv 1)⟩]) c_fun_join_3
def sc_fun_join : SFunc := ⟨1, 36, .seq (.reg [⟨(some 2), none, (.alloc [(.int .i64 0), (.int .i64 0), (.str []), (.nils 4)])⟩, ⟨(some 3), none, (.v (.mov (.c (.int .i64 0))))⟩]) c_fun_join_4, [(.cell 2 (some 4)), (.t 3)]⟩
noncomputable def k_fun_join_1 (SP : Prg) (x : EO) : CO := fin [(.cell 2 (some 4)), (.t 3)] (thC SP (inBlk 0 (x)) c_fun_join_1)
theorem U_fun_join : type_of% (And.intro (fun (SP : Prg) (ac : Ac) => congrFun (congrArg (E SP) c_fun_join_1.eq_1) ac) <| And.intro (fun (SP : Prg) (ac : Ac) => congrFun (congrArg (E SP) b_fun_join_1.eq_1) ac) <| And.intro (fun (SP : Prg) (ac : Ac) => congrFun (congrArg (E SP) c_fun_join_2.eq_1) ac) <| And.intro (fun (SP : Prg) (ac : Ac) => congrFun (congrArg (E SP) c_fun_join_3.eq_1) ac) <| And.intro (fun (SP : Prg) (ac : Ac) => congrFun (congrArg (E SP) c_fun_join_4.eq_1) ac) <| sc_fun_join.eq_1) := And.intro (fun (SP : Prg) (ac : Ac) => congrFun (congrArg (E SP) c_fun_join_1.eq_1) ac) <| And.intro (fun (SP : Prg) (ac : Ac) => congrFun (congrArg (E SP) b_fun_join_1.eq_1) ac) <| And.intro (fun (SP : Prg) (ac : Ac) => congrFun (congrArg (E SP) c_fun_join_2.eq_1) ac) <| And.intro (fun (SP : Prg) (ac : Ac) => congrFun (congrArg (E SP) c_fun_join_3.eq_1) ac) <| And.intro (fun (SP : Prg) (ac : Ac) => congrFun (congrArg (E SP) c_fun_join_4.eq_1) ac) <| sc_fun_join.eq_1
theorem comp_fun_join : comp Tryd.prog Tryd.f49 = some sc_fun_join := by kernel_rfl
/-- doorkeeper/fun.span -/
def c_fun_span_1 : SC := .seq (.reg [⟨(some 32), none, (.v (.mov (.t 5)))⟩, ⟨(some 33), none, (.call (.c (.func 62 [])) [(.t 32)])⟩, ⟨(some 34), none, (.v (.extract 0 (.t 33)))⟩, ⟨(some 35), none, (.v (.extract 1 (.t 33)))⟩, ⟨none, none, (.store 4 (.t 2) (.t 34))⟩, ⟨(some 3), none, (.v (.mov (.t 35)))⟩]) .ret
def b_fun_span_1 : SC := .seq (.reg [⟨(some 24), none, (.v (.bin .lss (.t 23) (.t 22)))⟩]) (.seq (.cond (.t 24) .skip (.exit 1)) (.seq (.block 2 (.seq (.reg [⟨(some 25), none, (.v (.mov (.t 23)))⟩, ⟨(some 6), none, (.v (.mov (.t 25)))⟩]) (.reg [⟨(some 26), none, (.v (.mov (.t 5)))⟩, ⟨(some 27), none, (.v (.mov (.t 6)))⟩, ⟨(some 28), none, (.call (.c (.func 60 [])) [(.t 27)])⟩, ⟨(some 29), none, (.bslice 4 1 [(.int .i64 0), (.int .i64 0), (.str []), (.nils 4)] [(0, (.t 28))])⟩, ⟨(some 30), none, (.append 4 56 (.t 26) (.t 29))⟩, ⟨(some 5), none, (.v (.mov (.t 30)))⟩]))) (.reg [⟨(some 31), none, (.v (.bin .add (.t 23) (.c (.int .i64 1))))⟩, ⟨(some 23), none, (.v (.mov (.t 31)))⟩])))
def c_fun_span_2 : SC := .seq (.reg [⟨(some 5), none, (.nilv 4)⟩]) (.seq (.seq (.reg [⟨(some 19), none, (.v (.mov (.t 0)))⟩, ⟨(some 20), none, (.v (.iaddr 4 (.t 19) (.c (.int .i64 0))))⟩, ⟨(some 21), none, (.v (.faddr 1 (.t 20)))⟩, ⟨(some 22), none, (.v (.load none (.t 21)))⟩, ⟨(some 23), none, (.v (.mov (.c (.int .i64 0))))⟩]) (.block 1 (.loop b_fun_span_1))) c_fun_span_1)
def c_fun_span_3 : SC := .seq (.seq (.reg [⟨(some 7), none, (.v (.mov (.t 0)))⟩, ⟨(some 8), none, (.v (.iaddr 4 (.t 7) (.c (.int .i64 0))))⟩, ⟨(some 9), none, (.v (.faddr 1 (.t 8)))⟩, ⟨(some 10), none, (.v (.load none (.t 9)))⟩, ⟨(some 4), none, (.v (.mov (.t 10)))⟩]) (.block 0 (.seq (.reg [⟨(some 12), none, (.v (.mov (.t 4)))⟩, ⟨(some 13), none, (.v (.bin .lss (.t 12) (.c (.int .i64 0))))⟩, ⟨(some 11), none, (.v (.mov (.t 13)))⟩]) (.cond (.t 11) (.seq (.reg [⟨(some 14), none, (.v (.build [(.int .i64 0), (.int .i64 0), (.str []), (.nils 4)] []))⟩, ⟨none, none, (.store 4 (.t 2) (.t 14))⟩, ⟨(some 3), none, (.v (.mov (.c (.int .i64 1))))⟩]) .ret) (.seq (.reg [⟨(some 16), none, (.v (.mov (.t 4)))⟩, ⟨(some 17), none, (.v (.bin .gtr (.t 16) (.c (.int .i64 64))))⟩, ⟨(some 15), none, (.v (.mov (.t 17)))⟩]) (.cond (.t 15) (.seq (.reg [⟨(some 18), none, (.v (.build [(.int .i64 0), (.int .i64 0), (.str []), (.nils 4)] []))⟩, ⟨none, none, (.store 4 (.t 2) (.t 18))⟩, ⟨(some 3), none, (.v (.mov (.c (.int .i64 4))))⟩]) .ret) .skip)))))) c_fun_span_2
def sc_fun_span : SFunc := ⟨1, 36, .seq (.reg [⟨(some 2), none, (.alloc [(.int .i64 0), (.int .i64 0), (.str []), (.nils 4)])⟩, ⟨(some 3), none, (.v (.mov (.c (.int .i64 0))))⟩]) c_fun_span_3, [(.cell 2 (some 4)), (.t 3)]⟩
noncomputable def k_fun_span_1 (SP : Prg) (x : EO) : CO := fin [(.cell 2 (some 4)), (.t 3)] (thC SP (inBlk 1 (x)) c_fun_span_1)
theorem U_fun_span : type_of% (And.intro (fun (SP : Prg) (ac : Ac) => congrFun (congrArg (E SP) c_fun_span_1.eq_1) ac) <| And.intro (fun (SP : Prg) (ac : Ac) => congrFun (congrArg (E SP) b_fun_span_1.eq_1) ac) <| And.intro (fun (SP : Prg) (ac : Ac) => congrFun (congrArg (E SP) c_fun_span_2.eq_1) ac) <| And.intro (fun (SP : Prg) (ac : Ac) => congrFun (congrArg (E SP) c_fun_span_3.eq_1) ac) <| sc_fun_span.eq_1) := And.intro (fun (SP : Prg) (ac : Ac) => congrFun (congrArg (E SP) c_fun_span_1.eq_1) ac) <| And.intro (fun (SP : Prg) (ac : Ac) => congrFun (congrArg (E SP) b_fun_span_1.eq_1) ac) <| And.intro (fun (SP : Prg) (ac : Ac) => congrFun (congrArg (E SP) c_fun_span_2.eq_1) ac) <| And.intro (fun (SP : Prg) (ac : Ac) => congrFun (congrArg (E SP) c_fun_span_3.eq_1) ac) <| sc_fun_span.eq_1
theorem comp_fun_span : comp Tryd.prog Tryd.f50 = some sc_fun_span := by kernel_rfl
/-- doorkeeper/fun.abs -/
def sc_fun_abs : SFunc := ⟨1, 18, .seq (.reg [⟨(some 2), none, (.alloc [(.int .i64 0), (.int .i64 0), (.str []), (.nils 4)])⟩, ⟨(some 3), none, (.v (.mov (.c (.int .i64 0))))⟩]) (.seq (.seq (.reg [⟨(some 4), none, (.v (.mov (.t 0)))⟩, ⟨(some 5), none, (.v (.iaddr 4 (.t 4) (.c (.int .i64 0))))⟩, ⟨(some 6), none, (.v (.faddr 1 (.t 5)))⟩, ⟨(some 7), none, (.v (.load none (.t 6)))⟩, ⟨(some 8), none, (.v (.bin .geq (.t 7) (.c (.int .i64 0))))⟩]) (.cond (.t 8) (.seq (.reg [⟨(some 9), none, (.v (.mov (.t 0)))⟩, ⟨(some 10), none, (.v (.iaddr 4 (.t 9) (.c (.int .i64 0))))⟩, ⟨(some 11), none, (.v (.load (some 4) (.t 10)))⟩, ⟨none, none, (.store 4 (.t 2) (.t 11))⟩, ⟨(some 3), none, (.v (.mov (.c (.int .i64 0))))⟩]) .ret) .skip)) (.seq (.reg [⟨(some 12), none, (.v (.mov (.t 0)))⟩, ⟨(some 13), none, (.v (.iaddr 4 (.t 12) (.c (.int .i64 0))))⟩, ⟨(some 14), none, (.v (.load (some 4) (.t 13)))⟩, ⟨(some 15), none, (.call (.c (.func 64 [])) [(.c (.int .i64 9)), (.t 14)])⟩, ⟨(some 16), none, (.v (.extract 0 (.t 15)))⟩, ⟨(some 17), none, (.v (.extract 1 (.t 15)))⟩, ⟨none, none, (.store 4 (.t 2) (.t 16))⟩, ⟨(some 3), none, (.v (.mov (.t 17)))⟩]) .ret)), [(.cell 2 (some 4)), (.t 3)]⟩
theorem U_fun_abs : type_of% (sc_fun_abs.eq_1) := sc_fun_abs.eq_1
theorem comp_fun_abs : comp Tryd.prog Tryd.f51 = some sc_fun_abs := by kernel_rfl
/-- doorkeeper/fun.has$1 -/
def sc_fun_has_1 : SFunc := ⟨2, 9, .seq (.reg [⟨(some 2), none, (.box (.t 0))⟩, ⟨(some 3), none, (.v (.mov (.c (.bool false))))⟩]) (.seq (.dreg [⟨(some 4), none, (.v (.load (some 4) (.t 2)))⟩, ⟨(some 5), none, (.v (.load none (.t 1)))⟩, ⟨(some 6), none, (.v (.iaddr 4 (.t 5) (.c (.int .i64 1))))⟩, ⟨(some 7), none, (.v (.load (some 4) (.t 6)))⟩, ⟨(some 8), none, (.call (.c (.func 68 [])) [(.t 4), (.t 7)])⟩, ⟨(some 3), none, (.v (.mov (.t 8)))⟩] [false, false, false, false, true, true]) .ret), [(.t 3)]⟩
theorem U_fun_has_1 : type_of% (sc_fun_has_1.eq_1) := sc_fun_has_1.eq_1
theorem comp_fun_has_1 : comp Tryd.prog Tryd.f67 = some sc_fun_has_1 := by kernel_rfl
/-- doorkeeper/fun.has -/
def sc_fun_has : SFunc := ⟨1, 11, .seq (.reg [⟨(some 1), none, (.box (.t 0))⟩, ⟨(some 2), none, (.alloc [(.int .i64 0), (.int .i64 0), (.str []), (.nils 4)])⟩, ⟨(some 3), none, (.v (.mov (.c (.int .i64 0))))⟩]) (.seq (.reg [⟨(some 4), none, (.v (.load none (.t 1)))⟩, ⟨(some 5), none, (.v (.iaddr 4 (.t 4) (.c (.int .i64 0))))⟩, ⟨(some 6), none, (.v (.faddr 3 (.t 5)))⟩, ⟨(some 7), none, (.v (.load none (.t 6)))⟩, ⟨(some 8), none, (.v (.func 67 [(.t 1)]))⟩, ⟨(some 9), none, (.call (.c (.func 66 [])) [(.t 7), (.t 8)])⟩, ⟨(some 10), none, (.call (.c (.func 65 [])) [(.t 9)])⟩, ⟨none, none, (.store 4 (.t 2) (.t 10))⟩, ⟨(some 3), none, (.v (.mov (.c (.int .i64 0))))⟩]) .ret), [(.cell 2 (some 4)), (.t 3)]⟩
theorem U_fun_has : type_of% (sc_fun_has.eq_1) := sc_fun_has.eq_1
theorem comp_fun_has : comp Tryd.prog Tryd.f53 = some sc_fun_has := by kernel_rfl
/-- doorkeeper/fun.textOf -/
def sc_fun_textOf : SFunc := ⟨1, 22, .seq (.reg [⟨(some 2), none, (.alloc [(.int .i64 0), (.int .i64 0), (.str []), (.nils 4)])⟩, ⟨(some 3), none, (.v (.mov (.c (.int .i64 0))))⟩]) (.seq (.reg [⟨(some 7), none, (.v (.mov (.t 0)))⟩, ⟨(some 8), none, (.v (.iaddr 4 (.t 7) (.c (.int .i64 0))))⟩, ⟨(some 9), none, (.v (.load (some 4) (.t 8)))⟩, ⟨(some 10), none, (.call (.c (.func 69 [])) [(.t 9)])⟩, ⟨(some 6), none, (.v (.mov (.t 10)))⟩, ⟨(some 11), none, (.v (.extract 0 (.t 6)))⟩, ⟨(some 12), none, (.v (.extract 1 (.t 6)))⟩, ⟨(some 4), none, (.v (.mov (.t 11)))⟩, ⟨(some 5), none, (.v (.mov (.t 12)))⟩]) (.seq (.seq (.reg [⟨(some 13), none, (.v (.mov (.t 5)))⟩, ⟨(some 14), none, (.v (.bin .neq (.t 13) (.c (.int .i64 0))))⟩]) (.cond (.t 14) (.seq (.reg [⟨(some 15), none, (.v (.build [(.int .i64 0), (.int .i64 0), (.str []), (.nils 4)] []))⟩, ⟨(some 16), none, (.v (.mov (.t 5)))⟩, ⟨none, none, (.store 4 (.t 2) (.t 15))⟩, ⟨(some 3), none, (.v (.mov (.t 16)))⟩]) .ret) .skip)) (.seq (.reg [⟨(some 17), none, (.v (.mov (.t 4)))⟩, ⟨(some 18), none, (.bslice 1 1 [(.str [])] [(0, (.t 17))])⟩, ⟨(some 19), none, (.call (.c (.func 63 [])) [(.t 18)])⟩, ⟨(some 20), none, (.v (.extract 0 (.t 19)))⟩, ⟨(some 21), none, (.v (.extract 1 (.t 19)))⟩, ⟨none, none, (.store 4 (.t 2) (.t 20))⟩, ⟨(some 3), none, (.v (.mov (.t 21)))⟩]) .ret))), [(.cell 2 (some 4)), (.t 3)]⟩
theorem U_fun_textOf : type_of% (sc_fun_textOf.eq_1) := sc_fun_textOf.eq_1
theorem comp_fun_textOf : comp Tryd.prog Tryd.f54 = some sc_fun_textOf := by kernel_rfl
/-- doorkeeper/val.List -/
def sc_val_List : SFunc := ⟨1, 16, .seq (.reg [⟨(some 2), none, (.alloc [(.int .i64 0), (.int .i64 0), (.str []), (.nils 4)])⟩, ⟨(some 3), none, (.v (.mov (.c (.int .i64 0))))⟩]) (.seq (.seq (.reg [⟨(some 4), none, (.v (.mov (.t 0)))⟩, ⟨(some 5), none, (.v (.len false (.t 4)))⟩, ⟨(some 6), none, (.v (.bin .gtr (.t 5) (.c (.int .i64 64))))⟩, ⟨(some 7), none, (.v (.mov (.t 6)))⟩, ⟨(some 8), (some (7, false)), (.v (.mov (.t 0)))⟩, ⟨(some 9), (some (7, false)), (.call (.c (.func 73 [])) [(.t 8)])⟩, ⟨(some 10), (some (7, false)), (.v (.bin .geq (.t 9) (.c (.int .i64 64))))⟩, ⟨(some 11), none, (.v (.pick (.t 7) (.c (.bool true)) (.t 10)))⟩]) (.cond (.t 11) (.seq (.reg [⟨(some 12), none, (.v (.build [(.int .i64 0), (.int .i64 0), (.str []), (.nils 4)] []))⟩, ⟨none, none, (.store 4 (.t 2) (.t 12))⟩, ⟨(some 3), none, (.v (.mov (.c (.int .i64 4))))⟩]) .ret) .skip)) (.seq (.reg [⟨(some 13), none, (.v (.mov (.t 0)))⟩, ⟨(some 14), none, (.call (.c (.func 74 [])) [(.t 13)])⟩, ⟨(some 15), none, (.v (.build [(.int .i64 0), (.int .i64 0), (.str []), (.nils 4)] [(0, 1, (.c (.int .i64 4))), (3, 1, (.t 14))]))⟩, ⟨none, none, (.store 4 (.t 2) (.t 15))⟩, ⟨(some 3), none, (.v (.mov (.c (.int .i64 0))))⟩]) .ret)), [(.cell 2 (some 4)), (.t 3)]⟩
theorem U_val_List : type_of% (sc_val_List.eq_1) := sc_val_List.eq_1
theorem comp_val_List : comp Tryd.prog Tryd.f62 = some sc_val_List := by kernel_rfl
/-- doorkeeper/doorkeeperref4.wants -/
def c_ref4_wants_1 : SC := .seq (.reg [⟨(some 2), none, (.v (.mov (.c (.int .i64 0))))⟩, ⟨(some 3), none, (.v (.mov (.c (.int .i64 0))))⟩, ⟨(some 4), none, (.v (.mov (.c (.bool false))))⟩]) .ret
def c_ref4_wants_2 : SC := .cond (.t 6) (.seq (.reg [⟨(some 2), none, (.v (.mov (.c (.int .i64 1))))⟩, ⟨(some 3), none, (.v (.mov (.c (.int .i64 1073741824))))⟩, ⟨(some 4), none, (.v (.mov (.c (.bool true))))⟩]) .ret) (.seq (.seq (.reg [⟨(some 11), none, (.v (.bin .eql (.t 5) (.c (.str [115, 117, 109]))))⟩, ⟨(some 10), none, (.v (.mov (.t 11)))⟩]) (.cond (.t 10) .skip (.seq (.reg [⟨(some 12), none, (.v (.bin .eql (.t 5) (.c (.str [108, 101, 110]))))⟩, ⟨(some 10), none, (.v (.mov (.t 12)))⟩]) (.cond (.t 10) .skip (.seq (.reg [⟨(some 13), none, (.v (.bin .eql (.t 5) (.c (.str [114, 97, 110, 103, 101]))))⟩, ⟨(some 10), none, (.v (.mov (.t 13)))⟩]) (.cond (.t 10) .skip (.seq (.reg [⟨(some 14), none, (.v (.bin .eql (.t 5) (.c (.str [97, 98, 115]))))⟩, ⟨(some 10), none, (.v (.mov (.t 14)))⟩]) (.cond (.t 10) .skip (.reg [⟨(some 15), none, (.v (.bin .eql (.t 5) (.c (.str [116, 101, 120, 116]))))⟩, ⟨(some 10), none, (.v (.mov (.t 15)))⟩]))))))))) (.cond (.t 10) (.seq (.reg [⟨(some 2), none, (.v (.mov (.c (.int .i64 1))))⟩, ⟨(some 3), none, (.v (.mov (.c (.int .i64 1))))⟩, ⟨(some 4), none, (.v (.mov (.c (.bool true))))⟩]) .ret) (.seq (.seq (.reg [⟨(some 17), none, (.v (.bin .eql (.t 5) (.c (.str [106, 111, 105, 110]))))⟩, ⟨(some 16), none, (.v (.mov (.t 17)))⟩]) (.cond (.t 16) .skip (.reg [⟨(some 18), none, (.v (.bin .eql (.t 5) (.c (.str [104, 97, 115]))))⟩, ⟨(some 16), none, (.v (.mov (.t 18)))⟩]))) (.cond (.t 16) (.seq (.reg [⟨(some 2), none, (.v (.mov (.c (.int .i64 2))))⟩, ⟨(some 3), none, (.v (.mov (.c (.int .i64 2))))⟩, ⟨(some 4), none, (.v (.mov (.c (.bool true))))⟩]) .ret) .skip))))
def c_ref4_wants_3 : SC := .block 0 (.seq (.seq (.reg [⟨(some 7), none, (.v (.bin .eql (.t 5) (.c (.str [109, 105, 110]))))⟩, ⟨(some 6), none, (.v (.mov (.t 7)))⟩]) (.cond (.t 6) .skip (.seq (.reg [⟨(some 8), none, (.v (.bin .eql (.t 5) (.c (.str [109, 97, 120]))))⟩, ⟨(some 6), none, (.v (.mov (.t 8)))⟩]) (.cond (.t 6) .skip (.reg [⟨(some 9), none, (.v (.bin .eql (.t 5) (.c (.str [99, 111, 110, 99, 97, 116]))))⟩, ⟨(some 6), none, (.v (.mov (.t 9)))⟩]))))) c_ref4_wants_2)
def c_ref4_wants_4 : SC := .seq (.seq (.reg [⟨(some 5), none, (.v (.mov (.t 0)))⟩]) c_ref4_wants_3) c_ref4_wants_1
def sc_ref4_wants : SFunc := ⟨1, 19, .seq (.reg [⟨(some 2), none, (.v (.mov (.c (.int .i64 0))))⟩, ⟨(some 3), none, (.v (.mov (.c (.int .i64 0))))⟩, ⟨(some 4), none, (.v (.mov (.c (.bool false))))⟩]) c_ref4_wants_4, [(.t 2), (.t 3), (.t 4)]⟩
theorem U_ref4_wants : type_of% (And.intro (fun (SP : Prg) (ac : Ac) => congrFun (congrArg (E SP) c_ref4_wants_1.eq_1) ac) <| And.intro (fun (SP : Prg) (ac : Ac) => congrFun (congrArg (E SP) c_ref4_wants_2.eq_1) ac) <| And.intro (fun (SP : Prg) (ac : Ac) => congrFun (congrArg (E SP) c_ref4_wants_3.eq_1) ac) <| And.intro (fun (SP : Prg) (ac : Ac) => congrFun (congrArg (E SP) c_ref4_wants_4.eq_1) ac) <| sc_ref4_wants.eq_1) := And.intro (fun (SP : Prg) (ac : Ac) => congrFun (congrArg (E SP) c_ref4_wants_1.eq_1) ac) <| And.intro (fun (SP : Prg) (ac : Ac) => congrFun (congrArg (E SP) c_ref4_wants_2.eq_1) ac) <| And.intro (fun (SP : Prg) (ac : Ac) => congrFun (congrArg (E SP) c_ref4_wants_3.eq_1) ac) <| And.intro (fun (SP : Prg) (ac : Ac) => congrFun (congrArg (E SP) c_ref4_wants_4.eq_1) ac) <| sc_ref4_wants.eq_1
theorem comp_ref4_wants : comp Tryd.prog Tryd.f24 = some sc_ref4_wants := by kernel_rfl
/-- doorkeeper/doorkeeperref4.right -/
def c_ref4_right_1 : SC := .seq (.reg [⟨(some 4), none, (.v (.mov (.c (.bool true))))⟩]) .ret
def c_ref4_right_2 : SC := .reg [⟨(some 12), none, (.v (.mov (.t 5)))⟩, ⟨(some 13), none, (.v (.bin .add (.t 12) (.c (.int .i64 1))))⟩, ⟨(some 5), none, (.v (.mov (.t 13)))⟩]
def c_ref4_right_3 : SC := .reg [⟨(some 96), none, (.v (.mov (.t 7)))⟩, ⟨(some 97), none, (.v (.bin .add (.t 96) (.c (.int .i64 1))))⟩, ⟨(some 7), none, (.v (.mov (.t 97)))⟩]
def c_ref4_right_4 : SC := .cond (.t 127) (.seq (.reg [⟨(some 4), none, (.v (.mov (.c (.bool false))))⟩]) .ret) .skip
def c_ref4_right_5 : SC := .seq (.block 4 (.seq (.reg [⟨(some 98), none, (.v (.mov (.t 0)))⟩, ⟨(some 99), none, (.v (.bin .eql (.t 98) (.c (.str [115, 117, 109]))))⟩, ⟨(some 100), none, (.v (.mov (.t 99)))⟩, ⟨(some 101), (some (100, true)), (.v (.mov (.t 1)))⟩, ⟨(some 102), (some (100, true)), (.v (.mov (.t 5)))⟩, ⟨(some 103), (some (100, true)), (.v (.iaddr 4 (.t 101) (.t 102)))⟩, ⟨(some 104), (some (100, true)), (.v (.faddr 3 (.t 103)))⟩, ⟨(some 105), (some (100, true)), (.v (.load none (.t 104)))⟩, ⟨(some 106), (some (100, true)), (.v (.mov (.t 7)))⟩, ⟨(some 107), (some (100, true)), (.v (.iaddr 4 (.t 105) (.t 106)))⟩, ⟨(some 108), (some (100, true)), (.v (.faddr 0 (.t 107)))⟩, ⟨(some 109), (some (100, true)), (.v (.load none (.t 108)))⟩, ⟨(some 110), (some (100, true)), (.v (.bin .neq (.t 109) (.c (.int .i64 1))))⟩, ⟨(some 111), none, (.v (.pick (.t 100) (.t 110) (.c (.bool false))))⟩, ⟨(some 112), none, (.v (.mov (.t 111)))⟩, ⟨(some 113), (some (112, false)), (.v (.mov (.t 0)))⟩, ⟨(some 114), (some (112, false)), (.v (.bin .eql (.t 113) (.c (.str [106, 111, 105, 110]))))⟩, ⟨(some 115), (some (112, false)), (.v (.mov (.t 114)))⟩, ⟨(some 116), (some (115, true)), (.v (.mov (.t 1)))⟩, ⟨(some 117), (some (115, true)), (.v (.mov (.t 5)))⟩, ⟨(some 118), (some (115, true)), (.v (.iaddr 4 (.t 116) (.t 117)))⟩, ⟨(some 119), (some (115, true)), (.v (.faddr 3 (.t 118)))⟩, ⟨(some 120), (some (115, true)), (.v (.load none (.t 119)))⟩, ⟨(some 121), (some (115, true)), (.v (.mov (.t 7)))⟩, ⟨(some 122), (some (115, true)), (.v (.iaddr 4 (.t 120) (.t 121)))⟩, ⟨(some 123), (some (115, true)), (.v (.faddr 0 (.t 122)))⟩, ⟨(some 124), (some (115, true)), (.v (.load none (.t 123)))⟩, ⟨(some 125), (some (115, true)), (.v (.bin .neq (.t 124) (.c (.int .i64 2))))⟩, ⟨(some 126), (some (112, false)), (.v (.pick (.t 115) (.t 125) (.c (.bool false))))⟩, ⟨(some 127), none, (.v (.pick (.t 112) (.c (.bool true)) (.t 126)))⟩]) c_ref4_right_4)) c_ref4_right_3
def b_ref4_right_2 : SC := .seq (.seq (.reg [⟨(some 88), none, (.v (.mov (.t 7)))⟩, ⟨(some 89), none, (.v (.mov (.t 1)))⟩, ⟨(some 90), none, (.v (.mov (.t 5)))⟩, ⟨(some 91), none, (.v (.iaddr 4 (.t 89) (.t 90)))⟩, ⟨(some 92), none, (.v (.faddr 3 (.t 91)))⟩, ⟨(some 93), none, (.v (.load none (.t 92)))⟩, ⟨(some 94), none, (.v (.len false (.t 93)))⟩, ⟨(some 95), none, (.v (.bin .lss (.t 88) (.t 94)))⟩]) (.cond (.t 95) .skip (.exit 3))) c_ref4_right_5
def c_ref4_right_6 : SC := .block 3 (.loop b_ref4_right_2)
def c_ref4_right_7 : SC := .seq (.reg [⟨(some 7), none, (.v (.mov (.c (.int .i64 0))))⟩]) c_ref4_right_6
def c_ref4_right_8 : SC := .cond (.t 65) (.seq (.reg [⟨(some 4), none, (.v (.mov (.c (.bool false))))⟩]) .ret) .skip
def c_ref4_right_9 : SC := .cond (.t 38) (.seq (.reg [⟨(some 4), none, (.v (.mov (.c (.bool false))))⟩]) .ret) (.seq (.reg [⟨(some 66), none, (.v (.mov (.t 0)))⟩, ⟨(some 67), none, (.v (.bin .eql (.t 66) (.c (.str [106, 111, 105, 110]))))⟩, ⟨(some 68), none, (.v (.mov (.t 67)))⟩, ⟨(some 69), (some (68, true)), (.v (.mov (.t 5)))⟩, ⟨(some 70), (some (68, true)), (.v (.bin .eql (.t 69) (.c (.int .i64 0))))⟩, ⟨(some 71), none, (.v (.pick (.t 68) (.t 70) (.c (.bool false))))⟩, ⟨(some 72), none, (.v (.mov (.t 71)))⟩, ⟨(some 73), (some (72, true)), (.v (.mov (.t 6)))⟩, ⟨(some 74), (some (72, true)), (.v (.bin .neq (.t 73) (.c (.int .i64 2))))⟩, ⟨(some 75), none, (.v (.pick (.t 72) (.t 74) (.c (.bool false))))⟩, ⟨(some 76), none, (.v (.mov (.t 75)))⟩, ⟨(some 77), (some (76, false)), (.v (.mov (.t 0)))⟩, ⟨(some 78), (some (76, false)), (.v (.bin .eql (.t 77) (.c (.str [108, 101, 110]))))⟩, ⟨(some 79), (some (76, false)), (.v (.mov (.t 78)))⟩, ⟨(some 80), (some (79, true)), (.v (.mov (.t 6)))⟩, ⟨(some 81), (some (79, true)), (.v (.bin .neq (.t 80) (.c (.int .i64 4))))⟩, ⟨(some 82), (some (76, false)), (.v (.pick (.t 79) (.t 81) (.c (.bool false))))⟩, ⟨(some 83), (some (76, false)), (.v (.mov (.t 82)))⟩, ⟨(some 84), (some (83, true)), (.v (.mov (.t 6)))⟩, ⟨(some 85), (some (83, true)), (.v (.bin .neq (.t 84) (.c (.int .i64 2))))⟩, ⟨(some 86), (some (76, false)), (.v (.pick (.t 83) (.t 85) (.c (.bool false))))⟩, ⟨(some 87), none, (.v (.pick (.t 76) (.c (.bool true)) (.t 86)))⟩, ⟨(some 65), none, (.v (.mov (.t 87)))⟩]) c_ref4_right_8)
def c_ref4_right_10 : SC := .cond (.t 19) (.seq (.reg [⟨(some 4), none, (.v (.mov (.c (.bool false))))⟩]) .ret) (.seq (.reg [⟨(some 39), none, (.v (.mov (.t 0)))⟩, ⟨(some 40), none, (.v (.bin .eql (.t 39) (.c (.str [115, 117, 109]))))⟩, ⟨(some 41), none, (.v (.mov (.t 40)))⟩, ⟨(some 42), (some (41, false)), (.v (.mov (.t 0)))⟩, ⟨(some 43), (some (41, false)), (.v (.bin .eql (.t 42) (.c (.str [99, 111, 110, 99, 97, 116]))))⟩, ⟨(some 44), none, (.v (.pick (.t 41) (.c (.bool true)) (.t 43)))⟩, ⟨(some 45), none, (.v (.mov (.t 44)))⟩, ⟨(some 46), (some (45, false)), (.v (.mov (.t 0)))⟩, ⟨(some 47), (some (45, false)), (.v (.bin .eql (.t 46) (.c (.str [104, 97, 115]))))⟩, ⟨(some 48), (some (45, false)), (.v (.mov (.t 47)))⟩, ⟨(some 49), (some (48, true)), (.v (.mov (.t 5)))⟩, ⟨(some 50), (some (48, true)), (.v (.bin .eql (.t 49) (.c (.int .i64 0))))⟩, ⟨(some 51), (some (45, false)), (.v (.pick (.t 48) (.t 50) (.c (.bool false))))⟩, ⟨(some 52), none, (.v (.pick (.t 45) (.c (.bool true)) (.t 51)))⟩, ⟨(some 53), none, (.v (.mov (.t 52)))⟩, ⟨(some 54), (some (53, false)), (.v (.mov (.t 0)))⟩, ⟨(some 55), (some (53, false)), (.v (.bin .eql (.t 54) (.c (.str [106, 111, 105, 110]))))⟩, ⟨(some 56), (some (53, false)), (.v (.mov (.t 55)))⟩, ⟨(some 57), (some (56, true)), (.v (.mov (.t 5)))⟩, ⟨(some 58), (some (56, true)), (.v (.bin .eql (.t 57) (.c (.int .i64 1))))⟩, ⟨(some 59), (some (53, false)), (.v (.pick (.t 56) (.t 58) (.c (.bool false))))⟩, ⟨(some 60), none, (.v (.pick (.t 53) (.c (.bool true)) (.t 59)))⟩, ⟨(some 61), none, (.v (.mov (.t 60)))⟩, ⟨(some 62), (some (61, true)), (.v (.mov (.t 6)))⟩, ⟨(some 63), (some (61, true)), (.v (.bin .neq (.t 62) (.c (.int .i64 4))))⟩, ⟨(some 64), none, (.v (.pick (.t 61) (.t 63) (.c (.bool false))))⟩, ⟨(some 38), none, (.v (.mov (.t 64)))⟩]) c_ref4_right_9)
def c_ref4_right_11 : SC := .seq (.block 2 (.seq (.reg [⟨(some 20), none, (.v (.mov (.t 0)))⟩, ⟨(some 21), none, (.v (.bin .eql (.t 20) (.c (.str [109, 105, 110]))))⟩, ⟨(some 22), none, (.v (.mov (.t 21)))⟩, ⟨(some 23), (some (22, false)), (.v (.mov (.t 0)))⟩, ⟨(some 24), (some (22, false)), (.v (.bin .eql (.t 23) (.c (.str [109, 97, 120]))))⟩, ⟨(some 25), none, (.v (.pick (.t 22) (.c (.bool true)) (.t 24)))⟩, ⟨(some 26), none, (.v (.mov (.t 25)))⟩, ⟨(some 27), (some (26, false)), (.v (.mov (.t 0)))⟩, ⟨(some 28), (some (26, false)), (.v (.bin .eql (.t 27) (.c (.str [114, 97, 110, 103, 101]))))⟩, ⟨(some 29), none, (.v (.pick (.t 26) (.c (.bool true)) (.t 28)))⟩, ⟨(some 30), none, (.v (.mov (.t 29)))⟩, ⟨(some 31), (some (30, false)), (.v (.mov (.t 0)))⟩, ⟨(some 32), (some (30, false)), (.v (.bin .eql (.t 31) (.c (.str [97, 98, 115]))))⟩, ⟨(some 33), none, (.v (.pick (.t 30) (.c (.bool true)) (.t 32)))⟩, ⟨(some 34), none, (.v (.mov (.t 33)))⟩, ⟨(some 35), (some (34, true)), (.v (.mov (.t 6)))⟩, ⟨(some 36), (some (34, true)), (.v (.bin .neq (.t 35) (.c (.int .i64 1))))⟩, ⟨(some 37), none, (.v (.pick (.t 34) (.t 36) (.c (.bool false))))⟩, ⟨(some 19), none, (.v (.mov (.t 37)))⟩]) c_ref4_right_10)) c_ref4_right_7
def c_ref4_right_12 : SC := .seq (.block 1 (.seq (.reg [⟨(some 14), none, (.v (.mov (.t 1)))⟩, ⟨(some 15), none, (.v (.mov (.t 5)))⟩, ⟨(some 16), none, (.v (.iaddr 4 (.t 14) (.t 15)))⟩, ⟨(some 17), none, (.v (.faddr 0 (.t 16)))⟩, ⟨(some 18), none, (.v (.load none (.t 17)))⟩, ⟨(some 6), none, (.v (.mov (.t 18)))⟩]) c_ref4_right_11)) c_ref4_right_2
def b_ref4_right_1 : SC := .seq (.seq (.reg [⟨(some 8), none, (.v (.mov (.t 5)))⟩, ⟨(some 9), none, (.v (.mov (.t 1)))⟩, ⟨(some 10), none, (.v (.len false (.t 9)))⟩, ⟨(some 11), none, (.v (.bin .lss (.t 8) (.t 10)))⟩]) (.cond (.t 11) .skip (.exit 0))) c_ref4_right_12
def c_ref4_right_13 : SC := .block 0 (.loop b_ref4_right_1)
def c_ref4_right_14 : SC := .seq (.seq (.reg [⟨(some 5), none, (.v (.mov (.c (.int .i64 0))))⟩]) c_ref4_right_13) c_ref4_right_1
def sc_ref4_right : SFunc := ⟨2, 128, .seq (.reg [⟨(some 4), none, (.v (.mov (.c (.bool false))))⟩]) c_ref4_right_14, [(.t 4)]⟩
noncomputable def k_ref4_right_2 (SP : Prg) (x : EO) : CO := fin [(.t 4)] (thC SP (inBlk 0 (thC SP (thC SP (inBlk 1 (inBlk 3 (x))) c_ref4_right_2) (.loop b_ref4_right_1))) c_ref4_right_1)
noncomputable def k_ref4_right_1 (SP : Prg) (x : EO) : CO := fin [(.t 4)] (thC SP (inBlk 0 (x)) c_ref4_right_1)
theorem U_ref4_right : type_of% (And.intro (fun (SP : Prg) (ac : Ac) => congrFun (congrArg (E SP) c_ref4_right_1.eq_1) ac) <| And.intro (fun (SP : Prg) (ac : Ac) => congrFun (congrArg (E SP) c_ref4_right_2.eq_1) ac) <| And.intro (fun (SP : Prg) (ac : Ac) => congrFun (congrArg (E SP) c_ref4_right_3.eq_1) ac) <| And.intro (fun (SP : Prg) (ac : Ac) => congrFun (congrArg (E SP) c_ref4_right_4.eq_1) ac) <| And.intro (fun (SP : Prg) (ac : Ac) => congrFun (congrArg (E SP) c_ref4_right_5.eq_1) ac) <| And.intro (fun (SP : Prg) (ac : Ac) => congrFun (congrArg (E SP) b_ref4_right_2.eq_1) ac) <| And.intro (fun (SP : Prg) (ac : Ac) => congrFun (congrArg (E SP) c_ref4_right_6.eq_1) ac) <| And.intro (fun (SP : Prg) (ac : Ac) => congrFun (congrArg (E SP) c_ref4_right_7.eq_1) ac) <| And.intro (fun (SP : Prg) (ac : Ac) => congrFun (congrArg (E SP) c_ref4_right_8.eq_1) ac) <| And.intro (fun (SP : Prg) (ac : Ac) => congrFun (congrArg (E SP) c_ref4_right_9.eq_1) ac) <| And.intro (fun (SP : Prg) (ac : Ac) => congrFun (congrArg (E SP) c_ref4_right_10.eq_1) ac) <| And.intro (fun (SP : Prg) (ac : Ac) => congrFun (congrArg (E SP) c_ref4_right_11.eq_1) ac) <| And.intro (fun (SP : Prg) (ac : Ac) => congrFun (congrArg (E SP) c_ref4_right_12.eq_1) ac) <| And.intro (fun (SP : Prg) (ac : Ac) => congrFun (congrArg (E SP) b_ref4_right_1.eq_1) ac) <| And.intro (fun (SP : Prg) (ac : Ac) => congrFun (congrArg (E SP) c_ref4_right_13.eq_1) ac) <| And.intro (fun (SP : Prg) (ac : Ac) => congrFun (congrArg (E SP) c_ref4_right_14.eq_1) ac) <| sc_ref4_right.eq_1) := And.intro (fun (SP : Prg) (ac : Ac) => congrFun (congrArg (E SP) c_ref4_right_1.eq_1) ac) <| And.intro (fun (SP : Prg) (ac : Ac) => congrFun (congrArg (E SP) c_ref4_right_2.eq_1) ac) <| And.intro (fun (SP : Prg) (ac : Ac) => congrFun (congrArg (E SP) c_ref4_right_3.eq_1) ac) <| And.intro (fun (SP : Prg) (ac : Ac) => congrFun (congrArg (E SP) c_ref4_right_4.eq_1) ac) <| And.intro (fun (SP : Prg) (ac : Ac) => congrFun (congrArg (E SP) c_ref4_right_5.eq_1) ac) <| And.intro (fun (SP : Prg) (ac : Ac) => congrFun (congrArg (E SP) b_ref4_right_2.eq_1) ac) <| And.intro (fun (SP : Prg) (ac : Ac) => congrFun (congrArg (E SP) c_ref4_right_6.eq_1) ac) <| And.intro (fun (SP : Prg) (ac : Ac) => congrFun (congrArg (E SP) c_ref4_right_7.eq_1) ac) <| And.intro (fun (SP : Prg) (ac : Ac) => congrFun (congrArg (E SP) c_ref4_right_8.eq_1) ac) <| And.intro (fun (SP : Prg) (ac : Ac) => congrFun (congrArg (E SP) c_ref4_right_9.eq_1) ac) <| And.intro (fun (SP : Prg) (ac : Ac) => congrFun (congrArg (E SP) c_ref4_right_10.eq_1) ac) <| And.intro (fun (SP : Prg) (ac : Ac) => congrFun (congrArg (E SP) c_ref4_right_11.eq_1) ac) <| And.intro (fun (SP : Prg) (ac : Ac) => congrFun (congrArg (E SP) c_ref4_right_12.eq_1) ac) <| And.intro (fun (SP : Prg) (ac : Ac) => congrFun (congrArg (E SP) b_ref4_right_1.eq_1) ac) <| And.intro (fun (SP : Prg) (ac : Ac) => congrFun (congrArg (E SP) c_ref4_right_13.eq_1) ac) <| And.intro (fun (SP : Prg) (ac : Ac) => congrFun (congrArg (E SP) c_ref4_right_14.eq_1) ac) <| sc_ref4_right.eq_1
theorem comp_ref4_right : comp Tryd.prog Tryd.f26 = some sc_ref4_right := by kernel_rfl
/-- doorkeeper/doorkeeperref4.added -/
def c_ref4_added_1 : SC := .seq (.reg [⟨(some 26), none, (.v (.load (some 5) (.t 3)))⟩, ⟨none, none, (.store 5 (.t 2) (.t 26))⟩]) .ret
def b_ref4_added_1 : SC := .seq (.seq (.reg [⟨(some 6), none, (.v (.mov (.t 4)))⟩, ⟨(some 7), none, (.v (.mov (.t 0)))⟩, ⟨(some 8), none, (.v (.len false (.t 7)))⟩, ⟨(some 9), none, (.v (.bin .lss (.t 6) (.t 8)))⟩, ⟨(some 10), none, (.v (.mov (.t 9)))⟩, ⟨(some 11), (some (10, true)), (.v (.faddr 4 (.t 3)))⟩, ⟨(some 12), (some (10, true)), (.v (.load none (.t 11)))⟩, ⟨(some 13), (some (10, true)), (.v (.bin .eql (.t 12) (.c (.int .i64 0))))⟩, ⟨(some 14), none, (.v (.pick (.t 10) (.t 13) (.c (.bool false))))⟩]) (.cond (.t 14) .skip (.exit 0))) (.seq (.block 1 (.dreg [⟨(some 17), none, (.v (.faddr 0 (.t 3)))⟩, ⟨(some 18), none, (.v (.faddr 1 (.t 17)))⟩, ⟨(some 19), none, (.v (.load none (.t 18)))⟩, ⟨(some 20), none, (.v (.mov (.t 0)))⟩, ⟨(some 21), none, (.v (.mov (.t 4)))⟩, ⟨(some 22), none, (.v (.iaddr 4 (.t 20) (.t 21)))⟩, ⟨(some 23), none, (.v (.faddr 1 (.t 22)))⟩, ⟨(some 24), none, (.v (.load none (.t 23)))⟩, ⟨(some 25), none, (.call (.c (.func 55 [])) [(.c (.int .i64 19)), (.t 19), (.t 24)])⟩, ⟨none, none, (.store 5 (.t 3) (.t 25))⟩] [false, false, false, false, false, false, false, false, true, true])) (.reg [⟨(some 15), none, (.v (.mov (.t 4)))⟩, ⟨(some 16), none, (.v (.bin .add (.t 15) (.c (.int .i64 1))))⟩, ⟨(some 4), none, (.v (.mov (.t 16)))⟩]))
def c_ref4_added_2 : SC := .seq (.seq (.reg [⟨(some 4), none, (.v (.mov (.c (.int .i64 0))))⟩]) (.block 0 (.loop b_ref4_added_1))) c_ref4_added_1
def c_ref4_added_3 : SC := .seq (.reg [⟨(some 5), none, (.call (.c (.func 29 [])) [(.c (.int .i64 0))])⟩, ⟨(some 3), none, (.alloc [(.int .i64 0), (.int .i64 0), (.str []), (.nils 4), (.int .i64 0)])⟩, ⟨none, none, (.store 5 (.t 3) (.t 5))⟩]) c_ref4_added_2
def sc_ref4_added : SFunc := ⟨1, 27, .seq (.reg [⟨(some 2), none, (.alloc [(.int .i64 0), (.int .i64 0), (.str []), (.nils 4), (.int .i64 0)])⟩]) c_ref4_added_3, [(.cell 2 (some 5))]⟩
noncomputable def k_ref4_added_1 (SP : Prg) (x : EO) : CO := fin [(.cell 2 (some 5))] (thC SP (inBlk 0 (x)) c_ref4_added_1)
theorem U_ref4_added : type_of% (And.intro (fun (SP : Prg) (ac : Ac) => congrFun (congrArg (E SP) c_ref4_added_1.eq_1) ac) <| And.intro (fun (SP : Prg) (ac : Ac) => congrFun (congrArg (E SP) b_ref4_added_1.eq_1) ac) <| And.intro (fun (SP : Prg) (ac : Ac) => congrFun (congrArg (E SP) c_ref4_added_2.eq_1) ac) <| And.intro (fun (SP : Prg) (ac : Ac) => congrFun (congrArg (E SP) c_ref4_added_3.eq_1) ac) <| sc_ref4_added.eq_1) := And.intro (fun (SP : Prg) (ac : Ac) => congrFun (congrArg (E SP) c_ref4_added_1.eq_1) ac) <| And.intro (fun (SP : Prg) (ac : Ac) => congrFun (congrArg (E SP) b_ref4_added_1.eq_1) ac) <| And.intro (fun (SP : Prg) (ac : Ac) => congrFun (congrArg (E SP) c_ref4_added_2.eq_1) ac) <| And.intro (fun (SP : Prg) (ac : Ac) => congrFun (congrArg (E SP) c_ref4_added_3.eq_1) ac) <| sc_ref4_added.eq_1
theorem comp_ref4_added : comp Tryd.prog Tryd.f28 = some sc_ref4_added := by kernel_rfl
/-- doorkeeper/doorkeeperref4.edge -/
def c_ref4_edge_1 : SC := .seq (.reg [⟨(some 32), none, (.v (.mov (.t 5)))⟩, ⟨(some 33), none, (.call (.c (.func 29 [])) [(.t 32)])⟩, ⟨none, none, (.store 5 (.t 4) (.t 33))⟩]) .ret
def b_ref4_edge_1 : SC := .seq (.seq (.reg [⟨(some 11), none, (.v (.mov (.t 6)))⟩, ⟨(some 12), none, (.v (.mov (.t 1)))⟩, ⟨(some 13), none, (.v (.len false (.t 12)))⟩, ⟨(some 14), none, (.v (.bin .lss (.t 11) (.t 13)))⟩]) (.cond (.t 14) .skip (.exit 0))) (.seq (.block 1 (.seq (.reg [⟨(some 17), none, (.v (.mov (.t 0)))⟩]) (.cond (.t 17) (.reg [⟨(some 18), none, (.v (.mov (.t 5)))⟩, ⟨(some 19), none, (.v (.mov (.t 1)))⟩, ⟨(some 20), none, (.v (.mov (.t 6)))⟩, ⟨(some 21), none, (.v (.iaddr 4 (.t 19) (.t 20)))⟩, ⟨(some 22), none, (.v (.faddr 1 (.t 21)))⟩, ⟨(some 23), none, (.v (.load none (.t 22)))⟩, ⟨(some 24), none, (.v (.mm false (.t 18) (.t 23)))⟩, ⟨(some 5), none, (.v (.mov (.t 24)))⟩]) (.reg [⟨(some 25), none, (.v (.mov (.t 5)))⟩, ⟨(some 26), none, (.v (.mov (.t 1)))⟩, ⟨(some 27), none, (.v (.mov (.t 6)))⟩, ⟨(some 28), none, (.v (.iaddr 4 (.t 26) (.t 27)))⟩, ⟨(some 29), none, (.v (.faddr 1 (.t 28)))⟩, ⟨(some 30), none, (.v (.load none (.t 29)))⟩, ⟨(some 31), none, (.v (.mm true (.t 25) (.t 30)))⟩, ⟨(some 5), none, (.v (.mov (.t 31)))⟩])))) (.reg [⟨(some 15), none, (.v (.mov (.t 6)))⟩, ⟨(some 16), none, (.v (.bin .add (.t 15) (.c (.int .i64 1))))⟩, ⟨(some 6), none, (.v (.mov (.t 16)))⟩]))
def c_ref4_edge_2 : SC := .seq (.seq (.reg [⟨(some 6), none, (.v (.mov (.c (.int .i64 1))))⟩]) (.block 0 (.loop b_ref4_edge_1))) c_ref4_edge_1
def c_ref4_edge_3 : SC := .seq (.reg [⟨(some 7), none, (.v (.mov (.t 1)))⟩, ⟨(some 8), none, (.v (.iaddr 4 (.t 7) (.c (.int .i64 0))))⟩, ⟨(some 9), none, (.v (.faddr 1 (.t 8)))⟩, ⟨(some 10), none, (.v (.load none (.t 9)))⟩, ⟨(some 5), none, (.v (.mov (.t 10)))⟩]) c_ref4_edge_2
def sc_ref4_edge : SFunc := ⟨2, 34, .seq (.reg [⟨(some 4), none, (.alloc [(.int .i64 0), (.int .i64 0), (.str []), (.nils 4), (.int .i64 0)])⟩]) c_ref4_edge_3, [(.cell 4 (some 5))]⟩
noncomputable def k_ref4_edge_1 (SP : Prg) (x : EO) : CO := fin [(.cell 4 (some 5))] (thC SP (inBlk 0 (x)) c_ref4_edge_1)
theorem U_ref4_edge : type_of% (And.intro (fun (SP : Prg) (ac : Ac) => congrFun (congrArg (E SP) c_ref4_edge_1.eq_1) ac) <| And.intro (fun (SP : Prg) (ac : Ac) => congrFun (congrArg (E SP) b_ref4_edge_1.eq_1) ac) <| And.intro (fun (SP : Prg) (ac : Ac) => congrFun (congrArg (E SP) c_ref4_edge_2.eq_1) ac) <| And.intro (fun (SP : Prg) (ac : Ac) => congrFun (congrArg (E SP) c_ref4_edge_3.eq_1) ac) <| sc_ref4_edge.eq_1) := And.intro (fun (SP : Prg) (ac : Ac) => congrFun (congrArg (E SP) c_ref4_edge_1.eq_1) ac) <| And.intro (fun (SP : Prg) (ac : Ac) => congrFun (congrArg (E SP) b_ref4_edge_1.eq_1) ac) <| And.intro (fun (SP : Prg) (ac : Ac) => congrFun (congrArg (E SP) c_ref4_edge_2.eq_1) ac) <| And.intro (fun (SP : Prg) (ac : Ac) => congrFun (congrArg (E SP) c_ref4_edge_3.eq_1) ac) <| sc_ref4_edge.eq_1
theorem comp_ref4_edge : comp Tryd.prog Tryd.f27 = some sc_ref4_edge := by kernel_rfl
/-- doorkeeper/doorkeeperref4.joined -/
def c_ref4_joined_1 : SC := .seq (.reg [⟨(some 27), none, (.v (.mov (.t 5)))⟩, ⟨(some 28), none, (.call (.c (.func 36 [])) [(.t 27)])⟩, ⟨none, none, (.store 5 (.t 4) (.t 28))⟩]) .ret
def b_ref4_joined_1 : SC := .seq (.seq (.reg [⟨(some 7), none, (.v (.mov (.t 6)))⟩, ⟨(some 8), none, (.v (.mov (.t 1)))⟩, ⟨(some 9), none, (.v (.len false (.t 8)))⟩, ⟨(some 10), none, (.v (.bin .lss (.t 7) (.t 9)))⟩]) (.cond (.t 10) .skip (.exit 0))) (.seq (.block 1 (.seq (.seq (.reg [⟨(some 13), none, (.v (.mov (.t 6)))⟩, ⟨(some 14), none, (.v (.bin .gtr (.t 13) (.c (.int .i64 0))))⟩]) (.cond (.t 14) (.reg [⟨(some 15), none, (.v (.mov (.t 5)))⟩, ⟨(some 16), none, (.v (.mov (.t 0)))⟩, ⟨(some 17), none, (.bslice 1 1 [(.str [])] [(0, (.t 16))])⟩, ⟨(some 18), none, (.append 1 16 (.t 15) (.t 17))⟩, ⟨(some 5), none, (.v (.mov (.t 18)))⟩]) .skip)) (.reg [⟨(some 19), none, (.v (.mov (.t 5)))⟩, ⟨(some 20), none, (.v (.mov (.t 1)))⟩, ⟨(some 21), none, (.v (.mov (.t 6)))⟩, ⟨(some 22), none, (.v (.iaddr 4 (.t 20) (.t 21)))⟩, ⟨(some 23), none, (.v (.faddr 2 (.t 22)))⟩, ⟨(some 24), none, (.v (.load none (.t 23)))⟩, ⟨(some 25), none, (.bslice 1 1 [(.str [])] [(0, (.t 24))])⟩, ⟨(some 26), none, (.append 1 16 (.t 19) (.t 25))⟩, ⟨(some 5), none, (.v (.mov (.t 26)))⟩]))) (.reg [⟨(some 11), none, (.v (.mov (.t 6)))⟩, ⟨(some 12), none, (.v (.bin .add (.t 11) (.c (.int .i64 1))))⟩, ⟨(some 6), none, (.v (.mov (.t 12)))⟩]))
def c_ref4_joined_2 : SC := .seq (.reg [⟨(some 5), none, (.nilv 1)⟩]) (.seq (.seq (.reg [⟨(some 6), none, (.v (.mov (.c (.int .i64 0))))⟩]) (.block 0 (.loop b_ref4_joined_1))) c_ref4_joined_1)
def sc_ref4_joined : SFunc := ⟨2, 29, .seq (.reg [⟨(some 4), none, (.alloc [(.int .i64 0), (.int .i64 0), (.str []), (.nils 4), (.int .i64 0)])⟩]) c_ref4_joined_2, [(.cell 4 (some 5))]⟩
noncomputable def k_ref4_joined_1 (SP : Prg) (x : EO) : CO := fin [(.cell 4 (some 5))] (thC SP (inBlk 0 (x)) c_ref4_joined_1)
theorem U_ref4_joined : type_of% (And.intro (fun (SP : Prg) (ac : Ac) => congrFun (congrArg (E SP) c_ref4_joined_1.eq_1) ac) <| And.intro (fun (SP : Prg) (ac : Ac) => congrFun (congrArg (E SP) b_ref4_joined_1.eq_1) ac) <| And.intro (fun (SP : Prg) (ac : Ac) => congrFun (congrArg (E SP) c_ref4_joined_2.eq_1) ac) <| sc_ref4_joined.eq_1) := And.intro (fun (SP : Prg) (ac : Ac) => congrFun (congrArg (E SP) c_ref4_joined_1.eq_1) ac) <| And.intro (fun (SP : Prg) (ac : Ac) => congrFun (congrArg (E SP) b_ref4_joined_1.eq_1) ac) <| And.intro (fun (SP : Prg) (ac : Ac) => congrFun (congrArg (E SP) c_ref4_joined_2.eq_1) ac) <| sc_ref4_joined.eq_1
theorem comp_ref4_joined : comp Tryd.prog Tryd.f31 = some sc_ref4_joined := by kernel_rfl
/-- doorkeeper/doorkeeperref4.counted -/
def c_ref4_counted_1 : SC := .seq (.reg [⟨(some 22), none, (.v (.mov (.t 3)))⟩, ⟨(some 23), none, (.call (.c (.func 30 [])) [(.t 22)])⟩, ⟨none, none, (.store 5 (.t 2) (.t 23))⟩]) .ret
def b_ref4_counted_1 : SC := .seq (.seq (.reg [⟨(some 11), none, (.v (.mov (.t 4)))⟩, ⟨(some 12), none, (.v (.mov (.t 0)))⟩, ⟨(some 13), none, (.v (.bin .lss (.t 11) (.t 12)))⟩]) (.cond (.t 13) .skip (.exit 0))) (.seq (.block 1 (.reg [⟨(some 16), none, (.v (.mov (.t 3)))⟩, ⟨(some 17), none, (.v (.mov (.t 4)))⟩, ⟨(some 18), none, (.call (.c (.func 29 [])) [(.t 17)])⟩, ⟨(some 19), none, (.v (.field 0 (some 4) (.t 18)))⟩, ⟨(some 20), none, (.bslice 4 1 [(.int .i64 0), (.int .i64 0), (.str []), (.nils 4)] [(0, (.t 19))])⟩, ⟨(some 21), none, (.append 4 56 (.t 16) (.t 20))⟩, ⟨(some 3), none, (.v (.mov (.t 21)))⟩])) (.reg [⟨(some 14), none, (.v (.mov (.t 4)))⟩, ⟨(some 15), none, (.v (.bin .add (.t 14) (.c (.int .i64 1))))⟩, ⟨(some 4), none, (.v (.mov (.t 15)))⟩]))
def c_ref4_counted_2 : SC := .seq (.seq (.reg [⟨(some 8), none, (.v (.mov (.t 0)))⟩, ⟨(some 9), none, (.v (.bin .gtr (.t 8) (.c (.int .i64 64))))⟩]) (.cond (.t 9) (.seq (.reg [⟨(some 10), none, (.call (.c (.func 25 [])) [(.c (.int .i64 4))])⟩, ⟨none, none, (.store 5 (.t 2) (.t 10))⟩]) .ret) .skip)) (.seq (.reg [⟨(some 3), none, (.nilv 4)⟩]) (.seq (.seq (.reg [⟨(some 4), none, (.v (.mov (.c (.int .i64 0))))⟩]) (.block 0 (.loop b_ref4_counted_1))) c_ref4_counted_1))
def c_ref4_counted_3 : SC := .seq (.seq (.reg [⟨(some 5), none, (.v (.mov (.t 0)))⟩, ⟨(some 6), none, (.v (.bin .lss (.t 5) (.c (.int .i64 0))))⟩]) (.cond (.t 6) (.seq (.reg [⟨(some 7), none, (.call (.c (.func 25 [])) [(.c (.int .i64 1))])⟩, ⟨none, none, (.store 5 (.t 2) (.t 7))⟩]) .ret) .skip)) c_ref4_counted_2
def sc_ref4_counted : SFunc := ⟨1, 24, .seq (.reg [⟨(some 2), none, (.alloc [(.int .i64 0), (.int .i64 0), (.str []), (.nils 4), (.int .i64 0)])⟩]) c_ref4_counted_3, [(.cell 2 (some 5))]⟩
noncomputable def k_ref4_counted_1 (SP : Prg) (x : EO) : CO := fin [(.cell 2 (some 5))] (thC SP (inBlk 0 (x)) c_ref4_counted_1)
theorem U_ref4_counted : type_of% (And.intro (fun (SP : Prg) (ac : Ac) => congrFun (congrArg (E SP) c_ref4_counted_1.eq_1) ac) <| And.intro (fun (SP : Prg) (ac : Ac) => congrFun (congrArg (E SP) b_ref4_counted_1.eq_1) ac) <| And.intro (fun (SP : Prg) (ac : Ac) => congrFun (congrArg (E SP) c_ref4_counted_2.eq_1) ac) <| And.intro (fun (SP : Prg) (ac : Ac) => congrFun (congrArg (E SP) c_ref4_counted_3.eq_1) ac) <| sc_ref4_counted.eq_1) := And.intro (fun (SP : Prg) (ac : Ac) => congrFun (congrArg (E SP) c_ref4_counted_1.eq_1) ac) <| And.intro (fun (SP : Prg) (ac : Ac) => congrFun (congrArg (E SP) b_ref4_counted_1.eq_1) ac) <| And.intro (fun (SP : Prg) (ac : Ac) => congrFun (congrArg (E SP) c_ref4_counted_2.eq_1) ac) <| And.intro (fun (SP : Prg) (ac : Ac) => congrFun (congrArg (E SP) c_ref4_counted_3.eq_1) ac) <| sc_ref4_counted.eq_1
theorem comp_ref4_counted : comp Tryd.prog Tryd.f32 = some sc_ref4_counted := by kernel_rfl
/-- doorkeeper/doorkeeperref4.List -/
def sc_ref4_List : SFunc := ⟨1, 19, .seq (.reg [⟨(some 2), none, (.alloc [(.int .i64 0), (.int .i64 0), (.str []), (.nils 4), (.int .i64 0)])⟩]) (.seq (.reg [⟨(some 4), none, (.bslice 4 0 [(.int .i64 0), (.int .i64 0), (.str []), (.nils 4)] [])⟩, ⟨(some 5), none, (.v (.mov (.t 0)))⟩, ⟨(some 6), none, (.append 4 56 (.t 4) (.t 5))⟩, ⟨(some 7), none, (.v (.build [(.int .i64 0), (.int .i64 0), (.str []), (.nils 4)] [(0, 1, (.c (.int .i64 4))), (3, 1, (.t 6))]))⟩, ⟨(some 3), none, (.alloc [(.int .i64 0), (.int .i64 0), (.str []), (.nils 4)])⟩, ⟨none, none, (.store 4 (.t 3) (.t 7))⟩]) (.seq (.seq (.reg [⟨(some 8), none, (.v (.mov (.t 0)))⟩, ⟨(some 9), none, (.v (.len false (.t 8)))⟩, ⟨(some 10), none, (.v (.bin .gtr (.t 9) (.c (.int .i64 64))))⟩, ⟨(some 11), none, (.v (.mov (.t 10)))⟩, ⟨(some 12), (some (11, false)), (.v (.load (some 4) (.t 3)))⟩, ⟨(some 13), (some (11, false)), (.call (.c (.func 21 [])) [(.t 12), (.c (.int .i64 64))])⟩, ⟨(some 14), (some (11, false)), (.v (.bin .gtr (.t 13) (.c (.int .i64 64))))⟩, ⟨(some 15), none, (.v (.pick (.t 11) (.c (.bool true)) (.t 14)))⟩]) (.cond (.t 15) (.seq (.reg [⟨(some 16), none, (.call (.c (.func 25 [])) [(.c (.int .i64 4))])⟩, ⟨none, none, (.store 5 (.t 2) (.t 16))⟩]) .ret) .skip)) (.seq (.reg [⟨(some 17), none, (.v (.load (some 4) (.t 3)))⟩, ⟨(some 18), none, (.v (.build [(.int .i64 0), (.int .i64 0), (.str []), (.nils 4), (.int .i64 0)] [(0, 4, (.t 17))]))⟩, ⟨none, none, (.store 5 (.t 2) (.t 18))⟩]) .ret))), [(.cell 2 (some 5))]⟩
theorem U_ref4_List : type_of% (sc_ref4_List.eq_1) := sc_ref4_List.eq_1
theorem comp_ref4_List : comp Tryd.prog Tryd.f30 = some sc_ref4_List := by kernel_rfl
/-- doorkeeper/doorkeeperref4.Join -/
def c_ref4_Join_1 : SC := .seq (.seq (.reg [⟨(some 22), none, (.v (.mov (.t 3)))⟩, ⟨(some 23), none, (.v (.len true (.t 22)))⟩, ⟨(some 24), none, (.v (.bin .gtr (.t 23) (.c (.int .i64 400))))⟩]) (.cond (.t 24) (.seq (.reg [⟨(some 25), none, (.call (.c (.func 25 [])) [(.c (.int .i64 4))])⟩, ⟨none, none, (.store 5 (.t 2) (.t 25))⟩]) .ret) .skip)) (.seq (.reg [⟨(some 26), none, (.v (.mov (.t 3)))⟩, ⟨(some 27), none, (.v (.build [(.int .i64 0), (.int .i64 0), (.str []), (.nils 4)] [(0, 1, (.c (.int .i64 2))), (2, 1, (.t 26))]))⟩, ⟨(some 28), none, (.v (.build [(.int .i64 0), (.int .i64 0), (.str []), (.nils 4), (.int .i64 0)] [(0, 4, (.t 27))]))⟩, ⟨none, none, (.store 5 (.t 2) (.t 28))⟩]) .ret)
def b_ref4_Join_1 : SC := .seq (.seq (.reg [⟨(some 5), none, (.v (.mov (.t 4)))⟩, ⟨(some 6), none, (.v (.mov (.t 0)))⟩, ⟨(some 7), none, (.v (.len false (.t 6)))⟩, ⟨(some 8), none, (.v (.bin .lss (.t 5) (.t 7)))⟩, ⟨(some 9), none, (.v (.mov (.t 8)))⟩, ⟨(some 10), (some (9, true)), (.v (.mov (.t 3)))⟩, ⟨(some 11), (some (9, true)), (.v (.len true (.t 10)))⟩, ⟨(some 12), (some (9, true)), (.v (.bin .leq (.t 11) (.c (.int .i64 400))))⟩, ⟨(some 13), none, (.v (.pick (.t 9) (.t 12) (.c (.bool false))))⟩]) (.cond (.t 13) .skip (.exit 0))) (.seq (.block 1 (.reg [⟨(some 16), none, (.v (.mov (.t 3)))⟩, ⟨(some 17), none, (.v (.mov (.t 0)))⟩, ⟨(some 18), none, (.v (.mov (.t 4)))⟩, ⟨(some 19), none, (.v (.iaddr 1 (.t 17) (.t 18)))⟩, ⟨(some 20), none, (.v (.load none (.t 19)))⟩, ⟨(some 21), none, (.v (.bin .add (.t 16) (.t 20)))⟩, ⟨(some 3), none, (.v (.mov (.t 21)))⟩])) (.reg [⟨(some 14), none, (.v (.mov (.t 4)))⟩, ⟨(some 15), none, (.v (.bin .add (.t 14) (.c (.int .i64 1))))⟩, ⟨(some 4), none, (.v (.mov (.t 15)))⟩]))
def c_ref4_Join_2 : SC := .seq (.seq (.reg [⟨(some 4), none, (.v (.mov (.c (.int .i64 0))))⟩]) (.block 0 (.loop b_ref4_Join_1))) c_ref4_Join_1
def c_ref4_Join_3 : SC := .seq (.reg [⟨(some 3), none, (.v (.mov (.c (.str []))))⟩]) c_ref4_Join_2
def sc_ref4_Join : SFunc := ⟨1, 29, .seq (.reg [⟨(some 2), none, (.alloc [(.int .i64 0), (.int .i64 0), (.str []), (.nils 4), (.int .i64 0)])⟩]) c_ref4_Join_3, [(.cell 2 (some 5))]⟩
noncomputable def k_ref4_Join_1 (SP : Prg) (x : EO) : CO := fin [(.cell 2 (some 5))] (thC SP (inBlk 0 (x)) c_ref4_Join_1)
theorem U_ref4_Join : type_of% (And.intro (fun (SP : Prg) (ac : Ac) => congrFun (congrArg (E SP) c_ref4_Join_1.eq_1) ac) <| And.intro (fun (SP : Prg) (ac : Ac) => congrFun (congrArg (E SP) b_ref4_Join_1.eq_1) ac) <| And.intro (fun (SP : Prg) (ac : Ac) => congrFun (congrArg (E SP) c_ref4_Join_2.eq_1) ac) <| And.intro (fun (SP : Prg) (ac : Ac) => congrFun (congrArg (E SP) c_ref4_Join_3.eq_1) ac) <| sc_ref4_Join.eq_1) := And.intro (fun (SP : Prg) (ac : Ac) => congrFun (congrArg (E SP) c_ref4_Join_1.eq_1) ac) <| And.intro (fun (SP : Prg) (ac : Ac) => congrFun (congrArg (E SP) b_ref4_Join_1.eq_1) ac) <| And.intro (fun (SP : Prg) (ac : Ac) => congrFun (congrArg (E SP) c_ref4_Join_2.eq_1) ac) <| And.intro (fun (SP : Prg) (ac : Ac) => congrFun (congrArg (E SP) c_ref4_Join_3.eq_1) ac) <| sc_ref4_Join.eq_1
theorem comp_ref4_Join : comp Tryd.prog Tryd.f36 = some sc_ref4_Join := by kernel_rfl
/-- doorkeeper/doorkeeperref4.Call -/
def c_ref4_Call_1 : SC := .seq (.reg [⟨(some 144), none, (.v (.mov (.t 1)))⟩, ⟨(some 145), none, (.v (.iaddr 4 (.t 144) (.c (.int .i64 0))))⟩, ⟨(some 146), none, (.v (.load (some 4) (.t 145)))⟩, ⟨(some 147), none, (.call (.c (.func 35 [])) [(.t 146)])⟩, ⟨(some 11), none, (.alloc [(.str []), (.int .i64 0)])⟩, ⟨none, none, (.store 2 (.t 11) (.t 147))⟩]) (.seq (.seq (.reg [⟨(some 148), none, (.v (.faddr 1 (.t 11)))⟩, ⟨(some 149), none, (.v (.load none (.t 148)))⟩, ⟨(some 150), none, (.v (.bin .neq (.t 149) (.c (.int .i64 0))))⟩]) (.cond (.t 150) (.seq (.reg [⟨(some 151), none, (.v (.faddr 1 (.t 11)))⟩, ⟨(some 152), none, (.v (.load none (.t 151)))⟩, ⟨(some 153), none, (.call (.c (.func 25 [])) [(.t 152)])⟩, ⟨none, none, (.store 5 (.t 4) (.t 153))⟩]) .ret) .skip)) (.seq (.reg [⟨(some 154), none, (.v (.faddr 0 (.t 11)))⟩, ⟨(some 155), none, (.v (.load none (.t 154)))⟩, ⟨(some 156), none, (.bslice 1 1 [(.str [])] [(0, (.t 155))])⟩, ⟨(some 157), none, (.call (.c (.func 36 [])) [(.t 156)])⟩, ⟨none, none, (.store 5 (.t 4) (.t 157))⟩]) .ret))
def c_ref4_Call_2 : SC := .seq (.reg [⟨(some 84), none, (.v (.mov (.t 8)))⟩, ⟨(some 85), none, (.call (.c (.func 30 [])) [(.t 84)])⟩, ⟨none, none, (.store 5 (.t 4) (.t 85))⟩]) .ret
def b_ref4_Call_1 : SC := .seq (.seq (.reg [⟨(some 71), none, (.v (.mov (.t 9)))⟩, ⟨(some 72), none, (.v (.mov (.t 1)))⟩, ⟨(some 73), none, (.v (.len false (.t 72)))⟩, ⟨(some 74), none, (.v (.bin .lss (.t 71) (.t 73)))⟩]) (.cond (.t 74) .skip (.exit 2))) (.seq (.block 3 (.reg [⟨(some 77), none, (.v (.mov (.t 8)))⟩, ⟨(some 78), none, (.v (.mov (.t 1)))⟩, ⟨(some 79), none, (.v (.mov (.t 9)))⟩, ⟨(some 80), none, (.v (.iaddr 4 (.t 78) (.t 79)))⟩, ⟨(some 81), none, (.v (.faddr 3 (.t 80)))⟩, ⟨(some 82), none, (.v (.load none (.t 81)))⟩, ⟨(some 83), none, (.append 4 56 (.t 77) (.t 82))⟩, ⟨(some 8), none, (.v (.mov (.t 83)))⟩])) (.reg [⟨(some 75), none, (.v (.mov (.t 9)))⟩, ⟨(some 76), none, (.v (.bin .add (.t 75) (.c (.int .i64 1))))⟩, ⟨(some 9), none, (.v (.mov (.t 76)))⟩]))
def c_ref4_Call_3 : SC := .seq (.reg [⟨(some 143), none, (.call (.c (.func 34 [])) [(.c (.bool false))])⟩, ⟨none, none, (.store 5 (.t 4) (.t 143))⟩]) .ret
def b_ref4_Call_2 : SC := .seq (.seq (.reg [⟨(some 122), none, (.v (.mov (.t 10)))⟩, ⟨(some 123), none, (.v (.mov (.t 1)))⟩, ⟨(some 124), none, (.v (.iaddr 4 (.t 123) (.c (.int .i64 0))))⟩, ⟨(some 125), none, (.v (.faddr 3 (.t 124)))⟩, ⟨(some 126), none, (.v (.load none (.t 125)))⟩, ⟨(some 127), none, (.v (.len false (.t 126)))⟩, ⟨(some 128), none, (.v (.bin .lss (.t 122) (.t 127)))⟩]) (.cond (.t 128) .skip (.exit 4))) (.seq (.block 5 (.seq (.dreg [⟨(some 131), none, (.v (.mov (.t 1)))⟩, ⟨(some 132), none, (.v (.iaddr 4 (.t 131) (.c (.int .i64 0))))⟩, ⟨(some 133), none, (.v (.faddr 3 (.t 132)))⟩, ⟨(some 134), none, (.v (.load none (.t 133)))⟩, ⟨(some 135), none, (.v (.mov (.t 10)))⟩, ⟨(some 136), none, (.v (.iaddr 4 (.t 134) (.t 135)))⟩, ⟨(some 137), none, (.v (.load (some 4) (.t 136)))⟩, ⟨(some 138), none, (.v (.mov (.t 1)))⟩, ⟨(some 139), none, (.v (.iaddr 4 (.t 138) (.c (.int .i64 1))))⟩, ⟨(some 140), none, (.v (.load (some 4) (.t 139)))⟩, ⟨(some 141), none, (.call (.c (.func 15 [])) [(.t 137), (.t 140)])⟩] [false, false, false, false, false, false, false, false, false, false, true]) (.cond (.t 141) (.seq (.reg [⟨(some 142), none, (.call (.c (.func 34 [])) [(.c (.bool true))])⟩, ⟨none, none, (.store 5 (.t 4) (.t 142))⟩]) .ret) .skip))) (.reg [⟨(some 129), none, (.v (.mov (.t 10)))⟩, ⟨(some 130), none, (.v (.bin .add (.t 129) (.c (.int .i64 1))))⟩, ⟨(some 10), none, (.v (.mov (.t 130)))⟩]))
def c_ref4_Call_4 : SC := .cond (.t 120) (.seq (.seq (.reg [⟨(some 10), none, (.v (.mov (.c (.int .i64 0))))⟩]) (.block 4 (.loop b_ref4_Call_2))) c_ref4_Call_3) .skip
def c_ref4_Call_5 : SC := .cond (.t 104) (.seq (.seq (.reg [⟨(some 106), none, (.v (.mov (.t 1)))⟩, ⟨(some 107), none, (.v (.iaddr 4 (.t 106) (.c (.int .i64 0))))⟩, ⟨(some 108), none, (.v (.faddr 1 (.t 107)))⟩, ⟨(some 109), none, (.v (.load none (.t 108)))⟩, ⟨(some 110), none, (.v (.bin .lss (.t 109) (.c (.int .i64 0))))⟩]) (.cond (.t 110) (.seq (.reg [⟨(some 111), none, (.v (.mov (.t 1)))⟩, ⟨(some 112), none, (.v (.iaddr 4 (.t 111) (.c (.int .i64 0))))⟩, ⟨(some 113), none, (.v (.load (some 4) (.t 112)))⟩, ⟨(some 114), none, (.call (.c (.func 33 [])) [(.c (.int .i64 9)), (.t 113)])⟩, ⟨none, none, (.store 5 (.t 4) (.t 114))⟩]) .ret) .skip)) (.seq (.reg [⟨(some 115), none, (.v (.mov (.t 1)))⟩, ⟨(some 116), none, (.v (.iaddr 4 (.t 115) (.c (.int .i64 0))))⟩, ⟨(some 117), none, (.v (.faddr 1 (.t 116)))⟩, ⟨(some 118), none, (.v (.load none (.t 117)))⟩, ⟨(some 119), none, (.call (.c (.func 29 [])) [(.t 118)])⟩, ⟨none, none, (.store 5 (.t 4) (.t 119))⟩]) .ret)) (.seq (.reg [⟨(some 121), none, (.v (.bin .eql (.t 40) (.c (.str [104, 97, 115]))))⟩, ⟨(some 120), none, (.v (.mov (.t 121)))⟩]) c_ref4_Call_4)
def c_ref4_Call_6 : SC := .cond (.t 97) (.seq (.reg [⟨(some 99), none, (.v (.mov (.t 1)))⟩, ⟨(some 100), none, (.v (.iaddr 4 (.t 99) (.c (.int .i64 0))))⟩, ⟨(some 101), none, (.v (.faddr 1 (.t 100)))⟩, ⟨(some 102), none, (.v (.load none (.t 101)))⟩, ⟨(some 103), none, (.call (.c (.func 32 [])) [(.t 102)])⟩, ⟨none, none, (.store 5 (.t 4) (.t 103))⟩]) .ret) (.seq (.reg [⟨(some 105), none, (.v (.bin .eql (.t 40) (.c (.str [97, 98, 115]))))⟩, ⟨(some 104), none, (.v (.mov (.t 105)))⟩]) c_ref4_Call_5)
def c_ref4_Call_7 : SC := .cond (.t 86) (.seq (.dreg [⟨(some 88), none, (.v (.mov (.t 1)))⟩, ⟨(some 89), none, (.v (.iaddr 4 (.t 88) (.c (.int .i64 0))))⟩, ⟨(some 90), none, (.v (.faddr 2 (.t 89)))⟩, ⟨(some 91), none, (.v (.load none (.t 90)))⟩, ⟨(some 92), none, (.v (.mov (.t 1)))⟩, ⟨(some 93), none, (.v (.iaddr 4 (.t 92) (.c (.int .i64 1))))⟩, ⟨(some 94), none, (.v (.faddr 3 (.t 93)))⟩, ⟨(some 95), none, (.v (.load none (.t 94)))⟩, ⟨(some 96), none, (.call (.c (.func 31 [])) [(.t 91), (.t 95)])⟩, ⟨none, none, (.store 5 (.t 4) (.t 96))⟩] [false, false, false, false, false, false, false, false, true, true]) .ret) (.seq (.reg [⟨(some 98), none, (.v (.bin .eql (.t 40) (.c (.str [114, 97, 110, 103, 101]))))⟩, ⟨(some 97), none, (.v (.mov (.t 98)))⟩]) c_ref4_Call_6)
def c_ref4_Call_8 : SC := .cond (.t 69) (.seq (.reg [⟨(some 8), none, (.nilv 4)⟩]) (.seq (.seq (.reg [⟨(some 9), none, (.v (.mov (.c (.int .i64 0))))⟩]) (.block 2 (.loop b_ref4_Call_1))) c_ref4_Call_2)) (.seq (.reg [⟨(some 87), none, (.v (.bin .eql (.t 40) (.c (.str [106, 111, 105, 110]))))⟩, ⟨(some 86), none, (.v (.mov (.t 87)))⟩]) c_ref4_Call_7)
def c_ref4_Call_9 : SC := .cond (.t 55) (.seq (.dreg [⟨(some 57), none, (.v (.mov (.t 1)))⟩, ⟨(some 58), none, (.v (.iaddr 4 (.t 57) (.c (.int .i64 0))))⟩, ⟨(some 59), none, (.v (.faddr 3 (.t 58)))⟩, ⟨(some 60), none, (.v (.load none (.t 59)))⟩, ⟨(some 61), none, (.v (.len false (.t 60)))⟩, ⟨(some 62), none, (.v (.mov (.t 1)))⟩, ⟨(some 63), none, (.v (.iaddr 4 (.t 62) (.c (.int .i64 0))))⟩, ⟨(some 64), none, (.v (.faddr 2 (.t 63)))⟩, ⟨(some 65), none, (.v (.load none (.t 64)))⟩, ⟨(some 66), none, (.v (.len true (.t 65)))⟩, ⟨(some 67), none, (.v (.bin .add (.t 61) (.t 66)))⟩, ⟨(some 68), none, (.call (.c (.func 29 [])) [(.t 67)])⟩, ⟨none, none, (.store 5 (.t 4) (.t 68))⟩] [false, false, false, false, false, false, false, false, false, false, true, true, true]) .ret) (.seq (.reg [⟨(some 70), none, (.v (.bin .eql (.t 40) (.c (.str [99, 111, 110, 99, 97, 116]))))⟩, ⟨(some 69), none, (.v (.mov (.t 70)))⟩]) c_ref4_Call_8)
def c_ref4_Call_10 : SC := .cond (.t 48) (.seq (.reg [⟨(some 50), none, (.v (.mov (.t 1)))⟩, ⟨(some 51), none, (.v (.iaddr 4 (.t 50) (.c (.int .i64 0))))⟩, ⟨(some 52), none, (.v (.faddr 3 (.t 51)))⟩, ⟨(some 53), none, (.v (.load none (.t 52)))⟩, ⟨(some 54), none, (.call (.c (.func 28 [])) [(.t 53)])⟩, ⟨none, none, (.store 5 (.t 4) (.t 54))⟩]) .ret) (.seq (.reg [⟨(some 56), none, (.v (.bin .eql (.t 40) (.c (.str [108, 101, 110]))))⟩, ⟨(some 55), none, (.v (.mov (.t 56)))⟩]) c_ref4_Call_9)
def c_ref4_Call_11 : SC := .cond (.t 41) (.seq (.reg [⟨(some 44), none, (.v (.mov (.t 0)))⟩, ⟨(some 45), none, (.v (.bin .eql (.t 44) (.c (.str [109, 105, 110]))))⟩, ⟨(some 46), none, (.v (.mov (.t 1)))⟩, ⟨(some 47), none, (.call (.c (.func 27 [])) [(.t 45), (.t 46)])⟩, ⟨none, none, (.store 5 (.t 4) (.t 47))⟩]) .ret) (.seq (.reg [⟨(some 49), none, (.v (.bin .eql (.t 40) (.c (.str [115, 117, 109]))))⟩, ⟨(some 48), none, (.v (.mov (.t 49)))⟩]) c_ref4_Call_10)
def c_ref4_Call_12 : SC := .block 1 (.seq (.seq (.reg [⟨(some 42), none, (.v (.bin .eql (.t 40) (.c (.str [109, 105, 110]))))⟩, ⟨(some 41), none, (.v (.mov (.t 42)))⟩]) (.cond (.t 41) .skip (.reg [⟨(some 43), none, (.v (.bin .eql (.t 40) (.c (.str [109, 97, 120]))))⟩, ⟨(some 41), none, (.v (.mov (.t 43)))⟩]))) c_ref4_Call_11)
def c_ref4_Call_13 : SC := .seq (.seq (.reg [⟨(some 40), none, (.v (.mov (.t 0)))⟩]) c_ref4_Call_12) c_ref4_Call_1
def c_ref4_Call_14 : SC := .seq (.block 0 (.seq (.reg [⟨(some 19), none, (.v (.mov (.t 7)))⟩, ⟨(some 20), none, (.v (.un .not (.t 19)))⟩, ⟨(some 18), none, (.v (.mov (.t 20)))⟩]) (.cond (.t 18) (.seq (.reg [⟨(some 21), none, (.call (.c (.func 25 [])) [(.c (.int .i64 2))])⟩, ⟨none, none, (.store 5 (.t 4) (.t 21))⟩]) .ret) (.seq (.reg [⟨(some 23), none, (.v (.mov (.t 1)))⟩, ⟨(some 24), none, (.v (.len false (.t 23)))⟩, ⟨(some 25), none, (.v (.mov (.t 5)))⟩, ⟨(some 26), none, (.v (.bin .lss (.t 24) (.t 25)))⟩, ⟨(some 27), none, (.v (.mov (.t 26)))⟩, ⟨(some 28), (some (27, false)), (.v (.mov (.t 1)))⟩, ⟨(some 29), (some (27, false)), (.v (.len false (.t 28)))⟩, ⟨(some 30), (some (27, false)), (.v (.mov (.t 6)))⟩, ⟨(some 31), (some (27, false)), (.v (.bin .gtr (.t 29) (.t 30)))⟩, ⟨(some 32), none, (.v (.pick (.t 27) (.c (.bool true)) (.t 31)))⟩, ⟨(some 22), none, (.v (.mov (.t 32)))⟩]) (.cond (.t 22) (.seq (.reg [⟨(some 33), none, (.call (.c (.func 25 [])) [(.c (.int .i64 1))])⟩, ⟨none, none, (.store 5 (.t 4) (.t 33))⟩]) .ret) (.seq (.reg [⟨(some 35), none, (.v (.mov (.t 0)))⟩, ⟨(some 36), none, (.v (.mov (.t 1)))⟩, ⟨(some 37), none, (.call (.c (.func 26 [])) [(.t 35), (.t 36)])⟩, ⟨(some 38), none, (.v (.un .not (.t 37)))⟩, ⟨(some 34), none, (.v (.mov (.t 38)))⟩]) (.cond (.t 34) (.seq (.reg [⟨(some 39), none, (.call (.c (.func 25 [])) [(.c (.int .i64 7))])⟩, ⟨none, none, (.store 5 (.t 4) (.t 39))⟩]) .ret) .skip))))))) c_ref4_Call_13
def c_ref4_Call_15 : SC := .seq (.reg [⟨(some 13), none, (.v (.mov (.t 0)))⟩, ⟨(some 14), none, (.call (.c (.func 24 [])) [(.t 13)])⟩, ⟨(some 12), none, (.v (.mov (.t 14)))⟩, ⟨(some 15), none, (.v (.extract 0 (.t 12)))⟩, ⟨(some 16), none, (.v (.extract 1 (.t 12)))⟩, ⟨(some 17), none, (.v (.extract 2 (.t 12)))⟩, ⟨(some 5), none, (.v (.mov (.t 15)))⟩, ⟨(some 6), none, (.v (.mov (.t 16)))⟩, ⟨(some 7), none, (.v (.mov (.t 17)))⟩]) c_ref4_Call_14
def sc_ref4_Call : SFunc := ⟨2, 158, .seq (.reg [⟨(some 4), none, (.alloc [(.int .i64 0), (.int .i64 0), (.str []), (.nils 4), (.int .i64 0)])⟩]) c_ref4_Call_15, [(.cell 4 (some 5))]⟩
noncomputable def k_ref4_Call_1 (SP : Prg) (x : EO) : CO := fin [(.cell 4 (some 5))] (thC SP (inBlk 1 (thC SP (inBlk 2 (x)) c_ref4_Call_2)) c_ref4_Call_1)
noncomputable def k_ref4_Call_2 (SP : Prg) (x : EO) : CO := fin [(.cell 4 (some 5))] (thC SP (inBlk 1 (thC SP (inBlk 4 (x)) c_ref4_Call_3)) c_ref4_Call_1)
theorem U_ref4_Call : type_of% (And.intro (fun (SP : Prg) (ac : Ac) => congrFun (congrArg (E SP) c_ref4_Call_1.eq_1) ac) <| And.intro (fun (SP : Prg) (ac : Ac) => congrFun (congrArg (E SP) c_ref4_Call_2.eq_1) ac) <| And.intro (fun (SP : Prg) (ac : Ac) => congrFun (congrArg (E SP) b_ref4_Call_1.eq_1) ac) <| And.intro (fun (SP : Prg) (ac : Ac) => congrFun (congrArg (E SP) c_ref4_Call_3.eq_1) ac) <| And.intro (fun (SP : Prg) (ac : Ac) => congrFun (congrArg (E SP) b_ref4_Call_2.eq_1) ac) <| And.intro (fun (SP : Prg) (ac : Ac) => congrFun (congrArg (E SP) c_ref4_Call_4.eq_1) ac) <| And.intro (fun (SP : Prg) (ac : Ac) => congrFun (congrArg (E SP) c_ref4_Call_5.eq_1) ac) <| And.intro (fun (SP : Prg) (ac : Ac) => congrFun (congrArg (E SP) c_ref4_Call_6.eq_1) ac) <| And.intro (fun (SP : Prg) (ac : Ac) => congrFun (congrArg (E SP) c_ref4_Call_7.eq_1) ac) <| And.intro (fun (SP : Prg) (ac : Ac) => congrFun (congrArg (E SP) c_ref4_Call_8.eq_1) ac) <| And.intro (fun (SP : Prg) (ac : Ac) => congrFun (congrArg (E SP) c_ref4_Call_9.eq_1) ac) <| And.intro (fun (SP : Prg) (ac : Ac) => congrFun (congrArg (E SP) c_ref4_Call_10.eq_1) ac) <| And.intro (fun (SP : Prg) (ac : Ac) => congrFun (congrArg (E SP) c_ref4_Call_11.eq_1) ac) <| And.intro (fun (SP : Prg) (ac : Ac) => congrFun (congrArg (E SP) c_ref4_Call_12.eq_1) ac) <| And.intro (fun (SP : Prg) (ac : Ac) => congrFun (congrArg (E SP) c_ref4_Call_13.eq_1) ac) <| And.intro (fun (SP : Prg) (ac : Ac) => congrFun (congrArg (E SP) c_ref4_Call_14.eq_1) ac) <| And.intro (fun (SP : Prg) (ac : Ac) => congrFun (congrArg (E SP) c_ref4_Call_15.eq_1) ac) <| sc_ref4_Call.eq_1) := And.intro (fun (SP : Prg) (ac : Ac) => congrFun (congrArg (E SP) c_ref4_Call_1.eq_1) ac) <| And.intro (fun (SP : Prg) (ac : Ac) => congrFun (congrArg (E SP) c_ref4_Call_2.eq_1) ac) <| And.intro (fun (SP : Prg) (ac : Ac) => congrFun (congrArg (E SP) b_ref4_Call_1.eq_1) ac) <| And.intro (fun (SP : Prg) (ac : Ac) => congrFun (congrArg (E SP) c_ref4_Call_3.eq_1) ac) <| And.intro (fun (SP : Prg) (ac : Ac) => congrFun (congrArg (E SP) b_ref4_Call_2.eq_1) ac) <| And.intro (fun (SP : Prg) (ac : Ac) => congrFun (congrArg (E SP) c_ref4_Call_4.eq_1) ac) <| And.intro (fun (SP : Prg) (ac : Ac) => congrFun (congrArg (E SP) c_ref4_Call_5.eq_1) ac) <| And.intro (fun (SP : Prg) (ac : Ac) => congrFun (congrArg (E SP) c_ref4_Call_6.eq_1) ac) <| And.intro (fun (SP : Prg) (ac : Ac) => congrFun (congrArg (E SP) c_ref4_Call_7.eq_1) ac) <| And.intro (fun (SP : Prg) (ac : Ac) => congrFun (congrArg (E SP) c_ref4_Call_8.eq_1) ac) <| And.intro (fun (SP : Prg) (ac : Ac) => congrFun (congrArg (E SP) c_ref4_Call_9.eq_1) ac) <| And.intro (fun (SP : Prg) (ac : Ac) => congrFun (congrArg (E SP) c_ref4_Call_10.eq_1) ac) <| And.intro (fun (SP : Prg) (ac : Ac) => congrFun (congrArg (E SP) c_ref4_Call_11.eq_1) ac) <| And.intro (fun (SP : Prg) (ac : Ac) => congrFun (congrArg (E SP) c_ref4_Call_12.eq_1) ac) <| And.intro (fun (SP : Prg) (ac : Ac) => congrFun (congrArg (E SP) c_ref4_Call_13.eq_1) ac) <| And.intro (fun (SP : Prg) (ac : Ac) => congrFun (congrArg (E SP) c_ref4_Call_14.eq_1) ac) <| And.intro (fun (SP : Prg) (ac : Ac) => congrFun (congrArg (E SP) c_ref4_Call_15.eq_1) ac) <| sc_ref4_Call.eq_1
theorem comp_ref4_Call : comp Tryd.prog Tryd.f14 = some sc_ref4_Call := by kernel_rfl
/-- doorkeeper/doorkeeperlaw5.awake -/
def c_law5_awake_1 : SC := .seq (.reg [⟨(some 4), none, (.call (.c (.func 19 [])) [(.c (.int .i64 3))])⟩, ⟨(some 5), none, (.call (.c (.func 19 [])) [(.c (.int .i64 2))])⟩, ⟨(some 6), none, (.bslice 4 2 [(.int .i64 0), (.int .i64 0), (.str []), (.nils 4)] [(0, (.t 4)), (1, (.t 5))])⟩, ⟨(some 7), none, (.call (.c (.func 13 [])) [(.c (.str [109, 105, 110])), (.t 6)])⟩, ⟨(some 3), none, (.v (.mov (.t 7)))⟩, ⟨(some 8), none, (.v (.extract 0 (.t 3)))⟩, ⟨(some 9), none, (.v (.extract 1 (.t 3)))⟩, ⟨(some 1), none, (.alloc [(.int .i64 0), (.int .i64 0), (.str []), (.nils 4)])⟩, ⟨none, none, (.store 4 (.t 1) (.t 8))⟩, ⟨(some 2), none, (.v (.mov (.t 9)))⟩]) (.seq (.reg [⟨(some 10), none, (.v (.mov (.t 2)))⟩, ⟨(some 11), none, (.call (.c (.func 16 [])) [(.t 10)])⟩, ⟨(some 12), none, (.v (.bin .eql (.t 11) (.c (.int .i64 0))))⟩, ⟨(some 13), none, (.v (.mov (.t 12)))⟩, ⟨(some 14), (some (13, true)), (.v (.faddr 0 (.t 1)))⟩, ⟨(some 15), (some (13, true)), (.v (.load none (.t 14)))⟩, ⟨(some 16), (some (13, true)), (.v (.bin .eql (.t 15) (.c (.int .i64 1))))⟩, ⟨(some 17), none, (.v (.pick (.t 13) (.t 16) (.c (.bool false))))⟩, ⟨(some 18), none, (.v (.mov (.t 17)))⟩, ⟨(some 19), (some (18, true)), (.v (.faddr 1 (.t 1)))⟩, ⟨(some 20), (some (18, true)), (.v (.load none (.t 19)))⟩, ⟨(some 21), (some (18, true)), (.v (.bin .eql (.t 20) (.c (.int .i64 2))))⟩, ⟨(some 22), none, (.v (.pick (.t 18) (.t 21) (.c (.bool false))))⟩, ⟨(some 0), none, (.v (.mov (.t 22)))⟩]) .ret)
def sc_law5_awake : SFunc := ⟨0, 23, .seq (.reg [⟨(some 0), none, (.v (.mov (.c (.bool false))))⟩]) c_law5_awake_1, [(.t 0)]⟩
theorem U_law5_awake : type_of% (And.intro (fun (SP : Prg) (ac : Ac) => congrFun (congrArg (E SP) c_law5_awake_1.eq_1) ac) <| sc_law5_awake.eq_1) := And.intro (fun (SP : Prg) (ac : Ac) => congrFun (congrArg (E SP) c_law5_awake_1.eq_1) ac) <| sc_law5_awake.eq_1
theorem comp_law5_awake : comp Tryd.prog Tryd.f10 = some sc_law5_awake := by kernel_rfl
/-- doorkeeper/doorkeeperlaw5.num -/
def sc_law5_num : SFunc := ⟨1, 5, .seq (.reg [⟨(some 2), none, (.alloc [(.int .i64 0), (.int .i64 0), (.str []), (.nils 4)])⟩]) (.seq (.reg [⟨(some 3), none, (.v (.mov (.t 0)))⟩, ⟨(some 4), none, (.v (.build [(.int .i64 0), (.int .i64 0), (.str []), (.nils 4)] [(0, 1, (.c (.int .i64 1))), (1, 1, (.t 3))]))⟩, ⟨none, none, (.store 4 (.t 2) (.t 4))⟩]) .ret), [(.cell 2 (some 4))]⟩
theorem U_law5_num : type_of% (sc_law5_num.eq_1) := sc_law5_num.eq_1
theorem comp_law5_num : comp Tryd.prog Tryd.f19 = some sc_law5_num := by kernel_rfl
/-- doorkeeper/doorkeeperlaw5.list -/
def c_law5_list_1 : SC := .seq (.reg [⟨(some 20), none, (.v (.mov (.t 3)))⟩, ⟨(some 2), none, (.v (.mov (.t 20)))⟩]) .ret
def b_law5_list_1 : SC := .seq (.seq (.reg [⟨(some 5), none, (.v (.mov (.t 4)))⟩, ⟨(some 6), none, (.v (.mov (.t 0)))⟩, ⟨(some 7), none, (.v (.len false (.t 6)))⟩, ⟨(some 8), none, (.v (.bin .lss (.t 5) (.t 7)))⟩]) (.cond (.t 8) .skip (.exit 0))) (.seq (.block 1 (.reg [⟨(some 11), none, (.v (.mov (.t 3)))⟩, ⟨(some 12), none, (.v (.mov (.t 0)))⟩, ⟨(some 13), none, (.v (.mov (.t 4)))⟩, ⟨(some 14), none, (.v (.iaddr 1 (.t 12) (.t 13)))⟩, ⟨(some 15), none, (.v (.load none (.t 14)))⟩, ⟨(some 16), none, (.v (.conv (.int .i64) (.t 15)))⟩, ⟨(some 17), none, (.call (.c (.func 19 [])) [(.t 16)])⟩, ⟨(some 18), none, (.bslice 4 1 [(.int .i64 0), (.int .i64 0), (.str []), (.nils 4)] [(0, (.t 17))])⟩, ⟨(some 19), none, (.append 4 56 (.t 11) (.t 18))⟩, ⟨(some 3), none, (.v (.mov (.t 19)))⟩])) (.reg [⟨(some 9), none, (.v (.mov (.t 4)))⟩, ⟨(some 10), none, (.v (.bin .add (.t 9) (.c (.int .i64 1))))⟩, ⟨(some 4), none, (.v (.mov (.t 10)))⟩]))
def sc_law5_list : SFunc := ⟨1, 21, .seq (.reg [⟨(some 2), none, (.nilv 4)⟩]) (.seq (.reg [⟨(some 3), none, (.nilv 4)⟩]) (.seq (.seq (.reg [⟨(some 4), none, (.v (.mov (.c (.int .i64 0))))⟩]) (.block 0 (.loop b_law5_list_1))) c_law5_list_1)), [(.t 2)]⟩
noncomputable def k_law5_list_1 (SP : Prg) (x : EO) : CO := fin [(.t 2)] (thC SP (inBlk 0 (x)) c_law5_list_1)
theorem U_law5_list : type_of% (And.intro (fun (SP : Prg) (ac : Ac) => congrFun (congrArg (E SP) c_law5_list_1.eq_1) ac) <| And.intro (fun (SP : Prg) (ac : Ac) => congrFun (congrArg (E SP) b_law5_list_1.eq_1) ac) <| sc_law5_list.eq_1) := And.intro (fun (SP : Prg) (ac : Ac) => congrFun (congrArg (E SP) c_law5_list_1.eq_1) ac) <| And.intro (fun (SP : Prg) (ac : Ac) => congrFun (congrArg (E SP) b_law5_list_1.eq_1) ac) <| sc_law5_list.eq_1
theorem comp_law5_list : comp Tryd.prog Tryd.f18 = some sc_law5_list := by kernel_rfl
/-- doorkeeper/doorkeeperlaw4.Make -/
def c_law4_Make_1 : SC := .seq (.reg [⟨(some 72), none, (.v (.mov (.t 5)))⟩, ⟨(some 73), none, (.v (.bin .quo (.t 72) (.c (.int .i64 5))))⟩, ⟨(some 74), none, (.v (.bin .sub (.t 73) (.c (.int .i64 20))))⟩, ⟨(some 75), none, (.v (.build [(.int .i64 0), (.int .i64 0), (.str []), (.nils 4)] [(0, 1, (.c (.int .i64 1))), (1, 1, (.t 74))]))⟩, ⟨none, none, (.store 4 (.t 4) (.t 75))⟩]) .ret
def c_law4_Make_2 : SC := .seq (.reg [⟨(some 71), none, (.v (.load (some 4) (.t 6)))⟩, ⟨none, none, (.store 4 (.t 4) (.t 71))⟩]) .ret
def c_law4_Make_3 : SC := .seq (.block 2 (.dreg [⟨(some 52), none, (.v (.faddr 3 (.t 6)))⟩, ⟨(some 53), none, (.v (.load none (.t 52)))⟩, ⟨(some 54), none, (.v (.mov (.t 0)))⟩, ⟨(some 55), none, (.v (.mov (.t 7)))⟩, ⟨(some 56), none, (.v (.mov (.t 0)))⟩, ⟨(some 57), none, (.v (.len false (.t 56)))⟩, ⟨(some 58), none, (.v (.mov (.t 7)))⟩, ⟨(some 59), none, (.v (.mov (.t 5)))⟩, ⟨(some 60), none, (.v (.bin .quo (.t 59) (.c (.int .i64 30))))⟩, ⟨(some 61), none, (.v (.bin .rem (.t 60) (.c (.int .i64 3))))⟩, ⟨(some 62), none, (.v (.bin .add (.t 58) (.t 61)))⟩, ⟨(some 63), none, (.v (.bin .add (.t 62) (.c (.int .i64 1))))⟩, ⟨(some 64), none, (.v (.mm false (.t 57) (.t 63)))⟩, ⟨(some 65), none, (.v (.slc 1 (.t 54) (some (.t 55)) (some (.t 64)) none))⟩, ⟨(some 66), none, (.v (.mov (.t 1)))⟩, ⟨(some 67), none, (.call (.c (.func 17 [])) [(.t 65), (.t 66)])⟩, ⟨(some 68), none, (.bslice 4 1 [(.int .i64 0), (.int .i64 0), (.str []), (.nils 4)] [(0, (.t 67))])⟩, ⟨(some 69), none, (.append 4 56 (.t 53) (.t 68))⟩, ⟨(some 70), none, (.v (.faddr 3 (.t 6)))⟩, ⟨none, none, (.store 1 (.t 70) (.t 69))⟩] [false, false, false, false, false, false, false, false, false, false, false, false, false, false, false, false, false, true, true, true])) (.reg [⟨(some 50), none, (.v (.mov (.t 7)))⟩, ⟨(some 51), none, (.v (.bin .add (.t 50) (.c (.int .i64 1))))⟩, ⟨(some 7), none, (.v (.mov (.t 51)))⟩])
def b_law4_Make_1 : SC := .seq (.seq (.reg [⟨(some 39), none, (.v (.mov (.t 7)))⟩, ⟨(some 40), none, (.v (.mov (.t 0)))⟩, ⟨(some 41), none, (.v (.len false (.t 40)))⟩, ⟨(some 42), none, (.v (.bin .lss (.t 39) (.t 41)))⟩, ⟨(some 43), none, (.v (.mov (.t 42)))⟩, ⟨(some 44), (some (43, true)), (.v (.mov (.t 7)))⟩, ⟨(some 45), (some (43, true)), (.v (.mov (.t 5)))⟩, ⟨(some 46), (some (43, true)), (.v (.bin .quo (.t 45) (.c (.int .i64 5))))⟩, ⟨(some 47), (some (43, true)), (.v (.bin .rem (.t 46) (.c (.int .i64 6))))⟩, ⟨(some 48), (some (43, true)), (.v (.bin .leq (.t 44) (.t 47)))⟩, ⟨(some 49), none, (.v (.pick (.t 43) (.t 48) (.c (.bool false))))⟩]) (.cond (.t 49) .skip (.exit 1))) c_law4_Make_3
def c_law4_Make_4 : SC := .block 1 (.loop b_law4_Make_1)
def c_law4_Make_5 : SC := .seq (.seq (.reg [⟨(some 7), none, (.v (.mov (.c (.int .i64 1))))⟩]) c_law4_Make_4) c_law4_Make_2
def c_law4_Make_6 : SC := .cond (.t 36) (.seq (.reg [⟨(some 38), none, (.v (.build [(.int .i64 0), (.int .i64 0), (.str []), (.nils 4)] [(0, 1, (.c (.int .i64 4)))]))⟩, ⟨(some 6), none, (.alloc [(.int .i64 0), (.int .i64 0), (.str []), (.nils 4)])⟩, ⟨none, none, (.store 4 (.t 6) (.t 38))⟩]) c_law4_Make_5) .skip
def c_law4_Make_7 : SC := .cond (.t 30) (.seq (.reg [⟨(some 32), none, (.v (.mov (.t 5)))⟩, ⟨(some 33), none, (.v (.bin .quo (.t 32) (.c (.int .i64 5))))⟩, ⟨(some 34), none, (.v (.bin .rem (.t 33) (.c (.int .i64 2))))⟩, ⟨(some 35), none, (.v (.build [(.int .i64 0), (.int .i64 0), (.str []), (.nils 4)] [(0, 1, (.c (.int .i64 3))), (1, 1, (.t 34))]))⟩, ⟨none, none, (.store 4 (.t 4) (.t 35))⟩]) .ret) (.seq (.reg [⟨(some 37), none, (.v (.bin .eql (.t 17) (.c (.int .i64 2))))⟩, ⟨(some 36), none, (.v (.mov (.t 37)))⟩]) c_law4_Make_6)
def c_law4_Make_8 : SC := .cond (.t 18) (.seq (.reg [⟨(some 20), none, (.v (.mov (.t 1)))⟩, ⟨(some 21), none, (.v (.len true (.t 20)))⟩, ⟨(some 22), none, (.v (.bin .leq (.t 21) (.c (.int .i64 60))))⟩]) (.cond (.t 22) (.seq (.reg [⟨(some 23), none, (.v (.mov (.t 1)))⟩, ⟨(some 24), none, (.v (.mov (.t 5)))⟩, ⟨(some 25), none, (.v (.bin .quo (.t 24) (.c (.int .i64 5))))⟩, ⟨(some 26), none, (.v (.bin .rem (.t 25) (.c (.int .i64 3))))⟩, ⟨(some 27), none, (.call (.c (.func 37 [])) [(.t 26)])⟩, ⟨(some 28), none, (.v (.bin .add (.t 23) (.t 27)))⟩, ⟨(some 29), none, (.v (.build [(.int .i64 0), (.int .i64 0), (.str []), (.nils 4)] [(0, 1, (.c (.int .i64 2))), (2, 1, (.t 28))]))⟩, ⟨none, none, (.store 4 (.t 4) (.t 29))⟩]) .ret) .skip)) (.seq (.reg [⟨(some 31), none, (.v (.bin .eql (.t 17) (.c (.int .i64 1))))⟩, ⟨(some 30), none, (.v (.mov (.t 31)))⟩]) c_law4_Make_7)
def c_law4_Make_9 : SC := .block 0 (.seq (.reg [⟨(some 19), none, (.v (.bin .eql (.t 17) (.c (.int .i64 0))))⟩, ⟨(some 18), none, (.v (.mov (.t 19)))⟩]) c_law4_Make_8)
def c_law4_Make_10 : SC := .seq (.seq (.reg [⟨(some 16), none, (.v (.mov (.t 5)))⟩, ⟨(some 17), none, (.v (.bin .rem (.t 16) (.c (.int .i64 5))))⟩]) c_law4_Make_9) c_law4_Make_1
def c_law4_Make_11 : SC := .seq (.reg [⟨(some 12), none, (.v (.mov (.t 0)))⟩, ⟨(some 13), none, (.v (.iaddr 1 (.t 12) (.c (.int .i64 0))))⟩, ⟨(some 14), none, (.v (.load none (.t 13)))⟩, ⟨(some 15), none, (.v (.conv (.int .i64) (.t 14)))⟩, ⟨(some 5), none, (.v (.mov (.t 15)))⟩]) c_law4_Make_10
def c_law4_Make_12 : SC := .seq (.seq (.reg [⟨(some 8), none, (.v (.mov (.t 0)))⟩, ⟨(some 9), none, (.v (.len false (.t 8)))⟩, ⟨(some 10), none, (.v (.bin .eql (.t 9) (.c (.int .i64 0))))⟩]) (.cond (.t 10) (.seq (.reg [⟨(some 11), none, (.v (.build [(.int .i64 0), (.int .i64 0), (.str []), (.nils 4)] [(0, 1, (.c (.int .i64 1)))]))⟩, ⟨none, none, (.store 4 (.t 4) (.t 11))⟩]) .ret) .skip)) c_law4_Make_11
def sc_law4_Make : SFunc := ⟨2, 76, .seq (.reg [⟨(some 4), none, (.alloc [(.int .i64 0), (.int .i64 0), (.str []), (.nils 4)])⟩]) c_law4_Make_12, [(.cell 4 (some 4))]⟩
noncomputable def k_law4_Make_1 (SP : Prg) (x : EO) : CO := fin [(.cell 4 (some 4))] (thC SP (inBlk 0 (thC SP (inBlk 1 (x)) c_law4_Make_2)) c_law4_Make_1)
theorem U_law4_Make : type_of% (And.intro (fun (SP : Prg) (ac : Ac) => congrFun (congrArg (E SP) c_law4_Make_1.eq_1) ac) <| And.intro (fun (SP : Prg) (ac : Ac) => congrFun (congrArg (E SP) c_law4_Make_2.eq_1) ac) <| And.intro (fun (SP : Prg) (ac : Ac) => congrFun (congrArg (E SP) c_law4_Make_3.eq_1) ac) <| And.intro (fun (SP : Prg) (ac : Ac) => congrFun (congrArg (E SP) b_law4_Make_1.eq_1) ac) <| And.intro (fun (SP : Prg) (ac : Ac) => congrFun (congrArg (E SP) c_law4_Make_4.eq_1) ac) <| And.intro (fun (SP : Prg) (ac : Ac) => congrFun (congrArg (E SP) c_law4_Make_5.eq_1) ac) <| And.intro (fun (SP : Prg) (ac : Ac) => congrFun (congrArg (E SP) c_law4_Make_6.eq_1) ac) <| And.intro (fun (SP : Prg) (ac : Ac) => congrFun (congrArg (E SP) c_law4_Make_7.eq_1) ac) <| And.intro (fun (SP : Prg) (ac : Ac) => congrFun (congrArg (E SP) c_law4_Make_8.eq_1) ac) <| And.intro (fun (SP : Prg) (ac : Ac) => congrFun (congrArg (E SP) c_law4_Make_9.eq_1) ac) <| And.intro (fun (SP : Prg) (ac : Ac) => congrFun (congrArg (E SP) c_law4_Make_10.eq_1) ac) <| And.intro (fun (SP : Prg) (ac : Ac) => congrFun (congrArg (E SP) c_law4_Make_11.eq_1) ac) <| And.intro (fun (SP : Prg) (ac : Ac) => congrFun (congrArg (E SP) c_law4_Make_12.eq_1) ac) <| sc_law4_Make.eq_1) := And.intro (fun (SP : Prg) (ac : Ac) => congrFun (congrArg (E SP) c_law4_Make_1.eq_1) ac) <| And.intro (fun (SP : Prg) (ac : Ac) => congrFun (congrArg (E SP) c_law4_Make_2.eq_1) ac) <| And.intro (fun (SP : Prg) (ac : Ac) => congrFun (congrArg (E SP) c_law4_Make_3.eq_1) ac) <| And.intro (fun (SP : Prg) (ac : Ac) => congrFun (congrArg (E SP) b_law4_Make_1.eq_1) ac) <| And.intro (fun (SP : Prg) (ac : Ac) => congrFun (congrArg (E SP) c_law4_Make_4.eq_1) ac) <| And.intro (fun (SP : Prg) (ac : Ac) => congrFun (congrArg (E SP) c_law4_Make_5.eq_1) ac) <| And.intro (fun (SP : Prg) (ac : Ac) => congrFun (congrArg (E SP) c_law4_Make_6.eq_1) ac) <| And.intro (fun (SP : Prg) (ac : Ac) => congrFun (congrArg (E SP) c_law4_Make_7.eq_1) ac) <| And.intro (fun (SP : Prg) (ac : Ac) => congrFun (congrArg (E SP) c_law4_Make_8.eq_1) ac) <| And.intro (fun (SP : Prg) (ac : Ac) => congrFun (congrArg (E SP) c_law4_Make_9.eq_1) ac) <| And.intro (fun (SP : Prg) (ac : Ac) => congrFun (congrArg (E SP) c_law4_Make_10.eq_1) ac) <| And.intro (fun (SP : Prg) (ac : Ac) => congrFun (congrArg (E SP) c_law4_Make_11.eq_1) ac) <| And.intro (fun (SP : Prg) (ac : Ac) => congrFun (congrArg (E SP) c_law4_Make_12.eq_1) ac) <| sc_law4_Make.eq_1
theorem comp_law4_Make : comp Tryd.prog Tryd.f17 = some sc_law4_Make := by kernel_rfl
/-- doorkeeper/fun.Call -/
def c_fun_Call_1 : SC := .seq (.reg [⟨(some 55), none, (.v (.faddr 3 (.t 6)))⟩, ⟨(some 56), none, (.v (.load none (.t 55)))⟩, ⟨(some 57), none, (.v (.mov (.t 1)))⟩, ⟨(some 58), none, (.call (.t 56) [(.t 57)])⟩, ⟨(some 59), none, (.v (.extract 0 (.t 58)))⟩, ⟨(some 60), none, (.v (.extract 1 (.t 58)))⟩, ⟨none, none, (.store 4 (.t 4) (.t 59))⟩, ⟨(some 5), none, (.v (.mov (.t 60)))⟩]) .ret
def b_fun_Call_1 : SC := .seq (.reg [⟨(some 36), none, (.v (.bin .lss (.t 35) (.t 34)))⟩]) (.seq (.cond (.t 36) .skip (.exit 1)) (.seq (.block 2 (.seq (.reg [⟨(some 37), none, (.v (.mov (.t 35)))⟩, ⟨(some 38), none, (.v (.iaddr 4 (.t 33) (.t 35)))⟩, ⟨(some 39), none, (.v (.load (some 4) (.t 38)))⟩, ⟨(some 9), none, (.alloc [(.int .i64 0), (.int .i64 0), (.str []), (.nils 4)])⟩, ⟨(some 8), none, (.v (.mov (.t 37)))⟩, ⟨none, none, (.store 4 (.t 9) (.t 39))⟩]) (.seq (.dreg [⟨(some 40), none, (.v (.faddr 2 (.t 6)))⟩, ⟨(some 41), none, (.v (.load none (.t 40)))⟩, ⟨(some 42), none, (.v (.mov (.t 8)))⟩, ⟨(some 43), none, (.v (.faddr 2 (.t 6)))⟩, ⟨(some 44), none, (.v (.load none (.t 43)))⟩, ⟨(some 45), none, (.v (.len false (.t 44)))⟩, ⟨(some 46), none, (.v (.bin .sub (.t 45) (.c (.int .i64 1))))⟩, ⟨(some 47), none, (.v (.mm false (.t 42) (.t 46)))⟩, ⟨(some 48), none, (.v (.iaddr 1 (.t 41) (.t 47)))⟩, ⟨(some 49), none, (.v (.load none (.t 48)))⟩, ⟨(some 50), none, (.v (.load (some 4) (.t 9)))⟩, ⟨(some 51), none, (.call (.t 49) [(.t 50)])⟩, ⟨(some 52), none, (.v (.un .not (.t 51)))⟩] [false, false, false, false, false, false, false, false, false, false, false, true, true]) (.cond (.t 52) (.seq (.reg [⟨(some 53), none, (.v (.build [(.int .i64 0), (.int .i64 0), (.str []), (.nils 4)] []))⟩, ⟨none, none, (.store 4 (.t 4) (.t 53))⟩, ⟨(some 5), none, (.v (.mov (.c (.int .i64 7))))⟩]) .ret) .skip)))) (.reg [⟨(some 54), none, (.v (.bin .add (.t 35) (.c (.int .i64 1))))⟩, ⟨(some 35), none, (.v (.mov (.t 54)))⟩])))
def c_fun_Call_2 : SC := .block 1 (.loop b_fun_Call_1)
def c_fun_Call_3 : SC := .seq (.seq (.reg [⟨(some 33), none, (.v (.mov (.t 1)))⟩, ⟨(some 34), none, (.v (.len false (.t 33)))⟩, ⟨(some 35), none, (.v (.mov (.c (.int .i64 0))))⟩]) c_fun_Call_2) c_fun_Call_1
def c_fun_Call_4 : SC := .seq (.block 0 (.seq (.reg [⟨(some 16), none, (.v (.mov (.t 7)))⟩, ⟨(some 17), none, (.v (.un .not (.t 16)))⟩, ⟨(some 15), none, (.v (.mov (.t 17)))⟩]) (.cond (.t 15) (.seq (.reg [⟨(some 18), none, (.v (.build [(.int .i64 0), (.int .i64 0), (.str []), (.nils 4)] []))⟩, ⟨none, none, (.store 4 (.t 4) (.t 18))⟩, ⟨(some 5), none, (.v (.mov (.c (.int .i64 2))))⟩]) .ret) (.seq (.reg [⟨(some 20), none, (.v (.mov (.t 1)))⟩, ⟨(some 21), none, (.v (.len false (.t 20)))⟩, ⟨(some 22), none, (.v (.faddr 0 (.t 6)))⟩, ⟨(some 23), none, (.v (.load none (.t 22)))⟩, ⟨(some 24), none, (.v (.bin .lss (.t 21) (.t 23)))⟩, ⟨(some 25), none, (.v (.mov (.t 24)))⟩, ⟨(some 26), (some (25, false)), (.v (.mov (.t 1)))⟩, ⟨(some 27), (some (25, false)), (.v (.len false (.t 26)))⟩, ⟨(some 28), (some (25, false)), (.v (.faddr 1 (.t 6)))⟩, ⟨(some 29), (some (25, false)), (.v (.load none (.t 28)))⟩, ⟨(some 30), (some (25, false)), (.v (.bin .gtr (.t 27) (.t 29)))⟩, ⟨(some 31), none, (.v (.pick (.t 25) (.c (.bool true)) (.t 30)))⟩, ⟨(some 19), none, (.v (.mov (.t 31)))⟩]) (.cond (.t 19) (.seq (.reg [⟨(some 32), none, (.v (.build [(.int .i64 0), (.int .i64 0), (.str []), (.nils 4)] []))⟩, ⟨none, none, (.store 4 (.t 4) (.t 32))⟩, ⟨(some 5), none, (.v (.mov (.c (.int .i64 1))))⟩]) .ret) .skip))))) c_fun_Call_3
def c_fun_Call_5 : SC := .seq (.reg [⟨(some 11), none, (.v (.mov (.t 0)))⟩, ⟨(some 12), none, (.call (.c (.func 23 [])) [(.t 11)])⟩, ⟨(some 10), none, (.v (.mov (.t 12)))⟩, ⟨(some 13), none, (.v (.extract 0 (.t 10)))⟩, ⟨(some 14), none, (.v (.extract 1 (.t 10)))⟩, ⟨(some 6), none, (.alloc [(.int .i64 0), (.int .i64 0), (.nils 1), .nili])⟩, ⟨none, none, (.store 4 (.t 6) (.t 13))⟩, ⟨(some 7), none, (.v (.mov (.t 14)))⟩]) c_fun_Call_4
def sc_fun_Call : SFunc := ⟨2, 61, .seq (.reg [⟨(some 4), none, (.alloc [(.int .i64 0), (.int .i64 0), (.str []), (.nils 4)])⟩, ⟨(some 5), none, (.v (.mov (.c (.int .i64 0))))⟩]) c_fun_Call_5, [(.cell 4 (some 4)), (.t 5)]⟩
noncomputable def k_fun_Call_1 (SP : Prg) (x : EO) : CO := fin [(.cell 4 (some 4)), (.t 5)] (thC SP (inBlk 1 (x)) c_fun_Call_1)
theorem U_fun_Call : type_of% (And.intro (fun (SP : Prg) (ac : Ac) => congrFun (congrArg (E SP) c_fun_Call_1.eq_1) ac) <| And.intro (fun (SP : Prg) (ac : Ac) => congrFun (congrArg (E SP) b_fun_Call_1.eq_1) ac) <| And.intro (fun (SP : Prg) (ac : Ac) => congrFun (congrArg (E SP) c_fun_Call_2.eq_1) ac) <| And.intro (fun (SP : Prg) (ac : Ac) => congrFun (congrArg (E SP) c_fun_Call_3.eq_1) ac) <| And.intro (fun (SP : Prg) (ac : Ac) => congrFun (congrArg (E SP) c_fun_Call_4.eq_1) ac) <| And.intro (fun (SP : Prg) (ac : Ac) => congrFun (congrArg (E SP) c_fun_Call_5.eq_1) ac) <| sc_fun_Call.eq_1) := And.intro (fun (SP : Prg) (ac : Ac) => congrFun (congrArg (E SP) c_fun_Call_1.eq_1) ac) <| And.intro (fun (SP : Prg) (ac : Ac) => congrFun (congrArg (E SP) b_fun_Call_1.eq_1) ac) <| And.intro (fun (SP : Prg) (ac : Ac) => congrFun (congrArg (E SP) c_fun_Call_2.eq_1) ac) <| And.intro (fun (SP : Prg) (ac : Ac) => congrFun (congrArg (E SP) c_fun_Call_3.eq_1) ac) <| And.intro (fun (SP : Prg) (ac : Ac) => congrFun (congrArg (E SP) c_fun_Call_4.eq_1) ac) <| And.intro (fun (SP : Prg) (ac : Ac) => congrFun (congrArg (E SP) c_fun_Call_5.eq_1) ac) <| sc_fun_Call.eq_1
theorem comp_fun_Call : comp Tryd.prog Tryd.f13 = some sc_fun_Call := by kernel_rfl
end Go.Proofs.YtkbdinocadoelaaDoor.M
