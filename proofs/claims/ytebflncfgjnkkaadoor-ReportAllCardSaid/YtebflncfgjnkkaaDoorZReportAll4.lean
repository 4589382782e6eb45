/- Parts of a proof, one behind another: Lt1, Wv1, Wv2, R2, Sc2, G2. -/
import Derived.Test.YtebflncfgjnkkaaDoorZReportAll3
import Derived.Lib.ItoaLen
import Derived.Test.YtebflncfgjnkkaaDoorProg
import Derived.KernelRfl
/- Trees of functions, printed by a program of this session (lift.py): what a run asks, over plain data. Lean proves each. -/
namespace Go.Proofs.YtebflncfgjnkkaaDoor.M
set_option linter.unusedSimpArgs false
set_option linter.unusedVariables false
open Go Classical
theorem sp_val_deep : SP 71 = some (.code sc_val_deep) := SPof_code rfl Tryd.func71 comp_val_deep
/-! doorkeeper/val.deep -/
def At_val_deep_1 (l_ : List V) (i1 : Int) (i2 : Int) (r : Int) : Prop := ∀ (S : Sto) (e : Nat → PV) (f : Fr), e 3 = .int .i64 i1 ∧ e 6 = .list 4 (encL l_) false ∧ e 7 = .int .i64 ((l_.length : Nat) : Int) ∧ e 8 = .int .i64 i2 → k_val_deep_1 SP (E SP (.loop b_val_deep_1) ⟨e, f :: S⟩) = .ok (.v (.int .i64 r)) S
set_option maxHeartbeats 4000000 in
theorem At_val_deep_1_step (l_ : List V) (i1 : Int) (i2 : Int) (r : Int) (T :
  ((i2 < ((l_.length : Nat) : Int)) →
  (0 ≤ i2) ∧
  ∃ (v3 : V), (l_[i2.toNat]? = some v3) ∧
  ((v3.k = 4) →
   ∃ (r4 : Int), (R_val_deep v3.l r4) ∧
   (I64 (1 + r4)) ∧
   (I64 (i2 + 1)) ∧
   At_val_deep_1 l_ (if i1 < (1 + r4) then (1 + r4) else i1) (i2 + 1) r) ∧
  (¬ (v3.k = 4) →
   (I64 (i2 + 1)) ∧
   At_val_deep_1 l_ i1 (i2 + 1) r)) ∧
 (¬ (i2 < ((l_.length : Nat) : Int)) →
  i1 = r)) : At_val_deep_1 l_ i1 i2 r := by
 intro S e f h
 unfold k_val_deep_1
 rw [E_loop]
 by_cases c1 : i2 < ((l_.length : Nat) : Int)
 · replace T := T.1 c1
   obtain ⟨p2, v3, q3, T⟩ := T
   by_cases c4 : v3.k = 4
   · replace T := T.1 c4
     obtain ⟨r4, q5, p6, p7, T⟩ := T
     simp only [R_val_deep, le] at q5
     try simp only [h, eq_true c1, p2, q3, eq_true c4, q5, p6.wrap, p7.wrap, U_val_deep, lw, le, reduceIte, reduceCtorEq, Nat.reduceEqDiff, Nat.reduceAdd, Nat.reduceLeDiff, Nat.reduceSub, Nat.reduceLT, Int.reduceEq, Int.reduceLT, Int.reduceLE, Int.reduceToNat]
     refine T S _ _ ?_
     simp only [h, eq_true c1, p2, q3, eq_true c4, q5, p6.wrap, p7.wrap, U_val_deep, lw, le, reduceIte, reduceCtorEq, Nat.reduceEqDiff, Nat.reduceAdd, Nat.reduceLeDiff, Nat.reduceSub, Nat.reduceLT, Int.reduceEq, Int.reduceLT, Int.reduceLE, Int.reduceToNat]
   · replace T := T.2 c4
     obtain ⟨p8, T⟩ := T
     try simp only [h, eq_true c1, p2, q3, eq_false c4, p8.wrap, U_val_deep, lw, le, reduceIte, reduceCtorEq, Nat.reduceEqDiff, Nat.reduceAdd, Nat.reduceLeDiff, Nat.reduceSub, Nat.reduceLT, Int.reduceEq, Int.reduceLT, Int.reduceLE, Int.reduceToNat]
     refine T S _ _ ?_
     simp only [h, eq_true c1, p2, q3, eq_false c4, p8.wrap, U_val_deep, lw, le, reduceIte, reduceCtorEq, Nat.reduceEqDiff, Nat.reduceAdd, Nat.reduceLeDiff, Nat.reduceSub, Nat.reduceLT, Int.reduceEq, Int.reduceLT, Int.reduceLE, Int.reduceToNat]
 · replace T := T.2 c1
   obtain rfl := T
   simp only [h, eq_false c1, U_val_deep, lw, le, reduceIte, reduceCtorEq, Nat.reduceEqDiff, Nat.reduceAdd, Nat.reduceLeDiff, Nat.reduceSub, Nat.reduceLT, Int.reduceEq, Int.reduceLT, Int.reduceLE, Int.reduceToNat]
set_option maxHeartbeats 4000000 in
theorem val_deep_tree (l_ : List V) (r : Int) (T :
  At_val_deep_1 l_ 0 0 r) : R_val_deep l_ r := by
 intro S
 rw [call_code sp_val_deep _ _ rfl]
 try simp only [U_val_deep, lw, le, reduceIte, reduceCtorEq, Nat.reduceEqDiff, Nat.reduceAdd, Nat.reduceLeDiff, Nat.reduceSub, Nat.reduceLT, Int.reduceEq, Int.reduceLT, Int.reduceLE, Int.reduceToNat]
 refine T S _ _ ?_
 simp only [U_val_deep, lw, le, reduceIte, reduceCtorEq, Nat.reduceEqDiff, Nat.reduceAdd, Nat.reduceLeDiff, Nat.reduceSub, Nat.reduceLT, Int.reduceEq, Int.reduceLT, Int.reduceLE, Int.reduceToNat]
theorem sp_val_plain : SP 70 = some (.code sc_val_plain) := SPof_code rfl Tryd.func70 comp_val_plain
/-! doorkeeper/val.plain -/
theorem H_slices_ContainsFunc_api_Val_api_Val_val_plain_1 {xs : List V}  {p : V → Bool} (hl : xs.length < 9223372036854775808) (hp : ∀ x, x ∈ xs → R_val_plain_1 x (p x)) : ∀ (S : Sto), call SP 93 [.list 4 (encL xs) false, .func 94 []] S = .ok (.v (.bool (xs.any p))) S := by
 intro S  
 refine G_slices_ContainsFunc_api_Val_api_Val xs 94 [] p S hl (by intro S; rfl) (by rfl) (by intro S; rfl) (by rfl) ?_
 intro x hx f f'
 have := hp x hx (f :: f' :: S)  
 simpa only [PV.upL, PV.up] using this
set_option maxHeartbeats 4000000 in
theorem val_plain_tree (v : V) (r : Bool) (T :
  ((v.k = 1) →
  ((v.s = []) →
   (decide (((v.l.length : Nat) : Int) = 0)) = r) ∧
  (¬ (v.s = []) →
   false = r)) ∧
 (¬ (v.k = 1) →
  ((v.k = 2) →
   ((v.n = 0) →
    ((((v.s.length : Nat) : Int) ≤ 400) →
     (decide (((v.l.length : Nat) : Int) = 0)) = r) ∧
    (¬ (((v.s.length : Nat) : Int) ≤ 400) →
     false = r)) ∧
   (¬ (v.n = 0) →
    false = r)) ∧
  (¬ (v.k = 2) →
   ((v.k = 3) →
    ((v.n = 0) →
     ((v.s = []) →
      (decide (((v.l.length : Nat) : Int) = 0)) = r) ∧
     (¬ (v.s = []) →
      false = r)) ∧
    (¬ (v.n = 0) →
     ((v.n = 1) →
      ((v.s = []) →
       (decide (((v.l.length : Nat) : Int) = 0)) = r) ∧
      (¬ (v.s = []) →
       false = r)) ∧
     (¬ (v.n = 1) →
      false = r))) ∧
   (¬ (v.k = 3) →
    ((v.k = 4) →
     ((v.n = 0) →
      ((v.s = []) →
       ((((v.l.length : Nat) : Int) ≤ 64) →
        (v.l.length < 9223372036854775808) ∧
        ∃ (pp1 : V → Bool), (∀ x, x ∈ v.l → R_val_plain_1 x (pp1 x)) ∧
        (!(v.l.any pp1)) = r) ∧
       (¬ (((v.l.length : Nat) : Int) ≤ 64) →
        false = r)) ∧
      (¬ (v.s = []) →
       false = r)) ∧
     (¬ (v.n = 0) →
      false = r)) ∧
    (¬ (v.k = 4) →
     false = r))))) : R_val_plain v r := by
 intro S
 rw [call_code sp_val_plain _ _ rfl]
 by_cases c1 : v.k = 1
 · replace T := T.1 c1
   by_cases c2 : v.s = []
   · replace T := T.1 c2
     obtain rfl := T
     simp only [eq_true c1, eq_true c2, U_val_plain, lw, le, reduceIte, reduceCtorEq, Nat.reduceEqDiff, Nat.reduceAdd, Nat.reduceLeDiff, Nat.reduceSub, Nat.reduceLT, Int.reduceEq, Int.reduceLT, Int.reduceLE, Int.reduceToNat]
   · replace T := T.2 c2
     obtain rfl := T
     simp only [eq_true c1, eq_false c2, U_val_plain, lw, le, reduceIte, reduceCtorEq, Nat.reduceEqDiff, Nat.reduceAdd, Nat.reduceLeDiff, Nat.reduceSub, Nat.reduceLT, Int.reduceEq, Int.reduceLT, Int.reduceLE, Int.reduceToNat]
 · replace T := T.2 c1
   by_cases c3 : v.k = 2
   · replace T := T.1 c3
     by_cases c4 : v.n = 0
     · replace T := T.1 c4
       by_cases c5 : ((v.s.length : Nat) : Int) ≤ 400
       · replace T := T.1 c5
         obtain rfl := T
         simp only [eq_false c1, eq_true c3, eq_true c4, eq_true c5, U_val_plain, lw, le, reduceIte, reduceCtorEq, Nat.reduceEqDiff, Nat.reduceAdd, Nat.reduceLeDiff, Nat.reduceSub, Nat.reduceLT, Int.reduceEq, Int.reduceLT, Int.reduceLE, Int.reduceToNat]
       · replace T := T.2 c5
         obtain rfl := T
         simp only [eq_false c1, eq_true c3, eq_true c4, eq_false c5, U_val_plain, lw, le, reduceIte, reduceCtorEq, Nat.reduceEqDiff, Nat.reduceAdd, Nat.reduceLeDiff, Nat.reduceSub, Nat.reduceLT, Int.reduceEq, Int.reduceLT, Int.reduceLE, Int.reduceToNat]
     · replace T := T.2 c4
       obtain rfl := T
       simp only [eq_false c1, eq_true c3, eq_false c4, U_val_plain, lw, le, reduceIte, reduceCtorEq, Nat.reduceEqDiff, Nat.reduceAdd, Nat.reduceLeDiff, Nat.reduceSub, Nat.reduceLT, Int.reduceEq, Int.reduceLT, Int.reduceLE, Int.reduceToNat]
   · replace T := T.2 c3
     by_cases c6 : v.k = 3
     · replace T := T.1 c6
       by_cases c7 : v.n = 0
       · replace T := T.1 c7
         by_cases c8 : v.s = []
         · replace T := T.1 c8
           obtain rfl := T
           simp only [eq_false c1, eq_false c3, eq_true c6, eq_true c7, eq_true c8, U_val_plain, lw, le, reduceIte, reduceCtorEq, Nat.reduceEqDiff, Nat.reduceAdd, Nat.reduceLeDiff, Nat.reduceSub, Nat.reduceLT, Int.reduceEq, Int.reduceLT, Int.reduceLE, Int.reduceToNat]
         · replace T := T.2 c8
           obtain rfl := T
           simp only [eq_false c1, eq_false c3, eq_true c6, eq_true c7, eq_false c8, U_val_plain, lw, le, reduceIte, reduceCtorEq, Nat.reduceEqDiff, Nat.reduceAdd, Nat.reduceLeDiff, Nat.reduceSub, Nat.reduceLT, Int.reduceEq, Int.reduceLT, Int.reduceLE, Int.reduceToNat]
       · replace T := T.2 c7
         by_cases c9 : v.n = 1
         · replace T := T.1 c9
           by_cases c10 : v.s = []
           · replace T := T.1 c10
             obtain rfl := T
             simp only [eq_false c1, eq_false c3, eq_true c6, eq_false c7, eq_true c9, eq_true c10, U_val_plain, lw, le, reduceIte, reduceCtorEq, Nat.reduceEqDiff, Nat.reduceAdd, Nat.reduceLeDiff, Nat.reduceSub, Nat.reduceLT, Int.reduceEq, Int.reduceLT, Int.reduceLE, Int.reduceToNat]
           · replace T := T.2 c10
             obtain rfl := T
             simp only [eq_false c1, eq_false c3, eq_true c6, eq_false c7, eq_true c9, eq_false c10, U_val_plain, lw, le, reduceIte, reduceCtorEq, Nat.reduceEqDiff, Nat.reduceAdd, Nat.reduceLeDiff, Nat.reduceSub, Nat.reduceLT, Int.reduceEq, Int.reduceLT, Int.reduceLE, Int.reduceToNat]
         · replace T := T.2 c9
           obtain rfl := T
           simp only [eq_false c1, eq_false c3, eq_true c6, eq_false c7, eq_false c9, U_val_plain, lw, le, reduceIte, reduceCtorEq, Nat.reduceEqDiff, Nat.reduceAdd, Nat.reduceLeDiff, Nat.reduceSub, Nat.reduceLT, Int.reduceEq, Int.reduceLT, Int.reduceLE, Int.reduceToNat]
     · replace T := T.2 c6
       by_cases c11 : v.k = 4
       · replace T := T.1 c11
         by_cases c12 : v.n = 0
         · replace T := T.1 c12
           by_cases c13 : v.s = []
           · replace T := T.1 c13
             by_cases c14 : ((v.l.length : Nat) : Int) ≤ 64
             · replace T := T.1 c14
               obtain ⟨p15, pp1, q16, rfl⟩ := T
               have o16 := H_slices_ContainsFunc_api_Val_api_Val_val_plain_1  p15 q16
               try simp only [le] at o16
               simp only [eq_false c1, eq_false c3, eq_false c6, eq_true c11, eq_true c12, eq_true c13, eq_true c14, p15, o16, U_val_plain, lw, le, reduceIte, reduceCtorEq, Nat.reduceEqDiff, Nat.reduceAdd, Nat.reduceLeDiff, Nat.reduceSub, Nat.reduceLT, Int.reduceEq, Int.reduceLT, Int.reduceLE, Int.reduceToNat]
             · replace T := T.2 c14
               obtain rfl := T
               simp only [eq_false c1, eq_false c3, eq_false c6, eq_true c11, eq_true c12, eq_true c13, eq_false c14, U_val_plain, lw, le, reduceIte, reduceCtorEq, Nat.reduceEqDiff, Nat.reduceAdd, Nat.reduceLeDiff, Nat.reduceSub, Nat.reduceLT, Int.reduceEq, Int.reduceLT, Int.reduceLE, Int.reduceToNat]
           · replace T := T.2 c13
             obtain rfl := T
             simp only [eq_false c1, eq_false c3, eq_false c6, eq_true c11, eq_true c12, eq_false c13, U_val_plain, lw, le, reduceIte, reduceCtorEq, Nat.reduceEqDiff, Nat.reduceAdd, Nat.reduceLeDiff, Nat.reduceSub, Nat.reduceLT, Int.reduceEq, Int.reduceLT, Int.reduceLE, Int.reduceToNat]
         · replace T := T.2 c12
           obtain rfl := T
           simp only [eq_false c1, eq_false c3, eq_false c6, eq_true c11, eq_false c12, U_val_plain, lw, le, reduceIte, reduceCtorEq, Nat.reduceEqDiff, Nat.reduceAdd, Nat.reduceLeDiff, Nat.reduceSub, Nat.reduceLT, Int.reduceEq, Int.reduceLT, Int.reduceLE, Int.reduceToNat]
       · replace T := T.2 c11
         obtain rfl := T
         simp only [eq_false c1, eq_false c3, eq_false c6, eq_false c11, U_val_plain, lw, le, reduceIte, reduceCtorEq, Nat.reduceEqDiff, Nat.reduceAdd, Nat.reduceLeDiff, Nat.reduceSub, Nat.reduceLT, Int.reduceEq, Int.reduceLT, Int.reduceLE, Int.reduceToNat]
theorem sp_val_plain_1 : SP 94 = some (.code sc_val_plain_1) := SPof_code rfl Tryd.func94 comp_val_plain_1
/-! doorkeeper/val.plain$1 -/
set_option maxHeartbeats 4000000 in
theorem val_plain_1_tree (x : V) (r : Bool) (T :
  ∃ (r1 : Bool), (R_val_plain x r1) ∧
 (!r1) = r) : R_val_plain_1 x r := by
 intro S
 rw [call_code sp_val_plain_1 _ _ rfl]
 obtain ⟨r1, q1, rfl⟩ := T
 simp only [R_val_plain, le] at q1
 simp only [q1, U_val_plain_1, lw, le, reduceIte, reduceCtorEq, Nat.reduceEqDiff, Nat.reduceAdd, Nat.reduceLeDiff, Nat.reduceSub, Nat.reduceLT, Int.reduceEq, Int.reduceLT, Int.reduceLE, Int.reduceToNat]
theorem sp_val_May : SP 29 = some (.code sc_val_May) := SPof_code rfl Tryd.func29 comp_val_May
/-! doorkeeper/val.May -/
set_option maxHeartbeats 4000000 in
theorem val_May_tree (v : V) (r : Bool) (T :
  ∃ (r1 : Bool), (R_val_plain v r1) ∧
 ((r1 = true) →
  ∃ (r2 : Int), (R_val_deep [v] r2) ∧
  (decide (r2 ≤ 64)) = r) ∧
 (¬ (r1 = true) →
  false = r)) : R_val_May v r := by
 intro S
 rw [call_code sp_val_May _ _ rfl]
 obtain ⟨r1, q1, T⟩ := T
 simp only [R_val_plain, le] at q1
 by_cases c2 : r1 = true
 · replace T := T.1 c2
   obtain ⟨r2, q3, rfl⟩ := T
   simp only [R_val_deep, le] at q3
   simp only [q1, c2, q3, U_val_May, lw, le, reduceIte, reduceCtorEq, Nat.reduceEqDiff, Nat.reduceAdd, Nat.reduceLeDiff, Nat.reduceSub, Nat.reduceLT, Int.reduceEq, Int.reduceLT, Int.reduceLE, Int.reduceToNat]
 · replace T := T.2 c2
   replace c2 := Bool.eq_false_iff.2 c2
   obtain rfl := T
   simp only [q1, c2, U_val_May, lw, le, reduceIte, reduceCtorEq, Nat.reduceEqDiff, Nat.reduceAdd, Nat.reduceLeDiff, Nat.reduceSub, Nat.reduceLT, Int.reduceEq, Int.reduceLT, Int.reduceLE, Int.reduceToNat]
theorem sp_val_Same : SP 36 = some (.code sc_val_Same) := SPof_code rfl Tryd.func36 comp_val_Same
/-! doorkeeper/val.Same -/
theorem H_slices_EqualFunc_api_Val_api_Val_api_Val_api_Val_val_Same {xs : List V} {ys : List V}  {p : V → V → Bool} (hl : xs.length < 9223372036854775808) (hp : ∀ x y, x ∈ xs → R_val_Same x y (p x y)) : ∀ (S : Sto), call SP 79 [.list 4 (encL xs) false, .list 4 (encL ys) false, .func 36 []] S = .ok (.v (.bool (all2 p xs ys))) S := by
 intro S  
 refine G_slices_EqualFunc_api_Val_api_Val_api_Val_api_Val xs ys 36 [] p S hl (by intro S; rfl) (by rfl) ?_
 intro x y hx f
 have := hp x y hx (f :: S)  
 simpa only [PV.upL, PV.up] using this
set_option maxHeartbeats 4000000 in
theorem val_Same_tree (a : V) (b : V) (r : Bool) (T :
  ((a.k = b.k) →
  ((a.n = b.n) →
   ((a.s = b.s) →
    (a.l.length < 9223372036854775808) ∧
    ∃ (pp1 : V → V → Bool), (∀ x y, x ∈ a.l → R_val_Same x y (pp1 x y)) ∧
    (all2 pp1 a.l b.l) = r) ∧
   (¬ (a.s = b.s) →
    false = r)) ∧
  (¬ (a.n = b.n) →
   false = r)) ∧
 (¬ (a.k = b.k) →
  false = r)) : R_val_Same a b r := by
 intro S
 rw [call_code sp_val_Same _ _ rfl]
 by_cases c1 : a.k = b.k
 · replace T := T.1 c1
   by_cases c2 : a.n = b.n
   · replace T := T.1 c2
     by_cases c3 : a.s = b.s
     · replace T := T.1 c3
       obtain ⟨p4, pp1, q5, rfl⟩ := T
       have o5 := H_slices_EqualFunc_api_Val_api_Val_api_Val_api_Val_val_Same (ys := b.l) p4 q5
       try simp only [le] at o5
       simp only [eq_true c1, eq_true c2, eq_true c3, p4, o5, U_val_Same, lw, le, reduceIte, reduceCtorEq, Nat.reduceEqDiff, Nat.reduceAdd, Nat.reduceLeDiff, Nat.reduceSub, Nat.reduceLT, Int.reduceEq, Int.reduceLT, Int.reduceLE, Int.reduceToNat]
     · replace T := T.2 c3
       obtain rfl := T
       simp only [eq_true c1, eq_true c2, eq_false c3, U_val_Same, lw, le, reduceIte, reduceCtorEq, Nat.reduceEqDiff, Nat.reduceAdd, Nat.reduceLeDiff, Nat.reduceSub, Nat.reduceLT, Int.reduceEq, Int.reduceLT, Int.reduceLE, Int.reduceToNat]
   · replace T := T.2 c2
     obtain rfl := T
     simp only [eq_true c1, eq_false c2, U_val_Same, lw, le, reduceIte, reduceCtorEq, Nat.reduceEqDiff, Nat.reduceAdd, Nat.reduceLeDiff, Nat.reduceSub, Nat.reduceLT, Int.reduceEq, Int.reduceLT, Int.reduceLE, Int.reduceToNat]
 · replace T := T.2 c1
   obtain rfl := T
   simp only [eq_false c1, U_val_Same, lw, le, reduceIte, reduceCtorEq, Nat.reduceEqDiff, Nat.reduceAdd, Nat.reduceLeDiff, Nat.reduceSub, Nat.reduceLT, Int.reduceEq, Int.reduceLT, Int.reduceLE, Int.reduceToNat]
theorem sp_val_Type : SP 38 = some (.code sc_val_Type) := SPof_code rfl Tryd.func38 comp_val_Type
/-! doorkeeper/val.Type -/
set_option maxHeartbeats 4000000 in
theorem val_Type_tree (v : V) (r : List UInt8) (T :
  ((v.k = 1) →
  [105, 110, 116] = r) ∧
 (¬ (v.k = 1) →
  ((v.k = 2) →
   [115, 116, 114, 105, 110, 103] = r) ∧
  (¬ (v.k = 2) →
   ((v.k = 3) →
    [98, 111, 111, 108] = r) ∧
   (¬ (v.k = 3) →
    ((v.k = 4) →
     [108, 105, 115, 116] = r) ∧
    (¬ (v.k = 4) →
     [] = r))))) : R_val_Type v r := by
 intro S
 rw [call_code sp_val_Type _ _ rfl]
 by_cases c1 : v.k = 1
 · replace T := T.1 c1
   obtain rfl := T
   simp only [eq_true c1, U_val_Type, lw, le, reduceIte, reduceCtorEq, Nat.reduceEqDiff, Nat.reduceAdd, Nat.reduceLeDiff, Nat.reduceSub, Nat.reduceLT, Int.reduceEq, Int.reduceLT, Int.reduceLE, Int.reduceToNat]
 · replace T := T.2 c1
   by_cases c2 : v.k = 2
   · replace T := T.1 c2
     obtain rfl := T
     simp only [eq_false c1, eq_true c2, U_val_Type, lw, le, reduceIte, reduceCtorEq, Nat.reduceEqDiff, Nat.reduceAdd, Nat.reduceLeDiff, Nat.reduceSub, Nat.reduceLT, Int.reduceEq, Int.reduceLT, Int.reduceLE, Int.reduceToNat]
   · replace T := T.2 c2
     by_cases c3 : v.k = 3
     · replace T := T.1 c3
       obtain rfl := T
       simp only [eq_false c1, eq_false c2, eq_true c3, U_val_Type, lw, le, reduceIte, reduceCtorEq, Nat.reduceEqDiff, Nat.reduceAdd, Nat.reduceLeDiff, Nat.reduceSub, Nat.reduceLT, Int.reduceEq, Int.reduceLT, Int.reduceLE, Int.reduceToNat]
     · replace T := T.2 c3
       by_cases c4 : v.k = 4
       · replace T := T.1 c4
         obtain rfl := T
         simp only [eq_false c1, eq_false c2, eq_false c3, eq_true c4, U_val_Type, lw, le, reduceIte, reduceCtorEq, Nat.reduceEqDiff, Nat.reduceAdd, Nat.reduceLeDiff, Nat.reduceSub, Nat.reduceLT, Int.reduceEq, Int.reduceLT, Int.reduceLE, Int.reduceToNat]
       · replace T := T.2 c4
         obtain rfl := T
         simp only [eq_false c1, eq_false c2, eq_false c3, eq_false c4, U_val_Type, lw, le, reduceIte, reduceCtorEq, Nat.reduceEqDiff, Nat.reduceAdd, Nat.reduceLeDiff, Nat.reduceSub, Nat.reduceLT, Int.reduceEq, Int.reduceLT, Int.reduceLE, Int.reduceToNat]
theorem sp_val_Text : SP 31 = some (.code sc_val_Text) := SPof_code rfl Tryd.func31 comp_val_Text
/-! doorkeeper/val.Text -/
set_option maxHeartbeats 4000000 in
theorem val_Text_tree (v : V) (ra : List UInt8) (rb : Int) (T :
  ((v.k = 1) →
  ∃ (r1 : List UInt8), (R_strconv_Itoa v.n r1) ∧
  r1 = ra ∧ 0 = rb) ∧
 (¬ (v.k = 1) →
  ((v.k = 2) →
   v.s = ra ∧ 0 = rb) ∧
  (¬ (v.k = 2) →
   ((v.k = 3) →
    ∃ (r2 : List UInt8), (R_strconv_FormatBool (decide (v.n = 1)) r2) ∧
    r2 = ra ∧ 0 = rb) ∧
   (¬ (v.k = 3) →
    [] = ra ∧ 7 = rb)))) : R_val_Text v ra rb := by
 intro S
 rw [call_code sp_val_Text _ _ rfl]
 by_cases c1 : v.k = 1
 · replace T := T.1 c1
   obtain ⟨r1, q2, rfl, rfl⟩ := T
   simp only [R_strconv_Itoa, le] at q2
   simp only [eq_true c1, q2, U_val_Text, lw, le, reduceIte, reduceCtorEq, Nat.reduceEqDiff, Nat.reduceAdd, Nat.reduceLeDiff, Nat.reduceSub, Nat.reduceLT, Int.reduceEq, Int.reduceLT, Int.reduceLE, Int.reduceToNat]
 · replace T := T.2 c1
   by_cases c3 : v.k = 2
   · replace T := T.1 c3
     obtain ⟨rfl, rfl⟩ := T
     simp only [eq_false c1, eq_true c3, U_val_Text, lw, le, reduceIte, reduceCtorEq, Nat.reduceEqDiff, Nat.reduceAdd, Nat.reduceLeDiff, Nat.reduceSub, Nat.reduceLT, Int.reduceEq, Int.reduceLT, Int.reduceLE, Int.reduceToNat]
   · replace T := T.2 c3
     by_cases c4 : v.k = 3
     · replace T := T.1 c4
       obtain ⟨r2, q5, rfl, rfl⟩ := T
       simp only [R_strconv_FormatBool, le] at q5
       simp only [eq_false c1, eq_false c3, eq_true c4, q5, U_val_Text, lw, le, reduceIte, reduceCtorEq, Nat.reduceEqDiff, Nat.reduceAdd, Nat.reduceLeDiff, Nat.reduceSub, Nat.reduceLT, Int.reduceEq, Int.reduceLT, Int.reduceLE, Int.reduceToNat]
     · replace T := T.2 c4
       obtain ⟨rfl, rfl⟩ := T
       simp only [eq_false c1, eq_false c3, eq_false c4, U_val_Text, lw, le, reduceIte, reduceCtorEq, Nat.reduceEqDiff, Nat.reduceAdd, Nat.reduceLeDiff, Nat.reduceSub, Nat.reduceLT, Int.reduceEq, Int.reduceLT, Int.reduceLE, Int.reduceToNat]
theorem sp_val_One : SP 33 = some (.code sc_val_One) := SPof_code rfl Tryd.func33 comp_val_One
/-! doorkeeper/val.One -/
set_option maxHeartbeats 4000000 in
theorem val_One_tree (kind : Int) (v : V) (ra : V) (rb : Int) (T :
  ((kind = 8) →
  ((v.k = 3) →
   ∃ (r1 : V), (R_val_Bool (decide (v.n = 0)) r1) ∧
   r1 = ra ∧ 0 = rb) ∧
  (¬ (v.k = 3) →
   (V.mk 0 0 [] []) = ra ∧ 7 = rb)) ∧
 (¬ (kind = 8) →
  ((kind = 9) →
   ((v.k = 1) →
    ((v.n = (-9223372036854775808)) →
     (V.mk 0 0 [] []) = ra ∧ 8 = rb) ∧
    (¬ (v.n = (-9223372036854775808)) →
     (I64 (0 - v.n)) ∧
     ∃ (r2 : V), (R_val_Int (0 - v.n) r2) ∧
     r2 = ra ∧ 0 = rb)) ∧
   (¬ (v.k = 1) →
    (V.mk 0 0 [] []) = ra ∧ 7 = rb)) ∧
  (¬ (kind = 9) →
   (V.mk 0 0 [] []) = ra ∧ 1 = rb))) : R_val_One kind v ra rb := by
 intro S
 rw [call_code sp_val_One _ _ rfl]
 by_cases c1 : kind = 8
 · replace T := T.1 c1
   by_cases c2 : v.k = 3
   · replace T := T.1 c2
     obtain ⟨r1, q3, rfl, rfl⟩ := T
     simp only [R_val_Bool, le] at q3
     simp only [eq_true c1, eq_true c2, q3, U_val_One, lw, le, reduceIte, reduceCtorEq, Nat.reduceEqDiff, Nat.reduceAdd, Nat.reduceLeDiff, Nat.reduceSub, Nat.reduceLT, Int.reduceEq, Int.reduceLT, Int.reduceLE, Int.reduceToNat]
   · replace T := T.2 c2
     obtain ⟨rfl, rfl⟩ := T
     simp only [eq_true c1, eq_false c2, U_val_One, lw, le, reduceIte, reduceCtorEq, Nat.reduceEqDiff, Nat.reduceAdd, Nat.reduceLeDiff, Nat.reduceSub, Nat.reduceLT, Int.reduceEq, Int.reduceLT, Int.reduceLE, Int.reduceToNat]
 · replace T := T.2 c1
   by_cases c4 : kind = 9
   · replace T := T.1 c4
     by_cases c5 : v.k = 1
     · replace T := T.1 c5
       by_cases c6 : v.n = (-9223372036854775808)
       · replace T := T.1 c6
         obtain ⟨rfl, rfl⟩ := T
         simp only [eq_false c1, eq_true c4, eq_true c5, eq_true c6, U_val_One, lw, le, reduceIte, reduceCtorEq, Nat.reduceEqDiff, Nat.reduceAdd, Nat.reduceLeDiff, Nat.reduceSub, Nat.reduceLT, Int.reduceEq, Int.reduceLT, Int.reduceLE, Int.reduceToNat]
       · replace T := T.2 c6
         obtain ⟨p7, r2, q8, rfl, rfl⟩ := T
         simp only [R_val_Int, le] at q8
         simp only [eq_false c1, eq_true c4, eq_true c5, eq_false c6, p7.wrap, q8, U_val_One, lw, le, reduceIte, reduceCtorEq, Nat.reduceEqDiff, Nat.reduceAdd, Nat.reduceLeDiff, Nat.reduceSub, Nat.reduceLT, Int.reduceEq, Int.reduceLT, Int.reduceLE, Int.reduceToNat]
     · replace T := T.2 c5
       obtain ⟨rfl, rfl⟩ := T
       simp only [eq_false c1, eq_true c4, eq_false c5, U_val_One, lw, le, reduceIte, reduceCtorEq, Nat.reduceEqDiff, Nat.reduceAdd, Nat.reduceLeDiff, Nat.reduceSub, Nat.reduceLT, Int.reduceEq, Int.reduceLT, Int.reduceLE, Int.reduceToNat]
   · replace T := T.2 c4
     obtain ⟨rfl, rfl⟩ := T
     simp only [eq_false c1, eq_false c4, U_val_One, lw, le, reduceIte, reduceCtorEq, Nat.reduceEqDiff, Nat.reduceAdd, Nat.reduceLeDiff, Nat.reduceSub, Nat.reduceLT, Int.reduceEq, Int.reduceLT, Int.reduceLE, Int.reduceToNat]
theorem sp_val_Two : SP 34 = some (.code sc_val_Two) := SPof_code rfl Tryd.func34 comp_val_Two
/-! doorkeeper/val.Two -/
set_option maxHeartbeats 4000000 in
theorem val_Two_tree (kind : Int) (a : V) (b : V) (ra : V) (rb : Int) (T :
  ((kind < 11) →
  (V.mk 0 0 [] []) = ra ∧ 1 = rb) ∧
 (¬ (kind < 11) →
  ((23 < kind) →
   (V.mk 0 0 [] []) = ra ∧ 1 = rb) ∧
  (¬ (23 < kind) →
   ((kind ≤ 12) →
    ((a.k = b.k) →
     ((a.k = 3) →
      ((kind = 11) →
       (I64 (a.n + b.n)) ∧
       ∃ (r1 : V), (R_val_Bool (decide (0 < (a.n + b.n))) r1) ∧
       r1 = ra ∧ 0 = rb) ∧
      (¬ (kind = 11) →
       (I64 (a.n + b.n)) ∧
       ∃ (r2 : V), (R_val_Bool (decide ((a.n + b.n) = 2)) r2) ∧
       r2 = ra ∧ 0 = rb)) ∧
     (¬ (a.k = 3) →
      ((kind = 13) →
       ∃ (r3 : Bool), (R_val_Same a b r3) ∧
       ∃ (r4 : V), (R_val_Bool (decide (r3 = true)) r4) ∧
       r4 = ra ∧ 0 = rb) ∧
      (¬ (kind = 13) →
       ((kind = 14) →
        ∃ (r5 : Bool), (R_val_Same a b r5) ∧
        ∃ (r6 : V), (R_val_Bool (decide (r5 = false)) r6) ∧
        r6 = ra ∧ 0 = rb) ∧
       (¬ (kind = 14) →
        ((kind ≤ 14) →
         (V.mk 0 0 [] []) = ra ∧ 7 = rb) ∧
        (¬ (kind ≤ 14) →
         ((a.k = 1) →
          ((kind ≤ 18) →
           ∃ (r7 : Bool), (R_val_compare kind a.n b.n r7) ∧
           ∃ (r8 : V), (R_val_Bool r7 r8) ∧
           r8 = ra ∧ 0 = rb) ∧
          (¬ (kind ≤ 18) →
           ∃ (r9 : Int) (r10 : Int), (R_val_reckon kind a.n b.n r9 r10) ∧
           ((r10 = 0) →
            ∃ (r11 : V), (R_val_Int r9 r11) ∧
            r11 = ra ∧ 0 = rb) ∧
           (¬ (r10 = 0) →
            (V.mk 0 0 [] []) = ra ∧ r10 = rb))) ∧
         (¬ (a.k = 1) →
          (V.mk 0 0 [] []) = ra ∧ 7 = rb)))))) ∧
    (¬ (a.k = b.k) →
     ((kind = 13) →
      ((kind ≤ 14) →
       (V.mk 0 0 [] []) = ra ∧ 7 = rb) ∧
      (¬ (kind ≤ 14) →
       (V.mk 0 0 [] []) = ra ∧ 7 = rb)) ∧
     (¬ (kind = 13) →
      ((kind = 14) →
       ((kind ≤ 14) →
        (V.mk 0 0 [] []) = ra ∧ 7 = rb) ∧
       (¬ (kind ≤ 14) →
        (V.mk 0 0 [] []) = ra ∧ 7 = rb)) ∧
      (¬ (kind = 14) →
       ((kind ≤ 14) →
        (V.mk 0 0 [] []) = ra ∧ 7 = rb) ∧
       (¬ (kind ≤ 14) →
        (V.mk 0 0 [] []) = ra ∧ 7 = rb))))) ∧
   (¬ (kind ≤ 12) →
    ((kind = 13) →
     ((a.k = b.k) →
      ∃ (r12 : Bool), (R_val_Same a b r12) ∧
      ∃ (r13 : V), (R_val_Bool (decide (r12 = true)) r13) ∧
      r13 = ra ∧ 0 = rb) ∧
     (¬ (a.k = b.k) →
      ((kind ≤ 14) →
       (V.mk 0 0 [] []) = ra ∧ 7 = rb) ∧
      (¬ (kind ≤ 14) →
       (V.mk 0 0 [] []) = ra ∧ 7 = rb))) ∧
    (¬ (kind = 13) →
     ((kind = 14) →
      ((a.k = b.k) →
       ∃ (r14 : Bool), (R_val_Same a b r14) ∧
       ∃ (r15 : V), (R_val_Bool (decide (r14 = false)) r15) ∧
       r15 = ra ∧ 0 = rb) ∧
      (¬ (a.k = b.k) →
       ((kind ≤ 14) →
        (V.mk 0 0 [] []) = ra ∧ 7 = rb) ∧
       (¬ (kind ≤ 14) →
        (V.mk 0 0 [] []) = ra ∧ 7 = rb))) ∧
     (¬ (kind = 14) →
      ((kind ≤ 14) →
       (V.mk 0 0 [] []) = ra ∧ 7 = rb) ∧
      (¬ (kind ≤ 14) →
       ((a.k = b.k) →
        ((a.k = 1) →
         ((kind ≤ 18) →
          ∃ (r16 : Bool), (R_val_compare kind a.n b.n r16) ∧
          ∃ (r17 : V), (R_val_Bool r16 r17) ∧
          r17 = ra ∧ 0 = rb) ∧
         (¬ (kind ≤ 18) →
          ∃ (r18 : Int) (r19 : Int), (R_val_reckon kind a.n b.n r18 r19) ∧
          ((r19 = 0) →
           ∃ (r20 : V), (R_val_Int r18 r20) ∧
           r20 = ra ∧ 0 = rb) ∧
          (¬ (r19 = 0) →
           (V.mk 0 0 [] []) = ra ∧ r19 = rb))) ∧
        (¬ (a.k = 1) →
         (V.mk 0 0 [] []) = ra ∧ 7 = rb)) ∧
       (¬ (a.k = b.k) →
        (V.mk 0 0 [] []) = ra ∧ 7 = rb)))))))) : R_val_Two kind a b ra rb := by
 intro S
 rw [call_code sp_val_Two _ _ rfl]
 by_cases c1 : kind < 11
 · replace T := T.1 c1
   obtain ⟨rfl, rfl⟩ := T
   simp only [eq_true c1, U_val_Two, lw, le, reduceIte, reduceCtorEq, Nat.reduceEqDiff, Nat.reduceAdd, Nat.reduceLeDiff, Nat.reduceSub, Nat.reduceLT, Int.reduceEq, Int.reduceLT, Int.reduceLE, Int.reduceToNat]
 · replace T := T.2 c1
   by_cases c2 : 23 < kind
   · replace T := T.1 c2
     obtain ⟨rfl, rfl⟩ := T
     simp only [eq_false c1, eq_true c2, U_val_Two, lw, le, reduceIte, reduceCtorEq, Nat.reduceEqDiff, Nat.reduceAdd, Nat.reduceLeDiff, Nat.reduceSub, Nat.reduceLT, Int.reduceEq, Int.reduceLT, Int.reduceLE, Int.reduceToNat]
   · replace T := T.2 c2
     by_cases c3 : kind ≤ 12
     · replace T := T.1 c3
       by_cases c4 : a.k = b.k
       · replace T := T.1 c4
         by_cases c5 : a.k = 3
         · replace T := T.1 c5
           by_cases c6 : kind = 11
           · replace T := T.1 c6
             obtain ⟨p7, r1, q8, rfl, rfl⟩ := T
             simp only [R_val_Bool, le] at q8
             simp only [eq_false c1, eq_false c2, eq_true c3, eq_true c4, eq_true c5, eq_true c6, p7.wrap, q8, U_val_Two, lw, le, reduceIte, reduceCtorEq, Nat.reduceEqDiff, Nat.reduceAdd, Nat.reduceLeDiff, Nat.reduceSub, Nat.reduceLT, Int.reduceEq, Int.reduceLT, Int.reduceLE, Int.reduceToNat]
           · replace T := T.2 c6
             obtain ⟨p9, r2, q10, rfl, rfl⟩ := T
             simp only [R_val_Bool, le] at q10
             simp only [eq_false c1, eq_false c2, eq_true c3, eq_true c4, eq_true c5, eq_false c6, p9.wrap, q10, U_val_Two, lw, le, reduceIte, reduceCtorEq, Nat.reduceEqDiff, Nat.reduceAdd, Nat.reduceLeDiff, Nat.reduceSub, Nat.reduceLT, Int.reduceEq, Int.reduceLT, Int.reduceLE, Int.reduceToNat]
         · replace T := T.2 c5
           by_cases c11 : kind = 13
           · replace T := T.1 c11
             obtain ⟨r3, q12, r4, q13, rfl, rfl⟩ := T
             simp only [R_val_Same, le] at q12
             simp only [R_val_Bool, le] at q13
             simp only [eq_false c1, eq_false c2, eq_true c3, eq_true c4, eq_false c5, eq_true c11, q12, q13, U_val_Two, lw, le, reduceIte, reduceCtorEq, Nat.reduceEqDiff, Nat.reduceAdd, Nat.reduceLeDiff, Nat.reduceSub, Nat.reduceLT, Int.reduceEq, Int.reduceLT, Int.reduceLE, Int.reduceToNat]
           · replace T := T.2 c11
             by_cases c14 : kind = 14
             · replace T := T.1 c14
               obtain ⟨r5, q15, r6, q16, rfl, rfl⟩ := T
               simp only [R_val_Same, le] at q15
               simp only [R_val_Bool, le] at q16
               simp only [eq_false c1, eq_false c2, eq_true c3, eq_true c4, eq_false c5, eq_false c11, eq_true c14, q15, q16, U_val_Two, lw, le, reduceIte, reduceCtorEq, Nat.reduceEqDiff, Nat.reduceAdd, Nat.reduceLeDiff, Nat.reduceSub, Nat.reduceLT, Int.reduceEq, Int.reduceLT, Int.reduceLE, Int.reduceToNat]
             · replace T := T.2 c14
               by_cases c17 : kind ≤ 14
               · replace T := T.1 c17
                 obtain ⟨rfl, rfl⟩ := T
                 simp only [eq_false c1, eq_false c2, eq_true c3, eq_true c4, eq_false c5, eq_false c11, eq_false c14, eq_true c17, U_val_Two, lw, le, reduceIte, reduceCtorEq, Nat.reduceEqDiff, Nat.reduceAdd, Nat.reduceLeDiff, Nat.reduceSub, Nat.reduceLT, Int.reduceEq, Int.reduceLT, Int.reduceLE, Int.reduceToNat]
               · replace T := T.2 c17
                 by_cases c18 : a.k = 1
                 · replace T := T.1 c18
                   by_cases c19 : kind ≤ 18
                   · replace T := T.1 c19
                     obtain ⟨r7, q20, r8, q21, rfl, rfl⟩ := T
                     simp only [R_val_compare, le] at q20
                     simp only [R_val_Bool, le] at q21
                     simp only [eq_false c1, eq_false c2, eq_true c3, eq_true c4, eq_false c5, eq_false c11, eq_false c14, eq_false c17, eq_true c18, eq_true c19, q20, q21, U_val_Two, lw, le, reduceIte, reduceCtorEq, Nat.reduceEqDiff, Nat.reduceAdd, Nat.reduceLeDiff, Nat.reduceSub, Nat.reduceLT, Int.reduceEq, Int.reduceLT, Int.reduceLE, Int.reduceToNat]
                   · replace T := T.2 c19
                     obtain ⟨r9, r10, q22, T⟩ := T
                     simp only [R_val_reckon, le] at q22
                     by_cases c23 : r10 = 0
                     · replace T := T.1 c23
                       obtain ⟨r11, q24, rfl, rfl⟩ := T
                       simp only [R_val_Int, le] at q24
                       simp only [eq_false c1, eq_false c2, eq_true c3, eq_true c4, eq_false c5, eq_false c11, eq_false c14, eq_false c17, eq_true c18, eq_false c19, q22, eq_true c23, q24, U_val_Two, lw, le, reduceIte, reduceCtorEq, Nat.reduceEqDiff, Nat.reduceAdd, Nat.reduceLeDiff, Nat.reduceSub, Nat.reduceLT, Int.reduceEq, Int.reduceLT, Int.reduceLE, Int.reduceToNat]
                     · replace T := T.2 c23
                       obtain ⟨rfl, rfl⟩ := T
                       simp only [eq_false c1, eq_false c2, eq_true c3, eq_true c4, eq_false c5, eq_false c11, eq_false c14, eq_false c17, eq_true c18, eq_false c19, q22, eq_false c23, U_val_Two, lw, le, reduceIte, reduceCtorEq, Nat.reduceEqDiff, Nat.reduceAdd, Nat.reduceLeDiff, Nat.reduceSub, Nat.reduceLT, Int.reduceEq, Int.reduceLT, Int.reduceLE, Int.reduceToNat]
                 · replace T := T.2 c18
                   obtain ⟨rfl, rfl⟩ := T
                   simp only [eq_false c1, eq_false c2, eq_true c3, eq_true c4, eq_false c5, eq_false c11, eq_false c14, eq_false c17, eq_false c18, U_val_Two, lw, le, reduceIte, reduceCtorEq, Nat.reduceEqDiff, Nat.reduceAdd, Nat.reduceLeDiff, Nat.reduceSub, Nat.reduceLT, Int.reduceEq, Int.reduceLT, Int.reduceLE, Int.reduceToNat]
       · replace T := T.2 c4
         by_cases c25 : kind = 13
         · replace T := T.1 c25
           by_cases c26 : kind ≤ 14
           · replace T := T.1 c26
             obtain ⟨rfl, rfl⟩ := T
             simp only [eq_false c1, eq_false c2, eq_true c3, eq_false c4, eq_true c25, eq_true c26, U_val_Two, lw, le, reduceIte, reduceCtorEq, Nat.reduceEqDiff, Nat.reduceAdd, Nat.reduceLeDiff, Nat.reduceSub, Nat.reduceLT, Int.reduceEq, Int.reduceLT, Int.reduceLE, Int.reduceToNat]
           · replace T := T.2 c26
             obtain ⟨rfl, rfl⟩ := T
             simp only [eq_false c1, eq_false c2, eq_true c3, eq_false c4, eq_true c25, eq_false c26, U_val_Two, lw, le, reduceIte, reduceCtorEq, Nat.reduceEqDiff, Nat.reduceAdd, Nat.reduceLeDiff, Nat.reduceSub, Nat.reduceLT, Int.reduceEq, Int.reduceLT, Int.reduceLE, Int.reduceToNat]
         · replace T := T.2 c25
           by_cases c27 : kind = 14
           · replace T := T.1 c27
             by_cases c28 : kind ≤ 14
             · replace T := T.1 c28
               obtain ⟨rfl, rfl⟩ := T
               simp only [eq_false c1, eq_false c2, eq_true c3, eq_false c4, eq_false c25, eq_true c27, eq_true c28, U_val_Two, lw, le, reduceIte, reduceCtorEq, Nat.reduceEqDiff, Nat.reduceAdd, Nat.reduceLeDiff, Nat.reduceSub, Nat.reduceLT, Int.reduceEq, Int.reduceLT, Int.reduceLE, Int.reduceToNat]
             · replace T := T.2 c28
               obtain ⟨rfl, rfl⟩ := T
               simp only [eq_false c1, eq_false c2, eq_true c3, eq_false c4, eq_false c25, eq_true c27, eq_false c28, U_val_Two, lw, le, reduceIte, reduceCtorEq, Nat.reduceEqDiff, Nat.reduceAdd, Nat.reduceLeDiff, Nat.reduceSub, Nat.reduceLT, Int.reduceEq, Int.reduceLT, Int.reduceLE, Int.reduceToNat]
           · replace T := T.2 c27
             by_cases c29 : kind ≤ 14
             · replace T := T.1 c29
               obtain ⟨rfl, rfl⟩ := T
               simp only [eq_false c1, eq_false c2, eq_true c3, eq_false c4, eq_false c25, eq_false c27, eq_true c29, U_val_Two, lw, le, reduceIte, reduceCtorEq, Nat.reduceEqDiff, Nat.reduceAdd, Nat.reduceLeDiff, Nat.reduceSub, Nat.reduceLT, Int.reduceEq, Int.reduceLT, Int.reduceLE, Int.reduceToNat]
             · replace T := T.2 c29
               obtain ⟨rfl, rfl⟩ := T
               simp only [eq_false c1, eq_false c2, eq_true c3, eq_false c4, eq_false c25, eq_false c27, eq_false c29, U_val_Two, lw, le, reduceIte, reduceCtorEq, Nat.reduceEqDiff, Nat.reduceAdd, Nat.reduceLeDiff, Nat.reduceSub, Nat.reduceLT, Int.reduceEq, Int.reduceLT, Int.reduceLE, Int.reduceToNat]
     · replace T := T.2 c3
       by_cases c30 : kind = 13
       · replace T := T.1 c30
         by_cases c31 : a.k = b.k
         · replace T := T.1 c31
           obtain ⟨r12, q32, r13, q33, rfl, rfl⟩ := T
           simp only [R_val_Same, le] at q32
           simp only [R_val_Bool, le] at q33
           simp only [eq_false c1, eq_false c2, eq_false c3, eq_true c30, eq_true c31, q32, q33, U_val_Two, lw, le, reduceIte, reduceCtorEq, Nat.reduceEqDiff, Nat.reduceAdd, Nat.reduceLeDiff, Nat.reduceSub, Nat.reduceLT, Int.reduceEq, Int.reduceLT, Int.reduceLE, Int.reduceToNat]
         · replace T := T.2 c31
           by_cases c34 : kind ≤ 14
           · replace T := T.1 c34
             obtain ⟨rfl, rfl⟩ := T
             simp only [eq_false c1, eq_false c2, eq_false c3, eq_true c30, eq_false c31, eq_true c34, U_val_Two, lw, le, reduceIte, reduceCtorEq, Nat.reduceEqDiff, Nat.reduceAdd, Nat.reduceLeDiff, Nat.reduceSub, Nat.reduceLT, Int.reduceEq, Int.reduceLT, Int.reduceLE, Int.reduceToNat]
           · replace T := T.2 c34
             obtain ⟨rfl, rfl⟩ := T
             simp only [eq_false c1, eq_false c2, eq_false c3, eq_true c30, eq_false c31, eq_false c34, U_val_Two, lw, le, reduceIte, reduceCtorEq, Nat.reduceEqDiff, Nat.reduceAdd, Nat.reduceLeDiff, Nat.reduceSub, Nat.reduceLT, Int.reduceEq, Int.reduceLT, Int.reduceLE, Int.reduceToNat]
       · replace T := T.2 c30
         by_cases c35 : kind = 14
         · replace T := T.1 c35
           by_cases c36 : a.k = b.k
           · replace T := T.1 c36
             obtain ⟨r14, q37, r15, q38, rfl, rfl⟩ := T
             simp only [R_val_Same, le] at q37
             simp only [R_val_Bool, le] at q38
             simp only [eq_false c1, eq_false c2, eq_false c3, eq_false c30, eq_true c35, eq_true c36, q37, q38, U_val_Two, lw, le, reduceIte, reduceCtorEq, Nat.reduceEqDiff, Nat.reduceAdd, Nat.reduceLeDiff, Nat.reduceSub, Nat.reduceLT, Int.reduceEq, Int.reduceLT, Int.reduceLE, Int.reduceToNat]
           · replace T := T.2 c36
             by_cases c39 : kind ≤ 14
             · replace T := T.1 c39
               obtain ⟨rfl, rfl⟩ := T
               simp only [eq_false c1, eq_false c2, eq_false c3, eq_false c30, eq_true c35, eq_false c36, eq_true c39, U_val_Two, lw, le, reduceIte, reduceCtorEq, Nat.reduceEqDiff, Nat.reduceAdd, Nat.reduceLeDiff, Nat.reduceSub, Nat.reduceLT, Int.reduceEq, Int.reduceLT, Int.reduceLE, Int.reduceToNat]
             · replace T := T.2 c39
               obtain ⟨rfl, rfl⟩ := T
               simp only [eq_false c1, eq_false c2, eq_false c3, eq_false c30, eq_true c35, eq_false c36, eq_false c39, U_val_Two, lw, le, reduceIte, reduceCtorEq, Nat.reduceEqDiff, Nat.reduceAdd, Nat.reduceLeDiff, Nat.reduceSub, Nat.reduceLT, Int.reduceEq, Int.reduceLT, Int.reduceLE, Int.reduceToNat]
         · replace T := T.2 c35
           by_cases c40 : kind ≤ 14
           · replace T := T.1 c40
             obtain ⟨rfl, rfl⟩ := T
             simp only [eq_false c1, eq_false c2, eq_false c3, eq_false c30, eq_false c35, eq_true c40, U_val_Two, lw, le, reduceIte, reduceCtorEq, Nat.reduceEqDiff, Nat.reduceAdd, Nat.reduceLeDiff, Nat.reduceSub, Nat.reduceLT, Int.reduceEq, Int.reduceLT, Int.reduceLE, Int.reduceToNat]
           · replace T := T.2 c40
             by_cases c41 : a.k = b.k
             · replace T := T.1 c41
               by_cases c42 : a.k = 1
               · replace T := T.1 c42
                 by_cases c43 : kind ≤ 18
                 · replace T := T.1 c43
                   obtain ⟨r16, q44, r17, q45, rfl, rfl⟩ := T
                   simp only [R_val_compare, le] at q44
                   simp only [R_val_Bool, le] at q45
                   simp only [eq_false c1, eq_false c2, eq_false c3, eq_false c30, eq_false c35, eq_false c40, eq_true c41, eq_true c42, eq_true c43, q44, q45, U_val_Two, lw, le, reduceIte, reduceCtorEq, Nat.reduceEqDiff, Nat.reduceAdd, Nat.reduceLeDiff, Nat.reduceSub, Nat.reduceLT, Int.reduceEq, Int.reduceLT, Int.reduceLE, Int.reduceToNat]
                 · replace T := T.2 c43
                   obtain ⟨r18, r19, q46, T⟩ := T
                   simp only [R_val_reckon, le] at q46
                   by_cases c47 : r19 = 0
                   · replace T := T.1 c47
                     obtain ⟨r20, q48, rfl, rfl⟩ := T
                     simp only [R_val_Int, le] at q48
                     simp only [eq_false c1, eq_false c2, eq_false c3, eq_false c30, eq_false c35, eq_false c40, eq_true c41, eq_true c42, eq_false c43, q46, eq_true c47, q48, U_val_Two, lw, le, reduceIte, reduceCtorEq, Nat.reduceEqDiff, Nat.reduceAdd, Nat.reduceLeDiff, Nat.reduceSub, Nat.reduceLT, Int.reduceEq, Int.reduceLT, Int.reduceLE, Int.reduceToNat]
                   · replace T := T.2 c47
                     obtain ⟨rfl, rfl⟩ := T
                     simp only [eq_false c1, eq_false c2, eq_false c3, eq_false c30, eq_false c35, eq_false c40, eq_true c41, eq_true c42, eq_false c43, q46, eq_false c47, U_val_Two, lw, le, reduceIte, reduceCtorEq, Nat.reduceEqDiff, Nat.reduceAdd, Nat.reduceLeDiff, Nat.reduceSub, Nat.reduceLT, Int.reduceEq, Int.reduceLT, Int.reduceLE, Int.reduceToNat]
               · replace T := T.2 c42
                 obtain ⟨rfl, rfl⟩ := T
                 simp only [eq_false c1, eq_false c2, eq_false c3, eq_false c30, eq_false c35, eq_false c40, eq_true c41, eq_false c42, U_val_Two, lw, le, reduceIte, reduceCtorEq, Nat.reduceEqDiff, Nat.reduceAdd, Nat.reduceLeDiff, Nat.reduceSub, Nat.reduceLT, Int.reduceEq, Int.reduceLT, Int.reduceLE, Int.reduceToNat]
             · replace T := T.2 c41
               obtain ⟨rfl, rfl⟩ := T
               simp only [eq_false c1, eq_false c2, eq_false c3, eq_false c30, eq_false c35, eq_false c40, eq_false c41, U_val_Two, lw, le, reduceIte, reduceCtorEq, Nat.reduceEqDiff, Nat.reduceAdd, Nat.reduceLeDiff, Nat.reduceSub, Nat.reduceLT, Int.reduceEq, Int.reduceLT, Int.reduceLE, Int.reduceToNat]
theorem sp_val_Index : SP 35 = some (.code sc_val_Index) := SPof_code rfl Tryd.func35 comp_val_Index
/-! doorkeeper/val.Index -/
set_option maxHeartbeats 4000000 in
theorem val_Index_tree (a : V) (b : V) (ra : V) (rb : Int) (T :
  ((a.k = 4) →
  ((b.k = 1) →
   ((b.n < 0) →
    (V.mk 0 0 [] []) = ra ∧ 2 = rb) ∧
   (¬ (b.n < 0) →
    ((((a.l.length : Nat) : Int) ≤ b.n) →
     (V.mk 0 0 [] []) = ra ∧ 2 = rb) ∧
    (¬ (((a.l.length : Nat) : Int) ≤ b.n) →
     (0 ≤ b.n) ∧
     ∃ (v1 : V), (a.l[b.n.toNat]? = some v1) ∧
     v1 = ra ∧ 0 = rb))) ∧
  (¬ (b.k = 1) →
   (V.mk 0 0 [] []) = ra ∧ 7 = rb)) ∧
 (¬ (a.k = 4) →
  (V.mk 0 0 [] []) = ra ∧ 7 = rb)) : R_val_Index a b ra rb := by
 intro S
 rw [call_code sp_val_Index _ _ rfl]
 by_cases c1 : a.k = 4
 · replace T := T.1 c1
   by_cases c2 : b.k = 1
   · replace T := T.1 c2
     by_cases c3 : b.n < 0
     · replace T := T.1 c3
       obtain ⟨rfl, rfl⟩ := T
       simp only [eq_true c1, eq_true c2, eq_true c3, U_val_Index, lw, le, reduceIte, reduceCtorEq, Nat.reduceEqDiff, Nat.reduceAdd, Nat.reduceLeDiff, Nat.reduceSub, Nat.reduceLT, Int.reduceEq, Int.reduceLT, Int.reduceLE, Int.reduceToNat]
     · replace T := T.2 c3
       by_cases c4 : ((a.l.length : Nat) : Int) ≤ b.n
       · replace T := T.1 c4
         obtain ⟨rfl, rfl⟩ := T
         simp only [eq_true c1, eq_true c2, eq_false c3, eq_true c4, U_val_Index, lw, le, reduceIte, reduceCtorEq, Nat.reduceEqDiff, Nat.reduceAdd, Nat.reduceLeDiff, Nat.reduceSub, Nat.reduceLT, Int.reduceEq, Int.reduceLT, Int.reduceLE, Int.reduceToNat]
       · replace T := T.2 c4
         obtain ⟨p5, v1, q6, rfl, rfl⟩ := T
         simp only [eq_true c1, eq_true c2, eq_false c3, eq_false c4, p5, q6, U_val_Index, lw, le, reduceIte, reduceCtorEq, Nat.reduceEqDiff, Nat.reduceAdd, Nat.reduceLeDiff, Nat.reduceSub, Nat.reduceLT, Int.reduceEq, Int.reduceLT, Int.reduceLE, Int.reduceToNat]
   · replace T := T.2 c2
     obtain ⟨rfl, rfl⟩ := T
     simp only [eq_true c1, eq_false c2, U_val_Index, lw, le, reduceIte, reduceCtorEq, Nat.reduceEqDiff, Nat.reduceAdd, Nat.reduceLeDiff, Nat.reduceSub, Nat.reduceLT, Int.reduceEq, Int.reduceLT, Int.reduceLE, Int.reduceToNat]
 · replace T := T.2 c1
   obtain ⟨rfl, rfl⟩ := T
   simp only [eq_false c1, U_val_Index, lw, le, reduceIte, reduceCtorEq, Nat.reduceEqDiff, Nat.reduceAdd, Nat.reduceLeDiff, Nat.reduceSub, Nat.reduceLT, Int.reduceEq, Int.reduceLT, Int.reduceLE, Int.reduceToNat]
theorem sp_val_reckon : SP 78 = some (.code sc_val_reckon) := SPof_code rfl Tryd.func78 comp_val_reckon
/-! doorkeeper/val.reckon -/
set_option maxHeartbeats 4000000 in
theorem val_reckon_tree (kind : Int) (a : Int) (b : Int) (ra : Int) (rb : Int) (T :
  ((kind = 19) →
  (((decide (a < (IntKind.i64.wrap (a + b)))) = (decide (0 < b))) →
   (IntKind.i64.wrap (a + b)) = ra ∧ 0 = rb) ∧
  (¬ ((decide (a < (IntKind.i64.wrap (a + b)))) = (decide (0 < b))) →
   0 = ra ∧ 8 = rb)) ∧
 (¬ (kind = 19) →
  ((kind = 20) →
   (((decide ((IntKind.i64.wrap (a - b)) < a)) = (decide (0 < b))) →
    (IntKind.i64.wrap (a - b)) = ra ∧ 0 = rb) ∧
   (¬ ((decide ((IntKind.i64.wrap (a - b)) < a)) = (decide (0 < b))) →
    0 = ra ∧ 8 = rb)) ∧
  (¬ (kind = 20) →
   ((kind = 21) →
    ((a = 0) →
     (IntKind.i64.wrap (a * b)) = ra ∧ 0 = rb) ∧
    (¬ (a = 0) →
     ¬ (a = 0) ∧
     (((IntKind.i64.wrap ((IntKind.i64.wrap (a * b)).tdiv a)) = b) →
      ((a = (-1)) →
       ((b = (-9223372036854775808)) →
        0 = ra ∧ 8 = rb) ∧
       (¬ (b = (-9223372036854775808)) →
        (IntKind.i64.wrap (a * b)) = ra ∧ 0 = rb)) ∧
      (¬ (a = (-1)) →
       (IntKind.i64.wrap (a * b)) = ra ∧ 0 = rb)) ∧
     (¬ ((IntKind.i64.wrap ((IntKind.i64.wrap (a * b)).tdiv a)) = b) →
      0 = ra ∧ 8 = rb))) ∧
   (¬ (kind = 21) →
    ((b = 0) →
     0 = ra ∧ 9 = rb) ∧
    (¬ (b = 0) →
     ((kind = 23) →
      ¬ (b = 0) ∧
      (a.tmod b) = ra ∧ 0 = rb) ∧
     (¬ (kind = 23) →
      ¬ (b = 0) ∧
      ((a = (-9223372036854775808)) →
       ((b = (-1)) →
        0 = ra ∧ 8 = rb) ∧
       (¬ (b = (-1)) →
        (IntKind.i64.wrap (a.tdiv b)) = ra ∧ 0 = rb)) ∧
      (¬ (a = (-9223372036854775808)) →
       (IntKind.i64.wrap (a.tdiv b)) = ra ∧ 0 = rb))))))) : R_val_reckon kind a b ra rb := by
 intro S
 rw [call_code sp_val_reckon _ _ rfl]
 by_cases c1 : kind = 19
 · replace T := T.1 c1
   by_cases c2 : (decide (a < (IntKind.i64.wrap (a + b)))) = (decide (0 < b))
   · replace T := T.1 c2
     obtain ⟨rfl, rfl⟩ := T
     simp only [eq_true c1, c2, U_val_reckon, lw, le, reduceIte, reduceCtorEq, Nat.reduceEqDiff, Nat.reduceAdd, Nat.reduceLeDiff, Nat.reduceSub, Nat.reduceLT, Int.reduceEq, Int.reduceLT, Int.reduceLE, Int.reduceToNat]
   · replace T := T.2 c2
     obtain ⟨rfl, rfl⟩ := T
     simp only [eq_true c1, eq_false c2, U_val_reckon, lw, le, reduceIte, reduceCtorEq, Nat.reduceEqDiff, Nat.reduceAdd, Nat.reduceLeDiff, Nat.reduceSub, Nat.reduceLT, Int.reduceEq, Int.reduceLT, Int.reduceLE, Int.reduceToNat]
 · replace T := T.2 c1
   by_cases c3 : kind = 20
   · replace T := T.1 c3
     by_cases c4 : (decide ((IntKind.i64.wrap (a - b)) < a)) = (decide (0 < b))
     · replace T := T.1 c4
       obtain ⟨rfl, rfl⟩ := T
       simp only [eq_false c1, eq_true c3, c4, U_val_reckon, lw, le, reduceIte, reduceCtorEq, Nat.reduceEqDiff, Nat.reduceAdd, Nat.reduceLeDiff, Nat.reduceSub, Nat.reduceLT, Int.reduceEq, Int.reduceLT, Int.reduceLE, Int.reduceToNat]
     · replace T := T.2 c4
       obtain ⟨rfl, rfl⟩ := T
       simp only [eq_false c1, eq_true c3, eq_false c4, U_val_reckon, lw, le, reduceIte, reduceCtorEq, Nat.reduceEqDiff, Nat.reduceAdd, Nat.reduceLeDiff, Nat.reduceSub, Nat.reduceLT, Int.reduceEq, Int.reduceLT, Int.reduceLE, Int.reduceToNat]
   · replace T := T.2 c3
     by_cases c5 : kind = 21
     · replace T := T.1 c5
       by_cases c6 : a = 0
       · replace T := T.1 c6
         obtain ⟨rfl, rfl⟩ := T
         simp only [eq_false c1, eq_false c3, eq_true c5, eq_true c6, U_val_reckon, lw, le, reduceIte, reduceCtorEq, Nat.reduceEqDiff, Nat.reduceAdd, Nat.reduceLeDiff, Nat.reduceSub, Nat.reduceLT, Int.reduceEq, Int.reduceLT, Int.reduceLE, Int.reduceToNat]
       · replace T := T.2 c6
         obtain ⟨p7, T⟩ := T
         by_cases c8 : (IntKind.i64.wrap ((IntKind.i64.wrap (a * b)).tdiv a)) = b
         · replace T := T.1 c8
           by_cases c9 : a = (-1)
           · replace T := T.1 c9
             by_cases c10 : b = (-9223372036854775808)
             · replace T := T.1 c10
               obtain ⟨rfl, rfl⟩ := T
               simp only [eq_false c1, eq_false c3, eq_true c5, eq_false c6, eq_false p7, eq_true c8, eq_true c9, eq_true c10, U_val_reckon, lw, le, reduceIte, reduceCtorEq, Nat.reduceEqDiff, Nat.reduceAdd, Nat.reduceLeDiff, Nat.reduceSub, Nat.reduceLT, Int.reduceEq, Int.reduceLT, Int.reduceLE, Int.reduceToNat]
             · replace T := T.2 c10
               obtain ⟨rfl, rfl⟩ := T
               simp only [eq_false c1, eq_false c3, eq_true c5, eq_false c6, eq_false p7, eq_true c8, eq_true c9, eq_false c10, U_val_reckon, lw, le, reduceIte, reduceCtorEq, Nat.reduceEqDiff, Nat.reduceAdd, Nat.reduceLeDiff, Nat.reduceSub, Nat.reduceLT, Int.reduceEq, Int.reduceLT, Int.reduceLE, Int.reduceToNat]
           · replace T := T.2 c9
             obtain ⟨rfl, rfl⟩ := T
             simp only [eq_false c1, eq_false c3, eq_true c5, eq_false c6, eq_false p7, eq_true c8, eq_false c9, U_val_reckon, lw, le, reduceIte, reduceCtorEq, Nat.reduceEqDiff, Nat.reduceAdd, Nat.reduceLeDiff, Nat.reduceSub, Nat.reduceLT, Int.reduceEq, Int.reduceLT, Int.reduceLE, Int.reduceToNat]
         · replace T := T.2 c8
           obtain ⟨rfl, rfl⟩ := T
           simp only [eq_false c1, eq_false c3, eq_true c5, eq_false c6, eq_false p7, eq_false c8, U_val_reckon, lw, le, reduceIte, reduceCtorEq, Nat.reduceEqDiff, Nat.reduceAdd, Nat.reduceLeDiff, Nat.reduceSub, Nat.reduceLT, Int.reduceEq, Int.reduceLT, Int.reduceLE, Int.reduceToNat]
     · replace T := T.2 c5
       by_cases c11 : b = 0
       · replace T := T.1 c11
         obtain ⟨rfl, rfl⟩ := T
         simp only [eq_false c1, eq_false c3, eq_false c5, eq_true c11, U_val_reckon, lw, le, reduceIte, reduceCtorEq, Nat.reduceEqDiff, Nat.reduceAdd, Nat.reduceLeDiff, Nat.reduceSub, Nat.reduceLT, Int.reduceEq, Int.reduceLT, Int.reduceLE, Int.reduceToNat]
       · replace T := T.2 c11
         by_cases c12 : kind = 23
         · replace T := T.1 c12
           obtain ⟨p13, rfl, rfl⟩ := T
           simp only [eq_false c1, eq_false c3, eq_false c5, eq_false c11, eq_true c12, eq_false p13, U_val_reckon, lw, le, reduceIte, reduceCtorEq, Nat.reduceEqDiff, Nat.reduceAdd, Nat.reduceLeDiff, Nat.reduceSub, Nat.reduceLT, Int.reduceEq, Int.reduceLT, Int.reduceLE, Int.reduceToNat]
         · replace T := T.2 c12
           obtain ⟨p14, T⟩ := T
           by_cases c15 : a = (-9223372036854775808)
           · replace T := T.1 c15
             by_cases c16 : b = (-1)
             · replace T := T.1 c16
               obtain ⟨rfl, rfl⟩ := T
               simp only [eq_false c1, eq_false c3, eq_false c5, eq_false c11, eq_false c12, eq_false p14, eq_true c15, eq_true c16, U_val_reckon, lw, le, reduceIte, reduceCtorEq, Nat.reduceEqDiff, Nat.reduceAdd, Nat.reduceLeDiff, Nat.reduceSub, Nat.reduceLT, Int.reduceEq, Int.reduceLT, Int.reduceLE, Int.reduceToNat]
             · replace T := T.2 c16
               obtain ⟨rfl, rfl⟩ := T
               simp only [eq_false c1, eq_false c3, eq_false c5, eq_false c11, eq_false c12, eq_false p14, eq_true c15, eq_false c16, U_val_reckon, lw, le, reduceIte, reduceCtorEq, Nat.reduceEqDiff, Nat.reduceAdd, Nat.reduceLeDiff, Nat.reduceSub, Nat.reduceLT, Int.reduceEq, Int.reduceLT, Int.reduceLE, Int.reduceToNat]
           · replace T := T.2 c15
             obtain ⟨rfl, rfl⟩ := T
             simp only [eq_false c1, eq_false c3, eq_false c5, eq_false c11, eq_false c12, eq_false p14, eq_false c15, U_val_reckon, lw, le, reduceIte, reduceCtorEq, Nat.reduceEqDiff, Nat.reduceAdd, Nat.reduceLeDiff, Nat.reduceSub, Nat.reduceLT, Int.reduceEq, Int.reduceLT, Int.reduceLE, Int.reduceToNat]
theorem sp_val_compare : SP 77 = some (.code sc_val_compare) := SPof_code rfl Tryd.func77 comp_val_compare
/-! doorkeeper/val.compare -/
set_option maxHeartbeats 4000000 in
theorem val_compare_tree (kind : Int) (a : Int) (b : Int) (r : Bool) (T :
  ((kind = 15) →
  (decide (a < b)) = r) ∧
 (¬ (kind = 15) →
  ((kind = 16) →
   (decide (a ≤ b)) = r) ∧
  (¬ (kind = 16) →
   ((kind = 17) →
    (decide (b < a)) = r) ∧
   (¬ (kind = 17) →
    (decide (b ≤ a)) = r)))) : R_val_compare kind a b r := by
 intro S
 rw [call_code sp_val_compare _ _ rfl]
 by_cases c1 : kind = 15
 · replace T := T.1 c1
   obtain rfl := T
   simp only [eq_true c1, U_val_compare, lw, le, reduceIte, reduceCtorEq, Nat.reduceEqDiff, Nat.reduceAdd, Nat.reduceLeDiff, Nat.reduceSub, Nat.reduceLT, Int.reduceEq, Int.reduceLT, Int.reduceLE, Int.reduceToNat]
 · replace T := T.2 c1
   by_cases c2 : kind = 16
   · replace T := T.1 c2
     obtain rfl := T
     simp only [eq_false c1, eq_true c2, U_val_compare, lw, le, reduceIte, reduceCtorEq, Nat.reduceEqDiff, Nat.reduceAdd, Nat.reduceLeDiff, Nat.reduceSub, Nat.reduceLT, Int.reduceEq, Int.reduceLT, Int.reduceLE, Int.reduceToNat]
   · replace T := T.2 c2
     by_cases c3 : kind = 17
     · replace T := T.1 c3
       obtain rfl := T
       simp only [eq_false c1, eq_false c2, eq_true c3, U_val_compare, lw, le, reduceIte, reduceCtorEq, Nat.reduceEqDiff, Nat.reduceAdd, Nat.reduceLeDiff, Nat.reduceSub, Nat.reduceLT, Int.reduceEq, Int.reduceLT, Int.reduceLE, Int.reduceToNat]
     · replace T := T.2 c3
       obtain rfl := T
       simp only [eq_false c1, eq_false c2, eq_false c3, U_val_compare, lw, le, reduceIte, reduceCtorEq, Nat.reduceEqDiff, Nat.reduceAdd, Nat.reduceLeDiff, Nat.reduceSub, Nat.reduceLT, Int.reduceEq, Int.reduceLT, Int.reduceLE, Int.reduceToNat]
theorem sp_val_Bool : SP 75 = some (.code sc_val_Bool) := SPof_code rfl Tryd.func75 comp_val_Bool
/-! doorkeeper/val.Bool -/
set_option maxHeartbeats 4000000 in
theorem val_Bool_tree (is_ : Bool) (r : V) (T :
  ((is_ = true) →
  (V.mk 3 1 [] []) = r) ∧
 (¬ (is_ = true) →
  (V.mk 3 0 [] []) = r)) : R_val_Bool is_ r := by
 intro S
 rw [call_code sp_val_Bool _ _ rfl]
 by_cases c1 : is_ = true
 · replace T := T.1 c1
   obtain rfl := T
   simp only [c1, U_val_Bool, lw, le, reduceIte, reduceCtorEq, Nat.reduceEqDiff, Nat.reduceAdd, Nat.reduceLeDiff, Nat.reduceSub, Nat.reduceLT, Int.reduceEq, Int.reduceLT, Int.reduceLE, Int.reduceToNat]
 · replace T := T.2 c1
   replace c1 := Bool.eq_false_iff.2 c1
   obtain rfl := T
   simp only [c1, U_val_Bool, lw, le, reduceIte, reduceCtorEq, Nat.reduceEqDiff, Nat.reduceAdd, Nat.reduceLeDiff, Nat.reduceSub, Nat.reduceLT, Int.reduceEq, Int.reduceLT, Int.reduceLE, Int.reduceToNat]
theorem sp_val_Int : SP 76 = some (.code sc_val_Int) := SPof_code rfl Tryd.func76 comp_val_Int
/-! doorkeeper/val.Int -/
set_option maxHeartbeats 4000000 in
theorem val_Int_tree (n : Int) (r : V) (T :
  (V.mk 1 n [] []) = r) : R_val_Int n r := by
 intro S
 rw [call_code sp_val_Int _ _ rfl]
 obtain rfl := T
 simp only [U_val_Int, lw, le, reduceIte, reduceCtorEq, Nat.reduceEqDiff, Nat.reduceAdd, Nat.reduceLeDiff, Nat.reduceSub, Nat.reduceLT, Int.reduceEq, Int.reduceLT, Int.reduceLE, Int.reduceToNat]
theorem sp_val_Join : SP 45 = some (.code sc_val_Join) := SPof_code rfl Tryd.func45 comp_val_Join
/-! doorkeeper/val.Join -/
def At_val_Join_1 (l_ : List (List UInt8)) (i1 : Int) (i2 : Int) (i3 : Int) (i4 : Int) (s5 : List UInt8) (l6 : List V) (g7 : Nat) (ra : V) (rb : Int) : Prop := ∀ (S : Sto) (e : Nat → PV) (f : Fr), e 0 = .list 1 (l_.map eS) false ∧ e 2 = .ptr 0 2 0 ∧ e 4 = .int .i64 i1 ∧ e 7 = .list 1 (l_.map eS) false ∧ e 8 = .int .i64 ((l_.length : Nat) : Int) ∧ e 9 = .int .i64 i2 ∧ f.box 2 = some [.int .i64 i3, .int .i64 i4, .str s5, .sl 0 (.cell 2 3) 0 l6.length l6.length g7 false] ∧ f.arr (.cell 2 3) = some ⟨4, encL l6, false, g7⟩ → k_val_Join_1 SP (E SP (.loop b_val_Join_1) ⟨e, f :: S⟩) = .ok (.v (.tup [.agg [.int .i64 ra.k, .int .i64 ra.n, .str ra.s, .list 4 (encL ra.l) false], .int .i64 rb])) S
set_option maxHeartbeats 4000000 in
theorem At_val_Join_1_step (l_ : List (List UInt8)) (i1 : Int) (i2 : Int) (i3 : Int) (i4 : Int) (s5 : List UInt8) (l6 : List V) (g7 : Nat) (ra : V) (rb : Int) (T :
  ((i2 < ((l_.length : Nat) : Int)) →
  (0 ≤ i2) ∧
  ∃ (v8 : List UInt8), (l_[i2.toNat]? = some v8) ∧
  (I64 (400 - i1)) ∧
  (((400 - i1) < ((v8.length : Nat) : Int)) →
   (V.mk 0 0 [] []) = ra ∧ 4 = rb) ∧
  (¬ ((400 - i1) < ((v8.length : Nat) : Int)) →
   (I64 (i1 + ((v8.length : Nat) : Int))) ∧
   (I64 (i2 + 1)) ∧
   At_val_Join_1 l_ (i1 + ((v8.length : Nat) : Int)) (i2 + 1) i3 i4 s5 l6 g7 ra rb)) ∧
 (¬ (i2 < ((l_.length : Nat) : Int)) →
  ∃ (r9 : List UInt8), (R_strings_Join l_ [] r9) ∧
  (V.mk 2 0 r9 []) = ra ∧ 0 = rb)) : At_val_Join_1 l_ i1 i2 i3 i4 s5 l6 g7 ra rb := by
 intro S e f h
 unfold k_val_Join_1
 rw [E_loop]
 by_cases c1 : i2 < ((l_.length : Nat) : Int)
 · replace T := T.1 c1
   obtain ⟨p2, v8, q3, p4, T⟩ := T
   by_cases c5 : (400 - i1) < ((v8.length : Nat) : Int)
   · replace T := T.1 c5
     obtain ⟨rfl, rfl⟩ := T
     simp only [h, eq_true c1, p2, q3, p4.wrap, eq_true c5, U_val_Join, lw, le, reduceIte, reduceCtorEq, Nat.reduceEqDiff, Nat.reduceAdd, Nat.reduceLeDiff, Nat.reduceSub, Nat.reduceLT, Int.reduceEq, Int.reduceLT, Int.reduceLE, Int.reduceToNat]
   · replace T := T.2 c5
     obtain ⟨p6, p7, T⟩ := T
     try simp only [h, eq_true c1, p2, q3, p4.wrap, eq_false c5, p6.wrap, p7.wrap, U_val_Join, lw, le, reduceIte, reduceCtorEq, Nat.reduceEqDiff, Nat.reduceAdd, Nat.reduceLeDiff, Nat.reduceSub, Nat.reduceLT, Int.reduceEq, Int.reduceLT, Int.reduceLE, Int.reduceToNat]
     refine T S _ _ ?_
     simp only [h, eq_true c1, p2, q3, p4.wrap, eq_false c5, p6.wrap, p7.wrap, U_val_Join, lw, le, reduceIte, reduceCtorEq, Nat.reduceEqDiff, Nat.reduceAdd, Nat.reduceLeDiff, Nat.reduceSub, Nat.reduceLT, Int.reduceEq, Int.reduceLT, Int.reduceLE, Int.reduceToNat]
 · replace T := T.2 c1
   obtain ⟨r9, q8, rfl, rfl⟩ := T
   simp only [R_strings_Join, le] at q8
   simp only [h, eq_false c1, q8, U_val_Join, lw, le, reduceIte, reduceCtorEq, Nat.reduceEqDiff, Nat.reduceAdd, Nat.reduceLeDiff, Nat.reduceSub, Nat.reduceLT, Int.reduceEq, Int.reduceLT, Int.reduceLE, Int.reduceToNat]
set_option maxHeartbeats 4000000 in
theorem val_Join_tree (l_ : List (List UInt8)) (ra : V) (rb : Int) (T :
  At_val_Join_1 l_ 0 0 0 0 [] [] 0 ra rb) : R_val_Join l_ ra rb := by
 intro S
 rw [call_code sp_val_Join _ _ rfl]
 try simp only [U_val_Join, lw, le, reduceIte, reduceCtorEq, Nat.reduceEqDiff, Nat.reduceAdd, Nat.reduceLeDiff, Nat.reduceSub, Nat.reduceLT, Int.reduceEq, Int.reduceLT, Int.reduceLE, Int.reduceToNat]
 refine T S _ _ ?_
 simp only [U_val_Join, lw, le, reduceIte, reduceCtorEq, Nat.reduceEqDiff, Nat.reduceAdd, Nat.reduceLeDiff, Nat.reduceSub, Nat.reduceLT, Int.reduceEq, Int.reduceLT, Int.reduceLE, Int.reduceToNat]
theorem sp_ref4_bad : SP 80 = some (.code sc_ref4_bad) := SPof_code rfl Tryd.func80 comp_ref4_bad
/-! doorkeeper/doorkeeperref4.bad -/
set_option maxHeartbeats 4000000 in
theorem ref4_bad_tree (e_ : Int) (r : Got) (T :
  (Got.mk (V.mk 0 0 [] []) e_) = r) : R_ref4_bad e_ r := by
 intro S
 rw [call_code sp_ref4_bad _ _ rfl]
 obtain rfl := T
 simp only [U_ref4_bad, lw, le, reduceIte, reduceCtorEq, Nat.reduceEqDiff, Nat.reduceAdd, Nat.reduceLeDiff, Nat.reduceSub, Nat.reduceLT, Int.reduceEq, Int.reduceLT, Int.reduceLE, Int.reduceToNat]
theorem sp_ref4_truth : SP 81 = some (.code sc_ref4_truth) := SPof_code rfl Tryd.func81 comp_ref4_truth
/-! doorkeeper/doorkeeperref4.truth -/
set_option maxHeartbeats 4000000 in
theorem ref4_truth_tree (is_ : Bool) (r : Got) (T :
  ((is_ = true) →
  (Got.mk (V.mk 3 1 [] []) 0) = r) ∧
 (¬ (is_ = true) →
  (Got.mk (V.mk 3 0 [] []) 0) = r)) : R_ref4_truth is_ r := by
 intro S
 rw [call_code sp_ref4_truth _ _ rfl]
 by_cases c1 : is_ = true
 · replace T := T.1 c1
   obtain rfl := T
   simp only [c1, U_ref4_truth, lw, le, reduceIte, reduceCtorEq, Nat.reduceEqDiff, Nat.reduceAdd, Nat.reduceLeDiff, Nat.reduceSub, Nat.reduceLT, Int.reduceEq, Int.reduceLT, Int.reduceLE, Int.reduceToNat]
 · replace T := T.2 c1
   replace c1 := Bool.eq_false_iff.2 c1
   obtain rfl := T
   simp only [c1, U_ref4_truth, lw, le, reduceIte, reduceCtorEq, Nat.reduceEqDiff, Nat.reduceAdd, Nat.reduceLeDiff, Nat.reduceSub, Nat.reduceLT, Int.reduceEq, Int.reduceLT, Int.reduceLE, Int.reduceToNat]
theorem sp_ref4_num : SP 82 = some (.code sc_ref4_num) := SPof_code rfl Tryd.func82 comp_ref4_num
/-! doorkeeper/doorkeeperref4.num -/
set_option maxHeartbeats 4000000 in
theorem ref4_num_tree (n : Int) (r : Got) (T :
  (Got.mk (V.mk 1 n [] []) 0) = r) : R_ref4_num n r := by
 intro S
 rw [call_code sp_ref4_num _ _ rfl]
 obtain rfl := T
 simp only [U_ref4_num, lw, le, reduceIte, reduceCtorEq, Nat.reduceEqDiff, Nat.reduceAdd, Nat.reduceLeDiff, Nat.reduceSub, Nat.reduceLT, Int.reduceEq, Int.reduceLT, Int.reduceLE, Int.reduceToNat]
theorem sp_ref4_reckon : SP 83 = some (.code sc_ref4_reckon) := SPof_code rfl Tryd.func83 comp_ref4_reckon
/-! doorkeeper/doorkeeperref4.reckon -/
set_option maxHeartbeats 4000000 in
theorem ref4_reckon_tree (kind : Int) (a : Int) (b : Int) (r : Got) (T :
  ((kind = 19) →
  (((decide (a ≤ (IntKind.i64.wrap (a + b)))) = (decide (0 ≤ b))) →
   ∃ (r1 : Got), (R_ref4_num (IntKind.i64.wrap (a + b)) r1) ∧
   r1 = r) ∧
  (¬ ((decide (a ≤ (IntKind.i64.wrap (a + b)))) = (decide (0 ≤ b))) →
   ∃ (r2 : Got), (R_ref4_bad 8 r2) ∧
   r2 = r)) ∧
 (¬ (kind = 19) →
  ((kind = 20) →
   (((decide ((IntKind.i64.wrap (a - b)) ≤ a)) = (decide (0 ≤ b))) →
    ∃ (r3 : Got), (R_ref4_num (IntKind.i64.wrap (a - b)) r3) ∧
    r3 = r) ∧
   (¬ ((decide ((IntKind.i64.wrap (a - b)) ≤ a)) = (decide (0 ≤ b))) →
    ∃ (r4 : Got), (R_ref4_bad 8 r4) ∧
    r4 = r)) ∧
  (¬ (kind = 20) →
   ((kind = 21) →
    ((a = 0) →
     ∃ (r5 : Got), (R_ref4_num (IntKind.i64.wrap (a * b)) r5) ∧
     r5 = r) ∧
    (¬ (a = 0) →
     ((b = 0) →
      ∃ (r6 : Got), (R_ref4_num (IntKind.i64.wrap (a * b)) r6) ∧
      r6 = r) ∧
     (¬ (b = 0) →
      ¬ (b = 0) ∧
      (((IntKind.i64.wrap ((IntKind.i64.wrap (a * b)).tdiv b)) = a) →
       ((b = (-1)) →
        ((a = (-9223372036854775808)) →
         ∃ (r7 : Got), (R_ref4_bad 8 r7) ∧
         r7 = r) ∧
        (¬ (a = (-9223372036854775808)) →
         ∃ (r8 : Got), (R_ref4_num (IntKind.i64.wrap (a * b)) r8) ∧
         r8 = r)) ∧
       (¬ (b = (-1)) →
        ∃ (r9 : Got), (R_ref4_num (IntKind.i64.wrap (a * b)) r9) ∧
        r9 = r)) ∧
      (¬ ((IntKind.i64.wrap ((IntKind.i64.wrap (a * b)).tdiv b)) = a) →
       ∃ (r10 : Got), (R_ref4_bad 8 r10) ∧
       r10 = r)))) ∧
   (¬ (kind = 21) →
    ((b = 0) →
     ∃ (r11 : Got), (R_ref4_bad 9 r11) ∧
     r11 = r) ∧
    (¬ (b = 0) →
     ((a = (-9223372036854775808)) →
      ((b = (-1)) →
       ((kind = 23) →
        ∃ (r12 : Got), (R_ref4_num 0 r12) ∧
        r12 = r) ∧
       (¬ (kind = 23) →
        ∃ (r13 : Got), (R_ref4_bad 8 r13) ∧
        r13 = r)) ∧
      (¬ (b = (-1)) →
       ((kind = 23) →
        ¬ (b = 0) ∧
        ∃ (r14 : Got), (R_ref4_num (a.tmod b) r14) ∧
        r14 = r) ∧
       (¬ (kind = 23) →
        ¬ (b = 0) ∧
        ∃ (r15 : Got), (R_ref4_num (IntKind.i64.wrap (a.tdiv b)) r15) ∧
        r15 = r))) ∧
     (¬ (a = (-9223372036854775808)) →
      ((kind = 23) →
       ¬ (b = 0) ∧
       ∃ (r16 : Got), (R_ref4_num (a.tmod b) r16) ∧
       r16 = r) ∧
      (¬ (kind = 23) →
       ¬ (b = 0) ∧
       ∃ (r17 : Got), (R_ref4_num (IntKind.i64.wrap (a.tdiv b)) r17) ∧
       r17 = r))))))) : R_ref4_reckon kind a b r := by
 intro S
 rw [call_code sp_ref4_reckon _ _ rfl]
 by_cases c1 : kind = 19
 · replace T := T.1 c1
   by_cases c2 : (decide (a ≤ (IntKind.i64.wrap (a + b)))) = (decide (0 ≤ b))
   · replace T := T.1 c2
     obtain ⟨r1, q3, rfl⟩ := T
     simp only [R_ref4_num, le] at q3
     simp only [eq_true c1, c2, q3, U_ref4_reckon, lw, le, reduceIte, reduceCtorEq, Nat.reduceEqDiff, Nat.reduceAdd, Nat.reduceLeDiff, Nat.reduceSub, Nat.reduceLT, Int.reduceEq, Int.reduceLT, Int.reduceLE, Int.reduceToNat]
   · replace T := T.2 c2
     obtain ⟨r2, q4, rfl⟩ := T
     simp only [R_ref4_bad, le] at q4
     simp only [eq_true c1, eq_false c2, q4, U_ref4_reckon, lw, le, reduceIte, reduceCtorEq, Nat.reduceEqDiff, Nat.reduceAdd, Nat.reduceLeDiff, Nat.reduceSub, Nat.reduceLT, Int.reduceEq, Int.reduceLT, Int.reduceLE, Int.reduceToNat]
 · replace T := T.2 c1
   by_cases c5 : kind = 20
   · replace T := T.1 c5
     by_cases c6 : (decide ((IntKind.i64.wrap (a - b)) ≤ a)) = (decide (0 ≤ b))
     · replace T := T.1 c6
       obtain ⟨r3, q7, rfl⟩ := T
       simp only [R_ref4_num, le] at q7
       simp only [eq_false c1, eq_true c5, c6, q7, U_ref4_reckon, lw, le, reduceIte, reduceCtorEq, Nat.reduceEqDiff, Nat.reduceAdd, Nat.reduceLeDiff, Nat.reduceSub, Nat.reduceLT, Int.reduceEq, Int.reduceLT, Int.reduceLE, Int.reduceToNat]
     · replace T := T.2 c6
       obtain ⟨r4, q8, rfl⟩ := T
       simp only [R_ref4_bad, le] at q8
       simp only [eq_false c1, eq_true c5, eq_false c6, q8, U_ref4_reckon, lw, le, reduceIte, reduceCtorEq, Nat.reduceEqDiff, Nat.reduceAdd, Nat.reduceLeDiff, Nat.reduceSub, Nat.reduceLT, Int.reduceEq, Int.reduceLT, Int.reduceLE, Int.reduceToNat]
   · replace T := T.2 c5
     by_cases c9 : kind = 21
     · replace T := T.1 c9
       by_cases c10 : a = 0
       · replace T := T.1 c10
         obtain ⟨r5, q11, rfl⟩ := T
         simp only [R_ref4_num, le] at q11
         simp only [eq_false c1, eq_false c5, eq_true c9, eq_true c10, q11, U_ref4_reckon, lw, le, reduceIte, reduceCtorEq, Nat.reduceEqDiff, Nat.reduceAdd, Nat.reduceLeDiff, Nat.reduceSub, Nat.reduceLT, Int.reduceEq, Int.reduceLT, Int.reduceLE, Int.reduceToNat]
       · replace T := T.2 c10
         by_cases c12 : b = 0
         · replace T := T.1 c12
           obtain ⟨r6, q13, rfl⟩ := T
           simp only [R_ref4_num, le] at q13
           simp only [eq_false c1, eq_false c5, eq_true c9, eq_false c10, eq_true c12, q13, U_ref4_reckon, lw, le, reduceIte, reduceCtorEq, Nat.reduceEqDiff, Nat.reduceAdd, Nat.reduceLeDiff, Nat.reduceSub, Nat.reduceLT, Int.reduceEq, Int.reduceLT, Int.reduceLE, Int.reduceToNat]
         · replace T := T.2 c12
           obtain ⟨p14, T⟩ := T
           by_cases c15 : (IntKind.i64.wrap ((IntKind.i64.wrap (a * b)).tdiv b)) = a
           · replace T := T.1 c15
             by_cases c16 : b = (-1)
             · replace T := T.1 c16
               by_cases c17 : a = (-9223372036854775808)
               · replace T := T.1 c17
                 obtain ⟨r7, q18, rfl⟩ := T
                 simp only [R_ref4_bad, le] at q18
                 simp only [eq_false c1, eq_false c5, eq_true c9, eq_false c10, eq_false c12, eq_false p14, eq_true c15, eq_true c16, eq_true c17, q18, U_ref4_reckon, lw, le, reduceIte, reduceCtorEq, Nat.reduceEqDiff, Nat.reduceAdd, Nat.reduceLeDiff, Nat.reduceSub, Nat.reduceLT, Int.reduceEq, Int.reduceLT, Int.reduceLE, Int.reduceToNat]
               · replace T := T.2 c17
                 obtain ⟨r8, q19, rfl⟩ := T
                 simp only [R_ref4_num, le] at q19
                 simp only [eq_false c1, eq_false c5, eq_true c9, eq_false c10, eq_false c12, eq_false p14, eq_true c15, eq_true c16, eq_false c17, q19, U_ref4_reckon, lw, le, reduceIte, reduceCtorEq, Nat.reduceEqDiff, Nat.reduceAdd, Nat.reduceLeDiff, Nat.reduceSub, Nat.reduceLT, Int.reduceEq, Int.reduceLT, Int.reduceLE, Int.reduceToNat]
             · replace T := T.2 c16
               obtain ⟨r9, q20, rfl⟩ := T
               simp only [R_ref4_num, le] at q20
               simp only [eq_false c1, eq_false c5, eq_true c9, eq_false c10, eq_false c12, eq_false p14, eq_true c15, eq_false c16, q20, U_ref4_reckon, lw, le, reduceIte, reduceCtorEq, Nat.reduceEqDiff, Nat.reduceAdd, Nat.reduceLeDiff, Nat.reduceSub, Nat.reduceLT, Int.reduceEq, Int.reduceLT, Int.reduceLE, Int.reduceToNat]
           · replace T := T.2 c15
             obtain ⟨r10, q21, rfl⟩ := T
             simp only [R_ref4_bad, le] at q21
             simp only [eq_false c1, eq_false c5, eq_true c9, eq_false c10, eq_false c12, eq_false p14, eq_false c15, q21, U_ref4_reckon, lw, le, reduceIte, reduceCtorEq, Nat.reduceEqDiff, Nat.reduceAdd, Nat.reduceLeDiff, Nat.reduceSub, Nat.reduceLT, Int.reduceEq, Int.reduceLT, Int.reduceLE, Int.reduceToNat]
     · replace T := T.2 c9
       by_cases c22 : b = 0
       · replace T := T.1 c22
         obtain ⟨r11, q23, rfl⟩ := T
         simp only [R_ref4_bad, le] at q23
         simp only [eq_false c1, eq_false c5, eq_false c9, eq_true c22, q23, U_ref4_reckon, lw, le, reduceIte, reduceCtorEq, Nat.reduceEqDiff, Nat.reduceAdd, Nat.reduceLeDiff, Nat.reduceSub, Nat.reduceLT, Int.reduceEq, Int.reduceLT, Int.reduceLE, Int.reduceToNat]
       · replace T := T.2 c22
         by_cases c24 : a = (-9223372036854775808)
         · replace T := T.1 c24
           by_cases c25 : b = (-1)
           · replace T := T.1 c25
             by_cases c26 : kind = 23
             · replace T := T.1 c26
               obtain ⟨r12, q27, rfl⟩ := T
               simp only [R_ref4_num, le] at q27
               simp only [eq_false c1, eq_false c5, eq_false c9, eq_false c22, eq_true c24, eq_true c25, eq_true c26, q27, U_ref4_reckon, lw, le, reduceIte, reduceCtorEq, Nat.reduceEqDiff, Nat.reduceAdd, Nat.reduceLeDiff, Nat.reduceSub, Nat.reduceLT, Int.reduceEq, Int.reduceLT, Int.reduceLE, Int.reduceToNat]
             · replace T := T.2 c26
               obtain ⟨r13, q28, rfl⟩ := T
               simp only [R_ref4_bad, le] at q28
               simp only [eq_false c1, eq_false c5, eq_false c9, eq_false c22, eq_true c24, eq_true c25, eq_false c26, q28, U_ref4_reckon, lw, le, reduceIte, reduceCtorEq, Nat.reduceEqDiff, Nat.reduceAdd, Nat.reduceLeDiff, Nat.reduceSub, Nat.reduceLT, Int.reduceEq, Int.reduceLT, Int.reduceLE, Int.reduceToNat]
           · replace T := T.2 c25
             by_cases c29 : kind = 23
             · replace T := T.1 c29
               obtain ⟨p30, r14, q31, rfl⟩ := T
               simp only [R_ref4_num, le] at q31
               simp only [eq_false c1, eq_false c5, eq_false c9, eq_false c22, eq_true c24, eq_false c25, eq_true c29, eq_false p30, q31, U_ref4_reckon, lw, le, reduceIte, reduceCtorEq, Nat.reduceEqDiff, Nat.reduceAdd, Nat.reduceLeDiff, Nat.reduceSub, Nat.reduceLT, Int.reduceEq, Int.reduceLT, Int.reduceLE, Int.reduceToNat]
             · replace T := T.2 c29
               obtain ⟨p32, r15, q33, rfl⟩ := T
               simp only [R_ref4_num, le] at q33
               simp only [eq_false c1, eq_false c5, eq_false c9, eq_false c22, eq_true c24, eq_false c25, eq_false c29, eq_false p32, q33, U_ref4_reckon, lw, le, reduceIte, reduceCtorEq, Nat.reduceEqDiff, Nat.reduceAdd, Nat.reduceLeDiff, Nat.reduceSub, Nat.reduceLT, Int.reduceEq, Int.reduceLT, Int.reduceLE, Int.reduceToNat]
         · replace T := T.2 c24
           by_cases c34 : kind = 23
           · replace T := T.1 c34
             obtain ⟨p35, r16, q36, rfl⟩ := T
             simp only [R_ref4_num, le] at q36
             simp only [eq_false c1, eq_false c5, eq_false c9, eq_false c22, eq_false c24, eq_true c34, eq_false p35, q36, U_ref4_reckon, lw, le, reduceIte, reduceCtorEq, Nat.reduceEqDiff, Nat.reduceAdd, Nat.reduceLeDiff, Nat.reduceSub, Nat.reduceLT, Int.reduceEq, Int.reduceLT, Int.reduceLE, Int.reduceToNat]
           · replace T := T.2 c34
             obtain ⟨p37, r17, q38, rfl⟩ := T
             simp only [R_ref4_num, le] at q38
             simp only [eq_false c1, eq_false c5, eq_false c9, eq_false c22, eq_false c24, eq_false c34, eq_false p37, q38, U_ref4_reckon, lw, le, reduceIte, reduceCtorEq, Nat.reduceEqDiff, Nat.reduceAdd, Nat.reduceLeDiff, Nat.reduceSub, Nat.reduceLT, Int.reduceEq, Int.reduceLT, Int.reduceLE, Int.reduceToNat]
theorem sp_ref4_One : SP 42 = some (.code sc_ref4_One) := SPof_code rfl Tryd.func42 comp_ref4_One
/-! doorkeeper/doorkeeperref4.One -/
set_option maxHeartbeats 4000000 in
theorem ref4_One_tree (kind : Int) (v : V) (r : Got) (T :
  ((kind = 8) →
  ((v.k = 3) →
   ∃ (r1 : Got), (R_ref4_truth (decide (v.n = 0)) r1) ∧
   r1 = r) ∧
  (¬ (v.k = 3) →
   ((kind = 9) →
    ((v.k = 1) →
     ((v.n = (-9223372036854775808)) →
      ∃ (r2 : Got), (R_ref4_bad 8 r2) ∧
      r2 = r) ∧
     (¬ (v.n = (-9223372036854775808)) →
      (I64 (0 - v.n)) ∧
      ∃ (r3 : Got), (R_ref4_num (0 - v.n) r3) ∧
      r3 = r)) ∧
    (¬ (v.k = 1) →
     ∃ (r4 : Got), (R_ref4_bad 7 r4) ∧
     r4 = r)) ∧
   (¬ (kind = 9) →
    ∃ (r5 : Got), (R_ref4_bad 7 r5) ∧
    r5 = r))) ∧
 (¬ (kind = 8) →
  ((kind = 9) →
   ((v.k = 1) →
    ((v.n = (-9223372036854775808)) →
     ∃ (r6 : Got), (R_ref4_bad 8 r6) ∧
     r6 = r) ∧
    (¬ (v.n = (-9223372036854775808)) →
     (I64 (0 - v.n)) ∧
     ∃ (r7 : Got), (R_ref4_num (0 - v.n) r7) ∧
     r7 = r)) ∧
   (¬ (v.k = 1) →
    ∃ (r8 : Got), (R_ref4_bad 7 r8) ∧
    r8 = r)) ∧
  (¬ (kind = 9) →
   ∃ (r9 : Got), (R_ref4_bad 1 r9) ∧
   r9 = r))) : R_ref4_One kind v r := by
 intro S
 rw [call_code sp_ref4_One _ _ rfl]
 by_cases c1 : kind = 8
 · replace T := T.1 c1
   by_cases c2 : v.k = 3
   · replace T := T.1 c2
     obtain ⟨r1, q3, rfl⟩ := T
     simp only [R_ref4_truth, le] at q3
     simp only [eq_true c1, eq_true c2, q3, U_ref4_One, lw, le, reduceIte, reduceCtorEq, Nat.reduceEqDiff, Nat.reduceAdd, Nat.reduceLeDiff, Nat.reduceSub, Nat.reduceLT, Int.reduceEq, Int.reduceLT, Int.reduceLE, Int.reduceToNat]
   · replace T := T.2 c2
     by_cases c4 : kind = 9
     · replace T := T.1 c4
       by_cases c5 : v.k = 1
       · replace T := T.1 c5
         by_cases c6 : v.n = (-9223372036854775808)
         · replace T := T.1 c6
           obtain ⟨r2, q7, rfl⟩ := T
           simp only [R_ref4_bad, le] at q7
           simp only [eq_true c1, eq_false c2, eq_true c4, eq_true c5, eq_true c6, q7, U_ref4_One, lw, le, reduceIte, reduceCtorEq, Nat.reduceEqDiff, Nat.reduceAdd, Nat.reduceLeDiff, Nat.reduceSub, Nat.reduceLT, Int.reduceEq, Int.reduceLT, Int.reduceLE, Int.reduceToNat]
         · replace T := T.2 c6
           obtain ⟨p8, r3, q9, rfl⟩ := T
           simp only [R_ref4_num, le] at q9
           simp only [eq_true c1, eq_false c2, eq_true c4, eq_true c5, eq_false c6, p8.wrap, q9, U_ref4_One, lw, le, reduceIte, reduceCtorEq, Nat.reduceEqDiff, Nat.reduceAdd, Nat.reduceLeDiff, Nat.reduceSub, Nat.reduceLT, Int.reduceEq, Int.reduceLT, Int.reduceLE, Int.reduceToNat]
       · replace T := T.2 c5
         obtain ⟨r4, q10, rfl⟩ := T
         simp only [R_ref4_bad, le] at q10
         simp only [eq_true c1, eq_false c2, eq_true c4, eq_false c5, q10, U_ref4_One, lw, le, reduceIte, reduceCtorEq, Nat.reduceEqDiff, Nat.reduceAdd, Nat.reduceLeDiff, Nat.reduceSub, Nat.reduceLT, Int.reduceEq, Int.reduceLT, Int.reduceLE, Int.reduceToNat]
     · replace T := T.2 c4
       obtain ⟨r5, q11, rfl⟩ := T
       simp only [R_ref4_bad, le] at q11
       simp only [eq_true c1, eq_false c2, eq_false c4, q11, U_ref4_One, lw, le, reduceIte, reduceCtorEq, Nat.reduceEqDiff, Nat.reduceAdd, Nat.reduceLeDiff, Nat.reduceSub, Nat.reduceLT, Int.reduceEq, Int.reduceLT, Int.reduceLE, Int.reduceToNat]
 · replace T := T.2 c1
   by_cases c12 : kind = 9
   · replace T := T.1 c12
     by_cases c13 : v.k = 1
     · replace T := T.1 c13
       by_cases c14 : v.n = (-9223372036854775808)
       · replace T := T.1 c14
         obtain ⟨r6, q15, rfl⟩ := T
         simp only [R_ref4_bad, le] at q15
         simp only [eq_false c1, eq_true c12, eq_true c13, eq_true c14, q15, U_ref4_One, lw, le, reduceIte, reduceCtorEq, Nat.reduceEqDiff, Nat.reduceAdd, Nat.reduceLeDiff, Nat.reduceSub, Nat.reduceLT, Int.reduceEq, Int.reduceLT, Int.reduceLE, Int.reduceToNat]
       · replace T := T.2 c14
         obtain ⟨p16, r7, q17, rfl⟩ := T
         simp only [R_ref4_num, le] at q17
         simp only [eq_false c1, eq_true c12, eq_true c13, eq_false c14, p16.wrap, q17, U_ref4_One, lw, le, reduceIte, reduceCtorEq, Nat.reduceEqDiff, Nat.reduceAdd, Nat.reduceLeDiff, Nat.reduceSub, Nat.reduceLT, Int.reduceEq, Int.reduceLT, Int.reduceLE, Int.reduceToNat]
     · replace T := T.2 c13
       obtain ⟨r8, q18, rfl⟩ := T
       simp only [R_ref4_bad, le] at q18
       simp only [eq_false c1, eq_true c12, eq_false c13, q18, U_ref4_One, lw, le, reduceIte, reduceCtorEq, Nat.reduceEqDiff, Nat.reduceAdd, Nat.reduceLeDiff, Nat.reduceSub, Nat.reduceLT, Int.reduceEq, Int.reduceLT, Int.reduceLE, Int.reduceToNat]
   · replace T := T.2 c12
     obtain ⟨r9, q19, rfl⟩ := T
     simp only [R_ref4_bad, le] at q19
     simp only [eq_false c1, eq_false c12, q19, U_ref4_One, lw, le, reduceIte, reduceCtorEq, Nat.reduceEqDiff, Nat.reduceAdd, Nat.reduceLeDiff, Nat.reduceSub, Nat.reduceLT, Int.reduceEq, Int.reduceLT, Int.reduceLE, Int.reduceToNat]
theorem sp_ref4_Two : SP 43 = some (.code sc_ref4_Two) := SPof_code rfl Tryd.func43 comp_ref4_Two
/-! doorkeeper/doorkeeperref4.Two -/
set_option maxHeartbeats 4000000 in
theorem ref4_Two_tree (kind : Int) (a : V) (b : V) (r : Got) (T :
  ((a.k = 1) →
  ((kind < 11) →
   ∃ (r1 : Got), (R_ref4_bad 1 r1) ∧
   r1 = r) ∧
  (¬ (kind < 11) →
   ((23 < kind) →
    ∃ (r2 : Got), (R_ref4_bad 1 r2) ∧
    r2 = r) ∧
   (¬ (23 < kind) →
    ((kind = 11) →
     ((a.k = 3) →
      ((b.k = 3) →
       ((a.n = 1) →
        ∃ (r3 : Got), (R_ref4_truth true r3) ∧
        r3 = r) ∧
       (¬ (a.n = 1) →
        ∃ (r4 : Got), (R_ref4_truth (decide (b.n = 1)) r4) ∧
        r4 = r)) ∧
      (¬ (b.k = 3) →
       ∃ (r5 : Got), (R_ref4_bad 7 r5) ∧
       r5 = r)) ∧
     (¬ (a.k = 3) →
      ∃ (r6 : Got), (R_ref4_bad 7 r6) ∧
      r6 = r)) ∧
    (¬ (kind = 11) →
     ((kind = 12) →
      ((a.k = 3) →
       ((b.k = 3) →
        ((a.n = 1) →
         ∃ (r7 : Got), (R_ref4_truth (decide (b.n = 1)) r7) ∧
         r7 = r) ∧
        (¬ (a.n = 1) →
         ∃ (r8 : Got), (R_ref4_truth false r8) ∧
         r8 = r)) ∧
       (¬ (b.k = 3) →
        ∃ (r9 : Got), (R_ref4_bad 7 r9) ∧
        r9 = r)) ∧
      (¬ (a.k = 3) →
       ∃ (r10 : Got), (R_ref4_bad 7 r10) ∧
       r10 = r)) ∧
     (¬ (kind = 12) →
      ((kind = 13) →
       ((a.k = b.k) →
        ∃ (r11 : Bool), (R_ref4_SameVal a b r11) ∧
        ∃ (r12 : Got), (R_ref4_truth (decide (r11 = true)) r12) ∧
        r12 = r) ∧
       (¬ (a.k = b.k) →
        ∃ (r13 : Got), (R_ref4_bad 7 r13) ∧
        r13 = r)) ∧
      (¬ (kind = 13) →
       ((kind = 14) →
        ((a.k = b.k) →
         ∃ (r14 : Bool), (R_ref4_SameVal a b r14) ∧
         ∃ (r15 : Got), (R_ref4_truth (decide (r14 = false)) r15) ∧
         r15 = r) ∧
        (¬ (a.k = b.k) →
         ∃ (r16 : Got), (R_ref4_bad 7 r16) ∧
         r16 = r)) ∧
       (¬ (kind = 14) →
        ((b.k = 1) →
         ((kind = 15) →
          ∃ (r17 : Got), (R_ref4_truth (decide (a.n < b.n)) r17) ∧
          r17 = r) ∧
         (¬ (kind = 15) →
          ((kind = 16) →
           ∃ (r18 : Got), (R_ref4_truth (decide (a.n ≤ b.n)) r18) ∧
           r18 = r) ∧
          (¬ (kind = 16) →
           ((kind = 17) →
            ∃ (r19 : Got), (R_ref4_truth (decide (b.n < a.n)) r19) ∧
            r19 = r) ∧
           (¬ (kind = 17) →
            ((kind = 18) →
             ∃ (r20 : Got), (R_ref4_truth (decide (b.n ≤ a.n)) r20) ∧
             r20 = r) ∧
            (¬ (kind = 18) →
             ∃ (r21 : Got), (R_ref4_reckon kind a.n b.n r21) ∧
             r21 = r))))) ∧
        (¬ (b.k = 1) →
         ∃ (r22 : Got), (R_ref4_bad 7 r22) ∧
         r22 = r)))))))) ∧
 (¬ (a.k = 1) →
  ((kind < 11) →
   ∃ (r23 : Got), (R_ref4_bad 1 r23) ∧
   r23 = r) ∧
  (¬ (kind < 11) →
   ((23 < kind) →
    ∃ (r24 : Got), (R_ref4_bad 1 r24) ∧
    r24 = r) ∧
   (¬ (23 < kind) →
    ((kind = 11) →
     ((a.k = 3) →
      ((b.k = 3) →
       ((a.n = 1) →
        ∃ (r25 : Got), (R_ref4_truth true r25) ∧
        r25 = r) ∧
       (¬ (a.n = 1) →
        ∃ (r26 : Got), (R_ref4_truth (decide (b.n = 1)) r26) ∧
        r26 = r)) ∧
      (¬ (b.k = 3) →
       ∃ (r27 : Got), (R_ref4_bad 7 r27) ∧
       r27 = r)) ∧
     (¬ (a.k = 3) →
      ∃ (r28 : Got), (R_ref4_bad 7 r28) ∧
      r28 = r)) ∧
    (¬ (kind = 11) →
     ((kind = 12) →
      ((a.k = 3) →
       ((b.k = 3) →
        ((a.n = 1) →
         ∃ (r29 : Got), (R_ref4_truth (decide (b.n = 1)) r29) ∧
         r29 = r) ∧
        (¬ (a.n = 1) →
         ∃ (r30 : Got), (R_ref4_truth false r30) ∧
         r30 = r)) ∧
       (¬ (b.k = 3) →
        ∃ (r31 : Got), (R_ref4_bad 7 r31) ∧
        r31 = r)) ∧
      (¬ (a.k = 3) →
       ∃ (r32 : Got), (R_ref4_bad 7 r32) ∧
       r32 = r)) ∧
     (¬ (kind = 12) →
      ((kind = 13) →
       ((a.k = b.k) →
        ∃ (r33 : Bool), (R_ref4_SameVal a b r33) ∧
        ∃ (r34 : Got), (R_ref4_truth (decide (r33 = true)) r34) ∧
        r34 = r) ∧
       (¬ (a.k = b.k) →
        ∃ (r35 : Got), (R_ref4_bad 7 r35) ∧
        r35 = r)) ∧
      (¬ (kind = 13) →
       ((kind = 14) →
        ((a.k = b.k) →
         ∃ (r36 : Bool), (R_ref4_SameVal a b r36) ∧
         ∃ (r37 : Got), (R_ref4_truth (decide (r36 = false)) r37) ∧
         r37 = r) ∧
        (¬ (a.k = b.k) →
         ∃ (r38 : Got), (R_ref4_bad 7 r38) ∧
         r38 = r)) ∧
       (¬ (kind = 14) →
        ∃ (r39 : Got), (R_ref4_bad 7 r39) ∧
        r39 = r)))))))) : R_ref4_Two kind a b r := by
 intro S
 rw [call_code sp_ref4_Two _ _ rfl]
 by_cases c1 : a.k = 1
 · replace T := T.1 c1
   by_cases c2 : kind < 11
   · replace T := T.1 c2
     obtain ⟨r1, q3, rfl⟩ := T
     simp only [R_ref4_bad, le] at q3
     simp only [eq_true c1, eq_true c2, q3, U_ref4_Two, lw, le, reduceIte, reduceCtorEq, Nat.reduceEqDiff, Nat.reduceAdd, Nat.reduceLeDiff, Nat.reduceSub, Nat.reduceLT, Int.reduceEq, Int.reduceLT, Int.reduceLE, Int.reduceToNat]
   · replace T := T.2 c2
     by_cases c4 : 23 < kind
     · replace T := T.1 c4
       obtain ⟨r2, q5, rfl⟩ := T
       simp only [R_ref4_bad, le] at q5
       simp only [eq_true c1, eq_false c2, eq_true c4, q5, U_ref4_Two, lw, le, reduceIte, reduceCtorEq, Nat.reduceEqDiff, Nat.reduceAdd, Nat.reduceLeDiff, Nat.reduceSub, Nat.reduceLT, Int.reduceEq, Int.reduceLT, Int.reduceLE, Int.reduceToNat]
     · replace T := T.2 c4
       by_cases c6 : kind = 11
       · replace T := T.1 c6
         by_cases c7 : a.k = 3
         · replace T := T.1 c7
           by_cases c8 : b.k = 3
           · replace T := T.1 c8
             by_cases c9 : a.n = 1
             · replace T := T.1 c9
               obtain ⟨r3, q10, rfl⟩ := T
               simp only [R_ref4_truth, le] at q10
               simp only [eq_true c1, eq_false c2, eq_false c4, eq_true c6, eq_true c7, eq_true c8, eq_true c9, q10, U_ref4_Two, lw, le, reduceIte, reduceCtorEq, Nat.reduceEqDiff, Nat.reduceAdd, Nat.reduceLeDiff, Nat.reduceSub, Nat.reduceLT, Int.reduceEq, Int.reduceLT, Int.reduceLE, Int.reduceToNat]
             · replace T := T.2 c9
               obtain ⟨r4, q11, rfl⟩ := T
               simp only [R_ref4_truth, le] at q11
               simp only [eq_true c1, eq_false c2, eq_false c4, eq_true c6, eq_true c7, eq_true c8, eq_false c9, q11, U_ref4_Two, lw, le, reduceIte, reduceCtorEq, Nat.reduceEqDiff, Nat.reduceAdd, Nat.reduceLeDiff, Nat.reduceSub, Nat.reduceLT, Int.reduceEq, Int.reduceLT, Int.reduceLE, Int.reduceToNat]
           · replace T := T.2 c8
             obtain ⟨r5, q12, rfl⟩ := T
             simp only [R_ref4_bad, le] at q12
             simp only [eq_true c1, eq_false c2, eq_false c4, eq_true c6, eq_true c7, eq_false c8, q12, U_ref4_Two, lw, le, reduceIte, reduceCtorEq, Nat.reduceEqDiff, Nat.reduceAdd, Nat.reduceLeDiff, Nat.reduceSub, Nat.reduceLT, Int.reduceEq, Int.reduceLT, Int.reduceLE, Int.reduceToNat]
         · replace T := T.2 c7
           obtain ⟨r6, q13, rfl⟩ := T
           simp only [R_ref4_bad, le] at q13
           simp only [eq_true c1, eq_false c2, eq_false c4, eq_true c6, eq_false c7, q13, U_ref4_Two, lw, le, reduceIte, reduceCtorEq, Nat.reduceEqDiff, Nat.reduceAdd, Nat.reduceLeDiff, Nat.reduceSub, Nat.reduceLT, Int.reduceEq, Int.reduceLT, Int.reduceLE, Int.reduceToNat]
       · replace T := T.2 c6
         by_cases c14 : kind = 12
         · replace T := T.1 c14
           by_cases c15 : a.k = 3
           · replace T := T.1 c15
             by_cases c16 : b.k = 3
             · replace T := T.1 c16
               by_cases c17 : a.n = 1
               · replace T := T.1 c17
                 obtain ⟨r7, q18, rfl⟩ := T
                 simp only [R_ref4_truth, le] at q18
                 simp only [eq_true c1, eq_false c2, eq_false c4, eq_false c6, eq_true c14, eq_true c15, eq_true c16, eq_true c17, q18, U_ref4_Two, lw, le, reduceIte, reduceCtorEq, Nat.reduceEqDiff, Nat.reduceAdd, Nat.reduceLeDiff, Nat.reduceSub, Nat.reduceLT, Int.reduceEq, Int.reduceLT, Int.reduceLE, Int.reduceToNat]
               · replace T := T.2 c17
                 obtain ⟨r8, q19, rfl⟩ := T
                 simp only [R_ref4_truth, le] at q19
                 simp only [eq_true c1, eq_false c2, eq_false c4, eq_false c6, eq_true c14, eq_true c15, eq_true c16, eq_false c17, q19, U_ref4_Two, lw, le, reduceIte, reduceCtorEq, Nat.reduceEqDiff, Nat.reduceAdd, Nat.reduceLeDiff, Nat.reduceSub, Nat.reduceLT, Int.reduceEq, Int.reduceLT, Int.reduceLE, Int.reduceToNat]
             · replace T := T.2 c16
               obtain ⟨r9, q20, rfl⟩ := T
               simp only [R_ref4_bad, le] at q20
               simp only [eq_true c1, eq_false c2, eq_false c4, eq_false c6, eq_true c14, eq_true c15, eq_false c16, q20, U_ref4_Two, lw, le, reduceIte, reduceCtorEq, Nat.reduceEqDiff, Nat.reduceAdd, Nat.reduceLeDiff, Nat.reduceSub, Nat.reduceLT, Int.reduceEq, Int.reduceLT, Int.reduceLE, Int.reduceToNat]
           · replace T := T.2 c15
             obtain ⟨r10, q21, rfl⟩ := T
             simp only [R_ref4_bad, le] at q21
             simp only [eq_true c1, eq_false c2, eq_false c4, eq_false c6, eq_true c14, eq_false c15, q21, U_ref4_Two, lw, le, reduceIte, reduceCtorEq, Nat.reduceEqDiff, Nat.reduceAdd, Nat.reduceLeDiff, Nat.reduceSub, Nat.reduceLT, Int.reduceEq, Int.reduceLT, Int.reduceLE, Int.reduceToNat]
         · replace T := T.2 c14
           by_cases c22 : kind = 13
           · replace T := T.1 c22
             by_cases c23 : a.k = b.k
             · replace T := T.1 c23
               obtain ⟨r11, q24, r12, q25, rfl⟩ := T
               simp only [R_ref4_SameVal, le] at q24
               simp only [R_ref4_truth, le] at q25
               simp only [eq_true c1, eq_false c2, eq_false c4, eq_false c6, eq_false c14, eq_true c22, eq_true c23, q24, q25, U_ref4_Two, lw, le, reduceIte, reduceCtorEq, Nat.reduceEqDiff, Nat.reduceAdd, Nat.reduceLeDiff, Nat.reduceSub, Nat.reduceLT, Int.reduceEq, Int.reduceLT, Int.reduceLE, Int.reduceToNat]
             · replace T := T.2 c23
               obtain ⟨r13, q26, rfl⟩ := T
               simp only [R_ref4_bad, le] at q26
               simp only [eq_true c1, eq_false c2, eq_false c4, eq_false c6, eq_false c14, eq_true c22, eq_false c23, q26, U_ref4_Two, lw, le, reduceIte, reduceCtorEq, Nat.reduceEqDiff, Nat.reduceAdd, Nat.reduceLeDiff, Nat.reduceSub, Nat.reduceLT, Int.reduceEq, Int.reduceLT, Int.reduceLE, Int.reduceToNat]
           · replace T := T.2 c22
             by_cases c27 : kind = 14
             · replace T := T.1 c27
               by_cases c28 : a.k = b.k
               · replace T := T.1 c28
                 obtain ⟨r14, q29, r15, q30, rfl⟩ := T
                 simp only [R_ref4_SameVal, le] at q29
                 simp only [R_ref4_truth, le] at q30
                 simp only [eq_true c1, eq_false c2, eq_false c4, eq_false c6, eq_false c14, eq_false c22, eq_true c27, eq_true c28, q29, q30, U_ref4_Two, lw, le, reduceIte, reduceCtorEq, Nat.reduceEqDiff, Nat.reduceAdd, Nat.reduceLeDiff, Nat.reduceSub, Nat.reduceLT, Int.reduceEq, Int.reduceLT, Int.reduceLE, Int.reduceToNat]
               · replace T := T.2 c28
                 obtain ⟨r16, q31, rfl⟩ := T
                 simp only [R_ref4_bad, le] at q31
                 simp only [eq_true c1, eq_false c2, eq_false c4, eq_false c6, eq_false c14, eq_false c22, eq_true c27, eq_false c28, q31, U_ref4_Two, lw, le, reduceIte, reduceCtorEq, Nat.reduceEqDiff, Nat.reduceAdd, Nat.reduceLeDiff, Nat.reduceSub, Nat.reduceLT, Int.reduceEq, Int.reduceLT, Int.reduceLE, Int.reduceToNat]
             · replace T := T.2 c27
               by_cases c32 : b.k = 1
               · replace T := T.1 c32
                 by_cases c33 : kind = 15
                 · replace T := T.1 c33
                   obtain ⟨r17, q34, rfl⟩ := T
                   simp only [R_ref4_truth, le] at q34
                   simp only [eq_true c1, eq_false c2, eq_false c4, eq_false c6, eq_false c14, eq_false c22, eq_false c27, eq_true c32, eq_true c33, q34, U_ref4_Two, lw, le, reduceIte, reduceCtorEq, Nat.reduceEqDiff, Nat.reduceAdd, Nat.reduceLeDiff, Nat.reduceSub, Nat.reduceLT, Int.reduceEq, Int.reduceLT, Int.reduceLE, Int.reduceToNat]
                 · replace T := T.2 c33
                   by_cases c35 : kind = 16
                   · replace T := T.1 c35
                     obtain ⟨r18, q36, rfl⟩ := T
                     simp only [R_ref4_truth, le] at q36
                     simp only [eq_true c1, eq_false c2, eq_false c4, eq_false c6, eq_false c14, eq_false c22, eq_false c27, eq_true c32, eq_false c33, eq_true c35, q36, U_ref4_Two, lw, le, reduceIte, reduceCtorEq, Nat.reduceEqDiff, Nat.reduceAdd, Nat.reduceLeDiff, Nat.reduceSub, Nat.reduceLT, Int.reduceEq, Int.reduceLT, Int.reduceLE, Int.reduceToNat]
                   · replace T := T.2 c35
                     by_cases c37 : kind = 17
                     · replace T := T.1 c37
                       obtain ⟨r19, q38, rfl⟩ := T
                       simp only [R_ref4_truth, le] at q38
                       simp only [eq_true c1, eq_false c2, eq_false c4, eq_false c6, eq_false c14, eq_false c22, eq_false c27, eq_true c32, eq_false c33, eq_false c35, eq_true c37, q38, U_ref4_Two, lw, le, reduceIte, reduceCtorEq, Nat.reduceEqDiff, Nat.reduceAdd, Nat.reduceLeDiff, Nat.reduceSub, Nat.reduceLT, Int.reduceEq, Int.reduceLT, Int.reduceLE, Int.reduceToNat]
                     · replace T := T.2 c37
                       by_cases c39 : kind = 18
                       · replace T := T.1 c39
                         obtain ⟨r20, q40, rfl⟩ := T
                         simp only [R_ref4_truth, le] at q40
                         simp only [eq_true c1, eq_false c2, eq_false c4, eq_false c6, eq_false c14, eq_false c22, eq_false c27, eq_true c32, eq_false c33, eq_false c35, eq_false c37, eq_true c39, q40, U_ref4_Two, lw, le, reduceIte, reduceCtorEq, Nat.reduceEqDiff, Nat.reduceAdd, Nat.reduceLeDiff, Nat.reduceSub, Nat.reduceLT, Int.reduceEq, Int.reduceLT, Int.reduceLE, Int.reduceToNat]
                       · replace T := T.2 c39
                         obtain ⟨r21, q41, rfl⟩ := T
                         simp only [R_ref4_reckon, le] at q41
                         simp only [eq_true c1, eq_false c2, eq_false c4, eq_false c6, eq_false c14, eq_false c22, eq_false c27, eq_true c32, eq_false c33, eq_false c35, eq_false c37, eq_false c39, q41, U_ref4_Two, lw, le, reduceIte, reduceCtorEq, Nat.reduceEqDiff, Nat.reduceAdd, Nat.reduceLeDiff, Nat.reduceSub, Nat.reduceLT, Int.reduceEq, Int.reduceLT, Int.reduceLE, Int.reduceToNat]
               · replace T := T.2 c32
                 obtain ⟨r22, q42, rfl⟩ := T
                 simp only [R_ref4_bad, le] at q42
                 simp only [eq_true c1, eq_false c2, eq_false c4, eq_false c6, eq_false c14, eq_false c22, eq_false c27, eq_false c32, q42, U_ref4_Two, lw, le, reduceIte, reduceCtorEq, Nat.reduceEqDiff, Nat.reduceAdd, Nat.reduceLeDiff, Nat.reduceSub, Nat.reduceLT, Int.reduceEq, Int.reduceLT, Int.reduceLE, Int.reduceToNat]
 · replace T := T.2 c1
   by_cases c43 : kind < 11
   · replace T := T.1 c43
     obtain ⟨r23, q44, rfl⟩ := T
     simp only [R_ref4_bad, le] at q44
     simp only [eq_false c1, eq_true c43, q44, U_ref4_Two, lw, le, reduceIte, reduceCtorEq, Nat.reduceEqDiff, Nat.reduceAdd, Nat.reduceLeDiff, Nat.reduceSub, Nat.reduceLT, Int.reduceEq, Int.reduceLT, Int.reduceLE, Int.reduceToNat]
   · replace T := T.2 c43
     by_cases c45 : 23 < kind
     · replace T := T.1 c45
       obtain ⟨r24, q46, rfl⟩ := T
       simp only [R_ref4_bad, le] at q46
       simp only [eq_false c1, eq_false c43, eq_true c45, q46, U_ref4_Two, lw, le, reduceIte, reduceCtorEq, Nat.reduceEqDiff, Nat.reduceAdd, Nat.reduceLeDiff, Nat.reduceSub, Nat.reduceLT, Int.reduceEq, Int.reduceLT, Int.reduceLE, Int.reduceToNat]
     · replace T := T.2 c45
       by_cases c47 : kind = 11
       · replace T := T.1 c47
         by_cases c48 : a.k = 3
         · replace T := T.1 c48
           by_cases c49 : b.k = 3
           · replace T := T.1 c49
             by_cases c50 : a.n = 1
             · replace T := T.1 c50
               obtain ⟨r25, q51, rfl⟩ := T
               simp only [R_ref4_truth, le] at q51
               simp only [eq_false c1, eq_false c43, eq_false c45, eq_true c47, eq_true c48, eq_true c49, eq_true c50, q51, U_ref4_Two, lw, le, reduceIte, reduceCtorEq, Nat.reduceEqDiff, Nat.reduceAdd, Nat.reduceLeDiff, Nat.reduceSub, Nat.reduceLT, Int.reduceEq, Int.reduceLT, Int.reduceLE, Int.reduceToNat]
             · replace T := T.2 c50
               obtain ⟨r26, q52, rfl⟩ := T
               simp only [R_ref4_truth, le] at q52
               simp only [eq_false c1, eq_false c43, eq_false c45, eq_true c47, eq_true c48, eq_true c49, eq_false c50, q52, U_ref4_Two, lw, le, reduceIte, reduceCtorEq, Nat.reduceEqDiff, Nat.reduceAdd, Nat.reduceLeDiff, Nat.reduceSub, Nat.reduceLT, Int.reduceEq, Int.reduceLT, Int.reduceLE, Int.reduceToNat]
           · replace T := T.2 c49
             obtain ⟨r27, q53, rfl⟩ := T
             simp only [R_ref4_bad, le] at q53
             simp only [eq_false c1, eq_false c43, eq_false c45, eq_true c47, eq_true c48, eq_false c49, q53, U_ref4_Two, lw, le, reduceIte, reduceCtorEq, Nat.reduceEqDiff, Nat.reduceAdd, Nat.reduceLeDiff, Nat.reduceSub, Nat.reduceLT, Int.reduceEq, Int.reduceLT, Int.reduceLE, Int.reduceToNat]
         · replace T := T.2 c48
           obtain ⟨r28, q54, rfl⟩ := T
           simp only [R_ref4_bad, le] at q54
           simp only [eq_false c1, eq_false c43, eq_false c45, eq_true c47, eq_false c48, q54, U_ref4_Two, lw, le, reduceIte, reduceCtorEq, Nat.reduceEqDiff, Nat.reduceAdd, Nat.reduceLeDiff, Nat.reduceSub, Nat.reduceLT, Int.reduceEq, Int.reduceLT, Int.reduceLE, Int.reduceToNat]
       · replace T := T.2 c47
         by_cases c55 : kind = 12
         · replace T := T.1 c55
           by_cases c56 : a.k = 3
           · replace T := T.1 c56
             by_cases c57 : b.k = 3
             · replace T := T.1 c57
               by_cases c58 : a.n = 1
               · replace T := T.1 c58
                 obtain ⟨r29, q59, rfl⟩ := T
                 simp only [R_ref4_truth, le] at q59
                 simp only [eq_false c1, eq_false c43, eq_false c45, eq_false c47, eq_true c55, eq_true c56, eq_true c57, eq_true c58, q59, U_ref4_Two, lw, le, reduceIte, reduceCtorEq, Nat.reduceEqDiff, Nat.reduceAdd, Nat.reduceLeDiff, Nat.reduceSub, Nat.reduceLT, Int.reduceEq, Int.reduceLT, Int.reduceLE, Int.reduceToNat]
               · replace T := T.2 c58
                 obtain ⟨r30, q60, rfl⟩ := T
                 simp only [R_ref4_truth, le] at q60
                 simp only [eq_false c1, eq_false c43, eq_false c45, eq_false c47, eq_true c55, eq_true c56, eq_true c57, eq_false c58, q60, U_ref4_Two, lw, le, reduceIte, reduceCtorEq, Nat.reduceEqDiff, Nat.reduceAdd, Nat.reduceLeDiff, Nat.reduceSub, Nat.reduceLT, Int.reduceEq, Int.reduceLT, Int.reduceLE, Int.reduceToNat]
             · replace T := T.2 c57
               obtain ⟨r31, q61, rfl⟩ := T
               simp only [R_ref4_bad, le] at q61
               simp only [eq_false c1, eq_false c43, eq_false c45, eq_false c47, eq_true c55, eq_true c56, eq_false c57, q61, U_ref4_Two, lw, le, reduceIte, reduceCtorEq, Nat.reduceEqDiff, Nat.reduceAdd, Nat.reduceLeDiff, Nat.reduceSub, Nat.reduceLT, Int.reduceEq, Int.reduceLT, Int.reduceLE, Int.reduceToNat]
           · replace T := T.2 c56
             obtain ⟨r32, q62, rfl⟩ := T
             simp only [R_ref4_bad, le] at q62
             simp only [eq_false c1, eq_false c43, eq_false c45, eq_false c47, eq_true c55, eq_false c56, q62, U_ref4_Two, lw, le, reduceIte, reduceCtorEq, Nat.reduceEqDiff, Nat.reduceAdd, Nat.reduceLeDiff, Nat.reduceSub, Nat.reduceLT, Int.reduceEq, Int.reduceLT, Int.reduceLE, Int.reduceToNat]
         · replace T := T.2 c55
           by_cases c63 : kind = 13
           · replace T := T.1 c63
             by_cases c64 : a.k = b.k
             · replace T := T.1 c64
               obtain ⟨r33, q65, r34, q66, rfl⟩ := T
               simp only [R_ref4_SameVal, le] at q65
               simp only [R_ref4_truth, le] at q66
               simp only [eq_false c1, eq_false c43, eq_false c45, eq_false c47, eq_false c55, eq_true c63, eq_true c64, q65, q66, U_ref4_Two, lw, le, reduceIte, reduceCtorEq, Nat.reduceEqDiff, Nat.reduceAdd, Nat.reduceLeDiff, Nat.reduceSub, Nat.reduceLT, Int.reduceEq, Int.reduceLT, Int.reduceLE, Int.reduceToNat]
             · replace T := T.2 c64
               obtain ⟨r35, q67, rfl⟩ := T
               simp only [R_ref4_bad, le] at q67
               simp only [eq_false c1, eq_false c43, eq_false c45, eq_false c47, eq_false c55, eq_true c63, eq_false c64, q67, U_ref4_Two, lw, le, reduceIte, reduceCtorEq, Nat.reduceEqDiff, Nat.reduceAdd, Nat.reduceLeDiff, Nat.reduceSub, Nat.reduceLT, Int.reduceEq, Int.reduceLT, Int.reduceLE, Int.reduceToNat]
           · replace T := T.2 c63
             by_cases c68 : kind = 14
             · replace T := T.1 c68
               by_cases c69 : a.k = b.k
               · replace T := T.1 c69
                 obtain ⟨r36, q70, r37, q71, rfl⟩ := T
                 simp only [R_ref4_SameVal, le] at q70
                 simp only [R_ref4_truth, le] at q71
                 simp only [eq_false c1, eq_false c43, eq_false c45, eq_false c47, eq_false c55, eq_false c63, eq_true c68, eq_true c69, q70, q71, U_ref4_Two, lw, le, reduceIte, reduceCtorEq, Nat.reduceEqDiff, Nat.reduceAdd, Nat.reduceLeDiff, Nat.reduceSub, Nat.reduceLT, Int.reduceEq, Int.reduceLT, Int.reduceLE, Int.reduceToNat]
               · replace T := T.2 c69
                 obtain ⟨r38, q72, rfl⟩ := T
                 simp only [R_ref4_bad, le] at q72
                 simp only [eq_false c1, eq_false c43, eq_false c45, eq_false c47, eq_false c55, eq_false c63, eq_true c68, eq_false c69, q72, U_ref4_Two, lw, le, reduceIte, reduceCtorEq, Nat.reduceEqDiff, Nat.reduceAdd, Nat.reduceLeDiff, Nat.reduceSub, Nat.reduceLT, Int.reduceEq, Int.reduceLT, Int.reduceLE, Int.reduceToNat]
             · replace T := T.2 c68
               obtain ⟨r39, q73, rfl⟩ := T
               simp only [R_ref4_bad, le] at q73
               simp only [eq_false c1, eq_false c43, eq_false c45, eq_false c47, eq_false c55, eq_false c63, eq_false c68, q73, U_ref4_Two, lw, le, reduceIte, reduceCtorEq, Nat.reduceEqDiff, Nat.reduceAdd, Nat.reduceLeDiff, Nat.reduceSub, Nat.reduceLT, Int.reduceEq, Int.reduceLT, Int.reduceLE, Int.reduceToNat]
theorem sp_ref4_Index : SP 44 = some (.code sc_ref4_Index) := SPof_code rfl Tryd.func44 comp_ref4_Index
/-! doorkeeper/doorkeeperref4.Index -/
set_option maxHeartbeats 4000000 in
theorem ref4_Index_tree (a : V) (b : V) (r : Got) (T :
  ((a.k = 4) →
  ((b.k = 1) →
   ((b.n < 0) →
    ∃ (r1 : Got), (R_ref4_bad 2 r1) ∧
    r1 = r) ∧
   (¬ (b.n < 0) →
    ((((a.l.length : Nat) : Int) ≤ b.n) →
     ∃ (r2 : Got), (R_ref4_bad 2 r2) ∧
     r2 = r) ∧
    (¬ (((a.l.length : Nat) : Int) ≤ b.n) →
     (0 ≤ b.n) ∧
     ∃ (v3 : V), (a.l[b.n.toNat]? = some v3) ∧
     (Got.mk v3 0) = r))) ∧
  (¬ (b.k = 1) →
   ∃ (r4 : Got), (R_ref4_bad 7 r4) ∧
   r4 = r)) ∧
 (¬ (a.k = 4) →
  ∃ (r5 : Got), (R_ref4_bad 7 r5) ∧
  r5 = r)) : R_ref4_Index a b r := by
 intro S
 rw [call_code sp_ref4_Index _ _ rfl]
 by_cases c1 : a.k = 4
 · replace T := T.1 c1
   by_cases c2 : b.k = 1
   · replace T := T.1 c2
     by_cases c3 : b.n < 0
     · replace T := T.1 c3
       obtain ⟨r1, q4, rfl⟩ := T
       simp only [R_ref4_bad, le] at q4
       simp only [eq_true c1, eq_true c2, eq_true c3, q4, U_ref4_Index, lw, le, reduceIte, reduceCtorEq, Nat.reduceEqDiff, Nat.reduceAdd, Nat.reduceLeDiff, Nat.reduceSub, Nat.reduceLT, Int.reduceEq, Int.reduceLT, Int.reduceLE, Int.reduceToNat]
     · replace T := T.2 c3
       by_cases c5 : ((a.l.length : Nat) : Int) ≤ b.n
       · replace T := T.1 c5
         obtain ⟨r2, q6, rfl⟩ := T
         simp only [R_ref4_bad, le] at q6
         simp only [eq_true c1, eq_true c2, eq_false c3, eq_true c5, q6, U_ref4_Index, lw, le, reduceIte, reduceCtorEq, Nat.reduceEqDiff, Nat.reduceAdd, Nat.reduceLeDiff, Nat.reduceSub, Nat.reduceLT, Int.reduceEq, Int.reduceLT, Int.reduceLE, Int.reduceToNat]
       · replace T := T.2 c5
         obtain ⟨p7, v3, q8, rfl⟩ := T
         simp only [eq_true c1, eq_true c2, eq_false c3, eq_false c5, p7, q8, U_ref4_Index, lw, le, reduceIte, reduceCtorEq, Nat.reduceEqDiff, Nat.reduceAdd, Nat.reduceLeDiff, Nat.reduceSub, Nat.reduceLT, Int.reduceEq, Int.reduceLT, Int.reduceLE, Int.reduceToNat]
   · replace T := T.2 c2
     obtain ⟨r4, q9, rfl⟩ := T
     simp only [R_ref4_bad, le] at q9
     simp only [eq_true c1, eq_false c2, q9, U_ref4_Index, lw, le, reduceIte, reduceCtorEq, Nat.reduceEqDiff, Nat.reduceAdd, Nat.reduceLeDiff, Nat.reduceSub, Nat.reduceLT, Int.reduceEq, Int.reduceLT, Int.reduceLE, Int.reduceToNat]
 · replace T := T.2 c1
   obtain ⟨r5, q10, rfl⟩ := T
   simp only [R_ref4_bad, le] at q10
   simp only [eq_false c1, q10, U_ref4_Index, lw, le, reduceIte, reduceCtorEq, Nat.reduceEqDiff, Nat.reduceAdd, Nat.reduceLeDiff, Nat.reduceSub, Nat.reduceLT, Int.reduceEq, Int.reduceLT, Int.reduceLE, Int.reduceToNat]
theorem sp_ref4_SameVal : SP 37 = some (.code sc_ref4_SameVal) := SPof_code rfl Tryd.func37 comp_ref4_SameVal
/-! doorkeeper/doorkeeperref4.SameVal -/
def At_ref4_SameVal_1 (a : V) (b : V) (i1 : Int) (r : Bool) : Prop := ∀ (S : Sto) (e : Nat → PV) (f : Fr), e 2 = .ptr 0 2 0 ∧ e 3 = .ptr 0 3 0 ∧ e 5 = .int .i64 i1 ∧ f.box 2 = some [.int .i64 a.k, .int .i64 a.n, .str a.s, .list 4 (encL a.l) false] ∧ f.box 3 = some [.int .i64 b.k, .int .i64 b.n, .str b.s, .list 4 (encL b.l) false] → k_ref4_SameVal_1 SP (E SP (.loop b_ref4_SameVal_1) ⟨e, f :: S⟩) = .ok (.v (.bool r)) S
set_option maxHeartbeats 4000000 in
theorem At_ref4_SameVal_1_step (a : V) (b : V) (i1 : Int) (r : Bool) (T :
  ((i1 < ((a.l.length : Nat) : Int)) →
  (0 ≤ i1) ∧
  ∃ (v2 : V), (a.l[i1.toNat]? = some v2) ∧
  (0 ≤ i1) ∧
  ∃ (v3 : V), (b.l[i1.toNat]? = some v3) ∧
  ∃ (r4 : Bool), (R_ref4_SameVal v2 v3 r4) ∧
  ((r4 = true) →
   (I64 (i1 + 1)) ∧
   At_ref4_SameVal_1 a b (i1 + 1) r) ∧
  (¬ (r4 = true) →
   false = r)) ∧
 (¬ (i1 < ((a.l.length : Nat) : Int)) →
  true = r)) : At_ref4_SameVal_1 a b i1 r := by
 intro S e f h
 unfold k_ref4_SameVal_1
 rw [E_loop]
 by_cases c1 : i1 < ((a.l.length : Nat) : Int)
 · replace T := T.1 c1
   obtain ⟨p2, v2, q3, p4, v3, q5, r4, q6, T⟩ := T
   simp only [R_ref4_SameVal, le] at q6
   by_cases c7 : r4 = true
   · replace T := T.1 c7
     obtain ⟨p8, T⟩ := T
     try simp only [h, eq_true c1, p2, q3, p4, q5, q6, c7, p8.wrap, U_ref4_SameVal, lw, le, reduceIte, reduceCtorEq, Nat.reduceEqDiff, Nat.reduceAdd, Nat.reduceLeDiff, Nat.reduceSub, Nat.reduceLT, Int.reduceEq, Int.reduceLT, Int.reduceLE, Int.reduceToNat]
     refine T S _ _ ?_
     simp only [h, eq_true c1, p2, q3, p4, q5, q6, c7, p8.wrap, U_ref4_SameVal, lw, le, reduceIte, reduceCtorEq, Nat.reduceEqDiff, Nat.reduceAdd, Nat.reduceLeDiff, Nat.reduceSub, Nat.reduceLT, Int.reduceEq, Int.reduceLT, Int.reduceLE, Int.reduceToNat]
   · replace T := T.2 c7
     replace c7 := Bool.eq_false_iff.2 c7
     obtain rfl := T
     simp only [h, eq_true c1, p2, q3, p4, q5, q6, c7, U_ref4_SameVal, lw, le, reduceIte, reduceCtorEq, Nat.reduceEqDiff, Nat.reduceAdd, Nat.reduceLeDiff, Nat.reduceSub, Nat.reduceLT, Int.reduceEq, Int.reduceLT, Int.reduceLE, Int.reduceToNat]
 · replace T := T.2 c1
   obtain rfl := T
   simp only [h, eq_false c1, U_ref4_SameVal, lw, le, reduceIte, reduceCtorEq, Nat.reduceEqDiff, Nat.reduceAdd, Nat.reduceLeDiff, Nat.reduceSub, Nat.reduceLT, Int.reduceEq, Int.reduceLT, Int.reduceLE, Int.reduceToNat]
set_option maxHeartbeats 4000000 in
theorem ref4_SameVal_tree (a : V) (b : V) (r : Bool) (T :
  ((a.k = b.k) →
  ((a.n = b.n) →
   ((a.s = b.s) →
    ((((a.l.length : Nat) : Int) = ((b.l.length : Nat) : Int)) →
     At_ref4_SameVal_1 a b 0 r) ∧
    (¬ (((a.l.length : Nat) : Int) = ((b.l.length : Nat) : Int)) →
     false = r)) ∧
   (¬ (a.s = b.s) →
    false = r)) ∧
  (¬ (a.n = b.n) →
   false = r)) ∧
 (¬ (a.k = b.k) →
  false = r)) : R_ref4_SameVal a b r := by
 intro S
 rw [call_code sp_ref4_SameVal _ _ rfl]
 by_cases c1 : a.k = b.k
 · replace T := T.1 c1
   by_cases c2 : a.n = b.n
   · replace T := T.1 c2
     by_cases c3 : a.s = b.s
     · replace T := T.1 c3
       by_cases c4 : ((a.l.length : Nat) : Int) = ((b.l.length : Nat) : Int)
       · replace T := T.1 c4
         try simp only [eq_true c1, eq_true c2, eq_true c3, eq_true c4, U_ref4_SameVal, lw, le, reduceIte, reduceCtorEq, Nat.reduceEqDiff, Nat.reduceAdd, Nat.reduceLeDiff, Nat.reduceSub, Nat.reduceLT, Int.reduceEq, Int.reduceLT, Int.reduceLE, Int.reduceToNat]
         refine T S _ _ ?_
         simp only [eq_true c1, eq_true c2, eq_true c3, eq_true c4, U_ref4_SameVal, lw, le, reduceIte, reduceCtorEq, Nat.reduceEqDiff, Nat.reduceAdd, Nat.reduceLeDiff, Nat.reduceSub, Nat.reduceLT, Int.reduceEq, Int.reduceLT, Int.reduceLE, Int.reduceToNat]
       · replace T := T.2 c4
         obtain rfl := T
         simp only [eq_true c1, eq_true c2, eq_true c3, eq_false c4, U_ref4_SameVal, lw, le, reduceIte, reduceCtorEq, Nat.reduceEqDiff, Nat.reduceAdd, Nat.reduceLeDiff, Nat.reduceSub, Nat.reduceLT, Int.reduceEq, Int.reduceLT, Int.reduceLE, Int.reduceToNat]
     · replace T := T.2 c3
       obtain rfl := T
       simp only [eq_true c1, eq_true c2, eq_false c3, U_ref4_SameVal, lw, le, reduceIte, reduceCtorEq, Nat.reduceEqDiff, Nat.reduceAdd, Nat.reduceLeDiff, Nat.reduceSub, Nat.reduceLT, Int.reduceEq, Int.reduceLT, Int.reduceLE, Int.reduceToNat]
   · replace T := T.2 c2
     obtain rfl := T
     simp only [eq_true c1, eq_false c2, U_ref4_SameVal, lw, le, reduceIte, reduceCtorEq, Nat.reduceEqDiff, Nat.reduceAdd, Nat.reduceLeDiff, Nat.reduceSub, Nat.reduceLT, Int.reduceEq, Int.reduceLT, Int.reduceLE, Int.reduceToNat]
 · replace T := T.2 c1
   obtain rfl := T
   simp only [eq_false c1, U_ref4_SameVal, lw, le, reduceIte, reduceCtorEq, Nat.reduceEqDiff, Nat.reduceAdd, Nat.reduceLeDiff, Nat.reduceSub, Nat.reduceLT, Int.reduceEq, Int.reduceLT, Int.reduceLE, Int.reduceToNat]
theorem sp_ref4_Type : SP 39 = some (.code sc_ref4_Type) := SPof_code rfl Tryd.func39 comp_ref4_Type
/-! doorkeeper/doorkeeperref4.Type -/
set_option maxHeartbeats 4000000 in
theorem ref4_Type_tree (v : V) (r : List UInt8) (T :
  ((v.k = 1) →
  [105, 110, 116] = r) ∧
 (¬ (v.k = 1) →
  ((v.k = 2) →
   [115, 116, 114, 105, 110, 103] = r) ∧
  (¬ (v.k = 2) →
   ((v.k = 3) →
    [98, 111, 111, 108] = r) ∧
   (¬ (v.k = 3) →
    [108, 105, 115, 116] = r)))) : R_ref4_Type v r := by
 intro S
 rw [call_code sp_ref4_Type _ _ rfl]
 by_cases c1 : v.k = 1
 · replace T := T.1 c1
   obtain rfl := T
   simp only [eq_true c1, U_ref4_Type, lw, le, reduceIte, reduceCtorEq, Nat.reduceEqDiff, Nat.reduceAdd, Nat.reduceLeDiff, Nat.reduceSub, Nat.reduceLT, Int.reduceEq, Int.reduceLT, Int.reduceLE, Int.reduceToNat]
 · replace T := T.2 c1
   by_cases c2 : v.k = 2
   · replace T := T.1 c2
     obtain rfl := T
     simp only [eq_false c1, eq_true c2, U_ref4_Type, lw, le, reduceIte, reduceCtorEq, Nat.reduceEqDiff, Nat.reduceAdd, Nat.reduceLeDiff, Nat.reduceSub, Nat.reduceLT, Int.reduceEq, Int.reduceLT, Int.reduceLE, Int.reduceToNat]
   · replace T := T.2 c2
     by_cases c3 : v.k = 3
     · replace T := T.1 c3
       obtain rfl := T
       simp only [eq_false c1, eq_false c2, eq_true c3, U_ref4_Type, lw, le, reduceIte, reduceCtorEq, Nat.reduceEqDiff, Nat.reduceAdd, Nat.reduceLeDiff, Nat.reduceSub, Nat.reduceLT, Int.reduceEq, Int.reduceLT, Int.reduceLE, Int.reduceToNat]
     · replace T := T.2 c3
       obtain rfl := T
       simp only [eq_false c1, eq_false c2, eq_false c3, U_ref4_Type, lw, le, reduceIte, reduceCtorEq, Nat.reduceEqDiff, Nat.reduceAdd, Nat.reduceLeDiff, Nat.reduceSub, Nat.reduceLT, Int.reduceEq, Int.reduceLT, Int.reduceLE, Int.reduceToNat]
theorem sp_ref4_Text : SP 32 = some (.code sc_ref4_Text) := SPof_code rfl Tryd.func32 comp_ref4_Text
/-! doorkeeper/doorkeeperref4.Text -/
set_option maxHeartbeats 4000000 in
theorem ref4_Text_tree (v : V) (r : Said) (T :
  ((v.k = 1) →
  ∃ (r1 : List UInt8), (R_ref1_Digits v.n r1) ∧
  (Said.mk r1 0) = r) ∧
 (¬ (v.k = 1) →
  ((v.k = 2) →
   (Said.mk v.s 0) = r) ∧
  (¬ (v.k = 2) →
   ((v.k = 3) →
    ((v.n = 1) →
     (Said.mk [116, 114, 117, 101] 0) = r) ∧
    (¬ (v.n = 1) →
     (Said.mk [102, 97, 108, 115, 101] 0) = r)) ∧
   (¬ (v.k = 3) →
    (Said.mk [] 7) = r)))) : R_ref4_Text v r := by
 intro S
 rw [call_code sp_ref4_Text _ _ rfl]
 by_cases c1 : v.k = 1
 · replace T := T.1 c1
   obtain ⟨r1, q2, rfl⟩ := T
   simp only [R_ref1_Digits, le] at q2
   simp only [eq_true c1, q2, U_ref4_Text, lw, le, reduceIte, reduceCtorEq, Nat.reduceEqDiff, Nat.reduceAdd, Nat.reduceLeDiff, Nat.reduceSub, Nat.reduceLT, Int.reduceEq, Int.reduceLT, Int.reduceLE, Int.reduceToNat]
 · replace T := T.2 c1
   by_cases c3 : v.k = 2
   · replace T := T.1 c3
     obtain rfl := T
     simp only [eq_false c1, eq_true c3, U_ref4_Text, lw, le, reduceIte, reduceCtorEq, Nat.reduceEqDiff, Nat.reduceAdd, Nat.reduceLeDiff, Nat.reduceSub, Nat.reduceLT, Int.reduceEq, Int.reduceLT, Int.reduceLE, Int.reduceToNat]
   · replace T := T.2 c3
     by_cases c4 : v.k = 3
     · replace T := T.1 c4
       by_cases c5 : v.n = 1
       · replace T := T.1 c5
         obtain rfl := T
         simp only [eq_false c1, eq_false c3, eq_true c4, eq_true c5, U_ref4_Text, lw, le, reduceIte, reduceCtorEq, Nat.reduceEqDiff, Nat.reduceAdd, Nat.reduceLeDiff, Nat.reduceSub, Nat.reduceLT, Int.reduceEq, Int.reduceLT, Int.reduceLE, Int.reduceToNat]
       · replace T := T.2 c5
         obtain rfl := T
         simp only [eq_false c1, eq_false c3, eq_true c4, eq_false c5, U_ref4_Text, lw, le, reduceIte, reduceCtorEq, Nat.reduceEqDiff, Nat.reduceAdd, Nat.reduceLeDiff, Nat.reduceSub, Nat.reduceLT, Int.reduceEq, Int.reduceLT, Int.reduceLE, Int.reduceToNat]
     · replace T := T.2 c4
       obtain rfl := T
       simp only [eq_false c1, eq_false c3, eq_false c4, U_ref4_Text, lw, le, reduceIte, reduceCtorEq, Nat.reduceEqDiff, Nat.reduceAdd, Nat.reduceLeDiff, Nat.reduceSub, Nat.reduceLT, Int.reduceEq, Int.reduceLT, Int.reduceLE, Int.reduceToNat]
theorem sp_ref4_deep : SP 72 = some (.code sc_ref4_deep) := SPof_code rfl Tryd.func72 comp_ref4_deep
/-! doorkeeper/doorkeeperref4.deep -/
def At_ref4_deep_1 (v : V) (left : Int) (i1 : Int) (i2 : Int) (r : Int) : Prop := ∀ (S : Sto) (e : Nat → PV) (f : Fr), e 1 = .int .i64 left ∧ e 2 = .ptr 0 2 0 ∧ e 5 = .int .i64 i1 ∧ e 6 = .int .i64 i2 ∧ f.box 2 = some [.int .i64 v.k, .int .i64 v.n, .str v.s, .list 4 (encL v.l) false] → k_ref4_deep_1 SP (E SP (.loop b_ref4_deep_1) ⟨e, f :: S⟩) = .ok (.v (.int .i64 r)) S
set_option maxHeartbeats 4000000 in
theorem At_ref4_deep_1_step (v : V) (left : Int) (i1 : Int) (i2 : Int) (r : Int) (T :
  ((i2 < ((v.l.length : Nat) : Int)) →
  (0 ≤ i2) ∧
  ∃ (v3 : V), (v.l[i2.toNat]? = some v3) ∧
  (I64 (left - 1)) ∧
  ∃ (r4 : Int), (R_ref4_deep v3 (left - 1) r4) ∧
  (I64 (i2 + 1)) ∧
  At_ref4_deep_1 v left (if i1 < r4 then r4 else i1) (i2 + 1) r) ∧
 (¬ (i2 < ((v.l.length : Nat) : Int)) →
  (I64 (i1 + 1)) ∧
  (i1 + 1) = r)) : At_ref4_deep_1 v left i1 i2 r := by
 intro S e f h
 unfold k_ref4_deep_1
 rw [E_loop]
 by_cases c1 : i2 < ((v.l.length : Nat) : Int)
 · replace T := T.1 c1
   obtain ⟨p2, v3, q3, p4, r4, q5, p6, T⟩ := T
   simp only [R_ref4_deep, le] at q5
   try simp only [h, eq_true c1, p2, q3, p4.wrap, q5, p6.wrap, U_ref4_deep, lw, le, reduceIte, reduceCtorEq, Nat.reduceEqDiff, Nat.reduceAdd, Nat.reduceLeDiff, Nat.reduceSub, Nat.reduceLT, Int.reduceEq, Int.reduceLT, Int.reduceLE, Int.reduceToNat]
   refine T S _ _ ?_
   simp only [h, eq_true c1, p2, q3, p4.wrap, q5, p6.wrap, U_ref4_deep, lw, le, reduceIte, reduceCtorEq, Nat.reduceEqDiff, Nat.reduceAdd, Nat.reduceLeDiff, Nat.reduceSub, Nat.reduceLT, Int.reduceEq, Int.reduceLT, Int.reduceLE, Int.reduceToNat]
 · replace T := T.2 c1
   obtain ⟨p7, rfl⟩ := T
   simp only [h, eq_false c1, p7.wrap, U_ref4_deep, lw, le, reduceIte, reduceCtorEq, Nat.reduceEqDiff, Nat.reduceAdd, Nat.reduceLeDiff, Nat.reduceSub, Nat.reduceLT, Int.reduceEq, Int.reduceLT, Int.reduceLE, Int.reduceToNat]
set_option maxHeartbeats 4000000 in
theorem ref4_deep_tree (v : V) (left : Int) (r : Int) (T :
  ((v.k = 4) →
  ((left ≤ 0) →
   1000 = r) ∧
  (¬ (left ≤ 0) →
   At_ref4_deep_1 v left 0 0 r)) ∧
 (¬ (v.k = 4) →
  0 = r)) : R_ref4_deep v left r := by
 intro S
 rw [call_code sp_ref4_deep _ _ rfl]
 by_cases c1 : v.k = 4
 · replace T := T.1 c1
   by_cases c2 : left ≤ 0
   · replace T := T.1 c2
     obtain rfl := T
     simp only [eq_true c1, eq_true c2, U_ref4_deep, lw, le, reduceIte, reduceCtorEq, Nat.reduceEqDiff, Nat.reduceAdd, Nat.reduceLeDiff, Nat.reduceSub, Nat.reduceLT, Int.reduceEq, Int.reduceLT, Int.reduceLE, Int.reduceToNat]
   · replace T := T.2 c2
     try simp only [eq_true c1, eq_false c2, U_ref4_deep, lw, le, reduceIte, reduceCtorEq, Nat.reduceEqDiff, Nat.reduceAdd, Nat.reduceLeDiff, Nat.reduceSub, Nat.reduceLT, Int.reduceEq, Int.reduceLT, Int.reduceLE, Int.reduceToNat]
     refine T S _ _ ?_
     simp only [eq_true c1, eq_false c2, U_ref4_deep, lw, le, reduceIte, reduceCtorEq, Nat.reduceEqDiff, Nat.reduceAdd, Nat.reduceLeDiff, Nat.reduceSub, Nat.reduceLT, Int.reduceEq, Int.reduceLT, Int.reduceLE, Int.reduceToNat]
 · replace T := T.2 c1
   obtain rfl := T
   simp only [eq_false c1, U_ref4_deep, lw, le, reduceIte, reduceCtorEq, Nat.reduceEqDiff, Nat.reduceAdd, Nat.reduceLeDiff, Nat.reduceSub, Nat.reduceLT, Int.reduceEq, Int.reduceLT, Int.reduceLE, Int.reduceToNat]
theorem sp_ref4_fields : SP 73 = some (.code sc_ref4_fields) := SPof_code rfl Tryd.func73 comp_ref4_fields
/-! doorkeeper/doorkeeperref4.fields -/
def At_ref4_fields_1 (v : V) (i1 : Int) (r : Bool) : Prop := ∀ (S : Sto) (e : Nat → PV) (f : Fr), e 1 = .ptr 0 1 0 ∧ e 3 = .int .i64 i1 ∧ f.box 1 = some [.int .i64 v.k, .int .i64 v.n, .str v.s, .list 4 (encL v.l) false] → k_ref4_fields_1 SP (E SP (.loop b_ref4_fields_1) ⟨e, f :: S⟩) = .ok (.v (.bool r)) S
set_option maxHeartbeats 4000000 in
theorem At_ref4_fields_1_step (v : V) (i1 : Int) (r : Bool) (T :
  ((i1 < ((v.l.length : Nat) : Int)) →
  (0 ≤ i1) ∧
  ∃ (v2 : V), (v.l[i1.toNat]? = some v2) ∧
  ∃ (r3 : Bool), (R_ref4_fields v2 r3) ∧
  ((r3 = true) →
   (I64 (i1 + 1)) ∧
   At_ref4_fields_1 v (i1 + 1) r) ∧
  (¬ (r3 = true) →
   false = r)) ∧
 (¬ (i1 < ((v.l.length : Nat) : Int)) →
  ((v.n = 0) →
   ((v.s = []) →
    (decide (((v.l.length : Nat) : Int) ≤ 64)) = r) ∧
   (¬ (v.s = []) →
    false = r)) ∧
  (¬ (v.n = 0) →
   false = r))) : At_ref4_fields_1 v i1 r := by
 intro S e f h
 unfold k_ref4_fields_1
 rw [E_loop]
 by_cases c1 : i1 < ((v.l.length : Nat) : Int)
 · replace T := T.1 c1
   obtain ⟨p2, v2, q3, r3, q4, T⟩ := T
   simp only [R_ref4_fields, le] at q4
   by_cases c5 : r3 = true
   · replace T := T.1 c5
     obtain ⟨p6, T⟩ := T
     try simp only [h, eq_true c1, p2, q3, q4, c5, p6.wrap, U_ref4_fields, lw, le, reduceIte, reduceCtorEq, Nat.reduceEqDiff, Nat.reduceAdd, Nat.reduceLeDiff, Nat.reduceSub, Nat.reduceLT, Int.reduceEq, Int.reduceLT, Int.reduceLE, Int.reduceToNat]
     refine T S _ _ ?_
     simp only [h, eq_true c1, p2, q3, q4, c5, p6.wrap, U_ref4_fields, lw, le, reduceIte, reduceCtorEq, Nat.reduceEqDiff, Nat.reduceAdd, Nat.reduceLeDiff, Nat.reduceSub, Nat.reduceLT, Int.reduceEq, Int.reduceLT, Int.reduceLE, Int.reduceToNat]
   · replace T := T.2 c5
     replace c5 := Bool.eq_false_iff.2 c5
     obtain rfl := T
     simp only [h, eq_true c1, p2, q3, q4, c5, U_ref4_fields, lw, le, reduceIte, reduceCtorEq, Nat.reduceEqDiff, Nat.reduceAdd, Nat.reduceLeDiff, Nat.reduceSub, Nat.reduceLT, Int.reduceEq, Int.reduceLT, Int.reduceLE, Int.reduceToNat]
 · replace T := T.2 c1
   by_cases c7 : v.n = 0
   · replace T := T.1 c7
     by_cases c8 : v.s = []
     · replace T := T.1 c8
       obtain rfl := T
       simp only [h, eq_false c1, eq_true c7, eq_true c8, U_ref4_fields, lw, le, reduceIte, reduceCtorEq, Nat.reduceEqDiff, Nat.reduceAdd, Nat.reduceLeDiff, Nat.reduceSub, Nat.reduceLT, Int.reduceEq, Int.reduceLT, Int.reduceLE, Int.reduceToNat]
     · replace T := T.2 c8
       obtain rfl := T
       simp only [h, eq_false c1, eq_true c7, eq_false c8, U_ref4_fields, lw, le, reduceIte, reduceCtorEq, Nat.reduceEqDiff, Nat.reduceAdd, Nat.reduceLeDiff, Nat.reduceSub, Nat.reduceLT, Int.reduceEq, Int.reduceLT, Int.reduceLE, Int.reduceToNat]
   · replace T := T.2 c7
     obtain rfl := T
     simp only [h, eq_false c1, eq_false c7, U_ref4_fields, lw, le, reduceIte, reduceCtorEq, Nat.reduceEqDiff, Nat.reduceAdd, Nat.reduceLeDiff, Nat.reduceSub, Nat.reduceLT, Int.reduceEq, Int.reduceLT, Int.reduceLE, Int.reduceToNat]
set_option maxHeartbeats 4000000 in
theorem ref4_fields_tree (v : V) (r : Bool) (T :
  ((v.k = 1) →
  ((v.s = []) →
   (decide (((v.l.length : Nat) : Int) = 0)) = r) ∧
  (¬ (v.s = []) →
   false = r)) ∧
 (¬ (v.k = 1) →
  ((v.k = 2) →
   ((v.n = 0) →
    ((((v.l.length : Nat) : Int) = 0) →
     (decide (((v.s.length : Nat) : Int) ≤ 400)) = r) ∧
    (¬ (((v.l.length : Nat) : Int) = 0) →
     false = r)) ∧
   (¬ (v.n = 0) →
    false = r)) ∧
  (¬ (v.k = 2) →
   ((v.k = 3) →
    ((v.s = []) →
     ((((v.l.length : Nat) : Int) = 0) →
      ((v.n = 0) →
       true = r) ∧
      (¬ (v.n = 0) →
       (decide (v.n = 1)) = r)) ∧
     (¬ (((v.l.length : Nat) : Int) = 0) →
      false = r)) ∧
    (¬ (v.s = []) →
     false = r)) ∧
   (¬ (v.k = 3) →
    ((v.k = 4) →
     At_ref4_fields_1 v 0 r) ∧
    (¬ (v.k = 4) →
     false = r))))) : R_ref4_fields v r := by
 intro S
 rw [call_code sp_ref4_fields _ _ rfl]
 by_cases c1 : v.k = 1
 · replace T := T.1 c1
   by_cases c2 : v.s = []
   · replace T := T.1 c2
     obtain rfl := T
     simp only [eq_true c1, eq_true c2, U_ref4_fields, lw, le, reduceIte, reduceCtorEq, Nat.reduceEqDiff, Nat.reduceAdd, Nat.reduceLeDiff, Nat.reduceSub, Nat.reduceLT, Int.reduceEq, Int.reduceLT, Int.reduceLE, Int.reduceToNat]
   · replace T := T.2 c2
     obtain rfl := T
     simp only [eq_true c1, eq_false c2, U_ref4_fields, lw, le, reduceIte, reduceCtorEq, Nat.reduceEqDiff, Nat.reduceAdd, Nat.reduceLeDiff, Nat.reduceSub, Nat.reduceLT, Int.reduceEq, Int.reduceLT, Int.reduceLE, Int.reduceToNat]
 · replace T := T.2 c1
   by_cases c3 : v.k = 2
   · replace T := T.1 c3
     by_cases c4 : v.n = 0
     · replace T := T.1 c4
       by_cases c5 : ((v.l.length : Nat) : Int) = 0
       · replace T := T.1 c5
         obtain rfl := T
         simp only [eq_false c1, eq_true c3, eq_true c4, eq_true c5, U_ref4_fields, lw, le, reduceIte, reduceCtorEq, Nat.reduceEqDiff, Nat.reduceAdd, Nat.reduceLeDiff, Nat.reduceSub, Nat.reduceLT, Int.reduceEq, Int.reduceLT, Int.reduceLE, Int.reduceToNat]
       · replace T := T.2 c5
         obtain rfl := T
         simp only [eq_false c1, eq_true c3, eq_true c4, eq_false c5, U_ref4_fields, lw, le, reduceIte, reduceCtorEq, Nat.reduceEqDiff, Nat.reduceAdd, Nat.reduceLeDiff, Nat.reduceSub, Nat.reduceLT, Int.reduceEq, Int.reduceLT, Int.reduceLE, Int.reduceToNat]
     · replace T := T.2 c4
       obtain rfl := T
       simp only [eq_false c1, eq_true c3, eq_false c4, U_ref4_fields, lw, le, reduceIte, reduceCtorEq, Nat.reduceEqDiff, Nat.reduceAdd, Nat.reduceLeDiff, Nat.reduceSub, Nat.reduceLT, Int.reduceEq, Int.reduceLT, Int.reduceLE, Int.reduceToNat]
   · replace T := T.2 c3
     by_cases c6 : v.k = 3
     · replace T := T.1 c6
       by_cases c7 : v.s = []
       · replace T := T.1 c7
         by_cases c8 : ((v.l.length : Nat) : Int) = 0
         · replace T := T.1 c8
           by_cases c9 : v.n = 0
           · replace T := T.1 c9
             obtain rfl := T
             simp only [eq_false c1, eq_false c3, eq_true c6, eq_true c7, eq_true c8, eq_true c9, U_ref4_fields, lw, le, reduceIte, reduceCtorEq, Nat.reduceEqDiff, Nat.reduceAdd, Nat.reduceLeDiff, Nat.reduceSub, Nat.reduceLT, Int.reduceEq, Int.reduceLT, Int.reduceLE, Int.reduceToNat]
           · replace T := T.2 c9
             obtain rfl := T
             simp only [eq_false c1, eq_false c3, eq_true c6, eq_true c7, eq_true c8, eq_false c9, U_ref4_fields, lw, le, reduceIte, reduceCtorEq, Nat.reduceEqDiff, Nat.reduceAdd, Nat.reduceLeDiff, Nat.reduceSub, Nat.reduceLT, Int.reduceEq, Int.reduceLT, Int.reduceLE, Int.reduceToNat]
         · replace T := T.2 c8
           obtain rfl := T
           simp only [eq_false c1, eq_false c3, eq_true c6, eq_true c7, eq_false c8, U_ref4_fields, lw, le, reduceIte, reduceCtorEq, Nat.reduceEqDiff, Nat.reduceAdd, Nat.reduceLeDiff, Nat.reduceSub, Nat.reduceLT, Int.reduceEq, Int.reduceLT, Int.reduceLE, Int.reduceToNat]
       · replace T := T.2 c7
         obtain rfl := T
         simp only [eq_false c1, eq_false c3, eq_true c6, eq_false c7, U_ref4_fields, lw, le, reduceIte, reduceCtorEq, Nat.reduceEqDiff, Nat.reduceAdd, Nat.reduceLeDiff, Nat.reduceSub, Nat.reduceLT, Int.reduceEq, Int.reduceLT, Int.reduceLE, Int.reduceToNat]
     · replace T := T.2 c6
       by_cases c10 : v.k = 4
       · replace T := T.1 c10
         try simp only [eq_false c1, eq_false c3, eq_false c6, eq_true c10, U_ref4_fields, lw, le, reduceIte, reduceCtorEq, Nat.reduceEqDiff, Nat.reduceAdd, Nat.reduceLeDiff, Nat.reduceSub, Nat.reduceLT, Int.reduceEq, Int.reduceLT, Int.reduceLE, Int.reduceToNat]
         refine T S _ _ ?_
         simp only [eq_false c1, eq_false c3, eq_false c6, eq_true c10, U_ref4_fields, lw, le, reduceIte, reduceCtorEq, Nat.reduceEqDiff, Nat.reduceAdd, Nat.reduceLeDiff, Nat.reduceSub, Nat.reduceLT, Int.reduceEq, Int.reduceLT, Int.reduceLE, Int.reduceToNat]
       · replace T := T.2 c10
         obtain rfl := T
         simp only [eq_false c1, eq_false c3, eq_false c6, eq_false c10, U_ref4_fields, lw, le, reduceIte, reduceCtorEq, Nat.reduceEqDiff, Nat.reduceAdd, Nat.reduceLeDiff, Nat.reduceSub, Nat.reduceLT, Int.reduceEq, Int.reduceLT, Int.reduceLE, Int.reduceToNat]
theorem sp_ref4_MayVal : SP 30 = some (.code sc_ref4_MayVal) := SPof_code rfl Tryd.func30 comp_ref4_MayVal
/-! doorkeeper/doorkeeperref4.MayVal -/
set_option maxHeartbeats 4000000 in
theorem ref4_MayVal_tree (v : V) (r : Bool) (T :
  ∃ (r1 : Int), (R_ref4_deep v 64 r1) ∧
 ((r1 ≤ 64) →
  ∃ (r2 : Bool), (R_ref4_fields v r2) ∧
  r2 = r) ∧
 (¬ (r1 ≤ 64) →
  false = r)) : R_ref4_MayVal v r := by
 intro S
 rw [call_code sp_ref4_MayVal _ _ rfl]
 obtain ⟨r1, q1, T⟩ := T
 simp only [R_ref4_deep, le] at q1
 by_cases c2 : r1 ≤ 64
 · replace T := T.1 c2
   obtain ⟨r2, q3, rfl⟩ := T
   simp only [R_ref4_fields, le] at q3
   simp only [q1, eq_true c2, q3, U_ref4_MayVal, lw, le, reduceIte, reduceCtorEq, Nat.reduceEqDiff, Nat.reduceAdd, Nat.reduceLeDiff, Nat.reduceSub, Nat.reduceLT, Int.reduceEq, Int.reduceLT, Int.reduceLE, Int.reduceToNat]
 · replace T := T.2 c2
   obtain rfl := T
   simp only [q1, eq_false c2, U_ref4_MayVal, lw, le, reduceIte, reduceCtorEq, Nat.reduceEqDiff, Nat.reduceAdd, Nat.reduceLeDiff, Nat.reduceSub, Nat.reduceLT, Int.reduceEq, Int.reduceLT, Int.reduceLE, Int.reduceToNat]
theorem sp_law1_Num : SP 40 = some (.code sc_law1_Num) := SPof_code rfl Tryd.func40 comp_law1_Num
/-! doorkeeper/doorkeeperlaw1.Num -/
set_option maxHeartbeats 4000000 in
theorem law1_Num_tree (e_ : Int) (r : Int) (T :
  e_ = r) : R_law1_Num e_ r := by
 intro S
 rw [call_code sp_law1_Num _ _ rfl]
 obtain rfl := T
 simp only [U_law1_Num, lw, le, reduceIte, reduceCtorEq, Nat.reduceEqDiff, Nat.reduceAdd, Nat.reduceLeDiff, Nat.reduceSub, Nat.reduceLT, Int.reduceEq, Int.reduceLT, Int.reduceLE, Int.reduceToNat]
theorem sp_law4_is : SP 41 = some (.code sc_law4_is) := SPof_code rfl Tryd.func41 comp_law4_is
/-! doorkeeper/doorkeeperlaw4.is -/
set_option maxHeartbeats 4000000 in
theorem law4_is_tree (v : V) (e_ : Int) (g : Got) (r : Bool) (T :
  ∃ (r1 : Bool), (R_ref4_SameVal v g.V r1) ∧
 ((r1 = true) →
  ∃ (r2 : Int), (R_law1_Num e_ r2) ∧
  (decide (r2 = g.E)) = r) ∧
 (¬ (r1 = true) →
  false = r)) : R_law4_is v e_ g r := by
 intro S
 rw [call_code sp_law4_is _ _ rfl]
 obtain ⟨r1, q1, T⟩ := T
 simp only [R_ref4_SameVal, le] at q1
 by_cases c2 : r1 = true
 · replace T := T.1 c2
   obtain ⟨r2, q3, rfl⟩ := T
   simp only [R_law1_Num, le] at q3
   simp only [q1, c2, q3, U_law4_is, lw, le, reduceIte, reduceCtorEq, Nat.reduceEqDiff, Nat.reduceAdd, Nat.reduceLeDiff, Nat.reduceSub, Nat.reduceLT, Int.reduceEq, Int.reduceLT, Int.reduceLE, Int.reduceToNat]
 · replace T := T.2 c2
   replace c2 := Bool.eq_false_iff.2 c2
   obtain rfl := T
   simp only [q1, c2, U_law4_is, lw, le, reduceIte, reduceCtorEq, Nat.reduceEqDiff, Nat.reduceAdd, Nat.reduceLeDiff, Nat.reduceSub, Nat.reduceLT, Int.reduceEq, Int.reduceLT, Int.reduceLE, Int.reduceToNat]
theorem sp_law4_awake : SP 28 = some (.code sc_law4_awake) := SPof_code rfl Tryd.func28 comp_law4_awake
/-! doorkeeper/doorkeeperlaw4.awake -/
set_option maxHeartbeats 4000000 in
theorem law4_awake_tree  (r : Bool) (T :
  ∃ (r1 : V) (r2 : Int), (R_val_Two 19 (V.mk 1 1 [] []) (V.mk 1 2 [] []) r1 r2) ∧
 ∃ (r3 : Int), (R_law1_Num r2 r3) ∧
 ((r3 = 0) →
  ((r1.k = 1) →
   (decide (r1.n = 3)) = r) ∧
  (¬ (r1.k = 1) →
   false = r)) ∧
 (¬ (r3 = 0) →
  false = r)) : R_law4_awake  r := by
 intro S
 rw [call_code sp_law4_awake _ _ rfl]
 obtain ⟨r1, r2, q1, r3, q2, T⟩ := T
 simp only [R_val_Two, le] at q1
 simp only [R_law1_Num, le] at q2
 by_cases c3 : r3 = 0
 · replace T := T.1 c3
   by_cases c4 : r1.k = 1
   · replace T := T.1 c4
     obtain rfl := T
     simp only [q1, q2, eq_true c3, eq_true c4, U_law4_awake, lw, le, reduceIte, reduceCtorEq, Nat.reduceEqDiff, Nat.reduceAdd, Nat.reduceLeDiff, Nat.reduceSub, Nat.reduceLT, Int.reduceEq, Int.reduceLT, Int.reduceLE, Int.reduceToNat]
   · replace T := T.2 c4
     obtain rfl := T
     simp only [q1, q2, eq_true c3, eq_false c4, U_law4_awake, lw, le, reduceIte, reduceCtorEq, Nat.reduceEqDiff, Nat.reduceAdd, Nat.reduceLeDiff, Nat.reduceSub, Nat.reduceLT, Int.reduceEq, Int.reduceLT, Int.reduceLE, Int.reduceToNat]
 · replace T := T.2 c3
   obtain rfl := T
   simp only [q1, q2, eq_false c3, U_law4_awake, lw, le, reduceIte, reduceCtorEq, Nat.reduceEqDiff, Nat.reduceAdd, Nat.reduceLeDiff, Nat.reduceSub, Nat.reduceLT, Int.reduceEq, Int.reduceLT, Int.reduceLE, Int.reduceToNat]
theorem sp_law4_Great : SP 27 = some (.code sc_law4_Great) := SPof_code rfl Tryd.func27 comp_law4_Great
/-! doorkeeper/doorkeeperlaw4.Great -/
set_option maxHeartbeats 4000000 in
theorem law4_Great_tree (v : V) (deep_ : Int) (r : Bool) (T :
  ∃ (r1 : Int), (R_law4_many v deep_ r1) ∧
 (decide (500 < r1)) = r) : R_law4_Great v deep_ r := by
 intro S
 rw [call_code sp_law4_Great _ _ rfl]
 obtain ⟨r1, q1, rfl⟩ := T
 simp only [R_law4_many, le] at q1
 simp only [q1, U_law4_Great, lw, le, reduceIte, reduceCtorEq, Nat.reduceEqDiff, Nat.reduceAdd, Nat.reduceLeDiff, Nat.reduceSub, Nat.reduceLT, Int.reduceEq, Int.reduceLT, Int.reduceLE, Int.reduceToNat]
theorem sp_law4_many : SP 69 = some (.code sc_law4_many) := SPof_code rfl Tryd.func69 comp_law4_many
/-! doorkeeper/doorkeeperlaw4.many -/
def At_law4_many_1 (v : V) (deep_ : Int) (i1 : Int) (i2 : Int) (r : Int) : Prop := ∀ (S : Sto) (e : Nat → PV) (f : Fr), e 1 = .int .i64 deep_ ∧ e 2 = .ptr 0 2 0 ∧ e 5 = .int .i64 i1 ∧ e 6 = .int .i64 i2 ∧ f.box 2 = some [.int .i64 v.k, .int .i64 v.n, .str v.s, .list 4 (encL v.l) false] → k_law4_many_1 SP (E SP (.loop b_law4_many_1) ⟨e, f :: S⟩) = .ok (.v (.int .i64 r)) S
set_option maxHeartbeats 4000000 in
theorem At_law4_many_1_step (v : V) (deep_ : Int) (i1 : Int) (i2 : Int) (r : Int) (T :
  ((i2 < ((v.l.length : Nat) : Int)) →
  ((i1 < 1000) →
   (0 ≤ i2) ∧
   ∃ (v3 : V), (v.l[i2.toNat]? = some v3) ∧
   (I64 (deep_ + 1)) ∧
   ∃ (r4 : Int), (R_law4_many v3 (deep_ + 1) r4) ∧
   (I64 (i1 + r4)) ∧
   (I64 (i2 + 1)) ∧
   At_law4_many_1 v deep_ (i1 + r4) (i2 + 1) r) ∧
  (¬ (i1 < 1000) →
   i1 = r)) ∧
 (¬ (i2 < ((v.l.length : Nat) : Int)) →
  i1 = r)) : At_law4_many_1 v deep_ i1 i2 r := by
 intro S e f h
 unfold k_law4_many_1
 rw [E_loop]
 by_cases c1 : i2 < ((v.l.length : Nat) : Int)
 · replace T := T.1 c1
   by_cases c2 : i1 < 1000
   · replace T := T.1 c2
     obtain ⟨p3, v3, q4, p5, r4, q6, p7, p8, T⟩ := T
     simp only [R_law4_many, le] at q6
     try simp only [h, eq_true c1, eq_true c2, p3, q4, p5.wrap, q6, p7.wrap, p8.wrap, U_law4_many, lw, le, reduceIte, reduceCtorEq, Nat.reduceEqDiff, Nat.reduceAdd, Nat.reduceLeDiff, Nat.reduceSub, Nat.reduceLT, Int.reduceEq, Int.reduceLT, Int.reduceLE, Int.reduceToNat]
     refine T S _ _ ?_
     simp only [h, eq_true c1, eq_true c2, p3, q4, p5.wrap, q6, p7.wrap, p8.wrap, U_law4_many, lw, le, reduceIte, reduceCtorEq, Nat.reduceEqDiff, Nat.reduceAdd, Nat.reduceLeDiff, Nat.reduceSub, Nat.reduceLT, Int.reduceEq, Int.reduceLT, Int.reduceLE, Int.reduceToNat]
   · replace T := T.2 c2
     obtain rfl := T
     simp only [h, eq_true c1, eq_false c2, U_law4_many, lw, le, reduceIte, reduceCtorEq, Nat.reduceEqDiff, Nat.reduceAdd, Nat.reduceLeDiff, Nat.reduceSub, Nat.reduceLT, Int.reduceEq, Int.reduceLT, Int.reduceLE, Int.reduceToNat]
 · replace T := T.2 c1
   obtain rfl := T
   simp only [h, eq_false c1, U_law4_many, lw, le, reduceIte, reduceCtorEq, Nat.reduceEqDiff, Nat.reduceAdd, Nat.reduceLeDiff, Nat.reduceSub, Nat.reduceLT, Int.reduceEq, Int.reduceLT, Int.reduceLE, Int.reduceToNat]
set_option maxHeartbeats 4000000 in
theorem law4_many_tree (v : V) (deep_ : Int) (r : Int) (T :
  ((80 < deep_) →
  1000 = r) ∧
 (¬ (80 < deep_) →
  ((100 < ((v.l.length : Nat) : Int)) →
   1000 = r) ∧
  (¬ (100 < ((v.l.length : Nat) : Int)) →
   ((600 < ((v.s.length : Nat) : Int)) →
    1000 = r) ∧
   (¬ (600 < ((v.s.length : Nat) : Int)) →
    At_law4_many_1 v deep_ 1 0 r)))) : R_law4_many v deep_ r := by
 intro S
 rw [call_code sp_law4_many _ _ rfl]
 by_cases c1 : 80 < deep_
 · replace T := T.1 c1
   obtain rfl := T
   simp only [eq_true c1, U_law4_many, lw, le, reduceIte, reduceCtorEq, Nat.reduceEqDiff, Nat.reduceAdd, Nat.reduceLeDiff, Nat.reduceSub, Nat.reduceLT, Int.reduceEq, Int.reduceLT, Int.reduceLE, Int.reduceToNat]
 · replace T := T.2 c1
   by_cases c2 : 100 < ((v.l.length : Nat) : Int)
   · replace T := T.1 c2
     obtain rfl := T
     simp only [eq_false c1, eq_true c2, U_law4_many, lw, le, reduceIte, reduceCtorEq, Nat.reduceEqDiff, Nat.reduceAdd, Nat.reduceLeDiff, Nat.reduceSub, Nat.reduceLT, Int.reduceEq, Int.reduceLT, Int.reduceLE, Int.reduceToNat]
   · replace T := T.2 c2
     by_cases c3 : 600 < ((v.s.length : Nat) : Int)
     · replace T := T.1 c3
       obtain rfl := T
       simp only [eq_false c1, eq_false c2, eq_true c3, U_law4_many, lw, le, reduceIte, reduceCtorEq, Nat.reduceEqDiff, Nat.reduceAdd, Nat.reduceLeDiff, Nat.reduceSub, Nat.reduceLT, Int.reduceEq, Int.reduceLT, Int.reduceLE, Int.reduceToNat]
     · replace T := T.2 c3
       try simp only [eq_false c1, eq_false c2, eq_false c3, U_law4_many, lw, le, reduceIte, reduceCtorEq, Nat.reduceEqDiff, Nat.reduceAdd, Nat.reduceLeDiff, Nat.reduceSub, Nat.reduceLT, Int.reduceEq, Int.reduceLT, Int.reduceLE, Int.reduceToNat]
       refine T S _ _ ?_
       simp only [eq_false c1, eq_false c2, eq_false c3, U_law4_many, lw, le, reduceIte, reduceCtorEq, Nat.reduceEqDiff, Nat.reduceAdd, Nat.reduceLeDiff, Nat.reduceSub, Nat.reduceLT, Int.reduceEq, Int.reduceLT, Int.reduceLE, Int.reduceToNat]
theorem sp_ref1_Digits : SP 59 = some (.code sc_ref1_Digits) := SPof_code rfl Tryd.func59 comp_ref1_Digits
/-! doorkeeper/doorkeeperref1.Digits -/
def At_ref1_Digits_1 (n : Int) (i1 : Int) (s2 : List UInt8) (r : List UInt8) : Prop := ∀ (S : Sto) (e : Nat → PV) (f : Fr), e 0 = .int .i64 n ∧ e 3 = .int .u64 i1 ∧ e 4 = .str s2 → k_ref1_Digits_1 SP (E SP (.loop b_ref1_Digits_1) ⟨e, f :: S⟩) = .ok (.v (.str r)) S
set_option maxHeartbeats 4000000 in
theorem At_ref1_Digits_1_step (n : Int) (i1 : Int) (s2 : List UInt8) (r : List UInt8) (T :
  ((10 ≤ i1) →
  (U64 (48 + (i1.tmod 10))) ∧
  (U8 ((48 + (i1.tmod 10)))) ∧
  (1 + s2.length ≤ maxInt) ∧
  (U64 (i1.tdiv 10)) ∧
  At_ref1_Digits_1 n (i1.tdiv 10) ([(UInt8.ofNat ((48 + (i1.tmod 10))).toNat)] ++ s2) r) ∧
 (¬ (10 ≤ i1) →
  (U64 (48 + i1)) ∧
  (U8 ((48 + i1))) ∧
  (1 + s2.length ≤ maxInt) ∧
  ((n < 0) →
   (1 + (s2.length + 1) ≤ maxInt) ∧
   ([45] ++ ([(UInt8.ofNat ((48 + i1)).toNat)] ++ s2)) = r) ∧
  (¬ (n < 0) →
   ([(UInt8.ofNat ((48 + i1)).toNat)] ++ s2) = r))) : At_ref1_Digits_1 n i1 s2 r := by
 intro S e f h
 unfold k_ref1_Digits_1
 rw [E_loop]
 by_cases c1 : 10 ≤ i1
 · replace T := T.1 c1
   obtain ⟨p2, p3, p4, p5, T⟩ := T
   try simp only [h, eq_true c1, p2.wrap, p3.wrap, p4, p5.wrap, U_ref1_Digits, lw, le, reduceIte, reduceCtorEq, Nat.reduceEqDiff, Nat.reduceAdd, Nat.reduceLeDiff, Nat.reduceSub, Nat.reduceLT, Int.reduceEq, Int.reduceLT, Int.reduceLE, Int.reduceToNat]
   refine T S _ _ ?_
   simp only [h, eq_true c1, p2.wrap, p3.wrap, p4, p5.wrap, U_ref1_Digits, lw, le, reduceIte, reduceCtorEq, Nat.reduceEqDiff, Nat.reduceAdd, Nat.reduceLeDiff, Nat.reduceSub, Nat.reduceLT, Int.reduceEq, Int.reduceLT, Int.reduceLE, Int.reduceToNat]
 · replace T := T.2 c1
   obtain ⟨p6, p7, p8, T⟩ := T
   by_cases c9 : n < 0
   · replace T := T.1 c9
     obtain ⟨p10, rfl⟩ := T
     simp only [h, eq_false c1, p6.wrap, p7.wrap, p8, eq_true c9, p10, U_ref1_Digits, lw, le, reduceIte, reduceCtorEq, Nat.reduceEqDiff, Nat.reduceAdd, Nat.reduceLeDiff, Nat.reduceSub, Nat.reduceLT, Int.reduceEq, Int.reduceLT, Int.reduceLE, Int.reduceToNat]
   · replace T := T.2 c9
     obtain rfl := T
     simp only [h, eq_false c1, p6.wrap, p7.wrap, p8, eq_false c9, U_ref1_Digits, lw, le, reduceIte, reduceCtorEq, Nat.reduceEqDiff, Nat.reduceAdd, Nat.reduceLeDiff, Nat.reduceSub, Nat.reduceLT, Int.reduceEq, Int.reduceLT, Int.reduceLE, Int.reduceToNat]
set_option maxHeartbeats 4000000 in
theorem ref1_Digits_tree (n : Int) (r : List UInt8) (T :
  ((n < 0) →
  At_ref1_Digits_1 n (IntKind.u64.wrap (0 - (IntKind.u64.wrap n))) [] r) ∧
 (¬ (n < 0) →
  At_ref1_Digits_1 n (IntKind.u64.wrap n) [] r)) : R_ref1_Digits n r := by
 intro S
 rw [call_code sp_ref1_Digits _ _ rfl]
 by_cases c1 : n < 0
 · replace T := T.1 c1
   try simp only [eq_true c1, U_ref1_Digits, lw, le, reduceIte, reduceCtorEq, Nat.reduceEqDiff, Nat.reduceAdd, Nat.reduceLeDiff, Nat.reduceSub, Nat.reduceLT, Int.reduceEq, Int.reduceLT, Int.reduceLE, Int.reduceToNat]
   refine T S _ _ ?_
   simp only [eq_true c1, U_ref1_Digits, lw, le, reduceIte, reduceCtorEq, Nat.reduceEqDiff, Nat.reduceAdd, Nat.reduceLeDiff, Nat.reduceSub, Nat.reduceLT, Int.reduceEq, Int.reduceLT, Int.reduceLE, Int.reduceToNat]
 · replace T := T.2 c1
   try simp only [eq_false c1, U_ref1_Digits, lw, le, reduceIte, reduceCtorEq, Nat.reduceEqDiff, Nat.reduceAdd, Nat.reduceLeDiff, Nat.reduceSub, Nat.reduceLT, Int.reduceEq, Int.reduceLT, Int.reduceLE, Int.reduceToNat]
   refine T S _ _ ?_
   simp only [eq_false c1, U_ref1_Digits, lw, le, reduceIte, reduceCtorEq, Nat.reduceEqDiff, Nat.reduceAdd, Nat.reduceLeDiff, Nat.reduceSub, Nat.reduceLT, Int.reduceEq, Int.reduceLT, Int.reduceLE, Int.reduceToNat]
end Go.Proofs.YtebflncfgjnkkaaDoor.M

/- What the functions on values yield: the program's, and the document's. -/
namespace Go.Proofs.YtebflncfgjnkkaaDoor.M
set_option linter.unusedSimpArgs false
set_option linter.unusedVariables false
open Go Classical
/-- A value's number is one of 64 bits. -/
def okV (v : V) : Prop := -9223372036854775808 ≤ v.n ∧ v.n ≤ 9223372036854775807
/-- A truth is 0 or 1. -/
def okT (v : V) : Prop := v.k = 3 → v.n = 0 ∨ v.n = 1
theorem r_Num (n : Int) : R_law1_Num n n := law1_Num_tree n n rfl
theorem r_Int (n : Int) : R_val_Int n (numV n) := val_Int_tree n _ rfl
theorem truthV_b (b : Bool) : truthV (b = true) = .mk 3 (if b then 1 else 0) [] [] := by cases b <;> rfl
theorem r_Bool (b : Bool) : R_val_Bool b (truthV (b = true)) := val_Bool_tree b _ ⟨fun h => by simp [truthV, h], fun h => by simp [truthV, h]⟩
theorem r_bad (n : Int) : R_ref4_bad n ⟨zeroV, n⟩ := ref4_bad_tree n _ rfl
theorem r_rnum (n : Int) : R_ref4_num n ⟨numV n, 0⟩ := ref4_num_tree n _ rfl
theorem r_truth (b : Bool) : R_ref4_truth b ⟨truthV (b = true), 0⟩ := ref4_truth_tree b _ ⟨fun h => by simp [truthV, h], fun h => by simp [truthV, h]⟩
theorem r_compare (k a b : Int) : R_val_compare k a b (decide (cmpS k a b)) := by
  apply val_compare_tree
  unfold cmpS
  refine ⟨fun h => by simp [h], fun h => ⟨fun h2 => by simp [h2], fun h2 => ⟨fun h3 => by simp [h3], fun h3 => by simp [h, h2, h3]⟩⟩⟩
theorem r_reckon (k a b : Int) : R_val_reckon k a b (reckonS k a b).1 (reckonS k a b).2 := by
  apply val_reckon_tree
  unfold reckonS
  repeat' first
    | (intro _)
    | (apply And.intro)
  all_goals first
    | assumption
    | (simp [*]; done)
    | (rw [if_neg (by assumption), if_neg (by assumption), if_pos (by assumption), if_pos (Or.inr ⟨by assumption, fun h => absurd h.2 (by assumption)⟩)])
    | (simp_all; done)
    | trace_state
theorem r_rreckon (k a b : Int) (ha : I64 a) (hb : I64 b) : R_ref4_reckon k a b (if (reckonS k a b).2 = 0 then ⟨numV (reckonS k a b).1, 0⟩ else ⟨zeroV, (reckonS k a b).2⟩) := by
  apply ref4_reckon_tree
  rw [← reckon_same ha.1 ha.2 hb.1 hb.2]
  unfold rreckonS
  have en : ∀ n, R_ref4_num n ⟨numV n, 0⟩ := r_rnum
  have e8 := r_bad 8
  have e9 := r_bad 9
  repeat' first
    | (refine ⟨_, en _, ?_⟩)
    | (refine ⟨_, e8, ?_⟩)
    | (refine ⟨_, e9, ?_⟩)
    | (intro _)
    | (apply And.intro)
  all_goals first
    | assumption
    | (simp [*]; done)
    | (rw [if_neg (by assumption), if_neg (by assumption), if_pos (by assumption), if_pos (Or.inr (Or.inr ⟨by assumption, fun h => absurd h.2 (by assumption)⟩))]; simp; done)
    | (simp_all; done)
    | trace_state
theorem r_deep_loop (vs : List V) (hb : deepL vs < 9223372036854775808) (hs : vs.length < 9223372036854775808) (hr : ∀ v ∈ vs, v.k = 4 → R_val_deep v.l (deepL v.l)) : ∀ (k i : Nat), i + k = vs.length → ∀ m : Nat, m < 9223372036854775808 → At_val_deep_1 vs m i ((max m (deepL (vs.drop i)) : Nat) : Int) := by
  intro k
  induction k with
  | zero =>
    intro i hi m hm
    apply At_val_deep_1_step
    refine ⟨fun h => by omega, fun h => ?_⟩
    rw [List.drop_eq_nil_of_le (by omega)]
    simp [deepL]
  | succ k ih =>
    intro i hi m hm
    apply At_val_deep_1_step
    have hlt : i < vs.length := by omega
    have hg : vs[i]? = some vs[i] := List.getElem?_eq_getElem hlt
    have hdd := deepL_drop hg
    have hdg := deep_get hg
    rw [deep_eq] at hdd hdg
    refine ⟨fun h => ⟨by omega, vs[i], by simp, fun h4 => ?_, fun h4 => ?_⟩, fun h => by omega⟩
    · rw [if_pos h4] at hdd hdg
      refine ⟨_, hr _ (List.getElem_mem hlt) h4, ⟨by omega, by omega⟩, ⟨by omega, by omega⟩, ?_⟩
      have := ih (i + 1) (by omega) (max m (1 + deepL vs[i].l)) (by omega)
      have e : (if (m : Int) < 1 + ((deepL vs[i].l : Nat) : Int) then 1 + ((deepL vs[i].l : Nat) : Int) else (m : Int)) = ((max m (1 + deepL vs[i].l) : Nat) : Int) := by split <;> omega
      rw [e, hdd, ← Nat.max_assoc]
      exact this
    · rw [if_neg h4] at hdd
      refine ⟨⟨by omega, by omega⟩, ?_⟩
      rw [hdd, Nat.zero_max]
      exact ih (i + 1) (by omega) m hm
theorem r_deep (vs : List V) (hb : deepL vs < 9223372036854775808) (hs : smallL vs) : R_val_deep vs (deepL vs) := by
  apply val_deep_tree
  have := r_deep_loop vs hb hs.1 (fun v hv h4 => by
    obtain ⟨i, hi⟩ := List.getElem?_of_mem hv
    have h1 := deep_get hi
    rw [deep_eq, if_pos h4] at h1
    exact r_deep v.l (by omega) (smallL_in hs v hv)) vs.length 0 (by omega) 0 (by omega)
  simpa using this
termination_by SizeOf.sizeOf vs
decreasing_by
  obtain ⟨i, hi⟩ := List.getElem?_of_mem hv
  exact size_get hi
theorem plainV_eq (v : V) : plainV v = (if v.k = 1 then decide (v.s = [] ∧ v.l.length = 0) else if v.k = 2 then decide (v.n = 0 ∧ v.s.length ≤ 400 ∧ v.l.length = 0) else if v.k = 3 then decide ((v.n = 0 ∨ v.n = 1) ∧ v.s = [] ∧ v.l.length = 0) else if v.k = 4 then decide (v.n = 0 ∧ v.s = [] ∧ v.l.length ≤ 64) && v.l.all plainV else false) := by
  have hA : ∀ l : List V, plainV.plainA l = l.all plainV := by
    intro l
    induction l with
    | nil => rfl
    | cons x l ih => simp [plainV.plainA, ih]
  cases v
  simp only [plainV, V.k, V.n, V.s, V.l, hA]
  congr
theorem sizeV {v x : V} (h : x ∈ v.l) : SizeOf.sizeOf x < SizeOf.sizeOf v := by
  have h1 := List.sizeOf_lt_of_mem h
  have h2 : SizeOf.sizeOf v.l < SizeOf.sizeOf v := by cases v; simp [V.l]; omega
  omega
theorem r_plain (v : V) (hs : small v) : R_val_plain v (plainV v) := by
  have hl := small_l hs
  have hx : ∀ x, x ∈ v.l → R_val_plain_1 x (!plainV x) := fun x hx => val_plain_1_tree x _ ⟨_, r_plain x (smallA_mem hl.2 x hx), rfl⟩
  have e : (!(v.l.any fun x => !plainV x)) = v.l.all plainV := by
    rw [List.all_eq_not_any_not]
  apply val_plain_tree
  rw [plainV_eq]
  repeat' first
    | (refine ⟨(fun x => !plainV x), hx, ?_⟩)
    | (intro _)
    | (apply And.intro)
  all_goals try (exact hl.1)
  all_goals try (rw [e])
  all_goals first
    | (simp [*]; done)
    | (rename_i h1 h2; simp [*]; omega)
termination_by SizeOf.sizeOf v
decreasing_by exact sizeV hx
theorem r_May (v : V) (hs : small v) (hd : deep v < 9223372036854775808) : R_val_May v (plainV v && decide (deep v ≤ 64)) := by
  apply val_May_tree
  have h1 : deepL [v] = deep v := by simp [deepL]
  have hr := r_deep [v] (by rw [h1]; exact hd) ⟨by simp, hs, trivial⟩
  rw [h1] at hr
  refine ⟨_, r_plain v hs, fun h => ⟨_, hr, ?_⟩, fun h => ?_⟩
  · rw [h, Bool.true_and]
    exact decide_eq_decide.2 (by omega)
  · simp at h
    simp [h]
theorem sameA_all2 : ∀ a b : List V, sameV.sameA a b = all2 sameV a b
  | [], [] => rfl
  | [], _ :: _ => rfl
  | _ :: _, [] => rfl
  | x :: a, y :: b => by simp [sameV.sameA, all2, sameA_all2 a b]
theorem r_Same (a b : V) (hs : small a) : R_val_Same a b (sameV a b) := by
  have hl := small_l hs
  have hx : ∀ x y, x ∈ a.l → R_val_Same x y (sameV x y) := fun x y h => r_Same x y (smallA_mem hl.2 x h)
  apply val_Same_tree
  rw [sameV_eq, sameA_all2]
  refine ⟨fun h1 => ⟨fun h2 => ⟨fun h3 => ⟨hl.1, sameV, hx, by simp [h1, h2, h3]⟩, fun h3 => by simp [h3]⟩, fun h2 => by simp [h2]⟩, fun h1 => by simp [h1]⟩
termination_by SizeOf.sizeOf a
decreasing_by exact sizeV h
theorem r_SameVal_loop (a b : V) (hlen : a.l.length = b.l.length) (hs : a.l.length < 9223372036854775808) (hr : ∀ x ∈ a.l, ∀ y, R_ref4_SameVal x y (sameV x y)) : ∀ (k i : Nat), i + k = a.l.length → At_ref4_SameVal_1 a b i (sameV.sameA (a.l.drop i) (b.l.drop i)) := by
  intro k
  induction k with
  | zero =>
    intro i hi
    apply At_ref4_SameVal_1_step
    refine ⟨fun h => by omega, fun h => ?_⟩
    rw [List.drop_eq_nil_of_le (by omega), List.drop_eq_nil_of_le (by omega)]
    rfl
  | succ k ih =>
    intro i hi
    apply At_ref4_SameVal_1_step
    have h1 : i < a.l.length := by omega
    have h2 : i < b.l.length := by omega
    refine ⟨fun h => ⟨by omega, a.l[i], by simp, by omega, b.l[i], by simp [h2], _, hr _ (List.getElem_mem h1) _, fun h => ⟨⟨by omega, by omega⟩, ?_⟩, fun h => ?_⟩, fun h => by omega⟩
    · have := ih (i + 1) (by omega)
      rw [List.drop_eq_getElem_cons h1, List.drop_eq_getElem_cons h2]
      simp only [sameV.sameA, h, Bool.true_and]
      exact this
    · rw [List.drop_eq_getElem_cons h1, List.drop_eq_getElem_cons h2]
      simp only [sameV.sameA]
      simp at h
      simp [h]
theorem r_SameVal (a b : V) (hs : small a) : R_ref4_SameVal a b (sameV a b) := by
  have hl := small_l hs
  apply ref4_SameVal_tree
  rw [sameV_eq]
  refine ⟨fun h1 => ⟨fun h2 => ⟨fun h3 => ⟨fun h4 => ?_, fun h4 => ?_⟩, fun h3 => by simp [h3]⟩, fun h2 => by simp [h2]⟩, fun h1 => by simp [h1]⟩
  · have := r_SameVal_loop a b (by omega) hl.1 (fun x hx y => r_SameVal x y (smallA_mem hl.2 x hx)) a.l.length 0 (by omega)
    simpa [h1, h2, h3] using this
  · cases h : sameV.sameA a.l b.l with
    | false => simp
    | true => exact absurd (sameA_length h) (by omega)
termination_by SizeOf.sizeOf a
decreasing_by exact sizeV hx
/-- What an operator makes of a value; and the error. -/
def oneT (k : Int) (v : V) : V × Int :=
  if k = 8 then (if v.k = 3 then (truthV (v.n = 0), 0) else (zeroV, 7))
  else if k = 9 then (if v.k = 1 then (if v.n = -9223372036854775808 then (zeroV, 8) else (numV (0 - v.n), 0)) else (zeroV, 7))
  else (zeroV, 1)
theorem truthV_dec (p : Prop) [Decidable p] : truthV (decide p = true) = truthV p := by simp [truthV]
theorem r_One (k : Int) (v : V) (h : okV v) : R_val_One k v (oneT k v).1 (oneT k v).2 := by
  apply val_One_tree
  obtain ⟨h1, h2⟩ := h
  have eb := r_Bool (decide (v.n = 0))
  rw [truthV_dec] at eb
  have ei := r_Int (0 - v.n)
  unfold oneT
  repeat' first
    | (refine ⟨_, eb, ?_⟩)
    | (refine ⟨_, ei, ?_⟩)
    | (intro _)
    | (apply And.intro)
  all_goals first
    | (simp [zeroV, *]; done)
    | omega
theorem r_rOne (k : Int) (v : V) (h : okV v) : R_ref4_One k v ⟨(oneT k v).1, (oneT k v).2⟩ := by
  apply ref4_One_tree
  obtain ⟨h1, h2⟩ := h
  have eb := r_truth (decide (v.n = 0))
  rw [truthV_dec] at eb
  have ei := r_rnum (0 - v.n)
  have e1 := r_bad 1
  have e7 := r_bad 7
  have e8 := r_bad 8
  unfold oneT
  repeat' first
    | (refine ⟨_, eb, ?_⟩)
    | (refine ⟨_, ei, ?_⟩)
    | (refine ⟨_, e1, ?_⟩)
    | (refine ⟨_, e7, ?_⟩)
    | (refine ⟨_, e8, ?_⟩)
    | (intro _)
    | (apply And.intro)
  all_goals first
    | (simp [*]; done)
    | omega
end Go.Proofs.YtebflncfgjnkkaaDoor.M

/- What the functions on values yield: depth, fields, texts, types, two operands. -/
namespace Go.Proofs.YtebflncfgjnkkaaDoor.M
set_option linter.unusedSimpArgs false
set_option linter.unusedVariables false
open Go Classical
/-- What stands in a list. -/
def indexS (a b : V) : V × Int :=
  if a.k = 4 then (if b.k = 1 then (if b.n < 0 then (zeroV, 2) else if (a.l.length : Int) ≤ b.n then (zeroV, 2) else ((a.l[b.n.toNat]?).getD zeroV, 0)) else (zeroV, 7)) else (zeroV, 7)
/-- A list of values. -/
def listS (l : List V) : V × Int := if 64 < l.length ∨ 64 ≤ deepL l then (zeroV, 4) else (.mk 4 0 [] l, 0)
theorem r_rIndex (a b : V) : R_ref4_Index a b ⟨(indexS a b).1, (indexS a b).2⟩ := by
  apply ref4_Index_tree
  have e2 := r_bad 2
  have e7 := r_bad 7
  unfold indexS
  repeat' first
    | (refine ⟨_, e2, ?_⟩)
    | (refine ⟨_, e7, ?_⟩)
    | (intro _)
    | (apply And.intro)
  all_goals try (simp [*]; done)
  · omega
  · rename_i h1 h2 h3 h4
    have hlt : b.n.toNat < a.l.length := by omega
    exact ⟨a.l[b.n.toNat], List.getElem?_eq_getElem hlt, by simp [*]⟩
theorem r_Index (a b : V) : R_val_Index a b (indexS a b).1 (indexS a b).2 := by
  apply val_Index_tree
  unfold indexS
  repeat' first
    | (intro _)
    | (apply And.intro)
  all_goals try (simp [zeroV, *]; done)
  · omega
  · rename_i h1 h2 h3 h4
    have hlt : b.n.toNat < a.l.length := by omega
    exact ⟨a.l[b.n.toNat], List.getElem?_eq_getElem hlt, by simp [*]⟩
/-- How deep, with so much left. -/
def rdeep : Nat → V → Nat
  | 0, v => if v.k = 4 then 1000 else 0
  | n + 1, v => if v.k = 4 then (v.l.map (rdeep n)).foldr max 0 + 1 else 0
theorem rdeep_le : ∀ n v, rdeep n v ≤ 1000 + n
  | 0, v => by simp only [rdeep]; split <;> omega
  | n + 1, v => by
    simp only [rdeep]
    split
    · have : ∀ l : List V, (l.map (rdeep n)).foldr max 0 ≤ 1000 + n := by
        intro l
        induction l with
        | nil => simp
        | cons x l ih => simp only [List.map_cons, List.foldr_cons]; have := rdeep_le n x; omega
      have := this v.l
      omega
    · omega
theorem rdeep_big : ∀ n v, n < deep v → 1000 ≤ rdeep n v
  | 0, v, h => by
    rw [deep_eq] at h
    simp only [rdeep]
    split at h
    · rename_i h4; simp [h4]
    · omega
  | n + 1, v, h => by
    rw [deep_eq] at h
    simp only [rdeep]
    split at h
    · rename_i h4
      rw [if_pos h4]
      have : ∀ l : List V, n < deepL l → 1000 ≤ (l.map (rdeep n)).foldr max 0 := by
        intro l
        induction l with
        | nil => intro h; simp [deepL] at h
        | cons x l ih =>
          intro h
          simp only [deepL] at h
          simp only [List.map_cons, List.foldr_cons]
          rcases Nat.lt_or_ge n (deep x) with h1 | h1
          · have := rdeep_big n x h1; omega
          · have := ih (by omega); omega
      have := this v.l (by omega)
      omega
    · omega
theorem rdeep_small : ∀ n v, deep v ≤ n → rdeep n v = deep v
  | 0, v, h => by
    rw [deep_eq] at h ⊢
    simp only [rdeep]
    split at h
    · omega
    · rename_i h4; simp [h4]
  | n + 1, v, h => by
    rw [deep_eq] at h ⊢
    simp only [rdeep]
    split at h
    · rename_i h4
      rw [if_pos h4, if_pos h4]
      have : ∀ l : List V, deepL l ≤ n → (l.map (rdeep n)).foldr max 0 = deepL l := by
        intro l
        induction l with
        | nil => intro h; simp [deepL]
        | cons x l ih =>
          intro h
          simp only [deepL] at h ⊢
          simp only [List.map_cons, List.foldr_cons]
          rw [rdeep_small n x (by omega), ih (by omega)]
      rw [this v.l (by omega)]
      omega
    · rename_i h4; simp [h4]
theorem r_rdeep_loop (n : Nat) (hn : n < 100000) (ih : ∀ v, small v → R_ref4_deep v (n : Nat) (rdeep n v : Nat)) (v : V) (hs : small v) : ∀ (k i : Nat), i + k = v.l.length → ∀ m : Nat, m ≤ 1000 + n → At_ref4_deep_1 v ((n + 1 : Nat) : Int) m i ((max m (((v.l.drop i).map (rdeep n)).foldr max 0) + 1 : Nat) : Int) := by
  have hl := small_l hs
  have hlen : v.l.length < 9223372036854775808 := hl.1
  intro k
  induction k with
  | zero =>
    intro i hi m hm
    apply At_ref4_deep_1_step
    refine ⟨fun h => by omega, fun h => ⟨⟨by omega, by omega⟩, ?_⟩⟩
    rw [List.drop_eq_nil_of_le (by omega)]
    simp
  | succ k ihk =>
    intro i hi m hm
    apply At_ref4_deep_1_step
    refine ⟨fun h => ⟨by omega, ?_⟩, fun h => by omega⟩
    have hlt : i < v.l.length := by omega
    refine ⟨v.l[i], by simp, ⟨by omega, by omega⟩, (rdeep n v.l[i] : Nat), ?_, ⟨by omega, by omega⟩, ?_⟩
    · have := ih v.l[i] (smallA_mem hl.2 _ (List.getElem_mem hlt))
      have e : (((n + 1 : Nat) : Int) - 1) = (n : Nat) := by omega
      rw [e]
      exact this
    · have hr := rdeep_le n v.l[i]
      have := ihk (i + 1) (by omega) (max m (rdeep n v.l[i])) (by omega)
      rw [List.drop_eq_getElem_cons hlt]
      simp only [List.map_cons, List.foldr_cons]
      rw [← Nat.max_assoc]
      have e : (if (m : Int) < (rdeep n v.l[i] : Nat) then ((rdeep n v.l[i] : Nat) : Int) else (m : Int)) = ((max m (rdeep n v.l[i]) : Nat) : Int) := by split <;> omega
      rw [e]
      exact this
theorem r_rdeep : ∀ n : Nat, n < 100000 → ∀ v, small v → R_ref4_deep v (n : Nat) (rdeep n v : Nat) := by
  intro n
  induction n with
  | zero =>
    intro hn v hs
    apply ref4_deep_tree
    simp only [rdeep]
    refine ⟨fun h => ⟨fun _ => by simp [h], fun h => by simp at h⟩, fun h => by simp [h]⟩
  | succ n ih =>
    intro hn v hs
    apply ref4_deep_tree
    simp only [rdeep]
    refine ⟨fun h => ⟨fun h => by omega, fun _ => ?_⟩, fun h => by simp [h]⟩
    have := r_rdeep_loop n (by omega) (ih (by omega)) v hs v.l.length 0 (by omega) 0 (by omega)
    simp only [List.drop_zero, Nat.zero_max] at this
    rw [if_pos h]
    exact this
theorem sameV_refl (v : V) : sameV v v = true := by
  have h : ∀ l : List V, (∀ x ∈ l, sameV x x = true) → sameV.sameA l l = true := by
    intro l
    induction l with
    | nil => intro _; rfl
    | cons x l ih =>
      intro h
      simp only [sameV.sameA, Bool.and_eq_true]
      exact ⟨h x (by simp), ih fun y hy => h y (by simp [hy])⟩
  rw [sameV_eq, h v.l (fun x hx => sameV_refl x)]
  simp
termination_by SizeOf.sizeOf v
decreasing_by
  have h1 := List.sizeOf_lt_of_mem hx
  have h2 : SizeOf.sizeOf v.l < SizeOf.sizeOf v := by cases v; simp [V.l]; omega
  omega

theorem r_is (v : V) (e : Int) (h : small v) : R_law4_is v e ⟨v, e⟩ true := by
  apply law4_is_tree
  refine ⟨true, ?_, fun _ => ⟨e, r_Num e, by simp⟩, fun h => by simp at h⟩
  have := r_SameVal v v h
  rwa [sameV_refl] at this
theorem r_fields_loop (v : V) (hs : v.l.length < 9223372036854775808) (hk : v.k = 4) (hr : ∀ x ∈ v.l, R_ref4_fields x (plainV x)) : ∀ (k i : Nat), i + k = v.l.length → (v.l.take i).all plainV = true → At_ref4_fields_1 v i (plainV v) := by
  intro k
  induction k with
  | zero =>
    intro i hi ht
    apply At_ref4_fields_1_step
    rw [List.take_of_length_le (by omega)] at ht
    rw [plainV_eq]
    simp only [hk, ht]
    refine ⟨fun h => by omega, fun h => ⟨fun h => ⟨fun h2 => ?_, fun h2 => ?_⟩, fun h => ?_⟩⟩
    · simp [h, h2]; omega
    · simp [h2]
    · simp [h]
  | succ k ih =>
    intro i hi ht
    apply At_ref4_fields_1_step
    have h1 : i < v.l.length := by omega
    refine ⟨fun h => ⟨by omega, v.l[i], by simp, _, hr _ (List.getElem_mem h1), fun h => ⟨⟨by omega, by omega⟩, ?_⟩, fun h => ?_⟩, fun h => by omega⟩
    · refine ih (i + 1) (by omega) ?_
      rw [List.take_succ_eq_append_getElem h1, List.all_append, ht]
      simp [h]
    · rw [plainV_eq]
      simp only [hk]
      have : v.l.all plainV = false := by
        cases ha : v.l.all plainV with
        | false => rfl
        | true => exact absurd (List.all_eq_true.1 ha _ (List.getElem_mem h1)) h
      simp [this]
theorem r_fields (v : V) (hs : small v) : R_ref4_fields v (plainV v) := by
  have hl := small_l hs
  apply ref4_fields_tree
  refine ⟨fun h1 => ?_, fun h1 => ⟨fun h2 => ?_, fun h2 => ⟨fun h3 => ?_, fun h3 => ⟨fun h4 => ?_, fun h4 => ?_⟩⟩⟩⟩
  · rw [plainV_eq]; exact ⟨fun h => by simp [*], fun h => by simp [*]⟩
  · rw [plainV_eq]
    refine ⟨fun h => ⟨fun h5 => ?_, fun h5 => ?_⟩, fun h => by simp [*]⟩
    · simp [h2, h, (by simpa using h5 : v.l = [])]; omega
    · simp [h2, h, (by simpa using h5 : ¬ v.l = [])]
  · rw [plainV_eq]
    refine ⟨fun h => ⟨fun h5 => ⟨fun h6 => by simp_all, fun h6 => by simp_all⟩, fun h5 => by simp_all⟩, fun h => by simp_all⟩
  · exact r_fields_loop v hl.1 h4 (fun x hx => r_fields x (smallA_mem hl.2 x hx)) v.l.length 0 (by omega) (by simp)
  · rw [plainV_eq]; simp [*]
termination_by SizeOf.sizeOf v
decreasing_by exact sizeV hx
theorem rdeep64 (v : V) : rdeep 64 v ≤ 64 ↔ deep v ≤ 64 := by
  constructor
  · intro h
    rcases Nat.lt_or_ge 64 (deep v) with h1 | h1
    · have := rdeep_big 64 v h1; omega
    · exact h1
  · intro h
    rw [rdeep_small 64 v h]
    exact h
theorem r_MayVal (v : V) (hs : small v) : R_ref4_MayVal v (plainV v && decide (deep v ≤ 64)) := by
  apply ref4_MayVal_tree
  have h1 := r_rdeep 64 (by omega) v hs
  have h2 := rdeep64 v
  refine ⟨_, h1, fun h => ⟨_, r_fields v hs, ?_⟩, fun h => ?_⟩
  · simp [h2.1 (by omega)]
  · have : ¬ deep v ≤ 64 := fun h3 => h (by have := h2.2 h3; omega)
    simp [this]
theorem u64_nat (n : Nat) (h : n < 18446744073709551616) : IntKind.u64.wrap (n : Int) = n := U64.wrap ⟨by omega, by omega⟩
theorem tdivN (a : Nat) (b : Nat) : ((a : Nat) : Int).tdiv (b : Int) = ((a / b : Nat) : Int) := by
  rw [Int.tdiv_eq_ediv_of_nonneg (by omega)]; simp
theorem tmodN (a : Nat) (b : Nat) : ((a : Nat) : Int).tmod (b : Int) = ((a % b : Nat) : Int) := by
  rw [Int.tmod_eq_emod_of_nonneg (by omega)]; simp
theorem r_Digits_loop (n : Int) : ∀ (j u : Nat) (s : List UInt8), Lib.nDigits u ≤ j → u < 18446744073709551616 → s.length + j ≤ 1000 → At_ref1_Digits_1 n u s ((if n < 0 then [45] else []) ++ (Lib.decDigits u ++ s))
  | 0, u, s, h, _, _ => by have := Lib.nDigits_pos u; omega
  | j + 1, u, s, h, hu, hs => by
    apply At_ref1_Digits_1_step
    have d10 : ((u : Nat) : Int).tdiv 10 = ((u / 10 : Nat) : Int) := tdivN u 10
    have m10 : ((u : Nat) : Int).tmod 10 = ((u % 10 : Nat) : Int) := tmodN u 10
    have e48 : ∀ x : Nat, (48 + ((x : Nat) : Int)).toNat = 48 + x := fun x => by omega
    refine ⟨fun h10 => ?_, fun h10 => ?_⟩
    · have hu10 : ¬ u < 10 := by omega
      rw [d10, m10, e48]
      have hn : Lib.nDigits u = Lib.nDigits (u / 10) + 1 := Lib.nDigits_big hu10
      refine ⟨⟨by omega, by omega⟩, ⟨by omega, by omega⟩, by simp [maxInt]; omega, ⟨by omega, by omega⟩, ?_⟩
      have := r_Digits_loop n j (u / 10) ([UInt8.ofNat (48 + u % 10)] ++ s) (by omega) (by omega) (by simp; omega)
      rw [show Lib.decDigits u = Lib.decDigits (u / 10) ++ [UInt8.ofNat (48 + u % 10)] from by rw [Lib.decDigits, dif_neg hu10], List.append_assoc]
      exact this
    · have hu10 : u < 10 := by omega
      rw [e48, show Lib.decDigits u = [UInt8.ofNat (48 + u)] from by rw [Lib.decDigits, dif_pos hu10]]
      refine ⟨⟨by omega, by omega⟩, ⟨by omega, by omega⟩, by simp [maxInt]; omega, fun hn => ⟨by simp [maxInt]; omega, by simp [hn]⟩, fun hn => by simp [hn]⟩
theorem wrap_u64_neg {n : Int} (h0 : -9223372036854775808 ≤ n) (h : n < 0) : IntKind.u64.wrap (0 - (IntKind.u64.wrap n)) = ((n.natAbs : Nat) : Int) := by
  have e1 : IntKind.u64.wrap n = n % 18446744073709551616 := by
    simp [IntKind.wrap, IntKind.signed, IntKind.bits]
  rw [e1]
  have e2 : ∀ x : Int, IntKind.u64.wrap x = x % 18446744073709551616 := fun x => by
    simp [IntKind.wrap, IntKind.signed, IntKind.bits]
  rw [e2]
  omega
theorem r_Digits (n : Int) (h : I64 n) : R_ref1_Digits n (Lib.itoa n) := by
  obtain ⟨h0, h1⟩ := h
  apply ref1_Digits_tree
  refine ⟨fun hn => ?_, fun hn => ?_⟩
  · rw [wrap_u64_neg h0 hn]
    have := r_Digits_loop n 20 n.natAbs [] (Lib.nDigits_le20 _ (by omega)) (by omega) (by simp)
    simpa [Lib.itoa, hn] using this
  · obtain ⟨m, rfl⟩ : ∃ m : Nat, n = m := ⟨n.toNat, by omega⟩
    rw [u64_nat m (by omega)]
    have := r_Digits_loop m 20 m [] (Lib.nDigits_le20 _ (by omega)) (by omega) (by simp)
    simpa [Lib.itoa, hn] using this
theorem r_Itoa (n : Int) (h : I64 n) : R_strconv_Itoa n (Lib.itoa n) := fun S => call_ext sp_strconv_Itoa S (if_pos h)
theorem r_FormatBool (b : Bool) : R_strconv_FormatBool b (Lib.formatBool b) := fun S => call_ext sp_strconv_FormatBool S rfl
theorem formatBool_true : Lib.formatBool true = [116, 114, 117, 101] := by decide
theorem formatBool_false : Lib.formatBool false = [102, 97, 108, 115, 101] := by decide
/-- A value's text; and the error. -/
def textV (v : V) : List UInt8 × Int :=
  if v.k = 1 then (Lib.itoa v.n, 0) else if v.k = 2 then (v.s, 0) else if v.k = 3 then (Lib.formatBool (decide (v.n = 1)), 0) else ([], 7)
theorem r_Text (v : V) (h : okV v) : R_val_Text v (textV v).1 (textV v).2 := by
  apply val_Text_tree
  unfold textV
  refine ⟨fun h1 => ⟨_, r_Itoa _ h, by simp [h1]⟩, fun h1 => ⟨fun h2 => by simp [h2], fun h2 => ⟨fun h3 => ⟨_, r_FormatBool _, by simp [h3]⟩, fun h3 => by simp [h1, h2, h3]⟩⟩⟩
theorem r_rText (v : V) (h : okV v) : R_ref4_Text v ⟨(textV v).1, (textV v).2⟩ := by
  apply ref4_Text_tree
  unfold textV
  refine ⟨fun h1 => ⟨_, r_Digits _ h, by simp [h1]⟩, fun h1 => ⟨fun h2 => by simp [h2], fun h2 => ⟨fun h3 => ⟨fun h4 => ?_, fun h4 => ?_⟩, fun h3 => by simp [h1, h2, h3]⟩⟩⟩
  · simp [h3, h4, formatBool_true]
  · simp [h3, h4, formatBool_false]
def typeV (v : V) : List UInt8 :=
  if v.k = 1 then [105, 110, 116] else if v.k = 2 then [115, 116, 114, 105, 110, 103] else if v.k = 3 then [98, 111, 111, 108] else [108, 105, 115, 116]
theorem plain_k {v : V} (h : plainV v = true) : v.k = 1 ∨ v.k = 2 ∨ v.k = 3 ∨ v.k = 4 := by
  rw [plainV_eq] at h
  by_cases h1 : v.k = 1
  · exact .inl h1
  · by_cases h2 : v.k = 2
    · exact .inr (.inl h2)
    · by_cases h3 : v.k = 3
      · exact .inr (.inr (.inl h3))
      · by_cases h4 : v.k = 4
        · exact .inr (.inr (.inr h4))
        · simp [h1, h2, h3, h4] at h
theorem r_Type (v : V) (h : plainV v = true) : R_val_Type v (typeV v) := by
  apply val_Type_tree
  have := plain_k h
  unfold typeV
  refine ⟨fun h1 => by simp [h1], fun h1 => ⟨fun h2 => by simp [h2], fun h2 => ⟨fun h3 => by simp [h3], fun h3 => ⟨fun h4 => by simp [h4], fun h4 => by omega⟩⟩⟩⟩
theorem r_rType (v : V) : R_ref4_Type v (typeV v) := by
  apply ref4_Type_tree
  unfold typeV
  refine ⟨fun h1 => by simp [h1], fun h1 => ⟨fun h2 => by simp [h2], fun h2 => ⟨fun h3 => by simp [h3], fun h3 => by simp [h1, h2, h3]⟩⟩⟩
end Go.Proofs.YtebflncfgjnkkaaDoor.M

/- What a call of a function yields, over plain data: a name for each. Printed by a program of this session (lift.py). -/
namespace Go.Proofs.YtebflncfgjnkkaaDoor.M
open Go Classical
def R_report_writer_put (x0 : writer) (x0_g0 : Nat) (x0_z0 : Bool) (x1 : List (List UInt8)) (x0' : writer) (x0'_g0 : Nat) (x0'_z0 : Bool) : Prop := ∀ (S : Sto) (n0 : Nat) (t0 : Nat), (getBox S n0 t0).map (List.take 1) = some [.sl 0 (.cell t0 0) 0 x0.out.length x0.out.length x0_g0 false] ∧ getArr S n0 (.cell t0 0) = some ⟨1, x0.out.map eB, x0_z0, x0_g0⟩ → call SP 85 [.ptr n0 t0 0, .list 1 (x1.map eS) false] S = .ok (.v (.tup [])) (setArr (setBox S n0 t0 ([.sl 0 (.cell t0 0) 0 x0'.out.length x0'.out.length x0'_g0 false] ++ ((getBox S n0 t0).getD []).drop 1)) n0 (.cell t0 0) ⟨1, x0'.out.map eB, x0'_z0, x0'_g0⟩)
def R_report_shower_below (x0 : shower) (x0_g0 : Nat) (x0_z0 : Bool) (x1 : List UInt8) (x2 : Int) (x0' : shower) (x0'_g0 : Nat) (x0'_z0 : Bool) : Prop := ∀ (S : Sto) (n0 : Nat) (t0 : Nat), (getBox S n0 t0).map (List.take 3) = some [.sl 0 (.cell t0 0) 0 x0.writer.out.length x0.writer.out.length x0_g0 false, .list 12 (x0.l.map eItem) false, .list 6 (x0.marks.map eMark) false] ∧ getArr S n0 (.cell t0 0) = some ⟨1, x0.writer.out.map eB, x0_z0, x0_g0⟩ → call SP 89 [.ptr n0 t0 0, .str x1, .int .i64 x2] S = .ok (.v (.tup [])) (setArr (setBox S n0 t0 ([.sl 0 (.cell t0 0) 0 x0'.writer.out.length x0'.writer.out.length x0'_g0 false, .list 12 (x0'.l.map eItem) false, .list 6 (x0'.marks.map eMark) false] ++ ((getBox S n0 t0).getD []).drop 3)) n0 (.cell t0 0) ⟨1, x0'.writer.out.map eB, x0'_z0, x0'_g0⟩)
def R_report_shower_below_1 (x0 : Mark) (x1 : List UInt8) (r0 : Bool) : Prop := ∀ (S : Sto) (n1 : Nat) (t1 : Nat), (getBox S n1 t1).map (List.take 1) = some [.str x1] → call SP 103 [.agg (eMark x0), .ptr n1 t1 0] S = .ok (.v (.bool r0)) S
end Go.Proofs.YtebflncfgjnkkaaDoor.M

/- The machine's code of the functions, printed by a program of this session (sc2.py) out of the translation. Not trusted: Lean checks each by its own computation. -/
namespace Go.Proofs.YtebflncfgjnkkaaDoor.M
open Go
set_option linter.unusedVariables false
/-- (doorkeeper/report.writer).put -/
def b_report_writer_put_1 : SC := .seq (.reg [⟨(some 9), none, (.v (.bin .lss (.t 8) (.t 7)))⟩]) (.seq (.cond (.t 9) .skip (.exit 0)) (.seq (.block 1 (.seq (.reg [⟨(some 10), none, (.v (.iaddr 1 (.t 6) (.t 8)))⟩, ⟨(some 11), none, (.v (.load none (.t 10)))⟩, ⟨(some 5), none, (.v (.mov (.t 11)))⟩]) (.reg [⟨(some 12), none, (.v (.mov (.t 0)))⟩, ⟨(some 13), none, (.v (.mov (.t 0)))⟩, ⟨(some 14), none, (.v (.nchk (.t 13)))⟩, ⟨(some 15), none, (.v (.faddr 0 (.t 14)))⟩, ⟨(some 16), none, (.v (.load none (.t 15)))⟩, ⟨(some 17), none, (.v (.mov (.t 5)))⟩, ⟨(some 18), none, (.append 1 1 (.t 16) (.t 17))⟩, ⟨(some 19), none, (.v (.nchk (.t 12)))⟩, ⟨(some 20), none, (.v (.faddr 0 (.t 19)))⟩, ⟨none, none, (.store 1 (.t 20) (.t 18))⟩]))) (.reg [⟨(some 21), none, (.v (.bin .add (.t 8) (.c (.int .i64 1))))⟩, ⟨(some 8), none, (.v (.mov (.t 21)))⟩])))
def sc_report_writer_put : SFunc := ⟨2, 22, .seq (.reg [⟨(some 6), none, (.v (.mov (.t 1)))⟩, ⟨(some 7), none, (.v (.len false (.t 6)))⟩, ⟨(some 8), none, (.v (.mov (.c (.int .i64 0))))⟩]) (.block 0 (.loop b_report_writer_put_1)), []⟩
noncomputable def k_report_writer_put_1 (SP : Prg) (x : EO) : CO := fin [] (inBlk 0 (x))
theorem U_report_writer_put : type_of% (And.intro (fun (SP : Prg) (ac : Ac) => congrFun (congrArg (E SP) b_report_writer_put_1.eq_1) ac) <| sc_report_writer_put.eq_1) := And.intro (fun (SP : Prg) (ac : Ac) => congrFun (congrArg (E SP) b_report_writer_put_1.eq_1) ac) <| sc_report_writer_put.eq_1
theorem comp_report_writer_put : comp Tryd.prog Tryd.f85 = some sc_report_writer_put := by kernel_rfl
/-- doorkeeper/report.where -/
def sc_report_where : SFunc := ⟨1, 6, .seq (.reg [⟨(some 2), none, (.v (.mov (.c (.str []))))⟩]) (.seq (.seq (.reg [⟨(some 3), none, (.v (.mov (.t 0)))⟩, ⟨(some 4), none, (.v (.bin .eql (.t 3) (.c (.str []))))⟩]) (.cond (.t 4) (.seq (.reg [⟨(some 2), none, (.v (.mov (.c (.str [47]))))⟩]) .ret) .skip)) (.seq (.reg [⟨(some 5), none, (.v (.mov (.t 0)))⟩, ⟨(some 2), none, (.v (.mov (.t 5)))⟩]) .ret)), [(.t 2)]⟩
theorem U_report_where : type_of% (sc_report_where.eq_1) := sc_report_where.eq_1
theorem comp_report_where : comp Tryd.prog Tryd.f86 = some sc_report_where := by kernel_rfl
/-- doorkeeper/report.Step -/
def c_report_Step_1 : SC := .seq (.reg [⟨(some 45), none, (.v (.faddr 1 (.t 1)))⟩, ⟨(some 46), none, (.v (.load none (.t 45)))⟩, ⟨(some 2), none, (.v (.mov (.t 46)))⟩]) .ret
def c_report_Step_2 : SC := .cond (.t 20) (.seq (.dreg [⟨(some 22), none, (.v (.faddr 1 (.t 1)))⟩, ⟨(some 23), none, (.v (.load none (.t 22)))⟩, ⟨(some 24), none, (.v (.bin .add (.c (.str [108, 105, 109, 105, 116, 32])) (.t 23)))⟩, ⟨(some 25), none, (.v (.bin .add (.t 24) (.c (.str [32, 116, 111, 32]))))⟩, ⟨(some 26), none, (.v (.faddr 3 (.t 1)))⟩, ⟨(some 27), none, (.v (.load (some 3) (.t 26)))⟩, ⟨(some 28), none, (.call (.c (.func 20 [])) [(.t 27)])⟩, ⟨(some 29), none, (.v (.bin .add (.t 25) (.t 28)))⟩, ⟨(some 2), none, (.v (.mov (.t 29)))⟩] [false, false, false, false, false, false, false, true, true]) .ret) (.seq (.reg [⟨(some 31), none, (.v (.bin .eql (.t 4) (.c (.int .i64 3))))⟩, ⟨(some 30), none, (.v (.mov (.t 31)))⟩]) (.cond (.t 30) (.seq (.dreg [⟨(some 32), none, (.v (.faddr 1 (.t 1)))⟩, ⟨(some 33), none, (.v (.load none (.t 32)))⟩, ⟨(some 34), none, (.v (.bin .add (.c (.str [109, 111, 118, 101, 32])) (.t 33)))⟩, ⟨(some 35), none, (.v (.bin .add (.t 34) (.c (.str [32, 116, 111, 32]))))⟩, ⟨(some 36), none, (.v (.faddr 2 (.t 1)))⟩, ⟨(some 37), none, (.v (.load none (.t 36)))⟩, ⟨(some 38), none, (.call (.c (.func 86 [])) [(.t 37)])⟩, ⟨(some 39), none, (.v (.bin .add (.t 35) (.t 38)))⟩, ⟨(some 2), none, (.v (.mov (.t 39)))⟩] [false, false, false, false, false, false, false, true, true]) .ret) (.seq (.reg [⟨(some 41), none, (.v (.bin .eql (.t 4) (.c (.int .i64 4))))⟩, ⟨(some 40), none, (.v (.mov (.t 41)))⟩]) (.cond (.t 40) (.seq (.reg [⟨(some 42), none, (.v (.faddr 1 (.t 1)))⟩, ⟨(some 43), none, (.v (.load none (.t 42)))⟩, ⟨(some 44), none, (.v (.bin .add (.c (.str [100, 101, 108, 101, 116, 101, 32])) (.t 43)))⟩, ⟨(some 2), none, (.v (.mov (.t 44)))⟩]) .ret) .skip))))
def c_report_Step_3 : SC := .cond (.t 5) (.seq (.dreg [⟨(some 7), none, (.v (.faddr 1 (.t 1)))⟩, ⟨(some 8), none, (.v (.load none (.t 7)))⟩, ⟨(some 9), none, (.v (.bin .add (.c (.str [99, 114, 101, 97, 116, 101, 32])) (.t 8)))⟩, ⟨(some 10), none, (.v (.bin .add (.t 9) (.c (.str [32, 105, 110, 32]))))⟩, ⟨(some 11), none, (.v (.faddr 2 (.t 1)))⟩, ⟨(some 12), none, (.v (.load none (.t 11)))⟩, ⟨(some 13), none, (.call (.c (.func 86 [])) [(.t 12)])⟩, ⟨(some 14), none, (.v (.bin .add (.t 10) (.t 13)))⟩, ⟨(some 15), none, (.v (.bin .add (.t 14) (.c (.str [32, 119, 105, 116, 104, 32]))))⟩, ⟨(some 16), none, (.v (.faddr 3 (.t 1)))⟩, ⟨(some 17), none, (.v (.load (some 3) (.t 16)))⟩, ⟨(some 18), none, (.call (.c (.func 20 [])) [(.t 17)])⟩, ⟨(some 19), none, (.v (.bin .add (.t 15) (.t 18)))⟩, ⟨(some 2), none, (.v (.mov (.t 19)))⟩] [false, false, false, false, false, false, false, false, false, false, false, false, true, true]) .ret) (.seq (.reg [⟨(some 21), none, (.v (.bin .eql (.t 4) (.c (.int .i64 2))))⟩, ⟨(some 20), none, (.v (.mov (.t 21)))⟩]) c_report_Step_2)
def c_report_Step_4 : SC := .block 0 (.seq (.reg [⟨(some 6), none, (.v (.bin .eql (.t 4) (.c (.int .i64 1))))⟩, ⟨(some 5), none, (.v (.mov (.t 6)))⟩]) c_report_Step_3)
def c_report_Step_5 : SC := .seq (.seq (.reg [⟨(some 3), none, (.v (.faddr 0 (.t 1)))⟩, ⟨(some 4), none, (.v (.load none (.t 3)))⟩]) c_report_Step_4) c_report_Step_1
def sc_report_Step : SFunc := ⟨1, 47, .seq (.reg [⟨(some 1), none, (.box (.t 0))⟩, ⟨(some 2), none, (.v (.mov (.c (.str []))))⟩]) c_report_Step_5, [(.t 2)]⟩
theorem U_report_Step : type_of% (And.intro (fun (SP : Prg) (ac : Ac) => congrFun (congrArg (E SP) c_report_Step_1.eq_1) ac) <| And.intro (fun (SP : Prg) (ac : Ac) => congrFun (congrArg (E SP) c_report_Step_2.eq_1) ac) <| And.intro (fun (SP : Prg) (ac : Ac) => congrFun (congrArg (E SP) c_report_Step_3.eq_1) ac) <| And.intro (fun (SP : Prg) (ac : Ac) => congrFun (congrArg (E SP) c_report_Step_4.eq_1) ac) <| And.intro (fun (SP : Prg) (ac : Ac) => congrFun (congrArg (E SP) c_report_Step_5.eq_1) ac) <| sc_report_Step.eq_1) := And.intro (fun (SP : Prg) (ac : Ac) => congrFun (congrArg (E SP) c_report_Step_1.eq_1) ac) <| And.intro (fun (SP : Prg) (ac : Ac) => congrFun (congrArg (E SP) c_report_Step_2.eq_1) ac) <| And.intro (fun (SP : Prg) (ac : Ac) => congrFun (congrArg (E SP) c_report_Step_3.eq_1) ac) <| And.intro (fun (SP : Prg) (ac : Ac) => congrFun (congrArg (E SP) c_report_Step_4.eq_1) ac) <| And.intro (fun (SP : Prg) (ac : Ac) => congrFun (congrArg (E SP) c_report_Step_5.eq_1) ac) <| sc_report_Step.eq_1
theorem comp_report_Step : comp Tryd.prog Tryd.f51 = some sc_report_Step := by kernel_rfl
/-- doorkeeper/report.Steps -/
def c_report_Steps_1 : SC := .seq (.reg [⟨(some 24), none, (.v (.mov (.t 3)))⟩, ⟨(some 25), none, (.v (.nchk (.t 24)))⟩, ⟨(some 26), none, (.v (.faddr 0 (.t 25)))⟩, ⟨(some 27), none, (.v (.load none (.t 26)))⟩, ⟨(some 28), none, (.v (.conv .bytes (.t 27)))⟩, ⟨(some 2), none, (.v (.mov (.t 28)))⟩]) .ret
def b_report_Steps_1 : SC := .seq (.reg [⟨(some 11), none, (.v (.bin .lss (.t 10) (.t 9)))⟩]) (.seq (.cond (.t 11) .skip (.exit 0)) (.seq (.block 1 (.seq (.reg [⟨(some 12), none, (.v (.mov (.t 10)))⟩, ⟨(some 13), none, (.v (.iaddr 6 (.t 8) (.t 10)))⟩, ⟨(some 14), none, (.v (.load (some 6) (.t 13)))⟩, ⟨(some 5), none, (.alloc [(.int .i64 0), (.str []), (.str []), (.int .i64 0), (.int .i64 0), (.int .i64 0)])⟩, ⟨(some 4), none, (.v (.mov (.t 12)))⟩, ⟨none, none, (.store 6 (.t 5) (.t 14))⟩]) (.dreg [⟨(some 15), none, (.v (.mov (.t 3)))⟩, ⟨(some 16), none, (.v (.mov (.t 4)))⟩, ⟨(some 17), none, (.v (.bin .add (.t 16) (.c (.int .i64 1))))⟩, ⟨(some 18), none, (.call (.c (.func 67 [])) [(.t 17)])⟩, ⟨(some 19), none, (.v (.load (some 6) (.t 5)))⟩, ⟨(some 20), none, (.call (.c (.func 51 [])) [(.t 19)])⟩, ⟨(some 21), none, (.bslice 1 4 [(.str [])] [(0, (.t 18)), (1, (.c (.str [46, 32]))), (2, (.t 20)), (3, (.c (.str [10])))])⟩, ⟨(some 22), none, (.call (.c (.func 85 [])) [(.t 15), (.t 21)])⟩] [false, false, false, false, false, true, true, true]))) (.reg [⟨(some 23), none, (.v (.bin .add (.t 10) (.c (.int .i64 1))))⟩, ⟨(some 10), none, (.v (.mov (.t 23)))⟩])))
def c_report_Steps_2 : SC := .seq (.seq (.reg [⟨(some 8), none, (.v (.mov (.t 0)))⟩, ⟨(some 9), none, (.v (.len false (.t 8)))⟩, ⟨(some 10), none, (.v (.mov (.c (.int .i64 0))))⟩]) (.block 0 (.loop b_report_Steps_1))) c_report_Steps_1
def c_report_Steps_3 : SC := .seq (.reg [⟨(some 6), none, (.v (.build [(.nils 1)] []))⟩, ⟨(some 7), none, (.box (.t 6))⟩, ⟨(some 3), none, (.v (.mov (.t 7)))⟩]) c_report_Steps_2
def sc_report_Steps : SFunc := ⟨1, 29, .seq (.reg [⟨(some 2), none, (.v (.mov (.c (.str []))))⟩]) c_report_Steps_3, [(.t 2)]⟩
noncomputable def k_report_Steps_1 (SP : Prg) (x : EO) : CO := fin [(.t 2)] (thC SP (inBlk 0 (x)) c_report_Steps_1)
theorem U_report_Steps : type_of% (And.intro (fun (SP : Prg) (ac : Ac) => congrFun (congrArg (E SP) c_report_Steps_1.eq_1) ac) <| And.intro (fun (SP : Prg) (ac : Ac) => congrFun (congrArg (E SP) b_report_Steps_1.eq_1) ac) <| And.intro (fun (SP : Prg) (ac : Ac) => congrFun (congrArg (E SP) c_report_Steps_2.eq_1) ac) <| And.intro (fun (SP : Prg) (ac : Ac) => congrFun (congrArg (E SP) c_report_Steps_3.eq_1) ac) <| sc_report_Steps.eq_1) := And.intro (fun (SP : Prg) (ac : Ac) => congrFun (congrArg (E SP) c_report_Steps_1.eq_1) ac) <| And.intro (fun (SP : Prg) (ac : Ac) => congrFun (congrArg (E SP) b_report_Steps_1.eq_1) ac) <| And.intro (fun (SP : Prg) (ac : Ac) => congrFun (congrArg (E SP) c_report_Steps_2.eq_1) ac) <| And.intro (fun (SP : Prg) (ac : Ac) => congrFun (congrArg (E SP) c_report_Steps_3.eq_1) ac) <| sc_report_Steps.eq_1
theorem comp_report_Steps : comp Tryd.prog Tryd.f49 = some sc_report_Steps := by kernel_rfl
/-- (doorkeeper/report.shower).below$1 -/
def sc_report_shower_below_1 : SFunc := ⟨2, 8, .seq (.reg [⟨(some 2), none, (.box (.t 0))⟩, ⟨(some 3), none, (.v (.mov (.c (.bool false))))⟩]) (.seq (.reg [⟨(some 4), none, (.v (.faddr 0 (.t 2)))⟩, ⟨(some 5), none, (.v (.load none (.t 4)))⟩, ⟨(some 6), none, (.v (.load none (.t 1)))⟩, ⟨(some 7), none, (.v (.bin .eql (.t 5) (.t 6)))⟩, ⟨(some 3), none, (.v (.mov (.t 7)))⟩]) .ret), [(.t 3)]⟩
theorem U_report_shower_below_1 : type_of% (sc_report_shower_below_1.eq_1) := sc_report_shower_below_1.eq_1
theorem comp_report_shower_below_1 : comp Tryd.prog Tryd.f103 = some sc_report_shower_below_1 := by kernel_rfl
/-- (doorkeeper/report.shower).below -/
def c_report_shower_below_1 : SC := .reg [⟨(some 74), none, (.v (.bin .add (.t 23) (.c (.int .i64 1))))⟩, ⟨(some 23), none, (.v (.mov (.t 74)))⟩]
def c_report_shower_below_2 : SC := .seq (.seq (.reg [⟨(some 53), none, (.v (.mov (.t 0)))⟩, ⟨(some 54), none, (.v (.nchk (.t 53)))⟩, ⟨(some 55), none, (.v (.faddr 2 (.t 54)))⟩, ⟨(some 56), none, (.v (.load none (.t 55)))⟩, ⟨(some 57), none, (.v (.func 103 [(.t 7)]))⟩, ⟨(some 58), none, (.call (.c (.func 102 [])) [(.t 56), (.t 57)])⟩]) (.cond (.t 58) (.reg [⟨(some 59), none, (.v (.mov (.t 0)))⟩, ⟨(some 60), none, (.v (.nchk (.t 59)))⟩, ⟨(some 61), none, (.v (.faddr 0 (.t 60)))⟩, ⟨(some 62), none, (.bslice 1 1 [(.str [])] [(0, (.c (.str [32, 42])))])⟩, ⟨(some 63), none, (.call (.c (.func 85 [])) [(.t 61), (.t 62)])⟩]) .skip)) (.seq (.reg [⟨(some 64), none, (.v (.mov (.t 0)))⟩, ⟨(some 65), none, (.v (.nchk (.t 64)))⟩, ⟨(some 66), none, (.v (.faddr 0 (.t 65)))⟩, ⟨(some 67), none, (.bslice 1 1 [(.str [])] [(0, (.c (.str [10])))])⟩, ⟨(some 68), none, (.call (.c (.func 85 [])) [(.t 66), (.t 67)])⟩]) (.reg [⟨(some 69), none, (.v (.mov (.t 0)))⟩, ⟨(some 70), none, (.v (.load none (.t 7)))⟩, ⟨(some 71), none, (.v (.mov (.t 2)))⟩, ⟨(some 72), none, (.v (.bin .add (.t 71) (.c (.int .i64 1))))⟩, ⟨(some 73), none, (.call (.c (.func 89 [])) [(.t 69), (.t 70), (.t 72)])⟩]))
def c_report_shower_below_3 : SC := .seq (.dreg [⟨(some 39), none, (.v (.mov (.t 0)))⟩, ⟨(some 40), none, (.v (.nchk (.t 39)))⟩, ⟨(some 41), none, (.v (.faddr 0 (.t 40)))⟩, ⟨(some 42), none, (.v (.mov (.t 2)))⟩, ⟨(some 43), none, (.call (.c (.func 101 [])) [(.c (.str [32, 32])), (.t 42)])⟩, ⟨(some 44), none, (.v (.load none (.t 7)))⟩, ⟨(some 45), none, (.v (.faddr 8 (.t 8)))⟩, ⟨(some 46), none, (.v (.load (some 3) (.t 45)))⟩, ⟨(some 47), none, (.call (.c (.func 20 [])) [(.t 46)])⟩, ⟨(some 48), none, (.v (.faddr 2 (.t 8)))⟩, ⟨(some 49), none, (.v (.load (some 3) (.t 48)))⟩, ⟨(some 50), none, (.call (.c (.func 20 [])) [(.t 49)])⟩, ⟨(some 51), none, (.bslice 1 6 [(.str [])] [(0, (.t 43)), (1, (.t 44)), (2, (.c (.str [32]))), (3, (.t 47)), (4, (.c (.str [32, 111, 102, 32]))), (5, (.t 50))])⟩, ⟨(some 52), none, (.call (.c (.func 85 [])) [(.t 41), (.t 51)])⟩] [false, false, false, false, false, false, false, false, false, false, false, false, false, true]) c_report_shower_below_2
def c_report_shower_below_4 : SC := .seq (.dreg [⟨(some 27), none, (.v (.mov (.t 0)))⟩, ⟨(some 28), none, (.v (.nchk (.t 27)))⟩, ⟨(some 29), none, (.v (.faddr 1 (.t 28)))⟩, ⟨(some 30), none, (.v (.load none (.t 29)))⟩, ⟨(some 31), none, (.v (.mov (.t 0)))⟩, ⟨(some 32), none, (.v (.nchk (.t 31)))⟩, ⟨(some 33), none, (.v (.faddr 1 (.t 32)))⟩, ⟨(some 34), none, (.v (.load none (.t 33)))⟩, ⟨(some 35), none, (.v (.load none (.t 7)))⟩, ⟨(some 36), none, (.call (.c (.func 100 [])) [(.t 34), (.t 35)])⟩, ⟨(some 37), none, (.v (.iaddr 12 (.t 30) (.t 36)))⟩, ⟨(some 38), none, (.v (.load (some 12) (.t 37)))⟩, ⟨(some 8), none, (.alloc [(.str []), (.str []), (.int .i64 0), (.int .i64 0), (.int .i64 0), (.int .i64 0), (.int .i64 0), (.int .i64 0), (.int .i64 0), (.int .i64 0), (.int .i64 0), (.int .i64 0)])⟩, ⟨none, none, (.store 12 (.t 8) (.t 38))⟩] [false, false, false, false, false, false, false, false, false, false, false, false, false, true]) c_report_shower_below_3
def c_report_shower_below_5 : SC := .seq (.block 1 (.seq (.reg [⟨(some 25), none, (.v (.iaddr 1 (.t 21) (.t 23)))⟩, ⟨(some 26), none, (.v (.load none (.t 25)))⟩, ⟨(some 7), none, (.alloc [(.str [])])⟩, ⟨none, none, (.store 1 (.t 7) (.t 26))⟩]) c_report_shower_below_4)) c_report_shower_below_1
def c_report_shower_below_6 : SC := .seq (.cond (.t 24) .skip (.exit 0)) c_report_shower_below_5
def b_report_shower_below_1 : SC := .seq (.reg [⟨(some 24), none, (.v (.bin .lss (.t 23) (.t 22)))⟩]) c_report_shower_below_6
def c_report_shower_below_7 : SC := .block 0 (.loop b_report_shower_below_1)
def c_report_shower_below_8 : SC := .seq (.reg [⟨(some 16), none, (.v (.mov (.t 0)))⟩, ⟨(some 17), none, (.v (.nchk (.t 16)))⟩, ⟨(some 18), none, (.v (.faddr 1 (.t 17)))⟩, ⟨(some 19), none, (.v (.load none (.t 18)))⟩, ⟨(some 20), none, (.v (.mov (.t 1)))⟩, ⟨(some 21), none, (.call (.c (.func 99 [])) [(.t 19), (.t 20)])⟩, ⟨(some 22), none, (.v (.len false (.t 21)))⟩, ⟨(some 23), none, (.v (.mov (.c (.int .i64 0))))⟩]) c_report_shower_below_7
def sc_report_shower_below : SFunc := ⟨3, 75, .seq (.seq (.reg [⟨(some 9), none, (.v (.mov (.t 2)))⟩, ⟨(some 10), none, (.v (.mov (.t 0)))⟩, ⟨(some 11), none, (.v (.nchk (.t 10)))⟩, ⟨(some 12), none, (.v (.faddr 1 (.t 11)))⟩, ⟨(some 13), none, (.v (.load none (.t 12)))⟩, ⟨(some 14), none, (.v (.len false (.t 13)))⟩, ⟨(some 15), none, (.v (.bin .gtr (.t 9) (.t 14)))⟩]) (.cond (.t 15) .ret .skip)) c_report_shower_below_8, []⟩
noncomputable def k_report_shower_below_1 (SP : Prg) (x : EO) : CO := fin [] (inBlk 0 (x))
theorem U_report_shower_below : type_of% (And.intro (fun (SP : Prg) (ac : Ac) => congrFun (congrArg (E SP) c_report_shower_below_1.eq_1) ac) <| And.intro (fun (SP : Prg) (ac : Ac) => congrFun (congrArg (E SP) c_report_shower_below_2.eq_1) ac) <| And.intro (fun (SP : Prg) (ac : Ac) => congrFun (congrArg (E SP) c_report_shower_below_3.eq_1) ac) <| And.intro (fun (SP : Prg) (ac : Ac) => congrFun (congrArg (E SP) c_report_shower_below_4.eq_1) ac) <| And.intro (fun (SP : Prg) (ac : Ac) => congrFun (congrArg (E SP) c_report_shower_below_5.eq_1) ac) <| And.intro (fun (SP : Prg) (ac : Ac) => congrFun (congrArg (E SP) c_report_shower_below_6.eq_1) ac) <| And.intro (fun (SP : Prg) (ac : Ac) => congrFun (congrArg (E SP) b_report_shower_below_1.eq_1) ac) <| And.intro (fun (SP : Prg) (ac : Ac) => congrFun (congrArg (E SP) c_report_shower_below_7.eq_1) ac) <| And.intro (fun (SP : Prg) (ac : Ac) => congrFun (congrArg (E SP) c_report_shower_below_8.eq_1) ac) <| sc_report_shower_below.eq_1) := And.intro (fun (SP : Prg) (ac : Ac) => congrFun (congrArg (E SP) c_report_shower_below_1.eq_1) ac) <| And.intro (fun (SP : Prg) (ac : Ac) => congrFun (congrArg (E SP) c_report_shower_below_2.eq_1) ac) <| And.intro (fun (SP : Prg) (ac : Ac) => congrFun (congrArg (E SP) c_report_shower_below_3.eq_1) ac) <| And.intro (fun (SP : Prg) (ac : Ac) => congrFun (congrArg (E SP) c_report_shower_below_4.eq_1) ac) <| And.intro (fun (SP : Prg) (ac : Ac) => congrFun (congrArg (E SP) c_report_shower_below_5.eq_1) ac) <| And.intro (fun (SP : Prg) (ac : Ac) => congrFun (congrArg (E SP) c_report_shower_below_6.eq_1) ac) <| And.intro (fun (SP : Prg) (ac : Ac) => congrFun (congrArg (E SP) b_report_shower_below_1.eq_1) ac) <| And.intro (fun (SP : Prg) (ac : Ac) => congrFun (congrArg (E SP) c_report_shower_below_7.eq_1) ac) <| And.intro (fun (SP : Prg) (ac : Ac) => congrFun (congrArg (E SP) c_report_shower_below_8.eq_1) ac) <| sc_report_shower_below.eq_1
theorem comp_report_shower_below : comp Tryd.prog Tryd.f89 = some sc_report_shower_below := by kernel_rfl
/-- doorkeeper/report.Show -/
def sc_report_Show : SFunc := ⟨2, 18, .seq (.reg [⟨(some 4), none, (.v (.mov (.c (.str []))))⟩]) (.seq (.reg [⟨(some 6), none, (.v (.mov (.t 0)))⟩, ⟨(some 7), none, (.v (.mov (.t 1)))⟩, ⟨(some 8), none, (.v (.build [(.nils 1), (.nils 12), (.nils 6)] [(1, 1, (.t 6)), (2, 1, (.t 7))]))⟩, ⟨(some 9), none, (.box (.t 8))⟩, ⟨(some 5), none, (.v (.mov (.t 9)))⟩]) (.seq (.reg [⟨(some 10), none, (.v (.mov (.t 5)))⟩, ⟨(some 11), none, (.call (.c (.func 89 [])) [(.t 10), (.c (.str [])), (.c (.int .i64 0))])⟩]) (.seq (.reg [⟨(some 12), none, (.v (.mov (.t 5)))⟩, ⟨(some 13), none, (.v (.nchk (.t 12)))⟩, ⟨(some 14), none, (.v (.faddr 0 (.t 13)))⟩, ⟨(some 15), none, (.v (.faddr 0 (.t 14)))⟩, ⟨(some 16), none, (.v (.load none (.t 15)))⟩, ⟨(some 17), none, (.v (.conv .bytes (.t 16)))⟩, ⟨(some 4), none, (.v (.mov (.t 17)))⟩]) .ret))), [(.t 4)]⟩
theorem U_report_Show : type_of% (sc_report_Show.eq_1) := sc_report_Show.eq_1
theorem comp_report_Show : comp Tryd.prog Tryd.f54 = some sc_report_Show := by kernel_rfl
/-- doorkeeper/tree.Below -/
def c_tree_Below_1 : SC := .seq (.reg [⟨(some 24), none, (.v (.mov (.t 5)))⟩, ⟨(some 4), none, (.v (.mov (.t 24)))⟩]) .ret
def b_tree_Below_1 : SC := .seq (.reg [⟨(some 11), none, (.v (.bin .lss (.t 10) (.t 9)))⟩]) (.seq (.cond (.t 11) .skip (.exit 0)) (.seq (.block 1 (.seq (.reg [⟨(some 12), none, (.v (.iaddr 12 (.t 8) (.t 10)))⟩, ⟨(some 13), none, (.v (.load (some 12) (.t 12)))⟩, ⟨(some 7), none, (.alloc [(.str []), (.str []), (.int .i64 0), (.int .i64 0), (.int .i64 0), (.int .i64 0), (.int .i64 0), (.int .i64 0), (.int .i64 0), (.int .i64 0), (.int .i64 0), (.int .i64 0)])⟩, ⟨none, none, (.store 12 (.t 7) (.t 13))⟩]) (.seq (.reg [⟨(some 14), none, (.v (.faddr 1 (.t 7)))⟩, ⟨(some 15), none, (.v (.load none (.t 14)))⟩, ⟨(some 16), none, (.v (.mov (.t 1)))⟩, ⟨(some 17), none, (.v (.bin .eql (.t 15) (.t 16)))⟩]) (.cond (.t 17) (.reg [⟨(some 18), none, (.v (.mov (.t 5)))⟩, ⟨(some 19), none, (.v (.faddr 0 (.t 7)))⟩, ⟨(some 20), none, (.v (.load none (.t 19)))⟩, ⟨(some 21), none, (.bslice 1 1 [(.str [])] [(0, (.t 20))])⟩, ⟨(some 22), none, (.append 1 16 (.t 18) (.t 21))⟩, ⟨(some 5), none, (.v (.mov (.t 22)))⟩]) .skip)))) (.reg [⟨(some 23), none, (.v (.bin .add (.t 10) (.c (.int .i64 1))))⟩, ⟨(some 10), none, (.v (.mov (.t 23)))⟩])))
def sc_tree_Below : SFunc := ⟨2, 25, .seq (.reg [⟨(some 4), none, (.nilv 1)⟩]) (.seq (.reg [⟨(some 5), none, (.nilv 1)⟩]) (.seq (.seq (.reg [⟨(some 8), none, (.v (.mov (.t 0)))⟩, ⟨(some 9), none, (.v (.len false (.t 8)))⟩, ⟨(some 10), none, (.v (.mov (.c (.int .i64 0))))⟩]) (.block 0 (.loop b_tree_Below_1))) c_tree_Below_1)), [(.t 4)]⟩
noncomputable def k_tree_Below_1 (SP : Prg) (x : EO) : CO := fin [(.t 4)] (thC SP (inBlk 0 (x)) c_tree_Below_1)
theorem U_tree_Below : type_of% (And.intro (fun (SP : Prg) (ac : Ac) => congrFun (congrArg (E SP) c_tree_Below_1.eq_1) ac) <| And.intro (fun (SP : Prg) (ac : Ac) => congrFun (congrArg (E SP) b_tree_Below_1.eq_1) ac) <| sc_tree_Below.eq_1) := And.intro (fun (SP : Prg) (ac : Ac) => congrFun (congrArg (E SP) c_tree_Below_1.eq_1) ac) <| And.intro (fun (SP : Prg) (ac : Ac) => congrFun (congrArg (E SP) b_tree_Below_1.eq_1) ac) <| sc_tree_Below.eq_1
theorem comp_tree_Below : comp Tryd.prog Tryd.f99 = some sc_tree_Below := by kernel_rfl
/-- doorkeeper/tree.Find$1 -/
def sc_tree_Find_1 : SFunc := ⟨2, 8, .seq (.reg [⟨(some 2), none, (.box (.t 0))⟩, ⟨(some 3), none, (.v (.mov (.c (.bool false))))⟩]) (.seq (.reg [⟨(some 4), none, (.v (.faddr 0 (.t 2)))⟩, ⟨(some 5), none, (.v (.load none (.t 4)))⟩, ⟨(some 6), none, (.v (.load none (.t 1)))⟩, ⟨(some 7), none, (.v (.bin .eql (.t 5) (.t 6)))⟩, ⟨(some 3), none, (.v (.mov (.t 7)))⟩]) .ret), [(.t 3)]⟩
theorem U_tree_Find_1 : type_of% (sc_tree_Find_1.eq_1) := sc_tree_Find_1.eq_1
theorem comp_tree_Find_1 : comp Tryd.prog Tryd.f113 = some sc_tree_Find_1 := by kernel_rfl
/-- doorkeeper/tree.Find -/
def sc_tree_Find : SFunc := ⟨2, 8, .seq (.reg [⟨(some 3), none, (.box (.t 1))⟩, ⟨(some 4), none, (.v (.mov (.c (.int .i64 0))))⟩]) (.seq (.reg [⟨(some 5), none, (.v (.mov (.t 0)))⟩, ⟨(some 6), none, (.v (.func 113 [(.t 3)]))⟩, ⟨(some 7), none, (.call (.c (.func 112 [])) [(.t 5), (.t 6)])⟩, ⟨(some 4), none, (.v (.mov (.t 7)))⟩]) .ret), [(.t 4)]⟩
theorem U_tree_Find : type_of% (sc_tree_Find.eq_1) := sc_tree_Find.eq_1
theorem comp_tree_Find : comp Tryd.prog Tryd.f100 = some sc_tree_Find := by kernel_rfl
/-- doorkeeper/vec.Text -/
def sc_vec_Text : SFunc := ⟨1, 17, .seq (.reg [⟨(some 1), none, (.box (.t 0))⟩, ⟨(some 2), none, (.v (.mov (.c (.str []))))⟩]) (.seq (.dreg [⟨(some 3), none, (.v (.faddr 0 (.t 1)))⟩, ⟨(some 4), none, (.v (.load none (.t 3)))⟩, ⟨(some 5), none, (.call (.c (.func 67 [])) [(.t 4)])⟩, ⟨(some 6), none, (.v (.bin .add (.c (.str [99, 112, 117, 61])) (.t 5)))⟩, ⟨(some 7), none, (.v (.bin .add (.t 6) (.c (.str [32, 109, 101, 109, 61]))))⟩, ⟨(some 8), none, (.v (.faddr 1 (.t 1)))⟩, ⟨(some 9), none, (.v (.load none (.t 8)))⟩, ⟨(some 10), none, (.call (.c (.func 67 [])) [(.t 9)])⟩, ⟨(some 11), none, (.v (.bin .add (.t 7) (.t 10)))⟩, ⟨(some 12), none, (.v (.bin .add (.t 11) (.c (.str [32, 112, 111, 100, 115, 61]))))⟩, ⟨(some 13), none, (.v (.faddr 2 (.t 1)))⟩, ⟨(some 14), none, (.v (.load none (.t 13)))⟩, ⟨(some 15), none, (.call (.c (.func 67 [])) [(.t 14)])⟩, ⟨(some 16), none, (.v (.bin .add (.t 12) (.t 15)))⟩, ⟨(some 2), none, (.v (.mov (.t 16)))⟩] [false, false, false, false, false, false, false, false, false, false, false, false, true, true, true]) .ret), [(.t 2)]⟩
theorem U_vec_Text : type_of% (sc_vec_Text.eq_1) := sc_vec_Text.eq_1
theorem comp_vec_Text : comp Tryd.prog Tryd.f20 = some sc_vec_Text := by kernel_rfl
/-- slices.IndexFunc[[]doorkeeper/api.Item,doorkeeper/api.Item] -/
def c_slices_IndexFunc_api_Item_api_Item_1 : SC := .seq (.reg [⟨(some 4), none, (.v (.mov (.c (.int .i64 (-1)))))⟩]) .ret
def b_slices_IndexFunc_api_Item_api_Item_1 : SC := .seq (.reg [⟨(some 9), none, (.v (.bin .lss (.t 8) (.t 7)))⟩]) (.seq (.cond (.t 9) .skip (.exit 0)) (.seq (.block 1 (.seq (.reg [⟨(some 10), none, (.v (.mov (.t 8)))⟩, ⟨(some 5), none, (.v (.mov (.t 10)))⟩]) (.seq (.reg [⟨(some 11), none, (.v (.mov (.t 1)))⟩, ⟨(some 12), none, (.v (.mov (.t 0)))⟩, ⟨(some 13), none, (.v (.mov (.t 5)))⟩, ⟨(some 14), none, (.v (.iaddr 12 (.t 12) (.t 13)))⟩, ⟨(some 15), none, (.v (.load (some 12) (.t 14)))⟩, ⟨(some 16), none, (.call (.t 11) [(.t 15)])⟩]) (.cond (.t 16) (.seq (.reg [⟨(some 17), none, (.v (.mov (.t 5)))⟩, ⟨(some 4), none, (.v (.mov (.t 17)))⟩]) .ret) .skip)))) (.reg [⟨(some 18), none, (.v (.bin .add (.t 8) (.c (.int .i64 1))))⟩, ⟨(some 8), none, (.v (.mov (.t 18)))⟩])))
def sc_slices_IndexFunc_api_Item_api_Item : SFunc := ⟨2, 19, .seq (.reg [⟨(some 4), none, (.v (.mov (.c (.int .i64 0))))⟩]) (.seq (.seq (.reg [⟨(some 6), none, (.v (.mov (.t 0)))⟩, ⟨(some 7), none, (.v (.len false (.t 6)))⟩, ⟨(some 8), none, (.v (.mov (.c (.int .i64 0))))⟩]) (.block 0 (.loop b_slices_IndexFunc_api_Item_api_Item_1))) c_slices_IndexFunc_api_Item_api_Item_1), [(.t 4)]⟩
noncomputable def k_slices_IndexFunc_api_Item_api_Item_1 (SP : Prg) (x : EO) : CO := fin [(.t 4)] (thC SP (inBlk 0 (x)) c_slices_IndexFunc_api_Item_api_Item_1)
theorem U_slices_IndexFunc_api_Item_api_Item : type_of% (And.intro (fun (SP : Prg) (ac : Ac) => congrFun (congrArg (E SP) c_slices_IndexFunc_api_Item_api_Item_1.eq_1) ac) <| And.intro (fun (SP : Prg) (ac : Ac) => congrFun (congrArg (E SP) b_slices_IndexFunc_api_Item_api_Item_1.eq_1) ac) <| sc_slices_IndexFunc_api_Item_api_Item.eq_1) := And.intro (fun (SP : Prg) (ac : Ac) => congrFun (congrArg (E SP) c_slices_IndexFunc_api_Item_api_Item_1.eq_1) ac) <| And.intro (fun (SP : Prg) (ac : Ac) => congrFun (congrArg (E SP) b_slices_IndexFunc_api_Item_api_Item_1.eq_1) ac) <| sc_slices_IndexFunc_api_Item_api_Item.eq_1
theorem comp_slices_IndexFunc_api_Item_api_Item : comp Tryd.prog Tryd.f112 = some sc_slices_IndexFunc_api_Item_api_Item := by kernel_rfl
/-- slices.IndexFunc[[]doorkeeper/api.Mark,doorkeeper/api.Mark] -/
def c_slices_IndexFunc_api_Mark_api_Mark_1 : SC := .seq (.reg [⟨(some 4), none, (.v (.mov (.c (.int .i64 (-1)))))⟩]) .ret
def b_slices_IndexFunc_api_Mark_api_Mark_1 : SC := .seq (.reg [⟨(some 9), none, (.v (.bin .lss (.t 8) (.t 7)))⟩]) (.seq (.cond (.t 9) .skip (.exit 0)) (.seq (.block 1 (.seq (.reg [⟨(some 10), none, (.v (.mov (.t 8)))⟩, ⟨(some 5), none, (.v (.mov (.t 10)))⟩]) (.seq (.reg [⟨(some 11), none, (.v (.mov (.t 1)))⟩, ⟨(some 12), none, (.v (.mov (.t 0)))⟩, ⟨(some 13), none, (.v (.mov (.t 5)))⟩, ⟨(some 14), none, (.v (.iaddr 6 (.t 12) (.t 13)))⟩, ⟨(some 15), none, (.v (.load (some 6) (.t 14)))⟩, ⟨(some 16), none, (.call (.t 11) [(.t 15)])⟩]) (.cond (.t 16) (.seq (.reg [⟨(some 17), none, (.v (.mov (.t 5)))⟩, ⟨(some 4), none, (.v (.mov (.t 17)))⟩]) .ret) .skip)))) (.reg [⟨(some 18), none, (.v (.bin .add (.t 8) (.c (.int .i64 1))))⟩, ⟨(some 8), none, (.v (.mov (.t 18)))⟩])))
def sc_slices_IndexFunc_api_Mark_api_Mark : SFunc := ⟨2, 19, .seq (.reg [⟨(some 4), none, (.v (.mov (.c (.int .i64 0))))⟩]) (.seq (.seq (.reg [⟨(some 6), none, (.v (.mov (.t 0)))⟩, ⟨(some 7), none, (.v (.len false (.t 6)))⟩, ⟨(some 8), none, (.v (.mov (.c (.int .i64 0))))⟩]) (.block 0 (.loop b_slices_IndexFunc_api_Mark_api_Mark_1))) c_slices_IndexFunc_api_Mark_api_Mark_1), [(.t 4)]⟩
noncomputable def k_slices_IndexFunc_api_Mark_api_Mark_1 (SP : Prg) (x : EO) : CO := fin [(.t 4)] (thC SP (inBlk 0 (x)) c_slices_IndexFunc_api_Mark_api_Mark_1)
theorem U_slices_IndexFunc_api_Mark_api_Mark : type_of% (And.intro (fun (SP : Prg) (ac : Ac) => congrFun (congrArg (E SP) c_slices_IndexFunc_api_Mark_api_Mark_1.eq_1) ac) <| And.intro (fun (SP : Prg) (ac : Ac) => congrFun (congrArg (E SP) b_slices_IndexFunc_api_Mark_api_Mark_1.eq_1) ac) <| sc_slices_IndexFunc_api_Mark_api_Mark.eq_1) := And.intro (fun (SP : Prg) (ac : Ac) => congrFun (congrArg (E SP) c_slices_IndexFunc_api_Mark_api_Mark_1.eq_1) ac) <| And.intro (fun (SP : Prg) (ac : Ac) => congrFun (congrArg (E SP) b_slices_IndexFunc_api_Mark_api_Mark_1.eq_1) ac) <| sc_slices_IndexFunc_api_Mark_api_Mark.eq_1
theorem comp_slices_IndexFunc_api_Mark_api_Mark : comp Tryd.prog Tryd.f117 = some sc_slices_IndexFunc_api_Mark_api_Mark := by kernel_rfl
/-- slices.ContainsFunc[[]doorkeeper/api.Mark,doorkeeper/api.Mark] -/
def sc_slices_ContainsFunc_api_Mark_api_Mark : SFunc := ⟨2, 9, .seq (.reg [⟨(some 4), none, (.v (.mov (.c (.bool false))))⟩]) (.seq (.reg [⟨(some 5), none, (.v (.mov (.t 0)))⟩, ⟨(some 6), none, (.v (.mov (.t 1)))⟩, ⟨(some 7), none, (.call (.c (.func 117 [])) [(.t 5), (.t 6)])⟩, ⟨(some 8), none, (.v (.bin .geq (.t 7) (.c (.int .i64 0))))⟩, ⟨(some 4), none, (.v (.mov (.t 8)))⟩]) .ret), [(.t 4)]⟩
theorem U_slices_ContainsFunc_api_Mark_api_Mark : type_of% (sc_slices_ContainsFunc_api_Mark_api_Mark.eq_1) := sc_slices_ContainsFunc_api_Mark_api_Mark.eq_1
theorem comp_slices_ContainsFunc_api_Mark_api_Mark : comp Tryd.prog Tryd.f102 = some sc_slices_ContainsFunc_api_Mark_api_Mark := by kernel_rfl
/-- doorkeeper/doorkeeperref16.StepsText -/
def c_ref16_StepsText_1 : SC := .seq (.reg [⟨(some 24), none, (.v (.mov (.t 3)))⟩, ⟨(some 2), none, (.v (.mov (.t 24)))⟩]) .ret
def b_ref16_StepsText_1 : SC := .seq (.seq (.reg [⟨(some 5), none, (.v (.mov (.t 4)))⟩, ⟨(some 6), none, (.v (.mov (.t 0)))⟩, ⟨(some 7), none, (.v (.len false (.t 6)))⟩, ⟨(some 8), none, (.v (.bin .lss (.t 5) (.t 7)))⟩]) (.cond (.t 8) .skip (.exit 0))) (.seq (.block 1 (.dreg [⟨(some 11), none, (.v (.mov (.t 3)))⟩, ⟨(some 12), none, (.v (.mov (.t 4)))⟩, ⟨(some 13), none, (.v (.bin .add (.t 12) (.c (.int .i64 1))))⟩, ⟨(some 14), none, (.call (.c (.func 59 [])) [(.t 13)])⟩, ⟨(some 15), none, (.v (.bin .add (.t 11) (.t 14)))⟩, ⟨(some 16), none, (.v (.bin .add (.t 15) (.c (.str [46, 32]))))⟩, ⟨(some 17), none, (.v (.mov (.t 0)))⟩, ⟨(some 18), none, (.v (.mov (.t 4)))⟩, ⟨(some 19), none, (.v (.iaddr 6 (.t 17) (.t 18)))⟩, ⟨(some 20), none, (.v (.load (some 6) (.t 19)))⟩, ⟨(some 21), none, (.call (.c (.func 52 [])) [(.t 20)])⟩, ⟨(some 22), none, (.v (.bin .add (.t 16) (.t 21)))⟩, ⟨(some 23), none, (.v (.bin .add (.t 22) (.c (.str [10]))))⟩, ⟨(some 3), none, (.v (.mov (.t 23)))⟩] [false, false, false, false, false, false, false, false, false, false, true, true, true, true])) (.reg [⟨(some 9), none, (.v (.mov (.t 4)))⟩, ⟨(some 10), none, (.v (.bin .add (.t 9) (.c (.int .i64 1))))⟩, ⟨(some 4), none, (.v (.mov (.t 10)))⟩]))
def c_ref16_StepsText_2 : SC := .seq (.reg [⟨(some 3), none, (.v (.mov (.c (.str []))))⟩]) (.seq (.seq (.reg [⟨(some 4), none, (.v (.mov (.c (.int .i64 0))))⟩]) (.block 0 (.loop b_ref16_StepsText_1))) c_ref16_StepsText_1)
def sc_ref16_StepsText : SFunc := ⟨1, 25, .seq (.reg [⟨(some 2), none, (.v (.mov (.c (.str []))))⟩]) c_ref16_StepsText_2, [(.t 2)]⟩
noncomputable def k_ref16_StepsText_1 (SP : Prg) (x : EO) : CO := fin [(.t 2)] (thC SP (inBlk 0 (x)) c_ref16_StepsText_1)
theorem U_ref16_StepsText : type_of% (And.intro (fun (SP : Prg) (ac : Ac) => congrFun (congrArg (E SP) c_ref16_StepsText_1.eq_1) ac) <| And.intro (fun (SP : Prg) (ac : Ac) => congrFun (congrArg (E SP) b_ref16_StepsText_1.eq_1) ac) <| And.intro (fun (SP : Prg) (ac : Ac) => congrFun (congrArg (E SP) c_ref16_StepsText_2.eq_1) ac) <| sc_ref16_StepsText.eq_1) := And.intro (fun (SP : Prg) (ac : Ac) => congrFun (congrArg (E SP) c_ref16_StepsText_1.eq_1) ac) <| And.intro (fun (SP : Prg) (ac : Ac) => congrFun (congrArg (E SP) b_ref16_StepsText_1.eq_1) ac) <| And.intro (fun (SP : Prg) (ac : Ac) => congrFun (congrArg (E SP) c_ref16_StepsText_2.eq_1) ac) <| sc_ref16_StepsText.eq_1
theorem comp_ref16_StepsText : comp Tryd.prog Tryd.f50 = some sc_ref16_StepsText := by kernel_rfl
/-- doorkeeper/doorkeeperref16.StepText -/
def c_ref16_StepText_1 : SC := .seq (.reg [⟨(some 45), none, (.v (.faddr 1 (.t 1)))⟩, ⟨(some 46), none, (.v (.load none (.t 45)))⟩, ⟨(some 2), none, (.v (.mov (.t 46)))⟩]) .ret
def c_ref16_StepText_2 : SC := .cond (.t 20) (.seq (.dreg [⟨(some 22), none, (.v (.faddr 1 (.t 1)))⟩, ⟨(some 23), none, (.v (.load none (.t 22)))⟩, ⟨(some 24), none, (.v (.bin .add (.c (.str [108, 105, 109, 105, 116, 32])) (.t 23)))⟩, ⟨(some 25), none, (.v (.bin .add (.t 24) (.c (.str [32, 116, 111, 32]))))⟩, ⟨(some 26), none, (.v (.faddr 3 (.t 1)))⟩, ⟨(some 27), none, (.v (.load (some 3) (.t 26)))⟩, ⟨(some 28), none, (.call (.c (.func 21 [])) [(.t 27)])⟩, ⟨(some 29), none, (.v (.bin .add (.t 25) (.t 28)))⟩, ⟨(some 2), none, (.v (.mov (.t 29)))⟩] [false, false, false, false, false, false, false, true, true]) .ret) (.seq (.reg [⟨(some 31), none, (.v (.bin .eql (.t 4) (.c (.int .i64 3))))⟩, ⟨(some 30), none, (.v (.mov (.t 31)))⟩]) (.cond (.t 30) (.seq (.dreg [⟨(some 32), none, (.v (.faddr 1 (.t 1)))⟩, ⟨(some 33), none, (.v (.load none (.t 32)))⟩, ⟨(some 34), none, (.v (.bin .add (.c (.str [109, 111, 118, 101, 32])) (.t 33)))⟩, ⟨(some 35), none, (.v (.bin .add (.t 34) (.c (.str [32, 116, 111, 32]))))⟩, ⟨(some 36), none, (.v (.faddr 2 (.t 1)))⟩, ⟨(some 37), none, (.v (.load none (.t 36)))⟩, ⟨(some 38), none, (.call (.c (.func 87 [])) [(.t 37)])⟩, ⟨(some 39), none, (.v (.bin .add (.t 35) (.t 38)))⟩, ⟨(some 2), none, (.v (.mov (.t 39)))⟩] [false, false, false, false, false, false, false, true, true]) .ret) (.seq (.reg [⟨(some 41), none, (.v (.bin .eql (.t 4) (.c (.int .i64 4))))⟩, ⟨(some 40), none, (.v (.mov (.t 41)))⟩]) (.cond (.t 40) (.seq (.reg [⟨(some 42), none, (.v (.faddr 1 (.t 1)))⟩, ⟨(some 43), none, (.v (.load none (.t 42)))⟩, ⟨(some 44), none, (.v (.bin .add (.c (.str [100, 101, 108, 101, 116, 101, 32])) (.t 43)))⟩, ⟨(some 2), none, (.v (.mov (.t 44)))⟩]) .ret) .skip))))
def c_ref16_StepText_3 : SC := .cond (.t 5) (.seq (.dreg [⟨(some 7), none, (.v (.faddr 1 (.t 1)))⟩, ⟨(some 8), none, (.v (.load none (.t 7)))⟩, ⟨(some 9), none, (.v (.bin .add (.c (.str [99, 114, 101, 97, 116, 101, 32])) (.t 8)))⟩, ⟨(some 10), none, (.v (.bin .add (.t 9) (.c (.str [32, 105, 110, 32]))))⟩, ⟨(some 11), none, (.v (.faddr 2 (.t 1)))⟩, ⟨(some 12), none, (.v (.load none (.t 11)))⟩, ⟨(some 13), none, (.call (.c (.func 87 [])) [(.t 12)])⟩, ⟨(some 14), none, (.v (.bin .add (.t 10) (.t 13)))⟩, ⟨(some 15), none, (.v (.bin .add (.t 14) (.c (.str [32, 119, 105, 116, 104, 32]))))⟩, ⟨(some 16), none, (.v (.faddr 3 (.t 1)))⟩, ⟨(some 17), none, (.v (.load (some 3) (.t 16)))⟩, ⟨(some 18), none, (.call (.c (.func 21 [])) [(.t 17)])⟩, ⟨(some 19), none, (.v (.bin .add (.t 15) (.t 18)))⟩, ⟨(some 2), none, (.v (.mov (.t 19)))⟩] [false, false, false, false, false, false, false, false, false, false, false, false, true, true]) .ret) (.seq (.reg [⟨(some 21), none, (.v (.bin .eql (.t 4) (.c (.int .i64 2))))⟩, ⟨(some 20), none, (.v (.mov (.t 21)))⟩]) c_ref16_StepText_2)
def c_ref16_StepText_4 : SC := .block 0 (.seq (.reg [⟨(some 6), none, (.v (.bin .eql (.t 4) (.c (.int .i64 1))))⟩, ⟨(some 5), none, (.v (.mov (.t 6)))⟩]) c_ref16_StepText_3)
def c_ref16_StepText_5 : SC := .seq (.seq (.reg [⟨(some 3), none, (.v (.faddr 0 (.t 1)))⟩, ⟨(some 4), none, (.v (.load none (.t 3)))⟩]) c_ref16_StepText_4) c_ref16_StepText_1
def sc_ref16_StepText : SFunc := ⟨1, 47, .seq (.reg [⟨(some 1), none, (.box (.t 0))⟩, ⟨(some 2), none, (.v (.mov (.c (.str []))))⟩]) c_ref16_StepText_5, [(.t 2)]⟩
theorem U_ref16_StepText : type_of% (And.intro (fun (SP : Prg) (ac : Ac) => congrFun (congrArg (E SP) c_ref16_StepText_1.eq_1) ac) <| And.intro (fun (SP : Prg) (ac : Ac) => congrFun (congrArg (E SP) c_ref16_StepText_2.eq_1) ac) <| And.intro (fun (SP : Prg) (ac : Ac) => congrFun (congrArg (E SP) c_ref16_StepText_3.eq_1) ac) <| And.intro (fun (SP : Prg) (ac : Ac) => congrFun (congrArg (E SP) c_ref16_StepText_4.eq_1) ac) <| And.intro (fun (SP : Prg) (ac : Ac) => congrFun (congrArg (E SP) c_ref16_StepText_5.eq_1) ac) <| sc_ref16_StepText.eq_1) := And.intro (fun (SP : Prg) (ac : Ac) => congrFun (congrArg (E SP) c_ref16_StepText_1.eq_1) ac) <| And.intro (fun (SP : Prg) (ac : Ac) => congrFun (congrArg (E SP) c_ref16_StepText_2.eq_1) ac) <| And.intro (fun (SP : Prg) (ac : Ac) => congrFun (congrArg (E SP) c_ref16_StepText_3.eq_1) ac) <| And.intro (fun (SP : Prg) (ac : Ac) => congrFun (congrArg (E SP) c_ref16_StepText_4.eq_1) ac) <| And.intro (fun (SP : Prg) (ac : Ac) => congrFun (congrArg (E SP) c_ref16_StepText_5.eq_1) ac) <| sc_ref16_StepText.eq_1
theorem comp_ref16_StepText : comp Tryd.prog Tryd.f52 = some sc_ref16_StepText := by kernel_rfl
/-- doorkeeper/doorkeeperref16.Show -/
def sc_ref16_Show : SFunc := ⟨2, 8, .seq (.reg [⟨(some 4), none, (.v (.mov (.c (.str []))))⟩]) (.seq (.reg [⟨(some 5), none, (.v (.mov (.t 0)))⟩, ⟨(some 6), none, (.v (.mov (.t 1)))⟩, ⟨(some 7), none, (.call (.c (.func 90 [])) [(.t 5), (.t 6), (.c (.str [])), (.c (.str []))])⟩, ⟨(some 4), none, (.v (.mov (.t 7)))⟩]) .ret), [(.t 4)]⟩
theorem U_ref16_Show : type_of% (sc_ref16_Show.eq_1) := sc_ref16_Show.eq_1
theorem comp_ref16_Show : comp Tryd.prog Tryd.f55 = some sc_ref16_Show := by kernel_rfl
/-- doorkeeper/doorkeeperref16.show -/
def c_ref16_show_1 : SC := .seq (.reg [⟨(some 64), none, (.v (.mov (.t 9)))⟩, ⟨(some 8), none, (.v (.mov (.t 64)))⟩]) .ret
def c_ref16_show_2 : SC := .reg [⟨(some 20), none, (.v (.mov (.t 11)))⟩, ⟨(some 21), none, (.v (.bin .add (.t 20) (.c (.int .i64 1))))⟩, ⟨(some 11), none, (.v (.mov (.t 21)))⟩]
def c_ref16_show_3 : SC := .seq (.seq (.reg [⟨(some 47), none, (.v (.mov (.t 1)))⟩, ⟨(some 48), none, (.v (.faddr 0 (.t 12)))⟩, ⟨(some 49), none, (.v (.load none (.t 48)))⟩, ⟨(some 50), none, (.call (.c (.func 105 [])) [(.t 47), (.t 49)])⟩, ⟨(some 51), none, (.v (.bin .geq (.t 50) (.c (.int .i64 0))))⟩]) (.cond (.t 51) (.reg [⟨(some 52), none, (.v (.mov (.t 9)))⟩, ⟨(some 53), none, (.v (.bin .add (.t 52) (.c (.str [32, 42]))))⟩, ⟨(some 9), none, (.v (.mov (.t 53)))⟩]) .skip)) (.reg [⟨(some 54), none, (.v (.mov (.t 9)))⟩, ⟨(some 55), none, (.v (.bin .add (.t 54) (.c (.str [10]))))⟩, ⟨(some 56), none, (.v (.mov (.t 0)))⟩, ⟨(some 57), none, (.v (.mov (.t 1)))⟩, ⟨(some 58), none, (.v (.faddr 0 (.t 12)))⟩, ⟨(some 59), none, (.v (.load none (.t 58)))⟩, ⟨(some 60), none, (.v (.mov (.t 3)))⟩, ⟨(some 61), none, (.v (.bin .add (.t 60) (.c (.str [32, 32]))))⟩, ⟨(some 62), none, (.call (.c (.func 90 [])) [(.t 56), (.t 57), (.t 59), (.t 61)])⟩, ⟨(some 63), none, (.v (.bin .add (.t 55) (.t 62)))⟩, ⟨(some 9), none, (.v (.mov (.t 63)))⟩])
def c_ref16_show_4 : SC := .seq (.dreg [⟨(some 31), none, (.v (.mov (.t 9)))⟩, ⟨(some 32), none, (.v (.mov (.t 3)))⟩, ⟨(some 33), none, (.v (.bin .add (.t 31) (.t 32)))⟩, ⟨(some 34), none, (.v (.faddr 0 (.t 12)))⟩, ⟨(some 35), none, (.v (.load none (.t 34)))⟩, ⟨(some 36), none, (.v (.bin .add (.t 33) (.t 35)))⟩, ⟨(some 37), none, (.v (.bin .add (.t 36) (.c (.str [32]))))⟩, ⟨(some 38), none, (.v (.faddr 8 (.t 12)))⟩, ⟨(some 39), none, (.v (.load (some 3) (.t 38)))⟩, ⟨(some 40), none, (.call (.c (.func 21 [])) [(.t 39)])⟩, ⟨(some 41), none, (.v (.bin .add (.t 37) (.t 40)))⟩, ⟨(some 42), none, (.v (.bin .add (.t 41) (.c (.str [32, 111, 102, 32]))))⟩, ⟨(some 43), none, (.v (.faddr 2 (.t 12)))⟩, ⟨(some 44), none, (.v (.load (some 3) (.t 43)))⟩, ⟨(some 45), none, (.call (.c (.func 21 [])) [(.t 44)])⟩, ⟨(some 46), none, (.v (.bin .add (.t 42) (.t 45)))⟩, ⟨(some 9), none, (.v (.mov (.t 46)))⟩] [false, false, false, false, false, false, false, false, false, false, false, false, false, false, false, true, true]) c_ref16_show_3
def c_ref16_show_5 : SC := .seq (.block 1 (.seq (.reg [⟨(some 22), none, (.v (.mov (.t 0)))⟩, ⟨(some 23), none, (.v (.mov (.t 0)))⟩, ⟨(some 24), none, (.v (.mov (.t 10)))⟩, ⟨(some 25), none, (.v (.mov (.t 11)))⟩, ⟨(some 26), none, (.v (.iaddr 1 (.t 24) (.t 25)))⟩, ⟨(some 27), none, (.v (.load none (.t 26)))⟩, ⟨(some 28), none, (.call (.c (.func 60 [])) [(.t 23), (.t 27)])⟩, ⟨(some 29), none, (.v (.iaddr 12 (.t 22) (.t 28)))⟩, ⟨(some 30), none, (.v (.load (some 12) (.t 29)))⟩, ⟨(some 12), none, (.alloc [(.str []), (.str []), (.int .i64 0), (.int .i64 0), (.int .i64 0), (.int .i64 0), (.int .i64 0), (.int .i64 0), (.int .i64 0), (.int .i64 0), (.int .i64 0), (.int .i64 0)])⟩, ⟨none, none, (.store 12 (.t 12) (.t 30))⟩]) c_ref16_show_4)) c_ref16_show_2
def b_ref16_show_1 : SC := .seq (.seq (.reg [⟨(some 16), none, (.v (.mov (.t 11)))⟩, ⟨(some 17), none, (.v (.mov (.t 10)))⟩, ⟨(some 18), none, (.v (.len false (.t 17)))⟩, ⟨(some 19), none, (.v (.bin .lss (.t 16) (.t 18)))⟩]) (.cond (.t 19) .skip (.exit 0))) c_ref16_show_5
def c_ref16_show_6 : SC := .block 0 (.loop b_ref16_show_1)
def c_ref16_show_7 : SC := .seq (.seq (.reg [⟨(some 11), none, (.v (.mov (.c (.int .i64 0))))⟩]) c_ref16_show_6) c_ref16_show_1
def c_ref16_show_8 : SC := .seq (.reg [⟨(some 13), none, (.v (.mov (.t 0)))⟩, ⟨(some 14), none, (.v (.mov (.t 2)))⟩, ⟨(some 15), none, (.call (.c (.func 104 [])) [(.t 13), (.t 14)])⟩, ⟨(some 10), none, (.v (.mov (.t 15)))⟩]) c_ref16_show_7
def c_ref16_show_9 : SC := .seq (.reg [⟨(some 9), none, (.v (.mov (.c (.str []))))⟩]) c_ref16_show_8
def sc_ref16_show : SFunc := ⟨4, 65, .seq (.reg [⟨(some 8), none, (.v (.mov (.c (.str []))))⟩]) c_ref16_show_9, [(.t 8)]⟩
noncomputable def k_ref16_show_1 (SP : Prg) (x : EO) : CO := fin [(.t 8)] (thC SP (inBlk 0 (x)) c_ref16_show_1)
theorem U_ref16_show : type_of% (And.intro (fun (SP : Prg) (ac : Ac) => congrFun (congrArg (E SP) c_ref16_show_1.eq_1) ac) <| And.intro (fun (SP : Prg) (ac : Ac) => congrFun (congrArg (E SP) c_ref16_show_2.eq_1) ac) <| And.intro (fun (SP : Prg) (ac : Ac) => congrFun (congrArg (E SP) c_ref16_show_3.eq_1) ac) <| And.intro (fun (SP : Prg) (ac : Ac) => congrFun (congrArg (E SP) c_ref16_show_4.eq_1) ac) <| And.intro (fun (SP : Prg) (ac : Ac) => congrFun (congrArg (E SP) c_ref16_show_5.eq_1) ac) <| And.intro (fun (SP : Prg) (ac : Ac) => congrFun (congrArg (E SP) b_ref16_show_1.eq_1) ac) <| And.intro (fun (SP : Prg) (ac : Ac) => congrFun (congrArg (E SP) c_ref16_show_6.eq_1) ac) <| And.intro (fun (SP : Prg) (ac : Ac) => congrFun (congrArg (E SP) c_ref16_show_7.eq_1) ac) <| And.intro (fun (SP : Prg) (ac : Ac) => congrFun (congrArg (E SP) c_ref16_show_8.eq_1) ac) <| And.intro (fun (SP : Prg) (ac : Ac) => congrFun (congrArg (E SP) c_ref16_show_9.eq_1) ac) <| sc_ref16_show.eq_1) := And.intro (fun (SP : Prg) (ac : Ac) => congrFun (congrArg (E SP) c_ref16_show_1.eq_1) ac) <| And.intro (fun (SP : Prg) (ac : Ac) => congrFun (congrArg (E SP) c_ref16_show_2.eq_1) ac) <| And.intro (fun (SP : Prg) (ac : Ac) => congrFun (congrArg (E SP) c_ref16_show_3.eq_1) ac) <| And.intro (fun (SP : Prg) (ac : Ac) => congrFun (congrArg (E SP) c_ref16_show_4.eq_1) ac) <| And.intro (fun (SP : Prg) (ac : Ac) => congrFun (congrArg (E SP) c_ref16_show_5.eq_1) ac) <| And.intro (fun (SP : Prg) (ac : Ac) => congrFun (congrArg (E SP) b_ref16_show_1.eq_1) ac) <| And.intro (fun (SP : Prg) (ac : Ac) => congrFun (congrArg (E SP) c_ref16_show_6.eq_1) ac) <| And.intro (fun (SP : Prg) (ac : Ac) => congrFun (congrArg (E SP) c_ref16_show_7.eq_1) ac) <| And.intro (fun (SP : Prg) (ac : Ac) => congrFun (congrArg (E SP) c_ref16_show_8.eq_1) ac) <| And.intro (fun (SP : Prg) (ac : Ac) => congrFun (congrArg (E SP) c_ref16_show_9.eq_1) ac) <| sc_ref16_show.eq_1
theorem comp_ref16_show : comp Tryd.prog Tryd.f90 = some sc_ref16_show := by kernel_rfl
/-- doorkeeper/doorkeeperref16.root -/
def sc_ref16_root : SFunc := ⟨1, 6, .seq (.reg [⟨(some 2), none, (.v (.mov (.c (.str []))))⟩]) (.seq (.seq (.reg [⟨(some 3), none, (.v (.mov (.t 0)))⟩, ⟨(some 4), none, (.v (.bin .eql (.t 3) (.c (.str []))))⟩]) (.cond (.t 4) (.seq (.reg [⟨(some 2), none, (.v (.mov (.c (.str [47]))))⟩]) .ret) .skip)) (.seq (.reg [⟨(some 5), none, (.v (.mov (.t 0)))⟩, ⟨(some 2), none, (.v (.mov (.t 5)))⟩]) .ret)), [(.t 2)]⟩
theorem U_ref16_root : type_of% (sc_ref16_root.eq_1) := sc_ref16_root.eq_1
theorem comp_ref16_root : comp Tryd.prog Tryd.f87 = some sc_ref16_root := by kernel_rfl
/-- doorkeeper/doorkeeperref16.marked -/
def c_ref16_marked_1 : SC := .seq (.reg [⟨(some 4), none, (.v (.mov (.c (.int .i64 (-1)))))⟩]) .ret
def b_ref16_marked_1 : SC := .seq (.seq (.reg [⟨(some 6), none, (.v (.mov (.t 5)))⟩, ⟨(some 7), none, (.v (.mov (.t 0)))⟩, ⟨(some 8), none, (.v (.len false (.t 7)))⟩, ⟨(some 9), none, (.v (.bin .lss (.t 6) (.t 8)))⟩]) (.cond (.t 9) .skip (.exit 0))) (.seq (.block 1 (.seq (.reg [⟨(some 12), none, (.v (.mov (.t 0)))⟩, ⟨(some 13), none, (.v (.mov (.t 5)))⟩, ⟨(some 14), none, (.v (.iaddr 6 (.t 12) (.t 13)))⟩, ⟨(some 15), none, (.v (.faddr 0 (.t 14)))⟩, ⟨(some 16), none, (.v (.load none (.t 15)))⟩, ⟨(some 17), none, (.v (.mov (.t 1)))⟩, ⟨(some 18), none, (.v (.bin .eql (.t 16) (.t 17)))⟩]) (.cond (.t 18) (.seq (.reg [⟨(some 19), none, (.v (.mov (.t 5)))⟩, ⟨(some 4), none, (.v (.mov (.t 19)))⟩]) .ret) .skip))) (.reg [⟨(some 10), none, (.v (.mov (.t 5)))⟩, ⟨(some 11), none, (.v (.bin .add (.t 10) (.c (.int .i64 1))))⟩, ⟨(some 5), none, (.v (.mov (.t 11)))⟩]))
def sc_ref16_marked : SFunc := ⟨2, 20, .seq (.reg [⟨(some 4), none, (.v (.mov (.c (.int .i64 0))))⟩]) (.seq (.seq (.reg [⟨(some 5), none, (.v (.mov (.c (.int .i64 0))))⟩]) (.block 0 (.loop b_ref16_marked_1))) c_ref16_marked_1), [(.t 4)]⟩
noncomputable def k_ref16_marked_1 (SP : Prg) (x : EO) : CO := fin [(.t 4)] (thC SP (inBlk 0 (x)) c_ref16_marked_1)
theorem U_ref16_marked : type_of% (And.intro (fun (SP : Prg) (ac : Ac) => congrFun (congrArg (E SP) c_ref16_marked_1.eq_1) ac) <| And.intro (fun (SP : Prg) (ac : Ac) => congrFun (congrArg (E SP) b_ref16_marked_1.eq_1) ac) <| sc_ref16_marked.eq_1) := And.intro (fun (SP : Prg) (ac : Ac) => congrFun (congrArg (E SP) c_ref16_marked_1.eq_1) ac) <| And.intro (fun (SP : Prg) (ac : Ac) => congrFun (congrArg (E SP) b_ref16_marked_1.eq_1) ac) <| sc_ref16_marked.eq_1
theorem comp_ref16_marked : comp Tryd.prog Tryd.f105 = some sc_ref16_marked := by kernel_rfl
/-- doorkeeper/doorkeeperref10.Find -/
def c_ref10_Find_1 : SC := .seq (.reg [⟨(some 4), none, (.v (.mov (.c (.int .i64 (-1)))))⟩]) .ret
def b_ref10_Find_1 : SC := .seq (.seq (.reg [⟨(some 6), none, (.v (.mov (.t 5)))⟩, ⟨(some 7), none, (.v (.mov (.t 0)))⟩, ⟨(some 8), none, (.v (.len false (.t 7)))⟩, ⟨(some 9), none, (.v (.bin .lss (.t 6) (.t 8)))⟩]) (.cond (.t 9) .skip (.exit 0))) (.seq (.block 1 (.seq (.reg [⟨(some 12), none, (.v (.mov (.t 0)))⟩, ⟨(some 13), none, (.v (.mov (.t 5)))⟩, ⟨(some 14), none, (.v (.iaddr 12 (.t 12) (.t 13)))⟩, ⟨(some 15), none, (.v (.faddr 0 (.t 14)))⟩, ⟨(some 16), none, (.v (.load none (.t 15)))⟩, ⟨(some 17), none, (.v (.mov (.t 1)))⟩, ⟨(some 18), none, (.v (.bin .eql (.t 16) (.t 17)))⟩]) (.cond (.t 18) (.seq (.reg [⟨(some 19), none, (.v (.mov (.t 5)))⟩, ⟨(some 4), none, (.v (.mov (.t 19)))⟩]) .ret) .skip))) (.reg [⟨(some 10), none, (.v (.mov (.t 5)))⟩, ⟨(some 11), none, (.v (.bin .add (.t 10) (.c (.int .i64 1))))⟩, ⟨(some 5), none, (.v (.mov (.t 11)))⟩]))
def sc_ref10_Find : SFunc := ⟨2, 20, .seq (.reg [⟨(some 4), none, (.v (.mov (.c (.int .i64 0))))⟩]) (.seq (.seq (.reg [⟨(some 5), none, (.v (.mov (.c (.int .i64 0))))⟩]) (.block 0 (.loop b_ref10_Find_1))) c_ref10_Find_1), [(.t 4)]⟩
noncomputable def k_ref10_Find_1 (SP : Prg) (x : EO) : CO := fin [(.t 4)] (thC SP (inBlk 0 (x)) c_ref10_Find_1)
theorem U_ref10_Find : type_of% (And.intro (fun (SP : Prg) (ac : Ac) => congrFun (congrArg (E SP) c_ref10_Find_1.eq_1) ac) <| And.intro (fun (SP : Prg) (ac : Ac) => congrFun (congrArg (E SP) b_ref10_Find_1.eq_1) ac) <| sc_ref10_Find.eq_1) := And.intro (fun (SP : Prg) (ac : Ac) => congrFun (congrArg (E SP) c_ref10_Find_1.eq_1) ac) <| And.intro (fun (SP : Prg) (ac : Ac) => congrFun (congrArg (E SP) b_ref10_Find_1.eq_1) ac) <| sc_ref10_Find.eq_1
theorem comp_ref10_Find : comp Tryd.prog Tryd.f60 = some sc_ref10_Find := by kernel_rfl
/-- doorkeeper/doorkeeperref10.Up -/
def c_ref10_Up_1 : SC := .seq (.reg [⟨(some 34), none, (.v (.mov (.t 5)))⟩, ⟨(some 4), none, (.v (.mov (.t 34)))⟩]) .ret
def b_ref10_Up_1 : SC := .seq (.seq (.reg [⟨(some 10), none, (.v (.mov (.t 6)))⟩, ⟨(some 11), none, (.v (.bin .geq (.t 10) (.c (.int .i64 0))))⟩, ⟨(some 12), none, (.v (.mov (.t 11)))⟩, ⟨(some 13), (some (12, true)), (.v (.mov (.t 5)))⟩, ⟨(some 14), (some (12, true)), (.v (.len false (.t 13)))⟩, ⟨(some 15), (some (12, true)), (.v (.mov (.t 0)))⟩, ⟨(some 16), (some (12, true)), (.v (.len false (.t 15)))⟩, ⟨(some 17), (some (12, true)), (.v (.bin .leq (.t 14) (.t 16)))⟩, ⟨(some 18), none, (.v (.pick (.t 12) (.t 17) (.c (.bool false))))⟩]) (.cond (.t 18) .skip (.exit 0))) (.seq (.block 1 (.reg [⟨(some 26), none, (.v (.mov (.t 5)))⟩, ⟨(some 27), none, (.v (.mov (.t 0)))⟩, ⟨(some 28), none, (.v (.mov (.t 6)))⟩, ⟨(some 29), none, (.v (.iaddr 12 (.t 27) (.t 28)))⟩, ⟨(some 30), none, (.v (.faddr 0 (.t 29)))⟩, ⟨(some 31), none, (.v (.load none (.t 30)))⟩, ⟨(some 32), none, (.bslice 1 1 [(.str [])] [(0, (.t 31))])⟩, ⟨(some 33), none, (.append 1 16 (.t 26) (.t 32))⟩, ⟨(some 5), none, (.v (.mov (.t 33)))⟩])) (.reg [⟨(some 19), none, (.v (.mov (.t 0)))⟩, ⟨(some 20), none, (.v (.mov (.t 0)))⟩, ⟨(some 21), none, (.v (.mov (.t 6)))⟩, ⟨(some 22), none, (.v (.iaddr 12 (.t 20) (.t 21)))⟩, ⟨(some 23), none, (.v (.faddr 1 (.t 22)))⟩, ⟨(some 24), none, (.v (.load none (.t 23)))⟩, ⟨(some 25), none, (.call (.c (.func 60 [])) [(.t 19), (.t 24)])⟩, ⟨(some 6), none, (.v (.mov (.t 25)))⟩]))
def c_ref10_Up_2 : SC := .block 0 (.loop b_ref10_Up_1)
def c_ref10_Up_3 : SC := .seq (.seq (.reg [⟨(some 7), none, (.v (.mov (.t 0)))⟩, ⟨(some 8), none, (.v (.mov (.t 1)))⟩, ⟨(some 9), none, (.call (.c (.func 60 [])) [(.t 7), (.t 8)])⟩, ⟨(some 6), none, (.v (.mov (.t 9)))⟩]) c_ref10_Up_2) c_ref10_Up_1
def c_ref10_Up_4 : SC := .seq (.reg [⟨(some 5), none, (.nilv 1)⟩]) c_ref10_Up_3
def sc_ref10_Up : SFunc := ⟨2, 35, .seq (.reg [⟨(some 4), none, (.nilv 1)⟩]) c_ref10_Up_4, [(.t 4)]⟩
noncomputable def k_ref10_Up_1 (SP : Prg) (x : EO) : CO := fin [(.t 4)] (thC SP (inBlk 0 (x)) c_ref10_Up_1)
theorem U_ref10_Up : type_of% (And.intro (fun (SP : Prg) (ac : Ac) => congrFun (congrArg (E SP) c_ref10_Up_1.eq_1) ac) <| And.intro (fun (SP : Prg) (ac : Ac) => congrFun (congrArg (E SP) b_ref10_Up_1.eq_1) ac) <| And.intro (fun (SP : Prg) (ac : Ac) => congrFun (congrArg (E SP) c_ref10_Up_2.eq_1) ac) <| And.intro (fun (SP : Prg) (ac : Ac) => congrFun (congrArg (E SP) c_ref10_Up_3.eq_1) ac) <| And.intro (fun (SP : Prg) (ac : Ac) => congrFun (congrArg (E SP) c_ref10_Up_4.eq_1) ac) <| sc_ref10_Up.eq_1) := And.intro (fun (SP : Prg) (ac : Ac) => congrFun (congrArg (E SP) c_ref10_Up_1.eq_1) ac) <| And.intro (fun (SP : Prg) (ac : Ac) => congrFun (congrArg (E SP) b_ref10_Up_1.eq_1) ac) <| And.intro (fun (SP : Prg) (ac : Ac) => congrFun (congrArg (E SP) c_ref10_Up_2.eq_1) ac) <| And.intro (fun (SP : Prg) (ac : Ac) => congrFun (congrArg (E SP) c_ref10_Up_3.eq_1) ac) <| And.intro (fun (SP : Prg) (ac : Ac) => congrFun (congrArg (E SP) c_ref10_Up_4.eq_1) ac) <| sc_ref10_Up.eq_1
theorem comp_ref10_Up : comp Tryd.prog Tryd.f61 = some sc_ref10_Up := by kernel_rfl
/-- doorkeeper/doorkeeperref10.Below -/
def c_ref10_Below_1 : SC := .seq (.reg [⟨(some 28), none, (.v (.mov (.t 5)))⟩, ⟨(some 4), none, (.v (.mov (.t 28)))⟩]) .ret
def b_ref10_Below_1 : SC := .seq (.seq (.reg [⟨(some 7), none, (.v (.mov (.t 6)))⟩, ⟨(some 8), none, (.v (.mov (.t 0)))⟩, ⟨(some 9), none, (.v (.len false (.t 8)))⟩, ⟨(some 10), none, (.v (.bin .lss (.t 7) (.t 9)))⟩]) (.cond (.t 10) .skip (.exit 0))) (.seq (.block 1 (.seq (.reg [⟨(some 13), none, (.v (.mov (.t 0)))⟩, ⟨(some 14), none, (.v (.mov (.t 6)))⟩, ⟨(some 15), none, (.v (.iaddr 12 (.t 13) (.t 14)))⟩, ⟨(some 16), none, (.v (.faddr 1 (.t 15)))⟩, ⟨(some 17), none, (.v (.load none (.t 16)))⟩, ⟨(some 18), none, (.v (.mov (.t 1)))⟩, ⟨(some 19), none, (.v (.bin .eql (.t 17) (.t 18)))⟩]) (.cond (.t 19) (.reg [⟨(some 20), none, (.v (.mov (.t 5)))⟩, ⟨(some 21), none, (.v (.mov (.t 0)))⟩, ⟨(some 22), none, (.v (.mov (.t 6)))⟩, ⟨(some 23), none, (.v (.iaddr 12 (.t 21) (.t 22)))⟩, ⟨(some 24), none, (.v (.faddr 0 (.t 23)))⟩, ⟨(some 25), none, (.v (.load none (.t 24)))⟩, ⟨(some 26), none, (.bslice 1 1 [(.str [])] [(0, (.t 25))])⟩, ⟨(some 27), none, (.append 1 16 (.t 20) (.t 26))⟩, ⟨(some 5), none, (.v (.mov (.t 27)))⟩]) .skip))) (.reg [⟨(some 11), none, (.v (.mov (.t 6)))⟩, ⟨(some 12), none, (.v (.bin .add (.t 11) (.c (.int .i64 1))))⟩, ⟨(some 6), none, (.v (.mov (.t 12)))⟩]))
def sc_ref10_Below : SFunc := ⟨2, 29, .seq (.reg [⟨(some 4), none, (.nilv 1)⟩]) (.seq (.reg [⟨(some 5), none, (.nilv 1)⟩]) (.seq (.seq (.reg [⟨(some 6), none, (.v (.mov (.c (.int .i64 0))))⟩]) (.block 0 (.loop b_ref10_Below_1))) c_ref10_Below_1)), [(.t 4)]⟩
noncomputable def k_ref10_Below_1 (SP : Prg) (x : EO) : CO := fin [(.t 4)] (thC SP (inBlk 0 (x)) c_ref10_Below_1)
theorem U_ref10_Below : type_of% (And.intro (fun (SP : Prg) (ac : Ac) => congrFun (congrArg (E SP) c_ref10_Below_1.eq_1) ac) <| And.intro (fun (SP : Prg) (ac : Ac) => congrFun (congrArg (E SP) b_ref10_Below_1.eq_1) ac) <| sc_ref10_Below.eq_1) := And.intro (fun (SP : Prg) (ac : Ac) => congrFun (congrArg (E SP) c_ref10_Below_1.eq_1) ac) <| And.intro (fun (SP : Prg) (ac : Ac) => congrFun (congrArg (E SP) b_ref10_Below_1.eq_1) ac) <| sc_ref10_Below.eq_1
theorem comp_ref10_Below : comp Tryd.prog Tryd.f104 = some sc_ref10_Below := by kernel_rfl
/-- doorkeeper/doorkeeperref10.Right -/
def c_ref10_Right_1 : SC := .seq (.reg [⟨(some 2), none, (.v (.mov (.c (.bool true))))⟩]) .ret
def c_ref10_Right_2 : SC := .reg [⟨(some 92), none, (.v (.mov (.t 5)))⟩, ⟨(some 93), none, (.v (.bin .add (.t 92) (.c (.int .i64 1))))⟩, ⟨(some 5), none, (.v (.mov (.t 93)))⟩]
def c_ref10_Right_3 : SC := .seq (.dreg [⟨(some 123), none, (.v (.load (some 3) (.t 6)))⟩, ⟨(some 124), none, (.v (.mov (.t 0)))⟩, ⟨(some 125), none, (.v (.mov (.t 5)))⟩, ⟨(some 126), none, (.v (.iaddr 12 (.t 124) (.t 125)))⟩, ⟨(some 127), none, (.v (.faddr 8 (.t 126)))⟩, ⟨(some 128), none, (.v (.load (some 3) (.t 127)))⟩, ⟨(some 129), none, (.v (.eqs true [.i, .i, .i] (.t 123) (.t 128)))⟩, ⟨(some 130), none, (.v (.mov (.t 129)))⟩, ⟨(some 131), (some (130, false)), (.v (.mov (.t 0)))⟩, ⟨(some 132), (some (130, false)), (.v (.mov (.t 0)))⟩, ⟨(some 133), (some (130, false)), (.v (.mov (.t 5)))⟩, ⟨(some 134), (some (130, false)), (.v (.iaddr 12 (.t 132) (.t 133)))⟩, ⟨(some 135), (some (130, false)), (.v (.faddr 0 (.t 134)))⟩, ⟨(some 136), (some (130, false)), (.v (.load none (.t 135)))⟩, ⟨(some 137), (some (130, false)), (.call (.c (.func 61 [])) [(.t 131), (.t 136)])⟩, ⟨(some 138), (some (130, false)), (.v (.len false (.t 137)))⟩, ⟨(some 139), (some (130, false)), (.v (.mov (.t 0)))⟩, ⟨(some 140), (some (130, false)), (.v (.len false (.t 139)))⟩, ⟨(some 141), (some (130, false)), (.v (.bin .gtr (.t 138) (.t 140)))⟩, ⟨(some 142), none, (.v (.pick (.t 130) (.c (.bool true)) (.t 141)))⟩] [false, false, false, false, false, false, true, true, false, false, false, false, false, false, false, false, false, false, true, true]) (.cond (.t 142) (.seq (.reg [⟨(some 2), none, (.v (.mov (.c (.bool false))))⟩]) .ret) .skip)
def b_ref10_Right_2 : SC := .seq (.seq (.reg [⟨(some 99), none, (.v (.mov (.t 7)))⟩, ⟨(some 100), none, (.v (.mov (.t 0)))⟩, ⟨(some 101), none, (.v (.len false (.t 100)))⟩, ⟨(some 102), none, (.v (.bin .lss (.t 99) (.t 101)))⟩]) (.cond (.t 102) .skip (.exit 4))) (.seq (.block 5 (.seq (.dreg [⟨(some 105), none, (.v (.mov (.t 0)))⟩, ⟨(some 106), none, (.v (.mov (.t 7)))⟩, ⟨(some 107), none, (.v (.iaddr 12 (.t 105) (.t 106)))⟩, ⟨(some 108), none, (.v (.faddr 1 (.t 107)))⟩, ⟨(some 109), none, (.v (.load none (.t 108)))⟩, ⟨(some 110), none, (.v (.mov (.t 0)))⟩, ⟨(some 111), none, (.v (.mov (.t 5)))⟩, ⟨(some 112), none, (.v (.iaddr 12 (.t 110) (.t 111)))⟩, ⟨(some 113), none, (.v (.faddr 0 (.t 112)))⟩, ⟨(some 114), none, (.v (.load none (.t 113)))⟩, ⟨(some 115), none, (.v (.bin .eql (.t 109) (.t 114)))⟩] [false, false, false, false, false, false, false, false, false, false, true]) (.cond (.t 115) (.dreg [⟨(some 116), none, (.v (.load (some 3) (.t 6)))⟩, ⟨(some 117), none, (.v (.mov (.t 0)))⟩, ⟨(some 118), none, (.v (.mov (.t 7)))⟩, ⟨(some 119), none, (.v (.iaddr 12 (.t 117) (.t 118)))⟩, ⟨(some 120), none, (.v (.faddr 8 (.t 119)))⟩, ⟨(some 121), none, (.v (.load (some 3) (.t 120)))⟩, ⟨(some 122), none, (.call (.c (.func 68 [])) [(.t 116), (.t 121)])⟩, ⟨none, none, (.store 3 (.t 6) (.t 122))⟩] [false, false, false, false, false, false, true, true]) .skip))) (.reg [⟨(some 103), none, (.v (.mov (.t 7)))⟩, ⟨(some 104), none, (.v (.bin .add (.t 103) (.c (.int .i64 1))))⟩, ⟨(some 7), none, (.v (.mov (.t 104)))⟩]))
def c_ref10_Right_4 : SC := .block 4 (.loop b_ref10_Right_2)
def c_ref10_Right_5 : SC := .seq (.seq (.reg [⟨(some 7), none, (.v (.mov (.c (.int .i64 0))))⟩]) c_ref10_Right_4) c_ref10_Right_3
def c_ref10_Right_6 : SC := .seq (.block 3 (.seq (.reg [⟨(some 94), none, (.v (.mov (.t 0)))⟩, ⟨(some 95), none, (.v (.mov (.t 5)))⟩, ⟨(some 96), none, (.v (.iaddr 12 (.t 94) (.t 95)))⟩, ⟨(some 97), none, (.v (.faddr 5 (.t 96)))⟩, ⟨(some 98), none, (.v (.load (some 3) (.t 97)))⟩, ⟨(some 6), none, (.alloc [(.int .i64 0), (.int .i64 0), (.int .i64 0)])⟩, ⟨none, none, (.store 3 (.t 6) (.t 98))⟩]) c_ref10_Right_5)) c_ref10_Right_2
def b_ref10_Right_1 : SC := .seq (.seq (.reg [⟨(some 88), none, (.v (.mov (.t 5)))⟩, ⟨(some 89), none, (.v (.mov (.t 0)))⟩, ⟨(some 90), none, (.v (.len false (.t 89)))⟩, ⟨(some 91), none, (.v (.bin .lss (.t 88) (.t 90)))⟩]) (.cond (.t 91) .skip (.exit 2))) c_ref10_Right_6
def c_ref10_Right_7 : SC := .block 2 (.loop b_ref10_Right_1)
def c_ref10_Right_8 : SC := .seq (.seq (.reg [⟨(some 5), none, (.v (.mov (.c (.int .i64 0))))⟩]) c_ref10_Right_7) c_ref10_Right_1
def c_ref10_Right_9 : SC := .reg [⟨(some 15), none, (.v (.mov (.t 3)))⟩, ⟨(some 16), none, (.v (.bin .add (.t 15) (.c (.int .i64 1))))⟩, ⟨(some 3), none, (.v (.mov (.t 16)))⟩]
def c_ref10_Right_10 : SC := .cond (.t 87) (.seq (.reg [⟨(some 2), none, (.v (.mov (.c (.bool false))))⟩]) .ret) .skip
def c_ref10_Right_11 : SC := .seq (.dreg [⟨(some 21), none, (.v (.faddr 0 (.t 4)))⟩, ⟨(some 22), none, (.v (.load none (.t 21)))⟩, ⟨(some 23), none, (.call (.c (.func 88 [])) [(.t 22)])⟩, ⟨(some 24), none, (.v (.un .not (.t 23)))⟩, ⟨(some 25), none, (.v (.mov (.t 24)))⟩, ⟨(some 26), (some (25, false)), (.v (.mov (.t 3)))⟩, ⟨(some 27), (some (25, false)), (.v (.bin .gtr (.t 26) (.c (.int .i64 0))))⟩, ⟨(some 28), (some (25, false)), (.v (.mov (.t 27)))⟩, ⟨(some 29), (some (28, true)), (.v (.mov (.t 0)))⟩, ⟨(some 30), (some (28, true)), (.v (.mov (.t 3)))⟩, ⟨(some 31), (some (28, true)), (.v (.bin .sub (.t 30) (.c (.int .i64 1))))⟩, ⟨(some 32), (some (28, true)), (.v (.iaddr 12 (.t 29) (.t 31)))⟩, ⟨(some 33), (some (28, true)), (.v (.faddr 0 (.t 32)))⟩, ⟨(some 34), (some (28, true)), (.v (.load none (.t 33)))⟩, ⟨(some 35), (some (28, true)), (.v (.faddr 0 (.t 4)))⟩, ⟨(some 36), (some (28, true)), (.v (.load none (.t 35)))⟩, ⟨(some 37), (some (28, true)), (.v (.bin .geq (.t 34) (.t 36)))⟩, ⟨(some 38), (some (25, false)), (.v (.pick (.t 28) (.t 37) (.c (.bool false))))⟩, ⟨(some 39), none, (.v (.pick (.t 25) (.c (.bool true)) (.t 38)))⟩, ⟨(some 40), none, (.v (.mov (.t 39)))⟩, ⟨(some 41), (some (40, false)), (.v (.faddr 2 (.t 4)))⟩, ⟨(some 42), (some (40, false)), (.v (.load (some 3) (.t 41)))⟩, ⟨(some 43), (some (40, false)), (.call (.c (.func 19 [])) [(.t 42)])⟩, ⟨(some 44), (some (40, false)), (.v (.un .not (.t 43)))⟩, ⟨(some 45), none, (.v (.pick (.t 40) (.c (.bool true)) (.t 44)))⟩, ⟨(some 46), none, (.v (.mov (.t 45)))⟩, ⟨(some 47), (some (46, false)), (.v (.faddr 5 (.t 4)))⟩, ⟨(some 48), (some (46, false)), (.v (.load (some 3) (.t 47)))⟩, ⟨(some 49), (some (46, false)), (.call (.c (.func 19 [])) [(.t 48)])⟩, ⟨(some 50), (some (46, false)), (.v (.un .not (.t 49)))⟩, ⟨(some 51), none, (.v (.pick (.t 46) (.c (.bool true)) (.t 50)))⟩, ⟨(some 52), none, (.v (.mov (.t 51)))⟩, ⟨(some 53), (some (52, false)), (.v (.faddr 1 (.t 4)))⟩, ⟨(some 54), (some (52, false)), (.v (.load none (.t 53)))⟩, ⟨(some 55), (some (52, false)), (.v (.bin .neq (.t 54) (.c (.str []))))⟩, ⟨(some 56), (some (52, false)), (.v (.mov (.t 55)))⟩, ⟨(some 57), (some (56, true)), (.v (.mov (.t 0)))⟩, ⟨(some 58), (some (56, true)), (.v (.faddr 1 (.t 4)))⟩, ⟨(some 59), (some (56, true)), (.v (.load none (.t 58)))⟩, ⟨(some 60), (some (56, true)), (.call (.c (.func 60 [])) [(.t 57), (.t 59)])⟩, ⟨(some 61), (some (56, true)), (.v (.bin .lss (.t 60) (.c (.int .i64 0))))⟩, ⟨(some 62), (some (52, false)), (.v (.pick (.t 56) (.t 61) (.c (.bool false))))⟩, ⟨(some 63), none, (.v (.pick (.t 52) (.c (.bool true)) (.t 62)))⟩, ⟨(some 64), none, (.v (.mov (.t 63)))⟩, ⟨(some 65), (some (64, false)), (.v (.faddr 11 (.t 4)))⟩, ⟨(some 66), (some (64, false)), (.v (.load none (.t 65)))⟩, ⟨(some 67), (some (64, false)), (.v (.bin .lss (.t 66) (.c (.int .i64 1))))⟩, ⟨(some 68), none, (.v (.pick (.t 64) (.c (.bool true)) (.t 67)))⟩, ⟨(some 69), none, (.v (.mov (.t 68)))⟩, ⟨(some 70), (some (69, false)), (.v (.faddr 11 (.t 4)))⟩, ⟨(some 71), (some (69, false)), (.v (.load none (.t 70)))⟩, ⟨(some 72), (some (69, false)), (.v (.bin .gtr (.t 71) (.c (.int .i64 9007199254740992))))⟩, ⟨(some 73), none, (.v (.pick (.t 69) (.c (.bool true)) (.t 72)))⟩, ⟨(some 74), none, (.v (.mov (.t 73)))⟩, ⟨(some 75), (some (74, false)), (.v (.faddr 8 (.t 4)))⟩, ⟨(some 76), (some (74, false)), (.v (.load (some 3) (.t 75)))⟩, ⟨(some 77), (some (74, false)), (.v (.faddr 2 (.t 4)))⟩, ⟨(some 78), (some (74, false)), (.v (.load (some 3) (.t 77)))⟩, ⟨(some 79), (some (74, false)), (.call (.c (.func 24 [])) [(.t 76), (.t 78)])⟩, ⟨(some 80), (some (74, false)), (.v (.un .not (.t 79)))⟩, ⟨(some 81), none, (.v (.pick (.t 74) (.c (.bool true)) (.t 80)))⟩, ⟨(some 82), none, (.v (.mov (.t 81)))⟩, ⟨(some 83), (some (82, false)), (.v (.faddr 8 (.t 4)))⟩, ⟨(some 84), (some (82, false)), (.v (.load (some 3) (.t 83)))⟩, ⟨(some 85), (some (82, false)), (.call (.c (.func 19 [])) [(.t 84)])⟩, ⟨(some 86), (some (82, false)), (.v (.un .not (.t 85)))⟩, ⟨(some 87), none, (.v (.pick (.t 82) (.c (.bool true)) (.t 86)))⟩] [true, true, true, true, true, true, true, true, false, false, false, false, false, false, false, false, true, true, true, true, true, true, true, true, true, true, true, true, true, true, true, true, true, true, true, true, false, true, true, true, true, true, true, true, true, true, true, true, true, true, true, true, true, true, false, false, false, false, true, true, true, true, true, true, true, true, true]) c_ref10_Right_10
def c_ref10_Right_12 : SC := .seq (.block 1 (.seq (.reg [⟨(some 17), none, (.v (.mov (.t 0)))⟩, ⟨(some 18), none, (.v (.mov (.t 3)))⟩, ⟨(some 19), none, (.v (.iaddr 12 (.t 17) (.t 18)))⟩, ⟨(some 20), none, (.v (.load (some 12) (.t 19)))⟩, ⟨(some 4), none, (.alloc [(.str []), (.str []), (.int .i64 0), (.int .i64 0), (.int .i64 0), (.int .i64 0), (.int .i64 0), (.int .i64 0), (.int .i64 0), (.int .i64 0), (.int .i64 0), (.int .i64 0)])⟩, ⟨none, none, (.store 12 (.t 4) (.t 20))⟩]) c_ref10_Right_11)) c_ref10_Right_9
def b_ref10_Right_3 : SC := .seq (.seq (.reg [⟨(some 11), none, (.v (.mov (.t 3)))⟩, ⟨(some 12), none, (.v (.mov (.t 0)))⟩, ⟨(some 13), none, (.v (.len false (.t 12)))⟩, ⟨(some 14), none, (.v (.bin .lss (.t 11) (.t 13)))⟩]) (.cond (.t 14) .skip (.exit 0))) c_ref10_Right_12
def c_ref10_Right_13 : SC := .block 0 (.loop b_ref10_Right_3)
def c_ref10_Right_14 : SC := .seq (.seq (.reg [⟨(some 3), none, (.v (.mov (.c (.int .i64 0))))⟩]) c_ref10_Right_13) c_ref10_Right_8
def c_ref10_Right_15 : SC := .seq (.seq (.reg [⟨(some 8), none, (.v (.mov (.t 0)))⟩, ⟨(some 9), none, (.v (.len false (.t 8)))⟩, ⟨(some 10), none, (.v (.bin .gtr (.t 9) (.c (.int .i64 120))))⟩]) (.cond (.t 10) (.seq (.reg [⟨(some 2), none, (.v (.mov (.c (.bool false))))⟩]) .ret) .skip)) c_ref10_Right_14
def sc_ref10_Right : SFunc := ⟨1, 143, .seq (.reg [⟨(some 2), none, (.v (.mov (.c (.bool false))))⟩]) c_ref10_Right_15, [(.t 2)]⟩
noncomputable def k_ref10_Right_2 (SP : Prg) (x : EO) : CO := fin [(.t 2)] (thC SP (inBlk 2 (thC SP (thC SP (inBlk 3 (thC SP (inBlk 4 (x)) c_ref10_Right_3)) c_ref10_Right_2) (.loop b_ref10_Right_1))) c_ref10_Right_1)
noncomputable def k_ref10_Right_1 (SP : Prg) (x : EO) : CO := fin [(.t 2)] (thC SP (inBlk 2 (x)) c_ref10_Right_1)
noncomputable def k_ref10_Right_3 (SP : Prg) (x : EO) : CO := fin [(.t 2)] (thC SP (inBlk 0 (x)) c_ref10_Right_8)
theorem U_ref10_Right : type_of% (And.intro (fun (SP : Prg) (ac : Ac) => congrFun (congrArg (E SP) c_ref10_Right_1.eq_1) ac) <| And.intro (fun (SP : Prg) (ac : Ac) => congrFun (congrArg (E SP) c_ref10_Right_2.eq_1) ac) <| And.intro (fun (SP : Prg) (ac : Ac) => congrFun (congrArg (E SP) c_ref10_Right_3.eq_1) ac) <| And.intro (fun (SP : Prg) (ac : Ac) => congrFun (congrArg (E SP) b_ref10_Right_2.eq_1) ac) <| And.intro (fun (SP : Prg) (ac : Ac) => congrFun (congrArg (E SP) c_ref10_Right_4.eq_1) ac) <| And.intro (fun (SP : Prg) (ac : Ac) => congrFun (congrArg (E SP) c_ref10_Right_5.eq_1) ac) <| And.intro (fun (SP : Prg) (ac : Ac) => congrFun (congrArg (E SP) c_ref10_Right_6.eq_1) ac) <| And.intro (fun (SP : Prg) (ac : Ac) => congrFun (congrArg (E SP) b_ref10_Right_1.eq_1) ac) <| And.intro (fun (SP : Prg) (ac : Ac) => congrFun (congrArg (E SP) c_ref10_Right_7.eq_1) ac) <| And.intro (fun (SP : Prg) (ac : Ac) => congrFun (congrArg (E SP) c_ref10_Right_8.eq_1) ac) <| And.intro (fun (SP : Prg) (ac : Ac) => congrFun (congrArg (E SP) c_ref10_Right_9.eq_1) ac) <| And.intro (fun (SP : Prg) (ac : Ac) => congrFun (congrArg (E SP) c_ref10_Right_10.eq_1) ac) <| And.intro (fun (SP : Prg) (ac : Ac) => congrFun (congrArg (E SP) c_ref10_Right_11.eq_1) ac) <| And.intro (fun (SP : Prg) (ac : Ac) => congrFun (congrArg (E SP) c_ref10_Right_12.eq_1) ac) <| And.intro (fun (SP : Prg) (ac : Ac) => congrFun (congrArg (E SP) b_ref10_Right_3.eq_1) ac) <| And.intro (fun (SP : Prg) (ac : Ac) => congrFun (congrArg (E SP) c_ref10_Right_13.eq_1) ac) <| And.intro (fun (SP : Prg) (ac : Ac) => congrFun (congrArg (E SP) c_ref10_Right_14.eq_1) ac) <| And.intro (fun (SP : Prg) (ac : Ac) => congrFun (congrArg (E SP) c_ref10_Right_15.eq_1) ac) <| sc_ref10_Right.eq_1) := And.intro (fun (SP : Prg) (ac : Ac) => congrFun (congrArg (E SP) c_ref10_Right_1.eq_1) ac) <| And.intro (fun (SP : Prg) (ac : Ac) => congrFun (congrArg (E SP) c_ref10_Right_2.eq_1) ac) <| And.intro (fun (SP : Prg) (ac : Ac) => congrFun (congrArg (E SP) c_ref10_Right_3.eq_1) ac) <| And.intro (fun (SP : Prg) (ac : Ac) => congrFun (congrArg (E SP) b_ref10_Right_2.eq_1) ac) <| And.intro (fun (SP : Prg) (ac : Ac) => congrFun (congrArg (E SP) c_ref10_Right_4.eq_1) ac) <| And.intro (fun (SP : Prg) (ac : Ac) => congrFun (congrArg (E SP) c_ref10_Right_5.eq_1) ac) <| And.intro (fun (SP : Prg) (ac : Ac) => congrFun (congrArg (E SP) c_ref10_Right_6.eq_1) ac) <| And.intro (fun (SP : Prg) (ac : Ac) => congrFun (congrArg (E SP) b_ref10_Right_1.eq_1) ac) <| And.intro (fun (SP : Prg) (ac : Ac) => congrFun (congrArg (E SP) c_ref10_Right_7.eq_1) ac) <| And.intro (fun (SP : Prg) (ac : Ac) => congrFun (congrArg (E SP) c_ref10_Right_8.eq_1) ac) <| And.intro (fun (SP : Prg) (ac : Ac) => congrFun (congrArg (E SP) c_ref10_Right_9.eq_1) ac) <| And.intro (fun (SP : Prg) (ac : Ac) => congrFun (congrArg (E SP) c_ref10_Right_10.eq_1) ac) <| And.intro (fun (SP : Prg) (ac : Ac) => congrFun (congrArg (E SP) c_ref10_Right_11.eq_1) ac) <| And.intro (fun (SP : Prg) (ac : Ac) => congrFun (congrArg (E SP) c_ref10_Right_12.eq_1) ac) <| And.intro (fun (SP : Prg) (ac : Ac) => congrFun (congrArg (E SP) b_ref10_Right_3.eq_1) ac) <| And.intro (fun (SP : Prg) (ac : Ac) => congrFun (congrArg (E SP) c_ref10_Right_13.eq_1) ac) <| And.intro (fun (SP : Prg) (ac : Ac) => congrFun (congrArg (E SP) c_ref10_Right_14.eq_1) ac) <| And.intro (fun (SP : Prg) (ac : Ac) => congrFun (congrArg (E SP) c_ref10_Right_15.eq_1) ac) <| sc_ref10_Right.eq_1
theorem comp_ref10_Right : comp Tryd.prog Tryd.f53 = some sc_ref10_Right := by kernel_rfl
/-- doorkeeper/doorkeeperref10.VecText -/
def sc_ref10_VecText : SFunc := ⟨1, 17, .seq (.reg [⟨(some 1), none, (.box (.t 0))⟩, ⟨(some 2), none, (.v (.mov (.c (.str []))))⟩]) (.seq (.dreg [⟨(some 3), none, (.v (.faddr 0 (.t 1)))⟩, ⟨(some 4), none, (.v (.load none (.t 3)))⟩, ⟨(some 5), none, (.call (.c (.func 59 [])) [(.t 4)])⟩, ⟨(some 6), none, (.v (.bin .add (.c (.str [99, 112, 117, 61])) (.t 5)))⟩, ⟨(some 7), none, (.v (.bin .add (.t 6) (.c (.str [32, 109, 101, 109, 61]))))⟩, ⟨(some 8), none, (.v (.faddr 1 (.t 1)))⟩, ⟨(some 9), none, (.v (.load none (.t 8)))⟩, ⟨(some 10), none, (.call (.c (.func 59 [])) [(.t 9)])⟩, ⟨(some 11), none, (.v (.bin .add (.t 7) (.t 10)))⟩, ⟨(some 12), none, (.v (.bin .add (.t 11) (.c (.str [32, 112, 111, 100, 115, 61]))))⟩, ⟨(some 13), none, (.v (.faddr 2 (.t 1)))⟩, ⟨(some 14), none, (.v (.load none (.t 13)))⟩, ⟨(some 15), none, (.call (.c (.func 59 [])) [(.t 14)])⟩, ⟨(some 16), none, (.v (.bin .add (.t 12) (.t 15)))⟩, ⟨(some 2), none, (.v (.mov (.t 16)))⟩] [false, false, false, false, false, false, false, false, false, false, false, false, true, true, true]) .ret), [(.t 2)]⟩
theorem U_ref10_VecText : type_of% (sc_ref10_VecText.eq_1) := sc_ref10_VecText.eq_1
theorem comp_ref10_VecText : comp Tryd.prog Tryd.f21 = some sc_ref10_VecText := by kernel_rfl
/-- doorkeeper/doorkeeperref10.MayVec -/
def sc_ref10_MayVec : SFunc := ⟨1, 16, .seq (.reg [⟨(some 1), none, (.box (.t 0))⟩, ⟨(some 2), none, (.v (.mov (.c (.bool false))))⟩]) (.seq (.reg [⟨(some 3), none, (.v (.faddr 0 (.t 1)))⟩, ⟨(some 4), none, (.v (.load none (.t 3)))⟩, ⟨(some 5), none, (.call (.c (.func 66 [])) [(.t 4)])⟩, ⟨(some 6), none, (.v (.mov (.t 5)))⟩, ⟨(some 7), (some (6, true)), (.v (.faddr 1 (.t 1)))⟩, ⟨(some 8), (some (6, true)), (.v (.load none (.t 7)))⟩, ⟨(some 9), (some (6, true)), (.call (.c (.func 66 [])) [(.t 8)])⟩, ⟨(some 10), none, (.v (.pick (.t 6) (.t 9) (.c (.bool false))))⟩, ⟨(some 11), none, (.v (.mov (.t 10)))⟩, ⟨(some 12), (some (11, true)), (.v (.faddr 2 (.t 1)))⟩, ⟨(some 13), (some (11, true)), (.v (.load none (.t 12)))⟩, ⟨(some 14), (some (11, true)), (.call (.c (.func 66 [])) [(.t 13)])⟩, ⟨(some 15), none, (.v (.pick (.t 11) (.t 14) (.c (.bool false))))⟩, ⟨(some 2), none, (.v (.mov (.t 15)))⟩]) .ret), [(.t 2)]⟩
theorem U_ref10_MayVec : type_of% (sc_ref10_MayVec.eq_1) := sc_ref10_MayVec.eq_1
theorem comp_ref10_MayVec : comp Tryd.prog Tryd.f19 = some sc_ref10_MayVec := by kernel_rfl
/-- doorkeeper/doorkeeperref10.Le -/
def sc_ref10_Le : SFunc := ⟨2, 24, .seq (.reg [⟨(some 2), none, (.box (.t 0))⟩, ⟨(some 3), none, (.box (.t 1))⟩, ⟨(some 4), none, (.v (.mov (.c (.bool false))))⟩]) (.seq (.reg [⟨(some 5), none, (.v (.faddr 0 (.t 2)))⟩, ⟨(some 6), none, (.v (.load none (.t 5)))⟩, ⟨(some 7), none, (.v (.faddr 0 (.t 3)))⟩, ⟨(some 8), none, (.v (.load none (.t 7)))⟩, ⟨(some 9), none, (.v (.bin .leq (.t 6) (.t 8)))⟩, ⟨(some 10), none, (.v (.mov (.t 9)))⟩, ⟨(some 11), (some (10, true)), (.v (.faddr 1 (.t 2)))⟩, ⟨(some 12), (some (10, true)), (.v (.load none (.t 11)))⟩, ⟨(some 13), (some (10, true)), (.v (.faddr 1 (.t 3)))⟩, ⟨(some 14), (some (10, true)), (.v (.load none (.t 13)))⟩, ⟨(some 15), (some (10, true)), (.v (.bin .leq (.t 12) (.t 14)))⟩, ⟨(some 16), none, (.v (.pick (.t 10) (.t 15) (.c (.bool false))))⟩, ⟨(some 17), none, (.v (.mov (.t 16)))⟩, ⟨(some 18), (some (17, true)), (.v (.faddr 2 (.t 2)))⟩, ⟨(some 19), (some (17, true)), (.v (.load none (.t 18)))⟩, ⟨(some 20), (some (17, true)), (.v (.faddr 2 (.t 3)))⟩, ⟨(some 21), (some (17, true)), (.v (.load none (.t 20)))⟩, ⟨(some 22), (some (17, true)), (.v (.bin .leq (.t 19) (.t 21)))⟩, ⟨(some 23), none, (.v (.pick (.t 17) (.t 22) (.c (.bool false))))⟩, ⟨(some 4), none, (.v (.mov (.t 23)))⟩]) .ret), [(.t 4)]⟩
theorem U_ref10_Le : type_of% (sc_ref10_Le.eq_1) := sc_ref10_Le.eq_1
theorem comp_ref10_Le : comp Tryd.prog Tryd.f24 = some sc_ref10_Le := by kernel_rfl
/-- doorkeeper/doorkeeperref10.Add -/
def sc_ref10_Add : SFunc := ⟨2, 21, .seq (.reg [⟨(some 2), none, (.box (.t 0))⟩, ⟨(some 3), none, (.box (.t 1))⟩, ⟨(some 4), none, (.alloc [(.int .i64 0), (.int .i64 0), (.int .i64 0)])⟩]) (.seq (.reg [⟨(some 5), none, (.v (.faddr 0 (.t 2)))⟩, ⟨(some 6), none, (.v (.load none (.t 5)))⟩, ⟨(some 7), none, (.v (.faddr 0 (.t 3)))⟩, ⟨(some 8), none, (.v (.load none (.t 7)))⟩, ⟨(some 9), none, (.v (.bin .add (.t 6) (.t 8)))⟩, ⟨(some 10), none, (.v (.faddr 1 (.t 2)))⟩, ⟨(some 11), none, (.v (.load none (.t 10)))⟩, ⟨(some 12), none, (.v (.faddr 1 (.t 3)))⟩, ⟨(some 13), none, (.v (.load none (.t 12)))⟩, ⟨(some 14), none, (.v (.bin .add (.t 11) (.t 13)))⟩, ⟨(some 15), none, (.v (.faddr 2 (.t 2)))⟩, ⟨(some 16), none, (.v (.load none (.t 15)))⟩, ⟨(some 17), none, (.v (.faddr 2 (.t 3)))⟩, ⟨(some 18), none, (.v (.load none (.t 17)))⟩, ⟨(some 19), none, (.v (.bin .add (.t 16) (.t 18)))⟩, ⟨(some 20), none, (.v (.build [(.int .i64 0), (.int .i64 0), (.int .i64 0)] [(0, 1, (.t 9)), (1, 1, (.t 14)), (2, 1, (.t 19))]))⟩, ⟨none, none, (.store 3 (.t 4) (.t 20))⟩]) .ret), [(.cell 4 (some 3))]⟩
theorem U_ref10_Add : type_of% (sc_ref10_Add.eq_1) := sc_ref10_Add.eq_1
theorem comp_ref10_Add : comp Tryd.prog Tryd.f68 = some sc_ref10_Add := by kernel_rfl
/-- doorkeeper/doorkeeperref10.unit -/
def sc_ref10_unit : SFunc := ⟨1, 9, .seq (.reg [⟨(some 2), none, (.v (.mov (.c (.bool false))))⟩]) (.seq (.reg [⟨(some 3), none, (.v (.mov (.t 0)))⟩, ⟨(some 4), none, (.v (.bin .geq (.t 3) (.c (.int .i64 0))))⟩, ⟨(some 5), none, (.v (.mov (.t 4)))⟩, ⟨(some 6), (some (5, true)), (.v (.mov (.t 0)))⟩, ⟨(some 7), (some (5, true)), (.v (.bin .leq (.t 6) (.c (.int .i64 1099511627776))))⟩, ⟨(some 8), none, (.v (.pick (.t 5) (.t 7) (.c (.bool false))))⟩, ⟨(some 2), none, (.v (.mov (.t 8)))⟩]) .ret), [(.t 2)]⟩
theorem U_ref10_unit : type_of% (sc_ref10_unit.eq_1) := sc_ref10_unit.eq_1
theorem comp_ref10_unit : comp Tryd.prog Tryd.f66 = some sc_ref10_unit := by kernel_rfl
/-- doorkeeper/doorkeeperref10.MayName -/
def sc_ref10_MayName : SFunc := ⟨1, 10, .seq (.reg [⟨(some 2), none, (.v (.mov (.c (.bool false))))⟩]) (.seq (.reg [⟨(some 3), none, (.v (.mov (.t 0)))⟩, ⟨(some 4), none, (.v (.bin .neq (.t 3) (.c (.str []))))⟩, ⟨(some 5), none, (.v (.mov (.t 4)))⟩, ⟨(some 6), (some (5, true)), (.v (.mov (.t 0)))⟩, ⟨(some 7), (some (5, true)), (.v (.len true (.t 6)))⟩, ⟨(some 8), (some (5, true)), (.v (.bin .leq (.t 7) (.c (.int .i64 24))))⟩, ⟨(some 9), none, (.v (.pick (.t 5) (.t 8) (.c (.bool false))))⟩, ⟨(some 2), none, (.v (.mov (.t 9)))⟩]) .ret), [(.t 2)]⟩
theorem U_ref10_MayName : type_of% (sc_ref10_MayName.eq_1) := sc_ref10_MayName.eq_1
theorem comp_ref10_MayName : comp Tryd.prog Tryd.f88 = some sc_ref10_MayName := by kernel_rfl
/-- doorkeeper/doorkeeperlaw16.Great -/
def c_law16_Great_1 : SC := .seq (.reg [⟨(some 63), none, (.v (.faddr 0 (.t 1)))⟩, ⟨(some 64), none, (.v (.load none (.t 63)))⟩, ⟨(some 65), none, (.v (.len false (.t 64)))⟩, ⟨(some 66), none, (.v (.bin .gtr (.t 65) (.c (.int .i64 260))))⟩, ⟨(some 67), none, (.v (.mov (.t 66)))⟩, ⟨(some 68), (some (67, false)), (.v (.faddr 1 (.t 1)))⟩, ⟨(some 69), (some (67, false)), (.v (.load none (.t 68)))⟩, ⟨(some 70), (some (67, false)), (.v (.len false (.t 69)))⟩, ⟨(some 71), (some (67, false)), (.v (.bin .gtr (.t 70) (.c (.int .i64 500))))⟩, ⟨(some 72), none, (.v (.pick (.t 67) (.c (.bool true)) (.t 71)))⟩, ⟨(some 2), none, (.v (.mov (.t 72)))⟩]) .ret
def c_law16_Great_2 : SC := .seq (.block 3 (.seq (.reg [⟨(some 45), none, (.v (.faddr 1 (.t 1)))⟩, ⟨(some 46), none, (.v (.load none (.t 45)))⟩, ⟨(some 47), none, (.v (.mov (.t 4)))⟩, ⟨(some 48), none, (.v (.iaddr 6 (.t 46) (.t 47)))⟩, ⟨(some 49), none, (.v (.faddr 1 (.t 48)))⟩, ⟨(some 50), none, (.v (.load none (.t 49)))⟩, ⟨(some 51), none, (.v (.len true (.t 50)))⟩, ⟨(some 52), none, (.v (.bin .gtr (.t 51) (.c (.int .i64 100))))⟩, ⟨(some 53), none, (.v (.mov (.t 52)))⟩, ⟨(some 54), (some (53, false)), (.v (.faddr 1 (.t 1)))⟩, ⟨(some 55), (some (53, false)), (.v (.load none (.t 54)))⟩, ⟨(some 56), (some (53, false)), (.v (.mov (.t 4)))⟩, ⟨(some 57), (some (53, false)), (.v (.iaddr 6 (.t 55) (.t 56)))⟩, ⟨(some 58), (some (53, false)), (.v (.faddr 2 (.t 57)))⟩, ⟨(some 59), (some (53, false)), (.v (.load none (.t 58)))⟩, ⟨(some 60), (some (53, false)), (.v (.len true (.t 59)))⟩, ⟨(some 61), (some (53, false)), (.v (.bin .gtr (.t 60) (.c (.int .i64 100))))⟩, ⟨(some 62), none, (.v (.pick (.t 53) (.c (.bool true)) (.t 61)))⟩]) (.cond (.t 62) (.seq (.reg [⟨(some 2), none, (.v (.mov (.c (.bool true))))⟩]) .ret) .skip))) (.reg [⟨(some 43), none, (.v (.mov (.t 4)))⟩, ⟨(some 44), none, (.v (.bin .add (.t 43) (.c (.int .i64 1))))⟩, ⟨(some 4), none, (.v (.mov (.t 44)))⟩])
def b_law16_Great_1 : SC := .seq (.seq (.reg [⟨(some 34), none, (.v (.mov (.t 4)))⟩, ⟨(some 35), none, (.v (.faddr 1 (.t 1)))⟩, ⟨(some 36), none, (.v (.load none (.t 35)))⟩, ⟨(some 37), none, (.v (.len false (.t 36)))⟩, ⟨(some 38), none, (.v (.bin .lss (.t 34) (.t 37)))⟩, ⟨(some 39), none, (.v (.mov (.t 38)))⟩, ⟨(some 40), (some (39, true)), (.v (.mov (.t 4)))⟩, ⟨(some 41), (some (39, true)), (.v (.bin .lss (.t 40) (.c (.int .i64 600))))⟩, ⟨(some 42), none, (.v (.pick (.t 39) (.t 41) (.c (.bool false))))⟩]) (.cond (.t 42) .skip (.exit 2))) c_law16_Great_2
def c_law16_Great_3 : SC := .block 2 (.loop b_law16_Great_1)
def c_law16_Great_4 : SC := .seq (.seq (.reg [⟨(some 4), none, (.v (.mov (.c (.int .i64 0))))⟩]) c_law16_Great_3) c_law16_Great_1
def c_law16_Great_5 : SC := .seq (.block 1 (.seq (.reg [⟨(some 16), none, (.v (.faddr 0 (.t 1)))⟩, ⟨(some 17), none, (.v (.load none (.t 16)))⟩, ⟨(some 18), none, (.v (.mov (.t 3)))⟩, ⟨(some 19), none, (.v (.iaddr 6 (.t 17) (.t 18)))⟩, ⟨(some 20), none, (.v (.faddr 0 (.t 19)))⟩, ⟨(some 21), none, (.v (.load none (.t 20)))⟩, ⟨(some 22), none, (.v (.len true (.t 21)))⟩, ⟨(some 23), none, (.v (.bin .gtr (.t 22) (.c (.int .i64 100))))⟩, ⟨(some 24), none, (.v (.mov (.t 23)))⟩, ⟨(some 25), (some (24, false)), (.v (.faddr 0 (.t 1)))⟩, ⟨(some 26), (some (24, false)), (.v (.load none (.t 25)))⟩, ⟨(some 27), (some (24, false)), (.v (.mov (.t 3)))⟩, ⟨(some 28), (some (24, false)), (.v (.iaddr 6 (.t 26) (.t 27)))⟩, ⟨(some 29), (some (24, false)), (.v (.faddr 1 (.t 28)))⟩, ⟨(some 30), (some (24, false)), (.v (.load none (.t 29)))⟩, ⟨(some 31), (some (24, false)), (.v (.len true (.t 30)))⟩, ⟨(some 32), (some (24, false)), (.v (.bin .gtr (.t 31) (.c (.int .i64 100))))⟩, ⟨(some 33), none, (.v (.pick (.t 24) (.c (.bool true)) (.t 32)))⟩]) (.cond (.t 33) (.seq (.reg [⟨(some 2), none, (.v (.mov (.c (.bool true))))⟩]) .ret) .skip))) (.reg [⟨(some 14), none, (.v (.mov (.t 3)))⟩, ⟨(some 15), none, (.v (.bin .add (.t 14) (.c (.int .i64 1))))⟩, ⟨(some 3), none, (.v (.mov (.t 15)))⟩])
def b_law16_Great_2 : SC := .seq (.seq (.reg [⟨(some 5), none, (.v (.mov (.t 3)))⟩, ⟨(some 6), none, (.v (.faddr 0 (.t 1)))⟩, ⟨(some 7), none, (.v (.load none (.t 6)))⟩, ⟨(some 8), none, (.v (.len false (.t 7)))⟩, ⟨(some 9), none, (.v (.bin .lss (.t 5) (.t 8)))⟩, ⟨(some 10), none, (.v (.mov (.t 9)))⟩, ⟨(some 11), (some (10, true)), (.v (.mov (.t 3)))⟩, ⟨(some 12), (some (10, true)), (.v (.bin .lss (.t 11) (.c (.int .i64 300))))⟩, ⟨(some 13), none, (.v (.pick (.t 10) (.t 12) (.c (.bool false))))⟩]) (.cond (.t 13) .skip (.exit 0))) c_law16_Great_5
def c_law16_Great_6 : SC := .block 0 (.loop b_law16_Great_2)
def c_law16_Great_7 : SC := .seq (.seq (.reg [⟨(some 3), none, (.v (.mov (.c (.int .i64 0))))⟩]) c_law16_Great_6) c_law16_Great_4
def sc_law16_Great : SFunc := ⟨1, 73, .seq (.reg [⟨(some 1), none, (.box (.t 0))⟩, ⟨(some 2), none, (.v (.mov (.c (.bool false))))⟩]) c_law16_Great_7, [(.t 2)]⟩
noncomputable def k_law16_Great_1 (SP : Prg) (x : EO) : CO := fin [(.t 2)] (thC SP (inBlk 2 (x)) c_law16_Great_1)
noncomputable def k_law16_Great_2 (SP : Prg) (x : EO) : CO := fin [(.t 2)] (thC SP (inBlk 0 (x)) c_law16_Great_4)
theorem U_law16_Great : type_of% (And.intro (fun (SP : Prg) (ac : Ac) => congrFun (congrArg (E SP) c_law16_Great_1.eq_1) ac) <| And.intro (fun (SP : Prg) (ac : Ac) => congrFun (congrArg (E SP) c_law16_Great_2.eq_1) ac) <| And.intro (fun (SP : Prg) (ac : Ac) => congrFun (congrArg (E SP) b_law16_Great_1.eq_1) ac) <| And.intro (fun (SP : Prg) (ac : Ac) => congrFun (congrArg (E SP) c_law16_Great_3.eq_1) ac) <| And.intro (fun (SP : Prg) (ac : Ac) => congrFun (congrArg (E SP) c_law16_Great_4.eq_1) ac) <| And.intro (fun (SP : Prg) (ac : Ac) => congrFun (congrArg (E SP) c_law16_Great_5.eq_1) ac) <| And.intro (fun (SP : Prg) (ac : Ac) => congrFun (congrArg (E SP) b_law16_Great_2.eq_1) ac) <| And.intro (fun (SP : Prg) (ac : Ac) => congrFun (congrArg (E SP) c_law16_Great_6.eq_1) ac) <| And.intro (fun (SP : Prg) (ac : Ac) => congrFun (congrArg (E SP) c_law16_Great_7.eq_1) ac) <| sc_law16_Great.eq_1) := And.intro (fun (SP : Prg) (ac : Ac) => congrFun (congrArg (E SP) c_law16_Great_1.eq_1) ac) <| And.intro (fun (SP : Prg) (ac : Ac) => congrFun (congrArg (E SP) c_law16_Great_2.eq_1) ac) <| And.intro (fun (SP : Prg) (ac : Ac) => congrFun (congrArg (E SP) b_law16_Great_1.eq_1) ac) <| And.intro (fun (SP : Prg) (ac : Ac) => congrFun (congrArg (E SP) c_law16_Great_3.eq_1) ac) <| And.intro (fun (SP : Prg) (ac : Ac) => congrFun (congrArg (E SP) c_law16_Great_4.eq_1) ac) <| And.intro (fun (SP : Prg) (ac : Ac) => congrFun (congrArg (E SP) c_law16_Great_5.eq_1) ac) <| And.intro (fun (SP : Prg) (ac : Ac) => congrFun (congrArg (E SP) b_law16_Great_2.eq_1) ac) <| And.intro (fun (SP : Prg) (ac : Ac) => congrFun (congrArg (E SP) c_law16_Great_6.eq_1) ac) <| And.intro (fun (SP : Prg) (ac : Ac) => congrFun (congrArg (E SP) c_law16_Great_7.eq_1) ac) <| sc_law16_Great.eq_1
theorem comp_law16_Great : comp Tryd.prog Tryd.f46 = some sc_law16_Great := by kernel_rfl
/-- doorkeeper/doorkeeperlaw12.Great -/
def c_law12_Great_1 : SC := .seq (.reg [⟨(some 30), none, (.v (.mov (.t 0)))⟩, ⟨(some 31), none, (.v (.len false (.t 30)))⟩, ⟨(some 32), none, (.v (.bin .gtr (.t 31) (.c (.int .i64 130))))⟩, ⟨(some 2), none, (.v (.mov (.t 32)))⟩]) .ret
def c_law12_Great_2 : SC := .seq (.block 1 (.seq (.reg [⟨(some 14), none, (.v (.mov (.t 0)))⟩, ⟨(some 15), none, (.v (.mov (.t 3)))⟩, ⟨(some 16), none, (.v (.iaddr 12 (.t 14) (.t 15)))⟩, ⟨(some 17), none, (.v (.faddr 0 (.t 16)))⟩, ⟨(some 18), none, (.v (.load none (.t 17)))⟩, ⟨(some 19), none, (.v (.len true (.t 18)))⟩, ⟨(some 20), none, (.v (.bin .gtr (.t 19) (.c (.int .i64 100))))⟩, ⟨(some 21), none, (.v (.mov (.t 20)))⟩, ⟨(some 22), (some (21, false)), (.v (.mov (.t 0)))⟩, ⟨(some 23), (some (21, false)), (.v (.mov (.t 3)))⟩, ⟨(some 24), (some (21, false)), (.v (.iaddr 12 (.t 22) (.t 23)))⟩, ⟨(some 25), (some (21, false)), (.v (.faddr 1 (.t 24)))⟩, ⟨(some 26), (some (21, false)), (.v (.load none (.t 25)))⟩, ⟨(some 27), (some (21, false)), (.v (.len true (.t 26)))⟩, ⟨(some 28), (some (21, false)), (.v (.bin .gtr (.t 27) (.c (.int .i64 100))))⟩, ⟨(some 29), none, (.v (.pick (.t 21) (.c (.bool true)) (.t 28)))⟩]) (.cond (.t 29) (.seq (.reg [⟨(some 2), none, (.v (.mov (.c (.bool true))))⟩]) .ret) .skip))) (.reg [⟨(some 12), none, (.v (.mov (.t 3)))⟩, ⟨(some 13), none, (.v (.bin .add (.t 12) (.c (.int .i64 1))))⟩, ⟨(some 3), none, (.v (.mov (.t 13)))⟩])
def b_law12_Great_1 : SC := .seq (.seq (.reg [⟨(some 4), none, (.v (.mov (.t 3)))⟩, ⟨(some 5), none, (.v (.mov (.t 0)))⟩, ⟨(some 6), none, (.v (.len false (.t 5)))⟩, ⟨(some 7), none, (.v (.bin .lss (.t 4) (.t 6)))⟩, ⟨(some 8), none, (.v (.mov (.t 7)))⟩, ⟨(some 9), (some (8, true)), (.v (.mov (.t 3)))⟩, ⟨(some 10), (some (8, true)), (.v (.bin .lss (.t 9) (.c (.int .i64 150))))⟩, ⟨(some 11), none, (.v (.pick (.t 8) (.t 10) (.c (.bool false))))⟩]) (.cond (.t 11) .skip (.exit 0))) c_law12_Great_2
def c_law12_Great_3 : SC := .block 0 (.loop b_law12_Great_1)
def c_law12_Great_4 : SC := .seq (.seq (.reg [⟨(some 3), none, (.v (.mov (.c (.int .i64 0))))⟩]) c_law12_Great_3) c_law12_Great_1
def sc_law12_Great : SFunc := ⟨1, 33, .seq (.reg [⟨(some 2), none, (.v (.mov (.c (.bool false))))⟩]) c_law12_Great_4, [(.t 2)]⟩
noncomputable def k_law12_Great_1 (SP : Prg) (x : EO) : CO := fin [(.t 2)] (thC SP (inBlk 0 (x)) c_law12_Great_1)
theorem U_law12_Great : type_of% (And.intro (fun (SP : Prg) (ac : Ac) => congrFun (congrArg (E SP) c_law12_Great_1.eq_1) ac) <| And.intro (fun (SP : Prg) (ac : Ac) => congrFun (congrArg (E SP) c_law12_Great_2.eq_1) ac) <| And.intro (fun (SP : Prg) (ac : Ac) => congrFun (congrArg (E SP) b_law12_Great_1.eq_1) ac) <| And.intro (fun (SP : Prg) (ac : Ac) => congrFun (congrArg (E SP) c_law12_Great_3.eq_1) ac) <| And.intro (fun (SP : Prg) (ac : Ac) => congrFun (congrArg (E SP) c_law12_Great_4.eq_1) ac) <| sc_law12_Great.eq_1) := And.intro (fun (SP : Prg) (ac : Ac) => congrFun (congrArg (E SP) c_law12_Great_1.eq_1) ac) <| And.intro (fun (SP : Prg) (ac : Ac) => congrFun (congrArg (E SP) c_law12_Great_2.eq_1) ac) <| And.intro (fun (SP : Prg) (ac : Ac) => congrFun (congrArg (E SP) b_law12_Great_1.eq_1) ac) <| And.intro (fun (SP : Prg) (ac : Ac) => congrFun (congrArg (E SP) c_law12_Great_3.eq_1) ac) <| And.intro (fun (SP : Prg) (ac : Ac) => congrFun (congrArg (E SP) c_law12_Great_4.eq_1) ac) <| sc_law12_Great.eq_1
theorem comp_law12_Great : comp Tryd.prog Tryd.f47 = some sc_law12_Great := by kernel_rfl
/-- doorkeeper/doorkeeperlaw26.awake -/
def sc_law26_awake : SFunc := ⟨0, 9, .seq (.reg [⟨(some 0), none, (.v (.mov (.c (.bool false))))⟩]) (.seq (.reg [⟨(some 1), none, (.call (.c (.func 54 [])) [(.c (.nils 12)), (.c (.nils 6))])⟩, ⟨(some 2), none, (.v (.bin .eql (.t 1) (.c (.str []))))⟩, ⟨(some 3), none, (.v (.mov (.t 2)))⟩, ⟨(some 4), (some (3, true)), (.v (.build [(.int .i64 0), (.str []), (.str []), (.int .i64 0), (.int .i64 0), (.int .i64 0)] [(0, 1, (.c (.int .i64 4))), (1, 1, (.c (.str [97])))]))⟩, ⟨(some 5), (some (3, true)), (.bslice 6 1 [(.int .i64 0), (.str []), (.str []), (.int .i64 0), (.int .i64 0), (.int .i64 0)] [(0, (.t 4))])⟩, ⟨(some 6), (some (3, true)), (.call (.c (.func 49 [])) [(.t 5)])⟩, ⟨(some 7), (some (3, true)), (.v (.bin .eql (.t 6) (.c (.str [49, 46, 32, 100, 101, 108, 101, 116, 101, 32, 97, 10]))))⟩, ⟨(some 8), none, (.v (.pick (.t 3) (.t 7) (.c (.bool false))))⟩, ⟨(some 0), none, (.v (.mov (.t 8)))⟩]) .ret), [(.t 0)]⟩
theorem U_law26_awake : type_of% (sc_law26_awake.eq_1) := sc_law26_awake.eq_1
theorem comp_law26_awake : comp Tryd.prog Tryd.f48 = some sc_law26_awake := by kernel_rfl
/-- doorkeeper/doorkeeperlaw26.ReportAll -/
def c_law26_ReportAll_1 : SC := .seq (.reg [⟨(some 37), none, (.v (.mov (.t 1)))⟩, ⟨(some 38), none, (.call (.c (.func 53 [])) [(.t 37)])⟩, ⟨(some 39), none, (.v (.un .not (.t 38)))⟩, ⟨(some 40), none, (.v (.mov (.t 39)))⟩, ⟨(some 41), (some (40, false)), (.v (.mov (.t 1)))⟩, ⟨(some 42), (some (40, false)), (.v (.mov (.t 2)))⟩, ⟨(some 43), (some (40, false)), (.call (.c (.func 54 [])) [(.t 41), (.t 42)])⟩, ⟨(some 44), (some (40, false)), (.v (.mov (.t 1)))⟩, ⟨(some 45), (some (40, false)), (.v (.mov (.t 2)))⟩, ⟨(some 46), (some (40, false)), (.call (.c (.func 55 [])) [(.t 44), (.t 45)])⟩, ⟨(some 47), (some (40, false)), (.v (.bin .eql (.t 43) (.t 46)))⟩, ⟨(some 48), (some (40, false)), (.v (.mov (.t 47)))⟩, ⟨(some 49), (some (48, true)), (.call (.c (.func 48 [])) [])⟩, ⟨(some 50), (some (40, false)), (.v (.pick (.t 48) (.t 49) (.c (.bool false))))⟩, ⟨(some 51), none, (.v (.pick (.t 40) (.c (.bool true)) (.t 50)))⟩, ⟨(some 6), none, (.v (.mov (.t 51)))⟩]) .ret
def c_law26_ReportAll_2 : SC := .cond (.t 36) (.seq (.reg [⟨(some 6), none, (.v (.mov (.c (.bool false))))⟩]) .ret) .skip
def c_law26_ReportAll_3 : SC := .seq (.seq (.dreg [⟨(some 16), none, (.v (.mov (.t 0)))⟩, ⟨(some 17), none, (.call (.c (.func 49 [])) [(.t 16)])⟩, ⟨(some 18), none, (.v (.mov (.t 0)))⟩, ⟨(some 19), none, (.call (.c (.func 50 [])) [(.t 18)])⟩, ⟨(some 20), none, (.v (.bin .neq (.t 17) (.t 19)))⟩, ⟨(some 21), none, (.v (.mov (.t 20)))⟩, ⟨(some 22), (some (21, false)), (.v (.mov (.t 0)))⟩, ⟨(some 23), (some (21, false)), (.v (.len false (.t 22)))⟩, ⟨(some 24), (some (21, false)), (.v (.bin .gtr (.t 23) (.c (.int .i64 0))))⟩, ⟨(some 25), (some (21, false)), (.v (.mov (.t 24)))⟩, ⟨(some 26), (some (25, true)), (.v (.mov (.t 0)))⟩, ⟨(some 27), (some (25, true)), (.v (.iaddr 6 (.t 26) (.c (.int .i64 0))))⟩, ⟨(some 28), (some (25, true)), (.v (.load (some 6) (.t 27)))⟩, ⟨(some 29), (some (25, true)), (.call (.c (.func 51 [])) [(.t 28)])⟩, ⟨(some 30), (some (25, true)), (.v (.mov (.t 0)))⟩, ⟨(some 31), (some (25, true)), (.v (.iaddr 6 (.t 30) (.c (.int .i64 0))))⟩, ⟨(some 32), (some (25, true)), (.v (.load (some 6) (.t 31)))⟩, ⟨(some 33), (some (25, true)), (.call (.c (.func 52 [])) [(.t 32)])⟩, ⟨(some 34), (some (25, true)), (.v (.bin .neq (.t 29) (.t 33)))⟩, ⟨(some 35), (some (21, false)), (.v (.pick (.t 25) (.t 34) (.c (.bool false))))⟩, ⟨(some 36), none, (.v (.pick (.t 21) (.c (.bool true)) (.t 35)))⟩] [true, true, false, true, true, true, true, true, true, true, false, false, false, false, false, false, false, true, true, true, true]) c_law26_ReportAll_2) c_law26_ReportAll_1
def c_law26_ReportAll_4 : SC := .seq (.seq (.reg [⟨(some 7), none, (.v (.mov (.t 2)))⟩, ⟨(some 8), none, (.v (.mov (.t 0)))⟩, ⟨(some 9), none, (.v (.build [(.nils 6), (.nils 6), (.int .i64 0)] [(0, 1, (.t 7)), (1, 1, (.t 8))]))⟩, ⟨(some 10), none, (.call (.c (.func 46 [])) [(.t 9)])⟩, ⟨(some 11), none, (.v (.mov (.t 10)))⟩, ⟨(some 12), (some (11, false)), (.v (.mov (.t 1)))⟩, ⟨(some 13), (some (11, false)), (.call (.c (.func 47 [])) [(.t 12)])⟩, ⟨(some 14), none, (.v (.pick (.t 11) (.c (.bool true)) (.t 13)))⟩]) (.cond (.t 14) (.seq (.reg [⟨(some 15), none, (.call (.c (.func 48 [])) [])⟩, ⟨(some 6), none, (.v (.mov (.t 15)))⟩]) .ret) .skip)) c_law26_ReportAll_3
def sc_law26_ReportAll : SFunc := ⟨3, 52, .seq (.reg [⟨(some 6), none, (.v (.mov (.c (.bool false))))⟩]) c_law26_ReportAll_4, [(.t 6)]⟩
theorem U_law26_ReportAll : type_of% (And.intro (fun (SP : Prg) (ac : Ac) => congrFun (congrArg (E SP) c_law26_ReportAll_1.eq_1) ac) <| And.intro (fun (SP : Prg) (ac : Ac) => congrFun (congrArg (E SP) c_law26_ReportAll_2.eq_1) ac) <| And.intro (fun (SP : Prg) (ac : Ac) => congrFun (congrArg (E SP) c_law26_ReportAll_3.eq_1) ac) <| And.intro (fun (SP : Prg) (ac : Ac) => congrFun (congrArg (E SP) c_law26_ReportAll_4.eq_1) ac) <| sc_law26_ReportAll.eq_1) := And.intro (fun (SP : Prg) (ac : Ac) => congrFun (congrArg (E SP) c_law26_ReportAll_1.eq_1) ac) <| And.intro (fun (SP : Prg) (ac : Ac) => congrFun (congrArg (E SP) c_law26_ReportAll_2.eq_1) ac) <| And.intro (fun (SP : Prg) (ac : Ac) => congrFun (congrArg (E SP) c_law26_ReportAll_3.eq_1) ac) <| And.intro (fun (SP : Prg) (ac : Ac) => congrFun (congrArg (E SP) c_law26_ReportAll_4.eq_1) ac) <| sc_law26_ReportAll.eq_1
theorem comp_law26_ReportAll : comp Tryd.prog Tryd.f8 = some sc_law26_ReportAll := by kernel_rfl
end Go.Proofs.YtebflncfgjnkkaaDoor.M

/- Library functions over a function: what they yield if the function yields p. Printed by a program of this session (lift.py). -/
namespace Go.Proofs.YtebflncfgjnkkaaDoor.M
set_option linter.unusedSimpArgs false
set_option linter.unusedVariables false
open Go Classical
theorem sp_slices_IndexFunc_api_Item_api_Item : SP 112 = some (.code sc_slices_IndexFunc_api_Item_api_Item) := SPof_code rfl Tryd.func112 comp_slices_IndexFunc_api_Item_api_Item
theorem G_slices_IndexFunc_api_Item_api_Item (xs : List Item) (g : Nat) (caps : List PV) (p : Item → Bool) (S : Sto) (hl : xs.length < 9223372036854775808) (h1 : ∀ S, handA S (PV.upL caps) = some (PV.upL caps, S)) (h2 : (PV.upL caps).any PV.hasSl = false) (hc : ∀ x, x ∈ xs → ∀ f, call SP g (.agg (eItem x) :: PV.upL caps) (f :: S) = .ok (.v (.bool (p x))) (f :: S)) : call SP 112 [.list 12 (xs.map eItem) false, .func g caps] S = .ok (.v (.int .i64 (findI p 0 xs))) S := by
  have loop : ∀ (k i : Nat), i + k = xs.length → ∀ (e : Nat → PV) (f : Fr), e 0 = .list 12 (xs.map eItem) false ∧ e 1 = .func g (PV.upL caps) ∧ e 7 = .int .i64 ((xs.length : Nat) : Int) ∧ e 8 = .int .i64 ((i : Nat) : Int) → k_slices_IndexFunc_api_Item_api_Item_1 SP (E SP (.loop b_slices_IndexFunc_api_Item_api_Item_1) ⟨e, f :: S⟩) = .ok (.v (.int .i64 (findI p i (xs.drop i)))) S := by
    intro k
    induction k with
    | zero =>
      intro i hi e f h
      have hlt : ¬ (((i : Nat) : Int) < ((xs.length : Nat) : Int)) := by omega
      rw [List.drop_eq_nil_of_le (by omega)]
      unfold k_slices_IndexFunc_api_Item_api_Item_1 findI
      rw [E_loop]
      simp only [h, hlt, U_slices_IndexFunc_api_Item_api_Item, lw, le, reduceIte, reduceCtorEq, Nat.reduceEqDiff, Nat.reduceAdd, Nat.reduceLeDiff, Nat.reduceSub, Nat.reduceLT, Int.reduceEq, Int.reduceLT, Int.reduceLE, Int.reduceToNat, h1, h2]
    | succ k ih =>
      intro i hi e f h
      have hlt : (((i : Nat) : Int) < ((xs.length : Nat) : Int)) := by omega
      have hi' : i < xs.length := by omega
      have hv : xs[i]? = some xs[i] := List.getElem?_eq_getElem hi'
      have hcx := hc xs[i] (List.getElem_mem hi')
      have w1 : IntKind.i64.wrap ((i : Int) + 1) = ((i + 1 : Nat) : Int) := by rw [wrap_i64 (by omega) (by omega)]; omega
      rw [List.drop_eq_getElem_cons hi']
      simp only [le] at hcx
      have hi2 := ih (i + 1) (by omega)
      unfold k_slices_IndexFunc_api_Item_api_Item_1 at hi2 ⊢
      unfold findI
      rw [E_loop]
      cases hp : p xs[i] with
      | true =>
        rw [hp] at hcx
        simp only [h, hlt, hv, hcx, w1, nat_nonneg, Int.toNat_natCast, U_slices_IndexFunc_api_Item_api_Item, lw, le, reduceIte, reduceCtorEq, Nat.reduceEqDiff, Nat.reduceAdd, Nat.reduceLeDiff, Nat.reduceSub, Nat.reduceLT, Int.reduceEq, Int.reduceLT, Int.reduceLE, Int.reduceToNat, h1, h2]
      | false =>
        rw [hp] at hcx
        simp only [h, hlt, hv, hcx, w1, nat_nonneg, Int.toNat_natCast, U_slices_IndexFunc_api_Item_api_Item, lw, le, reduceIte, reduceCtorEq, Nat.reduceEqDiff, Nat.reduceAdd, Nat.reduceLeDiff, Nat.reduceSub, Nat.reduceLT, Int.reduceEq, Int.reduceLT, Int.reduceLE, Int.reduceToNat, h1, h2]
        rw [hi2 _ _ ?_]
        simp only [h, w1, U_slices_IndexFunc_api_Item_api_Item, lw, le, reduceIte, reduceCtorEq, Nat.reduceEqDiff, Nat.reduceAdd, Nat.reduceLeDiff, Nat.reduceSub, Nat.reduceLT, Int.reduceEq, Int.reduceLT, Int.reduceLE, Int.reduceToNat, h1, h2]
  rw [call_code sp_slices_IndexFunc_api_Item_api_Item _ _ rfl]
  simp only [U_slices_IndexFunc_api_Item_api_Item, lw, le, reduceIte, reduceCtorEq, Nat.reduceEqDiff, Nat.reduceAdd, Nat.reduceLeDiff, Nat.reduceSub, Nat.reduceLT, Int.reduceEq, Int.reduceLT, Int.reduceLE, Int.reduceToNat, h1, h2]
  have := loop xs.length 0 (by omega)
  unfold k_slices_IndexFunc_api_Item_api_Item_1 at this
  rw [this _ _ ?_]
  · rw [List.drop_zero]
  · simp only [U_slices_IndexFunc_api_Item_api_Item, lw, le, reduceIte, reduceCtorEq, Nat.reduceEqDiff, Nat.reduceAdd, Nat.reduceLeDiff, Nat.reduceSub, Nat.reduceLT, Int.reduceEq, Int.reduceLT, Int.reduceLE, Int.reduceToNat, h1, h2]
    simp
theorem sp_slices_IndexFunc_api_Mark_api_Mark : SP 117 = some (.code sc_slices_IndexFunc_api_Mark_api_Mark) := SPof_code rfl Tryd.func117 comp_slices_IndexFunc_api_Mark_api_Mark
theorem G_slices_IndexFunc_api_Mark_api_Mark (xs : List Mark) (g : Nat) (caps : List PV) (p : Mark → Bool) (S : Sto) (hl : xs.length < 9223372036854775808) (h1 : ∀ S, handA S (PV.upL caps) = some (PV.upL caps, S)) (h2 : (PV.upL caps).any PV.hasSl = false) (hc : ∀ x, x ∈ xs → ∀ f, call SP g (.agg (eMark x) :: PV.upL caps) (f :: S) = .ok (.v (.bool (p x))) (f :: S)) : call SP 117 [.list 6 (xs.map eMark) false, .func g caps] S = .ok (.v (.int .i64 (findI p 0 xs))) S := by
  have loop : ∀ (k i : Nat), i + k = xs.length → ∀ (e : Nat → PV) (f : Fr), e 0 = .list 6 (xs.map eMark) false ∧ e 1 = .func g (PV.upL caps) ∧ e 7 = .int .i64 ((xs.length : Nat) : Int) ∧ e 8 = .int .i64 ((i : Nat) : Int) → k_slices_IndexFunc_api_Mark_api_Mark_1 SP (E SP (.loop b_slices_IndexFunc_api_Mark_api_Mark_1) ⟨e, f :: S⟩) = .ok (.v (.int .i64 (findI p i (xs.drop i)))) S := by
    intro k
    induction k with
    | zero =>
      intro i hi e f h
      have hlt : ¬ (((i : Nat) : Int) < ((xs.length : Nat) : Int)) := by omega
      rw [List.drop_eq_nil_of_le (by omega)]
      unfold k_slices_IndexFunc_api_Mark_api_Mark_1 findI
      rw [E_loop]
      simp only [h, hlt, U_slices_IndexFunc_api_Mark_api_Mark, lw, le, reduceIte, reduceCtorEq, Nat.reduceEqDiff, Nat.reduceAdd, Nat.reduceLeDiff, Nat.reduceSub, Nat.reduceLT, Int.reduceEq, Int.reduceLT, Int.reduceLE, Int.reduceToNat, h1, h2]
    | succ k ih =>
      intro i hi e f h
      have hlt : (((i : Nat) : Int) < ((xs.length : Nat) : Int)) := by omega
      have hi' : i < xs.length := by omega
      have hv : xs[i]? = some xs[i] := List.getElem?_eq_getElem hi'
      have hcx := hc xs[i] (List.getElem_mem hi')
      have w1 : IntKind.i64.wrap ((i : Int) + 1) = ((i + 1 : Nat) : Int) := by rw [wrap_i64 (by omega) (by omega)]; omega
      rw [List.drop_eq_getElem_cons hi']
      simp only [le] at hcx
      have hi2 := ih (i + 1) (by omega)
      unfold k_slices_IndexFunc_api_Mark_api_Mark_1 at hi2 ⊢
      unfold findI
      rw [E_loop]
      cases hp : p xs[i] with
      | true =>
        rw [hp] at hcx
        simp only [h, hlt, hv, hcx, w1, nat_nonneg, Int.toNat_natCast, U_slices_IndexFunc_api_Mark_api_Mark, lw, le, reduceIte, reduceCtorEq, Nat.reduceEqDiff, Nat.reduceAdd, Nat.reduceLeDiff, Nat.reduceSub, Nat.reduceLT, Int.reduceEq, Int.reduceLT, Int.reduceLE, Int.reduceToNat, h1, h2]
      | false =>
        rw [hp] at hcx
        simp only [h, hlt, hv, hcx, w1, nat_nonneg, Int.toNat_natCast, U_slices_IndexFunc_api_Mark_api_Mark, lw, le, reduceIte, reduceCtorEq, Nat.reduceEqDiff, Nat.reduceAdd, Nat.reduceLeDiff, Nat.reduceSub, Nat.reduceLT, Int.reduceEq, Int.reduceLT, Int.reduceLE, Int.reduceToNat, h1, h2]
        rw [hi2 _ _ ?_]
        simp only [h, w1, U_slices_IndexFunc_api_Mark_api_Mark, lw, le, reduceIte, reduceCtorEq, Nat.reduceEqDiff, Nat.reduceAdd, Nat.reduceLeDiff, Nat.reduceSub, Nat.reduceLT, Int.reduceEq, Int.reduceLT, Int.reduceLE, Int.reduceToNat, h1, h2]
  rw [call_code sp_slices_IndexFunc_api_Mark_api_Mark _ _ rfl]
  simp only [U_slices_IndexFunc_api_Mark_api_Mark, lw, le, reduceIte, reduceCtorEq, Nat.reduceEqDiff, Nat.reduceAdd, Nat.reduceLeDiff, Nat.reduceSub, Nat.reduceLT, Int.reduceEq, Int.reduceLT, Int.reduceLE, Int.reduceToNat, h1, h2]
  have := loop xs.length 0 (by omega)
  unfold k_slices_IndexFunc_api_Mark_api_Mark_1 at this
  rw [this _ _ ?_]
  · rw [List.drop_zero]
  · simp only [U_slices_IndexFunc_api_Mark_api_Mark, lw, le, reduceIte, reduceCtorEq, Nat.reduceEqDiff, Nat.reduceAdd, Nat.reduceLeDiff, Nat.reduceSub, Nat.reduceLT, Int.reduceEq, Int.reduceLT, Int.reduceLE, Int.reduceToNat, h1, h2]
    simp
theorem sp_slices_ContainsFunc_api_Mark_api_Mark : SP 102 = some (.code sc_slices_ContainsFunc_api_Mark_api_Mark) := SPof_code rfl Tryd.func102 comp_slices_ContainsFunc_api_Mark_api_Mark
theorem G_slices_ContainsFunc_api_Mark_api_Mark (xs : List Mark) (g : Nat) (caps : List PV) (p : Mark → Bool) (S : Sto) (hl : xs.length < 9223372036854775808) (h1 : ∀ S, handA S (PV.upL caps) = some (PV.upL caps, S)) (h2 : (PV.upL caps).any PV.hasSl = false) (h1' : ∀ S, handA S (PV.upL (PV.upL caps)) = some (PV.upL (PV.upL caps), S)) (h2' : (PV.upL (PV.upL caps)).any PV.hasSl = false) (hc : ∀ x, x ∈ xs → ∀ f f', call SP g (.agg (eMark x) :: PV.upL (PV.upL caps)) (f :: f' :: S) = .ok (.v (.bool (p x))) (f :: f' :: S)) : call SP 102 [.list 6 (xs.map eMark) false, .func g caps] S = .ok (.v (.bool (xs.any p))) S := by
  have ix := fun f' => G_slices_IndexFunc_api_Mark_api_Mark xs g (PV.upL caps) p (f' :: S) hl h1' h2' fun x hx f => hc x hx f f'
  have hd := findI_dec p xs
  rw [call_code sp_slices_ContainsFunc_api_Mark_api_Mark _ _ rfl]
  simp only [ix, hd, U_slices_ContainsFunc_api_Mark_api_Mark, lw, le, reduceIte, reduceCtorEq, Nat.reduceEqDiff, Nat.reduceAdd, Nat.reduceLeDiff, Nat.reduceSub, Nat.reduceLT, Int.reduceEq, Int.reduceLT, Int.reduceLE, Int.reduceToNat, h1, h2]
end Go.Proofs.YtebflncfgjnkkaaDoor.M
