/- Parts of a proof, one behind another: Lt1, Wv1, Wv2, Wv3, Lt2, Wv4, Wv5. -/
import Derived.Test.YtebflncfgjnkkaaDoorZValJoin3
import Derived.Lib.ItoaLen
/- Trees of functions, printed by a program of this session (lift.py): what a run asks, over plain data. Lean proves each. -/
namespace Go.Proofs.YtebflncfgjnkkaaDoor.M
set_option linter.unusedSimpArgs false
set_option linter.unusedVariables false
open Go Classical
theorem sp_val_deep : SP 71 = some (.code sc_val_deep) := SPof_code rfl Tryd.func71 comp_val_deep
/-! doorkeeper/val.deep -/
def At_val_deep_1 (l_ : List V) (i1 : Int) (i2 : Int) (r : Int) : Prop := ∀ (S : Sto) (e : Nat → PV) (f : Fr), e 3 = .int .i64 i1 ∧ e 6 = .list 4 (encL l_) false ∧ e 7 = .int .i64 ((l_.length : Nat) : Int) ∧ e 8 = .int .i64 i2 → k_val_deep_1 SP (E SP (.loop b_val_deep_1) ⟨e, f :: S⟩) = .ok (.v (.int .i64 r)) S
set_option maxHeartbeats 4000000 in
theorem At_val_deep_1_step (l_ : List V) (i1 : Int) (i2 : Int) (r : Int) (T :
  ((i2 < ((l_.length : Nat) : Int)) →
  (0 ≤ i2) ∧
  ∃ (v3 : V), (l_[i2.toNat]? = some v3) ∧
  ((v3.k = 4) →
   ∃ (r4 : Int), (R_val_deep v3.l r4) ∧
   (I64 (1 + r4)) ∧
   (I64 (i2 + 1)) ∧
   At_val_deep_1 l_ (if i1 < (1 + r4) then (1 + r4) else i1) (i2 + 1) r) ∧
  (¬ (v3.k = 4) →
   (I64 (i2 + 1)) ∧
   At_val_deep_1 l_ i1 (i2 + 1) r)) ∧
 (¬ (i2 < ((l_.length : Nat) : Int)) →
  i1 = r)) : At_val_deep_1 l_ i1 i2 r := by
 intro S e f h
 unfold k_val_deep_1
 rw [E_loop]
 by_cases c1 : i2 < ((l_.length : Nat) : Int)
 · replace T := T.1 c1
   obtain ⟨p2, v3, q3, T⟩ := T
   by_cases c4 : v3.k = 4
   · replace T := T.1 c4
     obtain ⟨r4, q5, p6, p7, T⟩ := T
     simp only [R_val_deep, le] at q5
     try simp only [h, eq_true c1, p2, q3, eq_true c4, q5, p6.wrap, p7.wrap, U_val_deep, lw, le, reduceIte, reduceCtorEq, Nat.reduceEqDiff, Nat.reduceAdd, Nat.reduceLeDiff, Nat.reduceSub, Nat.reduceLT, Int.reduceEq, Int.reduceLT, Int.reduceLE, Int.reduceToNat]
     refine T S _ _ ?_
     simp only [h, eq_true c1, p2, q3, eq_true c4, q5, p6.wrap, p7.wrap, U_val_deep, lw, le, reduceIte, reduceCtorEq, Nat.reduceEqDiff, Nat.reduceAdd, Nat.reduceLeDiff, Nat.reduceSub, Nat.reduceLT, Int.reduceEq, Int.reduceLT, Int.reduceLE, Int.reduceToNat]
   · replace T := T.2 c4
     obtain ⟨p8, T⟩ := T
     try simp only [h, eq_true c1, p2, q3, eq_false c4, p8.wrap, U_val_deep, lw, le, reduceIte, reduceCtorEq, Nat.reduceEqDiff, Nat.reduceAdd, Nat.reduceLeDiff, Nat.reduceSub, Nat.reduceLT, Int.reduceEq, Int.reduceLT, Int.reduceLE, Int.reduceToNat]
     refine T S _ _ ?_
     simp only [h, eq_true c1, p2, q3, eq_false c4, p8.wrap, U_val_deep, lw, le, reduceIte, reduceCtorEq, Nat.reduceEqDiff, Nat.reduceAdd, Nat.reduceLeDiff, Nat.reduceSub, Nat.reduceLT, Int.reduceEq, Int.reduceLT, Int.reduceLE, Int.reduceToNat]
 · replace T := T.2 c1
   obtain rfl := T
   simp only [h, eq_false c1, U_val_deep, lw, le, reduceIte, reduceCtorEq, Nat.reduceEqDiff, Nat.reduceAdd, Nat.reduceLeDiff, Nat.reduceSub, Nat.reduceLT, Int.reduceEq, Int.reduceLT, Int.reduceLE, Int.reduceToNat]
set_option maxHeartbeats 4000000 in
theorem val_deep_tree (l_ : List V) (r : Int) (T :
  At_val_deep_1 l_ 0 0 r) : R_val_deep l_ r := by
 intro S
 rw [call_code sp_val_deep _ _ rfl]
 try simp only [U_val_deep, lw, le, reduceIte, reduceCtorEq, Nat.reduceEqDiff, Nat.reduceAdd, Nat.reduceLeDiff, Nat.reduceSub, Nat.reduceLT, Int.reduceEq, Int.reduceLT, Int.reduceLE, Int.reduceToNat]
 refine T S _ _ ?_
 simp only [U_val_deep, lw, le, reduceIte, reduceCtorEq, Nat.reduceEqDiff, Nat.reduceAdd, Nat.reduceLeDiff, Nat.reduceSub, Nat.reduceLT, Int.reduceEq, Int.reduceLT, Int.reduceLE, Int.reduceToNat]
theorem sp_val_plain : SP 70 = some (.code sc_val_plain) := SPof_code rfl Tryd.func70 comp_val_plain
/-! doorkeeper/val.plain -/
theorem H_slices_ContainsFunc_api_Val_api_Val_val_plain_1 {xs : List V}  {p : V → Bool} (hl : xs.length < 9223372036854775808) (hp : ∀ x, x ∈ xs → R_val_plain_1 x (p x)) : ∀ (S : Sto), call SP 93 [.list 4 (encL xs) false, .func 94 []] S = .ok (.v (.bool (xs.any p))) S := by
 intro S  
 refine G_slices_ContainsFunc_api_Val_api_Val xs 94 [] p S hl (by intro S; rfl) (by rfl) (by intro S; rfl) (by rfl) ?_
 intro x hx f f'
 have := hp x hx (f :: f' :: S)  
 simpa only [PV.upL, PV.up] using this
set_option maxHeartbeats 4000000 in
theorem val_plain_tree (v : V) (r : Bool) (T :
  ((v.k = 1) →
  ((v.s = []) →
   (decide (((v.l.length : Nat) : Int) = 0)) = r) ∧
  (¬ (v.s = []) →
   false = r)) ∧
 (¬ (v.k = 1) →
  ((v.k = 2) →
   ((v.n = 0) →
    ((((v.s.length : Nat) : Int) ≤ 400) →
     (decide (((v.l.length : Nat) : Int) = 0)) = r) ∧
    (¬ (((v.s.length : Nat) : Int) ≤ 400) →
     false = r)) ∧
   (¬ (v.n = 0) →
    false = r)) ∧
  (¬ (v.k = 2) →
   ((v.k = 3) →
    ((v.n = 0) →
     ((v.s = []) →
      (decide (((v.l.length : Nat) : Int) = 0)) = r) ∧
     (¬ (v.s = []) →
      false = r)) ∧
    (¬ (v.n = 0) →
     ((v.n = 1) →
      ((v.s = []) →
       (decide (((v.l.length : Nat) : Int) = 0)) = r) ∧
      (¬ (v.s = []) →
       false = r)) ∧
     (¬ (v.n = 1) →
      false = r))) ∧
   (¬ (v.k = 3) →
    ((v.k = 4) →
     ((v.n = 0) →
      ((v.s = []) →
       ((((v.l.length : Nat) : Int) ≤ 64) →
        (v.l.length < 9223372036854775808) ∧
        ∃ (p1 : V → Bool), (∀ x, x ∈ v.l → R_val_plain_1 x (p1 x)) ∧
        (!(v.l.any p1)) = r) ∧
       (¬ (((v.l.length : Nat) : Int) ≤ 64) →
        false = r)) ∧
      (¬ (v.s = []) →
       false = r)) ∧
     (¬ (v.n = 0) →
      false = r)) ∧
    (¬ (v.k = 4) →
     false = r))))) : R_val_plain v r := by
 intro S
 rw [call_code sp_val_plain _ _ rfl]
 by_cases c1 : v.k = 1
 · replace T := T.1 c1
   by_cases c2 : v.s = []
   · replace T := T.1 c2
     obtain rfl := T
     simp only [eq_true c1, eq_true c2, U_val_plain, lw, le, reduceIte, reduceCtorEq, Nat.reduceEqDiff, Nat.reduceAdd, Nat.reduceLeDiff, Nat.reduceSub, Nat.reduceLT, Int.reduceEq, Int.reduceLT, Int.reduceLE, Int.reduceToNat]
   · replace T := T.2 c2
     obtain rfl := T
     simp only [eq_true c1, eq_false c2, U_val_plain, lw, le, reduceIte, reduceCtorEq, Nat.reduceEqDiff, Nat.reduceAdd, Nat.reduceLeDiff, Nat.reduceSub, Nat.reduceLT, Int.reduceEq, Int.reduceLT, Int.reduceLE, Int.reduceToNat]
 · replace T := T.2 c1
   by_cases c3 : v.k = 2
   · replace T := T.1 c3
     by_cases c4 : v.n = 0
     · replace T := T.1 c4
       by_cases c5 : ((v.s.length : Nat) : Int) ≤ 400
       · replace T := T.1 c5
         obtain rfl := T
         simp only [eq_false c1, eq_true c3, eq_true c4, eq_true c5, U_val_plain, lw, le, reduceIte, reduceCtorEq, Nat.reduceEqDiff, Nat.reduceAdd, Nat.reduceLeDiff, Nat.reduceSub, Nat.reduceLT, Int.reduceEq, Int.reduceLT, Int.reduceLE, Int.reduceToNat]
       · replace T := T.2 c5
         obtain rfl := T
         simp only [eq_false c1, eq_true c3, eq_true c4, eq_false c5, U_val_plain, lw, le, reduceIte, reduceCtorEq, Nat.reduceEqDiff, Nat.reduceAdd, Nat.reduceLeDiff, Nat.reduceSub, Nat.reduceLT, Int.reduceEq, Int.reduceLT, Int.reduceLE, Int.reduceToNat]
     · replace T := T.2 c4
       obtain rfl := T
       simp only [eq_false c1, eq_true c3, eq_false c4, U_val_plain, lw, le, reduceIte, reduceCtorEq, Nat.reduceEqDiff, Nat.reduceAdd, Nat.reduceLeDiff, Nat.reduceSub, Nat.reduceLT, Int.reduceEq, Int.reduceLT, Int.reduceLE, Int.reduceToNat]
   · replace T := T.2 c3
     by_cases c6 : v.k = 3
     · replace T := T.1 c6
       by_cases c7 : v.n = 0
       · replace T := T.1 c7
         by_cases c8 : v.s = []
         · replace T := T.1 c8
           obtain rfl := T
           simp only [eq_false c1, eq_false c3, eq_true c6, eq_true c7, eq_true c8, U_val_plain, lw, le, reduceIte, reduceCtorEq, Nat.reduceEqDiff, Nat.reduceAdd, Nat.reduceLeDiff, Nat.reduceSub, Nat.reduceLT, Int.reduceEq, Int.reduceLT, Int.reduceLE, Int.reduceToNat]
         · replace T := T.2 c8
           obtain rfl := T
           simp only [eq_false c1, eq_false c3, eq_true c6, eq_true c7, eq_false c8, U_val_plain, lw, le, reduceIte, reduceCtorEq, Nat.reduceEqDiff, Nat.reduceAdd, Nat.reduceLeDiff, Nat.reduceSub, Nat.reduceLT, Int.reduceEq, Int.reduceLT, Int.reduceLE, Int.reduceToNat]
       · replace T := T.2 c7
         by_cases c9 : v.n = 1
         · replace T := T.1 c9
           by_cases c10 : v.s = []
           · replace T := T.1 c10
             obtain rfl := T
             simp only [eq_false c1, eq_false c3, eq_true c6, eq_false c7, eq_true c9, eq_true c10, U_val_plain, lw, le, reduceIte, reduceCtorEq, Nat.reduceEqDiff, Nat.reduceAdd, Nat.reduceLeDiff, Nat.reduceSub, Nat.reduceLT, Int.reduceEq, Int.reduceLT, Int.reduceLE, Int.reduceToNat]
           · replace T := T.2 c10
             obtain rfl := T
             simp only [eq_false c1, eq_false c3, eq_true c6, eq_false c7, eq_true c9, eq_false c10, U_val_plain, lw, le, reduceIte, reduceCtorEq, Nat.reduceEqDiff, Nat.reduceAdd, Nat.reduceLeDiff, Nat.reduceSub, Nat.reduceLT, Int.reduceEq, Int.reduceLT, Int.reduceLE, Int.reduceToNat]
         · replace T := T.2 c9
           obtain rfl := T
           simp only [eq_false c1, eq_false c3, eq_true c6, eq_false c7, eq_false c9, U_val_plain, lw, le, reduceIte, reduceCtorEq, Nat.reduceEqDiff, Nat.reduceAdd, Nat.reduceLeDiff, Nat.reduceSub, Nat.reduceLT, Int.reduceEq, Int.reduceLT, Int.reduceLE, Int.reduceToNat]
     · replace T := T.2 c6
       by_cases c11 : v.k = 4
       · replace T := T.1 c11
         by_cases c12 : v.n = 0
         · replace T := T.1 c12
           by_cases c13 : v.s = []
           · replace T := T.1 c13
             by_cases c14 : ((v.l.length : Nat) : Int) ≤ 64
             · replace T := T.1 c14
               obtain ⟨p15, p1, q16, rfl⟩ := T
               have o16 := H_slices_ContainsFunc_api_Val_api_Val_val_plain_1  p15 q16
               try simp only [le] at o16
               simp only [eq_false c1, eq_false c3, eq_false c6, eq_true c11, eq_true c12, eq_true c13, eq_true c14, p15, o16, U_val_plain, lw, le, reduceIte, reduceCtorEq, Nat.reduceEqDiff, Nat.reduceAdd, Nat.reduceLeDiff, Nat.reduceSub, Nat.reduceLT, Int.reduceEq, Int.reduceLT, Int.reduceLE, Int.reduceToNat]
             · replace T := T.2 c14
               obtain rfl := T
               simp only [eq_false c1, eq_false c3, eq_false c6, eq_true c11, eq_true c12, eq_true c13, eq_false c14, U_val_plain, lw, le, reduceIte, reduceCtorEq, Nat.reduceEqDiff, Nat.reduceAdd, Nat.reduceLeDiff, Nat.reduceSub, Nat.reduceLT, Int.reduceEq, Int.reduceLT, Int.reduceLE, Int.reduceToNat]
           · replace T := T.2 c13
             obtain rfl := T
             simp only [eq_false c1, eq_false c3, eq_false c6, eq_true c11, eq_true c12, eq_false c13, U_val_plain, lw, le, reduceIte, reduceCtorEq, Nat.reduceEqDiff, Nat.reduceAdd, Nat.reduceLeDiff, Nat.reduceSub, Nat.reduceLT, Int.reduceEq, Int.reduceLT, Int.reduceLE, Int.reduceToNat]
         · replace T := T.2 c12
           obtain rfl := T
           simp only [eq_false c1, eq_false c3, eq_false c6, eq_true c11, eq_false c12, U_val_plain, lw, le, reduceIte, reduceCtorEq, Nat.reduceEqDiff, Nat.reduceAdd, Nat.reduceLeDiff, Nat.reduceSub, Nat.reduceLT, Int.reduceEq, Int.reduceLT, Int.reduceLE, Int.reduceToNat]
       · replace T := T.2 c11
         obtain rfl := T
         simp only [eq_false c1, eq_false c3, eq_false c6, eq_false c11, U_val_plain, lw, le, reduceIte, reduceCtorEq, Nat.reduceEqDiff, Nat.reduceAdd, Nat.reduceLeDiff, Nat.reduceSub, Nat.reduceLT, Int.reduceEq, Int.reduceLT, Int.reduceLE, Int.reduceToNat]
theorem sp_val_plain_1 : SP 94 = some (.code sc_val_plain_1) := SPof_code rfl Tryd.func94 comp_val_plain_1
/-! doorkeeper/val.plain$1 -/
set_option maxHeartbeats 4000000 in
theorem val_plain_1_tree (x : V) (r : Bool) (T :
  ∃ (r1 : Bool), (R_val_plain x r1) ∧
 (!r1) = r) : R_val_plain_1 x r := by
 intro S
 rw [call_code sp_val_plain_1 _ _ rfl]
 obtain ⟨r1, q1, rfl⟩ := T
 simp only [R_val_plain, le] at q1
 simp only [q1, U_val_plain_1, lw, le, reduceIte, reduceCtorEq, Nat.reduceEqDiff, Nat.reduceAdd, Nat.reduceLeDiff, Nat.reduceSub, Nat.reduceLT, Int.reduceEq, Int.reduceLT, Int.reduceLE, Int.reduceToNat]
theorem sp_val_May : SP 29 = some (.code sc_val_May) := SPof_code rfl Tryd.func29 comp_val_May
/-! doorkeeper/val.May -/
set_option maxHeartbeats 4000000 in
theorem val_May_tree (v : V) (r : Bool) (T :
  ∃ (r1 : Bool), (R_val_plain v r1) ∧
 ((r1 = true) →
  ∃ (r2 : Int), (R_val_deep [v] r2) ∧
  (decide (r2 ≤ 64)) = r) ∧
 (¬ (r1 = true) →
  false = r)) : R_val_May v r := by
 intro S
 rw [call_code sp_val_May _ _ rfl]
 obtain ⟨r1, q1, T⟩ := T
 simp only [R_val_plain, le] at q1
 by_cases c2 : r1 = true
 · replace T := T.1 c2
   obtain ⟨r2, q3, rfl⟩ := T
   simp only [R_val_deep, le] at q3
   simp only [q1, c2, q3, U_val_May, lw, le, reduceIte, reduceCtorEq, Nat.reduceEqDiff, Nat.reduceAdd, Nat.reduceLeDiff, Nat.reduceSub, Nat.reduceLT, Int.reduceEq, Int.reduceLT, Int.reduceLE, Int.reduceToNat]
 · replace T := T.2 c2
   replace c2 := Bool.eq_false_iff.2 c2
   obtain rfl := T
   simp only [q1, c2, U_val_May, lw, le, reduceIte, reduceCtorEq, Nat.reduceEqDiff, Nat.reduceAdd, Nat.reduceLeDiff, Nat.reduceSub, Nat.reduceLT, Int.reduceEq, Int.reduceLT, Int.reduceLE, Int.reduceToNat]
theorem sp_val_Same : SP 36 = some (.code sc_val_Same) := SPof_code rfl Tryd.func36 comp_val_Same
/-! doorkeeper/val.Same -/
theorem H_slices_EqualFunc_api_Val_api_Val_api_Val_api_Val_val_Same {xs : List V} {ys : List V}  {p : V → V → Bool} (hl : xs.length < 9223372036854775808) (hp : ∀ x y, x ∈ xs → R_val_Same x y (p x y)) : ∀ (S : Sto), call SP 79 [.list 4 (encL xs) false, .list 4 (encL ys) false, .func 36 []] S = .ok (.v (.bool (all2 p xs ys))) S := by
 intro S  
 refine G_slices_EqualFunc_api_Val_api_Val_api_Val_api_Val xs ys 36 [] p S hl (by intro S; rfl) (by rfl) ?_
 intro x y hx f
 have := hp x y hx (f :: S)  
 simpa only [PV.upL, PV.up] using this
set_option maxHeartbeats 4000000 in
theorem val_Same_tree (a : V) (b : V) (r : Bool) (T :
  ((a.k = b.k) →
  ((a.n = b.n) →
   ((a.s = b.s) →
    (a.l.length < 9223372036854775808) ∧
    ∃ (p1 : V → V → Bool), (∀ x y, x ∈ a.l → R_val_Same x y (p1 x y)) ∧
    (all2 p1 a.l b.l) = r) ∧
   (¬ (a.s = b.s) →
    false = r)) ∧
  (¬ (a.n = b.n) →
   false = r)) ∧
 (¬ (a.k = b.k) →
  false = r)) : R_val_Same a b r := by
 intro S
 rw [call_code sp_val_Same _ _ rfl]
 by_cases c1 : a.k = b.k
 · replace T := T.1 c1
   by_cases c2 : a.n = b.n
   · replace T := T.1 c2
     by_cases c3 : a.s = b.s
     · replace T := T.1 c3
       obtain ⟨p4, p1, q5, rfl⟩ := T
       have o5 := H_slices_EqualFunc_api_Val_api_Val_api_Val_api_Val_val_Same (ys := b.l) p4 q5
       try simp only [le] at o5
       simp only [eq_true c1, eq_true c2, eq_true c3, p4, o5, U_val_Same, lw, le, reduceIte, reduceCtorEq, Nat.reduceEqDiff, Nat.reduceAdd, Nat.reduceLeDiff, Nat.reduceSub, Nat.reduceLT, Int.reduceEq, Int.reduceLT, Int.reduceLE, Int.reduceToNat]
     · replace T := T.2 c3
       obtain rfl := T
       simp only [eq_true c1, eq_true c2, eq_false c3, U_val_Same, lw, le, reduceIte, reduceCtorEq, Nat.reduceEqDiff, Nat.reduceAdd, Nat.reduceLeDiff, Nat.reduceSub, Nat.reduceLT, Int.reduceEq, Int.reduceLT, Int.reduceLE, Int.reduceToNat]
   · replace T := T.2 c2
     obtain rfl := T
     simp only [eq_true c1, eq_false c2, U_val_Same, lw, le, reduceIte, reduceCtorEq, Nat.reduceEqDiff, Nat.reduceAdd, Nat.reduceLeDiff, Nat.reduceSub, Nat.reduceLT, Int.reduceEq, Int.reduceLT, Int.reduceLE, Int.reduceToNat]
 · replace T := T.2 c1
   obtain rfl := T
   simp only [eq_false c1, U_val_Same, lw, le, reduceIte, reduceCtorEq, Nat.reduceEqDiff, Nat.reduceAdd, Nat.reduceLeDiff, Nat.reduceSub, Nat.reduceLT, Int.reduceEq, Int.reduceLT, Int.reduceLE, Int.reduceToNat]
theorem sp_val_Type : SP 38 = some (.code sc_val_Type) := SPof_code rfl Tryd.func38 comp_val_Type
/-! doorkeeper/val.Type -/
set_option maxHeartbeats 4000000 in
theorem val_Type_tree (v : V) (r : List UInt8) (T :
  ((v.k = 1) →
  [105, 110, 116] = r) ∧
 (¬ (v.k = 1) →
  ((v.k = 2) →
   [115, 116, 114, 105, 110, 103] = r) ∧
  (¬ (v.k = 2) →
   ((v.k = 3) →
    [98, 111, 111, 108] = r) ∧
   (¬ (v.k = 3) →
    ((v.k = 4) →
     [108, 105, 115, 116] = r) ∧
    (¬ (v.k = 4) →
     [] = r))))) : R_val_Type v r := by
 intro S
 rw [call_code sp_val_Type _ _ rfl]
 by_cases c1 : v.k = 1
 · replace T := T.1 c1
   obtain rfl := T
   simp only [eq_true c1, U_val_Type, lw, le, reduceIte, reduceCtorEq, Nat.reduceEqDiff, Nat.reduceAdd, Nat.reduceLeDiff, Nat.reduceSub, Nat.reduceLT, Int.reduceEq, Int.reduceLT, Int.reduceLE, Int.reduceToNat]
 · replace T := T.2 c1
   by_cases c2 : v.k = 2
   · replace T := T.1 c2
     obtain rfl := T
     simp only [eq_false c1, eq_true c2, U_val_Type, lw, le, reduceIte, reduceCtorEq, Nat.reduceEqDiff, Nat.reduceAdd, Nat.reduceLeDiff, Nat.reduceSub, Nat.reduceLT, Int.reduceEq, Int.reduceLT, Int.reduceLE, Int.reduceToNat]
   · replace T := T.2 c2
     by_cases c3 : v.k = 3
     · replace T := T.1 c3
       obtain rfl := T
       simp only [eq_false c1, eq_false c2, eq_true c3, U_val_Type, lw, le, reduceIte, reduceCtorEq, Nat.reduceEqDiff, Nat.reduceAdd, Nat.reduceLeDiff, Nat.reduceSub, Nat.reduceLT, Int.reduceEq, Int.reduceLT, Int.reduceLE, Int.reduceToNat]
     · replace T := T.2 c3
       by_cases c4 : v.k = 4
       · replace T := T.1 c4
         obtain rfl := T
         simp only [eq_false c1, eq_false c2, eq_false c3, eq_true c4, U_val_Type, lw, le, reduceIte, reduceCtorEq, Nat.reduceEqDiff, Nat.reduceAdd, Nat.reduceLeDiff, Nat.reduceSub, Nat.reduceLT, Int.reduceEq, Int.reduceLT, Int.reduceLE, Int.reduceToNat]
       · replace T := T.2 c4
         obtain rfl := T
         simp only [eq_false c1, eq_false c2, eq_false c3, eq_false c4, U_val_Type, lw, le, reduceIte, reduceCtorEq, Nat.reduceEqDiff, Nat.reduceAdd, Nat.reduceLeDiff, Nat.reduceSub, Nat.reduceLT, Int.reduceEq, Int.reduceLT, Int.reduceLE, Int.reduceToNat]
theorem sp_val_Text : SP 31 = some (.code sc_val_Text) := SPof_code rfl Tryd.func31 comp_val_Text
/-! doorkeeper/val.Text -/
set_option maxHeartbeats 4000000 in
theorem val_Text_tree (v : V) (ra : List UInt8) (rb : Int) (T :
  ((v.k = 1) →
  ∃ (r1 : List UInt8), (R_strconv_Itoa v.n r1) ∧
  r1 = ra ∧ 0 = rb) ∧
 (¬ (v.k = 1) →
  ((v.k = 2) →
   v.s = ra ∧ 0 = rb) ∧
  (¬ (v.k = 2) →
   ((v.k = 3) →
    ∃ (r2 : List UInt8), (R_strconv_FormatBool (decide (v.n = 1)) r2) ∧
    r2 = ra ∧ 0 = rb) ∧
   (¬ (v.k = 3) →
    [] = ra ∧ 7 = rb)))) : R_val_Text v ra rb := by
 intro S
 rw [call_code sp_val_Text _ _ rfl]
 by_cases c1 : v.k = 1
 · replace T := T.1 c1
   obtain ⟨r1, q2, rfl, rfl⟩ := T
   simp only [R_strconv_Itoa, le] at q2
   simp only [eq_true c1, q2, U_val_Text, lw, le, reduceIte, reduceCtorEq, Nat.reduceEqDiff, Nat.reduceAdd, Nat.reduceLeDiff, Nat.reduceSub, Nat.reduceLT, Int.reduceEq, Int.reduceLT, Int.reduceLE, Int.reduceToNat]
 · replace T := T.2 c1
   by_cases c3 : v.k = 2
   · replace T := T.1 c3
     obtain ⟨rfl, rfl⟩ := T
     simp only [eq_false c1, eq_true c3, U_val_Text, lw, le, reduceIte, reduceCtorEq, Nat.reduceEqDiff, Nat.reduceAdd, Nat.reduceLeDiff, Nat.reduceSub, Nat.reduceLT, Int.reduceEq, Int.reduceLT, Int.reduceLE, Int.reduceToNat]
   · replace T := T.2 c3
     by_cases c4 : v.k = 3
     · replace T := T.1 c4
       obtain ⟨r2, q5, rfl, rfl⟩ := T
       simp only [R_strconv_FormatBool, le] at q5
       simp only [eq_false c1, eq_false c3, eq_true c4, q5, U_val_Text, lw, le, reduceIte, reduceCtorEq, Nat.reduceEqDiff, Nat.reduceAdd, Nat.reduceLeDiff, Nat.reduceSub, Nat.reduceLT, Int.reduceEq, Int.reduceLT, Int.reduceLE, Int.reduceToNat]
     · replace T := T.2 c4
       obtain ⟨rfl, rfl⟩ := T
       simp only [eq_false c1, eq_false c3, eq_false c4, U_val_Text, lw, le, reduceIte, reduceCtorEq, Nat.reduceEqDiff, Nat.reduceAdd, Nat.reduceLeDiff, Nat.reduceSub, Nat.reduceLT, Int.reduceEq, Int.reduceLT, Int.reduceLE, Int.reduceToNat]
theorem sp_val_One : SP 33 = some (.code sc_val_One) := SPof_code rfl Tryd.func33 comp_val_One
/-! doorkeeper/val.One -/
set_option maxHeartbeats 4000000 in
theorem val_One_tree (kind : Int) (v : V) (ra : V) (rb : Int) (T :
  ((kind = 8) →
  ((v.k = 3) →
   ∃ (r1 : V), (R_val_Bool (decide (v.n = 0)) r1) ∧
   r1 = ra ∧ 0 = rb) ∧
  (¬ (v.k = 3) →
   (V.mk 0 0 [] []) = ra ∧ 7 = rb)) ∧
 (¬ (kind = 8) →
  ((kind = 9) →
   ((v.k = 1) →
    ((v.n = (-9223372036854775808)) →
     (V.mk 0 0 [] []) = ra ∧ 8 = rb) ∧
    (¬ (v.n = (-9223372036854775808)) →
     (I64 (0 - v.n)) ∧
     ∃ (r2 : V), (R_val_Int (0 - v.n) r2) ∧
     r2 = ra ∧ 0 = rb)) ∧
   (¬ (v.k = 1) →
    (V.mk 0 0 [] []) = ra ∧ 7 = rb)) ∧
  (¬ (kind = 9) →
   (V.mk 0 0 [] []) = ra ∧ 1 = rb))) : R_val_One kind v ra rb := by
 intro S
 rw [call_code sp_val_One _ _ rfl]
 by_cases c1 : kind = 8
 · replace T := T.1 c1
   by_cases c2 : v.k = 3
   · replace T := T.1 c2
     obtain ⟨r1, q3, rfl, rfl⟩ := T
     simp only [R_val_Bool, le] at q3
     simp only [eq_true c1, eq_true c2, q3, U_val_One, lw, le, reduceIte, reduceCtorEq, Nat.reduceEqDiff, Nat.reduceAdd, Nat.reduceLeDiff, Nat.reduceSub, Nat.reduceLT, Int.reduceEq, Int.reduceLT, Int.reduceLE, Int.reduceToNat]
   · replace T := T.2 c2
     obtain ⟨rfl, rfl⟩ := T
     simp only [eq_true c1, eq_false c2, U_val_One, lw, le, reduceIte, reduceCtorEq, Nat.reduceEqDiff, Nat.reduceAdd, Nat.reduceLeDiff, Nat.reduceSub, Nat.reduceLT, Int.reduceEq, Int.reduceLT, Int.reduceLE, Int.reduceToNat]
 · replace T := T.2 c1
   by_cases c4 : kind = 9
   · replace T := T.1 c4
     by_cases c5 : v.k = 1
     · replace T := T.1 c5
       by_cases c6 : v.n = (-9223372036854775808)
       · replace T := T.1 c6
         obtain ⟨rfl, rfl⟩ := T
         simp only [eq_false c1, eq_true c4, eq_true c5, eq_true c6, U_val_One, lw, le, reduceIte, reduceCtorEq, Nat.reduceEqDiff, Nat.reduceAdd, Nat.reduceLeDiff, Nat.reduceSub, Nat.reduceLT, Int.reduceEq, Int.reduceLT, Int.reduceLE, Int.reduceToNat]
       · replace T := T.2 c6
         obtain ⟨p7, r2, q8, rfl, rfl⟩ := T
         simp only [R_val_Int, le] at q8
         simp only [eq_false c1, eq_true c4, eq_true c5, eq_false c6, p7.wrap, q8, U_val_One, lw, le, reduceIte, reduceCtorEq, Nat.reduceEqDiff, Nat.reduceAdd, Nat.reduceLeDiff, Nat.reduceSub, Nat.reduceLT, Int.reduceEq, Int.reduceLT, Int.reduceLE, Int.reduceToNat]
     · replace T := T.2 c5
       obtain ⟨rfl, rfl⟩ := T
       simp only [eq_false c1, eq_true c4, eq_false c5, U_val_One, lw, le, reduceIte, reduceCtorEq, Nat.reduceEqDiff, Nat.reduceAdd, Nat.reduceLeDiff, Nat.reduceSub, Nat.reduceLT, Int.reduceEq, Int.reduceLT, Int.reduceLE, Int.reduceToNat]
   · replace T := T.2 c4
     obtain ⟨rfl, rfl⟩ := T
     simp only [eq_false c1, eq_false c4, U_val_One, lw, le, reduceIte, reduceCtorEq, Nat.reduceEqDiff, Nat.reduceAdd, Nat.reduceLeDiff, Nat.reduceSub, Nat.reduceLT, Int.reduceEq, Int.reduceLT, Int.reduceLE, Int.reduceToNat]
theorem sp_val_Two : SP 34 = some (.code sc_val_Two) := SPof_code rfl Tryd.func34 comp_val_Two
/-! doorkeeper/val.Two -/
set_option maxHeartbeats 4000000 in
theorem val_Two_tree (kind : Int) (a : V) (b : V) (ra : V) (rb : Int) (T :
  ((kind < 11) →
  (V.mk 0 0 [] []) = ra ∧ 1 = rb) ∧
 (¬ (kind < 11) →
  ((23 < kind) →
   (V.mk 0 0 [] []) = ra ∧ 1 = rb) ∧
  (¬ (23 < kind) →
   ((kind ≤ 12) →
    ((a.k = b.k) →
     ((a.k = 3) →
      ((kind = 11) →
       (I64 (a.n + b.n)) ∧
       ∃ (r1 : V), (R_val_Bool (decide (0 < (a.n + b.n))) r1) ∧
       r1 = ra ∧ 0 = rb) ∧
      (¬ (kind = 11) →
       (I64 (a.n + b.n)) ∧
       ∃ (r2 : V), (R_val_Bool (decide ((a.n + b.n) = 2)) r2) ∧
       r2 = ra ∧ 0 = rb)) ∧
     (¬ (a.k = 3) →
      ((kind = 13) →
       ∃ (r3 : Bool), (R_val_Same a b r3) ∧
       ∃ (r4 : V), (R_val_Bool (decide (r3 = true)) r4) ∧
       r4 = ra ∧ 0 = rb) ∧
      (¬ (kind = 13) →
       ((kind = 14) →
        ∃ (r5 : Bool), (R_val_Same a b r5) ∧
        ∃ (r6 : V), (R_val_Bool (decide (r5 = false)) r6) ∧
        r6 = ra ∧ 0 = rb) ∧
       (¬ (kind = 14) →
        ((kind ≤ 14) →
         (V.mk 0 0 [] []) = ra ∧ 7 = rb) ∧
        (¬ (kind ≤ 14) →
         ((a.k = 1) →
          ((kind ≤ 18) →
           ∃ (r7 : Bool), (R_val_compare kind a.n b.n r7) ∧
           ∃ (r8 : V), (R_val_Bool r7 r8) ∧
           r8 = ra ∧ 0 = rb) ∧
          (¬ (kind ≤ 18) →
           ∃ (r9 : Int) (r10 : Int), (R_val_reckon kind a.n b.n r9 r10) ∧
           ((r10 = 0) →
            ∃ (r11 : V), (R_val_Int r9 r11) ∧
            r11 = ra ∧ 0 = rb) ∧
           (¬ (r10 = 0) →
            (V.mk 0 0 [] []) = ra ∧ r10 = rb))) ∧
         (¬ (a.k = 1) →
          (V.mk 0 0 [] []) = ra ∧ 7 = rb)))))) ∧
    (¬ (a.k = b.k) →
     ((kind = 13) →
      ((kind ≤ 14) →
       (V.mk 0 0 [] []) = ra ∧ 7 = rb) ∧
      (¬ (kind ≤ 14) →
       (V.mk 0 0 [] []) = ra ∧ 7 = rb)) ∧
     (¬ (kind = 13) →
      ((kind = 14) →
       ((kind ≤ 14) →
        (V.mk 0 0 [] []) = ra ∧ 7 = rb) ∧
       (¬ (kind ≤ 14) →
        (V.mk 0 0 [] []) = ra ∧ 7 = rb)) ∧
      (¬ (kind = 14) →
       ((kind ≤ 14) →
        (V.mk 0 0 [] []) = ra ∧ 7 = rb) ∧
       (¬ (kind ≤ 14) →
        (V.mk 0 0 [] []) = ra ∧ 7 = rb))))) ∧
   (¬ (kind ≤ 12) →
    ((kind = 13) →
     ((a.k = b.k) →
      ∃ (r12 : Bool), (R_val_Same a b r12) ∧
      ∃ (r13 : V), (R_val_Bool (decide (r12 = true)) r13) ∧
      r13 = ra ∧ 0 = rb) ∧
     (¬ (a.k = b.k) →
      ((kind ≤ 14) →
       (V.mk 0 0 [] []) = ra ∧ 7 = rb) ∧
      (¬ (kind ≤ 14) →
       (V.mk 0 0 [] []) = ra ∧ 7 = rb))) ∧
    (¬ (kind = 13) →
     ((kind = 14) →
      ((a.k = b.k) →
       ∃ (r14 : Bool), (R_val_Same a b r14) ∧
       ∃ (r15 : V), (R_val_Bool (decide (r14 = false)) r15) ∧
       r15 = ra ∧ 0 = rb) ∧
      (¬ (a.k = b.k) →
       ((kind ≤ 14) →
        (V.mk 0 0 [] []) = ra ∧ 7 = rb) ∧
       (¬ (kind ≤ 14) →
        (V.mk 0 0 [] []) = ra ∧ 7 = rb))) ∧
     (¬ (kind = 14) →
      ((kind ≤ 14) →
       (V.mk 0 0 [] []) = ra ∧ 7 = rb) ∧
      (¬ (kind ≤ 14) →
       ((a.k = b.k) →
        ((a.k = 1) →
         ((kind ≤ 18) →
          ∃ (r16 : Bool), (R_val_compare kind a.n b.n r16) ∧
          ∃ (r17 : V), (R_val_Bool r16 r17) ∧
          r17 = ra ∧ 0 = rb) ∧
         (¬ (kind ≤ 18) →
          ∃ (r18 : Int) (r19 : Int), (R_val_reckon kind a.n b.n r18 r19) ∧
          ((r19 = 0) →
           ∃ (r20 : V), (R_val_Int r18 r20) ∧
           r20 = ra ∧ 0 = rb) ∧
          (¬ (r19 = 0) →
           (V.mk 0 0 [] []) = ra ∧ r19 = rb))) ∧
        (¬ (a.k = 1) →
         (V.mk 0 0 [] []) = ra ∧ 7 = rb)) ∧
       (¬ (a.k = b.k) →
        (V.mk 0 0 [] []) = ra ∧ 7 = rb)))))))) : R_val_Two kind a b ra rb := by
 intro S
 rw [call_code sp_val_Two _ _ rfl]
 by_cases c1 : kind < 11
 · replace T := T.1 c1
   obtain ⟨rfl, rfl⟩ := T
   simp only [eq_true c1, U_val_Two, lw, le, reduceIte, reduceCtorEq, Nat.reduceEqDiff, Nat.reduceAdd, Nat.reduceLeDiff, Nat.reduceSub, Nat.reduceLT, Int.reduceEq, Int.reduceLT, Int.reduceLE, Int.reduceToNat]
 · replace T := T.2 c1
   by_cases c2 : 23 < kind
   · replace T := T.1 c2
     obtain ⟨rfl, rfl⟩ := T
     simp only [eq_false c1, eq_true c2, U_val_Two, lw, le, reduceIte, reduceCtorEq, Nat.reduceEqDiff, Nat.reduceAdd, Nat.reduceLeDiff, Nat.reduceSub, Nat.reduceLT, Int.reduceEq, Int.reduceLT, Int.reduceLE, Int.reduceToNat]
   · replace T := T.2 c2
     by_cases c3 : kind ≤ 12
     · replace T := T.1 c3
       by_cases c4 : a.k = b.k
       · replace T := T.1 c4
         by_cases c5 : a.k = 3
         · replace T := T.1 c5
           by_cases c6 : kind = 11
           · replace T := T.1 c6
             obtain ⟨p7, r1, q8, rfl, rfl⟩ := T
             simp only [R_val_Bool, le] at q8
             simp only [eq_false c1, eq_false c2, eq_true c3, eq_true c4, eq_true c5, eq_true c6, p7.wrap, q8, U_val_Two, lw, le, reduceIte, reduceCtorEq, Nat.reduceEqDiff, Nat.reduceAdd, Nat.reduceLeDiff, Nat.reduceSub, Nat.reduceLT, Int.reduceEq, Int.reduceLT, Int.reduceLE, Int.reduceToNat]
           · replace T := T.2 c6
             obtain ⟨p9, r2, q10, rfl, rfl⟩ := T
             simp only [R_val_Bool, le] at q10
             simp only [eq_false c1, eq_false c2, eq_true c3, eq_true c4, eq_true c5, eq_false c6, p9.wrap, q10, U_val_Two, lw, le, reduceIte, reduceCtorEq, Nat.reduceEqDiff, Nat.reduceAdd, Nat.reduceLeDiff, Nat.reduceSub, Nat.reduceLT, Int.reduceEq, Int.reduceLT, Int.reduceLE, Int.reduceToNat]
         · replace T := T.2 c5
           by_cases c11 : kind = 13
           · replace T := T.1 c11
             obtain ⟨r3, q12, r4, q13, rfl, rfl⟩ := T
             simp only [R_val_Same, le] at q12
             simp only [R_val_Bool, le] at q13
             simp only [eq_false c1, eq_false c2, eq_true c3, eq_true c4, eq_false c5, eq_true c11, q12, q13, U_val_Two, lw, le, reduceIte, reduceCtorEq, Nat.reduceEqDiff, Nat.reduceAdd, Nat.reduceLeDiff, Nat.reduceSub, Nat.reduceLT, Int.reduceEq, Int.reduceLT, Int.reduceLE, Int.reduceToNat]
           · replace T := T.2 c11
             by_cases c14 : kind = 14
             · replace T := T.1 c14
               obtain ⟨r5, q15, r6, q16, rfl, rfl⟩ := T
               simp only [R_val_Same, le] at q15
               simp only [R_val_Bool, le] at q16
               simp only [eq_false c1, eq_false c2, eq_true c3, eq_true c4, eq_false c5, eq_false c11, eq_true c14, q15, q16, U_val_Two, lw, le, reduceIte, reduceCtorEq, Nat.reduceEqDiff, Nat.reduceAdd, Nat.reduceLeDiff, Nat.reduceSub, Nat.reduceLT, Int.reduceEq, Int.reduceLT, Int.reduceLE, Int.reduceToNat]
             · replace T := T.2 c14
               by_cases c17 : kind ≤ 14
               · replace T := T.1 c17
                 obtain ⟨rfl, rfl⟩ := T
                 simp only [eq_false c1, eq_false c2, eq_true c3, eq_true c4, eq_false c5, eq_false c11, eq_false c14, eq_true c17, U_val_Two, lw, le, reduceIte, reduceCtorEq, Nat.reduceEqDiff, Nat.reduceAdd, Nat.reduceLeDiff, Nat.reduceSub, Nat.reduceLT, Int.reduceEq, Int.reduceLT, Int.reduceLE, Int.reduceToNat]
               · replace T := T.2 c17
                 by_cases c18 : a.k = 1
                 · replace T := T.1 c18
                   by_cases c19 : kind ≤ 18
                   · replace T := T.1 c19
                     obtain ⟨r7, q20, r8, q21, rfl, rfl⟩ := T
                     simp only [R_val_compare, le] at q20
                     simp only [R_val_Bool, le] at q21
                     simp only [eq_false c1, eq_false c2, eq_true c3, eq_true c4, eq_false c5, eq_false c11, eq_false c14, eq_false c17, eq_true c18, eq_true c19, q20, q21, U_val_Two, lw, le, reduceIte, reduceCtorEq, Nat.reduceEqDiff, Nat.reduceAdd, Nat.reduceLeDiff, Nat.reduceSub, Nat.reduceLT, Int.reduceEq, Int.reduceLT, Int.reduceLE, Int.reduceToNat]
                   · replace T := T.2 c19
                     obtain ⟨r9, r10, q22, T⟩ := T
                     simp only [R_val_reckon, le] at q22
                     by_cases c23 : r10 = 0
                     · replace T := T.1 c23
                       obtain ⟨r11, q24, rfl, rfl⟩ := T
                       simp only [R_val_Int, le] at q24
                       simp only [eq_false c1, eq_false c2, eq_true c3, eq_true c4, eq_false c5, eq_false c11, eq_false c14, eq_false c17, eq_true c18, eq_false c19, q22, eq_true c23, q24, U_val_Two, lw, le, reduceIte, reduceCtorEq, Nat.reduceEqDiff, Nat.reduceAdd, Nat.reduceLeDiff, Nat.reduceSub, Nat.reduceLT, Int.reduceEq, Int.reduceLT, Int.reduceLE, Int.reduceToNat]
                     · replace T := T.2 c23
                       obtain ⟨rfl, rfl⟩ := T
                       simp only [eq_false c1, eq_false c2, eq_true c3, eq_true c4, eq_false c5, eq_false c11, eq_false c14, eq_false c17, eq_true c18, eq_false c19, q22, eq_false c23, U_val_Two, lw, le, reduceIte, reduceCtorEq, Nat.reduceEqDiff, Nat.reduceAdd, Nat.reduceLeDiff, Nat.reduceSub, Nat.reduceLT, Int.reduceEq, Int.reduceLT, Int.reduceLE, Int.reduceToNat]
                 · replace T := T.2 c18
                   obtain ⟨rfl, rfl⟩ := T
                   simp only [eq_false c1, eq_false c2, eq_true c3, eq_true c4, eq_false c5, eq_false c11, eq_false c14, eq_false c17, eq_false c18, U_val_Two, lw, le, reduceIte, reduceCtorEq, Nat.reduceEqDiff, Nat.reduceAdd, Nat.reduceLeDiff, Nat.reduceSub, Nat.reduceLT, Int.reduceEq, Int.reduceLT, Int.reduceLE, Int.reduceToNat]
       · replace T := T.2 c4
         by_cases c25 : kind = 13
         · replace T := T.1 c25
           by_cases c26 : kind ≤ 14
           · replace T := T.1 c26
             obtain ⟨rfl, rfl⟩ := T
             simp only [eq_false c1, eq_false c2, eq_true c3, eq_false c4, eq_true c25, eq_true c26, U_val_Two, lw, le, reduceIte, reduceCtorEq, Nat.reduceEqDiff, Nat.reduceAdd, Nat.reduceLeDiff, Nat.reduceSub, Nat.reduceLT, Int.reduceEq, Int.reduceLT, Int.reduceLE, Int.reduceToNat]
           · replace T := T.2 c26
             obtain ⟨rfl, rfl⟩ := T
             simp only [eq_false c1, eq_false c2, eq_true c3, eq_false c4, eq_true c25, eq_false c26, U_val_Two, lw, le, reduceIte, reduceCtorEq, Nat.reduceEqDiff, Nat.reduceAdd, Nat.reduceLeDiff, Nat.reduceSub, Nat.reduceLT, Int.reduceEq, Int.reduceLT, Int.reduceLE, Int.reduceToNat]
         · replace T := T.2 c25
           by_cases c27 : kind = 14
           · replace T := T.1 c27
             by_cases c28 : kind ≤ 14
             · replace T := T.1 c28
               obtain ⟨rfl, rfl⟩ := T
               simp only [eq_false c1, eq_false c2, eq_true c3, eq_false c4, eq_false c25, eq_true c27, eq_true c28, U_val_Two, lw, le, reduceIte, reduceCtorEq, Nat.reduceEqDiff, Nat.reduceAdd, Nat.reduceLeDiff, Nat.reduceSub, Nat.reduceLT, Int.reduceEq, Int.reduceLT, Int.reduceLE, Int.reduceToNat]
             · replace T := T.2 c28
               obtain ⟨rfl, rfl⟩ := T
               simp only [eq_false c1, eq_false c2, eq_true c3, eq_false c4, eq_false c25, eq_true c27, eq_false c28, U_val_Two, lw, le, reduceIte, reduceCtorEq, Nat.reduceEqDiff, Nat.reduceAdd, Nat.reduceLeDiff, Nat.reduceSub, Nat.reduceLT, Int.reduceEq, Int.reduceLT, Int.reduceLE, Int.reduceToNat]
           · replace T := T.2 c27
             by_cases c29 : kind ≤ 14
             · replace T := T.1 c29
               obtain ⟨rfl, rfl⟩ := T
               simp only [eq_false c1, eq_false c2, eq_true c3, eq_false c4, eq_false c25, eq_false c27, eq_true c29, U_val_Two, lw, le, reduceIte, reduceCtorEq, Nat.reduceEqDiff, Nat.reduceAdd, Nat.reduceLeDiff, Nat.reduceSub, Nat.reduceLT, Int.reduceEq, Int.reduceLT, Int.reduceLE, Int.reduceToNat]
             · replace T := T.2 c29
               obtain ⟨rfl, rfl⟩ := T
               simp only [eq_false c1, eq_false c2, eq_true c3, eq_false c4, eq_false c25, eq_false c27, eq_false c29, U_val_Two, lw, le, reduceIte, reduceCtorEq, Nat.reduceEqDiff, Nat.reduceAdd, Nat.reduceLeDiff, Nat.reduceSub, Nat.reduceLT, Int.reduceEq, Int.reduceLT, Int.reduceLE, Int.reduceToNat]
     · replace T := T.2 c3
       by_cases c30 : kind = 13
       · replace T := T.1 c30
         by_cases c31 : a.k = b.k
         · replace T := T.1 c31
           obtain ⟨r12, q32, r13, q33, rfl, rfl⟩ := T
           simp only [R_val_Same, le] at q32
           simp only [R_val_Bool, le] at q33
           simp only [eq_false c1, eq_false c2, eq_false c3, eq_true c30, eq_true c31, q32, q33, U_val_Two, lw, le, reduceIte, reduceCtorEq, Nat.reduceEqDiff, Nat.reduceAdd, Nat.reduceLeDiff, Nat.reduceSub, Nat.reduceLT, Int.reduceEq, Int.reduceLT, Int.reduceLE, Int.reduceToNat]
         · replace T := T.2 c31
           by_cases c34 : kind ≤ 14
           · replace T := T.1 c34
             obtain ⟨rfl, rfl⟩ := T
             simp only [eq_false c1, eq_false c2, eq_false c3, eq_true c30, eq_false c31, eq_true c34, U_val_Two, lw, le, reduceIte, reduceCtorEq, Nat.reduceEqDiff, Nat.reduceAdd, Nat.reduceLeDiff, Nat.reduceSub, Nat.reduceLT, Int.reduceEq, Int.reduceLT, Int.reduceLE, Int.reduceToNat]
           · replace T := T.2 c34
             obtain ⟨rfl, rfl⟩ := T
             simp only [eq_false c1, eq_false c2, eq_false c3, eq_true c30, eq_false c31, eq_false c34, U_val_Two, lw, le, reduceIte, reduceCtorEq, Nat.reduceEqDiff, Nat.reduceAdd, Nat.reduceLeDiff, Nat.reduceSub, Nat.reduceLT, Int.reduceEq, Int.reduceLT, Int.reduceLE, Int.reduceToNat]
       · replace T := T.2 c30
         by_cases c35 : kind = 14
         · replace T := T.1 c35
           by_cases c36 : a.k = b.k
           · replace T := T.1 c36
             obtain ⟨r14, q37, r15, q38, rfl, rfl⟩ := T
             simp only [R_val_Same, le] at q37
             simp only [R_val_Bool, le] at q38
             simp only [eq_false c1, eq_false c2, eq_false c3, eq_false c30, eq_true c35, eq_true c36, q37, q38, U_val_Two, lw, le, reduceIte, reduceCtorEq, Nat.reduceEqDiff, Nat.reduceAdd, Nat.reduceLeDiff, Nat.reduceSub, Nat.reduceLT, Int.reduceEq, Int.reduceLT, Int.reduceLE, Int.reduceToNat]
           · replace T := T.2 c36
             by_cases c39 : kind ≤ 14
             · replace T := T.1 c39
               obtain ⟨rfl, rfl⟩ := T
               simp only [eq_false c1, eq_false c2, eq_false c3, eq_false c30, eq_true c35, eq_false c36, eq_true c39, U_val_Two, lw, le, reduceIte, reduceCtorEq, Nat.reduceEqDiff, Nat.reduceAdd, Nat.reduceLeDiff, Nat.reduceSub, Nat.reduceLT, Int.reduceEq, Int.reduceLT, Int.reduceLE, Int.reduceToNat]
             · replace T := T.2 c39
               obtain ⟨rfl, rfl⟩ := T
               simp only [eq_false c1, eq_false c2, eq_false c3, eq_false c30, eq_true c35, eq_false c36, eq_false c39, U_val_Two, lw, le, reduceIte, reduceCtorEq, Nat.reduceEqDiff, Nat.reduceAdd, Nat.reduceLeDiff, Nat.reduceSub, Nat.reduceLT, Int.reduceEq, Int.reduceLT, Int.reduceLE, Int.reduceToNat]
         · replace T := T.2 c35
           by_cases c40 : kind ≤ 14
           · replace T := T.1 c40
             obtain ⟨rfl, rfl⟩ := T
             simp only [eq_false c1, eq_false c2, eq_false c3, eq_false c30, eq_false c35, eq_true c40, U_val_Two, lw, le, reduceIte, reduceCtorEq, Nat.reduceEqDiff, Nat.reduceAdd, Nat.reduceLeDiff, Nat.reduceSub, Nat.reduceLT, Int.reduceEq, Int.reduceLT, Int.reduceLE, Int.reduceToNat]
           · replace T := T.2 c40
             by_cases c41 : a.k = b.k
             · replace T := T.1 c41
               by_cases c42 : a.k = 1
               · replace T := T.1 c42
                 by_cases c43 : kind ≤ 18
                 · replace T := T.1 c43
                   obtain ⟨r16, q44, r17, q45, rfl, rfl⟩ := T
                   simp only [R_val_compare, le] at q44
                   simp only [R_val_Bool, le] at q45
                   simp only [eq_false c1, eq_false c2, eq_false c3, eq_false c30, eq_false c35, eq_false c40, eq_true c41, eq_true c42, eq_true c43, q44, q45, U_val_Two, lw, le, reduceIte, reduceCtorEq, Nat.reduceEqDiff, Nat.reduceAdd, Nat.reduceLeDiff, Nat.reduceSub, Nat.reduceLT, Int.reduceEq, Int.reduceLT, Int.reduceLE, Int.reduceToNat]
                 · replace T := T.2 c43
                   obtain ⟨r18, r19, q46, T⟩ := T
                   simp only [R_val_reckon, le] at q46
                   by_cases c47 : r19 = 0
                   · replace T := T.1 c47
                     obtain ⟨r20, q48, rfl, rfl⟩ := T
                     simp only [R_val_Int, le] at q48
                     simp only [eq_false c1, eq_false c2, eq_false c3, eq_false c30, eq_false c35, eq_false c40, eq_true c41, eq_true c42, eq_false c43, q46, eq_true c47, q48, U_val_Two, lw, le, reduceIte, reduceCtorEq, Nat.reduceEqDiff, Nat.reduceAdd, Nat.reduceLeDiff, Nat.reduceSub, Nat.reduceLT, Int.reduceEq, Int.reduceLT, Int.reduceLE, Int.reduceToNat]
                   · replace T := T.2 c47
                     obtain ⟨rfl, rfl⟩ := T
                     simp only [eq_false c1, eq_false c2, eq_false c3, eq_false c30, eq_false c35, eq_false c40, eq_true c41, eq_true c42, eq_false c43, q46, eq_false c47, U_val_Two, lw, le, reduceIte, reduceCtorEq, Nat.reduceEqDiff, Nat.reduceAdd, Nat.reduceLeDiff, Nat.reduceSub, Nat.reduceLT, Int.reduceEq, Int.reduceLT, Int.reduceLE, Int.reduceToNat]
               · replace T := T.2 c42
                 obtain ⟨rfl, rfl⟩ := T
                 simp only [eq_false c1, eq_false c2, eq_false c3, eq_false c30, eq_false c35, eq_false c40, eq_true c41, eq_false c42, U_val_Two, lw, le, reduceIte, reduceCtorEq, Nat.reduceEqDiff, Nat.reduceAdd, Nat.reduceLeDiff, Nat.reduceSub, Nat.reduceLT, Int.reduceEq, Int.reduceLT, Int.reduceLE, Int.reduceToNat]
             · replace T := T.2 c41
               obtain ⟨rfl, rfl⟩ := T
               simp only [eq_false c1, eq_false c2, eq_false c3, eq_false c30, eq_false c35, eq_false c40, eq_false c41, U_val_Two, lw, le, reduceIte, reduceCtorEq, Nat.reduceEqDiff, Nat.reduceAdd, Nat.reduceLeDiff, Nat.reduceSub, Nat.reduceLT, Int.reduceEq, Int.reduceLT, Int.reduceLE, Int.reduceToNat]
theorem sp_val_Index : SP 35 = some (.code sc_val_Index) := SPof_code rfl Tryd.func35 comp_val_Index
/-! doorkeeper/val.Index -/
set_option maxHeartbeats 4000000 in
theorem val_Index_tree (a : V) (b : V) (ra : V) (rb : Int) (T :
  ((a.k = 4) →
  ((b.k = 1) →
   ((b.n < 0) →
    (V.mk 0 0 [] []) = ra ∧ 2 = rb) ∧
   (¬ (b.n < 0) →
    ((((a.l.length : Nat) : Int) ≤ b.n) →
     (V.mk 0 0 [] []) = ra ∧ 2 = rb) ∧
    (¬ (((a.l.length : Nat) : Int) ≤ b.n) →
     (0 ≤ b.n) ∧
     ∃ (v1 : V), (a.l[b.n.toNat]? = some v1) ∧
     v1 = ra ∧ 0 = rb))) ∧
  (¬ (b.k = 1) →
   (V.mk 0 0 [] []) = ra ∧ 7 = rb)) ∧
 (¬ (a.k = 4) →
  (V.mk 0 0 [] []) = ra ∧ 7 = rb)) : R_val_Index a b ra rb := by
 intro S
 rw [call_code sp_val_Index _ _ rfl]
 by_cases c1 : a.k = 4
 · replace T := T.1 c1
   by_cases c2 : b.k = 1
   · replace T := T.1 c2
     by_cases c3 : b.n < 0
     · replace T := T.1 c3
       obtain ⟨rfl, rfl⟩ := T
       simp only [eq_true c1, eq_true c2, eq_true c3, U_val_Index, lw, le, reduceIte, reduceCtorEq, Nat.reduceEqDiff, Nat.reduceAdd, Nat.reduceLeDiff, Nat.reduceSub, Nat.reduceLT, Int.reduceEq, Int.reduceLT, Int.reduceLE, Int.reduceToNat]
     · replace T := T.2 c3
       by_cases c4 : ((a.l.length : Nat) : Int) ≤ b.n
       · replace T := T.1 c4
         obtain ⟨rfl, rfl⟩ := T
         simp only [eq_true c1, eq_true c2, eq_false c3, eq_true c4, U_val_Index, lw, le, reduceIte, reduceCtorEq, Nat.reduceEqDiff, Nat.reduceAdd, Nat.reduceLeDiff, Nat.reduceSub, Nat.reduceLT, Int.reduceEq, Int.reduceLT, Int.reduceLE, Int.reduceToNat]
       · replace T := T.2 c4
         obtain ⟨p5, v1, q6, rfl, rfl⟩ := T
         simp only [eq_true c1, eq_true c2, eq_false c3, eq_false c4, p5, q6, U_val_Index, lw, le, reduceIte, reduceCtorEq, Nat.reduceEqDiff, Nat.reduceAdd, Nat.reduceLeDiff, Nat.reduceSub, Nat.reduceLT, Int.reduceEq, Int.reduceLT, Int.reduceLE, Int.reduceToNat]
   · replace T := T.2 c2
     obtain ⟨rfl, rfl⟩ := T
     simp only [eq_true c1, eq_false c2, U_val_Index, lw, le, reduceIte, reduceCtorEq, Nat.reduceEqDiff, Nat.reduceAdd, Nat.reduceLeDiff, Nat.reduceSub, Nat.reduceLT, Int.reduceEq, Int.reduceLT, Int.reduceLE, Int.reduceToNat]
 · replace T := T.2 c1
   obtain ⟨rfl, rfl⟩ := T
   simp only [eq_false c1, U_val_Index, lw, le, reduceIte, reduceCtorEq, Nat.reduceEqDiff, Nat.reduceAdd, Nat.reduceLeDiff, Nat.reduceSub, Nat.reduceLT, Int.reduceEq, Int.reduceLT, Int.reduceLE, Int.reduceToNat]
theorem sp_val_reckon : SP 78 = some (.code sc_val_reckon) := SPof_code rfl Tryd.func78 comp_val_reckon
/-! doorkeeper/val.reckon -/
set_option maxHeartbeats 4000000 in
theorem val_reckon_tree (kind : Int) (a : Int) (b : Int) (ra : Int) (rb : Int) (T :
  ((kind = 19) →
  (((decide (a < (IntKind.i64.wrap (a + b)))) = (decide (0 < b))) →
   (IntKind.i64.wrap (a + b)) = ra ∧ 0 = rb) ∧
  (¬ ((decide (a < (IntKind.i64.wrap (a + b)))) = (decide (0 < b))) →
   0 = ra ∧ 8 = rb)) ∧
 (¬ (kind = 19) →
  ((kind = 20) →
   (((decide ((IntKind.i64.wrap (a - b)) < a)) = (decide (0 < b))) →
    (IntKind.i64.wrap (a - b)) = ra ∧ 0 = rb) ∧
   (¬ ((decide ((IntKind.i64.wrap (a - b)) < a)) = (decide (0 < b))) →
    0 = ra ∧ 8 = rb)) ∧
  (¬ (kind = 20) →
   ((kind = 21) →
    ((a = 0) →
     (IntKind.i64.wrap (a * b)) = ra ∧ 0 = rb) ∧
    (¬ (a = 0) →
     ¬ (a = 0) ∧
     (((IntKind.i64.wrap ((IntKind.i64.wrap (a * b)).tdiv a)) = b) →
      ((a = (-1)) →
       ((b = (-9223372036854775808)) →
        0 = ra ∧ 8 = rb) ∧
       (¬ (b = (-9223372036854775808)) →
        (IntKind.i64.wrap (a * b)) = ra ∧ 0 = rb)) ∧
      (¬ (a = (-1)) →
       (IntKind.i64.wrap (a * b)) = ra ∧ 0 = rb)) ∧
     (¬ ((IntKind.i64.wrap ((IntKind.i64.wrap (a * b)).tdiv a)) = b) →
      0 = ra ∧ 8 = rb))) ∧
   (¬ (kind = 21) →
    ((b = 0) →
     0 = ra ∧ 9 = rb) ∧
    (¬ (b = 0) →
     ((kind = 23) →
      ¬ (b = 0) ∧
      (a.tmod b) = ra ∧ 0 = rb) ∧
     (¬ (kind = 23) →
      ¬ (b = 0) ∧
      ((a = (-9223372036854775808)) →
       ((b = (-1)) →
        0 = ra ∧ 8 = rb) ∧
       (¬ (b = (-1)) →
        (IntKind.i64.wrap (a.tdiv b)) = ra ∧ 0 = rb)) ∧
      (¬ (a = (-9223372036854775808)) →
       (IntKind.i64.wrap (a.tdiv b)) = ra ∧ 0 = rb))))))) : R_val_reckon kind a b ra rb := by
 intro S
 rw [call_code sp_val_reckon _ _ rfl]
 by_cases c1 : kind = 19
 · replace T := T.1 c1
   by_cases c2 : (decide (a < (IntKind.i64.wrap (a + b)))) = (decide (0 < b))
   · replace T := T.1 c2
     obtain ⟨rfl, rfl⟩ := T
     simp only [eq_true c1, c2, U_val_reckon, lw, le, reduceIte, reduceCtorEq, Nat.reduceEqDiff, Nat.reduceAdd, Nat.reduceLeDiff, Nat.reduceSub, Nat.reduceLT, Int.reduceEq, Int.reduceLT, Int.reduceLE, Int.reduceToNat]
   · replace T := T.2 c2
     obtain ⟨rfl, rfl⟩ := T
     simp only [eq_true c1, eq_false c2, U_val_reckon, lw, le, reduceIte, reduceCtorEq, Nat.reduceEqDiff, Nat.reduceAdd, Nat.reduceLeDiff, Nat.reduceSub, Nat.reduceLT, Int.reduceEq, Int.reduceLT, Int.reduceLE, Int.reduceToNat]
 · replace T := T.2 c1
   by_cases c3 : kind = 20
   · replace T := T.1 c3
     by_cases c4 : (decide ((IntKind.i64.wrap (a - b)) < a)) = (decide (0 < b))
     · replace T := T.1 c4
       obtain ⟨rfl, rfl⟩ := T
       simp only [eq_false c1, eq_true c3, c4, U_val_reckon, lw, le, reduceIte, reduceCtorEq, Nat.reduceEqDiff, Nat.reduceAdd, Nat.reduceLeDiff, Nat.reduceSub, Nat.reduceLT, Int.reduceEq, Int.reduceLT, Int.reduceLE, Int.reduceToNat]
     · replace T := T.2 c4
       obtain ⟨rfl, rfl⟩ := T
       simp only [eq_false c1, eq_true c3, eq_false c4, U_val_reckon, lw, le, reduceIte, reduceCtorEq, Nat.reduceEqDiff, Nat.reduceAdd, Nat.reduceLeDiff, Nat.reduceSub, Nat.reduceLT, Int.reduceEq, Int.reduceLT, Int.reduceLE, Int.reduceToNat]
   · replace T := T.2 c3
     by_cases c5 : kind = 21
     · replace T := T.1 c5
       by_cases c6 : a = 0
       · replace T := T.1 c6
         obtain ⟨rfl, rfl⟩ := T
         simp only [eq_false c1, eq_false c3, eq_true c5, eq_true c6, U_val_reckon, lw, le, reduceIte, reduceCtorEq, Nat.reduceEqDiff, Nat.reduceAdd, Nat.reduceLeDiff, Nat.reduceSub, Nat.reduceLT, Int.reduceEq, Int.reduceLT, Int.reduceLE, Int.reduceToNat]
       · replace T := T.2 c6
         obtain ⟨p7, T⟩ := T
         by_cases c8 : (IntKind.i64.wrap ((IntKind.i64.wrap (a * b)).tdiv a)) = b
         · replace T := T.1 c8
           by_cases c9 : a = (-1)
           · replace T := T.1 c9
             by_cases c10 : b = (-9223372036854775808)
             · replace T := T.1 c10
               obtain ⟨rfl, rfl⟩ := T
               simp only [eq_false c1, eq_false c3, eq_true c5, eq_false c6, eq_false p7, eq_true c8, eq_true c9, eq_true c10, U_val_reckon, lw, le, reduceIte, reduceCtorEq, Nat.reduceEqDiff, Nat.reduceAdd, Nat.reduceLeDiff, Nat.reduceSub, Nat.reduceLT, Int.reduceEq, Int.reduceLT, Int.reduceLE, Int.reduceToNat]
             · replace T := T.2 c10
               obtain ⟨rfl, rfl⟩ := T
               simp only [eq_false c1, eq_false c3, eq_true c5, eq_false c6, eq_false p7, eq_true c8, eq_true c9, eq_false c10, U_val_reckon, lw, le, reduceIte, reduceCtorEq, Nat.reduceEqDiff, Nat.reduceAdd, Nat.reduceLeDiff, Nat.reduceSub, Nat.reduceLT, Int.reduceEq, Int.reduceLT, Int.reduceLE, Int.reduceToNat]
           · replace T := T.2 c9
             obtain ⟨rfl, rfl⟩ := T
             simp only [eq_false c1, eq_false c3, eq_true c5, eq_false c6, eq_false p7, eq_true c8, eq_false c9, U_val_reckon, lw, le, reduceIte, reduceCtorEq, Nat.reduceEqDiff, Nat.reduceAdd, Nat.reduceLeDiff, Nat.reduceSub, Nat.reduceLT, Int.reduceEq, Int.reduceLT, Int.reduceLE, Int.reduceToNat]
         · replace T := T.2 c8
           obtain ⟨rfl, rfl⟩ := T
           simp only [eq_false c1, eq_false c3, eq_true c5, eq_false c6, eq_false p7, eq_false c8, U_val_reckon, lw, le, reduceIte, reduceCtorEq, Nat.reduceEqDiff, Nat.reduceAdd, Nat.reduceLeDiff, Nat.reduceSub, Nat.reduceLT, Int.reduceEq, Int.reduceLT, Int.reduceLE, Int.reduceToNat]
     · replace T := T.2 c5
       by_cases c11 : b = 0
       · replace T := T.1 c11
         obtain ⟨rfl, rfl⟩ := T
         simp only [eq_false c1, eq_false c3, eq_false c5, eq_true c11, U_val_reckon, lw, le, reduceIte, reduceCtorEq, Nat.reduceEqDiff, Nat.reduceAdd, Nat.reduceLeDiff, Nat.reduceSub, Nat.reduceLT, Int.reduceEq, Int.reduceLT, Int.reduceLE, Int.reduceToNat]
       · replace T := T.2 c11
         by_cases c12 : kind = 23
         · replace T := T.1 c12
           obtain ⟨p13, rfl, rfl⟩ := T
           simp only [eq_false c1, eq_false c3, eq_false c5, eq_false c11, eq_true c12, eq_false p13, U_val_reckon, lw, le, reduceIte, reduceCtorEq, Nat.reduceEqDiff, Nat.reduceAdd, Nat.reduceLeDiff, Nat.reduceSub, Nat.reduceLT, Int.reduceEq, Int.reduceLT, Int.reduceLE, Int.reduceToNat]
         · replace T := T.2 c12
           obtain ⟨p14, T⟩ := T
           by_cases c15 : a = (-9223372036854775808)
           · replace T := T.1 c15
             by_cases c16 : b = (-1)
             · replace T := T.1 c16
               obtain ⟨rfl, rfl⟩ := T
               simp only [eq_false c1, eq_false c3, eq_false c5, eq_false c11, eq_false c12, eq_false p14, eq_true c15, eq_true c16, U_val_reckon, lw, le, reduceIte, reduceCtorEq, Nat.reduceEqDiff, Nat.reduceAdd, Nat.reduceLeDiff, Nat.reduceSub, Nat.reduceLT, Int.reduceEq, Int.reduceLT, Int.reduceLE, Int.reduceToNat]
             · replace T := T.2 c16
               obtain ⟨rfl, rfl⟩ := T
               simp only [eq_false c1, eq_false c3, eq_false c5, eq_false c11, eq_false c12, eq_false p14, eq_true c15, eq_false c16, U_val_reckon, lw, le, reduceIte, reduceCtorEq, Nat.reduceEqDiff, Nat.reduceAdd, Nat.reduceLeDiff, Nat.reduceSub, Nat.reduceLT, Int.reduceEq, Int.reduceLT, Int.reduceLE, Int.reduceToNat]
           · replace T := T.2 c15
             obtain ⟨rfl, rfl⟩ := T
             simp only [eq_false c1, eq_false c3, eq_false c5, eq_false c11, eq_false c12, eq_false p14, eq_false c15, U_val_reckon, lw, le, reduceIte, reduceCtorEq, Nat.reduceEqDiff, Nat.reduceAdd, Nat.reduceLeDiff, Nat.reduceSub, Nat.reduceLT, Int.reduceEq, Int.reduceLT, Int.reduceLE, Int.reduceToNat]
theorem sp_val_compare : SP 77 = some (.code sc_val_compare) := SPof_code rfl Tryd.func77 comp_val_compare
/-! doorkeeper/val.compare -/
set_option maxHeartbeats 4000000 in
theorem val_compare_tree (kind : Int) (a : Int) (b : Int) (r : Bool) (T :
  ((kind = 15) →
  (decide (a < b)) = r) ∧
 (¬ (kind = 15) →
  ((kind = 16) →
   (decide (a ≤ b)) = r) ∧
  (¬ (kind = 16) →
   ((kind = 17) →
    (decide (b < a)) = r) ∧
   (¬ (kind = 17) →
    (decide (b ≤ a)) = r)))) : R_val_compare kind a b r := by
 intro S
 rw [call_code sp_val_compare _ _ rfl]
 by_cases c1 : kind = 15
 · replace T := T.1 c1
   obtain rfl := T
   simp only [eq_true c1, U_val_compare, lw, le, reduceIte, reduceCtorEq, Nat.reduceEqDiff, Nat.reduceAdd, Nat.reduceLeDiff, Nat.reduceSub, Nat.reduceLT, Int.reduceEq, Int.reduceLT, Int.reduceLE, Int.reduceToNat]
 · replace T := T.2 c1
   by_cases c2 : kind = 16
   · replace T := T.1 c2
     obtain rfl := T
     simp only [eq_false c1, eq_true c2, U_val_compare, lw, le, reduceIte, reduceCtorEq, Nat.reduceEqDiff, Nat.reduceAdd, Nat.reduceLeDiff, Nat.reduceSub, Nat.reduceLT, Int.reduceEq, Int.reduceLT, Int.reduceLE, Int.reduceToNat]
   · replace T := T.2 c2
     by_cases c3 : kind = 17
     · replace T := T.1 c3
       obtain rfl := T
       simp only [eq_false c1, eq_false c2, eq_true c3, U_val_compare, lw, le, reduceIte, reduceCtorEq, Nat.reduceEqDiff, Nat.reduceAdd, Nat.reduceLeDiff, Nat.reduceSub, Nat.reduceLT, Int.reduceEq, Int.reduceLT, Int.reduceLE, Int.reduceToNat]
     · replace T := T.2 c3
       obtain rfl := T
       simp only [eq_false c1, eq_false c2, eq_false c3, U_val_compare, lw, le, reduceIte, reduceCtorEq, Nat.reduceEqDiff, Nat.reduceAdd, Nat.reduceLeDiff, Nat.reduceSub, Nat.reduceLT, Int.reduceEq, Int.reduceLT, Int.reduceLE, Int.reduceToNat]
theorem sp_val_Bool : SP 75 = some (.code sc_val_Bool) := SPof_code rfl Tryd.func75 comp_val_Bool
/-! doorkeeper/val.Bool -/
set_option maxHeartbeats 4000000 in
theorem val_Bool_tree (is_ : Bool) (r : V) (T :
  ((is_ = true) →
  (V.mk 3 1 [] []) = r) ∧
 (¬ (is_ = true) →
  (V.mk 3 0 [] []) = r)) : R_val_Bool is_ r := by
 intro S
 rw [call_code sp_val_Bool _ _ rfl]
 by_cases c1 : is_ = true
 · replace T := T.1 c1
   obtain rfl := T
   simp only [c1, U_val_Bool, lw, le, reduceIte, reduceCtorEq, Nat.reduceEqDiff, Nat.reduceAdd, Nat.reduceLeDiff, Nat.reduceSub, Nat.reduceLT, Int.reduceEq, Int.reduceLT, Int.reduceLE, Int.reduceToNat]
 · replace T := T.2 c1
   replace c1 := Bool.eq_false_iff.2 c1
   obtain rfl := T
   simp only [c1, U_val_Bool, lw, le, reduceIte, reduceCtorEq, Nat.reduceEqDiff, Nat.reduceAdd, Nat.reduceLeDiff, Nat.reduceSub, Nat.reduceLT, Int.reduceEq, Int.reduceLT, Int.reduceLE, Int.reduceToNat]
theorem sp_val_Int : SP 76 = some (.code sc_val_Int) := SPof_code rfl Tryd.func76 comp_val_Int
/-! doorkeeper/val.Int -/
set_option maxHeartbeats 4000000 in
theorem val_Int_tree (n : Int) (r : V) (T :
  (V.mk 1 n [] []) = r) : R_val_Int n r := by
 intro S
 rw [call_code sp_val_Int _ _ rfl]
 obtain rfl := T
 simp only [U_val_Int, lw, le, reduceIte, reduceCtorEq, Nat.reduceEqDiff, Nat.reduceAdd, Nat.reduceLeDiff, Nat.reduceSub, Nat.reduceLT, Int.reduceEq, Int.reduceLT, Int.reduceLE, Int.reduceToNat]
theorem sp_val_Join : SP 45 = some (.code sc_val_Join) := SPof_code rfl Tryd.func45 comp_val_Join
/-! doorkeeper/val.Join -/
def At_val_Join_1 (l_ : List (List UInt8)) (i1 : Int) (i2 : Int) (i3 : Int) (i4 : Int) (s5 : List UInt8) (l6 : List V) (g7 : Nat) (ra : V) (rb : Int) : Prop := ∀ (S : Sto) (e : Nat → PV) (f : Fr), e 0 = .list 1 (l_.map eS) false ∧ e 2 = .ptr 0 2 0 ∧ e 4 = .int .i64 i1 ∧ e 7 = .list 1 (l_.map eS) false ∧ e 8 = .int .i64 ((l_.length : Nat) : Int) ∧ e 9 = .int .i64 i2 ∧ f.box 2 = some [.int .i64 i3, .int .i64 i4, .str s5, .sl 0 (.cell 2 3) 0 l6.length l6.length g7 false] ∧ f.arr (.cell 2 3) = some ⟨4, encL l6, false, g7⟩ → k_val_Join_1 SP (E SP (.loop b_val_Join_1) ⟨e, f :: S⟩) = .ok (.v (.tup [.agg [.int .i64 ra.k, .int .i64 ra.n, .str ra.s, .list 4 (encL ra.l) false], .int .i64 rb])) S
set_option maxHeartbeats 4000000 in
theorem At_val_Join_1_step (l_ : List (List UInt8)) (i1 : Int) (i2 : Int) (i3 : Int) (i4 : Int) (s5 : List UInt8) (l6 : List V) (g7 : Nat) (ra : V) (rb : Int) (T :
  ((i2 < ((l_.length : Nat) : Int)) →
  (0 ≤ i2) ∧
  ∃ (v8 : List UInt8), (l_[i2.toNat]? = some v8) ∧
  (I64 (400 - i1)) ∧
  (((400 - i1) < ((v8.length : Nat) : Int)) →
   (V.mk 0 0 [] []) = ra ∧ 4 = rb) ∧
  (¬ ((400 - i1) < ((v8.length : Nat) : Int)) →
   (I64 (i1 + ((v8.length : Nat) : Int))) ∧
   (I64 (i2 + 1)) ∧
   At_val_Join_1 l_ (i1 + ((v8.length : Nat) : Int)) (i2 + 1) i3 i4 s5 l6 g7 ra rb)) ∧
 (¬ (i2 < ((l_.length : Nat) : Int)) →
  ∃ (r9 : List UInt8), (R_strings_Join l_ [] r9) ∧
  (V.mk 2 0 r9 []) = ra ∧ 0 = rb)) : At_val_Join_1 l_ i1 i2 i3 i4 s5 l6 g7 ra rb := by
 intro S e f h
 unfold k_val_Join_1
 rw [E_loop]
 by_cases c1 : i2 < ((l_.length : Nat) : Int)
 · replace T := T.1 c1
   obtain ⟨p2, v8, q3, p4, T⟩ := T
   by_cases c5 : (400 - i1) < ((v8.length : Nat) : Int)
   · replace T := T.1 c5
     obtain ⟨rfl, rfl⟩ := T
     simp only [h, eq_true c1, p2, q3, p4.wrap, eq_true c5, U_val_Join, lw, le, reduceIte, reduceCtorEq, Nat.reduceEqDiff, Nat.reduceAdd, Nat.reduceLeDiff, Nat.reduceSub, Nat.reduceLT, Int.reduceEq, Int.reduceLT, Int.reduceLE, Int.reduceToNat]
   · replace T := T.2 c5
     obtain ⟨p6, p7, T⟩ := T
     try simp only [h, eq_true c1, p2, q3, p4.wrap, eq_false c5, p6.wrap, p7.wrap, U_val_Join, lw, le, reduceIte, reduceCtorEq, Nat.reduceEqDiff, Nat.reduceAdd, Nat.reduceLeDiff, Nat.reduceSub, Nat.reduceLT, Int.reduceEq, Int.reduceLT, Int.reduceLE, Int.reduceToNat]
     refine T S _ _ ?_
     simp only [h, eq_true c1, p2, q3, p4.wrap, eq_false c5, p6.wrap, p7.wrap, U_val_Join, lw, le, reduceIte, reduceCtorEq, Nat.reduceEqDiff, Nat.reduceAdd, Nat.reduceLeDiff, Nat.reduceSub, Nat.reduceLT, Int.reduceEq, Int.reduceLT, Int.reduceLE, Int.reduceToNat]
 · replace T := T.2 c1
   obtain ⟨r9, q8, rfl, rfl⟩ := T
   simp only [R_strings_Join, le] at q8
   simp only [h, eq_false c1, q8, U_val_Join, lw, le, reduceIte, reduceCtorEq, Nat.reduceEqDiff, Nat.reduceAdd, Nat.reduceLeDiff, Nat.reduceSub, Nat.reduceLT, Int.reduceEq, Int.reduceLT, Int.reduceLE, Int.reduceToNat]
set_option maxHeartbeats 4000000 in
theorem val_Join_tree (l_ : List (List UInt8)) (ra : V) (rb : Int) (T :
  At_val_Join_1 l_ 0 0 0 0 [] [] 0 ra rb) : R_val_Join l_ ra rb := by
 intro S
 rw [call_code sp_val_Join _ _ rfl]
 try simp only [U_val_Join, lw, le, reduceIte, reduceCtorEq, Nat.reduceEqDiff, Nat.reduceAdd, Nat.reduceLeDiff, Nat.reduceSub, Nat.reduceLT, Int.reduceEq, Int.reduceLT, Int.reduceLE, Int.reduceToNat]
 refine T S _ _ ?_
 simp only [U_val_Join, lw, le, reduceIte, reduceCtorEq, Nat.reduceEqDiff, Nat.reduceAdd, Nat.reduceLeDiff, Nat.reduceSub, Nat.reduceLT, Int.reduceEq, Int.reduceLT, Int.reduceLE, Int.reduceToNat]
theorem sp_ref4_bad : SP 80 = some (.code sc_ref4_bad) := SPof_code rfl Tryd.func80 comp_ref4_bad
/-! doorkeeper/doorkeeperref4.bad -/
set_option maxHeartbeats 4000000 in
theorem ref4_bad_tree (e_ : Int) (r : Got) (T :
  (Got.mk (V.mk 0 0 [] []) e_) = r) : R_ref4_bad e_ r := by
 intro S
 rw [call_code sp_ref4_bad _ _ rfl]
 obtain rfl := T
 simp only [U_ref4_bad, lw, le, reduceIte, reduceCtorEq, Nat.reduceEqDiff, Nat.reduceAdd, Nat.reduceLeDiff, Nat.reduceSub, Nat.reduceLT, Int.reduceEq, Int.reduceLT, Int.reduceLE, Int.reduceToNat]
theorem sp_ref4_truth : SP 81 = some (.code sc_ref4_truth) := SPof_code rfl Tryd.func81 comp_ref4_truth
/-! doorkeeper/doorkeeperref4.truth -/
set_option maxHeartbeats 4000000 in
theorem ref4_truth_tree (is_ : Bool) (r : Got) (T :
  ((is_ = true) →
  (Got.mk (V.mk 3 1 [] []) 0) = r) ∧
 (¬ (is_ = true) →
  (Got.mk (V.mk 3 0 [] []) 0) = r)) : R_ref4_truth is_ r := by
 intro S
 rw [call_code sp_ref4_truth _ _ rfl]
 by_cases c1 : is_ = true
 · replace T := T.1 c1
   obtain rfl := T
   simp only [c1, U_ref4_truth, lw, le, reduceIte, reduceCtorEq, Nat.reduceEqDiff, Nat.reduceAdd, Nat.reduceLeDiff, Nat.reduceSub, Nat.reduceLT, Int.reduceEq, Int.reduceLT, Int.reduceLE, Int.reduceToNat]
 · replace T := T.2 c1
   replace c1 := Bool.eq_false_iff.2 c1
   obtain rfl := T
   simp only [c1, U_ref4_truth, lw, le, reduceIte, reduceCtorEq, Nat.reduceEqDiff, Nat.reduceAdd, Nat.reduceLeDiff, Nat.reduceSub, Nat.reduceLT, Int.reduceEq, Int.reduceLT, Int.reduceLE, Int.reduceToNat]
theorem sp_ref4_num : SP 82 = some (.code sc_ref4_num) := SPof_code rfl Tryd.func82 comp_ref4_num
/-! doorkeeper/doorkeeperref4.num -/
set_option maxHeartbeats 4000000 in
theorem ref4_num_tree (n : Int) (r : Got) (T :
  (Got.mk (V.mk 1 n [] []) 0) = r) : R_ref4_num n r := by
 intro S
 rw [call_code sp_ref4_num _ _ rfl]
 obtain rfl := T
 simp only [U_ref4_num, lw, le, reduceIte, reduceCtorEq, Nat.reduceEqDiff, Nat.reduceAdd, Nat.reduceLeDiff, Nat.reduceSub, Nat.reduceLT, Int.reduceEq, Int.reduceLT, Int.reduceLE, Int.reduceToNat]
theorem sp_ref4_reckon : SP 83 = some (.code sc_ref4_reckon) := SPof_code rfl Tryd.func83 comp_ref4_reckon
/-! doorkeeper/doorkeeperref4.reckon -/
set_option maxHeartbeats 4000000 in
theorem ref4_reckon_tree (kind : Int) (a : Int) (b : Int) (r : Got) (T :
  ((kind = 19) →
  (((decide (a ≤ (IntKind.i64.wrap (a + b)))) = (decide (0 ≤ b))) →
   ∃ (r1 : Got), (R_ref4_num (IntKind.i64.wrap (a + b)) r1) ∧
   r1 = r) ∧
  (¬ ((decide (a ≤ (IntKind.i64.wrap (a + b)))) = (decide (0 ≤ b))) →
   ∃ (r2 : Got), (R_ref4_bad 8 r2) ∧
   r2 = r)) ∧
 (¬ (kind = 19) →
  ((kind = 20) →
   (((decide ((IntKind.i64.wrap (a - b)) ≤ a)) = (decide (0 ≤ b))) →
    ∃ (r3 : Got), (R_ref4_num (IntKind.i64.wrap (a - b)) r3) ∧
    r3 = r) ∧
   (¬ ((decide ((IntKind.i64.wrap (a - b)) ≤ a)) = (decide (0 ≤ b))) →
    ∃ (r4 : Got), (R_ref4_bad 8 r4) ∧
    r4 = r)) ∧
  (¬ (kind = 20) →
   ((kind = 21) →
    ((a = 0) →
     ∃ (r5 : Got), (R_ref4_num (IntKind.i64.wrap (a * b)) r5) ∧
     r5 = r) ∧
    (¬ (a = 0) →
     ((b = 0) →
      ∃ (r6 : Got), (R_ref4_num (IntKind.i64.wrap (a * b)) r6) ∧
      r6 = r) ∧
     (¬ (b = 0) →
      ¬ (b = 0) ∧
      (((IntKind.i64.wrap ((IntKind.i64.wrap (a * b)).tdiv b)) = a) →
       ((b = (-1)) →
        ((a = (-9223372036854775808)) →
         ∃ (r7 : Got), (R_ref4_bad 8 r7) ∧
         r7 = r) ∧
        (¬ (a = (-9223372036854775808)) →
         ∃ (r8 : Got), (R_ref4_num (IntKind.i64.wrap (a * b)) r8) ∧
         r8 = r)) ∧
       (¬ (b = (-1)) →
        ∃ (r9 : Got), (R_ref4_num (IntKind.i64.wrap (a * b)) r9) ∧
        r9 = r)) ∧
      (¬ ((IntKind.i64.wrap ((IntKind.i64.wrap (a * b)).tdiv b)) = a) →
       ∃ (r10 : Got), (R_ref4_bad 8 r10) ∧
       r10 = r)))) ∧
   (¬ (kind = 21) →
    ((b = 0) →
     ∃ (r11 : Got), (R_ref4_bad 9 r11) ∧
     r11 = r) ∧
    (¬ (b = 0) →
     ((a = (-9223372036854775808)) →
      ((b = (-1)) →
       ((kind = 23) →
        ∃ (r12 : Got), (R_ref4_num 0 r12) ∧
        r12 = r) ∧
       (¬ (kind = 23) →
        ∃ (r13 : Got), (R_ref4_bad 8 r13) ∧
        r13 = r)) ∧
      (¬ (b = (-1)) →
       ((kind = 23) →
        ¬ (b = 0) ∧
        ∃ (r14 : Got), (R_ref4_num (a.tmod b) r14) ∧
        r14 = r) ∧
       (¬ (kind = 23) →
        ¬ (b = 0) ∧
        ∃ (r15 : Got), (R_ref4_num (IntKind.i64.wrap (a.tdiv b)) r15) ∧
        r15 = r))) ∧
     (¬ (a = (-9223372036854775808)) →
      ((kind = 23) →
       ¬ (b = 0) ∧
       ∃ (r16 : Got), (R_ref4_num (a.tmod b) r16) ∧
       r16 = r) ∧
      (¬ (kind = 23) →
       ¬ (b = 0) ∧
       ∃ (r17 : Got), (R_ref4_num (IntKind.i64.wrap (a.tdiv b)) r17) ∧
       r17 = r))))))) : R_ref4_reckon kind a b r := by
 intro S
 rw [call_code sp_ref4_reckon _ _ rfl]
 by_cases c1 : kind = 19
 · replace T := T.1 c1
   by_cases c2 : (decide (a ≤ (IntKind.i64.wrap (a + b)))) = (decide (0 ≤ b))
   · replace T := T.1 c2
     obtain ⟨r1, q3, rfl⟩ := T
     simp only [R_ref4_num, le] at q3
     simp only [eq_true c1, c2, q3, U_ref4_reckon, lw, le, reduceIte, reduceCtorEq, Nat.reduceEqDiff, Nat.reduceAdd, Nat.reduceLeDiff, Nat.reduceSub, Nat.reduceLT, Int.reduceEq, Int.reduceLT, Int.reduceLE, Int.reduceToNat]
   · replace T := T.2 c2
     obtain ⟨r2, q4, rfl⟩ := T
     simp only [R_ref4_bad, le] at q4
     simp only [eq_true c1, eq_false c2, q4, U_ref4_reckon, lw, le, reduceIte, reduceCtorEq, Nat.reduceEqDiff, Nat.reduceAdd, Nat.reduceLeDiff, Nat.reduceSub, Nat.reduceLT, Int.reduceEq, Int.reduceLT, Int.reduceLE, Int.reduceToNat]
 · replace T := T.2 c1
   by_cases c5 : kind = 20
   · replace T := T.1 c5
     by_cases c6 : (decide ((IntKind.i64.wrap (a - b)) ≤ a)) = (decide (0 ≤ b))
     · replace T := T.1 c6
       obtain ⟨r3, q7, rfl⟩ := T
       simp only [R_ref4_num, le] at q7
       simp only [eq_false c1, eq_true c5, c6, q7, U_ref4_reckon, lw, le, reduceIte, reduceCtorEq, Nat.reduceEqDiff, Nat.reduceAdd, Nat.reduceLeDiff, Nat.reduceSub, Nat.reduceLT, Int.reduceEq, Int.reduceLT, Int.reduceLE, Int.reduceToNat]
     · replace T := T.2 c6
       obtain ⟨r4, q8, rfl⟩ := T
       simp only [R_ref4_bad, le] at q8
       simp only [eq_false c1, eq_true c5, eq_false c6, q8, U_ref4_reckon, lw, le, reduceIte, reduceCtorEq, Nat.reduceEqDiff, Nat.reduceAdd, Nat.reduceLeDiff, Nat.reduceSub, Nat.reduceLT, Int.reduceEq, Int.reduceLT, Int.reduceLE, Int.reduceToNat]
   · replace T := T.2 c5
     by_cases c9 : kind = 21
     · replace T := T.1 c9
       by_cases c10 : a = 0
       · replace T := T.1 c10
         obtain ⟨r5, q11, rfl⟩ := T
         simp only [R_ref4_num, le] at q11
         simp only [eq_false c1, eq_false c5, eq_true c9, eq_true c10, q11, U_ref4_reckon, lw, le, reduceIte, reduceCtorEq, Nat.reduceEqDiff, Nat.reduceAdd, Nat.reduceLeDiff, Nat.reduceSub, Nat.reduceLT, Int.reduceEq, Int.reduceLT, Int.reduceLE, Int.reduceToNat]
       · replace T := T.2 c10
         by_cases c12 : b = 0
         · replace T := T.1 c12
           obtain ⟨r6, q13, rfl⟩ := T
           simp only [R_ref4_num, le] at q13
           simp only [eq_false c1, eq_false c5, eq_true c9, eq_false c10, eq_true c12, q13, U_ref4_reckon, lw, le, reduceIte, reduceCtorEq, Nat.reduceEqDiff, Nat.reduceAdd, Nat.reduceLeDiff, Nat.reduceSub, Nat.reduceLT, Int.reduceEq, Int.reduceLT, Int.reduceLE, Int.reduceToNat]
         · replace T := T.2 c12
           obtain ⟨p14, T⟩ := T
           by_cases c15 : (IntKind.i64.wrap ((IntKind.i64.wrap (a * b)).tdiv b)) = a
           · replace T := T.1 c15
             by_cases c16 : b = (-1)
             · replace T := T.1 c16
               by_cases c17 : a = (-9223372036854775808)
               · replace T := T.1 c17
                 obtain ⟨r7, q18, rfl⟩ := T
                 simp only [R_ref4_bad, le] at q18
                 simp only [eq_false c1, eq_false c5, eq_true c9, eq_false c10, eq_false c12, eq_false p14, eq_true c15, eq_true c16, eq_true c17, q18, U_ref4_reckon, lw, le, reduceIte, reduceCtorEq, Nat.reduceEqDiff, Nat.reduceAdd, Nat.reduceLeDiff, Nat.reduceSub, Nat.reduceLT, Int.reduceEq, Int.reduceLT, Int.reduceLE, Int.reduceToNat]
               · replace T := T.2 c17
                 obtain ⟨r8, q19, rfl⟩ := T
                 simp only [R_ref4_num, le] at q19
                 simp only [eq_false c1, eq_false c5, eq_true c9, eq_false c10, eq_false c12, eq_false p14, eq_true c15, eq_true c16, eq_false c17, q19, U_ref4_reckon, lw, le, reduceIte, reduceCtorEq, Nat.reduceEqDiff, Nat.reduceAdd, Nat.reduceLeDiff, Nat.reduceSub, Nat.reduceLT, Int.reduceEq, Int.reduceLT, Int.reduceLE, Int.reduceToNat]
             · replace T := T.2 c16
               obtain ⟨r9, q20, rfl⟩ := T
               simp only [R_ref4_num, le] at q20
               simp only [eq_false c1, eq_false c5, eq_true c9, eq_false c10, eq_false c12, eq_false p14, eq_true c15, eq_false c16, q20, U_ref4_reckon, lw, le, reduceIte, reduceCtorEq, Nat.reduceEqDiff, Nat.reduceAdd, Nat.reduceLeDiff, Nat.reduceSub, Nat.reduceLT, Int.reduceEq, Int.reduceLT, Int.reduceLE, Int.reduceToNat]
           · replace T := T.2 c15
             obtain ⟨r10, q21, rfl⟩ := T
             simp only [R_ref4_bad, le] at q21
             simp only [eq_false c1, eq_false c5, eq_true c9, eq_false c10, eq_false c12, eq_false p14, eq_false c15, q21, U_ref4_reckon, lw, le, reduceIte, reduceCtorEq, Nat.reduceEqDiff, Nat.reduceAdd, Nat.reduceLeDiff, Nat.reduceSub, Nat.reduceLT, Int.reduceEq, Int.reduceLT, Int.reduceLE, Int.reduceToNat]
     · replace T := T.2 c9
       by_cases c22 : b = 0
       · replace T := T.1 c22
         obtain ⟨r11, q23, rfl⟩ := T
         simp only [R_ref4_bad, le] at q23
         simp only [eq_false c1, eq_false c5, eq_false c9, eq_true c22, q23, U_ref4_reckon, lw, le, reduceIte, reduceCtorEq, Nat.reduceEqDiff, Nat.reduceAdd, Nat.reduceLeDiff, Nat.reduceSub, Nat.reduceLT, Int.reduceEq, Int.reduceLT, Int.reduceLE, Int.reduceToNat]
       · replace T := T.2 c22
         by_cases c24 : a = (-9223372036854775808)
         · replace T := T.1 c24
           by_cases c25 : b = (-1)
           · replace T := T.1 c25
             by_cases c26 : kind = 23
             · replace T := T.1 c26
               obtain ⟨r12, q27, rfl⟩ := T
               simp only [R_ref4_num, le] at q27
               simp only [eq_false c1, eq_false c5, eq_false c9, eq_false c22, eq_true c24, eq_true c25, eq_true c26, q27, U_ref4_reckon, lw, le, reduceIte, reduceCtorEq, Nat.reduceEqDiff, Nat.reduceAdd, Nat.reduceLeDiff, Nat.reduceSub, Nat.reduceLT, Int.reduceEq, Int.reduceLT, Int.reduceLE, Int.reduceToNat]
             · replace T := T.2 c26
               obtain ⟨r13, q28, rfl⟩ := T
               simp only [R_ref4_bad, le] at q28
               simp only [eq_false c1, eq_false c5, eq_false c9, eq_false c22, eq_true c24, eq_true c25, eq_false c26, q28, U_ref4_reckon, lw, le, reduceIte, reduceCtorEq, Nat.reduceEqDiff, Nat.reduceAdd, Nat.reduceLeDiff, Nat.reduceSub, Nat.reduceLT, Int.reduceEq, Int.reduceLT, Int.reduceLE, Int.reduceToNat]
           · replace T := T.2 c25
             by_cases c29 : kind = 23
             · replace T := T.1 c29
               obtain ⟨p30, r14, q31, rfl⟩ := T
               simp only [R_ref4_num, le] at q31
               simp only [eq_false c1, eq_false c5, eq_false c9, eq_false c22, eq_true c24, eq_false c25, eq_true c29, eq_false p30, q31, U_ref4_reckon, lw, le, reduceIte, reduceCtorEq, Nat.reduceEqDiff, Nat.reduceAdd, Nat.reduceLeDiff, Nat.reduceSub, Nat.reduceLT, Int.reduceEq, Int.reduceLT, Int.reduceLE, Int.reduceToNat]
             · replace T := T.2 c29
               obtain ⟨p32, r15, q33, rfl⟩ := T
               simp only [R_ref4_num, le] at q33
               simp only [eq_false c1, eq_false c5, eq_false c9, eq_false c22, eq_true c24, eq_false c25, eq_false c29, eq_false p32, q33, U_ref4_reckon, lw, le, reduceIte, reduceCtorEq, Nat.reduceEqDiff, Nat.reduceAdd, Nat.reduceLeDiff, Nat.reduceSub, Nat.reduceLT, Int.reduceEq, Int.reduceLT, Int.reduceLE, Int.reduceToNat]
         · replace T := T.2 c24
           by_cases c34 : kind = 23
           · replace T := T.1 c34
             obtain ⟨p35, r16, q36, rfl⟩ := T
             simp only [R_ref4_num, le] at q36
             simp only [eq_false c1, eq_false c5, eq_false c9, eq_false c22, eq_false c24, eq_true c34, eq_false p35, q36, U_ref4_reckon, lw, le, reduceIte, reduceCtorEq, Nat.reduceEqDiff, Nat.reduceAdd, Nat.reduceLeDiff, Nat.reduceSub, Nat.reduceLT, Int.reduceEq, Int.reduceLT, Int.reduceLE, Int.reduceToNat]
           · replace T := T.2 c34
             obtain ⟨p37, r17, q38, rfl⟩ := T
             simp only [R_ref4_num, le] at q38
             simp only [eq_false c1, eq_false c5, eq_false c9, eq_false c22, eq_false c24, eq_false c34, eq_false p37, q38, U_ref4_reckon, lw, le, reduceIte, reduceCtorEq, Nat.reduceEqDiff, Nat.reduceAdd, Nat.reduceLeDiff, Nat.reduceSub, Nat.reduceLT, Int.reduceEq, Int.reduceLT, Int.reduceLE, Int.reduceToNat]
theorem sp_ref4_One : SP 42 = some (.code sc_ref4_One) := SPof_code rfl Tryd.func42 comp_ref4_One
/-! doorkeeper/doorkeeperref4.One -/
set_option maxHeartbeats 4000000 in
theorem ref4_One_tree (kind : Int) (v : V) (r : Got) (T :
  ((kind = 8) →
  ((v.k = 3) →
   ∃ (r1 : Got), (R_ref4_truth (decide (v.n = 0)) r1) ∧
   r1 = r) ∧
  (¬ (v.k = 3) →
   ((kind = 9) →
    ((v.k = 1) →
     ((v.n = (-9223372036854775808)) →
      ∃ (r2 : Got), (R_ref4_bad 8 r2) ∧
      r2 = r) ∧
     (¬ (v.n = (-9223372036854775808)) →
      (I64 (0 - v.n)) ∧
      ∃ (r3 : Got), (R_ref4_num (0 - v.n) r3) ∧
      r3 = r)) ∧
    (¬ (v.k = 1) →
     ∃ (r4 : Got), (R_ref4_bad 7 r4) ∧
     r4 = r)) ∧
   (¬ (kind = 9) →
    ∃ (r5 : Got), (R_ref4_bad 7 r5) ∧
    r5 = r))) ∧
 (¬ (kind = 8) →
  ((kind = 9) →
   ((v.k = 1) →
    ((v.n = (-9223372036854775808)) →
     ∃ (r6 : Got), (R_ref4_bad 8 r6) ∧
     r6 = r) ∧
    (¬ (v.n = (-9223372036854775808)) →
     (I64 (0 - v.n)) ∧
     ∃ (r7 : Got), (R_ref4_num (0 - v.n) r7) ∧
     r7 = r)) ∧
   (¬ (v.k = 1) →
    ∃ (r8 : Got), (R_ref4_bad 7 r8) ∧
    r8 = r)) ∧
  (¬ (kind = 9) →
   ∃ (r9 : Got), (R_ref4_bad 1 r9) ∧
   r9 = r))) : R_ref4_One kind v r := by
 intro S
 rw [call_code sp_ref4_One _ _ rfl]
 by_cases c1 : kind = 8
 · replace T := T.1 c1
   by_cases c2 : v.k = 3
   · replace T := T.1 c2
     obtain ⟨r1, q3, rfl⟩ := T
     simp only [R_ref4_truth, le] at q3
     simp only [eq_true c1, eq_true c2, q3, U_ref4_One, lw, le, reduceIte, reduceCtorEq, Nat.reduceEqDiff, Nat.reduceAdd, Nat.reduceLeDiff, Nat.reduceSub, Nat.reduceLT, Int.reduceEq, Int.reduceLT, Int.reduceLE, Int.reduceToNat]
   · replace T := T.2 c2
     by_cases c4 : kind = 9
     · replace T := T.1 c4
       by_cases c5 : v.k = 1
       · replace T := T.1 c5
         by_cases c6 : v.n = (-9223372036854775808)
         · replace T := T.1 c6
           obtain ⟨r2, q7, rfl⟩ := T
           simp only [R_ref4_bad, le] at q7
           simp only [eq_true c1, eq_false c2, eq_true c4, eq_true c5, eq_true c6, q7, U_ref4_One, lw, le, reduceIte, reduceCtorEq, Nat.reduceEqDiff, Nat.reduceAdd, Nat.reduceLeDiff, Nat.reduceSub, Nat.reduceLT, Int.reduceEq, Int.reduceLT, Int.reduceLE, Int.reduceToNat]
         · replace T := T.2 c6
           obtain ⟨p8, r3, q9, rfl⟩ := T
           simp only [R_ref4_num, le] at q9
           simp only [eq_true c1, eq_false c2, eq_true c4, eq_true c5, eq_false c6, p8.wrap, q9, U_ref4_One, lw, le, reduceIte, reduceCtorEq, Nat.reduceEqDiff, Nat.reduceAdd, Nat.reduceLeDiff, Nat.reduceSub, Nat.reduceLT, Int.reduceEq, Int.reduceLT, Int.reduceLE, Int.reduceToNat]
       · replace T := T.2 c5
         obtain ⟨r4, q10, rfl⟩ := T
         simp only [R_ref4_bad, le] at q10
         simp only [eq_true c1, eq_false c2, eq_true c4, eq_false c5, q10, U_ref4_One, lw, le, reduceIte, reduceCtorEq, Nat.reduceEqDiff, Nat.reduceAdd, Nat.reduceLeDiff, Nat.reduceSub, Nat.reduceLT, Int.reduceEq, Int.reduceLT, Int.reduceLE, Int.reduceToNat]
     · replace T := T.2 c4
       obtain ⟨r5, q11, rfl⟩ := T
       simp only [R_ref4_bad, le] at q11
       simp only [eq_true c1, eq_false c2, eq_false c4, q11, U_ref4_One, lw, le, reduceIte, reduceCtorEq, Nat.reduceEqDiff, Nat.reduceAdd, Nat.reduceLeDiff, Nat.reduceSub, Nat.reduceLT, Int.reduceEq, Int.reduceLT, Int.reduceLE, Int.reduceToNat]
 · replace T := T.2 c1
   by_cases c12 : kind = 9
   · replace T := T.1 c12
     by_cases c13 : v.k = 1
     · replace T := T.1 c13
       by_cases c14 : v.n = (-9223372036854775808)
       · replace T := T.1 c14
         obtain ⟨r6, q15, rfl⟩ := T
         simp only [R_ref4_bad, le] at q15
         simp only [eq_false c1, eq_true c12, eq_true c13, eq_true c14, q15, U_ref4_One, lw, le, reduceIte, reduceCtorEq, Nat.reduceEqDiff, Nat.reduceAdd, Nat.reduceLeDiff, Nat.reduceSub, Nat.reduceLT, Int.reduceEq, Int.reduceLT, Int.reduceLE, Int.reduceToNat]
       · replace T := T.2 c14
         obtain ⟨p16, r7, q17, rfl⟩ := T
         simp only [R_ref4_num, le] at q17
         simp only [eq_false c1, eq_true c12, eq_true c13, eq_false c14, p16.wrap, q17, U_ref4_One, lw, le, reduceIte, reduceCtorEq, Nat.reduceEqDiff, Nat.reduceAdd, Nat.reduceLeDiff, Nat.reduceSub, Nat.reduceLT, Int.reduceEq, Int.reduceLT, Int.reduceLE, Int.reduceToNat]
     · replace T := T.2 c13
       obtain ⟨r8, q18, rfl⟩ := T
       simp only [R_ref4_bad, le] at q18
       simp only [eq_false c1, eq_true c12, eq_false c13, q18, U_ref4_One, lw, le, reduceIte, reduceCtorEq, Nat.reduceEqDiff, Nat.reduceAdd, Nat.reduceLeDiff, Nat.reduceSub, Nat.reduceLT, Int.reduceEq, Int.reduceLT, Int.reduceLE, Int.reduceToNat]
   · replace T := T.2 c12
     obtain ⟨r9, q19, rfl⟩ := T
     simp only [R_ref4_bad, le] at q19
     simp only [eq_false c1, eq_false c12, q19, U_ref4_One, lw, le, reduceIte, reduceCtorEq, Nat.reduceEqDiff, Nat.reduceAdd, Nat.reduceLeDiff, Nat.reduceSub, Nat.reduceLT, Int.reduceEq, Int.reduceLT, Int.reduceLE, Int.reduceToNat]
theorem sp_ref4_Two : SP 43 = some (.code sc_ref4_Two) := SPof_code rfl Tryd.func43 comp_ref4_Two
/-! doorkeeper/doorkeeperref4.Two -/
set_option maxHeartbeats 4000000 in
theorem ref4_Two_tree (kind : Int) (a : V) (b : V) (r : Got) (T :
  ((a.k = 1) →
  ((kind < 11) →
   ∃ (r1 : Got), (R_ref4_bad 1 r1) ∧
   r1 = r) ∧
  (¬ (kind < 11) →
   ((23 < kind) →
    ∃ (r2 : Got), (R_ref4_bad 1 r2) ∧
    r2 = r) ∧
   (¬ (23 < kind) →
    ((kind = 11) →
     ((a.k = 3) →
      ((b.k = 3) →
       ((a.n = 1) →
        ∃ (r3 : Got), (R_ref4_truth true r3) ∧
        r3 = r) ∧
       (¬ (a.n = 1) →
        ∃ (r4 : Got), (R_ref4_truth (decide (b.n = 1)) r4) ∧
        r4 = r)) ∧
      (¬ (b.k = 3) →
       ∃ (r5 : Got), (R_ref4_bad 7 r5) ∧
       r5 = r)) ∧
     (¬ (a.k = 3) →
      ∃ (r6 : Got), (R_ref4_bad 7 r6) ∧
      r6 = r)) ∧
    (¬ (kind = 11) →
     ((kind = 12) →
      ((a.k = 3) →
       ((b.k = 3) →
        ((a.n = 1) →
         ∃ (r7 : Got), (R_ref4_truth (decide (b.n = 1)) r7) ∧
         r7 = r) ∧
        (¬ (a.n = 1) →
         ∃ (r8 : Got), (R_ref4_truth false r8) ∧
         r8 = r)) ∧
       (¬ (b.k = 3) →
        ∃ (r9 : Got), (R_ref4_bad 7 r9) ∧
        r9 = r)) ∧
      (¬ (a.k = 3) →
       ∃ (r10 : Got), (R_ref4_bad 7 r10) ∧
       r10 = r)) ∧
     (¬ (kind = 12) →
      ((kind = 13) →
       ((a.k = b.k) →
        ∃ (r11 : Bool), (R_ref4_SameVal a b r11) ∧
        ∃ (r12 : Got), (R_ref4_truth (decide (r11 = true)) r12) ∧
        r12 = r) ∧
       (¬ (a.k = b.k) →
        ∃ (r13 : Got), (R_ref4_bad 7 r13) ∧
        r13 = r)) ∧
      (¬ (kind = 13) →
       ((kind = 14) →
        ((a.k = b.k) →
         ∃ (r14 : Bool), (R_ref4_SameVal a b r14) ∧
         ∃ (r15 : Got), (R_ref4_truth (decide (r14 = false)) r15) ∧
         r15 = r) ∧
        (¬ (a.k = b.k) →
         ∃ (r16 : Got), (R_ref4_bad 7 r16) ∧
         r16 = r)) ∧
       (¬ (kind = 14) →
        ((b.k = 1) →
         ((kind = 15) →
          ∃ (r17 : Got), (R_ref4_truth (decide (a.n < b.n)) r17) ∧
          r17 = r) ∧
         (¬ (kind = 15) →
          ((kind = 16) →
           ∃ (r18 : Got), (R_ref4_truth (decide (a.n ≤ b.n)) r18) ∧
           r18 = r) ∧
          (¬ (kind = 16) →
           ((kind = 17) →
            ∃ (r19 : Got), (R_ref4_truth (decide (b.n < a.n)) r19) ∧
            r19 = r) ∧
           (¬ (kind = 17) →
            ((kind = 18) →
             ∃ (r20 : Got), (R_ref4_truth (decide (b.n ≤ a.n)) r20) ∧
             r20 = r) ∧
            (¬ (kind = 18) →
             ∃ (r21 : Got), (R_ref4_reckon kind a.n b.n r21) ∧
             r21 = r))))) ∧
        (¬ (b.k = 1) →
         ∃ (r22 : Got), (R_ref4_bad 7 r22) ∧
         r22 = r)))))))) ∧
 (¬ (a.k = 1) →
  ((kind < 11) →
   ∃ (r23 : Got), (R_ref4_bad 1 r23) ∧
   r23 = r) ∧
  (¬ (kind < 11) →
   ((23 < kind) →
    ∃ (r24 : Got), (R_ref4_bad 1 r24) ∧
    r24 = r) ∧
   (¬ (23 < kind) →
    ((kind = 11) →
     ((a.k = 3) →
      ((b.k = 3) →
       ((a.n = 1) →
        ∃ (r25 : Got), (R_ref4_truth true r25) ∧
        r25 = r) ∧
       (¬ (a.n = 1) →
        ∃ (r26 : Got), (R_ref4_truth (decide (b.n = 1)) r26) ∧
        r26 = r)) ∧
      (¬ (b.k = 3) →
       ∃ (r27 : Got), (R_ref4_bad 7 r27) ∧
       r27 = r)) ∧
     (¬ (a.k = 3) →
      ∃ (r28 : Got), (R_ref4_bad 7 r28) ∧
      r28 = r)) ∧
    (¬ (kind = 11) →
     ((kind = 12) →
      ((a.k = 3) →
       ((b.k = 3) →
        ((a.n = 1) →
         ∃ (r29 : Got), (R_ref4_truth (decide (b.n = 1)) r29) ∧
         r29 = r) ∧
        (¬ (a.n = 1) →
         ∃ (r30 : Got), (R_ref4_truth false r30) ∧
         r30 = r)) ∧
       (¬ (b.k = 3) →
        ∃ (r31 : Got), (R_ref4_bad 7 r31) ∧
        r31 = r)) ∧
      (¬ (a.k = 3) →
       ∃ (r32 : Got), (R_ref4_bad 7 r32) ∧
       r32 = r)) ∧
     (¬ (kind = 12) →
      ((kind = 13) →
       ((a.k = b.k) →
        ∃ (r33 : Bool), (R_ref4_SameVal a b r33) ∧
        ∃ (r34 : Got), (R_ref4_truth (decide (r33 = true)) r34) ∧
        r34 = r) ∧
       (¬ (a.k = b.k) →
        ∃ (r35 : Got), (R_ref4_bad 7 r35) ∧
        r35 = r)) ∧
      (¬ (kind = 13) →
       ((kind = 14) →
        ((a.k = b.k) →
         ∃ (r36 : Bool), (R_ref4_SameVal a b r36) ∧
         ∃ (r37 : Got), (R_ref4_truth (decide (r36 = false)) r37) ∧
         r37 = r) ∧
        (¬ (a.k = b.k) →
         ∃ (r38 : Got), (R_ref4_bad 7 r38) ∧
         r38 = r)) ∧
       (¬ (kind = 14) →
        ∃ (r39 : Got), (R_ref4_bad 7 r39) ∧
        r39 = r)))))))) : R_ref4_Two kind a b r := by
 intro S
 rw [call_code sp_ref4_Two _ _ rfl]
 by_cases c1 : a.k = 1
 · replace T := T.1 c1
   by_cases c2 : kind < 11
   · replace T := T.1 c2
     obtain ⟨r1, q3, rfl⟩ := T
     simp only [R_ref4_bad, le] at q3
     simp only [eq_true c1, eq_true c2, q3, U_ref4_Two, lw, le, reduceIte, reduceCtorEq, Nat.reduceEqDiff, Nat.reduceAdd, Nat.reduceLeDiff, Nat.reduceSub, Nat.reduceLT, Int.reduceEq, Int.reduceLT, Int.reduceLE, Int.reduceToNat]
   · replace T := T.2 c2
     by_cases c4 : 23 < kind
     · replace T := T.1 c4
       obtain ⟨r2, q5, rfl⟩ := T
       simp only [R_ref4_bad, le] at q5
       simp only [eq_true c1, eq_false c2, eq_true c4, q5, U_ref4_Two, lw, le, reduceIte, reduceCtorEq, Nat.reduceEqDiff, Nat.reduceAdd, Nat.reduceLeDiff, Nat.reduceSub, Nat.reduceLT, Int.reduceEq, Int.reduceLT, Int.reduceLE, Int.reduceToNat]
     · replace T := T.2 c4
       by_cases c6 : kind = 11
       · replace T := T.1 c6
         by_cases c7 : a.k = 3
         · replace T := T.1 c7
           by_cases c8 : b.k = 3
           · replace T := T.1 c8
             by_cases c9 : a.n = 1
             · replace T := T.1 c9
               obtain ⟨r3, q10, rfl⟩ := T
               simp only [R_ref4_truth, le] at q10
               simp only [eq_true c1, eq_false c2, eq_false c4, eq_true c6, eq_true c7, eq_true c8, eq_true c9, q10, U_ref4_Two, lw, le, reduceIte, reduceCtorEq, Nat.reduceEqDiff, Nat.reduceAdd, Nat.reduceLeDiff, Nat.reduceSub, Nat.reduceLT, Int.reduceEq, Int.reduceLT, Int.reduceLE, Int.reduceToNat]
             · replace T := T.2 c9
               obtain ⟨r4, q11, rfl⟩ := T
               simp only [R_ref4_truth, le] at q11
               simp only [eq_true c1, eq_false c2, eq_false c4, eq_true c6, eq_true c7, eq_true c8, eq_false c9, q11, U_ref4_Two, lw, le, reduceIte, reduceCtorEq, Nat.reduceEqDiff, Nat.reduceAdd, Nat.reduceLeDiff, Nat.reduceSub, Nat.reduceLT, Int.reduceEq, Int.reduceLT, Int.reduceLE, Int.reduceToNat]
           · replace T := T.2 c8
             obtain ⟨r5, q12, rfl⟩ := T
             simp only [R_ref4_bad, le] at q12
             simp only [eq_true c1, eq_false c2, eq_false c4, eq_true c6, eq_true c7, eq_false c8, q12, U_ref4_Two, lw, le, reduceIte, reduceCtorEq, Nat.reduceEqDiff, Nat.reduceAdd, Nat.reduceLeDiff, Nat.reduceSub, Nat.reduceLT, Int.reduceEq, Int.reduceLT, Int.reduceLE, Int.reduceToNat]
         · replace T := T.2 c7
           obtain ⟨r6, q13, rfl⟩ := T
           simp only [R_ref4_bad, le] at q13
           simp only [eq_true c1, eq_false c2, eq_false c4, eq_true c6, eq_false c7, q13, U_ref4_Two, lw, le, reduceIte, reduceCtorEq, Nat.reduceEqDiff, Nat.reduceAdd, Nat.reduceLeDiff, Nat.reduceSub, Nat.reduceLT, Int.reduceEq, Int.reduceLT, Int.reduceLE, Int.reduceToNat]
       · replace T := T.2 c6
         by_cases c14 : kind = 12
         · replace T := T.1 c14
           by_cases c15 : a.k = 3
           · replace T := T.1 c15
             by_cases c16 : b.k = 3
             · replace T := T.1 c16
               by_cases c17 : a.n = 1
               · replace T := T.1 c17
                 obtain ⟨r7, q18, rfl⟩ := T
                 simp only [R_ref4_truth, le] at q18
                 simp only [eq_true c1, eq_false c2, eq_false c4, eq_false c6, eq_true c14, eq_true c15, eq_true c16, eq_true c17, q18, U_ref4_Two, lw, le, reduceIte, reduceCtorEq, Nat.reduceEqDiff, Nat.reduceAdd, Nat.reduceLeDiff, Nat.reduceSub, Nat.reduceLT, Int.reduceEq, Int.reduceLT, Int.reduceLE, Int.reduceToNat]
               · replace T := T.2 c17
                 obtain ⟨r8, q19, rfl⟩ := T
                 simp only [R_ref4_truth, le] at q19
                 simp only [eq_true c1, eq_false c2, eq_false c4, eq_false c6, eq_true c14, eq_true c15, eq_true c16, eq_false c17, q19, U_ref4_Two, lw, le, reduceIte, reduceCtorEq, Nat.reduceEqDiff, Nat.reduceAdd, Nat.reduceLeDiff, Nat.reduceSub, Nat.reduceLT, Int.reduceEq, Int.reduceLT, Int.reduceLE, Int.reduceToNat]
             · replace T := T.2 c16
               obtain ⟨r9, q20, rfl⟩ := T
               simp only [R_ref4_bad, le] at q20
               simp only [eq_true c1, eq_false c2, eq_false c4, eq_false c6, eq_true c14, eq_true c15, eq_false c16, q20, U_ref4_Two, lw, le, reduceIte, reduceCtorEq, Nat.reduceEqDiff, Nat.reduceAdd, Nat.reduceLeDiff, Nat.reduceSub, Nat.reduceLT, Int.reduceEq, Int.reduceLT, Int.reduceLE, Int.reduceToNat]
           · replace T := T.2 c15
             obtain ⟨r10, q21, rfl⟩ := T
             simp only [R_ref4_bad, le] at q21
             simp only [eq_true c1, eq_false c2, eq_false c4, eq_false c6, eq_true c14, eq_false c15, q21, U_ref4_Two, lw, le, reduceIte, reduceCtorEq, Nat.reduceEqDiff, Nat.reduceAdd, Nat.reduceLeDiff, Nat.reduceSub, Nat.reduceLT, Int.reduceEq, Int.reduceLT, Int.reduceLE, Int.reduceToNat]
         · replace T := T.2 c14
           by_cases c22 : kind = 13
           · replace T := T.1 c22
             by_cases c23 : a.k = b.k
             · replace T := T.1 c23
               obtain ⟨r11, q24, r12, q25, rfl⟩ := T
               simp only [R_ref4_SameVal, le] at q24
               simp only [R_ref4_truth, le] at q25
               simp only [eq_true c1, eq_false c2, eq_false c4, eq_false c6, eq_false c14, eq_true c22, eq_true c23, q24, q25, U_ref4_Two, lw, le, reduceIte, reduceCtorEq, Nat.reduceEqDiff, Nat.reduceAdd, Nat.reduceLeDiff, Nat.reduceSub, Nat.reduceLT, Int.reduceEq, Int.reduceLT, Int.reduceLE, Int.reduceToNat]
             · replace T := T.2 c23
               obtain ⟨r13, q26, rfl⟩ := T
               simp only [R_ref4_bad, le] at q26
               simp only [eq_true c1, eq_false c2, eq_false c4, eq_false c6, eq_false c14, eq_true c22, eq_false c23, q26, U_ref4_Two, lw, le, reduceIte, reduceCtorEq, Nat.reduceEqDiff, Nat.reduceAdd, Nat.reduceLeDiff, Nat.reduceSub, Nat.reduceLT, Int.reduceEq, Int.reduceLT, Int.reduceLE, Int.reduceToNat]
           · replace T := T.2 c22
             by_cases c27 : kind = 14
             · replace T := T.1 c27
               by_cases c28 : a.k = b.k
               · replace T := T.1 c28
                 obtain ⟨r14, q29, r15, q30, rfl⟩ := T
                 simp only [R_ref4_SameVal, le] at q29
                 simp only [R_ref4_truth, le] at q30
                 simp only [eq_true c1, eq_false c2, eq_false c4, eq_false c6, eq_false c14, eq_false c22, eq_true c27, eq_true c28, q29, q30, U_ref4_Two, lw, le, reduceIte, reduceCtorEq, Nat.reduceEqDiff, Nat.reduceAdd, Nat.reduceLeDiff, Nat.reduceSub, Nat.reduceLT, Int.reduceEq, Int.reduceLT, Int.reduceLE, Int.reduceToNat]
               · replace T := T.2 c28
                 obtain ⟨r16, q31, rfl⟩ := T
                 simp only [R_ref4_bad, le] at q31
                 simp only [eq_true c1, eq_false c2, eq_false c4, eq_false c6, eq_false c14, eq_false c22, eq_true c27, eq_false c28, q31, U_ref4_Two, lw, le, reduceIte, reduceCtorEq, Nat.reduceEqDiff, Nat.reduceAdd, Nat.reduceLeDiff, Nat.reduceSub, Nat.reduceLT, Int.reduceEq, Int.reduceLT, Int.reduceLE, Int.reduceToNat]
             · replace T := T.2 c27
               by_cases c32 : b.k = 1
               · replace T := T.1 c32
                 by_cases c33 : kind = 15
                 · replace T := T.1 c33
                   obtain ⟨r17, q34, rfl⟩ := T
                   simp only [R_ref4_truth, le] at q34
                   simp only [eq_true c1, eq_false c2, eq_false c4, eq_false c6, eq_false c14, eq_false c22, eq_false c27, eq_true c32, eq_true c33, q34, U_ref4_Two, lw, le, reduceIte, reduceCtorEq, Nat.reduceEqDiff, Nat.reduceAdd, Nat.reduceLeDiff, Nat.reduceSub, Nat.reduceLT, Int.reduceEq, Int.reduceLT, Int.reduceLE, Int.reduceToNat]
                 · replace T := T.2 c33
                   by_cases c35 : kind = 16
                   · replace T := T.1 c35
                     obtain ⟨r18, q36, rfl⟩ := T
                     simp only [R_ref4_truth, le] at q36
                     simp only [eq_true c1, eq_false c2, eq_false c4, eq_false c6, eq_false c14, eq_false c22, eq_false c27, eq_true c32, eq_false c33, eq_true c35, q36, U_ref4_Two, lw, le, reduceIte, reduceCtorEq, Nat.reduceEqDiff, Nat.reduceAdd, Nat.reduceLeDiff, Nat.reduceSub, Nat.reduceLT, Int.reduceEq, Int.reduceLT, Int.reduceLE, Int.reduceToNat]
                   · replace T := T.2 c35
                     by_cases c37 : kind = 17
                     · replace T := T.1 c37
                       obtain ⟨r19, q38, rfl⟩ := T
                       simp only [R_ref4_truth, le] at q38
                       simp only [eq_true c1, eq_false c2, eq_false c4, eq_false c6, eq_false c14, eq_false c22, eq_false c27, eq_true c32, eq_false c33, eq_false c35, eq_true c37, q38, U_ref4_Two, lw, le, reduceIte, reduceCtorEq, Nat.reduceEqDiff, Nat.reduceAdd, Nat.reduceLeDiff, Nat.reduceSub, Nat.reduceLT, Int.reduceEq, Int.reduceLT, Int.reduceLE, Int.reduceToNat]
                     · replace T := T.2 c37
                       by_cases c39 : kind = 18
                       · replace T := T.1 c39
                         obtain ⟨r20, q40, rfl⟩ := T
                         simp only [R_ref4_truth, le] at q40
                         simp only [eq_true c1, eq_false c2, eq_false c4, eq_false c6, eq_false c14, eq_false c22, eq_false c27, eq_true c32, eq_false c33, eq_false c35, eq_false c37, eq_true c39, q40, U_ref4_Two, lw, le, reduceIte, reduceCtorEq, Nat.reduceEqDiff, Nat.reduceAdd, Nat.reduceLeDiff, Nat.reduceSub, Nat.reduceLT, Int.reduceEq, Int.reduceLT, Int.reduceLE, Int.reduceToNat]
                       · replace T := T.2 c39
                         obtain ⟨r21, q41, rfl⟩ := T
                         simp only [R_ref4_reckon, le] at q41
                         simp only [eq_true c1, eq_false c2, eq_false c4, eq_false c6, eq_false c14, eq_false c22, eq_false c27, eq_true c32, eq_false c33, eq_false c35, eq_false c37, eq_false c39, q41, U_ref4_Two, lw, le, reduceIte, reduceCtorEq, Nat.reduceEqDiff, Nat.reduceAdd, Nat.reduceLeDiff, Nat.reduceSub, Nat.reduceLT, Int.reduceEq, Int.reduceLT, Int.reduceLE, Int.reduceToNat]
               · replace T := T.2 c32
                 obtain ⟨r22, q42, rfl⟩ := T
                 simp only [R_ref4_bad, le] at q42
                 simp only [eq_true c1, eq_false c2, eq_false c4, eq_false c6, eq_false c14, eq_false c22, eq_false c27, eq_false c32, q42, U_ref4_Two, lw, le, reduceIte, reduceCtorEq, Nat.reduceEqDiff, Nat.reduceAdd, Nat.reduceLeDiff, Nat.reduceSub, Nat.reduceLT, Int.reduceEq, Int.reduceLT, Int.reduceLE, Int.reduceToNat]
 · replace T := T.2 c1
   by_cases c43 : kind < 11
   · replace T := T.1 c43
     obtain ⟨r23, q44, rfl⟩ := T
     simp only [R_ref4_bad, le] at q44
     simp only [eq_false c1, eq_true c43, q44, U_ref4_Two, lw, le, reduceIte, reduceCtorEq, Nat.reduceEqDiff, Nat.reduceAdd, Nat.reduceLeDiff, Nat.reduceSub, Nat.reduceLT, Int.reduceEq, Int.reduceLT, Int.reduceLE, Int.reduceToNat]
   · replace T := T.2 c43
     by_cases c45 : 23 < kind
     · replace T := T.1 c45
       obtain ⟨r24, q46, rfl⟩ := T
       simp only [R_ref4_bad, le] at q46
       simp only [eq_false c1, eq_false c43, eq_true c45, q46, U_ref4_Two, lw, le, reduceIte, reduceCtorEq, Nat.reduceEqDiff, Nat.reduceAdd, Nat.reduceLeDiff, Nat.reduceSub, Nat.reduceLT, Int.reduceEq, Int.reduceLT, Int.reduceLE, Int.reduceToNat]
     · replace T := T.2 c45
       by_cases c47 : kind = 11
       · replace T := T.1 c47
         by_cases c48 : a.k = 3
         · replace T := T.1 c48
           by_cases c49 : b.k = 3
           · replace T := T.1 c49
             by_cases c50 : a.n = 1
             · replace T := T.1 c50
               obtain ⟨r25, q51, rfl⟩ := T
               simp only [R_ref4_truth, le] at q51
               simp only [eq_false c1, eq_false c43, eq_false c45, eq_true c47, eq_true c48, eq_true c49, eq_true c50, q51, U_ref4_Two, lw, le, reduceIte, reduceCtorEq, Nat.reduceEqDiff, Nat.reduceAdd, Nat.reduceLeDiff, Nat.reduceSub, Nat.reduceLT, Int.reduceEq, Int.reduceLT, Int.reduceLE, Int.reduceToNat]
             · replace T := T.2 c50
               obtain ⟨r26, q52, rfl⟩ := T
               simp only [R_ref4_truth, le] at q52
               simp only [eq_false c1, eq_false c43, eq_false c45, eq_true c47, eq_true c48, eq_true c49, eq_false c50, q52, U_ref4_Two, lw, le, reduceIte, reduceCtorEq, Nat.reduceEqDiff, Nat.reduceAdd, Nat.reduceLeDiff, Nat.reduceSub, Nat.reduceLT, Int.reduceEq, Int.reduceLT, Int.reduceLE, Int.reduceToNat]
           · replace T := T.2 c49
             obtain ⟨r27, q53, rfl⟩ := T
             simp only [R_ref4_bad, le] at q53
             simp only [eq_false c1, eq_false c43, eq_false c45, eq_true c47, eq_true c48, eq_false c49, q53, U_ref4_Two, lw, le, reduceIte, reduceCtorEq, Nat.reduceEqDiff, Nat.reduceAdd, Nat.reduceLeDiff, Nat.reduceSub, Nat.reduceLT, Int.reduceEq, Int.reduceLT, Int.reduceLE, Int.reduceToNat]
         · replace T := T.2 c48
           obtain ⟨r28, q54, rfl⟩ := T
           simp only [R_ref4_bad, le] at q54
           simp only [eq_false c1, eq_false c43, eq_false c45, eq_true c47, eq_false c48, q54, U_ref4_Two, lw, le, reduceIte, reduceCtorEq, Nat.reduceEqDiff, Nat.reduceAdd, Nat.reduceLeDiff, Nat.reduceSub, Nat.reduceLT, Int.reduceEq, Int.reduceLT, Int.reduceLE, Int.reduceToNat]
       · replace T := T.2 c47
         by_cases c55 : kind = 12
         · replace T := T.1 c55
           by_cases c56 : a.k = 3
           · replace T := T.1 c56
             by_cases c57 : b.k = 3
             · replace T := T.1 c57
               by_cases c58 : a.n = 1
               · replace T := T.1 c58
                 obtain ⟨r29, q59, rfl⟩ := T
                 simp only [R_ref4_truth, le] at q59
                 simp only [eq_false c1, eq_false c43, eq_false c45, eq_false c47, eq_true c55, eq_true c56, eq_true c57, eq_true c58, q59, U_ref4_Two, lw, le, reduceIte, reduceCtorEq, Nat.reduceEqDiff, Nat.reduceAdd, Nat.reduceLeDiff, Nat.reduceSub, Nat.reduceLT, Int.reduceEq, Int.reduceLT, Int.reduceLE, Int.reduceToNat]
               · replace T := T.2 c58
                 obtain ⟨r30, q60, rfl⟩ := T
                 simp only [R_ref4_truth, le] at q60
                 simp only [eq_false c1, eq_false c43, eq_false c45, eq_false c47, eq_true c55, eq_true c56, eq_true c57, eq_false c58, q60, U_ref4_Two, lw, le, reduceIte, reduceCtorEq, Nat.reduceEqDiff, Nat.reduceAdd, Nat.reduceLeDiff, Nat.reduceSub, Nat.reduceLT, Int.reduceEq, Int.reduceLT, Int.reduceLE, Int.reduceToNat]
             · replace T := T.2 c57
               obtain ⟨r31, q61, rfl⟩ := T
               simp only [R_ref4_bad, le] at q61
               simp only [eq_false c1, eq_false c43, eq_false c45, eq_false c47, eq_true c55, eq_true c56, eq_false c57, q61, U_ref4_Two, lw, le, reduceIte, reduceCtorEq, Nat.reduceEqDiff, Nat.reduceAdd, Nat.reduceLeDiff, Nat.reduceSub, Nat.reduceLT, Int.reduceEq, Int.reduceLT, Int.reduceLE, Int.reduceToNat]
           · replace T := T.2 c56
             obtain ⟨r32, q62, rfl⟩ := T
             simp only [R_ref4_bad, le] at q62
             simp only [eq_false c1, eq_false c43, eq_false c45, eq_false c47, eq_true c55, eq_false c56, q62, U_ref4_Two, lw, le, reduceIte, reduceCtorEq, Nat.reduceEqDiff, Nat.reduceAdd, Nat.reduceLeDiff, Nat.reduceSub, Nat.reduceLT, Int.reduceEq, Int.reduceLT, Int.reduceLE, Int.reduceToNat]
         · replace T := T.2 c55
           by_cases c63 : kind = 13
           · replace T := T.1 c63
             by_cases c64 : a.k = b.k
             · replace T := T.1 c64
               obtain ⟨r33, q65, r34, q66, rfl⟩ := T
               simp only [R_ref4_SameVal, le] at q65
               simp only [R_ref4_truth, le] at q66
               simp only [eq_false c1, eq_false c43, eq_false c45, eq_false c47, eq_false c55, eq_true c63, eq_true c64, q65, q66, U_ref4_Two, lw, le, reduceIte, reduceCtorEq, Nat.reduceEqDiff, Nat.reduceAdd, Nat.reduceLeDiff, Nat.reduceSub, Nat.reduceLT, Int.reduceEq, Int.reduceLT, Int.reduceLE, Int.reduceToNat]
             · replace T := T.2 c64
               obtain ⟨r35, q67, rfl⟩ := T
               simp only [R_ref4_bad, le] at q67
               simp only [eq_false c1, eq_false c43, eq_false c45, eq_false c47, eq_false c55, eq_true c63, eq_false c64, q67, U_ref4_Two, lw, le, reduceIte, reduceCtorEq, Nat.reduceEqDiff, Nat.reduceAdd, Nat.reduceLeDiff, Nat.reduceSub, Nat.reduceLT, Int.reduceEq, Int.reduceLT, Int.reduceLE, Int.reduceToNat]
           · replace T := T.2 c63
             by_cases c68 : kind = 14
             · replace T := T.1 c68
               by_cases c69 : a.k = b.k
               · replace T := T.1 c69
                 obtain ⟨r36, q70, r37, q71, rfl⟩ := T
                 simp only [R_ref4_SameVal, le] at q70
                 simp only [R_ref4_truth, le] at q71
                 simp only [eq_false c1, eq_false c43, eq_false c45, eq_false c47, eq_false c55, eq_false c63, eq_true c68, eq_true c69, q70, q71, U_ref4_Two, lw, le, reduceIte, reduceCtorEq, Nat.reduceEqDiff, Nat.reduceAdd, Nat.reduceLeDiff, Nat.reduceSub, Nat.reduceLT, Int.reduceEq, Int.reduceLT, Int.reduceLE, Int.reduceToNat]
               · replace T := T.2 c69
                 obtain ⟨r38, q72, rfl⟩ := T
                 simp only [R_ref4_bad, le] at q72
                 simp only [eq_false c1, eq_false c43, eq_false c45, eq_false c47, eq_false c55, eq_false c63, eq_true c68, eq_false c69, q72, U_ref4_Two, lw, le, reduceIte, reduceCtorEq, Nat.reduceEqDiff, Nat.reduceAdd, Nat.reduceLeDiff, Nat.reduceSub, Nat.reduceLT, Int.reduceEq, Int.reduceLT, Int.reduceLE, Int.reduceToNat]
             · replace T := T.2 c68
               obtain ⟨r39, q73, rfl⟩ := T
               simp only [R_ref4_bad, le] at q73
               simp only [eq_false c1, eq_false c43, eq_false c45, eq_false c47, eq_false c55, eq_false c63, eq_false c68, q73, U_ref4_Two, lw, le, reduceIte, reduceCtorEq, Nat.reduceEqDiff, Nat.reduceAdd, Nat.reduceLeDiff, Nat.reduceSub, Nat.reduceLT, Int.reduceEq, Int.reduceLT, Int.reduceLE, Int.reduceToNat]
theorem sp_ref4_Index : SP 44 = some (.code sc_ref4_Index) := SPof_code rfl Tryd.func44 comp_ref4_Index
/-! doorkeeper/doorkeeperref4.Index -/
set_option maxHeartbeats 4000000 in
theorem ref4_Index_tree (a : V) (b : V) (r : Got) (T :
  ((a.k = 4) →
  ((b.k = 1) →
   ((b.n < 0) →
    ∃ (r1 : Got), (R_ref4_bad 2 r1) ∧
    r1 = r) ∧
   (¬ (b.n < 0) →
    ((((a.l.length : Nat) : Int) ≤ b.n) →
     ∃ (r2 : Got), (R_ref4_bad 2 r2) ∧
     r2 = r) ∧
    (¬ (((a.l.length : Nat) : Int) ≤ b.n) →
     (0 ≤ b.n) ∧
     ∃ (v3 : V), (a.l[b.n.toNat]? = some v3) ∧
     (Got.mk v3 0) = r))) ∧
  (¬ (b.k = 1) →
   ∃ (r4 : Got), (R_ref4_bad 7 r4) ∧
   r4 = r)) ∧
 (¬ (a.k = 4) →
  ∃ (r5 : Got), (R_ref4_bad 7 r5) ∧
  r5 = r)) : R_ref4_Index a b r := by
 intro S
 rw [call_code sp_ref4_Index _ _ rfl]
 by_cases c1 : a.k = 4
 · replace T := T.1 c1
   by_cases c2 : b.k = 1
   · replace T := T.1 c2
     by_cases c3 : b.n < 0
     · replace T := T.1 c3
       obtain ⟨r1, q4, rfl⟩ := T
       simp only [R_ref4_bad, le] at q4
       simp only [eq_true c1, eq_true c2, eq_true c3, q4, U_ref4_Index, lw, le, reduceIte, reduceCtorEq, Nat.reduceEqDiff, Nat.reduceAdd, Nat.reduceLeDiff, Nat.reduceSub, Nat.reduceLT, Int.reduceEq, Int.reduceLT, Int.reduceLE, Int.reduceToNat]
     · replace T := T.2 c3
       by_cases c5 : ((a.l.length : Nat) : Int) ≤ b.n
       · replace T := T.1 c5
         obtain ⟨r2, q6, rfl⟩ := T
         simp only [R_ref4_bad, le] at q6
         simp only [eq_true c1, eq_true c2, eq_false c3, eq_true c5, q6, U_ref4_Index, lw, le, reduceIte, reduceCtorEq, Nat.reduceEqDiff, Nat.reduceAdd, Nat.reduceLeDiff, Nat.reduceSub, Nat.reduceLT, Int.reduceEq, Int.reduceLT, Int.reduceLE, Int.reduceToNat]
       · replace T := T.2 c5
         obtain ⟨p7, v3, q8, rfl⟩ := T
         simp only [eq_true c1, eq_true c2, eq_false c3, eq_false c5, p7, q8, U_ref4_Index, lw, le, reduceIte, reduceCtorEq, Nat.reduceEqDiff, Nat.reduceAdd, Nat.reduceLeDiff, Nat.reduceSub, Nat.reduceLT, Int.reduceEq, Int.reduceLT, Int.reduceLE, Int.reduceToNat]
   · replace T := T.2 c2
     obtain ⟨r4, q9, rfl⟩ := T
     simp only [R_ref4_bad, le] at q9
     simp only [eq_true c1, eq_false c2, q9, U_ref4_Index, lw, le, reduceIte, reduceCtorEq, Nat.reduceEqDiff, Nat.reduceAdd, Nat.reduceLeDiff, Nat.reduceSub, Nat.reduceLT, Int.reduceEq, Int.reduceLT, Int.reduceLE, Int.reduceToNat]
 · replace T := T.2 c1
   obtain ⟨r5, q10, rfl⟩ := T
   simp only [R_ref4_bad, le] at q10
   simp only [eq_false c1, q10, U_ref4_Index, lw, le, reduceIte, reduceCtorEq, Nat.reduceEqDiff, Nat.reduceAdd, Nat.reduceLeDiff, Nat.reduceSub, Nat.reduceLT, Int.reduceEq, Int.reduceLT, Int.reduceLE, Int.reduceToNat]
theorem sp_ref4_SameVal : SP 37 = some (.code sc_ref4_SameVal) := SPof_code rfl Tryd.func37 comp_ref4_SameVal
/-! doorkeeper/doorkeeperref4.SameVal -/
def At_ref4_SameVal_1 (a : V) (b : V) (i1 : Int) (r : Bool) : Prop := ∀ (S : Sto) (e : Nat → PV) (f : Fr), e 2 = .ptr 0 2 0 ∧ e 3 = .ptr 0 3 0 ∧ e 5 = .int .i64 i1 ∧ f.box 2 = some [.int .i64 a.k, .int .i64 a.n, .str a.s, .list 4 (encL a.l) false] ∧ f.box 3 = some [.int .i64 b.k, .int .i64 b.n, .str b.s, .list 4 (encL b.l) false] → k_ref4_SameVal_1 SP (E SP (.loop b_ref4_SameVal_1) ⟨e, f :: S⟩) = .ok (.v (.bool r)) S
set_option maxHeartbeats 4000000 in
theorem At_ref4_SameVal_1_step (a : V) (b : V) (i1 : Int) (r : Bool) (T :
  ((i1 < ((a.l.length : Nat) : Int)) →
  (0 ≤ i1) ∧
  ∃ (v2 : V), (a.l[i1.toNat]? = some v2) ∧
  (0 ≤ i1) ∧
  ∃ (v3 : V), (b.l[i1.toNat]? = some v3) ∧
  ∃ (r4 : Bool), (R_ref4_SameVal v2 v3 r4) ∧
  ((r4 = true) →
   (I64 (i1 + 1)) ∧
   At_ref4_SameVal_1 a b (i1 + 1) r) ∧
  (¬ (r4 = true) →
   false = r)) ∧
 (¬ (i1 < ((a.l.length : Nat) : Int)) →
  true = r)) : At_ref4_SameVal_1 a b i1 r := by
 intro S e f h
 unfold k_ref4_SameVal_1
 rw [E_loop]
 by_cases c1 : i1 < ((a.l.length : Nat) : Int)
 · replace T := T.1 c1
   obtain ⟨p2, v2, q3, p4, v3, q5, r4, q6, T⟩ := T
   simp only [R_ref4_SameVal, le] at q6
   by_cases c7 : r4 = true
   · replace T := T.1 c7
     obtain ⟨p8, T⟩ := T
     try simp only [h, eq_true c1, p2, q3, p4, q5, q6, c7, p8.wrap, U_ref4_SameVal, lw, le, reduceIte, reduceCtorEq, Nat.reduceEqDiff, Nat.reduceAdd, Nat.reduceLeDiff, Nat.reduceSub, Nat.reduceLT, Int.reduceEq, Int.reduceLT, Int.reduceLE, Int.reduceToNat]
     refine T S _ _ ?_
     simp only [h, eq_true c1, p2, q3, p4, q5, q6, c7, p8.wrap, U_ref4_SameVal, lw, le, reduceIte, reduceCtorEq, Nat.reduceEqDiff, Nat.reduceAdd, Nat.reduceLeDiff, Nat.reduceSub, Nat.reduceLT, Int.reduceEq, Int.reduceLT, Int.reduceLE, Int.reduceToNat]
   · replace T := T.2 c7
     replace c7 := Bool.eq_false_iff.2 c7
     obtain rfl := T
     simp only [h, eq_true c1, p2, q3, p4, q5, q6, c7, U_ref4_SameVal, lw, le, reduceIte, reduceCtorEq, Nat.reduceEqDiff, Nat.reduceAdd, Nat.reduceLeDiff, Nat.reduceSub, Nat.reduceLT, Int.reduceEq, Int.reduceLT, Int.reduceLE, Int.reduceToNat]
 · replace T := T.2 c1
   obtain rfl := T
   simp only [h, eq_false c1, U_ref4_SameVal, lw, le, reduceIte, reduceCtorEq, Nat.reduceEqDiff, Nat.reduceAdd, Nat.reduceLeDiff, Nat.reduceSub, Nat.reduceLT, Int.reduceEq, Int.reduceLT, Int.reduceLE, Int.reduceToNat]
set_option maxHeartbeats 4000000 in
theorem ref4_SameVal_tree (a : V) (b : V) (r : Bool) (T :
  ((a.k = b.k) →
  ((a.n = b.n) →
   ((a.s = b.s) →
    ((((a.l.length : Nat) : Int) = ((b.l.length : Nat) : Int)) →
     At_ref4_SameVal_1 a b 0 r) ∧
    (¬ (((a.l.length : Nat) : Int) = ((b.l.length : Nat) : Int)) →
     false = r)) ∧
   (¬ (a.s = b.s) →
    false = r)) ∧
  (¬ (a.n = b.n) →
   false = r)) ∧
 (¬ (a.k = b.k) →
  false = r)) : R_ref4_SameVal a b r := by
 intro S
 rw [call_code sp_ref4_SameVal _ _ rfl]
 by_cases c1 : a.k = b.k
 · replace T := T.1 c1
   by_cases c2 : a.n = b.n
   · replace T := T.1 c2
     by_cases c3 : a.s = b.s
     · replace T := T.1 c3
       by_cases c4 : ((a.l.length : Nat) : Int) = ((b.l.length : Nat) : Int)
       · replace T := T.1 c4
         try simp only [eq_true c1, eq_true c2, eq_true c3, eq_true c4, U_ref4_SameVal, lw, le, reduceIte, reduceCtorEq, Nat.reduceEqDiff, Nat.reduceAdd, Nat.reduceLeDiff, Nat.reduceSub, Nat.reduceLT, Int.reduceEq, Int.reduceLT, Int.reduceLE, Int.reduceToNat]
         refine T S _ _ ?_
         simp only [eq_true c1, eq_true c2, eq_true c3, eq_true c4, U_ref4_SameVal, lw, le, reduceIte, reduceCtorEq, Nat.reduceEqDiff, Nat.reduceAdd, Nat.reduceLeDiff, Nat.reduceSub, Nat.reduceLT, Int.reduceEq, Int.reduceLT, Int.reduceLE, Int.reduceToNat]
       · replace T := T.2 c4
         obtain rfl := T
         simp only [eq_true c1, eq_true c2, eq_true c3, eq_false c4, U_ref4_SameVal, lw, le, reduceIte, reduceCtorEq, Nat.reduceEqDiff, Nat.reduceAdd, Nat.reduceLeDiff, Nat.reduceSub, Nat.reduceLT, Int.reduceEq, Int.reduceLT, Int.reduceLE, Int.reduceToNat]
     · replace T := T.2 c3
       obtain rfl := T
       simp only [eq_true c1, eq_true c2, eq_false c3, U_ref4_SameVal, lw, le, reduceIte, reduceCtorEq, Nat.reduceEqDiff, Nat.reduceAdd, Nat.reduceLeDiff, Nat.reduceSub, Nat.reduceLT, Int.reduceEq, Int.reduceLT, Int.reduceLE, Int.reduceToNat]
   · replace T := T.2 c2
     obtain rfl := T
     simp only [eq_true c1, eq_false c2, U_ref4_SameVal, lw, le, reduceIte, reduceCtorEq, Nat.reduceEqDiff, Nat.reduceAdd, Nat.reduceLeDiff, Nat.reduceSub, Nat.reduceLT, Int.reduceEq, Int.reduceLT, Int.reduceLE, Int.reduceToNat]
 · replace T := T.2 c1
   obtain rfl := T
   simp only [eq_false c1, U_ref4_SameVal, lw, le, reduceIte, reduceCtorEq, Nat.reduceEqDiff, Nat.reduceAdd, Nat.reduceLeDiff, Nat.reduceSub, Nat.reduceLT, Int.reduceEq, Int.reduceLT, Int.reduceLE, Int.reduceToNat]
theorem sp_ref4_Type : SP 39 = some (.code sc_ref4_Type) := SPof_code rfl Tryd.func39 comp_ref4_Type
/-! doorkeeper/doorkeeperref4.Type -/
set_option maxHeartbeats 4000000 in
theorem ref4_Type_tree (v : V) (r : List UInt8) (T :
  ((v.k = 1) →
  [105, 110, 116] = r) ∧
 (¬ (v.k = 1) →
  ((v.k = 2) →
   [115, 116, 114, 105, 110, 103] = r) ∧
  (¬ (v.k = 2) →
   ((v.k = 3) →
    [98, 111, 111, 108] = r) ∧
   (¬ (v.k = 3) →
    [108, 105, 115, 116] = r)))) : R_ref4_Type v r := by
 intro S
 rw [call_code sp_ref4_Type _ _ rfl]
 by_cases c1 : v.k = 1
 · replace T := T.1 c1
   obtain rfl := T
   simp only [eq_true c1, U_ref4_Type, lw, le, reduceIte, reduceCtorEq, Nat.reduceEqDiff, Nat.reduceAdd, Nat.reduceLeDiff, Nat.reduceSub, Nat.reduceLT, Int.reduceEq, Int.reduceLT, Int.reduceLE, Int.reduceToNat]
 · replace T := T.2 c1
   by_cases c2 : v.k = 2
   · replace T := T.1 c2
     obtain rfl := T
     simp only [eq_false c1, eq_true c2, U_ref4_Type, lw, le, reduceIte, reduceCtorEq, Nat.reduceEqDiff, Nat.reduceAdd, Nat.reduceLeDiff, Nat.reduceSub, Nat.reduceLT, Int.reduceEq, Int.reduceLT, Int.reduceLE, Int.reduceToNat]
   · replace T := T.2 c2
     by_cases c3 : v.k = 3
     · replace T := T.1 c3
       obtain rfl := T
       simp only [eq_false c1, eq_false c2, eq_true c3, U_ref4_Type, lw, le, reduceIte, reduceCtorEq, Nat.reduceEqDiff, Nat.reduceAdd, Nat.reduceLeDiff, Nat.reduceSub, Nat.reduceLT, Int.reduceEq, Int.reduceLT, Int.reduceLE, Int.reduceToNat]
     · replace T := T.2 c3
       obtain rfl := T
       simp only [eq_false c1, eq_false c2, eq_false c3, U_ref4_Type, lw, le, reduceIte, reduceCtorEq, Nat.reduceEqDiff, Nat.reduceAdd, Nat.reduceLeDiff, Nat.reduceSub, Nat.reduceLT, Int.reduceEq, Int.reduceLT, Int.reduceLE, Int.reduceToNat]
theorem sp_ref4_Text : SP 32 = some (.code sc_ref4_Text) := SPof_code rfl Tryd.func32 comp_ref4_Text
/-! doorkeeper/doorkeeperref4.Text -/
set_option maxHeartbeats 4000000 in
theorem ref4_Text_tree (v : V) (r : Said) (T :
  ((v.k = 1) →
  ∃ (r1 : List UInt8), (R_ref1_Digits v.n r1) ∧
  (Said.mk r1 0) = r) ∧
 (¬ (v.k = 1) →
  ((v.k = 2) →
   (Said.mk v.s 0) = r) ∧
  (¬ (v.k = 2) →
   ((v.k = 3) →
    ((v.n = 1) →
     (Said.mk [116, 114, 117, 101] 0) = r) ∧
    (¬ (v.n = 1) →
     (Said.mk [102, 97, 108, 115, 101] 0) = r)) ∧
   (¬ (v.k = 3) →
    (Said.mk [] 7) = r)))) : R_ref4_Text v r := by
 intro S
 rw [call_code sp_ref4_Text _ _ rfl]
 by_cases c1 : v.k = 1
 · replace T := T.1 c1
   obtain ⟨r1, q2, rfl⟩ := T
   simp only [R_ref1_Digits, le] at q2
   simp only [eq_true c1, q2, U_ref4_Text, lw, le, reduceIte, reduceCtorEq, Nat.reduceEqDiff, Nat.reduceAdd, Nat.reduceLeDiff, Nat.reduceSub, Nat.reduceLT, Int.reduceEq, Int.reduceLT, Int.reduceLE, Int.reduceToNat]
 · replace T := T.2 c1
   by_cases c3 : v.k = 2
   · replace T := T.1 c3
     obtain rfl := T
     simp only [eq_false c1, eq_true c3, U_ref4_Text, lw, le, reduceIte, reduceCtorEq, Nat.reduceEqDiff, Nat.reduceAdd, Nat.reduceLeDiff, Nat.reduceSub, Nat.reduceLT, Int.reduceEq, Int.reduceLT, Int.reduceLE, Int.reduceToNat]
   · replace T := T.2 c3
     by_cases c4 : v.k = 3
     · replace T := T.1 c4
       by_cases c5 : v.n = 1
       · replace T := T.1 c5
         obtain rfl := T
         simp only [eq_false c1, eq_false c3, eq_true c4, eq_true c5, U_ref4_Text, lw, le, reduceIte, reduceCtorEq, Nat.reduceEqDiff, Nat.reduceAdd, Nat.reduceLeDiff, Nat.reduceSub, Nat.reduceLT, Int.reduceEq, Int.reduceLT, Int.reduceLE, Int.reduceToNat]
       · replace T := T.2 c5
         obtain rfl := T
         simp only [eq_false c1, eq_false c3, eq_true c4, eq_false c5, U_ref4_Text, lw, le, reduceIte, reduceCtorEq, Nat.reduceEqDiff, Nat.reduceAdd, Nat.reduceLeDiff, Nat.reduceSub, Nat.reduceLT, Int.reduceEq, Int.reduceLT, Int.reduceLE, Int.reduceToNat]
     · replace T := T.2 c4
       obtain rfl := T
       simp only [eq_false c1, eq_false c3, eq_false c4, U_ref4_Text, lw, le, reduceIte, reduceCtorEq, Nat.reduceEqDiff, Nat.reduceAdd, Nat.reduceLeDiff, Nat.reduceSub, Nat.reduceLT, Int.reduceEq, Int.reduceLT, Int.reduceLE, Int.reduceToNat]
theorem sp_ref4_deep : SP 72 = some (.code sc_ref4_deep) := SPof_code rfl Tryd.func72 comp_ref4_deep
/-! doorkeeper/doorkeeperref4.deep -/
def At_ref4_deep_1 (v : V) (left : Int) (i1 : Int) (i2 : Int) (r : Int) : Prop := ∀ (S : Sto) (e : Nat → PV) (f : Fr), e 1 = .int .i64 left ∧ e 2 = .ptr 0 2 0 ∧ e 5 = .int .i64 i1 ∧ e 6 = .int .i64 i2 ∧ f.box 2 = some [.int .i64 v.k, .int .i64 v.n, .str v.s, .list 4 (encL v.l) false] → k_ref4_deep_1 SP (E SP (.loop b_ref4_deep_1) ⟨e, f :: S⟩) = .ok (.v (.int .i64 r)) S
set_option maxHeartbeats 4000000 in
theorem At_ref4_deep_1_step (v : V) (left : Int) (i1 : Int) (i2 : Int) (r : Int) (T :
  ((i2 < ((v.l.length : Nat) : Int)) →
  (0 ≤ i2) ∧
  ∃ (v3 : V), (v.l[i2.toNat]? = some v3) ∧
  (I64 (left - 1)) ∧
  ∃ (r4 : Int), (R_ref4_deep v3 (left - 1) r4) ∧
  (I64 (i2 + 1)) ∧
  At_ref4_deep_1 v left (if i1 < r4 then r4 else i1) (i2 + 1) r) ∧
 (¬ (i2 < ((v.l.length : Nat) : Int)) →
  (I64 (i1 + 1)) ∧
  (i1 + 1) = r)) : At_ref4_deep_1 v left i1 i2 r := by
 intro S e f h
 unfold k_ref4_deep_1
 rw [E_loop]
 by_cases c1 : i2 < ((v.l.length : Nat) : Int)
 · replace T := T.1 c1
   obtain ⟨p2, v3, q3, p4, r4, q5, p6, T⟩ := T
   simp only [R_ref4_deep, le] at q5
   try simp only [h, eq_true c1, p2, q3, p4.wrap, q5, p6.wrap, U_ref4_deep, lw, le, reduceIte, reduceCtorEq, Nat.reduceEqDiff, Nat.reduceAdd, Nat.reduceLeDiff, Nat.reduceSub, Nat.reduceLT, Int.reduceEq, Int.reduceLT, Int.reduceLE, Int.reduceToNat]
   refine T S _ _ ?_
   simp only [h, eq_true c1, p2, q3, p4.wrap, q5, p6.wrap, U_ref4_deep, lw, le, reduceIte, reduceCtorEq, Nat.reduceEqDiff, Nat.reduceAdd, Nat.reduceLeDiff, Nat.reduceSub, Nat.reduceLT, Int.reduceEq, Int.reduceLT, Int.reduceLE, Int.reduceToNat]
 · replace T := T.2 c1
   obtain ⟨p7, rfl⟩ := T
   simp only [h, eq_false c1, p7.wrap, U_ref4_deep, lw, le, reduceIte, reduceCtorEq, Nat.reduceEqDiff, Nat.reduceAdd, Nat.reduceLeDiff, Nat.reduceSub, Nat.reduceLT, Int.reduceEq, Int.reduceLT, Int.reduceLE, Int.reduceToNat]
set_option maxHeartbeats 4000000 in
theorem ref4_deep_tree (v : V) (left : Int) (r : Int) (T :
  ((v.k = 4) →
  ((left ≤ 0) →
   1000 = r) ∧
  (¬ (left ≤ 0) →
   At_ref4_deep_1 v left 0 0 r)) ∧
 (¬ (v.k = 4) →
  0 = r)) : R_ref4_deep v left r := by
 intro S
 rw [call_code sp_ref4_deep _ _ rfl]
 by_cases c1 : v.k = 4
 · replace T := T.1 c1
   by_cases c2 : left ≤ 0
   · replace T := T.1 c2
     obtain rfl := T
     simp only [eq_true c1, eq_true c2, U_ref4_deep, lw, le, reduceIte, reduceCtorEq, Nat.reduceEqDiff, Nat.reduceAdd, Nat.reduceLeDiff, Nat.reduceSub, Nat.reduceLT, Int.reduceEq, Int.reduceLT, Int.reduceLE, Int.reduceToNat]
   · replace T := T.2 c2
     try simp only [eq_true c1, eq_false c2, U_ref4_deep, lw, le, reduceIte, reduceCtorEq, Nat.reduceEqDiff, Nat.reduceAdd, Nat.reduceLeDiff, Nat.reduceSub, Nat.reduceLT, Int.reduceEq, Int.reduceLT, Int.reduceLE, Int.reduceToNat]
     refine T S _ _ ?_
     simp only [eq_true c1, eq_false c2, U_ref4_deep, lw, le, reduceIte, reduceCtorEq, Nat.reduceEqDiff, Nat.reduceAdd, Nat.reduceLeDiff, Nat.reduceSub, Nat.reduceLT, Int.reduceEq, Int.reduceLT, Int.reduceLE, Int.reduceToNat]
 · replace T := T.2 c1
   obtain rfl := T
   simp only [eq_false c1, U_ref4_deep, lw, le, reduceIte, reduceCtorEq, Nat.reduceEqDiff, Nat.reduceAdd, Nat.reduceLeDiff, Nat.reduceSub, Nat.reduceLT, Int.reduceEq, Int.reduceLT, Int.reduceLE, Int.reduceToNat]
theorem sp_ref4_fields : SP 73 = some (.code sc_ref4_fields) := SPof_code rfl Tryd.func73 comp_ref4_fields
/-! doorkeeper/doorkeeperref4.fields -/
def At_ref4_fields_1 (v : V) (i1 : Int) (r : Bool) : Prop := ∀ (S : Sto) (e : Nat → PV) (f : Fr), e 1 = .ptr 0 1 0 ∧ e 3 = .int .i64 i1 ∧ f.box 1 = some [.int .i64 v.k, .int .i64 v.n, .str v.s, .list 4 (encL v.l) false] → k_ref4_fields_1 SP (E SP (.loop b_ref4_fields_1) ⟨e, f :: S⟩) = .ok (.v (.bool r)) S
set_option maxHeartbeats 4000000 in
theorem At_ref4_fields_1_step (v : V) (i1 : Int) (r : Bool) (T :
  ((i1 < ((v.l.length : Nat) : Int)) →
  (0 ≤ i1) ∧
  ∃ (v2 : V), (v.l[i1.toNat]? = some v2) ∧
  ∃ (r3 : Bool), (R_ref4_fields v2 r3) ∧
  ((r3 = true) →
   (I64 (i1 + 1)) ∧
   At_ref4_fields_1 v (i1 + 1) r) ∧
  (¬ (r3 = true) →
   false = r)) ∧
 (¬ (i1 < ((v.l.length : Nat) : Int)) →
  ((v.n = 0) →
   ((v.s = []) →
    (decide (((v.l.length : Nat) : Int) ≤ 64)) = r) ∧
   (¬ (v.s = []) →
    false = r)) ∧
  (¬ (v.n = 0) →
   false = r))) : At_ref4_fields_1 v i1 r := by
 intro S e f h
 unfold k_ref4_fields_1
 rw [E_loop]
 by_cases c1 : i1 < ((v.l.length : Nat) : Int)
 · replace T := T.1 c1
   obtain ⟨p2, v2, q3, r3, q4, T⟩ := T
   simp only [R_ref4_fields, le] at q4
   by_cases c5 : r3 = true
   · replace T := T.1 c5
     obtain ⟨p6, T⟩ := T
     try simp only [h, eq_true c1, p2, q3, q4, c5, p6.wrap, U_ref4_fields, lw, le, reduceIte, reduceCtorEq, Nat.reduceEqDiff, Nat.reduceAdd, Nat.reduceLeDiff, Nat.reduceSub, Nat.reduceLT, Int.reduceEq, Int.reduceLT, Int.reduceLE, Int.reduceToNat]
     refine T S _ _ ?_
     simp only [h, eq_true c1, p2, q3, q4, c5, p6.wrap, U_ref4_fields, lw, le, reduceIte, reduceCtorEq, Nat.reduceEqDiff, Nat.reduceAdd, Nat.reduceLeDiff, Nat.reduceSub, Nat.reduceLT, Int.reduceEq, Int.reduceLT, Int.reduceLE, Int.reduceToNat]
   · replace T := T.2 c5
     replace c5 := Bool.eq_false_iff.2 c5
     obtain rfl := T
     simp only [h, eq_true c1, p2, q3, q4, c5, U_ref4_fields, lw, le, reduceIte, reduceCtorEq, Nat.reduceEqDiff, Nat.reduceAdd, Nat.reduceLeDiff, Nat.reduceSub, Nat.reduceLT, Int.reduceEq, Int.reduceLT, Int.reduceLE, Int.reduceToNat]
 · replace T := T.2 c1
   by_cases c7 : v.n = 0
   · replace T := T.1 c7
     by_cases c8 : v.s = []
     · replace T := T.1 c8
       obtain rfl := T
       simp only [h, eq_false c1, eq_true c7, eq_true c8, U_ref4_fields, lw, le, reduceIte, reduceCtorEq, Nat.reduceEqDiff, Nat.reduceAdd, Nat.reduceLeDiff, Nat.reduceSub, Nat.reduceLT, Int.reduceEq, Int.reduceLT, Int.reduceLE, Int.reduceToNat]
     · replace T := T.2 c8
       obtain rfl := T
       simp only [h, eq_false c1, eq_true c7, eq_false c8, U_ref4_fields, lw, le, reduceIte, reduceCtorEq, Nat.reduceEqDiff, Nat.reduceAdd, Nat.reduceLeDiff, Nat.reduceSub, Nat.reduceLT, Int.reduceEq, Int.reduceLT, Int.reduceLE, Int.reduceToNat]
   · replace T := T.2 c7
     obtain rfl := T
     simp only [h, eq_false c1, eq_false c7, U_ref4_fields, lw, le, reduceIte, reduceCtorEq, Nat.reduceEqDiff, Nat.reduceAdd, Nat.reduceLeDiff, Nat.reduceSub, Nat.reduceLT, Int.reduceEq, Int.reduceLT, Int.reduceLE, Int.reduceToNat]
set_option maxHeartbeats 4000000 in
theorem ref4_fields_tree (v : V) (r : Bool) (T :
  ((v.k = 1) →
  ((v.s = []) →
   (decide (((v.l.length : Nat) : Int) = 0)) = r) ∧
  (¬ (v.s = []) →
   false = r)) ∧
 (¬ (v.k = 1) →
  ((v.k = 2) →
   ((v.n = 0) →
    ((((v.l.length : Nat) : Int) = 0) →
     (decide (((v.s.length : Nat) : Int) ≤ 400)) = r) ∧
    (¬ (((v.l.length : Nat) : Int) = 0) →
     false = r)) ∧
   (¬ (v.n = 0) →
    false = r)) ∧
  (¬ (v.k = 2) →
   ((v.k = 3) →
    ((v.s = []) →
     ((((v.l.length : Nat) : Int) = 0) →
      ((v.n = 0) →
       true = r) ∧
      (¬ (v.n = 0) →
       (decide (v.n = 1)) = r)) ∧
     (¬ (((v.l.length : Nat) : Int) = 0) →
      false = r)) ∧
    (¬ (v.s = []) →
     false = r)) ∧
   (¬ (v.k = 3) →
    ((v.k = 4) →
     At_ref4_fields_1 v 0 r) ∧
    (¬ (v.k = 4) →
     false = r))))) : R_ref4_fields v r := by
 intro S
 rw [call_code sp_ref4_fields _ _ rfl]
 by_cases c1 : v.k = 1
 · replace T := T.1 c1
   by_cases c2 : v.s = []
   · replace T := T.1 c2
     obtain rfl := T
     simp only [eq_true c1, eq_true c2, U_ref4_fields, lw, le, reduceIte, reduceCtorEq, Nat.reduceEqDiff, Nat.reduceAdd, Nat.reduceLeDiff, Nat.reduceSub, Nat.reduceLT, Int.reduceEq, Int.reduceLT, Int.reduceLE, Int.reduceToNat]
   · replace T := T.2 c2
     obtain rfl := T
     simp only [eq_true c1, eq_false c2, U_ref4_fields, lw, le, reduceIte, reduceCtorEq, Nat.reduceEqDiff, Nat.reduceAdd, Nat.reduceLeDiff, Nat.reduceSub, Nat.reduceLT, Int.reduceEq, Int.reduceLT, Int.reduceLE, Int.reduceToNat]
 · replace T := T.2 c1
   by_cases c3 : v.k = 2
   · replace T := T.1 c3
     by_cases c4 : v.n = 0
     · replace T := T.1 c4
       by_cases c5 : ((v.l.length : Nat) : Int) = 0
       · replace T := T.1 c5
         obtain rfl := T
         simp only [eq_false c1, eq_true c3, eq_true c4, eq_true c5, U_ref4_fields, lw, le, reduceIte, reduceCtorEq, Nat.reduceEqDiff, Nat.reduceAdd, Nat.reduceLeDiff, Nat.reduceSub, Nat.reduceLT, Int.reduceEq, Int.reduceLT, Int.reduceLE, Int.reduceToNat]
       · replace T := T.2 c5
         obtain rfl := T
         simp only [eq_false c1, eq_true c3, eq_true c4, eq_false c5, U_ref4_fields, lw, le, reduceIte, reduceCtorEq, Nat.reduceEqDiff, Nat.reduceAdd, Nat.reduceLeDiff, Nat.reduceSub, Nat.reduceLT, Int.reduceEq, Int.reduceLT, Int.reduceLE, Int.reduceToNat]
     · replace T := T.2 c4
       obtain rfl := T
       simp only [eq_false c1, eq_true c3, eq_false c4, U_ref4_fields, lw, le, reduceIte, reduceCtorEq, Nat.reduceEqDiff, Nat.reduceAdd, Nat.reduceLeDiff, Nat.reduceSub, Nat.reduceLT, Int.reduceEq, Int.reduceLT, Int.reduceLE, Int.reduceToNat]
   · replace T := T.2 c3
     by_cases c6 : v.k = 3
     · replace T := T.1 c6
       by_cases c7 : v.s = []
       · replace T := T.1 c7
         by_cases c8 : ((v.l.length : Nat) : Int) = 0
         · replace T := T.1 c8
           by_cases c9 : v.n = 0
           · replace T := T.1 c9
             obtain rfl := T
             simp only [eq_false c1, eq_false c3, eq_true c6, eq_true c7, eq_true c8, eq_true c9, U_ref4_fields, lw, le, reduceIte, reduceCtorEq, Nat.reduceEqDiff, Nat.reduceAdd, Nat.reduceLeDiff, Nat.reduceSub, Nat.reduceLT, Int.reduceEq, Int.reduceLT, Int.reduceLE, Int.reduceToNat]
           · replace T := T.2 c9
             obtain rfl := T
             simp only [eq_false c1, eq_false c3, eq_true c6, eq_true c7, eq_true c8, eq_false c9, U_ref4_fields, lw, le, reduceIte, reduceCtorEq, Nat.reduceEqDiff, Nat.reduceAdd, Nat.reduceLeDiff, Nat.reduceSub, Nat.reduceLT, Int.reduceEq, Int.reduceLT, Int.reduceLE, Int.reduceToNat]
         · replace T := T.2 c8
           obtain rfl := T
           simp only [eq_false c1, eq_false c3, eq_true c6, eq_true c7, eq_false c8, U_ref4_fields, lw, le, reduceIte, reduceCtorEq, Nat.reduceEqDiff, Nat.reduceAdd, Nat.reduceLeDiff, Nat.reduceSub, Nat.reduceLT, Int.reduceEq, Int.reduceLT, Int.reduceLE, Int.reduceToNat]
       · replace T := T.2 c7
         obtain rfl := T
         simp only [eq_false c1, eq_false c3, eq_true c6, eq_false c7, U_ref4_fields, lw, le, reduceIte, reduceCtorEq, Nat.reduceEqDiff, Nat.reduceAdd, Nat.reduceLeDiff, Nat.reduceSub, Nat.reduceLT, Int.reduceEq, Int.reduceLT, Int.reduceLE, Int.reduceToNat]
     · replace T := T.2 c6
       by_cases c10 : v.k = 4
       · replace T := T.1 c10
         try simp only [eq_false c1, eq_false c3, eq_false c6, eq_true c10, U_ref4_fields, lw, le, reduceIte, reduceCtorEq, Nat.reduceEqDiff, Nat.reduceAdd, Nat.reduceLeDiff, Nat.reduceSub, Nat.reduceLT, Int.reduceEq, Int.reduceLT, Int.reduceLE, Int.reduceToNat]
         refine T S _ _ ?_
         simp only [eq_false c1, eq_false c3, eq_false c6, eq_true c10, U_ref4_fields, lw, le, reduceIte, reduceCtorEq, Nat.reduceEqDiff, Nat.reduceAdd, Nat.reduceLeDiff, Nat.reduceSub, Nat.reduceLT, Int.reduceEq, Int.reduceLT, Int.reduceLE, Int.reduceToNat]
       · replace T := T.2 c10
         obtain rfl := T
         simp only [eq_false c1, eq_false c3, eq_false c6, eq_false c10, U_ref4_fields, lw, le, reduceIte, reduceCtorEq, Nat.reduceEqDiff, Nat.reduceAdd, Nat.reduceLeDiff, Nat.reduceSub, Nat.reduceLT, Int.reduceEq, Int.reduceLT, Int.reduceLE, Int.reduceToNat]
theorem sp_ref4_MayVal : SP 30 = some (.code sc_ref4_MayVal) := SPof_code rfl Tryd.func30 comp_ref4_MayVal
/-! doorkeeper/doorkeeperref4.MayVal -/
set_option maxHeartbeats 4000000 in
theorem ref4_MayVal_tree (v : V) (r : Bool) (T :
  ∃ (r1 : Int), (R_ref4_deep v 64 r1) ∧
 ((r1 ≤ 64) →
  ∃ (r2 : Bool), (R_ref4_fields v r2) ∧
  r2 = r) ∧
 (¬ (r1 ≤ 64) →
  false = r)) : R_ref4_MayVal v r := by
 intro S
 rw [call_code sp_ref4_MayVal _ _ rfl]
 obtain ⟨r1, q1, T⟩ := T
 simp only [R_ref4_deep, le] at q1
 by_cases c2 : r1 ≤ 64
 · replace T := T.1 c2
   obtain ⟨r2, q3, rfl⟩ := T
   simp only [R_ref4_fields, le] at q3
   simp only [q1, eq_true c2, q3, U_ref4_MayVal, lw, le, reduceIte, reduceCtorEq, Nat.reduceEqDiff, Nat.reduceAdd, Nat.reduceLeDiff, Nat.reduceSub, Nat.reduceLT, Int.reduceEq, Int.reduceLT, Int.reduceLE, Int.reduceToNat]
 · replace T := T.2 c2
   obtain rfl := T
   simp only [q1, eq_false c2, U_ref4_MayVal, lw, le, reduceIte, reduceCtorEq, Nat.reduceEqDiff, Nat.reduceAdd, Nat.reduceLeDiff, Nat.reduceSub, Nat.reduceLT, Int.reduceEq, Int.reduceLT, Int.reduceLE, Int.reduceToNat]
theorem sp_law1_Num : SP 40 = some (.code sc_law1_Num) := SPof_code rfl Tryd.func40 comp_law1_Num
/-! doorkeeper/doorkeeperlaw1.Num -/
set_option maxHeartbeats 4000000 in
theorem law1_Num_tree (e_ : Int) (r : Int) (T :
  e_ = r) : R_law1_Num e_ r := by
 intro S
 rw [call_code sp_law1_Num _ _ rfl]
 obtain rfl := T
 simp only [U_law1_Num, lw, le, reduceIte, reduceCtorEq, Nat.reduceEqDiff, Nat.reduceAdd, Nat.reduceLeDiff, Nat.reduceSub, Nat.reduceLT, Int.reduceEq, Int.reduceLT, Int.reduceLE, Int.reduceToNat]
theorem sp_law4_is : SP 41 = some (.code sc_law4_is) := SPof_code rfl Tryd.func41 comp_law4_is
/-! doorkeeper/doorkeeperlaw4.is -/
set_option maxHeartbeats 4000000 in
theorem law4_is_tree (v : V) (e_ : Int) (g : Got) (r : Bool) (T :
  ∃ (r1 : Bool), (R_ref4_SameVal v g.V r1) ∧
 ((r1 = true) →
  ∃ (r2 : Int), (R_law1_Num e_ r2) ∧
  (decide (r2 = g.E)) = r) ∧
 (¬ (r1 = true) →
  false = r)) : R_law4_is v e_ g r := by
 intro S
 rw [call_code sp_law4_is _ _ rfl]
 obtain ⟨r1, q1, T⟩ := T
 simp only [R_ref4_SameVal, le] at q1
 by_cases c2 : r1 = true
 · replace T := T.1 c2
   obtain ⟨r2, q3, rfl⟩ := T
   simp only [R_law1_Num, le] at q3
   simp only [q1, c2, q3, U_law4_is, lw, le, reduceIte, reduceCtorEq, Nat.reduceEqDiff, Nat.reduceAdd, Nat.reduceLeDiff, Nat.reduceSub, Nat.reduceLT, Int.reduceEq, Int.reduceLT, Int.reduceLE, Int.reduceToNat]
 · replace T := T.2 c2
   replace c2 := Bool.eq_false_iff.2 c2
   obtain rfl := T
   simp only [q1, c2, U_law4_is, lw, le, reduceIte, reduceCtorEq, Nat.reduceEqDiff, Nat.reduceAdd, Nat.reduceLeDiff, Nat.reduceSub, Nat.reduceLT, Int.reduceEq, Int.reduceLT, Int.reduceLE, Int.reduceToNat]
theorem sp_law4_awake : SP 28 = some (.code sc_law4_awake) := SPof_code rfl Tryd.func28 comp_law4_awake
/-! doorkeeper/doorkeeperlaw4.awake -/
set_option maxHeartbeats 4000000 in
theorem law4_awake_tree  (r : Bool) (T :
  ∃ (r1 : V) (r2 : Int), (R_val_Two 19 (V.mk 1 1 [] []) (V.mk 1 2 [] []) r1 r2) ∧
 ∃ (r3 : Int), (R_law1_Num r2 r3) ∧
 ((r3 = 0) →
  ((r1.k = 1) →
   (decide (r1.n = 3)) = r) ∧
  (¬ (r1.k = 1) →
   false = r)) ∧
 (¬ (r3 = 0) →
  false = r)) : R_law4_awake  r := by
 intro S
 rw [call_code sp_law4_awake _ _ rfl]
 obtain ⟨r1, r2, q1, r3, q2, T⟩ := T
 simp only [R_val_Two, le] at q1
 simp only [R_law1_Num, le] at q2
 by_cases c3 : r3 = 0
 · replace T := T.1 c3
   by_cases c4 : r1.k = 1
   · replace T := T.1 c4
     obtain rfl := T
     simp only [q1, q2, eq_true c3, eq_true c4, U_law4_awake, lw, le, reduceIte, reduceCtorEq, Nat.reduceEqDiff, Nat.reduceAdd, Nat.reduceLeDiff, Nat.reduceSub, Nat.reduceLT, Int.reduceEq, Int.reduceLT, Int.reduceLE, Int.reduceToNat]
   · replace T := T.2 c4
     obtain rfl := T
     simp only [q1, q2, eq_true c3, eq_false c4, U_law4_awake, lw, le, reduceIte, reduceCtorEq, Nat.reduceEqDiff, Nat.reduceAdd, Nat.reduceLeDiff, Nat.reduceSub, Nat.reduceLT, Int.reduceEq, Int.reduceLT, Int.reduceLE, Int.reduceToNat]
 · replace T := T.2 c3
   obtain rfl := T
   simp only [q1, q2, eq_false c3, U_law4_awake, lw, le, reduceIte, reduceCtorEq, Nat.reduceEqDiff, Nat.reduceAdd, Nat.reduceLeDiff, Nat.reduceSub, Nat.reduceLT, Int.reduceEq, Int.reduceLT, Int.reduceLE, Int.reduceToNat]
theorem sp_law4_Great : SP 27 = some (.code sc_law4_Great) := SPof_code rfl Tryd.func27 comp_law4_Great
/-! doorkeeper/doorkeeperlaw4.Great -/
set_option maxHeartbeats 4000000 in
theorem law4_Great_tree (v : V) (deep_ : Int) (r : Bool) (T :
  ∃ (r1 : Int), (R_law4_many v deep_ r1) ∧
 (decide (500 < r1)) = r) : R_law4_Great v deep_ r := by
 intro S
 rw [call_code sp_law4_Great _ _ rfl]
 obtain ⟨r1, q1, rfl⟩ := T
 simp only [R_law4_many, le] at q1
 simp only [q1, U_law4_Great, lw, le, reduceIte, reduceCtorEq, Nat.reduceEqDiff, Nat.reduceAdd, Nat.reduceLeDiff, Nat.reduceSub, Nat.reduceLT, Int.reduceEq, Int.reduceLT, Int.reduceLE, Int.reduceToNat]
theorem sp_law4_many : SP 69 = some (.code sc_law4_many) := SPof_code rfl Tryd.func69 comp_law4_many
/-! doorkeeper/doorkeeperlaw4.many -/
def At_law4_many_1 (v : V) (deep_ : Int) (i1 : Int) (i2 : Int) (r : Int) : Prop := ∀ (S : Sto) (e : Nat → PV) (f : Fr), e 1 = .int .i64 deep_ ∧ e 2 = .ptr 0 2 0 ∧ e 5 = .int .i64 i1 ∧ e 6 = .int .i64 i2 ∧ f.box 2 = some [.int .i64 v.k, .int .i64 v.n, .str v.s, .list 4 (encL v.l) false] → k_law4_many_1 SP (E SP (.loop b_law4_many_1) ⟨e, f :: S⟩) = .ok (.v (.int .i64 r)) S
set_option maxHeartbeats 4000000 in
theorem At_law4_many_1_step (v : V) (deep_ : Int) (i1 : Int) (i2 : Int) (r : Int) (T :
  ((i2 < ((v.l.length : Nat) : Int)) →
  ((i1 < 1000) →
   (0 ≤ i2) ∧
   ∃ (v3 : V), (v.l[i2.toNat]? = some v3) ∧
   (I64 (deep_ + 1)) ∧
   ∃ (r4 : Int), (R_law4_many v3 (deep_ + 1) r4) ∧
   (I64 (i1 + r4)) ∧
   (I64 (i2 + 1)) ∧
   At_law4_many_1 v deep_ (i1 + r4) (i2 + 1) r) ∧
  (¬ (i1 < 1000) →
   i1 = r)) ∧
 (¬ (i2 < ((v.l.length : Nat) : Int)) →
  i1 = r)) : At_law4_many_1 v deep_ i1 i2 r := by
 intro S e f h
 unfold k_law4_many_1
 rw [E_loop]
 by_cases c1 : i2 < ((v.l.length : Nat) : Int)
 · replace T := T.1 c1
   by_cases c2 : i1 < 1000
   · replace T := T.1 c2
     obtain ⟨p3, v3, q4, p5, r4, q6, p7, p8, T⟩ := T
     simp only [R_law4_many, le] at q6
     try simp only [h, eq_true c1, eq_true c2, p3, q4, p5.wrap, q6, p7.wrap, p8.wrap, U_law4_many, lw, le, reduceIte, reduceCtorEq, Nat.reduceEqDiff, Nat.reduceAdd, Nat.reduceLeDiff, Nat.reduceSub, Nat.reduceLT, Int.reduceEq, Int.reduceLT, Int.reduceLE, Int.reduceToNat]
     refine T S _ _ ?_
     simp only [h, eq_true c1, eq_true c2, p3, q4, p5.wrap, q6, p7.wrap, p8.wrap, U_law4_many, lw, le, reduceIte, reduceCtorEq, Nat.reduceEqDiff, Nat.reduceAdd, Nat.reduceLeDiff, Nat.reduceSub, Nat.reduceLT, Int.reduceEq, Int.reduceLT, Int.reduceLE, Int.reduceToNat]
   · replace T := T.2 c2
     obtain rfl := T
     simp only [h, eq_true c1, eq_false c2, U_law4_many, lw, le, reduceIte, reduceCtorEq, Nat.reduceEqDiff, Nat.reduceAdd, Nat.reduceLeDiff, Nat.reduceSub, Nat.reduceLT, Int.reduceEq, Int.reduceLT, Int.reduceLE, Int.reduceToNat]
 · replace T := T.2 c1
   obtain rfl := T
   simp only [h, eq_false c1, U_law4_many, lw, le, reduceIte, reduceCtorEq, Nat.reduceEqDiff, Nat.reduceAdd, Nat.reduceLeDiff, Nat.reduceSub, Nat.reduceLT, Int.reduceEq, Int.reduceLT, Int.reduceLE, Int.reduceToNat]
set_option maxHeartbeats 4000000 in
theorem law4_many_tree (v : V) (deep_ : Int) (r : Int) (T :
  ((80 < deep_) →
  1000 = r) ∧
 (¬ (80 < deep_) →
  ((100 < ((v.l.length : Nat) : Int)) →
   1000 = r) ∧
  (¬ (100 < ((v.l.length : Nat) : Int)) →
   ((600 < ((v.s.length : Nat) : Int)) →
    1000 = r) ∧
   (¬ (600 < ((v.s.length : Nat) : Int)) →
    At_law4_many_1 v deep_ 1 0 r)))) : R_law4_many v deep_ r := by
 intro S
 rw [call_code sp_law4_many _ _ rfl]
 by_cases c1 : 80 < deep_
 · replace T := T.1 c1
   obtain rfl := T
   simp only [eq_true c1, U_law4_many, lw, le, reduceIte, reduceCtorEq, Nat.reduceEqDiff, Nat.reduceAdd, Nat.reduceLeDiff, Nat.reduceSub, Nat.reduceLT, Int.reduceEq, Int.reduceLT, Int.reduceLE, Int.reduceToNat]
 · replace T := T.2 c1
   by_cases c2 : 100 < ((v.l.length : Nat) : Int)
   · replace T := T.1 c2
     obtain rfl := T
     simp only [eq_false c1, eq_true c2, U_law4_many, lw, le, reduceIte, reduceCtorEq, Nat.reduceEqDiff, Nat.reduceAdd, Nat.reduceLeDiff, Nat.reduceSub, Nat.reduceLT, Int.reduceEq, Int.reduceLT, Int.reduceLE, Int.reduceToNat]
   · replace T := T.2 c2
     by_cases c3 : 600 < ((v.s.length : Nat) : Int)
     · replace T := T.1 c3
       obtain rfl := T
       simp only [eq_false c1, eq_false c2, eq_true c3, U_law4_many, lw, le, reduceIte, reduceCtorEq, Nat.reduceEqDiff, Nat.reduceAdd, Nat.reduceLeDiff, Nat.reduceSub, Nat.reduceLT, Int.reduceEq, Int.reduceLT, Int.reduceLE, Int.reduceToNat]
     · replace T := T.2 c3
       try simp only [eq_false c1, eq_false c2, eq_false c3, U_law4_many, lw, le, reduceIte, reduceCtorEq, Nat.reduceEqDiff, Nat.reduceAdd, Nat.reduceLeDiff, Nat.reduceSub, Nat.reduceLT, Int.reduceEq, Int.reduceLT, Int.reduceLE, Int.reduceToNat]
       refine T S _ _ ?_
       simp only [eq_false c1, eq_false c2, eq_false c3, U_law4_many, lw, le, reduceIte, reduceCtorEq, Nat.reduceEqDiff, Nat.reduceAdd, Nat.reduceLeDiff, Nat.reduceSub, Nat.reduceLT, Int.reduceEq, Int.reduceLT, Int.reduceLE, Int.reduceToNat]
theorem sp_ref1_Digits : SP 59 = some (.code sc_ref1_Digits) := SPof_code rfl Tryd.func59 comp_ref1_Digits
/-! doorkeeper/doorkeeperref1.Digits -/
def At_ref1_Digits_1 (n : Int) (i1 : Int) (s2 : List UInt8) (r : List UInt8) : Prop := ∀ (S : Sto) (e : Nat → PV) (f : Fr), e 0 = .int .i64 n ∧ e 3 = .int .u64 i1 ∧ e 4 = .str s2 → k_ref1_Digits_1 SP (E SP (.loop b_ref1_Digits_1) ⟨e, f :: S⟩) = .ok (.v (.str r)) S
set_option maxHeartbeats 4000000 in
theorem At_ref1_Digits_1_step (n : Int) (i1 : Int) (s2 : List UInt8) (r : List UInt8) (T :
  ((10 ≤ i1) →
  (U64 (48 + (i1.tmod 10))) ∧
  (U8 ((48 + (i1.tmod 10)))) ∧
  (1 + s2.length ≤ maxInt) ∧
  (U64 (i1.tdiv 10)) ∧
  At_ref1_Digits_1 n (i1.tdiv 10) ([(UInt8.ofNat ((48 + (i1.tmod 10))).toNat)] ++ s2) r) ∧
 (¬ (10 ≤ i1) →
  (U64 (48 + i1)) ∧
  (U8 ((48 + i1))) ∧
  (1 + s2.length ≤ maxInt) ∧
  ((n < 0) →
   (1 + (s2.length + 1) ≤ maxInt) ∧
   ([45] ++ ([(UInt8.ofNat ((48 + i1)).toNat)] ++ s2)) = r) ∧
  (¬ (n < 0) →
   ([(UInt8.ofNat ((48 + i1)).toNat)] ++ s2) = r))) : At_ref1_Digits_1 n i1 s2 r := by
 intro S e f h
 unfold k_ref1_Digits_1
 rw [E_loop]
 by_cases c1 : 10 ≤ i1
 · replace T := T.1 c1
   obtain ⟨p2, p3, p4, p5, T⟩ := T
   try simp only [h, eq_true c1, p2.wrap, p3.wrap, p4, p5.wrap, U_ref1_Digits, lw, le, reduceIte, reduceCtorEq, Nat.reduceEqDiff, Nat.reduceAdd, Nat.reduceLeDiff, Nat.reduceSub, Nat.reduceLT, Int.reduceEq, Int.reduceLT, Int.reduceLE, Int.reduceToNat]
   refine T S _ _ ?_
   simp only [h, eq_true c1, p2.wrap, p3.wrap, p4, p5.wrap, U_ref1_Digits, lw, le, reduceIte, reduceCtorEq, Nat.reduceEqDiff, Nat.reduceAdd, Nat.reduceLeDiff, Nat.reduceSub, Nat.reduceLT, Int.reduceEq, Int.reduceLT, Int.reduceLE, Int.reduceToNat]
 · replace T := T.2 c1
   obtain ⟨p6, p7, p8, T⟩ := T
   by_cases c9 : n < 0
   · replace T := T.1 c9
     obtain ⟨p10, rfl⟩ := T
     simp only [h, eq_false c1, p6.wrap, p7.wrap, p8, eq_true c9, p10, U_ref1_Digits, lw, le, reduceIte, reduceCtorEq, Nat.reduceEqDiff, Nat.reduceAdd, Nat.reduceLeDiff, Nat.reduceSub, Nat.reduceLT, Int.reduceEq, Int.reduceLT, Int.reduceLE, Int.reduceToNat]
   · replace T := T.2 c9
     obtain rfl := T
     simp only [h, eq_false c1, p6.wrap, p7.wrap, p8, eq_false c9, U_ref1_Digits, lw, le, reduceIte, reduceCtorEq, Nat.reduceEqDiff, Nat.reduceAdd, Nat.reduceLeDiff, Nat.reduceSub, Nat.reduceLT, Int.reduceEq, Int.reduceLT, Int.reduceLE, Int.reduceToNat]
set_option maxHeartbeats 4000000 in
theorem ref1_Digits_tree (n : Int) (r : List UInt8) (T :
  ((n < 0) →
  At_ref1_Digits_1 n (IntKind.u64.wrap (0 - (IntKind.u64.wrap n))) [] r) ∧
 (¬ (n < 0) →
  At_ref1_Digits_1 n (IntKind.u64.wrap n) [] r)) : R_ref1_Digits n r := by
 intro S
 rw [call_code sp_ref1_Digits _ _ rfl]
 by_cases c1 : n < 0
 · replace T := T.1 c1
   try simp only [eq_true c1, U_ref1_Digits, lw, le, reduceIte, reduceCtorEq, Nat.reduceEqDiff, Nat.reduceAdd, Nat.reduceLeDiff, Nat.reduceSub, Nat.reduceLT, Int.reduceEq, Int.reduceLT, Int.reduceLE, Int.reduceToNat]
   refine T S _ _ ?_
   simp only [eq_true c1, U_ref1_Digits, lw, le, reduceIte, reduceCtorEq, Nat.reduceEqDiff, Nat.reduceAdd, Nat.reduceLeDiff, Nat.reduceSub, Nat.reduceLT, Int.reduceEq, Int.reduceLT, Int.reduceLE, Int.reduceToNat]
 · replace T := T.2 c1
   try simp only [eq_false c1, U_ref1_Digits, lw, le, reduceIte, reduceCtorEq, Nat.reduceEqDiff, Nat.reduceAdd, Nat.reduceLeDiff, Nat.reduceSub, Nat.reduceLT, Int.reduceEq, Int.reduceLT, Int.reduceLE, Int.reduceToNat]
   refine T S _ _ ?_
   simp only [eq_false c1, U_ref1_Digits, lw, le, reduceIte, reduceCtorEq, Nat.reduceEqDiff, Nat.reduceAdd, Nat.reduceLeDiff, Nat.reduceSub, Nat.reduceLT, Int.reduceEq, Int.reduceLT, Int.reduceLE, Int.reduceToNat]
end Go.Proofs.YtebflncfgjnkkaaDoor.M

/- What the functions on values yield: the program's, and the document's. -/
namespace Go.Proofs.YtebflncfgjnkkaaDoor.M
set_option linter.unusedSimpArgs false
set_option linter.unusedVariables false
open Go Classical
/-- A value's number is one of 64 bits. -/
def okV (v : V) : Prop := -9223372036854775808 ≤ v.n ∧ v.n ≤ 9223372036854775807
/-- A truth is 0 or 1. -/
def okT (v : V) : Prop := v.k = 3 → v.n = 0 ∨ v.n = 1
theorem r_Num (n : Int) : R_law1_Num n n := law1_Num_tree n n rfl
theorem r_Int (n : Int) : R_val_Int n (numV n) := val_Int_tree n _ rfl
theorem truthV_b (b : Bool) : truthV (b = true) = .mk 3 (if b then 1 else 0) [] [] := by cases b <;> rfl
theorem r_Bool (b : Bool) : R_val_Bool b (truthV (b = true)) := val_Bool_tree b _ ⟨fun h => by simp [truthV, h], fun h => by simp [truthV, h]⟩
theorem r_bad (n : Int) : R_ref4_bad n ⟨zeroV, n⟩ := ref4_bad_tree n _ rfl
theorem r_rnum (n : Int) : R_ref4_num n ⟨numV n, 0⟩ := ref4_num_tree n _ rfl
theorem r_truth (b : Bool) : R_ref4_truth b ⟨truthV (b = true), 0⟩ := ref4_truth_tree b _ ⟨fun h => by simp [truthV, h], fun h => by simp [truthV, h]⟩
theorem r_compare (k a b : Int) : R_val_compare k a b (decide (cmpS k a b)) := by
  apply val_compare_tree
  unfold cmpS
  refine ⟨fun h => by simp [h], fun h => ⟨fun h2 => by simp [h2], fun h2 => ⟨fun h3 => by simp [h3], fun h3 => by simp [h, h2, h3]⟩⟩⟩
theorem r_reckon (k a b : Int) : R_val_reckon k a b (reckonS k a b).1 (reckonS k a b).2 := by
  apply val_reckon_tree
  unfold reckonS
  repeat' first
    | (intro _)
    | (apply And.intro)
  all_goals first
    | assumption
    | (simp [*]; done)
    | (rw [if_neg (by assumption), if_neg (by assumption), if_pos (by assumption), if_pos (Or.inr ⟨by assumption, fun h => absurd h.2 (by assumption)⟩)])
    | (simp_all; done)
    | trace_state
theorem r_rreckon (k a b : Int) (ha : I64 a) (hb : I64 b) : R_ref4_reckon k a b (if (reckonS k a b).2 = 0 then ⟨numV (reckonS k a b).1, 0⟩ else ⟨zeroV, (reckonS k a b).2⟩) := by
  apply ref4_reckon_tree
  rw [← reckon_same ha.1 ha.2 hb.1 hb.2]
  unfold rreckonS
  have en : ∀ n, R_ref4_num n ⟨numV n, 0⟩ := r_rnum
  have e8 := r_bad 8
  have e9 := r_bad 9
  repeat' first
    | (refine ⟨_, en _, ?_⟩)
    | (refine ⟨_, e8, ?_⟩)
    | (refine ⟨_, e9, ?_⟩)
    | (intro _)
    | (apply And.intro)
  all_goals first
    | assumption
    | (simp [*]; done)
    | (rw [if_neg (by assumption), if_neg (by assumption), if_pos (by assumption), if_pos (Or.inr (Or.inr ⟨by assumption, fun h => absurd h.2 (by assumption)⟩))]; simp; done)
    | (simp_all; done)
    | trace_state
theorem r_deep_loop (vs : List V) (hb : deepL vs < 9223372036854775808) (hs : vs.length < 9223372036854775808) (hr : ∀ v ∈ vs, v.k = 4 → R_val_deep v.l (deepL v.l)) : ∀ (k i : Nat), i + k = vs.length → ∀ m : Nat, m < 9223372036854775808 → At_val_deep_1 vs m i ((max m (deepL (vs.drop i)) : Nat) : Int) := by
  intro k
  induction k with
  | zero =>
    intro i hi m hm
    apply At_val_deep_1_step
    refine ⟨fun h => by omega, fun h => ?_⟩
    rw [List.drop_eq_nil_of_le (by omega)]
    simp [deepL]
  | succ k ih =>
    intro i hi m hm
    apply At_val_deep_1_step
    have hlt : i < vs.length := by omega
    have hg : vs[i]? = some vs[i] := List.getElem?_eq_getElem hlt
    have hdd := deepL_drop hg
    have hdg := deep_get hg
    rw [deep_eq] at hdd hdg
    refine ⟨fun h => ⟨by omega, vs[i], by simp, fun h4 => ?_, fun h4 => ?_⟩, fun h => by omega⟩
    · rw [if_pos h4] at hdd hdg
      refine ⟨_, hr _ (List.getElem_mem hlt) h4, ⟨by omega, by omega⟩, ⟨by omega, by omega⟩, ?_⟩
      have := ih (i + 1) (by omega) (max m (1 + deepL vs[i].l)) (by omega)
      have e : (if (m : Int) < 1 + ((deepL vs[i].l : Nat) : Int) then 1 + ((deepL vs[i].l : Nat) : Int) else (m : Int)) = ((max m (1 + deepL vs[i].l) : Nat) : Int) := by split <;> omega
      rw [e, hdd, ← Nat.max_assoc]
      exact this
    · rw [if_neg h4] at hdd
      refine ⟨⟨by omega, by omega⟩, ?_⟩
      rw [hdd, Nat.zero_max]
      exact ih (i + 1) (by omega) m hm
theorem r_deep (vs : List V) (hb : deepL vs < 9223372036854775808) (hs : smallL vs) : R_val_deep vs (deepL vs) := by
  apply val_deep_tree
  have := r_deep_loop vs hb hs.1 (fun v hv h4 => by
    obtain ⟨i, hi⟩ := List.getElem?_of_mem hv
    have h1 := deep_get hi
    rw [deep_eq, if_pos h4] at h1
    exact r_deep v.l (by omega) (smallL_in hs v hv)) vs.length 0 (by omega) 0 (by omega)
  simpa using this
termination_by SizeOf.sizeOf vs
decreasing_by
  obtain ⟨i, hi⟩ := List.getElem?_of_mem hv
  exact size_get hi
theorem plainV_eq (v : V) : plainV v = (if v.k = 1 then decide (v.s = [] ∧ v.l.length = 0) else if v.k = 2 then decide (v.n = 0 ∧ v.s.length ≤ 400 ∧ v.l.length = 0) else if v.k = 3 then decide ((v.n = 0 ∨ v.n = 1) ∧ v.s = [] ∧ v.l.length = 0) else if v.k = 4 then decide (v.n = 0 ∧ v.s = [] ∧ v.l.length ≤ 64) && v.l.all plainV else false) := by
  have hA : ∀ l : List V, plainV.plainA l = l.all plainV := by
    intro l
    induction l with
    | nil => rfl
    | cons x l ih => simp [plainV.plainA, ih]
  cases v
  simp only [plainV, V.k, V.n, V.s, V.l, hA]
  congr
theorem sizeV {v x : V} (h : x ∈ v.l) : SizeOf.sizeOf x < SizeOf.sizeOf v := by
  have h1 := List.sizeOf_lt_of_mem h
  have h2 : SizeOf.sizeOf v.l < SizeOf.sizeOf v := by cases v; simp [V.l]; omega
  omega
theorem r_plain (v : V) (hs : small v) : R_val_plain v (plainV v) := by
  have hl := small_l hs
  have hx : ∀ x, x ∈ v.l → R_val_plain_1 x (!plainV x) := fun x hx => val_plain_1_tree x _ ⟨_, r_plain x (smallA_mem hl.2 x hx), rfl⟩
  have e : (!(v.l.any fun x => !plainV x)) = v.l.all plainV := by
    rw [List.all_eq_not_any_not]
  apply val_plain_tree
  rw [plainV_eq]
  repeat' first
    | (refine ⟨(fun x => !plainV x), hx, ?_⟩)
    | (intro _)
    | (apply And.intro)
  all_goals try (exact hl.1)
  all_goals try (rw [e])
  all_goals first
    | (simp [*]; done)
    | (rename_i h1 h2; simp [*]; omega)
termination_by SizeOf.sizeOf v
decreasing_by exact sizeV hx
theorem r_May (v : V) (hs : small v) (hd : deep v < 9223372036854775808) : R_val_May v (plainV v && decide (deep v ≤ 64)) := by
  apply val_May_tree
  have h1 : deepL [v] = deep v := by simp [deepL]
  have hr := r_deep [v] (by rw [h1]; exact hd) ⟨by simp, hs, trivial⟩
  rw [h1] at hr
  refine ⟨_, r_plain v hs, fun h => ⟨_, hr, ?_⟩, fun h => ?_⟩
  · rw [h, Bool.true_and]
    exact decide_eq_decide.2 (by omega)
  · simp at h
    simp [h]
theorem sameA_all2 : ∀ a b : List V, sameV.sameA a b = all2 sameV a b
  | [], [] => rfl
  | [], _ :: _ => rfl
  | _ :: _, [] => rfl
  | x :: a, y :: b => by simp [sameV.sameA, all2, sameA_all2 a b]
theorem r_Same (a b : V) (hs : small a) : R_val_Same a b (sameV a b) := by
  have hl := small_l hs
  have hx : ∀ x y, x ∈ a.l → R_val_Same x y (sameV x y) := fun x y h => r_Same x y (smallA_mem hl.2 x h)
  apply val_Same_tree
  rw [sameV_eq, sameA_all2]
  refine ⟨fun h1 => ⟨fun h2 => ⟨fun h3 => ⟨hl.1, sameV, hx, by simp [h1, h2, h3]⟩, fun h3 => by simp [h3]⟩, fun h2 => by simp [h2]⟩, fun h1 => by simp [h1]⟩
termination_by SizeOf.sizeOf a
decreasing_by exact sizeV h
theorem r_SameVal_loop (a b : V) (hlen : a.l.length = b.l.length) (hs : a.l.length < 9223372036854775808) (hr : ∀ x ∈ a.l, ∀ y, R_ref4_SameVal x y (sameV x y)) : ∀ (k i : Nat), i + k = a.l.length → At_ref4_SameVal_1 a b i (sameV.sameA (a.l.drop i) (b.l.drop i)) := by
  intro k
  induction k with
  | zero =>
    intro i hi
    apply At_ref4_SameVal_1_step
    refine ⟨fun h => by omega, fun h => ?_⟩
    rw [List.drop_eq_nil_of_le (by omega), List.drop_eq_nil_of_le (by omega)]
    rfl
  | succ k ih =>
    intro i hi
    apply At_ref4_SameVal_1_step
    have h1 : i < a.l.length := by omega
    have h2 : i < b.l.length := by omega
    refine ⟨fun h => ⟨by omega, a.l[i], by simp, by omega, b.l[i], by simp [h2], _, hr _ (List.getElem_mem h1) _, fun h => ⟨⟨by omega, by omega⟩, ?_⟩, fun h => ?_⟩, fun h => by omega⟩
    · have := ih (i + 1) (by omega)
      rw [List.drop_eq_getElem_cons h1, List.drop_eq_getElem_cons h2]
      simp only [sameV.sameA, h, Bool.true_and]
      exact this
    · rw [List.drop_eq_getElem_cons h1, List.drop_eq_getElem_cons h2]
      simp only [sameV.sameA]
      simp at h
      simp [h]
theorem r_SameVal (a b : V) (hs : small a) : R_ref4_SameVal a b (sameV a b) := by
  have hl := small_l hs
  apply ref4_SameVal_tree
  rw [sameV_eq]
  refine ⟨fun h1 => ⟨fun h2 => ⟨fun h3 => ⟨fun h4 => ?_, fun h4 => ?_⟩, fun h3 => by simp [h3]⟩, fun h2 => by simp [h2]⟩, fun h1 => by simp [h1]⟩
  · have := r_SameVal_loop a b (by omega) hl.1 (fun x hx y => r_SameVal x y (smallA_mem hl.2 x hx)) a.l.length 0 (by omega)
    simpa [h1, h2, h3] using this
  · cases h : sameV.sameA a.l b.l with
    | false => simp
    | true => exact absurd (sameA_length h) (by omega)
termination_by SizeOf.sizeOf a
decreasing_by exact sizeV hx
/-- What an operator makes of a value; and the error. -/
def oneT (k : Int) (v : V) : V × Int :=
  if k = 8 then (if v.k = 3 then (truthV (v.n = 0), 0) else (zeroV, 7))
  else if k = 9 then (if v.k = 1 then (if v.n = -9223372036854775808 then (zeroV, 8) else (numV (0 - v.n), 0)) else (zeroV, 7))
  else (zeroV, 1)
theorem truthV_dec (p : Prop) [Decidable p] : truthV (decide p = true) = truthV p := by simp [truthV]
theorem r_One (k : Int) (v : V) (h : okV v) : R_val_One k v (oneT k v).1 (oneT k v).2 := by
  apply val_One_tree
  obtain ⟨h1, h2⟩ := h
  have eb := r_Bool (decide (v.n = 0))
  rw [truthV_dec] at eb
  have ei := r_Int (0 - v.n)
  unfold oneT
  repeat' first
    | (refine ⟨_, eb, ?_⟩)
    | (refine ⟨_, ei, ?_⟩)
    | (intro _)
    | (apply And.intro)
  all_goals first
    | (simp [zeroV, *]; done)
    | omega
theorem r_rOne (k : Int) (v : V) (h : okV v) : R_ref4_One k v ⟨(oneT k v).1, (oneT k v).2⟩ := by
  apply ref4_One_tree
  obtain ⟨h1, h2⟩ := h
  have eb := r_truth (decide (v.n = 0))
  rw [truthV_dec] at eb
  have ei := r_rnum (0 - v.n)
  have e1 := r_bad 1
  have e7 := r_bad 7
  have e8 := r_bad 8
  unfold oneT
  repeat' first
    | (refine ⟨_, eb, ?_⟩)
    | (refine ⟨_, ei, ?_⟩)
    | (refine ⟨_, e1, ?_⟩)
    | (refine ⟨_, e7, ?_⟩)
    | (refine ⟨_, e8, ?_⟩)
    | (intro _)
    | (apply And.intro)
  all_goals first
    | (simp [*]; done)
    | omega
end Go.Proofs.YtebflncfgjnkkaaDoor.M

/- What the functions on values yield: depth, fields, texts, types, two operands. -/
namespace Go.Proofs.YtebflncfgjnkkaaDoor.M
set_option linter.unusedSimpArgs false
set_option linter.unusedVariables false
open Go Classical
/-- What stands in a list. -/
def indexS (a b : V) : V × Int :=
  if a.k = 4 then (if b.k = 1 then (if b.n < 0 then (zeroV, 2) else if (a.l.length : Int) ≤ b.n then (zeroV, 2) else ((a.l[b.n.toNat]?).getD zeroV, 0)) else (zeroV, 7)) else (zeroV, 7)
/-- A list of values. -/
def listS (l : List V) : V × Int := if 64 < l.length ∨ 64 ≤ deepL l then (zeroV, 4) else (.mk 4 0 [] l, 0)
theorem r_rIndex (a b : V) : R_ref4_Index a b ⟨(indexS a b).1, (indexS a b).2⟩ := by
  apply ref4_Index_tree
  have e2 := r_bad 2
  have e7 := r_bad 7
  unfold indexS
  repeat' first
    | (refine ⟨_, e2, ?_⟩)
    | (refine ⟨_, e7, ?_⟩)
    | (intro _)
    | (apply And.intro)
  all_goals try (simp [*]; done)
  · omega
  · rename_i h1 h2 h3 h4
    have hlt : b.n.toNat < a.l.length := by omega
    exact ⟨a.l[b.n.toNat], List.getElem?_eq_getElem hlt, by simp [*]⟩
theorem r_Index (a b : V) : R_val_Index a b (indexS a b).1 (indexS a b).2 := by
  apply val_Index_tree
  unfold indexS
  repeat' first
    | (intro _)
    | (apply And.intro)
  all_goals try (simp [zeroV, *]; done)
  · omega
  · rename_i h1 h2 h3 h4
    have hlt : b.n.toNat < a.l.length := by omega
    exact ⟨a.l[b.n.toNat], List.getElem?_eq_getElem hlt, by simp [*]⟩
/-- How deep, with so much left. -/
def rdeep : Nat → V → Nat
  | 0, v => if v.k = 4 then 1000 else 0
  | n + 1, v => if v.k = 4 then (v.l.map (rdeep n)).foldr max 0 + 1 else 0
theorem rdeep_le : ∀ n v, rdeep n v ≤ 1000 + n
  | 0, v => by simp only [rdeep]; split <;> omega
  | n + 1, v => by
    simp only [rdeep]
    split
    · have : ∀ l : List V, (l.map (rdeep n)).foldr max 0 ≤ 1000 + n := by
        intro l
        induction l with
        | nil => simp
        | cons x l ih => simp only [List.map_cons, List.foldr_cons]; have := rdeep_le n x; omega
      have := this v.l
      omega
    · omega
theorem rdeep_big : ∀ n v, n < deep v → 1000 ≤ rdeep n v
  | 0, v, h => by
    rw [deep_eq] at h
    simp only [rdeep]
    split at h
    · rename_i h4; simp [h4]
    · omega
  | n + 1, v, h => by
    rw [deep_eq] at h
    simp only [rdeep]
    split at h
    · rename_i h4
      rw [if_pos h4]
      have : ∀ l : List V, n < deepL l → 1000 ≤ (l.map (rdeep n)).foldr max 0 := by
        intro l
        induction l with
        | nil => intro h; simp [deepL] at h
        | cons x l ih =>
          intro h
          simp only [deepL] at h
          simp only [List.map_cons, List.foldr_cons]
          rcases Nat.lt_or_ge n (deep x) with h1 | h1
          · have := rdeep_big n x h1; omega
          · have := ih (by omega); omega
      have := this v.l (by omega)
      omega
    · omega
theorem rdeep_small : ∀ n v, deep v ≤ n → rdeep n v = deep v
  | 0, v, h => by
    rw [deep_eq] at h ⊢
    simp only [rdeep]
    split at h
    · omega
    · rename_i h4; simp [h4]
  | n + 1, v, h => by
    rw [deep_eq] at h ⊢
    simp only [rdeep]
    split at h
    · rename_i h4
      rw [if_pos h4, if_pos h4]
      have : ∀ l : List V, deepL l ≤ n → (l.map (rdeep n)).foldr max 0 = deepL l := by
        intro l
        induction l with
        | nil => intro h; simp [deepL]
        | cons x l ih =>
          intro h
          simp only [deepL] at h ⊢
          simp only [List.map_cons, List.foldr_cons]
          rw [rdeep_small n x (by omega), ih (by omega)]
      rw [this v.l (by omega)]
      omega
    · rename_i h4; simp [h4]
theorem r_rdeep_loop (n : Nat) (hn : n < 100000) (ih : ∀ v, small v → R_ref4_deep v (n : Nat) (rdeep n v : Nat)) (v : V) (hs : small v) : ∀ (k i : Nat), i + k = v.l.length → ∀ m : Nat, m ≤ 1000 + n → At_ref4_deep_1 v ((n + 1 : Nat) : Int) m i ((max m (((v.l.drop i).map (rdeep n)).foldr max 0) + 1 : Nat) : Int) := by
  have hl := small_l hs
  have hlen : v.l.length < 9223372036854775808 := hl.1
  intro k
  induction k with
  | zero =>
    intro i hi m hm
    apply At_ref4_deep_1_step
    refine ⟨fun h => by omega, fun h => ⟨⟨by omega, by omega⟩, ?_⟩⟩
    rw [List.drop_eq_nil_of_le (by omega)]
    simp
  | succ k ihk =>
    intro i hi m hm
    apply At_ref4_deep_1_step
    refine ⟨fun h => ⟨by omega, ?_⟩, fun h => by omega⟩
    have hlt : i < v.l.length := by omega
    refine ⟨v.l[i], by simp, ⟨by omega, by omega⟩, (rdeep n v.l[i] : Nat), ?_, ⟨by omega, by omega⟩, ?_⟩
    · have := ih v.l[i] (smallA_mem hl.2 _ (List.getElem_mem hlt))
      have e : (((n + 1 : Nat) : Int) - 1) = (n : Nat) := by omega
      rw [e]
      exact this
    · have hr := rdeep_le n v.l[i]
      have := ihk (i + 1) (by omega) (max m (rdeep n v.l[i])) (by omega)
      rw [List.drop_eq_getElem_cons hlt]
      simp only [List.map_cons, List.foldr_cons]
      rw [← Nat.max_assoc]
      have e : (if (m : Int) < (rdeep n v.l[i] : Nat) then ((rdeep n v.l[i] : Nat) : Int) else (m : Int)) = ((max m (rdeep n v.l[i]) : Nat) : Int) := by split <;> omega
      rw [e]
      exact this
theorem r_rdeep : ∀ n : Nat, n < 100000 → ∀ v, small v → R_ref4_deep v (n : Nat) (rdeep n v : Nat) := by
  intro n
  induction n with
  | zero =>
    intro hn v hs
    apply ref4_deep_tree
    simp only [rdeep]
    refine ⟨fun h => ⟨fun _ => by simp [h], fun h => by simp at h⟩, fun h => by simp [h]⟩
  | succ n ih =>
    intro hn v hs
    apply ref4_deep_tree
    simp only [rdeep]
    refine ⟨fun h => ⟨fun h => by omega, fun _ => ?_⟩, fun h => by simp [h]⟩
    have := r_rdeep_loop n (by omega) (ih (by omega)) v hs v.l.length 0 (by omega) 0 (by omega)
    simp only [List.drop_zero, Nat.zero_max] at this
    rw [if_pos h]
    exact this
theorem sameV_refl (v : V) : sameV v v = true := by
  have h : ∀ l : List V, (∀ x ∈ l, sameV x x = true) → sameV.sameA l l = true := by
    intro l
    induction l with
    | nil => intro _; rfl
    | cons x l ih =>
      intro h
      simp only [sameV.sameA, Bool.and_eq_true]
      exact ⟨h x (by simp), ih fun y hy => h y (by simp [hy])⟩
  rw [sameV_eq, h v.l (fun x hx => sameV_refl x)]
  simp
termination_by SizeOf.sizeOf v
decreasing_by
  have h1 := List.sizeOf_lt_of_mem hx
  have h2 : SizeOf.sizeOf v.l < SizeOf.sizeOf v := by cases v; simp [V.l]; omega
  omega

theorem r_is (v : V) (e : Int) (h : small v) : R_law4_is v e ⟨v, e⟩ true := by
  apply law4_is_tree
  refine ⟨true, ?_, fun _ => ⟨e, r_Num e, by simp⟩, fun h => by simp at h⟩
  have := r_SameVal v v h
  rwa [sameV_refl] at this
theorem r_fields_loop (v : V) (hs : v.l.length < 9223372036854775808) (hk : v.k = 4) (hr : ∀ x ∈ v.l, R_ref4_fields x (plainV x)) : ∀ (k i : Nat), i + k = v.l.length → (v.l.take i).all plainV = true → At_ref4_fields_1 v i (plainV v) := by
  intro k
  induction k with
  | zero =>
    intro i hi ht
    apply At_ref4_fields_1_step
    rw [List.take_of_length_le (by omega)] at ht
    rw [plainV_eq]
    simp only [hk, ht]
    refine ⟨fun h => by omega, fun h => ⟨fun h => ⟨fun h2 => ?_, fun h2 => ?_⟩, fun h => ?_⟩⟩
    · simp [h, h2]; omega
    · simp [h2]
    · simp [h]
  | succ k ih =>
    intro i hi ht
    apply At_ref4_fields_1_step
    have h1 : i < v.l.length := by omega
    refine ⟨fun h => ⟨by omega, v.l[i], by simp, _, hr _ (List.getElem_mem h1), fun h => ⟨⟨by omega, by omega⟩, ?_⟩, fun h => ?_⟩, fun h => by omega⟩
    · refine ih (i + 1) (by omega) ?_
      rw [List.take_succ_eq_append_getElem h1, List.all_append, ht]
      simp [h]
    · rw [plainV_eq]
      simp only [hk]
      have : v.l.all plainV = false := by
        cases ha : v.l.all plainV with
        | false => rfl
        | true => exact absurd (List.all_eq_true.1 ha _ (List.getElem_mem h1)) h
      simp [this]
theorem r_fields (v : V) (hs : small v) : R_ref4_fields v (plainV v) := by
  have hl := small_l hs
  apply ref4_fields_tree
  refine ⟨fun h1 => ?_, fun h1 => ⟨fun h2 => ?_, fun h2 => ⟨fun h3 => ?_, fun h3 => ⟨fun h4 => ?_, fun h4 => ?_⟩⟩⟩⟩
  · rw [plainV_eq]; exact ⟨fun h => by simp [*], fun h => by simp [*]⟩
  · rw [plainV_eq]
    refine ⟨fun h => ⟨fun h5 => ?_, fun h5 => ?_⟩, fun h => by simp [*]⟩
    · simp [h2, h, (by simpa using h5 : v.l = [])]; omega
    · simp [h2, h, (by simpa using h5 : ¬ v.l = [])]
  · rw [plainV_eq]
    refine ⟨fun h => ⟨fun h5 => ⟨fun h6 => by simp_all, fun h6 => by simp_all⟩, fun h5 => by simp_all⟩, fun h => by simp_all⟩
  · exact r_fields_loop v hl.1 h4 (fun x hx => r_fields x (smallA_mem hl.2 x hx)) v.l.length 0 (by omega) (by simp)
  · rw [plainV_eq]; simp [*]
termination_by SizeOf.sizeOf v
decreasing_by exact sizeV hx
theorem rdeep64 (v : V) : rdeep 64 v ≤ 64 ↔ deep v ≤ 64 := by
  constructor
  · intro h
    rcases Nat.lt_or_ge 64 (deep v) with h1 | h1
    · have := rdeep_big 64 v h1; omega
    · exact h1
  · intro h
    rw [rdeep_small 64 v h]
    exact h
theorem r_MayVal (v : V) (hs : small v) : R_ref4_MayVal v (plainV v && decide (deep v ≤ 64)) := by
  apply ref4_MayVal_tree
  have h1 := r_rdeep 64 (by omega) v hs
  have h2 := rdeep64 v
  refine ⟨_, h1, fun h => ⟨_, r_fields v hs, ?_⟩, fun h => ?_⟩
  · simp [h2.1 (by omega)]
  · have : ¬ deep v ≤ 64 := fun h3 => h (by have := h2.2 h3; omega)
    simp [this]
theorem u64_nat (n : Nat) (h : n < 18446744073709551616) : IntKind.u64.wrap (n : Int) = n := U64.wrap ⟨by omega, by omega⟩
theorem tdivN (a : Nat) (b : Nat) : ((a : Nat) : Int).tdiv (b : Int) = ((a / b : Nat) : Int) := by
  rw [Int.tdiv_eq_ediv_of_nonneg (by omega)]; simp
theorem tmodN (a : Nat) (b : Nat) : ((a : Nat) : Int).tmod (b : Int) = ((a % b : Nat) : Int) := by
  rw [Int.tmod_eq_emod_of_nonneg (by omega)]; simp
theorem r_Digits_loop (n : Int) : ∀ (j u : Nat) (s : List UInt8), Lib.nDigits u ≤ j → u < 18446744073709551616 → s.length + j ≤ 1000 → At_ref1_Digits_1 n u s ((if n < 0 then [45] else []) ++ (Lib.decDigits u ++ s))
  | 0, u, s, h, _, _ => by have := Lib.nDigits_pos u; omega
  | j + 1, u, s, h, hu, hs => by
    apply At_ref1_Digits_1_step
    have d10 : ((u : Nat) : Int).tdiv 10 = ((u / 10 : Nat) : Int) := tdivN u 10
    have m10 : ((u : Nat) : Int).tmod 10 = ((u % 10 : Nat) : Int) := tmodN u 10
    have e48 : ∀ x : Nat, (48 + ((x : Nat) : Int)).toNat = 48 + x := fun x => by omega
    refine ⟨fun h10 => ?_, fun h10 => ?_⟩
    · have hu10 : ¬ u < 10 := by omega
      rw [d10, m10, e48]
      have hn : Lib.nDigits u = Lib.nDigits (u / 10) + 1 := Lib.nDigits_big hu10
      refine ⟨⟨by omega, by omega⟩, ⟨by omega, by omega⟩, by simp [maxInt]; omega, ⟨by omega, by omega⟩, ?_⟩
      have := r_Digits_loop n j (u / 10) ([UInt8.ofNat (48 + u % 10)] ++ s) (by omega) (by omega) (by simp; omega)
      rw [show Lib.decDigits u = Lib.decDigits (u / 10) ++ [UInt8.ofNat (48 + u % 10)] from by rw [Lib.decDigits, dif_neg hu10], List.append_assoc]
      exact this
    · have hu10 : u < 10 := by omega
      rw [e48, show Lib.decDigits u = [UInt8.ofNat (48 + u)] from by rw [Lib.decDigits, dif_pos hu10]]
      refine ⟨⟨by omega, by omega⟩, ⟨by omega, by omega⟩, by simp [maxInt]; omega, fun hn => ⟨by simp [maxInt]; omega, by simp [hn]⟩, fun hn => by simp [hn]⟩
theorem wrap_u64_neg {n : Int} (h0 : -9223372036854775808 ≤ n) (h : n < 0) : IntKind.u64.wrap (0 - (IntKind.u64.wrap n)) = ((n.natAbs : Nat) : Int) := by
  have e1 : IntKind.u64.wrap n = n % 18446744073709551616 := by
    simp [IntKind.wrap, IntKind.signed, IntKind.bits]
  rw [e1]
  have e2 : ∀ x : Int, IntKind.u64.wrap x = x % 18446744073709551616 := fun x => by
    simp [IntKind.wrap, IntKind.signed, IntKind.bits]
  rw [e2]
  omega
theorem r_Digits (n : Int) (h : I64 n) : R_ref1_Digits n (Lib.itoa n) := by
  obtain ⟨h0, h1⟩ := h
  apply ref1_Digits_tree
  refine ⟨fun hn => ?_, fun hn => ?_⟩
  · rw [wrap_u64_neg h0 hn]
    have := r_Digits_loop n 20 n.natAbs [] (Lib.nDigits_le20 _ (by omega)) (by omega) (by simp)
    simpa [Lib.itoa, hn] using this
  · obtain ⟨m, rfl⟩ : ∃ m : Nat, n = m := ⟨n.toNat, by omega⟩
    rw [u64_nat m (by omega)]
    have := r_Digits_loop m 20 m [] (Lib.nDigits_le20 _ (by omega)) (by omega) (by simp)
    simpa [Lib.itoa, hn] using this
theorem r_Itoa (n : Int) (h : I64 n) : R_strconv_Itoa n (Lib.itoa n) := fun S => call_ext sp_strconv_Itoa S (if_pos h)
theorem r_FormatBool (b : Bool) : R_strconv_FormatBool b (Lib.formatBool b) := fun S => call_ext sp_strconv_FormatBool S rfl
theorem formatBool_true : Lib.formatBool true = [116, 114, 117, 101] := by decide
theorem formatBool_false : Lib.formatBool false = [102, 97, 108, 115, 101] := by decide
/-- A value's text; and the error. -/
def textV (v : V) : List UInt8 × Int :=
  if v.k = 1 then (Lib.itoa v.n, 0) else if v.k = 2 then (v.s, 0) else if v.k = 3 then (Lib.formatBool (decide (v.n = 1)), 0) else ([], 7)
theorem r_Text (v : V) (h : okV v) : R_val_Text v (textV v).1 (textV v).2 := by
  apply val_Text_tree
  unfold textV
  refine ⟨fun h1 => ⟨_, r_Itoa _ h, by simp [h1]⟩, fun h1 => ⟨fun h2 => by simp [h2], fun h2 => ⟨fun h3 => ⟨_, r_FormatBool _, by simp [h3]⟩, fun h3 => by simp [h1, h2, h3]⟩⟩⟩
theorem r_rText (v : V) (h : okV v) : R_ref4_Text v ⟨(textV v).1, (textV v).2⟩ := by
  apply ref4_Text_tree
  unfold textV
  refine ⟨fun h1 => ⟨_, r_Digits _ h, by simp [h1]⟩, fun h1 => ⟨fun h2 => by simp [h2], fun h2 => ⟨fun h3 => ⟨fun h4 => ?_, fun h4 => ?_⟩, fun h3 => by simp [h1, h2, h3]⟩⟩⟩
  · simp [h3, h4, formatBool_true]
  · simp [h3, h4, formatBool_false]
def typeV (v : V) : List UInt8 :=
  if v.k = 1 then [105, 110, 116] else if v.k = 2 then [115, 116, 114, 105, 110, 103] else if v.k = 3 then [98, 111, 111, 108] else [108, 105, 115, 116]
theorem plain_k {v : V} (h : plainV v = true) : v.k = 1 ∨ v.k = 2 ∨ v.k = 3 ∨ v.k = 4 := by
  rw [plainV_eq] at h
  by_cases h1 : v.k = 1
  · exact .inl h1
  · by_cases h2 : v.k = 2
    · exact .inr (.inl h2)
    · by_cases h3 : v.k = 3
      · exact .inr (.inr (.inl h3))
      · by_cases h4 : v.k = 4
        · exact .inr (.inr (.inr h4))
        · simp [h1, h2, h3, h4] at h
theorem r_Type (v : V) (h : plainV v = true) : R_val_Type v (typeV v) := by
  apply val_Type_tree
  have := plain_k h
  unfold typeV
  refine ⟨fun h1 => by simp [h1], fun h1 => ⟨fun h2 => by simp [h2], fun h2 => ⟨fun h3 => by simp [h3], fun h3 => ⟨fun h4 => by simp [h4], fun h4 => by omega⟩⟩⟩⟩
theorem r_rType (v : V) : R_ref4_Type v (typeV v) := by
  apply ref4_Type_tree
  unfold typeV
  refine ⟨fun h1 => by simp [h1], fun h1 => ⟨fun h2 => by simp [h2], fun h2 => ⟨fun h3 => by simp [h3], fun h3 => by simp [h1, h2, h3]⟩⟩⟩
end Go.Proofs.YtebflncfgjnkkaaDoor.M

/- What the functions on values yield: two operands; how many. -/
namespace Go.Proofs.YtebflncfgjnkkaaDoor.M
set_option linter.unusedSimpArgs false
set_option linter.unusedVariables false
open Go Classical
/-- What an operator makes of two values; and the error. -/
noncomputable def twoT (k : Int) (a b : V) : V × Int :=
  if k < 11 then (zeroV, 1)
  else if 23 < k then (zeroV, 1)
  else if k ≤ 12 then (if a.k = b.k then (if a.k = 3 then (if k = 11 then (truthV (0 < a.n + b.n), 0) else (truthV (a.n + b.n = 2), 0)) else (zeroV, 7)) else (zeroV, 7))
  else if k = 13 then (if a.k = b.k then (truthV (sameV a b = true), 0) else (zeroV, 7))
  else if k = 14 then (if a.k = b.k then (truthV (sameV a b = false), 0) else (zeroV, 7))
  else if a.k = b.k then (if a.k = 1 then (if k ≤ 18 then (truthV (cmpS k a.n b.n), 0) else (if (reckonS k a.n b.n).2 = 0 then numV (reckonS k a.n b.n).1 else zeroV, (reckonS k a.n b.n).2)) else (zeroV, 7))
  else (zeroV, 7)
theorem zeroV_eq : V.mk 0 0 [] [] = zeroV := rfl
theorem r_Two (k : Int) (a b : V) (h : small a) (ta : okT a) (tb : okT b) : R_val_Two k a b (twoT k a b).1 (twoT k a b).2 := by
  apply val_Two_tree
  have eS := r_Same a b h
  have eC := r_compare k a.n b.n
  have eR := r_reckon k a.n b.n
  have eb : ∀ b : Bool, R_val_Bool b (truthV (b = true)) := r_Bool
  have ei := r_Int (reckonS k a.n b.n).1
  unfold okT at ta tb
  unfold twoT
  simp only [zeroV_eq]
  repeat' first
    | (refine ⟨_, eS, ?_⟩)
    | (refine ⟨_, eC, ?_⟩)
    | (refine ⟨_, _, eR, ?_⟩)
    | (refine ⟨_, eb _, ?_⟩)
    | (refine ⟨_, ei, ?_⟩)
    | (intro _)
    | (apply And.intro)
  all_goals try (exfalso; omega)
  all_goals clear eS eC eR eb ei h
  all_goals try (have k1 : ¬ k < 11 := by omega)
  all_goals try (have k2 : ¬ 23 < k := by omega)
  all_goals try (have k3 : ¬ k ≤ 12 := by omega)
  all_goals try (have k3 : k ≤ 12 := by omega)
  all_goals try (have k4 : ¬ k = 13 := by omega)
  all_goals try (have k5 : ¬ k = 14 := by omega)
  all_goals try (have k6 : ¬ k ≤ 18 := by omega)
  all_goals try (have k6 : k ≤ 18 := by omega)
  all_goals try (have k7 : ¬ a.k = b.k := by omega)
  all_goals try (have k7 : a.k = b.k := by omega)
  all_goals first
    | omega
    | (simp [truthV, *]; done)
    | ((have a3 : a.k = 3 := by omega); (have b3 : b.k = 3 := by omega); rcases ta a3 with h1 | h1 <;> rcases tb b3 with h2 | h2 <;> (repeat first | rw [if_pos (by first | assumption | omega)] | rw [if_neg (by first | assumption | omega)]) <;> first | rfl | omega | (simp [truthV, h1, h2]; done))
    | (rcases ta (by assumption) with h1 | h1 <;> rcases tb (by omega) with h2 | h2 <;> (first | omega | exact ⟨by omega, by omega⟩); done)
    | ((repeat first | rw [if_pos (by first | assumption | omega)] | rw [if_neg (by first | assumption | omega)]) <;> first | rfl | (simp [truthV, *]; done) | (split <;> simp_all; done))
    | (simp_all [truthV]; done)
    | (simp only [k1, k2, k3, k4, k5, k6, k7, if_true, if_false]; simp [*]; done)
    | (simp only [k1, k2, k3, k5, k6, k7, if_true, if_false]; simp [*, truthV]; done)
    | (simp only [k1, k2, k3, k4, k6, k7, if_true, if_false]; simp [*, truthV]; done)
    | trace_state
theorem r_rTwo (k : Int) (a b : V) (h : small a) (ha : okV a) (hb : okV b) (ta : okT a) (tb : okT b) : R_ref4_Two k a b ⟨(twoT k a b).1, (twoT k a b).2⟩ := by
  apply ref4_Two_tree
  have e1 := r_bad 1
  have e7 := r_bad 7
  have eS := r_SameVal a b h
  have eR := r_rreckon k a.n b.n ha hb
  have et : ∀ b : Bool, R_ref4_truth b ⟨truthV (b = true), 0⟩ := r_truth
  unfold okT at ta tb
  unfold twoT cmpS
  repeat' first
    | (refine ⟨_, e1, ?_⟩)
    | (refine ⟨_, e7, ?_⟩)
    | (refine ⟨_, eS, ?_⟩)
    | (refine ⟨_, et _, ?_⟩)
    | (refine ⟨_, eR, ?_⟩)
    | (intro _)
    | (apply And.intro)
  all_goals try (exfalso; omega)
  all_goals clear e1 e7 eS eR et h ha hb
  all_goals try (have k1 : ¬ k < 11 := by omega)
  all_goals try (have k2 : ¬ 23 < k := by omega)
  all_goals try (have k3 : ¬ k ≤ 12 := by omega)
  all_goals try (have k3 : k ≤ 12 := by omega)
  all_goals try (have k4 : ¬ k = 13 := by omega)
  all_goals try (have k5 : ¬ k = 14 := by omega)
  all_goals try (have k6 : ¬ k ≤ 18 := by omega)
  all_goals try (have k6 : k ≤ 18 := by omega)
  all_goals try (have k7 : ¬ a.k = b.k := by omega)
  all_goals try (have k7 : a.k = b.k := by omega)
  all_goals first
    | (simp [truthV, *]; done)
    | ((have a3 : a.k = 3 := by omega); (have b3 : b.k = 3 := by omega); rcases ta a3 with h1 | h1 <;> rcases tb b3 with h2 | h2 <;> (repeat first | rw [if_pos (by first | assumption | omega)] | rw [if_neg (by first | assumption | omega)]) <;> first | rfl | omega | (simp [truthV, h1, h2]; done))
    | ((repeat first | rw [if_pos (by first | assumption | omega)] | rw [if_neg (by first | assumption | omega)]) <;> first | rfl | (simp [truthV, *]; done) | (split <;> simp_all; done))
    | (simp_all [truthV]; done)
    | (simp only [k1, k2, k3, k4, k5, k6, k7, if_true, if_false]; split <;> simp_all; done)
    | (simp only [k1, k2, k3, k4, k5, k6, k7, if_true, if_false]; simp [*]; done)
    | (simp only [k1, k2, k3, k5, k6, k7, if_true, if_false]; simp [*, truthV]; done)
    | (simp only [k1, k2, k3, k4, k6, k7, if_true, if_false]; simp [*, truthV]; done)
    | trace_state
end Go.Proofs.YtebflncfgjnkkaaDoor.M

/- Trees of functions, printed by a program of this session (lift.py): what a run asks, over plain data. Lean proves each. -/
namespace Go.Proofs.YtebflncfgjnkkaaDoor.M
set_option linter.unusedSimpArgs false
set_option linter.unusedVariables false
open Go Classical
theorem sp_law4_ValAll : SP 6 = some (.code sc_law4_ValAll) := SPof_code rfl Tryd.func6 comp_law4_ValAll
/-! doorkeeper/doorkeeperlaw4.ValAll -/
set_option maxHeartbeats 4000000 in
theorem law4_ValAll_tree (kind : Int) (a : V) (b : V) (r : Bool) (T :
  ∃ (r1 : Bool), (R_law4_Great a 0 r1) ∧
 ((r1 = true) →
  ∃ (r2 : Bool), (R_law4_awake r2) ∧
  r2 = r) ∧
 (¬ (r1 = true) →
  ∃ (r3 : Bool), (R_law4_Great b 0 r3) ∧
  ((r3 = true) →
   ∃ (r4 : Bool), (R_law4_awake r4) ∧
   r4 = r) ∧
  (¬ (r3 = true) →
   ∃ (r5 : Bool), (R_val_May a r5) ∧
   ∃ (r6 : Bool), (R_ref4_MayVal a r6) ∧
   ((r5 = r6) →
    ∃ (r7 : Bool), (R_val_May b r7) ∧
    ∃ (r8 : Bool), (R_ref4_MayVal b r8) ∧
    ((r7 = r8) →
     ((r6 = true) →
      ((r8 = true) →
       ∃ (r9 : List UInt8) (r10 : Int), (R_val_Text a r9 r10) ∧
       ∃ (r11 : Said), (R_ref4_Text a r11) ∧
       ∃ (r12 : V) (r13 : Int), (R_val_One kind a r12 r13) ∧
       ∃ (r14 : V) (r15 : Int), (R_val_Two kind a b r14 r15) ∧
       ∃ (r16 : V) (r17 : Int), (R_val_Index a b r16 r17) ∧
       ∃ (r18 : Bool), (R_val_Same a b r18) ∧
       ∃ (r19 : Bool), (R_ref4_SameVal a b r19) ∧
       ((r18 = r19) →
        ∃ (r20 : List UInt8), (R_val_Type a r20) ∧
        ∃ (r21 : List UInt8), (R_ref4_Type a r21) ∧
        ((r20 = r21) →
         ((r9 = r11.S) →
          ∃ (r22 : Int), (R_law1_Num r10 r22) ∧
          ((r22 = r11.E) →
           ∃ (r23 : Got), (R_ref4_One kind a r23) ∧
           ∃ (r24 : Bool), (R_law4_is r12 r13 r23 r24) ∧
           ((r24 = true) →
            ∃ (r25 : Got), (R_ref4_Two kind a b r25) ∧
            ∃ (r26 : Bool), (R_law4_is r14 r15 r25 r26) ∧
            ((r26 = true) →
             ∃ (r27 : Got), (R_ref4_Index a b r27) ∧
             ∃ (r28 : Bool), (R_law4_is r16 r17 r27 r28) ∧
             ((r28 = true) →
              ∃ (r29 : Bool), (R_law4_awake r29) ∧
              r29 = r) ∧
             (¬ (r28 = true) →
              false = r)) ∧
            (¬ (r26 = true) →
             false = r)) ∧
           (¬ (r24 = true) →
            false = r)) ∧
          (¬ (r22 = r11.E) →
           false = r)) ∧
         (¬ (r9 = r11.S) →
          false = r)) ∧
        (¬ (r20 = r21) →
         false = r)) ∧
       (¬ (r18 = r19) →
        false = r)) ∧
      (¬ (r8 = true) →
       ∃ (r30 : Bool), (R_law4_awake r30) ∧
       r30 = r)) ∧
     (¬ (r6 = true) →
      ∃ (r31 : Bool), (R_law4_awake r31) ∧
      r31 = r)) ∧
    (¬ (r7 = r8) →
     false = r)) ∧
   (¬ (r5 = r6) →
    false = r)))) : R_law4_ValAll kind a b r := by
 intro S
 rw [call_code sp_law4_ValAll _ _ rfl]
 obtain ⟨r1, q1, T⟩ := T
 simp only [R_law4_Great, le] at q1
 by_cases c2 : r1 = true
 · replace T := T.1 c2
   obtain ⟨r2, q3, rfl⟩ := T
   simp only [R_law4_awake, le] at q3
   simp only [q1, c2, q3, U_law4_ValAll, lw, le, reduceIte, reduceCtorEq, Nat.reduceEqDiff, Nat.reduceAdd, Nat.reduceLeDiff, Nat.reduceSub, Nat.reduceLT, Int.reduceEq, Int.reduceLT, Int.reduceLE, Int.reduceToNat]
 · replace T := T.2 c2
   replace c2 := Bool.eq_false_iff.2 c2
   obtain ⟨r3, q4, T⟩ := T
   simp only [R_law4_Great, le] at q4
   by_cases c5 : r3 = true
   · replace T := T.1 c5
     obtain ⟨r4, q6, rfl⟩ := T
     simp only [R_law4_awake, le] at q6
     simp only [q1, c2, q4, c5, q6, U_law4_ValAll, lw, le, reduceIte, reduceCtorEq, Nat.reduceEqDiff, Nat.reduceAdd, Nat.reduceLeDiff, Nat.reduceSub, Nat.reduceLT, Int.reduceEq, Int.reduceLT, Int.reduceLE, Int.reduceToNat]
   · replace T := T.2 c5
     replace c5 := Bool.eq_false_iff.2 c5
     obtain ⟨r5, q7, r6, q8, T⟩ := T
     simp only [R_val_May, le] at q7
     simp only [R_ref4_MayVal, le] at q8
     by_cases c9 : r5 = r6
     · replace T := T.1 c9
       obtain ⟨r7, q10, r8, q11, T⟩ := T
       simp only [R_val_May, le] at q10
       simp only [R_ref4_MayVal, le] at q11
       by_cases c12 : r7 = r8
       · replace T := T.1 c12
         by_cases c13 : r6 = true
         · replace T := T.1 c13
           by_cases c14 : r8 = true
           · replace T := T.1 c14
             obtain ⟨r9, r10, q15, r11, q16, r12, r13, q17, r14, r15, q18, r16, r17, q19, r18, q20, r19, q21, T⟩ := T
             simp only [R_val_Text, le] at q15
             simp only [R_ref4_Text, le] at q16
             simp only [R_val_One, le] at q17
             simp only [R_val_Two, le] at q18
             simp only [R_val_Index, le] at q19
             simp only [R_val_Same, le] at q20
             simp only [R_ref4_SameVal, le] at q21
             by_cases c22 : r18 = r19
             · replace T := T.1 c22
               obtain ⟨r20, q23, r21, q24, T⟩ := T
               simp only [R_val_Type, le] at q23
               simp only [R_ref4_Type, le] at q24
               by_cases c25 : r20 = r21
               · replace T := T.1 c25
                 by_cases c26 : r9 = r11.S
                 · replace T := T.1 c26
                   obtain ⟨r22, q27, T⟩ := T
                   simp only [R_law1_Num, le] at q27
                   by_cases c28 : r22 = r11.E
                   · replace T := T.1 c28
                     obtain ⟨r23, q29, r24, q30, T⟩ := T
                     simp only [R_ref4_One, le] at q29
                     simp only [R_law4_is, le] at q30
                     by_cases c31 : r24 = true
                     · replace T := T.1 c31
                       obtain ⟨r25, q32, r26, q33, T⟩ := T
                       simp only [R_ref4_Two, le] at q32
                       simp only [R_law4_is, le] at q33
                       by_cases c34 : r26 = true
                       · replace T := T.1 c34
                         obtain ⟨r27, q35, r28, q36, T⟩ := T
                         simp only [R_ref4_Index, le] at q35
                         simp only [R_law4_is, le] at q36
                         by_cases c37 : r28 = true
                         · replace T := T.1 c37
                           obtain ⟨r29, q38, rfl⟩ := T
                           simp only [R_law4_awake, le] at q38
                           simp only [q1, c2, q4, c5, q7, q8, c9, q10, q11, c12, c13, c14, q15, q16, q17, q18, q19, q20, q21, c22, q23, q24, eq_true c25, eq_true c26, q27, eq_true c28, q29, q30, c31, q32, q33, c34, q35, q36, c37, q38, U_law4_ValAll, lw, le, reduceIte, reduceCtorEq, Nat.reduceEqDiff, Nat.reduceAdd, Nat.reduceLeDiff, Nat.reduceSub, Nat.reduceLT, Int.reduceEq, Int.reduceLT, Int.reduceLE, Int.reduceToNat]
                         · replace T := T.2 c37
                           replace c37 := Bool.eq_false_iff.2 c37
                           obtain rfl := T
                           simp only [q1, c2, q4, c5, q7, q8, c9, q10, q11, c12, c13, c14, q15, q16, q17, q18, q19, q20, q21, c22, q23, q24, eq_true c25, eq_true c26, q27, eq_true c28, q29, q30, c31, q32, q33, c34, q35, q36, c37, U_law4_ValAll, lw, le, reduceIte, reduceCtorEq, Nat.reduceEqDiff, Nat.reduceAdd, Nat.reduceLeDiff, Nat.reduceSub, Nat.reduceLT, Int.reduceEq, Int.reduceLT, Int.reduceLE, Int.reduceToNat]
                       · replace T := T.2 c34
                         replace c34 := Bool.eq_false_iff.2 c34
                         obtain rfl := T
                         simp only [q1, c2, q4, c5, q7, q8, c9, q10, q11, c12, c13, c14, q15, q16, q17, q18, q19, q20, q21, c22, q23, q24, eq_true c25, eq_true c26, q27, eq_true c28, q29, q30, c31, q32, q33, c34, U_law4_ValAll, lw, le, reduceIte, reduceCtorEq, Nat.reduceEqDiff, Nat.reduceAdd, Nat.reduceLeDiff, Nat.reduceSub, Nat.reduceLT, Int.reduceEq, Int.reduceLT, Int.reduceLE, Int.reduceToNat]
                     · replace T := T.2 c31
                       replace c31 := Bool.eq_false_iff.2 c31
                       obtain rfl := T
                       simp only [q1, c2, q4, c5, q7, q8, c9, q10, q11, c12, c13, c14, q15, q16, q17, q18, q19, q20, q21, c22, q23, q24, eq_true c25, eq_true c26, q27, eq_true c28, q29, q30, c31, U_law4_ValAll, lw, le, reduceIte, reduceCtorEq, Nat.reduceEqDiff, Nat.reduceAdd, Nat.reduceLeDiff, Nat.reduceSub, Nat.reduceLT, Int.reduceEq, Int.reduceLT, Int.reduceLE, Int.reduceToNat]
                   · replace T := T.2 c28
                     obtain rfl := T
                     simp only [q1, c2, q4, c5, q7, q8, c9, q10, q11, c12, c13, c14, q15, q16, q17, q18, q19, q20, q21, c22, q23, q24, eq_true c25, eq_true c26, q27, eq_false c28, U_law4_ValAll, lw, le, reduceIte, reduceCtorEq, Nat.reduceEqDiff, Nat.reduceAdd, Nat.reduceLeDiff, Nat.reduceSub, Nat.reduceLT, Int.reduceEq, Int.reduceLT, Int.reduceLE, Int.reduceToNat]
                 · replace T := T.2 c26
                   obtain rfl := T
                   simp only [q1, c2, q4, c5, q7, q8, c9, q10, q11, c12, c13, c14, q15, q16, q17, q18, q19, q20, q21, c22, q23, q24, eq_true c25, eq_false c26, U_law4_ValAll, lw, le, reduceIte, reduceCtorEq, Nat.reduceEqDiff, Nat.reduceAdd, Nat.reduceLeDiff, Nat.reduceSub, Nat.reduceLT, Int.reduceEq, Int.reduceLT, Int.reduceLE, Int.reduceToNat]
               · replace T := T.2 c25
                 obtain rfl := T
                 simp only [q1, c2, q4, c5, q7, q8, c9, q10, q11, c12, c13, c14, q15, q16, q17, q18, q19, q20, q21, c22, q23, q24, eq_false c25, U_law4_ValAll, lw, le, reduceIte, reduceCtorEq, Nat.reduceEqDiff, Nat.reduceAdd, Nat.reduceLeDiff, Nat.reduceSub, Nat.reduceLT, Int.reduceEq, Int.reduceLT, Int.reduceLE, Int.reduceToNat]
             · replace T := T.2 c22
               obtain rfl := T
               simp only [q1, c2, q4, c5, q7, q8, c9, q10, q11, c12, c13, c14, q15, q16, q17, q18, q19, q20, q21, eq_false c22, U_law4_ValAll, lw, le, reduceIte, reduceCtorEq, Nat.reduceEqDiff, Nat.reduceAdd, Nat.reduceLeDiff, Nat.reduceSub, Nat.reduceLT, Int.reduceEq, Int.reduceLT, Int.reduceLE, Int.reduceToNat]
           · replace T := T.2 c14
             replace c14 := Bool.eq_false_iff.2 c14
             obtain ⟨r30, q39, rfl⟩ := T
             simp only [R_law4_awake, le] at q39
             simp only [q1, c2, q4, c5, q7, q8, c9, q10, q11, c12, c13, c14, q39, U_law4_ValAll, lw, le, reduceIte, reduceCtorEq, Nat.reduceEqDiff, Nat.reduceAdd, Nat.reduceLeDiff, Nat.reduceSub, Nat.reduceLT, Int.reduceEq, Int.reduceLT, Int.reduceLE, Int.reduceToNat]
         · replace T := T.2 c13
           replace c13 := Bool.eq_false_iff.2 c13
           obtain ⟨r31, q40, rfl⟩ := T
           simp only [R_law4_awake, le] at q40
           simp only [q1, c2, q4, c5, q7, q8, c9, q10, q11, c12, c13, q40, U_law4_ValAll, lw, le, reduceIte, reduceCtorEq, Nat.reduceEqDiff, Nat.reduceAdd, Nat.reduceLeDiff, Nat.reduceSub, Nat.reduceLT, Int.reduceEq, Int.reduceLT, Int.reduceLE, Int.reduceToNat]
       · replace T := T.2 c12
         obtain rfl := T
         simp only [q1, c2, q4, c5, q7, q8, c9, q10, q11, eq_false c12, U_law4_ValAll, lw, le, reduceIte, reduceCtorEq, Nat.reduceEqDiff, Nat.reduceAdd, Nat.reduceLeDiff, Nat.reduceSub, Nat.reduceLT, Int.reduceEq, Int.reduceLT, Int.reduceLE, Int.reduceToNat]
     · replace T := T.2 c9
       obtain rfl := T
       simp only [q1, c2, q4, c5, q7, q8, eq_false c9, U_law4_ValAll, lw, le, reduceIte, reduceCtorEq, Nat.reduceEqDiff, Nat.reduceAdd, Nat.reduceLeDiff, Nat.reduceSub, Nat.reduceLT, Int.reduceEq, Int.reduceLT, Int.reduceLE, Int.reduceToNat]
theorem sp_law4_ValJoin : SP 7 = some (.code sc_law4_ValJoin) := SPof_code rfl Tryd.func7 comp_law4_ValJoin
/-! doorkeeper/doorkeeperlaw4.ValJoin -/
def At_law4_ValJoin_1 (l_ : List (List UInt8)) (s1 : List UInt8) (i2 : Int) (r : Bool) : Prop := ∀ (S : Sto) (e : Nat → PV) (f : Fr), e 0 = .list 1 (l_.map eS) false ∧ e 3 = .str s1 ∧ e 4 = .int .i64 i2 → k_law4_ValJoin_1 SP (E SP (.loop b_law4_ValJoin_1) ⟨e, f :: S⟩) = .ok (.v (.bool r)) S
set_option maxHeartbeats 4000000 in
theorem At_law4_ValJoin_1_step (l_ : List (List UInt8)) (s1 : List UInt8) (i2 : Int) (r : Bool) (T :
  ((i2 < ((l_.length : Nat) : Int)) →
  ((i2 < 30) →
   (0 ≤ i2) ∧
   ∃ (v3 : List UInt8), (l_[i2.toNat]? = some v3) ∧
   ((300 < ((v3.length : Nat) : Int)) →
    ∃ (r4 : Bool), (R_law4_awake r4) ∧
    r4 = r) ∧
   (¬ (300 < ((v3.length : Nat) : Int)) →
    (s1.length + v3.length ≤ maxInt) ∧
    (I64 (i2 + 1)) ∧
    At_law4_ValJoin_1 l_ (s1 ++ v3) (i2 + 1) r)) ∧
  (¬ (i2 < 30) →
   ((25 < ((l_.length : Nat) : Int)) →
    ∃ (r5 : Bool), (R_law4_awake r5) ∧
    r5 = r) ∧
   (¬ (25 < ((l_.length : Nat) : Int)) →
    ∃ (r6 : V) (r7 : Int), (R_val_Join l_ r6 r7) ∧
    ((400 < ((s1.length : Nat) : Int)) →
     ∃ (r8 : Int), (R_law1_Num r7 r8) ∧
     ((r8 = 4) →
      ((r6.s = []) →
       ∃ (r9 : Bool), (R_law4_awake r9) ∧
       r9 = r) ∧
      (¬ (r6.s = []) →
       false = r)) ∧
     (¬ (r8 = 4) →
      false = r)) ∧
    (¬ (400 < ((s1.length : Nat) : Int)) →
     ∃ (r10 : List UInt8) (r11 : Int), (R_val_Text r6 r10 r11) ∧
     ∃ (r12 : Int), (R_law1_Num r7 r12) ∧
     ((r12 = 0) →
      ((r6.k = 2) →
       ((r6.s = s1) →
        ∃ (r13 : Int), (R_law1_Num r11 r13) ∧
        ((r13 = 0) →
         ((r10 = s1) →
          ∃ (r14 : Bool), (R_law4_awake r14) ∧
          r14 = r) ∧
         (¬ (r10 = s1) →
          false = r)) ∧
        (¬ (r13 = 0) →
         false = r)) ∧
       (¬ (r6.s = s1) →
        false = r)) ∧
      (¬ (r6.k = 2) →
       false = r)) ∧
     (¬ (r12 = 0) →
      false = r))))) ∧
 (¬ (i2 < ((l_.length : Nat) : Int)) →
  ((25 < ((l_.length : Nat) : Int)) →
   ∃ (r15 : Bool), (R_law4_awake r15) ∧
   r15 = r) ∧
  (¬ (25 < ((l_.length : Nat) : Int)) →
   ∃ (r16 : V) (r17 : Int), (R_val_Join l_ r16 r17) ∧
   ((400 < ((s1.length : Nat) : Int)) →
    ∃ (r18 : Int), (R_law1_Num r17 r18) ∧
    ((r18 = 4) →
     ((r16.s = []) →
      ∃ (r19 : Bool), (R_law4_awake r19) ∧
      r19 = r) ∧
     (¬ (r16.s = []) →
      false = r)) ∧
    (¬ (r18 = 4) →
     false = r)) ∧
   (¬ (400 < ((s1.length : Nat) : Int)) →
    ∃ (r20 : List UInt8) (r21 : Int), (R_val_Text r16 r20 r21) ∧
    ∃ (r22 : Int), (R_law1_Num r17 r22) ∧
    ((r22 = 0) →
     ((r16.k = 2) →
      ((r16.s = s1) →
       ∃ (r23 : Int), (R_law1_Num r21 r23) ∧
       ((r23 = 0) →
        ((r20 = s1) →
         ∃ (r24 : Bool), (R_law4_awake r24) ∧
         r24 = r) ∧
        (¬ (r20 = s1) →
         false = r)) ∧
       (¬ (r23 = 0) →
        false = r)) ∧
      (¬ (r16.s = s1) →
       false = r)) ∧
     (¬ (r16.k = 2) →
      false = r)) ∧
    (¬ (r22 = 0) →
     false = r))))) : At_law4_ValJoin_1 l_ s1 i2 r := by
 intro S e f h
 unfold k_law4_ValJoin_1
 rw [E_loop]
 by_cases c1 : i2 < ((l_.length : Nat) : Int)
 · replace T := T.1 c1
   by_cases c2 : i2 < 30
   · replace T := T.1 c2
     obtain ⟨p3, v3, q4, T⟩ := T
     by_cases c5 : 300 < ((v3.length : Nat) : Int)
     · replace T := T.1 c5
       obtain ⟨r4, q6, rfl⟩ := T
       simp only [R_law4_awake, le] at q6
       simp only [h, eq_true c1, eq_true c2, p3, q4, eq_true c5, q6, U_law4_ValJoin, lw, le, reduceIte, reduceCtorEq, Nat.reduceEqDiff, Nat.reduceAdd, Nat.reduceLeDiff, Nat.reduceSub, Nat.reduceLT, Int.reduceEq, Int.reduceLT, Int.reduceLE, Int.reduceToNat]
     · replace T := T.2 c5
       obtain ⟨p7, p8, T⟩ := T
       try simp only [h, eq_true c1, eq_true c2, p3, q4, eq_false c5, p7, p8.wrap, U_law4_ValJoin, lw, le, reduceIte, reduceCtorEq, Nat.reduceEqDiff, Nat.reduceAdd, Nat.reduceLeDiff, Nat.reduceSub, Nat.reduceLT, Int.reduceEq, Int.reduceLT, Int.reduceLE, Int.reduceToNat]
       refine T S _ _ ?_
       simp only [h, eq_true c1, eq_true c2, p3, q4, eq_false c5, p7, p8.wrap, U_law4_ValJoin, lw, le, reduceIte, reduceCtorEq, Nat.reduceEqDiff, Nat.reduceAdd, Nat.reduceLeDiff, Nat.reduceSub, Nat.reduceLT, Int.reduceEq, Int.reduceLT, Int.reduceLE, Int.reduceToNat]
   · replace T := T.2 c2
     by_cases c9 : 25 < ((l_.length : Nat) : Int)
     · replace T := T.1 c9
       obtain ⟨r5, q10, rfl⟩ := T
       simp only [R_law4_awake, le] at q10
       simp only [h, eq_true c1, eq_false c2, eq_true c9, q10, U_law4_ValJoin, lw, le, reduceIte, reduceCtorEq, Nat.reduceEqDiff, Nat.reduceAdd, Nat.reduceLeDiff, Nat.reduceSub, Nat.reduceLT, Int.reduceEq, Int.reduceLT, Int.reduceLE, Int.reduceToNat]
     · replace T := T.2 c9
       obtain ⟨r6, r7, q11, T⟩ := T
       simp only [R_val_Join, le] at q11
       by_cases c12 : 400 < ((s1.length : Nat) : Int)
       · replace T := T.1 c12
         obtain ⟨r8, q13, T⟩ := T
         simp only [R_law1_Num, le] at q13
         by_cases c14 : r8 = 4
         · replace T := T.1 c14
           by_cases c15 : r6.s = []
           · replace T := T.1 c15
             obtain ⟨r9, q16, rfl⟩ := T
             simp only [R_law4_awake, le] at q16
             simp only [h, eq_true c1, eq_false c2, eq_false c9, q11, eq_true c12, q13, eq_true c14, eq_true c15, q16, U_law4_ValJoin, lw, le, reduceIte, reduceCtorEq, Nat.reduceEqDiff, Nat.reduceAdd, Nat.reduceLeDiff, Nat.reduceSub, Nat.reduceLT, Int.reduceEq, Int.reduceLT, Int.reduceLE, Int.reduceToNat]
           · replace T := T.2 c15
             obtain rfl := T
             simp only [h, eq_true c1, eq_false c2, eq_false c9, q11, eq_true c12, q13, eq_true c14, eq_false c15, U_law4_ValJoin, lw, le, reduceIte, reduceCtorEq, Nat.reduceEqDiff, Nat.reduceAdd, Nat.reduceLeDiff, Nat.reduceSub, Nat.reduceLT, Int.reduceEq, Int.reduceLT, Int.reduceLE, Int.reduceToNat]
         · replace T := T.2 c14
           obtain rfl := T
           simp only [h, eq_true c1, eq_false c2, eq_false c9, q11, eq_true c12, q13, eq_false c14, U_law4_ValJoin, lw, le, reduceIte, reduceCtorEq, Nat.reduceEqDiff, Nat.reduceAdd, Nat.reduceLeDiff, Nat.reduceSub, Nat.reduceLT, Int.reduceEq, Int.reduceLT, Int.reduceLE, Int.reduceToNat]
       · replace T := T.2 c12
         obtain ⟨r10, r11, q17, r12, q18, T⟩ := T
         simp only [R_val_Text, le] at q17
         simp only [R_law1_Num, le] at q18
         by_cases c19 : r12 = 0
         · replace T := T.1 c19
           by_cases c20 : r6.k = 2
           · replace T := T.1 c20
             by_cases c21 : r6.s = s1
             · replace T := T.1 c21
               obtain ⟨r13, q22, T⟩ := T
               simp only [R_law1_Num, le] at q22
               by_cases c23 : r13 = 0
               · replace T := T.1 c23
                 by_cases c24 : r10 = s1
                 · replace T := T.1 c24
                   obtain ⟨r14, q25, rfl⟩ := T
                   simp only [R_law4_awake, le] at q25
                   simp only [h, eq_true c1, eq_false c2, eq_false c9, q11, eq_false c12, q17, q18, eq_true c19, eq_true c20, eq_true c21, q22, eq_true c23, eq_true c24, q25, U_law4_ValJoin, lw, le, reduceIte, reduceCtorEq, Nat.reduceEqDiff, Nat.reduceAdd, Nat.reduceLeDiff, Nat.reduceSub, Nat.reduceLT, Int.reduceEq, Int.reduceLT, Int.reduceLE, Int.reduceToNat]
                 · replace T := T.2 c24
                   obtain rfl := T
                   simp only [h, eq_true c1, eq_false c2, eq_false c9, q11, eq_false c12, q17, q18, eq_true c19, eq_true c20, eq_true c21, q22, eq_true c23, eq_false c24, U_law4_ValJoin, lw, le, reduceIte, reduceCtorEq, Nat.reduceEqDiff, Nat.reduceAdd, Nat.reduceLeDiff, Nat.reduceSub, Nat.reduceLT, Int.reduceEq, Int.reduceLT, Int.reduceLE, Int.reduceToNat]
               · replace T := T.2 c23
                 obtain rfl := T
                 simp only [h, eq_true c1, eq_false c2, eq_false c9, q11, eq_false c12, q17, q18, eq_true c19, eq_true c20, eq_true c21, q22, eq_false c23, U_law4_ValJoin, lw, le, reduceIte, reduceCtorEq, Nat.reduceEqDiff, Nat.reduceAdd, Nat.reduceLeDiff, Nat.reduceSub, Nat.reduceLT, Int.reduceEq, Int.reduceLT, Int.reduceLE, Int.reduceToNat]
             · replace T := T.2 c21
               obtain rfl := T
               simp only [h, eq_true c1, eq_false c2, eq_false c9, q11, eq_false c12, q17, q18, eq_true c19, eq_true c20, eq_false c21, U_law4_ValJoin, lw, le, reduceIte, reduceCtorEq, Nat.reduceEqDiff, Nat.reduceAdd, Nat.reduceLeDiff, Nat.reduceSub, Nat.reduceLT, Int.reduceEq, Int.reduceLT, Int.reduceLE, Int.reduceToNat]
           · replace T := T.2 c20
             obtain rfl := T
             simp only [h, eq_true c1, eq_false c2, eq_false c9, q11, eq_false c12, q17, q18, eq_true c19, eq_false c20, U_law4_ValJoin, lw, le, reduceIte, reduceCtorEq, Nat.reduceEqDiff, Nat.reduceAdd, Nat.reduceLeDiff, Nat.reduceSub, Nat.reduceLT, Int.reduceEq, Int.reduceLT, Int.reduceLE, Int.reduceToNat]
         · replace T := T.2 c19
           obtain rfl := T
           simp only [h, eq_true c1, eq_false c2, eq_false c9, q11, eq_false c12, q17, q18, eq_false c19, U_law4_ValJoin, lw, le, reduceIte, reduceCtorEq, Nat.reduceEqDiff, Nat.reduceAdd, Nat.reduceLeDiff, Nat.reduceSub, Nat.reduceLT, Int.reduceEq, Int.reduceLT, Int.reduceLE, Int.reduceToNat]
 · replace T := T.2 c1
   by_cases c26 : 25 < ((l_.length : Nat) : Int)
   · replace T := T.1 c26
     obtain ⟨r15, q27, rfl⟩ := T
     simp only [R_law4_awake, le] at q27
     simp only [h, eq_false c1, eq_true c26, q27, U_law4_ValJoin, lw, le, reduceIte, reduceCtorEq, Nat.reduceEqDiff, Nat.reduceAdd, Nat.reduceLeDiff, Nat.reduceSub, Nat.reduceLT, Int.reduceEq, Int.reduceLT, Int.reduceLE, Int.reduceToNat]
   · replace T := T.2 c26
     obtain ⟨r16, r17, q28, T⟩ := T
     simp only [R_val_Join, le] at q28
     by_cases c29 : 400 < ((s1.length : Nat) : Int)
     · replace T := T.1 c29
       obtain ⟨r18, q30, T⟩ := T
       simp only [R_law1_Num, le] at q30
       by_cases c31 : r18 = 4
       · replace T := T.1 c31
         by_cases c32 : r16.s = []
         · replace T := T.1 c32
           obtain ⟨r19, q33, rfl⟩ := T
           simp only [R_law4_awake, le] at q33
           simp only [h, eq_false c1, eq_false c26, q28, eq_true c29, q30, eq_true c31, eq_true c32, q33, U_law4_ValJoin, lw, le, reduceIte, reduceCtorEq, Nat.reduceEqDiff, Nat.reduceAdd, Nat.reduceLeDiff, Nat.reduceSub, Nat.reduceLT, Int.reduceEq, Int.reduceLT, Int.reduceLE, Int.reduceToNat]
         · replace T := T.2 c32
           obtain rfl := T
           simp only [h, eq_false c1, eq_false c26, q28, eq_true c29, q30, eq_true c31, eq_false c32, U_law4_ValJoin, lw, le, reduceIte, reduceCtorEq, Nat.reduceEqDiff, Nat.reduceAdd, Nat.reduceLeDiff, Nat.reduceSub, Nat.reduceLT, Int.reduceEq, Int.reduceLT, Int.reduceLE, Int.reduceToNat]
       · replace T := T.2 c31
         obtain rfl := T
         simp only [h, eq_false c1, eq_false c26, q28, eq_true c29, q30, eq_false c31, U_law4_ValJoin, lw, le, reduceIte, reduceCtorEq, Nat.reduceEqDiff, Nat.reduceAdd, Nat.reduceLeDiff, Nat.reduceSub, Nat.reduceLT, Int.reduceEq, Int.reduceLT, Int.reduceLE, Int.reduceToNat]
     · replace T := T.2 c29
       obtain ⟨r20, r21, q34, r22, q35, T⟩ := T
       simp only [R_val_Text, le] at q34
       simp only [R_law1_Num, le] at q35
       by_cases c36 : r22 = 0
       · replace T := T.1 c36
         by_cases c37 : r16.k = 2
         · replace T := T.1 c37
           by_cases c38 : r16.s = s1
           · replace T := T.1 c38
             obtain ⟨r23, q39, T⟩ := T
             simp only [R_law1_Num, le] at q39
             by_cases c40 : r23 = 0
             · replace T := T.1 c40
               by_cases c41 : r20 = s1
               · replace T := T.1 c41
                 obtain ⟨r24, q42, rfl⟩ := T
                 simp only [R_law4_awake, le] at q42
                 simp only [h, eq_false c1, eq_false c26, q28, eq_false c29, q34, q35, eq_true c36, eq_true c37, eq_true c38, q39, eq_true c40, eq_true c41, q42, U_law4_ValJoin, lw, le, reduceIte, reduceCtorEq, Nat.reduceEqDiff, Nat.reduceAdd, Nat.reduceLeDiff, Nat.reduceSub, Nat.reduceLT, Int.reduceEq, Int.reduceLT, Int.reduceLE, Int.reduceToNat]
               · replace T := T.2 c41
                 obtain rfl := T
                 simp only [h, eq_false c1, eq_false c26, q28, eq_false c29, q34, q35, eq_true c36, eq_true c37, eq_true c38, q39, eq_true c40, eq_false c41, U_law4_ValJoin, lw, le, reduceIte, reduceCtorEq, Nat.reduceEqDiff, Nat.reduceAdd, Nat.reduceLeDiff, Nat.reduceSub, Nat.reduceLT, Int.reduceEq, Int.reduceLT, Int.reduceLE, Int.reduceToNat]
             · replace T := T.2 c40
               obtain rfl := T
               simp only [h, eq_false c1, eq_false c26, q28, eq_false c29, q34, q35, eq_true c36, eq_true c37, eq_true c38, q39, eq_false c40, U_law4_ValJoin, lw, le, reduceIte, reduceCtorEq, Nat.reduceEqDiff, Nat.reduceAdd, Nat.reduceLeDiff, Nat.reduceSub, Nat.reduceLT, Int.reduceEq, Int.reduceLT, Int.reduceLE, Int.reduceToNat]
           · replace T := T.2 c38
             obtain rfl := T
             simp only [h, eq_false c1, eq_false c26, q28, eq_false c29, q34, q35, eq_true c36, eq_true c37, eq_false c38, U_law4_ValJoin, lw, le, reduceIte, reduceCtorEq, Nat.reduceEqDiff, Nat.reduceAdd, Nat.reduceLeDiff, Nat.reduceSub, Nat.reduceLT, Int.reduceEq, Int.reduceLT, Int.reduceLE, Int.reduceToNat]
         · replace T := T.2 c37
           obtain rfl := T
           simp only [h, eq_false c1, eq_false c26, q28, eq_false c29, q34, q35, eq_true c36, eq_false c37, U_law4_ValJoin, lw, le, reduceIte, reduceCtorEq, Nat.reduceEqDiff, Nat.reduceAdd, Nat.reduceLeDiff, Nat.reduceSub, Nat.reduceLT, Int.reduceEq, Int.reduceLT, Int.reduceLE, Int.reduceToNat]
       · replace T := T.2 c36
         obtain rfl := T
         simp only [h, eq_false c1, eq_false c26, q28, eq_false c29, q34, q35, eq_false c36, U_law4_ValJoin, lw, le, reduceIte, reduceCtorEq, Nat.reduceEqDiff, Nat.reduceAdd, Nat.reduceLeDiff, Nat.reduceSub, Nat.reduceLT, Int.reduceEq, Int.reduceLT, Int.reduceLE, Int.reduceToNat]
set_option maxHeartbeats 4000000 in
theorem law4_ValJoin_tree (l_ : List (List UInt8)) (r : Bool) (T :
  At_law4_ValJoin_1 l_ [] 0 r) : R_law4_ValJoin l_ r := by
 intro S
 rw [call_code sp_law4_ValJoin _ _ rfl]
 try simp only [U_law4_ValJoin, lw, le, reduceIte, reduceCtorEq, Nat.reduceEqDiff, Nat.reduceAdd, Nat.reduceLeDiff, Nat.reduceSub, Nat.reduceLT, Int.reduceEq, Int.reduceLT, Int.reduceLE, Int.reduceToNat]
 refine T S _ _ ?_
 simp only [U_law4_ValJoin, lw, le, reduceIte, reduceCtorEq, Nat.reduceEqDiff, Nat.reduceAdd, Nat.reduceLeDiff, Nat.reduceSub, Nat.reduceLT, Int.reduceEq, Int.reduceLT, Int.reduceLE, Int.reduceToNat]
end Go.Proofs.YtebflncfgjnkkaaDoor.M

/- ValAll: how many values there are within; all joined. -/
namespace Go.Proofs.YtebflncfgjnkkaaDoor.M
set_option linter.unusedSimpArgs false
set_option linter.unusedVariables false
open Go Classical
/-- How many values there are within, as far as they are gone through. -/
def manyV : Nat → V → Nat
  | d, .mk _ _ s l => if 80 < d ∨ 100 < l.length ∨ 600 < s.length then 1000 else manyL d 1 l
where
  manyL : Nat → Nat → List V → Nat
    | _, n, [] => n
    | d, n, x :: l => if n < 1000 then manyL d (n + manyV (d + 1) x) l else n
theorem manyV_eq (d : Nat) (v : V) : manyV d v = if 80 < d ∨ 100 < v.l.length ∨ 600 < v.s.length then 1000 else manyV.manyL d 1 v.l := by
  cases v; simp only [manyV, V.l, V.s]; congr
theorem manyL_le (d B : Nat) : ∀ (l : List V) (n : Nat), (∀ x ∈ l, manyV (d + 1) x ≤ B) → manyV.manyL d n l ≤ max n (999 + B)
  | [], n, _ => by simp only [manyV.manyL]; omega
  | x :: l, n, h => by
    simp only [manyV.manyL]
    have h1 := h x (by simp)
    split
    · have := manyL_le d B l (n + manyV (d + 1) x) fun y hy => h y (by simp [hy])
      omega
    · omega
theorem manyV_le (v : V) (d : Nat) (hd : d ≤ 81) : manyV d v ≤ 1000 * (90 - d) := by
  rw [manyV_eq]
  split
  · omega
  · rename_i h
    have := manyL_le d (1000 * (90 - (d + 1))) v.l 1 (fun x hx => manyV_le x (d + 1) (by omega))
    omega
termination_by SizeOf.sizeOf v
decreasing_by exact sizeV hx
theorem manyL_ge (d : Nat) : ∀ (l : List V) (n : Nat), n ≤ manyV.manyL d n l
  | [], n => by simp only [manyV.manyL]; omega
  | x :: l, n => by
    simp only [manyV.manyL]
    split
    · have := manyL_ge d l (n + manyV (d + 1) x); omega
    · omega
theorem manyL_each (d : Nat) : ∀ (l : List V) (n : Nat), manyV.manyL d n l < 1000 → ∀ x ∈ l, manyV (d + 1) x < 1000
  | [], _, _, x, hx => by cases hx
  | y :: l, n, h, x, hx => by
    simp only [manyV.manyL] at h
    split at h
    · have := manyL_ge d l (n + manyV (d + 1) y)
      rcases List.mem_cons.1 hx with rfl | hx
      · omega
      · exact manyL_each d l _ h x hx
    · omega
theorem deepL_le {B : Nat} : ∀ {l : List V}, (∀ x ∈ l, deep x ≤ B) → deepL l ≤ B
  | [], _ => by simp [deepL]
  | x :: l, h => by
    have h1 := h x (by simp)
    have h2 := deepL_le (B := B) (l := l) fun y hy => h y (by simp [hy])
    simp only [deepL]
    omega
theorem many_deep (v : V) (d : Nat) (h : manyV d v < 1000) : deep v ≤ 81 - d := by
  rw [manyV_eq] at h
  split at h
  · omega
  · rename_i hc
    have := deepL_le (B := 81 - (d + 1)) (l := v.l) fun x hx => many_deep x (d + 1) (manyL_each d v.l 1 h x hx)
    rw [deep_eq]
    split <;> omega
termination_by SizeOf.sizeOf v
decreasing_by exact sizeV hx
theorem r_many_loop (v : V) (d : Nat) (hd : d ≤ 80) (hs : v.l.length < 9223372036854775808) (hr : ∀ x ∈ v.l, R_law4_many x ((d + 1 : Nat) : Int) (manyV (d + 1) x : Nat)) : ∀ (k i : Nat), i + k = v.l.length → ∀ n : Nat, n ≤ 1000000 → At_law4_many_1 v d n i ((manyV.manyL d n (v.l.drop i) : Nat) : Int) := by
  intro k
  induction k with
  | zero =>
    intro i hi n hn
    apply At_law4_many_1_step
    refine ⟨fun h => by omega, fun h => ?_⟩
    rw [List.drop_eq_nil_of_le (by omega)]
    simp [manyV.manyL]
  | succ k ih =>
    intro i hi n hn
    apply At_law4_many_1_step
    have h1 : i < v.l.length := by omega
    rw [List.drop_eq_getElem_cons h1]
    simp only [manyV.manyL]
    have hb := manyV_le v.l[i] (d + 1) (by omega)
    refine ⟨fun h => ⟨fun hn2 => ⟨by omega, v.l[i], by simp, ⟨by omega, by omega⟩, (manyV (d + 1) v.l[i] : Nat), ?_, ⟨by omega, by omega⟩, ⟨by omega, by omega⟩, ?_⟩, fun hn2 => ?_⟩, fun h => by omega⟩
    · exact hr _ (List.getElem_mem h1)
    · rw [if_pos (by omega)]
      exact ih (i + 1) (by omega) (n + manyV (d + 1) v.l[i]) (by omega)
    · rw [if_neg (by omega)]
theorem r_many (v : V) (hs : small v) (d : Nat) (hd : d ≤ 81) : R_law4_many v d (manyV d v : Nat) := by
  have hl := small_l hs
  apply law4_many_tree
  rw [manyV_eq]
  refine ⟨fun h => ?_, fun h => ⟨fun h2 => ?_, fun h2 => ⟨fun h3 => ?_, fun h3 => ?_⟩⟩⟩
  · rw [if_pos (by omega)]; rfl
  · rw [if_pos (by omega)]; rfl
  · rw [if_pos (by omega)]; rfl
  · rw [if_neg (by omega)]
    have := r_many_loop v d (by omega) hl.1 (fun x hx => r_many x (smallA_mem hl.2 x hx) (d + 1) (by omega)) v.l.length 0 (by omega) 1 (by omega)
    simpa using this
termination_by SizeOf.sizeOf v
decreasing_by exact sizeV hx
theorem r_Great (v : V) (hs : small v) : R_law4_Great v 0 (decide (500 < manyV 0 v)) := by
  apply law4_Great_tree
  exact ⟨_, r_many v hs 0 (by omega), decide_eq_decide.2 (by omega)⟩
theorem r_awake : R_law4_awake true := by
  apply law4_awake_tree
  have h := r_Two 19 (.mk 1 1 [] []) (.mk 1 2 [] []) (by simp [small, smallA]) (fun h => by simp [V.k] at h) (fun h => by simp [V.k] at h)
  have e : twoT 19 (.mk 1 1 [] []) (.mk 1 2 [] []) = (numV 3, 0) := by
    have : reckonS 19 1 2 = (3, 0) := by decide +kernel
    simp [twoT, V.k, V.n, this]
  rw [e] at h
  exact ⟨_, _, h, _, r_Num _, fun _ => ⟨fun _ => by simp [numV, V.n], fun h => absurd rfl h⟩, fun h => absurd rfl h⟩
theorem plain_T {v : V} (h : plainV v = true) : okT v := by
  intro h3
  rw [plainV_eq] at h
  simp only [h3] at h
  simp at h
  exact h.1
theorem oneT_small (k : Int) (v : V) : small (oneT k v).1 := by
  unfold oneT
  repeat' split
  all_goals simp [truthV, numV, zeroV, small, smallA]
theorem twoT_small (k : Int) (a b : V) : small (twoT k a b).1 := by
  unfold twoT
  repeat' split
  all_goals simp [truthV, numV, zeroV, small, smallA]
theorem indexS_small (a b : V) (h : small a) : small (indexS a b).1 := by
  have hl := small_l h
  unfold indexS
  repeat' split
  all_goals try (simp [zeroV, small, smallA]; done)
  rename_i h1 h2 h3 h4
  have hlt : b.n.toNat < a.l.length := by omega
  rw [List.getElem?_eq_getElem hlt]
  exact smallA_mem hl.2 _ (List.getElem_mem hlt)
theorem r_ValAll (k : Int) (a b : V) (ha : small a) (hb : small b) (oa : okV a) (ob : okV b) : R_law4_ValAll k a b true := by
  apply law4_ValAll_tree
  refine ⟨_, r_Great a ha, fun _ => ⟨_, r_awake, rfl⟩, fun g1 => ⟨_, r_Great b hb, fun _ => ⟨_, r_awake, rfl⟩, fun g2 => ?_⟩⟩
  have d1 : deep a ≤ 81 := many_deep a 0 (by simp at g1; omega)
  have d2 : deep b ≤ 81 := many_deep b 0 (by simp at g2; omega)
  refine ⟨_, r_May a ha (by omega), _, r_MayVal a ha, fun _ => ⟨_, r_May b hb (by omega), _, r_MayVal b hb, fun _ => ⟨fun m1 => ⟨fun m2 => ?_, fun _ => ⟨_, r_awake, rfl⟩⟩, fun _ => ⟨_, r_awake, rfl⟩⟩, fun h => absurd rfl h⟩, fun h => absurd rfl h⟩
  simp only [Bool.and_eq_true] at m1 m2
  have ta := plain_T m1.1
  have tb := plain_T m2.1
  refine ⟨_, _, r_Text a oa, _, r_rText a oa, _, _, r_One k a oa, _, _, r_Two k a b ha ta tb, _, _, r_Index a b, _, r_Same a b ha, _, r_SameVal a b ha, fun _ => ⟨_, r_Type a m1.1, _, r_rType a, fun _ => ⟨fun _ => ⟨_, r_Num _, fun _ => ⟨_, r_rOne k a oa, true, r_is _ _ (oneT_small k a), fun _ => ⟨_, r_rTwo k a b ha oa ob ta tb, true, r_is _ _ (twoT_small k a b), fun _ => ⟨_, r_rIndex a b, true, r_is _ _ (indexS_small a b ha), fun _ => ⟨_, r_awake, rfl⟩, fun h => absurd rfl h⟩, fun h => absurd rfl h⟩, fun h => absurd rfl h⟩, fun h => absurd rfl h⟩, fun h => absurd rfl h⟩, fun h => absurd rfl h⟩, fun h => absurd rfl h⟩
end Go.Proofs.YtebflncfgjnkkaaDoor.M

/- ValJoin. -/
namespace Go.Proofs.YtebflncfgjnkkaaDoor.M
set_option linter.unusedSimpArgs false
set_option linter.unusedVariables false
open Go Classical
theorem intercalate_nil : ∀ l : List (List UInt8), ([] : List UInt8).intercalate l = l.flatten
  | [] => rfl
  | [x] => by simp [List.intercalate]
  | x :: y :: l => by
    have := intercalate_nil (y :: l)
    simp only [List.intercalate, List.intersperse] at this ⊢
    simp at this ⊢
    exact this
theorem join_nil (l : List (List UInt8)) : Lib.join l [] = l.flatten := intercalate_nil l
theorem textsOf_map : ∀ l : List (List UInt8), textsOf (l.map eS) = some l
  | [] => rfl
  | x :: l => by simp [eS, textsOf, textsOf_map l]
theorem r_SJoin (l : List (List UInt8)) (h : l.length ≤ 140737488355328) (h2 : l.flatten.length ≤ 140737488355328) : R_strings_Join l [] l.flatten := fun S => by
  refine call_ext sp_strings_Join S ?_
  simp only [joinX, textsOf_map, join_nil]
  rw [if_pos ⟨h, h2⟩]
/-- All texts, one behind the other; and the error. -/
def joinV (l : List (List UInt8)) : V × Int := if l.flatten.length ≤ 400 then (.mk 2 0 l.flatten [], 0) else (zeroV, 4)
theorem joinV_fits {l : List (List UInt8)} (h : l.flatten.length ≤ 400) : joinV l = (.mk 2 0 l.flatten [], 0) := if_pos h
theorem joinV_large {l : List (List UInt8)} (h : ¬ l.flatten.length ≤ 400) : joinV l = (zeroV, 4) := if_neg h
theorem flatten_take (l : List (List UInt8)) (i : Nat) (h : i < l.length) : (l.take (i + 1)).flatten.length = (l.take i).flatten.length + l[i].length := by
  rw [List.take_succ_eq_append_getElem h, List.flatten_append, List.length_append]
  simp [-List.length_flatten]
theorem flatten_le (l : List (List UInt8)) (i : Nat) : (l.take i).flatten.length ≤ l.flatten.length := by
  have : l.flatten = (l.take i).flatten ++ (l.drop i).flatten := by rw [← List.flatten_append, List.take_append_drop]
  rw [this, List.length_append]
  omega
theorem r_Join_loop (l : List (List UInt8)) (hl : l.length ≤ 140737488355328) : ∀ (k i : Nat), i + k = l.length → (l.take i).flatten.length ≤ 400 → ∀ (i3 i4 : Int) (s5 : List UInt8) (l6 : List V) (g7 : Nat), At_val_Join_1 l ((l.take i).flatten.length : Nat) i i3 i4 s5 l6 g7 (joinV l).1 (joinV l).2 := by
  intro k
  induction k with
  | zero =>
    intro i hi h i3 i4 s5 l6 g7
    apply At_val_Join_1_step
    rw [List.take_of_length_le (by omega)] at h
    refine ⟨fun h => by omega, fun _ => ⟨_, r_SJoin l hl (by omega), ?_⟩⟩
    rw [joinV_fits h]; exact ⟨rfl, rfl⟩
  | succ k ih =>
    intro i hi h i3 i4 s5 l6 g7
    apply At_val_Join_1_step
    have h1 : i < l.length := by omega
    have ht := flatten_take l i h1
    refine ⟨fun _ => ⟨by omega, l[i], by simp, ⟨by omega, by omega⟩, fun h2 => ?_, fun h2 => ⟨⟨by omega, by omega⟩, ⟨by omega, by omega⟩, ?_⟩⟩, fun h => by omega⟩
    · have := flatten_le l (i + 1)
      have h3 : ¬ l.flatten.length ≤ 400 := by omega
      rw [joinV_large h3]; exact ⟨rfl, rfl⟩
    · have := ih (i + 1) (by omega) (by omega) i3 i4 s5 l6 g7
      rw [ht] at this
      exact this
theorem r_Join (l : List (List UInt8)) (hl : l.length ≤ 140737488355328) : R_val_Join l (joinV l).1 (joinV l).2 := by
  apply val_Join_tree
  exact r_Join_loop l hl l.length 0 (by omega) (by simp) 0 0 [] [] 0
theorem r_ValJoin_loop (l : List (List UInt8)) : ∀ (k i : Nat), i + k = min l.length 30 → (∀ s ∈ l.take i, s.length ≤ 300) → At_law4_ValJoin_1 l (l.take i).flatten i true := by
  have flat_small : ∀ (m : List (List UInt8)), (∀ s ∈ m, s.length ≤ 300) → m.flatten.length ≤ 300 * m.length := by
    intro m
    induction m with
    | nil => intro _; simp
    | cons x m ih =>
      intro h
      have h1 := h x (by simp)
      have h2 := ih fun s hs => h s (by simp [hs])
      rw [List.flatten_cons, List.length_append, List.length_cons]
      omega
  have fin : ∀ i, l.length ≤ i → l.length ≤ 25 → ∃ (r : V) (e : Int), R_val_Join l r e ∧ (400 < (((l.take i).flatten.length : Nat) : Int) → e = 4 ∧ r.s = []) ∧ (¬ 400 < (((l.take i).flatten.length : Nat) : Int) → e = 0 ∧ r.k = 2 ∧ r.s = (l.take i).flatten ∧ R_val_Text r (l.take i).flatten 0) := by
    intro i h1 h2
    rw [List.take_of_length_le h1]
    refine ⟨_, _, r_Join l (by omega), fun h => ?_, fun h => ?_⟩
    · have : ¬ l.flatten.length ≤ 400 := by omega
      rw [joinV_large this]; exact ⟨rfl, rfl⟩
    · have h3 : l.flatten.length ≤ 400 := by omega
      have e : joinV l = (.mk 2 0 l.flatten [], 0) := joinV_fits h3
      rw [e]
      refine ⟨rfl, rfl, rfl, ?_⟩
      have := r_Text (.mk 2 0 l.flatten []) ⟨by simp [V.n], by simp [V.n]⟩
      simpa [textV, V.k, V.s] using this
  intro k
  induction k with
  | zero =>
    intro i hi hs
    apply At_law4_ValJoin_1_step
    have last : (25 < ((l.length : Nat) : Int) → ∃ r5, R_law4_awake r5 ∧ r5 = true) := fun _ => ⟨_, r_awake, rfl⟩
    refine ⟨fun h => ⟨fun h2 => by omega, fun h2 => ⟨last, fun h3 => by omega⟩⟩, fun h => ⟨last, fun h3 => ?_⟩⟩
    obtain ⟨r, e, hJ, q1, q2⟩ := fin i (by omega) (by omega)
    refine ⟨r, e, hJ, fun h => ?_, fun h => ?_⟩
    · obtain ⟨rfl, hr⟩ := q1 h
      exact ⟨_, r_Num _, fun _ => ⟨fun _ => ⟨_, r_awake, rfl⟩, fun h => absurd hr h⟩, fun h => absurd rfl h⟩
    · obtain ⟨rfl, hk, hr, hT⟩ := q2 h
      exact ⟨_, _, hT, _, r_Num _, fun _ => ⟨fun _ => ⟨fun _ => ⟨_, r_Num _, fun _ => ⟨fun _ => ⟨_, r_awake, rfl⟩, fun h => absurd rfl h⟩, fun h => absurd rfl h⟩, fun h => absurd hr h⟩, fun h => absurd hk h⟩, fun h => absurd rfl h⟩
  | succ k ih =>
    intro i hi hs
    apply At_law4_ValJoin_1_step
    have h1 : i < l.length := by omega
    refine ⟨fun _ => ⟨fun _ => ⟨by omega, l[i], by simp, fun _ => ⟨_, r_awake, rfl⟩, fun h3 => ⟨?_, ⟨by omega, by omega⟩, ?_⟩⟩, fun h => by omega⟩, fun h => by omega⟩
    · have := flat_small _ hs
      have h4 : (l.take i).length ≤ 30 := by simp; omega
      simp only [maxInt]
      omega
    · have := ih (i + 1) (by omega) (by
        intro s hs'
        rw [List.take_succ_eq_append_getElem h1] at hs'
        rcases List.mem_append.1 hs' with h | h
        · exact hs s h
        · simp at h; subst h; omega)
      rw [List.take_succ_eq_append_getElem h1, List.flatten_append] at this
      simpa using this
theorem r_ValJoin (l : List (List UInt8)) : R_law4_ValJoin l true := by
  apply law4_ValJoin_tree
  exact r_ValJoin_loop l (min l.length 30) 0 (by omega) (by simp)
end Go.Proofs.YtebflncfgjnkkaaDoor.M
