/- Parts of a proof, one behind another: Lt3, Wl15, Wl17, Wl18, Shelf, XE, SpecLexGaps. -/
import Derived.Test.YtljgfdhlfjbafaaDoorZLexGaps4
import Derived.Shelf.Strings.Builder1
import Derived.Shelf.Strings.Builder2
import Derived.Shelf.Small.Strs
import Derived.Shelf.Strings.BuilderF
import Derived.Shelf.Strings.BuilderK
import Derived.Shelf.Utf8.RuneCount
import Derived.Shelf.Strings.Builder2Cap
import Derived.Shelf.Strconv.Atoi
import Derived.Shelf.Strconv.Itoa0
import Derived.Shelf.Strconv.Itoa1
import Derived.Shelf.LaysM
import Derived.Shelf.Strconv.Itoa2
import Derived.Shelf.Strconv.Itoa3
import Derived.Shelf.Strconv.AtoiErrFast
import Derived.Shelf.Strconv.ParseIntEmpty
import Derived.Shelf.Strconv.AtoiFail
import Derived.Shelf.Strconv.Clone
import Derived.Shelf.Strconv.SyntaxError
import Derived.Shelf.LaysC
import Derived.Shelf.Strconv.ToError
import Derived.Shelf.Strconv.AtoiErr
import Derived.Shelf.Strconv.Lower
import Derived.Shelf.Strconv.ParseUint10
import Derived.Shelf.Strconv.ParseUint10Empty
import Derived.Shelf.Strconv.ParseUint10Any
import Derived.Shelf.Strconv.ParseInt10
import Derived.Shelf.Strconv.AtoiLong
import Derived.Shelf.Strconv.AtoiInnerAll
import Derived.Shelf.Strconv.RangeError
import Derived.Shelf.Strconv.ToErrorRange
import Derived.Shelf.Strconv.AtoiAll
import Derived.Shelf.Strconv.ErrVarAll
import Derived.Shelf.Strings.Search1
import Derived.Shelf.Strings.Search2
import Derived.Shelf.Strings.Search3
import Derived.Shelf.Strings.Cut
import Derived.Shelf.Strings.Count
import Derived.Shelf.Strings.Shaped
import Derived.Shelf.Strings.Prefix
import Derived.Shelf.Strings.Split
import Derived.Shelf.Strings.Replace
import Derived.Shelf.Unicode.DecodeSlow
import Derived.Test.YtljgfdhlfjbafaaDoorProg
/- Trees of functions, printed by a program of this session (lift.py): what a run asks, over plain data. Lean proves each. -/
namespace Go.Proofs.YtljgfdhlfjbafaaDoor.M
set_option linter.unusedSimpArgs false
set_option linter.unusedVariables false
open Go Classical
theorem sp_law1_Num : SP 13 = some (.code sc_law1_Num) := SPof_code rfl Tryd.func13 comp_law1_Num
/-! doorkeeper/doorkeeperlaw1.Num -/
set_option maxHeartbeats 4000000 in
theorem law1_Num_tree (e_ : Int) (r : Int) (T :
  e_ = r) : R_law1_Num e_ r := by
 intro S
 rw [call_code sp_law1_Num _ _ rfl]
 have F := U_law1_Num
 obtain rfl := T
 exact fi F
theorem sp_law1_awake : SP 9 = some (.code sc_law1_awake) := SPof_code rfl Tryd.func9 comp_law1_awake
/-! doorkeeper/doorkeeperlaw1.awake -/
set_option maxHeartbeats 4000000 in
theorem law1_awake_tree  (r : Bool) (T :
  ∃ (r1 : List Token) (r2 : Int), (R_lex_Lex [97, 32, 61, 32, 49] r1 r2) ∧
 ∃ (r3 : Int), (R_law1_Num r2 r3) ∧
 ((r3 = 0) →
  (((r1.length : Int) = 4) →
   ∃ (v4 : Token), (r1[0]? = some v4) ∧
   ((v4.Kind = 3) →
    ∃ (v5 : Token), (r1[2]? = some v5) ∧
    (decide (v5.Num = 1)) = r) ∧
   (¬ (v4.Kind = 3) →
    false = r)) ∧
  (¬ ((r1.length : Int) = 4) →
   false = r)) ∧
 (¬ (r3 = 0) →
  false = r)) : R_law1_awake  r := by
 intro S
 rw [call_code sp_law1_awake _ _ rfl]
 have F := U_law1_awake
 obtain ⟨r1, r2, q1, r3, q2, T⟩ := T
 simp only [R_lex_Lex, le, List.cons_append, List.nil_append] at q1
 simp only [R_law1_Num, le, List.cons_append, List.nil_append] at q2
 replace F := aa q1 <| aa q2 <| F
 by_cases c3 : r3 = 0
 · replace T := T.1 c3
   replace F := aa (eq_true c3) <| F
   by_cases c4 : (r1.length : Int) = 4
   · replace T := T.1 c4
     obtain ⟨v4, q5, T⟩ := T
     replace F := aa (eq_true c4) <| aa q5 <| F
     by_cases c6 : v4.Kind = 3
     · replace T := T.1 c6
       obtain ⟨v5, q7, rfl⟩ := T
       exact fi (aa (eq_true c6) <| aa q7 <| F)
     · replace T := T.2 c6
       obtain rfl := T
       exact fi (aa (eq_false c6) <| F)
   · replace T := T.2 c4
     obtain rfl := T
     exact fi (aa (eq_false c4) <| F)
 · replace T := T.2 c3
   obtain rfl := T
   exact fi (aa (eq_false c3) <| F)
theorem sp_law1_LexTexts : SP 3 = some (.code sc_law1_LexTexts) := SPof_code rfl Tryd.func3 comp_law1_LexTexts
/-! doorkeeper/doorkeeperlaw1.LexTexts -/
set_option maxHeartbeats 4000000 in
theorem law1_LexTexts_tree (s : List UInt8) (r : Bool) (T :
  ((2000 < (s.length : Int)) →
  (((s.length : Int) ≤ 6000) →
   ∃ (r1 : Bool), (R_law1_awake r1) ∧
   r1 = r) ∧
  (¬ ((s.length : Int) ≤ 6000) →
   ∃ (r2 : List Token) (r3 : Int), (R_lex_Lex s r2 r3) ∧
   ∃ (r4 : Tokens), (R_ref1_Lex s r4) ∧
   ∃ (r5 : Bool), (R_ref1_SameTokens r2 r4.L r5) ∧
   ((r5 = true) →
    ∃ (r6 : Int), (R_law1_Num r3 r6) ∧
    ((r6 = r4.E) →
     ∃ (r7 : Bool), (R_law1_awake r7) ∧
     r7 = r) ∧
    (¬ (r6 = r4.E) →
     false = r)) ∧
   (¬ (r5 = true) →
    false = r))) ∧
 (¬ (2000 < (s.length : Int)) →
  ∃ (r8 : List Token) (r9 : Int), (R_lex_Lex s r8 r9) ∧
  ∃ (r10 : Tokens), (R_ref1_Lex s r10) ∧
  ∃ (r11 : Bool), (R_ref1_SameTokens r8 r10.L r11) ∧
  ((r11 = true) →
   ∃ (r12 : Int), (R_law1_Num r9 r12) ∧
   ((r12 = r10.E) →
    ∃ (r13 : Bool), (R_law1_awake r13) ∧
    r13 = r) ∧
   (¬ (r12 = r10.E) →
    false = r)) ∧
  (¬ (r11 = true) →
   false = r))) : R_law1_LexTexts s r := by
 intro S
 rw [call_code sp_law1_LexTexts _ _ rfl]
 have F := U_law1_LexTexts
 by_cases c1 : 2000 < (s.length : Int)
 · replace T := T.1 c1
   replace F := aa (eq_true c1) <| F
   by_cases c2 : (s.length : Int) ≤ 6000
   · replace T := T.1 c2
     obtain ⟨r1, q3, rfl⟩ := T
     simp only [R_law1_awake, le, List.cons_append, List.nil_append] at q3
     exact fi (aa (eq_true c2) <| aa q3 <| F)
   · replace T := T.2 c2
     obtain ⟨r2, r3, q4, r4, q5, r5, q6, T⟩ := T
     simp only [R_lex_Lex, le, List.cons_append, List.nil_append] at q4
     simp only [R_ref1_Lex, le, List.cons_append, List.nil_append] at q5
     simp only [R_ref1_SameTokens, le, List.cons_append, List.nil_append] at q6
     replace F := aa (eq_false c2) <| aa q4 <| aa q5 <| aa q6 <| F
     by_cases c7 : r5 = true
     · replace T := T.1 c7
       obtain ⟨r6, q8, T⟩ := T
       simp only [R_law1_Num, le, List.cons_append, List.nil_append] at q8
       replace F := aa c7 <| aa q8 <| F
       by_cases c9 : r6 = r4.E
       · replace T := T.1 c9
         obtain ⟨r7, q10, rfl⟩ := T
         simp only [R_law1_awake, le, List.cons_append, List.nil_append] at q10
         exact fi (aa (eq_true c9) <| aa q10 <| F)
       · replace T := T.2 c9
         obtain rfl := T
         exact fi (aa (eq_false c9) <| F)
     · replace T := T.2 c7
       replace c7 := Bool.eq_false_iff.2 c7
       obtain rfl := T
       exact fi (aa c7 <| F)
 · replace T := T.2 c1
   obtain ⟨r8, r9, q11, r10, q12, r11, q13, T⟩ := T
   simp only [R_lex_Lex, le, List.cons_append, List.nil_append] at q11
   simp only [R_ref1_Lex, le, List.cons_append, List.nil_append] at q12
   simp only [R_ref1_SameTokens, le, List.cons_append, List.nil_append] at q13
   replace F := aa (eq_false c1) <| aa q11 <| aa q12 <| aa q13 <| F
   by_cases c14 : r11 = true
   · replace T := T.1 c14
     obtain ⟨r12, q15, T⟩ := T
     simp only [R_law1_Num, le, List.cons_append, List.nil_append] at q15
     replace F := aa c14 <| aa q15 <| F
     by_cases c16 : r12 = r10.E
     · replace T := T.1 c16
       obtain ⟨r13, q17, rfl⟩ := T
       simp only [R_law1_awake, le, List.cons_append, List.nil_append] at q17
       exact fi (aa (eq_true c16) <| aa q17 <| F)
     · replace T := T.2 c16
       obtain rfl := T
       exact fi (aa (eq_false c16) <| F)
   · replace T := T.2 c14
     replace c14 := Bool.eq_false_iff.2 c14
     obtain rfl := T
     exact fi (aa c14 <| F)
theorem sp_law1_LexLabels : SP 8 = some (.code sc_law1_LexLabels) := SPof_code rfl Tryd.func8 comp_law1_LexLabels
/-! doorkeeper/doorkeeperlaw1.LexLabels -/
set_option maxHeartbeats 4000000 in
theorem law1_LexLabels_tree (s : List UInt8) (r : Bool) (T :
  ((300 < (s.length : Int)) →
  true = r) ∧
 (¬ (300 < (s.length : Int)) →
  ∃ (r1 : Bool), (R_lex_Label s r1) ∧
  ∃ (r2 : Bool), (R_ref1_Label s r2) ∧
  ((r1 = r2) →
   ∃ (r3 : Bool), (R_law1_awake r3) ∧
   r3 = r) ∧
  (¬ (r1 = r2) →
   false = r))) : R_law1_LexLabels s r := by
 intro S
 rw [call_code sp_law1_LexLabels _ _ rfl]
 have F := U_law1_LexLabels
 by_cases c1 : 300 < (s.length : Int)
 · replace T := T.1 c1
   obtain rfl := T
   exact fi (aa (eq_true c1) <| F)
 · replace T := T.2 c1
   obtain ⟨r1, q2, r2, q3, T⟩ := T
   simp only [R_lex_Label, le, List.cons_append, List.nil_append] at q2
   simp only [R_ref1_Label, le, List.cons_append, List.nil_append] at q3
   replace F := aa (eq_false c1) <| aa q2 <| aa q3 <| F
   by_cases c4 : r1 = r2
   · replace T := T.1 c4
     obtain ⟨r3, q5, rfl⟩ := T
     simp only [R_law1_awake, le, List.cons_append, List.nil_append] at q5
     exact fi (aa c4 <| aa q5 <| F)
   · replace T := T.2 c4
     obtain rfl := T
     exact fi (aa (eq_false c4) <| F)
theorem sp_law1_LexGaps : SP 4 = some (.code sc_law1_LexGaps) := SPof_code rfl Tryd.func4 comp_law1_LexGaps
/-! doorkeeper/doorkeeperlaw1.LexGaps -/
def At_law1_LexGaps_2 (s : List UInt8) (n : List UInt8) (r3 : List Token) (s6 : List UInt8) (i7 : Int) (i8 : Int) (r : Bool) : Prop := ∀ (S : Sto) (e : Nat → PV) (f : Fr), e 0 = .str s ∧ e 1 = .list 1 (n.map eB) false ∧ e 5 = .list 5 (r3.map eToken) false ∧ e 7 = .str s6 ∧ e 8 = .int .i64 i7 ∧ e 9 = .int .i64 i8 → k_law1_LexGaps_2 SP (E SP (.loop b_law1_LexGaps_2) ⟨e, f :: S⟩) = .ok (.v (.bool r)) S
def At_law1_LexGaps_1 (r3 : List Token) (r13 : List Token) (i16 : Int) (r : Bool) : Prop := ∀ (S : Sto) (e : Nat → PV) (f : Fr), e 5 = .list 5 (r3.map eToken) false ∧ e 10 = .list 5 (r13.map eToken) false ∧ e 12 = .int .i64 i16 → k_law1_LexGaps_1 SP (E SP (.loop b_law1_LexGaps_1) ⟨e, f :: S⟩) = .ok (.v (.bool r)) S
set_option maxHeartbeats 4000000 in
theorem At_law1_LexGaps_2_step (s : List UInt8) (n : List UInt8) (r3 : List Token) (s6 : List UInt8) (i7 : Int) (i8 : Int) (r : Bool) (T :
  ((i8 < (r3.length : Int)) →
  (0 ≤ i8) ∧
  ∃ (v10 : Token), (r3[i8.toNat]? = some v10) ∧
  ((v10.At < i7) →
   false = r) ∧
  (¬ (v10.At < i7) →
   (((s.length : Int) < v10.At) →
    false = r) ∧
   (¬ ((s.length : Int) < v10.At) →
    (0 ≤ i7) ∧ (0 ≤ v10.At) ∧ (i7.toNat ≤ v10.At.toNat) ∧ (v10.At.toNat ≤ s.length) ∧
    (s6.length + ((s.drop i7.toNat).take (v10.At.toNat - i7.toNat)).length ≤ maxInt) ∧
    ((i8 < (n.length : Int)) →
     (0 ≤ i8) ∧
     ∃ (v11 : UInt8), (n[i8.toNat]? = some v11) ∧
     (0 ≤ ((v11.toNat : Int).tmod 5)) ∧
     ∃ (v12 : List UInt8), (([[], [32], [10], [32, 35, 32, 120, 32, 34, 32, 36, 123, 32, 10], [35, 10]] : List (List UInt8))[((v11.toNat : Int).tmod 5).toNat]? = some v12) ∧
     (s6.length + ((s.drop i7.toNat).take (v10.At.toNat - i7.toNat)).length + v12.length ≤ maxInt) ∧
     (I64 (i8 + 1)) ∧
     At_law1_LexGaps_2 s n r3 ((s6 ++ ((s.drop i7.toNat).take (v10.At.toNat - i7.toNat))) ++ v12) v10.At (i8 + 1) r) ∧
    (¬ (i8 < (n.length : Int)) →
     (I64 (i8 + 1)) ∧
     At_law1_LexGaps_2 s n r3 (s6 ++ ((s.drop i7.toNat).take (v10.At.toNat - i7.toNat))) v10.At (i8 + 1) r)))) ∧
 (¬ (i8 < (r3.length : Int)) →
  (0 ≤ i7) ∧ (i7.toNat ≤ s.length) ∧
  (s6.length + ((s.drop i7.toNat).take (s.length - i7.toNat)).length ≤ maxInt) ∧
  ∃ (r13 : List Token) (r14 : Int), (R_lex_Lex (s6 ++ ((s.drop i7.toNat).take (s.length - i7.toNat))) r13 r14) ∧
  ∃ (r15 : Int), (R_law1_Num r14 r15) ∧
  ((r15 = 0) →
   (((r13.length : Int) = (r3.length : Int)) →
    At_law1_LexGaps_1 r3 r13 0 r) ∧
   (¬ ((r13.length : Int) = (r3.length : Int)) →
    false = r)) ∧
  (¬ (r15 = 0) →
   false = r))) : At_law1_LexGaps_2 s n r3 s6 i7 i8 r := by
 intro S e f h
 unfold k_law1_LexGaps_2
 rw [E_loop]
 have F := U_law1_LexGaps
 replace F := aa h <| F
 by_cases c1 : i8 < (r3.length : Int)
 · replace T := T.1 c1
   obtain ⟨p2, v10, q3, T⟩ := T
   replace F := aa (eq_true c1) <| aa p2 <| aa q3 <| F
   by_cases c4 : v10.At < i7
   · replace T := T.1 c4
     obtain rfl := T
     exact fi (aa (eq_true c4) <| F)
   · replace T := T.2 c4
     replace F := aa (eq_false c4) <| F
     by_cases c5 : (s.length : Int) < v10.At
     · replace T := T.1 c5
       obtain rfl := T
       exact fi (aa (eq_true c5) <| F)
     · replace T := T.2 c5
       obtain ⟨p6, p7, p8, p9, p10, T⟩ := T
       replace F := aa (eq_false c5) <| aa p6 <| aa p7 <| aa p8 <| aa p9 <| aa p10 <| F
       by_cases c11 : i8 < (n.length : Int)
       · replace T := T.1 c11
         obtain ⟨p12, v11, q13, p14, v12, q15, p16, p17, T⟩ := T
         replace q15 := congrArg (Option.map eS) q15
         rw [← List.getElem?_map] at q15
         simp only [le, List.map_append, Option.map_some] at q15
         replace F := aa (eq_true c11) <| aa p12 <| aa q13 <| aa p14 <| aa q15 <| aa p16 <| aa p17.wrap <| F
         try simp only [F, lw, lx, le, Nat.reduceMul, UInt8.reduceToNat, reduceIte, reduceCtorEq, Nat.reduceEqDiff, Nat.reduceAdd, Nat.reduceLeDiff, Nat.reduceSub, Nat.reduceLT, Int.reduceEq, Int.reduceLT, Int.reduceLE, Int.reduceToNat, Int.reduceAdd, Int.reduceSub, Int.reduceMul, Int.reduceNeg]
         refine T S _ _ ?_
         exact fi F
       · replace T := T.2 c11
         obtain ⟨p18, T⟩ := T
         replace F := aa (eq_false c11) <| aa p18.wrap <| F
         try simp only [F, lw, lx, le, Nat.reduceMul, UInt8.reduceToNat, reduceIte, reduceCtorEq, Nat.reduceEqDiff, Nat.reduceAdd, Nat.reduceLeDiff, Nat.reduceSub, Nat.reduceLT, Int.reduceEq, Int.reduceLT, Int.reduceLE, Int.reduceToNat, Int.reduceAdd, Int.reduceSub, Int.reduceMul, Int.reduceNeg]
         refine T S _ _ ?_
         exact fi F
 · replace T := T.2 c1
   obtain ⟨p19, p20, p21, r13, r14, q22, r15, q23, T⟩ := T
   simp only [R_lex_Lex, le, List.cons_append, List.nil_append] at q22
   simp only [R_law1_Num, le, List.cons_append, List.nil_append] at q23
   replace F := aa (eq_false c1) <| aa p19 <| aa p20 <| aa p21 <| aa q22 <| aa q23 <| F
   by_cases c24 : r15 = 0
   · replace T := T.1 c24
     replace F := aa (eq_true c24) <| F
     by_cases c25 : (r13.length : Int) = (r3.length : Int)
     · replace T := T.1 c25
       replace F := aa (eq_true c25) <| F
       try simp only [F, lw, lx, le, Nat.reduceMul, UInt8.reduceToNat, reduceIte, reduceCtorEq, Nat.reduceEqDiff, Nat.reduceAdd, Nat.reduceLeDiff, Nat.reduceSub, Nat.reduceLT, Int.reduceEq, Int.reduceLT, Int.reduceLE, Int.reduceToNat, Int.reduceAdd, Int.reduceSub, Int.reduceMul, Int.reduceNeg]
       refine T S _ _ ?_
       exact fi F
     · replace T := T.2 c25
       obtain rfl := T
       exact fi (aa (eq_false c25) <| F)
   · replace T := T.2 c24
     obtain rfl := T
     exact fi (aa (eq_false c24) <| F)
set_option maxHeartbeats 4000000 in
theorem At_law1_LexGaps_1_step (r3 : List Token) (r13 : List Token) (i16 : Int) (r : Bool) (T :
  ((i16 < (r13.length : Int)) →
  (0 ≤ i16) ∧
  ∃ (v17 : Token), (r13[i16.toNat]? = some v17) ∧
  (0 ≤ i16) ∧
  ∃ (v18 : Token), (r3[i16.toNat]? = some v18) ∧
  ∃ (r19 : Bool), (R_ref1_SameTokens [(Token.mk v17.Kind v17.Text v17.Num v17.Parts v18.At)] [v18] r19) ∧
  ((r19 = true) →
   (I64 (i16 + 1)) ∧
   At_law1_LexGaps_1 r3 r13 (i16 + 1) r) ∧
  (¬ (r19 = true) →
   false = r)) ∧
 (¬ (i16 < (r13.length : Int)) →
  ∃ (r20 : Bool), (R_law1_awake r20) ∧
  r20 = r)) : At_law1_LexGaps_1 r3 r13 i16 r := by
 intro S e f h
 unfold k_law1_LexGaps_1
 rw [E_loop]
 have F := U_law1_LexGaps
 replace F := aa h <| F
 by_cases c1 : i16 < (r13.length : Int)
 · replace T := T.1 c1
   obtain ⟨p2, v17, q3, p4, v18, q5, r19, q6, T⟩ := T
   simp only [R_ref1_SameTokens, le, List.cons_append, List.nil_append] at q6
   replace F := aa (eq_true c1) <| aa p2 <| aa q3 <| aa p4 <| aa q5 <| aa q6 <| F
   by_cases c7 : r19 = true
   · replace T := T.1 c7
     obtain ⟨p8, T⟩ := T
     replace F := aa c7 <| aa p8.wrap <| F
     try simp only [F, lw, lx, le, Nat.reduceMul, UInt8.reduceToNat, reduceIte, reduceCtorEq, Nat.reduceEqDiff, Nat.reduceAdd, Nat.reduceLeDiff, Nat.reduceSub, Nat.reduceLT, Int.reduceEq, Int.reduceLT, Int.reduceLE, Int.reduceToNat, Int.reduceAdd, Int.reduceSub, Int.reduceMul, Int.reduceNeg]
     refine T S _ _ ?_
     exact fi F
   · replace T := T.2 c7
     replace c7 := Bool.eq_false_iff.2 c7
     obtain rfl := T
     exact fi (aa c7 <| F)
 · replace T := T.2 c1
   obtain ⟨r20, q9, rfl⟩ := T
   simp only [R_law1_awake, le, List.cons_append, List.nil_append] at q9
   exact fi (aa (eq_false c1) <| aa q9 <| F)
set_option maxHeartbeats 4000000 in
theorem law1_LexGaps_tree (s : List UInt8) (n : List UInt8) (r : Bool) (T :
  ((300 < (s.length : Int)) →
  ∃ (r1 : Bool), (R_law1_awake r1) ∧
  r1 = r) ∧
 (¬ (300 < (s.length : Int)) →
  ((80 < (n.length : Int)) →
   ∃ (r2 : Bool), (R_law1_awake r2) ∧
   r2 = r) ∧
  (¬ (80 < (n.length : Int)) →
   ∃ (r3 : List Token) (r4 : Int), (R_lex_Lex s r3 r4) ∧
   ∃ (r5 : Int), (R_law1_Num r4 r5) ∧
   ((r5 = 0) →
    At_law1_LexGaps_2 s n r3 [] 0 0 r) ∧
   (¬ (r5 = 0) →
    (((r3.length : Int) = 0) →
     ∃ (r9 : Bool), (R_law1_awake r9) ∧
     r9 = r) ∧
    (¬ ((r3.length : Int) = 0) →
     false = r))))) : R_law1_LexGaps s n r := by
 intro S
 rw [call_code sp_law1_LexGaps _ _ rfl]
 have F := U_law1_LexGaps
 by_cases c1 : 300 < (s.length : Int)
 · replace T := T.1 c1
   obtain ⟨r1, q2, rfl⟩ := T
   simp only [R_law1_awake, le, List.cons_append, List.nil_append] at q2
   exact fi (aa (eq_true c1) <| aa q2 <| F)
 · replace T := T.2 c1
   replace F := aa (eq_false c1) <| F
   by_cases c3 : 80 < (n.length : Int)
   · replace T := T.1 c3
     obtain ⟨r2, q4, rfl⟩ := T
     simp only [R_law1_awake, le, List.cons_append, List.nil_append] at q4
     exact fi (aa (eq_true c3) <| aa q4 <| F)
   · replace T := T.2 c3
     obtain ⟨r3, r4, q5, r5, q6, T⟩ := T
     simp only [R_lex_Lex, le, List.cons_append, List.nil_append] at q5
     simp only [R_law1_Num, le, List.cons_append, List.nil_append] at q6
     replace F := aa (eq_false c3) <| aa q5 <| aa q6 <| F
     by_cases c7 : r5 = 0
     · replace T := T.1 c7
       replace F := aa (eq_true c7) <| F
       try simp only [F, lw, lx, le, Nat.reduceMul, UInt8.reduceToNat, reduceIte, reduceCtorEq, Nat.reduceEqDiff, Nat.reduceAdd, Nat.reduceLeDiff, Nat.reduceSub, Nat.reduceLT, Int.reduceEq, Int.reduceLT, Int.reduceLE, Int.reduceToNat, Int.reduceAdd, Int.reduceSub, Int.reduceMul, Int.reduceNeg]
       refine T S _ _ ?_
       exact fi F
     · replace T := T.2 c7
       replace F := aa (eq_false c7) <| F
       by_cases c8 : (r3.length : Int) = 0
       · replace T := T.1 c8
         obtain ⟨r9, q9, rfl⟩ := T
         simp only [R_law1_awake, le, List.cons_append, List.nil_append] at q9
         exact fi (aa (eq_true c8) <| aa q9 <| F)
       · replace T := T.2 c8
         obtain rfl := T
         exact fi (aa (eq_false c8) <| F)
theorem sp_law1_LexStrings : SP 5 = some (.code sc_law1_LexStrings) := SPof_code rfl Tryd.func5 comp_law1_LexStrings
/-! doorkeeper/doorkeeperlaw1.LexStrings -/
def At_law1_LexStrings_1 (s : List UInt8) (s2 : List UInt8) (b3 : Bool) (i4 : Int) (r : Bool) : Prop := ∀ (S : Sto) (e : Nat → PV) (f : Fr), e 0 = .str s ∧ e 3 = .str s2 ∧ e 4 = .bool b3 ∧ e 5 = .int .i64 i4 → k_law1_LexStrings_1 SP (E SP (.loop b_law1_LexStrings_1) ⟨e, f :: S⟩) = .ok (.v (.bool r)) S
set_option maxHeartbeats 4000000 in
theorem At_law1_LexStrings_1_step (s : List UInt8) (s2 : List UInt8) (b3 : Bool) (i4 : Int) (r : Bool) (T :
  ((i4 < (s.length : Int)) →
  (I64 (i4 + 1)) ∧
  (0 ≤ i4) ∧ (0 ≤ (i4 + 1)) ∧ (i4.toNat ≤ (i4 + 1).toNat) ∧ ((i4 + 1).toNat ≤ s.length) ∧
  (0 ≤ i4) ∧
  ∃ (b5 : UInt8), (s[i4.toNat]? = some b5) ∧
  (((b5.toNat : Int) = 34) →
   (1 + (((s.drop i4.toNat).take ((i4 + 1).toNat - i4.toNat)).length) ≤ maxInt) ∧
   (s2.length + (((s.drop i4.toNat).take ((i4 + 1).toNat - i4.toNat)).length + 1) ≤ maxInt) ∧
   (I64 (i4 + 1)) ∧
   At_law1_LexStrings_1 s (s2 ++ ([92] ++ ((s.drop i4.toNat).take ((i4 + 1).toNat - i4.toNat)))) b3 (i4 + 1) r) ∧
  (¬ ((b5.toNat : Int) = 34) →
   (((b5.toNat : Int) = 92) →
    (1 + (((s.drop i4.toNat).take ((i4 + 1).toNat - i4.toNat)).length) ≤ maxInt) ∧
    (s2.length + (((s.drop i4.toNat).take ((i4 + 1).toNat - i4.toNat)).length + 1) ≤ maxInt) ∧
    (I64 (i4 + 1)) ∧
    At_law1_LexStrings_1 s (s2 ++ ([92] ++ ((s.drop i4.toNat).take ((i4 + 1).toNat - i4.toNat)))) b3 (i4 + 1) r) ∧
   (¬ ((b5.toNat : Int) = 92) →
    (((b5.toNat : Int) = 36) →
     (1 + (((s.drop i4.toNat).take ((i4 + 1).toNat - i4.toNat)).length) ≤ maxInt) ∧
     (s2.length + (((s.drop i4.toNat).take ((i4 + 1).toNat - i4.toNat)).length + 1) ≤ maxInt) ∧
     (I64 (i4 + 1)) ∧
     At_law1_LexStrings_1 s (s2 ++ ([92] ++ ((s.drop i4.toNat).take ((i4 + 1).toNat - i4.toNat)))) b3 (i4 + 1) r) ∧
    (¬ ((b5.toNat : Int) = 36) →
     (((b5.toNat : Int) = 10) →
      (s2.length + 2 ≤ maxInt) ∧
      (I64 (i4 + 1)) ∧
      At_law1_LexStrings_1 s (s2 ++ [92, 110]) b3 (i4 + 1) r) ∧
     (¬ ((b5.toNat : Int) = 10) →
      ((b3 = true) →
       (s2.length + (((s.drop i4.toNat).take ((i4 + 1).toNat - i4.toNat)).length) ≤ maxInt) ∧
       (I64 (i4 + 1)) ∧
       At_law1_LexStrings_1 s (s2 ++ ((s.drop i4.toNat).take ((i4 + 1).toNat - i4.toNat))) true (i4 + 1) r) ∧
      (¬ (b3 = true) →
       (s2.length + (((s.drop i4.toNat).take ((i4 + 1).toNat - i4.toNat)).length) ≤ maxInt) ∧
       (I64 (i4 + 1)) ∧
       At_law1_LexStrings_1 s (s2 ++ ((s.drop i4.toNat).take ((i4 + 1).toNat - i4.toNat))) (decide ((b5.toNat : Int) < 32)) (i4 + 1) r)))))) ∧
 (¬ (i4 < (s.length : Int)) →
  (1 + s2.length ≤ maxInt) ∧
  (s2.length + 1 + 1 ≤ maxInt) ∧
  ∃ (r6 : List Token) (r7 : Int), (R_lex_Lex (([34] ++ s2) ++ [34]) r6 r7) ∧
  ((b3 = true) →
   ∃ (r8 : Int), (R_law1_Num r7 r8) ∧
   ((r8 = 5) →
    ∃ (r9 : Bool), (R_law1_awake r9) ∧
    r9 = r) ∧
   (¬ (r8 = 5) →
    false = r)) ∧
  (¬ (b3 = true) →
   ∃ (r10 : Int), (R_law1_Num r7 r10) ∧
   ((r10 = 0) →
    (((r6.length : Int) = 2) →
     ∃ (v11 : Token), (r6[0]? = some v11) ∧
     ((v11.Kind = 2) →
      ((s = []) →
       (((v11.Parts.length : Int) = 0) →
        ∃ (r12 : Bool), (R_law1_awake r12) ∧
        r12 = r) ∧
       (¬ ((v11.Parts.length : Int) = 0) →
        false = r)) ∧
      (¬ (s = []) →
       (((v11.Parts.length : Int) = 1) →
        ∃ (v13 : Part), (v11.Parts[0]? = some v13) ∧
        (((v13.Ref = false) ∧ (v13.Text = s)) →
         ∃ (r14 : Bool), (R_law1_awake r14) ∧
         r14 = r) ∧
        (¬ ((v13.Ref = false) ∧ (v13.Text = s)) →
         false = r)) ∧
       (¬ ((v11.Parts.length : Int) = 1) →
        false = r))) ∧
     (¬ (v11.Kind = 2) →
      false = r)) ∧
    (¬ ((r6.length : Int) = 2) →
     false = r)) ∧
   (¬ (r10 = 0) →
    false = r)))) : At_law1_LexStrings_1 s s2 b3 i4 r := by
 intro S e f h
 unfold k_law1_LexStrings_1
 rw [E_loop]
 have F := U_law1_LexStrings
 replace F := aa h <| F
 by_cases c1 : i4 < (s.length : Int)
 · replace T := T.1 c1
   obtain ⟨p2, p3, p4, p5, p6, p7, b5, q8, T⟩ := T
   replace F := aa (eq_true c1) <| aa p2.wrap <| aa p3 <| aa p4 <| aa p5 <| aa p6 <| aa p7 <| aa q8 <| F
   by_cases c9 : (b5.toNat : Int) = 34
   · replace T := T.1 c9
     obtain ⟨p10, p11, p12, T⟩ := T
     replace F := aa (eq_true c9) <| aa p10 <| aa p11 <| aa p12.wrap <| F
     try simp only [F, lw, lx, le, Nat.reduceMul, UInt8.reduceToNat, reduceIte, reduceCtorEq, Nat.reduceEqDiff, Nat.reduceAdd, Nat.reduceLeDiff, Nat.reduceSub, Nat.reduceLT, Int.reduceEq, Int.reduceLT, Int.reduceLE, Int.reduceToNat, Int.reduceAdd, Int.reduceSub, Int.reduceMul, Int.reduceNeg]
     refine T S _ _ ?_
     exact fi F
   · replace T := T.2 c9
     replace F := aa (eq_false c9) <| F
     by_cases c13 : (b5.toNat : Int) = 92
     · replace T := T.1 c13
       obtain ⟨p14, p15, p16, T⟩ := T
       replace F := aa (eq_true c13) <| aa p14 <| aa p15 <| aa p16.wrap <| F
       try simp only [F, lw, lx, le, Nat.reduceMul, UInt8.reduceToNat, reduceIte, reduceCtorEq, Nat.reduceEqDiff, Nat.reduceAdd, Nat.reduceLeDiff, Nat.reduceSub, Nat.reduceLT, Int.reduceEq, Int.reduceLT, Int.reduceLE, Int.reduceToNat, Int.reduceAdd, Int.reduceSub, Int.reduceMul, Int.reduceNeg]
       refine T S _ _ ?_
       exact fi F
     · replace T := T.2 c13
       replace F := aa (eq_false c13) <| F
       by_cases c17 : (b5.toNat : Int) = 36
       · replace T := T.1 c17
         obtain ⟨p18, p19, p20, T⟩ := T
         replace F := aa (eq_true c17) <| aa p18 <| aa p19 <| aa p20.wrap <| F
         try simp only [F, lw, lx, le, Nat.reduceMul, UInt8.reduceToNat, reduceIte, reduceCtorEq, Nat.reduceEqDiff, Nat.reduceAdd, Nat.reduceLeDiff, Nat.reduceSub, Nat.reduceLT, Int.reduceEq, Int.reduceLT, Int.reduceLE, Int.reduceToNat, Int.reduceAdd, Int.reduceSub, Int.reduceMul, Int.reduceNeg]
         refine T S _ _ ?_
         exact fi F
       · replace T := T.2 c17
         replace F := aa (eq_false c17) <| F
         by_cases c21 : (b5.toNat : Int) = 10
         · replace T := T.1 c21
           obtain ⟨p22, p23, T⟩ := T
           replace F := aa (eq_true c21) <| aa p22 <| aa p23.wrap <| F
           try simp only [F, lw, lx, le, Nat.reduceMul, UInt8.reduceToNat, reduceIte, reduceCtorEq, Nat.reduceEqDiff, Nat.reduceAdd, Nat.reduceLeDiff, Nat.reduceSub, Nat.reduceLT, Int.reduceEq, Int.reduceLT, Int.reduceLE, Int.reduceToNat, Int.reduceAdd, Int.reduceSub, Int.reduceMul, Int.reduceNeg]
           refine T S _ _ ?_
           exact fi F
         · replace T := T.2 c21
           replace F := aa (eq_false c21) <| F
           by_cases c24 : b3 = true
           · replace T := T.1 c24
             obtain ⟨p25, p26, T⟩ := T
             replace F := aa c24 <| aa p25 <| aa p26.wrap <| F
             try simp only [F, lw, lx, le, Nat.reduceMul, UInt8.reduceToNat, reduceIte, reduceCtorEq, Nat.reduceEqDiff, Nat.reduceAdd, Nat.reduceLeDiff, Nat.reduceSub, Nat.reduceLT, Int.reduceEq, Int.reduceLT, Int.reduceLE, Int.reduceToNat, Int.reduceAdd, Int.reduceSub, Int.reduceMul, Int.reduceNeg]
             refine T S _ _ ?_
             exact fi F
           · replace T := T.2 c24
             replace c24 := Bool.eq_false_iff.2 c24
             obtain ⟨p27, p28, T⟩ := T
             replace F := aa c24 <| aa p27 <| aa p28.wrap <| F
             try simp only [F, lw, lx, le, Nat.reduceMul, UInt8.reduceToNat, reduceIte, reduceCtorEq, Nat.reduceEqDiff, Nat.reduceAdd, Nat.reduceLeDiff, Nat.reduceSub, Nat.reduceLT, Int.reduceEq, Int.reduceLT, Int.reduceLE, Int.reduceToNat, Int.reduceAdd, Int.reduceSub, Int.reduceMul, Int.reduceNeg]
             refine T S _ _ ?_
             exact fi F
 · replace T := T.2 c1
   obtain ⟨p29, p30, r6, r7, q31, T⟩ := T
   simp only [R_lex_Lex, le, List.cons_append, List.nil_append] at q31
   replace F := aa (eq_false c1) <| aa p29 <| aa p30 <| aa q31 <| F
   by_cases c32 : b3 = true
   · replace T := T.1 c32
     obtain ⟨r8, q33, T⟩ := T
     simp only [R_law1_Num, le, List.cons_append, List.nil_append] at q33
     replace F := aa c32 <| aa q33 <| F
     by_cases c34 : r8 = 5
     · replace T := T.1 c34
       obtain ⟨r9, q35, rfl⟩ := T
       simp only [R_law1_awake, le, List.cons_append, List.nil_append] at q35
       exact fi (aa (eq_true c34) <| aa q35 <| F)
     · replace T := T.2 c34
       obtain rfl := T
       exact fi (aa (eq_false c34) <| F)
   · replace T := T.2 c32
     replace c32 := Bool.eq_false_iff.2 c32
     obtain ⟨r10, q36, T⟩ := T
     simp only [R_law1_Num, le, List.cons_append, List.nil_append] at q36
     replace F := aa c32 <| aa q36 <| F
     by_cases c37 : r10 = 0
     · replace T := T.1 c37
       replace F := aa (eq_true c37) <| F
       by_cases c38 : (r6.length : Int) = 2
       · replace T := T.1 c38
         obtain ⟨v11, q39, T⟩ := T
         replace F := aa (eq_true c38) <| aa q39 <| F
         by_cases c40 : v11.Kind = 2
         · replace T := T.1 c40
           replace F := aa (eq_true c40) <| F
           by_cases c41 : s = []
           · replace T := T.1 c41
             replace F := aa (eq_true c41) <| F
             by_cases c42 : (v11.Parts.length : Int) = 0
             · replace T := T.1 c42
               obtain ⟨r12, q43, rfl⟩ := T
               simp only [R_law1_awake, le, List.cons_append, List.nil_append] at q43
               exact fi (aa (eq_true c42) <| aa q43 <| F)
             · replace T := T.2 c42
               obtain rfl := T
               exact fi (aa (eq_false c42) <| F)
           · replace T := T.2 c41
             replace F := aa (eq_false c41) <| F
             by_cases c44 : (v11.Parts.length : Int) = 1
             · replace T := T.1 c44
               obtain ⟨v13, q45, T⟩ := T
               replace F := aa (eq_true c44) <| aa q45 <| F
               by_cases c46 : (v13.Ref = false) ∧ (v13.Text = s)
               · replace T := T.1 c46
                 obtain ⟨r14, q47, rfl⟩ := T
                 simp only [R_law1_awake, le, List.cons_append, List.nil_append] at q47
                 exact fi (aa (eq_true c46.1) <| aa (eq_true c46.2) <| aa q47 <| F)
               · replace T := T.2 c46
                 have c46' : (decide (v13.Ref = false) && (decide (v13.Text = s))) = false := by simp only [← Bool.not_eq_true, Bool.and_eq_true, decide_eq_true_eq]; first | exact c46 | simpa using c46
                 obtain rfl := T
                 exact fi (aa c46' <| F)
             · replace T := T.2 c44
               obtain rfl := T
               exact fi (aa (eq_false c44) <| F)
         · replace T := T.2 c40
           obtain rfl := T
           exact fi (aa (eq_false c40) <| F)
       · replace T := T.2 c38
         obtain rfl := T
         exact fi (aa (eq_false c38) <| F)
     · replace T := T.2 c37
       obtain rfl := T
       exact fi (aa (eq_false c37) <| F)
set_option maxHeartbeats 4000000 in
theorem law1_LexStrings_tree (s : List UInt8) (r : Bool) (T :
  ((300 < (s.length : Int)) →
  ∃ (r1 : Bool), (R_law1_awake r1) ∧
  r1 = r) ∧
 (¬ (300 < (s.length : Int)) →
  At_law1_LexStrings_1 s [] false 0 r)) : R_law1_LexStrings s r := by
 intro S
 rw [call_code sp_law1_LexStrings _ _ rfl]
 have F := U_law1_LexStrings
 by_cases c1 : 300 < (s.length : Int)
 · replace T := T.1 c1
   obtain ⟨r1, q2, rfl⟩ := T
   simp only [R_law1_awake, le, List.cons_append, List.nil_append] at q2
   exact fi (aa (eq_true c1) <| aa q2 <| F)
 · replace T := T.2 c1
   replace F := aa (eq_false c1) <| F
   try simp only [F, lw, lx, le, Nat.reduceMul, UInt8.reduceToNat, reduceIte, reduceCtorEq, Nat.reduceEqDiff, Nat.reduceAdd, Nat.reduceLeDiff, Nat.reduceSub, Nat.reduceLT, Int.reduceEq, Int.reduceLT, Int.reduceLE, Int.reduceToNat, Int.reduceAdd, Int.reduceSub, Int.reduceMul, Int.reduceNeg]
   refine T S _ _ ?_
   exact fi F
theorem sp_law1_LexParts : SP 6 = some (.code sc_law1_LexParts) := SPof_code rfl Tryd.func6 comp_law1_LexParts
/-! doorkeeper/doorkeeperlaw1.LexParts -/
set_option maxHeartbeats 4000000 in
theorem law1_LexParts_tree (a : UInt8) (b : UInt8) (cut : UInt8) (r : Bool) (T :
  (0 ≤ ((a.toNat : Int).tmod 3)) ∧
 ∃ (v1 : List UInt8), (([[], [112], [113, 32, 114]] : List (List UInt8))[((a.toNat : Int).tmod 3).toNat]? = some v1) ∧
 (0 ≤ ((b.toNat : Int).tmod 3)) ∧
 ∃ (v2 : List UInt8), (([[], [115], [116, 36]] : List (List UInt8))[((b.toNat : Int).tmod 3).toNat]? = some v2) ∧
 (U8 ((a.toNat : Int).tdiv 3)) ∧
 (0 ≤ (((a.toNat : Int).tdiv 3).tmod 4)) ∧
 ∃ (v3 : List UInt8), (([[118, 97, 114, 46, 120], [108, 111, 99, 97, 108, 46, 108, 111, 110, 103, 95, 110, 97, 109, 101, 49], [99, 111, 117, 110, 116, 46, 105, 110, 100, 101, 120], [95, 46, 97]] : List (List UInt8))[(((a.toNat : Int).tdiv 3).tmod 4).toNat]? = some v3) ∧
 (1 + v1.length ≤ maxInt) ∧
 (v1.length + 1 + 2 ≤ maxInt) ∧
 (v1.length + 2 + 1 + v3.length ≤ maxInt) ∧
 (v1.length + 2 + v3.length + 1 + 1 ≤ maxInt) ∧
 (v1.length + 2 + v3.length + 1 + 1 + v2.length ≤ maxInt) ∧
 (v1.length + 2 + v3.length + 1 + v2.length + 1 + 1 ≤ maxInt) ∧
 ∃ (r4 : List Token) (r5 : Int), (R_lex_Lex (((((([34] ++ v1) ++ [36, 123]) ++ v3) ++ [125]) ++ v2) ++ [34]) r4 r5) ∧
 ∃ (r6 : Int), (R_law1_Num r5 r6) ∧
 ((r6 = 0) →
  (((r4.length : Int) = 2) →
   ((v1 = []) →
    ((v2 = []) →
     (I64 ((v1.length : Int) + 3)) ∧
     (I64 ((cut.toNat : Int))) ∧
     ¬ ((v3.length : Int) = 0) ∧
     (I64 (((v1.length : Int) + 3) + ((cut.toNat : Int).tmod (v3.length : Int)))) ∧
     (0 ≤ (((v1.length : Int) + 3) + ((cut.toNat : Int).tmod (v3.length : Int)))) ∧ ((((v1.length : Int) + 3) + ((cut.toNat : Int).tmod (v3.length : Int))).toNat ≤ v1.length + 2 + v3.length + 1 + v2.length + 1 + 1) ∧
     (((((((([34] ++ v1) ++ [36, 123]) ++ v3) ++ [125]) ++ v2) ++ [34]).take ((((v1.length : Int) + 3) + ((cut.toNat : Int).tmod (v3.length : Int))).toNat)).length + 1 ≤ maxInt) ∧
     (0 ≤ (((v1.length : Int) + 3) + ((cut.toNat : Int).tmod (v3.length : Int)))) ∧ ((((v1.length : Int) + 3) + ((cut.toNat : Int).tmod (v3.length : Int))).toNat ≤ v1.length + 2 + v3.length + 1 + v2.length + 1 + 1) ∧
     (((((((([34] ++ v1) ++ [36, 123]) ++ v3) ++ [125]) ++ v2) ++ [34]).take ((((v1.length : Int) + 3) + ((cut.toNat : Int).tmod (v3.length : Int))).toNat)).length + 1 + ((((((((([34] ++ v1) ++ [36, 123]) ++ v3) ++ [125]) ++ v2) ++ [34]).drop ((((v1.length : Int) + 3) + ((cut.toNat : Int).tmod (v3.length : Int))).toNat)).take (v1.length + 2 + v3.length + 1 + v2.length + 1 + 1 - ((((v1.length : Int) + 3) + ((cut.toNat : Int).tmod (v3.length : Int))).toNat))).length) ≤ maxInt) ∧
     ∃ (r7 : List Token) (r8 : Int), (R_lex_Lex ((((((((([34] ++ v1) ++ [36, 123]) ++ v3) ++ [125]) ++ v2) ++ [34]).take ((((v1.length : Int) + 3) + ((cut.toNat : Int).tmod (v3.length : Int))).toNat)) ++ [32]) ++ (((((((([34] ++ v1) ++ [36, 123]) ++ v3) ++ [125]) ++ v2) ++ [34]).drop ((((v1.length : Int) + 3) + ((cut.toNat : Int).tmod (v3.length : Int))).toNat)).take (v1.length + 2 + v3.length + 1 + v2.length + 1 + 1 - ((((v1.length : Int) + 3) + ((cut.toNat : Int).tmod (v3.length : Int))).toNat)))) r7 r8) ∧
     (1 + v1.length ≤ maxInt) ∧
     (v1.length + 1 + 2 ≤ maxInt) ∧
     (v1.length + 2 + 1 + v3.length ≤ maxInt) ∧
     (v1.length + 2 + v3.length + 1 + v2.length ≤ maxInt) ∧
     (v1.length + 2 + v3.length + v2.length + 1 + 1 ≤ maxInt) ∧
     ∃ (r9 : List Token) (r10 : Int), (R_lex_Lex ((((([34] ++ v1) ++ [36, 123]) ++ v3) ++ v2) ++ [34]) r9 r10) ∧
     ∃ (v11 : Token), (r4[0]? = some v11) ∧
     ∃ (r12 : Bool), (R_ref1_SameParts v11.Parts [(Part.mk true v3)] r12) ∧
     ((r12 = true) →
      ∃ (r13 : Int), (R_law1_Num r8 r13) ∧
      ((r13 = 5) →
       ∃ (r14 : Int), (R_law1_Num r10 r14) ∧
       ((r14 = 5) →
        ∃ (r15 : Bool), (R_law1_awake r15) ∧
        r15 = r) ∧
       (¬ (r14 = 5) →
        false = r)) ∧
      (¬ (r13 = 5) →
       false = r)) ∧
     (¬ (r12 = true) →
      false = r)) ∧
    (¬ (v2 = []) →
     (I64 ((v1.length : Int) + 3)) ∧
     (I64 ((cut.toNat : Int))) ∧
     ¬ ((v3.length : Int) = 0) ∧
     (I64 (((v1.length : Int) + 3) + ((cut.toNat : Int).tmod (v3.length : Int)))) ∧
     (0 ≤ (((v1.length : Int) + 3) + ((cut.toNat : Int).tmod (v3.length : Int)))) ∧ ((((v1.length : Int) + 3) + ((cut.toNat : Int).tmod (v3.length : Int))).toNat ≤ v1.length + 2 + v3.length + 1 + v2.length + 1 + 1) ∧
     (((((((([34] ++ v1) ++ [36, 123]) ++ v3) ++ [125]) ++ v2) ++ [34]).take ((((v1.length : Int) + 3) + ((cut.toNat : Int).tmod (v3.length : Int))).toNat)).length + 1 ≤ maxInt) ∧
     (0 ≤ (((v1.length : Int) + 3) + ((cut.toNat : Int).tmod (v3.length : Int)))) ∧ ((((v1.length : Int) + 3) + ((cut.toNat : Int).tmod (v3.length : Int))).toNat ≤ v1.length + 2 + v3.length + 1 + v2.length + 1 + 1) ∧
     (((((((([34] ++ v1) ++ [36, 123]) ++ v3) ++ [125]) ++ v2) ++ [34]).take ((((v1.length : Int) + 3) + ((cut.toNat : Int).tmod (v3.length : Int))).toNat)).length + 1 + ((((((((([34] ++ v1) ++ [36, 123]) ++ v3) ++ [125]) ++ v2) ++ [34]).drop ((((v1.length : Int) + 3) + ((cut.toNat : Int).tmod (v3.length : Int))).toNat)).take (v1.length + 2 + v3.length + 1 + v2.length + 1 + 1 - ((((v1.length : Int) + 3) + ((cut.toNat : Int).tmod (v3.length : Int))).toNat))).length) ≤ maxInt) ∧
     ∃ (r16 : List Token) (r17 : Int), (R_lex_Lex ((((((((([34] ++ v1) ++ [36, 123]) ++ v3) ++ [125]) ++ v2) ++ [34]).take ((((v1.length : Int) + 3) + ((cut.toNat : Int).tmod (v3.length : Int))).toNat)) ++ [32]) ++ (((((((([34] ++ v1) ++ [36, 123]) ++ v3) ++ [125]) ++ v2) ++ [34]).drop ((((v1.length : Int) + 3) + ((cut.toNat : Int).tmod (v3.length : Int))).toNat)).take (v1.length + 2 + v3.length + 1 + v2.length + 1 + 1 - ((((v1.length : Int) + 3) + ((cut.toNat : Int).tmod (v3.length : Int))).toNat)))) r16 r17) ∧
     (1 + v1.length ≤ maxInt) ∧
     (v1.length + 1 + 2 ≤ maxInt) ∧
     (v1.length + 2 + 1 + v3.length ≤ maxInt) ∧
     (v1.length + 2 + v3.length + 1 + v2.length ≤ maxInt) ∧
     (v1.length + 2 + v3.length + v2.length + 1 + 1 ≤ maxInt) ∧
     ∃ (r18 : List Token) (r19 : Int), (R_lex_Lex ((((([34] ++ v1) ++ [36, 123]) ++ v3) ++ v2) ++ [34]) r18 r19) ∧
     ∃ (v20 : Token), (r4[0]? = some v20) ∧
     ∃ (r21 : Bool), (R_ref1_SameParts v20.Parts [(Part.mk true v3), (Part.mk false v2)] r21) ∧
     ((r21 = true) →
      ∃ (r22 : Int), (R_law1_Num r17 r22) ∧
      ((r22 = 5) →
       ∃ (r23 : Int), (R_law1_Num r19 r23) ∧
       ((r23 = 5) →
        ∃ (r24 : Bool), (R_law1_awake r24) ∧
        r24 = r) ∧
       (¬ (r23 = 5) →
        false = r)) ∧
      (¬ (r22 = 5) →
       false = r)) ∧
     (¬ (r21 = true) →
      false = r))) ∧
   (¬ (v1 = []) →
    ((v2 = []) →
     (I64 ((v1.length : Int) + 3)) ∧
     (I64 ((cut.toNat : Int))) ∧
     ¬ ((v3.length : Int) = 0) ∧
     (I64 (((v1.length : Int) + 3) + ((cut.toNat : Int).tmod (v3.length : Int)))) ∧
     (0 ≤ (((v1.length : Int) + 3) + ((cut.toNat : Int).tmod (v3.length : Int)))) ∧ ((((v1.length : Int) + 3) + ((cut.toNat : Int).tmod (v3.length : Int))).toNat ≤ v1.length + 2 + v3.length + 1 + v2.length + 1 + 1) ∧
     (((((((([34] ++ v1) ++ [36, 123]) ++ v3) ++ [125]) ++ v2) ++ [34]).take ((((v1.length : Int) + 3) + ((cut.toNat : Int).tmod (v3.length : Int))).toNat)).length + 1 ≤ maxInt) ∧
     (0 ≤ (((v1.length : Int) + 3) + ((cut.toNat : Int).tmod (v3.length : Int)))) ∧ ((((v1.length : Int) + 3) + ((cut.toNat : Int).tmod (v3.length : Int))).toNat ≤ v1.length + 2 + v3.length + 1 + v2.length + 1 + 1) ∧
     (((((((([34] ++ v1) ++ [36, 123]) ++ v3) ++ [125]) ++ v2) ++ [34]).take ((((v1.length : Int) + 3) + ((cut.toNat : Int).tmod (v3.length : Int))).toNat)).length + 1 + ((((((((([34] ++ v1) ++ [36, 123]) ++ v3) ++ [125]) ++ v2) ++ [34]).drop ((((v1.length : Int) + 3) + ((cut.toNat : Int).tmod (v3.length : Int))).toNat)).take (v1.length + 2 + v3.length + 1 + v2.length + 1 + 1 - ((((v1.length : Int) + 3) + ((cut.toNat : Int).tmod (v3.length : Int))).toNat))).length) ≤ maxInt) ∧
     ∃ (r25 : List Token) (r26 : Int), (R_lex_Lex ((((((((([34] ++ v1) ++ [36, 123]) ++ v3) ++ [125]) ++ v2) ++ [34]).take ((((v1.length : Int) + 3) + ((cut.toNat : Int).tmod (v3.length : Int))).toNat)) ++ [32]) ++ (((((((([34] ++ v1) ++ [36, 123]) ++ v3) ++ [125]) ++ v2) ++ [34]).drop ((((v1.length : Int) + 3) + ((cut.toNat : Int).tmod (v3.length : Int))).toNat)).take (v1.length + 2 + v3.length + 1 + v2.length + 1 + 1 - ((((v1.length : Int) + 3) + ((cut.toNat : Int).tmod (v3.length : Int))).toNat)))) r25 r26) ∧
     (1 + v1.length ≤ maxInt) ∧
     (v1.length + 1 + 2 ≤ maxInt) ∧
     (v1.length + 2 + 1 + v3.length ≤ maxInt) ∧
     (v1.length + 2 + v3.length + 1 + v2.length ≤ maxInt) ∧
     (v1.length + 2 + v3.length + v2.length + 1 + 1 ≤ maxInt) ∧
     ∃ (r27 : List Token) (r28 : Int), (R_lex_Lex ((((([34] ++ v1) ++ [36, 123]) ++ v3) ++ v2) ++ [34]) r27 r28) ∧
     ∃ (v29 : Token), (r4[0]? = some v29) ∧
     ∃ (r30 : Bool), (R_ref1_SameParts v29.Parts [(Part.mk false v1), (Part.mk true v3)] r30) ∧
     ((r30 = true) →
      ∃ (r31 : Int), (R_law1_Num r26 r31) ∧
      ((r31 = 5) →
       ∃ (r32 : Int), (R_law1_Num r28 r32) ∧
       ((r32 = 5) →
        ∃ (r33 : Bool), (R_law1_awake r33) ∧
        r33 = r) ∧
       (¬ (r32 = 5) →
        false = r)) ∧
      (¬ (r31 = 5) →
       false = r)) ∧
     (¬ (r30 = true) →
      false = r)) ∧
    (¬ (v2 = []) →
     (I64 ((v1.length : Int) + 3)) ∧
     (I64 ((cut.toNat : Int))) ∧
     ¬ ((v3.length : Int) = 0) ∧
     (I64 (((v1.length : Int) + 3) + ((cut.toNat : Int).tmod (v3.length : Int)))) ∧
     (0 ≤ (((v1.length : Int) + 3) + ((cut.toNat : Int).tmod (v3.length : Int)))) ∧ ((((v1.length : Int) + 3) + ((cut.toNat : Int).tmod (v3.length : Int))).toNat ≤ v1.length + 2 + v3.length + 1 + v2.length + 1 + 1) ∧
     (((((((([34] ++ v1) ++ [36, 123]) ++ v3) ++ [125]) ++ v2) ++ [34]).take ((((v1.length : Int) + 3) + ((cut.toNat : Int).tmod (v3.length : Int))).toNat)).length + 1 ≤ maxInt) ∧
     (0 ≤ (((v1.length : Int) + 3) + ((cut.toNat : Int).tmod (v3.length : Int)))) ∧ ((((v1.length : Int) + 3) + ((cut.toNat : Int).tmod (v3.length : Int))).toNat ≤ v1.length + 2 + v3.length + 1 + v2.length + 1 + 1) ∧
     (((((((([34] ++ v1) ++ [36, 123]) ++ v3) ++ [125]) ++ v2) ++ [34]).take ((((v1.length : Int) + 3) + ((cut.toNat : Int).tmod (v3.length : Int))).toNat)).length + 1 + ((((((((([34] ++ v1) ++ [36, 123]) ++ v3) ++ [125]) ++ v2) ++ [34]).drop ((((v1.length : Int) + 3) + ((cut.toNat : Int).tmod (v3.length : Int))).toNat)).take (v1.length + 2 + v3.length + 1 + v2.length + 1 + 1 - ((((v1.length : Int) + 3) + ((cut.toNat : Int).tmod (v3.length : Int))).toNat))).length) ≤ maxInt) ∧
     ∃ (r34 : List Token) (r35 : Int), (R_lex_Lex ((((((((([34] ++ v1) ++ [36, 123]) ++ v3) ++ [125]) ++ v2) ++ [34]).take ((((v1.length : Int) + 3) + ((cut.toNat : Int).tmod (v3.length : Int))).toNat)) ++ [32]) ++ (((((((([34] ++ v1) ++ [36, 123]) ++ v3) ++ [125]) ++ v2) ++ [34]).drop ((((v1.length : Int) + 3) + ((cut.toNat : Int).tmod (v3.length : Int))).toNat)).take (v1.length + 2 + v3.length + 1 + v2.length + 1 + 1 - ((((v1.length : Int) + 3) + ((cut.toNat : Int).tmod (v3.length : Int))).toNat)))) r34 r35) ∧
     (1 + v1.length ≤ maxInt) ∧
     (v1.length + 1 + 2 ≤ maxInt) ∧
     (v1.length + 2 + 1 + v3.length ≤ maxInt) ∧
     (v1.length + 2 + v3.length + 1 + v2.length ≤ maxInt) ∧
     (v1.length + 2 + v3.length + v2.length + 1 + 1 ≤ maxInt) ∧
     ∃ (r36 : List Token) (r37 : Int), (R_lex_Lex ((((([34] ++ v1) ++ [36, 123]) ++ v3) ++ v2) ++ [34]) r36 r37) ∧
     ∃ (v38 : Token), (r4[0]? = some v38) ∧
     ∃ (r39 : Bool), (R_ref1_SameParts v38.Parts [(Part.mk false v1), (Part.mk true v3), (Part.mk false v2)] r39) ∧
     ((r39 = true) →
      ∃ (r40 : Int), (R_law1_Num r35 r40) ∧
      ((r40 = 5) →
       ∃ (r41 : Int), (R_law1_Num r37 r41) ∧
       ((r41 = 5) →
        ∃ (r42 : Bool), (R_law1_awake r42) ∧
        r42 = r) ∧
       (¬ (r41 = 5) →
        false = r)) ∧
      (¬ (r40 = 5) →
       false = r)) ∧
     (¬ (r39 = true) →
      false = r)))) ∧
  (¬ ((r4.length : Int) = 2) →
   false = r)) ∧
 (¬ (r6 = 0) →
  false = r)) : R_law1_LexParts a b cut r := by
 intro S
 rw [call_code sp_law1_LexParts _ _ rfl]
 have F := U_law1_LexParts
 obtain ⟨p1, v1, q2, p3, v2, q4, p5, p6, v3, q7, p8, p9, p10, p11, p12, p13, r4, r5, q14, r6, q15, T⟩ := T
 replace q2 := congrArg (Option.map eS) q2
 rw [← List.getElem?_map] at q2
 simp only [le, List.map_append, Option.map_some] at q2
 replace q4 := congrArg (Option.map eS) q4
 rw [← List.getElem?_map] at q4
 simp only [le, List.map_append, Option.map_some] at q4
 replace q7 := congrArg (Option.map eS) q7
 rw [← List.getElem?_map] at q7
 simp only [le, List.map_append, Option.map_some] at q7
 simp only [R_lex_Lex, le, List.cons_append, List.nil_append] at q14
 simp only [R_law1_Num, le, List.cons_append, List.nil_append] at q15
 replace F := aa p1 <| aa q2 <| aa p3 <| aa q4 <| aa p5.wrap <| aa p6 <| aa q7 <| aa p8 <| aa p9 <| aa p10 <| aa p11 <| aa p12 <| aa p13 <| aa q14 <| aa q15 <| F
 by_cases c16 : r6 = 0
 · replace T := T.1 c16
   replace F := aa (eq_true c16) <| F
   by_cases c17 : (r4.length : Int) = 2
   · replace T := T.1 c17
     replace F := aa (eq_true c17) <| F
     by_cases c18 : v1 = []
     · replace T := T.1 c18
       replace F := aa (eq_true c18) <| F
       by_cases c19 : v2 = []
       · replace T := T.1 c19
         obtain ⟨p20, p21, p22, p23, p24, p25, p26, p27, p28, p29, r7, r8, q30, p31, p32, p33, p34, p35, r9, r10, q36, v11, q37, r12, q38, T⟩ := T
         try simp only [List.cons_append, List.nil_append] at p26
         try simp only [List.cons_append, List.nil_append] at p29
         simp only [R_lex_Lex, le, List.cons_append, List.nil_append] at q30
         simp only [R_lex_Lex, le, List.cons_append, List.nil_append] at q36
         simp only [R_ref1_SameParts, le, List.cons_append, List.nil_append] at q38
         replace F := aa (eq_true c19) <| aa p20.wrap <| aa p21.wrap <| aa (eq_false p22) <| aa p23.wrap <| aa p24 <| aa p25 <| aa p26 <| aa p27 <| aa p28 <| aa p29 <| aa q30 <| aa p31 <| aa p32 <| aa p33 <| aa p34 <| aa p35 <| aa q36 <| aa q37 <| aa q38 <| F
         by_cases c39 : r12 = true
         · replace T := T.1 c39
           obtain ⟨r13, q40, T⟩ := T
           simp only [R_law1_Num, le, List.cons_append, List.nil_append] at q40
           replace F := aa c39 <| aa q40 <| F
           by_cases c41 : r13 = 5
           · replace T := T.1 c41
             obtain ⟨r14, q42, T⟩ := T
             simp only [R_law1_Num, le, List.cons_append, List.nil_append] at q42
             replace F := aa (eq_true c41) <| aa q42 <| F
             by_cases c43 : r14 = 5
             · replace T := T.1 c43
               obtain ⟨r15, q44, rfl⟩ := T
               simp only [R_law1_awake, le, List.cons_append, List.nil_append] at q44
               exact fi (aa (eq_true c43) <| aa q44 <| F)
             · replace T := T.2 c43
               obtain rfl := T
               exact fi (aa (eq_false c43) <| F)
           · replace T := T.2 c41
             obtain rfl := T
             exact fi (aa (eq_false c41) <| F)
         · replace T := T.2 c39
           replace c39 := Bool.eq_false_iff.2 c39
           obtain rfl := T
           exact fi (aa c39 <| F)
       · replace T := T.2 c19
         obtain ⟨p45, p46, p47, p48, p49, p50, p51, p52, p53, p54, r16, r17, q55, p56, p57, p58, p59, p60, r18, r19, q61, v20, q62, r21, q63, T⟩ := T
         try simp only [List.cons_append, List.nil_append] at p51
         try simp only [List.cons_append, List.nil_append] at p54
         simp only [R_lex_Lex, le, List.cons_append, List.nil_append] at q55
         simp only [R_lex_Lex, le, List.cons_append, List.nil_append] at q61
         simp only [R_ref1_SameParts, le, List.cons_append, List.nil_append] at q63
         replace F := aa (eq_false c19) <| aa p45.wrap <| aa p46.wrap <| aa (eq_false p47) <| aa p48.wrap <| aa p49 <| aa p50 <| aa p51 <| aa p52 <| aa p53 <| aa p54 <| aa q55 <| aa p56 <| aa p57 <| aa p58 <| aa p59 <| aa p60 <| aa q61 <| aa q62 <| aa q63 <| F
         by_cases c64 : r21 = true
         · replace T := T.1 c64
           obtain ⟨r22, q65, T⟩ := T
           simp only [R_law1_Num, le, List.cons_append, List.nil_append] at q65
           replace F := aa c64 <| aa q65 <| F
           by_cases c66 : r22 = 5
           · replace T := T.1 c66
             obtain ⟨r23, q67, T⟩ := T
             simp only [R_law1_Num, le, List.cons_append, List.nil_append] at q67
             replace F := aa (eq_true c66) <| aa q67 <| F
             by_cases c68 : r23 = 5
             · replace T := T.1 c68
               obtain ⟨r24, q69, rfl⟩ := T
               simp only [R_law1_awake, le, List.cons_append, List.nil_append] at q69
               exact fi (aa (eq_true c68) <| aa q69 <| F)
             · replace T := T.2 c68
               obtain rfl := T
               exact fi (aa (eq_false c68) <| F)
           · replace T := T.2 c66
             obtain rfl := T
             exact fi (aa (eq_false c66) <| F)
         · replace T := T.2 c64
           replace c64 := Bool.eq_false_iff.2 c64
           obtain rfl := T
           exact fi (aa c64 <| F)
     · replace T := T.2 c18
       replace F := aa (eq_false c18) <| F
       by_cases c70 : v2 = []
       · replace T := T.1 c70
         obtain ⟨p71, p72, p73, p74, p75, p76, p77, p78, p79, p80, r25, r26, q81, p82, p83, p84, p85, p86, r27, r28, q87, v29, q88, r30, q89, T⟩ := T
         try simp only [List.cons_append, List.nil_append] at p77
         try simp only [List.cons_append, List.nil_append] at p80
         simp only [R_lex_Lex, le, List.cons_append, List.nil_append] at q81
         simp only [R_lex_Lex, le, List.cons_append, List.nil_append] at q87
         simp only [R_ref1_SameParts, le, List.cons_append, List.nil_append] at q89
         replace F := aa (eq_true c70) <| aa p71.wrap <| aa p72.wrap <| aa (eq_false p73) <| aa p74.wrap <| aa p75 <| aa p76 <| aa p77 <| aa p78 <| aa p79 <| aa p80 <| aa q81 <| aa p82 <| aa p83 <| aa p84 <| aa p85 <| aa p86 <| aa q87 <| aa q88 <| aa q89 <| F
         by_cases c90 : r30 = true
         · replace T := T.1 c90
           obtain ⟨r31, q91, T⟩ := T
           simp only [R_law1_Num, le, List.cons_append, List.nil_append] at q91
           replace F := aa c90 <| aa q91 <| F
           by_cases c92 : r31 = 5
           · replace T := T.1 c92
             obtain ⟨r32, q93, T⟩ := T
             simp only [R_law1_Num, le, List.cons_append, List.nil_append] at q93
             replace F := aa (eq_true c92) <| aa q93 <| F
             by_cases c94 : r32 = 5
             · replace T := T.1 c94
               obtain ⟨r33, q95, rfl⟩ := T
               simp only [R_law1_awake, le, List.cons_append, List.nil_append] at q95
               exact fi (aa (eq_true c94) <| aa q95 <| F)
             · replace T := T.2 c94
               obtain rfl := T
               exact fi (aa (eq_false c94) <| F)
           · replace T := T.2 c92
             obtain rfl := T
             exact fi (aa (eq_false c92) <| F)
         · replace T := T.2 c90
           replace c90 := Bool.eq_false_iff.2 c90
           obtain rfl := T
           exact fi (aa c90 <| F)
       · replace T := T.2 c70
         obtain ⟨p96, p97, p98, p99, p100, p101, p102, p103, p104, p105, r34, r35, q106, p107, p108, p109, p110, p111, r36, r37, q112, v38, q113, r39, q114, T⟩ := T
         try simp only [List.cons_append, List.nil_append] at p102
         try simp only [List.cons_append, List.nil_append] at p105
         simp only [R_lex_Lex, le, List.cons_append, List.nil_append] at q106
         simp only [R_lex_Lex, le, List.cons_append, List.nil_append] at q112
         simp only [R_ref1_SameParts, le, List.cons_append, List.nil_append] at q114
         replace F := aa (eq_false c70) <| aa p96.wrap <| aa p97.wrap <| aa (eq_false p98) <| aa p99.wrap <| aa p100 <| aa p101 <| aa p102 <| aa p103 <| aa p104 <| aa p105 <| aa q106 <| aa p107 <| aa p108 <| aa p109 <| aa p110 <| aa p111 <| aa q112 <| aa q113 <| aa q114 <| F
         by_cases c115 : r39 = true
         · replace T := T.1 c115
           obtain ⟨r40, q116, T⟩ := T
           simp only [R_law1_Num, le, List.cons_append, List.nil_append] at q116
           replace F := aa c115 <| aa q116 <| F
           by_cases c117 : r40 = 5
           · replace T := T.1 c117
             obtain ⟨r41, q118, T⟩ := T
             simp only [R_law1_Num, le, List.cons_append, List.nil_append] at q118
             replace F := aa (eq_true c117) <| aa q118 <| F
             by_cases c119 : r41 = 5
             · replace T := T.1 c119
               obtain ⟨r42, q120, rfl⟩ := T
               simp only [R_law1_awake, le, List.cons_append, List.nil_append] at q120
               exact fi (aa (eq_true c119) <| aa q120 <| F)
             · replace T := T.2 c119
               obtain rfl := T
               exact fi (aa (eq_false c119) <| F)
           · replace T := T.2 c117
             obtain rfl := T
             exact fi (aa (eq_false c117) <| F)
         · replace T := T.2 c115
           replace c115 := Bool.eq_false_iff.2 c115
           obtain rfl := T
           exact fi (aa c115 <| F)
   · replace T := T.2 c17
     obtain rfl := T
     exact fi (aa (eq_false c17) <| F)
 · replace T := T.2 c16
   obtain rfl := T
   exact fi (aa (eq_false c16) <| F)
theorem sp_law1_LexNumbers : SP 7 = some (.code sc_law1_LexNumbers) := SPof_code rfl Tryd.func7 comp_law1_LexNumbers
/-! doorkeeper/doorkeeperlaw1.LexNumbers -/
set_option maxHeartbeats 4000000 in
theorem law1_LexNumbers_tree (n : Int) (r : Bool) (T :
  (I64 ((n / 2))) ∧
 ∃ (r1 : List UInt8), (R_ref1_Digits (n / 2) r1) ∧
 ∃ (r2 : List Token) (r3 : Int), (R_lex_Lex r1 r2 r3) ∧
 (1 + r1.length ≤ maxInt) ∧
 ∃ (r4 : List Token) (r5 : Int), (R_lex_Lex ([48] ++ r1) r4 r5) ∧
 ∃ (r6 : List Token) (r7 : Int), (R_lex_Lex [57, 50, 50, 51, 51, 55, 50, 48, 51, 54, 56, 53, 52, 55, 55, 53, 56, 48, 56] r6 r7) ∧
 ∃ (r8 : Int), (R_law1_Num r3 r8) ∧
 ((r8 = 0) →
  (((r2.length : Int) = 2) →
   ∃ (v9 : Token), (r2[0]? = some v9) ∧
   ((v9.Num = (n / 2)) →
    ∃ (r10 : Int), (R_law1_Num r5 r10) ∧
    ((r10 = 5) →
     ∃ (r11 : Int), (R_law1_Num r7 r11) ∧
     ((r11 = 5) →
      ∃ (r12 : Bool), (R_law1_awake r12) ∧
      r12 = r) ∧
     (¬ (r11 = 5) →
      false = r)) ∧
    (¬ (r10 = 5) →
     false = r)) ∧
   (¬ (v9.Num = (n / 2)) →
    false = r)) ∧
  (¬ ((r2.length : Int) = 2) →
   false = r)) ∧
 (¬ (r8 = 0) →
  false = r)) : R_law1_LexNumbers n r := by
 intro S
 rw [call_code sp_law1_LexNumbers _ _ rfl]
 have F := U_law1_LexNumbers
 obtain ⟨p1, r1, q2, r2, r3, q3, p4, r4, r5, q5, r6, r7, q6, r8, q7, T⟩ := T
 simp only [R_ref1_Digits, le, List.cons_append, List.nil_append] at q2
 simp only [R_lex_Lex, le, List.cons_append, List.nil_append] at q3
 simp only [R_lex_Lex, le, List.cons_append, List.nil_append] at q5
 simp only [R_lex_Lex, le, List.cons_append, List.nil_append] at q6
 simp only [R_law1_Num, le, List.cons_append, List.nil_append] at q7
 replace F := aa p1.wrap <| aa q2 <| aa q3 <| aa p4 <| aa q5 <| aa q6 <| aa q7 <| F
 by_cases c8 : r8 = 0
 · replace T := T.1 c8
   replace F := aa (eq_true c8) <| F
   by_cases c9 : (r2.length : Int) = 2
   · replace T := T.1 c9
     obtain ⟨v9, q10, T⟩ := T
     replace F := aa (eq_true c9) <| aa q10 <| F
     by_cases c11 : v9.Num = (n / 2)
     · replace T := T.1 c11
       obtain ⟨r10, q12, T⟩ := T
       simp only [R_law1_Num, le, List.cons_append, List.nil_append] at q12
       replace F := aa (eq_true c11) <| aa q12 <| F
       by_cases c13 : r10 = 5
       · replace T := T.1 c13
         obtain ⟨r11, q14, T⟩ := T
         simp only [R_law1_Num, le, List.cons_append, List.nil_append] at q14
         replace F := aa (eq_true c13) <| aa q14 <| F
         by_cases c15 : r11 = 5
         · replace T := T.1 c15
           obtain ⟨r12, q16, rfl⟩ := T
           simp only [R_law1_awake, le, List.cons_append, List.nil_append] at q16
           exact fi (aa (eq_true c15) <| aa q16 <| F)
         · replace T := T.2 c15
           obtain rfl := T
           exact fi (aa (eq_false c15) <| F)
       · replace T := T.2 c13
         obtain rfl := T
         exact fi (aa (eq_false c13) <| F)
     · replace T := T.2 c11
       obtain rfl := T
       exact fi (aa (eq_false c11) <| F)
   · replace T := T.2 c9
     obtain rfl := T
     exact fi (aa (eq_false c9) <| F)
 · replace T := T.2 c8
   obtain rfl := T
   exact fi (aa (eq_false c8) <| F)
end Go.Proofs.YtljgfdhlfjbafaaDoor.M

/- Lex: the laws LexTexts, LexNumbers, LexLabels. -/
namespace Go.Proofs.YtljgfdhlfjbafaaDoor.M
set_option linter.unusedSimpArgs false
set_option linter.unusedVariables false
open Go Classical
theorem r_Num (e : Int) : R_law1_Num e e := law1_Num_tree e e rfl
theorem r_SameParts_refl (a : List Part) (h : a.length ≤ 1000000) : R_ref1_SameParts a a true := by
  have loop : ∀ (m i : Nat), i + m = a.length → At_ref1_SameParts_1 a a i true := by
    intro m
    induction m with
    | zero =>
      intro i hi
      apply At_ref1_SameParts_1_step
      exact ⟨fun h => by omega, fun _ => rfl⟩
    | succ m ih =>
      intro i hi
      have hg : a[((i : Nat) : Int).toNat]? = some a[i] := by rw [Int.toNat_natCast]; exact List.getElem?_eq_getElem (by omega)
      apply At_ref1_SameParts_1_step
      exact ⟨fun _ => ⟨by omega, _, hg, by omega, _, hg, fun _ => ⟨⟨by omega, by omega⟩, ih (i + 1) (by omega)⟩, fun h => absurd ⟨rfl, rfl⟩ h⟩, fun h => by omega⟩
  apply ref1_SameParts_tree
  exact ⟨fun _ => loop a.length 0 (by omega), fun h => absurd rfl h⟩
theorem r_SameTokens_refl (a : List Token) (h : a.length ≤ 1000000) (hp : ∀ x ∈ a, x.Parts.length ≤ 1000000) : R_ref1_SameTokens a a true := by
  have loop : ∀ (m i : Nat), i + m = a.length → At_ref1_SameTokens_1 a a i true := by
    intro m
    induction m with
    | zero =>
      intro i hi
      apply At_ref1_SameTokens_1_step
      exact ⟨fun h => by omega, fun _ => rfl⟩
    | succ m ih =>
      intro i hi
      have hg : a[((i : Nat) : Int).toNat]? = some a[i] := by rw [Int.toNat_natCast]; exact List.getElem?_eq_getElem (by omega)
      have hs := r_SameParts_refl a[i].Parts (hp _ (List.getElem_mem _))
      apply At_ref1_SameTokens_1_step
      exact ⟨fun _ => ⟨by omega, _, hg, by omega, _, hg, fun _ => ⟨fun _ => ⟨fun _ => ⟨fun _ => ⟨_, hs, fun _ => ⟨⟨by omega, by omega⟩, ih (i + 1) (by omega)⟩, fun h => absurd rfl h⟩, fun h => absurd rfl h⟩, fun h => absurd rfl h⟩, fun h => absurd rfl h⟩, fun h => absurd rfl h⟩, fun h => by omega⟩
  apply ref1_SameTokens_tree
  exact ⟨fun _ => loop a.length 0 (by omega), fun h => absurd rfl h⟩
theorem Qx_parts {t : List UInt8} {l : List Part} {b : List UInt8} {r : Option (List Part × Nat)} (h : Qx t l b r) : ∀ q, r = some q → q.1.length ≤ l.length + 1 + 2 * t.length := by
  induction h with
  | nil | low | esc0 | escbad | refbad => intro q hq; cases hq
  | shut t l b => intro q hq; obtain rfl := Option.some.inj hq; have := joinP_len l b; simp only; omega
  | esc x y t l b r hx _ ih =>
    intro q hq
    obtain ⟨q0, h0, rfl⟩ := Option.map_eq_some_iff.1 hq
    have := ih q0 h0
    simp only [List.length_cons]
    omega
  | ref t l b r hr _ ih =>
    intro q hq
    obtain ⟨q0, h0, rfl⟩ := Option.map_eq_some_iff.1 hq
    have := ih q0 h0
    have h1 := refS_len hr
    have := joinP_len l b
    simp only [List.length_cons, List.length_drop, List.length_append, List.length_nil] at *
    omega
  | plain c t l b r c1 c2 c3 c4 _ ih =>
    intro q hq
    obtain ⟨q0, h0, rfl⟩ := Option.map_eq_some_iff.1 hq
    have := ih q0 h0
    simp only [List.length_cons]
    omega
theorem Tok_parts {t : List UInt8} {r : Option (Token × Nat)} (h : Tok t r) : ∀ q, r = some q → q.1.Parts.length ≤ 2 * t.length := by
  cases h with
  | name c u h =>
    intro q hq
    split at hq
    · obtain rfl := Option.some.inj hq; simp
    · cases hq
  | num c u h =>
    intro q hq
    unfold numS at hq
    split at hq
    · obtain rfl := Option.some.inj hq; simp
    · cases hq
  | text u r h =>
    intro q hq
    obtain ⟨q0, h0, rfl⟩ := Option.map_eq_some_iff.1 hq
    have := Qx_parts h q0 h0
    simp only [List.length_cons, List.length_nil] at this ⊢
    omega
  | sign c u h2 h3 h4 =>
    intro q hq
    split at hq
    · cases hq
    · obtain rfl := Option.some.inj hq; simp
theorem Lx_fits {t : List UInt8} {p : Int} {r : Option (List Token)} (h : Lx t p r) : (lexL r).length ≤ t.length + 1 ∧ ∀ x ∈ lexL r, x.Parts.length ≤ 2 * t.length := by
  induction h with
  | nil p => simp [lexL]
  | gap c t p r hc _ ih =>
    refine ⟨by simp only [List.length_cons]; omega, fun x hx => ?_⟩
    have := ih.2 x hx
    simp only [List.length_cons]
    omega
  | remark t p r _ ih =>
    have hdl : (t.dropWhile (· != 10)).length = t.length - (t.takeWhile (· != 10)).length := by rw [← drop_while_len, List.length_drop]
    refine ⟨by simp only [List.length_cons]; omega, fun x hx => ?_⟩
    have := ih.2 x hx
    simp only [List.length_cons]
    omega
  | bad c t p c1 c2 hk => simp [lexL]
  | tok c t p x n r c1 c2 hk _ ih =>
    have hn := Tok_len hk _ rfl
    have hp := Tok_parts hk _ rfl
    simp only [List.length_drop] at ih
    simp only at hn hp
    cases r with
    | none => simp [lexL]
    | some l =>
      simp only [lexL, Option.map_some, List.length_cons] at ih hn hp ⊢
      refine ⟨by omega, fun y hy => ?_⟩
      rcases List.mem_cons.1 hy with rfl | hy
      · exact hp
      · have := ih.2 y hy
        omega
theorem r_awake : R_law1_awake true := by
  have h := r_Lex (s := [97, 32, 61, 32, 49]) (by decide) (lexS_ok _)
  have e : lexS [97, 32, 61, 32, 49] = some [Token.mk 3 [97] 0 [] 0, Token.mk 4 [61] 0 [] 2, Token.mk 1 [] 1 [] 4, Token.mk 0 [] 0 [] 5] := by rfl
  rw [e] at h
  apply law1_awake_tree
  exact ⟨_, _, h, _, r_Num _, fun _ => ⟨fun _ => ⟨_, rfl, fun _ => ⟨_, rfl, rfl⟩, fun h => absurd rfl h⟩, fun h => absurd rfl h⟩, fun h => absurd rfl h⟩
theorem r_LexTexts (s : List UInt8) : R_law1_LexTexts s true := by
  have good : s.length ≤ 6000 → ∃ (r2 : List Token) (r3 : Int), R_lex_Lex s r2 r3 ∧ ∃ r4 : Tokens, R_ref1_Lex s r4 ∧ R_ref1_SameTokens r2 r4.L true ∧ r3 = r4.E := by
    intro hs
    have h := lexS_ok s
    obtain ⟨f1, f2⟩ := Lx_fits h
    exact ⟨_, _, r_Lex hs h, _, r_refLex hs h, r_SameTokens_refl _ (by omega) (fun x hx => by have := f2 x hx; omega), rfl⟩
  apply law1_LexTexts_tree
  refine ⟨fun h1 => ⟨fun h2 => ⟨_, r_awake, rfl⟩, fun h2 => ?_⟩, fun h1 => ?_⟩
  · exact ⟨_, _, r_Lex_large (by omega), _, r_refLex_large (by omega), _, r_SameTokens_refl [] (by decide) (fun x hx => by cases hx), fun _ => ⟨_, r_Num _, fun _ => ⟨_, r_awake, rfl⟩, fun h => absurd rfl h⟩, fun h => absurd rfl h⟩
  · obtain ⟨r2, r3, g1, r4, g2, g3, g4⟩ := good (by omega)
    exact ⟨_, _, g1, _, g2, _, g3, fun _ => ⟨_, r_Num _, fun _ => ⟨_, r_awake, rfl⟩, fun h => absurd g4 h⟩, fun h => absurd rfl h⟩
/-! ### Numbers -/
theorem dec_Dg : ∀ (n k : Nat), k ≤ n → Dg (Lib.decDigits k)
  | 0, k, h => by
    rw [Lib.decDigits_one (by omega)]
    intro c hc
    obtain rfl := List.mem_singleton.1 hc
    rw [UInt8.toNat_ofNat']
    omega
  | n + 1, k, h => by
    by_cases h1 : k < 10
    · rw [Lib.decDigits_one h1]
      intro c hc
      obtain rfl := List.mem_singleton.1 hc
      rw [UInt8.toNat_ofNat']
      omega
    · rw [Lib.decDigits, dif_neg h1]
      intro c hc
      rcases List.mem_append.1 hc with hc | hc
      · exact dec_Dg n (k / 10) (by omega) c hc
      · obtain rfl := List.mem_singleton.1 hc
        rw [UInt8.toNat_ofNat']
        omega
theorem digV_app (l : List UInt8) (c : UInt8) : ∀ acc, digV acc (l ++ [c]) = digV acc l * 10 + (c.toNat - 48) := by
  induction l with
  | nil => intro acc; rfl
  | cons a l ih => intro acc; rw [List.cons_append, digV_cons, ih, digV_cons]
theorem digV_dec : ∀ (n k : Nat), k ≤ n → digV 0 (Lib.decDigits k) = k
  | 0, k, h => by
    obtain rfl : k = 0 := by omega
    rw [Lib.decDigits_one (by omega)]
    rfl
  | n + 1, k, h => by
    by_cases h1 : k < 10
    · rw [Lib.decDigits_one h1, digV_cons, digV_nil, UInt8.toNat_ofNat']
      omega
    · rw [Lib.decDigits, dif_neg h1, digV_app, digV_dec n (k / 10) (by omega), UInt8.toNat_ofNat']
      omega
theorem dec_ne (k : Nat) : Lib.decDigits k ≠ [] := by
  rw [Lib.decDigits]
  split <;> simp
theorem all_take {cl : List Int} : ∀ {l : List UInt8}, (∀ c ∈ l, inC cl c = true) → l.takeWhile (inC cl) = l
  | [], _ => rfl
  | c :: l, h => by rw [List.takeWhile_cons, if_pos (h c (by simp)), all_take (fun x hx => h x (by simp [hx]))]
theorem cls3 (c : UInt8) : clsS c = 3 ↔ 48 ≤ c.toNat ∧ c.toNat ≤ 57 := by
  have := inC3 c
  unfold inC at this
  simpa using this
theorem Lx_digits {d : List UInt8} (hd : Dg d) (hne : d ≠ []) : Lx d 0 (if numOk d then some [Token.mk 1 [] (digV 0 d : Nat) [] 0, Token.mk 0 [] 0 [] d.length] else none) := by
  have ht : d.takeWhile (inC [3]) = d := all_take (fun c hc => (inC3 c).2 (hd c hc))
  cases d with
  | nil => exact absurd rfl hne
  | cons c r =>
    have hc := (cls3 c).2 (hd c (by simp))
    have hk := Tok.num c r hc
    unfold numS at hk
    rw [ht] at hk
    split
    · rename_i h
      rw [if_pos h] at hk
      have := Lx.tok c r 0 _ _ (some [Token.mk 0 [] 0 [] ((c :: r).length : Nat)]) (by omega) (by omega) hk (by rw [List.drop_eq_nil_of_le (Nat.le_refl _), Int.zero_add]; exact .nil _)
      exact this
    · rename_i h
      rw [if_neg h] at hk
      exact Lx.bad c r 0 (by omega) (by omega) hk
theorem r_LexNumbers (n : Int) (h0 : 0 ≤ n) (h1 : n < 18446744073709551616) : R_law1_LexNumbers n true := by
  obtain ⟨k, hk⟩ : ∃ k : Nat, n / 2 = k := ⟨(n / 2).toNat, by omega⟩
  have hk2 : k < 9223372036854775808 := by omega
  have hI : I64 ((k : Nat) : Int) := ⟨by omega, by omega⟩
  have hi : Lib.itoa ((k : Nat) : Int) = Lib.decDigits k := by
    unfold Lib.itoa
    rw [if_neg (by omega)]
    rfl
  have hlen := Lib.itoa_length_le ((k : Nat) : Int) hI.1 hI.2
  have hD := r_Digits ((k : Nat) : Int) hI
  rw [hi] at hlen hD
  have hd := dec_Dg k k (Nat.le_refl k)
  have hne := dec_ne k
  have hv := digV_dec k k (Nat.le_refl k)
  have hok : numOk (Lib.decDigits k) := by
    refine ⟨by rw [hv]; exact hk2, (itoa_num hd hne).1 ?_⟩
    rw [hv, hi]
  have L1 := Lx_digits hd hne
  rw [if_pos hok, hv] at L1
  have hd0 : Dg (48 :: Lib.decDigits k) := by
    intro c hc
    rcases List.mem_cons.1 hc with rfl | hc
    · decide
    · exact hd c hc
  have L2 := Lx_digits hd0 (by simp)
  have hbad : ¬ numOk (48 :: Lib.decDigits k) := by
    intro h
    have := h.2 rfl
    simp at this
    exact hne this
  rw [if_neg hbad] at L2
  have L3 := lexS_ok [57, 50, 50, 51, 51, 55, 50, 48, 51, 54, 56, 53, 52, 55, 55, 53, 56, 48, 56]
  have e3 : lexS [57, 50, 50, 51, 51, 55, 50, 48, 51, 54, 56, 53, 52, 55, 55, 53, 56, 48, 56] = none := by rfl
  rw [e3] at L3
  have l1 := r_Lex (by omega) L1
  have l2 := r_Lex (by simp; omega) L2
  have l3 := r_Lex (by decide) L3
  apply law1_LexNumbers_tree
  rw [hk]
  exact ⟨hI, _, hD, _, _, l1, by simp only [maxInt]; omega, _, _, l2, _, _, l3, _, r_Num _, fun _ => ⟨fun _ => ⟨_, rfl, fun _ => ⟨_, r_Num _, fun _ => ⟨_, r_Num _, fun _ => ⟨_, r_awake, rfl⟩, fun h => absurd rfl h⟩, fun h => absurd rfl h⟩, fun h => absurd rfl h⟩, fun h => absurd rfl h⟩, fun h => absurd rfl h⟩
/-! ### Labels -/
theorem rep1 (a b : UInt8) : ∀ (n : Nat) (s : List UInt8), s.length ≤ n → Lib.replaceK [a] [b] (s.count a) s = s.map (fun c => if c = a then b else c)
  | 0, s, h => by
    have : s = [] := List.length_eq_zero_iff.1 (by omega)
    subst this
    rfl
  | n + 1, s, h => by
    by_cases hm : a ∈ s
    · obtain ⟨u, v, rfl, hu⟩ := splitAt_first a s hm
      have h1 : (u ++ a :: v).takeWhile (· != a) = u := takeWhile_stop _ u a v (fun x hx => by simp; intro e; exact hu (e ▸ hx)) (by simp)
      have hi : Lib.index (u ++ a :: v) [a] = (u.length : Nat) := by rw [index1, if_pos hm, h1]
      have hc : (u ++ a :: v).count a = v.count a + 1 := by
        rw [List.count_append, List.count_cons_self, List.count_eq_zero_of_not_mem hu]
        omega
      simp only [List.length_append, List.length_cons] at h
      rw [hc, Lib.replaceK_hit _ _ _ _ _ hi, List.take_left]
      have hd : (u ++ a :: v).drop (u.length + [a].length) = v := drop_mid a u v
      rw [hd, rep1 a b n v (by omega)]
      have hmu : u.map (fun c => if c = a then b else c) = u := by
        conv => rhs; rw [← List.map_id u]
        refine List.map_congr_left fun x hx => ?_
        rw [if_neg (show ¬ x = a from fun e => hu (e ▸ hx))]
        rfl
      simp [hmu]
    · rw [List.count_eq_zero_of_not_mem hm]
      show s = _
      conv => lhs; rw [← List.map_id s]
      refine List.map_congr_left fun x hx => ?_
      rw [if_neg (show ¬ x = a from fun e => hm (e ▸ hx))]
      rfl
def lblS (c : UInt8) : UInt8 := if c = 45 then 95 else c
theorem r_ReplaceAll (s : List UInt8) (hs : s.length ≤ 1000000) : R_strings_ReplaceAll s [45] [95] (s.map lblS) := by
  intro S
  refine call_ext sp_strings_ReplaceAll S ?_
  have hc : Lib.countB ⟨s.toArray⟩ ⟨([45] : List UInt8).toArray⟩ = s.count 45 := Lib.count_one 45 s
  have hle : s.count 45 ≤ s.length := List.count_le_length
  have hr : Lib.replaceAll s [45] [95] = s.map lblS := by
    unfold Lib.replaceAll Lib.replace Lib.replaceNum
    rw [if_neg (by decide), if_pos (.inl (by decide)), Lib.count_one, rep1 45 95 s.length s (Nat.le_refl _)]
    rfl
  simp only [replaceX, hc, hr]
  rw [if_pos]
  simp only [List.length_cons, List.length_nil]
  omega
/-- A label's bytes, behind its first one. -/
def lblC (c : UInt8) : Bool := decide ((97 ≤ c.toNat ∧ c.toNat ≤ 122) ∨ (48 ≤ c.toNat ∧ c.toNat ≤ 57) ∨ c.toNat = 45 ∨ c.toNat = 95)
def labelS : List UInt8 → Bool
  | [] => false
  | c :: u => decide (97 ≤ c.toNat ∧ c.toNat ≤ 122) && u.all lblC && decide (u.length + 1 ≤ 24)
theorem cls2 (c : UInt8) : clsS c = 2 ↔ c.toNat = 95 ∨ (97 ≤ c.toNat ∧ c.toNat ≤ 122) := by
  unfold clsS
  repeat' split
  all_goals (first | omega | (constructor <;> intro h <;> first | omega | exact absurd h (by decide)))
theorem lblC_in (c : UInt8) : inC [2, 3] (lblS c) = lblC c := by
  have h : inC [2, 3] (lblS c) = true ↔ lblC c = true := by
    rw [inC23, cls2, cls3]
    unfold lblS lblC
    rw [decide_eq_true_eq]
    by_cases h : c = 45
    · rw [if_pos h, h]; decide
    · have h' : c.toNat ≠ 45 := fun e => h (UInt8.toNat_inj.1 e)
      rw [if_neg h]
      omega
  cases h1 : inC [2, 3] (lblS c) <;> cases h2 : lblC c <;> simp_all
theorem span_all (cl : List Int) : ∀ l : List UInt8, spanS cl l = l.length ↔ ∀ c ∈ l, inC cl c = true
  | [] => by simp [spanS]
  | c :: l => by
    have ih := span_all cl l
    unfold spanS at ih ⊢
    rw [List.takeWhile_cons]
    by_cases h : inC cl c = true
    · rw [if_pos h]
      simp [h, ih]
    · rw [if_neg h]
      simp [h]
theorem name_map (c : UInt8) (u : List UInt8) : nameS ((c :: u).map lblS) = decide (clsS (lblS c) = 2 ∧ u.length + 1 ≤ 24 ∧ u.all lblC = true) := by
  unfold nameS
  refine decide_eq_decide.2 ?_
  simp only [List.map_cons, ne_eq, reduceCtorEq, not_false_eq_true, true_and, List.length_cons, List.length_map]
  rw [endS]
  by_cases h : clsS (lblS c) = 2
  · rw [if_pos h]
    have e : spanS [2, 3] (lblS c :: u.map lblS) = u.length + 1 ↔ ∀ x ∈ lblS c :: u.map lblS, inC [2, 3] x = true := by
      have := span_all [2, 3] (lblS c :: u.map lblS)
      simpa using this
    rw [e]
    simp only [h, true_and, List.mem_cons, List.mem_map, List.all_eq_true]
    constructor
    · intro ⟨h1, h2⟩
      refine ⟨h1, fun x hx => ?_⟩
      rw [← lblC_in]
      exact h2 _ (.inr ⟨x, hx, rfl⟩)
    · intro ⟨h1, h2⟩
      refine ⟨h1, fun x hx => ?_⟩
      rcases hx with rfl | ⟨y, hy, rfl⟩
      · rw [inC23]; exact .inl h
      · rw [lblC_in]; exact h2 y hy
  · rw [if_neg h]
    simp [h]
theorem r_lexLabel (s : List UInt8) (hs : s.length ≤ 1000000) : R_lex_Label s (labelS s) := by
  apply lex_Label_tree
  refine ⟨_, r_ReplaceAll s hs, _, r_lexName _ (by simpa using hs), ?_⟩
  cases s with
  | nil => exact ⟨fun h => absurd h (by decide), fun _ => rfl⟩
  | cons c u =>
    rw [name_map]
    refine ⟨fun h => ⟨c, rfl, fun h45 => ?_, fun h45 => ?_⟩, fun h => ?_⟩
    · simp only [labelS]
      rw [decide_eq_false (by omega)]
      rfl
    · obtain ⟨h1, h2, h3⟩ := of_decide_eq_true h
      have hc : ¬ c = 45 := fun e => h45 (by rw [e]; rfl)
      unfold lblS at h1
      rw [if_neg hc, cls2] at h1
      simp only [labelS]
      rw [h3, decide_eq_true h2, Bool.and_true, Bool.and_true]
      rw [← decide_not]
      exact decide_eq_decide.2 (by omega)
    · simp only [labelS]
      symm
      rw [← Bool.not_eq_true]
      intro h2
      apply h
      simp only [Bool.and_eq_true, decide_eq_true_eq] at h2
      refine decide_eq_true ⟨?_, h2.2, h2.1.2⟩
      rw [cls2]
      unfold lblS
      rw [if_neg (fun e => by have := h2.1.1; rw [e] at this; revert this; decide)]
      exact .inr h2.1.1
theorem r_refLabel_loop (s : List UInt8) (hs : s.length ≤ 1000000) : ∀ (m i : Nat), i + m = s.length → 0 < i → At_ref1_Label_1 s i ((s.drop i).all lblC && decide (s.length ≤ 24)) := by
  intro m
  induction m with
  | zero =>
    intro i hi hp
    rw [List.drop_eq_nil_of_le (by omega)]
    apply At_ref1_Label_1_step
    refine ⟨fun h => by omega, fun _ => ⟨fun _ => ?_, fun h => by omega⟩⟩
    simp only [List.all_nil, Bool.true_and]
    exact decide_eq_decide.2 (by omega)
  | succ m ih =>
    intro i hi hp
    have hlt : i < s.length := by omega
    have hg : s[((i : Nat) : Int).toNat]? = some s[i] := by rw [Int.toNat_natCast]; exact List.getElem?_eq_getElem hlt
    have hd : s.drop i = s[i] :: s.drop (i + 1) := List.drop_eq_getElem_cons hlt
    have key := ih (i + 1) (by omega) (by omega)
    rw [hd, List.all_cons]
    generalize s[i] = c at hg
    have next : lblC c = true → At_ref1_Label_1 s ((i : Nat) + 1 : Int) ((lblC c && (s.drop (i + 1)).all lblC) && decide (s.length ≤ 24)) := fun h => by
      rw [h, Bool.true_and]; exact key
    have stop : ¬ lblC c = true → false = ((lblC c && (s.drop (i + 1)).all lblC) && decide (s.length ≤ 24)) := fun h => by simp [h]
    have o1 : I64 ((i : Nat) + 1 : Int) := ⟨by omega, by omega⟩
    have D := r_digit c
    have hdc : clsS c = 3 ↔ 48 ≤ c.toNat ∧ c.toNat ≤ 57 := cls3 c
    apply At_ref1_Label_1_step
    refine ⟨fun _ => ⟨by omega, c, hg, fun h1 => ⟨fun h2 => ⟨o1, next (decide_eq_true (by omega))⟩, fun h2 => ⟨fun _ => ⟨_, D, fun h3 => ⟨o1, next (decide_eq_true (by have := of_decide_eq_true h3; omega))⟩, fun h3 => ⟨fun h4 => ⟨o1, next (decide_eq_true (by omega))⟩, fun h4 => ⟨fun h5 => ⟨o1, next (decide_eq_true (by omega))⟩, fun h5 => stop fun h6 => ?_⟩⟩⟩, fun h => absurd (by omega) h⟩⟩, fun h1 => ⟨fun _ => ⟨_, D, fun h3 => ⟨o1, next (decide_eq_true (by have := of_decide_eq_true h3; omega))⟩, fun h3 => ⟨fun h4 => ⟨o1, next (decide_eq_true (by omega))⟩, fun h4 => ⟨fun h5 => ⟨o1, next (decide_eq_true (by omega))⟩, fun h5 => stop fun h6 => ?_⟩⟩⟩, fun h => absurd (by omega) h⟩⟩, fun h => by omega⟩
    · have h6 := of_decide_eq_true h6
      have h3 : ¬ clsS c = 3 := fun e => h3 (decide_eq_true e)
      omega
    · have h6 := of_decide_eq_true h6
      have h3 : ¬ clsS c = 3 := fun e => h3 (decide_eq_true e)
      omega
theorem r_refLabel (s : List UInt8) (hs : s.length ≤ 1000000) : R_ref1_Label s (labelS s) := by
  apply ref1_Label_tree
  cases s with
  | nil =>
    apply At_ref1_Label_1_step
    exact ⟨fun h => absurd h (by decide), fun _ => ⟨fun h => absurd h (by decide), fun _ => rfl⟩⟩
  | cons c u =>
    have key := r_refLabel_loop (c :: u) hs u.length 1 (by simp; omega) (by omega)
    apply At_ref1_Label_1_step
    refine ⟨fun _ => ⟨by omega, c, rfl, fun h1 => ⟨fun h2 => ⟨⟨by omega, by omega⟩, ?_⟩, fun h2 => ⟨fun h => by omega, fun _ => ?_⟩⟩, fun h1 => ⟨fun h => by omega, fun _ => ?_⟩⟩, fun h => by simp only [List.length_cons] at h; omega⟩
    · have e : labelS (c :: u) = (((c :: u).drop 1).all lblC && decide ((c :: u).length ≤ 24)) := by
        simp only [labelS, List.drop_succ_cons, List.drop_zero, List.length_cons]
        rw [decide_eq_true (by omega), Bool.true_and]
      rw [e]
      exact key
    · simp only [labelS]
      rw [decide_eq_false (by omega)]
      rfl
    · simp only [labelS]
      rw [decide_eq_false (by omega)]
      rfl
theorem r_LexLabels (s : List UInt8) : R_law1_LexLabels s true := by
  apply law1_LexLabels_tree
  exact ⟨fun _ => rfl, fun h => ⟨_, r_lexLabel s (by omega), _, r_refLabel s (by omega), fun _ => ⟨_, r_awake, rfl⟩, fun h => absurd rfl h⟩⟩
end Go.Proofs.YtljgfdhlfjbafaaDoor.M

/- Lex: blanks and remarks put in ahead of tokens (LexGaps): the tokens stay. -/
namespace Go.Proofs.YtljgfdhlfjbafaaDoor.M
set_option linter.unusedSimpArgs false
set_option linter.unusedVariables false
open Go Classical
def gaps : List (List UInt8) := [[], [32], [10], [32, 35, 32, 120, 32, 34, 32, 36, 123, 32, 10], [35, 10]]
def gapS (n : List UInt8) (i : Nat) : List UInt8 := match n[i]? with
  | some v => (gaps[v.toNat % 5]?).getD []
  | none => []
theorem gapS_in (n : List UInt8) (i : Nat) : gapS n i ∈ gaps := by
  unfold gapS
  split
  · rename_i v _
    obtain ⟨g, hg⟩ : ∃ g, gaps[v.toNat % 5]? = some g := ⟨_, List.getElem?_eq_getElem (by show v.toNat % 5 < 5; omega)⟩
    rw [hg]
    exact List.mem_of_getElem? hg
  · exact List.mem_cons_self
theorem Lx_blank {c : UInt8} {t : List UInt8} {p : Int} {r : Option (List Token)} (hc : clsS c = 1) {k : Nat} (h : Lx t (p + 1 + (k : Int)) r → Lx t (p + ((k + 1 : Nat) : Int)) r) : True := trivial
theorem gap_Lx {g : List UInt8} (hg : g ∈ gaps) (t : List UInt8) (p : Int) (r : Option (List Token)) (h : Lx t (p + (g.length : Nat)) r) : Lx (g ++ t) p r := by
  have h32 : clsS 32 = 1 := by decide
  have h10 : clsS 10 = 1 := by decide
  simp only [gaps, List.mem_cons, List.not_mem_nil, or_false] at hg
  rcases hg with rfl | rfl | rfl | rfl | rfl
  · simpa using h
  · exact .gap 32 t p r h32 (by simpa using h)
  · exact .gap 10 t p r h10 (by simpa using h)
  · refine .gap 32 _ p r h32 (.remark _ _ _ ?_)
    have e1 : ([32, 120, 32, 34, 32, 36, 123, 32, 10] ++ t : List UInt8).dropWhile (· != 10) = 10 :: t := by simp [List.dropWhile_cons]
    have e2 : ([32, 120, 32, 34, 32, 36, 123, 32, 10] ++ t : List UInt8).takeWhile (· != 10) = [32, 120, 32, 34, 32, 36, 123, 32] := by simp [List.takeWhile_cons]
    show Lx (([32, 120, 32, 34, 32, 36, 123, 32, 10] ++ t : List UInt8).dropWhile (· != 10)) (p + 1 + (((([32, 120, 32, 34, 32, 36, 123, 32, 10] ++ t : List UInt8).takeWhile (· != 10)).length + 1 : Nat) : Int)) r
    rw [e1, e2]
    refine .gap 10 t _ r h10 ?_
    have e3 : p + 1 + ((([32, 120, 32, 34, 32, 36, 123, 32] : List UInt8).length + 1 : Nat) : Int) + 1 = p + (([32, 35, 32, 120, 32, 34, 32, 36, 123, 32, 10] : List UInt8).length : Nat) := by simp only [List.length_cons, List.length_nil]; omega
    rw [e3]
    exact h
  · refine .remark _ _ _ ?_
    have e1 : ([10] ++ t : List UInt8).dropWhile (· != 10) = 10 :: t := by simp [List.dropWhile_cons]
    have e2 : ([10] ++ t : List UInt8).takeWhile (· != 10) = [] := by simp [List.takeWhile_cons]
    show Lx (([10] ++ t : List UInt8).dropWhile (· != 10)) (p + (((([10] ++ t : List UInt8).takeWhile (· != 10)).length + 1 : Nat) : Int)) r
    rw [e1, e2]
    refine .gap 10 t _ r h10 ?_
    have e3 : p + ((([] : List UInt8).length + 1 : Nat) : Int) + 1 = p + (([35, 10] : List UInt8).length : Nat) := by simp only [List.length_cons, List.length_nil]; omega
    rw [e3]
    exact h
theorem gap_dw {g : List UInt8} (hg : g ∈ gaps) (q : Int) : ∃ e, Lx (g.dropWhile (· != 10)) q (some [Token.mk 0 [] 0 [] e]) := by
  have h10 : clsS 10 = 1 := by decide
  have h : g.dropWhile (· != 10) = [] ∨ g.dropWhile (· != 10) = [10] := by
    simp only [gaps, List.mem_cons, List.not_mem_nil, or_false] at hg
    rcases hg with rfl | rfl | rfl | rfl | rfl <;> simp [List.dropWhile_cons]
  rcases h with h | h
  · rw [h]; exact ⟨q, .nil q⟩
  · rw [h]; exact ⟨q + 1, .gap 10 [] q _ h10 (.nil _)⟩
/-- What is left of the text that is made: s from p on, with gaps ahead of the tokens L (the i-th and on). -/
def restT (s n : List UInt8) : Nat → Nat → List Token → List UInt8
  | _, p, [] => s.drop p
  | i, p, x :: L => ((s.drop p).take (x.At.toNat - p) ++ gapS n i) ++ restT s n (i + 1) x.At.toNat L
def monoT (p q : Int) : List Token → Prop
  | [] => True
  | x :: L => p ≤ x.At ∧ x.At ≤ q ∧ monoT x.At q L
theorem monoT.low {p p' q : Int} {L : List Token} (h : monoT p' q L) (hp : p ≤ p') : monoT p q L := by
  cases L with
  | nil => trivial
  | cons x L => exact ⟨by have := h.1; omega, h.2⟩
theorem Lx_mono {t : List UInt8} {p : Int} {r : Option (List Token)} (h : Lx t p r) : monoT p (p + (t.length : Nat)) (lexL r) := by
  induction h with
  | nil p => exact ⟨Int.le_refl _, by simp, trivial⟩
  | gap c t p r hc _ ih =>
    have := ih.low (p := p) (by omega)
    rw [show p + 1 + ((t.length : Nat) : Int) = p + (((c :: t).length : Nat) : Int) by simp only [List.length_cons]; omega] at this
    exact this
  | remark t p r _ ih =>
    have hll := line_len t
    have hdl : (t.dropWhile (· != 10)).length = t.length - (t.takeWhile (· != 10)).length := by rw [← drop_while_len, List.length_drop]
    have := ih.low (p := p) (by omega)
    rw [show p + (((t.takeWhile (· != 10)).length + 1 : Nat) : Int) + (((t.dropWhile (· != 10)).length : Nat) : Int) = p + (((35 :: t).length : Nat) : Int) by simp only [List.length_cons]; omega] at this
    exact this
  | bad c t p c1 c2 hk => trivial
  | tok c t p x n r c1 c2 hk _ ih =>
    have hn := Tok_len hk _ rfl
    simp only at hn
    cases r with
    | none => trivial
    | some l =>
      refine ⟨Int.le_refl _, by show p ≤ _; omega, ?_⟩
      have := ih.low (p := p) (by omega)
      rw [show p + ((n : Nat) : Int) + ((((c :: t).drop n).length : Nat) : Int) = p + (((c :: t).length : Nat) : Int) by rw [List.length_drop]; omega] at this
      exact this
theorem Lx_ne {t : List UInt8} {p : Int} {r : Option (List Token)} (h : Lx t p r) : ∀ L, r = some L → L ≠ [] := by
  induction h with
  | nil p => intro L e; cases e; simp
  | gap c t p r hc _ ih => exact ih
  | remark t p r _ ih => exact ih
  | bad => intro L e; cases e
  | tok c t p x n r c1 c2 hk _ ih =>
    intro L e
    obtain ⟨L0, _, rfl⟩ := Option.map_eq_some_iff.1 e
    simp
/-- What stands ahead of the first token is there as it was. -/
theorem rest_skip (s n : List UInt8) (i P k : Nat) {L : List Token} (hne : L ≠ []) {q : Int} (hm : monoT ((P + k : Nat) : Int) q L) : restT s n i P L = (s.drop P).take k ++ restT s n i (P + k) L := by
  cases L with
  | nil => exact absurd rfl hne
  | cons x L =>
    have h1 := hm.1
    have e : x.At.toNat - P = k + (x.At.toNat - (P + k)) := by omega
    rw [restT, restT, e, List.take_add, List.drop_drop, List.append_assoc, List.append_assoc, List.append_assoc]
theorem takeWhile_app {p : UInt8 → Bool} {w R : List UInt8} (h : ∀ x ∈ w, p x = true) (hR : ∀ c, R.head? = some c → p c = false) : (w ++ R).takeWhile p = w := by
  cases R with
  | nil => rw [List.append_nil]; exact takeWhile_all p w h
  | cons c R => exact takeWhile_stop p w c R h (hR c rfl)
def headOk (R0 R : List UInt8) : Prop := R.head? = R0.head? ∨ R.head? = some 32 ∨ R.head? = some 10 ∨ R.head? = some 35
theorem head_dropWhile (p : UInt8 → Bool) : ∀ (l : List UInt8) (c : UInt8), (l.dropWhile p).head? = some c → p c = false
  | [], c, h => by cases h
  | a :: l, c, h => by
    rw [List.dropWhile_cons] at h
    split at h
    · exact head_dropWhile p l c h
    · rename_i hp
      obtain rfl := Option.some.inj h
      simpa using hp
theorem headOk_stop {cl : List Int} (h32 : inC cl 32 = false) (h10 : inC cl 10 = false) (h35 : inC cl 35 = false) {l R : List UInt8} (h : headOk (l.dropWhile (inC cl)) R) : ∀ c, R.head? = some c → inC cl c = false := by
  intro c hc
  rcases h with h | h | h | h
  · exact head_dropWhile _ l c (h ▸ hc)
  all_goals (rw [h] at hc; obtain rfl := Option.some.inj hc; assumption)
theorem refS_of {x y v : List UInt8} (hx : nameS x = true) (hy : nameS y = true) : refS (x ++ 46 :: (y ++ 125 :: v)) = (x ++ 46 :: y, true) := by
  have h125 : (125 : UInt8) ∉ x ++ 46 :: y := by
    intro h
    rcases List.mem_append.1 h with h | h
    · have := name_in hx _ h; rw [in125] at this; cases this
    · rcases List.mem_cons.1 h with h | h
      · exact absurd h (by decide)
      · have := name_in hy _ h; rw [in125] at this; cases this
  have h46 : (46 : UInt8) ∉ x := by
    intro h
    have := name_in hx _ h; rw [in46] at this; cases this
  have e : x ++ 46 :: (y ++ 125 :: v) = (x ++ 46 :: y) ++ 125 :: v := by simp
  unfold refS dottedS
  rw [e, cut_split 125 _ _ h125]
  simp only
  rw [cut_split 46 _ _ h46]
  simp [hx, hy]
theorem Qx_stable {t : List UInt8} {l : List Part} {b : List UInt8} {r : Option (List Part × Nat)} (h : Qx t l b r) : ∀ q, r = some q → ∀ R, Qx (t.take q.2 ++ R) l b (some q) := by
  induction h with
  | nil | low | esc0 | escbad | refbad => intro q hq; cases hq
  | shut t l b => intro q hq R; obtain rfl := Option.some.inj hq; exact .shut R l b
  | esc x y t l b r hx _ ih =>
    intro q hq R
    obtain ⟨q0, h0, rfl⟩ := Option.map_eq_some_iff.1 hq
    have := Qx.esc x y _ l b _ hx (ih q0 h0 R)
    exact this
  | ref t l b r hr _ ih =>
    intro q hq R
    obtain ⟨q0, h0, rfl⟩ := Option.map_eq_some_iff.1 hq
    obtain ⟨x, y, v, e1, hx, hy, e2⟩ := ref_split hr
    have hv : t.drop ((refS t).1.length + 1) = v := by
      rw [e2, e1, show x ++ 46 :: (y ++ 125 :: v) = (x ++ 46 :: y) ++ 125 :: v by simp]
      exact drop_mid 125 _ v
    have ih := ih q0 h0 R
    rw [hv] at ih
    have hlen : (x ++ 46 :: y).length = (refS t).1.length := by rw [e2]
    have et : t.take (q0.2 + (1 + (refS t).1.length)) = (x ++ 46 :: y) ++ 125 :: v.take q0.2 := by
      rw [← hlen, e1, show x ++ 46 :: (y ++ 125 :: v) = (x ++ 46 :: y) ++ 125 :: v by simp]
      generalize x ++ 46 :: y = z
      rw [List.take_append, List.take_of_length_le (by omega), show q0.2 + (1 + z.length) - z.length = q0.2 + 1 by omega]
      rfl
    show Qx ((36 :: 123 :: t).take (q0.2 + (3 + (refS t).1.length)) ++ R) l b _
    rw [show q0.2 + (3 + (refS t).1.length) = (q0.2 + (1 + (refS t).1.length)) + 1 + 1 by omega, List.take_succ_cons, List.take_succ_cons, et]
    have hS : refS (x ++ 46 :: (y ++ 125 :: (v.take q0.2 ++ R))) = (x ++ 46 :: y, true) := refS_of hx hy
    have key := Qx.ref (x ++ 46 :: (y ++ 125 :: (v.take q0.2 ++ R))) l b (some q0) (by rw [hS]) (by
      rw [hS]
      simp only
      rw [show x ++ 46 :: (y ++ 125 :: (v.take q0.2 ++ R)) = (x ++ 46 :: y) ++ 125 :: (v.take q0.2 ++ R) by simp, drop_mid, ← e2]
      exact ih)
    rw [hS] at key
    simp only [Option.map_some] at key
    rw [hlen] at key
    have e4 : (36 :: 123 :: ((x ++ 46 :: y) ++ 125 :: v.take q0.2)) ++ R = 36 :: 123 :: (x ++ 46 :: (y ++ 125 :: (v.take q0.2 ++ R))) := by simp
    rw [e4]
    rw [show q0.2 + (1 + (refS t).1.length) + 1 + 1 = q0.2 + (3 + (refS t).1.length) by omega]
    exact key
  | plain c t l b r c1 c2 c3 c4 hq0 ih =>
    intro q hq R
    obtain ⟨q0, h0, rfl⟩ := Option.map_eq_some_iff.1 hq
    have hpos := Qx_len hq0 q0 h0
    have hh : (t.take q0.2 ++ R).head? = t.head? := by
      cases t with
      | nil => simp at hpos; omega
      | cons a t =>
        obtain ⟨m, hm⟩ : ∃ m, q0.2 = m + 1 := ⟨q0.2 - 1, by omega⟩
        rw [hm, List.take_succ_cons]
        rfl
    have := Qx.plain c _ l b _ c1 c2 c3 (fun e => by rw [hh]; exact c4 e) (ih q0 h0 R)
    exact this
theorem twos_second {a b : UInt8} (h : [a, b] ∈ twos) : b = 61 ∨ b = 38 ∨ b = 124 := by
  simp only [twos, List.mem_cons, List.cons.injEq, and_true, List.not_mem_nil, or_false] at h
  rcases h with h | h | h | h | h | h <;> simp [h.2]
theorem sign_sep {c r : UInt8} (R : List UInt8) (h : r = 32 ∨ r = 10 ∨ r = 35) : signS (c :: r :: R) = sign1 c := by
  rw [signS, sign2, if_neg]
  intro e
  have := twos_second e
  rcases h with rfl | rfl | rfl <;> simp at this
theorem Tok_stable {z : List UInt8} {x : Token} {n : Nat} (h : Tok z (some (x, n))) (R : List UInt8) (hR : headOk (z.drop n) R) : Tok (z.take n ++ R) (some (x, n)) := by
  obtain ⟨r, hr⟩ : ∃ r, r = some (x, n) := ⟨_, rfl⟩
  rw [← hr] at h
  cases h with
  | name c u h =>
    split at hr
    · rename_i h24
      obtain ⟨rfl, rfl⟩ := Prod.mk.inj (Option.some.inj hr)
      have hd : (c :: u).drop (spanS [2, 3] (c :: u)) = (c :: u).dropWhile (inC [2, 3]) := drop_while_len _ _
      have ht : (c :: u).take (spanS [2, 3] (c :: u)) = (c :: u).takeWhile (inC [2, 3]) := take_while_len _ _
      rw [hd] at hR
      have hst := headOk_stop (by decide) (by decide) (by decide) hR
      have hc : inC [2, 3] c = true := (inC23 c).2 (.inl h)
      have hw : ((c :: u).takeWhile (inC [2, 3]) ++ R).takeWhile (inC [2, 3]) = (c :: u).takeWhile (inC [2, 3]) := takeWhile_app (fun y hy => List.all_eq_true.1 List.all_takeWhile y hy) hst
      rw [ht]
      obtain ⟨w, ew⟩ : ∃ w, (c :: u).takeWhile (inC [2, 3]) = c :: w := ⟨_, by rw [List.takeWhile_cons, if_pos hc]⟩
      have key := Tok.name c (w ++ R) h
      rw [← List.cons_append, ← ew, hw, if_pos h24] at key
      unfold spanS at key ⊢
      rw [hw] at key
      exact key
    · cases hr
  | num c u h =>
    have hd : (c :: u).drop (spanS [3] (c :: u)) = (c :: u).dropWhile (inC [3]) := drop_while_len _ _
    have ht : (c :: u).take (spanS [3] (c :: u)) = (c :: u).takeWhile (inC [3]) := take_while_len _ _
    have hr0 := hr
    unfold numS at hr
    split at hr
    · rename_i hok
      obtain ⟨rfl, rfl⟩ := Prod.mk.inj (Option.some.inj hr)
      unfold spanS at hd ht
      rw [hd] at hR
      have hst := headOk_stop (by decide) (by decide) (by decide) hR
      have hc : inC [3] c = true := by unfold inC; simp [h]
      have hw : ((c :: u).takeWhile (inC [3]) ++ R).takeWhile (inC [3]) = (c :: u).takeWhile (inC [3]) := takeWhile_app (fun y hy => List.all_eq_true.1 List.all_takeWhile y hy) hst
      rw [ht]
      obtain ⟨w, ew⟩ : ∃ w, (c :: u).takeWhile (inC [3]) = c :: w := ⟨_, by rw [List.takeWhile_cons, if_pos hc]⟩
      have key := Tok.num c (w ++ R) h
      unfold numS at key
      rw [← List.cons_append, ← ew, hw, if_pos hok] at key
      exact key
    · cases hr
  | text u q h =>
    obtain ⟨q0, h0, e⟩ := Option.map_eq_some_iff.1 hr
    obtain ⟨rfl, rfl⟩ := Prod.mk.inj e
    have key := Tok.text _ _ (Qx_stable h q0 h0 R)
    exact key
  | sign c u h2 h3 h4 =>
    split at hr
    · cases hr
    · rename_i hne
      obtain ⟨rfl, rfl⟩ := Prod.mk.inj (Option.some.inj hr)
      have goal : ∀ R', (c :: u).take (signS (c :: u)).length ++ R = c :: R' → signS (c :: R') = signS (c :: u) → Tok ((c :: u).take (signS (c :: u)).length ++ R) (some (Token.mk 4 (signS (c :: u)) 0 [] 0, (signS (c :: u)).length)) := by
        intro R' e1 e2
        have key := Tok.sign c R' h2 h3 h4
        rw [e2, if_neg hne] at key
        rw [e1]
        exact key
      have one : sign1 c ≠ [] → sign1 c = [c] := by
        intro h
        unfold sign1 at h ⊢
        split
        · rfl
        · rename_i hn; rw [if_neg hn] at h; exact absurd rfl h
      cases u with
      | nil =>
        have e1 : signS [c] = [c] := one hne
        refine goal R (by rw [e1]; rfl) ?_
        rw [e1] at hR
        cases R with
        | nil => rfl
        | cons r R =>
          have hs : r = 32 ∨ r = 10 ∨ r = 35 := by
            rcases hR with h | h | h | h
            · cases h
            all_goals (have := Option.some.inj h; simp [this])
          rw [sign_sep R hs]
          rfl
      | cons b u =>
        by_cases h2 : [c, b] ∈ twos
        · have e1 : signS (c :: b :: u) = [c, b] := by rw [signS, sign2, if_pos h2]
          refine goal (b :: R) (by rw [e1]; rfl) ?_
          rw [e1, signS, sign2, if_pos h2]
        · have e0 : signS (c :: b :: u) = sign1 c := by rw [signS, sign2, if_neg h2]
          have e1 : signS (c :: b :: u) = [c] := by rw [e0]; exact one (e0 ▸ hne)
          refine goal R (by rw [e1]; rfl) ?_
          rw [e1] at hR
          cases R with
          | nil =>
            rcases hR with h | h | h | h <;> cases h
          | cons r R =>
            rcases hR with h | h | h | h
            · have hb : r = b := Option.some.inj h
              rw [hb, e0, signS, sign2, if_neg h2]
            all_goals (rw [sign_sep R (by have := Option.some.inj h; simp [this]), e0])
/-- What the text that is made begins with. -/
theorem head_rest (s n : List UInt8) {t : List UInt8} {p : Int} {L : List Token} (h : Lx t p (some L)) (i P : Nat) (hp : p = P) (ht : s.drop P = t) : headOk t (restT s n i P L) := by
  have hm := Lx_mono h
  have hne := Lx_ne h L rfl
  have gapcase : ∀ (x : Token) (L0 : List Token) (Y : List UInt8), headOk t (gapS n i ++ Y) ∨ (gapS n i = [] ∧ headOk t Y) → headOk t (gapS n i ++ Y) := by
    intro x L0 Y h
    rcases h with h | ⟨h1, h2⟩
    · exact h
    · rw [h1]; exact h2
  have gaphead : ∀ Y, gapS n i ≠ [] → headOk t (gapS n i ++ Y) := by
    intro Y hg
    have := gapS_in n i
    generalize gapS n i = g at *
    simp only [gaps, List.mem_cons, List.not_mem_nil, or_false] at this
    rcases this with rfl | rfl | rfl | rfl | rfl
    · exact absurd rfl hg
    · exact .inr (.inl rfl)
    · exact .inr (.inr (.inl rfl))
    · exact .inr (.inl rfl)
    · exact .inr (.inr (.inr rfl))
  cases t with
  | nil =>
    cases h
    by_cases hg : gapS n i = []
    · rw [restT, hg, ht]
      left
      simp [restT, hp, ht]
    · have e : restT s n i P [Token.mk 0 [] 0 [] p] = gapS n i ++ restT s n (i + 1) p.toNat [] := by
        simp only [restT]
        rw [hp, ht]
        simp
      rw [e]
      exact gaphead _ hg
  | cons c t =>
    have hlen : (s.drop P).length = t.length + 1 := by rw [ht]; rfl
    have skip : ∀ q, monoT ((P + 1 : Nat) : Int) q L → headOk (c :: t) (restT s n i P L) := by
      intro q hq
      rw [rest_skip s n i P 1 hne hq, ht]
      exact .inl rfl
    generalize hL : some L = r at h
    cases h with
    | gap _ _ _ _ hc h =>
      subst hL
      exact skip _ ((Lx_mono h).low (by omega))
    | remark _ _ _ h =>
      subst hL
      exact skip _ ((Lx_mono h).low (by omega))
    | bad => cases hL
    | tok _ _ _ x k r c1 c2 hk h' =>
      obtain ⟨L0, h0, hL0⟩ := Option.map_eq_some_iff.1 hL.symm
      subst h0
      subst hL0
      have hk2 := Tok_len hk _ rfl
      simp only at hk2
      have e : restT s n i P (atT x p :: L0) = gapS n i ++ restT s n (i + 1) P L0 := by
        rw [restT]
        simp [atT, hp]
      rw [e]
      by_cases hg : gapS n i = []
      · rw [hg, List.nil_append, rest_skip s n (i + 1) P k (Lx_ne h' L0 rfl) (by have := Lx_mono h'; rw [hp] at this; exact this), ht]
        obtain ⟨m, hm⟩ : ∃ m, k = m + 1 := ⟨k - 1, by omega⟩
        rw [hm]
        exact .inl rfl
      · exact gaphead _ hg
theorem Lx_rest (s n : List UInt8) {t : List UInt8} {p : Int} {r : Option (List Token)} (h : Lx t p r) : ∀ L, r = some L → ∀ P : Nat, p = P → s.drop P = t → ∀ (i : Nat) (p' : Int), ∃ L', Lx (restT s n i P L) p' (some L') ∧ L'.map (atT · 0) = L.map (atT · 0) := by
  induction h with
  | nil p =>
    intro L hL P hp ht i p'
    obtain rfl := Option.some.inj hL
    have e : restT s n i P [Token.mk 0 [] 0 [] p] = gapS n i ++ [] := by rw [restT, restT, hp, ht]; simp [ht]
    rw [e]
    exact ⟨_, gap_Lx (gapS_in n i) [] p' _ (.nil _), rfl⟩
  | gap c t p r hc h ih =>
    intro L hL P hp ht i p'
    subst hL
    have hd : s.drop (P + 1) = t := by rw [← List.drop_drop, ht]; rfl
    have hm := Lx_mono h
    rw [hp] at hm
    rw [rest_skip s n i P 1 (Lx_ne h L rfl) hm, ht]
    obtain ⟨L', h1, h2⟩ := ih L rfl (P + 1) (by omega) hd i (p' + 1)
    exact ⟨L', .gap c _ p' _ hc h1, h2⟩
  | remark t p r h ih =>
    intro L hL P hp ht i p'
    subst hL
    have hll := line_len t
    have hd : s.drop (P + ((t.takeWhile (· != 10)).length + 1)) = t.dropWhile (· != 10) := by rw [← List.drop_drop, ht]; exact drop_line t
    have hm := Lx_mono h
    rw [hp] at hm
    have hu : ∀ y ∈ t.takeWhile (· != (10 : UInt8)), (y != 10) = true := fun y hy => List.all_eq_true.1 List.all_takeWhile y hy
    have htk : (35 :: t : List UInt8).take ((t.takeWhile (· != 10)).length + 1) = 35 :: t.takeWhile (· != 10) := by rw [List.take_succ_cons, take_while_len]
    rw [rest_skip s n i P ((t.takeWhile (· != 10)).length + 1) (Lx_ne h L rfl) hm, ht, htk]
    generalize hR : restT s n i (P + ((t.takeWhile (· != 10)).length + 1)) L = R
    generalize t.takeWhile (· != 10) = u at *
    have hdw : (u ++ R).dropWhile (· != 10) = R.dropWhile (· != 10) := by
      rw [List.dropWhile_append_of_pos hu]
    cases hz : t.dropWhile (· != 10) with
    | nil =>
      rw [hz] at h hd
      cases h
      have eR : R = gapS n i ++ [] := by
        rw [← hR, restT, restT, hd, hp]
        have e : ((P : Int) + ((u.length + 1 : Nat) : Int)).toNat = P + (u.length + 1) := by omega
        rw [e, hd]
        simp
      obtain ⟨e, he⟩ := gap_dw (gapS_in n i) (p' + (((u ++ R).takeWhile (· != 10)).length + 1 : Nat))
      refine ⟨[Token.mk 0 [] 0 [] e], .remark (u ++ R) p' _ ?_, rfl⟩
      rw [hdw, eR, List.append_nil]
      rw [eR, List.append_nil] at he
      exact he
    | cons c v =>
      have hc : c = 10 := by
        have := head_dropWhile (· != (10 : UInt8)) t c (by rw [hz]; rfl)
        simpa using this
      subst hc
      have hh := head_rest s n h i _ (by omega) hd
      rw [hR, hz] at hh
      obtain ⟨L', h1, h2⟩ := ih L rfl _ (by omega) hd i (p' + (((u ++ R).takeWhile (· != 10)).length + 1 : Nat))
      rw [hR] at h1
      have hR10 : R.dropWhile (· != 10) = R := by
        rw [hz] at h
        generalize hs0 : some L = r0 at h
        have h10 : clsS 10 = 1 := by decide
        cases h with
        | gap _ _ _ _ _ h =>
          subst hs0
          have hm2 := Lx_mono h
          have e2 := rest_skip s n i (P + (u.length + 1)) 1 (Lx_ne h L rfl) (q := _) (by
            have e : p + ((u.length + 1 : Nat) : Int) + 1 = ((P + (u.length + 1) + 1 : Nat) : Int) := by omega
            rw [e] at hm2
            exact hm2)
          rw [hR, hd, hz] at e2
          rw [e2]
          rfl
        | bad _ _ _ c1 => exact absurd h10 c1
        | tok _ _ _ _ _ _ c1 => exact absurd h10 c1
      refine ⟨L', .remark (u ++ R) p' _ ?_, h2⟩
      rw [hdw, hR10]
      exact h1
  | bad => intro L hL; cases hL
  | tok c t p x k r c1 c2 hk h' ih =>
    intro L hL P hp ht i p'
    obtain ⟨L0, h0, rfl⟩ := Option.map_eq_some_iff.1 hL
    subst h0
    have hk2 := Tok_len hk _ rfl
    simp only at hk2
    have hd : s.drop (P + k) = (c :: t).drop k := by rw [← List.drop_drop, ht]
    have e : restT s n i P (atT x p :: L0) = gapS n i ++ ((c :: t).take k ++ restT s n (i + 1) (P + k) L0) := by
      have e0 : restT s n i P (atT x p :: L0) = gapS n i ++ restT s n (i + 1) P L0 := by
        rw [restT]
        simp [atT, hp]
      rw [e0, rest_skip s n (i + 1) P k (Lx_ne h' L0 rfl) (by have := Lx_mono h'; rw [hp] at this; exact this), ht]
    have hh := head_rest s n h' (i + 1) (P + k) (by omega) hd
    obtain ⟨L', h1, h2⟩ := ih L0 rfl (P + k) (by omega) hd (i + 1) (p' + (gapS n i).length + k)
    have hT := Tok_stable hk _ hh
    rw [e]
    generalize restT s n (i + 1) (P + k) L0 = R at *
    obtain ⟨m, hm⟩ : ∃ m, k = m + 1 := ⟨k - 1, by omega⟩
    have ew : (c :: t).take k = c :: t.take m := by rw [hm]; rfl
    have hlw : ((c :: t).take k).length = k := by rw [List.length_take]; omega
    refine ⟨atT x (p' + (gapS n i).length) :: L', gap_Lx (gapS_in n i) _ p' _ ?_, ?_⟩
    · rw [ew, List.cons_append] at hT ⊢
      have key := Lx.tok c (t.take m ++ R) (p' + (gapS n i).length) x k (some L') c1 c2 hT (by
        have e5 : (c :: (t.take m ++ R)).drop k = R := by
          rw [← List.cons_append, ← ew, List.drop_append, hlw, Nat.sub_self, List.drop_of_length_le (by omega)]
          rfl
        rw [e5]
        exact h1)
      exact key
    · rw [List.map_cons, List.map_cons, h2]
      rfl
end Go.Proofs.YtljgfdhlfjbafaaDoor.M

/- Lex: the law LexGaps. -/
namespace Go.Proofs.YtljgfdhlfjbafaaDoor.M
set_option linter.unusedSimpArgs false
set_option linter.unusedVariables false
open Go Classical
theorem gaps_len : ∀ g ∈ gaps, g.length ≤ 11 := by decide
theorem gapS_len (n : List UInt8) (i : Nat) : (gapS n i).length ≤ 11 * (n.length - i) - 11 * (n.length - (i + 1)) := by
  by_cases h : i < n.length
  · have := gaps_len _ (gapS_in n i)
    omega
  · unfold gapS
    rw [List.getElem?_eq_none (by omega)]
    simp
theorem restT_len (s n : List UInt8) : ∀ (L : List Token) (i p : Nat), monoT (p : Nat) (s.length : Nat) L → p ≤ s.length → (restT s n i p L).length ≤ (s.length - p) + 11 * (n.length - i)
  | [], i, p, _, hp => by rw [restT, List.length_drop]; omega
  | x :: L, i, p, h, hp => by
    obtain ⟨h1, h2, h3⟩ := h
    have ih := restT_len s n L (i + 1) x.At.toNat (by rw [Int.toNat_of_nonneg (by omega)]; exact h3) (by omega)
    have hg := gapS_len n i
    rw [restT, List.length_append, List.length_append, List.length_take, List.length_drop]
    omega
theorem r_LexGaps_one (L M : List Token) (hM : M.map (atT · 0) = L.map (atT · 0)) (hl : L.length ≤ 100000) (hp : ∀ x ∈ L, x.Parts.length ≤ 1000000) : ∀ (m i : Nat), i + m = M.length → At_law1_LexGaps_1 L M i true := by
  have hlen : M.length = L.length := by simpa using congrArg List.length hM
  intro m
  induction m with
  | zero =>
    intro i hi
    apply At_law1_LexGaps_1_step
    exact ⟨fun h => by omega, fun _ => ⟨_, r_awake, rfl⟩⟩
  | succ m ih =>
    intro i hi
    have hg : M[((i : Nat) : Int).toNat]? = some M[i] := by rw [Int.toNat_natCast]; exact List.getElem?_eq_getElem (by omega)
    have hg2 : L[((i : Nat) : Int).toNat]? = some L[i] := by rw [Int.toNat_natCast]; exact List.getElem?_eq_getElem (by omega)
    have he : atT M[i] 0 = atT L[i] 0 := by
      have := congrArg (·[i]?) hM
      simp only [List.getElem?_map] at this
      rw [List.getElem?_eq_getElem (by omega), List.getElem?_eq_getElem (by omega)] at this
      exact Option.some.inj this
    have hpi := hp _ (List.getElem_mem (show i < L.length by omega))
    generalize M[i] = a at *
    generalize L[i] = b at *
    have e2 : Token.mk a.Kind a.Text a.Num a.Parts b.At = b := by
      cases a
      cases b
      unfold atT at he
      simp only [Token.mk.injEq, and_true] at he
      obtain ⟨rfl, rfl, rfl, rfl⟩ := he
      rfl
    have hS := r_SameTokens_refl [b] (by simp) (fun x hx => by obtain rfl := List.mem_singleton.1 hx; exact hpi)
    apply At_law1_LexGaps_1_step
    refine ⟨fun _ => ⟨by omega, a, hg, by omega, b, hg2, true, by rw [e2]; exact hS, fun _ => ⟨⟨by omega, by omega⟩, ih (i + 1) (by omega)⟩, fun h => absurd rfl h⟩, fun h => by omega⟩
theorem r_LexGaps_loop (s n : List UInt8) (hs : s.length ≤ 300) (hn : n.length ≤ 80) (L M : List Token) (hM : M.map (atT · 0) = L.map (atT · 0)) (hl : L.length ≤ 100000) (hp : ∀ x ∈ L, x.Parts.length ≤ 1000000) (T : List UInt8) (hT : R_lex_Lex T M 0) (hTl : T.length ≤ 6000) :
    ∀ (m i last : Nat) (s6 : List UInt8), i + m = L.length → monoT (last : Nat) (s.length : Nat) (L.drop i) → last ≤ s.length → s6 ++ restT s n i last (L.drop i) = T → At_law1_LexGaps_2 s n L s6 last i true := by
  have hlen : M.length = L.length := by simpa using congrArg List.length hM
  intro m
  induction m with
  | zero =>
    intro i last s6 hi hmo hla hE
    rw [List.drop_eq_nil_of_le (by omega), restT] at hE
    have hEl := congrArg List.length hE
    rw [List.length_append] at hEl
    have ht : (s.drop ((last : Nat) : Int).toNat).take (s.length - ((last : Nat) : Int).toNat) = s.drop last := by
      rw [Int.toNat_natCast]
      exact List.take_of_length_le (by rw [List.length_drop]; omega)
    apply At_law1_LexGaps_2_step
    rw [ht, hE]
    refine ⟨fun h => by omega, fun _ => ⟨by omega, by omega, by simp only [maxInt]; omega, _, _, hT, _, r_Num _, fun _ => ⟨fun _ => ?_, fun h => absurd (by omega) h⟩, fun h => absurd rfl h⟩⟩
    exact r_LexGaps_one L M hM hl hp M.length 0 (by omega)
  | succ m ih =>
    intro i last s6 hi hmo hla hE
    have hlt : i < L.length := by omega
    have hg : L[((i : Nat) : Int).toNat]? = some L[i] := by rw [Int.toNat_natCast]; exact List.getElem?_eq_getElem hlt
    have hd : L.drop i = L[i] :: L.drop (i + 1) := List.drop_eq_getElem_cons hlt
    rw [hd] at hmo hE
    rw [restT] at hE
    generalize L[i] = x at *
    obtain ⟨h1, h2, h3⟩ := hmo
    obtain ⟨a, ha⟩ : ∃ a : Nat, x.At = a := ⟨x.At.toNat, by omega⟩
    rw [ha] at h1 h2 h3 hE
    rw [Int.toNat_natCast] at hE
    have et : (s.drop ((last : Nat) : Int).toNat).take (((a : Nat) : Int).toNat - ((last : Nat) : Int).toNat) = (s.drop last).take (a - last) := by rw [Int.toNat_natCast, Int.toNat_natCast]
    have hEl := congrArg List.length hE
    simp only [List.length_append] at hEl
    apply At_law1_LexGaps_2_step
    refine ⟨fun _ => ⟨by omega, x, hg, fun h => ?_, fun h => ⟨fun h => ?_, fun h => ?_⟩⟩, fun h => by omega⟩
    · rw [ha] at h; omega
    · rw [ha] at h; omega
    · rw [ha, et]
      refine ⟨by omega, by omega, by omega, by omega, by simp only [maxInt]; omega, fun hin => ?_, fun hin => ⟨⟨by omega, by omega⟩, ?_⟩⟩
      · obtain ⟨v, hv⟩ : ∃ v, n[i]? = some v := ⟨_, List.getElem?_eq_getElem (by omega)⟩
        have e5 : ((v.toNat : Nat) : Int).tmod 5 = ((v.toNat % 5 : Nat) : Int) := tmodN _ 5
        obtain ⟨g, hgv⟩ : ∃ g, gaps[v.toNat % 5]? = some g := ⟨_, List.getElem?_eq_getElem (by show v.toNat % 5 < 5; omega)⟩
        have eg : gapS n i = g := by
          unfold gapS
          rw [hv]
          simp only
          rw [hgv]
          rfl
        rw [eg] at hE hEl
        refine ⟨by omega, v, by rw [Int.toNat_natCast]; exact hv, by rw [e5]; omega, g, by rw [e5, Int.toNat_natCast]; exact hgv, by simp only [maxInt]; omega, ⟨by omega, by omega⟩, ?_⟩
        exact ih (i + 1) a _ (by omega) h3 (by omega) (by rw [← hE]; simp)
      · have eg : gapS n i = [] := by
          unfold gapS
          rw [List.getElem?_eq_none (by omega)]
        rw [eg] at hE hEl
        exact ih (i + 1) a _ (by omega) h3 (by omega) (by rw [← hE]; simp)
theorem r_LexGaps (s n : List UInt8) : R_law1_LexGaps s n true := by
  apply law1_LexGaps_tree
  refine ⟨fun _ => ⟨_, r_awake, rfl⟩, fun hs => ⟨fun _ => ⟨_, r_awake, rfl⟩, fun hn => ?_⟩⟩
  have h := lexS_ok s
  have hL := r_Lex (by omega) h
  cases hr : lexS s with
  | none =>
    rw [hr] at hL
    exact ⟨_, _, hL, _, r_Num _, fun e => absurd e (by decide), fun _ => ⟨fun _ => ⟨_, r_awake, rfl⟩, fun e => absurd rfl e⟩⟩
  | some L =>
    rw [hr] at hL h
    have hm := Lx_mono h
    obtain ⟨f1, f2⟩ := Lx_fits h
    obtain ⟨M, h1, h2⟩ := Lx_rest s n h L rfl 0 rfl rfl 0 0
    have hlen := restT_len s n L 0 0 (by simpa [lexL] using hm) (Nat.zero_le _)
    have hT := r_Lex (by omega) h1
    refine ⟨_, _, hL, _, r_Num _, fun _ => ?_, fun e => absurd rfl e⟩
    exact r_LexGaps_loop s n (by omega) (by omega) L M h2 (by simp only [lexL] at f1; omega) (fun x hx => by have := f2 x hx; omega) _ hT (by omega) L.length 0 0 [] (by omega) (by simpa [lexL] using hm) (Nat.zero_le _) rfl
end Go.Proofs.YtljgfdhlfjbafaaDoor.M

/-
  DERIVED: THE SHELF's CONTRACTS AT THIS DUMP, IN PLAIN WORDS (tools/lay-plain.mjs out of 'TrydShelf.lean', which tools/lay-shelf.mjs wrote): THE SAME DECLARATIONS UNDER THE SAME NAMES: 'import', 'namespace', 'open', 'def', 'theorem' AND NOTHING ELSE: no command of the shelf's: FOR A HAND-IN. Each laying: the table of numbers ('.._ren') and one theorem, a field a fact of the dump's own or the kernel's comparison; each contract: ONE APPLICATION.
-/
namespace Go.Proofs
open Go.Shelf
def Tryd.lays169_ren : Go.Shelf.Ren := ⟨fun | 169 => 56 | n => n, fun | 70 => 82 | 9 => 9 | 0 => 0 | 72 => 84 | 37 => 33 | 127 => 95 | 3 => 3 | 5 => 5 | n => n, fun | n => n⟩
theorem Tryd.lays169 : Go.Proofs.Lays.n169 Tryd.prog Tryd.lays169_ren := {
  mixed := by kernel_rfl
  f169 := Tryd.func56.trans (congrArg some (by kernel_rfl))
  t0 := Tryd.underlying0
  a0 := Tryd.isAgg0
  z0 := Tryd.sizeOf0
  v0 := Tryd.zeroValue0
  t3 := Tryd.underlying3
  a3 := Tryd.isAgg3
  z3 := Tryd.sizeOf3
  v3 := Tryd.zeroValue3
  t9 := Tryd.underlying9
  a9 := Tryd.isAgg9
  z9 := Tryd.sizeOf9
  v9 := Tryd.zeroValue9
  t37 := Tryd.underlying33
  a37 := Tryd.isAgg33
  z37 := Tryd.sizeOf33
  v37 := Tryd.zeroValue33
  t70 := Tryd.underlying82
  a70 := Tryd.isAgg82
  z70 := Tryd.sizeOf82
  v70 := Tryd.zeroValue82
  t72 := Tryd.underlying84
  a72 := Tryd.isAgg84
  z72 := Tryd.sizeOf84
  v72 := Tryd.zeroValue84
  t127 := Tryd.underlying95
  a127 := Tryd.isAgg95
  z127 := Tryd.sizeOf95
  v127 := Tryd.zeroValue95 }
theorem Tryd.Builder_Extra_169 : Builder.Extra Tryd.prog Tryd.lays169_ren := {
  sizeBuilder := by kernel_rfl
  liesBuilder := by kernel_rfl
  t5 := Tryd.underlying5
  a5 := Tryd.isAgg5
  z5 := Tryd.sizeOf5
  v5 := Tryd.zeroValue5
  infoByte := by kernel_rfl
  cellsByte := by kernel_rfl
  sizeByte := by kernel_rfl
  neB5 := by decide }
open Go.RowKit in
/-- (*strings.Builder).String: "String returns the accumulated string.": OF A BUILDER THAT HOLDS AT LEAST ONE BYTE. ✋ THE MODEL FREEZES THOSE BYTES IN THE BUFFER (unsafe.String): a later write INTO them ends the model's run without an answer; a later append BEHIND them goes on. The statement's order of evaluation is drawn: one draw. (LAID: no walk: one application.) -/
theorem Tryd.Builder_String (B b : Nat) (l : List UInt8) (w : World) (h : Lib.IsBuilder 84 5 B b (Lib.byteCells l) w) (h0 : l ≠ []) :
    Calls Tryd.prog 56 #[.pointer (some ⟨b, 0, none⟩)] w fun e w' => e = .returned (.string ⟨l.toArray⟩) ∧ Below B w w' := Any.Builder_String Tryd.lays169 Tryd.Builder_Extra_169 B b l w h h0
open Go.RowKit in
/-- (*strings.Builder).String OF A BUILDER THAT HOLDS NO BYTE: the empty string. (Its buffer is nil, or a row of which it has taken nothing yet; where that row has NO capacity the model lays one new block for unsafe.SliceData's 'some address'.) One draw. (LAID: no walk: one application.) -/
theorem Tryd.Builder_String_empty (B b : Nat) (w : World) (h : Lib.IsBuilder 84 5 B b [] w) (hBw : B ≤ w.heap.size) :
    Calls Tryd.prog 56 #[.pointer (some ⟨b, 0, none⟩)] w fun e w' => e = .returned (.string ⟨#[]⟩) ∧ Below B w w' := Any.Builder_String_empty Tryd.lays169 Tryd.Builder_Extra_169 B b w h hBw
open Go.RowKit in
/-- (*strings.Builder).String: "String returns the accumulated string.": WHATEVER THE BUILDER HOLDS. (LAID: no walk: one application.) -/
theorem Tryd.Builder_String_any (B b : Nat) (l : List UInt8) (w : World) (h : Lib.IsBuilder 84 5 B b (Lib.byteCells l) w) (hBw : B ≤ w.heap.size) :
    Calls Tryd.prog 56 #[.pointer (some ⟨b, 0, none⟩)] w fun e w' => e = .returned (.string ⟨l.toArray⟩) ∧ Below B w w' := Any.Builder_String_any Tryd.lays169 Tryd.Builder_Extra_169 B b l w h hBw
def Tryd.lays241_ren : Go.Shelf.Ren := ⟨fun | 241 => 68 | 277 => 82 | n => n, fun | 70 => 82 | 3 => 3 | 0 => 0 | 72 => 84 | 37 => 33 | 5 => 5 | n => n, fun | n => n⟩
theorem Tryd.lays241 : Go.Proofs.Lays.n241 Tryd.prog Tryd.lays241_ren := {
  mixed := by kernel_rfl
  f241 := Tryd.func68.trans (congrArg some (by kernel_rfl))
  f277 := Tryd.func82.trans (congrArg some (by kernel_rfl))
  t0 := Tryd.underlying0
  a0 := Tryd.isAgg0
  z0 := Tryd.sizeOf0
  v0 := Tryd.zeroValue0
  t3 := Tryd.underlying3
  a3 := Tryd.isAgg3
  z3 := Tryd.sizeOf3
  v3 := Tryd.zeroValue3
  t37 := Tryd.underlying33
  a37 := Tryd.isAgg33
  z37 := Tryd.sizeOf33
  v37 := Tryd.zeroValue33
  t70 := Tryd.underlying82
  a70 := Tryd.isAgg82
  z70 := Tryd.sizeOf82
  v70 := Tryd.zeroValue82
  t72 := Tryd.underlying84
  a72 := Tryd.isAgg84
  z72 := Tryd.sizeOf84
  v72 := Tryd.zeroValue84 }
theorem Tryd.Builder_Extra_241 : Builder.Extra Tryd.prog Tryd.lays241_ren := {
  sizeBuilder := by kernel_rfl
  liesBuilder := by kernel_rfl
  t5 := Tryd.underlying5
  a5 := Tryd.isAgg5
  z5 := Tryd.sizeOf5
  v5 := Tryd.zeroValue5
  infoByte := by kernel_rfl
  cellsByte := by kernel_rfl
  sizeByte := by kernel_rfl
  neB5 := by decide }
open Go.RowKit in
/-- (*strings.Builder).grow (no doc but "grow copies the buffer to a new, larger buffer so that there are at least n bytes of capacity beyond len(b.buf)."): AT A BUILDER WITHOUT A BUFFER: a new row of whatever bytes for its buffer, none of them its own yet. Three draws. (LAID: no walk: one application.) -/
theorem Tryd.Builder_grow_fresh (B b n : Nat) (w : World) (hB : B ≤ b) (hbk : w.heap[b]? = some (.cells #[.pointer (some ⟨b, 0, none⟩), .slice none 0 0] 84 (0, 0))) (hBw : B ≤ w.heap.size) (hn : n ≤ 281474976710656) :
    Calls Tryd.prog 68 #[.pointer (some ⟨b, 0, none⟩), .int .i64 n] w fun e w' => e = .returned (.tuple #[]) ∧ (Lib.BuilderAt 84 5 B b (.pointer (some ⟨b, 0, none⟩)) [] w' ∧ Below B w w') := Any.Builder_grow_fresh Tryd.lays241 Tryd.Builder_Extra_241 B b n w hB hbk hBw hn
def Tryd.lays165_ren : Go.Shelf.Ren := ⟨fun | 165 => 52 | 240 => 67 | 241 => 68 | 276 => 81 | 277 => 82 | n => n, fun | 70 => 82 | 3 => 3 | 0 => 0 | 4 => 4 | 9 => 9 | 20 => 20 | 72 => 84 | 37 => 33 | 164 => 104 | 5 => 5 | n => n, fun | n => n⟩
theorem Tryd.lays165 : Go.Proofs.Lays.n165 Tryd.prog Tryd.lays165_ren := {
  mixed := by kernel_rfl
  f165 := Tryd.func52.trans (congrArg some (by kernel_rfl))
  f240 := Tryd.func67.trans (congrArg some (by kernel_rfl))
  f241 := Tryd.func68.trans (congrArg some (by kernel_rfl))
  f276 := Tryd.func81.trans (congrArg some (by kernel_rfl))
  f277 := Tryd.func82.trans (congrArg some (by kernel_rfl))
  t0 := Tryd.underlying0
  a0 := Tryd.isAgg0
  z0 := Tryd.sizeOf0
  v0 := Tryd.zeroValue0
  t3 := Tryd.underlying3
  a3 := Tryd.isAgg3
  z3 := Tryd.sizeOf3
  v3 := Tryd.zeroValue3
  t4 := Tryd.underlying4
  a4 := Tryd.isAgg4
  z4 := Tryd.sizeOf4
  v4 := Tryd.zeroValue4
  t9 := Tryd.underlying9
  a9 := Tryd.isAgg9
  z9 := Tryd.sizeOf9
  v9 := Tryd.zeroValue9
  t20 := Tryd.underlying20
  a20 := Tryd.isAgg20
  z20 := Tryd.sizeOf20
  v20 := Tryd.zeroValue20
  t37 := Tryd.underlying33
  a37 := Tryd.isAgg33
  z37 := Tryd.sizeOf33
  v37 := Tryd.zeroValue33
  t70 := Tryd.underlying82
  a70 := Tryd.isAgg82
  z70 := Tryd.sizeOf82
  v70 := Tryd.zeroValue82
  t72 := Tryd.underlying84
  a72 := Tryd.isAgg84
  z72 := Tryd.sizeOf84
  v72 := Tryd.zeroValue84
  t164 := Tryd.underlying104
  a164 := Tryd.isAgg104
  z164 := Tryd.sizeOf104
  v164 := Tryd.zeroValue104 }
theorem Tryd.Builder_Extra_165 : Builder.Extra Tryd.prog Tryd.lays165_ren := {
  sizeBuilder := by kernel_rfl
  liesBuilder := by kernel_rfl
  t5 := Tryd.underlying5
  a5 := Tryd.isAgg5
  z5 := Tryd.sizeOf5
  v5 := Tryd.zeroValue5
  infoByte := by kernel_rfl
  cellsByte := by kernel_rfl
  sizeByte := by kernel_rfl
  neB5 := by decide }
open Go.RowKit in
/-- (*strings.Builder).Grow AT A BUILDER THAT HAS NOT BEEN WRITTEN ('var b strings.Builder; b.Grow(n)'): "Grow grows b's capacity, if necessary, to guarantee space for another n bytes.": it holds no byte behind it as before it. (LAID: no walk: one application.) -/
theorem Tryd.Builder_Grow_fresh (B b n : Nat) (w : World) (hB : B ≤ b) (hbk : w.heap[b]? = some (.cells #[.pointer none, .slice none 0 0] 84 (0, 0))) (hBw : B ≤ w.heap.size) (hn : n ≤ 281474976710656) :
    Calls Tryd.prog 52 #[.pointer (some ⟨b, 0, none⟩), .int .i64 n] w fun e w' => e = .returned (.tuple #[]) ∧ (Lib.BuilderAt 84 5 B b (.pointer (some ⟨b, 0, none⟩)) [] w' ∧ Below B w w') := Any.Builder_Grow_fresh Tryd.lays165 Tryd.Builder_Extra_165 B b n w hB hbk hBw hn
def Tryd.lays137_ren : Go.Shelf.Ren := ⟨fun | 137 => 62 | 217 => 70 | 266 => 83 | n => n, fun | 9 => 9 | 5 => 5 | 3 => 3 | n => n, fun | n => n⟩
theorem Tryd.lays137 : Go.Proofs.Lays.n137 Tryd.prog Tryd.lays137_ren := {
  mixed := by kernel_rfl
  f137 := Tryd.func62.trans (congrArg some (by kernel_rfl))
  f217 := Tryd.func70.trans (congrArg some (by kernel_rfl))
  f266 := Tryd.func83.trans (congrArg some (by kernel_rfl))
  t3 := Tryd.underlying3
  a3 := Tryd.isAgg3
  z3 := Tryd.sizeOf3
  v3 := Tryd.zeroValue3
  t5 := Tryd.underlying5
  a5 := Tryd.isAgg5
  z5 := Tryd.sizeOf5
  v5 := Tryd.zeroValue5
  t9 := Tryd.underlying9
  a9 := Tryd.isAgg9
  z9 := Tryd.sizeOf9
  v9 := Tryd.zeroValue9 }
open Go.RowKit in
/-- strings.IndexByte: "IndexByte returns the index of the first instance of c in s, or -1 if c is not present in s.": IT RETURNS 'Lib.indexByte s c'; the world is as it was. (LAID: no walk: one application.) -/
theorem Tryd.strings_IndexByte (s : ByteArray) (c : Int) (w : World) :
    Calls Tryd.prog 62 #[.string s, .int .u8 c] w fun e w' => e = .returned (.int .i64 (Lib.indexByte s.data.toList c.toNat.toUInt8)) ∧ w' = w := Any.strings_IndexByte Tryd.lays137 s c w
open Go.RowKit in
/-- (*strings.Builder).String: "String returns the accumulated string.": OF A BUILDER THAT HOLDS AT LEAST ONE BYTE. ✋ THE MODEL FREEZES THOSE BYTES IN THE BUFFER (unsafe.String): a later write INTO them ends the model's run without an answer; a later append BEHIND them goes on. The statement's order of evaluation is drawn: one draw. THE FORM '_f': IT SAYS BESIDES THAT THE BUILDER IS A BUILDER STILL ('Lib.IsBuilderF', the same bytes): SO IT CAN BE WRITTEN ON: 'b.WriteString(b.String()[:k])'. (LAID: no walk: one application.) -/
theorem Tryd.Builder_String_f (B b : Nat) (l : List UInt8) (w : World) (h : Lib.IsBuilderF 84 5 B b (Lib.byteCells l) w) (h0 : l ≠ []) :
    Calls Tryd.prog 56 #[.pointer (some ⟨b, 0, none⟩)] w fun e w' => e = .returned (.string ⟨l.toArray⟩) ∧ (Lib.IsBuilderF 84 5 B b (Lib.byteCells l) w' ∧ Below B w w') := Any.Builder_String_f Tryd.lays169 Tryd.Builder_Extra_169 B b l w h h0
open Go.RowKit in
/-- (*strings.Builder).String OF A BUILDER THAT HOLDS NO BYTE: the empty string; THE FORM '_f': a builder still. (LAID: no walk: one application.) -/
theorem Tryd.Builder_String_empty_f (B b : Nat) (w : World) (h : Lib.IsBuilderF 84 5 B b [] w) (hBw : B ≤ w.heap.size) :
    Calls Tryd.prog 56 #[.pointer (some ⟨b, 0, none⟩)] w fun e w' => e = .returned (.string ⟨#[]⟩) ∧ (Lib.IsBuilderF 84 5 B b [] w' ∧ Below B w w') := Any.Builder_String_empty_f Tryd.lays169 Tryd.Builder_Extra_169 B b w h hBw
open Go.RowKit in
/-- (*strings.Builder).String: "String returns the accumulated string.": WHATEVER THE BUILDER HOLDS; THE FORM '_f': OF A BUILDER THAT MAY HAVE BEEN READ BEFORE; AND IT IS A BUILDER STILL, holding the same bytes: it can be written on. (LAID: no walk: one application.) -/
theorem Tryd.Builder_String_any_f (B b : Nat) (l : List UInt8) (w : World) (h : Lib.IsBuilderF 84 5 B b (Lib.byteCells l) w) (hBw : B ≤ w.heap.size) :
    Calls Tryd.prog 56 #[.pointer (some ⟨b, 0, none⟩)] w fun e w' => e = .returned (.string ⟨l.toArray⟩) ∧ (Lib.IsBuilderF 84 5 B b (Lib.byteCells l) w' ∧ Below B w w') := Any.Builder_String_any_f Tryd.lays169 Tryd.Builder_Extra_169 B b l w h hBw
open Go.RowKit in
/-- (*strings.Builder).String: "String returns the accumulated string.": OF A BUILDER THAT HOLDS AT LEAST ONE BYTE. ✋ THE MODEL FREEZES THOSE BYTES IN THE BUFFER (unsafe.String): a later write INTO them ends the model's run without an answer; a later append BEHIND them goes on. The statement's order of evaluation is drawn: one draw. THE FORM '_k': OVER 'Lib.IsBuilderF' (a builder that 'String()' may have read), AND WITH THE FRAME THAT REACHES ABOVE THE BUILDER: 'Lib.OthersKept': every block that is not b and is no row of uint8's stands as it stood: the iterator of a range among them. (LAID: no walk: one application.) -/
theorem Tryd.Builder_String_k (B b : Nat) (l : List UInt8) (w : World) (h : Lib.IsBuilderF 84 5 B b (Lib.byteCells l) w) (h0 : l ≠ []) :
    Calls Tryd.prog 56 #[.pointer (some ⟨b, 0, none⟩)] w fun e w' => e = .returned (.string ⟨l.toArray⟩) ∧ (Lib.IsBuilderF 84 5 B b (Lib.byteCells l) w' ∧ Below B w w' ∧ Lib.OthersKept 5 (some b) w w') := Any.Builder_String_k Tryd.lays169 Tryd.Builder_Extra_169 B b l w h h0
open Go.RowKit in
/-- (*strings.Builder).String OF A BUILDER THAT HOLDS NO BYTE: the empty string; THE FORM '_k': OVER 'Lib.IsBuilderF' (a builder that 'String()' may have read), AND WITH THE FRAME THAT REACHES ABOVE THE BUILDER: 'Lib.OthersKept': every block that is not b and is no row of uint8's stands as it stood: the iterator of a range among them. (LAID: no walk: one application.) -/
theorem Tryd.Builder_String_empty_k (B b : Nat) (w : World) (h : Lib.IsBuilderF 84 5 B b [] w) (hBw : B ≤ w.heap.size) :
    Calls Tryd.prog 56 #[.pointer (some ⟨b, 0, none⟩)] w fun e w' => e = .returned (.string ⟨#[]⟩) ∧ (Lib.IsBuilderF 84 5 B b [] w' ∧ Below B w w' ∧ Lib.OthersKept 5 (some b) w w') := Any.Builder_String_empty_k Tryd.lays169 Tryd.Builder_Extra_169 B b w h hBw
open Go.RowKit in
/-- (*strings.Builder).String: "String returns the accumulated string.": WHATEVER THE BUILDER HOLDS; THE FORM '_k': OVER 'Lib.IsBuilderF' (a builder that 'String()' may have read), AND WITH THE FRAME THAT REACHES ABOVE THE BUILDER: 'Lib.OthersKept': every block that is not b and is no row of uint8's stands as it stood: the iterator of a range among them. (LAID: no walk: one application.) -/
theorem Tryd.Builder_String_any_k (B b : Nat) (l : List UInt8) (w : World) (h : Lib.IsBuilderF 84 5 B b (Lib.byteCells l) w) (hBw : B ≤ w.heap.size) :
    Calls Tryd.prog 56 #[.pointer (some ⟨b, 0, none⟩)] w fun e w' => e = .returned (.string ⟨l.toArray⟩) ∧ (Lib.IsBuilderF 84 5 B b (Lib.byteCells l) w' ∧ Below B w w' ∧ Lib.OthersKept 5 (some b) w w') := Any.Builder_String_any_k Tryd.lays169 Tryd.Builder_Extra_169 B b l w h hBw
def Tryd.lays195_ren : Go.Shelf.Ren := ⟨fun | 195 => 65 | n => n, fun | 9 => 9 | 3 => 3 | 0 => 0 | 4 => 4 | n => n, fun | n => n⟩
theorem Tryd.lays195 : Go.Proofs.Lays.n195 Tryd.prog Tryd.lays195_ren := {
  mixed := by kernel_rfl
  f195 := Tryd.func65.trans (congrArg some (by kernel_rfl))
  t0 := Tryd.underlying0
  a0 := Tryd.isAgg0
  z0 := Tryd.sizeOf0
  v0 := Tryd.zeroValue0
  t3 := Tryd.underlying3
  a3 := Tryd.isAgg3
  z3 := Tryd.sizeOf3
  v3 := Tryd.zeroValue3
  t4 := Tryd.underlying4
  a4 := Tryd.isAgg4
  z4 := Tryd.sizeOf4
  v4 := Tryd.zeroValue4
  t9 := Tryd.underlying9
  a9 := Tryd.isAgg9
  z9 := Tryd.sizeOf9
  v9 := Tryd.zeroValue9 }
open Go.RowKit in
/-- unicode/utf8.RuneCountInString: "RuneCountInString is like RuneCount but its input is a string." ("RuneCount returns the number of runes in p. Erroneous and short encodings are treated as single runes of width 1 byte."): EVERY STRING, valid UTF-8 or not: 'Lib.runeCount s' (plain Lean over the model's own 'Utf8.decode'; 'Lib.runeCount_le': at most len(s); 'Lib.runeCount_ascii': on ASCII: len(s)). THE ONE CONDITION: len(s) below 2^63 - 1 (the counter does not wrap): the form's reach pays it. THE WORLD BEHIND THE CALL: ONE BLOCK MORE: the model's iterator over s, at its end: all else as it was. (LAID: no walk: one application.) -/
theorem Tryd.utf8_RuneCountInString (s : ByteArray) (w : World) (hs : s.size < 9223372036854775807) :
    Calls Tryd.prog 65 #[.string s] w fun e w' => e = .returned (.int .i64 (Lib.runeCount s)) ∧ ∃ pos, w' = w.iter s pos := Any.utf8_RuneCountInString Tryd.lays195 s w hs
open Go.RowKit in
/-- (*strings.Builder).grow (no doc but "grow copies the buffer to a new, larger buffer so that there are at least n bytes of capacity beyond len(b.buf)."): AT A BUILDER WITHOUT A BUFFER: a new row of whatever bytes for its buffer, none of them its own yet. Three draws. (LAID: no walk: one application.) -/
theorem Tryd.Builder_grow_fresh_cap (B b n : Nat) (w : World) (hB : B ≤ b) (hbk : w.heap[b]? = some (.cells #[.pointer (some ⟨b, 0, none⟩), .slice none 0 0] 84 (0, 0))) (hBw : B ≤ w.heap.size) (hn : n ≤ 281474976710656) :
    Calls Tryd.prog 68 #[.pointer (some ⟨b, 0, none⟩), .int .i64 n] w fun e w' => e = .returned (.tuple #[]) ∧ (Lib.BuilderAt 84 5 B b (.pointer (some ⟨b, 0, none⟩)) [] w' ∧ Below B w w') ∧ ∃ p cap, w'.cell? ⟨b, 1, none⟩ = some (.slice p 0 cap) ∧ n ≤ cap := Any.Builder_grow_fresh_cap Tryd.lays241 Tryd.Builder_Extra_241 B b n w hB hbk hBw hn
open Go.RowKit in
/-- (*strings.Builder).Grow AT A BUILDER THAT HAS NOT BEEN WRITTEN ('var b strings.Builder; b.Grow(n)'): "Grow grows b's capacity, if necessary, to guarantee space for another n bytes.": it holds no byte behind it as before it. (LAID: no walk: one application.) -/
theorem Tryd.Builder_Grow_fresh_cap (B b n : Nat) (w : World) (hB : B ≤ b) (hbk : w.heap[b]? = some (.cells #[.pointer none, .slice none 0 0] 84 (0, 0))) (hBw : B ≤ w.heap.size) (hn : n ≤ 281474976710656) :
    Calls Tryd.prog 52 #[.pointer (some ⟨b, 0, none⟩), .int .i64 n] w fun e w' => e = .returned (.tuple #[]) ∧ (Lib.BuilderAt 84 5 B b (.pointer (some ⟨b, 0, none⟩)) [] w' ∧ Below B w w') ∧ ∃ p cap, w'.cell? ⟨b, 1, none⟩ = some (.slice p 0 cap) ∧ n ≤ cap := Any.Builder_Grow_fresh_cap Tryd.lays165 Tryd.Builder_Extra_165 B b n w hB hbk hBw hn
def Tryd.lays244_ren : Go.Shelf.Ren := ⟨fun | 244 => 59 | 247 => 74 | 287 => 85 | 321 => 92 | 322 => 93 | n => n, fun | 9 => 9 | 3 => 3 | 75 => 71 | 4 => 4 | 5 => 5 | 167 => 97 | 37 => 33 | 0 => 0 | 85 => 98 | 2 => 2 | 53 => 43 | 175 => 114 | 46 => 44 | 21 => 21 | 80 => 88 | n => n, fun | n => n⟩
theorem Tryd.lays244 : Go.Proofs.Lays.n244 Tryd.prog Tryd.lays244_ren := {
  mixed := by kernel_rfl
  f244 := Tryd.func59.trans (congrArg some (by kernel_rfl))
  f247 := Tryd.func74.trans (congrArg some (by kernel_rfl))
  f287 := Tryd.func85.trans (congrArg some (by kernel_rfl))
  f321 := Tryd.func92.trans (congrArg some (by kernel_rfl))
  f322 := Tryd.func93.trans (congrArg some (by kernel_rfl))
  t0 := Tryd.underlying0
  a0 := Tryd.isAgg0
  z0 := Tryd.sizeOf0
  v0 := Tryd.zeroValue0
  t2 := Tryd.underlying2
  a2 := Tryd.isAgg2
  z2 := Tryd.sizeOf2
  v2 := Tryd.zeroValue2
  t3 := Tryd.underlying3
  a3 := Tryd.isAgg3
  z3 := Tryd.sizeOf3
  v3 := Tryd.zeroValue3
  t4 := Tryd.underlying4
  a4 := Tryd.isAgg4
  z4 := Tryd.sizeOf4
  v4 := Tryd.zeroValue4
  t5 := Tryd.underlying5
  a5 := Tryd.isAgg5
  z5 := Tryd.sizeOf5
  v5 := Tryd.zeroValue5
  t9 := Tryd.underlying9
  a9 := Tryd.isAgg9
  z9 := Tryd.sizeOf9
  v9 := Tryd.zeroValue9
  t21 := Tryd.underlying21
  a21 := Tryd.isAgg21
  z21 := Tryd.sizeOf21
  v21 := Tryd.zeroValue21
  t37 := Tryd.underlying33
  a37 := Tryd.isAgg33
  z37 := Tryd.sizeOf33
  v37 := Tryd.zeroValue33
  t46 := Tryd.underlying44
  a46 := Tryd.isAgg44
  z46 := Tryd.sizeOf44
  v46 := Tryd.zeroValue44
  t53 := Tryd.underlying43
  a53 := Tryd.isAgg43
  z53 := Tryd.sizeOf43
  v53 := Tryd.zeroValue43
  t75 := Tryd.underlying71
  a75 := Tryd.isAgg71
  z75 := Tryd.sizeOf71
  v75 := Tryd.zeroValue71
  t85 := Tryd.underlying98
  a85 := Tryd.isAgg98
  z85 := Tryd.sizeOf98
  v85 := Tryd.zeroValue98
  t167 := Tryd.underlying97
  a167 := Tryd.isAgg97
  z167 := Tryd.sizeOf97
  v167 := Tryd.zeroValue97
  t175 := Tryd.underlying114
  a175 := Tryd.isAgg114
  z175 := Tryd.sizeOf114
  v175 := Tryd.zeroValue114 }
open Go.RowKit in
/-- internal/strconv.Atoi, at a decimal numeral of at most 18 bytes: ITS VALUE, AND NO ERROR. The world behind the call: the one new row that '[]byte(s)' lays. (LAID: no walk: one application.) -/
theorem Tryd.internal_strconv_Atoi (s : ByteArray) (n : Int) (hl : s.size ≤ 18) (h : Lib.atoi s.data.toList = some n) (w : World) :
    Calls Tryd.prog 59 #[.string s] w fun e w' => e = .returned (.tuple #[.int .i64 n, .nilIface]) ∧ ∃ t, w' = Lib.bytesWorld w 5 t := Any.internal_strconv_Atoi Tryd.lays244 s n hl h w
def Tryd.lays172_ren : Go.Shelf.Ren := ⟨fun | 172 => 44 | 244 => 59 | 245 => 60 | 247 => 74 | 279 => 75 | 280 => 76 | 281 => 77 | 282 => 78 | 287 => 85 | 316 => 86 | 171 => 45 | 205 => 87 | 321 => 92 | 322 => 93 | 243 => 61 | 246 => 79 | 283 => 88 | 284 => 89 | 285 => 90 | 286 => 91 | 129 => 95 | 317 => 94 | 318 => 96 | 319 => 97 | 320 => 98 | 337 => 99 | 338 => 100 | n => n, fun | 9 => 9 | 3 => 3 | 75 => 71 | 76 => 72 | 4 => 4 | 5 => 5 | 167 => 97 | 37 => 33 | 0 => 0 | 85 => 98 | 2 => 2 | 168 => 100 | 53 => 43 | 175 => 114 | 46 => 44 | 210 => 118 | 127 => 95 | 145 => 128 | 143 => 126 | 21 => 21 | 171 => 120 | 173 => 123 | 212 => 130 | 51 => 111 | 20 => 20 | 213 => 131 | 232 => 135 | 233 => 136 | 80 => 88 | n => n, fun | 15 => 3 | 16 => 4 | 17 => 5 | 18 => 6 | 19 => 7 | n => n⟩
theorem Tryd.lays172 : Go.Proofs.Lays.n172 Tryd.prog Tryd.lays172_ren := {
  mixed := by kernel_rfl
  f129 := Tryd.func95.trans (congrArg some (by kernel_rfl))
  f171 := Tryd.func45.trans (congrArg some (by kernel_rfl))
  f172 := Tryd.func44.trans (congrArg some (by kernel_rfl))
  f205 := Tryd.func87.trans (congrArg some (by kernel_rfl))
  f243 := Tryd.func61.trans (congrArg some (by kernel_rfl))
  f244 := Tryd.func59.trans (congrArg some (by kernel_rfl))
  f245 := Tryd.func60.trans (congrArg some (by kernel_rfl))
  f246 := Tryd.func79.trans (congrArg some (by kernel_rfl))
  f247 := Tryd.func74.trans (congrArg some (by kernel_rfl))
  f279 := Tryd.func75.trans (congrArg some (by kernel_rfl))
  f280 := Tryd.func76.trans (congrArg some (by kernel_rfl))
  f281 := Tryd.func77.trans (congrArg some (by kernel_rfl))
  f282 := Tryd.func78.trans (congrArg some (by kernel_rfl))
  f283 := Tryd.func88.trans (congrArg some (by kernel_rfl))
  f284 := Tryd.func89.trans (congrArg some (by kernel_rfl))
  f285 := Tryd.func90.trans (congrArg some (by kernel_rfl))
  f286 := Tryd.func91.trans (congrArg some (by kernel_rfl))
  f287 := Tryd.func85.trans (congrArg some (by kernel_rfl))
  f316 := Tryd.func86.trans (congrArg some (by kernel_rfl))
  f317 := Tryd.func94.trans (congrArg some (by kernel_rfl))
  f318 := Tryd.func96.trans (congrArg some (by kernel_rfl))
  f319 := Tryd.func97.trans (congrArg some (by kernel_rfl))
  f320 := Tryd.func98.trans (congrArg some (by kernel_rfl))
  f321 := Tryd.func92.trans (congrArg some (by kernel_rfl))
  f322 := Tryd.func93.trans (congrArg some (by kernel_rfl))
  f337 := Tryd.func99.trans (congrArg some (by kernel_rfl))
  f338 := Tryd.func100.trans (congrArg some (by kernel_rfl))
  t0 := Tryd.underlying0
  a0 := Tryd.isAgg0
  z0 := Tryd.sizeOf0
  v0 := Tryd.zeroValue0
  t2 := Tryd.underlying2
  a2 := Tryd.isAgg2
  z2 := Tryd.sizeOf2
  v2 := Tryd.zeroValue2
  t3 := Tryd.underlying3
  a3 := Tryd.isAgg3
  z3 := Tryd.sizeOf3
  v3 := Tryd.zeroValue3
  t4 := Tryd.underlying4
  a4 := Tryd.isAgg4
  z4 := Tryd.sizeOf4
  v4 := Tryd.zeroValue4
  t5 := Tryd.underlying5
  a5 := Tryd.isAgg5
  z5 := Tryd.sizeOf5
  v5 := Tryd.zeroValue5
  t9 := Tryd.underlying9
  a9 := Tryd.isAgg9
  z9 := Tryd.sizeOf9
  v9 := Tryd.zeroValue9
  t20 := Tryd.underlying20
  a20 := Tryd.isAgg20
  z20 := Tryd.sizeOf20
  v20 := Tryd.zeroValue20
  t21 := Tryd.underlying21
  a21 := Tryd.isAgg21
  z21 := Tryd.sizeOf21
  v21 := Tryd.zeroValue21
  t37 := Tryd.underlying33
  a37 := Tryd.isAgg33
  z37 := Tryd.sizeOf33
  v37 := Tryd.zeroValue33
  t46 := Tryd.underlying44
  a46 := Tryd.isAgg44
  z46 := Tryd.sizeOf44
  v46 := Tryd.zeroValue44
  t51 := Tryd.underlying111
  a51 := Tryd.isAgg111
  z51 := Tryd.sizeOf111
  v51 := Tryd.zeroValue111
  t53 := Tryd.underlying43
  a53 := Tryd.isAgg43
  z53 := Tryd.sizeOf43
  v53 := Tryd.zeroValue43
  t75 := Tryd.underlying71
  a75 := Tryd.isAgg71
  z75 := Tryd.sizeOf71
  v75 := Tryd.zeroValue71
  t76 := Tryd.underlying72
  a76 := Tryd.isAgg72
  z76 := Tryd.sizeOf72
  v76 := Tryd.zeroValue72
  t85 := Tryd.underlying98
  a85 := Tryd.isAgg98
  z85 := Tryd.sizeOf98
  v85 := Tryd.zeroValue98
  t127 := Tryd.underlying95
  a127 := Tryd.isAgg95
  z127 := Tryd.sizeOf95
  v127 := Tryd.zeroValue95
  t143 := Tryd.underlying126
  a143 := Tryd.isAgg126
  z143 := Tryd.sizeOf126
  v143 := Tryd.zeroValue126
  t145 := Tryd.underlying128
  a145 := Tryd.isAgg128
  z145 := Tryd.sizeOf128
  v145 := Tryd.zeroValue128
  t167 := Tryd.underlying97
  a167 := Tryd.isAgg97
  z167 := Tryd.sizeOf97
  v167 := Tryd.zeroValue97
  t168 := Tryd.underlying100
  a168 := Tryd.isAgg100
  z168 := Tryd.sizeOf100
  v168 := Tryd.zeroValue100
  t171 := Tryd.underlying120
  a171 := Tryd.isAgg120
  z171 := Tryd.sizeOf120
  v171 := Tryd.zeroValue120
  t173 := Tryd.underlying123
  a173 := Tryd.isAgg123
  z173 := Tryd.sizeOf123
  v173 := Tryd.zeroValue123
  t175 := Tryd.underlying114
  a175 := Tryd.isAgg114
  z175 := Tryd.sizeOf114
  v175 := Tryd.zeroValue114
  t210 := Tryd.underlying118
  a210 := Tryd.isAgg118
  z210 := Tryd.sizeOf118
  v210 := Tryd.zeroValue118
  t212 := Tryd.underlying130
  a212 := Tryd.isAgg130
  z212 := Tryd.sizeOf130
  v212 := Tryd.zeroValue130
  t213 := Tryd.underlying131
  a213 := Tryd.isAgg131
  z213 := Tryd.sizeOf131
  t232 := Tryd.underlying135
  a232 := Tryd.isAgg135
  z232 := Tryd.sizeOf135
  v232 := Tryd.zeroValue135
  t233 := Tryd.underlying136
  a233 := Tryd.isAgg136
  z233 := Tryd.sizeOf136
  v233 := Tryd.zeroValue136
  g15 := by kernel_rfl
  g16 := by kernel_rfl
  g17 := by kernel_rfl
  g18 := by kernel_rfl
  g19 := by kernel_rfl }
open Go.RowKit in
/-- strconv.Atoi: "Atoi is equivalent to ParseInt(s, 10, 0), converted to type int.": AT A DECIMAL NUMERAL OF AT MOST 18 BYTES: its value, and a nil error. The world behind the call: the one new row that the library's '[]byte(s)' lays. (LAID: no walk: one application.) -/
theorem Tryd.strconv_Atoi (s : ByteArray) (n : Int) (hl : s.size ≤ 18) (h : Lib.atoi s.data.toList = some n) (w : World) :
    Calls Tryd.prog 44 #[.string s] w fun e w' => e = .returned (.tuple #[.int .i64 n, .nilIface]) ∧ ∃ t, w' = Lib.bytesWorld w 5 t := Any.strconv_Atoi Tryd.lays172 s n hl h w
def Tryd.lays129_ren : Go.Shelf.Ren := ⟨fun | 129 => 95 | n => n, fun | 53 => 43 | 3 => 3 | 4 => 4 | 46 => 44 | 5 => 5 | 9 => 9 | n => n, fun | n => n⟩
theorem Tryd.lays129 : Go.Proofs.Lays.n129 Tryd.prog Tryd.lays129_ren := {
  mixed := by kernel_rfl
  f129 := Tryd.func95.trans (congrArg some (by kernel_rfl))
  t3 := Tryd.underlying3
  a3 := Tryd.isAgg3
  z3 := Tryd.sizeOf3
  v3 := Tryd.zeroValue3
  t4 := Tryd.underlying4
  a4 := Tryd.isAgg4
  z4 := Tryd.sizeOf4
  v4 := Tryd.zeroValue4
  t5 := Tryd.underlying5
  a5 := Tryd.isAgg5
  z5 := Tryd.sizeOf5
  v5 := Tryd.zeroValue5
  t9 := Tryd.underlying9
  a9 := Tryd.isAgg9
  z9 := Tryd.sizeOf9
  v9 := Tryd.zeroValue9
  t46 := Tryd.underlying44
  a46 := Tryd.isAgg44
  z46 := Tryd.sizeOf44
  v46 := Tryd.zeroValue44
  t53 := Tryd.underlying43
  a53 := Tryd.isAgg43
  z53 := Tryd.sizeOf43
  v53 := Tryd.zeroValue43 }
/-- bits.Len64: "Len64 returns the minimum number of bits required to represent x; the result is 0 for x == 0.": IT RETURNS 'Lib.bitLen x'; the world is as it was. ('h0', 'h1': x is a uint64.) (LAID: no walk: one application.) -/
theorem Tryd.bits_Len64 (x : Int) (w : World) (h0 : 0 ≤ x) (h1 : x ≤ 18446744073709551615) :
    Calls Tryd.prog 95 #[.int .u64 x] w fun e w' => e = .returned (.int .i64 (Lib.bitLen x.toNat)) ∧ w' = w := Any.bits_Len64 Tryd.lays129 x w h0 h1
def Tryd.lays317_ren : Go.Shelf.Ren := ⟨fun | 317 => 94 | n => n, fun | 3 => 3 | 46 => 44 | n => n, fun | n => n⟩
theorem Tryd.lays317 : Go.Proofs.Lays.n317 Tryd.prog Tryd.lays317_ren := {
  mixed := by kernel_rfl
  f317 := Tryd.func94.trans (congrArg some (by kernel_rfl))
  t3 := Tryd.underlying3
  a3 := Tryd.isAgg3
  z3 := Tryd.sizeOf3
  v3 := Tryd.zeroValue3
  t46 := Tryd.underlying44
  a46 := Tryd.isAgg44
  z46 := Tryd.sizeOf44
  v46 := Tryd.zeroValue44 }
open Go.Lib in
/-- internal/strconv.log10Pow2: "log10Pow2(x) returns ⌊log₁₀ 2**x⌋ = ⌊x * log₁₀ 2⌋.": '(x * 78913) >> 18', at an x up to 64 (a length in bits). The world is as it was. (LAID: no walk: one application.) -/
theorem Tryd.internal_strconv_log10Pow2 (x : Nat) (h : x ≤ 64) (w : World) :
    Calls Tryd.prog 94 #[.int .i64 x] w fun e w' => e = .returned (.int .i64 (Lib.l10 x)) ∧ w' = w := Any.internal_strconv_log10Pow2 Tryd.lays317 x h w
def Tryd.lays318_ren : Go.Shelf.Ren := ⟨fun | 318 => 96 | n => n, fun | 3 => 3 | 4 => 4 | n => n, fun | n => n⟩
theorem Tryd.lays318 : Go.Proofs.Lays.n318 Tryd.prog Tryd.lays318_ren := {
  mixed := by kernel_rfl
  f318 := Tryd.func96.trans (congrArg some (by kernel_rfl))
  t3 := Tryd.underlying3
  a3 := Tryd.isAgg3
  z3 := Tryd.sizeOf3
  v3 := Tryd.zeroValue3
  t4 := Tryd.underlying4
  a4 := Tryd.isAgg4
  z4 := Tryd.sizeOf4
  v4 := Tryd.zeroValue4 }
open Go.Lib in
/-- internal/strconv.bool2: "bool2 converts b to an integer: 1 for true, 0 for false." The world is as it was. (LAID: no walk: one application.) -/
theorem Tryd.internal_strconv_bool2_int (b : Bool) (w : World) :
    Calls Tryd.prog 96 #[.bool b] w fun e w' => e = .returned (.int .i64 (if b then 1 else 0)) ∧ w' = w := Any.internal_strconv_bool2_int Tryd.lays318 b w
def Tryd.lays283_ren : Go.Shelf.Ren := ⟨fun | 283 => 88 | n => n, fun | 3 => 3 | 9 => 9 | 4 => 4 | n => n, fun | n => n⟩
theorem Tryd.lays283 : Go.Proofs.Lays.n283 Tryd.prog Tryd.lays283_ren := {
  mixed := by kernel_rfl
  f283 := Tryd.func88.trans (congrArg some (by kernel_rfl))
  t3 := Tryd.underlying3
  a3 := Tryd.isAgg3
  z3 := Tryd.sizeOf3
  v3 := Tryd.zeroValue3
  t4 := Tryd.underlying4
  a4 := Tryd.isAgg4
  z4 := Tryd.sizeOf4
  v4 := Tryd.zeroValue4
  t9 := Tryd.underlying9
  a9 := Tryd.isAgg9
  z9 := Tryd.sizeOf9
  v9 := Tryd.zeroValue9 }
open Go.Lib in
/-- internal/strconv.small: "small returns the string for an i with 0 <= i < nSmalls.": i's decimal numeral. The world is as it was. (LAID: no walk: one application.) -/
theorem Tryd.internal_strconv_small (i : Nat) (h : i < 100) (w : World) :
    Calls Tryd.prog 88 #[.int .i64 i] w fun e w' => e = .returned (.string ⟨(Lib.decDigits i).toArray⟩) ∧ w' = w := Any.internal_strconv_small Tryd.lays283 i h w
def Tryd.laysM284_ren : Go.Shelf.Ren := ⟨fun | 284 => 89 | 129 => 95 | 317 => 94 | 318 => 96 | n => n, fun | 53 => 43 | 3 => 3 | 212 => 130 | 0 => 0 | 4 => 4 | 46 => 44 | 5 => 5 | 9 => 9 | n => n, fun | 17 => 5 | n => n⟩
theorem Tryd.laysM284 : Go.Proofs.LaysM.n284 Tryd.prog Tryd.laysM284_ren := {
  mixed := by kernel_rfl
  f129 := Tryd.func95.trans (congrArg some (by kernel_rfl))
  f284 := Tryd.func89.trans (congrArg some (by kernel_rfl))
  f317 := Tryd.func94.trans (congrArg some (by kernel_rfl))
  f318 := Tryd.func96.trans (congrArg some (by kernel_rfl))
  t0 := Tryd.underlying0
  a0 := Tryd.isAgg0
  z0 := Tryd.sizeOf0
  v0 := Tryd.zeroValue0
  t3 := Tryd.underlying3
  a3 := Tryd.isAgg3
  z3 := Tryd.sizeOf3
  v3 := Tryd.zeroValue3
  t4 := Tryd.underlying4
  a4 := Tryd.isAgg4
  z4 := Tryd.sizeOf4
  v4 := Tryd.zeroValue4
  t5 := Tryd.underlying5
  a5 := Tryd.isAgg5
  z5 := Tryd.sizeOf5
  v5 := Tryd.zeroValue5
  t9 := Tryd.underlying9
  a9 := Tryd.isAgg9
  z9 := Tryd.sizeOf9
  v9 := Tryd.zeroValue9
  t46 := Tryd.underlying44
  a46 := Tryd.isAgg44
  z46 := Tryd.sizeOf44
  v46 := Tryd.zeroValue44
  t53 := Tryd.underlying43
  a53 := Tryd.isAgg43
  z53 := Tryd.sizeOf43
  v53 := Tryd.zeroValue43
  t212 := Tryd.underlying130
  a212 := Tryd.isAgg130
  z212 := Tryd.sizeOf130
  v212 := Tryd.zeroValue130
  g17 := by kernel_rfl
  i0 := by kernel_rfl
  i3 := by kernel_rfl
  i4 := by kernel_rfl
  i5 := by kernel_rfl
  i9 := by kernel_rfl
  i46 := by kernel_rfl
  i53 := by kernel_rfl
  i212 := by kernel_rfl
  m17 := by kernel_rfl }
open Go.Lib in
/-- internal/strconv.numDigits, at a d that is not 0: THE NUMBER OF d's DECIMAL DIGITS. The world is as it was. (LAID: no walk: one application.) -/
theorem Tryd.internal_strconv_numDigits (u : Nat) (h1 : 1 ≤ u) (h2 : u < 18446744073709551616) (w : World) (htab : Lib.TabIs Tryd.prog w "internal/strconv.uint64pow10" .u64 Lib.pow10Tab) :
    Calls Tryd.prog 89 #[.int .u64 u] w fun e w' => e = .returned (.int .i64 (Lib.nDigits u)) ∧ w' = w := Any.internal_strconv_numDigits Tryd.laysM284 u h1 h2 w htab
def Tryd.lays285_ren : Go.Shelf.Ren := ⟨fun | 285 => 90 | n => n, fun | 37 => 33 | 53 => 43 | 3 => 3 | 4 => 4 | 51 => 111 | 9 => 9 | 5 => 5 | 0 => 0 | n => n, fun | n => n⟩
theorem Tryd.lays285 : Go.Proofs.Lays.n285 Tryd.prog Tryd.lays285_ren := {
  mixed := by kernel_rfl
  f285 := Tryd.func90.trans (congrArg some (by kernel_rfl))
  t0 := Tryd.underlying0
  a0 := Tryd.isAgg0
  z0 := Tryd.sizeOf0
  v0 := Tryd.zeroValue0
  t3 := Tryd.underlying3
  a3 := Tryd.isAgg3
  z3 := Tryd.sizeOf3
  v3 := Tryd.zeroValue3
  t4 := Tryd.underlying4
  a4 := Tryd.isAgg4
  z4 := Tryd.sizeOf4
  v4 := Tryd.zeroValue4
  t5 := Tryd.underlying5
  a5 := Tryd.isAgg5
  z5 := Tryd.sizeOf5
  v5 := Tryd.zeroValue5
  t9 := Tryd.underlying9
  a9 := Tryd.isAgg9
  z9 := Tryd.sizeOf9
  v9 := Tryd.zeroValue9
  t37 := Tryd.underlying33
  a37 := Tryd.isAgg33
  z37 := Tryd.sizeOf33
  v37 := Tryd.zeroValue33
  t51 := Tryd.underlying111
  a51 := Tryd.isAgg111
  z51 := Tryd.sizeOf111
  v51 := Tryd.zeroValue111
  t53 := Tryd.underlying43
  a53 := Tryd.isAgg43
  z53 := Tryd.sizeOf43
  v53 := Tryd.zeroValue43 }
open Go.RowKit Go.Sort Go.Lib in
/-- internal/strconv.formatBase10: "formatBase10 formats the decimal representation of u into a. The caller is responsible for ensuring that a is big enough to hold u. If a is too big, leading zeros will be filled in as needed.": THE ROW HOLDS u's DIGITS ('FmtInv .. 0 ..': every place t holds 'dg u (len - 1 - t)'); all else is as it was but for the count of draws. (LAID: no walk: one application.) -/
theorem Tryd.internal_strconv_formatBase10 (blk off cap : Nat) (u : Nat) (d : Array UInt8) (w : World) (hH : Holds (fun (b : UInt8) => Value.int .u8 (b.toNat : Int)) w blk off d) (hu : u < 10 ^ d.size) (hu64 : u < 18446744073709551616) (hsz : d.size < 4611686018427387904) :
    Calls Tryd.prog 90 #[.slice (some ⟨blk, off, none⟩) d.size cap, .int .u64 u] w fun e w' =>
      e = .returned (.tuple #[]) ∧ ∃ (n v' : Nat) (dk : Array UInt8), w' = (putRow (fun (b : UInt8) => Value.int .u8 (b.toNat : Int)) w blk off dk).drewN n ∧ FmtInv d.size u 0 v' dk := Any.internal_strconv_formatBase10 Tryd.lays285 blk off cap u d w hH hu hu64 hsz
def Tryd.laysM246_ren : Go.Shelf.Ren := ⟨fun | 246 => 79 | 283 => 88 | 284 => 89 | 285 => 90 | 286 => 91 | 129 => 95 | 317 => 94 | 318 => 96 | 319 => 97 | 320 => 98 | 337 => 99 | 338 => 100 | n => n, fun | 2 => 2 | 3 => 3 | 9 => 9 | 4 => 4 | 171 => 120 | 0 => 0 | 53 => 43 | 37 => 33 | 5 => 5 | 173 => 123 | 212 => 130 | 51 => 111 | 20 => 20 | 213 => 131 | 46 => 44 | 232 => 135 | 233 => 136 | n => n, fun | 17 => 5 | 18 => 6 | 19 => 7 | n => n⟩
theorem Tryd.laysM246 : Go.Proofs.LaysM.n246 Tryd.prog Tryd.laysM246_ren := {
  mixed := by kernel_rfl
  f129 := Tryd.func95.trans (congrArg some (by kernel_rfl))
  f246 := Tryd.func79.trans (congrArg some (by kernel_rfl))
  f283 := Tryd.func88.trans (congrArg some (by kernel_rfl))
  f284 := Tryd.func89.trans (congrArg some (by kernel_rfl))
  f285 := Tryd.func90.trans (congrArg some (by kernel_rfl))
  f286 := Tryd.func91.trans (congrArg some (by kernel_rfl))
  f317 := Tryd.func94.trans (congrArg some (by kernel_rfl))
  f318 := Tryd.func96.trans (congrArg some (by kernel_rfl))
  f319 := Tryd.func97.trans (congrArg some (by kernel_rfl))
  f320 := Tryd.func98.trans (congrArg some (by kernel_rfl))
  f337 := Tryd.func99.trans (congrArg some (by kernel_rfl))
  f338 := Tryd.func100.trans (congrArg some (by kernel_rfl))
  t0 := Tryd.underlying0
  a0 := Tryd.isAgg0
  z0 := Tryd.sizeOf0
  v0 := Tryd.zeroValue0
  t2 := Tryd.underlying2
  a2 := Tryd.isAgg2
  z2 := Tryd.sizeOf2
  v2 := Tryd.zeroValue2
  t3 := Tryd.underlying3
  a3 := Tryd.isAgg3
  z3 := Tryd.sizeOf3
  v3 := Tryd.zeroValue3
  t4 := Tryd.underlying4
  a4 := Tryd.isAgg4
  z4 := Tryd.sizeOf4
  v4 := Tryd.zeroValue4
  t5 := Tryd.underlying5
  a5 := Tryd.isAgg5
  z5 := Tryd.sizeOf5
  v5 := Tryd.zeroValue5
  t9 := Tryd.underlying9
  a9 := Tryd.isAgg9
  z9 := Tryd.sizeOf9
  v9 := Tryd.zeroValue9
  t20 := Tryd.underlying20
  a20 := Tryd.isAgg20
  z20 := Tryd.sizeOf20
  v20 := Tryd.zeroValue20
  t37 := Tryd.underlying33
  a37 := Tryd.isAgg33
  z37 := Tryd.sizeOf33
  v37 := Tryd.zeroValue33
  t46 := Tryd.underlying44
  a46 := Tryd.isAgg44
  z46 := Tryd.sizeOf44
  v46 := Tryd.zeroValue44
  t51 := Tryd.underlying111
  a51 := Tryd.isAgg111
  z51 := Tryd.sizeOf111
  v51 := Tryd.zeroValue111
  t53 := Tryd.underlying43
  a53 := Tryd.isAgg43
  z53 := Tryd.sizeOf43
  v53 := Tryd.zeroValue43
  t171 := Tryd.underlying120
  a171 := Tryd.isAgg120
  z171 := Tryd.sizeOf120
  v171 := Tryd.zeroValue120
  t173 := Tryd.underlying123
  a173 := Tryd.isAgg123
  z173 := Tryd.sizeOf123
  v173 := Tryd.zeroValue123
  t212 := Tryd.underlying130
  a212 := Tryd.isAgg130
  z212 := Tryd.sizeOf130
  v212 := Tryd.zeroValue130
  t213 := Tryd.underlying131
  a213 := Tryd.isAgg131
  z213 := Tryd.sizeOf131
  t232 := Tryd.underlying135
  a232 := Tryd.isAgg135
  z232 := Tryd.sizeOf135
  v232 := Tryd.zeroValue135
  t233 := Tryd.underlying136
  a233 := Tryd.isAgg136
  z233 := Tryd.sizeOf136
  v233 := Tryd.zeroValue136
  g17 := by kernel_rfl
  g18 := by kernel_rfl
  g19 := by kernel_rfl
  i0 := by kernel_rfl
  i2 := by kernel_rfl
  i3 := by kernel_rfl
  i4 := by kernel_rfl
  i5 := by kernel_rfl
  i9 := by kernel_rfl
  i20 := by kernel_rfl
  i37 := by kernel_rfl
  i46 := by kernel_rfl
  i51 := by kernel_rfl
  i53 := by kernel_rfl
  i171 := by kernel_rfl
  i173 := by kernel_rfl
  i212 := by kernel_rfl
  i232 := by kernel_rfl
  i233 := by kernel_rfl
  m17 := by kernel_rfl
  m18 := by kernel_rfl
  m19 := by kernel_rfl }
open Go.RowKit Go.Sort Go.Lib in
/-- internal/strconv.FormatInt: "FormatInt returns the string representation of i in the given base": AT BASE 10: i's decimal numeral, for every int64. The world behind the call: the world before it, new blocks behind the heap, draws. (LAID: no walk: one application.) -/
theorem Tryd.internal_strconv_FormatInt_10 (n : Int) (h0 : -9223372036854775808 ≤ n) (h1 : n ≤ 9223372036854775807) (w : World) (htab : Lib.TabIs Tryd.prog w "internal/strconv.uint64pow10" .u64 Lib.pow10Tab) :
    Calls Tryd.prog 79 #[.int .i64 n, .int .i64 10] w fun e w' => e = .returned (.string ⟨(Lib.itoa n).toArray⟩) ∧ ∃ k os, w' = grow (w.drewN k) os := Any.internal_strconv_FormatInt_10 Tryd.laysM246 n h0 h1 w htab
def Tryd.lays246_ren : Go.Shelf.Ren := ⟨fun | 246 => 79 | 283 => 88 | 284 => 89 | 285 => 90 | 286 => 91 | 129 => 95 | 317 => 94 | 318 => 96 | 319 => 97 | 320 => 98 | 337 => 99 | 338 => 100 | n => n, fun | 2 => 2 | 3 => 3 | 9 => 9 | 4 => 4 | 171 => 120 | 0 => 0 | 53 => 43 | 37 => 33 | 5 => 5 | 173 => 123 | 212 => 130 | 51 => 111 | 20 => 20 | 213 => 131 | 46 => 44 | 232 => 135 | 233 => 136 | n => n, fun | 17 => 5 | 18 => 6 | 19 => 7 | n => n⟩
theorem Tryd.lays246 : Go.Proofs.Lays.n246 Tryd.prog Tryd.lays246_ren := {
  mixed := by kernel_rfl
  f129 := Tryd.func95.trans (congrArg some (by kernel_rfl))
  f246 := Tryd.func79.trans (congrArg some (by kernel_rfl))
  f283 := Tryd.func88.trans (congrArg some (by kernel_rfl))
  f284 := Tryd.func89.trans (congrArg some (by kernel_rfl))
  f285 := Tryd.func90.trans (congrArg some (by kernel_rfl))
  f286 := Tryd.func91.trans (congrArg some (by kernel_rfl))
  f317 := Tryd.func94.trans (congrArg some (by kernel_rfl))
  f318 := Tryd.func96.trans (congrArg some (by kernel_rfl))
  f319 := Tryd.func97.trans (congrArg some (by kernel_rfl))
  f320 := Tryd.func98.trans (congrArg some (by kernel_rfl))
  f337 := Tryd.func99.trans (congrArg some (by kernel_rfl))
  f338 := Tryd.func100.trans (congrArg some (by kernel_rfl))
  t0 := Tryd.underlying0
  a0 := Tryd.isAgg0
  z0 := Tryd.sizeOf0
  v0 := Tryd.zeroValue0
  t2 := Tryd.underlying2
  a2 := Tryd.isAgg2
  z2 := Tryd.sizeOf2
  v2 := Tryd.zeroValue2
  t3 := Tryd.underlying3
  a3 := Tryd.isAgg3
  z3 := Tryd.sizeOf3
  v3 := Tryd.zeroValue3
  t4 := Tryd.underlying4
  a4 := Tryd.isAgg4
  z4 := Tryd.sizeOf4
  v4 := Tryd.zeroValue4
  t5 := Tryd.underlying5
  a5 := Tryd.isAgg5
  z5 := Tryd.sizeOf5
  v5 := Tryd.zeroValue5
  t9 := Tryd.underlying9
  a9 := Tryd.isAgg9
  z9 := Tryd.sizeOf9
  v9 := Tryd.zeroValue9
  t20 := Tryd.underlying20
  a20 := Tryd.isAgg20
  z20 := Tryd.sizeOf20
  v20 := Tryd.zeroValue20
  t37 := Tryd.underlying33
  a37 := Tryd.isAgg33
  z37 := Tryd.sizeOf33
  v37 := Tryd.zeroValue33
  t46 := Tryd.underlying44
  a46 := Tryd.isAgg44
  z46 := Tryd.sizeOf44
  v46 := Tryd.zeroValue44
  t51 := Tryd.underlying111
  a51 := Tryd.isAgg111
  z51 := Tryd.sizeOf111
  v51 := Tryd.zeroValue111
  t53 := Tryd.underlying43
  a53 := Tryd.isAgg43
  z53 := Tryd.sizeOf43
  v53 := Tryd.zeroValue43
  t171 := Tryd.underlying120
  a171 := Tryd.isAgg120
  z171 := Tryd.sizeOf120
  v171 := Tryd.zeroValue120
  t173 := Tryd.underlying123
  a173 := Tryd.isAgg123
  z173 := Tryd.sizeOf123
  v173 := Tryd.zeroValue123
  t212 := Tryd.underlying130
  a212 := Tryd.isAgg130
  z212 := Tryd.sizeOf130
  v212 := Tryd.zeroValue130
  t213 := Tryd.underlying131
  a213 := Tryd.isAgg131
  z213 := Tryd.sizeOf131
  t232 := Tryd.underlying135
  a232 := Tryd.isAgg135
  z232 := Tryd.sizeOf135
  v232 := Tryd.zeroValue135
  t233 := Tryd.underlying136
  a233 := Tryd.isAgg136
  z233 := Tryd.sizeOf136
  v233 := Tryd.zeroValue136
  g17 := by kernel_rfl
  g18 := by kernel_rfl
  g19 := by kernel_rfl }
open Go.RowKit Go.Sort Go.Lib in
/-- THE ROAD WITHOUT THE TABLE: 0 <= i < 100: two constants are read, nothing is laid: no premise on the world, and the world is as it was. (LAID: no walk: one application.) -/
theorem Tryd.internal_strconv_FormatInt_10_small (i : Nat) (hi : i < 100) (w : World) :
    Calls Tryd.prog 79 #[.int .i64 i, .int .i64 10] w fun e w' => e = .returned (.string ⟨(Lib.decDigits i).toArray⟩) ∧ w' = w := Any.internal_strconv_FormatInt_10_small Tryd.lays246 i hi w
def Tryd.laysM243_ren : Go.Shelf.Ren := ⟨fun | 243 => 61 | 246 => 79 | 283 => 88 | 284 => 89 | 285 => 90 | 286 => 91 | 129 => 95 | 317 => 94 | 318 => 96 | 319 => 97 | 320 => 98 | 337 => 99 | 338 => 100 | n => n, fun | 3 => 3 | 9 => 9 | 2 => 2 | 4 => 4 | 171 => 120 | 0 => 0 | 53 => 43 | 37 => 33 | 5 => 5 | 173 => 123 | 212 => 130 | 51 => 111 | 20 => 20 | 213 => 131 | 46 => 44 | 232 => 135 | 233 => 136 | n => n, fun | 17 => 5 | 18 => 6 | 19 => 7 | n => n⟩
theorem Tryd.laysM243 : Go.Proofs.LaysM.n243 Tryd.prog Tryd.laysM243_ren := {
  mixed := by kernel_rfl
  f129 := Tryd.func95.trans (congrArg some (by kernel_rfl))
  f243 := Tryd.func61.trans (congrArg some (by kernel_rfl))
  f246 := Tryd.func79.trans (congrArg some (by kernel_rfl))
  f283 := Tryd.func88.trans (congrArg some (by kernel_rfl))
  f284 := Tryd.func89.trans (congrArg some (by kernel_rfl))
  f285 := Tryd.func90.trans (congrArg some (by kernel_rfl))
  f286 := Tryd.func91.trans (congrArg some (by kernel_rfl))
  f317 := Tryd.func94.trans (congrArg some (by kernel_rfl))
  f318 := Tryd.func96.trans (congrArg some (by kernel_rfl))
  f319 := Tryd.func97.trans (congrArg some (by kernel_rfl))
  f320 := Tryd.func98.trans (congrArg some (by kernel_rfl))
  f337 := Tryd.func99.trans (congrArg some (by kernel_rfl))
  f338 := Tryd.func100.trans (congrArg some (by kernel_rfl))
  t0 := Tryd.underlying0
  a0 := Tryd.isAgg0
  z0 := Tryd.sizeOf0
  v0 := Tryd.zeroValue0
  t2 := Tryd.underlying2
  a2 := Tryd.isAgg2
  z2 := Tryd.sizeOf2
  v2 := Tryd.zeroValue2
  t3 := Tryd.underlying3
  a3 := Tryd.isAgg3
  z3 := Tryd.sizeOf3
  v3 := Tryd.zeroValue3
  t4 := Tryd.underlying4
  a4 := Tryd.isAgg4
  z4 := Tryd.sizeOf4
  v4 := Tryd.zeroValue4
  t5 := Tryd.underlying5
  a5 := Tryd.isAgg5
  z5 := Tryd.sizeOf5
  v5 := Tryd.zeroValue5
  t9 := Tryd.underlying9
  a9 := Tryd.isAgg9
  z9 := Tryd.sizeOf9
  v9 := Tryd.zeroValue9
  t20 := Tryd.underlying20
  a20 := Tryd.isAgg20
  z20 := Tryd.sizeOf20
  v20 := Tryd.zeroValue20
  t37 := Tryd.underlying33
  a37 := Tryd.isAgg33
  z37 := Tryd.sizeOf33
  v37 := Tryd.zeroValue33
  t46 := Tryd.underlying44
  a46 := Tryd.isAgg44
  z46 := Tryd.sizeOf44
  v46 := Tryd.zeroValue44
  t51 := Tryd.underlying111
  a51 := Tryd.isAgg111
  z51 := Tryd.sizeOf111
  v51 := Tryd.zeroValue111
  t53 := Tryd.underlying43
  a53 := Tryd.isAgg43
  z53 := Tryd.sizeOf43
  v53 := Tryd.zeroValue43
  t171 := Tryd.underlying120
  a171 := Tryd.isAgg120
  z171 := Tryd.sizeOf120
  v171 := Tryd.zeroValue120
  t173 := Tryd.underlying123
  a173 := Tryd.isAgg123
  z173 := Tryd.sizeOf123
  v173 := Tryd.zeroValue123
  t212 := Tryd.underlying130
  a212 := Tryd.isAgg130
  z212 := Tryd.sizeOf130
  v212 := Tryd.zeroValue130
  t213 := Tryd.underlying131
  a213 := Tryd.isAgg131
  z213 := Tryd.sizeOf131
  t232 := Tryd.underlying135
  a232 := Tryd.isAgg135
  z232 := Tryd.sizeOf135
  v232 := Tryd.zeroValue135
  t233 := Tryd.underlying136
  a233 := Tryd.isAgg136
  z233 := Tryd.sizeOf136
  v233 := Tryd.zeroValue136
  g17 := by kernel_rfl
  g18 := by kernel_rfl
  g19 := by kernel_rfl
  i0 := by kernel_rfl
  i2 := by kernel_rfl
  i3 := by kernel_rfl
  i4 := by kernel_rfl
  i5 := by kernel_rfl
  i9 := by kernel_rfl
  i20 := by kernel_rfl
  i37 := by kernel_rfl
  i46 := by kernel_rfl
  i51 := by kernel_rfl
  i53 := by kernel_rfl
  i171 := by kernel_rfl
  i173 := by kernel_rfl
  i212 := by kernel_rfl
  i232 := by kernel_rfl
  i233 := by kernel_rfl
  m17 := by kernel_rfl
  m18 := by kernel_rfl
  m19 := by kernel_rfl }
open Go.RowKit Go.Sort Go.Lib in
/-- internal/strconv.Itoa: "Itoa is equivalent to FormatInt(int64(i), 10).": i's decimal numeral, for every int. (LAID: no walk: one application.) -/
theorem Tryd.internal_strconv_Itoa (n : Int) (h0 : -9223372036854775808 ≤ n) (h1 : n ≤ 9223372036854775807) (w : World) (htab : Lib.TabIs Tryd.prog w "internal/strconv.uint64pow10" .u64 Lib.pow10Tab) :
    Calls Tryd.prog 61 #[.int .i64 n] w fun e w' => e = .returned (.string ⟨(Lib.itoa n).toArray⟩) ∧ ∃ k os, w' = grow (w.drewN k) os := Any.internal_strconv_Itoa Tryd.laysM243 n h0 h1 w htab
def Tryd.lays243_ren : Go.Shelf.Ren := ⟨fun | 243 => 61 | 246 => 79 | 283 => 88 | 284 => 89 | 285 => 90 | 286 => 91 | 129 => 95 | 317 => 94 | 318 => 96 | 319 => 97 | 320 => 98 | 337 => 99 | 338 => 100 | n => n, fun | 3 => 3 | 9 => 9 | 2 => 2 | 4 => 4 | 171 => 120 | 0 => 0 | 53 => 43 | 37 => 33 | 5 => 5 | 173 => 123 | 212 => 130 | 51 => 111 | 20 => 20 | 213 => 131 | 46 => 44 | 232 => 135 | 233 => 136 | n => n, fun | 17 => 5 | 18 => 6 | 19 => 7 | n => n⟩
theorem Tryd.lays243 : Go.Proofs.Lays.n243 Tryd.prog Tryd.lays243_ren := {
  mixed := by kernel_rfl
  f129 := Tryd.func95.trans (congrArg some (by kernel_rfl))
  f243 := Tryd.func61.trans (congrArg some (by kernel_rfl))
  f246 := Tryd.func79.trans (congrArg some (by kernel_rfl))
  f283 := Tryd.func88.trans (congrArg some (by kernel_rfl))
  f284 := Tryd.func89.trans (congrArg some (by kernel_rfl))
  f285 := Tryd.func90.trans (congrArg some (by kernel_rfl))
  f286 := Tryd.func91.trans (congrArg some (by kernel_rfl))
  f317 := Tryd.func94.trans (congrArg some (by kernel_rfl))
  f318 := Tryd.func96.trans (congrArg some (by kernel_rfl))
  f319 := Tryd.func97.trans (congrArg some (by kernel_rfl))
  f320 := Tryd.func98.trans (congrArg some (by kernel_rfl))
  f337 := Tryd.func99.trans (congrArg some (by kernel_rfl))
  f338 := Tryd.func100.trans (congrArg some (by kernel_rfl))
  t0 := Tryd.underlying0
  a0 := Tryd.isAgg0
  z0 := Tryd.sizeOf0
  v0 := Tryd.zeroValue0
  t2 := Tryd.underlying2
  a2 := Tryd.isAgg2
  z2 := Tryd.sizeOf2
  v2 := Tryd.zeroValue2
  t3 := Tryd.underlying3
  a3 := Tryd.isAgg3
  z3 := Tryd.sizeOf3
  v3 := Tryd.zeroValue3
  t4 := Tryd.underlying4
  a4 := Tryd.isAgg4
  z4 := Tryd.sizeOf4
  v4 := Tryd.zeroValue4
  t5 := Tryd.underlying5
  a5 := Tryd.isAgg5
  z5 := Tryd.sizeOf5
  v5 := Tryd.zeroValue5
  t9 := Tryd.underlying9
  a9 := Tryd.isAgg9
  z9 := Tryd.sizeOf9
  v9 := Tryd.zeroValue9
  t20 := Tryd.underlying20
  a20 := Tryd.isAgg20
  z20 := Tryd.sizeOf20
  v20 := Tryd.zeroValue20
  t37 := Tryd.underlying33
  a37 := Tryd.isAgg33
  z37 := Tryd.sizeOf33
  v37 := Tryd.zeroValue33
  t46 := Tryd.underlying44
  a46 := Tryd.isAgg44
  z46 := Tryd.sizeOf44
  v46 := Tryd.zeroValue44
  t51 := Tryd.underlying111
  a51 := Tryd.isAgg111
  z51 := Tryd.sizeOf111
  v51 := Tryd.zeroValue111
  t53 := Tryd.underlying43
  a53 := Tryd.isAgg43
  z53 := Tryd.sizeOf43
  v53 := Tryd.zeroValue43
  t171 := Tryd.underlying120
  a171 := Tryd.isAgg120
  z171 := Tryd.sizeOf120
  v171 := Tryd.zeroValue120
  t173 := Tryd.underlying123
  a173 := Tryd.isAgg123
  z173 := Tryd.sizeOf123
  v173 := Tryd.zeroValue123
  t212 := Tryd.underlying130
  a212 := Tryd.isAgg130
  z212 := Tryd.sizeOf130
  v212 := Tryd.zeroValue130
  t213 := Tryd.underlying131
  a213 := Tryd.isAgg131
  z213 := Tryd.sizeOf131
  t232 := Tryd.underlying135
  a232 := Tryd.isAgg135
  z232 := Tryd.sizeOf135
  v232 := Tryd.zeroValue135
  t233 := Tryd.underlying136
  a233 := Tryd.isAgg136
  z233 := Tryd.sizeOf136
  v233 := Tryd.zeroValue136
  g17 := by kernel_rfl
  g18 := by kernel_rfl
  g19 := by kernel_rfl }
open Go.RowKit Go.Sort Go.Lib in
/-- THE ROAD WITHOUT THE TABLE: 0 <= i < 100. (LAID: no walk: one application.) -/
theorem Tryd.internal_strconv_Itoa_small (i : Nat) (hi : i < 100) (w : World) :
    Calls Tryd.prog 61 #[.int .i64 i] w fun e w' => e = .returned (.string ⟨(Lib.decDigits i).toArray⟩) ∧ w' = w := Any.internal_strconv_Itoa_small Tryd.lays243 i hi w
def Tryd.laysM171_ren : Go.Shelf.Ren := ⟨fun | 171 => 45 | 243 => 61 | 246 => 79 | 283 => 88 | 284 => 89 | 285 => 90 | 286 => 91 | 129 => 95 | 317 => 94 | 318 => 96 | 319 => 97 | 320 => 98 | 337 => 99 | 338 => 100 | n => n, fun | 3 => 3 | 9 => 9 | 2 => 2 | 4 => 4 | 171 => 120 | 0 => 0 | 53 => 43 | 37 => 33 | 5 => 5 | 173 => 123 | 212 => 130 | 51 => 111 | 20 => 20 | 213 => 131 | 46 => 44 | 232 => 135 | 233 => 136 | n => n, fun | 17 => 5 | 18 => 6 | 19 => 7 | n => n⟩
theorem Tryd.laysM171 : Go.Proofs.LaysM.n171 Tryd.prog Tryd.laysM171_ren := {
  mixed := by kernel_rfl
  f129 := Tryd.func95.trans (congrArg some (by kernel_rfl))
  f171 := Tryd.func45.trans (congrArg some (by kernel_rfl))
  f243 := Tryd.func61.trans (congrArg some (by kernel_rfl))
  f246 := Tryd.func79.trans (congrArg some (by kernel_rfl))
  f283 := Tryd.func88.trans (congrArg some (by kernel_rfl))
  f284 := Tryd.func89.trans (congrArg some (by kernel_rfl))
  f285 := Tryd.func90.trans (congrArg some (by kernel_rfl))
  f286 := Tryd.func91.trans (congrArg some (by kernel_rfl))
  f317 := Tryd.func94.trans (congrArg some (by kernel_rfl))
  f318 := Tryd.func96.trans (congrArg some (by kernel_rfl))
  f319 := Tryd.func97.trans (congrArg some (by kernel_rfl))
  f320 := Tryd.func98.trans (congrArg some (by kernel_rfl))
  f337 := Tryd.func99.trans (congrArg some (by kernel_rfl))
  f338 := Tryd.func100.trans (congrArg some (by kernel_rfl))
  t0 := Tryd.underlying0
  a0 := Tryd.isAgg0
  z0 := Tryd.sizeOf0
  v0 := Tryd.zeroValue0
  t2 := Tryd.underlying2
  a2 := Tryd.isAgg2
  z2 := Tryd.sizeOf2
  v2 := Tryd.zeroValue2
  t3 := Tryd.underlying3
  a3 := Tryd.isAgg3
  z3 := Tryd.sizeOf3
  v3 := Tryd.zeroValue3
  t4 := Tryd.underlying4
  a4 := Tryd.isAgg4
  z4 := Tryd.sizeOf4
  v4 := Tryd.zeroValue4
  t5 := Tryd.underlying5
  a5 := Tryd.isAgg5
  z5 := Tryd.sizeOf5
  v5 := Tryd.zeroValue5
  t9 := Tryd.underlying9
  a9 := Tryd.isAgg9
  z9 := Tryd.sizeOf9
  v9 := Tryd.zeroValue9
  t20 := Tryd.underlying20
  a20 := Tryd.isAgg20
  z20 := Tryd.sizeOf20
  v20 := Tryd.zeroValue20
  t37 := Tryd.underlying33
  a37 := Tryd.isAgg33
  z37 := Tryd.sizeOf33
  v37 := Tryd.zeroValue33
  t46 := Tryd.underlying44
  a46 := Tryd.isAgg44
  z46 := Tryd.sizeOf44
  v46 := Tryd.zeroValue44
  t51 := Tryd.underlying111
  a51 := Tryd.isAgg111
  z51 := Tryd.sizeOf111
  v51 := Tryd.zeroValue111
  t53 := Tryd.underlying43
  a53 := Tryd.isAgg43
  z53 := Tryd.sizeOf43
  v53 := Tryd.zeroValue43
  t171 := Tryd.underlying120
  a171 := Tryd.isAgg120
  z171 := Tryd.sizeOf120
  v171 := Tryd.zeroValue120
  t173 := Tryd.underlying123
  a173 := Tryd.isAgg123
  z173 := Tryd.sizeOf123
  v173 := Tryd.zeroValue123
  t212 := Tryd.underlying130
  a212 := Tryd.isAgg130
  z212 := Tryd.sizeOf130
  v212 := Tryd.zeroValue130
  t213 := Tryd.underlying131
  a213 := Tryd.isAgg131
  z213 := Tryd.sizeOf131
  t232 := Tryd.underlying135
  a232 := Tryd.isAgg135
  z232 := Tryd.sizeOf135
  v232 := Tryd.zeroValue135
  t233 := Tryd.underlying136
  a233 := Tryd.isAgg136
  z233 := Tryd.sizeOf136
  v233 := Tryd.zeroValue136
  g17 := by kernel_rfl
  g18 := by kernel_rfl
  g19 := by kernel_rfl
  i0 := by kernel_rfl
  i2 := by kernel_rfl
  i3 := by kernel_rfl
  i4 := by kernel_rfl
  i5 := by kernel_rfl
  i9 := by kernel_rfl
  i20 := by kernel_rfl
  i37 := by kernel_rfl
  i46 := by kernel_rfl
  i51 := by kernel_rfl
  i53 := by kernel_rfl
  i171 := by kernel_rfl
  i173 := by kernel_rfl
  i212 := by kernel_rfl
  i232 := by kernel_rfl
  i233 := by kernel_rfl
  m17 := by kernel_rfl
  m18 := by kernel_rfl
  m19 := by kernel_rfl }
open Go.RowKit Go.Sort Go.Lib in
/-- strconv.Itoa: "Itoa is equivalent to FormatInt(int64(i), 10).": i's DECIMAL NUMERAL ('Lib.itoa': a '-' where i is negative, then the digits), FOR EVERY int. The world behind the call: the world before it, new blocks behind the heap (the library's 'var a [24]byte'), draws. (LAID: no walk: one application.) -/
theorem Tryd.strconv_Itoa (n : Int) (h0 : -9223372036854775808 ≤ n) (h1 : n ≤ 9223372036854775807) (w : World) (htab : Lib.TabIs Tryd.prog w "internal/strconv.uint64pow10" .u64 Lib.pow10Tab) :
    Calls Tryd.prog 45 #[.int .i64 n] w fun e w' => e = .returned (.string ⟨(Lib.itoa n).toArray⟩) ∧ ∃ k os, w' = grow (w.drewN k) os := Any.strconv_Itoa Tryd.laysM171 n h0 h1 w htab
def Tryd.lays171_ren : Go.Shelf.Ren := ⟨fun | 171 => 45 | 243 => 61 | 246 => 79 | 283 => 88 | 284 => 89 | 285 => 90 | 286 => 91 | 129 => 95 | 317 => 94 | 318 => 96 | 319 => 97 | 320 => 98 | 337 => 99 | 338 => 100 | n => n, fun | 3 => 3 | 9 => 9 | 2 => 2 | 4 => 4 | 171 => 120 | 0 => 0 | 53 => 43 | 37 => 33 | 5 => 5 | 173 => 123 | 212 => 130 | 51 => 111 | 20 => 20 | 213 => 131 | 46 => 44 | 232 => 135 | 233 => 136 | n => n, fun | 17 => 5 | 18 => 6 | 19 => 7 | n => n⟩
theorem Tryd.lays171 : Go.Proofs.Lays.n171 Tryd.prog Tryd.lays171_ren := {
  mixed := by kernel_rfl
  f129 := Tryd.func95.trans (congrArg some (by kernel_rfl))
  f171 := Tryd.func45.trans (congrArg some (by kernel_rfl))
  f243 := Tryd.func61.trans (congrArg some (by kernel_rfl))
  f246 := Tryd.func79.trans (congrArg some (by kernel_rfl))
  f283 := Tryd.func88.trans (congrArg some (by kernel_rfl))
  f284 := Tryd.func89.trans (congrArg some (by kernel_rfl))
  f285 := Tryd.func90.trans (congrArg some (by kernel_rfl))
  f286 := Tryd.func91.trans (congrArg some (by kernel_rfl))
  f317 := Tryd.func94.trans (congrArg some (by kernel_rfl))
  f318 := Tryd.func96.trans (congrArg some (by kernel_rfl))
  f319 := Tryd.func97.trans (congrArg some (by kernel_rfl))
  f320 := Tryd.func98.trans (congrArg some (by kernel_rfl))
  f337 := Tryd.func99.trans (congrArg some (by kernel_rfl))
  f338 := Tryd.func100.trans (congrArg some (by kernel_rfl))
  t0 := Tryd.underlying0
  a0 := Tryd.isAgg0
  z0 := Tryd.sizeOf0
  v0 := Tryd.zeroValue0
  t2 := Tryd.underlying2
  a2 := Tryd.isAgg2
  z2 := Tryd.sizeOf2
  v2 := Tryd.zeroValue2
  t3 := Tryd.underlying3
  a3 := Tryd.isAgg3
  z3 := Tryd.sizeOf3
  v3 := Tryd.zeroValue3
  t4 := Tryd.underlying4
  a4 := Tryd.isAgg4
  z4 := Tryd.sizeOf4
  v4 := Tryd.zeroValue4
  t5 := Tryd.underlying5
  a5 := Tryd.isAgg5
  z5 := Tryd.sizeOf5
  v5 := Tryd.zeroValue5
  t9 := Tryd.underlying9
  a9 := Tryd.isAgg9
  z9 := Tryd.sizeOf9
  v9 := Tryd.zeroValue9
  t20 := Tryd.underlying20
  a20 := Tryd.isAgg20
  z20 := Tryd.sizeOf20
  v20 := Tryd.zeroValue20
  t37 := Tryd.underlying33
  a37 := Tryd.isAgg33
  z37 := Tryd.sizeOf33
  v37 := Tryd.zeroValue33
  t46 := Tryd.underlying44
  a46 := Tryd.isAgg44
  z46 := Tryd.sizeOf44
  v46 := Tryd.zeroValue44
  t51 := Tryd.underlying111
  a51 := Tryd.isAgg111
  z51 := Tryd.sizeOf111
  v51 := Tryd.zeroValue111
  t53 := Tryd.underlying43
  a53 := Tryd.isAgg43
  z53 := Tryd.sizeOf43
  v53 := Tryd.zeroValue43
  t171 := Tryd.underlying120
  a171 := Tryd.isAgg120
  z171 := Tryd.sizeOf120
  v171 := Tryd.zeroValue120
  t173 := Tryd.underlying123
  a173 := Tryd.isAgg123
  z173 := Tryd.sizeOf123
  v173 := Tryd.zeroValue123
  t212 := Tryd.underlying130
  a212 := Tryd.isAgg130
  z212 := Tryd.sizeOf130
  v212 := Tryd.zeroValue130
  t213 := Tryd.underlying131
  a213 := Tryd.isAgg131
  z213 := Tryd.sizeOf131
  t232 := Tryd.underlying135
  a232 := Tryd.isAgg135
  z232 := Tryd.sizeOf135
  v232 := Tryd.zeroValue135
  t233 := Tryd.underlying136
  a233 := Tryd.isAgg136
  z233 := Tryd.sizeOf136
  v233 := Tryd.zeroValue136
  g17 := by kernel_rfl
  g18 := by kernel_rfl
  g19 := by kernel_rfl }
open Go.RowKit Go.Sort Go.Lib in
/-- THE ROAD WITHOUT THE TABLE: 0 <= i < 100: NO PREMISE ON THE WORLD, AND THE WORLD IS AS IT WAS: a row that keeps its argument in that range need list no table ('laid = []'). (LAID: no walk: one application.) -/
theorem Tryd.strconv_Itoa_small (i : Nat) (hi : i < 100) (w : World) :
    Calls Tryd.prog 45 #[.int .i64 i] w fun e w' => e = .returned (.string ⟨(Lib.decDigits i).toArray⟩) ∧ w' = w := Any.strconv_Itoa_small Tryd.lays171 i hi w
open Go.RowKit in
/-- internal/strconv.Atoi, at a string of 1 to 18 bytes THAT IS NO DECIMAL NUMERAL: 0, AND ErrSyntax (the package's own error number 2). The world behind the call: as it was, or with the one new row that '[]byte(s)' lays. (LAID: no walk: one application.) -/
theorem Tryd.internal_strconv_Atoi_err (s : ByteArray) (hl0 : 1 ≤ s.size) (hl : s.size ≤ 18) (h : Lib.atoi s.data.toList = none) (w : World) :
    Calls Tryd.prog 59 #[.string s] w fun e w' => e = .returned (.tuple #[.int .i64 0, (.iface 97 (.int .i64 2))]) ∧ (w' = w ∨ ∃ t, w' = Lib.bytesWorld w 5 t) := Any.internal_strconv_Atoi_err Tryd.lays244 s hl0 hl h w
def Tryd.lays247_ren : Go.Shelf.Ren := ⟨fun | 247 => 74 | 287 => 85 | 321 => 92 | 322 => 93 | n => n, fun | 9 => 9 | 3 => 3 | 2 => 2 | 75 => 71 | 4 => 4 | 167 => 97 | 5 => 5 | 53 => 43 | 175 => 114 | 46 => 44 | 37 => 33 | 0 => 0 | 21 => 21 | 80 => 88 | n => n, fun | n => n⟩
theorem Tryd.lays247 : Go.Proofs.Lays.n247 Tryd.prog Tryd.lays247_ren := {
  mixed := by kernel_rfl
  f247 := Tryd.func74.trans (congrArg some (by kernel_rfl))
  f287 := Tryd.func85.trans (congrArg some (by kernel_rfl))
  f321 := Tryd.func92.trans (congrArg some (by kernel_rfl))
  f322 := Tryd.func93.trans (congrArg some (by kernel_rfl))
  t0 := Tryd.underlying0
  a0 := Tryd.isAgg0
  z0 := Tryd.sizeOf0
  v0 := Tryd.zeroValue0
  t2 := Tryd.underlying2
  a2 := Tryd.isAgg2
  z2 := Tryd.sizeOf2
  v2 := Tryd.zeroValue2
  t3 := Tryd.underlying3
  a3 := Tryd.isAgg3
  z3 := Tryd.sizeOf3
  v3 := Tryd.zeroValue3
  t4 := Tryd.underlying4
  a4 := Tryd.isAgg4
  z4 := Tryd.sizeOf4
  v4 := Tryd.zeroValue4
  t5 := Tryd.underlying5
  a5 := Tryd.isAgg5
  z5 := Tryd.sizeOf5
  v5 := Tryd.zeroValue5
  t9 := Tryd.underlying9
  a9 := Tryd.isAgg9
  z9 := Tryd.sizeOf9
  v9 := Tryd.zeroValue9
  t21 := Tryd.underlying21
  a21 := Tryd.isAgg21
  z21 := Tryd.sizeOf21
  v21 := Tryd.zeroValue21
  t37 := Tryd.underlying33
  a37 := Tryd.isAgg33
  z37 := Tryd.sizeOf33
  v37 := Tryd.zeroValue33
  t46 := Tryd.underlying44
  a46 := Tryd.isAgg44
  z46 := Tryd.sizeOf44
  v46 := Tryd.zeroValue44
  t53 := Tryd.underlying43
  a53 := Tryd.isAgg43
  z53 := Tryd.sizeOf43
  v53 := Tryd.zeroValue43
  t75 := Tryd.underlying71
  a75 := Tryd.isAgg71
  z75 := Tryd.sizeOf71
  v75 := Tryd.zeroValue71
  t167 := Tryd.underlying97
  a167 := Tryd.isAgg97
  z167 := Tryd.sizeOf97
  v167 := Tryd.zeroValue97
  t175 := Tryd.underlying114
  a175 := Tryd.isAgg114
  z175 := Tryd.sizeOf114
  v175 := Tryd.zeroValue114 }
open Go.RowKit in
/-- internal/strconv.ParseInt at "": 'if s == "" { return 0, ErrSyntax }'. The world is as it was. (LAID: no walk: one application.) -/
theorem Tryd.internal_strconv_ParseInt_empty (base bits : Int) (w : World) :
    Calls Tryd.prog 74 #[.string ⟨#[]⟩, .int .i64 base, .int .i64 bits] w fun e w' => e = .returned (.tuple #[.int .i64 0, (.iface 97 (.int .i64 2))]) ∧ w' = w := Any.internal_strconv_ParseInt_empty Tryd.lays247 base bits w
open Go.RowKit in
/-- internal/strconv.Atoi at "". (LAID: no walk: one application.) -/
theorem Tryd.internal_strconv_Atoi_empty (w : World) :
    Calls Tryd.prog 59 #[.string ⟨#[]⟩] w fun e w' => e = .returned (.tuple #[.int .i64 0, (.iface 97 (.int .i64 2))]) ∧ w' = w := Any.internal_strconv_Atoi_empty Tryd.lays244 w
open Go.RowKit in
/-- internal/strconv.Atoi, AT EVERY STRING OF AT MOST 18 BYTES THAT IS NO DECIMAL NUMERAL: 0, and ErrSyntax. (LAID: no walk: one application.) -/
theorem Tryd.internal_strconv_Atoi_fail (s : ByteArray) (hl : s.size ≤ 18) (h : Lib.atoi s.data.toList = none) (w : World) :
    Calls Tryd.prog 59 #[.string s] w fun e w' => e = .returned (.tuple #[.int .i64 0, (.iface 97 (.int .i64 2))]) ∧ (w' = w ∨ ∃ t, w' = Lib.bytesWorld w 5 t) := Any.internal_strconv_Atoi_fail Tryd.lays244 s hl h w
def Tryd.laysM316_ren : Go.Shelf.Ren := ⟨fun | 316 => 86 | n => n, fun | 9 => 9 | 3 => 3 | 4 => 4 | 37 => 33 | 0 => 0 | 127 => 95 | 5 => 5 | n => n, fun | n => n⟩
theorem Tryd.laysM316 : Go.Proofs.LaysM.n316 Tryd.prog Tryd.laysM316_ren := {
  mixed := by kernel_rfl
  f316 := Tryd.func86.trans (congrArg some (by kernel_rfl))
  t0 := Tryd.underlying0
  a0 := Tryd.isAgg0
  z0 := Tryd.sizeOf0
  v0 := Tryd.zeroValue0
  t3 := Tryd.underlying3
  a3 := Tryd.isAgg3
  z3 := Tryd.sizeOf3
  v3 := Tryd.zeroValue3
  t4 := Tryd.underlying4
  a4 := Tryd.isAgg4
  z4 := Tryd.sizeOf4
  v4 := Tryd.zeroValue4
  t9 := Tryd.underlying9
  a9 := Tryd.isAgg9
  z9 := Tryd.sizeOf9
  v9 := Tryd.zeroValue9
  t37 := Tryd.underlying33
  a37 := Tryd.isAgg33
  z37 := Tryd.sizeOf33
  v37 := Tryd.zeroValue33
  t127 := Tryd.underlying95
  a127 := Tryd.isAgg95
  z127 := Tryd.sizeOf95
  v127 := Tryd.zeroValue95
  t5 := Tryd.underlying5
  a5 := Tryd.isAgg5
  z5 := Tryd.sizeOf5
  v5 := Tryd.zeroValue5
  i0 := by kernel_rfl
  i3 := by kernel_rfl
  i4 := by kernel_rfl
  i5 := by kernel_rfl
  i9 := by kernel_rfl
  i37 := by kernel_rfl
  i127 := by kernel_rfl }
open Go.RowKit in
/-- internal/stringslite.Clone (what strings.Clone calls): "Clone returns a fresh copy of s.": THE SAME BYTES. Of what was there nothing has turned (a new row is laid, and frozen, where s is not empty). (LAID: no walk: one application.) -/
theorem Tryd.stringslite_Clone (s : ByteArray) (w : World) (hlim : s.size ≤ 281474976710656) :
    Calls Tryd.prog 86 #[.string s] w fun e w' => e = .returned (.string s) ∧ Below w.heap.size w w' := Any.stringslite_Clone Tryd.laysM316 s w hlim
def Tryd.laysM279_ren : Go.Shelf.Ren := ⟨fun | 279 => 75 | 316 => 86 | n => n, fun | 9 => 9 | 168 => 100 | 75 => 71 | 210 => 118 | 3 => 3 | 4 => 4 | 37 => 33 | 0 => 0 | 127 => 95 | 80 => 88 | 5 => 5 | n => n, fun | 15 => 3 | n => n⟩
theorem Tryd.laysM279 : Go.Proofs.LaysM.n279 Tryd.prog Tryd.laysM279_ren := {
  mixed := by kernel_rfl
  f279 := Tryd.func75.trans (congrArg some (by kernel_rfl))
  f316 := Tryd.func86.trans (congrArg some (by kernel_rfl))
  t0 := Tryd.underlying0
  a0 := Tryd.isAgg0
  z0 := Tryd.sizeOf0
  v0 := Tryd.zeroValue0
  t3 := Tryd.underlying3
  a3 := Tryd.isAgg3
  z3 := Tryd.sizeOf3
  v3 := Tryd.zeroValue3
  t4 := Tryd.underlying4
  a4 := Tryd.isAgg4
  z4 := Tryd.sizeOf4
  v4 := Tryd.zeroValue4
  t9 := Tryd.underlying9
  a9 := Tryd.isAgg9
  z9 := Tryd.sizeOf9
  v9 := Tryd.zeroValue9
  t37 := Tryd.underlying33
  a37 := Tryd.isAgg33
  z37 := Tryd.sizeOf33
  v37 := Tryd.zeroValue33
  t75 := Tryd.underlying71
  a75 := Tryd.isAgg71
  z75 := Tryd.sizeOf71
  v75 := Tryd.zeroValue71
  t127 := Tryd.underlying95
  a127 := Tryd.isAgg95
  z127 := Tryd.sizeOf95
  v127 := Tryd.zeroValue95
  t168 := Tryd.underlying100
  a168 := Tryd.isAgg100
  z168 := Tryd.sizeOf100
  v168 := Tryd.zeroValue100
  t210 := Tryd.underlying118
  a210 := Tryd.isAgg118
  z210 := Tryd.sizeOf118
  v210 := Tryd.zeroValue118
  g15 := by kernel_rfl
  t5 := Tryd.underlying5
  a5 := Tryd.isAgg5
  z5 := Tryd.sizeOf5
  v5 := Tryd.zeroValue5
  t80 := Tryd.underlying88
  a80 := Tryd.isAgg88
  z80 := Tryd.sizeOf88
  v80 := Tryd.zeroValue88
  i0 := by kernel_rfl
  i3 := by kernel_rfl
  i4 := by kernel_rfl
  i5 := by kernel_rfl
  i9 := by kernel_rfl
  i37 := by kernel_rfl
  i75 := by kernel_rfl
  i80 := by kernel_rfl
  i127 := by kernel_rfl
  i168 := by kernel_rfl
  i210 := by kernel_rfl
  m15 := by kernel_rfl }
open Go.RowKit in
/-- strconv.syntaxError: '&NumError{fn, stringslite.Clone(str), ErrSyntax}': A POINTER TO A NEW BLOCK that holds fn, str's bytes, and what the variable ErrSyntax holds. Of what was there nothing has turned. (LAID: no walk: one application.) -/
theorem Tryd.strconv_syntaxError (fn s : ByteArray) (ev : Value) (w : World) (hlim : s.size ≤ 281474976710656) (hv : w.cell? ⟨3, 0, none⟩ = some ev) (hev : ev = .nilIface ∨ ∃ te pe, ev = .iface te pe) :
    Calls Tryd.prog 75 #[.string fn, .string s] w fun e w' => ∃ N, e = .returned (.pointer (some ⟨N, 0, none⟩)) ∧ w.heap.size ≤ N ∧ w'.heap[N]? = some (.cells #[.string fn, .string s, ev] 118 (0, 0)) ∧ Below w.heap.size w w' := Any.strconv_syntaxError Tryd.laysM279 fn s ev w hlim hv hev
def Tryd.laysC245_ren : Go.Shelf.Ren := ⟨fun | 245 => 60 | 279 => 75 | 280 => 76 | 281 => 77 | 282 => 78 | 316 => 86 | 171 => 45 | 205 => 87 | 243 => 61 | 246 => 79 | 283 => 88 | 284 => 89 | 285 => 90 | 286 => 91 | 129 => 95 | 317 => 94 | 318 => 96 | 319 => 97 | 320 => 98 | 337 => 99 | 338 => 100 | n => n, fun | 9 => 9 | 3 => 3 | 75 => 71 | 167 => 97 | 4 => 4 | 168 => 100 | 210 => 118 | 37 => 33 | 0 => 0 | 127 => 95 | 145 => 128 | 143 => 126 | 2 => 2 | 171 => 120 | 53 => 43 | 5 => 5 | 173 => 123 | 212 => 130 | 51 => 111 | 20 => 20 | 213 => 131 | 46 => 44 | 232 => 135 | 233 => 136 | 80 => 88 | n => n, fun | 15 => 3 | 16 => 4 | 17 => 5 | 18 => 6 | 19 => 7 | n => n⟩
theorem Tryd.laysC245 : Go.Proofs.LaysC.n245 Tryd.prog Tryd.laysC245_ren := {
  mixed := by kernel_rfl
  f129 := Tryd.func95.trans (congrArg some (by kernel_rfl))
  f171 := Tryd.func45.trans (congrArg some (by kernel_rfl))
  f205 := Tryd.func87.trans (congrArg some (by kernel_rfl))
  f243 := Tryd.func61.trans (congrArg some (by kernel_rfl))
  f245 := Tryd.func60.trans (congrArg some (by kernel_rfl))
  f246 := Tryd.func79.trans (congrArg some (by kernel_rfl))
  f279 := Tryd.func75.trans (congrArg some (by kernel_rfl))
  f280 := Tryd.func76.trans (congrArg some (by kernel_rfl))
  f281 := Tryd.func77.trans (congrArg some (by kernel_rfl))
  f282 := Tryd.func78.trans (congrArg some (by kernel_rfl))
  f283 := Tryd.func88.trans (congrArg some (by kernel_rfl))
  f284 := Tryd.func89.trans (congrArg some (by kernel_rfl))
  f285 := Tryd.func90.trans (congrArg some (by kernel_rfl))
  f286 := Tryd.func91.trans (congrArg some (by kernel_rfl))
  f316 := Tryd.func86.trans (congrArg some (by kernel_rfl))
  f317 := Tryd.func94.trans (congrArg some (by kernel_rfl))
  f318 := Tryd.func96.trans (congrArg some (by kernel_rfl))
  f319 := Tryd.func97.trans (congrArg some (by kernel_rfl))
  f320 := Tryd.func98.trans (congrArg some (by kernel_rfl))
  f337 := Tryd.func99.trans (congrArg some (by kernel_rfl))
  f338 := Tryd.func100.trans (congrArg some (by kernel_rfl))
  t0 := Tryd.underlying0
  a0 := Tryd.isAgg0
  z0 := Tryd.sizeOf0
  v0 := Tryd.zeroValue0
  t2 := Tryd.underlying2
  a2 := Tryd.isAgg2
  z2 := Tryd.sizeOf2
  v2 := Tryd.zeroValue2
  t3 := Tryd.underlying3
  a3 := Tryd.isAgg3
  z3 := Tryd.sizeOf3
  v3 := Tryd.zeroValue3
  t4 := Tryd.underlying4
  a4 := Tryd.isAgg4
  z4 := Tryd.sizeOf4
  v4 := Tryd.zeroValue4
  t5 := Tryd.underlying5
  a5 := Tryd.isAgg5
  z5 := Tryd.sizeOf5
  v5 := Tryd.zeroValue5
  t9 := Tryd.underlying9
  a9 := Tryd.isAgg9
  z9 := Tryd.sizeOf9
  v9 := Tryd.zeroValue9
  t20 := Tryd.underlying20
  a20 := Tryd.isAgg20
  z20 := Tryd.sizeOf20
  v20 := Tryd.zeroValue20
  t37 := Tryd.underlying33
  a37 := Tryd.isAgg33
  z37 := Tryd.sizeOf33
  v37 := Tryd.zeroValue33
  t46 := Tryd.underlying44
  a46 := Tryd.isAgg44
  z46 := Tryd.sizeOf44
  v46 := Tryd.zeroValue44
  t51 := Tryd.underlying111
  a51 := Tryd.isAgg111
  z51 := Tryd.sizeOf111
  v51 := Tryd.zeroValue111
  t53 := Tryd.underlying43
  a53 := Tryd.isAgg43
  z53 := Tryd.sizeOf43
  v53 := Tryd.zeroValue43
  t75 := Tryd.underlying71
  a75 := Tryd.isAgg71
  z75 := Tryd.sizeOf71
  v75 := Tryd.zeroValue71
  t127 := Tryd.underlying95
  a127 := Tryd.isAgg95
  z127 := Tryd.sizeOf95
  v127 := Tryd.zeroValue95
  t143 := Tryd.underlying126
  a143 := Tryd.isAgg126
  z143 := Tryd.sizeOf126
  v143 := Tryd.zeroValue126
  t145 := Tryd.underlying128
  a145 := Tryd.isAgg128
  z145 := Tryd.sizeOf128
  v145 := Tryd.zeroValue128
  t167 := Tryd.underlying97
  a167 := Tryd.isAgg97
  z167 := Tryd.sizeOf97
  v167 := Tryd.zeroValue97
  t168 := Tryd.underlying100
  a168 := Tryd.isAgg100
  z168 := Tryd.sizeOf100
  v168 := Tryd.zeroValue100
  t171 := Tryd.underlying120
  a171 := Tryd.isAgg120
  z171 := Tryd.sizeOf120
  v171 := Tryd.zeroValue120
  t173 := Tryd.underlying123
  a173 := Tryd.isAgg123
  z173 := Tryd.sizeOf123
  v173 := Tryd.zeroValue123
  t210 := Tryd.underlying118
  a210 := Tryd.isAgg118
  z210 := Tryd.sizeOf118
  v210 := Tryd.zeroValue118
  t212 := Tryd.underlying130
  a212 := Tryd.isAgg130
  z212 := Tryd.sizeOf130
  v212 := Tryd.zeroValue130
  t213 := Tryd.underlying131
  a213 := Tryd.isAgg131
  z213 := Tryd.sizeOf131
  t232 := Tryd.underlying135
  a232 := Tryd.isAgg135
  z232 := Tryd.sizeOf135
  v232 := Tryd.zeroValue135
  t233 := Tryd.underlying136
  a233 := Tryd.isAgg136
  z233 := Tryd.sizeOf136
  v233 := Tryd.zeroValue136
  g15 := by kernel_rfl
  g16 := by kernel_rfl
  g17 := by kernel_rfl
  g18 := by kernel_rfl
  g19 := by kernel_rfl
  t80 := Tryd.underlying88
  a80 := Tryd.isAgg88
  z80 := Tryd.sizeOf88
  v80 := Tryd.zeroValue88
  i0 := by kernel_rfl
  i2 := by kernel_rfl
  i3 := by kernel_rfl
  i4 := by kernel_rfl
  i5 := by kernel_rfl
  i9 := by kernel_rfl
  i20 := by kernel_rfl
  i37 := by kernel_rfl
  i46 := by kernel_rfl
  i51 := by kernel_rfl
  i53 := by kernel_rfl
  i75 := by kernel_rfl
  i80 := by kernel_rfl
  i127 := by kernel_rfl
  i143 := by kernel_rfl
  i145 := by kernel_rfl
  i167 := by kernel_rfl
  i168 := by kernel_rfl
  i171 := by kernel_rfl
  i173 := by kernel_rfl
  i210 := by kernel_rfl
  i212 := by kernel_rfl
  i232 := by kernel_rfl
  i233 := by kernel_rfl
  m15 := by kernel_rfl
  m16 := by kernel_rfl
  m17 := by kernel_rfl
  m18 := by kernel_rfl
  m19 := by kernel_rfl
  c0 := by kernel_rfl
  c2 := by kernel_rfl
  c3 := by kernel_rfl
  c4 := by kernel_rfl
  c5 := by kernel_rfl
  c9 := by kernel_rfl
  c20 := by kernel_rfl
  c37 := by kernel_rfl
  c46 := by kernel_rfl
  c51 := by kernel_rfl
  c53 := by kernel_rfl
  c75 := by kernel_rfl
  c80 := by kernel_rfl
  c127 := by kernel_rfl
  c143 := by kernel_rfl
  c145 := by kernel_rfl
  c167 := by kernel_rfl
  c168 := by kernel_rfl
  c171 := by kernel_rfl
  c173 := by kernel_rfl
  c210 := by kernel_rfl
  c212 := by kernel_rfl
  c213 := by kernel_rfl
  c232 := by kernel_rfl
  c233 := by kernel_rfl }
open Go.RowKit in
/-- strconv.toError, at the inner package's ErrSyntax: 'syntaxError(fn, s)' as an error: A *NumError IN A NEW BLOCK. (LAID: no walk: one application.) -/
theorem Tryd.strconv_toError_syntax (fn s : ByteArray) (base bits : Int) (ev : Value) (w : World) (hlim : s.size ≤ 281474976710656) (hv : w.cell? ⟨3, 0, none⟩ = some ev) (hev : ev = .nilIface ∨ ∃ te pe, ev = .iface te pe) :
    Calls Tryd.prog 60 #[.string fn, .string s, .int .i64 base, .int .i64 bits, .iface 97 (.int .i64 2)] w fun e w' => ∃ N, e = .returned (.iface 100 (.pointer (some ⟨N, 0, none⟩))) ∧ w.heap.size ≤ N ∧ w'.heap[N]? = some (.cells #[.string fn, .string s, ev] 118 (0, 0)) ∧ Below w.heap.size w w' := Any.strconv_toError_syntax Tryd.laysC245 fn s base bits ev w hlim hv hev
def Tryd.laysC172_ren : Go.Shelf.Ren := ⟨fun | 172 => 44 | 244 => 59 | 245 => 60 | 247 => 74 | 279 => 75 | 280 => 76 | 281 => 77 | 282 => 78 | 287 => 85 | 316 => 86 | 171 => 45 | 205 => 87 | 321 => 92 | 322 => 93 | 243 => 61 | 246 => 79 | 283 => 88 | 284 => 89 | 285 => 90 | 286 => 91 | 129 => 95 | 317 => 94 | 318 => 96 | 319 => 97 | 320 => 98 | 337 => 99 | 338 => 100 | n => n, fun | 9 => 9 | 3 => 3 | 75 => 71 | 76 => 72 | 4 => 4 | 5 => 5 | 167 => 97 | 37 => 33 | 0 => 0 | 85 => 98 | 2 => 2 | 168 => 100 | 53 => 43 | 175 => 114 | 46 => 44 | 210 => 118 | 127 => 95 | 145 => 128 | 143 => 126 | 21 => 21 | 171 => 120 | 173 => 123 | 212 => 130 | 51 => 111 | 20 => 20 | 213 => 131 | 232 => 135 | 233 => 136 | 80 => 88 | n => n, fun | 15 => 3 | 16 => 4 | 17 => 5 | 18 => 6 | 19 => 7 | n => n⟩
theorem Tryd.laysC172 : Go.Proofs.LaysC.n172 Tryd.prog Tryd.laysC172_ren := {
  mixed := by kernel_rfl
  f129 := Tryd.func95.trans (congrArg some (by kernel_rfl))
  f171 := Tryd.func45.trans (congrArg some (by kernel_rfl))
  f172 := Tryd.func44.trans (congrArg some (by kernel_rfl))
  f205 := Tryd.func87.trans (congrArg some (by kernel_rfl))
  f243 := Tryd.func61.trans (congrArg some (by kernel_rfl))
  f244 := Tryd.func59.trans (congrArg some (by kernel_rfl))
  f245 := Tryd.func60.trans (congrArg some (by kernel_rfl))
  f246 := Tryd.func79.trans (congrArg some (by kernel_rfl))
  f247 := Tryd.func74.trans (congrArg some (by kernel_rfl))
  f279 := Tryd.func75.trans (congrArg some (by kernel_rfl))
  f280 := Tryd.func76.trans (congrArg some (by kernel_rfl))
  f281 := Tryd.func77.trans (congrArg some (by kernel_rfl))
  f282 := Tryd.func78.trans (congrArg some (by kernel_rfl))
  f283 := Tryd.func88.trans (congrArg some (by kernel_rfl))
  f284 := Tryd.func89.trans (congrArg some (by kernel_rfl))
  f285 := Tryd.func90.trans (congrArg some (by kernel_rfl))
  f286 := Tryd.func91.trans (congrArg some (by kernel_rfl))
  f287 := Tryd.func85.trans (congrArg some (by kernel_rfl))
  f316 := Tryd.func86.trans (congrArg some (by kernel_rfl))
  f317 := Tryd.func94.trans (congrArg some (by kernel_rfl))
  f318 := Tryd.func96.trans (congrArg some (by kernel_rfl))
  f319 := Tryd.func97.trans (congrArg some (by kernel_rfl))
  f320 := Tryd.func98.trans (congrArg some (by kernel_rfl))
  f321 := Tryd.func92.trans (congrArg some (by kernel_rfl))
  f322 := Tryd.func93.trans (congrArg some (by kernel_rfl))
  f337 := Tryd.func99.trans (congrArg some (by kernel_rfl))
  f338 := Tryd.func100.trans (congrArg some (by kernel_rfl))
  t0 := Tryd.underlying0
  a0 := Tryd.isAgg0
  z0 := Tryd.sizeOf0
  v0 := Tryd.zeroValue0
  t2 := Tryd.underlying2
  a2 := Tryd.isAgg2
  z2 := Tryd.sizeOf2
  v2 := Tryd.zeroValue2
  t3 := Tryd.underlying3
  a3 := Tryd.isAgg3
  z3 := Tryd.sizeOf3
  v3 := Tryd.zeroValue3
  t4 := Tryd.underlying4
  a4 := Tryd.isAgg4
  z4 := Tryd.sizeOf4
  v4 := Tryd.zeroValue4
  t5 := Tryd.underlying5
  a5 := Tryd.isAgg5
  z5 := Tryd.sizeOf5
  v5 := Tryd.zeroValue5
  t9 := Tryd.underlying9
  a9 := Tryd.isAgg9
  z9 := Tryd.sizeOf9
  v9 := Tryd.zeroValue9
  t20 := Tryd.underlying20
  a20 := Tryd.isAgg20
  z20 := Tryd.sizeOf20
  v20 := Tryd.zeroValue20
  t21 := Tryd.underlying21
  a21 := Tryd.isAgg21
  z21 := Tryd.sizeOf21
  v21 := Tryd.zeroValue21
  t37 := Tryd.underlying33
  a37 := Tryd.isAgg33
  z37 := Tryd.sizeOf33
  v37 := Tryd.zeroValue33
  t46 := Tryd.underlying44
  a46 := Tryd.isAgg44
  z46 := Tryd.sizeOf44
  v46 := Tryd.zeroValue44
  t51 := Tryd.underlying111
  a51 := Tryd.isAgg111
  z51 := Tryd.sizeOf111
  v51 := Tryd.zeroValue111
  t53 := Tryd.underlying43
  a53 := Tryd.isAgg43
  z53 := Tryd.sizeOf43
  v53 := Tryd.zeroValue43
  t75 := Tryd.underlying71
  a75 := Tryd.isAgg71
  z75 := Tryd.sizeOf71
  v75 := Tryd.zeroValue71
  t76 := Tryd.underlying72
  a76 := Tryd.isAgg72
  z76 := Tryd.sizeOf72
  v76 := Tryd.zeroValue72
  t85 := Tryd.underlying98
  a85 := Tryd.isAgg98
  z85 := Tryd.sizeOf98
  v85 := Tryd.zeroValue98
  t127 := Tryd.underlying95
  a127 := Tryd.isAgg95
  z127 := Tryd.sizeOf95
  v127 := Tryd.zeroValue95
  t143 := Tryd.underlying126
  a143 := Tryd.isAgg126
  z143 := Tryd.sizeOf126
  v143 := Tryd.zeroValue126
  t145 := Tryd.underlying128
  a145 := Tryd.isAgg128
  z145 := Tryd.sizeOf128
  v145 := Tryd.zeroValue128
  t167 := Tryd.underlying97
  a167 := Tryd.isAgg97
  z167 := Tryd.sizeOf97
  v167 := Tryd.zeroValue97
  t168 := Tryd.underlying100
  a168 := Tryd.isAgg100
  z168 := Tryd.sizeOf100
  v168 := Tryd.zeroValue100
  t171 := Tryd.underlying120
  a171 := Tryd.isAgg120
  z171 := Tryd.sizeOf120
  v171 := Tryd.zeroValue120
  t173 := Tryd.underlying123
  a173 := Tryd.isAgg123
  z173 := Tryd.sizeOf123
  v173 := Tryd.zeroValue123
  t175 := Tryd.underlying114
  a175 := Tryd.isAgg114
  z175 := Tryd.sizeOf114
  v175 := Tryd.zeroValue114
  t210 := Tryd.underlying118
  a210 := Tryd.isAgg118
  z210 := Tryd.sizeOf118
  v210 := Tryd.zeroValue118
  t212 := Tryd.underlying130
  a212 := Tryd.isAgg130
  z212 := Tryd.sizeOf130
  v212 := Tryd.zeroValue130
  t213 := Tryd.underlying131
  a213 := Tryd.isAgg131
  z213 := Tryd.sizeOf131
  t232 := Tryd.underlying135
  a232 := Tryd.isAgg135
  z232 := Tryd.sizeOf135
  v232 := Tryd.zeroValue135
  t233 := Tryd.underlying136
  a233 := Tryd.isAgg136
  z233 := Tryd.sizeOf136
  v233 := Tryd.zeroValue136
  g15 := by kernel_rfl
  g16 := by kernel_rfl
  g17 := by kernel_rfl
  g18 := by kernel_rfl
  g19 := by kernel_rfl
  t80 := Tryd.underlying88
  a80 := Tryd.isAgg88
  z80 := Tryd.sizeOf88
  v80 := Tryd.zeroValue88
  i0 := by kernel_rfl
  i2 := by kernel_rfl
  i3 := by kernel_rfl
  i4 := by kernel_rfl
  i5 := by kernel_rfl
  i9 := by kernel_rfl
  i20 := by kernel_rfl
  i21 := by kernel_rfl
  i37 := by kernel_rfl
  i46 := by kernel_rfl
  i51 := by kernel_rfl
  i53 := by kernel_rfl
  i75 := by kernel_rfl
  i76 := by kernel_rfl
  i80 := by kernel_rfl
  i85 := by kernel_rfl
  i127 := by kernel_rfl
  i143 := by kernel_rfl
  i145 := by kernel_rfl
  i167 := by kernel_rfl
  i168 := by kernel_rfl
  i171 := by kernel_rfl
  i173 := by kernel_rfl
  i175 := by kernel_rfl
  i210 := by kernel_rfl
  i212 := by kernel_rfl
  i232 := by kernel_rfl
  i233 := by kernel_rfl
  m15 := by kernel_rfl
  m16 := by kernel_rfl
  m17 := by kernel_rfl
  m18 := by kernel_rfl
  m19 := by kernel_rfl
  c0 := by kernel_rfl
  c2 := by kernel_rfl
  c3 := by kernel_rfl
  c4 := by kernel_rfl
  c5 := by kernel_rfl
  c9 := by kernel_rfl
  c20 := by kernel_rfl
  c21 := by kernel_rfl
  c37 := by kernel_rfl
  c46 := by kernel_rfl
  c51 := by kernel_rfl
  c53 := by kernel_rfl
  c75 := by kernel_rfl
  c76 := by kernel_rfl
  c80 := by kernel_rfl
  c85 := by kernel_rfl
  c127 := by kernel_rfl
  c143 := by kernel_rfl
  c145 := by kernel_rfl
  c167 := by kernel_rfl
  c168 := by kernel_rfl
  c171 := by kernel_rfl
  c173 := by kernel_rfl
  c175 := by kernel_rfl
  c210 := by kernel_rfl
  c212 := by kernel_rfl
  c213 := by kernel_rfl
  c232 := by kernel_rfl
  c233 := by kernel_rfl }
open Go.RowKit in
/-- strconv.Atoi, AT EVERY STRING OF AT MOST 18 BYTES THAT IS NO DECIMAL NUMERAL (the empty one too): 0, AND AN ERROR THAT IS NOT nil: a *NumError in a new block N: {Func: "Atoi", Num: s's bytes, Err: what the variable ErrSyntax holds}. Of what was there nothing has turned. (LAID: no walk: one application.) -/
theorem Tryd.strconv_Atoi_err (s : ByteArray) (hl : s.size ≤ 18) (h : Lib.atoi s.data.toList = none) (ev : Value) (w : World) (hv : w.cell? ⟨3, 0, none⟩ = some ev) (hev : ev = .nilIface ∨ ∃ te pe, ev = .iface te pe) :
    Calls Tryd.prog 44 #[.string s] w fun e w' => ∃ N, e = .returned (.tuple #[.int .i64 0, .iface 100 (.pointer (some ⟨N, 0, none⟩))]) ∧ w.heap.size ≤ N ∧ w'.heap[N]? = some (.cells #[.string ⟨#[65, 116, 111, 105]⟩, .string s, ev] 118 (0, 0)) ∧ Below w.heap.size w w' := Any.strconv_Atoi_err Tryd.laysC172 s hl h ev w hv hev
def Tryd.lays321_ren : Go.Shelf.Ren := ⟨fun | 321 => 92 | n => n, fun | 5 => 5 | n => n, fun | n => n⟩
theorem Tryd.lays321 : Go.Proofs.Lays.n321 Tryd.prog Tryd.lays321_ren := {
  mixed := by kernel_rfl
  f321 := Tryd.func92.trans (congrArg some (by kernel_rfl))
  t5 := Tryd.underlying5
  a5 := Tryd.isAgg5
  z5 := Tryd.sizeOf5
  v5 := Tryd.zeroValue5 }
open Go.RowKit in
/-- internal/strconv.lower: 'c | ('x' - 'X')': the bit 32 set. The world is as it was. (LAID: no walk: one application.) -/
theorem Tryd.internal_strconv_lower (c : Int) (w : World) :
    Calls Tryd.prog 92 #[.int .u8 c] w fun e w' => e = .returned (.int .u8 (bits .or .u8 c 32)) ∧ w' = w := Any.internal_strconv_lower Tryd.lays321 c w
def Tryd.lays287_ren : Go.Shelf.Ren := ⟨fun | 287 => 85 | 321 => 92 | 322 => 93 | n => n, fun | 9 => 9 | 3 => 3 | 53 => 43 | 75 => 71 | 4 => 4 | 167 => 97 | 5 => 5 | 46 => 44 | 37 => 33 | 0 => 0 | 21 => 21 | 80 => 88 | n => n, fun | n => n⟩
theorem Tryd.lays287 : Go.Proofs.Lays.n287 Tryd.prog Tryd.lays287_ren := {
  mixed := by kernel_rfl
  f287 := Tryd.func85.trans (congrArg some (by kernel_rfl))
  f321 := Tryd.func92.trans (congrArg some (by kernel_rfl))
  f322 := Tryd.func93.trans (congrArg some (by kernel_rfl))
  t0 := Tryd.underlying0
  a0 := Tryd.isAgg0
  z0 := Tryd.sizeOf0
  v0 := Tryd.zeroValue0
  t3 := Tryd.underlying3
  a3 := Tryd.isAgg3
  z3 := Tryd.sizeOf3
  v3 := Tryd.zeroValue3
  t4 := Tryd.underlying4
  a4 := Tryd.isAgg4
  z4 := Tryd.sizeOf4
  v4 := Tryd.zeroValue4
  t5 := Tryd.underlying5
  a5 := Tryd.isAgg5
  z5 := Tryd.sizeOf5
  v5 := Tryd.zeroValue5
  t9 := Tryd.underlying9
  a9 := Tryd.isAgg9
  z9 := Tryd.sizeOf9
  v9 := Tryd.zeroValue9
  t21 := Tryd.underlying21
  a21 := Tryd.isAgg21
  z21 := Tryd.sizeOf21
  v21 := Tryd.zeroValue21
  t37 := Tryd.underlying33
  a37 := Tryd.isAgg33
  z37 := Tryd.sizeOf33
  v37 := Tryd.zeroValue33
  t46 := Tryd.underlying44
  a46 := Tryd.isAgg44
  z46 := Tryd.sizeOf44
  v46 := Tryd.zeroValue44
  t53 := Tryd.underlying43
  a53 := Tryd.isAgg43
  z53 := Tryd.sizeOf43
  v53 := Tryd.zeroValue43
  t75 := Tryd.underlying71
  a75 := Tryd.isAgg71
  z75 := Tryd.sizeOf71
  v75 := Tryd.zeroValue71
  t167 := Tryd.underlying97
  a167 := Tryd.isAgg97
  z167 := Tryd.sizeOf97
  v167 := Tryd.zeroValue97 }
open Go.RowKit in
/-- internal/strconv.ParseUint(s, 10, 0), s NOT EMPTY: 'Lib.parseUint10 0' OF ITS BYTES: the number; or (0, ErrSyntax); or (the greatest uint64, ErrRange). The world behind the call: the one new row that '[]byte(s)' lays. (LAID: no walk: one application.) -/
theorem Tryd.internal_strconv_ParseUint_10 (t : ByteArray) (hne : t.size ≠ 0) (hmax : t.size ≤ 9223372036854775806) (w : World) :
    Calls Tryd.prog 85 #[.string t, .int .i64 10, .int .i64 0] w fun e w' => e = .returned (Lib.uintTuple 97 (Lib.parseUint10 0 t.data.toList)) ∧ w' = Lib.bytesWorld w 5 t := Any.internal_strconv_ParseUint_10 Tryd.lays287 t hne hmax w
open Go.RowKit in
/-- internal/strconv.ParseUint("", 10, 0): (0, ErrSyntax). The world is as it was. (LAID: no walk: one application.) -/
theorem Tryd.internal_strconv_ParseUint_10_empty (w : World) :
    Calls Tryd.prog 85 #[.string ⟨#[]⟩, .int .i64 10, .int .i64 0] w fun e w' => e = .returned (Lib.uintTuple 97 .syntax) ∧ w' = w := Any.internal_strconv_ParseUint_10_empty Tryd.lays287 w
open Go.RowKit in
/-- internal/strconv.ParseUint(s, 10, 0): 'Lib.parseMag' OF ITS BYTES. The world: as it was (the empty string), or with the one new row that '[]byte(s)' lays. (LAID: no walk: one application.) -/
theorem Tryd.internal_strconv_ParseUint_10_any (t : ByteArray) (hmax : t.size ≤ 9223372036854775806) (w : World) :
    Calls Tryd.prog 85 #[.string t, .int .i64 10, .int .i64 0] w fun e w' => e = .returned (Lib.uintTuple 97 (Lib.parseMag t.data.toList)) ∧ (w' = w ∨ w' = Lib.bytesWorld w 5 t) := Any.internal_strconv_ParseUint_10_any Tryd.lays287 t hmax w
def Tryd.laysC247_ren : Go.Shelf.Ren := ⟨fun | 247 => 74 | 287 => 85 | 321 => 92 | 322 => 93 | n => n, fun | 9 => 9 | 3 => 3 | 2 => 2 | 75 => 71 | 4 => 4 | 167 => 97 | 5 => 5 | 53 => 43 | 175 => 114 | 46 => 44 | 37 => 33 | 0 => 0 | 21 => 21 | 80 => 88 | n => n, fun | n => n⟩
theorem Tryd.laysC247 : Go.Proofs.LaysC.n247 Tryd.prog Tryd.laysC247_ren := {
  mixed := by kernel_rfl
  f247 := Tryd.func74.trans (congrArg some (by kernel_rfl))
  f287 := Tryd.func85.trans (congrArg some (by kernel_rfl))
  f321 := Tryd.func92.trans (congrArg some (by kernel_rfl))
  f322 := Tryd.func93.trans (congrArg some (by kernel_rfl))
  t0 := Tryd.underlying0
  a0 := Tryd.isAgg0
  z0 := Tryd.sizeOf0
  v0 := Tryd.zeroValue0
  t2 := Tryd.underlying2
  a2 := Tryd.isAgg2
  z2 := Tryd.sizeOf2
  v2 := Tryd.zeroValue2
  t3 := Tryd.underlying3
  a3 := Tryd.isAgg3
  z3 := Tryd.sizeOf3
  v3 := Tryd.zeroValue3
  t4 := Tryd.underlying4
  a4 := Tryd.isAgg4
  z4 := Tryd.sizeOf4
  v4 := Tryd.zeroValue4
  t5 := Tryd.underlying5
  a5 := Tryd.isAgg5
  z5 := Tryd.sizeOf5
  v5 := Tryd.zeroValue5
  t9 := Tryd.underlying9
  a9 := Tryd.isAgg9
  z9 := Tryd.sizeOf9
  v9 := Tryd.zeroValue9
  t21 := Tryd.underlying21
  a21 := Tryd.isAgg21
  z21 := Tryd.sizeOf21
  v21 := Tryd.zeroValue21
  t37 := Tryd.underlying33
  a37 := Tryd.isAgg33
  z37 := Tryd.sizeOf33
  v37 := Tryd.zeroValue33
  t46 := Tryd.underlying44
  a46 := Tryd.isAgg44
  z46 := Tryd.sizeOf44
  v46 := Tryd.zeroValue44
  t53 := Tryd.underlying43
  a53 := Tryd.isAgg43
  z53 := Tryd.sizeOf43
  v53 := Tryd.zeroValue43
  t75 := Tryd.underlying71
  a75 := Tryd.isAgg71
  z75 := Tryd.sizeOf71
  v75 := Tryd.zeroValue71
  t167 := Tryd.underlying97
  a167 := Tryd.isAgg97
  z167 := Tryd.sizeOf97
  v167 := Tryd.zeroValue97
  t175 := Tryd.underlying114
  a175 := Tryd.isAgg114
  z175 := Tryd.sizeOf114
  v175 := Tryd.zeroValue114
  t80 := Tryd.underlying88
  a80 := Tryd.isAgg88
  z80 := Tryd.sizeOf88
  v80 := Tryd.zeroValue88
  i0 := by kernel_rfl
  i2 := by kernel_rfl
  i3 := by kernel_rfl
  i4 := by kernel_rfl
  i5 := by kernel_rfl
  i9 := by kernel_rfl
  i21 := by kernel_rfl
  i37 := by kernel_rfl
  i46 := by kernel_rfl
  i53 := by kernel_rfl
  i75 := by kernel_rfl
  i80 := by kernel_rfl
  i167 := by kernel_rfl
  i175 := by kernel_rfl
  c0 := by kernel_rfl
  c2 := by kernel_rfl
  c3 := by kernel_rfl
  c4 := by kernel_rfl
  c5 := by kernel_rfl
  c9 := by kernel_rfl
  c21 := by kernel_rfl
  c37 := by kernel_rfl
  c46 := by kernel_rfl
  c53 := by kernel_rfl
  c75 := by kernel_rfl
  c80 := by kernel_rfl
  c167 := by kernel_rfl
  c175 := by kernel_rfl }
open Go.RowKit in
/-- internal/strconv.ParseInt(s, 10, 0), s NOT EMPTY: 'Lib.atoiAll' OF ITS BYTES: (the number, nil); (0, ErrSyntax); (the greatest or the least int64 by the sign, ErrRange). The world: as it was, or with the one new row that '[]byte(..)' lays. (LAID: no walk: one application.) -/
theorem Tryd.internal_strconv_ParseInt_10 (s : ByteArray) (hne : s.size ≠ 0) (hmax : s.size ≤ 9223372036854775806) (w : World) :
    Calls Tryd.prog 74 #[.string s, .int .i64 10, .int .i64 0] w fun e w' => e = .returned (Lib.intTuple 97 (Lib.atoiSat s.data.toList) (Lib.atoiAll s.data.toList)) ∧ (w' = w ∨ ∃ t, w' = Lib.bytesWorld w 5 t) := Any.internal_strconv_ParseInt_10 Tryd.laysC247 s hne hmax w
def Tryd.laysC244_ren : Go.Shelf.Ren := ⟨fun | 244 => 59 | 247 => 74 | 287 => 85 | 321 => 92 | 322 => 93 | n => n, fun | 9 => 9 | 3 => 3 | 75 => 71 | 4 => 4 | 5 => 5 | 167 => 97 | 37 => 33 | 0 => 0 | 85 => 98 | 2 => 2 | 53 => 43 | 175 => 114 | 46 => 44 | 21 => 21 | 80 => 88 | n => n, fun | n => n⟩
theorem Tryd.laysC244 : Go.Proofs.LaysC.n244 Tryd.prog Tryd.laysC244_ren := {
  mixed := by kernel_rfl
  f244 := Tryd.func59.trans (congrArg some (by kernel_rfl))
  f247 := Tryd.func74.trans (congrArg some (by kernel_rfl))
  f287 := Tryd.func85.trans (congrArg some (by kernel_rfl))
  f321 := Tryd.func92.trans (congrArg some (by kernel_rfl))
  f322 := Tryd.func93.trans (congrArg some (by kernel_rfl))
  t0 := Tryd.underlying0
  a0 := Tryd.isAgg0
  z0 := Tryd.sizeOf0
  v0 := Tryd.zeroValue0
  t2 := Tryd.underlying2
  a2 := Tryd.isAgg2
  z2 := Tryd.sizeOf2
  v2 := Tryd.zeroValue2
  t3 := Tryd.underlying3
  a3 := Tryd.isAgg3
  z3 := Tryd.sizeOf3
  v3 := Tryd.zeroValue3
  t4 := Tryd.underlying4
  a4 := Tryd.isAgg4
  z4 := Tryd.sizeOf4
  v4 := Tryd.zeroValue4
  t5 := Tryd.underlying5
  a5 := Tryd.isAgg5
  z5 := Tryd.sizeOf5
  v5 := Tryd.zeroValue5
  t9 := Tryd.underlying9
  a9 := Tryd.isAgg9
  z9 := Tryd.sizeOf9
  v9 := Tryd.zeroValue9
  t21 := Tryd.underlying21
  a21 := Tryd.isAgg21
  z21 := Tryd.sizeOf21
  v21 := Tryd.zeroValue21
  t37 := Tryd.underlying33
  a37 := Tryd.isAgg33
  z37 := Tryd.sizeOf33
  v37 := Tryd.zeroValue33
  t46 := Tryd.underlying44
  a46 := Tryd.isAgg44
  z46 := Tryd.sizeOf44
  v46 := Tryd.zeroValue44
  t53 := Tryd.underlying43
  a53 := Tryd.isAgg43
  z53 := Tryd.sizeOf43
  v53 := Tryd.zeroValue43
  t75 := Tryd.underlying71
  a75 := Tryd.isAgg71
  z75 := Tryd.sizeOf71
  v75 := Tryd.zeroValue71
  t85 := Tryd.underlying98
  a85 := Tryd.isAgg98
  z85 := Tryd.sizeOf98
  v85 := Tryd.zeroValue98
  t167 := Tryd.underlying97
  a167 := Tryd.isAgg97
  z167 := Tryd.sizeOf97
  v167 := Tryd.zeroValue97
  t175 := Tryd.underlying114
  a175 := Tryd.isAgg114
  z175 := Tryd.sizeOf114
  v175 := Tryd.zeroValue114
  t80 := Tryd.underlying88
  a80 := Tryd.isAgg88
  z80 := Tryd.sizeOf88
  v80 := Tryd.zeroValue88
  i0 := by kernel_rfl
  i2 := by kernel_rfl
  i3 := by kernel_rfl
  i4 := by kernel_rfl
  i5 := by kernel_rfl
  i9 := by kernel_rfl
  i21 := by kernel_rfl
  i37 := by kernel_rfl
  i46 := by kernel_rfl
  i53 := by kernel_rfl
  i75 := by kernel_rfl
  i80 := by kernel_rfl
  i85 := by kernel_rfl
  i167 := by kernel_rfl
  i175 := by kernel_rfl
  c0 := by kernel_rfl
  c2 := by kernel_rfl
  c3 := by kernel_rfl
  c4 := by kernel_rfl
  c5 := by kernel_rfl
  c9 := by kernel_rfl
  c21 := by kernel_rfl
  c37 := by kernel_rfl
  c46 := by kernel_rfl
  c53 := by kernel_rfl
  c75 := by kernel_rfl
  c80 := by kernel_rfl
  c85 := by kernel_rfl
  c167 := by kernel_rfl
  c175 := by kernel_rfl }
open Go.RowKit in
/-- internal/strconv.Atoi, AT EVERY STRING OF 19 BYTES OR MORE: 'Lib.atoiAll' OF ITS BYTES: (the number, nil); (0, ErrSyntax); (the greatest or the least int by the sign, ErrRange). (LAID: no walk: one application.) -/
theorem Tryd.internal_strconv_Atoi_long (s : ByteArray) (h19 : 19 ≤ s.size) (hmax : s.size ≤ 9223372036854775806) (w : World) :
    Calls Tryd.prog 59 #[.string s] w fun e w' => e = .returned (Lib.intTuple 97 (Lib.atoiSat s.data.toList) (Lib.atoiAll s.data.toList)) ∧ (w' = w ∨ ∃ t, w' = Lib.bytesWorld w 5 t) := Any.internal_strconv_Atoi_long Tryd.laysC244 s h19 hmax w
open Go.RowKit in
/-- internal/strconv.Atoi, AT EVERY STRING: 'Lib.atoiAll' OF ITS BYTES: (the number, nil); (0, ErrSyntax); (the greatest or the least int by the sign, ErrRange). The world: as it was, or with the one new row that '[]byte(..)' lays. (LAID: no walk: one application.) -/
theorem Tryd.internal_strconv_Atoi_all (s : ByteArray) (hmax : s.size ≤ 9223372036854775806) (w : World) :
    Calls Tryd.prog 59 #[.string s] w fun e w' => e = .returned (Lib.intTuple 97 (Lib.atoiSat s.data.toList) (Lib.atoiAll s.data.toList)) ∧ (w' = w ∨ ∃ t, w' = Lib.bytesWorld w 5 t) := Any.internal_strconv_Atoi_all Tryd.laysC244 s hmax w
def Tryd.laysM280_ren : Go.Shelf.Ren := ⟨fun | 280 => 76 | 316 => 86 | n => n, fun | 9 => 9 | 168 => 100 | 75 => 71 | 210 => 118 | 3 => 3 | 4 => 4 | 37 => 33 | 0 => 0 | 127 => 95 | 80 => 88 | 5 => 5 | n => n, fun | 16 => 4 | n => n⟩
theorem Tryd.laysM280 : Go.Proofs.LaysM.n280 Tryd.prog Tryd.laysM280_ren := {
  mixed := by kernel_rfl
  f280 := Tryd.func76.trans (congrArg some (by kernel_rfl))
  f316 := Tryd.func86.trans (congrArg some (by kernel_rfl))
  t0 := Tryd.underlying0
  a0 := Tryd.isAgg0
  z0 := Tryd.sizeOf0
  v0 := Tryd.zeroValue0
  t3 := Tryd.underlying3
  a3 := Tryd.isAgg3
  z3 := Tryd.sizeOf3
  v3 := Tryd.zeroValue3
  t4 := Tryd.underlying4
  a4 := Tryd.isAgg4
  z4 := Tryd.sizeOf4
  v4 := Tryd.zeroValue4
  t9 := Tryd.underlying9
  a9 := Tryd.isAgg9
  z9 := Tryd.sizeOf9
  v9 := Tryd.zeroValue9
  t37 := Tryd.underlying33
  a37 := Tryd.isAgg33
  z37 := Tryd.sizeOf33
  v37 := Tryd.zeroValue33
  t75 := Tryd.underlying71
  a75 := Tryd.isAgg71
  z75 := Tryd.sizeOf71
  v75 := Tryd.zeroValue71
  t127 := Tryd.underlying95
  a127 := Tryd.isAgg95
  z127 := Tryd.sizeOf95
  v127 := Tryd.zeroValue95
  t168 := Tryd.underlying100
  a168 := Tryd.isAgg100
  z168 := Tryd.sizeOf100
  v168 := Tryd.zeroValue100
  t210 := Tryd.underlying118
  a210 := Tryd.isAgg118
  z210 := Tryd.sizeOf118
  v210 := Tryd.zeroValue118
  g16 := by kernel_rfl
  t5 := Tryd.underlying5
  a5 := Tryd.isAgg5
  z5 := Tryd.sizeOf5
  v5 := Tryd.zeroValue5
  t80 := Tryd.underlying88
  a80 := Tryd.isAgg88
  z80 := Tryd.sizeOf88
  v80 := Tryd.zeroValue88
  i0 := by kernel_rfl
  i3 := by kernel_rfl
  i4 := by kernel_rfl
  i5 := by kernel_rfl
  i9 := by kernel_rfl
  i37 := by kernel_rfl
  i75 := by kernel_rfl
  i80 := by kernel_rfl
  i127 := by kernel_rfl
  i168 := by kernel_rfl
  i210 := by kernel_rfl
  m16 := by kernel_rfl }
open Go.RowKit in
/-- strconv.rangeError: '&NumError{fn, stringslite.Clone(str), ErrRange}': A POINTER TO A NEW BLOCK that holds fn, str's bytes, and what the variable ErrRange holds. Of what was there nothing has turned. (LAID: no walk: one application.) -/
theorem Tryd.strconv_rangeError (fn s : ByteArray) (ev : Value) (w : World) (hlim : s.size ≤ 281474976710656) (hv : w.cell? ⟨4, 0, none⟩ = some ev) (hev : ev = .nilIface ∨ ∃ te pe, ev = .iface te pe) :
    Calls Tryd.prog 76 #[.string fn, .string s] w fun e w' => ∃ N, e = .returned (.pointer (some ⟨N, 0, none⟩)) ∧ w.heap.size ≤ N ∧ w'.heap[N]? = some (.cells #[.string fn, .string s, ev] 118 (0, 0)) ∧ Below w.heap.size w w' := Any.strconv_rangeError Tryd.laysM280 fn s ev w hlim hv hev
open Go.RowKit in
/-- strconv.toError, at the inner package's ErrRange: 'rangeError(fn, s)' as an error: A *NumError IN A NEW BLOCK. (LAID: no walk: one application.) -/
theorem Tryd.strconv_toError_range (fn s : ByteArray) (base bits : Int) (ev : Value) (w : World) (hlim : s.size ≤ 281474976710656) (hv : w.cell? ⟨4, 0, none⟩ = some ev) (hev : ev = .nilIface ∨ ∃ te pe, ev = .iface te pe) :
    Calls Tryd.prog 60 #[.string fn, .string s, .int .i64 base, .int .i64 bits, .iface 97 (.int .i64 1)] w fun e w' => ∃ N, e = .returned (.iface 100 (.pointer (some ⟨N, 0, none⟩))) ∧ w.heap.size ≤ N ∧ w'.heap[N]? = some (.cells #[.string fn, .string s, ev] 118 (0, 0)) ∧ Below w.heap.size w w' := Any.strconv_toError_range Tryd.laysC245 fn s base bits ev w hlim hv hev
open Go.RowKit in
/-- strconv.Atoi, AT EVERY STRING THAT SPELLS AN int ('Lib.atoiAll .. = .ok v'; of whatever length: leading zeros count): v, AND NO ERROR. The world: as it was, or with the one new row that '[]byte(..)' lays. (LAID: no walk: one application.) -/
theorem Tryd.strconv_Atoi_ok (s : ByteArray) (hmax : s.size ≤ 9223372036854775806) (v : Int) (h : Lib.atoiAll s.data.toList = .ok v) (w : World) :
    Calls Tryd.prog 44 #[.string s] w fun e w' => e = .returned (.tuple #[.int .i64 v, .nilIface]) ∧ (w' = w ∨ ∃ t, w' = Lib.bytesWorld w 5 t) := Any.strconv_Atoi_ok Tryd.laysC172 s hmax v h w
open Go.RowKit in
/-- strconv.Atoi, AT EVERY STRING THAT IS NO DECIMAL NUMERAL ('.syntax'): 0, AND AN ERROR THAT IS NOT nil: a *NumError in a new block N: {Func: "Atoi", Num: s's bytes, Err: what the variable ErrSyntax holds}. Of what was there nothing has turned. (LAID: no walk: one application.) -/
theorem Tryd.strconv_Atoi_syntax (s : ByteArray) (hlim : s.size ≤ 281474976710656) (h : Lib.atoiAll s.data.toList = .syntax) (ev : Value) (w : World) (hv : w.cell? ⟨3, 0, none⟩ = some ev) (hev : ev = .nilIface ∨ ∃ te pe, ev = .iface te pe) :
    Calls Tryd.prog 44 #[.string s] w fun e w' => ∃ N, e = .returned (.tuple #[.int .i64 (0), .iface 100 (.pointer (some ⟨N, 0, none⟩))]) ∧ w.heap.size ≤ N ∧ w'.heap[N]? = some (.cells #[.string ⟨#[65, 116, 111, 105]⟩, .string s, ev] 118 (0, 0)) ∧ Below w.heap.size w w' := Any.strconv_Atoi_syntax Tryd.laysC172 s hlim h ev w hv hev
open Go.RowKit in
/-- strconv.Atoi, AT EVERY NUMERAL THAT NO int HOLDS ('.range'): THE GREATEST OR THE LEAST int, BY THE SIGN ('Lib.atoiSat'), AND AN ERROR THAT IS NOT nil: a *NumError in a new block N: {Func: "Atoi", Num: s's bytes, Err: what the variable ErrRange holds}. Of what was there nothing has turned. (LAID: no walk: one application.) -/
theorem Tryd.strconv_Atoi_range (s : ByteArray) (hlim : s.size ≤ 281474976710656) (h : Lib.atoiAll s.data.toList = .range) (ev : Value) (w : World) (hv : w.cell? ⟨4, 0, none⟩ = some ev) (hev : ev = .nilIface ∨ ∃ te pe, ev = .iface te pe) :
    Calls Tryd.prog 44 #[.string s] w fun e w' => ∃ N, e = .returned (.tuple #[.int .i64 (Lib.atoiSat s.data.toList), .iface 100 (.pointer (some ⟨N, 0, none⟩))]) ∧ w.heap.size ≤ N ∧ w'.heap[N]? = some (.cells #[.string ⟨#[65, 116, 111, 105]⟩, .string s, ev] 118 (0, 0)) ∧ Below w.heap.size w w' := Any.strconv_Atoi_range Tryd.laysC172 s hlim h ev w hv hev
open Go.RowKit in
theorem Tryd.strconv_Atoi_syntax_var (s : ByteArray) (hlim : s.size ≤ 281474976710656) (h : Lib.atoiAll s.data.toList = .syntax) (tp : TypeId) (p : Value) (w : World) (hvar : w.var? Tryd.prog "strconv.ErrSyntax" = some #[.iface tp p]) :
    Calls Tryd.prog 44 #[.string s] w fun e w' => ∃ N, e = .returned (.tuple #[.int .i64 0, .iface 100 (.pointer (some ⟨N, 0, none⟩))]) ∧ w.heap.size ≤ N ∧ w'.heap[N]? = some (.cells #[.string ⟨#[65, 116, 111, 105]⟩, .string s, .iface tp p] 118 (0, 0)) ∧ Below w.heap.size w w' := Any.strconv_Atoi_syntax_var Tryd.laysC172 s hlim h tp p w hvar
open Go.RowKit in
theorem Tryd.strconv_Atoi_range_var (s : ByteArray) (hlim : s.size ≤ 281474976710656) (h : Lib.atoiAll s.data.toList = .range) (tp : TypeId) (p : Value) (w : World) (hvar : w.var? Tryd.prog "strconv.ErrRange" = some #[.iface tp p]) :
    Calls Tryd.prog 44 #[.string s] w fun e w' => ∃ N, e = .returned (.tuple #[.int .i64 (Lib.atoiSat s.data.toList), .iface 100 (.pointer (some ⟨N, 0, none⟩))]) ∧ w.heap.size ≤ N ∧ w'.heap[N]? = some (.cells #[.string ⟨#[65, 116, 111, 105]⟩, .string s, .iface tp p] 118 (0, 0)) ∧ Below w.heap.size w w' := Any.strconv_Atoi_range_var Tryd.laysC172 s hlim h tp p w hvar
def Tryd.lays217_ren : Go.Shelf.Ren := ⟨fun | 217 => 70 | 266 => 83 | n => n, fun | 9 => 9 | 5 => 5 | 3 => 3 | n => n, fun | n => n⟩
theorem Tryd.lays217 : Go.Proofs.Lays.n217 Tryd.prog Tryd.lays217_ren := {
  mixed := by kernel_rfl
  f217 := Tryd.func70.trans (congrArg some (by kernel_rfl))
  f266 := Tryd.func83.trans (congrArg some (by kernel_rfl))
  t3 := Tryd.underlying3
  a3 := Tryd.isAgg3
  z3 := Tryd.sizeOf3
  v3 := Tryd.zeroValue3
  t5 := Tryd.underlying5
  a5 := Tryd.isAgg5
  z5 := Tryd.sizeOf5
  v5 := Tryd.zeroValue5
  t9 := Tryd.underlying9
  a9 := Tryd.isAgg9
  z9 := Tryd.sizeOf9
  v9 := Tryd.zeroValue9 }
open Go.RowKit Go.Lib in
/-- internal/stringslite.IndexByte (what strings.IndexByte calls): IT RETURNS 'Lib.indexByte s c'; the world is as it was. (LAID: no walk: one application.) -/
theorem Tryd.stringslite_IndexByte (s : ByteArray) (c : Int) (w : World) :
    Calls Tryd.prog 70 #[.string s, .int .u8 c] w fun e w' => e = .returned (.int .i64 (Lib.indexByte s.data.toList c.toNat.toUInt8)) ∧ w' = w := Any.stringslite_IndexByte Tryd.lays217 s c w
def Tryd.lays224_ren : Go.Shelf.Ren := ⟨fun | 224 => 72 | n => n, fun | 3 => 3 | n => n, fun | n => n⟩
theorem Tryd.lays224 : Go.Proofs.Lays.n224 Tryd.prog Tryd.lays224_ren := {
  mixed := by kernel_rfl
  f224 := Tryd.func72.trans (congrArg some (by kernel_rfl))
  t3 := Tryd.underlying3
  a3 := Tryd.isAgg3
  z3 := Tryd.sizeOf3
  v3 := Tryd.zeroValue3 }
open Go.RowKit Go.Lib in
/-- internal/bytealg.Cutover: "Cutover reports the number of failures of IndexByte we should tolerate before switching over to Index. n is the number of bytes processed so far.": on amd64: (n + 16) / 8. (LAID: no walk: one application.) -/
theorem Tryd.bytealg_Cutover (n : Int) (h0 : 0 ≤ n) (h1 : n < 4611686018427387904) (w : World) :
    Calls Tryd.prog 72 #[.int .i64 n] w fun e w' => e = .returned (.int .i64 ((n + 16) / 8)) ∧ w' = w := Any.bytealg_Cutover Tryd.lays224 n h0 h1 w
def Tryd.lays314_ren : Go.Shelf.Ren := ⟨fun | 314 => 84 | n => n, fun | 9 => 9 | 51 => 111 | 3 => 3 | 4 => 4 | 5 => 5 | 46 => 44 | n => n, fun | n => n⟩
theorem Tryd.lays314 : Go.Proofs.Lays.n314 Tryd.prog Tryd.lays314_ren := {
  mixed := by kernel_rfl
  f314 := Tryd.func84.trans (congrArg some (by kernel_rfl))
  t3 := Tryd.underlying3
  a3 := Tryd.isAgg3
  z3 := Tryd.sizeOf3
  v3 := Tryd.zeroValue3
  t4 := Tryd.underlying4
  a4 := Tryd.isAgg4
  z4 := Tryd.sizeOf4
  v4 := Tryd.zeroValue4
  t5 := Tryd.underlying5
  a5 := Tryd.isAgg5
  z5 := Tryd.sizeOf5
  v5 := Tryd.zeroValue5
  t9 := Tryd.underlying9
  a9 := Tryd.isAgg9
  z9 := Tryd.sizeOf9
  v9 := Tryd.zeroValue9
  t46 := Tryd.underlying44
  a46 := Tryd.isAgg44
  z46 := Tryd.sizeOf44
  v46 := Tryd.zeroValue44
  t51 := Tryd.underlying111
  a51 := Tryd.isAgg111
  z51 := Tryd.sizeOf111
  v51 := Tryd.zeroValue111 }
open Go.RowKit Go.Lib in
/-- hashStr: "returns the hash and the appropriate multiplicative factor for use in Rabin-Karp algorithm": THE HASH OF ALL OF sep, AND 16777619 ^ len(sep), both in uint32. (LAID: no walk: one application.) -/
theorem Tryd.bytealg_hashStr (sep : ByteArray) (hs : sep.size < 4294967281) (w : World) :
    Calls Tryd.prog 84 #[.string sep] w fun e w' => e = .returned (.tuple #[.int .u32 (RK.H sep.data.toList % 4294967296), .int .u32 (16777619 ^ sep.size % 4294967296)]) ∧ w' = w := Any.bytealg_hashStr Tryd.lays314 sep hs w
def Tryd.lays267_ren : Go.Shelf.Ren := ⟨fun | 267 => 73 | 314 => 84 | n => n, fun | 9 => 9 | 3 => 3 | 146 => 112 | 51 => 111 | 4 => 4 | 5 => 5 | 46 => 44 | n => n, fun | n => n⟩
theorem Tryd.lays267 : Go.Proofs.Lays.n267 Tryd.prog Tryd.lays267_ren := {
  mixed := by kernel_rfl
  f267 := Tryd.func73.trans (congrArg some (by kernel_rfl))
  f314 := Tryd.func84.trans (congrArg some (by kernel_rfl))
  t3 := Tryd.underlying3
  a3 := Tryd.isAgg3
  z3 := Tryd.sizeOf3
  v3 := Tryd.zeroValue3
  t4 := Tryd.underlying4
  a4 := Tryd.isAgg4
  z4 := Tryd.sizeOf4
  v4 := Tryd.zeroValue4
  t5 := Tryd.underlying5
  a5 := Tryd.isAgg5
  z5 := Tryd.sizeOf5
  v5 := Tryd.zeroValue5
  t9 := Tryd.underlying9
  a9 := Tryd.isAgg9
  z9 := Tryd.sizeOf9
  v9 := Tryd.zeroValue9
  t46 := Tryd.underlying44
  a46 := Tryd.isAgg44
  z46 := Tryd.sizeOf44
  v46 := Tryd.zeroValue44
  t51 := Tryd.underlying111
  a51 := Tryd.isAgg111
  z51 := Tryd.sizeOf111
  v51 := Tryd.zeroValue111
  t146 := Tryd.underlying112
  a146 := Tryd.isAgg112
  z146 := Tryd.sizeOf112
  v146 := Tryd.zeroValue112 }
open Go.RowKit Go.Lib in
theorem Tryd.bytealg_IndexRabinKarp (s sep : ByteArray) (h1 : 1 ≤ sep.size) (h2 : sep.size ≤ s.size) (hs : s.size < 4294967281) (w : World) :
    Calls Tryd.prog 73 #[.string s, .string sep] w fun e w' => e = .returned (.int .i64 (Lib.index s.data.toList sep.data.toList)) ∧ w' = w := Any.bytealg_IndexRabinKarp Tryd.lays267 s sep h1 h2 hs w
def Tryd.lays219_ren : Go.Shelf.Ren := ⟨fun | 219 => 57 | 217 => 70 | 225 => 71 | 224 => 72 | 267 => 73 | 266 => 83 | 314 => 84 | n => n, fun | 9 => 9 | 3 => 3 | 4 => 4 | 5 => 5 | 46 => 44 | 146 => 112 | 51 => 111 | n => n, fun | 1 => 0 | n => n⟩
theorem Tryd.lays219 : Go.Proofs.Lays.n219 Tryd.prog Tryd.lays219_ren := {
  mixed := by kernel_rfl
  f217 := Tryd.func70.trans (congrArg some (by kernel_rfl))
  f219 := Tryd.func57.trans (congrArg some (by kernel_rfl))
  f224 := Tryd.func72.trans (congrArg some (by kernel_rfl))
  f225 := Tryd.func71.trans (congrArg some (by kernel_rfl))
  f266 := Tryd.func83.trans (congrArg some (by kernel_rfl))
  f267 := Tryd.func73.trans (congrArg some (by kernel_rfl))
  f314 := Tryd.func84.trans (congrArg some (by kernel_rfl))
  t3 := Tryd.underlying3
  a3 := Tryd.isAgg3
  z3 := Tryd.sizeOf3
  v3 := Tryd.zeroValue3
  t4 := Tryd.underlying4
  a4 := Tryd.isAgg4
  z4 := Tryd.sizeOf4
  v4 := Tryd.zeroValue4
  t5 := Tryd.underlying5
  a5 := Tryd.isAgg5
  z5 := Tryd.sizeOf5
  v5 := Tryd.zeroValue5
  t9 := Tryd.underlying9
  a9 := Tryd.isAgg9
  z9 := Tryd.sizeOf9
  v9 := Tryd.zeroValue9
  t46 := Tryd.underlying44
  a46 := Tryd.isAgg44
  z46 := Tryd.sizeOf44
  v46 := Tryd.zeroValue44
  t51 := Tryd.underlying111
  a51 := Tryd.isAgg111
  z51 := Tryd.sizeOf111
  v51 := Tryd.zeroValue111
  t146 := Tryd.underlying112
  a146 := Tryd.isAgg112
  z146 := Tryd.sizeOf112
  v146 := Tryd.zeroValue112
  g1 := by kernel_rfl }
open Go.RowKit Go.Lib in
/-- internal/stringslite.Index (what strings.Index calls) AT A substr OF ONE BYTE c: IT RETURNS 'Lib.indexByte s c'; the world is as it was. (LAID: no walk: one application.) -/
theorem Tryd.stringslite_Index_one (s : ByteArray) (c : UInt8) (w : World) :
    Calls Tryd.prog 57 #[.string s, .string ⟨#[c]⟩] w fun e w' => e = .returned (.int .i64 (Lib.indexByte s.data.toList c)) ∧ w' = w := Any.stringslite_Index_one Tryd.lays219 s c w
open Go.RowKit Go.Lib in
/-- internal/stringslite.Index (what strings.Index calls) AT A substr OF WHATEVER LENGTH: IT RETURNS 'Lib.index s substr'; the world is as it was. 'm': what internal/bytealg.MaxLen holds: whatever. (LAID: no walk: one application.) -/
theorem Tryd.stringslite_Index (s sub : ByteArray) (m : Int) (w : World) (hs : s.size < 4294967281) (hm : w.cell? ⟨0, 0, none⟩ = some (.int .i64 m)) :
    Calls Tryd.prog 57 #[.string s, .string sub] w fun e w' => e = .returned (.int .i64 (Lib.index s.data.toList sub.data.toList)) ∧ w' = w := Any.stringslite_Index Tryd.lays219 s sub m w hs hm
def Tryd.lays143_ren : Go.Shelf.Ren := ⟨fun | 143 => 53 | 219 => 57 | 217 => 70 | 225 => 71 | 224 => 72 | 267 => 73 | 266 => 83 | 314 => 84 | n => n, fun | 9 => 9 | 3 => 3 | 4 => 4 | 5 => 5 | 46 => 44 | 146 => 112 | 51 => 111 | n => n, fun | 1 => 0 | n => n⟩
theorem Tryd.lays143 : Go.Proofs.Lays.n143 Tryd.prog Tryd.lays143_ren := {
  mixed := by kernel_rfl
  f143 := Tryd.func53.trans (congrArg some (by kernel_rfl))
  f217 := Tryd.func70.trans (congrArg some (by kernel_rfl))
  f219 := Tryd.func57.trans (congrArg some (by kernel_rfl))
  f224 := Tryd.func72.trans (congrArg some (by kernel_rfl))
  f225 := Tryd.func71.trans (congrArg some (by kernel_rfl))
  f266 := Tryd.func83.trans (congrArg some (by kernel_rfl))
  f267 := Tryd.func73.trans (congrArg some (by kernel_rfl))
  f314 := Tryd.func84.trans (congrArg some (by kernel_rfl))
  t3 := Tryd.underlying3
  a3 := Tryd.isAgg3
  z3 := Tryd.sizeOf3
  v3 := Tryd.zeroValue3
  t4 := Tryd.underlying4
  a4 := Tryd.isAgg4
  z4 := Tryd.sizeOf4
  v4 := Tryd.zeroValue4
  t5 := Tryd.underlying5
  a5 := Tryd.isAgg5
  z5 := Tryd.sizeOf5
  v5 := Tryd.zeroValue5
  t9 := Tryd.underlying9
  a9 := Tryd.isAgg9
  z9 := Tryd.sizeOf9
  v9 := Tryd.zeroValue9
  t46 := Tryd.underlying44
  a46 := Tryd.isAgg44
  z46 := Tryd.sizeOf44
  v46 := Tryd.zeroValue44
  t51 := Tryd.underlying111
  a51 := Tryd.isAgg111
  z51 := Tryd.sizeOf111
  v51 := Tryd.zeroValue111
  t146 := Tryd.underlying112
  a146 := Tryd.isAgg112
  z146 := Tryd.sizeOf112
  v146 := Tryd.zeroValue112
  g1 := by kernel_rfl }
open Go.RowKit Go.Lib in
/-- strings.Index: "Index returns the index of the first instance of substr in s, or -1 if substr is not present in s.": AT A substr OF ONE BYTE c: IT RETURNS 'Lib.indexByte s c'; the world is as it was. (LAID: no walk: one application.) -/
theorem Tryd.strings_Index_one (s : ByteArray) (c : UInt8) (w : World) :
    Calls Tryd.prog 53 #[.string s, .string ⟨#[c]⟩] w fun e w' => e = .returned (.int .i64 (Lib.indexByte s.data.toList c)) ∧ w' = w := Any.strings_Index_one Tryd.lays143 s c w
open Go.RowKit Go.Lib in
/-- strings.Index: "Index returns the index of the first instance of substr in s, or -1 if substr is not present in s.": IT RETURNS 'Lib.index s substr'; the world is as it was. (LAID: no walk: one application.) -/
theorem Tryd.strings_Index (s sub : ByteArray) (m : Int) (w : World) (hs : s.size < 4294967281) (hm : w.cell? ⟨0, 0, none⟩ = some (.int .i64 m)) :
    Calls Tryd.prog 53 #[.string s, .string sub] w fun e w' => e = .returned (.int .i64 (Lib.index s.data.toList sub.data.toList)) ∧ w' = w := Any.strings_Index Tryd.lays143 s sub m w hs hm
def Tryd.lays144_ren : Go.Shelf.Ren := ⟨fun | 144 => 43 | 143 => 53 | 219 => 57 | 217 => 70 | 225 => 71 | 224 => 72 | 267 => 73 | 266 => 83 | 314 => 84 | n => n, fun | 9 => 9 | 4 => 4 | 3 => 3 | 5 => 5 | 46 => 44 | 146 => 112 | 51 => 111 | n => n, fun | 1 => 0 | n => n⟩
theorem Tryd.lays144 : Go.Proofs.Lays.n144 Tryd.prog Tryd.lays144_ren := {
  mixed := by kernel_rfl
  f143 := Tryd.func53.trans (congrArg some (by kernel_rfl))
  f144 := Tryd.func43.trans (congrArg some (by kernel_rfl))
  f217 := Tryd.func70.trans (congrArg some (by kernel_rfl))
  f219 := Tryd.func57.trans (congrArg some (by kernel_rfl))
  f224 := Tryd.func72.trans (congrArg some (by kernel_rfl))
  f225 := Tryd.func71.trans (congrArg some (by kernel_rfl))
  f266 := Tryd.func83.trans (congrArg some (by kernel_rfl))
  f267 := Tryd.func73.trans (congrArg some (by kernel_rfl))
  f314 := Tryd.func84.trans (congrArg some (by kernel_rfl))
  t3 := Tryd.underlying3
  a3 := Tryd.isAgg3
  z3 := Tryd.sizeOf3
  v3 := Tryd.zeroValue3
  t4 := Tryd.underlying4
  a4 := Tryd.isAgg4
  z4 := Tryd.sizeOf4
  v4 := Tryd.zeroValue4
  t5 := Tryd.underlying5
  a5 := Tryd.isAgg5
  z5 := Tryd.sizeOf5
  v5 := Tryd.zeroValue5
  t9 := Tryd.underlying9
  a9 := Tryd.isAgg9
  z9 := Tryd.sizeOf9
  v9 := Tryd.zeroValue9
  t46 := Tryd.underlying44
  a46 := Tryd.isAgg44
  z46 := Tryd.sizeOf44
  v46 := Tryd.zeroValue44
  t51 := Tryd.underlying111
  a51 := Tryd.isAgg111
  z51 := Tryd.sizeOf111
  v51 := Tryd.zeroValue111
  t146 := Tryd.underlying112
  a146 := Tryd.isAgg112
  z146 := Tryd.sizeOf112
  v146 := Tryd.zeroValue112
  g1 := by kernel_rfl }
open Go.RowKit Go.Lib in
/-- strings.Contains: "Contains reports whether substr is within s.": AT A substr OF ONE BYTE c: IT RETURNS 'decide (0 ≤ Lib.indexByte s c)'; the world is as it was. (LAID: no walk: one application.) -/
theorem Tryd.strings_Contains_one (s : ByteArray) (c : UInt8) (w : World) :
    Calls Tryd.prog 43 #[.string s, .string ⟨#[c]⟩] w fun e w' => e = .returned (.bool (decide (0 ≤ Lib.indexByte s.data.toList c))) ∧ w' = w := Any.strings_Contains_one Tryd.lays144 s c w
open Go.RowKit Go.Lib in
/-- strings.Contains: "Contains reports whether substr is within s.": IT RETURNS 'Lib.contains s substr'; the world is as it was. (LAID: no walk: one application.) -/
theorem Tryd.strings_Contains (s sub : ByteArray) (m : Int) (w : World) (hs : s.size < 4294967281) (hm : w.cell? ⟨0, 0, none⟩ = some (.int .i64 m)) :
    Calls Tryd.prog 43 #[.string s, .string sub] w fun e w' => e = .returned (.bool (Lib.contains s.data.toList sub.data.toList)) ∧ w' = w := Any.strings_Contains Tryd.lays144 s sub m w hs hm
def Tryd.lays220_ren : Go.Shelf.Ren := ⟨fun | 220 => 41 | 219 => 57 | 217 => 70 | 225 => 71 | 224 => 72 | 267 => 73 | 266 => 83 | 314 => 84 | n => n, fun | 9 => 9 | 4 => 4 | 3 => 3 | 5 => 5 | 46 => 44 | 146 => 112 | 51 => 111 | n => n, fun | 1 => 0 | n => n⟩
theorem Tryd.lays220 : Go.Proofs.Lays.n220 Tryd.prog Tryd.lays220_ren := {
  mixed := by kernel_rfl
  f217 := Tryd.func70.trans (congrArg some (by kernel_rfl))
  f219 := Tryd.func57.trans (congrArg some (by kernel_rfl))
  f220 := Tryd.func41.trans (congrArg some (by kernel_rfl))
  f224 := Tryd.func72.trans (congrArg some (by kernel_rfl))
  f225 := Tryd.func71.trans (congrArg some (by kernel_rfl))
  f266 := Tryd.func83.trans (congrArg some (by kernel_rfl))
  f267 := Tryd.func73.trans (congrArg some (by kernel_rfl))
  f314 := Tryd.func84.trans (congrArg some (by kernel_rfl))
  t3 := Tryd.underlying3
  a3 := Tryd.isAgg3
  z3 := Tryd.sizeOf3
  v3 := Tryd.zeroValue3
  t4 := Tryd.underlying4
  a4 := Tryd.isAgg4
  z4 := Tryd.sizeOf4
  v4 := Tryd.zeroValue4
  t5 := Tryd.underlying5
  a5 := Tryd.isAgg5
  z5 := Tryd.sizeOf5
  v5 := Tryd.zeroValue5
  t9 := Tryd.underlying9
  a9 := Tryd.isAgg9
  z9 := Tryd.sizeOf9
  v9 := Tryd.zeroValue9
  t46 := Tryd.underlying44
  a46 := Tryd.isAgg44
  z46 := Tryd.sizeOf44
  v46 := Tryd.zeroValue44
  t51 := Tryd.underlying111
  a51 := Tryd.isAgg111
  z51 := Tryd.sizeOf111
  v51 := Tryd.zeroValue111
  t146 := Tryd.underlying112
  a146 := Tryd.isAgg112
  z146 := Tryd.sizeOf112
  v146 := Tryd.zeroValue112
  g1 := by kernel_rfl }
open Go.RowKit Go.Lib in
/-- internal/stringslite.Cut (what strings.Cut calls): IT RETURNS 'Lib.cut s sep'; the world is as it was but for the count of draws. (LAID: no walk: one application.) -/
theorem Tryd.stringslite_Cut (s sep : ByteArray) (m : Int) (w : World) (hs : s.size < 4294967281) (hm : w.cell? ⟨0, 0, none⟩ = some (.int .i64 m)) :
    Calls Tryd.prog 41 #[.string s, .string sep] w fun e w' => e = .returned (.tuple #[.string ⟨(Lib.cut s.data.toList sep.data.toList).1.toArray⟩, .string ⟨(Lib.cut s.data.toList sep.data.toList).2.1.toArray⟩, .bool (Lib.cut s.data.toList sep.data.toList).2.2]) ∧ ∃ n, w' = w.drewN n := Any.stringslite_Cut Tryd.lays220 s sep m w hs hm
def Tryd.lays145_ren : Go.Shelf.Ren := ⟨fun | 145 => 26 | 220 => 41 | 219 => 57 | 217 => 70 | 225 => 71 | 224 => 72 | 267 => 73 | 266 => 83 | 314 => 84 | n => n, fun | 9 => 9 | 4 => 4 | 59 => 58 | 3 => 3 | 5 => 5 | 46 => 44 | 146 => 112 | 51 => 111 | n => n, fun | 1 => 0 | n => n⟩
theorem Tryd.lays145 : Go.Proofs.Lays.n145 Tryd.prog Tryd.lays145_ren := {
  mixed := by kernel_rfl
  f145 := Tryd.func26.trans (congrArg some (by kernel_rfl))
  f217 := Tryd.func70.trans (congrArg some (by kernel_rfl))
  f219 := Tryd.func57.trans (congrArg some (by kernel_rfl))
  f220 := Tryd.func41.trans (congrArg some (by kernel_rfl))
  f224 := Tryd.func72.trans (congrArg some (by kernel_rfl))
  f225 := Tryd.func71.trans (congrArg some (by kernel_rfl))
  f266 := Tryd.func83.trans (congrArg some (by kernel_rfl))
  f267 := Tryd.func73.trans (congrArg some (by kernel_rfl))
  f314 := Tryd.func84.trans (congrArg some (by kernel_rfl))
  t3 := Tryd.underlying3
  a3 := Tryd.isAgg3
  z3 := Tryd.sizeOf3
  v3 := Tryd.zeroValue3
  t4 := Tryd.underlying4
  a4 := Tryd.isAgg4
  z4 := Tryd.sizeOf4
  v4 := Tryd.zeroValue4
  t5 := Tryd.underlying5
  a5 := Tryd.isAgg5
  z5 := Tryd.sizeOf5
  v5 := Tryd.zeroValue5
  t9 := Tryd.underlying9
  a9 := Tryd.isAgg9
  z9 := Tryd.sizeOf9
  v9 := Tryd.zeroValue9
  t46 := Tryd.underlying44
  a46 := Tryd.isAgg44
  z46 := Tryd.sizeOf44
  v46 := Tryd.zeroValue44
  t51 := Tryd.underlying111
  a51 := Tryd.isAgg111
  z51 := Tryd.sizeOf111
  v51 := Tryd.zeroValue111
  t59 := Tryd.underlying58
  a59 := Tryd.isAgg58
  z59 := Tryd.sizeOf58
  v59 := Tryd.zeroValue58
  t146 := Tryd.underlying112
  a146 := Tryd.isAgg112
  z146 := Tryd.sizeOf112
  v146 := Tryd.zeroValue112
  g1 := by kernel_rfl }
open Go.RowKit Go.Lib in
/-- strings.Cut: "Cut slices s around the first instance of sep, returning the text before and after sep. The found result reports whether sep appears in s. If sep does not appear in s, cut returns s, "", false.": IT RETURNS 'Lib.cut s sep'; the world is as it was but for the count of draws. (LAID: no walk: one application.) -/
theorem Tryd.strings_Cut (s sep : ByteArray) (m : Int) (w : World) (hs : s.size < 4294967281) (hm : w.cell? ⟨0, 0, none⟩ = some (.int .i64 m)) :
    Calls Tryd.prog 26 #[.string s, .string sep] w fun e w' => e = .returned (.tuple #[.string ⟨(Lib.cut s.data.toList sep.data.toList).1.toArray⟩, .string ⟨(Lib.cut s.data.toList sep.data.toList).2.1.toArray⟩, .bool (Lib.cut s.data.toList sep.data.toList).2.2]) ∧ ∃ n, w' = w.drewN n := Any.strings_Cut Tryd.lays145 s sep m w hs hm
def Tryd.lays138_ren : Go.Shelf.Ren := ⟨fun | 138 => 51 | 195 => 65 | 218 => 66 | 143 => 53 | 219 => 57 | 217 => 70 | 225 => 71 | 224 => 72 | 267 => 73 | 266 => 83 | 314 => 84 | n => n, fun | 9 => 9 | 3 => 3 | 4 => 4 | 5 => 5 | 0 => 0 | 46 => 44 | 146 => 112 | 51 => 111 | n => n, fun | 1 => 0 | n => n⟩
theorem Tryd.lays138 : Go.Proofs.Lays.n138 Tryd.prog Tryd.lays138_ren := {
  mixed := by kernel_rfl
  f138 := Tryd.func51.trans (congrArg some (by kernel_rfl))
  f143 := Tryd.func53.trans (congrArg some (by kernel_rfl))
  f195 := Tryd.func65.trans (congrArg some (by kernel_rfl))
  f217 := Tryd.func70.trans (congrArg some (by kernel_rfl))
  f218 := Tryd.func66.trans (congrArg some (by kernel_rfl))
  f219 := Tryd.func57.trans (congrArg some (by kernel_rfl))
  f224 := Tryd.func72.trans (congrArg some (by kernel_rfl))
  f225 := Tryd.func71.trans (congrArg some (by kernel_rfl))
  f266 := Tryd.func83.trans (congrArg some (by kernel_rfl))
  f267 := Tryd.func73.trans (congrArg some (by kernel_rfl))
  f314 := Tryd.func84.trans (congrArg some (by kernel_rfl))
  t0 := Tryd.underlying0
  a0 := Tryd.isAgg0
  z0 := Tryd.sizeOf0
  v0 := Tryd.zeroValue0
  t3 := Tryd.underlying3
  a3 := Tryd.isAgg3
  z3 := Tryd.sizeOf3
  v3 := Tryd.zeroValue3
  t4 := Tryd.underlying4
  a4 := Tryd.isAgg4
  z4 := Tryd.sizeOf4
  v4 := Tryd.zeroValue4
  t5 := Tryd.underlying5
  a5 := Tryd.isAgg5
  z5 := Tryd.sizeOf5
  v5 := Tryd.zeroValue5
  t9 := Tryd.underlying9
  a9 := Tryd.isAgg9
  z9 := Tryd.sizeOf9
  v9 := Tryd.zeroValue9
  t46 := Tryd.underlying44
  a46 := Tryd.isAgg44
  z46 := Tryd.sizeOf44
  v46 := Tryd.zeroValue44
  t51 := Tryd.underlying111
  a51 := Tryd.isAgg111
  z51 := Tryd.sizeOf111
  v51 := Tryd.zeroValue111
  t146 := Tryd.underlying112
  a146 := Tryd.isAgg112
  z146 := Tryd.sizeOf112
  v146 := Tryd.zeroValue112
  g1 := by kernel_rfl }
open Go.RowKit Go.Lib in
/-- strings.Count AT A substr OF ONE BYTE ('hp'): "Count counts the number of non-overlapping instances of substr in s.": IT RETURNS 'Lib.countByte s (that byte)'; the world is as it was. ✋ NO CONTRACT HERE YET at an empty substr (utf8.RuneCountInString) or at a longer one (a loop over strings.Index). (LAID: no walk: one application.) -/
theorem Tryd.strings_Count_one (s : ByteArray) (c : UInt8) (w : World) :
    Calls Tryd.prog 51 #[.string s, .string ⟨#[c]⟩] w fun e w' => e = .returned (.int .i64 (Lib.countByte s.data.toList c)) ∧ w' = w := Any.strings_Count_one Tryd.lays138 s c w
open Go.RowKit Go.Lib in
/-- strings.Count AT A substr OF TWO BYTES OR MORE: "Count counts the number of non-overlapping instances of substr in s.": IT RETURNS 'Lib.count s substr'; the world is as it was. (LAID: no walk: one application.) -/
theorem Tryd.strings_Count (s sub : ByteArray) (m : Int) (w : World) (hs : s.size < 4294967281) (hm : w.cell? ⟨0, 0, none⟩ = some (.int .i64 m)) (h2 : 2 ≤ sub.size) :
    Calls Tryd.prog 51 #[.string s, .string sub] w fun e w' => e = .returned (.int .i64 (Lib.countB s sub)) ∧ w' = w := Any.strings_Count Tryd.lays138 s sub m w hs hm h2
def Tryd.laysM219_ren : Go.Shelf.Ren := ⟨fun | 219 => 57 | 217 => 70 | 225 => 71 | 224 => 72 | 267 => 73 | 266 => 83 | 314 => 84 | n => n, fun | 9 => 9 | 3 => 3 | 4 => 4 | 5 => 5 | 46 => 44 | 146 => 112 | 51 => 111 | n => n, fun | 1 => 0 | n => n⟩
theorem Tryd.laysM219 : Go.Proofs.LaysM.n219 Tryd.prog Tryd.laysM219_ren := {
  mixed := by kernel_rfl
  f217 := Tryd.func70.trans (congrArg some (by kernel_rfl))
  f219 := Tryd.func57.trans (congrArg some (by kernel_rfl))
  f224 := Tryd.func72.trans (congrArg some (by kernel_rfl))
  f225 := Tryd.func71.trans (congrArg some (by kernel_rfl))
  f266 := Tryd.func83.trans (congrArg some (by kernel_rfl))
  f267 := Tryd.func73.trans (congrArg some (by kernel_rfl))
  f314 := Tryd.func84.trans (congrArg some (by kernel_rfl))
  t3 := Tryd.underlying3
  a3 := Tryd.isAgg3
  z3 := Tryd.sizeOf3
  v3 := Tryd.zeroValue3
  t4 := Tryd.underlying4
  a4 := Tryd.isAgg4
  z4 := Tryd.sizeOf4
  v4 := Tryd.zeroValue4
  t5 := Tryd.underlying5
  a5 := Tryd.isAgg5
  z5 := Tryd.sizeOf5
  v5 := Tryd.zeroValue5
  t9 := Tryd.underlying9
  a9 := Tryd.isAgg9
  z9 := Tryd.sizeOf9
  v9 := Tryd.zeroValue9
  t46 := Tryd.underlying44
  a46 := Tryd.isAgg44
  z46 := Tryd.sizeOf44
  v46 := Tryd.zeroValue44
  t51 := Tryd.underlying111
  a51 := Tryd.isAgg111
  z51 := Tryd.sizeOf111
  v51 := Tryd.zeroValue111
  t146 := Tryd.underlying112
  a146 := Tryd.isAgg112
  z146 := Tryd.sizeOf112
  v146 := Tryd.zeroValue112
  g1 := by kernel_rfl
  i3 := by kernel_rfl
  i4 := by kernel_rfl
  i5 := by kernel_rfl
  i9 := by kernel_rfl
  i46 := by kernel_rfl
  i51 := by kernel_rfl
  i146 := by kernel_rfl
  m1 := by kernel_rfl
  s1_3 := fun w h => Go.Proofs.cell_of_shapedOpen_int (zero := #[.int .i64 0]) (t := 3) h (of_decide_eq_true (by kernel_rfl)) (by kernel_rfl) rfl (by kernel_rfl) (by kernel_rfl) Tryd.underlying3 }
open Go.RowKit Go.Lib in
theorem Tryd.stringslite_Index_shaped (s sub : ByteArray) (w : World) (h : w.ShapedOpen Tryd.prog) (hs : s.size < 4294967281) :
    Calls Tryd.prog 57 #[.string s, .string sub] w fun e w' => e = .returned (.int .i64 (Lib.index s.data.toList sub.data.toList)) ∧ w' = w := Any.stringslite_Index_shaped Tryd.laysM219 s sub w h hs
def Tryd.laysM143_ren : Go.Shelf.Ren := ⟨fun | 143 => 53 | 219 => 57 | 217 => 70 | 225 => 71 | 224 => 72 | 267 => 73 | 266 => 83 | 314 => 84 | n => n, fun | 9 => 9 | 3 => 3 | 4 => 4 | 5 => 5 | 46 => 44 | 146 => 112 | 51 => 111 | n => n, fun | 1 => 0 | n => n⟩
theorem Tryd.laysM143 : Go.Proofs.LaysM.n143 Tryd.prog Tryd.laysM143_ren := {
  mixed := by kernel_rfl
  f143 := Tryd.func53.trans (congrArg some (by kernel_rfl))
  f217 := Tryd.func70.trans (congrArg some (by kernel_rfl))
  f219 := Tryd.func57.trans (congrArg some (by kernel_rfl))
  f224 := Tryd.func72.trans (congrArg some (by kernel_rfl))
  f225 := Tryd.func71.trans (congrArg some (by kernel_rfl))
  f266 := Tryd.func83.trans (congrArg some (by kernel_rfl))
  f267 := Tryd.func73.trans (congrArg some (by kernel_rfl))
  f314 := Tryd.func84.trans (congrArg some (by kernel_rfl))
  t3 := Tryd.underlying3
  a3 := Tryd.isAgg3
  z3 := Tryd.sizeOf3
  v3 := Tryd.zeroValue3
  t4 := Tryd.underlying4
  a4 := Tryd.isAgg4
  z4 := Tryd.sizeOf4
  v4 := Tryd.zeroValue4
  t5 := Tryd.underlying5
  a5 := Tryd.isAgg5
  z5 := Tryd.sizeOf5
  v5 := Tryd.zeroValue5
  t9 := Tryd.underlying9
  a9 := Tryd.isAgg9
  z9 := Tryd.sizeOf9
  v9 := Tryd.zeroValue9
  t46 := Tryd.underlying44
  a46 := Tryd.isAgg44
  z46 := Tryd.sizeOf44
  v46 := Tryd.zeroValue44
  t51 := Tryd.underlying111
  a51 := Tryd.isAgg111
  z51 := Tryd.sizeOf111
  v51 := Tryd.zeroValue111
  t146 := Tryd.underlying112
  a146 := Tryd.isAgg112
  z146 := Tryd.sizeOf112
  v146 := Tryd.zeroValue112
  g1 := by kernel_rfl
  i3 := by kernel_rfl
  i4 := by kernel_rfl
  i5 := by kernel_rfl
  i9 := by kernel_rfl
  i46 := by kernel_rfl
  i51 := by kernel_rfl
  i146 := by kernel_rfl
  m1 := by kernel_rfl
  s1_3 := fun w h => Go.Proofs.cell_of_shapedOpen_int (zero := #[.int .i64 0]) (t := 3) h (of_decide_eq_true (by kernel_rfl)) (by kernel_rfl) rfl (by kernel_rfl) (by kernel_rfl) Tryd.underlying3 }
open Go.RowKit Go.Lib in
theorem Tryd.strings_Index_shaped (s sub : ByteArray) (w : World) (h : w.ShapedOpen Tryd.prog) (hs : s.size < 4294967281) :
    Calls Tryd.prog 53 #[.string s, .string sub] w fun e w' => e = .returned (.int .i64 (Lib.index s.data.toList sub.data.toList)) ∧ w' = w := Any.strings_Index_shaped Tryd.laysM143 s sub w h hs
def Tryd.laysM144_ren : Go.Shelf.Ren := ⟨fun | 144 => 43 | 143 => 53 | 219 => 57 | 217 => 70 | 225 => 71 | 224 => 72 | 267 => 73 | 266 => 83 | 314 => 84 | n => n, fun | 9 => 9 | 4 => 4 | 3 => 3 | 5 => 5 | 46 => 44 | 146 => 112 | 51 => 111 | n => n, fun | 1 => 0 | n => n⟩
theorem Tryd.laysM144 : Go.Proofs.LaysM.n144 Tryd.prog Tryd.laysM144_ren := {
  mixed := by kernel_rfl
  f143 := Tryd.func53.trans (congrArg some (by kernel_rfl))
  f144 := Tryd.func43.trans (congrArg some (by kernel_rfl))
  f217 := Tryd.func70.trans (congrArg some (by kernel_rfl))
  f219 := Tryd.func57.trans (congrArg some (by kernel_rfl))
  f224 := Tryd.func72.trans (congrArg some (by kernel_rfl))
  f225 := Tryd.func71.trans (congrArg some (by kernel_rfl))
  f266 := Tryd.func83.trans (congrArg some (by kernel_rfl))
  f267 := Tryd.func73.trans (congrArg some (by kernel_rfl))
  f314 := Tryd.func84.trans (congrArg some (by kernel_rfl))
  t3 := Tryd.underlying3
  a3 := Tryd.isAgg3
  z3 := Tryd.sizeOf3
  v3 := Tryd.zeroValue3
  t4 := Tryd.underlying4
  a4 := Tryd.isAgg4
  z4 := Tryd.sizeOf4
  v4 := Tryd.zeroValue4
  t5 := Tryd.underlying5
  a5 := Tryd.isAgg5
  z5 := Tryd.sizeOf5
  v5 := Tryd.zeroValue5
  t9 := Tryd.underlying9
  a9 := Tryd.isAgg9
  z9 := Tryd.sizeOf9
  v9 := Tryd.zeroValue9
  t46 := Tryd.underlying44
  a46 := Tryd.isAgg44
  z46 := Tryd.sizeOf44
  v46 := Tryd.zeroValue44
  t51 := Tryd.underlying111
  a51 := Tryd.isAgg111
  z51 := Tryd.sizeOf111
  v51 := Tryd.zeroValue111
  t146 := Tryd.underlying112
  a146 := Tryd.isAgg112
  z146 := Tryd.sizeOf112
  v146 := Tryd.zeroValue112
  g1 := by kernel_rfl
  i3 := by kernel_rfl
  i4 := by kernel_rfl
  i5 := by kernel_rfl
  i9 := by kernel_rfl
  i46 := by kernel_rfl
  i51 := by kernel_rfl
  i146 := by kernel_rfl
  m1 := by kernel_rfl
  s1_3 := fun w h => Go.Proofs.cell_of_shapedOpen_int (zero := #[.int .i64 0]) (t := 3) h (of_decide_eq_true (by kernel_rfl)) (by kernel_rfl) rfl (by kernel_rfl) (by kernel_rfl) Tryd.underlying3 }
open Go.RowKit Go.Lib in
theorem Tryd.strings_Contains_shaped (s sub : ByteArray) (w : World) (h : w.ShapedOpen Tryd.prog) (hs : s.size < 4294967281) :
    Calls Tryd.prog 43 #[.string s, .string sub] w fun e w' => e = .returned (.bool (Lib.contains s.data.toList sub.data.toList)) ∧ w' = w := Any.strings_Contains_shaped Tryd.laysM144 s sub w h hs
def Tryd.laysM220_ren : Go.Shelf.Ren := ⟨fun | 220 => 41 | 219 => 57 | 217 => 70 | 225 => 71 | 224 => 72 | 267 => 73 | 266 => 83 | 314 => 84 | n => n, fun | 9 => 9 | 4 => 4 | 3 => 3 | 5 => 5 | 46 => 44 | 146 => 112 | 51 => 111 | n => n, fun | 1 => 0 | n => n⟩
theorem Tryd.laysM220 : Go.Proofs.LaysM.n220 Tryd.prog Tryd.laysM220_ren := {
  mixed := by kernel_rfl
  f217 := Tryd.func70.trans (congrArg some (by kernel_rfl))
  f219 := Tryd.func57.trans (congrArg some (by kernel_rfl))
  f220 := Tryd.func41.trans (congrArg some (by kernel_rfl))
  f224 := Tryd.func72.trans (congrArg some (by kernel_rfl))
  f225 := Tryd.func71.trans (congrArg some (by kernel_rfl))
  f266 := Tryd.func83.trans (congrArg some (by kernel_rfl))
  f267 := Tryd.func73.trans (congrArg some (by kernel_rfl))
  f314 := Tryd.func84.trans (congrArg some (by kernel_rfl))
  t3 := Tryd.underlying3
  a3 := Tryd.isAgg3
  z3 := Tryd.sizeOf3
  v3 := Tryd.zeroValue3
  t4 := Tryd.underlying4
  a4 := Tryd.isAgg4
  z4 := Tryd.sizeOf4
  v4 := Tryd.zeroValue4
  t5 := Tryd.underlying5
  a5 := Tryd.isAgg5
  z5 := Tryd.sizeOf5
  v5 := Tryd.zeroValue5
  t9 := Tryd.underlying9
  a9 := Tryd.isAgg9
  z9 := Tryd.sizeOf9
  v9 := Tryd.zeroValue9
  t46 := Tryd.underlying44
  a46 := Tryd.isAgg44
  z46 := Tryd.sizeOf44
  v46 := Tryd.zeroValue44
  t51 := Tryd.underlying111
  a51 := Tryd.isAgg111
  z51 := Tryd.sizeOf111
  v51 := Tryd.zeroValue111
  t146 := Tryd.underlying112
  a146 := Tryd.isAgg112
  z146 := Tryd.sizeOf112
  v146 := Tryd.zeroValue112
  g1 := by kernel_rfl
  i3 := by kernel_rfl
  i4 := by kernel_rfl
  i5 := by kernel_rfl
  i9 := by kernel_rfl
  i46 := by kernel_rfl
  i51 := by kernel_rfl
  i146 := by kernel_rfl
  m1 := by kernel_rfl
  s1_3 := fun w h => Go.Proofs.cell_of_shapedOpen_int (zero := #[.int .i64 0]) (t := 3) h (of_decide_eq_true (by kernel_rfl)) (by kernel_rfl) rfl (by kernel_rfl) (by kernel_rfl) Tryd.underlying3 }
open Go.RowKit Go.Lib in
theorem Tryd.stringslite_Cut_shaped (s sep : ByteArray) (w : World) (h : w.ShapedOpen Tryd.prog) (hs : s.size < 4294967281) :
    Calls Tryd.prog 41 #[.string s, .string sep] w fun e w' => e = .returned (.tuple #[.string ⟨(Lib.cut s.data.toList sep.data.toList).1.toArray⟩, .string ⟨(Lib.cut s.data.toList sep.data.toList).2.1.toArray⟩, .bool (Lib.cut s.data.toList sep.data.toList).2.2]) ∧ ∃ n, w' = w.drewN n := Any.stringslite_Cut_shaped Tryd.laysM220 s sep w h hs
def Tryd.laysM145_ren : Go.Shelf.Ren := ⟨fun | 145 => 26 | 220 => 41 | 219 => 57 | 217 => 70 | 225 => 71 | 224 => 72 | 267 => 73 | 266 => 83 | 314 => 84 | n => n, fun | 9 => 9 | 4 => 4 | 59 => 58 | 3 => 3 | 5 => 5 | 46 => 44 | 146 => 112 | 51 => 111 | n => n, fun | 1 => 0 | n => n⟩
theorem Tryd.laysM145 : Go.Proofs.LaysM.n145 Tryd.prog Tryd.laysM145_ren := {
  mixed := by kernel_rfl
  f145 := Tryd.func26.trans (congrArg some (by kernel_rfl))
  f217 := Tryd.func70.trans (congrArg some (by kernel_rfl))
  f219 := Tryd.func57.trans (congrArg some (by kernel_rfl))
  f220 := Tryd.func41.trans (congrArg some (by kernel_rfl))
  f224 := Tryd.func72.trans (congrArg some (by kernel_rfl))
  f225 := Tryd.func71.trans (congrArg some (by kernel_rfl))
  f266 := Tryd.func83.trans (congrArg some (by kernel_rfl))
  f267 := Tryd.func73.trans (congrArg some (by kernel_rfl))
  f314 := Tryd.func84.trans (congrArg some (by kernel_rfl))
  t3 := Tryd.underlying3
  a3 := Tryd.isAgg3
  z3 := Tryd.sizeOf3
  v3 := Tryd.zeroValue3
  t4 := Tryd.underlying4
  a4 := Tryd.isAgg4
  z4 := Tryd.sizeOf4
  v4 := Tryd.zeroValue4
  t5 := Tryd.underlying5
  a5 := Tryd.isAgg5
  z5 := Tryd.sizeOf5
  v5 := Tryd.zeroValue5
  t9 := Tryd.underlying9
  a9 := Tryd.isAgg9
  z9 := Tryd.sizeOf9
  v9 := Tryd.zeroValue9
  t46 := Tryd.underlying44
  a46 := Tryd.isAgg44
  z46 := Tryd.sizeOf44
  v46 := Tryd.zeroValue44
  t51 := Tryd.underlying111
  a51 := Tryd.isAgg111
  z51 := Tryd.sizeOf111
  v51 := Tryd.zeroValue111
  t59 := Tryd.underlying58
  a59 := Tryd.isAgg58
  z59 := Tryd.sizeOf58
  v59 := Tryd.zeroValue58
  t146 := Tryd.underlying112
  a146 := Tryd.isAgg112
  z146 := Tryd.sizeOf112
  v146 := Tryd.zeroValue112
  g1 := by kernel_rfl
  i3 := by kernel_rfl
  i4 := by kernel_rfl
  i5 := by kernel_rfl
  i9 := by kernel_rfl
  i46 := by kernel_rfl
  i51 := by kernel_rfl
  i59 := by kernel_rfl
  i146 := by kernel_rfl
  m1 := by kernel_rfl
  s1_3 := fun w h => Go.Proofs.cell_of_shapedOpen_int (zero := #[.int .i64 0]) (t := 3) h (of_decide_eq_true (by kernel_rfl)) (by kernel_rfl) rfl (by kernel_rfl) (by kernel_rfl) Tryd.underlying3 }
open Go.RowKit Go.Lib in
theorem Tryd.strings_Cut_shaped (s sep : ByteArray) (w : World) (h : w.ShapedOpen Tryd.prog) (hs : s.size < 4294967281) :
    Calls Tryd.prog 26 #[.string s, .string sep] w fun e w' => e = .returned (.tuple #[.string ⟨(Lib.cut s.data.toList sep.data.toList).1.toArray⟩, .string ⟨(Lib.cut s.data.toList sep.data.toList).2.1.toArray⟩, .bool (Lib.cut s.data.toList sep.data.toList).2.2]) ∧ ∃ n, w' = w.drewN n := Any.strings_Cut_shaped Tryd.laysM145 s sep w h hs
def Tryd.laysM138_ren : Go.Shelf.Ren := ⟨fun | 138 => 51 | 195 => 65 | 218 => 66 | 143 => 53 | 219 => 57 | 217 => 70 | 225 => 71 | 224 => 72 | 267 => 73 | 266 => 83 | 314 => 84 | n => n, fun | 9 => 9 | 3 => 3 | 4 => 4 | 5 => 5 | 0 => 0 | 46 => 44 | 146 => 112 | 51 => 111 | n => n, fun | 1 => 0 | n => n⟩
theorem Tryd.laysM138 : Go.Proofs.LaysM.n138 Tryd.prog Tryd.laysM138_ren := {
  mixed := by kernel_rfl
  f138 := Tryd.func51.trans (congrArg some (by kernel_rfl))
  f143 := Tryd.func53.trans (congrArg some (by kernel_rfl))
  f195 := Tryd.func65.trans (congrArg some (by kernel_rfl))
  f217 := Tryd.func70.trans (congrArg some (by kernel_rfl))
  f218 := Tryd.func66.trans (congrArg some (by kernel_rfl))
  f219 := Tryd.func57.trans (congrArg some (by kernel_rfl))
  f224 := Tryd.func72.trans (congrArg some (by kernel_rfl))
  f225 := Tryd.func71.trans (congrArg some (by kernel_rfl))
  f266 := Tryd.func83.trans (congrArg some (by kernel_rfl))
  f267 := Tryd.func73.trans (congrArg some (by kernel_rfl))
  f314 := Tryd.func84.trans (congrArg some (by kernel_rfl))
  t0 := Tryd.underlying0
  a0 := Tryd.isAgg0
  z0 := Tryd.sizeOf0
  v0 := Tryd.zeroValue0
  t3 := Tryd.underlying3
  a3 := Tryd.isAgg3
  z3 := Tryd.sizeOf3
  v3 := Tryd.zeroValue3
  t4 := Tryd.underlying4
  a4 := Tryd.isAgg4
  z4 := Tryd.sizeOf4
  v4 := Tryd.zeroValue4
  t5 := Tryd.underlying5
  a5 := Tryd.isAgg5
  z5 := Tryd.sizeOf5
  v5 := Tryd.zeroValue5
  t9 := Tryd.underlying9
  a9 := Tryd.isAgg9
  z9 := Tryd.sizeOf9
  v9 := Tryd.zeroValue9
  t46 := Tryd.underlying44
  a46 := Tryd.isAgg44
  z46 := Tryd.sizeOf44
  v46 := Tryd.zeroValue44
  t51 := Tryd.underlying111
  a51 := Tryd.isAgg111
  z51 := Tryd.sizeOf111
  v51 := Tryd.zeroValue111
  t146 := Tryd.underlying112
  a146 := Tryd.isAgg112
  z146 := Tryd.sizeOf112
  v146 := Tryd.zeroValue112
  g1 := by kernel_rfl
  i0 := by kernel_rfl
  i3 := by kernel_rfl
  i4 := by kernel_rfl
  i5 := by kernel_rfl
  i9 := by kernel_rfl
  i46 := by kernel_rfl
  i51 := by kernel_rfl
  i146 := by kernel_rfl
  m1 := by kernel_rfl
  s1_3 := fun w h => Go.Proofs.cell_of_shapedOpen_int (zero := #[.int .i64 0]) (t := 3) h (of_decide_eq_true (by kernel_rfl)) (by kernel_rfl) rfl (by kernel_rfl) (by kernel_rfl) Tryd.underlying3 }
open Go.RowKit Go.Lib in
theorem Tryd.strings_Count_shaped (s sub : ByteArray) (w : World) (h : w.ShapedOpen Tryd.prog) (hs : s.size < 4294967281) (h2 : 2 ≤ sub.size) :
    Calls Tryd.prog 51 #[.string s, .string sub] w fun e w' => e = .returned (.int .i64 (Lib.countB s sub)) ∧ w' = w := Any.strings_Count_shaped Tryd.laysM138 s sub w h hs h2
def Tryd.lays206_ren : Go.Shelf.Ren := ⟨fun | 206 => 40 | n => n, fun | 9 => 9 | 4 => 4 | 3 => 3 | n => n, fun | n => n⟩
theorem Tryd.lays206 : Go.Proofs.Lays.n206 Tryd.prog Tryd.lays206_ren := {
  mixed := by kernel_rfl
  f206 := Tryd.func40.trans (congrArg some (by kernel_rfl))
  t3 := Tryd.underlying3
  a3 := Tryd.isAgg3
  z3 := Tryd.sizeOf3
  v3 := Tryd.zeroValue3
  t4 := Tryd.underlying4
  a4 := Tryd.isAgg4
  z4 := Tryd.sizeOf4
  v4 := Tryd.zeroValue4
  t9 := Tryd.underlying9
  a9 := Tryd.isAgg9
  z9 := Tryd.sizeOf9
  v9 := Tryd.zeroValue9 }
open Go.RowKit Go.Lib in
/-- internal/stringslite.HasPrefix (what strings.HasPrefix calls). (LAID: no walk: one application.) -/
theorem Tryd.stringslite_HasPrefix (s p : ByteArray) (w : World) :
    Calls Tryd.prog 40 #[.string s, .string p] w fun e w' => e = .returned (.bool (Lib.hasPrefix s.data.toList p.data.toList)) ∧ w' = w := Any.stringslite_HasPrefix Tryd.lays206 s p w
def Tryd.lays99_ren : Go.Shelf.Ren := ⟨fun | 99 => 25 | 206 => 40 | n => n, fun | 9 => 9 | 4 => 4 | 3 => 3 | n => n, fun | n => n⟩
theorem Tryd.lays99 : Go.Proofs.Lays.n99 Tryd.prog Tryd.lays99_ren := {
  mixed := by kernel_rfl
  f99 := Tryd.func25.trans (congrArg some (by kernel_rfl))
  f206 := Tryd.func40.trans (congrArg some (by kernel_rfl))
  t3 := Tryd.underlying3
  a3 := Tryd.isAgg3
  z3 := Tryd.sizeOf3
  v3 := Tryd.zeroValue3
  t4 := Tryd.underlying4
  a4 := Tryd.isAgg4
  z4 := Tryd.sizeOf4
  v4 := Tryd.zeroValue4
  t9 := Tryd.underlying9
  a9 := Tryd.isAgg9
  z9 := Tryd.sizeOf9
  v9 := Tryd.zeroValue9 }
open Go.RowKit Go.Lib in
/-- strings.HasPrefix: "HasPrefix reports whether the string s begins with prefix.": IT RETURNS 'Lib.hasPrefix s prefix'; the world is as it was. (LAID: no walk: one application.) -/
theorem Tryd.strings_HasPrefix (s p : ByteArray) (w : World) :
    Calls Tryd.prog 25 #[.string s, .string p] w fun e w' => e = .returned (.bool (Lib.hasPrefix s.data.toList p.data.toList)) ∧ w' = w := Any.strings_HasPrefix Tryd.lays99 s p w
open Go.RowKit Go.Lib in
/-- strings.Count at whatever sep that is not empty: the two roads under one statement. (LAID: no walk: one application.) -/
theorem Tryd.strings_Count_any (s sep : ByteArray) (m : Int) (w : World) (hs : s.size < 4294967281) (hm : w.cell? ⟨0, 0, none⟩ = some (.int .i64 m)) (h1 : 1 ≤ sep.size) :
    Calls Tryd.prog 51 #[.string s, .string sep] w fun e w' => e = .returned (.int .i64 (Lib.countB s sep)) ∧ w' = w := Any.strings_Count_any Tryd.lays138 s sep m w hs hm h1
def Tryd.lays154_ren : Go.Shelf.Ren := ⟨fun | 154 => 39 | 138 => 51 | 165 => 52 | 143 => 53 | 166 => 54 | 197 => 55 | 169 => 56 | 195 => 65 | 218 => 66 | 240 => 67 | 241 => 68 | 219 => 57 | 260 => 69 | 276 => 81 | 277 => 82 | 217 => 70 | 225 => 71 | 224 => 72 | 267 => 73 | 266 => 83 | 314 => 84 | n => n, fun | 9 => 9 | 3 => 3 | 4 => 4 | 72 => 84 | 0 => 0 | 76 => 72 | 105 => 86 | 21 => 21 | 5 => 5 | 70 => 82 | 20 => 20 | 37 => 33 | 75 => 71 | 127 => 95 | 164 => 104 | 46 => 44 | 119 => 107 | 139 => 110 | 138 => 109 | 146 => 112 | 51 => 111 | 80 => 88 | n => n, fun | 1 => 0 | 3 => 1 | 4 => 2 | n => n⟩
theorem Tryd.lays154 : Go.Proofs.Lays.n154 Tryd.prog Tryd.lays154_ren := {
  mixed := by kernel_rfl
  f138 := Tryd.func51.trans (congrArg some (by kernel_rfl))
  f143 := Tryd.func53.trans (congrArg some (by kernel_rfl))
  f154 := Tryd.func39.trans (congrArg some (by kernel_rfl))
  f165 := Tryd.func52.trans (congrArg some (by kernel_rfl))
  f166 := Tryd.func54.trans (congrArg some (by kernel_rfl))
  f169 := Tryd.func56.trans (congrArg some (by kernel_rfl))
  f195 := Tryd.func65.trans (congrArg some (by kernel_rfl))
  f197 := Tryd.func55.trans (congrArg some (by kernel_rfl))
  f217 := Tryd.func70.trans (congrArg some (by kernel_rfl))
  f218 := Tryd.func66.trans (congrArg some (by kernel_rfl))
  f219 := Tryd.func57.trans (congrArg some (by kernel_rfl))
  f224 := Tryd.func72.trans (congrArg some (by kernel_rfl))
  f225 := Tryd.func71.trans (congrArg some (by kernel_rfl))
  f240 := Tryd.func67.trans (congrArg some (by kernel_rfl))
  f241 := Tryd.func68.trans (congrArg some (by kernel_rfl))
  f260 := Tryd.func69.trans (congrArg some (by kernel_rfl))
  f266 := Tryd.func83.trans (congrArg some (by kernel_rfl))
  f267 := Tryd.func73.trans (congrArg some (by kernel_rfl))
  f276 := Tryd.func81.trans (congrArg some (by kernel_rfl))
  f277 := Tryd.func82.trans (congrArg some (by kernel_rfl))
  f314 := Tryd.func84.trans (congrArg some (by kernel_rfl))
  t0 := Tryd.underlying0
  a0 := Tryd.isAgg0
  z0 := Tryd.sizeOf0
  v0 := Tryd.zeroValue0
  t3 := Tryd.underlying3
  a3 := Tryd.isAgg3
  z3 := Tryd.sizeOf3
  v3 := Tryd.zeroValue3
  t4 := Tryd.underlying4
  a4 := Tryd.isAgg4
  z4 := Tryd.sizeOf4
  v4 := Tryd.zeroValue4
  t5 := Tryd.underlying5
  a5 := Tryd.isAgg5
  z5 := Tryd.sizeOf5
  v5 := Tryd.zeroValue5
  t9 := Tryd.underlying9
  a9 := Tryd.isAgg9
  z9 := Tryd.sizeOf9
  v9 := Tryd.zeroValue9
  t20 := Tryd.underlying20
  a20 := Tryd.isAgg20
  z20 := Tryd.sizeOf20
  v20 := Tryd.zeroValue20
  t21 := Tryd.underlying21
  a21 := Tryd.isAgg21
  z21 := Tryd.sizeOf21
  v21 := Tryd.zeroValue21
  t37 := Tryd.underlying33
  a37 := Tryd.isAgg33
  z37 := Tryd.sizeOf33
  v37 := Tryd.zeroValue33
  t46 := Tryd.underlying44
  a46 := Tryd.isAgg44
  z46 := Tryd.sizeOf44
  v46 := Tryd.zeroValue44
  t51 := Tryd.underlying111
  a51 := Tryd.isAgg111
  z51 := Tryd.sizeOf111
  v51 := Tryd.zeroValue111
  t70 := Tryd.underlying82
  a70 := Tryd.isAgg82
  z70 := Tryd.sizeOf82
  v70 := Tryd.zeroValue82
  t72 := Tryd.underlying84
  a72 := Tryd.isAgg84
  z72 := Tryd.sizeOf84
  v72 := Tryd.zeroValue84
  t75 := Tryd.underlying71
  a75 := Tryd.isAgg71
  z75 := Tryd.sizeOf71
  v75 := Tryd.zeroValue71
  t76 := Tryd.underlying72
  a76 := Tryd.isAgg72
  z76 := Tryd.sizeOf72
  v76 := Tryd.zeroValue72
  t105 := Tryd.underlying86
  a105 := Tryd.isAgg86
  z105 := Tryd.sizeOf86
  v105 := Tryd.zeroValue86
  t119 := Tryd.underlying107
  a119 := Tryd.isAgg107
  z119 := Tryd.sizeOf107
  t127 := Tryd.underlying95
  a127 := Tryd.isAgg95
  z127 := Tryd.sizeOf95
  v127 := Tryd.zeroValue95
  t138 := Tryd.underlying109
  a138 := Tryd.isAgg109
  z138 := Tryd.sizeOf109
  v138 := Tryd.zeroValue109
  t139 := Tryd.underlying110
  a139 := Tryd.isAgg110
  z139 := Tryd.sizeOf110
  v139 := Tryd.zeroValue110
  t146 := Tryd.underlying112
  a146 := Tryd.isAgg112
  z146 := Tryd.sizeOf112
  v146 := Tryd.zeroValue112
  t164 := Tryd.underlying104
  a164 := Tryd.isAgg104
  z164 := Tryd.sizeOf104
  v164 := Tryd.zeroValue104
  g1 := by kernel_rfl
  g3 := by kernel_rfl
  g4 := by kernel_rfl }
theorem Tryd.Builder_Extra_154 : Builder.Extra Tryd.prog Tryd.lays154_ren := {
  sizeBuilder := by kernel_rfl
  liesBuilder := by kernel_rfl
  t5 := Tryd.underlying5
  a5 := Tryd.isAgg5
  z5 := Tryd.sizeOf5
  v5 := Tryd.zeroValue5
  infoByte := by kernel_rfl
  cellsByte := by kernel_rfl
  sizeByte := by kernel_rfl
  neB5 := by decide }
open Go.RowKit Go.Lib in
/-- WHERE SOMETHING IS REPLACED: old is not new, n is not 0, there is an instance. (LAID: no walk: one application.) -/
theorem Tryd.strings_Replace_some (s old new : ByteArray) (n : Int) (m : Int) (w : World) (hs : s.size < 4294967281) (hm : w.cell? ⟨0, 0, none⟩ = some (.int .i64 m)) (h1 : 1 ≤ old.size) (hne : old ≠ new) (hn0 : n ≠ 0) (hc0 : Lib.countB s old ≠ 0) (hlen : s.size + Lib.countB s old * new.size ≤ 140737488355328) :
    Calls Tryd.prog 39 #[.string s, .string old, .string new, .int .i64 n] w fun e w' =>
      e = .returned (.string ⟨(Lib.replaceK old.data.toList new.data.toList (Lib.replaceNum s.data.toList old.data.toList n) s.data.toList).toArray⟩) ∧ Below w.heap.size w w' := Any.strings_Replace_some Tryd.lays154 Tryd.Builder_Extra_154 s old new n m w hs hm h1 hne hn0 hc0 hlen
open Go.RowKit Go.Lib in
/-- 'if old == new || n == 0 { return s }'. (LAID: no walk: one application.) -/
theorem Tryd.strings_Replace_none (s old new : ByteArray) (n : Int) (w : World) (h : old = new ∨ n = 0) :
    Calls Tryd.prog 39 #[.string s, .string old, .string new, .int .i64 n] w fun e w' => e = .returned (.string s) ∧ w' = w := Any.strings_Replace_none Tryd.lays154 s old new n w h
open Go.RowKit Go.Lib in
/-- 'if m := Count(s, old); m == 0 { return s }'. (LAID: no walk: one application.) -/
theorem Tryd.strings_Replace_absent (s old new : ByteArray) (n : Int) (m : Int) (w : World) (hs : s.size < 4294967281) (hm : w.cell? ⟨0, 0, none⟩ = some (.int .i64 m)) (h1 : 1 ≤ old.size) (hne : old ≠ new) (hn0 : n ≠ 0) (hc0 : Lib.countB s old = 0) :
    Calls Tryd.prog 39 #[.string s, .string old, .string new, .int .i64 n] w fun e w' => e = .returned (.string s) ∧ w' = w := Any.strings_Replace_absent Tryd.lays154 s old new n m w hs hm h1 hne hn0 hc0
open Go.RowKit Go.Lib in
/-- strings.Replace: "Replace returns a copy of the string s with the first n non-overlapping instances of old replaced by new. .. If n < 0, there is no limit on the number of replacements.": AT AN old THAT IS NOT EMPTY: IT RETURNS 'Lib.replace s old new n'. Below the heap's end the world is as it was. IT ASKS, as strings.Index's contract: 'len(s) < 4294967281', 'hm'; and that what comes out has room: 'len(s) + Count(s, old) * len(new) ≤ 2^47'. (LAID: no walk: one application.) -/
theorem Tryd.strings_Replace (s old new : ByteArray) (n : Int) (m : Int) (w : World) (hs : s.size < 4294967281) (hm : w.cell? ⟨0, 0, none⟩ = some (.int .i64 m)) (h1 : 1 ≤ old.size) (hlen : s.size + Lib.countB s old * new.size ≤ 140737488355328) :
    Calls Tryd.prog 39 #[.string s, .string old, .string new, .int .i64 n] w fun e w' =>
      e = .returned (.string ⟨(Lib.replace s.data.toList old.data.toList new.data.toList n).toArray⟩) ∧ Below w.heap.size w w' := Any.strings_Replace Tryd.lays154 Tryd.Builder_Extra_154 s old new n m w hs hm h1 hlen
def Tryd.lays155_ren : Go.Shelf.Ren := ⟨fun | 155 => 22 | 154 => 39 | 138 => 51 | 165 => 52 | 143 => 53 | 166 => 54 | 197 => 55 | 169 => 56 | 195 => 65 | 218 => 66 | 240 => 67 | 241 => 68 | 219 => 57 | 260 => 69 | 276 => 81 | 277 => 82 | 217 => 70 | 225 => 71 | 224 => 72 | 267 => 73 | 266 => 83 | 314 => 84 | n => n, fun | 9 => 9 | 3 => 3 | 4 => 4 | 72 => 84 | 0 => 0 | 76 => 72 | 105 => 86 | 21 => 21 | 5 => 5 | 70 => 82 | 20 => 20 | 37 => 33 | 75 => 71 | 127 => 95 | 164 => 104 | 46 => 44 | 119 => 107 | 139 => 110 | 138 => 109 | 146 => 112 | 51 => 111 | 80 => 88 | n => n, fun | 1 => 0 | 3 => 1 | 4 => 2 | n => n⟩
theorem Tryd.lays155 : Go.Proofs.Lays.n155 Tryd.prog Tryd.lays155_ren := {
  mixed := by kernel_rfl
  f138 := Tryd.func51.trans (congrArg some (by kernel_rfl))
  f143 := Tryd.func53.trans (congrArg some (by kernel_rfl))
  f154 := Tryd.func39.trans (congrArg some (by kernel_rfl))
  f155 := Tryd.func22.trans (congrArg some (by kernel_rfl))
  f165 := Tryd.func52.trans (congrArg some (by kernel_rfl))
  f166 := Tryd.func54.trans (congrArg some (by kernel_rfl))
  f169 := Tryd.func56.trans (congrArg some (by kernel_rfl))
  f195 := Tryd.func65.trans (congrArg some (by kernel_rfl))
  f197 := Tryd.func55.trans (congrArg some (by kernel_rfl))
  f217 := Tryd.func70.trans (congrArg some (by kernel_rfl))
  f218 := Tryd.func66.trans (congrArg some (by kernel_rfl))
  f219 := Tryd.func57.trans (congrArg some (by kernel_rfl))
  f224 := Tryd.func72.trans (congrArg some (by kernel_rfl))
  f225 := Tryd.func71.trans (congrArg some (by kernel_rfl))
  f240 := Tryd.func67.trans (congrArg some (by kernel_rfl))
  f241 := Tryd.func68.trans (congrArg some (by kernel_rfl))
  f260 := Tryd.func69.trans (congrArg some (by kernel_rfl))
  f266 := Tryd.func83.trans (congrArg some (by kernel_rfl))
  f267 := Tryd.func73.trans (congrArg some (by kernel_rfl))
  f276 := Tryd.func81.trans (congrArg some (by kernel_rfl))
  f277 := Tryd.func82.trans (congrArg some (by kernel_rfl))
  f314 := Tryd.func84.trans (congrArg some (by kernel_rfl))
  t0 := Tryd.underlying0
  a0 := Tryd.isAgg0
  z0 := Tryd.sizeOf0
  v0 := Tryd.zeroValue0
  t3 := Tryd.underlying3
  a3 := Tryd.isAgg3
  z3 := Tryd.sizeOf3
  v3 := Tryd.zeroValue3
  t4 := Tryd.underlying4
  a4 := Tryd.isAgg4
  z4 := Tryd.sizeOf4
  v4 := Tryd.zeroValue4
  t5 := Tryd.underlying5
  a5 := Tryd.isAgg5
  z5 := Tryd.sizeOf5
  v5 := Tryd.zeroValue5
  t9 := Tryd.underlying9
  a9 := Tryd.isAgg9
  z9 := Tryd.sizeOf9
  v9 := Tryd.zeroValue9
  t20 := Tryd.underlying20
  a20 := Tryd.isAgg20
  z20 := Tryd.sizeOf20
  v20 := Tryd.zeroValue20
  t21 := Tryd.underlying21
  a21 := Tryd.isAgg21
  z21 := Tryd.sizeOf21
  v21 := Tryd.zeroValue21
  t37 := Tryd.underlying33
  a37 := Tryd.isAgg33
  z37 := Tryd.sizeOf33
  v37 := Tryd.zeroValue33
  t46 := Tryd.underlying44
  a46 := Tryd.isAgg44
  z46 := Tryd.sizeOf44
  v46 := Tryd.zeroValue44
  t51 := Tryd.underlying111
  a51 := Tryd.isAgg111
  z51 := Tryd.sizeOf111
  v51 := Tryd.zeroValue111
  t70 := Tryd.underlying82
  a70 := Tryd.isAgg82
  z70 := Tryd.sizeOf82
  v70 := Tryd.zeroValue82
  t72 := Tryd.underlying84
  a72 := Tryd.isAgg84
  z72 := Tryd.sizeOf84
  v72 := Tryd.zeroValue84
  t75 := Tryd.underlying71
  a75 := Tryd.isAgg71
  z75 := Tryd.sizeOf71
  v75 := Tryd.zeroValue71
  t76 := Tryd.underlying72
  a76 := Tryd.isAgg72
  z76 := Tryd.sizeOf72
  v76 := Tryd.zeroValue72
  t105 := Tryd.underlying86
  a105 := Tryd.isAgg86
  z105 := Tryd.sizeOf86
  v105 := Tryd.zeroValue86
  t119 := Tryd.underlying107
  a119 := Tryd.isAgg107
  z119 := Tryd.sizeOf107
  t127 := Tryd.underlying95
  a127 := Tryd.isAgg95
  z127 := Tryd.sizeOf95
  v127 := Tryd.zeroValue95
  t138 := Tryd.underlying109
  a138 := Tryd.isAgg109
  z138 := Tryd.sizeOf109
  v138 := Tryd.zeroValue109
  t139 := Tryd.underlying110
  a139 := Tryd.isAgg110
  z139 := Tryd.sizeOf110
  v139 := Tryd.zeroValue110
  t146 := Tryd.underlying112
  a146 := Tryd.isAgg112
  z146 := Tryd.sizeOf112
  v146 := Tryd.zeroValue112
  t164 := Tryd.underlying104
  a164 := Tryd.isAgg104
  z164 := Tryd.sizeOf104
  v164 := Tryd.zeroValue104
  g1 := by kernel_rfl
  g3 := by kernel_rfl
  g4 := by kernel_rfl }
theorem Tryd.Builder_Extra_155 : Builder.Extra Tryd.prog Tryd.lays155_ren := {
  sizeBuilder := by kernel_rfl
  liesBuilder := by kernel_rfl
  t5 := Tryd.underlying5
  a5 := Tryd.isAgg5
  z5 := Tryd.sizeOf5
  v5 := Tryd.zeroValue5
  infoByte := by kernel_rfl
  cellsByte := by kernel_rfl
  sizeByte := by kernel_rfl
  neB5 := by decide }
open Go.RowKit Go.Lib in
/-- strings.ReplaceAll: "ReplaceAll returns a copy of the string s with all non-overlapping instances of old replaced by new.": AT AN old THAT IS NOT EMPTY: 'Lib.replaceAll s old new'. (LAID: no walk: one application.) -/
theorem Tryd.strings_ReplaceAll (s old new : ByteArray) (m : Int) (w : World) (hs : s.size < 4294967281) (hm : w.cell? ⟨0, 0, none⟩ = some (.int .i64 m)) (h1 : 1 ≤ old.size) (hlen : s.size + Lib.countB s old * new.size ≤ 140737488355328) :
    Calls Tryd.prog 22 #[.string s, .string old, .string new] w fun e w' =>
      e = .returned (.string ⟨(Lib.replaceAll s.data.toList old.data.toList new.data.toList).toArray⟩) ∧ Below w.heap.size w w' := Any.strings_ReplaceAll Tryd.lays155 Tryd.Builder_Extra_155 s old new m w hs hm h1 hlen
def Tryd.lays260_ren : Go.Shelf.Ren := ⟨fun | 260 => 69 | n => n, fun | 9 => 9 | 21 => 21 | 3 => 3 | 4 => 4 | 5 => 5 | 119 => 107 | 0 => 0 | 46 => 44 | 139 => 110 | 138 => 109 | n => n, fun | 3 => 1 | 4 => 2 | n => n⟩
theorem Tryd.lays260 : Go.Proofs.Lays.n260 Tryd.prog Tryd.lays260_ren := {
  mixed := by kernel_rfl
  f260 := Tryd.func69.trans (congrArg some (by kernel_rfl))
  t0 := Tryd.underlying0
  a0 := Tryd.isAgg0
  z0 := Tryd.sizeOf0
  v0 := Tryd.zeroValue0
  t3 := Tryd.underlying3
  a3 := Tryd.isAgg3
  z3 := Tryd.sizeOf3
  v3 := Tryd.zeroValue3
  t4 := Tryd.underlying4
  a4 := Tryd.isAgg4
  z4 := Tryd.sizeOf4
  v4 := Tryd.zeroValue4
  t5 := Tryd.underlying5
  a5 := Tryd.isAgg5
  z5 := Tryd.sizeOf5
  v5 := Tryd.zeroValue5
  t9 := Tryd.underlying9
  a9 := Tryd.isAgg9
  z9 := Tryd.sizeOf9
  v9 := Tryd.zeroValue9
  t21 := Tryd.underlying21
  a21 := Tryd.isAgg21
  z21 := Tryd.sizeOf21
  v21 := Tryd.zeroValue21
  t46 := Tryd.underlying44
  a46 := Tryd.isAgg44
  z46 := Tryd.sizeOf44
  v46 := Tryd.zeroValue44
  t119 := Tryd.underlying107
  a119 := Tryd.isAgg107
  z119 := Tryd.sizeOf107
  t138 := Tryd.underlying109
  a138 := Tryd.isAgg109
  z138 := Tryd.sizeOf109
  v138 := Tryd.zeroValue109
  t139 := Tryd.underlying110
  a139 := Tryd.isAgg110
  z139 := Tryd.sizeOf110
  v139 := Tryd.zeroValue110
  g3 := by kernel_rfl
  g4 := by kernel_rfl }
open Go.RowKit Go.Lib in
theorem Tryd.utf8_decodeRuneInStringSlow (s : ByteArray) (w : World) (hT : Lib.Utf8Tabs 1 2 w) :
    Calls Tryd.prog 69 #[.string s] w fun e w' => e = .returned (.tuple #[.int .i32 (Lib.decodeGo s).1, .int .i64 (Lib.decodeGo s).2]) ∧ Below w.heap.size w w' := Any.utf8_decodeRuneInStringSlow Tryd.lays260 s w hT
end Go.Proofs

/- Functions of Go's library that are told by contracts; and all functions, as the machine has them. Printed by a program of this session (lift.py). -/
namespace Go.Proofs.YtljgfdhlfjbafaaDoor.M
set_option linter.unusedVariables false
open Go Classical
theorem extsOk [Base] (hT : Lib.TabIs Tryd.prog Base.base "internal/strconv.uint64pow10" .u64 Lib.pow10Tab) (hM : ∃ m, Base.base.cell? ⟨0, 0, none⟩ = some (.int .i64 m)) (hS : ∃ te pe, Base.base.cell? ⟨3, 0, none⟩ = some (.iface te pe)) (hR : ∃ te pe, Base.base.cell? ⟨4, 0, none⟩ = some (.iface te pe)) : ∀ (f : Nat) (y : List PV → Option PV), exts f = some y → ExtOk Tryd.prog f y := fun f y h => by
  unfold exts at h
  by_cases e45 : f = 45
  · subst e45
    rw [if_pos rfl] at h
    obtain rfl := Option.some.inj h
    exact itoa_ext Tryd.func45 rfl (by decide) hT (fun n h0 h1 w hT => Tryd.strconv_Itoa n h0 h1 w hT)
  rw [if_neg e45] at h
  by_cases e26 : f = 26
  · subst e26
    rw [if_pos rfl] at h
    obtain rfl := Option.some.inj h
    exact cut_ext Tryd.func26 rfl (by decide) hM (fun s p m w h1 h2 => Tryd.strings_Cut s p m w h1 h2)
  rw [if_neg e26] at h
  by_cases e62 : f = 62
  · subst e62
    rw [if_pos rfl] at h
    obtain rfl := Option.some.inj h
    exact index_ext Tryd.func62 rfl (by decide) (fun s c w => Tryd.strings_IndexByte s c w)
  rw [if_neg e62] at h
  by_cases e25 : f = 25
  · subst e25
    rw [if_pos rfl] at h
    obtain rfl := Option.some.inj h
    exact prefix_ext Tryd.func25 rfl (by decide) (fun s p w => Tryd.strings_HasPrefix s p w)
  rw [if_neg e25] at h
  by_cases e43 : f = 43
  · subst e43
    rw [if_pos rfl] at h
    obtain rfl := Option.some.inj h
    exact contains_ext Tryd.func43 rfl (by decide) hM (fun s p m w h1 h2 => Tryd.strings_Contains s p m w h1 h2)
  rw [if_neg e43] at h
  by_cases e22 : f = 22
  · subst e22
    rw [if_pos rfl] at h
    obtain rfl := Option.some.inj h
    exact replace_ext Tryd.func22 rfl (by decide) hM (fun s o n m w h1 h2 h3 h4 => Tryd.strings_ReplaceAll s o n m w h1 h2 h3 h4)
  rw [if_neg e22] at h
  by_cases e44 : f = 44
  · subst e44
    rw [if_pos rfl] at h
    obtain rfl := Option.some.inj h
    exact atoi_ext Tryd.func44 rfl (by decide) hS hR (fun s v w h1 h2 => Tryd.strconv_Atoi_ok s h1 v h2 w) (fun s te pe w h1 h2 h3 => (Tryd.strconv_Atoi_syntax s h1 h2 _ w h3 (.inr ⟨_, _, rfl⟩)).mono fun e w' ⟨N, he, _, _, hb⟩ => ⟨_, he, hb⟩) (fun s te pe w h1 h2 h3 => (Tryd.strconv_Atoi_range s h1 h2 _ w h3 (.inr ⟨_, _, rfl⟩)).mono fun e w' ⟨N, he, _, _, hb⟩ => ⟨_, he, hb⟩)
  rw [if_neg e44] at h
  cases h
end Go.Proofs.YtljgfdhlfjbafaaDoor.M

/- LexGaps, of all that its parameters' types allow. Printed by a program of this session (spec.py). -/
namespace Go.Proofs.YtljgfdhlfjbafaaDoor.M
set_option linter.unusedSimpArgs false
set_option linter.unusedVariables false
set_option linter.constructorNameAsVariable false
open Go Classical
theorem maxLen_eq : maxLen = 9223372036854775807 := by simp [maxLen]
theorem byte_of {x : Int} (h : (Lit.int .u8 x).wf = true) : ∃ b : UInt8, x = ((b.toNat : Nat) : Int) := by
  have r := range h
  simp [IntKind.min, IntKind.max, IntKind.signed, IntKind.bits] at r
  refine ⟨UInt8.ofNat x.toNat, ?_⟩
  simp
  omega
theorem ht9 : ∀ (n : Nat) (vs : List PV), Has Tryd.prog n 9 vs → ∃ x : List UInt8, vs = [.str x] ∧ x.length ≤ maxLen := fun n vs h => by
  obtain ⟨x, rfl, w⟩ := h.str Tryd.underlying9
  exact ⟨x, rfl, w⟩
theorem ht5 : ∀ (n : Nat) (vs : List PV), Has Tryd.prog n 5 vs → ∃ x : UInt8, vs = [.int .u8 ((x.toNat : Nat) : Int)] ∧ True := fun n vs h => by
  obtain ⟨x, rfl, w⟩ := h.int Tryd.underlying5
  obtain ⟨b, rfl⟩ := byte_of w
  exact ⟨b, rfl, trivial⟩
theorem hr33 (n : Nat) : ∀ rows : List (List PV), (∀ r ∈ rows, Has Tryd.prog n 5 r) → ∃ xs : List UInt8, rows = xs.map eB ∧ ∀ y ∈ xs, True
  | [], _ => ⟨[], by simp [eI], fun y h => by cases h⟩
  | r :: rows, h => by
    obtain ⟨x, rfl, hx⟩ := ht5 n r (h r (by simp))
    obtain ⟨xs, rfl, hxs⟩ := hr33 n rows fun r hr => h r (by simp [hr])
    exact ⟨x :: xs, by simp [eI, eK, eB, eS, eO], fun y hy => trivial⟩
theorem cz5 : Tryd.prog.cellsOf 5 = 1 := by kernel_rfl
theorem ht33 : ∀ (n : Nat) (vs : List PV), Has Tryd.prog n 33 vs → ∃ x : List UInt8, vs = [.list 1 (x.map eB) false] ∧ (x.length ≤ maxLen ∧ ∀ y ∈ x, True) := fun n vs h => by
  cases n with
  | zero => exact h.zero.elim
  | succ n =>
    obtain ⟨rows, rfl, hl, hr⟩ := h.slice Tryd.underlying33
    obtain ⟨xs, rfl, hx⟩ := hr33 n rows hr
    rw [cz5]
    exact ⟨xs, rfl, by rw [List.length_map] at hl; exact hl, hx⟩
theorem specLexGaps : ∀ pvs, HasAll Tryd.prog [9, 33] pvs → call (SPof Tryd.prog exts) 4 pvs [] = .ok (.v (.bool true)) [] := by
  intro pvs h
  obtain ⟨v0, r0, rfl, g0, h⟩ := h.cons_inv
  obtain ⟨v1, r1, rfl, g1, h⟩ := h.cons_inv
  obtain rfl := h.nil_inv
  obtain ⟨n0, g0⟩ := g0.one Tryd.underlying9 (fun fs h => by cases h)
  obtain ⟨x0, e0, h0⟩ := ht9 _ _ g0
  obtain rfl := List.cons.inj e0 |>.1
  obtain ⟨n1, g1⟩ := g1.one Tryd.underlying33 (fun fs h => by cases h)
  obtain ⟨x1, e1, h1⟩ := ht33 _ _ g1
  obtain rfl := List.cons.inj e1 |>.1
  exact (r_LexGaps x0 x1 : R_law1_LexGaps x0 x1 true) []
end Go.Proofs.YtljgfdhlfjbafaaDoor.M
