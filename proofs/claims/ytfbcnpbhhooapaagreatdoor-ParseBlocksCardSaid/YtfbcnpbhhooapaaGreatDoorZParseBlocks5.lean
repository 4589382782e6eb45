/- Parts of a proof, one behind another: Lt2, Wl1, Wl2, Wl3, Wl4, Wl5, Wl6, Wl7, Wl8, Wl9, Wl10, WlD, Wl11, Wl12, Wl13, Wl14, WlL, Wp6, Wp8, WlS, Sc7, Lt7, Wp7, Sc8, Lt8, Wp10, Wp9. -/
import Derived.Test.YtfbcnpbhhooapaaGreatDoorZParseBlocks4
import Derived.Lib.ItoaLen
import Derived.Test.YtfbcnpbhhooapaaGreatDoorProg
import Derived.KernelRfl
set_option linter.unusedSectionVars false
/- Trees of functions, printed by a program of this session (lift.py): what a run asks, over plain data. Lean proves each. -/
namespace Go.Proofs.YtfbcnpbhhooapaaGreatDoor.M
set_option linter.unusedSimpArgs false
set_option linter.unusedVariables false
open Go Classical
theorem sp_lex_tokens_skip : SP 97 = some (.code sc_lex_tokens_skip) := SPof_code rfl Tryz.func97 comp_lex_tokens_skip
/-! (*doorkeeper/lex.tokens).skip -/
def At_lex_tokens_skip_1 (t3 : LTokens) (g4 : Nat) (z5 : Bool) (t' : LTokens) (t'_g2 : Nat) (t'_z2 : Bool) : Prop := ∀ (S : Sto) (e : Nat → PV) (f : Fr) (n0 t0 : Nat), ((getBox S n0 t0).map (List.take 3) = some [.str t3.text.left, .int .i64 t3.text.pos, .sl 0 (.cell t0 2) 0 t3.out.length t3.out.length g4 false] ∧ getArr S n0 (.cell t0 2) = some ⟨5, t3.out.map eToken, z5, g4⟩) → e 0 = .ptr (n0 + 1) t0 0 → k_lex_tokens_skip_1 SP (E SP (.loop b_lex_tokens_skip_1) ⟨e, f :: S⟩) = .ok (.v (.tup [])) (setArr (setBox S n0 t0 ([.str t'.text.left, .int .i64 t'.text.pos, .sl 0 (.cell t0 2) 0 t'.out.length t'.out.length t'_g2 false] ++ ((getBox S n0 t0).getD []).drop 3)) n0 (.cell t0 2) ⟨5, t'.out.map eToken, t'_z2, t'_g2⟩)
set_option maxHeartbeats 4000000 in
theorem At_lex_tokens_skip_1_step (t3 : LTokens) (g4 : Nat) (z5 : Bool) (t' : LTokens) (t'_g2 : Nat) (t'_z2 : Bool) (T :
  ∃ (r6 : Bool), (R_strings_HasPrefix t3.text.left [35] r6) ∧
 ((r6 = true) →
  ∃ (r7 : List UInt8) (r8 : List UInt8) (r9 : Bool), (R_strings_Cut t3.text.left [10] r7 r8 r9) ∧
  ∃ (r10 : List UInt8) (y11 : LText), (R_lex_text_take t3.text (r7.length : Int) r10 y11) ∧
  ∃ (r12 : List UInt8) (y13 : LText), (R_lex_text_word y11 [1] r12 y13) ∧
  At_lex_tokens_skip_1 (LTokens.mk y13 t3.out) g4 z5 t' t'_g2 t'_z2) ∧
 (¬ (r6 = true) →
  t3 = t' ∧ g4 = t'_g2 ∧ z5 = t'_z2)) : At_lex_tokens_skip_1 t3 g4 z5 t' t'_g2 t'_z2 := by
 intro S e f n0 t0 H0 h
 obtain ⟨hb0, ha0⟩ := H0
 obtain ⟨w0, hB0⟩ := take_some hb0
 have hn0 := o_getBox_lt hB0
 unfold k_lex_tokens_skip_1
 rw [E_loop]
 have F := U_lex_tokens_skip
 obtain ⟨r6, q1, T⟩ := T
 simp only [R_strings_HasPrefix, le, List.cons_append, List.nil_append] at q1
 replace F := aa ha0 <| aa hB0 <| aa hn0 <| aa h <| aa q1 <| F
 by_cases c2 : r6 = true
 · replace T := T.1 c2
   obtain ⟨r7, r8, r9, q3, r10, y11, q4, r12, y13, q5, T⟩ := T
   simp only [R_strings_Cut, le, List.cons_append, List.nil_append] at q3
   simp only [R_lex_text_take, le, List.cons_append, List.nil_append] at q4
   simp only [R_lex_text_word, le, List.cons_append, List.nil_append] at q5
   replace F := aa c2 <| aa q3 <| aa q4 <| aa q5 <| F
   try simp only [F, lw, lx, le, Nat.reduceMul, UInt8.reduceToNat, reduceIte, reduceCtorEq, Nat.reduceEqDiff, Nat.reduceAdd, Nat.reduceLeDiff, Nat.reduceSub, Nat.reduceLT, Int.reduceEq, Int.reduceLT, Int.reduceLE, Int.reduceToNat, Int.reduceAdd, Int.reduceSub, Int.reduceMul, Int.reduceNeg]
   refine (T _ _ _ n0 t0 ?_ ?_).trans ?_
   all_goals exact fi F
 · replace T := T.2 c2
   replace c2 := Bool.eq_false_iff.2 c2
   obtain ⟨rfl, rfl, rfl⟩ := T
   exact fi (aa c2 <| F)
set_option maxHeartbeats 4000000 in
theorem lex_tokens_skip_tree (t : LTokens) (t_g2 : Nat) (t_z2 : Bool) (t' : LTokens) (t'_g2 : Nat) (t'_z2 : Bool) (T :
  ∃ (r1 : List UInt8) (y2 : LText), (R_lex_text_word t.text [1] r1 y2) ∧
 At_lex_tokens_skip_1 (LTokens.mk y2 t.out) t_g2 t_z2 t' t'_g2 t'_z2) : R_lex_tokens_skip t t_g2 t_z2 t' t'_g2 t'_z2 := by
 intro S n0 t0 H0
 obtain ⟨hb0, ha0⟩ := H0
 obtain ⟨w0, hB0⟩ := take_some hb0
 have hn0 := o_getBox_lt hB0
 rw [call_code sp_lex_tokens_skip _ _ rfl]
 have F := U_lex_tokens_skip
 obtain ⟨r1, y2, q1, T⟩ := T
 simp only [R_lex_text_word, le, List.cons_append, List.nil_append] at q1
 replace F := aa ha0 <| aa hB0 <| aa hn0 <| aa q1 <| F
 try simp only [F, lw, lx, le, Nat.reduceMul, UInt8.reduceToNat, reduceIte, reduceCtorEq, Nat.reduceEqDiff, Nat.reduceAdd, Nat.reduceLeDiff, Nat.reduceSub, Nat.reduceLT, Int.reduceEq, Int.reduceLT, Int.reduceLE, Int.reduceToNat, Int.reduceAdd, Int.reduceSub, Int.reduceMul, Int.reduceNeg]
 refine (T _ _ _ n0 t0 ?_ ?_).trans ?_
 all_goals exact fi F
theorem sp_lex_tokens_name : SP 138 = some (.code sc_lex_tokens_name) := SPof_code rfl Tryz.func138 comp_lex_tokens_name
/-! (*doorkeeper/lex.tokens).name -/
set_option maxHeartbeats 4000000 in
theorem lex_tokens_name_tree (t : LTokens) (t_g2 : Nat) (t_z2 : Bool) (ra : Token) (rb : Bool) (t' : LTokens) (t'_g2 : Nat) (t'_z2 : Bool) (T :
  ∃ (r1 : List UInt8) (y2 : LText), (R_lex_text_word t.text [2, 3] r1 y2) ∧
 ∃ (r3 : Bool), (R_lex_Name r1 r3) ∧
 (Token.mk 3 r1 0 [] 0) = ra ∧ r3 = rb ∧ (LTokens.mk y2 t.out) = t' ∧ t_g2 = t'_g2 ∧ t_z2 = t'_z2) : R_lex_tokens_name t t_g2 t_z2 ra rb t' t'_g2 t'_z2 := by
 intro S n0 t0 H0
 obtain ⟨hb0, ha0⟩ := H0
 obtain ⟨w0, hB0⟩ := take_some hb0
 have hn0 := o_getBox_lt hB0
 rw [call_code sp_lex_tokens_name _ _ rfl]
 have F := U_lex_tokens_name
 obtain ⟨r1, y2, q1, r3, q2, rfl, rfl, rfl, rfl, rfl⟩ := T
 simp only [R_lex_text_word, le, List.cons_append, List.nil_append] at q1
 simp only [R_lex_Name, le, List.cons_append, List.nil_append] at q2
 exact fi (aa ha0 <| aa hB0 <| aa hn0 <| aa q1 <| aa q2 <| F)
theorem sp_lex_tokens_number : SP 139 = some (.code sc_lex_tokens_number) := SPof_code rfl Tryz.func139 comp_lex_tokens_number
/-! (*doorkeeper/lex.tokens).number -/
set_option maxHeartbeats 4000000 in
theorem lex_tokens_number_tree (t : LTokens) (t_g2 : Nat) (t_z2 : Bool) (ra : Token) (rb : Bool) (t' : LTokens) (t'_g2 : Nat) (t'_z2 : Bool) (T :
  ∃ (r1 : List UInt8) (y2 : LText), (R_lex_text_word t.text [3] r1 y2) ∧
 ∃ (r3 : Int) (r4 : Bool), (R_strconv_Atoi r1 r3 r4) ∧
 ((r4 = true) →
  (Token.mk 1 [] r3 [] 0) = ra ∧ false = rb ∧ (LTokens.mk y2 t.out) = t' ∧ t_g2 = t'_g2 ∧ t_z2 = t'_z2) ∧
 (¬ (r4 = true) →
  ∃ (r5 : List UInt8), (R_strconv_Itoa r3 r5) ∧
  (Token.mk 1 [] r3 [] 0) = ra ∧ (decide (r5 = r1)) = rb ∧ (LTokens.mk y2 t.out) = t' ∧ t_g2 = t'_g2 ∧ t_z2 = t'_z2)) : R_lex_tokens_number t t_g2 t_z2 ra rb t' t'_g2 t'_z2 := by
 intro S n0 t0 H0
 obtain ⟨hb0, ha0⟩ := H0
 obtain ⟨w0, hB0⟩ := take_some hb0
 have hn0 := o_getBox_lt hB0
 rw [call_code sp_lex_tokens_number _ _ rfl]
 have F := U_lex_tokens_number
 obtain ⟨r1, y2, q1, r3, r4, q2, T⟩ := T
 simp only [R_lex_text_word, le, List.cons_append, List.nil_append] at q1
 simp only [R_strconv_Atoi, le, List.cons_append, List.nil_append] at q2
 replace F := aa ha0 <| aa hB0 <| aa hn0 <| aa q1 <| aa q2 <| F
 by_cases c3 : r4 = true
 · replace T := T.1 c3
   obtain ⟨rfl, rfl, rfl, rfl, rfl⟩ := T
   exact fi (aa c3 <| F)
 · replace T := T.2 c3
   replace c3 := Bool.eq_false_iff.2 c3
   obtain ⟨r5, q4, rfl, rfl, rfl, rfl, rfl⟩ := T
   simp only [R_strconv_Itoa, le, List.cons_append, List.nil_append] at q4
   exact fi (aa c3 <| aa q4 <| F)
theorem sp_lex_tokens_quoted : SP 140 = some (.code sc_lex_tokens_quoted) := SPof_code rfl Tryz.func140 comp_lex_tokens_quoted
/-! (*doorkeeper/lex.tokens).quoted -/
def At_lex_tokens_quoted_1 (i3 : Int) (s4 : List UInt8) (i5 : Int) (i6 : Int) (l7 : List Attr) (g8 : Nat) (l9 : List Part) (g10 : Nat) (z11 : Bool) (t12 : LTokens) (g13 : Nat) (z14 : Bool) (ra : Token) (rb : Bool) (t' : LTokens) (t'_g2 : Nat) (t'_z2 : Bool) : Prop := ∀ (S : Sto) (e : Nat → PV) (f : Fr) (n0 t0 : Nat), ((getBox S n0 t0).map (List.take 3) = some [.str t12.text.left, .int .i64 t12.text.pos, .sl 0 (.cell t0 2) 0 t12.out.length t12.out.length g13 false] ∧ getArr S n0 (.cell t0 2) = some ⟨5, t12.out.map eToken, z14, g13⟩) → e 0 = .ptr (n0 + 1) t0 0 ∧ e 2 = .ptr 0 2 0 ∧ e 4 = .ptr 0 4 0 ∧ f.box 2 = some [.int .i64 i3, .str s4, .int .i64 i5, .sl 0 (.cell 2 3) 0 l7.length l7.length g8 false, .int .i64 i6] ∧ f.box 4 = some [.sl 0 (.cell 4 0) 0 l9.length l9.length g10 false] ∧ f.arr (.cell 2 3) = some ⟨2, l7.map eAttr, false, g8⟩ ∧ f.arr (.cell 4 0) = some ⟨2, l9.map ePart, z11, g10⟩ → k_lex_tokens_quoted_1 SP (E SP (.loop b_lex_tokens_quoted_1) ⟨e, f :: S⟩) = .ok (.v (.tup [.agg [.int .i64 ra.Kind, .str ra.Text, .int .i64 ra.Num, .list 2 (ra.Parts.map ePart) false, .int .i64 ra.At], .bool rb])) (setArr (setBox S n0 t0 ([.str t'.text.left, .int .i64 t'.text.pos, .sl 0 (.cell t0 2) 0 t'.out.length t'.out.length t'_g2 false] ++ ((getBox S n0 t0).getD []).drop 3)) n0 (.cell t0 2) ⟨5, t'.out.map eToken, t'_z2, t'_g2⟩)
set_option maxHeartbeats 4000000 in
theorem At_lex_tokens_quoted_1_step (i3 : Int) (s4 : List UInt8) (i5 : Int) (i6 : Int) (l7 : List Attr) (g8 : Nat) (l9 : List Part) (g10 : Nat) (z11 : Bool) (t12 : LTokens) (g13 : Nat) (z14 : Bool) (ra : Token) (rb : Bool) (t' : LTokens) (t'_g2 : Nat) (t'_z2 : Bool) (T :
  ((t12.text.left = []) →
  (Token.mk 0 [] 0 [] 0) = ra ∧ false = rb ∧ t12 = t' ∧ g13 = t'_g2 ∧ z14 = t'_z2) ∧
 (¬ (t12.text.left = []) →
  ∃ (b15 : UInt8), (t12.text.left[0]? = some b15) ∧
  ∃ (r16 : Int), (R_lex_class b15 r16) ∧
  ((r16 = 4) →
   ∃ (r17 : List UInt8) (y18 : LText), (R_lex_text_take t12.text 1 r17 y18) ∧
   (Token.mk 2 [] 0 l9 0) = ra ∧ true = rb ∧ (LTokens.mk y18 t12.out) = t' ∧ g13 = t'_g2 ∧ z14 = t'_z2) ∧
  (¬ (r16 = 4) →
   (((b15.toNat : Int) < 32) →
    (Token.mk 0 [] 0 [] 0) = ra ∧ false = rb ∧ t12 = t' ∧ g13 = t'_g2 ∧ z14 = t'_z2) ∧
   (¬ ((b15.toNat : Int) < 32) →
    (((b15.toNat : Int) = 92) →
     ∃ (r19 : UInt8) (r20 : Bool), (R_lex_escaped t12.text.left r19 r20) ∧
     ((r20 = true) →
      ∃ (y21 : List Part) (g22 : Nat) (z23 : Bool), (R_lex_parts_plain l9 g10 z11 r19 y21 g22 z23) ∧
      ∃ (r24 : List UInt8) (y25 : LText), (R_lex_text_take t12.text 2 r24 y25) ∧
      At_lex_tokens_quoted_1 i3 s4 i5 i6 l7 g8 y21 g22 z23 (LTokens.mk y25 t12.out) g13 z14 ra rb t' t'_g2 t'_z2) ∧
     (¬ (r20 = true) →
      (Token.mk 0 [] 0 [] 0) = ra ∧ false = rb ∧ t12 = t' ∧ g13 = t'_g2 ∧ z14 = t'_z2)) ∧
    (¬ ((b15.toNat : Int) = 92) →
     ∃ (r26 : Bool), (R_strings_HasPrefix t12.text.left [36, 123] r26) ∧
     ((r26 = true) →
      ∃ (r27 : List UInt8) (r28 : Bool), (R_lex_reference t12.text.left r27 r28) ∧
      ((r28 = true) →
       (bigRow (l9.length + 1) 24) ∧
       (I64 (3 + (r27.length : Int))) ∧
       ∃ (r29 : List UInt8) (y30 : LText), (R_lex_text_take t12.text (3 + (r27.length : Int)) r29 y30) ∧
       At_lex_tokens_quoted_1 i3 s4 i5 i6 l7 g8 (l9 ++ [(Part.mk true r27)]) g10 z11 (LTokens.mk y30 t12.out) g13 z14 ra rb t' t'_g2 t'_z2) ∧
      (¬ (r28 = true) →
       (Token.mk 0 [] 0 [] 0) = ra ∧ false = rb ∧ t12 = t' ∧ g13 = t'_g2 ∧ z14 = t'_z2)) ∧
     (¬ (r26 = true) →
      ∃ (y31 : List Part) (g32 : Nat) (z33 : Bool), (R_lex_parts_plain l9 g10 z11 b15 y31 g32 z33) ∧
      ∃ (r34 : List UInt8) (y35 : LText), (R_lex_text_take t12.text 1 r34 y35) ∧
      At_lex_tokens_quoted_1 i3 s4 i5 i6 l7 g8 y31 g32 z33 (LTokens.mk y35 t12.out) g13 z14 ra rb t' t'_g2 t'_z2)))))) : At_lex_tokens_quoted_1 i3 s4 i5 i6 l7 g8 l9 g10 z11 t12 g13 z14 ra rb t' t'_g2 t'_z2 := by
 intro S e f n0 t0 H0 h
 obtain ⟨hb0, ha0⟩ := H0
 obtain ⟨w0, hB0⟩ := take_some hb0
 have hn0 := o_getBox_lt hB0
 unfold k_lex_tokens_quoted_1
 rw [E_loop]
 have F := U_lex_tokens_quoted
 replace F := aa ha0 <| aa hB0 <| aa hn0 <| aa h <| F
 by_cases c1 : t12.text.left = []
 · replace T := T.1 c1
   obtain ⟨rfl, rfl, rfl, rfl, rfl⟩ := T
   exact fi (aa (eq_true c1) <| F)
 · replace T := T.2 c1
   obtain ⟨b15, q2, r16, q3, T⟩ := T
   simp only [R_lex_class, le, List.cons_append, List.nil_append] at q3
   replace F := aa (eq_false c1) <| aa q2 <| aa q3 <| F
   by_cases c4 : r16 = 4
   · replace T := T.1 c4
     obtain ⟨r17, y18, q5, rfl, rfl, rfl, rfl, rfl⟩ := T
     simp only [R_lex_text_take, le, List.cons_append, List.nil_append] at q5
     exact fi (aa (eq_true c4) <| aa q5 <| F)
   · replace T := T.2 c4
     replace F := aa (eq_false c4) <| F
     by_cases c6 : (b15.toNat : Int) < 32
     · replace T := T.1 c6
       obtain ⟨rfl, rfl, rfl, rfl, rfl⟩ := T
       exact fi (aa (eq_true c6) <| F)
     · replace T := T.2 c6
       replace F := aa (eq_false c6) <| F
       by_cases c7 : (b15.toNat : Int) = 92
       · replace T := T.1 c7
         obtain ⟨r19, r20, q8, T⟩ := T
         simp only [R_lex_escaped, le, List.cons_append, List.nil_append] at q8
         replace F := aa (eq_true c7) <| aa q8 <| F
         by_cases c9 : r20 = true
         · replace T := T.1 c9
           obtain ⟨y21, g22, z23, q10, r24, y25, q11, T⟩ := T
           simp only [R_lex_parts_plain, le, List.cons_append, List.nil_append] at q10
           simp only [R_lex_text_take, le, List.cons_append, List.nil_append] at q11
           replace F := aa c9 <| aa q10 <| aa q11 <| F
           try simp only [F, lw, lx, le, Nat.reduceMul, UInt8.reduceToNat, reduceIte, reduceCtorEq, Nat.reduceEqDiff, Nat.reduceAdd, Nat.reduceLeDiff, Nat.reduceSub, Nat.reduceLT, Int.reduceEq, Int.reduceLT, Int.reduceLE, Int.reduceToNat, Int.reduceAdd, Int.reduceSub, Int.reduceMul, Int.reduceNeg]
           refine (T _ _ _ n0 t0 ?_ ?_).trans ?_
           all_goals exact fi F
         · replace T := T.2 c9
           replace c9 := Bool.eq_false_iff.2 c9
           obtain ⟨rfl, rfl, rfl, rfl, rfl⟩ := T
           exact fi (aa c9 <| F)
       · replace T := T.2 c7
         obtain ⟨r26, q12, T⟩ := T
         simp only [R_strings_HasPrefix, le, List.cons_append, List.nil_append] at q12
         replace F := aa (eq_false c7) <| aa q12 <| F
         by_cases c13 : r26 = true
         · replace T := T.1 c13
           obtain ⟨r27, r28, q14, T⟩ := T
           simp only [R_lex_reference, le, List.cons_append, List.nil_append] at q14
           replace F := aa c13 <| aa q14 <| F
           by_cases c15 : r28 = true
           · replace T := T.1 c15
             obtain ⟨p16, p17, r29, y30, q18, T⟩ := T
             simp only [bigRow] at p16
             simp only [R_lex_text_take, le, List.cons_append, List.nil_append] at q18
             replace F := aa c15 <| aa p16 <| aa p17.wrap <| aa q18 <| F
             try simp only [F, lw, lx, le, Nat.reduceMul, UInt8.reduceToNat, reduceIte, reduceCtorEq, Nat.reduceEqDiff, Nat.reduceAdd, Nat.reduceLeDiff, Nat.reduceSub, Nat.reduceLT, Int.reduceEq, Int.reduceLT, Int.reduceLE, Int.reduceToNat, Int.reduceAdd, Int.reduceSub, Int.reduceMul, Int.reduceNeg]
             refine (T _ _ _ n0 t0 ?_ ?_).trans ?_
             all_goals exact fi F
           · replace T := T.2 c15
             replace c15 := Bool.eq_false_iff.2 c15
             obtain ⟨rfl, rfl, rfl, rfl, rfl⟩ := T
             exact fi (aa c15 <| F)
         · replace T := T.2 c13
           replace c13 := Bool.eq_false_iff.2 c13
           obtain ⟨y31, g32, z33, q19, r34, y35, q20, T⟩ := T
           simp only [R_lex_parts_plain, le, List.cons_append, List.nil_append] at q19
           simp only [R_lex_text_take, le, List.cons_append, List.nil_append] at q20
           replace F := aa c13 <| aa q19 <| aa q20 <| F
           try simp only [F, lw, lx, le, Nat.reduceMul, UInt8.reduceToNat, reduceIte, reduceCtorEq, Nat.reduceEqDiff, Nat.reduceAdd, Nat.reduceLeDiff, Nat.reduceSub, Nat.reduceLT, Int.reduceEq, Int.reduceLT, Int.reduceLE, Int.reduceToNat, Int.reduceAdd, Int.reduceSub, Int.reduceMul, Int.reduceNeg]
           refine (T _ _ _ n0 t0 ?_ ?_).trans ?_
           all_goals exact fi F
set_option maxHeartbeats 4000000 in
theorem lex_tokens_quoted_tree (t : LTokens) (t_g2 : Nat) (t_z2 : Bool) (ra : Token) (rb : Bool) (t' : LTokens) (t'_g2 : Nat) (t'_z2 : Bool) (T :
  ∃ (r1 : List UInt8) (y2 : LText), (R_lex_text_take t.text 1 r1 y2) ∧
 At_lex_tokens_quoted_1 0 [] 0 0 [] 0 [] 0 false (LTokens.mk y2 t.out) t_g2 t_z2 ra rb t' t'_g2 t'_z2) : R_lex_tokens_quoted t t_g2 t_z2 ra rb t' t'_g2 t'_z2 := by
 intro S n0 t0 H0
 obtain ⟨hb0, ha0⟩ := H0
 obtain ⟨w0, hB0⟩ := take_some hb0
 have hn0 := o_getBox_lt hB0
 rw [call_code sp_lex_tokens_quoted _ _ rfl]
 have F := U_lex_tokens_quoted
 obtain ⟨r1, y2, q1, T⟩ := T
 simp only [R_lex_text_take, le, List.cons_append, List.nil_append] at q1
 replace F := aa ha0 <| aa hB0 <| aa hn0 <| aa q1 <| F
 try simp only [F, lw, lx, le, Nat.reduceMul, UInt8.reduceToNat, reduceIte, reduceCtorEq, Nat.reduceEqDiff, Nat.reduceAdd, Nat.reduceLeDiff, Nat.reduceSub, Nat.reduceLT, Int.reduceEq, Int.reduceLT, Int.reduceLE, Int.reduceToNat, Int.reduceAdd, Int.reduceSub, Int.reduceMul, Int.reduceNeg]
 refine (T _ _ _ n0 t0 ?_ ?_).trans ?_
 all_goals exact fi F
theorem sp_lex_tokens_sign : SP 136 = some (.code sc_lex_tokens_sign) := SPof_code rfl Tryz.func136 comp_lex_tokens_sign
/-! (*doorkeeper/lex.tokens).sign -/
set_option maxHeartbeats 4000000 in
theorem lex_tokens_sign_tree (t : LTokens) (t_g2 : Nat) (t_z2 : Bool) (ra : Token) (rb : Bool) (t' : LTokens) (t'_g2 : Nat) (t'_z2 : Bool) (T :
  (0 ≤ (if (t.text.left.length : Int) < 2 then (t.text.left.length : Int) else 2)) ∧ ((if (t.text.left.length : Int) < 2 then (t.text.left.length : Int) else 2).toNat ≤ t.text.left.length) ∧
 ∃ (r1 : Bool), (R_slices_Contains_string_string [[61, 61], [33, 61], [60, 61], [62, 61], [38, 38], [124, 124]] (t.text.left.take ((if (t.text.left.length : Int) < 2 then (t.text.left.length : Int) else 2).toNat)) r1) ∧
 ((r1 = true) →
  ∃ (r2 : List UInt8) (y3 : LText), (R_lex_text_take t.text (((t.text.left.take ((if (t.text.left.length : Int) < 2 then (t.text.left.length : Int) else 2).toNat)).length : Nat) : Int) r2 y3) ∧
  (Token.mk 4 r2 0 [] 0) = ra ∧ true = rb ∧ (LTokens.mk y3 t.out) = t' ∧ t_g2 = t'_g2 ∧ t_z2 = t'_z2) ∧
 (¬ (r1 = true) →
  (1 ≤ (t.text.left.take ((if (t.text.left.length : Int) < 2 then (t.text.left.length : Int) else 2).toNat)).length) ∧
  ∃ (r4 : Bool), (R_strings_Contains [123, 125, 91, 93, 40, 41, 61, 44, 46, 43, 45, 42, 47, 37, 60, 62, 33, 63, 58] ((t.text.left.take ((if (t.text.left.length : Int) < 2 then (t.text.left.length : Int) else 2).toNat)).take (1)) r4) ∧
  ((r4 = true) →
   ∃ (r5 : List UInt8) (y6 : LText), (R_lex_text_take t.text ((((t.text.left.take ((if (t.text.left.length : Int) < 2 then (t.text.left.length : Int) else 2).toNat)).take (1)).length : Nat) : Int) r5 y6) ∧
   (Token.mk 4 r5 0 [] 0) = ra ∧ true = rb ∧ (LTokens.mk y6 t.out) = t' ∧ t_g2 = t'_g2 ∧ t_z2 = t'_z2) ∧
  (¬ (r4 = true) →
   (Token.mk 0 [] 0 [] 0) = ra ∧ false = rb ∧ t = t' ∧ t_g2 = t'_g2 ∧ t_z2 = t'_z2))) : R_lex_tokens_sign t t_g2 t_z2 ra rb t' t'_g2 t'_z2 := by
 intro S n0 t0 H0
 obtain ⟨hb0, ha0⟩ := H0
 obtain ⟨w0, hB0⟩ := take_some hb0
 have hn0 := o_getBox_lt hB0
 rw [call_code sp_lex_tokens_sign _ _ rfl]
 have F := U_lex_tokens_sign
 obtain ⟨p1, p2, r1, q3, T⟩ := T
 simp only [R_slices_Contains_string_string, le, List.cons_append, List.nil_append] at q3
 replace F := aa ha0 <| aa hB0 <| aa hn0 <| aa p1 <| aa p2 <| aa q3 <| F
 by_cases c4 : r1 = true
 · replace T := T.1 c4
   obtain ⟨r2, y3, q5, rfl, rfl, rfl, rfl, rfl⟩ := T
   simp only [R_lex_text_take, le, List.cons_append, List.nil_append] at q5
   exact fi (aa c4 <| aa q5 <| F)
 · replace T := T.2 c4
   replace c4 := Bool.eq_false_iff.2 c4
   obtain ⟨p6, r4, q7, T⟩ := T
   simp only [R_strings_Contains, le, List.cons_append, List.nil_append] at q7
   replace F := aa c4 <| aa p6 <| aa q7 <| F
   by_cases c8 : r4 = true
   · replace T := T.1 c8
     obtain ⟨r5, y6, q9, rfl, rfl, rfl, rfl, rfl⟩ := T
     simp only [R_lex_text_take, le, List.cons_append, List.nil_append] at q9
     exact fi (aa c8 <| aa q9 <| F)
   · replace T := T.2 c8
     replace c8 := Bool.eq_false_iff.2 c8
     obtain ⟨rfl, rfl, rfl, rfl, rfl⟩ := T
     exact fi (aa c8 <| F)
theorem sp_lex_tokens_next : SP 98 = some (.code sc_lex_tokens_next) := SPof_code rfl Tryz.func98 comp_lex_tokens_next
/-! (*doorkeeper/lex.tokens).next -/
set_option maxHeartbeats 4000000 in
theorem lex_tokens_next_tree (t : LTokens) (t_g2 : Nat) (t_z2 : Bool) (r : Bool) (t' : LTokens) (t'_g2 : Nat) (t'_z2 : Bool) (T :
  ∃ (b1 : UInt8), (t.text.left[0]? = some b1) ∧
 ∃ (r2 : Int), (R_lex_class b1 r2) ∧
 ((r2 = 2) →
  ∃ (r3 : Token) (r4 : Bool) (y5 : LTokens) (g6 : Nat) (z7 : Bool), (R_lex_tokens_name t t_g2 t_z2 r3 r4 y5 g6 z7) ∧
  (bigRow (y5.out.length + 1) 64) ∧
  r4 = r ∧ (LTokens.mk y5.text (y5.out ++ [(Token.mk r3.Kind r3.Text r3.Num r3.Parts t.text.pos)])) = t' ∧ g6 = t'_g2 ∧ z7 = t'_z2) ∧
 (¬ (r2 = 2) →
  ((r2 = 3) →
   ∃ (r8 : Token) (r9 : Bool) (y10 : LTokens) (g11 : Nat) (z12 : Bool), (R_lex_tokens_number t t_g2 t_z2 r8 r9 y10 g11 z12) ∧
   (bigRow (y10.out.length + 1) 64) ∧
   r9 = r ∧ (LTokens.mk y10.text (y10.out ++ [(Token.mk r8.Kind r8.Text r8.Num r8.Parts t.text.pos)])) = t' ∧ g11 = t'_g2 ∧ z12 = t'_z2) ∧
  (¬ (r2 = 3) →
   ((r2 = 4) →
    ∃ (r13 : Token) (r14 : Bool) (y15 : LTokens) (g16 : Nat) (z17 : Bool), (R_lex_tokens_quoted t t_g2 t_z2 r13 r14 y15 g16 z17) ∧
    (bigRow (y15.out.length + 1) 64) ∧
    r14 = r ∧ (LTokens.mk y15.text (y15.out ++ [(Token.mk r13.Kind r13.Text r13.Num r13.Parts t.text.pos)])) = t' ∧ g16 = t'_g2 ∧ z17 = t'_z2) ∧
   (¬ (r2 = 4) →
    ∃ (r18 : Token) (r19 : Bool) (y20 : LTokens) (g21 : Nat) (z22 : Bool), (R_lex_tokens_sign t t_g2 t_z2 r18 r19 y20 g21 z22) ∧
    (bigRow (y20.out.length + 1) 64) ∧
    r19 = r ∧ (LTokens.mk y20.text (y20.out ++ [(Token.mk r18.Kind r18.Text r18.Num r18.Parts t.text.pos)])) = t' ∧ g21 = t'_g2 ∧ z22 = t'_z2)))) : R_lex_tokens_next t t_g2 t_z2 r t' t'_g2 t'_z2 := by
 intro S n0 t0 H0
 obtain ⟨hb0, ha0⟩ := H0
 obtain ⟨w0, hB0⟩ := take_some hb0
 have hn0 := o_getBox_lt hB0
 rw [call_code sp_lex_tokens_next _ _ rfl]
 have F := U_lex_tokens_next
 obtain ⟨b1, q1, r2, q2, T⟩ := T
 simp only [R_lex_class, le, List.cons_append, List.nil_append] at q2
 replace F := aa ha0 <| aa hB0 <| aa hn0 <| aa q1 <| aa q2 <| F
 by_cases c3 : r2 = 2
 · replace T := T.1 c3
   obtain ⟨r3, r4, y5, g6, z7, q4, p5, rfl, rfl, rfl, rfl⟩ := T
   simp only [R_lex_tokens_name, le, List.cons_append, List.nil_append] at q4
   simp only [bigRow] at p5
   exact fi (aa (eq_true c3) <| aa q4 <| aa p5 <| F)
 · replace T := T.2 c3
   replace F := aa (eq_false c3) <| F
   by_cases c6 : r2 = 3
   · replace T := T.1 c6
     obtain ⟨r8, r9, y10, g11, z12, q7, p8, rfl, rfl, rfl, rfl⟩ := T
     simp only [R_lex_tokens_number, le, List.cons_append, List.nil_append] at q7
     simp only [bigRow] at p8
     exact fi (aa (eq_true c6) <| aa q7 <| aa p8 <| F)
   · replace T := T.2 c6
     replace F := aa (eq_false c6) <| F
     by_cases c9 : r2 = 4
     · replace T := T.1 c9
       obtain ⟨r13, r14, y15, g16, z17, q10, p11, rfl, rfl, rfl, rfl⟩ := T
       simp only [R_lex_tokens_quoted, le, List.cons_append, List.nil_append] at q10
       simp only [bigRow] at p11
       exact fi (aa (eq_true c9) <| aa q10 <| aa p11 <| F)
     · replace T := T.2 c9
       obtain ⟨r18, r19, y20, g21, z22, q12, p13, rfl, rfl, rfl, rfl⟩ := T
       simp only [R_lex_tokens_sign, le, List.cons_append, List.nil_append] at q12
       simp only [bigRow] at p13
       exact fi (aa (eq_false c9) <| aa q12 <| aa p13 <| F)
theorem sp_lex_Lex : SP 60 = some (.code sc_lex_Lex) := SPof_code rfl Tryz.func60 comp_lex_Lex
/-! doorkeeper/lex.Lex -/
def At_lex_Lex_1 (s4 : List UInt8) (i5 : Int) (l6 : List Token) (g7 : Nat) (z8 : Bool) (ra : List Token) (rb : Int) : Prop := ∀ (S : Sto) (e : Nat → PV) (f : Fr), e 4 = .ptr 0 11 0 ∧ f.box 11 = some [.str s4, .int .i64 i5, .sl 0 (.cell 11 2) 0 l6.length l6.length g7 false] ∧ f.arr (.cell 11 2) = some ⟨5, l6.map eToken, z8, g7⟩ → k_lex_Lex_1 SP (E SP (.loop b_lex_Lex_1) ⟨e, f :: S⟩) = .ok (.v (.tup [.list 5 (ra.map eToken) false, .int .i64 rb])) S
set_option maxHeartbeats 4000000 in
theorem At_lex_Lex_1_step (s4 : List UInt8) (i5 : Int) (l6 : List Token) (g7 : Nat) (z8 : Bool) (ra : List Token) (rb : Int) (T :
  ((s4 = []) →
  (bigRow (l6.length + 1) 64) ∧
  (l6 ++ [(Token.mk 0 [] 0 [] i5)]) = ra ∧ 0 = rb) ∧
 (¬ (s4 = []) →
  ∃ (r9 : Bool) (y10 : LTokens) (g11 : Nat) (z12 : Bool), (R_lex_tokens_next (LTokens.mk (LText.mk s4 i5) l6) g7 z8 r9 y10 g11 z12) ∧
  ((r9 = true) →
   ∃ (y13 : LTokens) (g14 : Nat) (z15 : Bool), (R_lex_tokens_skip y10 g11 z12 y13 g14 z15) ∧
   At_lex_Lex_1 y13.text.left y13.text.pos y13.out g14 z15 ra rb) ∧
  (¬ (r9 = true) →
   [] = ra ∧ 5 = rb))) : At_lex_Lex_1 s4 i5 l6 g7 z8 ra rb := by
 intro S e f h
 unfold k_lex_Lex_1
 rw [E_loop]
 have F := U_lex_Lex
 replace F := aa h <| F
 by_cases c1 : s4 = []
 · replace T := T.1 c1
   obtain ⟨p2, rfl, rfl⟩ := T
   simp only [bigRow] at p2
   exact fi (aa (eq_true c1) <| aa p2 <| F)
 · replace T := T.2 c1
   obtain ⟨r9, y10, g11, z12, q3, T⟩ := T
   simp only [R_lex_tokens_next, le, List.cons_append, List.nil_append] at q3
   replace F := aa (eq_false c1) <| aa q3 <| F
   by_cases c4 : r9 = true
   · replace T := T.1 c4
     obtain ⟨y13, g14, z15, q5, T⟩ := T
     simp only [R_lex_tokens_skip, le, List.cons_append, List.nil_append] at q5
     replace F := aa c4 <| aa q5 <| F
     try simp only [F, lw, lx, le, Nat.reduceMul, UInt8.reduceToNat, reduceIte, reduceCtorEq, Nat.reduceEqDiff, Nat.reduceAdd, Nat.reduceLeDiff, Nat.reduceSub, Nat.reduceLT, Int.reduceEq, Int.reduceLT, Int.reduceLE, Int.reduceToNat, Int.reduceAdd, Int.reduceSub, Int.reduceMul, Int.reduceNeg]
     refine T S _ _ ?_
     exact fi F
   · replace T := T.2 c4
     replace c4 := Bool.eq_false_iff.2 c4
     obtain ⟨rfl, rfl⟩ := T
     exact fi (aa c4 <| F)
set_option maxHeartbeats 4000000 in
theorem lex_Lex_tree (s : List UInt8) (ra : List Token) (rb : Int) (T :
  ((6000 < (s.length : Int)) →
  [] = ra ∧ 4 = rb) ∧
 (¬ (6000 < (s.length : Int)) →
  ∃ (y1 : LTokens) (g2 : Nat) (z3 : Bool), (R_lex_tokens_skip (LTokens.mk (LText.mk s 0) []) 0 false y1 g2 z3) ∧
  At_lex_Lex_1 y1.text.left y1.text.pos y1.out g2 z3 ra rb)) : R_lex_Lex s ra rb := by
 intro S
 rw [call_code sp_lex_Lex _ _ rfl]
 have F := U_lex_Lex
 by_cases c1 : 6000 < (s.length : Int)
 · replace T := T.1 c1
   obtain ⟨rfl, rfl⟩ := T
   exact fi (aa (eq_true c1) <| F)
 · replace T := T.2 c1
   obtain ⟨y1, g2, z3, q2, T⟩ := T
   simp only [R_lex_tokens_skip, le, List.cons_append, List.nil_append] at q2
   replace F := aa (eq_false c1) <| aa q2 <| F
   try simp only [F, lw, lx, le, Nat.reduceMul, UInt8.reduceToNat, reduceIte, reduceCtorEq, Nat.reduceEqDiff, Nat.reduceAdd, Nat.reduceLeDiff, Nat.reduceSub, Nat.reduceLT, Int.reduceEq, Int.reduceLT, Int.reduceLE, Int.reduceToNat, Int.reduceAdd, Int.reduceSub, Int.reduceMul, Int.reduceNeg]
   refine T S _ _ ?_
   exact fi F
theorem sp_lex_Label : SP 81 = some (.code sc_lex_Label) := SPof_code rfl Tryz.func81 comp_lex_Label
/-! doorkeeper/lex.Label -/
set_option maxHeartbeats 4000000 in
theorem lex_Label_tree (s : List UInt8) (r : Bool) (T :
  ∃ (r1 : List UInt8), (R_strings_ReplaceAll s [45] [95] r1) ∧
 ∃ (r2 : Bool), (R_lex_Name r1 r2) ∧
 ((r2 = true) →
  ∃ (b3 : UInt8), (s[0]? = some b3) ∧
  (((b3.toNat : Int) = 45) →
   false = r) ∧
  (¬ ((b3.toNat : Int) = 45) →
   (!(decide ((b3.toNat : Int) = 95))) = r)) ∧
 (¬ (r2 = true) →
  false = r)) : R_lex_Label s r := by
 intro S
 rw [call_code sp_lex_Label _ _ rfl]
 have F := U_lex_Label
 obtain ⟨r1, q1, r2, q2, T⟩ := T
 simp only [R_strings_ReplaceAll, le, List.cons_append, List.nil_append] at q1
 simp only [R_lex_Name, le, List.cons_append, List.nil_append] at q2
 replace F := aa q1 <| aa q2 <| F
 by_cases c3 : r2 = true
 · replace T := T.1 c3
   obtain ⟨b3, q4, T⟩ := T
   replace F := aa c3 <| aa q4 <| F
   by_cases c5 : (b3.toNat : Int) = 45
   · replace T := T.1 c5
     obtain rfl := T
     exact fi (aa (eq_true c5) <| F)
   · replace T := T.2 c5
     obtain rfl := T
     exact fi (aa (eq_false c5) <| F)
 · replace T := T.2 c3
   replace c3 := Bool.eq_false_iff.2 c3
   obtain rfl := T
   exact fi (aa c3 <| F)
/-! doorkeeper/doorkeeperref1.Label -/
theorem sp_slices_Contains_int_int : SP 170 = some (.code sc_slices_Contains_int_int) := SPof_code rfl Tryz.func170 comp_slices_Contains_int_int
/-! slices.Contains[[]int,int] -/
set_option maxHeartbeats 4000000 in
theorem slices_Contains_int_int_tree (s : List Int) (v : Int) (r : Bool) (T :
  ∃ (r1 : Int), (R_slices_Index_int_int s v r1) ∧
 (decide (0 ≤ r1)) = r) : R_slices_Contains_int_int s v r := by
 intro S
 rw [call_code sp_slices_Contains_int_int _ _ rfl]
 have F := U_slices_Contains_int_int
 obtain ⟨r1, q1, rfl⟩ := T
 simp only [R_slices_Index_int_int, le, List.cons_append, List.nil_append] at q1
 exact fi (aa q1 <| F)
theorem sp_slices_Index_int_int : SP 190 = some (.code sc_slices_Index_int_int) := SPof_code rfl Tryz.func190 comp_slices_Index_int_int
/-! slices.Index[[]int,int] -/
def At_slices_Index_int_int_1 (s : List Int) (v : Int) (i1 : Int) (r : Int) : Prop := ∀ (S : Sto) (e : Nat → PV) (f : Fr), e 0 = .list 1 (s.map eI) false ∧ e 1 = .int .i64 v ∧ e 7 = .int .i64 (s.length : Int) ∧ e 8 = .int .i64 i1 → k_slices_Index_int_int_1 SP (E SP (.loop b_slices_Index_int_int_1) ⟨e, f :: S⟩) = .ok (.v (.int .i64 r)) S
set_option maxHeartbeats 4000000 in
theorem At_slices_Index_int_int_1_step (s : List Int) (v : Int) (i1 : Int) (r : Int) (T :
  ((i1 < (s.length : Int)) →
  (0 ≤ i1) ∧
  ∃ (v2 : Int), (s[i1.toNat]? = some v2) ∧
  ((v = v2) →
   i1 = r) ∧
  (¬ (v = v2) →
   (I64 (i1 + 1)) ∧
   At_slices_Index_int_int_1 s v (i1 + 1) r)) ∧
 (¬ (i1 < (s.length : Int)) →
  (-1) = r)) : At_slices_Index_int_int_1 s v i1 r := by
 intro S e f h
 unfold k_slices_Index_int_int_1
 rw [E_loop]
 have F := U_slices_Index_int_int
 replace F := aa h <| F
 by_cases c1 : i1 < (s.length : Int)
 · replace T := T.1 c1
   obtain ⟨p2, v2, q3, T⟩ := T
   replace F := aa (eq_true c1) <| aa p2 <| aa q3 <| F
   by_cases c4 : v = v2
   · replace T := T.1 c4
     obtain rfl := T
     exact fi (aa (eq_true c4) <| F)
   · replace T := T.2 c4
     obtain ⟨p5, T⟩ := T
     replace F := aa (eq_false c4) <| aa p5.wrap <| F
     try simp only [F, lw, lx, le, Nat.reduceMul, UInt8.reduceToNat, reduceIte, reduceCtorEq, Nat.reduceEqDiff, Nat.reduceAdd, Nat.reduceLeDiff, Nat.reduceSub, Nat.reduceLT, Int.reduceEq, Int.reduceLT, Int.reduceLE, Int.reduceToNat, Int.reduceAdd, Int.reduceSub, Int.reduceMul, Int.reduceNeg]
     refine T S _ _ ?_
     exact fi F
 · replace T := T.2 c1
   obtain rfl := T
   exact fi (aa (eq_false c1) <| F)
set_option maxHeartbeats 4000000 in
theorem slices_Index_int_int_tree (s : List Int) (v : Int) (r : Int) (T :
  At_slices_Index_int_int_1 s v 0 r) : R_slices_Index_int_int s v r := by
 intro S
 rw [call_code sp_slices_Index_int_int _ _ rfl]
 have F := U_slices_Index_int_int
 try simp only [F, lw, lx, le, Nat.reduceMul, UInt8.reduceToNat, reduceIte, reduceCtorEq, Nat.reduceEqDiff, Nat.reduceAdd, Nat.reduceLeDiff, Nat.reduceSub, Nat.reduceLT, Int.reduceEq, Int.reduceLT, Int.reduceLE, Int.reduceToNat, Int.reduceAdd, Int.reduceSub, Int.reduceMul, Int.reduceNeg]
 refine T S _ _ ?_
 exact fi F
theorem sp_slices_Contains_string_string : SP 161 = some (.code sc_slices_Contains_string_string) := SPof_code rfl Tryz.func161 comp_slices_Contains_string_string
/-! slices.Contains[[]string,string] -/
set_option maxHeartbeats 4000000 in
theorem slices_Contains_string_string_tree (s : List (List UInt8)) (v : List UInt8) (r : Bool) (T :
  ∃ (r1 : Int), (R_slices_Index_string_string s v r1) ∧
 (decide (0 ≤ r1)) = r) : R_slices_Contains_string_string s v r := by
 intro S
 rw [call_code sp_slices_Contains_string_string _ _ rfl]
 have F := U_slices_Contains_string_string
 obtain ⟨r1, q1, rfl⟩ := T
 simp only [R_slices_Index_string_string, le, List.cons_append, List.nil_append] at q1
 exact fi (aa q1 <| F)
end Go.Proofs.YtfbcnpbhhooapaaGreatDoor.M

/- Lex: classes, spans, what is in a list; what a name is. -/
namespace Go.Proofs.YtfbcnpbhhooapaaGreatDoor.M
set_option linter.unusedSimpArgs false
set_option linter.unusedVariables false
open Go Classical
def clsS (c : UInt8) : Int :=
  if c.toNat = 32 ∨ c.toNat = 10 then 1 else if c.toNat = 95 ∨ (97 ≤ c.toNat ∧ c.toNat ≤ 122) then 2
  else if 48 ≤ c.toNat ∧ c.toNat ≤ 57 then 3 else if c.toNat = 34 then 4 else if c.toNat = 35 then 5 else 0
theorem r_class (c : UInt8) : R_lex_class c (clsS c) := by
  apply lex_class_tree
  unfold clsS
  repeat' first
    | refine ⟨fun h => ?_, fun h => ?_⟩
    | ((repeat' split) <;> omega)
theorem r_idxI (s : List Int) (v : Int) (hs : s.length < 1000000) : ∀ (k i : Nat), i + k = s.length → ∃ r : Int, At_slices_Index_int_int_1 s v i r ∧ (0 ≤ r ↔ v ∈ s.drop i)
  | 0, i, h => ⟨-1, by
      apply At_slices_Index_int_int_1_step
      exact ⟨fun h => by omega, fun _ => rfl⟩, by rw [List.drop_eq_nil_of_le (by omega)]; simp⟩
  | k + 1, i, h => by
    have hi : i < s.length := by omega
    have hg : s[((i : Nat) : Int).toNat]? = some s[i] := by rw [Int.toNat_natCast]; exact List.getElem?_eq_getElem hi
    have hd : s.drop i = s[i] :: s.drop (i + 1) := List.drop_eq_getElem_cons hi
    by_cases c : v = s[i]
    · refine ⟨i, ?_, ?_⟩
      · apply At_slices_Index_int_int_1_step
        exact ⟨fun _ => ⟨by omega, s[i], hg, fun _ => rfl, fun h => absurd c h⟩, fun h => by omega⟩
      · rw [hd, ← c]; simp
    · obtain ⟨r, h1, h2⟩ := r_idxI s v hs k (i + 1) (by omega)
      refine ⟨r, ?_, ?_⟩
      · apply At_slices_Index_int_int_1_step
        exact ⟨fun _ => ⟨by omega, s[i], hg, fun h => absurd h c, fun _ => ⟨⟨by omega, by omega⟩, h1⟩⟩, fun h => by omega⟩
      · rw [hd, h2, List.mem_cons]; simp [c]
theorem r_containsI (s : List Int) (v : Int) (hs : s.length < 1000000) : R_slices_Contains_int_int s v (decide (v ∈ s)) := by
  apply slices_Contains_int_int_tree
  obtain ⟨r, h1, h2⟩ := r_idxI s v hs s.length 0 (by omega)
  refine ⟨r, slices_Index_int_int_tree s v r h1, ?_⟩
  rw [List.drop_zero] at h2
  exact decide_eq_decide.2 h2
theorem r_idxS (s : List (List UInt8)) (v : List UInt8) (hs : s.length < 1000000) : ∀ (k i : Nat), i + k = s.length → ∃ r : Int, At_slices_Index_string_string_1 s v i r ∧ (0 ≤ r ↔ v ∈ s.drop i)
  | 0, i, h => ⟨-1, by
      apply At_slices_Index_string_string_1_step
      exact ⟨fun h => by omega, fun _ => rfl⟩, by rw [List.drop_eq_nil_of_le (by omega)]; simp⟩
  | k + 1, i, h => by
    have hi : i < s.length := by omega
    have hg : s[((i : Nat) : Int).toNat]? = some s[i] := by rw [Int.toNat_natCast]; exact List.getElem?_eq_getElem hi
    have hd : s.drop i = s[i] :: s.drop (i + 1) := List.drop_eq_getElem_cons hi
    by_cases c : v = s[i]
    · refine ⟨i, ?_, ?_⟩
      · apply At_slices_Index_string_string_1_step
        exact ⟨fun _ => ⟨by omega, s[i], hg, fun _ => rfl, fun h => absurd c h⟩, fun h => by omega⟩
      · rw [hd, ← c]; simp
    · obtain ⟨r, h1, h2⟩ := r_idxS s v hs k (i + 1) (by omega)
      refine ⟨r, ?_, ?_⟩
      · apply At_slices_Index_string_string_1_step
        exact ⟨fun _ => ⟨by omega, s[i], hg, fun h => absurd h c, fun _ => ⟨⟨by omega, by omega⟩, h1⟩⟩, fun h => by omega⟩
      · rw [hd, h2, List.mem_cons]; simp [c]
theorem r_containsS (s : List (List UInt8)) (v : List UInt8) (hs : s.length < 1000000) : R_slices_Contains_string_string s v (decide (v ∈ s)) := by
  apply slices_Contains_string_string_tree
  obtain ⟨r, h1, h2⟩ := r_idxS s v hs s.length 0 (by omega)
  refine ⟨r, slices_Index_string_string_tree s v r h1, ?_⟩
  rw [List.drop_zero] at h2
  exact decide_eq_decide.2 h2
/-! ### Spans -/
def inC (cl : List Int) (c : UInt8) : Bool := decide (clsS c ∈ cl)
def spanS (cl : List Int) (s : List UInt8) : Nat := (s.takeWhile (inC cl)).length
theorem spanS_le (cl : List Int) : ∀ s : List UInt8, spanS cl s ≤ s.length
  | [] => Nat.le_refl _
  | c :: s => by
    unfold spanS
    rw [List.takeWhile_cons]
    split
    · have := spanS_le cl s; unfold spanS at this; simp only [List.length_cons]; omega
    · simp
theorem r_span_loop (s : List UInt8) (cl : List Int) (hc : cl.length < 1000000) (hs : s.length ≤ 1000000) : ∀ (k i : Nat), i + k = s.length → ∀ r : Int, r = (i : Int) + spanS cl (s.drop i) → At_lex_span_1 s cl i r := by
  intro k
  induction k with
  | zero =>
    intro i hi r hr
    apply At_lex_span_1_step
    rw [List.drop_eq_nil_of_le (by omega)] at hr
    exact ⟨fun h => by omega, fun _ => by rw [hr]; simp [spanS]; omega⟩
  | succ k ih =>
    intro i hi r hr
    have hlt : i < s.length := by omega
    have hg : s[((i : Nat) : Int).toNat]? = some s[i] := by rw [Int.toNat_natCast]; exact List.getElem?_eq_getElem hlt
    have hd : s.drop i = s[i] :: s.drop (i + 1) := List.drop_eq_getElem_cons hlt
    rw [hd, spanS, List.takeWhile_cons] at hr
    apply At_lex_span_1_step
    refine ⟨fun _ => ⟨by omega, s[i], hg, _, r_class _, _, r_containsI cl _ hc, fun h => ?_, fun h => ?_⟩, fun h => by omega⟩
    · refine ⟨⟨by omega, by omega⟩, ih (i + 1) (by omega) r ?_⟩
      have h' : inC cl s[i] = true := h
      rw [hr, if_pos h', spanS]
      simp only [List.length_cons]
      omega
    · have h' : ¬ inC cl s[i] = true := h
      rw [hr, if_neg h']
      simp
theorem r_span (s : List UInt8) (cl : List Int) (hc : cl.length < 1000000) (hs : s.length ≤ 1000000) : R_lex_span s cl (spanS cl s) := by
  apply lex_span_tree
  exact r_span_loop s cl hc hs s.length 0 (by omega) _ (by simp)
end Go.Proofs.YtfbcnpbhhooapaaGreatDoor.M

/- Lex: what a name is, on both sides; where a name ends. -/
namespace Go.Proofs.YtfbcnpbhhooapaaGreatDoor.M
set_option linter.unusedSimpArgs false
set_option linter.unusedVariables false
open Go Classical
theorem inC23 (c : UInt8) : inC [2, 3] c = true ↔ clsS c = 2 ∨ clsS c = 3 := by
  unfold inC
  simp
/-- How long the name is that stands at the beginning. -/
def endS (s : List UInt8) : Nat := match s with
  | [] => 0
  | c :: _ => if clsS c = 2 then spanS [2, 3] s else 0
/-- Is a text a name? -/
def nameS (s : List UInt8) : Bool := decide (s ≠ [] ∧ s.length ≤ 24 ∧ endS s = s.length)
theorem r_lexName (s : List UInt8) (hs : s.length ≤ 1000000) : R_lex_Name s (nameS s) := by
  apply lex_Name_tree
  refine ⟨fun h => ?_, fun h => ⟨fun h2 => ?_, fun h2 => ?_⟩⟩
  · simp [nameS, h]
  · cases s with
    | nil => exact absurd rfl h
    | cons c t =>
      refine ⟨c, rfl, _, r_class c, fun h3 => ⟨_, r_span _ _ (by decide) hs, ?_⟩, fun h3 => ?_⟩
      · refine decide_eq_decide.2 ?_
        rw [endS, if_pos h3]
        constructor
        · intro e; exact ⟨by simp, by omega, by omega⟩
        · intro e; have := e.2.2; omega
      · refine (decide_eq_false ?_).symm
        rw [endS, if_neg h3]
        intro e
        have := e.2.2
        simp at this
  · refine (decide_eq_false fun e => ?_).symm
    have := e.2.1
    omega
end Go.Proofs.YtfbcnpbhhooapaaGreatDoor.M

/- Lex: a text cut at one byte; names on the other side. -/
namespace Go.Proofs.YtfbcnpbhhooapaaGreatDoor.M
set_option linter.unusedSimpArgs false
set_option linter.unusedVariables false
open Go Classical
theorem index1 (b : UInt8) : ∀ s : List UInt8, Lib.index s [b] = if b ∈ s then ((s.takeWhile (· != b)).length : Int) else -1
  | [] => by simp [Lib.index]
  | c :: l => by
    unfold Lib.index
    rw [index1 b l]
    by_cases h : b = c
    · subst h
      simp [List.takeWhile_cons]
    · have h' : ¬ c = b := fun e => h e.symm
      by_cases hm : b ∈ l
      · simp [List.takeWhile_cons, h, h', hm]
      · simp [h, hm]
theorem take_while_len (p : UInt8 → Bool) : ∀ s : List UInt8, s.take (s.takeWhile p).length = s.takeWhile p
  | [] => rfl
  | c :: s => by
    rw [List.takeWhile_cons]
    split
    · simp [take_while_len p s]
    · rfl
theorem drop_while_len (p : UInt8 → Bool) : ∀ s : List UInt8, s.drop (s.takeWhile p).length = s.dropWhile p
  | [] => rfl
  | c :: s => by
    rw [List.takeWhile_cons, List.dropWhile_cons]
    split
    · simp [drop_while_len p s]
    · rfl
theorem cut1 (b : UInt8) (s : List UInt8) : Lib.cut s [b] = if b ∈ s then (s.takeWhile (· != b), (s.dropWhile (· != b)).drop 1, true) else (s, [], false) := by
  unfold Lib.cut
  rw [index1]
  by_cases h : b ∈ s
  · simp only [h, if_true]
    rw [if_pos (by omega)]
    simp only [Int.toNat_natCast, List.length_cons, List.length_nil, Nat.zero_add]
    rw [take_while_len, ← drop_while_len, List.drop_drop]
  · simp [h]
theorem r_Cut (s p : List UInt8) (hs : s.length ≤ 1000000) : R_strings_Cut s p (Lib.cut s p).1 (Lib.cut s p).2.1 (Lib.cut s p).2.2 := fun S => call_ext sp_strings_Cut S (if_pos (by omega))
theorem r_HasPrefix (s p : List UInt8) : R_strings_HasPrefix s p (Lib.hasPrefix s p) := fun S => call_ext sp_strings_HasPrefix S rfl
theorem r_SContains (s p : List UInt8) (hs : s.length ≤ 1000000) : R_strings_Contains s p (Lib.contains s p) := fun S => call_ext sp_strings_Contains S (if_pos (by omega))
end Go.Proofs.YtfbcnpbhhooapaaGreatDoor.M

/- Lex: what stands between '${' and '}'. -/
namespace Go.Proofs.YtfbcnpbhhooapaaGreatDoor.M
set_option linter.unusedSimpArgs false
set_option linter.unusedVariables false
open Go Classical
/-- Two names with a dot between. -/
def dottedS (s : List UInt8) : Bool := (Lib.cut s [46]).2.2 && nameS (Lib.cut s [46]).1 && nameS (Lib.cut s [46]).2.1
/-- The reference that a text (behind '${') begins with, and whether there is one. -/
def refS (s : List UInt8) : List UInt8 × Bool := ((Lib.cut s [125]).1, (Lib.cut s [125]).2.2 && dottedS (Lib.cut s [125]).1)
theorem cut_len1 (s p : List UInt8) : (Lib.cut s p).1.length ≤ s.length := by
  unfold Lib.cut
  split
  · simp; omega
  · simp
theorem cut_len2 (s p : List UInt8) : (Lib.cut s p).2.1.length ≤ s.length := by
  unfold Lib.cut
  split
  · simp
  · simp
theorem r_reference (s : List UInt8) (h2 : 2 ≤ s.length) (hs : s.length ≤ 1000000) : R_lex_reference s (refS (s.drop 2)).1 (refS (s.drop 2)).2 := by
  apply lex_reference_tree
  have e : (s.drop 2).take (s.length - 2) = s.drop 2 := List.take_of_length_le (by simp)
  rw [e]
  have l0 : (s.drop 2).length ≤ 1000000 := by simp; omega
  generalize s.drop 2 = t at l0
  have l1 := cut_len1 t [125]
  have l2 := cut_len1 (Lib.cut t [125]).1 [46]
  have l3 := cut_len2 (Lib.cut t [125]).1 [46]
  refine ⟨h2, _, _, _, r_Cut t [125] l0, _, _, _, r_Cut _ [46] (by omega), fun h3 => ⟨fun h6 => ⟨_, r_lexName _ (by omega), fun h7 => ⟨_, r_lexName _ (by omega), rfl, ?_⟩, fun h7 => ⟨rfl, ?_⟩⟩, fun h6 => ⟨rfl, ?_⟩⟩, fun h3 => ⟨rfl, ?_⟩⟩
  · simp [refS, dottedS, h3, h6, h7]
  · simp [refS, dottedS, h7]
  · simp [refS, dottedS, h6]
  · simp [refS, h3]
end Go.Proofs.YtfbcnpbhhooapaaGreatDoor.M

/- Lex: two names with a dot, on the other side. -/
namespace Go.Proofs.YtfbcnpbhhooapaaGreatDoor.M
set_option linter.unusedSimpArgs false
set_option linter.unusedVariables false
open Go Classical
theorem takeWhile_stop (p : UInt8 → Bool) : ∀ (u : List UInt8) (c : UInt8) (v : List UInt8), (∀ x ∈ u, p x = true) → p c = false → (u ++ c :: v).takeWhile p = u
  | [], c, v, _, hc => by simp [List.takeWhile_cons, hc]
  | x :: u, c, v, h, hc => by
    rw [List.cons_append, List.takeWhile_cons, if_pos (h x (by simp)), takeWhile_stop p u c v (fun y hy => h y (by simp [hy])) hc]
theorem cut_split (b : UInt8) (u v : List UInt8) (h : b ∉ u) : Lib.cut (u ++ b :: v) [b] = (u, v, true) := by
  have h1 : (u ++ b :: v).takeWhile (· != b) = u := takeWhile_stop _ u b v (fun x hx => by simp; intro e; exact h (e ▸ hx)) (by simp)
  rw [cut1, if_pos (by simp), ← drop_while_len, h1]
  simp
theorem cut_none (b : UInt8) (s : List UInt8) (h : b ∉ s) : Lib.cut s [b] = (s, [], false) := by rw [cut1, if_neg h]
theorem splitAt_first (b : UInt8) : ∀ s : List UInt8, b ∈ s → ∃ u v, s = u ++ b :: v ∧ b ∉ u
  | [], h => by cases h
  | c :: s, h => by
    by_cases e : b = c
    · exact ⟨[], s, by rw [e]; rfl, by simp⟩
    · obtain ⟨u, v, h1, h2⟩ := splitAt_first b s (by rcases List.mem_cons.1 h with h | h; exact absurd h e; exact h)
      exact ⟨c :: u, v, by rw [h1]; rfl, by simp [e, h2]⟩
theorem span_in (cl : List Int) : ∀ (s : List UInt8) (x : UInt8), x ∈ s.take (spanS cl s) → inC cl x = true := fun s x h => by
  unfold spanS at h
  rw [take_while_len] at h
  exact List.all_eq_true.1 List.all_takeWhile x h
theorem endS_in (s : List UInt8) (x : UInt8) (h : x ∈ s.take (endS s)) : inC [2, 3] x = true := by
  unfold endS at h
  split at h
  · simp at h
  · split at h
    · exact span_in _ _ x h
    · simp at h
theorem name_in {s : List UInt8} (h : nameS s = true) (x : UInt8) (hx : x ∈ s) : inC [2, 3] x = true := by
  obtain ⟨_, _, h3⟩ := of_decide_eq_true h
  refine endS_in s x ?_
  rw [h3, List.take_length]
  exact hx
theorem in46 : inC [2, 3] 46 = false := by
  rw [← Bool.not_eq_true, inC23]
  decide
end Go.Proofs.YtfbcnpbhhooapaaGreatDoor.M

/- Lex: references on the other side. -/
namespace Go.Proofs.YtfbcnpbhhooapaaGreatDoor.M
set_option linter.unusedSimpArgs false
set_option linter.unusedVariables false
open Go Classical
theorem in125 : inC [2, 3] 125 = false := by
  rw [← Bool.not_eq_true, inC23]
  decide
theorem dotted_split {s : List UInt8} (h : dottedS s = true) : ∃ x y, s = x ++ 46 :: y ∧ nameS x = true ∧ nameS y = true := by
  unfold dottedS at h
  by_cases hm : (46 : UInt8) ∈ s
  · obtain ⟨u, v, rfl, hu⟩ := splitAt_first 46 s hm
    rw [cut_split 46 u v hu] at h
    simp only [Bool.and_eq_true] at h
    exact ⟨u, v, rfl, h.1.2, h.2⟩
  · rw [cut_none 46 s hm] at h
    cases h
theorem ref_split {t : List UInt8} (h : (refS t).2 = true) : ∃ x y v, t = x ++ 46 :: (y ++ 125 :: v) ∧ nameS x = true ∧ nameS y = true ∧ (refS t).1 = x ++ 46 :: y := by
  unfold refS at h ⊢
  by_cases hm : (125 : UInt8) ∈ t
  · obtain ⟨u, v, rfl, hu⟩ := splitAt_first 125 t hm
    rw [cut_split 125 u v hu] at h ⊢
    obtain ⟨x, y, rfl, hx, hy⟩ := dotted_split (by simpa using h)
    exact ⟨x, y, v, by simp, hx, hy, rfl⟩
  · rw [cut_none 125 t hm] at h
    cases h
theorem drop_mid (b : UInt8) (x w : List UInt8) : (x ++ b :: w).drop (x.length + 1) = w := by rw [List.drop_append]; simp
end Go.Proofs.YtfbcnpbhhooapaaGreatDoor.M

/- Lex: signs. -/
namespace Go.Proofs.YtfbcnpbhhooapaaGreatDoor.M
set_option linter.unusedSimpArgs false
set_option linter.unusedVariables false
open Go Classical
def ones : List Int := [123, 125, 91, 93, 40, 41, 61, 44, 46, 43, 45, 42, 47, 37, 60, 62, 33, 63, 58]
def twos : List (List UInt8) := [[61, 61], [33, 61], [60, 61], [62, 61], [38, 38], [124, 124]]
def sign1 (a : UInt8) : List UInt8 := if ((a.toNat : Nat) : Int) ∈ ones then [a] else []
def sign2 (a b : UInt8) : List UInt8 := if [a, b] ∈ twos then [a, b] else sign1 a
/-- The longest sign that stands at the beginning; none: nothing. -/
def signS : List UInt8 → List UInt8
  | [] => []
  | [a] => sign1 a
  | a :: b :: _ => sign2 a b
end Go.Proofs.YtfbcnpbhhooapaaGreatDoor.M

/- Lex: taking; names and signs as tokens; a byte behind parts. -/
namespace Go.Proofs.YtfbcnpbhhooapaaGreatDoor.M
set_option linter.unusedSimpArgs false
set_option linter.unusedVariables false
open Go Classical
/-- What is left, and where: all within bounds. -/
def TI (t : LText) : Prop := t.left.length ≤ 6000 ∧ 0 ≤ t.pos ∧ t.pos + (t.left.length : Nat) ≤ 6000
def takeT (t : LText) (n : Nat) : LText := ⟨t.left.drop n, t.pos + n⟩
theorem TI.take {t : LText} (h : TI t) {n : Nat} (hn : n ≤ t.left.length) : TI (takeT t n) := by
  obtain ⟨h1, h2, h3⟩ := h
  refine ⟨?_, ?_, ?_⟩ <;> simp only [takeT, List.length_drop] <;> omega
theorem r_take {t : LText} (h : TI t) {n : Nat} (hn : n ≤ t.left.length) : R_lex_text_take t n (t.left.take n) (takeT t n) := by
  apply lex_text_take_tree
  obtain ⟨h1, h2, h3⟩ := h
  rw [Int.toNat_natCast]
  refine ⟨by omega, hn, by omega, hn, ⟨by omega, by omega⟩, rfl, ?_⟩
  rw [List.take_of_length_le (by simp)]
  rfl
theorem r_word {t : LText} (h : TI t) (cl : List Int) (hc : cl.length < 1000000) : R_lex_text_word t cl (t.left.takeWhile (inC cl)) (takeT t (spanS cl t.left)) := by
  apply lex_text_word_tree
  have h1 := h.1
  refine ⟨_, r_span t.left cl hc (by omega), _, _, r_take h (spanS_le cl t.left), ?_, rfl⟩
  exact take_while_len _ _
theorem r_name (t : LTokens) (g : Nat) (z : Bool) (h : TI t.text) : R_lex_tokens_name t g z (Token.mk 3 (t.text.left.takeWhile (inC [2, 3])) 0 [] 0) (nameS (t.text.left.takeWhile (inC [2, 3]))) (LTokens.mk (takeT t.text (spanS [2, 3] t.text.left)) t.out) g z := by
  apply lex_tokens_name_tree
  have h1 := h.1
  have h2 := spanS_le [2, 3] t.text.left
  exact ⟨_, _, r_word h [2, 3] (by decide), _, r_lexName _ (by unfold spanS at h2; omega), rfl, rfl, rfl, rfl, rfl⟩
theorem has_ones (a : UInt8) : Lib.contains [123, 125, 91, 93, 40, 41, 61, 44, 46, 43, 45, 42, 47, 37, 60, 62, 33, 63, 58] [a] = decide (((a.toNat : Nat) : Int) ∈ ones) := by
  unfold Lib.contains
  rw [index1]
  refine decide_eq_decide.2 ?_
  have e : a ∈ ([123, 125, 91, 93, 40, 41, 61, 44, 46, 43, 45, 42, 47, 37, 60, 62, 33, 63, 58] : List UInt8) ↔ ((a.toNat : Nat) : Int) ∈ ones := by
    simp only [ones, List.mem_cons, List.not_mem_nil, or_false, ← UInt8.toNat_inj, UInt8.reduceToNat]
    omega
  rw [← e]
  split
  · rename_i h; simp only [h, iff_true]; omega
  · rename_i h; simp only [h, iff_false]; omega
/-- A sign taken. -/
theorem r_sign (t : LTokens) (g : Nat) (z : Bool) (h : TI t.text) (hne : t.text.left ≠ []) : R_lex_tokens_sign t g z (if signS t.text.left = [] then Token.mk 0 [] 0 [] 0 else Token.mk 4 (signS t.text.left) 0 [] 0) (decide (signS t.text.left ≠ [])) (if signS t.text.left = [] then t else LTokens.mk (takeT t.text (signS t.text.left).length) t.out) g z := by
  apply lex_tokens_sign_tree
  obtain ⟨⟨left, pos⟩, out⟩ := t
  have h1 := h.1
  simp only at h1 hne ⊢
  match left, hne, h1, h with
  | [a], hne, h1, h =>
    have hn : ¬ [a] ∈ twos := by unfold twos; simp
    have e0 : (if (([a].length : Nat) : Int) < 2 then (([a].length : Nat) : Int) else 2).toNat = 1 := by simp
    rw [e0]
    simp only [List.take_succ_cons, List.take_zero, List.length_cons, List.length_nil]
    refine ⟨by simp, by omega, _, r_containsS twos [a] (by decide), fun hq => absurd (of_decide_eq_true hq) hn, fun _ => ⟨by omega, _, r_SContains _ [a] (by simp), fun hq => ?_, fun hq => ?_⟩⟩
    · rw [has_ones] at hq
      have hq := of_decide_eq_true hq
      have hs : signS [a] = [a] := by simp [signS, sign1, hq]
      rw [hs]
      exact ⟨_, _, r_take h (n := 1) (by simp), by simp⟩
    · rw [has_ones] at hq
      have hq : ¬ ((a.toNat : Nat) : Int) ∈ ones := fun e => hq (decide_eq_true e)
      have hs : signS [a] = [] := by simp [signS, sign1, hq]
      rw [hs]
      simp
  | a :: b :: u, hne, h1, h =>
    have e0 : (if (((a :: b :: u).length : Nat) : Int) < 2 then (((a :: b :: u).length : Nat) : Int) else 2) = 2 := by
      rw [if_neg]; simp only [List.length_cons]; omega
    have e00 : (2 : Int).toNat = 2 := rfl
    rw [e0, e00]
    simp only [List.take_succ_cons, List.take_zero, List.length_cons, List.length_nil]
    refine ⟨by simp, by omega, _, r_containsS twos [a, b] (by decide), fun hq => ?_, fun hn => ⟨by omega, _, r_SContains _ [a] (by simp), fun hq => ?_, fun hq => ?_⟩⟩
    · have hq := of_decide_eq_true hq
      have hs : signS (a :: b :: u) = [a, b] := by simp [signS, sign2, hq]
      rw [hs]
      exact ⟨_, _, r_take h (n := 2) (by simp), by simp⟩
    · have hn : ¬ [a, b] ∈ twos := fun e => hn (decide_eq_true e)
      rw [has_ones] at hq
      have hq := of_decide_eq_true hq
      have hs : signS (a :: b :: u) = [a] := by simp [signS, sign2, sign1, hn, hq]
      rw [hs]
      exact ⟨_, _, r_take h (n := 1) (by simp), by simp⟩
    · have hn : ¬ [a, b] ∈ twos := fun e => hn (decide_eq_true e)
      rw [has_ones] at hq
      have hq : ¬ ((a.toNat : Nat) : Int) ∈ ones := fun e => hq (decide_eq_true e)
      have hs : signS (a :: b :: u) = [] := by simp [signS, sign2, sign1, hn, hq]
      rw [hs]
      simp
end Go.Proofs.YtfbcnpbhhooapaaGreatDoor.M

/- Lex: quoted texts: what they are (Qx), and that lex.quoted takes them so. -/
namespace Go.Proofs.YtfbcnpbhhooapaaGreatDoor.M
set_option linter.unusedSimpArgs false
set_option linter.unusedVariables false
open Go Classical
def escS (x : UInt8) : Option UInt8 := if x = 34 ∨ x = 92 ∨ x = 36 then some x else if x = 110 then some 10 else none
theorem r_IndexByte (s : List UInt8) (c : UInt8) : R_strings_IndexByte s c (Lib.indexByte s c) := fun S => call_ext sp_strings_IndexByte S (by simp [indexX])
theorem r_escaped (y x : UInt8) (u : List UInt8) : R_lex_escaped (y :: x :: u) ((escS x).getD 0) (escS x).isSome := by
  apply lex_escaped_tree
  refine ⟨fun h => absurd h (by simp; omega), fun _ => ⟨x, rfl, _, r_IndexByte _ x, ?_⟩⟩
  unfold escS
  by_cases h1 : x = 34
  · subst h1
    exact ⟨fun h => absurd h (by decide), fun _ => ⟨by decide, 34, rfl, rfl, rfl⟩⟩
  · by_cases h2 : x = 92
    · subst h2
      exact ⟨fun h => absurd h (by decide), fun _ => ⟨by decide, 92, rfl, rfl, rfl⟩⟩
    · by_cases h3 : x = 36
      · subst h3
        exact ⟨fun h => absurd h (by decide), fun _ => ⟨by decide, 36, rfl, rfl, rfl⟩⟩
      · by_cases h4 : x = 110
        · subst h4
          exact ⟨fun h => absurd h (by decide), fun _ => ⟨by decide, 10, rfl, rfl, rfl⟩⟩
        · have e : Lib.indexByte [34, 92, 36, 110] x = -1 := by
            have := Lib.indexByte_ge [34, 92, 36, 110] x
            simp [Lib.indexByte, Ne.symm h1, Ne.symm h2, Ne.symm h3, Ne.symm h4]
          rw [e]
          simp [h1, h2, h3, h4]
/-- Parts, and a text that grows behind them. -/
def joinP (l : List Part) (b : List UInt8) : List Part := l ++ (if b = [] then [] else [Part.mk false b])
def okP (l : List Part) : Prop := l = [] ∨ ∃ l0 q, l = l0 ++ [Part.mk true q]
theorem set_last {α : Type} (l : List α) (x y : α) : (l ++ [x]).set l.length y = l ++ [y] := by simp
theorem r_plain (l : List Part) (b : List UInt8) (c : UInt8) (g : Nat) (hl : okP l) (h1 : l.length ≤ 10000) (h2 : b.length ≤ 10000) : R_lex_parts_plain (joinP l b) g false c (joinP l (b ++ [c])) g false := by
  apply lex_parts_plain_tree
  have hb : b ++ [c] ≠ [] := by simp
  by_cases e : b = []
  · subst e
    have e1 : joinP l [] = l := by simp [joinP]
    have e2 : joinP l ([] ++ [c]) = l ++ [Part.mk false [c]] := by simp [joinP]
    have e3 : (((l.length : Nat) : Int) + 1 - 1).toNat = l.length := by omega
    have big : bigRow (l.length + 1) 24 := ⟨by omega, by omega, by decide⟩
    rw [e1, e2, e3]
    refine ⟨fun h => ⟨big, ⟨by omega, by omega⟩, ⟨by omega, by omega⟩, by omega, by omega, Part.mk false [], by simp, by simp [maxInt], by omega, by omega, rfl, ?_, rfl, rfl⟩, fun h => ?_⟩
    · rw [set_last]; rfl
    · rcases hl with rfl | ⟨l0, q, rfl⟩
      · exact absurd rfl h
      · have e4 : ((((l0 ++ [Part.mk true q]).length : Nat) : Int) - 1).toNat = l0.length := by simp
        have hlen : (l0 ++ [Part.mk true q]).length = l0.length + 1 := by simp
        rw [e4]
        refine ⟨⟨by omega, by omega⟩, by omega, by omega, Part.mk true q, by simp, fun _ => ⟨big, ⟨by omega, by omega⟩, ⟨by omega, by omega⟩, by omega, by omega, Part.mk false [], by simp, by simp [maxInt], by omega, by omega, rfl, ?_, rfl, rfl⟩, fun h => absurd rfl h⟩
        rw [set_last]; rfl
  · have e1 : joinP l b = l ++ [Part.mk false b] := by simp [joinP, e]
    have e2 : joinP l (b ++ [c]) = l ++ [Part.mk false (b ++ [c])] := by simp [joinP]
    have hlen : (l ++ [Part.mk false b]).length = l.length + 1 := by simp
    have e3 : ((((l ++ [Part.mk false b]).length : Nat) : Int) - 1).toNat = l.length := by omega
    rw [e1, e2]
    refine ⟨fun h => by omega, fun h => ?_⟩
    rw [e3]
    refine ⟨⟨by omega, by omega⟩, by omega, by omega, Part.mk false b, by simp, fun h => by simp at h, fun _ => ⟨⟨by omega, by omega⟩, by omega, by omega, by simp only [maxInt]; omega, by omega, by omega, rfl, ?_, rfl, rfl⟩⟩
    rw [set_last]
/-- A quoted text, behind its first sign: parts so far (l, and b behind them); what comes of it: none, or the parts and how long it is. -/
inductive Qx : List UInt8 → List Part → List UInt8 → Option (List Part × Nat) → Prop
  | nil (l b) : Qx [] l b none
  | shut (t l b) : Qx (34 :: t) l b (some (joinP l b, 1))
  | low (c t l b) (h1 : c ≠ 34) (h2 : c.toNat < 32) : Qx (c :: t) l b none
  | esc (x y t l b r) (h1 : escS x = some y) (h : Qx t l (b ++ [y]) r) : Qx (92 :: x :: t) l b (r.map fun q => (q.1, q.2 + 2))
  | esc0 (l b) : Qx [92] l b none
  | escbad (x t l b) (h1 : escS x = none) : Qx (92 :: x :: t) l b none
  | ref (t l b r) (h1 : (refS t).2 = true) (h : Qx (t.drop ((refS t).1.length + 1)) (joinP l b ++ [Part.mk true (refS t).1]) [] r) : Qx (36 :: 123 :: t) l b (r.map fun q => (q.1, q.2 + (3 + (refS t).1.length)))
  | refbad (t l b) (h1 : (refS t).2 = false) : Qx (36 :: 123 :: t) l b none
  | plain (c t l b r) (h1 : c ≠ 34) (h2 : ¬ c.toNat < 32) (h3 : c ≠ 92) (h4 : c = 36 → t.head? ≠ some 123) (h : Qx t l (b ++ [c]) r) : Qx (c :: t) l b (r.map fun q => (q.1, q.2 + 1))
theorem refS_len {t : List UInt8} (h : (refS t).2 = true) : (refS t).1.length + 1 ≤ t.length := by
  obtain ⟨x, y, v, e, _, _, e2⟩ := ref_split h
  rw [e2, e]
  simp
  omega
end Go.Proofs.YtfbcnpbhhooapaaGreatDoor.M

/- Lex: lex.quoted takes what Qx tells. -/
namespace Go.Proofs.YtfbcnpbhhooapaaGreatDoor.M
set_option linter.unusedSimpArgs false
set_option linter.unusedVariables false
open Go Classical
theorem cls4 (c : UInt8) : clsS c = 4 ↔ c = 34 := by
  have e : c = 34 ↔ c.toNat = 34 := by rw [← UInt8.toNat_inj]; rfl
  rw [e]
  unfold clsS
  repeat' split
  all_goals (first | omega | (constructor <;> intro h <;> first | omega | exact absurd h (by decide)))
theorem takeT_takeT (t : LText) (a b : Nat) : takeT (takeT t a) b = takeT t (a + b) := by
  unfold takeT
  simp only [LText.mk.injEq, List.drop_drop]
  exact ⟨trivial, by omega⟩
theorem head_left {t : LText} {c : UInt8} {u : List UInt8} (h : t.left = c :: u) : ¬ t.left = [] ∧ t.left[0]? = some c := by rw [h]; simp
def QOut (gp : Nat) (lt : LTokens) (g : Nat) (z : Bool) (l : List Part) (b : List UInt8) : Option (List Part × Nat) → Prop
  | none => ∃ t' : LTokens, t'.out = lt.out ∧ At_lex_tokens_quoted_1 0 [] 0 0 [] 0 (joinP l b) gp false lt g z (Token.mk 0 [] 0 [] 0) false t' g z
  | some (ps, n) => n ≤ lt.text.left.length ∧ At_lex_tokens_quoted_1 0 [] 0 0 [] 0 (joinP l b) gp false lt g z (Token.mk 2 [] 0 ps 0) true (LTokens.mk (takeT lt.text n) lt.out) g z
theorem joinP_len (l : List Part) (b : List UInt8) : (joinP l b).length ≤ l.length + 1 := by
  unfold joinP
  split <;> simp
theorem joinP_ref (l : List Part) (q : List UInt8) : joinP (l ++ [Part.mk true q]) [] = l ++ [Part.mk true q] := by simp [joinP]
/-- A step that goes on: what comes behind m bytes comes of the whole. -/
theorem QOut.next {gp : Nat} {lt : LTokens} {g : Nat} {z : Bool} {l : List Part} {b : List UInt8} {l2 : List Part} {b2 : List UInt8} {m : Nat} (hm : m ≤ lt.text.left.length)
    (step : ∀ ra rb t' , At_lex_tokens_quoted_1 0 [] 0 0 [] 0 (joinP l2 b2) gp false (LTokens.mk (takeT lt.text m) lt.out) g z ra rb t' g z → At_lex_tokens_quoted_1 0 [] 0 0 [] 0 (joinP l b) gp false lt g z ra rb t' g z) {r : Option (List Part × Nat)}
    (h : QOut gp (LTokens.mk (takeT lt.text m) lt.out) g z l2 b2 r) : QOut gp lt g z l b (r.map fun q => (q.1, q.2 + m)) := by
  cases r with
  | none => obtain ⟨t', ho, h⟩ := h; exact ⟨t', ho, step _ _ _ h⟩
  | some q =>
    obtain ⟨ps, n⟩ := q
    obtain ⟨h1, h2⟩ := h
    simp only [takeT, List.length_drop] at h1
    refine ⟨by omega, ?_⟩
    have := step _ _ _ h2
    simp only [takeT_takeT] at this
    rw [Nat.add_comm] at this
    exact this
theorem r_quoted_loop {t : List UInt8} {l : List Part} {b : List UInt8} {r : Option (List Part × Nat)} (h : Qx t l b r) : ∀ (gp : Nat) (lt : LTokens) (g : Nat) (z : Bool), lt.text.left = t → TI lt.text → okP l → l.length + t.length ≤ 7000 → b.length + t.length ≤ 7000 → QOut gp lt g z l b r := by
  induction h with
  | nil l b =>
    intro gp lt g z e hT hl h1 h2
    refine ⟨lt, rfl, ?_⟩
    apply At_lex_tokens_quoted_1_step
    exact ⟨fun _ => ⟨rfl, rfl, rfl, rfl, rfl⟩, fun h => absurd e h⟩
  | shut t l b =>
    intro gp lt g z e hT hl h1 h2
    obtain ⟨e1, e2⟩ := head_left e
    have hlen : 1 ≤ lt.text.left.length := by rw [e]; simp
    refine ⟨hlen, ?_⟩
    apply At_lex_tokens_quoted_1_step
    exact ⟨fun h => absurd h e1, fun _ => ⟨34, e2, _, r_class 34, fun _ => ⟨_, _, r_take hT hlen, rfl, rfl, rfl, rfl, rfl⟩, fun h => absurd ((cls4 34).2 rfl) h⟩⟩
  | low c t l b c1 c2 =>
    intro gp lt g z e hT hl h1 h2
    obtain ⟨e1, e2⟩ := head_left e
    refine ⟨lt, rfl, ?_⟩
    apply At_lex_tokens_quoted_1_step
    exact ⟨fun h => absurd h e1, fun _ => ⟨c, e2, _, r_class c, fun h => absurd ((cls4 c).1 h) c1, fun _ => ⟨fun _ => ⟨rfl, rfl, rfl, rfl, rfl⟩, fun h => absurd (by omega) h⟩⟩⟩
  | esc x y t l b r hx _ ih =>
    intro gp lt g z e hT hl h1 h2
    obtain ⟨e1, e2⟩ := head_left e
    simp only [List.length_cons] at h1 h2
    have hlen : 2 ≤ lt.text.left.length := by rw [e]; simp
    refine QOut.next (m := 2) hlen (fun ra rb t' hA => ?_) (ih gp _ g z (by simp only [takeT, e]; rfl) (hT.take hlen) hl (by omega) (by simp; omega))
    apply At_lex_tokens_quoted_1_step
    refine ⟨fun h => absurd h e1, fun _ => ⟨92, e2, _, r_class 92, fun h => absurd ((cls4 92).1 h) (by decide), fun _ => ⟨fun h => absurd h (by decide), fun _ => ⟨fun _ => ?_, fun h => absurd (by decide) h⟩⟩⟩⟩
    rw [e]
    refine ⟨_, _, r_escaped 92 x t, fun _ => ⟨_, _, _, ?_, _, _, r_take hT hlen, hA⟩, fun h => absurd (by rw [hx]; rfl) h⟩
    rw [hx]
    exact r_plain l b y gp hl (by omega) (by omega)
  | esc0 l b =>
    intro gp lt g z e hT hl h1 h2
    obtain ⟨e1, e2⟩ := head_left e
    refine ⟨lt, rfl, ?_⟩
    apply At_lex_tokens_quoted_1_step
    refine ⟨fun h => absurd h e1, fun _ => ⟨92, e2, _, r_class 92, fun h => absurd ((cls4 92).1 h) (by decide), fun _ => ⟨fun h => absurd h (by decide), fun _ => ⟨fun _ => ?_, fun h => absurd (by decide) h⟩⟩⟩⟩
    rw [e]
    refine ⟨0, false, ?_, fun h => (by cases h), fun _ => ⟨rfl, rfl, rfl, rfl, rfl⟩⟩
    apply lex_escaped_tree
    exact ⟨fun _ => ⟨rfl, rfl⟩, fun h => absurd (by decide) h⟩
  | escbad x t l b hx =>
    intro gp lt g z e hT hl h1 h2
    obtain ⟨e1, e2⟩ := head_left e
    refine ⟨lt, rfl, ?_⟩
    apply At_lex_tokens_quoted_1_step
    refine ⟨fun h => absurd h e1, fun _ => ⟨92, e2, _, r_class 92, fun h => absurd ((cls4 92).1 h) (by decide), fun _ => ⟨fun h => absurd h (by decide), fun _ => ⟨fun _ => ?_, fun h => absurd (by decide) h⟩⟩⟩⟩
    rw [e]
    exact ⟨_, _, r_escaped 92 x t, fun h => (by rw [hx] at h; cases h), fun _ => ⟨rfl, rfl, rfl, rfl, rfl⟩⟩
  | ref t l b r hr _ ih =>
    intro gp lt g z e hT hl h1 h2
    obtain ⟨e1, e2⟩ := head_left e
    simp only [List.length_cons] at h1 h2
    have hrl := refS_len hr
    have hj := joinP_len l b
    have hlen : 3 + (refS t).1.length ≤ lt.text.left.length := by rw [e]; simp only [List.length_cons]; omega
    have hT1 := hT.1
    refine QOut.next (m := 3 + (refS t).1.length) hlen (fun ra rb t' hA => ?_) (ih gp _ g z ?_ (hT.take hlen) (.inr ⟨_, _, rfl⟩) ?_ ?_)
    · apply At_lex_tokens_quoted_1_step
      have hR : R_lex_reference lt.text.left (refS t).1 (refS t).2 := by
        have := r_reference lt.text.left (by omega) (by omega)
        rw [e] at this ⊢
        exact this
      have hTake : R_lex_text_take lt.text (3 + (((refS t).1.length : Nat) : Int)) (lt.text.left.take (3 + (refS t).1.length)) (takeT lt.text (3 + (refS t).1.length)) := by
        have := r_take hT hlen
        rw [Int.natCast_add] at this
        exact this
      rw [joinP_ref] at hA
      exact ⟨fun h => absurd h e1, fun _ => ⟨36, e2, _, r_class 36, fun h => absurd ((cls4 36).1 h) (by decide), fun _ => ⟨fun h => absurd h (by decide), fun _ => ⟨fun h => absurd h (by decide), fun _ => ⟨_, r_HasPrefix _ _, fun _ => ⟨_, _, hR, fun _ => ⟨⟨by omega, by omega, by decide⟩, ⟨by omega, by omega⟩, _, _, hTake, hA⟩, fun h => absurd hr h⟩, fun h => absurd (by rw [e]; simp [Lib.hasPrefix]) h⟩⟩⟩⟩⟩
    · simp only [takeT, e]
      rw [show 3 + (refS t).1.length = ((refS t).1.length + 1) + 1 + 1 by omega]
      rfl
    · simp; omega
    · simp; omega
  | refbad t l b hr =>
    intro gp lt g z e hT hl h1 h2
    obtain ⟨e1, e2⟩ := head_left e
    have hT1 := hT.1
    refine ⟨lt, rfl, ?_⟩
    apply At_lex_tokens_quoted_1_step
    have hR : R_lex_reference lt.text.left (refS t).1 (refS t).2 := by
      have := r_reference lt.text.left (by rw [e]; simp) (by omega)
      rw [e] at this ⊢
      exact this
    exact ⟨fun h => absurd h e1, fun _ => ⟨36, e2, _, r_class 36, fun h => absurd ((cls4 36).1 h) (by decide), fun _ => ⟨fun h => absurd h (by decide), fun _ => ⟨fun h => absurd h (by decide), fun _ => ⟨_, r_HasPrefix _ _, fun _ => ⟨_, _, hR, fun h => (by rw [hr] at h; cases h), fun _ => ⟨rfl, rfl, rfl, rfl, rfl⟩⟩, fun h => absurd (by rw [e]; simp [Lib.hasPrefix]) h⟩⟩⟩⟩⟩
  | plain c t l b r c1 c2 c3 c4 _ ih =>
    intro gp lt g z e hT hl h1 h2
    obtain ⟨e1, e2⟩ := head_left e
    simp only [List.length_cons] at h1 h2
    have hlen : 1 ≤ lt.text.left.length := by rw [e]; simp
    have hp : ¬ Lib.hasPrefix lt.text.left [36, 123] = true := by
      rw [e]
      unfold Lib.hasPrefix
      intro h
      cases t with
      | nil => simp at h
      | cons x t =>
        simp at h
        exact c4 h.1.symm (by rw [← h.2]; rfl)
    have hc3 : ¬ ((c.toNat : Nat) : Int) = 92 := fun h => c3 (by apply UInt8.toNat_inj.1; exact Int.ofNat.inj h)
    refine QOut.next (m := 1) hlen (fun ra rb t' hA => ?_) (ih gp _ g z (by simp only [takeT, e]; rfl) (hT.take hlen) hl (by omega) (by simp; omega))
    apply At_lex_tokens_quoted_1_step
    exact ⟨fun h => absurd h e1, fun _ => ⟨c, e2, _, r_class c, fun h => absurd ((cls4 c).1 h) c1, fun _ => ⟨fun h => absurd h (by omega), fun _ => ⟨fun h => absurd h hc3, fun _ => ⟨_, r_HasPrefix _ _, fun h => absurd h hp, fun _ => ⟨_, _, _, r_plain l b c gp hl (by omega) (by omega), _, _, r_take hT hlen, hA⟩⟩⟩⟩⟩⟩
end Go.Proofs.YtfbcnpbhhooapaaGreatDoor.M

/- Digits: the library of Go, and the document. -/
namespace Go.Proofs.YtfbcnpbhhooapaaGreatDoor.M
set_option linter.unusedSimpArgs false
set_option linter.unusedVariables false
open Go Classical
theorem u64_nat (n : Nat) (h : n < 18446744073709551616) : IntKind.u64.wrap (n : Int) = n := U64.wrap ⟨by omega, by omega⟩
theorem tdivN (a : Nat) (b : Nat) : ((a : Nat) : Int).tdiv (b : Int) = ((a / b : Nat) : Int) := by
  rw [Int.tdiv_eq_ediv_of_nonneg (by omega)]; simp
theorem tmodN (a : Nat) (b : Nat) : ((a : Nat) : Int).tmod (b : Int) = ((a % b : Nat) : Int) := by
  rw [Int.tmod_eq_emod_of_nonneg (by omega)]; simp
theorem r_Digits_loop (n : Int) : ∀ (j u : Nat) (s : List UInt8), Lib.nDigits u ≤ j → u < 18446744073709551616 → s.length + j ≤ 1000 → At_ref1_Digits_1 n u s ((if n < 0 then [45] else []) ++ (Lib.decDigits u ++ s))
  | 0, u, s, h, _, _ => by have := Lib.nDigits_pos u; omega
  | j + 1, u, s, h, hu, hs => by
    apply At_ref1_Digits_1_step
    have d10 : ((u : Nat) : Int).tdiv 10 = ((u / 10 : Nat) : Int) := tdivN u 10
    have m10 : ((u : Nat) : Int).tmod 10 = ((u % 10 : Nat) : Int) := tmodN u 10
    have e48 : ∀ x : Nat, (48 + ((x : Nat) : Int)).toNat = 48 + x := fun x => by omega
    refine ⟨fun h10 => ?_, fun h10 => ?_⟩
    · have hu10 : ¬ u < 10 := by omega
      rw [d10, m10, e48]
      have hn : Lib.nDigits u = Lib.nDigits (u / 10) + 1 := Lib.nDigits_big hu10
      refine ⟨⟨by omega, by omega⟩, ⟨by omega, by omega⟩, by simp [maxInt]; omega, ⟨by omega, by omega⟩, ?_⟩
      have := r_Digits_loop n j (u / 10) ([UInt8.ofNat (48 + u % 10)] ++ s) (by omega) (by omega) (by simp; omega)
      rw [show Lib.decDigits u = Lib.decDigits (u / 10) ++ [UInt8.ofNat (48 + u % 10)] from by rw [Lib.decDigits, dif_neg hu10], List.append_assoc]
      exact this
    · have hu10 : u < 10 := by omega
      rw [e48, show Lib.decDigits u = [UInt8.ofNat (48 + u)] from by rw [Lib.decDigits, dif_pos hu10]]
      refine ⟨⟨by omega, by omega⟩, ⟨by omega, by omega⟩, by simp [maxInt]; omega, fun hn => ⟨by simp [maxInt]; omega, by simp [hn]⟩, fun hn => by simp [hn]⟩
theorem wrap_u64_neg {n : Int} (h0 : -9223372036854775808 ≤ n) (h : n < 0) : IntKind.u64.wrap (0 - (IntKind.u64.wrap n)) = ((n.natAbs : Nat) : Int) := by
  have e1 : IntKind.u64.wrap n = n % 18446744073709551616 := by
    simp [IntKind.wrap, IntKind.signed, IntKind.bits]
  rw [e1]
  have e2 : ∀ x : Int, IntKind.u64.wrap x = x % 18446744073709551616 := fun x => by
    simp [IntKind.wrap, IntKind.signed, IntKind.bits]
  rw [e2]
  omega
theorem r_Digits (n : Int) (h : I64 n) : R_ref1_Digits n (Lib.itoa n) := by
  obtain ⟨h0, h1⟩ := h
  apply ref1_Digits_tree
  refine ⟨fun hn => ?_, fun hn => ?_⟩
  · rw [wrap_u64_neg h0 hn]
    have := r_Digits_loop n 20 n.natAbs [] (Lib.nDigits_le20 _ (by omega)) (by omega) (by simp)
    simpa [Lib.itoa, hn] using this
  · obtain ⟨m, rfl⟩ : ∃ m : Nat, n = m := ⟨n.toNat, by omega⟩
    rw [u64_nat m (by omega)]
    have := r_Digits_loop m 20 m [] (Lib.nDigits_le20 _ (by omega)) (by omega) (by simp)
    simpa [Lib.itoa, hn] using this
theorem r_Itoa (n : Int) (h : I64 n) : R_strconv_Itoa n (Lib.itoa n) := fun S => call_ext sp_strconv_Itoa S (if_pos h)
end Go.Proofs.YtfbcnpbhhooapaaGreatDoor.M

/- Lex: numbers, on both sides. -/
namespace Go.Proofs.YtfbcnpbhhooapaaGreatDoor.M
set_option linter.unusedSimpArgs false
set_option linter.unusedVariables false
open Go Classical
def Dg (l : List UInt8) : Prop := ∀ c ∈ l, 48 ≤ c.toNat ∧ c.toNat ≤ 57
theorem inC3 (c : UInt8) : inC [3] c = true ↔ 48 ≤ c.toNat ∧ c.toNat ≤ 57 := by
  unfold inC clsS
  simp only [List.mem_singleton, decide_eq_true_eq]
  repeat' split
  all_goals (first | omega | (constructor <;> intro h <;> first | omega | exact absurd h (by decide)))
theorem Dg_take (t : List UInt8) : Dg (t.takeWhile (inC [3])) := fun c hc => (inC3 c).1 (List.all_eq_true.1 List.all_takeWhile c hc)
/-- The number that digits spell, behind a number. -/
def digV (acc : Nat) (l : List UInt8) : Nat := l.foldl (fun a c => a * 10 + (c.toNat - 48)) acc
theorem digV_cons (acc : Nat) (c : UInt8) (r : List UInt8) : digV acc (c :: r) = digV (acc * 10 + (c.toNat - 48)) r := by
  unfold digV
  rw [List.foldl_cons]
theorem digV_nil (acc : Nat) : digV acc [] = acc := by
  unfold digV
  rw [List.foldl_nil]
theorem digV_ge : ∀ (l : List UInt8) (acc : Nat), acc ≤ digV acc l
  | [], acc => by rw [digV_nil]; exact Nat.le_refl _
  | c :: r, acc => by
    rw [digV_cons]
    have := digV_ge r (acc * 10 + (c.toNat - 48))
    omega
theorem parse_num (l : List UInt8) : ∀ (acc : Nat), Dg l → acc < 18446744073709551616 → Lib.parseUint10 acc l = if digV acc l < 18446744073709551616 then .ok (digV acc l) else .range := by
  induction l with
  | nil => intro acc _ h; rw [digV_nil, if_pos h, Lib.parseUint10]
  | cons c r ih =>
    intro acc hd h
    have hc := hd c (by simp)
    have hge := digV_ge r (acc * 10 + (c.toNat - 48))
    rw [digV_cons]
    unfold Lib.parseUint10
    rw [if_pos hc]
    by_cases h1 : 1844674407370955162 ≤ acc
    · rw [if_pos h1, if_neg (by omega)]
    · rw [if_neg h1]
      by_cases h2 : 18446744073709551616 ≤ acc * 10 + (c.toNat - 48)
      · rw [if_pos h2, if_neg (by omega)]
      · rw [if_neg h2]
        exact ih _ (fun x hx => hd x (by simp [hx])) (by omega)
theorem atoi_num {l : List UInt8} (hd : Dg l) (hne : l ≠ []) : Lib.atoiAll l = if digV 0 l < 9223372036854775808 then .ok (digV 0 l : Int) else .range := by
  cases l with
  | nil => exact absurd rfl hne
  | cons c r =>
    have hc := hd c (by simp)
    rw [Lib.atoiAll_plain c r (by omega) (by omega), Lib.parseMag, if_neg (by simp), parse_num _ 0 hd (by omega)]
    by_cases h : digV 0 (c :: r) < 18446744073709551616
    · rw [if_pos h]
      by_cases h2 : digV 0 (c :: r) < 9223372036854775808
      · simp only [Lib.signless, if_pos h2, if_neg (show ¬ 9223372036854775808 ≤ digV 0 (c :: r) by omega)]
      · simp only [Lib.signless, if_neg h2, if_pos (show 9223372036854775808 ≤ digV 0 (c :: r) by omega)]
    · rw [if_neg h, if_neg (show ¬ digV 0 (c :: r) < 9223372036854775808 by omega)]
      rfl
theorem dec_step {a d : Nat} (ha : 0 < a) (hd : d < 10) : Lib.decDigits (a * 10 + d) = Lib.decDigits a ++ [UInt8.ofNat (48 + d)] := by
  rw [Lib.decDigits, dif_neg (by omega), show (a * 10 + d) / 10 = a by omega, show (a * 10 + d) % 10 = d by omega]
theorem dec_num : ∀ (l : List UInt8) (acc : Nat), 0 < acc → Dg l → Lib.decDigits (digV acc l) = Lib.decDigits acc ++ l
  | [], acc, _, _ => by rw [digV_nil, List.append_nil]
  | c :: r, acc, h, hd => by
    have hc := hd c (by simp)
    rw [digV_cons, dec_num r _ (by omega) (fun x hx => hd x (by simp [hx])), dec_step h (by omega)]
    have : UInt8.ofNat (48 + (c.toNat - 48)) = c := by
      rw [show 48 + (c.toNat - 48) = c.toNat by omega]; simp
    rw [this]
    simp
theorem dec_first {c : UInt8} {r : List UInt8} (hd : Dg (c :: r)) (h : c.toNat ≠ 48) : Lib.decDigits (digV 0 (c :: r)) = c :: r := by
  have hc := hd c (by simp)
  rw [digV_cons, dec_num r _ (by omega) (fun x hx => hd x (by simp [hx])), Nat.zero_mul, Nat.zero_add, Lib.decDigits_one (by omega)]
  have : UInt8.ofNat (48 + (c.toNat - 48)) = c := by
    rw [show 48 + (c.toNat - 48) = c.toNat by omega]; simp
  rw [this]
  rfl
theorem dec_len : ∀ (r : List UInt8), Dg r → r ≠ [] → (Lib.decDigits (digV 0 r)).length ≤ r.length
  | [], _, h => absurd rfl h
  | c :: r, hd, _ => by
    by_cases h : c.toNat = 48
    · rw [digV_cons, h]
      cases r with
      | nil => simp [digV_nil, Lib.decDigits_one (show 0 < 10 by omega)]
      | cons b r =>
        have := dec_len (b :: r) (fun x hx => hd x (by simp at hx ⊢; exact .inr hx)) (by simp)
        simp only [Nat.zero_mul, Nat.sub_self, Nat.add_zero, List.length_cons] at this ⊢
        omega
    · rw [dec_first hd h]
      exact Nat.le_refl _
/-- Digits are a number: within 64 bits, and no nought ahead. -/
def numOk (d : List UInt8) : Prop := digV 0 d < 9223372036854775808 ∧ (d.head? = some 48 → d.length = 1)
instance (d : List UInt8) : Decidable (numOk d) := by unfold numOk; infer_instance
theorem itoa_num {d : List UInt8} (hd : Dg d) (hne : d ≠ []) : Lib.itoa ((digV 0 d : Nat) : Int) = d ↔ (d.head? = some 48 → d.length = 1) := by
  have e : Lib.itoa ((digV 0 d : Nat) : Int) = Lib.decDigits (digV 0 d) := by
    unfold Lib.itoa
    rw [if_neg (by omega)]
    rfl
  rw [e]
  cases d with
  | nil => exact absurd rfl hne
  | cons c r =>
    by_cases h : c.toNat = 48
    · have hc : c = 48 := UInt8.toNat_inj.1 h
      subst hc
      simp only [List.head?_cons, List.length_cons, forall_const]
      cases r with
      | nil =>
        have h0 : digV 0 [48] = 0 := by rw [digV_cons, digV_nil]; rfl
        rw [h0, Lib.decDigits_one (show 0 < 10 by omega)]
        simp
      | cons b r =>
        have := dec_len (b :: r) (fun x hx => hd x (by simp at hx ⊢; exact .inr hx)) (by simp)
        constructor
        · intro h2
          have h3 : digV 0 (48 :: b :: r) = digV 0 (b :: r) := by rw [digV_cons]; rfl
          rw [← h3, h2] at this
          simp at this
          omega
        · intro h2
          simp at h2
    · rw [dec_first hd h]
      simp only [List.head?_cons, Option.some.injEq, true_iff]
      intro e
      exact absurd (by rw [e]; rfl) h
def numS (t : List UInt8) : Option (Token × Nat) := if numOk (t.takeWhile (inC [3])) then some (Token.mk 1 [] (digV 0 (t.takeWhile (inC [3])) : Nat) [] 0, (t.takeWhile (inC [3])).length) else none
theorem r_Atoi {l : List UInt8} (hd : Dg l) (hne : l ≠ []) (hl : l.length ≤ 1000000) : ∃ v : Int, R_strconv_Atoi l v (decide (¬ digV 0 l < 9223372036854775808)) ∧ (digV 0 l < 9223372036854775808 → v = (digV 0 l : Nat)) := by
  have ha := atoi_num hd hne
  by_cases h : digV 0 l < 9223372036854775808
  · rw [if_pos h] at ha
    exact ⟨_, fun S => call_ext sp_strconv_Atoi S (by simp only [atoiX, ha]; rw [if_pos (by omega)]; simp [h]), fun _ => rfl⟩
  · rw [if_neg h] at ha
    exact ⟨Lib.atoiSat l, fun S => call_ext sp_strconv_Atoi S (by simp only [atoiX, ha]; rw [if_pos (by omega)]; simp [h]), fun e => absurd e h⟩
/-- lex.number: what numS tells. -/
theorem r_number (t : LTokens) (g : Nat) (z : Bool) (h : TI t.text) (hne : t.text.left.takeWhile (inC [3]) ≠ []) : match numS t.text.left with
    | none => ∃ (x : Token) (t' : LTokens), t'.out = t.out ∧ R_lex_tokens_number t g z x false t' g z
    | some (x, n) => R_lex_tokens_number t g z x true (LTokens.mk (takeT t.text n) t.out) g z := by
  have h1 := h.1
  have hd := Dg_take t.text.left
  have hw := r_word h [3] (by decide)
  have hl := spanS_le [3] t.text.left
  unfold spanS at hw hl
  unfold numS
  generalize t.text.left.takeWhile (inC [3]) = d at *
  obtain ⟨v, ha, hv⟩ := r_Atoi hd hne (by omega)
  by_cases hb : digV 0 d < 9223372036854775808
  · obtain rfl := hv hb
    have hi := itoa_num hd hne
    by_cases h0 : d.head? = some 48 → d.length = 1
    · rw [if_pos ⟨hb, h0⟩]
      apply lex_tokens_number_tree
      refine ⟨_, _, hw, _, _, ha, fun e => ?_, fun _ => ⟨_, r_Itoa _ ⟨by omega, by omega⟩, rfl, ?_, rfl, rfl, rfl⟩⟩
      · simp [hb] at e
      · exact decide_eq_true (hi.2 h0)
    · rw [if_neg (fun e => h0 e.2)]
      refine ⟨_, LTokens.mk (takeT t.text d.length) t.out, rfl, lex_tokens_number_tree _ _ _ _ _ _ _ _ ⟨_, _, hw, _, _, ha, fun e => ?_, fun _ => ⟨_, r_Itoa _ ⟨by omega, by omega⟩, rfl, ?_, rfl, rfl, rfl⟩⟩⟩
      · simp [hb] at e
      · exact decide_eq_false (fun e => h0 (hi.1 e))
  · rw [if_neg (fun e => hb e.1)]
    exact ⟨_, LTokens.mk (takeT t.text d.length) t.out, rfl, lex_tokens_number_tree _ _ _ _ _ _ _ _ ⟨_, _, hw, _, _, ha, fun _ => ⟨rfl, rfl, rfl, rfl, rfl⟩, fun e => absurd (decide_eq_true hb) e⟩⟩
/-! ### The other side -/
def atT (x : Token) (i : Int) : Token := ⟨x.Kind, x.Text, x.Num, x.Parts, i⟩
end Go.Proofs.YtfbcnpbhhooapaaGreatDoor.M

/- Lex: quoted texts: the whole of lex.quoted; and ref1.text follows Qx. -/
namespace Go.Proofs.YtfbcnpbhhooapaaGreatDoor.M
set_option linter.unusedSimpArgs false
set_option linter.unusedVariables false
open Go Classical
/-- lex.quoted: what Qx tells, behind the first sign. -/
theorem r_quoted (t : LTokens) (g : Nat) (z : Bool) (h : TI t.text) {u : List UInt8} (e : t.text.left = 34 :: u) {r : Option (List Part × Nat)} (hq : Qx u [] [] r) : match r with
    | none => ∃ t' : LTokens, t'.out = t.out ∧ R_lex_tokens_quoted t g z (Token.mk 0 [] 0 [] 0) false t' g z
    | some (ps, n) => n + 1 ≤ t.text.left.length ∧ R_lex_tokens_quoted t g z (Token.mk 2 [] 0 ps 0) true (LTokens.mk (takeT t.text (n + 1)) t.out) g z := by
  have hlen : 1 ≤ t.text.left.length := by rw [e]; simp
  have h1 := h.1
  have hu : u.length ≤ 6000 := by rw [e] at h1; simp at h1; omega
  have hl : (takeT t.text 1).left = u := by simp only [takeT, e]; rfl
  have key := r_quoted_loop hq 0 (LTokens.mk (takeT t.text 1) t.out) g z hl (h.take hlen) (.inl rfl) (by simp; omega) (by simp; omega)
  cases r with
  | none =>
    obtain ⟨t', ho, hA⟩ := key
    exact ⟨t', ho, lex_tokens_quoted_tree _ _ _ _ _ _ _ _ ⟨_, _, r_take h hlen, hA⟩⟩
  | some q =>
    obtain ⟨ps, n⟩ := q
    obtain ⟨hn, hA⟩ := key
    simp only [takeT_takeT] at hA
    simp only at hn
    rw [hl] at hn
    refine ⟨by rw [e]; simp; omega, lex_tokens_quoted_tree _ _ _ _ _ _ _ _ ⟨_, _, r_take h hlen, ?_⟩⟩
    rw [Nat.add_comm n 1]
    exact hA
/-! ### The other side -/
def TOut (s : List UInt8) (i k : Nat) (l : List Part) (b : List UInt8) : Option (List Part × Nat) → Prop
  | none => At_ref1_text_1 s i k 0 [] 0 0 [] 0 l b (Token.mk 0 [] 0 [] 0) 0
  | some (ps, n) => At_ref1_text_1 s i k 0 [] 0 0 [] 0 l b (Token.mk 2 [] 0 ps i) ((k : Int) + n - i)
theorem TOut.next {s : List UInt8} {i k : Nat} {l l2 : List Part} {b b2 : List UInt8} {m : Nat} (step : ∀ ra rb, At_ref1_text_1 s i ((k + m : Nat) : Int) 0 [] 0 0 [] 0 l2 b2 ra rb → At_ref1_text_1 s i k 0 [] 0 0 [] 0 l b ra rb) {r : Option (List Part × Nat)} (h : TOut s i (k + m) l2 b2 r) : TOut s i k l b (r.map fun q => (q.1, q.2 + m)) := by
  cases r with
  | none => exact step _ _ h
  | some q =>
    obtain ⟨ps, n⟩ := q
    have := step _ _ h
    simp only [TOut, Option.map_some]
    rw [show (k : Int) + ((n + m : Nat) : Int) - (i : Int) = ((k + m : Nat) : Int) + (n : Int) - (i : Int) by omega]
    exact this
end Go.Proofs.YtfbcnpbhhooapaaGreatDoor.M

/- Lex: a token, on both sides. -/
namespace Go.Proofs.YtfbcnpbhhooapaaGreatDoor.M
set_option linter.unusedSimpArgs false
set_option linter.unusedVariables false
open Go Classical
theorem cls5 (c : UInt8) : clsS c = 5 ↔ c = 35 := by
  have e : c = 35 ↔ c.toNat = 35 := by rw [← UInt8.toNat_inj]; rfl
  rw [e]
  unfold clsS
  repeat' split
  all_goals (first | omega | (constructor <;> intro h <;> first | omega | exact absurd h (by decide)))
/-- A token that stands at the beginning, and how long it is; none: none may stand there. -/
inductive Tok : List UInt8 → Option (Token × Nat) → Prop
  | name (c : UInt8) (u : List UInt8) (h : clsS c = 2) : Tok (c :: u) (if ((c :: u).takeWhile (inC [2, 3])).length ≤ 24 then some (Token.mk 3 ((c :: u).takeWhile (inC [2, 3])) 0 [] 0, spanS [2, 3] (c :: u)) else none)
  | num (c : UInt8) (u : List UInt8) (h : clsS c = 3) : Tok (c :: u) (numS (c :: u))
  | text (u : List UInt8) (r : Option (List Part × Nat)) (h : Qx u [] [] r) : Tok (34 :: u) (r.map fun q => (Token.mk 2 [] 0 q.1 0, q.2 + 1))
  | sign (c : UInt8) (u : List UInt8) (h2 : clsS c ≠ 2) (h3 : clsS c ≠ 3) (h4 : clsS c ≠ 4) : Tok (c :: u) (if signS (c :: u) = [] then none else some (Token.mk 4 (signS (c :: u)) 0 [] 0, (signS (c :: u)).length))
theorem Qx_len {t : List UInt8} {l : List Part} {b : List UInt8} {r : Option (List Part × Nat)} (h : Qx t l b r) : ∀ q, r = some q → 0 < q.2 ∧ q.2 ≤ t.length := by
  induction h with
  | nil | low | esc0 | escbad | refbad => intro q hq; cases hq
  | shut t l b => intro q hq; obtain rfl := Option.some.inj hq; simp
  | esc x y t l b r hx _ ih =>
    intro q hq
    obtain ⟨q0, h0, rfl⟩ := Option.map_eq_some_iff.1 hq
    have := ih q0 h0
    simp only [List.length_cons]
    omega
  | ref t l b r hr _ ih =>
    intro q hq
    obtain ⟨q0, h0, rfl⟩ := Option.map_eq_some_iff.1 hq
    have := ih q0 h0
    have h1 := refS_len hr
    simp only [List.length_cons, List.length_drop] at this ⊢
    omega
  | plain c t l b r c1 c2 c3 c4 _ ih =>
    intro q hq
    obtain ⟨q0, h0, rfl⟩ := Option.map_eq_some_iff.1 hq
    have := ih q0 h0
    simp only [List.length_cons]
    omega
theorem span_pos {cl : List Int} {c : UInt8} (u : List UInt8) (h : inC cl c = true) : 0 < spanS cl (c :: u) := by
  unfold spanS
  rw [List.takeWhile_cons, if_pos h]
  simp
theorem signS_len (c : UInt8) (u : List UInt8) : (signS (c :: u)).length ≤ (c :: u).length := by
  cases u with
  | nil => simp only [signS, sign1]; split <;> simp
  | cons b u => simp only [signS, sign2, sign1]; repeat' split <;> simp
theorem Tok_len {t : List UInt8} {r : Option (Token × Nat)} (h : Tok t r) : ∀ q, r = some q → 0 < q.2 ∧ q.2 ≤ t.length := by
  cases h with
  | name c u h =>
    intro q hq
    split at hq
    · obtain rfl := Option.some.inj hq
      exact ⟨span_pos u ((inC23 c).2 (.inl h)), spanS_le _ _⟩
    · cases hq
  | num c u h =>
    intro q hq
    unfold numS at hq
    split at hq
    · obtain rfl := Option.some.inj hq
      exact ⟨span_pos (cl := [3]) u (by unfold inC; simp [h]), spanS_le [3] _⟩
    · cases hq
  | text u r h =>
    intro q hq
    obtain ⟨q0, h0, rfl⟩ := Option.map_eq_some_iff.1 hq
    have := Qx_len h q0 h0
    simp only [List.length_cons]
    omega
  | sign c u h2 h3 h4 =>
    intro q hq
    split at hq
    · cases hq
    · rename_i hne
      obtain rfl := Option.some.inj hq
      exact ⟨List.length_pos_iff.2 hne, signS_len c u⟩
theorem takeWhile_idem (p : UInt8 → Bool) : ∀ l : List UInt8, (l.takeWhile p).takeWhile p = l.takeWhile p
  | [] => rfl
  | c :: l => by
    rw [List.takeWhile_cons]
    split
    · rename_i h
      rw [List.takeWhile_cons, if_pos h, takeWhile_idem p l]
    · rfl
theorem name_word {c : UInt8} (u : List UInt8) (h : clsS c = 2) : nameS ((c :: u).takeWhile (inC [2, 3])) = decide (((c :: u).takeWhile (inC [2, 3])).length ≤ 24) := by
  have hc : inC [2, 3] c = true := (inC23 c).2 (.inl h)
  have hi := takeWhile_idem (inC [2, 3]) (c :: u)
  rw [List.takeWhile_cons, if_pos hc] at hi ⊢
  unfold nameS
  refine decide_eq_decide.2 ⟨fun e => e.2.1, fun e => ⟨by simp, e, ?_⟩⟩
  rw [endS, if_pos h, spanS, hi]
theorem dig_ne {c : UInt8} (u : List UInt8) (h : clsS c = 3) : (c :: u).takeWhile (inC [3]) ≠ [] := by
  rw [List.takeWhile_cons, if_pos (by unfold inC; simp [h])]
  simp
def NextP (t : LTokens) (g : Nat) (z : Bool) : Option (Token × Nat) → Prop
  | none => ∃ t', R_lex_tokens_next t g z false t' g z
  | some (x, n) => R_lex_tokens_next t g z true (LTokens.mk (takeT t.text n) (t.out ++ [atT x t.text.pos])) g z
/-- lex.next: what Tok tells. -/
theorem r_next (t : LTokens) (g : Nat) (z : Bool) (h : TI t.text) (ho : t.out.length ≤ 6000) {r : Option (Token × Nat)} {l : List UInt8} (hl : t.text.left = l) (hk : Tok l r) : NextP t g z r := by
  have big : bigRow (t.out.length + 1) 64 := ⟨by omega, by omega, by decide⟩
  cases hk with
  | name c u hc =>
    have hn := r_name t g z h
    rw [hl, name_word u hc] at hn
    have hd : t.text.left[0]? = some c := by rw [hl]; rfl
    by_cases hlen : ((c :: u).takeWhile (inC [2, 3])).length ≤ 24
    rotate_left
    · rw [if_neg hlen]
      · rw [decide_eq_false hlen] at hn
        exact ⟨_, lex_tokens_next_tree _ _ _ _ _ _ _ ⟨c, hd, _, r_class c, fun _ => ⟨_, _, _, _, _, hn, big, rfl, rfl, rfl, rfl⟩, fun e => absurd hc e⟩⟩
    · rw [if_pos hlen]
      · rw [decide_eq_true hlen] at hn
        exact lex_tokens_next_tree _ _ _ _ _ _ _ ⟨c, hd, _, r_class c, fun _ => ⟨_, _, _, _, _, hn, big, rfl, rfl, rfl, rfl⟩, fun e => absurd hc e⟩
  | num c u hc =>
    have hd : t.text.left[0]? = some c := by rw [hl]; rfl
    have hn := r_number t g z h (by rw [hl]; exact dig_ne u hc)
    rw [hl] at hn
    have h2 : clsS c ≠ 2 := by omega
    revert hn
    generalize numS (c :: u) = q
    intro hn
    rcases q with _ | ⟨x, n⟩
    · obtain ⟨x, t', ho', hn⟩ := hn
      exact ⟨_, lex_tokens_next_tree _ _ _ _ _ _ _ ⟨c, hd, _, r_class c, fun e => absurd e h2, fun _ => ⟨fun _ => ⟨_, _, _, _, _, hn, by rw [ho']; exact big, rfl, rfl, rfl, rfl⟩, fun e => absurd hc e⟩⟩⟩
    · exact lex_tokens_next_tree _ _ _ _ _ _ _ ⟨c, hd, _, r_class c, fun e => absurd e h2, fun _ => ⟨fun _ => ⟨_, _, _, _, _, hn, big, rfl, rfl, rfl, rfl⟩, fun e => absurd hc e⟩⟩
  | text u q hq =>
    have hd : t.text.left[0]? = some 34 := by rw [hl]; rfl
    have hn := r_quoted t g z h hl hq
    have h4 : clsS 34 = 4 := (cls4 34).2 rfl
    cases q with
    | none =>
      obtain ⟨t', ho', hn⟩ := hn
      exact ⟨_, lex_tokens_next_tree _ _ _ _ _ _ _ ⟨34, hd, _, r_class 34, fun e => by omega, fun _ => ⟨fun e => by omega, fun _ => ⟨fun _ => ⟨_, _, _, _, _, hn, by rw [ho']; exact big, rfl, rfl, rfl, rfl⟩, fun e => absurd h4 e⟩⟩⟩⟩
    | some p =>
      obtain ⟨ps, n⟩ := p
      exact lex_tokens_next_tree _ _ _ _ _ _ _ ⟨34, hd, _, r_class 34, fun e => by omega, fun _ => ⟨fun e => by omega, fun _ => ⟨fun _ => ⟨_, _, _, _, _, hn.2, big, rfl, rfl, rfl, rfl⟩, fun e => absurd h4 e⟩⟩⟩
  | sign c u h2 h3 h4 =>
    have hd : t.text.left[0]? = some c := by rw [hl]; rfl
    have hn := r_sign t g z h (by rw [hl]; simp)
    rw [hl] at hn
    by_cases he : signS (c :: u) = []
    · rw [if_pos he]
      · rw [if_pos he, if_pos he, decide_eq_false (fun e => e he)] at hn
        exact ⟨_, lex_tokens_next_tree _ _ _ _ _ _ _ ⟨c, hd, _, r_class c, fun e => absurd e h2, fun _ => ⟨fun e => absurd e h3, fun _ => ⟨fun e => absurd e h4, fun _ => ⟨_, _, _, _, _, hn, big, rfl, rfl, rfl, rfl⟩⟩⟩⟩⟩
    · rw [if_neg he]
      · rw [if_neg he, if_neg he, decide_eq_true he] at hn
        exact lex_tokens_next_tree _ _ _ _ _ _ _ ⟨c, hd, _, r_class c, fun e => absurd e h2, fun _ => ⟨fun e => absurd e h3, fun _ => ⟨fun e => absurd e h4, fun _ => ⟨_, _, _, _, _, hn, big, rfl, rfl, rfl, rfl⟩⟩⟩⟩
end Go.Proofs.YtfbcnpbhhooapaaGreatDoor.M

/- Lex: all tokens of a text (Lx), on both sides; and a function that reckons them. -/
namespace Go.Proofs.YtfbcnpbhhooapaaGreatDoor.M
set_option linter.unusedSimpArgs false
set_option linter.unusedVariables false
open Go Classical
/-- What a text's tokens are, from a place on; none: an error. -/
inductive Lx : List UInt8 → Int → Option (List Token) → Prop
  | nil (p : Int) : Lx [] p (some [Token.mk 0 [] 0 [] p])
  | gap (c : UInt8) (t : List UInt8) (p : Int) (r : Option (List Token)) (hc : clsS c = 1) (h : Lx t (p + 1) r) : Lx (c :: t) p r
  | remark (t : List UInt8) (p : Int) (r : Option (List Token)) (h : Lx (t.dropWhile (· != 10)) (p + ((t.takeWhile (· != 10)).length + 1 : Nat)) r) : Lx (35 :: t) p r
  | bad (c : UInt8) (t : List UInt8) (p : Int) (h1 : clsS c ≠ 1) (h2 : clsS c ≠ 5) (h : Tok (c :: t) none) : Lx (c :: t) p none
  | tok (c : UInt8) (t : List UInt8) (p : Int) (x : Token) (n : Nat) (r : Option (List Token)) (h1 : clsS c ≠ 1) (h2 : clsS c ≠ 5) (h : Tok (c :: t) (some (x, n))) (h' : Lx ((c :: t).drop n) (p + n) r) : Lx (c :: t) p (r.map (atT x p :: ·))
def stands : List UInt8 → Prop
  | [] => True
  | c :: _ => clsS c ≠ 1 ∧ clsS c ≠ 5
theorem take0 (t : LText) : takeT t 0 = t := by
  unfold takeT
  simp
theorem takeWhile_all (p : UInt8 → Bool) : ∀ l : List UInt8, (∀ x ∈ l, p x = true) → l.takeWhile p = l
  | [], _ => rfl
  | c :: l, h => by rw [List.takeWhile_cons, if_pos (h c (by simp)), takeWhile_all p l (fun x hx => h x (by simp [hx]))]
theorem cut_line (s : List UInt8) : (Lib.cut s [10]).1 = s.takeWhile (· != 10) := by
  rw [cut1]
  split
  · rfl
  · rename_i h
    exact (takeWhile_all _ _ fun x hx => by
      simp only [bne_iff_ne, ne_eq]
      intro e
      exact h (e ▸ hx)).symm
theorem drop_line (t : List UInt8) : (35 :: t : List UInt8).drop ((t.takeWhile (· != 10)).length + 1) = t.dropWhile (· != 10) := by
  rw [List.drop_succ_cons]
  exact drop_while_len _ _
theorem line_len (t : List UInt8) : (t.takeWhile (· != 10)).length ≤ t.length := by
  have := congrArg List.length (List.takeWhile_append_dropWhile (p := (· != (10 : UInt8))) (l := t))
  rw [List.length_append] at this
  omega
theorem span1 {c : UInt8} (t : List UInt8) (h : clsS c = 1) : spanS [1] (c :: t) = spanS [1] t + 1 := by
  unfold spanS
  rw [List.takeWhile_cons, if_pos (by unfold inC; simp [h])]
  rfl
theorem span0 {c : UInt8} (t : List UInt8) (h : clsS c ≠ 1) : spanS [1] (c :: t) = 0 := by
  unfold spanS
  rw [List.takeWhile_cons, if_neg (by unfold inC; simp [h])]
  rfl
/-- lex.skip, behind its first blanks. -/
theorem r_skip_loop {l : List UInt8} {p : Int} {r : Option (List Token)} (h : Lx l p r) : ∀ (t : LTokens) (g : Nat) (z : Bool), t.text.left = l → t.text.pos = p → TI t.text →
    ∃ n, n ≤ l.length ∧ At_lex_tokens_skip_1 (LTokens.mk (takeT t.text (spanS [1] l)) t.out) g z (LTokens.mk (takeT t.text n) t.out) g z ∧ Lx (l.drop n) (p + n) r ∧ stands (l.drop n) := by
  induction h with
  | nil p =>
    intro t g z e ep hT
    refine ⟨0, Nat.le_refl _, ?_, by simpa using Lx.nil p, trivial⟩
    apply At_lex_tokens_skip_1_step
    refine ⟨_, r_HasPrefix _ _, fun h => ?_, fun _ => ⟨rfl, rfl, rfl⟩⟩
    rw [show spanS [1] [] = 0 from rfl, take0, e] at h
    exact absurd h (by decide)
  | gap c t' p r hc _ ih =>
    intro t g z e ep hT
    have h1 : 1 ≤ t.text.left.length := by rw [e]; simp
    obtain ⟨n, hn, hA, hL, hs⟩ := ih (LTokens.mk (takeT t.text 1) t.out) g z (by simp only [takeT, e]; rfl) (by simp only [takeT, ep]; rfl) (hT.take h1)
    simp only [takeT_takeT] at hA
    refine ⟨n + 1, by simp; omega, ?_, ?_, by rw [List.drop_succ_cons]; exact hs⟩
    · rw [span1 t' hc, Nat.add_comm (spanS [1] t') 1, Nat.add_comm n 1]
      exact hA
    · rw [List.drop_succ_cons, show p + ((n + 1 : Nat) : Int) = p + 1 + (n : Int) by omega]
      exact hL
  | remark t' p r _ ih =>
    intro t g z e ep hT
    have hll := line_len t'
    have h1 : (t'.takeWhile (· != 10)).length + 1 ≤ t.text.left.length := by rw [e]; simp; omega
    have hT1 := hT.1
    obtain ⟨n, hn, hA, hL, hs⟩ := ih (LTokens.mk (takeT t.text ((t'.takeWhile (· != 10)).length + 1)) t.out) g z (by simp only [takeT, e]; exact drop_line t') (by simp only [takeT, ep]) (hT.take h1)
    simp only [takeT_takeT] at hA
    have hdl : (t'.dropWhile (· != 10)).length = t'.length - (t'.takeWhile (· != 10)).length := by rw [← drop_while_len, List.length_drop]
    have hsp : spanS [1] (35 :: t') = 0 := span0 t' (by decide)
    refine ⟨(t'.takeWhile (· != 10)).length + 1 + n, by simp; omega, ?_, ?_, ?_⟩
    · rw [hsp, take0]
      apply At_lex_tokens_skip_1_step
      have hcut : (Lib.cut t.text.left [10]).1 = 35 :: t'.takeWhile (· != 10) := by
        rw [cut_line, e, List.takeWhile_cons, if_pos (by decide)]
      have hR := r_Cut t.text.left [10] (by omega)
      have hTk := r_take hT (n := (35 :: t'.takeWhile (· != 10)).length) (by simpa using h1)
      have hT2 : TI (takeT t.text (35 :: t'.takeWhile (· != 10)).length) := hT.take (by simpa using h1)
      have hW := r_word hT2 [1] (by decide)
      rw [hcut] at hR
      refine ⟨_, r_HasPrefix _ _, fun _ => ⟨_, _, _, hR, _, _, hTk, _, _, hW, ?_⟩, fun h => absurd (by rw [e]; rfl) h⟩
      have hle : (takeT t.text (35 :: t'.takeWhile (· != 10)).length).left = t'.dropWhile (· != 10) := by
        simp only [takeT, e, List.length_cons]; exact drop_line t'
      rw [hle, takeT_takeT]
      exact hA
    · rw [← List.drop_drop, drop_line, show p + (((t'.takeWhile (· != 10)).length + 1 + n : Nat) : Int) = p + (((t'.takeWhile (· != 10)).length + 1 : Nat) : Int) + (n : Int) by omega]
      exact hL
    · rw [← List.drop_drop, drop_line]
      exact hs
  | bad c t' p c1 c2 hk =>
    intro t g z e ep hT
    refine ⟨0, Nat.zero_le _, ?_, by simpa using Lx.bad c t' p c1 c2 hk, ⟨c1, c2⟩⟩
    rw [span0 t' c1]
    apply At_lex_tokens_skip_1_step
    refine ⟨_, r_HasPrefix _ _, fun h => ?_, fun _ => ⟨rfl, rfl, rfl⟩⟩
    rw [take0, e] at h
    exfalso
    apply c2
    rw [cls5]
    symm
    simpa [Lib.hasPrefix] using h
  | tok c t' p x n r c1 c2 hk h' _ =>
    intro t g z e ep hT
    refine ⟨0, Nat.zero_le _, ?_, by simpa using Lx.tok c t' p x n r c1 c2 hk h', ⟨c1, c2⟩⟩
    rw [span0 t' c1]
    apply At_lex_tokens_skip_1_step
    refine ⟨_, r_HasPrefix _ _, fun h => ?_, fun _ => ⟨rfl, rfl, rfl⟩⟩
    rw [take0, e] at h
    exfalso
    apply c2
    rw [cls5]
    symm
    simpa [Lib.hasPrefix] using h
theorem r_skip {l : List UInt8} {p : Int} {r : Option (List Token)} (h : Lx l p r) (t : LTokens) (g : Nat) (z : Bool) (e : t.text.left = l) (ep : t.text.pos = p) (hT : TI t.text) :
    ∃ n, n ≤ l.length ∧ R_lex_tokens_skip t g z (LTokens.mk (takeT t.text n) t.out) g z ∧ Lx (l.drop n) (p + n) r ∧ stands (l.drop n) := by
  obtain ⟨n, hn, hA, hL, hs⟩ := r_skip_loop h t g z e ep hT
  refine ⟨n, hn, lex_tokens_skip_tree _ _ _ _ _ _ ⟨_, _, r_word hT [1] (by decide), ?_⟩, hL, hs⟩
  rw [e]
  exact hA
def lexL : Option (List Token) → List Token
  | none => []
  | some l => l
def lexE : Option (List Token) → Int
  | none => 5
  | some _ => 0
def lexP (out : List Token) : Option (List Token) → List Token
  | none => []
  | some l => out ++ l
theorem r_Lex_loop : ∀ (m : Nat) (l : List UInt8) (p : Int) (r : Option (List Token)), Lx l p r → stands l → l.length ≤ m → ∀ (out : List Token) (g : Nat) (z : Bool), TI ⟨l, p⟩ → (out.length : Int) ≤ p → At_lex_Lex_1 l p out g z (lexP out r) (lexE r) := by
  intro m
  induction m with
  | zero =>
    intro l p r h hs hm out g z hT ho
    have : l = [] := List.length_eq_zero_iff.1 (by omega)
    subst this
    cases h
    have h3 := hT.2.2
    simp only [List.length_nil] at h3
    apply At_lex_Lex_1_step
    exact ⟨fun _ => ⟨⟨by omega, by omega, by decide⟩, rfl, rfl⟩, fun h => absurd rfl h⟩
  | succ m ih =>
    intro l p r h hs hm out g z hT ho
    have h3 := hT.2.2
    cases h with
    | nil =>
      simp only [List.length_nil] at h3
      apply At_lex_Lex_1_step
      exact ⟨fun _ => ⟨⟨by omega, by omega, by decide⟩, rfl, rfl⟩, fun h => absurd rfl h⟩
    | gap c t _ _ hc h => exact absurd hc hs.1
    | remark t _ _ h => exact absurd ((cls5 35).2 rfl) hs.2
    | bad c t _ c1 c2 hk =>
      have hl0 := hT.1
      simp only at hl0 h3
      obtain ⟨t', hn⟩ := r_next (LTokens.mk ⟨c :: t, p⟩ out) g z hT (by simp only; omega) rfl hk
      apply At_lex_Lex_1_step
      exact ⟨fun h => by simp at h, fun _ => ⟨_, _, _, _, hn, fun h => (by cases h), fun _ => ⟨rfl, rfl⟩⟩⟩
    | tok c t _ x n r' c1 c2 hk h' =>
      have hl0 := hT.1
      simp only at hl0 h3
      have hn := r_next (LTokens.mk ⟨c :: t, p⟩ out) g z hT (by simp only; omega) rfl hk
      obtain ⟨n0, n1⟩ := Tok_len hk _ rfl
      simp only at n0 n1
      simp only [NextP] at hn
      have hT2 : TI (takeT ⟨c :: t, p⟩ n) := hT.take n1
      obtain ⟨k, hk1, hS, hL, hst⟩ := r_skip h' (LTokens.mk (takeT ⟨c :: t, p⟩ n) (out ++ [atT x p])) g z rfl rfl hT2
      have hT3 : TI (takeT (takeT ⟨c :: t, p⟩ n) k) := hT2.take hk1
      have hlen : ((c :: t).drop n).length = (c :: t).length - n := List.length_drop
      have hlen2 : (((c :: t).drop n).drop k).length = (c :: t).length - n - k := by rw [List.length_drop, hlen]
      have key := ih _ _ _ hL hst (by omega) (out ++ [atT x p]) g z hT3 (by simp; omega)
      apply At_lex_Lex_1_step
      refine ⟨fun h => by simp at h, fun _ => ⟨_, _, _, _, hn, fun _ => ⟨_, _, _, hS, ?_⟩, fun h => absurd rfl h⟩⟩
      cases r' with
      | none => exact key
      | some l' =>
        have e : lexP (out ++ [atT x p]) (some l') = lexP out ((some l').map (atT x p :: ·)) := by simp [lexP]
        rw [e] at key
        exact key
/-- lex.Lex. -/
theorem r_Lex {s : List UInt8} (hs : s.length ≤ 6000) {r : Option (List Token)} (h : Lx s 0 r) : R_lex_Lex s (lexL r) (lexE r) := by
  have hT : TI ⟨s, 0⟩ := ⟨hs, Int.le_refl _, by simp only; omega⟩
  obtain ⟨k, hk1, hS, hL, hst⟩ := r_skip h (LTokens.mk ⟨s, 0⟩ []) 0 false rfl rfl hT
  have hT2 : TI (takeT ⟨s, 0⟩ k) := hT.take hk1
  have key := r_Lex_loop _ _ _ _ hL hst (Nat.le_refl _) [] 0 false hT2 (by simp)
  have e : lexP [] r = lexL r := by cases r <;> rfl
  rw [e] at key
  apply lex_Lex_tree
  exact ⟨fun h => by omega, fun _ => ⟨_, _, _, hS, key⟩⟩
/-! ### The other side -/
/-! ### As functions -/
def quoF : Nat → List UInt8 → List Part → List UInt8 → Option (List Part × Nat)
  | 0, _, _, _ => none
  | _ + 1, [], _, _ => none
  | n + 1, c :: t, l, b =>
    if c = 34 then some (joinP l b, 1)
    else if c.toNat < 32 then none
    else if c = 92 then
      match t with
      | [] => none
      | x :: t => match escS x with | none => none | some y => (quoF n t l (b ++ [y])).map fun q => (q.1, q.2 + 2)
    else if c = 36 ∧ t.head? = some 123 then
      if (refS t.tail).2 = true then (quoF n (t.tail.drop ((refS t.tail).1.length + 1)) (joinP l b ++ [Part.mk true (refS t.tail).1]) []).map fun q => (q.1, q.2 + (3 + (refS t.tail).1.length)) else none
    else (quoF n t l (b ++ [c])).map fun q => (q.1, q.2 + 1)
theorem quoF_ok : ∀ (n : Nat) (t : List UInt8) (l : List Part) (b : List UInt8), t.length < n → Qx t l b (quoF n t l b)
  | 0, t, l, b, h => by omega
  | n + 1, [], l, b, h => .nil l b
  | n + 1, c :: t, l, b, h => by
    simp only [List.length_cons] at h
    unfold quoF
    split
    · rename_i c1; subst c1; exact .shut t l b
    · rename_i c1
      split
      · rename_i c2; exact .low c t l b c1 c2
      · rename_i c2
        split
        · rename_i c3
          subst c3
          cases t with
          | nil => exact .esc0 l b
          | cons x t =>
            dsimp only
            cases hx : escS x with
            | none => exact .escbad x t l b hx
            | some y => exact .esc x y t l b _ hx (quoF_ok n t l (b ++ [y]) (by simp only [List.length_cons] at h; omega))
        · rename_i c3
          split
          · rename_i c4
            obtain ⟨rfl, h5⟩ := c4
            cases t with
            | nil => cases h5
            | cons x t =>
              obtain rfl : x = 123 := Option.some.inj h5
              simp only [List.length_cons] at h
              split
              · rename_i hx; exact .ref t l b _ hx (quoF_ok n _ _ _ (by simp; omega))
              · rename_i hx; exact .refbad t l b (by simpa using hx)
          · rename_i c4
            exact .plain c t l b _ c1 c2 c3 (fun e e2 => c4 ⟨e, e2⟩) (quoF_ok n t l (b ++ [c]) (by omega))
def tokF : List UInt8 → Option (Token × Nat)
  | [] => none
  | c :: u =>
    if clsS c = 2 then (if ((c :: u).takeWhile (inC [2, 3])).length ≤ 24 then some (Token.mk 3 ((c :: u).takeWhile (inC [2, 3])) 0 [] 0, spanS [2, 3] (c :: u)) else none)
    else if clsS c = 3 then numS (c :: u)
    else if clsS c = 4 then (quoF (u.length + 1) u [] []).map fun q => (Token.mk 2 [] 0 q.1 0, q.2 + 1)
    else if signS (c :: u) = [] then none else some (Token.mk 4 (signS (c :: u)) 0 [] 0, (signS (c :: u)).length)
theorem tokF_ok (c : UInt8) (u : List UInt8) : Tok (c :: u) (tokF (c :: u)) := by
  simp only [tokF]
  split
  · rename_i h; exact .name c u h
  · rename_i h2
    split
    · rename_i h; exact .num c u h
    · rename_i h3
      split
      · rename_i h4
        obtain rfl := (cls4 c).1 h4
        exact .text u _ (quoF_ok _ u [] [] (by omega))
      · rename_i h4; exact .sign c u h2 h3 h4
def lexF : Nat → List UInt8 → Int → Option (List Token)
  | 0, _, _ => none
  | _ + 1, [], p => some [Token.mk 0 [] 0 [] p]
  | n + 1, c :: t, p =>
    if clsS c = 1 then lexF n t (p + 1)
    else if clsS c = 5 then lexF n (t.dropWhile (· != 10)) (p + ((t.takeWhile (· != 10)).length + 1 : Nat))
    else match tokF (c :: t) with
      | none => none
      | some (x, k) => (lexF n ((c :: t).drop k) (p + k)).map (atT x p :: ·)
theorem lexF_ok : ∀ (n : Nat) (t : List UInt8) (p : Int), t.length < n → Lx t p (lexF n t p)
  | 0, t, p, h => by omega
  | n + 1, [], p, h => .nil p
  | n + 1, c :: t, p, h => by
    simp only [List.length_cons] at h
    have ht := tokF_ok c t
    unfold lexF
    split
    · rename_i c1; exact .gap c t p _ c1 (lexF_ok n t _ (by omega))
    · rename_i c1
      split
      · rename_i c2
        obtain rfl := (cls5 c).1 c2
        have := line_len t
        have hdl : (t.dropWhile (· != 10)).length = t.length - (t.takeWhile (· != 10)).length := by rw [← drop_while_len, List.length_drop]
        exact .remark t p _ (lexF_ok n _ _ (by omega))
      · rename_i c2
        split
        · rename_i hk
          rw [hk] at ht
          exact .bad c t p c1 c2 ht
        · rename_i x k hk
          rw [hk] at ht
          have := Tok_len ht _ rfl
          exact .tok c t p x k _ c1 c2 ht (lexF_ok n _ _ (by simp only [List.length_drop, List.length_cons] at this ⊢; omega))
def lexS (s : List UInt8) : Option (List Token) := lexF (s.length + 1) s 0
theorem lexS_ok (s : List UInt8) : Lx s 0 (lexS s) := lexF_ok _ s 0 (Nat.lt_succ_self _)
end Go.Proofs.YtfbcnpbhhooapaaGreatDoor.M

/- Lex: labels (lex.Label). -/
namespace Go.Proofs.YtfbcnpbhhooapaaGreatDoor.M
set_option linter.unusedSimpArgs false
set_option linter.unusedVariables false
open Go Classical
/-! ### Labels -/
theorem rep1 (a b : UInt8) : ∀ (n : Nat) (s : List UInt8), s.length ≤ n → Lib.replaceK [a] [b] (s.count a) s = s.map (fun c => if c = a then b else c)
  | 0, s, h => by
    have : s = [] := List.length_eq_zero_iff.1 (by omega)
    subst this
    rfl
  | n + 1, s, h => by
    by_cases hm : a ∈ s
    · obtain ⟨u, v, rfl, hu⟩ := splitAt_first a s hm
      have h1 : (u ++ a :: v).takeWhile (· != a) = u := takeWhile_stop _ u a v (fun x hx => by simp; intro e; exact hu (e ▸ hx)) (by simp)
      have hi : Lib.index (u ++ a :: v) [a] = (u.length : Nat) := by rw [index1, if_pos hm, h1]
      have hc : (u ++ a :: v).count a = v.count a + 1 := by
        rw [List.count_append, List.count_cons_self, List.count_eq_zero_of_not_mem hu]
        omega
      simp only [List.length_append, List.length_cons] at h
      rw [hc, Lib.replaceK_hit _ _ _ _ _ hi, List.take_left]
      have hd : (u ++ a :: v).drop (u.length + [a].length) = v := drop_mid a u v
      rw [hd, rep1 a b n v (by omega)]
      have hmu : u.map (fun c => if c = a then b else c) = u := by
        conv => rhs; rw [← List.map_id u]
        refine List.map_congr_left fun x hx => ?_
        rw [if_neg (show ¬ x = a from fun e => hu (e ▸ hx))]
        rfl
      simp [hmu]
    · rw [List.count_eq_zero_of_not_mem hm]
      show s = _
      conv => lhs; rw [← List.map_id s]
      refine List.map_congr_left fun x hx => ?_
      rw [if_neg (show ¬ x = a from fun e => hm (e ▸ hx))]
      rfl
def lblS (c : UInt8) : UInt8 := if c = 45 then 95 else c
theorem r_ReplaceAll (s : List UInt8) (hs : s.length ≤ 1000000) : R_strings_ReplaceAll s [45] [95] (s.map lblS) := by
  intro S
  refine call_ext sp_strings_ReplaceAll S ?_
  have hc : Lib.countB ⟨s.toArray⟩ ⟨([45] : List UInt8).toArray⟩ = s.count 45 := Lib.count_one 45 s
  have hle : s.count 45 ≤ s.length := List.count_le_length
  have hr : Lib.replaceAll s [45] [95] = s.map lblS := by
    unfold Lib.replaceAll Lib.replace Lib.replaceNum
    rw [if_neg (by decide), if_pos (.inl (by decide)), Lib.count_one, rep1 45 95 s.length s (Nat.le_refl _)]
    rfl
  simp only [replaceX, hc, hr]
  rw [if_pos]
  simp only [List.length_cons, List.length_nil]
  omega
/-- A label's bytes, behind its first one. -/
def lblC (c : UInt8) : Bool := decide ((97 ≤ c.toNat ∧ c.toNat ≤ 122) ∨ (48 ≤ c.toNat ∧ c.toNat ≤ 57) ∨ c.toNat = 45 ∨ c.toNat = 95)
def labelS : List UInt8 → Bool
  | [] => false
  | c :: u => decide (97 ≤ c.toNat ∧ c.toNat ≤ 122) && u.all lblC && decide (u.length + 1 ≤ 24)
theorem cls3 (c : UInt8) : clsS c = 3 ↔ 48 ≤ c.toNat ∧ c.toNat ≤ 57 := by
  have := inC3 c
  unfold inC at this
  simpa using this
theorem cls2 (c : UInt8) : clsS c = 2 ↔ c.toNat = 95 ∨ (97 ≤ c.toNat ∧ c.toNat ≤ 122) := by
  unfold clsS
  repeat' split
  all_goals (first | omega | (constructor <;> intro h <;> first | omega | exact absurd h (by decide)))
theorem lblC_in (c : UInt8) : inC [2, 3] (lblS c) = lblC c := by
  have h : inC [2, 3] (lblS c) = true ↔ lblC c = true := by
    rw [inC23, cls2, cls3]
    unfold lblS lblC
    rw [decide_eq_true_eq]
    by_cases h : c = 45
    · rw [if_pos h, h]; decide
    · have h' : c.toNat ≠ 45 := fun e => h (UInt8.toNat_inj.1 e)
      rw [if_neg h]
      omega
  cases h1 : inC [2, 3] (lblS c) <;> cases h2 : lblC c <;> simp_all
theorem span_all (cl : List Int) : ∀ l : List UInt8, spanS cl l = l.length ↔ ∀ c ∈ l, inC cl c = true
  | [] => by simp [spanS]
  | c :: l => by
    have ih := span_all cl l
    unfold spanS at ih ⊢
    rw [List.takeWhile_cons]
    by_cases h : inC cl c = true
    · rw [if_pos h]
      simp [h, ih]
    · rw [if_neg h]
      simp [h]
theorem name_map (c : UInt8) (u : List UInt8) : nameS ((c :: u).map lblS) = decide (clsS (lblS c) = 2 ∧ u.length + 1 ≤ 24 ∧ u.all lblC = true) := by
  unfold nameS
  refine decide_eq_decide.2 ?_
  simp only [List.map_cons, ne_eq, reduceCtorEq, not_false_eq_true, true_and, List.length_cons, List.length_map]
  rw [endS]
  by_cases h : clsS (lblS c) = 2
  · rw [if_pos h]
    have e : spanS [2, 3] (lblS c :: u.map lblS) = u.length + 1 ↔ ∀ x ∈ lblS c :: u.map lblS, inC [2, 3] x = true := by
      have := span_all [2, 3] (lblS c :: u.map lblS)
      simpa using this
    rw [e]
    simp only [h, true_and, List.mem_cons, List.mem_map, List.all_eq_true]
    constructor
    · intro ⟨h1, h2⟩
      refine ⟨h1, fun x hx => ?_⟩
      rw [← lblC_in]
      exact h2 _ (.inr ⟨x, hx, rfl⟩)
    · intro ⟨h1, h2⟩
      refine ⟨h1, fun x hx => ?_⟩
      rcases hx with rfl | ⟨y, hy, rfl⟩
      · rw [inC23]; exact .inl h
      · rw [lblC_in]; exact h2 y hy
  · rw [if_neg h]
    simp [h]
theorem r_lexLabel (s : List UInt8) (hs : s.length ≤ 1000000) : R_lex_Label s (labelS s) := by
  apply lex_Label_tree
  refine ⟨_, r_ReplaceAll s hs, _, r_lexName _ (by simpa using hs), ?_⟩
  cases s with
  | nil => exact ⟨fun h => absurd h (by decide), fun _ => rfl⟩
  | cons c u =>
    rw [name_map]
    refine ⟨fun h => ⟨c, rfl, fun h45 => ?_, fun h45 => ?_⟩, fun h => ?_⟩
    · simp only [labelS]
      rw [decide_eq_false (by omega)]
      rfl
    · obtain ⟨h1, h2, h3⟩ := of_decide_eq_true h
      have hc : ¬ c = 45 := fun e => h45 (by rw [e]; rfl)
      unfold lblS at h1
      rw [if_neg hc, cls2] at h1
      simp only [labelS]
      rw [h3, decide_eq_true h2, Bool.and_true, Bool.and_true]
      rw [← decide_not]
      exact decide_eq_decide.2 (by omega)
    · simp only [labelS]
      symm
      rw [← Bool.not_eq_true]
      intro h2
      apply h
      simp only [Bool.and_eq_true, decide_eq_true_eq] at h2
      refine decide_eq_true ⟨?_, h2.2, h2.1.2⟩
      rw [cls2]
      unfold lblS
      rw [if_neg (fun e => by have := h2.1.1; rw [e] at this; revert this; decide)]
      exact .inr h2.1.1
end Go.Proofs.YtfbcnpbhhooapaaGreatDoor.M

/- Parse: the tokens of a text are as the parser needs them; parse.Parse and parse.Expr of a text. -/
namespace Go.Proofs.YtfbcnpbhhooapaaGreatDoor.M
set_option linter.unusedSimpArgs false
set_option linter.unusedVariables false
open Go Classical
theorem joinP_mem {l : List Part} {b : List UInt8} {p : Part} (h : p ∈ joinP l b) : p ∈ l ∨ p.Text = b := by
  unfold joinP at h
  rcases List.mem_append.1 h with h | h
  · exact .inl h
  · split at h
    · cases h
    · simp at h
      subst h
      exact .inr rfl
theorem Qx_parts {t : List UInt8} {l : List Part} {b : List UInt8} {r : Option (List Part × Nat)} (h : Qx t l b r) : ∀ q, r = some q → ∀ p ∈ q.1, p ∈ l ∨ p.Text.length ≤ b.length + t.length := by
  induction h with
  | nil | low | esc0 | escbad | refbad => intro q hq; cases hq
  | shut t l b =>
    intro q hq p hp
    obtain rfl := Option.some.inj hq
    rcases joinP_mem hp with h | h
    · exact .inl h
    · right; rw [h]; omega
  | esc x y t l b r hx _ ih =>
    intro q hq p hp
    obtain ⟨q0, h0, rfl⟩ := Option.map_eq_some_iff.1 hq
    rcases ih q0 h0 p hp with h | h
    · exact .inl h
    · right; simp at h ⊢; omega
  | ref t l b r hr _ ih =>
    intro q hq p hp
    obtain ⟨q0, h0, rfl⟩ := Option.map_eq_some_iff.1 hq
    have h1 := refS_len hr
    rcases ih q0 h0 p hp with h | h
    · rcases List.mem_append.1 h with h | h
      · rcases joinP_mem h with h | h
        · exact .inl h
        · right; rw [h]; omega
      · simp at h
        subst h
        right
        simp
        omega
    · right; simp at h ⊢; omega
  | plain c t l b r c1 c2 c3 c4 _ ih =>
    intro q hq p hp
    obtain ⟨q0, h0, rfl⟩ := Option.map_eq_some_iff.1 hq
    rcases ih q0 h0 p hp with h | h
    · exact .inl h
    · right; simp at h ⊢; omega
theorem takeW_len (p : UInt8 → Bool) (l : List UInt8) : (l.takeWhile p).length ≤ l.length := (List.takeWhile_sublist p).length_le
theorem Tok_good {t : List UInt8} {r : Option (Token × Nat)} (h : Tok t r) : ∀ x n, r = some (x, n) → x.Kind ≠ 0 ∧ x.Text.length ≤ t.length ∧ ∀ p ∈ x.Parts, p.Text.length ≤ t.length := by
  cases h with
  | name c u h =>
    intro x n hx
    split at hx
    · cases hx
      exact ⟨by simp, takeW_len _ _, by simp⟩
    · cases hx
  | num c u h =>
    intro x n hx
    unfold numS at hx
    split at hx
    · cases hx
      exact ⟨by simp, by simp, by simp⟩
    · cases hx
  | text u r h =>
    intro x n hx
    obtain ⟨q, hq, e⟩ := Option.map_eq_some_iff.1 hx
    cases e
    refine ⟨by simp, by simp, fun p hp => ?_⟩
    rcases Qx_parts h q hq p hp with h | h
    · cases h
    · simp at h ⊢; omega
  | sign c u h2 h3 h4 =>
    intro x n hx
    split at hx
    · cases hx
    · cases hx
      exact ⟨by simp, signS_len c u, by simp⟩
theorem Lx_good {l : List UInt8} {p : Int} {r : Option (List Token)} (h : Lx l p r) : ∀ L, r = some L → W L ∧ L.length ≤ l.length + 1 ∧ ∀ t ∈ L, t.Text.length ≤ l.length ∧ ∀ q ∈ t.Parts, q.Text.length ≤ l.length := by
  induction h with
  | nil p =>
    intro L hL
    cases hL
    exact ⟨rfl, by simp, fun t ht => by simp at ht; subst ht; simp⟩
  | gap c t p r hc _ ih =>
    intro L hL
    obtain ⟨h1, h2, h3⟩ := ih L hL
    refine ⟨h1, by simp; omega, fun x hx => ?_⟩
    obtain ⟨h4, h5⟩ := h3 x hx
    exact ⟨by simp; omega, fun q hq => by have := h5 q hq; simp; omega⟩
  | remark t p r _ ih =>
    intro L hL
    obtain ⟨h1, h2, h3⟩ := ih L hL
    have hd : (t.dropWhile (· != 10)).length ≤ t.length := (List.dropWhile_sublist _).length_le
    refine ⟨h1, by simp; omega, fun x hx => ?_⟩
    obtain ⟨h4, h5⟩ := h3 x hx
    exact ⟨by simp; omega, fun q hq => by have := h5 q hq; simp; omega⟩
  | bad => intro L hL; cases hL
  | tok c t p x n r h1 h2 hk _ ih =>
    intro L hL
    obtain ⟨L0, h0, rfl⟩ := Option.map_eq_some_iff.1 hL
    obtain ⟨g1, g2, g3⟩ := Tok_good hk x n rfl
    obtain ⟨l1, l2⟩ := Tok_len hk (x, n) rfl
    obtain ⟨i1, i2, i3⟩ := ih L0 h0
    simp only [List.length_drop] at i2 i3
    simp only at l1 l2
    refine ⟨?_, by simp only [List.length_cons] at *; omega, fun y hy => ?_⟩
    · cases L0 with
      | nil => exact i1.elim
      | cons a L0 => exact ⟨g1, i1⟩
    · rcases List.mem_cons.1 hy with rfl | hy
      · exact ⟨g2, g3⟩
      · obtain ⟨h4, h5⟩ := i3 y hy
        exact ⟨by omega, fun q hq => by have := h5 q hq; omega⟩
theorem TL_of {s : List UInt8} {L : List Token} (hs : s.length ≤ 6000) (h : lexS s = some L) : TL L ∧ W L := by
  obtain ⟨h1, h2, h3⟩ := Lx_good (lexS_ok s) L h
  exact ⟨⟨by omega, fun t ht => by have := (h3 t ht).1; omega, fun t ht p hp => by have := (h3 t ht).2 p hp; omega⟩, h1⟩
/-- What a text is as a configuration: blocks, or an error. -/
def parseS (s : List UInt8) : PR (List Block) := match lexS s with | none => .er 5 | some L => confT labelS L
theorem r_ParseS (s : List UInt8) (hs : s.length ≤ 6000) : match parseS s with
    | .ok l _ _ => R_parse_Parse s l 0
    | .er e => e ≠ 0 → R_parse_Parse s [] e
    | .no => False := by
  have hx := r_Lex hs (lexS_ok s)
  unfold parseS
  cases hl : lexS s with
  | none => rw [hl] at hx; exact fun he => r_Parse_no hx he
  | some L =>
    rw [hl] at hx
    obtain ⟨h1, h2⟩ := TL_of hs hl
    exact r_ParseT hx h1 h2 r_lexLabel
theorem r_Parse_ok {s : List UInt8} (hs : s.length ≤ 6000) {l : List Block} {ts : List Token} {out : List Node} (h : parseS s = .ok l ts out) : R_parse_Parse s l 0 := by
  have := r_ParseS s hs
  rw [h] at this
  exact this
end Go.Proofs.YtfbcnpbhhooapaaGreatDoor.M

/- Parse: the parser's own functions: places of tokens do not matter (σ), what stands behind an expression does not matter (Fol), errors are not nought (NE), brackets (brk). -/
namespace Go.Proofs.YtfbcnpbhhooapaaGreatDoor.M
set_option linter.unusedSimpArgs false
set_option linter.unusedVariables false
open Go Classical
/-! ### Where the tokens stand in the text does not matter. -/
def σ (x : Token) : Token := ⟨x.Kind, x.Text, x.Num, x.Parts, 0⟩
theorem σ_K (t : Token) : (σ t).Kind = t.Kind := rfl
theorem σ_T (t : Token) : (σ t).Text = t.Text := rfl
theorem σ_P (t : Token) : (σ t).Parts = t.Parts := rfl
def PR.mapT {α : Type} : PR α → PR α
  | .ok a ts out => .ok a (ts.map σ) out
  | .er e => .er e
  | .no => .no
theorem isS_σ (s : List UInt8) (ts : List Token) : isS s (ts.map σ) = isS s ts := by cases ts <;> rfl
theorem tail_σ (ts : List Token) : (ts.map σ).tail = ts.tail.map σ := by cases ts <;> rfl
theorem need_σ {α : Type} (s : List UInt8) (ts : List Token) (k k' : List Token → PR α) (h : ∀ ts, k' (ts.map σ) = (k ts).mapT) : needS s (ts.map σ) k' = (needS s ts k).mapT := by
  simp only [needS, isS_σ, tail_σ, h]
  split <;> rfl
theorem open_σ {α : Type} (s : List UInt8) (d : Nat) (ts : List Token) (k k' : List Token → PR α) (h : ∀ ts, k' (ts.map σ) = (k ts).mapT) : openS s d (ts.map σ) k' = (openS s d ts k).mapT := by
  simp only [openS, isS_σ, tail_σ, h]
  split
  · split <;> rfl
  · rfl
theorem bind_σ {α β : Type} (p p' : PR α) (f f' : α → List Token → List Node → PR β) (hp : p' = p.mapT) (h : ∀ a ts out, f' a (ts.map σ) out = (f a ts out).mapT) : p'.bind f' = (p.bind f).mapT := by
  subst hp
  cases p <;> simp [PR.mapT, PR.bind, h]
theorem if_σ {α : Type} (c : Prop) [Decidable c] (p p' q q' : PR α) (hp : p' = p.mapT) (hq : q' = q.mapT) : (if c then p' else q') = (if c then p else q).mapT := by
  split <;> assumption
structure StA (n : Nat) : Prop where
  expr : ∀ d ts out, exprS n d (ts.map σ) out = (exprS n d ts out).mapT
  chain : ∀ r d ts out, chainS n r d (ts.map σ) out = (chainS n r d ts out).mapT
  loop : ∀ r d a ts out, loopS n r d a (ts.map σ) out = (loopS n r d a ts out).mapT
  un : ∀ d ts out, unS n d (ts.map σ) out = (unS n d ts out).mapT
  post : ∀ d ts out, postS n d (ts.map σ) out = (postS n d ts out).mapT
  postl : ∀ d a ts out, postL n d a (ts.map σ) out = (postL n d a ts out).mapT
  many : ∀ d e ts out, manyS n d e (ts.map σ) out = (manyS n d e ts out).mapT
  manyl : ∀ d e l ts out, manyL n d e l (ts.map σ) out = (manyL n d e l ts out).mapT
  prim : ∀ d ts out, primS n d (ts.map σ) out = (primS n d ts out).mapT
theorem stA : ∀ n, StA n
  | 0 => by refine ⟨?_, ?_, ?_, ?_, ?_, ?_, ?_, ?_, ?_⟩ <;> intros <;> simp only [exprS, chainS, loopS, unS, postS, postL, manyS, manyL, primS, PR.mapT]
  | n + 1 => by
    have ih := stA n
    refine ⟨fun d ts out => ?_, fun r d ts out => ?_, fun r d a ts out => ?_, fun d ts out => ?_, fun d ts out => ?_, fun d a ts out => ?_, fun d e ts out => ?_, fun d e l ts out => ?_, fun d ts out => ?_⟩
    · simp only [exprS]
      refine bind_σ _ _ _ _ (ih.chain _ _ _ _) fun a ts out => ?_
      rw [isS_σ]
      refine if_σ _ _ _ _ _ (open_σ _ _ _ _ _ fun ts => bind_σ _ _ _ _ (ih.expr _ _ _) fun b ts out => need_σ _ _ _ _ fun ts => bind_σ _ _ _ _ (ih.expr _ _ _) fun c ts out => rfl) rfl
    · simp only [chainS]
      exact if_σ _ _ _ _ _ (ih.un _ _ _) (bind_σ _ _ _ _ (ih.chain _ _ _ _) fun a ts out => ih.loop _ _ _ _ _)
    · cases ts with
      | nil => simp [loopS, primS, PR.mapT]
      | cons t ts =>
        simp only [loopS, List.map_cons, σ_K, σ_T]
        refine if_σ _ _ _ _ _ ?_ rfl
        cases opS r t.Text with
        | none => rfl
        | some kind => exact bind_σ _ _ _ _ (ih.chain _ _ _ _) fun b ts out => if_σ _ _ _ _ _ rfl (ih.loop _ _ _ _ _)
    · simp only [unS, isS_σ]
      exact if_σ _ _ _ _ _ (open_σ _ _ _ _ _ fun ts => bind_σ _ _ _ _ (ih.un _ _ _) fun a ts out => rfl) (if_σ _ _ _ _ _ (open_σ _ _ _ _ _ fun ts => bind_σ _ _ _ _ (ih.un _ _ _) fun a ts out => rfl) (ih.post _ _ _))
    · simp only [postS]
      exact bind_σ _ _ _ _ (ih.prim _ _ _) fun a ts out => ih.postl _ _ _ _
    · simp only [postL, isS_σ]
      exact if_σ _ _ _ _ _ (open_σ _ _ _ _ _ fun ts => bind_σ _ _ _ _ (ih.expr _ _ _) fun b ts out => need_σ _ _ _ _ fun ts => ih.postl _ _ _ _) rfl
    · simp only [manyS, isS_σ, tail_σ]
      exact if_σ _ _ _ _ _ rfl (bind_σ _ _ _ _ (ih.expr _ _ _) fun a ts out => ih.manyl _ _ _ _ _)
    · simp only [manyL, isS_σ, tail_σ]
      exact if_σ _ _ _ _ _ (bind_σ _ _ _ _ (ih.expr _ _ _) fun a ts out => ih.manyl _ _ _ _ _) (need_σ _ _ _ _ fun ts => rfl)
    · cases ts with
      | nil => simp [loopS, primS, PR.mapT]
      | cons t ts =>
        have e := isS_σ [91] (t :: ts)
        rw [List.map_cons] at e
        simp only [primS, List.map_cons, e, isS_σ, tail_σ]
        refine if_σ _ _ _ _ _ (if_σ _ _ _ _ _ rfl (if_σ _ _ _ _ _ rfl (if_σ _ _ _ _ _ ?_ (open_σ _ _ _ _ _ fun ts => bind_σ _ _ _ _ (ih.many _ _ _ _) fun l ts out => rfl)))) (if_σ _ _ _ _ _ rfl (if_σ _ _ _ _ _ rfl (if_σ _ _ _ _ _ ?_ ?_)))
        · cases ts.tail with
          | nil => rfl
          | cons u ts => exact if_σ _ _ _ _ _ rfl rfl
        · exact open_σ _ d (t :: ts) _ _ fun ts => bind_σ _ _ _ _ (ih.many _ _ _ _) fun l ts out => rfl
        · exact open_σ _ d (t :: ts) _ _ fun ts => bind_σ _ _ _ _ (ih.expr _ _ _) fun a ts out => need_σ _ _ _ _ fun ts => rfl
theorem whole_σ (N : Nat) (ts : List Token) : wholeS N (ts.map σ) = (wholeS N ts).mapT := by
  simp only [wholeS, (stA N).expr]
  cases exprS N 0 ts [] <;> rfl
theorem lab_σ (lab : List UInt8 → Bool) (ts : List Token) : labS lab (ts.map σ) = (labS lab ts).mapT := by
  cases ts with
  | nil => rfl
  | cons t ts =>
    simp only [labS, List.map_cons, σ_K, σ_P]
    refine if_σ _ _ _ _ _ ?_ rfl
    cases t.Parts with
    | nil => rfl
    | cons p l =>
      cases l with
      | nil => exact if_σ _ _ _ _ _ rfl (if_σ _ _ _ _ _ rfl rfl)
      | cons q l => rfl
theorem attrs_σ (N : Nat) : ∀ (n : Nat) (acc : List Attr) (ts : List Token), attrsS N n acc (ts.map σ) = (attrsS N n acc ts).mapT
  | 0, _, _ => rfl
  | n + 1, acc, [] => rfl
  | n + 1, acc, t :: ts => by
    have e := isS_σ [125] (t :: ts)
    rw [List.map_cons] at e
    simp only [attrsS, List.map_cons, e]
    refine if_σ _ _ _ _ _ rfl (if_σ _ _ _ _ _ (if_σ _ _ _ _ _ rfl (need_σ _ _ _ _ fun ts => bind_σ _ _ _ _ (whole_σ _ _) fun a ts out => attrs_σ N n _ _)) rfl)
theorem body_σ (N : Nat) (ts : List Token) : bodyS N (ts.map σ) = (bodyS N ts).mapT := need_σ _ _ _ _ fun ts => attrs_σ N N [] ts
theorem plain_σ (lab : List UInt8 → Bool) (N i : Nat) (ts : List Token) : plainS lab N i (ts.map σ) = (plainS lab N i ts).mapT :=
  if_σ _ _ _ _ _ (bind_σ _ _ _ _ (body_σ _ _) fun a ts out => rfl) (bind_σ _ _ _ _ (lab_σ _ _) fun a ts out => bind_σ _ _ _ _ (body_σ _ _) fun a ts out => rfl)
theorem blkIn_σ (lab : List UInt8 → Bool) (N : Nat) (ts : List Token) : blkIn lab N (ts.map σ) = (blkIn lab N ts).mapT := by
  cases ts with
  | nil => rfl
  | cons t ts =>
    simp only [blkIn, List.map_cons, σ_K, σ_T]
    refine if_σ _ _ _ _ _ ?_ rfl
    cases idxS t.Text wordsS 0 with
    | none => rfl
    | some i => exact if_σ _ _ _ _ _ rfl (plain_σ _ _ _ _)
theorem blks_σ (lab : List UInt8 → Bool) (N : Nat) : ∀ (n : Nat) (acc : List Block) (ts : List Token), blksS lab N n acc (ts.map σ) = (blksS lab N n acc ts).mapT
  | 0, _, _ => rfl
  | n + 1, acc, ts => by
    simp only [blksS, isS_σ, tail_σ]
    exact if_σ _ _ _ _ _ rfl (bind_σ _ _ _ _ (blkIn_σ _ _ _) fun a ts out => blks_σ lab N n _ _)
theorem blk_σ (lab : List UInt8 → Bool) (N : Nat) (ts : List Token) : blkS lab N (ts.map σ) = (blkS lab N ts).mapT := by
  cases ts with
  | nil => rfl
  | cons t ts =>
    simp only [blkS, List.map_cons, σ_K, σ_T]
    refine if_σ _ _ _ _ _ ?_ rfl
    cases idxS t.Text wordsS 0 with
    | none => rfl
    | some i => exact if_σ _ _ _ _ _ (bind_σ _ _ _ _ (lab_σ _ _) fun a ts out => need_σ _ _ _ _ fun ts => bind_σ _ _ _ _ (blks_σ _ _ _ _ _) fun a ts out => rfl) (plain_σ _ _ _ _)
theorem conf_σ (lab : List UInt8 → Bool) (N : Nat) : ∀ (n : Nat) (acc : List Block) (ts : List Token), confS lab N n acc (ts.map σ) = (confS lab N n acc ts).mapT
  | 0, _, _ => rfl
  | n + 1, acc, [] => rfl
  | n + 1, acc, t :: ts => by
    have e := blk_σ lab N (t :: ts)
    rw [List.map_cons] at e
    simp only [confS, List.map_cons, e]
    exact if_σ _ _ _ _ _ rfl (bind_σ _ _ _ _ rfl fun a ts out => conf_σ lab N n _ _)
theorem confT_σ (lab : List UInt8 → Bool) (L : List Token) : confT lab (L.map σ) = (confT lab L).mapT := by
  simp only [confT, List.length_map]
  exact conf_σ _ _ _ _ _
/-! ### What stands behind an expression does not matter, if it goes on with nothing that belongs to one. -/
/-- Nothing that an expression goes on with. -/
def Quiet (r : Token) : Prop := r.Kind = 0 ∨ (r.Kind = 4 ∧ (r.Text = [125] ∨ r.Text = [41]))
/-- The one list ends where the other goes on. -/
inductive Exs (r : Token) (rest : List Token) : List Token → List Token → Prop
  | nil (e : Token) (he : e.Kind = 0) : Exs r rest [e] (r :: rest)
  | cons (x : Token) (ts ts' : List Token) (hx : x.Kind ≠ 0) (h : Exs r rest ts ts') : Exs r rest (x :: ts) (x :: ts')
def Fol {α : Type} (r : Token) (rest : List Token) (d d' : Nat) (p q : PR α) : Prop := ∀ a ts out, p = .ok a ts out → (∃ ts', q = .ok a ts' out ∧ Exs r rest ts ts') ∨ (d < d' ∧ q = .er 6)
section
variable {r : Token} {rest : List Token} {d d' : Nat}
theorem Fol.ok {α : Type} {a : α} {ts ts' : List Token} {out : List Node} (h : Exs r rest ts ts') : Fol r rest d d' (.ok a ts out) (.ok a ts' out) := by
  intro a1 ts1 out1 e
  cases e
  exact .inl ⟨ts', rfl, h⟩
theorem Fol.er {α : Type} {e : Int} {q : PR α} : Fol r rest d d' (.er e) q := fun _ _ _ h => by cases h
theorem Fol.no {α : Type} {q : PR α} : Fol r rest d d' .no q := fun _ _ _ h => by cases h
theorem Fol.bind {α β : Type} {p q : PR α} {f g : α → List Token → List Node → PR β} (hp : Fol r rest d d' p q) (h : ∀ a ts out ts', Exs r rest ts ts' → Fol r rest d d' (f a ts out) (g a ts' out)) : Fol r rest d d' (p.bind f) (q.bind g) := by
  cases p with
  | er e => exact Fol.er
  | no => exact Fol.no
  | ok a ts out =>
    rcases hp a ts out rfl with ⟨ts', rfl, hx⟩ | ⟨h1, rfl⟩
    · exact h a ts out ts' hx
    · exact fun _ _ _ _ => .inr ⟨h1, rfl⟩
theorem Fol.up {α : Type} {p q : PR α} (h : Fol r rest (d + 1) (d' + 1) p q) : Fol r rest d d' p q := by
  intro a ts out e
  rcases h a ts out e with h | ⟨h1, h2⟩
  · exact .inl h
  · exact .inr ⟨by omega, h2⟩
theorem Exs.is1 {s : List UInt8} {ts ts' : List Token} (h : Exs r rest ts ts') (hi : isS s ts = true) : isS s ts' = true ∧ Exs r rest ts.tail ts'.tail := by
  cases h with
  | nil e he => simp [isS, he] at hi
  | cons x ts ts' hx h => exact ⟨hi, h⟩
theorem Fol.need {α : Type} {s : List UInt8} {ts ts' : List Token} {k k' : List Token → PR α} (h : Exs r rest ts ts') (hk : ∀ ts ts', Exs r rest ts ts' → Fol r rest d d' (k ts) (k' ts')) : Fol r rest d d' (needS s ts k) (needS s ts' k') := by
  simp only [needS]
  by_cases hi : isS s ts = true
  · obtain ⟨h1, h2⟩ := h.is1 hi
    rw [if_pos hi, if_pos h1]
    exact hk _ _ h2
  · rw [if_neg hi]
    exact Fol.er
theorem Fol.opn {α : Type} {s : List UInt8} {ts ts' : List Token} {k k' : List Token → PR α} (hd : d ≤ d') (h : Exs r rest ts ts') (hk : ∀ ts ts', Exs r rest ts ts' → Fol r rest (d + 1) (d' + 1) (k ts) (k' ts')) : Fol r rest d d' (openS s d ts k) (openS s d' ts' k') := by
  simp only [openS]
  by_cases hi : isS s ts = true
  · obtain ⟨h1, h2⟩ := h.is1 hi
    rw [if_pos hi, if_pos h1]
    by_cases h64 : 64 ≤ d
    · rw [if_pos h64]; exact Fol.er
    · rw [if_neg h64]
      by_cases h64' : 64 ≤ d'
      · rw [if_pos h64']
        exact fun _ _ _ _ => .inr ⟨by omega, rfl⟩
      · rw [if_neg h64']
        exact (hk _ _ h2).up
  · rw [if_neg hi]
    exact Fol.er
theorem Fol.ite {α : Type} {c : Prop} [Decidable c] {p p' q q' : PR α} (h1 : c → Fol r rest d d' p p') (h2 : ¬ c → Fol r rest d d' q q') : Fol r rest d d' (if c then p else q) (if c then p' else q') := by
  split
  · exact h1 ‹_›
  · exact h2 ‹_›
theorem op_quiet {r : Token} (hq : Quiet r) (h4 : r.Kind = 4) (rank : Nat) : opS rank r.Text = none := by
  rcases hq with h | ⟨_, h⟩
  · rw [h4] at h; exact absurd h (by decide)
  · have : ∀ s : List UInt8, s = [125] ∨ s = [41] → opS rank s = none := by
      intro s hs
      unfold opS signsS
      rcases hs with rfl | rfl <;> (split <;> simp [idxS])
    exact this _ h
end
/-! ### Errors are not nought. -/
def NE {α : Type} (p : PR α) : Prop := ∀ e, p = .er e → e = 3 ∨ e = 5 ∨ e = 6
theorem NE.ok {α : Type} {a : α} {ts : List Token} {out : List Node} : NE (PR.ok a ts out) := fun _ h => by cases h
theorem NE.no {α : Type} : NE (PR.no : PR α) := fun _ h => by cases h
theorem NE.e3 {α : Type} : NE (PR.er 3 : PR α) := fun _ h => by cases h; exact .inl rfl
theorem NE.e5 {α : Type} : NE (PR.er 5 : PR α) := fun _ h => by cases h; exact .inr (.inl rfl)
theorem NE.e6 {α : Type} : NE (PR.er 6 : PR α) := fun _ h => by cases h; exact .inr (.inr rfl)
theorem NE.bind {α β : Type} {p : PR α} {f : α → List Token → List Node → PR β} (h : NE p) (hf : ∀ a ts out, NE (f a ts out)) : NE (p.bind f) := by
  cases p with
  | ok a ts out => exact hf _ _ _
  | er e => intro e' h'; cases h'; exact h _ rfl
  | no => exact NE.no
theorem NE.ite {α : Type} {c : Prop} [Decidable c] {p q : PR α} (hp : NE p) (hq : NE q) : NE (if c then p else q) := by split <;> assumption
theorem NE.need {α : Type} {s : List UInt8} {ts : List Token} {k : List Token → PR α} (h : ∀ ts, NE (k ts)) : NE (needS s ts k) := NE.ite (h _) NE.e5
theorem NE.opn {α : Type} {s : List UInt8} {d : Nat} {ts : List Token} {k : List Token → PR α} (h : ∀ ts, NE (k ts)) : NE (openS s d ts k) := NE.ite (NE.ite NE.e6 (h _)) NE.e5
structure NeA (n : Nat) : Prop where
  expr : ∀ d ts out, NE (exprS n d ts out)
  chain : ∀ r d ts out, NE (chainS n r d ts out)
  loop : ∀ r d a ts out, NE (loopS n r d a ts out)
  un : ∀ d ts out, NE (unS n d ts out)
  post : ∀ d ts out, NE (postS n d ts out)
  postl : ∀ d a ts out, NE (postL n d a ts out)
  many : ∀ d e ts out, NE (manyS n d e ts out)
  manyl : ∀ d e l ts out, NE (manyL n d e l ts out)
  prim : ∀ d ts out, NE (primS n d ts out)
theorem neA : ∀ n, NeA n
  | 0 => by refine ⟨?_, ?_, ?_, ?_, ?_, ?_, ?_, ?_, ?_⟩ <;> intros <;> simp only [exprS, chainS, loopS, unS, postS, postL, manyS, manyL, primS] <;> exact NE.no
  | n + 1 => by
    have ih := neA n
    refine ⟨fun d ts out => ?_, fun r d ts out => ?_, fun r d a ts out => ?_, fun d ts out => ?_, fun d ts out => ?_, fun d a ts out => ?_, fun d e ts out => ?_, fun d e l ts out => ?_, fun d ts out => ?_⟩
    · simp only [exprS]
      exact (ih.chain _ _ _ _).bind fun a ts out => NE.ite (NE.opn fun ts => (ih.expr _ _ _).bind fun b ts out => NE.need fun ts => (ih.expr _ _ _).bind fun c ts out => NE.ok) NE.ok
    · simp only [chainS]
      exact NE.ite (ih.un _ _ _) ((ih.chain _ _ _ _).bind fun a ts out => ih.loop _ _ _ _ _)
    · cases ts with
      | nil => simp only [loopS]; exact NE.no
      | cons t ts =>
        simp only [loopS]
        refine NE.ite ?_ NE.ok
        split
        · exact NE.ok
        · exact (ih.chain _ _ _ _).bind fun b ts out => NE.ite NE.ok (ih.loop _ _ _ _ _)
    · simp only [unS]
      exact NE.ite (NE.opn fun ts => (ih.un _ _ _).bind fun a ts out => NE.ok) (NE.ite (NE.opn fun ts => (ih.un _ _ _).bind fun a ts out => NE.ok) (ih.post _ _ _))
    · simp only [postS]
      exact (ih.prim _ _ _).bind fun a ts out => ih.postl _ _ _ _
    · simp only [postL]
      exact NE.ite (NE.opn fun ts => (ih.expr _ _ _).bind fun b ts out => NE.need fun ts => ih.postl _ _ _ _) NE.ok
    · simp only [manyS]
      exact NE.ite NE.ok ((ih.expr _ _ _).bind fun a ts out => ih.manyl _ _ _ _ _)
    · simp only [manyL]
      exact NE.ite ((ih.expr _ _ _).bind fun a ts out => ih.manyl _ _ _ _ _) (NE.need fun ts => NE.ok)
    · cases ts with
      | nil => simp only [primS]; exact NE.no
      | cons t ts =>
        simp only [primS]
        refine NE.ite (NE.ite NE.ok (NE.ite NE.ok (NE.ite ?_ (NE.opn fun ts => (ih.many _ _ _ _).bind fun l ts out => NE.ok)))) (NE.ite NE.ok (NE.ite NE.ok (NE.ite (NE.opn fun ts => (ih.many _ _ _ _).bind fun l ts out => NE.ok) (NE.opn fun ts => (ih.expr _ _ _).bind fun a ts out => NE.need fun ts => NE.ok))))
        split
        · exact NE.no
        · exact NE.ite NE.ok NE.e5
theorem NE.whole (N : Nat) (ts : List Token) : NE (wholeS N ts) := by
  have := (neA N).expr 0 ts []
  simp only [wholeS]
  cases h : exprS N 0 ts [] with
  | ok a ts out => exact NE.ok
  | er e => intro e' h'; cases h'; exact this e h
  | no => exact NE.no
theorem NE.lab (lab : List UInt8 → Bool) (ts : List Token) : NE (labS lab ts) := by
  cases ts with
  | nil => exact NE.no
  | cons t ts =>
    simp only [labS]
    refine NE.ite ?_ NE.e5
    split
    · exact NE.ite NE.e5 (NE.ite NE.ok NE.e5)
    · exact NE.e5
theorem NE.attrs (N : Nat) : ∀ (n : Nat) (acc : List Attr) (ts : List Token), NE (attrsS N n acc ts)
  | 0, _, _ => NE.no
  | n + 1, acc, [] => NE.no
  | n + 1, acc, t :: ts => NE.ite NE.ok (NE.ite (NE.ite NE.e3 (NE.need fun ts => (NE.whole _ _).bind fun a ts out => NE.attrs N n _ _)) NE.e5)
theorem NE.body (N : Nat) (ts : List Token) : NE (bodyS N ts) := NE.need fun ts => NE.attrs N N [] ts
theorem NE.plain (lab : List UInt8 → Bool) (N i : Nat) (ts : List Token) : NE (plainS lab N i ts) := NE.ite ((NE.body _ _).bind fun a ts out => NE.ok) ((NE.lab _ _).bind fun a ts out => (NE.body _ _).bind fun a ts out => NE.ok)
theorem NE.blkIn (lab : List UInt8 → Bool) (N : Nat) (ts : List Token) : NE (blkIn lab N ts) := by
  cases ts with
  | nil => exact NE.no
  | cons t ts =>
    simp only [M.blkIn]
    refine NE.ite ?_ NE.e5
    split
    · exact NE.e5
    · exact NE.ite NE.e5 (NE.plain _ _ _ _)
theorem NE.blks (lab : List UInt8 → Bool) (N : Nat) : ∀ (n : Nat) (acc : List Block) (ts : List Token), NE (blksS lab N n acc ts)
  | 0, _, _ => NE.no
  | n + 1, acc, ts => NE.ite NE.ok ((NE.blkIn _ _ _).bind fun a ts out => NE.blks lab N n _ _)
theorem NE.blk (lab : List UInt8 → Bool) (N : Nat) (ts : List Token) : NE (blkS lab N ts) := by
  cases ts with
  | nil => exact NE.no
  | cons t ts =>
    simp only [blkS]
    refine NE.ite ?_ NE.e5
    split
    · exact NE.e5
    · exact NE.ite ((NE.lab _ _).bind fun a ts out => NE.need fun ts => (NE.blks _ _ _ _ _).bind fun a ts out => NE.ok) (NE.plain _ _ _ _)
/-! ### Brackets. -/
def lpT : Token := ⟨4, [40], 0, [], 0⟩
def rpT : Token := ⟨4, [41], 0, [], 0⟩
theorem Quiet.isS {u : Token} (h : Quiet u) {s : List UInt8} (hs : s ≠ [125] ∧ s ≠ [41]) (rest : List Token) : isS s (u :: rest) = false := by
  rw [← Bool.not_eq_true]
  simp only [M.isS, Bool.and_eq_true, decide_eq_true_eq]
  intro hf
  rcases h with h | ⟨_, h⟩
  · rw [h] at hf; exact absurd hf.1 (by decide)
  · rcases h with h | h <;> rw [h] at hf
    · exact hs.1 hf.2.symm
    · exact hs.2 hf.2.symm
theorem loop_quiet {u : Token} (h : Quiet u) (n k d : Nat) (a : Int) (rest : List Token) (out : List Node) : loopS (n + 1) k d a (u :: rest) out = .ok a (u :: rest) out := by
  simp only [loopS]
  by_cases h4 : u.Kind = 4
  · rw [if_pos h4, op_quiet h h4]
  · rw [if_neg h4]
def okOr {α : Type} (p : PR α) (a : α) (ts : List Token) (o : List Node) : Prop := p = .ok a ts o ∨ p = .er 6
theorem brk {u : Token} (hu : Quiet u) {N d : Nat} {T rest : List Token} {out o : List Node} {a : Int} (h : okOr (exprS N (d + 1) T out) a (rpT :: u :: rest) o) : okOr (exprS (N + 10) d (lpT :: T) out) a (u :: rest) o := by
  have hp : okOr (primS (N + 1) d (lpT :: T) out) a (u :: rest) o := by
    have e : primS (N + 1) d (lpT :: T) out = if 64 ≤ d then .er 6 else (exprS N (d + 1) T out).bind fun a ts out => needS [41] ts fun ts => .ok a ts out := by
      simp [primS, lpT, M.isS, openS]
    rw [e]
    by_cases hd : 64 ≤ d
    · rw [if_pos hd]; exact .inr rfl
    · rw [if_neg hd]
      rcases h with h | h
      · rw [h]; exact .inl rfl
      · rw [h]; exact .inr rfl
  have hpo : okOr (postS (N + 2) d (lpT :: T) out) a (u :: rest) o := by
    simp only [postS]
    rcases hp with h | h
    · rw [h]
      left
      simp only [PR.bind, postL]
      rw [hu.isS (by decide)]
      rfl
    · rw [h]; exact .inr rfl
  have hun : okOr (unS (N + 3) d (lpT :: T) out) a (u :: rest) o := by
    have e : unS (N + 3) d (lpT :: T) out = postS (N + 2) d (lpT :: T) out := by simp [unS, lpT, M.isS]
    rw [e]
    exact hpo
  have h5 : okOr (chainS (N + 4) 5 d (lpT :: T) out) a (u :: rest) o := by
    simp only [chainS]
    exact hun
  have up : ∀ m k, k ≠ 5 → okOr (chainS (m + 1) (k + 1) d (lpT :: T) out) a (u :: rest) o → okOr (chainS (m + 2) k d (lpT :: T) out) a (u :: rest) o := by
    intro m k hk h
    rw [chainS, if_neg hk]
    rcases h with h | h
    · rw [h]
      left
      simp only [PR.bind]
      exact loop_quiet hu _ _ _ _ _ _
    · rw [h]; exact .inr rfl
  have h0 := up _ 0 (by decide) (up _ 1 (by decide) (up _ 2 (by decide) (up _ 3 (by decide) (up _ 4 (by decide) h5))))
  simp only [exprS]
  rcases h0 with h | h
  · rw [h]
    left
    simp only [PR.bind]
    rw [hu.isS (by decide)]
    rfl
  · rw [h]; exact .inr rfl
/-! ### What stands alone, in brackets, as an attribute. -/
def tn (s : List UInt8) : Token := ⟨3, s, 0, [], 0⟩
def tg (s : List UInt8) : Token := ⟨4, s, 0, [], 0⟩
end Go.Proofs.YtfbcnpbhhooapaaGreatDoor.M

/- Lex: texts put together: their tokens (places left out). -/
namespace Go.Proofs.YtfbcnpbhhooapaaGreatDoor.M
set_option linter.unusedSimpArgs false
set_option linter.unusedVariables false
open Go Classical
theorem takeWhile_app {p : UInt8 → Bool} {w R : List UInt8} (h : ∀ x ∈ w, p x = true) (hR : ∀ c, R.head? = some c → p c = false) : (w ++ R).takeWhile p = w := by
  cases R with
  | nil => rw [List.append_nil]; exact takeWhile_all p w h
  | cons c R => exact takeWhile_stop p w c R h (hR c rfl)
def headOk (R0 R : List UInt8) : Prop := R.head? = R0.head? ∨ R.head? = some 32 ∨ R.head? = some 10 ∨ R.head? = some 35
theorem head_dropWhile (p : UInt8 → Bool) : ∀ (l : List UInt8) (c : UInt8), (l.dropWhile p).head? = some c → p c = false
  | [], c, h => by cases h
  | a :: l, c, h => by
    rw [List.dropWhile_cons] at h
    split at h
    · exact head_dropWhile p l c h
    · rename_i hp
      obtain rfl := Option.some.inj h
      simpa using hp
theorem headOk_stop {cl : List Int} (h32 : inC cl 32 = false) (h10 : inC cl 10 = false) (h35 : inC cl 35 = false) {l R : List UInt8} (h : headOk (l.dropWhile (inC cl)) R) : ∀ c, R.head? = some c → inC cl c = false := by
  intro c hc
  rcases h with h | h | h | h
  · exact head_dropWhile _ l c (h ▸ hc)
  all_goals (rw [h] at hc; obtain rfl := Option.some.inj hc; assumption)
theorem refS_of {x y v : List UInt8} (hx : nameS x = true) (hy : nameS y = true) : refS (x ++ 46 :: (y ++ 125 :: v)) = (x ++ 46 :: y, true) := by
  have h125 : (125 : UInt8) ∉ x ++ 46 :: y := by
    intro h
    rcases List.mem_append.1 h with h | h
    · have := name_in hx _ h; rw [in125] at this; cases this
    · rcases List.mem_cons.1 h with h | h
      · exact absurd h (by decide)
      · have := name_in hy _ h; rw [in125] at this; cases this
  have h46 : (46 : UInt8) ∉ x := by
    intro h
    have := name_in hx _ h; rw [in46] at this; cases this
  have e : x ++ 46 :: (y ++ 125 :: v) = (x ++ 46 :: y) ++ 125 :: v := by simp
  unfold refS dottedS
  rw [e, cut_split 125 _ _ h125]
  simp only
  rw [cut_split 46 _ _ h46]
  simp [hx, hy]
theorem Qx_stable {t : List UInt8} {l : List Part} {b : List UInt8} {r : Option (List Part × Nat)} (h : Qx t l b r) : ∀ q, r = some q → ∀ R, Qx (t.take q.2 ++ R) l b (some q) := by
  induction h with
  | nil | low | esc0 | escbad | refbad => intro q hq; cases hq
  | shut t l b => intro q hq R; obtain rfl := Option.some.inj hq; exact .shut R l b
  | esc x y t l b r hx _ ih =>
    intro q hq R
    obtain ⟨q0, h0, rfl⟩ := Option.map_eq_some_iff.1 hq
    have := Qx.esc x y _ l b _ hx (ih q0 h0 R)
    exact this
  | ref t l b r hr _ ih =>
    intro q hq R
    obtain ⟨q0, h0, rfl⟩ := Option.map_eq_some_iff.1 hq
    obtain ⟨x, y, v, e1, hx, hy, e2⟩ := ref_split hr
    have hv : t.drop ((refS t).1.length + 1) = v := by
      rw [e2, e1, show x ++ 46 :: (y ++ 125 :: v) = (x ++ 46 :: y) ++ 125 :: v by simp]
      exact drop_mid 125 _ v
    have ih := ih q0 h0 R
    rw [hv] at ih
    have hlen : (x ++ 46 :: y).length = (refS t).1.length := by rw [e2]
    have et : t.take (q0.2 + (1 + (refS t).1.length)) = (x ++ 46 :: y) ++ 125 :: v.take q0.2 := by
      rw [← hlen, e1, show x ++ 46 :: (y ++ 125 :: v) = (x ++ 46 :: y) ++ 125 :: v by simp]
      generalize x ++ 46 :: y = z
      rw [List.take_append, List.take_of_length_le (by omega), show q0.2 + (1 + z.length) - z.length = q0.2 + 1 by omega]
      rfl
    show Qx ((36 :: 123 :: t).take (q0.2 + (3 + (refS t).1.length)) ++ R) l b _
    rw [show q0.2 + (3 + (refS t).1.length) = (q0.2 + (1 + (refS t).1.length)) + 1 + 1 by omega, List.take_succ_cons, List.take_succ_cons, et]
    have hS : refS (x ++ 46 :: (y ++ 125 :: (v.take q0.2 ++ R))) = (x ++ 46 :: y, true) := refS_of hx hy
    have key := Qx.ref (x ++ 46 :: (y ++ 125 :: (v.take q0.2 ++ R))) l b (some q0) (by rw [hS]) (by
      rw [hS]
      simp only
      rw [show x ++ 46 :: (y ++ 125 :: (v.take q0.2 ++ R)) = (x ++ 46 :: y) ++ 125 :: (v.take q0.2 ++ R) by simp, drop_mid, ← e2]
      exact ih)
    rw [hS] at key
    simp only [Option.map_some] at key
    rw [hlen] at key
    have e4 : (36 :: 123 :: ((x ++ 46 :: y) ++ 125 :: v.take q0.2)) ++ R = 36 :: 123 :: (x ++ 46 :: (y ++ 125 :: (v.take q0.2 ++ R))) := by simp
    rw [e4]
    rw [show q0.2 + (1 + (refS t).1.length) + 1 + 1 = q0.2 + (3 + (refS t).1.length) by omega]
    exact key
  | plain c t l b r c1 c2 c3 c4 hq0 ih =>
    intro q hq R
    obtain ⟨q0, h0, rfl⟩ := Option.map_eq_some_iff.1 hq
    have hpos := Qx_len hq0 q0 h0
    have hh : (t.take q0.2 ++ R).head? = t.head? := by
      cases t with
      | nil => simp at hpos; omega
      | cons a t =>
        obtain ⟨m, hm⟩ : ∃ m, q0.2 = m + 1 := ⟨q0.2 - 1, by omega⟩
        rw [hm, List.take_succ_cons]
        rfl
    have := Qx.plain c _ l b _ c1 c2 c3 (fun e => by rw [hh]; exact c4 e) (ih q0 h0 R)
    exact this
theorem twos_second {a b : UInt8} (h : [a, b] ∈ twos) : b = 61 ∨ b = 38 ∨ b = 124 := by
  simp only [twos, List.mem_cons, List.cons.injEq, and_true, List.not_mem_nil, or_false] at h
  rcases h with h | h | h | h | h | h <;> simp [h.2]
theorem sign_sep {c r : UInt8} (R : List UInt8) (h : r = 32 ∨ r = 10 ∨ r = 35) : signS (c :: r :: R) = sign1 c := by
  rw [signS, sign2, if_neg]
  intro e
  have := twos_second e
  rcases h with rfl | rfl | rfl <;> simp at this
theorem Tok_stable {z : List UInt8} {x : Token} {n : Nat} (h : Tok z (some (x, n))) (R : List UInt8) (hR : headOk (z.drop n) R) : Tok (z.take n ++ R) (some (x, n)) := by
  obtain ⟨r, hr⟩ : ∃ r, r = some (x, n) := ⟨_, rfl⟩
  rw [← hr] at h
  cases h with
  | name c u h =>
    split at hr
    · rename_i h24
      obtain ⟨rfl, rfl⟩ := Prod.mk.inj (Option.some.inj hr)
      have hd : (c :: u).drop (spanS [2, 3] (c :: u)) = (c :: u).dropWhile (inC [2, 3]) := drop_while_len _ _
      have ht : (c :: u).take (spanS [2, 3] (c :: u)) = (c :: u).takeWhile (inC [2, 3]) := take_while_len _ _
      rw [hd] at hR
      have hst := headOk_stop (by decide) (by decide) (by decide) hR
      have hc : inC [2, 3] c = true := (inC23 c).2 (.inl h)
      have hw : ((c :: u).takeWhile (inC [2, 3]) ++ R).takeWhile (inC [2, 3]) = (c :: u).takeWhile (inC [2, 3]) := takeWhile_app (fun y hy => List.all_eq_true.1 List.all_takeWhile y hy) hst
      rw [ht]
      obtain ⟨w, ew⟩ : ∃ w, (c :: u).takeWhile (inC [2, 3]) = c :: w := ⟨_, by rw [List.takeWhile_cons, if_pos hc]⟩
      have key := Tok.name c (w ++ R) h
      rw [← List.cons_append, ← ew, hw, if_pos h24] at key
      unfold spanS at key ⊢
      rw [hw] at key
      exact key
    · cases hr
  | num c u h =>
    have hd : (c :: u).drop (spanS [3] (c :: u)) = (c :: u).dropWhile (inC [3]) := drop_while_len _ _
    have ht : (c :: u).take (spanS [3] (c :: u)) = (c :: u).takeWhile (inC [3]) := take_while_len _ _
    have hr0 := hr
    unfold numS at hr
    split at hr
    · rename_i hok
      obtain ⟨rfl, rfl⟩ := Prod.mk.inj (Option.some.inj hr)
      unfold spanS at hd ht
      rw [hd] at hR
      have hst := headOk_stop (by decide) (by decide) (by decide) hR
      have hc : inC [3] c = true := by unfold inC; simp [h]
      have hw : ((c :: u).takeWhile (inC [3]) ++ R).takeWhile (inC [3]) = (c :: u).takeWhile (inC [3]) := takeWhile_app (fun y hy => List.all_eq_true.1 List.all_takeWhile y hy) hst
      rw [ht]
      obtain ⟨w, ew⟩ : ∃ w, (c :: u).takeWhile (inC [3]) = c :: w := ⟨_, by rw [List.takeWhile_cons, if_pos hc]⟩
      have key := Tok.num c (w ++ R) h
      unfold numS at key
      rw [← List.cons_append, ← ew, hw, if_pos hok] at key
      exact key
    · cases hr
  | text u q h =>
    obtain ⟨q0, h0, e⟩ := Option.map_eq_some_iff.1 hr
    obtain ⟨rfl, rfl⟩ := Prod.mk.inj e
    have key := Tok.text _ _ (Qx_stable h q0 h0 R)
    exact key
  | sign c u h2 h3 h4 =>
    split at hr
    · cases hr
    · rename_i hne
      obtain ⟨rfl, rfl⟩ := Prod.mk.inj (Option.some.inj hr)
      have goal : ∀ R', (c :: u).take (signS (c :: u)).length ++ R = c :: R' → signS (c :: R') = signS (c :: u) → Tok ((c :: u).take (signS (c :: u)).length ++ R) (some (Token.mk 4 (signS (c :: u)) 0 [] 0, (signS (c :: u)).length)) := by
        intro R' e1 e2
        have key := Tok.sign c R' h2 h3 h4
        rw [e2, if_neg hne] at key
        rw [e1]
        exact key
      have one : sign1 c ≠ [] → sign1 c = [c] := by
        intro h
        unfold sign1 at h ⊢
        split
        · rfl
        · rename_i hn; rw [if_neg hn] at h; exact absurd rfl h
      cases u with
      | nil =>
        have e1 : signS [c] = [c] := one hne
        refine goal R (by rw [e1]; rfl) ?_
        rw [e1] at hR
        cases R with
        | nil => rfl
        | cons r R =>
          have hs : r = 32 ∨ r = 10 ∨ r = 35 := by
            rcases hR with h | h | h | h
            · cases h
            all_goals (have := Option.some.inj h; simp [this])
          rw [sign_sep R hs]
          rfl
      | cons b u =>
        by_cases h2 : [c, b] ∈ twos
        · have e1 : signS (c :: b :: u) = [c, b] := by rw [signS, sign2, if_pos h2]
          refine goal (b :: R) (by rw [e1]; rfl) ?_
          rw [e1, signS, sign2, if_pos h2]
        · have e0 : signS (c :: b :: u) = sign1 c := by rw [signS, sign2, if_neg h2]
          have e1 : signS (c :: b :: u) = [c] := by rw [e0]; exact one (e0 ▸ hne)
          refine goal R (by rw [e1]; rfl) ?_
          rw [e1] at hR
          cases R with
          | nil =>
            rcases hR with h | h | h | h <;> cases h
          | cons r R =>
            rcases hR with h | h | h | h
            · have hb : r = b := Option.some.inj h
              rw [hb, e0, signS, sign2, if_neg h2]
            all_goals (rw [sign_sep R (by have := Option.some.inj h; simp [this]), e0])
/-- What a text's tokens are, their places left out. -/
def Lxs (t : List UInt8) (L : List Token) : Prop := ∀ p, ∃ L0, Lx t p (some L0) ∧ L0.map σ = L
def eT : Token := ⟨0, [], 0, [], 0⟩
theorem Lxs_nil : Lxs [] [eT] := fun p => ⟨_, .nil p, rfl⟩
theorem Lxs_gap {c : UInt8} (hc : clsS c = 1) {t : List UInt8} {L : List Token} (h : Lxs t L) : Lxs (c :: t) L := fun p => by
  obtain ⟨L0, h1, h2⟩ := h (p + 1)
  exact ⟨L0, .gap c t p _ hc h1, h2⟩
theorem Lxs_tok1 {c : UInt8} {t : List UInt8} {x : Token} {n : Nat} (h1 : clsS c ≠ 1) (h2 : clsS c ≠ 5) (hk : Tok (c :: t) (some (x, n))) {L : List Token} (h : Lxs ((c :: t).drop n) L) : Lxs (c :: t) (σ x :: L) := fun p => by
  obtain ⟨L0, h3, h4⟩ := h (p + n)
  refine ⟨_, .tok c t p x n _ h1 h2 hk h3, ?_⟩
  rw [List.map_cons, h4]
  rfl
theorem Lxs_tok {w : List UInt8} {x : Token} (hs : stands w) (hk : Tok w (some (x, w.length))) {R : List UInt8} (hR : headOk [] R) {L : List Token} (h : Lxs R L) : Lxs (w ++ R) (σ x :: L) := by
  have h1 := Tok_stable hk R (by rw [List.drop_length]; exact hR)
  rw [List.take_length] at h1
  cases w with
  | nil => cases hk
  | cons c u =>
    have h2 : Lxs ((c :: u ++ R).drop (c :: u).length) L := by rw [List.drop_left]; exact h
    exact Lxs_tok1 hs.1 hs.2 h1 h2
theorem Lxs_sign {c : UInt8} (h1 : clsS c ≠ 1) (h2 : clsS c ≠ 5) (h3 : clsS c ≠ 2) (h4 : clsS c ≠ 3) (h5 : clsS c ≠ 4) (h6 : ∀ b, [c, b] ∉ twos) (h7 : sign1 c = [c]) {t : List UInt8} {L : List Token} (h : Lxs t L) : Lxs (c :: t) (tg [c] :: L) := by
  have e : signS (c :: t) = [c] := by
    cases t with
    | nil => exact h7
    | cons b t => rw [signS, sign2, if_neg (h6 b), h7]
  have hk := Tok.sign c t h3 h4 h5
  rw [e, if_neg (by simp)] at hk
  exact Lxs_tok1 h1 h2 hk h
/-! ### parse.Parse and parse.Expr of a text whose tokens are known -/
theorem r_ParseX {s : List UInt8} (hs : s.length ≤ 6000) {L : List Token} (h : Lxs s L) : match confT labelS L with
    | .ok l _ _ => R_parse_Parse s l 0
    | .er e => e ≠ 0 → R_parse_Parse s [] e
    | .no => False := by
  obtain ⟨L0, h1, h2⟩ := h 0
  obtain ⟨g1, g2, g3⟩ := Lx_good h1 L0 rfl
  have hT : TL L0 := ⟨by omega, fun t ht => by have := (g3 t ht).1; omega, fun t ht p hp => by have := (g3 t ht).2 p hp; omega⟩
  have hx : R_lex_Lex s L0 0 := r_Lex hs h1
  have key := r_ParseT hx hT g1 r_lexLabel
  rw [← h2, confT_σ]
  cases hc : confT labelS L0 with
  | ok l ts out => rw [hc] at key; exact key
  | er e => rw [hc] at key; exact key
  | no => rw [hc] at key; exact key
theorem r_ParseXok {s : List UInt8} (hs : s.length ≤ 6000) {L : List Token} (h : Lxs s L) {l : List Block} {ts : List Token} {o : List Node} (hc : confT labelS L = .ok l ts o) : R_parse_Parse s l 0 := by
  have := r_ParseX hs h
  rw [hc] at this
  exact this
theorem r_ParseXer {s : List UInt8} (hs : s.length ≤ 6000) {L : List Token} (h : Lxs s L) {e : Int} (hc : confT labelS L = .er e) (he : e ≠ 0) : R_parse_Parse s [] e := by
  have := r_ParseX hs h
  rw [hc] at this
  exact this he
/-! ### Brackets, an attribute: their tokens -/
theorem Lxs_lb {t : List UInt8} {L : List Token} (h : Lxs t L) : Lxs (123 :: t) (tg [123] :: L) := Lxs_sign (by decide) (by decide) (by decide) (by decide) (by decide) (by simp [twos]) (by decide) h
theorem Lxs_rb {t : List UInt8} {L : List Token} (h : Lxs t L) : Lxs (125 :: t) (tg [125] :: L) := Lxs_sign (by decide) (by decide) (by decide) (by decide) (by decide) (by simp [twos]) (by decide) h
/-- A name that ends where a blank stands. -/
theorem Lxs_name {c : UInt8} {u : List UInt8} (h : clsS c = 2) (hu : ∀ y ∈ u, inC [2, 3] y = true) (hl : u.length < 24) {b : UInt8} (hb : b = 32 ∨ b = 10) {t : List UInt8} {L : List Token} (h' : Lxs t L) : Lxs (c :: (u ++ b :: t)) (tn (c :: u) :: L) := by
  have hc : inC [2, 3] c = true := (inC23 c).2 (.inl h)
  have ht : (c :: u).takeWhile (inC [2, 3]) = c :: u := takeWhile_all _ _ fun y hy => by rcases List.mem_cons.1 hy with rfl | hy; exact hc; exact hu y hy
  have hk := Tok.name c u h
  unfold spanS at hk
  rw [ht, if_pos (by simp; omega)] at hk
  have h1 : Lxs (b :: t) L := Lxs_gap (by rcases hb with rfl | rfl <;> decide) h'
  exact Lxs_tok (w := c :: u) ⟨by rw [h]; decide, by rw [h]; decide⟩ hk (by rcases hb with rfl | rfl; exact .inr (.inl rfl); exact .inr (.inr (.inl rfl))) h1
theorem Lxs_eq {t : List UInt8} {L : List Token} (h : Lxs t L) : Lxs (61 :: 32 :: t) (tg [61] :: L) := by
  have hk := Tok.sign 61 [] (by decide) (by decide) (by decide)
  exact Lxs_tok (w := [61]) ⟨by decide, by decide⟩ hk (.inr (.inl rfl)) (Lxs_gap (by decide) h)
end Go.Proofs.YtfbcnpbhhooapaaGreatDoor.M

/- The machine's code of the functions, printed by a program of this session (sc2.py) out of the translation. Not trusted: Lean checks each by its own computation. -/
namespace Go.Proofs.YtfbcnpbhhooapaaGreatDoor.M
open Go
set_option linter.unusedVariables false
/-- doorkeeper/doorkeeperlaw1.Num -/
def sc_law1_Num : SFunc := ⟨1, 4, .seq (.reg [⟨(some 2), none, (.v (.mov (.c (.int .i64 0))))⟩]) (.seq (.reg [⟨(some 3), none, (.v (.mov (.t 0)))⟩, ⟨(some 2), none, (.v (.mov (.t 3)))⟩]) .ret), [(.t 2)]⟩
theorem U_law1_Num : type_of% (sc_law1_Num.eq_1) := sc_law1_Num.eq_1
theorem comp_law1_Num : comp Tryz.prog Tryz.f18 = some sc_law1_Num := by kernel_rfl
/-- doorkeeper/doorkeeperlaw2.awake -/
def c_law2_awake_1 : SC := .seq (.reg [⟨(some 7), none, (.v (.mov (.t 2)))⟩, ⟨(some 8), none, (.call (.c (.func 18 [])) [(.t 7)])⟩, ⟨(some 9), none, (.v (.bin .eql (.t 8) (.c (.int .i64 0))))⟩, ⟨(some 10), none, (.v (.mov (.t 9)))⟩, ⟨(some 11), (some (10, true)), (.v (.mov (.t 1)))⟩, ⟨(some 12), (some (10, true)), (.v (.len false (.t 11)))⟩, ⟨(some 13), (some (10, true)), (.v (.bin .eql (.t 12) (.c (.int .i64 1))))⟩, ⟨(some 14), none, (.v (.pick (.t 10) (.t 13) (.c (.bool false))))⟩, ⟨(some 15), none, (.v (.mov (.t 14)))⟩, ⟨(some 16), (some (15, true)), (.v (.mov (.t 1)))⟩, ⟨(some 17), (some (15, true)), (.v (.iaddr 4 (.t 16) (.c (.int .i64 0))))⟩, ⟨(some 18), (some (15, true)), (.v (.faddr 0 (.t 17)))⟩, ⟨(some 19), (some (15, true)), (.v (.load none (.t 18)))⟩, ⟨(some 20), (some (15, true)), (.v (.bin .eql (.t 19) (.c (.int .i64 3))))⟩, ⟨(some 21), none, (.v (.pick (.t 15) (.t 20) (.c (.bool false))))⟩, ⟨(some 22), none, (.v (.mov (.t 21)))⟩, ⟨(some 23), (some (22, true)), (.v (.mov (.t 1)))⟩, ⟨(some 24), (some (22, true)), (.v (.iaddr 4 (.t 23) (.c (.int .i64 0))))⟩, ⟨(some 25), (some (22, true)), (.v (.faddr 1 (.t 24)))⟩, ⟨(some 26), (some (22, true)), (.v (.load none (.t 25)))⟩, ⟨(some 27), (some (22, true)), (.v (.bin .eql (.t 26) (.c (.str [97]))))⟩, ⟨(some 28), none, (.v (.pick (.t 22) (.t 27) (.c (.bool false))))⟩, ⟨(some 29), none, (.v (.mov (.t 28)))⟩, ⟨(some 30), (some (29, true)), (.v (.mov (.t 1)))⟩, ⟨(some 31), (some (29, true)), (.v (.iaddr 4 (.t 30) (.c (.int .i64 0))))⟩, ⟨(some 32), (some (29, true)), (.v (.faddr 2 (.t 31)))⟩, ⟨(some 33), (some (29, true)), (.v (.load none (.t 32)))⟩, ⟨(some 34), (some (29, true)), (.v (.len false (.t 33)))⟩, ⟨(some 35), (some (29, true)), (.v (.bin .eql (.t 34) (.c (.int .i64 1))))⟩, ⟨(some 36), none, (.v (.pick (.t 29) (.t 35) (.c (.bool false))))⟩, ⟨(some 0), none, (.v (.mov (.t 36)))⟩]) .ret
def c_law2_awake_2 : SC := .seq (.reg [⟨(some 4), none, (.call (.c (.func 17 [])) [(.c (.str [110, 111, 100, 101, 32, 34, 97, 34, 32, 123, 32, 99, 112, 117, 32, 61, 32, 49, 32, 125]))])⟩, ⟨(some 3), none, (.v (.mov (.t 4)))⟩, ⟨(some 5), none, (.v (.extract 0 (.t 3)))⟩, ⟨(some 6), none, (.v (.extract 1 (.t 3)))⟩, ⟨(some 1), none, (.v (.mov (.t 5)))⟩, ⟨(some 2), none, (.v (.mov (.t 6)))⟩]) c_law2_awake_1
def sc_law2_awake : SFunc := ⟨0, 37, .seq (.reg [⟨(some 0), none, (.v (.mov (.c (.bool false))))⟩]) c_law2_awake_2, [(.t 0)]⟩
theorem U_law2_awake : type_of% (And.intro (fun (SP : Prg) (ac : Ac) => congrFun (congrArg (E SP) c_law2_awake_1.eq_1) ac) <| And.intro (fun (SP : Prg) (ac : Ac) => congrFun (congrArg (E SP) c_law2_awake_2.eq_1) ac) <| sc_law2_awake.eq_1) := And.intro (fun (SP : Prg) (ac : Ac) => congrFun (congrArg (E SP) c_law2_awake_1.eq_1) ac) <| And.intro (fun (SP : Prg) (ac : Ac) => congrFun (congrArg (E SP) c_law2_awake_2.eq_1) ac) <| sc_law2_awake.eq_1
theorem comp_law2_awake : comp Tryz.prog Tryz.f15 = some sc_law2_awake := by kernel_rfl
end Go.Proofs.YtfbcnpbhhooapaaGreatDoor.M

/- Trees of functions, printed by a program of this session (lift.py): what a run asks, over plain data. Lean proves each. -/
namespace Go.Proofs.YtfbcnpbhhooapaaGreatDoor.M
set_option linter.unusedSimpArgs false
set_option linter.unusedVariables false
open Go Classical
theorem sp_law1_Num : SP 18 = some (.code sc_law1_Num) := SPof_code rfl Tryz.func18 comp_law1_Num
/-! doorkeeper/doorkeeperlaw1.Num -/
set_option maxHeartbeats 4000000 in
theorem law1_Num_tree (e_ : Int) (r : Int) (T :
  e_ = r) : R_law1_Num e_ r := by
 intro S
 rw [call_code sp_law1_Num _ _ rfl]
 have F := U_law1_Num
 obtain rfl := T
 exact fi F
theorem sp_law2_awake : SP 15 = some (.code sc_law2_awake) := SPof_code rfl Tryz.func15 comp_law2_awake
/-! doorkeeper/doorkeeperlaw2.awake -/
set_option maxHeartbeats 4000000 in
theorem law2_awake_tree  (r : Bool) (T :
  ∃ (r1 : List Block) (r2 : Int), (R_parse_Parse [110, 111, 100, 101, 32, 34, 97, 34, 32, 123, 32, 99, 112, 117, 32, 61, 32, 49, 32, 125] r1 r2) ∧
 ∃ (r3 : Int), (R_law1_Num r2 r3) ∧
 ((r3 = 0) →
  (((r1.length : Int) = 1) →
   ∃ (v4 : Block), (r1[0]? = some v4) ∧
   ((v4.Kind = 3) →
    ((v4.Label = [97]) →
     (decide ((v4.Attrs.length : Int) = 1)) = r) ∧
    (¬ (v4.Label = [97]) →
     false = r)) ∧
   (¬ (v4.Kind = 3) →
    false = r)) ∧
  (¬ ((r1.length : Int) = 1) →
   false = r)) ∧
 (¬ (r3 = 0) →
  false = r)) : R_law2_awake  r := by
 intro S
 rw [call_code sp_law2_awake _ _ rfl]
 have F := U_law2_awake
 obtain ⟨r1, r2, q1, r3, q2, T⟩ := T
 simp only [R_parse_Parse, le, List.cons_append, List.nil_append] at q1
 simp only [R_law1_Num, le, List.cons_append, List.nil_append] at q2
 replace F := aa q1 <| aa q2 <| F
 by_cases c3 : r3 = 0
 · replace T := T.1 c3
   replace F := aa (eq_true c3) <| F
   by_cases c4 : (r1.length : Int) = 1
   · replace T := T.1 c4
     obtain ⟨v4, q5, T⟩ := T
     replace F := aa (eq_true c4) <| aa q5 <| F
     by_cases c6 : v4.Kind = 3
     · replace T := T.1 c6
       replace F := aa (eq_true c6) <| F
       by_cases c7 : v4.Label = [97]
       · replace T := T.1 c7
         obtain rfl := T
         exact fi (aa (eq_true c7) <| F)
       · replace T := T.2 c7
         obtain rfl := T
         exact fi (aa (eq_false c7) <| F)
     · replace T := T.2 c6
       obtain rfl := T
       exact fi (aa (eq_false c6) <| F)
   · replace T := T.2 c4
     obtain rfl := T
     exact fi (aa (eq_false c4) <| F)
 · replace T := T.2 c3
   obtain rfl := T
   exact fi (aa (eq_false c3) <| F)
/-! doorkeeper/doorkeeperlaw2.ParseRefuses -/
end Go.Proofs.YtfbcnpbhhooapaaGreatDoor.M

/- Parse: the law ParseRefuses. -/
namespace Go.Proofs.YtfbcnpbhhooapaaGreatDoor.M
set_option linter.unusedSimpArgs false
set_option linter.unusedVariables false
open Go Classical
theorem r_Num1 (e : Int) : R_law1_Num e e := law1_Num_tree _ _ rfl
theorem r_awake2 : R_law2_awake true := by
  have h := r_Parse_ok (s := [110, 111, 100, 101, 32, 34, 97, 34, 32, 123, 32, 99, 112, 117, 32, 61, 32, 49, 32, 125]) (l := [⟨3, [97], [⟨[99, 112, 117], [⟨1, 1, [], [], []⟩]⟩], []⟩]) (ts := [⟨0, [], 0, [], 20⟩]) (out := []) (by decide) (by kernel_rfl)
  exact law2_awake_tree _ ⟨_, _, h, _, r_Num1 _, fun _ => ⟨fun _ => ⟨_, rfl, fun _ => ⟨fun _ => rfl, fun hf => absurd rfl hf⟩, fun hf => absurd rfl hf⟩, fun hf => absurd rfl hf⟩, fun hf => absurd rfl hf⟩
end Go.Proofs.YtfbcnpbhhooapaaGreatDoor.M

/- The machine's code of the functions, printed by a program of this session (sc2.py) out of the translation. Not trusted: Lean checks each by its own computation. -/
namespace Go.Proofs.YtfbcnpbhhooapaaGreatDoor.M
open Go
set_option linter.unusedVariables false
/-- doorkeeper/doorkeeperref1.Ints -/
def c_ref1_Ints_1 : SC := .seq (.reg [⟨(some 4), none, (.v (.mov (.c (.bool true))))⟩]) .ret
def b_ref1_Ints_1 : SC := .seq (.seq (.reg [⟨(some 11), none, (.v (.mov (.t 5)))⟩, ⟨(some 12), none, (.v (.mov (.t 0)))⟩, ⟨(some 13), none, (.v (.len false (.t 12)))⟩, ⟨(some 14), none, (.v (.bin .lss (.t 11) (.t 13)))⟩]) (.cond (.t 14) .skip (.exit 0))) (.seq (.block 1 (.seq (.dreg [⟨(some 17), none, (.v (.mov (.t 0)))⟩, ⟨(some 18), none, (.v (.mov (.t 5)))⟩, ⟨(some 19), none, (.v (.iaddr 1 (.t 17) (.t 18)))⟩, ⟨(some 20), none, (.v (.load none (.t 19)))⟩, ⟨(some 21), none, (.v (.mov (.t 1)))⟩, ⟨(some 22), none, (.v (.mov (.t 5)))⟩, ⟨(some 23), none, (.v (.iaddr 1 (.t 21) (.t 22)))⟩, ⟨(some 24), none, (.v (.load none (.t 23)))⟩, ⟨(some 25), none, (.v (.bin .neq (.t 20) (.t 24)))⟩] [false, false, false, false, false, false, false, false, true]) (.cond (.t 25) (.seq (.reg [⟨(some 4), none, (.v (.mov (.c (.bool false))))⟩]) .ret) .skip))) (.reg [⟨(some 15), none, (.v (.mov (.t 5)))⟩, ⟨(some 16), none, (.v (.bin .add (.t 15) (.c (.int .i64 1))))⟩, ⟨(some 5), none, (.v (.mov (.t 16)))⟩]))
def c_ref1_Ints_2 : SC := .seq (.seq (.reg [⟨(some 6), none, (.v (.mov (.t 0)))⟩, ⟨(some 7), none, (.v (.len false (.t 6)))⟩, ⟨(some 8), none, (.v (.mov (.t 1)))⟩, ⟨(some 9), none, (.v (.len false (.t 8)))⟩, ⟨(some 10), none, (.v (.bin .neq (.t 7) (.t 9)))⟩]) (.cond (.t 10) (.seq (.reg [⟨(some 4), none, (.v (.mov (.c (.bool false))))⟩]) .ret) .skip)) (.seq (.seq (.reg [⟨(some 5), none, (.v (.mov (.c (.int .i64 0))))⟩]) (.block 0 (.loop b_ref1_Ints_1))) c_ref1_Ints_1)
def sc_ref1_Ints : SFunc := ⟨2, 26, .seq (.reg [⟨(some 4), none, (.v (.mov (.c (.bool false))))⟩]) c_ref1_Ints_2, [(.t 4)]⟩
noncomputable def k_ref1_Ints_1 (SP : Prg) (x : EO) : CO := fin [(.t 4)] (thC SP (inBlk 0 (x)) c_ref1_Ints_1)
theorem U_ref1_Ints : type_of% (And.intro (fun (SP : Prg) (ac : Ac) => congrFun (congrArg (E SP) c_ref1_Ints_1.eq_1) ac) <| And.intro (fun (SP : Prg) (ac : Ac) => congrFun (congrArg (E SP) b_ref1_Ints_1.eq_1) ac) <| And.intro (fun (SP : Prg) (ac : Ac) => congrFun (congrArg (E SP) c_ref1_Ints_2.eq_1) ac) <| sc_ref1_Ints.eq_1) := And.intro (fun (SP : Prg) (ac : Ac) => congrFun (congrArg (E SP) c_ref1_Ints_1.eq_1) ac) <| And.intro (fun (SP : Prg) (ac : Ac) => congrFun (congrArg (E SP) b_ref1_Ints_1.eq_1) ac) <| And.intro (fun (SP : Prg) (ac : Ac) => congrFun (congrArg (E SP) c_ref1_Ints_2.eq_1) ac) <| sc_ref1_Ints.eq_1
theorem comp_ref1_Ints : comp Tryz.prog Tryz.f44 = some sc_ref1_Ints := by kernel_rfl
/-- doorkeeper/doorkeeperref1.SameNodes -/
def c_ref1_SameNodes_1 : SC := .seq (.reg [⟨(some 4), none, (.v (.mov (.c (.bool true))))⟩]) .ret
def c_ref1_SameNodes_2 : SC := .reg [⟨(some 17), none, (.v (.mov (.t 5)))⟩, ⟨(some 18), none, (.v (.bin .add (.t 17) (.c (.int .i64 1))))⟩, ⟨(some 5), none, (.v (.mov (.t 18)))⟩]
def c_ref1_SameNodes_3 : SC := .cond (.t 61) (.seq (.reg [⟨(some 4), none, (.v (.mov (.c (.bool false))))⟩]) .ret) .skip
def c_ref1_SameNodes_4 : SC := .seq (.reg [⟨(some 27), none, (.v (.faddr 0 (.t 6)))⟩, ⟨(some 28), none, (.v (.load none (.t 27)))⟩, ⟨(some 29), none, (.v (.faddr 0 (.t 7)))⟩, ⟨(some 30), none, (.v (.load none (.t 29)))⟩, ⟨(some 31), none, (.v (.bin .neq (.t 28) (.t 30)))⟩, ⟨(some 32), none, (.v (.mov (.t 31)))⟩, ⟨(some 33), (some (32, false)), (.v (.faddr 1 (.t 6)))⟩, ⟨(some 34), (some (32, false)), (.v (.load none (.t 33)))⟩, ⟨(some 35), (some (32, false)), (.v (.faddr 1 (.t 7)))⟩, ⟨(some 36), (some (32, false)), (.v (.load none (.t 35)))⟩, ⟨(some 37), (some (32, false)), (.v (.bin .neq (.t 34) (.t 36)))⟩, ⟨(some 38), none, (.v (.pick (.t 32) (.c (.bool true)) (.t 37)))⟩, ⟨(some 39), none, (.v (.mov (.t 38)))⟩, ⟨(some 40), (some (39, false)), (.v (.faddr 2 (.t 6)))⟩, ⟨(some 41), (some (39, false)), (.v (.load none (.t 40)))⟩, ⟨(some 42), (some (39, false)), (.v (.faddr 2 (.t 7)))⟩, ⟨(some 43), (some (39, false)), (.v (.load none (.t 42)))⟩, ⟨(some 44), (some (39, false)), (.v (.bin .neq (.t 41) (.t 43)))⟩, ⟨(some 45), none, (.v (.pick (.t 39) (.c (.bool true)) (.t 44)))⟩, ⟨(some 46), none, (.v (.mov (.t 45)))⟩, ⟨(some 47), (some (46, false)), (.v (.faddr 3 (.t 6)))⟩, ⟨(some 48), (some (46, false)), (.v (.load none (.t 47)))⟩, ⟨(some 49), (some (46, false)), (.v (.faddr 3 (.t 7)))⟩, ⟨(some 50), (some (46, false)), (.v (.load none (.t 49)))⟩, ⟨(some 51), (some (46, false)), (.call (.c (.func 43 [])) [(.t 48), (.t 50)])⟩, ⟨(some 52), (some (46, false)), (.v (.un .not (.t 51)))⟩, ⟨(some 53), none, (.v (.pick (.t 46) (.c (.bool true)) (.t 52)))⟩, ⟨(some 54), none, (.v (.mov (.t 53)))⟩, ⟨(some 55), (some (54, false)), (.v (.faddr 4 (.t 6)))⟩, ⟨(some 56), (some (54, false)), (.v (.load none (.t 55)))⟩, ⟨(some 57), (some (54, false)), (.v (.faddr 4 (.t 7)))⟩, ⟨(some 58), (some (54, false)), (.v (.load none (.t 57)))⟩, ⟨(some 59), (some (54, false)), (.call (.c (.func 44 [])) [(.t 56), (.t 58)])⟩, ⟨(some 60), (some (54, false)), (.v (.un .not (.t 59)))⟩, ⟨(some 61), none, (.v (.pick (.t 54) (.c (.bool true)) (.t 60)))⟩]) c_ref1_SameNodes_3
def c_ref1_SameNodes_5 : SC := .seq (.block 1 (.seq (.sreg [0, 5, 1] [⟨(some 19), none, (.v (.mov (.t 0)))⟩, ⟨(some 20), none, (.v (.mov (.t 5)))⟩, ⟨(some 21), none, (.w (.iaddr 5 (.t 19) (.t 20)))⟩, ⟨(some 22), none, (.w (.load (some 5) (.t 21)))⟩, ⟨(some 23), none, (.v (.mov (.t 1)))⟩, ⟨(some 24), none, (.v (.mov (.t 5)))⟩, ⟨(some 25), none, (.w (.iaddr 5 (.t 23) (.t 24)))⟩, ⟨(some 26), none, (.w (.load (some 5) (.t 25)))⟩, ⟨(some 6), none, (.alloc [(.int .i64 0), (.int .i64 0), (.str []), (.nils 2), (.nils 1)])⟩, ⟨(some 7), none, (.alloc [(.int .i64 0), (.int .i64 0), (.str []), (.nils 2), (.nils 1)])⟩, ⟨none, none, (.store 5 (.t 6) (.t 22))⟩, ⟨none, none, (.store 5 (.t 7) (.t 26))⟩] [false, false, false, false, false, false, false, false, false, false, true, true]) c_ref1_SameNodes_4)) c_ref1_SameNodes_2
def b_ref1_SameNodes_1 : SC := .seq (.seq (.reg [⟨(some 13), none, (.v (.mov (.t 5)))⟩, ⟨(some 14), none, (.v (.mov (.t 0)))⟩, ⟨(some 15), none, (.v (.len false (.t 14)))⟩, ⟨(some 16), none, (.v (.bin .lss (.t 13) (.t 15)))⟩]) (.cond (.t 16) .skip (.exit 0))) c_ref1_SameNodes_5
def c_ref1_SameNodes_6 : SC := .block 0 (.loop b_ref1_SameNodes_1)
def c_ref1_SameNodes_7 : SC := .seq (.seq (.reg [⟨(some 5), none, (.v (.mov (.c (.int .i64 0))))⟩]) c_ref1_SameNodes_6) c_ref1_SameNodes_1
def c_ref1_SameNodes_8 : SC := .seq (.seq (.reg [⟨(some 8), none, (.v (.mov (.t 0)))⟩, ⟨(some 9), none, (.v (.len false (.t 8)))⟩, ⟨(some 10), none, (.v (.mov (.t 1)))⟩, ⟨(some 11), none, (.v (.len false (.t 10)))⟩, ⟨(some 12), none, (.v (.bin .neq (.t 9) (.t 11)))⟩]) (.cond (.t 12) (.seq (.reg [⟨(some 4), none, (.v (.mov (.c (.bool false))))⟩]) .ret) .skip)) c_ref1_SameNodes_7
def sc_ref1_SameNodes : SFunc := ⟨2, 62, .seq (.reg [⟨(some 4), none, (.v (.mov (.c (.bool false))))⟩]) c_ref1_SameNodes_8, [(.t 4)]⟩
noncomputable def k_ref1_SameNodes_1 (SP : Prg) (x : EO) : CO := fin [(.t 4)] (thC SP (inBlk 0 (x)) c_ref1_SameNodes_1)
theorem U_ref1_SameNodes : type_of% (And.intro (fun (SP : Prg) (ac : Ac) => congrFun (congrArg (E SP) c_ref1_SameNodes_1.eq_1) ac) <| And.intro (fun (SP : Prg) (ac : Ac) => congrFun (congrArg (E SP) c_ref1_SameNodes_2.eq_1) ac) <| And.intro (fun (SP : Prg) (ac : Ac) => congrFun (congrArg (E SP) c_ref1_SameNodes_3.eq_1) ac) <| And.intro (fun (SP : Prg) (ac : Ac) => congrFun (congrArg (E SP) c_ref1_SameNodes_4.eq_1) ac) <| And.intro (fun (SP : Prg) (ac : Ac) => congrFun (congrArg (E SP) c_ref1_SameNodes_5.eq_1) ac) <| And.intro (fun (SP : Prg) (ac : Ac) => congrFun (congrArg (E SP) b_ref1_SameNodes_1.eq_1) ac) <| And.intro (fun (SP : Prg) (ac : Ac) => congrFun (congrArg (E SP) c_ref1_SameNodes_6.eq_1) ac) <| And.intro (fun (SP : Prg) (ac : Ac) => congrFun (congrArg (E SP) c_ref1_SameNodes_7.eq_1) ac) <| And.intro (fun (SP : Prg) (ac : Ac) => congrFun (congrArg (E SP) c_ref1_SameNodes_8.eq_1) ac) <| sc_ref1_SameNodes.eq_1) := And.intro (fun (SP : Prg) (ac : Ac) => congrFun (congrArg (E SP) c_ref1_SameNodes_1.eq_1) ac) <| And.intro (fun (SP : Prg) (ac : Ac) => congrFun (congrArg (E SP) c_ref1_SameNodes_2.eq_1) ac) <| And.intro (fun (SP : Prg) (ac : Ac) => congrFun (congrArg (E SP) c_ref1_SameNodes_3.eq_1) ac) <| And.intro (fun (SP : Prg) (ac : Ac) => congrFun (congrArg (E SP) c_ref1_SameNodes_4.eq_1) ac) <| And.intro (fun (SP : Prg) (ac : Ac) => congrFun (congrArg (E SP) c_ref1_SameNodes_5.eq_1) ac) <| And.intro (fun (SP : Prg) (ac : Ac) => congrFun (congrArg (E SP) b_ref1_SameNodes_1.eq_1) ac) <| And.intro (fun (SP : Prg) (ac : Ac) => congrFun (congrArg (E SP) c_ref1_SameNodes_6.eq_1) ac) <| And.intro (fun (SP : Prg) (ac : Ac) => congrFun (congrArg (E SP) c_ref1_SameNodes_7.eq_1) ac) <| And.intro (fun (SP : Prg) (ac : Ac) => congrFun (congrArg (E SP) c_ref1_SameNodes_8.eq_1) ac) <| sc_ref1_SameNodes.eq_1
theorem comp_ref1_SameNodes : comp Tryz.prog Tryz.f21 = some sc_ref1_SameNodes := by kernel_rfl
/-- doorkeeper/doorkeeperref1.SameBlocks -/
def c_ref1_SameBlocks_1 : SC := .seq (.reg [⟨(some 4), none, (.v (.mov (.c (.bool true))))⟩]) .ret
def c_ref1_SameBlocks_2 : SC := .reg [⟨(some 16), none, (.v (.mov (.t 5)))⟩, ⟨(some 17), none, (.v (.bin .add (.t 16) (.c (.int .i64 1))))⟩, ⟨(some 5), none, (.v (.mov (.t 17)))⟩]
def c_ref1_SameBlocks_3 : SC := .reg [⟨(some 79), none, (.v (.mov (.t 6)))⟩, ⟨(some 80), none, (.v (.bin .add (.t 79) (.c (.int .i64 1))))⟩, ⟨(some 6), none, (.v (.mov (.t 80)))⟩]
def c_ref1_SameBlocks_4 : SC := .cond (.t 121) (.seq (.reg [⟨(some 4), none, (.v (.mov (.c (.bool false))))⟩]) .ret) .skip
def c_ref1_SameBlocks_5 : SC := .seq (.block 3 (.seq (.dreg [⟨(some 81), none, (.v (.mov (.t 0)))⟩, ⟨(some 82), none, (.v (.mov (.t 5)))⟩, ⟨(some 83), none, (.v (.iaddr 4 (.t 81) (.t 82)))⟩, ⟨(some 84), none, (.v (.faddr 2 (.t 83)))⟩, ⟨(some 85), none, (.v (.load none (.t 84)))⟩, ⟨(some 86), none, (.v (.mov (.t 6)))⟩, ⟨(some 87), none, (.v (.iaddr 2 (.t 85) (.t 86)))⟩, ⟨(some 88), none, (.v (.faddr 0 (.t 87)))⟩, ⟨(some 89), none, (.v (.load none (.t 88)))⟩, ⟨(some 90), none, (.v (.mov (.t 1)))⟩, ⟨(some 91), none, (.v (.mov (.t 5)))⟩, ⟨(some 92), none, (.v (.iaddr 4 (.t 90) (.t 91)))⟩, ⟨(some 93), none, (.v (.faddr 2 (.t 92)))⟩, ⟨(some 94), none, (.v (.load none (.t 93)))⟩, ⟨(some 95), none, (.v (.mov (.t 6)))⟩, ⟨(some 96), none, (.v (.iaddr 2 (.t 94) (.t 95)))⟩, ⟨(some 97), none, (.v (.faddr 0 (.t 96)))⟩, ⟨(some 98), none, (.v (.load none (.t 97)))⟩, ⟨(some 99), none, (.v (.bin .neq (.t 89) (.t 98)))⟩, ⟨(some 100), none, (.v (.mov (.t 99)))⟩, ⟨(some 101), (some (100, false)), (.v (.mov (.t 0)))⟩, ⟨(some 102), (some (100, false)), (.v (.mov (.t 5)))⟩, ⟨(some 103), (some (100, false)), (.v (.iaddr 4 (.t 101) (.t 102)))⟩, ⟨(some 104), (some (100, false)), (.v (.faddr 2 (.t 103)))⟩, ⟨(some 105), (some (100, false)), (.v (.load none (.t 104)))⟩, ⟨(some 106), (some (100, false)), (.v (.mov (.t 6)))⟩, ⟨(some 107), (some (100, false)), (.v (.iaddr 2 (.t 105) (.t 106)))⟩, ⟨(some 108), (some (100, false)), (.v (.faddr 1 (.t 107)))⟩, ⟨(some 109), (some (100, false)), (.v (.load none (.t 108)))⟩, ⟨(some 110), (some (100, false)), (.v (.mov (.t 1)))⟩, ⟨(some 111), (some (100, false)), (.v (.mov (.t 5)))⟩, ⟨(some 112), (some (100, false)), (.v (.iaddr 4 (.t 110) (.t 111)))⟩, ⟨(some 113), (some (100, false)), (.v (.faddr 2 (.t 112)))⟩, ⟨(some 114), (some (100, false)), (.v (.load none (.t 113)))⟩, ⟨(some 115), (some (100, false)), (.v (.mov (.t 6)))⟩, ⟨(some 116), (some (100, false)), (.v (.iaddr 2 (.t 114) (.t 115)))⟩, ⟨(some 117), (some (100, false)), (.v (.faddr 1 (.t 116)))⟩, ⟨(some 118), (some (100, false)), (.v (.load none (.t 117)))⟩, ⟨(some 119), (some (100, false)), (.call (.c (.func 21 [])) [(.t 109), (.t 118)])⟩, ⟨(some 120), (some (100, false)), (.v (.un .not (.t 119)))⟩, ⟨(some 121), none, (.v (.pick (.t 100) (.c (.bool true)) (.t 120)))⟩] [false, false, false, false, false, false, false, false, false, false, false, false, false, false, false, false, false, false, true, true, false, false, false, false, false, false, false, false, false, false, false, false, false, false, false, false, false, false, true, true, true]) c_ref1_SameBlocks_4)) c_ref1_SameBlocks_3
def b_ref1_SameBlocks_2 : SC := .seq (.seq (.reg [⟨(some 71), none, (.v (.mov (.t 6)))⟩, ⟨(some 72), none, (.v (.mov (.t 0)))⟩, ⟨(some 73), none, (.v (.mov (.t 5)))⟩, ⟨(some 74), none, (.v (.iaddr 4 (.t 72) (.t 73)))⟩, ⟨(some 75), none, (.v (.faddr 2 (.t 74)))⟩, ⟨(some 76), none, (.v (.load none (.t 75)))⟩, ⟨(some 77), none, (.v (.len false (.t 76)))⟩, ⟨(some 78), none, (.v (.bin .lss (.t 71) (.t 77)))⟩]) (.cond (.t 78) .skip (.exit 2))) c_ref1_SameBlocks_5
def c_ref1_SameBlocks_6 : SC := .block 2 (.loop b_ref1_SameBlocks_2)
def c_ref1_SameBlocks_7 : SC := .seq (.reg [⟨(some 6), none, (.v (.mov (.c (.int .i64 0))))⟩]) c_ref1_SameBlocks_6
def c_ref1_SameBlocks_8 : SC := .cond (.t 70) (.seq (.reg [⟨(some 4), none, (.v (.mov (.c (.bool false))))⟩]) .ret) .skip
def c_ref1_SameBlocks_9 : SC := .seq (.block 1 (.seq (.seq (.dreg [⟨(some 18), none, (.v (.mov (.t 0)))⟩, ⟨(some 19), none, (.v (.mov (.t 5)))⟩, ⟨(some 20), none, (.v (.iaddr 4 (.t 18) (.t 19)))⟩, ⟨(some 21), none, (.v (.faddr 0 (.t 20)))⟩, ⟨(some 22), none, (.v (.load none (.t 21)))⟩, ⟨(some 23), none, (.v (.mov (.t 1)))⟩, ⟨(some 24), none, (.v (.mov (.t 5)))⟩, ⟨(some 25), none, (.v (.iaddr 4 (.t 23) (.t 24)))⟩, ⟨(some 26), none, (.v (.faddr 0 (.t 25)))⟩, ⟨(some 27), none, (.v (.load none (.t 26)))⟩, ⟨(some 28), none, (.v (.bin .neq (.t 22) (.t 27)))⟩, ⟨(some 29), none, (.v (.mov (.t 28)))⟩, ⟨(some 30), (some (29, false)), (.v (.mov (.t 0)))⟩, ⟨(some 31), (some (29, false)), (.v (.mov (.t 5)))⟩, ⟨(some 32), (some (29, false)), (.v (.iaddr 4 (.t 30) (.t 31)))⟩, ⟨(some 33), (some (29, false)), (.v (.faddr 1 (.t 32)))⟩, ⟨(some 34), (some (29, false)), (.v (.load none (.t 33)))⟩, ⟨(some 35), (some (29, false)), (.v (.mov (.t 1)))⟩, ⟨(some 36), (some (29, false)), (.v (.mov (.t 5)))⟩, ⟨(some 37), (some (29, false)), (.v (.iaddr 4 (.t 35) (.t 36)))⟩, ⟨(some 38), (some (29, false)), (.v (.faddr 1 (.t 37)))⟩, ⟨(some 39), (some (29, false)), (.v (.load none (.t 38)))⟩, ⟨(some 40), (some (29, false)), (.v (.bin .neq (.t 34) (.t 39)))⟩, ⟨(some 41), none, (.v (.pick (.t 29) (.c (.bool true)) (.t 40)))⟩, ⟨(some 42), none, (.v (.mov (.t 41)))⟩, ⟨(some 43), (some (42, false)), (.v (.mov (.t 0)))⟩, ⟨(some 44), (some (42, false)), (.v (.mov (.t 5)))⟩, ⟨(some 45), (some (42, false)), (.v (.iaddr 4 (.t 43) (.t 44)))⟩, ⟨(some 46), (some (42, false)), (.v (.faddr 2 (.t 45)))⟩, ⟨(some 47), (some (42, false)), (.v (.load none (.t 46)))⟩, ⟨(some 48), (some (42, false)), (.v (.len false (.t 47)))⟩, ⟨(some 49), (some (42, false)), (.v (.mov (.t 1)))⟩, ⟨(some 50), (some (42, false)), (.v (.mov (.t 5)))⟩, ⟨(some 51), (some (42, false)), (.v (.iaddr 4 (.t 49) (.t 50)))⟩, ⟨(some 52), (some (42, false)), (.v (.faddr 2 (.t 51)))⟩, ⟨(some 53), (some (42, false)), (.v (.load none (.t 52)))⟩, ⟨(some 54), (some (42, false)), (.v (.len false (.t 53)))⟩, ⟨(some 55), (some (42, false)), (.v (.bin .neq (.t 48) (.t 54)))⟩, ⟨(some 56), none, (.v (.pick (.t 42) (.c (.bool true)) (.t 55)))⟩, ⟨(some 57), none, (.v (.mov (.t 56)))⟩, ⟨(some 58), (some (57, false)), (.v (.mov (.t 0)))⟩, ⟨(some 59), (some (57, false)), (.v (.mov (.t 5)))⟩, ⟨(some 60), (some (57, false)), (.v (.iaddr 4 (.t 58) (.t 59)))⟩, ⟨(some 61), (some (57, false)), (.v (.faddr 3 (.t 60)))⟩, ⟨(some 62), (some (57, false)), (.v (.load none (.t 61)))⟩, ⟨(some 63), (some (57, false)), (.v (.mov (.t 1)))⟩, ⟨(some 64), (some (57, false)), (.v (.mov (.t 5)))⟩, ⟨(some 65), (some (57, false)), (.v (.iaddr 4 (.t 63) (.t 64)))⟩, ⟨(some 66), (some (57, false)), (.v (.faddr 3 (.t 65)))⟩, ⟨(some 67), (some (57, false)), (.v (.load none (.t 66)))⟩, ⟨(some 68), (some (57, false)), (.call (.c (.func 19 [])) [(.t 62), (.t 67)])⟩, ⟨(some 69), (some (57, false)), (.v (.un .not (.t 68)))⟩, ⟨(some 70), none, (.v (.pick (.t 57) (.c (.bool true)) (.t 69)))⟩] [false, false, false, false, false, false, false, false, false, false, true, true, false, false, false, false, false, false, false, false, false, false, true, true, true, false, false, false, false, false, false, false, false, false, false, false, false, true, true, true, false, false, false, false, false, false, false, false, false, false, true, true, true]) c_ref1_SameBlocks_8) c_ref1_SameBlocks_7)) c_ref1_SameBlocks_2
def b_ref1_SameBlocks_1 : SC := .seq (.seq (.reg [⟨(some 12), none, (.v (.mov (.t 5)))⟩, ⟨(some 13), none, (.v (.mov (.t 0)))⟩, ⟨(some 14), none, (.v (.len false (.t 13)))⟩, ⟨(some 15), none, (.v (.bin .lss (.t 12) (.t 14)))⟩]) (.cond (.t 15) .skip (.exit 0))) c_ref1_SameBlocks_9
def c_ref1_SameBlocks_10 : SC := .block 0 (.loop b_ref1_SameBlocks_1)
def c_ref1_SameBlocks_11 : SC := .seq (.seq (.reg [⟨(some 5), none, (.v (.mov (.c (.int .i64 0))))⟩]) c_ref1_SameBlocks_10) c_ref1_SameBlocks_1
def c_ref1_SameBlocks_12 : SC := .seq (.seq (.reg [⟨(some 7), none, (.v (.mov (.t 0)))⟩, ⟨(some 8), none, (.v (.len false (.t 7)))⟩, ⟨(some 9), none, (.v (.mov (.t 1)))⟩, ⟨(some 10), none, (.v (.len false (.t 9)))⟩, ⟨(some 11), none, (.v (.bin .neq (.t 8) (.t 10)))⟩]) (.cond (.t 11) (.seq (.reg [⟨(some 4), none, (.v (.mov (.c (.bool false))))⟩]) .ret) .skip)) c_ref1_SameBlocks_11
def sc_ref1_SameBlocks : SFunc := ⟨2, 122, .seq (.reg [⟨(some 4), none, (.v (.mov (.c (.bool false))))⟩]) c_ref1_SameBlocks_12, [(.t 4)]⟩
noncomputable def k_ref1_SameBlocks_2 (SP : Prg) (x : EO) : CO := fin [(.t 4)] (thC SP (inBlk 0 (thC SP (thC SP (inBlk 1 (inBlk 2 (x))) c_ref1_SameBlocks_2) (.loop b_ref1_SameBlocks_1))) c_ref1_SameBlocks_1)
noncomputable def k_ref1_SameBlocks_1 (SP : Prg) (x : EO) : CO := fin [(.t 4)] (thC SP (inBlk 0 (x)) c_ref1_SameBlocks_1)
theorem U_ref1_SameBlocks : type_of% (And.intro (fun (SP : Prg) (ac : Ac) => congrFun (congrArg (E SP) c_ref1_SameBlocks_1.eq_1) ac) <| And.intro (fun (SP : Prg) (ac : Ac) => congrFun (congrArg (E SP) c_ref1_SameBlocks_2.eq_1) ac) <| And.intro (fun (SP : Prg) (ac : Ac) => congrFun (congrArg (E SP) c_ref1_SameBlocks_3.eq_1) ac) <| And.intro (fun (SP : Prg) (ac : Ac) => congrFun (congrArg (E SP) c_ref1_SameBlocks_4.eq_1) ac) <| And.intro (fun (SP : Prg) (ac : Ac) => congrFun (congrArg (E SP) c_ref1_SameBlocks_5.eq_1) ac) <| And.intro (fun (SP : Prg) (ac : Ac) => congrFun (congrArg (E SP) b_ref1_SameBlocks_2.eq_1) ac) <| And.intro (fun (SP : Prg) (ac : Ac) => congrFun (congrArg (E SP) c_ref1_SameBlocks_6.eq_1) ac) <| And.intro (fun (SP : Prg) (ac : Ac) => congrFun (congrArg (E SP) c_ref1_SameBlocks_7.eq_1) ac) <| And.intro (fun (SP : Prg) (ac : Ac) => congrFun (congrArg (E SP) c_ref1_SameBlocks_8.eq_1) ac) <| And.intro (fun (SP : Prg) (ac : Ac) => congrFun (congrArg (E SP) c_ref1_SameBlocks_9.eq_1) ac) <| And.intro (fun (SP : Prg) (ac : Ac) => congrFun (congrArg (E SP) b_ref1_SameBlocks_1.eq_1) ac) <| And.intro (fun (SP : Prg) (ac : Ac) => congrFun (congrArg (E SP) c_ref1_SameBlocks_10.eq_1) ac) <| And.intro (fun (SP : Prg) (ac : Ac) => congrFun (congrArg (E SP) c_ref1_SameBlocks_11.eq_1) ac) <| And.intro (fun (SP : Prg) (ac : Ac) => congrFun (congrArg (E SP) c_ref1_SameBlocks_12.eq_1) ac) <| sc_ref1_SameBlocks.eq_1) := And.intro (fun (SP : Prg) (ac : Ac) => congrFun (congrArg (E SP) c_ref1_SameBlocks_1.eq_1) ac) <| And.intro (fun (SP : Prg) (ac : Ac) => congrFun (congrArg (E SP) c_ref1_SameBlocks_2.eq_1) ac) <| And.intro (fun (SP : Prg) (ac : Ac) => congrFun (congrArg (E SP) c_ref1_SameBlocks_3.eq_1) ac) <| And.intro (fun (SP : Prg) (ac : Ac) => congrFun (congrArg (E SP) c_ref1_SameBlocks_4.eq_1) ac) <| And.intro (fun (SP : Prg) (ac : Ac) => congrFun (congrArg (E SP) c_ref1_SameBlocks_5.eq_1) ac) <| And.intro (fun (SP : Prg) (ac : Ac) => congrFun (congrArg (E SP) b_ref1_SameBlocks_2.eq_1) ac) <| And.intro (fun (SP : Prg) (ac : Ac) => congrFun (congrArg (E SP) c_ref1_SameBlocks_6.eq_1) ac) <| And.intro (fun (SP : Prg) (ac : Ac) => congrFun (congrArg (E SP) c_ref1_SameBlocks_7.eq_1) ac) <| And.intro (fun (SP : Prg) (ac : Ac) => congrFun (congrArg (E SP) c_ref1_SameBlocks_8.eq_1) ac) <| And.intro (fun (SP : Prg) (ac : Ac) => congrFun (congrArg (E SP) c_ref1_SameBlocks_9.eq_1) ac) <| And.intro (fun (SP : Prg) (ac : Ac) => congrFun (congrArg (E SP) b_ref1_SameBlocks_1.eq_1) ac) <| And.intro (fun (SP : Prg) (ac : Ac) => congrFun (congrArg (E SP) c_ref1_SameBlocks_10.eq_1) ac) <| And.intro (fun (SP : Prg) (ac : Ac) => congrFun (congrArg (E SP) c_ref1_SameBlocks_11.eq_1) ac) <| And.intro (fun (SP : Prg) (ac : Ac) => congrFun (congrArg (E SP) c_ref1_SameBlocks_12.eq_1) ac) <| sc_ref1_SameBlocks.eq_1
theorem comp_ref1_SameBlocks : comp Tryz.prog Tryz.f19 = some sc_ref1_SameBlocks := by kernel_rfl
/-- doorkeeper/doorkeeperlaw2.ParseBlocks -/
def c_law2_ParseBlocks_1 : SC := .seq (.reg [⟨(some 220), none, (.call (.c (.func 15 [])) [])⟩, ⟨(some 6), none, (.v (.mov (.t 220)))⟩]) .ret
def c_law2_ParseBlocks_2 : SC := .reg [⟨(some 129), none, (.v (.mov (.t 14)))⟩, ⟨(some 130), none, (.v (.bin .add (.t 129) (.c (.int .i64 1))))⟩, ⟨(some 14), none, (.v (.mov (.t 130)))⟩]
def c_law2_ParseBlocks_3 : SC := .reg [⟨(some 176), none, (.v (.mov (.t 15)))⟩, ⟨(some 177), none, (.v (.bin .add (.t 176) (.c (.int .i64 1))))⟩, ⟨(some 15), none, (.v (.mov (.t 177)))⟩]
def c_law2_ParseBlocks_4 : SC := .cond (.t 219) (.seq (.reg [⟨(some 6), none, (.v (.mov (.c (.bool false))))⟩]) .ret) .skip
def c_law2_ParseBlocks_5 : SC := .seq (.block 7 (.seq (.dreg [⟨(some 178), none, (.v (.mov (.t 12)))⟩, ⟨(some 179), none, (.v (.mov (.t 14)))⟩, ⟨(some 180), none, (.v (.iaddr 4 (.t 178) (.t 179)))⟩, ⟨(some 181), none, (.v (.faddr 2 (.t 180)))⟩, ⟨(some 182), none, (.v (.load none (.t 181)))⟩, ⟨(some 183), none, (.v (.mov (.t 15)))⟩, ⟨(some 184), none, (.v (.iaddr 2 (.t 182) (.t 183)))⟩, ⟨(some 185), none, (.v (.faddr 0 (.t 184)))⟩, ⟨(some 186), none, (.v (.load none (.t 185)))⟩, ⟨(some 187), none, (.v (.mov (.t 15)))⟩, ⟨(some 188), none, (.call (.c (.func 16 [])) [(.t 187)])⟩, ⟨(some 189), none, (.v (.bin .add (.c (.str [97])) (.t 188)))⟩, ⟨(some 190), none, (.v (.bin .neq (.t 186) (.t 189)))⟩, ⟨(some 191), none, (.v (.mov (.t 190)))⟩, ⟨(some 192), (some (191, false)), (.v (.mov (.t 12)))⟩, ⟨(some 193), (some (191, false)), (.v (.mov (.t 14)))⟩, ⟨(some 194), (some (191, false)), (.v (.iaddr 4 (.t 192) (.t 193)))⟩, ⟨(some 195), (some (191, false)), (.v (.faddr 2 (.t 194)))⟩, ⟨(some 196), (some (191, false)), (.v (.load none (.t 195)))⟩, ⟨(some 197), (some (191, false)), (.v (.mov (.t 15)))⟩, ⟨(some 198), (some (191, false)), (.v (.iaddr 2 (.t 196) (.t 197)))⟩, ⟨(some 199), (some (191, false)), (.v (.faddr 1 (.t 198)))⟩, ⟨(some 200), (some (191, false)), (.v (.load none (.t 199)))⟩, ⟨(some 201), (some (191, false)), (.v (.len false (.t 200)))⟩, ⟨(some 202), (some (191, false)), (.v (.bin .neq (.t 201) (.c (.int .i64 1))))⟩, ⟨(some 203), none, (.v (.pick (.t 191) (.c (.bool true)) (.t 202)))⟩, ⟨(some 204), none, (.v (.mov (.t 203)))⟩, ⟨(some 205), (some (204, false)), (.v (.mov (.t 12)))⟩, ⟨(some 206), (some (204, false)), (.v (.mov (.t 14)))⟩, ⟨(some 207), (some (204, false)), (.v (.iaddr 4 (.t 205) (.t 206)))⟩, ⟨(some 208), (some (204, false)), (.v (.faddr 2 (.t 207)))⟩, ⟨(some 209), (some (204, false)), (.v (.load none (.t 208)))⟩, ⟨(some 210), (some (204, false)), (.v (.mov (.t 15)))⟩, ⟨(some 211), (some (204, false)), (.v (.iaddr 2 (.t 209) (.t 210)))⟩, ⟨(some 212), (some (204, false)), (.v (.faddr 1 (.t 211)))⟩, ⟨(some 213), (some (204, false)), (.v (.load none (.t 212)))⟩, ⟨(some 214), (some (204, false)), (.v (.iaddr 5 (.t 213) (.c (.int .i64 0))))⟩, ⟨(some 215), (some (204, false)), (.v (.faddr 1 (.t 214)))⟩, ⟨(some 216), (some (204, false)), (.v (.load none (.t 215)))⟩, ⟨(some 217), (some (204, false)), (.v (.mov (.t 15)))⟩, ⟨(some 218), (some (204, false)), (.v (.bin .neq (.t 216) (.t 217)))⟩, ⟨(some 219), none, (.v (.pick (.t 204) (.c (.bool true)) (.t 218)))⟩] [false, false, false, false, false, false, false, false, false, false, false, false, true, true, true, true, true, true, true, false, true, true, true, true, true, true, true, true, true, true, true, true, false, true, true, true, true, true, true, false, true, true]) c_law2_ParseBlocks_4)) c_law2_ParseBlocks_3
def b_law2_ParseBlocks_2 : SC := .seq (.seq (.reg [⟨(some 173), none, (.v (.mov (.t 15)))⟩, ⟨(some 174), none, (.v (.mov (.t 7)))⟩, ⟨(some 175), none, (.v (.bin .lss (.t 173) (.t 174)))⟩]) (.cond (.t 175) .skip (.exit 6))) c_law2_ParseBlocks_5
def c_law2_ParseBlocks_6 : SC := .block 6 (.loop b_law2_ParseBlocks_2)
def c_law2_ParseBlocks_7 : SC := .seq (.reg [⟨(some 15), none, (.v (.mov (.c (.int .i64 0))))⟩]) c_law2_ParseBlocks_6
def c_law2_ParseBlocks_8 : SC := .cond (.t 172) (.seq (.reg [⟨(some 6), none, (.v (.mov (.c (.bool false))))⟩]) .ret) .skip
def c_law2_ParseBlocks_9 : SC := .seq (.block 5 (.seq (.seq (.dreg [⟨(some 131), none, (.v (.mov (.t 12)))⟩, ⟨(some 132), none, (.v (.mov (.t 14)))⟩, ⟨(some 133), none, (.v (.iaddr 4 (.t 131) (.t 132)))⟩, ⟨(some 134), none, (.v (.faddr 0 (.t 133)))⟩, ⟨(some 135), none, (.v (.load none (.t 134)))⟩, ⟨(some 136), none, (.v (.mov (.t 0)))⟩, ⟨(some 137), none, (.v (.mov (.t 14)))⟩, ⟨(some 138), none, (.v (.iaddr 1 (.t 136) (.t 137)))⟩, ⟨(some 139), none, (.v (.load none (.t 138)))⟩, ⟨(some 140), none, (.v (.conv (.int .i64) (.t 139)))⟩, ⟨(some 141), none, (.v (.bin .rem (.t 140) (.c (.int .i64 4))))⟩, ⟨(some 142), none, (.v (.bin .add (.c (.int .i64 1)) (.t 141)))⟩, ⟨(some 143), none, (.v (.bin .neq (.t 135) (.t 142)))⟩, ⟨(some 144), none, (.v (.mov (.t 143)))⟩, ⟨(some 145), (some (144, false)), (.v (.mov (.t 12)))⟩, ⟨(some 146), (some (144, false)), (.v (.mov (.t 14)))⟩, ⟨(some 147), (some (144, false)), (.v (.iaddr 4 (.t 145) (.t 146)))⟩, ⟨(some 148), (some (144, false)), (.v (.faddr 2 (.t 147)))⟩, ⟨(some 149), (some (144, false)), (.v (.load none (.t 148)))⟩, ⟨(some 150), (some (144, false)), (.v (.len false (.t 149)))⟩, ⟨(some 151), (some (144, false)), (.v (.mov (.t 7)))⟩, ⟨(some 152), (some (144, false)), (.v (.bin .neq (.t 150) (.t 151)))⟩, ⟨(some 153), none, (.v (.pick (.t 144) (.c (.bool true)) (.t 152)))⟩, ⟨(some 154), none, (.v (.mov (.t 153)))⟩, ⟨(some 155), (some (154, false)), (.v (.mov (.t 12)))⟩, ⟨(some 156), (some (154, false)), (.v (.mov (.t 14)))⟩, ⟨(some 157), (some (154, false)), (.v (.mov (.t 14)))⟩, ⟨(some 158), (some (154, false)), (.v (.bin .add (.t 157) (.c (.int .i64 1))))⟩, ⟨(some 159), (some (154, false)), (.v (.slc 4 (.t 155) (some (.t 156)) (some (.t 158)) none))⟩, ⟨(some 160), (some (154, false)), (.v (.mov (.t 12)))⟩, ⟨(some 161), (some (154, false)), (.v (.mov (.t 0)))⟩, ⟨(some 162), (some (154, false)), (.v (.len false (.t 161)))⟩, ⟨(some 163), (some (154, false)), (.v (.iaddr 4 (.t 160) (.t 162)))⟩, ⟨(some 164), (some (154, false)), (.v (.faddr 3 (.t 163)))⟩, ⟨(some 165), (some (154, false)), (.v (.load none (.t 164)))⟩, ⟨(some 166), (some (154, false)), (.v (.mov (.t 14)))⟩, ⟨(some 167), (some (154, false)), (.v (.mov (.t 14)))⟩, ⟨(some 168), (some (154, false)), (.v (.bin .add (.t 167) (.c (.int .i64 1))))⟩, ⟨(some 169), (some (154, false)), (.v (.slc 4 (.t 165) (some (.t 166)) (some (.t 168)) none))⟩, ⟨(some 170), (some (154, false)), (.call (.c (.func 19 [])) [(.t 159), (.t 169)])⟩, ⟨(some 171), (some (154, false)), (.v (.un .not (.t 170)))⟩, ⟨(some 172), none, (.v (.pick (.t 154) (.c (.bool true)) (.t 171)))⟩] [false, false, false, false, false, false, false, false, false, false, false, false, true, true, true, true, true, true, true, true, false, true, true, true, false, false, false, false, false, false, false, false, false, false, false, false, false, false, false, true, true, true]) c_law2_ParseBlocks_8) c_law2_ParseBlocks_7)) c_law2_ParseBlocks_2
def b_law2_ParseBlocks_1 : SC := .seq (.seq (.reg [⟨(some 125), none, (.v (.mov (.t 14)))⟩, ⟨(some 126), none, (.v (.mov (.t 0)))⟩, ⟨(some 127), none, (.v (.len false (.t 126)))⟩, ⟨(some 128), none, (.v (.bin .lss (.t 125) (.t 127)))⟩]) (.cond (.t 128) .skip (.exit 4))) c_law2_ParseBlocks_9
def c_law2_ParseBlocks_10 : SC := .block 4 (.loop b_law2_ParseBlocks_1)
def c_law2_ParseBlocks_11 : SC := .seq (.seq (.reg [⟨(some 14), none, (.v (.mov (.c (.int .i64 0))))⟩]) c_law2_ParseBlocks_10) c_law2_ParseBlocks_1
def c_law2_ParseBlocks_12 : SC := .cond (.t 124) (.seq (.reg [⟨(some 6), none, (.v (.mov (.c (.bool false))))⟩]) .ret) .skip
def c_law2_ParseBlocks_13 : SC := .seq (.seq (.reg [⟨(some 102), none, (.v (.mov (.t 13)))⟩, ⟨(some 103), none, (.call (.c (.func 18 [])) [(.t 102)])⟩, ⟨(some 104), none, (.v (.bin .neq (.t 103) (.c (.int .i64 0))))⟩, ⟨(some 105), none, (.v (.mov (.t 104)))⟩, ⟨(some 106), (some (105, false)), (.v (.mov (.t 12)))⟩, ⟨(some 107), (some (105, false)), (.v (.len false (.t 106)))⟩, ⟨(some 108), (some (105, false)), (.v (.mov (.t 0)))⟩, ⟨(some 109), (some (105, false)), (.v (.len false (.t 108)))⟩, ⟨(some 110), (some (105, false)), (.v (.bin .add (.t 109) (.c (.int .i64 1))))⟩, ⟨(some 111), (some (105, false)), (.v (.bin .neq (.t 107) (.t 110)))⟩, ⟨(some 112), none, (.v (.pick (.t 105) (.c (.bool true)) (.t 111)))⟩, ⟨(some 113), none, (.v (.mov (.t 112)))⟩, ⟨(some 114), (some (113, false)), (.v (.mov (.t 12)))⟩, ⟨(some 115), (some (113, false)), (.v (.mov (.t 0)))⟩, ⟨(some 116), (some (113, false)), (.v (.len false (.t 115)))⟩, ⟨(some 117), (some (113, false)), (.v (.iaddr 4 (.t 114) (.t 116)))⟩, ⟨(some 118), (some (113, false)), (.v (.faddr 3 (.t 117)))⟩, ⟨(some 119), (some (113, false)), (.v (.load none (.t 118)))⟩, ⟨(some 120), (some (113, false)), (.v (.len false (.t 119)))⟩, ⟨(some 121), (some (113, false)), (.v (.mov (.t 0)))⟩, ⟨(some 122), (some (113, false)), (.v (.len false (.t 121)))⟩, ⟨(some 123), (some (113, false)), (.v (.bin .neq (.t 120) (.t 122)))⟩, ⟨(some 124), none, (.v (.pick (.t 113) (.c (.bool true)) (.t 123)))⟩]) c_law2_ParseBlocks_12) c_law2_ParseBlocks_11
def c_law2_ParseBlocks_14 : SC := .seq (.seq (.reg [⟨(some 81), none, (.v (.mov (.t 2)))⟩, ⟨(some 82), none, (.v (.mov (.t 81)))⟩, ⟨(some 83), (some (82, true)), (.v (.mov (.t 7)))⟩, ⟨(some 84), (some (82, true)), (.v (.bin .gtr (.t 83) (.c (.int .i64 0))))⟩, ⟨(some 85), none, (.v (.pick (.t 82) (.t 84) (.c (.bool false))))⟩, ⟨(some 86), none, (.v (.mov (.t 85)))⟩, ⟨(some 87), (some (86, true)), (.v (.mov (.t 0)))⟩, ⟨(some 88), (some (86, true)), (.v (.len false (.t 87)))⟩, ⟨(some 89), (some (86, true)), (.v (.bin .gtr (.t 88) (.c (.int .i64 0))))⟩, ⟨(some 90), none, (.v (.pick (.t 86) (.t 89) (.c (.bool false))))⟩]) (.cond (.t 90) (.seq (.reg [⟨(some 91), none, (.v (.mov (.t 13)))⟩, ⟨(some 92), none, (.call (.c (.func 18 [])) [(.t 91)])⟩, ⟨(some 93), none, (.v (.bin .eql (.t 92) (.c (.int .i64 3))))⟩, ⟨(some 94), none, (.v (.mov (.t 93)))⟩, ⟨(some 95), (some (94, true)), (.v (.mov (.t 12)))⟩, ⟨(some 96), (some (94, true)), (.v (.len false (.t 95)))⟩, ⟨(some 97), (some (94, true)), (.v (.bin .eql (.t 96) (.c (.int .i64 0))))⟩, ⟨(some 98), none, (.v (.pick (.t 94) (.t 97) (.c (.bool false))))⟩, ⟨(some 99), none, (.v (.mov (.t 98)))⟩, ⟨(some 100), (some (99, true)), (.call (.c (.func 15 [])) [])⟩, ⟨(some 101), none, (.v (.pick (.t 99) (.t 100) (.c (.bool false))))⟩, ⟨(some 6), none, (.v (.mov (.t 101)))⟩]) .ret) .skip)) c_law2_ParseBlocks_13
def c_law2_ParseBlocks_15 : SC := .seq (.reg [⟨(some 73), none, (.v (.mov (.t 8)))⟩, ⟨(some 74), none, (.v (.bin .add (.t 73) (.c (.str [100, 101, 102, 105, 110, 101, 32, 34, 100, 34, 32, 123, 32]))))⟩, ⟨(some 75), none, (.v (.mov (.t 8)))⟩, ⟨(some 76), none, (.v (.bin .add (.t 74) (.t 75)))⟩, ⟨(some 77), none, (.v (.bin .add (.t 76) (.c (.str [32, 125]))))⟩, ⟨(some 78), none, (.call (.c (.func 17 [])) [(.t 77)])⟩, ⟨(some 72), none, (.v (.mov (.t 78)))⟩, ⟨(some 79), none, (.v (.extract 0 (.t 72)))⟩, ⟨(some 80), none, (.v (.extract 1 (.t 72)))⟩, ⟨(some 12), none, (.v (.mov (.t 79)))⟩, ⟨(some 13), none, (.v (.mov (.t 80)))⟩]) c_law2_ParseBlocks_14
def c_law2_ParseBlocks_16 : SC := .reg [⟨(some 27), none, (.v (.mov (.t 9)))⟩, ⟨(some 28), none, (.v (.bin .add (.t 27) (.c (.int .i64 1))))⟩, ⟨(some 9), none, (.v (.mov (.t 28)))⟩]
def c_law2_ParseBlocks_17 : SC := .seq (.seq (.reg [⟨(some 56), none, (.v (.mov (.t 2)))⟩, ⟨(some 57), none, (.v (.mov (.t 56)))⟩, ⟨(some 58), (some (57, true)), (.v (.mov (.t 9)))⟩, ⟨(some 59), (some (57, true)), (.v (.mov (.t 0)))⟩, ⟨(some 60), (some (57, true)), (.v (.len false (.t 59)))⟩, ⟨(some 61), (some (57, true)), (.v (.bin .sub (.t 60) (.c (.int .i64 1))))⟩, ⟨(some 62), (some (57, true)), (.v (.bin .eql (.t 58) (.t 61)))⟩, ⟨(some 63), none, (.v (.pick (.t 57) (.t 62) (.c (.bool false))))⟩, ⟨(some 64), none, (.v (.mov (.t 63)))⟩, ⟨(some 65), (some (64, true)), (.v (.mov (.t 7)))⟩, ⟨(some 66), (some (64, true)), (.v (.bin .gtr (.t 65) (.c (.int .i64 0))))⟩, ⟨(some 67), none, (.v (.pick (.t 64) (.t 66) (.c (.bool false))))⟩]) (.cond (.t 67) (.reg [⟨(some 68), none, (.v (.mov (.t 8)))⟩, ⟨(some 69), none, (.v (.bin .add (.t 68) (.c (.str [32, 97, 48, 32, 61, 32, 49]))))⟩, ⟨(some 8), none, (.v (.mov (.t 69)))⟩]) .skip)) (.reg [⟨(some 70), none, (.v (.mov (.t 8)))⟩, ⟨(some 71), none, (.v (.bin .add (.t 70) (.c (.str [32, 125, 10]))))⟩, ⟨(some 8), none, (.v (.mov (.t 71)))⟩])
def b_law2_ParseBlocks_4 : SC := .seq (.seq (.reg [⟨(some 42), none, (.v (.mov (.t 11)))⟩, ⟨(some 43), none, (.v (.mov (.t 7)))⟩, ⟨(some 44), none, (.v (.bin .lss (.t 42) (.t 43)))⟩]) (.cond (.t 44) .skip (.exit 2))) (.seq (.block 3 (.reg [⟨(some 47), none, (.v (.mov (.t 8)))⟩, ⟨(some 48), none, (.v (.bin .add (.t 47) (.c (.str [32, 97]))))⟩, ⟨(some 49), none, (.v (.mov (.t 11)))⟩, ⟨(some 50), none, (.call (.c (.func 16 [])) [(.t 49)])⟩, ⟨(some 51), none, (.v (.bin .add (.t 48) (.t 50)))⟩, ⟨(some 52), none, (.v (.bin .add (.t 51) (.c (.str [32, 61, 32]))))⟩, ⟨(some 53), none, (.v (.mov (.t 11)))⟩, ⟨(some 54), none, (.call (.c (.func 16 [])) [(.t 53)])⟩, ⟨(some 55), none, (.v (.bin .add (.t 52) (.t 54)))⟩, ⟨(some 8), none, (.v (.mov (.t 55)))⟩])) (.reg [⟨(some 45), none, (.v (.mov (.t 11)))⟩, ⟨(some 46), none, (.v (.bin .add (.t 45) (.c (.int .i64 1))))⟩, ⟨(some 11), none, (.v (.mov (.t 46)))⟩]))
def c_law2_ParseBlocks_18 : SC := .seq (.seq (.reg [⟨(some 11), none, (.v (.mov (.c (.int .i64 0))))⟩]) (.block 2 (.loop b_law2_ParseBlocks_4))) c_law2_ParseBlocks_17
def c_law2_ParseBlocks_19 : SC := .seq (.reg [⟨(some 36), none, (.v (.mov (.t 8)))⟩, ⟨(some 37), none, (.bslice 1 5 [(.str [])] [(0, (.c (.str []))), (1, (.c (.str [118, 97, 114, 105, 97, 98, 108, 101, 32, 34, 118, 34, 32, 123]))), (2, (.c (.str [108, 111, 99, 97, 108, 115, 32, 123]))), (3, (.c (.str [110, 111, 100, 101, 32, 34, 110, 34, 32, 123]))), (4, (.c (.str [109, 111, 100, 117, 108, 101, 32, 34, 109, 34, 32, 123])))])⟩, ⟨(some 38), none, (.v (.mov (.t 10)))⟩, ⟨(some 39), none, (.v (.iaddr 1 (.t 37) (.t 38)))⟩, ⟨(some 40), none, (.v (.load none (.t 39)))⟩, ⟨(some 41), none, (.v (.bin .add (.t 36) (.t 40)))⟩, ⟨(some 8), none, (.v (.mov (.t 41)))⟩]) c_law2_ParseBlocks_18
def c_law2_ParseBlocks_20 : SC := .seq (.block 1 (.seq (.reg [⟨(some 29), none, (.v (.mov (.t 0)))⟩, ⟨(some 30), none, (.v (.mov (.t 9)))⟩, ⟨(some 31), none, (.v (.iaddr 1 (.t 29) (.t 30)))⟩, ⟨(some 32), none, (.v (.load none (.t 31)))⟩, ⟨(some 33), none, (.v (.conv (.int .i64) (.t 32)))⟩, ⟨(some 34), none, (.v (.bin .rem (.t 33) (.c (.int .i64 4))))⟩, ⟨(some 35), none, (.v (.bin .add (.c (.int .i64 1)) (.t 34)))⟩, ⟨(some 10), none, (.v (.mov (.t 35)))⟩]) c_law2_ParseBlocks_19)) c_law2_ParseBlocks_16
def b_law2_ParseBlocks_3 : SC := .seq (.seq (.reg [⟨(some 23), none, (.v (.mov (.t 9)))⟩, ⟨(some 24), none, (.v (.mov (.t 0)))⟩, ⟨(some 25), none, (.v (.len false (.t 24)))⟩, ⟨(some 26), none, (.v (.bin .lss (.t 23) (.t 25)))⟩]) (.cond (.t 26) .skip (.exit 0))) c_law2_ParseBlocks_20
def c_law2_ParseBlocks_21 : SC := .block 0 (.loop b_law2_ParseBlocks_3)
def c_law2_ParseBlocks_22 : SC := .seq (.seq (.reg [⟨(some 9), none, (.v (.mov (.c (.int .i64 0))))⟩]) c_law2_ParseBlocks_21) c_law2_ParseBlocks_15
def c_law2_ParseBlocks_23 : SC := .seq (.reg [⟨(some 8), none, (.v (.mov (.c (.str []))))⟩]) c_law2_ParseBlocks_22
def c_law2_ParseBlocks_24 : SC := .seq (.reg [⟨(some 20), none, (.v (.mov (.t 1)))⟩, ⟨(some 21), none, (.v (.conv (.int .i64) (.t 20)))⟩, ⟨(some 22), none, (.v (.bin .rem (.t 21) (.c (.int .i64 6))))⟩, ⟨(some 7), none, (.v (.mov (.t 22)))⟩]) c_law2_ParseBlocks_23
def c_law2_ParseBlocks_25 : SC := .seq (.seq (.reg [⟨(some 16), none, (.v (.mov (.t 0)))⟩, ⟨(some 17), none, (.v (.len false (.t 16)))⟩, ⟨(some 18), none, (.v (.bin .gtr (.t 17) (.c (.int .i64 20))))⟩]) (.cond (.t 18) (.seq (.reg [⟨(some 19), none, (.call (.c (.func 15 [])) [])⟩, ⟨(some 6), none, (.v (.mov (.t 19)))⟩]) .ret) .skip)) c_law2_ParseBlocks_24
def sc_law2_ParseBlocks : SFunc := ⟨3, 221, .seq (.reg [⟨(some 6), none, (.v (.mov (.c (.bool false))))⟩]) c_law2_ParseBlocks_25, [(.t 6)]⟩
noncomputable def k_law2_ParseBlocks_2 (SP : Prg) (x : EO) : CO := fin [(.t 6)] (thC SP (inBlk 4 (thC SP (thC SP (inBlk 5 (inBlk 6 (x))) c_law2_ParseBlocks_2) (.loop b_law2_ParseBlocks_1))) c_law2_ParseBlocks_1)
noncomputable def k_law2_ParseBlocks_1 (SP : Prg) (x : EO) : CO := fin [(.t 6)] (thC SP (inBlk 4 (x)) c_law2_ParseBlocks_1)
noncomputable def k_law2_ParseBlocks_4 (SP : Prg) (x : EO) : CO := fin [(.t 6)] (thC SP (inBlk 0 (thC SP (thC SP (inBlk 1 (thC SP (inBlk 2 (x)) c_law2_ParseBlocks_17)) c_law2_ParseBlocks_16) (.loop b_law2_ParseBlocks_3))) c_law2_ParseBlocks_15)
noncomputable def k_law2_ParseBlocks_3 (SP : Prg) (x : EO) : CO := fin [(.t 6)] (thC SP (inBlk 0 (x)) c_law2_ParseBlocks_15)
theorem U_law2_ParseBlocks : type_of% (And.intro (fun (SP : Prg) (ac : Ac) => congrFun (congrArg (E SP) c_law2_ParseBlocks_1.eq_1) ac) <| And.intro (fun (SP : Prg) (ac : Ac) => congrFun (congrArg (E SP) c_law2_ParseBlocks_2.eq_1) ac) <| And.intro (fun (SP : Prg) (ac : Ac) => congrFun (congrArg (E SP) c_law2_ParseBlocks_3.eq_1) ac) <| And.intro (fun (SP : Prg) (ac : Ac) => congrFun (congrArg (E SP) c_law2_ParseBlocks_4.eq_1) ac) <| And.intro (fun (SP : Prg) (ac : Ac) => congrFun (congrArg (E SP) c_law2_ParseBlocks_5.eq_1) ac) <| And.intro (fun (SP : Prg) (ac : Ac) => congrFun (congrArg (E SP) b_law2_ParseBlocks_2.eq_1) ac) <| And.intro (fun (SP : Prg) (ac : Ac) => congrFun (congrArg (E SP) c_law2_ParseBlocks_6.eq_1) ac) <| And.intro (fun (SP : Prg) (ac : Ac) => congrFun (congrArg (E SP) c_law2_ParseBlocks_7.eq_1) ac) <| And.intro (fun (SP : Prg) (ac : Ac) => congrFun (congrArg (E SP) c_law2_ParseBlocks_8.eq_1) ac) <| And.intro (fun (SP : Prg) (ac : Ac) => congrFun (congrArg (E SP) c_law2_ParseBlocks_9.eq_1) ac) <| And.intro (fun (SP : Prg) (ac : Ac) => congrFun (congrArg (E SP) b_law2_ParseBlocks_1.eq_1) ac) <| And.intro (fun (SP : Prg) (ac : Ac) => congrFun (congrArg (E SP) c_law2_ParseBlocks_10.eq_1) ac) <| And.intro (fun (SP : Prg) (ac : Ac) => congrFun (congrArg (E SP) c_law2_ParseBlocks_11.eq_1) ac) <| And.intro (fun (SP : Prg) (ac : Ac) => congrFun (congrArg (E SP) c_law2_ParseBlocks_12.eq_1) ac) <| And.intro (fun (SP : Prg) (ac : Ac) => congrFun (congrArg (E SP) c_law2_ParseBlocks_13.eq_1) ac) <| And.intro (fun (SP : Prg) (ac : Ac) => congrFun (congrArg (E SP) c_law2_ParseBlocks_14.eq_1) ac) <| And.intro (fun (SP : Prg) (ac : Ac) => congrFun (congrArg (E SP) c_law2_ParseBlocks_15.eq_1) ac) <| And.intro (fun (SP : Prg) (ac : Ac) => congrFun (congrArg (E SP) c_law2_ParseBlocks_16.eq_1) ac) <| And.intro (fun (SP : Prg) (ac : Ac) => congrFun (congrArg (E SP) c_law2_ParseBlocks_17.eq_1) ac) <| And.intro (fun (SP : Prg) (ac : Ac) => congrFun (congrArg (E SP) b_law2_ParseBlocks_4.eq_1) ac) <| And.intro (fun (SP : Prg) (ac : Ac) => congrFun (congrArg (E SP) c_law2_ParseBlocks_18.eq_1) ac) <| And.intro (fun (SP : Prg) (ac : Ac) => congrFun (congrArg (E SP) c_law2_ParseBlocks_19.eq_1) ac) <| And.intro (fun (SP : Prg) (ac : Ac) => congrFun (congrArg (E SP) c_law2_ParseBlocks_20.eq_1) ac) <| And.intro (fun (SP : Prg) (ac : Ac) => congrFun (congrArg (E SP) b_law2_ParseBlocks_3.eq_1) ac) <| And.intro (fun (SP : Prg) (ac : Ac) => congrFun (congrArg (E SP) c_law2_ParseBlocks_21.eq_1) ac) <| And.intro (fun (SP : Prg) (ac : Ac) => congrFun (congrArg (E SP) c_law2_ParseBlocks_22.eq_1) ac) <| And.intro (fun (SP : Prg) (ac : Ac) => congrFun (congrArg (E SP) c_law2_ParseBlocks_23.eq_1) ac) <| And.intro (fun (SP : Prg) (ac : Ac) => congrFun (congrArg (E SP) c_law2_ParseBlocks_24.eq_1) ac) <| And.intro (fun (SP : Prg) (ac : Ac) => congrFun (congrArg (E SP) c_law2_ParseBlocks_25.eq_1) ac) <| sc_law2_ParseBlocks.eq_1) := And.intro (fun (SP : Prg) (ac : Ac) => congrFun (congrArg (E SP) c_law2_ParseBlocks_1.eq_1) ac) <| And.intro (fun (SP : Prg) (ac : Ac) => congrFun (congrArg (E SP) c_law2_ParseBlocks_2.eq_1) ac) <| And.intro (fun (SP : Prg) (ac : Ac) => congrFun (congrArg (E SP) c_law2_ParseBlocks_3.eq_1) ac) <| And.intro (fun (SP : Prg) (ac : Ac) => congrFun (congrArg (E SP) c_law2_ParseBlocks_4.eq_1) ac) <| And.intro (fun (SP : Prg) (ac : Ac) => congrFun (congrArg (E SP) c_law2_ParseBlocks_5.eq_1) ac) <| And.intro (fun (SP : Prg) (ac : Ac) => congrFun (congrArg (E SP) b_law2_ParseBlocks_2.eq_1) ac) <| And.intro (fun (SP : Prg) (ac : Ac) => congrFun (congrArg (E SP) c_law2_ParseBlocks_6.eq_1) ac) <| And.intro (fun (SP : Prg) (ac : Ac) => congrFun (congrArg (E SP) c_law2_ParseBlocks_7.eq_1) ac) <| And.intro (fun (SP : Prg) (ac : Ac) => congrFun (congrArg (E SP) c_law2_ParseBlocks_8.eq_1) ac) <| And.intro (fun (SP : Prg) (ac : Ac) => congrFun (congrArg (E SP) c_law2_ParseBlocks_9.eq_1) ac) <| And.intro (fun (SP : Prg) (ac : Ac) => congrFun (congrArg (E SP) b_law2_ParseBlocks_1.eq_1) ac) <| And.intro (fun (SP : Prg) (ac : Ac) => congrFun (congrArg (E SP) c_law2_ParseBlocks_10.eq_1) ac) <| And.intro (fun (SP : Prg) (ac : Ac) => congrFun (congrArg (E SP) c_law2_ParseBlocks_11.eq_1) ac) <| And.intro (fun (SP : Prg) (ac : Ac) => congrFun (congrArg (E SP) c_law2_ParseBlocks_12.eq_1) ac) <| And.intro (fun (SP : Prg) (ac : Ac) => congrFun (congrArg (E SP) c_law2_ParseBlocks_13.eq_1) ac) <| And.intro (fun (SP : Prg) (ac : Ac) => congrFun (congrArg (E SP) c_law2_ParseBlocks_14.eq_1) ac) <| And.intro (fun (SP : Prg) (ac : Ac) => congrFun (congrArg (E SP) c_law2_ParseBlocks_15.eq_1) ac) <| And.intro (fun (SP : Prg) (ac : Ac) => congrFun (congrArg (E SP) c_law2_ParseBlocks_16.eq_1) ac) <| And.intro (fun (SP : Prg) (ac : Ac) => congrFun (congrArg (E SP) c_law2_ParseBlocks_17.eq_1) ac) <| And.intro (fun (SP : Prg) (ac : Ac) => congrFun (congrArg (E SP) b_law2_ParseBlocks_4.eq_1) ac) <| And.intro (fun (SP : Prg) (ac : Ac) => congrFun (congrArg (E SP) c_law2_ParseBlocks_18.eq_1) ac) <| And.intro (fun (SP : Prg) (ac : Ac) => congrFun (congrArg (E SP) c_law2_ParseBlocks_19.eq_1) ac) <| And.intro (fun (SP : Prg) (ac : Ac) => congrFun (congrArg (E SP) c_law2_ParseBlocks_20.eq_1) ac) <| And.intro (fun (SP : Prg) (ac : Ac) => congrFun (congrArg (E SP) b_law2_ParseBlocks_3.eq_1) ac) <| And.intro (fun (SP : Prg) (ac : Ac) => congrFun (congrArg (E SP) c_law2_ParseBlocks_21.eq_1) ac) <| And.intro (fun (SP : Prg) (ac : Ac) => congrFun (congrArg (E SP) c_law2_ParseBlocks_22.eq_1) ac) <| And.intro (fun (SP : Prg) (ac : Ac) => congrFun (congrArg (E SP) c_law2_ParseBlocks_23.eq_1) ac) <| And.intro (fun (SP : Prg) (ac : Ac) => congrFun (congrArg (E SP) c_law2_ParseBlocks_24.eq_1) ac) <| And.intro (fun (SP : Prg) (ac : Ac) => congrFun (congrArg (E SP) c_law2_ParseBlocks_25.eq_1) ac) <| sc_law2_ParseBlocks.eq_1
theorem comp_law2_ParseBlocks : comp Tryz.prog Tryz.f3 = some sc_law2_ParseBlocks := by kernel_rfl
end Go.Proofs.YtfbcnpbhhooapaaGreatDoor.M

/- Trees of functions, printed by a program of this session (lift.py): what a run asks, over plain data. Lean proves each. -/
namespace Go.Proofs.YtfbcnpbhhooapaaGreatDoor.M
set_option linter.unusedSimpArgs false
set_option linter.unusedVariables false
open Go Classical
theorem sp_ref1_Ints : SP 44 = some (.code sc_ref1_Ints) := SPof_code rfl Tryz.func44 comp_ref1_Ints
/-! doorkeeper/doorkeeperref1.Ints -/
def At_ref1_Ints_1 (a : List Int) (b : List Int) (i1 : Int) (r : Bool) : Prop := ∀ (S : Sto) (e : Nat → PV) (f : Fr), e 0 = .list 1 (a.map eI) false ∧ e 1 = .list 1 (b.map eI) false ∧ e 5 = .int .i64 i1 → k_ref1_Ints_1 SP (E SP (.loop b_ref1_Ints_1) ⟨e, f :: S⟩) = .ok (.v (.bool r)) S
set_option maxHeartbeats 4000000 in
theorem At_ref1_Ints_1_step (a : List Int) (b : List Int) (i1 : Int) (r : Bool) (T :
  ((i1 < (a.length : Int)) →
  (0 ≤ i1) ∧
  ∃ (v2 : Int), (a[i1.toNat]? = some v2) ∧
  (0 ≤ i1) ∧
  ∃ (v3 : Int), (b[i1.toNat]? = some v3) ∧
  ((v2 = v3) →
   (I64 (i1 + 1)) ∧
   At_ref1_Ints_1 a b (i1 + 1) r) ∧
  (¬ (v2 = v3) →
   false = r)) ∧
 (¬ (i1 < (a.length : Int)) →
  true = r)) : At_ref1_Ints_1 a b i1 r := by
 intro S e f h
 unfold k_ref1_Ints_1
 rw [E_loop]
 have F := U_ref1_Ints
 replace F := aa h <| F
 by_cases c1 : i1 < (a.length : Int)
 · replace T := T.1 c1
   obtain ⟨p2, v2, q3, p4, v3, q5, T⟩ := T
   replace F := aa (eq_true c1) <| aa p2 <| aa q3 <| aa p4 <| aa q5 <| F
   by_cases c6 : v2 = v3
   · replace T := T.1 c6
     obtain ⟨p7, T⟩ := T
     replace F := aa (eq_true c6) <| aa p7.wrap <| F
     try simp only [F, lw, lx, le, Nat.reduceMul, UInt8.reduceToNat, reduceIte, reduceCtorEq, Nat.reduceEqDiff, Nat.reduceAdd, Nat.reduceLeDiff, Nat.reduceSub, Nat.reduceLT, Int.reduceEq, Int.reduceLT, Int.reduceLE, Int.reduceToNat, Int.reduceAdd, Int.reduceSub, Int.reduceMul, Int.reduceNeg]
     refine T S _ _ ?_
     exact fi F
   · replace T := T.2 c6
     obtain rfl := T
     exact fi (aa (eq_false c6) <| F)
 · replace T := T.2 c1
   obtain rfl := T
   exact fi (aa (eq_false c1) <| F)
set_option maxHeartbeats 4000000 in
theorem ref1_Ints_tree (a : List Int) (b : List Int) (r : Bool) (T :
  (((a.length : Int) = (b.length : Int)) →
  At_ref1_Ints_1 a b 0 r) ∧
 (¬ ((a.length : Int) = (b.length : Int)) →
  false = r)) : R_ref1_Ints a b r := by
 intro S
 rw [call_code sp_ref1_Ints _ _ rfl]
 have F := U_ref1_Ints
 by_cases c1 : (a.length : Int) = (b.length : Int)
 · replace T := T.1 c1
   replace F := aa (eq_true c1) <| F
   try simp only [F, lw, lx, le, Nat.reduceMul, UInt8.reduceToNat, reduceIte, reduceCtorEq, Nat.reduceEqDiff, Nat.reduceAdd, Nat.reduceLeDiff, Nat.reduceSub, Nat.reduceLT, Int.reduceEq, Int.reduceLT, Int.reduceLE, Int.reduceToNat, Int.reduceAdd, Int.reduceSub, Int.reduceMul, Int.reduceNeg]
   refine T S _ _ ?_
   exact fi F
 · replace T := T.2 c1
   obtain rfl := T
   exact fi (aa (eq_false c1) <| F)
theorem sp_ref1_SameNodes : SP 21 = some (.code sc_ref1_SameNodes) := SPof_code rfl Tryz.func21 comp_ref1_SameNodes
/-! doorkeeper/doorkeeperref1.SameNodes -/
def At_ref1_SameNodes_1 (a : List Node) (b : List Node) (i1 : Int) (r : Bool) : Prop := ∀ (S : Sto) (e : Nat → PV) (f : Fr), e 0 = .list 5 (a.map eNode) false ∧ e 1 = .list 5 (b.map eNode) false ∧ e 5 = .int .i64 i1 → k_ref1_SameNodes_1 SP (E SP (.loop b_ref1_SameNodes_1) ⟨e, f :: S⟩) = .ok (.v (.bool r)) S
set_option maxHeartbeats 4000000 in
theorem At_ref1_SameNodes_1_step (a : List Node) (b : List Node) (i1 : Int) (r : Bool) (T :
  ((i1 < (a.length : Int)) →
  (0 ≤ i1) ∧
  ∃ (v2 : Node), (a[i1.toNat]? = some v2) ∧
  (0 ≤ i1) ∧
  ∃ (v3 : Node), (b[i1.toNat]? = some v3) ∧
  ((v2.Kind = v3.Kind) →
   ((v2.Num = v3.Num) →
    ((v2.Text = v3.Text) →
     ∃ (r4 : Bool), (R_ref1_SameParts v2.Parts v3.Parts r4) ∧
     ((r4 = true) →
      ∃ (r5 : Bool), (R_ref1_Ints v2.Kids v3.Kids r5) ∧
      ((r5 = true) →
       (I64 (i1 + 1)) ∧
       At_ref1_SameNodes_1 a b (i1 + 1) r) ∧
      (¬ (r5 = true) →
       false = r)) ∧
     (¬ (r4 = true) →
      false = r)) ∧
    (¬ (v2.Text = v3.Text) →
     false = r)) ∧
   (¬ (v2.Num = v3.Num) →
    false = r)) ∧
  (¬ (v2.Kind = v3.Kind) →
   false = r)) ∧
 (¬ (i1 < (a.length : Int)) →
  true = r)) : At_ref1_SameNodes_1 a b i1 r := by
 intro S e f h
 unfold k_ref1_SameNodes_1
 rw [E_loop]
 have F := U_ref1_SameNodes
 replace F := aa h <| F
 by_cases c1 : i1 < (a.length : Int)
 · replace T := T.1 c1
   obtain ⟨p2, v2, q3, p4, v3, q5, T⟩ := T
   replace F := aa (eq_true c1) <| aa p2 <| aa q3 <| aa p4 <| aa q5 <| F
   by_cases c6 : v2.Kind = v3.Kind
   · replace T := T.1 c6
     replace F := aa (eq_true c6) <| F
     by_cases c7 : v2.Num = v3.Num
     · replace T := T.1 c7
       replace F := aa (eq_true c7) <| F
       by_cases c8 : v2.Text = v3.Text
       · replace T := T.1 c8
         obtain ⟨r4, q9, T⟩ := T
         simp only [R_ref1_SameParts, le, List.cons_append, List.nil_append] at q9
         replace F := aa (eq_true c8) <| aa q9 <| F
         by_cases c10 : r4 = true
         · replace T := T.1 c10
           obtain ⟨r5, q11, T⟩ := T
           simp only [R_ref1_Ints, le, List.cons_append, List.nil_append] at q11
           replace F := aa c10 <| aa q11 <| F
           by_cases c12 : r5 = true
           · replace T := T.1 c12
             obtain ⟨p13, T⟩ := T
             replace F := aa c12 <| aa p13.wrap <| F
             try simp only [F, lw, lx, le, Nat.reduceMul, UInt8.reduceToNat, reduceIte, reduceCtorEq, Nat.reduceEqDiff, Nat.reduceAdd, Nat.reduceLeDiff, Nat.reduceSub, Nat.reduceLT, Int.reduceEq, Int.reduceLT, Int.reduceLE, Int.reduceToNat, Int.reduceAdd, Int.reduceSub, Int.reduceMul, Int.reduceNeg]
             refine T S _ _ ?_
             exact fi F
           · replace T := T.2 c12
             replace c12 := Bool.eq_false_iff.2 c12
             obtain rfl := T
             exact fi (aa c12 <| F)
         · replace T := T.2 c10
           replace c10 := Bool.eq_false_iff.2 c10
           obtain rfl := T
           exact fi (aa c10 <| F)
       · replace T := T.2 c8
         obtain rfl := T
         exact fi (aa (eq_false c8) <| F)
     · replace T := T.2 c7
       obtain rfl := T
       exact fi (aa (eq_false c7) <| F)
   · replace T := T.2 c6
     obtain rfl := T
     exact fi (aa (eq_false c6) <| F)
 · replace T := T.2 c1
   obtain rfl := T
   exact fi (aa (eq_false c1) <| F)
set_option maxHeartbeats 4000000 in
theorem ref1_SameNodes_tree (a : List Node) (b : List Node) (r : Bool) (T :
  (((a.length : Int) = (b.length : Int)) →
  At_ref1_SameNodes_1 a b 0 r) ∧
 (¬ ((a.length : Int) = (b.length : Int)) →
  false = r)) : R_ref1_SameNodes a b r := by
 intro S
 rw [call_code sp_ref1_SameNodes _ _ rfl]
 have F := U_ref1_SameNodes
 by_cases c1 : (a.length : Int) = (b.length : Int)
 · replace T := T.1 c1
   replace F := aa (eq_true c1) <| F
   try simp only [F, lw, lx, le, Nat.reduceMul, UInt8.reduceToNat, reduceIte, reduceCtorEq, Nat.reduceEqDiff, Nat.reduceAdd, Nat.reduceLeDiff, Nat.reduceSub, Nat.reduceLT, Int.reduceEq, Int.reduceLT, Int.reduceLE, Int.reduceToNat, Int.reduceAdd, Int.reduceSub, Int.reduceMul, Int.reduceNeg]
   refine T S _ _ ?_
   exact fi F
 · replace T := T.2 c1
   obtain rfl := T
   exact fi (aa (eq_false c1) <| F)
theorem sp_ref1_SameBlocks : SP 19 = some (.code sc_ref1_SameBlocks) := SPof_code rfl Tryz.func19 comp_ref1_SameBlocks
/-! doorkeeper/doorkeeperref1.SameBlocks -/
def At_ref1_SameBlocks_1 (a : List Block) (b : List Block) (i1 : Int) (r : Bool) : Prop := ∀ (S : Sto) (e : Nat → PV) (f : Fr), e 0 = .list 4 (a.map eBlock) false ∧ e 1 = .list 4 (b.map eBlock) false ∧ e 5 = .int .i64 i1 → k_ref1_SameBlocks_1 SP (E SP (.loop b_ref1_SameBlocks_1) ⟨e, f :: S⟩) = .ok (.v (.bool r)) S
def At_ref1_SameBlocks_2 (a : List Block) (b : List Block) (i1 : Int) (i5 : Int) (r : Bool) : Prop := ∀ (S : Sto) (e : Nat → PV) (f : Fr), e 0 = .list 4 (a.map eBlock) false ∧ e 1 = .list 4 (b.map eBlock) false ∧ e 5 = .int .i64 i1 ∧ e 6 = .int .i64 i5 → k_ref1_SameBlocks_2 SP (E SP (.loop b_ref1_SameBlocks_2) ⟨e, f :: S⟩) = .ok (.v (.bool r)) S
set_option maxHeartbeats 4000000 in
theorem At_ref1_SameBlocks_1_step (a : List Block) (b : List Block) (i1 : Int) (r : Bool) (T :
  ((i1 < (a.length : Int)) →
  (0 ≤ i1) ∧
  ∃ (v2 : Block), (a[i1.toNat]? = some v2) ∧
  (0 ≤ i1) ∧
  ∃ (v3 : Block), (b[i1.toNat]? = some v3) ∧
  ((v2.Kind = v3.Kind) →
   ((v2.Label = v3.Label) →
    (((v2.Attrs.length : Int) = (v3.Attrs.length : Int)) →
     ∃ (r4 : Bool), (R_ref1_SameBlocks v2.Blocks v3.Blocks r4) ∧
     ((r4 = true) →
      At_ref1_SameBlocks_2 a b i1 0 r) ∧
     (¬ (r4 = true) →
      false = r)) ∧
    (¬ ((v2.Attrs.length : Int) = (v3.Attrs.length : Int)) →
     false = r)) ∧
   (¬ (v2.Label = v3.Label) →
    false = r)) ∧
  (¬ (v2.Kind = v3.Kind) →
   false = r)) ∧
 (¬ (i1 < (a.length : Int)) →
  true = r)) : At_ref1_SameBlocks_1 a b i1 r := by
 intro S e f h
 unfold k_ref1_SameBlocks_1
 rw [E_loop]
 have F := U_ref1_SameBlocks
 replace F := aa h <| F
 by_cases c1 : i1 < (a.length : Int)
 · replace T := T.1 c1
   obtain ⟨p2, v2, q3, p4, v3, q5, T⟩ := T
   replace F := aa (eq_true c1) <| aa p2 <| aa q3 <| aa p4 <| aa q5 <| F
   by_cases c6 : v2.Kind = v3.Kind
   · replace T := T.1 c6
     replace F := aa (eq_true c6) <| F
     by_cases c7 : v2.Label = v3.Label
     · replace T := T.1 c7
       replace F := aa (eq_true c7) <| F
       by_cases c8 : (v2.Attrs.length : Int) = (v3.Attrs.length : Int)
       · replace T := T.1 c8
         obtain ⟨r4, q9, T⟩ := T
         simp only [R_ref1_SameBlocks, le, List.cons_append, List.nil_append] at q9
         replace F := aa (eq_true c8) <| aa q9 <| F
         by_cases c10 : r4 = true
         · replace T := T.1 c10
           replace F := aa c10 <| F
           try simp only [F, lw, lx, le, Nat.reduceMul, UInt8.reduceToNat, reduceIte, reduceCtorEq, Nat.reduceEqDiff, Nat.reduceAdd, Nat.reduceLeDiff, Nat.reduceSub, Nat.reduceLT, Int.reduceEq, Int.reduceLT, Int.reduceLE, Int.reduceToNat, Int.reduceAdd, Int.reduceSub, Int.reduceMul, Int.reduceNeg]
           refine T S _ _ ?_
           exact fi F
         · replace T := T.2 c10
           replace c10 := Bool.eq_false_iff.2 c10
           obtain rfl := T
           exact fi (aa c10 <| F)
       · replace T := T.2 c8
         obtain rfl := T
         exact fi (aa (eq_false c8) <| F)
     · replace T := T.2 c7
       obtain rfl := T
       exact fi (aa (eq_false c7) <| F)
   · replace T := T.2 c6
     obtain rfl := T
     exact fi (aa (eq_false c6) <| F)
 · replace T := T.2 c1
   obtain rfl := T
   exact fi (aa (eq_false c1) <| F)
set_option maxHeartbeats 4000000 in
theorem At_ref1_SameBlocks_2_step (a : List Block) (b : List Block) (i1 : Int) (i5 : Int) (r : Bool) (T :
  (0 ≤ i1) ∧
 ∃ (v6 : Block), (a[i1.toNat]? = some v6) ∧
 ((i5 < (v6.Attrs.length : Int)) →
  (0 ≤ i5) ∧
  ∃ (v7 : Attr), (v6.Attrs[i5.toNat]? = some v7) ∧
  (0 ≤ i1) ∧
  ∃ (v8 : Block), (b[i1.toNat]? = some v8) ∧
  (0 ≤ i5) ∧
  ∃ (v9 : Attr), (v8.Attrs[i5.toNat]? = some v9) ∧
  ((v7.Name = v9.Name) →
   ∃ (r10 : Bool), (R_ref1_SameNodes v7.Expr v9.Expr r10) ∧
   ((r10 = true) →
    (I64 (i5 + 1)) ∧
    At_ref1_SameBlocks_2 a b i1 (i5 + 1) r) ∧
   (¬ (r10 = true) →
    false = r)) ∧
  (¬ (v7.Name = v9.Name) →
   false = r)) ∧
 (¬ (i5 < (v6.Attrs.length : Int)) →
  (I64 (i1 + 1)) ∧
  At_ref1_SameBlocks_1 a b (i1 + 1) r)) : At_ref1_SameBlocks_2 a b i1 i5 r := by
 intro S e f h
 unfold k_ref1_SameBlocks_2
 rw [E_loop]
 have F := U_ref1_SameBlocks
 obtain ⟨p1, v6, q2, T⟩ := T
 replace F := aa h <| aa p1 <| aa q2 <| F
 by_cases c3 : i5 < (v6.Attrs.length : Int)
 · replace T := T.1 c3
   obtain ⟨p4, v7, q5, p6, v8, q7, p8, v9, q9, T⟩ := T
   replace F := aa (eq_true c3) <| aa p4 <| aa q5 <| aa p6 <| aa q7 <| aa p8 <| aa q9 <| F
   by_cases c10 : v7.Name = v9.Name
   · replace T := T.1 c10
     obtain ⟨r10, q11, T⟩ := T
     simp only [R_ref1_SameNodes, le, List.cons_append, List.nil_append] at q11
     replace F := aa (eq_true c10) <| aa q11 <| F
     by_cases c12 : r10 = true
     · replace T := T.1 c12
       obtain ⟨p13, T⟩ := T
       replace F := aa c12 <| aa p13.wrap <| F
       try simp only [F, lw, lx, le, Nat.reduceMul, UInt8.reduceToNat, reduceIte, reduceCtorEq, Nat.reduceEqDiff, Nat.reduceAdd, Nat.reduceLeDiff, Nat.reduceSub, Nat.reduceLT, Int.reduceEq, Int.reduceLT, Int.reduceLE, Int.reduceToNat, Int.reduceAdd, Int.reduceSub, Int.reduceMul, Int.reduceNeg]
       refine T S _ _ ?_
       exact fi F
     · replace T := T.2 c12
       replace c12 := Bool.eq_false_iff.2 c12
       obtain rfl := T
       exact fi (aa c12 <| F)
   · replace T := T.2 c10
     obtain rfl := T
     exact fi (aa (eq_false c10) <| F)
 · replace T := T.2 c3
   obtain ⟨p14, T⟩ := T
   replace F := aa (eq_false c3) <| aa p14.wrap <| F
   try simp only [F, lw, lx, le, Nat.reduceMul, UInt8.reduceToNat, reduceIte, reduceCtorEq, Nat.reduceEqDiff, Nat.reduceAdd, Nat.reduceLeDiff, Nat.reduceSub, Nat.reduceLT, Int.reduceEq, Int.reduceLT, Int.reduceLE, Int.reduceToNat, Int.reduceAdd, Int.reduceSub, Int.reduceMul, Int.reduceNeg]
   refine T S _ _ ?_
   exact fi F
set_option maxHeartbeats 4000000 in
theorem ref1_SameBlocks_tree (a : List Block) (b : List Block) (r : Bool) (T :
  (((a.length : Int) = (b.length : Int)) →
  At_ref1_SameBlocks_1 a b 0 r) ∧
 (¬ ((a.length : Int) = (b.length : Int)) →
  false = r)) : R_ref1_SameBlocks a b r := by
 intro S
 rw [call_code sp_ref1_SameBlocks _ _ rfl]
 have F := U_ref1_SameBlocks
 by_cases c1 : (a.length : Int) = (b.length : Int)
 · replace T := T.1 c1
   replace F := aa (eq_true c1) <| F
   try simp only [F, lw, lx, le, Nat.reduceMul, UInt8.reduceToNat, reduceIte, reduceCtorEq, Nat.reduceEqDiff, Nat.reduceAdd, Nat.reduceLeDiff, Nat.reduceSub, Nat.reduceLT, Int.reduceEq, Int.reduceLT, Int.reduceLE, Int.reduceToNat, Int.reduceAdd, Int.reduceSub, Int.reduceMul, Int.reduceNeg]
   refine T S _ _ ?_
   exact fi F
 · replace T := T.2 c1
   obtain rfl := T
   exact fi (aa (eq_false c1) <| F)
/-! doorkeeper/doorkeeperlaw2.ParseBrackets -/
theorem sp_law2_ParseBlocks : SP 3 = some (.code sc_law2_ParseBlocks) := SPof_code rfl Tryz.func3 comp_law2_ParseBlocks
/-! doorkeeper/doorkeeperlaw2.ParseBlocks -/
def At_law2_ParseBlocks_3 (kinds : List UInt8) (attrs : UInt8) (twice : Bool) (s2 : List UInt8) (i3 : Int) (r : Bool) : Prop := ∀ (S : Sto) (e : Nat → PV) (f : Fr), e 0 = .list 1 (kinds.map eB) false ∧ e 2 = .bool twice ∧ e 7 = .int .i64 ((attrs.toNat : Int).tmod 6) ∧ e 8 = .str s2 ∧ e 9 = .int .i64 i3 → k_law2_ParseBlocks_3 SP (E SP (.loop b_law2_ParseBlocks_3) ⟨e, f :: S⟩) = .ok (.v (.bool r)) S
def At_law2_ParseBlocks_4 (kinds : List UInt8) (attrs : UInt8) (twice : Bool) (i3 : Int) (s6 : List UInt8) (i7 : Int) (r : Bool) : Prop := ∀ (S : Sto) (e : Nat → PV) (f : Fr), e 0 = .list 1 (kinds.map eB) false ∧ e 2 = .bool twice ∧ e 7 = .int .i64 ((attrs.toNat : Int).tmod 6) ∧ e 8 = .str s6 ∧ e 9 = .int .i64 i3 ∧ e 11 = .int .i64 i7 → k_law2_ParseBlocks_4 SP (E SP (.loop b_law2_ParseBlocks_4) ⟨e, f :: S⟩) = .ok (.v (.bool r)) S
def At_law2_ParseBlocks_1 (kinds : List UInt8) (attrs : UInt8) (r8 : List Block) (i14 : Int) (r : Bool) : Prop := ∀ (S : Sto) (e : Nat → PV) (f : Fr), e 0 = .list 1 (kinds.map eB) false ∧ e 7 = .int .i64 ((attrs.toNat : Int).tmod 6) ∧ e 12 = .list 4 (r8.map eBlock) false ∧ e 14 = .int .i64 i14 → k_law2_ParseBlocks_1 SP (E SP (.loop b_law2_ParseBlocks_1) ⟨e, f :: S⟩) = .ok (.v (.bool r)) S
def At_law2_ParseBlocks_2 (kinds : List UInt8) (attrs : UInt8) (r8 : List Block) (i14 : Int) (i24 : Int) (r : Bool) : Prop := ∀ (S : Sto) (e : Nat → PV) (f : Fr), e 0 = .list 1 (kinds.map eB) false ∧ e 7 = .int .i64 ((attrs.toNat : Int).tmod 6) ∧ e 12 = .list 4 (r8.map eBlock) false ∧ e 14 = .int .i64 i14 ∧ e 15 = .int .i64 i24 → k_law2_ParseBlocks_2 SP (E SP (.loop b_law2_ParseBlocks_2) ⟨e, f :: S⟩) = .ok (.v (.bool r)) S
set_option maxHeartbeats 4000000 in
theorem At_law2_ParseBlocks_3_step (kinds : List UInt8) (attrs : UInt8) (twice : Bool) (s2 : List UInt8) (i3 : Int) (r : Bool) (T :
  ((i3 < (kinds.length : Int)) →
  (0 ≤ i3) ∧
  ∃ (v4 : UInt8), (kinds[i3.toNat]? = some v4) ∧
  (I64 ((v4.toNat : Int))) ∧
  (I64 (1 + ((v4.toNat : Int).tmod 4))) ∧
  (0 ≤ (1 + ((v4.toNat : Int).tmod 4))) ∧
  ∃ (v5 : List UInt8), (([[], [118, 97, 114, 105, 97, 98, 108, 101, 32, 34, 118, 34, 32, 123], [108, 111, 99, 97, 108, 115, 32, 123], [110, 111, 100, 101, 32, 34, 110, 34, 32, 123], [109, 111, 100, 117, 108, 101, 32, 34, 109, 34, 32, 123]] : List (List UInt8))[(1 + ((v4.toNat : Int).tmod 4)).toNat]? = some v5) ∧
  (s2.length + v5.length ≤ maxInt) ∧
  At_law2_ParseBlocks_4 kinds attrs twice i3 (s2 ++ v5) 0 r) ∧
 (¬ (i3 < (kinds.length : Int)) →
  (s2.length + 13 ≤ maxInt) ∧
  (s2.length + 13 + s2.length ≤ maxInt) ∧
  (s2.length + 13 + s2.length + 2 ≤ maxInt) ∧
  ∃ (r8 : List Block) (r9 : Int), (R_parse_Parse (((s2 ++ [100, 101, 102, 105, 110, 101, 32, 34, 100, 34, 32, 123, 32]) ++ s2) ++ [32, 125]) r8 r9) ∧
  ((twice = true) →
   ((0 < ((attrs.toNat : Int).tmod 6)) →
    ((0 < (kinds.length : Int)) →
     ∃ (r10 : Int), (R_law1_Num r9 r10) ∧
     ((r10 = 3) →
      (((r8.length : Int) = 0) →
       ∃ (r11 : Bool), (R_law2_awake r11) ∧
       r11 = r) ∧
      (¬ ((r8.length : Int) = 0) →
       false = r)) ∧
     (¬ (r10 = 3) →
      false = r)) ∧
    (¬ (0 < (kinds.length : Int)) →
     ∃ (r12 : Int), (R_law1_Num r9 r12) ∧
     ((r12 = 0) →
      (I64 ((kinds.length : Int) + 1)) ∧
      (((r8.length : Int) = ((kinds.length : Int) + 1)) →
       (0 ≤ (kinds.length : Int)) ∧
       ∃ (v13 : Block), (r8[kinds.length]? = some v13) ∧
       (((v13.Blocks.length : Int) = (kinds.length : Int)) →
        At_law2_ParseBlocks_1 kinds attrs r8 0 r) ∧
       (¬ ((v13.Blocks.length : Int) = (kinds.length : Int)) →
        false = r)) ∧
      (¬ ((r8.length : Int) = ((kinds.length : Int) + 1)) →
       false = r)) ∧
     (¬ (r12 = 0) →
      false = r))) ∧
   (¬ (0 < ((attrs.toNat : Int).tmod 6)) →
    ∃ (r15 : Int), (R_law1_Num r9 r15) ∧
    ((r15 = 0) →
     (I64 ((kinds.length : Int) + 1)) ∧
     (((r8.length : Int) = ((kinds.length : Int) + 1)) →
      (0 ≤ (kinds.length : Int)) ∧
      ∃ (v16 : Block), (r8[kinds.length]? = some v16) ∧
      (((v16.Blocks.length : Int) = (kinds.length : Int)) →
       At_law2_ParseBlocks_1 kinds attrs r8 0 r) ∧
      (¬ ((v16.Blocks.length : Int) = (kinds.length : Int)) →
       false = r)) ∧
     (¬ ((r8.length : Int) = ((kinds.length : Int) + 1)) →
      false = r)) ∧
    (¬ (r15 = 0) →
     false = r))) ∧
  (¬ (twice = true) →
   ∃ (r17 : Int), (R_law1_Num r9 r17) ∧
   ((r17 = 0) →
    (I64 ((kinds.length : Int) + 1)) ∧
    (((r8.length : Int) = ((kinds.length : Int) + 1)) →
     (0 ≤ (kinds.length : Int)) ∧
     ∃ (v18 : Block), (r8[kinds.length]? = some v18) ∧
     (((v18.Blocks.length : Int) = (kinds.length : Int)) →
      At_law2_ParseBlocks_1 kinds attrs r8 0 r) ∧
     (¬ ((v18.Blocks.length : Int) = (kinds.length : Int)) →
      false = r)) ∧
    (¬ ((r8.length : Int) = ((kinds.length : Int) + 1)) →
     false = r)) ∧
   (¬ (r17 = 0) →
    false = r)))) : At_law2_ParseBlocks_3 kinds attrs twice s2 i3 r := by
 intro S e f h
 unfold k_law2_ParseBlocks_3
 rw [E_loop]
 have F := U_law2_ParseBlocks
 replace F := aa h <| F
 by_cases c1 : i3 < (kinds.length : Int)
 · replace T := T.1 c1
   obtain ⟨p2, v4, q3, p4, p5, p6, v5, q7, p8, T⟩ := T
   replace q7 := congrArg (Option.map eS) q7
   rw [← List.getElem?_map] at q7
   simp only [le, List.map_append, Option.map_some] at q7
   replace F := aa (eq_true c1) <| aa p2 <| aa q3 <| aa p4.wrap <| aa p5.wrap <| aa p6 <| aa q7 <| aa p8 <| F
   try simp only [F, lw, lx, le, Nat.reduceMul, UInt8.reduceToNat, reduceIte, reduceCtorEq, Nat.reduceEqDiff, Nat.reduceAdd, Nat.reduceLeDiff, Nat.reduceSub, Nat.reduceLT, Int.reduceEq, Int.reduceLT, Int.reduceLE, Int.reduceToNat, Int.reduceAdd, Int.reduceSub, Int.reduceMul, Int.reduceNeg]
   refine T S _ _ ?_
   exact fi F
 · replace T := T.2 c1
   obtain ⟨p9, p10, p11, r8, r9, q12, T⟩ := T
   simp only [R_parse_Parse, le, List.cons_append, List.nil_append] at q12
   replace F := aa (eq_false c1) <| aa p9 <| aa p10 <| aa p11 <| aa q12 <| F
   by_cases c13 : twice = true
   · replace T := T.1 c13
     replace F := aa c13 <| F
     by_cases c14 : 0 < ((attrs.toNat : Int).tmod 6)
     · replace T := T.1 c14
       replace F := aa (eq_true c14) <| F
       by_cases c15 : 0 < (kinds.length : Int)
       · replace T := T.1 c15
         obtain ⟨r10, q16, T⟩ := T
         simp only [R_law1_Num, le, List.cons_append, List.nil_append] at q16
         replace F := aa (eq_true c15) <| aa q16 <| F
         by_cases c17 : r10 = 3
         · replace T := T.1 c17
           replace F := aa (eq_true c17) <| F
           by_cases c18 : (r8.length : Int) = 0
           · replace T := T.1 c18
             obtain ⟨r11, q19, rfl⟩ := T
             simp only [R_law2_awake, le, List.cons_append, List.nil_append] at q19
             exact fi (aa (eq_true c18) <| aa q19 <| F)
           · replace T := T.2 c18
             obtain rfl := T
             exact fi (aa (eq_false c18) <| F)
         · replace T := T.2 c17
           obtain rfl := T
           exact fi (aa (eq_false c17) <| F)
       · replace T := T.2 c15
         obtain ⟨r12, q20, T⟩ := T
         simp only [R_law1_Num, le, List.cons_append, List.nil_append] at q20
         replace F := aa (eq_false c15) <| aa q20 <| F
         by_cases c21 : r12 = 0
         · replace T := T.1 c21
           obtain ⟨p22, T⟩ := T
           replace F := aa (eq_true c21) <| aa p22.wrap <| F
           by_cases c23 : (r8.length : Int) = ((kinds.length : Int) + 1)
           · replace T := T.1 c23
             obtain ⟨p24, v13, q25, T⟩ := T
             replace F := aa (eq_true c23) <| aa p24 <| aa q25 <| F
             by_cases c26 : (v13.Blocks.length : Int) = (kinds.length : Int)
             · replace T := T.1 c26
               replace F := aa (eq_true c26) <| F
               try simp only [F, lw, lx, le, Nat.reduceMul, UInt8.reduceToNat, reduceIte, reduceCtorEq, Nat.reduceEqDiff, Nat.reduceAdd, Nat.reduceLeDiff, Nat.reduceSub, Nat.reduceLT, Int.reduceEq, Int.reduceLT, Int.reduceLE, Int.reduceToNat, Int.reduceAdd, Int.reduceSub, Int.reduceMul, Int.reduceNeg]
               refine T S _ _ ?_
               exact fi F
             · replace T := T.2 c26
               obtain rfl := T
               exact fi (aa (eq_false c26) <| F)
           · replace T := T.2 c23
             obtain rfl := T
             exact fi (aa (eq_false c23) <| F)
         · replace T := T.2 c21
           obtain rfl := T
           exact fi (aa (eq_false c21) <| F)
     · replace T := T.2 c14
       obtain ⟨r15, q27, T⟩ := T
       simp only [R_law1_Num, le, List.cons_append, List.nil_append] at q27
       replace F := aa (eq_false c14) <| aa q27 <| F
       by_cases c28 : r15 = 0
       · replace T := T.1 c28
         obtain ⟨p29, T⟩ := T
         replace F := aa (eq_true c28) <| aa p29.wrap <| F
         by_cases c30 : (r8.length : Int) = ((kinds.length : Int) + 1)
         · replace T := T.1 c30
           obtain ⟨p31, v16, q32, T⟩ := T
           replace F := aa (eq_true c30) <| aa p31 <| aa q32 <| F
           by_cases c33 : (v16.Blocks.length : Int) = (kinds.length : Int)
           · replace T := T.1 c33
             replace F := aa (eq_true c33) <| F
             try simp only [F, lw, lx, le, Nat.reduceMul, UInt8.reduceToNat, reduceIte, reduceCtorEq, Nat.reduceEqDiff, Nat.reduceAdd, Nat.reduceLeDiff, Nat.reduceSub, Nat.reduceLT, Int.reduceEq, Int.reduceLT, Int.reduceLE, Int.reduceToNat, Int.reduceAdd, Int.reduceSub, Int.reduceMul, Int.reduceNeg]
             refine T S _ _ ?_
             exact fi F
           · replace T := T.2 c33
             obtain rfl := T
             exact fi (aa (eq_false c33) <| F)
         · replace T := T.2 c30
           obtain rfl := T
           exact fi (aa (eq_false c30) <| F)
       · replace T := T.2 c28
         obtain rfl := T
         exact fi (aa (eq_false c28) <| F)
   · replace T := T.2 c13
     replace c13 := Bool.eq_false_iff.2 c13
     obtain ⟨r17, q34, T⟩ := T
     simp only [R_law1_Num, le, List.cons_append, List.nil_append] at q34
     replace F := aa c13 <| aa q34 <| F
     by_cases c35 : r17 = 0
     · replace T := T.1 c35
       obtain ⟨p36, T⟩ := T
       replace F := aa (eq_true c35) <| aa p36.wrap <| F
       by_cases c37 : (r8.length : Int) = ((kinds.length : Int) + 1)
       · replace T := T.1 c37
         obtain ⟨p38, v18, q39, T⟩ := T
         replace F := aa (eq_true c37) <| aa p38 <| aa q39 <| F
         by_cases c40 : (v18.Blocks.length : Int) = (kinds.length : Int)
         · replace T := T.1 c40
           replace F := aa (eq_true c40) <| F
           try simp only [F, lw, lx, le, Nat.reduceMul, UInt8.reduceToNat, reduceIte, reduceCtorEq, Nat.reduceEqDiff, Nat.reduceAdd, Nat.reduceLeDiff, Nat.reduceSub, Nat.reduceLT, Int.reduceEq, Int.reduceLT, Int.reduceLE, Int.reduceToNat, Int.reduceAdd, Int.reduceSub, Int.reduceMul, Int.reduceNeg]
           refine T S _ _ ?_
           exact fi F
         · replace T := T.2 c40
           obtain rfl := T
           exact fi (aa (eq_false c40) <| F)
       · replace T := T.2 c37
         obtain rfl := T
         exact fi (aa (eq_false c37) <| F)
     · replace T := T.2 c35
       obtain rfl := T
       exact fi (aa (eq_false c35) <| F)
set_option maxHeartbeats 4000000 in
theorem At_law2_ParseBlocks_4_step (kinds : List UInt8) (attrs : UInt8) (twice : Bool) (i3 : Int) (s6 : List UInt8) (i7 : Int) (r : Bool) (T :
  ((i7 < ((attrs.toNat : Int).tmod 6)) →
  (s6.length + 2 ≤ maxInt) ∧
  ∃ (r19 : List UInt8), (R_ref1_Digits i7 r19) ∧
  (s6.length + 2 + r19.length ≤ maxInt) ∧
  (s6.length + 2 + r19.length + 3 ≤ maxInt) ∧
  (s6.length + 2 + r19.length + 3 + r19.length ≤ maxInt) ∧
  (I64 (i7 + 1)) ∧
  At_law2_ParseBlocks_4 kinds attrs twice i3 ((((s6 ++ [32, 97]) ++ r19) ++ [32, 61, 32]) ++ r19) (i7 + 1) r) ∧
 (¬ (i7 < ((attrs.toNat : Int).tmod 6)) →
  ((twice = true) →
   (I64 ((kinds.length : Int) - 1)) ∧
   ((i3 = ((kinds.length : Int) - 1)) →
    ((0 < ((attrs.toNat : Int).tmod 6)) →
     (s6.length + 7 ≤ maxInt) ∧
     (s6.length + 7 + 3 ≤ maxInt) ∧
     (I64 (i3 + 1)) ∧
     At_law2_ParseBlocks_3 kinds attrs twice ((s6 ++ [32, 97, 48, 32, 61, 32, 49]) ++ [32, 125, 10]) (i3 + 1) r) ∧
    (¬ (0 < ((attrs.toNat : Int).tmod 6)) →
     (s6.length + 3 ≤ maxInt) ∧
     (I64 (i3 + 1)) ∧
     At_law2_ParseBlocks_3 kinds attrs twice (s6 ++ [32, 125, 10]) (i3 + 1) r)) ∧
   (¬ (i3 = ((kinds.length : Int) - 1)) →
    (s6.length + 3 ≤ maxInt) ∧
    (I64 (i3 + 1)) ∧
    At_law2_ParseBlocks_3 kinds attrs twice (s6 ++ [32, 125, 10]) (i3 + 1) r)) ∧
  (¬ (twice = true) →
   (s6.length + 3 ≤ maxInt) ∧
   (I64 (i3 + 1)) ∧
   At_law2_ParseBlocks_3 kinds attrs twice (s6 ++ [32, 125, 10]) (i3 + 1) r))) : At_law2_ParseBlocks_4 kinds attrs twice i3 s6 i7 r := by
 intro S e f h
 unfold k_law2_ParseBlocks_4
 rw [E_loop]
 have F := U_law2_ParseBlocks
 replace F := aa h <| F
 by_cases c1 : i7 < ((attrs.toNat : Int).tmod 6)
 · replace T := T.1 c1
   obtain ⟨p2, r19, q3, p4, p5, p6, p7, T⟩ := T
   simp only [R_ref1_Digits, le, List.cons_append, List.nil_append] at q3
   replace F := aa (eq_true c1) <| aa p2 <| aa q3 <| aa p4 <| aa p5 <| aa p6 <| aa p7.wrap <| F
   try simp only [F, lw, lx, le, Nat.reduceMul, UInt8.reduceToNat, reduceIte, reduceCtorEq, Nat.reduceEqDiff, Nat.reduceAdd, Nat.reduceLeDiff, Nat.reduceSub, Nat.reduceLT, Int.reduceEq, Int.reduceLT, Int.reduceLE, Int.reduceToNat, Int.reduceAdd, Int.reduceSub, Int.reduceMul, Int.reduceNeg]
   refine T S _ _ ?_
   exact fi F
 · replace T := T.2 c1
   replace F := aa (eq_false c1) <| F
   by_cases c8 : twice = true
   · replace T := T.1 c8
     obtain ⟨p9, T⟩ := T
     replace F := aa c8 <| aa p9.wrap <| F
     by_cases c10 : i3 = ((kinds.length : Int) - 1)
     · replace T := T.1 c10
       replace F := aa (eq_true c10) <| F
       by_cases c11 : 0 < ((attrs.toNat : Int).tmod 6)
       · replace T := T.1 c11
         obtain ⟨p12, p13, p14, T⟩ := T
         replace F := aa (eq_true c11) <| aa p12 <| aa p13 <| aa p14.wrap <| F
         try simp only [F, lw, lx, le, Nat.reduceMul, UInt8.reduceToNat, reduceIte, reduceCtorEq, Nat.reduceEqDiff, Nat.reduceAdd, Nat.reduceLeDiff, Nat.reduceSub, Nat.reduceLT, Int.reduceEq, Int.reduceLT, Int.reduceLE, Int.reduceToNat, Int.reduceAdd, Int.reduceSub, Int.reduceMul, Int.reduceNeg]
         refine T S _ _ ?_
         exact fi F
       · replace T := T.2 c11
         obtain ⟨p15, p16, T⟩ := T
         replace F := aa (eq_false c11) <| aa p15 <| aa p16.wrap <| F
         try simp only [F, lw, lx, le, Nat.reduceMul, UInt8.reduceToNat, reduceIte, reduceCtorEq, Nat.reduceEqDiff, Nat.reduceAdd, Nat.reduceLeDiff, Nat.reduceSub, Nat.reduceLT, Int.reduceEq, Int.reduceLT, Int.reduceLE, Int.reduceToNat, Int.reduceAdd, Int.reduceSub, Int.reduceMul, Int.reduceNeg]
         refine T S _ _ ?_
         exact fi F
     · replace T := T.2 c10
       obtain ⟨p17, p18, T⟩ := T
       replace F := aa (eq_false c10) <| aa p17 <| aa p18.wrap <| F
       try simp only [F, lw, lx, le, Nat.reduceMul, UInt8.reduceToNat, reduceIte, reduceCtorEq, Nat.reduceEqDiff, Nat.reduceAdd, Nat.reduceLeDiff, Nat.reduceSub, Nat.reduceLT, Int.reduceEq, Int.reduceLT, Int.reduceLE, Int.reduceToNat, Int.reduceAdd, Int.reduceSub, Int.reduceMul, Int.reduceNeg]
       refine T S _ _ ?_
       exact fi F
   · replace T := T.2 c8
     replace c8 := Bool.eq_false_iff.2 c8
     obtain ⟨p19, p20, T⟩ := T
     replace F := aa c8 <| aa p19 <| aa p20.wrap <| F
     try simp only [F, lw, lx, le, Nat.reduceMul, UInt8.reduceToNat, reduceIte, reduceCtorEq, Nat.reduceEqDiff, Nat.reduceAdd, Nat.reduceLeDiff, Nat.reduceSub, Nat.reduceLT, Int.reduceEq, Int.reduceLT, Int.reduceLE, Int.reduceToNat, Int.reduceAdd, Int.reduceSub, Int.reduceMul, Int.reduceNeg]
     refine T S _ _ ?_
     exact fi F
set_option maxHeartbeats 4000000 in
theorem At_law2_ParseBlocks_1_step (kinds : List UInt8) (attrs : UInt8) (r8 : List Block) (i14 : Int) (r : Bool) (T :
  ((i14 < (kinds.length : Int)) →
  (0 ≤ i14) ∧
  ∃ (v20 : Block), (r8[i14.toNat]? = some v20) ∧
  (0 ≤ i14) ∧
  ∃ (v21 : UInt8), (kinds[i14.toNat]? = some v21) ∧
  (I64 ((v21.toNat : Int))) ∧
  (I64 (1 + ((v21.toNat : Int).tmod 4))) ∧
  ((v20.Kind = (1 + ((v21.toNat : Int).tmod 4))) →
   (((v20.Attrs.length : Int) = ((attrs.toNat : Int).tmod 6)) →
    (I64 (i14 + 1)) ∧
    (0 ≤ i14) ∧ (0 ≤ (i14 + 1)) ∧ (i14.toNat ≤ (i14 + 1).toNat) ∧ ((i14 + 1).toNat ≤ r8.length) ∧
    (0 ≤ (kinds.length : Int)) ∧
    ∃ (v22 : Block), (r8[kinds.length]? = some v22) ∧
    (I64 (i14 + 1)) ∧
    (0 ≤ i14) ∧ (0 ≤ (i14 + 1)) ∧ (i14.toNat ≤ (i14 + 1).toNat) ∧ ((i14 + 1).toNat ≤ v22.Blocks.length) ∧
    ∃ (r23 : Bool), (R_ref1_SameBlocks ((r8.drop i14.toNat).take ((i14 + 1).toNat - i14.toNat)) ((v22.Blocks.drop i14.toNat).take ((i14 + 1).toNat - i14.toNat)) r23) ∧
    ((r23 = true) →
     At_law2_ParseBlocks_2 kinds attrs r8 i14 0 r) ∧
    (¬ (r23 = true) →
     false = r)) ∧
   (¬ ((v20.Attrs.length : Int) = ((attrs.toNat : Int).tmod 6)) →
    false = r)) ∧
  (¬ (v20.Kind = (1 + ((v21.toNat : Int).tmod 4))) →
   false = r)) ∧
 (¬ (i14 < (kinds.length : Int)) →
  ∃ (r25 : Bool), (R_law2_awake r25) ∧
  r25 = r)) : At_law2_ParseBlocks_1 kinds attrs r8 i14 r := by
 intro S e f h
 unfold k_law2_ParseBlocks_1
 rw [E_loop]
 have F := U_law2_ParseBlocks
 replace F := aa h <| F
 by_cases c1 : i14 < (kinds.length : Int)
 · replace T := T.1 c1
   obtain ⟨p2, v20, q3, p4, v21, q5, p6, p7, T⟩ := T
   replace F := aa (eq_true c1) <| aa p2 <| aa q3 <| aa p4 <| aa q5 <| aa p6.wrap <| aa p7.wrap <| F
   by_cases c8 : v20.Kind = (1 + ((v21.toNat : Int).tmod 4))
   · replace T := T.1 c8
     replace F := aa (eq_true c8) <| F
     by_cases c9 : (v20.Attrs.length : Int) = ((attrs.toNat : Int).tmod 6)
     · replace T := T.1 c9
       obtain ⟨p10, p11, p12, p13, p14, p15, v22, q16, p17, p18, p19, p20, p21, r23, q22, T⟩ := T
       simp only [R_ref1_SameBlocks, le, List.cons_append, List.nil_append] at q22
       replace F := aa (eq_true c9) <| aa p10.wrap <| aa p11 <| aa p12 <| aa p13 <| aa p14 <| aa p15 <| aa q16 <| aa p17.wrap <| aa p18 <| aa p19 <| aa p20 <| aa p21 <| aa q22 <| F
       by_cases c23 : r23 = true
       · replace T := T.1 c23
         replace F := aa c23 <| F
         try simp only [F, lw, lx, le, Nat.reduceMul, UInt8.reduceToNat, reduceIte, reduceCtorEq, Nat.reduceEqDiff, Nat.reduceAdd, Nat.reduceLeDiff, Nat.reduceSub, Nat.reduceLT, Int.reduceEq, Int.reduceLT, Int.reduceLE, Int.reduceToNat, Int.reduceAdd, Int.reduceSub, Int.reduceMul, Int.reduceNeg]
         refine T S _ _ ?_
         exact fi F
       · replace T := T.2 c23
         replace c23 := Bool.eq_false_iff.2 c23
         obtain rfl := T
         exact fi (aa c23 <| F)
     · replace T := T.2 c9
       obtain rfl := T
       exact fi (aa (eq_false c9) <| F)
   · replace T := T.2 c8
     obtain rfl := T
     exact fi (aa (eq_false c8) <| F)
 · replace T := T.2 c1
   obtain ⟨r25, q24, rfl⟩ := T
   simp only [R_law2_awake, le, List.cons_append, List.nil_append] at q24
   exact fi (aa (eq_false c1) <| aa q24 <| F)
set_option maxHeartbeats 4000000 in
theorem At_law2_ParseBlocks_2_step (kinds : List UInt8) (attrs : UInt8) (r8 : List Block) (i14 : Int) (i24 : Int) (r : Bool) (T :
  ((i24 < ((attrs.toNat : Int).tmod 6)) →
  (0 ≤ i14) ∧
  ∃ (v26 : Block), (r8[i14.toNat]? = some v26) ∧
  (0 ≤ i24) ∧
  ∃ (v27 : Attr), (v26.Attrs[i24.toNat]? = some v27) ∧
  ∃ (r28 : List UInt8), (R_ref1_Digits i24 r28) ∧
  (1 + r28.length ≤ maxInt) ∧
  ((v27.Name = (97 :: r28)) →
   (((v27.Expr.length : Int) = 1) →
    ∃ (v29 : Node), (v27.Expr[0]? = some v29) ∧
    ((v29.Num = i24) →
     (I64 (i24 + 1)) ∧
     At_law2_ParseBlocks_2 kinds attrs r8 i14 (i24 + 1) r) ∧
    (¬ (v29.Num = i24) →
     false = r)) ∧
   (¬ ((v27.Expr.length : Int) = 1) →
    false = r)) ∧
  (¬ (v27.Name = (97 :: r28)) →
   false = r)) ∧
 (¬ (i24 < ((attrs.toNat : Int).tmod 6)) →
  (I64 (i14 + 1)) ∧
  At_law2_ParseBlocks_1 kinds attrs r8 (i14 + 1) r)) : At_law2_ParseBlocks_2 kinds attrs r8 i14 i24 r := by
 intro S e f h
 unfold k_law2_ParseBlocks_2
 rw [E_loop]
 have F := U_law2_ParseBlocks
 replace F := aa h <| F
 by_cases c1 : i24 < ((attrs.toNat : Int).tmod 6)
 · replace T := T.1 c1
   obtain ⟨p2, v26, q3, p4, v27, q5, r28, q6, p7, T⟩ := T
   simp only [R_ref1_Digits, le, List.cons_append, List.nil_append] at q6
   replace F := aa (eq_true c1) <| aa p2 <| aa q3 <| aa p4 <| aa q5 <| aa q6 <| aa p7 <| F
   by_cases c8 : v27.Name = (97 :: r28)
   · replace T := T.1 c8
     replace F := aa (eq_true c8) <| F
     by_cases c9 : (v27.Expr.length : Int) = 1
     · replace T := T.1 c9
       obtain ⟨v29, q10, T⟩ := T
       replace F := aa (eq_true c9) <| aa q10 <| F
       by_cases c11 : v29.Num = i24
       · replace T := T.1 c11
         obtain ⟨p12, T⟩ := T
         replace F := aa (eq_true c11) <| aa p12.wrap <| F
         try simp only [F, lw, lx, le, Nat.reduceMul, UInt8.reduceToNat, reduceIte, reduceCtorEq, Nat.reduceEqDiff, Nat.reduceAdd, Nat.reduceLeDiff, Nat.reduceSub, Nat.reduceLT, Int.reduceEq, Int.reduceLT, Int.reduceLE, Int.reduceToNat, Int.reduceAdd, Int.reduceSub, Int.reduceMul, Int.reduceNeg]
         refine T S _ _ ?_
         exact fi F
       · replace T := T.2 c11
         obtain rfl := T
         exact fi (aa (eq_false c11) <| F)
     · replace T := T.2 c9
       obtain rfl := T
       exact fi (aa (eq_false c9) <| F)
   · replace T := T.2 c8
     obtain rfl := T
     exact fi (aa (eq_false c8) <| F)
 · replace T := T.2 c1
   obtain ⟨p13, T⟩ := T
   replace F := aa (eq_false c1) <| aa p13.wrap <| F
   try simp only [F, lw, lx, le, Nat.reduceMul, UInt8.reduceToNat, reduceIte, reduceCtorEq, Nat.reduceEqDiff, Nat.reduceAdd, Nat.reduceLeDiff, Nat.reduceSub, Nat.reduceLT, Int.reduceEq, Int.reduceLT, Int.reduceLE, Int.reduceToNat, Int.reduceAdd, Int.reduceSub, Int.reduceMul, Int.reduceNeg]
   refine T S _ _ ?_
   exact fi F
set_option maxHeartbeats 4000000 in
theorem law2_ParseBlocks_tree (kinds : List UInt8) (attrs : UInt8) (twice : Bool) (r : Bool) (T :
  ((20 < (kinds.length : Int)) →
  ∃ (r1 : Bool), (R_law2_awake r1) ∧
  r1 = r) ∧
 (¬ (20 < (kinds.length : Int)) →
  (I64 ((attrs.toNat : Int))) ∧
  At_law2_ParseBlocks_3 kinds attrs twice [] 0 r)) : R_law2_ParseBlocks kinds attrs twice r := by
 intro S
 rw [call_code sp_law2_ParseBlocks _ _ rfl]
 have F := U_law2_ParseBlocks
 by_cases c1 : 20 < (kinds.length : Int)
 · replace T := T.1 c1
   obtain ⟨r1, q2, rfl⟩ := T
   simp only [R_law2_awake, le, List.cons_append, List.nil_append] at q2
   exact fi (aa (eq_true c1) <| aa q2 <| F)
 · replace T := T.2 c1
   obtain ⟨p3, T⟩ := T
   replace F := aa (eq_false c1) <| aa p3.wrap <| F
   try simp only [F, lw, lx, le, Nat.reduceMul, UInt8.reduceToNat, reduceIte, reduceCtorEq, Nat.reduceEqDiff, Nat.reduceAdd, Nat.reduceLeDiff, Nat.reduceSub, Nat.reduceLT, Int.reduceEq, Int.reduceLT, Int.reduceLE, Int.reduceToNat, Int.reduceAdd, Int.reduceSub, Int.reduceMul, Int.reduceNeg]
   refine T S _ _ ?_
   exact fi F
end Go.Proofs.YtfbcnpbhhooapaaGreatDoor.M

/- Parse: how long what is read is; the law ParseBrackets. -/
namespace Go.Proofs.YtfbcnpbhhooapaaGreatDoor.M
set_option linter.unusedSimpArgs false
set_option linter.unusedVariables false
open Go Classical
/-! ### How long what is read is. -/
def Gt (K : Nat) (ts : List Token) : Prop := ts.length ≤ K ∧ ∀ t ∈ ts, t.Parts.length ≤ K
def Gn (K : Nat) (out : List Node) : Prop := ∀ n ∈ out, n.Kids.length ≤ K ∧ n.Parts.length ≤ K
theorem Gt.tail {K : Nat} {ts : List Token} (h : Gt K ts) : Gt K ts.tail := ⟨by have := h.1; simp; omega, fun t ht => h.2 t (List.mem_of_mem_tail ht)⟩
structure Pq (K : Nat) (lt lm : Nat) (ts : List Token) (out : List Node) : Prop where
  len : ts.length ≤ lt
  sum : ts.length + out.length ≤ lm
  toks : Gt K ts
  nodes : Gn K out
def Po {α : Type} (K : Nat) (lt lm : Nat) (S : α → Nat → Prop) (p : PR α) : Prop := ∀ a ts out, p = .ok a ts out → Pq K lt lm ts out ∧ S a ts.length
section
variable {K lt lm lt' lm' : Nat} {α β : Type}
theorem Po.er {S : α → Nat → Prop} {e : Int} : Po K lt lm S (.er e : PR α) := fun _ _ _ h => by cases h
theorem Po.no {S : α → Nat → Prop} : Po K lt lm S (.no : PR α) := fun _ _ _ h => by cases h
theorem Po.ok {S : α → Nat → Prop} {a : α} {ts : List Token} {out : List Node} (h : Pq K lt lm ts out) (hs : S a ts.length) : Po K lt lm S (.ok a ts out) := fun _ _ _ e => by cases e; exact ⟨h, hs⟩
theorem Po.bind {S : α → Nat → Prop} {S' : β → Nat → Prop} {p : PR α} {f : α → List Token → List Node → PR β} (hp : Po K lt lm S p) (hf : ∀ a ts out, Pq K lt lm ts out → S a ts.length → Po K lt' lm' S' (f a ts out)) : Po K lt' lm' S' (p.bind f) := by
  cases p with
  | ok a ts out => obtain ⟨h1, h2⟩ := hp a ts out rfl; exact hf a ts out h1 h2
  | er e => exact Po.er
  | no => exact Po.no
theorem Po.ite {S : α → Nat → Prop} {c : Prop} [Decidable c] {p q : PR α} (h1 : c → Po K lt lm S p) (h2 : ¬ c → Po K lt lm S q) : Po K lt lm S (if c then p else q) := by
  split
  · exact h1 ‹_›
  · exact h2 ‹_›
theorem Po.mono {S S' : α → Nat → Prop} {p : PR α} (h : Po K lt lm S p) (h1 : lt ≤ lt') (h2 : lm ≤ lm') (hS : ∀ a n, n ≤ lt → S a n → S' a n) : Po K lt' lm' S' p := fun a ts out e => by
  obtain ⟨q, s⟩ := h a ts out e
  exact ⟨⟨Nat.le_trans q.len h1, Nat.le_trans q.sum h2, q.toks, q.nodes⟩, hS _ _ q.len s⟩
/-- Behind a sign that is taken. -/
theorem Pq.shift {ts : List Token} {out : List Node} (h : Pq K lt lm ts out) {s : List UInt8} (hi : isS s ts = true) : 1 ≤ lt ∧ 1 ≤ lm ∧ Pq K (lt - 1) (lm - 1) ts.tail out := by
  cases ts with
  | nil => cases hi
  | cons t ts =>
    have h1 := h.len
    have h2 := h.sum
    simp only [List.length_cons] at h1 h2
    exact ⟨by omega, by omega, by simp only [List.tail_cons]; omega, by simp only [List.tail_cons]; omega, h.toks.tail, h.nodes⟩
theorem Po.need {S : α → Nat → Prop} {s : List UInt8} {ts : List Token} {out : List Node} {k : List Token → PR α} (h : Pq K lt lm ts out) (hk : ∀ ts, 1 ≤ lt → 1 ≤ lm → Pq K (lt - 1) (lm - 1) ts out → Po K lt' lm' S (k ts)) : Po K lt' lm' S (needS s ts k) :=
  Po.ite (fun hi => by obtain ⟨h1, h2, h3⟩ := h.shift hi; exact hk _ h1 h2 h3) fun _ => Po.er
theorem Po.opn {S : α → Nat → Prop} {s : List UInt8} {d : Nat} {ts : List Token} {out : List Node} {k : List Token → PR α} (h : Pq K lt lm ts out) (hk : ∀ ts, 1 ≤ lt → 1 ≤ lm → Pq K (lt - 1) (lm - 1) ts out → Po K lt' lm' S (k ts)) : Po K lt' lm' S (openS s d ts k) :=
  Po.ite (fun hi => Po.ite (fun _ => Po.er) fun _ => by obtain ⟨h1, h2, h3⟩ := h.shift hi; exact hk _ h1 h2 h3) fun _ => Po.er
theorem Pq.mono {ts : List Token} {out : List Node} (h : Pq K lt lm ts out) (h1 : lt ≤ lt') (h2 : lm ≤ lm') : Pq K lt' lm' ts out := ⟨Nat.le_trans h.len h1, Nat.le_trans h.sum h2, h.toks, h.nodes⟩
end
theorem r_SameParts_refl (a : List Part) (h : a.length ≤ 1000000) : R_ref1_SameParts a a true := by
  have loop : ∀ (m i : Nat), i + m = a.length → At_ref1_SameParts_1 a a i true := by
    intro m
    induction m with
    | zero =>
      intro i hi
      apply At_ref1_SameParts_1_step
      exact ⟨fun h => by omega, fun _ => rfl⟩
    | succ m ih =>
      intro i hi
      have hg : a[((i : Nat) : Int).toNat]? = some a[i] := by rw [Int.toNat_natCast]; exact List.getElem?_eq_getElem (by omega)
      apply At_ref1_SameParts_1_step
      exact ⟨fun _ => ⟨by omega, _, hg, by omega, _, hg, fun _ => ⟨⟨by omega, by omega⟩, ih (i + 1) (by omega)⟩, fun h => absurd ⟨rfl, rfl⟩ h⟩, fun h => by omega⟩
  apply ref1_SameParts_tree
  exact ⟨fun _ => loop a.length 0 (by omega), fun h => absurd rfl h⟩
theorem r_Ints_refl (a : List Int) (h : a.length ≤ 1000000) : R_ref1_Ints a a true := by
  have loop : ∀ (m i : Nat), i + m = a.length → At_ref1_Ints_1 a a i true := by
    intro m
    induction m with
    | zero =>
      intro i hi
      apply At_ref1_Ints_1_step
      exact ⟨fun h => by omega, fun _ => rfl⟩
    | succ m ih =>
      intro i hi
      have hg : a[((i : Nat) : Int).toNat]? = some a[i] := by rw [Int.toNat_natCast]; exact List.getElem?_eq_getElem (by omega)
      apply At_ref1_Ints_1_step
      exact ⟨fun _ => ⟨by omega, _, hg, by omega, _, hg, fun _ => ⟨⟨by omega, by omega⟩, ih (i + 1) (by omega)⟩, fun h => absurd rfl h⟩, fun h => by omega⟩
  apply ref1_Ints_tree
  exact ⟨fun _ => loop a.length 0 (by omega), fun h => absurd rfl h⟩
theorem r_SameNodes_refl (a : List Node) (h : a.length ≤ 1000000) (hp : Gn 1000000 a) : R_ref1_SameNodes a a true := by
  have loop : ∀ (m i : Nat), i + m = a.length → At_ref1_SameNodes_1 a a i true := by
    intro m
    induction m with
    | zero =>
      intro i hi
      apply At_ref1_SameNodes_1_step
      exact ⟨fun h => by omega, fun _ => rfl⟩
    | succ m ih =>
      intro i hi
      have hg : a[((i : Nat) : Int).toNat]? = some a[i] := by rw [Int.toNat_natCast]; exact List.getElem?_eq_getElem (by omega)
      obtain ⟨h1, h2⟩ := hp _ (List.getElem_mem (l := a) (n := i) (by omega))
      have hs := r_SameParts_refl a[i].Parts h2
      have hk := r_Ints_refl a[i].Kids h1
      apply At_ref1_SameNodes_1_step
      exact ⟨fun _ => ⟨by omega, _, hg, by omega, _, hg, fun _ => ⟨fun _ => ⟨fun _ => ⟨_, hs, fun _ => ⟨_, hk, fun _ => ⟨⟨by omega, by omega⟩, ih (i + 1) (by omega)⟩, fun h => absurd rfl h⟩, fun h => absurd rfl h⟩, fun h => absurd rfl h⟩, fun h => absurd rfl h⟩, fun h => absurd rfl h⟩, fun h => by omega⟩
  apply ref1_SameNodes_tree
  exact ⟨fun _ => loop a.length 0 (by omega), fun h => absurd rfl h⟩
theorem tmod6 (n : Nat) : (n : Int).tmod 6 = ((n % 6 : Nat) : Int) := by rw [Int.tmod_eq_emod_of_nonneg (by omega)]; simp
end Go.Proofs.YtfbcnpbhhooapaaGreatDoor.M

/- Parse: blocks that are made by numbers (ParseBlocks): their tokens, and what the parser makes of them. -/
namespace Go.Proofs.YtfbcnpbhhooapaaGreatDoor.M
set_option linter.unusedSimpArgs false
set_option linter.unusedVariables false
open Go Classical
/-! ### Blocks that are made: their tokens, what they are. -/
def tsT (c : UInt8) : Token := ⟨2, [], 0, [⟨false, [c]⟩], 0⟩
def tnumT (j : Nat) : Token := ⟨1, [], (j : Int), [], 0⟩
def dig1 (j : Nat) : UInt8 := UInt8.ofNat (48 + j)
/-- What a block begins with. -/
def headK : Nat → List Token
  | 0 => [tn [118, 97, 114, 105, 97, 98, 108, 101], tsT 118, tg [123]]
  | 1 => [tn [108, 111, 99, 97, 108, 115], tg [123]]
  | 2 => [tn [110, 111, 100, 101], tsT 110, tg [123]]
  | _ => [tn [109, 111, 100, 117, 108, 101], tsT 109, tg [123]]
def labK : Nat → List UInt8
  | 0 => [118]
  | 1 => []
  | 2 => [110]
  | _ => [109]
def attrK : Nat → List Token
  | 0 => []
  | n + 1 => attrK n ++ [tn [97, dig1 n], tg [61], tnumT n]
def attrB : Nat → List Attr
  | 0 => []
  | n + 1 => attrB n ++ [⟨[97, dig1 n], [⟨1, (n : Int), [], [], []⟩]⟩]
def againK : List Token := [tn [97, 48], tg [61], tnumT 1]
def blkK (tw : Bool) (k n : Nat) : List Token := headK k ++ (attrK n ++ ((if tw then againK else []) ++ [tg [125]]))
def blkB (k n : Nat) : Block := ⟨1 + (k : Int), labK k, attrB n, []⟩
theorem nat4 {k : Nat} (h : k < 4) : k = 0 ∨ k = 1 ∨ k = 2 ∨ k = 3 := by omega
theorem nat6 {k : Nat} (h : k < 6) : k = 0 ∨ k = 1 ∨ k = 2 ∨ k = 3 ∨ k = 4 ∨ k = 5 := by omega
/-- Nothing that an expression goes on with (a name may begin what comes next). -/
def Calm (u : Token) : Prop := Quiet u ∨ u.Kind = 3
theorem Calm.isS {u : Token} (h : Calm u) {s : List UInt8} (hs : s ≠ [125] ∧ s ≠ [41]) (rest : List Token) : isS s (u :: rest) = false := by
  rcases h with h | h
  · exact h.isS hs rest
  · rw [← Bool.not_eq_true]
    simp only [M.isS, Bool.and_eq_true, decide_eq_true_eq]
    intro hf
    rw [h] at hf
    exact absurd hf.1 (by decide)
theorem loop_calm {u : Token} (h : Calm u) (n k d : Nat) (a : Int) (rest : List Token) (out : List Node) : loopS (n + 1) k d a (u :: rest) out = .ok a (u :: rest) out := by
  rcases h with h | h
  · exact loop_quiet h _ _ _ _ _ _
  · simp only [loopS, h]
    rw [if_neg (by decide)]
/-- An expression that one token is. -/
theorem expr_one {u t : Token} (hu : Calm u) {d : Nat} {rest : List Token} {out : List Node} {a : Int} {o : List Node} (m : Nat) (hp : primS (m + 1) d (t :: u :: rest) out = .ok a (u :: rest) o) (h45 : M.isS [45] (t :: u :: rest) = false) (h33 : M.isS [33] (t :: u :: rest) = false) : exprS (m + 10) d (t :: u :: rest) out = .ok a (u :: rest) o := by
  have hpo : postS (m + 2) d (t :: u :: rest) out = .ok a (u :: rest) o := by
    simp only [postS, hp, PR.bind, postL]
    rw [hu.isS (by decide)]
    rfl
  have hun : unS (m + 3) d (t :: u :: rest) out = .ok a (u :: rest) o := by
    simp only [unS, h45, h33]
    exact hpo
  have h5 : chainS (m + 4) 5 d (t :: u :: rest) out = .ok a (u :: rest) o := by
    simp only [chainS]
    exact hun
  have up : ∀ m' k, k ≠ 5 → chainS (m' + 1) (k + 1) d (t :: u :: rest) out = .ok a (u :: rest) o → chainS (m' + 2) k d (t :: u :: rest) out = .ok a (u :: rest) o := by
    intro m' k hk h
    rw [chainS, if_neg hk, h]
    simp only [PR.bind]
    exact loop_calm hu _ _ _ _ _ _
  have h0 := up _ 0 (by decide) (up _ 1 (by decide) (up _ 2 (by decide) (up _ 3 (by decide) (up _ 4 (by decide) h5))))
  simp only [exprS, h0, PR.bind]
  rw [hu.isS (by decide)]
  rfl
theorem expr_num {u : Token} (hu : Calm u) (j d m : Nat) (rest : List Token) (out : List Node) : exprS (m + 10) d (tnumT j :: u :: rest) out = .ok (out.length : Nat) (u :: rest) (out ++ [⟨1, (j : Int), [], [], []⟩]) := by
  refine expr_one hu m ?_ ?_ ?_ <;> simp [primS, tnumT, M.isS]
theorem attr_step {u : Token} (hu : Calm u) (nm : List UInt8) (j m f : Nat) (acc : List Attr) (ha : acc.any (fun a => decide (a.Name = nm)) = false) (rest : List Token) : attrsS (m + 10) (f + 1) acc (tn nm :: tg [61] :: tnumT j :: u :: rest) = attrsS (m + 10) f (acc ++ [⟨nm, [⟨1, (j : Int), [], [], []⟩]⟩]) (u :: rest) := by
  have e1 : M.isS [125] (tn nm :: tg [61] :: tnumT j :: u :: rest) = false := by simp [M.isS, tn]
  have e2 : M.isS [61] (tg [61] :: tnumT j :: u :: rest) = true := rfl
  rw [attrsS, e1]
  simp only [Bool.false_eq_true, if_false, needS, e2, if_true, List.tail_cons, wholeS, expr_num hu]
  have e3 : (tn nm).Kind = 3 := rfl
  have e4 : (tn nm).Text = nm := rfl
  rw [e4, ha, if_pos e3, if_neg (by decide)]
  rfl
theorem attr_end (m f : Nat) (acc : List Attr) (rest : List Token) : attrsS m (f + 1) acc (tg [125] :: rest) = .ok acc rest [] := by
  rw [attrsS]
  rfl
theorem attr_twice (nm : List UInt8) (m f : Nat) (acc : List Attr) (ha : acc.any (fun a => decide (a.Name = nm)) = true) (rest : List Token) : attrsS m (f + 1) acc (tn nm :: rest) = .er 3 := by
  have e1 : M.isS [125] (tn nm :: rest) = false := by simp [M.isS, tn]
  have e3 : (tn nm).Kind = 3 := rfl
  have e4 : (tn nm).Text = nm := rfl
  rw [attrsS, e1, e4, ha, if_neg (by decide), if_pos e3, if_pos rfl]
theorem calm_tn (s : List UInt8) : Calm (tn s) := .inr rfl
theorem calm_rb : Calm (tg [125]) := .inl (.inr ⟨rfl, .inl rfl⟩)
theorem attrs_made (m f : Nat) {n : Nat} (hn : n < 6) (rest : List Token) : attrsS (m + 10) (f + 7) [] (attrK n ++ (tg [125] :: rest)) = .ok (attrB n) rest [] := by
  rcases nat6 hn with rfl | rfl | rfl | rfl | rfl | rfl <;> simp only [attrK, attrB, List.nil_append, List.cons_append, List.append_nil] <;>
    repeat' (first | rw [attr_end] | rw [attr_step (calm_tn _) _ _ _ _ _ (by decide)] | rw [attr_step calm_rb _ _ _ _ _ (by decide)])
  all_goals rfl
theorem attrs_again (m f : Nat) {n : Nat} (hn : n < 6) (h0 : n ≠ 0) (rest : List Token) : attrsS (m + 10) (f + 7) [] (attrK n ++ (againK ++ rest)) = .er 3 := by
  rcases nat6 hn with rfl | rfl | rfl | rfl | rfl | rfl
  · exact absurd rfl h0
  all_goals
    simp only [attrK, attrB, againK, List.nil_append, List.cons_append, List.append_nil]
    repeat' (first | rw [attr_twice _ _ _ _ (by decide)] | rw [attr_step (calm_tn _) _ _ _ _ _ (by decide)] | rw [attr_step calm_rb _ _ _ _ _ (by decide)])
theorem blk_gen {lab : List UInt8 → Bool} (h1 : lab [118] = true) (h2 : lab [110] = true) (h3 : lab [109] = true) (N : Nat) {k : Nat} (hk : k < 4) (ts : List Token) :
    (∀ as_ rest, attrsS N N [] ts = .ok as_ rest [] → blkS lab N (headK k ++ ts) = .ok ⟨1 + (k : Int), labK k, as_, []⟩ rest [] ∧ blkIn lab N (headK k ++ ts) = .ok ⟨1 + (k : Int), labK k, as_, []⟩ rest []) ∧
    (∀ e, attrsS N N [] ts = .er e → blkS lab N (headK k ++ ts) = .er e) := by
  have hb : bodyS N (tg [123] :: ts) = attrsS N N [] ts := rfl
  rcases nat4 hk with rfl | rfl | rfl | rfl
  · have ep : plainS lab N 0 (tsT 118 :: tg [123] :: ts) = (attrsS N N [] ts).bind fun as_ ts _ => .ok ⟨1, [118], as_, []⟩ ts [] := by simp [plainS, labS, tsT, h1, PR.bind, hb]
    have e1 : blkS lab N (headK 0 ++ ts) = plainS lab N 0 (tsT 118 :: tg [123] :: ts) := rfl
    have e2 : blkIn lab N (headK 0 ++ ts) = plainS lab N 0 (tsT 118 :: tg [123] :: ts) := rfl
    rw [e1, e2, ep]
    exact ⟨fun as_ rest h => by rw [h]; exact ⟨rfl, rfl⟩, fun e h => by rw [h]; rfl⟩
  · have ep : plainS lab N 1 (tg [123] :: ts) = (attrsS N N [] ts).bind fun as_ ts _ => .ok ⟨2, [], as_, []⟩ ts [] := by simp [plainS, hb]
    have e1 : blkS lab N (headK 1 ++ ts) = plainS lab N 1 (tg [123] :: ts) := rfl
    have e2 : blkIn lab N (headK 1 ++ ts) = plainS lab N 1 (tg [123] :: ts) := rfl
    rw [e1, e2, ep]
    exact ⟨fun as_ rest h => by rw [h]; exact ⟨rfl, rfl⟩, fun e h => by rw [h]; rfl⟩
  · have ep : plainS lab N 2 (tsT 110 :: tg [123] :: ts) = (attrsS N N [] ts).bind fun as_ ts _ => .ok ⟨3, [110], as_, []⟩ ts [] := by simp [plainS, labS, tsT, h2, PR.bind, hb]
    have e1 : blkS lab N (headK 2 ++ ts) = plainS lab N 2 (tsT 110 :: tg [123] :: ts) := rfl
    have e2 : blkIn lab N (headK 2 ++ ts) = plainS lab N 2 (tsT 110 :: tg [123] :: ts) := rfl
    rw [e1, e2, ep]
    exact ⟨fun as_ rest h => by rw [h]; exact ⟨rfl, rfl⟩, fun e h => by rw [h]; rfl⟩
  · have ep : plainS lab N 3 (tsT 109 :: tg [123] :: ts) = (attrsS N N [] ts).bind fun as_ ts _ => .ok ⟨4, [109], as_, []⟩ ts [] := by simp [plainS, labS, tsT, h3, PR.bind, hb]
    have e1 : blkS lab N (headK 3 ++ ts) = plainS lab N 3 (tsT 109 :: tg [123] :: ts) := rfl
    have e2 : blkIn lab N (headK 3 ++ ts) = plainS lab N 3 (tsT 109 :: tg [123] :: ts) := rfl
    rw [e1, e2, ep]
    exact ⟨fun as_ rest h => by rw [h]; exact ⟨rfl, rfl⟩, fun e h => by rw [h]; rfl⟩
section
variable {lab : List UInt8 → Bool} (h1 : lab [118] = true) (h2 : lab [110] = true) (h3 : lab [109] = true)
include h1 h2 h3
theorem blk_one (m : Nat) {k n : Nat} (hk : k < 4) (hn : n < 6) (rest : List Token) : blkS lab (m + 10) (blkK false k n ++ rest) = .ok (blkB k n) rest [] ∧ blkIn lab (m + 10) (blkK false k n ++ rest) = .ok (blkB k n) rest [] := by
  have e : blkK false k n ++ rest = headK k ++ (attrK n ++ (tg [125] :: rest)) := by simp [blkK]
  rw [e]
  exact (blk_gen h1 h2 h3 (m + 10) hk _).1 _ _ (attrs_made m (m + 3) hn rest)
theorem blk_two (m : Nat) {k n : Nat} (hk : k < 4) (hn : n < 6) (h0 : n ≠ 0) (rest : List Token) : blkS lab (m + 10) (blkK true k n ++ rest) = .er 3 := by
  have e : blkK true k n ++ rest = headK k ++ (attrK n ++ (againK ++ (tg [125] :: rest))) := by simp [blkK]
  rw [e]
  exact (blk_gen h1 h2 h3 (m + 10) hk _).2 _ (attrs_again m (m + 3) hn h0 _)
theorem blks_made (m : Nat) {n : Nat} (hn : n < 6) (rest : List Token) : ∀ (ks : List Nat) (f : Nat) (acc : List Block), (∀ k ∈ ks, k < 4) → ks.length < f → blksS lab (m + 10) f acc ((ks.flatMap fun k => blkK false k n) ++ tg [125] :: rest) = .ok (acc ++ ks.map fun k => blkB k n) rest []
  | [], f, acc, _, hf => by
    obtain ⟨f, rfl⟩ : ∃ g, f = g + 1 := ⟨f - 1, by simp at hf; omega⟩
    rw [blksS]
    simp [M.isS, tg]
  | k :: ks, f, acc, hk, hf => by
    obtain ⟨f, rfl⟩ : ∃ g, f = g + 1 := ⟨f - 1, by simp at hf; omega⟩
    rw [blksS, List.flatMap_cons, List.append_assoc, (blk_one h1 h2 h3 m (hk k (by simp)) hn _).2]
    have e : isS [125] (blkK false k n ++ ((ks.flatMap fun k => blkK false k n) ++ tg [125] :: rest)) = false := by
      rcases nat4 (hk k (by simp)) with rfl | rfl | rfl | rfl <;> simp [M.isS, blkK, headK, tn]
    rw [e]
    simp only [PR.bind, Bool.false_eq_true, if_false]
    rw [blks_made m hn rest ks f _ (fun k h => hk k (by simp [h])) (by simp at hf; omega)]
    simp
theorem blk_kind {tw : Bool} {k n : Nat} (hk : k < 4) (rest : List Token) : ∃ t ts, blkK tw k n ++ rest = t :: ts ∧ t.Kind = 3 := by
  rcases nat4 hk with rfl | rfl | rfl | rfl <;> exact ⟨_, _, rfl, rfl⟩
/-- A configuration whose blocks are made; then what is left. -/
theorem conf_made (m : Nat) {n : Nat} (hn : n < 6) (rest : List Token) : ∀ (ks : List Nat) (f : Nat) (acc : List Block), (∀ k ∈ ks, k < 4) → confS lab (m + 10) (f + ks.length) acc ((ks.flatMap fun k => blkK false k n) ++ rest) = confS lab (m + 10) f (acc ++ ks.map fun k => blkB k n) rest
  | [], f, acc, _ => by simp
  | k :: ks, f, acc, hk => by
    rw [List.flatMap_cons, List.append_assoc]
    have h := (blk_one h1 h2 h3 m (hk k (by simp)) hn ((ks.flatMap fun k => blkK false k n) ++ rest)).1
    obtain ⟨t, ts, e, ht⟩ := blk_kind (lab := lab) h1 h2 h3 (tw := false) (n := n) (hk k (by simp)) ((ks.flatMap fun k => blkK false k n) ++ rest)
    rw [e] at h ⊢
    rw [List.length_cons, ← Nat.add_assoc, confS, h, if_neg (by rw [ht]; decide)]
    simp only [PR.bind]
    rw [conf_made m hn rest ks f _ (fun k h => hk k (by simp [h]))]
    simp
end
/-- A define around blocks. -/
def defK (n : Nat) (ks : List Nat) : List Token := [tn [100, 101, 102, 105, 110, 101], tsT 100, tg [123]] ++ ((ks.flatMap fun k => blkK false k n) ++ [tg [125], ⟨0, [], 0, [], 0⟩])
theorem conf_all {lab : List UInt8 → Bool} (h1 : lab [118] = true) (h2 : lab [110] = true) (h3 : lab [109] = true) (h4 : lab [100] = true) {n : Nat} (hn : n < 6) (ks : List Nat) (hk : ∀ k ∈ ks, k < 4) : confT lab ((ks.flatMap fun k => blkK false k n) ++ defK n ks) = .ok ((ks.map fun k => blkB k n) ++ [⟨5, [100], [], ks.map fun k => blkB k n⟩]) [⟨0, [], 0, [], 0⟩] [] := by
  have hl : ks.length ≤ (ks.flatMap fun k => blkK false k n).length := by
    induction ks with
    | nil => simp
    | cons k ks ih =>
      have := ih (fun k h => hk k (by simp [h]))
      obtain ⟨t, ts, e, _⟩ := blk_kind (lab := lab) h1 h2 h3 (tw := false) (n := n) (hk k (by simp)) []
      rw [List.append_nil] at e
      simp only [List.flatMap_cons, List.length_append, List.length_cons, e]
      omega
  have hd : (defK n ks).length = (ks.flatMap fun k => blkK false k n).length + 5 := by simp [defK]
  simp only [confT, List.length_append, hd]
  generalize (ks.flatMap fun k => blkK false k n).length = q at *
  obtain ⟨m, hm⟩ : ∃ m, 20 * (q + (q + 5)) + 10 = m + 10 := ⟨_, rfl⟩
  obtain ⟨f, hf⟩ : ∃ f, q + (q + 5) + 1 = (f + 2) + ks.length := ⟨q + (q + 5) + 1 - 2 - ks.length, by omega⟩
  rw [hm, hf, conf_made h1 h2 h3 m hn _ ks _ _ hk]
  have hb := blks_made h1 h2 h3 m hn [⟨0, [], 0, [], 0⟩] ks (m + 10) [] hk (by omega)
  have e : blkS lab (m + 10) (defK n ks) = .ok ⟨5, [100], [], ks.map fun k => blkB k n⟩ [⟨0, [], 0, [], 0⟩] [] := by
    have e1 : blkS lab (m + 10) (defK n ks) = (labS lab (tsT 100 :: tg [123] :: ((ks.flatMap fun k => blkK false k n) ++ [tg [125], ⟨0, [], 0, [], 0⟩]))).bind fun l ts _ => needS [123] ts fun ts => (blksS lab (m + 10) (m + 10) [] ts).bind fun bs ts _ => .ok ⟨5, l, [], bs⟩ ts [] := rfl
    have e2 : labS lab (tsT 100 :: tg [123] :: ((ks.flatMap fun k => blkK false k n) ++ [tg [125], ⟨0, [], 0, [], 0⟩])) = .ok [100] (tg [123] :: ((ks.flatMap fun k => blkK false k n) ++ [tg [125], ⟨0, [], 0, [], 0⟩])) [] := by simp [labS, tsT, h4]
    rw [e1, e2]
    have e3 : ∀ (ts : List Token), M.isS [123] (tg [123] :: ts) = true := fun _ => rfl
    simp only [needS, PR.bind, e3, if_true, List.tail_cons, List.nil_append] at hb ⊢
    rw [hb]
  obtain ⟨t, ts, ed, ht⟩ : ∃ t ts, defK n ks = t :: ts ∧ t.Kind = 3 := ⟨_, _, rfl, rfl⟩
  rw [ed] at e ⊢
  rw [confS, e, if_neg (by rw [ht]; decide)]
  simp only [PR.bind]
  rw [confS, if_pos rfl]
  simp
theorem conf_twice {lab : List UInt8 → Bool} (h1 : lab [118] = true) (h2 : lab [110] = true) (h3 : lab [109] = true) {n : Nat} (hn : n < 6) (h0 : n ≠ 0) (ks : List Nat) (hk : ∀ k ∈ ks, k < 4) {k : Nat} (hk' : k < 4) (rest : List Token) : confT lab ((ks.flatMap fun k => blkK false k n) ++ (blkK true k n ++ rest)) = .er 3 := by
  have hl : ks.length ≤ (ks.flatMap fun k => blkK false k n).length := by
    induction ks with
    | nil => simp
    | cons k ks ih =>
      have := ih (fun k h => hk k (by simp [h]))
      obtain ⟨t, ts, e, _⟩ := blk_kind (lab := lab) h1 h2 h3 (tw := false) (n := n) (hk k (by simp)) []
      rw [List.append_nil] at e
      simp only [List.flatMap_cons, List.length_append, List.length_cons, e]
      omega
  simp only [confT, List.length_append]
  generalize (ks.flatMap fun k => blkK false k n).length = q at *
  generalize hr : (blkK true k n).length + rest.length = r
  obtain ⟨m, hm⟩ : ∃ m, 20 * (q + r) + 10 = m + 10 := ⟨_, rfl⟩
  obtain ⟨f, hf⟩ : ∃ f, q + r + 1 = (f + 1) + ks.length := ⟨q + r + 1 - 1 - ks.length, by omega⟩
  rw [hm, hf, conf_made h1 h2 h3 m hn _ ks _ _ hk]
  have e := blk_two h1 h2 h3 m hk' hn h0 rest
  obtain ⟨t, ts, ed, ht⟩ := blk_kind (lab := lab) h1 h2 h3 (tw := true) (n := n) hk' rest
  rw [ed] at e ⊢
  rw [confS, e, if_neg (by rw [ht]; decide)]
  rfl
end Go.Proofs.YtfbcnpbhhooapaaGreatDoor.M
