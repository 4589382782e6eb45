/- Parts of a proof, one behind another: Lt2, Wl1, Wl2, Wl3, Wl4, Wl5, Wl6, Wl7, Wl8, Wl9, Wl10, WlD, Wl11, Wl12, Wl13, Wl14, WlL, Wp6, Wp8, WlS, Sc7, Lt7, Wp7, Sc8, Lt8, Wp10. -/
import Derived.Test.YtfbcnpbhhooapaaGreatDoorZParseBrackets4
import Derived.Lib.ItoaLen
import Derived.Test.YtfbcnpbhhooapaaGreatDoorProg
import Derived.KernelRfl
/- Trees of functions, printed by a program of this session (lift.py): what a run asks, over plain data. Lean proves each. -/
namespace Go.Proofs.YtfbcnpbhhooapaaGreatDoor.M
set_option linter.unusedSimpArgs false
set_option linter.unusedVariables false
open Go Classical
theorem sp_lex_tokens_skip : SP 97 = some (.code sc_lex_tokens_skip) := SPof_code rfl Tryz.func97 comp_lex_tokens_skip
/-! (*doorkeeper/lex.tokens).skip -/
def At_lex_tokens_skip_1 (t3 : LTokens) (g4 : Nat) (z5 : Bool) (t' : LTokens) (t'_g2 : Nat) (t'_z2 : Bool) : Prop := ∀ (S : Sto) (e : Nat → PV) (f : Fr) (n0 t0 : Nat), ((getBox S n0 t0).map (List.take 3) = some [.str t3.text.left, .int .i64 t3.text.pos, .sl 0 (.cell t0 2) 0 t3.out.length t3.out.length g4 false] ∧ getArr S n0 (.cell t0 2) = some ⟨5, t3.out.map eToken, z5, g4⟩) → e 0 = .ptr (n0 + 1) t0 0 → k_lex_tokens_skip_1 SP (E SP (.loop b_lex_tokens_skip_1) ⟨e, f :: S⟩) = .ok (.v (.tup [])) (setArr (setBox S n0 t0 ([.str t'.text.left, .int .i64 t'.text.pos, .sl 0 (.cell t0 2) 0 t'.out.length t'.out.length t'_g2 false] ++ ((getBox S n0 t0).getD []).drop 3)) n0 (.cell t0 2) ⟨5, t'.out.map eToken, t'_z2, t'_g2⟩)
set_option maxHeartbeats 4000000 in
theorem At_lex_tokens_skip_1_step (t3 : LTokens) (g4 : Nat) (z5 : Bool) (t' : LTokens) (t'_g2 : Nat) (t'_z2 : Bool) (T :
  ∃ (r6 : Bool), (R_strings_HasPrefix t3.text.left [35] r6) ∧
 ((r6 = true) →
  ∃ (r7 : List UInt8) (r8 : List UInt8) (r9 : Bool), (R_strings_Cut t3.text.left [10] r7 r8 r9) ∧
  ∃ (r10 : List UInt8) (y11 : LText), (R_lex_text_take t3.text (r7.length : Int) r10 y11) ∧
  ∃ (r12 : List UInt8) (y13 : LText), (R_lex_text_word y11 [1] r12 y13) ∧
  At_lex_tokens_skip_1 (LTokens.mk y13 t3.out) g4 z5 t' t'_g2 t'_z2) ∧
 (¬ (r6 = true) →
  t3 = t' ∧ g4 = t'_g2 ∧ z5 = t'_z2)) : At_lex_tokens_skip_1 t3 g4 z5 t' t'_g2 t'_z2 := by
 intro S e f n0 t0 H0 h
 obtain ⟨hb0, ha0⟩ := H0
 obtain ⟨w0, hB0⟩ := take_some hb0
 have hn0 := o_getBox_lt hB0
 unfold k_lex_tokens_skip_1
 rw [E_loop]
 have F := U_lex_tokens_skip
 obtain ⟨r6, q1, T⟩ := T
 simp only [R_strings_HasPrefix, le, List.cons_append, List.nil_append] at q1
 replace F := aa ha0 <| aa hB0 <| aa hn0 <| aa h <| aa q1 <| F
 by_cases c2 : r6 = true
 · replace T := T.1 c2
   obtain ⟨r7, r8, r9, q3, r10, y11, q4, r12, y13, q5, T⟩ := T
   simp only [R_strings_Cut, le, List.cons_append, List.nil_append] at q3
   simp only [R_lex_text_take, le, List.cons_append, List.nil_append] at q4
   simp only [R_lex_text_word, le, List.cons_append, List.nil_append] at q5
   replace F := aa c2 <| aa q3 <| aa q4 <| aa q5 <| F
   try simp only [F, lw, lx, le, Nat.reduceMul, UInt8.reduceToNat, reduceIte, reduceCtorEq, Nat.reduceEqDiff, Nat.reduceAdd, Nat.reduceLeDiff, Nat.reduceSub, Nat.reduceLT, Int.reduceEq, Int.reduceLT, Int.reduceLE, Int.reduceToNat, Int.reduceAdd, Int.reduceSub, Int.reduceMul, Int.reduceNeg]
   refine (T _ _ _ n0 t0 ?_ ?_).trans ?_
   all_goals exact fi F
 · replace T := T.2 c2
   replace c2 := Bool.eq_false_iff.2 c2
   obtain ⟨rfl, rfl, rfl⟩ := T
   exact fi (aa c2 <| F)
set_option maxHeartbeats 4000000 in
theorem lex_tokens_skip_tree (t : LTokens) (t_g2 : Nat) (t_z2 : Bool) (t' : LTokens) (t'_g2 : Nat) (t'_z2 : Bool) (T :
  ∃ (r1 : List UInt8) (y2 : LText), (R_lex_text_word t.text [1] r1 y2) ∧
 At_lex_tokens_skip_1 (LTokens.mk y2 t.out) t_g2 t_z2 t' t'_g2 t'_z2) : R_lex_tokens_skip t t_g2 t_z2 t' t'_g2 t'_z2 := by
 intro S n0 t0 H0
 obtain ⟨hb0, ha0⟩ := H0
 obtain ⟨w0, hB0⟩ := take_some hb0
 have hn0 := o_getBox_lt hB0
 rw [call_code sp_lex_tokens_skip _ _ rfl]
 have F := U_lex_tokens_skip
 obtain ⟨r1, y2, q1, T⟩ := T
 simp only [R_lex_text_word, le, List.cons_append, List.nil_append] at q1
 replace F := aa ha0 <| aa hB0 <| aa hn0 <| aa q1 <| F
 try simp only [F, lw, lx, le, Nat.reduceMul, UInt8.reduceToNat, reduceIte, reduceCtorEq, Nat.reduceEqDiff, Nat.reduceAdd, Nat.reduceLeDiff, Nat.reduceSub, Nat.reduceLT, Int.reduceEq, Int.reduceLT, Int.reduceLE, Int.reduceToNat, Int.reduceAdd, Int.reduceSub, Int.reduceMul, Int.reduceNeg]
 refine (T _ _ _ n0 t0 ?_ ?_).trans ?_
 all_goals exact fi F
theorem sp_lex_tokens_name : SP 138 = some (.code sc_lex_tokens_name) := SPof_code rfl Tryz.func138 comp_lex_tokens_name
/-! (*doorkeeper/lex.tokens).name -/
set_option maxHeartbeats 4000000 in
theorem lex_tokens_name_tree (t : LTokens) (t_g2 : Nat) (t_z2 : Bool) (ra : Token) (rb : Bool) (t' : LTokens) (t'_g2 : Nat) (t'_z2 : Bool) (T :
  ∃ (r1 : List UInt8) (y2 : LText), (R_lex_text_word t.text [2, 3] r1 y2) ∧
 ∃ (r3 : Bool), (R_lex_Name r1 r3) ∧
 (Token.mk 3 r1 0 [] 0) = ra ∧ r3 = rb ∧ (LTokens.mk y2 t.out) = t' ∧ t_g2 = t'_g2 ∧ t_z2 = t'_z2) : R_lex_tokens_name t t_g2 t_z2 ra rb t' t'_g2 t'_z2 := by
 intro S n0 t0 H0
 obtain ⟨hb0, ha0⟩ := H0
 obtain ⟨w0, hB0⟩ := take_some hb0
 have hn0 := o_getBox_lt hB0
 rw [call_code sp_lex_tokens_name _ _ rfl]
 have F := U_lex_tokens_name
 obtain ⟨r1, y2, q1, r3, q2, rfl, rfl, rfl, rfl, rfl⟩ := T
 simp only [R_lex_text_word, le, List.cons_append, List.nil_append] at q1
 simp only [R_lex_Name, le, List.cons_append, List.nil_append] at q2
 exact fi (aa ha0 <| aa hB0 <| aa hn0 <| aa q1 <| aa q2 <| F)
theorem sp_lex_tokens_number : SP 139 = some (.code sc_lex_tokens_number) := SPof_code rfl Tryz.func139 comp_lex_tokens_number
/-! (*doorkeeper/lex.tokens).number -/
set_option maxHeartbeats 4000000 in
theorem lex_tokens_number_tree (t : LTokens) (t_g2 : Nat) (t_z2 : Bool) (ra : Token) (rb : Bool) (t' : LTokens) (t'_g2 : Nat) (t'_z2 : Bool) (T :
  ∃ (r1 : List UInt8) (y2 : LText), (R_lex_text_word t.text [3] r1 y2) ∧
 ∃ (r3 : Int) (r4 : Bool), (R_strconv_Atoi r1 r3 r4) ∧
 ((r4 = true) →
  (Token.mk 1 [] r3 [] 0) = ra ∧ false = rb ∧ (LTokens.mk y2 t.out) = t' ∧ t_g2 = t'_g2 ∧ t_z2 = t'_z2) ∧
 (¬ (r4 = true) →
  ∃ (r5 : List UInt8), (R_strconv_Itoa r3 r5) ∧
  (Token.mk 1 [] r3 [] 0) = ra ∧ (decide (r5 = r1)) = rb ∧ (LTokens.mk y2 t.out) = t' ∧ t_g2 = t'_g2 ∧ t_z2 = t'_z2)) : R_lex_tokens_number t t_g2 t_z2 ra rb t' t'_g2 t'_z2 := by
 intro S n0 t0 H0
 obtain ⟨hb0, ha0⟩ := H0
 obtain ⟨w0, hB0⟩ := take_some hb0
 have hn0 := o_getBox_lt hB0
 rw [call_code sp_lex_tokens_number _ _ rfl]
 have F := U_lex_tokens_number
 obtain ⟨r1, y2, q1, r3, r4, q2, T⟩ := T
 simp only [R_lex_text_word, le, List.cons_append, List.nil_append] at q1
 simp only [R_strconv_Atoi, le, List.cons_append, List.nil_append] at q2
 replace F := aa ha0 <| aa hB0 <| aa hn0 <| aa q1 <| aa q2 <| F
 by_cases c3 : r4 = true
 · replace T := T.1 c3
   obtain ⟨rfl, rfl, rfl, rfl, rfl⟩ := T
   exact fi (aa c3 <| F)
 · replace T := T.2 c3
   replace c3 := Bool.eq_false_iff.2 c3
   obtain ⟨r5, q4, rfl, rfl, rfl, rfl, rfl⟩ := T
   simp only [R_strconv_Itoa, le, List.cons_append, List.nil_append] at q4
   exact fi (aa c3 <| aa q4 <| F)
theorem sp_lex_tokens_quoted : SP 140 = some (.code sc_lex_tokens_quoted) := SPof_code rfl Tryz.func140 comp_lex_tokens_quoted
/-! (*doorkeeper/lex.tokens).quoted -/
def At_lex_tokens_quoted_1 (i3 : Int) (s4 : List UInt8) (i5 : Int) (i6 : Int) (l7 : List Attr) (g8 : Nat) (l9 : List Part) (g10 : Nat) (z11 : Bool) (t12 : LTokens) (g13 : Nat) (z14 : Bool) (ra : Token) (rb : Bool) (t' : LTokens) (t'_g2 : Nat) (t'_z2 : Bool) : Prop := ∀ (S : Sto) (e : Nat → PV) (f : Fr) (n0 t0 : Nat), ((getBox S n0 t0).map (List.take 3) = some [.str t12.text.left, .int .i64 t12.text.pos, .sl 0 (.cell t0 2) 0 t12.out.length t12.out.length g13 false] ∧ getArr S n0 (.cell t0 2) = some ⟨5, t12.out.map eToken, z14, g13⟩) → e 0 = .ptr (n0 + 1) t0 0 ∧ e 2 = .ptr 0 2 0 ∧ e 4 = .ptr 0 4 0 ∧ f.box 2 = some [.int .i64 i3, .str s4, .int .i64 i5, .sl 0 (.cell 2 3) 0 l7.length l7.length g8 false, .int .i64 i6] ∧ f.box 4 = some [.sl 0 (.cell 4 0) 0 l9.length l9.length g10 false] ∧ f.arr (.cell 2 3) = some ⟨2, l7.map eAttr, false, g8⟩ ∧ f.arr (.cell 4 0) = some ⟨2, l9.map ePart, z11, g10⟩ → k_lex_tokens_quoted_1 SP (E SP (.loop b_lex_tokens_quoted_1) ⟨e, f :: S⟩) = .ok (.v (.tup [.agg [.int .i64 ra.Kind, .str ra.Text, .int .i64 ra.Num, .list 2 (ra.Parts.map ePart) false, .int .i64 ra.At], .bool rb])) (setArr (setBox S n0 t0 ([.str t'.text.left, .int .i64 t'.text.pos, .sl 0 (.cell t0 2) 0 t'.out.length t'.out.length t'_g2 false] ++ ((getBox S n0 t0).getD []).drop 3)) n0 (.cell t0 2) ⟨5, t'.out.map eToken, t'_z2, t'_g2⟩)
set_option maxHeartbeats 4000000 in
theorem At_lex_tokens_quoted_1_step (i3 : Int) (s4 : List UInt8) (i5 : Int) (i6 : Int) (l7 : List Attr) (g8 : Nat) (l9 : List Part) (g10 : Nat) (z11 : Bool) (t12 : LTokens) (g13 : Nat) (z14 : Bool) (ra : Token) (rb : Bool) (t' : LTokens) (t'_g2 : Nat) (t'_z2 : Bool) (T :
  ((t12.text.left = []) →
  (Token.mk 0 [] 0 [] 0) = ra ∧ false = rb ∧ t12 = t' ∧ g13 = t'_g2 ∧ z14 = t'_z2) ∧
 (¬ (t12.text.left = []) →
  ∃ (b15 : UInt8), (t12.text.left[0]? = some b15) ∧
  ∃ (r16 : Int), (R_lex_class b15 r16) ∧
  ((r16 = 4) →
   ∃ (r17 : List UInt8) (y18 : LText), (R_lex_text_take t12.text 1 r17 y18) ∧
   (Token.mk 2 [] 0 l9 0) = ra ∧ true = rb ∧ (LTokens.mk y18 t12.out) = t' ∧ g13 = t'_g2 ∧ z14 = t'_z2) ∧
  (¬ (r16 = 4) →
   (((b15.toNat : Int) < 32) →
    (Token.mk 0 [] 0 [] 0) = ra ∧ false = rb ∧ t12 = t' ∧ g13 = t'_g2 ∧ z14 = t'_z2) ∧
   (¬ ((b15.toNat : Int) < 32) →
    (((b15.toNat : Int) = 92) →
     ∃ (r19 : UInt8) (r20 : Bool), (R_lex_escaped t12.text.left r19 r20) ∧
     ((r20 = true) →
      ∃ (y21 : List Part) (g22 : Nat) (z23 : Bool), (R_lex_parts_plain l9 g10 z11 r19 y21 g22 z23) ∧
      ∃ (r24 : List UInt8) (y25 : LText), (R_lex_text_take t12.text 2 r24 y25) ∧
      At_lex_tokens_quoted_1 i3 s4 i5 i6 l7 g8 y21 g22 z23 (LTokens.mk y25 t12.out) g13 z14 ra rb t' t'_g2 t'_z2) ∧
     (¬ (r20 = true) →
      (Token.mk 0 [] 0 [] 0) = ra ∧ false = rb ∧ t12 = t' ∧ g13 = t'_g2 ∧ z14 = t'_z2)) ∧
    (¬ ((b15.toNat : Int) = 92) →
     ∃ (r26 : Bool), (R_strings_HasPrefix t12.text.left [36, 123] r26) ∧
     ((r26 = true) →
      ∃ (r27 : List UInt8) (r28 : Bool), (R_lex_reference t12.text.left r27 r28) ∧
      ((r28 = true) →
       (bigRow (l9.length + 1) 24) ∧
       (I64 (3 + (r27.length : Int))) ∧
       ∃ (r29 : List UInt8) (y30 : LText), (R_lex_text_take t12.text (3 + (r27.length : Int)) r29 y30) ∧
       At_lex_tokens_quoted_1 i3 s4 i5 i6 l7 g8 (l9 ++ [(Part.mk true r27)]) g10 z11 (LTokens.mk y30 t12.out) g13 z14 ra rb t' t'_g2 t'_z2) ∧
      (¬ (r28 = true) →
       (Token.mk 0 [] 0 [] 0) = ra ∧ false = rb ∧ t12 = t' ∧ g13 = t'_g2 ∧ z14 = t'_z2)) ∧
     (¬ (r26 = true) →
      ∃ (y31 : List Part) (g32 : Nat) (z33 : Bool), (R_lex_parts_plain l9 g10 z11 b15 y31 g32 z33) ∧
      ∃ (r34 : List UInt8) (y35 : LText), (R_lex_text_take t12.text 1 r34 y35) ∧
      At_lex_tokens_quoted_1 i3 s4 i5 i6 l7 g8 y31 g32 z33 (LTokens.mk y35 t12.out) g13 z14 ra rb t' t'_g2 t'_z2)))))) : At_lex_tokens_quoted_1 i3 s4 i5 i6 l7 g8 l9 g10 z11 t12 g13 z14 ra rb t' t'_g2 t'_z2 := by
 intro S e f n0 t0 H0 h
 obtain ⟨hb0, ha0⟩ := H0
 obtain ⟨w0, hB0⟩ := take_some hb0
 have hn0 := o_getBox_lt hB0
 unfold k_lex_tokens_quoted_1
 rw [E_loop]
 have F := U_lex_tokens_quoted
 replace F := aa ha0 <| aa hB0 <| aa hn0 <| aa h <| F
 by_cases c1 : t12.text.left = []
 · replace T := T.1 c1
   obtain ⟨rfl, rfl, rfl, rfl, rfl⟩ := T
   exact fi (aa (eq_true c1) <| F)
 · replace T := T.2 c1
   obtain ⟨b15, q2, r16, q3, T⟩ := T
   simp only [R_lex_class, le, List.cons_append, List.nil_append] at q3
   replace F := aa (eq_false c1) <| aa q2 <| aa q3 <| F
   by_cases c4 : r16 = 4
   · replace T := T.1 c4
     obtain ⟨r17, y18, q5, rfl, rfl, rfl, rfl, rfl⟩ := T
     simp only [R_lex_text_take, le, List.cons_append, List.nil_append] at q5
     exact fi (aa (eq_true c4) <| aa q5 <| F)
   · replace T := T.2 c4
     replace F := aa (eq_false c4) <| F
     by_cases c6 : (b15.toNat : Int) < 32
     · replace T := T.1 c6
       obtain ⟨rfl, rfl, rfl, rfl, rfl⟩ := T
       exact fi (aa (eq_true c6) <| F)
     · replace T := T.2 c6
       replace F := aa (eq_false c6) <| F
       by_cases c7 : (b15.toNat : Int) = 92
       · replace T := T.1 c7
         obtain ⟨r19, r20, q8, T⟩ := T
         simp only [R_lex_escaped, le, List.cons_append, List.nil_append] at q8
         replace F := aa (eq_true c7) <| aa q8 <| F
         by_cases c9 : r20 = true
         · replace T := T.1 c9
           obtain ⟨y21, g22, z23, q10, r24, y25, q11, T⟩ := T
           simp only [R_lex_parts_plain, le, List.cons_append, List.nil_append] at q10
           simp only [R_lex_text_take, le, List.cons_append, List.nil_append] at q11
           replace F := aa c9 <| aa q10 <| aa q11 <| F
           try simp only [F, lw, lx, le, Nat.reduceMul, UInt8.reduceToNat, reduceIte, reduceCtorEq, Nat.reduceEqDiff, Nat.reduceAdd, Nat.reduceLeDiff, Nat.reduceSub, Nat.reduceLT, Int.reduceEq, Int.reduceLT, Int.reduceLE, Int.reduceToNat, Int.reduceAdd, Int.reduceSub, Int.reduceMul, Int.reduceNeg]
           refine (T _ _ _ n0 t0 ?_ ?_).trans ?_
           all_goals exact fi F
         · replace T := T.2 c9
           replace c9 := Bool.eq_false_iff.2 c9
           obtain ⟨rfl, rfl, rfl, rfl, rfl⟩ := T
           exact fi (aa c9 <| F)
       · replace T := T.2 c7
         obtain ⟨r26, q12, T⟩ := T
         simp only [R_strings_HasPrefix, le, List.cons_append, List.nil_append] at q12
         replace F := aa (eq_false c7) <| aa q12 <| F
         by_cases c13 : r26 = true
         · replace T := T.1 c13
           obtain ⟨r27, r28, q14, T⟩ := T
           simp only [R_lex_reference, le, List.cons_append, List.nil_append] at q14
           replace F := aa c13 <| aa q14 <| F
           by_cases c15 : r28 = true
           · replace T := T.1 c15
             obtain ⟨p16, p17, r29, y30, q18, T⟩ := T
             simp only [bigRow] at p16
             simp only [R_lex_text_take, le, List.cons_append, List.nil_append] at q18
             replace F := aa c15 <| aa p16 <| aa p17.wrap <| aa q18 <| F
             try simp only [F, lw, lx, le, Nat.reduceMul, UInt8.reduceToNat, reduceIte, reduceCtorEq, Nat.reduceEqDiff, Nat.reduceAdd, Nat.reduceLeDiff, Nat.reduceSub, Nat.reduceLT, Int.reduceEq, Int.reduceLT, Int.reduceLE, Int.reduceToNat, Int.reduceAdd, Int.reduceSub, Int.reduceMul, Int.reduceNeg]
             refine (T _ _ _ n0 t0 ?_ ?_).trans ?_
             all_goals exact fi F
           · replace T := T.2 c15
             replace c15 := Bool.eq_false_iff.2 c15
             obtain ⟨rfl, rfl, rfl, rfl, rfl⟩ := T
             exact fi (aa c15 <| F)
         · replace T := T.2 c13
           replace c13 := Bool.eq_false_iff.2 c13
           obtain ⟨y31, g32, z33, q19, r34, y35, q20, T⟩ := T
           simp only [R_lex_parts_plain, le, List.cons_append, List.nil_append] at q19
           simp only [R_lex_text_take, le, List.cons_append, List.nil_append] at q20
           replace F := aa c13 <| aa q19 <| aa q20 <| F
           try simp only [F, lw, lx, le, Nat.reduceMul, UInt8.reduceToNat, reduceIte, reduceCtorEq, Nat.reduceEqDiff, Nat.reduceAdd, Nat.reduceLeDiff, Nat.reduceSub, Nat.reduceLT, Int.reduceEq, Int.reduceLT, Int.reduceLE, Int.reduceToNat, Int.reduceAdd, Int.reduceSub, Int.reduceMul, Int.reduceNeg]
           refine (T _ _ _ n0 t0 ?_ ?_).trans ?_
           all_goals exact fi F
set_option maxHeartbeats 4000000 in
theorem lex_tokens_quoted_tree (t : LTokens) (t_g2 : Nat) (t_z2 : Bool) (ra : Token) (rb : Bool) (t' : LTokens) (t'_g2 : Nat) (t'_z2 : Bool) (T :
  ∃ (r1 : List UInt8) (y2 : LText), (R_lex_text_take t.text 1 r1 y2) ∧
 At_lex_tokens_quoted_1 0 [] 0 0 [] 0 [] 0 false (LTokens.mk y2 t.out) t_g2 t_z2 ra rb t' t'_g2 t'_z2) : R_lex_tokens_quoted t t_g2 t_z2 ra rb t' t'_g2 t'_z2 := by
 intro S n0 t0 H0
 obtain ⟨hb0, ha0⟩ := H0
 obtain ⟨w0, hB0⟩ := take_some hb0
 have hn0 := o_getBox_lt hB0
 rw [call_code sp_lex_tokens_quoted _ _ rfl]
 have F := U_lex_tokens_quoted
 obtain ⟨r1, y2, q1, T⟩ := T
 simp only [R_lex_text_take, le, List.cons_append, List.nil_append] at q1
 replace F := aa ha0 <| aa hB0 <| aa hn0 <| aa q1 <| F
 try simp only [F, lw, lx, le, Nat.reduceMul, UInt8.reduceToNat, reduceIte, reduceCtorEq, Nat.reduceEqDiff, Nat.reduceAdd, Nat.reduceLeDiff, Nat.reduceSub, Nat.reduceLT, Int.reduceEq, Int.reduceLT, Int.reduceLE, Int.reduceToNat, Int.reduceAdd, Int.reduceSub, Int.reduceMul, Int.reduceNeg]
 refine (T _ _ _ n0 t0 ?_ ?_).trans ?_
 all_goals exact fi F
theorem sp_lex_tokens_sign : SP 136 = some (.code sc_lex_tokens_sign) := SPof_code rfl Tryz.func136 comp_lex_tokens_sign
/-! (*doorkeeper/lex.tokens).sign -/
set_option maxHeartbeats 4000000 in
theorem lex_tokens_sign_tree (t : LTokens) (t_g2 : Nat) (t_z2 : Bool) (ra : Token) (rb : Bool) (t' : LTokens) (t'_g2 : Nat) (t'_z2 : Bool) (T :
  (0 ≤ (if (t.text.left.length : Int) < 2 then (t.text.left.length : Int) else 2)) ∧ ((if (t.text.left.length : Int) < 2 then (t.text.left.length : Int) else 2).toNat ≤ t.text.left.length) ∧
 ∃ (r1 : Bool), (R_slices_Contains_string_string [[61, 61], [33, 61], [60, 61], [62, 61], [38, 38], [124, 124]] (t.text.left.take ((if (t.text.left.length : Int) < 2 then (t.text.left.length : Int) else 2).toNat)) r1) ∧
 ((r1 = true) →
  ∃ (r2 : List UInt8) (y3 : LText), (R_lex_text_take t.text (((t.text.left.take ((if (t.text.left.length : Int) < 2 then (t.text.left.length : Int) else 2).toNat)).length : Nat) : Int) r2 y3) ∧
  (Token.mk 4 r2 0 [] 0) = ra ∧ true = rb ∧ (LTokens.mk y3 t.out) = t' ∧ t_g2 = t'_g2 ∧ t_z2 = t'_z2) ∧
 (¬ (r1 = true) →
  (1 ≤ (t.text.left.take ((if (t.text.left.length : Int) < 2 then (t.text.left.length : Int) else 2).toNat)).length) ∧
  ∃ (r4 : Bool), (R_strings_Contains [123, 125, 91, 93, 40, 41, 61, 44, 46, 43, 45, 42, 47, 37, 60, 62, 33, 63, 58] ((t.text.left.take ((if (t.text.left.length : Int) < 2 then (t.text.left.length : Int) else 2).toNat)).take (1)) r4) ∧
  ((r4 = true) →
   ∃ (r5 : List UInt8) (y6 : LText), (R_lex_text_take t.text ((((t.text.left.take ((if (t.text.left.length : Int) < 2 then (t.text.left.length : Int) else 2).toNat)).take (1)).length : Nat) : Int) r5 y6) ∧
   (Token.mk 4 r5 0 [] 0) = ra ∧ true = rb ∧ (LTokens.mk y6 t.out) = t' ∧ t_g2 = t'_g2 ∧ t_z2 = t'_z2) ∧
  (¬ (r4 = true) →
   (Token.mk 0 [] 0 [] 0) = ra ∧ false = rb ∧ t = t' ∧ t_g2 = t'_g2 ∧ t_z2 = t'_z2))) : R_lex_tokens_sign t t_g2 t_z2 ra rb t' t'_g2 t'_z2 := by
 intro S n0 t0 H0
 obtain ⟨hb0, ha0⟩ := H0
 obtain ⟨w0, hB0⟩ := take_some hb0
 have hn0 := o_getBox_lt hB0
 rw [call_code sp_lex_tokens_sign _ _ rfl]
 have F := U_lex_tokens_sign
 obtain ⟨p1, p2, r1, q3, T⟩ := T
 simp only [R_slices_Contains_string_string, le, List.cons_append, List.nil_append] at q3
 replace F := aa ha0 <| aa hB0 <| aa hn0 <| aa p1 <| aa p2 <| aa q3 <| F
 by_cases c4 : r1 = true
 · replace T := T.1 c4
   obtain ⟨r2, y3, q5, rfl, rfl, rfl, rfl, rfl⟩ := T
   simp only [R_lex_text_take, le, List.cons_append, List.nil_append] at q5
   exact fi (aa c4 <| aa q5 <| F)
 · replace T := T.2 c4
   replace c4 := Bool.eq_false_iff.2 c4
   obtain ⟨p6, r4, q7, T⟩ := T
   simp only [R_strings_Contains, le, List.cons_append, List.nil_append] at q7
   replace F := aa c4 <| aa p6 <| aa q7 <| F
   by_cases c8 : r4 = true
   · replace T := T.1 c8
     obtain ⟨r5, y6, q9, rfl, rfl, rfl, rfl, rfl⟩ := T
     simp only [R_lex_text_take, le, List.cons_append, List.nil_append] at q9
     exact fi (aa c8 <| aa q9 <| F)
   · replace T := T.2 c8
     replace c8 := Bool.eq_false_iff.2 c8
     obtain ⟨rfl, rfl, rfl, rfl, rfl⟩ := T
     exact fi (aa c8 <| F)
theorem sp_lex_tokens_next : SP 98 = some (.code sc_lex_tokens_next) := SPof_code rfl Tryz.func98 comp_lex_tokens_next
/-! (*doorkeeper/lex.tokens).next -/
set_option maxHeartbeats 4000000 in
theorem lex_tokens_next_tree (t : LTokens) (t_g2 : Nat) (t_z2 : Bool) (r : Bool) (t' : LTokens) (t'_g2 : Nat) (t'_z2 : Bool) (T :
  ∃ (b1 : UInt8), (t.text.left[0]? = some b1) ∧
 ∃ (r2 : Int), (R_lex_class b1 r2) ∧
 ((r2 = 2) →
  ∃ (r3 : Token) (r4 : Bool) (y5 : LTokens) (g6 : Nat) (z7 : Bool), (R_lex_tokens_name t t_g2 t_z2 r3 r4 y5 g6 z7) ∧
  (bigRow (y5.out.length + 1) 64) ∧
  r4 = r ∧ (LTokens.mk y5.text (y5.out ++ [(Token.mk r3.Kind r3.Text r3.Num r3.Parts t.text.pos)])) = t' ∧ g6 = t'_g2 ∧ z7 = t'_z2) ∧
 (¬ (r2 = 2) →
  ((r2 = 3) →
   ∃ (r8 : Token) (r9 : Bool) (y10 : LTokens) (g11 : Nat) (z12 : Bool), (R_lex_tokens_number t t_g2 t_z2 r8 r9 y10 g11 z12) ∧
   (bigRow (y10.out.length + 1) 64) ∧
   r9 = r ∧ (LTokens.mk y10.text (y10.out ++ [(Token.mk r8.Kind r8.Text r8.Num r8.Parts t.text.pos)])) = t' ∧ g11 = t'_g2 ∧ z12 = t'_z2) ∧
  (¬ (r2 = 3) →
   ((r2 = 4) →
    ∃ (r13 : Token) (r14 : Bool) (y15 : LTokens) (g16 : Nat) (z17 : Bool), (R_lex_tokens_quoted t t_g2 t_z2 r13 r14 y15 g16 z17) ∧
    (bigRow (y15.out.length + 1) 64) ∧
    r14 = r ∧ (LTokens.mk y15.text (y15.out ++ [(Token.mk r13.Kind r13.Text r13.Num r13.Parts t.text.pos)])) = t' ∧ g16 = t'_g2 ∧ z17 = t'_z2) ∧
   (¬ (r2 = 4) →
    ∃ (r18 : Token) (r19 : Bool) (y20 : LTokens) (g21 : Nat) (z22 : Bool), (R_lex_tokens_sign t t_g2 t_z2 r18 r19 y20 g21 z22) ∧
    (bigRow (y20.out.length + 1) 64) ∧
    r19 = r ∧ (LTokens.mk y20.text (y20.out ++ [(Token.mk r18.Kind r18.Text r18.Num r18.Parts t.text.pos)])) = t' ∧ g21 = t'_g2 ∧ z22 = t'_z2)))) : R_lex_tokens_next t t_g2 t_z2 r t' t'_g2 t'_z2 := by
 intro S n0 t0 H0
 obtain ⟨hb0, ha0⟩ := H0
 obtain ⟨w0, hB0⟩ := take_some hb0
 have hn0 := o_getBox_lt hB0
 rw [call_code sp_lex_tokens_next _ _ rfl]
 have F := U_lex_tokens_next
 obtain ⟨b1, q1, r2, q2, T⟩ := T
 simp only [R_lex_class, le, List.cons_append, List.nil_append] at q2
 replace F := aa ha0 <| aa hB0 <| aa hn0 <| aa q1 <| aa q2 <| F
 by_cases c3 : r2 = 2
 · replace T := T.1 c3
   obtain ⟨r3, r4, y5, g6, z7, q4, p5, rfl, rfl, rfl, rfl⟩ := T
   simp only [R_lex_tokens_name, le, List.cons_append, List.nil_append] at q4
   simp only [bigRow] at p5
   exact fi (aa (eq_true c3) <| aa q4 <| aa p5 <| F)
 · replace T := T.2 c3
   replace F := aa (eq_false c3) <| F
   by_cases c6 : r2 = 3
   · replace T := T.1 c6
     obtain ⟨r8, r9, y10, g11, z12, q7, p8, rfl, rfl, rfl, rfl⟩ := T
     simp only [R_lex_tokens_number, le, List.cons_append, List.nil_append] at q7
     simp only [bigRow] at p8
     exact fi (aa (eq_true c6) <| aa q7 <| aa p8 <| F)
   · replace T := T.2 c6
     replace F := aa (eq_false c6) <| F
     by_cases c9 : r2 = 4
     · replace T := T.1 c9
       obtain ⟨r13, r14, y15, g16, z17, q10, p11, rfl, rfl, rfl, rfl⟩ := T
       simp only [R_lex_tokens_quoted, le, List.cons_append, List.nil_append] at q10
       simp only [bigRow] at p11
       exact fi (aa (eq_true c9) <| aa q10 <| aa p11 <| F)
     · replace T := T.2 c9
       obtain ⟨r18, r19, y20, g21, z22, q12, p13, rfl, rfl, rfl, rfl⟩ := T
       simp only [R_lex_tokens_sign, le, List.cons_append, List.nil_append] at q12
       simp only [bigRow] at p13
       exact fi (aa (eq_false c9) <| aa q12 <| aa p13 <| F)
theorem sp_lex_Lex : SP 60 = some (.code sc_lex_Lex) := SPof_code rfl Tryz.func60 comp_lex_Lex
/-! doorkeeper/lex.Lex -/
def At_lex_Lex_1 (s4 : List UInt8) (i5 : Int) (l6 : List Token) (g7 : Nat) (z8 : Bool) (ra : List Token) (rb : Int) : Prop := ∀ (S : Sto) (e : Nat → PV) (f : Fr), e 4 = .ptr 0 11 0 ∧ f.box 11 = some [.str s4, .int .i64 i5, .sl 0 (.cell 11 2) 0 l6.length l6.length g7 false] ∧ f.arr (.cell 11 2) = some ⟨5, l6.map eToken, z8, g7⟩ → k_lex_Lex_1 SP (E SP (.loop b_lex_Lex_1) ⟨e, f :: S⟩) = .ok (.v (.tup [.list 5 (ra.map eToken) false, .int .i64 rb])) S
set_option maxHeartbeats 4000000 in
theorem At_lex_Lex_1_step (s4 : List UInt8) (i5 : Int) (l6 : List Token) (g7 : Nat) (z8 : Bool) (ra : List Token) (rb : Int) (T :
  ((s4 = []) →
  (bigRow (l6.length + 1) 64) ∧
  (l6 ++ [(Token.mk 0 [] 0 [] i5)]) = ra ∧ 0 = rb) ∧
 (¬ (s4 = []) →
  ∃ (r9 : Bool) (y10 : LTokens) (g11 : Nat) (z12 : Bool), (R_lex_tokens_next (LTokens.mk (LText.mk s4 i5) l6) g7 z8 r9 y10 g11 z12) ∧
  ((r9 = true) →
   ∃ (y13 : LTokens) (g14 : Nat) (z15 : Bool), (R_lex_tokens_skip y10 g11 z12 y13 g14 z15) ∧
   At_lex_Lex_1 y13.text.left y13.text.pos y13.out g14 z15 ra rb) ∧
  (¬ (r9 = true) →
   [] = ra ∧ 5 = rb))) : At_lex_Lex_1 s4 i5 l6 g7 z8 ra rb := by
 intro S e f h
 unfold k_lex_Lex_1
 rw [E_loop]
 have F := U_lex_Lex
 replace F := aa h <| F
 by_cases c1 : s4 = []
 · replace T := T.1 c1
   obtain ⟨p2, rfl, rfl⟩ := T
   simp only [bigRow] at p2
   exact fi (aa (eq_true c1) <| aa p2 <| F)
 · replace T := T.2 c1
   obtain ⟨r9, y10, g11, z12, q3, T⟩ := T
   simp only [R_lex_tokens_next, le, List.cons_append, List.nil_append] at q3
   replace F := aa (eq_false c1) <| aa q3 <| F
   by_cases c4 : r9 = true
   · replace T := T.1 c4
     obtain ⟨y13, g14, z15, q5, T⟩ := T
     simp only [R_lex_tokens_skip, le, List.cons_append, List.nil_append] at q5
     replace F := aa c4 <| aa q5 <| F
     try simp only [F, lw, lx, le, Nat.reduceMul, UInt8.reduceToNat, reduceIte, reduceCtorEq, Nat.reduceEqDiff, Nat.reduceAdd, Nat.reduceLeDiff, Nat.reduceSub, Nat.reduceLT, Int.reduceEq, Int.reduceLT, Int.reduceLE, Int.reduceToNat, Int.reduceAdd, Int.reduceSub, Int.reduceMul, Int.reduceNeg]
     refine T S _ _ ?_
     exact fi F
   · replace T := T.2 c4
     replace c4 := Bool.eq_false_iff.2 c4
     obtain ⟨rfl, rfl⟩ := T
     exact fi (aa c4 <| F)
set_option maxHeartbeats 4000000 in
theorem lex_Lex_tree (s : List UInt8) (ra : List Token) (rb : Int) (T :
  ((6000 < (s.length : Int)) →
  [] = ra ∧ 4 = rb) ∧
 (¬ (6000 < (s.length : Int)) →
  ∃ (y1 : LTokens) (g2 : Nat) (z3 : Bool), (R_lex_tokens_skip (LTokens.mk (LText.mk s 0) []) 0 false y1 g2 z3) ∧
  At_lex_Lex_1 y1.text.left y1.text.pos y1.out g2 z3 ra rb)) : R_lex_Lex s ra rb := by
 intro S
 rw [call_code sp_lex_Lex _ _ rfl]
 have F := U_lex_Lex
 by_cases c1 : 6000 < (s.length : Int)
 · replace T := T.1 c1
   obtain ⟨rfl, rfl⟩ := T
   exact fi (aa (eq_true c1) <| F)
 · replace T := T.2 c1
   obtain ⟨y1, g2, z3, q2, T⟩ := T
   simp only [R_lex_tokens_skip, le, List.cons_append, List.nil_append] at q2
   replace F := aa (eq_false c1) <| aa q2 <| F
   try simp only [F, lw, lx, le, Nat.reduceMul, UInt8.reduceToNat, reduceIte, reduceCtorEq, Nat.reduceEqDiff, Nat.reduceAdd, Nat.reduceLeDiff, Nat.reduceSub, Nat.reduceLT, Int.reduceEq, Int.reduceLT, Int.reduceLE, Int.reduceToNat, Int.reduceAdd, Int.reduceSub, Int.reduceMul, Int.reduceNeg]
   refine T S _ _ ?_
   exact fi F
theorem sp_lex_Label : SP 81 = some (.code sc_lex_Label) := SPof_code rfl Tryz.func81 comp_lex_Label
/-! doorkeeper/lex.Label -/
set_option maxHeartbeats 4000000 in
theorem lex_Label_tree (s : List UInt8) (r : Bool) (T :
  ∃ (r1 : List UInt8), (R_strings_ReplaceAll s [45] [95] r1) ∧
 ∃ (r2 : Bool), (R_lex_Name r1 r2) ∧
 ((r2 = true) →
  ∃ (b3 : UInt8), (s[0]? = some b3) ∧
  (((b3.toNat : Int) = 45) →
   false = r) ∧
  (¬ ((b3.toNat : Int) = 45) →
   (!(decide ((b3.toNat : Int) = 95))) = r)) ∧
 (¬ (r2 = true) →
  false = r)) : R_lex_Label s r := by
 intro S
 rw [call_code sp_lex_Label _ _ rfl]
 have F := U_lex_Label
 obtain ⟨r1, q1, r2, q2, T⟩ := T
 simp only [R_strings_ReplaceAll, le, List.cons_append, List.nil_append] at q1
 simp only [R_lex_Name, le, List.cons_append, List.nil_append] at q2
 replace F := aa q1 <| aa q2 <| F
 by_cases c3 : r2 = true
 · replace T := T.1 c3
   obtain ⟨b3, q4, T⟩ := T
   replace F := aa c3 <| aa q4 <| F
   by_cases c5 : (b3.toNat : Int) = 45
   · replace T := T.1 c5
     obtain rfl := T
     exact fi (aa (eq_true c5) <| F)
   · replace T := T.2 c5
     obtain rfl := T
     exact fi (aa (eq_false c5) <| F)
 · replace T := T.2 c3
   replace c3 := Bool.eq_false_iff.2 c3
   obtain rfl := T
   exact fi (aa c3 <| F)
/-! doorkeeper/doorkeeperref1.Label -/
theorem sp_slices_Contains_int_int : SP 170 = some (.code sc_slices_Contains_int_int) := SPof_code rfl Tryz.func170 comp_slices_Contains_int_int
/-! slices.Contains[[]int,int] -/
set_option maxHeartbeats 4000000 in
theorem slices_Contains_int_int_tree (s : List Int) (v : Int) (r : Bool) (T :
  ∃ (r1 : Int), (R_slices_Index_int_int s v r1) ∧
 (decide (0 ≤ r1)) = r) : R_slices_Contains_int_int s v r := by
 intro S
 rw [call_code sp_slices_Contains_int_int _ _ rfl]
 have F := U_slices_Contains_int_int
 obtain ⟨r1, q1, rfl⟩ := T
 simp only [R_slices_Index_int_int, le, List.cons_append, List.nil_append] at q1
 exact fi (aa q1 <| F)
theorem sp_slices_Index_int_int : SP 190 = some (.code sc_slices_Index_int_int) := SPof_code rfl Tryz.func190 comp_slices_Index_int_int
/-! slices.Index[[]int,int] -/
def At_slices_Index_int_int_1 (s : List Int) (v : Int) (i1 : Int) (r : Int) : Prop := ∀ (S : Sto) (e : Nat → PV) (f : Fr), e 0 = .list 1 (s.map eI) false ∧ e 1 = .int .i64 v ∧ e 7 = .int .i64 (s.length : Int) ∧ e 8 = .int .i64 i1 → k_slices_Index_int_int_1 SP (E SP (.loop b_slices_Index_int_int_1) ⟨e, f :: S⟩) = .ok (.v (.int .i64 r)) S
set_option maxHeartbeats 4000000 in
theorem At_slices_Index_int_int_1_step (s : List Int) (v : Int) (i1 : Int) (r : Int) (T :
  ((i1 < (s.length : Int)) →
  (0 ≤ i1) ∧
  ∃ (v2 : Int), (s[i1.toNat]? = some v2) ∧
  ((v = v2) →
   i1 = r) ∧
  (¬ (v = v2) →
   (I64 (i1 + 1)) ∧
   At_slices_Index_int_int_1 s v (i1 + 1) r)) ∧
 (¬ (i1 < (s.length : Int)) →
  (-1) = r)) : At_slices_Index_int_int_1 s v i1 r := by
 intro S e f h
 unfold k_slices_Index_int_int_1
 rw [E_loop]
 have F := U_slices_Index_int_int
 replace F := aa h <| F
 by_cases c1 : i1 < (s.length : Int)
 · replace T := T.1 c1
   obtain ⟨p2, v2, q3, T⟩ := T
   replace F := aa (eq_true c1) <| aa p2 <| aa q3 <| F
   by_cases c4 : v = v2
   · replace T := T.1 c4
     obtain rfl := T
     exact fi (aa (eq_true c4) <| F)
   · replace T := T.2 c4
     obtain ⟨p5, T⟩ := T
     replace F := aa (eq_false c4) <| aa p5.wrap <| F
     try simp only [F, lw, lx, le, Nat.reduceMul, UInt8.reduceToNat, reduceIte, reduceCtorEq, Nat.reduceEqDiff, Nat.reduceAdd, Nat.reduceLeDiff, Nat.reduceSub, Nat.reduceLT, Int.reduceEq, Int.reduceLT, Int.reduceLE, Int.reduceToNat, Int.reduceAdd, Int.reduceSub, Int.reduceMul, Int.reduceNeg]
     refine T S _ _ ?_
     exact fi F
 · replace T := T.2 c1
   obtain rfl := T
   exact fi (aa (eq_false c1) <| F)
set_option maxHeartbeats 4000000 in
theorem slices_Index_int_int_tree (s : List Int) (v : Int) (r : Int) (T :
  At_slices_Index_int_int_1 s v 0 r) : R_slices_Index_int_int s v r := by
 intro S
 rw [call_code sp_slices_Index_int_int _ _ rfl]
 have F := U_slices_Index_int_int
 try simp only [F, lw, lx, le, Nat.reduceMul, UInt8.reduceToNat, reduceIte, reduceCtorEq, Nat.reduceEqDiff, Nat.reduceAdd, Nat.reduceLeDiff, Nat.reduceSub, Nat.reduceLT, Int.reduceEq, Int.reduceLT, Int.reduceLE, Int.reduceToNat, Int.reduceAdd, Int.reduceSub, Int.reduceMul, Int.reduceNeg]
 refine T S _ _ ?_
 exact fi F
theorem sp_slices_Contains_string_string : SP 161 = some (.code sc_slices_Contains_string_string) := SPof_code rfl Tryz.func161 comp_slices_Contains_string_string
/-! slices.Contains[[]string,string] -/
set_option maxHeartbeats 4000000 in
theorem slices_Contains_string_string_tree (s : List (List UInt8)) (v : List UInt8) (r : Bool) (T :
  ∃ (r1 : Int), (R_slices_Index_string_string s v r1) ∧
 (decide (0 ≤ r1)) = r) : R_slices_Contains_string_string s v r := by
 intro S
 rw [call_code sp_slices_Contains_string_string _ _ rfl]
 have F := U_slices_Contains_string_string
 obtain ⟨r1, q1, rfl⟩ := T
 simp only [R_slices_Index_string_string, le, List.cons_append, List.nil_append] at q1
 exact fi (aa q1 <| F)
end Go.Proofs.YtfbcnpbhhooapaaGreatDoor.M

/- Lex: classes, spans, what is in a list; what a name is. -/
namespace Go.Proofs.YtfbcnpbhhooapaaGreatDoor.M
set_option linter.unusedSimpArgs false
set_option linter.unusedVariables false
open Go Classical
def clsS (c : UInt8) : Int :=
  if c.toNat = 32 ∨ c.toNat = 10 then 1 else if c.toNat = 95 ∨ (97 ≤ c.toNat ∧ c.toNat ≤ 122) then 2
  else if 48 ≤ c.toNat ∧ c.toNat ≤ 57 then 3 else if c.toNat = 34 then 4 else if c.toNat = 35 then 5 else 0
theorem r_class (c : UInt8) : R_lex_class c (clsS c) := by
  apply lex_class_tree
  unfold clsS
  repeat' first
    | refine ⟨fun h => ?_, fun h => ?_⟩
    | ((repeat' split) <;> omega)
theorem r_idxI (s : List Int) (v : Int) (hs : s.length < 1000000) : ∀ (k i : Nat), i + k = s.length → ∃ r : Int, At_slices_Index_int_int_1 s v i r ∧ (0 ≤ r ↔ v ∈ s.drop i)
  | 0, i, h => ⟨-1, by
      apply At_slices_Index_int_int_1_step
      exact ⟨fun h => by omega, fun _ => rfl⟩, by rw [List.drop_eq_nil_of_le (by omega)]; simp⟩
  | k + 1, i, h => by
    have hi : i < s.length := by omega
    have hg : s[((i : Nat) : Int).toNat]? = some s[i] := by rw [Int.toNat_natCast]; exact List.getElem?_eq_getElem hi
    have hd : s.drop i = s[i] :: s.drop (i + 1) := List.drop_eq_getElem_cons hi
    by_cases c : v = s[i]
    · refine ⟨i, ?_, ?_⟩
      · apply At_slices_Index_int_int_1_step
        exact ⟨fun _ => ⟨by omega, s[i], hg, fun _ => rfl, fun h => absurd c h⟩, fun h => by omega⟩
      · rw [hd, ← c]; simp
    · obtain ⟨r, h1, h2⟩ := r_idxI s v hs k (i + 1) (by omega)
      refine ⟨r, ?_, ?_⟩
      · apply At_slices_Index_int_int_1_step
        exact ⟨fun _ => ⟨by omega, s[i], hg, fun h => absurd h c, fun _ => ⟨⟨by omega, by omega⟩, h1⟩⟩, fun h => by omega⟩
      · rw [hd, h2, List.mem_cons]; simp [c]
theorem r_containsI (s : List Int) (v : Int) (hs : s.length < 1000000) : R_slices_Contains_int_int s v (decide (v ∈ s)) := by
  apply slices_Contains_int_int_tree
  obtain ⟨r, h1, h2⟩ := r_idxI s v hs s.length 0 (by omega)
  refine ⟨r, slices_Index_int_int_tree s v r h1, ?_⟩
  rw [List.drop_zero] at h2
  exact decide_eq_decide.2 h2
theorem r_idxS (s : List (List UInt8)) (v : List UInt8) (hs : s.length < 1000000) : ∀ (k i : Nat), i + k = s.length → ∃ r : Int, At_slices_Index_string_string_1 s v i r ∧ (0 ≤ r ↔ v ∈ s.drop i)
  | 0, i, h => ⟨-1, by
      apply At_slices_Index_string_string_1_step
      exact ⟨fun h => by omega, fun _ => rfl⟩, by rw [List.drop_eq_nil_of_le (by omega)]; simp⟩
  | k + 1, i, h => by
    have hi : i < s.length := by omega
    have hg : s[((i : Nat) : Int).toNat]? = some s[i] := by rw [Int.toNat_natCast]; exact List.getElem?_eq_getElem hi
    have hd : s.drop i = s[i] :: s.drop (i + 1) := List.drop_eq_getElem_cons hi
    by_cases c : v = s[i]
    · refine ⟨i, ?_, ?_⟩
      · apply At_slices_Index_string_string_1_step
        exact ⟨fun _ => ⟨by omega, s[i], hg, fun _ => rfl, fun h => absurd c h⟩, fun h => by omega⟩
      · rw [hd, ← c]; simp
    · obtain ⟨r, h1, h2⟩ := r_idxS s v hs k (i + 1) (by omega)
      refine ⟨r, ?_, ?_⟩
      · apply At_slices_Index_string_string_1_step
        exact ⟨fun _ => ⟨by omega, s[i], hg, fun h => absurd h c, fun _ => ⟨⟨by omega, by omega⟩, h1⟩⟩, fun h => by omega⟩
      · rw [hd, h2, List.mem_cons]; simp [c]
theorem r_containsS (s : List (List UInt8)) (v : List UInt8) (hs : s.length < 1000000) : R_slices_Contains_string_string s v (decide (v ∈ s)) := by
  apply slices_Contains_string_string_tree
  obtain ⟨r, h1, h2⟩ := r_idxS s v hs s.length 0 (by omega)
  refine ⟨r, slices_Index_string_string_tree s v r h1, ?_⟩
  rw [List.drop_zero] at h2
  exact decide_eq_decide.2 h2
/-! ### Spans -/
def inC (cl : List Int) (c : UInt8) : Bool := decide (clsS c ∈ cl)
def spanS (cl : List Int) (s : List UInt8) : Nat := (s.takeWhile (inC cl)).length
theorem spanS_le (cl : List Int) : ∀ s : List UInt8, spanS cl s ≤ s.length
  | [] => Nat.le_refl _
  | c :: s => by
    unfold spanS
    rw [List.takeWhile_cons]
    split
    · have := spanS_le cl s; unfold spanS at this; simp only [List.length_cons]; omega
    · simp
theorem r_span_loop (s : List UInt8) (cl : List Int) (hc : cl.length < 1000000) (hs : s.length ≤ 1000000) : ∀ (k i : Nat), i + k = s.length → ∀ r : Int, r = (i : Int) + spanS cl (s.drop i) → At_lex_span_1 s cl i r := by
  intro k
  induction k with
  | zero =>
    intro i hi r hr
    apply At_lex_span_1_step
    rw [List.drop_eq_nil_of_le (by omega)] at hr
    exact ⟨fun h => by omega, fun _ => by rw [hr]; simp [spanS]; omega⟩
  | succ k ih =>
    intro i hi r hr
    have hlt : i < s.length := by omega
    have hg : s[((i : Nat) : Int).toNat]? = some s[i] := by rw [Int.toNat_natCast]; exact List.getElem?_eq_getElem hlt
    have hd : s.drop i = s[i] :: s.drop (i + 1) := List.drop_eq_getElem_cons hlt
    rw [hd, spanS, List.takeWhile_cons] at hr
    apply At_lex_span_1_step
    refine ⟨fun _ => ⟨by omega, s[i], hg, _, r_class _, _, r_containsI cl _ hc, fun h => ?_, fun h => ?_⟩, fun h => by omega⟩
    · refine ⟨⟨by omega, by omega⟩, ih (i + 1) (by omega) r ?_⟩
      have h' : inC cl s[i] = true := h
      rw [hr, if_pos h', spanS]
      simp only [List.length_cons]
      omega
    · have h' : ¬ inC cl s[i] = true := h
      rw [hr, if_neg h']
      simp
theorem r_span (s : List UInt8) (cl : List Int) (hc : cl.length < 1000000) (hs : s.length ≤ 1000000) : R_lex_span s cl (spanS cl s) := by
  apply lex_span_tree
  exact r_span_loop s cl hc hs s.length 0 (by omega) _ (by simp)
end Go.Proofs.YtfbcnpbhhooapaaGreatDoor.M

/- Lex: what a name is, on both sides; where a name ends. -/
namespace Go.Proofs.YtfbcnpbhhooapaaGreatDoor.M
set_option linter.unusedSimpArgs false
set_option linter.unusedVariables false
open Go Classical
theorem inC23 (c : UInt8) : inC [2, 3] c = true ↔ clsS c = 2 ∨ clsS c = 3 := by
  unfold inC
  simp
/-- How long the name is that stands at the beginning. -/
def endS (s : List UInt8) : Nat := match s with
  | [] => 0
  | c :: _ => if clsS c = 2 then spanS [2, 3] s else 0
/-- Is a text a name? -/
def nameS (s : List UInt8) : Bool := decide (s ≠ [] ∧ s.length ≤ 24 ∧ endS s = s.length)
theorem r_lexName (s : List UInt8) (hs : s.length ≤ 1000000) : R_lex_Name s (nameS s) := by
  apply lex_Name_tree
  refine ⟨fun h => ?_, fun h => ⟨fun h2 => ?_, fun h2 => ?_⟩⟩
  · simp [nameS, h]
  · cases s with
    | nil => exact absurd rfl h
    | cons c t =>
      refine ⟨c, rfl, _, r_class c, fun h3 => ⟨_, r_span _ _ (by decide) hs, ?_⟩, fun h3 => ?_⟩
      · refine decide_eq_decide.2 ?_
        rw [endS, if_pos h3]
        constructor
        · intro e; exact ⟨by simp, by omega, by omega⟩
        · intro e; have := e.2.2; omega
      · refine (decide_eq_false ?_).symm
        rw [endS, if_neg h3]
        intro e
        have := e.2.2
        simp at this
  · refine (decide_eq_false fun e => ?_).symm
    have := e.2.1
    omega
end Go.Proofs.YtfbcnpbhhooapaaGreatDoor.M

/- Lex: a text cut at one byte; names on the other side. -/
namespace Go.Proofs.YtfbcnpbhhooapaaGreatDoor.M
set_option linter.unusedSimpArgs false
set_option linter.unusedVariables false
open Go Classical
theorem index1 (b : UInt8) : ∀ s : List UInt8, Lib.index s [b] = if b ∈ s then ((s.takeWhile (· != b)).length : Int) else -1
  | [] => by simp [Lib.index]
  | c :: l => by
    unfold Lib.index
    rw [index1 b l]
    by_cases h : b = c
    · subst h
      simp [List.takeWhile_cons]
    · have h' : ¬ c = b := fun e => h e.symm
      by_cases hm : b ∈ l
      · simp [List.takeWhile_cons, h, h', hm]
      · simp [h, hm]
theorem take_while_len (p : UInt8 → Bool) : ∀ s : List UInt8, s.take (s.takeWhile p).length = s.takeWhile p
  | [] => rfl
  | c :: s => by
    rw [List.takeWhile_cons]
    split
    · simp [take_while_len p s]
    · rfl
theorem drop_while_len (p : UInt8 → Bool) : ∀ s : List UInt8, s.drop (s.takeWhile p).length = s.dropWhile p
  | [] => rfl
  | c :: s => by
    rw [List.takeWhile_cons, List.dropWhile_cons]
    split
    · simp [drop_while_len p s]
    · rfl
theorem cut1 (b : UInt8) (s : List UInt8) : Lib.cut s [b] = if b ∈ s then (s.takeWhile (· != b), (s.dropWhile (· != b)).drop 1, true) else (s, [], false) := by
  unfold Lib.cut
  rw [index1]
  by_cases h : b ∈ s
  · simp only [h, if_true]
    rw [if_pos (by omega)]
    simp only [Int.toNat_natCast, List.length_cons, List.length_nil, Nat.zero_add]
    rw [take_while_len, ← drop_while_len, List.drop_drop]
  · simp [h]
theorem r_Cut (s p : List UInt8) (hs : s.length ≤ 1000000) : R_strings_Cut s p (Lib.cut s p).1 (Lib.cut s p).2.1 (Lib.cut s p).2.2 := fun S => call_ext sp_strings_Cut S (if_pos (by omega))
theorem r_HasPrefix (s p : List UInt8) : R_strings_HasPrefix s p (Lib.hasPrefix s p) := fun S => call_ext sp_strings_HasPrefix S rfl
theorem r_SContains (s p : List UInt8) (hs : s.length ≤ 1000000) : R_strings_Contains s p (Lib.contains s p) := fun S => call_ext sp_strings_Contains S (if_pos (by omega))
end Go.Proofs.YtfbcnpbhhooapaaGreatDoor.M

/- Lex: what stands between '${' and '}'. -/
namespace Go.Proofs.YtfbcnpbhhooapaaGreatDoor.M
set_option linter.unusedSimpArgs false
set_option linter.unusedVariables false
open Go Classical
/-- Two names with a dot between. -/
def dottedS (s : List UInt8) : Bool := (Lib.cut s [46]).2.2 && nameS (Lib.cut s [46]).1 && nameS (Lib.cut s [46]).2.1
/-- The reference that a text (behind '${') begins with, and whether there is one. -/
def refS (s : List UInt8) : List UInt8 × Bool := ((Lib.cut s [125]).1, (Lib.cut s [125]).2.2 && dottedS (Lib.cut s [125]).1)
theorem cut_len1 (s p : List UInt8) : (Lib.cut s p).1.length ≤ s.length := by
  unfold Lib.cut
  split
  · simp; omega
  · simp
theorem cut_len2 (s p : List UInt8) : (Lib.cut s p).2.1.length ≤ s.length := by
  unfold Lib.cut
  split
  · simp
  · simp
theorem r_reference (s : List UInt8) (h2 : 2 ≤ s.length) (hs : s.length ≤ 1000000) : R_lex_reference s (refS (s.drop 2)).1 (refS (s.drop 2)).2 := by
  apply lex_reference_tree
  have e : (s.drop 2).take (s.length - 2) = s.drop 2 := List.take_of_length_le (by simp)
  rw [e]
  have l0 : (s.drop 2).length ≤ 1000000 := by simp; omega
  generalize s.drop 2 = t at l0
  have l1 := cut_len1 t [125]
  have l2 := cut_len1 (Lib.cut t [125]).1 [46]
  have l3 := cut_len2 (Lib.cut t [125]).1 [46]
  refine ⟨h2, _, _, _, r_Cut t [125] l0, _, _, _, r_Cut _ [46] (by omega), fun h3 => ⟨fun h6 => ⟨_, r_lexName _ (by omega), fun h7 => ⟨_, r_lexName _ (by omega), rfl, ?_⟩, fun h7 => ⟨rfl, ?_⟩⟩, fun h6 => ⟨rfl, ?_⟩⟩, fun h3 => ⟨rfl, ?_⟩⟩
  · simp [refS, dottedS, h3, h6, h7]
  · simp [refS, dottedS, h7]
  · simp [refS, dottedS, h6]
  · simp [refS, h3]
end Go.Proofs.YtfbcnpbhhooapaaGreatDoor.M

/- Lex: two names with a dot, on the other side. -/
namespace Go.Proofs.YtfbcnpbhhooapaaGreatDoor.M
set_option linter.unusedSimpArgs false
set_option linter.unusedVariables false
open Go Classical
theorem takeWhile_stop (p : UInt8 → Bool) : ∀ (u : List UInt8) (c : UInt8) (v : List UInt8), (∀ x ∈ u, p x = true) → p c = false → (u ++ c :: v).takeWhile p = u
  | [], c, v, _, hc => by simp [List.takeWhile_cons, hc]
  | x :: u, c, v, h, hc => by
    rw [List.cons_append, List.takeWhile_cons, if_pos (h x (by simp)), takeWhile_stop p u c v (fun y hy => h y (by simp [hy])) hc]
theorem cut_split (b : UInt8) (u v : List UInt8) (h : b ∉ u) : Lib.cut (u ++ b :: v) [b] = (u, v, true) := by
  have h1 : (u ++ b :: v).takeWhile (· != b) = u := takeWhile_stop _ u b v (fun x hx => by simp; intro e; exact h (e ▸ hx)) (by simp)
  rw [cut1, if_pos (by simp), ← drop_while_len, h1]
  simp
theorem cut_none (b : UInt8) (s : List UInt8) (h : b ∉ s) : Lib.cut s [b] = (s, [], false) := by rw [cut1, if_neg h]
theorem splitAt_first (b : UInt8) : ∀ s : List UInt8, b ∈ s → ∃ u v, s = u ++ b :: v ∧ b ∉ u
  | [], h => by cases h
  | c :: s, h => by
    by_cases e : b = c
    · exact ⟨[], s, by rw [e]; rfl, by simp⟩
    · obtain ⟨u, v, h1, h2⟩ := splitAt_first b s (by rcases List.mem_cons.1 h with h | h; exact absurd h e; exact h)
      exact ⟨c :: u, v, by rw [h1]; rfl, by simp [e, h2]⟩
theorem span_in (cl : List Int) : ∀ (s : List UInt8) (x : UInt8), x ∈ s.take (spanS cl s) → inC cl x = true := fun s x h => by
  unfold spanS at h
  rw [take_while_len] at h
  exact List.all_eq_true.1 List.all_takeWhile x h
theorem endS_in (s : List UInt8) (x : UInt8) (h : x ∈ s.take (endS s)) : inC [2, 3] x = true := by
  unfold endS at h
  split at h
  · simp at h
  · split at h
    · exact span_in _ _ x h
    · simp at h
theorem name_in {s : List UInt8} (h : nameS s = true) (x : UInt8) (hx : x ∈ s) : inC [2, 3] x = true := by
  obtain ⟨_, _, h3⟩ := of_decide_eq_true h
  refine endS_in s x ?_
  rw [h3, List.take_length]
  exact hx
theorem in46 : inC [2, 3] 46 = false := by
  rw [← Bool.not_eq_true, inC23]
  decide
end Go.Proofs.YtfbcnpbhhooapaaGreatDoor.M

/- Lex: references on the other side. -/
namespace Go.Proofs.YtfbcnpbhhooapaaGreatDoor.M
set_option linter.unusedSimpArgs false
set_option linter.unusedVariables false
open Go Classical
theorem in125 : inC [2, 3] 125 = false := by
  rw [← Bool.not_eq_true, inC23]
  decide
theorem dotted_split {s : List UInt8} (h : dottedS s = true) : ∃ x y, s = x ++ 46 :: y ∧ nameS x = true ∧ nameS y = true := by
  unfold dottedS at h
  by_cases hm : (46 : UInt8) ∈ s
  · obtain ⟨u, v, rfl, hu⟩ := splitAt_first 46 s hm
    rw [cut_split 46 u v hu] at h
    simp only [Bool.and_eq_true] at h
    exact ⟨u, v, rfl, h.1.2, h.2⟩
  · rw [cut_none 46 s hm] at h
    cases h
theorem ref_split {t : List UInt8} (h : (refS t).2 = true) : ∃ x y v, t = x ++ 46 :: (y ++ 125 :: v) ∧ nameS x = true ∧ nameS y = true ∧ (refS t).1 = x ++ 46 :: y := by
  unfold refS at h ⊢
  by_cases hm : (125 : UInt8) ∈ t
  · obtain ⟨u, v, rfl, hu⟩ := splitAt_first 125 t hm
    rw [cut_split 125 u v hu] at h ⊢
    obtain ⟨x, y, rfl, hx, hy⟩ := dotted_split (by simpa using h)
    exact ⟨x, y, v, by simp, hx, hy, rfl⟩
  · rw [cut_none 125 t hm] at h
    cases h
theorem drop_mid (b : UInt8) (x w : List UInt8) : (x ++ b :: w).drop (x.length + 1) = w := by rw [List.drop_append]; simp
end Go.Proofs.YtfbcnpbhhooapaaGreatDoor.M

/- Lex: signs. -/
namespace Go.Proofs.YtfbcnpbhhooapaaGreatDoor.M
set_option linter.unusedSimpArgs false
set_option linter.unusedVariables false
open Go Classical
def ones : List Int := [123, 125, 91, 93, 40, 41, 61, 44, 46, 43, 45, 42, 47, 37, 60, 62, 33, 63, 58]
def twos : List (List UInt8) := [[61, 61], [33, 61], [60, 61], [62, 61], [38, 38], [124, 124]]
def sign1 (a : UInt8) : List UInt8 := if ((a.toNat : Nat) : Int) ∈ ones then [a] else []
def sign2 (a b : UInt8) : List UInt8 := if [a, b] ∈ twos then [a, b] else sign1 a
/-- The longest sign that stands at the beginning; none: nothing. -/
def signS : List UInt8 → List UInt8
  | [] => []
  | [a] => sign1 a
  | a :: b :: _ => sign2 a b
end Go.Proofs.YtfbcnpbhhooapaaGreatDoor.M

/- Lex: taking; names and signs as tokens; a byte behind parts. -/
namespace Go.Proofs.YtfbcnpbhhooapaaGreatDoor.M
set_option linter.unusedSimpArgs false
set_option linter.unusedVariables false
open Go Classical
/-- What is left, and where: all within bounds. -/
def TI (t : LText) : Prop := t.left.length ≤ 6000 ∧ 0 ≤ t.pos ∧ t.pos + (t.left.length : Nat) ≤ 6000
def takeT (t : LText) (n : Nat) : LText := ⟨t.left.drop n, t.pos + n⟩
theorem TI.take {t : LText} (h : TI t) {n : Nat} (hn : n ≤ t.left.length) : TI (takeT t n) := by
  obtain ⟨h1, h2, h3⟩ := h
  refine ⟨?_, ?_, ?_⟩ <;> simp only [takeT, List.length_drop] <;> omega
theorem r_take {t : LText} (h : TI t) {n : Nat} (hn : n ≤ t.left.length) : R_lex_text_take t n (t.left.take n) (takeT t n) := by
  apply lex_text_take_tree
  obtain ⟨h1, h2, h3⟩ := h
  rw [Int.toNat_natCast]
  refine ⟨by omega, hn, by omega, hn, ⟨by omega, by omega⟩, rfl, ?_⟩
  rw [List.take_of_length_le (by simp)]
  rfl
theorem r_word {t : LText} (h : TI t) (cl : List Int) (hc : cl.length < 1000000) : R_lex_text_word t cl (t.left.takeWhile (inC cl)) (takeT t (spanS cl t.left)) := by
  apply lex_text_word_tree
  have h1 := h.1
  refine ⟨_, r_span t.left cl hc (by omega), _, _, r_take h (spanS_le cl t.left), ?_, rfl⟩
  exact take_while_len _ _
theorem r_name (t : LTokens) (g : Nat) (z : Bool) (h : TI t.text) : R_lex_tokens_name t g z (Token.mk 3 (t.text.left.takeWhile (inC [2, 3])) 0 [] 0) (nameS (t.text.left.takeWhile (inC [2, 3]))) (LTokens.mk (takeT t.text (spanS [2, 3] t.text.left)) t.out) g z := by
  apply lex_tokens_name_tree
  have h1 := h.1
  have h2 := spanS_le [2, 3] t.text.left
  exact ⟨_, _, r_word h [2, 3] (by decide), _, r_lexName _ (by unfold spanS at h2; omega), rfl, rfl, rfl, rfl, rfl⟩
theorem has_ones (a : UInt8) : Lib.contains [123, 125, 91, 93, 40, 41, 61, 44, 46, 43, 45, 42, 47, 37, 60, 62, 33, 63, 58] [a] = decide (((a.toNat : Nat) : Int) ∈ ones) := by
  unfold Lib.contains
  rw [index1]
  refine decide_eq_decide.2 ?_
  have e : a ∈ ([123, 125, 91, 93, 40, 41, 61, 44, 46, 43, 45, 42, 47, 37, 60, 62, 33, 63, 58] : List UInt8) ↔ ((a.toNat : Nat) : Int) ∈ ones := by
    simp only [ones, List.mem_cons, List.not_mem_nil, or_false, ← UInt8.toNat_inj, UInt8.reduceToNat]
    omega
  rw [← e]
  split
  · rename_i h; simp only [h, iff_true]; omega
  · rename_i h; simp only [h, iff_false]; omega
/-- A sign taken. -/
theorem r_sign (t : LTokens) (g : Nat) (z : Bool) (h : TI t.text) (hne : t.text.left ≠ []) : R_lex_tokens_sign t g z (if signS t.text.left = [] then Token.mk 0 [] 0 [] 0 else Token.mk 4 (signS t.text.left) 0 [] 0) (decide (signS t.text.left ≠ [])) (if signS t.text.left = [] then t else LTokens.mk (takeT t.text (signS t.text.left).length) t.out) g z := by
  apply lex_tokens_sign_tree
  obtain ⟨⟨left, pos⟩, out⟩ := t
  have h1 := h.1
  simp only at h1 hne ⊢
  match left, hne, h1, h with
  | [a], hne, h1, h =>
    have hn : ¬ [a] ∈ twos := by unfold twos; simp
    have e0 : (if (([a].length : Nat) : Int) < 2 then (([a].length : Nat) : Int) else 2).toNat = 1 := by simp
    rw [e0]
    simp only [List.take_succ_cons, List.take_zero, List.length_cons, List.length_nil]
    refine ⟨by simp, by omega, _, r_containsS twos [a] (by decide), fun hq => absurd (of_decide_eq_true hq) hn, fun _ => ⟨by omega, _, r_SContains _ [a] (by simp), fun hq => ?_, fun hq => ?_⟩⟩
    · rw [has_ones] at hq
      have hq := of_decide_eq_true hq
      have hs : signS [a] = [a] := by simp [signS, sign1, hq]
      rw [hs]
      exact ⟨_, _, r_take h (n := 1) (by simp), by simp⟩
    · rw [has_ones] at hq
      have hq : ¬ ((a.toNat : Nat) : Int) ∈ ones := fun e => hq (decide_eq_true e)
      have hs : signS [a] = [] := by simp [signS, sign1, hq]
      rw [hs]
      simp
  | a :: b :: u, hne, h1, h =>
    have e0 : (if (((a :: b :: u).length : Nat) : Int) < 2 then (((a :: b :: u).length : Nat) : Int) else 2) = 2 := by
      rw [if_neg]; simp only [List.length_cons]; omega
    have e00 : (2 : Int).toNat = 2 := rfl
    rw [e0, e00]
    simp only [List.take_succ_cons, List.take_zero, List.length_cons, List.length_nil]
    refine ⟨by simp, by omega, _, r_containsS twos [a, b] (by decide), fun hq => ?_, fun hn => ⟨by omega, _, r_SContains _ [a] (by simp), fun hq => ?_, fun hq => ?_⟩⟩
    · have hq := of_decide_eq_true hq
      have hs : signS (a :: b :: u) = [a, b] := by simp [signS, sign2, hq]
      rw [hs]
      exact ⟨_, _, r_take h (n := 2) (by simp), by simp⟩
    · have hn : ¬ [a, b] ∈ twos := fun e => hn (decide_eq_true e)
      rw [has_ones] at hq
      have hq := of_decide_eq_true hq
      have hs : signS (a :: b :: u) = [a] := by simp [signS, sign2, sign1, hn, hq]
      rw [hs]
      exact ⟨_, _, r_take h (n := 1) (by simp), by simp⟩
    · have hn : ¬ [a, b] ∈ twos := fun e => hn (decide_eq_true e)
      rw [has_ones] at hq
      have hq : ¬ ((a.toNat : Nat) : Int) ∈ ones := fun e => hq (decide_eq_true e)
      have hs : signS (a :: b :: u) = [] := by simp [signS, sign2, sign1, hn, hq]
      rw [hs]
      simp
end Go.Proofs.YtfbcnpbhhooapaaGreatDoor.M

/- Lex: quoted texts: what they are (Qx), and that lex.quoted takes them so. -/
namespace Go.Proofs.YtfbcnpbhhooapaaGreatDoor.M
set_option linter.unusedSimpArgs false
set_option linter.unusedVariables false
open Go Classical
def escS (x : UInt8) : Option UInt8 := if x = 34 ∨ x = 92 ∨ x = 36 then some x else if x = 110 then some 10 else none
theorem r_IndexByte (s : List UInt8) (c : UInt8) : R_strings_IndexByte s c (Lib.indexByte s c) := fun S => call_ext sp_strings_IndexByte S (by simp [indexX])
theorem r_escaped (y x : UInt8) (u : List UInt8) : R_lex_escaped (y :: x :: u) ((escS x).getD 0) (escS x).isSome := by
  apply lex_escaped_tree
  refine ⟨fun h => absurd h (by simp; omega), fun _ => ⟨x, rfl, _, r_IndexByte _ x, ?_⟩⟩
  unfold escS
  by_cases h1 : x = 34
  · subst h1
    exact ⟨fun h => absurd h (by decide), fun _ => ⟨by decide, 34, rfl, rfl, rfl⟩⟩
  · by_cases h2 : x = 92
    · subst h2
      exact ⟨fun h => absurd h (by decide), fun _ => ⟨by decide, 92, rfl, rfl, rfl⟩⟩
    · by_cases h3 : x = 36
      · subst h3
        exact ⟨fun h => absurd h (by decide), fun _ => ⟨by decide, 36, rfl, rfl, rfl⟩⟩
      · by_cases h4 : x = 110
        · subst h4
          exact ⟨fun h => absurd h (by decide), fun _ => ⟨by decide, 10, rfl, rfl, rfl⟩⟩
        · have e : Lib.indexByte [34, 92, 36, 110] x = -1 := by
            have := Lib.indexByte_ge [34, 92, 36, 110] x
            simp [Lib.indexByte, Ne.symm h1, Ne.symm h2, Ne.symm h3, Ne.symm h4]
          rw [e]
          simp [h1, h2, h3, h4]
/-- Parts, and a text that grows behind them. -/
def joinP (l : List Part) (b : List UInt8) : List Part := l ++ (if b = [] then [] else [Part.mk false b])
def okP (l : List Part) : Prop := l = [] ∨ ∃ l0 q, l = l0 ++ [Part.mk true q]
theorem set_last {α : Type} (l : List α) (x y : α) : (l ++ [x]).set l.length y = l ++ [y] := by simp
theorem r_plain (l : List Part) (b : List UInt8) (c : UInt8) (g : Nat) (hl : okP l) (h1 : l.length ≤ 10000) (h2 : b.length ≤ 10000) : R_lex_parts_plain (joinP l b) g false c (joinP l (b ++ [c])) g false := by
  apply lex_parts_plain_tree
  have hb : b ++ [c] ≠ [] := by simp
  by_cases e : b = []
  · subst e
    have e1 : joinP l [] = l := by simp [joinP]
    have e2 : joinP l ([] ++ [c]) = l ++ [Part.mk false [c]] := by simp [joinP]
    have e3 : (((l.length : Nat) : Int) + 1 - 1).toNat = l.length := by omega
    have big : bigRow (l.length + 1) 24 := ⟨by omega, by omega, by decide⟩
    rw [e1, e2, e3]
    refine ⟨fun h => ⟨big, ⟨by omega, by omega⟩, ⟨by omega, by omega⟩, by omega, by omega, Part.mk false [], by simp, by simp [maxInt], by omega, by omega, rfl, ?_, rfl, rfl⟩, fun h => ?_⟩
    · rw [set_last]; rfl
    · rcases hl with rfl | ⟨l0, q, rfl⟩
      · exact absurd rfl h
      · have e4 : ((((l0 ++ [Part.mk true q]).length : Nat) : Int) - 1).toNat = l0.length := by simp
        have hlen : (l0 ++ [Part.mk true q]).length = l0.length + 1 := by simp
        rw [e4]
        refine ⟨⟨by omega, by omega⟩, by omega, by omega, Part.mk true q, by simp, fun _ => ⟨big, ⟨by omega, by omega⟩, ⟨by omega, by omega⟩, by omega, by omega, Part.mk false [], by simp, by simp [maxInt], by omega, by omega, rfl, ?_, rfl, rfl⟩, fun h => absurd rfl h⟩
        rw [set_last]; rfl
  · have e1 : joinP l b = l ++ [Part.mk false b] := by simp [joinP, e]
    have e2 : joinP l (b ++ [c]) = l ++ [Part.mk false (b ++ [c])] := by simp [joinP]
    have hlen : (l ++ [Part.mk false b]).length = l.length + 1 := by simp
    have e3 : ((((l ++ [Part.mk false b]).length : Nat) : Int) - 1).toNat = l.length := by omega
    rw [e1, e2]
    refine ⟨fun h => by omega, fun h => ?_⟩
    rw [e3]
    refine ⟨⟨by omega, by omega⟩, by omega, by omega, Part.mk false b, by simp, fun h => by simp at h, fun _ => ⟨⟨by omega, by omega⟩, by omega, by omega, by simp only [maxInt]; omega, by omega, by omega, rfl, ?_, rfl, rfl⟩⟩
    rw [set_last]
/-- A quoted text, behind its first sign: parts so far (l, and b behind them); what comes of it: none, or the parts and how long it is. -/
inductive Qx : List UInt8 → List Part → List UInt8 → Option (List Part × Nat) → Prop
  | nil (l b) : Qx [] l b none
  | shut (t l b) : Qx (34 :: t) l b (some (joinP l b, 1))
  | low (c t l b) (h1 : c ≠ 34) (h2 : c.toNat < 32) : Qx (c :: t) l b none
  | esc (x y t l b r) (h1 : escS x = some y) (h : Qx t l (b ++ [y]) r) : Qx (92 :: x :: t) l b (r.map fun q => (q.1, q.2 + 2))
  | esc0 (l b) : Qx [92] l b none
  | escbad (x t l b) (h1 : escS x = none) : Qx (92 :: x :: t) l b none
  | ref (t l b r) (h1 : (refS t).2 = true) (h : Qx (t.drop ((refS t).1.length + 1)) (joinP l b ++ [Part.mk true (refS t).1]) [] r) : Qx (36 :: 123 :: t) l b (r.map fun q => (q.1, q.2 + (3 + (refS t).1.length)))
  | refbad (t l b) (h1 : (refS t).2 = false) : Qx (36 :: 123 :: t) l b none
  | plain (c t l b r) (h1 : c ≠ 34) (h2 : ¬ c.toNat < 32) (h3 : c ≠ 92) (h4 : c = 36 → t.head? ≠ some 123) (h : Qx t l (b ++ [c]) r) : Qx (c :: t) l b (r.map fun q => (q.1, q.2 + 1))
theorem refS_len {t : List UInt8} (h : (refS t).2 = true) : (refS t).1.length + 1 ≤ t.length := by
  obtain ⟨x, y, v, e, _, _, e2⟩ := ref_split h
  rw [e2, e]
  simp
  omega
end Go.Proofs.YtfbcnpbhhooapaaGreatDoor.M

/- Lex: lex.quoted takes what Qx tells. -/
namespace Go.Proofs.YtfbcnpbhhooapaaGreatDoor.M
set_option linter.unusedSimpArgs false
set_option linter.unusedVariables false
open Go Classical
theorem cls4 (c : UInt8) : clsS c = 4 ↔ c = 34 := by
  have e : c = 34 ↔ c.toNat = 34 := by rw [← UInt8.toNat_inj]; rfl
  rw [e]
  unfold clsS
  repeat' split
  all_goals (first | omega | (constructor <;> intro h <;> first | omega | exact absurd h (by decide)))
theorem takeT_takeT (t : LText) (a b : Nat) : takeT (takeT t a) b = takeT t (a + b) := by
  unfold takeT
  simp only [LText.mk.injEq, List.drop_drop]
  exact ⟨trivial, by omega⟩
theorem head_left {t : LText} {c : UInt8} {u : List UInt8} (h : t.left = c :: u) : ¬ t.left = [] ∧ t.left[0]? = some c := by rw [h]; simp
def QOut (gp : Nat) (lt : LTokens) (g : Nat) (z : Bool) (l : List Part) (b : List UInt8) : Option (List Part × Nat) → Prop
  | none => ∃ t' : LTokens, t'.out = lt.out ∧ At_lex_tokens_quoted_1 0 [] 0 0 [] 0 (joinP l b) gp false lt g z (Token.mk 0 [] 0 [] 0) false t' g z
  | some (ps, n) => n ≤ lt.text.left.length ∧ At_lex_tokens_quoted_1 0 [] 0 0 [] 0 (joinP l b) gp false lt g z (Token.mk 2 [] 0 ps 0) true (LTokens.mk (takeT lt.text n) lt.out) g z
theorem joinP_len (l : List Part) (b : List UInt8) : (joinP l b).length ≤ l.length + 1 := by
  unfold joinP
  split <;> simp
theorem joinP_ref (l : List Part) (q : List UInt8) : joinP (l ++ [Part.mk true q]) [] = l ++ [Part.mk true q] := by simp [joinP]
/-- A step that goes on: what comes behind m bytes comes of the whole. -/
theorem QOut.next {gp : Nat} {lt : LTokens} {g : Nat} {z : Bool} {l : List Part} {b : List UInt8} {l2 : List Part} {b2 : List UInt8} {m : Nat} (hm : m ≤ lt.text.left.length)
    (step : ∀ ra rb t' , At_lex_tokens_quoted_1 0 [] 0 0 [] 0 (joinP l2 b2) gp false (LTokens.mk (takeT lt.text m) lt.out) g z ra rb t' g z → At_lex_tokens_quoted_1 0 [] 0 0 [] 0 (joinP l b) gp false lt g z ra rb t' g z) {r : Option (List Part × Nat)}
    (h : QOut gp (LTokens.mk (takeT lt.text m) lt.out) g z l2 b2 r) : QOut gp lt g z l b (r.map fun q => (q.1, q.2 + m)) := by
  cases r with
  | none => obtain ⟨t', ho, h⟩ := h; exact ⟨t', ho, step _ _ _ h⟩
  | some q =>
    obtain ⟨ps, n⟩ := q
    obtain ⟨h1, h2⟩ := h
    simp only [takeT, List.length_drop] at h1
    refine ⟨by omega, ?_⟩
    have := step _ _ _ h2
    simp only [takeT_takeT] at this
    rw [Nat.add_comm] at this
    exact this
theorem r_quoted_loop {t : List UInt8} {l : List Part} {b : List UInt8} {r : Option (List Part × Nat)} (h : Qx t l b r) : ∀ (gp : Nat) (lt : LTokens) (g : Nat) (z : Bool), lt.text.left = t → TI lt.text → okP l → l.length + t.length ≤ 7000 → b.length + t.length ≤ 7000 → QOut gp lt g z l b r := by
  induction h with
  | nil l b =>
    intro gp lt g z e hT hl h1 h2
    refine ⟨lt, rfl, ?_⟩
    apply At_lex_tokens_quoted_1_step
    exact ⟨fun _ => ⟨rfl, rfl, rfl, rfl, rfl⟩, fun h => absurd e h⟩
  | shut t l b =>
    intro gp lt g z e hT hl h1 h2
    obtain ⟨e1, e2⟩ := head_left e
    have hlen : 1 ≤ lt.text.left.length := by rw [e]; simp
    refine ⟨hlen, ?_⟩
    apply At_lex_tokens_quoted_1_step
    exact ⟨fun h => absurd h e1, fun _ => ⟨34, e2, _, r_class 34, fun _ => ⟨_, _, r_take hT hlen, rfl, rfl, rfl, rfl, rfl⟩, fun h => absurd ((cls4 34).2 rfl) h⟩⟩
  | low c t l b c1 c2 =>
    intro gp lt g z e hT hl h1 h2
    obtain ⟨e1, e2⟩ := head_left e
    refine ⟨lt, rfl, ?_⟩
    apply At_lex_tokens_quoted_1_step
    exact ⟨fun h => absurd h e1, fun _ => ⟨c, e2, _, r_class c, fun h => absurd ((cls4 c).1 h) c1, fun _ => ⟨fun _ => ⟨rfl, rfl, rfl, rfl, rfl⟩, fun h => absurd (by omega) h⟩⟩⟩
  | esc x y t l b r hx _ ih =>
    intro gp lt g z e hT hl h1 h2
    obtain ⟨e1, e2⟩ := head_left e
    simp only [List.length_cons] at h1 h2
    have hlen : 2 ≤ lt.text.left.length := by rw [e]; simp
    refine QOut.next (m := 2) hlen (fun ra rb t' hA => ?_) (ih gp _ g z (by simp only [takeT, e]; rfl) (hT.take hlen) hl (by omega) (by simp; omega))
    apply At_lex_tokens_quoted_1_step
    refine ⟨fun h => absurd h e1, fun _ => ⟨92, e2, _, r_class 92, fun h => absurd ((cls4 92).1 h) (by decide), fun _ => ⟨fun h => absurd h (by decide), fun _ => ⟨fun _ => ?_, fun h => absurd (by decide) h⟩⟩⟩⟩
    rw [e]
    refine ⟨_, _, r_escaped 92 x t, fun _ => ⟨_, _, _, ?_, _, _, r_take hT hlen, hA⟩, fun h => absurd (by rw [hx]; rfl) h⟩
    rw [hx]
    exact r_plain l b y gp hl (by omega) (by omega)
  | esc0 l b =>
    intro gp lt g z e hT hl h1 h2
    obtain ⟨e1, e2⟩ := head_left e
    refine ⟨lt, rfl, ?_⟩
    apply At_lex_tokens_quoted_1_step
    refine ⟨fun h => absurd h e1, fun _ => ⟨92, e2, _, r_class 92, fun h => absurd ((cls4 92).1 h) (by decide), fun _ => ⟨fun h => absurd h (by decide), fun _ => ⟨fun _ => ?_, fun h => absurd (by decide) h⟩⟩⟩⟩
    rw [e]
    refine ⟨0, false, ?_, fun h => (by cases h), fun _ => ⟨rfl, rfl, rfl, rfl, rfl⟩⟩
    apply lex_escaped_tree
    exact ⟨fun _ => ⟨rfl, rfl⟩, fun h => absurd (by decide) h⟩
  | escbad x t l b hx =>
    intro gp lt g z e hT hl h1 h2
    obtain ⟨e1, e2⟩ := head_left e
    refine ⟨lt, rfl, ?_⟩
    apply At_lex_tokens_quoted_1_step
    refine ⟨fun h => absurd h e1, fun _ => ⟨92, e2, _, r_class 92, fun h => absurd ((cls4 92).1 h) (by decide), fun _ => ⟨fun h => absurd h (by decide), fun _ => ⟨fun _ => ?_, fun h => absurd (by decide) h⟩⟩⟩⟩
    rw [e]
    exact ⟨_, _, r_escaped 92 x t, fun h => (by rw [hx] at h; cases h), fun _ => ⟨rfl, rfl, rfl, rfl, rfl⟩⟩
  | ref t l b r hr _ ih =>
    intro gp lt g z e hT hl h1 h2
    obtain ⟨e1, e2⟩ := head_left e
    simp only [List.length_cons] at h1 h2
    have hrl := refS_len hr
    have hj := joinP_len l b
    have hlen : 3 + (refS t).1.length ≤ lt.text.left.length := by rw [e]; simp only [List.length_cons]; omega
    have hT1 := hT.1
    refine QOut.next (m := 3 + (refS t).1.length) hlen (fun ra rb t' hA => ?_) (ih gp _ g z ?_ (hT.take hlen) (.inr ⟨_, _, rfl⟩) ?_ ?_)
    · apply At_lex_tokens_quoted_1_step
      have hR : R_lex_reference lt.text.left (refS t).1 (refS t).2 := by
        have := r_reference lt.text.left (by omega) (by omega)
        rw [e] at this ⊢
        exact this
      have hTake : R_lex_text_take lt.text (3 + (((refS t).1.length : Nat) : Int)) (lt.text.left.take (3 + (refS t).1.length)) (takeT lt.text (3 + (refS t).1.length)) := by
        have := r_take hT hlen
        rw [Int.natCast_add] at this
        exact this
      rw [joinP_ref] at hA
      exact ⟨fun h => absurd h e1, fun _ => ⟨36, e2, _, r_class 36, fun h => absurd ((cls4 36).1 h) (by decide), fun _ => ⟨fun h => absurd h (by decide), fun _ => ⟨fun h => absurd h (by decide), fun _ => ⟨_, r_HasPrefix _ _, fun _ => ⟨_, _, hR, fun _ => ⟨⟨by omega, by omega, by decide⟩, ⟨by omega, by omega⟩, _, _, hTake, hA⟩, fun h => absurd hr h⟩, fun h => absurd (by rw [e]; simp [Lib.hasPrefix]) h⟩⟩⟩⟩⟩
    · simp only [takeT, e]
      rw [show 3 + (refS t).1.length = ((refS t).1.length + 1) + 1 + 1 by omega]
      rfl
    · simp; omega
    · simp; omega
  | refbad t l b hr =>
    intro gp lt g z e hT hl h1 h2
    obtain ⟨e1, e2⟩ := head_left e
    have hT1 := hT.1
    refine ⟨lt, rfl, ?_⟩
    apply At_lex_tokens_quoted_1_step
    have hR : R_lex_reference lt.text.left (refS t).1 (refS t).2 := by
      have := r_reference lt.text.left (by rw [e]; simp) (by omega)
      rw [e] at this ⊢
      exact this
    exact ⟨fun h => absurd h e1, fun _ => ⟨36, e2, _, r_class 36, fun h => absurd ((cls4 36).1 h) (by decide), fun _ => ⟨fun h => absurd h (by decide), fun _ => ⟨fun h => absurd h (by decide), fun _ => ⟨_, r_HasPrefix _ _, fun _ => ⟨_, _, hR, fun h => (by rw [hr] at h; cases h), fun _ => ⟨rfl, rfl, rfl, rfl, rfl⟩⟩, fun h => absurd (by rw [e]; simp [Lib.hasPrefix]) h⟩⟩⟩⟩⟩
  | plain c t l b r c1 c2 c3 c4 _ ih =>
    intro gp lt g z e hT hl h1 h2
    obtain ⟨e1, e2⟩ := head_left e
    simp only [List.length_cons] at h1 h2
    have hlen : 1 ≤ lt.text.left.length := by rw [e]; simp
    have hp : ¬ Lib.hasPrefix lt.text.left [36, 123] = true := by
      rw [e]
      unfold Lib.hasPrefix
      intro h
      cases t with
      | nil => simp at h
      | cons x t =>
        simp at h
        exact c4 h.1.symm (by rw [← h.2]; rfl)
    have hc3 : ¬ ((c.toNat : Nat) : Int) = 92 := fun h => c3 (by apply UInt8.toNat_inj.1; exact Int.ofNat.inj h)
    refine QOut.next (m := 1) hlen (fun ra rb t' hA => ?_) (ih gp _ g z (by simp only [takeT, e]; rfl) (hT.take hlen) hl (by omega) (by simp; omega))
    apply At_lex_tokens_quoted_1_step
    exact ⟨fun h => absurd h e1, fun _ => ⟨c, e2, _, r_class c, fun h => absurd ((cls4 c).1 h) c1, fun _ => ⟨fun h => absurd h (by omega), fun _ => ⟨fun h => absurd h hc3, fun _ => ⟨_, r_HasPrefix _ _, fun h => absurd h hp, fun _ => ⟨_, _, _, r_plain l b c gp hl (by omega) (by omega), _, _, r_take hT hlen, hA⟩⟩⟩⟩⟩⟩
end Go.Proofs.YtfbcnpbhhooapaaGreatDoor.M

/- Digits: the library of Go, and the document. -/
namespace Go.Proofs.YtfbcnpbhhooapaaGreatDoor.M
set_option linter.unusedSimpArgs false
set_option linter.unusedVariables false
open Go Classical
theorem r_Itoa (n : Int) (h : I64 n) : R_strconv_Itoa n (Lib.itoa n) := fun S => call_ext sp_strconv_Itoa S (if_pos h)
end Go.Proofs.YtfbcnpbhhooapaaGreatDoor.M

/- Lex: numbers, on both sides. -/
namespace Go.Proofs.YtfbcnpbhhooapaaGreatDoor.M
set_option linter.unusedSimpArgs false
set_option linter.unusedVariables false
open Go Classical
def Dg (l : List UInt8) : Prop := ∀ c ∈ l, 48 ≤ c.toNat ∧ c.toNat ≤ 57
theorem inC3 (c : UInt8) : inC [3] c = true ↔ 48 ≤ c.toNat ∧ c.toNat ≤ 57 := by
  unfold inC clsS
  simp only [List.mem_singleton, decide_eq_true_eq]
  repeat' split
  all_goals (first | omega | (constructor <;> intro h <;> first | omega | exact absurd h (by decide)))
theorem Dg_take (t : List UInt8) : Dg (t.takeWhile (inC [3])) := fun c hc => (inC3 c).1 (List.all_eq_true.1 List.all_takeWhile c hc)
/-- The number that digits spell, behind a number. -/
def digV (acc : Nat) (l : List UInt8) : Nat := l.foldl (fun a c => a * 10 + (c.toNat - 48)) acc
theorem digV_cons (acc : Nat) (c : UInt8) (r : List UInt8) : digV acc (c :: r) = digV (acc * 10 + (c.toNat - 48)) r := by
  unfold digV
  rw [List.foldl_cons]
theorem digV_nil (acc : Nat) : digV acc [] = acc := by
  unfold digV
  rw [List.foldl_nil]
theorem digV_ge : ∀ (l : List UInt8) (acc : Nat), acc ≤ digV acc l
  | [], acc => by rw [digV_nil]; exact Nat.le_refl _
  | c :: r, acc => by
    rw [digV_cons]
    have := digV_ge r (acc * 10 + (c.toNat - 48))
    omega
theorem parse_num (l : List UInt8) : ∀ (acc : Nat), Dg l → acc < 18446744073709551616 → Lib.parseUint10 acc l = if digV acc l < 18446744073709551616 then .ok (digV acc l) else .range := by
  induction l with
  | nil => intro acc _ h; rw [digV_nil, if_pos h, Lib.parseUint10]
  | cons c r ih =>
    intro acc hd h
    have hc := hd c (by simp)
    have hge := digV_ge r (acc * 10 + (c.toNat - 48))
    rw [digV_cons]
    unfold Lib.parseUint10
    rw [if_pos hc]
    by_cases h1 : 1844674407370955162 ≤ acc
    · rw [if_pos h1, if_neg (by omega)]
    · rw [if_neg h1]
      by_cases h2 : 18446744073709551616 ≤ acc * 10 + (c.toNat - 48)
      · rw [if_pos h2, if_neg (by omega)]
      · rw [if_neg h2]
        exact ih _ (fun x hx => hd x (by simp [hx])) (by omega)
theorem atoi_num {l : List UInt8} (hd : Dg l) (hne : l ≠ []) : Lib.atoiAll l = if digV 0 l < 9223372036854775808 then .ok (digV 0 l : Int) else .range := by
  cases l with
  | nil => exact absurd rfl hne
  | cons c r =>
    have hc := hd c (by simp)
    rw [Lib.atoiAll_plain c r (by omega) (by omega), Lib.parseMag, if_neg (by simp), parse_num _ 0 hd (by omega)]
    by_cases h : digV 0 (c :: r) < 18446744073709551616
    · rw [if_pos h]
      by_cases h2 : digV 0 (c :: r) < 9223372036854775808
      · simp only [Lib.signless, if_pos h2, if_neg (show ¬ 9223372036854775808 ≤ digV 0 (c :: r) by omega)]
      · simp only [Lib.signless, if_neg h2, if_pos (show 9223372036854775808 ≤ digV 0 (c :: r) by omega)]
    · rw [if_neg h, if_neg (show ¬ digV 0 (c :: r) < 9223372036854775808 by omega)]
      rfl
theorem dec_step {a d : Nat} (ha : 0 < a) (hd : d < 10) : Lib.decDigits (a * 10 + d) = Lib.decDigits a ++ [UInt8.ofNat (48 + d)] := by
  rw [Lib.decDigits, dif_neg (by omega), show (a * 10 + d) / 10 = a by omega, show (a * 10 + d) % 10 = d by omega]
theorem dec_num : ∀ (l : List UInt8) (acc : Nat), 0 < acc → Dg l → Lib.decDigits (digV acc l) = Lib.decDigits acc ++ l
  | [], acc, _, _ => by rw [digV_nil, List.append_nil]
  | c :: r, acc, h, hd => by
    have hc := hd c (by simp)
    rw [digV_cons, dec_num r _ (by omega) (fun x hx => hd x (by simp [hx])), dec_step h (by omega)]
    have : UInt8.ofNat (48 + (c.toNat - 48)) = c := by
      rw [show 48 + (c.toNat - 48) = c.toNat by omega]; simp
    rw [this]
    simp
theorem dec_first {c : UInt8} {r : List UInt8} (hd : Dg (c :: r)) (h : c.toNat ≠ 48) : Lib.decDigits (digV 0 (c :: r)) = c :: r := by
  have hc := hd c (by simp)
  rw [digV_cons, dec_num r _ (by omega) (fun x hx => hd x (by simp [hx])), Nat.zero_mul, Nat.zero_add, Lib.decDigits_one (by omega)]
  have : UInt8.ofNat (48 + (c.toNat - 48)) = c := by
    rw [show 48 + (c.toNat - 48) = c.toNat by omega]; simp
  rw [this]
  rfl
theorem dec_len : ∀ (r : List UInt8), Dg r → r ≠ [] → (Lib.decDigits (digV 0 r)).length ≤ r.length
  | [], _, h => absurd rfl h
  | c :: r, hd, _ => by
    by_cases h : c.toNat = 48
    · rw [digV_cons, h]
      cases r with
      | nil => simp [digV_nil, Lib.decDigits_one (show 0 < 10 by omega)]
      | cons b r =>
        have := dec_len (b :: r) (fun x hx => hd x (by simp at hx ⊢; exact .inr hx)) (by simp)
        simp only [Nat.zero_mul, Nat.sub_self, Nat.add_zero, List.length_cons] at this ⊢
        omega
    · rw [dec_first hd h]
      exact Nat.le_refl _
/-- Digits are a number: within 64 bits, and no nought ahead. -/
def numOk (d : List UInt8) : Prop := digV 0 d < 9223372036854775808 ∧ (d.head? = some 48 → d.length = 1)
instance (d : List UInt8) : Decidable (numOk d) := by unfold numOk; infer_instance
theorem itoa_num {d : List UInt8} (hd : Dg d) (hne : d ≠ []) : Lib.itoa ((digV 0 d : Nat) : Int) = d ↔ (d.head? = some 48 → d.length = 1) := by
  have e : Lib.itoa ((digV 0 d : Nat) : Int) = Lib.decDigits (digV 0 d) := by
    unfold Lib.itoa
    rw [if_neg (by omega)]
    rfl
  rw [e]
  cases d with
  | nil => exact absurd rfl hne
  | cons c r =>
    by_cases h : c.toNat = 48
    · have hc : c = 48 := UInt8.toNat_inj.1 h
      subst hc
      simp only [List.head?_cons, List.length_cons, forall_const]
      cases r with
      | nil =>
        have h0 : digV 0 [48] = 0 := by rw [digV_cons, digV_nil]; rfl
        rw [h0, Lib.decDigits_one (show 0 < 10 by omega)]
        simp
      | cons b r =>
        have := dec_len (b :: r) (fun x hx => hd x (by simp at hx ⊢; exact .inr hx)) (by simp)
        constructor
        · intro h2
          have h3 : digV 0 (48 :: b :: r) = digV 0 (b :: r) := by rw [digV_cons]; rfl
          rw [← h3, h2] at this
          simp at this
          omega
        · intro h2
          simp at h2
    · rw [dec_first hd h]
      simp only [List.head?_cons, Option.some.injEq, true_iff]
      intro e
      exact absurd (by rw [e]; rfl) h
def numS (t : List UInt8) : Option (Token × Nat) := if numOk (t.takeWhile (inC [3])) then some (Token.mk 1 [] (digV 0 (t.takeWhile (inC [3])) : Nat) [] 0, (t.takeWhile (inC [3])).length) else none
theorem r_Atoi {l : List UInt8} (hd : Dg l) (hne : l ≠ []) (hl : l.length ≤ 1000000) : ∃ v : Int, R_strconv_Atoi l v (decide (¬ digV 0 l < 9223372036854775808)) ∧ (digV 0 l < 9223372036854775808 → v = (digV 0 l : Nat)) := by
  have ha := atoi_num hd hne
  by_cases h : digV 0 l < 9223372036854775808
  · rw [if_pos h] at ha
    exact ⟨_, fun S => call_ext sp_strconv_Atoi S (by simp only [atoiX, ha]; rw [if_pos (by omega)]; simp [h]), fun _ => rfl⟩
  · rw [if_neg h] at ha
    exact ⟨Lib.atoiSat l, fun S => call_ext sp_strconv_Atoi S (by simp only [atoiX, ha]; rw [if_pos (by omega)]; simp [h]), fun e => absurd e h⟩
/-- lex.number: what numS tells. -/
theorem r_number (t : LTokens) (g : Nat) (z : Bool) (h : TI t.text) (hne : t.text.left.takeWhile (inC [3]) ≠ []) : match numS t.text.left with
    | none => ∃ (x : Token) (t' : LTokens), t'.out = t.out ∧ R_lex_tokens_number t g z x false t' g z
    | some (x, n) => R_lex_tokens_number t g z x true (LTokens.mk (takeT t.text n) t.out) g z := by
  have h1 := h.1
  have hd := Dg_take t.text.left
  have hw := r_word h [3] (by decide)
  have hl := spanS_le [3] t.text.left
  unfold spanS at hw hl
  unfold numS
  generalize t.text.left.takeWhile (inC [3]) = d at *
  obtain ⟨v, ha, hv⟩ := r_Atoi hd hne (by omega)
  by_cases hb : digV 0 d < 9223372036854775808
  · obtain rfl := hv hb
    have hi := itoa_num hd hne
    by_cases h0 : d.head? = some 48 → d.length = 1
    · rw [if_pos ⟨hb, h0⟩]
      apply lex_tokens_number_tree
      refine ⟨_, _, hw, _, _, ha, fun e => ?_, fun _ => ⟨_, r_Itoa _ ⟨by omega, by omega⟩, rfl, ?_, rfl, rfl, rfl⟩⟩
      · simp [hb] at e
      · exact decide_eq_true (hi.2 h0)
    · rw [if_neg (fun e => h0 e.2)]
      refine ⟨_, LTokens.mk (takeT t.text d.length) t.out, rfl, lex_tokens_number_tree _ _ _ _ _ _ _ _ ⟨_, _, hw, _, _, ha, fun e => ?_, fun _ => ⟨_, r_Itoa _ ⟨by omega, by omega⟩, rfl, ?_, rfl, rfl, rfl⟩⟩⟩
      · simp [hb] at e
      · exact decide_eq_false (fun e => h0 (hi.1 e))
  · rw [if_neg (fun e => hb e.1)]
    exact ⟨_, LTokens.mk (takeT t.text d.length) t.out, rfl, lex_tokens_number_tree _ _ _ _ _ _ _ _ ⟨_, _, hw, _, _, ha, fun _ => ⟨rfl, rfl, rfl, rfl, rfl⟩, fun e => absurd (decide_eq_true hb) e⟩⟩
/-! ### The other side -/
def atT (x : Token) (i : Int) : Token := ⟨x.Kind, x.Text, x.Num, x.Parts, i⟩
end Go.Proofs.YtfbcnpbhhooapaaGreatDoor.M

/- Lex: quoted texts: the whole of lex.quoted; and ref1.text follows Qx. -/
namespace Go.Proofs.YtfbcnpbhhooapaaGreatDoor.M
set_option linter.unusedSimpArgs false
set_option linter.unusedVariables false
open Go Classical
/-- lex.quoted: what Qx tells, behind the first sign. -/
theorem r_quoted (t : LTokens) (g : Nat) (z : Bool) (h : TI t.text) {u : List UInt8} (e : t.text.left = 34 :: u) {r : Option (List Part × Nat)} (hq : Qx u [] [] r) : match r with
    | none => ∃ t' : LTokens, t'.out = t.out ∧ R_lex_tokens_quoted t g z (Token.mk 0 [] 0 [] 0) false t' g z
    | some (ps, n) => n + 1 ≤ t.text.left.length ∧ R_lex_tokens_quoted t g z (Token.mk 2 [] 0 ps 0) true (LTokens.mk (takeT t.text (n + 1)) t.out) g z := by
  have hlen : 1 ≤ t.text.left.length := by rw [e]; simp
  have h1 := h.1
  have hu : u.length ≤ 6000 := by rw [e] at h1; simp at h1; omega
  have hl : (takeT t.text 1).left = u := by simp only [takeT, e]; rfl
  have key := r_quoted_loop hq 0 (LTokens.mk (takeT t.text 1) t.out) g z hl (h.take hlen) (.inl rfl) (by simp; omega) (by simp; omega)
  cases r with
  | none =>
    obtain ⟨t', ho, hA⟩ := key
    exact ⟨t', ho, lex_tokens_quoted_tree _ _ _ _ _ _ _ _ ⟨_, _, r_take h hlen, hA⟩⟩
  | some q =>
    obtain ⟨ps, n⟩ := q
    obtain ⟨hn, hA⟩ := key
    simp only [takeT_takeT] at hA
    simp only at hn
    rw [hl] at hn
    refine ⟨by rw [e]; simp; omega, lex_tokens_quoted_tree _ _ _ _ _ _ _ _ ⟨_, _, r_take h hlen, ?_⟩⟩
    rw [Nat.add_comm n 1]
    exact hA
/-! ### The other side -/
def TOut (s : List UInt8) (i k : Nat) (l : List Part) (b : List UInt8) : Option (List Part × Nat) → Prop
  | none => At_ref1_text_1 s i k 0 [] 0 0 [] 0 l b (Token.mk 0 [] 0 [] 0) 0
  | some (ps, n) => At_ref1_text_1 s i k 0 [] 0 0 [] 0 l b (Token.mk 2 [] 0 ps i) ((k : Int) + n - i)
theorem TOut.next {s : List UInt8} {i k : Nat} {l l2 : List Part} {b b2 : List UInt8} {m : Nat} (step : ∀ ra rb, At_ref1_text_1 s i ((k + m : Nat) : Int) 0 [] 0 0 [] 0 l2 b2 ra rb → At_ref1_text_1 s i k 0 [] 0 0 [] 0 l b ra rb) {r : Option (List Part × Nat)} (h : TOut s i (k + m) l2 b2 r) : TOut s i k l b (r.map fun q => (q.1, q.2 + m)) := by
  cases r with
  | none => exact step _ _ h
  | some q =>
    obtain ⟨ps, n⟩ := q
    have := step _ _ h
    simp only [TOut, Option.map_some]
    rw [show (k : Int) + ((n + m : Nat) : Int) - (i : Int) = ((k + m : Nat) : Int) + (n : Int) - (i : Int) by omega]
    exact this
end Go.Proofs.YtfbcnpbhhooapaaGreatDoor.M

/- Lex: a token, on both sides. -/
namespace Go.Proofs.YtfbcnpbhhooapaaGreatDoor.M
set_option linter.unusedSimpArgs false
set_option linter.unusedVariables false
open Go Classical
theorem cls5 (c : UInt8) : clsS c = 5 ↔ c = 35 := by
  have e : c = 35 ↔ c.toNat = 35 := by rw [← UInt8.toNat_inj]; rfl
  rw [e]
  unfold clsS
  repeat' split
  all_goals (first | omega | (constructor <;> intro h <;> first | omega | exact absurd h (by decide)))
/-- A token that stands at the beginning, and how long it is; none: none may stand there. -/
inductive Tok : List UInt8 → Option (Token × Nat) → Prop
  | name (c : UInt8) (u : List UInt8) (h : clsS c = 2) : Tok (c :: u) (if ((c :: u).takeWhile (inC [2, 3])).length ≤ 24 then some (Token.mk 3 ((c :: u).takeWhile (inC [2, 3])) 0 [] 0, spanS [2, 3] (c :: u)) else none)
  | num (c : UInt8) (u : List UInt8) (h : clsS c = 3) : Tok (c :: u) (numS (c :: u))
  | text (u : List UInt8) (r : Option (List Part × Nat)) (h : Qx u [] [] r) : Tok (34 :: u) (r.map fun q => (Token.mk 2 [] 0 q.1 0, q.2 + 1))
  | sign (c : UInt8) (u : List UInt8) (h2 : clsS c ≠ 2) (h3 : clsS c ≠ 3) (h4 : clsS c ≠ 4) : Tok (c :: u) (if signS (c :: u) = [] then none else some (Token.mk 4 (signS (c :: u)) 0 [] 0, (signS (c :: u)).length))
theorem Qx_len {t : List UInt8} {l : List Part} {b : List UInt8} {r : Option (List Part × Nat)} (h : Qx t l b r) : ∀ q, r = some q → 0 < q.2 ∧ q.2 ≤ t.length := by
  induction h with
  | nil | low | esc0 | escbad | refbad => intro q hq; cases hq
  | shut t l b => intro q hq; obtain rfl := Option.some.inj hq; simp
  | esc x y t l b r hx _ ih =>
    intro q hq
    obtain ⟨q0, h0, rfl⟩ := Option.map_eq_some_iff.1 hq
    have := ih q0 h0
    simp only [List.length_cons]
    omega
  | ref t l b r hr _ ih =>
    intro q hq
    obtain ⟨q0, h0, rfl⟩ := Option.map_eq_some_iff.1 hq
    have := ih q0 h0
    have h1 := refS_len hr
    simp only [List.length_cons, List.length_drop] at this ⊢
    omega
  | plain c t l b r c1 c2 c3 c4 _ ih =>
    intro q hq
    obtain ⟨q0, h0, rfl⟩ := Option.map_eq_some_iff.1 hq
    have := ih q0 h0
    simp only [List.length_cons]
    omega
theorem span_pos {cl : List Int} {c : UInt8} (u : List UInt8) (h : inC cl c = true) : 0 < spanS cl (c :: u) := by
  unfold spanS
  rw [List.takeWhile_cons, if_pos h]
  simp
theorem signS_len (c : UInt8) (u : List UInt8) : (signS (c :: u)).length ≤ (c :: u).length := by
  cases u with
  | nil => simp only [signS, sign1]; split <;> simp
  | cons b u => simp only [signS, sign2, sign1]; repeat' split <;> simp
theorem Tok_len {t : List UInt8} {r : Option (Token × Nat)} (h : Tok t r) : ∀ q, r = some q → 0 < q.2 ∧ q.2 ≤ t.length := by
  cases h with
  | name c u h =>
    intro q hq
    split at hq
    · obtain rfl := Option.some.inj hq
      exact ⟨span_pos u ((inC23 c).2 (.inl h)), spanS_le _ _⟩
    · cases hq
  | num c u h =>
    intro q hq
    unfold numS at hq
    split at hq
    · obtain rfl := Option.some.inj hq
      exact ⟨span_pos (cl := [3]) u (by unfold inC; simp [h]), spanS_le [3] _⟩
    · cases hq
  | text u r h =>
    intro q hq
    obtain ⟨q0, h0, rfl⟩ := Option.map_eq_some_iff.1 hq
    have := Qx_len h q0 h0
    simp only [List.length_cons]
    omega
  | sign c u h2 h3 h4 =>
    intro q hq
    split at hq
    · cases hq
    · rename_i hne
      obtain rfl := Option.some.inj hq
      exact ⟨List.length_pos_iff.2 hne, signS_len c u⟩
theorem takeWhile_idem (p : UInt8 → Bool) : ∀ l : List UInt8, (l.takeWhile p).takeWhile p = l.takeWhile p
  | [] => rfl
  | c :: l => by
    rw [List.takeWhile_cons]
    split
    · rename_i h
      rw [List.takeWhile_cons, if_pos h, takeWhile_idem p l]
    · rfl
theorem name_word {c : UInt8} (u : List UInt8) (h : clsS c = 2) : nameS ((c :: u).takeWhile (inC [2, 3])) = decide (((c :: u).takeWhile (inC [2, 3])).length ≤ 24) := by
  have hc : inC [2, 3] c = true := (inC23 c).2 (.inl h)
  have hi := takeWhile_idem (inC [2, 3]) (c :: u)
  rw [List.takeWhile_cons, if_pos hc] at hi ⊢
  unfold nameS
  refine decide_eq_decide.2 ⟨fun e => e.2.1, fun e => ⟨by simp, e, ?_⟩⟩
  rw [endS, if_pos h, spanS, hi]
theorem dig_ne {c : UInt8} (u : List UInt8) (h : clsS c = 3) : (c :: u).takeWhile (inC [3]) ≠ [] := by
  rw [List.takeWhile_cons, if_pos (by unfold inC; simp [h])]
  simp
def NextP (t : LTokens) (g : Nat) (z : Bool) : Option (Token × Nat) → Prop
  | none => ∃ t', R_lex_tokens_next t g z false t' g z
  | some (x, n) => R_lex_tokens_next t g z true (LTokens.mk (takeT t.text n) (t.out ++ [atT x t.text.pos])) g z
/-- lex.next: what Tok tells. -/
theorem r_next (t : LTokens) (g : Nat) (z : Bool) (h : TI t.text) (ho : t.out.length ≤ 6000) {r : Option (Token × Nat)} {l : List UInt8} (hl : t.text.left = l) (hk : Tok l r) : NextP t g z r := by
  have big : bigRow (t.out.length + 1) 64 := ⟨by omega, by omega, by decide⟩
  cases hk with
  | name c u hc =>
    have hn := r_name t g z h
    rw [hl, name_word u hc] at hn
    have hd : t.text.left[0]? = some c := by rw [hl]; rfl
    by_cases hlen : ((c :: u).takeWhile (inC [2, 3])).length ≤ 24
    rotate_left
    · rw [if_neg hlen]
      · rw [decide_eq_false hlen] at hn
        exact ⟨_, lex_tokens_next_tree _ _ _ _ _ _ _ ⟨c, hd, _, r_class c, fun _ => ⟨_, _, _, _, _, hn, big, rfl, rfl, rfl, rfl⟩, fun e => absurd hc e⟩⟩
    · rw [if_pos hlen]
      · rw [decide_eq_true hlen] at hn
        exact lex_tokens_next_tree _ _ _ _ _ _ _ ⟨c, hd, _, r_class c, fun _ => ⟨_, _, _, _, _, hn, big, rfl, rfl, rfl, rfl⟩, fun e => absurd hc e⟩
  | num c u hc =>
    have hd : t.text.left[0]? = some c := by rw [hl]; rfl
    have hn := r_number t g z h (by rw [hl]; exact dig_ne u hc)
    rw [hl] at hn
    have h2 : clsS c ≠ 2 := by omega
    revert hn
    generalize numS (c :: u) = q
    intro hn
    rcases q with _ | ⟨x, n⟩
    · obtain ⟨x, t', ho', hn⟩ := hn
      exact ⟨_, lex_tokens_next_tree _ _ _ _ _ _ _ ⟨c, hd, _, r_class c, fun e => absurd e h2, fun _ => ⟨fun _ => ⟨_, _, _, _, _, hn, by rw [ho']; exact big, rfl, rfl, rfl, rfl⟩, fun e => absurd hc e⟩⟩⟩
    · exact lex_tokens_next_tree _ _ _ _ _ _ _ ⟨c, hd, _, r_class c, fun e => absurd e h2, fun _ => ⟨fun _ => ⟨_, _, _, _, _, hn, big, rfl, rfl, rfl, rfl⟩, fun e => absurd hc e⟩⟩
  | text u q hq =>
    have hd : t.text.left[0]? = some 34 := by rw [hl]; rfl
    have hn := r_quoted t g z h hl hq
    have h4 : clsS 34 = 4 := (cls4 34).2 rfl
    cases q with
    | none =>
      obtain ⟨t', ho', hn⟩ := hn
      exact ⟨_, lex_tokens_next_tree _ _ _ _ _ _ _ ⟨34, hd, _, r_class 34, fun e => by omega, fun _ => ⟨fun e => by omega, fun _ => ⟨fun _ => ⟨_, _, _, _, _, hn, by rw [ho']; exact big, rfl, rfl, rfl, rfl⟩, fun e => absurd h4 e⟩⟩⟩⟩
    | some p =>
      obtain ⟨ps, n⟩ := p
      exact lex_tokens_next_tree _ _ _ _ _ _ _ ⟨34, hd, _, r_class 34, fun e => by omega, fun _ => ⟨fun e => by omega, fun _ => ⟨fun _ => ⟨_, _, _, _, _, hn.2, big, rfl, rfl, rfl, rfl⟩, fun e => absurd h4 e⟩⟩⟩
  | sign c u h2 h3 h4 =>
    have hd : t.text.left[0]? = some c := by rw [hl]; rfl
    have hn := r_sign t g z h (by rw [hl]; simp)
    rw [hl] at hn
    by_cases he : signS (c :: u) = []
    · rw [if_pos he]
      · rw [if_pos he, if_pos he, decide_eq_false (fun e => e he)] at hn
        exact ⟨_, lex_tokens_next_tree _ _ _ _ _ _ _ ⟨c, hd, _, r_class c, fun e => absurd e h2, fun _ => ⟨fun e => absurd e h3, fun _ => ⟨fun e => absurd e h4, fun _ => ⟨_, _, _, _, _, hn, big, rfl, rfl, rfl, rfl⟩⟩⟩⟩⟩
    · rw [if_neg he]
      · rw [if_neg he, if_neg he, decide_eq_true he] at hn
        exact lex_tokens_next_tree _ _ _ _ _ _ _ ⟨c, hd, _, r_class c, fun e => absurd e h2, fun _ => ⟨fun e => absurd e h3, fun _ => ⟨fun e => absurd e h4, fun _ => ⟨_, _, _, _, _, hn, big, rfl, rfl, rfl, rfl⟩⟩⟩⟩
end Go.Proofs.YtfbcnpbhhooapaaGreatDoor.M

/- Lex: all tokens of a text (Lx), on both sides; and a function that reckons them. -/
namespace Go.Proofs.YtfbcnpbhhooapaaGreatDoor.M
set_option linter.unusedSimpArgs false
set_option linter.unusedVariables false
open Go Classical
/-- What a text's tokens are, from a place on; none: an error. -/
inductive Lx : List UInt8 → Int → Option (List Token) → Prop
  | nil (p : Int) : Lx [] p (some [Token.mk 0 [] 0 [] p])
  | gap (c : UInt8) (t : List UInt8) (p : Int) (r : Option (List Token)) (hc : clsS c = 1) (h : Lx t (p + 1) r) : Lx (c :: t) p r
  | remark (t : List UInt8) (p : Int) (r : Option (List Token)) (h : Lx (t.dropWhile (· != 10)) (p + ((t.takeWhile (· != 10)).length + 1 : Nat)) r) : Lx (35 :: t) p r
  | bad (c : UInt8) (t : List UInt8) (p : Int) (h1 : clsS c ≠ 1) (h2 : clsS c ≠ 5) (h : Tok (c :: t) none) : Lx (c :: t) p none
  | tok (c : UInt8) (t : List UInt8) (p : Int) (x : Token) (n : Nat) (r : Option (List Token)) (h1 : clsS c ≠ 1) (h2 : clsS c ≠ 5) (h : Tok (c :: t) (some (x, n))) (h' : Lx ((c :: t).drop n) (p + n) r) : Lx (c :: t) p (r.map (atT x p :: ·))
def stands : List UInt8 → Prop
  | [] => True
  | c :: _ => clsS c ≠ 1 ∧ clsS c ≠ 5
theorem take0 (t : LText) : takeT t 0 = t := by
  unfold takeT
  simp
theorem takeWhile_all (p : UInt8 → Bool) : ∀ l : List UInt8, (∀ x ∈ l, p x = true) → l.takeWhile p = l
  | [], _ => rfl
  | c :: l, h => by rw [List.takeWhile_cons, if_pos (h c (by simp)), takeWhile_all p l (fun x hx => h x (by simp [hx]))]
theorem cut_line (s : List UInt8) : (Lib.cut s [10]).1 = s.takeWhile (· != 10) := by
  rw [cut1]
  split
  · rfl
  · rename_i h
    exact (takeWhile_all _ _ fun x hx => by
      simp only [bne_iff_ne, ne_eq]
      intro e
      exact h (e ▸ hx)).symm
theorem drop_line (t : List UInt8) : (35 :: t : List UInt8).drop ((t.takeWhile (· != 10)).length + 1) = t.dropWhile (· != 10) := by
  rw [List.drop_succ_cons]
  exact drop_while_len _ _
theorem line_len (t : List UInt8) : (t.takeWhile (· != 10)).length ≤ t.length := by
  have := congrArg List.length (List.takeWhile_append_dropWhile (p := (· != (10 : UInt8))) (l := t))
  rw [List.length_append] at this
  omega
theorem span1 {c : UInt8} (t : List UInt8) (h : clsS c = 1) : spanS [1] (c :: t) = spanS [1] t + 1 := by
  unfold spanS
  rw [List.takeWhile_cons, if_pos (by unfold inC; simp [h])]
  rfl
theorem span0 {c : UInt8} (t : List UInt8) (h : clsS c ≠ 1) : spanS [1] (c :: t) = 0 := by
  unfold spanS
  rw [List.takeWhile_cons, if_neg (by unfold inC; simp [h])]
  rfl
/-- lex.skip, behind its first blanks. -/
theorem r_skip_loop {l : List UInt8} {p : Int} {r : Option (List Token)} (h : Lx l p r) : ∀ (t : LTokens) (g : Nat) (z : Bool), t.text.left = l → t.text.pos = p → TI t.text →
    ∃ n, n ≤ l.length ∧ At_lex_tokens_skip_1 (LTokens.mk (takeT t.text (spanS [1] l)) t.out) g z (LTokens.mk (takeT t.text n) t.out) g z ∧ Lx (l.drop n) (p + n) r ∧ stands (l.drop n) := by
  induction h with
  | nil p =>
    intro t g z e ep hT
    refine ⟨0, Nat.le_refl _, ?_, by simpa using Lx.nil p, trivial⟩
    apply At_lex_tokens_skip_1_step
    refine ⟨_, r_HasPrefix _ _, fun h => ?_, fun _ => ⟨rfl, rfl, rfl⟩⟩
    rw [show spanS [1] [] = 0 from rfl, take0, e] at h
    exact absurd h (by decide)
  | gap c t' p r hc _ ih =>
    intro t g z e ep hT
    have h1 : 1 ≤ t.text.left.length := by rw [e]; simp
    obtain ⟨n, hn, hA, hL, hs⟩ := ih (LTokens.mk (takeT t.text 1) t.out) g z (by simp only [takeT, e]; rfl) (by simp only [takeT, ep]; rfl) (hT.take h1)
    simp only [takeT_takeT] at hA
    refine ⟨n + 1, by simp; omega, ?_, ?_, by rw [List.drop_succ_cons]; exact hs⟩
    · rw [span1 t' hc, Nat.add_comm (spanS [1] t') 1, Nat.add_comm n 1]
      exact hA
    · rw [List.drop_succ_cons, show p + ((n + 1 : Nat) : Int) = p + 1 + (n : Int) by omega]
      exact hL
  | remark t' p r _ ih =>
    intro t g z e ep hT
    have hll := line_len t'
    have h1 : (t'.takeWhile (· != 10)).length + 1 ≤ t.text.left.length := by rw [e]; simp; omega
    have hT1 := hT.1
    obtain ⟨n, hn, hA, hL, hs⟩ := ih (LTokens.mk (takeT t.text ((t'.takeWhile (· != 10)).length + 1)) t.out) g z (by simp only [takeT, e]; exact drop_line t') (by simp only [takeT, ep]) (hT.take h1)
    simp only [takeT_takeT] at hA
    have hdl : (t'.dropWhile (· != 10)).length = t'.length - (t'.takeWhile (· != 10)).length := by rw [← drop_while_len, List.length_drop]
    have hsp : spanS [1] (35 :: t') = 0 := span0 t' (by decide)
    refine ⟨(t'.takeWhile (· != 10)).length + 1 + n, by simp; omega, ?_, ?_, ?_⟩
    · rw [hsp, take0]
      apply At_lex_tokens_skip_1_step
      have hcut : (Lib.cut t.text.left [10]).1 = 35 :: t'.takeWhile (· != 10) := by
        rw [cut_line, e, List.takeWhile_cons, if_pos (by decide)]
      have hR := r_Cut t.text.left [10] (by omega)
      have hTk := r_take hT (n := (35 :: t'.takeWhile (· != 10)).length) (by simpa using h1)
      have hT2 : TI (takeT t.text (35 :: t'.takeWhile (· != 10)).length) := hT.take (by simpa using h1)
      have hW := r_word hT2 [1] (by decide)
      rw [hcut] at hR
      refine ⟨_, r_HasPrefix _ _, fun _ => ⟨_, _, _, hR, _, _, hTk, _, _, hW, ?_⟩, fun h => absurd (by rw [e]; rfl) h⟩
      have hle : (takeT t.text (35 :: t'.takeWhile (· != 10)).length).left = t'.dropWhile (· != 10) := by
        simp only [takeT, e, List.length_cons]; exact drop_line t'
      rw [hle, takeT_takeT]
      exact hA
    · rw [← List.drop_drop, drop_line, show p + (((t'.takeWhile (· != 10)).length + 1 + n : Nat) : Int) = p + (((t'.takeWhile (· != 10)).length + 1 : Nat) : Int) + (n : Int) by omega]
      exact hL
    · rw [← List.drop_drop, drop_line]
      exact hs
  | bad c t' p c1 c2 hk =>
    intro t g z e ep hT
    refine ⟨0, Nat.zero_le _, ?_, by simpa using Lx.bad c t' p c1 c2 hk, ⟨c1, c2⟩⟩
    rw [span0 t' c1]
    apply At_lex_tokens_skip_1_step
    refine ⟨_, r_HasPrefix _ _, fun h => ?_, fun _ => ⟨rfl, rfl, rfl⟩⟩
    rw [take0, e] at h
    exfalso
    apply c2
    rw [cls5]
    symm
    simpa [Lib.hasPrefix] using h
  | tok c t' p x n r c1 c2 hk h' _ =>
    intro t g z e ep hT
    refine ⟨0, Nat.zero_le _, ?_, by simpa using Lx.tok c t' p x n r c1 c2 hk h', ⟨c1, c2⟩⟩
    rw [span0 t' c1]
    apply At_lex_tokens_skip_1_step
    refine ⟨_, r_HasPrefix _ _, fun h => ?_, fun _ => ⟨rfl, rfl, rfl⟩⟩
    rw [take0, e] at h
    exfalso
    apply c2
    rw [cls5]
    symm
    simpa [Lib.hasPrefix] using h
theorem r_skip {l : List UInt8} {p : Int} {r : Option (List Token)} (h : Lx l p r) (t : LTokens) (g : Nat) (z : Bool) (e : t.text.left = l) (ep : t.text.pos = p) (hT : TI t.text) :
    ∃ n, n ≤ l.length ∧ R_lex_tokens_skip t g z (LTokens.mk (takeT t.text n) t.out) g z ∧ Lx (l.drop n) (p + n) r ∧ stands (l.drop n) := by
  obtain ⟨n, hn, hA, hL, hs⟩ := r_skip_loop h t g z e ep hT
  refine ⟨n, hn, lex_tokens_skip_tree _ _ _ _ _ _ ⟨_, _, r_word hT [1] (by decide), ?_⟩, hL, hs⟩
  rw [e]
  exact hA
def lexL : Option (List Token) → List Token
  | none => []
  | some l => l
def lexE : Option (List Token) → Int
  | none => 5
  | some _ => 0
def lexP (out : List Token) : Option (List Token) → List Token
  | none => []
  | some l => out ++ l
theorem r_Lex_loop : ∀ (m : Nat) (l : List UInt8) (p : Int) (r : Option (List Token)), Lx l p r → stands l → l.length ≤ m → ∀ (out : List Token) (g : Nat) (z : Bool), TI ⟨l, p⟩ → (out.length : Int) ≤ p → At_lex_Lex_1 l p out g z (lexP out r) (lexE r) := by
  intro m
  induction m with
  | zero =>
    intro l p r h hs hm out g z hT ho
    have : l = [] := List.length_eq_zero_iff.1 (by omega)
    subst this
    cases h
    have h3 := hT.2.2
    simp only [List.length_nil] at h3
    apply At_lex_Lex_1_step
    exact ⟨fun _ => ⟨⟨by omega, by omega, by decide⟩, rfl, rfl⟩, fun h => absurd rfl h⟩
  | succ m ih =>
    intro l p r h hs hm out g z hT ho
    have h3 := hT.2.2
    cases h with
    | nil =>
      simp only [List.length_nil] at h3
      apply At_lex_Lex_1_step
      exact ⟨fun _ => ⟨⟨by omega, by omega, by decide⟩, rfl, rfl⟩, fun h => absurd rfl h⟩
    | gap c t _ _ hc h => exact absurd hc hs.1
    | remark t _ _ h => exact absurd ((cls5 35).2 rfl) hs.2
    | bad c t _ c1 c2 hk =>
      have hl0 := hT.1
      simp only at hl0 h3
      obtain ⟨t', hn⟩ := r_next (LTokens.mk ⟨c :: t, p⟩ out) g z hT (by simp only; omega) rfl hk
      apply At_lex_Lex_1_step
      exact ⟨fun h => by simp at h, fun _ => ⟨_, _, _, _, hn, fun h => (by cases h), fun _ => ⟨rfl, rfl⟩⟩⟩
    | tok c t _ x n r' c1 c2 hk h' =>
      have hl0 := hT.1
      simp only at hl0 h3
      have hn := r_next (LTokens.mk ⟨c :: t, p⟩ out) g z hT (by simp only; omega) rfl hk
      obtain ⟨n0, n1⟩ := Tok_len hk _ rfl
      simp only at n0 n1
      simp only [NextP] at hn
      have hT2 : TI (takeT ⟨c :: t, p⟩ n) := hT.take n1
      obtain ⟨k, hk1, hS, hL, hst⟩ := r_skip h' (LTokens.mk (takeT ⟨c :: t, p⟩ n) (out ++ [atT x p])) g z rfl rfl hT2
      have hT3 : TI (takeT (takeT ⟨c :: t, p⟩ n) k) := hT2.take hk1
      have hlen : ((c :: t).drop n).length = (c :: t).length - n := List.length_drop
      have hlen2 : (((c :: t).drop n).drop k).length = (c :: t).length - n - k := by rw [List.length_drop, hlen]
      have key := ih _ _ _ hL hst (by omega) (out ++ [atT x p]) g z hT3 (by simp; omega)
      apply At_lex_Lex_1_step
      refine ⟨fun h => by simp at h, fun _ => ⟨_, _, _, _, hn, fun _ => ⟨_, _, _, hS, ?_⟩, fun h => absurd rfl h⟩⟩
      cases r' with
      | none => exact key
      | some l' =>
        have e : lexP (out ++ [atT x p]) (some l') = lexP out ((some l').map (atT x p :: ·)) := by simp [lexP]
        rw [e] at key
        exact key
/-- lex.Lex. -/
theorem r_Lex {s : List UInt8} (hs : s.length ≤ 6000) {r : Option (List Token)} (h : Lx s 0 r) : R_lex_Lex s (lexL r) (lexE r) := by
  have hT : TI ⟨s, 0⟩ := ⟨hs, Int.le_refl _, by simp only; omega⟩
  obtain ⟨k, hk1, hS, hL, hst⟩ := r_skip h (LTokens.mk ⟨s, 0⟩ []) 0 false rfl rfl hT
  have hT2 : TI (takeT ⟨s, 0⟩ k) := hT.take hk1
  have key := r_Lex_loop _ _ _ _ hL hst (Nat.le_refl _) [] 0 false hT2 (by simp)
  have e : lexP [] r = lexL r := by cases r <;> rfl
  rw [e] at key
  apply lex_Lex_tree
  exact ⟨fun h => by omega, fun _ => ⟨_, _, _, hS, key⟩⟩
/-! ### The other side -/
/-! ### As functions -/
def quoF : Nat → List UInt8 → List Part → List UInt8 → Option (List Part × Nat)
  | 0, _, _, _ => none
  | _ + 1, [], _, _ => none
  | n + 1, c :: t, l, b =>
    if c = 34 then some (joinP l b, 1)
    else if c.toNat < 32 then none
    else if c = 92 then
      match t with
      | [] => none
      | x :: t => match escS x with | none => none | some y => (quoF n t l (b ++ [y])).map fun q => (q.1, q.2 + 2)
    else if c = 36 ∧ t.head? = some 123 then
      if (refS t.tail).2 = true then (quoF n (t.tail.drop ((refS t.tail).1.length + 1)) (joinP l b ++ [Part.mk true (refS t.tail).1]) []).map fun q => (q.1, q.2 + (3 + (refS t.tail).1.length)) else none
    else (quoF n t l (b ++ [c])).map fun q => (q.1, q.2 + 1)
theorem quoF_ok : ∀ (n : Nat) (t : List UInt8) (l : List Part) (b : List UInt8), t.length < n → Qx t l b (quoF n t l b)
  | 0, t, l, b, h => by omega
  | n + 1, [], l, b, h => .nil l b
  | n + 1, c :: t, l, b, h => by
    simp only [List.length_cons] at h
    unfold quoF
    split
    · rename_i c1; subst c1; exact .shut t l b
    · rename_i c1
      split
      · rename_i c2; exact .low c t l b c1 c2
      · rename_i c2
        split
        · rename_i c3
          subst c3
          cases t with
          | nil => exact .esc0 l b
          | cons x t =>
            dsimp only
            cases hx : escS x with
            | none => exact .escbad x t l b hx
            | some y => exact .esc x y t l b _ hx (quoF_ok n t l (b ++ [y]) (by simp only [List.length_cons] at h; omega))
        · rename_i c3
          split
          · rename_i c4
            obtain ⟨rfl, h5⟩ := c4
            cases t with
            | nil => cases h5
            | cons x t =>
              obtain rfl : x = 123 := Option.some.inj h5
              simp only [List.length_cons] at h
              split
              · rename_i hx; exact .ref t l b _ hx (quoF_ok n _ _ _ (by simp; omega))
              · rename_i hx; exact .refbad t l b (by simpa using hx)
          · rename_i c4
            exact .plain c t l b _ c1 c2 c3 (fun e e2 => c4 ⟨e, e2⟩) (quoF_ok n t l (b ++ [c]) (by omega))
def tokF : List UInt8 → Option (Token × Nat)
  | [] => none
  | c :: u =>
    if clsS c = 2 then (if ((c :: u).takeWhile (inC [2, 3])).length ≤ 24 then some (Token.mk 3 ((c :: u).takeWhile (inC [2, 3])) 0 [] 0, spanS [2, 3] (c :: u)) else none)
    else if clsS c = 3 then numS (c :: u)
    else if clsS c = 4 then (quoF (u.length + 1) u [] []).map fun q => (Token.mk 2 [] 0 q.1 0, q.2 + 1)
    else if signS (c :: u) = [] then none else some (Token.mk 4 (signS (c :: u)) 0 [] 0, (signS (c :: u)).length)
theorem tokF_ok (c : UInt8) (u : List UInt8) : Tok (c :: u) (tokF (c :: u)) := by
  simp only [tokF]
  split
  · rename_i h; exact .name c u h
  · rename_i h2
    split
    · rename_i h; exact .num c u h
    · rename_i h3
      split
      · rename_i h4
        obtain rfl := (cls4 c).1 h4
        exact .text u _ (quoF_ok _ u [] [] (by omega))
      · rename_i h4; exact .sign c u h2 h3 h4
def lexF : Nat → List UInt8 → Int → Option (List Token)
  | 0, _, _ => none
  | _ + 1, [], p => some [Token.mk 0 [] 0 [] p]
  | n + 1, c :: t, p =>
    if clsS c = 1 then lexF n t (p + 1)
    else if clsS c = 5 then lexF n (t.dropWhile (· != 10)) (p + ((t.takeWhile (· != 10)).length + 1 : Nat))
    else match tokF (c :: t) with
      | none => none
      | some (x, k) => (lexF n ((c :: t).drop k) (p + k)).map (atT x p :: ·)
theorem lexF_ok : ∀ (n : Nat) (t : List UInt8) (p : Int), t.length < n → Lx t p (lexF n t p)
  | 0, t, p, h => by omega
  | n + 1, [], p, h => .nil p
  | n + 1, c :: t, p, h => by
    simp only [List.length_cons] at h
    have ht := tokF_ok c t
    unfold lexF
    split
    · rename_i c1; exact .gap c t p _ c1 (lexF_ok n t _ (by omega))
    · rename_i c1
      split
      · rename_i c2
        obtain rfl := (cls5 c).1 c2
        have := line_len t
        have hdl : (t.dropWhile (· != 10)).length = t.length - (t.takeWhile (· != 10)).length := by rw [← drop_while_len, List.length_drop]
        exact .remark t p _ (lexF_ok n _ _ (by omega))
      · rename_i c2
        split
        · rename_i hk
          rw [hk] at ht
          exact .bad c t p c1 c2 ht
        · rename_i x k hk
          rw [hk] at ht
          have := Tok_len ht _ rfl
          exact .tok c t p x k _ c1 c2 ht (lexF_ok n _ _ (by simp only [List.length_drop, List.length_cons] at this ⊢; omega))
def lexS (s : List UInt8) : Option (List Token) := lexF (s.length + 1) s 0
theorem lexS_ok (s : List UInt8) : Lx s 0 (lexS s) := lexF_ok _ s 0 (Nat.lt_succ_self _)
end Go.Proofs.YtfbcnpbhhooapaaGreatDoor.M

/- Lex: labels (lex.Label). -/
namespace Go.Proofs.YtfbcnpbhhooapaaGreatDoor.M
set_option linter.unusedSimpArgs false
set_option linter.unusedVariables false
open Go Classical
/-! ### Labels -/
theorem rep1 (a b : UInt8) : ∀ (n : Nat) (s : List UInt8), s.length ≤ n → Lib.replaceK [a] [b] (s.count a) s = s.map (fun c => if c = a then b else c)
  | 0, s, h => by
    have : s = [] := List.length_eq_zero_iff.1 (by omega)
    subst this
    rfl
  | n + 1, s, h => by
    by_cases hm : a ∈ s
    · obtain ⟨u, v, rfl, hu⟩ := splitAt_first a s hm
      have h1 : (u ++ a :: v).takeWhile (· != a) = u := takeWhile_stop _ u a v (fun x hx => by simp; intro e; exact hu (e ▸ hx)) (by simp)
      have hi : Lib.index (u ++ a :: v) [a] = (u.length : Nat) := by rw [index1, if_pos hm, h1]
      have hc : (u ++ a :: v).count a = v.count a + 1 := by
        rw [List.count_append, List.count_cons_self, List.count_eq_zero_of_not_mem hu]
        omega
      simp only [List.length_append, List.length_cons] at h
      rw [hc, Lib.replaceK_hit _ _ _ _ _ hi, List.take_left]
      have hd : (u ++ a :: v).drop (u.length + [a].length) = v := drop_mid a u v
      rw [hd, rep1 a b n v (by omega)]
      have hmu : u.map (fun c => if c = a then b else c) = u := by
        conv => rhs; rw [← List.map_id u]
        refine List.map_congr_left fun x hx => ?_
        rw [if_neg (show ¬ x = a from fun e => hu (e ▸ hx))]
        rfl
      simp [hmu]
    · rw [List.count_eq_zero_of_not_mem hm]
      show s = _
      conv => lhs; rw [← List.map_id s]
      refine List.map_congr_left fun x hx => ?_
      rw [if_neg (show ¬ x = a from fun e => hm (e ▸ hx))]
      rfl
def lblS (c : UInt8) : UInt8 := if c = 45 then 95 else c
theorem r_ReplaceAll (s : List UInt8) (hs : s.length ≤ 1000000) : R_strings_ReplaceAll s [45] [95] (s.map lblS) := by
  intro S
  refine call_ext sp_strings_ReplaceAll S ?_
  have hc : Lib.countB ⟨s.toArray⟩ ⟨([45] : List UInt8).toArray⟩ = s.count 45 := Lib.count_one 45 s
  have hle : s.count 45 ≤ s.length := List.count_le_length
  have hr : Lib.replaceAll s [45] [95] = s.map lblS := by
    unfold Lib.replaceAll Lib.replace Lib.replaceNum
    rw [if_neg (by decide), if_pos (.inl (by decide)), Lib.count_one, rep1 45 95 s.length s (Nat.le_refl _)]
    rfl
  simp only [replaceX, hc, hr]
  rw [if_pos]
  simp only [List.length_cons, List.length_nil]
  omega
/-- A label's bytes, behind its first one. -/
def lblC (c : UInt8) : Bool := decide ((97 ≤ c.toNat ∧ c.toNat ≤ 122) ∨ (48 ≤ c.toNat ∧ c.toNat ≤ 57) ∨ c.toNat = 45 ∨ c.toNat = 95)
def labelS : List UInt8 → Bool
  | [] => false
  | c :: u => decide (97 ≤ c.toNat ∧ c.toNat ≤ 122) && u.all lblC && decide (u.length + 1 ≤ 24)
theorem cls3 (c : UInt8) : clsS c = 3 ↔ 48 ≤ c.toNat ∧ c.toNat ≤ 57 := by
  have := inC3 c
  unfold inC at this
  simpa using this
theorem cls2 (c : UInt8) : clsS c = 2 ↔ c.toNat = 95 ∨ (97 ≤ c.toNat ∧ c.toNat ≤ 122) := by
  unfold clsS
  repeat' split
  all_goals (first | omega | (constructor <;> intro h <;> first | omega | exact absurd h (by decide)))
theorem lblC_in (c : UInt8) : inC [2, 3] (lblS c) = lblC c := by
  have h : inC [2, 3] (lblS c) = true ↔ lblC c = true := by
    rw [inC23, cls2, cls3]
    unfold lblS lblC
    rw [decide_eq_true_eq]
    by_cases h : c = 45
    · rw [if_pos h, h]; decide
    · have h' : c.toNat ≠ 45 := fun e => h (UInt8.toNat_inj.1 e)
      rw [if_neg h]
      omega
  cases h1 : inC [2, 3] (lblS c) <;> cases h2 : lblC c <;> simp_all
theorem span_all (cl : List Int) : ∀ l : List UInt8, spanS cl l = l.length ↔ ∀ c ∈ l, inC cl c = true
  | [] => by simp [spanS]
  | c :: l => by
    have ih := span_all cl l
    unfold spanS at ih ⊢
    rw [List.takeWhile_cons]
    by_cases h : inC cl c = true
    · rw [if_pos h]
      simp [h, ih]
    · rw [if_neg h]
      simp [h]
theorem name_map (c : UInt8) (u : List UInt8) : nameS ((c :: u).map lblS) = decide (clsS (lblS c) = 2 ∧ u.length + 1 ≤ 24 ∧ u.all lblC = true) := by
  unfold nameS
  refine decide_eq_decide.2 ?_
  simp only [List.map_cons, ne_eq, reduceCtorEq, not_false_eq_true, true_and, List.length_cons, List.length_map]
  rw [endS]
  by_cases h : clsS (lblS c) = 2
  · rw [if_pos h]
    have e : spanS [2, 3] (lblS c :: u.map lblS) = u.length + 1 ↔ ∀ x ∈ lblS c :: u.map lblS, inC [2, 3] x = true := by
      have := span_all [2, 3] (lblS c :: u.map lblS)
      simpa using this
    rw [e]
    simp only [h, true_and, List.mem_cons, List.mem_map, List.all_eq_true]
    constructor
    · intro ⟨h1, h2⟩
      refine ⟨h1, fun x hx => ?_⟩
      rw [← lblC_in]
      exact h2 _ (.inr ⟨x, hx, rfl⟩)
    · intro ⟨h1, h2⟩
      refine ⟨h1, fun x hx => ?_⟩
      rcases hx with rfl | ⟨y, hy, rfl⟩
      · rw [inC23]; exact .inl h
      · rw [lblC_in]; exact h2 y hy
  · rw [if_neg h]
    simp [h]
theorem r_lexLabel (s : List UInt8) (hs : s.length ≤ 1000000) : R_lex_Label s (labelS s) := by
  apply lex_Label_tree
  refine ⟨_, r_ReplaceAll s hs, _, r_lexName _ (by simpa using hs), ?_⟩
  cases s with
  | nil => exact ⟨fun h => absurd h (by decide), fun _ => rfl⟩
  | cons c u =>
    rw [name_map]
    refine ⟨fun h => ⟨c, rfl, fun h45 => ?_, fun h45 => ?_⟩, fun h => ?_⟩
    · simp only [labelS]
      rw [decide_eq_false (by omega)]
      rfl
    · obtain ⟨h1, h2, h3⟩ := of_decide_eq_true h
      have hc : ¬ c = 45 := fun e => h45 (by rw [e]; rfl)
      unfold lblS at h1
      rw [if_neg hc, cls2] at h1
      simp only [labelS]
      rw [h3, decide_eq_true h2, Bool.and_true, Bool.and_true]
      rw [← decide_not]
      exact decide_eq_decide.2 (by omega)
    · simp only [labelS]
      symm
      rw [← Bool.not_eq_true]
      intro h2
      apply h
      simp only [Bool.and_eq_true, decide_eq_true_eq] at h2
      refine decide_eq_true ⟨?_, h2.2, h2.1.2⟩
      rw [cls2]
      unfold lblS
      rw [if_neg (fun e => by have := h2.1.1; rw [e] at this; revert this; decide)]
      exact .inr h2.1.1
end Go.Proofs.YtfbcnpbhhooapaaGreatDoor.M

/- Parse: the tokens of a text are as the parser needs them; parse.Parse and parse.Expr of a text. -/
namespace Go.Proofs.YtfbcnpbhhooapaaGreatDoor.M
set_option linter.unusedSimpArgs false
set_option linter.unusedVariables false
open Go Classical
theorem joinP_mem {l : List Part} {b : List UInt8} {p : Part} (h : p ∈ joinP l b) : p ∈ l ∨ p.Text = b := by
  unfold joinP at h
  rcases List.mem_append.1 h with h | h
  · exact .inl h
  · split at h
    · cases h
    · simp at h
      subst h
      exact .inr rfl
theorem Qx_parts {t : List UInt8} {l : List Part} {b : List UInt8} {r : Option (List Part × Nat)} (h : Qx t l b r) : ∀ q, r = some q → ∀ p ∈ q.1, p ∈ l ∨ p.Text.length ≤ b.length + t.length := by
  induction h with
  | nil | low | esc0 | escbad | refbad => intro q hq; cases hq
  | shut t l b =>
    intro q hq p hp
    obtain rfl := Option.some.inj hq
    rcases joinP_mem hp with h | h
    · exact .inl h
    · right; rw [h]; omega
  | esc x y t l b r hx _ ih =>
    intro q hq p hp
    obtain ⟨q0, h0, rfl⟩ := Option.map_eq_some_iff.1 hq
    rcases ih q0 h0 p hp with h | h
    · exact .inl h
    · right; simp at h ⊢; omega
  | ref t l b r hr _ ih =>
    intro q hq p hp
    obtain ⟨q0, h0, rfl⟩ := Option.map_eq_some_iff.1 hq
    have h1 := refS_len hr
    rcases ih q0 h0 p hp with h | h
    · rcases List.mem_append.1 h with h | h
      · rcases joinP_mem h with h | h
        · exact .inl h
        · right; rw [h]; omega
      · simp at h
        subst h
        right
        simp
        omega
    · right; simp at h ⊢; omega
  | plain c t l b r c1 c2 c3 c4 _ ih =>
    intro q hq p hp
    obtain ⟨q0, h0, rfl⟩ := Option.map_eq_some_iff.1 hq
    rcases ih q0 h0 p hp with h | h
    · exact .inl h
    · right; simp at h ⊢; omega
theorem takeW_len (p : UInt8 → Bool) (l : List UInt8) : (l.takeWhile p).length ≤ l.length := (List.takeWhile_sublist p).length_le
theorem Tok_good {t : List UInt8} {r : Option (Token × Nat)} (h : Tok t r) : ∀ x n, r = some (x, n) → x.Kind ≠ 0 ∧ x.Text.length ≤ t.length ∧ ∀ p ∈ x.Parts, p.Text.length ≤ t.length := by
  cases h with
  | name c u h =>
    intro x n hx
    split at hx
    · cases hx
      exact ⟨by simp, takeW_len _ _, by simp⟩
    · cases hx
  | num c u h =>
    intro x n hx
    unfold numS at hx
    split at hx
    · cases hx
      exact ⟨by simp, by simp, by simp⟩
    · cases hx
  | text u r h =>
    intro x n hx
    obtain ⟨q, hq, e⟩ := Option.map_eq_some_iff.1 hx
    cases e
    refine ⟨by simp, by simp, fun p hp => ?_⟩
    rcases Qx_parts h q hq p hp with h | h
    · cases h
    · simp at h ⊢; omega
  | sign c u h2 h3 h4 =>
    intro x n hx
    split at hx
    · cases hx
    · cases hx
      exact ⟨by simp, signS_len c u, by simp⟩
theorem Lx_good {l : List UInt8} {p : Int} {r : Option (List Token)} (h : Lx l p r) : ∀ L, r = some L → W L ∧ L.length ≤ l.length + 1 ∧ ∀ t ∈ L, t.Text.length ≤ l.length ∧ ∀ q ∈ t.Parts, q.Text.length ≤ l.length := by
  induction h with
  | nil p =>
    intro L hL
    cases hL
    exact ⟨rfl, by simp, fun t ht => by simp at ht; subst ht; simp⟩
  | gap c t p r hc _ ih =>
    intro L hL
    obtain ⟨h1, h2, h3⟩ := ih L hL
    refine ⟨h1, by simp; omega, fun x hx => ?_⟩
    obtain ⟨h4, h5⟩ := h3 x hx
    exact ⟨by simp; omega, fun q hq => by have := h5 q hq; simp; omega⟩
  | remark t p r _ ih =>
    intro L hL
    obtain ⟨h1, h2, h3⟩ := ih L hL
    have hd : (t.dropWhile (· != 10)).length ≤ t.length := (List.dropWhile_sublist _).length_le
    refine ⟨h1, by simp; omega, fun x hx => ?_⟩
    obtain ⟨h4, h5⟩ := h3 x hx
    exact ⟨by simp; omega, fun q hq => by have := h5 q hq; simp; omega⟩
  | bad => intro L hL; cases hL
  | tok c t p x n r h1 h2 hk _ ih =>
    intro L hL
    obtain ⟨L0, h0, rfl⟩ := Option.map_eq_some_iff.1 hL
    obtain ⟨g1, g2, g3⟩ := Tok_good hk x n rfl
    obtain ⟨l1, l2⟩ := Tok_len hk (x, n) rfl
    obtain ⟨i1, i2, i3⟩ := ih L0 h0
    simp only [List.length_drop] at i2 i3
    simp only at l1 l2
    refine ⟨?_, by simp only [List.length_cons] at *; omega, fun y hy => ?_⟩
    · cases L0 with
      | nil => exact i1.elim
      | cons a L0 => exact ⟨g1, i1⟩
    · rcases List.mem_cons.1 hy with rfl | hy
      · exact ⟨g2, g3⟩
      · obtain ⟨h4, h5⟩ := i3 y hy
        exact ⟨by omega, fun q hq => by have := h5 q hq; omega⟩
theorem TL_of {s : List UInt8} {L : List Token} (hs : s.length ≤ 6000) (h : lexS s = some L) : TL L ∧ W L := by
  obtain ⟨h1, h2, h3⟩ := Lx_good (lexS_ok s) L h
  exact ⟨⟨by omega, fun t ht => by have := (h3 t ht).1; omega, fun t ht p hp => by have := (h3 t ht).2 p hp; omega⟩, h1⟩
/-- What a text is as a configuration: blocks, or an error. -/
def parseS (s : List UInt8) : PR (List Block) := match lexS s with | none => .er 5 | some L => confT labelS L
def expS (s : List UInt8) : PR (List Node) := match lexS s with | none => .er 5 | some L => exprT L
theorem r_ParseS (s : List UInt8) (hs : s.length ≤ 6000) : match parseS s with
    | .ok l _ _ => R_parse_Parse s l 0
    | .er e => e ≠ 0 → R_parse_Parse s [] e
    | .no => False := by
  have hx := r_Lex hs (lexS_ok s)
  unfold parseS
  cases hl : lexS s with
  | none => rw [hl] at hx; exact fun he => r_Parse_no hx he
  | some L =>
    rw [hl] at hx
    obtain ⟨h1, h2⟩ := TL_of hs hl
    exact r_ParseT hx h1 h2 r_lexLabel
theorem r_ExprS (s : List UInt8) (hs : s.length ≤ 6000) : match expS s with
    | .ok l _ _ => R_parse_Expr s l 0
    | .er e => e ≠ 0 → R_parse_Expr s [] e
    | .no => False := by
  have hx := r_Lex hs (lexS_ok s)
  unfold expS
  cases hl : lexS s with
  | none => rw [hl] at hx; exact fun he => r_Expr_no hx he
  | some L =>
    rw [hl] at hx
    obtain ⟨h1, h2⟩ := TL_of hs hl
    exact r_ExprT hx h1 h2
theorem r_Parse_ok {s : List UInt8} (hs : s.length ≤ 6000) {l : List Block} {ts : List Token} {out : List Node} (h : parseS s = .ok l ts out) : R_parse_Parse s l 0 := by
  have := r_ParseS s hs
  rw [h] at this
  exact this
end Go.Proofs.YtfbcnpbhhooapaaGreatDoor.M

/- Parse: the parser's own functions: places of tokens do not matter (σ), what stands behind an expression does not matter (Fol), errors are not nought (NE), brackets (brk). -/
namespace Go.Proofs.YtfbcnpbhhooapaaGreatDoor.M
set_option linter.unusedSimpArgs false
set_option linter.unusedVariables false
open Go Classical
/-! ### Where the tokens stand in the text does not matter. -/
def σ (x : Token) : Token := ⟨x.Kind, x.Text, x.Num, x.Parts, 0⟩
theorem σ_K (t : Token) : (σ t).Kind = t.Kind := rfl
theorem σ_T (t : Token) : (σ t).Text = t.Text := rfl
theorem σ_P (t : Token) : (σ t).Parts = t.Parts := rfl
def PR.mapT {α : Type} : PR α → PR α
  | .ok a ts out => .ok a (ts.map σ) out
  | .er e => .er e
  | .no => .no
theorem isS_σ (s : List UInt8) (ts : List Token) : isS s (ts.map σ) = isS s ts := by cases ts <;> rfl
theorem tail_σ (ts : List Token) : (ts.map σ).tail = ts.tail.map σ := by cases ts <;> rfl
theorem need_σ {α : Type} (s : List UInt8) (ts : List Token) (k k' : List Token → PR α) (h : ∀ ts, k' (ts.map σ) = (k ts).mapT) : needS s (ts.map σ) k' = (needS s ts k).mapT := by
  simp only [needS, isS_σ, tail_σ, h]
  split <;> rfl
theorem open_σ {α : Type} (s : List UInt8) (d : Nat) (ts : List Token) (k k' : List Token → PR α) (h : ∀ ts, k' (ts.map σ) = (k ts).mapT) : openS s d (ts.map σ) k' = (openS s d ts k).mapT := by
  simp only [openS, isS_σ, tail_σ, h]
  split
  · split <;> rfl
  · rfl
theorem bind_σ {α β : Type} (p p' : PR α) (f f' : α → List Token → List Node → PR β) (hp : p' = p.mapT) (h : ∀ a ts out, f' a (ts.map σ) out = (f a ts out).mapT) : p'.bind f' = (p.bind f).mapT := by
  subst hp
  cases p <;> simp [PR.mapT, PR.bind, h]
theorem if_σ {α : Type} (c : Prop) [Decidable c] (p p' q q' : PR α) (hp : p' = p.mapT) (hq : q' = q.mapT) : (if c then p' else q') = (if c then p else q).mapT := by
  split <;> assumption
structure StA (n : Nat) : Prop where
  expr : ∀ d ts out, exprS n d (ts.map σ) out = (exprS n d ts out).mapT
  chain : ∀ r d ts out, chainS n r d (ts.map σ) out = (chainS n r d ts out).mapT
  loop : ∀ r d a ts out, loopS n r d a (ts.map σ) out = (loopS n r d a ts out).mapT
  un : ∀ d ts out, unS n d (ts.map σ) out = (unS n d ts out).mapT
  post : ∀ d ts out, postS n d (ts.map σ) out = (postS n d ts out).mapT
  postl : ∀ d a ts out, postL n d a (ts.map σ) out = (postL n d a ts out).mapT
  many : ∀ d e ts out, manyS n d e (ts.map σ) out = (manyS n d e ts out).mapT
  manyl : ∀ d e l ts out, manyL n d e l (ts.map σ) out = (manyL n d e l ts out).mapT
  prim : ∀ d ts out, primS n d (ts.map σ) out = (primS n d ts out).mapT
theorem stA : ∀ n, StA n
  | 0 => by refine ⟨?_, ?_, ?_, ?_, ?_, ?_, ?_, ?_, ?_⟩ <;> intros <;> simp only [exprS, chainS, loopS, unS, postS, postL, manyS, manyL, primS, PR.mapT]
  | n + 1 => by
    have ih := stA n
    refine ⟨fun d ts out => ?_, fun r d ts out => ?_, fun r d a ts out => ?_, fun d ts out => ?_, fun d ts out => ?_, fun d a ts out => ?_, fun d e ts out => ?_, fun d e l ts out => ?_, fun d ts out => ?_⟩
    · simp only [exprS]
      refine bind_σ _ _ _ _ (ih.chain _ _ _ _) fun a ts out => ?_
      rw [isS_σ]
      refine if_σ _ _ _ _ _ (open_σ _ _ _ _ _ fun ts => bind_σ _ _ _ _ (ih.expr _ _ _) fun b ts out => need_σ _ _ _ _ fun ts => bind_σ _ _ _ _ (ih.expr _ _ _) fun c ts out => rfl) rfl
    · simp only [chainS]
      exact if_σ _ _ _ _ _ (ih.un _ _ _) (bind_σ _ _ _ _ (ih.chain _ _ _ _) fun a ts out => ih.loop _ _ _ _ _)
    · cases ts with
      | nil => simp [loopS, primS, PR.mapT]
      | cons t ts =>
        simp only [loopS, List.map_cons, σ_K, σ_T]
        refine if_σ _ _ _ _ _ ?_ rfl
        cases opS r t.Text with
        | none => rfl
        | some kind => exact bind_σ _ _ _ _ (ih.chain _ _ _ _) fun b ts out => if_σ _ _ _ _ _ rfl (ih.loop _ _ _ _ _)
    · simp only [unS, isS_σ]
      exact if_σ _ _ _ _ _ (open_σ _ _ _ _ _ fun ts => bind_σ _ _ _ _ (ih.un _ _ _) fun a ts out => rfl) (if_σ _ _ _ _ _ (open_σ _ _ _ _ _ fun ts => bind_σ _ _ _ _ (ih.un _ _ _) fun a ts out => rfl) (ih.post _ _ _))
    · simp only [postS]
      exact bind_σ _ _ _ _ (ih.prim _ _ _) fun a ts out => ih.postl _ _ _ _
    · simp only [postL, isS_σ]
      exact if_σ _ _ _ _ _ (open_σ _ _ _ _ _ fun ts => bind_σ _ _ _ _ (ih.expr _ _ _) fun b ts out => need_σ _ _ _ _ fun ts => ih.postl _ _ _ _) rfl
    · simp only [manyS, isS_σ, tail_σ]
      exact if_σ _ _ _ _ _ rfl (bind_σ _ _ _ _ (ih.expr _ _ _) fun a ts out => ih.manyl _ _ _ _ _)
    · simp only [manyL, isS_σ, tail_σ]
      exact if_σ _ _ _ _ _ (bind_σ _ _ _ _ (ih.expr _ _ _) fun a ts out => ih.manyl _ _ _ _ _) (need_σ _ _ _ _ fun ts => rfl)
    · cases ts with
      | nil => simp [loopS, primS, PR.mapT]
      | cons t ts =>
        have e := isS_σ [91] (t :: ts)
        rw [List.map_cons] at e
        simp only [primS, List.map_cons, e, isS_σ, tail_σ]
        refine if_σ _ _ _ _ _ (if_σ _ _ _ _ _ rfl (if_σ _ _ _ _ _ rfl (if_σ _ _ _ _ _ ?_ (open_σ _ _ _ _ _ fun ts => bind_σ _ _ _ _ (ih.many _ _ _ _) fun l ts out => rfl)))) (if_σ _ _ _ _ _ rfl (if_σ _ _ _ _ _ rfl (if_σ _ _ _ _ _ ?_ ?_)))
        · cases ts.tail with
          | nil => rfl
          | cons u ts => exact if_σ _ _ _ _ _ rfl rfl
        · exact open_σ _ d (t :: ts) _ _ fun ts => bind_σ _ _ _ _ (ih.many _ _ _ _) fun l ts out => rfl
        · exact open_σ _ d (t :: ts) _ _ fun ts => bind_σ _ _ _ _ (ih.expr _ _ _) fun a ts out => need_σ _ _ _ _ fun ts => rfl
theorem whole_σ (N : Nat) (ts : List Token) : wholeS N (ts.map σ) = (wholeS N ts).mapT := by
  simp only [wholeS, (stA N).expr]
  cases exprS N 0 ts [] <;> rfl
theorem lab_σ (lab : List UInt8 → Bool) (ts : List Token) : labS lab (ts.map σ) = (labS lab ts).mapT := by
  cases ts with
  | nil => rfl
  | cons t ts =>
    simp only [labS, List.map_cons, σ_K, σ_P]
    refine if_σ _ _ _ _ _ ?_ rfl
    cases t.Parts with
    | nil => rfl
    | cons p l =>
      cases l with
      | nil => exact if_σ _ _ _ _ _ rfl (if_σ _ _ _ _ _ rfl rfl)
      | cons q l => rfl
theorem attrs_σ (N : Nat) : ∀ (n : Nat) (acc : List Attr) (ts : List Token), attrsS N n acc (ts.map σ) = (attrsS N n acc ts).mapT
  | 0, _, _ => rfl
  | n + 1, acc, [] => rfl
  | n + 1, acc, t :: ts => by
    have e := isS_σ [125] (t :: ts)
    rw [List.map_cons] at e
    simp only [attrsS, List.map_cons, e]
    refine if_σ _ _ _ _ _ rfl (if_σ _ _ _ _ _ (if_σ _ _ _ _ _ rfl (need_σ _ _ _ _ fun ts => bind_σ _ _ _ _ (whole_σ _ _) fun a ts out => attrs_σ N n _ _)) rfl)
theorem body_σ (N : Nat) (ts : List Token) : bodyS N (ts.map σ) = (bodyS N ts).mapT := need_σ _ _ _ _ fun ts => attrs_σ N N [] ts
theorem plain_σ (lab : List UInt8 → Bool) (N i : Nat) (ts : List Token) : plainS lab N i (ts.map σ) = (plainS lab N i ts).mapT :=
  if_σ _ _ _ _ _ (bind_σ _ _ _ _ (body_σ _ _) fun a ts out => rfl) (bind_σ _ _ _ _ (lab_σ _ _) fun a ts out => bind_σ _ _ _ _ (body_σ _ _) fun a ts out => rfl)
theorem blkIn_σ (lab : List UInt8 → Bool) (N : Nat) (ts : List Token) : blkIn lab N (ts.map σ) = (blkIn lab N ts).mapT := by
  cases ts with
  | nil => rfl
  | cons t ts =>
    simp only [blkIn, List.map_cons, σ_K, σ_T]
    refine if_σ _ _ _ _ _ ?_ rfl
    cases idxS t.Text wordsS 0 with
    | none => rfl
    | some i => exact if_σ _ _ _ _ _ rfl (plain_σ _ _ _ _)
theorem blks_σ (lab : List UInt8 → Bool) (N : Nat) : ∀ (n : Nat) (acc : List Block) (ts : List Token), blksS lab N n acc (ts.map σ) = (blksS lab N n acc ts).mapT
  | 0, _, _ => rfl
  | n + 1, acc, ts => by
    simp only [blksS, isS_σ, tail_σ]
    exact if_σ _ _ _ _ _ rfl (bind_σ _ _ _ _ (blkIn_σ _ _ _) fun a ts out => blks_σ lab N n _ _)
theorem blk_σ (lab : List UInt8 → Bool) (N : Nat) (ts : List Token) : blkS lab N (ts.map σ) = (blkS lab N ts).mapT := by
  cases ts with
  | nil => rfl
  | cons t ts =>
    simp only [blkS, List.map_cons, σ_K, σ_T]
    refine if_σ _ _ _ _ _ ?_ rfl
    cases idxS t.Text wordsS 0 with
    | none => rfl
    | some i => exact if_σ _ _ _ _ _ (bind_σ _ _ _ _ (lab_σ _ _) fun a ts out => need_σ _ _ _ _ fun ts => bind_σ _ _ _ _ (blks_σ _ _ _ _ _) fun a ts out => rfl) (plain_σ _ _ _ _)
theorem conf_σ (lab : List UInt8 → Bool) (N : Nat) : ∀ (n : Nat) (acc : List Block) (ts : List Token), confS lab N n acc (ts.map σ) = (confS lab N n acc ts).mapT
  | 0, _, _ => rfl
  | n + 1, acc, [] => rfl
  | n + 1, acc, t :: ts => by
    have e := blk_σ lab N (t :: ts)
    rw [List.map_cons] at e
    simp only [confS, List.map_cons, e]
    exact if_σ _ _ _ _ _ rfl (bind_σ _ _ _ _ rfl fun a ts out => conf_σ lab N n _ _)
theorem confT_σ (lab : List UInt8 → Bool) (L : List Token) : confT lab (L.map σ) = (confT lab L).mapT := by
  simp only [confT, List.length_map]
  exact conf_σ _ _ _ _ _
theorem exprT_σ (L : List Token) : exprT (L.map σ) = (exprT L).mapT := by
  simp only [exprT, List.length_map]
  refine bind_σ _ _ _ _ (whole_σ _ _) fun a ts out => ?_
  cases ts with
  | nil => rfl
  | cons t ts => exact if_σ _ _ _ _ _ rfl rfl
/-! ### What stands behind an expression does not matter, if it goes on with nothing that belongs to one. -/
/-- Nothing that an expression goes on with. -/
def Quiet (r : Token) : Prop := r.Kind = 0 ∨ (r.Kind = 4 ∧ (r.Text = [125] ∨ r.Text = [41]))
/-- The one list ends where the other goes on. -/
inductive Exs (r : Token) (rest : List Token) : List Token → List Token → Prop
  | nil (e : Token) (he : e.Kind = 0) : Exs r rest [e] (r :: rest)
  | cons (x : Token) (ts ts' : List Token) (hx : x.Kind ≠ 0) (h : Exs r rest ts ts') : Exs r rest (x :: ts) (x :: ts')
def Fol {α : Type} (r : Token) (rest : List Token) (d d' : Nat) (p q : PR α) : Prop := ∀ a ts out, p = .ok a ts out → (∃ ts', q = .ok a ts' out ∧ Exs r rest ts ts') ∨ (d < d' ∧ q = .er 6)
section
variable {r : Token} {rest : List Token} {d d' : Nat}
theorem Fol.ok {α : Type} {a : α} {ts ts' : List Token} {out : List Node} (h : Exs r rest ts ts') : Fol r rest d d' (.ok a ts out) (.ok a ts' out) := by
  intro a1 ts1 out1 e
  cases e
  exact .inl ⟨ts', rfl, h⟩
theorem Fol.er {α : Type} {e : Int} {q : PR α} : Fol r rest d d' (.er e) q := fun _ _ _ h => by cases h
theorem Fol.no {α : Type} {q : PR α} : Fol r rest d d' .no q := fun _ _ _ h => by cases h
theorem Fol.bind {α β : Type} {p q : PR α} {f g : α → List Token → List Node → PR β} (hp : Fol r rest d d' p q) (h : ∀ a ts out ts', Exs r rest ts ts' → Fol r rest d d' (f a ts out) (g a ts' out)) : Fol r rest d d' (p.bind f) (q.bind g) := by
  cases p with
  | er e => exact Fol.er
  | no => exact Fol.no
  | ok a ts out =>
    rcases hp a ts out rfl with ⟨ts', rfl, hx⟩ | ⟨h1, rfl⟩
    · exact h a ts out ts' hx
    · exact fun _ _ _ _ => .inr ⟨h1, rfl⟩
theorem Fol.up {α : Type} {p q : PR α} (h : Fol r rest (d + 1) (d' + 1) p q) : Fol r rest d d' p q := by
  intro a ts out e
  rcases h a ts out e with h | ⟨h1, h2⟩
  · exact .inl h
  · exact .inr ⟨by omega, h2⟩
theorem Fol.down {α : Type} {p q : PR α} (h : Fol r rest d d' p q) : Fol r rest (d + 1) (d' + 1) p q := by
  intro a ts out e
  rcases h a ts out e with h | ⟨h1, h2⟩
  · exact .inl h
  · exact .inr ⟨by omega, h2⟩
theorem Exs.is1 {s : List UInt8} {ts ts' : List Token} (h : Exs r rest ts ts') (hi : isS s ts = true) : isS s ts' = true ∧ Exs r rest ts.tail ts'.tail := by
  cases h with
  | nil e he => simp [isS, he] at hi
  | cons x ts ts' hx h => exact ⟨hi, h⟩
theorem Fol.need {α : Type} {s : List UInt8} {ts ts' : List Token} {k k' : List Token → PR α} (h : Exs r rest ts ts') (hk : ∀ ts ts', Exs r rest ts ts' → Fol r rest d d' (k ts) (k' ts')) : Fol r rest d d' (needS s ts k) (needS s ts' k') := by
  simp only [needS]
  by_cases hi : isS s ts = true
  · obtain ⟨h1, h2⟩ := h.is1 hi
    rw [if_pos hi, if_pos h1]
    exact hk _ _ h2
  · rw [if_neg hi]
    exact Fol.er
theorem Fol.opn {α : Type} {s : List UInt8} {ts ts' : List Token} {k k' : List Token → PR α} (hd : d ≤ d') (h : Exs r rest ts ts') (hk : ∀ ts ts', Exs r rest ts ts' → Fol r rest (d + 1) (d' + 1) (k ts) (k' ts')) : Fol r rest d d' (openS s d ts k) (openS s d' ts' k') := by
  simp only [openS]
  by_cases hi : isS s ts = true
  · obtain ⟨h1, h2⟩ := h.is1 hi
    rw [if_pos hi, if_pos h1]
    by_cases h64 : 64 ≤ d
    · rw [if_pos h64]; exact Fol.er
    · rw [if_neg h64]
      by_cases h64' : 64 ≤ d'
      · rw [if_pos h64']
        exact fun _ _ _ _ => .inr ⟨by omega, rfl⟩
      · rw [if_neg h64']
        exact (hk _ _ h2).up
  · rw [if_neg hi]
    exact Fol.er
/-- A split that both take alike, for the signs that may follow. -/
theorem Fol.iss {α : Type} {s : List UInt8} {ts ts' : List Token} {p p' q q' : PR α} (hq : Quiet r) (hs : s ≠ [125] ∧ s ≠ [41]) (h : Exs r rest ts ts') (h1 : isS s ts = true → isS s ts' = true → Exs r rest ts.tail ts'.tail → Fol r rest d d' p p') (h2 : Fol r rest d d' q q') : Fol r rest d d' (if isS s ts = true then p else q) (if isS s ts' = true then p' else q') := by
  by_cases hi : isS s ts = true
  · obtain ⟨e1, e2⟩ := h.is1 hi
    rw [if_pos hi, if_pos e1]
    exact h1 hi e1 e2
  · rw [if_neg hi]
    have : ¬ isS s ts' = true := by
      cases h with
      | nil e he =>
        simp only [isS, Bool.and_eq_true, decide_eq_true_eq]
        intro hf
        rcases hq with h0 | ⟨_, h0⟩
        · rw [h0] at hf; exact absurd hf.1 (by decide)
        · rcases h0 with h0 | h0 <;> rw [h0] at hf
          · exact hs.1 hf.2.symm
          · exact hs.2 hf.2.symm
      | cons x ts ts' hx h => exact hi
    rw [if_neg this]
    exact h2
theorem Fol.ite {α : Type} {c : Prop} [Decidable c] {p p' q q' : PR α} (h1 : c → Fol r rest d d' p p') (h2 : ¬ c → Fol r rest d d' q q') : Fol r rest d d' (if c then p else q) (if c then p' else q') := by
  split
  · exact h1 ‹_›
  · exact h2 ‹_›
theorem op_quiet {r : Token} (hq : Quiet r) (h4 : r.Kind = 4) (rank : Nat) : opS rank r.Text = none := by
  rcases hq with h | ⟨_, h⟩
  · rw [h4] at h; exact absurd h (by decide)
  · have : ∀ s : List UInt8, s = [125] ∨ s = [41] → opS rank s = none := by
      intro s hs
      unfold opS signsS
      rcases hs with rfl | rfl <;> (split <;> simp [idxS])
    exact this _ h
/-- Nothing is read where the end stands. -/
theorem no_prim {e : Token} (he : e.Kind = 0) (n d : Nat) (out : List Node) : ∀ a ts o, primS n d [e] out ≠ .ok a ts o := by
  intro a ts o
  cases n with
  | zero => simp [primS]
  | succ n => simp [primS, he, isS, openS]
theorem no_post {e : Token} (he : e.Kind = 0) (n d : Nat) (out : List Node) : ∀ a ts o, postS n d [e] out ≠ .ok a ts o := by
  intro a ts o
  cases n with
  | zero => simp [postS]
  | succ n =>
    simp only [postS]
    have := no_prim he n d out
    cases h : primS n d [e] out with
    | ok a ts o => exact absurd h (this _ _ _)
    | er => simp [PR.bind]
    | no => simp [PR.bind]
theorem no_un {e : Token} (he : e.Kind = 0) (n d : Nat) (out : List Node) : ∀ a ts o, unS n d [e] out ≠ .ok a ts o := by
  intro a ts o
  cases n with
  | zero => simp [unS]
  | succ n =>
    simp only [unS, isS, he]
    exact no_post he n d out a ts o
theorem no_chain {e : Token} (he : e.Kind = 0) (d : Nat) (out : List Node) : ∀ n r a ts o, chainS n r d [e] out ≠ .ok a ts o
  | 0, r, a, ts, o => by simp [chainS]
  | n + 1, r, a, ts, o => by
    simp only [chainS]
    split
    · exact no_un he n d out a ts o
    · have := no_chain he d out n (r + 1)
      cases h : chainS n (r + 1) d [e] out with
      | ok a ts o => exact absurd h (this _ _ _)
      | er => simp [PR.bind]
      | no => simp [PR.bind]
theorem no_expr {e : Token} (he : e.Kind = 0) (n d : Nat) (out : List Node) : ∀ a ts o, exprS n d [e] out ≠ .ok a ts o := by
  intro a ts o
  cases n with
  | zero => simp [exprS]
  | succ n =>
    simp only [exprS]
    have := no_chain he d out n 0
    cases h : chainS n 0 d [e] out with
    | ok a ts o => exact absurd h (this _ _ _)
    | er => simp [PR.bind]
    | no => simp [PR.bind]
structure FoA (r : Token) (rest : List Token) (n : Nat) : Prop where
  expr : ∀ n' d d' ts ts' out, n ≤ n' → d ≤ d' → Exs r rest ts ts' → Fol r rest d d' (exprS n d ts out) (exprS n' d' ts' out)
  chain : ∀ n' k d d' ts ts' out, n ≤ n' → d ≤ d' → Exs r rest ts ts' → Fol r rest d d' (chainS n k d ts out) (chainS n' k d' ts' out)
  loop : ∀ n' k d d' a ts ts' out, n ≤ n' → d ≤ d' → Exs r rest ts ts' → Fol r rest d d' (loopS n k d a ts out) (loopS n' k d' a ts' out)
  un : ∀ n' d d' ts ts' out, n ≤ n' → d ≤ d' → Exs r rest ts ts' → Fol r rest d d' (unS n d ts out) (unS n' d' ts' out)
  post : ∀ n' d d' ts ts' out, n ≤ n' → d ≤ d' → Exs r rest ts ts' → Fol r rest d d' (postS n d ts out) (postS n' d' ts' out)
  postl : ∀ n' d d' a ts ts' out, n ≤ n' → d ≤ d' → Exs r rest ts ts' → Fol r rest d d' (postL n d a ts out) (postL n' d' a ts' out)
  many : ∀ n' d d' e ts ts' out, n ≤ n' → d ≤ d' → Exs r rest ts ts' → Fol r rest d d' (manyS n d e ts out) (manyS n' d' e ts' out)
  manyl : ∀ n' d d' e l ts ts' out, n ≤ n' → d ≤ d' → Exs r rest ts ts' → Fol r rest d d' (manyL n d e l ts out) (manyL n' d' e l ts' out)
  prim : ∀ n' d d' ts ts' out, n ≤ n' → d ≤ d' → Exs r rest ts ts' → Fol r rest d d' (primS n d ts out) (primS n' d' ts' out)
theorem foA (hq : Quiet r) : ∀ n, FoA r rest n
  | 0 => by
    refine ⟨?_, ?_, ?_, ?_, ?_, ?_, ?_, ?_, ?_⟩ <;> intros <;> (simp only [exprS, chainS, loopS, unS, postS, postL, manyS, manyL, primS]; exact Fol.no)
  | n + 1 => by
    have ih := foA hq n
    refine ⟨?_, ?_, ?_, ?_, ?_, ?_, ?_, ?_, ?_⟩
    · intro n' d d' ts ts' out hn hd hx
      obtain ⟨m, rfl⟩ : ∃ m, n' = m + 1 := ⟨n' - 1, by omega⟩
      simp only [exprS]
      refine Fol.bind (ih.chain m 0 d d' ts ts' out (by omega) hd hx) fun a ts out ts' hx => ?_
      refine Fol.iss hq (by decide) hx (fun _ _ _ => ?_) (Fol.ok hx)
      refine Fol.opn hd hx fun ts ts' hx => ?_
      refine Fol.bind (ih.expr m _ _ ts ts' out (by omega) (by omega) hx) fun b ts out ts' hx => ?_
      refine Fol.need hx fun ts ts' hx => ?_
      exact Fol.bind (ih.expr m _ _ ts ts' out (by omega) (by omega) hx) fun c ts out ts' hx => Fol.ok hx
    · intro n' k d d' ts ts' out hn hd hx
      obtain ⟨m, rfl⟩ : ∃ m, n' = m + 1 := ⟨n' - 1, by omega⟩
      simp only [chainS]
      refine Fol.ite (fun _ => ih.un m d d' ts ts' out (by omega) hd hx) fun _ => ?_
      exact Fol.bind (ih.chain m _ d d' ts ts' out (by omega) hd hx) fun a ts out ts' hx => ih.loop m k d d' a ts ts' out (by omega) hd hx
    · intro n' k d d' a ts ts' out hn hd hx
      obtain ⟨m, rfl⟩ : ∃ m, n' = m + 1 := ⟨n' - 1, by omega⟩
      cases hx with
      | nil e he =>
        simp only [loopS, he]
        rw [if_neg (by decide)]
        by_cases h4 : r.Kind = 4
        · rw [if_pos h4, op_quiet hq h4]
          exact Fol.ok (.nil e he)
        · rw [if_neg h4]
          exact Fol.ok (.nil e he)
      | cons x ts ts' hx h =>
        simp only [loopS]
        refine Fol.ite (fun _ => ?_) fun _ => Fol.ok (.cons x ts ts' hx h)
        cases opS k x.Text with
        | none => exact Fol.ok (.cons x ts ts' hx h)
        | some kind =>
          refine Fol.bind (ih.chain m _ d d' ts ts' out (by omega) hd h) fun b ts out ts' hx => ?_
          exact Fol.ite (fun _ => Fol.ok hx) fun _ => ih.loop m k d d' _ ts ts' _ (by omega) hd hx
    · intro n' d d' ts ts' out hn hd hx
      obtain ⟨m, rfl⟩ : ∃ m, n' = m + 1 := ⟨n' - 1, by omega⟩
      simp only [unS]
      refine Fol.iss hq (by decide) hx (fun _ _ _ => ?_) (Fol.iss hq (by decide) hx (fun _ _ _ => ?_) ?_)
      · exact Fol.opn hd hx fun ts ts' hx => Fol.bind (ih.un m _ _ ts ts' out (by omega) (by omega) hx) fun a ts out ts' hx => Fol.ok hx
      · exact Fol.opn hd hx fun ts ts' hx => Fol.bind (ih.un m _ _ ts ts' out (by omega) (by omega) hx) fun a ts out ts' hx => Fol.ok hx
      · exact ih.post m d d' ts ts' out (by omega) hd hx
    · intro n' d d' ts ts' out hn hd hx
      obtain ⟨m, rfl⟩ : ∃ m, n' = m + 1 := ⟨n' - 1, by omega⟩
      simp only [postS]
      exact Fol.bind (ih.prim m d d' ts ts' out (by omega) hd hx) fun a ts out ts' hx => ih.postl m d d' a ts ts' out (by omega) hd hx
    · intro n' d d' a ts ts' out hn hd hx
      obtain ⟨m, rfl⟩ : ∃ m, n' = m + 1 := ⟨n' - 1, by omega⟩
      simp only [postL]
      refine Fol.iss hq (by decide) hx (fun _ _ _ => ?_) (Fol.ok hx)
      refine Fol.opn hd hx fun ts ts' hx => ?_
      refine Fol.bind (ih.expr m _ _ ts ts' out (by omega) (by omega) hx) fun b ts out ts' hx => ?_
      refine Fol.need hx fun ts ts' hx => ?_
      exact (ih.postl m d d' _ ts ts' _ (by omega) hd hx).down
    · intro n' d d' e ts ts' out hn hd hx
      obtain ⟨m, rfl⟩ : ∃ m, n' = m + 1 := ⟨n' - 1, by omega⟩
      simp only [manyS]
      by_cases hi : isS e ts = true
      · obtain ⟨e1, e2⟩ := hx.is1 hi
        rw [if_pos hi, if_pos e1]
        exact Fol.ok e2
      · rw [if_neg hi]
        cases hx with
        | nil e0 he =>
          have := no_expr he n d out
          cases h : exprS n d [e0] out with
          | ok a ts o => exact absurd h (this _ _ _)
          | er => exact Fol.er
          | no => exact Fol.no
        | cons x ts ts' hx h =>
          have hi' : ¬ isS e (x :: ts') = true := hi
          rw [if_neg hi']
          exact Fol.bind (ih.expr m d d' _ _ out (by omega) hd (.cons x ts ts' hx h)) fun a ts out ts' hx => ih.manyl m d d' e _ ts ts' out (by omega) hd hx
    · intro n' d d' e l ts ts' out hn hd hx
      obtain ⟨m, rfl⟩ : ∃ m, n' = m + 1 := ⟨n' - 1, by omega⟩
      simp only [manyL]
      refine Fol.iss hq (by decide) hx (fun _ _ h => ?_) (Fol.need hx fun ts ts' hx => Fol.ok hx)
      exact Fol.bind (ih.expr m d d' _ _ out (by omega) hd h) fun a ts out ts' hx => ih.manyl m d d' e _ ts ts' out (by omega) hd hx
    · intro n' d d' ts ts' out hn hd hx
      obtain ⟨m, rfl⟩ : ∃ m, n' = m + 1 := ⟨n' - 1, by omega⟩
      cases hx with
      | nil e he =>
        have := no_prim he (n + 1) d out
        cases h : primS (n + 1) d [e] out with
        | ok a ts o => exact absurd h (this _ _ _)
        | er => exact Fol.er
        | no => exact Fol.no
      | cons x ts ts' h0 h =>
        have hx := Exs.cons x ts ts' h0 h
        simp only [primS]
        refine Fol.ite (fun _ => ?_) fun _ => Fol.ite (fun _ => Fol.ok h) fun _ => Fol.ite (fun _ => Fol.ok h) fun _ => ?_
        · refine Fol.ite (fun _ => Fol.ok h) fun _ => Fol.ite (fun _ => Fol.ok h) fun _ => ?_
          refine Fol.iss hq (by decide) h (fun _ _ h => ?_) ?_
          · generalize ts.tail = ts, ts'.tail = ts' at h
            cases h with
            | nil e he =>
              simp only [he]
              rw [if_neg (by decide)]
              exact Fol.er
            | cons y ts ts' hy h => exact Fol.ite (fun _ => Fol.ok h) fun _ => Fol.er
          · exact Fol.opn hd h fun ts ts' hx => Fol.bind (ih.many m _ _ _ ts ts' out (by omega) (by omega) hx) fun l ts out ts' hx => Fol.ok hx
        · refine Fol.iss hq (by decide) hx (fun _ _ _ => ?_) ?_
          · exact Fol.opn hd hx fun ts ts' hx => Fol.bind (ih.many m _ _ _ ts ts' out (by omega) (by omega) hx) fun l ts out ts' hx => Fol.ok hx
          · refine Fol.opn hd hx fun ts ts' hx => Fol.bind (ih.expr m _ _ ts ts' out (by omega) (by omega) hx) fun a ts out ts' hx => ?_
            exact Fol.need hx fun ts ts' hx => Fol.ok hx
end
/-! ### Errors are not nought. -/
def NE {α : Type} (p : PR α) : Prop := ∀ e, p = .er e → e = 3 ∨ e = 5 ∨ e = 6
theorem NE.ok {α : Type} {a : α} {ts : List Token} {out : List Node} : NE (PR.ok a ts out) := fun _ h => by cases h
theorem NE.no {α : Type} : NE (PR.no : PR α) := fun _ h => by cases h
theorem NE.e3 {α : Type} : NE (PR.er 3 : PR α) := fun _ h => by cases h; exact .inl rfl
theorem NE.e5 {α : Type} : NE (PR.er 5 : PR α) := fun _ h => by cases h; exact .inr (.inl rfl)
theorem NE.e6 {α : Type} : NE (PR.er 6 : PR α) := fun _ h => by cases h; exact .inr (.inr rfl)
theorem NE.bind {α β : Type} {p : PR α} {f : α → List Token → List Node → PR β} (h : NE p) (hf : ∀ a ts out, NE (f a ts out)) : NE (p.bind f) := by
  cases p with
  | ok a ts out => exact hf _ _ _
  | er e => intro e' h'; cases h'; exact h _ rfl
  | no => exact NE.no
theorem NE.ite {α : Type} {c : Prop} [Decidable c] {p q : PR α} (hp : NE p) (hq : NE q) : NE (if c then p else q) := by split <;> assumption
theorem NE.need {α : Type} {s : List UInt8} {ts : List Token} {k : List Token → PR α} (h : ∀ ts, NE (k ts)) : NE (needS s ts k) := NE.ite (h _) NE.e5
theorem NE.opn {α : Type} {s : List UInt8} {d : Nat} {ts : List Token} {k : List Token → PR α} (h : ∀ ts, NE (k ts)) : NE (openS s d ts k) := NE.ite (NE.ite NE.e6 (h _)) NE.e5
structure NeA (n : Nat) : Prop where
  expr : ∀ d ts out, NE (exprS n d ts out)
  chain : ∀ r d ts out, NE (chainS n r d ts out)
  loop : ∀ r d a ts out, NE (loopS n r d a ts out)
  un : ∀ d ts out, NE (unS n d ts out)
  post : ∀ d ts out, NE (postS n d ts out)
  postl : ∀ d a ts out, NE (postL n d a ts out)
  many : ∀ d e ts out, NE (manyS n d e ts out)
  manyl : ∀ d e l ts out, NE (manyL n d e l ts out)
  prim : ∀ d ts out, NE (primS n d ts out)
theorem neA : ∀ n, NeA n
  | 0 => by refine ⟨?_, ?_, ?_, ?_, ?_, ?_, ?_, ?_, ?_⟩ <;> intros <;> simp only [exprS, chainS, loopS, unS, postS, postL, manyS, manyL, primS] <;> exact NE.no
  | n + 1 => by
    have ih := neA n
    refine ⟨fun d ts out => ?_, fun r d ts out => ?_, fun r d a ts out => ?_, fun d ts out => ?_, fun d ts out => ?_, fun d a ts out => ?_, fun d e ts out => ?_, fun d e l ts out => ?_, fun d ts out => ?_⟩
    · simp only [exprS]
      exact (ih.chain _ _ _ _).bind fun a ts out => NE.ite (NE.opn fun ts => (ih.expr _ _ _).bind fun b ts out => NE.need fun ts => (ih.expr _ _ _).bind fun c ts out => NE.ok) NE.ok
    · simp only [chainS]
      exact NE.ite (ih.un _ _ _) ((ih.chain _ _ _ _).bind fun a ts out => ih.loop _ _ _ _ _)
    · cases ts with
      | nil => simp only [loopS]; exact NE.no
      | cons t ts =>
        simp only [loopS]
        refine NE.ite ?_ NE.ok
        split
        · exact NE.ok
        · exact (ih.chain _ _ _ _).bind fun b ts out => NE.ite NE.ok (ih.loop _ _ _ _ _)
    · simp only [unS]
      exact NE.ite (NE.opn fun ts => (ih.un _ _ _).bind fun a ts out => NE.ok) (NE.ite (NE.opn fun ts => (ih.un _ _ _).bind fun a ts out => NE.ok) (ih.post _ _ _))
    · simp only [postS]
      exact (ih.prim _ _ _).bind fun a ts out => ih.postl _ _ _ _
    · simp only [postL]
      exact NE.ite (NE.opn fun ts => (ih.expr _ _ _).bind fun b ts out => NE.need fun ts => ih.postl _ _ _ _) NE.ok
    · simp only [manyS]
      exact NE.ite NE.ok ((ih.expr _ _ _).bind fun a ts out => ih.manyl _ _ _ _ _)
    · simp only [manyL]
      exact NE.ite ((ih.expr _ _ _).bind fun a ts out => ih.manyl _ _ _ _ _) (NE.need fun ts => NE.ok)
    · cases ts with
      | nil => simp only [primS]; exact NE.no
      | cons t ts =>
        simp only [primS]
        refine NE.ite (NE.ite NE.ok (NE.ite NE.ok (NE.ite ?_ (NE.opn fun ts => (ih.many _ _ _ _).bind fun l ts out => NE.ok)))) (NE.ite NE.ok (NE.ite NE.ok (NE.ite (NE.opn fun ts => (ih.many _ _ _ _).bind fun l ts out => NE.ok) (NE.opn fun ts => (ih.expr _ _ _).bind fun a ts out => NE.need fun ts => NE.ok))))
        split
        · exact NE.no
        · exact NE.ite NE.ok NE.e5
theorem NE.whole (N : Nat) (ts : List Token) : NE (wholeS N ts) := by
  have := (neA N).expr 0 ts []
  simp only [wholeS]
  cases h : exprS N 0 ts [] with
  | ok a ts out => exact NE.ok
  | er e => intro e' h'; cases h'; exact this e h
  | no => exact NE.no
theorem NE.exprT (L : List Token) : NE (exprT L) := by
  refine (NE.whole _ _).bind fun a ts out => ?_
  split
  · exact NE.no
  · exact NE.ite NE.ok NE.e5
theorem NE.lab (lab : List UInt8 → Bool) (ts : List Token) : NE (labS lab ts) := by
  cases ts with
  | nil => exact NE.no
  | cons t ts =>
    simp only [labS]
    refine NE.ite ?_ NE.e5
    split
    · exact NE.ite NE.e5 (NE.ite NE.ok NE.e5)
    · exact NE.e5
theorem NE.attrs (N : Nat) : ∀ (n : Nat) (acc : List Attr) (ts : List Token), NE (attrsS N n acc ts)
  | 0, _, _ => NE.no
  | n + 1, acc, [] => NE.no
  | n + 1, acc, t :: ts => NE.ite NE.ok (NE.ite (NE.ite NE.e3 (NE.need fun ts => (NE.whole _ _).bind fun a ts out => NE.attrs N n _ _)) NE.e5)
theorem NE.body (N : Nat) (ts : List Token) : NE (bodyS N ts) := NE.need fun ts => NE.attrs N N [] ts
theorem NE.plain (lab : List UInt8 → Bool) (N i : Nat) (ts : List Token) : NE (plainS lab N i ts) := NE.ite ((NE.body _ _).bind fun a ts out => NE.ok) ((NE.lab _ _).bind fun a ts out => (NE.body _ _).bind fun a ts out => NE.ok)
theorem NE.blkIn (lab : List UInt8 → Bool) (N : Nat) (ts : List Token) : NE (blkIn lab N ts) := by
  cases ts with
  | nil => exact NE.no
  | cons t ts =>
    simp only [M.blkIn]
    refine NE.ite ?_ NE.e5
    split
    · exact NE.e5
    · exact NE.ite NE.e5 (NE.plain _ _ _ _)
theorem NE.blks (lab : List UInt8 → Bool) (N : Nat) : ∀ (n : Nat) (acc : List Block) (ts : List Token), NE (blksS lab N n acc ts)
  | 0, _, _ => NE.no
  | n + 1, acc, ts => NE.ite NE.ok ((NE.blkIn _ _ _).bind fun a ts out => NE.blks lab N n _ _)
theorem NE.blk (lab : List UInt8 → Bool) (N : Nat) (ts : List Token) : NE (blkS lab N ts) := by
  cases ts with
  | nil => exact NE.no
  | cons t ts =>
    simp only [blkS]
    refine NE.ite ?_ NE.e5
    split
    · exact NE.e5
    · exact NE.ite ((NE.lab _ _).bind fun a ts out => NE.need fun ts => (NE.blks _ _ _ _ _).bind fun a ts out => NE.ok) (NE.plain _ _ _ _)
theorem NE.conf (lab : List UInt8 → Bool) (N : Nat) : ∀ (n : Nat) (acc : List Block) (ts : List Token), NE (confS lab N n acc ts)
  | 0, _, _ => NE.no
  | n + 1, acc, [] => NE.no
  | n + 1, acc, t :: ts => NE.ite NE.ok ((NE.blk _ _ _).bind fun a ts out => NE.conf lab N n _ _)
/-! ### Brackets. -/
def lpT : Token := ⟨4, [40], 0, [], 0⟩
def rpT : Token := ⟨4, [41], 0, [], 0⟩
theorem Quiet.isS {u : Token} (h : Quiet u) {s : List UInt8} (hs : s ≠ [125] ∧ s ≠ [41]) (rest : List Token) : isS s (u :: rest) = false := by
  rw [← Bool.not_eq_true]
  simp only [M.isS, Bool.and_eq_true, decide_eq_true_eq]
  intro hf
  rcases h with h | ⟨_, h⟩
  · rw [h] at hf; exact absurd hf.1 (by decide)
  · rcases h with h | h <;> rw [h] at hf
    · exact hs.1 hf.2.symm
    · exact hs.2 hf.2.symm
theorem loop_quiet {u : Token} (h : Quiet u) (n k d : Nat) (a : Int) (rest : List Token) (out : List Node) : loopS (n + 1) k d a (u :: rest) out = .ok a (u :: rest) out := by
  simp only [loopS]
  by_cases h4 : u.Kind = 4
  · rw [if_pos h4, op_quiet h h4]
  · rw [if_neg h4]
def okOr {α : Type} (p : PR α) (a : α) (ts : List Token) (o : List Node) : Prop := p = .ok a ts o ∨ p = .er 6
theorem quiet_rpT : Quiet rpT := .inr ⟨rfl, .inr rfl⟩
theorem brk {u : Token} (hu : Quiet u) {N d : Nat} {T rest : List Token} {out o : List Node} {a : Int} (h : okOr (exprS N (d + 1) T out) a (rpT :: u :: rest) o) : okOr (exprS (N + 10) d (lpT :: T) out) a (u :: rest) o := by
  have hp : okOr (primS (N + 1) d (lpT :: T) out) a (u :: rest) o := by
    have e : primS (N + 1) d (lpT :: T) out = if 64 ≤ d then .er 6 else (exprS N (d + 1) T out).bind fun a ts out => needS [41] ts fun ts => .ok a ts out := by
      simp [primS, lpT, M.isS, openS]
    rw [e]
    by_cases hd : 64 ≤ d
    · rw [if_pos hd]; exact .inr rfl
    · rw [if_neg hd]
      rcases h with h | h
      · rw [h]; exact .inl rfl
      · rw [h]; exact .inr rfl
  have hpo : okOr (postS (N + 2) d (lpT :: T) out) a (u :: rest) o := by
    simp only [postS]
    rcases hp with h | h
    · rw [h]
      left
      simp only [PR.bind, postL]
      rw [hu.isS (by decide)]
      rfl
    · rw [h]; exact .inr rfl
  have hun : okOr (unS (N + 3) d (lpT :: T) out) a (u :: rest) o := by
    have e : unS (N + 3) d (lpT :: T) out = postS (N + 2) d (lpT :: T) out := by simp [unS, lpT, M.isS]
    rw [e]
    exact hpo
  have h5 : okOr (chainS (N + 4) 5 d (lpT :: T) out) a (u :: rest) o := by
    simp only [chainS]
    exact hun
  have up : ∀ m k, k ≠ 5 → okOr (chainS (m + 1) (k + 1) d (lpT :: T) out) a (u :: rest) o → okOr (chainS (m + 2) k d (lpT :: T) out) a (u :: rest) o := by
    intro m k hk h
    rw [chainS, if_neg hk]
    rcases h with h | h
    · rw [h]
      left
      simp only [PR.bind]
      exact loop_quiet hu _ _ _ _ _ _
    · rw [h]; exact .inr rfl
  have h0 := up _ 0 (by decide) (up _ 1 (by decide) (up _ 2 (by decide) (up _ 3 (by decide) (up _ 4 (by decide) h5))))
  simp only [exprS]
  rcases h0 with h | h
  · rw [h]
    left
    simp only [PR.bind]
    rw [hu.isS (by decide)]
    rfl
  · rw [h]; exact .inr rfl
theorem brkN {u : Token} (hu : Quiet u) {rest : List Token} {out o : List Node} {a : Int} : ∀ (k N d : Nat) (T : List Token), okOr (exprS N (d + k) T out) a (List.replicate k rpT ++ u :: rest) o → okOr (exprS (N + 10 * k) d (List.replicate k lpT ++ T) out) a (u :: rest) o
  | 0, N, d, T, h => h
  | k + 1, N, d, T, h => by
    obtain ⟨v, r', hv, e⟩ : ∃ v r', Quiet v ∧ List.replicate k rpT ++ u :: rest = v :: r' := by
      cases k with
      | zero => exact ⟨u, rest, hu, rfl⟩
      | succ k => exact ⟨rpT, List.replicate k rpT ++ u :: rest, quiet_rpT, rfl⟩
    rw [List.replicate_succ, List.cons_append, e] at h
    have h1 := brk (d := d + k) hv h
    rw [← e] at h1
    have h2 := brkN hu k (N + 10) d (lpT :: T) h1
    rw [show List.replicate (k + 1) lpT ++ T = List.replicate k lpT ++ lpT :: T by rw [List.replicate_succ', List.append_assoc]; rfl, show N + 10 * (k + 1) = N + 10 + 10 * k by omega]
    exact h2
/-- The tokens behind which others stand. -/
theorem Exs_of {r : Token} {rest : List Token} {e : Token} : ∀ (ts : List Token), (∀ t ∈ ts, t.Kind ≠ 0) → e.Kind = 0 → Exs r rest (ts ++ [e]) (ts ++ r :: rest)
  | [], _, he => .nil e he
  | x :: ts, h, he => .cons x _ _ (h x (by simp)) (Exs_of ts (fun t ht => h t (by simp [ht])) he)
/-! ### What stands alone, in brackets, as an attribute. -/
theorem expr_alone {ts : List Token} {e : Token} (he : e.Kind = 0) (hk : ∀ t ∈ ts, t.Kind ≠ 0) {l : List Node} {t1 : List Token} {o1 : List Node} (h : exprT (ts ++ [e]) = .ok l t1 o1) {r : Token} (hr : Quiet r) (rest : List Token) (n' d' : Nat) (hn : 20 * (ts.length + 1) + 10 ≤ n') : (∃ a, exprS n' d' (ts ++ r :: rest) [] = .ok a (r :: rest) l) ∨ (0 < d' ∧ exprS n' d' (ts ++ r :: rest) [] = .er 6) := by
  have hx : Exs r rest (ts ++ [e]) (ts ++ r :: rest) := Exs_of ts hk he
  have hf := (foA hr (20 * (ts.length + 1) + 10)).expr n' 0 d' _ _ [] hn (Nat.zero_le _) hx
  simp only [exprT, wholeS, List.length_append, List.length_cons, List.length_nil] at h
  cases hc : exprS (20 * (ts.length + 1) + 10) 0 (ts ++ [e]) [] with
  | no => rw [hc] at h; cases h
  | er x => rw [hc] at h; cases h
  | ok a ts1 out1 =>
    rw [hc] at h
    simp only [PR.bind] at h
    rcases hf a ts1 out1 hc with ⟨ts', h1, h2⟩ | h1
    · cases h2 with
      | nil e1 he1 =>
        simp only [he1] at h
        rw [if_pos trivial] at h
        cases h
        exact .inl ⟨a, h1⟩
      | cons x ts ts' hx h2 =>
        simp only [hx] at h
        rw [if_neg (by simp)] at h
        cases h
    · exact .inr h1
theorem expr_brackets {ts : List Token} {e : Token} (he : e.Kind = 0) (hk : ∀ t ∈ ts, t.Kind ≠ 0) {l : List Node} {t1 : List Token} {o1 : List Node} (h : exprT (ts ++ [e]) = .ok l t1 o1) (k : Nat) (e' : Token) (he' : e'.Kind = 0) : (∃ o, exprT (List.replicate k lpT ++ (ts ++ (List.replicate k rpT ++ [e']))) = .ok l [e'] o) ∨ exprT (List.replicate k lpT ++ (ts ++ (List.replicate k rpT ++ [e']))) = .er 6 := by
  obtain ⟨v, r', hv, ev⟩ : ∃ v r', Quiet v ∧ List.replicate k rpT ++ [e'] = v :: r' := by
    cases k with
    | zero => exact ⟨e', [], .inl he', rfl⟩
    | succ k => exact ⟨rpT, List.replicate k rpT ++ [e'], quiet_rpT, rfl⟩
  have hlen : (List.replicate k lpT ++ (ts ++ (List.replicate k rpT ++ [e']))).length = ts.length + 1 + 2 * k := by simp; omega
  have h1 := expr_alone he hk h hv r' (20 * (ts.length + 1 + 2 * k) + 10 - 10 * k) k (by omega)
  have h2 : ∃ a, okOr (exprS (20 * (ts.length + 1 + 2 * k) + 10 - 10 * k) (0 + k) (ts ++ (List.replicate k rpT ++ [e'])) []) a (List.replicate k rpT ++ e' :: []) l := by
    rw [Nat.zero_add, ev]
    rcases h1 with ⟨a, h1⟩ | ⟨_, h1⟩
    · exact ⟨a, .inl h1⟩
    · exact ⟨0, .inr h1⟩
  obtain ⟨a, h2⟩ := h2
  have h3 := brkN (.inl he') k _ 0 _ h2
  rw [show 20 * (ts.length + 1 + 2 * k) + 10 - 10 * k + 10 * k = 20 * (ts.length + 1 + 2 * k) + 10 by omega] at h3
  simp only [exprT, wholeS, hlen]
  rcases h3 with h3 | h3
  · left
    rw [h3]
    simp only [PR.bind, he']
    exact ⟨[], rfl⟩
  · right
    rw [h3]
    rfl
def tn (s : List UInt8) : Token := ⟨3, s, 0, [], 0⟩
def tg (s : List UInt8) : Token := ⟨4, s, 0, [], 0⟩
theorem conf_attr (lab : List UInt8 → Bool) {ts : List Token} {e : Token} (he : e.Kind = 0) (hk : ∀ t ∈ ts, t.Kind ≠ 0) {l : List Node} {t1 : List Token} {o1 : List Node} (h : exprT (ts ++ [e]) = .ok l t1 o1) (e' : Token) (he' : e'.Kind = 0) : confT lab (tn [108, 111, 99, 97, 108, 115] :: tg [123] :: tn [97] :: tg [61] :: (ts ++ [tg [125], e'])) = .ok [⟨2, [], [⟨[97], l⟩], []⟩] [e'] [] := by
  have hlen : (tn [108, 111, 99, 97, 108, 115] :: tg [123] :: tn [97] :: tg [61] :: (ts ++ [tg [125], e'])).length = ts.length + 6 := by simp
  simp only [confT, hlen]
  obtain ⟨m, hm⟩ : ∃ m, 20 * (ts.length + 6) + 10 = m + 2 := ⟨20 * (ts.length + 6) + 8, by omega⟩
  have hw : ∃ a, exprS (m + 2) 0 (ts ++ [tg [125], e']) [] = .ok a [tg [125], e'] l := by
    rcases expr_alone he hk h (r := tg [125]) (.inr ⟨rfl, .inl rfl⟩) [e'] (m + 2) 0 (by omega) with h1 | h1
    · exact h1
    · omega
  obtain ⟨a, hw⟩ := hw
  rw [hm]
  have hatt : attrsS (m + 2) (m + 2) [] (tn [97] :: tg [61] :: (ts ++ [tg [125], e'])) = .ok [⟨[97], l⟩] [e'] [] := by
    rw [attrsS]
    simp only [M.isS, tn, tg, needS, wholeS, List.any_nil, List.tail_cons]
    simp only [tg] at hw
    rw [hw]
    simp [PR.bind, attrsS, M.isS]
  have hblk : blkS lab (m + 2) (tn [108, 111, 99, 97, 108, 115] :: tg [123] :: tn [97] :: tg [61] :: (ts ++ [tg [125], e'])) = .ok ⟨2, [], [⟨[97], l⟩], []⟩ [e'] [] := by
    have e1 : idxS (tn [108, 111, 99, 97, 108, 115]).Text wordsS 0 = some 1 := by decide
    simp only [blkS, e1]
    rw [if_pos (show (tn [108, 111, 99, 97, 108, 115]).Kind = 3 from rfl), if_neg (by decide)]
    have e2 : M.isS [123] (tg [123] :: tn [97] :: tg [61] :: (ts ++ [tg [125], e'])) = true := rfl
    simp only [plainS, bodyS, needS, e2, if_true, List.tail_cons, hatt]
    rfl
  rw [confS, if_neg (by decide), hblk]
  simp only [PR.bind]
  rw [confS, if_pos he']
  rfl
end Go.Proofs.YtfbcnpbhhooapaaGreatDoor.M

/- Lex: texts put together: their tokens (places left out). -/
namespace Go.Proofs.YtfbcnpbhhooapaaGreatDoor.M
set_option linter.unusedSimpArgs false
set_option linter.unusedVariables false
open Go Classical
theorem Lx_ne {t : List UInt8} {p : Int} {r : Option (List Token)} (h : Lx t p r) : ∀ L, r = some L → L ≠ [] := by
  induction h with
  | nil p => intro L e; cases e; simp
  | gap c t p r hc _ ih => exact ih
  | remark t p r _ ih => exact ih
  | bad => intro L e; cases e
  | tok c t p x n r c1 c2 hk _ ih =>
    intro L e
    obtain ⟨L0, _, rfl⟩ := Option.map_eq_some_iff.1 e
    simp
theorem takeWhile_app {p : UInt8 → Bool} {w R : List UInt8} (h : ∀ x ∈ w, p x = true) (hR : ∀ c, R.head? = some c → p c = false) : (w ++ R).takeWhile p = w := by
  cases R with
  | nil => rw [List.append_nil]; exact takeWhile_all p w h
  | cons c R => exact takeWhile_stop p w c R h (hR c rfl)
def headOk (R0 R : List UInt8) : Prop := R.head? = R0.head? ∨ R.head? = some 32 ∨ R.head? = some 10 ∨ R.head? = some 35
theorem head_dropWhile (p : UInt8 → Bool) : ∀ (l : List UInt8) (c : UInt8), (l.dropWhile p).head? = some c → p c = false
  | [], c, h => by cases h
  | a :: l, c, h => by
    rw [List.dropWhile_cons] at h
    split at h
    · exact head_dropWhile p l c h
    · rename_i hp
      obtain rfl := Option.some.inj h
      simpa using hp
theorem headOk_stop {cl : List Int} (h32 : inC cl 32 = false) (h10 : inC cl 10 = false) (h35 : inC cl 35 = false) {l R : List UInt8} (h : headOk (l.dropWhile (inC cl)) R) : ∀ c, R.head? = some c → inC cl c = false := by
  intro c hc
  rcases h with h | h | h | h
  · exact head_dropWhile _ l c (h ▸ hc)
  all_goals (rw [h] at hc; obtain rfl := Option.some.inj hc; assumption)
theorem refS_of {x y v : List UInt8} (hx : nameS x = true) (hy : nameS y = true) : refS (x ++ 46 :: (y ++ 125 :: v)) = (x ++ 46 :: y, true) := by
  have h125 : (125 : UInt8) ∉ x ++ 46 :: y := by
    intro h
    rcases List.mem_append.1 h with h | h
    · have := name_in hx _ h; rw [in125] at this; cases this
    · rcases List.mem_cons.1 h with h | h
      · exact absurd h (by decide)
      · have := name_in hy _ h; rw [in125] at this; cases this
  have h46 : (46 : UInt8) ∉ x := by
    intro h
    have := name_in hx _ h; rw [in46] at this; cases this
  have e : x ++ 46 :: (y ++ 125 :: v) = (x ++ 46 :: y) ++ 125 :: v := by simp
  unfold refS dottedS
  rw [e, cut_split 125 _ _ h125]
  simp only
  rw [cut_split 46 _ _ h46]
  simp [hx, hy]
theorem Qx_stable {t : List UInt8} {l : List Part} {b : List UInt8} {r : Option (List Part × Nat)} (h : Qx t l b r) : ∀ q, r = some q → ∀ R, Qx (t.take q.2 ++ R) l b (some q) := by
  induction h with
  | nil | low | esc0 | escbad | refbad => intro q hq; cases hq
  | shut t l b => intro q hq R; obtain rfl := Option.some.inj hq; exact .shut R l b
  | esc x y t l b r hx _ ih =>
    intro q hq R
    obtain ⟨q0, h0, rfl⟩ := Option.map_eq_some_iff.1 hq
    have := Qx.esc x y _ l b _ hx (ih q0 h0 R)
    exact this
  | ref t l b r hr _ ih =>
    intro q hq R
    obtain ⟨q0, h0, rfl⟩ := Option.map_eq_some_iff.1 hq
    obtain ⟨x, y, v, e1, hx, hy, e2⟩ := ref_split hr
    have hv : t.drop ((refS t).1.length + 1) = v := by
      rw [e2, e1, show x ++ 46 :: (y ++ 125 :: v) = (x ++ 46 :: y) ++ 125 :: v by simp]
      exact drop_mid 125 _ v
    have ih := ih q0 h0 R
    rw [hv] at ih
    have hlen : (x ++ 46 :: y).length = (refS t).1.length := by rw [e2]
    have et : t.take (q0.2 + (1 + (refS t).1.length)) = (x ++ 46 :: y) ++ 125 :: v.take q0.2 := by
      rw [← hlen, e1, show x ++ 46 :: (y ++ 125 :: v) = (x ++ 46 :: y) ++ 125 :: v by simp]
      generalize x ++ 46 :: y = z
      rw [List.take_append, List.take_of_length_le (by omega), show q0.2 + (1 + z.length) - z.length = q0.2 + 1 by omega]
      rfl
    show Qx ((36 :: 123 :: t).take (q0.2 + (3 + (refS t).1.length)) ++ R) l b _
    rw [show q0.2 + (3 + (refS t).1.length) = (q0.2 + (1 + (refS t).1.length)) + 1 + 1 by omega, List.take_succ_cons, List.take_succ_cons, et]
    have hS : refS (x ++ 46 :: (y ++ 125 :: (v.take q0.2 ++ R))) = (x ++ 46 :: y, true) := refS_of hx hy
    have key := Qx.ref (x ++ 46 :: (y ++ 125 :: (v.take q0.2 ++ R))) l b (some q0) (by rw [hS]) (by
      rw [hS]
      simp only
      rw [show x ++ 46 :: (y ++ 125 :: (v.take q0.2 ++ R)) = (x ++ 46 :: y) ++ 125 :: (v.take q0.2 ++ R) by simp, drop_mid, ← e2]
      exact ih)
    rw [hS] at key
    simp only [Option.map_some] at key
    rw [hlen] at key
    have e4 : (36 :: 123 :: ((x ++ 46 :: y) ++ 125 :: v.take q0.2)) ++ R = 36 :: 123 :: (x ++ 46 :: (y ++ 125 :: (v.take q0.2 ++ R))) := by simp
    rw [e4]
    rw [show q0.2 + (1 + (refS t).1.length) + 1 + 1 = q0.2 + (3 + (refS t).1.length) by omega]
    exact key
  | plain c t l b r c1 c2 c3 c4 hq0 ih =>
    intro q hq R
    obtain ⟨q0, h0, rfl⟩ := Option.map_eq_some_iff.1 hq
    have hpos := Qx_len hq0 q0 h0
    have hh : (t.take q0.2 ++ R).head? = t.head? := by
      cases t with
      | nil => simp at hpos; omega
      | cons a t =>
        obtain ⟨m, hm⟩ : ∃ m, q0.2 = m + 1 := ⟨q0.2 - 1, by omega⟩
        rw [hm, List.take_succ_cons]
        rfl
    have := Qx.plain c _ l b _ c1 c2 c3 (fun e => by rw [hh]; exact c4 e) (ih q0 h0 R)
    exact this
theorem twos_second {a b : UInt8} (h : [a, b] ∈ twos) : b = 61 ∨ b = 38 ∨ b = 124 := by
  simp only [twos, List.mem_cons, List.cons.injEq, and_true, List.not_mem_nil, or_false] at h
  rcases h with h | h | h | h | h | h <;> simp [h.2]
theorem sign_sep {c r : UInt8} (R : List UInt8) (h : r = 32 ∨ r = 10 ∨ r = 35) : signS (c :: r :: R) = sign1 c := by
  rw [signS, sign2, if_neg]
  intro e
  have := twos_second e
  rcases h with rfl | rfl | rfl <;> simp at this
theorem Tok_stable {z : List UInt8} {x : Token} {n : Nat} (h : Tok z (some (x, n))) (R : List UInt8) (hR : headOk (z.drop n) R) : Tok (z.take n ++ R) (some (x, n)) := by
  obtain ⟨r, hr⟩ : ∃ r, r = some (x, n) := ⟨_, rfl⟩
  rw [← hr] at h
  cases h with
  | name c u h =>
    split at hr
    · rename_i h24
      obtain ⟨rfl, rfl⟩ := Prod.mk.inj (Option.some.inj hr)
      have hd : (c :: u).drop (spanS [2, 3] (c :: u)) = (c :: u).dropWhile (inC [2, 3]) := drop_while_len _ _
      have ht : (c :: u).take (spanS [2, 3] (c :: u)) = (c :: u).takeWhile (inC [2, 3]) := take_while_len _ _
      rw [hd] at hR
      have hst := headOk_stop (by decide) (by decide) (by decide) hR
      have hc : inC [2, 3] c = true := (inC23 c).2 (.inl h)
      have hw : ((c :: u).takeWhile (inC [2, 3]) ++ R).takeWhile (inC [2, 3]) = (c :: u).takeWhile (inC [2, 3]) := takeWhile_app (fun y hy => List.all_eq_true.1 List.all_takeWhile y hy) hst
      rw [ht]
      obtain ⟨w, ew⟩ : ∃ w, (c :: u).takeWhile (inC [2, 3]) = c :: w := ⟨_, by rw [List.takeWhile_cons, if_pos hc]⟩
      have key := Tok.name c (w ++ R) h
      rw [← List.cons_append, ← ew, hw, if_pos h24] at key
      unfold spanS at key ⊢
      rw [hw] at key
      exact key
    · cases hr
  | num c u h =>
    have hd : (c :: u).drop (spanS [3] (c :: u)) = (c :: u).dropWhile (inC [3]) := drop_while_len _ _
    have ht : (c :: u).take (spanS [3] (c :: u)) = (c :: u).takeWhile (inC [3]) := take_while_len _ _
    have hr0 := hr
    unfold numS at hr
    split at hr
    · rename_i hok
      obtain ⟨rfl, rfl⟩ := Prod.mk.inj (Option.some.inj hr)
      unfold spanS at hd ht
      rw [hd] at hR
      have hst := headOk_stop (by decide) (by decide) (by decide) hR
      have hc : inC [3] c = true := by unfold inC; simp [h]
      have hw : ((c :: u).takeWhile (inC [3]) ++ R).takeWhile (inC [3]) = (c :: u).takeWhile (inC [3]) := takeWhile_app (fun y hy => List.all_eq_true.1 List.all_takeWhile y hy) hst
      rw [ht]
      obtain ⟨w, ew⟩ : ∃ w, (c :: u).takeWhile (inC [3]) = c :: w := ⟨_, by rw [List.takeWhile_cons, if_pos hc]⟩
      have key := Tok.num c (w ++ R) h
      unfold numS at key
      rw [← List.cons_append, ← ew, hw, if_pos hok] at key
      exact key
    · cases hr
  | text u q h =>
    obtain ⟨q0, h0, e⟩ := Option.map_eq_some_iff.1 hr
    obtain ⟨rfl, rfl⟩ := Prod.mk.inj e
    have key := Tok.text _ _ (Qx_stable h q0 h0 R)
    exact key
  | sign c u h2 h3 h4 =>
    split at hr
    · cases hr
    · rename_i hne
      obtain ⟨rfl, rfl⟩ := Prod.mk.inj (Option.some.inj hr)
      have goal : ∀ R', (c :: u).take (signS (c :: u)).length ++ R = c :: R' → signS (c :: R') = signS (c :: u) → Tok ((c :: u).take (signS (c :: u)).length ++ R) (some (Token.mk 4 (signS (c :: u)) 0 [] 0, (signS (c :: u)).length)) := by
        intro R' e1 e2
        have key := Tok.sign c R' h2 h3 h4
        rw [e2, if_neg hne] at key
        rw [e1]
        exact key
      have one : sign1 c ≠ [] → sign1 c = [c] := by
        intro h
        unfold sign1 at h ⊢
        split
        · rfl
        · rename_i hn; rw [if_neg hn] at h; exact absurd rfl h
      cases u with
      | nil =>
        have e1 : signS [c] = [c] := one hne
        refine goal R (by rw [e1]; rfl) ?_
        rw [e1] at hR
        cases R with
        | nil => rfl
        | cons r R =>
          have hs : r = 32 ∨ r = 10 ∨ r = 35 := by
            rcases hR with h | h | h | h
            · cases h
            all_goals (have := Option.some.inj h; simp [this])
          rw [sign_sep R hs]
          rfl
      | cons b u =>
        by_cases h2 : [c, b] ∈ twos
        · have e1 : signS (c :: b :: u) = [c, b] := by rw [signS, sign2, if_pos h2]
          refine goal (b :: R) (by rw [e1]; rfl) ?_
          rw [e1, signS, sign2, if_pos h2]
        · have e0 : signS (c :: b :: u) = sign1 c := by rw [signS, sign2, if_neg h2]
          have e1 : signS (c :: b :: u) = [c] := by rw [e0]; exact one (e0 ▸ hne)
          refine goal R (by rw [e1]; rfl) ?_
          rw [e1] at hR
          cases R with
          | nil =>
            rcases hR with h | h | h | h <;> cases h
          | cons r R =>
            rcases hR with h | h | h | h
            · have hb : r = b := Option.some.inj h
              rw [hb, e0, signS, sign2, if_neg h2]
            all_goals (rw [sign_sep R (by have := Option.some.inj h; simp [this]), e0])
/-- What a text's tokens are, their places left out. -/
def Lxs (t : List UInt8) (L : List Token) : Prop := ∀ p, ∃ L0, Lx t p (some L0) ∧ L0.map σ = L
def eT : Token := ⟨0, [], 0, [], 0⟩
theorem Lxs_nil : Lxs [] [eT] := fun p => ⟨_, .nil p, rfl⟩
theorem Lxs_gap {c : UInt8} (hc : clsS c = 1) {t : List UInt8} {L : List Token} (h : Lxs t L) : Lxs (c :: t) L := fun p => by
  obtain ⟨L0, h1, h2⟩ := h (p + 1)
  exact ⟨L0, .gap c t p _ hc h1, h2⟩
theorem Lxs_tok1 {c : UInt8} {t : List UInt8} {x : Token} {n : Nat} (h1 : clsS c ≠ 1) (h2 : clsS c ≠ 5) (hk : Tok (c :: t) (some (x, n))) {L : List Token} (h : Lxs ((c :: t).drop n) L) : Lxs (c :: t) (σ x :: L) := fun p => by
  obtain ⟨L0, h3, h4⟩ := h (p + n)
  refine ⟨_, .tok c t p x n _ h1 h2 hk h3, ?_⟩
  rw [List.map_cons, h4]
  rfl
theorem Lxs_tok {w : List UInt8} {x : Token} (hs : stands w) (hk : Tok w (some (x, w.length))) {R : List UInt8} (hR : headOk [] R) {L : List Token} (h : Lxs R L) : Lxs (w ++ R) (σ x :: L) := by
  have h1 := Tok_stable hk R (by rw [List.drop_length]; exact hR)
  rw [List.take_length] at h1
  cases w with
  | nil => cases hk
  | cons c u =>
    have h2 : Lxs ((c :: u ++ R).drop (c :: u).length) L := by rw [List.drop_left]; exact h
    exact Lxs_tok1 hs.1 hs.2 h1 h2
theorem Lxs_sign {c : UInt8} (h1 : clsS c ≠ 1) (h2 : clsS c ≠ 5) (h3 : clsS c ≠ 2) (h4 : clsS c ≠ 3) (h5 : clsS c ≠ 4) (h6 : ∀ b, [c, b] ∉ twos) (h7 : sign1 c = [c]) {t : List UInt8} {L : List Token} (h : Lxs t L) : Lxs (c :: t) (tg [c] :: L) := by
  have e : signS (c :: t) = [c] := by
    cases t with
    | nil => exact h7
    | cons b t => rw [signS, sign2, if_neg (h6 b), h7]
  have hk := Tok.sign c t h3 h4 h5
  rw [e, if_neg (by simp)] at hk
  exact Lxs_tok1 h1 h2 hk h
theorem Lxs_app {t : List UInt8} {p : Int} {r : Option (List Token)} (h : Lx t p r) : ∀ L, r = some L → ∀ (X : List UInt8) (L' : List Token), (X = [] ∨ X.head? = some 10) → Lxs X L' → Lxs (t ++ X) ((L.map σ).dropLast ++ L') := by
  induction h with
  | nil p =>
    intro L hL X L' hX h'
    obtain rfl := Option.some.inj hL
    exact h'
  | gap c t p r hc _ ih => exact fun L hL X L' hX h' => Lxs_gap hc (ih L hL X L' hX h')
  | remark t p r _ ih =>
    intro L hL X L' hX h' q
    have e : (t ++ X).dropWhile (· != (10 : UInt8)) = t.dropWhile (· != 10) ++ X := by
      have hX0 : X.dropWhile (· != (10 : UInt8)) = X := by
        rcases hX with rfl | hX
        · rfl
        · cases X with
          | nil => rfl
          | cons c X => obtain rfl := Option.some.inj hX; rfl
      rw [List.dropWhile_append]
      split
      · rename_i h0
        rw [List.isEmpty_iff.1 h0, hX0]
        rfl
      · rfl
    obtain ⟨L3, h3, h4⟩ := ih L hL X L' hX h' (q + (((t ++ X).takeWhile (· != 10)).length + 1 : Nat))
    exact ⟨L3, .remark (t ++ X) q _ (by rw [e]; exact h3), h4⟩
  | bad => intro L hL; cases hL
  | tok c t p x n r h1 h2 hk hL0 ih =>
    intro L hL X L' hX h'
    obtain ⟨L0, h0, rfl⟩ := Option.map_eq_some_iff.1 hL
    obtain ⟨l1, l2⟩ := Tok_len hk (x, n) rfl
    simp only at l1 l2
    have hne := Lx_ne hL0 L0 h0
    have hH : headOk ((c :: t).drop n) ((c :: t).drop n ++ X) := by
      cases hd : (c :: t).drop n with
      | nil =>
        rcases hX with rfl | hX
        · exact .inl rfl
        · exact .inr (.inr (.inl hX))
      | cons b v => exact .inl rfl
    have hk2 := Tok_stable hk _ hH
    rw [← List.append_assoc, List.take_append_drop] at hk2
    have hd : (c :: t ++ X).drop n = (c :: t).drop n ++ X := List.drop_append_of_le_length (by omega)
    have key := Lxs_tok1 (t := t ++ X) h1 h2 hk2 (L := (L0.map σ).dropLast ++ L') (by
      show Lxs ((c :: t ++ X).drop n) _
      rw [hd]
      exact ih L0 h0 X L' hX h')
    have e : ((atT x p :: L0).map σ).dropLast ++ L' = σ x :: ((L0.map σ).dropLast ++ L') := by
      rw [List.map_cons, List.dropLast_cons_of_ne_nil (by simpa using hne)]
      rfl
    rw [e]
    exact key
theorem W_split : ∀ {L : List Token}, W L → ∃ ts e, L = ts ++ [e] ∧ e.Kind = 0 ∧ ∀ t ∈ ts, t.Kind ≠ 0
  | [], h => h.elim
  | [e], h => ⟨[], e, rfl, h, by simp⟩
  | t :: u :: ts, h => by
    obtain ⟨ts', e, h1, h2, h3⟩ := W_split h.2
    exact ⟨t :: ts', e, by rw [h1]; rfl, h2, fun x hx => by rcases List.mem_cons.1 hx with rfl | hx; exact h.1; exact h3 x hx⟩
/-! ### parse.Parse and parse.Expr of a text whose tokens are known -/
theorem r_ParseX {s : List UInt8} (hs : s.length ≤ 6000) {L : List Token} (h : Lxs s L) : match confT labelS L with
    | .ok l _ _ => R_parse_Parse s l 0
    | .er e => e ≠ 0 → R_parse_Parse s [] e
    | .no => False := by
  obtain ⟨L0, h1, h2⟩ := h 0
  obtain ⟨g1, g2, g3⟩ := Lx_good h1 L0 rfl
  have hT : TL L0 := ⟨by omega, fun t ht => by have := (g3 t ht).1; omega, fun t ht p hp => by have := (g3 t ht).2 p hp; omega⟩
  have hx : R_lex_Lex s L0 0 := r_Lex hs h1
  have key := r_ParseT hx hT g1 r_lexLabel
  rw [← h2, confT_σ]
  cases hc : confT labelS L0 with
  | ok l ts out => rw [hc] at key; exact key
  | er e => rw [hc] at key; exact key
  | no => rw [hc] at key; exact key
theorem r_ExprX {s : List UInt8} (hs : s.length ≤ 6000) {L : List Token} (h : Lxs s L) : match exprT L with
    | .ok l _ _ => R_parse_Expr s l 0
    | .er e => e ≠ 0 → R_parse_Expr s [] e
    | .no => False := by
  obtain ⟨L0, h1, h2⟩ := h 0
  obtain ⟨g1, g2, g3⟩ := Lx_good h1 L0 rfl
  have hT : TL L0 := ⟨by omega, fun t ht => by have := (g3 t ht).1; omega, fun t ht p hp => by have := (g3 t ht).2 p hp; omega⟩
  have hx : R_lex_Lex s L0 0 := r_Lex hs h1
  have key := r_ExprT hx hT g1
  rw [← h2, exprT_σ]
  cases hc : exprT L0 with
  | ok l ts out => rw [hc] at key; exact key
  | er e => rw [hc] at key; exact key
  | no => rw [hc] at key; exact key
theorem r_ParseXok {s : List UInt8} (hs : s.length ≤ 6000) {L : List Token} (h : Lxs s L) {l : List Block} {ts : List Token} {o : List Node} (hc : confT labelS L = .ok l ts o) : R_parse_Parse s l 0 := by
  have := r_ParseX hs h
  rw [hc] at this
  exact this
theorem r_ExprXok {s : List UInt8} (hs : s.length ≤ 6000) {L : List Token} (h : Lxs s L) {l : List Node} {ts : List Token} {o : List Node} (hc : exprT L = .ok l ts o) : R_parse_Expr s l 0 := by
  have := r_ExprX hs h
  rw [hc] at this
  exact this
theorem r_ExprXer {s : List UInt8} (hs : s.length ≤ 6000) {L : List Token} (h : Lxs s L) {e : Int} (hc : exprT L = .er e) (he : e ≠ 0) : R_parse_Expr s [] e := by
  have := r_ExprX hs h
  rw [hc] at this
  exact this he
/-! ### Brackets, an attribute: their tokens -/
theorem Lxs_lp {t : List UInt8} {L : List Token} (h : Lxs t L) : Lxs (40 :: t) (lpT :: L) := Lxs_sign (by decide) (by decide) (by decide) (by decide) (by decide) (by simp [twos]) (by decide) h
theorem Lxs_rp {t : List UInt8} {L : List Token} (h : Lxs t L) : Lxs (41 :: t) (rpT :: L) := Lxs_sign (by decide) (by decide) (by decide) (by decide) (by decide) (by simp [twos]) (by decide) h
theorem Lxs_lb {t : List UInt8} {L : List Token} (h : Lxs t L) : Lxs (123 :: t) (tg [123] :: L) := Lxs_sign (by decide) (by decide) (by decide) (by decide) (by decide) (by simp [twos]) (by decide) h
theorem Lxs_rb {t : List UInt8} {L : List Token} (h : Lxs t L) : Lxs (125 :: t) (tg [125] :: L) := Lxs_sign (by decide) (by decide) (by decide) (by decide) (by decide) (by simp [twos]) (by decide) h
/-- A name that ends where a blank stands. -/
theorem Lxs_name {c : UInt8} {u : List UInt8} (h : clsS c = 2) (hu : ∀ y ∈ u, inC [2, 3] y = true) (hl : u.length < 24) {b : UInt8} (hb : b = 32 ∨ b = 10) {t : List UInt8} {L : List Token} (h' : Lxs t L) : Lxs (c :: (u ++ b :: t)) (tn (c :: u) :: L) := by
  have hc : inC [2, 3] c = true := (inC23 c).2 (.inl h)
  have ht : (c :: u).takeWhile (inC [2, 3]) = c :: u := takeWhile_all _ _ fun y hy => by rcases List.mem_cons.1 hy with rfl | hy; exact hc; exact hu y hy
  have hk := Tok.name c u h
  unfold spanS at hk
  rw [ht, if_pos (by simp; omega)] at hk
  have h1 : Lxs (b :: t) L := Lxs_gap (by rcases hb with rfl | rfl <;> decide) h'
  exact Lxs_tok (w := c :: u) ⟨by rw [h]; decide, by rw [h]; decide⟩ hk (by rcases hb with rfl | rfl; exact .inr (.inl rfl); exact .inr (.inr (.inl rfl))) h1
theorem Lxs_eq {t : List UInt8} {L : List Token} (h : Lxs t L) : Lxs (61 :: 32 :: t) (tg [61] :: L) := by
  have hk := Tok.sign 61 [] (by decide) (by decide) (by decide)
  exact Lxs_tok (w := [61]) ⟨by decide, by decide⟩ hk (.inr (.inl rfl)) (Lxs_gap (by decide) h)
theorem Lxs_rps : ∀ k : Nat, Lxs ((List.replicate k [10, 41]).flatten : List UInt8) (List.replicate k rpT ++ [eT])
  | 0 => Lxs_nil
  | k + 1 => Lxs_gap (by decide) (Lxs_rp (Lxs_rps k))
theorem Lxs_lps {t : List UInt8} {L : List Token} (h : Lxs t L) : ∀ k : Nat, Lxs (List.replicate k 40 ++ t) (List.replicate k lpT ++ L)
  | 0 => h
  | k + 1 => Lxs_lp (Lxs_lps h k)
end Go.Proofs.YtfbcnpbhhooapaaGreatDoor.M

/- The machine's code of the functions, printed by a program of this session (sc2.py) out of the translation. Not trusted: Lean checks each by its own computation. -/
namespace Go.Proofs.YtfbcnpbhhooapaaGreatDoor.M
open Go
set_option linter.unusedVariables false
/-- doorkeeper/doorkeeperlaw1.Num -/
def sc_law1_Num : SFunc := ⟨1, 4, .seq (.reg [⟨(some 2), none, (.v (.mov (.c (.int .i64 0))))⟩]) (.seq (.reg [⟨(some 3), none, (.v (.mov (.t 0)))⟩, ⟨(some 2), none, (.v (.mov (.t 3)))⟩]) .ret), [(.t 2)]⟩
theorem U_law1_Num : type_of% (sc_law1_Num.eq_1) := sc_law1_Num.eq_1
theorem comp_law1_Num : comp Tryz.prog Tryz.f18 = some sc_law1_Num := by kernel_rfl
/-- doorkeeper/doorkeeperlaw2.awake -/
def c_law2_awake_1 : SC := .seq (.reg [⟨(some 7), none, (.v (.mov (.t 2)))⟩, ⟨(some 8), none, (.call (.c (.func 18 [])) [(.t 7)])⟩, ⟨(some 9), none, (.v (.bin .eql (.t 8) (.c (.int .i64 0))))⟩, ⟨(some 10), none, (.v (.mov (.t 9)))⟩, ⟨(some 11), (some (10, true)), (.v (.mov (.t 1)))⟩, ⟨(some 12), (some (10, true)), (.v (.len false (.t 11)))⟩, ⟨(some 13), (some (10, true)), (.v (.bin .eql (.t 12) (.c (.int .i64 1))))⟩, ⟨(some 14), none, (.v (.pick (.t 10) (.t 13) (.c (.bool false))))⟩, ⟨(some 15), none, (.v (.mov (.t 14)))⟩, ⟨(some 16), (some (15, true)), (.v (.mov (.t 1)))⟩, ⟨(some 17), (some (15, true)), (.v (.iaddr 4 (.t 16) (.c (.int .i64 0))))⟩, ⟨(some 18), (some (15, true)), (.v (.faddr 0 (.t 17)))⟩, ⟨(some 19), (some (15, true)), (.v (.load none (.t 18)))⟩, ⟨(some 20), (some (15, true)), (.v (.bin .eql (.t 19) (.c (.int .i64 3))))⟩, ⟨(some 21), none, (.v (.pick (.t 15) (.t 20) (.c (.bool false))))⟩, ⟨(some 22), none, (.v (.mov (.t 21)))⟩, ⟨(some 23), (some (22, true)), (.v (.mov (.t 1)))⟩, ⟨(some 24), (some (22, true)), (.v (.iaddr 4 (.t 23) (.c (.int .i64 0))))⟩, ⟨(some 25), (some (22, true)), (.v (.faddr 1 (.t 24)))⟩, ⟨(some 26), (some (22, true)), (.v (.load none (.t 25)))⟩, ⟨(some 27), (some (22, true)), (.v (.bin .eql (.t 26) (.c (.str [97]))))⟩, ⟨(some 28), none, (.v (.pick (.t 22) (.t 27) (.c (.bool false))))⟩, ⟨(some 29), none, (.v (.mov (.t 28)))⟩, ⟨(some 30), (some (29, true)), (.v (.mov (.t 1)))⟩, ⟨(some 31), (some (29, true)), (.v (.iaddr 4 (.t 30) (.c (.int .i64 0))))⟩, ⟨(some 32), (some (29, true)), (.v (.faddr 2 (.t 31)))⟩, ⟨(some 33), (some (29, true)), (.v (.load none (.t 32)))⟩, ⟨(some 34), (some (29, true)), (.v (.len false (.t 33)))⟩, ⟨(some 35), (some (29, true)), (.v (.bin .eql (.t 34) (.c (.int .i64 1))))⟩, ⟨(some 36), none, (.v (.pick (.t 29) (.t 35) (.c (.bool false))))⟩, ⟨(some 0), none, (.v (.mov (.t 36)))⟩]) .ret
def c_law2_awake_2 : SC := .seq (.reg [⟨(some 4), none, (.call (.c (.func 17 [])) [(.c (.str [110, 111, 100, 101, 32, 34, 97, 34, 32, 123, 32, 99, 112, 117, 32, 61, 32, 49, 32, 125]))])⟩, ⟨(some 3), none, (.v (.mov (.t 4)))⟩, ⟨(some 5), none, (.v (.extract 0 (.t 3)))⟩, ⟨(some 6), none, (.v (.extract 1 (.t 3)))⟩, ⟨(some 1), none, (.v (.mov (.t 5)))⟩, ⟨(some 2), none, (.v (.mov (.t 6)))⟩]) c_law2_awake_1
def sc_law2_awake : SFunc := ⟨0, 37, .seq (.reg [⟨(some 0), none, (.v (.mov (.c (.bool false))))⟩]) c_law2_awake_2, [(.t 0)]⟩
theorem U_law2_awake : type_of% (And.intro (fun (SP : Prg) (ac : Ac) => congrFun (congrArg (E SP) c_law2_awake_1.eq_1) ac) <| And.intro (fun (SP : Prg) (ac : Ac) => congrFun (congrArg (E SP) c_law2_awake_2.eq_1) ac) <| sc_law2_awake.eq_1) := And.intro (fun (SP : Prg) (ac : Ac) => congrFun (congrArg (E SP) c_law2_awake_1.eq_1) ac) <| And.intro (fun (SP : Prg) (ac : Ac) => congrFun (congrArg (E SP) c_law2_awake_2.eq_1) ac) <| sc_law2_awake.eq_1
theorem comp_law2_awake : comp Tryz.prog Tryz.f15 = some sc_law2_awake := by kernel_rfl
end Go.Proofs.YtfbcnpbhhooapaaGreatDoor.M

/- Trees of functions, printed by a program of this session (lift.py): what a run asks, over plain data. Lean proves each. -/
namespace Go.Proofs.YtfbcnpbhhooapaaGreatDoor.M
set_option linter.unusedSimpArgs false
set_option linter.unusedVariables false
open Go Classical
theorem sp_law1_Num : SP 18 = some (.code sc_law1_Num) := SPof_code rfl Tryz.func18 comp_law1_Num
/-! doorkeeper/doorkeeperlaw1.Num -/
set_option maxHeartbeats 4000000 in
theorem law1_Num_tree (e_ : Int) (r : Int) (T :
  e_ = r) : R_law1_Num e_ r := by
 intro S
 rw [call_code sp_law1_Num _ _ rfl]
 have F := U_law1_Num
 obtain rfl := T
 exact fi F
theorem sp_law2_awake : SP 15 = some (.code sc_law2_awake) := SPof_code rfl Tryz.func15 comp_law2_awake
/-! doorkeeper/doorkeeperlaw2.awake -/
set_option maxHeartbeats 4000000 in
theorem law2_awake_tree  (r : Bool) (T :
  ∃ (r1 : List Block) (r2 : Int), (R_parse_Parse [110, 111, 100, 101, 32, 34, 97, 34, 32, 123, 32, 99, 112, 117, 32, 61, 32, 49, 32, 125] r1 r2) ∧
 ∃ (r3 : Int), (R_law1_Num r2 r3) ∧
 ((r3 = 0) →
  (((r1.length : Int) = 1) →
   ∃ (v4 : Block), (r1[0]? = some v4) ∧
   ((v4.Kind = 3) →
    ((v4.Label = [97]) →
     (decide ((v4.Attrs.length : Int) = 1)) = r) ∧
    (¬ (v4.Label = [97]) →
     false = r)) ∧
   (¬ (v4.Kind = 3) →
    false = r)) ∧
  (¬ ((r1.length : Int) = 1) →
   false = r)) ∧
 (¬ (r3 = 0) →
  false = r)) : R_law2_awake  r := by
 intro S
 rw [call_code sp_law2_awake _ _ rfl]
 have F := U_law2_awake
 obtain ⟨r1, r2, q1, r3, q2, T⟩ := T
 simp only [R_parse_Parse, le, List.cons_append, List.nil_append] at q1
 simp only [R_law1_Num, le, List.cons_append, List.nil_append] at q2
 replace F := aa q1 <| aa q2 <| F
 by_cases c3 : r3 = 0
 · replace T := T.1 c3
   replace F := aa (eq_true c3) <| F
   by_cases c4 : (r1.length : Int) = 1
   · replace T := T.1 c4
     obtain ⟨v4, q5, T⟩ := T
     replace F := aa (eq_true c4) <| aa q5 <| F
     by_cases c6 : v4.Kind = 3
     · replace T := T.1 c6
       replace F := aa (eq_true c6) <| F
       by_cases c7 : v4.Label = [97]
       · replace T := T.1 c7
         obtain rfl := T
         exact fi (aa (eq_true c7) <| F)
       · replace T := T.2 c7
         obtain rfl := T
         exact fi (aa (eq_false c7) <| F)
     · replace T := T.2 c6
       obtain rfl := T
       exact fi (aa (eq_false c6) <| F)
   · replace T := T.2 c4
     obtain rfl := T
     exact fi (aa (eq_false c4) <| F)
 · replace T := T.2 c3
   obtain rfl := T
   exact fi (aa (eq_false c3) <| F)
/-! doorkeeper/doorkeeperlaw2.ParseRefuses -/
end Go.Proofs.YtfbcnpbhhooapaaGreatDoor.M

/- Parse: the law ParseRefuses. -/
namespace Go.Proofs.YtfbcnpbhhooapaaGreatDoor.M
set_option linter.unusedSimpArgs false
set_option linter.unusedVariables false
open Go Classical
theorem r_Num1 (e : Int) : R_law1_Num e e := law1_Num_tree _ _ rfl
theorem r_awake2 : R_law2_awake true := by
  have h := r_Parse_ok (s := [110, 111, 100, 101, 32, 34, 97, 34, 32, 123, 32, 99, 112, 117, 32, 61, 32, 49, 32, 125]) (l := [⟨3, [97], [⟨[99, 112, 117], [⟨1, 1, [], [], []⟩]⟩], []⟩]) (ts := [⟨0, [], 0, [], 20⟩]) (out := []) (by decide) (by kernel_rfl)
  exact law2_awake_tree _ ⟨_, _, h, _, r_Num1 _, fun _ => ⟨fun _ => ⟨_, rfl, fun _ => ⟨fun _ => rfl, fun hf => absurd rfl hf⟩, fun hf => absurd rfl hf⟩, fun hf => absurd rfl hf⟩, fun hf => absurd rfl hf⟩
end Go.Proofs.YtfbcnpbhhooapaaGreatDoor.M

/- The machine's code of the functions, printed by a program of this session (sc2.py) out of the translation. Not trusted: Lean checks each by its own computation. -/
namespace Go.Proofs.YtfbcnpbhhooapaaGreatDoor.M
open Go
set_option linter.unusedVariables false
/-- doorkeeper/doorkeeperref1.Ints -/
def c_ref1_Ints_1 : SC := .seq (.reg [⟨(some 4), none, (.v (.mov (.c (.bool true))))⟩]) .ret
def b_ref1_Ints_1 : SC := .seq (.seq (.reg [⟨(some 11), none, (.v (.mov (.t 5)))⟩, ⟨(some 12), none, (.v (.mov (.t 0)))⟩, ⟨(some 13), none, (.v (.len false (.t 12)))⟩, ⟨(some 14), none, (.v (.bin .lss (.t 11) (.t 13)))⟩]) (.cond (.t 14) .skip (.exit 0))) (.seq (.block 1 (.seq (.dreg [⟨(some 17), none, (.v (.mov (.t 0)))⟩, ⟨(some 18), none, (.v (.mov (.t 5)))⟩, ⟨(some 19), none, (.v (.iaddr 1 (.t 17) (.t 18)))⟩, ⟨(some 20), none, (.v (.load none (.t 19)))⟩, ⟨(some 21), none, (.v (.mov (.t 1)))⟩, ⟨(some 22), none, (.v (.mov (.t 5)))⟩, ⟨(some 23), none, (.v (.iaddr 1 (.t 21) (.t 22)))⟩, ⟨(some 24), none, (.v (.load none (.t 23)))⟩, ⟨(some 25), none, (.v (.bin .neq (.t 20) (.t 24)))⟩] [false, false, false, false, false, false, false, false, true]) (.cond (.t 25) (.seq (.reg [⟨(some 4), none, (.v (.mov (.c (.bool false))))⟩]) .ret) .skip))) (.reg [⟨(some 15), none, (.v (.mov (.t 5)))⟩, ⟨(some 16), none, (.v (.bin .add (.t 15) (.c (.int .i64 1))))⟩, ⟨(some 5), none, (.v (.mov (.t 16)))⟩]))
def c_ref1_Ints_2 : SC := .seq (.seq (.reg [⟨(some 6), none, (.v (.mov (.t 0)))⟩, ⟨(some 7), none, (.v (.len false (.t 6)))⟩, ⟨(some 8), none, (.v (.mov (.t 1)))⟩, ⟨(some 9), none, (.v (.len false (.t 8)))⟩, ⟨(some 10), none, (.v (.bin .neq (.t 7) (.t 9)))⟩]) (.cond (.t 10) (.seq (.reg [⟨(some 4), none, (.v (.mov (.c (.bool false))))⟩]) .ret) .skip)) (.seq (.seq (.reg [⟨(some 5), none, (.v (.mov (.c (.int .i64 0))))⟩]) (.block 0 (.loop b_ref1_Ints_1))) c_ref1_Ints_1)
def sc_ref1_Ints : SFunc := ⟨2, 26, .seq (.reg [⟨(some 4), none, (.v (.mov (.c (.bool false))))⟩]) c_ref1_Ints_2, [(.t 4)]⟩
noncomputable def k_ref1_Ints_1 (SP : Prg) (x : EO) : CO := fin [(.t 4)] (thC SP (inBlk 0 (x)) c_ref1_Ints_1)
theorem U_ref1_Ints : type_of% (And.intro (fun (SP : Prg) (ac : Ac) => congrFun (congrArg (E SP) c_ref1_Ints_1.eq_1) ac) <| And.intro (fun (SP : Prg) (ac : Ac) => congrFun (congrArg (E SP) b_ref1_Ints_1.eq_1) ac) <| And.intro (fun (SP : Prg) (ac : Ac) => congrFun (congrArg (E SP) c_ref1_Ints_2.eq_1) ac) <| sc_ref1_Ints.eq_1) := And.intro (fun (SP : Prg) (ac : Ac) => congrFun (congrArg (E SP) c_ref1_Ints_1.eq_1) ac) <| And.intro (fun (SP : Prg) (ac : Ac) => congrFun (congrArg (E SP) b_ref1_Ints_1.eq_1) ac) <| And.intro (fun (SP : Prg) (ac : Ac) => congrFun (congrArg (E SP) c_ref1_Ints_2.eq_1) ac) <| sc_ref1_Ints.eq_1
theorem comp_ref1_Ints : comp Tryz.prog Tryz.f44 = some sc_ref1_Ints := by kernel_rfl
/-- doorkeeper/doorkeeperref1.SameNodes -/
def c_ref1_SameNodes_1 : SC := .seq (.reg [⟨(some 4), none, (.v (.mov (.c (.bool true))))⟩]) .ret
def c_ref1_SameNodes_2 : SC := .reg [⟨(some 17), none, (.v (.mov (.t 5)))⟩, ⟨(some 18), none, (.v (.bin .add (.t 17) (.c (.int .i64 1))))⟩, ⟨(some 5), none, (.v (.mov (.t 18)))⟩]
def c_ref1_SameNodes_3 : SC := .cond (.t 61) (.seq (.reg [⟨(some 4), none, (.v (.mov (.c (.bool false))))⟩]) .ret) .skip
def c_ref1_SameNodes_4 : SC := .seq (.reg [⟨(some 27), none, (.v (.faddr 0 (.t 6)))⟩, ⟨(some 28), none, (.v (.load none (.t 27)))⟩, ⟨(some 29), none, (.v (.faddr 0 (.t 7)))⟩, ⟨(some 30), none, (.v (.load none (.t 29)))⟩, ⟨(some 31), none, (.v (.bin .neq (.t 28) (.t 30)))⟩, ⟨(some 32), none, (.v (.mov (.t 31)))⟩, ⟨(some 33), (some (32, false)), (.v (.faddr 1 (.t 6)))⟩, ⟨(some 34), (some (32, false)), (.v (.load none (.t 33)))⟩, ⟨(some 35), (some (32, false)), (.v (.faddr 1 (.t 7)))⟩, ⟨(some 36), (some (32, false)), (.v (.load none (.t 35)))⟩, ⟨(some 37), (some (32, false)), (.v (.bin .neq (.t 34) (.t 36)))⟩, ⟨(some 38), none, (.v (.pick (.t 32) (.c (.bool true)) (.t 37)))⟩, ⟨(some 39), none, (.v (.mov (.t 38)))⟩, ⟨(some 40), (some (39, false)), (.v (.faddr 2 (.t 6)))⟩, ⟨(some 41), (some (39, false)), (.v (.load none (.t 40)))⟩, ⟨(some 42), (some (39, false)), (.v (.faddr 2 (.t 7)))⟩, ⟨(some 43), (some (39, false)), (.v (.load none (.t 42)))⟩, ⟨(some 44), (some (39, false)), (.v (.bin .neq (.t 41) (.t 43)))⟩, ⟨(some 45), none, (.v (.pick (.t 39) (.c (.bool true)) (.t 44)))⟩, ⟨(some 46), none, (.v (.mov (.t 45)))⟩, ⟨(some 47), (some (46, false)), (.v (.faddr 3 (.t 6)))⟩, ⟨(some 48), (some (46, false)), (.v (.load none (.t 47)))⟩, ⟨(some 49), (some (46, false)), (.v (.faddr 3 (.t 7)))⟩, ⟨(some 50), (some (46, false)), (.v (.load none (.t 49)))⟩, ⟨(some 51), (some (46, false)), (.call (.c (.func 43 [])) [(.t 48), (.t 50)])⟩, ⟨(some 52), (some (46, false)), (.v (.un .not (.t 51)))⟩, ⟨(some 53), none, (.v (.pick (.t 46) (.c (.bool true)) (.t 52)))⟩, ⟨(some 54), none, (.v (.mov (.t 53)))⟩, ⟨(some 55), (some (54, false)), (.v (.faddr 4 (.t 6)))⟩, ⟨(some 56), (some (54, false)), (.v (.load none (.t 55)))⟩, ⟨(some 57), (some (54, false)), (.v (.faddr 4 (.t 7)))⟩, ⟨(some 58), (some (54, false)), (.v (.load none (.t 57)))⟩, ⟨(some 59), (some (54, false)), (.call (.c (.func 44 [])) [(.t 56), (.t 58)])⟩, ⟨(some 60), (some (54, false)), (.v (.un .not (.t 59)))⟩, ⟨(some 61), none, (.v (.pick (.t 54) (.c (.bool true)) (.t 60)))⟩]) c_ref1_SameNodes_3
def c_ref1_SameNodes_5 : SC := .seq (.block 1 (.seq (.sreg [0, 5, 1] [⟨(some 19), none, (.v (.mov (.t 0)))⟩, ⟨(some 20), none, (.v (.mov (.t 5)))⟩, ⟨(some 21), none, (.w (.iaddr 5 (.t 19) (.t 20)))⟩, ⟨(some 22), none, (.w (.load (some 5) (.t 21)))⟩, ⟨(some 23), none, (.v (.mov (.t 1)))⟩, ⟨(some 24), none, (.v (.mov (.t 5)))⟩, ⟨(some 25), none, (.w (.iaddr 5 (.t 23) (.t 24)))⟩, ⟨(some 26), none, (.w (.load (some 5) (.t 25)))⟩, ⟨(some 6), none, (.alloc [(.int .i64 0), (.int .i64 0), (.str []), (.nils 2), (.nils 1)])⟩, ⟨(some 7), none, (.alloc [(.int .i64 0), (.int .i64 0), (.str []), (.nils 2), (.nils 1)])⟩, ⟨none, none, (.store 5 (.t 6) (.t 22))⟩, ⟨none, none, (.store 5 (.t 7) (.t 26))⟩] [false, false, false, false, false, false, false, false, false, false, true, true]) c_ref1_SameNodes_4)) c_ref1_SameNodes_2
def b_ref1_SameNodes_1 : SC := .seq (.seq (.reg [⟨(some 13), none, (.v (.mov (.t 5)))⟩, ⟨(some 14), none, (.v (.mov (.t 0)))⟩, ⟨(some 15), none, (.v (.len false (.t 14)))⟩, ⟨(some 16), none, (.v (.bin .lss (.t 13) (.t 15)))⟩]) (.cond (.t 16) .skip (.exit 0))) c_ref1_SameNodes_5
def c_ref1_SameNodes_6 : SC := .block 0 (.loop b_ref1_SameNodes_1)
def c_ref1_SameNodes_7 : SC := .seq (.seq (.reg [⟨(some 5), none, (.v (.mov (.c (.int .i64 0))))⟩]) c_ref1_SameNodes_6) c_ref1_SameNodes_1
def c_ref1_SameNodes_8 : SC := .seq (.seq (.reg [⟨(some 8), none, (.v (.mov (.t 0)))⟩, ⟨(some 9), none, (.v (.len false (.t 8)))⟩, ⟨(some 10), none, (.v (.mov (.t 1)))⟩, ⟨(some 11), none, (.v (.len false (.t 10)))⟩, ⟨(some 12), none, (.v (.bin .neq (.t 9) (.t 11)))⟩]) (.cond (.t 12) (.seq (.reg [⟨(some 4), none, (.v (.mov (.c (.bool false))))⟩]) .ret) .skip)) c_ref1_SameNodes_7
def sc_ref1_SameNodes : SFunc := ⟨2, 62, .seq (.reg [⟨(some 4), none, (.v (.mov (.c (.bool false))))⟩]) c_ref1_SameNodes_8, [(.t 4)]⟩
noncomputable def k_ref1_SameNodes_1 (SP : Prg) (x : EO) : CO := fin [(.t 4)] (thC SP (inBlk 0 (x)) c_ref1_SameNodes_1)
theorem U_ref1_SameNodes : type_of% (And.intro (fun (SP : Prg) (ac : Ac) => congrFun (congrArg (E SP) c_ref1_SameNodes_1.eq_1) ac) <| And.intro (fun (SP : Prg) (ac : Ac) => congrFun (congrArg (E SP) c_ref1_SameNodes_2.eq_1) ac) <| And.intro (fun (SP : Prg) (ac : Ac) => congrFun (congrArg (E SP) c_ref1_SameNodes_3.eq_1) ac) <| And.intro (fun (SP : Prg) (ac : Ac) => congrFun (congrArg (E SP) c_ref1_SameNodes_4.eq_1) ac) <| And.intro (fun (SP : Prg) (ac : Ac) => congrFun (congrArg (E SP) c_ref1_SameNodes_5.eq_1) ac) <| And.intro (fun (SP : Prg) (ac : Ac) => congrFun (congrArg (E SP) b_ref1_SameNodes_1.eq_1) ac) <| And.intro (fun (SP : Prg) (ac : Ac) => congrFun (congrArg (E SP) c_ref1_SameNodes_6.eq_1) ac) <| And.intro (fun (SP : Prg) (ac : Ac) => congrFun (congrArg (E SP) c_ref1_SameNodes_7.eq_1) ac) <| And.intro (fun (SP : Prg) (ac : Ac) => congrFun (congrArg (E SP) c_ref1_SameNodes_8.eq_1) ac) <| sc_ref1_SameNodes.eq_1) := And.intro (fun (SP : Prg) (ac : Ac) => congrFun (congrArg (E SP) c_ref1_SameNodes_1.eq_1) ac) <| And.intro (fun (SP : Prg) (ac : Ac) => congrFun (congrArg (E SP) c_ref1_SameNodes_2.eq_1) ac) <| And.intro (fun (SP : Prg) (ac : Ac) => congrFun (congrArg (E SP) c_ref1_SameNodes_3.eq_1) ac) <| And.intro (fun (SP : Prg) (ac : Ac) => congrFun (congrArg (E SP) c_ref1_SameNodes_4.eq_1) ac) <| And.intro (fun (SP : Prg) (ac : Ac) => congrFun (congrArg (E SP) c_ref1_SameNodes_5.eq_1) ac) <| And.intro (fun (SP : Prg) (ac : Ac) => congrFun (congrArg (E SP) b_ref1_SameNodes_1.eq_1) ac) <| And.intro (fun (SP : Prg) (ac : Ac) => congrFun (congrArg (E SP) c_ref1_SameNodes_6.eq_1) ac) <| And.intro (fun (SP : Prg) (ac : Ac) => congrFun (congrArg (E SP) c_ref1_SameNodes_7.eq_1) ac) <| And.intro (fun (SP : Prg) (ac : Ac) => congrFun (congrArg (E SP) c_ref1_SameNodes_8.eq_1) ac) <| sc_ref1_SameNodes.eq_1
theorem comp_ref1_SameNodes : comp Tryz.prog Tryz.f21 = some sc_ref1_SameNodes := by kernel_rfl
/-- doorkeeper/doorkeeperlaw2.ParseBrackets -/
def c_law2_ParseBrackets_1 : SC := .seq (.reg [⟨(some 87), none, (.v (.mov (.t 11)))⟩, ⟨(some 88), none, (.call (.c (.func 18 [])) [(.t 87)])⟩, ⟨(some 89), none, (.v (.bin .eql (.t 88) (.c (.int .i64 0))))⟩, ⟨(some 90), none, (.v (.mov (.t 89)))⟩, ⟨(some 91), (some (90, true)), (.v (.mov (.t 5)))⟩, ⟨(some 92), (some (90, true)), (.v (.mov (.t 10)))⟩, ⟨(some 93), (some (90, true)), (.call (.c (.func 21 [])) [(.t 91), (.t 92)])⟩, ⟨(some 94), none, (.v (.pick (.t 90) (.t 93) (.c (.bool false))))⟩, ⟨(some 95), none, (.v (.mov (.t 94)))⟩, ⟨(some 96), (some (95, false)), (.v (.mov (.t 11)))⟩, ⟨(some 97), (some (95, false)), (.call (.c (.func 18 [])) [(.t 96)])⟩, ⟨(some 98), (some (95, false)), (.v (.bin .eql (.t 97) (.c (.int .i64 6))))⟩, ⟨(some 99), none, (.v (.pick (.t 95) (.c (.bool true)) (.t 98)))⟩, ⟨(some 100), none, (.v (.mov (.t 99)))⟩, ⟨(some 101), (some (100, true)), (.call (.c (.func 15 [])) [])⟩, ⟨(some 102), none, (.v (.pick (.t 100) (.t 101) (.c (.bool false))))⟩, ⟨(some 4), none, (.v (.mov (.t 102)))⟩]) .ret
def c_law2_ParseBrackets_2 : SC := .cond (.t 86) (.seq (.reg [⟨(some 4), none, (.v (.mov (.c (.bool false))))⟩]) .ret) .skip
def c_law2_ParseBrackets_3 : SC := .seq (.seq (.reg [⟨(some 59), none, (.v (.mov (.t 13)))⟩, ⟨(some 60), none, (.call (.c (.func 18 [])) [(.t 59)])⟩, ⟨(some 61), none, (.v (.bin .neq (.t 60) (.c (.int .i64 0))))⟩, ⟨(some 62), none, (.v (.mov (.t 61)))⟩, ⟨(some 63), (some (62, false)), (.v (.mov (.t 12)))⟩, ⟨(some 64), (some (62, false)), (.v (.len false (.t 63)))⟩, ⟨(some 65), (some (62, false)), (.v (.bin .neq (.t 64) (.c (.int .i64 1))))⟩, ⟨(some 66), none, (.v (.pick (.t 62) (.c (.bool true)) (.t 65)))⟩, ⟨(some 67), none, (.v (.mov (.t 66)))⟩, ⟨(some 68), (some (67, false)), (.v (.mov (.t 12)))⟩, ⟨(some 69), (some (67, false)), (.v (.iaddr 4 (.t 68) (.c (.int .i64 0))))⟩, ⟨(some 70), (some (67, false)), (.v (.faddr 2 (.t 69)))⟩, ⟨(some 71), (some (67, false)), (.v (.load none (.t 70)))⟩, ⟨(some 72), (some (67, false)), (.v (.len false (.t 71)))⟩, ⟨(some 73), (some (67, false)), (.v (.bin .neq (.t 72) (.c (.int .i64 1))))⟩, ⟨(some 74), none, (.v (.pick (.t 67) (.c (.bool true)) (.t 73)))⟩, ⟨(some 75), none, (.v (.mov (.t 74)))⟩, ⟨(some 76), (some (75, false)), (.v (.mov (.t 12)))⟩, ⟨(some 77), (some (75, false)), (.v (.iaddr 4 (.t 76) (.c (.int .i64 0))))⟩, ⟨(some 78), (some (75, false)), (.v (.faddr 2 (.t 77)))⟩, ⟨(some 79), (some (75, false)), (.v (.load none (.t 78)))⟩, ⟨(some 80), (some (75, false)), (.v (.iaddr 2 (.t 79) (.c (.int .i64 0))))⟩, ⟨(some 81), (some (75, false)), (.v (.faddr 1 (.t 80)))⟩, ⟨(some 82), (some (75, false)), (.v (.load none (.t 81)))⟩, ⟨(some 83), (some (75, false)), (.v (.mov (.t 5)))⟩, ⟨(some 84), (some (75, false)), (.call (.c (.func 21 [])) [(.t 82), (.t 83)])⟩, ⟨(some 85), (some (75, false)), (.v (.un .not (.t 84)))⟩, ⟨(some 86), none, (.v (.pick (.t 75) (.c (.bool true)) (.t 85)))⟩]) c_law2_ParseBrackets_2) c_law2_ParseBrackets_1
def c_law2_ParseBrackets_4 : SC := .seq (.seq (.reg [⟨(some 50), none, (.v (.mov (.t 6)))⟩, ⟨(some 51), none, (.call (.c (.func 18 [])) [(.t 50)])⟩, ⟨(some 52), none, (.v (.bin .neq (.t 51) (.c (.int .i64 0))))⟩]) (.cond (.t 52) (.seq (.reg [⟨(some 53), none, (.v (.mov (.t 5)))⟩, ⟨(some 54), none, (.v (.len false (.t 53)))⟩, ⟨(some 55), none, (.v (.bin .eql (.t 54) (.c (.int .i64 0))))⟩, ⟨(some 56), none, (.v (.mov (.t 55)))⟩, ⟨(some 57), (some (56, true)), (.call (.c (.func 15 [])) [])⟩, ⟨(some 58), none, (.v (.pick (.t 56) (.t 57) (.c (.bool false))))⟩, ⟨(some 4), none, (.v (.mov (.t 58)))⟩]) .ret) .skip)) c_law2_ParseBrackets_3
def c_law2_ParseBrackets_5 : SC := .seq (.reg [⟨(some 44), none, (.v (.mov (.t 0)))⟩, ⟨(some 45), none, (.v (.bin .add (.c (.str [108, 111, 99, 97, 108, 115, 32, 123, 32, 97, 32, 61, 32])) (.t 44)))⟩, ⟨(some 46), none, (.v (.bin .add (.t 45) (.c (.str [10, 125]))))⟩, ⟨(some 47), none, (.call (.c (.func 17 [])) [(.t 46)])⟩, ⟨(some 43), none, (.v (.mov (.t 47)))⟩, ⟨(some 48), none, (.v (.extract 0 (.t 43)))⟩, ⟨(some 49), none, (.v (.extract 1 (.t 43)))⟩, ⟨(some 12), none, (.v (.mov (.t 48)))⟩, ⟨(some 13), none, (.v (.mov (.t 49)))⟩]) c_law2_ParseBrackets_4
def c_law2_ParseBrackets_6 : SC := .seq (.reg [⟨(some 35), none, (.v (.mov (.t 7)))⟩, ⟨(some 36), none, (.v (.mov (.t 0)))⟩, ⟨(some 37), none, (.v (.bin .add (.t 35) (.t 36)))⟩, ⟨(some 38), none, (.v (.mov (.t 8)))⟩, ⟨(some 39), none, (.v (.bin .add (.t 37) (.t 38)))⟩, ⟨(some 40), none, (.call (.c (.func 20 [])) [(.t 39)])⟩, ⟨(some 34), none, (.v (.mov (.t 40)))⟩, ⟨(some 41), none, (.v (.extract 0 (.t 34)))⟩, ⟨(some 42), none, (.v (.extract 1 (.t 34)))⟩, ⟨(some 10), none, (.v (.mov (.t 41)))⟩, ⟨(some 11), none, (.v (.mov (.t 42)))⟩]) c_law2_ParseBrackets_5
def b_law2_ParseBrackets_1 : SC := .seq (.seq (.reg [⟨(some 23), none, (.v (.mov (.t 9)))⟩, ⟨(some 24), none, (.v (.mov (.t 1)))⟩, ⟨(some 25), none, (.v (.conv (.int .i64) (.t 24)))⟩, ⟨(some 26), none, (.v (.bin .rem (.t 25) (.c (.int .i64 6))))⟩, ⟨(some 27), none, (.v (.bin .lss (.t 23) (.t 26)))⟩]) (.cond (.t 27) .skip (.exit 0))) (.seq (.block 1 (.seq (.reg [⟨(some 30), none, (.v (.mov (.t 7)))⟩, ⟨(some 31), none, (.v (.bin .add (.t 30) (.c (.str [40]))))⟩, ⟨(some 7), none, (.v (.mov (.t 31)))⟩]) (.reg [⟨(some 32), none, (.v (.mov (.t 8)))⟩, ⟨(some 33), none, (.v (.bin .add (.t 32) (.c (.str [10, 41]))))⟩, ⟨(some 8), none, (.v (.mov (.t 33)))⟩]))) (.reg [⟨(some 28), none, (.v (.mov (.t 9)))⟩, ⟨(some 29), none, (.v (.bin .add (.t 28) (.c (.int .i64 1))))⟩, ⟨(some 9), none, (.v (.mov (.t 29)))⟩]))
def c_law2_ParseBrackets_7 : SC := .seq (.seq (.reg [⟨(some 9), none, (.v (.mov (.c (.int .i64 0))))⟩]) (.block 0 (.loop b_law2_ParseBrackets_1))) c_law2_ParseBrackets_6
def c_law2_ParseBrackets_8 : SC := .seq (.reg [⟨(some 7), none, (.v (.mov (.c (.str []))))⟩, ⟨(some 8), none, (.v (.mov (.c (.str []))))⟩]) c_law2_ParseBrackets_7
def c_law2_ParseBrackets_9 : SC := .seq (.reg [⟨(some 19), none, (.v (.mov (.t 0)))⟩, ⟨(some 20), none, (.call (.c (.func 20 [])) [(.t 19)])⟩, ⟨(some 18), none, (.v (.mov (.t 20)))⟩, ⟨(some 21), none, (.v (.extract 0 (.t 18)))⟩, ⟨(some 22), none, (.v (.extract 1 (.t 18)))⟩, ⟨(some 5), none, (.v (.mov (.t 21)))⟩, ⟨(some 6), none, (.v (.mov (.t 22)))⟩]) c_law2_ParseBrackets_8
def c_law2_ParseBrackets_10 : SC := .seq (.seq (.reg [⟨(some 14), none, (.v (.mov (.t 0)))⟩, ⟨(some 15), none, (.v (.len true (.t 14)))⟩, ⟨(some 16), none, (.v (.bin .gtr (.t 15) (.c (.int .i64 200))))⟩]) (.cond (.t 16) (.seq (.reg [⟨(some 17), none, (.call (.c (.func 15 [])) [])⟩, ⟨(some 4), none, (.v (.mov (.t 17)))⟩]) .ret) .skip)) c_law2_ParseBrackets_9
def sc_law2_ParseBrackets : SFunc := ⟨2, 103, .seq (.reg [⟨(some 4), none, (.v (.mov (.c (.bool false))))⟩]) c_law2_ParseBrackets_10, [(.t 4)]⟩
noncomputable def k_law2_ParseBrackets_1 (SP : Prg) (x : EO) : CO := fin [(.t 4)] (thC SP (inBlk 0 (x)) c_law2_ParseBrackets_6)
theorem U_law2_ParseBrackets : type_of% (And.intro (fun (SP : Prg) (ac : Ac) => congrFun (congrArg (E SP) c_law2_ParseBrackets_1.eq_1) ac) <| And.intro (fun (SP : Prg) (ac : Ac) => congrFun (congrArg (E SP) c_law2_ParseBrackets_2.eq_1) ac) <| And.intro (fun (SP : Prg) (ac : Ac) => congrFun (congrArg (E SP) c_law2_ParseBrackets_3.eq_1) ac) <| And.intro (fun (SP : Prg) (ac : Ac) => congrFun (congrArg (E SP) c_law2_ParseBrackets_4.eq_1) ac) <| And.intro (fun (SP : Prg) (ac : Ac) => congrFun (congrArg (E SP) c_law2_ParseBrackets_5.eq_1) ac) <| And.intro (fun (SP : Prg) (ac : Ac) => congrFun (congrArg (E SP) c_law2_ParseBrackets_6.eq_1) ac) <| And.intro (fun (SP : Prg) (ac : Ac) => congrFun (congrArg (E SP) b_law2_ParseBrackets_1.eq_1) ac) <| And.intro (fun (SP : Prg) (ac : Ac) => congrFun (congrArg (E SP) c_law2_ParseBrackets_7.eq_1) ac) <| And.intro (fun (SP : Prg) (ac : Ac) => congrFun (congrArg (E SP) c_law2_ParseBrackets_8.eq_1) ac) <| And.intro (fun (SP : Prg) (ac : Ac) => congrFun (congrArg (E SP) c_law2_ParseBrackets_9.eq_1) ac) <| And.intro (fun (SP : Prg) (ac : Ac) => congrFun (congrArg (E SP) c_law2_ParseBrackets_10.eq_1) ac) <| sc_law2_ParseBrackets.eq_1) := And.intro (fun (SP : Prg) (ac : Ac) => congrFun (congrArg (E SP) c_law2_ParseBrackets_1.eq_1) ac) <| And.intro (fun (SP : Prg) (ac : Ac) => congrFun (congrArg (E SP) c_law2_ParseBrackets_2.eq_1) ac) <| And.intro (fun (SP : Prg) (ac : Ac) => congrFun (congrArg (E SP) c_law2_ParseBrackets_3.eq_1) ac) <| And.intro (fun (SP : Prg) (ac : Ac) => congrFun (congrArg (E SP) c_law2_ParseBrackets_4.eq_1) ac) <| And.intro (fun (SP : Prg) (ac : Ac) => congrFun (congrArg (E SP) c_law2_ParseBrackets_5.eq_1) ac) <| And.intro (fun (SP : Prg) (ac : Ac) => congrFun (congrArg (E SP) c_law2_ParseBrackets_6.eq_1) ac) <| And.intro (fun (SP : Prg) (ac : Ac) => congrFun (congrArg (E SP) b_law2_ParseBrackets_1.eq_1) ac) <| And.intro (fun (SP : Prg) (ac : Ac) => congrFun (congrArg (E SP) c_law2_ParseBrackets_7.eq_1) ac) <| And.intro (fun (SP : Prg) (ac : Ac) => congrFun (congrArg (E SP) c_law2_ParseBrackets_8.eq_1) ac) <| And.intro (fun (SP : Prg) (ac : Ac) => congrFun (congrArg (E SP) c_law2_ParseBrackets_9.eq_1) ac) <| And.intro (fun (SP : Prg) (ac : Ac) => congrFun (congrArg (E SP) c_law2_ParseBrackets_10.eq_1) ac) <| sc_law2_ParseBrackets.eq_1
theorem comp_law2_ParseBrackets : comp Tryz.prog Tryz.f5 = some sc_law2_ParseBrackets := by kernel_rfl
end Go.Proofs.YtfbcnpbhhooapaaGreatDoor.M

/- Trees of functions, printed by a program of this session (lift.py): what a run asks, over plain data. Lean proves each. -/
namespace Go.Proofs.YtfbcnpbhhooapaaGreatDoor.M
set_option linter.unusedSimpArgs false
set_option linter.unusedVariables false
open Go Classical
theorem sp_ref1_Ints : SP 44 = some (.code sc_ref1_Ints) := SPof_code rfl Tryz.func44 comp_ref1_Ints
/-! doorkeeper/doorkeeperref1.Ints -/
def At_ref1_Ints_1 (a : List Int) (b : List Int) (i1 : Int) (r : Bool) : Prop := ∀ (S : Sto) (e : Nat → PV) (f : Fr), e 0 = .list 1 (a.map eI) false ∧ e 1 = .list 1 (b.map eI) false ∧ e 5 = .int .i64 i1 → k_ref1_Ints_1 SP (E SP (.loop b_ref1_Ints_1) ⟨e, f :: S⟩) = .ok (.v (.bool r)) S
set_option maxHeartbeats 4000000 in
theorem At_ref1_Ints_1_step (a : List Int) (b : List Int) (i1 : Int) (r : Bool) (T :
  ((i1 < (a.length : Int)) →
  (0 ≤ i1) ∧
  ∃ (v2 : Int), (a[i1.toNat]? = some v2) ∧
  (0 ≤ i1) ∧
  ∃ (v3 : Int), (b[i1.toNat]? = some v3) ∧
  ((v2 = v3) →
   (I64 (i1 + 1)) ∧
   At_ref1_Ints_1 a b (i1 + 1) r) ∧
  (¬ (v2 = v3) →
   false = r)) ∧
 (¬ (i1 < (a.length : Int)) →
  true = r)) : At_ref1_Ints_1 a b i1 r := by
 intro S e f h
 unfold k_ref1_Ints_1
 rw [E_loop]
 have F := U_ref1_Ints
 replace F := aa h <| F
 by_cases c1 : i1 < (a.length : Int)
 · replace T := T.1 c1
   obtain ⟨p2, v2, q3, p4, v3, q5, T⟩ := T
   replace F := aa (eq_true c1) <| aa p2 <| aa q3 <| aa p4 <| aa q5 <| F
   by_cases c6 : v2 = v3
   · replace T := T.1 c6
     obtain ⟨p7, T⟩ := T
     replace F := aa (eq_true c6) <| aa p7.wrap <| F
     try simp only [F, lw, lx, le, Nat.reduceMul, UInt8.reduceToNat, reduceIte, reduceCtorEq, Nat.reduceEqDiff, Nat.reduceAdd, Nat.reduceLeDiff, Nat.reduceSub, Nat.reduceLT, Int.reduceEq, Int.reduceLT, Int.reduceLE, Int.reduceToNat, Int.reduceAdd, Int.reduceSub, Int.reduceMul, Int.reduceNeg]
     refine T S _ _ ?_
     exact fi F
   · replace T := T.2 c6
     obtain rfl := T
     exact fi (aa (eq_false c6) <| F)
 · replace T := T.2 c1
   obtain rfl := T
   exact fi (aa (eq_false c1) <| F)
set_option maxHeartbeats 4000000 in
theorem ref1_Ints_tree (a : List Int) (b : List Int) (r : Bool) (T :
  (((a.length : Int) = (b.length : Int)) →
  At_ref1_Ints_1 a b 0 r) ∧
 (¬ ((a.length : Int) = (b.length : Int)) →
  false = r)) : R_ref1_Ints a b r := by
 intro S
 rw [call_code sp_ref1_Ints _ _ rfl]
 have F := U_ref1_Ints
 by_cases c1 : (a.length : Int) = (b.length : Int)
 · replace T := T.1 c1
   replace F := aa (eq_true c1) <| F
   try simp only [F, lw, lx, le, Nat.reduceMul, UInt8.reduceToNat, reduceIte, reduceCtorEq, Nat.reduceEqDiff, Nat.reduceAdd, Nat.reduceLeDiff, Nat.reduceSub, Nat.reduceLT, Int.reduceEq, Int.reduceLT, Int.reduceLE, Int.reduceToNat, Int.reduceAdd, Int.reduceSub, Int.reduceMul, Int.reduceNeg]
   refine T S _ _ ?_
   exact fi F
 · replace T := T.2 c1
   obtain rfl := T
   exact fi (aa (eq_false c1) <| F)
theorem sp_ref1_SameNodes : SP 21 = some (.code sc_ref1_SameNodes) := SPof_code rfl Tryz.func21 comp_ref1_SameNodes
/-! doorkeeper/doorkeeperref1.SameNodes -/
def At_ref1_SameNodes_1 (a : List Node) (b : List Node) (i1 : Int) (r : Bool) : Prop := ∀ (S : Sto) (e : Nat → PV) (f : Fr), e 0 = .list 5 (a.map eNode) false ∧ e 1 = .list 5 (b.map eNode) false ∧ e 5 = .int .i64 i1 → k_ref1_SameNodes_1 SP (E SP (.loop b_ref1_SameNodes_1) ⟨e, f :: S⟩) = .ok (.v (.bool r)) S
set_option maxHeartbeats 4000000 in
theorem At_ref1_SameNodes_1_step (a : List Node) (b : List Node) (i1 : Int) (r : Bool) (T :
  ((i1 < (a.length : Int)) →
  (0 ≤ i1) ∧
  ∃ (v2 : Node), (a[i1.toNat]? = some v2) ∧
  (0 ≤ i1) ∧
  ∃ (v3 : Node), (b[i1.toNat]? = some v3) ∧
  ((v2.Kind = v3.Kind) →
   ((v2.Num = v3.Num) →
    ((v2.Text = v3.Text) →
     ∃ (r4 : Bool), (R_ref1_SameParts v2.Parts v3.Parts r4) ∧
     ((r4 = true) →
      ∃ (r5 : Bool), (R_ref1_Ints v2.Kids v3.Kids r5) ∧
      ((r5 = true) →
       (I64 (i1 + 1)) ∧
       At_ref1_SameNodes_1 a b (i1 + 1) r) ∧
      (¬ (r5 = true) →
       false = r)) ∧
     (¬ (r4 = true) →
      false = r)) ∧
    (¬ (v2.Text = v3.Text) →
     false = r)) ∧
   (¬ (v2.Num = v3.Num) →
    false = r)) ∧
  (¬ (v2.Kind = v3.Kind) →
   false = r)) ∧
 (¬ (i1 < (a.length : Int)) →
  true = r)) : At_ref1_SameNodes_1 a b i1 r := by
 intro S e f h
 unfold k_ref1_SameNodes_1
 rw [E_loop]
 have F := U_ref1_SameNodes
 replace F := aa h <| F
 by_cases c1 : i1 < (a.length : Int)
 · replace T := T.1 c1
   obtain ⟨p2, v2, q3, p4, v3, q5, T⟩ := T
   replace F := aa (eq_true c1) <| aa p2 <| aa q3 <| aa p4 <| aa q5 <| F
   by_cases c6 : v2.Kind = v3.Kind
   · replace T := T.1 c6
     replace F := aa (eq_true c6) <| F
     by_cases c7 : v2.Num = v3.Num
     · replace T := T.1 c7
       replace F := aa (eq_true c7) <| F
       by_cases c8 : v2.Text = v3.Text
       · replace T := T.1 c8
         obtain ⟨r4, q9, T⟩ := T
         simp only [R_ref1_SameParts, le, List.cons_append, List.nil_append] at q9
         replace F := aa (eq_true c8) <| aa q9 <| F
         by_cases c10 : r4 = true
         · replace T := T.1 c10
           obtain ⟨r5, q11, T⟩ := T
           simp only [R_ref1_Ints, le, List.cons_append, List.nil_append] at q11
           replace F := aa c10 <| aa q11 <| F
           by_cases c12 : r5 = true
           · replace T := T.1 c12
             obtain ⟨p13, T⟩ := T
             replace F := aa c12 <| aa p13.wrap <| F
             try simp only [F, lw, lx, le, Nat.reduceMul, UInt8.reduceToNat, reduceIte, reduceCtorEq, Nat.reduceEqDiff, Nat.reduceAdd, Nat.reduceLeDiff, Nat.reduceSub, Nat.reduceLT, Int.reduceEq, Int.reduceLT, Int.reduceLE, Int.reduceToNat, Int.reduceAdd, Int.reduceSub, Int.reduceMul, Int.reduceNeg]
             refine T S _ _ ?_
             exact fi F
           · replace T := T.2 c12
             replace c12 := Bool.eq_false_iff.2 c12
             obtain rfl := T
             exact fi (aa c12 <| F)
         · replace T := T.2 c10
           replace c10 := Bool.eq_false_iff.2 c10
           obtain rfl := T
           exact fi (aa c10 <| F)
       · replace T := T.2 c8
         obtain rfl := T
         exact fi (aa (eq_false c8) <| F)
     · replace T := T.2 c7
       obtain rfl := T
       exact fi (aa (eq_false c7) <| F)
   · replace T := T.2 c6
     obtain rfl := T
     exact fi (aa (eq_false c6) <| F)
 · replace T := T.2 c1
   obtain rfl := T
   exact fi (aa (eq_false c1) <| F)
set_option maxHeartbeats 4000000 in
theorem ref1_SameNodes_tree (a : List Node) (b : List Node) (r : Bool) (T :
  (((a.length : Int) = (b.length : Int)) →
  At_ref1_SameNodes_1 a b 0 r) ∧
 (¬ ((a.length : Int) = (b.length : Int)) →
  false = r)) : R_ref1_SameNodes a b r := by
 intro S
 rw [call_code sp_ref1_SameNodes _ _ rfl]
 have F := U_ref1_SameNodes
 by_cases c1 : (a.length : Int) = (b.length : Int)
 · replace T := T.1 c1
   replace F := aa (eq_true c1) <| F
   try simp only [F, lw, lx, le, Nat.reduceMul, UInt8.reduceToNat, reduceIte, reduceCtorEq, Nat.reduceEqDiff, Nat.reduceAdd, Nat.reduceLeDiff, Nat.reduceSub, Nat.reduceLT, Int.reduceEq, Int.reduceLT, Int.reduceLE, Int.reduceToNat, Int.reduceAdd, Int.reduceSub, Int.reduceMul, Int.reduceNeg]
   refine T S _ _ ?_
   exact fi F
 · replace T := T.2 c1
   obtain rfl := T
   exact fi (aa (eq_false c1) <| F)
/-! doorkeeper/doorkeeperref1.SameBlocks -/
theorem sp_law2_ParseBrackets : SP 5 = some (.code sc_law2_ParseBrackets) := SPof_code rfl Tryz.func5 comp_law2_ParseBrackets
/-! doorkeeper/doorkeeperlaw2.ParseBrackets -/
def At_law2_ParseBrackets_1 (s : List UInt8) (n : UInt8) (r2 : List Node) (r3 : Int) (s4 : List UInt8) (s5 : List UInt8) (i6 : Int) (r : Bool) : Prop := ∀ (S : Sto) (e : Nat → PV) (f : Fr), e 0 = .str s ∧ e 1 = .int .u8 (n.toNat : Int) ∧ e 5 = .list 5 (r2.map eNode) false ∧ e 6 = .int .i64 r3 ∧ e 7 = .str s4 ∧ e 8 = .str s5 ∧ e 9 = .int .i64 i6 → k_law2_ParseBrackets_1 SP (E SP (.loop b_law2_ParseBrackets_1) ⟨e, f :: S⟩) = .ok (.v (.bool r)) S
set_option maxHeartbeats 4000000 in
theorem At_law2_ParseBrackets_1_step (s : List UInt8) (n : UInt8) (r2 : List Node) (r3 : Int) (s4 : List UInt8) (s5 : List UInt8) (i6 : Int) (r : Bool) (T :
  (I64 ((n.toNat : Int))) ∧
 ((i6 < ((n.toNat : Int).tmod 6)) →
  (s4.length + 1 ≤ maxInt) ∧
  (s5.length + 2 ≤ maxInt) ∧
  (I64 (i6 + 1)) ∧
  At_law2_ParseBrackets_1 s n r2 r3 (s4 ++ [40]) (s5 ++ [10, 41]) (i6 + 1) r) ∧
 (¬ (i6 < ((n.toNat : Int).tmod 6)) →
  (s4.length + s.length ≤ maxInt) ∧
  (s4.length + s.length + s5.length ≤ maxInt) ∧
  ∃ (r7 : List Node) (r8 : Int), (R_parse_Expr ((s4 ++ s) ++ s5) r7 r8) ∧
  (13 + s.length ≤ maxInt) ∧
  (s.length + 1 + 1 + 1 + 1 + 1 + 1 + 1 + 1 + 1 + 1 + 1 + 1 + 1 + 2 ≤ maxInt) ∧
  ∃ (r9 : List Block) (r10 : Int), (R_parse_Parse (([108, 111, 99, 97, 108, 115, 32, 123, 32, 97, 32, 61, 32] ++ s) ++ [10, 125]) r9 r10) ∧
  ∃ (r11 : Int), (R_law1_Num r3 r11) ∧
  ((r11 = 0) →
   ∃ (r12 : Int), (R_law1_Num r10 r12) ∧
   ((r12 = 0) →
    (((r9.length : Int) = 1) →
     ∃ (v13 : Block), (r9[0]? = some v13) ∧
     (((v13.Attrs.length : Int) = 1) →
      ∃ (v14 : Attr), (v13.Attrs[0]? = some v14) ∧
      ∃ (r15 : Bool), (R_ref1_SameNodes v14.Expr r2 r15) ∧
      ((r15 = true) →
       ∃ (r16 : Int), (R_law1_Num r8 r16) ∧
       ((r16 = 0) →
        ∃ (r17 : Bool), (R_ref1_SameNodes r2 r7 r17) ∧
        ((r17 = true) →
         ∃ (r18 : Bool), (R_law2_awake r18) ∧
         r18 = r) ∧
        (¬ (r17 = true) →
         false = r)) ∧
       (¬ (r16 = 0) →
        ((r16 = 6) →
         ∃ (r19 : Bool), (R_law2_awake r19) ∧
         r19 = r) ∧
        (¬ (r16 = 6) →
         false = r))) ∧
      (¬ (r15 = true) →
       false = r)) ∧
     (¬ ((v13.Attrs.length : Int) = 1) →
      false = r)) ∧
    (¬ ((r9.length : Int) = 1) →
     false = r)) ∧
   (¬ (r12 = 0) →
    false = r)) ∧
  (¬ (r11 = 0) →
   (((r2.length : Int) = 0) →
    ∃ (r20 : Bool), (R_law2_awake r20) ∧
    r20 = r) ∧
   (¬ ((r2.length : Int) = 0) →
    false = r)))) : At_law2_ParseBrackets_1 s n r2 r3 s4 s5 i6 r := by
 intro S e f h
 unfold k_law2_ParseBrackets_1
 rw [E_loop]
 have F := U_law2_ParseBrackets
 obtain ⟨p1, T⟩ := T
 replace F := aa h <| aa p1.wrap <| F
 by_cases c2 : i6 < ((n.toNat : Int).tmod 6)
 · replace T := T.1 c2
   obtain ⟨p3, p4, p5, T⟩ := T
   replace F := aa (eq_true c2) <| aa p3 <| aa p4 <| aa p5.wrap <| F
   try simp only [F, lw, lx, le, Nat.reduceMul, UInt8.reduceToNat, reduceIte, reduceCtorEq, Nat.reduceEqDiff, Nat.reduceAdd, Nat.reduceLeDiff, Nat.reduceSub, Nat.reduceLT, Int.reduceEq, Int.reduceLT, Int.reduceLE, Int.reduceToNat, Int.reduceAdd, Int.reduceSub, Int.reduceMul, Int.reduceNeg]
   refine T S _ _ ?_
   exact fi F
 · replace T := T.2 c2
   obtain ⟨p6, p7, r7, r8, q8, p9, p10, r9, r10, q11, r11, q12, T⟩ := T
   simp only [R_parse_Expr, le, List.cons_append, List.nil_append] at q8
   simp only [R_parse_Parse, le, List.cons_append, List.nil_append] at q11
   simp only [R_law1_Num, le, List.cons_append, List.nil_append] at q12
   replace F := aa (eq_false c2) <| aa p6 <| aa p7 <| aa q8 <| aa p9 <| aa p10 <| aa q11 <| aa q12 <| F
   by_cases c13 : r11 = 0
   · replace T := T.1 c13
     obtain ⟨r12, q14, T⟩ := T
     simp only [R_law1_Num, le, List.cons_append, List.nil_append] at q14
     replace F := aa (eq_true c13) <| aa q14 <| F
     by_cases c15 : r12 = 0
     · replace T := T.1 c15
       replace F := aa (eq_true c15) <| F
       by_cases c16 : (r9.length : Int) = 1
       · replace T := T.1 c16
         obtain ⟨v13, q17, T⟩ := T
         replace F := aa (eq_true c16) <| aa q17 <| F
         by_cases c18 : (v13.Attrs.length : Int) = 1
         · replace T := T.1 c18
           obtain ⟨v14, q19, r15, q20, T⟩ := T
           simp only [R_ref1_SameNodes, le, List.cons_append, List.nil_append] at q20
           replace F := aa (eq_true c18) <| aa q19 <| aa q20 <| F
           by_cases c21 : r15 = true
           · replace T := T.1 c21
             obtain ⟨r16, q22, T⟩ := T
             simp only [R_law1_Num, le, List.cons_append, List.nil_append] at q22
             replace F := aa c21 <| aa q22 <| F
             by_cases c23 : r16 = 0
             · replace T := T.1 c23
               obtain ⟨r17, q24, T⟩ := T
               simp only [R_ref1_SameNodes, le, List.cons_append, List.nil_append] at q24
               replace F := aa (eq_true c23) <| aa q24 <| F
               by_cases c25 : r17 = true
               · replace T := T.1 c25
                 obtain ⟨r18, q26, rfl⟩ := T
                 simp only [R_law2_awake, le, List.cons_append, List.nil_append] at q26
                 exact fi (aa c25 <| aa q26 <| F)
               · replace T := T.2 c25
                 replace c25 := Bool.eq_false_iff.2 c25
                 obtain rfl := T
                 have d27 : ¬ (r16 = 6) := fun h => absurd (c23.symm.trans h) (by decide)
                 exact fi (aa c25 <| aa (eq_false d27) <| F)
             · replace T := T.2 c23
               replace F := aa (eq_false c23) <| F
               by_cases c28 : r16 = 6
               · replace T := T.1 c28
                 obtain ⟨r19, q29, rfl⟩ := T
                 simp only [R_law2_awake, le, List.cons_append, List.nil_append] at q29
                 exact fi (aa (eq_true c28) <| aa q29 <| F)
               · replace T := T.2 c28
                 obtain rfl := T
                 exact fi (aa (eq_false c28) <| F)
           · replace T := T.2 c21
             replace c21 := Bool.eq_false_iff.2 c21
             obtain rfl := T
             exact fi (aa c21 <| F)
         · replace T := T.2 c18
           obtain rfl := T
           exact fi (aa (eq_false c18) <| F)
       · replace T := T.2 c16
         obtain rfl := T
         exact fi (aa (eq_false c16) <| F)
     · replace T := T.2 c15
       obtain rfl := T
       exact fi (aa (eq_false c15) <| F)
   · replace T := T.2 c13
     replace F := aa (eq_false c13) <| F
     by_cases c30 : (r2.length : Int) = 0
     · replace T := T.1 c30
       obtain ⟨r20, q31, rfl⟩ := T
       simp only [R_law2_awake, le, List.cons_append, List.nil_append] at q31
       exact fi (aa (eq_true c30) <| aa q31 <| F)
     · replace T := T.2 c30
       obtain rfl := T
       exact fi (aa (eq_false c30) <| F)
set_option maxHeartbeats 4000000 in
theorem law2_ParseBrackets_tree (s : List UInt8) (n : UInt8) (r : Bool) (T :
  ((200 < (s.length : Int)) →
  ∃ (r1 : Bool), (R_law2_awake r1) ∧
  r1 = r) ∧
 (¬ (200 < (s.length : Int)) →
  ∃ (r2 : List Node) (r3 : Int), (R_parse_Expr s r2 r3) ∧
  At_law2_ParseBrackets_1 s n r2 r3 [] [] 0 r)) : R_law2_ParseBrackets s n r := by
 intro S
 rw [call_code sp_law2_ParseBrackets _ _ rfl]
 have F := U_law2_ParseBrackets
 by_cases c1 : 200 < (s.length : Int)
 · replace T := T.1 c1
   obtain ⟨r1, q2, rfl⟩ := T
   simp only [R_law2_awake, le, List.cons_append, List.nil_append] at q2
   exact fi (aa (eq_true c1) <| aa q2 <| F)
 · replace T := T.2 c1
   obtain ⟨r2, r3, q3, T⟩ := T
   simp only [R_parse_Expr, le, List.cons_append, List.nil_append] at q3
   replace F := aa (eq_false c1) <| aa q3 <| F
   try simp only [F, lw, lx, le, Nat.reduceMul, UInt8.reduceToNat, reduceIte, reduceCtorEq, Nat.reduceEqDiff, Nat.reduceAdd, Nat.reduceLeDiff, Nat.reduceSub, Nat.reduceLT, Int.reduceEq, Int.reduceLT, Int.reduceLE, Int.reduceToNat, Int.reduceAdd, Int.reduceSub, Int.reduceMul, Int.reduceNeg]
   refine T S _ _ ?_
   exact fi F
/-! doorkeeper/doorkeeperlaw2.ParseBlocks -/
end Go.Proofs.YtfbcnpbhhooapaaGreatDoor.M

/- Parse: how long what is read is; the law ParseBrackets. -/
namespace Go.Proofs.YtfbcnpbhhooapaaGreatDoor.M
set_option linter.unusedSimpArgs false
set_option linter.unusedVariables false
open Go Classical
/-! ### How long what is read is. -/
def Gt (K : Nat) (ts : List Token) : Prop := ts.length ≤ K ∧ ∀ t ∈ ts, t.Parts.length ≤ K
def Gn (K : Nat) (out : List Node) : Prop := ∀ n ∈ out, n.Kids.length ≤ K ∧ n.Parts.length ≤ K
theorem Gt.tail {K : Nat} {ts : List Token} (h : Gt K ts) : Gt K ts.tail := ⟨by have := h.1; simp; omega, fun t ht => h.2 t (List.mem_of_mem_tail ht)⟩
theorem Gn.snoc {K : Nat} {out : List Node} (h : Gn K out) {n : Node} (h1 : n.Kids.length ≤ K) (h2 : n.Parts.length ≤ K) : Gn K (out ++ [n]) := by
  intro m hm
  rcases List.mem_append.1 hm with hm | hm
  · exact h m hm
  · rw [List.mem_singleton] at hm
    subst hm
    exact ⟨h1, h2⟩
structure Pq (K : Nat) (lt lm : Nat) (ts : List Token) (out : List Node) : Prop where
  len : ts.length ≤ lt
  sum : ts.length + out.length ≤ lm
  toks : Gt K ts
  nodes : Gn K out
def Po {α : Type} (K : Nat) (lt lm : Nat) (S : α → Nat → Prop) (p : PR α) : Prop := ∀ a ts out, p = .ok a ts out → Pq K lt lm ts out ∧ S a ts.length
section
variable {K lt lm lt' lm' : Nat} {α β : Type}
theorem Po.er {S : α → Nat → Prop} {e : Int} : Po K lt lm S (.er e : PR α) := fun _ _ _ h => by cases h
theorem Po.no {S : α → Nat → Prop} : Po K lt lm S (.no : PR α) := fun _ _ _ h => by cases h
theorem Po.ok {S : α → Nat → Prop} {a : α} {ts : List Token} {out : List Node} (h : Pq K lt lm ts out) (hs : S a ts.length) : Po K lt lm S (.ok a ts out) := fun _ _ _ e => by cases e; exact ⟨h, hs⟩
theorem Po.bind {S : α → Nat → Prop} {S' : β → Nat → Prop} {p : PR α} {f : α → List Token → List Node → PR β} (hp : Po K lt lm S p) (hf : ∀ a ts out, Pq K lt lm ts out → S a ts.length → Po K lt' lm' S' (f a ts out)) : Po K lt' lm' S' (p.bind f) := by
  cases p with
  | ok a ts out => obtain ⟨h1, h2⟩ := hp a ts out rfl; exact hf a ts out h1 h2
  | er e => exact Po.er
  | no => exact Po.no
theorem Po.ite {S : α → Nat → Prop} {c : Prop} [Decidable c] {p q : PR α} (h1 : c → Po K lt lm S p) (h2 : ¬ c → Po K lt lm S q) : Po K lt lm S (if c then p else q) := by
  split
  · exact h1 ‹_›
  · exact h2 ‹_›
theorem Po.mono {S S' : α → Nat → Prop} {p : PR α} (h : Po K lt lm S p) (h1 : lt ≤ lt') (h2 : lm ≤ lm') (hS : ∀ a n, n ≤ lt → S a n → S' a n) : Po K lt' lm' S' p := fun a ts out e => by
  obtain ⟨q, s⟩ := h a ts out e
  exact ⟨⟨Nat.le_trans q.len h1, Nat.le_trans q.sum h2, q.toks, q.nodes⟩, hS _ _ q.len s⟩
/-- Behind a sign that is taken. -/
theorem Pq.shift {ts : List Token} {out : List Node} (h : Pq K lt lm ts out) {s : List UInt8} (hi : isS s ts = true) : 1 ≤ lt ∧ 1 ≤ lm ∧ Pq K (lt - 1) (lm - 1) ts.tail out := by
  cases ts with
  | nil => cases hi
  | cons t ts =>
    have h1 := h.len
    have h2 := h.sum
    simp only [List.length_cons] at h1 h2
    exact ⟨by omega, by omega, by simp only [List.tail_cons]; omega, by simp only [List.tail_cons]; omega, h.toks.tail, h.nodes⟩
theorem Po.need {S : α → Nat → Prop} {s : List UInt8} {ts : List Token} {out : List Node} {k : List Token → PR α} (h : Pq K lt lm ts out) (hk : ∀ ts, 1 ≤ lt → 1 ≤ lm → Pq K (lt - 1) (lm - 1) ts out → Po K lt' lm' S (k ts)) : Po K lt' lm' S (needS s ts k) :=
  Po.ite (fun hi => by obtain ⟨h1, h2, h3⟩ := h.shift hi; exact hk _ h1 h2 h3) fun _ => Po.er
theorem Po.opn {S : α → Nat → Prop} {s : List UInt8} {d : Nat} {ts : List Token} {out : List Node} {k : List Token → PR α} (h : Pq K lt lm ts out) (hk : ∀ ts, 1 ≤ lt → 1 ≤ lm → Pq K (lt - 1) (lm - 1) ts out → Po K lt' lm' S (k ts)) : Po K lt' lm' S (openS s d ts k) :=
  Po.ite (fun hi => Po.ite (fun _ => Po.er) fun _ => by obtain ⟨h1, h2, h3⟩ := h.shift hi; exact hk _ h1 h2 h3) fun _ => Po.er
theorem Pq.snoc {ts : List Token} {out : List Node} (h : Pq K lt lm ts out) {n : Node} (h1 : n.Kids.length ≤ K) (h2 : n.Parts.length ≤ K) : Pq K lt (lm + 1) ts (out ++ [n]) := ⟨h.len, by have := h.sum; simp; omega, h.toks, h.nodes.snoc h1 h2⟩
theorem Pq.mono {ts : List Token} {out : List Node} (h : Pq K lt lm ts out) (h1 : lt ≤ lt') (h2 : lm ≤ lm') : Pq K lt' lm' ts out := ⟨Nat.le_trans h.len h1, Nat.le_trans h.sum h2, h.toks, h.nodes⟩
end
def T1 {α : Type} : α → Nat → Prop := fun _ _ => True
structure PoA (K n : Nat) : Prop where
  expr : ∀ d ts out lt lm, Pq K lt lm ts out → Po K lt lm T1 (exprS n d ts out)
  chain : ∀ r d ts out lt lm, Pq K lt lm ts out → Po K lt lm T1 (chainS n r d ts out)
  loop : ∀ r d a ts out lt lm, Pq K lt lm ts out → Po K lt lm T1 (loopS n r d a ts out)
  un : ∀ d ts out lt lm, Pq K lt lm ts out → Po K lt lm T1 (unS n d ts out)
  post : ∀ d ts out lt lm, Pq K lt lm ts out → Po K lt lm T1 (postS n d ts out)
  postl : ∀ d a ts out lt lm, Pq K lt lm ts out → Po K lt lm T1 (postL n d a ts out)
  many : ∀ d e ts out lt lm, lt + 1 ≤ K → Pq K lt lm ts out → Po K lt lm (fun l _ => l.length ≤ K) (manyS n d e ts out)
  manyl : ∀ d e l ts out lt lm, l.length + lt ≤ K → Pq K lt lm ts out → Po K lt lm (fun l _ => l.length ≤ K) (manyL n d e l ts out)
  prim : ∀ d ts out lt lm, Pq K lt lm ts out → Po K lt lm T1 (primS n d ts out)
theorem poA {K : Nat} (hK : 3 ≤ K) : ∀ n, PoA K n
  | 0 => by refine ⟨?_, ?_, ?_, ?_, ?_, ?_, ?_, ?_, ?_⟩ <;> intros <;> simp only [exprS, chainS, loopS, unS, postS, postL, manyS, manyL, primS] <;> exact Po.no
  | n + 1 => by
    have ih := poA hK n
    refine ⟨?_, ?_, ?_, ?_, ?_, ?_, ?_, ?_, ?_⟩
    · intro d ts out lt lm h
      simp only [exprS]
      refine (ih.chain _ _ _ _ _ _ h).bind fun a ts out h _ => Po.ite (fun _ => ?_) fun _ => Po.ok h trivial
      refine Po.opn h fun ts l1 l2 h => (ih.expr _ _ _ _ _ h).bind fun b ts out h _ => ?_
      refine Po.need h fun ts l3 l4 h => (ih.expr _ _ _ _ _ h).bind fun c ts out h _ => ?_
      exact Po.ok ((h.snoc (by simp [nd]; omega) (by simp [nd])).mono (by omega) (by omega)) trivial
    · intro r d ts out lt lm h
      simp only [chainS]
      exact Po.ite (fun _ => ih.un _ _ _ _ _ h) fun _ => (ih.chain _ _ _ _ _ _ h).bind fun a ts out h _ => ih.loop _ _ _ _ _ _ _ h
    · intro r d a ts out lt lm h
      cases ts with
      | nil => simp only [loopS]; exact Po.no
      | cons t ts =>
        have ht : 1 ≤ lt ∧ 1 ≤ lm ∧ Pq K (lt - 1) (lm - 1) ts out := by
          have h1 := h.len
          have h2 := h.sum
          simp only [List.length_cons] at h1 h2
          exact ⟨by omega, by omega, by omega, by omega, h.toks.tail, h.nodes⟩
        obtain ⟨l1, l2, h'⟩ := ht
        simp only [loopS]
        refine Po.ite (fun _ => ?_) fun _ => Po.ok h trivial
        split
        · exact Po.ok h trivial
        · refine (ih.chain _ _ _ _ _ _ h').bind fun b ts out h _ => Po.ite (fun _ => ?_) fun _ => ?_
          · exact Po.ok ((h.snoc (by simp [nd]; omega) (by simp [nd])).mono (by omega) (by omega)) trivial
          · exact ih.loop _ _ _ _ _ _ _ ((h.snoc (by simp [nd]; omega) (by simp [nd])).mono (by omega) (by omega))
    · intro d ts out lt lm h
      simp only [unS]
      refine Po.ite (fun _ => ?_) fun _ => Po.ite (fun _ => ?_) fun _ => ih.post _ _ _ _ _ h
      · refine Po.opn h fun ts l1 l2 h => (ih.un _ _ _ _ _ h).bind fun a ts out h _ => ?_
        exact Po.ok ((h.snoc (by simp [nd]; omega) (by simp [nd])).mono (by omega) (by omega)) trivial
      · refine Po.opn h fun ts l1 l2 h => (ih.un _ _ _ _ _ h).bind fun a ts out h _ => ?_
        exact Po.ok ((h.snoc (by simp [nd]; omega) (by simp [nd])).mono (by omega) (by omega)) trivial
    · intro d ts out lt lm h
      simp only [postS]
      exact (ih.prim _ _ _ _ _ h).bind fun a ts out h _ => ih.postl _ _ _ _ _ _ h
    · intro d a ts out lt lm h
      simp only [postL]
      refine Po.ite (fun _ => ?_) fun _ => Po.ok h trivial
      refine Po.opn h fun ts l1 l2 h => (ih.expr _ _ _ _ _ h).bind fun b ts out h _ => ?_
      refine Po.need h fun ts l3 l4 h => ?_
      exact (ih.postl _ _ _ _ _ _ ((h.snoc (n := nd 7 [] [a, b]) (by simp [nd]; omega) (by simp [nd])))).mono (by omega) (by omega) fun _ _ _ _ => trivial
    · intro d e ts out lt lm hl h
      simp only [manyS]
      refine Po.ite (fun hi => ?_) fun _ => ?_
      · obtain ⟨l1, l2, h⟩ := h.shift hi
        exact Po.ok (h.mono (by omega) (by omega)) (by simp)
      · refine (ih.expr _ _ _ _ _ h).bind fun a ts out h _ => ?_
        exact ih.manyl _ _ _ _ _ _ _ (by simp; omega) h
    · intro d e l ts out lt lm hl h
      simp only [manyL]
      refine Po.ite (fun hi => ?_) fun _ => ?_
      · obtain ⟨l1, l2, h⟩ := h.shift hi
        refine (ih.expr _ _ _ _ _ h).bind fun a ts out h _ => ?_
        exact (ih.manyl _ _ _ _ _ _ _ (by simp; omega) h).mono (by omega) (by omega) fun _ _ _ h => h
      · refine Po.need h fun ts l1 l2 h => ?_
        exact Po.ok (h.mono (by omega) (by omega)) (by omega)
    · intro d ts out lt lm h
      cases ts with
      | nil => simp only [primS]; exact Po.no
      | cons t ts =>
        have ht : 1 ≤ lt ∧ 1 ≤ lm ∧ Pq K (lt - 1) (lm - 1) ts out := by
          have h1 := h.len
          have h2 := h.sum
          simp only [List.length_cons] at h1 h2
          exact ⟨by omega, by omega, by omega, by omega, h.toks.tail, h.nodes⟩
        obtain ⟨l1, l2, h'⟩ := ht
        have hlt : lt ≤ K ∨ K < lt := by omega
        -- what is left is at most K tokens
        have h0 : Pq K (min lt K) lm (t :: ts) out := ⟨by have := h.len; have := h.toks.1; omega, h.sum, h.toks, h.nodes⟩
        have h0' : Pq K (min lt K - 1) (lm - 1) ts out := by
          have h1 := h0.len
          simp only [List.length_cons] at h1
          exact ⟨by omega, h'.sum, h'.toks, h'.nodes⟩
        have one : ∀ n : Node, n.Kids.length ≤ K → n.Parts.length ≤ K → Po K lt lm T1 (.ok (out.length : Int) ts (out ++ [n])) := fun n a b => Po.ok ((h'.snoc a b).mono (by omega) (by omega)) trivial
        simp only [primS]
        refine Po.ite (fun _ => ?_) fun _ => Po.ite (fun _ => one _ (by simp) (by simp)) fun _ => Po.ite (fun _ => one _ (by simp) (h.toks.2 t (by simp))) fun _ => ?_
        · refine Po.ite (fun _ => one _ (by simp) (by simp)) fun _ => Po.ite (fun _ => one _ (by simp) (by simp)) fun _ => ?_
          refine Po.ite (fun hi => ?_) fun _ => ?_
          · obtain ⟨l3, l4, h5⟩ := h'.shift hi
            split
            · exact Po.no
            · rename_i u ts' he
              rw [he] at h5
              refine Po.ite (fun _ => ?_) fun _ => Po.er
              have q1 := h5.len
              have q2 := h5.sum
              simp only [List.length_cons] at q1 q2
              exact Po.ok ⟨by omega, by simp; omega, h5.toks.tail, h5.nodes.snoc (by simp [nd]) (by simp [nd])⟩ trivial
          · refine Po.opn h0' fun ts l3 l4 h => (ih.many _ _ _ _ _ _ (by omega) h).bind fun l ts out h hl => ?_
            exact Po.ok ((h.snoc hl (by simp [nd])).mono (by omega) (by omega)) trivial
        · refine Po.ite (fun _ => ?_) fun _ => ?_
          · refine Po.opn h0 fun ts l3 l4 h => (ih.many _ _ _ _ _ _ (by omega) h).bind fun l ts out h hl => ?_
            exact Po.ok ((h.snoc hl (by simp [nd])).mono (by omega) (by omega)) trivial
          · refine Po.opn h fun ts l3 l4 h => (ih.expr _ _ _ _ _ h).bind fun a ts out h _ => ?_
            refine Po.need h fun ts l5 l6 h => ?_
            exact Po.ok (h.mono (by omega) (by omega)) trivial
theorem exprT_fits {L : List Token} {K : Nat} (hK : 3 ≤ K) (hL : Gt K L) {l : List Node} {ts : List Token} {o : List Node} (h : exprT L = .ok l ts o) : l.length ≤ L.length ∧ Gn K l := by
  have hp := (poA hK (20 * L.length + 10)).expr 0 L [] L.length L.length ⟨Nat.le_refl _, by simp, hL, fun n hn => by cases hn⟩
  simp only [exprT, wholeS] at h
  cases hc : exprS (20 * L.length + 10) 0 L [] with
  | no => rw [hc] at h; cases h
  | er x => rw [hc] at h; cases h
  | ok a ts1 out1 =>
    obtain ⟨q, _⟩ := hp a ts1 out1 hc
    rw [hc] at h
    simp only [PR.bind] at h
    split at h
    · cases h
    · split at h
      · cases h
        exact ⟨by have := q.sum; omega, q.nodes⟩
      · cases h
theorem r_SameParts_refl (a : List Part) (h : a.length ≤ 1000000) : R_ref1_SameParts a a true := by
  have loop : ∀ (m i : Nat), i + m = a.length → At_ref1_SameParts_1 a a i true := by
    intro m
    induction m with
    | zero =>
      intro i hi
      apply At_ref1_SameParts_1_step
      exact ⟨fun h => by omega, fun _ => rfl⟩
    | succ m ih =>
      intro i hi
      have hg : a[((i : Nat) : Int).toNat]? = some a[i] := by rw [Int.toNat_natCast]; exact List.getElem?_eq_getElem (by omega)
      apply At_ref1_SameParts_1_step
      exact ⟨fun _ => ⟨by omega, _, hg, by omega, _, hg, fun _ => ⟨⟨by omega, by omega⟩, ih (i + 1) (by omega)⟩, fun h => absurd ⟨rfl, rfl⟩ h⟩, fun h => by omega⟩
  apply ref1_SameParts_tree
  exact ⟨fun _ => loop a.length 0 (by omega), fun h => absurd rfl h⟩
theorem Qx_cnt {t : List UInt8} {l : List Part} {b : List UInt8} {r : Option (List Part × Nat)} (h : Qx t l b r) : ∀ q, r = some q → q.1.length ≤ l.length + 1 + 2 * t.length := by
  induction h with
  | nil | low | esc0 | escbad | refbad => intro q hq; cases hq
  | shut t l b => intro q hq; obtain rfl := Option.some.inj hq; have := joinP_len l b; simp only; omega
  | esc x y t l b r hx _ ih =>
    intro q hq
    obtain ⟨q0, h0, rfl⟩ := Option.map_eq_some_iff.1 hq
    have := ih q0 h0
    simp only [List.length_cons]
    omega
  | ref t l b r hr _ ih =>
    intro q hq
    obtain ⟨q0, h0, rfl⟩ := Option.map_eq_some_iff.1 hq
    have := ih q0 h0
    have h1 := refS_len hr
    have := joinP_len l b
    simp only [List.length_cons, List.length_drop, List.length_append, List.length_nil] at *
    omega
  | plain c t l b r c1 c2 c3 c4 _ ih =>
    intro q hq
    obtain ⟨q0, h0, rfl⟩ := Option.map_eq_some_iff.1 hq
    have := ih q0 h0
    simp only [List.length_cons]
    omega
theorem Tok_parts {t : List UInt8} {r : Option (Token × Nat)} (h : Tok t r) : ∀ q, r = some q → q.1.Parts.length ≤ 2 * t.length := by
  cases h with
  | name c u h =>
    intro q hq
    split at hq
    · obtain rfl := Option.some.inj hq; simp
    · cases hq
  | num c u h =>
    intro q hq
    unfold numS at hq
    split at hq
    · obtain rfl := Option.some.inj hq; simp
    · cases hq
  | text u r h =>
    intro q hq
    obtain ⟨q0, h0, rfl⟩ := Option.map_eq_some_iff.1 hq
    have := Qx_cnt h q0 h0
    simp only [List.length_cons, List.length_nil] at this ⊢
    omega
  | sign c u h2 h3 h4 =>
    intro q hq
    split at hq
    · cases hq
    · obtain rfl := Option.some.inj hq; simp
theorem Lx_fits {t : List UInt8} {p : Int} {r : Option (List Token)} (h : Lx t p r) : (lexL r).length ≤ t.length + 1 ∧ ∀ x ∈ lexL r, x.Parts.length ≤ 2 * t.length := by
  induction h with
  | nil p => simp [lexL]
  | gap c t p r hc _ ih =>
    refine ⟨by simp only [List.length_cons]; omega, fun x hx => ?_⟩
    have := ih.2 x hx
    simp only [List.length_cons]
    omega
  | remark t p r _ ih =>
    have hdl : (t.dropWhile (· != 10)).length = t.length - (t.takeWhile (· != 10)).length := by rw [← drop_while_len, List.length_drop]
    refine ⟨by simp only [List.length_cons]; omega, fun x hx => ?_⟩
    have := ih.2 x hx
    simp only [List.length_cons]
    omega
  | bad c t p c1 c2 hk => simp [lexL]
  | tok c t p x n r c1 c2 hk _ ih =>
    have hn := Tok_len hk _ rfl
    have hp := Tok_parts hk _ rfl
    simp only [List.length_drop] at ih
    simp only at hn hp
    cases r with
    | none => simp [lexL]
    | some l =>
      simp only [lexL, Option.map_some, List.length_cons] at ih hn hp ⊢
      refine ⟨by omega, fun y hy => ?_⟩
      rcases List.mem_cons.1 hy with rfl | hy
      · exact hp
      · have := ih.2 y hy
        omega
theorem r_Ints_refl (a : List Int) (h : a.length ≤ 1000000) : R_ref1_Ints a a true := by
  have loop : ∀ (m i : Nat), i + m = a.length → At_ref1_Ints_1 a a i true := by
    intro m
    induction m with
    | zero =>
      intro i hi
      apply At_ref1_Ints_1_step
      exact ⟨fun h => by omega, fun _ => rfl⟩
    | succ m ih =>
      intro i hi
      have hg : a[((i : Nat) : Int).toNat]? = some a[i] := by rw [Int.toNat_natCast]; exact List.getElem?_eq_getElem (by omega)
      apply At_ref1_Ints_1_step
      exact ⟨fun _ => ⟨by omega, _, hg, by omega, _, hg, fun _ => ⟨⟨by omega, by omega⟩, ih (i + 1) (by omega)⟩, fun h => absurd rfl h⟩, fun h => by omega⟩
  apply ref1_Ints_tree
  exact ⟨fun _ => loop a.length 0 (by omega), fun h => absurd rfl h⟩
theorem r_SameNodes_refl (a : List Node) (h : a.length ≤ 1000000) (hp : Gn 1000000 a) : R_ref1_SameNodes a a true := by
  have loop : ∀ (m i : Nat), i + m = a.length → At_ref1_SameNodes_1 a a i true := by
    intro m
    induction m with
    | zero =>
      intro i hi
      apply At_ref1_SameNodes_1_step
      exact ⟨fun h => by omega, fun _ => rfl⟩
    | succ m ih =>
      intro i hi
      have hg : a[((i : Nat) : Int).toNat]? = some a[i] := by rw [Int.toNat_natCast]; exact List.getElem?_eq_getElem (by omega)
      obtain ⟨h1, h2⟩ := hp _ (List.getElem_mem (l := a) (n := i) (by omega))
      have hs := r_SameParts_refl a[i].Parts h2
      have hk := r_Ints_refl a[i].Kids h1
      apply At_ref1_SameNodes_1_step
      exact ⟨fun _ => ⟨by omega, _, hg, by omega, _, hg, fun _ => ⟨fun _ => ⟨fun _ => ⟨_, hs, fun _ => ⟨_, hk, fun _ => ⟨⟨by omega, by omega⟩, ih (i + 1) (by omega)⟩, fun h => absurd rfl h⟩, fun h => absurd rfl h⟩, fun h => absurd rfl h⟩, fun h => absurd rfl h⟩, fun h => absurd rfl h⟩, fun h => by omega⟩
  apply ref1_SameNodes_tree
  exact ⟨fun _ => loop a.length 0 (by omega), fun h => absurd rfl h⟩
/-- The nodes of a text's expression. -/
theorem expS_fits {s : List UInt8} (hs : s.length ≤ 6000) {L : List Token} (hl : lexS s = some L) {l : List Node} {ts : List Token} {o : List Node} (h : exprT L = .ok l ts o) : l.length ≤ 1000000 ∧ Gn 1000000 l := by
  have hx := Lx_fits (lexS_ok s)
  rw [hl] at hx
  obtain ⟨h1, h2⟩ := hx
  simp only [lexL] at h1 h2
  obtain ⟨g1, g2⟩ := exprT_fits (K := 1000000) (by omega) ⟨by omega, fun t ht => by have := h2 t ht; omega⟩ h
  exact ⟨by omega, g2⟩
theorem tmod6 (n : Nat) : (n : Int).tmod 6 = ((n % 6 : Nat) : Int) := by rw [Int.tmod_eq_emod_of_nonneg (by omega)]; simp
/-- All but the texts that are put together. -/
theorem brackets_end {s : List UInt8} {n : UInt8} (hs : s.length ≤ 200) {r2 : List Node} {r3 : Int} (k : Nat) (hk : k = n.toNat % 6)
    (T : ∃ (r7 : List Node) (r8 : Int), R_parse_Expr ((List.replicate k 40 ++ s) ++ (List.replicate k [10, 41]).flatten) r7 r8 ∧ ∃ (r9 : List Block) (r10 : Int), R_parse_Parse (([108, 111, 99, 97, 108, 115, 32, 123, 32, 97, 32, 61, 32] ++ s) ++ [10, 125]) r9 r10 ∧
      ((r3 = 0 → r10 = 0 ∧ (∃ e, r9 = [⟨2, [], [⟨e, r2⟩], []⟩]) ∧ R_ref1_SameNodes r2 r2 true ∧ ((r8 = 0 ∧ r7 = r2) ∨ r8 = 6)) ∧ (r3 ≠ 0 → r2 = []))) : At_law2_ParseBrackets_1 s n r2 r3 (List.replicate k 40) ((List.replicate k [10, 41]).flatten) (k : Nat) true := by
  have hn : n.toNat < 256 := n.toNat_lt
  have hfl : ((List.replicate k [10, 41]).flatten : List UInt8).length = 2 * k := by simp [Nat.mul_comm]
  obtain ⟨r7, r8, h7, r9, r10, h9, T1, T2⟩ := T
  apply At_law2_ParseBrackets_1_step
  rw [tmod6]
  refine ⟨⟨by omega, by omega⟩, fun hf => by omega, fun _ => ⟨by simp [maxInt]; omega, by rw [hfl]; simp [maxInt]; omega, r7, r8, h7, by simp [maxInt]; omega, by simp [maxInt]; omega, r9, r10, h9, r3, r_Num1 _, fun h3 => ?_, fun h3 => ?_⟩⟩
  · obtain ⟨rfl, ⟨e, rfl⟩, hS, h8⟩ := T1 h3
    refine ⟨_, r_Num1 _, fun _ => ⟨fun _ => ⟨_, rfl, fun _ => ⟨_, rfl, true, hS, fun _ => ⟨r8, r_Num1 _, fun h => ?_, fun h => ⟨fun _ => ⟨true, r_awake2, rfl⟩, fun hf => ?_⟩⟩, fun hf => absurd rfl hf⟩, fun hf => absurd rfl hf⟩, fun hf => absurd rfl hf⟩, fun hf => absurd rfl hf⟩
    · rcases h8 with ⟨_, rfl⟩ | h8
      · exact ⟨true, hS, fun _ => ⟨true, r_awake2, rfl⟩, fun hf => absurd rfl hf⟩
      · omega
    · rcases h8 with ⟨h8, _⟩ | h8
      · exact absurd h8 h
      · exact absurd h8 hf
  · have := T2 h3
    subst this
    exact ⟨fun _ => ⟨true, r_awake2, rfl⟩, fun hf => absurd rfl hf⟩
theorem brackets_loop {s : List UInt8} {n : UInt8} (hs : s.length ≤ 200) {r2 : List Node} {r3 : Int} (h : At_law2_ParseBrackets_1 s n r2 r3 (List.replicate (n.toNat % 6) 40) ((List.replicate (n.toNat % 6) [10, 41]).flatten) ((n.toNat % 6 : Nat) : Int) true) : ∀ (m k : Nat), k + m = n.toNat % 6 → At_law2_ParseBrackets_1 s n r2 r3 (List.replicate k 40) ((List.replicate k [10, 41]).flatten) (k : Nat) true
  | 0, k, hk => by
    rw [Nat.add_zero] at hk
    rw [hk]
    exact h
  | m + 1, k, hk => by
    have hn : n.toNat < 256 := n.toNat_lt
    have hfl : ((List.replicate k [10, 41]).flatten : List UInt8).length = 2 * k := by simp [Nat.mul_comm]
    have ih := brackets_loop hs h m (k + 1) (by omega)
    apply At_law2_ParseBrackets_1_step
    rw [tmod6]
    refine ⟨⟨by omega, by omega⟩, fun _ => ⟨by simp [maxInt]; omega, by rw [hfl]; simp [maxInt]; omega, ⟨by omega, by omega⟩, ?_⟩, fun hf => by omega⟩
    rw [List.replicate_succ', List.replicate_succ', List.flatten_append] at ih
    exact ih
theorem r_ParseBrackets (s : List UInt8) (n : UInt8) : R_law2_ParseBrackets s n true := by
  have hn : n.toNat < 256 := n.toNat_lt
  refine law2_ParseBrackets_tree _ _ _ ⟨fun _ => ⟨true, r_awake2, rfl⟩, fun h200 => ?_⟩
  have hs : s.length ≤ 200 := by omega
  -- whatever the two longer texts yield
  have hany : ∀ t : List UInt8, t.length ≤ 6000 → ∃ l e, R_parse_Expr t l e := fun t ht => by
    have h := r_ExprS t ht
    have hne : ∀ e, expS t = .er e → e ≠ 0 := fun e he => by
      unfold expS at he
      cases hl : lexS t with
      | none => rw [hl] at he; cases he; decide
      | some L => rw [hl] at he; rcases NE.exprT L e he with h | h | h <;> rw [h] <;> decide
    cases hc : expS t with
    | ok l ts o => rw [hc] at h; exact ⟨l, 0, h⟩
    | er e => rw [hc] at h; exact ⟨[], e, h (hne e hc)⟩
    | no => rw [hc] at h; exact h.elim
  have hanyP : ∀ t : List UInt8, t.length ≤ 6000 → ∃ l e, R_parse_Parse t l e := fun t ht => by
    have h := r_ParseS t ht
    have hne : ∀ e, parseS t = .er e → e ≠ 0 := fun e he => by
      unfold parseS at he
      cases hl : lexS t with
      | none => rw [hl] at he; cases he; decide
      | some L => rw [hl] at he; rcases NE.conf _ _ _ _ _ e he with h | h | h <;> rw [h] <;> decide
    cases hc : parseS t with
    | ok l ts o => rw [hc] at h; exact ⟨l, 0, h⟩
    | er e => rw [hc] at h; exact ⟨[], e, h (hne e hc)⟩
    | no => rw [hc] at h; exact h.elim
  have hfl : ((List.replicate (n.toNat % 6) [10, 41]).flatten : List UInt8).length = 2 * (n.toNat % 6) := by simp [Nat.mul_comm]
  have hlen1 : ((List.replicate (n.toNat % 6) 40 ++ s) ++ (List.replicate (n.toNat % 6) [10, 41]).flatten : List UInt8).length ≤ 6000 := by simp only [List.length_append, List.length_replicate, hfl]; omega
  have hlen2 : (([108, 111, 99, 97, 108, 115, 32, 123, 32, 97, 32, 61, 32] ++ s) ++ [10, 125] : List UInt8).length ≤ 6000 := by simp; omega
  -- what the text itself yields
  have key : ∃ l e, R_parse_Expr s l e ∧ ∃ (r7 : List Node) (r8 : Int), R_parse_Expr ((List.replicate (n.toNat % 6) 40 ++ s) ++ (List.replicate (n.toNat % 6) [10, 41]).flatten) r7 r8 ∧ ∃ (r9 : List Block) (r10 : Int), R_parse_Parse (([108, 111, 99, 97, 108, 115, 32, 123, 32, 97, 32, 61, 32] ++ s) ++ [10, 125]) r9 r10 ∧
      ((e = 0 → r10 = 0 ∧ (∃ e, r9 = [⟨2, [], [⟨e, l⟩], []⟩]) ∧ R_ref1_SameNodes l l true ∧ ((r8 = 0 ∧ r7 = l) ∨ r8 = 6)) ∧ (e ≠ 0 → l = [])) := by
    obtain ⟨l7, e7, h7⟩ := hany _ hlen1
    obtain ⟨l9, e9, h9⟩ := hanyP _ hlen2
    have h := r_ExprS s (by omega)
    cases hc : expS s with
    | no => rw [hc] at h; exact h.elim
    | er e =>
      rw [hc] at h
      have hne : e ≠ 0 := by
        unfold expS at hc
        cases hl : lexS s with
        | none => rw [hl] at hc; cases hc; decide
        | some L => rw [hl] at hc; rcases NE.exprT L e hc with h | h | h <;> rw [h] <;> decide
      exact ⟨[], e, h hne, l7, e7, h7, l9, e9, h9, fun h0 => absurd h0 hne, fun _ => rfl⟩
    | ok l ts o =>
      rw [hc] at h
      unfold expS at hc
      cases hl : lexS s with
      | none => rw [hl] at hc; cases hc
      | some L =>
        rw [hl] at hc
        simp only at hc
        have hLx := lexS_ok s
        rw [hl] at hLx
        obtain ⟨f1, f2⟩ := expS_fits (by omega) hl hc
        have hS := r_SameNodes_refl l f1 f2
        obtain ⟨hw, _, _⟩ := Lx_good hLx L rfl
        -- the tokens, their places left out
        have hcσ : exprT (L.map σ) = .ok l (ts.map σ) o := by rw [exprT_σ, hc]; rfl
        obtain ⟨us, ue, hu, he0, hk0⟩ := W_split hw
        have hdrop : (L.map σ).dropLast = us.map σ := by rw [hu, List.map_append, List.map_cons, List.map_nil, List.dropLast_concat]
        have hus : L.map σ = us.map σ ++ [σ ue] := by rw [hu]; simp
        rw [hus] at hcσ
        have hks : ∀ t ∈ us.map σ, t.Kind ≠ 0 := fun t ht => by
          obtain ⟨x, hx, rfl⟩ := List.mem_map.1 ht
          exact hk0 x hx
        have happ : ∀ (X : List UInt8) (L' : List Token), (X = [] ∨ X.head? = some 10) → Lxs X L' → Lxs (s ++ X) (us.map σ ++ L') := fun X L' hX h' => by
          have := Lxs_app hLx L rfl X L' hX h'
          rw [hdrop] at this
          exact this
        -- as an attribute
        have hA : R_parse_Parse (([108, 111, 99, 97, 108, 115, 32, 123, 32, 97, 32, 61, 32] ++ s) ++ [10, 125]) [⟨2, [], [⟨[97], l⟩], []⟩] 0 := by
          have hx := happ [10, 125] _ (.inr rfl) (Lxs_gap (by decide) (Lxs_rb Lxs_nil))
          have hx := Lxs_gap (c := 32) (by decide) (Lxs_name (c := 97) (u := []) (by decide) (by simp) (by simp) (.inl rfl) (Lxs_eq hx))
          have hx := Lxs_name (c := 108) (u := [111, 99, 97, 108, 115]) (by decide) (by decide) (by simp) (.inl rfl) (Lxs_lb hx)
          have e : ([108, 111, 99, 97, 108, 115, 32, 123, 32, 97, 32, 61, 32] ++ s) ++ [10, 125] = 108 :: ([111, 99, 97, 108, 115] ++ 32 :: 123 :: 32 :: 97 :: ([] ++ 32 :: 61 :: 32 :: (s ++ [10, 125]))) := by simp
          rw [e]
          refine r_ParseXok (by simp; omega) hx (conf_attr labelS (e := σ ue) he0 hks hcσ eT rfl)
        -- in brackets
        have hB : ∃ l7 e7, R_parse_Expr ((List.replicate (n.toNat % 6) 40 ++ s) ++ (List.replicate (n.toNat % 6) [10, 41]).flatten) l7 e7 ∧ ((e7 = 0 ∧ l7 = l) ∨ e7 = 6) := by
          have hX : ((List.replicate (n.toNat % 6) [10, 41]).flatten : List UInt8) = [] ∨ ((List.replicate (n.toNat % 6) [10, 41]).flatten : List UInt8).head? = some 10 := by
            cases n.toNat % 6 with
            | zero => exact .inl rfl
            | succ k => exact .inr rfl
          have hx := Lxs_lps (happ _ _ hX (Lxs_rps (n.toNat % 6))) (n.toNat % 6)
          rw [← List.append_assoc] at hx
          rcases expr_brackets (e := σ ue) he0 hks hcσ (n.toNat % 6) eT rfl with ⟨o2, hb⟩ | hb
          · exact ⟨l, 0, r_ExprXok hlen1 hx hb, .inl ⟨rfl, rfl⟩⟩
          · exact ⟨[], 6, r_ExprXer hlen1 hx hb (by decide), .inr rfl⟩
        obtain ⟨l7, e7, h7, h8⟩ := hB
        exact ⟨l, 0, h, l7, e7, h7, _, 0, hA, fun _ => ⟨rfl, ⟨_, rfl⟩, hS, h8⟩, fun hf => absurd rfl hf⟩
  obtain ⟨l, e, h1, T⟩ := key
  refine ⟨l, e, h1, ?_⟩
  exact brackets_loop hs (brackets_end hs (n.toNat % 6) rfl T) (n.toNat % 6) 0 (by omega)
end Go.Proofs.YtfbcnpbhhooapaaGreatDoor.M
