/- Parts of a proof, one behind another: Lt2, Wl1, Wl2, Wl3, Wl4, Wl5, Wl6, Wl7, Wl8, Wl9, Wl10, WlD, Wl11, Wl12, Wl13, Wl14, WlL, Wp6, Sc7, Lt7, Wp7, Shelf, XE, SpecParseRefuses. -/
import Derived.Test.YtfbcnpbhhooapaaGreatDoorZParseRefuses4
import Derived.Lib.ItoaLen
import Derived.Test.YtfbcnpbhhooapaaGreatDoorProg
import Derived.KernelRfl
import Derived.Shelf.Strings.Builder1
import Derived.Shelf.Strings.Builder2
import Derived.Shelf.Small.Strs
import Derived.Shelf.Small.Wraps
import Derived.Shelf.Strings.BuilderF
import Derived.Shelf.Strings.BuilderK
import Derived.Shelf.Utf8.RuneCount
import Derived.Shelf.Strings.Builder2Cap
import Derived.Shelf.Strconv.Atoi
import Derived.Shelf.Strconv.Itoa0
import Derived.Shelf.Strconv.Itoa1
import Derived.Shelf.LaysM
import Derived.Shelf.Strconv.Itoa2
import Derived.Shelf.Strconv.Itoa3
import Derived.Shelf.Strconv.AtoiErrFast
import Derived.Shelf.Strconv.ParseIntEmpty
import Derived.Shelf.Strconv.AtoiFail
import Derived.Shelf.Strconv.Clone
import Derived.Shelf.Strconv.SyntaxError
import Derived.Shelf.LaysC
import Derived.Shelf.Strconv.ToError
import Derived.Shelf.Strconv.AtoiErr
import Derived.Shelf.Strconv.Lower
import Derived.Shelf.Strconv.ParseUint10
import Derived.Shelf.Strconv.ParseUint10Empty
import Derived.Shelf.Strconv.ParseUint10Any
import Derived.Shelf.Strconv.ParseInt10
import Derived.Shelf.Strconv.AtoiLong
import Derived.Shelf.Strconv.AtoiInnerAll
import Derived.Shelf.Strconv.RangeError
import Derived.Shelf.Strconv.ToErrorRange
import Derived.Shelf.Strconv.AtoiAll
import Derived.Shelf.Strconv.ErrVarAll
import Derived.Shelf.Strings.Search1
import Derived.Shelf.Strings.Search2
import Derived.Shelf.Strings.Search3
import Derived.Shelf.Strings.Cut
import Derived.Shelf.Strings.Count
import Derived.Shelf.Strings.Shaped
import Derived.Shelf.Strings.Prefix
import Derived.Shelf.Strings.Split
import Derived.Shelf.Strings.Replace
import Derived.Shelf.Bits.Mul64
import Derived.Shelf.Strings.Repeat
import Derived.Shelf.Unicode.DecodeSlow
/- Trees of functions, printed by a program of this session (lift.py): what a run asks, over plain data. Lean proves each. -/
namespace Go.Proofs.YtfbcnpbhhooapaaGreatDoor.M
set_option linter.unusedSimpArgs false
set_option linter.unusedVariables false
open Go Classical
theorem sp_lex_tokens_skip : SP 97 = some (.code sc_lex_tokens_skip) := SPof_code rfl Tryz.func97 comp_lex_tokens_skip
/-! (*doorkeeper/lex.tokens).skip -/
def At_lex_tokens_skip_1 (t3 : LTokens) (g4 : Nat) (z5 : Bool) (t' : LTokens) (t'_g2 : Nat) (t'_z2 : Bool) : Prop := ∀ (S : Sto) (e : Nat → PV) (f : Fr) (n0 t0 : Nat), ((getBox S n0 t0).map (List.take 3) = some [.str t3.text.left, .int .i64 t3.text.pos, .sl 0 (.cell t0 2) 0 t3.out.length t3.out.length g4 false] ∧ getArr S n0 (.cell t0 2) = some ⟨5, t3.out.map eToken, z5, g4⟩) → e 0 = .ptr (n0 + 1) t0 0 → k_lex_tokens_skip_1 SP (E SP (.loop b_lex_tokens_skip_1) ⟨e, f :: S⟩) = .ok (.v (.tup [])) (setArr (setBox S n0 t0 ([.str t'.text.left, .int .i64 t'.text.pos, .sl 0 (.cell t0 2) 0 t'.out.length t'.out.length t'_g2 false] ++ ((getBox S n0 t0).getD []).drop 3)) n0 (.cell t0 2) ⟨5, t'.out.map eToken, t'_z2, t'_g2⟩)
set_option maxHeartbeats 4000000 in
theorem At_lex_tokens_skip_1_step (t3 : LTokens) (g4 : Nat) (z5 : Bool) (t' : LTokens) (t'_g2 : Nat) (t'_z2 : Bool) (T :
  ∃ (r6 : Bool), (R_strings_HasPrefix t3.text.left [35] r6) ∧
 ((r6 = true) →
  ∃ (r7 : List UInt8) (r8 : List UInt8) (r9 : Bool), (R_strings_Cut t3.text.left [10] r7 r8 r9) ∧
  ∃ (r10 : List UInt8) (y11 : LText), (R_lex_text_take t3.text (r7.length : Int) r10 y11) ∧
  ∃ (r12 : List UInt8) (y13 : LText), (R_lex_text_word y11 [1] r12 y13) ∧
  At_lex_tokens_skip_1 (LTokens.mk y13 t3.out) g4 z5 t' t'_g2 t'_z2) ∧
 (¬ (r6 = true) →
  t3 = t' ∧ g4 = t'_g2 ∧ z5 = t'_z2)) : At_lex_tokens_skip_1 t3 g4 z5 t' t'_g2 t'_z2 := by
 intro S e f n0 t0 H0 h
 obtain ⟨hb0, ha0⟩ := H0
 obtain ⟨w0, hB0⟩ := take_some hb0
 have hn0 := o_getBox_lt hB0
 unfold k_lex_tokens_skip_1
 rw [E_loop]
 have F := U_lex_tokens_skip
 obtain ⟨r6, q1, T⟩ := T
 simp only [R_strings_HasPrefix, le, List.cons_append, List.nil_append] at q1
 replace F := aa ha0 <| aa hB0 <| aa hn0 <| aa h <| aa q1 <| F
 by_cases c2 : r6 = true
 · replace T := T.1 c2
   obtain ⟨r7, r8, r9, q3, r10, y11, q4, r12, y13, q5, T⟩ := T
   simp only [R_strings_Cut, le, List.cons_append, List.nil_append] at q3
   simp only [R_lex_text_take, le, List.cons_append, List.nil_append] at q4
   simp only [R_lex_text_word, le, List.cons_append, List.nil_append] at q5
   replace F := aa c2 <| aa q3 <| aa q4 <| aa q5 <| F
   try simp only [F, lw, lx, le, Nat.reduceMul, UInt8.reduceToNat, reduceIte, reduceCtorEq, Nat.reduceEqDiff, Nat.reduceAdd, Nat.reduceLeDiff, Nat.reduceSub, Nat.reduceLT, Int.reduceEq, Int.reduceLT, Int.reduceLE, Int.reduceToNat, Int.reduceAdd, Int.reduceSub, Int.reduceMul, Int.reduceNeg]
   refine (T _ _ _ n0 t0 ?_ ?_).trans ?_
   all_goals exact fi F
 · replace T := T.2 c2
   replace c2 := Bool.eq_false_iff.2 c2
   obtain ⟨rfl, rfl, rfl⟩ := T
   exact fi (aa c2 <| F)
set_option maxHeartbeats 4000000 in
theorem lex_tokens_skip_tree (t : LTokens) (t_g2 : Nat) (t_z2 : Bool) (t' : LTokens) (t'_g2 : Nat) (t'_z2 : Bool) (T :
  ∃ (r1 : List UInt8) (y2 : LText), (R_lex_text_word t.text [1] r1 y2) ∧
 At_lex_tokens_skip_1 (LTokens.mk y2 t.out) t_g2 t_z2 t' t'_g2 t'_z2) : R_lex_tokens_skip t t_g2 t_z2 t' t'_g2 t'_z2 := by
 intro S n0 t0 H0
 obtain ⟨hb0, ha0⟩ := H0
 obtain ⟨w0, hB0⟩ := take_some hb0
 have hn0 := o_getBox_lt hB0
 rw [call_code sp_lex_tokens_skip _ _ rfl]
 have F := U_lex_tokens_skip
 obtain ⟨r1, y2, q1, T⟩ := T
 simp only [R_lex_text_word, le, List.cons_append, List.nil_append] at q1
 replace F := aa ha0 <| aa hB0 <| aa hn0 <| aa q1 <| F
 try simp only [F, lw, lx, le, Nat.reduceMul, UInt8.reduceToNat, reduceIte, reduceCtorEq, Nat.reduceEqDiff, Nat.reduceAdd, Nat.reduceLeDiff, Nat.reduceSub, Nat.reduceLT, Int.reduceEq, Int.reduceLT, Int.reduceLE, Int.reduceToNat, Int.reduceAdd, Int.reduceSub, Int.reduceMul, Int.reduceNeg]
 refine (T _ _ _ n0 t0 ?_ ?_).trans ?_
 all_goals exact fi F
theorem sp_lex_tokens_name : SP 138 = some (.code sc_lex_tokens_name) := SPof_code rfl Tryz.func138 comp_lex_tokens_name
/-! (*doorkeeper/lex.tokens).name -/
set_option maxHeartbeats 4000000 in
theorem lex_tokens_name_tree (t : LTokens) (t_g2 : Nat) (t_z2 : Bool) (ra : Token) (rb : Bool) (t' : LTokens) (t'_g2 : Nat) (t'_z2 : Bool) (T :
  ∃ (r1 : List UInt8) (y2 : LText), (R_lex_text_word t.text [2, 3] r1 y2) ∧
 ∃ (r3 : Bool), (R_lex_Name r1 r3) ∧
 (Token.mk 3 r1 0 [] 0) = ra ∧ r3 = rb ∧ (LTokens.mk y2 t.out) = t' ∧ t_g2 = t'_g2 ∧ t_z2 = t'_z2) : R_lex_tokens_name t t_g2 t_z2 ra rb t' t'_g2 t'_z2 := by
 intro S n0 t0 H0
 obtain ⟨hb0, ha0⟩ := H0
 obtain ⟨w0, hB0⟩ := take_some hb0
 have hn0 := o_getBox_lt hB0
 rw [call_code sp_lex_tokens_name _ _ rfl]
 have F := U_lex_tokens_name
 obtain ⟨r1, y2, q1, r3, q2, rfl, rfl, rfl, rfl, rfl⟩ := T
 simp only [R_lex_text_word, le, List.cons_append, List.nil_append] at q1
 simp only [R_lex_Name, le, List.cons_append, List.nil_append] at q2
 exact fi (aa ha0 <| aa hB0 <| aa hn0 <| aa q1 <| aa q2 <| F)
theorem sp_lex_tokens_number : SP 139 = some (.code sc_lex_tokens_number) := SPof_code rfl Tryz.func139 comp_lex_tokens_number
/-! (*doorkeeper/lex.tokens).number -/
set_option maxHeartbeats 4000000 in
theorem lex_tokens_number_tree (t : LTokens) (t_g2 : Nat) (t_z2 : Bool) (ra : Token) (rb : Bool) (t' : LTokens) (t'_g2 : Nat) (t'_z2 : Bool) (T :
  ∃ (r1 : List UInt8) (y2 : LText), (R_lex_text_word t.text [3] r1 y2) ∧
 ∃ (r3 : Int) (r4 : Bool), (R_strconv_Atoi r1 r3 r4) ∧
 ((r4 = true) →
  (Token.mk 1 [] r3 [] 0) = ra ∧ false = rb ∧ (LTokens.mk y2 t.out) = t' ∧ t_g2 = t'_g2 ∧ t_z2 = t'_z2) ∧
 (¬ (r4 = true) →
  ∃ (r5 : List UInt8), (R_strconv_Itoa r3 r5) ∧
  (Token.mk 1 [] r3 [] 0) = ra ∧ (decide (r5 = r1)) = rb ∧ (LTokens.mk y2 t.out) = t' ∧ t_g2 = t'_g2 ∧ t_z2 = t'_z2)) : R_lex_tokens_number t t_g2 t_z2 ra rb t' t'_g2 t'_z2 := by
 intro S n0 t0 H0
 obtain ⟨hb0, ha0⟩ := H0
 obtain ⟨w0, hB0⟩ := take_some hb0
 have hn0 := o_getBox_lt hB0
 rw [call_code sp_lex_tokens_number _ _ rfl]
 have F := U_lex_tokens_number
 obtain ⟨r1, y2, q1, r3, r4, q2, T⟩ := T
 simp only [R_lex_text_word, le, List.cons_append, List.nil_append] at q1
 simp only [R_strconv_Atoi, le, List.cons_append, List.nil_append] at q2
 replace F := aa ha0 <| aa hB0 <| aa hn0 <| aa q1 <| aa q2 <| F
 by_cases c3 : r4 = true
 · replace T := T.1 c3
   obtain ⟨rfl, rfl, rfl, rfl, rfl⟩ := T
   exact fi (aa c3 <| F)
 · replace T := T.2 c3
   replace c3 := Bool.eq_false_iff.2 c3
   obtain ⟨r5, q4, rfl, rfl, rfl, rfl, rfl⟩ := T
   simp only [R_strconv_Itoa, le, List.cons_append, List.nil_append] at q4
   exact fi (aa c3 <| aa q4 <| F)
theorem sp_lex_tokens_quoted : SP 140 = some (.code sc_lex_tokens_quoted) := SPof_code rfl Tryz.func140 comp_lex_tokens_quoted
/-! (*doorkeeper/lex.tokens).quoted -/
def At_lex_tokens_quoted_1 (i3 : Int) (s4 : List UInt8) (i5 : Int) (i6 : Int) (l7 : List Attr) (g8 : Nat) (l9 : List Part) (g10 : Nat) (z11 : Bool) (t12 : LTokens) (g13 : Nat) (z14 : Bool) (ra : Token) (rb : Bool) (t' : LTokens) (t'_g2 : Nat) (t'_z2 : Bool) : Prop := ∀ (S : Sto) (e : Nat → PV) (f : Fr) (n0 t0 : Nat), ((getBox S n0 t0).map (List.take 3) = some [.str t12.text.left, .int .i64 t12.text.pos, .sl 0 (.cell t0 2) 0 t12.out.length t12.out.length g13 false] ∧ getArr S n0 (.cell t0 2) = some ⟨5, t12.out.map eToken, z14, g13⟩) → e 0 = .ptr (n0 + 1) t0 0 ∧ e 2 = .ptr 0 2 0 ∧ e 4 = .ptr 0 4 0 ∧ f.box 2 = some [.int .i64 i3, .str s4, .int .i64 i5, .sl 0 (.cell 2 3) 0 l7.length l7.length g8 false, .int .i64 i6] ∧ f.box 4 = some [.sl 0 (.cell 4 0) 0 l9.length l9.length g10 false] ∧ f.arr (.cell 2 3) = some ⟨2, l7.map eAttr, false, g8⟩ ∧ f.arr (.cell 4 0) = some ⟨2, l9.map ePart, z11, g10⟩ → k_lex_tokens_quoted_1 SP (E SP (.loop b_lex_tokens_quoted_1) ⟨e, f :: S⟩) = .ok (.v (.tup [.agg [.int .i64 ra.Kind, .str ra.Text, .int .i64 ra.Num, .list 2 (ra.Parts.map ePart) false, .int .i64 ra.At], .bool rb])) (setArr (setBox S n0 t0 ([.str t'.text.left, .int .i64 t'.text.pos, .sl 0 (.cell t0 2) 0 t'.out.length t'.out.length t'_g2 false] ++ ((getBox S n0 t0).getD []).drop 3)) n0 (.cell t0 2) ⟨5, t'.out.map eToken, t'_z2, t'_g2⟩)
set_option maxHeartbeats 4000000 in
theorem At_lex_tokens_quoted_1_step (i3 : Int) (s4 : List UInt8) (i5 : Int) (i6 : Int) (l7 : List Attr) (g8 : Nat) (l9 : List Part) (g10 : Nat) (z11 : Bool) (t12 : LTokens) (g13 : Nat) (z14 : Bool) (ra : Token) (rb : Bool) (t' : LTokens) (t'_g2 : Nat) (t'_z2 : Bool) (T :
  ((t12.text.left = []) →
  (Token.mk 0 [] 0 [] 0) = ra ∧ false = rb ∧ t12 = t' ∧ g13 = t'_g2 ∧ z14 = t'_z2) ∧
 (¬ (t12.text.left = []) →
  ∃ (b15 : UInt8), (t12.text.left[0]? = some b15) ∧
  ∃ (r16 : Int), (R_lex_class b15 r16) ∧
  ((r16 = 4) →
   ∃ (r17 : List UInt8) (y18 : LText), (R_lex_text_take t12.text 1 r17 y18) ∧
   (Token.mk 2 [] 0 l9 0) = ra ∧ true = rb ∧ (LTokens.mk y18 t12.out) = t' ∧ g13 = t'_g2 ∧ z14 = t'_z2) ∧
  (¬ (r16 = 4) →
   (((b15.toNat : Int) < 32) →
    (Token.mk 0 [] 0 [] 0) = ra ∧ false = rb ∧ t12 = t' ∧ g13 = t'_g2 ∧ z14 = t'_z2) ∧
   (¬ ((b15.toNat : Int) < 32) →
    (((b15.toNat : Int) = 92) →
     ∃ (r19 : UInt8) (r20 : Bool), (R_lex_escaped t12.text.left r19 r20) ∧
     ((r20 = true) →
      ∃ (y21 : List Part) (g22 : Nat) (z23 : Bool), (R_lex_parts_plain l9 g10 z11 r19 y21 g22 z23) ∧
      ∃ (r24 : List UInt8) (y25 : LText), (R_lex_text_take t12.text 2 r24 y25) ∧
      At_lex_tokens_quoted_1 i3 s4 i5 i6 l7 g8 y21 g22 z23 (LTokens.mk y25 t12.out) g13 z14 ra rb t' t'_g2 t'_z2) ∧
     (¬ (r20 = true) →
      (Token.mk 0 [] 0 [] 0) = ra ∧ false = rb ∧ t12 = t' ∧ g13 = t'_g2 ∧ z14 = t'_z2)) ∧
    (¬ ((b15.toNat : Int) = 92) →
     ∃ (r26 : Bool), (R_strings_HasPrefix t12.text.left [36, 123] r26) ∧
     ((r26 = true) →
      ∃ (r27 : List UInt8) (r28 : Bool), (R_lex_reference t12.text.left r27 r28) ∧
      ((r28 = true) →
       (bigRow (l9.length + 1) 24) ∧
       (I64 (3 + (r27.length : Int))) ∧
       ∃ (r29 : List UInt8) (y30 : LText), (R_lex_text_take t12.text (3 + (r27.length : Int)) r29 y30) ∧
       At_lex_tokens_quoted_1 i3 s4 i5 i6 l7 g8 (l9 ++ [(Part.mk true r27)]) g10 z11 (LTokens.mk y30 t12.out) g13 z14 ra rb t' t'_g2 t'_z2) ∧
      (¬ (r28 = true) →
       (Token.mk 0 [] 0 [] 0) = ra ∧ false = rb ∧ t12 = t' ∧ g13 = t'_g2 ∧ z14 = t'_z2)) ∧
     (¬ (r26 = true) →
      ∃ (y31 : List Part) (g32 : Nat) (z33 : Bool), (R_lex_parts_plain l9 g10 z11 b15 y31 g32 z33) ∧
      ∃ (r34 : List UInt8) (y35 : LText), (R_lex_text_take t12.text 1 r34 y35) ∧
      At_lex_tokens_quoted_1 i3 s4 i5 i6 l7 g8 y31 g32 z33 (LTokens.mk y35 t12.out) g13 z14 ra rb t' t'_g2 t'_z2)))))) : At_lex_tokens_quoted_1 i3 s4 i5 i6 l7 g8 l9 g10 z11 t12 g13 z14 ra rb t' t'_g2 t'_z2 := by
 intro S e f n0 t0 H0 h
 obtain ⟨hb0, ha0⟩ := H0
 obtain ⟨w0, hB0⟩ := take_some hb0
 have hn0 := o_getBox_lt hB0
 unfold k_lex_tokens_quoted_1
 rw [E_loop]
 have F := U_lex_tokens_quoted
 replace F := aa ha0 <| aa hB0 <| aa hn0 <| aa h <| F
 by_cases c1 : t12.text.left = []
 · replace T := T.1 c1
   obtain ⟨rfl, rfl, rfl, rfl, rfl⟩ := T
   exact fi (aa (eq_true c1) <| F)
 · replace T := T.2 c1
   obtain ⟨b15, q2, r16, q3, T⟩ := T
   simp only [R_lex_class, le, List.cons_append, List.nil_append] at q3
   replace F := aa (eq_false c1) <| aa q2 <| aa q3 <| F
   by_cases c4 : r16 = 4
   · replace T := T.1 c4
     obtain ⟨r17, y18, q5, rfl, rfl, rfl, rfl, rfl⟩ := T
     simp only [R_lex_text_take, le, List.cons_append, List.nil_append] at q5
     exact fi (aa (eq_true c4) <| aa q5 <| F)
   · replace T := T.2 c4
     replace F := aa (eq_false c4) <| F
     by_cases c6 : (b15.toNat : Int) < 32
     · replace T := T.1 c6
       obtain ⟨rfl, rfl, rfl, rfl, rfl⟩ := T
       exact fi (aa (eq_true c6) <| F)
     · replace T := T.2 c6
       replace F := aa (eq_false c6) <| F
       by_cases c7 : (b15.toNat : Int) = 92
       · replace T := T.1 c7
         obtain ⟨r19, r20, q8, T⟩ := T
         simp only [R_lex_escaped, le, List.cons_append, List.nil_append] at q8
         replace F := aa (eq_true c7) <| aa q8 <| F
         by_cases c9 : r20 = true
         · replace T := T.1 c9
           obtain ⟨y21, g22, z23, q10, r24, y25, q11, T⟩ := T
           simp only [R_lex_parts_plain, le, List.cons_append, List.nil_append] at q10
           simp only [R_lex_text_take, le, List.cons_append, List.nil_append] at q11
           replace F := aa c9 <| aa q10 <| aa q11 <| F
           try simp only [F, lw, lx, le, Nat.reduceMul, UInt8.reduceToNat, reduceIte, reduceCtorEq, Nat.reduceEqDiff, Nat.reduceAdd, Nat.reduceLeDiff, Nat.reduceSub, Nat.reduceLT, Int.reduceEq, Int.reduceLT, Int.reduceLE, Int.reduceToNat, Int.reduceAdd, Int.reduceSub, Int.reduceMul, Int.reduceNeg]
           refine (T _ _ _ n0 t0 ?_ ?_).trans ?_
           all_goals exact fi F
         · replace T := T.2 c9
           replace c9 := Bool.eq_false_iff.2 c9
           obtain ⟨rfl, rfl, rfl, rfl, rfl⟩ := T
           exact fi (aa c9 <| F)
       · replace T := T.2 c7
         obtain ⟨r26, q12, T⟩ := T
         simp only [R_strings_HasPrefix, le, List.cons_append, List.nil_append] at q12
         replace F := aa (eq_false c7) <| aa q12 <| F
         by_cases c13 : r26 = true
         · replace T := T.1 c13
           obtain ⟨r27, r28, q14, T⟩ := T
           simp only [R_lex_reference, le, List.cons_append, List.nil_append] at q14
           replace F := aa c13 <| aa q14 <| F
           by_cases c15 : r28 = true
           · replace T := T.1 c15
             obtain ⟨p16, p17, r29, y30, q18, T⟩ := T
             simp only [bigRow] at p16
             simp only [R_lex_text_take, le, List.cons_append, List.nil_append] at q18
             replace F := aa c15 <| aa p16 <| aa p17.wrap <| aa q18 <| F
             try simp only [F, lw, lx, le, Nat.reduceMul, UInt8.reduceToNat, reduceIte, reduceCtorEq, Nat.reduceEqDiff, Nat.reduceAdd, Nat.reduceLeDiff, Nat.reduceSub, Nat.reduceLT, Int.reduceEq, Int.reduceLT, Int.reduceLE, Int.reduceToNat, Int.reduceAdd, Int.reduceSub, Int.reduceMul, Int.reduceNeg]
             refine (T _ _ _ n0 t0 ?_ ?_).trans ?_
             all_goals exact fi F
           · replace T := T.2 c15
             replace c15 := Bool.eq_false_iff.2 c15
             obtain ⟨rfl, rfl, rfl, rfl, rfl⟩ := T
             exact fi (aa c15 <| F)
         · replace T := T.2 c13
           replace c13 := Bool.eq_false_iff.2 c13
           obtain ⟨y31, g32, z33, q19, r34, y35, q20, T⟩ := T
           simp only [R_lex_parts_plain, le, List.cons_append, List.nil_append] at q19
           simp only [R_lex_text_take, le, List.cons_append, List.nil_append] at q20
           replace F := aa c13 <| aa q19 <| aa q20 <| F
           try simp only [F, lw, lx, le, Nat.reduceMul, UInt8.reduceToNat, reduceIte, reduceCtorEq, Nat.reduceEqDiff, Nat.reduceAdd, Nat.reduceLeDiff, Nat.reduceSub, Nat.reduceLT, Int.reduceEq, Int.reduceLT, Int.reduceLE, Int.reduceToNat, Int.reduceAdd, Int.reduceSub, Int.reduceMul, Int.reduceNeg]
           refine (T _ _ _ n0 t0 ?_ ?_).trans ?_
           all_goals exact fi F
set_option maxHeartbeats 4000000 in
theorem lex_tokens_quoted_tree (t : LTokens) (t_g2 : Nat) (t_z2 : Bool) (ra : Token) (rb : Bool) (t' : LTokens) (t'_g2 : Nat) (t'_z2 : Bool) (T :
  ∃ (r1 : List UInt8) (y2 : LText), (R_lex_text_take t.text 1 r1 y2) ∧
 At_lex_tokens_quoted_1 0 [] 0 0 [] 0 [] 0 false (LTokens.mk y2 t.out) t_g2 t_z2 ra rb t' t'_g2 t'_z2) : R_lex_tokens_quoted t t_g2 t_z2 ra rb t' t'_g2 t'_z2 := by
 intro S n0 t0 H0
 obtain ⟨hb0, ha0⟩ := H0
 obtain ⟨w0, hB0⟩ := take_some hb0
 have hn0 := o_getBox_lt hB0
 rw [call_code sp_lex_tokens_quoted _ _ rfl]
 have F := U_lex_tokens_quoted
 obtain ⟨r1, y2, q1, T⟩ := T
 simp only [R_lex_text_take, le, List.cons_append, List.nil_append] at q1
 replace F := aa ha0 <| aa hB0 <| aa hn0 <| aa q1 <| F
 try simp only [F, lw, lx, le, Nat.reduceMul, UInt8.reduceToNat, reduceIte, reduceCtorEq, Nat.reduceEqDiff, Nat.reduceAdd, Nat.reduceLeDiff, Nat.reduceSub, Nat.reduceLT, Int.reduceEq, Int.reduceLT, Int.reduceLE, Int.reduceToNat, Int.reduceAdd, Int.reduceSub, Int.reduceMul, Int.reduceNeg]
 refine (T _ _ _ n0 t0 ?_ ?_).trans ?_
 all_goals exact fi F
theorem sp_lex_tokens_sign : SP 136 = some (.code sc_lex_tokens_sign) := SPof_code rfl Tryz.func136 comp_lex_tokens_sign
/-! (*doorkeeper/lex.tokens).sign -/
set_option maxHeartbeats 4000000 in
theorem lex_tokens_sign_tree (t : LTokens) (t_g2 : Nat) (t_z2 : Bool) (ra : Token) (rb : Bool) (t' : LTokens) (t'_g2 : Nat) (t'_z2 : Bool) (T :
  (0 ≤ (if (t.text.left.length : Int) < 2 then (t.text.left.length : Int) else 2)) ∧ ((if (t.text.left.length : Int) < 2 then (t.text.left.length : Int) else 2).toNat ≤ t.text.left.length) ∧
 ∃ (r1 : Bool), (R_slices_Contains_string_string [[61, 61], [33, 61], [60, 61], [62, 61], [38, 38], [124, 124]] (t.text.left.take ((if (t.text.left.length : Int) < 2 then (t.text.left.length : Int) else 2).toNat)) r1) ∧
 ((r1 = true) →
  ∃ (r2 : List UInt8) (y3 : LText), (R_lex_text_take t.text (((t.text.left.take ((if (t.text.left.length : Int) < 2 then (t.text.left.length : Int) else 2).toNat)).length : Nat) : Int) r2 y3) ∧
  (Token.mk 4 r2 0 [] 0) = ra ∧ true = rb ∧ (LTokens.mk y3 t.out) = t' ∧ t_g2 = t'_g2 ∧ t_z2 = t'_z2) ∧
 (¬ (r1 = true) →
  (1 ≤ (t.text.left.take ((if (t.text.left.length : Int) < 2 then (t.text.left.length : Int) else 2).toNat)).length) ∧
  ∃ (r4 : Bool), (R_strings_Contains [123, 125, 91, 93, 40, 41, 61, 44, 46, 43, 45, 42, 47, 37, 60, 62, 33, 63, 58] ((t.text.left.take ((if (t.text.left.length : Int) < 2 then (t.text.left.length : Int) else 2).toNat)).take (1)) r4) ∧
  ((r4 = true) →
   ∃ (r5 : List UInt8) (y6 : LText), (R_lex_text_take t.text ((((t.text.left.take ((if (t.text.left.length : Int) < 2 then (t.text.left.length : Int) else 2).toNat)).take (1)).length : Nat) : Int) r5 y6) ∧
   (Token.mk 4 r5 0 [] 0) = ra ∧ true = rb ∧ (LTokens.mk y6 t.out) = t' ∧ t_g2 = t'_g2 ∧ t_z2 = t'_z2) ∧
  (¬ (r4 = true) →
   (Token.mk 0 [] 0 [] 0) = ra ∧ false = rb ∧ t = t' ∧ t_g2 = t'_g2 ∧ t_z2 = t'_z2))) : R_lex_tokens_sign t t_g2 t_z2 ra rb t' t'_g2 t'_z2 := by
 intro S n0 t0 H0
 obtain ⟨hb0, ha0⟩ := H0
 obtain ⟨w0, hB0⟩ := take_some hb0
 have hn0 := o_getBox_lt hB0
 rw [call_code sp_lex_tokens_sign _ _ rfl]
 have F := U_lex_tokens_sign
 obtain ⟨p1, p2, r1, q3, T⟩ := T
 simp only [R_slices_Contains_string_string, le, List.cons_append, List.nil_append] at q3
 replace F := aa ha0 <| aa hB0 <| aa hn0 <| aa p1 <| aa p2 <| aa q3 <| F
 by_cases c4 : r1 = true
 · replace T := T.1 c4
   obtain ⟨r2, y3, q5, rfl, rfl, rfl, rfl, rfl⟩ := T
   simp only [R_lex_text_take, le, List.cons_append, List.nil_append] at q5
   exact fi (aa c4 <| aa q5 <| F)
 · replace T := T.2 c4
   replace c4 := Bool.eq_false_iff.2 c4
   obtain ⟨p6, r4, q7, T⟩ := T
   simp only [R_strings_Contains, le, List.cons_append, List.nil_append] at q7
   replace F := aa c4 <| aa p6 <| aa q7 <| F
   by_cases c8 : r4 = true
   · replace T := T.1 c8
     obtain ⟨r5, y6, q9, rfl, rfl, rfl, rfl, rfl⟩ := T
     simp only [R_lex_text_take, le, List.cons_append, List.nil_append] at q9
     exact fi (aa c8 <| aa q9 <| F)
   · replace T := T.2 c8
     replace c8 := Bool.eq_false_iff.2 c8
     obtain ⟨rfl, rfl, rfl, rfl, rfl⟩ := T
     exact fi (aa c8 <| F)
theorem sp_lex_tokens_next : SP 98 = some (.code sc_lex_tokens_next) := SPof_code rfl Tryz.func98 comp_lex_tokens_next
/-! (*doorkeeper/lex.tokens).next -/
set_option maxHeartbeats 4000000 in
theorem lex_tokens_next_tree (t : LTokens) (t_g2 : Nat) (t_z2 : Bool) (r : Bool) (t' : LTokens) (t'_g2 : Nat) (t'_z2 : Bool) (T :
  ∃ (b1 : UInt8), (t.text.left[0]? = some b1) ∧
 ∃ (r2 : Int), (R_lex_class b1 r2) ∧
 ((r2 = 2) →
  ∃ (r3 : Token) (r4 : Bool) (y5 : LTokens) (g6 : Nat) (z7 : Bool), (R_lex_tokens_name t t_g2 t_z2 r3 r4 y5 g6 z7) ∧
  (bigRow (y5.out.length + 1) 64) ∧
  r4 = r ∧ (LTokens.mk y5.text (y5.out ++ [(Token.mk r3.Kind r3.Text r3.Num r3.Parts t.text.pos)])) = t' ∧ g6 = t'_g2 ∧ z7 = t'_z2) ∧
 (¬ (r2 = 2) →
  ((r2 = 3) →
   ∃ (r8 : Token) (r9 : Bool) (y10 : LTokens) (g11 : Nat) (z12 : Bool), (R_lex_tokens_number t t_g2 t_z2 r8 r9 y10 g11 z12) ∧
   (bigRow (y10.out.length + 1) 64) ∧
   r9 = r ∧ (LTokens.mk y10.text (y10.out ++ [(Token.mk r8.Kind r8.Text r8.Num r8.Parts t.text.pos)])) = t' ∧ g11 = t'_g2 ∧ z12 = t'_z2) ∧
  (¬ (r2 = 3) →
   ((r2 = 4) →
    ∃ (r13 : Token) (r14 : Bool) (y15 : LTokens) (g16 : Nat) (z17 : Bool), (R_lex_tokens_quoted t t_g2 t_z2 r13 r14 y15 g16 z17) ∧
    (bigRow (y15.out.length + 1) 64) ∧
    r14 = r ∧ (LTokens.mk y15.text (y15.out ++ [(Token.mk r13.Kind r13.Text r13.Num r13.Parts t.text.pos)])) = t' ∧ g16 = t'_g2 ∧ z17 = t'_z2) ∧
   (¬ (r2 = 4) →
    ∃ (r18 : Token) (r19 : Bool) (y20 : LTokens) (g21 : Nat) (z22 : Bool), (R_lex_tokens_sign t t_g2 t_z2 r18 r19 y20 g21 z22) ∧
    (bigRow (y20.out.length + 1) 64) ∧
    r19 = r ∧ (LTokens.mk y20.text (y20.out ++ [(Token.mk r18.Kind r18.Text r18.Num r18.Parts t.text.pos)])) = t' ∧ g21 = t'_g2 ∧ z22 = t'_z2)))) : R_lex_tokens_next t t_g2 t_z2 r t' t'_g2 t'_z2 := by
 intro S n0 t0 H0
 obtain ⟨hb0, ha0⟩ := H0
 obtain ⟨w0, hB0⟩ := take_some hb0
 have hn0 := o_getBox_lt hB0
 rw [call_code sp_lex_tokens_next _ _ rfl]
 have F := U_lex_tokens_next
 obtain ⟨b1, q1, r2, q2, T⟩ := T
 simp only [R_lex_class, le, List.cons_append, List.nil_append] at q2
 replace F := aa ha0 <| aa hB0 <| aa hn0 <| aa q1 <| aa q2 <| F
 by_cases c3 : r2 = 2
 · replace T := T.1 c3
   obtain ⟨r3, r4, y5, g6, z7, q4, p5, rfl, rfl, rfl, rfl⟩ := T
   simp only [R_lex_tokens_name, le, List.cons_append, List.nil_append] at q4
   simp only [bigRow] at p5
   exact fi (aa (eq_true c3) <| aa q4 <| aa p5 <| F)
 · replace T := T.2 c3
   replace F := aa (eq_false c3) <| F
   by_cases c6 : r2 = 3
   · replace T := T.1 c6
     obtain ⟨r8, r9, y10, g11, z12, q7, p8, rfl, rfl, rfl, rfl⟩ := T
     simp only [R_lex_tokens_number, le, List.cons_append, List.nil_append] at q7
     simp only [bigRow] at p8
     exact fi (aa (eq_true c6) <| aa q7 <| aa p8 <| F)
   · replace T := T.2 c6
     replace F := aa (eq_false c6) <| F
     by_cases c9 : r2 = 4
     · replace T := T.1 c9
       obtain ⟨r13, r14, y15, g16, z17, q10, p11, rfl, rfl, rfl, rfl⟩ := T
       simp only [R_lex_tokens_quoted, le, List.cons_append, List.nil_append] at q10
       simp only [bigRow] at p11
       exact fi (aa (eq_true c9) <| aa q10 <| aa p11 <| F)
     · replace T := T.2 c9
       obtain ⟨r18, r19, y20, g21, z22, q12, p13, rfl, rfl, rfl, rfl⟩ := T
       simp only [R_lex_tokens_sign, le, List.cons_append, List.nil_append] at q12
       simp only [bigRow] at p13
       exact fi (aa (eq_false c9) <| aa q12 <| aa p13 <| F)
theorem sp_lex_Lex : SP 60 = some (.code sc_lex_Lex) := SPof_code rfl Tryz.func60 comp_lex_Lex
/-! doorkeeper/lex.Lex -/
def At_lex_Lex_1 (s4 : List UInt8) (i5 : Int) (l6 : List Token) (g7 : Nat) (z8 : Bool) (ra : List Token) (rb : Int) : Prop := ∀ (S : Sto) (e : Nat → PV) (f : Fr), e 4 = .ptr 0 11 0 ∧ f.box 11 = some [.str s4, .int .i64 i5, .sl 0 (.cell 11 2) 0 l6.length l6.length g7 false] ∧ f.arr (.cell 11 2) = some ⟨5, l6.map eToken, z8, g7⟩ → k_lex_Lex_1 SP (E SP (.loop b_lex_Lex_1) ⟨e, f :: S⟩) = .ok (.v (.tup [.list 5 (ra.map eToken) false, .int .i64 rb])) S
set_option maxHeartbeats 4000000 in
theorem At_lex_Lex_1_step (s4 : List UInt8) (i5 : Int) (l6 : List Token) (g7 : Nat) (z8 : Bool) (ra : List Token) (rb : Int) (T :
  ((s4 = []) →
  (bigRow (l6.length + 1) 64) ∧
  (l6 ++ [(Token.mk 0 [] 0 [] i5)]) = ra ∧ 0 = rb) ∧
 (¬ (s4 = []) →
  ∃ (r9 : Bool) (y10 : LTokens) (g11 : Nat) (z12 : Bool), (R_lex_tokens_next (LTokens.mk (LText.mk s4 i5) l6) g7 z8 r9 y10 g11 z12) ∧
  ((r9 = true) →
   ∃ (y13 : LTokens) (g14 : Nat) (z15 : Bool), (R_lex_tokens_skip y10 g11 z12 y13 g14 z15) ∧
   At_lex_Lex_1 y13.text.left y13.text.pos y13.out g14 z15 ra rb) ∧
  (¬ (r9 = true) →
   [] = ra ∧ 5 = rb))) : At_lex_Lex_1 s4 i5 l6 g7 z8 ra rb := by
 intro S e f h
 unfold k_lex_Lex_1
 rw [E_loop]
 have F := U_lex_Lex
 replace F := aa h <| F
 by_cases c1 : s4 = []
 · replace T := T.1 c1
   obtain ⟨p2, rfl, rfl⟩ := T
   simp only [bigRow] at p2
   exact fi (aa (eq_true c1) <| aa p2 <| F)
 · replace T := T.2 c1
   obtain ⟨r9, y10, g11, z12, q3, T⟩ := T
   simp only [R_lex_tokens_next, le, List.cons_append, List.nil_append] at q3
   replace F := aa (eq_false c1) <| aa q3 <| F
   by_cases c4 : r9 = true
   · replace T := T.1 c4
     obtain ⟨y13, g14, z15, q5, T⟩ := T
     simp only [R_lex_tokens_skip, le, List.cons_append, List.nil_append] at q5
     replace F := aa c4 <| aa q5 <| F
     try simp only [F, lw, lx, le, Nat.reduceMul, UInt8.reduceToNat, reduceIte, reduceCtorEq, Nat.reduceEqDiff, Nat.reduceAdd, Nat.reduceLeDiff, Nat.reduceSub, Nat.reduceLT, Int.reduceEq, Int.reduceLT, Int.reduceLE, Int.reduceToNat, Int.reduceAdd, Int.reduceSub, Int.reduceMul, Int.reduceNeg]
     refine T S _ _ ?_
     exact fi F
   · replace T := T.2 c4
     replace c4 := Bool.eq_false_iff.2 c4
     obtain ⟨rfl, rfl⟩ := T
     exact fi (aa c4 <| F)
set_option maxHeartbeats 4000000 in
theorem lex_Lex_tree (s : List UInt8) (ra : List Token) (rb : Int) (T :
  ((6000 < (s.length : Int)) →
  [] = ra ∧ 4 = rb) ∧
 (¬ (6000 < (s.length : Int)) →
  ∃ (y1 : LTokens) (g2 : Nat) (z3 : Bool), (R_lex_tokens_skip (LTokens.mk (LText.mk s 0) []) 0 false y1 g2 z3) ∧
  At_lex_Lex_1 y1.text.left y1.text.pos y1.out g2 z3 ra rb)) : R_lex_Lex s ra rb := by
 intro S
 rw [call_code sp_lex_Lex _ _ rfl]
 have F := U_lex_Lex
 by_cases c1 : 6000 < (s.length : Int)
 · replace T := T.1 c1
   obtain ⟨rfl, rfl⟩ := T
   exact fi (aa (eq_true c1) <| F)
 · replace T := T.2 c1
   obtain ⟨y1, g2, z3, q2, T⟩ := T
   simp only [R_lex_tokens_skip, le, List.cons_append, List.nil_append] at q2
   replace F := aa (eq_false c1) <| aa q2 <| F
   try simp only [F, lw, lx, le, Nat.reduceMul, UInt8.reduceToNat, reduceIte, reduceCtorEq, Nat.reduceEqDiff, Nat.reduceAdd, Nat.reduceLeDiff, Nat.reduceSub, Nat.reduceLT, Int.reduceEq, Int.reduceLT, Int.reduceLE, Int.reduceToNat, Int.reduceAdd, Int.reduceSub, Int.reduceMul, Int.reduceNeg]
   refine T S _ _ ?_
   exact fi F
theorem sp_lex_Label : SP 81 = some (.code sc_lex_Label) := SPof_code rfl Tryz.func81 comp_lex_Label
/-! doorkeeper/lex.Label -/
set_option maxHeartbeats 4000000 in
theorem lex_Label_tree (s : List UInt8) (r : Bool) (T :
  ∃ (r1 : List UInt8), (R_strings_ReplaceAll s [45] [95] r1) ∧
 ∃ (r2 : Bool), (R_lex_Name r1 r2) ∧
 ((r2 = true) →
  ∃ (b3 : UInt8), (s[0]? = some b3) ∧
  (((b3.toNat : Int) = 45) →
   false = r) ∧
  (¬ ((b3.toNat : Int) = 45) →
   (!(decide ((b3.toNat : Int) = 95))) = r)) ∧
 (¬ (r2 = true) →
  false = r)) : R_lex_Label s r := by
 intro S
 rw [call_code sp_lex_Label _ _ rfl]
 have F := U_lex_Label
 obtain ⟨r1, q1, r2, q2, T⟩ := T
 simp only [R_strings_ReplaceAll, le, List.cons_append, List.nil_append] at q1
 simp only [R_lex_Name, le, List.cons_append, List.nil_append] at q2
 replace F := aa q1 <| aa q2 <| F
 by_cases c3 : r2 = true
 · replace T := T.1 c3
   obtain ⟨b3, q4, T⟩ := T
   replace F := aa c3 <| aa q4 <| F
   by_cases c5 : (b3.toNat : Int) = 45
   · replace T := T.1 c5
     obtain rfl := T
     exact fi (aa (eq_true c5) <| F)
   · replace T := T.2 c5
     obtain rfl := T
     exact fi (aa (eq_false c5) <| F)
 · replace T := T.2 c3
   replace c3 := Bool.eq_false_iff.2 c3
   obtain rfl := T
   exact fi (aa c3 <| F)
/-! doorkeeper/doorkeeperref1.Label -/
theorem sp_slices_Contains_int_int : SP 170 = some (.code sc_slices_Contains_int_int) := SPof_code rfl Tryz.func170 comp_slices_Contains_int_int
/-! slices.Contains[[]int,int] -/
set_option maxHeartbeats 4000000 in
theorem slices_Contains_int_int_tree (s : List Int) (v : Int) (r : Bool) (T :
  ∃ (r1 : Int), (R_slices_Index_int_int s v r1) ∧
 (decide (0 ≤ r1)) = r) : R_slices_Contains_int_int s v r := by
 intro S
 rw [call_code sp_slices_Contains_int_int _ _ rfl]
 have F := U_slices_Contains_int_int
 obtain ⟨r1, q1, rfl⟩ := T
 simp only [R_slices_Index_int_int, le, List.cons_append, List.nil_append] at q1
 exact fi (aa q1 <| F)
theorem sp_slices_Index_int_int : SP 190 = some (.code sc_slices_Index_int_int) := SPof_code rfl Tryz.func190 comp_slices_Index_int_int
/-! slices.Index[[]int,int] -/
def At_slices_Index_int_int_1 (s : List Int) (v : Int) (i1 : Int) (r : Int) : Prop := ∀ (S : Sto) (e : Nat → PV) (f : Fr), e 0 = .list 1 (s.map eI) false ∧ e 1 = .int .i64 v ∧ e 7 = .int .i64 (s.length : Int) ∧ e 8 = .int .i64 i1 → k_slices_Index_int_int_1 SP (E SP (.loop b_slices_Index_int_int_1) ⟨e, f :: S⟩) = .ok (.v (.int .i64 r)) S
set_option maxHeartbeats 4000000 in
theorem At_slices_Index_int_int_1_step (s : List Int) (v : Int) (i1 : Int) (r : Int) (T :
  ((i1 < (s.length : Int)) →
  (0 ≤ i1) ∧
  ∃ (v2 : Int), (s[i1.toNat]? = some v2) ∧
  ((v = v2) →
   i1 = r) ∧
  (¬ (v = v2) →
   (I64 (i1 + 1)) ∧
   At_slices_Index_int_int_1 s v (i1 + 1) r)) ∧
 (¬ (i1 < (s.length : Int)) →
  (-1) = r)) : At_slices_Index_int_int_1 s v i1 r := by
 intro S e f h
 unfold k_slices_Index_int_int_1
 rw [E_loop]
 have F := U_slices_Index_int_int
 replace F := aa h <| F
 by_cases c1 : i1 < (s.length : Int)
 · replace T := T.1 c1
   obtain ⟨p2, v2, q3, T⟩ := T
   replace F := aa (eq_true c1) <| aa p2 <| aa q3 <| F
   by_cases c4 : v = v2
   · replace T := T.1 c4
     obtain rfl := T
     exact fi (aa (eq_true c4) <| F)
   · replace T := T.2 c4
     obtain ⟨p5, T⟩ := T
     replace F := aa (eq_false c4) <| aa p5.wrap <| F
     try simp only [F, lw, lx, le, Nat.reduceMul, UInt8.reduceToNat, reduceIte, reduceCtorEq, Nat.reduceEqDiff, Nat.reduceAdd, Nat.reduceLeDiff, Nat.reduceSub, Nat.reduceLT, Int.reduceEq, Int.reduceLT, Int.reduceLE, Int.reduceToNat, Int.reduceAdd, Int.reduceSub, Int.reduceMul, Int.reduceNeg]
     refine T S _ _ ?_
     exact fi F
 · replace T := T.2 c1
   obtain rfl := T
   exact fi (aa (eq_false c1) <| F)
set_option maxHeartbeats 4000000 in
theorem slices_Index_int_int_tree (s : List Int) (v : Int) (r : Int) (T :
  At_slices_Index_int_int_1 s v 0 r) : R_slices_Index_int_int s v r := by
 intro S
 rw [call_code sp_slices_Index_int_int _ _ rfl]
 have F := U_slices_Index_int_int
 try simp only [F, lw, lx, le, Nat.reduceMul, UInt8.reduceToNat, reduceIte, reduceCtorEq, Nat.reduceEqDiff, Nat.reduceAdd, Nat.reduceLeDiff, Nat.reduceSub, Nat.reduceLT, Int.reduceEq, Int.reduceLT, Int.reduceLE, Int.reduceToNat, Int.reduceAdd, Int.reduceSub, Int.reduceMul, Int.reduceNeg]
 refine T S _ _ ?_
 exact fi F
theorem sp_slices_Contains_string_string : SP 161 = some (.code sc_slices_Contains_string_string) := SPof_code rfl Tryz.func161 comp_slices_Contains_string_string
/-! slices.Contains[[]string,string] -/
set_option maxHeartbeats 4000000 in
theorem slices_Contains_string_string_tree (s : List (List UInt8)) (v : List UInt8) (r : Bool) (T :
  ∃ (r1 : Int), (R_slices_Index_string_string s v r1) ∧
 (decide (0 ≤ r1)) = r) : R_slices_Contains_string_string s v r := by
 intro S
 rw [call_code sp_slices_Contains_string_string _ _ rfl]
 have F := U_slices_Contains_string_string
 obtain ⟨r1, q1, rfl⟩ := T
 simp only [R_slices_Index_string_string, le, List.cons_append, List.nil_append] at q1
 exact fi (aa q1 <| F)
end Go.Proofs.YtfbcnpbhhooapaaGreatDoor.M

/- Lex: classes, spans, what is in a list; what a name is. -/
namespace Go.Proofs.YtfbcnpbhhooapaaGreatDoor.M
set_option linter.unusedSimpArgs false
set_option linter.unusedVariables false
open Go Classical
def clsS (c : UInt8) : Int :=
  if c.toNat = 32 ∨ c.toNat = 10 then 1 else if c.toNat = 95 ∨ (97 ≤ c.toNat ∧ c.toNat ≤ 122) then 2
  else if 48 ≤ c.toNat ∧ c.toNat ≤ 57 then 3 else if c.toNat = 34 then 4 else if c.toNat = 35 then 5 else 0
theorem r_class (c : UInt8) : R_lex_class c (clsS c) := by
  apply lex_class_tree
  unfold clsS
  repeat' first
    | refine ⟨fun h => ?_, fun h => ?_⟩
    | ((repeat' split) <;> omega)
theorem r_idxI (s : List Int) (v : Int) (hs : s.length < 1000000) : ∀ (k i : Nat), i + k = s.length → ∃ r : Int, At_slices_Index_int_int_1 s v i r ∧ (0 ≤ r ↔ v ∈ s.drop i)
  | 0, i, h => ⟨-1, by
      apply At_slices_Index_int_int_1_step
      exact ⟨fun h => by omega, fun _ => rfl⟩, by rw [List.drop_eq_nil_of_le (by omega)]; simp⟩
  | k + 1, i, h => by
    have hi : i < s.length := by omega
    have hg : s[((i : Nat) : Int).toNat]? = some s[i] := by rw [Int.toNat_natCast]; exact List.getElem?_eq_getElem hi
    have hd : s.drop i = s[i] :: s.drop (i + 1) := List.drop_eq_getElem_cons hi
    by_cases c : v = s[i]
    · refine ⟨i, ?_, ?_⟩
      · apply At_slices_Index_int_int_1_step
        exact ⟨fun _ => ⟨by omega, s[i], hg, fun _ => rfl, fun h => absurd c h⟩, fun h => by omega⟩
      · rw [hd, ← c]; simp
    · obtain ⟨r, h1, h2⟩ := r_idxI s v hs k (i + 1) (by omega)
      refine ⟨r, ?_, ?_⟩
      · apply At_slices_Index_int_int_1_step
        exact ⟨fun _ => ⟨by omega, s[i], hg, fun h => absurd h c, fun _ => ⟨⟨by omega, by omega⟩, h1⟩⟩, fun h => by omega⟩
      · rw [hd, h2, List.mem_cons]; simp [c]
theorem r_containsI (s : List Int) (v : Int) (hs : s.length < 1000000) : R_slices_Contains_int_int s v (decide (v ∈ s)) := by
  apply slices_Contains_int_int_tree
  obtain ⟨r, h1, h2⟩ := r_idxI s v hs s.length 0 (by omega)
  refine ⟨r, slices_Index_int_int_tree s v r h1, ?_⟩
  rw [List.drop_zero] at h2
  exact decide_eq_decide.2 h2
theorem r_idxS (s : List (List UInt8)) (v : List UInt8) (hs : s.length < 1000000) : ∀ (k i : Nat), i + k = s.length → ∃ r : Int, At_slices_Index_string_string_1 s v i r ∧ (0 ≤ r ↔ v ∈ s.drop i)
  | 0, i, h => ⟨-1, by
      apply At_slices_Index_string_string_1_step
      exact ⟨fun h => by omega, fun _ => rfl⟩, by rw [List.drop_eq_nil_of_le (by omega)]; simp⟩
  | k + 1, i, h => by
    have hi : i < s.length := by omega
    have hg : s[((i : Nat) : Int).toNat]? = some s[i] := by rw [Int.toNat_natCast]; exact List.getElem?_eq_getElem hi
    have hd : s.drop i = s[i] :: s.drop (i + 1) := List.drop_eq_getElem_cons hi
    by_cases c : v = s[i]
    · refine ⟨i, ?_, ?_⟩
      · apply At_slices_Index_string_string_1_step
        exact ⟨fun _ => ⟨by omega, s[i], hg, fun _ => rfl, fun h => absurd c h⟩, fun h => by omega⟩
      · rw [hd, ← c]; simp
    · obtain ⟨r, h1, h2⟩ := r_idxS s v hs k (i + 1) (by omega)
      refine ⟨r, ?_, ?_⟩
      · apply At_slices_Index_string_string_1_step
        exact ⟨fun _ => ⟨by omega, s[i], hg, fun h => absurd h c, fun _ => ⟨⟨by omega, by omega⟩, h1⟩⟩, fun h => by omega⟩
      · rw [hd, h2, List.mem_cons]; simp [c]
theorem r_containsS (s : List (List UInt8)) (v : List UInt8) (hs : s.length < 1000000) : R_slices_Contains_string_string s v (decide (v ∈ s)) := by
  apply slices_Contains_string_string_tree
  obtain ⟨r, h1, h2⟩ := r_idxS s v hs s.length 0 (by omega)
  refine ⟨r, slices_Index_string_string_tree s v r h1, ?_⟩
  rw [List.drop_zero] at h2
  exact decide_eq_decide.2 h2
/-! ### Spans -/
def inC (cl : List Int) (c : UInt8) : Bool := decide (clsS c ∈ cl)
def spanS (cl : List Int) (s : List UInt8) : Nat := (s.takeWhile (inC cl)).length
theorem spanS_le (cl : List Int) : ∀ s : List UInt8, spanS cl s ≤ s.length
  | [] => Nat.le_refl _
  | c :: s => by
    unfold spanS
    rw [List.takeWhile_cons]
    split
    · have := spanS_le cl s; unfold spanS at this; simp only [List.length_cons]; omega
    · simp
theorem r_span_loop (s : List UInt8) (cl : List Int) (hc : cl.length < 1000000) (hs : s.length ≤ 1000000) : ∀ (k i : Nat), i + k = s.length → ∀ r : Int, r = (i : Int) + spanS cl (s.drop i) → At_lex_span_1 s cl i r := by
  intro k
  induction k with
  | zero =>
    intro i hi r hr
    apply At_lex_span_1_step
    rw [List.drop_eq_nil_of_le (by omega)] at hr
    exact ⟨fun h => by omega, fun _ => by rw [hr]; simp [spanS]; omega⟩
  | succ k ih =>
    intro i hi r hr
    have hlt : i < s.length := by omega
    have hg : s[((i : Nat) : Int).toNat]? = some s[i] := by rw [Int.toNat_natCast]; exact List.getElem?_eq_getElem hlt
    have hd : s.drop i = s[i] :: s.drop (i + 1) := List.drop_eq_getElem_cons hlt
    rw [hd, spanS, List.takeWhile_cons] at hr
    apply At_lex_span_1_step
    refine ⟨fun _ => ⟨by omega, s[i], hg, _, r_class _, _, r_containsI cl _ hc, fun h => ?_, fun h => ?_⟩, fun h => by omega⟩
    · refine ⟨⟨by omega, by omega⟩, ih (i + 1) (by omega) r ?_⟩
      have h' : inC cl s[i] = true := h
      rw [hr, if_pos h', spanS]
      simp only [List.length_cons]
      omega
    · have h' : ¬ inC cl s[i] = true := h
      rw [hr, if_neg h']
      simp
theorem r_span (s : List UInt8) (cl : List Int) (hc : cl.length < 1000000) (hs : s.length ≤ 1000000) : R_lex_span s cl (spanS cl s) := by
  apply lex_span_tree
  exact r_span_loop s cl hc hs s.length 0 (by omega) _ (by simp)
end Go.Proofs.YtfbcnpbhhooapaaGreatDoor.M

/- Lex: what a name is, on both sides; where a name ends. -/
namespace Go.Proofs.YtfbcnpbhhooapaaGreatDoor.M
set_option linter.unusedSimpArgs false
set_option linter.unusedVariables false
open Go Classical
theorem inC23 (c : UInt8) : inC [2, 3] c = true ↔ clsS c = 2 ∨ clsS c = 3 := by
  unfold inC
  simp
/-- How long the name is that stands at the beginning. -/
def endS (s : List UInt8) : Nat := match s with
  | [] => 0
  | c :: _ => if clsS c = 2 then spanS [2, 3] s else 0
/-- Is a text a name? -/
def nameS (s : List UInt8) : Bool := decide (s ≠ [] ∧ s.length ≤ 24 ∧ endS s = s.length)
theorem r_lexName (s : List UInt8) (hs : s.length ≤ 1000000) : R_lex_Name s (nameS s) := by
  apply lex_Name_tree
  refine ⟨fun h => ?_, fun h => ⟨fun h2 => ?_, fun h2 => ?_⟩⟩
  · simp [nameS, h]
  · cases s with
    | nil => exact absurd rfl h
    | cons c t =>
      refine ⟨c, rfl, _, r_class c, fun h3 => ⟨_, r_span _ _ (by decide) hs, ?_⟩, fun h3 => ?_⟩
      · refine decide_eq_decide.2 ?_
        rw [endS, if_pos h3]
        constructor
        · intro e; exact ⟨by simp, by omega, by omega⟩
        · intro e; have := e.2.2; omega
      · refine (decide_eq_false ?_).symm
        rw [endS, if_neg h3]
        intro e
        have := e.2.2
        simp at this
  · refine (decide_eq_false fun e => ?_).symm
    have := e.2.1
    omega
end Go.Proofs.YtfbcnpbhhooapaaGreatDoor.M

/- Lex: a text cut at one byte; names on the other side. -/
namespace Go.Proofs.YtfbcnpbhhooapaaGreatDoor.M
set_option linter.unusedSimpArgs false
set_option linter.unusedVariables false
open Go Classical
theorem index1 (b : UInt8) : ∀ s : List UInt8, Lib.index s [b] = if b ∈ s then ((s.takeWhile (· != b)).length : Int) else -1
  | [] => by simp [Lib.index]
  | c :: l => by
    unfold Lib.index
    rw [index1 b l]
    by_cases h : b = c
    · subst h
      simp [List.takeWhile_cons]
    · have h' : ¬ c = b := fun e => h e.symm
      by_cases hm : b ∈ l
      · simp [List.takeWhile_cons, h, h', hm]
      · simp [h, hm]
theorem take_while_len (p : UInt8 → Bool) : ∀ s : List UInt8, s.take (s.takeWhile p).length = s.takeWhile p
  | [] => rfl
  | c :: s => by
    rw [List.takeWhile_cons]
    split
    · simp [take_while_len p s]
    · rfl
theorem drop_while_len (p : UInt8 → Bool) : ∀ s : List UInt8, s.drop (s.takeWhile p).length = s.dropWhile p
  | [] => rfl
  | c :: s => by
    rw [List.takeWhile_cons, List.dropWhile_cons]
    split
    · simp [drop_while_len p s]
    · rfl
theorem cut1 (b : UInt8) (s : List UInt8) : Lib.cut s [b] = if b ∈ s then (s.takeWhile (· != b), (s.dropWhile (· != b)).drop 1, true) else (s, [], false) := by
  unfold Lib.cut
  rw [index1]
  by_cases h : b ∈ s
  · simp only [h, if_true]
    rw [if_pos (by omega)]
    simp only [Int.toNat_natCast, List.length_cons, List.length_nil, Nat.zero_add]
    rw [take_while_len, ← drop_while_len, List.drop_drop]
  · simp [h]
theorem r_Cut (s p : List UInt8) (hs : s.length ≤ 1000000) : R_strings_Cut s p (Lib.cut s p).1 (Lib.cut s p).2.1 (Lib.cut s p).2.2 := fun S => call_ext sp_strings_Cut S (if_pos (by omega))
theorem r_HasPrefix (s p : List UInt8) : R_strings_HasPrefix s p (Lib.hasPrefix s p) := fun S => call_ext sp_strings_HasPrefix S rfl
theorem r_SContains (s p : List UInt8) (hs : s.length ≤ 1000000) : R_strings_Contains s p (Lib.contains s p) := fun S => call_ext sp_strings_Contains S (if_pos (by omega))
end Go.Proofs.YtfbcnpbhhooapaaGreatDoor.M

/- Lex: what stands between '${' and '}'. -/
namespace Go.Proofs.YtfbcnpbhhooapaaGreatDoor.M
set_option linter.unusedSimpArgs false
set_option linter.unusedVariables false
open Go Classical
/-- Two names with a dot between. -/
def dottedS (s : List UInt8) : Bool := (Lib.cut s [46]).2.2 && nameS (Lib.cut s [46]).1 && nameS (Lib.cut s [46]).2.1
/-- The reference that a text (behind '${') begins with, and whether there is one. -/
def refS (s : List UInt8) : List UInt8 × Bool := ((Lib.cut s [125]).1, (Lib.cut s [125]).2.2 && dottedS (Lib.cut s [125]).1)
theorem cut_len1 (s p : List UInt8) : (Lib.cut s p).1.length ≤ s.length := by
  unfold Lib.cut
  split
  · simp; omega
  · simp
theorem cut_len2 (s p : List UInt8) : (Lib.cut s p).2.1.length ≤ s.length := by
  unfold Lib.cut
  split
  · simp
  · simp
theorem r_reference (s : List UInt8) (h2 : 2 ≤ s.length) (hs : s.length ≤ 1000000) : R_lex_reference s (refS (s.drop 2)).1 (refS (s.drop 2)).2 := by
  apply lex_reference_tree
  have e : (s.drop 2).take (s.length - 2) = s.drop 2 := List.take_of_length_le (by simp)
  rw [e]
  have l0 : (s.drop 2).length ≤ 1000000 := by simp; omega
  generalize s.drop 2 = t at l0
  have l1 := cut_len1 t [125]
  have l2 := cut_len1 (Lib.cut t [125]).1 [46]
  have l3 := cut_len2 (Lib.cut t [125]).1 [46]
  refine ⟨h2, _, _, _, r_Cut t [125] l0, _, _, _, r_Cut _ [46] (by omega), fun h3 => ⟨fun h6 => ⟨_, r_lexName _ (by omega), fun h7 => ⟨_, r_lexName _ (by omega), rfl, ?_⟩, fun h7 => ⟨rfl, ?_⟩⟩, fun h6 => ⟨rfl, ?_⟩⟩, fun h3 => ⟨rfl, ?_⟩⟩
  · simp [refS, dottedS, h3, h6, h7]
  · simp [refS, dottedS, h7]
  · simp [refS, dottedS, h6]
  · simp [refS, h3]
end Go.Proofs.YtfbcnpbhhooapaaGreatDoor.M

/- Lex: two names with a dot, on the other side. -/
namespace Go.Proofs.YtfbcnpbhhooapaaGreatDoor.M
set_option linter.unusedSimpArgs false
set_option linter.unusedVariables false
open Go Classical
theorem takeWhile_stop (p : UInt8 → Bool) : ∀ (u : List UInt8) (c : UInt8) (v : List UInt8), (∀ x ∈ u, p x = true) → p c = false → (u ++ c :: v).takeWhile p = u
  | [], c, v, _, hc => by simp [List.takeWhile_cons, hc]
  | x :: u, c, v, h, hc => by
    rw [List.cons_append, List.takeWhile_cons, if_pos (h x (by simp)), takeWhile_stop p u c v (fun y hy => h y (by simp [hy])) hc]
theorem cut_split (b : UInt8) (u v : List UInt8) (h : b ∉ u) : Lib.cut (u ++ b :: v) [b] = (u, v, true) := by
  have h1 : (u ++ b :: v).takeWhile (· != b) = u := takeWhile_stop _ u b v (fun x hx => by simp; intro e; exact h (e ▸ hx)) (by simp)
  rw [cut1, if_pos (by simp), ← drop_while_len, h1]
  simp
theorem cut_none (b : UInt8) (s : List UInt8) (h : b ∉ s) : Lib.cut s [b] = (s, [], false) := by rw [cut1, if_neg h]
theorem splitAt_first (b : UInt8) : ∀ s : List UInt8, b ∈ s → ∃ u v, s = u ++ b :: v ∧ b ∉ u
  | [], h => by cases h
  | c :: s, h => by
    by_cases e : b = c
    · exact ⟨[], s, by rw [e]; rfl, by simp⟩
    · obtain ⟨u, v, h1, h2⟩ := splitAt_first b s (by rcases List.mem_cons.1 h with h | h; exact absurd h e; exact h)
      exact ⟨c :: u, v, by rw [h1]; rfl, by simp [e, h2]⟩
end Go.Proofs.YtfbcnpbhhooapaaGreatDoor.M

/- Lex: references on the other side. -/
namespace Go.Proofs.YtfbcnpbhhooapaaGreatDoor.M
set_option linter.unusedSimpArgs false
set_option linter.unusedVariables false
open Go Classical
theorem dotted_split {s : List UInt8} (h : dottedS s = true) : ∃ x y, s = x ++ 46 :: y ∧ nameS x = true ∧ nameS y = true := by
  unfold dottedS at h
  by_cases hm : (46 : UInt8) ∈ s
  · obtain ⟨u, v, rfl, hu⟩ := splitAt_first 46 s hm
    rw [cut_split 46 u v hu] at h
    simp only [Bool.and_eq_true] at h
    exact ⟨u, v, rfl, h.1.2, h.2⟩
  · rw [cut_none 46 s hm] at h
    cases h
theorem ref_split {t : List UInt8} (h : (refS t).2 = true) : ∃ x y v, t = x ++ 46 :: (y ++ 125 :: v) ∧ nameS x = true ∧ nameS y = true ∧ (refS t).1 = x ++ 46 :: y := by
  unfold refS at h ⊢
  by_cases hm : (125 : UInt8) ∈ t
  · obtain ⟨u, v, rfl, hu⟩ := splitAt_first 125 t hm
    rw [cut_split 125 u v hu] at h ⊢
    obtain ⟨x, y, rfl, hx, hy⟩ := dotted_split (by simpa using h)
    exact ⟨x, y, v, by simp, hx, hy, rfl⟩
  · rw [cut_none 125 t hm] at h
    cases h
theorem drop_mid (b : UInt8) (x w : List UInt8) : (x ++ b :: w).drop (x.length + 1) = w := by rw [List.drop_append]; simp
end Go.Proofs.YtfbcnpbhhooapaaGreatDoor.M

/- Lex: signs. -/
namespace Go.Proofs.YtfbcnpbhhooapaaGreatDoor.M
set_option linter.unusedSimpArgs false
set_option linter.unusedVariables false
open Go Classical
def ones : List Int := [123, 125, 91, 93, 40, 41, 61, 44, 46, 43, 45, 42, 47, 37, 60, 62, 33, 63, 58]
def twos : List (List UInt8) := [[61, 61], [33, 61], [60, 61], [62, 61], [38, 38], [124, 124]]
def sign1 (a : UInt8) : List UInt8 := if ((a.toNat : Nat) : Int) ∈ ones then [a] else []
def sign2 (a b : UInt8) : List UInt8 := if [a, b] ∈ twos then [a, b] else sign1 a
/-- The longest sign that stands at the beginning; none: nothing. -/
def signS : List UInt8 → List UInt8
  | [] => []
  | [a] => sign1 a
  | a :: b :: _ => sign2 a b
end Go.Proofs.YtfbcnpbhhooapaaGreatDoor.M

/- Lex: taking; names and signs as tokens; a byte behind parts. -/
namespace Go.Proofs.YtfbcnpbhhooapaaGreatDoor.M
set_option linter.unusedSimpArgs false
set_option linter.unusedVariables false
open Go Classical
/-- What is left, and where: all within bounds. -/
def TI (t : LText) : Prop := t.left.length ≤ 6000 ∧ 0 ≤ t.pos ∧ t.pos + (t.left.length : Nat) ≤ 6000
def takeT (t : LText) (n : Nat) : LText := ⟨t.left.drop n, t.pos + n⟩
theorem TI.take {t : LText} (h : TI t) {n : Nat} (hn : n ≤ t.left.length) : TI (takeT t n) := by
  obtain ⟨h1, h2, h3⟩ := h
  refine ⟨?_, ?_, ?_⟩ <;> simp only [takeT, List.length_drop] <;> omega
theorem r_take {t : LText} (h : TI t) {n : Nat} (hn : n ≤ t.left.length) : R_lex_text_take t n (t.left.take n) (takeT t n) := by
  apply lex_text_take_tree
  obtain ⟨h1, h2, h3⟩ := h
  rw [Int.toNat_natCast]
  refine ⟨by omega, hn, by omega, hn, ⟨by omega, by omega⟩, rfl, ?_⟩
  rw [List.take_of_length_le (by simp)]
  rfl
theorem r_word {t : LText} (h : TI t) (cl : List Int) (hc : cl.length < 1000000) : R_lex_text_word t cl (t.left.takeWhile (inC cl)) (takeT t (spanS cl t.left)) := by
  apply lex_text_word_tree
  have h1 := h.1
  refine ⟨_, r_span t.left cl hc (by omega), _, _, r_take h (spanS_le cl t.left), ?_, rfl⟩
  exact take_while_len _ _
theorem r_name (t : LTokens) (g : Nat) (z : Bool) (h : TI t.text) : R_lex_tokens_name t g z (Token.mk 3 (t.text.left.takeWhile (inC [2, 3])) 0 [] 0) (nameS (t.text.left.takeWhile (inC [2, 3]))) (LTokens.mk (takeT t.text (spanS [2, 3] t.text.left)) t.out) g z := by
  apply lex_tokens_name_tree
  have h1 := h.1
  have h2 := spanS_le [2, 3] t.text.left
  exact ⟨_, _, r_word h [2, 3] (by decide), _, r_lexName _ (by unfold spanS at h2; omega), rfl, rfl, rfl, rfl, rfl⟩
theorem has_ones (a : UInt8) : Lib.contains [123, 125, 91, 93, 40, 41, 61, 44, 46, 43, 45, 42, 47, 37, 60, 62, 33, 63, 58] [a] = decide (((a.toNat : Nat) : Int) ∈ ones) := by
  unfold Lib.contains
  rw [index1]
  refine decide_eq_decide.2 ?_
  have e : a ∈ ([123, 125, 91, 93, 40, 41, 61, 44, 46, 43, 45, 42, 47, 37, 60, 62, 33, 63, 58] : List UInt8) ↔ ((a.toNat : Nat) : Int) ∈ ones := by
    simp only [ones, List.mem_cons, List.not_mem_nil, or_false, ← UInt8.toNat_inj, UInt8.reduceToNat]
    omega
  rw [← e]
  split
  · rename_i h; simp only [h, iff_true]; omega
  · rename_i h; simp only [h, iff_false]; omega
/-- A sign taken. -/
theorem r_sign (t : LTokens) (g : Nat) (z : Bool) (h : TI t.text) (hne : t.text.left ≠ []) : R_lex_tokens_sign t g z (if signS t.text.left = [] then Token.mk 0 [] 0 [] 0 else Token.mk 4 (signS t.text.left) 0 [] 0) (decide (signS t.text.left ≠ [])) (if signS t.text.left = [] then t else LTokens.mk (takeT t.text (signS t.text.left).length) t.out) g z := by
  apply lex_tokens_sign_tree
  obtain ⟨⟨left, pos⟩, out⟩ := t
  have h1 := h.1
  simp only at h1 hne ⊢
  match left, hne, h1, h with
  | [a], hne, h1, h =>
    have hn : ¬ [a] ∈ twos := by unfold twos; simp
    have e0 : (if (([a].length : Nat) : Int) < 2 then (([a].length : Nat) : Int) else 2).toNat = 1 := by simp
    rw [e0]
    simp only [List.take_succ_cons, List.take_zero, List.length_cons, List.length_nil]
    refine ⟨by simp, by omega, _, r_containsS twos [a] (by decide), fun hq => absurd (of_decide_eq_true hq) hn, fun _ => ⟨by omega, _, r_SContains _ [a] (by simp), fun hq => ?_, fun hq => ?_⟩⟩
    · rw [has_ones] at hq
      have hq := of_decide_eq_true hq
      have hs : signS [a] = [a] := by simp [signS, sign1, hq]
      rw [hs]
      exact ⟨_, _, r_take h (n := 1) (by simp), by simp⟩
    · rw [has_ones] at hq
      have hq : ¬ ((a.toNat : Nat) : Int) ∈ ones := fun e => hq (decide_eq_true e)
      have hs : signS [a] = [] := by simp [signS, sign1, hq]
      rw [hs]
      simp
  | a :: b :: u, hne, h1, h =>
    have e0 : (if (((a :: b :: u).length : Nat) : Int) < 2 then (((a :: b :: u).length : Nat) : Int) else 2) = 2 := by
      rw [if_neg]; simp only [List.length_cons]; omega
    have e00 : (2 : Int).toNat = 2 := rfl
    rw [e0, e00]
    simp only [List.take_succ_cons, List.take_zero, List.length_cons, List.length_nil]
    refine ⟨by simp, by omega, _, r_containsS twos [a, b] (by decide), fun hq => ?_, fun hn => ⟨by omega, _, r_SContains _ [a] (by simp), fun hq => ?_, fun hq => ?_⟩⟩
    · have hq := of_decide_eq_true hq
      have hs : signS (a :: b :: u) = [a, b] := by simp [signS, sign2, hq]
      rw [hs]
      exact ⟨_, _, r_take h (n := 2) (by simp), by simp⟩
    · have hn : ¬ [a, b] ∈ twos := fun e => hn (decide_eq_true e)
      rw [has_ones] at hq
      have hq := of_decide_eq_true hq
      have hs : signS (a :: b :: u) = [a] := by simp [signS, sign2, sign1, hn, hq]
      rw [hs]
      exact ⟨_, _, r_take h (n := 1) (by simp), by simp⟩
    · have hn : ¬ [a, b] ∈ twos := fun e => hn (decide_eq_true e)
      rw [has_ones] at hq
      have hq : ¬ ((a.toNat : Nat) : Int) ∈ ones := fun e => hq (decide_eq_true e)
      have hs : signS (a :: b :: u) = [] := by simp [signS, sign2, sign1, hn, hq]
      rw [hs]
      simp
end Go.Proofs.YtfbcnpbhhooapaaGreatDoor.M

/- Lex: quoted texts: what they are (Qx), and that lex.quoted takes them so. -/
namespace Go.Proofs.YtfbcnpbhhooapaaGreatDoor.M
set_option linter.unusedSimpArgs false
set_option linter.unusedVariables false
open Go Classical
def escS (x : UInt8) : Option UInt8 := if x = 34 ∨ x = 92 ∨ x = 36 then some x else if x = 110 then some 10 else none
theorem r_IndexByte (s : List UInt8) (c : UInt8) : R_strings_IndexByte s c (Lib.indexByte s c) := fun S => call_ext sp_strings_IndexByte S (by simp [indexX])
theorem r_escaped (y x : UInt8) (u : List UInt8) : R_lex_escaped (y :: x :: u) ((escS x).getD 0) (escS x).isSome := by
  apply lex_escaped_tree
  refine ⟨fun h => absurd h (by simp; omega), fun _ => ⟨x, rfl, _, r_IndexByte _ x, ?_⟩⟩
  unfold escS
  by_cases h1 : x = 34
  · subst h1
    exact ⟨fun h => absurd h (by decide), fun _ => ⟨by decide, 34, rfl, rfl, rfl⟩⟩
  · by_cases h2 : x = 92
    · subst h2
      exact ⟨fun h => absurd h (by decide), fun _ => ⟨by decide, 92, rfl, rfl, rfl⟩⟩
    · by_cases h3 : x = 36
      · subst h3
        exact ⟨fun h => absurd h (by decide), fun _ => ⟨by decide, 36, rfl, rfl, rfl⟩⟩
      · by_cases h4 : x = 110
        · subst h4
          exact ⟨fun h => absurd h (by decide), fun _ => ⟨by decide, 10, rfl, rfl, rfl⟩⟩
        · have e : Lib.indexByte [34, 92, 36, 110] x = -1 := by
            have := Lib.indexByte_ge [34, 92, 36, 110] x
            simp [Lib.indexByte, Ne.symm h1, Ne.symm h2, Ne.symm h3, Ne.symm h4]
          rw [e]
          simp [h1, h2, h3, h4]
/-- Parts, and a text that grows behind them. -/
def joinP (l : List Part) (b : List UInt8) : List Part := l ++ (if b = [] then [] else [Part.mk false b])
def okP (l : List Part) : Prop := l = [] ∨ ∃ l0 q, l = l0 ++ [Part.mk true q]
theorem set_last {α : Type} (l : List α) (x y : α) : (l ++ [x]).set l.length y = l ++ [y] := by simp
theorem r_plain (l : List Part) (b : List UInt8) (c : UInt8) (g : Nat) (hl : okP l) (h1 : l.length ≤ 10000) (h2 : b.length ≤ 10000) : R_lex_parts_plain (joinP l b) g false c (joinP l (b ++ [c])) g false := by
  apply lex_parts_plain_tree
  have hb : b ++ [c] ≠ [] := by simp
  by_cases e : b = []
  · subst e
    have e1 : joinP l [] = l := by simp [joinP]
    have e2 : joinP l ([] ++ [c]) = l ++ [Part.mk false [c]] := by simp [joinP]
    have e3 : (((l.length : Nat) : Int) + 1 - 1).toNat = l.length := by omega
    have big : bigRow (l.length + 1) 24 := ⟨by omega, by omega, by decide⟩
    rw [e1, e2, e3]
    refine ⟨fun h => ⟨big, ⟨by omega, by omega⟩, ⟨by omega, by omega⟩, by omega, by omega, Part.mk false [], by simp, by simp [maxInt], by omega, by omega, rfl, ?_, rfl, rfl⟩, fun h => ?_⟩
    · rw [set_last]; rfl
    · rcases hl with rfl | ⟨l0, q, rfl⟩
      · exact absurd rfl h
      · have e4 : ((((l0 ++ [Part.mk true q]).length : Nat) : Int) - 1).toNat = l0.length := by simp
        have hlen : (l0 ++ [Part.mk true q]).length = l0.length + 1 := by simp
        rw [e4]
        refine ⟨⟨by omega, by omega⟩, by omega, by omega, Part.mk true q, by simp, fun _ => ⟨big, ⟨by omega, by omega⟩, ⟨by omega, by omega⟩, by omega, by omega, Part.mk false [], by simp, by simp [maxInt], by omega, by omega, rfl, ?_, rfl, rfl⟩, fun h => absurd rfl h⟩
        rw [set_last]; rfl
  · have e1 : joinP l b = l ++ [Part.mk false b] := by simp [joinP, e]
    have e2 : joinP l (b ++ [c]) = l ++ [Part.mk false (b ++ [c])] := by simp [joinP]
    have hlen : (l ++ [Part.mk false b]).length = l.length + 1 := by simp
    have e3 : ((((l ++ [Part.mk false b]).length : Nat) : Int) - 1).toNat = l.length := by omega
    rw [e1, e2]
    refine ⟨fun h => by omega, fun h => ?_⟩
    rw [e3]
    refine ⟨⟨by omega, by omega⟩, by omega, by omega, Part.mk false b, by simp, fun h => by simp at h, fun _ => ⟨⟨by omega, by omega⟩, by omega, by omega, by simp only [maxInt]; omega, by omega, by omega, rfl, ?_, rfl, rfl⟩⟩
    rw [set_last]
/-- A quoted text, behind its first sign: parts so far (l, and b behind them); what comes of it: none, or the parts and how long it is. -/
inductive Qx : List UInt8 → List Part → List UInt8 → Option (List Part × Nat) → Prop
  | nil (l b) : Qx [] l b none
  | shut (t l b) : Qx (34 :: t) l b (some (joinP l b, 1))
  | low (c t l b) (h1 : c ≠ 34) (h2 : c.toNat < 32) : Qx (c :: t) l b none
  | esc (x y t l b r) (h1 : escS x = some y) (h : Qx t l (b ++ [y]) r) : Qx (92 :: x :: t) l b (r.map fun q => (q.1, q.2 + 2))
  | esc0 (l b) : Qx [92] l b none
  | escbad (x t l b) (h1 : escS x = none) : Qx (92 :: x :: t) l b none
  | ref (t l b r) (h1 : (refS t).2 = true) (h : Qx (t.drop ((refS t).1.length + 1)) (joinP l b ++ [Part.mk true (refS t).1]) [] r) : Qx (36 :: 123 :: t) l b (r.map fun q => (q.1, q.2 + (3 + (refS t).1.length)))
  | refbad (t l b) (h1 : (refS t).2 = false) : Qx (36 :: 123 :: t) l b none
  | plain (c t l b r) (h1 : c ≠ 34) (h2 : ¬ c.toNat < 32) (h3 : c ≠ 92) (h4 : c = 36 → t.head? ≠ some 123) (h : Qx t l (b ++ [c]) r) : Qx (c :: t) l b (r.map fun q => (q.1, q.2 + 1))
theorem refS_len {t : List UInt8} (h : (refS t).2 = true) : (refS t).1.length + 1 ≤ t.length := by
  obtain ⟨x, y, v, e, _, _, e2⟩ := ref_split h
  rw [e2, e]
  simp
  omega
end Go.Proofs.YtfbcnpbhhooapaaGreatDoor.M

/- Lex: lex.quoted takes what Qx tells. -/
namespace Go.Proofs.YtfbcnpbhhooapaaGreatDoor.M
set_option linter.unusedSimpArgs false
set_option linter.unusedVariables false
open Go Classical
theorem cls4 (c : UInt8) : clsS c = 4 ↔ c = 34 := by
  have e : c = 34 ↔ c.toNat = 34 := by rw [← UInt8.toNat_inj]; rfl
  rw [e]
  unfold clsS
  repeat' split
  all_goals (first | omega | (constructor <;> intro h <;> first | omega | exact absurd h (by decide)))
theorem takeT_takeT (t : LText) (a b : Nat) : takeT (takeT t a) b = takeT t (a + b) := by
  unfold takeT
  simp only [LText.mk.injEq, List.drop_drop]
  exact ⟨trivial, by omega⟩
theorem head_left {t : LText} {c : UInt8} {u : List UInt8} (h : t.left = c :: u) : ¬ t.left = [] ∧ t.left[0]? = some c := by rw [h]; simp
def QOut (gp : Nat) (lt : LTokens) (g : Nat) (z : Bool) (l : List Part) (b : List UInt8) : Option (List Part × Nat) → Prop
  | none => ∃ t' : LTokens, t'.out = lt.out ∧ At_lex_tokens_quoted_1 0 [] 0 0 [] 0 (joinP l b) gp false lt g z (Token.mk 0 [] 0 [] 0) false t' g z
  | some (ps, n) => n ≤ lt.text.left.length ∧ At_lex_tokens_quoted_1 0 [] 0 0 [] 0 (joinP l b) gp false lt g z (Token.mk 2 [] 0 ps 0) true (LTokens.mk (takeT lt.text n) lt.out) g z
theorem joinP_len (l : List Part) (b : List UInt8) : (joinP l b).length ≤ l.length + 1 := by
  unfold joinP
  split <;> simp
theorem joinP_ref (l : List Part) (q : List UInt8) : joinP (l ++ [Part.mk true q]) [] = l ++ [Part.mk true q] := by simp [joinP]
/-- A step that goes on: what comes behind m bytes comes of the whole. -/
theorem QOut.next {gp : Nat} {lt : LTokens} {g : Nat} {z : Bool} {l : List Part} {b : List UInt8} {l2 : List Part} {b2 : List UInt8} {m : Nat} (hm : m ≤ lt.text.left.length)
    (step : ∀ ra rb t' , At_lex_tokens_quoted_1 0 [] 0 0 [] 0 (joinP l2 b2) gp false (LTokens.mk (takeT lt.text m) lt.out) g z ra rb t' g z → At_lex_tokens_quoted_1 0 [] 0 0 [] 0 (joinP l b) gp false lt g z ra rb t' g z) {r : Option (List Part × Nat)}
    (h : QOut gp (LTokens.mk (takeT lt.text m) lt.out) g z l2 b2 r) : QOut gp lt g z l b (r.map fun q => (q.1, q.2 + m)) := by
  cases r with
  | none => obtain ⟨t', ho, h⟩ := h; exact ⟨t', ho, step _ _ _ h⟩
  | some q =>
    obtain ⟨ps, n⟩ := q
    obtain ⟨h1, h2⟩ := h
    simp only [takeT, List.length_drop] at h1
    refine ⟨by omega, ?_⟩
    have := step _ _ _ h2
    simp only [takeT_takeT] at this
    rw [Nat.add_comm] at this
    exact this
theorem r_quoted_loop {t : List UInt8} {l : List Part} {b : List UInt8} {r : Option (List Part × Nat)} (h : Qx t l b r) : ∀ (gp : Nat) (lt : LTokens) (g : Nat) (z : Bool), lt.text.left = t → TI lt.text → okP l → l.length + t.length ≤ 7000 → b.length + t.length ≤ 7000 → QOut gp lt g z l b r := by
  induction h with
  | nil l b =>
    intro gp lt g z e hT hl h1 h2
    refine ⟨lt, rfl, ?_⟩
    apply At_lex_tokens_quoted_1_step
    exact ⟨fun _ => ⟨rfl, rfl, rfl, rfl, rfl⟩, fun h => absurd e h⟩
  | shut t l b =>
    intro gp lt g z e hT hl h1 h2
    obtain ⟨e1, e2⟩ := head_left e
    have hlen : 1 ≤ lt.text.left.length := by rw [e]; simp
    refine ⟨hlen, ?_⟩
    apply At_lex_tokens_quoted_1_step
    exact ⟨fun h => absurd h e1, fun _ => ⟨34, e2, _, r_class 34, fun _ => ⟨_, _, r_take hT hlen, rfl, rfl, rfl, rfl, rfl⟩, fun h => absurd ((cls4 34).2 rfl) h⟩⟩
  | low c t l b c1 c2 =>
    intro gp lt g z e hT hl h1 h2
    obtain ⟨e1, e2⟩ := head_left e
    refine ⟨lt, rfl, ?_⟩
    apply At_lex_tokens_quoted_1_step
    exact ⟨fun h => absurd h e1, fun _ => ⟨c, e2, _, r_class c, fun h => absurd ((cls4 c).1 h) c1, fun _ => ⟨fun _ => ⟨rfl, rfl, rfl, rfl, rfl⟩, fun h => absurd (by omega) h⟩⟩⟩
  | esc x y t l b r hx _ ih =>
    intro gp lt g z e hT hl h1 h2
    obtain ⟨e1, e2⟩ := head_left e
    simp only [List.length_cons] at h1 h2
    have hlen : 2 ≤ lt.text.left.length := by rw [e]; simp
    refine QOut.next (m := 2) hlen (fun ra rb t' hA => ?_) (ih gp _ g z (by simp only [takeT, e]; rfl) (hT.take hlen) hl (by omega) (by simp; omega))
    apply At_lex_tokens_quoted_1_step
    refine ⟨fun h => absurd h e1, fun _ => ⟨92, e2, _, r_class 92, fun h => absurd ((cls4 92).1 h) (by decide), fun _ => ⟨fun h => absurd h (by decide), fun _ => ⟨fun _ => ?_, fun h => absurd (by decide) h⟩⟩⟩⟩
    rw [e]
    refine ⟨_, _, r_escaped 92 x t, fun _ => ⟨_, _, _, ?_, _, _, r_take hT hlen, hA⟩, fun h => absurd (by rw [hx]; rfl) h⟩
    rw [hx]
    exact r_plain l b y gp hl (by omega) (by omega)
  | esc0 l b =>
    intro gp lt g z e hT hl h1 h2
    obtain ⟨e1, e2⟩ := head_left e
    refine ⟨lt, rfl, ?_⟩
    apply At_lex_tokens_quoted_1_step
    refine ⟨fun h => absurd h e1, fun _ => ⟨92, e2, _, r_class 92, fun h => absurd ((cls4 92).1 h) (by decide), fun _ => ⟨fun h => absurd h (by decide), fun _ => ⟨fun _ => ?_, fun h => absurd (by decide) h⟩⟩⟩⟩
    rw [e]
    refine ⟨0, false, ?_, fun h => (by cases h), fun _ => ⟨rfl, rfl, rfl, rfl, rfl⟩⟩
    apply lex_escaped_tree
    exact ⟨fun _ => ⟨rfl, rfl⟩, fun h => absurd (by decide) h⟩
  | escbad x t l b hx =>
    intro gp lt g z e hT hl h1 h2
    obtain ⟨e1, e2⟩ := head_left e
    refine ⟨lt, rfl, ?_⟩
    apply At_lex_tokens_quoted_1_step
    refine ⟨fun h => absurd h e1, fun _ => ⟨92, e2, _, r_class 92, fun h => absurd ((cls4 92).1 h) (by decide), fun _ => ⟨fun h => absurd h (by decide), fun _ => ⟨fun _ => ?_, fun h => absurd (by decide) h⟩⟩⟩⟩
    rw [e]
    exact ⟨_, _, r_escaped 92 x t, fun h => (by rw [hx] at h; cases h), fun _ => ⟨rfl, rfl, rfl, rfl, rfl⟩⟩
  | ref t l b r hr _ ih =>
    intro gp lt g z e hT hl h1 h2
    obtain ⟨e1, e2⟩ := head_left e
    simp only [List.length_cons] at h1 h2
    have hrl := refS_len hr
    have hj := joinP_len l b
    have hlen : 3 + (refS t).1.length ≤ lt.text.left.length := by rw [e]; simp only [List.length_cons]; omega
    have hT1 := hT.1
    refine QOut.next (m := 3 + (refS t).1.length) hlen (fun ra rb t' hA => ?_) (ih gp _ g z ?_ (hT.take hlen) (.inr ⟨_, _, rfl⟩) ?_ ?_)
    · apply At_lex_tokens_quoted_1_step
      have hR : R_lex_reference lt.text.left (refS t).1 (refS t).2 := by
        have := r_reference lt.text.left (by omega) (by omega)
        rw [e] at this ⊢
        exact this
      have hTake : R_lex_text_take lt.text (3 + (((refS t).1.length : Nat) : Int)) (lt.text.left.take (3 + (refS t).1.length)) (takeT lt.text (3 + (refS t).1.length)) := by
        have := r_take hT hlen
        rw [Int.natCast_add] at this
        exact this
      rw [joinP_ref] at hA
      exact ⟨fun h => absurd h e1, fun _ => ⟨36, e2, _, r_class 36, fun h => absurd ((cls4 36).1 h) (by decide), fun _ => ⟨fun h => absurd h (by decide), fun _ => ⟨fun h => absurd h (by decide), fun _ => ⟨_, r_HasPrefix _ _, fun _ => ⟨_, _, hR, fun _ => ⟨⟨by omega, by omega, by decide⟩, ⟨by omega, by omega⟩, _, _, hTake, hA⟩, fun h => absurd hr h⟩, fun h => absurd (by rw [e]; simp [Lib.hasPrefix]) h⟩⟩⟩⟩⟩
    · simp only [takeT, e]
      rw [show 3 + (refS t).1.length = ((refS t).1.length + 1) + 1 + 1 by omega]
      rfl
    · simp; omega
    · simp; omega
  | refbad t l b hr =>
    intro gp lt g z e hT hl h1 h2
    obtain ⟨e1, e2⟩ := head_left e
    have hT1 := hT.1
    refine ⟨lt, rfl, ?_⟩
    apply At_lex_tokens_quoted_1_step
    have hR : R_lex_reference lt.text.left (refS t).1 (refS t).2 := by
      have := r_reference lt.text.left (by rw [e]; simp) (by omega)
      rw [e] at this ⊢
      exact this
    exact ⟨fun h => absurd h e1, fun _ => ⟨36, e2, _, r_class 36, fun h => absurd ((cls4 36).1 h) (by decide), fun _ => ⟨fun h => absurd h (by decide), fun _ => ⟨fun h => absurd h (by decide), fun _ => ⟨_, r_HasPrefix _ _, fun _ => ⟨_, _, hR, fun h => (by rw [hr] at h; cases h), fun _ => ⟨rfl, rfl, rfl, rfl, rfl⟩⟩, fun h => absurd (by rw [e]; simp [Lib.hasPrefix]) h⟩⟩⟩⟩⟩
  | plain c t l b r c1 c2 c3 c4 _ ih =>
    intro gp lt g z e hT hl h1 h2
    obtain ⟨e1, e2⟩ := head_left e
    simp only [List.length_cons] at h1 h2
    have hlen : 1 ≤ lt.text.left.length := by rw [e]; simp
    have hp : ¬ Lib.hasPrefix lt.text.left [36, 123] = true := by
      rw [e]
      unfold Lib.hasPrefix
      intro h
      cases t with
      | nil => simp at h
      | cons x t =>
        simp at h
        exact c4 h.1.symm (by rw [← h.2]; rfl)
    have hc3 : ¬ ((c.toNat : Nat) : Int) = 92 := fun h => c3 (by apply UInt8.toNat_inj.1; exact Int.ofNat.inj h)
    refine QOut.next (m := 1) hlen (fun ra rb t' hA => ?_) (ih gp _ g z (by simp only [takeT, e]; rfl) (hT.take hlen) hl (by omega) (by simp; omega))
    apply At_lex_tokens_quoted_1_step
    exact ⟨fun h => absurd h e1, fun _ => ⟨c, e2, _, r_class c, fun h => absurd ((cls4 c).1 h) c1, fun _ => ⟨fun h => absurd h (by omega), fun _ => ⟨fun h => absurd h hc3, fun _ => ⟨_, r_HasPrefix _ _, fun h => absurd h hp, fun _ => ⟨_, _, _, r_plain l b c gp hl (by omega) (by omega), _, _, r_take hT hlen, hA⟩⟩⟩⟩⟩⟩
end Go.Proofs.YtfbcnpbhhooapaaGreatDoor.M

/- Digits: the library of Go, and the document. -/
namespace Go.Proofs.YtfbcnpbhhooapaaGreatDoor.M
set_option linter.unusedSimpArgs false
set_option linter.unusedVariables false
open Go Classical
theorem r_Itoa (n : Int) (h : I64 n) : R_strconv_Itoa n (Lib.itoa n) := fun S => call_ext sp_strconv_Itoa S (if_pos h)
end Go.Proofs.YtfbcnpbhhooapaaGreatDoor.M

/- Lex: numbers, on both sides. -/
namespace Go.Proofs.YtfbcnpbhhooapaaGreatDoor.M
set_option linter.unusedSimpArgs false
set_option linter.unusedVariables false
open Go Classical
def Dg (l : List UInt8) : Prop := ∀ c ∈ l, 48 ≤ c.toNat ∧ c.toNat ≤ 57
theorem inC3 (c : UInt8) : inC [3] c = true ↔ 48 ≤ c.toNat ∧ c.toNat ≤ 57 := by
  unfold inC clsS
  simp only [List.mem_singleton, decide_eq_true_eq]
  repeat' split
  all_goals (first | omega | (constructor <;> intro h <;> first | omega | exact absurd h (by decide)))
theorem Dg_take (t : List UInt8) : Dg (t.takeWhile (inC [3])) := fun c hc => (inC3 c).1 (List.all_eq_true.1 List.all_takeWhile c hc)
/-- The number that digits spell, behind a number. -/
def digV (acc : Nat) (l : List UInt8) : Nat := l.foldl (fun a c => a * 10 + (c.toNat - 48)) acc
theorem digV_cons (acc : Nat) (c : UInt8) (r : List UInt8) : digV acc (c :: r) = digV (acc * 10 + (c.toNat - 48)) r := by
  unfold digV
  rw [List.foldl_cons]
theorem digV_nil (acc : Nat) : digV acc [] = acc := by
  unfold digV
  rw [List.foldl_nil]
theorem digV_ge : ∀ (l : List UInt8) (acc : Nat), acc ≤ digV acc l
  | [], acc => by rw [digV_nil]; exact Nat.le_refl _
  | c :: r, acc => by
    rw [digV_cons]
    have := digV_ge r (acc * 10 + (c.toNat - 48))
    omega
theorem parse_num (l : List UInt8) : ∀ (acc : Nat), Dg l → acc < 18446744073709551616 → Lib.parseUint10 acc l = if digV acc l < 18446744073709551616 then .ok (digV acc l) else .range := by
  induction l with
  | nil => intro acc _ h; rw [digV_nil, if_pos h, Lib.parseUint10]
  | cons c r ih =>
    intro acc hd h
    have hc := hd c (by simp)
    have hge := digV_ge r (acc * 10 + (c.toNat - 48))
    rw [digV_cons]
    unfold Lib.parseUint10
    rw [if_pos hc]
    by_cases h1 : 1844674407370955162 ≤ acc
    · rw [if_pos h1, if_neg (by omega)]
    · rw [if_neg h1]
      by_cases h2 : 18446744073709551616 ≤ acc * 10 + (c.toNat - 48)
      · rw [if_pos h2, if_neg (by omega)]
      · rw [if_neg h2]
        exact ih _ (fun x hx => hd x (by simp [hx])) (by omega)
theorem atoi_num {l : List UInt8} (hd : Dg l) (hne : l ≠ []) : Lib.atoiAll l = if digV 0 l < 9223372036854775808 then .ok (digV 0 l : Int) else .range := by
  cases l with
  | nil => exact absurd rfl hne
  | cons c r =>
    have hc := hd c (by simp)
    rw [Lib.atoiAll_plain c r (by omega) (by omega), Lib.parseMag, if_neg (by simp), parse_num _ 0 hd (by omega)]
    by_cases h : digV 0 (c :: r) < 18446744073709551616
    · rw [if_pos h]
      by_cases h2 : digV 0 (c :: r) < 9223372036854775808
      · simp only [Lib.signless, if_pos h2, if_neg (show ¬ 9223372036854775808 ≤ digV 0 (c :: r) by omega)]
      · simp only [Lib.signless, if_neg h2, if_pos (show 9223372036854775808 ≤ digV 0 (c :: r) by omega)]
    · rw [if_neg h, if_neg (show ¬ digV 0 (c :: r) < 9223372036854775808 by omega)]
      rfl
theorem dec_step {a d : Nat} (ha : 0 < a) (hd : d < 10) : Lib.decDigits (a * 10 + d) = Lib.decDigits a ++ [UInt8.ofNat (48 + d)] := by
  rw [Lib.decDigits, dif_neg (by omega), show (a * 10 + d) / 10 = a by omega, show (a * 10 + d) % 10 = d by omega]
theorem dec_num : ∀ (l : List UInt8) (acc : Nat), 0 < acc → Dg l → Lib.decDigits (digV acc l) = Lib.decDigits acc ++ l
  | [], acc, _, _ => by rw [digV_nil, List.append_nil]
  | c :: r, acc, h, hd => by
    have hc := hd c (by simp)
    rw [digV_cons, dec_num r _ (by omega) (fun x hx => hd x (by simp [hx])), dec_step h (by omega)]
    have : UInt8.ofNat (48 + (c.toNat - 48)) = c := by
      rw [show 48 + (c.toNat - 48) = c.toNat by omega]; simp
    rw [this]
    simp
theorem dec_first {c : UInt8} {r : List UInt8} (hd : Dg (c :: r)) (h : c.toNat ≠ 48) : Lib.decDigits (digV 0 (c :: r)) = c :: r := by
  have hc := hd c (by simp)
  rw [digV_cons, dec_num r _ (by omega) (fun x hx => hd x (by simp [hx])), Nat.zero_mul, Nat.zero_add, Lib.decDigits_one (by omega)]
  have : UInt8.ofNat (48 + (c.toNat - 48)) = c := by
    rw [show 48 + (c.toNat - 48) = c.toNat by omega]; simp
  rw [this]
  rfl
theorem dec_len : ∀ (r : List UInt8), Dg r → r ≠ [] → (Lib.decDigits (digV 0 r)).length ≤ r.length
  | [], _, h => absurd rfl h
  | c :: r, hd, _ => by
    by_cases h : c.toNat = 48
    · rw [digV_cons, h]
      cases r with
      | nil => simp [digV_nil, Lib.decDigits_one (show 0 < 10 by omega)]
      | cons b r =>
        have := dec_len (b :: r) (fun x hx => hd x (by simp at hx ⊢; exact .inr hx)) (by simp)
        simp only [Nat.zero_mul, Nat.sub_self, Nat.add_zero, List.length_cons] at this ⊢
        omega
    · rw [dec_first hd h]
      exact Nat.le_refl _
/-- Digits are a number: within 64 bits, and no nought ahead. -/
def numOk (d : List UInt8) : Prop := digV 0 d < 9223372036854775808 ∧ (d.head? = some 48 → d.length = 1)
instance (d : List UInt8) : Decidable (numOk d) := by unfold numOk; infer_instance
theorem itoa_num {d : List UInt8} (hd : Dg d) (hne : d ≠ []) : Lib.itoa ((digV 0 d : Nat) : Int) = d ↔ (d.head? = some 48 → d.length = 1) := by
  have e : Lib.itoa ((digV 0 d : Nat) : Int) = Lib.decDigits (digV 0 d) := by
    unfold Lib.itoa
    rw [if_neg (by omega)]
    rfl
  rw [e]
  cases d with
  | nil => exact absurd rfl hne
  | cons c r =>
    by_cases h : c.toNat = 48
    · have hc : c = 48 := UInt8.toNat_inj.1 h
      subst hc
      simp only [List.head?_cons, List.length_cons, forall_const]
      cases r with
      | nil =>
        have h0 : digV 0 [48] = 0 := by rw [digV_cons, digV_nil]; rfl
        rw [h0, Lib.decDigits_one (show 0 < 10 by omega)]
        simp
      | cons b r =>
        have := dec_len (b :: r) (fun x hx => hd x (by simp at hx ⊢; exact .inr hx)) (by simp)
        constructor
        · intro h2
          have h3 : digV 0 (48 :: b :: r) = digV 0 (b :: r) := by rw [digV_cons]; rfl
          rw [← h3, h2] at this
          simp at this
          omega
        · intro h2
          simp at h2
    · rw [dec_first hd h]
      simp only [List.head?_cons, Option.some.injEq, true_iff]
      intro e
      exact absurd (by rw [e]; rfl) h
def numS (t : List UInt8) : Option (Token × Nat) := if numOk (t.takeWhile (inC [3])) then some (Token.mk 1 [] (digV 0 (t.takeWhile (inC [3])) : Nat) [] 0, (t.takeWhile (inC [3])).length) else none
theorem r_Atoi {l : List UInt8} (hd : Dg l) (hne : l ≠ []) (hl : l.length ≤ 1000000) : ∃ v : Int, R_strconv_Atoi l v (decide (¬ digV 0 l < 9223372036854775808)) ∧ (digV 0 l < 9223372036854775808 → v = (digV 0 l : Nat)) := by
  have ha := atoi_num hd hne
  by_cases h : digV 0 l < 9223372036854775808
  · rw [if_pos h] at ha
    exact ⟨_, fun S => call_ext sp_strconv_Atoi S (by simp only [atoiX, ha]; rw [if_pos (by omega)]; simp [h]), fun _ => rfl⟩
  · rw [if_neg h] at ha
    exact ⟨Lib.atoiSat l, fun S => call_ext sp_strconv_Atoi S (by simp only [atoiX, ha]; rw [if_pos (by omega)]; simp [h]), fun e => absurd e h⟩
/-- lex.number: what numS tells. -/
theorem r_number (t : LTokens) (g : Nat) (z : Bool) (h : TI t.text) (hne : t.text.left.takeWhile (inC [3]) ≠ []) : match numS t.text.left with
    | none => ∃ (x : Token) (t' : LTokens), t'.out = t.out ∧ R_lex_tokens_number t g z x false t' g z
    | some (x, n) => R_lex_tokens_number t g z x true (LTokens.mk (takeT t.text n) t.out) g z := by
  have h1 := h.1
  have hd := Dg_take t.text.left
  have hw := r_word h [3] (by decide)
  have hl := spanS_le [3] t.text.left
  unfold spanS at hw hl
  unfold numS
  generalize t.text.left.takeWhile (inC [3]) = d at *
  obtain ⟨v, ha, hv⟩ := r_Atoi hd hne (by omega)
  by_cases hb : digV 0 d < 9223372036854775808
  · obtain rfl := hv hb
    have hi := itoa_num hd hne
    by_cases h0 : d.head? = some 48 → d.length = 1
    · rw [if_pos ⟨hb, h0⟩]
      apply lex_tokens_number_tree
      refine ⟨_, _, hw, _, _, ha, fun e => ?_, fun _ => ⟨_, r_Itoa _ ⟨by omega, by omega⟩, rfl, ?_, rfl, rfl, rfl⟩⟩
      · simp [hb] at e
      · exact decide_eq_true (hi.2 h0)
    · rw [if_neg (fun e => h0 e.2)]
      refine ⟨_, LTokens.mk (takeT t.text d.length) t.out, rfl, lex_tokens_number_tree _ _ _ _ _ _ _ _ ⟨_, _, hw, _, _, ha, fun e => ?_, fun _ => ⟨_, r_Itoa _ ⟨by omega, by omega⟩, rfl, ?_, rfl, rfl, rfl⟩⟩⟩
      · simp [hb] at e
      · exact decide_eq_false (fun e => h0 (hi.1 e))
  · rw [if_neg (fun e => hb e.1)]
    exact ⟨_, LTokens.mk (takeT t.text d.length) t.out, rfl, lex_tokens_number_tree _ _ _ _ _ _ _ _ ⟨_, _, hw, _, _, ha, fun _ => ⟨rfl, rfl, rfl, rfl, rfl⟩, fun e => absurd (decide_eq_true hb) e⟩⟩
/-! ### The other side -/
def atT (x : Token) (i : Int) : Token := ⟨x.Kind, x.Text, x.Num, x.Parts, i⟩
end Go.Proofs.YtfbcnpbhhooapaaGreatDoor.M

/- Lex: quoted texts: the whole of lex.quoted; and ref1.text follows Qx. -/
namespace Go.Proofs.YtfbcnpbhhooapaaGreatDoor.M
set_option linter.unusedSimpArgs false
set_option linter.unusedVariables false
open Go Classical
/-- lex.quoted: what Qx tells, behind the first sign. -/
theorem r_quoted (t : LTokens) (g : Nat) (z : Bool) (h : TI t.text) {u : List UInt8} (e : t.text.left = 34 :: u) {r : Option (List Part × Nat)} (hq : Qx u [] [] r) : match r with
    | none => ∃ t' : LTokens, t'.out = t.out ∧ R_lex_tokens_quoted t g z (Token.mk 0 [] 0 [] 0) false t' g z
    | some (ps, n) => n + 1 ≤ t.text.left.length ∧ R_lex_tokens_quoted t g z (Token.mk 2 [] 0 ps 0) true (LTokens.mk (takeT t.text (n + 1)) t.out) g z := by
  have hlen : 1 ≤ t.text.left.length := by rw [e]; simp
  have h1 := h.1
  have hu : u.length ≤ 6000 := by rw [e] at h1; simp at h1; omega
  have hl : (takeT t.text 1).left = u := by simp only [takeT, e]; rfl
  have key := r_quoted_loop hq 0 (LTokens.mk (takeT t.text 1) t.out) g z hl (h.take hlen) (.inl rfl) (by simp; omega) (by simp; omega)
  cases r with
  | none =>
    obtain ⟨t', ho, hA⟩ := key
    exact ⟨t', ho, lex_tokens_quoted_tree _ _ _ _ _ _ _ _ ⟨_, _, r_take h hlen, hA⟩⟩
  | some q =>
    obtain ⟨ps, n⟩ := q
    obtain ⟨hn, hA⟩ := key
    simp only [takeT_takeT] at hA
    simp only at hn
    rw [hl] at hn
    refine ⟨by rw [e]; simp; omega, lex_tokens_quoted_tree _ _ _ _ _ _ _ _ ⟨_, _, r_take h hlen, ?_⟩⟩
    rw [Nat.add_comm n 1]
    exact hA
/-! ### The other side -/
def TOut (s : List UInt8) (i k : Nat) (l : List Part) (b : List UInt8) : Option (List Part × Nat) → Prop
  | none => At_ref1_text_1 s i k 0 [] 0 0 [] 0 l b (Token.mk 0 [] 0 [] 0) 0
  | some (ps, n) => At_ref1_text_1 s i k 0 [] 0 0 [] 0 l b (Token.mk 2 [] 0 ps i) ((k : Int) + n - i)
theorem TOut.next {s : List UInt8} {i k : Nat} {l l2 : List Part} {b b2 : List UInt8} {m : Nat} (step : ∀ ra rb, At_ref1_text_1 s i ((k + m : Nat) : Int) 0 [] 0 0 [] 0 l2 b2 ra rb → At_ref1_text_1 s i k 0 [] 0 0 [] 0 l b ra rb) {r : Option (List Part × Nat)} (h : TOut s i (k + m) l2 b2 r) : TOut s i k l b (r.map fun q => (q.1, q.2 + m)) := by
  cases r with
  | none => exact step _ _ h
  | some q =>
    obtain ⟨ps, n⟩ := q
    have := step _ _ h
    simp only [TOut, Option.map_some]
    rw [show (k : Int) + ((n + m : Nat) : Int) - (i : Int) = ((k + m : Nat) : Int) + (n : Int) - (i : Int) by omega]
    exact this
end Go.Proofs.YtfbcnpbhhooapaaGreatDoor.M

/- Lex: a token, on both sides. -/
namespace Go.Proofs.YtfbcnpbhhooapaaGreatDoor.M
set_option linter.unusedSimpArgs false
set_option linter.unusedVariables false
open Go Classical
theorem cls5 (c : UInt8) : clsS c = 5 ↔ c = 35 := by
  have e : c = 35 ↔ c.toNat = 35 := by rw [← UInt8.toNat_inj]; rfl
  rw [e]
  unfold clsS
  repeat' split
  all_goals (first | omega | (constructor <;> intro h <;> first | omega | exact absurd h (by decide)))
/-- A token that stands at the beginning, and how long it is; none: none may stand there. -/
inductive Tok : List UInt8 → Option (Token × Nat) → Prop
  | name (c : UInt8) (u : List UInt8) (h : clsS c = 2) : Tok (c :: u) (if ((c :: u).takeWhile (inC [2, 3])).length ≤ 24 then some (Token.mk 3 ((c :: u).takeWhile (inC [2, 3])) 0 [] 0, spanS [2, 3] (c :: u)) else none)
  | num (c : UInt8) (u : List UInt8) (h : clsS c = 3) : Tok (c :: u) (numS (c :: u))
  | text (u : List UInt8) (r : Option (List Part × Nat)) (h : Qx u [] [] r) : Tok (34 :: u) (r.map fun q => (Token.mk 2 [] 0 q.1 0, q.2 + 1))
  | sign (c : UInt8) (u : List UInt8) (h2 : clsS c ≠ 2) (h3 : clsS c ≠ 3) (h4 : clsS c ≠ 4) : Tok (c :: u) (if signS (c :: u) = [] then none else some (Token.mk 4 (signS (c :: u)) 0 [] 0, (signS (c :: u)).length))
theorem Qx_len {t : List UInt8} {l : List Part} {b : List UInt8} {r : Option (List Part × Nat)} (h : Qx t l b r) : ∀ q, r = some q → 0 < q.2 ∧ q.2 ≤ t.length := by
  induction h with
  | nil | low | esc0 | escbad | refbad => intro q hq; cases hq
  | shut t l b => intro q hq; obtain rfl := Option.some.inj hq; simp
  | esc x y t l b r hx _ ih =>
    intro q hq
    obtain ⟨q0, h0, rfl⟩ := Option.map_eq_some_iff.1 hq
    have := ih q0 h0
    simp only [List.length_cons]
    omega
  | ref t l b r hr _ ih =>
    intro q hq
    obtain ⟨q0, h0, rfl⟩ := Option.map_eq_some_iff.1 hq
    have := ih q0 h0
    have h1 := refS_len hr
    simp only [List.length_cons, List.length_drop] at this ⊢
    omega
  | plain c t l b r c1 c2 c3 c4 _ ih =>
    intro q hq
    obtain ⟨q0, h0, rfl⟩ := Option.map_eq_some_iff.1 hq
    have := ih q0 h0
    simp only [List.length_cons]
    omega
theorem span_pos {cl : List Int} {c : UInt8} (u : List UInt8) (h : inC cl c = true) : 0 < spanS cl (c :: u) := by
  unfold spanS
  rw [List.takeWhile_cons, if_pos h]
  simp
theorem signS_len (c : UInt8) (u : List UInt8) : (signS (c :: u)).length ≤ (c :: u).length := by
  cases u with
  | nil => simp only [signS, sign1]; split <;> simp
  | cons b u => simp only [signS, sign2, sign1]; repeat' split <;> simp
theorem Tok_len {t : List UInt8} {r : Option (Token × Nat)} (h : Tok t r) : ∀ q, r = some q → 0 < q.2 ∧ q.2 ≤ t.length := by
  cases h with
  | name c u h =>
    intro q hq
    split at hq
    · obtain rfl := Option.some.inj hq
      exact ⟨span_pos u ((inC23 c).2 (.inl h)), spanS_le _ _⟩
    · cases hq
  | num c u h =>
    intro q hq
    unfold numS at hq
    split at hq
    · obtain rfl := Option.some.inj hq
      exact ⟨span_pos (cl := [3]) u (by unfold inC; simp [h]), spanS_le [3] _⟩
    · cases hq
  | text u r h =>
    intro q hq
    obtain ⟨q0, h0, rfl⟩ := Option.map_eq_some_iff.1 hq
    have := Qx_len h q0 h0
    simp only [List.length_cons]
    omega
  | sign c u h2 h3 h4 =>
    intro q hq
    split at hq
    · cases hq
    · rename_i hne
      obtain rfl := Option.some.inj hq
      exact ⟨List.length_pos_iff.2 hne, signS_len c u⟩
theorem takeWhile_idem (p : UInt8 → Bool) : ∀ l : List UInt8, (l.takeWhile p).takeWhile p = l.takeWhile p
  | [] => rfl
  | c :: l => by
    rw [List.takeWhile_cons]
    split
    · rename_i h
      rw [List.takeWhile_cons, if_pos h, takeWhile_idem p l]
    · rfl
theorem name_word {c : UInt8} (u : List UInt8) (h : clsS c = 2) : nameS ((c :: u).takeWhile (inC [2, 3])) = decide (((c :: u).takeWhile (inC [2, 3])).length ≤ 24) := by
  have hc : inC [2, 3] c = true := (inC23 c).2 (.inl h)
  have hi := takeWhile_idem (inC [2, 3]) (c :: u)
  rw [List.takeWhile_cons, if_pos hc] at hi ⊢
  unfold nameS
  refine decide_eq_decide.2 ⟨fun e => e.2.1, fun e => ⟨by simp, e, ?_⟩⟩
  rw [endS, if_pos h, spanS, hi]
theorem dig_ne {c : UInt8} (u : List UInt8) (h : clsS c = 3) : (c :: u).takeWhile (inC [3]) ≠ [] := by
  rw [List.takeWhile_cons, if_pos (by unfold inC; simp [h])]
  simp
def NextP (t : LTokens) (g : Nat) (z : Bool) : Option (Token × Nat) → Prop
  | none => ∃ t', R_lex_tokens_next t g z false t' g z
  | some (x, n) => R_lex_tokens_next t g z true (LTokens.mk (takeT t.text n) (t.out ++ [atT x t.text.pos])) g z
/-- lex.next: what Tok tells. -/
theorem r_next (t : LTokens) (g : Nat) (z : Bool) (h : TI t.text) (ho : t.out.length ≤ 6000) {r : Option (Token × Nat)} {l : List UInt8} (hl : t.text.left = l) (hk : Tok l r) : NextP t g z r := by
  have big : bigRow (t.out.length + 1) 64 := ⟨by omega, by omega, by decide⟩
  cases hk with
  | name c u hc =>
    have hn := r_name t g z h
    rw [hl, name_word u hc] at hn
    have hd : t.text.left[0]? = some c := by rw [hl]; rfl
    by_cases hlen : ((c :: u).takeWhile (inC [2, 3])).length ≤ 24
    rotate_left
    · rw [if_neg hlen]
      · rw [decide_eq_false hlen] at hn
        exact ⟨_, lex_tokens_next_tree _ _ _ _ _ _ _ ⟨c, hd, _, r_class c, fun _ => ⟨_, _, _, _, _, hn, big, rfl, rfl, rfl, rfl⟩, fun e => absurd hc e⟩⟩
    · rw [if_pos hlen]
      · rw [decide_eq_true hlen] at hn
        exact lex_tokens_next_tree _ _ _ _ _ _ _ ⟨c, hd, _, r_class c, fun _ => ⟨_, _, _, _, _, hn, big, rfl, rfl, rfl, rfl⟩, fun e => absurd hc e⟩
  | num c u hc =>
    have hd : t.text.left[0]? = some c := by rw [hl]; rfl
    have hn := r_number t g z h (by rw [hl]; exact dig_ne u hc)
    rw [hl] at hn
    have h2 : clsS c ≠ 2 := by omega
    revert hn
    generalize numS (c :: u) = q
    intro hn
    rcases q with _ | ⟨x, n⟩
    · obtain ⟨x, t', ho', hn⟩ := hn
      exact ⟨_, lex_tokens_next_tree _ _ _ _ _ _ _ ⟨c, hd, _, r_class c, fun e => absurd e h2, fun _ => ⟨fun _ => ⟨_, _, _, _, _, hn, by rw [ho']; exact big, rfl, rfl, rfl, rfl⟩, fun e => absurd hc e⟩⟩⟩
    · exact lex_tokens_next_tree _ _ _ _ _ _ _ ⟨c, hd, _, r_class c, fun e => absurd e h2, fun _ => ⟨fun _ => ⟨_, _, _, _, _, hn, big, rfl, rfl, rfl, rfl⟩, fun e => absurd hc e⟩⟩
  | text u q hq =>
    have hd : t.text.left[0]? = some 34 := by rw [hl]; rfl
    have hn := r_quoted t g z h hl hq
    have h4 : clsS 34 = 4 := (cls4 34).2 rfl
    cases q with
    | none =>
      obtain ⟨t', ho', hn⟩ := hn
      exact ⟨_, lex_tokens_next_tree _ _ _ _ _ _ _ ⟨34, hd, _, r_class 34, fun e => by omega, fun _ => ⟨fun e => by omega, fun _ => ⟨fun _ => ⟨_, _, _, _, _, hn, by rw [ho']; exact big, rfl, rfl, rfl, rfl⟩, fun e => absurd h4 e⟩⟩⟩⟩
    | some p =>
      obtain ⟨ps, n⟩ := p
      exact lex_tokens_next_tree _ _ _ _ _ _ _ ⟨34, hd, _, r_class 34, fun e => by omega, fun _ => ⟨fun e => by omega, fun _ => ⟨fun _ => ⟨_, _, _, _, _, hn.2, big, rfl, rfl, rfl, rfl⟩, fun e => absurd h4 e⟩⟩⟩
  | sign c u h2 h3 h4 =>
    have hd : t.text.left[0]? = some c := by rw [hl]; rfl
    have hn := r_sign t g z h (by rw [hl]; simp)
    rw [hl] at hn
    by_cases he : signS (c :: u) = []
    · rw [if_pos he]
      · rw [if_pos he, if_pos he, decide_eq_false (fun e => e he)] at hn
        exact ⟨_, lex_tokens_next_tree _ _ _ _ _ _ _ ⟨c, hd, _, r_class c, fun e => absurd e h2, fun _ => ⟨fun e => absurd e h3, fun _ => ⟨fun e => absurd e h4, fun _ => ⟨_, _, _, _, _, hn, big, rfl, rfl, rfl, rfl⟩⟩⟩⟩⟩
    · rw [if_neg he]
      · rw [if_neg he, if_neg he, decide_eq_true he] at hn
        exact lex_tokens_next_tree _ _ _ _ _ _ _ ⟨c, hd, _, r_class c, fun e => absurd e h2, fun _ => ⟨fun e => absurd e h3, fun _ => ⟨fun e => absurd e h4, fun _ => ⟨_, _, _, _, _, hn, big, rfl, rfl, rfl, rfl⟩⟩⟩⟩
end Go.Proofs.YtfbcnpbhhooapaaGreatDoor.M

/- Lex: all tokens of a text (Lx), on both sides; and a function that reckons them. -/
namespace Go.Proofs.YtfbcnpbhhooapaaGreatDoor.M
set_option linter.unusedSimpArgs false
set_option linter.unusedVariables false
open Go Classical
/-- What a text's tokens are, from a place on; none: an error. -/
inductive Lx : List UInt8 → Int → Option (List Token) → Prop
  | nil (p : Int) : Lx [] p (some [Token.mk 0 [] 0 [] p])
  | gap (c : UInt8) (t : List UInt8) (p : Int) (r : Option (List Token)) (hc : clsS c = 1) (h : Lx t (p + 1) r) : Lx (c :: t) p r
  | remark (t : List UInt8) (p : Int) (r : Option (List Token)) (h : Lx (t.dropWhile (· != 10)) (p + ((t.takeWhile (· != 10)).length + 1 : Nat)) r) : Lx (35 :: t) p r
  | bad (c : UInt8) (t : List UInt8) (p : Int) (h1 : clsS c ≠ 1) (h2 : clsS c ≠ 5) (h : Tok (c :: t) none) : Lx (c :: t) p none
  | tok (c : UInt8) (t : List UInt8) (p : Int) (x : Token) (n : Nat) (r : Option (List Token)) (h1 : clsS c ≠ 1) (h2 : clsS c ≠ 5) (h : Tok (c :: t) (some (x, n))) (h' : Lx ((c :: t).drop n) (p + n) r) : Lx (c :: t) p (r.map (atT x p :: ·))
def stands : List UInt8 → Prop
  | [] => True
  | c :: _ => clsS c ≠ 1 ∧ clsS c ≠ 5
theorem take0 (t : LText) : takeT t 0 = t := by
  unfold takeT
  simp
theorem takeWhile_all (p : UInt8 → Bool) : ∀ l : List UInt8, (∀ x ∈ l, p x = true) → l.takeWhile p = l
  | [], _ => rfl
  | c :: l, h => by rw [List.takeWhile_cons, if_pos (h c (by simp)), takeWhile_all p l (fun x hx => h x (by simp [hx]))]
theorem cut_line (s : List UInt8) : (Lib.cut s [10]).1 = s.takeWhile (· != 10) := by
  rw [cut1]
  split
  · rfl
  · rename_i h
    exact (takeWhile_all _ _ fun x hx => by
      simp only [bne_iff_ne, ne_eq]
      intro e
      exact h (e ▸ hx)).symm
theorem drop_line (t : List UInt8) : (35 :: t : List UInt8).drop ((t.takeWhile (· != 10)).length + 1) = t.dropWhile (· != 10) := by
  rw [List.drop_succ_cons]
  exact drop_while_len _ _
theorem line_len (t : List UInt8) : (t.takeWhile (· != 10)).length ≤ t.length := by
  have := congrArg List.length (List.takeWhile_append_dropWhile (p := (· != (10 : UInt8))) (l := t))
  rw [List.length_append] at this
  omega
theorem span1 {c : UInt8} (t : List UInt8) (h : clsS c = 1) : spanS [1] (c :: t) = spanS [1] t + 1 := by
  unfold spanS
  rw [List.takeWhile_cons, if_pos (by unfold inC; simp [h])]
  rfl
theorem span0 {c : UInt8} (t : List UInt8) (h : clsS c ≠ 1) : spanS [1] (c :: t) = 0 := by
  unfold spanS
  rw [List.takeWhile_cons, if_neg (by unfold inC; simp [h])]
  rfl
/-- lex.skip, behind its first blanks. -/
theorem r_skip_loop {l : List UInt8} {p : Int} {r : Option (List Token)} (h : Lx l p r) : ∀ (t : LTokens) (g : Nat) (z : Bool), t.text.left = l → t.text.pos = p → TI t.text →
    ∃ n, n ≤ l.length ∧ At_lex_tokens_skip_1 (LTokens.mk (takeT t.text (spanS [1] l)) t.out) g z (LTokens.mk (takeT t.text n) t.out) g z ∧ Lx (l.drop n) (p + n) r ∧ stands (l.drop n) := by
  induction h with
  | nil p =>
    intro t g z e ep hT
    refine ⟨0, Nat.le_refl _, ?_, by simpa using Lx.nil p, trivial⟩
    apply At_lex_tokens_skip_1_step
    refine ⟨_, r_HasPrefix _ _, fun h => ?_, fun _ => ⟨rfl, rfl, rfl⟩⟩
    rw [show spanS [1] [] = 0 from rfl, take0, e] at h
    exact absurd h (by decide)
  | gap c t' p r hc _ ih =>
    intro t g z e ep hT
    have h1 : 1 ≤ t.text.left.length := by rw [e]; simp
    obtain ⟨n, hn, hA, hL, hs⟩ := ih (LTokens.mk (takeT t.text 1) t.out) g z (by simp only [takeT, e]; rfl) (by simp only [takeT, ep]; rfl) (hT.take h1)
    simp only [takeT_takeT] at hA
    refine ⟨n + 1, by simp; omega, ?_, ?_, by rw [List.drop_succ_cons]; exact hs⟩
    · rw [span1 t' hc, Nat.add_comm (spanS [1] t') 1, Nat.add_comm n 1]
      exact hA
    · rw [List.drop_succ_cons, show p + ((n + 1 : Nat) : Int) = p + 1 + (n : Int) by omega]
      exact hL
  | remark t' p r _ ih =>
    intro t g z e ep hT
    have hll := line_len t'
    have h1 : (t'.takeWhile (· != 10)).length + 1 ≤ t.text.left.length := by rw [e]; simp; omega
    have hT1 := hT.1
    obtain ⟨n, hn, hA, hL, hs⟩ := ih (LTokens.mk (takeT t.text ((t'.takeWhile (· != 10)).length + 1)) t.out) g z (by simp only [takeT, e]; exact drop_line t') (by simp only [takeT, ep]) (hT.take h1)
    simp only [takeT_takeT] at hA
    have hdl : (t'.dropWhile (· != 10)).length = t'.length - (t'.takeWhile (· != 10)).length := by rw [← drop_while_len, List.length_drop]
    have hsp : spanS [1] (35 :: t') = 0 := span0 t' (by decide)
    refine ⟨(t'.takeWhile (· != 10)).length + 1 + n, by simp; omega, ?_, ?_, ?_⟩
    · rw [hsp, take0]
      apply At_lex_tokens_skip_1_step
      have hcut : (Lib.cut t.text.left [10]).1 = 35 :: t'.takeWhile (· != 10) := by
        rw [cut_line, e, List.takeWhile_cons, if_pos (by decide)]
      have hR := r_Cut t.text.left [10] (by omega)
      have hTk := r_take hT (n := (35 :: t'.takeWhile (· != 10)).length) (by simpa using h1)
      have hT2 : TI (takeT t.text (35 :: t'.takeWhile (· != 10)).length) := hT.take (by simpa using h1)
      have hW := r_word hT2 [1] (by decide)
      rw [hcut] at hR
      refine ⟨_, r_HasPrefix _ _, fun _ => ⟨_, _, _, hR, _, _, hTk, _, _, hW, ?_⟩, fun h => absurd (by rw [e]; rfl) h⟩
      have hle : (takeT t.text (35 :: t'.takeWhile (· != 10)).length).left = t'.dropWhile (· != 10) := by
        simp only [takeT, e, List.length_cons]; exact drop_line t'
      rw [hle, takeT_takeT]
      exact hA
    · rw [← List.drop_drop, drop_line, show p + (((t'.takeWhile (· != 10)).length + 1 + n : Nat) : Int) = p + (((t'.takeWhile (· != 10)).length + 1 : Nat) : Int) + (n : Int) by omega]
      exact hL
    · rw [← List.drop_drop, drop_line]
      exact hs
  | bad c t' p c1 c2 hk =>
    intro t g z e ep hT
    refine ⟨0, Nat.zero_le _, ?_, by simpa using Lx.bad c t' p c1 c2 hk, ⟨c1, c2⟩⟩
    rw [span0 t' c1]
    apply At_lex_tokens_skip_1_step
    refine ⟨_, r_HasPrefix _ _, fun h => ?_, fun _ => ⟨rfl, rfl, rfl⟩⟩
    rw [take0, e] at h
    exfalso
    apply c2
    rw [cls5]
    symm
    simpa [Lib.hasPrefix] using h
  | tok c t' p x n r c1 c2 hk h' _ =>
    intro t g z e ep hT
    refine ⟨0, Nat.zero_le _, ?_, by simpa using Lx.tok c t' p x n r c1 c2 hk h', ⟨c1, c2⟩⟩
    rw [span0 t' c1]
    apply At_lex_tokens_skip_1_step
    refine ⟨_, r_HasPrefix _ _, fun h => ?_, fun _ => ⟨rfl, rfl, rfl⟩⟩
    rw [take0, e] at h
    exfalso
    apply c2
    rw [cls5]
    symm
    simpa [Lib.hasPrefix] using h
theorem r_skip {l : List UInt8} {p : Int} {r : Option (List Token)} (h : Lx l p r) (t : LTokens) (g : Nat) (z : Bool) (e : t.text.left = l) (ep : t.text.pos = p) (hT : TI t.text) :
    ∃ n, n ≤ l.length ∧ R_lex_tokens_skip t g z (LTokens.mk (takeT t.text n) t.out) g z ∧ Lx (l.drop n) (p + n) r ∧ stands (l.drop n) := by
  obtain ⟨n, hn, hA, hL, hs⟩ := r_skip_loop h t g z e ep hT
  refine ⟨n, hn, lex_tokens_skip_tree _ _ _ _ _ _ ⟨_, _, r_word hT [1] (by decide), ?_⟩, hL, hs⟩
  rw [e]
  exact hA
def lexL : Option (List Token) → List Token
  | none => []
  | some l => l
def lexE : Option (List Token) → Int
  | none => 5
  | some _ => 0
def lexP (out : List Token) : Option (List Token) → List Token
  | none => []
  | some l => out ++ l
theorem r_Lex_loop : ∀ (m : Nat) (l : List UInt8) (p : Int) (r : Option (List Token)), Lx l p r → stands l → l.length ≤ m → ∀ (out : List Token) (g : Nat) (z : Bool), TI ⟨l, p⟩ → (out.length : Int) ≤ p → At_lex_Lex_1 l p out g z (lexP out r) (lexE r) := by
  intro m
  induction m with
  | zero =>
    intro l p r h hs hm out g z hT ho
    have : l = [] := List.length_eq_zero_iff.1 (by omega)
    subst this
    cases h
    have h3 := hT.2.2
    simp only [List.length_nil] at h3
    apply At_lex_Lex_1_step
    exact ⟨fun _ => ⟨⟨by omega, by omega, by decide⟩, rfl, rfl⟩, fun h => absurd rfl h⟩
  | succ m ih =>
    intro l p r h hs hm out g z hT ho
    have h3 := hT.2.2
    cases h with
    | nil =>
      simp only [List.length_nil] at h3
      apply At_lex_Lex_1_step
      exact ⟨fun _ => ⟨⟨by omega, by omega, by decide⟩, rfl, rfl⟩, fun h => absurd rfl h⟩
    | gap c t _ _ hc h => exact absurd hc hs.1
    | remark t _ _ h => exact absurd ((cls5 35).2 rfl) hs.2
    | bad c t _ c1 c2 hk =>
      have hl0 := hT.1
      simp only at hl0 h3
      obtain ⟨t', hn⟩ := r_next (LTokens.mk ⟨c :: t, p⟩ out) g z hT (by simp only; omega) rfl hk
      apply At_lex_Lex_1_step
      exact ⟨fun h => by simp at h, fun _ => ⟨_, _, _, _, hn, fun h => (by cases h), fun _ => ⟨rfl, rfl⟩⟩⟩
    | tok c t _ x n r' c1 c2 hk h' =>
      have hl0 := hT.1
      simp only at hl0 h3
      have hn := r_next (LTokens.mk ⟨c :: t, p⟩ out) g z hT (by simp only; omega) rfl hk
      obtain ⟨n0, n1⟩ := Tok_len hk _ rfl
      simp only at n0 n1
      simp only [NextP] at hn
      have hT2 : TI (takeT ⟨c :: t, p⟩ n) := hT.take n1
      obtain ⟨k, hk1, hS, hL, hst⟩ := r_skip h' (LTokens.mk (takeT ⟨c :: t, p⟩ n) (out ++ [atT x p])) g z rfl rfl hT2
      have hT3 : TI (takeT (takeT ⟨c :: t, p⟩ n) k) := hT2.take hk1
      have hlen : ((c :: t).drop n).length = (c :: t).length - n := List.length_drop
      have hlen2 : (((c :: t).drop n).drop k).length = (c :: t).length - n - k := by rw [List.length_drop, hlen]
      have key := ih _ _ _ hL hst (by omega) (out ++ [atT x p]) g z hT3 (by simp; omega)
      apply At_lex_Lex_1_step
      refine ⟨fun h => by simp at h, fun _ => ⟨_, _, _, _, hn, fun _ => ⟨_, _, _, hS, ?_⟩, fun h => absurd rfl h⟩⟩
      cases r' with
      | none => exact key
      | some l' =>
        have e : lexP (out ++ [atT x p]) (some l') = lexP out ((some l').map (atT x p :: ·)) := by simp [lexP]
        rw [e] at key
        exact key
/-- lex.Lex. -/
theorem r_Lex {s : List UInt8} (hs : s.length ≤ 6000) {r : Option (List Token)} (h : Lx s 0 r) : R_lex_Lex s (lexL r) (lexE r) := by
  have hT : TI ⟨s, 0⟩ := ⟨hs, Int.le_refl _, by simp only; omega⟩
  obtain ⟨k, hk1, hS, hL, hst⟩ := r_skip h (LTokens.mk ⟨s, 0⟩ []) 0 false rfl rfl hT
  have hT2 : TI (takeT ⟨s, 0⟩ k) := hT.take hk1
  have key := r_Lex_loop _ _ _ _ hL hst (Nat.le_refl _) [] 0 false hT2 (by simp)
  have e : lexP [] r = lexL r := by cases r <;> rfl
  rw [e] at key
  apply lex_Lex_tree
  exact ⟨fun h => by omega, fun _ => ⟨_, _, _, hS, key⟩⟩
/-! ### The other side -/
/-! ### As functions -/
def quoF : Nat → List UInt8 → List Part → List UInt8 → Option (List Part × Nat)
  | 0, _, _, _ => none
  | _ + 1, [], _, _ => none
  | n + 1, c :: t, l, b =>
    if c = 34 then some (joinP l b, 1)
    else if c.toNat < 32 then none
    else if c = 92 then
      match t with
      | [] => none
      | x :: t => match escS x with | none => none | some y => (quoF n t l (b ++ [y])).map fun q => (q.1, q.2 + 2)
    else if c = 36 ∧ t.head? = some 123 then
      if (refS t.tail).2 = true then (quoF n (t.tail.drop ((refS t.tail).1.length + 1)) (joinP l b ++ [Part.mk true (refS t.tail).1]) []).map fun q => (q.1, q.2 + (3 + (refS t.tail).1.length)) else none
    else (quoF n t l (b ++ [c])).map fun q => (q.1, q.2 + 1)
theorem quoF_ok : ∀ (n : Nat) (t : List UInt8) (l : List Part) (b : List UInt8), t.length < n → Qx t l b (quoF n t l b)
  | 0, t, l, b, h => by omega
  | n + 1, [], l, b, h => .nil l b
  | n + 1, c :: t, l, b, h => by
    simp only [List.length_cons] at h
    unfold quoF
    split
    · rename_i c1; subst c1; exact .shut t l b
    · rename_i c1
      split
      · rename_i c2; exact .low c t l b c1 c2
      · rename_i c2
        split
        · rename_i c3
          subst c3
          cases t with
          | nil => exact .esc0 l b
          | cons x t =>
            dsimp only
            cases hx : escS x with
            | none => exact .escbad x t l b hx
            | some y => exact .esc x y t l b _ hx (quoF_ok n t l (b ++ [y]) (by simp only [List.length_cons] at h; omega))
        · rename_i c3
          split
          · rename_i c4
            obtain ⟨rfl, h5⟩ := c4
            cases t with
            | nil => cases h5
            | cons x t =>
              obtain rfl : x = 123 := Option.some.inj h5
              simp only [List.length_cons] at h
              split
              · rename_i hx; exact .ref t l b _ hx (quoF_ok n _ _ _ (by simp; omega))
              · rename_i hx; exact .refbad t l b (by simpa using hx)
          · rename_i c4
            exact .plain c t l b _ c1 c2 c3 (fun e e2 => c4 ⟨e, e2⟩) (quoF_ok n t l (b ++ [c]) (by omega))
def tokF : List UInt8 → Option (Token × Nat)
  | [] => none
  | c :: u =>
    if clsS c = 2 then (if ((c :: u).takeWhile (inC [2, 3])).length ≤ 24 then some (Token.mk 3 ((c :: u).takeWhile (inC [2, 3])) 0 [] 0, spanS [2, 3] (c :: u)) else none)
    else if clsS c = 3 then numS (c :: u)
    else if clsS c = 4 then (quoF (u.length + 1) u [] []).map fun q => (Token.mk 2 [] 0 q.1 0, q.2 + 1)
    else if signS (c :: u) = [] then none else some (Token.mk 4 (signS (c :: u)) 0 [] 0, (signS (c :: u)).length)
theorem tokF_ok (c : UInt8) (u : List UInt8) : Tok (c :: u) (tokF (c :: u)) := by
  simp only [tokF]
  split
  · rename_i h; exact .name c u h
  · rename_i h2
    split
    · rename_i h; exact .num c u h
    · rename_i h3
      split
      · rename_i h4
        obtain rfl := (cls4 c).1 h4
        exact .text u _ (quoF_ok _ u [] [] (by omega))
      · rename_i h4; exact .sign c u h2 h3 h4
def lexF : Nat → List UInt8 → Int → Option (List Token)
  | 0, _, _ => none
  | _ + 1, [], p => some [Token.mk 0 [] 0 [] p]
  | n + 1, c :: t, p =>
    if clsS c = 1 then lexF n t (p + 1)
    else if clsS c = 5 then lexF n (t.dropWhile (· != 10)) (p + ((t.takeWhile (· != 10)).length + 1 : Nat))
    else match tokF (c :: t) with
      | none => none
      | some (x, k) => (lexF n ((c :: t).drop k) (p + k)).map (atT x p :: ·)
theorem lexF_ok : ∀ (n : Nat) (t : List UInt8) (p : Int), t.length < n → Lx t p (lexF n t p)
  | 0, t, p, h => by omega
  | n + 1, [], p, h => .nil p
  | n + 1, c :: t, p, h => by
    simp only [List.length_cons] at h
    have ht := tokF_ok c t
    unfold lexF
    split
    · rename_i c1; exact .gap c t p _ c1 (lexF_ok n t _ (by omega))
    · rename_i c1
      split
      · rename_i c2
        obtain rfl := (cls5 c).1 c2
        have := line_len t
        have hdl : (t.dropWhile (· != 10)).length = t.length - (t.takeWhile (· != 10)).length := by rw [← drop_while_len, List.length_drop]
        exact .remark t p _ (lexF_ok n _ _ (by omega))
      · rename_i c2
        split
        · rename_i hk
          rw [hk] at ht
          exact .bad c t p c1 c2 ht
        · rename_i x k hk
          rw [hk] at ht
          have := Tok_len ht _ rfl
          exact .tok c t p x k _ c1 c2 ht (lexF_ok n _ _ (by simp only [List.length_drop, List.length_cons] at this ⊢; omega))
def lexS (s : List UInt8) : Option (List Token) := lexF (s.length + 1) s 0
theorem lexS_ok (s : List UInt8) : Lx s 0 (lexS s) := lexF_ok _ s 0 (Nat.lt_succ_self _)
end Go.Proofs.YtfbcnpbhhooapaaGreatDoor.M

/- Lex: labels (lex.Label). -/
namespace Go.Proofs.YtfbcnpbhhooapaaGreatDoor.M
set_option linter.unusedSimpArgs false
set_option linter.unusedVariables false
open Go Classical
/-! ### Labels -/
theorem rep1 (a b : UInt8) : ∀ (n : Nat) (s : List UInt8), s.length ≤ n → Lib.replaceK [a] [b] (s.count a) s = s.map (fun c => if c = a then b else c)
  | 0, s, h => by
    have : s = [] := List.length_eq_zero_iff.1 (by omega)
    subst this
    rfl
  | n + 1, s, h => by
    by_cases hm : a ∈ s
    · obtain ⟨u, v, rfl, hu⟩ := splitAt_first a s hm
      have h1 : (u ++ a :: v).takeWhile (· != a) = u := takeWhile_stop _ u a v (fun x hx => by simp; intro e; exact hu (e ▸ hx)) (by simp)
      have hi : Lib.index (u ++ a :: v) [a] = (u.length : Nat) := by rw [index1, if_pos hm, h1]
      have hc : (u ++ a :: v).count a = v.count a + 1 := by
        rw [List.count_append, List.count_cons_self, List.count_eq_zero_of_not_mem hu]
        omega
      simp only [List.length_append, List.length_cons] at h
      rw [hc, Lib.replaceK_hit _ _ _ _ _ hi, List.take_left]
      have hd : (u ++ a :: v).drop (u.length + [a].length) = v := drop_mid a u v
      rw [hd, rep1 a b n v (by omega)]
      have hmu : u.map (fun c => if c = a then b else c) = u := by
        conv => rhs; rw [← List.map_id u]
        refine List.map_congr_left fun x hx => ?_
        rw [if_neg (show ¬ x = a from fun e => hu (e ▸ hx))]
        rfl
      simp [hmu]
    · rw [List.count_eq_zero_of_not_mem hm]
      show s = _
      conv => lhs; rw [← List.map_id s]
      refine List.map_congr_left fun x hx => ?_
      rw [if_neg (show ¬ x = a from fun e => hm (e ▸ hx))]
      rfl
def lblS (c : UInt8) : UInt8 := if c = 45 then 95 else c
theorem r_ReplaceAll (s : List UInt8) (hs : s.length ≤ 1000000) : R_strings_ReplaceAll s [45] [95] (s.map lblS) := by
  intro S
  refine call_ext sp_strings_ReplaceAll S ?_
  have hc : Lib.countB ⟨s.toArray⟩ ⟨([45] : List UInt8).toArray⟩ = s.count 45 := Lib.count_one 45 s
  have hle : s.count 45 ≤ s.length := List.count_le_length
  have hr : Lib.replaceAll s [45] [95] = s.map lblS := by
    unfold Lib.replaceAll Lib.replace Lib.replaceNum
    rw [if_neg (by decide), if_pos (.inl (by decide)), Lib.count_one, rep1 45 95 s.length s (Nat.le_refl _)]
    rfl
  simp only [replaceX, hc, hr]
  rw [if_pos]
  simp only [List.length_cons, List.length_nil]
  omega
/-- A label's bytes, behind its first one. -/
def lblC (c : UInt8) : Bool := decide ((97 ≤ c.toNat ∧ c.toNat ≤ 122) ∨ (48 ≤ c.toNat ∧ c.toNat ≤ 57) ∨ c.toNat = 45 ∨ c.toNat = 95)
def labelS : List UInt8 → Bool
  | [] => false
  | c :: u => decide (97 ≤ c.toNat ∧ c.toNat ≤ 122) && u.all lblC && decide (u.length + 1 ≤ 24)
theorem cls3 (c : UInt8) : clsS c = 3 ↔ 48 ≤ c.toNat ∧ c.toNat ≤ 57 := by
  have := inC3 c
  unfold inC at this
  simpa using this
theorem cls2 (c : UInt8) : clsS c = 2 ↔ c.toNat = 95 ∨ (97 ≤ c.toNat ∧ c.toNat ≤ 122) := by
  unfold clsS
  repeat' split
  all_goals (first | omega | (constructor <;> intro h <;> first | omega | exact absurd h (by decide)))
theorem lblC_in (c : UInt8) : inC [2, 3] (lblS c) = lblC c := by
  have h : inC [2, 3] (lblS c) = true ↔ lblC c = true := by
    rw [inC23, cls2, cls3]
    unfold lblS lblC
    rw [decide_eq_true_eq]
    by_cases h : c = 45
    · rw [if_pos h, h]; decide
    · have h' : c.toNat ≠ 45 := fun e => h (UInt8.toNat_inj.1 e)
      rw [if_neg h]
      omega
  cases h1 : inC [2, 3] (lblS c) <;> cases h2 : lblC c <;> simp_all
theorem span_all (cl : List Int) : ∀ l : List UInt8, spanS cl l = l.length ↔ ∀ c ∈ l, inC cl c = true
  | [] => by simp [spanS]
  | c :: l => by
    have ih := span_all cl l
    unfold spanS at ih ⊢
    rw [List.takeWhile_cons]
    by_cases h : inC cl c = true
    · rw [if_pos h]
      simp [h, ih]
    · rw [if_neg h]
      simp [h]
theorem name_map (c : UInt8) (u : List UInt8) : nameS ((c :: u).map lblS) = decide (clsS (lblS c) = 2 ∧ u.length + 1 ≤ 24 ∧ u.all lblC = true) := by
  unfold nameS
  refine decide_eq_decide.2 ?_
  simp only [List.map_cons, ne_eq, reduceCtorEq, not_false_eq_true, true_and, List.length_cons, List.length_map]
  rw [endS]
  by_cases h : clsS (lblS c) = 2
  · rw [if_pos h]
    have e : spanS [2, 3] (lblS c :: u.map lblS) = u.length + 1 ↔ ∀ x ∈ lblS c :: u.map lblS, inC [2, 3] x = true := by
      have := span_all [2, 3] (lblS c :: u.map lblS)
      simpa using this
    rw [e]
    simp only [h, true_and, List.mem_cons, List.mem_map, List.all_eq_true]
    constructor
    · intro ⟨h1, h2⟩
      refine ⟨h1, fun x hx => ?_⟩
      rw [← lblC_in]
      exact h2 _ (.inr ⟨x, hx, rfl⟩)
    · intro ⟨h1, h2⟩
      refine ⟨h1, fun x hx => ?_⟩
      rcases hx with rfl | ⟨y, hy, rfl⟩
      · rw [inC23]; exact .inl h
      · rw [lblC_in]; exact h2 y hy
  · rw [if_neg h]
    simp [h]
theorem r_lexLabel (s : List UInt8) (hs : s.length ≤ 1000000) : R_lex_Label s (labelS s) := by
  apply lex_Label_tree
  refine ⟨_, r_ReplaceAll s hs, _, r_lexName _ (by simpa using hs), ?_⟩
  cases s with
  | nil => exact ⟨fun h => absurd h (by decide), fun _ => rfl⟩
  | cons c u =>
    rw [name_map]
    refine ⟨fun h => ⟨c, rfl, fun h45 => ?_, fun h45 => ?_⟩, fun h => ?_⟩
    · simp only [labelS]
      rw [decide_eq_false (by omega)]
      rfl
    · obtain ⟨h1, h2, h3⟩ := of_decide_eq_true h
      have hc : ¬ c = 45 := fun e => h45 (by rw [e]; rfl)
      unfold lblS at h1
      rw [if_neg hc, cls2] at h1
      simp only [labelS]
      rw [h3, decide_eq_true h2, Bool.and_true, Bool.and_true]
      rw [← decide_not]
      exact decide_eq_decide.2 (by omega)
    · simp only [labelS]
      symm
      rw [← Bool.not_eq_true]
      intro h2
      apply h
      simp only [Bool.and_eq_true, decide_eq_true_eq] at h2
      refine decide_eq_true ⟨?_, h2.2, h2.1.2⟩
      rw [cls2]
      unfold lblS
      rw [if_neg (fun e => by have := h2.1.1; rw [e] at this; revert this; decide)]
      exact .inr h2.1.1
end Go.Proofs.YtfbcnpbhhooapaaGreatDoor.M

/- Parse: the tokens of a text are as the parser needs them; parse.Parse and parse.Expr of a text. -/
namespace Go.Proofs.YtfbcnpbhhooapaaGreatDoor.M
set_option linter.unusedSimpArgs false
set_option linter.unusedVariables false
open Go Classical
theorem joinP_mem {l : List Part} {b : List UInt8} {p : Part} (h : p ∈ joinP l b) : p ∈ l ∨ p.Text = b := by
  unfold joinP at h
  rcases List.mem_append.1 h with h | h
  · exact .inl h
  · split at h
    · cases h
    · simp at h
      subst h
      exact .inr rfl
theorem Qx_parts {t : List UInt8} {l : List Part} {b : List UInt8} {r : Option (List Part × Nat)} (h : Qx t l b r) : ∀ q, r = some q → ∀ p ∈ q.1, p ∈ l ∨ p.Text.length ≤ b.length + t.length := by
  induction h with
  | nil | low | esc0 | escbad | refbad => intro q hq; cases hq
  | shut t l b =>
    intro q hq p hp
    obtain rfl := Option.some.inj hq
    rcases joinP_mem hp with h | h
    · exact .inl h
    · right; rw [h]; omega
  | esc x y t l b r hx _ ih =>
    intro q hq p hp
    obtain ⟨q0, h0, rfl⟩ := Option.map_eq_some_iff.1 hq
    rcases ih q0 h0 p hp with h | h
    · exact .inl h
    · right; simp at h ⊢; omega
  | ref t l b r hr _ ih =>
    intro q hq p hp
    obtain ⟨q0, h0, rfl⟩ := Option.map_eq_some_iff.1 hq
    have h1 := refS_len hr
    rcases ih q0 h0 p hp with h | h
    · rcases List.mem_append.1 h with h | h
      · rcases joinP_mem h with h | h
        · exact .inl h
        · right; rw [h]; omega
      · simp at h
        subst h
        right
        simp
        omega
    · right; simp at h ⊢; omega
  | plain c t l b r c1 c2 c3 c4 _ ih =>
    intro q hq p hp
    obtain ⟨q0, h0, rfl⟩ := Option.map_eq_some_iff.1 hq
    rcases ih q0 h0 p hp with h | h
    · exact .inl h
    · right; simp at h ⊢; omega
theorem takeW_len (p : UInt8 → Bool) (l : List UInt8) : (l.takeWhile p).length ≤ l.length := (List.takeWhile_sublist p).length_le
theorem Tok_good {t : List UInt8} {r : Option (Token × Nat)} (h : Tok t r) : ∀ x n, r = some (x, n) → x.Kind ≠ 0 ∧ x.Text.length ≤ t.length ∧ ∀ p ∈ x.Parts, p.Text.length ≤ t.length := by
  cases h with
  | name c u h =>
    intro x n hx
    split at hx
    · cases hx
      exact ⟨by simp, takeW_len _ _, by simp⟩
    · cases hx
  | num c u h =>
    intro x n hx
    unfold numS at hx
    split at hx
    · cases hx
      exact ⟨by simp, by simp, by simp⟩
    · cases hx
  | text u r h =>
    intro x n hx
    obtain ⟨q, hq, e⟩ := Option.map_eq_some_iff.1 hx
    cases e
    refine ⟨by simp, by simp, fun p hp => ?_⟩
    rcases Qx_parts h q hq p hp with h | h
    · cases h
    · simp at h ⊢; omega
  | sign c u h2 h3 h4 =>
    intro x n hx
    split at hx
    · cases hx
    · cases hx
      exact ⟨by simp, signS_len c u, by simp⟩
theorem Lx_good {l : List UInt8} {p : Int} {r : Option (List Token)} (h : Lx l p r) : ∀ L, r = some L → W L ∧ L.length ≤ l.length + 1 ∧ ∀ t ∈ L, t.Text.length ≤ l.length ∧ ∀ q ∈ t.Parts, q.Text.length ≤ l.length := by
  induction h with
  | nil p =>
    intro L hL
    cases hL
    exact ⟨rfl, by simp, fun t ht => by simp at ht; subst ht; simp⟩
  | gap c t p r hc _ ih =>
    intro L hL
    obtain ⟨h1, h2, h3⟩ := ih L hL
    refine ⟨h1, by simp; omega, fun x hx => ?_⟩
    obtain ⟨h4, h5⟩ := h3 x hx
    exact ⟨by simp; omega, fun q hq => by have := h5 q hq; simp; omega⟩
  | remark t p r _ ih =>
    intro L hL
    obtain ⟨h1, h2, h3⟩ := ih L hL
    have hd : (t.dropWhile (· != 10)).length ≤ t.length := (List.dropWhile_sublist _).length_le
    refine ⟨h1, by simp; omega, fun x hx => ?_⟩
    obtain ⟨h4, h5⟩ := h3 x hx
    exact ⟨by simp; omega, fun q hq => by have := h5 q hq; simp; omega⟩
  | bad => intro L hL; cases hL
  | tok c t p x n r h1 h2 hk _ ih =>
    intro L hL
    obtain ⟨L0, h0, rfl⟩ := Option.map_eq_some_iff.1 hL
    obtain ⟨g1, g2, g3⟩ := Tok_good hk x n rfl
    obtain ⟨l1, l2⟩ := Tok_len hk (x, n) rfl
    obtain ⟨i1, i2, i3⟩ := ih L0 h0
    simp only [List.length_drop] at i2 i3
    simp only at l1 l2
    refine ⟨?_, by simp only [List.length_cons] at *; omega, fun y hy => ?_⟩
    · cases L0 with
      | nil => exact i1.elim
      | cons a L0 => exact ⟨g1, i1⟩
    · rcases List.mem_cons.1 hy with rfl | hy
      · exact ⟨g2, g3⟩
      · obtain ⟨h4, h5⟩ := i3 y hy
        exact ⟨by omega, fun q hq => by have := h5 q hq; omega⟩
theorem TL_of {s : List UInt8} {L : List Token} (hs : s.length ≤ 6000) (h : lexS s = some L) : TL L ∧ W L := by
  obtain ⟨h1, h2, h3⟩ := Lx_good (lexS_ok s) L h
  exact ⟨⟨by omega, fun t ht => by have := (h3 t ht).1; omega, fun t ht p hp => by have := (h3 t ht).2 p hp; omega⟩, h1⟩
/-- What a text is as a configuration: blocks, or an error. -/
def parseS (s : List UInt8) : PR (List Block) := match lexS s with | none => .er 5 | some L => confT labelS L
theorem r_ParseS (s : List UInt8) (hs : s.length ≤ 6000) : match parseS s with
    | .ok l _ _ => R_parse_Parse s l 0
    | .er e => e ≠ 0 → R_parse_Parse s [] e
    | .no => False := by
  have hx := r_Lex hs (lexS_ok s)
  unfold parseS
  cases hl : lexS s with
  | none => rw [hl] at hx; exact fun he => r_Parse_no hx he
  | some L =>
    rw [hl] at hx
    obtain ⟨h1, h2⟩ := TL_of hs hl
    exact r_ParseT hx h1 h2 r_lexLabel
theorem r_Parse_ok {s : List UInt8} (hs : s.length ≤ 6000) {l : List Block} {ts : List Token} {out : List Node} (h : parseS s = .ok l ts out) : R_parse_Parse s l 0 := by
  have := r_ParseS s hs
  rw [h] at this
  exact this
theorem r_Parse_er {s : List UInt8} (hs : s.length ≤ 6000) {e : Int} (h : parseS s = .er e) (he : e ≠ 0) : R_parse_Parse s [] e := by
  have := r_ParseS s hs
  rw [h] at this
  exact this he
end Go.Proofs.YtfbcnpbhhooapaaGreatDoor.M

/- The machine's code of the functions, printed by a program of this session (sc2.py) out of the translation. Not trusted: Lean checks each by its own computation. -/
namespace Go.Proofs.YtfbcnpbhhooapaaGreatDoor.M
open Go
set_option linter.unusedVariables false
/-- doorkeeper/doorkeeperlaw1.Num -/
def sc_law1_Num : SFunc := ⟨1, 4, .seq (.reg [⟨(some 2), none, (.v (.mov (.c (.int .i64 0))))⟩]) (.seq (.reg [⟨(some 3), none, (.v (.mov (.t 0)))⟩, ⟨(some 2), none, (.v (.mov (.t 3)))⟩]) .ret), [(.t 2)]⟩
theorem U_law1_Num : type_of% (sc_law1_Num.eq_1) := sc_law1_Num.eq_1
theorem comp_law1_Num : comp Tryz.prog Tryz.f18 = some sc_law1_Num := by kernel_rfl
/-- doorkeeper/doorkeeperlaw2.awake -/
def c_law2_awake_1 : SC := .seq (.reg [⟨(some 7), none, (.v (.mov (.t 2)))⟩, ⟨(some 8), none, (.call (.c (.func 18 [])) [(.t 7)])⟩, ⟨(some 9), none, (.v (.bin .eql (.t 8) (.c (.int .i64 0))))⟩, ⟨(some 10), none, (.v (.mov (.t 9)))⟩, ⟨(some 11), (some (10, true)), (.v (.mov (.t 1)))⟩, ⟨(some 12), (some (10, true)), (.v (.len false (.t 11)))⟩, ⟨(some 13), (some (10, true)), (.v (.bin .eql (.t 12) (.c (.int .i64 1))))⟩, ⟨(some 14), none, (.v (.pick (.t 10) (.t 13) (.c (.bool false))))⟩, ⟨(some 15), none, (.v (.mov (.t 14)))⟩, ⟨(some 16), (some (15, true)), (.v (.mov (.t 1)))⟩, ⟨(some 17), (some (15, true)), (.v (.iaddr 4 (.t 16) (.c (.int .i64 0))))⟩, ⟨(some 18), (some (15, true)), (.v (.faddr 0 (.t 17)))⟩, ⟨(some 19), (some (15, true)), (.v (.load none (.t 18)))⟩, ⟨(some 20), (some (15, true)), (.v (.bin .eql (.t 19) (.c (.int .i64 3))))⟩, ⟨(some 21), none, (.v (.pick (.t 15) (.t 20) (.c (.bool false))))⟩, ⟨(some 22), none, (.v (.mov (.t 21)))⟩, ⟨(some 23), (some (22, true)), (.v (.mov (.t 1)))⟩, ⟨(some 24), (some (22, true)), (.v (.iaddr 4 (.t 23) (.c (.int .i64 0))))⟩, ⟨(some 25), (some (22, true)), (.v (.faddr 1 (.t 24)))⟩, ⟨(some 26), (some (22, true)), (.v (.load none (.t 25)))⟩, ⟨(some 27), (some (22, true)), (.v (.bin .eql (.t 26) (.c (.str [97]))))⟩, ⟨(some 28), none, (.v (.pick (.t 22) (.t 27) (.c (.bool false))))⟩, ⟨(some 29), none, (.v (.mov (.t 28)))⟩, ⟨(some 30), (some (29, true)), (.v (.mov (.t 1)))⟩, ⟨(some 31), (some (29, true)), (.v (.iaddr 4 (.t 30) (.c (.int .i64 0))))⟩, ⟨(some 32), (some (29, true)), (.v (.faddr 2 (.t 31)))⟩, ⟨(some 33), (some (29, true)), (.v (.load none (.t 32)))⟩, ⟨(some 34), (some (29, true)), (.v (.len false (.t 33)))⟩, ⟨(some 35), (some (29, true)), (.v (.bin .eql (.t 34) (.c (.int .i64 1))))⟩, ⟨(some 36), none, (.v (.pick (.t 29) (.t 35) (.c (.bool false))))⟩, ⟨(some 0), none, (.v (.mov (.t 36)))⟩]) .ret
def c_law2_awake_2 : SC := .seq (.reg [⟨(some 4), none, (.call (.c (.func 17 [])) [(.c (.str [110, 111, 100, 101, 32, 34, 97, 34, 32, 123, 32, 99, 112, 117, 32, 61, 32, 49, 32, 125]))])⟩, ⟨(some 3), none, (.v (.mov (.t 4)))⟩, ⟨(some 5), none, (.v (.extract 0 (.t 3)))⟩, ⟨(some 6), none, (.v (.extract 1 (.t 3)))⟩, ⟨(some 1), none, (.v (.mov (.t 5)))⟩, ⟨(some 2), none, (.v (.mov (.t 6)))⟩]) c_law2_awake_1
def sc_law2_awake : SFunc := ⟨0, 37, .seq (.reg [⟨(some 0), none, (.v (.mov (.c (.bool false))))⟩]) c_law2_awake_2, [(.t 0)]⟩
theorem U_law2_awake : type_of% (And.intro (fun (SP : Prg) (ac : Ac) => congrFun (congrArg (E SP) c_law2_awake_1.eq_1) ac) <| And.intro (fun (SP : Prg) (ac : Ac) => congrFun (congrArg (E SP) c_law2_awake_2.eq_1) ac) <| sc_law2_awake.eq_1) := And.intro (fun (SP : Prg) (ac : Ac) => congrFun (congrArg (E SP) c_law2_awake_1.eq_1) ac) <| And.intro (fun (SP : Prg) (ac : Ac) => congrFun (congrArg (E SP) c_law2_awake_2.eq_1) ac) <| sc_law2_awake.eq_1
theorem comp_law2_awake : comp Tryz.prog Tryz.f15 = some sc_law2_awake := by kernel_rfl
/-- doorkeeper/doorkeeperlaw2.ParseRefuses -/
def c_law2_ParseRefuses_1 : SC := .seq (.reg [⟨(some 8), none, (.v (.mov (.t 3)))⟩, ⟨(some 9), none, (.v (.mov (.t 0)))⟩, ⟨(some 10), none, (.v (.conv (.int .i64) (.t 9)))⟩, ⟨(some 11), none, (.v (.mov (.t 3)))⟩, ⟨(some 12), none, (.v (.len false (.t 11)))⟩, ⟨(some 13), none, (.v (.bin .rem (.t 10) (.t 12)))⟩, ⟨(some 14), none, (.v (.iaddr 1 (.t 8) (.t 13)))⟩, ⟨(some 15), none, (.v (.load none (.t 14)))⟩, ⟨(some 16), none, (.call (.c (.func 17 [])) [(.t 15)])⟩, ⟨(some 7), none, (.v (.mov (.t 16)))⟩, ⟨(some 17), none, (.v (.extract 0 (.t 7)))⟩, ⟨(some 18), none, (.v (.extract 1 (.t 7)))⟩, ⟨(some 4), none, (.v (.mov (.t 17)))⟩, ⟨(some 5), none, (.v (.mov (.t 18)))⟩]) (.seq (.reg [⟨(some 19), none, (.v (.mov (.t 5)))⟩, ⟨(some 20), none, (.call (.c (.func 18 [])) [(.t 19)])⟩, ⟨(some 21), none, (.v (.bin .eql (.t 20) (.c (.int .i64 5))))⟩, ⟨(some 22), none, (.v (.mov (.t 21)))⟩, ⟨(some 23), (some (22, true)), (.v (.mov (.t 4)))⟩, ⟨(some 24), (some (22, true)), (.v (.len false (.t 23)))⟩, ⟨(some 25), (some (22, true)), (.v (.bin .eql (.t 24) (.c (.int .i64 0))))⟩, ⟨(some 26), none, (.v (.pick (.t 22) (.t 25) (.c (.bool false))))⟩, ⟨(some 27), none, (.v (.mov (.t 26)))⟩, ⟨(some 28), (some (27, true)), (.call (.c (.func 15 [])) [])⟩, ⟨(some 29), none, (.v (.pick (.t 27) (.t 28) (.c (.bool false))))⟩, ⟨(some 2), none, (.v (.mov (.t 29)))⟩]) .ret)
def c_law2_ParseRefuses_2 : SC := .seq (.reg [⟨(some 6), none, (.bslice 1 19 [(.str [])] [(0, (.c (.str [110, 111, 100, 101, 32, 123, 32, 125]))), (1, (.c (.str [110, 111, 100, 101, 32, 34, 65, 34, 32, 123, 32, 125]))), (2, (.c (.str [110, 111, 100, 101, 32, 34, 97, 34, 32, 123, 32, 49, 32, 61, 32, 50, 32, 125]))), (3, (.c (.str [110, 111, 100, 101, 32, 34, 97, 34, 32, 123, 32, 120, 32, 50, 32, 125]))), (4, (.c (.str [110, 111, 100, 101, 32, 34, 97, 34, 32, 123, 32, 120, 32, 61, 32, 125]))), (5, (.c (.str [108, 111, 99, 97, 108, 115, 32, 34, 97, 34, 32, 123, 32, 125]))), (6, (.c (.str [110, 111, 100, 101, 32, 34, 97, 34, 32, 123, 32, 120, 32, 61, 32, 49]))), (7, (.c (.str [100, 101, 102, 105, 110, 101, 32, 34, 100, 34, 32, 123, 32, 100, 101, 102, 105, 110, 101, 32, 34, 101, 34, 32, 123, 32, 125, 32, 125]))), (8, (.c (.str [100, 101, 102, 105, 110, 101, 32, 34, 100, 34, 32, 123, 32, 120, 32, 61, 32, 49, 32, 125]))), (9, (.c (.str [120, 32, 61, 32, 49]))), (10, (.c (.str [110, 111, 100, 101, 32, 34, 36, 123, 97, 46, 98, 125, 34, 32, 123, 32, 125]))), (11, (.c (.str [110, 111, 100, 101, 32, 34, 97, 34, 32, 123, 32, 120, 32, 61, 32, 121, 32, 125]))), (12, (.c (.str [110, 111, 100, 101, 32, 34, 97, 34, 32, 123, 32, 120, 32, 61, 32, 49, 32, 60, 32, 50, 32, 60, 32, 51, 32, 125]))), (13, (.c (.str [110, 111, 100, 101, 32, 34, 97, 34, 32, 123, 32, 120, 32, 61, 32, 102, 40, 49, 44, 41, 32, 125]))), (14, (.c (.str [110, 111, 100, 101, 32, 34, 97, 34, 32, 123, 32, 120, 32, 61, 32, 91, 49, 44, 44, 50, 93, 32, 125]))), (15, (.c (.str [110, 111, 100, 101, 32, 34, 97, 34, 32, 123, 32, 120, 32, 61, 32, 97, 46, 98, 46, 99, 32, 125]))), (16, (.c (.str [110, 111, 100, 101, 32, 34, 97, 34, 32, 123, 32, 120, 32, 61, 32, 49, 32, 63, 32, 50, 32, 125]))), (17, (.c (.str [125]))), (18, (.c (.str [110, 111, 100, 101, 32, 34, 97, 34, 32, 123, 32, 125, 32, 125])))])⟩, ⟨(some 3), none, (.v (.mov (.t 6)))⟩]) c_law2_ParseRefuses_1
def sc_law2_ParseRefuses : SFunc := ⟨1, 30, .seq (.reg [⟨(some 2), none, (.v (.mov (.c (.bool false))))⟩]) c_law2_ParseRefuses_2, [(.t 2)]⟩
theorem U_law2_ParseRefuses : type_of% (And.intro (fun (SP : Prg) (ac : Ac) => congrFun (congrArg (E SP) c_law2_ParseRefuses_1.eq_1) ac) <| And.intro (fun (SP : Prg) (ac : Ac) => congrFun (congrArg (E SP) c_law2_ParseRefuses_2.eq_1) ac) <| sc_law2_ParseRefuses.eq_1) := And.intro (fun (SP : Prg) (ac : Ac) => congrFun (congrArg (E SP) c_law2_ParseRefuses_1.eq_1) ac) <| And.intro (fun (SP : Prg) (ac : Ac) => congrFun (congrArg (E SP) c_law2_ParseRefuses_2.eq_1) ac) <| sc_law2_ParseRefuses.eq_1
theorem comp_law2_ParseRefuses : comp Tryz.prog Tryz.f4 = some sc_law2_ParseRefuses := by kernel_rfl
end Go.Proofs.YtfbcnpbhhooapaaGreatDoor.M

/- Trees of functions, printed by a program of this session (lift.py): what a run asks, over plain data. Lean proves each. -/
namespace Go.Proofs.YtfbcnpbhhooapaaGreatDoor.M
set_option linter.unusedSimpArgs false
set_option linter.unusedVariables false
open Go Classical
theorem sp_law1_Num : SP 18 = some (.code sc_law1_Num) := SPof_code rfl Tryz.func18 comp_law1_Num
/-! doorkeeper/doorkeeperlaw1.Num -/
set_option maxHeartbeats 4000000 in
theorem law1_Num_tree (e_ : Int) (r : Int) (T :
  e_ = r) : R_law1_Num e_ r := by
 intro S
 rw [call_code sp_law1_Num _ _ rfl]
 have F := U_law1_Num
 obtain rfl := T
 exact fi F
theorem sp_law2_awake : SP 15 = some (.code sc_law2_awake) := SPof_code rfl Tryz.func15 comp_law2_awake
/-! doorkeeper/doorkeeperlaw2.awake -/
set_option maxHeartbeats 4000000 in
theorem law2_awake_tree  (r : Bool) (T :
  ∃ (r1 : List Block) (r2 : Int), (R_parse_Parse [110, 111, 100, 101, 32, 34, 97, 34, 32, 123, 32, 99, 112, 117, 32, 61, 32, 49, 32, 125] r1 r2) ∧
 ∃ (r3 : Int), (R_law1_Num r2 r3) ∧
 ((r3 = 0) →
  (((r1.length : Int) = 1) →
   ∃ (v4 : Block), (r1[0]? = some v4) ∧
   ((v4.Kind = 3) →
    ((v4.Label = [97]) →
     (decide ((v4.Attrs.length : Int) = 1)) = r) ∧
    (¬ (v4.Label = [97]) →
     false = r)) ∧
   (¬ (v4.Kind = 3) →
    false = r)) ∧
  (¬ ((r1.length : Int) = 1) →
   false = r)) ∧
 (¬ (r3 = 0) →
  false = r)) : R_law2_awake  r := by
 intro S
 rw [call_code sp_law2_awake _ _ rfl]
 have F := U_law2_awake
 obtain ⟨r1, r2, q1, r3, q2, T⟩ := T
 simp only [R_parse_Parse, le, List.cons_append, List.nil_append] at q1
 simp only [R_law1_Num, le, List.cons_append, List.nil_append] at q2
 replace F := aa q1 <| aa q2 <| F
 by_cases c3 : r3 = 0
 · replace T := T.1 c3
   replace F := aa (eq_true c3) <| F
   by_cases c4 : (r1.length : Int) = 1
   · replace T := T.1 c4
     obtain ⟨v4, q5, T⟩ := T
     replace F := aa (eq_true c4) <| aa q5 <| F
     by_cases c6 : v4.Kind = 3
     · replace T := T.1 c6
       replace F := aa (eq_true c6) <| F
       by_cases c7 : v4.Label = [97]
       · replace T := T.1 c7
         obtain rfl := T
         exact fi (aa (eq_true c7) <| F)
       · replace T := T.2 c7
         obtain rfl := T
         exact fi (aa (eq_false c7) <| F)
     · replace T := T.2 c6
       obtain rfl := T
       exact fi (aa (eq_false c6) <| F)
   · replace T := T.2 c4
     obtain rfl := T
     exact fi (aa (eq_false c4) <| F)
 · replace T := T.2 c3
   obtain rfl := T
   exact fi (aa (eq_false c3) <| F)
theorem sp_law2_ParseRefuses : SP 4 = some (.code sc_law2_ParseRefuses) := SPof_code rfl Tryz.func4 comp_law2_ParseRefuses
/-! doorkeeper/doorkeeperlaw2.ParseRefuses -/
set_option maxHeartbeats 4000000 in
theorem law2_ParseRefuses_tree (n : UInt8) (r : Bool) (T :
  (I64 ((n.toNat : Int))) ∧
 (0 ≤ ((n.toNat : Int).tmod 19)) ∧
 ∃ (v1 : List UInt8), (([[110, 111, 100, 101, 32, 123, 32, 125], [110, 111, 100, 101, 32, 34, 65, 34, 32, 123, 32, 125], [110, 111, 100, 101, 32, 34, 97, 34, 32, 123, 32, 49, 32, 61, 32, 50, 32, 125], [110, 111, 100, 101, 32, 34, 97, 34, 32, 123, 32, 120, 32, 50, 32, 125], [110, 111, 100, 101, 32, 34, 97, 34, 32, 123, 32, 120, 32, 61, 32, 125], [108, 111, 99, 97, 108, 115, 32, 34, 97, 34, 32, 123, 32, 125], [110, 111, 100, 101, 32, 34, 97, 34, 32, 123, 32, 120, 32, 61, 32, 49], [100, 101, 102, 105, 110, 101, 32, 34, 100, 34, 32, 123, 32, 100, 101, 102, 105, 110, 101, 32, 34, 101, 34, 32, 123, 32, 125, 32, 125], [100, 101, 102, 105, 110, 101, 32, 34, 100, 34, 32, 123, 32, 120, 32, 61, 32, 49, 32, 125], [120, 32, 61, 32, 49], [110, 111, 100, 101, 32, 34, 36, 123, 97, 46, 98, 125, 34, 32, 123, 32, 125], [110, 111, 100, 101, 32, 34, 97, 34, 32, 123, 32, 120, 32, 61, 32, 121, 32, 125], [110, 111, 100, 101, 32, 34, 97, 34, 32, 123, 32, 120, 32, 61, 32, 49, 32, 60, 32, 50, 32, 60, 32, 51, 32, 125], [110, 111, 100, 101, 32, 34, 97, 34, 32, 123, 32, 120, 32, 61, 32, 102, 40, 49, 44, 41, 32, 125], [110, 111, 100, 101, 32, 34, 97, 34, 32, 123, 32, 120, 32, 61, 32, 91, 49, 44, 44, 50, 93, 32, 125], [110, 111, 100, 101, 32, 34, 97, 34, 32, 123, 32, 120, 32, 61, 32, 97, 46, 98, 46, 99, 32, 125], [110, 111, 100, 101, 32, 34, 97, 34, 32, 123, 32, 120, 32, 61, 32, 49, 32, 63, 32, 50, 32, 125], [125], [110, 111, 100, 101, 32, 34, 97, 34, 32, 123, 32, 125, 32, 125]] : List (List UInt8))[((n.toNat : Int).tmod 19).toNat]? = some v1) ∧
 ∃ (r2 : List Block) (r3 : Int), (R_parse_Parse v1 r2 r3) ∧
 ∃ (r4 : Int), (R_law1_Num r3 r4) ∧
 ((r4 = 5) →
  (((r2.length : Int) = 0) →
   ∃ (r5 : Bool), (R_law2_awake r5) ∧
   r5 = r) ∧
  (¬ ((r2.length : Int) = 0) →
   false = r)) ∧
 (¬ (r4 = 5) →
  false = r)) : R_law2_ParseRefuses n r := by
 intro S
 rw [call_code sp_law2_ParseRefuses _ _ rfl]
 have F := U_law2_ParseRefuses
 obtain ⟨p1, p2, v1, q3, r2, r3, q4, r4, q5, T⟩ := T
 replace q3 := congrArg (Option.map eS) q3
 rw [← List.getElem?_map] at q3
 simp only [le, List.map_append, Option.map_some] at q3
 simp only [R_parse_Parse, le, List.cons_append, List.nil_append] at q4
 simp only [R_law1_Num, le, List.cons_append, List.nil_append] at q5
 replace F := aa p1.wrap <| aa p2 <| aa q3 <| aa q4 <| aa q5 <| F
 by_cases c6 : r4 = 5
 · replace T := T.1 c6
   replace F := aa (eq_true c6) <| F
   by_cases c7 : (r2.length : Int) = 0
   · replace T := T.1 c7
     obtain ⟨r5, q8, rfl⟩ := T
     simp only [R_law2_awake, le, List.cons_append, List.nil_append] at q8
     exact fi (aa (eq_true c7) <| aa q8 <| F)
   · replace T := T.2 c7
     obtain rfl := T
     exact fi (aa (eq_false c7) <| F)
 · replace T := T.2 c6
   obtain rfl := T
   exact fi (aa (eq_false c6) <| F)
end Go.Proofs.YtfbcnpbhhooapaaGreatDoor.M

/- Parse: the law ParseRefuses. -/
namespace Go.Proofs.YtfbcnpbhhooapaaGreatDoor.M
set_option linter.unusedSimpArgs false
set_option linter.unusedVariables false
open Go Classical
theorem r_Num1 (e : Int) : R_law1_Num e e := law1_Num_tree _ _ rfl
theorem r_awake2 : R_law2_awake true := by
  have h := r_Parse_ok (s := [110, 111, 100, 101, 32, 34, 97, 34, 32, 123, 32, 99, 112, 117, 32, 61, 32, 49, 32, 125]) (l := [⟨3, [97], [⟨[99, 112, 117], [⟨1, 1, [], [], []⟩]⟩], []⟩]) (ts := [⟨0, [], 0, [], 20⟩]) (out := []) (by decide) (by kernel_rfl)
  exact law2_awake_tree _ ⟨_, _, h, _, r_Num1 _, fun _ => ⟨fun _ => ⟨_, rfl, fun _ => ⟨fun _ => rfl, fun hf => absurd rfl hf⟩, fun hf => absurd rfl hf⟩, fun hf => absurd rfl hf⟩, fun hf => absurd rfl hf⟩
def refused : List (List UInt8) := [[110, 111, 100, 101, 32, 123, 32, 125], [110, 111, 100, 101, 32, 34, 65, 34, 32, 123, 32, 125], [110, 111, 100, 101, 32, 34, 97, 34, 32, 123, 32, 49, 32, 61, 32, 50, 32, 125], [110, 111, 100, 101, 32, 34, 97, 34, 32, 123, 32, 120, 32, 50, 32, 125], [110, 111, 100, 101, 32, 34, 97, 34, 32, 123, 32, 120, 32, 61, 32, 125], [108, 111, 99, 97, 108, 115, 32, 34, 97, 34, 32, 123, 32, 125], [110, 111, 100, 101, 32, 34, 97, 34, 32, 123, 32, 120, 32, 61, 32, 49], [100, 101, 102, 105, 110, 101, 32, 34, 100, 34, 32, 123, 32, 100, 101, 102, 105, 110, 101, 32, 34, 101, 34, 32, 123, 32, 125, 32, 125], [100, 101, 102, 105, 110, 101, 32, 34, 100, 34, 32, 123, 32, 120, 32, 61, 32, 49, 32, 125], [120, 32, 61, 32, 49], [110, 111, 100, 101, 32, 34, 36, 123, 97, 46, 98, 125, 34, 32, 123, 32, 125], [110, 111, 100, 101, 32, 34, 97, 34, 32, 123, 32, 120, 32, 61, 32, 121, 32, 125], [110, 111, 100, 101, 32, 34, 97, 34, 32, 123, 32, 120, 32, 61, 32, 49, 32, 60, 32, 50, 32, 60, 32, 51, 32, 125], [110, 111, 100, 101, 32, 34, 97, 34, 32, 123, 32, 120, 32, 61, 32, 102, 40, 49, 44, 41, 32, 125], [110, 111, 100, 101, 32, 34, 97, 34, 32, 123, 32, 120, 32, 61, 32, 91, 49, 44, 44, 50, 93, 32, 125], [110, 111, 100, 101, 32, 34, 97, 34, 32, 123, 32, 120, 32, 61, 32, 97, 46, 98, 46, 99, 32, 125], [110, 111, 100, 101, 32, 34, 97, 34, 32, 123, 32, 120, 32, 61, 32, 49, 32, 63, 32, 50, 32, 125], [125], [110, 111, 100, 101, 32, 34, 97, 34, 32, 123, 32, 125, 32, 125]]
theorem r_refused : ∀ v ∈ refused, R_parse_Parse v [] 5 := by
  intro v hv
  simp only [refused, List.mem_cons, List.not_mem_nil, or_false] at hv
  rcases hv with rfl | rfl | rfl | rfl | rfl | rfl | rfl | rfl | rfl | rfl | rfl | rfl | rfl | rfl | rfl | rfl | rfl | rfl | rfl
  all_goals exact r_Parse_er (by decide) (by kernel_rfl) (by decide)
theorem r_ParseRefuses (n : UInt8) : R_law2_ParseRefuses n true := by
  have hn : n.toNat < 256 := n.toNat_lt
  have e : (n.toNat : Int).tmod 19 = ((n.toNat % 19 : Nat) : Int) := by rw [Int.tmod_eq_emod_of_nonneg (by omega)]; simp
  have hl : n.toNat % 19 < refused.length := Nat.mod_lt _ (by decide)
  have hg : refused[n.toNat % 19]? = some refused[n.toNat % 19] := List.getElem?_eq_getElem hl
  refine law2_ParseRefuses_tree _ _ ⟨⟨by omega, by omega⟩, by omega, refused[n.toNat % 19], ?_, [], 5, r_refused _ (List.getElem_mem hl), 5, r_Num1 5, fun _ => ⟨fun _ => ⟨true, r_awake2, rfl⟩, fun hf => absurd rfl hf⟩, fun hf => absurd rfl hf⟩
  rw [e, Int.toNat_natCast]
  exact hg
end Go.Proofs.YtfbcnpbhhooapaaGreatDoor.M

/-
  DERIVED: THE SHELF's CONTRACTS AT THIS DUMP, IN PLAIN WORDS (tools/lay-plain.mjs out of 'TryzShelf.lean', which tools/lay-shelf.mjs wrote): THE SAME DECLARATIONS UNDER THE SAME NAMES: 'import', 'namespace', 'open', 'def', 'theorem' AND NOTHING ELSE: no command of the shelf's: FOR A HAND-IN. Each laying: the table of numbers ('.._ren') and one theorem, a field a fact of the dump's own or the kernel's comparison; each contract: ONE APPLICATION.
-/
namespace Go.Proofs
open Go.Shelf
def Tryz.lays137_ren : Go.Shelf.Ren := ⟨fun | 137 => 179 | 217 => 186 | 266 => 209 | n => n, fun | 9 => 9 | 5 => 5 | 3 => 3 | n => n, fun | n => n⟩
theorem Tryz.lays137 : Go.Proofs.Lays.n137 Tryz.prog Tryz.lays137_ren := {
  mixed := by kernel_rfl
  f137 := Tryz.func179.trans (congrArg some (by kernel_rfl))
  f217 := Tryz.func186.trans (congrArg some (by kernel_rfl))
  f266 := Tryz.func209.trans (congrArg some (by kernel_rfl))
  t3 := Tryz.underlying3
  a3 := Tryz.isAgg3
  z3 := Tryz.sizeOf3
  v3 := Tryz.zeroValue3
  t5 := Tryz.underlying5
  a5 := Tryz.isAgg5
  z5 := Tryz.sizeOf5
  v5 := Tryz.zeroValue5
  t9 := Tryz.underlying9
  a9 := Tryz.isAgg9
  z9 := Tryz.sizeOf9
  v9 := Tryz.zeroValue9 }
open Go.RowKit in
/-- strings.IndexByte: "IndexByte returns the index of the first instance of c in s, or -1 if c is not present in s.": IT RETURNS 'Lib.indexByte s c'; the world is as it was. (LAID: no walk: one application.) -/
theorem Tryz.strings_IndexByte (s : ByteArray) (c : Int) (w : World) :
    Calls Tryz.prog 179 #[.string s, .int .u8 c] w fun e w' => e = .returned (.int .i64 (Lib.indexByte s.data.toList c.toNat.toUInt8)) ∧ w' = w := Any.strings_IndexByte Tryz.lays137 s c w
def Tryz.lays121_ren : Go.Shelf.Ren := ⟨fun | 121 => 108 | 214 => 147 | n => n, fun | 4 => 4 | 9 => 9 | n => n, fun | n => n⟩
theorem Tryz.lays121 : Go.Proofs.Lays.n121 Tryz.prog Tryz.lays121_ren := {
  mixed := by kernel_rfl
  f121 := Tryz.func108.trans (congrArg some (by kernel_rfl))
  f214 := Tryz.func147.trans (congrArg some (by kernel_rfl))
  t4 := Tryz.underlying4
  a4 := Tryz.isAgg4
  z4 := Tryz.sizeOf4
  v4 := Tryz.zeroValue4
  t9 := Tryz.underlying9
  a9 := Tryz.isAgg9
  z9 := Tryz.sizeOf9
  v9 := Tryz.zeroValue9 }
open Go.RowKit in
/-- strconv.FormatBool: "FormatBool returns "true" or "false" according to the value of b.": IT RETURNS 'Lib.formatBool b'; the world is as it was. (LAID: no walk: one application.) -/
theorem Tryz.strconv_FormatBool (b : Bool) (w : World) :
    Calls Tryz.prog 108 #[.bool b] w fun e w' => e = .returned (.string ⟨(Lib.formatBool b).toArray⟩) ∧ w' = w := Any.strconv_FormatBool Tryz.lays121 b w
def Tryz.laysM171_ren : Go.Shelf.Ren := ⟨fun | 171 => 106 | 243 => 145 | 246 => 168 | 283 => 182 | 284 => 183 | 285 => 184 | 286 => 185 | 129 => 205 | 317 => 204 | 318 => 206 | 319 => 207 | 320 => 208 | 337 => 214 | 338 => 215 | n => n, fun | 3 => 3 | 9 => 9 | 2 => 2 | 4 => 4 | 171 => 208 | 0 => 0 | 53 => 66 | 37 => 22 | 5 => 5 | 173 => 211 | 212 => 223 | 51 => 182 | 20 => 20 | 213 => 224 | 46 => 161 | 232 => 243 | 233 => 244 | n => n, fun | 17 => 1 | 18 => 6 | 19 => 7 | n => n⟩
theorem Tryz.laysM171 : Go.Proofs.LaysM.n171 Tryz.prog Tryz.laysM171_ren := {
  mixed := by kernel_rfl
  f129 := Tryz.func205.trans (congrArg some (by kernel_rfl))
  f171 := Tryz.func106.trans (congrArg some (by kernel_rfl))
  f243 := Tryz.func145.trans (congrArg some (by kernel_rfl))
  f246 := Tryz.func168.trans (congrArg some (by kernel_rfl))
  f283 := Tryz.func182.trans (congrArg some (by kernel_rfl))
  f284 := Tryz.func183.trans (congrArg some (by kernel_rfl))
  f285 := Tryz.func184.trans (congrArg some (by kernel_rfl))
  f286 := Tryz.func185.trans (congrArg some (by kernel_rfl))
  f317 := Tryz.func204.trans (congrArg some (by kernel_rfl))
  f318 := Tryz.func206.trans (congrArg some (by kernel_rfl))
  f319 := Tryz.func207.trans (congrArg some (by kernel_rfl))
  f320 := Tryz.func208.trans (congrArg some (by kernel_rfl))
  f337 := Tryz.func214.trans (congrArg some (by kernel_rfl))
  f338 := Tryz.func215.trans (congrArg some (by kernel_rfl))
  t0 := Tryz.underlying0
  a0 := Tryz.isAgg0
  z0 := Tryz.sizeOf0
  v0 := Tryz.zeroValue0
  t2 := Tryz.underlying2
  a2 := Tryz.isAgg2
  z2 := Tryz.sizeOf2
  v2 := Tryz.zeroValue2
  t3 := Tryz.underlying3
  a3 := Tryz.isAgg3
  z3 := Tryz.sizeOf3
  v3 := Tryz.zeroValue3
  t4 := Tryz.underlying4
  a4 := Tryz.isAgg4
  z4 := Tryz.sizeOf4
  v4 := Tryz.zeroValue4
  t5 := Tryz.underlying5
  a5 := Tryz.isAgg5
  z5 := Tryz.sizeOf5
  v5 := Tryz.zeroValue5
  t9 := Tryz.underlying9
  a9 := Tryz.isAgg9
  z9 := Tryz.sizeOf9
  v9 := Tryz.zeroValue9
  t20 := Tryz.underlying20
  a20 := Tryz.isAgg20
  z20 := Tryz.sizeOf20
  v20 := Tryz.zeroValue20
  t37 := Tryz.underlying22
  a37 := Tryz.isAgg22
  z37 := Tryz.sizeOf22
  v37 := Tryz.zeroValue22
  t46 := Tryz.underlying161
  a46 := Tryz.isAgg161
  z46 := Tryz.sizeOf161
  v46 := Tryz.zeroValue161
  t51 := Tryz.underlying182
  a51 := Tryz.isAgg182
  z51 := Tryz.sizeOf182
  v51 := Tryz.zeroValue182
  t53 := Tryz.underlying66
  a53 := Tryz.isAgg66
  z53 := Tryz.sizeOf66
  v53 := Tryz.zeroValue66
  t171 := Tryz.underlying208
  a171 := Tryz.isAgg208
  z171 := Tryz.sizeOf208
  v171 := Tryz.zeroValue208
  t173 := Tryz.underlying211
  a173 := Tryz.isAgg211
  z173 := Tryz.sizeOf211
  v173 := Tryz.zeroValue211
  t212 := Tryz.underlying223
  a212 := Tryz.isAgg223
  z212 := Tryz.sizeOf223
  v212 := Tryz.zeroValue223
  t213 := Tryz.underlying224
  a213 := Tryz.isAgg224
  z213 := Tryz.sizeOf224
  t232 := Tryz.underlying243
  a232 := Tryz.isAgg243
  z232 := Tryz.sizeOf243
  v232 := Tryz.zeroValue243
  t233 := Tryz.underlying244
  a233 := Tryz.isAgg244
  z233 := Tryz.sizeOf244
  v233 := Tryz.zeroValue244
  g17 := by kernel_rfl
  g18 := by kernel_rfl
  g19 := by kernel_rfl
  i0 := by kernel_rfl
  i2 := by kernel_rfl
  i3 := by kernel_rfl
  i4 := by kernel_rfl
  i5 := by kernel_rfl
  i9 := by kernel_rfl
  i20 := by kernel_rfl
  i37 := by kernel_rfl
  i46 := by kernel_rfl
  i51 := by kernel_rfl
  i53 := by kernel_rfl
  i171 := by kernel_rfl
  i173 := by kernel_rfl
  i212 := by kernel_rfl
  i232 := by kernel_rfl
  i233 := by kernel_rfl
  m17 := by kernel_rfl
  m18 := by kernel_rfl
  m19 := by kernel_rfl }
open Go.RowKit Go.Sort Go.Lib in
/-- strconv.Itoa: "Itoa is equivalent to FormatInt(int64(i), 10).": i's DECIMAL NUMERAL ('Lib.itoa': a '-' where i is negative, then the digits), FOR EVERY int. The world behind the call: the world before it, new blocks behind the heap (the library's 'var a [24]byte'), draws. (LAID: no walk: one application.) -/
theorem Tryz.strconv_Itoa (n : Int) (h0 : -9223372036854775808 ≤ n) (h1 : n ≤ 9223372036854775807) (w : World) (htab : Lib.TabIs Tryz.prog w "internal/strconv.uint64pow10" .u64 Lib.pow10Tab) :
    Calls Tryz.prog 106 #[.int .i64 n] w fun e w' => e = .returned (.string ⟨(Lib.itoa n).toArray⟩) ∧ ∃ k os, w' = grow (w.drewN k) os := Any.strconv_Itoa Tryz.laysM171 n h0 h1 w htab
def Tryz.laysC172_ren : Go.Shelf.Ren := ⟨fun | 172 => 163 | 244 => 177 | 245 => 178 | 247 => 196 | 279 => 197 | 280 => 198 | 281 => 199 | 282 => 200 | 287 => 211 | 316 => 212 | 171 => 106 | 205 => 213 | 321 => 216 | 322 => 217 | 243 => 145 | 246 => 168 | 283 => 182 | 284 => 183 | 285 => 184 | 286 => 185 | 129 => 205 | 317 => 204 | 318 => 206 | 319 => 207 | 320 => 208 | 337 => 214 | 338 => 215 | n => n, fun | 9 => 9 | 3 => 3 | 75 => 169 | 76 => 170 | 4 => 4 | 5 => 5 | 167 => 215 | 37 => 22 | 0 => 0 | 85 => 216 | 2 => 2 | 168 => 218 | 53 => 66 | 175 => 232 | 46 => 161 | 210 => 236 | 127 => 187 | 145 => 242 | 143 => 240 | 21 => 21 | 171 => 208 | 173 => 211 | 212 => 223 | 51 => 182 | 20 => 20 | 213 => 224 | 232 => 243 | 233 => 244 | 80 => 121 | n => n, fun | 15 => 4 | 16 => 5 | 17 => 1 | 18 => 6 | 19 => 7 | n => n⟩
theorem Tryz.laysC172 : Go.Proofs.LaysC.n172 Tryz.prog Tryz.laysC172_ren := {
  mixed := by kernel_rfl
  f129 := Tryz.func205.trans (congrArg some (by kernel_rfl))
  f171 := Tryz.func106.trans (congrArg some (by kernel_rfl))
  f172 := Tryz.func163.trans (congrArg some (by kernel_rfl))
  f205 := Tryz.func213.trans (congrArg some (by kernel_rfl))
  f243 := Tryz.func145.trans (congrArg some (by kernel_rfl))
  f244 := Tryz.func177.trans (congrArg some (by kernel_rfl))
  f245 := Tryz.func178.trans (congrArg some (by kernel_rfl))
  f246 := Tryz.func168.trans (congrArg some (by kernel_rfl))
  f247 := Tryz.func196.trans (congrArg some (by kernel_rfl))
  f279 := Tryz.func197.trans (congrArg some (by kernel_rfl))
  f280 := Tryz.func198.trans (congrArg some (by kernel_rfl))
  f281 := Tryz.func199.trans (congrArg some (by kernel_rfl))
  f282 := Tryz.func200.trans (congrArg some (by kernel_rfl))
  f283 := Tryz.func182.trans (congrArg some (by kernel_rfl))
  f284 := Tryz.func183.trans (congrArg some (by kernel_rfl))
  f285 := Tryz.func184.trans (congrArg some (by kernel_rfl))
  f286 := Tryz.func185.trans (congrArg some (by kernel_rfl))
  f287 := Tryz.func211.trans (congrArg some (by kernel_rfl))
  f316 := Tryz.func212.trans (congrArg some (by kernel_rfl))
  f317 := Tryz.func204.trans (congrArg some (by kernel_rfl))
  f318 := Tryz.func206.trans (congrArg some (by kernel_rfl))
  f319 := Tryz.func207.trans (congrArg some (by kernel_rfl))
  f320 := Tryz.func208.trans (congrArg some (by kernel_rfl))
  f321 := Tryz.func216.trans (congrArg some (by kernel_rfl))
  f322 := Tryz.func217.trans (congrArg some (by kernel_rfl))
  f337 := Tryz.func214.trans (congrArg some (by kernel_rfl))
  f338 := Tryz.func215.trans (congrArg some (by kernel_rfl))
  t0 := Tryz.underlying0
  a0 := Tryz.isAgg0
  z0 := Tryz.sizeOf0
  v0 := Tryz.zeroValue0
  t2 := Tryz.underlying2
  a2 := Tryz.isAgg2
  z2 := Tryz.sizeOf2
  v2 := Tryz.zeroValue2
  t3 := Tryz.underlying3
  a3 := Tryz.isAgg3
  z3 := Tryz.sizeOf3
  v3 := Tryz.zeroValue3
  t4 := Tryz.underlying4
  a4 := Tryz.isAgg4
  z4 := Tryz.sizeOf4
  v4 := Tryz.zeroValue4
  t5 := Tryz.underlying5
  a5 := Tryz.isAgg5
  z5 := Tryz.sizeOf5
  v5 := Tryz.zeroValue5
  t9 := Tryz.underlying9
  a9 := Tryz.isAgg9
  z9 := Tryz.sizeOf9
  v9 := Tryz.zeroValue9
  t20 := Tryz.underlying20
  a20 := Tryz.isAgg20
  z20 := Tryz.sizeOf20
  v20 := Tryz.zeroValue20
  t21 := Tryz.underlying21
  a21 := Tryz.isAgg21
  z21 := Tryz.sizeOf21
  v21 := Tryz.zeroValue21
  t37 := Tryz.underlying22
  a37 := Tryz.isAgg22
  z37 := Tryz.sizeOf22
  v37 := Tryz.zeroValue22
  t46 := Tryz.underlying161
  a46 := Tryz.isAgg161
  z46 := Tryz.sizeOf161
  v46 := Tryz.zeroValue161
  t51 := Tryz.underlying182
  a51 := Tryz.isAgg182
  z51 := Tryz.sizeOf182
  v51 := Tryz.zeroValue182
  t53 := Tryz.underlying66
  a53 := Tryz.isAgg66
  z53 := Tryz.sizeOf66
  v53 := Tryz.zeroValue66
  t75 := Tryz.underlying169
  a75 := Tryz.isAgg169
  z75 := Tryz.sizeOf169
  v75 := Tryz.zeroValue169
  t76 := Tryz.underlying170
  a76 := Tryz.isAgg170
  z76 := Tryz.sizeOf170
  v76 := Tryz.zeroValue170
  t85 := Tryz.underlying216
  a85 := Tryz.isAgg216
  z85 := Tryz.sizeOf216
  v85 := Tryz.zeroValue216
  t127 := Tryz.underlying187
  a127 := Tryz.isAgg187
  z127 := Tryz.sizeOf187
  v127 := Tryz.zeroValue187
  t143 := Tryz.underlying240
  a143 := Tryz.isAgg240
  z143 := Tryz.sizeOf240
  v143 := Tryz.zeroValue240
  t145 := Tryz.underlying242
  a145 := Tryz.isAgg242
  z145 := Tryz.sizeOf242
  v145 := Tryz.zeroValue242
  t167 := Tryz.underlying215
  a167 := Tryz.isAgg215
  z167 := Tryz.sizeOf215
  v167 := Tryz.zeroValue215
  t168 := Tryz.underlying218
  a168 := Tryz.isAgg218
  z168 := Tryz.sizeOf218
  v168 := Tryz.zeroValue218
  t171 := Tryz.underlying208
  a171 := Tryz.isAgg208
  z171 := Tryz.sizeOf208
  v171 := Tryz.zeroValue208
  t173 := Tryz.underlying211
  a173 := Tryz.isAgg211
  z173 := Tryz.sizeOf211
  v173 := Tryz.zeroValue211
  t175 := Tryz.underlying232
  a175 := Tryz.isAgg232
  z175 := Tryz.sizeOf232
  v175 := Tryz.zeroValue232
  t210 := Tryz.underlying236
  a210 := Tryz.isAgg236
  z210 := Tryz.sizeOf236
  v210 := Tryz.zeroValue236
  t212 := Tryz.underlying223
  a212 := Tryz.isAgg223
  z212 := Tryz.sizeOf223
  v212 := Tryz.zeroValue223
  t213 := Tryz.underlying224
  a213 := Tryz.isAgg224
  z213 := Tryz.sizeOf224
  t232 := Tryz.underlying243
  a232 := Tryz.isAgg243
  z232 := Tryz.sizeOf243
  v232 := Tryz.zeroValue243
  t233 := Tryz.underlying244
  a233 := Tryz.isAgg244
  z233 := Tryz.sizeOf244
  v233 := Tryz.zeroValue244
  g15 := by kernel_rfl
  g16 := by kernel_rfl
  g17 := by kernel_rfl
  g18 := by kernel_rfl
  g19 := by kernel_rfl
  t80 := Tryz.underlying121
  a80 := Tryz.isAgg121
  z80 := Tryz.sizeOf121
  v80 := Tryz.zeroValue121
  i0 := by kernel_rfl
  i2 := by kernel_rfl
  i3 := by kernel_rfl
  i4 := by kernel_rfl
  i5 := by kernel_rfl
  i9 := by kernel_rfl
  i20 := by kernel_rfl
  i21 := by kernel_rfl
  i37 := by kernel_rfl
  i46 := by kernel_rfl
  i51 := by kernel_rfl
  i53 := by kernel_rfl
  i75 := by kernel_rfl
  i76 := by kernel_rfl
  i80 := by kernel_rfl
  i85 := by kernel_rfl
  i127 := by kernel_rfl
  i143 := by kernel_rfl
  i145 := by kernel_rfl
  i167 := by kernel_rfl
  i168 := by kernel_rfl
  i171 := by kernel_rfl
  i173 := by kernel_rfl
  i175 := by kernel_rfl
  i210 := by kernel_rfl
  i212 := by kernel_rfl
  i232 := by kernel_rfl
  i233 := by kernel_rfl
  m15 := by kernel_rfl
  m16 := by kernel_rfl
  m17 := by kernel_rfl
  m18 := by kernel_rfl
  m19 := by kernel_rfl
  c0 := by kernel_rfl
  c2 := by kernel_rfl
  c3 := by kernel_rfl
  c4 := by kernel_rfl
  c5 := by kernel_rfl
  c9 := by kernel_rfl
  c20 := by kernel_rfl
  c21 := by kernel_rfl
  c37 := by kernel_rfl
  c46 := by kernel_rfl
  c51 := by kernel_rfl
  c53 := by kernel_rfl
  c75 := by kernel_rfl
  c76 := by kernel_rfl
  c80 := by kernel_rfl
  c85 := by kernel_rfl
  c127 := by kernel_rfl
  c143 := by kernel_rfl
  c145 := by kernel_rfl
  c167 := by kernel_rfl
  c168 := by kernel_rfl
  c171 := by kernel_rfl
  c173 := by kernel_rfl
  c175 := by kernel_rfl
  c210 := by kernel_rfl
  c212 := by kernel_rfl
  c213 := by kernel_rfl
  c232 := by kernel_rfl
  c233 := by kernel_rfl }
open Go.RowKit in
/-- strconv.Atoi, AT EVERY STRING THAT SPELLS AN int ('Lib.atoiAll .. = .ok v'; of whatever length: leading zeros count): v, AND NO ERROR. The world: as it was, or with the one new row that '[]byte(..)' lays. (LAID: no walk: one application.) -/
theorem Tryz.strconv_Atoi_ok (s : ByteArray) (hmax : s.size ≤ 9223372036854775806) (v : Int) (h : Lib.atoiAll s.data.toList = .ok v) (w : World) :
    Calls Tryz.prog 163 #[.string s] w fun e w' => e = .returned (.tuple #[.int .i64 v, .nilIface]) ∧ (w' = w ∨ ∃ t, w' = Lib.bytesWorld w 5 t) := Any.strconv_Atoi_ok Tryz.laysC172 s hmax v h w
open Go.RowKit in
/-- strconv.Atoi, AT EVERY STRING THAT IS NO DECIMAL NUMERAL ('.syntax'): 0, AND AN ERROR THAT IS NOT nil: a *NumError in a new block N: {Func: "Atoi", Num: s's bytes, Err: what the variable ErrSyntax holds}. Of what was there nothing has turned. (LAID: no walk: one application.) -/
theorem Tryz.strconv_Atoi_syntax (s : ByteArray) (hlim : s.size ≤ 281474976710656) (h : Lib.atoiAll s.data.toList = .syntax) (ev : Value) (w : World) (hv : w.cell? ⟨4, 0, none⟩ = some ev) (hev : ev = .nilIface ∨ ∃ te pe, ev = .iface te pe) :
    Calls Tryz.prog 163 #[.string s] w fun e w' => ∃ N, e = .returned (.tuple #[.int .i64 (0), .iface 218 (.pointer (some ⟨N, 0, none⟩))]) ∧ w.heap.size ≤ N ∧ w'.heap[N]? = some (.cells #[.string ⟨#[65, 116, 111, 105]⟩, .string s, ev] 236 (0, 0)) ∧ Below w.heap.size w w' := Any.strconv_Atoi_syntax Tryz.laysC172 s hlim h ev w hv hev
open Go.RowKit in
/-- strconv.Atoi, AT EVERY NUMERAL THAT NO int HOLDS ('.range'): THE GREATEST OR THE LEAST int, BY THE SIGN ('Lib.atoiSat'), AND AN ERROR THAT IS NOT nil: a *NumError in a new block N: {Func: "Atoi", Num: s's bytes, Err: what the variable ErrRange holds}. Of what was there nothing has turned. (LAID: no walk: one application.) -/
theorem Tryz.strconv_Atoi_range (s : ByteArray) (hlim : s.size ≤ 281474976710656) (h : Lib.atoiAll s.data.toList = .range) (ev : Value) (w : World) (hv : w.cell? ⟨5, 0, none⟩ = some ev) (hev : ev = .nilIface ∨ ∃ te pe, ev = .iface te pe) :
    Calls Tryz.prog 163 #[.string s] w fun e w' => ∃ N, e = .returned (.tuple #[.int .i64 (Lib.atoiSat s.data.toList), .iface 218 (.pointer (some ⟨N, 0, none⟩))]) ∧ w.heap.size ≤ N ∧ w'.heap[N]? = some (.cells #[.string ⟨#[65, 116, 111, 105]⟩, .string s, ev] 236 (0, 0)) ∧ Below w.heap.size w w' := Any.strconv_Atoi_range Tryz.laysC172 s hlim h ev w hv hev
def Tryz.lays144_ren : Go.Shelf.Ren := ⟨fun | 144 => 162 | 143 => 172 | 219 => 169 | 217 => 186 | 225 => 187 | 224 => 188 | 267 => 189 | 266 => 209 | 314 => 210 | n => n, fun | 9 => 9 | 4 => 4 | 3 => 3 | 5 => 5 | 46 => 161 | 146 => 183 | 51 => 182 | n => n, fun | 1 => 0 | n => n⟩
theorem Tryz.lays144 : Go.Proofs.Lays.n144 Tryz.prog Tryz.lays144_ren := {
  mixed := by kernel_rfl
  f143 := Tryz.func172.trans (congrArg some (by kernel_rfl))
  f144 := Tryz.func162.trans (congrArg some (by kernel_rfl))
  f217 := Tryz.func186.trans (congrArg some (by kernel_rfl))
  f219 := Tryz.func169.trans (congrArg some (by kernel_rfl))
  f224 := Tryz.func188.trans (congrArg some (by kernel_rfl))
  f225 := Tryz.func187.trans (congrArg some (by kernel_rfl))
  f266 := Tryz.func209.trans (congrArg some (by kernel_rfl))
  f267 := Tryz.func189.trans (congrArg some (by kernel_rfl))
  f314 := Tryz.func210.trans (congrArg some (by kernel_rfl))
  t3 := Tryz.underlying3
  a3 := Tryz.isAgg3
  z3 := Tryz.sizeOf3
  v3 := Tryz.zeroValue3
  t4 := Tryz.underlying4
  a4 := Tryz.isAgg4
  z4 := Tryz.sizeOf4
  v4 := Tryz.zeroValue4
  t5 := Tryz.underlying5
  a5 := Tryz.isAgg5
  z5 := Tryz.sizeOf5
  v5 := Tryz.zeroValue5
  t9 := Tryz.underlying9
  a9 := Tryz.isAgg9
  z9 := Tryz.sizeOf9
  v9 := Tryz.zeroValue9
  t46 := Tryz.underlying161
  a46 := Tryz.isAgg161
  z46 := Tryz.sizeOf161
  v46 := Tryz.zeroValue161
  t51 := Tryz.underlying182
  a51 := Tryz.isAgg182
  z51 := Tryz.sizeOf182
  v51 := Tryz.zeroValue182
  t146 := Tryz.underlying183
  a146 := Tryz.isAgg183
  z146 := Tryz.sizeOf183
  v146 := Tryz.zeroValue183
  g1 := by kernel_rfl }
open Go.RowKit Go.Lib in
/-- strings.Contains: "Contains reports whether substr is within s.": IT RETURNS 'Lib.contains s substr'; the world is as it was. (LAID: no walk: one application.) -/
theorem Tryz.strings_Contains (s sub : ByteArray) (m : Int) (w : World) (hs : s.size < 4294967281) (hm : w.cell? ⟨0, 0, none⟩ = some (.int .i64 m)) :
    Calls Tryz.prog 162 #[.string s, .string sub] w fun e w' => e = .returned (.bool (Lib.contains s.data.toList sub.data.toList)) ∧ w' = w := Any.strings_Contains Tryz.lays144 s sub m w hs hm
def Tryz.lays145_ren : Go.Shelf.Ren := ⟨fun | 145 => 112 | 220 => 150 | 219 => 169 | 217 => 186 | 225 => 187 | 224 => 188 | 267 => 189 | 266 => 209 | 314 => 210 | n => n, fun | 9 => 9 | 4 => 4 | 59 => 155 | 3 => 3 | 5 => 5 | 46 => 161 | 146 => 183 | 51 => 182 | n => n, fun | 1 => 0 | n => n⟩
theorem Tryz.lays145 : Go.Proofs.Lays.n145 Tryz.prog Tryz.lays145_ren := {
  mixed := by kernel_rfl
  f145 := Tryz.func112.trans (congrArg some (by kernel_rfl))
  f217 := Tryz.func186.trans (congrArg some (by kernel_rfl))
  f219 := Tryz.func169.trans (congrArg some (by kernel_rfl))
  f220 := Tryz.func150.trans (congrArg some (by kernel_rfl))
  f224 := Tryz.func188.trans (congrArg some (by kernel_rfl))
  f225 := Tryz.func187.trans (congrArg some (by kernel_rfl))
  f266 := Tryz.func209.trans (congrArg some (by kernel_rfl))
  f267 := Tryz.func189.trans (congrArg some (by kernel_rfl))
  f314 := Tryz.func210.trans (congrArg some (by kernel_rfl))
  t3 := Tryz.underlying3
  a3 := Tryz.isAgg3
  z3 := Tryz.sizeOf3
  v3 := Tryz.zeroValue3
  t4 := Tryz.underlying4
  a4 := Tryz.isAgg4
  z4 := Tryz.sizeOf4
  v4 := Tryz.zeroValue4
  t5 := Tryz.underlying5
  a5 := Tryz.isAgg5
  z5 := Tryz.sizeOf5
  v5 := Tryz.zeroValue5
  t9 := Tryz.underlying9
  a9 := Tryz.isAgg9
  z9 := Tryz.sizeOf9
  v9 := Tryz.zeroValue9
  t46 := Tryz.underlying161
  a46 := Tryz.isAgg161
  z46 := Tryz.sizeOf161
  v46 := Tryz.zeroValue161
  t51 := Tryz.underlying182
  a51 := Tryz.isAgg182
  z51 := Tryz.sizeOf182
  v51 := Tryz.zeroValue182
  t59 := Tryz.underlying155
  a59 := Tryz.isAgg155
  z59 := Tryz.sizeOf155
  v59 := Tryz.zeroValue155
  t146 := Tryz.underlying183
  a146 := Tryz.isAgg183
  z146 := Tryz.sizeOf183
  v146 := Tryz.zeroValue183
  g1 := by kernel_rfl }
open Go.RowKit Go.Lib in
/-- strings.Cut: "Cut slices s around the first instance of sep, returning the text before and after sep. The found result reports whether sep appears in s. If sep does not appear in s, cut returns s, "", false.": IT RETURNS 'Lib.cut s sep'; the world is as it was but for the count of draws. (LAID: no walk: one application.) -/
theorem Tryz.strings_Cut (s sep : ByteArray) (m : Int) (w : World) (hs : s.size < 4294967281) (hm : w.cell? ⟨0, 0, none⟩ = some (.int .i64 m)) :
    Calls Tryz.prog 112 #[.string s, .string sep] w fun e w' => e = .returned (.tuple #[.string ⟨(Lib.cut s.data.toList sep.data.toList).1.toArray⟩, .string ⟨(Lib.cut s.data.toList sep.data.toList).2.1.toArray⟩, .bool (Lib.cut s.data.toList sep.data.toList).2.2]) ∧ ∃ n, w' = w.drewN n := Any.strings_Cut Tryz.lays145 s sep m w hs hm
def Tryz.lays99_ren : Go.Shelf.Ren := ⟨fun | 99 => 129 | 206 => 158 | n => n, fun | 9 => 9 | 4 => 4 | 3 => 3 | n => n, fun | n => n⟩
theorem Tryz.lays99 : Go.Proofs.Lays.n99 Tryz.prog Tryz.lays99_ren := {
  mixed := by kernel_rfl
  f99 := Tryz.func129.trans (congrArg some (by kernel_rfl))
  f206 := Tryz.func158.trans (congrArg some (by kernel_rfl))
  t3 := Tryz.underlying3
  a3 := Tryz.isAgg3
  z3 := Tryz.sizeOf3
  v3 := Tryz.zeroValue3
  t4 := Tryz.underlying4
  a4 := Tryz.isAgg4
  z4 := Tryz.sizeOf4
  v4 := Tryz.zeroValue4
  t9 := Tryz.underlying9
  a9 := Tryz.isAgg9
  z9 := Tryz.sizeOf9
  v9 := Tryz.zeroValue9 }
open Go.RowKit Go.Lib in
/-- strings.HasPrefix: "HasPrefix reports whether the string s begins with prefix.": IT RETURNS 'Lib.hasPrefix s prefix'; the world is as it was. (LAID: no walk: one application.) -/
theorem Tryz.strings_HasPrefix (s p : ByteArray) (w : World) :
    Calls Tryz.prog 129 #[.string s, .string p] w fun e w' => e = .returned (.bool (Lib.hasPrefix s.data.toList p.data.toList)) ∧ w' = w := Any.strings_HasPrefix Tryz.lays99 s p w
def Tryz.lays155_ren : Go.Shelf.Ren := ⟨fun | 155 => 120 | 154 => 153 | 138 => 171 | 165 => 130 | 143 => 172 | 166 => 131 | 197 => 173 | 169 => 133 | 195 => 191 | 218 => 192 | 240 => 159 | 241 => 160 | 219 => 169 | 260 => 193 | 276 => 175 | 277 => 176 | 217 => 186 | 225 => 187 | 224 => 188 | 267 => 189 | 266 => 209 | 314 => 210 | n => n, fun | 9 => 9 | 3 => 3 | 4 => 4 | 72 => 167 | 0 => 0 | 76 => 170 | 105 => 200 | 21 => 21 | 5 => 5 | 70 => 165 | 20 => 20 | 37 => 22 | 75 => 169 | 127 => 187 | 164 => 202 | 46 => 161 | 119 => 228 | 139 => 231 | 138 => 230 | 146 => 183 | 51 => 182 | 80 => 121 | n => n, fun | 1 => 0 | 3 => 2 | 4 => 3 | n => n⟩
theorem Tryz.lays155 : Go.Proofs.Lays.n155 Tryz.prog Tryz.lays155_ren := {
  mixed := by kernel_rfl
  f138 := Tryz.func171.trans (congrArg some (by kernel_rfl))
  f143 := Tryz.func172.trans (congrArg some (by kernel_rfl))
  f154 := Tryz.func153.trans (congrArg some (by kernel_rfl))
  f155 := Tryz.func120.trans (congrArg some (by kernel_rfl))
  f165 := Tryz.func130.trans (congrArg some (by kernel_rfl))
  f166 := Tryz.func131.trans (congrArg some (by kernel_rfl))
  f169 := Tryz.func133.trans (congrArg some (by kernel_rfl))
  f195 := Tryz.func191.trans (congrArg some (by kernel_rfl))
  f197 := Tryz.func173.trans (congrArg some (by kernel_rfl))
  f217 := Tryz.func186.trans (congrArg some (by kernel_rfl))
  f218 := Tryz.func192.trans (congrArg some (by kernel_rfl))
  f219 := Tryz.func169.trans (congrArg some (by kernel_rfl))
  f224 := Tryz.func188.trans (congrArg some (by kernel_rfl))
  f225 := Tryz.func187.trans (congrArg some (by kernel_rfl))
  f240 := Tryz.func159.trans (congrArg some (by kernel_rfl))
  f241 := Tryz.func160.trans (congrArg some (by kernel_rfl))
  f260 := Tryz.func193.trans (congrArg some (by kernel_rfl))
  f266 := Tryz.func209.trans (congrArg some (by kernel_rfl))
  f267 := Tryz.func189.trans (congrArg some (by kernel_rfl))
  f276 := Tryz.func175.trans (congrArg some (by kernel_rfl))
  f277 := Tryz.func176.trans (congrArg some (by kernel_rfl))
  f314 := Tryz.func210.trans (congrArg some (by kernel_rfl))
  t0 := Tryz.underlying0
  a0 := Tryz.isAgg0
  z0 := Tryz.sizeOf0
  v0 := Tryz.zeroValue0
  t3 := Tryz.underlying3
  a3 := Tryz.isAgg3
  z3 := Tryz.sizeOf3
  v3 := Tryz.zeroValue3
  t4 := Tryz.underlying4
  a4 := Tryz.isAgg4
  z4 := Tryz.sizeOf4
  v4 := Tryz.zeroValue4
  t5 := Tryz.underlying5
  a5 := Tryz.isAgg5
  z5 := Tryz.sizeOf5
  v5 := Tryz.zeroValue5
  t9 := Tryz.underlying9
  a9 := Tryz.isAgg9
  z9 := Tryz.sizeOf9
  v9 := Tryz.zeroValue9
  t20 := Tryz.underlying20
  a20 := Tryz.isAgg20
  z20 := Tryz.sizeOf20
  v20 := Tryz.zeroValue20
  t21 := Tryz.underlying21
  a21 := Tryz.isAgg21
  z21 := Tryz.sizeOf21
  v21 := Tryz.zeroValue21
  t37 := Tryz.underlying22
  a37 := Tryz.isAgg22
  z37 := Tryz.sizeOf22
  v37 := Tryz.zeroValue22
  t46 := Tryz.underlying161
  a46 := Tryz.isAgg161
  z46 := Tryz.sizeOf161
  v46 := Tryz.zeroValue161
  t51 := Tryz.underlying182
  a51 := Tryz.isAgg182
  z51 := Tryz.sizeOf182
  v51 := Tryz.zeroValue182
  t70 := Tryz.underlying165
  a70 := Tryz.isAgg165
  z70 := Tryz.sizeOf165
  v70 := Tryz.zeroValue165
  t72 := Tryz.underlying167
  a72 := Tryz.isAgg167
  z72 := Tryz.sizeOf167
  v72 := Tryz.zeroValue167
  t75 := Tryz.underlying169
  a75 := Tryz.isAgg169
  z75 := Tryz.sizeOf169
  v75 := Tryz.zeroValue169
  t76 := Tryz.underlying170
  a76 := Tryz.isAgg170
  z76 := Tryz.sizeOf170
  v76 := Tryz.zeroValue170
  t105 := Tryz.underlying200
  a105 := Tryz.isAgg200
  z105 := Tryz.sizeOf200
  v105 := Tryz.zeroValue200
  t119 := Tryz.underlying228
  a119 := Tryz.isAgg228
  z119 := Tryz.sizeOf228
  t127 := Tryz.underlying187
  a127 := Tryz.isAgg187
  z127 := Tryz.sizeOf187
  v127 := Tryz.zeroValue187
  t138 := Tryz.underlying230
  a138 := Tryz.isAgg230
  z138 := Tryz.sizeOf230
  v138 := Tryz.zeroValue230
  t139 := Tryz.underlying231
  a139 := Tryz.isAgg231
  z139 := Tryz.sizeOf231
  v139 := Tryz.zeroValue231
  t146 := Tryz.underlying183
  a146 := Tryz.isAgg183
  z146 := Tryz.sizeOf183
  v146 := Tryz.zeroValue183
  t164 := Tryz.underlying202
  a164 := Tryz.isAgg202
  z164 := Tryz.sizeOf202
  v164 := Tryz.zeroValue202
  g1 := by kernel_rfl
  g3 := by kernel_rfl
  g4 := by kernel_rfl }
theorem Tryz.Builder_Extra_155 : Builder.Extra Tryz.prog Tryz.lays155_ren := {
  sizeBuilder := by kernel_rfl
  liesBuilder := by kernel_rfl
  t5 := Tryz.underlying5
  a5 := Tryz.isAgg5
  z5 := Tryz.sizeOf5
  v5 := Tryz.zeroValue5
  infoByte := by kernel_rfl
  cellsByte := by kernel_rfl
  sizeByte := by kernel_rfl
  neB5 := by decide }
open Go.RowKit Go.Lib in
/-- strings.ReplaceAll: "ReplaceAll returns a copy of the string s with all non-overlapping instances of old replaced by new.": AT AN old THAT IS NOT EMPTY: 'Lib.replaceAll s old new'. (LAID: no walk: one application.) -/
theorem Tryz.strings_ReplaceAll (s old new : ByteArray) (m : Int) (w : World) (hs : s.size < 4294967281) (hm : w.cell? ⟨0, 0, none⟩ = some (.int .i64 m)) (h1 : 1 ≤ old.size) (hlen : s.size + Lib.countB s old * new.size ≤ 140737488355328) :
    Calls Tryz.prog 120 #[.string s, .string old, .string new] w fun e w' =>
      e = .returned (.string ⟨(Lib.replaceAll s.data.toList old.data.toList new.data.toList).toArray⟩) ∧ Below w.heap.size w w' := Any.strings_ReplaceAll Tryz.lays155 Tryz.Builder_Extra_155 s old new m w hs hm h1 hlen
def Tryz.lays105_ren : Go.Shelf.Ren := ⟨fun | 105 => 94 | 212 => 128 | 99 => 129 | 165 => 130 | 166 => 131 | 170 => 132 | 169 => 133 | 263 => 156 | 264 => 157 | 206 => 158 | 240 => 159 | 241 => 160 | 276 => 175 | 277 => 176 | n => n, fun | 9 => 9 | 3 => 3 | 4 => 4 | 20 => 20 | 0 => 0 | 46 => 161 | 109 => 162 | 5 => 5 | 72 => 167 | 76 => 170 | 51 => 182 | 146 => 183 | 53 => 66 | 148 => 185 | 70 => 165 | 37 => 22 | 75 => 169 | 127 => 187 | 164 => 202 | 80 => 121 | n => n, fun | n => n⟩
theorem Tryz.lays105 : Go.Proofs.Lays.n105 Tryz.prog Tryz.lays105_ren := {
  mixed := by kernel_rfl
  f99 := Tryz.func129.trans (congrArg some (by kernel_rfl))
  f105 := Tryz.func94.trans (congrArg some (by kernel_rfl))
  f165 := Tryz.func130.trans (congrArg some (by kernel_rfl))
  f166 := Tryz.func131.trans (congrArg some (by kernel_rfl))
  f169 := Tryz.func133.trans (congrArg some (by kernel_rfl))
  f170 := Tryz.func132.trans (congrArg some (by kernel_rfl))
  f206 := Tryz.func158.trans (congrArg some (by kernel_rfl))
  f212 := Tryz.func128.trans (congrArg some (by kernel_rfl))
  f240 := Tryz.func159.trans (congrArg some (by kernel_rfl))
  f241 := Tryz.func160.trans (congrArg some (by kernel_rfl))
  f263 := Tryz.func156.trans (congrArg some (by kernel_rfl))
  f264 := Tryz.func157.trans (congrArg some (by kernel_rfl))
  f276 := Tryz.func175.trans (congrArg some (by kernel_rfl))
  f277 := Tryz.func176.trans (congrArg some (by kernel_rfl))
  t0 := Tryz.underlying0
  a0 := Tryz.isAgg0
  z0 := Tryz.sizeOf0
  v0 := Tryz.zeroValue0
  t3 := Tryz.underlying3
  a3 := Tryz.isAgg3
  z3 := Tryz.sizeOf3
  v3 := Tryz.zeroValue3
  t4 := Tryz.underlying4
  a4 := Tryz.isAgg4
  z4 := Tryz.sizeOf4
  v4 := Tryz.zeroValue4
  t5 := Tryz.underlying5
  a5 := Tryz.isAgg5
  z5 := Tryz.sizeOf5
  v5 := Tryz.zeroValue5
  t9 := Tryz.underlying9
  a9 := Tryz.isAgg9
  z9 := Tryz.sizeOf9
  v9 := Tryz.zeroValue9
  t20 := Tryz.underlying20
  a20 := Tryz.isAgg20
  z20 := Tryz.sizeOf20
  v20 := Tryz.zeroValue20
  t37 := Tryz.underlying22
  a37 := Tryz.isAgg22
  z37 := Tryz.sizeOf22
  v37 := Tryz.zeroValue22
  t46 := Tryz.underlying161
  a46 := Tryz.isAgg161
  z46 := Tryz.sizeOf161
  v46 := Tryz.zeroValue161
  t51 := Tryz.underlying182
  a51 := Tryz.isAgg182
  z51 := Tryz.sizeOf182
  v51 := Tryz.zeroValue182
  t53 := Tryz.underlying66
  a53 := Tryz.isAgg66
  z53 := Tryz.sizeOf66
  v53 := Tryz.zeroValue66
  t70 := Tryz.underlying165
  a70 := Tryz.isAgg165
  z70 := Tryz.sizeOf165
  v70 := Tryz.zeroValue165
  t72 := Tryz.underlying167
  a72 := Tryz.isAgg167
  z72 := Tryz.sizeOf167
  v72 := Tryz.zeroValue167
  t75 := Tryz.underlying169
  a75 := Tryz.isAgg169
  z75 := Tryz.sizeOf169
  v75 := Tryz.zeroValue169
  t76 := Tryz.underlying170
  a76 := Tryz.isAgg170
  z76 := Tryz.sizeOf170
  v76 := Tryz.zeroValue170
  t109 := Tryz.underlying162
  a109 := Tryz.isAgg162
  z109 := Tryz.sizeOf162
  v109 := Tryz.zeroValue162
  t127 := Tryz.underlying187
  a127 := Tryz.isAgg187
  z127 := Tryz.sizeOf187
  v127 := Tryz.zeroValue187
  t146 := Tryz.underlying183
  a146 := Tryz.isAgg183
  z146 := Tryz.sizeOf183
  v146 := Tryz.zeroValue183
  t148 := Tryz.underlying185
  a148 := Tryz.isAgg185
  z148 := Tryz.sizeOf185
  v148 := Tryz.zeroValue185
  t164 := Tryz.underlying202
  a164 := Tryz.isAgg202
  z164 := Tryz.sizeOf202
  v164 := Tryz.zeroValue202 }
theorem Tryz.Builder_Extra_105 : Builder.Extra Tryz.prog Tryz.lays105_ren := {
  sizeBuilder := by kernel_rfl
  liesBuilder := by kernel_rfl
  t5 := Tryz.underlying5
  a5 := Tryz.isAgg5
  z5 := Tryz.sizeOf5
  v5 := Tryz.zeroValue5
  infoByte := by kernel_rfl
  cellsByte := by kernel_rfl
  sizeByte := by kernel_rfl
  neB5 := by decide }
open Go.RowKit Go.Lib in
/-- **strings.Repeat: count ≥ 0, the result within one allocation: count copies of s.** (LAID: no walk: one application.) -/
theorem Tryz.strings_Repeat (s : ByteArray) (c : Nat) (w : World) (hc : c ≤ 9223372036854775807) (hlen : s.size * c ≤ 140737488355328) :
    Calls Tryz.prog 94 #[.string s, .int .i64 c] w fun e w' => e = .returned (.string ⟨(Lib.repeatL s.data.toList c).toArray⟩) ∧ Below w.heap.size w w' := Any.strings_Repeat Tryz.lays105 Tryz.Builder_Extra_105 s c w hc hlen
end Go.Proofs

/- Functions of Go's library that are told by contracts; and all functions, as the machine has them. Printed by a program of this session (lift.py). -/
namespace Go.Proofs.YtfbcnpbhhooapaaGreatDoor.M
set_option linter.unusedVariables false
open Go Classical
theorem compC_slices_Clone_int_int : comp Tryz.prog Tryz.f144 = some ⟨1, 8, cloneC 1 8 [.int .i64 0], [.t 2]⟩ := by kernel_rfl
theorem extsOk [Base] (hT : Lib.TabIs Tryz.prog Base.base "internal/strconv.uint64pow10" .u64 Lib.pow10Tab) (hM : ∃ m, Base.base.cell? ⟨0, 0, none⟩ = some (.int .i64 m)) (hS : ∃ te pe, Base.base.cell? ⟨4, 0, none⟩ = some (.iface te pe)) (hR : ∃ te pe, Base.base.cell? ⟨5, 0, none⟩ = some (.iface te pe)) : ∀ (f : Nat) (y : XF), exts f = some y → XOk Tryz.prog f y := fun f y h => by
  unfold exts at h
  by_cases e106 : f = 106
  · subst e106
    rw [if_pos rfl] at h
    obtain rfl := Option.some.inj h
    exact itoa_ext Tryz.func106 rfl (by decide) hT (fun n h0 h1 w hT => Tryz.strconv_Itoa n h0 h1 w hT)
  rw [if_neg e106] at h
  by_cases e108 : f = 108
  · subst e108
    rw [if_pos rfl] at h
    obtain rfl := Option.some.inj h
    exact bool_ext Tryz.func108 rfl (by decide) (fun b w => Tryz.strconv_FormatBool b w)
  rw [if_neg e108] at h
  by_cases e94 : f = 94
  · subst e94
    rw [if_pos rfl] at h
    obtain rfl := Option.some.inj h
    exact repeat_ext Tryz.func94 rfl (by decide) (fun s c w h1 h2 => Tryz.strings_Repeat s c w h1 h2)
  rw [if_neg e94] at h
  by_cases e112 : f = 112
  · subst e112
    rw [if_pos rfl] at h
    obtain rfl := Option.some.inj h
    exact cut_ext Tryz.func112 rfl (by decide) hM (fun s p m w h1 h2 => Tryz.strings_Cut s p m w h1 h2)
  rw [if_neg e112] at h
  by_cases e179 : f = 179
  · subst e179
    rw [if_pos rfl] at h
    obtain rfl := Option.some.inj h
    exact index_ext Tryz.func179 rfl (by decide) (fun s c w => Tryz.strings_IndexByte s c w)
  rw [if_neg e179] at h
  by_cases e129 : f = 129
  · subst e129
    rw [if_pos rfl] at h
    obtain rfl := Option.some.inj h
    exact prefix_ext Tryz.func129 rfl (by decide) (fun s p w => Tryz.strings_HasPrefix s p w)
  rw [if_neg e129] at h
  by_cases e162 : f = 162
  · subst e162
    rw [if_pos rfl] at h
    obtain rfl := Option.some.inj h
    exact contains_ext Tryz.func162 rfl (by decide) hM (fun s p m w h1 h2 => Tryz.strings_Contains s p m w h1 h2)
  rw [if_neg e162] at h
  by_cases e120 : f = 120
  · subst e120
    rw [if_pos rfl] at h
    obtain rfl := Option.some.inj h
    exact replace_ext Tryz.func120 rfl (by decide) hM (fun s o n m w h1 h2 h3 h4 => Tryz.strings_ReplaceAll s o n m w h1 h2 h3 h4)
  rw [if_neg e120] at h
  by_cases e163 : f = 163
  · subst e163
    rw [if_pos rfl] at h
    obtain rfl := Option.some.inj h
    exact atoi_ext Tryz.func163 rfl (by decide) hS hR (fun s v w h1 h2 => Tryz.strconv_Atoi_ok s h1 v h2 w) (fun s te pe w h1 h2 h3 => (Tryz.strconv_Atoi_syntax s h1 h2 _ w h3 (.inr ⟨_, _, rfl⟩)).mono fun e w' ⟨N, he, _, _, hb⟩ => ⟨_, he, hb⟩) (fun s te pe w h1 h2 h3 => (Tryz.strconv_Atoi_range s h1 h2 _ w h3 (.inr ⟨_, _, rfl⟩)).mono fun e w' ⟨N, he, _, _, hb⟩ => ⟨_, he, hb⟩)
  rw [if_neg e163] at h
  by_cases e144 : f = 144
  · subst e144
    rw [if_pos rfl] at h
    obtain rfl := Option.some.inj h
    exact clone_ext (by kernel_rfl) Tryz.func144 compC_slices_Clone_int_int (by decide)
  rw [if_neg e144] at h
  by_cases e36 : f = 36
  · subst e36
    rw [if_pos rfl] at h
    obtain rfl := Option.some.inj h
    exact rcvOk_parse_reading
  rw [if_neg e36] at h
  cases h
end Go.Proofs.YtfbcnpbhhooapaaGreatDoor.M

/- ParseRefuses, of all that its parameters' types allow. Printed by a program of this session (spec.py). -/
namespace Go.Proofs.YtfbcnpbhhooapaaGreatDoor.M
set_option linter.unusedSimpArgs false
set_option linter.unusedVariables false
set_option linter.constructorNameAsVariable false
open Go Classical
theorem byte_of {x : Int} (h : (Lit.int .u8 x).wf = true) : ∃ b : UInt8, x = ((b.toNat : Nat) : Int) := by
  have r := range h
  simp [IntKind.min, IntKind.max, IntKind.signed, IntKind.bits] at r
  refine ⟨UInt8.ofNat x.toNat, ?_⟩
  simp
  omega
theorem ht5 : ∀ (n : Nat) (vs : List PV), Has Tryz.prog n 5 vs → ∃ x : UInt8, vs = [.int .u8 ((x.toNat : Nat) : Int)] ∧ True := fun n vs h => by
  obtain ⟨x, rfl, w⟩ := h.int Tryz.underlying5
  obtain ⟨b, rfl⟩ := byte_of w
  exact ⟨b, rfl, trivial⟩
theorem specParseRefuses : ∀ pvs, HasAll Tryz.prog [5] pvs → call (SPof Tryz.prog exts) 4 pvs [] = .ok (.v (.bool true)) [] := by
  intro pvs h
  obtain ⟨v0, r0, rfl, g0, h⟩ := h.cons_inv
  obtain rfl := h.nil_inv
  obtain ⟨n0, g0⟩ := g0.one Tryz.underlying5 (fun fs h => by cases h)
  obtain ⟨x0, e0, h0⟩ := ht5 _ _ g0
  obtain rfl := List.cons.inj e0 |>.1
  exact (r_ParseRefuses x0 : R_law2_ParseRefuses x0 true) []
end Go.Proofs.YtfbcnpbhhooapaaGreatDoor.M
