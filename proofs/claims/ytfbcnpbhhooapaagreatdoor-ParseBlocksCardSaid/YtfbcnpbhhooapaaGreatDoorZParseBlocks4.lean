/- Parts of a proof, one behind another: Lt5, Wp3, Lt6, Wp1, Wp4, Wp5, Sc1, Lt1, Sc2. -/
import Derived.Test.YtfbcnpbhhooapaaGreatDoorZParseBlocks3
import Derived.Test.YtfbcnpbhhooapaaGreatDoorProg
import Derived.KernelRfl
/- Trees of functions, printed by a program of this session (lift.py): what a run asks, over plain data. Lean proves each. -/
namespace Go.Proofs.YtfbcnpbhhooapaaGreatDoor.M
set_option linter.unusedSimpArgs false
set_option linter.unusedVariables false
open Go Classical
theorem sp_parse_exprs_chain : SP 103 = some (.code sc_parse_exprs_chain) := SPof_code rfl Tryz.func103 comp_parse_exprs_chain
/-! (*doorkeeper/parse.exprs).chain -/
def At_parse_exprs_chain_1 (rank : Int) (i13 : Int) (x14 : PExprs) (g15 : Nat) (z16 : Bool) (o : Option Int) (r : Int) (x' : PExprs) (x'_g2 : Nat) (x'_z2 : Bool) : Prop := ∀ (S : Sto) (e : Nat → PV) (f : Fr) (n0 t0 : Nat), ((getBox S n0 t0).map (List.take 4) = some [.list 5 (x14.tokens.l.map eToken) false, .int .i64 x14.tokens.pos, .sl 0 (.cell t0 2) 0 x14.out.length x14.out.length g15 false, .int .i64 x14.deep] ∧ getArr S n0 (.cell t0 2) = some ⟨5, x14.out.map eNode, z16, g15⟩) → e 0 = .ptr (n0 + 1) t0 0 ∧ e 1 = .int .i64 rank ∧ e 5 = .int .i64 i13 → k_parse_exprs_chain_1 SP (E SP (.loop b_parse_exprs_chain_1) ⟨e, f :: S⟩) = po 116 o (.v (.int .i64 r)) (setArr (setBox S n0 t0 ([.list 5 (x'.tokens.l.map eToken) false, .int .i64 x'.tokens.pos, .sl 0 (.cell t0 2) 0 x'.out.length x'.out.length x'_g2 false, .int .i64 x'.deep] ++ ((getBox S n0 t0).getD []).drop 4)) n0 (.cell t0 2) ⟨5, x'.out.map eNode, x'_z2, x'_g2⟩)
set_option maxHeartbeats 4000000 in
theorem At_parse_exprs_chain_1_step (rank : Int) (i13 : Int) (x14 : PExprs) (g15 : Nat) (z16 : Bool) (o : Option Int) (r : Int) (x' : PExprs) (x'_g2 : Nat) (x'_z2 : Bool) (T :
  ∃ (r17 : Token) (y18 : PTokens), (R_parse_tokens_now x14.tokens r17 y18) ∧
 ((r17.Kind = 4) →
  ∃ (r19 : Token) (y20 : PTokens), (R_parse_tokens_now y18 r19 y20) ∧
  ∃ (r21 : Int) (r22 : Bool), (R_parse_two rank r19.Text r21 r22) ∧
  ((r22 = true) →
   (I64 (y20.pos + 1)) ∧
   (I64 (rank + 1)) ∧
   ∃ (o24 : Option Int) (r23 : Int) (y25 : PExprs) (g26 : Nat) (z27 : Bool), (R_parse_exprs_chain (PExprs.mk (PTokens.mk y20.l (y20.pos + 1)) x14.out x14.deep) g15 z16 (rank + 1) o24 r23 y25 g26 z27) ∧
   (match o24 with
   | none => (∃ (r29 : Int) (y30 : PExprs) (g31 : Nat) (z32 : Bool), (R_parse_exprs_put y25 g26 z27 r21 [] [i13, r23] r29 y30 g31 z32) ∧
    ((rank = 2) →
     none = o ∧ r29 = r ∧ y30 = x' ∧ g31 = x'_g2 ∧ z32 = x'_z2) ∧
    (¬ (rank = 2) →
     At_parse_exprs_chain_1 rank r29 y30 g31 z32 o r x' x'_g2 x'_z2))
   | some e28 => (some e28 = o ∧ y25 = x' ∧ g26 = x'_g2 ∧ z27 = x'_z2))) ∧
  (¬ (r22 = true) →
   none = o ∧ i13 = r ∧ (PExprs.mk y20 x14.out x14.deep) = x' ∧ g15 = x'_g2 ∧ z16 = x'_z2)) ∧
 (¬ (r17.Kind = 4) →
  none = o ∧ i13 = r ∧ (PExprs.mk y18 x14.out x14.deep) = x' ∧ g15 = x'_g2 ∧ z16 = x'_z2)) : At_parse_exprs_chain_1 rank i13 x14 g15 z16 o r x' x'_g2 x'_z2 := by
 intro S e f n0 t0 H0 h
 obtain ⟨hb0, ha0⟩ := H0
 obtain ⟨w0, hB0⟩ := take_some hb0
 have hn0 := o_getBox_lt hB0
 unfold k_parse_exprs_chain_1
 rw [E_loop]
 have F := U_parse_exprs_chain
 obtain ⟨r17, y18, q1, T⟩ := T
 simp only [R_parse_tokens_now, le, List.cons_append, List.nil_append] at q1
 replace F := aa ha0 <| aa hB0 <| aa hn0 <| aa h <| aa q1 <| F
 by_cases c2 : r17.Kind = 4
 · replace T := T.1 c2
   obtain ⟨r19, y20, q3, r21, r22, q4, T⟩ := T
   simp only [R_parse_tokens_now, le, List.cons_append, List.nil_append] at q3
   simp only [R_parse_two, le, List.cons_append, List.nil_append] at q4
   replace F := aa (eq_true c2) <| aa q3 <| aa q4 <| F
   by_cases c5 : r22 = true
   · replace T := T.1 c5
     obtain ⟨p6, p7, o24, r23, y25, g26, z27, q8, T⟩ := T
     simp only [R_parse_exprs_chain, le, List.cons_append, List.nil_append] at q8
     replace F := aa c5 <| aa p6.wrap <| aa p7.wrap <| aa q8 <| F
     cases o24 with
     | none =>
       dsimp only at T
       obtain ⟨r29, y30, g31, z32, q9, T⟩ := T
       simp only [R_parse_exprs_put, le, List.cons_append, List.nil_append] at q9
       replace F := aa q9 <| F
       by_cases c10 : rank = 2
       · replace T := T.1 c10
         obtain ⟨rfl, rfl, rfl, rfl, rfl⟩ := T
         exact fi (aa (eq_true c10) <| F)
       · replace T := T.2 c10
         replace F := aa (eq_false c10) <| F
         try simp only [F, lw, lx, le, Nat.reduceMul, UInt8.reduceToNat, reduceIte, reduceCtorEq, Nat.reduceEqDiff, Nat.reduceAdd, Nat.reduceLeDiff, Nat.reduceSub, Nat.reduceLT, Int.reduceEq, Int.reduceLT, Int.reduceLE, Int.reduceToNat, Int.reduceAdd, Int.reduceSub, Int.reduceMul, Int.reduceNeg]
         refine (T _ _ _ n0 t0 ?_ ?_).trans ?_
         all_goals exact fi F
     | some e28 =>
       dsimp only at T
       obtain ⟨rfl, rfl, rfl, rfl⟩ := T
       exact fi F
   · replace T := T.2 c5
     replace c5 := Bool.eq_false_iff.2 c5
     obtain ⟨rfl, rfl, rfl, rfl, rfl⟩ := T
     exact fi (aa c5 <| F)
 · replace T := T.2 c2
   obtain ⟨rfl, rfl, rfl, rfl, rfl⟩ := T
   exact fi (aa (eq_false c2) <| F)
set_option maxHeartbeats 4000000 in
theorem parse_exprs_chain_tree (x : PExprs) (x_g2 : Nat) (x_z2 : Bool) (rank : Int) (o : Option Int) (r : Int) (x' : PExprs) (x'_g2 : Nat) (x'_z2 : Bool) (T :
  ((rank = 5) →
  ∃ (o2 : Option Int) (r1 : Int) (y3 : PExprs) (g4 : Nat) (z5 : Bool), (R_parse_exprs_un x x_g2 x_z2 o2 r1 y3 g4 z5) ∧
  (match o2 with
  | none => (none = o ∧ r1 = r ∧ y3 = x' ∧ g4 = x'_g2 ∧ z5 = x'_z2)
  | some e6 => (some e6 = o ∧ y3 = x' ∧ g4 = x'_g2 ∧ z5 = x'_z2))) ∧
 (¬ (rank = 5) →
  (I64 (rank + 1)) ∧
  ∃ (o8 : Option Int) (r7 : Int) (y9 : PExprs) (g10 : Nat) (z11 : Bool), (R_parse_exprs_chain x x_g2 x_z2 (rank + 1) o8 r7 y9 g10 z11) ∧
  (match o8 with
  | none => (At_parse_exprs_chain_1 rank r7 y9 g10 z11 o r x' x'_g2 x'_z2)
  | some e12 => (some e12 = o ∧ y9 = x' ∧ g10 = x'_g2 ∧ z11 = x'_z2)))) : R_parse_exprs_chain x x_g2 x_z2 rank o r x' x'_g2 x'_z2 := by
 intro S n0 t0 H0
 obtain ⟨hb0, ha0⟩ := H0
 obtain ⟨w0, hB0⟩ := take_some hb0
 have hn0 := o_getBox_lt hB0
 rw [call_code sp_parse_exprs_chain _ _ rfl]
 have F := U_parse_exprs_chain
 replace F := aa ha0 <| aa hB0 <| aa hn0 <| F
 by_cases c1 : rank = 5
 · replace T := T.1 c1
   obtain ⟨o2, r1, y3, g4, z5, q2, T⟩ := T
   simp only [R_parse_exprs_un, le, List.cons_append, List.nil_append] at q2
   replace F := aa (eq_true c1) <| aa q2 <| F
   cases o2 with
   | none =>
     dsimp only at T
     obtain ⟨rfl, rfl, rfl, rfl, rfl⟩ := T
     exact fi F
   | some e6 =>
     dsimp only at T
     obtain ⟨rfl, rfl, rfl, rfl⟩ := T
     exact fi F
 · replace T := T.2 c1
   obtain ⟨p3, o8, r7, y9, g10, z11, q4, T⟩ := T
   simp only [R_parse_exprs_chain, le, List.cons_append, List.nil_append] at q4
   replace F := aa (eq_false c1) <| aa p3.wrap <| aa q4 <| F
   cases o8 with
   | none =>
     dsimp only at T
     try simp only [F, lw, lx, le, Nat.reduceMul, UInt8.reduceToNat, reduceIte, reduceCtorEq, Nat.reduceEqDiff, Nat.reduceAdd, Nat.reduceLeDiff, Nat.reduceSub, Nat.reduceLT, Int.reduceEq, Int.reduceLT, Int.reduceLE, Int.reduceToNat, Int.reduceAdd, Int.reduceSub, Int.reduceMul, Int.reduceNeg]
     refine (T _ _ _ n0 t0 ?_ ?_).trans ?_
     all_goals exact fi F
   | some e12 =>
     dsimp only at T
     obtain ⟨rfl, rfl, rfl, rfl⟩ := T
     exact fi F
theorem sp_parse_exprs_expr : SP 68 = some (.code sc_parse_exprs_expr) := SPof_code rfl Tryz.func68 comp_parse_exprs_expr
/-! (*doorkeeper/parse.exprs).expr -/
set_option maxHeartbeats 4000000 in
theorem parse_exprs_expr_tree (x : PExprs) (x_g2 : Nat) (x_z2 : Bool) (o : Option Int) (r : Int) (x' : PExprs) (x'_g2 : Nat) (x'_z2 : Bool) (T :
  ∃ (o2 : Option Int) (r1 : Int) (y3 : PExprs) (g4 : Nat) (z5 : Bool), (R_parse_exprs_chain x x_g2 x_z2 0 o2 r1 y3 g4 z5) ∧
 (match o2 with
 | none => (∃ (r7 : Bool) (y8 : PTokens), (R_parse_tokens_is y3.tokens [63] r7 y8) ∧
  ((r7 = true) →
   ∃ (o9 : Option Int) (y10 : PExprs) (g11 : Nat) (z12 : Bool), (R_parse_exprs_open (PExprs.mk y8 y3.out y3.deep) g4 z5 [63] o9 y10 g11 z12) ∧
   (match o9 with
   | none => (∃ (o15 : Option Int) (r14 : Int) (y16 : PExprs) (g17 : Nat) (z18 : Bool), (R_parse_exprs_expr y10 g11 z12 o15 r14 y16 g17 z18) ∧
    (match o15 with
    | none => (∃ (o20 : Option Int) (y21 : PTokens), (R_parse_tokens_need y16.tokens [58] o20 y21) ∧
     (match o20 with
     | none => (∃ (o24 : Option Int) (r23 : Int) (y25 : PExprs) (g26 : Nat) (z27 : Bool), (R_parse_exprs_expr (PExprs.mk y21 y16.out y16.deep) g17 z18 o24 r23 y25 g26 z27) ∧
      (match o24 with
      | none => ((I64 (y25.deep - 1)) ∧
       ∃ (r29 : Int) (y30 : PExprs) (g31 : Nat) (z32 : Bool), (R_parse_exprs_put (PExprs.mk y25.tokens y25.out (y25.deep - 1)) g26 z27 10 [] [r1, r14, r23] r29 y30 g31 z32) ∧
       none = o ∧ r29 = r ∧ y30 = x' ∧ g31 = x'_g2 ∧ z32 = x'_z2)
      | some e28 => (some e28 = o ∧ y25 = x' ∧ g26 = x'_g2 ∧ z27 = x'_z2)))
     | some e22 => (some e22 = o ∧ (PExprs.mk y21 y16.out y16.deep) = x' ∧ g17 = x'_g2 ∧ z18 = x'_z2)))
    | some e19 => (some e19 = o ∧ y16 = x' ∧ g17 = x'_g2 ∧ z18 = x'_z2)))
   | some e13 => (some e13 = o ∧ y10 = x' ∧ g11 = x'_g2 ∧ z12 = x'_z2))) ∧
  (¬ (r7 = true) →
   none = o ∧ r1 = r ∧ (PExprs.mk y8 y3.out y3.deep) = x' ∧ g4 = x'_g2 ∧ z5 = x'_z2))
 | some e6 => (some e6 = o ∧ y3 = x' ∧ g4 = x'_g2 ∧ z5 = x'_z2))) : R_parse_exprs_expr x x_g2 x_z2 o r x' x'_g2 x'_z2 := by
 intro S n0 t0 H0
 obtain ⟨hb0, ha0⟩ := H0
 obtain ⟨w0, hB0⟩ := take_some hb0
 have hn0 := o_getBox_lt hB0
 rw [call_code sp_parse_exprs_expr _ _ rfl]
 have F := U_parse_exprs_expr
 obtain ⟨o2, r1, y3, g4, z5, q1, T⟩ := T
 simp only [R_parse_exprs_chain, le, List.cons_append, List.nil_append] at q1
 replace F := aa ha0 <| aa hB0 <| aa hn0 <| aa q1 <| F
 cases o2 with
 | none =>
   dsimp only at T
   obtain ⟨r7, y8, q2, T⟩ := T
   simp only [R_parse_tokens_is, le, List.cons_append, List.nil_append] at q2
   replace F := aa q2 <| F
   by_cases c3 : r7 = true
   · replace T := T.1 c3
     obtain ⟨o9, y10, g11, z12, q4, T⟩ := T
     simp only [R_parse_exprs_open, le, List.cons_append, List.nil_append] at q4
     replace F := aa c3 <| aa q4 <| F
     cases o9 with
     | none =>
       dsimp only at T
       obtain ⟨o15, r14, y16, g17, z18, q5, T⟩ := T
       simp only [R_parse_exprs_expr, le, List.cons_append, List.nil_append] at q5
       replace F := aa q5 <| F
       cases o15 with
       | none =>
         dsimp only at T
         obtain ⟨o20, y21, q6, T⟩ := T
         simp only [R_parse_tokens_need, le, List.cons_append, List.nil_append] at q6
         replace F := aa q6 <| F
         cases o20 with
         | none =>
           dsimp only at T
           obtain ⟨o24, r23, y25, g26, z27, q7, T⟩ := T
           simp only [R_parse_exprs_expr, le, List.cons_append, List.nil_append] at q7
           replace F := aa q7 <| F
           cases o24 with
           | none =>
             dsimp only at T
             obtain ⟨p8, r29, y30, g31, z32, q9, rfl, rfl, rfl, rfl, rfl⟩ := T
             simp only [R_parse_exprs_put, le, List.cons_append, List.nil_append] at q9
             exact fi (aa p8.wrap <| aa q9 <| F)
           | some e28 =>
             dsimp only at T
             obtain ⟨rfl, rfl, rfl, rfl⟩ := T
             exact fi F
         | some e22 =>
           dsimp only at T
           obtain ⟨rfl, rfl, rfl, rfl⟩ := T
           exact fi F
       | some e19 =>
         dsimp only at T
         obtain ⟨rfl, rfl, rfl, rfl⟩ := T
         exact fi F
     | some e13 =>
       dsimp only at T
       obtain ⟨rfl, rfl, rfl, rfl⟩ := T
       exact fi F
   · replace T := T.2 c3
     replace c3 := Bool.eq_false_iff.2 c3
     obtain ⟨rfl, rfl, rfl, rfl, rfl⟩ := T
     exact fi (aa c3 <| F)
 | some e6 =>
   dsimp only at T
   obtain ⟨rfl, rfl, rfl, rfl⟩ := T
   exact fi F
theorem sp_parse_exprs_un : SP 142 = some (.code sc_parse_exprs_un) := SPof_code rfl Tryz.func142 comp_parse_exprs_un
/-! (*doorkeeper/parse.exprs).un -/
set_option maxHeartbeats 4000000 in
theorem parse_exprs_un_tree (x : PExprs) (x_g2 : Nat) (x_z2 : Bool) (o : Option Int) (r : Int) (x' : PExprs) (x'_g2 : Nat) (x'_z2 : Bool) (T :
  ∃ (r1 : Bool) (y2 : PTokens), (R_parse_tokens_is x.tokens [45] r1 y2) ∧
 ((r1 = true) →
  ∃ (o3 : Option Int) (y4 : PExprs) (g5 : Nat) (z6 : Bool), (R_parse_exprs_open (PExprs.mk y2 x.out x.deep) x_g2 x_z2 [45] o3 y4 g5 z6) ∧
  (match o3 with
  | none => (∃ (o9 : Option Int) (r8 : Int) (y10 : PExprs) (g11 : Nat) (z12 : Bool), (R_parse_exprs_un y4 g5 z6 o9 r8 y10 g11 z12) ∧
   (match o9 with
   | none => ((I64 (y10.deep - 1)) ∧
    ∃ (r14 : Int) (y15 : PExprs) (g16 : Nat) (z17 : Bool), (R_parse_exprs_put (PExprs.mk y10.tokens y10.out (y10.deep - 1)) g11 z12 9 [] [r8] r14 y15 g16 z17) ∧
    none = o ∧ r14 = r ∧ y15 = x' ∧ g16 = x'_g2 ∧ z17 = x'_z2)
   | some e13 => (some e13 = o ∧ y10 = x' ∧ g11 = x'_g2 ∧ z12 = x'_z2)))
  | some e7 => (some e7 = o ∧ y4 = x' ∧ g5 = x'_g2 ∧ z6 = x'_z2))) ∧
 (¬ (r1 = true) →
  ∃ (r18 : Bool) (y19 : PTokens), (R_parse_tokens_is y2 [33] r18 y19) ∧
  ((r18 = true) →
   ∃ (o20 : Option Int) (y21 : PExprs) (g22 : Nat) (z23 : Bool), (R_parse_exprs_open (PExprs.mk y19 x.out x.deep) x_g2 x_z2 [33] o20 y21 g22 z23) ∧
   (match o20 with
   | none => (∃ (o26 : Option Int) (r25 : Int) (y27 : PExprs) (g28 : Nat) (z29 : Bool), (R_parse_exprs_un y21 g22 z23 o26 r25 y27 g28 z29) ∧
    (match o26 with
    | none => ((I64 (y27.deep - 1)) ∧
     ∃ (r31 : Int) (y32 : PExprs) (g33 : Nat) (z34 : Bool), (R_parse_exprs_put (PExprs.mk y27.tokens y27.out (y27.deep - 1)) g28 z29 8 [] [r25] r31 y32 g33 z34) ∧
     none = o ∧ r31 = r ∧ y32 = x' ∧ g33 = x'_g2 ∧ z34 = x'_z2)
    | some e30 => (some e30 = o ∧ y27 = x' ∧ g28 = x'_g2 ∧ z29 = x'_z2)))
   | some e24 => (some e24 = o ∧ y21 = x' ∧ g22 = x'_g2 ∧ z23 = x'_z2))) ∧
  (¬ (r18 = true) →
   ∃ (o36 : Option Int) (r35 : Int) (y37 : PExprs) (g38 : Nat) (z39 : Bool), (R_parse_exprs_post (PExprs.mk y19 x.out x.deep) x_g2 x_z2 o36 r35 y37 g38 z39) ∧
   (match o36 with
   | none => (none = o ∧ r35 = r ∧ y37 = x' ∧ g38 = x'_g2 ∧ z39 = x'_z2)
   | some e40 => (some e40 = o ∧ y37 = x' ∧ g38 = x'_g2 ∧ z39 = x'_z2))))) : R_parse_exprs_un x x_g2 x_z2 o r x' x'_g2 x'_z2 := by
 intro S n0 t0 H0
 obtain ⟨hb0, ha0⟩ := H0
 obtain ⟨w0, hB0⟩ := take_some hb0
 have hn0 := o_getBox_lt hB0
 rw [call_code sp_parse_exprs_un _ _ rfl]
 have F := U_parse_exprs_un
 obtain ⟨r1, y2, q1, T⟩ := T
 simp only [R_parse_tokens_is, le, List.cons_append, List.nil_append] at q1
 replace F := aa ha0 <| aa hB0 <| aa hn0 <| aa q1 <| F
 by_cases c2 : r1 = true
 · replace T := T.1 c2
   obtain ⟨o3, y4, g5, z6, q3, T⟩ := T
   simp only [R_parse_exprs_open, le, List.cons_append, List.nil_append] at q3
   replace F := aa c2 <| aa q3 <| F
   cases o3 with
   | none =>
     dsimp only at T
     obtain ⟨o9, r8, y10, g11, z12, q4, T⟩ := T
     simp only [R_parse_exprs_un, le, List.cons_append, List.nil_append] at q4
     replace F := aa q4 <| F
     cases o9 with
     | none =>
       dsimp only at T
       obtain ⟨p5, r14, y15, g16, z17, q6, rfl, rfl, rfl, rfl, rfl⟩ := T
       simp only [R_parse_exprs_put, le, List.cons_append, List.nil_append] at q6
       exact fi (aa p5.wrap <| aa q6 <| F)
     | some e13 =>
       dsimp only at T
       obtain ⟨rfl, rfl, rfl, rfl⟩ := T
       exact fi F
   | some e7 =>
     dsimp only at T
     obtain ⟨rfl, rfl, rfl, rfl⟩ := T
     exact fi F
 · replace T := T.2 c2
   replace c2 := Bool.eq_false_iff.2 c2
   obtain ⟨r18, y19, q7, T⟩ := T
   simp only [R_parse_tokens_is, le, List.cons_append, List.nil_append] at q7
   replace F := aa c2 <| aa q7 <| F
   by_cases c8 : r18 = true
   · replace T := T.1 c8
     obtain ⟨o20, y21, g22, z23, q9, T⟩ := T
     simp only [R_parse_exprs_open, le, List.cons_append, List.nil_append] at q9
     replace F := aa c8 <| aa q9 <| F
     cases o20 with
     | none =>
       dsimp only at T
       obtain ⟨o26, r25, y27, g28, z29, q10, T⟩ := T
       simp only [R_parse_exprs_un, le, List.cons_append, List.nil_append] at q10
       replace F := aa q10 <| F
       cases o26 with
       | none =>
         dsimp only at T
         obtain ⟨p11, r31, y32, g33, z34, q12, rfl, rfl, rfl, rfl, rfl⟩ := T
         simp only [R_parse_exprs_put, le, List.cons_append, List.nil_append] at q12
         exact fi (aa p11.wrap <| aa q12 <| F)
       | some e30 =>
         dsimp only at T
         obtain ⟨rfl, rfl, rfl, rfl⟩ := T
         exact fi F
     | some e24 =>
       dsimp only at T
       obtain ⟨rfl, rfl, rfl, rfl⟩ := T
       exact fi F
   · replace T := T.2 c8
     replace c8 := Bool.eq_false_iff.2 c8
     obtain ⟨o36, r35, y37, g38, z39, q13, T⟩ := T
     simp only [R_parse_exprs_post, le, List.cons_append, List.nil_append] at q13
     replace F := aa c8 <| aa q13 <| F
     cases o36 with
     | none =>
       dsimp only at T
       obtain ⟨rfl, rfl, rfl, rfl, rfl⟩ := T
       exact fi F
     | some e40 =>
       dsimp only at T
       obtain ⟨rfl, rfl, rfl, rfl⟩ := T
       exact fi F
theorem sp_parse_exprs_post : SP 167 = some (.code sc_parse_exprs_post) := SPof_code rfl Tryz.func167 comp_parse_exprs_post
/-! (*doorkeeper/parse.exprs).post -/
def At_parse_exprs_post_1 (i7 : Int) (x8 : PExprs) (g9 : Nat) (z10 : Bool) (o : Option Int) (r : Int) (x' : PExprs) (x'_g2 : Nat) (x'_z2 : Bool) : Prop := ∀ (S : Sto) (e : Nat → PV) (f : Fr) (n0 t0 : Nat), ((getBox S n0 t0).map (List.take 4) = some [.list 5 (x8.tokens.l.map eToken) false, .int .i64 x8.tokens.pos, .sl 0 (.cell t0 2) 0 x8.out.length x8.out.length g9 false, .int .i64 x8.deep] ∧ getArr S n0 (.cell t0 2) = some ⟨5, x8.out.map eNode, z10, g9⟩) → e 0 = .ptr (n0 + 1) t0 0 ∧ e 3 = .int .i64 i7 → k_parse_exprs_post_1 SP (E SP (.loop b_parse_exprs_post_1) ⟨e, f :: S⟩) = po 116 o (.v (.int .i64 r)) (setArr (setBox S n0 t0 ([.list 5 (x'.tokens.l.map eToken) false, .int .i64 x'.tokens.pos, .sl 0 (.cell t0 2) 0 x'.out.length x'.out.length x'_g2 false, .int .i64 x'.deep] ++ ((getBox S n0 t0).getD []).drop 4)) n0 (.cell t0 2) ⟨5, x'.out.map eNode, x'_z2, x'_g2⟩)
set_option maxHeartbeats 4000000 in
theorem At_parse_exprs_post_1_step (i7 : Int) (x8 : PExprs) (g9 : Nat) (z10 : Bool) (o : Option Int) (r : Int) (x' : PExprs) (x'_g2 : Nat) (x'_z2 : Bool) (T :
  ∃ (r11 : Bool) (y12 : PTokens), (R_parse_tokens_is x8.tokens [91] r11 y12) ∧
 ((r11 = true) →
  ∃ (o13 : Option Int) (y14 : PExprs) (g15 : Nat) (z16 : Bool), (R_parse_exprs_open (PExprs.mk y12 x8.out x8.deep) g9 z10 [91] o13 y14 g15 z16) ∧
  (match o13 with
  | none => (∃ (o19 : Option Int) (r18 : Int) (y20 : PExprs) (g21 : Nat) (z22 : Bool), (R_parse_exprs_expr y14 g15 z16 o19 r18 y20 g21 z22) ∧
   (match o19 with
   | none => (∃ (o24 : Option Int) (y25 : PExprs) (g26 : Nat) (z27 : Bool), (R_parse_exprs_shut y20 g21 z22 [93] o24 y25 g26 z27) ∧
    (match o24 with
    | none => (∃ (r29 : Int) (y30 : PExprs) (g31 : Nat) (z32 : Bool), (R_parse_exprs_put y25 g26 z27 7 [] [i7, r18] r29 y30 g31 z32) ∧
     At_parse_exprs_post_1 r29 y30 g31 z32 o r x' x'_g2 x'_z2)
    | some e28 => (some e28 = o ∧ y25 = x' ∧ g26 = x'_g2 ∧ z27 = x'_z2)))
   | some e23 => (some e23 = o ∧ y20 = x' ∧ g21 = x'_g2 ∧ z22 = x'_z2)))
  | some e17 => (some e17 = o ∧ y14 = x' ∧ g15 = x'_g2 ∧ z16 = x'_z2))) ∧
 (¬ (r11 = true) →
  none = o ∧ i7 = r ∧ (PExprs.mk y12 x8.out x8.deep) = x' ∧ g9 = x'_g2 ∧ z10 = x'_z2)) : At_parse_exprs_post_1 i7 x8 g9 z10 o r x' x'_g2 x'_z2 := by
 intro S e f n0 t0 H0 h
 obtain ⟨hb0, ha0⟩ := H0
 obtain ⟨w0, hB0⟩ := take_some hb0
 have hn0 := o_getBox_lt hB0
 unfold k_parse_exprs_post_1
 rw [E_loop]
 have F := U_parse_exprs_post
 obtain ⟨r11, y12, q1, T⟩ := T
 simp only [R_parse_tokens_is, le, List.cons_append, List.nil_append] at q1
 replace F := aa ha0 <| aa hB0 <| aa hn0 <| aa h <| aa q1 <| F
 by_cases c2 : r11 = true
 · replace T := T.1 c2
   obtain ⟨o13, y14, g15, z16, q3, T⟩ := T
   simp only [R_parse_exprs_open, le, List.cons_append, List.nil_append] at q3
   replace F := aa c2 <| aa q3 <| F
   cases o13 with
   | none =>
     dsimp only at T
     obtain ⟨o19, r18, y20, g21, z22, q4, T⟩ := T
     simp only [R_parse_exprs_expr, le, List.cons_append, List.nil_append] at q4
     replace F := aa q4 <| F
     cases o19 with
     | none =>
       dsimp only at T
       obtain ⟨o24, y25, g26, z27, q5, T⟩ := T
       simp only [R_parse_exprs_shut, le, List.cons_append, List.nil_append] at q5
       replace F := aa q5 <| F
       cases o24 with
       | none =>
         dsimp only at T
         obtain ⟨r29, y30, g31, z32, q6, T⟩ := T
         simp only [R_parse_exprs_put, le, List.cons_append, List.nil_append] at q6
         replace F := aa q6 <| F
         try simp only [F, lw, lx, le, Nat.reduceMul, UInt8.reduceToNat, reduceIte, reduceCtorEq, Nat.reduceEqDiff, Nat.reduceAdd, Nat.reduceLeDiff, Nat.reduceSub, Nat.reduceLT, Int.reduceEq, Int.reduceLT, Int.reduceLE, Int.reduceToNat, Int.reduceAdd, Int.reduceSub, Int.reduceMul, Int.reduceNeg]
         refine (T _ _ _ n0 t0 ?_ ?_).trans ?_
         all_goals exact fi F
       | some e28 =>
         dsimp only at T
         obtain ⟨rfl, rfl, rfl, rfl⟩ := T
         exact fi F
     | some e23 =>
       dsimp only at T
       obtain ⟨rfl, rfl, rfl, rfl⟩ := T
       exact fi F
   | some e17 =>
     dsimp only at T
     obtain ⟨rfl, rfl, rfl, rfl⟩ := T
     exact fi F
 · replace T := T.2 c2
   replace c2 := Bool.eq_false_iff.2 c2
   obtain ⟨rfl, rfl, rfl, rfl, rfl⟩ := T
   exact fi (aa c2 <| F)
set_option maxHeartbeats 4000000 in
theorem parse_exprs_post_tree (x : PExprs) (x_g2 : Nat) (x_z2 : Bool) (o : Option Int) (r : Int) (x' : PExprs) (x'_g2 : Nat) (x'_z2 : Bool) (T :
  ∃ (o2 : Option Int) (r1 : Int) (y3 : PExprs) (g4 : Nat) (z5 : Bool), (R_parse_exprs_prim x x_g2 x_z2 o2 r1 y3 g4 z5) ∧
 (match o2 with
 | none => (At_parse_exprs_post_1 r1 y3 g4 z5 o r x' x'_g2 x'_z2)
 | some e6 => (some e6 = o ∧ y3 = x' ∧ g4 = x'_g2 ∧ z5 = x'_z2))) : R_parse_exprs_post x x_g2 x_z2 o r x' x'_g2 x'_z2 := by
 intro S n0 t0 H0
 obtain ⟨hb0, ha0⟩ := H0
 obtain ⟨w0, hB0⟩ := take_some hb0
 have hn0 := o_getBox_lt hB0
 rw [call_code sp_parse_exprs_post _ _ rfl]
 have F := U_parse_exprs_post
 obtain ⟨o2, r1, y3, g4, z5, q1, T⟩ := T
 simp only [R_parse_exprs_prim, le, List.cons_append, List.nil_append] at q1
 replace F := aa ha0 <| aa hB0 <| aa hn0 <| aa q1 <| F
 cases o2 with
 | none =>
   dsimp only at T
   try simp only [F, lw, lx, le, Nat.reduceMul, UInt8.reduceToNat, reduceIte, reduceCtorEq, Nat.reduceEqDiff, Nat.reduceAdd, Nat.reduceLeDiff, Nat.reduceSub, Nat.reduceLT, Int.reduceEq, Int.reduceLT, Int.reduceLE, Int.reduceToNat, Int.reduceAdd, Int.reduceSub, Int.reduceMul, Int.reduceNeg]
   refine (T _ _ _ n0 t0 ?_ ?_).trans ?_
   all_goals exact fi F
 | some e6 =>
   dsimp only at T
   obtain ⟨rfl, rfl, rfl, rfl⟩ := T
   exact fi F
theorem sp_parse_exprs_many : SP 203 = some (.code sc_parse_exprs_many) := SPof_code rfl Tryz.func203 comp_parse_exprs_many
/-! (*doorkeeper/parse.exprs).many -/
def At_parse_exprs_many_1 (end_ : List UInt8) (l14 : List Int) (x15 : PExprs) (g16 : Nat) (z17 : Bool) (o : Option Int) (r : List Int) (x' : PExprs) (x'_g2 : Nat) (x'_z2 : Bool) : Prop := ∀ (S : Sto) (e : Nat → PV) (f : Fr) (n0 t0 : Nat), ((getBox S n0 t0).map (List.take 4) = some [.list 5 (x15.tokens.l.map eToken) false, .int .i64 x15.tokens.pos, .sl 0 (.cell t0 2) 0 x15.out.length x15.out.length g16 false, .int .i64 x15.deep] ∧ getArr S n0 (.cell t0 2) = some ⟨5, x15.out.map eNode, z17, g16⟩) → e 0 = .ptr (n0 + 1) t0 0 ∧ e 1 = .str end_ ∧ e 5 = .sl 0 (.slot 5) 0 l14.length l14.length 0 false ∧ f.arr (.slot 5) = some ⟨1, l14.map eI, false, 0⟩ → k_parse_exprs_many_1 SP (E SP (.loop b_parse_exprs_many_1) ⟨e, f :: S⟩) = po 116 o (.arr 1 (r.map eI) false) (setArr (setBox S n0 t0 ([.list 5 (x'.tokens.l.map eToken) false, .int .i64 x'.tokens.pos, .sl 0 (.cell t0 2) 0 x'.out.length x'.out.length x'_g2 false, .int .i64 x'.deep] ++ ((getBox S n0 t0).getD []).drop 4)) n0 (.cell t0 2) ⟨5, x'.out.map eNode, x'_z2, x'_g2⟩)
set_option maxHeartbeats 4000000 in
theorem At_parse_exprs_many_1_step (end_ : List UInt8) (l14 : List Int) (x15 : PExprs) (g16 : Nat) (z17 : Bool) (o : Option Int) (r : List Int) (x' : PExprs) (x'_g2 : Nat) (x'_z2 : Bool) (T :
  ∃ (r18 : Bool) (y19 : PTokens), (R_parse_tokens_may x15.tokens [44] r18 y19) ∧
 ((r18 = true) →
  ∃ (o21 : Option Int) (r20 : Int) (y22 : PExprs) (g23 : Nat) (z24 : Bool), (R_parse_exprs_expr (PExprs.mk y19 x15.out x15.deep) g16 z17 o21 r20 y22 g23 z24) ∧
  (match o21 with
  | none => ((bigRow (l14.length + 1) 8) ∧
   At_parse_exprs_many_1 end_ (l14 ++ [r20]) y22 g23 z24 o r x' x'_g2 x'_z2)
  | some e25 => (some e25 = o ∧ y22 = x' ∧ g23 = x'_g2 ∧ z24 = x'_z2))) ∧
 (¬ (r18 = true) →
  ∃ (o26 : Option Int) (y27 : PExprs) (g28 : Nat) (z29 : Bool), (R_parse_exprs_shut (PExprs.mk y19 x15.out x15.deep) g16 z17 end_ o26 y27 g28 z29) ∧
  (match o26 with
  | none => (none = o ∧ l14 = r ∧ y27 = x' ∧ g28 = x'_g2 ∧ z29 = x'_z2)
  | some e30 => (some e30 = o ∧ y27 = x' ∧ g28 = x'_g2 ∧ z29 = x'_z2)))) : At_parse_exprs_many_1 end_ l14 x15 g16 z17 o r x' x'_g2 x'_z2 := by
 intro S e f n0 t0 H0 h
 obtain ⟨hb0, ha0⟩ := H0
 obtain ⟨w0, hB0⟩ := take_some hb0
 have hn0 := o_getBox_lt hB0
 unfold k_parse_exprs_many_1
 rw [E_loop]
 have F := U_parse_exprs_many
 obtain ⟨r18, y19, q1, T⟩ := T
 simp only [R_parse_tokens_may, le, List.cons_append, List.nil_append] at q1
 replace F := aa ha0 <| aa hB0 <| aa hn0 <| aa h <| aa q1 <| F
 by_cases c2 : r18 = true
 · replace T := T.1 c2
   obtain ⟨o21, r20, y22, g23, z24, q3, T⟩ := T
   simp only [R_parse_exprs_expr, le, List.cons_append, List.nil_append] at q3
   replace F := aa c2 <| aa q3 <| F
   cases o21 with
   | none =>
     dsimp only at T
     obtain ⟨p4, T⟩ := T
     simp only [bigRow] at p4
     replace F := aa p4 <| F
     try simp only [F, lw, lx, le, Nat.reduceMul, UInt8.reduceToNat, reduceIte, reduceCtorEq, Nat.reduceEqDiff, Nat.reduceAdd, Nat.reduceLeDiff, Nat.reduceSub, Nat.reduceLT, Int.reduceEq, Int.reduceLT, Int.reduceLE, Int.reduceToNat, Int.reduceAdd, Int.reduceSub, Int.reduceMul, Int.reduceNeg]
     refine (T _ _ _ n0 t0 ?_ ?_).trans ?_
     all_goals exact fi F
   | some e25 =>
     dsimp only at T
     obtain ⟨rfl, rfl, rfl, rfl⟩ := T
     exact fi F
 · replace T := T.2 c2
   replace c2 := Bool.eq_false_iff.2 c2
   obtain ⟨o26, y27, g28, z29, q5, T⟩ := T
   simp only [R_parse_exprs_shut, le, List.cons_append, List.nil_append] at q5
   replace F := aa c2 <| aa q5 <| F
   cases o26 with
   | none =>
     dsimp only at T
     obtain ⟨rfl, rfl, rfl, rfl, rfl⟩ := T
     exact fi F
   | some e30 =>
     dsimp only at T
     obtain ⟨rfl, rfl, rfl, rfl⟩ := T
     exact fi F
set_option maxHeartbeats 4000000 in
theorem parse_exprs_many_tree (x : PExprs) (x_g2 : Nat) (x_z2 : Bool) (end_ : List UInt8) (o : Option Int) (r : List Int) (x' : PExprs) (x'_g2 : Nat) (x'_z2 : Bool) (T :
  ∃ (r1 : Bool) (y2 : PTokens), (R_parse_tokens_is x.tokens end_ r1 y2) ∧
 ((r1 = true) →
  ∃ (o3 : Option Int) (y4 : PExprs) (g5 : Nat) (z6 : Bool), (R_parse_exprs_shut (PExprs.mk y2 x.out x.deep) x_g2 x_z2 end_ o3 y4 g5 z6) ∧
  (match o3 with
  | none => (none = o ∧ [] = r ∧ y4 = x' ∧ g5 = x'_g2 ∧ z6 = x'_z2)
  | some e7 => (some e7 = o ∧ y4 = x' ∧ g5 = x'_g2 ∧ z6 = x'_z2))) ∧
 (¬ (r1 = true) →
  ∃ (o9 : Option Int) (r8 : Int) (y10 : PExprs) (g11 : Nat) (z12 : Bool), (R_parse_exprs_expr (PExprs.mk y2 x.out x.deep) x_g2 x_z2 o9 r8 y10 g11 z12) ∧
  (match o9 with
  | none => (At_parse_exprs_many_1 end_ [r8] y10 g11 z12 o r x' x'_g2 x'_z2)
  | some e13 => (some e13 = o ∧ y10 = x' ∧ g11 = x'_g2 ∧ z12 = x'_z2)))) : R_parse_exprs_many x x_g2 x_z2 end_ o r x' x'_g2 x'_z2 := by
 intro S n0 t0 H0
 obtain ⟨hb0, ha0⟩ := H0
 obtain ⟨w0, hB0⟩ := take_some hb0
 have hn0 := o_getBox_lt hB0
 rw [call_code sp_parse_exprs_many _ _ rfl]
 have F := U_parse_exprs_many
 obtain ⟨r1, y2, q1, T⟩ := T
 simp only [R_parse_tokens_is, le, List.cons_append, List.nil_append] at q1
 replace F := aa ha0 <| aa hB0 <| aa hn0 <| aa q1 <| F
 by_cases c2 : r1 = true
 · replace T := T.1 c2
   obtain ⟨o3, y4, g5, z6, q3, T⟩ := T
   simp only [R_parse_exprs_shut, le, List.cons_append, List.nil_append] at q3
   replace F := aa c2 <| aa q3 <| F
   cases o3 with
   | none =>
     dsimp only at T
     obtain ⟨rfl, rfl, rfl, rfl, rfl⟩ := T
     exact fi F
   | some e7 =>
     dsimp only at T
     obtain ⟨rfl, rfl, rfl, rfl⟩ := T
     exact fi F
 · replace T := T.2 c2
   replace c2 := Bool.eq_false_iff.2 c2
   obtain ⟨o9, r8, y10, g11, z12, q4, T⟩ := T
   simp only [R_parse_exprs_expr, le, List.cons_append, List.nil_append] at q4
   replace F := aa c2 <| aa q4 <| F
   cases o9 with
   | none =>
     dsimp only at T
     try simp only [F, lw, lx, le, Nat.reduceMul, UInt8.reduceToNat, reduceIte, reduceCtorEq, Nat.reduceEqDiff, Nat.reduceAdd, Nat.reduceLeDiff, Nat.reduceSub, Nat.reduceLT, Int.reduceEq, Int.reduceLT, Int.reduceLE, Int.reduceToNat, Int.reduceAdd, Int.reduceSub, Int.reduceMul, Int.reduceNeg]
     refine (T _ _ _ n0 t0 ?_ ?_).trans ?_
     all_goals exact fi F
   | some e13 =>
     dsimp only at T
     obtain ⟨rfl, rfl, rfl, rfl⟩ := T
     exact fi F
theorem sp_parse_blocks_label : SP 64 = some (.code sc_parse_blocks_label) := SPof_code rfl Tryz.func64 comp_parse_blocks_label
/-! (*doorkeeper/parse.blocks).label -/
set_option maxHeartbeats 4000000 in
theorem parse_blocks_label_tree (b : PBlocks) (b_g2 : Nat) (b_z2 : Bool) (o : Option Int) (r : List UInt8) (b' : PBlocks) (b'_g2 : Nat) (b'_z2 : Bool) (T :
  ∃ (r1 : Token) (y2 : PTokens), (R_parse_tokens_now b.exprs.tokens r1 y2) ∧
 ((r1.Kind = 2) →
  (((r1.Parts.length : Int) = 1) →
   ∃ (v3 : Part), (r1.Parts[0]? = some v3) ∧
   ((v3.Ref = true) →
    ∃ (o4 : Option Int) (y5 : PTokens), (R_parse_tokens_fail y2 5 o4 y5) ∧
    (match o4 with
    | none => (False /- no return -/)
    | some e6 => (some e6 = o ∧ (PBlocks.mk (PExprs.mk y5 b.exprs.out b.exprs.deep)) = b' ∧ b_g2 = b'_g2 ∧ b_z2 = b'_z2))) ∧
   (¬ (v3.Ref = true) →
    ∃ (r7 : Bool), (R_lex_Label v3.Text r7) ∧
    ((r7 = true) →
     (I64 (y2.pos + 1)) ∧
     none = o ∧ v3.Text = r ∧ (PBlocks.mk (PExprs.mk (PTokens.mk y2.l (y2.pos + 1)) b.exprs.out b.exprs.deep)) = b' ∧ b_g2 = b'_g2 ∧ b_z2 = b'_z2) ∧
    (¬ (r7 = true) →
     ∃ (o8 : Option Int) (y9 : PTokens), (R_parse_tokens_fail y2 5 o8 y9) ∧
     (match o8 with
     | none => (False /- no return -/)
     | some e10 => (some e10 = o ∧ (PBlocks.mk (PExprs.mk y9 b.exprs.out b.exprs.deep)) = b' ∧ b_g2 = b'_g2 ∧ b_z2 = b'_z2))))) ∧
  (¬ ((r1.Parts.length : Int) = 1) →
   ∃ (o11 : Option Int) (y12 : PTokens), (R_parse_tokens_fail y2 5 o11 y12) ∧
   (match o11 with
   | none => (False /- no return -/)
   | some e13 => (some e13 = o ∧ (PBlocks.mk (PExprs.mk y12 b.exprs.out b.exprs.deep)) = b' ∧ b_g2 = b'_g2 ∧ b_z2 = b'_z2)))) ∧
 (¬ (r1.Kind = 2) →
  ∃ (o14 : Option Int) (y15 : PTokens), (R_parse_tokens_fail y2 5 o14 y15) ∧
  (match o14 with
  | none => (False /- no return -/)
  | some e16 => (some e16 = o ∧ (PBlocks.mk (PExprs.mk y15 b.exprs.out b.exprs.deep)) = b' ∧ b_g2 = b'_g2 ∧ b_z2 = b'_z2)))) : R_parse_blocks_label b b_g2 b_z2 o r b' b'_g2 b'_z2 := by
 intro S n0 t0 H0
 obtain ⟨hb0, ha0⟩ := H0
 obtain ⟨w0, hB0⟩ := take_some hb0
 have hn0 := o_getBox_lt hB0
 rw [call_code sp_parse_blocks_label _ _ rfl]
 have F := U_parse_blocks_label
 obtain ⟨r1, y2, q1, T⟩ := T
 simp only [R_parse_tokens_now, le, List.cons_append, List.nil_append] at q1
 replace F := aa ha0 <| aa hB0 <| aa hn0 <| aa q1 <| F
 by_cases c2 : r1.Kind = 2
 · replace T := T.1 c2
   replace F := aa (eq_true c2) <| F
   by_cases c3 : (r1.Parts.length : Int) = 1
   · replace T := T.1 c3
     obtain ⟨v3, q4, T⟩ := T
     replace F := aa (eq_true c3) <| aa q4 <| F
     by_cases c5 : v3.Ref = true
     · replace T := T.1 c5
       obtain ⟨o4, y5, q6, T⟩ := T
       simp only [R_parse_tokens_fail, le, List.cons_append, List.nil_append] at q6
       replace F := aa c5 <| aa q6 <| F
       cases o4 with
       | none => exact False.elim T
       | some e6 =>
         dsimp only at T
         obtain ⟨rfl, rfl, rfl, rfl⟩ := T
         exact fi F
     · replace T := T.2 c5
       replace c5 := Bool.eq_false_iff.2 c5
       obtain ⟨r7, q7, T⟩ := T
       simp only [R_lex_Label, le, List.cons_append, List.nil_append] at q7
       replace F := aa c5 <| aa q7 <| F
       by_cases c8 : r7 = true
       · replace T := T.1 c8
         obtain ⟨p9, rfl, rfl, rfl, rfl, rfl⟩ := T
         exact fi (aa c8 <| aa p9.wrap <| F)
       · replace T := T.2 c8
         replace c8 := Bool.eq_false_iff.2 c8
         obtain ⟨o8, y9, q10, T⟩ := T
         simp only [R_parse_tokens_fail, le, List.cons_append, List.nil_append] at q10
         replace F := aa c8 <| aa q10 <| F
         cases o8 with
         | none => exact False.elim T
         | some e10 =>
           dsimp only at T
           obtain ⟨rfl, rfl, rfl, rfl⟩ := T
           exact fi F
   · replace T := T.2 c3
     obtain ⟨o11, y12, q11, T⟩ := T
     simp only [R_parse_tokens_fail, le, List.cons_append, List.nil_append] at q11
     replace F := aa (eq_false c3) <| aa q11 <| F
     cases o11 with
     | none => exact False.elim T
     | some e13 =>
       dsimp only at T
       obtain ⟨rfl, rfl, rfl, rfl⟩ := T
       exact fi F
 · replace T := T.2 c2
   obtain ⟨o14, y15, q12, T⟩ := T
   simp only [R_parse_tokens_fail, le, List.cons_append, List.nil_append] at q12
   replace F := aa (eq_false c2) <| aa q12 <| F
   cases o14 with
   | none => exact False.elim T
   | some e16 =>
     dsimp only at T
     obtain ⟨rfl, rfl, rfl, rfl⟩ := T
     exact fi F
theorem sp_parse_blocks_body_1 : SP 100 = some (.code sc_parse_blocks_body_1) := SPof_code rfl Tryz.func100 comp_parse_blocks_body_1
/-! (*doorkeeper/parse.blocks).body$1 -/
set_option maxHeartbeats 4000000 in
theorem parse_blocks_body_1_tree (a : Attr) (c0_ : List UInt8) (r : Bool) (T :
  (decide (a.Name = c0_)) = r) : R_parse_blocks_body_1 a c0_ r := by
 intro S n1 t1 H0
 have hb0 := H0
 obtain ⟨w0, hB0⟩ := take_some hb0
 have hn0 := o_getBox_lt hB0
 rw [call_code sp_parse_blocks_body_1 _ _ rfl]
 have F := U_parse_blocks_body_1
 obtain rfl := T
 exact fi (aa hB0 <| aa hn0 <| F)
theorem sp_parse_blocks_body : SP 65 = some (.code sc_parse_blocks_body) := SPof_code rfl Tryz.func65 comp_parse_blocks_body
/-! (*doorkeeper/parse.blocks).body -/
theorem H_slices_ContainsFunc_api_Attr_api_Attr_parse_blocks_body_1 {xs : List Attr} {c0 : List UInt8} {p : Attr → Bool} (hl : xs.length < 9223372036854775808) (hp : ∀ x, x ∈ xs → R_parse_blocks_body_1 x c0 (p x)) : ∀ (S : Sto) (n0 : Nat) (t0 : Nat), (getBox S n0 t0).map (List.take 1) = some [.str c0] → call SP 99 [.list 2 (xs.map eAttr) false, .func 100 [.ptr n0 t0 0]] S = .ok (.v (.bool (xs.any p))) S := by
 intro S n0 t0 h0
 refine G_slices_ContainsFunc_api_Attr_api_Attr xs 100 [.ptr n0 t0 0] p S hl (by intro S; rfl) (by rfl) (by intro a; rfl) (by intro S; rfl) (by rfl) (by intro a; rfl) ?_
 intro x hx f f'
 have := hp x hx (f :: f' :: S) (n0 + 1 + 1) t0 (by simpa only [lw] using h0)
 simpa only [PV.upL, PV.up] using this
def At_parse_blocks_body_1 (l4 : List Attr) (b5 : PBlocks) (g6 : Nat) (z7 : Bool) (o : Option Int) (r : List Attr) (b' : PBlocks) (b'_g2 : Nat) (b'_z2 : Bool) : Prop := (∀ (S : Sto) (e : Nat → PV) (f : Fr) (n0 t0 : Nat), ((getBox S n0 t0).map (List.take 4) = some [.list 5 (b5.exprs.tokens.l.map eToken) false, .int .i64 b5.exprs.tokens.pos, .sl 0 (.cell t0 2) 0 b5.exprs.out.length b5.exprs.out.length g6 false, .int .i64 b5.exprs.deep] ∧ getArr S n0 (.cell t0 2) = some ⟨5, b5.exprs.out.map eNode, z7, g6⟩) → e 0 = .ptr (n0 + 1) t0 0 ∧ e 3 = .sl 0 (.slot 3) 0 l4.length l4.length 0 false ∧ f.arr (.slot 3) = some ⟨2, l4.map eAttr, false, 0⟩ → k_parse_blocks_body_1 SP (E SP (.loop b_parse_blocks_body_1) ⟨e, f :: S⟩) = po 116 o (.v (.list 2 (r.map eAttr) false)) (setArr (setBox S n0 t0 ([.list 5 (b'.exprs.tokens.l.map eToken) false, .int .i64 b'.exprs.tokens.pos, .sl 0 (.cell t0 2) 0 b'.exprs.out.length b'.exprs.out.length b'_g2 false, .int .i64 b'.exprs.deep] ++ ((getBox S n0 t0).getD []).drop 4)) n0 (.cell t0 2) ⟨5, b'.exprs.out.map eNode, b'_z2, b'_g2⟩)) ∨ (∀ (S : Sto) (e : Nat → PV) (f : Fr) (n0 t0 : Nat), ((getBox S n0 t0).map (List.take 4) = some [.list 5 (b5.exprs.tokens.l.map eToken) false, .int .i64 b5.exprs.tokens.pos, .sl 0 (.cell t0 2) 0 b5.exprs.out.length b5.exprs.out.length g6 false, .int .i64 b5.exprs.deep] ∧ getArr S n0 (.cell t0 2) = some ⟨5, b5.exprs.out.map eNode, z7, g6⟩) → e 0 = .ptr (n0 + 1) t0 0 ∧ e 3 = .sl 0 (.slot 3) 0 l4.length l4.length 0 false ∧ f.arr (.slot 3) = some ⟨2, l4.map eAttr, false, 0⟩ → k_parse_blocks_body_1 SP (E SP (.loop b_parse_blocks_body_1) ⟨e, f :: S⟩) = po 116 o (.arr 2 (r.map eAttr) false) (setArr (setBox S n0 t0 ([.list 5 (b'.exprs.tokens.l.map eToken) false, .int .i64 b'.exprs.tokens.pos, .sl 0 (.cell t0 2) 0 b'.exprs.out.length b'.exprs.out.length b'_g2 false, .int .i64 b'.exprs.deep] ++ ((getBox S n0 t0).getD []).drop 4)) n0 (.cell t0 2) ⟨5, b'.exprs.out.map eNode, b'_z2, b'_g2⟩))
def At_parse_blocks_body_1b (l31 : List Attr) (b32 : PBlocks) (g33 : Nat) (z34 : Bool) (o : Option Int) (r : List Attr) (b' : PBlocks) (b'_g2 : Nat) (b'_z2 : Bool) : Prop := (∀ (S : Sto) (e : Nat → PV) (f : Fr) (n0 t0 : Nat), ((getBox S n0 t0).map (List.take 4) = some [.list 5 (b32.exprs.tokens.l.map eToken) false, .int .i64 b32.exprs.tokens.pos, .sl 0 (.cell t0 2) 0 b32.exprs.out.length b32.exprs.out.length g33 false, .int .i64 b32.exprs.deep] ∧ getArr S n0 (.cell t0 2) = some ⟨5, b32.exprs.out.map eNode, z34, g33⟩) → e 0 = .ptr (n0 + 1) t0 0 ∧ e 3 = .sl 0 (.slot 3) 0 l31.length l31.length 0 false ∧ f.arr (.slot 3) = some ⟨2, l31.map eAttr, true, 0⟩ → k_parse_blocks_body_1 SP (E SP (.loop b_parse_blocks_body_1) ⟨e, f :: S⟩) = po 116 o (.v (.list 2 (r.map eAttr) false)) (setArr (setBox S n0 t0 ([.list 5 (b'.exprs.tokens.l.map eToken) false, .int .i64 b'.exprs.tokens.pos, .sl 0 (.cell t0 2) 0 b'.exprs.out.length b'.exprs.out.length b'_g2 false, .int .i64 b'.exprs.deep] ++ ((getBox S n0 t0).getD []).drop 4)) n0 (.cell t0 2) ⟨5, b'.exprs.out.map eNode, b'_z2, b'_g2⟩)) ∨ (∀ (S : Sto) (e : Nat → PV) (f : Fr) (n0 t0 : Nat), ((getBox S n0 t0).map (List.take 4) = some [.list 5 (b32.exprs.tokens.l.map eToken) false, .int .i64 b32.exprs.tokens.pos, .sl 0 (.cell t0 2) 0 b32.exprs.out.length b32.exprs.out.length g33 false, .int .i64 b32.exprs.deep] ∧ getArr S n0 (.cell t0 2) = some ⟨5, b32.exprs.out.map eNode, z34, g33⟩) → e 0 = .ptr (n0 + 1) t0 0 ∧ e 3 = .sl 0 (.slot 3) 0 l31.length l31.length 0 false ∧ f.arr (.slot 3) = some ⟨2, l31.map eAttr, true, 0⟩ → k_parse_blocks_body_1 SP (E SP (.loop b_parse_blocks_body_1) ⟨e, f :: S⟩) = po 116 o (.arr 2 (r.map eAttr) false) (setArr (setBox S n0 t0 ([.list 5 (b'.exprs.tokens.l.map eToken) false, .int .i64 b'.exprs.tokens.pos, .sl 0 (.cell t0 2) 0 b'.exprs.out.length b'.exprs.out.length b'_g2 false, .int .i64 b'.exprs.deep] ++ ((getBox S n0 t0).getD []).drop 4)) n0 (.cell t0 2) ⟨5, b'.exprs.out.map eNode, b'_z2, b'_g2⟩))
set_option maxHeartbeats 4000000 in
theorem At_parse_blocks_body_1_step (l4 : List Attr) (b5 : PBlocks) (g6 : Nat) (z7 : Bool) (o : Option Int) (r : List Attr) (b' : PBlocks) (b'_g2 : Nat) (b'_z2 : Bool) (T :
  ∃ (r8 : Bool) (y9 : PTokens), (R_parse_tokens_may b5.exprs.tokens [125] r8 y9) ∧
 ((r8 = true) →
  none = o ∧ l4 = r ∧ (PBlocks.mk (PExprs.mk y9 b5.exprs.out b5.exprs.deep)) = b' ∧ g6 = b'_g2 ∧ z7 = b'_z2) ∧
 (¬ (r8 = true) →
  ∃ (r10 : Token) (y11 : PTokens), (R_parse_tokens_now y9 r10 y11) ∧
  ∃ (r12 : Token) (y13 : PTokens), (R_parse_tokens_now y11 r12 y13) ∧
  ((r12.Kind = 3) →
   (l4.length < 9223372036854775808) ∧
   ∃ (pp14 : Attr → Bool), (∀ x, x ∈ l4 → R_parse_blocks_body_1 x r10.Text (pp14 x)) ∧
   (((l4.any pp14) = true) →
    ∃ (o15 : Option Int) (y16 : PTokens), (R_parse_tokens_fail y13 3 o15 y16) ∧
    (match o15 with
    | none => (False /- no return -/)
    | some e17 => (some e17 = o ∧ (PBlocks.mk (PExprs.mk y16 b5.exprs.out b5.exprs.deep)) = b' ∧ g6 = b'_g2 ∧ z7 = b'_z2))) ∧
   (¬ ((l4.any pp14) = true) →
    ∃ (o19 : Option Int) (r18 : List UInt8) (y20 : PTokens), (R_parse_tokens_name y13 o19 r18 y20) ∧
    (match o19 with
    | none => (∃ (o22 : Option Int) (y23 : PTokens), (R_parse_tokens_need y20 [61] o22 y23) ∧
     (match o22 with
     | none => (∃ (o26 : Option Int) (r25 : List Node) (y27 : PExprs) (g28 : Nat) (z29 : Bool), (R_parse_exprs_whole (PExprs.mk y23 b5.exprs.out b5.exprs.deep) g6 z7 o26 r25 y27 g28 z29) ∧
      (match o26 with
      | none => ((bigRow (l4.length + 1) 40) ∧
       At_parse_blocks_body_1b (l4 ++ [(Attr.mk r18 r25)]) (PBlocks.mk y27) g28 z29 o r b' b'_g2 b'_z2)
      | some e30 => (some e30 = o ∧ (PBlocks.mk y27) = b' ∧ g28 = b'_g2 ∧ z29 = b'_z2)))
     | some e24 => (some e24 = o ∧ (PBlocks.mk (PExprs.mk y23 b5.exprs.out b5.exprs.deep)) = b' ∧ g6 = b'_g2 ∧ z7 = b'_z2)))
    | some e21 => (some e21 = o ∧ (PBlocks.mk (PExprs.mk y20 b5.exprs.out b5.exprs.deep)) = b' ∧ g6 = b'_g2 ∧ z7 = b'_z2)))) ∧
  (¬ (r12.Kind = 3) →
   ∃ (o36 : Option Int) (r35 : List UInt8) (y37 : PTokens), (R_parse_tokens_name y13 o36 r35 y37) ∧
   (match o36 with
   | none => (∃ (o39 : Option Int) (y40 : PTokens), (R_parse_tokens_need y37 [61] o39 y40) ∧
    (match o39 with
    | none => (∃ (o43 : Option Int) (r42 : List Node) (y44 : PExprs) (g45 : Nat) (z46 : Bool), (R_parse_exprs_whole (PExprs.mk y40 b5.exprs.out b5.exprs.deep) g6 z7 o43 r42 y44 g45 z46) ∧
     (match o43 with
     | none => ((bigRow (l4.length + 1) 40) ∧
      At_parse_blocks_body_1 (l4 ++ [(Attr.mk r35 r42)]) (PBlocks.mk y44) g45 z46 o r b' b'_g2 b'_z2)
     | some e47 => (some e47 = o ∧ (PBlocks.mk y44) = b' ∧ g45 = b'_g2 ∧ z46 = b'_z2)))
    | some e41 => (some e41 = o ∧ (PBlocks.mk (PExprs.mk y40 b5.exprs.out b5.exprs.deep)) = b' ∧ g6 = b'_g2 ∧ z7 = b'_z2)))
   | some e38 => (some e38 = o ∧ (PBlocks.mk (PExprs.mk y37 b5.exprs.out b5.exprs.deep)) = b' ∧ g6 = b'_g2 ∧ z7 = b'_z2))))) : At_parse_blocks_body_1 l4 b5 g6 z7 o r b' b'_g2 b'_z2 := by
 have F := U_parse_blocks_body
 obtain ⟨r8, y9, q1, T⟩ := T
 simp only [R_parse_tokens_may, le, List.cons_append, List.nil_append] at q1
 replace F := aa q1 <| F
 by_cases c2 : r8 = true
 · replace T := T.1 c2
   obtain ⟨rfl, rfl, rfl, rfl, rfl⟩ := T
   right
   intro S e f n0 t0 H0 h
   obtain ⟨hb0, ha0⟩ := H0
   obtain ⟨w0, hB0⟩ := take_some hb0
   have hn0 := o_getBox_lt hB0
   replace F := aa ha0 <| aa hB0 <| aa hn0 <| aa h <| F
   unfold k_parse_blocks_body_1
   rw [E_loop]
   exact fi (aa c2 <| F)
 · replace T := T.2 c2
   replace c2 := Bool.eq_false_iff.2 c2
   obtain ⟨r10, y11, q3, r12, y13, q4, T⟩ := T
   simp only [R_parse_tokens_now, le, List.cons_append, List.nil_append] at q3
   simp only [R_parse_tokens_now, le, List.cons_append, List.nil_append] at q4
   replace F := aa c2 <| aa q3 <| aa q4 <| F
   by_cases c5 : r12.Kind = 3
   · replace T := T.1 c5
     obtain ⟨p6, pp14, q7, T⟩ := T
     have o7 := H_slices_ContainsFunc_api_Attr_api_Attr_parse_blocks_body_1  p6 q7
     try simp only [le] at o7
     replace F := aa (eq_true c5) <| aa p6 <| aa o7 <| F
     by_cases c8 : (l4.any pp14) = true
     · replace T := T.1 c8
       obtain ⟨o15, y16, q9, T⟩ := T
       simp only [R_parse_tokens_fail, le, List.cons_append, List.nil_append] at q9
       replace F := aa c8 <| aa q9 <| F
       cases o15 with
       | none => exact False.elim T
       | some e17 =>
         dsimp only at T
         obtain ⟨rfl, rfl, rfl, rfl⟩ := T
         right
         intro S e f n0 t0 H0 h
         obtain ⟨hb0, ha0⟩ := H0
         obtain ⟨w0, hB0⟩ := take_some hb0
         have hn0 := o_getBox_lt hB0
         replace F := aa ha0 <| aa hB0 <| aa hn0 <| aa h <| F
         unfold k_parse_blocks_body_1
         rw [E_loop]
         exact fi F
     · replace T := T.2 c8
       replace c8 := Bool.eq_false_iff.2 c8
       obtain ⟨o19, r18, y20, q10, T⟩ := T
       simp only [R_parse_tokens_name, le, List.cons_append, List.nil_append] at q10
       replace F := aa c8 <| aa q10 <| F
       cases o19 with
       | none =>
         dsimp only at T
         obtain ⟨o22, y23, q11, T⟩ := T
         simp only [R_parse_tokens_need, le, List.cons_append, List.nil_append] at q11
         replace F := aa q11 <| F
         cases o22 with
         | none =>
           dsimp only at T
           obtain ⟨o26, r25, y27, g28, z29, q12, T⟩ := T
           simp only [R_parse_exprs_whole, le, List.cons_append, List.nil_append] at q12
           replace F := aa q12 <| F
           cases o26 with
           | none =>
             dsimp only at T
             obtain ⟨p13, T⟩ := T
             simp only [bigRow] at p13
             replace F := aa p13 <| F
             rcases T with T | T
             · left
               intro S e f n0 t0 H0 h
               obtain ⟨hb0, ha0⟩ := H0
               obtain ⟨w0, hB0⟩ := take_some hb0
               have hn0 := o_getBox_lt hB0
               replace F := aa ha0 <| aa hB0 <| aa hn0 <| aa h <| F
               unfold k_parse_blocks_body_1
               rw [E_loop]
               try simp only [F, lw, lx, le, Nat.reduceMul, UInt8.reduceToNat, reduceIte, reduceCtorEq, Nat.reduceEqDiff, Nat.reduceAdd, Nat.reduceLeDiff, Nat.reduceSub, Nat.reduceLT, Int.reduceEq, Int.reduceLT, Int.reduceLE, Int.reduceToNat, Int.reduceAdd, Int.reduceSub, Int.reduceMul, Int.reduceNeg]
               refine (T _ _ _ n0 t0 ?_ ?_).trans ?_
               all_goals exact fi F
             · right
               intro S e f n0 t0 H0 h
               obtain ⟨hb0, ha0⟩ := H0
               obtain ⟨w0, hB0⟩ := take_some hb0
               have hn0 := o_getBox_lt hB0
               replace F := aa ha0 <| aa hB0 <| aa hn0 <| aa h <| F
               unfold k_parse_blocks_body_1
               rw [E_loop]
               try simp only [F, lw, lx, le, Nat.reduceMul, UInt8.reduceToNat, reduceIte, reduceCtorEq, Nat.reduceEqDiff, Nat.reduceAdd, Nat.reduceLeDiff, Nat.reduceSub, Nat.reduceLT, Int.reduceEq, Int.reduceLT, Int.reduceLE, Int.reduceToNat, Int.reduceAdd, Int.reduceSub, Int.reduceMul, Int.reduceNeg]
               refine (T _ _ _ n0 t0 ?_ ?_).trans ?_
               all_goals exact fi F
           | some e30 =>
             dsimp only at T
             obtain ⟨rfl, rfl, rfl, rfl⟩ := T
             right
             intro S e f n0 t0 H0 h
             obtain ⟨hb0, ha0⟩ := H0
             obtain ⟨w0, hB0⟩ := take_some hb0
             have hn0 := o_getBox_lt hB0
             replace F := aa ha0 <| aa hB0 <| aa hn0 <| aa h <| F
             unfold k_parse_blocks_body_1
             rw [E_loop]
             exact fi F
         | some e24 =>
           dsimp only at T
           obtain ⟨rfl, rfl, rfl, rfl⟩ := T
           right
           intro S e f n0 t0 H0 h
           obtain ⟨hb0, ha0⟩ := H0
           obtain ⟨w0, hB0⟩ := take_some hb0
           have hn0 := o_getBox_lt hB0
           replace F := aa ha0 <| aa hB0 <| aa hn0 <| aa h <| F
           unfold k_parse_blocks_body_1
           rw [E_loop]
           exact fi F
       | some e21 =>
         dsimp only at T
         obtain ⟨rfl, rfl, rfl, rfl⟩ := T
         right
         intro S e f n0 t0 H0 h
         obtain ⟨hb0, ha0⟩ := H0
         obtain ⟨w0, hB0⟩ := take_some hb0
         have hn0 := o_getBox_lt hB0
         replace F := aa ha0 <| aa hB0 <| aa hn0 <| aa h <| F
         unfold k_parse_blocks_body_1
         rw [E_loop]
         exact fi F
   · replace T := T.2 c5
     obtain ⟨o36, r35, y37, q14, T⟩ := T
     simp only [R_parse_tokens_name, le, List.cons_append, List.nil_append] at q14
     replace F := aa (eq_false c5) <| aa q14 <| F
     cases o36 with
     | none =>
       dsimp only at T
       obtain ⟨o39, y40, q15, T⟩ := T
       simp only [R_parse_tokens_need, le, List.cons_append, List.nil_append] at q15
       replace F := aa q15 <| F
       cases o39 with
       | none =>
         dsimp only at T
         obtain ⟨o43, r42, y44, g45, z46, q16, T⟩ := T
         simp only [R_parse_exprs_whole, le, List.cons_append, List.nil_append] at q16
         replace F := aa q16 <| F
         cases o43 with
         | none =>
           dsimp only at T
           obtain ⟨p17, T⟩ := T
           simp only [bigRow] at p17
           replace F := aa p17 <| F
           rcases T with T | T
           · left
             intro S e f n0 t0 H0 h
             obtain ⟨hb0, ha0⟩ := H0
             obtain ⟨w0, hB0⟩ := take_some hb0
             have hn0 := o_getBox_lt hB0
             replace F := aa ha0 <| aa hB0 <| aa hn0 <| aa h <| F
             unfold k_parse_blocks_body_1
             rw [E_loop]
             try simp only [F, lw, lx, le, Nat.reduceMul, UInt8.reduceToNat, reduceIte, reduceCtorEq, Nat.reduceEqDiff, Nat.reduceAdd, Nat.reduceLeDiff, Nat.reduceSub, Nat.reduceLT, Int.reduceEq, Int.reduceLT, Int.reduceLE, Int.reduceToNat, Int.reduceAdd, Int.reduceSub, Int.reduceMul, Int.reduceNeg]
             refine (T _ _ _ n0 t0 ?_ ?_).trans ?_
             all_goals exact fi F
           · right
             intro S e f n0 t0 H0 h
             obtain ⟨hb0, ha0⟩ := H0
             obtain ⟨w0, hB0⟩ := take_some hb0
             have hn0 := o_getBox_lt hB0
             replace F := aa ha0 <| aa hB0 <| aa hn0 <| aa h <| F
             unfold k_parse_blocks_body_1
             rw [E_loop]
             try simp only [F, lw, lx, le, Nat.reduceMul, UInt8.reduceToNat, reduceIte, reduceCtorEq, Nat.reduceEqDiff, Nat.reduceAdd, Nat.reduceLeDiff, Nat.reduceSub, Nat.reduceLT, Int.reduceEq, Int.reduceLT, Int.reduceLE, Int.reduceToNat, Int.reduceAdd, Int.reduceSub, Int.reduceMul, Int.reduceNeg]
             refine (T _ _ _ n0 t0 ?_ ?_).trans ?_
             all_goals exact fi F
         | some e47 =>
           dsimp only at T
           obtain ⟨rfl, rfl, rfl, rfl⟩ := T
           right
           intro S e f n0 t0 H0 h
           obtain ⟨hb0, ha0⟩ := H0
           obtain ⟨w0, hB0⟩ := take_some hb0
           have hn0 := o_getBox_lt hB0
           replace F := aa ha0 <| aa hB0 <| aa hn0 <| aa h <| F
           unfold k_parse_blocks_body_1
           rw [E_loop]
           exact fi F
       | some e41 =>
         dsimp only at T
         obtain ⟨rfl, rfl, rfl, rfl⟩ := T
         right
         intro S e f n0 t0 H0 h
         obtain ⟨hb0, ha0⟩ := H0
         obtain ⟨w0, hB0⟩ := take_some hb0
         have hn0 := o_getBox_lt hB0
         replace F := aa ha0 <| aa hB0 <| aa hn0 <| aa h <| F
         unfold k_parse_blocks_body_1
         rw [E_loop]
         exact fi F
     | some e38 =>
       dsimp only at T
       obtain ⟨rfl, rfl, rfl, rfl⟩ := T
       right
       intro S e f n0 t0 H0 h
       obtain ⟨hb0, ha0⟩ := H0
       obtain ⟨w0, hB0⟩ := take_some hb0
       have hn0 := o_getBox_lt hB0
       replace F := aa ha0 <| aa hB0 <| aa hn0 <| aa h <| F
       unfold k_parse_blocks_body_1
       rw [E_loop]
       exact fi F
set_option maxHeartbeats 4000000 in
theorem At_parse_blocks_body_1b_step (l31 : List Attr) (b32 : PBlocks) (g33 : Nat) (z34 : Bool) (o : Option Int) (r : List Attr) (b' : PBlocks) (b'_g2 : Nat) (b'_z2 : Bool) (T :
  ∃ (r48 : Bool) (y49 : PTokens), (R_parse_tokens_may b32.exprs.tokens [125] r48 y49) ∧
 ((r48 = true) →
  none = o ∧ l31 = r ∧ (PBlocks.mk (PExprs.mk y49 b32.exprs.out b32.exprs.deep)) = b' ∧ g33 = b'_g2 ∧ z34 = b'_z2) ∧
 (¬ (r48 = true) →
  ∃ (r50 : Token) (y51 : PTokens), (R_parse_tokens_now y49 r50 y51) ∧
  ∃ (r52 : Token) (y53 : PTokens), (R_parse_tokens_now y51 r52 y53) ∧
  ((r52.Kind = 3) →
   (l31.length < 9223372036854775808) ∧
   ∃ (pp54 : Attr → Bool), (∀ x, x ∈ l31 → R_parse_blocks_body_1 x r50.Text (pp54 x)) ∧
   (((l31.any pp54) = true) →
    ∃ (o55 : Option Int) (y56 : PTokens), (R_parse_tokens_fail y53 3 o55 y56) ∧
    (match o55 with
    | none => (False /- no return -/)
    | some e57 => (some e57 = o ∧ (PBlocks.mk (PExprs.mk y56 b32.exprs.out b32.exprs.deep)) = b' ∧ g33 = b'_g2 ∧ z34 = b'_z2))) ∧
   (¬ ((l31.any pp54) = true) →
    ∃ (o59 : Option Int) (r58 : List UInt8) (y60 : PTokens), (R_parse_tokens_name y53 o59 r58 y60) ∧
    (match o59 with
    | none => (∃ (o62 : Option Int) (y63 : PTokens), (R_parse_tokens_need y60 [61] o62 y63) ∧
     (match o62 with
     | none => (∃ (o66 : Option Int) (r65 : List Node) (y67 : PExprs) (g68 : Nat) (z69 : Bool), (R_parse_exprs_whole (PExprs.mk y63 b32.exprs.out b32.exprs.deep) g33 z34 o66 r65 y67 g68 z69) ∧
      (match o66 with
      | none => ((bigRow (l31.length + 1) 40) ∧
       At_parse_blocks_body_1b (l31 ++ [(Attr.mk r58 r65)]) (PBlocks.mk y67) g68 z69 o r b' b'_g2 b'_z2)
      | some e70 => (some e70 = o ∧ (PBlocks.mk y67) = b' ∧ g68 = b'_g2 ∧ z69 = b'_z2)))
     | some e64 => (some e64 = o ∧ (PBlocks.mk (PExprs.mk y63 b32.exprs.out b32.exprs.deep)) = b' ∧ g33 = b'_g2 ∧ z34 = b'_z2)))
    | some e61 => (some e61 = o ∧ (PBlocks.mk (PExprs.mk y60 b32.exprs.out b32.exprs.deep)) = b' ∧ g33 = b'_g2 ∧ z34 = b'_z2)))) ∧
  (¬ (r52.Kind = 3) →
   ∃ (o72 : Option Int) (r71 : List UInt8) (y73 : PTokens), (R_parse_tokens_name y53 o72 r71 y73) ∧
   (match o72 with
   | none => (∃ (o75 : Option Int) (y76 : PTokens), (R_parse_tokens_need y73 [61] o75 y76) ∧
    (match o75 with
    | none => (∃ (o79 : Option Int) (r78 : List Node) (y80 : PExprs) (g81 : Nat) (z82 : Bool), (R_parse_exprs_whole (PExprs.mk y76 b32.exprs.out b32.exprs.deep) g33 z34 o79 r78 y80 g81 z82) ∧
     (match o79 with
     | none => ((bigRow (l31.length + 1) 40) ∧
      At_parse_blocks_body_1b (l31 ++ [(Attr.mk r71 r78)]) (PBlocks.mk y80) g81 z82 o r b' b'_g2 b'_z2)
     | some e83 => (some e83 = o ∧ (PBlocks.mk y80) = b' ∧ g81 = b'_g2 ∧ z82 = b'_z2)))
    | some e77 => (some e77 = o ∧ (PBlocks.mk (PExprs.mk y76 b32.exprs.out b32.exprs.deep)) = b' ∧ g33 = b'_g2 ∧ z34 = b'_z2)))
   | some e74 => (some e74 = o ∧ (PBlocks.mk (PExprs.mk y73 b32.exprs.out b32.exprs.deep)) = b' ∧ g33 = b'_g2 ∧ z34 = b'_z2))))) : At_parse_blocks_body_1b l31 b32 g33 z34 o r b' b'_g2 b'_z2 := by
 have F := U_parse_blocks_body
 obtain ⟨r48, y49, q1, T⟩ := T
 simp only [R_parse_tokens_may, le, List.cons_append, List.nil_append] at q1
 replace F := aa q1 <| F
 by_cases c2 : r48 = true
 · replace T := T.1 c2
   obtain ⟨rfl, rfl, rfl, rfl, rfl⟩ := T
   left
   intro S e f n0 t0 H0 h
   obtain ⟨hb0, ha0⟩ := H0
   obtain ⟨w0, hB0⟩ := take_some hb0
   have hn0 := o_getBox_lt hB0
   replace F := aa ha0 <| aa hB0 <| aa hn0 <| aa h <| F
   unfold k_parse_blocks_body_1
   rw [E_loop]
   exact fi (aa c2 <| F)
 · replace T := T.2 c2
   replace c2 := Bool.eq_false_iff.2 c2
   obtain ⟨r50, y51, q3, r52, y53, q4, T⟩ := T
   simp only [R_parse_tokens_now, le, List.cons_append, List.nil_append] at q3
   simp only [R_parse_tokens_now, le, List.cons_append, List.nil_append] at q4
   replace F := aa c2 <| aa q3 <| aa q4 <| F
   by_cases c5 : r52.Kind = 3
   · replace T := T.1 c5
     obtain ⟨p6, pp54, q7, T⟩ := T
     have o7 := H_slices_ContainsFunc_api_Attr_api_Attr_parse_blocks_body_1  p6 q7
     try simp only [le] at o7
     replace F := aa (eq_true c5) <| aa p6 <| aa o7 <| F
     by_cases c8 : (l31.any pp54) = true
     · replace T := T.1 c8
       obtain ⟨o55, y56, q9, T⟩ := T
       simp only [R_parse_tokens_fail, le, List.cons_append, List.nil_append] at q9
       replace F := aa c8 <| aa q9 <| F
       cases o55 with
       | none => exact False.elim T
       | some e57 =>
         dsimp only at T
         obtain ⟨rfl, rfl, rfl, rfl⟩ := T
         right
         intro S e f n0 t0 H0 h
         obtain ⟨hb0, ha0⟩ := H0
         obtain ⟨w0, hB0⟩ := take_some hb0
         have hn0 := o_getBox_lt hB0
         replace F := aa ha0 <| aa hB0 <| aa hn0 <| aa h <| F
         unfold k_parse_blocks_body_1
         rw [E_loop]
         exact fi F
     · replace T := T.2 c8
       replace c8 := Bool.eq_false_iff.2 c8
       obtain ⟨o59, r58, y60, q10, T⟩ := T
       simp only [R_parse_tokens_name, le, List.cons_append, List.nil_append] at q10
       replace F := aa c8 <| aa q10 <| F
       cases o59 with
       | none =>
         dsimp only at T
         obtain ⟨o62, y63, q11, T⟩ := T
         simp only [R_parse_tokens_need, le, List.cons_append, List.nil_append] at q11
         replace F := aa q11 <| F
         cases o62 with
         | none =>
           dsimp only at T
           obtain ⟨o66, r65, y67, g68, z69, q12, T⟩ := T
           simp only [R_parse_exprs_whole, le, List.cons_append, List.nil_append] at q12
           replace F := aa q12 <| F
           cases o66 with
           | none =>
             dsimp only at T
             obtain ⟨p13, T⟩ := T
             simp only [bigRow] at p13
             replace F := aa p13 <| F
             rcases T with T | T
             · left
               intro S e f n0 t0 H0 h
               obtain ⟨hb0, ha0⟩ := H0
               obtain ⟨w0, hB0⟩ := take_some hb0
               have hn0 := o_getBox_lt hB0
               replace F := aa ha0 <| aa hB0 <| aa hn0 <| aa h <| F
               unfold k_parse_blocks_body_1
               rw [E_loop]
               try simp only [F, lw, lx, le, Nat.reduceMul, UInt8.reduceToNat, reduceIte, reduceCtorEq, Nat.reduceEqDiff, Nat.reduceAdd, Nat.reduceLeDiff, Nat.reduceSub, Nat.reduceLT, Int.reduceEq, Int.reduceLT, Int.reduceLE, Int.reduceToNat, Int.reduceAdd, Int.reduceSub, Int.reduceMul, Int.reduceNeg]
               refine (T _ _ _ n0 t0 ?_ ?_).trans ?_
               all_goals exact fi F
             · right
               intro S e f n0 t0 H0 h
               obtain ⟨hb0, ha0⟩ := H0
               obtain ⟨w0, hB0⟩ := take_some hb0
               have hn0 := o_getBox_lt hB0
               replace F := aa ha0 <| aa hB0 <| aa hn0 <| aa h <| F
               unfold k_parse_blocks_body_1
               rw [E_loop]
               try simp only [F, lw, lx, le, Nat.reduceMul, UInt8.reduceToNat, reduceIte, reduceCtorEq, Nat.reduceEqDiff, Nat.reduceAdd, Nat.reduceLeDiff, Nat.reduceSub, Nat.reduceLT, Int.reduceEq, Int.reduceLT, Int.reduceLE, Int.reduceToNat, Int.reduceAdd, Int.reduceSub, Int.reduceMul, Int.reduceNeg]
               refine (T _ _ _ n0 t0 ?_ ?_).trans ?_
               all_goals exact fi F
           | some e70 =>
             dsimp only at T
             obtain ⟨rfl, rfl, rfl, rfl⟩ := T
             right
             intro S e f n0 t0 H0 h
             obtain ⟨hb0, ha0⟩ := H0
             obtain ⟨w0, hB0⟩ := take_some hb0
             have hn0 := o_getBox_lt hB0
             replace F := aa ha0 <| aa hB0 <| aa hn0 <| aa h <| F
             unfold k_parse_blocks_body_1
             rw [E_loop]
             exact fi F
         | some e64 =>
           dsimp only at T
           obtain ⟨rfl, rfl, rfl, rfl⟩ := T
           right
           intro S e f n0 t0 H0 h
           obtain ⟨hb0, ha0⟩ := H0
           obtain ⟨w0, hB0⟩ := take_some hb0
           have hn0 := o_getBox_lt hB0
           replace F := aa ha0 <| aa hB0 <| aa hn0 <| aa h <| F
           unfold k_parse_blocks_body_1
           rw [E_loop]
           exact fi F
       | some e61 =>
         dsimp only at T
         obtain ⟨rfl, rfl, rfl, rfl⟩ := T
         right
         intro S e f n0 t0 H0 h
         obtain ⟨hb0, ha0⟩ := H0
         obtain ⟨w0, hB0⟩ := take_some hb0
         have hn0 := o_getBox_lt hB0
         replace F := aa ha0 <| aa hB0 <| aa hn0 <| aa h <| F
         unfold k_parse_blocks_body_1
         rw [E_loop]
         exact fi F
   · replace T := T.2 c5
     obtain ⟨o72, r71, y73, q14, T⟩ := T
     simp only [R_parse_tokens_name, le, List.cons_append, List.nil_append] at q14
     replace F := aa (eq_false c5) <| aa q14 <| F
     cases o72 with
     | none =>
       dsimp only at T
       obtain ⟨o75, y76, q15, T⟩ := T
       simp only [R_parse_tokens_need, le, List.cons_append, List.nil_append] at q15
       replace F := aa q15 <| F
       cases o75 with
       | none =>
         dsimp only at T
         obtain ⟨o79, r78, y80, g81, z82, q16, T⟩ := T
         simp only [R_parse_exprs_whole, le, List.cons_append, List.nil_append] at q16
         replace F := aa q16 <| F
         cases o79 with
         | none =>
           dsimp only at T
           obtain ⟨p17, T⟩ := T
           simp only [bigRow] at p17
           replace F := aa p17 <| F
           rcases T with T | T
           · left
             intro S e f n0 t0 H0 h
             obtain ⟨hb0, ha0⟩ := H0
             obtain ⟨w0, hB0⟩ := take_some hb0
             have hn0 := o_getBox_lt hB0
             replace F := aa ha0 <| aa hB0 <| aa hn0 <| aa h <| F
             unfold k_parse_blocks_body_1
             rw [E_loop]
             try simp only [F, lw, lx, le, Nat.reduceMul, UInt8.reduceToNat, reduceIte, reduceCtorEq, Nat.reduceEqDiff, Nat.reduceAdd, Nat.reduceLeDiff, Nat.reduceSub, Nat.reduceLT, Int.reduceEq, Int.reduceLT, Int.reduceLE, Int.reduceToNat, Int.reduceAdd, Int.reduceSub, Int.reduceMul, Int.reduceNeg]
             refine (T _ _ _ n0 t0 ?_ ?_).trans ?_
             all_goals exact fi F
           · right
             intro S e f n0 t0 H0 h
             obtain ⟨hb0, ha0⟩ := H0
             obtain ⟨w0, hB0⟩ := take_some hb0
             have hn0 := o_getBox_lt hB0
             replace F := aa ha0 <| aa hB0 <| aa hn0 <| aa h <| F
             unfold k_parse_blocks_body_1
             rw [E_loop]
             try simp only [F, lw, lx, le, Nat.reduceMul, UInt8.reduceToNat, reduceIte, reduceCtorEq, Nat.reduceEqDiff, Nat.reduceAdd, Nat.reduceLeDiff, Nat.reduceSub, Nat.reduceLT, Int.reduceEq, Int.reduceLT, Int.reduceLE, Int.reduceToNat, Int.reduceAdd, Int.reduceSub, Int.reduceMul, Int.reduceNeg]
             refine (T _ _ _ n0 t0 ?_ ?_).trans ?_
             all_goals exact fi F
         | some e83 =>
           dsimp only at T
           obtain ⟨rfl, rfl, rfl, rfl⟩ := T
           right
           intro S e f n0 t0 H0 h
           obtain ⟨hb0, ha0⟩ := H0
           obtain ⟨w0, hB0⟩ := take_some hb0
           have hn0 := o_getBox_lt hB0
           replace F := aa ha0 <| aa hB0 <| aa hn0 <| aa h <| F
           unfold k_parse_blocks_body_1
           rw [E_loop]
           exact fi F
       | some e77 =>
         dsimp only at T
         obtain ⟨rfl, rfl, rfl, rfl⟩ := T
         right
         intro S e f n0 t0 H0 h
         obtain ⟨hb0, ha0⟩ := H0
         obtain ⟨w0, hB0⟩ := take_some hb0
         have hn0 := o_getBox_lt hB0
         replace F := aa ha0 <| aa hB0 <| aa hn0 <| aa h <| F
         unfold k_parse_blocks_body_1
         rw [E_loop]
         exact fi F
     | some e74 =>
       dsimp only at T
       obtain ⟨rfl, rfl, rfl, rfl⟩ := T
       right
       intro S e f n0 t0 H0 h
       obtain ⟨hb0, ha0⟩ := H0
       obtain ⟨w0, hB0⟩ := take_some hb0
       have hn0 := o_getBox_lt hB0
       replace F := aa ha0 <| aa hB0 <| aa hn0 <| aa h <| F
       unfold k_parse_blocks_body_1
       rw [E_loop]
       exact fi F
set_option maxHeartbeats 4000000 in
theorem parse_blocks_body_tree (b : PBlocks) (b_g2 : Nat) (b_z2 : Bool) (o : Option Int) (r : List Attr) (b' : PBlocks) (b'_g2 : Nat) (b'_z2 : Bool) (T :
  ∃ (o1 : Option Int) (y2 : PTokens), (R_parse_tokens_need b.exprs.tokens [123] o1 y2) ∧
 (match o1 with
 | none => (At_parse_blocks_body_1 [] (PBlocks.mk (PExprs.mk y2 b.exprs.out b.exprs.deep)) b_g2 b_z2 o r b' b'_g2 b'_z2)
 | some e3 => (some e3 = o ∧ (PBlocks.mk (PExprs.mk y2 b.exprs.out b.exprs.deep)) = b' ∧ b_g2 = b'_g2 ∧ b_z2 = b'_z2))) : R_parse_blocks_body b b_g2 b_z2 o r b' b'_g2 b'_z2 := by
 have F := U_parse_blocks_body
 obtain ⟨o1, y2, q1, T⟩ := T
 simp only [R_parse_tokens_need, le, List.cons_append, List.nil_append] at q1
 replace F := aa q1 <| F
 cases o1 with
 | none =>
   dsimp only at T
   rcases T with T | T
   · left
     intro S n0 t0 H0
     obtain ⟨hb0, ha0⟩ := H0
     obtain ⟨w0, hB0⟩ := take_some hb0
     have hn0 := o_getBox_lt hB0
     replace F := aa ha0 <| aa hB0 <| aa hn0 <| F
     rw [call_code sp_parse_blocks_body _ _ rfl]
     try simp only [F, lw, lx, le, Nat.reduceMul, UInt8.reduceToNat, reduceIte, reduceCtorEq, Nat.reduceEqDiff, Nat.reduceAdd, Nat.reduceLeDiff, Nat.reduceSub, Nat.reduceLT, Int.reduceEq, Int.reduceLT, Int.reduceLE, Int.reduceToNat, Int.reduceAdd, Int.reduceSub, Int.reduceMul, Int.reduceNeg]
     refine (T _ _ _ n0 t0 ?_ ?_).trans ?_
     all_goals exact fi F
   · right
     intro S n0 t0 H0
     obtain ⟨hb0, ha0⟩ := H0
     obtain ⟨w0, hB0⟩ := take_some hb0
     have hn0 := o_getBox_lt hB0
     replace F := aa ha0 <| aa hB0 <| aa hn0 <| F
     rw [call_code sp_parse_blocks_body _ _ rfl]
     try simp only [F, lw, lx, le, Nat.reduceMul, UInt8.reduceToNat, reduceIte, reduceCtorEq, Nat.reduceEqDiff, Nat.reduceAdd, Nat.reduceLeDiff, Nat.reduceSub, Nat.reduceLT, Int.reduceEq, Int.reduceLT, Int.reduceLE, Int.reduceToNat, Int.reduceAdd, Int.reduceSub, Int.reduceMul, Int.reduceNeg]
     refine (T _ _ _ n0 t0 ?_ ?_).trans ?_
     all_goals exact fi F
 | some e3 =>
   dsimp only at T
   obtain ⟨rfl, rfl, rfl, rfl⟩ := T
   right
   intro S n0 t0 H0
   obtain ⟨hb0, ha0⟩ := H0
   obtain ⟨w0, hB0⟩ := take_some hb0
   have hn0 := o_getBox_lt hB0
   replace F := aa ha0 <| aa hB0 <| aa hn0 <| F
   rw [call_code sp_parse_blocks_body _ _ rfl]
   exact fi F
theorem sp_parse_words : SP 63 = some (.code sc_parse_words) := SPof_code rfl Tryz.func63 comp_parse_words
/-! doorkeeper/parse.words -/
set_option maxHeartbeats 4000000 in
theorem parse_words_tree  (r : List (List UInt8)) (T :
  [[118, 97, 114, 105, 97, 98, 108, 101], [108, 111, 99, 97, 108, 115], [110, 111, 100, 101], [109, 111, 100, 117, 108, 101], [100, 101, 102, 105, 110, 101]] = r) : R_parse_words  r := by
 intro S
 rw [call_code sp_parse_words _ _ rfl]
 have F := U_parse_words
 obtain rfl := T
 exact fi F
theorem sp_parse_blocks_block : SP 39 = some (.code sc_parse_blocks_block) := SPof_code rfl Tryz.func39 comp_parse_blocks_block
/-! (*doorkeeper/parse.blocks).block -/
def At_parse_blocks_block_1 (r4 : Int) (r11 : List UInt8) (l20 : List Attr) (g21 : Nat) (l22 : List Block) (g23 : Nat) (b24 : PBlocks) (g25 : Nat) (z26 : Bool) (o : Option Int) (r : Block) (b' : PBlocks) (b'_g2 : Nat) (b'_z2 : Bool) : Prop := ∀ (S : Sto) (e : Nat → PV) (f : Fr) (n0 t0 : Nat), ((getBox S n0 t0).map (List.take 4) = some [.list 5 (b24.exprs.tokens.l.map eToken) false, .int .i64 b24.exprs.tokens.pos, .sl 0 (.cell t0 2) 0 b24.exprs.out.length b24.exprs.out.length g25 false, .int .i64 b24.exprs.deep] ∧ getArr S n0 (.cell t0 2) = some ⟨5, b24.exprs.out.map eNode, z26, g25⟩) → e 0 = .ptr (n0 + 1) t0 0 ∧ e 4 = .ptr 0 4 0 ∧ e 7 = .ptr 0 7 0 ∧ f.box 4 = some [.int .i64 0, .str [], .sl 0 (.cell 4 2) 0 0 0 0 false, .sl 0 (.cell 4 3) 0 0 0 0 false] ∧ f.box 7 = some [.int .i64 (1 + r4), .str r11, .sl 0 (.cell 7 2) 0 l20.length l20.length g21 false, .sl 0 (.cell 7 3) 0 l22.length l22.length g23 false] ∧ f.arr (.cell 4 2) = some ⟨2, [], false, 0⟩ ∧ f.arr (.cell 4 3) = some ⟨4, [], false, 0⟩ ∧ f.arr (.cell 7 2) = some ⟨2, l20.map eAttr, false, g21⟩ ∧ f.arr (.cell 7 3) = some ⟨4, l22.map eBlock, false, g23⟩ → k_parse_blocks_block_1 SP (E SP (.loop b_parse_blocks_block_1) ⟨e, f :: S⟩) = po 116 o (.v (.agg [.int .i64 r.Kind, .str r.Label, .list 2 (r.Attrs.map eAttr) false, .list 4 (r.Blocks.map eBlock) false])) (setArr (setBox S n0 t0 ([.list 5 (b'.exprs.tokens.l.map eToken) false, .int .i64 b'.exprs.tokens.pos, .sl 0 (.cell t0 2) 0 b'.exprs.out.length b'.exprs.out.length b'_g2 false, .int .i64 b'.exprs.deep] ++ ((getBox S n0 t0).getD []).drop 4)) n0 (.cell t0 2) ⟨5, b'.exprs.out.map eNode, b'_z2, b'_g2⟩)
set_option maxHeartbeats 4000000 in
theorem At_parse_blocks_block_1_step (r4 : Int) (r11 : List UInt8) (l20 : List Attr) (g21 : Nat) (l22 : List Block) (g23 : Nat) (b24 : PBlocks) (g25 : Nat) (z26 : Bool) (o : Option Int) (r : Block) (b' : PBlocks) (b'_g2 : Nat) (b'_z2 : Bool) (T :
  ∃ (r48 : Bool) (y49 : PTokens), (R_parse_tokens_may b24.exprs.tokens [125] r48 y49) ∧
 ((r48 = true) →
  none = o ∧ (Block.mk (1 + r4) r11 l20 l22) = r ∧ (PBlocks.mk (PExprs.mk y49 b24.exprs.out b24.exprs.deep)) = b' ∧ g25 = b'_g2 ∧ z26 = b'_z2) ∧
 (¬ (r48 = true) →
  ∃ (o51 : Option Int) (r50 : Block) (y52 : PBlocks) (g53 : Nat) (z54 : Bool), (R_parse_blocks_block (PBlocks.mk (PExprs.mk y49 b24.exprs.out b24.exprs.deep)) g25 z26 true o51 r50 y52 g53 z54) ∧
  (match o51 with
  | none => ((bigRow (l22.length + 1) 72) ∧
   At_parse_blocks_block_1 r4 r11 l20 g21 (l22 ++ [r50]) g23 y52 g53 z54 o r b' b'_g2 b'_z2)
  | some e55 => (some e55 = o ∧ y52 = b' ∧ g53 = b'_g2 ∧ z54 = b'_z2)))) : At_parse_blocks_block_1 r4 r11 l20 g21 l22 g23 b24 g25 z26 o r b' b'_g2 b'_z2 := by
 intro S e f n0 t0 H0 h
 obtain ⟨hb0, ha0⟩ := H0
 obtain ⟨w0, hB0⟩ := take_some hb0
 have hn0 := o_getBox_lt hB0
 unfold k_parse_blocks_block_1
 rw [E_loop]
 have F := U_parse_blocks_block
 obtain ⟨r48, y49, q1, T⟩ := T
 simp only [R_parse_tokens_may, le, List.cons_append, List.nil_append] at q1
 replace F := aa ha0 <| aa hB0 <| aa hn0 <| aa h <| aa q1 <| F
 by_cases c2 : r48 = true
 · replace T := T.1 c2
   obtain ⟨rfl, rfl, rfl, rfl, rfl⟩ := T
   exact fi (aa c2 <| F)
 · replace T := T.2 c2
   replace c2 := Bool.eq_false_iff.2 c2
   obtain ⟨o51, r50, y52, g53, z54, q3, T⟩ := T
   simp only [R_parse_blocks_block, le, List.cons_append, List.nil_append] at q3
   replace F := aa c2 <| aa q3 <| F
   cases o51 with
   | none =>
     dsimp only at T
     obtain ⟨p4, T⟩ := T
     simp only [bigRow] at p4
     replace F := aa p4 <| F
     try simp only [F, lw, lx, le, Nat.reduceMul, UInt8.reduceToNat, reduceIte, reduceCtorEq, Nat.reduceEqDiff, Nat.reduceAdd, Nat.reduceLeDiff, Nat.reduceSub, Nat.reduceLT, Int.reduceEq, Int.reduceLT, Int.reduceLE, Int.reduceToNat, Int.reduceAdd, Int.reduceSub, Int.reduceMul, Int.reduceNeg]
     refine (T _ _ _ n0 t0 ?_ ?_).trans ?_
     all_goals exact fi F
   | some e55 =>
     dsimp only at T
     obtain ⟨rfl, rfl, rfl, rfl⟩ := T
     exact fi F
set_option maxHeartbeats 4000000 in
theorem parse_blocks_block_tree (b : PBlocks) (b_g2 : Nat) (b_z2 : Bool) (within : Bool) (o : Option Int) (r : Block) (b' : PBlocks) (b'_g2 : Nat) (b'_z2 : Bool) (T :
  ∃ (r1 : Token) (y2 : PTokens), (R_parse_tokens_now b.exprs.tokens r1 y2) ∧
 ∃ (r3 : List (List UInt8)), (R_parse_words r3) ∧
 ∃ (r4 : Int), (R_slices_Index_string_string r3 r1.Text r4) ∧
 (I64 (1 + r4)) ∧
 ((r1.Kind = 3) →
  (((1 + r4) = 0) →
   ∃ (o5 : Option Int) (y6 : PTokens), (R_parse_tokens_fail y2 5 o5 y6) ∧
   (match o5 with
   | none => (False /- no return -/)
   | some e7 => (some e7 = o ∧ (PBlocks.mk (PExprs.mk y6 b.exprs.out b.exprs.deep)) = b' ∧ b_g2 = b'_g2 ∧ b_z2 = b'_z2))) ∧
  (¬ ((1 + r4) = 0) →
   (((1 + r4) = 5) →
    ((within = true) →
     ∃ (o8 : Option Int) (y9 : PTokens), (R_parse_tokens_fail y2 5 o8 y9) ∧
     (match o8 with
     | none => (False /- no return -/)
     | some e10 => (some e10 = o ∧ (PBlocks.mk (PExprs.mk y9 b.exprs.out b.exprs.deep)) = b' ∧ b_g2 = b'_g2 ∧ b_z2 = b'_z2))) ∧
    (¬ (within = true) →
     (I64 (y2.pos + 1)) ∧
     ∃ (o12 : Option Int) (r11 : List UInt8) (y13 : PBlocks) (g14 : Nat) (z15 : Bool), (R_parse_blocks_label (PBlocks.mk (PExprs.mk (PTokens.mk y2.l (y2.pos + 1)) b.exprs.out b.exprs.deep)) b_g2 b_z2 o12 r11 y13 g14 z15) ∧
     (match o12 with
     | none => (∃ (o17 : Option Int) (y18 : PTokens), (R_parse_tokens_need y13.exprs.tokens [123] o17 y18) ∧
      (match o17 with
      | none => (At_parse_blocks_block_1 r4 r11 [] 1 [] 1 (PBlocks.mk (PExprs.mk y18 y13.exprs.out y13.exprs.deep)) g14 z15 o r b' b'_g2 b'_z2)
      | some e19 => (some e19 = o ∧ (PBlocks.mk (PExprs.mk y18 y13.exprs.out y13.exprs.deep)) = b' ∧ g14 = b'_g2 ∧ z15 = b'_z2)))
     | some e16 => (some e16 = o ∧ y13 = b' ∧ g14 = b'_g2 ∧ z15 = b'_z2)))) ∧
   (¬ ((1 + r4) = 5) →
    (I64 (y2.pos + 1)) ∧
    (((1 + r4) = 2) →
     ∃ (o28 : Option Int) (r27 : List Attr) (y29 : PBlocks) (g30 : Nat) (z31 : Bool), (R_parse_blocks_body (PBlocks.mk (PExprs.mk (PTokens.mk y2.l (y2.pos + 1)) b.exprs.out b.exprs.deep)) b_g2 b_z2 o28 r27 y29 g30 z31) ∧
     (match o28 with
     | none => ((none = o ∧ (Block.mk (1 + r4) [] r27 []) = r ∧ y29 = b' ∧ g30 = b'_g2 ∧ z31 = b'_z2) ∧
      (none = o ∧ (Block.mk (1 + r4) [] r27 []) = r ∧ y29 = b' ∧ g30 = b'_g2 ∧ z31 = b'_z2))
     | some e32 => (some e32 = o ∧ y29 = b' ∧ g30 = b'_g2 ∧ z31 = b'_z2))) ∧
    (¬ ((1 + r4) = 2) →
     ∃ (o34 : Option Int) (r33 : List UInt8) (y35 : PBlocks) (g36 : Nat) (z37 : Bool), (R_parse_blocks_label (PBlocks.mk (PExprs.mk (PTokens.mk y2.l (y2.pos + 1)) b.exprs.out b.exprs.deep)) b_g2 b_z2 o34 r33 y35 g36 z37) ∧
     (match o34 with
     | none => (∃ (o40 : Option Int) (r39 : List Attr) (y41 : PBlocks) (g42 : Nat) (z43 : Bool), (R_parse_blocks_body y35 g36 z37 o40 r39 y41 g42 z43) ∧
      (match o40 with
      | none => ((none = o ∧ (Block.mk (1 + r4) r33 r39 []) = r ∧ y41 = b' ∧ g42 = b'_g2 ∧ z43 = b'_z2) ∧
       (none = o ∧ (Block.mk (1 + r4) r33 r39 []) = r ∧ y41 = b' ∧ g42 = b'_g2 ∧ z43 = b'_z2))
      | some e44 => (some e44 = o ∧ y41 = b' ∧ g42 = b'_g2 ∧ z43 = b'_z2)))
     | some e38 => (some e38 = o ∧ y35 = b' ∧ g36 = b'_g2 ∧ z37 = b'_z2)))))) ∧
 (¬ (r1.Kind = 3) →
  ∃ (o45 : Option Int) (y46 : PTokens), (R_parse_tokens_fail y2 5 o45 y46) ∧
  (match o45 with
  | none => (False /- no return -/)
  | some e47 => (some e47 = o ∧ (PBlocks.mk (PExprs.mk y46 b.exprs.out b.exprs.deep)) = b' ∧ b_g2 = b'_g2 ∧ b_z2 = b'_z2)))) : R_parse_blocks_block b b_g2 b_z2 within o r b' b'_g2 b'_z2 := by
 intro S n0 t0 H0
 obtain ⟨hb0, ha0⟩ := H0
 obtain ⟨w0, hB0⟩ := take_some hb0
 have hn0 := o_getBox_lt hB0
 rw [call_code sp_parse_blocks_block _ _ rfl]
 have F := U_parse_blocks_block
 obtain ⟨r1, y2, q1, r3, q2, r4, q3, p4, T⟩ := T
 simp only [R_parse_tokens_now, le, List.cons_append, List.nil_append] at q1
 simp only [R_parse_words, le, List.cons_append, List.nil_append] at q2
 simp only [R_slices_Index_string_string, le, List.cons_append, List.nil_append] at q3
 replace F := aa ha0 <| aa hB0 <| aa hn0 <| aa q1 <| aa q2 <| aa q3 <| aa p4.wrap <| F
 by_cases c5 : r1.Kind = 3
 · replace T := T.1 c5
   replace F := aa (eq_true c5) <| F
   by_cases c6 : (1 + r4) = 0
   · replace T := T.1 c6
     obtain ⟨o5, y6, q7, T⟩ := T
     simp only [R_parse_tokens_fail, le, List.cons_append, List.nil_append] at q7
     replace F := aa (eq_true c6) <| aa q7 <| F
     cases o5 with
     | none => exact False.elim T
     | some e7 =>
       dsimp only at T
       obtain ⟨rfl, rfl, rfl, rfl⟩ := T
       exact fi F
   · replace T := T.2 c6
     replace F := aa (eq_false c6) <| F
     by_cases c8 : (1 + r4) = 5
     · replace T := T.1 c8
       replace F := aa (eq_true c8) <| F
       by_cases c9 : within = true
       · replace T := T.1 c9
         obtain ⟨o8, y9, q10, T⟩ := T
         simp only [R_parse_tokens_fail, le, List.cons_append, List.nil_append] at q10
         replace F := aa c9 <| aa q10 <| F
         cases o8 with
         | none => exact False.elim T
         | some e10 =>
           dsimp only at T
           obtain ⟨rfl, rfl, rfl, rfl⟩ := T
           exact fi F
       · replace T := T.2 c9
         replace c9 := Bool.eq_false_iff.2 c9
         obtain ⟨p11, o12, r11, y13, g14, z15, q13, T⟩ := T
         have d12 : ¬ ((1 + r4) = 2) := fun h => absurd (c8.symm.trans h) (by decide)
         simp only [R_parse_blocks_label, le, List.cons_append, List.nil_append] at q13
         replace F := aa c9 <| aa p11.wrap <| aa (eq_false d12) <| aa q13 <| F
         cases o12 with
         | none =>
           dsimp only at T
           obtain ⟨o17, y18, q14, T⟩ := T
           simp only [R_parse_tokens_need, le, List.cons_append, List.nil_append] at q14
           replace F := aa q14 <| F
           cases o17 with
           | none =>
             dsimp only at T
             try simp only [F, lw, lx, le, Nat.reduceMul, UInt8.reduceToNat, reduceIte, reduceCtorEq, Nat.reduceEqDiff, Nat.reduceAdd, Nat.reduceLeDiff, Nat.reduceSub, Nat.reduceLT, Int.reduceEq, Int.reduceLT, Int.reduceLE, Int.reduceToNat, Int.reduceAdd, Int.reduceSub, Int.reduceMul, Int.reduceNeg]
             refine (T _ _ _ n0 t0 ?_ ?_).trans ?_
             all_goals exact fi F
           | some e19 =>
             dsimp only at T
             obtain ⟨rfl, rfl, rfl, rfl⟩ := T
             exact fi F
         | some e16 =>
           dsimp only at T
           obtain ⟨rfl, rfl, rfl, rfl⟩ := T
           exact fi F
     · replace T := T.2 c8
       obtain ⟨p15, T⟩ := T
       replace F := aa (eq_false c8) <| aa p15.wrap <| F
       by_cases c16 : (1 + r4) = 2
       · replace T := T.1 c16
         obtain ⟨o28, r27, y29, g30, z31, q17, T⟩ := T
         simp only [R_parse_blocks_body, le, List.cons_append, List.nil_append] at q17
         replace F := aa (eq_true c16) <| F
         cases o28 with
         | none =>
           dsimp only at T
           rcases q17 with q17 | q17
           · replace T := T.1
             obtain ⟨rfl, rfl, rfl, rfl, rfl⟩ := T
             exact fi (aa q17 <| F)
           · replace T := T.2
             obtain ⟨rfl, rfl, rfl, rfl, rfl⟩ := T
             exact fi (aa q17 <| F)
         | some e32 =>
           dsimp only at T
           rcases q17 with q17 | q17
           ·
             obtain ⟨rfl, rfl, rfl, rfl⟩ := T
             exact fi (aa q17 <| F)
           ·
             obtain ⟨rfl, rfl, rfl, rfl⟩ := T
             exact fi (aa q17 <| F)
       · replace T := T.2 c16
         obtain ⟨o34, r33, y35, g36, z37, q18, T⟩ := T
         simp only [R_parse_blocks_label, le, List.cons_append, List.nil_append] at q18
         replace F := aa (eq_false c16) <| aa q18 <| F
         cases o34 with
         | none =>
           dsimp only at T
           obtain ⟨o40, r39, y41, g42, z43, q19, T⟩ := T
           simp only [R_parse_blocks_body, le, List.cons_append, List.nil_append] at q19
           cases o40 with
           | none =>
             dsimp only at T
             rcases q19 with q19 | q19
             · replace T := T.1
               obtain ⟨rfl, rfl, rfl, rfl, rfl⟩ := T
               exact fi (aa q19 <| F)
             · replace T := T.2
               obtain ⟨rfl, rfl, rfl, rfl, rfl⟩ := T
               exact fi (aa q19 <| F)
           | some e44 =>
             dsimp only at T
             rcases q19 with q19 | q19
             ·
               obtain ⟨rfl, rfl, rfl, rfl⟩ := T
               exact fi (aa q19 <| F)
             ·
               obtain ⟨rfl, rfl, rfl, rfl⟩ := T
               exact fi (aa q19 <| F)
         | some e38 =>
           dsimp only at T
           obtain ⟨rfl, rfl, rfl, rfl⟩ := T
           exact fi F
 · replace T := T.2 c5
   obtain ⟨o45, y46, q20, T⟩ := T
   simp only [R_parse_tokens_fail, le, List.cons_append, List.nil_append] at q20
   replace F := aa (eq_false c5) <| aa q20 <| F
   cases o45 with
   | none => exact False.elim T
   | some e47 =>
     dsimp only at T
     obtain ⟨rfl, rfl, rfl, rfl⟩ := T
     exact fi F
end Go.Proofs.YtfbcnpbhhooapaaGreatDoor.M

/- Parse: operators; and what a reader of expressions yields. -/
namespace Go.Proofs.YtfbcnpbhhooapaaGreatDoor.M
set_option linter.unusedSimpArgs false
set_option linter.unusedVariables false
open Go Classical
def idxI : Option Nat → Int
  | some i => (i : Int)
  | none => -1
theorem r_Index_loop (s : List (List UInt8)) (v : List UInt8) (hs : s.length ≤ 1000) : ∀ (l : List (List UInt8)) (i : Nat), s.drop i = l → i + l.length = s.length → At_slices_Index_string_string_1 s v (i : Nat) (idxI (idxS v l i))
  | [], i, h, hi => by
    refine At_slices_Index_string_string_1_step _ _ _ _ ⟨fun hf => ?_, fun _ => rfl⟩
    simp at hi
    omega
  | u :: l, i, h, hi => by
    have hlt : i < s.length := by simp at hi; omega
    have hg : s[i]? = some u := by
      have := congrArg List.head? h
      rw [List.head?_drop] at this
      simpa using this
    refine At_slices_Index_string_string_1_step _ _ _ _ ⟨fun _ => ⟨by omega, u, by simpa using hg, fun he => ?_, fun he => ⟨⟨by omega, by omega⟩, ?_⟩⟩, fun hf => absurd (by omega) hf⟩
    · simp [idxS, he, idxI]
    · have := r_Index_loop s v hs l (i + 1) (by rw [← List.drop_drop, h]; rfl) (by simp at hi ⊢; omega)
      simp only [idxS, if_neg he]
      exact this
theorem r_IndexS (s : List (List UInt8)) (v : List UInt8) (hs : s.length ≤ 1000) : R_slices_Index_string_string s v (idxI (idxS v s 0)) :=
  slices_Index_string_string_tree _ _ _ (r_Index_loop s v hs s 0 rfl (by simp))
theorem r_two (rank : Nat) (hr : rank < 5) (s : List UInt8) : ∃ k, R_parse_two (rank : Int) s k (opS rank s).isSome ∧ ∀ q, opS rank s = some q → k = q := by
  have key : ∀ (l : List (List UInt8)) (f : Int), ([[[124, 124]], [[38, 38]], [[61, 61], [33, 61], [60], [60, 61], [62], [62, 61]], [[43], [45]], [[42], [47], [37]]] : List (List (List UInt8)))[rank]? = some l → ([11, 12, 13, 19, 21] : List Int)[rank]? = some f → l.length ≤ 6 → 0 ≤ f → f ≤ 30 → signsS rank = l → firstS rank = f → ∃ k, R_parse_two (rank : Int) s k (opS rank s).isSome ∧ ∀ q, opS rank s = some q → k = q := by
    intro l f h1 h2 h3 h4 h5 h6 h7
    have hb : -1 ≤ idxI (idxS s l 0) ∧ idxI (idxS s l 0) ≤ 6 := by
      have gen : ∀ (l : List (List UInt8)) (i : Nat), -1 ≤ idxI (idxS s l i) ∧ idxI (idxS s l i) ≤ i + l.length := by
        intro l
        induction l with
        | nil => intro i; simp [idxS, idxI]
        | cons u l ih =>
          intro i
          simp only [idxS]
          split
          · simp only [idxI, List.length_cons]; omega
          · have := ih (i + 1)
            simp only [List.length_cons]
            omega
      have := gen l 0
      omega
    refine ⟨f + idxI (idxS s l 0), parse_two_tree _ _ _ _ ⟨by omega, l, by simpa using h1, idxI (idxS s l 0), r_IndexS l s (by omega), by omega, f, by simpa using h2, ⟨by omega, by omega⟩, rfl, ?_⟩, ?_⟩
    · simp only [opS, h6]
      cases idxS s l 0 with
      | none => simp [idxI]
      | some i => simp [idxI]
    · intro q hq
      simp only [opS, h6, h7] at hq
      cases hi : idxS s l 0 with
      | none => rw [hi] at hq; cases hq
      | some i => rw [hi] at hq; simpa [idxI] using hq
  match rank, hr with
  | 0, _ => exact key _ _ rfl rfl (by decide) (by decide) (by decide) rfl rfl
  | 1, _ => exact key _ _ rfl rfl (by decide) (by decide) (by decide) rfl rfl
  | 2, _ => exact key _ _ rfl rfl (by decide) (by decide) (by decide) rfl rfl
  | 3, _ => exact key _ _ rfl rfl (by decide) (by decide) (by decide) rfl rfl
  | 4, _ => exact key _ _ rfl rfl (by decide) (by decide) (by decide) rfl rfl
theorem r_is1 {L ts : List Token} (h : ts <:+ L) {s : List UInt8} (hi : isS s ts = true) : R_parse_tokens_is (pt L ts) s true (pt L ts) := by
  have := r_is h (fun e => by subst e; cases hi) s
  rw [hi] at this
  exact this
theorem r_is0 {L ts : List Token} (h : ts <:+ L) (hne : ts ≠ []) {s : List UInt8} (hi : isS s ts = false) : R_parse_tokens_is (pt L ts) s false (pt L ts) := by
  have := r_is h hne s
  rw [hi] at this
  exact this
/-- What a reader yields: the parser does it. m: how much is enough. -/
def OkE {α : Type} (L ts : List Token) (out : List Node) (d d' g c m n : Nat) (R : PExprs → Nat → Bool → Option Int → α → PExprs → Nat → Bool → Prop) : PR α → Prop
  | .ok a ts' out' => ts' <:+ L ∧ W ts' ∧ ts'.length + c ≤ ts.length ∧ out'.length + ts'.length ≤ out.length + ts.length ∧ R (pe L ts out d) g false none a (pe L ts' out' d') g false
  | .er e => ∃ a x' g' z', R (pe L ts out d) g false (some e) a x' g' z'
  | .no => n ≤ m
structure Sp (n : Nat) (L ts : List Token) (out : List Node) (d g : Nat) : Prop where
  expr : OkE L ts out d d g 1 (20 * ts.length + 9) n R_parse_exprs_expr (exprS n d ts out)
  chain : ∀ rank : Nat, rank ≤ 5 → OkE L ts out d d g 1 (20 * ts.length + 8 - rank) n (fun x g z => R_parse_exprs_chain x g z (rank : Int)) (chainS n rank d ts out)
  loop : ∀ (rank : Nat) (a : Int), rank < 5 → OkE L ts out d d g 0 (20 * ts.length) n (At_parse_exprs_chain_1 (rank : Int) a) (loopS n rank d a ts out)
  un : OkE L ts out d d g 1 (20 * ts.length + 2) n R_parse_exprs_un (unS n d ts out)
  post : OkE L ts out d d g 1 (20 * ts.length + 1) n R_parse_exprs_post (postS n d ts out)
  postl : ∀ a : Int, OkE L ts out d d g 0 (20 * ts.length) n (At_parse_exprs_post_1 a) (postL n d a ts out)
  many : ∀ e : List UInt8, d + 1 ≤ 64 → OkE L ts out (d + 1) d g 1 (20 * ts.length + 10) n (fun x g z => R_parse_exprs_many x g z e) (manyS n (d + 1) e ts out)
  manyl : ∀ (e : List UInt8) (l : List Int), l.length + ts.length ≤ 1000000 → d + 1 ≤ 64 → OkE L ts out (d + 1) d g 1 (20 * ts.length) n (At_parse_exprs_many_1 e l) (manyL n (d + 1) e l ts out)
  prim : OkE L ts out d d g 1 (20 * ts.length) n R_parse_exprs_prim (primS n d ts out)
  manyn : ∀ e : List UInt8, d + 1 ≤ 64 → ∀ b ts2 out2, manyS n (d + 1) e ts out = .ok b ts2 out2 → b.length ≤ ts.length
  manyln : ∀ (e : List UInt8) (l : List Int), d + 1 ≤ 64 → ∀ b ts2 out2, manyL n (d + 1) e l ts out = .ok b ts2 out2 → b.length ≤ l.length + ts.length
def SpA (n : Nat) : Prop := ∀ (L : List Token), L.length ≤ 1000000 → (∀ t ∈ L, t.Text.length ≤ 1000000) → ∀ (ts : List Token), ts <:+ L → W ts → ∀ (out : List Node), out.length + ts.length ≤ 1000000 → ∀ (d : Nat), d ≤ 64 → ∀ (g : Nat), Sp n L ts out d g
theorem sp_zero : SpA 0 := fun L hL hT ts hs hw out ho d hd g => by
  constructor
  iterate 9 (intros; simp only [exprS, chainS, loopS, unS, postS, postL, manyS, manyL, primS, OkE]; exact Nat.zero_le _)
  · intro e h b ts2 out2 hb; simp [manyS] at hb
  · intro e l h b ts2 out2 hb; simp [manyL] at hb
section
variable {n : Nat} (ih : SpA n) {L ts : List Token} (hL : L.length ≤ 1000000) (hT : ∀ t ∈ L, t.Text.length ≤ 1000000) (hs : ts <:+ L) (hw : W ts) {out : List Node} (ho : out.length + ts.length ≤ 1000000) {d : Nat} (hd : d ≤ 64) (g : Nat)
include ih hL hT hs hw ho hd
theorem sp_expr : OkE L ts out d d g 1 (20 * ts.length + 9) (n + 1) R_parse_exprs_expr (exprS (n + 1) d ts out) := by
  have h1 := (ih L hL hT ts hs hw out ho d hd g).chain 0 (by omega)
  simp only [exprS]
  cases hc : chainS n 0 d ts out with
  | no => rw [hc] at h1; simp only [PR.bind, OkE] at h1 ⊢; omega
  | er e =>
    rw [hc] at h1
    obtain ⟨a, x', g', z', q⟩ := h1
    exact ⟨0, x', g', z', parse_exprs_expr_tree _ _ _ _ _ _ _ _ ⟨some e, a, x', g', z', q, rfl, rfl, rfl, rfl⟩⟩
  | ok a ts1 out1 =>
    rw [hc] at h1
    obtain ⟨s1, w1, l1, o1, q1⟩ := h1
    simp only [PR.bind]
    by_cases hi : isS [63] ts1 = true
    · rw [if_pos hi]
      simp only [openS, if_pos hi]
      have hlen := len_shift hi
      by_cases h64 : 64 ≤ d
      · rw [if_pos h64]
        obtain ⟨x', g', z', q⟩ := r_open6 s1 w1.ne hi h64 out1 g false
        exact ⟨0, x', g', z', parse_exprs_expr_tree _ _ _ _ _ _ _ _ ⟨none, a, _, _, _, q1, true, _, r_is1 s1 hi, fun _ => ⟨some 6, x', g', z', q, rfl, rfl, rfl, rfl⟩, fun hf => absurd rfl hf⟩⟩
      · rw [if_neg h64]
        have q2 := r_open1 s1 hL hi h64 out1 g false
        have h3 := (ih L hL hT ts1.tail (suf_shift s1) (w1.shift hi) out1 (by omega) (d + 1) (by omega) g).expr
        cases hb : exprS n (d + 1) ts1.tail out1 with
        | no => rw [hb] at h3; simp only [OkE] at h3 ⊢; omega
        | er e =>
          rw [hb] at h3
          obtain ⟨b, x', g', z', q3⟩ := h3
          exact ⟨0, x', g', z', parse_exprs_expr_tree _ _ _ _ _ _ _ _ ⟨none, a, _, _, _, q1, true, _, r_is1 s1 hi, fun _ => ⟨none, _, _, _, q2, some e, b, x', g', z', q3, rfl, rfl, rfl, rfl⟩, fun hf => absurd rfl hf⟩⟩
        | ok b ts2 out2 =>
          rw [hb] at h3
          obtain ⟨s2, w2, l2, o2, q3⟩ := h3
          simp only [needS]
          by_cases hi2 : isS [58] ts2 = true
          · rw [if_pos hi2]
            have hlen2 := len_shift hi2
            have h4 := (ih L hL hT ts2.tail (suf_shift s2) (w2.shift hi2) out2 (by omega) (d + 1) (by omega) g).expr
            cases hc3 : exprS n (d + 1) ts2.tail out2 with
            | no => rw [hc3] at h4; simp only [OkE] at h4 ⊢; omega
            | er e =>
              rw [hc3] at h4
              obtain ⟨c, x', g', z', q4⟩ := h4
              exact ⟨0, x', g', z', parse_exprs_expr_tree _ _ _ _ _ _ _ _ ⟨none, a, _, _, _, q1, true, _, r_is1 s1 hi, fun _ => ⟨none, _, _, _, q2, none, b, _, _, _, q3, none, _, r_need1 s2 hL hi2, some e, c, x', g', z', q4, rfl, rfl, rfl, rfl⟩, fun hf => absurd rfl hf⟩⟩
            | ok c ts3 out3 =>
              rw [hc3] at h4
              obtain ⟨s3, w3, l3, o3, q4⟩ := h4
              refine ⟨s3, w3, by omega, by simp; omega, parse_exprs_expr_tree _ _ _ _ _ _ _ _ ⟨none, a, _, _, _, q1, true, _, r_is1 s1 hi, fun _ => ⟨none, _, _, _, q2, none, b, _, _, _, q3, none, _, r_need1 s2 hL hi2, none, c, _, _, _, q4, ⟨by simp only [pe]; omega, by simp only [pe]; omega⟩, _, _, _, _, r_put _ out3 _ g false 10 [] [a, b, c] (by simp) (by omega), rfl, rfl, ?_, rfl, rfl⟩, fun hf => absurd rfl hf⟩⟩
              simp only [pe]
              congr 1
              omega
          · rw [if_neg hi2]
            exact ⟨0, _, _, _, parse_exprs_expr_tree _ _ _ _ _ _ _ _ ⟨none, a, _, _, _, q1, true, _, r_is1 s1 hi, fun _ => ⟨none, _, _, _, q2, none, b, _, _, _, q3, some 5, _, r_need0 s2 w2.ne (by simpa using hi2), rfl, rfl, rfl, rfl⟩, fun hf => absurd rfl hf⟩⟩
    · rw [if_neg hi]
      exact ⟨s1, w1, l1, o1, parse_exprs_expr_tree _ _ _ _ _ _ _ _ ⟨none, a, _, _, _, q1, false, _, r_is0 s1 w1.ne (by simpa using hi), fun hf => (by cases hf), fun _ => ⟨rfl, rfl, rfl, rfl, rfl⟩⟩⟩
theorem sp_chain (rank : Nat) (hr : rank ≤ 5) : OkE L ts out d d g 1 (20 * ts.length + 8 - rank) (n + 1) (fun x g z => R_parse_exprs_chain x g z (rank : Int)) (chainS (n + 1) rank d ts out) := by
  simp only [chainS]
  by_cases h5 : rank = 5
  · subst h5
    have h1 := (ih L hL hT ts hs hw out ho d hd g).un
    rw [if_pos rfl]
    cases hc : unS n d ts out with
    | no => rw [hc] at h1; simp only [OkE] at h1 ⊢; omega
    | er e =>
      rw [hc] at h1
      obtain ⟨a, x', g', z', q⟩ := h1
      exact ⟨a, x', g', z', parse_exprs_chain_tree _ _ _ _ _ _ _ _ _ ⟨fun _ => ⟨some e, a, x', g', z', q, rfl, rfl, rfl, rfl⟩, fun hf => absurd rfl hf⟩⟩
    | ok a ts1 out1 =>
      rw [hc] at h1
      obtain ⟨s1, w1, l1, o1, q1⟩ := h1
      exact ⟨s1, w1, l1, o1, parse_exprs_chain_tree _ _ _ _ _ _ _ _ _ ⟨fun _ => ⟨none, a, _, _, _, q1, rfl, rfl, rfl, rfl, rfl⟩, fun hf => absurd rfl hf⟩⟩
  · rw [if_neg h5]
    have h5' : ¬ ((rank : Nat) : Int) = 5 := by omega
    have h1 := (ih L hL hT ts hs hw out ho d hd g).chain (rank + 1) (by omega)
    cases hc : chainS n (rank + 1) d ts out with
    | no => rw [hc] at h1; simp only [PR.bind, OkE] at h1 ⊢; omega
    | er e =>
      rw [hc] at h1
      obtain ⟨a, x', g', z', q⟩ := h1
      exact ⟨a, x', g', z', parse_exprs_chain_tree _ _ _ _ _ _ _ _ _ ⟨fun hf => absurd hf h5', fun _ => ⟨⟨by omega, by omega⟩, some e, a, x', g', z', q, rfl, rfl, rfl, rfl⟩⟩⟩
    | ok a ts1 out1 =>
      rw [hc] at h1
      obtain ⟨s1, w1, l1, o1, q1⟩ := h1
      simp only [PR.bind]
      have h2 := (ih L hL hT ts1 s1 w1 out1 (by omega) d hd g).loop rank a (by omega)
      cases hl : loopS n rank d a ts1 out1 with
      | no => rw [hl] at h2; simp only [OkE] at h2 ⊢; omega
      | er e =>
        rw [hl] at h2
        obtain ⟨b, x', g', z', q⟩ := h2
        exact ⟨b, x', g', z', parse_exprs_chain_tree _ _ _ _ _ _ _ _ _ ⟨fun hf => absurd hf h5', fun _ => ⟨⟨by omega, by omega⟩, none, a, _, _, _, q1, q⟩⟩⟩
      | ok b ts2 out2 =>
        rw [hl] at h2
        obtain ⟨s2, w2, l2, o2, q2⟩ := h2
        exact ⟨s2, w2, by omega, by omega, parse_exprs_chain_tree _ _ _ _ _ _ _ _ _ ⟨fun hf => absurd hf h5', fun _ => ⟨⟨by omega, by omega⟩, none, a, _, _, _, q1, q2⟩⟩⟩
theorem sp_loop (rank : Nat) (a : Int) (hr : rank < 5) : OkE L ts out d d g 0 (20 * ts.length) (n + 1) (At_parse_exprs_chain_1 (rank : Int) a) (loopS (n + 1) rank d a ts out) := by
  cases ts with
  | nil => exact hw.elim
  | cons t ts =>
    simp only [loopS]
    by_cases hk : t.Kind = 4
    · rw [if_pos hk]
      obtain ⟨k, hk2, hkq⟩ := r_two rank hr t.Text
      cases hop : opS rank t.Text with
      | none =>
        rw [hop] at hk2
        exact ⟨hs, hw, by simp, by simp, At_parse_exprs_chain_1_step _ _ _ _ _ _ _ _ _ _ ⟨t, _, r_now hs, fun _ => ⟨t, _, r_now hs, k, false, hk2, fun hf => (by cases hf), fun _ => ⟨rfl, rfl, rfl, rfl, rfl⟩⟩, fun hf => absurd hk hf⟩⟩
      | some kind =>
        rw [hop] at hk2
        obtain rfl := hkq kind hop
        simp only
        have hk0 : t.Kind ≠ 0 := by rw [hk]; decide
        have hp := suf_len hs
        have h1 := (ih L hL hT ts (suf_tail hs) (hw.tail hk0) out (by simp at ho; omega) d hd g).chain (rank + 1) (by omega)
        have hI : I64 ((pt L (t :: ts)).pos + 1) := by simp only [pt, I64]; omega
        have hI2 : I64 (((rank : Nat) : Int) + 1) := ⟨by omega, by omega⟩
        have e1 : (PExprs.mk (PTokens.mk (pt L (t :: ts)).l ((pt L (t :: ts)).pos + 1)) (pe L (t :: ts) out d).out (pe L (t :: ts) out d).deep) = pe L ts out d := by rw [pt_next hs]; rfl
        cases hc : chainS n (rank + 1) d ts out with
        | no => rw [hc] at h1; simp only [PR.bind, OkE, List.length_cons] at h1 ⊢; omega
        | er e =>
          rw [hc] at h1
          obtain ⟨b, x', g', z', q⟩ := h1
          exact ⟨b, x', g', z', At_parse_exprs_chain_1_step _ _ _ _ _ _ _ _ _ _ ⟨t, _, r_now hs, fun _ => ⟨t, _, r_now hs, k, true, hk2, fun _ => ⟨hI, hI2, some e, b, x', g', z', e1 ▸ q, rfl, rfl, rfl, rfl⟩, fun hf => absurd rfl hf⟩, fun hf => absurd hk hf⟩⟩
        | ok b ts1 out1 =>
          rw [hc] at h1
          obtain ⟨s1, w1, l1, o1, q1⟩ := h1
          simp only [PR.bind]
          simp only [List.length_cons] at ho hp
          by_cases h2 : rank = 2
          · subst h2
            rw [if_pos rfl]
            exact ⟨s1, w1, by simp; omega, by simp; omega, At_parse_exprs_chain_1_step _ _ _ _ _ _ _ _ _ _ ⟨t, _, r_now hs, fun _ => ⟨t, _, r_now hs, k, true, hk2, fun _ => ⟨hI, hI2, none, b, _, _, _, e1 ▸ q1, _, _, _, _, r_put _ out1 _ g false k [] [a, b] (by simp) (by omega), fun _ => ⟨rfl, rfl, rfl, rfl, rfl⟩, fun hf => absurd rfl hf⟩, fun hf => absurd rfl hf⟩, fun hf => absurd hk hf⟩⟩
          · rw [if_neg h2]
            have h2' : ¬ ((rank : Nat) : Int) = 2 := by omega
            have h3 := (ih L hL hT ts1 s1 w1 (out1 ++ [nd k [] [a, b]]) (by simp; omega) d hd g).loop rank (out1.length : Nat) hr
            cases hl : loopS n rank d (out1.length : Nat) ts1 (out1 ++ [nd k [] [a, b]]) with
            | no => rw [hl] at h3; simp only [OkE, List.length_cons] at h3 ⊢; omega
            | er e =>
              rw [hl] at h3
              obtain ⟨c, x', g', z', q⟩ := h3
              exact ⟨c, x', g', z', At_parse_exprs_chain_1_step _ _ _ _ _ _ _ _ _ _ ⟨t, _, r_now hs, fun _ => ⟨t, _, r_now hs, k, true, hk2, fun _ => ⟨hI, hI2, none, b, _, _, _, e1 ▸ q1, _, _, _, _, r_put _ out1 _ g false k [] [a, b] (by simp) (by omega), fun hf => absurd hf h2', fun _ => q⟩, fun hf => absurd rfl hf⟩, fun hf => absurd hk hf⟩⟩
            | ok c ts2 out2 =>
              rw [hl] at h3
              obtain ⟨s2, w2, l2, o2, q2⟩ := h3
              simp only [List.length_append, List.length_cons, List.length_nil] at o2
              exact ⟨s2, w2, by simp; omega, by simp; omega, At_parse_exprs_chain_1_step _ _ _ _ _ _ _ _ _ _ ⟨t, _, r_now hs, fun _ => ⟨t, _, r_now hs, k, true, hk2, fun _ => ⟨hI, hI2, none, b, _, _, _, e1 ▸ q1, _, _, _, _, r_put _ out1 _ g false k [] [a, b] (by simp) (by omega), fun hf => absurd hf h2', fun _ => q2⟩, fun hf => absurd rfl hf⟩, fun hf => absurd hk hf⟩⟩
    · rw [if_neg hk]
      exact ⟨hs, hw, by simp, by simp, At_parse_exprs_chain_1_step _ _ _ _ _ _ _ _ _ _ ⟨t, _, r_now hs, fun hf => absurd hf hk, fun _ => ⟨rfl, rfl, rfl, rfl, rfl⟩⟩⟩
theorem sp_un : OkE L ts out d d g 1 (20 * ts.length + 2) (n + 1) R_parse_exprs_un (unS (n + 1) d ts out) := by
  simp only [unS]
  by_cases hi : isS [45] ts = true
  · rw [if_pos hi]
    simp only [openS, if_pos hi]
    have hlen := len_shift hi
    by_cases h64 : 64 ≤ d
    · rw [if_pos h64]
      obtain ⟨x', g', z', q⟩ := r_open6 hs hw.ne hi h64 out g false
      exact ⟨0, x', g', z', parse_exprs_un_tree _ _ _ _ _ _ _ _ ⟨true, _, r_is1 hs hi, fun _ => ⟨some 6, x', g', z', q, rfl, rfl, rfl, rfl⟩, fun hf => absurd rfl hf⟩⟩
    · rw [if_neg h64]
      have q2 := r_open1 hs hL hi h64 out g false
      have h3 := (ih L hL hT ts.tail (suf_shift hs) (hw.shift hi) out (by omega) (d + 1) (by omega) g).un
      cases hb : unS n (d + 1) ts.tail out with
      | no => rw [hb] at h3; simp only [PR.bind, OkE] at h3 ⊢; omega
      | er e =>
        rw [hb] at h3
        obtain ⟨b, x', g', z', q3⟩ := h3
        exact ⟨0, x', g', z', parse_exprs_un_tree _ _ _ _ _ _ _ _ ⟨true, _, r_is1 hs hi, fun _ => ⟨none, _, _, _, q2, some e, b, x', g', z', q3, rfl, rfl, rfl, rfl⟩, fun hf => absurd rfl hf⟩⟩
      | ok b ts2 out2 =>
        rw [hb] at h3
        obtain ⟨s2, w2, l2, o2, q3⟩ := h3
        simp only [PR.bind]
        refine ⟨s2, w2, by omega, by simp; omega, parse_exprs_un_tree _ _ _ _ _ _ _ _ ⟨true, _, r_is1 hs hi, fun _ => ⟨none, _, _, _, q2, none, b, _, _, _, q3, ⟨by simp only [pe]; omega, by simp only [pe]; omega⟩, _, _, _, _, r_put _ out2 _ g false 9 [] [b] (by simp) (by omega), rfl, rfl, ?_, rfl, rfl⟩, fun hf => absurd rfl hf⟩⟩
        simp only [pe]
        congr 1
        omega
  · rw [if_neg hi]
    have hi0 : isS [45] ts = false := by simpa using hi
    clear hi
    by_cases hi : isS [33] ts = true
    · rw [if_pos hi]
      simp only [openS, if_pos hi]
      have hlen := len_shift hi
      by_cases h64 : 64 ≤ d
      · rw [if_pos h64]
        obtain ⟨x', g', z', q⟩ := r_open6 hs hw.ne hi h64 out g false
        exact ⟨0, x', g', z', parse_exprs_un_tree _ _ _ _ _ _ _ _ ⟨false, _, r_is0 hs hw.ne hi0, fun hf => (by cases hf), fun _ => ⟨true, _, r_is1 hs hi, fun _ => ⟨some 6, x', g', z', q, rfl, rfl, rfl, rfl⟩, fun hf => absurd rfl hf⟩⟩⟩
      · rw [if_neg h64]
        have q2 := r_open1 hs hL hi h64 out g false
        have h3 := (ih L hL hT ts.tail (suf_shift hs) (hw.shift hi) out (by omega) (d + 1) (by omega) g).un
        cases hb : unS n (d + 1) ts.tail out with
        | no => rw [hb] at h3; simp only [PR.bind, OkE] at h3 ⊢; omega
        | er e =>
          rw [hb] at h3
          obtain ⟨b, x', g', z', q3⟩ := h3
          exact ⟨0, x', g', z', parse_exprs_un_tree _ _ _ _ _ _ _ _ ⟨false, _, r_is0 hs hw.ne hi0, fun hf => (by cases hf), fun _ => ⟨true, _, r_is1 hs hi, fun _ => ⟨none, _, _, _, q2, some e, b, x', g', z', q3, rfl, rfl, rfl, rfl⟩, fun hf => absurd rfl hf⟩⟩⟩
        | ok b ts2 out2 =>
          rw [hb] at h3
          obtain ⟨s2, w2, l2, o2, q3⟩ := h3
          simp only [PR.bind]
          refine ⟨s2, w2, by omega, by simp; omega, parse_exprs_un_tree _ _ _ _ _ _ _ _ ⟨false, _, r_is0 hs hw.ne hi0, fun hf => (by cases hf), fun _ => ⟨true, _, r_is1 hs hi, fun _ => ⟨none, _, _, _, q2, none, b, _, _, _, q3, ⟨by simp only [pe]; omega, by simp only [pe]; omega⟩, _, _, _, _, r_put _ out2 _ g false 8 [] [b] (by simp) (by omega), rfl, rfl, ?_, rfl, rfl⟩, fun hf => absurd rfl hf⟩⟩⟩
          simp only [pe]
          congr 1
          omega
    · rw [if_neg hi]
      have h1 := (ih L hL hT ts hs hw out ho d hd g).post
      cases hc : postS n d ts out with
      | no => rw [hc] at h1; simp only [OkE] at h1 ⊢; omega
      | er e =>
        rw [hc] at h1
        obtain ⟨a, x', g', z', q⟩ := h1
        exact ⟨a, x', g', z', parse_exprs_un_tree _ _ _ _ _ _ _ _ ⟨false, _, r_is0 hs hw.ne hi0, fun hf => (by cases hf), fun _ => ⟨false, _, r_is0 hs hw.ne (by simpa using hi), fun hf => (by cases hf), fun _ => ⟨some e, a, x', g', z', q, rfl, rfl, rfl, rfl⟩⟩⟩⟩
      | ok a ts1 out1 =>
        rw [hc] at h1
        obtain ⟨s1, w1, l1, o1, q1⟩ := h1
        exact ⟨s1, w1, l1, o1, parse_exprs_un_tree _ _ _ _ _ _ _ _ ⟨false, _, r_is0 hs hw.ne hi0, fun hf => (by cases hf), fun _ => ⟨false, _, r_is0 hs hw.ne (by simpa using hi), fun hf => (by cases hf), fun _ => ⟨none, a, _, _, _, q1, rfl, rfl, rfl, rfl, rfl⟩⟩⟩⟩
theorem sp_post : OkE L ts out d d g 1 (20 * ts.length + 1) (n + 1) R_parse_exprs_post (postS (n + 1) d ts out) := by
  simp only [postS]
  have h1 := (ih L hL hT ts hs hw out ho d hd g).prim
  cases hc : primS n d ts out with
  | no => rw [hc] at h1; simp only [PR.bind, OkE] at h1 ⊢; omega
  | er e =>
    rw [hc] at h1
    obtain ⟨a, x', g', z', q⟩ := h1
    exact ⟨a, x', g', z', parse_exprs_post_tree _ _ _ _ _ _ _ _ ⟨some e, a, x', g', z', q, rfl, rfl, rfl, rfl⟩⟩
  | ok a ts1 out1 =>
    rw [hc] at h1
    obtain ⟨s1, w1, l1, o1, q1⟩ := h1
    simp only [PR.bind]
    have h2 := (ih L hL hT ts1 s1 w1 out1 (by omega) d hd g).postl a
    cases hl : postL n d a ts1 out1 with
    | no => rw [hl] at h2; simp only [OkE] at h2 ⊢; omega
    | er e =>
      rw [hl] at h2
      obtain ⟨b, x', g', z', q⟩ := h2
      exact ⟨b, x', g', z', parse_exprs_post_tree _ _ _ _ _ _ _ _ ⟨none, a, _, _, _, q1, q⟩⟩
    | ok b ts2 out2 =>
      rw [hl] at h2
      obtain ⟨s2, w2, l2, o2, q2⟩ := h2
      exact ⟨s2, w2, by omega, by omega, parse_exprs_post_tree _ _ _ _ _ _ _ _ ⟨none, a, _, _, _, q1, q2⟩⟩
theorem sp_postl (a : Int) : OkE L ts out d d g 0 (20 * ts.length) (n + 1) (At_parse_exprs_post_1 a) (postL (n + 1) d a ts out) := by
  simp only [postL]
  by_cases hi : isS [91] ts = true
  · rw [if_pos hi]
    simp only [openS, if_pos hi]
    have hlen := len_shift hi
    by_cases h64 : 64 ≤ d
    · rw [if_pos h64]
      obtain ⟨x', g', z', q⟩ := r_open6 hs hw.ne hi h64 out g false
      exact ⟨0, x', g', z', At_parse_exprs_post_1_step _ _ _ _ _ _ _ _ _ ⟨true, _, r_is1 hs hi, fun _ => ⟨some 6, x', g', z', q, rfl, rfl, rfl, rfl⟩, fun hf => absurd rfl hf⟩⟩
    · rw [if_neg h64]
      have q2 := r_open1 hs hL hi h64 out g false
      have h3 := (ih L hL hT ts.tail (suf_shift hs) (hw.shift hi) out (by omega) (d + 1) (by omega) g).expr
      cases hb : exprS n (d + 1) ts.tail out with
      | no => rw [hb] at h3; simp only [PR.bind, OkE] at h3 ⊢; omega
      | er e =>
        rw [hb] at h3
        obtain ⟨b, x', g', z', q3⟩ := h3
        exact ⟨0, x', g', z', At_parse_exprs_post_1_step _ _ _ _ _ _ _ _ _ ⟨true, _, r_is1 hs hi, fun _ => ⟨none, _, _, _, q2, some e, b, x', g', z', q3, rfl, rfl, rfl, rfl⟩, fun hf => absurd rfl hf⟩⟩
      | ok b ts2 out2 =>
        rw [hb] at h3
        obtain ⟨s2, w2, l2, o2, q3⟩ := h3
        simp only [PR.bind, needS]
        by_cases hi2 : isS [93] ts2 = true
        · rw [if_pos hi2]
          have hlen2 := len_shift hi2
          have q4 := r_shut1 s2 hL hi2 (d := d) (by omega) out2 g false
          have h4 := (ih L hL hT ts2.tail (suf_shift s2) (w2.shift hi2) (out2 ++ [nd 7 [] [a, b]]) (by simp; omega) d hd g).postl (out2.length : Nat)
          cases hl : postL n d (out2.length : Nat) ts2.tail (out2 ++ [nd 7 [] [a, b]]) with
          | no => rw [hl] at h4; simp only [OkE] at h4 ⊢; omega
          | er e =>
            rw [hl] at h4
            obtain ⟨c, x', g', z', q⟩ := h4
            exact ⟨c, x', g', z', At_parse_exprs_post_1_step _ _ _ _ _ _ _ _ _ ⟨true, _, r_is1 hs hi, fun _ => ⟨none, _, _, _, q2, none, b, _, _, _, q3, none, _, _, _, q4, _, _, _, _, r_put _ out2 _ g false 7 [] [a, b] (by simp) (by omega), q⟩, fun hf => absurd rfl hf⟩⟩
          | ok c ts3 out3 =>
            rw [hl] at h4
            obtain ⟨s3, w3, l3, o3, q⟩ := h4
            simp only [List.length_append, List.length_cons, List.length_nil] at o3
            exact ⟨s3, w3, by omega, by omega, At_parse_exprs_post_1_step _ _ _ _ _ _ _ _ _ ⟨true, _, r_is1 hs hi, fun _ => ⟨none, _, _, _, q2, none, b, _, _, _, q3, none, _, _, _, q4, _, _, _, _, r_put _ out2 _ g false 7 [] [a, b] (by simp) (by omega), q⟩, fun hf => absurd rfl hf⟩⟩
        · rw [if_neg hi2]
          obtain ⟨x', g', z', q⟩ := r_shut5 s2 w2.ne (by simpa using hi2) (d + 1) out2 g false
          exact ⟨0, x', g', z', At_parse_exprs_post_1_step _ _ _ _ _ _ _ _ _ ⟨true, _, r_is1 hs hi, fun _ => ⟨none, _, _, _, q2, none, b, _, _, _, q3, some 5, x', g', z', q, rfl, rfl, rfl, rfl⟩, fun hf => absurd rfl hf⟩⟩
  · rw [if_neg hi]
    exact ⟨hs, hw, by omega, by omega, At_parse_exprs_post_1_step _ _ _ _ _ _ _ _ _ ⟨false, _, r_is0 hs hw.ne (by simpa using hi), fun hf => (by cases hf), fun _ => ⟨rfl, rfl, rfl, rfl, rfl⟩⟩⟩
theorem sp_many (e : List UInt8) (h65 : d + 1 ≤ 64) : OkE L ts out (d + 1) d g 1 (20 * ts.length + 10) (n + 1) (fun x g z => R_parse_exprs_many x g z e) (manyS (n + 1) (d + 1) e ts out) := by
  simp only [manyS]
  by_cases hi : isS e ts = true
  · rw [if_pos hi]
    have hlen := len_shift hi
    exact ⟨suf_shift hs, hw.shift hi, by omega, by omega, parse_exprs_many_tree _ _ _ _ _ _ _ _ _ ⟨true, _, r_is1 hs hi, fun _ => ⟨none, _, _, _, r_shut1 hs hL hi (d := d) (by omega) out g false, rfl, rfl, rfl, rfl, rfl⟩, fun hf => absurd rfl hf⟩⟩
  · rw [if_neg hi]
    have hi0 : isS e ts = false := by simpa using hi
    · have h1 := (ih L hL hT ts hs hw out ho (d + 1) h65 g).expr
      cases hc : exprS n (d + 1) ts out with
      | no => rw [hc] at h1; simp only [PR.bind, OkE] at h1 ⊢; omega
      | er e' =>
        rw [hc] at h1
        obtain ⟨a, x', g', z', q⟩ := h1
        exact ⟨[], x', g', z', parse_exprs_many_tree _ _ _ _ _ _ _ _ _ ⟨false, _, r_is0 hs hw.ne hi0, fun hf => (by cases hf), fun _ => ⟨some e', a, x', g', z', q, rfl, rfl, rfl, rfl⟩⟩⟩
      | ok a ts1 out1 =>
        rw [hc] at h1
        obtain ⟨s1, w1, l1, o1, q1⟩ := h1
        simp only [PR.bind]
        have h2 := (ih L hL hT ts1 s1 w1 out1 (by omega) d hd g).manyl e [a] (by have := suf_len s1; simp; omega) h65
        cases hl : manyL n (d + 1) e [a] ts1 out1 with
        | no => rw [hl] at h2; simp only [OkE] at h2 ⊢; omega
        | er e' =>
          rw [hl] at h2
          obtain ⟨b, x', g', z', q⟩ := h2
          exact ⟨b, x', g', z', parse_exprs_many_tree _ _ _ _ _ _ _ _ _ ⟨false, _, r_is0 hs hw.ne hi0, fun hf => (by cases hf), fun _ => ⟨none, a, _, _, _, q1, q⟩⟩⟩
        | ok b ts2 out2 =>
          rw [hl] at h2
          obtain ⟨s2, w2, l2, o2, q2⟩ := h2
          exact ⟨s2, w2, by omega, by omega, parse_exprs_many_tree _ _ _ _ _ _ _ _ _ ⟨false, _, r_is0 hs hw.ne hi0, fun hf => (by cases hf), fun _ => ⟨none, a, _, _, _, q1, q2⟩⟩⟩
theorem sp_manyl (e : List UInt8) (l : List Int) (hl : l.length + ts.length ≤ 1000000) (h65 : d + 1 ≤ 64) : OkE L ts out (d + 1) d g 1 (20 * ts.length) (n + 1) (At_parse_exprs_many_1 e l) (manyL (n + 1) (d + 1) e l ts out) := by
  simp only [manyL]
  by_cases hi : isS [44] ts = true
  · rw [if_pos hi]
    have hlen := len_shift hi
    · have h1 := (ih L hL hT ts.tail (suf_shift hs) (hw.shift hi) out (by omega) (d + 1) h65 g).expr
      cases hc : exprS n (d + 1) ts.tail out with
      | no => rw [hc] at h1; simp only [PR.bind, OkE] at h1 ⊢; omega
      | er e' =>
        rw [hc] at h1
        obtain ⟨a, x', g', z', q⟩ := h1
        exact ⟨[], x', g', z', At_parse_exprs_many_1_step _ _ _ _ _ _ _ _ _ _ ⟨true, _, r_may1 hs hL hi, fun _ => ⟨some e', a, x', g', z', q, rfl, rfl, rfl, rfl⟩, fun hf => absurd rfl hf⟩⟩
      | ok a ts1 out1 =>
        rw [hc] at h1
        obtain ⟨s1, w1, l1, o1, q1⟩ := h1
        simp only [PR.bind]
        have h2 := (ih L hL hT ts1 s1 w1 out1 (by omega) d hd g).manyl e (l ++ [a]) (by simp; omega) h65
        have hb : bigRow (l.length + 1) 8 := by simp only [bigRow]; omega
        cases hl2 : manyL n (d + 1) e (l ++ [a]) ts1 out1 with
        | no => rw [hl2] at h2; simp only [OkE] at h2 ⊢; omega
        | er e' =>
          rw [hl2] at h2
          obtain ⟨b, x', g', z', q⟩ := h2
          exact ⟨b, x', g', z', At_parse_exprs_many_1_step _ _ _ _ _ _ _ _ _ _ ⟨true, _, r_may1 hs hL hi, fun _ => ⟨none, a, _, _, _, q1, hb, q⟩, fun hf => absurd rfl hf⟩⟩
        | ok b ts2 out2 =>
          rw [hl2] at h2
          obtain ⟨s2, w2, l2, o2, q2⟩ := h2
          exact ⟨s2, w2, by omega, by omega, At_parse_exprs_many_1_step _ _ _ _ _ _ _ _ _ _ ⟨true, _, r_may1 hs hL hi, fun _ => ⟨none, a, _, _, _, q1, hb, q2⟩, fun hf => absurd rfl hf⟩⟩
  · rw [if_neg hi]
    have hi0 : isS [44] ts = false := by simpa using hi
    simp only [needS]
    by_cases hi2 : isS e ts = true
    · rw [if_pos hi2]
      have hlen := len_shift hi2
      exact ⟨suf_shift hs, hw.shift hi2, by omega, by omega, At_parse_exprs_many_1_step _ _ _ _ _ _ _ _ _ _ ⟨false, _, r_may0 hs hw.ne hi0, fun hf => (by cases hf), fun _ => ⟨none, _, _, _, r_shut1 hs hL hi2 (d := d) (by omega) out g false, rfl, rfl, rfl, rfl, rfl⟩⟩⟩
    · rw [if_neg hi2]
      obtain ⟨x', g', z', q⟩ := r_shut5 hs hw.ne (by simpa using hi2) (d + 1) out g false
      exact ⟨[], x', g', z', At_parse_exprs_many_1_step _ _ _ _ _ _ _ _ _ _ ⟨false, _, r_may0 hs hw.ne hi0, fun hf => (by cases hf), fun _ => ⟨some 5, x', g', z', q, rfl, rfl, rfl, rfl⟩⟩⟩
theorem sp_manyn (e : List UInt8) (h65 : d + 1 ≤ 64) : ∀ b ts2 out2, manyS (n + 1) (d + 1) e ts out = .ok b ts2 out2 → b.length ≤ ts.length := by
  intro b ts2 out2 hb
  simp only [manyS] at hb
  by_cases hi : isS e ts = true
  · rw [if_pos hi] at hb
    cases hb
    simp
  · rw [if_neg hi] at hb
    have h1 := (ih L hL hT ts hs hw out ho (d + 1) h65 0).expr
    cases hc : exprS n (d + 1) ts out with
    | no => rw [hc] at hb; cases hb
    | er e' => rw [hc] at hb; cases hb
    | ok a ts1 out1 =>
      rw [hc] at hb h1
      obtain ⟨s1, w1, l1, o1, _⟩ := h1
      have := (ih L hL hT ts1 s1 w1 out1 (by omega) d hd 0).manyln e [a] h65 b ts2 out2 hb
      simp at this
      omega
theorem sp_manyln (e : List UInt8) (l : List Int) (h65 : d + 1 ≤ 64) : ∀ b ts2 out2, manyL (n + 1) (d + 1) e l ts out = .ok b ts2 out2 → b.length ≤ l.length + ts.length := by
  intro b ts2 out2 hb
  simp only [manyL] at hb
  by_cases hi : isS [44] ts = true
  · rw [if_pos hi] at hb
    have hlen := len_shift hi
    have h1 := (ih L hL hT ts.tail (suf_shift hs) (hw.shift hi) out (by omega) (d + 1) h65 0).expr
    cases hc : exprS n (d + 1) ts.tail out with
    | no => rw [hc] at hb; cases hb
    | er e' => rw [hc] at hb; cases hb
    | ok a ts1 out1 =>
      rw [hc] at hb h1
      obtain ⟨s1, w1, l1, o1, _⟩ := h1
      have := (ih L hL hT ts1 s1 w1 out1 (by omega) d hd 0).manyln e (l ++ [a]) h65 b ts2 out2 hb
      simp at this
      omega
  · rw [if_neg hi] at hb
    simp only [needS] at hb
    split at hb
    · cases hb; omega
    · cases hb
omit hs hw ho in
theorem sp_word {t : Token} {ts : List Token} (hs : (t :: ts) <:+ L) (hw : W (t :: ts)) (ho : out.length + (t :: ts).length ≤ 1000000) (hk : t.Kind = 3) : OkE L (t :: ts) out d d g 1 (20 * (t :: ts).length) (n + 1) R_parse_exprs_word (primS (n + 1) d (t :: ts) out) := by
  have hk0 : t.Kind ≠ 0 := by rw [hk]; decide
  have hs1 := suf_tail hs
  have hw1 := hw.tail hk0
  have q0 := r_name1 hs hL hk
  have hT1 : t.Text.length + 1 ≤ maxInt := by have := hT t (hs.mem (by simp)); simp only [maxInt]; omega
  simp only [List.length_cons] at ho
  simp only [primS, if_pos hk]
  by_cases h1 : t.Text = [116, 114, 117, 101]
  · rw [if_pos h1]
    exact ⟨hs1, hw1, by simp, by simp; omega, parse_exprs_word_tree _ _ _ _ _ _ _ _ ⟨none, _, _, q0, fun _ => ⟨_, _, _, _, r_num _ out _ g 3 1 (by omega), rfl, rfl, rfl, rfl, rfl⟩, fun hf => absurd h1 hf⟩⟩
  rw [if_neg h1]
  by_cases h2 : t.Text = [102, 97, 108, 115, 101]
  · rw [if_pos h2]
    exact ⟨hs1, hw1, by simp, by simp; omega, parse_exprs_word_tree _ _ _ _ _ _ _ _ ⟨none, _, _, q0, fun hf => absurd hf h1, fun _ => ⟨fun _ => ⟨_, _, _, _, r_num _ out _ g 3 0 (by omega), rfl, rfl, rfl, rfl, rfl⟩, fun hf => absurd h2 hf⟩⟩⟩
  rw [if_neg h2]
  by_cases hi : isS [46] ts = true
  · rw [if_pos hi]
    have hlen := len_shift hi
    have hs2 := suf_shift hs1
    have hw2 := hw1.shift hi
    have q1 := r_may1 hs1 hL hi
    cases he : ts.tail with
    | nil => rw [he] at hw2; exact hw2.elim
    | cons u us =>
      rw [he] at hs2 hw2 q1 hlen
      simp only [List.length_cons] at hlen
      have hT2 : t.Text.length + 1 + u.Text.length ≤ maxInt := by have := hT t (hs.mem (by simp)); have := hT u (hs2.mem (by simp)); simp only [maxInt]; omega
      by_cases hu : u.Kind = 3
      · simp only [if_pos hu]
        have hu0 : u.Kind ≠ 0 := by rw [hu]; decide
        exact ⟨suf_tail hs2, hw2.tail hu0, by simp; omega, by simp; omega, parse_exprs_word_tree _ _ _ _ _ _ _ _ ⟨none, _, _, q0, fun hf => absurd hf h1, fun _ => ⟨fun hf => absurd hf h2, fun _ => ⟨true, _, q1, fun _ => ⟨hT1, none, _, _, r_name1 hs2 hL hu, hT2, _, _, _, _, r_put _ out _ g false 4 _ [] (by simp) (by omega), rfl, rfl, rfl, rfl, rfl⟩, fun hf => absurd rfl hf⟩⟩⟩⟩
      · simp only [if_neg hu]
        exact ⟨0, _, _, _, parse_exprs_word_tree _ _ _ _ _ _ _ _ ⟨none, _, _, q0, fun hf => absurd hf h1, fun _ => ⟨fun hf => absurd hf h2, fun _ => ⟨true, _, q1, fun _ => ⟨hT1, some 5, [], _, r_name0 hs2 hu [], rfl, rfl, rfl, rfl⟩, fun hf => absurd rfl hf⟩⟩⟩⟩
  rw [if_neg hi]
  have hi0 : isS [46] ts = false := by simpa using hi
  have q1 := r_may0 hs1 hw1.ne hi0
  simp only [openS]
  by_cases hp : isS [40] ts = true
  · rw [if_pos hp]
    have hlen := len_shift hp
    by_cases h64 : 64 ≤ d
    · rw [if_pos h64]
      obtain ⟨x', g', z', q⟩ := r_open6 hs1 hw1.ne hp h64 out g false
      exact ⟨0, x', g', z', parse_exprs_word_tree _ _ _ _ _ _ _ _ ⟨none, _, _, q0, fun hf => absurd hf h1, fun _ => ⟨fun hf => absurd hf h2, fun _ => ⟨false, _, q1, fun hf => (by cases hf), fun _ => ⟨some 6, x', g', z', q, rfl, rfl, rfl, rfl⟩⟩⟩⟩⟩
    · rw [if_neg h64]
      have q2 := r_open1 hs1 hL hp h64 out g false
      have h3 := (ih L hL hT ts.tail (suf_shift hs1) (hw1.shift hp) out (by omega) d hd g).many [41] (by omega)
      cases hb : manyS n (d + 1) [41] ts.tail out with
      | no => rw [hb] at h3; simp only [PR.bind, OkE, List.length_cons] at h3 ⊢; omega
      | er e =>
        rw [hb] at h3
        obtain ⟨b, x', g', z', q3⟩ := h3
        exact ⟨0, x', g', z', parse_exprs_word_tree _ _ _ _ _ _ _ _ ⟨none, _, _, q0, fun hf => absurd hf h1, fun _ => ⟨fun hf => absurd hf h2, fun _ => ⟨false, _, q1, fun hf => (by cases hf), fun _ => ⟨none, _, _, _, q2, some e, b, x', g', z', q3, rfl, rfl, rfl, rfl⟩⟩⟩⟩⟩
      | ok b ts2 out2 =>
        rw [hb] at h3
        obtain ⟨s2, w2, l2, o2, q3⟩ := h3
        simp only [PR.bind]
        have hbl : b.length ≤ 1000000 := by
          have := (ih L hL hT ts.tail (suf_shift hs1) (hw1.shift hp) out (by omega) d hd g).manyn [41] (by omega) b ts2 out2 hb
          omega
        exact ⟨s2, w2, by simp; omega, by simp; omega, parse_exprs_word_tree _ _ _ _ _ _ _ _ ⟨none, _, _, q0, fun hf => absurd hf h1, fun _ => ⟨fun hf => absurd hf h2, fun _ => ⟨false, _, q1, fun hf => (by cases hf), fun _ => ⟨none, _, _, _, q2, none, b, _, _, _, q3, _, _, _, _, r_put _ out2 _ g false 5 t.Text b hbl (by omega), rfl, rfl, rfl, rfl, rfl⟩⟩⟩⟩⟩
  · rw [if_neg hp]
    obtain ⟨x', g', z', q⟩ := r_open5 hs1 hw1.ne (by simpa using hp) d out g false
    exact ⟨0, x', g', z', parse_exprs_word_tree _ _ _ _ _ _ _ _ ⟨none, _, _, q0, fun hf => absurd hf h1, fun _ => ⟨fun hf => absurd hf h2, fun _ => ⟨false, _, q1, fun hf => (by cases hf), fun _ => ⟨some 5, x', g', z', q, rfl, rfl, rfl, rfl⟩⟩⟩⟩⟩
theorem sp_prim : OkE L ts out d d g 1 (20 * ts.length) (n + 1) R_parse_exprs_prim (primS (n + 1) d ts out) := by
  cases ts with
  | nil => exact hw.elim
  | cons t ts =>
    by_cases hk : t.Kind = 3
    · have h := sp_word ih hL hT hd g hs hw ho hk
      cases hc : primS (n + 1) d (t :: ts) out with
      | no => rw [hc] at h; exact h
      | er e =>
        rw [hc] at h
        obtain ⟨a, x', g', z', q⟩ := h
        exact ⟨a, x', g', z', parse_exprs_prim_tree _ _ _ _ _ _ _ _ ⟨t, _, r_now hs, fun _ => ⟨some e, a, x', g', z', q, rfl, rfl, rfl, rfl⟩, fun hf => absurd hk hf⟩⟩
      | ok a ts1 out1 =>
        rw [hc] at h
        obtain ⟨s1, w1, l1, o1, q⟩ := h
        exact ⟨s1, w1, l1, o1, parse_exprs_prim_tree _ _ _ _ _ _ _ _ ⟨t, _, r_now hs, fun _ => ⟨none, a, _, _, _, q, rfl, rfl, rfl, rfl, rfl⟩, fun hf => absurd hk hf⟩⟩
    · have hI : I64 ((pt L (t :: ts)).pos + 1) := by simp only [pt, I64]; omega
      have ho1 : out.length ≤ 1000000 := by omega
      have hlc : (t :: ts).length = ts.length + 1 := rfl
      simp only [primS, if_neg hk]
      by_cases h1 : t.Kind = 1
      · rw [if_pos h1]
        have hk0 : t.Kind ≠ 0 := by rw [h1]; decide
        refine ⟨suf_tail hs, hw.tail hk0, by simp, by simp; omega, parse_exprs_prim_tree _ _ _ _ _ _ _ _ ⟨t, _, r_now hs, fun hf => absurd hf hk, fun _ => ⟨fun _ => ⟨hI, _, _, _, _, r_num _ out _ g 1 t.Num ho1, rfl, rfl, ?_, rfl, rfl⟩, fun hf => absurd h1 hf⟩⟩⟩
        rw [pt_next hs]
        rfl
      rw [if_neg h1]
      by_cases h2 : t.Kind = 2
      · rw [if_pos h2]
        have hk0 : t.Kind ≠ 0 := by rw [h2]; decide
        refine ⟨suf_tail hs, hw.tail hk0, by simp, by simp; omega, parse_exprs_prim_tree _ _ _ _ _ _ _ _ ⟨t, _, r_now hs, fun hf => absurd hf hk, fun _ => ⟨fun hf => absurd hf h1, fun _ => ⟨fun _ => ⟨hI, _, _, _, _, r_put _ out _ g false 2 [] [] (by simp) ho1, by omega, by simp, rfl, nd 2 [] [], by simp, rfl, rfl, ?_, rfl, rfl⟩, fun hf => absurd h2 hf⟩⟩⟩⟩
        rw [pt_next hs]
        simp [pe, nd]
      rw [if_neg h2]
      by_cases hi : isS [91] (t :: ts) = true
      · rw [if_pos hi]
        simp only [openS, if_pos hi]
        have hlen := len_shift hi
        by_cases h64 : 64 ≤ d
        · rw [if_pos h64]
          obtain ⟨x', g', z', q⟩ := r_open6 hs hw.ne hi h64 out g false
          exact ⟨0, x', g', z', parse_exprs_prim_tree _ _ _ _ _ _ _ _ ⟨t, _, r_now hs, fun hf => absurd hf hk, fun _ => ⟨fun hf => absurd hf h1, fun _ => ⟨fun hf => absurd hf h2, fun _ => ⟨true, _, r_is1 hs hi, fun _ => ⟨some 6, x', g', z', q, rfl, rfl, rfl, rfl⟩, fun hf => absurd rfl hf⟩⟩⟩⟩⟩
        · rw [if_neg h64]
          have q2 := r_open1 hs hL hi h64 out g false
          have h3 := (ih L hL hT (t :: ts).tail (suf_shift hs) (hw.shift hi) out (by omega) d hd g).many [93] (by omega)
          cases hb : manyS n (d + 1) [93] (t :: ts).tail out with
          | no => rw [hb] at h3; simp only [PR.bind, OkE] at h3 ⊢; omega
          | er e =>
            rw [hb] at h3
            obtain ⟨b, x', g', z', q3⟩ := h3
            exact ⟨0, x', g', z', parse_exprs_prim_tree _ _ _ _ _ _ _ _ ⟨t, _, r_now hs, fun hf => absurd hf hk, fun _ => ⟨fun hf => absurd hf h1, fun _ => ⟨fun hf => absurd hf h2, fun _ => ⟨true, _, r_is1 hs hi, fun _ => ⟨none, _, _, _, q2, some e, b, x', g', z', q3, rfl, rfl, rfl, rfl⟩, fun hf => absurd rfl hf⟩⟩⟩⟩⟩
          | ok b ts2 out2 =>
            have hbl : b.length ≤ 1000000 := by
              have := (ih L hL hT (t :: ts).tail (suf_shift hs) (hw.shift hi) out (by omega) d hd 0).manyn [93] (by omega) b ts2 out2 hb
              omega
            rw [hb] at h3
            obtain ⟨s2, w2, l2, o2, q3⟩ := h3
            simp only [PR.bind]
            exact ⟨s2, w2, by omega, by simp only [List.length_append, List.length_cons, List.length_nil] at *; omega, parse_exprs_prim_tree _ _ _ _ _ _ _ _ ⟨t, _, r_now hs, fun hf => absurd hf hk, fun _ => ⟨fun hf => absurd hf h1, fun _ => ⟨fun hf => absurd hf h2, fun _ => ⟨true, _, r_is1 hs hi, fun _ => ⟨none, _, _, _, q2, none, b, _, _, _, q3, _, _, _, _, r_put _ out2 _ g false 6 [] b hbl (by omega), rfl, rfl, rfl, rfl, rfl⟩, fun hf => absurd rfl hf⟩⟩⟩⟩⟩
      · rw [if_neg hi]
        have hi0 : isS [91] (t :: ts) = false := by simpa using hi
        simp only [openS]
        by_cases hp : isS [40] (t :: ts) = true
        · rw [if_pos hp]
          have hlen := len_shift hp
          by_cases h64 : 64 ≤ d
          · rw [if_pos h64]
            obtain ⟨x', g', z', q⟩ := r_open6 hs hw.ne hp h64 out g false
            exact ⟨0, x', g', z', parse_exprs_prim_tree _ _ _ _ _ _ _ _ ⟨t, _, r_now hs, fun hf => absurd hf hk, fun _ => ⟨fun hf => absurd hf h1, fun _ => ⟨fun hf => absurd hf h2, fun _ => ⟨false, _, r_is0 hs hw.ne hi0, fun hf => (by cases hf), fun _ => ⟨some 6, x', g', z', q, rfl, rfl, rfl, rfl⟩⟩⟩⟩⟩⟩
          · rw [if_neg h64]
            have q2 := r_open1 hs hL hp h64 out g false
            have h3 := (ih L hL hT (t :: ts).tail (suf_shift hs) (hw.shift hp) out (by omega) (d + 1) (by omega) g).expr
            cases hb : exprS n (d + 1) (t :: ts).tail out with
            | no => rw [hb] at h3; simp only [PR.bind, OkE] at h3 ⊢; omega
            | er e =>
              rw [hb] at h3
              obtain ⟨b, x', g', z', q3⟩ := h3
              exact ⟨0, x', g', z', parse_exprs_prim_tree _ _ _ _ _ _ _ _ ⟨t, _, r_now hs, fun hf => absurd hf hk, fun _ => ⟨fun hf => absurd hf h1, fun _ => ⟨fun hf => absurd hf h2, fun _ => ⟨false, _, r_is0 hs hw.ne hi0, fun hf => (by cases hf), fun _ => ⟨none, _, _, _, q2, some e, b, x', g', z', q3, rfl, rfl, rfl, rfl⟩⟩⟩⟩⟩⟩
            | ok b ts2 out2 =>
              rw [hb] at h3
              obtain ⟨s2, w2, l2, o2, q3⟩ := h3
              simp only [PR.bind, needS]
              by_cases hi2 : isS [41] ts2 = true
              · rw [if_pos hi2]
                have hlen2 := len_shift hi2
                exact ⟨suf_shift s2, w2.shift hi2, by omega, by omega, parse_exprs_prim_tree _ _ _ _ _ _ _ _ ⟨t, _, r_now hs, fun hf => absurd hf hk, fun _ => ⟨fun hf => absurd hf h1, fun _ => ⟨fun hf => absurd hf h2, fun _ => ⟨false, _, r_is0 hs hw.ne hi0, fun hf => (by cases hf), fun _ => ⟨none, _, _, _, q2, none, b, _, _, _, q3, none, _, _, _, r_shut1 s2 hL hi2 (d := d) (by omega) out2 g false, rfl, rfl, rfl, rfl, rfl⟩⟩⟩⟩⟩⟩
              · rw [if_neg hi2]
                obtain ⟨x', g', z', q⟩ := r_shut5 s2 w2.ne (by simpa using hi2) (d + 1) out2 g false
                exact ⟨0, x', g', z', parse_exprs_prim_tree _ _ _ _ _ _ _ _ ⟨t, _, r_now hs, fun hf => absurd hf hk, fun _ => ⟨fun hf => absurd hf h1, fun _ => ⟨fun hf => absurd hf h2, fun _ => ⟨false, _, r_is0 hs hw.ne hi0, fun hf => (by cases hf), fun _ => ⟨none, _, _, _, q2, none, b, _, _, _, q3, some 5, x', g', z', q, rfl, rfl, rfl, rfl⟩⟩⟩⟩⟩⟩
        · rw [if_neg hp]
          obtain ⟨x', g', z', q⟩ := r_open5 hs hw.ne (by simpa using hp) d out g false
          exact ⟨0, x', g', z', parse_exprs_prim_tree _ _ _ _ _ _ _ _ ⟨t, _, r_now hs, fun hf => absurd hf hk, fun _ => ⟨fun hf => absurd hf h1, fun _ => ⟨fun hf => absurd hf h2, fun _ => ⟨false, _, r_is0 hs hw.ne hi0, fun hf => (by cases hf), fun _ => ⟨some 5, x', g', z', q, rfl, rfl, rfl, rfl⟩⟩⟩⟩⟩⟩
end
/-- The parser's expressions are what the functions say. -/
theorem sp_all : ∀ n, SpA n
  | 0 => sp_zero
  | n + 1 => fun L hL hT ts hs hw out ho d hd g =>
    have ih := sp_all n
    ⟨sp_expr ih hL hT hs hw ho hd g, sp_chain ih hL hT hs hw ho hd g, sp_loop ih hL hT hs hw ho hd g, sp_un ih hL hT hs hw ho hd g, sp_post ih hL hT hs hw ho hd g, sp_postl ih hL hT hs hw ho hd g, sp_many ih hL hT hs hw ho hd g, sp_manyl ih hL hT hs hw ho hd g, sp_prim ih hL hT hs hw ho hd g, sp_manyn ih hL hT hs hw ho hd, sp_manyln ih hL hT hs hw ho hd⟩
end Go.Proofs.YtfbcnpbhhooapaaGreatDoor.M

/- Trees of functions, printed by a program of this session (lift.py): what a run asks, over plain data. Lean proves each. -/
namespace Go.Proofs.YtfbcnpbhhooapaaGreatDoor.M
set_option linter.unusedSimpArgs false
set_option linter.unusedVariables false
open Go Classical
theorem sp_parse_Parse_1 : SP 37 = some (.code sc_parse_Parse_1) := SPof_code rfl Tryz.func37 comp_parse_Parse_1
/-! doorkeeper/parse.Parse$1 -/
def At_parse_Parse_1_1 (b1 : PBlocks) (g2 : Nat) (z3 : Bool) (c0_4 : List Block) (g5 : Nat) (z6 : Bool) (o : Option Int) (b' : PBlocks) (b'_g2 : Nat) (b'_z2 : Bool) (c0_' : List Block) (c0_'_g0 : Nat) (c0_'_z0 : Bool) : Prop := ∀ (S : Sto) (e : Nat → PV) (f : Fr) (n0 t0 : Nat) (n1 t1 : Nat), ((getBox S n0 t0).map (List.take 4) = some [.list 5 (b1.exprs.tokens.l.map eToken) false, .int .i64 b1.exprs.tokens.pos, .sl 0 (.cell t0 2) 0 b1.exprs.out.length b1.exprs.out.length g2 false, .int .i64 b1.exprs.deep] ∧ getArr S n0 (.cell t0 2) = some ⟨5, b1.exprs.out.map eNode, z3, g2⟩) → ((getBox S n1 t1).map (List.take 1) = some [.sl 0 (.cell t1 0) 0 c0_4.length c0_4.length g5 false] ∧ getArr S n1 (.cell t1 0) = some ⟨4, c0_4.map eBlock, z6, g5⟩) → (n0 ≠ n1) → e 0 = .ptr (n0 + 1) t0 0 ∧ e 1 = .ptr (n1 + 1) t1 0 → k_parse_Parse_1_1 SP (E SP (.loop b_parse_Parse_1_1) ⟨e, f :: S⟩) = po 116 o (.v (.tup [])) (setArr (setBox (setArr (setBox S n0 t0 ([.list 5 (b'.exprs.tokens.l.map eToken) false, .int .i64 b'.exprs.tokens.pos, .sl 0 (.cell t0 2) 0 b'.exprs.out.length b'.exprs.out.length b'_g2 false, .int .i64 b'.exprs.deep] ++ ((getBox S n0 t0).getD []).drop 4)) n0 (.cell t0 2) ⟨5, b'.exprs.out.map eNode, b'_z2, b'_g2⟩) n1 t1 ([.sl 0 (.cell t1 0) 0 c0_'.length c0_'.length c0_'_g0 false] ++ ((getBox (setArr (setBox S n0 t0 ([.list 5 (b'.exprs.tokens.l.map eToken) false, .int .i64 b'.exprs.tokens.pos, .sl 0 (.cell t0 2) 0 b'.exprs.out.length b'.exprs.out.length b'_g2 false, .int .i64 b'.exprs.deep] ++ ((getBox S n0 t0).getD []).drop 4)) n0 (.cell t0 2) ⟨5, b'.exprs.out.map eNode, b'_z2, b'_g2⟩) n1 t1).getD []).drop 1)) n1 (.cell t1 0) ⟨4, c0_'.map eBlock, c0_'_z0, c0_'_g0⟩)
set_option maxHeartbeats 4000000 in
theorem At_parse_Parse_1_1_step (b1 : PBlocks) (g2 : Nat) (z3 : Bool) (c0_4 : List Block) (g5 : Nat) (z6 : Bool) (o : Option Int) (b' : PBlocks) (b'_g2 : Nat) (b'_z2 : Bool) (c0_' : List Block) (c0_'_g0 : Nat) (c0_'_z0 : Bool) (T :
  ∃ (r7 : Token) (y8 : PTokens), (R_parse_tokens_now b1.exprs.tokens r7 y8) ∧
 ((r7.Kind = 0) →
  none = o ∧ (PBlocks.mk (PExprs.mk y8 b1.exprs.out b1.exprs.deep)) = b' ∧ g2 = b'_g2 ∧ z3 = b'_z2 ∧ c0_4 = c0_' ∧ g5 = c0_'_g0 ∧ z6 = c0_'_z0) ∧
 (¬ (r7.Kind = 0) →
  ∃ (o10 : Option Int) (r9 : Block) (y11 : PBlocks) (g12 : Nat) (z13 : Bool), (R_parse_blocks_block (PBlocks.mk (PExprs.mk y8 b1.exprs.out b1.exprs.deep)) g2 z3 false o10 r9 y11 g12 z13) ∧
  (match o10 with
  | none => ((bigRow (c0_4.length + 1) 72) ∧
   (c0_4.length < c0_4.length + 1) ∧
   (z6 = false) ∧
   ∃ (v15 : Block), ((c0_4 ++ [(Block.mk 0 [] [] [])])[c0_4.length]? = some v15) ∧
   At_parse_Parse_1_1 y11 g12 z13 ((c0_4 ++ [(Block.mk 0 [] [] [])]).set c0_4.length r9) g5 z6 o b' b'_g2 b'_z2 c0_' c0_'_g0 c0_'_z0)
  | some e14 => (some e14 = o ∧ y11 = b' ∧ g12 = b'_g2 ∧ z13 = b'_z2 ∧ c0_4 = c0_' ∧ g5 = c0_'_g0 ∧ z6 = c0_'_z0)))) : At_parse_Parse_1_1 b1 g2 z3 c0_4 g5 z6 o b' b'_g2 b'_z2 c0_' c0_'_g0 c0_'_z0 := by
 intro S e f n0 t0 n1 t1 H0 H1 Hn h
 obtain ⟨hb0, ha0⟩ := H0
 have hne := two_ne Hn
 obtain ⟨w0, hB0⟩ := take_some hb0
 have hn0 := o_getBox_lt hB0
 obtain ⟨hb1, ha1⟩ := H1
 obtain ⟨w1, hB1⟩ := take_some hb1
 have hn1 := o_getBox_lt hB1
 unfold k_parse_Parse_1_1
 rw [E_loop]
 have F := U_parse_Parse_1
 obtain ⟨r7, y8, q1, T⟩ := T
 simp only [R_parse_tokens_now, le, List.cons_append, List.nil_append] at q1
 replace F := aa ha0 <| aa hne <| aa hB0 <| aa hn0 <| aa ha1 <| aa hB1 <| aa hn1 <| aa h <| aa q1 <| F
 by_cases c2 : r7.Kind = 0
 · replace T := T.1 c2
   obtain ⟨rfl, rfl, rfl, rfl, rfl, rfl, rfl⟩ := T
   exact fi (aa (eq_true c2) <| F)
 · replace T := T.2 c2
   obtain ⟨o10, r9, y11, g12, z13, q3, T⟩ := T
   simp only [R_parse_blocks_block, le, List.cons_append, List.nil_append] at q3
   replace F := aa (eq_false c2) <| aa q3 <| F
   cases o10 with
   | none =>
     dsimp only at T
     obtain ⟨p4, p5, p6, v15, q7, T⟩ := T
     simp only [bigRow] at p4
     replace q7 := congrArg (Option.map eBlock) q7
     rw [← List.getElem?_map] at q7
     simp only [le, List.map_append, Option.map_some] at q7
     replace F := aa p4 <| aa p5 <| aa p6 <| aa q7 <| F
     try simp only [F, lw, lx, le, Nat.reduceMul, UInt8.reduceToNat, reduceIte, reduceCtorEq, Nat.reduceEqDiff, Nat.reduceAdd, Nat.reduceLeDiff, Nat.reduceSub, Nat.reduceLT, Int.reduceEq, Int.reduceLT, Int.reduceLE, Int.reduceToNat, Int.reduceAdd, Int.reduceSub, Int.reduceMul, Int.reduceNeg]
     refine (T _ _ _ n0 t0 n1 t1 ?_ ?_ Hn ?_).trans ?_
     all_goals exact fi F
   | some e14 =>
     dsimp only at T
     obtain ⟨rfl, rfl, rfl, rfl, rfl, rfl, rfl⟩ := T
     exact fi F
set_option maxHeartbeats 4000000 in
theorem parse_Parse_1_tree (b : PBlocks) (b_g2 : Nat) (b_z2 : Bool) (c0_ : List Block) (c0__g0 : Nat) (c0__z0 : Bool) (o : Option Int) (b' : PBlocks) (b'_g2 : Nat) (b'_z2 : Bool) (c0_' : List Block) (c0_'_g0 : Nat) (c0_'_z0 : Bool) (T :
  At_parse_Parse_1_1 b b_g2 b_z2 c0_ c0__g0 c0__z0 o b' b'_g2 b'_z2 c0_' c0_'_g0 c0_'_z0) : R_parse_Parse_1 b b_g2 b_z2 c0_ c0__g0 c0__z0 o b' b'_g2 b'_z2 c0_' c0_'_g0 c0_'_z0 := by
 intro S n0 t0 n1 t1 H0 H1 Hn
 obtain ⟨hb0, ha0⟩ := H0
 have hne := two_ne Hn
 obtain ⟨w0, hB0⟩ := take_some hb0
 have hn0 := o_getBox_lt hB0
 obtain ⟨hb1, ha1⟩ := H1
 obtain ⟨w1, hB1⟩ := take_some hb1
 have hn1 := o_getBox_lt hB1
 rw [call_code sp_parse_Parse_1 _ _ rfl]
 have F := U_parse_Parse_1
 replace F := aa ha0 <| aa hne <| aa hB0 <| aa hn0 <| aa ha1 <| aa hB1 <| aa hn1 <| F
 try simp only [F, lw, lx, le, Nat.reduceMul, UInt8.reduceToNat, reduceIte, reduceCtorEq, Nat.reduceEqDiff, Nat.reduceAdd, Nat.reduceLeDiff, Nat.reduceSub, Nat.reduceLT, Int.reduceEq, Int.reduceLT, Int.reduceLE, Int.reduceToNat, Int.reduceAdd, Int.reduceSub, Int.reduceMul, Int.reduceNeg]
 refine (T _ _ _ n0 t0 n1 t1 ?_ ?_ Hn ?_).trans ?_
 all_goals exact fi F
/-! doorkeeper/parse.Expr$1 -/
end Go.Proofs.YtfbcnpbhhooapaaGreatDoor.M

/- Parse: what parse.reading does with a closure: a panic that is recovered is its result; parse.Parse, parse.Expr. -/
namespace Go.Proofs.YtfbcnpbhhooapaaGreatDoor.M
set_option linter.unusedSimpArgs false
set_option linter.unusedVariables false
open Go Classical
theorem recB_nor {r : RecF} {ops post : Ac → EO} {ac : Ac} : recB r ops post (.nor ac) = recA r (ac.e r.t0 = .ptr 0 r.t0 0) post (ops (ac.put (some r.d) .junk)) := rfl
theorem recB_ret {r : RecF} {ops post : Ac → EO} {ac : Ac} : recB r ops post (.ret ac) = retOf r.res ac := rfl
theorem recA_nor {r : RecF} {b : Prop} {post : Ac → EO} {ac : Ac} : recA r b post (.nor ac) = recC r.res (post ac) := rfl
theorem recA_pan {r : RecF} {b : Prop} {post : Ac → EO} {v : PV} {S : Sto} : recA r b post (.pan v S) = recV r b v S := rfl
theorem recC_nor {res : List RX} {ac : Ac} : recC res (.nor ac) = retOf res ac := rfl
theorem recC_ret {res : List RX} {ac : Ac} : recC res (.ret ac) = retOf res ac := rfl
theorem recV_eq {r : RecF} {b : Prop} {t : Nat} {k : IntKind} {n : Int} {S : Sto} : recV r b (.iface t (.int k n)) S = if b ∧ t = r.T then (match storeP S 1 (.ptr 0 r.t0 0) (.int k n) with | some S => retOf r.res ⟨upd (fun _ => .junk) r.t0 (.ptr 0 r.t0 0), S⟩ | none => .bad) else .bad := rfl
/-- What the parser has at its start. -/
def pb0 (L : List Token) : PBlocks := .mk (.mk (.mk L 0) [] 0)
theorem rd_no {s : List UInt8} {L : List Token} {e : Int} (hl : R_lex_Lex s L e) (he : ¬ e = 0) (c : PV) (hc : PV.dn c.up = some c) (g : Nat) (S : Sto) : call SP 36 [.str s, .func g [c]] S = .ok (.v (.int .i64 e)) S := by
  rw [call_rec sp_parse_reading _ _ rfl]
  simp only [R_lex_Lex] at hl
  have F := aa hl <| aa (eq_false he) <| aa @recB_nor <| aa @recB_ret <| aa @recA_nor <| aa @recA_pan <| aa @recC_nor <| aa @recC_ret <| aa @recV_eq <| rcv_parse_reading.eq_1
  exact fi F
theorem rd_Parse {s : List UInt8} {L : List Token} (hl : R_lex_Lex s L 0) {t g : Nat} {f : Fr} {S : Sto} (hb : f.box t = some [.sl 0 (.cell t 0) 0 0 0 g false]) (ha : f.arr (.cell t 0) = some ⟨4, [], false, g⟩) {o : Option Int} {b' : PBlocks} {bg : Nat} {bz : Bool} {l : List Block} {lg : Nat} {lz : Bool}
    (hc : R_parse_Parse_1 (pb0 L) 0 false [] g false o b' bg bz l lg lz) :
    call SP 36 [.str s, .func 37 [.ptr 0 t 0]] (f :: S) = .ok (.v (.int .i64 (o.getD 0))) (setArr (setBox (f :: S) 0 t [.sl 0 (.cell t 0) 0 l.length l.length lg false]) 0 (.cell t 0) ⟨4, l.map eBlock, lz, lg⟩) := by
  rw [call_rec sp_parse_reading _ _ rfl]
  simp only [R_lex_Lex] at hl
  simp only [R_parse_Parse_1, pb0, le, List.cons_append, List.nil_append] at hc
  have F := aa hl <| aa hb <| aa ha <| aa hc <| aa @recB_nor <| aa @recB_ret <| aa @recA_nor <| aa @recA_pan <| aa @recC_nor <| aa @recC_ret <| aa @recV_eq <| rcv_parse_reading.eq_1
  cases o with
  | none => exact fi F
  | some e => exact fi F
theorem sp_parse_Parse : SP 17 = some (.code sc_parse_Parse) := SPof_code rfl Tryz.func17 comp_parse_Parse
theorem r_Parse_no {s : List UInt8} {L : List Token} {e : Int} (hl : R_lex_Lex s L e) (he : ¬ e = 0) : R_parse_Parse s [] e := by
  intro S
  have h := fun S => rd_no hl he (.ptr 0 4 0) rfl 37 S
  rw [call_code sp_parse_Parse _ _ rfl]
  exact fi (aa h <| aa (eq_false he) <| U_parse_Parse)
theorem r_Parse_of {s : List UInt8} {L : List Token} (hl : R_lex_Lex s L 0) {o : Option Int} {b' : PBlocks} {bg : Nat} {bz : Bool} {l : List Block} {lg : Nat} {lz : Bool}
    (hc : R_parse_Parse_1 (pb0 L) 0 false [] 0 false o b' bg bz l lg lz) : R_parse_Parse s (if o.getD 0 = 0 then l else []) (o.getD 0) := by
  intro S
  have h := fun (f : Fr) (h1 : f.box 4 = some [.sl 0 (.cell 4 0) 0 0 0 0 false]) (h2 : f.arr (.cell 4 0) = some ⟨4, [], false, 0⟩) => rd_Parse (S := S) hl h1 h2 hc
  rw [call_code sp_parse_Parse _ _ rfl]
  by_cases he : o.getD 0 = 0
  · exact fi (aa h <| aa he <| U_parse_Parse)
  · exact fi (aa h <| aa (eq_false he) <| U_parse_Parse)
end Go.Proofs.YtfbcnpbhhooapaaGreatDoor.M

/- Parse: attributes, blocks, configurations: as functions; the parser follows them. -/
namespace Go.Proofs.YtfbcnpbhhooapaaGreatDoor.M
set_option linter.unusedSimpArgs false
set_option linter.unusedVariables false
open Go Classical
/-- A whole expression: its nodes. -/
def wholeS (N : Nat) (ts : List Token) : PR (List Node) :=
  match exprS N 0 ts [] with
  | .ok _ ts out => .ok out ts []
  | .er e => .er e
  | .no => .no
def labS (lab : List UInt8 → Bool) : List Token → PR (List UInt8)
  | [] => .no
  | t :: ts => if t.Kind = 2 then (match t.Parts with | [p] => if p.Ref = true then .er 5 else if lab p.Text = true then .ok p.Text ts [] else .er 5 | _ => .er 5) else .er 5
def attrsS (N : Nat) : Nat → List Attr → List Token → PR (List Attr)
  | 0, _, _ => .no
  | _ + 1, _, [] => .no
  | n + 1, acc, t :: ts =>
    if isS [125] (t :: ts) = true then .ok acc ts []
    else if t.Kind = 3 then
      if acc.any (fun a => decide (a.Name = t.Text)) = true then .er 3
      else needS [61] ts fun ts => (wholeS N ts).bind fun nodes ts _ => attrsS N n (acc ++ [⟨t.Text, nodes⟩]) ts
    else .er 5
def bodyS (N : Nat) (ts : List Token) : PR (List Attr) := needS [123] ts fun ts => attrsS N N [] ts
def wordsS : List (List UInt8) := [[118, 97, 114, 105, 97, 98, 108, 101], [108, 111, 99, 97, 108, 115], [110, 111, 100, 101], [109, 111, 100, 117, 108, 101], [100, 101, 102, 105, 110, 101]]
/-- A block that holds attributes; i: which of the words it begins with. -/
def plainS (lab : List UInt8 → Bool) (N i : Nat) (ts : List Token) : PR Block :=
  if i = 1 then (bodyS N ts).bind fun as_ ts _ => .ok ⟨2, [], as_, []⟩ ts []
  else (labS lab ts).bind fun l ts _ => (bodyS N ts).bind fun as_ ts _ => .ok ⟨1 + (i : Int), l, as_, []⟩ ts []
def blkIn (lab : List UInt8 → Bool) (N : Nat) : List Token → PR Block
  | [] => .no
  | t :: ts => if t.Kind = 3 then (match idxS t.Text wordsS 0 with | none => .er 5 | some i => if i = 4 then .er 5 else plainS lab N i ts) else .er 5
def blksS (lab : List UInt8 → Bool) (N : Nat) : Nat → List Block → List Token → PR (List Block)
  | 0, _, _ => .no
  | n + 1, acc, ts => if isS [125] ts = true then .ok acc ts.tail [] else (blkIn lab N ts).bind fun b ts _ => blksS lab N n (acc ++ [b]) ts
def blkS (lab : List UInt8 → Bool) (N : Nat) : List Token → PR Block
  | [] => .no
  | t :: ts => if t.Kind = 3 then (match idxS t.Text wordsS 0 with | none => .er 5 | some i => if i = 4 then (labS lab ts).bind fun l ts _ => needS [123] ts fun ts => (blksS lab N N [] ts).bind fun bs ts _ => .ok ⟨5, l, [], bs⟩ ts [] else plainS lab N i ts) else .er 5
def confS (lab : List UInt8 → Bool) (N : Nat) : Nat → List Block → List Token → PR (List Block)
  | 0, _, _ => .no
  | _ + 1, _, [] => .no
  | n + 1, acc, t :: ts => if t.Kind = 0 then .ok acc (t :: ts) [] else (blkS lab N (t :: ts)).bind fun b ts _ => confS lab N n (acc ++ [b]) ts
/-- What tokens are like. -/
structure TL (L : List Token) : Prop where
  len : L.length ≤ 1000000
  text : ∀ t ∈ L, t.Text.length ≤ 1000000
  part : ∀ t ∈ L, ∀ p ∈ t.Parts, p.Text.length ≤ 1000000
def pb (L ts : List Token) (out : List Node) : PBlocks := ⟨pe L ts out 0⟩
def OkP {α : Type} (L ts : List Token) (c : Nat) (R : PBlocks → Nat → Bool → Option Int → α → PBlocks → Nat → Bool → Prop) : PR α → Prop
  | .ok a ts' _ => ts' <:+ L ∧ W ts' ∧ ts'.length + c ≤ ts.length ∧ ∀ out g z, ∃ out' g' z', R (pb L ts out) g z none a (pb L ts' out') g' z'
  | .er e => ∀ out g z, ∃ a x' g' z', R (pb L ts out) g z (some e) a x' g' z'
  | .no => False
section
variable {L ts : List Token} (hT : TL L) (hs : ts <:+ L) (hw : W ts)
include hT hs hw
theorem r_whole {N : Nat} (hN : 20 * ts.length + 10 ≤ N) : match wholeS N ts with
    | .ok nodes ts' _ => ts' <:+ L ∧ W ts' ∧ ts'.length + 1 ≤ ts.length ∧ ∀ out g z, ∃ g' z', R_parse_exprs_whole (pe L ts out 0) g z none nodes (pe L ts' nodes 0) g' z'
    | .er e => ∀ out g z, ∃ a x' g' z', R_parse_exprs_whole (pe L ts out 0) g z (some e) a x' g' z'
    | .no => False := by
  have h := fun g => (sp_all N L hT.len hT.text ts hs hw [] (by have := suf_len hs; have := hT.len; simp; omega) 0 (by omega) g).expr
  simp only [wholeS]
  cases hc : exprS N 0 ts [] with
  | no => have := h 0; rw [hc] at this; simp only [OkE] at this; omega
  | er e =>
    intro out g z
    have := h (g + 1)
    rw [hc] at this
    obtain ⟨a, x', g', z', q⟩ := this
    exact ⟨[], x', g', z', parse_exprs_whole_tree _ _ _ _ _ _ _ _ ⟨some e, a, x', g', z', q, rfl, rfl, rfl, rfl⟩⟩
  | ok a ts1 out1 =>
    have h0 := h 0
    rw [hc] at h0
    obtain ⟨s1, w1, l1, o1, _⟩ := h0
    refine ⟨s1, w1, l1, fun out g z => ?_⟩
    have := h (g + 1)
    rw [hc] at this
    obtain ⟨_, _, _, _, q⟩ := this
    exact ⟨_, _, parse_exprs_whole_tree _ _ _ _ _ _ _ _ ⟨none, a, _, _, _, q, rfl, rfl, rfl, rfl, rfl⟩⟩
theorem r_lab {lab : List UInt8 → Bool} (hl : ∀ s, s.length ≤ 1000000 → R_lex_Label s (lab s)) : OkP L ts 1 R_parse_blocks_label (labS lab ts) := by
  cases ts with
  | nil => exact hw.elim
  | cons t ts =>
    have hI : I64 ((pt L (t :: ts)).pos + 1) := by have := suf_len hs; have := hT.len; simp only [pt, I64]; omega
    simp only [labS]
    by_cases h2 : t.Kind = 2
    · rw [if_pos h2]
      have hk0 : t.Kind ≠ 0 := by rw [h2]; decide
      match hp : t.Parts with
      | [] => exact fun out g z => ⟨[], _, _, _, parse_blocks_label_tree _ _ _ _ _ _ _ _ ⟨t, _, r_now hs, fun _ => ⟨fun hf => absurd hf (by rw [hp]; decide), fun _ => ⟨_, _, r_fail _ _, rfl, rfl, rfl, rfl⟩⟩, fun hf => absurd h2 hf⟩⟩
      | p :: q :: l => exact fun out g z => ⟨[], _, _, _, parse_blocks_label_tree _ _ _ _ _ _ _ _ ⟨t, _, r_now hs, fun _ => ⟨fun hf => absurd hf (by rw [hp]; simp only [List.length_cons]; omega), fun _ => ⟨_, _, r_fail _ _, rfl, rfl, rfl, rfl⟩⟩, fun hf => absurd h2 hf⟩⟩
      | [p] =>
        have h1 : ((t.Parts.length : Nat) : Int) = 1 := by rw [hp]; rfl
        have hg : t.Parts[0]? = some p := by rw [hp]; rfl
        simp only
        by_cases hr : p.Ref = true
        · rw [if_pos hr]
          exact fun out g z => ⟨[], _, _, _, parse_blocks_label_tree _ _ _ _ _ _ _ _ ⟨t, _, r_now hs, fun _ => ⟨fun _ => ⟨p, hg, fun _ => ⟨_, _, r_fail _ _, rfl, rfl, rfl, rfl⟩, fun hf => absurd hr hf⟩, fun hf => absurd h1 hf⟩, fun hf => absurd h2 hf⟩⟩
        · rw [if_neg hr]
          have hlb := hl p.Text (hT.part t (hs.mem (by simp)) p (by rw [hp]; simp))
          by_cases hb : lab p.Text = true
          · rw [if_pos hb]
            rw [hb] at hlb
            refine ⟨suf_tail hs, hw.tail hk0, by simp, fun out g z => ⟨out, g, z, parse_blocks_label_tree _ _ _ _ _ _ _ _ ⟨t, _, r_now hs, fun _ => ⟨fun _ => ⟨p, hg, fun hf => absurd hf hr, fun _ => ⟨true, hlb, fun _ => ⟨hI, rfl, rfl, ?_, rfl, rfl⟩, fun hf => absurd rfl hf⟩⟩, fun hf => absurd h1 hf⟩, fun hf => absurd h2 hf⟩⟩⟩
            rw [pt_next hs]
            rfl
          · rw [if_neg hb]
            rw [show lab p.Text = false by simpa using hb] at hlb
            exact fun out g z => ⟨[], _, _, _, parse_blocks_label_tree _ _ _ _ _ _ _ _ ⟨t, _, r_now hs, fun _ => ⟨fun _ => ⟨p, hg, fun hf => absurd hf hr, fun _ => ⟨false, hlb, fun hf => (by cases hf), fun _ => ⟨_, _, r_fail _ _, rfl, rfl, rfl, rfl⟩⟩⟩, fun hf => absurd h1 hf⟩, fun hf => absurd h2 hf⟩⟩
    · rw [if_neg h2]
      exact fun out g z => ⟨[], _, _, _, parse_blocks_label_tree _ _ _ _ _ _ _ _ ⟨t, _, r_now hs, fun hf => absurd hf h2, fun _ => ⟨_, _, r_fail _ _, rfl, rfl, rfl, rfl⟩⟩⟩
end
theorem r_attrs_b {L : List Token} (hT : TL L) {N : Nat} (hN : 20 * L.length + 10 ≤ N) : ∀ (n : Nat) (acc : List Attr) (ts : List Token), ts <:+ L → W ts → ts.length < n → acc.length + ts.length ≤ 1000000 → OkP L ts 0 (At_parse_blocks_body_1b acc) (attrsS N n acc ts)
  | 0, _, _, _, _, h, _ => absurd h (Nat.not_lt_zero _)
  | n + 1, acc, ts, hs, hw, hn, hal => by
    cases ts with
    | nil => exact hw.elim
    | cons t ts =>
      have hlc : (t :: ts).length = ts.length + 1 := rfl
      have hll := suf_len hs
      have hLl := hT.len
      simp only [attrsS]
      by_cases hi : isS [125] (t :: ts) = true
      · rw [if_pos hi]
        have hw1 := hw.shift hi
        exact ⟨suf_tail hs, hw1, by omega, fun out g z => ⟨_, _, _, At_parse_blocks_body_1b_step _ _ _ _ _ _ _ _ _ ⟨true, _, r_may1 hs hT.len hi, fun _ => ⟨rfl, rfl, rfl, rfl, rfl⟩, fun hf => absurd rfl hf⟩⟩⟩
      rw [if_neg hi]
      have q0 := r_may0 hs (by simp) (show isS [125] (t :: ts) = false by simpa using hi)
      by_cases hk : t.Kind = 3
      · rw [if_pos hk]
        have hk0 : t.Kind ≠ 0 := by rw [hk]; decide
        have hcl : ∀ x, x ∈ acc → R_parse_blocks_body_1 x t.Text (decide (x.Name = t.Text)) := fun x _ => parse_blocks_body_1_tree _ _ _ rfl
        have hal : acc.length < 9223372036854775808 := by omega
        by_cases ha : acc.any (fun a => decide (a.Name = t.Text)) = true
        · rw [if_pos ha]
          exact fun out g z => ⟨[], _, _, _, At_parse_blocks_body_1b_step _ _ _ _ _ _ _ _ _ ⟨false, _, q0, fun hf => (by cases hf), fun _ => ⟨t, _, r_now hs, t, _, r_now hs, fun _ => ⟨hal, _, hcl, fun _ => ⟨_, _, r_fail _ _, rfl, rfl, rfl, rfl⟩, fun hf => absurd ha hf⟩, fun hf => absurd hk hf⟩⟩⟩
        rw [if_neg ha]
        have hs1 := suf_tail hs
        have hw1 := hw.tail hk0
        have q1 := r_name1 hs hT.len hk
        simp only [needS]
        by_cases he : isS [61] ts = true
        · rw [if_pos he]
          have hlen := len_shift he
          have h2 := r_whole hT (suf_shift hs1) (hw1.shift he) (N := N) (by omega)
          cases hc : wholeS N ts.tail with
          | no => rw [hc] at h2; exact h2.elim
          | er e =>
            rw [hc] at h2
            intro out g z
            obtain ⟨a, x', g', z', q2⟩ := h2 out g z
            exact ⟨[], _, _, _, At_parse_blocks_body_1b_step _ _ _ _ _ _ _ _ _ ⟨false, _, q0, fun hf => (by cases hf), fun _ => ⟨t, _, r_now hs, t, _, r_now hs, fun _ => ⟨hal, _, hcl, fun hf => absurd hf ha, fun _ => ⟨none, _, _, q1, none, _, r_need1 hs1 hT.len he, some e, a, x', g', z', q2, rfl, rfl, rfl, rfl⟩⟩, fun hf => absurd hk hf⟩⟩⟩
          | ok nodes ts2 out2 =>
            rw [hc] at h2
            obtain ⟨s2, w2, l2, q2⟩ := h2
            simp only [PR.bind]
            have h3 := r_attrs_b hT hN n (acc ++ [⟨t.Text, nodes⟩]) ts2 s2 w2 (by omega) (by simp; omega)
            have hbig : bigRow (acc.length + 1) 40 := by simp only [bigRow]; omega
            cases hl : attrsS N n (acc ++ [⟨t.Text, nodes⟩]) ts2 with
            | no => rw [hl] at h3; exact h3.elim
            | er e =>
              rw [hl] at h3
              intro out g z
              obtain ⟨g2, z2, q2⟩ := q2 out g z
              obtain ⟨a, x', g', z', q3⟩ := h3 nodes g2 z2
              exact ⟨a, x', g', z', At_parse_blocks_body_1b_step _ _ _ _ _ _ _ _ _ ⟨false, _, q0, fun hf => (by cases hf), fun _ => ⟨t, _, r_now hs, t, _, r_now hs, fun _ => ⟨hal, _, hcl, fun hf => absurd hf ha, fun _ => ⟨none, _, _, q1, none, _, r_need1 hs1 hT.len he, none, nodes, _, g2, z2, q2, hbig, q3⟩⟩, fun hf => absurd hk hf⟩⟩⟩
            | ok a ts3 out3 =>
              rw [hl] at h3
              obtain ⟨s3, w3, l3, q3⟩ := h3
              refine ⟨s3, w3, by omega, fun out g z => ?_⟩
              obtain ⟨g2, z2, q2⟩ := q2 out g z
              obtain ⟨out', g', z', q3⟩ := q3 nodes g2 z2
              exact ⟨out', g', z', At_parse_blocks_body_1b_step _ _ _ _ _ _ _ _ _ ⟨false, _, q0, fun hf => (by cases hf), fun _ => ⟨t, _, r_now hs, t, _, r_now hs, fun _ => ⟨hal, _, hcl, fun hf => absurd hf ha, fun _ => ⟨none, _, _, q1, none, _, r_need1 hs1 hT.len he, none, nodes, _, g2, z2, q2, hbig, q3⟩⟩, fun hf => absurd hk hf⟩⟩⟩
        · rw [if_neg he]
          exact fun out g z => ⟨[], _, _, _, At_parse_blocks_body_1b_step _ _ _ _ _ _ _ _ _ ⟨false, _, q0, fun hf => (by cases hf), fun _ => ⟨t, _, r_now hs, t, _, r_now hs, fun _ => ⟨hal, _, hcl, fun hf => absurd hf ha, fun _ => ⟨none, _, _, q1, some 5, _, r_need0 hs1 hw1.ne (by simpa using he), rfl, rfl, rfl, rfl⟩⟩, fun hf => absurd hk hf⟩⟩⟩
      · rw [if_neg hk]
        exact fun out g z => ⟨[], _, _, _, At_parse_blocks_body_1b_step _ _ _ _ _ _ _ _ _ ⟨false, _, q0, fun hf => (by cases hf), fun _ => ⟨t, _, r_now hs, t, _, r_now hs, fun hf => absurd hf hk, fun _ => ⟨some 5, [], _, r_name0 hs hk [], rfl, rfl, rfl, rfl⟩⟩⟩⟩
theorem r_attrs {L : List Token} (hT : TL L) {N : Nat} (hN : 20 * L.length + 10 ≤ N) (n : Nat) (acc : List Attr) (ts : List Token) (hs : ts <:+ L) (hw : W ts) (hn : ts.length < n + 1) (hal : acc.length + ts.length ≤ 1000000) : OkP L ts 0 (At_parse_blocks_body_1 acc) (attrsS N (n + 1) acc ts) := by
  cases ts with
  | nil => exact hw.elim
  | cons t ts =>
    have hlc : (t :: ts).length = ts.length + 1 := rfl
    have hll := suf_len hs
    have hLl := hT.len
    simp only [attrsS]
    by_cases hi : isS [125] (t :: ts) = true
    · rw [if_pos hi]
      have hw1 := hw.shift hi
      exact ⟨suf_tail hs, hw1, by omega, fun out g z => ⟨_, _, _, At_parse_blocks_body_1_step _ _ _ _ _ _ _ _ _ ⟨true, _, r_may1 hs hT.len hi, fun _ => ⟨rfl, rfl, rfl, rfl, rfl⟩, fun hf => absurd rfl hf⟩⟩⟩
    rw [if_neg hi]
    have q0 := r_may0 hs (by simp) (show isS [125] (t :: ts) = false by simpa using hi)
    by_cases hk : t.Kind = 3
    · rw [if_pos hk]
      have hk0 : t.Kind ≠ 0 := by rw [hk]; decide
      have hcl : ∀ x, x ∈ acc → R_parse_blocks_body_1 x t.Text (decide (x.Name = t.Text)) := fun x _ => parse_blocks_body_1_tree _ _ _ rfl
      have hal : acc.length < 9223372036854775808 := by omega
      by_cases ha : acc.any (fun a => decide (a.Name = t.Text)) = true
      · rw [if_pos ha]
        exact fun out g z => ⟨[], _, _, _, At_parse_blocks_body_1_step _ _ _ _ _ _ _ _ _ ⟨false, _, q0, fun hf => (by cases hf), fun _ => ⟨t, _, r_now hs, t, _, r_now hs, fun _ => ⟨hal, _, hcl, fun _ => ⟨_, _, r_fail _ _, rfl, rfl, rfl, rfl⟩, fun hf => absurd ha hf⟩, fun hf => absurd hk hf⟩⟩⟩
      rw [if_neg ha]
      have hs1 := suf_tail hs
      have hw1 := hw.tail hk0
      have q1 := r_name1 hs hT.len hk
      simp only [needS]
      by_cases he : isS [61] ts = true
      · rw [if_pos he]
        have hlen := len_shift he
        have h2 := r_whole hT (suf_shift hs1) (hw1.shift he) (N := N) (by omega)
        cases hc : wholeS N ts.tail with
        | no => rw [hc] at h2; exact h2.elim
        | er e =>
          rw [hc] at h2
          intro out g z
          obtain ⟨a, x', g', z', q2⟩ := h2 out g z
          exact ⟨[], _, _, _, At_parse_blocks_body_1_step _ _ _ _ _ _ _ _ _ ⟨false, _, q0, fun hf => (by cases hf), fun _ => ⟨t, _, r_now hs, t, _, r_now hs, fun _ => ⟨hal, _, hcl, fun hf => absurd hf ha, fun _ => ⟨none, _, _, q1, none, _, r_need1 hs1 hT.len he, some e, a, x', g', z', q2, rfl, rfl, rfl, rfl⟩⟩, fun hf => absurd hk hf⟩⟩⟩
        | ok nodes ts2 out2 =>
          rw [hc] at h2
          obtain ⟨s2, w2, l2, q2⟩ := h2
          simp only [PR.bind]
          have h3 := r_attrs_b hT hN n (acc ++ [⟨t.Text, nodes⟩]) ts2 s2 w2 (by omega) (by simp; omega)
          have hbig : bigRow (acc.length + 1) 40 := by simp only [bigRow]; omega
          cases hl : attrsS N n (acc ++ [⟨t.Text, nodes⟩]) ts2 with
          | no => rw [hl] at h3; exact h3.elim
          | er e =>
            rw [hl] at h3
            intro out g z
            obtain ⟨g2, z2, q2⟩ := q2 out g z
            obtain ⟨a, x', g', z', q3⟩ := h3 nodes g2 z2
            exact ⟨a, x', g', z', At_parse_blocks_body_1_step _ _ _ _ _ _ _ _ _ ⟨false, _, q0, fun hf => (by cases hf), fun _ => ⟨t, _, r_now hs, t, _, r_now hs, fun _ => ⟨hal, _, hcl, fun hf => absurd hf ha, fun _ => ⟨none, _, _, q1, none, _, r_need1 hs1 hT.len he, none, nodes, _, g2, z2, q2, hbig, q3⟩⟩, fun hf => absurd hk hf⟩⟩⟩
          | ok a ts3 out3 =>
            rw [hl] at h3
            obtain ⟨s3, w3, l3, q3⟩ := h3
            refine ⟨s3, w3, by omega, fun out g z => ?_⟩
            obtain ⟨g2, z2, q2⟩ := q2 out g z
            obtain ⟨out', g', z', q3⟩ := q3 nodes g2 z2
            exact ⟨out', g', z', At_parse_blocks_body_1_step _ _ _ _ _ _ _ _ _ ⟨false, _, q0, fun hf => (by cases hf), fun _ => ⟨t, _, r_now hs, t, _, r_now hs, fun _ => ⟨hal, _, hcl, fun hf => absurd hf ha, fun _ => ⟨none, _, _, q1, none, _, r_need1 hs1 hT.len he, none, nodes, _, g2, z2, q2, hbig, q3⟩⟩, fun hf => absurd hk hf⟩⟩⟩
      · rw [if_neg he]
        exact fun out g z => ⟨[], _, _, _, At_parse_blocks_body_1_step _ _ _ _ _ _ _ _ _ ⟨false, _, q0, fun hf => (by cases hf), fun _ => ⟨t, _, r_now hs, t, _, r_now hs, fun _ => ⟨hal, _, hcl, fun hf => absurd hf ha, fun _ => ⟨none, _, _, q1, some 5, _, r_need0 hs1 hw1.ne (by simpa using he), rfl, rfl, rfl, rfl⟩⟩, fun hf => absurd hk hf⟩⟩⟩
    · rw [if_neg hk]
      exact fun out g z => ⟨[], _, _, _, At_parse_blocks_body_1_step _ _ _ _ _ _ _ _ _ ⟨false, _, q0, fun hf => (by cases hf), fun _ => ⟨t, _, r_now hs, t, _, r_now hs, fun hf => absurd hf hk, fun _ => ⟨some 5, [], _, r_name0 hs hk [], rfl, rfl, rfl, rfl⟩⟩⟩⟩
theorem r_body {L ts : List Token} (hT : TL L) (hs : ts <:+ L) (hw : W ts) {N : Nat} (hN : 20 * L.length + 10 ≤ N) : OkP L ts 1 R_parse_blocks_body (bodyS N ts) := by
  simp only [bodyS, needS]
  have hll := suf_len hs
  have hLl := hT.len
  by_cases hi : isS [123] ts = true
  · rw [if_pos hi]
    have hlen := len_shift hi
    obtain ⟨n, rfl⟩ : ∃ n, N = n + 1 := ⟨N - 1, by omega⟩
    have h1 := r_attrs hT hN n [] ts.tail (suf_shift hs) (hw.shift hi) (by omega) (by simp; omega)
    cases hc : attrsS (n + 1) (n + 1) [] ts.tail with
    | no => rw [hc] at h1; exact h1.elim
    | er e =>
      rw [hc] at h1
      intro out g z
      obtain ⟨a, x', g', z', q⟩ := h1 out g z
      exact ⟨a, x', g', z', parse_blocks_body_tree _ _ _ _ _ _ _ _ ⟨none, _, r_need1 hs hT.len hi, q⟩⟩
    | ok a ts1 out1 =>
      rw [hc] at h1
      obtain ⟨s1, w1, l1, q⟩ := h1
      refine ⟨s1, w1, by omega, fun out g z => ?_⟩
      obtain ⟨out', g', z', q⟩ := q out g z
      exact ⟨out', g', z', parse_blocks_body_tree _ _ _ _ _ _ _ _ ⟨none, _, r_need1 hs hT.len hi, q⟩⟩
  · rw [if_neg hi]
    exact fun out g z => ⟨[], _, _, _, parse_blocks_body_tree _ _ _ _ _ _ _ _ ⟨some 5, _, r_need0 hs hw.ne (by simpa using hi), rfl, rfl, rfl, rfl⟩⟩
theorem r_words : R_parse_words wordsS := parse_words_tree _ rfl
theorem r_blkPlain {L : List Token} {t : Token} {ts : List Token} (hT : TL L) (hs : (t :: ts) <:+ L) (hw : W (t :: ts)) {lab : List UInt8 → Bool} (hl : ∀ s, s.length ≤ 1000000 → R_lex_Label s (lab s)) {N : Nat} (hN : 20 * L.length + 10 ≤ N) (within : Bool) (hk : t.Kind = 3) {i : Nat} (hi : idxS t.Text wordsS 0 = some i) (h4 : i ≠ 4) (h5 : i ≤ 1000) :
    OkP L (t :: ts) 1 (fun b g z => R_parse_blocks_block b g z within) (plainS lab N i ts) := by
  have hk0 : t.Kind ≠ 0 := by rw [hk]; decide
  have hs1 := suf_tail hs
  have hw1 := hw.tail hk0
  have hlc : (t :: ts).length = ts.length + 1 := rfl
  have hI : I64 ((pt L (t :: ts)).pos + 1) := by have := suf_len hs; have := hT.len; simp only [pt, I64]; omega
  have e1 : ∀ out, PBlocks.mk (PExprs.mk (PTokens.mk (pt L (t :: ts)).l ((pt L (t :: ts)).pos + 1)) (pb L (t :: ts) out).exprs.out (pb L (t :: ts) out).exprs.deep) = pb L ts out := fun out => by rw [pt_next hs]; rfl
  have hix : R_slices_Index_string_string wordsS t.Text (i : Int) := by have := r_IndexS wordsS t.Text (by decide); rw [hi] at this; exact this
  have n0 : ¬ (1 + (i : Int)) = 0 := by omega
  have n5 : ¬ (1 + (i : Int)) = 5 := by omega
  have hI1 : I64 (1 + (i : Int)) := ⟨by omega, by omega⟩
  simp only [plainS]
  by_cases h1 : i = 1
  · subst h1
    rw [if_pos rfl]
    have h2 := r_body hT hs1 hw1 hN
    cases hc : bodyS N ts with
    | no => rw [hc] at h2; exact h2.elim
    | er e =>
      rw [hc] at h2
      intro out g z
      obtain ⟨a, x', g', z', q⟩ := h2 out g z
      exact ⟨⟨0, [], [], []⟩, x', g', z', parse_blocks_block_tree _ _ _ _ _ _ _ _ _ ⟨t, _, r_now hs, _, r_words, _, hix, hI1, fun _ => ⟨fun hf => absurd hf n0, fun _ => ⟨fun hf => absurd hf n5, fun _ => ⟨hI, fun _ => ⟨some e, a, x', g', z', (e1 out).symm ▸ q, rfl, rfl, rfl, rfl⟩, fun hf => absurd (by decide) hf⟩⟩⟩, fun hf => absurd hk hf⟩⟩
    | ok a ts1 out1 =>
      rw [hc] at h2
      obtain ⟨s1, w1, l1, q⟩ := h2
      refine ⟨s1, w1, by omega, fun out g z => ?_⟩
      obtain ⟨out', g', z', q⟩ := q out g z
      exact ⟨out', g', z', parse_blocks_block_tree _ _ _ _ _ _ _ _ _ ⟨t, _, r_now hs, _, r_words, _, hix, hI1, fun _ => ⟨fun hf => absurd hf n0, fun _ => ⟨fun hf => absurd hf n5, fun _ => ⟨hI, fun _ => ⟨none, a, _, _, _, (e1 out).symm ▸ q, ⟨rfl, rfl, rfl, rfl, rfl⟩, rfl, rfl, rfl, rfl, rfl⟩, fun hf => absurd (by decide) hf⟩⟩⟩, fun hf => absurd hk hf⟩⟩
  · rw [if_neg h1]
    have n2 : ¬ (1 + (i : Int)) = 2 := by omega
    have h2 := r_lab hT hs1 hw1 hl
    cases hc : labS lab ts with
    | no => rw [hc] at h2; exact h2.elim
    | er e =>
      rw [hc] at h2
      intro out g z
      obtain ⟨a, x', g', z', q⟩ := h2 out g z
      exact ⟨⟨0, [], [], []⟩, x', g', z', parse_blocks_block_tree _ _ _ _ _ _ _ _ _ ⟨t, _, r_now hs, _, r_words, _, hix, hI1, fun _ => ⟨fun hf => absurd hf n0, fun _ => ⟨fun hf => absurd hf n5, fun _ => ⟨hI, fun hf => absurd hf n2, fun _ => ⟨some e, a, x', g', z', (e1 out).symm ▸ q, rfl, rfl, rfl, rfl⟩⟩⟩⟩, fun hf => absurd hk hf⟩⟩
    | ok l ts1 out1 =>
      rw [hc] at h2
      obtain ⟨s1, w1, l1, q1⟩ := h2
      simp only [PR.bind]
      have h3 := r_body hT s1 w1 hN
      cases hb : bodyS N ts1 with
      | no => rw [hb] at h3; exact h3.elim
      | er e =>
        rw [hb] at h3
        intro out g z
        obtain ⟨out1, g1, z1, q1⟩ := q1 out g z
        obtain ⟨a, x', g', z', q⟩ := h3 out1 g1 z1
        exact ⟨⟨0, [], [], []⟩, x', g', z', parse_blocks_block_tree _ _ _ _ _ _ _ _ _ ⟨t, _, r_now hs, _, r_words, _, hix, hI1, fun _ => ⟨fun hf => absurd hf n0, fun _ => ⟨fun hf => absurd hf n5, fun _ => ⟨hI, fun hf => absurd hf n2, fun _ => ⟨none, l, _, _, _, (e1 out).symm ▸ q1, some e, a, x', g', z', q, rfl, rfl, rfl, rfl⟩⟩⟩⟩, fun hf => absurd hk hf⟩⟩
      | ok a ts2 out2 =>
        rw [hb] at h3
        obtain ⟨s2, w2, l2, q2⟩ := h3
        refine ⟨s2, w2, by omega, fun out g z => ?_⟩
        obtain ⟨out1, g1, z1, q1⟩ := q1 out g z
        obtain ⟨out', g', z', q2⟩ := q2 out1 g1 z1
        exact ⟨out', g', z', parse_blocks_block_tree _ _ _ _ _ _ _ _ _ ⟨t, _, r_now hs, _, r_words, _, hix, hI1, fun _ => ⟨fun hf => absurd hf n0, fun _ => ⟨fun hf => absurd hf n5, fun _ => ⟨hI, fun hf => absurd hf n2, fun _ => ⟨none, l, _, _, _, (e1 out).symm ▸ q1, none, a, _, _, _, q2, ⟨rfl, rfl, rfl, rfl, rfl⟩, rfl, rfl, rfl, rfl, rfl⟩⟩⟩⟩, fun hf => absurd hk hf⟩⟩
theorem idxS_lt (s : List UInt8) : ∀ (l : List (List UInt8)) (i j : Nat), idxS s l i = some j → j < i + l.length
  | [], i, j, h => by cases h
  | v :: l, i, j, h => by
    simp only [idxS] at h
    split at h
    · cases h; simp
    · have := idxS_lt s l (i + 1) j h
      simp only [List.length_cons]
      omega
/-- No block begins there. -/
theorem r_blkNo {L : List Token} {t : Token} {ts : List Token} (hs : (t :: ts) <:+ L) (within : Bool) (h : t.Kind ≠ 3 ∨ idxS t.Text wordsS 0 = none ∨ (within = true ∧ idxS t.Text wordsS 0 = some 4)) : OkP L (t :: ts) 1 (fun b g z => R_parse_blocks_block b g z within) (.er 5) := by
  intro out g z
  have hix := r_IndexS wordsS t.Text (by decide)
  have hI1 : I64 (1 + idxI (idxS t.Text wordsS 0)) := by
    cases hi : idxS t.Text wordsS 0 with
    | none => exact ⟨by simp [idxI], by simp [idxI]⟩
    | some i => have := idxS_lt _ _ _ _ hi; simp [wordsS] at this; exact ⟨by simp only [idxI]; omega, by simp only [idxI]; omega⟩
  refine ⟨⟨0, [], [], []⟩, _, _, _, parse_blocks_block_tree _ _ _ _ _ _ _ _ _ ⟨t, _, r_now hs, _, r_words, _, hix, hI1, fun hk => ?_, fun _ => ⟨_, _, r_fail _ _, rfl, rfl, rfl, rfl⟩⟩⟩
  rcases h with h | h | ⟨h1, h2⟩
  · exact absurd hk h
  · rw [h]
    exact ⟨fun _ => ⟨_, _, r_fail _ _, rfl, rfl, rfl, rfl⟩, fun hf => absurd rfl hf⟩
  · rw [h2]
    exact ⟨fun hf => absurd hf (by decide), fun _ => ⟨fun _ => ⟨fun _ => ⟨_, _, r_fail _ _, rfl, rfl, rfl, rfl⟩, fun hf => absurd h1 hf⟩, fun hf => absurd (by decide) hf⟩⟩
theorem r_blkIn {L ts : List Token} (hT : TL L) (hs : ts <:+ L) (hw : W ts) {lab : List UInt8 → Bool} (hl : ∀ s, s.length ≤ 1000000 → R_lex_Label s (lab s)) {N : Nat} (hN : 20 * L.length + 10 ≤ N) : OkP L ts 1 (fun b g z => R_parse_blocks_block b g z true) (blkIn lab N ts) := by
  cases ts with
  | nil => exact hw.elim
  | cons t ts =>
    simp only [blkIn]
    by_cases hk : t.Kind = 3
    · rw [if_pos hk]
      cases hi : idxS t.Text wordsS 0 with
      | none => exact r_blkNo hs true (.inr (.inl hi))
      | some i =>
        simp only
        by_cases h4 : i = 4
        · rw [if_pos h4]
          exact r_blkNo hs true (.inr (.inr ⟨rfl, h4 ▸ hi⟩))
        · rw [if_neg h4]
          exact r_blkPlain hT hs hw hl hN true hk hi h4 (by have := idxS_lt _ _ _ _ hi; simp [wordsS] at this; omega)
    · rw [if_neg hk]
      exact r_blkNo hs true (.inl hk)
theorem r_blks {L : List Token} (hT : TL L) {lab : List UInt8 → Bool} (hl : ∀ s, s.length ≤ 1000000 → R_lex_Label s (lab s)) {N : Nat} (hN : 20 * L.length + 10 ≤ N) (r4 : Int) (r11 : List UInt8) (l20 : List Attr) (g21 g23 : Nat) : ∀ (n : Nat) (acc : List Block) (ts : List Token), ts <:+ L → W ts → ts.length < n → acc.length + ts.length ≤ 1000000 →
    OkP L ts 1 (fun b g z o (r : List Block) b' g' z' => At_parse_blocks_block_1 r4 r11 l20 g21 acc g23 b g z o ⟨1 + r4, r11, l20, r⟩ b' g' z') (blksS lab N n acc ts)
  | 0, _, _, _, _, h, _ => absurd h (Nat.not_lt_zero _)
  | n + 1, acc, ts, hs, hw, hn, hal => by
    simp only [blksS]
    by_cases hi : isS [125] ts = true
    · rw [if_pos hi]
      have hlen := len_shift hi
      exact ⟨suf_shift hs, hw.shift hi, by omega, fun out g z => ⟨_, _, _, At_parse_blocks_block_1_step _ _ _ _ _ _ _ _ _ _ _ _ _ _ ⟨true, _, r_may1 hs hT.len hi, fun _ => ⟨rfl, rfl, rfl, rfl, rfl⟩, fun hf => absurd rfl hf⟩⟩⟩
    rw [if_neg hi]
    have q0 := r_may0 hs hw.ne (show isS [125] ts = false by simpa using hi)
    have h1 := r_blkIn hT hs hw hl hN
    have hbig : bigRow (acc.length + 1) 72 := by simp only [bigRow]; omega
    cases hc : blkIn lab N ts with
    | no => rw [hc] at h1; exact h1.elim
    | er e =>
      rw [hc] at h1
      intro out g z
      obtain ⟨a, x', g', z', q⟩ := h1 out g z
      exact ⟨[], x', g', z', At_parse_blocks_block_1_step _ _ _ _ _ _ _ _ _ _ _ _ _ _ ⟨false, _, q0, fun hf => (by cases hf), fun _ => ⟨some e, a, x', g', z', q, rfl, rfl, rfl, rfl⟩⟩⟩
    | ok a ts1 out1 =>
      rw [hc] at h1
      obtain ⟨s1, w1, l1, q1⟩ := h1
      simp only [PR.bind]
      have h2 := r_blks hT hl hN r4 r11 l20 g21 g23 n (acc ++ [a]) ts1 s1 w1 (by omega) (by simp; omega)
      cases hb : blksS lab N n (acc ++ [a]) ts1 with
      | no => rw [hb] at h2; exact h2.elim
      | er e =>
        rw [hb] at h2
        intro out g z
        obtain ⟨out1, g1, z1, q1⟩ := q1 out g z
        obtain ⟨c, x', g', z', q⟩ := h2 out1 g1 z1
        exact ⟨c, x', g', z', At_parse_blocks_block_1_step _ _ _ _ _ _ _ _ _ _ _ _ _ _ ⟨false, _, q0, fun hf => (by cases hf), fun _ => ⟨none, a, _, _, _, q1, hbig, q⟩⟩⟩
      | ok c ts2 out2 =>
        rw [hb] at h2
        obtain ⟨s2, w2, l2, q2⟩ := h2
        refine ⟨s2, w2, by omega, fun out g z => ?_⟩
        obtain ⟨out1, g1, z1, q1⟩ := q1 out g z
        obtain ⟨out', g', z', q2⟩ := q2 out1 g1 z1
        exact ⟨out', g', z', At_parse_blocks_block_1_step _ _ _ _ _ _ _ _ _ _ _ _ _ _ ⟨false, _, q0, fun hf => (by cases hf), fun _ => ⟨none, a, _, _, _, q1, hbig, q2⟩⟩⟩
end Go.Proofs.YtfbcnpbhhooapaaGreatDoor.M

/- Parse: configurations and expressions of tokens: parse.Parse and parse.Expr follow the functions. -/
namespace Go.Proofs.YtfbcnpbhhooapaaGreatDoor.M
set_option linter.unusedSimpArgs false
set_option linter.unusedVariables false
open Go Classical
theorem r_blk {L ts : List Token} (hT : TL L) (hs : ts <:+ L) (hw : W ts) {lab : List UInt8 → Bool} (hl : ∀ s, s.length ≤ 1000000 → R_lex_Label s (lab s)) {N : Nat} (hN : 20 * L.length + 10 ≤ N) : OkP L ts 1 (fun b g z => R_parse_blocks_block b g z false) (blkS lab N ts) := by
  cases ts with
  | nil => exact hw.elim
  | cons t ts =>
    simp only [blkS]
    by_cases hk : t.Kind = 3
    · rw [if_pos hk]
      cases hi : idxS t.Text wordsS 0 with
      | none => exact r_blkNo hs false (.inr (.inl hi))
      | some i =>
        simp only
        by_cases h4 : i = 4
        · subst h4
          rw [if_pos rfl]
          have hk0 : t.Kind ≠ 0 := by rw [hk]; decide
          have hs1 := suf_tail hs
          have hw1 := hw.tail hk0
          have hlc : (t :: ts).length = ts.length + 1 := rfl
          have hll := suf_len hs
          have hLl := hT.len
          have hI : I64 ((pt L (t :: ts)).pos + 1) := by simp only [pt, I64]; omega
          have e1 : ∀ out, PBlocks.mk (PExprs.mk (PTokens.mk (pt L (t :: ts)).l ((pt L (t :: ts)).pos + 1)) (pb L (t :: ts) out).exprs.out (pb L (t :: ts) out).exprs.deep) = pb L ts out := fun out => by rw [pt_next hs]; rfl
          have hix : R_slices_Index_string_string wordsS t.Text ((4 : Nat) : Int) := by have := r_IndexS wordsS t.Text (by decide); rw [hi] at this; exact this
          have n0 : ¬ (1 + ((4 : Nat) : Int)) = 0 := by decide
          have hI1 : I64 (1 + ((4 : Nat) : Int)) := ⟨by decide, by decide⟩
          have h2 := r_lab hT hs1 hw1 hl
          cases hc : labS lab ts with
          | no => rw [hc] at h2; exact h2.elim
          | er e =>
            rw [hc] at h2
            intro out g z
            obtain ⟨a, x', g', z', q⟩ := h2 out g z
            exact ⟨⟨0, [], [], []⟩, x', g', z', parse_blocks_block_tree _ _ _ _ _ _ _ _ _ ⟨t, _, r_now hs, _, r_words, _, hix, hI1, fun _ => ⟨fun hf => absurd hf n0, fun _ => ⟨fun _ => ⟨fun hf => (by cases hf), fun _ => ⟨hI, some e, a, x', g', z', (e1 out).symm ▸ q, rfl, rfl, rfl, rfl⟩⟩, fun hf => absurd rfl hf⟩⟩, fun hf => absurd hk hf⟩⟩
          | ok l ts1 out1 =>
            rw [hc] at h2
            obtain ⟨s1, w1, l1, q1⟩ := h2
            simp only [PR.bind, needS]
            by_cases he : isS [123] ts1 = true
            · rw [if_pos he]
              have hlen := len_shift he
              have h3 := r_blks hT hl hN ((4 : Nat) : Int) l [] 1 1 N [] ts1.tail (suf_shift s1) (w1.shift he) (by omega) (by simp; omega)
              cases hb : blksS lab N N [] ts1.tail with
              | no => rw [hb] at h3; exact h3.elim
              | er e =>
                rw [hb] at h3
                intro out g z
                obtain ⟨out1, g1, z1, q1⟩ := q1 out g z
                obtain ⟨a, x', g', z', q⟩ := h3 out1 g1 z1
                exact ⟨_, x', g', z', parse_blocks_block_tree _ _ _ _ _ _ _ _ _ ⟨t, _, r_now hs, _, r_words, _, hix, hI1, fun _ => ⟨fun hf => absurd hf n0, fun _ => ⟨fun _ => ⟨fun hf => (by cases hf), fun _ => ⟨hI, none, l, _, _, _, (e1 out).symm ▸ q1, none, _, r_need1 s1 hT.len he, q⟩⟩, fun hf => absurd rfl hf⟩⟩, fun hf => absurd hk hf⟩⟩
              | ok bs ts2 out2 =>
                rw [hb] at h3
                obtain ⟨s2, w2, l2, q2⟩ := h3
                refine ⟨s2, w2, by omega, fun out g z => ?_⟩
                obtain ⟨out1, g1, z1, q1⟩ := q1 out g z
                obtain ⟨out', g', z', q2⟩ := q2 out1 g1 z1
                exact ⟨out', g', z', parse_blocks_block_tree _ _ _ _ _ _ _ _ _ ⟨t, _, r_now hs, _, r_words, _, hix, hI1, fun _ => ⟨fun hf => absurd hf n0, fun _ => ⟨fun _ => ⟨fun hf => (by cases hf), fun _ => ⟨hI, none, l, _, _, _, (e1 out).symm ▸ q1, none, _, r_need1 s1 hT.len he, q2⟩⟩, fun hf => absurd rfl hf⟩⟩, fun hf => absurd hk hf⟩⟩
            · rw [if_neg he]
              intro out g z
              obtain ⟨out1, g1, z1, q1⟩ := q1 out g z
              exact ⟨⟨0, [], [], []⟩, _, _, _, parse_blocks_block_tree _ _ _ _ _ _ _ _ _ ⟨t, _, r_now hs, _, r_words, _, hix, hI1, fun _ => ⟨fun hf => absurd hf n0, fun _ => ⟨fun _ => ⟨fun hf => (by cases hf), fun _ => ⟨hI, none, l, _, _, _, (e1 out).symm ▸ q1, some 5, _, r_need0 s1 w1.ne (by simpa using he), rfl, rfl, rfl, rfl⟩⟩, fun hf => absurd rfl hf⟩⟩, fun hf => absurd hk hf⟩⟩
        · rw [if_neg h4]
          exact r_blkPlain hT hs hw hl hN false hk hi h4 (by have := idxS_lt _ _ _ _ hi; simp [wordsS] at this; omega)
    · rw [if_neg hk]
      exact r_blkNo hs false (.inl hk)
theorem r_conf {L : List Token} (hT : TL L) {lab : List UInt8 → Bool} (hl : ∀ s, s.length ≤ 1000000 → R_lex_Label s (lab s)) {N : Nat} (hN : 20 * L.length + 10 ≤ N) : ∀ (n : Nat) (acc : List Block) (ts : List Token), ts <:+ L → W ts → ts.length < n → acc.length + ts.length ≤ 1000000 →
    match confS lab N n acc ts with
    | .ok l _ _ => ∀ out g z, ∃ b' bg bz, At_parse_Parse_1_1 (pb L ts out) g z acc 0 false none b' bg bz l 0 false
    | .er e => ∀ out g z, ∃ b' bg bz l, At_parse_Parse_1_1 (pb L ts out) g z acc 0 false (some e) b' bg bz l 0 false
    | .no => False
  | 0, _, _, _, _, h, _ => absurd h (Nat.not_lt_zero _)
  | n + 1, acc, [], hs, hw, hn, hal => hw.elim
  | n + 1, acc, t :: ts, hs, hw, hn, hal => by
    have hlc : (t :: ts).length = ts.length + 1 := rfl
    simp only [confS]
    by_cases hk : t.Kind = 0
    · rw [if_pos hk]
      exact fun out g z => ⟨_, _, _, At_parse_Parse_1_1_step _ _ _ _ _ _ _ _ _ _ _ _ _ ⟨t, _, r_now hs, fun _ => ⟨rfl, rfl, rfl, rfl, rfl, rfl, rfl⟩, fun hf => absurd hk hf⟩⟩
    rw [if_neg hk]
    have h1 := r_blk hT hs hw hl hN
    have hbig : bigRow (acc.length + 1) 72 := by simp only [bigRow]; omega
    cases hc : blkS lab N (t :: ts) with
    | no => rw [hc] at h1; exact h1.elim
    | er e =>
      rw [hc] at h1
      intro out g z
      obtain ⟨a, x', g', z', q⟩ := h1 out g z
      exact ⟨x', g', z', acc, At_parse_Parse_1_1_step _ _ _ _ _ _ _ _ _ _ _ _ _ ⟨t, _, r_now hs, fun hf => absurd hf hk, fun _ => ⟨some e, a, x', g', z', q, rfl, rfl, rfl, rfl, rfl, rfl, rfl⟩⟩⟩
    | ok a ts1 out1 =>
      rw [hc] at h1
      obtain ⟨s1, w1, l1, q1⟩ := h1
      simp only [PR.bind]
      have h2 := r_conf hT hl hN n (acc ++ [a]) ts1 s1 w1 (by omega) (by simp; omega)
      cases hb : confS lab N n (acc ++ [a]) ts1 with
      | no => rw [hb] at h2; exact h2.elim
      | er e =>
        rw [hb] at h2
        intro out g z
        obtain ⟨out1, g1, z1, q1⟩ := q1 out g z
        obtain ⟨b', bg, bz, l, q⟩ := h2 out1 g1 z1
        exact ⟨b', bg, bz, l, At_parse_Parse_1_1_step _ _ _ _ _ _ _ _ _ _ _ _ _ ⟨t, _, r_now hs, fun hf => absurd hf hk, fun _ => ⟨none, a, _, _, _, q1, hbig, by omega, rfl, ⟨0, [], [], []⟩, by simp, by rw [set_lastP]; exact q⟩⟩⟩
      | ok l ts2 out2 =>
        rw [hb] at h2
        intro out g z
        obtain ⟨out1, g1, z1, q1⟩ := q1 out g z
        obtain ⟨b', bg, bz, q⟩ := h2 out1 g1 z1
        exact ⟨b', bg, bz, At_parse_Parse_1_1_step _ _ _ _ _ _ _ _ _ _ _ _ _ ⟨t, _, r_now hs, fun hf => absurd hf hk, fun _ => ⟨none, a, _, _, _, q1, hbig, by omega, rfl, ⟨0, [], [], []⟩, by simp, by rw [set_lastP]; exact q⟩⟩⟩
theorem pb0_eq (L : List Token) : pb0 L = pb L L [] := by simp [pb0, pb, pe, pt]
/-- A configuration of tokens. -/
def confT (lab : List UInt8 → Bool) (L : List Token) : PR (List Block) := confS lab (20 * L.length + 10) (L.length + 1) [] L
theorem r_ParseT {s : List UInt8} {L : List Token} (hx : R_lex_Lex s L 0) (hT : TL L) (hw : W L) {lab : List UInt8 → Bool} (hl : ∀ s, s.length ≤ 1000000 → R_lex_Label s (lab s)) :
    match confT lab L with
    | .ok l _ _ => R_parse_Parse s l 0
    | .er e => e ≠ 0 → R_parse_Parse s [] e
    | .no => False := by
  have h := r_conf hT hl (Nat.le_refl _) (L.length + 1) [] L (List.suffix_refl L) hw (by omega) (by have := hT.len; simp; omega)
  unfold confT
  cases hc : confS lab (20 * L.length + 10) (L.length + 1) [] L with
  | no => rw [hc] at h; exact h.elim
  | er e =>
    rw [hc] at h
    intro he
    obtain ⟨b', bg, bz, l, q⟩ := h [] 0 false
    have := r_Parse_of hx (o := some e) (by rw [pb0_eq]; exact parse_Parse_1_tree _ _ _ _ _ _ _ _ _ _ _ _ _ q)
    rw [Option.getD_some, if_neg he] at this
    exact this
  | ok l ts out =>
    rw [hc] at h
    obtain ⟨b', bg, bz, q⟩ := h [] 0 false
    exact r_Parse_of hx (o := none) (by rw [pb0_eq]; exact parse_Parse_1_tree _ _ _ _ _ _ _ _ _ _ _ _ _ q)
end Go.Proofs.YtfbcnpbhhooapaaGreatDoor.M

/- The machine's code of the functions, printed by a program of this session (sc2.py) out of the translation. Not trusted: Lean checks each by its own computation. -/
namespace Go.Proofs.YtfbcnpbhhooapaaGreatDoor.M
open Go
set_option linter.unusedVariables false
/-- doorkeeper/lex.class -/
def c_lex_class_1 : SC := .seq (.reg [⟨(some 2), none, (.v (.mov (.c (.int .i64 0))))⟩]) .ret
def c_lex_class_2 : SC := .cond (.t 10) (.seq (.reg [⟨(some 2), none, (.v (.mov (.c (.int .i64 2))))⟩]) .ret) (.seq (.reg [⟨(some 22), none, (.v (.mov (.t 0)))⟩, ⟨(some 23), none, (.v (.bin .leq (.c (.int .u8 48)) (.t 22)))⟩, ⟨(some 24), none, (.v (.mov (.t 23)))⟩, ⟨(some 25), (some (24, true)), (.v (.mov (.t 0)))⟩, ⟨(some 26), (some (24, true)), (.v (.bin .leq (.t 25) (.c (.int .u8 57))))⟩, ⟨(some 27), none, (.v (.pick (.t 24) (.t 26) (.c (.bool false))))⟩, ⟨(some 21), none, (.v (.mov (.t 27)))⟩]) (.cond (.t 21) (.seq (.reg [⟨(some 2), none, (.v (.mov (.c (.int .i64 3))))⟩]) .ret) (.seq (.reg [⟨(some 29), none, (.v (.mov (.t 0)))⟩, ⟨(some 30), none, (.v (.bin .eql (.t 29) (.c (.int .u8 34))))⟩, ⟨(some 28), none, (.v (.mov (.t 30)))⟩]) (.cond (.t 28) (.seq (.reg [⟨(some 2), none, (.v (.mov (.c (.int .i64 4))))⟩]) .ret) (.seq (.reg [⟨(some 32), none, (.v (.mov (.t 0)))⟩, ⟨(some 33), none, (.v (.bin .eql (.t 32) (.c (.int .u8 35))))⟩, ⟨(some 31), none, (.v (.mov (.t 33)))⟩]) (.cond (.t 31) (.seq (.reg [⟨(some 2), none, (.v (.mov (.c (.int .i64 5))))⟩]) .ret) .skip))))))
def c_lex_class_3 : SC := .cond (.t 3) (.seq (.reg [⟨(some 2), none, (.v (.mov (.c (.int .i64 1))))⟩]) .ret) (.seq (.reg [⟨(some 11), none, (.v (.mov (.t 0)))⟩, ⟨(some 12), none, (.v (.bin .eql (.t 11) (.c (.int .u8 95))))⟩, ⟨(some 13), none, (.v (.mov (.t 12)))⟩, ⟨(some 14), (some (13, false)), (.v (.mov (.t 0)))⟩, ⟨(some 15), (some (13, false)), (.v (.bin .leq (.c (.int .u8 97)) (.t 14)))⟩, ⟨(some 16), (some (13, false)), (.v (.mov (.t 15)))⟩, ⟨(some 17), (some (16, true)), (.v (.mov (.t 0)))⟩, ⟨(some 18), (some (16, true)), (.v (.bin .leq (.t 17) (.c (.int .u8 122))))⟩, ⟨(some 19), (some (13, false)), (.v (.pick (.t 16) (.t 18) (.c (.bool false))))⟩, ⟨(some 20), none, (.v (.pick (.t 13) (.c (.bool true)) (.t 19)))⟩, ⟨(some 10), none, (.v (.mov (.t 20)))⟩]) c_lex_class_2)
def c_lex_class_4 : SC := .seq (.block 0 (.seq (.reg [⟨(some 4), none, (.v (.mov (.t 0)))⟩, ⟨(some 5), none, (.v (.bin .eql (.t 4) (.c (.int .u8 32))))⟩, ⟨(some 6), none, (.v (.mov (.t 5)))⟩, ⟨(some 7), (some (6, false)), (.v (.mov (.t 0)))⟩, ⟨(some 8), (some (6, false)), (.v (.bin .eql (.t 7) (.c (.int .u8 10))))⟩, ⟨(some 9), none, (.v (.pick (.t 6) (.c (.bool true)) (.t 8)))⟩, ⟨(some 3), none, (.v (.mov (.t 9)))⟩]) c_lex_class_3)) c_lex_class_1
def sc_lex_class : SFunc := ⟨1, 34, .seq (.reg [⟨(some 2), none, (.v (.mov (.c (.int .i64 0))))⟩]) c_lex_class_4, [(.t 2)]⟩
theorem U_lex_class : type_of% (And.intro (fun (SP : Prg) (ac : Ac) => congrFun (congrArg (E SP) c_lex_class_1.eq_1) ac) <| And.intro (fun (SP : Prg) (ac : Ac) => congrFun (congrArg (E SP) c_lex_class_2.eq_1) ac) <| And.intro (fun (SP : Prg) (ac : Ac) => congrFun (congrArg (E SP) c_lex_class_3.eq_1) ac) <| And.intro (fun (SP : Prg) (ac : Ac) => congrFun (congrArg (E SP) c_lex_class_4.eq_1) ac) <| sc_lex_class.eq_1) := And.intro (fun (SP : Prg) (ac : Ac) => congrFun (congrArg (E SP) c_lex_class_1.eq_1) ac) <| And.intro (fun (SP : Prg) (ac : Ac) => congrFun (congrArg (E SP) c_lex_class_2.eq_1) ac) <| And.intro (fun (SP : Prg) (ac : Ac) => congrFun (congrArg (E SP) c_lex_class_3.eq_1) ac) <| And.intro (fun (SP : Prg) (ac : Ac) => congrFun (congrArg (E SP) c_lex_class_4.eq_1) ac) <| sc_lex_class.eq_1
theorem comp_lex_class : comp Tryz.prog Tryz.f137 = some sc_lex_class := by kernel_rfl
/-- doorkeeper/lex.span -/
def c_lex_span_1 : SC := .seq (.reg [⟨(some 20), none, (.v (.mov (.t 0)))⟩, ⟨(some 21), none, (.v (.len true (.t 20)))⟩, ⟨(some 4), none, (.v (.mov (.t 21)))⟩]) .ret
def b_lex_span_1 : SC := .seq (.reg [⟨(some 9), none, (.v (.bin .lss (.t 8) (.t 7)))⟩]) (.seq (.cond (.t 9) .skip (.exit 0)) (.seq (.block 1 (.seq (.reg [⟨(some 10), none, (.v (.mov (.t 8)))⟩, ⟨(some 5), none, (.v (.mov (.t 10)))⟩]) (.seq (.reg [⟨(some 11), none, (.v (.mov (.t 1)))⟩, ⟨(some 12), none, (.v (.mov (.t 0)))⟩, ⟨(some 13), none, (.v (.mov (.t 5)))⟩, ⟨(some 14), none, (.v (.istr (.t 12) (.t 13)))⟩, ⟨(some 15), none, (.call (.c (.func 137 [])) [(.t 14)])⟩, ⟨(some 16), none, (.call (.c (.func 170 [])) [(.t 11), (.t 15)])⟩, ⟨(some 17), none, (.v (.un .not (.t 16)))⟩]) (.cond (.t 17) (.seq (.reg [⟨(some 18), none, (.v (.mov (.t 5)))⟩, ⟨(some 4), none, (.v (.mov (.t 18)))⟩]) .ret) .skip)))) (.reg [⟨(some 19), none, (.v (.bin .add (.t 8) (.c (.int .i64 1))))⟩, ⟨(some 8), none, (.v (.mov (.t 19)))⟩])))
def sc_lex_span : SFunc := ⟨2, 22, .seq (.reg [⟨(some 4), none, (.v (.mov (.c (.int .i64 0))))⟩]) (.seq (.seq (.reg [⟨(some 6), none, (.v (.mov (.t 0)))⟩, ⟨(some 7), none, (.v (.len true (.t 6)))⟩, ⟨(some 8), none, (.v (.mov (.c (.int .i64 0))))⟩]) (.block 0 (.loop b_lex_span_1))) c_lex_span_1), [(.t 4)]⟩
noncomputable def k_lex_span_1 (SP : Prg) (x : EO) : CO := fin [(.t 4)] (thC SP (inBlk 0 (x)) c_lex_span_1)
theorem U_lex_span : type_of% (And.intro (fun (SP : Prg) (ac : Ac) => congrFun (congrArg (E SP) c_lex_span_1.eq_1) ac) <| And.intro (fun (SP : Prg) (ac : Ac) => congrFun (congrArg (E SP) b_lex_span_1.eq_1) ac) <| sc_lex_span.eq_1) := And.intro (fun (SP : Prg) (ac : Ac) => congrFun (congrArg (E SP) c_lex_span_1.eq_1) ac) <| And.intro (fun (SP : Prg) (ac : Ac) => congrFun (congrArg (E SP) b_lex_span_1.eq_1) ac) <| sc_lex_span.eq_1
theorem comp_lex_span : comp Tryz.prog Tryz.f151 = some sc_lex_span := by kernel_rfl
/-- (doorkeeper/lex.text).take -/
def sc_lex_text_take : SFunc := ⟨2, 31, .seq (.reg [⟨(some 4), none, (.v (.mov (.c (.str []))))⟩]) (.seq (.reg [⟨(some 6), none, (.v (.mov (.t 0)))⟩, ⟨(some 7), none, (.v (.nchk (.t 6)))⟩, ⟨(some 8), none, (.v (.faddr 0 (.t 7)))⟩, ⟨(some 9), none, (.v (.load none (.t 8)))⟩, ⟨(some 10), none, (.v (.mov (.t 1)))⟩, ⟨(some 11), none, (.v (.sls (.t 9) none (some (.t 10))))⟩, ⟨(some 5), none, (.v (.mov (.t 11)))⟩]) (.seq (.dreg [⟨(some 12), none, (.v (.mov (.t 0)))⟩, ⟨(some 13), none, (.v (.mov (.t 0)))⟩, ⟨(some 14), none, (.v (.mov (.t 0)))⟩, ⟨(some 15), none, (.v (.nchk (.t 14)))⟩, ⟨(some 16), none, (.v (.faddr 0 (.t 15)))⟩, ⟨(some 17), none, (.v (.load none (.t 16)))⟩, ⟨(some 18), none, (.v (.mov (.t 1)))⟩, ⟨(some 19), none, (.v (.sls (.t 17) (some (.t 18)) none))⟩, ⟨(some 20), none, (.v (.mov (.t 0)))⟩, ⟨(some 21), none, (.v (.nchk (.t 20)))⟩, ⟨(some 22), none, (.v (.faddr 1 (.t 21)))⟩, ⟨(some 23), none, (.v (.load none (.t 22)))⟩, ⟨(some 24), none, (.v (.mov (.t 1)))⟩, ⟨(some 25), none, (.v (.bin .add (.t 23) (.t 24)))⟩, ⟨(some 26), none, (.v (.nchk (.t 12)))⟩, ⟨(some 27), none, (.v (.faddr 0 (.t 26)))⟩, ⟨none, none, (.store 1 (.t 27) (.t 19))⟩, ⟨(some 28), none, (.v (.nchk (.t 13)))⟩, ⟨(some 29), none, (.v (.faddr 1 (.t 28)))⟩, ⟨none, none, (.store 1 (.t 29) (.t 25))⟩] [false, false, false, false, false, false, false, false, false, false, false, false, false, false, true, true, true, true, true, true]) (.seq (.reg [⟨(some 30), none, (.v (.mov (.t 5)))⟩, ⟨(some 4), none, (.v (.mov (.t 30)))⟩]) .ret))), [(.t 4)]⟩
theorem U_lex_text_take : type_of% (sc_lex_text_take.eq_1) := sc_lex_text_take.eq_1
theorem comp_lex_text_take : comp Tryz.prog Tryz.f135 = some sc_lex_text_take := by kernel_rfl
/-- (doorkeeper/lex.text).word -/
def sc_lex_text_word : SFunc := ⟨2, 13, .seq (.reg [⟨(some 4), none, (.v (.mov (.c (.str []))))⟩]) (.seq (.reg [⟨(some 5), none, (.v (.mov (.t 0)))⟩, ⟨(some 6), none, (.v (.mov (.t 0)))⟩, ⟨(some 7), none, (.v (.nchk (.t 6)))⟩, ⟨(some 8), none, (.v (.faddr 0 (.t 7)))⟩, ⟨(some 9), none, (.v (.load none (.t 8)))⟩, ⟨(some 10), none, (.v (.mov (.t 1)))⟩, ⟨(some 11), none, (.call (.c (.func 151 [])) [(.t 9), (.t 10)])⟩, ⟨(some 12), none, (.call (.c (.func 135 [])) [(.t 5), (.t 11)])⟩, ⟨(some 4), none, (.v (.mov (.t 12)))⟩]) .ret), [(.t 4)]⟩
theorem U_lex_text_word : type_of% (sc_lex_text_word.eq_1) := sc_lex_text_word.eq_1
theorem comp_lex_text_word : comp Tryz.prog Tryz.f134 = some sc_lex_text_word := by kernel_rfl
/-- (doorkeeper/lex.parts).plain -/
def c_lex_parts_plain_1 : SC := .dreg [⟨(some 31), none, (.v (.mov (.t 0)))⟩, ⟨(some 32), none, (.v (.nchk (.t 31)))⟩, ⟨(some 33), none, (.v (.load none (.t 32)))⟩, ⟨(some 34), none, (.v (.mov (.t 4)))⟩, ⟨(some 35), none, (.v (.bin .sub (.t 34) (.c (.int .i64 1))))⟩, ⟨(some 36), none, (.v (.iaddr 2 (.t 33) (.t 35)))⟩, ⟨(some 37), none, (.v (.faddr 1 (.t 36)))⟩, ⟨(some 38), none, (.v (.load none (.t 37)))⟩, ⟨(some 39), none, (.v (.mov (.t 1)))⟩, ⟨(some 40), none, (.bslice 1 1 [(.int .u8 0)] [(0, (.t 39))])⟩, ⟨(some 41), none, (.v (.conv .bytes (.t 40)))⟩, ⟨(some 42), none, (.v (.bin .add (.t 38) (.t 41)))⟩, ⟨(some 43), none, (.v (.iaddr 2 (.t 33) (.t 35)))⟩, ⟨(some 44), none, (.v (.faddr 1 (.t 43)))⟩, ⟨none, none, (.store 1 (.t 44) (.t 42))⟩] [false, false, false, false, false, false, false, false, false, false, false, true, true, true, true]
def c_lex_parts_plain_2 : SC := .seq (.seq (.reg [⟨(some 9), none, (.v (.mov (.t 4)))⟩, ⟨(some 10), none, (.v (.bin .eql (.t 9) (.c (.int .i64 0))))⟩, ⟨(some 11), none, (.v (.mov (.t 10)))⟩, ⟨(some 12), (some (11, false)), (.v (.mov (.t 0)))⟩, ⟨(some 13), (some (11, false)), (.v (.nchk (.t 12)))⟩, ⟨(some 14), (some (11, false)), (.v (.load none (.t 13)))⟩, ⟨(some 15), (some (11, false)), (.v (.mov (.t 4)))⟩, ⟨(some 16), (some (11, false)), (.v (.bin .sub (.t 15) (.c (.int .i64 1))))⟩, ⟨(some 17), (some (11, false)), (.v (.iaddr 2 (.t 14) (.t 16)))⟩, ⟨(some 18), (some (11, false)), (.v (.faddr 0 (.t 17)))⟩, ⟨(some 19), (some (11, false)), (.v (.load none (.t 18)))⟩, ⟨(some 20), none, (.v (.pick (.t 11) (.c (.bool true)) (.t 19)))⟩]) (.cond (.t 20) (.seq (.reg [⟨(some 21), none, (.v (.mov (.t 0)))⟩, ⟨(some 22), none, (.v (.mov (.t 0)))⟩, ⟨(some 23), none, (.v (.nchk (.t 22)))⟩, ⟨(some 24), none, (.v (.load none (.t 23)))⟩, ⟨(some 25), none, (.v (.build [(.bool false), (.str [])] []))⟩, ⟨(some 26), none, (.bslice 2 1 [(.bool false), (.str [])] [(0, (.t 25))])⟩, ⟨(some 27), none, (.append 2 24 (.t 24) (.t 26))⟩, ⟨(some 28), none, (.v (.nchk (.t 21)))⟩, ⟨none, none, (.store 1 (.t 28) (.t 27))⟩]) (.reg [⟨(some 29), none, (.v (.mov (.t 4)))⟩, ⟨(some 30), none, (.v (.bin .add (.t 29) (.c (.int .i64 1))))⟩, ⟨(some 4), none, (.v (.mov (.t 30)))⟩])) .skip)) c_lex_parts_plain_1
def sc_lex_parts_plain : SFunc := ⟨2, 45, .seq (.reg [⟨(some 5), none, (.v (.mov (.t 0)))⟩, ⟨(some 6), none, (.v (.nchk (.t 5)))⟩, ⟨(some 7), none, (.v (.load none (.t 6)))⟩, ⟨(some 8), none, (.v (.len false (.t 7)))⟩, ⟨(some 4), none, (.v (.mov (.t 8)))⟩]) c_lex_parts_plain_2, []⟩
theorem U_lex_parts_plain : type_of% (And.intro (fun (SP : Prg) (ac : Ac) => congrFun (congrArg (E SP) c_lex_parts_plain_1.eq_1) ac) <| And.intro (fun (SP : Prg) (ac : Ac) => congrFun (congrArg (E SP) c_lex_parts_plain_2.eq_1) ac) <| sc_lex_parts_plain.eq_1) := And.intro (fun (SP : Prg) (ac : Ac) => congrFun (congrArg (E SP) c_lex_parts_plain_1.eq_1) ac) <| And.intro (fun (SP : Prg) (ac : Ac) => congrFun (congrArg (E SP) c_lex_parts_plain_2.eq_1) ac) <| sc_lex_parts_plain.eq_1
theorem comp_lex_parts_plain : comp Tryz.prog Tryz.f165 = some sc_lex_parts_plain := by kernel_rfl
/-- doorkeeper/lex.escaped -/
def sc_lex_escaped : SFunc := ⟨1, 15, .seq (.reg [⟨(some 2), none, (.v (.mov (.c (.int .u8 0))))⟩, ⟨(some 3), none, (.v (.mov (.c (.bool false))))⟩]) (.seq (.seq (.reg [⟨(some 5), none, (.v (.mov (.t 0)))⟩, ⟨(some 6), none, (.v (.len true (.t 5)))⟩, ⟨(some 7), none, (.v (.bin .lss (.t 6) (.c (.int .i64 2))))⟩]) (.cond (.t 7) (.seq (.reg [⟨(some 2), none, (.v (.mov (.c (.int .u8 0))))⟩, ⟨(some 3), none, (.v (.mov (.c (.bool false))))⟩]) .ret) .skip)) (.seq (.reg [⟨(some 8), none, (.v (.mov (.t 0)))⟩, ⟨(some 9), none, (.v (.istr (.t 8) (.c (.int .i64 1))))⟩, ⟨(some 10), none, (.call (.c (.func 179 [])) [(.c (.str [34, 92, 36, 110])), (.t 9)])⟩, ⟨(some 4), none, (.v (.mov (.t 10)))⟩]) (.seq (.seq (.reg [⟨(some 11), none, (.v (.mov (.t 4)))⟩, ⟨(some 12), none, (.v (.bin .lss (.t 11) (.c (.int .i64 0))))⟩]) (.cond (.t 12) (.seq (.reg [⟨(some 2), none, (.v (.mov (.c (.int .u8 0))))⟩, ⟨(some 3), none, (.v (.mov (.c (.bool false))))⟩]) .ret) .skip)) (.seq (.reg [⟨(some 13), none, (.v (.mov (.t 4)))⟩, ⟨(some 14), none, (.v (.istr (.c (.str [34, 92, 36, 10])) (.t 13)))⟩, ⟨(some 2), none, (.v (.mov (.t 14)))⟩, ⟨(some 3), none, (.v (.mov (.c (.bool true))))⟩]) .ret)))), [(.t 2), (.t 3)]⟩
theorem U_lex_escaped : type_of% (sc_lex_escaped.eq_1) := sc_lex_escaped.eq_1
theorem comp_lex_escaped : comp Tryz.prog Tryz.f164 = some sc_lex_escaped := by kernel_rfl
/-- doorkeeper/lex.reference -/
def c_lex_reference_1 : SC := .seq (.reg [⟨(some 18), none, (.v (.mov (.t 4)))⟩, ⟨(some 19), none, (.call (.c (.func 112 [])) [(.t 18), (.c (.str [46]))])⟩, ⟨(some 17), none, (.v (.mov (.t 19)))⟩, ⟨(some 20), none, (.v (.extract 0 (.t 17)))⟩, ⟨(some 21), none, (.v (.extract 1 (.t 17)))⟩, ⟨(some 22), none, (.v (.extract 2 (.t 17)))⟩, ⟨(some 7), none, (.v (.mov (.t 20)))⟩, ⟨(some 8), none, (.v (.mov (.t 21)))⟩, ⟨(some 9), none, (.v (.mov (.t 22)))⟩]) (.seq (.reg [⟨(some 23), none, (.v (.mov (.t 4)))⟩, ⟨(some 24), none, (.v (.mov (.t 6)))⟩, ⟨(some 25), none, (.v (.mov (.t 24)))⟩, ⟨(some 26), (some (25, true)), (.v (.mov (.t 9)))⟩, ⟨(some 27), none, (.v (.pick (.t 25) (.t 26) (.c (.bool false))))⟩, ⟨(some 28), none, (.v (.mov (.t 27)))⟩, ⟨(some 29), (some (28, true)), (.v (.mov (.t 7)))⟩, ⟨(some 30), (some (28, true)), (.call (.c (.func 115 [])) [(.t 29)])⟩, ⟨(some 31), none, (.v (.pick (.t 28) (.t 30) (.c (.bool false))))⟩, ⟨(some 32), none, (.v (.mov (.t 31)))⟩, ⟨(some 33), (some (32, true)), (.v (.mov (.t 8)))⟩, ⟨(some 34), (some (32, true)), (.call (.c (.func 115 [])) [(.t 33)])⟩, ⟨(some 35), none, (.v (.pick (.t 32) (.t 34) (.c (.bool false))))⟩, ⟨(some 2), none, (.v (.mov (.t 23)))⟩, ⟨(some 3), none, (.v (.mov (.t 35)))⟩]) .ret)
def c_lex_reference_2 : SC := .seq (.reg [⟨(some 11), none, (.v (.mov (.t 0)))⟩, ⟨(some 12), none, (.v (.sls (.t 11) (some (.c (.int .i64 2))) none))⟩, ⟨(some 13), none, (.call (.c (.func 112 [])) [(.t 12), (.c (.str [125]))])⟩, ⟨(some 10), none, (.v (.mov (.t 13)))⟩, ⟨(some 14), none, (.v (.extract 0 (.t 10)))⟩, ⟨(some 15), none, (.v (.extract 1 (.t 10)))⟩, ⟨(some 16), none, (.v (.extract 2 (.t 10)))⟩, ⟨(some 4), none, (.v (.mov (.t 14)))⟩, ⟨(some 5), none, (.v (.mov (.t 15)))⟩, ⟨(some 6), none, (.v (.mov (.t 16)))⟩]) c_lex_reference_1
def sc_lex_reference : SFunc := ⟨1, 36, .seq (.reg [⟨(some 2), none, (.v (.mov (.c (.str []))))⟩, ⟨(some 3), none, (.v (.mov (.c (.bool false))))⟩]) c_lex_reference_2, [(.t 2), (.t 3)]⟩
theorem U_lex_reference : type_of% (And.intro (fun (SP : Prg) (ac : Ac) => congrFun (congrArg (E SP) c_lex_reference_1.eq_1) ac) <| And.intro (fun (SP : Prg) (ac : Ac) => congrFun (congrArg (E SP) c_lex_reference_2.eq_1) ac) <| sc_lex_reference.eq_1) := And.intro (fun (SP : Prg) (ac : Ac) => congrFun (congrArg (E SP) c_lex_reference_1.eq_1) ac) <| And.intro (fun (SP : Prg) (ac : Ac) => congrFun (congrArg (E SP) c_lex_reference_2.eq_1) ac) <| sc_lex_reference.eq_1
theorem comp_lex_reference : comp Tryz.prog Tryz.f166 = some sc_lex_reference := by kernel_rfl
/-- doorkeeper/lex.Name -/
def sc_lex_Name : SFunc := ⟨1, 24, .seq (.reg [⟨(some 2), none, (.v (.mov (.c (.bool false))))⟩]) (.seq (.reg [⟨(some 3), none, (.v (.mov (.t 0)))⟩, ⟨(some 4), none, (.v (.bin .neq (.t 3) (.c (.str []))))⟩, ⟨(some 5), none, (.v (.mov (.t 4)))⟩, ⟨(some 6), (some (5, true)), (.v (.mov (.t 0)))⟩, ⟨(some 7), (some (5, true)), (.v (.len true (.t 6)))⟩, ⟨(some 8), (some (5, true)), (.v (.bin .leq (.t 7) (.c (.int .i64 24))))⟩, ⟨(some 9), none, (.v (.pick (.t 5) (.t 8) (.c (.bool false))))⟩, ⟨(some 10), none, (.v (.mov (.t 9)))⟩, ⟨(some 11), (some (10, true)), (.v (.mov (.t 0)))⟩, ⟨(some 12), (some (10, true)), (.v (.istr (.t 11) (.c (.int .i64 0))))⟩, ⟨(some 13), (some (10, true)), (.call (.c (.func 137 [])) [(.t 12)])⟩, ⟨(some 14), (some (10, true)), (.v (.bin .eql (.t 13) (.c (.int .i64 2))))⟩, ⟨(some 15), none, (.v (.pick (.t 10) (.t 14) (.c (.bool false))))⟩, ⟨(some 16), none, (.v (.mov (.t 15)))⟩, ⟨(some 17), (some (16, true)), (.v (.mov (.t 0)))⟩, ⟨(some 18), (some (16, true)), (.bslice 1 2 [(.int .i64 0)] [(0, (.c (.int .i64 2))), (1, (.c (.int .i64 3)))])⟩, ⟨(some 19), (some (16, true)), (.call (.c (.func 151 [])) [(.t 17), (.t 18)])⟩, ⟨(some 20), (some (16, true)), (.v (.mov (.t 0)))⟩, ⟨(some 21), (some (16, true)), (.v (.len true (.t 20)))⟩, ⟨(some 22), (some (16, true)), (.v (.bin .eql (.t 19) (.t 21)))⟩, ⟨(some 23), none, (.v (.pick (.t 16) (.t 22) (.c (.bool false))))⟩, ⟨(some 2), none, (.v (.mov (.t 23)))⟩]) .ret), [(.t 2)]⟩
theorem U_lex_Name : type_of% (sc_lex_Name.eq_1) := sc_lex_Name.eq_1
theorem comp_lex_Name : comp Tryz.prog Tryz.f115 = some sc_lex_Name := by kernel_rfl
/-- doorkeeper/doorkeeperref1.text -/
def c_ref1_text_1 : SC := .seq (.reg [⟨(some 126), none, (.v (.build [(.int .i64 0), (.str []), (.int .i64 0), (.nils 2), (.int .i64 0)] []))⟩, ⟨none, none, (.store 5 (.t 4) (.t 126))⟩, ⟨(some 5), none, (.v (.mov (.c (.int .i64 0))))⟩]) .ret
def c_ref1_text_2 : SC := .reg [⟨(some 17), none, (.v (.mov (.t 8)))⟩, ⟨(some 18), none, (.v (.bin .add (.t 17) (.c (.int .i64 1))))⟩, ⟨(some 8), none, (.v (.mov (.t 18)))⟩]
def c_ref1_text_3 : SC := .seq (.reg [⟨(some 59), none, (.v (.mov (.t 0)))⟩, ⟨(some 60), none, (.v (.mov (.t 8)))⟩, ⟨(some 61), none, (.v (.istr (.t 59) (.t 60)))⟩]) (.block 3 (.seq (.seq (.reg [⟨(some 64), none, (.v (.bin .eql (.t 61) (.c (.int .u8 34))))⟩, ⟨(some 63), none, (.v (.mov (.t 64)))⟩]) (.cond (.t 63) .skip (.seq (.reg [⟨(some 65), none, (.v (.bin .eql (.t 61) (.c (.int .u8 92))))⟩, ⟨(some 63), none, (.v (.mov (.t 65)))⟩]) (.cond (.t 63) .skip (.reg [⟨(some 66), none, (.v (.bin .eql (.t 61) (.c (.int .u8 36))))⟩, ⟨(some 63), none, (.v (.mov (.t 66)))⟩]))))) (.cond (.t 63) (.reg [⟨(some 67), none, (.v (.mov (.t 7)))⟩, ⟨(some 68), none, (.v (.mov (.t 0)))⟩, ⟨(some 69), none, (.v (.mov (.t 8)))⟩, ⟨(some 70), none, (.v (.istr (.t 68) (.t 69)))⟩, ⟨(some 71), none, (.bslice 1 1 [(.int .u8 0)] [(0, (.t 70))])⟩, ⟨(some 72), none, (.append 1 1 (.t 67) (.t 71))⟩, ⟨(some 7), none, (.v (.mov (.t 72)))⟩]) (.seq (.reg [⟨(some 74), none, (.v (.bin .eql (.t 61) (.c (.int .u8 110))))⟩, ⟨(some 73), none, (.v (.mov (.t 74)))⟩]) (.cond (.t 73) (.reg [⟨(some 75), none, (.v (.mov (.t 7)))⟩, ⟨(some 76), none, (.bslice 1 1 [(.int .u8 0)] [(0, (.c (.int .u8 10)))])⟩, ⟨(some 77), none, (.append 1 1 (.t 75) (.t 76))⟩, ⟨(some 7), none, (.v (.mov (.t 77)))⟩]) (.seq (.reg [⟨(some 62), none, (.v (.build [(.int .i64 0), (.str []), (.int .i64 0), (.nils 2), (.int .i64 0)] []))⟩, ⟨none, none, (.store 5 (.t 4) (.t 62))⟩, ⟨(some 5), none, (.v (.mov (.c (.int .i64 0))))⟩]) .ret))))))
def c_ref1_text_4 : SC := .seq (.seq (.reg [⟨(some 54), none, (.v (.mov (.t 8)))⟩, ⟨(some 55), none, (.v (.mov (.t 0)))⟩, ⟨(some 56), none, (.v (.len true (.t 55)))⟩, ⟨(some 57), none, (.v (.bin .geq (.t 54) (.t 56)))⟩]) (.cond (.t 57) (.seq (.reg [⟨(some 58), none, (.v (.build [(.int .i64 0), (.str []), (.int .i64 0), (.nils 2), (.int .i64 0)] []))⟩, ⟨none, none, (.store 5 (.t 4) (.t 58))⟩, ⟨(some 5), none, (.v (.mov (.c (.int .i64 0))))⟩]) .ret) .skip)) c_ref1_text_3
def c_ref1_text_5 : SC := .seq (.reg [⟨(some 110), none, (.v (.mov (.t 6)))⟩, ⟨(some 111), none, (.v (.mov (.t 0)))⟩, ⟨(some 112), none, (.v (.mov (.t 8)))⟩, ⟨(some 113), none, (.v (.bin .add (.t 112) (.c (.int .i64 2))))⟩, ⟨(some 114), none, (.v (.mov (.t 8)))⟩, ⟨(some 115), none, (.v (.mov (.t 10)))⟩, ⟨(some 116), none, (.v (.bin .add (.t 114) (.t 115)))⟩, ⟨(some 117), none, (.v (.bin .sub (.t 116) (.c (.int .i64 1))))⟩, ⟨(some 118), none, (.v (.sls (.t 111) (some (.t 113)) (some (.t 117))))⟩, ⟨(some 119), none, (.v (.build [(.bool false), (.str [])] [(0, 1, (.c (.bool true))), (1, 1, (.t 118))]))⟩, ⟨(some 120), none, (.bslice 2 1 [(.bool false), (.str [])] [(0, (.t 119))])⟩, ⟨(some 121), none, (.append 2 24 (.t 110) (.t 120))⟩, ⟨(some 6), none, (.v (.mov (.t 121)))⟩]) (.reg [⟨(some 122), none, (.v (.mov (.t 8)))⟩, ⟨(some 123), none, (.v (.mov (.t 10)))⟩, ⟨(some 124), none, (.v (.bin .add (.t 122) (.t 123)))⟩, ⟨(some 125), none, (.v (.bin .sub (.t 124) (.c (.int .i64 1))))⟩, ⟨(some 8), none, (.v (.mov (.t 125)))⟩])
def c_ref1_text_6 : SC := .seq (.seq (.reg [⟨(some 101), none, (.v (.mov (.t 7)))⟩, ⟨(some 102), none, (.v (.len false (.t 101)))⟩, ⟨(some 103), none, (.v (.bin .gtr (.t 102) (.c (.int .i64 0))))⟩]) (.cond (.t 103) (.seq (.reg [⟨(some 104), none, (.v (.mov (.t 6)))⟩, ⟨(some 105), none, (.v (.mov (.t 7)))⟩, ⟨(some 106), none, (.v (.conv .bytes (.t 105)))⟩, ⟨(some 107), none, (.v (.build [(.bool false), (.str [])] [(1, 1, (.t 106))]))⟩, ⟨(some 108), none, (.bslice 2 1 [(.bool false), (.str [])] [(0, (.t 107))])⟩, ⟨(some 109), none, (.append 2 24 (.t 104) (.t 108))⟩, ⟨(some 6), none, (.v (.mov (.t 109)))⟩]) (.reg [⟨(some 7), none, (.nilv 1)⟩])) .skip)) c_ref1_text_5
def c_ref1_text_7 : SC := .seq (.seq (.reg [⟨(some 98), none, (.v (.mov (.t 10)))⟩, ⟨(some 99), none, (.v (.bin .eql (.t 98) (.c (.int .i64 0))))⟩]) (.cond (.t 99) (.seq (.reg [⟨(some 100), none, (.v (.build [(.int .i64 0), (.str []), (.int .i64 0), (.nils 2), (.int .i64 0)] []))⟩, ⟨none, none, (.store 5 (.t 4) (.t 100))⟩, ⟨(some 5), none, (.v (.mov (.c (.int .i64 0))))⟩]) .ret) .skip)) c_ref1_text_6
def c_ref1_text_8 : SC := .cond (.t 78) (.seq (.reg [⟨(some 95), none, (.v (.mov (.t 0)))⟩, ⟨(some 96), none, (.v (.mov (.t 8)))⟩, ⟨(some 97), none, (.call (.c (.func 154 [])) [(.t 95), (.t 96)])⟩, ⟨(some 10), none, (.v (.mov (.t 97)))⟩]) c_ref1_text_7) (.reg [⟨(some 22), none, (.v (.mov (.t 7)))⟩, ⟨(some 23), none, (.v (.mov (.t 9)))⟩, ⟨(some 24), none, (.bslice 1 1 [(.int .u8 0)] [(0, (.t 23))])⟩, ⟨(some 25), none, (.append 1 1 (.t 22) (.t 24))⟩, ⟨(some 7), none, (.v (.mov (.t 25)))⟩])
def c_ref1_text_9 : SC := .cond (.t 49) (.seq (.reg [⟨(some 52), none, (.v (.mov (.t 8)))⟩, ⟨(some 53), none, (.v (.bin .add (.t 52) (.c (.int .i64 1))))⟩, ⟨(some 8), none, (.v (.mov (.t 53)))⟩]) c_ref1_text_4) (.seq (.reg [⟨(some 79), none, (.v (.mov (.t 9)))⟩, ⟨(some 80), none, (.v (.bin .eql (.t 79) (.c (.int .u8 36))))⟩, ⟨(some 81), none, (.v (.mov (.t 80)))⟩, ⟨(some 82), (some (81, true)), (.v (.mov (.t 8)))⟩, ⟨(some 83), (some (81, true)), (.v (.bin .add (.t 82) (.c (.int .i64 1))))⟩, ⟨(some 84), (some (81, true)), (.v (.mov (.t 0)))⟩, ⟨(some 85), (some (81, true)), (.v (.len true (.t 84)))⟩, ⟨(some 86), (some (81, true)), (.v (.bin .lss (.t 83) (.t 85)))⟩, ⟨(some 87), none, (.v (.pick (.t 81) (.t 86) (.c (.bool false))))⟩, ⟨(some 88), none, (.v (.mov (.t 87)))⟩, ⟨(some 89), (some (88, true)), (.v (.mov (.t 0)))⟩, ⟨(some 90), (some (88, true)), (.v (.mov (.t 8)))⟩, ⟨(some 91), (some (88, true)), (.v (.bin .add (.t 90) (.c (.int .i64 1))))⟩, ⟨(some 92), (some (88, true)), (.v (.istr (.t 89) (.t 91)))⟩, ⟨(some 93), (some (88, true)), (.v (.bin .eql (.t 92) (.c (.int .u8 123))))⟩, ⟨(some 94), none, (.v (.pick (.t 88) (.t 93) (.c (.bool false))))⟩, ⟨(some 78), none, (.v (.mov (.t 94)))⟩]) c_ref1_text_8)
def c_ref1_text_10 : SC := .cond (.t 45) (.seq (.reg [⟨(some 48), none, (.v (.build [(.int .i64 0), (.str []), (.int .i64 0), (.nils 2), (.int .i64 0)] []))⟩, ⟨none, none, (.store 5 (.t 4) (.t 48))⟩, ⟨(some 5), none, (.v (.mov (.c (.int .i64 0))))⟩]) .ret) (.seq (.reg [⟨(some 50), none, (.v (.mov (.t 9)))⟩, ⟨(some 51), none, (.v (.bin .eql (.t 50) (.c (.int .u8 92))))⟩, ⟨(some 49), none, (.v (.mov (.t 51)))⟩]) c_ref1_text_9)
def c_ref1_text_11 : SC := .cond (.t 26) (.seq (.seq (.reg [⟨(some 29), none, (.v (.mov (.t 7)))⟩, ⟨(some 30), none, (.v (.len false (.t 29)))⟩, ⟨(some 31), none, (.v (.bin .gtr (.t 30) (.c (.int .i64 0))))⟩]) (.cond (.t 31) (.reg [⟨(some 32), none, (.v (.mov (.t 6)))⟩, ⟨(some 33), none, (.v (.mov (.t 7)))⟩, ⟨(some 34), none, (.v (.conv .bytes (.t 33)))⟩, ⟨(some 35), none, (.v (.build [(.bool false), (.str [])] [(1, 1, (.t 34))]))⟩, ⟨(some 36), none, (.bslice 2 1 [(.bool false), (.str [])] [(0, (.t 35))])⟩, ⟨(some 37), none, (.append 2 24 (.t 32) (.t 36))⟩, ⟨(some 6), none, (.v (.mov (.t 37)))⟩]) .skip)) (.seq (.reg [⟨(some 38), none, (.v (.mov (.t 6)))⟩, ⟨(some 39), none, (.v (.mov (.t 1)))⟩, ⟨(some 40), none, (.v (.build [(.int .i64 0), (.str []), (.int .i64 0), (.nils 2), (.int .i64 0)] [(0, 1, (.c (.int .i64 2))), (3, 1, (.t 38)), (4, 1, (.t 39))]))⟩, ⟨(some 41), none, (.v (.mov (.t 8)))⟩, ⟨(some 42), none, (.v (.bin .add (.t 41) (.c (.int .i64 1))))⟩, ⟨(some 43), none, (.v (.mov (.t 1)))⟩, ⟨(some 44), none, (.v (.bin .sub (.t 42) (.t 43)))⟩, ⟨none, none, (.store 5 (.t 4) (.t 40))⟩, ⟨(some 5), none, (.v (.mov (.t 44)))⟩]) .ret)) (.seq (.reg [⟨(some 46), none, (.v (.mov (.t 9)))⟩, ⟨(some 47), none, (.v (.bin .lss (.t 46) (.c (.int .u8 32))))⟩, ⟨(some 45), none, (.v (.mov (.t 47)))⟩]) c_ref1_text_10)
def c_ref1_text_12 : SC := .block 2 (.seq (.reg [⟨(some 27), none, (.v (.mov (.t 9)))⟩, ⟨(some 28), none, (.v (.bin .eql (.t 27) (.c (.int .u8 34))))⟩, ⟨(some 26), none, (.v (.mov (.t 28)))⟩]) c_ref1_text_11)
def c_ref1_text_13 : SC := .seq (.block 1 (.seq (.reg [⟨(some 19), none, (.v (.mov (.t 0)))⟩, ⟨(some 20), none, (.v (.mov (.t 8)))⟩, ⟨(some 21), none, (.v (.istr (.t 19) (.t 20)))⟩, ⟨(some 9), none, (.v (.mov (.t 21)))⟩]) c_ref1_text_12)) c_ref1_text_2
def b_ref1_text_1 : SC := .seq (.seq (.reg [⟨(some 13), none, (.v (.mov (.t 8)))⟩, ⟨(some 14), none, (.v (.mov (.t 0)))⟩, ⟨(some 15), none, (.v (.len true (.t 14)))⟩, ⟨(some 16), none, (.v (.bin .lss (.t 13) (.t 15)))⟩]) (.cond (.t 16) .skip (.exit 0))) c_ref1_text_13
noncomputable def k_ref1_text_1 (SP : Prg) (x : EO) : CO := fin [(.cell 4 (some 5)), (.t 5)] (thC SP (inBlk 0 (x)) c_ref1_text_1)
/-- doorkeeper/doorkeeperref1.SameParts -/
def c_ref1_SameParts_1 : SC := .seq (.reg [⟨(some 4), none, (.v (.mov (.c (.bool true))))⟩]) .ret
def b_ref1_SameParts_1 : SC := .seq (.seq (.reg [⟨(some 11), none, (.v (.mov (.t 5)))⟩, ⟨(some 12), none, (.v (.mov (.t 0)))⟩, ⟨(some 13), none, (.v (.len false (.t 12)))⟩, ⟨(some 14), none, (.v (.bin .lss (.t 11) (.t 13)))⟩]) (.cond (.t 14) .skip (.exit 0))) (.seq (.block 1 (.seq (.dreg [⟨(some 17), none, (.v (.mov (.t 0)))⟩, ⟨(some 18), none, (.v (.mov (.t 5)))⟩, ⟨(some 19), none, (.v (.iaddr 2 (.t 17) (.t 18)))⟩, ⟨(some 20), none, (.v (.load (some 2) (.t 19)))⟩, ⟨(some 21), none, (.v (.mov (.t 1)))⟩, ⟨(some 22), none, (.v (.mov (.t 5)))⟩, ⟨(some 23), none, (.v (.iaddr 2 (.t 21) (.t 22)))⟩, ⟨(some 24), none, (.v (.load (some 2) (.t 23)))⟩, ⟨(some 25), none, (.v (.eqs true [.b, .s] (.t 20) (.t 24)))⟩] [false, false, false, false, false, false, false, false, true]) (.cond (.t 25) (.seq (.reg [⟨(some 4), none, (.v (.mov (.c (.bool false))))⟩]) .ret) .skip))) (.reg [⟨(some 15), none, (.v (.mov (.t 5)))⟩, ⟨(some 16), none, (.v (.bin .add (.t 15) (.c (.int .i64 1))))⟩, ⟨(some 5), none, (.v (.mov (.t 16)))⟩]))
def c_ref1_SameParts_2 : SC := .seq (.seq (.reg [⟨(some 6), none, (.v (.mov (.t 0)))⟩, ⟨(some 7), none, (.v (.len false (.t 6)))⟩, ⟨(some 8), none, (.v (.mov (.t 1)))⟩, ⟨(some 9), none, (.v (.len false (.t 8)))⟩, ⟨(some 10), none, (.v (.bin .neq (.t 7) (.t 9)))⟩]) (.cond (.t 10) (.seq (.reg [⟨(some 4), none, (.v (.mov (.c (.bool false))))⟩]) .ret) .skip)) (.seq (.seq (.reg [⟨(some 5), none, (.v (.mov (.c (.int .i64 0))))⟩]) (.block 0 (.loop b_ref1_SameParts_1))) c_ref1_SameParts_1)
def sc_ref1_SameParts : SFunc := ⟨2, 26, .seq (.reg [⟨(some 4), none, (.v (.mov (.c (.bool false))))⟩]) c_ref1_SameParts_2, [(.t 4)]⟩
noncomputable def k_ref1_SameParts_1 (SP : Prg) (x : EO) : CO := fin [(.t 4)] (thC SP (inBlk 0 (x)) c_ref1_SameParts_1)
theorem U_ref1_SameParts : type_of% (And.intro (fun (SP : Prg) (ac : Ac) => congrFun (congrArg (E SP) c_ref1_SameParts_1.eq_1) ac) <| And.intro (fun (SP : Prg) (ac : Ac) => congrFun (congrArg (E SP) b_ref1_SameParts_1.eq_1) ac) <| And.intro (fun (SP : Prg) (ac : Ac) => congrFun (congrArg (E SP) c_ref1_SameParts_2.eq_1) ac) <| sc_ref1_SameParts.eq_1) := And.intro (fun (SP : Prg) (ac : Ac) => congrFun (congrArg (E SP) c_ref1_SameParts_1.eq_1) ac) <| And.intro (fun (SP : Prg) (ac : Ac) => congrFun (congrArg (E SP) b_ref1_SameParts_1.eq_1) ac) <| And.intro (fun (SP : Prg) (ac : Ac) => congrFun (congrArg (E SP) c_ref1_SameParts_2.eq_1) ac) <| sc_ref1_SameParts.eq_1
theorem comp_ref1_SameParts : comp Tryz.prog Tryz.f43 = some sc_ref1_SameParts := by kernel_rfl
/-- doorkeeper/doorkeeperref1.Digits -/
def c_ref1_Digits_1 : SC := .seq (.reg [⟨(some 23), none, (.v (.mov (.t 3)))⟩, ⟨(some 24), none, (.v (.bin .add (.c (.int .u64 48)) (.t 23)))⟩, ⟨(some 25), none, (.v (.conv (.int .u8) (.t 24)))⟩, ⟨(some 26), none, (.bslice 1 1 [(.int .u8 0)] [(0, (.t 25))])⟩, ⟨(some 27), none, (.v (.conv .bytes (.t 26)))⟩, ⟨(some 28), none, (.v (.mov (.t 4)))⟩, ⟨(some 29), none, (.v (.bin .add (.t 27) (.t 28)))⟩, ⟨(some 4), none, (.v (.mov (.t 29)))⟩]) (.seq (.seq (.reg [⟨(some 30), none, (.v (.mov (.t 0)))⟩, ⟨(some 31), none, (.v (.bin .lss (.t 30) (.c (.int .i64 0))))⟩]) (.cond (.t 31) (.seq (.reg [⟨(some 32), none, (.v (.mov (.t 4)))⟩, ⟨(some 33), none, (.v (.bin .add (.c (.str [45])) (.t 32)))⟩, ⟨(some 2), none, (.v (.mov (.t 33)))⟩]) .ret) .skip)) (.seq (.reg [⟨(some 34), none, (.v (.mov (.t 4)))⟩, ⟨(some 2), none, (.v (.mov (.t 34)))⟩]) .ret))
def b_ref1_Digits_1 : SC := .seq (.seq (.reg [⟨(some 11), none, (.v (.mov (.t 3)))⟩, ⟨(some 12), none, (.v (.bin .geq (.t 11) (.c (.int .u64 10))))⟩]) (.cond (.t 12) .skip (.exit 0))) (.block 1 (.seq (.reg [⟨(some 13), none, (.v (.mov (.t 3)))⟩, ⟨(some 14), none, (.v (.bin .rem (.t 13) (.c (.int .u64 10))))⟩, ⟨(some 15), none, (.v (.bin .add (.c (.int .u64 48)) (.t 14)))⟩, ⟨(some 16), none, (.v (.conv (.int .u8) (.t 15)))⟩, ⟨(some 17), none, (.bslice 1 1 [(.int .u8 0)] [(0, (.t 16))])⟩, ⟨(some 18), none, (.v (.conv .bytes (.t 17)))⟩, ⟨(some 19), none, (.v (.mov (.t 4)))⟩, ⟨(some 20), none, (.v (.bin .add (.t 18) (.t 19)))⟩, ⟨(some 4), none, (.v (.mov (.t 20)))⟩]) (.reg [⟨(some 21), none, (.v (.mov (.t 3)))⟩, ⟨(some 22), none, (.v (.bin .quo (.t 21) (.c (.int .u64 10))))⟩, ⟨(some 3), none, (.v (.mov (.t 22)))⟩])))
def c_ref1_Digits_2 : SC := .seq (.block 0 (.loop b_ref1_Digits_1)) c_ref1_Digits_1
def c_ref1_Digits_3 : SC := .seq (.seq (.reg [⟨(some 7), none, (.v (.mov (.t 0)))⟩, ⟨(some 8), none, (.v (.bin .lss (.t 7) (.c (.int .i64 0))))⟩]) (.cond (.t 8) (.reg [⟨(some 9), none, (.v (.mov (.t 3)))⟩, ⟨(some 10), none, (.v (.un .neg (.t 9)))⟩, ⟨(some 3), none, (.v (.mov (.t 10)))⟩]) .skip)) c_ref1_Digits_2
def c_ref1_Digits_4 : SC := .seq (.reg [⟨(some 5), none, (.v (.mov (.t 0)))⟩, ⟨(some 6), none, (.v (.conv (.int .u64) (.t 5)))⟩, ⟨(some 3), none, (.v (.mov (.t 6)))⟩, ⟨(some 4), none, (.v (.mov (.c (.str []))))⟩]) c_ref1_Digits_3
def sc_ref1_Digits : SFunc := ⟨1, 35, .seq (.reg [⟨(some 2), none, (.v (.mov (.c (.str []))))⟩]) c_ref1_Digits_4, [(.t 2)]⟩
noncomputable def k_ref1_Digits_1 (SP : Prg) (x : EO) : CO := fin [(.t 2)] (thC SP (inBlk 0 (x)) c_ref1_Digits_1)
theorem U_ref1_Digits : type_of% (And.intro (fun (SP : Prg) (ac : Ac) => congrFun (congrArg (E SP) c_ref1_Digits_1.eq_1) ac) <| And.intro (fun (SP : Prg) (ac : Ac) => congrFun (congrArg (E SP) b_ref1_Digits_1.eq_1) ac) <| And.intro (fun (SP : Prg) (ac : Ac) => congrFun (congrArg (E SP) c_ref1_Digits_2.eq_1) ac) <| And.intro (fun (SP : Prg) (ac : Ac) => congrFun (congrArg (E SP) c_ref1_Digits_3.eq_1) ac) <| And.intro (fun (SP : Prg) (ac : Ac) => congrFun (congrArg (E SP) c_ref1_Digits_4.eq_1) ac) <| sc_ref1_Digits.eq_1) := And.intro (fun (SP : Prg) (ac : Ac) => congrFun (congrArg (E SP) c_ref1_Digits_1.eq_1) ac) <| And.intro (fun (SP : Prg) (ac : Ac) => congrFun (congrArg (E SP) b_ref1_Digits_1.eq_1) ac) <| And.intro (fun (SP : Prg) (ac : Ac) => congrFun (congrArg (E SP) c_ref1_Digits_2.eq_1) ac) <| And.intro (fun (SP : Prg) (ac : Ac) => congrFun (congrArg (E SP) c_ref1_Digits_3.eq_1) ac) <| And.intro (fun (SP : Prg) (ac : Ac) => congrFun (congrArg (E SP) c_ref1_Digits_4.eq_1) ac) <| sc_ref1_Digits.eq_1
theorem comp_ref1_Digits : comp Tryz.prog Tryz.f16 = some sc_ref1_Digits := by kernel_rfl
end Go.Proofs.YtfbcnpbhhooapaaGreatDoor.M

/- Trees of functions, printed by a program of this session (lift.py): what a run asks, over plain data. Lean proves each. -/
namespace Go.Proofs.YtfbcnpbhhooapaaGreatDoor.M
set_option linter.unusedSimpArgs false
set_option linter.unusedVariables false
open Go Classical
theorem sp_lex_class : SP 137 = some (.code sc_lex_class) := SPof_code rfl Tryz.func137 comp_lex_class
/-! doorkeeper/lex.class -/
set_option maxHeartbeats 4000000 in
theorem lex_class_tree (c : UInt8) (r : Int) (T :
  (((c.toNat : Int) = 32) →
  1 = r) ∧
 (¬ ((c.toNat : Int) = 32) →
  (((c.toNat : Int) = 10) →
   1 = r) ∧
  (¬ ((c.toNat : Int) = 10) →
   (((c.toNat : Int) = 95) →
    2 = r) ∧
   (¬ ((c.toNat : Int) = 95) →
    ((97 ≤ (c.toNat : Int)) →
     (((c.toNat : Int) ≤ 122) →
      2 = r) ∧
     (¬ ((c.toNat : Int) ≤ 122) →
      ((48 ≤ (c.toNat : Int)) →
       (((c.toNat : Int) ≤ 57) →
        3 = r) ∧
       (¬ ((c.toNat : Int) ≤ 57) →
        (((c.toNat : Int) = 34) →
         4 = r) ∧
        (¬ ((c.toNat : Int) = 34) →
         (((c.toNat : Int) = 35) →
          5 = r) ∧
         (¬ ((c.toNat : Int) = 35) →
          0 = r)))) ∧
      (¬ (48 ≤ (c.toNat : Int)) →
       (((c.toNat : Int) = 34) →
        4 = r) ∧
       (¬ ((c.toNat : Int) = 34) →
        (((c.toNat : Int) = 35) →
         5 = r) ∧
        (¬ ((c.toNat : Int) = 35) →
         0 = r))))) ∧
    (¬ (97 ≤ (c.toNat : Int)) →
     ((48 ≤ (c.toNat : Int)) →
      (((c.toNat : Int) ≤ 57) →
       3 = r) ∧
      (¬ ((c.toNat : Int) ≤ 57) →
       (((c.toNat : Int) = 34) →
        4 = r) ∧
       (¬ ((c.toNat : Int) = 34) →
        (((c.toNat : Int) = 35) →
         5 = r) ∧
        (¬ ((c.toNat : Int) = 35) →
         0 = r)))) ∧
     (¬ (48 ≤ (c.toNat : Int)) →
      (((c.toNat : Int) = 34) →
       4 = r) ∧
      (¬ ((c.toNat : Int) = 34) →
       (((c.toNat : Int) = 35) →
        5 = r) ∧
       (¬ ((c.toNat : Int) = 35) →
        0 = r)))))))) : R_lex_class c r := by
 intro S
 rw [call_code sp_lex_class _ _ rfl]
 have F := U_lex_class
 by_cases c1 : (c.toNat : Int) = 32
 · replace T := T.1 c1
   obtain rfl := T
   exact fi (aa (eq_true c1) <| F)
 · replace T := T.2 c1
   replace F := aa (eq_false c1) <| F
   by_cases c2 : (c.toNat : Int) = 10
   · replace T := T.1 c2
     obtain rfl := T
     exact fi (aa (eq_true c2) <| F)
   · replace T := T.2 c2
     replace F := aa (eq_false c2) <| F
     by_cases c3 : (c.toNat : Int) = 95
     · replace T := T.1 c3
       obtain rfl := T
       exact fi (aa (eq_true c3) <| F)
     · replace T := T.2 c3
       replace F := aa (eq_false c3) <| F
       by_cases c4 : 97 ≤ (c.toNat : Int)
       · replace T := T.1 c4
         replace F := aa (eq_true c4) <| F
         by_cases c5 : (c.toNat : Int) ≤ 122
         · replace T := T.1 c5
           obtain rfl := T
           exact fi (aa (eq_true c5) <| F)
         · replace T := T.2 c5
           replace F := aa (eq_false c5) <| F
           by_cases c6 : 48 ≤ (c.toNat : Int)
           · replace T := T.1 c6
             replace F := aa (eq_true c6) <| F
             by_cases c7 : (c.toNat : Int) ≤ 57
             · replace T := T.1 c7
               obtain rfl := T
               exact fi (aa (eq_true c7) <| F)
             · replace T := T.2 c7
               replace F := aa (eq_false c7) <| F
               by_cases c8 : (c.toNat : Int) = 34
               · replace T := T.1 c8
                 obtain rfl := T
                 exact fi (aa (eq_true c8) <| F)
               · replace T := T.2 c8
                 replace F := aa (eq_false c8) <| F
                 by_cases c9 : (c.toNat : Int) = 35
                 · replace T := T.1 c9
                   obtain rfl := T
                   exact fi (aa (eq_true c9) <| F)
                 · replace T := T.2 c9
                   obtain rfl := T
                   exact fi (aa (eq_false c9) <| F)
           · replace T := T.2 c6
             replace F := aa (eq_false c6) <| F
             by_cases c10 : (c.toNat : Int) = 34
             · replace T := T.1 c10
               obtain rfl := T
               exact fi (aa (eq_true c10) <| F)
             · replace T := T.2 c10
               replace F := aa (eq_false c10) <| F
               by_cases c11 : (c.toNat : Int) = 35
               · replace T := T.1 c11
                 obtain rfl := T
                 exact fi (aa (eq_true c11) <| F)
               · replace T := T.2 c11
                 obtain rfl := T
                 exact fi (aa (eq_false c11) <| F)
       · replace T := T.2 c4
         replace F := aa (eq_false c4) <| F
         by_cases c12 : 48 ≤ (c.toNat : Int)
         · replace T := T.1 c12
           replace F := aa (eq_true c12) <| F
           by_cases c13 : (c.toNat : Int) ≤ 57
           · replace T := T.1 c13
             obtain rfl := T
             exact fi (aa (eq_true c13) <| F)
           · replace T := T.2 c13
             replace F := aa (eq_false c13) <| F
             by_cases c14 : (c.toNat : Int) = 34
             · replace T := T.1 c14
               obtain rfl := T
               exact fi (aa (eq_true c14) <| F)
             · replace T := T.2 c14
               replace F := aa (eq_false c14) <| F
               by_cases c15 : (c.toNat : Int) = 35
               · replace T := T.1 c15
                 obtain rfl := T
                 exact fi (aa (eq_true c15) <| F)
               · replace T := T.2 c15
                 obtain rfl := T
                 exact fi (aa (eq_false c15) <| F)
         · replace T := T.2 c12
           replace F := aa (eq_false c12) <| F
           by_cases c16 : (c.toNat : Int) = 34
           · replace T := T.1 c16
             obtain rfl := T
             exact fi (aa (eq_true c16) <| F)
           · replace T := T.2 c16
             replace F := aa (eq_false c16) <| F
             by_cases c17 : (c.toNat : Int) = 35
             · replace T := T.1 c17
               obtain rfl := T
               exact fi (aa (eq_true c17) <| F)
             · replace T := T.2 c17
               obtain rfl := T
               exact fi (aa (eq_false c17) <| F)
theorem sp_lex_span : SP 151 = some (.code sc_lex_span) := SPof_code rfl Tryz.func151 comp_lex_span
/-! doorkeeper/lex.span -/
def At_lex_span_1 (s : List UInt8) (classes : List Int) (i1 : Int) (r : Int) : Prop := ∀ (S : Sto) (e : Nat → PV) (f : Fr), e 0 = .str s ∧ e 1 = .list 1 (classes.map eI) false ∧ e 7 = .int .i64 (s.length : Int) ∧ e 8 = .int .i64 i1 → k_lex_span_1 SP (E SP (.loop b_lex_span_1) ⟨e, f :: S⟩) = .ok (.v (.int .i64 r)) S
set_option maxHeartbeats 4000000 in
theorem At_lex_span_1_step (s : List UInt8) (classes : List Int) (i1 : Int) (r : Int) (T :
  ((i1 < (s.length : Int)) →
  (0 ≤ i1) ∧
  ∃ (b2 : UInt8), (s[i1.toNat]? = some b2) ∧
  ∃ (r3 : Int), (R_lex_class b2 r3) ∧
  ∃ (r4 : Bool), (R_slices_Contains_int_int classes r3 r4) ∧
  ((r4 = true) →
   (I64 (i1 + 1)) ∧
   At_lex_span_1 s classes (i1 + 1) r) ∧
  (¬ (r4 = true) →
   i1 = r)) ∧
 (¬ (i1 < (s.length : Int)) →
  (s.length : Int) = r)) : At_lex_span_1 s classes i1 r := by
 intro S e f h
 unfold k_lex_span_1
 rw [E_loop]
 have F := U_lex_span
 replace F := aa h <| F
 by_cases c1 : i1 < (s.length : Int)
 · replace T := T.1 c1
   obtain ⟨p2, b2, q3, r3, q4, r4, q5, T⟩ := T
   simp only [R_lex_class, le, List.cons_append, List.nil_append] at q4
   simp only [R_slices_Contains_int_int, le, List.cons_append, List.nil_append] at q5
   replace F := aa (eq_true c1) <| aa p2 <| aa q3 <| aa q4 <| aa q5 <| F
   by_cases c6 : r4 = true
   · replace T := T.1 c6
     obtain ⟨p7, T⟩ := T
     replace F := aa c6 <| aa p7.wrap <| F
     try simp only [F, lw, lx, le, Nat.reduceMul, UInt8.reduceToNat, reduceIte, reduceCtorEq, Nat.reduceEqDiff, Nat.reduceAdd, Nat.reduceLeDiff, Nat.reduceSub, Nat.reduceLT, Int.reduceEq, Int.reduceLT, Int.reduceLE, Int.reduceToNat, Int.reduceAdd, Int.reduceSub, Int.reduceMul, Int.reduceNeg]
     refine T S _ _ ?_
     exact fi F
   · replace T := T.2 c6
     replace c6 := Bool.eq_false_iff.2 c6
     obtain rfl := T
     exact fi (aa c6 <| F)
 · replace T := T.2 c1
   obtain rfl := T
   exact fi (aa (eq_false c1) <| F)
set_option maxHeartbeats 4000000 in
theorem lex_span_tree (s : List UInt8) (classes : List Int) (r : Int) (T :
  At_lex_span_1 s classes 0 r) : R_lex_span s classes r := by
 intro S
 rw [call_code sp_lex_span _ _ rfl]
 have F := U_lex_span
 try simp only [F, lw, lx, le, Nat.reduceMul, UInt8.reduceToNat, reduceIte, reduceCtorEq, Nat.reduceEqDiff, Nat.reduceAdd, Nat.reduceLeDiff, Nat.reduceSub, Nat.reduceLT, Int.reduceEq, Int.reduceLT, Int.reduceLE, Int.reduceToNat, Int.reduceAdd, Int.reduceSub, Int.reduceMul, Int.reduceNeg]
 refine T S _ _ ?_
 exact fi F
theorem sp_lex_text_take : SP 135 = some (.code sc_lex_text_take) := SPof_code rfl Tryz.func135 comp_lex_text_take
/-! (*doorkeeper/lex.text).take -/
set_option maxHeartbeats 4000000 in
theorem lex_text_take_tree (t : LText) (n : Int) (r : List UInt8) (t' : LText) (T :
  (0 ≤ n) ∧ (n.toNat ≤ t.left.length) ∧
 (0 ≤ n) ∧ (n.toNat ≤ t.left.length) ∧
 (I64 (t.pos + n)) ∧
 (t.left.take (n.toNat)) = r ∧ (LText.mk ((t.left.drop n.toNat).take (t.left.length - n.toNat)) (t.pos + n)) = t') : R_lex_text_take t n r t' := by
 intro S n0 t0 H0
 have hb0 := H0
 obtain ⟨w0, hB0⟩ := take_some hb0
 have hn0 := o_getBox_lt hB0
 rw [call_code sp_lex_text_take _ _ rfl]
 have F := U_lex_text_take
 obtain ⟨p1, p2, p3, p4, p5, rfl, rfl⟩ := T
 exact fi (aa hB0 <| aa hn0 <| aa p1 <| aa p2 <| aa p3 <| aa p4 <| aa p5.wrap <| F)
theorem sp_lex_text_word : SP 134 = some (.code sc_lex_text_word) := SPof_code rfl Tryz.func134 comp_lex_text_word
/-! (*doorkeeper/lex.text).word -/
set_option maxHeartbeats 4000000 in
theorem lex_text_word_tree (t : LText) (classes : List Int) (r : List UInt8) (t' : LText) (T :
  ∃ (r1 : Int), (R_lex_span t.left classes r1) ∧
 ∃ (r2 : List UInt8) (y3 : LText), (R_lex_text_take t r1 r2 y3) ∧
 r2 = r ∧ y3 = t') : R_lex_text_word t classes r t' := by
 intro S n0 t0 H0
 have hb0 := H0
 obtain ⟨w0, hB0⟩ := take_some hb0
 have hn0 := o_getBox_lt hB0
 rw [call_code sp_lex_text_word _ _ rfl]
 have F := U_lex_text_word
 obtain ⟨r1, q1, r2, y3, q2, rfl, rfl⟩ := T
 simp only [R_lex_span, le, List.cons_append, List.nil_append] at q1
 simp only [R_lex_text_take, le, List.cons_append, List.nil_append] at q2
 exact fi (aa hB0 <| aa hn0 <| aa q1 <| aa q2 <| F)
theorem sp_lex_parts_plain : SP 165 = some (.code sc_lex_parts_plain) := SPof_code rfl Tryz.func165 comp_lex_parts_plain
/-! (*doorkeeper/lex.parts).plain -/
set_option maxHeartbeats 4000000 in
theorem lex_parts_plain_tree (p : List Part) (p_g0 : Nat) (p_z0 : Bool) (c : UInt8) (p' : List Part) (p'_g0 : Nat) (p'_z0 : Bool) (T :
  (((p.length : Int) = 0) →
  (bigRow (p.length + 1) 24) ∧
  (I64 ((p.length : Int) + 1)) ∧
  (I64 (((p.length : Int) + 1) - 1)) ∧
  (0 ≤ (((p.length : Int) + 1) - 1)) ∧ ((((p.length : Int) + 1) - 1).toNat < p.length + 1) ∧
  ∃ (v1 : Part), ((p ++ [(Part.mk false [])])[(((p.length : Int) + 1) - 1).toNat]? = some v1) ∧
  (v1.Text.length + 1 ≤ maxInt) ∧
  (0 ≤ (((p.length : Int) + 1) - 1)) ∧ ((((p.length : Int) + 1) - 1).toNat < p.length + 1) ∧
  (p_z0 = false) ∧
  ((p ++ [(Part.mk false [])]).set ((((p.length : Int) + 1) - 1).toNat) (Part.mk v1.Ref (v1.Text ++ [c]))) = p' ∧ p_g0 = p'_g0 ∧ p_z0 = p'_z0) ∧
 (¬ ((p.length : Int) = 0) →
  (I64 ((p.length : Int) - 1)) ∧
  (0 ≤ ((p.length : Int) - 1)) ∧ (((p.length : Int) - 1).toNat < p.length) ∧
  ∃ (v2 : Part), (p[((p.length : Int) - 1).toNat]? = some v2) ∧
  ((v2.Ref = true) →
   (bigRow (p.length + 1) 24) ∧
   (I64 ((p.length : Int) + 1)) ∧
   (I64 (((p.length : Int) + 1) - 1)) ∧
   (0 ≤ (((p.length : Int) + 1) - 1)) ∧ ((((p.length : Int) + 1) - 1).toNat < p.length + 1) ∧
   ∃ (v3 : Part), ((p ++ [(Part.mk false [])])[(((p.length : Int) + 1) - 1).toNat]? = some v3) ∧
   (v3.Text.length + 1 ≤ maxInt) ∧
   (0 ≤ (((p.length : Int) + 1) - 1)) ∧ ((((p.length : Int) + 1) - 1).toNat < p.length + 1) ∧
   (p_z0 = false) ∧
   ((p ++ [(Part.mk false [])]).set ((((p.length : Int) + 1) - 1).toNat) (Part.mk v3.Ref (v3.Text ++ [c]))) = p' ∧ p_g0 = p'_g0 ∧ p_z0 = p'_z0) ∧
  (¬ (v2.Ref = true) →
   (I64 ((p.length : Int) - 1)) ∧
   (0 ≤ ((p.length : Int) - 1)) ∧ (((p.length : Int) - 1).toNat < p.length) ∧
   (v2.Text.length + 1 ≤ maxInt) ∧
   (0 ≤ ((p.length : Int) - 1)) ∧ (((p.length : Int) - 1).toNat < p.length) ∧
   (p_z0 = false) ∧
   (p.set (((p.length : Int) - 1).toNat) (Part.mk v2.Ref (v2.Text ++ [c]))) = p' ∧ p_g0 = p'_g0 ∧ p_z0 = p'_z0))) : R_lex_parts_plain p p_g0 p_z0 c p' p'_g0 p'_z0 := by
 intro S n0 t0 H0
 obtain ⟨hb0, ha0⟩ := H0
 obtain ⟨w0, hB0⟩ := take_some hb0
 have hn0 := o_getBox_lt hB0
 rw [call_code sp_lex_parts_plain _ _ rfl]
 have F := U_lex_parts_plain
 replace F := aa ha0 <| aa hB0 <| aa hn0 <| F
 by_cases c1 : (p.length : Int) = 0
 · replace T := T.1 c1
   obtain ⟨p2, p3, p4, p5, p6, v1, q7, p8, p9, p10, p11, rfl, rfl, rfl⟩ := T
   simp only [bigRow] at p2
   replace q7 := congrArg (Option.map ePart) q7
   rw [← List.getElem?_map] at q7
   simp only [le, List.map_append, Option.map_some] at q7
   exact fi (aa (eq_true c1) <| aa p2 <| aa p3.wrap <| aa p4.wrap <| aa p5 <| aa p6 <| aa q7 <| aa p8 <| aa p9 <| aa p10 <| aa p11 <| F)
 · replace T := T.2 c1
   obtain ⟨p12, p13, p14, v2, q15, T⟩ := T
   replace F := aa (eq_false c1) <| aa p12.wrap <| aa p13 <| aa p14 <| aa q15 <| F
   by_cases c16 : v2.Ref = true
   · replace T := T.1 c16
     obtain ⟨p17, p18, p19, p20, p21, v3, q22, p23, p24, p25, p26, rfl, rfl, rfl⟩ := T
     simp only [bigRow] at p17
     replace q22 := congrArg (Option.map ePart) q22
     rw [← List.getElem?_map] at q22
     simp only [le, List.map_append, Option.map_some] at q22
     exact fi (aa c16 <| aa p17 <| aa p18.wrap <| aa p19.wrap <| aa p20 <| aa p21 <| aa q22 <| aa p23 <| aa p24 <| aa p25 <| aa p26 <| F)
   · replace T := T.2 c16
     replace c16 := Bool.eq_false_iff.2 c16
     obtain ⟨p27, p28, p29, p30, p31, p32, p33, rfl, rfl, rfl⟩ := T
     exact fi (aa c16 <| aa p27.wrap <| aa p28 <| aa p29 <| aa p30 <| aa p31 <| aa p32 <| aa p33 <| F)
theorem sp_lex_escaped : SP 164 = some (.code sc_lex_escaped) := SPof_code rfl Tryz.func164 comp_lex_escaped
/-! doorkeeper/lex.escaped -/
set_option maxHeartbeats 4000000 in
theorem lex_escaped_tree (s : List UInt8) (ra : UInt8) (rb : Bool) (T :
  (((s.length : Int) < 2) →
  (0 : UInt8) = ra ∧ false = rb) ∧
 (¬ ((s.length : Int) < 2) →
  ∃ (b1 : UInt8), (s[1]? = some b1) ∧
  ∃ (r2 : Int), (R_strings_IndexByte [34, 92, 36, 110] b1 r2) ∧
  ((r2 < 0) →
   (0 : UInt8) = ra ∧ false = rb) ∧
  (¬ (r2 < 0) →
   (0 ≤ r2) ∧
   ∃ (b3 : UInt8), ([34, 92, 36, 10][r2.toNat]? = some b3) ∧
   b3 = ra ∧ true = rb))) : R_lex_escaped s ra rb := by
 intro S
 rw [call_code sp_lex_escaped _ _ rfl]
 have F := U_lex_escaped
 by_cases c1 : (s.length : Int) < 2
 · replace T := T.1 c1
   obtain ⟨rfl, rfl⟩ := T
   exact fi (aa (eq_true c1) <| F)
 · replace T := T.2 c1
   obtain ⟨b1, q2, r2, q3, T⟩ := T
   simp only [R_strings_IndexByte, le, List.cons_append, List.nil_append] at q3
   replace F := aa (eq_false c1) <| aa q2 <| aa q3 <| F
   by_cases c4 : r2 < 0
   · replace T := T.1 c4
     obtain ⟨rfl, rfl⟩ := T
     exact fi (aa (eq_true c4) <| F)
   · replace T := T.2 c4
     obtain ⟨p5, b3, q6, rfl, rfl⟩ := T
     exact fi (aa (eq_false c4) <| aa p5 <| aa q6 <| F)
theorem sp_lex_reference : SP 166 = some (.code sc_lex_reference) := SPof_code rfl Tryz.func166 comp_lex_reference
/-! doorkeeper/lex.reference -/
set_option maxHeartbeats 4000000 in
theorem lex_reference_tree (s : List UInt8) (ra : List UInt8) (rb : Bool) (T :
  (2 ≤ s.length) ∧
 ∃ (r1 : List UInt8) (r2 : List UInt8) (r3 : Bool), (R_strings_Cut ((s.drop 2).take (s.length - 2)) [125] r1 r2 r3) ∧
 ∃ (r4 : List UInt8) (r5 : List UInt8) (r6 : Bool), (R_strings_Cut r1 [46] r4 r5 r6) ∧
 ((r3 = true) →
  ((r6 = true) →
   ∃ (r7 : Bool), (R_lex_Name r4 r7) ∧
   ((r7 = true) →
    ∃ (r8 : Bool), (R_lex_Name r5 r8) ∧
    r1 = ra ∧ r8 = rb) ∧
   (¬ (r7 = true) →
    r1 = ra ∧ false = rb)) ∧
  (¬ (r6 = true) →
   r1 = ra ∧ false = rb)) ∧
 (¬ (r3 = true) →
  r1 = ra ∧ false = rb)) : R_lex_reference s ra rb := by
 intro S
 rw [call_code sp_lex_reference _ _ rfl]
 have F := U_lex_reference
 obtain ⟨p1, r1, r2, r3, q2, r4, r5, r6, q3, T⟩ := T
 simp only [R_strings_Cut, le, List.cons_append, List.nil_append] at q2
 simp only [R_strings_Cut, le, List.cons_append, List.nil_append] at q3
 replace F := aa p1 <| aa q2 <| aa q3 <| F
 by_cases c4 : r3 = true
 · replace T := T.1 c4
   replace F := aa c4 <| F
   by_cases c5 : r6 = true
   · replace T := T.1 c5
     obtain ⟨r7, q6, T⟩ := T
     simp only [R_lex_Name, le, List.cons_append, List.nil_append] at q6
     replace F := aa c5 <| aa q6 <| F
     by_cases c7 : r7 = true
     · replace T := T.1 c7
       obtain ⟨r8, q8, rfl, rfl⟩ := T
       simp only [R_lex_Name, le, List.cons_append, List.nil_append] at q8
       exact fi (aa c7 <| aa q8 <| F)
     · replace T := T.2 c7
       replace c7 := Bool.eq_false_iff.2 c7
       obtain ⟨rfl, rfl⟩ := T
       exact fi (aa c7 <| F)
   · replace T := T.2 c5
     replace c5 := Bool.eq_false_iff.2 c5
     obtain ⟨rfl, rfl⟩ := T
     exact fi (aa c5 <| F)
 · replace T := T.2 c4
   replace c4 := Bool.eq_false_iff.2 c4
   obtain ⟨rfl, rfl⟩ := T
   exact fi (aa c4 <| F)
theorem sp_lex_Name : SP 115 = some (.code sc_lex_Name) := SPof_code rfl Tryz.func115 comp_lex_Name
/-! doorkeeper/lex.Name -/
set_option maxHeartbeats 4000000 in
theorem lex_Name_tree (s : List UInt8) (r : Bool) (T :
  ((s = []) →
  false = r) ∧
 (¬ (s = []) →
  (((s.length : Int) ≤ 24) →
   ∃ (b1 : UInt8), (s[0]? = some b1) ∧
   ∃ (r2 : Int), (R_lex_class b1 r2) ∧
   ((r2 = 2) →
    ∃ (r3 : Int), (R_lex_span s [2, 3] r3) ∧
    (decide (r3 = (s.length : Int))) = r) ∧
   (¬ (r2 = 2) →
    false = r)) ∧
  (¬ ((s.length : Int) ≤ 24) →
   false = r))) : R_lex_Name s r := by
 intro S
 rw [call_code sp_lex_Name _ _ rfl]
 have F := U_lex_Name
 by_cases c1 : s = []
 · replace T := T.1 c1
   obtain rfl := T
   exact fi (aa (eq_true c1) <| F)
 · replace T := T.2 c1
   replace F := aa (eq_false c1) <| F
   by_cases c2 : (s.length : Int) ≤ 24
   · replace T := T.1 c2
     obtain ⟨b1, q3, r2, q4, T⟩ := T
     simp only [R_lex_class, le, List.cons_append, List.nil_append] at q4
     replace F := aa (eq_true c2) <| aa q3 <| aa q4 <| F
     by_cases c5 : r2 = 2
     · replace T := T.1 c5
       obtain ⟨r3, q6, rfl⟩ := T
       simp only [R_lex_span, le, List.cons_append, List.nil_append] at q6
       exact fi (aa (eq_true c5) <| aa q6 <| F)
     · replace T := T.2 c5
       obtain rfl := T
       exact fi (aa (eq_false c5) <| F)
   · replace T := T.2 c2
     obtain rfl := T
     exact fi (aa (eq_false c2) <| F)
/-! doorkeeper/doorkeeperref1.digit -/
/-! doorkeeper/doorkeeperref1.begins -/
/-! doorkeeper/doorkeeperref1.nameEnd -/
/-! doorkeeper/doorkeeperref1.Name -/
/-! doorkeeper/doorkeeperref1.Dotted -/
/-! doorkeeper/doorkeeperref1.sign -/
/-! doorkeeper/doorkeeperref1.number -/
/-! doorkeeper/doorkeeperref1.reference -/
/-! doorkeeper/doorkeeperref1.text -/
def At_ref1_text_1 (s : List UInt8) (i : Int) (i1 : Int) (i2 : Int) (s3 : List UInt8) (i4 : Int) (i5 : Int) (l6 : List Part) (g7 : Nat) (l8 : List Part) (l9 : List UInt8) (ra : Token) (rb : Int) : Prop := ∀ (S : Sto) (e : Nat → PV) (f : Fr), e 0 = .str s ∧ e 1 = .int .i64 i ∧ e 4 = .ptr 0 4 0 ∧ e 6 = .sl 0 (.slot 6) 0 l8.length l8.length 0 false ∧ e 7 = .sl 0 (.slot 7) 0 l9.length l9.length 0 false ∧ e 8 = .int .i64 i1 ∧ f.box 4 = some [.int .i64 i2, .str s3, .int .i64 i4, .sl 0 (.cell 4 3) 0 l6.length l6.length g7 false, .int .i64 i5] ∧ f.arr (.cell 4 3) = some ⟨2, l6.map ePart, false, g7⟩ ∧ f.arr (.slot 6) = some ⟨2, l8.map ePart, false, 0⟩ ∧ f.arr (.slot 7) = some ⟨1, l9.map eB, false, 0⟩ → k_ref1_text_1 SP (E SP (.loop b_ref1_text_1) ⟨e, f :: S⟩) = .ok (.v (.tup [.agg [.int .i64 ra.Kind, .str ra.Text, .int .i64 ra.Num, .list 2 (ra.Parts.map ePart) false, .int .i64 ra.At], .int .i64 rb])) S
/-! doorkeeper/doorkeeperref1.token -/
theorem sp_ref1_SameParts : SP 43 = some (.code sc_ref1_SameParts) := SPof_code rfl Tryz.func43 comp_ref1_SameParts
/-! doorkeeper/doorkeeperref1.SameParts -/
def At_ref1_SameParts_1 (a : List Part) (b : List Part) (i1 : Int) (r : Bool) : Prop := ∀ (S : Sto) (e : Nat → PV) (f : Fr), e 0 = .list 2 (a.map ePart) false ∧ e 1 = .list 2 (b.map ePart) false ∧ e 5 = .int .i64 i1 → k_ref1_SameParts_1 SP (E SP (.loop b_ref1_SameParts_1) ⟨e, f :: S⟩) = .ok (.v (.bool r)) S
set_option maxHeartbeats 4000000 in
theorem At_ref1_SameParts_1_step (a : List Part) (b : List Part) (i1 : Int) (r : Bool) (T :
  ((i1 < (a.length : Int)) →
  (0 ≤ i1) ∧
  ∃ (v2 : Part), (a[i1.toNat]? = some v2) ∧
  (0 ≤ i1) ∧
  ∃ (v3 : Part), (b[i1.toNat]? = some v3) ∧
  (((v2.Ref = v3.Ref) ∧ (v2.Text = v3.Text)) →
   (I64 (i1 + 1)) ∧
   At_ref1_SameParts_1 a b (i1 + 1) r) ∧
  (¬ ((v2.Ref = v3.Ref) ∧ (v2.Text = v3.Text)) →
   false = r)) ∧
 (¬ (i1 < (a.length : Int)) →
  true = r)) : At_ref1_SameParts_1 a b i1 r := by
 intro S e f h
 unfold k_ref1_SameParts_1
 rw [E_loop]
 have F := U_ref1_SameParts
 replace F := aa h <| F
 by_cases c1 : i1 < (a.length : Int)
 · replace T := T.1 c1
   obtain ⟨p2, v2, q3, p4, v3, q5, T⟩ := T
   replace F := aa (eq_true c1) <| aa p2 <| aa q3 <| aa p4 <| aa q5 <| F
   by_cases c6 : (v2.Ref = v3.Ref) ∧ (v2.Text = v3.Text)
   · replace T := T.1 c6
     obtain ⟨p7, T⟩ := T
     replace F := aa (eq_true c6.1) <| aa (eq_true c6.2) <| aa p7.wrap <| F
     try simp only [F, lw, lx, le, Nat.reduceMul, UInt8.reduceToNat, reduceIte, reduceCtorEq, Nat.reduceEqDiff, Nat.reduceAdd, Nat.reduceLeDiff, Nat.reduceSub, Nat.reduceLT, Int.reduceEq, Int.reduceLT, Int.reduceLE, Int.reduceToNat, Int.reduceAdd, Int.reduceSub, Int.reduceMul, Int.reduceNeg]
     refine T S _ _ ?_
     exact fi F
   · replace T := T.2 c6
     have c6' : (decide (v2.Ref = v3.Ref) && (decide (v2.Text = v3.Text))) = false := by simp only [← Bool.not_eq_true, Bool.and_eq_true, decide_eq_true_eq]; first | exact c6 | simpa using c6
     obtain rfl := T
     exact fi (aa c6' <| F)
 · replace T := T.2 c1
   obtain rfl := T
   exact fi (aa (eq_false c1) <| F)
set_option maxHeartbeats 4000000 in
theorem ref1_SameParts_tree (a : List Part) (b : List Part) (r : Bool) (T :
  (((a.length : Int) = (b.length : Int)) →
  At_ref1_SameParts_1 a b 0 r) ∧
 (¬ ((a.length : Int) = (b.length : Int)) →
  false = r)) : R_ref1_SameParts a b r := by
 intro S
 rw [call_code sp_ref1_SameParts _ _ rfl]
 have F := U_ref1_SameParts
 by_cases c1 : (a.length : Int) = (b.length : Int)
 · replace T := T.1 c1
   replace F := aa (eq_true c1) <| F
   try simp only [F, lw, lx, le, Nat.reduceMul, UInt8.reduceToNat, reduceIte, reduceCtorEq, Nat.reduceEqDiff, Nat.reduceAdd, Nat.reduceLeDiff, Nat.reduceSub, Nat.reduceLT, Int.reduceEq, Int.reduceLT, Int.reduceLE, Int.reduceToNat, Int.reduceAdd, Int.reduceSub, Int.reduceMul, Int.reduceNeg]
   refine T S _ _ ?_
   exact fi F
 · replace T := T.2 c1
   obtain rfl := T
   exact fi (aa (eq_false c1) <| F)
/-! doorkeeper/doorkeeperref1.Lex -/
theorem sp_ref1_Digits : SP 16 = some (.code sc_ref1_Digits) := SPof_code rfl Tryz.func16 comp_ref1_Digits
/-! doorkeeper/doorkeeperref1.Digits -/
def At_ref1_Digits_1 (n : Int) (i1 : Int) (s2 : List UInt8) (r : List UInt8) : Prop := ∀ (S : Sto) (e : Nat → PV) (f : Fr), e 0 = .int .i64 n ∧ e 3 = .int .u64 i1 ∧ e 4 = .str s2 → k_ref1_Digits_1 SP (E SP (.loop b_ref1_Digits_1) ⟨e, f :: S⟩) = .ok (.v (.str r)) S
set_option maxHeartbeats 4000000 in
theorem At_ref1_Digits_1_step (n : Int) (i1 : Int) (s2 : List UInt8) (r : List UInt8) (T :
  ((10 ≤ i1) →
  (U64 (48 + (i1.tmod 10))) ∧
  (U8 ((48 + (i1.tmod 10)))) ∧
  (1 + s2.length ≤ maxInt) ∧
  (U64 (i1.tdiv 10)) ∧
  At_ref1_Digits_1 n (i1.tdiv 10) ([(UInt8.ofNat ((48 + (i1.tmod 10))).toNat)] ++ s2) r) ∧
 (¬ (10 ≤ i1) →
  (U64 (48 + i1)) ∧
  (U8 ((48 + i1))) ∧
  (1 + s2.length ≤ maxInt) ∧
  ((n < 0) →
   (1 + (s2.length + 1) ≤ maxInt) ∧
   ([45] ++ ([(UInt8.ofNat ((48 + i1)).toNat)] ++ s2)) = r) ∧
  (¬ (n < 0) →
   ([(UInt8.ofNat ((48 + i1)).toNat)] ++ s2) = r))) : At_ref1_Digits_1 n i1 s2 r := by
 intro S e f h
 unfold k_ref1_Digits_1
 rw [E_loop]
 have F := U_ref1_Digits
 replace F := aa h <| F
 by_cases c1 : 10 ≤ i1
 · replace T := T.1 c1
   obtain ⟨p2, p3, p4, p5, T⟩ := T
   replace F := aa (eq_true c1) <| aa p2.wrap <| aa p3.wrap <| aa p4 <| aa p5.wrap <| F
   try simp only [F, lw, lx, le, Nat.reduceMul, UInt8.reduceToNat, reduceIte, reduceCtorEq, Nat.reduceEqDiff, Nat.reduceAdd, Nat.reduceLeDiff, Nat.reduceSub, Nat.reduceLT, Int.reduceEq, Int.reduceLT, Int.reduceLE, Int.reduceToNat, Int.reduceAdd, Int.reduceSub, Int.reduceMul, Int.reduceNeg]
   refine T S _ _ ?_
   exact fi F
 · replace T := T.2 c1
   obtain ⟨p6, p7, p8, T⟩ := T
   replace F := aa (eq_false c1) <| aa p6.wrap <| aa p7.wrap <| aa p8 <| F
   by_cases c9 : n < 0
   · replace T := T.1 c9
     obtain ⟨p10, rfl⟩ := T
     exact fi (aa (eq_true c9) <| aa p10 <| F)
   · replace T := T.2 c9
     obtain rfl := T
     exact fi (aa (eq_false c9) <| F)
set_option maxHeartbeats 4000000 in
theorem ref1_Digits_tree (n : Int) (r : List UInt8) (T :
  ((n < 0) →
  At_ref1_Digits_1 n (IntKind.u64.wrap (0 - (IntKind.u64.wrap n))) [] r) ∧
 (¬ (n < 0) →
  At_ref1_Digits_1 n (IntKind.u64.wrap n) [] r)) : R_ref1_Digits n r := by
 intro S
 rw [call_code sp_ref1_Digits _ _ rfl]
 have F := U_ref1_Digits
 by_cases c1 : n < 0
 · replace T := T.1 c1
   replace F := aa (eq_true c1) <| F
   try simp only [F, lw, lx, le, Nat.reduceMul, UInt8.reduceToNat, reduceIte, reduceCtorEq, Nat.reduceEqDiff, Nat.reduceAdd, Nat.reduceLeDiff, Nat.reduceSub, Nat.reduceLT, Int.reduceEq, Int.reduceLT, Int.reduceLE, Int.reduceToNat, Int.reduceAdd, Int.reduceSub, Int.reduceMul, Int.reduceNeg]
   refine T S _ _ ?_
   exact fi F
 · replace T := T.2 c1
   replace F := aa (eq_false c1) <| F
   try simp only [F, lw, lx, le, Nat.reduceMul, UInt8.reduceToNat, reduceIte, reduceCtorEq, Nat.reduceEqDiff, Nat.reduceAdd, Nat.reduceLeDiff, Nat.reduceSub, Nat.reduceLT, Int.reduceEq, Int.reduceLT, Int.reduceLE, Int.reduceToNat, Int.reduceAdd, Int.reduceSub, Int.reduceMul, Int.reduceNeg]
   refine T S _ _ ?_
   exact fi F
end Go.Proofs.YtfbcnpbhhooapaaGreatDoor.M

/- The machine's code of the functions, printed by a program of this session (sc2.py) out of the translation. Not trusted: Lean checks each by its own computation. -/
namespace Go.Proofs.YtfbcnpbhhooapaaGreatDoor.M
open Go
set_option linter.unusedVariables false
/-- (doorkeeper/lex.tokens).skip -/
def c_lex_tokens_skip_1 : SC := .block 1 (.seq (.reg [⟨(some 17), none, (.v (.mov (.t 0)))⟩, ⟨(some 18), none, (.v (.nchk (.t 17)))⟩, ⟨(some 19), none, (.v (.faddr 0 (.t 18)))⟩, ⟨(some 20), none, (.v (.faddr 0 (.t 19)))⟩, ⟨(some 21), none, (.v (.load none (.t 20)))⟩, ⟨(some 22), none, (.call (.c (.func 112 [])) [(.t 21), (.c (.str [10]))])⟩, ⟨(some 16), none, (.v (.mov (.t 22)))⟩, ⟨(some 23), none, (.v (.extract 0 (.t 16)))⟩, ⟨(some 24), none, (.v (.extract 1 (.t 16)))⟩, ⟨(some 25), none, (.v (.extract 2 (.t 16)))⟩, ⟨(some 2), none, (.v (.mov (.t 23)))⟩, ⟨(some 3), none, (.v (.mov (.t 24)))⟩, ⟨(some 4), none, (.v (.mov (.t 25)))⟩]) (.seq (.reg [⟨(some 26), none, (.v (.mov (.t 0)))⟩, ⟨(some 27), none, (.v (.nchk (.t 26)))⟩, ⟨(some 28), none, (.v (.faddr 0 (.t 27)))⟩, ⟨(some 29), none, (.v (.mov (.t 2)))⟩, ⟨(some 30), none, (.v (.len true (.t 29)))⟩, ⟨(some 31), none, (.call (.c (.func 135 [])) [(.t 28), (.t 30)])⟩]) (.reg [⟨(some 32), none, (.v (.mov (.t 0)))⟩, ⟨(some 33), none, (.v (.nchk (.t 32)))⟩, ⟨(some 34), none, (.v (.faddr 0 (.t 33)))⟩, ⟨(some 35), none, (.bslice 1 1 [(.int .i64 0)] [(0, (.c (.int .i64 1)))])⟩, ⟨(some 36), none, (.call (.c (.func 134 [])) [(.t 34), (.t 35)])⟩])))
def b_lex_tokens_skip_1 : SC := .seq (.seq (.reg [⟨(some 10), none, (.v (.mov (.t 0)))⟩, ⟨(some 11), none, (.v (.nchk (.t 10)))⟩, ⟨(some 12), none, (.v (.faddr 0 (.t 11)))⟩, ⟨(some 13), none, (.v (.faddr 0 (.t 12)))⟩, ⟨(some 14), none, (.v (.load none (.t 13)))⟩, ⟨(some 15), none, (.call (.c (.func 129 [])) [(.t 14), (.c (.str [35]))])⟩]) (.cond (.t 15) .skip (.exit 0))) c_lex_tokens_skip_1
def c_lex_tokens_skip_2 : SC := .block 0 (.loop b_lex_tokens_skip_1)
def sc_lex_tokens_skip : SFunc := ⟨1, 37, .seq (.reg [⟨(some 5), none, (.v (.mov (.t 0)))⟩, ⟨(some 6), none, (.v (.nchk (.t 5)))⟩, ⟨(some 7), none, (.v (.faddr 0 (.t 6)))⟩, ⟨(some 8), none, (.bslice 1 1 [(.int .i64 0)] [(0, (.c (.int .i64 1)))])⟩, ⟨(some 9), none, (.call (.c (.func 134 [])) [(.t 7), (.t 8)])⟩]) c_lex_tokens_skip_2, []⟩
noncomputable def k_lex_tokens_skip_1 (SP : Prg) (x : EO) : CO := fin [] (inBlk 0 (x))
theorem U_lex_tokens_skip : type_of% (And.intro (fun (SP : Prg) (ac : Ac) => congrFun (congrArg (E SP) c_lex_tokens_skip_1.eq_1) ac) <| And.intro (fun (SP : Prg) (ac : Ac) => congrFun (congrArg (E SP) b_lex_tokens_skip_1.eq_1) ac) <| And.intro (fun (SP : Prg) (ac : Ac) => congrFun (congrArg (E SP) c_lex_tokens_skip_2.eq_1) ac) <| sc_lex_tokens_skip.eq_1) := And.intro (fun (SP : Prg) (ac : Ac) => congrFun (congrArg (E SP) c_lex_tokens_skip_1.eq_1) ac) <| And.intro (fun (SP : Prg) (ac : Ac) => congrFun (congrArg (E SP) b_lex_tokens_skip_1.eq_1) ac) <| And.intro (fun (SP : Prg) (ac : Ac) => congrFun (congrArg (E SP) c_lex_tokens_skip_2.eq_1) ac) <| sc_lex_tokens_skip.eq_1
theorem comp_lex_tokens_skip : comp Tryz.prog Tryz.f97 = some sc_lex_tokens_skip := by kernel_rfl
/-- (doorkeeper/lex.tokens).name -/
def sc_lex_tokens_name : SFunc := ⟨1, 14, .seq (.reg [⟨(some 2), none, (.alloc [(.int .i64 0), (.str []), (.int .i64 0), (.nils 2), (.int .i64 0)])⟩, ⟨(some 3), none, (.v (.mov (.c (.bool false))))⟩]) (.seq (.reg [⟨(some 5), none, (.v (.mov (.t 0)))⟩, ⟨(some 6), none, (.v (.nchk (.t 5)))⟩, ⟨(some 7), none, (.v (.faddr 0 (.t 6)))⟩, ⟨(some 8), none, (.bslice 1 2 [(.int .i64 0)] [(0, (.c (.int .i64 2))), (1, (.c (.int .i64 3)))])⟩, ⟨(some 9), none, (.call (.c (.func 134 [])) [(.t 7), (.t 8)])⟩, ⟨(some 4), none, (.v (.mov (.t 9)))⟩]) (.seq (.reg [⟨(some 10), none, (.v (.mov (.t 4)))⟩, ⟨(some 11), none, (.v (.build [(.int .i64 0), (.str []), (.int .i64 0), (.nils 2), (.int .i64 0)] [(0, 1, (.c (.int .i64 3))), (1, 1, (.t 10))]))⟩, ⟨(some 12), none, (.v (.mov (.t 4)))⟩, ⟨(some 13), none, (.call (.c (.func 115 [])) [(.t 12)])⟩, ⟨none, none, (.store 5 (.t 2) (.t 11))⟩, ⟨(some 3), none, (.v (.mov (.t 13)))⟩]) .ret)), [(.cell 2 (some 5)), (.t 3)]⟩
theorem U_lex_tokens_name : type_of% (sc_lex_tokens_name.eq_1) := sc_lex_tokens_name.eq_1
theorem comp_lex_tokens_name : comp Tryz.prog Tryz.f138 = some sc_lex_tokens_name := by kernel_rfl
/-- (doorkeeper/lex.tokens).number -/
def c_lex_tokens_number_1 : SC := .seq (.reg [⟨(some 7), none, (.v (.mov (.t 0)))⟩, ⟨(some 8), none, (.v (.nchk (.t 7)))⟩, ⟨(some 9), none, (.v (.faddr 0 (.t 8)))⟩, ⟨(some 10), none, (.bslice 1 1 [(.int .i64 0)] [(0, (.c (.int .i64 3)))])⟩, ⟨(some 11), none, (.call (.c (.func 134 [])) [(.t 9), (.t 10)])⟩, ⟨(some 4), none, (.v (.mov (.t 11)))⟩]) (.seq (.reg [⟨(some 13), none, (.v (.mov (.t 4)))⟩, ⟨(some 14), none, (.call (.c (.func 163 [])) [(.t 13)])⟩, ⟨(some 12), none, (.v (.mov (.t 14)))⟩, ⟨(some 15), none, (.v (.extract 0 (.t 12)))⟩, ⟨(some 16), none, (.v (.extract 1 (.t 12)))⟩, ⟨(some 5), none, (.v (.mov (.t 15)))⟩, ⟨(some 6), none, (.v (.mov (.t 16)))⟩]) (.seq (.reg [⟨(some 17), none, (.v (.mov (.t 5)))⟩, ⟨(some 18), none, (.v (.build [(.int .i64 0), (.str []), (.int .i64 0), (.nils 2), (.int .i64 0)] [(0, 1, (.c (.int .i64 1))), (2, 1, (.t 17))]))⟩, ⟨(some 19), none, (.v (.mov (.t 6)))⟩, ⟨(some 20), none, (.v (.isnile false (.t 19)))⟩, ⟨(some 21), none, (.v (.mov (.t 20)))⟩, ⟨(some 22), (some (21, true)), (.v (.mov (.t 5)))⟩, ⟨(some 23), (some (21, true)), (.call (.c (.func 106 [])) [(.t 22)])⟩, ⟨(some 24), (some (21, true)), (.v (.mov (.t 4)))⟩, ⟨(some 25), (some (21, true)), (.v (.bin .eql (.t 23) (.t 24)))⟩, ⟨(some 26), none, (.v (.pick (.t 21) (.t 25) (.c (.bool false))))⟩, ⟨none, none, (.store 5 (.t 2) (.t 18))⟩, ⟨(some 3), none, (.v (.mov (.t 26)))⟩]) .ret))
def sc_lex_tokens_number : SFunc := ⟨1, 27, .seq (.reg [⟨(some 2), none, (.alloc [(.int .i64 0), (.str []), (.int .i64 0), (.nils 2), (.int .i64 0)])⟩, ⟨(some 3), none, (.v (.mov (.c (.bool false))))⟩]) c_lex_tokens_number_1, [(.cell 2 (some 5)), (.t 3)]⟩
theorem U_lex_tokens_number : type_of% (And.intro (fun (SP : Prg) (ac : Ac) => congrFun (congrArg (E SP) c_lex_tokens_number_1.eq_1) ac) <| sc_lex_tokens_number.eq_1) := And.intro (fun (SP : Prg) (ac : Ac) => congrFun (congrArg (E SP) c_lex_tokens_number_1.eq_1) ac) <| sc_lex_tokens_number.eq_1
theorem comp_lex_tokens_number : comp Tryz.prog Tryz.f139 = some sc_lex_tokens_number := by kernel_rfl
/-- (doorkeeper/lex.tokens).quoted -/
def c_lex_tokens_quoted_1 : SC := .seq (.reg [⟨(some 98), none, (.v (.build [(.int .i64 0), (.str []), (.int .i64 0), (.nils 2), (.int .i64 0)] []))⟩, ⟨none, none, (.store 5 (.t 2) (.t 98))⟩, ⟨(some 3), none, (.v (.mov (.c (.bool false))))⟩]) .ret
def c_lex_tokens_quoted_2 : SC := .seq (.seq (.reg [⟨(some 83), none, (.v (.mov (.t 9)))⟩, ⟨(some 84), none, (.v (.un .not (.t 83)))⟩]) (.cond (.t 84) (.seq (.reg [⟨(some 85), none, (.v (.build [(.int .i64 0), (.str []), (.int .i64 0), (.nils 2), (.int .i64 0)] []))⟩, ⟨none, none, (.store 5 (.t 2) (.t 85))⟩, ⟨(some 3), none, (.v (.mov (.c (.bool false))))⟩]) .ret) .skip)) (.seq (.reg [⟨(some 86), none, (.v (.load none (.t 4)))⟩, ⟨(some 87), none, (.v (.mov (.t 8)))⟩, ⟨(some 88), none, (.v (.build [(.bool false), (.str [])] [(0, 1, (.c (.bool true))), (1, 1, (.t 87))]))⟩, ⟨(some 89), none, (.bslice 2 1 [(.bool false), (.str [])] [(0, (.t 88))])⟩, ⟨(some 90), none, (.append 2 24 (.t 86) (.t 89))⟩, ⟨none, none, (.store 1 (.t 4) (.t 90))⟩]) (.reg [⟨(some 91), none, (.v (.mov (.t 0)))⟩, ⟨(some 92), none, (.v (.nchk (.t 91)))⟩, ⟨(some 93), none, (.v (.faddr 0 (.t 92)))⟩, ⟨(some 94), none, (.v (.mov (.t 8)))⟩, ⟨(some 95), none, (.v (.len true (.t 94)))⟩, ⟨(some 96), none, (.v (.bin .add (.c (.int .i64 3)) (.t 95)))⟩, ⟨(some 97), none, (.call (.c (.func 135 [])) [(.t 93), (.t 96)])⟩]))
def c_lex_tokens_quoted_3 : SC := .cond (.t 67) (.seq (.reg [⟨(some 75), none, (.v (.mov (.t 0)))⟩, ⟨(some 76), none, (.v (.nchk (.t 75)))⟩, ⟨(some 77), none, (.v (.faddr 0 (.t 76)))⟩, ⟨(some 78), none, (.v (.faddr 0 (.t 77)))⟩, ⟨(some 79), none, (.v (.load none (.t 78)))⟩, ⟨(some 80), none, (.call (.c (.func 166 [])) [(.t 79)])⟩, ⟨(some 74), none, (.v (.mov (.t 80)))⟩, ⟨(some 81), none, (.v (.extract 0 (.t 74)))⟩, ⟨(some 82), none, (.v (.extract 1 (.t 74)))⟩, ⟨(some 8), none, (.v (.mov (.t 81)))⟩, ⟨(some 9), none, (.v (.mov (.t 82)))⟩]) c_lex_tokens_quoted_2) (.seq (.reg [⟨(some 26), none, (.v (.mov (.t 5)))⟩, ⟨(some 27), none, (.call (.c (.func 165 [])) [(.t 4), (.t 26)])⟩]) (.reg [⟨(some 28), none, (.v (.mov (.t 0)))⟩, ⟨(some 29), none, (.v (.nchk (.t 28)))⟩, ⟨(some 30), none, (.v (.faddr 0 (.t 29)))⟩, ⟨(some 31), none, (.call (.c (.func 135 [])) [(.t 30), (.c (.int .i64 1))])⟩]))
def c_lex_tokens_quoted_4 : SC := .cond (.t 46) (.seq (.reg [⟨(some 50), none, (.v (.mov (.t 0)))⟩, ⟨(some 51), none, (.v (.nchk (.t 50)))⟩, ⟨(some 52), none, (.v (.faddr 0 (.t 51)))⟩, ⟨(some 53), none, (.v (.faddr 0 (.t 52)))⟩, ⟨(some 54), none, (.v (.load none (.t 53)))⟩, ⟨(some 55), none, (.call (.c (.func 164 [])) [(.t 54)])⟩, ⟨(some 49), none, (.v (.mov (.t 55)))⟩, ⟨(some 56), none, (.v (.extract 0 (.t 49)))⟩, ⟨(some 57), none, (.v (.extract 1 (.t 49)))⟩, ⟨(some 6), none, (.v (.mov (.t 56)))⟩, ⟨(some 7), none, (.v (.mov (.t 57)))⟩]) (.seq (.seq (.reg [⟨(some 58), none, (.v (.mov (.t 7)))⟩, ⟨(some 59), none, (.v (.un .not (.t 58)))⟩]) (.cond (.t 59) (.seq (.reg [⟨(some 60), none, (.v (.build [(.int .i64 0), (.str []), (.int .i64 0), (.nils 2), (.int .i64 0)] []))⟩, ⟨none, none, (.store 5 (.t 2) (.t 60))⟩, ⟨(some 3), none, (.v (.mov (.c (.bool false))))⟩]) .ret) .skip)) (.seq (.reg [⟨(some 61), none, (.v (.mov (.t 6)))⟩, ⟨(some 62), none, (.call (.c (.func 165 [])) [(.t 4), (.t 61)])⟩]) (.reg [⟨(some 63), none, (.v (.mov (.t 0)))⟩, ⟨(some 64), none, (.v (.nchk (.t 63)))⟩, ⟨(some 65), none, (.v (.faddr 0 (.t 64)))⟩, ⟨(some 66), none, (.call (.c (.func 135 [])) [(.t 65), (.c (.int .i64 2))])⟩])))) (.seq (.reg [⟨(some 68), none, (.v (.mov (.t 0)))⟩, ⟨(some 69), none, (.v (.nchk (.t 68)))⟩, ⟨(some 70), none, (.v (.faddr 0 (.t 69)))⟩, ⟨(some 71), none, (.v (.faddr 0 (.t 70)))⟩, ⟨(some 72), none, (.v (.load none (.t 71)))⟩, ⟨(some 73), none, (.call (.c (.func 129 [])) [(.t 72), (.c (.str [36, 123]))])⟩, ⟨(some 67), none, (.v (.mov (.t 73)))⟩]) c_lex_tokens_quoted_3)
def c_lex_tokens_quoted_5 : SC := .cond (.t 42) (.seq (.reg [⟨(some 45), none, (.v (.build [(.int .i64 0), (.str []), (.int .i64 0), (.nils 2), (.int .i64 0)] []))⟩, ⟨none, none, (.store 5 (.t 2) (.t 45))⟩, ⟨(some 3), none, (.v (.mov (.c (.bool false))))⟩]) .ret) (.seq (.reg [⟨(some 47), none, (.v (.mov (.t 5)))⟩, ⟨(some 48), none, (.v (.bin .eql (.t 47) (.c (.int .u8 92))))⟩, ⟨(some 46), none, (.v (.mov (.t 48)))⟩]) c_lex_tokens_quoted_4)
def c_lex_tokens_quoted_6 : SC := .cond (.t 32) (.seq (.reg [⟨(some 36), none, (.v (.mov (.t 0)))⟩, ⟨(some 37), none, (.v (.nchk (.t 36)))⟩, ⟨(some 38), none, (.v (.faddr 0 (.t 37)))⟩, ⟨(some 39), none, (.call (.c (.func 135 [])) [(.t 38), (.c (.int .i64 1))])⟩]) (.seq (.reg [⟨(some 40), none, (.v (.load none (.t 4)))⟩, ⟨(some 41), none, (.v (.build [(.int .i64 0), (.str []), (.int .i64 0), (.nils 2), (.int .i64 0)] [(0, 1, (.c (.int .i64 2))), (3, 1, (.t 40))]))⟩, ⟨none, none, (.store 5 (.t 2) (.t 41))⟩, ⟨(some 3), none, (.v (.mov (.c (.bool true))))⟩]) .ret)) (.seq (.reg [⟨(some 43), none, (.v (.mov (.t 5)))⟩, ⟨(some 44), none, (.v (.bin .lss (.t 43) (.c (.int .u8 32))))⟩, ⟨(some 42), none, (.v (.mov (.t 44)))⟩]) c_lex_tokens_quoted_5)
def c_lex_tokens_quoted_7 : SC := .block 2 (.seq (.reg [⟨(some 33), none, (.v (.mov (.t 5)))⟩, ⟨(some 34), none, (.call (.c (.func 137 [])) [(.t 33)])⟩, ⟨(some 35), none, (.v (.bin .eql (.t 34) (.c (.int .i64 4))))⟩, ⟨(some 32), none, (.v (.mov (.t 35)))⟩]) c_lex_tokens_quoted_6)
def c_lex_tokens_quoted_8 : SC := .block 1 (.seq (.reg [⟨(some 20), none, (.v (.mov (.t 0)))⟩, ⟨(some 21), none, (.v (.nchk (.t 20)))⟩, ⟨(some 22), none, (.v (.faddr 0 (.t 21)))⟩, ⟨(some 23), none, (.v (.faddr 0 (.t 22)))⟩, ⟨(some 24), none, (.v (.load none (.t 23)))⟩, ⟨(some 25), none, (.v (.istr (.t 24) (.c (.int .i64 0))))⟩, ⟨(some 5), none, (.v (.mov (.t 25)))⟩]) c_lex_tokens_quoted_7)
def b_lex_tokens_quoted_1 : SC := .seq (.seq (.reg [⟨(some 14), none, (.v (.mov (.t 0)))⟩, ⟨(some 15), none, (.v (.nchk (.t 14)))⟩, ⟨(some 16), none, (.v (.faddr 0 (.t 15)))⟩, ⟨(some 17), none, (.v (.faddr 0 (.t 16)))⟩, ⟨(some 18), none, (.v (.load none (.t 17)))⟩, ⟨(some 19), none, (.v (.bin .neq (.t 18) (.c (.str []))))⟩]) (.cond (.t 19) .skip (.exit 0))) c_lex_tokens_quoted_8
def c_lex_tokens_quoted_9 : SC := .seq (.block 0 (.loop b_lex_tokens_quoted_1)) c_lex_tokens_quoted_1
def c_lex_tokens_quoted_10 : SC := .seq (.reg [⟨(some 10), none, (.v (.mov (.t 0)))⟩, ⟨(some 11), none, (.v (.nchk (.t 10)))⟩, ⟨(some 12), none, (.v (.faddr 0 (.t 11)))⟩, ⟨(some 13), none, (.call (.c (.func 135 [])) [(.t 12), (.c (.int .i64 1))])⟩]) c_lex_tokens_quoted_9
def c_lex_tokens_quoted_11 : SC := .seq (.reg [⟨(some 4), none, (.alloc [(.nils 2)])⟩]) c_lex_tokens_quoted_10
def sc_lex_tokens_quoted : SFunc := ⟨1, 99, .seq (.reg [⟨(some 2), none, (.alloc [(.int .i64 0), (.str []), (.int .i64 0), (.nils 2), (.int .i64 0)])⟩, ⟨(some 3), none, (.v (.mov (.c (.bool false))))⟩]) c_lex_tokens_quoted_11, [(.cell 2 (some 5)), (.t 3)]⟩
noncomputable def k_lex_tokens_quoted_1 (SP : Prg) (x : EO) : CO := fin [(.cell 2 (some 5)), (.t 3)] (thC SP (inBlk 0 (x)) c_lex_tokens_quoted_1)
theorem U_lex_tokens_quoted : type_of% (And.intro (fun (SP : Prg) (ac : Ac) => congrFun (congrArg (E SP) c_lex_tokens_quoted_1.eq_1) ac) <| And.intro (fun (SP : Prg) (ac : Ac) => congrFun (congrArg (E SP) c_lex_tokens_quoted_2.eq_1) ac) <| And.intro (fun (SP : Prg) (ac : Ac) => congrFun (congrArg (E SP) c_lex_tokens_quoted_3.eq_1) ac) <| And.intro (fun (SP : Prg) (ac : Ac) => congrFun (congrArg (E SP) c_lex_tokens_quoted_4.eq_1) ac) <| And.intro (fun (SP : Prg) (ac : Ac) => congrFun (congrArg (E SP) c_lex_tokens_quoted_5.eq_1) ac) <| And.intro (fun (SP : Prg) (ac : Ac) => congrFun (congrArg (E SP) c_lex_tokens_quoted_6.eq_1) ac) <| And.intro (fun (SP : Prg) (ac : Ac) => congrFun (congrArg (E SP) c_lex_tokens_quoted_7.eq_1) ac) <| And.intro (fun (SP : Prg) (ac : Ac) => congrFun (congrArg (E SP) c_lex_tokens_quoted_8.eq_1) ac) <| And.intro (fun (SP : Prg) (ac : Ac) => congrFun (congrArg (E SP) b_lex_tokens_quoted_1.eq_1) ac) <| And.intro (fun (SP : Prg) (ac : Ac) => congrFun (congrArg (E SP) c_lex_tokens_quoted_9.eq_1) ac) <| And.intro (fun (SP : Prg) (ac : Ac) => congrFun (congrArg (E SP) c_lex_tokens_quoted_10.eq_1) ac) <| And.intro (fun (SP : Prg) (ac : Ac) => congrFun (congrArg (E SP) c_lex_tokens_quoted_11.eq_1) ac) <| sc_lex_tokens_quoted.eq_1) := And.intro (fun (SP : Prg) (ac : Ac) => congrFun (congrArg (E SP) c_lex_tokens_quoted_1.eq_1) ac) <| And.intro (fun (SP : Prg) (ac : Ac) => congrFun (congrArg (E SP) c_lex_tokens_quoted_2.eq_1) ac) <| And.intro (fun (SP : Prg) (ac : Ac) => congrFun (congrArg (E SP) c_lex_tokens_quoted_3.eq_1) ac) <| And.intro (fun (SP : Prg) (ac : Ac) => congrFun (congrArg (E SP) c_lex_tokens_quoted_4.eq_1) ac) <| And.intro (fun (SP : Prg) (ac : Ac) => congrFun (congrArg (E SP) c_lex_tokens_quoted_5.eq_1) ac) <| And.intro (fun (SP : Prg) (ac : Ac) => congrFun (congrArg (E SP) c_lex_tokens_quoted_6.eq_1) ac) <| And.intro (fun (SP : Prg) (ac : Ac) => congrFun (congrArg (E SP) c_lex_tokens_quoted_7.eq_1) ac) <| And.intro (fun (SP : Prg) (ac : Ac) => congrFun (congrArg (E SP) c_lex_tokens_quoted_8.eq_1) ac) <| And.intro (fun (SP : Prg) (ac : Ac) => congrFun (congrArg (E SP) b_lex_tokens_quoted_1.eq_1) ac) <| And.intro (fun (SP : Prg) (ac : Ac) => congrFun (congrArg (E SP) c_lex_tokens_quoted_9.eq_1) ac) <| And.intro (fun (SP : Prg) (ac : Ac) => congrFun (congrArg (E SP) c_lex_tokens_quoted_10.eq_1) ac) <| And.intro (fun (SP : Prg) (ac : Ac) => congrFun (congrArg (E SP) c_lex_tokens_quoted_11.eq_1) ac) <| sc_lex_tokens_quoted.eq_1
theorem comp_lex_tokens_quoted : comp Tryz.prog Tryz.f140 = some sc_lex_tokens_quoted := by kernel_rfl
/-- (doorkeeper/lex.tokens).sign -/
def c_lex_tokens_sign_1 : SC := .seq (.reg [⟨(some 28), none, (.v (.mov (.t 0)))⟩, ⟨(some 29), none, (.v (.nchk (.t 28)))⟩, ⟨(some 30), none, (.v (.faddr 0 (.t 29)))⟩, ⟨(some 31), none, (.v (.mov (.t 4)))⟩, ⟨(some 32), none, (.v (.len true (.t 31)))⟩, ⟨(some 33), none, (.call (.c (.func 135 [])) [(.t 30), (.t 32)])⟩, ⟨(some 34), none, (.v (.build [(.int .i64 0), (.str []), (.int .i64 0), (.nils 2), (.int .i64 0)] [(0, 1, (.c (.int .i64 4))), (1, 1, (.t 33))]))⟩, ⟨none, none, (.store 5 (.t 2) (.t 34))⟩, ⟨(some 3), none, (.v (.mov (.c (.bool true))))⟩]) .ret
def c_lex_tokens_sign_2 : SC := .seq (.seq (.reg [⟨(some 18), none, (.bslice 1 6 [(.str [])] [(0, (.c (.str [61, 61]))), (1, (.c (.str [33, 61]))), (2, (.c (.str [60, 61]))), (3, (.c (.str [62, 61]))), (4, (.c (.str [38, 38]))), (5, (.c (.str [124, 124])))])⟩, ⟨(some 19), none, (.v (.mov (.t 4)))⟩, ⟨(some 20), none, (.call (.c (.func 161 [])) [(.t 18), (.t 19)])⟩, ⟨(some 21), none, (.v (.un .not (.t 20)))⟩]) (.cond (.t 21) (.seq (.reg [⟨(some 22), none, (.v (.mov (.t 4)))⟩, ⟨(some 23), none, (.v (.sls (.t 22) none (some (.c (.int .i64 1)))))⟩, ⟨(some 4), none, (.v (.mov (.t 23)))⟩]) (.seq (.reg [⟨(some 24), none, (.v (.mov (.t 4)))⟩, ⟨(some 25), none, (.call (.c (.func 162 [])) [(.c (.str [123, 125, 91, 93, 40, 41, 61, 44, 46, 43, 45, 42, 47, 37, 60, 62, 33, 63, 58])), (.t 24)])⟩, ⟨(some 26), none, (.v (.un .not (.t 25)))⟩]) (.cond (.t 26) (.seq (.reg [⟨(some 27), none, (.v (.build [(.int .i64 0), (.str []), (.int .i64 0), (.nils 2), (.int .i64 0)] []))⟩, ⟨none, none, (.store 5 (.t 2) (.t 27))⟩, ⟨(some 3), none, (.v (.mov (.c (.bool false))))⟩]) .ret) .skip))) .skip)) c_lex_tokens_sign_1
def c_lex_tokens_sign_3 : SC := .seq (.dreg [⟨(some 5), none, (.v (.mov (.t 0)))⟩, ⟨(some 6), none, (.v (.nchk (.t 5)))⟩, ⟨(some 7), none, (.v (.faddr 0 (.t 6)))⟩, ⟨(some 8), none, (.v (.faddr 0 (.t 7)))⟩, ⟨(some 9), none, (.v (.load none (.t 8)))⟩, ⟨(some 10), none, (.v (.mov (.t 0)))⟩, ⟨(some 11), none, (.v (.nchk (.t 10)))⟩, ⟨(some 12), none, (.v (.faddr 0 (.t 11)))⟩, ⟨(some 13), none, (.v (.faddr 0 (.t 12)))⟩, ⟨(some 14), none, (.v (.load none (.t 13)))⟩, ⟨(some 15), none, (.v (.len true (.t 14)))⟩, ⟨(some 16), none, (.v (.mm false (.c (.int .i64 2)) (.t 15)))⟩, ⟨(some 17), none, (.v (.sls (.t 9) none (some (.t 16))))⟩, ⟨(some 4), none, (.v (.mov (.t 17)))⟩] [false, false, false, false, false, false, false, false, false, false, false, false, true, true]) c_lex_tokens_sign_2
def sc_lex_tokens_sign : SFunc := ⟨1, 35, .seq (.reg [⟨(some 2), none, (.alloc [(.int .i64 0), (.str []), (.int .i64 0), (.nils 2), (.int .i64 0)])⟩, ⟨(some 3), none, (.v (.mov (.c (.bool false))))⟩]) c_lex_tokens_sign_3, [(.cell 2 (some 5)), (.t 3)]⟩
theorem U_lex_tokens_sign : type_of% (And.intro (fun (SP : Prg) (ac : Ac) => congrFun (congrArg (E SP) c_lex_tokens_sign_1.eq_1) ac) <| And.intro (fun (SP : Prg) (ac : Ac) => congrFun (congrArg (E SP) c_lex_tokens_sign_2.eq_1) ac) <| And.intro (fun (SP : Prg) (ac : Ac) => congrFun (congrArg (E SP) c_lex_tokens_sign_3.eq_1) ac) <| sc_lex_tokens_sign.eq_1) := And.intro (fun (SP : Prg) (ac : Ac) => congrFun (congrArg (E SP) c_lex_tokens_sign_1.eq_1) ac) <| And.intro (fun (SP : Prg) (ac : Ac) => congrFun (congrArg (E SP) c_lex_tokens_sign_2.eq_1) ac) <| And.intro (fun (SP : Prg) (ac : Ac) => congrFun (congrArg (E SP) c_lex_tokens_sign_3.eq_1) ac) <| sc_lex_tokens_sign.eq_1
theorem comp_lex_tokens_sign : comp Tryz.prog Tryz.f136 = some sc_lex_tokens_sign := by kernel_rfl
/-- (doorkeeper/lex.tokens).next -/
def c_lex_tokens_next_1 : SC := .seq (.reg [⟨(some 34), none, (.v (.mov (.t 4)))⟩, ⟨(some 35), none, (.call (.t 34) [])⟩, ⟨(some 33), none, (.v (.mov (.t 35)))⟩, ⟨(some 36), none, (.v (.extract 0 (.t 33)))⟩, ⟨(some 37), none, (.v (.extract 1 (.t 33)))⟩, ⟨(some 5), none, (.alloc [(.int .i64 0), (.str []), (.int .i64 0), (.nils 2), (.int .i64 0)])⟩, ⟨none, none, (.store 5 (.t 5) (.t 36))⟩, ⟨(some 6), none, (.v (.mov (.t 37)))⟩]) (.seq (.reg [⟨(some 38), none, (.v (.mov (.t 3)))⟩, ⟨(some 39), none, (.v (.faddr 4 (.t 5)))⟩, ⟨none, none, (.store 1 (.t 39) (.t 38))⟩]) (.seq (.dreg [⟨(some 40), none, (.v (.mov (.t 0)))⟩, ⟨(some 41), none, (.v (.mov (.t 0)))⟩, ⟨(some 42), none, (.v (.nchk (.t 41)))⟩, ⟨(some 43), none, (.v (.faddr 2 (.t 42)))⟩, ⟨(some 44), none, (.v (.load none (.t 43)))⟩, ⟨(some 45), none, (.v (.load (some 5) (.t 5)))⟩, ⟨(some 46), none, (.bslice 5 1 [(.int .i64 0), (.str []), (.int .i64 0), (.nils 2), (.int .i64 0)] [(0, (.t 45))])⟩, ⟨(some 47), none, (.append 5 64 (.t 44) (.t 46))⟩, ⟨(some 48), none, (.v (.nchk (.t 40)))⟩, ⟨(some 49), none, (.v (.faddr 2 (.t 48)))⟩, ⟨none, none, (.store 1 (.t 49) (.t 47))⟩] [false, false, false, false, false, false, false, true, true, true, true]) (.seq (.reg [⟨(some 50), none, (.v (.mov (.t 6)))⟩, ⟨(some 2), none, (.v (.mov (.t 50)))⟩]) .ret)))
def c_lex_tokens_next_2 : SC := .seq (.seq (.reg [⟨(some 14), none, (.v (.mov (.t 0)))⟩, ⟨(some 15), none, (.v (.nchk (.t 14)))⟩, ⟨(some 16), none, (.v (.faddr 0 (.t 15)))⟩, ⟨(some 17), none, (.v (.faddr 0 (.t 16)))⟩, ⟨(some 18), none, (.v (.load none (.t 17)))⟩, ⟨(some 19), none, (.v (.istr (.t 18) (.c (.int .i64 0))))⟩, ⟨(some 20), none, (.call (.c (.func 137 [])) [(.t 19)])⟩]) (.block 0 (.seq (.reg [⟨(some 22), none, (.v (.bin .eql (.t 20) (.c (.int .i64 2))))⟩, ⟨(some 21), none, (.v (.mov (.t 22)))⟩]) (.cond (.t 21) (.reg [⟨(some 23), none, (.v (.mov (.t 0)))⟩, ⟨(some 24), none, (.v (.meth 138 [(.t 23)]))⟩, ⟨(some 4), none, (.v (.mov (.t 24)))⟩]) (.seq (.reg [⟨(some 26), none, (.v (.bin .eql (.t 20) (.c (.int .i64 3))))⟩, ⟨(some 25), none, (.v (.mov (.t 26)))⟩]) (.cond (.t 25) (.reg [⟨(some 27), none, (.v (.mov (.t 0)))⟩, ⟨(some 28), none, (.v (.meth 139 [(.t 27)]))⟩, ⟨(some 4), none, (.v (.mov (.t 28)))⟩]) (.seq (.reg [⟨(some 30), none, (.v (.bin .eql (.t 20) (.c (.int .i64 4))))⟩, ⟨(some 29), none, (.v (.mov (.t 30)))⟩]) (.cond (.t 29) (.reg [⟨(some 31), none, (.v (.mov (.t 0)))⟩, ⟨(some 32), none, (.v (.meth 140 [(.t 31)]))⟩, ⟨(some 4), none, (.v (.mov (.t 32)))⟩]) .skip)))))))) c_lex_tokens_next_1
def c_lex_tokens_next_3 : SC := .seq (.reg [⟨(some 12), none, (.v (.mov (.t 0)))⟩, ⟨(some 13), none, (.v (.meth 136 [(.t 12)]))⟩, ⟨(some 4), none, (.v (.mov (.t 13)))⟩]) c_lex_tokens_next_2
def c_lex_tokens_next_4 : SC := .seq (.reg [⟨(some 7), none, (.v (.mov (.t 0)))⟩, ⟨(some 8), none, (.v (.nchk (.t 7)))⟩, ⟨(some 9), none, (.v (.faddr 0 (.t 8)))⟩, ⟨(some 10), none, (.v (.faddr 1 (.t 9)))⟩, ⟨(some 11), none, (.v (.load none (.t 10)))⟩, ⟨(some 3), none, (.v (.mov (.t 11)))⟩]) c_lex_tokens_next_3
def sc_lex_tokens_next : SFunc := ⟨1, 51, .seq (.reg [⟨(some 2), none, (.v (.mov (.c (.bool false))))⟩]) c_lex_tokens_next_4, [(.t 2)]⟩
theorem U_lex_tokens_next : type_of% (And.intro (fun (SP : Prg) (ac : Ac) => congrFun (congrArg (E SP) c_lex_tokens_next_1.eq_1) ac) <| And.intro (fun (SP : Prg) (ac : Ac) => congrFun (congrArg (E SP) c_lex_tokens_next_2.eq_1) ac) <| And.intro (fun (SP : Prg) (ac : Ac) => congrFun (congrArg (E SP) c_lex_tokens_next_3.eq_1) ac) <| And.intro (fun (SP : Prg) (ac : Ac) => congrFun (congrArg (E SP) c_lex_tokens_next_4.eq_1) ac) <| sc_lex_tokens_next.eq_1) := And.intro (fun (SP : Prg) (ac : Ac) => congrFun (congrArg (E SP) c_lex_tokens_next_1.eq_1) ac) <| And.intro (fun (SP : Prg) (ac : Ac) => congrFun (congrArg (E SP) c_lex_tokens_next_2.eq_1) ac) <| And.intro (fun (SP : Prg) (ac : Ac) => congrFun (congrArg (E SP) c_lex_tokens_next_3.eq_1) ac) <| And.intro (fun (SP : Prg) (ac : Ac) => congrFun (congrArg (E SP) c_lex_tokens_next_4.eq_1) ac) <| sc_lex_tokens_next.eq_1
theorem comp_lex_tokens_next : comp Tryz.prog Tryz.f98 = some sc_lex_tokens_next := by kernel_rfl
/-- doorkeeper/lex.Lex -/
def c_lex_Lex_1 : SC := .seq (.dreg [⟨(some 25), none, (.v (.mov (.t 4)))⟩, ⟨(some 26), none, (.v (.nchk (.t 25)))⟩, ⟨(some 27), none, (.v (.faddr 2 (.t 26)))⟩, ⟨(some 28), none, (.v (.load none (.t 27)))⟩, ⟨(some 29), none, (.v (.mov (.t 4)))⟩, ⟨(some 30), none, (.v (.nchk (.t 29)))⟩, ⟨(some 31), none, (.v (.faddr 0 (.t 30)))⟩, ⟨(some 32), none, (.v (.faddr 1 (.t 31)))⟩, ⟨(some 33), none, (.v (.load none (.t 32)))⟩, ⟨(some 34), none, (.v (.build [(.int .i64 0), (.str []), (.int .i64 0), (.nils 2), (.int .i64 0)] [(0, 1, (.c (.int .i64 0))), (4, 1, (.t 33))]))⟩, ⟨(some 35), none, (.bslice 5 1 [(.int .i64 0), (.str []), (.int .i64 0), (.nils 2), (.int .i64 0)] [(0, (.t 34))])⟩, ⟨(some 36), none, (.append 5 64 (.t 28) (.t 35))⟩, ⟨(some 2), none, (.v (.mov (.t 36)))⟩, ⟨(some 3), none, (.v (.mov (.c (.int .i64 0))))⟩] [false, false, false, false, false, false, false, false, false, false, false, true, true, true]) .ret
def b_lex_Lex_1 : SC := .seq (.seq (.reg [⟨(some 14), none, (.v (.mov (.t 4)))⟩, ⟨(some 15), none, (.v (.nchk (.t 14)))⟩, ⟨(some 16), none, (.v (.faddr 0 (.t 15)))⟩, ⟨(some 17), none, (.v (.faddr 0 (.t 16)))⟩, ⟨(some 18), none, (.v (.load none (.t 17)))⟩, ⟨(some 19), none, (.v (.bin .neq (.t 18) (.c (.str []))))⟩]) (.cond (.t 19) .skip (.exit 0))) (.seq (.block 1 (.seq (.reg [⟨(some 22), none, (.v (.mov (.t 4)))⟩, ⟨(some 23), none, (.call (.c (.func 98 [])) [(.t 22)])⟩, ⟨(some 24), none, (.v (.un .not (.t 23)))⟩]) (.cond (.t 24) (.seq (.reg [⟨(some 2), none, (.nilv 5)⟩, ⟨(some 3), none, (.v (.mov (.c (.int .i64 5))))⟩]) .ret) .skip))) (.reg [⟨(some 20), none, (.v (.mov (.t 4)))⟩, ⟨(some 21), none, (.call (.c (.func 97 [])) [(.t 20)])⟩]))
def c_lex_Lex_2 : SC := .seq (.seq (.reg [⟨(some 12), none, (.v (.mov (.t 4)))⟩, ⟨(some 13), none, (.call (.c (.func 97 [])) [(.t 12)])⟩]) (.block 0 (.loop b_lex_Lex_1))) c_lex_Lex_1
def c_lex_Lex_3 : SC := .seq (.reg [⟨(some 8), none, (.v (.mov (.t 0)))⟩, ⟨(some 9), none, (.v (.build [(.str []), (.int .i64 0)] [(0, 1, (.t 8))]))⟩, ⟨(some 10), none, (.v (.build [(.str []), (.int .i64 0), (.nils 5)] [(0, 2, (.t 9))]))⟩, ⟨(some 11), none, (.box (.t 10))⟩, ⟨(some 4), none, (.v (.mov (.t 11)))⟩]) c_lex_Lex_2
def c_lex_Lex_4 : SC := .seq (.seq (.reg [⟨(some 5), none, (.v (.mov (.t 0)))⟩, ⟨(some 6), none, (.v (.len true (.t 5)))⟩, ⟨(some 7), none, (.v (.bin .gtr (.t 6) (.c (.int .i64 6000))))⟩]) (.cond (.t 7) (.seq (.reg [⟨(some 2), none, (.nilv 5)⟩, ⟨(some 3), none, (.v (.mov (.c (.int .i64 4))))⟩]) .ret) .skip)) c_lex_Lex_3
def sc_lex_Lex : SFunc := ⟨1, 37, .seq (.reg [⟨(some 2), none, (.nilv 5)⟩, ⟨(some 3), none, (.v (.mov (.c (.int .i64 0))))⟩]) c_lex_Lex_4, [(.t 2), (.t 3)]⟩
noncomputable def k_lex_Lex_1 (SP : Prg) (x : EO) : CO := fin [(.t 2), (.t 3)] (thC SP (inBlk 0 (x)) c_lex_Lex_1)
theorem U_lex_Lex : type_of% (And.intro (fun (SP : Prg) (ac : Ac) => congrFun (congrArg (E SP) c_lex_Lex_1.eq_1) ac) <| And.intro (fun (SP : Prg) (ac : Ac) => congrFun (congrArg (E SP) b_lex_Lex_1.eq_1) ac) <| And.intro (fun (SP : Prg) (ac : Ac) => congrFun (congrArg (E SP) c_lex_Lex_2.eq_1) ac) <| And.intro (fun (SP : Prg) (ac : Ac) => congrFun (congrArg (E SP) c_lex_Lex_3.eq_1) ac) <| And.intro (fun (SP : Prg) (ac : Ac) => congrFun (congrArg (E SP) c_lex_Lex_4.eq_1) ac) <| sc_lex_Lex.eq_1) := And.intro (fun (SP : Prg) (ac : Ac) => congrFun (congrArg (E SP) c_lex_Lex_1.eq_1) ac) <| And.intro (fun (SP : Prg) (ac : Ac) => congrFun (congrArg (E SP) b_lex_Lex_1.eq_1) ac) <| And.intro (fun (SP : Prg) (ac : Ac) => congrFun (congrArg (E SP) c_lex_Lex_2.eq_1) ac) <| And.intro (fun (SP : Prg) (ac : Ac) => congrFun (congrArg (E SP) c_lex_Lex_3.eq_1) ac) <| And.intro (fun (SP : Prg) (ac : Ac) => congrFun (congrArg (E SP) c_lex_Lex_4.eq_1) ac) <| sc_lex_Lex.eq_1
theorem comp_lex_Lex : comp Tryz.prog Tryz.f60 = some sc_lex_Lex := by kernel_rfl
/-- doorkeeper/lex.Label -/
def sc_lex_Label : SFunc := ⟨1, 16, .seq (.reg [⟨(some 2), none, (.v (.mov (.c (.bool false))))⟩]) (.seq (.reg [⟨(some 3), none, (.v (.mov (.t 0)))⟩, ⟨(some 4), none, (.call (.c (.func 120 [])) [(.t 3), (.c (.str [45])), (.c (.str [95]))])⟩, ⟨(some 5), none, (.call (.c (.func 115 [])) [(.t 4)])⟩, ⟨(some 6), none, (.v (.mov (.t 5)))⟩, ⟨(some 7), (some (6, true)), (.v (.mov (.t 0)))⟩, ⟨(some 8), (some (6, true)), (.v (.istr (.t 7) (.c (.int .i64 0))))⟩, ⟨(some 9), (some (6, true)), (.v (.bin .neq (.t 8) (.c (.int .u8 45))))⟩, ⟨(some 10), none, (.v (.pick (.t 6) (.t 9) (.c (.bool false))))⟩, ⟨(some 11), none, (.v (.mov (.t 10)))⟩, ⟨(some 12), (some (11, true)), (.v (.mov (.t 0)))⟩, ⟨(some 13), (some (11, true)), (.v (.istr (.t 12) (.c (.int .i64 0))))⟩, ⟨(some 14), (some (11, true)), (.v (.bin .neq (.t 13) (.c (.int .u8 95))))⟩, ⟨(some 15), none, (.v (.pick (.t 11) (.t 14) (.c (.bool false))))⟩, ⟨(some 2), none, (.v (.mov (.t 15)))⟩]) .ret), [(.t 2)]⟩
theorem U_lex_Label : type_of% (sc_lex_Label.eq_1) := sc_lex_Label.eq_1
theorem comp_lex_Label : comp Tryz.prog Tryz.f81 = some sc_lex_Label := by kernel_rfl
/-- slices.Contains[[]int,int] -/
def sc_slices_Contains_int_int : SFunc := ⟨2, 9, .seq (.reg [⟨(some 4), none, (.v (.mov (.c (.bool false))))⟩]) (.seq (.reg [⟨(some 5), none, (.v (.mov (.t 0)))⟩, ⟨(some 6), none, (.v (.mov (.t 1)))⟩, ⟨(some 7), none, (.call (.c (.func 190 [])) [(.t 5), (.t 6)])⟩, ⟨(some 8), none, (.v (.bin .geq (.t 7) (.c (.int .i64 0))))⟩, ⟨(some 4), none, (.v (.mov (.t 8)))⟩]) .ret), [(.t 4)]⟩
theorem U_slices_Contains_int_int : type_of% (sc_slices_Contains_int_int.eq_1) := sc_slices_Contains_int_int.eq_1
theorem comp_slices_Contains_int_int : comp Tryz.prog Tryz.f170 = some sc_slices_Contains_int_int := by kernel_rfl
/-- slices.Index[[]int,int] -/
def c_slices_Index_int_int_1 : SC := .seq (.reg [⟨(some 4), none, (.v (.mov (.c (.int .i64 (-1)))))⟩]) .ret
def b_slices_Index_int_int_1 : SC := .seq (.reg [⟨(some 9), none, (.v (.bin .lss (.t 8) (.t 7)))⟩]) (.seq (.cond (.t 9) .skip (.exit 0)) (.seq (.block 1 (.seq (.reg [⟨(some 10), none, (.v (.mov (.t 8)))⟩, ⟨(some 5), none, (.v (.mov (.t 10)))⟩]) (.seq (.reg [⟨(some 11), none, (.v (.mov (.t 1)))⟩, ⟨(some 12), none, (.v (.mov (.t 0)))⟩, ⟨(some 13), none, (.v (.mov (.t 5)))⟩, ⟨(some 14), none, (.v (.iaddr 1 (.t 12) (.t 13)))⟩, ⟨(some 15), none, (.v (.load none (.t 14)))⟩, ⟨(some 16), none, (.v (.bin .eql (.t 11) (.t 15)))⟩]) (.cond (.t 16) (.seq (.reg [⟨(some 17), none, (.v (.mov (.t 5)))⟩, ⟨(some 4), none, (.v (.mov (.t 17)))⟩]) .ret) .skip)))) (.reg [⟨(some 18), none, (.v (.bin .add (.t 8) (.c (.int .i64 1))))⟩, ⟨(some 8), none, (.v (.mov (.t 18)))⟩])))
def sc_slices_Index_int_int : SFunc := ⟨2, 19, .seq (.reg [⟨(some 4), none, (.v (.mov (.c (.int .i64 0))))⟩]) (.seq (.seq (.reg [⟨(some 6), none, (.v (.mov (.t 0)))⟩, ⟨(some 7), none, (.v (.len false (.t 6)))⟩, ⟨(some 8), none, (.v (.mov (.c (.int .i64 0))))⟩]) (.block 0 (.loop b_slices_Index_int_int_1))) c_slices_Index_int_int_1), [(.t 4)]⟩
noncomputable def k_slices_Index_int_int_1 (SP : Prg) (x : EO) : CO := fin [(.t 4)] (thC SP (inBlk 0 (x)) c_slices_Index_int_int_1)
theorem U_slices_Index_int_int : type_of% (And.intro (fun (SP : Prg) (ac : Ac) => congrFun (congrArg (E SP) c_slices_Index_int_int_1.eq_1) ac) <| And.intro (fun (SP : Prg) (ac : Ac) => congrFun (congrArg (E SP) b_slices_Index_int_int_1.eq_1) ac) <| sc_slices_Index_int_int.eq_1) := And.intro (fun (SP : Prg) (ac : Ac) => congrFun (congrArg (E SP) c_slices_Index_int_int_1.eq_1) ac) <| And.intro (fun (SP : Prg) (ac : Ac) => congrFun (congrArg (E SP) b_slices_Index_int_int_1.eq_1) ac) <| sc_slices_Index_int_int.eq_1
theorem comp_slices_Index_int_int : comp Tryz.prog Tryz.f190 = some sc_slices_Index_int_int := by kernel_rfl
/-- slices.Contains[[]string,string] -/
def sc_slices_Contains_string_string : SFunc := ⟨2, 9, .seq (.reg [⟨(some 4), none, (.v (.mov (.c (.bool false))))⟩]) (.seq (.reg [⟨(some 5), none, (.v (.mov (.t 0)))⟩, ⟨(some 6), none, (.v (.mov (.t 1)))⟩, ⟨(some 7), none, (.call (.c (.func 62 [])) [(.t 5), (.t 6)])⟩, ⟨(some 8), none, (.v (.bin .geq (.t 7) (.c (.int .i64 0))))⟩, ⟨(some 4), none, (.v (.mov (.t 8)))⟩]) .ret), [(.t 4)]⟩
theorem U_slices_Contains_string_string : type_of% (sc_slices_Contains_string_string.eq_1) := sc_slices_Contains_string_string.eq_1
theorem comp_slices_Contains_string_string : comp Tryz.prog Tryz.f161 = some sc_slices_Contains_string_string := by kernel_rfl
end Go.Proofs.YtfbcnpbhhooapaaGreatDoor.M
