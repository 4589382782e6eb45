/- Parts of a proof, one behind another: Lt5, Wp3, Lt6, Wp1, Wp4, Wp5, Wl6, Wl7, Wl8, Wl9, Wl10, WlD, Wl11, Wl12, Wl13, Wl14, WlL, Wp6, Wt3, Sc7, Lt7, Wp7, Wt4. -/
import Derived.Test.YtfbcnpbhhooapaaGreatDoorZParseDeep4
import Derived.Lib.ItoaLen
import Derived.KernelRfl
import Derived.Test.YtfbcnpbhhooapaaGreatDoorProg
/- Trees of functions, printed by a program of this session (lift.py): what a run asks, over plain data. Lean proves each. -/
namespace Go.Proofs.YtfbcnpbhhooapaaGreatDoor.M
set_option linter.unusedSimpArgs false
set_option linter.unusedVariables false
open Go Classical
theorem sp_parse_exprs_chain : SP 103 = some (.code sc_parse_exprs_chain) := SPof_code rfl Tryz.func103 comp_parse_exprs_chain
/-! (*doorkeeper/parse.exprs).chain -/
def At_parse_exprs_chain_1 (rank : Int) (i13 : Int) (x14 : PExprs) (g15 : Nat) (z16 : Bool) (o : Option Int) (r : Int) (x' : PExprs) (x'_g2 : Nat) (x'_z2 : Bool) : Prop := ∀ (S : Sto) (e : Nat → PV) (f : Fr) (n0 t0 : Nat), ((getBox S n0 t0).map (List.take 4) = some [.list 5 (x14.tokens.l.map eToken) false, .int .i64 x14.tokens.pos, .sl 0 (.cell t0 2) 0 x14.out.length x14.out.length g15 false, .int .i64 x14.deep] ∧ getArr S n0 (.cell t0 2) = some ⟨5, x14.out.map eNode, z16, g15⟩) → e 0 = .ptr (n0 + 1) t0 0 ∧ e 1 = .int .i64 rank ∧ e 5 = .int .i64 i13 → k_parse_exprs_chain_1 SP (E SP (.loop b_parse_exprs_chain_1) ⟨e, f :: S⟩) = po 116 o (.v (.int .i64 r)) (setArr (setBox S n0 t0 ([.list 5 (x'.tokens.l.map eToken) false, .int .i64 x'.tokens.pos, .sl 0 (.cell t0 2) 0 x'.out.length x'.out.length x'_g2 false, .int .i64 x'.deep] ++ ((getBox S n0 t0).getD []).drop 4)) n0 (.cell t0 2) ⟨5, x'.out.map eNode, x'_z2, x'_g2⟩)
set_option maxHeartbeats 4000000 in
theorem At_parse_exprs_chain_1_step (rank : Int) (i13 : Int) (x14 : PExprs) (g15 : Nat) (z16 : Bool) (o : Option Int) (r : Int) (x' : PExprs) (x'_g2 : Nat) (x'_z2 : Bool) (T :
  ∃ (r17 : Token) (y18 : PTokens), (R_parse_tokens_now x14.tokens r17 y18) ∧
 ((r17.Kind = 4) →
  ∃ (r19 : Token) (y20 : PTokens), (R_parse_tokens_now y18 r19 y20) ∧
  ∃ (r21 : Int) (r22 : Bool), (R_parse_two rank r19.Text r21 r22) ∧
  ((r22 = true) →
   (I64 (y20.pos + 1)) ∧
   (I64 (rank + 1)) ∧
   ∃ (o24 : Option Int) (r23 : Int) (y25 : PExprs) (g26 : Nat) (z27 : Bool), (R_parse_exprs_chain (PExprs.mk (PTokens.mk y20.l (y20.pos + 1)) x14.out x14.deep) g15 z16 (rank + 1) o24 r23 y25 g26 z27) ∧
   (match o24 with
   | none => (∃ (r29 : Int) (y30 : PExprs) (g31 : Nat) (z32 : Bool), (R_parse_exprs_put y25 g26 z27 r21 [] [i13, r23] r29 y30 g31 z32) ∧
    ((rank = 2) →
     none = o ∧ r29 = r ∧ y30 = x' ∧ g31 = x'_g2 ∧ z32 = x'_z2) ∧
    (¬ (rank = 2) →
     At_parse_exprs_chain_1 rank r29 y30 g31 z32 o r x' x'_g2 x'_z2))
   | some e28 => (some e28 = o ∧ y25 = x' ∧ g26 = x'_g2 ∧ z27 = x'_z2))) ∧
  (¬ (r22 = true) →
   none = o ∧ i13 = r ∧ (PExprs.mk y20 x14.out x14.deep) = x' ∧ g15 = x'_g2 ∧ z16 = x'_z2)) ∧
 (¬ (r17.Kind = 4) →
  none = o ∧ i13 = r ∧ (PExprs.mk y18 x14.out x14.deep) = x' ∧ g15 = x'_g2 ∧ z16 = x'_z2)) : At_parse_exprs_chain_1 rank i13 x14 g15 z16 o r x' x'_g2 x'_z2 := by
 intro S e f n0 t0 H0 h
 obtain ⟨hb0, ha0⟩ := H0
 obtain ⟨w0, hB0⟩ := take_some hb0
 have hn0 := o_getBox_lt hB0
 unfold k_parse_exprs_chain_1
 rw [E_loop]
 have F := U_parse_exprs_chain
 obtain ⟨r17, y18, q1, T⟩ := T
 simp only [R_parse_tokens_now, le, List.cons_append, List.nil_append] at q1
 replace F := aa ha0 <| aa hB0 <| aa hn0 <| aa h <| aa q1 <| F
 by_cases c2 : r17.Kind = 4
 · replace T := T.1 c2
   obtain ⟨r19, y20, q3, r21, r22, q4, T⟩ := T
   simp only [R_parse_tokens_now, le, List.cons_append, List.nil_append] at q3
   simp only [R_parse_two, le, List.cons_append, List.nil_append] at q4
   replace F := aa (eq_true c2) <| aa q3 <| aa q4 <| F
   by_cases c5 : r22 = true
   · replace T := T.1 c5
     obtain ⟨p6, p7, o24, r23, y25, g26, z27, q8, T⟩ := T
     simp only [R_parse_exprs_chain, le, List.cons_append, List.nil_append] at q8
     replace F := aa c5 <| aa p6.wrap <| aa p7.wrap <| aa q8 <| F
     cases o24 with
     | none =>
       dsimp only at T
       obtain ⟨r29, y30, g31, z32, q9, T⟩ := T
       simp only [R_parse_exprs_put, le, List.cons_append, List.nil_append] at q9
       replace F := aa q9 <| F
       by_cases c10 : rank = 2
       · replace T := T.1 c10
         obtain ⟨rfl, rfl, rfl, rfl, rfl⟩ := T
         exact fi (aa (eq_true c10) <| F)
       · replace T := T.2 c10
         replace F := aa (eq_false c10) <| F
         try simp only [F, lw, lx, le, Nat.reduceMul, UInt8.reduceToNat, reduceIte, reduceCtorEq, Nat.reduceEqDiff, Nat.reduceAdd, Nat.reduceLeDiff, Nat.reduceSub, Nat.reduceLT, Int.reduceEq, Int.reduceLT, Int.reduceLE, Int.reduceToNat, Int.reduceAdd, Int.reduceSub, Int.reduceMul, Int.reduceNeg]
         refine (T _ _ _ n0 t0 ?_ ?_).trans ?_
         all_goals exact fi F
     | some e28 =>
       dsimp only at T
       obtain ⟨rfl, rfl, rfl, rfl⟩ := T
       exact fi F
   · replace T := T.2 c5
     replace c5 := Bool.eq_false_iff.2 c5
     obtain ⟨rfl, rfl, rfl, rfl, rfl⟩ := T
     exact fi (aa c5 <| F)
 · replace T := T.2 c2
   obtain ⟨rfl, rfl, rfl, rfl, rfl⟩ := T
   exact fi (aa (eq_false c2) <| F)
set_option maxHeartbeats 4000000 in
theorem parse_exprs_chain_tree (x : PExprs) (x_g2 : Nat) (x_z2 : Bool) (rank : Int) (o : Option Int) (r : Int) (x' : PExprs) (x'_g2 : Nat) (x'_z2 : Bool) (T :
  ((rank = 5) →
  ∃ (o2 : Option Int) (r1 : Int) (y3 : PExprs) (g4 : Nat) (z5 : Bool), (R_parse_exprs_un x x_g2 x_z2 o2 r1 y3 g4 z5) ∧
  (match o2 with
  | none => (none = o ∧ r1 = r ∧ y3 = x' ∧ g4 = x'_g2 ∧ z5 = x'_z2)
  | some e6 => (some e6 = o ∧ y3 = x' ∧ g4 = x'_g2 ∧ z5 = x'_z2))) ∧
 (¬ (rank = 5) →
  (I64 (rank + 1)) ∧
  ∃ (o8 : Option Int) (r7 : Int) (y9 : PExprs) (g10 : Nat) (z11 : Bool), (R_parse_exprs_chain x x_g2 x_z2 (rank + 1) o8 r7 y9 g10 z11) ∧
  (match o8 with
  | none => (At_parse_exprs_chain_1 rank r7 y9 g10 z11 o r x' x'_g2 x'_z2)
  | some e12 => (some e12 = o ∧ y9 = x' ∧ g10 = x'_g2 ∧ z11 = x'_z2)))) : R_parse_exprs_chain x x_g2 x_z2 rank o r x' x'_g2 x'_z2 := by
 intro S n0 t0 H0
 obtain ⟨hb0, ha0⟩ := H0
 obtain ⟨w0, hB0⟩ := take_some hb0
 have hn0 := o_getBox_lt hB0
 rw [call_code sp_parse_exprs_chain _ _ rfl]
 have F := U_parse_exprs_chain
 replace F := aa ha0 <| aa hB0 <| aa hn0 <| F
 by_cases c1 : rank = 5
 · replace T := T.1 c1
   obtain ⟨o2, r1, y3, g4, z5, q2, T⟩ := T
   simp only [R_parse_exprs_un, le, List.cons_append, List.nil_append] at q2
   replace F := aa (eq_true c1) <| aa q2 <| F
   cases o2 with
   | none =>
     dsimp only at T
     obtain ⟨rfl, rfl, rfl, rfl, rfl⟩ := T
     exact fi F
   | some e6 =>
     dsimp only at T
     obtain ⟨rfl, rfl, rfl, rfl⟩ := T
     exact fi F
 · replace T := T.2 c1
   obtain ⟨p3, o8, r7, y9, g10, z11, q4, T⟩ := T
   simp only [R_parse_exprs_chain, le, List.cons_append, List.nil_append] at q4
   replace F := aa (eq_false c1) <| aa p3.wrap <| aa q4 <| F
   cases o8 with
   | none =>
     dsimp only at T
     try simp only [F, lw, lx, le, Nat.reduceMul, UInt8.reduceToNat, reduceIte, reduceCtorEq, Nat.reduceEqDiff, Nat.reduceAdd, Nat.reduceLeDiff, Nat.reduceSub, Nat.reduceLT, Int.reduceEq, Int.reduceLT, Int.reduceLE, Int.reduceToNat, Int.reduceAdd, Int.reduceSub, Int.reduceMul, Int.reduceNeg]
     refine (T _ _ _ n0 t0 ?_ ?_).trans ?_
     all_goals exact fi F
   | some e12 =>
     dsimp only at T
     obtain ⟨rfl, rfl, rfl, rfl⟩ := T
     exact fi F
theorem sp_parse_exprs_expr : SP 68 = some (.code sc_parse_exprs_expr) := SPof_code rfl Tryz.func68 comp_parse_exprs_expr
/-! (*doorkeeper/parse.exprs).expr -/
set_option maxHeartbeats 4000000 in
theorem parse_exprs_expr_tree (x : PExprs) (x_g2 : Nat) (x_z2 : Bool) (o : Option Int) (r : Int) (x' : PExprs) (x'_g2 : Nat) (x'_z2 : Bool) (T :
  ∃ (o2 : Option Int) (r1 : Int) (y3 : PExprs) (g4 : Nat) (z5 : Bool), (R_parse_exprs_chain x x_g2 x_z2 0 o2 r1 y3 g4 z5) ∧
 (match o2 with
 | none => (∃ (r7 : Bool) (y8 : PTokens), (R_parse_tokens_is y3.tokens [63] r7 y8) ∧
  ((r7 = true) →
   ∃ (o9 : Option Int) (y10 : PExprs) (g11 : Nat) (z12 : Bool), (R_parse_exprs_open (PExprs.mk y8 y3.out y3.deep) g4 z5 [63] o9 y10 g11 z12) ∧
   (match o9 with
   | none => (∃ (o15 : Option Int) (r14 : Int) (y16 : PExprs) (g17 : Nat) (z18 : Bool), (R_parse_exprs_expr y10 g11 z12 o15 r14 y16 g17 z18) ∧
    (match o15 with
    | none => (∃ (o20 : Option Int) (y21 : PTokens), (R_parse_tokens_need y16.tokens [58] o20 y21) ∧
     (match o20 with
     | none => (∃ (o24 : Option Int) (r23 : Int) (y25 : PExprs) (g26 : Nat) (z27 : Bool), (R_parse_exprs_expr (PExprs.mk y21 y16.out y16.deep) g17 z18 o24 r23 y25 g26 z27) ∧
      (match o24 with
      | none => ((I64 (y25.deep - 1)) ∧
       ∃ (r29 : Int) (y30 : PExprs) (g31 : Nat) (z32 : Bool), (R_parse_exprs_put (PExprs.mk y25.tokens y25.out (y25.deep - 1)) g26 z27 10 [] [r1, r14, r23] r29 y30 g31 z32) ∧
       none = o ∧ r29 = r ∧ y30 = x' ∧ g31 = x'_g2 ∧ z32 = x'_z2)
      | some e28 => (some e28 = o ∧ y25 = x' ∧ g26 = x'_g2 ∧ z27 = x'_z2)))
     | some e22 => (some e22 = o ∧ (PExprs.mk y21 y16.out y16.deep) = x' ∧ g17 = x'_g2 ∧ z18 = x'_z2)))
    | some e19 => (some e19 = o ∧ y16 = x' ∧ g17 = x'_g2 ∧ z18 = x'_z2)))
   | some e13 => (some e13 = o ∧ y10 = x' ∧ g11 = x'_g2 ∧ z12 = x'_z2))) ∧
  (¬ (r7 = true) →
   none = o ∧ r1 = r ∧ (PExprs.mk y8 y3.out y3.deep) = x' ∧ g4 = x'_g2 ∧ z5 = x'_z2))
 | some e6 => (some e6 = o ∧ y3 = x' ∧ g4 = x'_g2 ∧ z5 = x'_z2))) : R_parse_exprs_expr x x_g2 x_z2 o r x' x'_g2 x'_z2 := by
 intro S n0 t0 H0
 obtain ⟨hb0, ha0⟩ := H0
 obtain ⟨w0, hB0⟩ := take_some hb0
 have hn0 := o_getBox_lt hB0
 rw [call_code sp_parse_exprs_expr _ _ rfl]
 have F := U_parse_exprs_expr
 obtain ⟨o2, r1, y3, g4, z5, q1, T⟩ := T
 simp only [R_parse_exprs_chain, le, List.cons_append, List.nil_append] at q1
 replace F := aa ha0 <| aa hB0 <| aa hn0 <| aa q1 <| F
 cases o2 with
 | none =>
   dsimp only at T
   obtain ⟨r7, y8, q2, T⟩ := T
   simp only [R_parse_tokens_is, le, List.cons_append, List.nil_append] at q2
   replace F := aa q2 <| F
   by_cases c3 : r7 = true
   · replace T := T.1 c3
     obtain ⟨o9, y10, g11, z12, q4, T⟩ := T
     simp only [R_parse_exprs_open, le, List.cons_append, List.nil_append] at q4
     replace F := aa c3 <| aa q4 <| F
     cases o9 with
     | none =>
       dsimp only at T
       obtain ⟨o15, r14, y16, g17, z18, q5, T⟩ := T
       simp only [R_parse_exprs_expr, le, List.cons_append, List.nil_append] at q5
       replace F := aa q5 <| F
       cases o15 with
       | none =>
         dsimp only at T
         obtain ⟨o20, y21, q6, T⟩ := T
         simp only [R_parse_tokens_need, le, List.cons_append, List.nil_append] at q6
         replace F := aa q6 <| F
         cases o20 with
         | none =>
           dsimp only at T
           obtain ⟨o24, r23, y25, g26, z27, q7, T⟩ := T
           simp only [R_parse_exprs_expr, le, List.cons_append, List.nil_append] at q7
           replace F := aa q7 <| F
           cases o24 with
           | none =>
             dsimp only at T
             obtain ⟨p8, r29, y30, g31, z32, q9, rfl, rfl, rfl, rfl, rfl⟩ := T
             simp only [R_parse_exprs_put, le, List.cons_append, List.nil_append] at q9
             exact fi (aa p8.wrap <| aa q9 <| F)
           | some e28 =>
             dsimp only at T
             obtain ⟨rfl, rfl, rfl, rfl⟩ := T
             exact fi F
         | some e22 =>
           dsimp only at T
           obtain ⟨rfl, rfl, rfl, rfl⟩ := T
           exact fi F
       | some e19 =>
         dsimp only at T
         obtain ⟨rfl, rfl, rfl, rfl⟩ := T
         exact fi F
     | some e13 =>
       dsimp only at T
       obtain ⟨rfl, rfl, rfl, rfl⟩ := T
       exact fi F
   · replace T := T.2 c3
     replace c3 := Bool.eq_false_iff.2 c3
     obtain ⟨rfl, rfl, rfl, rfl, rfl⟩ := T
     exact fi (aa c3 <| F)
 | some e6 =>
   dsimp only at T
   obtain ⟨rfl, rfl, rfl, rfl⟩ := T
   exact fi F
theorem sp_parse_exprs_un : SP 142 = some (.code sc_parse_exprs_un) := SPof_code rfl Tryz.func142 comp_parse_exprs_un
/-! (*doorkeeper/parse.exprs).un -/
set_option maxHeartbeats 4000000 in
theorem parse_exprs_un_tree (x : PExprs) (x_g2 : Nat) (x_z2 : Bool) (o : Option Int) (r : Int) (x' : PExprs) (x'_g2 : Nat) (x'_z2 : Bool) (T :
  ∃ (r1 : Bool) (y2 : PTokens), (R_parse_tokens_is x.tokens [45] r1 y2) ∧
 ((r1 = true) →
  ∃ (o3 : Option Int) (y4 : PExprs) (g5 : Nat) (z6 : Bool), (R_parse_exprs_open (PExprs.mk y2 x.out x.deep) x_g2 x_z2 [45] o3 y4 g5 z6) ∧
  (match o3 with
  | none => (∃ (o9 : Option Int) (r8 : Int) (y10 : PExprs) (g11 : Nat) (z12 : Bool), (R_parse_exprs_un y4 g5 z6 o9 r8 y10 g11 z12) ∧
   (match o9 with
   | none => ((I64 (y10.deep - 1)) ∧
    ∃ (r14 : Int) (y15 : PExprs) (g16 : Nat) (z17 : Bool), (R_parse_exprs_put (PExprs.mk y10.tokens y10.out (y10.deep - 1)) g11 z12 9 [] [r8] r14 y15 g16 z17) ∧
    none = o ∧ r14 = r ∧ y15 = x' ∧ g16 = x'_g2 ∧ z17 = x'_z2)
   | some e13 => (some e13 = o ∧ y10 = x' ∧ g11 = x'_g2 ∧ z12 = x'_z2)))
  | some e7 => (some e7 = o ∧ y4 = x' ∧ g5 = x'_g2 ∧ z6 = x'_z2))) ∧
 (¬ (r1 = true) →
  ∃ (r18 : Bool) (y19 : PTokens), (R_parse_tokens_is y2 [33] r18 y19) ∧
  ((r18 = true) →
   ∃ (o20 : Option Int) (y21 : PExprs) (g22 : Nat) (z23 : Bool), (R_parse_exprs_open (PExprs.mk y19 x.out x.deep) x_g2 x_z2 [33] o20 y21 g22 z23) ∧
   (match o20 with
   | none => (∃ (o26 : Option Int) (r25 : Int) (y27 : PExprs) (g28 : Nat) (z29 : Bool), (R_parse_exprs_un y21 g22 z23 o26 r25 y27 g28 z29) ∧
    (match o26 with
    | none => ((I64 (y27.deep - 1)) ∧
     ∃ (r31 : Int) (y32 : PExprs) (g33 : Nat) (z34 : Bool), (R_parse_exprs_put (PExprs.mk y27.tokens y27.out (y27.deep - 1)) g28 z29 8 [] [r25] r31 y32 g33 z34) ∧
     none = o ∧ r31 = r ∧ y32 = x' ∧ g33 = x'_g2 ∧ z34 = x'_z2)
    | some e30 => (some e30 = o ∧ y27 = x' ∧ g28 = x'_g2 ∧ z29 = x'_z2)))
   | some e24 => (some e24 = o ∧ y21 = x' ∧ g22 = x'_g2 ∧ z23 = x'_z2))) ∧
  (¬ (r18 = true) →
   ∃ (o36 : Option Int) (r35 : Int) (y37 : PExprs) (g38 : Nat) (z39 : Bool), (R_parse_exprs_post (PExprs.mk y19 x.out x.deep) x_g2 x_z2 o36 r35 y37 g38 z39) ∧
   (match o36 with
   | none => (none = o ∧ r35 = r ∧ y37 = x' ∧ g38 = x'_g2 ∧ z39 = x'_z2)
   | some e40 => (some e40 = o ∧ y37 = x' ∧ g38 = x'_g2 ∧ z39 = x'_z2))))) : R_parse_exprs_un x x_g2 x_z2 o r x' x'_g2 x'_z2 := by
 intro S n0 t0 H0
 obtain ⟨hb0, ha0⟩ := H0
 obtain ⟨w0, hB0⟩ := take_some hb0
 have hn0 := o_getBox_lt hB0
 rw [call_code sp_parse_exprs_un _ _ rfl]
 have F := U_parse_exprs_un
 obtain ⟨r1, y2, q1, T⟩ := T
 simp only [R_parse_tokens_is, le, List.cons_append, List.nil_append] at q1
 replace F := aa ha0 <| aa hB0 <| aa hn0 <| aa q1 <| F
 by_cases c2 : r1 = true
 · replace T := T.1 c2
   obtain ⟨o3, y4, g5, z6, q3, T⟩ := T
   simp only [R_parse_exprs_open, le, List.cons_append, List.nil_append] at q3
   replace F := aa c2 <| aa q3 <| F
   cases o3 with
   | none =>
     dsimp only at T
     obtain ⟨o9, r8, y10, g11, z12, q4, T⟩ := T
     simp only [R_parse_exprs_un, le, List.cons_append, List.nil_append] at q4
     replace F := aa q4 <| F
     cases o9 with
     | none =>
       dsimp only at T
       obtain ⟨p5, r14, y15, g16, z17, q6, rfl, rfl, rfl, rfl, rfl⟩ := T
       simp only [R_parse_exprs_put, le, List.cons_append, List.nil_append] at q6
       exact fi (aa p5.wrap <| aa q6 <| F)
     | some e13 =>
       dsimp only at T
       obtain ⟨rfl, rfl, rfl, rfl⟩ := T
       exact fi F
   | some e7 =>
     dsimp only at T
     obtain ⟨rfl, rfl, rfl, rfl⟩ := T
     exact fi F
 · replace T := T.2 c2
   replace c2 := Bool.eq_false_iff.2 c2
   obtain ⟨r18, y19, q7, T⟩ := T
   simp only [R_parse_tokens_is, le, List.cons_append, List.nil_append] at q7
   replace F := aa c2 <| aa q7 <| F
   by_cases c8 : r18 = true
   · replace T := T.1 c8
     obtain ⟨o20, y21, g22, z23, q9, T⟩ := T
     simp only [R_parse_exprs_open, le, List.cons_append, List.nil_append] at q9
     replace F := aa c8 <| aa q9 <| F
     cases o20 with
     | none =>
       dsimp only at T
       obtain ⟨o26, r25, y27, g28, z29, q10, T⟩ := T
       simp only [R_parse_exprs_un, le, List.cons_append, List.nil_append] at q10
       replace F := aa q10 <| F
       cases o26 with
       | none =>
         dsimp only at T
         obtain ⟨p11, r31, y32, g33, z34, q12, rfl, rfl, rfl, rfl, rfl⟩ := T
         simp only [R_parse_exprs_put, le, List.cons_append, List.nil_append] at q12
         exact fi (aa p11.wrap <| aa q12 <| F)
       | some e30 =>
         dsimp only at T
         obtain ⟨rfl, rfl, rfl, rfl⟩ := T
         exact fi F
     | some e24 =>
       dsimp only at T
       obtain ⟨rfl, rfl, rfl, rfl⟩ := T
       exact fi F
   · replace T := T.2 c8
     replace c8 := Bool.eq_false_iff.2 c8
     obtain ⟨o36, r35, y37, g38, z39, q13, T⟩ := T
     simp only [R_parse_exprs_post, le, List.cons_append, List.nil_append] at q13
     replace F := aa c8 <| aa q13 <| F
     cases o36 with
     | none =>
       dsimp only at T
       obtain ⟨rfl, rfl, rfl, rfl, rfl⟩ := T
       exact fi F
     | some e40 =>
       dsimp only at T
       obtain ⟨rfl, rfl, rfl, rfl⟩ := T
       exact fi F
theorem sp_parse_exprs_post : SP 167 = some (.code sc_parse_exprs_post) := SPof_code rfl Tryz.func167 comp_parse_exprs_post
/-! (*doorkeeper/parse.exprs).post -/
def At_parse_exprs_post_1 (i7 : Int) (x8 : PExprs) (g9 : Nat) (z10 : Bool) (o : Option Int) (r : Int) (x' : PExprs) (x'_g2 : Nat) (x'_z2 : Bool) : Prop := ∀ (S : Sto) (e : Nat → PV) (f : Fr) (n0 t0 : Nat), ((getBox S n0 t0).map (List.take 4) = some [.list 5 (x8.tokens.l.map eToken) false, .int .i64 x8.tokens.pos, .sl 0 (.cell t0 2) 0 x8.out.length x8.out.length g9 false, .int .i64 x8.deep] ∧ getArr S n0 (.cell t0 2) = some ⟨5, x8.out.map eNode, z10, g9⟩) → e 0 = .ptr (n0 + 1) t0 0 ∧ e 3 = .int .i64 i7 → k_parse_exprs_post_1 SP (E SP (.loop b_parse_exprs_post_1) ⟨e, f :: S⟩) = po 116 o (.v (.int .i64 r)) (setArr (setBox S n0 t0 ([.list 5 (x'.tokens.l.map eToken) false, .int .i64 x'.tokens.pos, .sl 0 (.cell t0 2) 0 x'.out.length x'.out.length x'_g2 false, .int .i64 x'.deep] ++ ((getBox S n0 t0).getD []).drop 4)) n0 (.cell t0 2) ⟨5, x'.out.map eNode, x'_z2, x'_g2⟩)
set_option maxHeartbeats 4000000 in
theorem At_parse_exprs_post_1_step (i7 : Int) (x8 : PExprs) (g9 : Nat) (z10 : Bool) (o : Option Int) (r : Int) (x' : PExprs) (x'_g2 : Nat) (x'_z2 : Bool) (T :
  ∃ (r11 : Bool) (y12 : PTokens), (R_parse_tokens_is x8.tokens [91] r11 y12) ∧
 ((r11 = true) →
  ∃ (o13 : Option Int) (y14 : PExprs) (g15 : Nat) (z16 : Bool), (R_parse_exprs_open (PExprs.mk y12 x8.out x8.deep) g9 z10 [91] o13 y14 g15 z16) ∧
  (match o13 with
  | none => (∃ (o19 : Option Int) (r18 : Int) (y20 : PExprs) (g21 : Nat) (z22 : Bool), (R_parse_exprs_expr y14 g15 z16 o19 r18 y20 g21 z22) ∧
   (match o19 with
   | none => (∃ (o24 : Option Int) (y25 : PExprs) (g26 : Nat) (z27 : Bool), (R_parse_exprs_shut y20 g21 z22 [93] o24 y25 g26 z27) ∧
    (match o24 with
    | none => (∃ (r29 : Int) (y30 : PExprs) (g31 : Nat) (z32 : Bool), (R_parse_exprs_put y25 g26 z27 7 [] [i7, r18] r29 y30 g31 z32) ∧
     At_parse_exprs_post_1 r29 y30 g31 z32 o r x' x'_g2 x'_z2)
    | some e28 => (some e28 = o ∧ y25 = x' ∧ g26 = x'_g2 ∧ z27 = x'_z2)))
   | some e23 => (some e23 = o ∧ y20 = x' ∧ g21 = x'_g2 ∧ z22 = x'_z2)))
  | some e17 => (some e17 = o ∧ y14 = x' ∧ g15 = x'_g2 ∧ z16 = x'_z2))) ∧
 (¬ (r11 = true) →
  none = o ∧ i7 = r ∧ (PExprs.mk y12 x8.out x8.deep) = x' ∧ g9 = x'_g2 ∧ z10 = x'_z2)) : At_parse_exprs_post_1 i7 x8 g9 z10 o r x' x'_g2 x'_z2 := by
 intro S e f n0 t0 H0 h
 obtain ⟨hb0, ha0⟩ := H0
 obtain ⟨w0, hB0⟩ := take_some hb0
 have hn0 := o_getBox_lt hB0
 unfold k_parse_exprs_post_1
 rw [E_loop]
 have F := U_parse_exprs_post
 obtain ⟨r11, y12, q1, T⟩ := T
 simp only [R_parse_tokens_is, le, List.cons_append, List.nil_append] at q1
 replace F := aa ha0 <| aa hB0 <| aa hn0 <| aa h <| aa q1 <| F
 by_cases c2 : r11 = true
 · replace T := T.1 c2
   obtain ⟨o13, y14, g15, z16, q3, T⟩ := T
   simp only [R_parse_exprs_open, le, List.cons_append, List.nil_append] at q3
   replace F := aa c2 <| aa q3 <| F
   cases o13 with
   | none =>
     dsimp only at T
     obtain ⟨o19, r18, y20, g21, z22, q4, T⟩ := T
     simp only [R_parse_exprs_expr, le, List.cons_append, List.nil_append] at q4
     replace F := aa q4 <| F
     cases o19 with
     | none =>
       dsimp only at T
       obtain ⟨o24, y25, g26, z27, q5, T⟩ := T
       simp only [R_parse_exprs_shut, le, List.cons_append, List.nil_append] at q5
       replace F := aa q5 <| F
       cases o24 with
       | none =>
         dsimp only at T
         obtain ⟨r29, y30, g31, z32, q6, T⟩ := T
         simp only [R_parse_exprs_put, le, List.cons_append, List.nil_append] at q6
         replace F := aa q6 <| F
         try simp only [F, lw, lx, le, Nat.reduceMul, UInt8.reduceToNat, reduceIte, reduceCtorEq, Nat.reduceEqDiff, Nat.reduceAdd, Nat.reduceLeDiff, Nat.reduceSub, Nat.reduceLT, Int.reduceEq, Int.reduceLT, Int.reduceLE, Int.reduceToNat, Int.reduceAdd, Int.reduceSub, Int.reduceMul, Int.reduceNeg]
         refine (T _ _ _ n0 t0 ?_ ?_).trans ?_
         all_goals exact fi F
       | some e28 =>
         dsimp only at T
         obtain ⟨rfl, rfl, rfl, rfl⟩ := T
         exact fi F
     | some e23 =>
       dsimp only at T
       obtain ⟨rfl, rfl, rfl, rfl⟩ := T
       exact fi F
   | some e17 =>
     dsimp only at T
     obtain ⟨rfl, rfl, rfl, rfl⟩ := T
     exact fi F
 · replace T := T.2 c2
   replace c2 := Bool.eq_false_iff.2 c2
   obtain ⟨rfl, rfl, rfl, rfl, rfl⟩ := T
   exact fi (aa c2 <| F)
set_option maxHeartbeats 4000000 in
theorem parse_exprs_post_tree (x : PExprs) (x_g2 : Nat) (x_z2 : Bool) (o : Option Int) (r : Int) (x' : PExprs) (x'_g2 : Nat) (x'_z2 : Bool) (T :
  ∃ (o2 : Option Int) (r1 : Int) (y3 : PExprs) (g4 : Nat) (z5 : Bool), (R_parse_exprs_prim x x_g2 x_z2 o2 r1 y3 g4 z5) ∧
 (match o2 with
 | none => (At_parse_exprs_post_1 r1 y3 g4 z5 o r x' x'_g2 x'_z2)
 | some e6 => (some e6 = o ∧ y3 = x' ∧ g4 = x'_g2 ∧ z5 = x'_z2))) : R_parse_exprs_post x x_g2 x_z2 o r x' x'_g2 x'_z2 := by
 intro S n0 t0 H0
 obtain ⟨hb0, ha0⟩ := H0
 obtain ⟨w0, hB0⟩ := take_some hb0
 have hn0 := o_getBox_lt hB0
 rw [call_code sp_parse_exprs_post _ _ rfl]
 have F := U_parse_exprs_post
 obtain ⟨o2, r1, y3, g4, z5, q1, T⟩ := T
 simp only [R_parse_exprs_prim, le, List.cons_append, List.nil_append] at q1
 replace F := aa ha0 <| aa hB0 <| aa hn0 <| aa q1 <| F
 cases o2 with
 | none =>
   dsimp only at T
   try simp only [F, lw, lx, le, Nat.reduceMul, UInt8.reduceToNat, reduceIte, reduceCtorEq, Nat.reduceEqDiff, Nat.reduceAdd, Nat.reduceLeDiff, Nat.reduceSub, Nat.reduceLT, Int.reduceEq, Int.reduceLT, Int.reduceLE, Int.reduceToNat, Int.reduceAdd, Int.reduceSub, Int.reduceMul, Int.reduceNeg]
   refine (T _ _ _ n0 t0 ?_ ?_).trans ?_
   all_goals exact fi F
 | some e6 =>
   dsimp only at T
   obtain ⟨rfl, rfl, rfl, rfl⟩ := T
   exact fi F
theorem sp_parse_exprs_many : SP 203 = some (.code sc_parse_exprs_many) := SPof_code rfl Tryz.func203 comp_parse_exprs_many
/-! (*doorkeeper/parse.exprs).many -/
def At_parse_exprs_many_1 (end_ : List UInt8) (l14 : List Int) (x15 : PExprs) (g16 : Nat) (z17 : Bool) (o : Option Int) (r : List Int) (x' : PExprs) (x'_g2 : Nat) (x'_z2 : Bool) : Prop := ∀ (S : Sto) (e : Nat → PV) (f : Fr) (n0 t0 : Nat), ((getBox S n0 t0).map (List.take 4) = some [.list 5 (x15.tokens.l.map eToken) false, .int .i64 x15.tokens.pos, .sl 0 (.cell t0 2) 0 x15.out.length x15.out.length g16 false, .int .i64 x15.deep] ∧ getArr S n0 (.cell t0 2) = some ⟨5, x15.out.map eNode, z17, g16⟩) → e 0 = .ptr (n0 + 1) t0 0 ∧ e 1 = .str end_ ∧ e 5 = .sl 0 (.slot 5) 0 l14.length l14.length 0 false ∧ f.arr (.slot 5) = some ⟨1, l14.map eI, false, 0⟩ → k_parse_exprs_many_1 SP (E SP (.loop b_parse_exprs_many_1) ⟨e, f :: S⟩) = po 116 o (.arr 1 (r.map eI) false) (setArr (setBox S n0 t0 ([.list 5 (x'.tokens.l.map eToken) false, .int .i64 x'.tokens.pos, .sl 0 (.cell t0 2) 0 x'.out.length x'.out.length x'_g2 false, .int .i64 x'.deep] ++ ((getBox S n0 t0).getD []).drop 4)) n0 (.cell t0 2) ⟨5, x'.out.map eNode, x'_z2, x'_g2⟩)
set_option maxHeartbeats 4000000 in
theorem At_parse_exprs_many_1_step (end_ : List UInt8) (l14 : List Int) (x15 : PExprs) (g16 : Nat) (z17 : Bool) (o : Option Int) (r : List Int) (x' : PExprs) (x'_g2 : Nat) (x'_z2 : Bool) (T :
  ∃ (r18 : Bool) (y19 : PTokens), (R_parse_tokens_may x15.tokens [44] r18 y19) ∧
 ((r18 = true) →
  ∃ (o21 : Option Int) (r20 : Int) (y22 : PExprs) (g23 : Nat) (z24 : Bool), (R_parse_exprs_expr (PExprs.mk y19 x15.out x15.deep) g16 z17 o21 r20 y22 g23 z24) ∧
  (match o21 with
  | none => ((bigRow (l14.length + 1) 8) ∧
   At_parse_exprs_many_1 end_ (l14 ++ [r20]) y22 g23 z24 o r x' x'_g2 x'_z2)
  | some e25 => (some e25 = o ∧ y22 = x' ∧ g23 = x'_g2 ∧ z24 = x'_z2))) ∧
 (¬ (r18 = true) →
  ∃ (o26 : Option Int) (y27 : PExprs) (g28 : Nat) (z29 : Bool), (R_parse_exprs_shut (PExprs.mk y19 x15.out x15.deep) g16 z17 end_ o26 y27 g28 z29) ∧
  (match o26 with
  | none => (none = o ∧ l14 = r ∧ y27 = x' ∧ g28 = x'_g2 ∧ z29 = x'_z2)
  | some e30 => (some e30 = o ∧ y27 = x' ∧ g28 = x'_g2 ∧ z29 = x'_z2)))) : At_parse_exprs_many_1 end_ l14 x15 g16 z17 o r x' x'_g2 x'_z2 := by
 intro S e f n0 t0 H0 h
 obtain ⟨hb0, ha0⟩ := H0
 obtain ⟨w0, hB0⟩ := take_some hb0
 have hn0 := o_getBox_lt hB0
 unfold k_parse_exprs_many_1
 rw [E_loop]
 have F := U_parse_exprs_many
 obtain ⟨r18, y19, q1, T⟩ := T
 simp only [R_parse_tokens_may, le, List.cons_append, List.nil_append] at q1
 replace F := aa ha0 <| aa hB0 <| aa hn0 <| aa h <| aa q1 <| F
 by_cases c2 : r18 = true
 · replace T := T.1 c2
   obtain ⟨o21, r20, y22, g23, z24, q3, T⟩ := T
   simp only [R_parse_exprs_expr, le, List.cons_append, List.nil_append] at q3
   replace F := aa c2 <| aa q3 <| F
   cases o21 with
   | none =>
     dsimp only at T
     obtain ⟨p4, T⟩ := T
     simp only [bigRow] at p4
     replace F := aa p4 <| F
     try simp only [F, lw, lx, le, Nat.reduceMul, UInt8.reduceToNat, reduceIte, reduceCtorEq, Nat.reduceEqDiff, Nat.reduceAdd, Nat.reduceLeDiff, Nat.reduceSub, Nat.reduceLT, Int.reduceEq, Int.reduceLT, Int.reduceLE, Int.reduceToNat, Int.reduceAdd, Int.reduceSub, Int.reduceMul, Int.reduceNeg]
     refine (T _ _ _ n0 t0 ?_ ?_).trans ?_
     all_goals exact fi F
   | some e25 =>
     dsimp only at T
     obtain ⟨rfl, rfl, rfl, rfl⟩ := T
     exact fi F
 · replace T := T.2 c2
   replace c2 := Bool.eq_false_iff.2 c2
   obtain ⟨o26, y27, g28, z29, q5, T⟩ := T
   simp only [R_parse_exprs_shut, le, List.cons_append, List.nil_append] at q5
   replace F := aa c2 <| aa q5 <| F
   cases o26 with
   | none =>
     dsimp only at T
     obtain ⟨rfl, rfl, rfl, rfl, rfl⟩ := T
     exact fi F
   | some e30 =>
     dsimp only at T
     obtain ⟨rfl, rfl, rfl, rfl⟩ := T
     exact fi F
set_option maxHeartbeats 4000000 in
theorem parse_exprs_many_tree (x : PExprs) (x_g2 : Nat) (x_z2 : Bool) (end_ : List UInt8) (o : Option Int) (r : List Int) (x' : PExprs) (x'_g2 : Nat) (x'_z2 : Bool) (T :
  ∃ (r1 : Bool) (y2 : PTokens), (R_parse_tokens_is x.tokens end_ r1 y2) ∧
 ((r1 = true) →
  ∃ (o3 : Option Int) (y4 : PExprs) (g5 : Nat) (z6 : Bool), (R_parse_exprs_shut (PExprs.mk y2 x.out x.deep) x_g2 x_z2 end_ o3 y4 g5 z6) ∧
  (match o3 with
  | none => (none = o ∧ [] = r ∧ y4 = x' ∧ g5 = x'_g2 ∧ z6 = x'_z2)
  | some e7 => (some e7 = o ∧ y4 = x' ∧ g5 = x'_g2 ∧ z6 = x'_z2))) ∧
 (¬ (r1 = true) →
  ∃ (o9 : Option Int) (r8 : Int) (y10 : PExprs) (g11 : Nat) (z12 : Bool), (R_parse_exprs_expr (PExprs.mk y2 x.out x.deep) x_g2 x_z2 o9 r8 y10 g11 z12) ∧
  (match o9 with
  | none => (At_parse_exprs_many_1 end_ [r8] y10 g11 z12 o r x' x'_g2 x'_z2)
  | some e13 => (some e13 = o ∧ y10 = x' ∧ g11 = x'_g2 ∧ z12 = x'_z2)))) : R_parse_exprs_many x x_g2 x_z2 end_ o r x' x'_g2 x'_z2 := by
 intro S n0 t0 H0
 obtain ⟨hb0, ha0⟩ := H0
 obtain ⟨w0, hB0⟩ := take_some hb0
 have hn0 := o_getBox_lt hB0
 rw [call_code sp_parse_exprs_many _ _ rfl]
 have F := U_parse_exprs_many
 obtain ⟨r1, y2, q1, T⟩ := T
 simp only [R_parse_tokens_is, le, List.cons_append, List.nil_append] at q1
 replace F := aa ha0 <| aa hB0 <| aa hn0 <| aa q1 <| F
 by_cases c2 : r1 = true
 · replace T := T.1 c2
   obtain ⟨o3, y4, g5, z6, q3, T⟩ := T
   simp only [R_parse_exprs_shut, le, List.cons_append, List.nil_append] at q3
   replace F := aa c2 <| aa q3 <| F
   cases o3 with
   | none =>
     dsimp only at T
     obtain ⟨rfl, rfl, rfl, rfl, rfl⟩ := T
     exact fi F
   | some e7 =>
     dsimp only at T
     obtain ⟨rfl, rfl, rfl, rfl⟩ := T
     exact fi F
 · replace T := T.2 c2
   replace c2 := Bool.eq_false_iff.2 c2
   obtain ⟨o9, r8, y10, g11, z12, q4, T⟩ := T
   simp only [R_parse_exprs_expr, le, List.cons_append, List.nil_append] at q4
   replace F := aa c2 <| aa q4 <| F
   cases o9 with
   | none =>
     dsimp only at T
     try simp only [F, lw, lx, le, Nat.reduceMul, UInt8.reduceToNat, reduceIte, reduceCtorEq, Nat.reduceEqDiff, Nat.reduceAdd, Nat.reduceLeDiff, Nat.reduceSub, Nat.reduceLT, Int.reduceEq, Int.reduceLT, Int.reduceLE, Int.reduceToNat, Int.reduceAdd, Int.reduceSub, Int.reduceMul, Int.reduceNeg]
     refine (T _ _ _ n0 t0 ?_ ?_).trans ?_
     all_goals exact fi F
   | some e13 =>
     dsimp only at T
     obtain ⟨rfl, rfl, rfl, rfl⟩ := T
     exact fi F
theorem sp_parse_blocks_label : SP 64 = some (.code sc_parse_blocks_label) := SPof_code rfl Tryz.func64 comp_parse_blocks_label
/-! (*doorkeeper/parse.blocks).label -/
set_option maxHeartbeats 4000000 in
theorem parse_blocks_label_tree (b : PBlocks) (b_g2 : Nat) (b_z2 : Bool) (o : Option Int) (r : List UInt8) (b' : PBlocks) (b'_g2 : Nat) (b'_z2 : Bool) (T :
  ∃ (r1 : Token) (y2 : PTokens), (R_parse_tokens_now b.exprs.tokens r1 y2) ∧
 ((r1.Kind = 2) →
  (((r1.Parts.length : Int) = 1) →
   ∃ (v3 : Part), (r1.Parts[0]? = some v3) ∧
   ((v3.Ref = true) →
    ∃ (o4 : Option Int) (y5 : PTokens), (R_parse_tokens_fail y2 5 o4 y5) ∧
    (match o4 with
    | none => (False /- no return -/)
    | some e6 => (some e6 = o ∧ (PBlocks.mk (PExprs.mk y5 b.exprs.out b.exprs.deep)) = b' ∧ b_g2 = b'_g2 ∧ b_z2 = b'_z2))) ∧
   (¬ (v3.Ref = true) →
    ∃ (r7 : Bool), (R_lex_Label v3.Text r7) ∧
    ((r7 = true) →
     (I64 (y2.pos + 1)) ∧
     none = o ∧ v3.Text = r ∧ (PBlocks.mk (PExprs.mk (PTokens.mk y2.l (y2.pos + 1)) b.exprs.out b.exprs.deep)) = b' ∧ b_g2 = b'_g2 ∧ b_z2 = b'_z2) ∧
    (¬ (r7 = true) →
     ∃ (o8 : Option Int) (y9 : PTokens), (R_parse_tokens_fail y2 5 o8 y9) ∧
     (match o8 with
     | none => (False /- no return -/)
     | some e10 => (some e10 = o ∧ (PBlocks.mk (PExprs.mk y9 b.exprs.out b.exprs.deep)) = b' ∧ b_g2 = b'_g2 ∧ b_z2 = b'_z2))))) ∧
  (¬ ((r1.Parts.length : Int) = 1) →
   ∃ (o11 : Option Int) (y12 : PTokens), (R_parse_tokens_fail y2 5 o11 y12) ∧
   (match o11 with
   | none => (False /- no return -/)
   | some e13 => (some e13 = o ∧ (PBlocks.mk (PExprs.mk y12 b.exprs.out b.exprs.deep)) = b' ∧ b_g2 = b'_g2 ∧ b_z2 = b'_z2)))) ∧
 (¬ (r1.Kind = 2) →
  ∃ (o14 : Option Int) (y15 : PTokens), (R_parse_tokens_fail y2 5 o14 y15) ∧
  (match o14 with
  | none => (False /- no return -/)
  | some e16 => (some e16 = o ∧ (PBlocks.mk (PExprs.mk y15 b.exprs.out b.exprs.deep)) = b' ∧ b_g2 = b'_g2 ∧ b_z2 = b'_z2)))) : R_parse_blocks_label b b_g2 b_z2 o r b' b'_g2 b'_z2 := by
 intro S n0 t0 H0
 obtain ⟨hb0, ha0⟩ := H0
 obtain ⟨w0, hB0⟩ := take_some hb0
 have hn0 := o_getBox_lt hB0
 rw [call_code sp_parse_blocks_label _ _ rfl]
 have F := U_parse_blocks_label
 obtain ⟨r1, y2, q1, T⟩ := T
 simp only [R_parse_tokens_now, le, List.cons_append, List.nil_append] at q1
 replace F := aa ha0 <| aa hB0 <| aa hn0 <| aa q1 <| F
 by_cases c2 : r1.Kind = 2
 · replace T := T.1 c2
   replace F := aa (eq_true c2) <| F
   by_cases c3 : (r1.Parts.length : Int) = 1
   · replace T := T.1 c3
     obtain ⟨v3, q4, T⟩ := T
     replace F := aa (eq_true c3) <| aa q4 <| F
     by_cases c5 : v3.Ref = true
     · replace T := T.1 c5
       obtain ⟨o4, y5, q6, T⟩ := T
       simp only [R_parse_tokens_fail, le, List.cons_append, List.nil_append] at q6
       replace F := aa c5 <| aa q6 <| F
       cases o4 with
       | none => exact False.elim T
       | some e6 =>
         dsimp only at T
         obtain ⟨rfl, rfl, rfl, rfl⟩ := T
         exact fi F
     · replace T := T.2 c5
       replace c5 := Bool.eq_false_iff.2 c5
       obtain ⟨r7, q7, T⟩ := T
       simp only [R_lex_Label, le, List.cons_append, List.nil_append] at q7
       replace F := aa c5 <| aa q7 <| F
       by_cases c8 : r7 = true
       · replace T := T.1 c8
         obtain ⟨p9, rfl, rfl, rfl, rfl, rfl⟩ := T
         exact fi (aa c8 <| aa p9.wrap <| F)
       · replace T := T.2 c8
         replace c8 := Bool.eq_false_iff.2 c8
         obtain ⟨o8, y9, q10, T⟩ := T
         simp only [R_parse_tokens_fail, le, List.cons_append, List.nil_append] at q10
         replace F := aa c8 <| aa q10 <| F
         cases o8 with
         | none => exact False.elim T
         | some e10 =>
           dsimp only at T
           obtain ⟨rfl, rfl, rfl, rfl⟩ := T
           exact fi F
   · replace T := T.2 c3
     obtain ⟨o11, y12, q11, T⟩ := T
     simp only [R_parse_tokens_fail, le, List.cons_append, List.nil_append] at q11
     replace F := aa (eq_false c3) <| aa q11 <| F
     cases o11 with
     | none => exact False.elim T
     | some e13 =>
       dsimp only at T
       obtain ⟨rfl, rfl, rfl, rfl⟩ := T
       exact fi F
 · replace T := T.2 c2
   obtain ⟨o14, y15, q12, T⟩ := T
   simp only [R_parse_tokens_fail, le, List.cons_append, List.nil_append] at q12
   replace F := aa (eq_false c2) <| aa q12 <| F
   cases o14 with
   | none => exact False.elim T
   | some e16 =>
     dsimp only at T
     obtain ⟨rfl, rfl, rfl, rfl⟩ := T
     exact fi F
theorem sp_parse_blocks_body_1 : SP 100 = some (.code sc_parse_blocks_body_1) := SPof_code rfl Tryz.func100 comp_parse_blocks_body_1
/-! (*doorkeeper/parse.blocks).body$1 -/
set_option maxHeartbeats 4000000 in
theorem parse_blocks_body_1_tree (a : Attr) (c0_ : List UInt8) (r : Bool) (T :
  (decide (a.Name = c0_)) = r) : R_parse_blocks_body_1 a c0_ r := by
 intro S n1 t1 H0
 have hb0 := H0
 obtain ⟨w0, hB0⟩ := take_some hb0
 have hn0 := o_getBox_lt hB0
 rw [call_code sp_parse_blocks_body_1 _ _ rfl]
 have F := U_parse_blocks_body_1
 obtain rfl := T
 exact fi (aa hB0 <| aa hn0 <| F)
theorem sp_parse_blocks_body : SP 65 = some (.code sc_parse_blocks_body) := SPof_code rfl Tryz.func65 comp_parse_blocks_body
/-! (*doorkeeper/parse.blocks).body -/
theorem H_slices_ContainsFunc_api_Attr_api_Attr_parse_blocks_body_1 {xs : List Attr} {c0 : List UInt8} {p : Attr → Bool} (hl : xs.length < 9223372036854775808) (hp : ∀ x, x ∈ xs → R_parse_blocks_body_1 x c0 (p x)) : ∀ (S : Sto) (n0 : Nat) (t0 : Nat), (getBox S n0 t0).map (List.take 1) = some [.str c0] → call SP 99 [.list 2 (xs.map eAttr) false, .func 100 [.ptr n0 t0 0]] S = .ok (.v (.bool (xs.any p))) S := by
 intro S n0 t0 h0
 refine G_slices_ContainsFunc_api_Attr_api_Attr xs 100 [.ptr n0 t0 0] p S hl (by intro S; rfl) (by rfl) (by intro a; rfl) (by intro S; rfl) (by rfl) (by intro a; rfl) ?_
 intro x hx f f'
 have := hp x hx (f :: f' :: S) (n0 + 1 + 1) t0 (by simpa only [lw] using h0)
 simpa only [PV.upL, PV.up] using this
def At_parse_blocks_body_1 (l4 : List Attr) (b5 : PBlocks) (g6 : Nat) (z7 : Bool) (o : Option Int) (r : List Attr) (b' : PBlocks) (b'_g2 : Nat) (b'_z2 : Bool) : Prop := (∀ (S : Sto) (e : Nat → PV) (f : Fr) (n0 t0 : Nat), ((getBox S n0 t0).map (List.take 4) = some [.list 5 (b5.exprs.tokens.l.map eToken) false, .int .i64 b5.exprs.tokens.pos, .sl 0 (.cell t0 2) 0 b5.exprs.out.length b5.exprs.out.length g6 false, .int .i64 b5.exprs.deep] ∧ getArr S n0 (.cell t0 2) = some ⟨5, b5.exprs.out.map eNode, z7, g6⟩) → e 0 = .ptr (n0 + 1) t0 0 ∧ e 3 = .sl 0 (.slot 3) 0 l4.length l4.length 0 false ∧ f.arr (.slot 3) = some ⟨2, l4.map eAttr, false, 0⟩ → k_parse_blocks_body_1 SP (E SP (.loop b_parse_blocks_body_1) ⟨e, f :: S⟩) = po 116 o (.v (.list 2 (r.map eAttr) false)) (setArr (setBox S n0 t0 ([.list 5 (b'.exprs.tokens.l.map eToken) false, .int .i64 b'.exprs.tokens.pos, .sl 0 (.cell t0 2) 0 b'.exprs.out.length b'.exprs.out.length b'_g2 false, .int .i64 b'.exprs.deep] ++ ((getBox S n0 t0).getD []).drop 4)) n0 (.cell t0 2) ⟨5, b'.exprs.out.map eNode, b'_z2, b'_g2⟩)) ∨ (∀ (S : Sto) (e : Nat → PV) (f : Fr) (n0 t0 : Nat), ((getBox S n0 t0).map (List.take 4) = some [.list 5 (b5.exprs.tokens.l.map eToken) false, .int .i64 b5.exprs.tokens.pos, .sl 0 (.cell t0 2) 0 b5.exprs.out.length b5.exprs.out.length g6 false, .int .i64 b5.exprs.deep] ∧ getArr S n0 (.cell t0 2) = some ⟨5, b5.exprs.out.map eNode, z7, g6⟩) → e 0 = .ptr (n0 + 1) t0 0 ∧ e 3 = .sl 0 (.slot 3) 0 l4.length l4.length 0 false ∧ f.arr (.slot 3) = some ⟨2, l4.map eAttr, false, 0⟩ → k_parse_blocks_body_1 SP (E SP (.loop b_parse_blocks_body_1) ⟨e, f :: S⟩) = po 116 o (.arr 2 (r.map eAttr) false) (setArr (setBox S n0 t0 ([.list 5 (b'.exprs.tokens.l.map eToken) false, .int .i64 b'.exprs.tokens.pos, .sl 0 (.cell t0 2) 0 b'.exprs.out.length b'.exprs.out.length b'_g2 false, .int .i64 b'.exprs.deep] ++ ((getBox S n0 t0).getD []).drop 4)) n0 (.cell t0 2) ⟨5, b'.exprs.out.map eNode, b'_z2, b'_g2⟩))
def At_parse_blocks_body_1b (l31 : List Attr) (b32 : PBlocks) (g33 : Nat) (z34 : Bool) (o : Option Int) (r : List Attr) (b' : PBlocks) (b'_g2 : Nat) (b'_z2 : Bool) : Prop := (∀ (S : Sto) (e : Nat → PV) (f : Fr) (n0 t0 : Nat), ((getBox S n0 t0).map (List.take 4) = some [.list 5 (b32.exprs.tokens.l.map eToken) false, .int .i64 b32.exprs.tokens.pos, .sl 0 (.cell t0 2) 0 b32.exprs.out.length b32.exprs.out.length g33 false, .int .i64 b32.exprs.deep] ∧ getArr S n0 (.cell t0 2) = some ⟨5, b32.exprs.out.map eNode, z34, g33⟩) → e 0 = .ptr (n0 + 1) t0 0 ∧ e 3 = .sl 0 (.slot 3) 0 l31.length l31.length 0 false ∧ f.arr (.slot 3) = some ⟨2, l31.map eAttr, true, 0⟩ → k_parse_blocks_body_1 SP (E SP (.loop b_parse_blocks_body_1) ⟨e, f :: S⟩) = po 116 o (.v (.list 2 (r.map eAttr) false)) (setArr (setBox S n0 t0 ([.list 5 (b'.exprs.tokens.l.map eToken) false, .int .i64 b'.exprs.tokens.pos, .sl 0 (.cell t0 2) 0 b'.exprs.out.length b'.exprs.out.length b'_g2 false, .int .i64 b'.exprs.deep] ++ ((getBox S n0 t0).getD []).drop 4)) n0 (.cell t0 2) ⟨5, b'.exprs.out.map eNode, b'_z2, b'_g2⟩)) ∨ (∀ (S : Sto) (e : Nat → PV) (f : Fr) (n0 t0 : Nat), ((getBox S n0 t0).map (List.take 4) = some [.list 5 (b32.exprs.tokens.l.map eToken) false, .int .i64 b32.exprs.tokens.pos, .sl 0 (.cell t0 2) 0 b32.exprs.out.length b32.exprs.out.length g33 false, .int .i64 b32.exprs.deep] ∧ getArr S n0 (.cell t0 2) = some ⟨5, b32.exprs.out.map eNode, z34, g33⟩) → e 0 = .ptr (n0 + 1) t0 0 ∧ e 3 = .sl 0 (.slot 3) 0 l31.length l31.length 0 false ∧ f.arr (.slot 3) = some ⟨2, l31.map eAttr, true, 0⟩ → k_parse_blocks_body_1 SP (E SP (.loop b_parse_blocks_body_1) ⟨e, f :: S⟩) = po 116 o (.arr 2 (r.map eAttr) false) (setArr (setBox S n0 t0 ([.list 5 (b'.exprs.tokens.l.map eToken) false, .int .i64 b'.exprs.tokens.pos, .sl 0 (.cell t0 2) 0 b'.exprs.out.length b'.exprs.out.length b'_g2 false, .int .i64 b'.exprs.deep] ++ ((getBox S n0 t0).getD []).drop 4)) n0 (.cell t0 2) ⟨5, b'.exprs.out.map eNode, b'_z2, b'_g2⟩))
set_option maxHeartbeats 4000000 in
theorem At_parse_blocks_body_1_step (l4 : List Attr) (b5 : PBlocks) (g6 : Nat) (z7 : Bool) (o : Option Int) (r : List Attr) (b' : PBlocks) (b'_g2 : Nat) (b'_z2 : Bool) (T :
  ∃ (r8 : Bool) (y9 : PTokens), (R_parse_tokens_may b5.exprs.tokens [125] r8 y9) ∧
 ((r8 = true) →
  none = o ∧ l4 = r ∧ (PBlocks.mk (PExprs.mk y9 b5.exprs.out b5.exprs.deep)) = b' ∧ g6 = b'_g2 ∧ z7 = b'_z2) ∧
 (¬ (r8 = true) →
  ∃ (r10 : Token) (y11 : PTokens), (R_parse_tokens_now y9 r10 y11) ∧
  ∃ (r12 : Token) (y13 : PTokens), (R_parse_tokens_now y11 r12 y13) ∧
  ((r12.Kind = 3) →
   (l4.length < 9223372036854775808) ∧
   ∃ (pp14 : Attr → Bool), (∀ x, x ∈ l4 → R_parse_blocks_body_1 x r10.Text (pp14 x)) ∧
   (((l4.any pp14) = true) →
    ∃ (o15 : Option Int) (y16 : PTokens), (R_parse_tokens_fail y13 3 o15 y16) ∧
    (match o15 with
    | none => (False /- no return -/)
    | some e17 => (some e17 = o ∧ (PBlocks.mk (PExprs.mk y16 b5.exprs.out b5.exprs.deep)) = b' ∧ g6 = b'_g2 ∧ z7 = b'_z2))) ∧
   (¬ ((l4.any pp14) = true) →
    ∃ (o19 : Option Int) (r18 : List UInt8) (y20 : PTokens), (R_parse_tokens_name y13 o19 r18 y20) ∧
    (match o19 with
    | none => (∃ (o22 : Option Int) (y23 : PTokens), (R_parse_tokens_need y20 [61] o22 y23) ∧
     (match o22 with
     | none => (∃ (o26 : Option Int) (r25 : List Node) (y27 : PExprs) (g28 : Nat) (z29 : Bool), (R_parse_exprs_whole (PExprs.mk y23 b5.exprs.out b5.exprs.deep) g6 z7 o26 r25 y27 g28 z29) ∧
      (match o26 with
      | none => ((bigRow (l4.length + 1) 40) ∧
       At_parse_blocks_body_1b (l4 ++ [(Attr.mk r18 r25)]) (PBlocks.mk y27) g28 z29 o r b' b'_g2 b'_z2)
      | some e30 => (some e30 = o ∧ (PBlocks.mk y27) = b' ∧ g28 = b'_g2 ∧ z29 = b'_z2)))
     | some e24 => (some e24 = o ∧ (PBlocks.mk (PExprs.mk y23 b5.exprs.out b5.exprs.deep)) = b' ∧ g6 = b'_g2 ∧ z7 = b'_z2)))
    | some e21 => (some e21 = o ∧ (PBlocks.mk (PExprs.mk y20 b5.exprs.out b5.exprs.deep)) = b' ∧ g6 = b'_g2 ∧ z7 = b'_z2)))) ∧
  (¬ (r12.Kind = 3) →
   ∃ (o36 : Option Int) (r35 : List UInt8) (y37 : PTokens), (R_parse_tokens_name y13 o36 r35 y37) ∧
   (match o36 with
   | none => (∃ (o39 : Option Int) (y40 : PTokens), (R_parse_tokens_need y37 [61] o39 y40) ∧
    (match o39 with
    | none => (∃ (o43 : Option Int) (r42 : List Node) (y44 : PExprs) (g45 : Nat) (z46 : Bool), (R_parse_exprs_whole (PExprs.mk y40 b5.exprs.out b5.exprs.deep) g6 z7 o43 r42 y44 g45 z46) ∧
     (match o43 with
     | none => ((bigRow (l4.length + 1) 40) ∧
      At_parse_blocks_body_1 (l4 ++ [(Attr.mk r35 r42)]) (PBlocks.mk y44) g45 z46 o r b' b'_g2 b'_z2)
     | some e47 => (some e47 = o ∧ (PBlocks.mk y44) = b' ∧ g45 = b'_g2 ∧ z46 = b'_z2)))
    | some e41 => (some e41 = o ∧ (PBlocks.mk (PExprs.mk y40 b5.exprs.out b5.exprs.deep)) = b' ∧ g6 = b'_g2 ∧ z7 = b'_z2)))
   | some e38 => (some e38 = o ∧ (PBlocks.mk (PExprs.mk y37 b5.exprs.out b5.exprs.deep)) = b' ∧ g6 = b'_g2 ∧ z7 = b'_z2))))) : At_parse_blocks_body_1 l4 b5 g6 z7 o r b' b'_g2 b'_z2 := by
 have F := U_parse_blocks_body
 obtain ⟨r8, y9, q1, T⟩ := T
 simp only [R_parse_tokens_may, le, List.cons_append, List.nil_append] at q1
 replace F := aa q1 <| F
 by_cases c2 : r8 = true
 · replace T := T.1 c2
   obtain ⟨rfl, rfl, rfl, rfl, rfl⟩ := T
   right
   intro S e f n0 t0 H0 h
   obtain ⟨hb0, ha0⟩ := H0
   obtain ⟨w0, hB0⟩ := take_some hb0
   have hn0 := o_getBox_lt hB0
   replace F := aa ha0 <| aa hB0 <| aa hn0 <| aa h <| F
   unfold k_parse_blocks_body_1
   rw [E_loop]
   exact fi (aa c2 <| F)
 · replace T := T.2 c2
   replace c2 := Bool.eq_false_iff.2 c2
   obtain ⟨r10, y11, q3, r12, y13, q4, T⟩ := T
   simp only [R_parse_tokens_now, le, List.cons_append, List.nil_append] at q3
   simp only [R_parse_tokens_now, le, List.cons_append, List.nil_append] at q4
   replace F := aa c2 <| aa q3 <| aa q4 <| F
   by_cases c5 : r12.Kind = 3
   · replace T := T.1 c5
     obtain ⟨p6, pp14, q7, T⟩ := T
     have o7 := H_slices_ContainsFunc_api_Attr_api_Attr_parse_blocks_body_1  p6 q7
     try simp only [le] at o7
     replace F := aa (eq_true c5) <| aa p6 <| aa o7 <| F
     by_cases c8 : (l4.any pp14) = true
     · replace T := T.1 c8
       obtain ⟨o15, y16, q9, T⟩ := T
       simp only [R_parse_tokens_fail, le, List.cons_append, List.nil_append] at q9
       replace F := aa c8 <| aa q9 <| F
       cases o15 with
       | none => exact False.elim T
       | some e17 =>
         dsimp only at T
         obtain ⟨rfl, rfl, rfl, rfl⟩ := T
         right
         intro S e f n0 t0 H0 h
         obtain ⟨hb0, ha0⟩ := H0
         obtain ⟨w0, hB0⟩ := take_some hb0
         have hn0 := o_getBox_lt hB0
         replace F := aa ha0 <| aa hB0 <| aa hn0 <| aa h <| F
         unfold k_parse_blocks_body_1
         rw [E_loop]
         exact fi F
     · replace T := T.2 c8
       replace c8 := Bool.eq_false_iff.2 c8
       obtain ⟨o19, r18, y20, q10, T⟩ := T
       simp only [R_parse_tokens_name, le, List.cons_append, List.nil_append] at q10
       replace F := aa c8 <| aa q10 <| F
       cases o19 with
       | none =>
         dsimp only at T
         obtain ⟨o22, y23, q11, T⟩ := T
         simp only [R_parse_tokens_need, le, List.cons_append, List.nil_append] at q11
         replace F := aa q11 <| F
         cases o22 with
         | none =>
           dsimp only at T
           obtain ⟨o26, r25, y27, g28, z29, q12, T⟩ := T
           simp only [R_parse_exprs_whole, le, List.cons_append, List.nil_append] at q12
           replace F := aa q12 <| F
           cases o26 with
           | none =>
             dsimp only at T
             obtain ⟨p13, T⟩ := T
             simp only [bigRow] at p13
             replace F := aa p13 <| F
             rcases T with T | T
             · left
               intro S e f n0 t0 H0 h
               obtain ⟨hb0, ha0⟩ := H0
               obtain ⟨w0, hB0⟩ := take_some hb0
               have hn0 := o_getBox_lt hB0
               replace F := aa ha0 <| aa hB0 <| aa hn0 <| aa h <| F
               unfold k_parse_blocks_body_1
               rw [E_loop]
               try simp only [F, lw, lx, le, Nat.reduceMul, UInt8.reduceToNat, reduceIte, reduceCtorEq, Nat.reduceEqDiff, Nat.reduceAdd, Nat.reduceLeDiff, Nat.reduceSub, Nat.reduceLT, Int.reduceEq, Int.reduceLT, Int.reduceLE, Int.reduceToNat, Int.reduceAdd, Int.reduceSub, Int.reduceMul, Int.reduceNeg]
               refine (T _ _ _ n0 t0 ?_ ?_).trans ?_
               all_goals exact fi F
             · right
               intro S e f n0 t0 H0 h
               obtain ⟨hb0, ha0⟩ := H0
               obtain ⟨w0, hB0⟩ := take_some hb0
               have hn0 := o_getBox_lt hB0
               replace F := aa ha0 <| aa hB0 <| aa hn0 <| aa h <| F
               unfold k_parse_blocks_body_1
               rw [E_loop]
               try simp only [F, lw, lx, le, Nat.reduceMul, UInt8.reduceToNat, reduceIte, reduceCtorEq, Nat.reduceEqDiff, Nat.reduceAdd, Nat.reduceLeDiff, Nat.reduceSub, Nat.reduceLT, Int.reduceEq, Int.reduceLT, Int.reduceLE, Int.reduceToNat, Int.reduceAdd, Int.reduceSub, Int.reduceMul, Int.reduceNeg]
               refine (T _ _ _ n0 t0 ?_ ?_).trans ?_
               all_goals exact fi F
           | some e30 =>
             dsimp only at T
             obtain ⟨rfl, rfl, rfl, rfl⟩ := T
             right
             intro S e f n0 t0 H0 h
             obtain ⟨hb0, ha0⟩ := H0
             obtain ⟨w0, hB0⟩ := take_some hb0
             have hn0 := o_getBox_lt hB0
             replace F := aa ha0 <| aa hB0 <| aa hn0 <| aa h <| F
             unfold k_parse_blocks_body_1
             rw [E_loop]
             exact fi F
         | some e24 =>
           dsimp only at T
           obtain ⟨rfl, rfl, rfl, rfl⟩ := T
           right
           intro S e f n0 t0 H0 h
           obtain ⟨hb0, ha0⟩ := H0
           obtain ⟨w0, hB0⟩ := take_some hb0
           have hn0 := o_getBox_lt hB0
           replace F := aa ha0 <| aa hB0 <| aa hn0 <| aa h <| F
           unfold k_parse_blocks_body_1
           rw [E_loop]
           exact fi F
       | some e21 =>
         dsimp only at T
         obtain ⟨rfl, rfl, rfl, rfl⟩ := T
         right
         intro S e f n0 t0 H0 h
         obtain ⟨hb0, ha0⟩ := H0
         obtain ⟨w0, hB0⟩ := take_some hb0
         have hn0 := o_getBox_lt hB0
         replace F := aa ha0 <| aa hB0 <| aa hn0 <| aa h <| F
         unfold k_parse_blocks_body_1
         rw [E_loop]
         exact fi F
   · replace T := T.2 c5
     obtain ⟨o36, r35, y37, q14, T⟩ := T
     simp only [R_parse_tokens_name, le, List.cons_append, List.nil_append] at q14
     replace F := aa (eq_false c5) <| aa q14 <| F
     cases o36 with
     | none =>
       dsimp only at T
       obtain ⟨o39, y40, q15, T⟩ := T
       simp only [R_parse_tokens_need, le, List.cons_append, List.nil_append] at q15
       replace F := aa q15 <| F
       cases o39 with
       | none =>
         dsimp only at T
         obtain ⟨o43, r42, y44, g45, z46, q16, T⟩ := T
         simp only [R_parse_exprs_whole, le, List.cons_append, List.nil_append] at q16
         replace F := aa q16 <| F
         cases o43 with
         | none =>
           dsimp only at T
           obtain ⟨p17, T⟩ := T
           simp only [bigRow] at p17
           replace F := aa p17 <| F
           rcases T with T | T
           · left
             intro S e f n0 t0 H0 h
             obtain ⟨hb0, ha0⟩ := H0
             obtain ⟨w0, hB0⟩ := take_some hb0
             have hn0 := o_getBox_lt hB0
             replace F := aa ha0 <| aa hB0 <| aa hn0 <| aa h <| F
             unfold k_parse_blocks_body_1
             rw [E_loop]
             try simp only [F, lw, lx, le, Nat.reduceMul, UInt8.reduceToNat, reduceIte, reduceCtorEq, Nat.reduceEqDiff, Nat.reduceAdd, Nat.reduceLeDiff, Nat.reduceSub, Nat.reduceLT, Int.reduceEq, Int.reduceLT, Int.reduceLE, Int.reduceToNat, Int.reduceAdd, Int.reduceSub, Int.reduceMul, Int.reduceNeg]
             refine (T _ _ _ n0 t0 ?_ ?_).trans ?_
             all_goals exact fi F
           · right
             intro S e f n0 t0 H0 h
             obtain ⟨hb0, ha0⟩ := H0
             obtain ⟨w0, hB0⟩ := take_some hb0
             have hn0 := o_getBox_lt hB0
             replace F := aa ha0 <| aa hB0 <| aa hn0 <| aa h <| F
             unfold k_parse_blocks_body_1
             rw [E_loop]
             try simp only [F, lw, lx, le, Nat.reduceMul, UInt8.reduceToNat, reduceIte, reduceCtorEq, Nat.reduceEqDiff, Nat.reduceAdd, Nat.reduceLeDiff, Nat.reduceSub, Nat.reduceLT, Int.reduceEq, Int.reduceLT, Int.reduceLE, Int.reduceToNat, Int.reduceAdd, Int.reduceSub, Int.reduceMul, Int.reduceNeg]
             refine (T _ _ _ n0 t0 ?_ ?_).trans ?_
             all_goals exact fi F
         | some e47 =>
           dsimp only at T
           obtain ⟨rfl, rfl, rfl, rfl⟩ := T
           right
           intro S e f n0 t0 H0 h
           obtain ⟨hb0, ha0⟩ := H0
           obtain ⟨w0, hB0⟩ := take_some hb0
           have hn0 := o_getBox_lt hB0
           replace F := aa ha0 <| aa hB0 <| aa hn0 <| aa h <| F
           unfold k_parse_blocks_body_1
           rw [E_loop]
           exact fi F
       | some e41 =>
         dsimp only at T
         obtain ⟨rfl, rfl, rfl, rfl⟩ := T
         right
         intro S e f n0 t0 H0 h
         obtain ⟨hb0, ha0⟩ := H0
         obtain ⟨w0, hB0⟩ := take_some hb0
         have hn0 := o_getBox_lt hB0
         replace F := aa ha0 <| aa hB0 <| aa hn0 <| aa h <| F
         unfold k_parse_blocks_body_1
         rw [E_loop]
         exact fi F
     | some e38 =>
       dsimp only at T
       obtain ⟨rfl, rfl, rfl, rfl⟩ := T
       right
       intro S e f n0 t0 H0 h
       obtain ⟨hb0, ha0⟩ := H0
       obtain ⟨w0, hB0⟩ := take_some hb0
       have hn0 := o_getBox_lt hB0
       replace F := aa ha0 <| aa hB0 <| aa hn0 <| aa h <| F
       unfold k_parse_blocks_body_1
       rw [E_loop]
       exact fi F
set_option maxHeartbeats 4000000 in
theorem At_parse_blocks_body_1b_step (l31 : List Attr) (b32 : PBlocks) (g33 : Nat) (z34 : Bool) (o : Option Int) (r : List Attr) (b' : PBlocks) (b'_g2 : Nat) (b'_z2 : Bool) (T :
  ∃ (r48 : Bool) (y49 : PTokens), (R_parse_tokens_may b32.exprs.tokens [125] r48 y49) ∧
 ((r48 = true) →
  none = o ∧ l31 = r ∧ (PBlocks.mk (PExprs.mk y49 b32.exprs.out b32.exprs.deep)) = b' ∧ g33 = b'_g2 ∧ z34 = b'_z2) ∧
 (¬ (r48 = true) →
  ∃ (r50 : Token) (y51 : PTokens), (R_parse_tokens_now y49 r50 y51) ∧
  ∃ (r52 : Token) (y53 : PTokens), (R_parse_tokens_now y51 r52 y53) ∧
  ((r52.Kind = 3) →
   (l31.length < 9223372036854775808) ∧
   ∃ (pp54 : Attr → Bool), (∀ x, x ∈ l31 → R_parse_blocks_body_1 x r50.Text (pp54 x)) ∧
   (((l31.any pp54) = true) →
    ∃ (o55 : Option Int) (y56 : PTokens), (R_parse_tokens_fail y53 3 o55 y56) ∧
    (match o55 with
    | none => (False /- no return -/)
    | some e57 => (some e57 = o ∧ (PBlocks.mk (PExprs.mk y56 b32.exprs.out b32.exprs.deep)) = b' ∧ g33 = b'_g2 ∧ z34 = b'_z2))) ∧
   (¬ ((l31.any pp54) = true) →
    ∃ (o59 : Option Int) (r58 : List UInt8) (y60 : PTokens), (R_parse_tokens_name y53 o59 r58 y60) ∧
    (match o59 with
    | none => (∃ (o62 : Option Int) (y63 : PTokens), (R_parse_tokens_need y60 [61] o62 y63) ∧
     (match o62 with
     | none => (∃ (o66 : Option Int) (r65 : List Node) (y67 : PExprs) (g68 : Nat) (z69 : Bool), (R_parse_exprs_whole (PExprs.mk y63 b32.exprs.out b32.exprs.deep) g33 z34 o66 r65 y67 g68 z69) ∧
      (match o66 with
      | none => ((bigRow (l31.length + 1) 40) ∧
       At_parse_blocks_body_1b (l31 ++ [(Attr.mk r58 r65)]) (PBlocks.mk y67) g68 z69 o r b' b'_g2 b'_z2)
      | some e70 => (some e70 = o ∧ (PBlocks.mk y67) = b' ∧ g68 = b'_g2 ∧ z69 = b'_z2)))
     | some e64 => (some e64 = o ∧ (PBlocks.mk (PExprs.mk y63 b32.exprs.out b32.exprs.deep)) = b' ∧ g33 = b'_g2 ∧ z34 = b'_z2)))
    | some e61 => (some e61 = o ∧ (PBlocks.mk (PExprs.mk y60 b32.exprs.out b32.exprs.deep)) = b' ∧ g33 = b'_g2 ∧ z34 = b'_z2)))) ∧
  (¬ (r52.Kind = 3) →
   ∃ (o72 : Option Int) (r71 : List UInt8) (y73 : PTokens), (R_parse_tokens_name y53 o72 r71 y73) ∧
   (match o72 with
   | none => (∃ (o75 : Option Int) (y76 : PTokens), (R_parse_tokens_need y73 [61] o75 y76) ∧
    (match o75 with
    | none => (∃ (o79 : Option Int) (r78 : List Node) (y80 : PExprs) (g81 : Nat) (z82 : Bool), (R_parse_exprs_whole (PExprs.mk y76 b32.exprs.out b32.exprs.deep) g33 z34 o79 r78 y80 g81 z82) ∧
     (match o79 with
     | none => ((bigRow (l31.length + 1) 40) ∧
      At_parse_blocks_body_1b (l31 ++ [(Attr.mk r71 r78)]) (PBlocks.mk y80) g81 z82 o r b' b'_g2 b'_z2)
     | some e83 => (some e83 = o ∧ (PBlocks.mk y80) = b' ∧ g81 = b'_g2 ∧ z82 = b'_z2)))
    | some e77 => (some e77 = o ∧ (PBlocks.mk (PExprs.mk y76 b32.exprs.out b32.exprs.deep)) = b' ∧ g33 = b'_g2 ∧ z34 = b'_z2)))
   | some e74 => (some e74 = o ∧ (PBlocks.mk (PExprs.mk y73 b32.exprs.out b32.exprs.deep)) = b' ∧ g33 = b'_g2 ∧ z34 = b'_z2))))) : At_parse_blocks_body_1b l31 b32 g33 z34 o r b' b'_g2 b'_z2 := by
 have F := U_parse_blocks_body
 obtain ⟨r48, y49, q1, T⟩ := T
 simp only [R_parse_tokens_may, le, List.cons_append, List.nil_append] at q1
 replace F := aa q1 <| F
 by_cases c2 : r48 = true
 · replace T := T.1 c2
   obtain ⟨rfl, rfl, rfl, rfl, rfl⟩ := T
   left
   intro S e f n0 t0 H0 h
   obtain ⟨hb0, ha0⟩ := H0
   obtain ⟨w0, hB0⟩ := take_some hb0
   have hn0 := o_getBox_lt hB0
   replace F := aa ha0 <| aa hB0 <| aa hn0 <| aa h <| F
   unfold k_parse_blocks_body_1
   rw [E_loop]
   exact fi (aa c2 <| F)
 · replace T := T.2 c2
   replace c2 := Bool.eq_false_iff.2 c2
   obtain ⟨r50, y51, q3, r52, y53, q4, T⟩ := T
   simp only [R_parse_tokens_now, le, List.cons_append, List.nil_append] at q3
   simp only [R_parse_tokens_now, le, List.cons_append, List.nil_append] at q4
   replace F := aa c2 <| aa q3 <| aa q4 <| F
   by_cases c5 : r52.Kind = 3
   · replace T := T.1 c5
     obtain ⟨p6, pp54, q7, T⟩ := T
     have o7 := H_slices_ContainsFunc_api_Attr_api_Attr_parse_blocks_body_1  p6 q7
     try simp only [le] at o7
     replace F := aa (eq_true c5) <| aa p6 <| aa o7 <| F
     by_cases c8 : (l31.any pp54) = true
     · replace T := T.1 c8
       obtain ⟨o55, y56, q9, T⟩ := T
       simp only [R_parse_tokens_fail, le, List.cons_append, List.nil_append] at q9
       replace F := aa c8 <| aa q9 <| F
       cases o55 with
       | none => exact False.elim T
       | some e57 =>
         dsimp only at T
         obtain ⟨rfl, rfl, rfl, rfl⟩ := T
         right
         intro S e f n0 t0 H0 h
         obtain ⟨hb0, ha0⟩ := H0
         obtain ⟨w0, hB0⟩ := take_some hb0
         have hn0 := o_getBox_lt hB0
         replace F := aa ha0 <| aa hB0 <| aa hn0 <| aa h <| F
         unfold k_parse_blocks_body_1
         rw [E_loop]
         exact fi F
     · replace T := T.2 c8
       replace c8 := Bool.eq_false_iff.2 c8
       obtain ⟨o59, r58, y60, q10, T⟩ := T
       simp only [R_parse_tokens_name, le, List.cons_append, List.nil_append] at q10
       replace F := aa c8 <| aa q10 <| F
       cases o59 with
       | none =>
         dsimp only at T
         obtain ⟨o62, y63, q11, T⟩ := T
         simp only [R_parse_tokens_need, le, List.cons_append, List.nil_append] at q11
         replace F := aa q11 <| F
         cases o62 with
         | none =>
           dsimp only at T
           obtain ⟨o66, r65, y67, g68, z69, q12, T⟩ := T
           simp only [R_parse_exprs_whole, le, List.cons_append, List.nil_append] at q12
           replace F := aa q12 <| F
           cases o66 with
           | none =>
             dsimp only at T
             obtain ⟨p13, T⟩ := T
             simp only [bigRow] at p13
             replace F := aa p13 <| F
             rcases T with T | T
             · left
               intro S e f n0 t0 H0 h
               obtain ⟨hb0, ha0⟩ := H0
               obtain ⟨w0, hB0⟩ := take_some hb0
               have hn0 := o_getBox_lt hB0
               replace F := aa ha0 <| aa hB0 <| aa hn0 <| aa h <| F
               unfold k_parse_blocks_body_1
               rw [E_loop]
               try simp only [F, lw, lx, le, Nat.reduceMul, UInt8.reduceToNat, reduceIte, reduceCtorEq, Nat.reduceEqDiff, Nat.reduceAdd, Nat.reduceLeDiff, Nat.reduceSub, Nat.reduceLT, Int.reduceEq, Int.reduceLT, Int.reduceLE, Int.reduceToNat, Int.reduceAdd, Int.reduceSub, Int.reduceMul, Int.reduceNeg]
               refine (T _ _ _ n0 t0 ?_ ?_).trans ?_
               all_goals exact fi F
             · right
               intro S e f n0 t0 H0 h
               obtain ⟨hb0, ha0⟩ := H0
               obtain ⟨w0, hB0⟩ := take_some hb0
               have hn0 := o_getBox_lt hB0
               replace F := aa ha0 <| aa hB0 <| aa hn0 <| aa h <| F
               unfold k_parse_blocks_body_1
               rw [E_loop]
               try simp only [F, lw, lx, le, Nat.reduceMul, UInt8.reduceToNat, reduceIte, reduceCtorEq, Nat.reduceEqDiff, Nat.reduceAdd, Nat.reduceLeDiff, Nat.reduceSub, Nat.reduceLT, Int.reduceEq, Int.reduceLT, Int.reduceLE, Int.reduceToNat, Int.reduceAdd, Int.reduceSub, Int.reduceMul, Int.reduceNeg]
               refine (T _ _ _ n0 t0 ?_ ?_).trans ?_
               all_goals exact fi F
           | some e70 =>
             dsimp only at T
             obtain ⟨rfl, rfl, rfl, rfl⟩ := T
             right
             intro S e f n0 t0 H0 h
             obtain ⟨hb0, ha0⟩ := H0
             obtain ⟨w0, hB0⟩ := take_some hb0
             have hn0 := o_getBox_lt hB0
             replace F := aa ha0 <| aa hB0 <| aa hn0 <| aa h <| F
             unfold k_parse_blocks_body_1
             rw [E_loop]
             exact fi F
         | some e64 =>
           dsimp only at T
           obtain ⟨rfl, rfl, rfl, rfl⟩ := T
           right
           intro S e f n0 t0 H0 h
           obtain ⟨hb0, ha0⟩ := H0
           obtain ⟨w0, hB0⟩ := take_some hb0
           have hn0 := o_getBox_lt hB0
           replace F := aa ha0 <| aa hB0 <| aa hn0 <| aa h <| F
           unfold k_parse_blocks_body_1
           rw [E_loop]
           exact fi F
       | some e61 =>
         dsimp only at T
         obtain ⟨rfl, rfl, rfl, rfl⟩ := T
         right
         intro S e f n0 t0 H0 h
         obtain ⟨hb0, ha0⟩ := H0
         obtain ⟨w0, hB0⟩ := take_some hb0
         have hn0 := o_getBox_lt hB0
         replace F := aa ha0 <| aa hB0 <| aa hn0 <| aa h <| F
         unfold k_parse_blocks_body_1
         rw [E_loop]
         exact fi F
   · replace T := T.2 c5
     obtain ⟨o72, r71, y73, q14, T⟩ := T
     simp only [R_parse_tokens_name, le, List.cons_append, List.nil_append] at q14
     replace F := aa (eq_false c5) <| aa q14 <| F
     cases o72 with
     | none =>
       dsimp only at T
       obtain ⟨o75, y76, q15, T⟩ := T
       simp only [R_parse_tokens_need, le, List.cons_append, List.nil_append] at q15
       replace F := aa q15 <| F
       cases o75 with
       | none =>
         dsimp only at T
         obtain ⟨o79, r78, y80, g81, z82, q16, T⟩ := T
         simp only [R_parse_exprs_whole, le, List.cons_append, List.nil_append] at q16
         replace F := aa q16 <| F
         cases o79 with
         | none =>
           dsimp only at T
           obtain ⟨p17, T⟩ := T
           simp only [bigRow] at p17
           replace F := aa p17 <| F
           rcases T with T | T
           · left
             intro S e f n0 t0 H0 h
             obtain ⟨hb0, ha0⟩ := H0
             obtain ⟨w0, hB0⟩ := take_some hb0
             have hn0 := o_getBox_lt hB0
             replace F := aa ha0 <| aa hB0 <| aa hn0 <| aa h <| F
             unfold k_parse_blocks_body_1
             rw [E_loop]
             try simp only [F, lw, lx, le, Nat.reduceMul, UInt8.reduceToNat, reduceIte, reduceCtorEq, Nat.reduceEqDiff, Nat.reduceAdd, Nat.reduceLeDiff, Nat.reduceSub, Nat.reduceLT, Int.reduceEq, Int.reduceLT, Int.reduceLE, Int.reduceToNat, Int.reduceAdd, Int.reduceSub, Int.reduceMul, Int.reduceNeg]
             refine (T _ _ _ n0 t0 ?_ ?_).trans ?_
             all_goals exact fi F
           · right
             intro S e f n0 t0 H0 h
             obtain ⟨hb0, ha0⟩ := H0
             obtain ⟨w0, hB0⟩ := take_some hb0
             have hn0 := o_getBox_lt hB0
             replace F := aa ha0 <| aa hB0 <| aa hn0 <| aa h <| F
             unfold k_parse_blocks_body_1
             rw [E_loop]
             try simp only [F, lw, lx, le, Nat.reduceMul, UInt8.reduceToNat, reduceIte, reduceCtorEq, Nat.reduceEqDiff, Nat.reduceAdd, Nat.reduceLeDiff, Nat.reduceSub, Nat.reduceLT, Int.reduceEq, Int.reduceLT, Int.reduceLE, Int.reduceToNat, Int.reduceAdd, Int.reduceSub, Int.reduceMul, Int.reduceNeg]
             refine (T _ _ _ n0 t0 ?_ ?_).trans ?_
             all_goals exact fi F
         | some e83 =>
           dsimp only at T
           obtain ⟨rfl, rfl, rfl, rfl⟩ := T
           right
           intro S e f n0 t0 H0 h
           obtain ⟨hb0, ha0⟩ := H0
           obtain ⟨w0, hB0⟩ := take_some hb0
           have hn0 := o_getBox_lt hB0
           replace F := aa ha0 <| aa hB0 <| aa hn0 <| aa h <| F
           unfold k_parse_blocks_body_1
           rw [E_loop]
           exact fi F
       | some e77 =>
         dsimp only at T
         obtain ⟨rfl, rfl, rfl, rfl⟩ := T
         right
         intro S e f n0 t0 H0 h
         obtain ⟨hb0, ha0⟩ := H0
         obtain ⟨w0, hB0⟩ := take_some hb0
         have hn0 := o_getBox_lt hB0
         replace F := aa ha0 <| aa hB0 <| aa hn0 <| aa h <| F
         unfold k_parse_blocks_body_1
         rw [E_loop]
         exact fi F
     | some e74 =>
       dsimp only at T
       obtain ⟨rfl, rfl, rfl, rfl⟩ := T
       right
       intro S e f n0 t0 H0 h
       obtain ⟨hb0, ha0⟩ := H0
       obtain ⟨w0, hB0⟩ := take_some hb0
       have hn0 := o_getBox_lt hB0
       replace F := aa ha0 <| aa hB0 <| aa hn0 <| aa h <| F
       unfold k_parse_blocks_body_1
       rw [E_loop]
       exact fi F
set_option maxHeartbeats 4000000 in
theorem parse_blocks_body_tree (b : PBlocks) (b_g2 : Nat) (b_z2 : Bool) (o : Option Int) (r : List Attr) (b' : PBlocks) (b'_g2 : Nat) (b'_z2 : Bool) (T :
  ∃ (o1 : Option Int) (y2 : PTokens), (R_parse_tokens_need b.exprs.tokens [123] o1 y2) ∧
 (match o1 with
 | none => (At_parse_blocks_body_1 [] (PBlocks.mk (PExprs.mk y2 b.exprs.out b.exprs.deep)) b_g2 b_z2 o r b' b'_g2 b'_z2)
 | some e3 => (some e3 = o ∧ (PBlocks.mk (PExprs.mk y2 b.exprs.out b.exprs.deep)) = b' ∧ b_g2 = b'_g2 ∧ b_z2 = b'_z2))) : R_parse_blocks_body b b_g2 b_z2 o r b' b'_g2 b'_z2 := by
 have F := U_parse_blocks_body
 obtain ⟨o1, y2, q1, T⟩ := T
 simp only [R_parse_tokens_need, le, List.cons_append, List.nil_append] at q1
 replace F := aa q1 <| F
 cases o1 with
 | none =>
   dsimp only at T
   rcases T with T | T
   · left
     intro S n0 t0 H0
     obtain ⟨hb0, ha0⟩ := H0
     obtain ⟨w0, hB0⟩ := take_some hb0
     have hn0 := o_getBox_lt hB0
     replace F := aa ha0 <| aa hB0 <| aa hn0 <| F
     rw [call_code sp_parse_blocks_body _ _ rfl]
     try simp only [F, lw, lx, le, Nat.reduceMul, UInt8.reduceToNat, reduceIte, reduceCtorEq, Nat.reduceEqDiff, Nat.reduceAdd, Nat.reduceLeDiff, Nat.reduceSub, Nat.reduceLT, Int.reduceEq, Int.reduceLT, Int.reduceLE, Int.reduceToNat, Int.reduceAdd, Int.reduceSub, Int.reduceMul, Int.reduceNeg]
     refine (T _ _ _ n0 t0 ?_ ?_).trans ?_
     all_goals exact fi F
   · right
     intro S n0 t0 H0
     obtain ⟨hb0, ha0⟩ := H0
     obtain ⟨w0, hB0⟩ := take_some hb0
     have hn0 := o_getBox_lt hB0
     replace F := aa ha0 <| aa hB0 <| aa hn0 <| F
     rw [call_code sp_parse_blocks_body _ _ rfl]
     try simp only [F, lw, lx, le, Nat.reduceMul, UInt8.reduceToNat, reduceIte, reduceCtorEq, Nat.reduceEqDiff, Nat.reduceAdd, Nat.reduceLeDiff, Nat.reduceSub, Nat.reduceLT, Int.reduceEq, Int.reduceLT, Int.reduceLE, Int.reduceToNat, Int.reduceAdd, Int.reduceSub, Int.reduceMul, Int.reduceNeg]
     refine (T _ _ _ n0 t0 ?_ ?_).trans ?_
     all_goals exact fi F
 | some e3 =>
   dsimp only at T
   obtain ⟨rfl, rfl, rfl, rfl⟩ := T
   right
   intro S n0 t0 H0
   obtain ⟨hb0, ha0⟩ := H0
   obtain ⟨w0, hB0⟩ := take_some hb0
   have hn0 := o_getBox_lt hB0
   replace F := aa ha0 <| aa hB0 <| aa hn0 <| F
   rw [call_code sp_parse_blocks_body _ _ rfl]
   exact fi F
theorem sp_parse_words : SP 63 = some (.code sc_parse_words) := SPof_code rfl Tryz.func63 comp_parse_words
/-! doorkeeper/parse.words -/
set_option maxHeartbeats 4000000 in
theorem parse_words_tree  (r : List (List UInt8)) (T :
  [[118, 97, 114, 105, 97, 98, 108, 101], [108, 111, 99, 97, 108, 115], [110, 111, 100, 101], [109, 111, 100, 117, 108, 101], [100, 101, 102, 105, 110, 101]] = r) : R_parse_words  r := by
 intro S
 rw [call_code sp_parse_words _ _ rfl]
 have F := U_parse_words
 obtain rfl := T
 exact fi F
theorem sp_parse_blocks_block : SP 39 = some (.code sc_parse_blocks_block) := SPof_code rfl Tryz.func39 comp_parse_blocks_block
/-! (*doorkeeper/parse.blocks).block -/
def At_parse_blocks_block_1 (r4 : Int) (r11 : List UInt8) (l20 : List Attr) (g21 : Nat) (l22 : List Block) (g23 : Nat) (b24 : PBlocks) (g25 : Nat) (z26 : Bool) (o : Option Int) (r : Block) (b' : PBlocks) (b'_g2 : Nat) (b'_z2 : Bool) : Prop := ∀ (S : Sto) (e : Nat → PV) (f : Fr) (n0 t0 : Nat), ((getBox S n0 t0).map (List.take 4) = some [.list 5 (b24.exprs.tokens.l.map eToken) false, .int .i64 b24.exprs.tokens.pos, .sl 0 (.cell t0 2) 0 b24.exprs.out.length b24.exprs.out.length g25 false, .int .i64 b24.exprs.deep] ∧ getArr S n0 (.cell t0 2) = some ⟨5, b24.exprs.out.map eNode, z26, g25⟩) → e 0 = .ptr (n0 + 1) t0 0 ∧ e 4 = .ptr 0 4 0 ∧ e 7 = .ptr 0 7 0 ∧ f.box 4 = some [.int .i64 0, .str [], .sl 0 (.cell 4 2) 0 0 0 0 false, .sl 0 (.cell 4 3) 0 0 0 0 false] ∧ f.box 7 = some [.int .i64 (1 + r4), .str r11, .sl 0 (.cell 7 2) 0 l20.length l20.length g21 false, .sl 0 (.cell 7 3) 0 l22.length l22.length g23 false] ∧ f.arr (.cell 4 2) = some ⟨2, [], false, 0⟩ ∧ f.arr (.cell 4 3) = some ⟨4, [], false, 0⟩ ∧ f.arr (.cell 7 2) = some ⟨2, l20.map eAttr, false, g21⟩ ∧ f.arr (.cell 7 3) = some ⟨4, l22.map eBlock, false, g23⟩ → k_parse_blocks_block_1 SP (E SP (.loop b_parse_blocks_block_1) ⟨e, f :: S⟩) = po 116 o (.v (.agg [.int .i64 r.Kind, .str r.Label, .list 2 (r.Attrs.map eAttr) false, .list 4 (r.Blocks.map eBlock) false])) (setArr (setBox S n0 t0 ([.list 5 (b'.exprs.tokens.l.map eToken) false, .int .i64 b'.exprs.tokens.pos, .sl 0 (.cell t0 2) 0 b'.exprs.out.length b'.exprs.out.length b'_g2 false, .int .i64 b'.exprs.deep] ++ ((getBox S n0 t0).getD []).drop 4)) n0 (.cell t0 2) ⟨5, b'.exprs.out.map eNode, b'_z2, b'_g2⟩)
set_option maxHeartbeats 4000000 in
theorem At_parse_blocks_block_1_step (r4 : Int) (r11 : List UInt8) (l20 : List Attr) (g21 : Nat) (l22 : List Block) (g23 : Nat) (b24 : PBlocks) (g25 : Nat) (z26 : Bool) (o : Option Int) (r : Block) (b' : PBlocks) (b'_g2 : Nat) (b'_z2 : Bool) (T :
  ∃ (r48 : Bool) (y49 : PTokens), (R_parse_tokens_may b24.exprs.tokens [125] r48 y49) ∧
 ((r48 = true) →
  none = o ∧ (Block.mk (1 + r4) r11 l20 l22) = r ∧ (PBlocks.mk (PExprs.mk y49 b24.exprs.out b24.exprs.deep)) = b' ∧ g25 = b'_g2 ∧ z26 = b'_z2) ∧
 (¬ (r48 = true) →
  ∃ (o51 : Option Int) (r50 : Block) (y52 : PBlocks) (g53 : Nat) (z54 : Bool), (R_parse_blocks_block (PBlocks.mk (PExprs.mk y49 b24.exprs.out b24.exprs.deep)) g25 z26 true o51 r50 y52 g53 z54) ∧
  (match o51 with
  | none => ((bigRow (l22.length + 1) 72) ∧
   At_parse_blocks_block_1 r4 r11 l20 g21 (l22 ++ [r50]) g23 y52 g53 z54 o r b' b'_g2 b'_z2)
  | some e55 => (some e55 = o ∧ y52 = b' ∧ g53 = b'_g2 ∧ z54 = b'_z2)))) : At_parse_blocks_block_1 r4 r11 l20 g21 l22 g23 b24 g25 z26 o r b' b'_g2 b'_z2 := by
 intro S e f n0 t0 H0 h
 obtain ⟨hb0, ha0⟩ := H0
 obtain ⟨w0, hB0⟩ := take_some hb0
 have hn0 := o_getBox_lt hB0
 unfold k_parse_blocks_block_1
 rw [E_loop]
 have F := U_parse_blocks_block
 obtain ⟨r48, y49, q1, T⟩ := T
 simp only [R_parse_tokens_may, le, List.cons_append, List.nil_append] at q1
 replace F := aa ha0 <| aa hB0 <| aa hn0 <| aa h <| aa q1 <| F
 by_cases c2 : r48 = true
 · replace T := T.1 c2
   obtain ⟨rfl, rfl, rfl, rfl, rfl⟩ := T
   exact fi (aa c2 <| F)
 · replace T := T.2 c2
   replace c2 := Bool.eq_false_iff.2 c2
   obtain ⟨o51, r50, y52, g53, z54, q3, T⟩ := T
   simp only [R_parse_blocks_block, le, List.cons_append, List.nil_append] at q3
   replace F := aa c2 <| aa q3 <| F
   cases o51 with
   | none =>
     dsimp only at T
     obtain ⟨p4, T⟩ := T
     simp only [bigRow] at p4
     replace F := aa p4 <| F
     try simp only [F, lw, lx, le, Nat.reduceMul, UInt8.reduceToNat, reduceIte, reduceCtorEq, Nat.reduceEqDiff, Nat.reduceAdd, Nat.reduceLeDiff, Nat.reduceSub, Nat.reduceLT, Int.reduceEq, Int.reduceLT, Int.reduceLE, Int.reduceToNat, Int.reduceAdd, Int.reduceSub, Int.reduceMul, Int.reduceNeg]
     refine (T _ _ _ n0 t0 ?_ ?_).trans ?_
     all_goals exact fi F
   | some e55 =>
     dsimp only at T
     obtain ⟨rfl, rfl, rfl, rfl⟩ := T
     exact fi F
set_option maxHeartbeats 4000000 in
theorem parse_blocks_block_tree (b : PBlocks) (b_g2 : Nat) (b_z2 : Bool) (within : Bool) (o : Option Int) (r : Block) (b' : PBlocks) (b'_g2 : Nat) (b'_z2 : Bool) (T :
  ∃ (r1 : Token) (y2 : PTokens), (R_parse_tokens_now b.exprs.tokens r1 y2) ∧
 ∃ (r3 : List (List UInt8)), (R_parse_words r3) ∧
 ∃ (r4 : Int), (R_slices_Index_string_string r3 r1.Text r4) ∧
 (I64 (1 + r4)) ∧
 ((r1.Kind = 3) →
  (((1 + r4) = 0) →
   ∃ (o5 : Option Int) (y6 : PTokens), (R_parse_tokens_fail y2 5 o5 y6) ∧
   (match o5 with
   | none => (False /- no return -/)
   | some e7 => (some e7 = o ∧ (PBlocks.mk (PExprs.mk y6 b.exprs.out b.exprs.deep)) = b' ∧ b_g2 = b'_g2 ∧ b_z2 = b'_z2))) ∧
  (¬ ((1 + r4) = 0) →
   (((1 + r4) = 5) →
    ((within = true) →
     ∃ (o8 : Option Int) (y9 : PTokens), (R_parse_tokens_fail y2 5 o8 y9) ∧
     (match o8 with
     | none => (False /- no return -/)
     | some e10 => (some e10 = o ∧ (PBlocks.mk (PExprs.mk y9 b.exprs.out b.exprs.deep)) = b' ∧ b_g2 = b'_g2 ∧ b_z2 = b'_z2))) ∧
    (¬ (within = true) →
     (I64 (y2.pos + 1)) ∧
     ∃ (o12 : Option Int) (r11 : List UInt8) (y13 : PBlocks) (g14 : Nat) (z15 : Bool), (R_parse_blocks_label (PBlocks.mk (PExprs.mk (PTokens.mk y2.l (y2.pos + 1)) b.exprs.out b.exprs.deep)) b_g2 b_z2 o12 r11 y13 g14 z15) ∧
     (match o12 with
     | none => (∃ (o17 : Option Int) (y18 : PTokens), (R_parse_tokens_need y13.exprs.tokens [123] o17 y18) ∧
      (match o17 with
      | none => (At_parse_blocks_block_1 r4 r11 [] 1 [] 1 (PBlocks.mk (PExprs.mk y18 y13.exprs.out y13.exprs.deep)) g14 z15 o r b' b'_g2 b'_z2)
      | some e19 => (some e19 = o ∧ (PBlocks.mk (PExprs.mk y18 y13.exprs.out y13.exprs.deep)) = b' ∧ g14 = b'_g2 ∧ z15 = b'_z2)))
     | some e16 => (some e16 = o ∧ y13 = b' ∧ g14 = b'_g2 ∧ z15 = b'_z2)))) ∧
   (¬ ((1 + r4) = 5) →
    (I64 (y2.pos + 1)) ∧
    (((1 + r4) = 2) →
     ∃ (o28 : Option Int) (r27 : List Attr) (y29 : PBlocks) (g30 : Nat) (z31 : Bool), (R_parse_blocks_body (PBlocks.mk (PExprs.mk (PTokens.mk y2.l (y2.pos + 1)) b.exprs.out b.exprs.deep)) b_g2 b_z2 o28 r27 y29 g30 z31) ∧
     (match o28 with
     | none => ((none = o ∧ (Block.mk (1 + r4) [] r27 []) = r ∧ y29 = b' ∧ g30 = b'_g2 ∧ z31 = b'_z2) ∧
      (none = o ∧ (Block.mk (1 + r4) [] r27 []) = r ∧ y29 = b' ∧ g30 = b'_g2 ∧ z31 = b'_z2))
     | some e32 => (some e32 = o ∧ y29 = b' ∧ g30 = b'_g2 ∧ z31 = b'_z2))) ∧
    (¬ ((1 + r4) = 2) →
     ∃ (o34 : Option Int) (r33 : List UInt8) (y35 : PBlocks) (g36 : Nat) (z37 : Bool), (R_parse_blocks_label (PBlocks.mk (PExprs.mk (PTokens.mk y2.l (y2.pos + 1)) b.exprs.out b.exprs.deep)) b_g2 b_z2 o34 r33 y35 g36 z37) ∧
     (match o34 with
     | none => (∃ (o40 : Option Int) (r39 : List Attr) (y41 : PBlocks) (g42 : Nat) (z43 : Bool), (R_parse_blocks_body y35 g36 z37 o40 r39 y41 g42 z43) ∧
      (match o40 with
      | none => ((none = o ∧ (Block.mk (1 + r4) r33 r39 []) = r ∧ y41 = b' ∧ g42 = b'_g2 ∧ z43 = b'_z2) ∧
       (none = o ∧ (Block.mk (1 + r4) r33 r39 []) = r ∧ y41 = b' ∧ g42 = b'_g2 ∧ z43 = b'_z2))
      | some e44 => (some e44 = o ∧ y41 = b' ∧ g42 = b'_g2 ∧ z43 = b'_z2)))
     | some e38 => (some e38 = o ∧ y35 = b' ∧ g36 = b'_g2 ∧ z37 = b'_z2)))))) ∧
 (¬ (r1.Kind = 3) →
  ∃ (o45 : Option Int) (y46 : PTokens), (R_parse_tokens_fail y2 5 o45 y46) ∧
  (match o45 with
  | none => (False /- no return -/)
  | some e47 => (some e47 = o ∧ (PBlocks.mk (PExprs.mk y46 b.exprs.out b.exprs.deep)) = b' ∧ b_g2 = b'_g2 ∧ b_z2 = b'_z2)))) : R_parse_blocks_block b b_g2 b_z2 within o r b' b'_g2 b'_z2 := by
 intro S n0 t0 H0
 obtain ⟨hb0, ha0⟩ := H0
 obtain ⟨w0, hB0⟩ := take_some hb0
 have hn0 := o_getBox_lt hB0
 rw [call_code sp_parse_blocks_block _ _ rfl]
 have F := U_parse_blocks_block
 obtain ⟨r1, y2, q1, r3, q2, r4, q3, p4, T⟩ := T
 simp only [R_parse_tokens_now, le, List.cons_append, List.nil_append] at q1
 simp only [R_parse_words, le, List.cons_append, List.nil_append] at q2
 simp only [R_slices_Index_string_string, le, List.cons_append, List.nil_append] at q3
 replace F := aa ha0 <| aa hB0 <| aa hn0 <| aa q1 <| aa q2 <| aa q3 <| aa p4.wrap <| F
 by_cases c5 : r1.Kind = 3
 · replace T := T.1 c5
   replace F := aa (eq_true c5) <| F
   by_cases c6 : (1 + r4) = 0
   · replace T := T.1 c6
     obtain ⟨o5, y6, q7, T⟩ := T
     simp only [R_parse_tokens_fail, le, List.cons_append, List.nil_append] at q7
     replace F := aa (eq_true c6) <| aa q7 <| F
     cases o5 with
     | none => exact False.elim T
     | some e7 =>
       dsimp only at T
       obtain ⟨rfl, rfl, rfl, rfl⟩ := T
       exact fi F
   · replace T := T.2 c6
     replace F := aa (eq_false c6) <| F
     by_cases c8 : (1 + r4) = 5
     · replace T := T.1 c8
       replace F := aa (eq_true c8) <| F
       by_cases c9 : within = true
       · replace T := T.1 c9
         obtain ⟨o8, y9, q10, T⟩ := T
         simp only [R_parse_tokens_fail, le, List.cons_append, List.nil_append] at q10
         replace F := aa c9 <| aa q10 <| F
         cases o8 with
         | none => exact False.elim T
         | some e10 =>
           dsimp only at T
           obtain ⟨rfl, rfl, rfl, rfl⟩ := T
           exact fi F
       · replace T := T.2 c9
         replace c9 := Bool.eq_false_iff.2 c9
         obtain ⟨p11, o12, r11, y13, g14, z15, q13, T⟩ := T
         have d12 : ¬ ((1 + r4) = 2) := fun h => absurd (c8.symm.trans h) (by decide)
         simp only [R_parse_blocks_label, le, List.cons_append, List.nil_append] at q13
         replace F := aa c9 <| aa p11.wrap <| aa (eq_false d12) <| aa q13 <| F
         cases o12 with
         | none =>
           dsimp only at T
           obtain ⟨o17, y18, q14, T⟩ := T
           simp only [R_parse_tokens_need, le, List.cons_append, List.nil_append] at q14
           replace F := aa q14 <| F
           cases o17 with
           | none =>
             dsimp only at T
             try simp only [F, lw, lx, le, Nat.reduceMul, UInt8.reduceToNat, reduceIte, reduceCtorEq, Nat.reduceEqDiff, Nat.reduceAdd, Nat.reduceLeDiff, Nat.reduceSub, Nat.reduceLT, Int.reduceEq, Int.reduceLT, Int.reduceLE, Int.reduceToNat, Int.reduceAdd, Int.reduceSub, Int.reduceMul, Int.reduceNeg]
             refine (T _ _ _ n0 t0 ?_ ?_).trans ?_
             all_goals exact fi F
           | some e19 =>
             dsimp only at T
             obtain ⟨rfl, rfl, rfl, rfl⟩ := T
             exact fi F
         | some e16 =>
           dsimp only at T
           obtain ⟨rfl, rfl, rfl, rfl⟩ := T
           exact fi F
     · replace T := T.2 c8
       obtain ⟨p15, T⟩ := T
       replace F := aa (eq_false c8) <| aa p15.wrap <| F
       by_cases c16 : (1 + r4) = 2
       · replace T := T.1 c16
         obtain ⟨o28, r27, y29, g30, z31, q17, T⟩ := T
         simp only [R_parse_blocks_body, le, List.cons_append, List.nil_append] at q17
         replace F := aa (eq_true c16) <| F
         cases o28 with
         | none =>
           dsimp only at T
           rcases q17 with q17 | q17
           · replace T := T.1
             obtain ⟨rfl, rfl, rfl, rfl, rfl⟩ := T
             exact fi (aa q17 <| F)
           · replace T := T.2
             obtain ⟨rfl, rfl, rfl, rfl, rfl⟩ := T
             exact fi (aa q17 <| F)
         | some e32 =>
           dsimp only at T
           rcases q17 with q17 | q17
           ·
             obtain ⟨rfl, rfl, rfl, rfl⟩ := T
             exact fi (aa q17 <| F)
           ·
             obtain ⟨rfl, rfl, rfl, rfl⟩ := T
             exact fi (aa q17 <| F)
       · replace T := T.2 c16
         obtain ⟨o34, r33, y35, g36, z37, q18, T⟩ := T
         simp only [R_parse_blocks_label, le, List.cons_append, List.nil_append] at q18
         replace F := aa (eq_false c16) <| aa q18 <| F
         cases o34 with
         | none =>
           dsimp only at T
           obtain ⟨o40, r39, y41, g42, z43, q19, T⟩ := T
           simp only [R_parse_blocks_body, le, List.cons_append, List.nil_append] at q19
           cases o40 with
           | none =>
             dsimp only at T
             rcases q19 with q19 | q19
             · replace T := T.1
               obtain ⟨rfl, rfl, rfl, rfl, rfl⟩ := T
               exact fi (aa q19 <| F)
             · replace T := T.2
               obtain ⟨rfl, rfl, rfl, rfl, rfl⟩ := T
               exact fi (aa q19 <| F)
           | some e44 =>
             dsimp only at T
             rcases q19 with q19 | q19
             ·
               obtain ⟨rfl, rfl, rfl, rfl⟩ := T
               exact fi (aa q19 <| F)
             ·
               obtain ⟨rfl, rfl, rfl, rfl⟩ := T
               exact fi (aa q19 <| F)
         | some e38 =>
           dsimp only at T
           obtain ⟨rfl, rfl, rfl, rfl⟩ := T
           exact fi F
 · replace T := T.2 c5
   obtain ⟨o45, y46, q20, T⟩ := T
   simp only [R_parse_tokens_fail, le, List.cons_append, List.nil_append] at q20
   replace F := aa (eq_false c5) <| aa q20 <| F
   cases o45 with
   | none => exact False.elim T
   | some e47 =>
     dsimp only at T
     obtain ⟨rfl, rfl, rfl, rfl⟩ := T
     exact fi F
end Go.Proofs.YtfbcnpbhhooapaaGreatDoor.M

/- Parse: operators; and what a reader of expressions yields. -/
namespace Go.Proofs.YtfbcnpbhhooapaaGreatDoor.M
set_option linter.unusedSimpArgs false
set_option linter.unusedVariables false
open Go Classical
def idxI : Option Nat → Int
  | some i => (i : Int)
  | none => -1
theorem r_Index_loop (s : List (List UInt8)) (v : List UInt8) (hs : s.length ≤ 1000) : ∀ (l : List (List UInt8)) (i : Nat), s.drop i = l → i + l.length = s.length → At_slices_Index_string_string_1 s v (i : Nat) (idxI (idxS v l i))
  | [], i, h, hi => by
    refine At_slices_Index_string_string_1_step _ _ _ _ ⟨fun hf => ?_, fun _ => rfl⟩
    simp at hi
    omega
  | u :: l, i, h, hi => by
    have hlt : i < s.length := by simp at hi; omega
    have hg : s[i]? = some u := by
      have := congrArg List.head? h
      rw [List.head?_drop] at this
      simpa using this
    refine At_slices_Index_string_string_1_step _ _ _ _ ⟨fun _ => ⟨by omega, u, by simpa using hg, fun he => ?_, fun he => ⟨⟨by omega, by omega⟩, ?_⟩⟩, fun hf => absurd (by omega) hf⟩
    · simp [idxS, he, idxI]
    · have := r_Index_loop s v hs l (i + 1) (by rw [← List.drop_drop, h]; rfl) (by simp at hi ⊢; omega)
      simp only [idxS, if_neg he]
      exact this
theorem r_IndexS (s : List (List UInt8)) (v : List UInt8) (hs : s.length ≤ 1000) : R_slices_Index_string_string s v (idxI (idxS v s 0)) :=
  slices_Index_string_string_tree _ _ _ (r_Index_loop s v hs s 0 rfl (by simp))
theorem r_two (rank : Nat) (hr : rank < 5) (s : List UInt8) : ∃ k, R_parse_two (rank : Int) s k (opS rank s).isSome ∧ ∀ q, opS rank s = some q → k = q := by
  have key : ∀ (l : List (List UInt8)) (f : Int), ([[[124, 124]], [[38, 38]], [[61, 61], [33, 61], [60], [60, 61], [62], [62, 61]], [[43], [45]], [[42], [47], [37]]] : List (List (List UInt8)))[rank]? = some l → ([11, 12, 13, 19, 21] : List Int)[rank]? = some f → l.length ≤ 6 → 0 ≤ f → f ≤ 30 → signsS rank = l → firstS rank = f → ∃ k, R_parse_two (rank : Int) s k (opS rank s).isSome ∧ ∀ q, opS rank s = some q → k = q := by
    intro l f h1 h2 h3 h4 h5 h6 h7
    have hb : -1 ≤ idxI (idxS s l 0) ∧ idxI (idxS s l 0) ≤ 6 := by
      have gen : ∀ (l : List (List UInt8)) (i : Nat), -1 ≤ idxI (idxS s l i) ∧ idxI (idxS s l i) ≤ i + l.length := by
        intro l
        induction l with
        | nil => intro i; simp [idxS, idxI]
        | cons u l ih =>
          intro i
          simp only [idxS]
          split
          · simp only [idxI, List.length_cons]; omega
          · have := ih (i + 1)
            simp only [List.length_cons]
            omega
      have := gen l 0
      omega
    refine ⟨f + idxI (idxS s l 0), parse_two_tree _ _ _ _ ⟨by omega, l, by simpa using h1, idxI (idxS s l 0), r_IndexS l s (by omega), by omega, f, by simpa using h2, ⟨by omega, by omega⟩, rfl, ?_⟩, ?_⟩
    · simp only [opS, h6]
      cases idxS s l 0 with
      | none => simp [idxI]
      | some i => simp [idxI]
    · intro q hq
      simp only [opS, h6, h7] at hq
      cases hi : idxS s l 0 with
      | none => rw [hi] at hq; cases hq
      | some i => rw [hi] at hq; simpa [idxI] using hq
  match rank, hr with
  | 0, _ => exact key _ _ rfl rfl (by decide) (by decide) (by decide) rfl rfl
  | 1, _ => exact key _ _ rfl rfl (by decide) (by decide) (by decide) rfl rfl
  | 2, _ => exact key _ _ rfl rfl (by decide) (by decide) (by decide) rfl rfl
  | 3, _ => exact key _ _ rfl rfl (by decide) (by decide) (by decide) rfl rfl
  | 4, _ => exact key _ _ rfl rfl (by decide) (by decide) (by decide) rfl rfl
theorem r_is1 {L ts : List Token} (h : ts <:+ L) {s : List UInt8} (hi : isS s ts = true) : R_parse_tokens_is (pt L ts) s true (pt L ts) := by
  have := r_is h (fun e => by subst e; cases hi) s
  rw [hi] at this
  exact this
theorem r_is0 {L ts : List Token} (h : ts <:+ L) (hne : ts ≠ []) {s : List UInt8} (hi : isS s ts = false) : R_parse_tokens_is (pt L ts) s false (pt L ts) := by
  have := r_is h hne s
  rw [hi] at this
  exact this
/-- What a reader yields: the parser does it. m: how much is enough. -/
def OkE {α : Type} (L ts : List Token) (out : List Node) (d d' g c m n : Nat) (R : PExprs → Nat → Bool → Option Int → α → PExprs → Nat → Bool → Prop) : PR α → Prop
  | .ok a ts' out' => ts' <:+ L ∧ W ts' ∧ ts'.length + c ≤ ts.length ∧ out'.length + ts'.length ≤ out.length + ts.length ∧ R (pe L ts out d) g false none a (pe L ts' out' d') g false
  | .er e => ∃ a x' g' z', R (pe L ts out d) g false (some e) a x' g' z'
  | .no => n ≤ m
structure Sp (n : Nat) (L ts : List Token) (out : List Node) (d g : Nat) : Prop where
  expr : OkE L ts out d d g 1 (20 * ts.length + 9) n R_parse_exprs_expr (exprS n d ts out)
  chain : ∀ rank : Nat, rank ≤ 5 → OkE L ts out d d g 1 (20 * ts.length + 8 - rank) n (fun x g z => R_parse_exprs_chain x g z (rank : Int)) (chainS n rank d ts out)
  loop : ∀ (rank : Nat) (a : Int), rank < 5 → OkE L ts out d d g 0 (20 * ts.length) n (At_parse_exprs_chain_1 (rank : Int) a) (loopS n rank d a ts out)
  un : OkE L ts out d d g 1 (20 * ts.length + 2) n R_parse_exprs_un (unS n d ts out)
  post : OkE L ts out d d g 1 (20 * ts.length + 1) n R_parse_exprs_post (postS n d ts out)
  postl : ∀ a : Int, OkE L ts out d d g 0 (20 * ts.length) n (At_parse_exprs_post_1 a) (postL n d a ts out)
  many : ∀ e : List UInt8, d + 1 ≤ 64 → OkE L ts out (d + 1) d g 1 (20 * ts.length + 10) n (fun x g z => R_parse_exprs_many x g z e) (manyS n (d + 1) e ts out)
  manyl : ∀ (e : List UInt8) (l : List Int), l.length + ts.length ≤ 1000000 → d + 1 ≤ 64 → OkE L ts out (d + 1) d g 1 (20 * ts.length) n (At_parse_exprs_many_1 e l) (manyL n (d + 1) e l ts out)
  prim : OkE L ts out d d g 1 (20 * ts.length) n R_parse_exprs_prim (primS n d ts out)
  manyn : ∀ e : List UInt8, d + 1 ≤ 64 → ∀ b ts2 out2, manyS n (d + 1) e ts out = .ok b ts2 out2 → b.length ≤ ts.length
  manyln : ∀ (e : List UInt8) (l : List Int), d + 1 ≤ 64 → ∀ b ts2 out2, manyL n (d + 1) e l ts out = .ok b ts2 out2 → b.length ≤ l.length + ts.length
def SpA (n : Nat) : Prop := ∀ (L : List Token), L.length ≤ 1000000 → (∀ t ∈ L, t.Text.length ≤ 1000000) → ∀ (ts : List Token), ts <:+ L → W ts → ∀ (out : List Node), out.length + ts.length ≤ 1000000 → ∀ (d : Nat), d ≤ 64 → ∀ (g : Nat), Sp n L ts out d g
theorem sp_zero : SpA 0 := fun L hL hT ts hs hw out ho d hd g => by
  constructor
  iterate 9 (intros; simp only [exprS, chainS, loopS, unS, postS, postL, manyS, manyL, primS, OkE]; exact Nat.zero_le _)
  · intro e h b ts2 out2 hb; simp [manyS] at hb
  · intro e l h b ts2 out2 hb; simp [manyL] at hb
section
variable {n : Nat} (ih : SpA n) {L ts : List Token} (hL : L.length ≤ 1000000) (hT : ∀ t ∈ L, t.Text.length ≤ 1000000) (hs : ts <:+ L) (hw : W ts) {out : List Node} (ho : out.length + ts.length ≤ 1000000) {d : Nat} (hd : d ≤ 64) (g : Nat)
include ih hL hT hs hw ho hd
theorem sp_expr : OkE L ts out d d g 1 (20 * ts.length + 9) (n + 1) R_parse_exprs_expr (exprS (n + 1) d ts out) := by
  have h1 := (ih L hL hT ts hs hw out ho d hd g).chain 0 (by omega)
  simp only [exprS]
  cases hc : chainS n 0 d ts out with
  | no => rw [hc] at h1; simp only [PR.bind, OkE] at h1 ⊢; omega
  | er e =>
    rw [hc] at h1
    obtain ⟨a, x', g', z', q⟩ := h1
    exact ⟨0, x', g', z', parse_exprs_expr_tree _ _ _ _ _ _ _ _ ⟨some e, a, x', g', z', q, rfl, rfl, rfl, rfl⟩⟩
  | ok a ts1 out1 =>
    rw [hc] at h1
    obtain ⟨s1, w1, l1, o1, q1⟩ := h1
    simp only [PR.bind]
    by_cases hi : isS [63] ts1 = true
    · rw [if_pos hi]
      simp only [openS, if_pos hi]
      have hlen := len_shift hi
      by_cases h64 : 64 ≤ d
      · rw [if_pos h64]
        obtain ⟨x', g', z', q⟩ := r_open6 s1 w1.ne hi h64 out1 g false
        exact ⟨0, x', g', z', parse_exprs_expr_tree _ _ _ _ _ _ _ _ ⟨none, a, _, _, _, q1, true, _, r_is1 s1 hi, fun _ => ⟨some 6, x', g', z', q, rfl, rfl, rfl, rfl⟩, fun hf => absurd rfl hf⟩⟩
      · rw [if_neg h64]
        have q2 := r_open1 s1 hL hi h64 out1 g false
        have h3 := (ih L hL hT ts1.tail (suf_shift s1) (w1.shift hi) out1 (by omega) (d + 1) (by omega) g).expr
        cases hb : exprS n (d + 1) ts1.tail out1 with
        | no => rw [hb] at h3; simp only [OkE] at h3 ⊢; omega
        | er e =>
          rw [hb] at h3
          obtain ⟨b, x', g', z', q3⟩ := h3
          exact ⟨0, x', g', z', parse_exprs_expr_tree _ _ _ _ _ _ _ _ ⟨none, a, _, _, _, q1, true, _, r_is1 s1 hi, fun _ => ⟨none, _, _, _, q2, some e, b, x', g', z', q3, rfl, rfl, rfl, rfl⟩, fun hf => absurd rfl hf⟩⟩
        | ok b ts2 out2 =>
          rw [hb] at h3
          obtain ⟨s2, w2, l2, o2, q3⟩ := h3
          simp only [needS]
          by_cases hi2 : isS [58] ts2 = true
          · rw [if_pos hi2]
            have hlen2 := len_shift hi2
            have h4 := (ih L hL hT ts2.tail (suf_shift s2) (w2.shift hi2) out2 (by omega) (d + 1) (by omega) g).expr
            cases hc3 : exprS n (d + 1) ts2.tail out2 with
            | no => rw [hc3] at h4; simp only [OkE] at h4 ⊢; omega
            | er e =>
              rw [hc3] at h4
              obtain ⟨c, x', g', z', q4⟩ := h4
              exact ⟨0, x', g', z', parse_exprs_expr_tree _ _ _ _ _ _ _ _ ⟨none, a, _, _, _, q1, true, _, r_is1 s1 hi, fun _ => ⟨none, _, _, _, q2, none, b, _, _, _, q3, none, _, r_need1 s2 hL hi2, some e, c, x', g', z', q4, rfl, rfl, rfl, rfl⟩, fun hf => absurd rfl hf⟩⟩
            | ok c ts3 out3 =>
              rw [hc3] at h4
              obtain ⟨s3, w3, l3, o3, q4⟩ := h4
              refine ⟨s3, w3, by omega, by simp; omega, parse_exprs_expr_tree _ _ _ _ _ _ _ _ ⟨none, a, _, _, _, q1, true, _, r_is1 s1 hi, fun _ => ⟨none, _, _, _, q2, none, b, _, _, _, q3, none, _, r_need1 s2 hL hi2, none, c, _, _, _, q4, ⟨by simp only [pe]; omega, by simp only [pe]; omega⟩, _, _, _, _, r_put _ out3 _ g false 10 [] [a, b, c] (by simp) (by omega), rfl, rfl, ?_, rfl, rfl⟩, fun hf => absurd rfl hf⟩⟩
              simp only [pe]
              congr 1
              omega
          · rw [if_neg hi2]
            exact ⟨0, _, _, _, parse_exprs_expr_tree _ _ _ _ _ _ _ _ ⟨none, a, _, _, _, q1, true, _, r_is1 s1 hi, fun _ => ⟨none, _, _, _, q2, none, b, _, _, _, q3, some 5, _, r_need0 s2 w2.ne (by simpa using hi2), rfl, rfl, rfl, rfl⟩, fun hf => absurd rfl hf⟩⟩
    · rw [if_neg hi]
      exact ⟨s1, w1, l1, o1, parse_exprs_expr_tree _ _ _ _ _ _ _ _ ⟨none, a, _, _, _, q1, false, _, r_is0 s1 w1.ne (by simpa using hi), fun hf => (by cases hf), fun _ => ⟨rfl, rfl, rfl, rfl, rfl⟩⟩⟩
theorem sp_chain (rank : Nat) (hr : rank ≤ 5) : OkE L ts out d d g 1 (20 * ts.length + 8 - rank) (n + 1) (fun x g z => R_parse_exprs_chain x g z (rank : Int)) (chainS (n + 1) rank d ts out) := by
  simp only [chainS]
  by_cases h5 : rank = 5
  · subst h5
    have h1 := (ih L hL hT ts hs hw out ho d hd g).un
    rw [if_pos rfl]
    cases hc : unS n d ts out with
    | no => rw [hc] at h1; simp only [OkE] at h1 ⊢; omega
    | er e =>
      rw [hc] at h1
      obtain ⟨a, x', g', z', q⟩ := h1
      exact ⟨a, x', g', z', parse_exprs_chain_tree _ _ _ _ _ _ _ _ _ ⟨fun _ => ⟨some e, a, x', g', z', q, rfl, rfl, rfl, rfl⟩, fun hf => absurd rfl hf⟩⟩
    | ok a ts1 out1 =>
      rw [hc] at h1
      obtain ⟨s1, w1, l1, o1, q1⟩ := h1
      exact ⟨s1, w1, l1, o1, parse_exprs_chain_tree _ _ _ _ _ _ _ _ _ ⟨fun _ => ⟨none, a, _, _, _, q1, rfl, rfl, rfl, rfl, rfl⟩, fun hf => absurd rfl hf⟩⟩
  · rw [if_neg h5]
    have h5' : ¬ ((rank : Nat) : Int) = 5 := by omega
    have h1 := (ih L hL hT ts hs hw out ho d hd g).chain (rank + 1) (by omega)
    cases hc : chainS n (rank + 1) d ts out with
    | no => rw [hc] at h1; simp only [PR.bind, OkE] at h1 ⊢; omega
    | er e =>
      rw [hc] at h1
      obtain ⟨a, x', g', z', q⟩ := h1
      exact ⟨a, x', g', z', parse_exprs_chain_tree _ _ _ _ _ _ _ _ _ ⟨fun hf => absurd hf h5', fun _ => ⟨⟨by omega, by omega⟩, some e, a, x', g', z', q, rfl, rfl, rfl, rfl⟩⟩⟩
    | ok a ts1 out1 =>
      rw [hc] at h1
      obtain ⟨s1, w1, l1, o1, q1⟩ := h1
      simp only [PR.bind]
      have h2 := (ih L hL hT ts1 s1 w1 out1 (by omega) d hd g).loop rank a (by omega)
      cases hl : loopS n rank d a ts1 out1 with
      | no => rw [hl] at h2; simp only [OkE] at h2 ⊢; omega
      | er e =>
        rw [hl] at h2
        obtain ⟨b, x', g', z', q⟩ := h2
        exact ⟨b, x', g', z', parse_exprs_chain_tree _ _ _ _ _ _ _ _ _ ⟨fun hf => absurd hf h5', fun _ => ⟨⟨by omega, by omega⟩, none, a, _, _, _, q1, q⟩⟩⟩
      | ok b ts2 out2 =>
        rw [hl] at h2
        obtain ⟨s2, w2, l2, o2, q2⟩ := h2
        exact ⟨s2, w2, by omega, by omega, parse_exprs_chain_tree _ _ _ _ _ _ _ _ _ ⟨fun hf => absurd hf h5', fun _ => ⟨⟨by omega, by omega⟩, none, a, _, _, _, q1, q2⟩⟩⟩
theorem sp_loop (rank : Nat) (a : Int) (hr : rank < 5) : OkE L ts out d d g 0 (20 * ts.length) (n + 1) (At_parse_exprs_chain_1 (rank : Int) a) (loopS (n + 1) rank d a ts out) := by
  cases ts with
  | nil => exact hw.elim
  | cons t ts =>
    simp only [loopS]
    by_cases hk : t.Kind = 4
    · rw [if_pos hk]
      obtain ⟨k, hk2, hkq⟩ := r_two rank hr t.Text
      cases hop : opS rank t.Text with
      | none =>
        rw [hop] at hk2
        exact ⟨hs, hw, by simp, by simp, At_parse_exprs_chain_1_step _ _ _ _ _ _ _ _ _ _ ⟨t, _, r_now hs, fun _ => ⟨t, _, r_now hs, k, false, hk2, fun hf => (by cases hf), fun _ => ⟨rfl, rfl, rfl, rfl, rfl⟩⟩, fun hf => absurd hk hf⟩⟩
      | some kind =>
        rw [hop] at hk2
        obtain rfl := hkq kind hop
        simp only
        have hk0 : t.Kind ≠ 0 := by rw [hk]; decide
        have hp := suf_len hs
        have h1 := (ih L hL hT ts (suf_tail hs) (hw.tail hk0) out (by simp at ho; omega) d hd g).chain (rank + 1) (by omega)
        have hI : I64 ((pt L (t :: ts)).pos + 1) := by simp only [pt, I64]; omega
        have hI2 : I64 (((rank : Nat) : Int) + 1) := ⟨by omega, by omega⟩
        have e1 : (PExprs.mk (PTokens.mk (pt L (t :: ts)).l ((pt L (t :: ts)).pos + 1)) (pe L (t :: ts) out d).out (pe L (t :: ts) out d).deep) = pe L ts out d := by rw [pt_next hs]; rfl
        cases hc : chainS n (rank + 1) d ts out with
        | no => rw [hc] at h1; simp only [PR.bind, OkE, List.length_cons] at h1 ⊢; omega
        | er e =>
          rw [hc] at h1
          obtain ⟨b, x', g', z', q⟩ := h1
          exact ⟨b, x', g', z', At_parse_exprs_chain_1_step _ _ _ _ _ _ _ _ _ _ ⟨t, _, r_now hs, fun _ => ⟨t, _, r_now hs, k, true, hk2, fun _ => ⟨hI, hI2, some e, b, x', g', z', e1 ▸ q, rfl, rfl, rfl, rfl⟩, fun hf => absurd rfl hf⟩, fun hf => absurd hk hf⟩⟩
        | ok b ts1 out1 =>
          rw [hc] at h1
          obtain ⟨s1, w1, l1, o1, q1⟩ := h1
          simp only [PR.bind]
          simp only [List.length_cons] at ho hp
          by_cases h2 : rank = 2
          · subst h2
            rw [if_pos rfl]
            exact ⟨s1, w1, by simp; omega, by simp; omega, At_parse_exprs_chain_1_step _ _ _ _ _ _ _ _ _ _ ⟨t, _, r_now hs, fun _ => ⟨t, _, r_now hs, k, true, hk2, fun _ => ⟨hI, hI2, none, b, _, _, _, e1 ▸ q1, _, _, _, _, r_put _ out1 _ g false k [] [a, b] (by simp) (by omega), fun _ => ⟨rfl, rfl, rfl, rfl, rfl⟩, fun hf => absurd rfl hf⟩, fun hf => absurd rfl hf⟩, fun hf => absurd hk hf⟩⟩
          · rw [if_neg h2]
            have h2' : ¬ ((rank : Nat) : Int) = 2 := by omega
            have h3 := (ih L hL hT ts1 s1 w1 (out1 ++ [nd k [] [a, b]]) (by simp; omega) d hd g).loop rank (out1.length : Nat) hr
            cases hl : loopS n rank d (out1.length : Nat) ts1 (out1 ++ [nd k [] [a, b]]) with
            | no => rw [hl] at h3; simp only [OkE, List.length_cons] at h3 ⊢; omega
            | er e =>
              rw [hl] at h3
              obtain ⟨c, x', g', z', q⟩ := h3
              exact ⟨c, x', g', z', At_parse_exprs_chain_1_step _ _ _ _ _ _ _ _ _ _ ⟨t, _, r_now hs, fun _ => ⟨t, _, r_now hs, k, true, hk2, fun _ => ⟨hI, hI2, none, b, _, _, _, e1 ▸ q1, _, _, _, _, r_put _ out1 _ g false k [] [a, b] (by simp) (by omega), fun hf => absurd hf h2', fun _ => q⟩, fun hf => absurd rfl hf⟩, fun hf => absurd hk hf⟩⟩
            | ok c ts2 out2 =>
              rw [hl] at h3
              obtain ⟨s2, w2, l2, o2, q2⟩ := h3
              simp only [List.length_append, List.length_cons, List.length_nil] at o2
              exact ⟨s2, w2, by simp; omega, by simp; omega, At_parse_exprs_chain_1_step _ _ _ _ _ _ _ _ _ _ ⟨t, _, r_now hs, fun _ => ⟨t, _, r_now hs, k, true, hk2, fun _ => ⟨hI, hI2, none, b, _, _, _, e1 ▸ q1, _, _, _, _, r_put _ out1 _ g false k [] [a, b] (by simp) (by omega), fun hf => absurd hf h2', fun _ => q2⟩, fun hf => absurd rfl hf⟩, fun hf => absurd hk hf⟩⟩
    · rw [if_neg hk]
      exact ⟨hs, hw, by simp, by simp, At_parse_exprs_chain_1_step _ _ _ _ _ _ _ _ _ _ ⟨t, _, r_now hs, fun hf => absurd hf hk, fun _ => ⟨rfl, rfl, rfl, rfl, rfl⟩⟩⟩
theorem sp_un : OkE L ts out d d g 1 (20 * ts.length + 2) (n + 1) R_parse_exprs_un (unS (n + 1) d ts out) := by
  simp only [unS]
  by_cases hi : isS [45] ts = true
  · rw [if_pos hi]
    simp only [openS, if_pos hi]
    have hlen := len_shift hi
    by_cases h64 : 64 ≤ d
    · rw [if_pos h64]
      obtain ⟨x', g', z', q⟩ := r_open6 hs hw.ne hi h64 out g false
      exact ⟨0, x', g', z', parse_exprs_un_tree _ _ _ _ _ _ _ _ ⟨true, _, r_is1 hs hi, fun _ => ⟨some 6, x', g', z', q, rfl, rfl, rfl, rfl⟩, fun hf => absurd rfl hf⟩⟩
    · rw [if_neg h64]
      have q2 := r_open1 hs hL hi h64 out g false
      have h3 := (ih L hL hT ts.tail (suf_shift hs) (hw.shift hi) out (by omega) (d + 1) (by omega) g).un
      cases hb : unS n (d + 1) ts.tail out with
      | no => rw [hb] at h3; simp only [PR.bind, OkE] at h3 ⊢; omega
      | er e =>
        rw [hb] at h3
        obtain ⟨b, x', g', z', q3⟩ := h3
        exact ⟨0, x', g', z', parse_exprs_un_tree _ _ _ _ _ _ _ _ ⟨true, _, r_is1 hs hi, fun _ => ⟨none, _, _, _, q2, some e, b, x', g', z', q3, rfl, rfl, rfl, rfl⟩, fun hf => absurd rfl hf⟩⟩
      | ok b ts2 out2 =>
        rw [hb] at h3
        obtain ⟨s2, w2, l2, o2, q3⟩ := h3
        simp only [PR.bind]
        refine ⟨s2, w2, by omega, by simp; omega, parse_exprs_un_tree _ _ _ _ _ _ _ _ ⟨true, _, r_is1 hs hi, fun _ => ⟨none, _, _, _, q2, none, b, _, _, _, q3, ⟨by simp only [pe]; omega, by simp only [pe]; omega⟩, _, _, _, _, r_put _ out2 _ g false 9 [] [b] (by simp) (by omega), rfl, rfl, ?_, rfl, rfl⟩, fun hf => absurd rfl hf⟩⟩
        simp only [pe]
        congr 1
        omega
  · rw [if_neg hi]
    have hi0 : isS [45] ts = false := by simpa using hi
    clear hi
    by_cases hi : isS [33] ts = true
    · rw [if_pos hi]
      simp only [openS, if_pos hi]
      have hlen := len_shift hi
      by_cases h64 : 64 ≤ d
      · rw [if_pos h64]
        obtain ⟨x', g', z', q⟩ := r_open6 hs hw.ne hi h64 out g false
        exact ⟨0, x', g', z', parse_exprs_un_tree _ _ _ _ _ _ _ _ ⟨false, _, r_is0 hs hw.ne hi0, fun hf => (by cases hf), fun _ => ⟨true, _, r_is1 hs hi, fun _ => ⟨some 6, x', g', z', q, rfl, rfl, rfl, rfl⟩, fun hf => absurd rfl hf⟩⟩⟩
      · rw [if_neg h64]
        have q2 := r_open1 hs hL hi h64 out g false
        have h3 := (ih L hL hT ts.tail (suf_shift hs) (hw.shift hi) out (by omega) (d + 1) (by omega) g).un
        cases hb : unS n (d + 1) ts.tail out with
        | no => rw [hb] at h3; simp only [PR.bind, OkE] at h3 ⊢; omega
        | er e =>
          rw [hb] at h3
          obtain ⟨b, x', g', z', q3⟩ := h3
          exact ⟨0, x', g', z', parse_exprs_un_tree _ _ _ _ _ _ _ _ ⟨false, _, r_is0 hs hw.ne hi0, fun hf => (by cases hf), fun _ => ⟨true, _, r_is1 hs hi, fun _ => ⟨none, _, _, _, q2, some e, b, x', g', z', q3, rfl, rfl, rfl, rfl⟩, fun hf => absurd rfl hf⟩⟩⟩
        | ok b ts2 out2 =>
          rw [hb] at h3
          obtain ⟨s2, w2, l2, o2, q3⟩ := h3
          simp only [PR.bind]
          refine ⟨s2, w2, by omega, by simp; omega, parse_exprs_un_tree _ _ _ _ _ _ _ _ ⟨false, _, r_is0 hs hw.ne hi0, fun hf => (by cases hf), fun _ => ⟨true, _, r_is1 hs hi, fun _ => ⟨none, _, _, _, q2, none, b, _, _, _, q3, ⟨by simp only [pe]; omega, by simp only [pe]; omega⟩, _, _, _, _, r_put _ out2 _ g false 8 [] [b] (by simp) (by omega), rfl, rfl, ?_, rfl, rfl⟩, fun hf => absurd rfl hf⟩⟩⟩
          simp only [pe]
          congr 1
          omega
    · rw [if_neg hi]
      have h1 := (ih L hL hT ts hs hw out ho d hd g).post
      cases hc : postS n d ts out with
      | no => rw [hc] at h1; simp only [OkE] at h1 ⊢; omega
      | er e =>
        rw [hc] at h1
        obtain ⟨a, x', g', z', q⟩ := h1
        exact ⟨a, x', g', z', parse_exprs_un_tree _ _ _ _ _ _ _ _ ⟨false, _, r_is0 hs hw.ne hi0, fun hf => (by cases hf), fun _ => ⟨false, _, r_is0 hs hw.ne (by simpa using hi), fun hf => (by cases hf), fun _ => ⟨some e, a, x', g', z', q, rfl, rfl, rfl, rfl⟩⟩⟩⟩
      | ok a ts1 out1 =>
        rw [hc] at h1
        obtain ⟨s1, w1, l1, o1, q1⟩ := h1
        exact ⟨s1, w1, l1, o1, parse_exprs_un_tree _ _ _ _ _ _ _ _ ⟨false, _, r_is0 hs hw.ne hi0, fun hf => (by cases hf), fun _ => ⟨false, _, r_is0 hs hw.ne (by simpa using hi), fun hf => (by cases hf), fun _ => ⟨none, a, _, _, _, q1, rfl, rfl, rfl, rfl, rfl⟩⟩⟩⟩
theorem sp_post : OkE L ts out d d g 1 (20 * ts.length + 1) (n + 1) R_parse_exprs_post (postS (n + 1) d ts out) := by
  simp only [postS]
  have h1 := (ih L hL hT ts hs hw out ho d hd g).prim
  cases hc : primS n d ts out with
  | no => rw [hc] at h1; simp only [PR.bind, OkE] at h1 ⊢; omega
  | er e =>
    rw [hc] at h1
    obtain ⟨a, x', g', z', q⟩ := h1
    exact ⟨a, x', g', z', parse_exprs_post_tree _ _ _ _ _ _ _ _ ⟨some e, a, x', g', z', q, rfl, rfl, rfl, rfl⟩⟩
  | ok a ts1 out1 =>
    rw [hc] at h1
    obtain ⟨s1, w1, l1, o1, q1⟩ := h1
    simp only [PR.bind]
    have h2 := (ih L hL hT ts1 s1 w1 out1 (by omega) d hd g).postl a
    cases hl : postL n d a ts1 out1 with
    | no => rw [hl] at h2; simp only [OkE] at h2 ⊢; omega
    | er e =>
      rw [hl] at h2
      obtain ⟨b, x', g', z', q⟩ := h2
      exact ⟨b, x', g', z', parse_exprs_post_tree _ _ _ _ _ _ _ _ ⟨none, a, _, _, _, q1, q⟩⟩
    | ok b ts2 out2 =>
      rw [hl] at h2
      obtain ⟨s2, w2, l2, o2, q2⟩ := h2
      exact ⟨s2, w2, by omega, by omega, parse_exprs_post_tree _ _ _ _ _ _ _ _ ⟨none, a, _, _, _, q1, q2⟩⟩
theorem sp_postl (a : Int) : OkE L ts out d d g 0 (20 * ts.length) (n + 1) (At_parse_exprs_post_1 a) (postL (n + 1) d a ts out) := by
  simp only [postL]
  by_cases hi : isS [91] ts = true
  · rw [if_pos hi]
    simp only [openS, if_pos hi]
    have hlen := len_shift hi
    by_cases h64 : 64 ≤ d
    · rw [if_pos h64]
      obtain ⟨x', g', z', q⟩ := r_open6 hs hw.ne hi h64 out g false
      exact ⟨0, x', g', z', At_parse_exprs_post_1_step _ _ _ _ _ _ _ _ _ ⟨true, _, r_is1 hs hi, fun _ => ⟨some 6, x', g', z', q, rfl, rfl, rfl, rfl⟩, fun hf => absurd rfl hf⟩⟩
    · rw [if_neg h64]
      have q2 := r_open1 hs hL hi h64 out g false
      have h3 := (ih L hL hT ts.tail (suf_shift hs) (hw.shift hi) out (by omega) (d + 1) (by omega) g).expr
      cases hb : exprS n (d + 1) ts.tail out with
      | no => rw [hb] at h3; simp only [PR.bind, OkE] at h3 ⊢; omega
      | er e =>
        rw [hb] at h3
        obtain ⟨b, x', g', z', q3⟩ := h3
        exact ⟨0, x', g', z', At_parse_exprs_post_1_step _ _ _ _ _ _ _ _ _ ⟨true, _, r_is1 hs hi, fun _ => ⟨none, _, _, _, q2, some e, b, x', g', z', q3, rfl, rfl, rfl, rfl⟩, fun hf => absurd rfl hf⟩⟩
      | ok b ts2 out2 =>
        rw [hb] at h3
        obtain ⟨s2, w2, l2, o2, q3⟩ := h3
        simp only [PR.bind, needS]
        by_cases hi2 : isS [93] ts2 = true
        · rw [if_pos hi2]
          have hlen2 := len_shift hi2
          have q4 := r_shut1 s2 hL hi2 (d := d) (by omega) out2 g false
          have h4 := (ih L hL hT ts2.tail (suf_shift s2) (w2.shift hi2) (out2 ++ [nd 7 [] [a, b]]) (by simp; omega) d hd g).postl (out2.length : Nat)
          cases hl : postL n d (out2.length : Nat) ts2.tail (out2 ++ [nd 7 [] [a, b]]) with
          | no => rw [hl] at h4; simp only [OkE] at h4 ⊢; omega
          | er e =>
            rw [hl] at h4
            obtain ⟨c, x', g', z', q⟩ := h4
            exact ⟨c, x', g', z', At_parse_exprs_post_1_step _ _ _ _ _ _ _ _ _ ⟨true, _, r_is1 hs hi, fun _ => ⟨none, _, _, _, q2, none, b, _, _, _, q3, none, _, _, _, q4, _, _, _, _, r_put _ out2 _ g false 7 [] [a, b] (by simp) (by omega), q⟩, fun hf => absurd rfl hf⟩⟩
          | ok c ts3 out3 =>
            rw [hl] at h4
            obtain ⟨s3, w3, l3, o3, q⟩ := h4
            simp only [List.length_append, List.length_cons, List.length_nil] at o3
            exact ⟨s3, w3, by omega, by omega, At_parse_exprs_post_1_step _ _ _ _ _ _ _ _ _ ⟨true, _, r_is1 hs hi, fun _ => ⟨none, _, _, _, q2, none, b, _, _, _, q3, none, _, _, _, q4, _, _, _, _, r_put _ out2 _ g false 7 [] [a, b] (by simp) (by omega), q⟩, fun hf => absurd rfl hf⟩⟩
        · rw [if_neg hi2]
          obtain ⟨x', g', z', q⟩ := r_shut5 s2 w2.ne (by simpa using hi2) (d + 1) out2 g false
          exact ⟨0, x', g', z', At_parse_exprs_post_1_step _ _ _ _ _ _ _ _ _ ⟨true, _, r_is1 hs hi, fun _ => ⟨none, _, _, _, q2, none, b, _, _, _, q3, some 5, x', g', z', q, rfl, rfl, rfl, rfl⟩, fun hf => absurd rfl hf⟩⟩
  · rw [if_neg hi]
    exact ⟨hs, hw, by omega, by omega, At_parse_exprs_post_1_step _ _ _ _ _ _ _ _ _ ⟨false, _, r_is0 hs hw.ne (by simpa using hi), fun hf => (by cases hf), fun _ => ⟨rfl, rfl, rfl, rfl, rfl⟩⟩⟩
theorem sp_many (e : List UInt8) (h65 : d + 1 ≤ 64) : OkE L ts out (d + 1) d g 1 (20 * ts.length + 10) (n + 1) (fun x g z => R_parse_exprs_many x g z e) (manyS (n + 1) (d + 1) e ts out) := by
  simp only [manyS]
  by_cases hi : isS e ts = true
  · rw [if_pos hi]
    have hlen := len_shift hi
    exact ⟨suf_shift hs, hw.shift hi, by omega, by omega, parse_exprs_many_tree _ _ _ _ _ _ _ _ _ ⟨true, _, r_is1 hs hi, fun _ => ⟨none, _, _, _, r_shut1 hs hL hi (d := d) (by omega) out g false, rfl, rfl, rfl, rfl, rfl⟩, fun hf => absurd rfl hf⟩⟩
  · rw [if_neg hi]
    have hi0 : isS e ts = false := by simpa using hi
    · have h1 := (ih L hL hT ts hs hw out ho (d + 1) h65 g).expr
      cases hc : exprS n (d + 1) ts out with
      | no => rw [hc] at h1; simp only [PR.bind, OkE] at h1 ⊢; omega
      | er e' =>
        rw [hc] at h1
        obtain ⟨a, x', g', z', q⟩ := h1
        exact ⟨[], x', g', z', parse_exprs_many_tree _ _ _ _ _ _ _ _ _ ⟨false, _, r_is0 hs hw.ne hi0, fun hf => (by cases hf), fun _ => ⟨some e', a, x', g', z', q, rfl, rfl, rfl, rfl⟩⟩⟩
      | ok a ts1 out1 =>
        rw [hc] at h1
        obtain ⟨s1, w1, l1, o1, q1⟩ := h1
        simp only [PR.bind]
        have h2 := (ih L hL hT ts1 s1 w1 out1 (by omega) d hd g).manyl e [a] (by have := suf_len s1; simp; omega) h65
        cases hl : manyL n (d + 1) e [a] ts1 out1 with
        | no => rw [hl] at h2; simp only [OkE] at h2 ⊢; omega
        | er e' =>
          rw [hl] at h2
          obtain ⟨b, x', g', z', q⟩ := h2
          exact ⟨b, x', g', z', parse_exprs_many_tree _ _ _ _ _ _ _ _ _ ⟨false, _, r_is0 hs hw.ne hi0, fun hf => (by cases hf), fun _ => ⟨none, a, _, _, _, q1, q⟩⟩⟩
        | ok b ts2 out2 =>
          rw [hl] at h2
          obtain ⟨s2, w2, l2, o2, q2⟩ := h2
          exact ⟨s2, w2, by omega, by omega, parse_exprs_many_tree _ _ _ _ _ _ _ _ _ ⟨false, _, r_is0 hs hw.ne hi0, fun hf => (by cases hf), fun _ => ⟨none, a, _, _, _, q1, q2⟩⟩⟩
theorem sp_manyl (e : List UInt8) (l : List Int) (hl : l.length + ts.length ≤ 1000000) (h65 : d + 1 ≤ 64) : OkE L ts out (d + 1) d g 1 (20 * ts.length) (n + 1) (At_parse_exprs_many_1 e l) (manyL (n + 1) (d + 1) e l ts out) := by
  simp only [manyL]
  by_cases hi : isS [44] ts = true
  · rw [if_pos hi]
    have hlen := len_shift hi
    · have h1 := (ih L hL hT ts.tail (suf_shift hs) (hw.shift hi) out (by omega) (d + 1) h65 g).expr
      cases hc : exprS n (d + 1) ts.tail out with
      | no => rw [hc] at h1; simp only [PR.bind, OkE] at h1 ⊢; omega
      | er e' =>
        rw [hc] at h1
        obtain ⟨a, x', g', z', q⟩ := h1
        exact ⟨[], x', g', z', At_parse_exprs_many_1_step _ _ _ _ _ _ _ _ _ _ ⟨true, _, r_may1 hs hL hi, fun _ => ⟨some e', a, x', g', z', q, rfl, rfl, rfl, rfl⟩, fun hf => absurd rfl hf⟩⟩
      | ok a ts1 out1 =>
        rw [hc] at h1
        obtain ⟨s1, w1, l1, o1, q1⟩ := h1
        simp only [PR.bind]
        have h2 := (ih L hL hT ts1 s1 w1 out1 (by omega) d hd g).manyl e (l ++ [a]) (by simp; omega) h65
        have hb : bigRow (l.length + 1) 8 := by simp only [bigRow]; omega
        cases hl2 : manyL n (d + 1) e (l ++ [a]) ts1 out1 with
        | no => rw [hl2] at h2; simp only [OkE] at h2 ⊢; omega
        | er e' =>
          rw [hl2] at h2
          obtain ⟨b, x', g', z', q⟩ := h2
          exact ⟨b, x', g', z', At_parse_exprs_many_1_step _ _ _ _ _ _ _ _ _ _ ⟨true, _, r_may1 hs hL hi, fun _ => ⟨none, a, _, _, _, q1, hb, q⟩, fun hf => absurd rfl hf⟩⟩
        | ok b ts2 out2 =>
          rw [hl2] at h2
          obtain ⟨s2, w2, l2, o2, q2⟩ := h2
          exact ⟨s2, w2, by omega, by omega, At_parse_exprs_many_1_step _ _ _ _ _ _ _ _ _ _ ⟨true, _, r_may1 hs hL hi, fun _ => ⟨none, a, _, _, _, q1, hb, q2⟩, fun hf => absurd rfl hf⟩⟩
  · rw [if_neg hi]
    have hi0 : isS [44] ts = false := by simpa using hi
    simp only [needS]
    by_cases hi2 : isS e ts = true
    · rw [if_pos hi2]
      have hlen := len_shift hi2
      exact ⟨suf_shift hs, hw.shift hi2, by omega, by omega, At_parse_exprs_many_1_step _ _ _ _ _ _ _ _ _ _ ⟨false, _, r_may0 hs hw.ne hi0, fun hf => (by cases hf), fun _ => ⟨none, _, _, _, r_shut1 hs hL hi2 (d := d) (by omega) out g false, rfl, rfl, rfl, rfl, rfl⟩⟩⟩
    · rw [if_neg hi2]
      obtain ⟨x', g', z', q⟩ := r_shut5 hs hw.ne (by simpa using hi2) (d + 1) out g false
      exact ⟨[], x', g', z', At_parse_exprs_many_1_step _ _ _ _ _ _ _ _ _ _ ⟨false, _, r_may0 hs hw.ne hi0, fun hf => (by cases hf), fun _ => ⟨some 5, x', g', z', q, rfl, rfl, rfl, rfl⟩⟩⟩
theorem sp_manyn (e : List UInt8) (h65 : d + 1 ≤ 64) : ∀ b ts2 out2, manyS (n + 1) (d + 1) e ts out = .ok b ts2 out2 → b.length ≤ ts.length := by
  intro b ts2 out2 hb
  simp only [manyS] at hb
  by_cases hi : isS e ts = true
  · rw [if_pos hi] at hb
    cases hb
    simp
  · rw [if_neg hi] at hb
    have h1 := (ih L hL hT ts hs hw out ho (d + 1) h65 0).expr
    cases hc : exprS n (d + 1) ts out with
    | no => rw [hc] at hb; cases hb
    | er e' => rw [hc] at hb; cases hb
    | ok a ts1 out1 =>
      rw [hc] at hb h1
      obtain ⟨s1, w1, l1, o1, _⟩ := h1
      have := (ih L hL hT ts1 s1 w1 out1 (by omega) d hd 0).manyln e [a] h65 b ts2 out2 hb
      simp at this
      omega
theorem sp_manyln (e : List UInt8) (l : List Int) (h65 : d + 1 ≤ 64) : ∀ b ts2 out2, manyL (n + 1) (d + 1) e l ts out = .ok b ts2 out2 → b.length ≤ l.length + ts.length := by
  intro b ts2 out2 hb
  simp only [manyL] at hb
  by_cases hi : isS [44] ts = true
  · rw [if_pos hi] at hb
    have hlen := len_shift hi
    have h1 := (ih L hL hT ts.tail (suf_shift hs) (hw.shift hi) out (by omega) (d + 1) h65 0).expr
    cases hc : exprS n (d + 1) ts.tail out with
    | no => rw [hc] at hb; cases hb
    | er e' => rw [hc] at hb; cases hb
    | ok a ts1 out1 =>
      rw [hc] at hb h1
      obtain ⟨s1, w1, l1, o1, _⟩ := h1
      have := (ih L hL hT ts1 s1 w1 out1 (by omega) d hd 0).manyln e (l ++ [a]) h65 b ts2 out2 hb
      simp at this
      omega
  · rw [if_neg hi] at hb
    simp only [needS] at hb
    split at hb
    · cases hb; omega
    · cases hb
omit hs hw ho in
theorem sp_word {t : Token} {ts : List Token} (hs : (t :: ts) <:+ L) (hw : W (t :: ts)) (ho : out.length + (t :: ts).length ≤ 1000000) (hk : t.Kind = 3) : OkE L (t :: ts) out d d g 1 (20 * (t :: ts).length) (n + 1) R_parse_exprs_word (primS (n + 1) d (t :: ts) out) := by
  have hk0 : t.Kind ≠ 0 := by rw [hk]; decide
  have hs1 := suf_tail hs
  have hw1 := hw.tail hk0
  have q0 := r_name1 hs hL hk
  have hT1 : t.Text.length + 1 ≤ maxInt := by have := hT t (hs.mem (by simp)); simp only [maxInt]; omega
  simp only [List.length_cons] at ho
  simp only [primS, if_pos hk]
  by_cases h1 : t.Text = [116, 114, 117, 101]
  · rw [if_pos h1]
    exact ⟨hs1, hw1, by simp, by simp; omega, parse_exprs_word_tree _ _ _ _ _ _ _ _ ⟨none, _, _, q0, fun _ => ⟨_, _, _, _, r_num _ out _ g 3 1 (by omega), rfl, rfl, rfl, rfl, rfl⟩, fun hf => absurd h1 hf⟩⟩
  rw [if_neg h1]
  by_cases h2 : t.Text = [102, 97, 108, 115, 101]
  · rw [if_pos h2]
    exact ⟨hs1, hw1, by simp, by simp; omega, parse_exprs_word_tree _ _ _ _ _ _ _ _ ⟨none, _, _, q0, fun hf => absurd hf h1, fun _ => ⟨fun _ => ⟨_, _, _, _, r_num _ out _ g 3 0 (by omega), rfl, rfl, rfl, rfl, rfl⟩, fun hf => absurd h2 hf⟩⟩⟩
  rw [if_neg h2]
  by_cases hi : isS [46] ts = true
  · rw [if_pos hi]
    have hlen := len_shift hi
    have hs2 := suf_shift hs1
    have hw2 := hw1.shift hi
    have q1 := r_may1 hs1 hL hi
    cases he : ts.tail with
    | nil => rw [he] at hw2; exact hw2.elim
    | cons u us =>
      rw [he] at hs2 hw2 q1 hlen
      simp only [List.length_cons] at hlen
      have hT2 : t.Text.length + 1 + u.Text.length ≤ maxInt := by have := hT t (hs.mem (by simp)); have := hT u (hs2.mem (by simp)); simp only [maxInt]; omega
      by_cases hu : u.Kind = 3
      · simp only [if_pos hu]
        have hu0 : u.Kind ≠ 0 := by rw [hu]; decide
        exact ⟨suf_tail hs2, hw2.tail hu0, by simp; omega, by simp; omega, parse_exprs_word_tree _ _ _ _ _ _ _ _ ⟨none, _, _, q0, fun hf => absurd hf h1, fun _ => ⟨fun hf => absurd hf h2, fun _ => ⟨true, _, q1, fun _ => ⟨hT1, none, _, _, r_name1 hs2 hL hu, hT2, _, _, _, _, r_put _ out _ g false 4 _ [] (by simp) (by omega), rfl, rfl, rfl, rfl, rfl⟩, fun hf => absurd rfl hf⟩⟩⟩⟩
      · simp only [if_neg hu]
        exact ⟨0, _, _, _, parse_exprs_word_tree _ _ _ _ _ _ _ _ ⟨none, _, _, q0, fun hf => absurd hf h1, fun _ => ⟨fun hf => absurd hf h2, fun _ => ⟨true, _, q1, fun _ => ⟨hT1, some 5, [], _, r_name0 hs2 hu [], rfl, rfl, rfl, rfl⟩, fun hf => absurd rfl hf⟩⟩⟩⟩
  rw [if_neg hi]
  have hi0 : isS [46] ts = false := by simpa using hi
  have q1 := r_may0 hs1 hw1.ne hi0
  simp only [openS]
  by_cases hp : isS [40] ts = true
  · rw [if_pos hp]
    have hlen := len_shift hp
    by_cases h64 : 64 ≤ d
    · rw [if_pos h64]
      obtain ⟨x', g', z', q⟩ := r_open6 hs1 hw1.ne hp h64 out g false
      exact ⟨0, x', g', z', parse_exprs_word_tree _ _ _ _ _ _ _ _ ⟨none, _, _, q0, fun hf => absurd hf h1, fun _ => ⟨fun hf => absurd hf h2, fun _ => ⟨false, _, q1, fun hf => (by cases hf), fun _ => ⟨some 6, x', g', z', q, rfl, rfl, rfl, rfl⟩⟩⟩⟩⟩
    · rw [if_neg h64]
      have q2 := r_open1 hs1 hL hp h64 out g false
      have h3 := (ih L hL hT ts.tail (suf_shift hs1) (hw1.shift hp) out (by omega) d hd g).many [41] (by omega)
      cases hb : manyS n (d + 1) [41] ts.tail out with
      | no => rw [hb] at h3; simp only [PR.bind, OkE, List.length_cons] at h3 ⊢; omega
      | er e =>
        rw [hb] at h3
        obtain ⟨b, x', g', z', q3⟩ := h3
        exact ⟨0, x', g', z', parse_exprs_word_tree _ _ _ _ _ _ _ _ ⟨none, _, _, q0, fun hf => absurd hf h1, fun _ => ⟨fun hf => absurd hf h2, fun _ => ⟨false, _, q1, fun hf => (by cases hf), fun _ => ⟨none, _, _, _, q2, some e, b, x', g', z', q3, rfl, rfl, rfl, rfl⟩⟩⟩⟩⟩
      | ok b ts2 out2 =>
        rw [hb] at h3
        obtain ⟨s2, w2, l2, o2, q3⟩ := h3
        simp only [PR.bind]
        have hbl : b.length ≤ 1000000 := by
          have := (ih L hL hT ts.tail (suf_shift hs1) (hw1.shift hp) out (by omega) d hd g).manyn [41] (by omega) b ts2 out2 hb
          omega
        exact ⟨s2, w2, by simp; omega, by simp; omega, parse_exprs_word_tree _ _ _ _ _ _ _ _ ⟨none, _, _, q0, fun hf => absurd hf h1, fun _ => ⟨fun hf => absurd hf h2, fun _ => ⟨false, _, q1, fun hf => (by cases hf), fun _ => ⟨none, _, _, _, q2, none, b, _, _, _, q3, _, _, _, _, r_put _ out2 _ g false 5 t.Text b hbl (by omega), rfl, rfl, rfl, rfl, rfl⟩⟩⟩⟩⟩
  · rw [if_neg hp]
    obtain ⟨x', g', z', q⟩ := r_open5 hs1 hw1.ne (by simpa using hp) d out g false
    exact ⟨0, x', g', z', parse_exprs_word_tree _ _ _ _ _ _ _ _ ⟨none, _, _, q0, fun hf => absurd hf h1, fun _ => ⟨fun hf => absurd hf h2, fun _ => ⟨false, _, q1, fun hf => (by cases hf), fun _ => ⟨some 5, x', g', z', q, rfl, rfl, rfl, rfl⟩⟩⟩⟩⟩
theorem sp_prim : OkE L ts out d d g 1 (20 * ts.length) (n + 1) R_parse_exprs_prim (primS (n + 1) d ts out) := by
  cases ts with
  | nil => exact hw.elim
  | cons t ts =>
    by_cases hk : t.Kind = 3
    · have h := sp_word ih hL hT hd g hs hw ho hk
      cases hc : primS (n + 1) d (t :: ts) out with
      | no => rw [hc] at h; exact h
      | er e =>
        rw [hc] at h
        obtain ⟨a, x', g', z', q⟩ := h
        exact ⟨a, x', g', z', parse_exprs_prim_tree _ _ _ _ _ _ _ _ ⟨t, _, r_now hs, fun _ => ⟨some e, a, x', g', z', q, rfl, rfl, rfl, rfl⟩, fun hf => absurd hk hf⟩⟩
      | ok a ts1 out1 =>
        rw [hc] at h
        obtain ⟨s1, w1, l1, o1, q⟩ := h
        exact ⟨s1, w1, l1, o1, parse_exprs_prim_tree _ _ _ _ _ _ _ _ ⟨t, _, r_now hs, fun _ => ⟨none, a, _, _, _, q, rfl, rfl, rfl, rfl, rfl⟩, fun hf => absurd hk hf⟩⟩
    · have hI : I64 ((pt L (t :: ts)).pos + 1) := by simp only [pt, I64]; omega
      have ho1 : out.length ≤ 1000000 := by omega
      have hlc : (t :: ts).length = ts.length + 1 := rfl
      simp only [primS, if_neg hk]
      by_cases h1 : t.Kind = 1
      · rw [if_pos h1]
        have hk0 : t.Kind ≠ 0 := by rw [h1]; decide
        refine ⟨suf_tail hs, hw.tail hk0, by simp, by simp; omega, parse_exprs_prim_tree _ _ _ _ _ _ _ _ ⟨t, _, r_now hs, fun hf => absurd hf hk, fun _ => ⟨fun _ => ⟨hI, _, _, _, _, r_num _ out _ g 1 t.Num ho1, rfl, rfl, ?_, rfl, rfl⟩, fun hf => absurd h1 hf⟩⟩⟩
        rw [pt_next hs]
        rfl
      rw [if_neg h1]
      by_cases h2 : t.Kind = 2
      · rw [if_pos h2]
        have hk0 : t.Kind ≠ 0 := by rw [h2]; decide
        refine ⟨suf_tail hs, hw.tail hk0, by simp, by simp; omega, parse_exprs_prim_tree _ _ _ _ _ _ _ _ ⟨t, _, r_now hs, fun hf => absurd hf hk, fun _ => ⟨fun hf => absurd hf h1, fun _ => ⟨fun _ => ⟨hI, _, _, _, _, r_put _ out _ g false 2 [] [] (by simp) ho1, by omega, by simp, rfl, nd 2 [] [], by simp, rfl, rfl, ?_, rfl, rfl⟩, fun hf => absurd h2 hf⟩⟩⟩⟩
        rw [pt_next hs]
        simp [pe, nd]
      rw [if_neg h2]
      by_cases hi : isS [91] (t :: ts) = true
      · rw [if_pos hi]
        simp only [openS, if_pos hi]
        have hlen := len_shift hi
        by_cases h64 : 64 ≤ d
        · rw [if_pos h64]
          obtain ⟨x', g', z', q⟩ := r_open6 hs hw.ne hi h64 out g false
          exact ⟨0, x', g', z', parse_exprs_prim_tree _ _ _ _ _ _ _ _ ⟨t, _, r_now hs, fun hf => absurd hf hk, fun _ => ⟨fun hf => absurd hf h1, fun _ => ⟨fun hf => absurd hf h2, fun _ => ⟨true, _, r_is1 hs hi, fun _ => ⟨some 6, x', g', z', q, rfl, rfl, rfl, rfl⟩, fun hf => absurd rfl hf⟩⟩⟩⟩⟩
        · rw [if_neg h64]
          have q2 := r_open1 hs hL hi h64 out g false
          have h3 := (ih L hL hT (t :: ts).tail (suf_shift hs) (hw.shift hi) out (by omega) d hd g).many [93] (by omega)
          cases hb : manyS n (d + 1) [93] (t :: ts).tail out with
          | no => rw [hb] at h3; simp only [PR.bind, OkE] at h3 ⊢; omega
          | er e =>
            rw [hb] at h3
            obtain ⟨b, x', g', z', q3⟩ := h3
            exact ⟨0, x', g', z', parse_exprs_prim_tree _ _ _ _ _ _ _ _ ⟨t, _, r_now hs, fun hf => absurd hf hk, fun _ => ⟨fun hf => absurd hf h1, fun _ => ⟨fun hf => absurd hf h2, fun _ => ⟨true, _, r_is1 hs hi, fun _ => ⟨none, _, _, _, q2, some e, b, x', g', z', q3, rfl, rfl, rfl, rfl⟩, fun hf => absurd rfl hf⟩⟩⟩⟩⟩
          | ok b ts2 out2 =>
            have hbl : b.length ≤ 1000000 := by
              have := (ih L hL hT (t :: ts).tail (suf_shift hs) (hw.shift hi) out (by omega) d hd 0).manyn [93] (by omega) b ts2 out2 hb
              omega
            rw [hb] at h3
            obtain ⟨s2, w2, l2, o2, q3⟩ := h3
            simp only [PR.bind]
            exact ⟨s2, w2, by omega, by simp only [List.length_append, List.length_cons, List.length_nil] at *; omega, parse_exprs_prim_tree _ _ _ _ _ _ _ _ ⟨t, _, r_now hs, fun hf => absurd hf hk, fun _ => ⟨fun hf => absurd hf h1, fun _ => ⟨fun hf => absurd hf h2, fun _ => ⟨true, _, r_is1 hs hi, fun _ => ⟨none, _, _, _, q2, none, b, _, _, _, q3, _, _, _, _, r_put _ out2 _ g false 6 [] b hbl (by omega), rfl, rfl, rfl, rfl, rfl⟩, fun hf => absurd rfl hf⟩⟩⟩⟩⟩
      · rw [if_neg hi]
        have hi0 : isS [91] (t :: ts) = false := by simpa using hi
        simp only [openS]
        by_cases hp : isS [40] (t :: ts) = true
        · rw [if_pos hp]
          have hlen := len_shift hp
          by_cases h64 : 64 ≤ d
          · rw [if_pos h64]
            obtain ⟨x', g', z', q⟩ := r_open6 hs hw.ne hp h64 out g false
            exact ⟨0, x', g', z', parse_exprs_prim_tree _ _ _ _ _ _ _ _ ⟨t, _, r_now hs, fun hf => absurd hf hk, fun _ => ⟨fun hf => absurd hf h1, fun _ => ⟨fun hf => absurd hf h2, fun _ => ⟨false, _, r_is0 hs hw.ne hi0, fun hf => (by cases hf), fun _ => ⟨some 6, x', g', z', q, rfl, rfl, rfl, rfl⟩⟩⟩⟩⟩⟩
          · rw [if_neg h64]
            have q2 := r_open1 hs hL hp h64 out g false
            have h3 := (ih L hL hT (t :: ts).tail (suf_shift hs) (hw.shift hp) out (by omega) (d + 1) (by omega) g).expr
            cases hb : exprS n (d + 1) (t :: ts).tail out with
            | no => rw [hb] at h3; simp only [PR.bind, OkE] at h3 ⊢; omega
            | er e =>
              rw [hb] at h3
              obtain ⟨b, x', g', z', q3⟩ := h3
              exact ⟨0, x', g', z', parse_exprs_prim_tree _ _ _ _ _ _ _ _ ⟨t, _, r_now hs, fun hf => absurd hf hk, fun _ => ⟨fun hf => absurd hf h1, fun _ => ⟨fun hf => absurd hf h2, fun _ => ⟨false, _, r_is0 hs hw.ne hi0, fun hf => (by cases hf), fun _ => ⟨none, _, _, _, q2, some e, b, x', g', z', q3, rfl, rfl, rfl, rfl⟩⟩⟩⟩⟩⟩
            | ok b ts2 out2 =>
              rw [hb] at h3
              obtain ⟨s2, w2, l2, o2, q3⟩ := h3
              simp only [PR.bind, needS]
              by_cases hi2 : isS [41] ts2 = true
              · rw [if_pos hi2]
                have hlen2 := len_shift hi2
                exact ⟨suf_shift s2, w2.shift hi2, by omega, by omega, parse_exprs_prim_tree _ _ _ _ _ _ _ _ ⟨t, _, r_now hs, fun hf => absurd hf hk, fun _ => ⟨fun hf => absurd hf h1, fun _ => ⟨fun hf => absurd hf h2, fun _ => ⟨false, _, r_is0 hs hw.ne hi0, fun hf => (by cases hf), fun _ => ⟨none, _, _, _, q2, none, b, _, _, _, q3, none, _, _, _, r_shut1 s2 hL hi2 (d := d) (by omega) out2 g false, rfl, rfl, rfl, rfl, rfl⟩⟩⟩⟩⟩⟩
              · rw [if_neg hi2]
                obtain ⟨x', g', z', q⟩ := r_shut5 s2 w2.ne (by simpa using hi2) (d + 1) out2 g false
                exact ⟨0, x', g', z', parse_exprs_prim_tree _ _ _ _ _ _ _ _ ⟨t, _, r_now hs, fun hf => absurd hf hk, fun _ => ⟨fun hf => absurd hf h1, fun _ => ⟨fun hf => absurd hf h2, fun _ => ⟨false, _, r_is0 hs hw.ne hi0, fun hf => (by cases hf), fun _ => ⟨none, _, _, _, q2, none, b, _, _, _, q3, some 5, x', g', z', q, rfl, rfl, rfl, rfl⟩⟩⟩⟩⟩⟩
        · rw [if_neg hp]
          obtain ⟨x', g', z', q⟩ := r_open5 hs hw.ne (by simpa using hp) d out g false
          exact ⟨0, x', g', z', parse_exprs_prim_tree _ _ _ _ _ _ _ _ ⟨t, _, r_now hs, fun hf => absurd hf hk, fun _ => ⟨fun hf => absurd hf h1, fun _ => ⟨fun hf => absurd hf h2, fun _ => ⟨false, _, r_is0 hs hw.ne hi0, fun hf => (by cases hf), fun _ => ⟨some 5, x', g', z', q, rfl, rfl, rfl, rfl⟩⟩⟩⟩⟩⟩
end
/-- The parser's expressions are what the functions say. -/
theorem sp_all : ∀ n, SpA n
  | 0 => sp_zero
  | n + 1 => fun L hL hT ts hs hw out ho d hd g =>
    have ih := sp_all n
    ⟨sp_expr ih hL hT hs hw ho hd g, sp_chain ih hL hT hs hw ho hd g, sp_loop ih hL hT hs hw ho hd g, sp_un ih hL hT hs hw ho hd g, sp_post ih hL hT hs hw ho hd g, sp_postl ih hL hT hs hw ho hd g, sp_many ih hL hT hs hw ho hd g, sp_manyl ih hL hT hs hw ho hd g, sp_prim ih hL hT hs hw ho hd g, sp_manyn ih hL hT hs hw ho hd, sp_manyln ih hL hT hs hw ho hd⟩
end Go.Proofs.YtfbcnpbhhooapaaGreatDoor.M

/- Trees of functions, printed by a program of this session (lift.py): what a run asks, over plain data. Lean proves each. -/
namespace Go.Proofs.YtfbcnpbhhooapaaGreatDoor.M
set_option linter.unusedSimpArgs false
set_option linter.unusedVariables false
open Go Classical
theorem sp_parse_Parse_1 : SP 37 = some (.code sc_parse_Parse_1) := SPof_code rfl Tryz.func37 comp_parse_Parse_1
/-! doorkeeper/parse.Parse$1 -/
def At_parse_Parse_1_1 (b1 : PBlocks) (g2 : Nat) (z3 : Bool) (c0_4 : List Block) (g5 : Nat) (z6 : Bool) (o : Option Int) (b' : PBlocks) (b'_g2 : Nat) (b'_z2 : Bool) (c0_' : List Block) (c0_'_g0 : Nat) (c0_'_z0 : Bool) : Prop := ∀ (S : Sto) (e : Nat → PV) (f : Fr) (n0 t0 : Nat) (n1 t1 : Nat), ((getBox S n0 t0).map (List.take 4) = some [.list 5 (b1.exprs.tokens.l.map eToken) false, .int .i64 b1.exprs.tokens.pos, .sl 0 (.cell t0 2) 0 b1.exprs.out.length b1.exprs.out.length g2 false, .int .i64 b1.exprs.deep] ∧ getArr S n0 (.cell t0 2) = some ⟨5, b1.exprs.out.map eNode, z3, g2⟩) → ((getBox S n1 t1).map (List.take 1) = some [.sl 0 (.cell t1 0) 0 c0_4.length c0_4.length g5 false] ∧ getArr S n1 (.cell t1 0) = some ⟨4, c0_4.map eBlock, z6, g5⟩) → (n0 ≠ n1) → e 0 = .ptr (n0 + 1) t0 0 ∧ e 1 = .ptr (n1 + 1) t1 0 → k_parse_Parse_1_1 SP (E SP (.loop b_parse_Parse_1_1) ⟨e, f :: S⟩) = po 116 o (.v (.tup [])) (setArr (setBox (setArr (setBox S n0 t0 ([.list 5 (b'.exprs.tokens.l.map eToken) false, .int .i64 b'.exprs.tokens.pos, .sl 0 (.cell t0 2) 0 b'.exprs.out.length b'.exprs.out.length b'_g2 false, .int .i64 b'.exprs.deep] ++ ((getBox S n0 t0).getD []).drop 4)) n0 (.cell t0 2) ⟨5, b'.exprs.out.map eNode, b'_z2, b'_g2⟩) n1 t1 ([.sl 0 (.cell t1 0) 0 c0_'.length c0_'.length c0_'_g0 false] ++ ((getBox (setArr (setBox S n0 t0 ([.list 5 (b'.exprs.tokens.l.map eToken) false, .int .i64 b'.exprs.tokens.pos, .sl 0 (.cell t0 2) 0 b'.exprs.out.length b'.exprs.out.length b'_g2 false, .int .i64 b'.exprs.deep] ++ ((getBox S n0 t0).getD []).drop 4)) n0 (.cell t0 2) ⟨5, b'.exprs.out.map eNode, b'_z2, b'_g2⟩) n1 t1).getD []).drop 1)) n1 (.cell t1 0) ⟨4, c0_'.map eBlock, c0_'_z0, c0_'_g0⟩)
set_option maxHeartbeats 4000000 in
theorem At_parse_Parse_1_1_step (b1 : PBlocks) (g2 : Nat) (z3 : Bool) (c0_4 : List Block) (g5 : Nat) (z6 : Bool) (o : Option Int) (b' : PBlocks) (b'_g2 : Nat) (b'_z2 : Bool) (c0_' : List Block) (c0_'_g0 : Nat) (c0_'_z0 : Bool) (T :
  ∃ (r7 : Token) (y8 : PTokens), (R_parse_tokens_now b1.exprs.tokens r7 y8) ∧
 ((r7.Kind = 0) →
  none = o ∧ (PBlocks.mk (PExprs.mk y8 b1.exprs.out b1.exprs.deep)) = b' ∧ g2 = b'_g2 ∧ z3 = b'_z2 ∧ c0_4 = c0_' ∧ g5 = c0_'_g0 ∧ z6 = c0_'_z0) ∧
 (¬ (r7.Kind = 0) →
  ∃ (o10 : Option Int) (r9 : Block) (y11 : PBlocks) (g12 : Nat) (z13 : Bool), (R_parse_blocks_block (PBlocks.mk (PExprs.mk y8 b1.exprs.out b1.exprs.deep)) g2 z3 false o10 r9 y11 g12 z13) ∧
  (match o10 with
  | none => ((bigRow (c0_4.length + 1) 72) ∧
   (c0_4.length < c0_4.length + 1) ∧
   (z6 = false) ∧
   ∃ (v15 : Block), ((c0_4 ++ [(Block.mk 0 [] [] [])])[c0_4.length]? = some v15) ∧
   At_parse_Parse_1_1 y11 g12 z13 ((c0_4 ++ [(Block.mk 0 [] [] [])]).set c0_4.length r9) g5 z6 o b' b'_g2 b'_z2 c0_' c0_'_g0 c0_'_z0)
  | some e14 => (some e14 = o ∧ y11 = b' ∧ g12 = b'_g2 ∧ z13 = b'_z2 ∧ c0_4 = c0_' ∧ g5 = c0_'_g0 ∧ z6 = c0_'_z0)))) : At_parse_Parse_1_1 b1 g2 z3 c0_4 g5 z6 o b' b'_g2 b'_z2 c0_' c0_'_g0 c0_'_z0 := by
 intro S e f n0 t0 n1 t1 H0 H1 Hn h
 obtain ⟨hb0, ha0⟩ := H0
 have hne := two_ne Hn
 obtain ⟨w0, hB0⟩ := take_some hb0
 have hn0 := o_getBox_lt hB0
 obtain ⟨hb1, ha1⟩ := H1
 obtain ⟨w1, hB1⟩ := take_some hb1
 have hn1 := o_getBox_lt hB1
 unfold k_parse_Parse_1_1
 rw [E_loop]
 have F := U_parse_Parse_1
 obtain ⟨r7, y8, q1, T⟩ := T
 simp only [R_parse_tokens_now, le, List.cons_append, List.nil_append] at q1
 replace F := aa ha0 <| aa hne <| aa hB0 <| aa hn0 <| aa ha1 <| aa hB1 <| aa hn1 <| aa h <| aa q1 <| F
 by_cases c2 : r7.Kind = 0
 · replace T := T.1 c2
   obtain ⟨rfl, rfl, rfl, rfl, rfl, rfl, rfl⟩ := T
   exact fi (aa (eq_true c2) <| F)
 · replace T := T.2 c2
   obtain ⟨o10, r9, y11, g12, z13, q3, T⟩ := T
   simp only [R_parse_blocks_block, le, List.cons_append, List.nil_append] at q3
   replace F := aa (eq_false c2) <| aa q3 <| F
   cases o10 with
   | none =>
     dsimp only at T
     obtain ⟨p4, p5, p6, v15, q7, T⟩ := T
     simp only [bigRow] at p4
     replace q7 := congrArg (Option.map eBlock) q7
     rw [← List.getElem?_map] at q7
     simp only [le, List.map_append, Option.map_some] at q7
     replace F := aa p4 <| aa p5 <| aa p6 <| aa q7 <| F
     try simp only [F, lw, lx, le, Nat.reduceMul, UInt8.reduceToNat, reduceIte, reduceCtorEq, Nat.reduceEqDiff, Nat.reduceAdd, Nat.reduceLeDiff, Nat.reduceSub, Nat.reduceLT, Int.reduceEq, Int.reduceLT, Int.reduceLE, Int.reduceToNat, Int.reduceAdd, Int.reduceSub, Int.reduceMul, Int.reduceNeg]
     refine (T _ _ _ n0 t0 n1 t1 ?_ ?_ Hn ?_).trans ?_
     all_goals exact fi F
   | some e14 =>
     dsimp only at T
     obtain ⟨rfl, rfl, rfl, rfl, rfl, rfl, rfl⟩ := T
     exact fi F
set_option maxHeartbeats 4000000 in
theorem parse_Parse_1_tree (b : PBlocks) (b_g2 : Nat) (b_z2 : Bool) (c0_ : List Block) (c0__g0 : Nat) (c0__z0 : Bool) (o : Option Int) (b' : PBlocks) (b'_g2 : Nat) (b'_z2 : Bool) (c0_' : List Block) (c0_'_g0 : Nat) (c0_'_z0 : Bool) (T :
  At_parse_Parse_1_1 b b_g2 b_z2 c0_ c0__g0 c0__z0 o b' b'_g2 b'_z2 c0_' c0_'_g0 c0_'_z0) : R_parse_Parse_1 b b_g2 b_z2 c0_ c0__g0 c0__z0 o b' b'_g2 b'_z2 c0_' c0_'_g0 c0_'_z0 := by
 intro S n0 t0 n1 t1 H0 H1 Hn
 obtain ⟨hb0, ha0⟩ := H0
 have hne := two_ne Hn
 obtain ⟨w0, hB0⟩ := take_some hb0
 have hn0 := o_getBox_lt hB0
 obtain ⟨hb1, ha1⟩ := H1
 obtain ⟨w1, hB1⟩ := take_some hb1
 have hn1 := o_getBox_lt hB1
 rw [call_code sp_parse_Parse_1 _ _ rfl]
 have F := U_parse_Parse_1
 replace F := aa ha0 <| aa hne <| aa hB0 <| aa hn0 <| aa ha1 <| aa hB1 <| aa hn1 <| F
 try simp only [F, lw, lx, le, Nat.reduceMul, UInt8.reduceToNat, reduceIte, reduceCtorEq, Nat.reduceEqDiff, Nat.reduceAdd, Nat.reduceLeDiff, Nat.reduceSub, Nat.reduceLT, Int.reduceEq, Int.reduceLT, Int.reduceLE, Int.reduceToNat, Int.reduceAdd, Int.reduceSub, Int.reduceMul, Int.reduceNeg]
 refine (T _ _ _ n0 t0 n1 t1 ?_ ?_ Hn ?_).trans ?_
 all_goals exact fi F
theorem sp_parse_Expr_1 : SP 40 = some (.code sc_parse_Expr_1) := SPof_code rfl Tryz.func40 comp_parse_Expr_1
/-! doorkeeper/parse.Expr$1 -/
set_option maxHeartbeats 4000000 in
theorem parse_Expr_1_tree (b : PBlocks) (b_g2 : Nat) (b_z2 : Bool) (c0_ : PV) (o : Option Int) (b' : PBlocks) (b'_g2 : Nat) (b'_z2 : Bool) (c0_' : PV) (T :
  ∃ (o2 : Option Int) (r1 : List Node) (y3 : PExprs) (g4 : Nat) (z5 : Bool), (R_parse_exprs_whole b.exprs b_g2 b_z2 o2 r1 y3 g4 z5) ∧
 (match o2 with
 | none => (∃ (r7 : Token) (y8 : PTokens), (R_parse_tokens_now y3.tokens r7 y8) ∧
  ((r7.Kind = 0) →
   none = o ∧ (PBlocks.mk (PExprs.mk y8 y3.out y3.deep)) = b' ∧ g4 = b'_g2 ∧ z5 = b'_z2 ∧ (.list 5 (r1.map eNode) false) = c0_') ∧
  (¬ (r7.Kind = 0) →
   ∃ (o9 : Option Int) (y10 : PTokens), (R_parse_tokens_fail y8 5 o9 y10) ∧
   (match o9 with
   | none => (False /- no return -/)
   | some e11 => (some e11 = o ∧ (PBlocks.mk (PExprs.mk y10 y3.out y3.deep)) = b' ∧ g4 = b'_g2 ∧ z5 = b'_z2 ∧ (.list 5 (r1.map eNode) false) = c0_'))))
 | some e6 => (some e6 = o ∧ (PBlocks.mk y3) = b' ∧ g4 = b'_g2 ∧ z5 = b'_z2 ∧ c0_ = c0_'))) : R_parse_Expr_1 b b_g2 b_z2 c0_ o b' b'_g2 b'_z2 c0_' := by
 intro S n0 t0 n1 t1 H0 H1 Hn
 obtain ⟨hb0, ha0⟩ := H0
 have hne := two_ne Hn
 obtain ⟨w0, hB0⟩ := take_some hb0
 have hn0 := o_getBox_lt hB0
 have hb1 := H1
 obtain ⟨w1, hB1⟩ := take_some hb1
 have hn1 := o_getBox_lt hB1
 rw [call_code sp_parse_Expr_1 _ _ rfl]
 have F := U_parse_Expr_1
 obtain ⟨o2, r1, y3, g4, z5, q1, T⟩ := T
 simp only [R_parse_exprs_whole, le, List.cons_append, List.nil_append] at q1
 replace F := aa ha0 <| aa hne <| aa hB0 <| aa hn0 <| aa hB1 <| aa hn1 <| aa q1 <| F
 cases o2 with
 | none =>
   dsimp only at T
   obtain ⟨r7, y8, q2, T⟩ := T
   simp only [R_parse_tokens_now, le, List.cons_append, List.nil_append] at q2
   replace F := aa q2 <| F
   by_cases c3 : r7.Kind = 0
   · replace T := T.1 c3
     obtain ⟨rfl, rfl, rfl, rfl, rfl⟩ := T
     exact fi (aa (eq_true c3) <| F)
   · replace T := T.2 c3
     obtain ⟨o9, y10, q4, T⟩ := T
     simp only [R_parse_tokens_fail, le, List.cons_append, List.nil_append] at q4
     replace F := aa (eq_false c3) <| aa q4 <| F
     cases o9 with
     | none => exact False.elim T
     | some e11 =>
       dsimp only at T
       obtain ⟨rfl, rfl, rfl, rfl, rfl⟩ := T
       exact fi F
 | some e6 =>
   dsimp only at T
   obtain ⟨rfl, rfl, rfl, rfl, rfl⟩ := T
   exact fi F
end Go.Proofs.YtfbcnpbhhooapaaGreatDoor.M

/- Parse: what parse.reading does with a closure: a panic that is recovered is its result; parse.Parse, parse.Expr. -/
namespace Go.Proofs.YtfbcnpbhhooapaaGreatDoor.M
set_option linter.unusedSimpArgs false
set_option linter.unusedVariables false
open Go Classical
theorem recB_nor {r : RecF} {ops post : Ac → EO} {ac : Ac} : recB r ops post (.nor ac) = recA r (ac.e r.t0 = .ptr 0 r.t0 0) post (ops (ac.put (some r.d) .junk)) := rfl
theorem recB_ret {r : RecF} {ops post : Ac → EO} {ac : Ac} : recB r ops post (.ret ac) = retOf r.res ac := rfl
theorem recA_nor {r : RecF} {b : Prop} {post : Ac → EO} {ac : Ac} : recA r b post (.nor ac) = recC r.res (post ac) := rfl
theorem recA_pan {r : RecF} {b : Prop} {post : Ac → EO} {v : PV} {S : Sto} : recA r b post (.pan v S) = recV r b v S := rfl
theorem recC_nor {res : List RX} {ac : Ac} : recC res (.nor ac) = retOf res ac := rfl
theorem recC_ret {res : List RX} {ac : Ac} : recC res (.ret ac) = retOf res ac := rfl
theorem recV_eq {r : RecF} {b : Prop} {t : Nat} {k : IntKind} {n : Int} {S : Sto} : recV r b (.iface t (.int k n)) S = if b ∧ t = r.T then (match storeP S 1 (.ptr 0 r.t0 0) (.int k n) with | some S => retOf r.res ⟨upd (fun _ => .junk) r.t0 (.ptr 0 r.t0 0), S⟩ | none => .bad) else .bad := rfl
/-- What the parser has at its start. -/
def pb0 (L : List Token) : PBlocks := .mk (.mk (.mk L 0) [] 0)
theorem rd_no {s : List UInt8} {L : List Token} {e : Int} (hl : R_lex_Lex s L e) (he : ¬ e = 0) (c : PV) (hc : PV.dn c.up = some c) (g : Nat) (S : Sto) : call SP 36 [.str s, .func g [c]] S = .ok (.v (.int .i64 e)) S := by
  rw [call_rec sp_parse_reading _ _ rfl]
  simp only [R_lex_Lex] at hl
  have F := aa hl <| aa (eq_false he) <| aa @recB_nor <| aa @recB_ret <| aa @recA_nor <| aa @recA_pan <| aa @recC_nor <| aa @recC_ret <| aa @recV_eq <| rcv_parse_reading.eq_1
  exact fi F
theorem rd_Parse {s : List UInt8} {L : List Token} (hl : R_lex_Lex s L 0) {t g : Nat} {f : Fr} {S : Sto} (hb : f.box t = some [.sl 0 (.cell t 0) 0 0 0 g false]) (ha : f.arr (.cell t 0) = some ⟨4, [], false, g⟩) {o : Option Int} {b' : PBlocks} {bg : Nat} {bz : Bool} {l : List Block} {lg : Nat} {lz : Bool}
    (hc : R_parse_Parse_1 (pb0 L) 0 false [] g false o b' bg bz l lg lz) :
    call SP 36 [.str s, .func 37 [.ptr 0 t 0]] (f :: S) = .ok (.v (.int .i64 (o.getD 0))) (setArr (setBox (f :: S) 0 t [.sl 0 (.cell t 0) 0 l.length l.length lg false]) 0 (.cell t 0) ⟨4, l.map eBlock, lz, lg⟩) := by
  rw [call_rec sp_parse_reading _ _ rfl]
  simp only [R_lex_Lex] at hl
  simp only [R_parse_Parse_1, pb0, le, List.cons_append, List.nil_append] at hc
  have F := aa hl <| aa hb <| aa ha <| aa hc <| aa @recB_nor <| aa @recB_ret <| aa @recA_nor <| aa @recA_pan <| aa @recC_nor <| aa @recC_ret <| aa @recV_eq <| rcv_parse_reading.eq_1
  cases o with
  | none => exact fi F
  | some e => exact fi F
theorem sp_parse_Parse : SP 17 = some (.code sc_parse_Parse) := SPof_code rfl Tryz.func17 comp_parse_Parse
theorem sp_parse_Expr : SP 20 = some (.code sc_parse_Expr) := SPof_code rfl Tryz.func20 comp_parse_Expr
theorem r_Parse_no {s : List UInt8} {L : List Token} {e : Int} (hl : R_lex_Lex s L e) (he : ¬ e = 0) : R_parse_Parse s [] e := by
  intro S
  have h := fun S => rd_no hl he (.ptr 0 4 0) rfl 37 S
  rw [call_code sp_parse_Parse _ _ rfl]
  exact fi (aa h <| aa (eq_false he) <| U_parse_Parse)
theorem r_Expr_no {s : List UInt8} {L : List Token} {e : Int} (hl : R_lex_Lex s L e) (he : ¬ e = 0) : R_parse_Expr s [] e := by
  intro S
  have h := fun S => rd_no hl he (.ptr 0 4 0) rfl 40 S
  rw [call_code sp_parse_Expr _ _ rfl]
  exact fi (aa h <| aa (eq_false he) <| U_parse_Expr)
theorem r_Parse_of {s : List UInt8} {L : List Token} (hl : R_lex_Lex s L 0) {o : Option Int} {b' : PBlocks} {bg : Nat} {bz : Bool} {l : List Block} {lg : Nat} {lz : Bool}
    (hc : R_parse_Parse_1 (pb0 L) 0 false [] 0 false o b' bg bz l lg lz) : R_parse_Parse s (if o.getD 0 = 0 then l else []) (o.getD 0) := by
  intro S
  have h := fun (f : Fr) (h1 : f.box 4 = some [.sl 0 (.cell 4 0) 0 0 0 0 false]) (h2 : f.arr (.cell 4 0) = some ⟨4, [], false, 0⟩) => rd_Parse (S := S) hl h1 h2 hc
  rw [call_code sp_parse_Parse _ _ rfl]
  by_cases he : o.getD 0 = 0
  · exact fi (aa h <| aa he <| U_parse_Parse)
  · exact fi (aa h <| aa (eq_false he) <| U_parse_Parse)
theorem rd_Expr {s : List UInt8} {L : List Token} (hl : R_lex_Lex s L 0) {t : Nat} {c c' : PV} {f : Fr} {S : Sto} (hb : f.box t = some [c]) {o : Option Int} {b' : PBlocks} {bg : Nat} {bz : Bool}
    (hc : R_parse_Expr_1 (pb0 L) 0 false c o b' bg bz c') :
    call SP 36 [.str s, .func 40 [.ptr 0 t 0]] (f :: S) = .ok (.v (.int .i64 (o.getD 0))) (setBox (f :: S) 0 t [c']) := by
  rw [call_rec sp_parse_reading _ _ rfl]
  simp only [R_lex_Lex] at hl
  simp only [R_parse_Expr_1, pb0, le, List.cons_append, List.nil_append] at hc
  have F := aa hl <| aa hb <| aa hc <| aa @recB_nor <| aa @recB_ret <| aa @recA_nor <| aa @recA_pan <| aa @recC_nor <| aa @recC_ret <| aa @recV_eq <| rcv_parse_reading.eq_1
  cases o with
  | none => exact fi F
  | some e => exact fi F
theorem r_Expr_ok {s : List UInt8} {L : List Token} (hl : R_lex_Lex s L 0) {b' : PBlocks} {bg : Nat} {bz : Bool} {l : List Node}
    (hc : R_parse_Expr_1 (pb0 L) 0 false (.sl 0 (.cell 4 0) 0 0 0 0 false) none b' bg bz (.list 5 (l.map eNode) false)) : R_parse_Expr s l 0 := by
  intro S
  have h := fun (f : Fr) (h1 : f.box 4 = some [.sl 0 (.cell 4 0) 0 0 0 0 false]) => rd_Expr (S := S) hl h1 hc
  rw [call_code sp_parse_Expr _ _ rfl]
  exact fi (aa h <| aa (Option.getD_none (a := (0 : Int))) <| U_parse_Expr)
theorem r_Expr_err {s : List UInt8} {L : List Token} (hl : R_lex_Lex s L 0) {b' : PBlocks} {bg : Nat} {bz : Bool} {e : Int} (he : ¬ e = 0) {c' : PV}
    (hc : R_parse_Expr_1 (pb0 L) 0 false (.sl 0 (.cell 4 0) 0 0 0 0 false) (some e) b' bg bz c') : R_parse_Expr s [] e := by
  intro S
  have h := fun (f : Fr) (h1 : f.box 4 = some [.sl 0 (.cell 4 0) 0 0 0 0 false]) => rd_Expr (S := S) hl h1 hc
  rw [call_code sp_parse_Expr _ _ rfl]
  exact fi (aa h <| aa (Option.getD_some (a := e) (b := (0 : Int))) <| aa (eq_false he) <| U_parse_Expr)
end Go.Proofs.YtfbcnpbhhooapaaGreatDoor.M

/- Parse: attributes, blocks, configurations: as functions; the parser follows them. -/
namespace Go.Proofs.YtfbcnpbhhooapaaGreatDoor.M
set_option linter.unusedSimpArgs false
set_option linter.unusedVariables false
open Go Classical
/-- A whole expression: its nodes. -/
def wholeS (N : Nat) (ts : List Token) : PR (List Node) :=
  match exprS N 0 ts [] with
  | .ok _ ts out => .ok out ts []
  | .er e => .er e
  | .no => .no
def labS (lab : List UInt8 → Bool) : List Token → PR (List UInt8)
  | [] => .no
  | t :: ts => if t.Kind = 2 then (match t.Parts with | [p] => if p.Ref = true then .er 5 else if lab p.Text = true then .ok p.Text ts [] else .er 5 | _ => .er 5) else .er 5
def attrsS (N : Nat) : Nat → List Attr → List Token → PR (List Attr)
  | 0, _, _ => .no
  | _ + 1, _, [] => .no
  | n + 1, acc, t :: ts =>
    if isS [125] (t :: ts) = true then .ok acc ts []
    else if t.Kind = 3 then
      if acc.any (fun a => decide (a.Name = t.Text)) = true then .er 3
      else needS [61] ts fun ts => (wholeS N ts).bind fun nodes ts _ => attrsS N n (acc ++ [⟨t.Text, nodes⟩]) ts
    else .er 5
def bodyS (N : Nat) (ts : List Token) : PR (List Attr) := needS [123] ts fun ts => attrsS N N [] ts
def wordsS : List (List UInt8) := [[118, 97, 114, 105, 97, 98, 108, 101], [108, 111, 99, 97, 108, 115], [110, 111, 100, 101], [109, 111, 100, 117, 108, 101], [100, 101, 102, 105, 110, 101]]
/-- A block that holds attributes; i: which of the words it begins with. -/
def plainS (lab : List UInt8 → Bool) (N i : Nat) (ts : List Token) : PR Block :=
  if i = 1 then (bodyS N ts).bind fun as_ ts _ => .ok ⟨2, [], as_, []⟩ ts []
  else (labS lab ts).bind fun l ts _ => (bodyS N ts).bind fun as_ ts _ => .ok ⟨1 + (i : Int), l, as_, []⟩ ts []
def blkIn (lab : List UInt8 → Bool) (N : Nat) : List Token → PR Block
  | [] => .no
  | t :: ts => if t.Kind = 3 then (match idxS t.Text wordsS 0 with | none => .er 5 | some i => if i = 4 then .er 5 else plainS lab N i ts) else .er 5
def blksS (lab : List UInt8 → Bool) (N : Nat) : Nat → List Block → List Token → PR (List Block)
  | 0, _, _ => .no
  | n + 1, acc, ts => if isS [125] ts = true then .ok acc ts.tail [] else (blkIn lab N ts).bind fun b ts _ => blksS lab N n (acc ++ [b]) ts
def blkS (lab : List UInt8 → Bool) (N : Nat) : List Token → PR Block
  | [] => .no
  | t :: ts => if t.Kind = 3 then (match idxS t.Text wordsS 0 with | none => .er 5 | some i => if i = 4 then (labS lab ts).bind fun l ts _ => needS [123] ts fun ts => (blksS lab N N [] ts).bind fun bs ts _ => .ok ⟨5, l, [], bs⟩ ts [] else plainS lab N i ts) else .er 5
def confS (lab : List UInt8 → Bool) (N : Nat) : Nat → List Block → List Token → PR (List Block)
  | 0, _, _ => .no
  | _ + 1, _, [] => .no
  | n + 1, acc, t :: ts => if t.Kind = 0 then .ok acc (t :: ts) [] else (blkS lab N (t :: ts)).bind fun b ts _ => confS lab N n (acc ++ [b]) ts
/-- What tokens are like. -/
structure TL (L : List Token) : Prop where
  len : L.length ≤ 1000000
  text : ∀ t ∈ L, t.Text.length ≤ 1000000
  part : ∀ t ∈ L, ∀ p ∈ t.Parts, p.Text.length ≤ 1000000
def pb (L ts : List Token) (out : List Node) : PBlocks := ⟨pe L ts out 0⟩
def OkP {α : Type} (L ts : List Token) (c : Nat) (R : PBlocks → Nat → Bool → Option Int → α → PBlocks → Nat → Bool → Prop) : PR α → Prop
  | .ok a ts' _ => ts' <:+ L ∧ W ts' ∧ ts'.length + c ≤ ts.length ∧ ∀ out g z, ∃ out' g' z', R (pb L ts out) g z none a (pb L ts' out') g' z'
  | .er e => ∀ out g z, ∃ a x' g' z', R (pb L ts out) g z (some e) a x' g' z'
  | .no => False
section
variable {L ts : List Token} (hT : TL L) (hs : ts <:+ L) (hw : W ts)
include hT hs hw
theorem r_whole {N : Nat} (hN : 20 * ts.length + 10 ≤ N) : match wholeS N ts with
    | .ok nodes ts' _ => ts' <:+ L ∧ W ts' ∧ ts'.length + 1 ≤ ts.length ∧ ∀ out g z, ∃ g' z', R_parse_exprs_whole (pe L ts out 0) g z none nodes (pe L ts' nodes 0) g' z'
    | .er e => ∀ out g z, ∃ a x' g' z', R_parse_exprs_whole (pe L ts out 0) g z (some e) a x' g' z'
    | .no => False := by
  have h := fun g => (sp_all N L hT.len hT.text ts hs hw [] (by have := suf_len hs; have := hT.len; simp; omega) 0 (by omega) g).expr
  simp only [wholeS]
  cases hc : exprS N 0 ts [] with
  | no => have := h 0; rw [hc] at this; simp only [OkE] at this; omega
  | er e =>
    intro out g z
    have := h (g + 1)
    rw [hc] at this
    obtain ⟨a, x', g', z', q⟩ := this
    exact ⟨[], x', g', z', parse_exprs_whole_tree _ _ _ _ _ _ _ _ ⟨some e, a, x', g', z', q, rfl, rfl, rfl, rfl⟩⟩
  | ok a ts1 out1 =>
    have h0 := h 0
    rw [hc] at h0
    obtain ⟨s1, w1, l1, o1, _⟩ := h0
    refine ⟨s1, w1, l1, fun out g z => ?_⟩
    have := h (g + 1)
    rw [hc] at this
    obtain ⟨_, _, _, _, q⟩ := this
    exact ⟨_, _, parse_exprs_whole_tree _ _ _ _ _ _ _ _ ⟨none, a, _, _, _, q, rfl, rfl, rfl, rfl, rfl⟩⟩
theorem r_lab {lab : List UInt8 → Bool} (hl : ∀ s, s.length ≤ 1000000 → R_lex_Label s (lab s)) : OkP L ts 1 R_parse_blocks_label (labS lab ts) := by
  cases ts with
  | nil => exact hw.elim
  | cons t ts =>
    have hI : I64 ((pt L (t :: ts)).pos + 1) := by have := suf_len hs; have := hT.len; simp only [pt, I64]; omega
    simp only [labS]
    by_cases h2 : t.Kind = 2
    · rw [if_pos h2]
      have hk0 : t.Kind ≠ 0 := by rw [h2]; decide
      match hp : t.Parts with
      | [] => exact fun out g z => ⟨[], _, _, _, parse_blocks_label_tree _ _ _ _ _ _ _ _ ⟨t, _, r_now hs, fun _ => ⟨fun hf => absurd hf (by rw [hp]; decide), fun _ => ⟨_, _, r_fail _ _, rfl, rfl, rfl, rfl⟩⟩, fun hf => absurd h2 hf⟩⟩
      | p :: q :: l => exact fun out g z => ⟨[], _, _, _, parse_blocks_label_tree _ _ _ _ _ _ _ _ ⟨t, _, r_now hs, fun _ => ⟨fun hf => absurd hf (by rw [hp]; simp only [List.length_cons]; omega), fun _ => ⟨_, _, r_fail _ _, rfl, rfl, rfl, rfl⟩⟩, fun hf => absurd h2 hf⟩⟩
      | [p] =>
        have h1 : ((t.Parts.length : Nat) : Int) = 1 := by rw [hp]; rfl
        have hg : t.Parts[0]? = some p := by rw [hp]; rfl
        simp only
        by_cases hr : p.Ref = true
        · rw [if_pos hr]
          exact fun out g z => ⟨[], _, _, _, parse_blocks_label_tree _ _ _ _ _ _ _ _ ⟨t, _, r_now hs, fun _ => ⟨fun _ => ⟨p, hg, fun _ => ⟨_, _, r_fail _ _, rfl, rfl, rfl, rfl⟩, fun hf => absurd hr hf⟩, fun hf => absurd h1 hf⟩, fun hf => absurd h2 hf⟩⟩
        · rw [if_neg hr]
          have hlb := hl p.Text (hT.part t (hs.mem (by simp)) p (by rw [hp]; simp))
          by_cases hb : lab p.Text = true
          · rw [if_pos hb]
            rw [hb] at hlb
            refine ⟨suf_tail hs, hw.tail hk0, by simp, fun out g z => ⟨out, g, z, parse_blocks_label_tree _ _ _ _ _ _ _ _ ⟨t, _, r_now hs, fun _ => ⟨fun _ => ⟨p, hg, fun hf => absurd hf hr, fun _ => ⟨true, hlb, fun _ => ⟨hI, rfl, rfl, ?_, rfl, rfl⟩, fun hf => absurd rfl hf⟩⟩, fun hf => absurd h1 hf⟩, fun hf => absurd h2 hf⟩⟩⟩
            rw [pt_next hs]
            rfl
          · rw [if_neg hb]
            rw [show lab p.Text = false by simpa using hb] at hlb
            exact fun out g z => ⟨[], _, _, _, parse_blocks_label_tree _ _ _ _ _ _ _ _ ⟨t, _, r_now hs, fun _ => ⟨fun _ => ⟨p, hg, fun hf => absurd hf hr, fun _ => ⟨false, hlb, fun hf => (by cases hf), fun _ => ⟨_, _, r_fail _ _, rfl, rfl, rfl, rfl⟩⟩⟩, fun hf => absurd h1 hf⟩, fun hf => absurd h2 hf⟩⟩
    · rw [if_neg h2]
      exact fun out g z => ⟨[], _, _, _, parse_blocks_label_tree _ _ _ _ _ _ _ _ ⟨t, _, r_now hs, fun hf => absurd hf h2, fun _ => ⟨_, _, r_fail _ _, rfl, rfl, rfl, rfl⟩⟩⟩
end
theorem r_attrs_b {L : List Token} (hT : TL L) {N : Nat} (hN : 20 * L.length + 10 ≤ N) : ∀ (n : Nat) (acc : List Attr) (ts : List Token), ts <:+ L → W ts → ts.length < n → acc.length + ts.length ≤ 1000000 → OkP L ts 0 (At_parse_blocks_body_1b acc) (attrsS N n acc ts)
  | 0, _, _, _, _, h, _ => absurd h (Nat.not_lt_zero _)
  | n + 1, acc, ts, hs, hw, hn, hal => by
    cases ts with
    | nil => exact hw.elim
    | cons t ts =>
      have hlc : (t :: ts).length = ts.length + 1 := rfl
      have hll := suf_len hs
      have hLl := hT.len
      simp only [attrsS]
      by_cases hi : isS [125] (t :: ts) = true
      · rw [if_pos hi]
        have hw1 := hw.shift hi
        exact ⟨suf_tail hs, hw1, by omega, fun out g z => ⟨_, _, _, At_parse_blocks_body_1b_step _ _ _ _ _ _ _ _ _ ⟨true, _, r_may1 hs hT.len hi, fun _ => ⟨rfl, rfl, rfl, rfl, rfl⟩, fun hf => absurd rfl hf⟩⟩⟩
      rw [if_neg hi]
      have q0 := r_may0 hs (by simp) (show isS [125] (t :: ts) = false by simpa using hi)
      by_cases hk : t.Kind = 3
      · rw [if_pos hk]
        have hk0 : t.Kind ≠ 0 := by rw [hk]; decide
        have hcl : ∀ x, x ∈ acc → R_parse_blocks_body_1 x t.Text (decide (x.Name = t.Text)) := fun x _ => parse_blocks_body_1_tree _ _ _ rfl
        have hal : acc.length < 9223372036854775808 := by omega
        by_cases ha : acc.any (fun a => decide (a.Name = t.Text)) = true
        · rw [if_pos ha]
          exact fun out g z => ⟨[], _, _, _, At_parse_blocks_body_1b_step _ _ _ _ _ _ _ _ _ ⟨false, _, q0, fun hf => (by cases hf), fun _ => ⟨t, _, r_now hs, t, _, r_now hs, fun _ => ⟨hal, _, hcl, fun _ => ⟨_, _, r_fail _ _, rfl, rfl, rfl, rfl⟩, fun hf => absurd ha hf⟩, fun hf => absurd hk hf⟩⟩⟩
        rw [if_neg ha]
        have hs1 := suf_tail hs
        have hw1 := hw.tail hk0
        have q1 := r_name1 hs hT.len hk
        simp only [needS]
        by_cases he : isS [61] ts = true
        · rw [if_pos he]
          have hlen := len_shift he
          have h2 := r_whole hT (suf_shift hs1) (hw1.shift he) (N := N) (by omega)
          cases hc : wholeS N ts.tail with
          | no => rw [hc] at h2; exact h2.elim
          | er e =>
            rw [hc] at h2
            intro out g z
            obtain ⟨a, x', g', z', q2⟩ := h2 out g z
            exact ⟨[], _, _, _, At_parse_blocks_body_1b_step _ _ _ _ _ _ _ _ _ ⟨false, _, q0, fun hf => (by cases hf), fun _ => ⟨t, _, r_now hs, t, _, r_now hs, fun _ => ⟨hal, _, hcl, fun hf => absurd hf ha, fun _ => ⟨none, _, _, q1, none, _, r_need1 hs1 hT.len he, some e, a, x', g', z', q2, rfl, rfl, rfl, rfl⟩⟩, fun hf => absurd hk hf⟩⟩⟩
          | ok nodes ts2 out2 =>
            rw [hc] at h2
            obtain ⟨s2, w2, l2, q2⟩ := h2
            simp only [PR.bind]
            have h3 := r_attrs_b hT hN n (acc ++ [⟨t.Text, nodes⟩]) ts2 s2 w2 (by omega) (by simp; omega)
            have hbig : bigRow (acc.length + 1) 40 := by simp only [bigRow]; omega
            cases hl : attrsS N n (acc ++ [⟨t.Text, nodes⟩]) ts2 with
            | no => rw [hl] at h3; exact h3.elim
            | er e =>
              rw [hl] at h3
              intro out g z
              obtain ⟨g2, z2, q2⟩ := q2 out g z
              obtain ⟨a, x', g', z', q3⟩ := h3 nodes g2 z2
              exact ⟨a, x', g', z', At_parse_blocks_body_1b_step _ _ _ _ _ _ _ _ _ ⟨false, _, q0, fun hf => (by cases hf), fun _ => ⟨t, _, r_now hs, t, _, r_now hs, fun _ => ⟨hal, _, hcl, fun hf => absurd hf ha, fun _ => ⟨none, _, _, q1, none, _, r_need1 hs1 hT.len he, none, nodes, _, g2, z2, q2, hbig, q3⟩⟩, fun hf => absurd hk hf⟩⟩⟩
            | ok a ts3 out3 =>
              rw [hl] at h3
              obtain ⟨s3, w3, l3, q3⟩ := h3
              refine ⟨s3, w3, by omega, fun out g z => ?_⟩
              obtain ⟨g2, z2, q2⟩ := q2 out g z
              obtain ⟨out', g', z', q3⟩ := q3 nodes g2 z2
              exact ⟨out', g', z', At_parse_blocks_body_1b_step _ _ _ _ _ _ _ _ _ ⟨false, _, q0, fun hf => (by cases hf), fun _ => ⟨t, _, r_now hs, t, _, r_now hs, fun _ => ⟨hal, _, hcl, fun hf => absurd hf ha, fun _ => ⟨none, _, _, q1, none, _, r_need1 hs1 hT.len he, none, nodes, _, g2, z2, q2, hbig, q3⟩⟩, fun hf => absurd hk hf⟩⟩⟩
        · rw [if_neg he]
          exact fun out g z => ⟨[], _, _, _, At_parse_blocks_body_1b_step _ _ _ _ _ _ _ _ _ ⟨false, _, q0, fun hf => (by cases hf), fun _ => ⟨t, _, r_now hs, t, _, r_now hs, fun _ => ⟨hal, _, hcl, fun hf => absurd hf ha, fun _ => ⟨none, _, _, q1, some 5, _, r_need0 hs1 hw1.ne (by simpa using he), rfl, rfl, rfl, rfl⟩⟩, fun hf => absurd hk hf⟩⟩⟩
      · rw [if_neg hk]
        exact fun out g z => ⟨[], _, _, _, At_parse_blocks_body_1b_step _ _ _ _ _ _ _ _ _ ⟨false, _, q0, fun hf => (by cases hf), fun _ => ⟨t, _, r_now hs, t, _, r_now hs, fun hf => absurd hf hk, fun _ => ⟨some 5, [], _, r_name0 hs hk [], rfl, rfl, rfl, rfl⟩⟩⟩⟩
theorem r_attrs {L : List Token} (hT : TL L) {N : Nat} (hN : 20 * L.length + 10 ≤ N) (n : Nat) (acc : List Attr) (ts : List Token) (hs : ts <:+ L) (hw : W ts) (hn : ts.length < n + 1) (hal : acc.length + ts.length ≤ 1000000) : OkP L ts 0 (At_parse_blocks_body_1 acc) (attrsS N (n + 1) acc ts) := by
  cases ts with
  | nil => exact hw.elim
  | cons t ts =>
    have hlc : (t :: ts).length = ts.length + 1 := rfl
    have hll := suf_len hs
    have hLl := hT.len
    simp only [attrsS]
    by_cases hi : isS [125] (t :: ts) = true
    · rw [if_pos hi]
      have hw1 := hw.shift hi
      exact ⟨suf_tail hs, hw1, by omega, fun out g z => ⟨_, _, _, At_parse_blocks_body_1_step _ _ _ _ _ _ _ _ _ ⟨true, _, r_may1 hs hT.len hi, fun _ => ⟨rfl, rfl, rfl, rfl, rfl⟩, fun hf => absurd rfl hf⟩⟩⟩
    rw [if_neg hi]
    have q0 := r_may0 hs (by simp) (show isS [125] (t :: ts) = false by simpa using hi)
    by_cases hk : t.Kind = 3
    · rw [if_pos hk]
      have hk0 : t.Kind ≠ 0 := by rw [hk]; decide
      have hcl : ∀ x, x ∈ acc → R_parse_blocks_body_1 x t.Text (decide (x.Name = t.Text)) := fun x _ => parse_blocks_body_1_tree _ _ _ rfl
      have hal : acc.length < 9223372036854775808 := by omega
      by_cases ha : acc.any (fun a => decide (a.Name = t.Text)) = true
      · rw [if_pos ha]
        exact fun out g z => ⟨[], _, _, _, At_parse_blocks_body_1_step _ _ _ _ _ _ _ _ _ ⟨false, _, q0, fun hf => (by cases hf), fun _ => ⟨t, _, r_now hs, t, _, r_now hs, fun _ => ⟨hal, _, hcl, fun _ => ⟨_, _, r_fail _ _, rfl, rfl, rfl, rfl⟩, fun hf => absurd ha hf⟩, fun hf => absurd hk hf⟩⟩⟩
      rw [if_neg ha]
      have hs1 := suf_tail hs
      have hw1 := hw.tail hk0
      have q1 := r_name1 hs hT.len hk
      simp only [needS]
      by_cases he : isS [61] ts = true
      · rw [if_pos he]
        have hlen := len_shift he
        have h2 := r_whole hT (suf_shift hs1) (hw1.shift he) (N := N) (by omega)
        cases hc : wholeS N ts.tail with
        | no => rw [hc] at h2; exact h2.elim
        | er e =>
          rw [hc] at h2
          intro out g z
          obtain ⟨a, x', g', z', q2⟩ := h2 out g z
          exact ⟨[], _, _, _, At_parse_blocks_body_1_step _ _ _ _ _ _ _ _ _ ⟨false, _, q0, fun hf => (by cases hf), fun _ => ⟨t, _, r_now hs, t, _, r_now hs, fun _ => ⟨hal, _, hcl, fun hf => absurd hf ha, fun _ => ⟨none, _, _, q1, none, _, r_need1 hs1 hT.len he, some e, a, x', g', z', q2, rfl, rfl, rfl, rfl⟩⟩, fun hf => absurd hk hf⟩⟩⟩
        | ok nodes ts2 out2 =>
          rw [hc] at h2
          obtain ⟨s2, w2, l2, q2⟩ := h2
          simp only [PR.bind]
          have h3 := r_attrs_b hT hN n (acc ++ [⟨t.Text, nodes⟩]) ts2 s2 w2 (by omega) (by simp; omega)
          have hbig : bigRow (acc.length + 1) 40 := by simp only [bigRow]; omega
          cases hl : attrsS N n (acc ++ [⟨t.Text, nodes⟩]) ts2 with
          | no => rw [hl] at h3; exact h3.elim
          | er e =>
            rw [hl] at h3
            intro out g z
            obtain ⟨g2, z2, q2⟩ := q2 out g z
            obtain ⟨a, x', g', z', q3⟩ := h3 nodes g2 z2
            exact ⟨a, x', g', z', At_parse_blocks_body_1_step _ _ _ _ _ _ _ _ _ ⟨false, _, q0, fun hf => (by cases hf), fun _ => ⟨t, _, r_now hs, t, _, r_now hs, fun _ => ⟨hal, _, hcl, fun hf => absurd hf ha, fun _ => ⟨none, _, _, q1, none, _, r_need1 hs1 hT.len he, none, nodes, _, g2, z2, q2, hbig, q3⟩⟩, fun hf => absurd hk hf⟩⟩⟩
          | ok a ts3 out3 =>
            rw [hl] at h3
            obtain ⟨s3, w3, l3, q3⟩ := h3
            refine ⟨s3, w3, by omega, fun out g z => ?_⟩
            obtain ⟨g2, z2, q2⟩ := q2 out g z
            obtain ⟨out', g', z', q3⟩ := q3 nodes g2 z2
            exact ⟨out', g', z', At_parse_blocks_body_1_step _ _ _ _ _ _ _ _ _ ⟨false, _, q0, fun hf => (by cases hf), fun _ => ⟨t, _, r_now hs, t, _, r_now hs, fun _ => ⟨hal, _, hcl, fun hf => absurd hf ha, fun _ => ⟨none, _, _, q1, none, _, r_need1 hs1 hT.len he, none, nodes, _, g2, z2, q2, hbig, q3⟩⟩, fun hf => absurd hk hf⟩⟩⟩
      · rw [if_neg he]
        exact fun out g z => ⟨[], _, _, _, At_parse_blocks_body_1_step _ _ _ _ _ _ _ _ _ ⟨false, _, q0, fun hf => (by cases hf), fun _ => ⟨t, _, r_now hs, t, _, r_now hs, fun _ => ⟨hal, _, hcl, fun hf => absurd hf ha, fun _ => ⟨none, _, _, q1, some 5, _, r_need0 hs1 hw1.ne (by simpa using he), rfl, rfl, rfl, rfl⟩⟩, fun hf => absurd hk hf⟩⟩⟩
    · rw [if_neg hk]
      exact fun out g z => ⟨[], _, _, _, At_parse_blocks_body_1_step _ _ _ _ _ _ _ _ _ ⟨false, _, q0, fun hf => (by cases hf), fun _ => ⟨t, _, r_now hs, t, _, r_now hs, fun hf => absurd hf hk, fun _ => ⟨some 5, [], _, r_name0 hs hk [], rfl, rfl, rfl, rfl⟩⟩⟩⟩
theorem r_body {L ts : List Token} (hT : TL L) (hs : ts <:+ L) (hw : W ts) {N : Nat} (hN : 20 * L.length + 10 ≤ N) : OkP L ts 1 R_parse_blocks_body (bodyS N ts) := by
  simp only [bodyS, needS]
  have hll := suf_len hs
  have hLl := hT.len
  by_cases hi : isS [123] ts = true
  · rw [if_pos hi]
    have hlen := len_shift hi
    obtain ⟨n, rfl⟩ : ∃ n, N = n + 1 := ⟨N - 1, by omega⟩
    have h1 := r_attrs hT hN n [] ts.tail (suf_shift hs) (hw.shift hi) (by omega) (by simp; omega)
    cases hc : attrsS (n + 1) (n + 1) [] ts.tail with
    | no => rw [hc] at h1; exact h1.elim
    | er e =>
      rw [hc] at h1
      intro out g z
      obtain ⟨a, x', g', z', q⟩ := h1 out g z
      exact ⟨a, x', g', z', parse_blocks_body_tree _ _ _ _ _ _ _ _ ⟨none, _, r_need1 hs hT.len hi, q⟩⟩
    | ok a ts1 out1 =>
      rw [hc] at h1
      obtain ⟨s1, w1, l1, q⟩ := h1
      refine ⟨s1, w1, by omega, fun out g z => ?_⟩
      obtain ⟨out', g', z', q⟩ := q out g z
      exact ⟨out', g', z', parse_blocks_body_tree _ _ _ _ _ _ _ _ ⟨none, _, r_need1 hs hT.len hi, q⟩⟩
  · rw [if_neg hi]
    exact fun out g z => ⟨[], _, _, _, parse_blocks_body_tree _ _ _ _ _ _ _ _ ⟨some 5, _, r_need0 hs hw.ne (by simpa using hi), rfl, rfl, rfl, rfl⟩⟩
theorem r_words : R_parse_words wordsS := parse_words_tree _ rfl
theorem r_blkPlain {L : List Token} {t : Token} {ts : List Token} (hT : TL L) (hs : (t :: ts) <:+ L) (hw : W (t :: ts)) {lab : List UInt8 → Bool} (hl : ∀ s, s.length ≤ 1000000 → R_lex_Label s (lab s)) {N : Nat} (hN : 20 * L.length + 10 ≤ N) (within : Bool) (hk : t.Kind = 3) {i : Nat} (hi : idxS t.Text wordsS 0 = some i) (h4 : i ≠ 4) (h5 : i ≤ 1000) :
    OkP L (t :: ts) 1 (fun b g z => R_parse_blocks_block b g z within) (plainS lab N i ts) := by
  have hk0 : t.Kind ≠ 0 := by rw [hk]; decide
  have hs1 := suf_tail hs
  have hw1 := hw.tail hk0
  have hlc : (t :: ts).length = ts.length + 1 := rfl
  have hI : I64 ((pt L (t :: ts)).pos + 1) := by have := suf_len hs; have := hT.len; simp only [pt, I64]; omega
  have e1 : ∀ out, PBlocks.mk (PExprs.mk (PTokens.mk (pt L (t :: ts)).l ((pt L (t :: ts)).pos + 1)) (pb L (t :: ts) out).exprs.out (pb L (t :: ts) out).exprs.deep) = pb L ts out := fun out => by rw [pt_next hs]; rfl
  have hix : R_slices_Index_string_string wordsS t.Text (i : Int) := by have := r_IndexS wordsS t.Text (by decide); rw [hi] at this; exact this
  have n0 : ¬ (1 + (i : Int)) = 0 := by omega
  have n5 : ¬ (1 + (i : Int)) = 5 := by omega
  have hI1 : I64 (1 + (i : Int)) := ⟨by omega, by omega⟩
  simp only [plainS]
  by_cases h1 : i = 1
  · subst h1
    rw [if_pos rfl]
    have h2 := r_body hT hs1 hw1 hN
    cases hc : bodyS N ts with
    | no => rw [hc] at h2; exact h2.elim
    | er e =>
      rw [hc] at h2
      intro out g z
      obtain ⟨a, x', g', z', q⟩ := h2 out g z
      exact ⟨⟨0, [], [], []⟩, x', g', z', parse_blocks_block_tree _ _ _ _ _ _ _ _ _ ⟨t, _, r_now hs, _, r_words, _, hix, hI1, fun _ => ⟨fun hf => absurd hf n0, fun _ => ⟨fun hf => absurd hf n5, fun _ => ⟨hI, fun _ => ⟨some e, a, x', g', z', (e1 out).symm ▸ q, rfl, rfl, rfl, rfl⟩, fun hf => absurd (by decide) hf⟩⟩⟩, fun hf => absurd hk hf⟩⟩
    | ok a ts1 out1 =>
      rw [hc] at h2
      obtain ⟨s1, w1, l1, q⟩ := h2
      refine ⟨s1, w1, by omega, fun out g z => ?_⟩
      obtain ⟨out', g', z', q⟩ := q out g z
      exact ⟨out', g', z', parse_blocks_block_tree _ _ _ _ _ _ _ _ _ ⟨t, _, r_now hs, _, r_words, _, hix, hI1, fun _ => ⟨fun hf => absurd hf n0, fun _ => ⟨fun hf => absurd hf n5, fun _ => ⟨hI, fun _ => ⟨none, a, _, _, _, (e1 out).symm ▸ q, ⟨rfl, rfl, rfl, rfl, rfl⟩, rfl, rfl, rfl, rfl, rfl⟩, fun hf => absurd (by decide) hf⟩⟩⟩, fun hf => absurd hk hf⟩⟩
  · rw [if_neg h1]
    have n2 : ¬ (1 + (i : Int)) = 2 := by omega
    have h2 := r_lab hT hs1 hw1 hl
    cases hc : labS lab ts with
    | no => rw [hc] at h2; exact h2.elim
    | er e =>
      rw [hc] at h2
      intro out g z
      obtain ⟨a, x', g', z', q⟩ := h2 out g z
      exact ⟨⟨0, [], [], []⟩, x', g', z', parse_blocks_block_tree _ _ _ _ _ _ _ _ _ ⟨t, _, r_now hs, _, r_words, _, hix, hI1, fun _ => ⟨fun hf => absurd hf n0, fun _ => ⟨fun hf => absurd hf n5, fun _ => ⟨hI, fun hf => absurd hf n2, fun _ => ⟨some e, a, x', g', z', (e1 out).symm ▸ q, rfl, rfl, rfl, rfl⟩⟩⟩⟩, fun hf => absurd hk hf⟩⟩
    | ok l ts1 out1 =>
      rw [hc] at h2
      obtain ⟨s1, w1, l1, q1⟩ := h2
      simp only [PR.bind]
      have h3 := r_body hT s1 w1 hN
      cases hb : bodyS N ts1 with
      | no => rw [hb] at h3; exact h3.elim
      | er e =>
        rw [hb] at h3
        intro out g z
        obtain ⟨out1, g1, z1, q1⟩ := q1 out g z
        obtain ⟨a, x', g', z', q⟩ := h3 out1 g1 z1
        exact ⟨⟨0, [], [], []⟩, x', g', z', parse_blocks_block_tree _ _ _ _ _ _ _ _ _ ⟨t, _, r_now hs, _, r_words, _, hix, hI1, fun _ => ⟨fun hf => absurd hf n0, fun _ => ⟨fun hf => absurd hf n5, fun _ => ⟨hI, fun hf => absurd hf n2, fun _ => ⟨none, l, _, _, _, (e1 out).symm ▸ q1, some e, a, x', g', z', q, rfl, rfl, rfl, rfl⟩⟩⟩⟩, fun hf => absurd hk hf⟩⟩
      | ok a ts2 out2 =>
        rw [hb] at h3
        obtain ⟨s2, w2, l2, q2⟩ := h3
        refine ⟨s2, w2, by omega, fun out g z => ?_⟩
        obtain ⟨out1, g1, z1, q1⟩ := q1 out g z
        obtain ⟨out', g', z', q2⟩ := q2 out1 g1 z1
        exact ⟨out', g', z', parse_blocks_block_tree _ _ _ _ _ _ _ _ _ ⟨t, _, r_now hs, _, r_words, _, hix, hI1, fun _ => ⟨fun hf => absurd hf n0, fun _ => ⟨fun hf => absurd hf n5, fun _ => ⟨hI, fun hf => absurd hf n2, fun _ => ⟨none, l, _, _, _, (e1 out).symm ▸ q1, none, a, _, _, _, q2, ⟨rfl, rfl, rfl, rfl, rfl⟩, rfl, rfl, rfl, rfl, rfl⟩⟩⟩⟩, fun hf => absurd hk hf⟩⟩
theorem idxS_lt (s : List UInt8) : ∀ (l : List (List UInt8)) (i j : Nat), idxS s l i = some j → j < i + l.length
  | [], i, j, h => by cases h
  | v :: l, i, j, h => by
    simp only [idxS] at h
    split at h
    · cases h; simp
    · have := idxS_lt s l (i + 1) j h
      simp only [List.length_cons]
      omega
/-- No block begins there. -/
theorem r_blkNo {L : List Token} {t : Token} {ts : List Token} (hs : (t :: ts) <:+ L) (within : Bool) (h : t.Kind ≠ 3 ∨ idxS t.Text wordsS 0 = none ∨ (within = true ∧ idxS t.Text wordsS 0 = some 4)) : OkP L (t :: ts) 1 (fun b g z => R_parse_blocks_block b g z within) (.er 5) := by
  intro out g z
  have hix := r_IndexS wordsS t.Text (by decide)
  have hI1 : I64 (1 + idxI (idxS t.Text wordsS 0)) := by
    cases hi : idxS t.Text wordsS 0 with
    | none => exact ⟨by simp [idxI], by simp [idxI]⟩
    | some i => have := idxS_lt _ _ _ _ hi; simp [wordsS] at this; exact ⟨by simp only [idxI]; omega, by simp only [idxI]; omega⟩
  refine ⟨⟨0, [], [], []⟩, _, _, _, parse_blocks_block_tree _ _ _ _ _ _ _ _ _ ⟨t, _, r_now hs, _, r_words, _, hix, hI1, fun hk => ?_, fun _ => ⟨_, _, r_fail _ _, rfl, rfl, rfl, rfl⟩⟩⟩
  rcases h with h | h | ⟨h1, h2⟩
  · exact absurd hk h
  · rw [h]
    exact ⟨fun _ => ⟨_, _, r_fail _ _, rfl, rfl, rfl, rfl⟩, fun hf => absurd rfl hf⟩
  · rw [h2]
    exact ⟨fun hf => absurd hf (by decide), fun _ => ⟨fun _ => ⟨fun _ => ⟨_, _, r_fail _ _, rfl, rfl, rfl, rfl⟩, fun hf => absurd h1 hf⟩, fun hf => absurd (by decide) hf⟩⟩
theorem r_blkIn {L ts : List Token} (hT : TL L) (hs : ts <:+ L) (hw : W ts) {lab : List UInt8 → Bool} (hl : ∀ s, s.length ≤ 1000000 → R_lex_Label s (lab s)) {N : Nat} (hN : 20 * L.length + 10 ≤ N) : OkP L ts 1 (fun b g z => R_parse_blocks_block b g z true) (blkIn lab N ts) := by
  cases ts with
  | nil => exact hw.elim
  | cons t ts =>
    simp only [blkIn]
    by_cases hk : t.Kind = 3
    · rw [if_pos hk]
      cases hi : idxS t.Text wordsS 0 with
      | none => exact r_blkNo hs true (.inr (.inl hi))
      | some i =>
        simp only
        by_cases h4 : i = 4
        · rw [if_pos h4]
          exact r_blkNo hs true (.inr (.inr ⟨rfl, h4 ▸ hi⟩))
        · rw [if_neg h4]
          exact r_blkPlain hT hs hw hl hN true hk hi h4 (by have := idxS_lt _ _ _ _ hi; simp [wordsS] at this; omega)
    · rw [if_neg hk]
      exact r_blkNo hs true (.inl hk)
theorem r_blks {L : List Token} (hT : TL L) {lab : List UInt8 → Bool} (hl : ∀ s, s.length ≤ 1000000 → R_lex_Label s (lab s)) {N : Nat} (hN : 20 * L.length + 10 ≤ N) (r4 : Int) (r11 : List UInt8) (l20 : List Attr) (g21 g23 : Nat) : ∀ (n : Nat) (acc : List Block) (ts : List Token), ts <:+ L → W ts → ts.length < n → acc.length + ts.length ≤ 1000000 →
    OkP L ts 1 (fun b g z o (r : List Block) b' g' z' => At_parse_blocks_block_1 r4 r11 l20 g21 acc g23 b g z o ⟨1 + r4, r11, l20, r⟩ b' g' z') (blksS lab N n acc ts)
  | 0, _, _, _, _, h, _ => absurd h (Nat.not_lt_zero _)
  | n + 1, acc, ts, hs, hw, hn, hal => by
    simp only [blksS]
    by_cases hi : isS [125] ts = true
    · rw [if_pos hi]
      have hlen := len_shift hi
      exact ⟨suf_shift hs, hw.shift hi, by omega, fun out g z => ⟨_, _, _, At_parse_blocks_block_1_step _ _ _ _ _ _ _ _ _ _ _ _ _ _ ⟨true, _, r_may1 hs hT.len hi, fun _ => ⟨rfl, rfl, rfl, rfl, rfl⟩, fun hf => absurd rfl hf⟩⟩⟩
    rw [if_neg hi]
    have q0 := r_may0 hs hw.ne (show isS [125] ts = false by simpa using hi)
    have h1 := r_blkIn hT hs hw hl hN
    have hbig : bigRow (acc.length + 1) 72 := by simp only [bigRow]; omega
    cases hc : blkIn lab N ts with
    | no => rw [hc] at h1; exact h1.elim
    | er e =>
      rw [hc] at h1
      intro out g z
      obtain ⟨a, x', g', z', q⟩ := h1 out g z
      exact ⟨[], x', g', z', At_parse_blocks_block_1_step _ _ _ _ _ _ _ _ _ _ _ _ _ _ ⟨false, _, q0, fun hf => (by cases hf), fun _ => ⟨some e, a, x', g', z', q, rfl, rfl, rfl, rfl⟩⟩⟩
    | ok a ts1 out1 =>
      rw [hc] at h1
      obtain ⟨s1, w1, l1, q1⟩ := h1
      simp only [PR.bind]
      have h2 := r_blks hT hl hN r4 r11 l20 g21 g23 n (acc ++ [a]) ts1 s1 w1 (by omega) (by simp; omega)
      cases hb : blksS lab N n (acc ++ [a]) ts1 with
      | no => rw [hb] at h2; exact h2.elim
      | er e =>
        rw [hb] at h2
        intro out g z
        obtain ⟨out1, g1, z1, q1⟩ := q1 out g z
        obtain ⟨c, x', g', z', q⟩ := h2 out1 g1 z1
        exact ⟨c, x', g', z', At_parse_blocks_block_1_step _ _ _ _ _ _ _ _ _ _ _ _ _ _ ⟨false, _, q0, fun hf => (by cases hf), fun _ => ⟨none, a, _, _, _, q1, hbig, q⟩⟩⟩
      | ok c ts2 out2 =>
        rw [hb] at h2
        obtain ⟨s2, w2, l2, q2⟩ := h2
        refine ⟨s2, w2, by omega, fun out g z => ?_⟩
        obtain ⟨out1, g1, z1, q1⟩ := q1 out g z
        obtain ⟨out', g', z', q2⟩ := q2 out1 g1 z1
        exact ⟨out', g', z', At_parse_blocks_block_1_step _ _ _ _ _ _ _ _ _ _ _ _ _ _ ⟨false, _, q0, fun hf => (by cases hf), fun _ => ⟨none, a, _, _, _, q1, hbig, q2⟩⟩⟩
end Go.Proofs.YtfbcnpbhhooapaaGreatDoor.M

/- Parse: configurations and expressions of tokens: parse.Parse and parse.Expr follow the functions. -/
namespace Go.Proofs.YtfbcnpbhhooapaaGreatDoor.M
set_option linter.unusedSimpArgs false
set_option linter.unusedVariables false
open Go Classical
theorem r_blk {L ts : List Token} (hT : TL L) (hs : ts <:+ L) (hw : W ts) {lab : List UInt8 → Bool} (hl : ∀ s, s.length ≤ 1000000 → R_lex_Label s (lab s)) {N : Nat} (hN : 20 * L.length + 10 ≤ N) : OkP L ts 1 (fun b g z => R_parse_blocks_block b g z false) (blkS lab N ts) := by
  cases ts with
  | nil => exact hw.elim
  | cons t ts =>
    simp only [blkS]
    by_cases hk : t.Kind = 3
    · rw [if_pos hk]
      cases hi : idxS t.Text wordsS 0 with
      | none => exact r_blkNo hs false (.inr (.inl hi))
      | some i =>
        simp only
        by_cases h4 : i = 4
        · subst h4
          rw [if_pos rfl]
          have hk0 : t.Kind ≠ 0 := by rw [hk]; decide
          have hs1 := suf_tail hs
          have hw1 := hw.tail hk0
          have hlc : (t :: ts).length = ts.length + 1 := rfl
          have hll := suf_len hs
          have hLl := hT.len
          have hI : I64 ((pt L (t :: ts)).pos + 1) := by simp only [pt, I64]; omega
          have e1 : ∀ out, PBlocks.mk (PExprs.mk (PTokens.mk (pt L (t :: ts)).l ((pt L (t :: ts)).pos + 1)) (pb L (t :: ts) out).exprs.out (pb L (t :: ts) out).exprs.deep) = pb L ts out := fun out => by rw [pt_next hs]; rfl
          have hix : R_slices_Index_string_string wordsS t.Text ((4 : Nat) : Int) := by have := r_IndexS wordsS t.Text (by decide); rw [hi] at this; exact this
          have n0 : ¬ (1 + ((4 : Nat) : Int)) = 0 := by decide
          have hI1 : I64 (1 + ((4 : Nat) : Int)) := ⟨by decide, by decide⟩
          have h2 := r_lab hT hs1 hw1 hl
          cases hc : labS lab ts with
          | no => rw [hc] at h2; exact h2.elim
          | er e =>
            rw [hc] at h2
            intro out g z
            obtain ⟨a, x', g', z', q⟩ := h2 out g z
            exact ⟨⟨0, [], [], []⟩, x', g', z', parse_blocks_block_tree _ _ _ _ _ _ _ _ _ ⟨t, _, r_now hs, _, r_words, _, hix, hI1, fun _ => ⟨fun hf => absurd hf n0, fun _ => ⟨fun _ => ⟨fun hf => (by cases hf), fun _ => ⟨hI, some e, a, x', g', z', (e1 out).symm ▸ q, rfl, rfl, rfl, rfl⟩⟩, fun hf => absurd rfl hf⟩⟩, fun hf => absurd hk hf⟩⟩
          | ok l ts1 out1 =>
            rw [hc] at h2
            obtain ⟨s1, w1, l1, q1⟩ := h2
            simp only [PR.bind, needS]
            by_cases he : isS [123] ts1 = true
            · rw [if_pos he]
              have hlen := len_shift he
              have h3 := r_blks hT hl hN ((4 : Nat) : Int) l [] 1 1 N [] ts1.tail (suf_shift s1) (w1.shift he) (by omega) (by simp; omega)
              cases hb : blksS lab N N [] ts1.tail with
              | no => rw [hb] at h3; exact h3.elim
              | er e =>
                rw [hb] at h3
                intro out g z
                obtain ⟨out1, g1, z1, q1⟩ := q1 out g z
                obtain ⟨a, x', g', z', q⟩ := h3 out1 g1 z1
                exact ⟨_, x', g', z', parse_blocks_block_tree _ _ _ _ _ _ _ _ _ ⟨t, _, r_now hs, _, r_words, _, hix, hI1, fun _ => ⟨fun hf => absurd hf n0, fun _ => ⟨fun _ => ⟨fun hf => (by cases hf), fun _ => ⟨hI, none, l, _, _, _, (e1 out).symm ▸ q1, none, _, r_need1 s1 hT.len he, q⟩⟩, fun hf => absurd rfl hf⟩⟩, fun hf => absurd hk hf⟩⟩
              | ok bs ts2 out2 =>
                rw [hb] at h3
                obtain ⟨s2, w2, l2, q2⟩ := h3
                refine ⟨s2, w2, by omega, fun out g z => ?_⟩
                obtain ⟨out1, g1, z1, q1⟩ := q1 out g z
                obtain ⟨out', g', z', q2⟩ := q2 out1 g1 z1
                exact ⟨out', g', z', parse_blocks_block_tree _ _ _ _ _ _ _ _ _ ⟨t, _, r_now hs, _, r_words, _, hix, hI1, fun _ => ⟨fun hf => absurd hf n0, fun _ => ⟨fun _ => ⟨fun hf => (by cases hf), fun _ => ⟨hI, none, l, _, _, _, (e1 out).symm ▸ q1, none, _, r_need1 s1 hT.len he, q2⟩⟩, fun hf => absurd rfl hf⟩⟩, fun hf => absurd hk hf⟩⟩
            · rw [if_neg he]
              intro out g z
              obtain ⟨out1, g1, z1, q1⟩ := q1 out g z
              exact ⟨⟨0, [], [], []⟩, _, _, _, parse_blocks_block_tree _ _ _ _ _ _ _ _ _ ⟨t, _, r_now hs, _, r_words, _, hix, hI1, fun _ => ⟨fun hf => absurd hf n0, fun _ => ⟨fun _ => ⟨fun hf => (by cases hf), fun _ => ⟨hI, none, l, _, _, _, (e1 out).symm ▸ q1, some 5, _, r_need0 s1 w1.ne (by simpa using he), rfl, rfl, rfl, rfl⟩⟩, fun hf => absurd rfl hf⟩⟩, fun hf => absurd hk hf⟩⟩
        · rw [if_neg h4]
          exact r_blkPlain hT hs hw hl hN false hk hi h4 (by have := idxS_lt _ _ _ _ hi; simp [wordsS] at this; omega)
    · rw [if_neg hk]
      exact r_blkNo hs false (.inl hk)
theorem r_conf {L : List Token} (hT : TL L) {lab : List UInt8 → Bool} (hl : ∀ s, s.length ≤ 1000000 → R_lex_Label s (lab s)) {N : Nat} (hN : 20 * L.length + 10 ≤ N) : ∀ (n : Nat) (acc : List Block) (ts : List Token), ts <:+ L → W ts → ts.length < n → acc.length + ts.length ≤ 1000000 →
    match confS lab N n acc ts with
    | .ok l _ _ => ∀ out g z, ∃ b' bg bz, At_parse_Parse_1_1 (pb L ts out) g z acc 0 false none b' bg bz l 0 false
    | .er e => ∀ out g z, ∃ b' bg bz l, At_parse_Parse_1_1 (pb L ts out) g z acc 0 false (some e) b' bg bz l 0 false
    | .no => False
  | 0, _, _, _, _, h, _ => absurd h (Nat.not_lt_zero _)
  | n + 1, acc, [], hs, hw, hn, hal => hw.elim
  | n + 1, acc, t :: ts, hs, hw, hn, hal => by
    have hlc : (t :: ts).length = ts.length + 1 := rfl
    simp only [confS]
    by_cases hk : t.Kind = 0
    · rw [if_pos hk]
      exact fun out g z => ⟨_, _, _, At_parse_Parse_1_1_step _ _ _ _ _ _ _ _ _ _ _ _ _ ⟨t, _, r_now hs, fun _ => ⟨rfl, rfl, rfl, rfl, rfl, rfl, rfl⟩, fun hf => absurd hk hf⟩⟩
    rw [if_neg hk]
    have h1 := r_blk hT hs hw hl hN
    have hbig : bigRow (acc.length + 1) 72 := by simp only [bigRow]; omega
    cases hc : blkS lab N (t :: ts) with
    | no => rw [hc] at h1; exact h1.elim
    | er e =>
      rw [hc] at h1
      intro out g z
      obtain ⟨a, x', g', z', q⟩ := h1 out g z
      exact ⟨x', g', z', acc, At_parse_Parse_1_1_step _ _ _ _ _ _ _ _ _ _ _ _ _ ⟨t, _, r_now hs, fun hf => absurd hf hk, fun _ => ⟨some e, a, x', g', z', q, rfl, rfl, rfl, rfl, rfl, rfl, rfl⟩⟩⟩
    | ok a ts1 out1 =>
      rw [hc] at h1
      obtain ⟨s1, w1, l1, q1⟩ := h1
      simp only [PR.bind]
      have h2 := r_conf hT hl hN n (acc ++ [a]) ts1 s1 w1 (by omega) (by simp; omega)
      cases hb : confS lab N n (acc ++ [a]) ts1 with
      | no => rw [hb] at h2; exact h2.elim
      | er e =>
        rw [hb] at h2
        intro out g z
        obtain ⟨out1, g1, z1, q1⟩ := q1 out g z
        obtain ⟨b', bg, bz, l, q⟩ := h2 out1 g1 z1
        exact ⟨b', bg, bz, l, At_parse_Parse_1_1_step _ _ _ _ _ _ _ _ _ _ _ _ _ ⟨t, _, r_now hs, fun hf => absurd hf hk, fun _ => ⟨none, a, _, _, _, q1, hbig, by omega, rfl, ⟨0, [], [], []⟩, by simp, by rw [set_lastP]; exact q⟩⟩⟩
      | ok l ts2 out2 =>
        rw [hb] at h2
        intro out g z
        obtain ⟨out1, g1, z1, q1⟩ := q1 out g z
        obtain ⟨b', bg, bz, q⟩ := h2 out1 g1 z1
        exact ⟨b', bg, bz, At_parse_Parse_1_1_step _ _ _ _ _ _ _ _ _ _ _ _ _ ⟨t, _, r_now hs, fun hf => absurd hf hk, fun _ => ⟨none, a, _, _, _, q1, hbig, by omega, rfl, ⟨0, [], [], []⟩, by simp, by rw [set_lastP]; exact q⟩⟩⟩
theorem pb0_eq (L : List Token) : pb0 L = pb L L [] := by simp [pb0, pb, pe, pt]
/-- A configuration of tokens. -/
def confT (lab : List UInt8 → Bool) (L : List Token) : PR (List Block) := confS lab (20 * L.length + 10) (L.length + 1) [] L
/-- An expression of tokens. -/
def exprT (L : List Token) : PR (List Node) := (wholeS (20 * L.length + 10) L).bind fun nodes ts _ => match ts with | [] => .no | t :: _ => if t.Kind = 0 then .ok nodes ts [] else .er 5
theorem r_ParseT {s : List UInt8} {L : List Token} (hx : R_lex_Lex s L 0) (hT : TL L) (hw : W L) {lab : List UInt8 → Bool} (hl : ∀ s, s.length ≤ 1000000 → R_lex_Label s (lab s)) :
    match confT lab L with
    | .ok l _ _ => R_parse_Parse s l 0
    | .er e => e ≠ 0 → R_parse_Parse s [] e
    | .no => False := by
  have h := r_conf hT hl (Nat.le_refl _) (L.length + 1) [] L (List.suffix_refl L) hw (by omega) (by have := hT.len; simp; omega)
  unfold confT
  cases hc : confS lab (20 * L.length + 10) (L.length + 1) [] L with
  | no => rw [hc] at h; exact h.elim
  | er e =>
    rw [hc] at h
    intro he
    obtain ⟨b', bg, bz, l, q⟩ := h [] 0 false
    have := r_Parse_of hx (o := some e) (by rw [pb0_eq]; exact parse_Parse_1_tree _ _ _ _ _ _ _ _ _ _ _ _ _ q)
    rw [Option.getD_some, if_neg he] at this
    exact this
  | ok l ts out =>
    rw [hc] at h
    obtain ⟨b', bg, bz, q⟩ := h [] 0 false
    exact r_Parse_of hx (o := none) (by rw [pb0_eq]; exact parse_Parse_1_tree _ _ _ _ _ _ _ _ _ _ _ _ _ q)
theorem r_ExprT {s : List UInt8} {L : List Token} (hx : R_lex_Lex s L 0) (hT : TL L) (hw : W L) :
    match exprT L with
    | .ok l _ _ => R_parse_Expr s l 0
    | .er e => e ≠ 0 → R_parse_Expr s [] e
    | .no => False := by
  have h := r_whole hT (List.suffix_refl L) hw (Nat.le_refl _)
  unfold exprT
  cases hc : wholeS (20 * L.length + 10) L with
  | no => rw [hc] at h; exact h.elim
  | er e =>
    rw [hc] at h
    intro he
    obtain ⟨a, x', g', z', q⟩ := h [] 0 false
    exact r_Expr_err hx he (by rw [pb0_eq]; exact parse_Expr_1_tree _ _ _ _ _ _ _ _ _ ⟨some e, a, x', g', z', q, rfl, rfl, rfl, rfl, rfl⟩)
  | ok nodes ts out =>
    rw [hc] at h
    obtain ⟨s1, w1, l1, q⟩ := h
    obtain ⟨g', z', q⟩ := q [] 0 false
    simp only [PR.bind]
    cases ts with
    | nil => exact w1.elim
    | cons t ts =>
      simp only
      by_cases hk : t.Kind = 0
      · rw [if_pos hk]
        exact r_Expr_ok hx (by rw [pb0_eq]; exact parse_Expr_1_tree _ _ _ _ _ _ _ _ _ ⟨none, nodes, _, g', z', q, t, _, r_now s1, fun _ => ⟨rfl, rfl, rfl, rfl, rfl⟩, fun hf => absurd hk hf⟩)
      · rw [if_neg hk]
        intro he
        exact r_Expr_err hx he (by rw [pb0_eq]; exact parse_Expr_1_tree _ _ _ _ _ _ _ _ _ ⟨none, nodes, _, g', z', q, t, _, r_now s1, fun hf => absurd hf hk, fun _ => ⟨_, _, r_fail _ _, rfl, rfl, rfl, rfl, rfl⟩⟩)
end Go.Proofs.YtfbcnpbhhooapaaGreatDoor.M

/- Lex: references on the other side. -/
namespace Go.Proofs.YtfbcnpbhhooapaaGreatDoor.M
set_option linter.unusedSimpArgs false
set_option linter.unusedVariables false
open Go Classical
theorem dotted_split {s : List UInt8} (h : dottedS s = true) : ∃ x y, s = x ++ 46 :: y ∧ nameS x = true ∧ nameS y = true := by
  unfold dottedS at h
  by_cases hm : (46 : UInt8) ∈ s
  · obtain ⟨u, v, rfl, hu⟩ := splitAt_first 46 s hm
    rw [cut_split 46 u v hu] at h
    simp only [Bool.and_eq_true] at h
    exact ⟨u, v, rfl, h.1.2, h.2⟩
  · rw [cut_none 46 s hm] at h
    cases h
theorem ref_split {t : List UInt8} (h : (refS t).2 = true) : ∃ x y v, t = x ++ 46 :: (y ++ 125 :: v) ∧ nameS x = true ∧ nameS y = true ∧ (refS t).1 = x ++ 46 :: y := by
  unfold refS at h ⊢
  by_cases hm : (125 : UInt8) ∈ t
  · obtain ⟨u, v, rfl, hu⟩ := splitAt_first 125 t hm
    rw [cut_split 125 u v hu] at h ⊢
    obtain ⟨x, y, rfl, hx, hy⟩ := dotted_split (by simpa using h)
    exact ⟨x, y, v, by simp, hx, hy, rfl⟩
  · rw [cut_none 125 t hm] at h
    cases h
theorem drop_mid (b : UInt8) (x w : List UInt8) : (x ++ b :: w).drop (x.length + 1) = w := by rw [List.drop_append]; simp
end Go.Proofs.YtfbcnpbhhooapaaGreatDoor.M

/- Lex: signs. -/
namespace Go.Proofs.YtfbcnpbhhooapaaGreatDoor.M
set_option linter.unusedSimpArgs false
set_option linter.unusedVariables false
open Go Classical
def ones : List Int := [123, 125, 91, 93, 40, 41, 61, 44, 46, 43, 45, 42, 47, 37, 60, 62, 33, 63, 58]
def twos : List (List UInt8) := [[61, 61], [33, 61], [60, 61], [62, 61], [38, 38], [124, 124]]
def sign1 (a : UInt8) : List UInt8 := if ((a.toNat : Nat) : Int) ∈ ones then [a] else []
def sign2 (a b : UInt8) : List UInt8 := if [a, b] ∈ twos then [a, b] else sign1 a
/-- The longest sign that stands at the beginning; none: nothing. -/
def signS : List UInt8 → List UInt8
  | [] => []
  | [a] => sign1 a
  | a :: b :: _ => sign2 a b
end Go.Proofs.YtfbcnpbhhooapaaGreatDoor.M

/- Lex: taking; names and signs as tokens; a byte behind parts. -/
namespace Go.Proofs.YtfbcnpbhhooapaaGreatDoor.M
set_option linter.unusedSimpArgs false
set_option linter.unusedVariables false
open Go Classical
/-- What is left, and where: all within bounds. -/
def TI (t : LText) : Prop := t.left.length ≤ 6000 ∧ 0 ≤ t.pos ∧ t.pos + (t.left.length : Nat) ≤ 6000
def takeT (t : LText) (n : Nat) : LText := ⟨t.left.drop n, t.pos + n⟩
theorem TI.take {t : LText} (h : TI t) {n : Nat} (hn : n ≤ t.left.length) : TI (takeT t n) := by
  obtain ⟨h1, h2, h3⟩ := h
  refine ⟨?_, ?_, ?_⟩ <;> simp only [takeT, List.length_drop] <;> omega
theorem r_take {t : LText} (h : TI t) {n : Nat} (hn : n ≤ t.left.length) : R_lex_text_take t n (t.left.take n) (takeT t n) := by
  apply lex_text_take_tree
  obtain ⟨h1, h2, h3⟩ := h
  rw [Int.toNat_natCast]
  refine ⟨by omega, hn, by omega, hn, ⟨by omega, by omega⟩, rfl, ?_⟩
  rw [List.take_of_length_le (by simp)]
  rfl
theorem r_word {t : LText} (h : TI t) (cl : List Int) (hc : cl.length < 1000000) : R_lex_text_word t cl (t.left.takeWhile (inC cl)) (takeT t (spanS cl t.left)) := by
  apply lex_text_word_tree
  have h1 := h.1
  refine ⟨_, r_span t.left cl hc (by omega), _, _, r_take h (spanS_le cl t.left), ?_, rfl⟩
  exact take_while_len _ _
theorem r_name (t : LTokens) (g : Nat) (z : Bool) (h : TI t.text) : R_lex_tokens_name t g z (Token.mk 3 (t.text.left.takeWhile (inC [2, 3])) 0 [] 0) (nameS (t.text.left.takeWhile (inC [2, 3]))) (LTokens.mk (takeT t.text (spanS [2, 3] t.text.left)) t.out) g z := by
  apply lex_tokens_name_tree
  have h1 := h.1
  have h2 := spanS_le [2, 3] t.text.left
  exact ⟨_, _, r_word h [2, 3] (by decide), _, r_lexName _ (by unfold spanS at h2; omega), rfl, rfl, rfl, rfl, rfl⟩
theorem has_ones (a : UInt8) : Lib.contains [123, 125, 91, 93, 40, 41, 61, 44, 46, 43, 45, 42, 47, 37, 60, 62, 33, 63, 58] [a] = decide (((a.toNat : Nat) : Int) ∈ ones) := by
  unfold Lib.contains
  rw [index1]
  refine decide_eq_decide.2 ?_
  have e : a ∈ ([123, 125, 91, 93, 40, 41, 61, 44, 46, 43, 45, 42, 47, 37, 60, 62, 33, 63, 58] : List UInt8) ↔ ((a.toNat : Nat) : Int) ∈ ones := by
    simp only [ones, List.mem_cons, List.not_mem_nil, or_false, ← UInt8.toNat_inj, UInt8.reduceToNat]
    omega
  rw [← e]
  split
  · rename_i h; simp only [h, iff_true]; omega
  · rename_i h; simp only [h, iff_false]; omega
/-- A sign taken. -/
theorem r_sign (t : LTokens) (g : Nat) (z : Bool) (h : TI t.text) (hne : t.text.left ≠ []) : R_lex_tokens_sign t g z (if signS t.text.left = [] then Token.mk 0 [] 0 [] 0 else Token.mk 4 (signS t.text.left) 0 [] 0) (decide (signS t.text.left ≠ [])) (if signS t.text.left = [] then t else LTokens.mk (takeT t.text (signS t.text.left).length) t.out) g z := by
  apply lex_tokens_sign_tree
  obtain ⟨⟨left, pos⟩, out⟩ := t
  have h1 := h.1
  simp only at h1 hne ⊢
  match left, hne, h1, h with
  | [a], hne, h1, h =>
    have hn : ¬ [a] ∈ twos := by unfold twos; simp
    have e0 : (if (([a].length : Nat) : Int) < 2 then (([a].length : Nat) : Int) else 2).toNat = 1 := by simp
    rw [e0]
    simp only [List.take_succ_cons, List.take_zero, List.length_cons, List.length_nil]
    refine ⟨by simp, by omega, _, r_containsS twos [a] (by decide), fun hq => absurd (of_decide_eq_true hq) hn, fun _ => ⟨by omega, _, r_SContains _ [a] (by simp), fun hq => ?_, fun hq => ?_⟩⟩
    · rw [has_ones] at hq
      have hq := of_decide_eq_true hq
      have hs : signS [a] = [a] := by simp [signS, sign1, hq]
      rw [hs]
      exact ⟨_, _, r_take h (n := 1) (by simp), by simp⟩
    · rw [has_ones] at hq
      have hq : ¬ ((a.toNat : Nat) : Int) ∈ ones := fun e => hq (decide_eq_true e)
      have hs : signS [a] = [] := by simp [signS, sign1, hq]
      rw [hs]
      simp
  | a :: b :: u, hne, h1, h =>
    have e0 : (if (((a :: b :: u).length : Nat) : Int) < 2 then (((a :: b :: u).length : Nat) : Int) else 2) = 2 := by
      rw [if_neg]; simp only [List.length_cons]; omega
    have e00 : (2 : Int).toNat = 2 := rfl
    rw [e0, e00]
    simp only [List.take_succ_cons, List.take_zero, List.length_cons, List.length_nil]
    refine ⟨by simp, by omega, _, r_containsS twos [a, b] (by decide), fun hq => ?_, fun hn => ⟨by omega, _, r_SContains _ [a] (by simp), fun hq => ?_, fun hq => ?_⟩⟩
    · have hq := of_decide_eq_true hq
      have hs : signS (a :: b :: u) = [a, b] := by simp [signS, sign2, hq]
      rw [hs]
      exact ⟨_, _, r_take h (n := 2) (by simp), by simp⟩
    · have hn : ¬ [a, b] ∈ twos := fun e => hn (decide_eq_true e)
      rw [has_ones] at hq
      have hq := of_decide_eq_true hq
      have hs : signS (a :: b :: u) = [a] := by simp [signS, sign2, sign1, hn, hq]
      rw [hs]
      exact ⟨_, _, r_take h (n := 1) (by simp), by simp⟩
    · have hn : ¬ [a, b] ∈ twos := fun e => hn (decide_eq_true e)
      rw [has_ones] at hq
      have hq : ¬ ((a.toNat : Nat) : Int) ∈ ones := fun e => hq (decide_eq_true e)
      have hs : signS (a :: b :: u) = [] := by simp [signS, sign2, sign1, hn, hq]
      rw [hs]
      simp
end Go.Proofs.YtfbcnpbhhooapaaGreatDoor.M

/- Lex: quoted texts: what they are (Qx), and that lex.quoted takes them so. -/
namespace Go.Proofs.YtfbcnpbhhooapaaGreatDoor.M
set_option linter.unusedSimpArgs false
set_option linter.unusedVariables false
open Go Classical
def escS (x : UInt8) : Option UInt8 := if x = 34 ∨ x = 92 ∨ x = 36 then some x else if x = 110 then some 10 else none
theorem r_IndexByte (s : List UInt8) (c : UInt8) : R_strings_IndexByte s c (Lib.indexByte s c) := fun S => call_ext sp_strings_IndexByte S (by simp [indexX])
theorem r_escaped (y x : UInt8) (u : List UInt8) : R_lex_escaped (y :: x :: u) ((escS x).getD 0) (escS x).isSome := by
  apply lex_escaped_tree
  refine ⟨fun h => absurd h (by simp; omega), fun _ => ⟨x, rfl, _, r_IndexByte _ x, ?_⟩⟩
  unfold escS
  by_cases h1 : x = 34
  · subst h1
    exact ⟨fun h => absurd h (by decide), fun _ => ⟨by decide, 34, rfl, rfl, rfl⟩⟩
  · by_cases h2 : x = 92
    · subst h2
      exact ⟨fun h => absurd h (by decide), fun _ => ⟨by decide, 92, rfl, rfl, rfl⟩⟩
    · by_cases h3 : x = 36
      · subst h3
        exact ⟨fun h => absurd h (by decide), fun _ => ⟨by decide, 36, rfl, rfl, rfl⟩⟩
      · by_cases h4 : x = 110
        · subst h4
          exact ⟨fun h => absurd h (by decide), fun _ => ⟨by decide, 10, rfl, rfl, rfl⟩⟩
        · have e : Lib.indexByte [34, 92, 36, 110] x = -1 := by
            have := Lib.indexByte_ge [34, 92, 36, 110] x
            simp [Lib.indexByte, Ne.symm h1, Ne.symm h2, Ne.symm h3, Ne.symm h4]
          rw [e]
          simp [h1, h2, h3, h4]
/-- Parts, and a text that grows behind them. -/
def joinP (l : List Part) (b : List UInt8) : List Part := l ++ (if b = [] then [] else [Part.mk false b])
def okP (l : List Part) : Prop := l = [] ∨ ∃ l0 q, l = l0 ++ [Part.mk true q]
theorem set_last {α : Type} (l : List α) (x y : α) : (l ++ [x]).set l.length y = l ++ [y] := by simp
theorem r_plain (l : List Part) (b : List UInt8) (c : UInt8) (g : Nat) (hl : okP l) (h1 : l.length ≤ 10000) (h2 : b.length ≤ 10000) : R_lex_parts_plain (joinP l b) g false c (joinP l (b ++ [c])) g false := by
  apply lex_parts_plain_tree
  have hb : b ++ [c] ≠ [] := by simp
  by_cases e : b = []
  · subst e
    have e1 : joinP l [] = l := by simp [joinP]
    have e2 : joinP l ([] ++ [c]) = l ++ [Part.mk false [c]] := by simp [joinP]
    have e3 : (((l.length : Nat) : Int) + 1 - 1).toNat = l.length := by omega
    have big : bigRow (l.length + 1) 24 := ⟨by omega, by omega, by decide⟩
    rw [e1, e2, e3]
    refine ⟨fun h => ⟨big, ⟨by omega, by omega⟩, ⟨by omega, by omega⟩, by omega, by omega, Part.mk false [], by simp, by simp [maxInt], by omega, by omega, rfl, ?_, rfl, rfl⟩, fun h => ?_⟩
    · rw [set_last]; rfl
    · rcases hl with rfl | ⟨l0, q, rfl⟩
      · exact absurd rfl h
      · have e4 : ((((l0 ++ [Part.mk true q]).length : Nat) : Int) - 1).toNat = l0.length := by simp
        have hlen : (l0 ++ [Part.mk true q]).length = l0.length + 1 := by simp
        rw [e4]
        refine ⟨⟨by omega, by omega⟩, by omega, by omega, Part.mk true q, by simp, fun _ => ⟨big, ⟨by omega, by omega⟩, ⟨by omega, by omega⟩, by omega, by omega, Part.mk false [], by simp, by simp [maxInt], by omega, by omega, rfl, ?_, rfl, rfl⟩, fun h => absurd rfl h⟩
        rw [set_last]; rfl
  · have e1 : joinP l b = l ++ [Part.mk false b] := by simp [joinP, e]
    have e2 : joinP l (b ++ [c]) = l ++ [Part.mk false (b ++ [c])] := by simp [joinP]
    have hlen : (l ++ [Part.mk false b]).length = l.length + 1 := by simp
    have e3 : ((((l ++ [Part.mk false b]).length : Nat) : Int) - 1).toNat = l.length := by omega
    rw [e1, e2]
    refine ⟨fun h => by omega, fun h => ?_⟩
    rw [e3]
    refine ⟨⟨by omega, by omega⟩, by omega, by omega, Part.mk false b, by simp, fun h => by simp at h, fun _ => ⟨⟨by omega, by omega⟩, by omega, by omega, by simp only [maxInt]; omega, by omega, by omega, rfl, ?_, rfl, rfl⟩⟩
    rw [set_last]
/-- A quoted text, behind its first sign: parts so far (l, and b behind them); what comes of it: none, or the parts and how long it is. -/
inductive Qx : List UInt8 → List Part → List UInt8 → Option (List Part × Nat) → Prop
  | nil (l b) : Qx [] l b none
  | shut (t l b) : Qx (34 :: t) l b (some (joinP l b, 1))
  | low (c t l b) (h1 : c ≠ 34) (h2 : c.toNat < 32) : Qx (c :: t) l b none
  | esc (x y t l b r) (h1 : escS x = some y) (h : Qx t l (b ++ [y]) r) : Qx (92 :: x :: t) l b (r.map fun q => (q.1, q.2 + 2))
  | esc0 (l b) : Qx [92] l b none
  | escbad (x t l b) (h1 : escS x = none) : Qx (92 :: x :: t) l b none
  | ref (t l b r) (h1 : (refS t).2 = true) (h : Qx (t.drop ((refS t).1.length + 1)) (joinP l b ++ [Part.mk true (refS t).1]) [] r) : Qx (36 :: 123 :: t) l b (r.map fun q => (q.1, q.2 + (3 + (refS t).1.length)))
  | refbad (t l b) (h1 : (refS t).2 = false) : Qx (36 :: 123 :: t) l b none
  | plain (c t l b r) (h1 : c ≠ 34) (h2 : ¬ c.toNat < 32) (h3 : c ≠ 92) (h4 : c = 36 → t.head? ≠ some 123) (h : Qx t l (b ++ [c]) r) : Qx (c :: t) l b (r.map fun q => (q.1, q.2 + 1))
theorem refS_len {t : List UInt8} (h : (refS t).2 = true) : (refS t).1.length + 1 ≤ t.length := by
  obtain ⟨x, y, v, e, _, _, e2⟩ := ref_split h
  rw [e2, e]
  simp
  omega
end Go.Proofs.YtfbcnpbhhooapaaGreatDoor.M

/- Lex: lex.quoted takes what Qx tells. -/
namespace Go.Proofs.YtfbcnpbhhooapaaGreatDoor.M
set_option linter.unusedSimpArgs false
set_option linter.unusedVariables false
open Go Classical
theorem cls4 (c : UInt8) : clsS c = 4 ↔ c = 34 := by
  have e : c = 34 ↔ c.toNat = 34 := by rw [← UInt8.toNat_inj]; rfl
  rw [e]
  unfold clsS
  repeat' split
  all_goals (first | omega | (constructor <;> intro h <;> first | omega | exact absurd h (by decide)))
theorem takeT_takeT (t : LText) (a b : Nat) : takeT (takeT t a) b = takeT t (a + b) := by
  unfold takeT
  simp only [LText.mk.injEq, List.drop_drop]
  exact ⟨trivial, by omega⟩
theorem head_left {t : LText} {c : UInt8} {u : List UInt8} (h : t.left = c :: u) : ¬ t.left = [] ∧ t.left[0]? = some c := by rw [h]; simp
def QOut (gp : Nat) (lt : LTokens) (g : Nat) (z : Bool) (l : List Part) (b : List UInt8) : Option (List Part × Nat) → Prop
  | none => ∃ t' : LTokens, t'.out = lt.out ∧ At_lex_tokens_quoted_1 0 [] 0 0 [] 0 (joinP l b) gp false lt g z (Token.mk 0 [] 0 [] 0) false t' g z
  | some (ps, n) => n ≤ lt.text.left.length ∧ At_lex_tokens_quoted_1 0 [] 0 0 [] 0 (joinP l b) gp false lt g z (Token.mk 2 [] 0 ps 0) true (LTokens.mk (takeT lt.text n) lt.out) g z
theorem joinP_len (l : List Part) (b : List UInt8) : (joinP l b).length ≤ l.length + 1 := by
  unfold joinP
  split <;> simp
theorem joinP_ref (l : List Part) (q : List UInt8) : joinP (l ++ [Part.mk true q]) [] = l ++ [Part.mk true q] := by simp [joinP]
/-- A step that goes on: what comes behind m bytes comes of the whole. -/
theorem QOut.next {gp : Nat} {lt : LTokens} {g : Nat} {z : Bool} {l : List Part} {b : List UInt8} {l2 : List Part} {b2 : List UInt8} {m : Nat} (hm : m ≤ lt.text.left.length)
    (step : ∀ ra rb t' , At_lex_tokens_quoted_1 0 [] 0 0 [] 0 (joinP l2 b2) gp false (LTokens.mk (takeT lt.text m) lt.out) g z ra rb t' g z → At_lex_tokens_quoted_1 0 [] 0 0 [] 0 (joinP l b) gp false lt g z ra rb t' g z) {r : Option (List Part × Nat)}
    (h : QOut gp (LTokens.mk (takeT lt.text m) lt.out) g z l2 b2 r) : QOut gp lt g z l b (r.map fun q => (q.1, q.2 + m)) := by
  cases r with
  | none => obtain ⟨t', ho, h⟩ := h; exact ⟨t', ho, step _ _ _ h⟩
  | some q =>
    obtain ⟨ps, n⟩ := q
    obtain ⟨h1, h2⟩ := h
    simp only [takeT, List.length_drop] at h1
    refine ⟨by omega, ?_⟩
    have := step _ _ _ h2
    simp only [takeT_takeT] at this
    rw [Nat.add_comm] at this
    exact this
theorem r_quoted_loop {t : List UInt8} {l : List Part} {b : List UInt8} {r : Option (List Part × Nat)} (h : Qx t l b r) : ∀ (gp : Nat) (lt : LTokens) (g : Nat) (z : Bool), lt.text.left = t → TI lt.text → okP l → l.length + t.length ≤ 7000 → b.length + t.length ≤ 7000 → QOut gp lt g z l b r := by
  induction h with
  | nil l b =>
    intro gp lt g z e hT hl h1 h2
    refine ⟨lt, rfl, ?_⟩
    apply At_lex_tokens_quoted_1_step
    exact ⟨fun _ => ⟨rfl, rfl, rfl, rfl, rfl⟩, fun h => absurd e h⟩
  | shut t l b =>
    intro gp lt g z e hT hl h1 h2
    obtain ⟨e1, e2⟩ := head_left e
    have hlen : 1 ≤ lt.text.left.length := by rw [e]; simp
    refine ⟨hlen, ?_⟩
    apply At_lex_tokens_quoted_1_step
    exact ⟨fun h => absurd h e1, fun _ => ⟨34, e2, _, r_class 34, fun _ => ⟨_, _, r_take hT hlen, rfl, rfl, rfl, rfl, rfl⟩, fun h => absurd ((cls4 34).2 rfl) h⟩⟩
  | low c t l b c1 c2 =>
    intro gp lt g z e hT hl h1 h2
    obtain ⟨e1, e2⟩ := head_left e
    refine ⟨lt, rfl, ?_⟩
    apply At_lex_tokens_quoted_1_step
    exact ⟨fun h => absurd h e1, fun _ => ⟨c, e2, _, r_class c, fun h => absurd ((cls4 c).1 h) c1, fun _ => ⟨fun _ => ⟨rfl, rfl, rfl, rfl, rfl⟩, fun h => absurd (by omega) h⟩⟩⟩
  | esc x y t l b r hx _ ih =>
    intro gp lt g z e hT hl h1 h2
    obtain ⟨e1, e2⟩ := head_left e
    simp only [List.length_cons] at h1 h2
    have hlen : 2 ≤ lt.text.left.length := by rw [e]; simp
    refine QOut.next (m := 2) hlen (fun ra rb t' hA => ?_) (ih gp _ g z (by simp only [takeT, e]; rfl) (hT.take hlen) hl (by omega) (by simp; omega))
    apply At_lex_tokens_quoted_1_step
    refine ⟨fun h => absurd h e1, fun _ => ⟨92, e2, _, r_class 92, fun h => absurd ((cls4 92).1 h) (by decide), fun _ => ⟨fun h => absurd h (by decide), fun _ => ⟨fun _ => ?_, fun h => absurd (by decide) h⟩⟩⟩⟩
    rw [e]
    refine ⟨_, _, r_escaped 92 x t, fun _ => ⟨_, _, _, ?_, _, _, r_take hT hlen, hA⟩, fun h => absurd (by rw [hx]; rfl) h⟩
    rw [hx]
    exact r_plain l b y gp hl (by omega) (by omega)
  | esc0 l b =>
    intro gp lt g z e hT hl h1 h2
    obtain ⟨e1, e2⟩ := head_left e
    refine ⟨lt, rfl, ?_⟩
    apply At_lex_tokens_quoted_1_step
    refine ⟨fun h => absurd h e1, fun _ => ⟨92, e2, _, r_class 92, fun h => absurd ((cls4 92).1 h) (by decide), fun _ => ⟨fun h => absurd h (by decide), fun _ => ⟨fun _ => ?_, fun h => absurd (by decide) h⟩⟩⟩⟩
    rw [e]
    refine ⟨0, false, ?_, fun h => (by cases h), fun _ => ⟨rfl, rfl, rfl, rfl, rfl⟩⟩
    apply lex_escaped_tree
    exact ⟨fun _ => ⟨rfl, rfl⟩, fun h => absurd (by decide) h⟩
  | escbad x t l b hx =>
    intro gp lt g z e hT hl h1 h2
    obtain ⟨e1, e2⟩ := head_left e
    refine ⟨lt, rfl, ?_⟩
    apply At_lex_tokens_quoted_1_step
    refine ⟨fun h => absurd h e1, fun _ => ⟨92, e2, _, r_class 92, fun h => absurd ((cls4 92).1 h) (by decide), fun _ => ⟨fun h => absurd h (by decide), fun _ => ⟨fun _ => ?_, fun h => absurd (by decide) h⟩⟩⟩⟩
    rw [e]
    exact ⟨_, _, r_escaped 92 x t, fun h => (by rw [hx] at h; cases h), fun _ => ⟨rfl, rfl, rfl, rfl, rfl⟩⟩
  | ref t l b r hr _ ih =>
    intro gp lt g z e hT hl h1 h2
    obtain ⟨e1, e2⟩ := head_left e
    simp only [List.length_cons] at h1 h2
    have hrl := refS_len hr
    have hj := joinP_len l b
    have hlen : 3 + (refS t).1.length ≤ lt.text.left.length := by rw [e]; simp only [List.length_cons]; omega
    have hT1 := hT.1
    refine QOut.next (m := 3 + (refS t).1.length) hlen (fun ra rb t' hA => ?_) (ih gp _ g z ?_ (hT.take hlen) (.inr ⟨_, _, rfl⟩) ?_ ?_)
    · apply At_lex_tokens_quoted_1_step
      have hR : R_lex_reference lt.text.left (refS t).1 (refS t).2 := by
        have := r_reference lt.text.left (by omega) (by omega)
        rw [e] at this ⊢
        exact this
      have hTake : R_lex_text_take lt.text (3 + (((refS t).1.length : Nat) : Int)) (lt.text.left.take (3 + (refS t).1.length)) (takeT lt.text (3 + (refS t).1.length)) := by
        have := r_take hT hlen
        rw [Int.natCast_add] at this
        exact this
      rw [joinP_ref] at hA
      exact ⟨fun h => absurd h e1, fun _ => ⟨36, e2, _, r_class 36, fun h => absurd ((cls4 36).1 h) (by decide), fun _ => ⟨fun h => absurd h (by decide), fun _ => ⟨fun h => absurd h (by decide), fun _ => ⟨_, r_HasPrefix _ _, fun _ => ⟨_, _, hR, fun _ => ⟨⟨by omega, by omega, by decide⟩, ⟨by omega, by omega⟩, _, _, hTake, hA⟩, fun h => absurd hr h⟩, fun h => absurd (by rw [e]; simp [Lib.hasPrefix]) h⟩⟩⟩⟩⟩
    · simp only [takeT, e]
      rw [show 3 + (refS t).1.length = ((refS t).1.length + 1) + 1 + 1 by omega]
      rfl
    · simp; omega
    · simp; omega
  | refbad t l b hr =>
    intro gp lt g z e hT hl h1 h2
    obtain ⟨e1, e2⟩ := head_left e
    have hT1 := hT.1
    refine ⟨lt, rfl, ?_⟩
    apply At_lex_tokens_quoted_1_step
    have hR : R_lex_reference lt.text.left (refS t).1 (refS t).2 := by
      have := r_reference lt.text.left (by rw [e]; simp) (by omega)
      rw [e] at this ⊢
      exact this
    exact ⟨fun h => absurd h e1, fun _ => ⟨36, e2, _, r_class 36, fun h => absurd ((cls4 36).1 h) (by decide), fun _ => ⟨fun h => absurd h (by decide), fun _ => ⟨fun h => absurd h (by decide), fun _ => ⟨_, r_HasPrefix _ _, fun _ => ⟨_, _, hR, fun h => (by rw [hr] at h; cases h), fun _ => ⟨rfl, rfl, rfl, rfl, rfl⟩⟩, fun h => absurd (by rw [e]; simp [Lib.hasPrefix]) h⟩⟩⟩⟩⟩
  | plain c t l b r c1 c2 c3 c4 _ ih =>
    intro gp lt g z e hT hl h1 h2
    obtain ⟨e1, e2⟩ := head_left e
    simp only [List.length_cons] at h1 h2
    have hlen : 1 ≤ lt.text.left.length := by rw [e]; simp
    have hp : ¬ Lib.hasPrefix lt.text.left [36, 123] = true := by
      rw [e]
      unfold Lib.hasPrefix
      intro h
      cases t with
      | nil => simp at h
      | cons x t =>
        simp at h
        exact c4 h.1.symm (by rw [← h.2]; rfl)
    have hc3 : ¬ ((c.toNat : Nat) : Int) = 92 := fun h => c3 (by apply UInt8.toNat_inj.1; exact Int.ofNat.inj h)
    refine QOut.next (m := 1) hlen (fun ra rb t' hA => ?_) (ih gp _ g z (by simp only [takeT, e]; rfl) (hT.take hlen) hl (by omega) (by simp; omega))
    apply At_lex_tokens_quoted_1_step
    exact ⟨fun h => absurd h e1, fun _ => ⟨c, e2, _, r_class c, fun h => absurd ((cls4 c).1 h) c1, fun _ => ⟨fun h => absurd h (by omega), fun _ => ⟨fun h => absurd h hc3, fun _ => ⟨_, r_HasPrefix _ _, fun h => absurd h hp, fun _ => ⟨_, _, _, r_plain l b c gp hl (by omega) (by omega), _, _, r_take hT hlen, hA⟩⟩⟩⟩⟩⟩
end Go.Proofs.YtfbcnpbhhooapaaGreatDoor.M

/- Digits: the library of Go, and the document. -/
namespace Go.Proofs.YtfbcnpbhhooapaaGreatDoor.M
set_option linter.unusedSimpArgs false
set_option linter.unusedVariables false
open Go Classical
theorem r_Itoa (n : Int) (h : I64 n) : R_strconv_Itoa n (Lib.itoa n) := fun S => call_ext sp_strconv_Itoa S (if_pos h)
end Go.Proofs.YtfbcnpbhhooapaaGreatDoor.M

/- Lex: numbers, on both sides. -/
namespace Go.Proofs.YtfbcnpbhhooapaaGreatDoor.M
set_option linter.unusedSimpArgs false
set_option linter.unusedVariables false
open Go Classical
def Dg (l : List UInt8) : Prop := ∀ c ∈ l, 48 ≤ c.toNat ∧ c.toNat ≤ 57
theorem inC3 (c : UInt8) : inC [3] c = true ↔ 48 ≤ c.toNat ∧ c.toNat ≤ 57 := by
  unfold inC clsS
  simp only [List.mem_singleton, decide_eq_true_eq]
  repeat' split
  all_goals (first | omega | (constructor <;> intro h <;> first | omega | exact absurd h (by decide)))
theorem Dg_take (t : List UInt8) : Dg (t.takeWhile (inC [3])) := fun c hc => (inC3 c).1 (List.all_eq_true.1 List.all_takeWhile c hc)
/-- The number that digits spell, behind a number. -/
def digV (acc : Nat) (l : List UInt8) : Nat := l.foldl (fun a c => a * 10 + (c.toNat - 48)) acc
theorem digV_cons (acc : Nat) (c : UInt8) (r : List UInt8) : digV acc (c :: r) = digV (acc * 10 + (c.toNat - 48)) r := by
  unfold digV
  rw [List.foldl_cons]
theorem digV_nil (acc : Nat) : digV acc [] = acc := by
  unfold digV
  rw [List.foldl_nil]
theorem digV_ge : ∀ (l : List UInt8) (acc : Nat), acc ≤ digV acc l
  | [], acc => by rw [digV_nil]; exact Nat.le_refl _
  | c :: r, acc => by
    rw [digV_cons]
    have := digV_ge r (acc * 10 + (c.toNat - 48))
    omega
theorem parse_num (l : List UInt8) : ∀ (acc : Nat), Dg l → acc < 18446744073709551616 → Lib.parseUint10 acc l = if digV acc l < 18446744073709551616 then .ok (digV acc l) else .range := by
  induction l with
  | nil => intro acc _ h; rw [digV_nil, if_pos h, Lib.parseUint10]
  | cons c r ih =>
    intro acc hd h
    have hc := hd c (by simp)
    have hge := digV_ge r (acc * 10 + (c.toNat - 48))
    rw [digV_cons]
    unfold Lib.parseUint10
    rw [if_pos hc]
    by_cases h1 : 1844674407370955162 ≤ acc
    · rw [if_pos h1, if_neg (by omega)]
    · rw [if_neg h1]
      by_cases h2 : 18446744073709551616 ≤ acc * 10 + (c.toNat - 48)
      · rw [if_pos h2, if_neg (by omega)]
      · rw [if_neg h2]
        exact ih _ (fun x hx => hd x (by simp [hx])) (by omega)
theorem atoi_num {l : List UInt8} (hd : Dg l) (hne : l ≠ []) : Lib.atoiAll l = if digV 0 l < 9223372036854775808 then .ok (digV 0 l : Int) else .range := by
  cases l with
  | nil => exact absurd rfl hne
  | cons c r =>
    have hc := hd c (by simp)
    rw [Lib.atoiAll_plain c r (by omega) (by omega), Lib.parseMag, if_neg (by simp), parse_num _ 0 hd (by omega)]
    by_cases h : digV 0 (c :: r) < 18446744073709551616
    · rw [if_pos h]
      by_cases h2 : digV 0 (c :: r) < 9223372036854775808
      · simp only [Lib.signless, if_pos h2, if_neg (show ¬ 9223372036854775808 ≤ digV 0 (c :: r) by omega)]
      · simp only [Lib.signless, if_neg h2, if_pos (show 9223372036854775808 ≤ digV 0 (c :: r) by omega)]
    · rw [if_neg h, if_neg (show ¬ digV 0 (c :: r) < 9223372036854775808 by omega)]
      rfl
theorem dec_step {a d : Nat} (ha : 0 < a) (hd : d < 10) : Lib.decDigits (a * 10 + d) = Lib.decDigits a ++ [UInt8.ofNat (48 + d)] := by
  rw [Lib.decDigits, dif_neg (by omega), show (a * 10 + d) / 10 = a by omega, show (a * 10 + d) % 10 = d by omega]
theorem dec_num : ∀ (l : List UInt8) (acc : Nat), 0 < acc → Dg l → Lib.decDigits (digV acc l) = Lib.decDigits acc ++ l
  | [], acc, _, _ => by rw [digV_nil, List.append_nil]
  | c :: r, acc, h, hd => by
    have hc := hd c (by simp)
    rw [digV_cons, dec_num r _ (by omega) (fun x hx => hd x (by simp [hx])), dec_step h (by omega)]
    have : UInt8.ofNat (48 + (c.toNat - 48)) = c := by
      rw [show 48 + (c.toNat - 48) = c.toNat by omega]; simp
    rw [this]
    simp
theorem dec_first {c : UInt8} {r : List UInt8} (hd : Dg (c :: r)) (h : c.toNat ≠ 48) : Lib.decDigits (digV 0 (c :: r)) = c :: r := by
  have hc := hd c (by simp)
  rw [digV_cons, dec_num r _ (by omega) (fun x hx => hd x (by simp [hx])), Nat.zero_mul, Nat.zero_add, Lib.decDigits_one (by omega)]
  have : UInt8.ofNat (48 + (c.toNat - 48)) = c := by
    rw [show 48 + (c.toNat - 48) = c.toNat by omega]; simp
  rw [this]
  rfl
theorem dec_len : ∀ (r : List UInt8), Dg r → r ≠ [] → (Lib.decDigits (digV 0 r)).length ≤ r.length
  | [], _, h => absurd rfl h
  | c :: r, hd, _ => by
    by_cases h : c.toNat = 48
    · rw [digV_cons, h]
      cases r with
      | nil => simp [digV_nil, Lib.decDigits_one (show 0 < 10 by omega)]
      | cons b r =>
        have := dec_len (b :: r) (fun x hx => hd x (by simp at hx ⊢; exact .inr hx)) (by simp)
        simp only [Nat.zero_mul, Nat.sub_self, Nat.add_zero, List.length_cons] at this ⊢
        omega
    · rw [dec_first hd h]
      exact Nat.le_refl _
/-- Digits are a number: within 64 bits, and no nought ahead. -/
def numOk (d : List UInt8) : Prop := digV 0 d < 9223372036854775808 ∧ (d.head? = some 48 → d.length = 1)
instance (d : List UInt8) : Decidable (numOk d) := by unfold numOk; infer_instance
theorem itoa_num {d : List UInt8} (hd : Dg d) (hne : d ≠ []) : Lib.itoa ((digV 0 d : Nat) : Int) = d ↔ (d.head? = some 48 → d.length = 1) := by
  have e : Lib.itoa ((digV 0 d : Nat) : Int) = Lib.decDigits (digV 0 d) := by
    unfold Lib.itoa
    rw [if_neg (by omega)]
    rfl
  rw [e]
  cases d with
  | nil => exact absurd rfl hne
  | cons c r =>
    by_cases h : c.toNat = 48
    · have hc : c = 48 := UInt8.toNat_inj.1 h
      subst hc
      simp only [List.head?_cons, List.length_cons, forall_const]
      cases r with
      | nil =>
        have h0 : digV 0 [48] = 0 := by rw [digV_cons, digV_nil]; rfl
        rw [h0, Lib.decDigits_one (show 0 < 10 by omega)]
        simp
      | cons b r =>
        have := dec_len (b :: r) (fun x hx => hd x (by simp at hx ⊢; exact .inr hx)) (by simp)
        constructor
        · intro h2
          have h3 : digV 0 (48 :: b :: r) = digV 0 (b :: r) := by rw [digV_cons]; rfl
          rw [← h3, h2] at this
          simp at this
          omega
        · intro h2
          simp at h2
    · rw [dec_first hd h]
      simp only [List.head?_cons, Option.some.injEq, true_iff]
      intro e
      exact absurd (by rw [e]; rfl) h
def numS (t : List UInt8) : Option (Token × Nat) := if numOk (t.takeWhile (inC [3])) then some (Token.mk 1 [] (digV 0 (t.takeWhile (inC [3])) : Nat) [] 0, (t.takeWhile (inC [3])).length) else none
theorem r_Atoi {l : List UInt8} (hd : Dg l) (hne : l ≠ []) (hl : l.length ≤ 1000000) : ∃ v : Int, R_strconv_Atoi l v (decide (¬ digV 0 l < 9223372036854775808)) ∧ (digV 0 l < 9223372036854775808 → v = (digV 0 l : Nat)) := by
  have ha := atoi_num hd hne
  by_cases h : digV 0 l < 9223372036854775808
  · rw [if_pos h] at ha
    exact ⟨_, fun S => call_ext sp_strconv_Atoi S (by simp only [atoiX, ha]; rw [if_pos (by omega)]; simp [h]), fun _ => rfl⟩
  · rw [if_neg h] at ha
    exact ⟨Lib.atoiSat l, fun S => call_ext sp_strconv_Atoi S (by simp only [atoiX, ha]; rw [if_pos (by omega)]; simp [h]), fun e => absurd e h⟩
/-- lex.number: what numS tells. -/
theorem r_number (t : LTokens) (g : Nat) (z : Bool) (h : TI t.text) (hne : t.text.left.takeWhile (inC [3]) ≠ []) : match numS t.text.left with
    | none => ∃ (x : Token) (t' : LTokens), t'.out = t.out ∧ R_lex_tokens_number t g z x false t' g z
    | some (x, n) => R_lex_tokens_number t g z x true (LTokens.mk (takeT t.text n) t.out) g z := by
  have h1 := h.1
  have hd := Dg_take t.text.left
  have hw := r_word h [3] (by decide)
  have hl := spanS_le [3] t.text.left
  unfold spanS at hw hl
  unfold numS
  generalize t.text.left.takeWhile (inC [3]) = d at *
  obtain ⟨v, ha, hv⟩ := r_Atoi hd hne (by omega)
  by_cases hb : digV 0 d < 9223372036854775808
  · obtain rfl := hv hb
    have hi := itoa_num hd hne
    by_cases h0 : d.head? = some 48 → d.length = 1
    · rw [if_pos ⟨hb, h0⟩]
      apply lex_tokens_number_tree
      refine ⟨_, _, hw, _, _, ha, fun e => ?_, fun _ => ⟨_, r_Itoa _ ⟨by omega, by omega⟩, rfl, ?_, rfl, rfl, rfl⟩⟩
      · simp [hb] at e
      · exact decide_eq_true (hi.2 h0)
    · rw [if_neg (fun e => h0 e.2)]
      refine ⟨_, LTokens.mk (takeT t.text d.length) t.out, rfl, lex_tokens_number_tree _ _ _ _ _ _ _ _ ⟨_, _, hw, _, _, ha, fun e => ?_, fun _ => ⟨_, r_Itoa _ ⟨by omega, by omega⟩, rfl, ?_, rfl, rfl, rfl⟩⟩⟩
      · simp [hb] at e
      · exact decide_eq_false (fun e => h0 (hi.1 e))
  · rw [if_neg (fun e => hb e.1)]
    exact ⟨_, LTokens.mk (takeT t.text d.length) t.out, rfl, lex_tokens_number_tree _ _ _ _ _ _ _ _ ⟨_, _, hw, _, _, ha, fun _ => ⟨rfl, rfl, rfl, rfl, rfl⟩, fun e => absurd (decide_eq_true hb) e⟩⟩
/-! ### The other side -/
def atT (x : Token) (i : Int) : Token := ⟨x.Kind, x.Text, x.Num, x.Parts, i⟩
end Go.Proofs.YtfbcnpbhhooapaaGreatDoor.M

/- Lex: quoted texts: the whole of lex.quoted; and ref1.text follows Qx. -/
namespace Go.Proofs.YtfbcnpbhhooapaaGreatDoor.M
set_option linter.unusedSimpArgs false
set_option linter.unusedVariables false
open Go Classical
/-- lex.quoted: what Qx tells, behind the first sign. -/
theorem r_quoted (t : LTokens) (g : Nat) (z : Bool) (h : TI t.text) {u : List UInt8} (e : t.text.left = 34 :: u) {r : Option (List Part × Nat)} (hq : Qx u [] [] r) : match r with
    | none => ∃ t' : LTokens, t'.out = t.out ∧ R_lex_tokens_quoted t g z (Token.mk 0 [] 0 [] 0) false t' g z
    | some (ps, n) => n + 1 ≤ t.text.left.length ∧ R_lex_tokens_quoted t g z (Token.mk 2 [] 0 ps 0) true (LTokens.mk (takeT t.text (n + 1)) t.out) g z := by
  have hlen : 1 ≤ t.text.left.length := by rw [e]; simp
  have h1 := h.1
  have hu : u.length ≤ 6000 := by rw [e] at h1; simp at h1; omega
  have hl : (takeT t.text 1).left = u := by simp only [takeT, e]; rfl
  have key := r_quoted_loop hq 0 (LTokens.mk (takeT t.text 1) t.out) g z hl (h.take hlen) (.inl rfl) (by simp; omega) (by simp; omega)
  cases r with
  | none =>
    obtain ⟨t', ho, hA⟩ := key
    exact ⟨t', ho, lex_tokens_quoted_tree _ _ _ _ _ _ _ _ ⟨_, _, r_take h hlen, hA⟩⟩
  | some q =>
    obtain ⟨ps, n⟩ := q
    obtain ⟨hn, hA⟩ := key
    simp only [takeT_takeT] at hA
    simp only at hn
    rw [hl] at hn
    refine ⟨by rw [e]; simp; omega, lex_tokens_quoted_tree _ _ _ _ _ _ _ _ ⟨_, _, r_take h hlen, ?_⟩⟩
    rw [Nat.add_comm n 1]
    exact hA
/-! ### The other side -/
def TOut (s : List UInt8) (i k : Nat) (l : List Part) (b : List UInt8) : Option (List Part × Nat) → Prop
  | none => At_ref1_text_1 s i k 0 [] 0 0 [] 0 l b (Token.mk 0 [] 0 [] 0) 0
  | some (ps, n) => At_ref1_text_1 s i k 0 [] 0 0 [] 0 l b (Token.mk 2 [] 0 ps i) ((k : Int) + n - i)
theorem TOut.next {s : List UInt8} {i k : Nat} {l l2 : List Part} {b b2 : List UInt8} {m : Nat} (step : ∀ ra rb, At_ref1_text_1 s i ((k + m : Nat) : Int) 0 [] 0 0 [] 0 l2 b2 ra rb → At_ref1_text_1 s i k 0 [] 0 0 [] 0 l b ra rb) {r : Option (List Part × Nat)} (h : TOut s i (k + m) l2 b2 r) : TOut s i k l b (r.map fun q => (q.1, q.2 + m)) := by
  cases r with
  | none => exact step _ _ h
  | some q =>
    obtain ⟨ps, n⟩ := q
    have := step _ _ h
    simp only [TOut, Option.map_some]
    rw [show (k : Int) + ((n + m : Nat) : Int) - (i : Int) = ((k + m : Nat) : Int) + (n : Int) - (i : Int) by omega]
    exact this
end Go.Proofs.YtfbcnpbhhooapaaGreatDoor.M

/- Lex: a token, on both sides. -/
namespace Go.Proofs.YtfbcnpbhhooapaaGreatDoor.M
set_option linter.unusedSimpArgs false
set_option linter.unusedVariables false
open Go Classical
theorem cls5 (c : UInt8) : clsS c = 5 ↔ c = 35 := by
  have e : c = 35 ↔ c.toNat = 35 := by rw [← UInt8.toNat_inj]; rfl
  rw [e]
  unfold clsS
  repeat' split
  all_goals (first | omega | (constructor <;> intro h <;> first | omega | exact absurd h (by decide)))
/-- A token that stands at the beginning, and how long it is; none: none may stand there. -/
inductive Tok : List UInt8 → Option (Token × Nat) → Prop
  | name (c : UInt8) (u : List UInt8) (h : clsS c = 2) : Tok (c :: u) (if ((c :: u).takeWhile (inC [2, 3])).length ≤ 24 then some (Token.mk 3 ((c :: u).takeWhile (inC [2, 3])) 0 [] 0, spanS [2, 3] (c :: u)) else none)
  | num (c : UInt8) (u : List UInt8) (h : clsS c = 3) : Tok (c :: u) (numS (c :: u))
  | text (u : List UInt8) (r : Option (List Part × Nat)) (h : Qx u [] [] r) : Tok (34 :: u) (r.map fun q => (Token.mk 2 [] 0 q.1 0, q.2 + 1))
  | sign (c : UInt8) (u : List UInt8) (h2 : clsS c ≠ 2) (h3 : clsS c ≠ 3) (h4 : clsS c ≠ 4) : Tok (c :: u) (if signS (c :: u) = [] then none else some (Token.mk 4 (signS (c :: u)) 0 [] 0, (signS (c :: u)).length))
theorem Qx_len {t : List UInt8} {l : List Part} {b : List UInt8} {r : Option (List Part × Nat)} (h : Qx t l b r) : ∀ q, r = some q → 0 < q.2 ∧ q.2 ≤ t.length := by
  induction h with
  | nil | low | esc0 | escbad | refbad => intro q hq; cases hq
  | shut t l b => intro q hq; obtain rfl := Option.some.inj hq; simp
  | esc x y t l b r hx _ ih =>
    intro q hq
    obtain ⟨q0, h0, rfl⟩ := Option.map_eq_some_iff.1 hq
    have := ih q0 h0
    simp only [List.length_cons]
    omega
  | ref t l b r hr _ ih =>
    intro q hq
    obtain ⟨q0, h0, rfl⟩ := Option.map_eq_some_iff.1 hq
    have := ih q0 h0
    have h1 := refS_len hr
    simp only [List.length_cons, List.length_drop] at this ⊢
    omega
  | plain c t l b r c1 c2 c3 c4 _ ih =>
    intro q hq
    obtain ⟨q0, h0, rfl⟩ := Option.map_eq_some_iff.1 hq
    have := ih q0 h0
    simp only [List.length_cons]
    omega
theorem span_pos {cl : List Int} {c : UInt8} (u : List UInt8) (h : inC cl c = true) : 0 < spanS cl (c :: u) := by
  unfold spanS
  rw [List.takeWhile_cons, if_pos h]
  simp
theorem signS_len (c : UInt8) (u : List UInt8) : (signS (c :: u)).length ≤ (c :: u).length := by
  cases u with
  | nil => simp only [signS, sign1]; split <;> simp
  | cons b u => simp only [signS, sign2, sign1]; repeat' split <;> simp
theorem Tok_len {t : List UInt8} {r : Option (Token × Nat)} (h : Tok t r) : ∀ q, r = some q → 0 < q.2 ∧ q.2 ≤ t.length := by
  cases h with
  | name c u h =>
    intro q hq
    split at hq
    · obtain rfl := Option.some.inj hq
      exact ⟨span_pos u ((inC23 c).2 (.inl h)), spanS_le _ _⟩
    · cases hq
  | num c u h =>
    intro q hq
    unfold numS at hq
    split at hq
    · obtain rfl := Option.some.inj hq
      exact ⟨span_pos (cl := [3]) u (by unfold inC; simp [h]), spanS_le [3] _⟩
    · cases hq
  | text u r h =>
    intro q hq
    obtain ⟨q0, h0, rfl⟩ := Option.map_eq_some_iff.1 hq
    have := Qx_len h q0 h0
    simp only [List.length_cons]
    omega
  | sign c u h2 h3 h4 =>
    intro q hq
    split at hq
    · cases hq
    · rename_i hne
      obtain rfl := Option.some.inj hq
      exact ⟨List.length_pos_iff.2 hne, signS_len c u⟩
theorem takeWhile_idem (p : UInt8 → Bool) : ∀ l : List UInt8, (l.takeWhile p).takeWhile p = l.takeWhile p
  | [] => rfl
  | c :: l => by
    rw [List.takeWhile_cons]
    split
    · rename_i h
      rw [List.takeWhile_cons, if_pos h, takeWhile_idem p l]
    · rfl
theorem name_word {c : UInt8} (u : List UInt8) (h : clsS c = 2) : nameS ((c :: u).takeWhile (inC [2, 3])) = decide (((c :: u).takeWhile (inC [2, 3])).length ≤ 24) := by
  have hc : inC [2, 3] c = true := (inC23 c).2 (.inl h)
  have hi := takeWhile_idem (inC [2, 3]) (c :: u)
  rw [List.takeWhile_cons, if_pos hc] at hi ⊢
  unfold nameS
  refine decide_eq_decide.2 ⟨fun e => e.2.1, fun e => ⟨by simp, e, ?_⟩⟩
  rw [endS, if_pos h, spanS, hi]
theorem dig_ne {c : UInt8} (u : List UInt8) (h : clsS c = 3) : (c :: u).takeWhile (inC [3]) ≠ [] := by
  rw [List.takeWhile_cons, if_pos (by unfold inC; simp [h])]
  simp
def NextP (t : LTokens) (g : Nat) (z : Bool) : Option (Token × Nat) → Prop
  | none => ∃ t', R_lex_tokens_next t g z false t' g z
  | some (x, n) => R_lex_tokens_next t g z true (LTokens.mk (takeT t.text n) (t.out ++ [atT x t.text.pos])) g z
/-- lex.next: what Tok tells. -/
theorem r_next (t : LTokens) (g : Nat) (z : Bool) (h : TI t.text) (ho : t.out.length ≤ 6000) {r : Option (Token × Nat)} {l : List UInt8} (hl : t.text.left = l) (hk : Tok l r) : NextP t g z r := by
  have big : bigRow (t.out.length + 1) 64 := ⟨by omega, by omega, by decide⟩
  cases hk with
  | name c u hc =>
    have hn := r_name t g z h
    rw [hl, name_word u hc] at hn
    have hd : t.text.left[0]? = some c := by rw [hl]; rfl
    by_cases hlen : ((c :: u).takeWhile (inC [2, 3])).length ≤ 24
    rotate_left
    · rw [if_neg hlen]
      · rw [decide_eq_false hlen] at hn
        exact ⟨_, lex_tokens_next_tree _ _ _ _ _ _ _ ⟨c, hd, _, r_class c, fun _ => ⟨_, _, _, _, _, hn, big, rfl, rfl, rfl, rfl⟩, fun e => absurd hc e⟩⟩
    · rw [if_pos hlen]
      · rw [decide_eq_true hlen] at hn
        exact lex_tokens_next_tree _ _ _ _ _ _ _ ⟨c, hd, _, r_class c, fun _ => ⟨_, _, _, _, _, hn, big, rfl, rfl, rfl, rfl⟩, fun e => absurd hc e⟩
  | num c u hc =>
    have hd : t.text.left[0]? = some c := by rw [hl]; rfl
    have hn := r_number t g z h (by rw [hl]; exact dig_ne u hc)
    rw [hl] at hn
    have h2 : clsS c ≠ 2 := by omega
    revert hn
    generalize numS (c :: u) = q
    intro hn
    rcases q with _ | ⟨x, n⟩
    · obtain ⟨x, t', ho', hn⟩ := hn
      exact ⟨_, lex_tokens_next_tree _ _ _ _ _ _ _ ⟨c, hd, _, r_class c, fun e => absurd e h2, fun _ => ⟨fun _ => ⟨_, _, _, _, _, hn, by rw [ho']; exact big, rfl, rfl, rfl, rfl⟩, fun e => absurd hc e⟩⟩⟩
    · exact lex_tokens_next_tree _ _ _ _ _ _ _ ⟨c, hd, _, r_class c, fun e => absurd e h2, fun _ => ⟨fun _ => ⟨_, _, _, _, _, hn, big, rfl, rfl, rfl, rfl⟩, fun e => absurd hc e⟩⟩
  | text u q hq =>
    have hd : t.text.left[0]? = some 34 := by rw [hl]; rfl
    have hn := r_quoted t g z h hl hq
    have h4 : clsS 34 = 4 := (cls4 34).2 rfl
    cases q with
    | none =>
      obtain ⟨t', ho', hn⟩ := hn
      exact ⟨_, lex_tokens_next_tree _ _ _ _ _ _ _ ⟨34, hd, _, r_class 34, fun e => by omega, fun _ => ⟨fun e => by omega, fun _ => ⟨fun _ => ⟨_, _, _, _, _, hn, by rw [ho']; exact big, rfl, rfl, rfl, rfl⟩, fun e => absurd h4 e⟩⟩⟩⟩
    | some p =>
      obtain ⟨ps, n⟩ := p
      exact lex_tokens_next_tree _ _ _ _ _ _ _ ⟨34, hd, _, r_class 34, fun e => by omega, fun _ => ⟨fun e => by omega, fun _ => ⟨fun _ => ⟨_, _, _, _, _, hn.2, big, rfl, rfl, rfl, rfl⟩, fun e => absurd h4 e⟩⟩⟩
  | sign c u h2 h3 h4 =>
    have hd : t.text.left[0]? = some c := by rw [hl]; rfl
    have hn := r_sign t g z h (by rw [hl]; simp)
    rw [hl] at hn
    by_cases he : signS (c :: u) = []
    · rw [if_pos he]
      · rw [if_pos he, if_pos he, decide_eq_false (fun e => e he)] at hn
        exact ⟨_, lex_tokens_next_tree _ _ _ _ _ _ _ ⟨c, hd, _, r_class c, fun e => absurd e h2, fun _ => ⟨fun e => absurd e h3, fun _ => ⟨fun e => absurd e h4, fun _ => ⟨_, _, _, _, _, hn, big, rfl, rfl, rfl, rfl⟩⟩⟩⟩⟩
    · rw [if_neg he]
      · rw [if_neg he, if_neg he, decide_eq_true he] at hn
        exact lex_tokens_next_tree _ _ _ _ _ _ _ ⟨c, hd, _, r_class c, fun e => absurd e h2, fun _ => ⟨fun e => absurd e h3, fun _ => ⟨fun e => absurd e h4, fun _ => ⟨_, _, _, _, _, hn, big, rfl, rfl, rfl, rfl⟩⟩⟩⟩
end Go.Proofs.YtfbcnpbhhooapaaGreatDoor.M

/- Lex: all tokens of a text (Lx), on both sides; and a function that reckons them. -/
namespace Go.Proofs.YtfbcnpbhhooapaaGreatDoor.M
set_option linter.unusedSimpArgs false
set_option linter.unusedVariables false
open Go Classical
/-- What a text's tokens are, from a place on; none: an error. -/
inductive Lx : List UInt8 → Int → Option (List Token) → Prop
  | nil (p : Int) : Lx [] p (some [Token.mk 0 [] 0 [] p])
  | gap (c : UInt8) (t : List UInt8) (p : Int) (r : Option (List Token)) (hc : clsS c = 1) (h : Lx t (p + 1) r) : Lx (c :: t) p r
  | remark (t : List UInt8) (p : Int) (r : Option (List Token)) (h : Lx (t.dropWhile (· != 10)) (p + ((t.takeWhile (· != 10)).length + 1 : Nat)) r) : Lx (35 :: t) p r
  | bad (c : UInt8) (t : List UInt8) (p : Int) (h1 : clsS c ≠ 1) (h2 : clsS c ≠ 5) (h : Tok (c :: t) none) : Lx (c :: t) p none
  | tok (c : UInt8) (t : List UInt8) (p : Int) (x : Token) (n : Nat) (r : Option (List Token)) (h1 : clsS c ≠ 1) (h2 : clsS c ≠ 5) (h : Tok (c :: t) (some (x, n))) (h' : Lx ((c :: t).drop n) (p + n) r) : Lx (c :: t) p (r.map (atT x p :: ·))
def stands : List UInt8 → Prop
  | [] => True
  | c :: _ => clsS c ≠ 1 ∧ clsS c ≠ 5
theorem take0 (t : LText) : takeT t 0 = t := by
  unfold takeT
  simp
theorem takeWhile_all (p : UInt8 → Bool) : ∀ l : List UInt8, (∀ x ∈ l, p x = true) → l.takeWhile p = l
  | [], _ => rfl
  | c :: l, h => by rw [List.takeWhile_cons, if_pos (h c (by simp)), takeWhile_all p l (fun x hx => h x (by simp [hx]))]
theorem cut_line (s : List UInt8) : (Lib.cut s [10]).1 = s.takeWhile (· != 10) := by
  rw [cut1]
  split
  · rfl
  · rename_i h
    exact (takeWhile_all _ _ fun x hx => by
      simp only [bne_iff_ne, ne_eq]
      intro e
      exact h (e ▸ hx)).symm
theorem drop_line (t : List UInt8) : (35 :: t : List UInt8).drop ((t.takeWhile (· != 10)).length + 1) = t.dropWhile (· != 10) := by
  rw [List.drop_succ_cons]
  exact drop_while_len _ _
theorem line_len (t : List UInt8) : (t.takeWhile (· != 10)).length ≤ t.length := by
  have := congrArg List.length (List.takeWhile_append_dropWhile (p := (· != (10 : UInt8))) (l := t))
  rw [List.length_append] at this
  omega
theorem span1 {c : UInt8} (t : List UInt8) (h : clsS c = 1) : spanS [1] (c :: t) = spanS [1] t + 1 := by
  unfold spanS
  rw [List.takeWhile_cons, if_pos (by unfold inC; simp [h])]
  rfl
theorem span0 {c : UInt8} (t : List UInt8) (h : clsS c ≠ 1) : spanS [1] (c :: t) = 0 := by
  unfold spanS
  rw [List.takeWhile_cons, if_neg (by unfold inC; simp [h])]
  rfl
/-- lex.skip, behind its first blanks. -/
theorem r_skip_loop {l : List UInt8} {p : Int} {r : Option (List Token)} (h : Lx l p r) : ∀ (t : LTokens) (g : Nat) (z : Bool), t.text.left = l → t.text.pos = p → TI t.text →
    ∃ n, n ≤ l.length ∧ At_lex_tokens_skip_1 (LTokens.mk (takeT t.text (spanS [1] l)) t.out) g z (LTokens.mk (takeT t.text n) t.out) g z ∧ Lx (l.drop n) (p + n) r ∧ stands (l.drop n) := by
  induction h with
  | nil p =>
    intro t g z e ep hT
    refine ⟨0, Nat.le_refl _, ?_, by simpa using Lx.nil p, trivial⟩
    apply At_lex_tokens_skip_1_step
    refine ⟨_, r_HasPrefix _ _, fun h => ?_, fun _ => ⟨rfl, rfl, rfl⟩⟩
    rw [show spanS [1] [] = 0 from rfl, take0, e] at h
    exact absurd h (by decide)
  | gap c t' p r hc _ ih =>
    intro t g z e ep hT
    have h1 : 1 ≤ t.text.left.length := by rw [e]; simp
    obtain ⟨n, hn, hA, hL, hs⟩ := ih (LTokens.mk (takeT t.text 1) t.out) g z (by simp only [takeT, e]; rfl) (by simp only [takeT, ep]; rfl) (hT.take h1)
    simp only [takeT_takeT] at hA
    refine ⟨n + 1, by simp; omega, ?_, ?_, by rw [List.drop_succ_cons]; exact hs⟩
    · rw [span1 t' hc, Nat.add_comm (spanS [1] t') 1, Nat.add_comm n 1]
      exact hA
    · rw [List.drop_succ_cons, show p + ((n + 1 : Nat) : Int) = p + 1 + (n : Int) by omega]
      exact hL
  | remark t' p r _ ih =>
    intro t g z e ep hT
    have hll := line_len t'
    have h1 : (t'.takeWhile (· != 10)).length + 1 ≤ t.text.left.length := by rw [e]; simp; omega
    have hT1 := hT.1
    obtain ⟨n, hn, hA, hL, hs⟩ := ih (LTokens.mk (takeT t.text ((t'.takeWhile (· != 10)).length + 1)) t.out) g z (by simp only [takeT, e]; exact drop_line t') (by simp only [takeT, ep]) (hT.take h1)
    simp only [takeT_takeT] at hA
    have hdl : (t'.dropWhile (· != 10)).length = t'.length - (t'.takeWhile (· != 10)).length := by rw [← drop_while_len, List.length_drop]
    have hsp : spanS [1] (35 :: t') = 0 := span0 t' (by decide)
    refine ⟨(t'.takeWhile (· != 10)).length + 1 + n, by simp; omega, ?_, ?_, ?_⟩
    · rw [hsp, take0]
      apply At_lex_tokens_skip_1_step
      have hcut : (Lib.cut t.text.left [10]).1 = 35 :: t'.takeWhile (· != 10) := by
        rw [cut_line, e, List.takeWhile_cons, if_pos (by decide)]
      have hR := r_Cut t.text.left [10] (by omega)
      have hTk := r_take hT (n := (35 :: t'.takeWhile (· != 10)).length) (by simpa using h1)
      have hT2 : TI (takeT t.text (35 :: t'.takeWhile (· != 10)).length) := hT.take (by simpa using h1)
      have hW := r_word hT2 [1] (by decide)
      rw [hcut] at hR
      refine ⟨_, r_HasPrefix _ _, fun _ => ⟨_, _, _, hR, _, _, hTk, _, _, hW, ?_⟩, fun h => absurd (by rw [e]; rfl) h⟩
      have hle : (takeT t.text (35 :: t'.takeWhile (· != 10)).length).left = t'.dropWhile (· != 10) := by
        simp only [takeT, e, List.length_cons]; exact drop_line t'
      rw [hle, takeT_takeT]
      exact hA
    · rw [← List.drop_drop, drop_line, show p + (((t'.takeWhile (· != 10)).length + 1 + n : Nat) : Int) = p + (((t'.takeWhile (· != 10)).length + 1 : Nat) : Int) + (n : Int) by omega]
      exact hL
    · rw [← List.drop_drop, drop_line]
      exact hs
  | bad c t' p c1 c2 hk =>
    intro t g z e ep hT
    refine ⟨0, Nat.zero_le _, ?_, by simpa using Lx.bad c t' p c1 c2 hk, ⟨c1, c2⟩⟩
    rw [span0 t' c1]
    apply At_lex_tokens_skip_1_step
    refine ⟨_, r_HasPrefix _ _, fun h => ?_, fun _ => ⟨rfl, rfl, rfl⟩⟩
    rw [take0, e] at h
    exfalso
    apply c2
    rw [cls5]
    symm
    simpa [Lib.hasPrefix] using h
  | tok c t' p x n r c1 c2 hk h' _ =>
    intro t g z e ep hT
    refine ⟨0, Nat.zero_le _, ?_, by simpa using Lx.tok c t' p x n r c1 c2 hk h', ⟨c1, c2⟩⟩
    rw [span0 t' c1]
    apply At_lex_tokens_skip_1_step
    refine ⟨_, r_HasPrefix _ _, fun h => ?_, fun _ => ⟨rfl, rfl, rfl⟩⟩
    rw [take0, e] at h
    exfalso
    apply c2
    rw [cls5]
    symm
    simpa [Lib.hasPrefix] using h
theorem r_skip {l : List UInt8} {p : Int} {r : Option (List Token)} (h : Lx l p r) (t : LTokens) (g : Nat) (z : Bool) (e : t.text.left = l) (ep : t.text.pos = p) (hT : TI t.text) :
    ∃ n, n ≤ l.length ∧ R_lex_tokens_skip t g z (LTokens.mk (takeT t.text n) t.out) g z ∧ Lx (l.drop n) (p + n) r ∧ stands (l.drop n) := by
  obtain ⟨n, hn, hA, hL, hs⟩ := r_skip_loop h t g z e ep hT
  refine ⟨n, hn, lex_tokens_skip_tree _ _ _ _ _ _ ⟨_, _, r_word hT [1] (by decide), ?_⟩, hL, hs⟩
  rw [e]
  exact hA
def lexL : Option (List Token) → List Token
  | none => []
  | some l => l
def lexE : Option (List Token) → Int
  | none => 5
  | some _ => 0
def lexP (out : List Token) : Option (List Token) → List Token
  | none => []
  | some l => out ++ l
theorem r_Lex_loop : ∀ (m : Nat) (l : List UInt8) (p : Int) (r : Option (List Token)), Lx l p r → stands l → l.length ≤ m → ∀ (out : List Token) (g : Nat) (z : Bool), TI ⟨l, p⟩ → (out.length : Int) ≤ p → At_lex_Lex_1 l p out g z (lexP out r) (lexE r) := by
  intro m
  induction m with
  | zero =>
    intro l p r h hs hm out g z hT ho
    have : l = [] := List.length_eq_zero_iff.1 (by omega)
    subst this
    cases h
    have h3 := hT.2.2
    simp only [List.length_nil] at h3
    apply At_lex_Lex_1_step
    exact ⟨fun _ => ⟨⟨by omega, by omega, by decide⟩, rfl, rfl⟩, fun h => absurd rfl h⟩
  | succ m ih =>
    intro l p r h hs hm out g z hT ho
    have h3 := hT.2.2
    cases h with
    | nil =>
      simp only [List.length_nil] at h3
      apply At_lex_Lex_1_step
      exact ⟨fun _ => ⟨⟨by omega, by omega, by decide⟩, rfl, rfl⟩, fun h => absurd rfl h⟩
    | gap c t _ _ hc h => exact absurd hc hs.1
    | remark t _ _ h => exact absurd ((cls5 35).2 rfl) hs.2
    | bad c t _ c1 c2 hk =>
      have hl0 := hT.1
      simp only at hl0 h3
      obtain ⟨t', hn⟩ := r_next (LTokens.mk ⟨c :: t, p⟩ out) g z hT (by simp only; omega) rfl hk
      apply At_lex_Lex_1_step
      exact ⟨fun h => by simp at h, fun _ => ⟨_, _, _, _, hn, fun h => (by cases h), fun _ => ⟨rfl, rfl⟩⟩⟩
    | tok c t _ x n r' c1 c2 hk h' =>
      have hl0 := hT.1
      simp only at hl0 h3
      have hn := r_next (LTokens.mk ⟨c :: t, p⟩ out) g z hT (by simp only; omega) rfl hk
      obtain ⟨n0, n1⟩ := Tok_len hk _ rfl
      simp only at n0 n1
      simp only [NextP] at hn
      have hT2 : TI (takeT ⟨c :: t, p⟩ n) := hT.take n1
      obtain ⟨k, hk1, hS, hL, hst⟩ := r_skip h' (LTokens.mk (takeT ⟨c :: t, p⟩ n) (out ++ [atT x p])) g z rfl rfl hT2
      have hT3 : TI (takeT (takeT ⟨c :: t, p⟩ n) k) := hT2.take hk1
      have hlen : ((c :: t).drop n).length = (c :: t).length - n := List.length_drop
      have hlen2 : (((c :: t).drop n).drop k).length = (c :: t).length - n - k := by rw [List.length_drop, hlen]
      have key := ih _ _ _ hL hst (by omega) (out ++ [atT x p]) g z hT3 (by simp; omega)
      apply At_lex_Lex_1_step
      refine ⟨fun h => by simp at h, fun _ => ⟨_, _, _, _, hn, fun _ => ⟨_, _, _, hS, ?_⟩, fun h => absurd rfl h⟩⟩
      cases r' with
      | none => exact key
      | some l' =>
        have e : lexP (out ++ [atT x p]) (some l') = lexP out ((some l').map (atT x p :: ·)) := by simp [lexP]
        rw [e] at key
        exact key
/-- lex.Lex. -/
theorem r_Lex {s : List UInt8} (hs : s.length ≤ 6000) {r : Option (List Token)} (h : Lx s 0 r) : R_lex_Lex s (lexL r) (lexE r) := by
  have hT : TI ⟨s, 0⟩ := ⟨hs, Int.le_refl _, by simp only; omega⟩
  obtain ⟨k, hk1, hS, hL, hst⟩ := r_skip h (LTokens.mk ⟨s, 0⟩ []) 0 false rfl rfl hT
  have hT2 : TI (takeT ⟨s, 0⟩ k) := hT.take hk1
  have key := r_Lex_loop _ _ _ _ hL hst (Nat.le_refl _) [] 0 false hT2 (by simp)
  have e : lexP [] r = lexL r := by cases r <;> rfl
  rw [e] at key
  apply lex_Lex_tree
  exact ⟨fun h => by omega, fun _ => ⟨_, _, _, hS, key⟩⟩
/-! ### The other side -/
/-! ### As functions -/
def quoF : Nat → List UInt8 → List Part → List UInt8 → Option (List Part × Nat)
  | 0, _, _, _ => none
  | _ + 1, [], _, _ => none
  | n + 1, c :: t, l, b =>
    if c = 34 then some (joinP l b, 1)
    else if c.toNat < 32 then none
    else if c = 92 then
      match t with
      | [] => none
      | x :: t => match escS x with | none => none | some y => (quoF n t l (b ++ [y])).map fun q => (q.1, q.2 + 2)
    else if c = 36 ∧ t.head? = some 123 then
      if (refS t.tail).2 = true then (quoF n (t.tail.drop ((refS t.tail).1.length + 1)) (joinP l b ++ [Part.mk true (refS t.tail).1]) []).map fun q => (q.1, q.2 + (3 + (refS t.tail).1.length)) else none
    else (quoF n t l (b ++ [c])).map fun q => (q.1, q.2 + 1)
theorem quoF_ok : ∀ (n : Nat) (t : List UInt8) (l : List Part) (b : List UInt8), t.length < n → Qx t l b (quoF n t l b)
  | 0, t, l, b, h => by omega
  | n + 1, [], l, b, h => .nil l b
  | n + 1, c :: t, l, b, h => by
    simp only [List.length_cons] at h
    unfold quoF
    split
    · rename_i c1; subst c1; exact .shut t l b
    · rename_i c1
      split
      · rename_i c2; exact .low c t l b c1 c2
      · rename_i c2
        split
        · rename_i c3
          subst c3
          cases t with
          | nil => exact .esc0 l b
          | cons x t =>
            dsimp only
            cases hx : escS x with
            | none => exact .escbad x t l b hx
            | some y => exact .esc x y t l b _ hx (quoF_ok n t l (b ++ [y]) (by simp only [List.length_cons] at h; omega))
        · rename_i c3
          split
          · rename_i c4
            obtain ⟨rfl, h5⟩ := c4
            cases t with
            | nil => cases h5
            | cons x t =>
              obtain rfl : x = 123 := Option.some.inj h5
              simp only [List.length_cons] at h
              split
              · rename_i hx; exact .ref t l b _ hx (quoF_ok n _ _ _ (by simp; omega))
              · rename_i hx; exact .refbad t l b (by simpa using hx)
          · rename_i c4
            exact .plain c t l b _ c1 c2 c3 (fun e e2 => c4 ⟨e, e2⟩) (quoF_ok n t l (b ++ [c]) (by omega))
def tokF : List UInt8 → Option (Token × Nat)
  | [] => none
  | c :: u =>
    if clsS c = 2 then (if ((c :: u).takeWhile (inC [2, 3])).length ≤ 24 then some (Token.mk 3 ((c :: u).takeWhile (inC [2, 3])) 0 [] 0, spanS [2, 3] (c :: u)) else none)
    else if clsS c = 3 then numS (c :: u)
    else if clsS c = 4 then (quoF (u.length + 1) u [] []).map fun q => (Token.mk 2 [] 0 q.1 0, q.2 + 1)
    else if signS (c :: u) = [] then none else some (Token.mk 4 (signS (c :: u)) 0 [] 0, (signS (c :: u)).length)
theorem tokF_ok (c : UInt8) (u : List UInt8) : Tok (c :: u) (tokF (c :: u)) := by
  simp only [tokF]
  split
  · rename_i h; exact .name c u h
  · rename_i h2
    split
    · rename_i h; exact .num c u h
    · rename_i h3
      split
      · rename_i h4
        obtain rfl := (cls4 c).1 h4
        exact .text u _ (quoF_ok _ u [] [] (by omega))
      · rename_i h4; exact .sign c u h2 h3 h4
def lexF : Nat → List UInt8 → Int → Option (List Token)
  | 0, _, _ => none
  | _ + 1, [], p => some [Token.mk 0 [] 0 [] p]
  | n + 1, c :: t, p =>
    if clsS c = 1 then lexF n t (p + 1)
    else if clsS c = 5 then lexF n (t.dropWhile (· != 10)) (p + ((t.takeWhile (· != 10)).length + 1 : Nat))
    else match tokF (c :: t) with
      | none => none
      | some (x, k) => (lexF n ((c :: t).drop k) (p + k)).map (atT x p :: ·)
theorem lexF_ok : ∀ (n : Nat) (t : List UInt8) (p : Int), t.length < n → Lx t p (lexF n t p)
  | 0, t, p, h => by omega
  | n + 1, [], p, h => .nil p
  | n + 1, c :: t, p, h => by
    simp only [List.length_cons] at h
    have ht := tokF_ok c t
    unfold lexF
    split
    · rename_i c1; exact .gap c t p _ c1 (lexF_ok n t _ (by omega))
    · rename_i c1
      split
      · rename_i c2
        obtain rfl := (cls5 c).1 c2
        have := line_len t
        have hdl : (t.dropWhile (· != 10)).length = t.length - (t.takeWhile (· != 10)).length := by rw [← drop_while_len, List.length_drop]
        exact .remark t p _ (lexF_ok n _ _ (by omega))
      · rename_i c2
        split
        · rename_i hk
          rw [hk] at ht
          exact .bad c t p c1 c2 ht
        · rename_i x k hk
          rw [hk] at ht
          have := Tok_len ht _ rfl
          exact .tok c t p x k _ c1 c2 ht (lexF_ok n _ _ (by simp only [List.length_drop, List.length_cons] at this ⊢; omega))
def lexS (s : List UInt8) : Option (List Token) := lexF (s.length + 1) s 0
theorem lexS_ok (s : List UInt8) : Lx s 0 (lexS s) := lexF_ok _ s 0 (Nat.lt_succ_self _)
end Go.Proofs.YtfbcnpbhhooapaaGreatDoor.M

/- Lex: labels (lex.Label). -/
namespace Go.Proofs.YtfbcnpbhhooapaaGreatDoor.M
set_option linter.unusedSimpArgs false
set_option linter.unusedVariables false
open Go Classical
/-! ### Labels -/
theorem rep1 (a b : UInt8) : ∀ (n : Nat) (s : List UInt8), s.length ≤ n → Lib.replaceK [a] [b] (s.count a) s = s.map (fun c => if c = a then b else c)
  | 0, s, h => by
    have : s = [] := List.length_eq_zero_iff.1 (by omega)
    subst this
    rfl
  | n + 1, s, h => by
    by_cases hm : a ∈ s
    · obtain ⟨u, v, rfl, hu⟩ := splitAt_first a s hm
      have h1 : (u ++ a :: v).takeWhile (· != a) = u := takeWhile_stop _ u a v (fun x hx => by simp; intro e; exact hu (e ▸ hx)) (by simp)
      have hi : Lib.index (u ++ a :: v) [a] = (u.length : Nat) := by rw [index1, if_pos hm, h1]
      have hc : (u ++ a :: v).count a = v.count a + 1 := by
        rw [List.count_append, List.count_cons_self, List.count_eq_zero_of_not_mem hu]
        omega
      simp only [List.length_append, List.length_cons] at h
      rw [hc, Lib.replaceK_hit _ _ _ _ _ hi, List.take_left]
      have hd : (u ++ a :: v).drop (u.length + [a].length) = v := drop_mid a u v
      rw [hd, rep1 a b n v (by omega)]
      have hmu : u.map (fun c => if c = a then b else c) = u := by
        conv => rhs; rw [← List.map_id u]
        refine List.map_congr_left fun x hx => ?_
        rw [if_neg (show ¬ x = a from fun e => hu (e ▸ hx))]
        rfl
      simp [hmu]
    · rw [List.count_eq_zero_of_not_mem hm]
      show s = _
      conv => lhs; rw [← List.map_id s]
      refine List.map_congr_left fun x hx => ?_
      rw [if_neg (show ¬ x = a from fun e => hm (e ▸ hx))]
      rfl
def lblS (c : UInt8) : UInt8 := if c = 45 then 95 else c
theorem r_ReplaceAll (s : List UInt8) (hs : s.length ≤ 1000000) : R_strings_ReplaceAll s [45] [95] (s.map lblS) := by
  intro S
  refine call_ext sp_strings_ReplaceAll S ?_
  have hc : Lib.countB ⟨s.toArray⟩ ⟨([45] : List UInt8).toArray⟩ = s.count 45 := Lib.count_one 45 s
  have hle : s.count 45 ≤ s.length := List.count_le_length
  have hr : Lib.replaceAll s [45] [95] = s.map lblS := by
    unfold Lib.replaceAll Lib.replace Lib.replaceNum
    rw [if_neg (by decide), if_pos (.inl (by decide)), Lib.count_one, rep1 45 95 s.length s (Nat.le_refl _)]
    rfl
  simp only [replaceX, hc, hr]
  rw [if_pos]
  simp only [List.length_cons, List.length_nil]
  omega
/-- A label's bytes, behind its first one. -/
def lblC (c : UInt8) : Bool := decide ((97 ≤ c.toNat ∧ c.toNat ≤ 122) ∨ (48 ≤ c.toNat ∧ c.toNat ≤ 57) ∨ c.toNat = 45 ∨ c.toNat = 95)
def labelS : List UInt8 → Bool
  | [] => false
  | c :: u => decide (97 ≤ c.toNat ∧ c.toNat ≤ 122) && u.all lblC && decide (u.length + 1 ≤ 24)
theorem cls3 (c : UInt8) : clsS c = 3 ↔ 48 ≤ c.toNat ∧ c.toNat ≤ 57 := by
  have := inC3 c
  unfold inC at this
  simpa using this
theorem cls2 (c : UInt8) : clsS c = 2 ↔ c.toNat = 95 ∨ (97 ≤ c.toNat ∧ c.toNat ≤ 122) := by
  unfold clsS
  repeat' split
  all_goals (first | omega | (constructor <;> intro h <;> first | omega | exact absurd h (by decide)))
theorem lblC_in (c : UInt8) : inC [2, 3] (lblS c) = lblC c := by
  have h : inC [2, 3] (lblS c) = true ↔ lblC c = true := by
    rw [inC23, cls2, cls3]
    unfold lblS lblC
    rw [decide_eq_true_eq]
    by_cases h : c = 45
    · rw [if_pos h, h]; decide
    · have h' : c.toNat ≠ 45 := fun e => h (UInt8.toNat_inj.1 e)
      rw [if_neg h]
      omega
  cases h1 : inC [2, 3] (lblS c) <;> cases h2 : lblC c <;> simp_all
theorem span_all (cl : List Int) : ∀ l : List UInt8, spanS cl l = l.length ↔ ∀ c ∈ l, inC cl c = true
  | [] => by simp [spanS]
  | c :: l => by
    have ih := span_all cl l
    unfold spanS at ih ⊢
    rw [List.takeWhile_cons]
    by_cases h : inC cl c = true
    · rw [if_pos h]
      simp [h, ih]
    · rw [if_neg h]
      simp [h]
theorem name_map (c : UInt8) (u : List UInt8) : nameS ((c :: u).map lblS) = decide (clsS (lblS c) = 2 ∧ u.length + 1 ≤ 24 ∧ u.all lblC = true) := by
  unfold nameS
  refine decide_eq_decide.2 ?_
  simp only [List.map_cons, ne_eq, reduceCtorEq, not_false_eq_true, true_and, List.length_cons, List.length_map]
  rw [endS]
  by_cases h : clsS (lblS c) = 2
  · rw [if_pos h]
    have e : spanS [2, 3] (lblS c :: u.map lblS) = u.length + 1 ↔ ∀ x ∈ lblS c :: u.map lblS, inC [2, 3] x = true := by
      have := span_all [2, 3] (lblS c :: u.map lblS)
      simpa using this
    rw [e]
    simp only [h, true_and, List.mem_cons, List.mem_map, List.all_eq_true]
    constructor
    · intro ⟨h1, h2⟩
      refine ⟨h1, fun x hx => ?_⟩
      rw [← lblC_in]
      exact h2 _ (.inr ⟨x, hx, rfl⟩)
    · intro ⟨h1, h2⟩
      refine ⟨h1, fun x hx => ?_⟩
      rcases hx with rfl | ⟨y, hy, rfl⟩
      · rw [inC23]; exact .inl h
      · rw [lblC_in]; exact h2 y hy
  · rw [if_neg h]
    simp [h]
theorem r_lexLabel (s : List UInt8) (hs : s.length ≤ 1000000) : R_lex_Label s (labelS s) := by
  apply lex_Label_tree
  refine ⟨_, r_ReplaceAll s hs, _, r_lexName _ (by simpa using hs), ?_⟩
  cases s with
  | nil => exact ⟨fun h => absurd h (by decide), fun _ => rfl⟩
  | cons c u =>
    rw [name_map]
    refine ⟨fun h => ⟨c, rfl, fun h45 => ?_, fun h45 => ?_⟩, fun h => ?_⟩
    · simp only [labelS]
      rw [decide_eq_false (by omega)]
      rfl
    · obtain ⟨h1, h2, h3⟩ := of_decide_eq_true h
      have hc : ¬ c = 45 := fun e => h45 (by rw [e]; rfl)
      unfold lblS at h1
      rw [if_neg hc, cls2] at h1
      simp only [labelS]
      rw [h3, decide_eq_true h2, Bool.and_true, Bool.and_true]
      rw [← decide_not]
      exact decide_eq_decide.2 (by omega)
    · simp only [labelS]
      symm
      rw [← Bool.not_eq_true]
      intro h2
      apply h
      simp only [Bool.and_eq_true, decide_eq_true_eq] at h2
      refine decide_eq_true ⟨?_, h2.2, h2.1.2⟩
      rw [cls2]
      unfold lblS
      rw [if_neg (fun e => by have := h2.1.1; rw [e] at this; revert this; decide)]
      exact .inr h2.1.1
end Go.Proofs.YtfbcnpbhhooapaaGreatDoor.M

/- Parse: the tokens of a text are as the parser needs them; parse.Parse and parse.Expr of a text. -/
namespace Go.Proofs.YtfbcnpbhhooapaaGreatDoor.M
set_option linter.unusedSimpArgs false
set_option linter.unusedVariables false
open Go Classical
theorem joinP_mem {l : List Part} {b : List UInt8} {p : Part} (h : p ∈ joinP l b) : p ∈ l ∨ p.Text = b := by
  unfold joinP at h
  rcases List.mem_append.1 h with h | h
  · exact .inl h
  · split at h
    · cases h
    · simp at h
      subst h
      exact .inr rfl
theorem Qx_parts {t : List UInt8} {l : List Part} {b : List UInt8} {r : Option (List Part × Nat)} (h : Qx t l b r) : ∀ q, r = some q → ∀ p ∈ q.1, p ∈ l ∨ p.Text.length ≤ b.length + t.length := by
  induction h with
  | nil | low | esc0 | escbad | refbad => intro q hq; cases hq
  | shut t l b =>
    intro q hq p hp
    obtain rfl := Option.some.inj hq
    rcases joinP_mem hp with h | h
    · exact .inl h
    · right; rw [h]; omega
  | esc x y t l b r hx _ ih =>
    intro q hq p hp
    obtain ⟨q0, h0, rfl⟩ := Option.map_eq_some_iff.1 hq
    rcases ih q0 h0 p hp with h | h
    · exact .inl h
    · right; simp at h ⊢; omega
  | ref t l b r hr _ ih =>
    intro q hq p hp
    obtain ⟨q0, h0, rfl⟩ := Option.map_eq_some_iff.1 hq
    have h1 := refS_len hr
    rcases ih q0 h0 p hp with h | h
    · rcases List.mem_append.1 h with h | h
      · rcases joinP_mem h with h | h
        · exact .inl h
        · right; rw [h]; omega
      · simp at h
        subst h
        right
        simp
        omega
    · right; simp at h ⊢; omega
  | plain c t l b r c1 c2 c3 c4 _ ih =>
    intro q hq p hp
    obtain ⟨q0, h0, rfl⟩ := Option.map_eq_some_iff.1 hq
    rcases ih q0 h0 p hp with h | h
    · exact .inl h
    · right; simp at h ⊢; omega
theorem takeW_len (p : UInt8 → Bool) (l : List UInt8) : (l.takeWhile p).length ≤ l.length := (List.takeWhile_sublist p).length_le
theorem Tok_good {t : List UInt8} {r : Option (Token × Nat)} (h : Tok t r) : ∀ x n, r = some (x, n) → x.Kind ≠ 0 ∧ x.Text.length ≤ t.length ∧ ∀ p ∈ x.Parts, p.Text.length ≤ t.length := by
  cases h with
  | name c u h =>
    intro x n hx
    split at hx
    · cases hx
      exact ⟨by simp, takeW_len _ _, by simp⟩
    · cases hx
  | num c u h =>
    intro x n hx
    unfold numS at hx
    split at hx
    · cases hx
      exact ⟨by simp, by simp, by simp⟩
    · cases hx
  | text u r h =>
    intro x n hx
    obtain ⟨q, hq, e⟩ := Option.map_eq_some_iff.1 hx
    cases e
    refine ⟨by simp, by simp, fun p hp => ?_⟩
    rcases Qx_parts h q hq p hp with h | h
    · cases h
    · simp at h ⊢; omega
  | sign c u h2 h3 h4 =>
    intro x n hx
    split at hx
    · cases hx
    · cases hx
      exact ⟨by simp, signS_len c u, by simp⟩
theorem Lx_good {l : List UInt8} {p : Int} {r : Option (List Token)} (h : Lx l p r) : ∀ L, r = some L → W L ∧ L.length ≤ l.length + 1 ∧ ∀ t ∈ L, t.Text.length ≤ l.length ∧ ∀ q ∈ t.Parts, q.Text.length ≤ l.length := by
  induction h with
  | nil p =>
    intro L hL
    cases hL
    exact ⟨rfl, by simp, fun t ht => by simp at ht; subst ht; simp⟩
  | gap c t p r hc _ ih =>
    intro L hL
    obtain ⟨h1, h2, h3⟩ := ih L hL
    refine ⟨h1, by simp; omega, fun x hx => ?_⟩
    obtain ⟨h4, h5⟩ := h3 x hx
    exact ⟨by simp; omega, fun q hq => by have := h5 q hq; simp; omega⟩
  | remark t p r _ ih =>
    intro L hL
    obtain ⟨h1, h2, h3⟩ := ih L hL
    have hd : (t.dropWhile (· != 10)).length ≤ t.length := (List.dropWhile_sublist _).length_le
    refine ⟨h1, by simp; omega, fun x hx => ?_⟩
    obtain ⟨h4, h5⟩ := h3 x hx
    exact ⟨by simp; omega, fun q hq => by have := h5 q hq; simp; omega⟩
  | bad => intro L hL; cases hL
  | tok c t p x n r h1 h2 hk _ ih =>
    intro L hL
    obtain ⟨L0, h0, rfl⟩ := Option.map_eq_some_iff.1 hL
    obtain ⟨g1, g2, g3⟩ := Tok_good hk x n rfl
    obtain ⟨l1, l2⟩ := Tok_len hk (x, n) rfl
    obtain ⟨i1, i2, i3⟩ := ih L0 h0
    simp only [List.length_drop] at i2 i3
    simp only at l1 l2
    refine ⟨?_, by simp only [List.length_cons] at *; omega, fun y hy => ?_⟩
    · cases L0 with
      | nil => exact i1.elim
      | cons a L0 => exact ⟨g1, i1⟩
    · rcases List.mem_cons.1 hy with rfl | hy
      · exact ⟨g2, g3⟩
      · obtain ⟨h4, h5⟩ := i3 y hy
        exact ⟨by omega, fun q hq => by have := h5 q hq; omega⟩
theorem TL_of {s : List UInt8} {L : List Token} (hs : s.length ≤ 6000) (h : lexS s = some L) : TL L ∧ W L := by
  obtain ⟨h1, h2, h3⟩ := Lx_good (lexS_ok s) L h
  exact ⟨⟨by omega, fun t ht => by have := (h3 t ht).1; omega, fun t ht p hp => by have := (h3 t ht).2 p hp; omega⟩, h1⟩
/-- What a text is as a configuration: blocks, or an error. -/
def parseS (s : List UInt8) : PR (List Block) := match lexS s with | none => .er 5 | some L => confT labelS L
def expS (s : List UInt8) : PR (List Node) := match lexS s with | none => .er 5 | some L => exprT L
theorem r_ParseS (s : List UInt8) (hs : s.length ≤ 6000) : match parseS s with
    | .ok l _ _ => R_parse_Parse s l 0
    | .er e => e ≠ 0 → R_parse_Parse s [] e
    | .no => False := by
  have hx := r_Lex hs (lexS_ok s)
  unfold parseS
  cases hl : lexS s with
  | none => rw [hl] at hx; exact fun he => r_Parse_no hx he
  | some L =>
    rw [hl] at hx
    obtain ⟨h1, h2⟩ := TL_of hs hl
    exact r_ParseT hx h1 h2 r_lexLabel
theorem r_ExprS (s : List UInt8) (hs : s.length ≤ 6000) : match expS s with
    | .ok l _ _ => R_parse_Expr s l 0
    | .er e => e ≠ 0 → R_parse_Expr s [] e
    | .no => False := by
  have hx := r_Lex hs (lexS_ok s)
  unfold expS
  cases hl : lexS s with
  | none => rw [hl] at hx; exact fun he => r_Expr_no hx he
  | some L =>
    rw [hl] at hx
    obtain ⟨h1, h2⟩ := TL_of hs hl
    exact r_ExprT hx h1 h2
theorem r_Parse_ok {s : List UInt8} (hs : s.length ≤ 6000) {l : List Block} {ts : List Token} {out : List Node} (h : parseS s = .ok l ts out) : R_parse_Parse s l 0 := by
  have := r_ParseS s hs
  rw [h] at this
  exact this
end Go.Proofs.YtfbcnpbhhooapaaGreatDoor.M

/- Parse: the texts of ParseDeep, reckoned. -/
namespace Go.Proofs.YtfbcnpbhhooapaaGreatDoor.M
set_option linter.unusedSimpArgs false
set_option linter.unusedVariables false
open Go Classical
def deepA : Nat → List UInt8
  | 0 => [40]
  | 1 => [91]
  | 2 => [102, 40]
  | 3 => [45]
  | 4 => [33]
  | _ => [116, 114, 117, 101, 32, 63, 32]
def deepB : Nat → List UInt8
  | 0 => [41]
  | 1 => [93]
  | 2 => [41]
  | 3 => []
  | 4 => []
  | _ => [32, 58, 32, 48]
def deepT (h k : Nat) : List UInt8 := ((List.replicate k (deepA h)).flatten ++ [49]) ++ (List.replicate k (deepB h)).flatten
def nbB (n : Node) : Bool := decide (n.Text.length ≤ 100) && decide (n.Parts.length = 0) && decide (n.Kids.length ≤ 100)
def deepOk (h k : Nat) : Bool := match expS (deepT h k) with
  | .ok l _ _ => decide (k ≤ 64) && stk 0 [] l && l.all nbB && decide (l.length ≤ 1000)
  | .er e => decide (64 < k) && decide (e = 6)
  | .no => false
def allUp (p : Nat → Bool) : Nat → Nat → Bool
  | 0, _ => true
  | m + 1, i => p i && allUp p m (i + 1)
theorem allUp_get (p : Nat → Bool) : ∀ (m i : Nat), allUp p m i = true → ∀ j, i ≤ j → j < i + m → p j = true
  | 0, i, _, j, h1, h2 => by omega
  | m + 1, i, h, j, h1, h2 => by
    simp only [allUp, Bool.and_eq_true] at h
    by_cases e : j = i
    · rw [e]; exact h.1
    · exact allUp_get p m (i + 1) h.2 j (by omega) (by omega)
theorem deep_0_0 : allUp (deepOk 0) 20 0 = true := by kernel_rfl
theorem deep_0_20 : allUp (deepOk 0) 20 20 = true := by kernel_rfl
theorem deep_0_40 : allUp (deepOk 0) 20 40 = true := by kernel_rfl
theorem deep_0_60 : allUp (deepOk 0) 20 60 = true := by kernel_rfl
theorem deep_1_0 : allUp (deepOk 1) 20 0 = true := by kernel_rfl
theorem deep_1_20 : allUp (deepOk 1) 20 20 = true := by kernel_rfl
theorem deep_1_40 : allUp (deepOk 1) 20 40 = true := by kernel_rfl
theorem deep_1_60 : allUp (deepOk 1) 20 60 = true := by kernel_rfl
theorem deep_2_0 : allUp (deepOk 2) 20 0 = true := by kernel_rfl
theorem deep_2_20 : allUp (deepOk 2) 20 20 = true := by kernel_rfl
theorem deep_2_40 : allUp (deepOk 2) 20 40 = true := by kernel_rfl
theorem deep_2_60 : allUp (deepOk 2) 20 60 = true := by kernel_rfl
theorem deep_3_0 : allUp (deepOk 3) 20 0 = true := by kernel_rfl
theorem deep_3_20 : allUp (deepOk 3) 20 20 = true := by kernel_rfl
theorem deep_3_40 : allUp (deepOk 3) 20 40 = true := by kernel_rfl
theorem deep_3_60 : allUp (deepOk 3) 20 60 = true := by kernel_rfl
theorem deep_4_0 : allUp (deepOk 4) 20 0 = true := by kernel_rfl
theorem deep_4_20 : allUp (deepOk 4) 20 20 = true := by kernel_rfl
theorem deep_4_40 : allUp (deepOk 4) 20 40 = true := by kernel_rfl
theorem deep_4_60 : allUp (deepOk 4) 20 60 = true := by kernel_rfl
theorem deep_5_0 : allUp (deepOk 5) 5 0 = true := by kernel_rfl
theorem deep_5_5 : allUp (deepOk 5) 5 5 = true := by kernel_rfl
theorem deep_5_10 : allUp (deepOk 5) 5 10 = true := by kernel_rfl
theorem deep_5_15 : allUp (deepOk 5) 5 15 = true := by kernel_rfl
theorem deep_5_20 : allUp (deepOk 5) 5 20 = true := by kernel_rfl
theorem deep_5_25 : allUp (deepOk 5) 5 25 = true := by kernel_rfl
theorem deep_5_30 : allUp (deepOk 5) 5 30 = true := by kernel_rfl
theorem deep_5_35 : allUp (deepOk 5) 5 35 = true := by kernel_rfl
theorem deep_5_40 : allUp (deepOk 5) 5 40 = true := by kernel_rfl
theorem deep_5_45 : allUp (deepOk 5) 5 45 = true := by kernel_rfl
theorem deep_5_50 : allUp (deepOk 5) 5 50 = true := by kernel_rfl
theorem deep_5_55 : allUp (deepOk 5) 5 55 = true := by kernel_rfl
theorem deep_5_60 : allUp (deepOk 5) 5 60 = true := by kernel_rfl
theorem deep_5_65 : allUp (deepOk 5) 5 65 = true := by kernel_rfl
theorem deep_5_70 : allUp (deepOk 5) 5 70 = true := by kernel_rfl
theorem deep_5_75 : allUp (deepOk 5) 5 75 = true := by kernel_rfl
theorem deep_all {h k : Nat} (hh : h < 6) (hk : k < 80) : deepOk h k = true := by
  rcases (show h = 0 ∨ h = 1 ∨ h = 2 ∨ h = 3 ∨ h = 4 ∨ h = 5 by omega) with rfl | rfl | rfl | rfl | rfl | rfl
  · rcases (show (0 ≤ k ∧ k < 20) ∨ (20 ≤ k ∧ k < 40) ∨ (40 ≤ k ∧ k < 60) ∨ (60 ≤ k ∧ k < 80) by omega) with h | h | h | h
    · exact allUp_get _ _ _ deep_0_0 k h.1 h.2
    · exact allUp_get _ _ _ deep_0_20 k h.1 h.2
    · exact allUp_get _ _ _ deep_0_40 k h.1 h.2
    · exact allUp_get _ _ _ deep_0_60 k h.1 h.2
  · rcases (show (0 ≤ k ∧ k < 20) ∨ (20 ≤ k ∧ k < 40) ∨ (40 ≤ k ∧ k < 60) ∨ (60 ≤ k ∧ k < 80) by omega) with h | h | h | h
    · exact allUp_get _ _ _ deep_1_0 k h.1 h.2
    · exact allUp_get _ _ _ deep_1_20 k h.1 h.2
    · exact allUp_get _ _ _ deep_1_40 k h.1 h.2
    · exact allUp_get _ _ _ deep_1_60 k h.1 h.2
  · rcases (show (0 ≤ k ∧ k < 20) ∨ (20 ≤ k ∧ k < 40) ∨ (40 ≤ k ∧ k < 60) ∨ (60 ≤ k ∧ k < 80) by omega) with h | h | h | h
    · exact allUp_get _ _ _ deep_2_0 k h.1 h.2
    · exact allUp_get _ _ _ deep_2_20 k h.1 h.2
    · exact allUp_get _ _ _ deep_2_40 k h.1 h.2
    · exact allUp_get _ _ _ deep_2_60 k h.1 h.2
  · rcases (show (0 ≤ k ∧ k < 20) ∨ (20 ≤ k ∧ k < 40) ∨ (40 ≤ k ∧ k < 60) ∨ (60 ≤ k ∧ k < 80) by omega) with h | h | h | h
    · exact allUp_get _ _ _ deep_3_0 k h.1 h.2
    · exact allUp_get _ _ _ deep_3_20 k h.1 h.2
    · exact allUp_get _ _ _ deep_3_40 k h.1 h.2
    · exact allUp_get _ _ _ deep_3_60 k h.1 h.2
  · rcases (show (0 ≤ k ∧ k < 20) ∨ (20 ≤ k ∧ k < 40) ∨ (40 ≤ k ∧ k < 60) ∨ (60 ≤ k ∧ k < 80) by omega) with h | h | h | h
    · exact allUp_get _ _ _ deep_4_0 k h.1 h.2
    · exact allUp_get _ _ _ deep_4_20 k h.1 h.2
    · exact allUp_get _ _ _ deep_4_40 k h.1 h.2
    · exact allUp_get _ _ _ deep_4_60 k h.1 h.2
  · rcases (show (0 ≤ k ∧ k < 5) ∨ (5 ≤ k ∧ k < 10) ∨ (10 ≤ k ∧ k < 15) ∨ (15 ≤ k ∧ k < 20) ∨ (20 ≤ k ∧ k < 25) ∨ (25 ≤ k ∧ k < 30) ∨ (30 ≤ k ∧ k < 35) ∨ (35 ≤ k ∧ k < 40) ∨ (40 ≤ k ∧ k < 45) ∨ (45 ≤ k ∧ k < 50) ∨ (50 ≤ k ∧ k < 55) ∨ (55 ≤ k ∧ k < 60) ∨ (60 ≤ k ∧ k < 65) ∨ (65 ≤ k ∧ k < 70) ∨ (70 ≤ k ∧ k < 75) ∨ (75 ≤ k ∧ k < 80) by omega) with h | h | h | h | h | h | h | h | h | h | h | h | h | h | h | h
    · exact allUp_get _ _ _ deep_5_0 k h.1 h.2
    · exact allUp_get _ _ _ deep_5_5 k h.1 h.2
    · exact allUp_get _ _ _ deep_5_10 k h.1 h.2
    · exact allUp_get _ _ _ deep_5_15 k h.1 h.2
    · exact allUp_get _ _ _ deep_5_20 k h.1 h.2
    · exact allUp_get _ _ _ deep_5_25 k h.1 h.2
    · exact allUp_get _ _ _ deep_5_30 k h.1 h.2
    · exact allUp_get _ _ _ deep_5_35 k h.1 h.2
    · exact allUp_get _ _ _ deep_5_40 k h.1 h.2
    · exact allUp_get _ _ _ deep_5_45 k h.1 h.2
    · exact allUp_get _ _ _ deep_5_50 k h.1 h.2
    · exact allUp_get _ _ _ deep_5_55 k h.1 h.2
    · exact allUp_get _ _ _ deep_5_60 k h.1 h.2
    · exact allUp_get _ _ _ deep_5_65 k h.1 h.2
    · exact allUp_get _ _ _ deep_5_70 k h.1 h.2
    · exact allUp_get _ _ _ deep_5_75 k h.1 h.2
end Go.Proofs.YtfbcnpbhhooapaaGreatDoor.M

/- The machine's code of the functions, printed by a program of this session (sc2.py) out of the translation. Not trusted: Lean checks each by its own computation. -/
namespace Go.Proofs.YtfbcnpbhhooapaaGreatDoor.M
open Go
set_option linter.unusedVariables false
/-- doorkeeper/doorkeeperlaw1.Num -/
def sc_law1_Num : SFunc := ⟨1, 4, .seq (.reg [⟨(some 2), none, (.v (.mov (.c (.int .i64 0))))⟩]) (.seq (.reg [⟨(some 3), none, (.v (.mov (.t 0)))⟩, ⟨(some 2), none, (.v (.mov (.t 3)))⟩]) .ret), [(.t 2)]⟩
theorem U_law1_Num : type_of% (sc_law1_Num.eq_1) := sc_law1_Num.eq_1
theorem comp_law1_Num : comp Tryz.prog Tryz.f18 = some sc_law1_Num := by kernel_rfl
/-- doorkeeper/doorkeeperlaw2.awake -/
def c_law2_awake_1 : SC := .seq (.reg [⟨(some 7), none, (.v (.mov (.t 2)))⟩, ⟨(some 8), none, (.call (.c (.func 18 [])) [(.t 7)])⟩, ⟨(some 9), none, (.v (.bin .eql (.t 8) (.c (.int .i64 0))))⟩, ⟨(some 10), none, (.v (.mov (.t 9)))⟩, ⟨(some 11), (some (10, true)), (.v (.mov (.t 1)))⟩, ⟨(some 12), (some (10, true)), (.v (.len false (.t 11)))⟩, ⟨(some 13), (some (10, true)), (.v (.bin .eql (.t 12) (.c (.int .i64 1))))⟩, ⟨(some 14), none, (.v (.pick (.t 10) (.t 13) (.c (.bool false))))⟩, ⟨(some 15), none, (.v (.mov (.t 14)))⟩, ⟨(some 16), (some (15, true)), (.v (.mov (.t 1)))⟩, ⟨(some 17), (some (15, true)), (.v (.iaddr 4 (.t 16) (.c (.int .i64 0))))⟩, ⟨(some 18), (some (15, true)), (.v (.faddr 0 (.t 17)))⟩, ⟨(some 19), (some (15, true)), (.v (.load none (.t 18)))⟩, ⟨(some 20), (some (15, true)), (.v (.bin .eql (.t 19) (.c (.int .i64 3))))⟩, ⟨(some 21), none, (.v (.pick (.t 15) (.t 20) (.c (.bool false))))⟩, ⟨(some 22), none, (.v (.mov (.t 21)))⟩, ⟨(some 23), (some (22, true)), (.v (.mov (.t 1)))⟩, ⟨(some 24), (some (22, true)), (.v (.iaddr 4 (.t 23) (.c (.int .i64 0))))⟩, ⟨(some 25), (some (22, true)), (.v (.faddr 1 (.t 24)))⟩, ⟨(some 26), (some (22, true)), (.v (.load none (.t 25)))⟩, ⟨(some 27), (some (22, true)), (.v (.bin .eql (.t 26) (.c (.str [97]))))⟩, ⟨(some 28), none, (.v (.pick (.t 22) (.t 27) (.c (.bool false))))⟩, ⟨(some 29), none, (.v (.mov (.t 28)))⟩, ⟨(some 30), (some (29, true)), (.v (.mov (.t 1)))⟩, ⟨(some 31), (some (29, true)), (.v (.iaddr 4 (.t 30) (.c (.int .i64 0))))⟩, ⟨(some 32), (some (29, true)), (.v (.faddr 2 (.t 31)))⟩, ⟨(some 33), (some (29, true)), (.v (.load none (.t 32)))⟩, ⟨(some 34), (some (29, true)), (.v (.len false (.t 33)))⟩, ⟨(some 35), (some (29, true)), (.v (.bin .eql (.t 34) (.c (.int .i64 1))))⟩, ⟨(some 36), none, (.v (.pick (.t 29) (.t 35) (.c (.bool false))))⟩, ⟨(some 0), none, (.v (.mov (.t 36)))⟩]) .ret
def c_law2_awake_2 : SC := .seq (.reg [⟨(some 4), none, (.call (.c (.func 17 [])) [(.c (.str [110, 111, 100, 101, 32, 34, 97, 34, 32, 123, 32, 99, 112, 117, 32, 61, 32, 49, 32, 125]))])⟩, ⟨(some 3), none, (.v (.mov (.t 4)))⟩, ⟨(some 5), none, (.v (.extract 0 (.t 3)))⟩, ⟨(some 6), none, (.v (.extract 1 (.t 3)))⟩, ⟨(some 1), none, (.v (.mov (.t 5)))⟩, ⟨(some 2), none, (.v (.mov (.t 6)))⟩]) c_law2_awake_1
def sc_law2_awake : SFunc := ⟨0, 37, .seq (.reg [⟨(some 0), none, (.v (.mov (.c (.bool false))))⟩]) c_law2_awake_2, [(.t 0)]⟩
theorem U_law2_awake : type_of% (And.intro (fun (SP : Prg) (ac : Ac) => congrFun (congrArg (E SP) c_law2_awake_1.eq_1) ac) <| And.intro (fun (SP : Prg) (ac : Ac) => congrFun (congrArg (E SP) c_law2_awake_2.eq_1) ac) <| sc_law2_awake.eq_1) := And.intro (fun (SP : Prg) (ac : Ac) => congrFun (congrArg (E SP) c_law2_awake_1.eq_1) ac) <| And.intro (fun (SP : Prg) (ac : Ac) => congrFun (congrArg (E SP) c_law2_awake_2.eq_1) ac) <| sc_law2_awake.eq_1
theorem comp_law2_awake : comp Tryz.prog Tryz.f15 = some sc_law2_awake := by kernel_rfl
end Go.Proofs.YtfbcnpbhhooapaaGreatDoor.M

/- Trees of functions, printed by a program of this session (lift.py): what a run asks, over plain data. Lean proves each. -/
namespace Go.Proofs.YtfbcnpbhhooapaaGreatDoor.M
set_option linter.unusedSimpArgs false
set_option linter.unusedVariables false
open Go Classical
theorem sp_law1_Num : SP 18 = some (.code sc_law1_Num) := SPof_code rfl Tryz.func18 comp_law1_Num
/-! doorkeeper/doorkeeperlaw1.Num -/
set_option maxHeartbeats 4000000 in
theorem law1_Num_tree (e_ : Int) (r : Int) (T :
  e_ = r) : R_law1_Num e_ r := by
 intro S
 rw [call_code sp_law1_Num _ _ rfl]
 have F := U_law1_Num
 obtain rfl := T
 exact fi F
theorem sp_law2_awake : SP 15 = some (.code sc_law2_awake) := SPof_code rfl Tryz.func15 comp_law2_awake
/-! doorkeeper/doorkeeperlaw2.awake -/
set_option maxHeartbeats 4000000 in
theorem law2_awake_tree  (r : Bool) (T :
  ∃ (r1 : List Block) (r2 : Int), (R_parse_Parse [110, 111, 100, 101, 32, 34, 97, 34, 32, 123, 32, 99, 112, 117, 32, 61, 32, 49, 32, 125] r1 r2) ∧
 ∃ (r3 : Int), (R_law1_Num r2 r3) ∧
 ((r3 = 0) →
  (((r1.length : Int) = 1) →
   ∃ (v4 : Block), (r1[0]? = some v4) ∧
   ((v4.Kind = 3) →
    ((v4.Label = [97]) →
     (decide ((v4.Attrs.length : Int) = 1)) = r) ∧
    (¬ (v4.Label = [97]) →
     false = r)) ∧
   (¬ (v4.Kind = 3) →
    false = r)) ∧
  (¬ ((r1.length : Int) = 1) →
   false = r)) ∧
 (¬ (r3 = 0) →
  false = r)) : R_law2_awake  r := by
 intro S
 rw [call_code sp_law2_awake _ _ rfl]
 have F := U_law2_awake
 obtain ⟨r1, r2, q1, r3, q2, T⟩ := T
 simp only [R_parse_Parse, le, List.cons_append, List.nil_append] at q1
 simp only [R_law1_Num, le, List.cons_append, List.nil_append] at q2
 replace F := aa q1 <| aa q2 <| F
 by_cases c3 : r3 = 0
 · replace T := T.1 c3
   replace F := aa (eq_true c3) <| F
   by_cases c4 : (r1.length : Int) = 1
   · replace T := T.1 c4
     obtain ⟨v4, q5, T⟩ := T
     replace F := aa (eq_true c4) <| aa q5 <| F
     by_cases c6 : v4.Kind = 3
     · replace T := T.1 c6
       replace F := aa (eq_true c6) <| F
       by_cases c7 : v4.Label = [97]
       · replace T := T.1 c7
         obtain rfl := T
         exact fi (aa (eq_true c7) <| F)
       · replace T := T.2 c7
         obtain rfl := T
         exact fi (aa (eq_false c7) <| F)
     · replace T := T.2 c6
       obtain rfl := T
       exact fi (aa (eq_false c6) <| F)
   · replace T := T.2 c4
     obtain rfl := T
     exact fi (aa (eq_false c4) <| F)
 · replace T := T.2 c3
   obtain rfl := T
   exact fi (aa (eq_false c3) <| F)
/-! doorkeeper/doorkeeperlaw2.ParseRefuses -/
end Go.Proofs.YtfbcnpbhhooapaaGreatDoor.M

/- Parse: the law ParseRefuses. -/
namespace Go.Proofs.YtfbcnpbhhooapaaGreatDoor.M
set_option linter.unusedSimpArgs false
set_option linter.unusedVariables false
open Go Classical
theorem r_Num1 (e : Int) : R_law1_Num e e := law1_Num_tree _ _ rfl
theorem r_awake2 : R_law2_awake true := by
  have h := r_Parse_ok (s := [110, 111, 100, 101, 32, 34, 97, 34, 32, 123, 32, 99, 112, 117, 32, 61, 32, 49, 32, 125]) (l := [⟨3, [97], [⟨[99, 112, 117], [⟨1, 1, [], [], []⟩]⟩], []⟩]) (ts := [⟨0, [], 0, [], 20⟩]) (out := []) (by decide) (by kernel_rfl)
  exact law2_awake_tree _ ⟨_, _, h, _, r_Num1 _, fun _ => ⟨fun _ => ⟨_, rfl, fun _ => ⟨fun _ => rfl, fun hf => absurd rfl hf⟩, fun hf => absurd rfl hf⟩, fun hf => absurd rfl hf⟩, fun hf => absurd rfl hf⟩
end Go.Proofs.YtfbcnpbhhooapaaGreatDoor.M

/- Parse: the law ParseDeep. -/
namespace Go.Proofs.YtfbcnpbhhooapaaGreatDoor.M
set_option linter.unusedSimpArgs false
set_option linter.unusedVariables false
open Go Classical
theorem nbB_ok {l : List Node} (h : l.all nbB = true) : ∀ n ∈ l, NB n := fun n hn => by
  have := List.all_eq_true.1 h n hn
  simp only [nbB, Bool.and_eq_true, decide_eq_true_eq] at this
  have hp : n.Parts = [] := List.length_eq_zero_iff.1 this.1.2
  exact ⟨by omega, by rw [hp]; exact ⟨by simp, by simp⟩, by omega⟩
theorem deepA_len (h : Nat) : (deepA h).length ≤ 7 := by unfold deepA; split <;> simp
theorem deepB_len (h : Nat) : (deepB h).length ≤ 4 := by unfold deepB; split <;> simp
theorem flat_len (l : List UInt8) (k : Nat) : ((List.replicate k l).flatten).length = k * l.length := by simp
theorem deepT_len (h : Nat) {k : Nat} (hk : k < 80) : (deepT h k).length ≤ 6000 := by
  have h1 := deepA_len h
  have h2 := deepB_len h
  have h3 : k * (deepA h).length ≤ 80 * 7 := Nat.mul_le_mul (by omega) h1
  have h4 : k * (deepB h).length ≤ 80 * 4 := Nat.mul_le_mul (by omega) h2
  simp only [deepT, List.length_append, flat_len, List.length_cons, List.length_nil]
  omega
theorem tmod80 (n : Nat) : (n : Int).tmod 80 = ((n % 80 : Nat) : Int) := by rw [Int.tmod_eq_emod_of_nonneg (by omega)]; simp
theorem deep_end (n : UInt8) {h : Nat} (hh : h < 6) (k : Nat) (hk : k = n.toNat % 80) : At_law2_ParseDeep_1 n (deepA h) (deepB h) ((List.replicate k (deepA h)).flatten) ((List.replicate k (deepB h)).flatten) (k : Nat) true := by
  have hn : n.toNat < 256 := n.toNat_lt
  have hl := deepT_len h (k := k) (by omega)
  have hl' : ((List.replicate k (deepA h)).flatten).length + 1 + ((List.replicate k (deepB h)).flatten).length ≤ 6000 := by
    simpa only [deepT, List.length_append, List.length_cons, List.length_nil] using hl
  have hd := deep_all hh (show k < 80 by omega)
  have hx := r_ExprS (deepT h k) hl
  unfold deepOk at hd
  apply At_law2_ParseDeep_1_step
  rw [tmod80, ← hk]
  refine ⟨fun hf => by omega, fun _ => ⟨by simp only [maxInt]; omega, by simp only [maxInt]; omega, ?_⟩⟩
  cases hc : expS (deepT h k) with
  | no => rw [hc] at hx; exact hx.elim
  | er e =>
    rw [hc] at hx hd
    simp only [Bool.and_eq_true, decide_eq_true_eq] at hd
    obtain ⟨h64, rfl⟩ := hd
    exact ⟨[], 6, hx (by decide), fun _ => ⟨6, r_Num1 _, fun _ => ⟨fun _ => ⟨true, r_awake2, rfl⟩, fun hf => absurd rfl hf⟩, fun hf => absurd rfl hf⟩, fun hf => by omega⟩
  | ok l ts o =>
    rw [hc] at hx hd
    simp only [Bool.and_eq_true, decide_eq_true_eq] at hd
    obtain ⟨⟨⟨h64, hs⟩, hb⟩, hlen⟩ := hd
    have hT := r_Tree l (by omega) (nbB_ok hb)
    rw [tree_stk, hs] at hT
    exact ⟨l, 0, hx, fun hf => by omega, fun _ => ⟨0, r_Num1 _, fun _ => ⟨true, hT, fun _ => ⟨true, r_awake2, rfl⟩, fun hf => absurd rfl hf⟩, fun hf => absurd rfl hf⟩⟩
theorem deep_loop (n : UInt8) {h : Nat} (hh : h < 6) : ∀ (m k : Nat), k + m = n.toNat % 80 → At_law2_ParseDeep_1 n (deepA h) (deepB h) ((List.replicate k (deepA h)).flatten) ((List.replicate k (deepB h)).flatten) (k : Nat) true
  | 0, k, hk => deep_end n hh k (by omega)
  | m + 1, k, hk => by
    have hn : n.toNat < 256 := n.toNat_lt
    have ih := deep_loop n hh m (k + 1) (by omega)
    have h1 := deepA_len h
    have h2 := deepB_len h
    have h3 : k * (deepA h).length ≤ 80 * 7 := Nat.mul_le_mul (by omega) h1
    have h4 : k * (deepB h).length ≤ 80 * 4 := Nat.mul_le_mul (by omega) h2
    apply At_law2_ParseDeep_1_step
    rw [tmod80]
    refine ⟨fun _ => ⟨by rw [flat_len]; simp only [maxInt]; omega, by rw [flat_len]; simp only [maxInt]; omega, ⟨by omega, by omega⟩, ?_⟩, fun hf => by omega⟩
    rw [List.replicate_succ', List.replicate_succ', List.flatten_append, List.flatten_append] at ih
    simpa using ih
theorem r_ParseDeep (n how : UInt8) : R_law2_ParseDeep n how true := by
  have hn : n.toNat < 256 := n.toNat_lt
  have e : (how.toNat : Int).tmod 6 = ((how.toNat % 6 : Nat) : Int) := by rw [Int.tmod_eq_emod_of_nonneg (by omega)]; simp
  have hh : how.toNat % 6 < 6 := Nat.mod_lt _ (by decide)
  apply law2_ParseDeep_tree
  rw [e, Int.toNat_natCast]
  generalize how.toNat % 6 = h at hh
  have g1 : ([[40], [91], [102, 40], [45], [33], [116, 114, 117, 101, 32, 63, 32]] : List (List UInt8))[h]? = some (deepA h) := by
    rcases (show h = 0 ∨ h = 1 ∨ h = 2 ∨ h = 3 ∨ h = 4 ∨ h = 5 by omega) with rfl | rfl | rfl | rfl | rfl | rfl <;> rfl
  have g2 : ([[41], [93], [41], [], [], [32, 58, 32, 48]] : List (List UInt8))[h]? = some (deepB h) := by
    rcases (show h = 0 ∨ h = 1 ∨ h = 2 ∨ h = 3 ∨ h = 4 ∨ h = 5 by omega) with rfl | rfl | rfl | rfl | rfl | rfl <;> rfl
  exact ⟨⟨by omega, by omega⟩, by omega, _, g1, by omega, _, g2, deep_loop n hh (n.toNat % 80) 0 (by omega)⟩
end Go.Proofs.YtfbcnpbhhooapaaGreatDoor.M
